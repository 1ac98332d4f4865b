import Derived.Deep.AppendLies
import Derived.Lib.SliceRun
import Derived.OrdersHeld
import Derived.Deep.RegionHeld3
import Derived.Lib.AppendZerosOnto
import Derived.Lib.Overlaps
import Derived.Maps.Own
import Derived.Maps.Views
import Derived.Test.YtakddkhipelmjaaGreatPartH1
set_option maxRecDepth 100000
set_option linter.unusedVariables false
set_option maxHeartbeats 64000000
namespace Go.Proofs.YtakddkhipelmjaaGreat
open Go.Deep Go.RowKit
def lG {α:Type} (ty:TypeId) (size:Nat) (R:World→List Value→α→Prop) (w0 w:World) (l:List α) (e:Ending) (w':World):Prop :=
 ∃ v bw,e=.returned v∧ag w w'∧w'.ownsRow w.heap.size ty size v l.length bw.flatten∧bL w0 size R bw l
theorem IQ:(Tryz.prog.info? 42).map (fun i=>(i.zero,i.size,i.bytes))=some (some (.agg #[.string ByteArray.empty,.int .i64 0,.slice none 0 0,.int .i64 0,.int .i64 0,.string ByteArray.empty,.string ByteArray.empty,.string ByteArray.empty]),8,112):=by kernel_rfl
theorem uG (A:Option Addr) (cap:Nat) (l:List fh) (w0 w:World) (ha:ag w0 w) (h:az w0 8 eG A cap l) (hb:l.length≤1000000) :
  Calls Tryz.prog 120 #[.slice A l.length cap] w (lG 42 8 eG w0 w l):=by
 obtain ⟨i0,hi,hz0,hz1,hz2⟩:=info_parts IQ
 have Pm:∀ (w:World) (a:Option Addr) (n c n' c':Nat),(binOp .eql 78 (.slice a n c) (.slice none n' c')).run Tryz.prog w=.ok (.bool a.isNone) w:=fun w a n c n' c'=>Lib.run_eql_slice_nil w _ _ a n c n' c' Tryz.underlying78
 cases A with
 | none =>
  have hl0:l=[]:=by
   cases l with
   | nil=>rfl
   | cons x l=>obtain ⟨b,off,cs,hA,_⟩:=h.2.2 0 (by simp);cases hA
  subst hl0
  go_in
  go_wp2;go_ret;exact ⟨_,[],rfl,ag.refl _,cO _ _ _ _,bL.nil⟩
 | some ad =>
  have HC:∃ bw,bL w0 8 eG bw l∧∀ p u,bw.flatten[p]? = some u→w.cell? (ad.add p)=some u:=by
   by_cases h0:0 < l.length
   ·obtain ⟨b,off,bw,hA,hb',hch,hc⟩:=h.bw h0 (by decide)
    simp only [Option.some.injEq] at hA;subst hA;refine ⟨bw,hch,fun p u hp=>?_⟩
    have hlt:p < l.length*8:=by rw [← hch.len];exact (List.getElem?_eq_some_iff.1 hp).1
    rw [kt];exact ha.cell_kept ((hc p hlt).trans hp)
   ·have hl0:l=[]:=List.eq_nil_of_length_eq_zero (by omega)
    subst hl0;exact ⟨[],bL.nil,fun p u hp=>by simp at hp⟩
  obtain ⟨bw,hch,hcell⟩:=HC;have H1:=gH hcell
  have H2:Hid (∀ u∈bw.flatten,u.oneCell'=true):=gH (by
   intro u hu;obtain ⟨c,hc,hu⟩:=List.mem_flatten.1 hu;obtain ⟨i,hi,rfl⟩:=List.getElem_of_mem hc;have h3:=(hch.2 i hi (by rw [← hch.1];exact hi)).2;obtain ⟨A2,bJ,hcs,_⟩:=h3;rw [hcs] at hu;simp only [List.mem_cons,List.not_mem_nil,or_false] at hu
   rcases hu with rfl | rfl | rfl | rfl | rfl | rfl | rfl | rfl<;>simp [Value.oneCell'])
  have H3:=gH hch;have HI:=gH hi;have jG:=gH hz0;have jt:=gH hz1;have jX:=gH hz2;clear hcell hch hi hz0 hz1 hz2 h ha
  go_in
  go_wp2_with (at_builtin;refine wpList_append_own _ rfl _ _ 78 rfl w.heap.size 42 i0 (.agg #[.string ByteArray.empty,.int .i64 0,.slice none 0 0,.int .i64 0,.int .i64 0,.string ByteArray.empty,.string ByteArray.empty,.string ByteArray.empty]) 8 112 Tryz.underlying78 HI.out jG.out jt.out jX.out rfl (by decide) _ _ _ rfl (World.ownsRow_made w #[] 0 (Nat.le_refl _) (Nat.zero_le _) rfl) ad l.length cap bw.flatten rfl ?AP ?AQ ?AR ?AU ?AW ?Ba ?_)
  case AP=>exact H3.out.len
  case AQ =>
   intro j u hj;exact Lib.cell?_alloc_some _ (H1.out j u hj)
  case AR=>exact H2.out
  case AU=>unfold maxLen;omega
  case AW=>omega
  case Ba=>simp
  intro v' w1 hown hgrow hnil;have HO:=gH hown;have HA:=gH (show ag w w1 from ((Below.refl _ w).alloc (Nat.le_refl _) _).grown hgrow (by simp) (by intro k hk;simp [Value.ownBlock] at hk;omega));clear hown hgrow hnil;go_wp2;go_ret;refine ⟨v',bw,rfl,HA.out,?_,H3.out⟩
  simpa using HO.out
theorem IR:(Tryz.prog.info? 169).map (fun i=>(i.zero,i.size,i.bytes))=some (some (.agg #[.string ByteArray.empty,.int .i64 0,.bool false]),3,32):=by kernel_rfl
theorem uF (A:Option Addr) (cap:Nat) (l:List dY) (w0 w:World) (ha:ag w0 w) (h:az w0 3 fL A cap l) (hb:l.length≤1000000) :
  Calls Tryz.prog 119 #[.slice A l.length cap] w (lG 169 3 fL w0 w l):=by
 obtain ⟨i0,hi,hz0,hz1,hz2⟩:=info_parts IR
 have Pm:∀ (w:World) (a:Option Addr) (n c n' c':Nat),(binOp .eql 39 (.slice a n c) (.slice none n' c')).run Tryz.prog w=.ok (.bool a.isNone) w:=fun w a n c n' c'=>Lib.run_eql_slice_nil w _ _ a n c n' c' Tryz.underlying39
 cases A with
 | none =>
  have hl0:l=[]:=by
   cases l with
   | nil=>rfl
   | cons x l=>obtain ⟨b,off,cs,hA,_⟩:=h.2.2 0 (by simp);cases hA
  subst hl0
  go_in
  go_wp2;go_ret;exact ⟨_,[],rfl,ag.refl _,cO _ _ _ _,bL.nil⟩
 | some ad =>
  have HC:∃ bw,bL w0 3 fL bw l∧∀ p u,bw.flatten[p]? = some u→w.cell? (ad.add p)=some u:=by
   by_cases h0:0 < l.length
   ·obtain ⟨b,off,bw,hA,hb',hch,hc⟩:=h.bw h0 (by decide)
    simp only [Option.some.injEq] at hA;subst hA;refine ⟨bw,hch,fun p u hp=>?_⟩
    have hlt:p < l.length*3:=by rw [← hch.len];exact (List.getElem?_eq_some_iff.1 hp).1
    rw [kt];exact ha.cell_kept ((hc p hlt).trans hp)
   ·have hl0:l=[]:=List.eq_nil_of_length_eq_zero (by omega)
    subst hl0;exact ⟨[],bL.nil,fun p u hp=>by simp at hp⟩
  obtain ⟨bw,hch,hcell⟩:=HC;have H1:=gH hcell
  have H2:Hid (∀ u∈bw.flatten,u.oneCell'=true):=gH (by
   intro u hu;obtain ⟨c,hc,hu⟩:=List.mem_flatten.1 hu;obtain ⟨i,hi,rfl⟩:=List.getElem_of_mem hc;have h3:=(hch.2 i hi (by rw [← hch.1];exact hi)).2;obtain ⟨hcs,_⟩:=h3;rw [hcs] at hu;simp only [List.mem_cons,List.not_mem_nil,or_false] at hu
   rcases hu with rfl | rfl | rfl<;>simp [Value.oneCell'])
  have H3:=gH hch;have HI:=gH hi;have jG:=gH hz0;have jt:=gH hz1;have jX:=gH hz2;clear hcell hch hi hz0 hz1 hz2 h ha
  go_in
  go_wp2_with (at_builtin;refine wpList_append_own _ rfl _ _ 39 rfl w.heap.size 169 i0 (.agg #[.string ByteArray.empty,.int .i64 0,.bool false]) 3 32 Tryz.underlying39 HI.out jG.out jt.out jX.out rfl (by decide) _ _ _ rfl (World.ownsRow_made w #[] 0 (Nat.le_refl _) (Nat.zero_le _) rfl) ad l.length cap bw.flatten rfl ?AP ?AQ ?AR ?AU ?AW ?Ba ?_)
  case AP=>exact H3.out.len
  case AQ =>
   intro j u hj;exact Lib.cell?_alloc_some _ (H1.out j u hj)
  case AR=>exact H2.out
  case AU=>unfold maxLen;omega
  case AW=>omega
  case Ba=>simp
  intro v' w1 hown hgrow hnil;have HO:=gH hown;have HA:=gH (show ag w w1 from ((Below.refl _ w).alloc (Nat.le_refl _) _).grown hgrow (by simp) (by intro k hk;simp [Value.ownBlock] at hk;omega));clear hown hgrow hnil;go_wp2;go_ret;refine ⟨v',bw,rfl,HA.out,?_,H3.out⟩
  simpa using HO.out
theorem IU:(Tryz.prog.info? 109).map (fun i=>(i.zero,i.size,i.bytes))=some (some (.agg #[.string ByteArray.empty,.string ByteArray.empty]),2,32):=by kernel_rfl
theorem uD (A:Option Addr) (cap:Nat) (l:List fK) (w0 w:World) (ha:ag w0 w) (h:az w0 2 eE A cap l) (hb:l.length≤1000000) :
  Calls Tryz.prog 118 #[.slice A l.length cap] w (lG 109 2 eE w0 w l):=by
 obtain ⟨i0,hi,hz0,hz1,hz2⟩:=info_parts IU
 have Pm:∀ (w:World) (a:Option Addr) (n c n' c':Nat),(binOp .eql 22 (.slice a n c) (.slice none n' c')).run Tryz.prog w=.ok (.bool a.isNone) w:=fun w a n c n' c'=>Lib.run_eql_slice_nil w _ _ a n c n' c' Tryz.underlying22
 cases A with
 | none =>
  have hl0:l=[]:=by
   cases l with
   | nil=>rfl
   | cons x l=>obtain ⟨b,off,cs,hA,_⟩:=h.2.2 0 (by simp);cases hA
  subst hl0
  go_in
  go_wp2;go_ret;exact ⟨_,[],rfl,ag.refl _,cO _ _ _ _,bL.nil⟩
 | some ad =>
  have HC:∃ bw,bL w0 2 eE bw l∧∀ p u,bw.flatten[p]? = some u→w.cell? (ad.add p)=some u:=by
   by_cases h0:0 < l.length
   ·obtain ⟨b,off,bw,hA,hb',hch,hc⟩:=h.bw h0 (by decide)
    simp only [Option.some.injEq] at hA;subst hA;refine ⟨bw,hch,fun p u hp=>?_⟩
    have hlt:p < l.length*2:=by rw [← hch.len];exact (List.getElem?_eq_some_iff.1 hp).1
    rw [kt];exact ha.cell_kept ((hc p hlt).trans hp)
   ·have hl0:l=[]:=List.eq_nil_of_length_eq_zero (by omega)
    subst hl0;exact ⟨[],bL.nil,fun p u hp=>by simp at hp⟩
  obtain ⟨bw,hch,hcell⟩:=HC;have H1:=gH hcell
  have H2:Hid (∀ u∈bw.flatten,u.oneCell'=true):=gH (by
   intro u hu;obtain ⟨c,hc,hu⟩:=List.mem_flatten.1 hu;obtain ⟨i,hi,rfl⟩:=List.getElem_of_mem hc;have h3:=(hch.2 i hi (by rw [← hch.1];exact hi)).2;obtain ⟨hcs,_⟩:=h3;rw [hcs] at hu;simp only [List.mem_cons,List.not_mem_nil,or_false] at hu
   rcases hu with rfl | rfl<;>simp [Value.oneCell'])
  have H3:=gH hch;have HI:=gH hi;have jG:=gH hz0;have jt:=gH hz1;have jX:=gH hz2;clear hcell hch hi hz0 hz1 hz2 h ha
  go_in
  go_wp2_with (at_builtin;refine wpList_append_own _ rfl _ _ 22 rfl w.heap.size 109 i0 (.agg #[.string ByteArray.empty,.string ByteArray.empty]) 2 32 Tryz.underlying22 HI.out jG.out jt.out jX.out rfl (by decide) _ _ _ rfl (World.ownsRow_made w #[] 0 (Nat.le_refl _) (Nat.zero_le _) rfl) ad l.length cap bw.flatten rfl ?AP ?AQ ?AR ?AU ?AW ?Ba ?_)
  case AP=>exact H3.out.len
  case AQ =>
   intro j u hj;exact Lib.cell?_alloc_some _ (H1.out j u hj)
  case AR=>exact H2.out
  case AU=>unfold maxLen;omega
  case AW=>omega
  case Ba=>simp
  intro v' w1 hown hgrow hnil;have HO:=gH hown;have HA:=gH (show ag w w1 from ((Below.refl _ w).alloc (Nat.le_refl _) _).grown hgrow (by simp) (by intro k hk;simp [Value.ownBlock] at hk;omega));clear hown hgrow hnil;go_wp2;go_ret;refine ⟨v',bw,rfl,HA.out,?_,H3.out⟩
  simpa using HO.out
theorem IV:(Tryz.prog.info? 9).map (fun i=>(i.zero,i.size,i.bytes))=some (some (.string ByteArray.empty),1,16):=by kernel_rfl
theorem ko (A:Option Addr) (cap:Nat) (l:List ByteArray) (w0 w:World) (ha:ag w0 w) (h:az w0 1 dC A cap l) (hb:l.length≤1000000) :
  Calls Tryz.prog 121 #[.slice A l.length cap] w (lG 9 1 dC w0 w l):=by
 obtain ⟨i0,hi,hz0,hz1,hz2⟩:=info_parts IV
 have Pm:∀ (w:World) (a:Option Addr) (n c n' c':Nat),(binOp .eql 26 (.slice a n c) (.slice none n' c')).run Tryz.prog w=.ok (.bool a.isNone) w:=fun w a n c n' c'=>Lib.run_eql_slice_nil w _ _ a n c n' c' Tryz.underlying26
 cases A with
 | none =>
  have hl0:l=[]:=by
   cases l with
   | nil=>rfl
   | cons x l=>obtain ⟨b,off,cs,hA,_⟩:=h.2.2 0 (by simp);cases hA
  subst hl0
  go_in
  go_wp2;go_ret;exact ⟨_,[],rfl,ag.refl _,cO _ _ _ _,bL.nil⟩
 | some ad =>
  have HC:∃ bw,bL w0 1 dC bw l∧∀ p u,bw.flatten[p]? = some u→w.cell? (ad.add p)=some u:=by
   by_cases h0:0 < l.length
   ·obtain ⟨b,off,bw,hA,hb',hch,hc⟩:=h.bw h0 (by decide)
    simp only [Option.some.injEq] at hA;subst hA;refine ⟨bw,hch,fun p u hp=>?_⟩
    have hlt:p < l.length*1:=by rw [← hch.len];exact (List.getElem?_eq_some_iff.1 hp).1
    rw [kt];exact ha.cell_kept ((hc p hlt).trans hp)
   ·have hl0:l=[]:=List.eq_nil_of_length_eq_zero (by omega)
    subst hl0;exact ⟨[],bL.nil,fun p u hp=>by simp at hp⟩
  obtain ⟨bw,hch,hcell⟩:=HC;have H1:=gH hcell
  have H2:Hid (∀ u∈bw.flatten,u.oneCell'=true):=gH (by
   intro u hu;obtain ⟨c,hc,hu⟩:=List.mem_flatten.1 hu;obtain ⟨i,hi,rfl⟩:=List.getElem_of_mem hc;have h3:=(hch.2 i hi (by rw [← hch.1];exact hi)).2;obtain ⟨hcs,_⟩:=h3;rw [hcs] at hu;simp only [List.mem_cons,List.not_mem_nil,or_false] at hu
   rcases hu with rfl<;>simp [Value.oneCell'])
  have H3:=gH hch;have HI:=gH hi;have jG:=gH hz0;have jt:=gH hz1;have jX:=gH hz2;clear hcell hch hi hz0 hz1 hz2 h ha
  go_in
  go_wp2_with (at_builtin;refine wpList_append_own _ rfl _ _ 26 rfl w.heap.size 9 i0 (.string ByteArray.empty) 1 16 Tryz.underlying26 HI.out jG.out jt.out jX.out rfl (by decide) _ _ _ rfl (World.ownsRow_made w #[] 0 (Nat.le_refl _) (Nat.zero_le _) rfl) ad l.length cap bw.flatten rfl ?AP ?AQ ?AR ?AU ?AW ?Ba ?_)
  case AP=>exact H3.out.len
  case AQ =>
   intro j u hj;exact Lib.cell?_alloc_some _ (H1.out j u hj)
  case AR=>exact H2.out
  case AU=>unfold maxLen;omega
  case AW=>omega
  case Ba=>simp
  intro v' w1 hown hgrow hnil;have HO:=gH hown;have HA:=gH (show ag w w1 from ((Below.refl _ w).alloc (Nat.le_refl _) _).grown hgrow (by simp) (by intro k hk;simp [Value.ownBlock] at hk;omega));clear hown hgrow hnil;go_wp2;go_ret;refine ⟨v',bw,rfl,HA.out,?_,H3.out⟩
  simpa using HO.out
structure fu where
 r:fh
 h:Hd
def fu.cells (x:fu):List Value:=DR x.r x.h
structure bA where
 af:ByteArray
 name:ByteArray
 owner:ByteArray
 au:List dY
 rules:List fu
 hc:Hd
 hr:Hd
def bA.t (x:bA):bW:=⟨x.af,x.name,x.owner,x.au,x.rules.map (·.r)⟩
def bA.cells (x:bA):List Value:=[.string x.af,.string x.name,.string x.owner,x.hc.v,x.hr.v]
def bA.gu (x:bA):List Nat:=x.hc.blk++(x.hr.blk++x.rules.flatMap (·.h.blk))
structure lI (w:World) (B:Nat) (x:fu):Prop where
 kw:w.ownsRow B 9 1 x.h.v x.r.au.length (x.r.au.flatMap cB)
structure ey (w:World) (B:Nat) (x:bA):Prop where
 zt:w.ownsRow B 169 3 x.hc.v x.au.length (x.au.flatMap DO)
 wQ:w.ownsRow B 42 8 x.hr.v x.rules.length (x.rules.flatMap fu.cells)
 each:∀ r∈x.rules,lI w B r
structure dw (w:World) (B:Nat) (hs ht:Hd) (ss:List fK) (L:List bA):Prop where
 fS:w.ownsRow B 109 2 hs.v ss.length (ss.flatMap iO)
 tab:w.ownsRow B 80 5 ht.v L.length (L.flatMap bA.cells)
 each:∀ x∈L,ey w B x
 nd:(hs.blk++(ht.blk++L.flatMap bA.gu)).Nodup
theorem lI.kb {P:Nat→Prop} {w w':World} {B:Nat} {x:fu} (h:lI w B x) (k:Kb P w w') (hne:∀ g∈x.h.blk,¬ P g):lI w' B x:=⟨br h.kw k fun g hg=>hne g (Hd.bj.2 hg)⟩
theorem ey.kb {P:Nat→Prop} {w w':World} {B:Nat} {x:bA} (h:ey w B x) (k:Kb P w w') (hne:∀ g∈x.gu,¬ P g):ey w' B x :=
 ⟨br h.zt k fun g hg=>hne g (by unfold bA.gu;simp [Hd.bj.2 hg]),br h.wQ k fun g hg=>hne g (by unfold bA.gu;simp [Hd.bj.2 hg]),
 fun r hr=>(h.each r hr).kb k fun g hg=>hne g (by unfold bA.gu;simp only [List.mem_append,List.mem_flatMap];exact .inr (.inr ⟨r,hr,hg⟩))⟩
theorem dw.kb {P:Nat→Prop} {w w':World} {B:Nat} {hs ht:Hd} {ss:List fK} {L:List bA} (h:dw w B hs ht ss L) (k:Kb P w w') (hne:∀ g∈hs.blk++(ht.blk++L.flatMap bA.gu),¬ P g):dw w' B hs ht ss L :=
 ⟨br h.fS k fun g hg=>hne g (by simp [Hd.bj.2 hg]),br h.tab k fun g hg=>hne g (by simp [Hd.bj.2 hg]),
 fun x hx=>(h.each x hx).kb k fun g hg=>hne g (by simp only [List.mem_append,List.mem_flatMap];exact .inr (.inr ⟨x,hx,hg⟩)),h.nd⟩
theorem ey.aA {w w':World} {B:Nat} {x:bA} (h:ey w B x) (a:ag w w'):ey w' B x:=h.kb (P:=fun _=>False) (Kb.aO a) fun _ _ h=>h
theorem dw.aA {w w':World} {B:Nat} {hs ht:Hd} {ss:List fK} {L:List bA} (h:dw w B hs ht ss L) (a:ag w w'):dw w' B hs ht ss L:=h.kb (P:=fun _=>False) (Kb.aO a) fun _ _ h=>h
theorem fG {w:World} {B size n:Nat} {e:TypeId} {h:Hd} {xs:List Value} (o:w.ownsRow B e size h.v n xs):∀ g∈h.blk,B≤g∧g < w.heap.size:=fun g hg=>o.lt g (Hd.bj.1 hg)
theorem ey.lt {w:World} {B:Nat} {x:bA} (h:ey w B x):∀ g∈x.gu,B≤g∧g < w.heap.size:=by
 intro g hg;unfold bA.gu at hg;simp only [List.mem_append,List.mem_flatMap] at hg
 rcases hg with hg | hg | ⟨r,hr,hg⟩
 ·exact fG h.zt g hg
 ·exact fG h.wQ g hg
 ·exact fG (h.each r hr).kw g hg
theorem dw.lt {w:World} {B:Nat} {hs ht:Hd} {ss:List fK} {L:List bA} (h:dw w B hs ht ss L):∀ g∈hs.blk++(ht.blk++L.flatMap bA.gu),B≤g∧g < w.heap.size:=by
 intro g hg;simp only [List.mem_append,List.mem_flatMap] at hg
 rcases hg with hg | hg | ⟨x,hx,hg⟩
 ·exact fG h.fS g hg
 ·exact fG h.tab g hg
 ·exact (h.each x hx).lt g hg
theorem lI.down {w:World} {B B':Nat} {x:fu} (h:lI w B x) (hb:B'≤B):lI w B' x:=⟨bM h.kw hb⟩
theorem ey.down {w:World} {B B':Nat} {x:bA} (h:ey w B x) (hb:B'≤B):ey w B' x:=⟨bM h.zt hb,bM h.wQ hb,fun r hr=>(h.each r hr).down hb⟩
theorem dw.down {w:World} {B B':Nat} {hs ht:Hd} {ss:List fK} {L:List bA} (h:dw w B hs ht ss L) (hb:B'≤B):dw w B' hs ht ss L:=⟨bM h.fS hb,bM h.tab hb,fun x hx=>(h.each x hx).down hb,h.nd⟩
def Pz (r:fh):Prop:=Small (r.au.length*16)∧(∀ s∈r.au,Small s.size)∧Small r.name.size∧Small r.af.size∧Small r.table.size∧Small r.key.size
def tA (t:bW):Prop:=(Small (t.au.length*16)∧∀ c∈t.au,Small c.name.size)∧(Small (t.rules.length*16)∧∀ r∈t.rules,Pz r)∧Small t.af.size∧Small t.name.size∧Small t.owner.size
def SmS (l:List fK):Prop:=Small (l.length*16)∧∀ s∈l,Small s.name.size∧Small s.owner.size
def oH (o:bE):Prop:=SmS o.ae∧Small (o.tables.length*16)∧∀ t∈o.tables,tA t
theorem jM {α:Type} {w:World} {size:Nat} {R:World→List Value→α→Prop} {A:Option Addr} {cap:Nat} {l:List α} (h:az w size R A cap l) {P:α→Prop} (hp:∀ cs x,R w cs x→P x):Small (l.length*16)∧∀ x∈l,P x:=by
 refine ⟨h.2.1,fun x hx=>?_⟩;obtain ⟨i,hi,rfl⟩:=List.getElem_of_mem hx;obtain ⟨b,off,cs,_,_,_,hR,_⟩:=h.2.2 i hi;exact hp cs _ hR
theorem iq {w:World} {A:Option Addr} {cap:Nat} {l:List ByteArray} (h:az w 1 dC A cap l):Small (l.length*16)∧∀ s∈l,Small s.size:=jM h fun _ _ h=>h.2
theorem Dh {w:World} {A:Option Addr} {cap:Nat} {l:List dY} (h:az w 3 fL A cap l):Small (l.length*16)∧∀ c∈l,Small c.name.size:=jM h fun _ _ h=>h.2
theorem vC {w:World} {A:Option Addr} {cap:Nat} {l:List fK} (h:az w 2 eE A cap l):SmS l:=jM h fun _ _ h=>h.2
theorem P5 {w:World} {cs:List Value} {r:fh} (h:eG w cs r):Pz r:=by
 obtain ⟨A,cap,_,hs,h1⟩:=h;exact ⟨(iq hs).1,(iq hs).2,h1⟩
theorem LY {w:World} {A:Option Addr} {cap:Nat} {l:List fh} (h:az w 8 eG A cap l):Small (l.length*16)∧∀ r∈l,Pz r:=jM h fun _ _ h=>P5 h
theorem P6 {w:World} {cs:List Value} {t:bW} (h:dE w cs t):tA t:=by
 obtain ⟨A,cap,A2,bJ,_,hs,hr,h1⟩:=h;exact ⟨Dh hs,LY hr,h1⟩
theorem vD {w:World} {A:Option Addr} {cap:Nat} {l:List bW} (h:az w 5 dE A cap l):Small (l.length*16)∧∀ t∈l,tA t:=jM h fun _ _ h=>P6 h
theorem lI.YE {w:World} {B:Nat} {x:fu} (h:lI w B x) (hs:Pz x.r):eG w x.cells x.r :=
 ⟨x.h.a,x.h.c,by unfold fu.cells DR;rw [dm h.kw],dS cB h.kw (fun s hm=>⟨rfl,rfl,hs.2.1 s hm⟩) hs.1,hs.2.2⟩
theorem ey.au {w:World} {B:Nat} {x:bA} (h:ey w B x) (hs:tA x.t):az w 3 fL x.hc.a x.hc.c x.au :=
 dS DO h.zt (fun c hm=>⟨rfl,rfl,hs.1.2 c hm⟩) hs.1.1
theorem yB {α β:Type} {w:World} {size:Nat} {R:World→List Value→β→Prop} (f:α→List Value) (g:α→β) (l:List α) (hf:∀ x∈l,(f x).length=size∧R w (f x) (g x)):bL w size R (l.map f) (l.map g) :=
 ⟨by simp,fun i h h'=>by
  have hi:i < l.length:=by simpa using h
  simpa using hf l[i] (List.getElem_mem hi)⟩
theorem Ds {α β:Type} {w:World} {B size:Nat} {e:TypeId} {h:Hd} {l:List α} {R:World→List Value→β→Prop} (f:α→List Value) (g:α→β) (o:w.ownsRow B e size h.v l.length (l.flatMap f)) (hf:∀ x∈l,(f x).length=size∧R w (f x) (g x)) (hs:Small (l.length*16)):az w size R h.a h.c (l.map g) :=
 zq (bw:=l.map f) (by rw [← List.flatMap_def,List.length_map];exact o) (yB f g l hf) (by simpa using hs)
theorem ey.YF {w:World} {B:Nat} {x:bA} (h:ey w B x) (hs:tA x.t):az w 8 eG x.hr.a x.hr.c (x.rules.map (·.r)) :=
 Ds fu.cells (·.r) h.wQ (fun r hm=>⟨rfl,(h.each r hm).YE (hs.2.1.2 r.r (List.mem_map_of_mem hm))⟩) (by simpa [bA.t] using hs.2.1.1)
theorem ey.fD {w:World} {B:Nat} {x:bA} (h:ey w B x) (hs:tA x.t):dE w x.cells x.t :=
 ⟨x.hc.a,x.hc.c,x.hr.a,x.hr.c,by unfold bA.cells;rw [dm h.zt,dm h.wQ];simp [bA.t],h.au hs,h.YF hs,hs.2.2⟩
def nR (ss:List fK) (L:List bA):bE:=⟨ss,L.map bA.t⟩
theorem dw.OU {w:World} {B:Nat} {hs ht:Hd} {ss:List fK} {L:List bA} (h:dw w B hs ht ss L) (sm:oH (nR ss L)):az w 2 eE hs.a hs.c ss :=
 dS iO h.fS (fun s hm=>⟨rfl,rfl,sm.1.2 s hm⟩) sm.1.1
theorem dw.tabs {w:World} {B:Nat} {hs ht:Hd} {ss:List fK} {L:List bA} (h:dw w B hs ht ss L) (sm:oH (nR ss L)):az w 5 dE ht.a ht.c (L.map bA.t) :=
 Ds bA.cells bA.t h.tab (fun x hm=>⟨rfl,(h.each x hm).fD (sm.2.2 _ (List.mem_map_of_mem hm))⟩) (by simpa [nR] using sm.2.1)
theorem dV {w:World} {B size n:Nat} {e:TypeId} {v:Value} {xs:List Value} (o:w.ownsRow B e size v n xs):∃ A cap,v=.slice A n cap:=by
 obtain ⟨h,hv,hn⟩:=qO o;exact ⟨h.a,h.c,by rw [hv,← hn];rfl⟩
theorem ew {α:Type} {w:World} {size:Nat} {R:World→List Value→α→Prop} {f:α→List Value} (hf:∀ cs x,R w cs x→cs=f x):∀ {bw:List (List Value)} {l:List α},bL w size R bw l→bw.flatten=l.flatMap f:=by
 intro bw l h
 have:bw=l.map f:=by
  refine List.ext_getElem (by rw [h.1];simp) fun i h1 h2=>?_
  have hi:i < l.length:=by simpa using h2
  rw [List.getElem_map];exact hf _ _ (h.2 i h1 hi).2
 rw [this,List.flatMap_def]
theorem uH {w:World} {bw:List (List Value)} {l:List dY} (h:bL w 3 fL bw l):bw.flatten=l.flatMap DO:=ew (fun _ _ h=>h.1) h
theorem jg {w:World} {bw:List (List Value)} {l:List ByteArray} (h:bL w 1 dC bw l):bw.flatten=l.flatMap cB:=ew (fun _ _ h=>h.1) h
theorem uE {w:World} {bw:List (List Value)} {l:List fK} (h:bL w 2 eE bw l):bw.flatten=l.flatMap iO:=ew (fun _ _ h=>h.1) h
theorem uI {w:World} {bw:List (List Value)} {l:List fh} (h:bL w 8 eG bw l):∃ L:List fu,L.map (·.r)=l∧bw=L.map fu.cells∧∀ x∈L,x.h.n=x.r.au.length∧az w 1 dC x.h.a x.h.c x.r.au:=by
 have hex:∀ i,i < l.length→∃ x:fu,∀ (hi:i < l.length) (hc:i < bw.length),x.r=l[i]∧bw[i]=x.cells∧x.h.n=x.r.au.length∧az w 1 dC x.h.a x.h.c x.r.au:=by
  intro i hi
  have hc:i < bw.length:=by rw [h.1];exact hi
  obtain ⟨_,A,cap,hcs,hs,_⟩:=h.2 i hc hi;exact ⟨⟨l[i],A,l[i].au.length,cap⟩,fun _ _=>⟨rfl,hcs,rfl,hs⟩⟩
 obtain ⟨L,hL,hp⟩:=lg l.length _ hex;refine ⟨L,?_,?_,?_⟩
 ·refine List.ext_getElem (by simp [hL]) fun i h1 h2=>?_
  rw [List.getElem_map];exact (hp i (by simpa using h1) h2 (by rw [h.1];exact h2)).1
 ·refine List.ext_getElem (by simp [hL,h.1]) fun i h1 h2=>?_
  rw [List.getElem_map]
  have hi:i < L.length:=by simpa using h2
  exact (hp i hi (by omega) h1).2.1
 ·intro x hx
  obtain ⟨i,hi,rfl⟩:=List.getElem_of_mem hx;exact (hp i hi (by omega) (by rw [h.1];omega)).2.2
theorem cp {α:Type} {f:α→List Value} {size:Nat} (hf:∀ x,(f x).length=size) (l:List α):(l.flatMap f).length=l.length*size:=by
 rw [List.flatMap_def,qN _ (by intro c hc;obtain ⟨x,_,rfl⟩:=List.mem_map.1 hc;exact hf x),List.length_map]
theorem iy {α:Type} {f:α→List Value} {size:Nat} (hf:∀ x,(f x).length=size) (l:List α) (k j:Nat) (hk:k < l.length) (hj:j < size) (u:Value) (y:α) (hy:f y=(f l[k]).set j u):(l.flatMap f).set (k*size+j) u=(l.set k y).flatMap f:=by
 rw [List.flatMap_def,List.flatMap_def,wP _ (by intro c hc;obtain ⟨x,_,rfl⟩:=List.mem_map.1 hc;exact hf x) k j (by simpa using hk) u hj,List.map_set]
 congr 1
 rw [hy];simp
theorem jf {l m:List Nat} {N:Nat} (h:l.Nodup) (hm:m.Nodup) (h1:∀ g∈l,g < N) (h2:∀ g∈m,N≤g):(l++m).Nodup :=
 List.nodup_append.2 ⟨h,hm,fun a ha b hb e=>by have:=h1 a ha;have:=h2 b hb;omega⟩
theorem eV (h:Hd):h.blk.Nodup:=by
 obtain ⟨a,n,c⟩:=h
 cases a<;>simp [Hd.blk]
theorem im (n c:Nat):(Hd.mk none n c).blk=[]:=rfl
theorem fP (p:Addr) (n c:Nat):(Hd.mk (some p) n c).blk=[p.block]:=rfl
theorem uJ {w:World} {B size n:Nat} {e:TypeId} {h:Hd} {xs:List Value} (o:w.ownsRow B e size h.v n xs) (hn:0 < n):∃ g,h.a=some ⟨g,0,none⟩∧B≤g∧ai w g xs:=by
 obtain ⟨g,cap,hv,hb,_,hr⟩:=bU o hn;unfold Hd.v at hv;simp only [Value.slice.injEq] at hv;exact ⟨g,hv.1,hb,hr⟩
theorem z8 {α:Type} {f:α→List Value} (hf:∀ x,∀ u∈f x,u.oneCell'=true) (l:List α):∀ u∈l.flatMap f,u.oneCell'=true:=by
 intro u hu;obtain ⟨x,_,hu⟩:=List.mem_flatMap.1 hu;exact hf x u hu
theorem xE (s:fK):∀ u∈iO s,u.oneCell'=true:=by intro u hu;simp only [iO,List.mem_cons,List.not_mem_nil,or_false] at hu;rcases hu with rfl | rfl<;>simp [Value.oneCell']
theorem xH:(Tryz.prog.info? 80).map (fun i=>(i.zero,i.size,i.bytes))=some (some (.agg #[.string ByteArray.empty,.string ByteArray.empty,.string ByteArray.empty,.slice none 0 0,.slice none 0 0]),5,96):=by kernel_rfl
theorem Eo:(Tryz.prog.info? 109).map (fun i=>(i.zero,i.size,i.bytes))=some (some (.agg #[.string ByteArray.empty,.string ByteArray.empty]),2,32):=by kernel_rfl
theorem EY:(Tryz.prog.info? 9).map (fun i=>(i.zero,i.size,i.bytes))=some (some (.string ByteArray.empty),1,16):=by kernel_rfl
def UD (w:World) (t:bW) (e:Ending) (w':World):Prop :=
 ∃ x:bA,x.t=t∧e=.returned (.agg #[.string t.af,.string t.name,.string t.owner,.slice x.hc.a t.au.length x.hc.c,.slice x.hr.a t.rules.length x.hr.c])∧ag w w'∧ey w' w.heap.size x∧x.gu.Nodup
def YG (w:World) (o:bE) (e:Ending) (w':World):Prop :=
 ∃ hs ht L,L.map bA.t=o.tables∧e=.returned (.agg #[.slice hs.a o.ae.length hs.c,.slice ht.a o.tables.length ht.c])∧ag w w'∧dw w' w.heap.size hs ht o.ae L
def OW (o:bE):Prop:=o.ae.length≤1000000∧o.tables.length≤1000000∧∀ t∈o.tables,t.au.length≤1000000∧t.rules.length≤1000000∧∀ r∈t.rules,r.au.length≤1000000
def nk:List Value→Nat→List Value→List Value
 | xs,_,[]=>xs
 | xs,o,v::r=>nk (xs.set o v) (o+1) r
theorem lL:∀ (vs xs:List Value) (o:Nat),(nk xs o vs).length=xs.length
 | [],xs,o=>rfl
 | v::r,xs,o=>by rw [nk,lL r];simp
theorem iX:∀ (vs xs:List Value) (o:Nat),o+vs.length≤xs.length→nk xs o vs=xs.take o++vs++xs.drop (o+vs.length)
 | [],xs,o,h=>by simp [nk]
 | v::r,xs,o,h=>by
  simp only [List.length_cons] at h;rw [nk,iX r (xs.set o v) (o+1) (by simp;omega)]
  have e1:(xs.set o v).take (o+1)=xs.take o++[v]:=by
   rw [List.take_succ_eq_append_getElem (by simp;omega)];simp [List.take_set_of_le]
  have e2:(xs.set o v).drop (o+1+r.length)=xs.drop (o+(r.length+1)):=by
   rw [List.drop_set_of_lt (by omega)]
   congr 1;omega
  rw [e1,e2];simp
theorem dl {B size n:Nat} {e:TypeId} {v:Value} {g:Nat} (hg:v.ownBlock=some g):∀ (vs:List Value) {w:World} {xs:List Value} (o:Nat),w.ownsRow B e size v n xs→(w.setCells g o vs).ownsRow B e size v n (nk xs o vs)
 | [],w,xs,o,h=>h
 | u::r,w,xs,o,h=>dl hg r (o+1) (ku h hg o u)
theorem dL (g:Nat):∀ (vs:List Value) (w:World) (o:Nat),Kb (fun k=>k=g) w (w.setCells g o vs)
 | [],w,o=>Kb.refl _ _
 | u::r,w,o=>(Kb.set w g o u).trans (dL g r _ (o+1))
theorem vN {w:World} {B size n m cap:Nat} {e:TypeId} {A:Option Addr} {xs:List Value} (h:w.ownsRow B e size (.slice A n cap) n xs) (hm:m≤n):w.ownsRow B e size (.slice A m cap) m (xs.take (m*size)):=by
 have hl:m*size≤n*size:=Nat.mul_le_mul_right _ hm;refine ⟨by rw [List.length_take,h.1];omega,?_⟩
 rcases h.2 with ⟨hv,hn⟩ | ⟨g,cap',cur,hv,hb,qL,pV,hcm,hcs,Oo⟩
 ·simp only [Value.slice.injEq] at hv
  exact .inl ⟨by rw [hv.1,hv.2.2];congr 1;omega,by omega⟩
 ·simp only [Value.slice.injEq,true_and] at hv
  refine .inr ⟨g,cap',cur,by rw [hv.1,hv.2],hb,qL,by omega,hcm,hcs,?_⟩;rw [← Oo,List.take_take]
  congr 1;omega
theorem tK (z:Array Value):(Builtin.zeroCells z 1).toList=z.toList:=by
 simp only [Builtin.zeroCells,Nat.one_mul];apply List.ext_getElem
 ·simp
 ·intro i h1 h2
  have hi:i < z.size:=by simpa using h2
  simp [Nat.mod_eq_of_lt hi,getElem!_pos z i hi]
theorem tL {P:Program} (w:World) (t e ty:TypeId) (z:Value) (ht:P.underlying t=some (.slice e)) (hv:∀ w,(zeroValue e).run P w=.ok z w) (h1:∀ u∈z.cells.toList,u.oneCell'=true) (b o c:Nat)
  (hc:∀ j,j < z.cells.toList.length→(w.cell? ⟨b,o+j,none⟩).isSome=true) (hf:∀ j,j < z.cells.toList.length→w.frozen? ⟨b,o+j,none⟩=false) :
  (Builtin.clear_ #[t] ty #[.slice (some ⟨b,o,none⟩) 1 c]).run P w=.ok (.tuple #[]) (w.setCells b o z.cells.toList):=by
 have hst:=run_storeCells_cells (P:=P) b o z.cells.toList 0 w (by simpa using hc) (by simpa using hf) h1;simp only [Nat.add_zero] at hst;simp only [Builtin.clear_,List.getElem?_toArray,List.getElem?_cons_zero,Sem.run_bind,run_underlying ht,Result.andThen_ok,hv,tK,hst,Sem.run_pure]
theorem kG {α:Type} {f:α→List Value} {size:Nat} (hf:∀ x,(f x).length=size) (l:List α) (i:Nat):(l.flatMap f).take (i*size)=(l.take i).flatMap f:=by
 induction l generalizing i with
 | nil=>simp
 | cons x l ih =>
  cases i with
  | zero=>simp
  | succ i =>
   have e:(i+1)*size=(f x).length+i*size:=by rw [hf,Nat.succ_mul];omega
   rw [List.flatMap_cons,e,List.take_length_add_append,ih];simp
theorem wm {α:Type} {f:α→List Value} {size:Nat} (hf:∀ x,(f x).length=size) (l:List α) (i:Nat):(l.flatMap f).drop (i*size)=(l.drop i).flatMap f:=by
 induction l generalizing i with
 | nil=>simp
 | cons x l ih =>
  cases i with
  | zero=>simp
  | succ i =>
   have e:(i+1)*size=(f x).length+i*size:=by rw [hf,Nat.succ_mul];omega
   rw [List.flatMap_cons,e,List.drop_length_add_append,ih];simp
theorem tD {α:Type} {f:α→List Value} {size:Nat} (hf:∀ x,(f x).length=size) (l:List α) (i:Nat):(l.flatMap f).take (i*size)++(l.flatMap f).drop ((i+1)*size)=(l.eraseIdx i).flatMap f:=by
 rw [kG hf,wm hf,List.eraseIdx_eq_take_drop_succ,List.flatMap_append]
def UE (ty:TypeId) (size:Nat) (w:World) (B g cap i m:Nat) (xs:List Value) (e:Ending) (w':World):Prop :=
 e=.returned (.slice (some ⟨g,0,none⟩) (i+m) cap)∧w'.ownsRow B ty size (.slice (some ⟨g,0,none⟩) (i+m) cap) (i+m) (xs.take (i*size)++xs.drop ((i+1)*size))∧Kb (fun k=>k=g) w w'
theorem LZ {w:World} {B size g cap i m:Nat} {e:TypeId} {xs z:List Value} (ho:w.ownsRow B e size (.slice (some ⟨g,0,none⟩) (i+1+m) cap) (i+1+m) xs) (hz:z.length=size) :
  ((w.setCells g (i*size) (xs.drop ((i+1)*size))).setCells g ((i+m)*size) z).ownsRow B e size (.slice (some ⟨g,0,none⟩) (i+m) cap) (i+m) (xs.take (i*size)++xs.drop ((i+1)*size)):=by
 have hx:=ho.1
 have e0:(i+1+m)*size=i*size+size+m*size:=by rw [Nat.add_mul,Nat.succ_mul]
 have e1:(i+1)*size=i*size+size:=Nat.succ_mul _ _;have e2:(i+m)*size=i*size+m*size:=Nat.add_mul _ _ _;have h1:=dl (g:=g) rfl z ((i+m)*size) (dl (g:=g) rfl (xs.drop ((i+1)*size)) (i*size) ho);have h2:=vN h1 (m:=i+m) (by omega)
 have hd:(xs.drop ((i+1)*size)).length=m*size:=by rw [List.length_drop,hx];omega
 have e3:(nk (nk xs (i*size) (xs.drop ((i+1)*size))) ((i+m)*size) z).take ((i+m)*size)=xs.take (i*size)++xs.drop ((i+1)*size):=by
  rw [iX z _ _ (by rw [lL,hx,hz];omega),List.append_assoc,List.take_append_of_le_length (by rw [List.length_take,lL,hx];omega),List.take_take,Nat.min_self,iX _ _ _ (by rw [hd,hx];omega)];rw [List.take_append_of_le_length (by rw [List.length_append,hd,List.length_take,hx];omega)];rw [List.take_of_length_le (by rw [List.length_append,hd,List.length_take,hx];omega)]
 rw [e3] at h2;exact h2
theorem il (z:Array Value) (n:Nat):(Builtin.zeroCells z n).toList.length=n*z.size:=by simp [Builtin.zeroCells]
theorem tM {z:Array Value} {n:Nat} {u:Value} (h:u∈(Builtin.zeroCells z n).toList):u∈z.toList:=by
 simp only [Builtin.zeroCells] at h;obtain ⟨i,hi,rfl⟩:=List.getElem_of_mem h
 have qs:i < n*z.size:=by simpa using hi
 have hz:0 < z.size:=by
  rcases Nat.eq_zero_or_pos z.size with h | h
  ·rw [h] at qs;simp at qs
  ·exact h
 simp [getElem!_pos z (i % z.size) (Nat.mod_lt _ hz)]
theorem jD {P:Program} (w:World) (t e ty:TypeId) (z:Value) (ht:P.underlying t=some (.slice e)) (hv:∀ w,(zeroValue e).run P w=.ok z w) (h1:∀ u∈z.cells.toList,u.oneCell'=true) (b o c n:Nat) (hn:0 < n)
  (hc:∀ j,j < n*z.cells.size→(w.cell? ⟨b,o+j,none⟩).isSome=true) (hf:∀ j,j < n*z.cells.size→w.frozen? ⟨b,o+j,none⟩=false) :
  (Builtin.clear_ #[t] ty #[.slice (some ⟨b,o,none⟩) n c]).run P w=.ok (.tuple #[]) (w.setCells b o (Builtin.zeroCells z.cells n).toList):=by
 have hst:=run_storeCells_cells (P:=P) b o (Builtin.zeroCells z.cells n).toList 0 w (by rw [il];simpa using hc) (by rw [il];simpa using hf) (fun u hu=>h1 u (tM hu));simp only [Nat.add_zero] at hst;obtain ⟨m,rfl⟩:∃ m,n=m+1:=⟨n - 1,by omega⟩;simp only [Builtin.clear_,List.getElem?_toArray,List.getElem?_cons_zero,Sem.run_bind,run_underlying ht,Result.andThen_ok,hv,hst,Sem.run_pure]
section
variable {P : Program} {ops : Array Oper} {Q : Exit → Act → World → Prop} {md : Region.Mode} {T : World → Prop} {m : Nat}
def wpAnyS (P:Program) (md:Region.Mode) (ops:Array Oper) (Q:Exit→Act→World→Prop) (T:World→Prop) (m:Nat):Nat→Array Bool→Act→World→Prop
 | 0,listed,a,w=>Region.ready md ops listed=[]∧Q .normal a w
 | fuel+1,listed,a,w =>
  (Region.ready md ops listed=[]→Q .normal a w) ∧
  ∀ i∈Region.ready md ops listed,wpOp P ops Q i (fun a' w'=>((listed.setIfInBounds i true).getD m false=false→T w')∧wpAnyS P md ops Q T m fuel (listed.setIfInBounds i true) a' w') a w
theorem sq:∀ (fuel:Nat) (listed:Array Bool) (a:Act) (w:World),wpAnyS P md ops Q T m fuel listed a w→wpAny P md ops Q fuel listed a w
 | 0,_,_,_,h=>h
 | fuel+1,_,_,_,h=>⟨h.1,fun i hi=>wpOp_mono (fun a' w' h'=>sq fuel _ a' w' h'.2) (h.2 i hi)⟩
theorem ji {listed:Array Bool} {i j:Nat} (d:Bool) (h:i≠j):(listed.setIfInBounds i true).getD j d=listed.getD j d:=by
 simp [Array.getElem?_setIfInBounds_ne h]
theorem wpAnyS_first {i:Nat} {oi:Oper} {v:Value} (hi:ops[i]? = some oi) (BG:∀ (j:Nat) (o:Oper) cs b,ops[j]? = some o→o.op≠.select cs b)
  (hQ:∀ c a w,Q (.panic c) (a.put oi.dst v) w→Q (.panic c) a w) (hne:i≠m) (hm:∀ om,ops[m]? = some om→∃ e∈om.after,Region.binds md e=true∧e.on=i) :
  ∀ (fuel:Nat) (listed:Array Bool) (a:Act) (w:World),
   (∀ j oj,ops[j]? = some oj→j≠i→listed.getD j true=false→(∀ e∈oj.after,Region.binds md e=true→e.on≠i)→oi.apart ops oj=true) →
   i∈Region.ready md ops listed→YieldsIf P ops T oi v a→T w→listed.getD m false=false →
   wpAnyS P md ops Q T m fuel (listed.setIfInBounds i true) (a.put oi.dst v) w→wpAnyS P md ops Q T m (fuel+1) listed a w:=by
 intro fuel
 induction fuel with
 | zero =>
  intro listed a w _ hr hy hS TU H;refine ⟨fun h=>(by rw [h] at hr;cases hr),fun j hj=>?_⟩;by_cases FQ:j=i
  ·subst FQ;exact hy.wpOp hi hS ⟨fun _=>hS,H⟩
  ·have:=ready_mono hj FQ
   rw [H.1] at this
   cases this
 | succ fuel ih =>
  intro listed a w NN hr hy hS TU H;refine ⟨fun h=>(by rw [h] at hr;cases hr),fun j hj=>?_⟩;by_cases FQ:j=i
  ·subst FQ;exact hy.wpOp hi hS ⟨fun _=>hS,H⟩
  ·have h1:=H.2 j (ready_mono hj FQ)
   obtain ⟨UF,oj,Wf,hall⟩:=mem_ready.1 hj
   have UG:∀ e∈oj.after,Region.binds md e=true→e.on≠i:=fun e he hb heq=>by
    have h1:=hall e he hb;have h0:=(mem_ready.1 hr).1;rw [heq] at h1
    rcases Nat.lt_or_ge i listed.size with h' | h'
    ·simp [h'] at h0 h1;rw [h0] at h1;cases h1
    ·simp [Array.getElem?_eq_none h'] at h1
   have hjm:j≠m:=fun e=>by
    subst e;obtain ⟨e,he,hb,hei⟩:=hm oj Wf;exact UG e he hb hei
   have h2:=wpOp_putIf Wf (NN j oj Wf FQ UF UG) (fun cs b=>BG i oi cs b hi) (fun cs b=>BG j oj cs b Wf) hQ hy h1
   have P7:∀ k ok,ops[k]? = some ok→k≠i→(listed.setIfInBounds j true).getD k true=false →
     (∀ e∈ok.after,Region.binds md e=true→e.on≠i)→oi.apart ops ok=true:=fun k ok hk XD hun hno=>by
    refine NN k ok hk XD ?_ hno;by_cases hjk:j=k
    ·subst hjk;exact UF
    ·rw [getD_set_ne true hjk] at hun;exact hun
   have YH:(listed.setIfInBounds j true).getD m false=false:=by rw [ji false hjm];exact TU
   have Ij:((listed.setIfInBounds i true).setIfInBounds j true).getD m false=false:=by rw [ji false hjm,ji false hne];exact TU
   refine wpOp_mono (fun a' w' h3=>⟨fun _=>h3.2.1 Ij,ih (listed.setIfInBounds j true) a' w' P7 (ready_mono hr (Ne.symm FQ)) h3.1 (h3.2.1 Ij) YH ?_⟩) h2;rw [Array.setIfInBounds_comm _ _ FQ];exact h3.2.2
theorem lM {α β:Type} {r:Result α} {f:α→World→Result β} {n:β} {w':World} (h:r.andThen f=.ok n w'):∃ a w1,r=.ok a w1∧f a w1=.ok n w':=by
 cases r with
 | ok a w1=>exact ⟨a,w1,rfl,h⟩
 | halt x w1=>simp [Result.andThen] at h
def sr (o:Oper):Bool:=o.guard.isNone&&match o.op with | .load .. | .fieldAddr .. | .indexAddr .. | .move .. | .nilCheck .. | .assign .. | .lookup ..=>true | _=>false
theorem BH {o:Oper} {ev:Operand→Value} {w w':World} {n:Next} (h:sr o=true) (hr:(execOp ev o).run P w=.ok n w'):∃ v,n=.value v:=by
 unfold sr at h;simp only [Bool.and_eq_true] at h;obtain ⟨_,h⟩:=h;unfold execOp at hr
 cases ho:o.op<;>rw [ho] at h hr<;>simp only [Bool.false_eq_true] at h
 case nilCheck x =>
  simp only at hr
  split at hr
  ·simp [runtimePanic] at hr
  ·simp [runtimePanic] at hr
  ·simp [runtimePanic] at hr
  ·split at hr
   ·simp [runtimePanic] at hr
   ·simp only [Sem.run_bind] at hr
    obtain ⟨p,w1,_,h1⟩:=lM hr;obtain ⟨q,w2,_,h2⟩:=lM h1
    split at h2
    ·rw [Sem.run_bind] at h2
     obtain ⟨r,w3,h3,_⟩:=lM h2;simp [unsupported] at h3
    ·simp only [Sem.run_pure,Result.ok.injEq] at h2;exact ⟨_,h2.1.symm⟩
   ·simp only [Sem.run_pure,Result.ok.injEq] at hr;exact ⟨_,hr.1.symm⟩
  ·simp only [Sem.run_pure,Result.ok.injEq] at hr;exact ⟨_,hr.1.symm⟩
 all_goals
  simp only [Sem.run_bind,Sem.run_pure] at hr
  first
   | (simp only [Result.ok.injEq] at hr;exact ⟨_,hr.1.symm⟩)
   | (generalize Sem.run P _ w=r at hr;cases r<;>simp [Result.andThen] at hr;exact ⟨_,hr.1.symm⟩)
theorem yC {o:Oper} {v:Value} {a:Act} (hb:sr o=true) (h:∀ w,T w→o.quietAt P a T w v):YieldsIf P ops T o v a:=by
 have hg:o.guard=none:=by unfold sr at hb;simp only [Bool.and_eq_true,Option.isNone_iff_eq_none] at hb;exact hb.1
 refine .inl ⟨by simp [Region.wanted,hg],fun w hw=>?_⟩;have h1:=h w hw;unfold Oper.quietAt at h1
 cases hr:(execOp a.eval o).run P w with
 | ok n w' =>
  obtain ⟨u,rfl⟩:=BH hb hr;rw [hr] at h1;simp only [Oper.quietUpon] at h1;rw [h1.1,h1.2]
 | halt x w' =>
  rw [hr] at h1;simp only [Oper.quietUpon] at h1
def lk (n k:Nat):Array Bool:=(Array.range n).map fun j=>decide (j < k)
theorem wn {n k j:Nat} (hj:j < n) (d:Bool):(lk n k).getD j d=decide (j < k):=by
 simp [lk,hj]
theorem L1 (n:Nat):lk n 0=Array.replicate n false:=by
 apply Array.ext
 ·simp [lk]
 ·intro i h1 h2;simp [lk]
theorem BI {n k:Nat} (hk:k < n):(lk n k).setIfInBounds k true=lk n (k+1):=by
 apply Array.ext
 ·simp [lk]
 ·intro i h1 h2
  by_cases e:k=i
  ·subst e;simp [lk]
  ·rw [Array.getElem_setIfInBounds_ne (by simpa using h1) e]
   simp only [lk,Array.getElem_map,Array.getElem_range]
   have:(i < k)=(i < k+1):=by
    apply propext;omega
   simp [this]
def jF (P:Program) (ops:Array Oper) (Q:Exit→Act→World→Prop) (T:World→Prop) (m:Nat):Nat→List Oper→Act→World→Prop
 | _,[],a,w=>Q .normal a w
 | k,o::r,a,w=>o.wp P a w (fun a' w'=>(k < m→T w')∧jF P ops Q T m (k+1) r a' w') Q∨(o.asks P a w∧LetsOut Q)
theorem gI {k:Nat} {o:Oper} {r:List Oper} {a:Act} {w:World} (h:∀ K:Act→World→Prop,(∀ a' w',(k < m→T w')→jF P ops Q T m (k+1) r a' w'→K a' w')→o.wp P a w K Q):jF P ops Q T m k (o::r) a w :=
 .inl (h _ fun _ _ h1 h2=>⟨h1,h2⟩)
theorem kD:∀ (l:List Oper) {k:Nat} {a:Act} {w:World},(∀ o∈l,o.guard=none)→m≤k→wpList P ops Q l a w→jF P ops Q T m k l a w
 | [],k,a,w,_,_,h=>h
 | o::r,k,a,w,hg,hk,h=>by
  unfold wpList at h;rw [if_pos (by simp [Region.wanted,hg o (by simp)])] at h
  rcases h with h | h
  ·exact .inl (Oper.wp_mono (fun a' w' h'=>⟨fun hlt=>absurd hlt (by omega),kD r (fun o ho=>hg o (by simp [ho])) (by omega) h'⟩) h)
  ·exact .inr h
def BJ (ops:Array Oper) (n m:Nat):Bool :=
 Region.noSelect ops&&decide (n≤m)&&decide (m < ops.size) &&
 (List.range ops.size).all (fun k=>match ops[k]? with
  | none=>false
  | some o=>if k < n then sr o&&o.after.all (fun e=>!Region.binds .any e || decide (e.on < k))&&Region.free .any ops (lk ops.size k) k&&(match ops[m]? with | some om=>om.after.any (fun e=>Region.binds .any e&&e.on==k) | none=>false)
   else o.guard.isNone&&(Region.ready .any ops (lk ops.size k)==[k]))&&(Region.ready .any ops (lk ops.size ops.size)==[])
theorem uQ {n:Nat} (FU:n≤m) (L3:m < ops.size) (hc:∀ k,n≤k→k < ops.size→∃ o,ops[k]? = some o∧o.guard=none∧Region.ready .any ops (lk ops.size k)=[k]) (hz:Region.ready .any ops (lk ops.size ops.size)=[]) :
  ∀ (l:List Oper) (k:Nat) (a:Act) (w:World),n≤k→k+l.length=ops.size→(∀ j (hj:j < l.length),ops[k+j]? = some l[j])→jF P ops Q T m k l a w→wpAnyS P .any ops Q T m l.length (lk ops.size k) a w
 | [],k,a,w,_,hl,_,h=>by
  have e:k=ops.size:=by simpa using hl
  subst e;exact ⟨hz,h⟩
 | o::r,k,a,w,hk,hl,ho,h=>by
  simp only [List.length_cons] at hl
  have L4:k < ops.size:=by omega
  obtain ⟨o',P8,hg,hr⟩:=hc k hk L4;have h0:=ho 0 (by simp);simp only [Nat.add_zero,List.getElem_cons_zero] at h0;rw [h0] at P8;simp only [Option.some.injEq] at P8;subst P8;refine ⟨fun e=>absurd (hr.symm.trans e) (by simp),fun i hi=>?_⟩;rw [hr,List.mem_singleton] at hi;subst hi;unfold wpOp;simp only [h0];rw [if_pos (by simp [Region.wanted,hg])]
  rcases h with h | h
  case inr=>exact .inr h
  refine .inl (Oper.wp_mono (fun a' w' h'=>?_) h);refine ⟨fun hm=>h'.1 ?_,?_⟩
  ·rw [BI L4,wn L3] at hm
   simp at hm;omega
  ·rw [BI L4]
   exact uQ FU L3 hc hz r (i+1) a' w' (by omega) (by omega) (fun j hj=>by have:=ho (j+1) (by simpa using hj);simpa [Nat.add_assoc,Nat.add_comm 1 j] using this) h'.2
theorem uU {n:Nat} (BG:Region.noSelect ops=true) (FU:n≤m) (L3:m < ops.size) (hQ:∀ c a d v w,Q (.panic c) (Act.put a d v) w→Q (.panic c) a w)
  (hr:∀ k,k < n→∃ o,ops[k]? = some o∧sr o=true∧(∀ e∈o.after,Region.binds .any e=true→e.on < k)∧Region.free .any ops (lk ops.size k) k=true∧∀ om,ops[m]? = some om→∃ e∈om.after,Region.binds .any e=true∧e.on=k)
  (hc:∀ k,n≤k→k < ops.size→∃ o,ops[k]? = some o∧o.guard=none∧Region.ready .any ops (lk ops.size k)=[k]) (hz:Region.ready .any ops (lk ops.size ops.size)=[]) (tl:List Oper) (Wh:n+tl.length=ops.size) (hto:∀ j (hj:j < tl.length),ops[n+j]? = some tl[j]) (w:World) (hT:T w) :
  ∀ (l:List Oper) (k:Nat) (a:Act),k+l.length=n→(∀ j (hj:j < l.length),ops[k+j]? = some l[j])→wpQuiet P ops T (fun a'=>jF P ops Q T m n tl a' w) l a→wpAnyS P .any ops Q T m (l.length+tl.length) (lk ops.size k) a w
 | [],k,a,hl,_,h=>by
  have e:k=n:=by simpa using hl
  subst e;simp only [List.length_nil,Nat.zero_add];exact uQ FU L3 hc hz tl k a w (Nat.le_refl _) Wh hto h
 | o::r,k,a,hl,ho,h=>by
  simp only [List.length_cons] at hl
  have Lm:k < n:=by omega
  have L4:k < ops.size:=by omega
  obtain ⟨o',P8,hb,he,hf,hm⟩:=hr k Lm;have h0:=ho 0 (by simp);simp only [Nat.add_zero,List.getElem_cons_zero] at h0;rw [h0] at P8;simp only [Option.some.injEq] at P8;subst P8
  have hg:o.guard=none:=by unfold sr at hb;simp only [Bool.and_eq_true,Option.isNone_iff_eq_none] at hb;exact hb.1
  unfold wpQuiet at h;rw [if_pos (by simp [Region.wanted,hg])] at h;obtain ⟨v,hv,hn⟩:=h
  have e1:(o::r).length+tl.length=(r.length+tl.length)+1:=by simp;omega
  rw [e1];refine wpAnyS_first h0 (Region.noSelect_spec BG) (fun c a w h=>hQ c a _ _ w h) (by omega) hm _ _ a w (Region.free_spec h0 hf) ?_ (yC hb hv) hT (by rw [wn L3];simp;omega) ?_
  ·rw [mem_ready]
   refine ⟨by rw [wn L4];simp,o,h0,fun e hem Df=>?_⟩;have:=he e hem Df;rw [wn (by omega)]
   simpa using this
  ·rw [BI L4]
   exact uU BG FU L3 hQ hr hc hz tl Wh hto w hT r (k+1) _ (by omega) (fun j hj=>by have:=ho (j+1) (by simpa using hj);simpa [Nat.add_assoc,Nat.add_comm 1 j] using this) hn
theorem pk {id:Nat} {a:Act} {w:World} {l:List Oper} (n m:Nat) (T:World→Prop) (hm:P.follows .mixedOrders=true) (hB:BJ l.toArray n m=true) (hQ:∀ c a d v w,Q (.panic c) (Act.put a d v) w→Q (.panic c) a w) (hT:T w.drew)
  (h:wpQuiet P l.toArray T (fun a'=>jF P l.toArray Q T m n (l.drop n) a' w.drew) (l.take n) a):(Code.region id l.toArray true).wp P Q a w:=by
 unfold BJ at hB;simp only [Bool.and_eq_true,decide_eq_true_eq,List.all_eq_true,List.mem_range,beq_iff_eq] at hB;obtain ⟨⟨⟨⟨BG,FU⟩,L3⟩,hall⟩,hz⟩:=hB
 have JS:m < l.length:=by simpa using L3
 have hnl:n≤l.length:=by omega
 refine wp_region_any hm (sq (T:=T) (m:=m) _ _ _ _ ?_);rw [← L1]
 have UH:(l.take n).length=n:=by rw [List.length_take];omega
 have hsz:l.toArray.size=(l.take n).length+(l.drop n).length:=by simp;omega
 have L5:∀ k (hk:k < l.length),l.toArray[k]? = some l[k]:=fun k hk=>by simp
 have key:=uU (P:=P) (ops:=l.toArray) (Q:=Q) (T:=T) (m:=m) (n:=n) BG FU L3 hQ ?_ ?_ hz (l.drop n) (by simp;omega) (fun j hj=>by simp at hj ⊢) w.drew hT (l.take n) 0 a (by simpa using UH) (fun j hj=>by simp only [List.length_take] at hj;simp) h
 ·have e:(l.take n).length+(l.drop n).length=l.toArray.size:=hsz.symm
  rw [e] at key;exact key
 ·intro k hk
  have pY:k < l.length:=by omega
  have:=hall k (by simpa using pY);rw [L5 k pY] at this;simp only [if_pos hk,Bool.and_eq_true] at this;obtain ⟨⟨⟨h1,h2⟩,h3⟩,h4⟩:=this;refine ⟨l[k],L5 k pY,h1,fun e he hb=>?_,h3,fun om hom=>?_⟩
  ·have:=Array.all_eq_true_iff_forall_mem.1 h2 e he
   simp [hb] at this;exact this
  ·rw [hom] at h4
   simp only at h4;obtain ⟨e,he,hb⟩:=Array.any_eq_true'.1 h4;simp only [Bool.and_eq_true,beq_iff_eq] at hb;exact ⟨e,he,hb.1,hb.2⟩
 ·intro k hk L4
  have pY:k < l.length:=by simpa using L4
  have:=hall k L4;rw [L5 k pY] at this;simp only [if_neg (by omega:¬ k < n),Bool.and_eq_true,Option.isNone_iff_eq_none,beq_iff_eq] at this;exact ⟨l[k],L5 k pY,this.1,this.2⟩
theorem kM {id:Nat} {a:Act} {w:World} {l:List Oper} (n m:Nat) (T:World→Prop) (hm:P.follows .mixedOrders=true) (hB:BJ l.toArray n m=true) (hT:T w.drew)
  (h:wpQuiet P l.toArray T (fun a'=>jF P l.toArray (NoPanic Q) T m n (l.drop n) a' w.drew) (l.take n) a):(Code.region id l.toArray true).wp P Q a w :=
 wp_region_noPanic (pk n m T hm hB (fun _ _ _ _ _ h=>h) hT h)
end
def jZ (v:Value) (g:Nat):Prop:=v.ownBlock=some g
structure rv (v:Value) (w:World) where
 to:World
 kb:Kb (jZ v) w to
instance (v:Value) (w:World):Nonempty (rv v w):=⟨⟨w,Kb.refl _ _⟩⟩
def qc (v:Value) (w:World) (x:rv v w):World:=x.to
@[go_sem] theorem P9 (v:Value) (w:World) (x:rv v w) (b o:Nat) (h:b < w.heap.size) (hn:¬ jZ v b):(qc v w x).cell? ⟨b,o,none⟩=w.cell? ⟨b,o,none⟩:=by
 have:=x.kb.block b h hn;simp [World.cell?,qc,this]
@[go_sem] theorem L8 (v:Value) (w:World) (x:rv v w) (b o:Nat) (h:b < w.heap.size) (hn:¬ jZ v b):(qc v w x).frozen? ⟨b,o,none⟩=w.frozen? ⟨b,o,none⟩:=by
 have:=x.kb.block b h hn;simp [World.frozen?,qc,this]
@[go_sem] theorem Wi (v:Value) (w:World) (x:rv v w) (b:Nat) (h:b < w.heap.size):b < (qc v w x).heap.size:=Nat.lt_of_lt_of_le h x.kb.size
def KL (v:Value) (w w':World):Prop:=∃ x:rv v w,w'=qc v w x
theorem KL.of {v:Value} {w w':World} (h:Kb (jZ v) w w'):∃ x:rv v w,w'=qc v w x:=⟨⟨w',h⟩,rfl⟩
theorem KL.aA {v:Value} {w w':World} (h:ag w w'):∃ x:rv v w,w'=qc v w x:=KL.of (Kb.aO h)
theorem ub {v:Value} {w w':World} (h:w.grownBy w' v.ownBlock):Kb (jZ v) w w':=Kb.cZ h
theorem gh {v:Value} {w:World} {B size n:Nat} {e:TypeId} {xs:List Value} (o:w.ownsRow B e size v n xs) {g:Nat} (hg:g < B):¬ jZ v g:=fun h=>by have:=(o.lt g h).1;omega
end Go.Proofs.YtakddkhipelmjaaGreat
namespace Go.Proofs.YtakddkhipelmjaaGreat
open Go.RowKit Go.Lib
theorem BK {P:Program} (w:World) (dT sT ty elem:TypeId) (size b o UI YI:Nat) (a:Addr) (UJ YJ m:Nat) (cs:List Value)
  (hu:P.underlying dT=some (.slice elem)) (hs:(P.info? elem).map (·.size)=some size) (hm:Nat.min UJ UI=m) (hn:cs.length=m*size)
  (BL:∀ j v,cs[j]? = some v→w.cell? (a.add j)=some v) (hc:∀ j,j < cs.length→(w.cell? ⟨b,o+j,none⟩).isSome=true) (hf:∀ j,j < cs.length→w.frozen? ⟨b,o+j,none⟩=false) (h1:∀ v∈cs,v.oneCell'=true) :
  (Builtin.copy_ #[dT,sT] ty #[.slice (some ⟨b,o,none⟩) UI YI,.slice (some a) UJ YJ]).run P w=.ok (goInt m) (w.setCells b o cs):=by
 have hl:=run_loadCells_list (P:=P) w a cs BL;have hst:=run_storeCells_cells (P:=P) b o cs 0 w (by simpa using hc) (by simpa using hf) h1;rw [hn] at hl
 cases hq:P.info? elem with
 | none=>simp [hq] at hs
 | some i =>
  have hi:i.size=size:=by simpa [hq] using hs
  simp [Builtin.copy_,run_underlying hu,Builtin.lenOf,Builtin.firstCells,sizeOf,typeInfo,hq,hi,hm,hl,hst]
theorem Hm (A v R vs:List Value) (h:vs.length=v.length):nk (A++v++R) A.length vs=A++vs++R:=by
 rw [iX _ _ _ (by simp only [List.length_append];omega),List.append_assoc A v R,List.take_left,h]
 congr 1
 rw [← List.append_assoc,← List.length_append,List.drop_left]
theorem nw {P:Program} (w:World) {ops:Array Oper} {rest:List Oper} {o:Oper} {a:Act} {Q:Exit→Act→World→Prop} (hgd:o.guard=none) (d s:Operand) (t t':TypeId)
  (ho:o.op=.call { callee:=.builtin .append,args:=#[d,s],argTypes:=#[t,t'] }) (v u:Value) (hd:a.eval d=v) (hs:a.eval s=u) {v':Value} {w':World}
  (hr:(Builtin.append_ #[t,t'] o.type #[v,u]).run P w=.ok v' w') (h:wpList P ops Q rest (a.put o.dst v') w'):wpList P ops Q (o::rest) a w :=
 wpList_plain hgd fun _ hK=>by
  unfold Oper.wp execOp;simp only [ho,resolve,invoke,builtin,Sem.run_bind,Sem.run_pure,Result.andThen_ok,List.map_toArray,List.map_cons,List.map_nil,hd,hs,hr];exact hK _ _ h
def K9 (ty:TypeId) (size:Nat) (w:World) (B:Nat) (v:Value) (n k:Nat) (xs ne:List Value) (e:Ending) (w':World):Prop :=
 ∃ h:Hd,e=.returned h.v∧w'.ownsRow B ty size h.v (n+1) (xs.take (k*size)++ne++xs.drop (k*size))∧Kb (jZ v) w w'∧∀ g∈h.blk,v.ownBlock=some g∨w.heap.size≤g
end Go.Proofs.YtakddkhipelmjaaGreat
namespace Go.Proofs.YtakddkhipelmjaaGreat
open Go.Deep Go.RowKit
def xn (v:Value):Option (DataW Value × List MemPlace):=some (.held v,[])
def ee (P:Program) (k:TypeId) (w:World) (b n:Nat) (z:Value) (f:List UInt8→Value):Prop :=
 ∃ D:DataW Value,Maps.IsMap D∧w.ownsMap P k xn b n D∧∀ s,D.atKey (.string s) (.held z)=.held (f s)
section
variable {P : Program} {k : TypeId} {w w' : World} {b n : Nat} {z : Value} {f : List UInt8 → Value}
theorem ee.lt (h:ee P k w b n z f):b < w.heap.size:=by obtain ⟨D,_,ho,_⟩:=h;exact ho.lt
theorem ee.kb {Q:Nat→Prop} (h:ee P k w b n z f) (kb:Kb Q w w') (hb:¬ Q b):ee P k w' b n z f:=by
 obtain ⟨D,hD,ho,hf⟩:=h;have hl:=ho.lt;obtain ⟨es,clock,hh,F,hs,he⟩:=ho;exact ⟨D,hD,⟨es,clock,(kb.block b hl hb).trans hh,F,hs,he⟩,hf⟩
theorem ee.aA (h:ee P k w b n z f) (a:ag w w'):ee P k w' b n z f:=h.kb (Q:=fun _=>False) (Kb.aO a) (fun h=>h)
theorem ee.mono (h:ee P k w b n z f) {n':Nat} (hn:n≤n'):ee P k w b n' z f:=by
 obtain ⟨D,hD,ho,hf⟩:=h;exact ⟨D,hD,ho.mono hn,hf⟩
theorem lZ (w:World) (z:Value):ee P k (w.alloc (.map #[] 0)) w.heap.size 0 z (fun _=>z) :=
 ⟨.map [],Maps.isMap_empty,World.ownsMap_made w P k xn,fun s=>rfl⟩
theorem su (hk:P.underlying k=some .string) (s:ByteArray) (hs:s.size≤maxLen):keyOf P k (.string s)=some (.string s.data.toList):=by
 simp [keyOf,hk,mapKey,hs]
theorem ee.look {t e:TypeId} (h:ee P k w b n z f) (hk:P.underlying k=some .string) (ht:P.underlying t=some (.map k e)) (hz:(zeroValue e).run P w=.ok z w) (s:ByteArray) (hs:s.size≤maxLen) :
  (Instr.lookup t (.map (some b)) (.string s) false).run P w=.ok (f s.data.toList) w:=by
 obtain ⟨D,hD,ho,hf⟩:=h;obtain ⟨v,ps,hrun,hv⟩:=ho.lookup (Maps.string_keyed hk) ht hz (zd:=.held z) (zp:=[]) rfl (su hk s hs);rw [hf] at hv;unfold xn at hv;simp only [Option.some.injEq,Prod.mk.injEq,DataW.held.injEq] at hv;rw [hrun,hv.1]
theorem ee.put {t e:TypeId} (h:ee P k w b n z f) (hk:P.underlying k=some .string) (ht:P.underlying t=some (.map k e)) (hn:n < maxLen) (s:ByteArray) (hs:s.size≤maxLen) (v:Value) :
  ∃ w',(Instr.mapUpdate t (.map (some b)) (.string s) v).run P w=.ok () w'∧ee P k w' b (n+1) z (fun x=>if x=s.data.toList then v else f x)∧w.grownBy w' (some b):=by
 obtain ⟨D,hD,ho,hf⟩:=h;obtain ⟨w',hrun,h1,h2⟩:=ho.update (Maps.string_keyed hk) ht hn (su hk s hs) (val:=v) (d:=.held v) (ps:=[]) rfl;refine ⟨w',hrun,⟨D.put (.string s.data.toList) (.held v),hD.put _ _,h1,fun x=>?_⟩,h2⟩
 show _=DataW.held (if x=s.data.toList then v else f x)
 by_cases e:x=s.data.toList
 ·subst e
  rw [if_pos rfl];exact Maps.atKey_put_same hD (by trivial) _ _
 ·rw [if_neg e,Maps.atKey_put_other (by intro e2;exact e (Lit.string.inj e2))]
  exact hf x
end
structure dO where
 role:ByteArray
 of:ByteArray
structure gW where
 names:List ByteArray
 members:List dO
def fg (_:World) (cs:List Value) (m:dO):Prop:=cs=[.string m.role,.string m.of]∧Small m.role.size∧Small m.of.size
def jQ (m:dO):List Value:=[.string m.role,.string m.of]
abbrev dt:=List UInt8
def txt (s:ByteArray):dt:=s.data.toList
def succ (ms:List dO) (s:dt):List ByteArray:=(ms.filter fun m=>txt m.role==s).map (·.of)
inductive Reach (ms:List dO):dt→dt→Prop
 | refl (s:dt):Reach ms s s
 | step {s t u:dt} {x:ByteArray}:Reach ms s t→x∈succ ms t→txt x=u→Reach ms s u
theorem Reach.trans {ms:List dO} {s t u:dt} (h1:Reach ms s t) (h2:Reach ms t u):Reach ms s u:=by
 induction h2 with
 | refl=>exact h1
 | step _ hx he ih=>exact .step ih hx he
theorem Reach.head {ms:List dO} {s u:dt} {x:ByteArray} (hx:x∈succ ms s) (h:Reach ms (txt x) u):Reach ms s u:=(Reach.step (.refl s) hx rfl).trans h
theorem Reach.closed {ms:List dO} {s u:dt} (h:Reach ms s u) (p:dt→Prop) (h0:p s) (hc:∀ t,p t→∀ x∈succ ms t,p (txt x)):p u:=by
 induction h with
 | refl=>exact h0
 | step _ hx he ih=>rw [← he];exact hc _ ih _ hx
def wq (ms:List dO) (U:List dt) (c:dt→Nat):Nat:=(U.map fun s=>if c s=0 then (succ ms s).length else 0).sum
def mu (U:List dt) (c:dt→Nat):Nat:=(U.filter fun s=>c s==0).length
theorem yD {ms:List dO} {U:List dt} {c c':dt→Nat} (h:∀ s,c s≤c' s):wq ms U c'≤wq ms U c:=by
 induction U with
 | nil=>simp [wq]
 | cons a U ih =>
  unfold wq at ih ⊢;simp only [List.map_cons,List.sum_cons];have:=h a;by_cases h1:c a=0
  ·by_cases h2:c' a=0<;>simp [h1,h2]<;>omega
  ·have h2:c' a≠0:=by omega
   simp [h1,h2];omega
theorem Dt {U:List dt} {c c':dt→Nat} (h:∀ s,c s≤c' s):mu U c'≤mu U c:=by
 induction U with
 | nil=>simp [mu]
 | cons a U ih =>
  unfold mu at ih ⊢;have:=h a;by_cases h1:c a=0
  ·by_cases h2:c' a=0<;>simp [h1,h2]<;>omega
  ·have h2:c' a≠0:=by omega
   simp [h1,h2];omega
def bump (c:dt→Nat) (s:dt):dt→Nat:=fun x=>if x=s then c s+1 else c x
theorem ol (c:dt→Nat) (s x:dt):c x≤bump c s x:=by unfold bump;split<;>simp_all
theorem IW {ms:List dO} {U:List dt} {c:dt→Nat} {s:dt} (hs:s∈U) (h0:c s=0):wq ms U (bump c s)+(succ ms s).length≤wq ms U c:=by
 induction U with
 | nil=>simp at hs
 | cons a U ih =>
  unfold wq at ih ⊢;simp only [List.map_cons,List.sum_cons];by_cases e:a=s
  ·subst e
   have hm:wq ms U (bump c a)≤wq ms U c:=yD (ol c a);unfold wq at hm
   have hb:bump c a a≠0:=by simp [bump]
   simp only [h0,if_true,if_neg hb];omega
  ·have hs':s∈U:=(List.mem_cons.1 hs).resolve_left (fun h=>e h.symm)
   have:=ih hs'
   have hb:bump c s a=c a:=by simp [bump,e]
   rw [hb];omega
theorem L9 {U:List dt} {c:dt→Nat} {s:dt} (hs:s∈U) (h0:c s=0):mu U (bump c s) < mu U c:=by
 induction U with
 | nil=>simp at hs
 | cons a U ih =>
  unfold mu at ih ⊢;by_cases e:a=s
  ·subst e
   have hm:mu U (bump c a)≤mu U c:=Dt (ol c a);unfold mu at hm
   have hb:(bump c a a==0)=false:=by simp [bump]
   simp only [List.filter_cons,h0,hb,beq_self_eq_true,if_true,Bool.false_eq_true,if_false,List.length_cons];omega
  ·have hs':s∈U:=(List.mem_cons.1 hs).resolve_left (fun h=>e h.symm)
   have:=ih hs'
   have hb:bump c s a=c a:=by simp [bump,e]
   simp only [List.filter_cons,hb]
   split<;>simp<;>omega
structure Grown (ms:List dO) (U:List dt) (r:dt) (c:dt→Nat) (n:Nat) (c':dt→Nat) (n':Nat):Prop where
 le:∀ s,c s≤c' s
 has:0 < c' r
 bd:∀ s,c' s≤n'
 src:∀ s,0 < c' s→0 < c s∨Reach ms r s
 shut:∀ s,0 < c' s→0 < c s∨∀ x∈succ ms s,0 < c' (txt x)
 size:n'+wq ms U c'≤n+1+wq ms U c
structure Ma (ms:List dO) (U:List dt) (r:dt) (c:dt→Nat) (n k:Nat) (c':dt→Nat) (n':Nat):Prop where
 le:∀ s,c s≤c' s
 has:0 < c' r
 bd:∀ s,c' s≤n'
 src:∀ s,0 < c' s→0 < c s∨Reach ms r s
 did:∀ x∈(succ ms r).take k,0 < c' (txt x)
 shut:∀ s,0 < c' s→0 < c s∨s=r∨∀ x∈succ ms s,0 < c' (txt x)
 size:n'+wq ms U c'+(succ ms r).length≤n+1+k+wq ms U c
 mu:mu U c' < mu U c
theorem oo {c:dt→Nat} {r s:dt} (h:0 < bump c r s):0 < c s∨s=r:=by
 unfold bump at h;by_cases e:s=r
 ·exact .inr e
 ·rw [if_neg e] at h;exact .inl h
theorem po (c:dt→Nat) (r:dt):bump c r r=c r+1:=by simp [bump]
theorem Du {c:dt→Nat} {r:dt} {n:Nat} (h:∀ s,c s≤n) (s:dt):bump c r s≤n+1:=by
 unfold bump;have h1:=h s;have h2:=h r
 split<;>omega
theorem Grown.again {ms:List dO} {U:List dt} {r:dt} {c:dt→Nat} {n:Nat} (h:∀ s,c s≤n) (h0:0 < c r):Grown ms U r c n (bump c r) (n+1) :=
 ⟨ol c r,by rw [po];omega,Du h,fun s hs=>by
  rcases oo hs with h1 | rfl
  ·exact .inl h1
  ·exact .inl h0,fun s hs=>by
  rcases oo hs with h1 | rfl
  ·exact .inl h1
  ·exact .inl h0,by have:=yD (ms:=ms) (U:=U) (ol c r);omega⟩
theorem Ma.start {ms:List dO} {U:List dt} {r:dt} {c:dt→Nat} {n:Nat} (h:∀ s,c s≤n) (hr:r∈U) (h0:c r=0):Ma ms U r c n 0 (bump c r) (n+1) :=
 ⟨ol c r,by rw [po];omega,Du h,fun s hs=>by
  rcases oo hs with h1 | rfl
  ·exact .inl h1
  ·exact .inr (.refl _),fun x hx=>by simp at hx,fun s hs=>by
  rcases oo hs with h1 | rfl
  ·exact .inl h1
  ·exact .inr (.inl rfl),by have:=IW (ms:=ms) hr h0;omega,L9 hr h0⟩
theorem Ma.step {ms:List dO} {U:List dt} {r:dt} {c c1 c2:dt→Nat} {n n1 n2 k:Nat} (h:Ma ms U r c n k c1 n1) (hk:k < (succ ms r).length) (g:Grown ms U (txt (succ ms r)[k]) c1 n1 c2 n2):Ma ms U r c n (k+1) c2 n2 :=
 ⟨fun s=>Nat.le_trans (h.le s) (g.le s),Nat.lt_of_lt_of_le h.has (g.le r),g.bd,fun s hs=>by
  rcases g.src s hs with h1 | h1
  ·exact h.src s h1
  ·exact .inr (.head (List.getElem_mem hk) h1),fun x hx=>by
  rw [List.take_succ_eq_append_getElem hk,List.mem_append,List.mem_singleton] at hx
  rcases hx with hx | rfl
  ·exact Nat.lt_of_lt_of_le (h.did x hx) (g.le _)
  ·exact g.has,fun s hs=>by
  rcases g.shut s hs with h1 | h1
  ·rcases h.shut s h1 with h2 | h2 | h2
   ·exact .inl h2
   ·exact .inr (.inl h2)
   ·exact .inr (.inr fun x hx=>Nat.lt_of_lt_of_le (h2 x hx) (g.le _))
  ·exact .inr (.inr h1),by have:=h.size;have:=g.size;omega,Nat.lt_of_le_of_lt (Dt g.le) h.mu⟩
theorem Ma.all {ms:List dO} {U:List dt} {r:dt} {c c':dt→Nat} {n n' k:Nat} (h:Ma ms U r c n k c' n') (hk:k=(succ ms r).length):Grown ms U r c n c' n' :=
 ⟨h.le,h.has,h.bd,h.src,fun s hs=>by
  rcases h.shut s hs with h1 | rfl | h1
  ·exact .inl h1
  ·exact .inr fun x hx=>h.did x (by rw [hk,List.take_length];exact hx)
  ·exact .inr h1,by have:=h.size;omega⟩
theorem Grown.reach {ms:List dO} {U:List dt} {r:dt} {n:Nat} {c':dt→Nat} {n':Nat} (g:Grown ms U r (fun _=>0) n c' n') (s:dt):0 < c' s↔Reach ms r s:=by
 constructor
 ·intro h
  rcases g.src s h with h1 | h1
  ·omega
  ·exact h1
 ·intro h
  refine h.closed (fun t=>0 < c' t) g.has fun t ht x hx=>?_
  rcases g.shut t ht with h1 | h1
  ·omega
  ·exact h1 x hx
def mo (c:dt→Nat):dt→Value:=fun s=>.int .i64 (c s)
theorem oq (w:World):(zeroValue 3).run Tryz.prog w=.ok (.int .i64 0) w:=by kernel_rfl
theorem ki (w:World):(zeroValue 26).run Tryz.prog w=.ok (.slice none 0 0) w:=by kernel_rfl
def lN (w:World) (ms:List dO) (bf bn N:Nat):Prop :=
 ∃ nx:dt→Value,ee Tryz.prog 9 w bn N (.slice none 0 0) nx∧∀ s,∃ h:Hd,nx s=h.v∧w.ownsRow 0 9 1 h.v (succ ms s).length ((succ ms s).flatMap cB)∧bf∉h.blk
structure jS (w:World) (ms:List dO) (pf pn pw bf bn N:Nat):Prop where
 cf:w.cell? ⟨pf,0,none⟩=some (.map (some bf))
 cn:w.cell? ⟨pn,0,none⟩=some (.map (some bn))
 cw:w.cell? ⟨pw,0,none⟩=some (.func (.func 301) #[] #[.pointer (some ⟨pf,0,none⟩),.pointer (some ⟨pn,0,none⟩),.pointer (some ⟨pw,0,none⟩)])
 nx:lN w ms bf bn N
 ne:pf≠bf∧pn≠bf∧pw≠bf∧bn≠bf
theorem lN.kb {w w':World} {ms:List dO} {bf bn N:Nat} (h:lN w ms bf bn N) (k:Kb (fun g=>g=bf) w w') (hb:bn≠bf):lN w' ms bf bn N:=by
 obtain ⟨nx,h1,h2⟩:=h;refine ⟨nx,h1.kb k hb,fun s=>?_⟩;obtain ⟨h,e,o,n⟩:=h2 s;exact ⟨h,e,br o k fun g hg e2=>n (by subst e2;exact Hd.bj.2 hg),n⟩
theorem jS.kb {w w':World} {ms:List dO} {pf pn pw bf bn N:Nat} (h:jS w ms pf pn pw bf bn N) (k:Kb (fun g=>g=bf) w w'):jS w' ms pf pn pw bf bn N :=
 ⟨k.cell h.cf h.ne.1,k.cell h.cn h.ne.2.1,k.cell h.cw h.ne.2.2.1,h.nx.kb k h.ne.2.2.2,h.ne⟩
def Dv (w:World) (ms:List dO) (U:List dt) (bf:Nat) (r:dt) (c:dt→Nat) (n:Nat) (e:Ending) (w':World):Prop :=
 e=.returned (.tuple #[])∧Kb (fun g=>g=bf) w w'∧∃ (c':dt→Nat) (n':Nat),ee Tryz.prog 9 w' bf n' (.int .i64 0) (mo c')∧Grown ms U r c n c' n'
def Qa (w:World) (ms:List dO) (U:List dt) (bf:Nat) (r:dt) (c:dt→Nat) (n k:Nat) (w':World):Prop :=
 Kb (fun g=>g=bf) w w'∧∃ (c':dt→Nat) (n':Nat),ee Tryz.prog 9 w' bf n' (.int .i64 0) (mo c')∧Ma ms U r c n k c' n'
theorem BN {ms:List dO} (sm:Small (ms.length*16)∧∀ m∈ms,Small m.of.size) (s:dt):Small ((succ ms s).length*16)∧∀ x∈succ ms s,Small x.size:=by
 unfold succ
 constructor
 ·have h1:=sm.1
  have h2:(ms.filter fun m=>txt m.role==s).length≤ms.length:=List.length_filter_le _ _;unfold Small at h1 ⊢;rw [List.length_map];omega
 ·intro x hx
  rw [List.mem_map] at hx;obtain ⟨m,hm,rfl⟩:=hx;exact sm.2 m (List.mem_filter.1 hm).1
theorem IX {c:dt→Nat} {r:dt}:(fun x=>if x=r then Value.int .i64 ((c r:Int)+1) else mo c x)=mo (bump c r):=by
 funext x
 unfold mo bump
 split<;>simp_all
theorem sw {ms:List dO} {pf pn pw bf bn N:Nat} {role:ByteArray} {c:dt→Nat} {n:Nat} {w:World} (oG:Small role.size) (hn:n < 140737488351232) (S:jS w ms pf pn pw bf bn N) (M:ee Tryz.prog 9 w bf n (.int .i64 0) (mo c)) :
  (Instr.lookup 268 (.map (some bf)) (.string role) false).run Tryz.prog w=.ok (.int .i64 (c (txt role))) w ∧
  ∃ w1,(Instr.mapUpdate 268 (.map (some bf)) (.string role) (.int .i64 ((c (txt role):Int)+1))).run Tryz.prog w=.ok () w1∧(Instr.lookup 268 (.map (some bf)) (.string role) false).run Tryz.prog w1=.ok (.int .i64 ((c (txt role):Int)+1)) w1∧jS w1 ms pf pn pw bf bn N∧ee Tryz.prog 9 w1 bf (n+1) (.int .i64 0) (mo (bump c (txt role)))∧Kb (fun g=>g=bf) w w1:=by
 obtain ⟨w1,p1,M1,g1⟩:=M.put Tryz.underlying9 Tryz.underlying268 (by unfold maxLen;omega) role oG.max (Value.int .i64 ((c (txt role):Int)+1))
 have k1:Kb (fun g=>g=bf) w w1:=(Kb.cZ g1).mono fun g _ e=>(Option.some.inj e).symm
 have M2:ee Tryz.prog 9 w1 bf (n+1) (.int .i64 0) (mo (bump c (txt role))):=by rw [← IX];exact M1
 refine ⟨M.look Tryz.underlying9 Tryz.underlying268 (oq w) role oG.max,w1,p1,?_,S.kb k1,M2,k1⟩;rw [M2.look Tryz.underlying9 Tryz.underlying268 (oq w1) role oG.max]
 show Result.ok (Value.int .i64 ((bump c (txt role) (txt role):Nat):Int)) w1=_
 rw [po];simp
theorem pO (ms:List dO) (U:List dt) (pf pn pw bf bn N:Nat) (role:ByteArray) (c:dt→Nat) (n:Nat) (w:World) (oG:Small role.size) (hn:n < 140737488351232) (Df:∀ s,c s≤n) (S:jS w ms pf pn pw bf bn N) (M:ee Tryz.prog 9 w bf n (.int .i64 0) (mo c)) (h0:0 < c (txt role)) :
  Calls Tryz.prog 301 #[.string role,.pointer (some ⟨pf,0,none⟩),.pointer (some ⟨pn,0,none⟩),.pointer (some ⟨pw,0,none⟩)] w (Dv w ms U bf (txt role) c n):=by
 have cf:=S.cf;have Uz:=Df (txt role);obtain ⟨l1,w1,p1,l2,S1,M1,k1⟩:=sw oG hn S M;have cf1:=S1.cf;have H1:=gH (And.intro S1 (And.intro M1 k1));have HB:=gH Df;have H0:=gH h0;obtain ⟨q,hq⟩:∃ q,q=c (txt role):=⟨_,rfl⟩;rw [← hq] at l1 p1 l2 Uz h0;have HQ:=gH hq;clear S M S1 M1 k1 Df hq
 go_in
 go_wp2
 go_end0
 exact ⟨rfl,H1.out.2.2,_,_,H1.out.2.1,Grown.again HB.out H0.out⟩
theorem yE (ms:List dO) (U:List dt) (pf pn pw bf bn N:Nat) (sm:Small (ms.length*16)∧∀ m∈ms,Small m.of.size) (hU:∀ s∈U,∀ x∈succ ms s,txt x∈U) (role:ByteArray) (c:dt→Nat) (n:Nat) (w:World) (oG:Small role.size) (Qb:txt role∈U) (Df:∀ s,c s≤n) (hsz:n+1+wq ms U c≤140737488351232) (S:jS w ms pf pn pw bf bn N) (M:ee Tryz.prog 9 w bf n (.int .i64 0) (mo c)) (h0:c (txt role)=0)
  (ih:∀ (x:ByteArray) (c1:dt→Nat) (n1:Nat) (w1:World),mu U c1 < mu U c→Small x.size→txt x∈U→(∀ s,c1 s≤n1)→n1+1+wq ms U c1≤140737488351232→jS w1 ms pf pn pw bf bn N→ee Tryz.prog 9 w1 bf n1 (.int .i64 0) (mo c1) →
   Calls Tryz.prog 301 #[.string x,.pointer (some ⟨pf,0,none⟩),.pointer (some ⟨pn,0,none⟩),.pointer (some ⟨pw,0,none⟩)] w1 (Dv w1 ms U bf (txt x) c1 n1)) :
  Calls Tryz.prog 301 #[.string role,.pointer (some ⟨pf,0,none⟩),.pointer (some ⟨pn,0,none⟩),.pointer (some ⟨pw,0,none⟩)] w (Dv w ms U bf (txt role) c n):=by
 have cf:=S.cf;obtain ⟨l1,w1,p1,l2,S1,M1,k1⟩:=sw oG (by omega) S M;rw [h0] at l1 p1 l2;simp only [Int.natCast_zero,Int.zero_add] at l1 p1 l2;have cf1:=S1.cf;have cn1:=S1.cn;obtain ⟨nx,N1,N2⟩:=S.nx;obtain ⟨h,hh,ho,hb⟩:=N2 (txt role);have l3:=(N1.kb k1 S.ne.2.2.2).look Tryz.underlying9 Tryz.underlying183 (ki w1) role oG.max
 replace l3:_=Result.ok (Value.slice h.a (succ ms (txt role)).length h.c) w1:=l3.trans (by rw [show nx role.data.toList=nx (txt role) from rfl,hh,dm ho])
 obtain ⟨sl,ss⟩:=BN sm (txt role)
 have dv:∀ w',Kb (fun g=>g=bf) w w'→az w' 1 dC h.a h.c (succ ms (txt role)):=fun w' k=>dS cB (br ho k fun g hg e2=>hb (by subst e2;exact Hd.bj.2 hg)) (fun x hx=>⟨rfl,rfl,ss x hx⟩) sl
 have hlen:=(dv w1 k1).len;have HS:=gH dv;have H1:=gH S;have HM:=gH (show Qa w ms U bf (txt role) c n 0 w1 from ⟨k1,_,_,M1,Ma.start Df Qb h0⟩);have HU:=gH (show ∀ x∈succ ms (txt role),txt x∈U∧Small x.size from fun x hx=>⟨hU _ Qb x hx,ss x hx⟩);have IH:=gH ih;have HSZ:=gH hsz;obtain ⟨ha,hn,hc⟩:=h;dsimp only at l3 HS;obtain ⟨l,hl⟩:∃ l,l=succ ms (txt role):=⟨_,rfl⟩;rw [← hl] at l3 hlen HS HU;have HL:=gH hl;clear S M S1 M1 k1 Df N1 N2 hh ho hb sm hU Qb ih sl ss dv hl h0 hsz
 go_in
 go_wp2_with fail
 go_loopw [19] (fun i wr=>∃ k:Nat,k≤l.length∧i=.int .i64 k∧Qa w ms U bf (txt role) c n k wr) (fun i _=>l.length - (intOf i).toNat)
 case atStart=>exact ⟨0,Nat.zero_le _,rfl,HM.out⟩
 case round =>
  clear HM l1 l2 l3 p1 cf cf1 cn1;obtain ⟨k,hk,rfl,Qc⟩:=hrel;by_cases hlt:k < l.length
  ·obtain ⟨kb,c',n',M',md⟩:=Qc
   have S':=H1.out.kb kb;obtain ⟨b,off,rfl,hb,d0,ds⟩:=fB (HS.out wr kb) hlt;obtain ⟨x,hx⟩:∃ x,l[k]=x:=⟨_,rfl⟩;rw [hx] at d0 ds;have cw:=S'.cw
   have NP:x∈l:=by rw [← hx];exact List.getElem_mem hlt
   have uV:k < (succ ms (txt role)).length:=by rw [← HL.out];exact hlt
   have VS:(succ ms (txt role))[k]=x:=by rw [← hx];congr 1;exact HL.out.symm
   have C:=gH (IH.out x c' n' wr md.mu (HU.out x NP).2 (HU.out x NP).1 md.bd (by have:=md.size;have:=HSZ.out;omega) S' M');have Wj:=gH (And.intro kb md);clear kb M' md S' hx NP
   go_wp2_with (go_at_call 301;refine C.out.mono ?_;rintro e w2 ⟨rfl,JP,c2,n2,M2,g2⟩;have HMN:=gH (show Qa w ms U bf (txt role) c n (k+1) w2 from ⟨Wj.out.1.trans JP,c2,n2,M2,Wj.out.2.step uV (by rw [VS];exact g2)⟩);clear JP M2 g2)
   go_roundw
   case rel=>exact ⟨k+1,by omega,by go_num,HMN.out⟩
   case measure=>simp [intOf];omega
  ·have Wj:=gH Qc
   clear Qc;go_wp2
   go_end0
   have pY:k=(succ ms (txt role)).length:=by rw [← HL.out];omega
   obtain ⟨kb,c',n',M',md⟩:=Wj.out;exact ⟨rfl,kb,c',n',M',md.all pY⟩
theorem Mb {U:List dt} {c:dt→Nat} {r:dt} (hr:r∈U) (h:mu U c=0):c r≠0:=by
 intro e;unfold mu at h
 have:r∈U.filter fun s=>c s==0:=List.mem_filter.2 ⟨hr,by simp [e]⟩
 rw [List.eq_nil_of_length_eq_zero h] at this;simp at this
theorem IY (ms:List dO) (U:List dt) (pf pn pw bf bn N:Nat) (sm:Small (ms.length*16)∧∀ m∈ms,Small m.of.size) (hU:∀ s∈U,∀ x∈succ ms s,txt x∈U) :
  ∀ (m:Nat) (role:ByteArray) (c:dt→Nat) (n:Nat) (w:World),mu U c≤m→Small role.size→txt role∈U→(∀ s,c s≤n)→n+1+wq ms U c≤140737488351232→jS w ms pf pn pw bf bn N→ee Tryz.prog 9 w bf n (.int .i64 0) (mo c) →
   Calls Tryz.prog 301 #[.string role,.pointer (some ⟨pf,0,none⟩),.pointer (some ⟨pn,0,none⟩),.pointer (some ⟨pw,0,none⟩)] w (Dv w ms U bf (txt role) c n):=by
 intro m
 induction m with
 | zero =>
  intro role c n w hmu oG Qb Df hsz S M;exact pO ms U pf pn pw bf bn N role c n w oG (by omega) Df S M (Nat.pos_of_ne_zero (Mb Qb (by omega)))
 | succ m ih =>
  intro role c n w hmu oG Qb Df hsz S M;by_cases h0:c (txt role)=0
  ·exact yE ms U pf pn pw bf bn N sm hU role c n w oG Qb Df hsz S M h0 fun x c1 n1 w1 h1 h2 h3 h4 h5 h6 h7=>ih x c1 n1 w1 (by omega) h2 h3 h4 h5 h6 h7
  ·exact pO ms U pf pn pw bf bn N role c n w oG (by omega) Df S M (Nat.pos_of_ne_zero h0)
end Go.Proofs.YtakddkhipelmjaaGreat
