import Derived.OneCell
import Derived.Deep.Upon
import Derived.Deep.AppendLies
import Derived.Maps.Own
import Derived.Maps.Views
import Derived.Test.YtmflccbnoeaafaaGreatPartC1
namespace Go.Proofs.YtmflccbnoeaafaaGreat
open Go.RowKit
set_option maxRecDepth 100000
set_option linter.unusedVariables false
set_option maxHeartbeats 64000000
def pd {α:Type} (ty:TypeId) (size:Nat) (R:World→List Value→α→Prop) (w0 w:World) (l:List α) (e:Ending) (w':World):Prop :=
 ∃ v cI,e=.returned v∧ag w w'∧w'.ownsRow w.heap.size ty size v l.length cI.flatten∧cF w0 size R cI l
theorem IU:(Tryz.prog.info? 37).map (fun i=>(i.zero,i.size,i.bytes))=some (some (.agg #[.string ByteArray.empty,.int .i64 0,.slice none 0 0,.int .i64 0,.int .i64 0,.string ByteArray.empty,.string ByteArray.empty,.string ByteArray.empty]),8,112):=by kernel_rfl
theorem vK (A:Option Addr) (cap:Nat) (l:List gi) (w0 w:World) (ha:ag w0 w) (h:aL w0 8 gI A cap l) (hb:l.length≤1000000) :
  Calls Tryz.prog 51 #[.slice A l.length cap] w (pd 37 8 gI w0 w l):=by
 obtain ⟨i0,hi,hz0,hz1,hz2⟩:=info_parts IU
 have Rh:∀ (w:World) (a:Option Addr) (n c n' c':Nat),(binOp .eql 51 (.slice a n c) (.slice none n' c')).run Tryz.prog w=.ok (.bool a.isNone) w:=fun w a n c n' c'=>Lib.run_eql_slice_nil w _ _ a n c n' c' Tryz.underlying51
 cases A with
 | none =>
  have hl0:l=[]:=by
   cases l with
   | nil=>rfl
   | cons x l=>obtain ⟨b,off,cs,hA,_⟩:=h.2.2 0 (by simp);cases hA
  subst hl0
  go_enter Tryz.func51,Tryz.ntmps51
  go_wp2_with fail;go_ret;exact ⟨_,[],rfl,ag.refl _,dl _ _ _ _,cF.nil⟩
 | some ad =>
  have HC:∃ cI,cF w0 8 gI cI l∧∀ p u,cI.flatten[p]? = some u→w.cell? (ad.add p)=some u:=by
   by_cases h0:0 < l.length
   ·obtain ⟨b,off,cI,hA,hb',hch,hc⟩:=h.cI h0 (by decide)
    simp only [Option.some.injEq] at hA;subst hA;refine ⟨cI,hch,fun p u hp=>?_⟩
    have hlt:p < l.length*8:=by rw [← hch.len];exact (List.getElem?_eq_some_iff.1 hp).1
    rw [mD];exact ha.cell_kept ((hc p hlt).trans hp)
   ·have hl0:l=[]:=List.eq_nil_of_length_eq_zero (by omega)
    subst hl0;exact ⟨[],cF.nil,fun p u hp=>by simp at hp⟩
  obtain ⟨cI,hch,hcell⟩:=HC;have H1:=gH hcell
  have H2:Hid (∀ u∈cI.flatten,u.oneCell'=true):=gH (by
   intro u hu;obtain ⟨c,hc,hu⟩:=List.mem_flatten.1 hu;obtain ⟨i,hi,rfl⟩:=List.getElem_of_mem hc;have h3:=(hch.2 i hi (by rw [← hch.1];exact hi)).2;obtain ⟨A2,bT,hcs,_⟩:=h3;rw [hcs] at hu;simp only [List.mem_cons,List.not_mem_nil,or_false] at hu
   rcases hu with rfl | rfl | rfl | rfl | rfl | rfl | rfl | rfl<;>simp [Value.oneCell'])
  have H3:=gH hch;have HI:=gH hi;have qw:=gH hz0;have nS:=gH hz1;have mG:=gH hz2;clear hcell hch hi hz0 hz1 hz2 h ha
  go_enter Tryz.func51,Tryz.ntmps51
  go_wp2_with (at_builtin;refine wpList_append_own _ rfl _ _ 51 rfl w.heap.size 37 i0 (.agg #[.string ByteArray.empty,.int .i64 0,.slice none 0 0,.int .i64 0,.int .i64 0,.string ByteArray.empty,.string ByteArray.empty,.string ByteArray.empty]) 8 112 Tryz.underlying51 HI.out qw.out nS.out mG.out rfl (by decide) _ _ _ rfl (World.ownsRow_made w #[] 0 (Nat.le_refl _) (Nat.zero_le _) rfl) ad l.length cap cI.flatten rfl ?Ff ?Fg ?Fh ?Fi ?Fj ?Fk ?_)
  case Ff=>exact H3.out.len
  case Fg =>
   intro j u hj;exact Lib.cell?_alloc_some _ (H1.out j u hj)
  case Fh=>exact H2.out
  case Fi=>unfold maxLen;omega
  case Fj=>omega
  case Fk=>simp
  intro v' w1 hown hgrow hnil;have HO:=gH hown;have HA:=gH (show ag w w1 from ((Below.refl _ w).alloc (Nat.le_refl _) _).grown hgrow (by simp) (by intro k hk;simp [Value.ownBlock] at hk;omega));clear hown hgrow hnil;go_wp2_with fail;go_ret;refine ⟨v',cI,rfl,HA.out,?_,H3.out⟩
  simpa using HO.out
theorem IV:(Tryz.prog.info? 98).map (fun i=>(i.zero,i.size,i.bytes))=some (some (.agg #[.string ByteArray.empty,.int .i64 0,.bool false]),3,32):=by kernel_rfl
theorem vL (A:Option Addr) (cap:Nat) (l:List fc) (w0 w:World) (ha:ag w0 w) (h:aL w0 3 iv A cap l) (hb:l.length≤1000000) :
  Calls Tryz.prog 50 #[.slice A l.length cap] w (pd 98 3 iv w0 w l):=by
 obtain ⟨i0,hi,hz0,hz1,hz2⟩:=info_parts IV
 have Rh:∀ (w:World) (a:Option Addr) (n c n' c':Nat),(binOp .eql 34 (.slice a n c) (.slice none n' c')).run Tryz.prog w=.ok (.bool a.isNone) w:=fun w a n c n' c'=>Lib.run_eql_slice_nil w _ _ a n c n' c' Tryz.underlying34
 cases A with
 | none =>
  have hl0:l=[]:=by
   cases l with
   | nil=>rfl
   | cons x l=>obtain ⟨b,off,cs,hA,_⟩:=h.2.2 0 (by simp);cases hA
  subst hl0
  go_enter Tryz.func50,Tryz.ntmps50
  go_wp2_with fail;go_ret;exact ⟨_,[],rfl,ag.refl _,dl _ _ _ _,cF.nil⟩
 | some ad =>
  have HC:∃ cI,cF w0 3 iv cI l∧∀ p u,cI.flatten[p]? = some u→w.cell? (ad.add p)=some u:=by
   by_cases h0:0 < l.length
   ·obtain ⟨b,off,cI,hA,hb',hch,hc⟩:=h.cI h0 (by decide)
    simp only [Option.some.injEq] at hA;subst hA;refine ⟨cI,hch,fun p u hp=>?_⟩
    have hlt:p < l.length*3:=by rw [← hch.len];exact (List.getElem?_eq_some_iff.1 hp).1
    rw [mD];exact ha.cell_kept ((hc p hlt).trans hp)
   ·have hl0:l=[]:=List.eq_nil_of_length_eq_zero (by omega)
    subst hl0;exact ⟨[],cF.nil,fun p u hp=>by simp at hp⟩
  obtain ⟨cI,hch,hcell⟩:=HC;have H1:=gH hcell
  have H2:Hid (∀ u∈cI.flatten,u.oneCell'=true):=gH (by
   intro u hu;obtain ⟨c,hc,hu⟩:=List.mem_flatten.1 hu;obtain ⟨i,hi,rfl⟩:=List.getElem_of_mem hc;have h3:=(hch.2 i hi (by rw [← hch.1];exact hi)).2;obtain ⟨hcs,_⟩:=h3;rw [hcs] at hu;simp only [List.mem_cons,List.not_mem_nil,or_false] at hu
   rcases hu with rfl | rfl | rfl<;>simp [Value.oneCell'])
  have H3:=gH hch;have HI:=gH hi;have qw:=gH hz0;have nS:=gH hz1;have mG:=gH hz2;clear hcell hch hi hz0 hz1 hz2 h ha
  go_enter Tryz.func50,Tryz.ntmps50
  go_wp2_with (at_builtin;refine wpList_append_own _ rfl _ _ 34 rfl w.heap.size 98 i0 (.agg #[.string ByteArray.empty,.int .i64 0,.bool false]) 3 32 Tryz.underlying34 HI.out qw.out nS.out mG.out rfl (by decide) _ _ _ rfl (World.ownsRow_made w #[] 0 (Nat.le_refl _) (Nat.zero_le _) rfl) ad l.length cap cI.flatten rfl ?Ff ?Fg ?Fh ?Fi ?Fj ?Fk ?_)
  case Ff=>exact H3.out.len
  case Fg =>
   intro j u hj;exact Lib.cell?_alloc_some _ (H1.out j u hj)
  case Fh=>exact H2.out
  case Fi=>unfold maxLen;omega
  case Fj=>omega
  case Fk=>simp
  intro v' w1 hown hgrow hnil;have HO:=gH hown;have HA:=gH (show ag w w1 from ((Below.refl _ w).alloc (Nat.le_refl _) _).grown hgrow (by simp) (by intro k hk;simp [Value.ownBlock] at hk;omega));clear hown hgrow hnil;go_wp2_with fail;go_ret;refine ⟨v',cI,rfl,HA.out,?_,H3.out⟩
  simpa using HO.out
theorem IW:(Tryz.prog.info? 61).map (fun i=>(i.zero,i.size,i.bytes))=some (some (.agg #[.string ByteArray.empty,.string ByteArray.empty]),2,32):=by kernel_rfl
theorem qx (A:Option Addr) (cap:Nat) (l:List gj) (w0 w:World) (ha:ag w0 w) (h:aL w0 2 fk A cap l) (hb:l.length≤1000000) :
  Calls Tryz.prog 49 #[.slice A l.length cap] w (pd 61 2 fk w0 w l):=by
 obtain ⟨i0,hi,hz0,hz1,hz2⟩:=info_parts IW
 have Rh:∀ (w:World) (a:Option Addr) (n c n' c':Nat),(binOp .eql 22 (.slice a n c) (.slice none n' c')).run Tryz.prog w=.ok (.bool a.isNone) w:=fun w a n c n' c'=>Lib.run_eql_slice_nil w _ _ a n c n' c' Tryz.underlying22
 cases A with
 | none =>
  have hl0:l=[]:=by
   cases l with
   | nil=>rfl
   | cons x l=>obtain ⟨b,off,cs,hA,_⟩:=h.2.2 0 (by simp);cases hA
  subst hl0
  go_enter Tryz.func49,Tryz.ntmps49
  go_wp2_with fail;go_ret;exact ⟨_,[],rfl,ag.refl _,dl _ _ _ _,cF.nil⟩
 | some ad =>
  have HC:∃ cI,cF w0 2 fk cI l∧∀ p u,cI.flatten[p]? = some u→w.cell? (ad.add p)=some u:=by
   by_cases h0:0 < l.length
   ·obtain ⟨b,off,cI,hA,hb',hch,hc⟩:=h.cI h0 (by decide)
    simp only [Option.some.injEq] at hA;subst hA;refine ⟨cI,hch,fun p u hp=>?_⟩
    have hlt:p < l.length*2:=by rw [← hch.len];exact (List.getElem?_eq_some_iff.1 hp).1
    rw [mD];exact ha.cell_kept ((hc p hlt).trans hp)
   ·have hl0:l=[]:=List.eq_nil_of_length_eq_zero (by omega)
    subst hl0;exact ⟨[],cF.nil,fun p u hp=>by simp at hp⟩
  obtain ⟨cI,hch,hcell⟩:=HC;have H1:=gH hcell
  have H2:Hid (∀ u∈cI.flatten,u.oneCell'=true):=gH (by
   intro u hu;obtain ⟨c,hc,hu⟩:=List.mem_flatten.1 hu;obtain ⟨i,hi,rfl⟩:=List.getElem_of_mem hc;have h3:=(hch.2 i hi (by rw [← hch.1];exact hi)).2;obtain ⟨hcs,_⟩:=h3;rw [hcs] at hu;simp only [List.mem_cons,List.not_mem_nil,or_false] at hu
   rcases hu with rfl | rfl<;>simp [Value.oneCell'])
  have H3:=gH hch;have HI:=gH hi;have qw:=gH hz0;have nS:=gH hz1;have mG:=gH hz2;clear hcell hch hi hz0 hz1 hz2 h ha
  go_enter Tryz.func49,Tryz.ntmps49
  go_wp2_with (at_builtin;refine wpList_append_own _ rfl _ _ 22 rfl w.heap.size 61 i0 (.agg #[.string ByteArray.empty,.string ByteArray.empty]) 2 32 Tryz.underlying22 HI.out qw.out nS.out mG.out rfl (by decide) _ _ _ rfl (World.ownsRow_made w #[] 0 (Nat.le_refl _) (Nat.zero_le _) rfl) ad l.length cap cI.flatten rfl ?Ff ?Fg ?Fh ?Fi ?Fj ?Fk ?_)
  case Ff=>exact H3.out.len
  case Fg =>
   intro j u hj;exact Lib.cell?_alloc_some _ (H1.out j u hj)
  case Fh=>exact H2.out
  case Fi=>unfold maxLen;omega
  case Fj=>omega
  case Fk=>simp
  intro v' w1 hown hgrow hnil;have HO:=gH hown;have HA:=gH (show ag w w1 from ((Below.refl _ w).alloc (Nat.le_refl _) _).grown hgrow (by simp) (by intro k hk;simp [Value.ownBlock] at hk;omega));clear hown hgrow hnil;go_wp2_with fail;go_ret;refine ⟨v',cI,rfl,HA.out,?_,H3.out⟩
  simpa using HO.out
theorem IX:(Tryz.prog.info? 9).map (fun i=>(i.zero,i.size,i.bytes))=some (some (.string ByteArray.empty),1,16):=by kernel_rfl
theorem iq (A:Option Addr) (cap:Nat) (l:List ByteArray) (w0 w:World) (ha:ag w0 w) (h:aL w0 1 dK A cap l) (hb:l.length≤1000000) :
  Calls Tryz.prog 52 #[.slice A l.length cap] w (pd 9 1 dK w0 w l):=by
 obtain ⟨i0,hi,hz0,hz1,hz2⟩:=info_parts IX
 have Rh:∀ (w:World) (a:Option Addr) (n c n' c':Nat),(binOp .eql 26 (.slice a n c) (.slice none n' c')).run Tryz.prog w=.ok (.bool a.isNone) w:=fun w a n c n' c'=>Lib.run_eql_slice_nil w _ _ a n c n' c' Tryz.underlying26
 cases A with
 | none =>
  have hl0:l=[]:=by
   cases l with
   | nil=>rfl
   | cons x l=>obtain ⟨b,off,cs,hA,_⟩:=h.2.2 0 (by simp);cases hA
  subst hl0
  go_enter Tryz.func52,Tryz.ntmps52
  go_wp2_with fail;go_ret;exact ⟨_,[],rfl,ag.refl _,dl _ _ _ _,cF.nil⟩
 | some ad =>
  have HC:∃ cI,cF w0 1 dK cI l∧∀ p u,cI.flatten[p]? = some u→w.cell? (ad.add p)=some u:=by
   by_cases h0:0 < l.length
   ·obtain ⟨b,off,cI,hA,hb',hch,hc⟩:=h.cI h0 (by decide)
    simp only [Option.some.injEq] at hA;subst hA;refine ⟨cI,hch,fun p u hp=>?_⟩
    have hlt:p < l.length*1:=by rw [← hch.len];exact (List.getElem?_eq_some_iff.1 hp).1
    rw [mD];exact ha.cell_kept ((hc p hlt).trans hp)
   ·have hl0:l=[]:=List.eq_nil_of_length_eq_zero (by omega)
    subst hl0;exact ⟨[],cF.nil,fun p u hp=>by simp at hp⟩
  obtain ⟨cI,hch,hcell⟩:=HC;have H1:=gH hcell
  have H2:Hid (∀ u∈cI.flatten,u.oneCell'=true):=gH (by
   intro u hu;obtain ⟨c,hc,hu⟩:=List.mem_flatten.1 hu;obtain ⟨i,hi,rfl⟩:=List.getElem_of_mem hc;have h3:=(hch.2 i hi (by rw [← hch.1];exact hi)).2;obtain ⟨hcs,_⟩:=h3;rw [hcs] at hu;simp only [List.mem_cons,List.not_mem_nil,or_false] at hu
   rcases hu with rfl<;>simp [Value.oneCell'])
  have H3:=gH hch;have HI:=gH hi;have qw:=gH hz0;have nS:=gH hz1;have mG:=gH hz2;clear hcell hch hi hz0 hz1 hz2 h ha
  go_enter Tryz.func52,Tryz.ntmps52
  go_wp2_with (at_builtin;refine wpList_append_own _ rfl _ _ 26 rfl w.heap.size 9 i0 (.string ByteArray.empty) 1 16 Tryz.underlying26 HI.out qw.out nS.out mG.out rfl (by decide) _ _ _ rfl (World.ownsRow_made w #[] 0 (Nat.le_refl _) (Nat.zero_le _) rfl) ad l.length cap cI.flatten rfl ?Ff ?Fg ?Fh ?Fi ?Fj ?Fk ?_)
  case Ff=>exact H3.out.len
  case Fg =>
   intro j u hj;exact Lib.cell?_alloc_some _ (H1.out j u hj)
  case Fh=>exact H2.out
  case Fi=>unfold maxLen;omega
  case Fj=>omega
  case Fk=>simp
  intro v' w1 hown hgrow hnil;have HO:=gH hown;have HA:=gH (show ag w w1 from ((Below.refl _ w).alloc (Nat.le_refl _) _).grown hgrow (by simp) (by intro k hk;simp [Value.ownBlock] at hk;omega));clear hown hgrow hnil;go_wp2_with fail;go_ret;refine ⟨v',cI,rfl,HA.out,?_,H3.out⟩
  simpa using HO.out
structure Hd where
 a:Option Addr
 n:Nat
 c:Nat
def Hd.v (h:Hd):Value:=.slice h.a h.n h.c
structure Lay where
 qp:Nat→Hd
 nw:Nat→Hd
 fK:Nat→Nat→Hd
end Go.Proofs.YtmflccbnoeaafaaGreat
namespace Go.Proofs.YtmflccbnoeaafaaGreat
open Go.RowKit Go.Deep
set_option maxRecDepth 100000
set_option linter.unusedVariables false
set_option maxHeartbeats 64000000
def Hd.blk (h:Hd):List Nat:=match h.a with | some p=>[p.block] | none=>[]
theorem Hd.au {h:Hd} {g:Nat}:g∈h.blk↔h.v.ownBlock=some g:=by
 obtain ⟨a,n,c⟩:=h
 cases a<;>simp [Hd.blk,Hd.v,Value.ownBlock,eq_comm]
structure Kb (P:Nat→Prop) (w w':World):Prop where
 os:w'.os=w.os
 tape:w'.tape=w.tape
 output:w'.output=w.output
 size:w.heap.size≤w'.heap.size
 block:∀ k,k < w.heap.size→¬ P k→w'.heap[k]? = w.heap[k]?
theorem Kb.refl (P:Nat→Prop) (w:World):Kb P w w:=⟨rfl,rfl,rfl,Nat.le_refl _,fun _ _ _=>rfl⟩
theorem Kb.aH {P:Nat→Prop} {w w':World} (a:ag w w'):Kb P w w':=⟨a.os,a.tape,a.output,a.size,fun k hk _=>a.block k hk⟩
theorem Kb.ey {w w':World} {row:Option Nat} (h:w.grownBy w' row):Kb (fun k=>row=some k) w w':=⟨h.os,h.tape,h.output,h.size,fun k hk hn=>h.block k hk fun e=>hn e.symm⟩
theorem Kb.mono {P Q:Nat→Prop} {w w':World} (h:Kb P w w') (hq:∀ k,k < w.heap.size→P k→Q k):Kb Q w w':=⟨h.os,h.tape,h.output,h.size,fun k hk hn=>h.block k hk fun hp=>hn (hq k hk hp)⟩
theorem Kb.trans {P:Nat→Prop} {w w' w'':World} (h:Kb P w w') (h':Kb P w' w''):Kb P w w'' :=
 ⟨h'.os.trans h.os,h'.tape.trans h.tape,h'.output.trans h.output,Nat.le_trans h.size h'.size,fun k hk hn=>(h'.block k (Nat.lt_of_lt_of_le hk h.size) hn).trans (h.block k hk hn)⟩
theorem Kb.set (w:World) (g j:Nat) (v:Value):Kb (fun k=>k=g) w (w.setCell ⟨g,j,none⟩ v) :=
 ⟨rfl,rfl,rfl,by simp,fun k hk hn=>Below.heap_setCell _ _ _ _ hn⟩
theorem Kb.aZ {P:Nat→Prop} {W w w':World} (h:Kb P w w') (a:ag W w) (hP:∀ k,k < W.heap.size→¬ P k):ag W w' :=
 ⟨h.os.trans a.os,h.tape.trans a.tape,h.output.trans a.output,Nat.le_trans a.size h.size,fun k hk=>(h.block k (Nat.lt_of_lt_of_le hk a.size) (hP k hk)).trans (a.block k hk)⟩
theorem Kb.cell {P:Nat→Prop} {w w':World} (h:Kb P w w') {p:Addr} {v:Value} (hc:w.cell? p=some v) (hb:¬ P p.block):w'.cell? p=some v:=by
 have:=h.block p.block (World.block_lt_of_cell? w p hc) hb;unfold World.cell? at hc ⊢;rw [this];exact hc
theorem Kb.row {P:Nat→Prop} {w w':World} (h:Kb P w w') {g:Nat} {xs:List Value} (hr:ap w g xs) (hb:¬ P g):ap w' g xs:=by
 have:=h.block g hr.1 hb;refine ⟨Nat.lt_of_lt_of_le hr.1 h.size,fun j hj=>?_,fun j hj=>?_⟩
 ·rw [← hr.2.1 j hj];simp [World.cell?,this]
 ·rw [← hr.2.2 j hj];simp [World.frozen?,this]
theorem aP {P:Nat→Prop} {w w':World} {B size n:Nat} {e:TypeId} {v:Value} {xs:List Value} (h:w.ownsRow B e size v n xs) (k:Kb P w w') (hne:∀ g,v.ownBlock=some g→¬ P g):w'.ownsRow B e size v n xs:=by
 refine ⟨h.1,?_⟩
 rcases h.2 with hn | ⟨g,cap,cur,rfl,hb,nv,rest⟩
 ·exact .inl hn
 ·exact .inr ⟨g,cap,cur,rfl,hb,(k.block g (lt_of_block nv) (hne g rfl)).trans nv,rest⟩
theorem gm {w:World} {B size n:Nat} {e:TypeId} {h:Hd} {xs:List Value} (o:w.ownsRow B e size h.v n xs):h.n=n:=by
 rcases o.2 with ⟨hv,hn⟩ | ⟨g,cap,cur,hv,_⟩
 ·unfold Hd.v at hv;simp only [Value.slice.injEq] at hv;omega
 ·unfold Hd.v at hv;simp only [Value.slice.injEq] at hv;exact hv.2.1
theorem m9 {w:World} {B size n:Nat} {e:TypeId} {v:Value} {xs:List Value} (o:w.ownsRow B e size v n xs):∃ h:Hd,v=h.v∧h.n=n:=by
 rcases o.2 with ⟨hv,hn⟩ | ⟨g,cap,cur,hv,_⟩
 ·exact ⟨⟨none,0,0⟩,hv,hn.symm⟩
 ·exact ⟨⟨_,n,cap⟩,hv,rfl⟩
theorem bL {w:World} {B size n:Nat} {e:TypeId} {h:Hd} {xs:List Value} (o:w.ownsRow B e size h.v n xs):h.v=.slice h.a n h.c:=by
 have:=gm o;unfold Hd.v;rw [this]
theorem iF {w:World} {B B' size n:Nat} {e:TypeId} {v:Value} {xs:List Value} (h:w.ownsRow B e size v n xs) (hb:∀ g,v.ownBlock=some g→B'≤g):w.ownsRow B' e size v n xs:=by
 refine ⟨h.1,?_⟩
 rcases h.2 with hn | ⟨g,cap,cur,rfl,hb',rest⟩
 ·exact .inl hn
 ·exact .inr ⟨g,cap,cur,rfl,hb g rfl,rest⟩
theorem bV {w:World} {B B' size n:Nat} {e:TypeId} {v:Value} {xs:List Value} (h:w.ownsRow B e size v n xs) (hb:B'≤B):w.ownsRow B' e size v n xs :=
 iF h fun g hg=>Nat.le_trans hb (h.lt g hg).1
theorem aR {w:World} {B size n:Nat} {e:TypeId} {v:Value} {xs:List Value} (h:w.ownsRow B e size v n xs) (hn:0 < n):∃ g cap,v=.slice (some ⟨g,0,none⟩) n cap∧B≤g∧n≤cap∧ap w g xs:=by
 obtain ⟨A,cap,e,hc,hg⟩:=xY h;obtain ⟨g,hA,hb,hr⟩:=hg hn;exact ⟨g,cap,by rw [e,hA],hb,hc,hr⟩
theorem qa (w:World) (g j:Nat) (v:Value) {cur:Array Value} {e:TypeId} {f:Nat × Nat} (h:w.heap[g]? = some (.cells cur e f)):(w.setCell ⟨g,j,none⟩ v).heap[g]? = some (.cells (cur.setIfInBounds j v) e f):=by
 have hl:g < w.heap.size:=lt_of_block h
 have h':w.heap[g]=.cells cur e f:=by simpa [Array.getElem?_eq_getElem hl] using h
 show (w.heap.modify g _)[g]? = _
 rw [Array.getElem?_eq_getElem (by simpa using hl),Array.getElem_modify_self,h'];simp
theorem fB {w:World} {B size n:Nat} {e:TypeId} {v:Value} {xs:List Value} (h:w.ownsRow B e size v n xs) {g:Nat} (hg:v.ownBlock=some g) (j:Nat) (u:Value):(w.setCell ⟨g,j,none⟩ u).ownsRow B e size v n (xs.set j u):=by
 refine ⟨by rw [List.length_set];exact h.1,?_⟩
 rcases h.2 with ⟨rfl,_⟩ | ⟨g',cap,cur,rfl,hb,nv,mo,hm,hcs,Ax⟩
 ·simp [Value.ownBlock] at hg
 ·have:g'=g:=by simpa [Value.ownBlock] using hg
  subst this;refine .inr ⟨g',cap,cur.setIfInBounds j u,rfl,hb,qa w g' j u nv,mo,hm,by simpa using hcs,?_⟩;rw [Array.toList_setIfInBounds,List.take_set,Ax]
theorem IY {α:Type} {w:World} {B size:Nat} {e:TypeId} {h:Hd} {l:List α} {cI:List (List Value)} {R:World→List Value→α→Prop} (o:w.ownsRow B e size h.v l.length cI.flatten) (hc:cF w size R cI l) (hs:Small (l.length*16)):aL w size R h.a h.c l:=by
 obtain ⟨A,cap,hv,sl⟩:=Eu (xY o) hc hs;unfold Hd.v at hv;simp only [Value.slice.injEq] at hv;rw [hv.1,hv.2.2];exact sl
theorem BV {α:Type} {w:World} {size:Nat} {R:World→List Value→α→Prop} (f:α→List Value) (l:List α) (hf:∀ x∈l,(f x).length=size∧R w (f x) x):cF w size R (l.map f) l :=
 ⟨by simp,fun i h h'=>by simpa using hf l[i] (List.getElem_mem h')⟩
theorem en {α:Type} {w:World} {B size:Nat} {e:TypeId} {h:Hd} {l:List α} {R:World→List Value→α→Prop} (f:α→List Value) (o:w.ownsRow B e size h.v l.length (l.flatMap f)) (hf:∀ x∈l,(f x).length=size∧R w (f x) x) (hs:Small (l.length*16)):aL w size R h.a h.c l :=
 IY (cI:=l.map f) (by rw [← List.flatMap_def];exact o) (BV f l hf) hs
def bY (s:ByteArray):List Value:=[.string s]
def qM (c:fc):List Value:=[.string c.name,.int .i64 c.kind,.bool c.null]
def iJ (s:gj):List Value:=[.string s.name,.string s.owner]
def xd (r:gi) (h:Hd):List Value:=[.string r.name,.int .i64 r.kind,h.v,.int .i64 r.low,.int .i64 r.high,.string r.aa,.string r.table,.string r.key]
structure b7 where
 r:gi
 h:Hd
def b7.cells (x:b7):List Value:=xd x.r x.h
structure ay where
 aa:ByteArray
 name:ByteArray
 owner:ByteArray
 ak:List fc
 rules:List b7
 hc:Hd
 hr:Hd
def ay.t (x:ay):cu:=⟨x.aa,x.name,x.owner,x.ak,x.rules.map (·.r)⟩
def ay.cells (x:ay):List Value:=[.string x.aa,.string x.name,.string x.owner,x.hc.v,x.hr.v]
def ay.bI (x:ay):List Nat:=x.hc.blk++(x.hr.blk++x.rules.flatMap (·.h.blk))
structure kJ (w:World) (B:Nat) (x:b7):Prop where
 fK:w.ownsRow B 9 1 x.h.v x.r.ak.length (x.r.ak.flatMap bY)
structure dW (w:World) (B:Nat) (x:ay):Prop where
 qp:w.ownsRow B 98 3 x.hc.v x.ak.length (x.ak.flatMap qM)
 nw:w.ownsRow B 37 8 x.hr.v x.rules.length (x.rules.flatMap b7.cells)
 each:∀ r∈x.rules,kJ w B r
structure bC (w:World) (B:Nat) (hs ht:Hd) (ss:List gj) (L:List ay):Prop where
 gQ:w.ownsRow B 61 2 hs.v ss.length (ss.flatMap iJ)
 tab:w.ownsRow B 53 5 ht.v L.length (L.flatMap ay.cells)
 each:∀ x∈L,dW w B x
 nd:(hs.blk++(ht.blk++L.flatMap ay.bI)).Nodup
theorem kJ.kb {P:Nat→Prop} {w w':World} {B:Nat} {x:b7} (h:kJ w B x) (k:Kb P w w') (hne:∀ g∈x.h.blk,¬ P g):kJ w' B x:=⟨aP h.fK k fun g hg=>hne g (Hd.au.2 hg)⟩
theorem dW.kb {P:Nat→Prop} {w w':World} {B:Nat} {x:ay} (h:dW w B x) (k:Kb P w w') (hne:∀ g∈x.bI,¬ P g):dW w' B x :=
 ⟨aP h.qp k fun g hg=>hne g (by unfold ay.bI;simp [Hd.au.2 hg]),aP h.nw k fun g hg=>hne g (by unfold ay.bI;simp [Hd.au.2 hg]),
 fun r hr=>(h.each r hr).kb k fun g hg=>hne g (by unfold ay.bI;simp only [List.mem_append,List.mem_flatMap];exact .inr (.inr ⟨r,hr,hg⟩))⟩
theorem bC.kb {P:Nat→Prop} {w w':World} {B:Nat} {hs ht:Hd} {ss:List gj} {L:List ay} (h:bC w B hs ht ss L) (k:Kb P w w') (hne:∀ g∈hs.blk++(ht.blk++L.flatMap ay.bI),¬ P g):bC w' B hs ht ss L :=
 ⟨aP h.gQ k fun g hg=>hne g (by simp [Hd.au.2 hg]),aP h.tab k fun g hg=>hne g (by simp [Hd.au.2 hg]),
 fun x hx=>(h.each x hx).kb k fun g hg=>hne g (by simp only [List.mem_append,List.mem_flatMap];exact .inr (.inr ⟨x,hx,hg⟩)),h.nd⟩
theorem dW.az {w w':World} {B:Nat} {x:ay} (h:dW w B x) (a:ag w w'):dW w' B x:=h.kb (P:=fun _=>False) (Kb.aH a) fun _ _ h=>h
theorem bC.az {w w':World} {B:Nat} {hs ht:Hd} {ss:List gj} {L:List ay} (h:bC w B hs ht ss L) (a:ag w w'):bC w' B hs ht ss L:=h.kb (P:=fun _=>False) (Kb.aH a) fun _ _ h=>h
theorem fV {w:World} {B size n:Nat} {e:TypeId} {h:Hd} {xs:List Value} (o:w.ownsRow B e size h.v n xs):∀ g∈h.blk,B≤g∧g < w.heap.size:=fun g hg=>o.lt g (Hd.au.1 hg)
theorem dW.lt {w:World} {B:Nat} {x:ay} (h:dW w B x):∀ g∈x.bI,B≤g∧g < w.heap.size:=by
 intro g hg;unfold ay.bI at hg;simp only [List.mem_append,List.mem_flatMap] at hg
 rcases hg with hg | hg | ⟨r,hr,hg⟩
 ·exact fV h.qp g hg
 ·exact fV h.nw g hg
 ·exact fV (h.each r hr).fK g hg
theorem bC.lt {w:World} {B:Nat} {hs ht:Hd} {ss:List gj} {L:List ay} (h:bC w B hs ht ss L):∀ g∈hs.blk++(ht.blk++L.flatMap ay.bI),B≤g∧g < w.heap.size:=by
 intro g hg;simp only [List.mem_append,List.mem_flatMap] at hg
 rcases hg with hg | hg | ⟨x,hx,hg⟩
 ·exact fV h.gQ g hg
 ·exact fV h.tab g hg
 ·exact (h.each x hx).lt g hg
theorem kJ.down {w:World} {B B':Nat} {x:b7} (h:kJ w B x) (hb:B'≤B):kJ w B' x:=⟨bV h.fK hb⟩
theorem dW.down {w:World} {B B':Nat} {x:ay} (h:dW w B x) (hb:B'≤B):dW w B' x:=⟨bV h.qp hb,bV h.nw hb,fun r hr=>(h.each r hr).down hb⟩
theorem bC.down {w:World} {B B':Nat} {hs ht:Hd} {ss:List gj} {L:List ay} (h:bC w B hs ht ss L) (hb:B'≤B):bC w B' hs ht ss L:=⟨bV h.gQ hb,bV h.tab hb,fun x hx=>(h.each x hx).down hb,h.nd⟩
def Pm (r:gi):Prop:=Small (r.ak.length*16)∧(∀ s∈r.ak,Small s.size)∧Small r.name.size∧Small r.aa.size∧Small r.table.size∧Small r.key.size
def rI (t:cu):Prop:=(Small (t.ak.length*16)∧∀ c∈t.ak,Small c.name.size)∧(Small (t.rules.length*16)∧∀ r∈t.rules,Pm r)∧Small t.aa.size∧Small t.name.size∧Small t.owner.size
def Zh (l:List gj):Prop:=Small (l.length*16)∧∀ s∈l,Small s.name.size∧Small s.owner.size
def kA (o:bE):Prop:=Zh o.ae∧Small (o.tables.length*16)∧∀ t∈o.tables,rI t
theorem kP {α:Type} {w:World} {size:Nat} {R:World→List Value→α→Prop} {A:Option Addr} {cap:Nat} {l:List α} (h:aL w size R A cap l) {P:α→Prop} (hp:∀ cs x,R w cs x→P x):Small (l.length*16)∧∀ x∈l,P x:=by
 refine ⟨h.2.1,fun x hx=>?_⟩;obtain ⟨i,hi,rfl⟩:=List.getElem_of_mem hx;obtain ⟨b,off,cs,_,_,_,hR,_⟩:=h.2.2 i hi;exact hp cs _ hR
theorem gT {w:World} {A:Option Addr} {cap:Nat} {l:List ByteArray} (h:aL w 1 dK A cap l):Small (l.length*16)∧∀ s∈l,Small s.size:=kP h fun _ _ h=>h.2
theorem DU {w:World} {A:Option Addr} {cap:Nat} {l:List fc} (h:aL w 3 iv A cap l):Small (l.length*16)∧∀ c∈l,Small c.name.size:=kP h fun _ _ h=>h.2
theorem iy {w:World} {A:Option Addr} {cap:Nat} {l:List gj} (h:aL w 2 fk A cap l):Zh l:=kP h fun _ _ h=>h.2
theorem Pn {w:World} {cs:List Value} {r:gi} (h:gI w cs r):Pm r:=by
 obtain ⟨A,cap,_,hs,h1⟩:=h;exact ⟨(gT hs).1,(gT hs).2,h1⟩
theorem LS {w:World} {A:Option Addr} {cap:Nat} {l:List gi} (h:aL w 8 gI A cap l):Small (l.length*16)∧∀ r∈l,Pm r:=kP h fun _ _ h=>Pn h
theorem Po {w:World} {cs:List Value} {t:cu} (h:dA w cs t):rI t:=by
 obtain ⟨A,cap,A2,bT,_,hs,hr,h1⟩:=h;exact ⟨DU hs,LS hr,h1⟩
theorem iz {w:World} {A:Option Addr} {cap:Nat} {l:List cu} (h:aL w 5 dA A cap l):Small (l.length*16)∧∀ t∈l,rI t:=kP h fun _ _ h=>Po h
theorem kJ.W8 {w:World} {B:Nat} {x:b7} (h:kJ w B x) (hs:Pm x.r):gI w x.cells x.r :=
 ⟨x.h.a,x.h.c,by unfold b7.cells xd;rw [bL h.fK],en bY h.fK (fun s hm=>⟨rfl,rfl,hs.2.1 s hm⟩) hs.1,hs.2.2⟩
theorem dW.ak {w:World} {B:Nat} {x:ay} (h:dW w B x) (hs:rI x.t):aL w 3 iv x.hc.a x.hc.c x.ak :=
 en qM h.qp (fun c hm=>⟨rfl,rfl,hs.1.2 c hm⟩) hs.1.1
theorem zw {α β:Type} {w:World} {size:Nat} {R:World→List Value→β→Prop} (f:α→List Value) (g:α→β) (l:List α) (hf:∀ x∈l,(f x).length=size∧R w (f x) (g x)):cF w size R (l.map f) (l.map g) :=
 ⟨by simp,fun i h h'=>by
  have hi:i < l.length:=by simpa using h
  simpa using hf l[i] (List.getElem_mem hi)⟩
theorem wZ {α β:Type} {w:World} {B size:Nat} {e:TypeId} {h:Hd} {l:List α} {R:World→List Value→β→Prop} (f:α→List Value) (g:α→β) (o:w.ownsRow B e size h.v l.length (l.flatMap f)) (hf:∀ x∈l,(f x).length=size∧R w (f x) (g x)) (hs:Small (l.length*16)):aL w size R h.a h.c (l.map g) :=
 IY (cI:=l.map f) (by rw [← List.flatMap_def,List.length_map];exact o) (zw f g l hf) (by simpa using hs)
theorem dW.oU {w:World} {B:Nat} {x:ay} (h:dW w B x) (hs:rI x.t):aL w 8 gI x.hr.a x.hr.c (x.rules.map (·.r)) :=
 wZ b7.cells (·.r) h.nw (fun r hm=>⟨rfl,(h.each r hm).W8 (hs.2.1.2 r.r (List.mem_map_of_mem hm))⟩) (by simpa [ay.t] using hs.2.1.1)
theorem dW.cY {w:World} {B:Nat} {x:ay} (h:dW w B x) (hs:rI x.t):dA w x.cells x.t :=
 ⟨x.hc.a,x.hc.c,x.hr.a,x.hr.c,by unfold ay.cells;rw [bL h.qp,bL h.nw];simp [ay.t],h.ak hs,h.oU hs,hs.2.2⟩
def fL (ss:List gj) (L:List ay):bE:=⟨ss,L.map ay.t⟩
theorem bC.Ld {w:World} {B:Nat} {hs ht:Hd} {ss:List gj} {L:List ay} (h:bC w B hs ht ss L) (sm:kA (fL ss L)):aL w 2 fk hs.a hs.c ss :=
 en iJ h.gQ (fun s hm=>⟨rfl,rfl,sm.1.2 s hm⟩) sm.1.1
theorem bC.tabs {w:World} {B:Nat} {hs ht:Hd} {ss:List gj} {L:List ay} (h:bC w B hs ht ss L) (sm:kA (fL ss L)):aL w 5 dA ht.a ht.c (L.map ay.t) :=
 wZ ay.cells ay.t h.tab (fun x hm=>⟨rfl,(h.each x hm).cY (sm.2.2 _ (List.mem_map_of_mem hm))⟩) (by simpa [fL] using sm.2.1)
theorem mI {α:Type} {w:World} {B size:Nat} {e:TypeId} {h:Hd} {l:List α} {f:α→List Value} (o:w.ownsRow B e size h.v l.length (l.flatMap f)) (hf:∀ x,(f x).length=size) {g:Nat} (hg:h.a=some ⟨g,0,none⟩) {i j:Nat} (hi:i < l.length) (hj:j < size):w.cell? ⟨g,i*size+j,none⟩=(f l[i])[j]? := by
 obtain ⟨g',cap,hv,_,_,hr⟩:=aR o (by omega);unfold Hd.v at hv;simp only [Value.slice.injEq] at hv;rw [hg] at hv;simp only [Option.some.injEq,Addr.mk.injEq,and_true,true_and] at hv;obtain ⟨rfl,_⟩:=hv;rw [hr.2.1 _ (by rw [o.1];have:(i+1)*size≤l.length*size:=Nat.mul_le_mul_right _ hi;rw [Nat.succ_mul] at this;omega)];exact jd f size hf l i j hi hj
theorem dw {w:World} {B size n:Nat} {e:TypeId} {v:Value} {xs:List Value} (o:w.ownsRow B e size v n xs):∃ A cap,v=.slice A n cap:=by
 obtain ⟨h,hv,hn⟩:=m9 o;exact ⟨h.a,h.c,by rw [hv,← hn];rfl⟩
theorem fy {α:Type} {w:World} {size:Nat} {R:World→List Value→α→Prop} {f:α→List Value} (hf:∀ cs x,R w cs x→cs=f x):∀ {cI:List (List Value)} {l:List α},cF w size R cI l→cI.flatten=l.flatMap f:=by
 intro cI l h
 have:cI=l.map f:=by
  refine List.ext_getElem (by rw [h.1];simp) fun i h1 h2=>?_
  have hi:i < l.length:=by simpa using h2
  rw [List.getElem_map];exact hf _ _ (h.2 i h1 hi).2
 rw [this,List.flatMap_def]
theorem vM {w:World} {cI:List (List Value)} {l:List fc} (h:cF w 3 iv cI l):cI.flatten=l.flatMap qM:=fy (fun _ _ h=>h.1) h
theorem fG {w:World} {cI:List (List Value)} {l:List ByteArray} (h:cF w 1 dK cI l):cI.flatten=l.flatMap bY:=fy (fun _ _ h=>h.1) h
theorem qy {w:World} {cI:List (List Value)} {l:List gj} (h:cF w 2 fk cI l):cI.flatten=l.flatMap iJ:=fy (fun _ _ h=>h.1) h
theorem vN {w:World} {cI:List (List Value)} {l:List gi} (h:cF w 8 gI cI l):∃ L:List b7,L.map (·.r)=l∧cI=L.map b7.cells∧∀ x∈L,x.h.n=x.r.ak.length∧aL w 1 dK x.h.a x.h.c x.r.ak:=by
 have hex:∀ i,i < l.length→∃ x:b7,∀ (hi:i < l.length) (hc:i < cI.length),x.r=l[i]∧cI[i]=x.cells∧x.h.n=x.r.ak.length∧aL w 1 dK x.h.a x.h.c x.r.ak:=by
  intro i hi
  have hc:i < cI.length:=by rw [h.1];exact hi
  obtain ⟨_,A,cap,hcs,hs,_⟩:=h.2 i hc hi;exact ⟨⟨l[i],A,l[i].ak.length,cap⟩,fun _ _=>⟨rfl,hcs,rfl,hs⟩⟩
 obtain ⟨L,hL,hp⟩:=kz l.length _ hex;refine ⟨L,?_,?_,?_⟩
 ·refine List.ext_getElem (by simp [hL]) fun i h1 h2=>?_
  rw [List.getElem_map];exact (hp i (by simpa using h1) h2 (by rw [h.1];exact h2)).1
 ·refine List.ext_getElem (by simp [hL,h.1]) fun i h1 h2=>?_
  rw [List.getElem_map]
  have hi:i < L.length:=by simpa using h2
  exact (hp i hi (by omega) h1).2.1
 ·intro x hx
  obtain ⟨i,hi,rfl⟩:=List.getElem_of_mem hx;exact (hp i hi (by omega) (by rw [h.1];omega)).2.2
theorem ce {α:Type} {f:α→List Value} {size:Nat} (hf:∀ x,(f x).length=size) (l:List α):(l.flatMap f).length=l.length*size:=by
 rw [List.flatMap_def,sH _ (by intro c hc;obtain ⟨x,_,rfl⟩:=List.mem_map.1 hc;exact hf x),List.length_map]
theorem dm {α:Type} {f:α→List Value} {size:Nat} (hf:∀ x,(f x).length=size) (l:List α) (k j:Nat) (hk:k < l.length) (hj:j < size) (u:Value) (y:α) (hy:f y=(f l[k]).set j u):(l.flatMap f).set (k*size+j) u=(l.set k y).flatMap f:=by
 rw [List.flatMap_def,List.flatMap_def,xZ _ (by intro c hc;obtain ⟨x,_,rfl⟩:=List.mem_map.1 hc;exact hf x) k j (by simpa using hk) u hj,List.map_set]
 congr 1
 rw [hy];simp
theorem gy {l m:List Nat} {N:Nat} (h:l.Nodup) (hm:m.Nodup) (h1:∀ g∈l,g < N) (h2:∀ g∈m,N≤g):(l++m).Nodup :=
 List.nodup_append.2 ⟨h,hm,fun a ha b hb e=>by have:=h1 a ha;have:=h2 b hb;omega⟩
theorem cX (h:Hd):h.blk.Nodup:=by
 obtain ⟨a,n,c⟩:=h
 cases a<;>simp [Hd.blk]
theorem i6 (n c:Nat):(Hd.mk none n c).blk=[]:=rfl
theorem cM (p:Addr) (n c:Nat):(Hd.mk (some p) n c).blk=[p.block]:=rfl
theorem jN {w:World} {B size n:Nat} {e:TypeId} {h:Hd} {xs:List Value} (o:w.ownsRow B e size h.v n xs) (hn:0 < n):∃ g,h.a=some ⟨g,0,none⟩∧B≤g∧ap w g xs:=by
 obtain ⟨g,cap,hv,hb,_,hr⟩:=aR o hn;unfold Hd.v at hv;simp only [Value.slice.injEq] at hv;exact ⟨g,hv.1,hb,hr⟩
theorem eO {α:Type} {f:α→List Value} (hf:∀ x,∀ u∈f x,u.oneCell'=true) (l:List α):∀ u∈l.flatMap f,u.oneCell'=true:=by
 intro u hu;obtain ⟨x,_,hu⟩:=List.mem_flatMap.1 hu;exact hf x u hu
theorem vO (s:ByteArray):∀ u∈bY s,u.oneCell'=true:=by intro u hu;simp only [bY,List.mem_cons,List.not_mem_nil,or_false] at hu;subst hu;simp [Value.oneCell']
theorem Iw (s:fc):∀ u∈qM s,u.oneCell'=true:=by intro u hu;simp only [qM,List.mem_cons,List.not_mem_nil,or_false] at hu;rcases hu with rfl | rfl | rfl<;>simp [Value.oneCell']
theorem yL (s:gj):∀ u∈iJ s,u.oneCell'=true:=by intro u hu;simp only [iJ,List.mem_cons,List.not_mem_nil,or_false] at hu;rcases hu with rfl | rfl<;>simp [Value.oneCell']
theorem tu (s:b7):∀ u∈s.cells,u.oneCell'=true:=by intro u hu;simp only [b7.cells,xd,Hd.v,List.mem_cons,List.not_mem_nil,or_false] at hu;rcases hu with rfl | rfl | rfl | rfl | rfl | rfl | rfl | rfl<;>simp [Value.oneCell']
theorem ym (s:ay):∀ u∈s.cells,u.oneCell'=true:=by intro u hu;simp only [ay.cells,Hd.v,List.mem_cons,List.not_mem_nil,or_false] at hu;rcases hu with rfl | rfl | rfl | rfl | rfl<;>simp [Value.oneCell']
theorem sI:(Tryz.prog.info? 53).map (fun i=>(i.zero,i.size,i.bytes))=some (some (.agg #[.string ByteArray.empty,.string ByteArray.empty,.string ByteArray.empty,.slice none 0 0,.slice none 0 0]),5,96):=by kernel_rfl
theorem E5:(Tryz.prog.info? 61).map (fun i=>(i.zero,i.size,i.bytes))=some (some (.agg #[.string ByteArray.empty,.string ByteArray.empty]),2,32):=by kernel_rfl
theorem nL:(Tryz.prog.info? 9).map (fun i=>(i.zero,i.size,i.bytes))=some (some (.string ByteArray.empty),1,16):=by kernel_rfl
theorem vP:(Tryz.prog.info? 37).map (fun i=>(i.zero,i.size,i.bytes))=some (some (.agg #[.string ByteArray.empty,.int .i64 0,.slice none 0 0,.int .i64 0,.int .i64 0,.string ByteArray.empty,.string ByteArray.empty,.string ByteArray.empty]),8,112):=by kernel_rfl
theorem Fb:(Tryz.prog.info? 98).map (fun i=>(i.zero,i.size,i.bytes))=some (some (.agg #[.string ByteArray.empty,.int .i64 0,.bool false]),3,32):=by kernel_rfl
def Nx (w:World) (t:cu) (e:Ending) (w':World):Prop :=
 ∃ x:ay,x.t=t∧e=.returned (.agg #[.string t.aa,.string t.name,.string t.owner,.slice x.hc.a t.ak.length x.hc.c,.slice x.hr.a t.rules.length x.hr.c])∧ag w w'∧dW w' w.heap.size x∧x.bI.Nodup
def VX (w:World) (o:bE) (e:Ending) (w':World):Prop :=
 ∃ hs ht L,L.map ay.t=o.tables∧e=.returned (.agg #[.slice hs.a o.ae.length hs.c,.slice ht.a o.tables.length ht.c])∧ag w w'∧bC w' w.heap.size hs ht o.ae L
def N8 (o:bE):Prop:=o.ae.length≤1000000∧o.tables.length≤1000000∧∀ t∈o.tables,t.ak.length≤1000000∧t.rules.length≤1000000∧∀ r∈t.rules,r.ak.length≤1000000
def yw (v:Value):Option (DataW Value × List MemPlace):=some (.held v,[])
def eL (P:Program) (k:TypeId) (w:World) (b n:Nat) (z:Value) (f:List UInt8→Value):Prop :=
 ∃ D:DataW Value,Maps.IsMap D∧w.ownsMap P k yw b n D∧∀ s,D.atKey (.string s) (.held z)=.held (f s)
section
variable {P : Program} {k : TypeId} {w w' : World} {b n : Nat} {z : Value} {f : List UInt8 → Value}
theorem eL.lt (h:eL P k w b n z f):b < w.heap.size:=by obtain ⟨D,_,ho,_⟩:=h;exact ho.lt
theorem eL.kb {Q:Nat→Prop} (h:eL P k w b n z f) (kb:Kb Q w w') (hb:¬ Q b):eL P k w' b n z f:=by
 obtain ⟨D,hD,ho,hf⟩:=h;have hl:=ho.lt;obtain ⟨es,clock,hh,F,hs,he⟩:=ho;exact ⟨D,hD,⟨es,clock,(kb.block b hl hb).trans hh,F,hs,he⟩,hf⟩
theorem eL.az (h:eL P k w b n z f) (a:ag w w'):eL P k w' b n z f:=h.kb (Q:=fun _=>False) (Kb.aH a) (fun h=>h)
theorem eL.mono (h:eL P k w b n z f) {n':Nat} (hn:n≤n'):eL P k w b n' z f:=by
 obtain ⟨D,hD,ho,hf⟩:=h;exact ⟨D,hD,ho.mono hn,hf⟩
theorem nE (w:World) (z:Value):eL P k (w.alloc (.map #[] 0)) w.heap.size 0 z (fun _=>z) :=
 ⟨.map [],Maps.isMap_empty,World.ownsMap_made w P k yw,fun s=>rfl⟩
theorem tP (hk:P.underlying k=some .string) (s:ByteArray) (hs:s.size≤maxLen):keyOf P k (.string s)=some (.string s.data.toList):=by
 simp [keyOf,hk,mapKey,hs]
theorem eL.look {t e:TypeId} (h:eL P k w b n z f) (hk:P.underlying k=some .string) (ht:P.underlying t=some (.map k e)) (hz:(zeroValue e).run P w=.ok z w) (s:ByteArray) (hs:s.size≤maxLen) :
  (Instr.lookup t (.map (some b)) (.string s) false).run P w=.ok (f s.data.toList) w:=by
 obtain ⟨D,hD,ho,hf⟩:=h;obtain ⟨v,ps,hrun,hv⟩:=ho.lookup (Maps.string_keyed hk) ht hz (zd:=.held z) (zp:=[]) rfl (tP hk s hs);rw [hf] at hv;unfold yw at hv;simp only [Option.some.injEq,Prod.mk.injEq,DataW.held.injEq] at hv;rw [hrun,hv.1]
theorem eL.put {t e:TypeId} (h:eL P k w b n z f) (hk:P.underlying k=some .string) (ht:P.underlying t=some (.map k e)) (hn:n < maxLen) (s:ByteArray) (hs:s.size≤maxLen) (v:Value) :
  ∃ w',(Instr.mapUpdate t (.map (some b)) (.string s) v).run P w=.ok () w'∧eL P k w' b (n+1) z (fun x=>if x=s.data.toList then v else f x)∧w.grownBy w' (some b):=by
 obtain ⟨D,hD,ho,hf⟩:=h;obtain ⟨w',hrun,h1,h2⟩:=ho.update (Maps.string_keyed hk) ht hn (tP hk s hs) (val:=v) (d:=.held v) (ps:=[]) rfl;refine ⟨w',hrun,⟨D.put (.string s.data.toList) (.held v),hD.put _ _,h1,fun x=>?_⟩,h2⟩
 show _=DataW.held (if x=s.data.toList then v else f x)
 by_cases e:x=s.data.toList
 ·subst e
  rw [if_pos rfl];exact Maps.atKey_put_same hD (by trivial) _ _
 ·rw [if_neg e,Maps.atKey_put_other (by intro e2;exact e (Lit.string.inj e2))]
  exact hf x
end
end Go.Proofs.YtmflccbnoeaafaaGreat
namespace Go.Proofs.YtmflccbnoeaafaaGreat
open Go.RowKit
set_option maxRecDepth 100000
set_option linter.unusedVariables false
set_option maxHeartbeats 64000000
structure em where
 role:ByteArray
 of:ByteArray
structure fX where
 names:List ByteArray
 members:List em
def ia (_:World) (cs:List Value) (m:em):Prop:=cs=[.string m.role,.string m.of]∧Small m.role.size∧Small m.of.size
def fP (m:em):List Value:=[.string m.role,.string m.of]
abbrev dR:=List UInt8
def txt (s:ByteArray):dR:=s.data.toList
def succ (ms:List em) (s:dR):List ByteArray:=(ms.filter fun m=>txt m.role==s).map (·.of)
inductive Reach (ms:List em):dR→dR→Prop
 | refl (s:dR):Reach ms s s
 | step {s t u:dR} {x:ByteArray}:Reach ms s t→x∈succ ms t→txt x=u→Reach ms s u
theorem Reach.trans {ms:List em} {s t u:dR} (h1:Reach ms s t) (h2:Reach ms t u):Reach ms s u:=by
 induction h2 with
 | refl=>exact h1
 | step _ hx he ih=>exact .step ih hx he
theorem Reach.head {ms:List em} {s u:dR} {x:ByteArray} (hx:x∈succ ms s) (h:Reach ms (txt x) u):Reach ms s u:=(Reach.step (.refl s) hx rfl).trans h
theorem Reach.closed {ms:List em} {s u:dR} (h:Reach ms s u) (p:dR→Prop) (h0:p s) (hc:∀ t,p t→∀ x∈succ ms t,p (txt x)):p u:=by
 induction h with
 | refl=>exact h0
 | step _ hx he ih=>rw [← he];exact hc _ ih _ hx
def xe (ms:List em) (U:List dR) (c:dR→Nat):Nat:=(U.map fun s=>if c s=0 then (succ ms s).length else 0).sum
def mu (U:List dR) (c:dR→Nat):Nat:=(U.filter fun s=>c s==0).length
theorem zx {ms:List em} {U:List dR} {c c':dR→Nat} (h:∀ s,c s≤c' s):xe ms U c'≤xe ms U c:=by
 induction U with
 | nil=>simp [xe]
 | cons a U ih =>
  unfold xe at ih ⊢;simp only [List.map_cons,List.sum_cons];have:=h a;by_cases h1:c a=0
  ·by_cases h2:c' a=0<;>simp [h1,h2]<;>omega
  ·have h2:c' a≠0:=by omega
   simp [h1,h2];omega
theorem DV {U:List dR} {c c':dR→Nat} (h:∀ s,c s≤c' s):mu U c'≤mu U c:=by
 induction U with
 | nil=>simp [mu]
 | cons a U ih =>
  unfold mu at ih ⊢;have:=h a;by_cases h1:c a=0
  ·by_cases h2:c' a=0<;>simp [h1,h2]<;>omega
  ·have h2:c' a≠0:=by omega
   simp [h1,h2];omega
def bump (c:dR→Nat) (s:dR):dR→Nat:=fun x=>if x=s then c s+1 else c x
theorem qb (c:dR→Nat) (s x:dR):c x≤bump c s x:=by unfold bump;split<;>simp_all
theorem IZ {ms:List em} {U:List dR} {c:dR→Nat} {s:dR} (hs:s∈U) (h0:c s=0):xe ms U (bump c s)+(succ ms s).length≤xe ms U c:=by
 induction U with
 | nil=>simp at hs
 | cons a U ih =>
  unfold xe at ih ⊢;simp only [List.map_cons,List.sum_cons];by_cases e:a=s
  ·subst e
   have hm:xe ms U (bump c a)≤xe ms U c:=zx (qb c a);unfold xe at hm
   have hb:bump c a a≠0:=by simp [bump]
   simp only [h0,if_true,if_neg hb];omega
  ·have hs':s∈U:=(List.mem_cons.1 hs).resolve_left (fun h=>e h.symm)
   have:=ih hs'
   have hb:bump c s a=c a:=by simp [bump,e]
   rw [hb];omega
theorem LU {U:List dR} {c:dR→Nat} {s:dR} (hs:s∈U) (h0:c s=0):mu U (bump c s) < mu U c:=by
 induction U with
 | nil=>simp at hs
 | cons a U ih =>
  unfold mu at ih ⊢;by_cases e:a=s
  ·subst e
   have hm:mu U (bump c a)≤mu U c:=DV (qb c a);unfold mu at hm
   have hb:(bump c a a==0)=false:=by simp [bump]
   simp only [List.filter_cons,h0,hb,beq_self_eq_true,if_true,Bool.false_eq_true,if_false,List.length_cons];omega
  ·have hs':s∈U:=(List.mem_cons.1 hs).resolve_left (fun h=>e h.symm)
   have:=ih hs'
   have hb:bump c s a=c a:=by simp [bump,e]
   simp only [List.filter_cons,hb]
   split<;>simp<;>omega
structure Grown (ms:List em) (U:List dR) (r:dR) (c:dR→Nat) (n:Nat) (c':dR→Nat) (n':Nat):Prop where
 le:∀ s,c s≤c' s
 has:0 < c' r
 bd:∀ s,c' s≤n'
 src:∀ s,0 < c' s→0 < c s∨Reach ms r s
 shut:∀ s,0 < c' s→0 < c s∨∀ x∈succ ms s,0 < c' (txt x)
 size:n'+xe ms U c'≤n+1+xe ms U c
structure LV (ms:List em) (U:List dR) (r:dR) (c:dR→Nat) (n k:Nat) (c':dR→Nat) (n':Nat):Prop where
 le:∀ s,c s≤c' s
 has:0 < c' r
 bd:∀ s,c' s≤n'
 src:∀ s,0 < c' s→0 < c s∨Reach ms r s
 did:∀ x∈(succ ms r).take k,0 < c' (txt x)
 shut:∀ s,0 < c' s→0 < c s∨s=r∨∀ x∈succ ms s,0 < c' (txt x)
 size:n'+xe ms U c'+(succ ms r).length≤n+1+k+xe ms U c
 mu:mu U c' < mu U c
theorem qc {c:dR→Nat} {r s:dR} (h:0 < bump c r s):0 < c s∨s=r:=by
 unfold bump at h;by_cases e:s=r
 ·exact .inr e
 ·rw [if_neg e] at h;exact .inl h
theorem qQ (c:dR→Nat) (r:dR):bump c r r=c r+1:=by simp [bump]
theorem DW {c:dR→Nat} {r:dR} {n:Nat} (h:∀ s,c s≤n) (s:dR):bump c r s≤n+1:=by
 unfold bump;have h1:=h s;have h2:=h r
 split<;>omega
theorem Grown.again {ms:List em} {U:List dR} {r:dR} {c:dR→Nat} {n:Nat} (h:∀ s,c s≤n) (h0:0 < c r):Grown ms U r c n (bump c r) (n+1) :=
 ⟨qb c r,by rw [qQ];omega,DW h,fun s hs=>by
  rcases qc hs with h1 | rfl
  ·exact .inl h1
  ·exact .inl h0,fun s hs=>by
  rcases qc hs with h1 | rfl
  ·exact .inl h1
  ·exact .inl h0,by have:=zx (ms:=ms) (U:=U) (qb c r);omega⟩
theorem LV.start {ms:List em} {U:List dR} {r:dR} {c:dR→Nat} {n:Nat} (h:∀ s,c s≤n) (hr:r∈U) (h0:c r=0):LV ms U r c n 0 (bump c r) (n+1) :=
 ⟨qb c r,by rw [qQ];omega,DW h,fun s hs=>by
  rcases qc hs with h1 | rfl
  ·exact .inl h1
  ·exact .inr (.refl _),fun x hx=>by simp at hx,fun s hs=>by
  rcases qc hs with h1 | rfl
  ·exact .inl h1
  ·exact .inr (.inl rfl),by have:=IZ (ms:=ms) hr h0;omega,LU hr h0⟩
theorem LV.step {ms:List em} {U:List dR} {r:dR} {c c1 c2:dR→Nat} {n n1 n2 k:Nat} (h:LV ms U r c n k c1 n1) (hk:k < (succ ms r).length) (g:Grown ms U (txt (succ ms r)[k]) c1 n1 c2 n2):LV ms U r c n (k+1) c2 n2 :=
 ⟨fun s=>Nat.le_trans (h.le s) (g.le s),Nat.lt_of_lt_of_le h.has (g.le r),g.bd,fun s hs=>by
  rcases g.src s hs with h1 | h1
  ·exact h.src s h1
  ·exact .inr (.head (List.getElem_mem hk) h1),fun x hx=>by
  rw [List.take_succ_eq_append_getElem hk,List.mem_append,List.mem_singleton] at hx
  rcases hx with hx | rfl
  ·exact Nat.lt_of_lt_of_le (h.did x hx) (g.le _)
  ·exact g.has,fun s hs=>by
  rcases g.shut s hs with h1 | h1
  ·rcases h.shut s h1 with h2 | h2 | h2
   ·exact .inl h2
   ·exact .inr (.inl h2)
   ·exact .inr (.inr fun x hx=>Nat.lt_of_lt_of_le (h2 x hx) (g.le _))
  ·exact .inr (.inr h1),by have:=h.size;have:=g.size;omega,Nat.lt_of_le_of_lt (DV g.le) h.mu⟩
theorem LV.all {ms:List em} {U:List dR} {r:dR} {c c':dR→Nat} {n n' k:Nat} (h:LV ms U r c n k c' n') (hk:k=(succ ms r).length):Grown ms U r c n c' n' :=
 ⟨h.le,h.has,h.bd,h.src,fun s hs=>by
  rcases h.shut s hs with h1 | rfl | h1
  ·exact .inl h1
  ·exact .inr fun x hx=>h.did x (by rw [hk,List.take_length];exact hx)
  ·exact .inr h1,by have:=h.size;omega⟩
theorem Grown.reach {ms:List em} {U:List dR} {r:dR} {n:Nat} {c':dR→Nat} {n':Nat} (g:Grown ms U r (fun _=>0) n c' n') (s:dR):0 < c' s↔Reach ms r s:=by
 constructor
 ·intro h
  rcases g.src s h with h1 | h1
  ·omega
  ·exact h1
 ·intro h
  refine h.closed (fun t=>0 < c' t) g.has fun t ht x hx=>?_
  rcases g.shut t ht with h1 | h1
  ·omega
  ·exact h1 x hx
end Go.Proofs.YtmflccbnoeaafaaGreat
namespace Go.Proofs.YtmflccbnoeaafaaGreat
open Go.RowKit Go.Deep
set_option maxRecDepth 100000
set_option linter.unusedVariables false
set_option maxHeartbeats 64000000
def nY (c:dR→Nat):dR→Value:=fun s=>.int .i64 (c s)
theorem qd (w:World):(zeroValue 3).run Tryz.prog w=.ok (.int .i64 0) w:=by kernel_rfl
theorem ln (w:World):(zeroValue 26).run Tryz.prog w=.ok (.slice none 0 0) w:=by kernel_rfl
def na (w:World) (ms:List em) (bf bn N:Nat):Prop :=
 ∃ nx:dR→Value,eL Tryz.prog 9 w bn N (.slice none 0 0) nx∧∀ s,∃ h:Hd,nx s=h.v∧w.ownsRow 0 9 1 h.v (succ ms s).length ((succ ms s).flatMap bY)∧bf∉h.blk
structure kS (w:World) (ms:List em) (pf pn pw bf bn N:Nat):Prop where
 cf:w.cell? ⟨pf,0,none⟩=some (.map (some bf))
 cn:w.cell? ⟨pn,0,none⟩=some (.map (some bn))
 cw:w.cell? ⟨pw,0,none⟩=some (.func (.func 117) #[] #[.pointer (some ⟨pf,0,none⟩),.pointer (some ⟨pn,0,none⟩),.pointer (some ⟨pw,0,none⟩)])
 nx:na w ms bf bn N
 ne:pf≠bf∧pn≠bf∧pw≠bf∧bn≠bf
theorem na.kb {w w':World} {ms:List em} {bf bn N:Nat} (h:na w ms bf bn N) (k:Kb (fun g=>g=bf) w w') (hb:bn≠bf):na w' ms bf bn N:=by
 obtain ⟨nx,h1,h2⟩:=h;refine ⟨nx,h1.kb k hb,fun s=>?_⟩;obtain ⟨h,e,o,n⟩:=h2 s;exact ⟨h,e,aP o k fun g hg e2=>n (by subst e2;exact Hd.au.2 hg),n⟩
theorem kS.kb {w w':World} {ms:List em} {pf pn pw bf bn N:Nat} (h:kS w ms pf pn pw bf bn N) (k:Kb (fun g=>g=bf) w w'):kS w' ms pf pn pw bf bn N :=
 ⟨k.cell h.cf h.ne.1,k.cell h.cn h.ne.2.1,k.cell h.cw h.ne.2.2.1,h.nx.kb k h.ne.2.2.2,h.ne⟩
def DX (w:World) (ms:List em) (U:List dR) (bf:Nat) (r:dR) (c:dR→Nat) (n:Nat) (e:Ending) (w':World):Prop :=
 e=.returned (.tuple #[])∧Kb (fun g=>g=bf) w w'∧∃ (c':dR→Nat) (n':Nat),eL Tryz.prog 9 w' bf n' (.int .i64 0) (nY c')∧Grown ms U r c n c' n'
def Pp (w:World) (ms:List em) (U:List dR) (bf:Nat) (r:dR) (c:dR→Nat) (n k:Nat) (w':World):Prop :=
 Kb (fun g=>g=bf) w w'∧∃ (c':dR→Nat) (n':Nat),eL Tryz.prog 9 w' bf n' (.int .i64 0) (nY c')∧LV ms U r c n k c' n'
theorem BW {ms:List em} (sm:Small (ms.length*16)∧∀ m∈ms,Small m.of.size) (s:dR):Small ((succ ms s).length*16)∧∀ x∈succ ms s,Small x.size:=by
 unfold succ
 constructor
 ·have h1:=sm.1
  have h2:(ms.filter fun m=>txt m.role==s).length≤ms.length:=List.length_filter_le _ _;unfold Small at h1 ⊢;rw [List.length_map];omega
 ·intro x hx
  rw [List.mem_map] at hx;obtain ⟨m,hm,rfl⟩:=hx;exact sm.2 m (List.mem_filter.1 hm).1
theorem I0 {c:dR→Nat} {r:dR}:(fun x=>if x=r then Value.int .i64 ((c r:Int)+1) else nY c x)=nY (bump c r):=by
 funext x
 unfold nY bump
 split<;>simp_all
theorem tQ {ms:List em} {pf pn pw bf bn N:Nat} {role:ByteArray} {c:dR→Nat} {n:Nat} {w:World} (lp:Small role.size) (hn:n < 140737488351232) (S:kS w ms pf pn pw bf bn N) (M:eL Tryz.prog 9 w bf n (.int .i64 0) (nY c)) :
  (Instr.lookup 121 (.map (some bf)) (.string role) false).run Tryz.prog w=.ok (.int .i64 (c (txt role))) w ∧
  ∃ w1,(Instr.mapUpdate 121 (.map (some bf)) (.string role) (.int .i64 ((c (txt role):Int)+1))).run Tryz.prog w=.ok () w1∧(Instr.lookup 121 (.map (some bf)) (.string role) false).run Tryz.prog w1=.ok (.int .i64 ((c (txt role):Int)+1)) w1∧kS w1 ms pf pn pw bf bn N∧eL Tryz.prog 9 w1 bf (n+1) (.int .i64 0) (nY (bump c (txt role)))∧Kb (fun g=>g=bf) w w1:=by
 obtain ⟨w1,p1,M1,g1⟩:=M.put Tryz.underlying9 Tryz.underlying121 (by unfold maxLen;omega) role lp.max (Value.int .i64 ((c (txt role):Int)+1))
 have k1:Kb (fun g=>g=bf) w w1:=(Kb.ey g1).mono fun g _ e=>(Option.some.inj e).symm
 have M2:eL Tryz.prog 9 w1 bf (n+1) (.int .i64 0) (nY (bump c (txt role))):=by rw [← I0];exact M1
 refine ⟨M.look Tryz.underlying9 Tryz.underlying121 (qd w) role lp.max,w1,p1,?_,S.kb k1,M2,k1⟩;rw [M2.look Tryz.underlying9 Tryz.underlying121 (qd w1) role lp.max]
 show Result.ok (Value.int .i64 ((bump c (txt role) (txt role):Nat):Int)) w1=_
 rw [qQ];simp
theorem rO (ms:List em) (U:List dR) (pf pn pw bf bn N:Nat) (role:ByteArray) (c:dR→Nat) (n:Nat) (w:World) (lp:Small role.size) (hn:n < 140737488351232) (Fv:∀ s,c s≤n) (S:kS w ms pf pn pw bf bn N) (M:eL Tryz.prog 9 w bf n (.int .i64 0) (nY c)) (h0:0 < c (txt role)) :
  Calls Tryz.prog 117 #[.string role,.pointer (some ⟨pf,0,none⟩),.pointer (some ⟨pn,0,none⟩),.pointer (some ⟨pw,0,none⟩)] w (DX w ms U bf (txt role) c n):=by
 have cf:=S.cf;have hcn:=Fv (txt role);obtain ⟨l1,w1,p1,l2,S1,M1,k1⟩:=tQ lp hn S M;have Zi:=S1.cf;have H1:=gH (And.intro S1 (And.intro M1 k1));have HB:=gH Fv;have H0:=gH h0;obtain ⟨q,hq⟩:∃ q,q=c (txt role):=⟨_,rfl⟩;rw [← hq] at l1 p1 l2 hcn h0;have HQ:=gH hq;clear S M S1 M1 k1 Fv hq
 go_enter Tryz.func117,Tryz.ntmps117
 go_wp2_with fail
 go_end0
 exact ⟨rfl,H1.out.2.2,_,_,H1.out.2.1,Grown.again HB.out H0.out⟩
theorem zA (ms:List em) (U:List dR) (pf pn pw bf bn N:Nat) (sm:Small (ms.length*16)∧∀ m∈ms,Small m.of.size) (hU:∀ s∈U,∀ x∈succ ms s,txt x∈U) (role:ByteArray) (c:dR→Nat) (n:Nat) (w:World) (lp:Small role.size) (Pq:txt role∈U) (Fv:∀ s,c s≤n) (hsz:n+1+xe ms U c≤140737488351232) (S:kS w ms pf pn pw bf bn N) (M:eL Tryz.prog 9 w bf n (.int .i64 0) (nY c)) (h0:c (txt role)=0)
  (ih:∀ (x:ByteArray) (c1:dR→Nat) (n1:Nat) (w1:World),mu U c1 < mu U c→Small x.size→txt x∈U→(∀ s,c1 s≤n1)→n1+1+xe ms U c1≤140737488351232→kS w1 ms pf pn pw bf bn N→eL Tryz.prog 9 w1 bf n1 (.int .i64 0) (nY c1) →
   Calls Tryz.prog 117 #[.string x,.pointer (some ⟨pf,0,none⟩),.pointer (some ⟨pn,0,none⟩),.pointer (some ⟨pw,0,none⟩)] w1 (DX w1 ms U bf (txt x) c1 n1)) :
  Calls Tryz.prog 117 #[.string role,.pointer (some ⟨pf,0,none⟩),.pointer (some ⟨pn,0,none⟩),.pointer (some ⟨pw,0,none⟩)] w (DX w ms U bf (txt role) c n):=by
 have cf:=S.cf;obtain ⟨l1,w1,p1,l2,S1,M1,k1⟩:=tQ lp (by omega) S M;rw [h0] at l1 p1 l2;simp only [Int.natCast_zero,Int.zero_add] at l1 p1 l2;have Zi:=S1.cf;have cn1:=S1.cn;obtain ⟨nx,N1,N2⟩:=S.nx;obtain ⟨h,hh,ho,hb⟩:=N2 (txt role);have l3:=(N1.kb k1 S.ne.2.2.2).look Tryz.underlying9 Tryz.underlying112 (ln w1) role lp.max
 replace l3:_=Result.ok (Value.slice h.a (succ ms (txt role)).length h.c) w1:=l3.trans (by rw [show nx role.data.toList=nx (txt role) from rfl,hh,bL ho])
 obtain ⟨sl,ss⟩:=BW sm (txt role)
 have eT:∀ w',Kb (fun g=>g=bf) w w'→aL w' 1 dK h.a h.c (succ ms (txt role)):=fun w' k=>en bY (aP ho k fun g hg e2=>hb (by subst e2;exact Hd.au.2 hg)) (fun x hx=>⟨rfl,rfl,ss x hx⟩) sl
 have hlen:=(eT w1 k1).len;have HS:=gH eT;have H1:=gH S;have HM:=gH (show Pp w ms U bf (txt role) c n 0 w1 from ⟨k1,_,_,M1,LV.start Fv Pq h0⟩);have HU:=gH (show ∀ x∈succ ms (txt role),txt x∈U∧Small x.size from fun x hx=>⟨hU _ Pq x hx,ss x hx⟩);have IH:=gH ih;have HSZ:=gH hsz;obtain ⟨ha,hn,hc⟩:=h;dsimp only at l3 HS;obtain ⟨l,hl⟩:∃ l,l=succ ms (txt role):=⟨_,rfl⟩;rw [← hl] at l3 hlen HS HU;have HL:=gH hl;clear S M S1 M1 k1 Fv N1 N2 hh ho hb sm hU Pq ih sl ss eT hl h0 hsz
 go_enter Tryz.func117,Tryz.ntmps117
 go_wp2_with fail
 go_loopw [19] (fun i wr=>∃ k:Nat,k≤l.length∧i=.int .i64 k∧Pp w ms U bf (txt role) c n k wr) (fun i _=>l.length - (intOf i).toNat)
 case atStart=>exact ⟨0,Nat.zero_le _,rfl,HM.out⟩
 case round =>
  clear HM l1 l2 l3 p1 cf Zi cn1;obtain ⟨k,hk,rfl,Pr⟩:=hrel;by_cases hlt:k < l.length
  ·obtain ⟨kb,c',n',M',md⟩:=Pr
   have S':=H1.out.kb kb;obtain ⟨b,off,rfl,hb,d0,ds⟩:=gw (HS.out wr kb) hlt;obtain ⟨x,hx⟩:∃ x,l[k]=x:=⟨_,rfl⟩;rw [hx] at d0 ds;have cw:=S'.cw
   have N7:x∈l:=by rw [← hx];exact List.getElem_mem hlt
   have vQ:k < (succ ms (txt role)).length:=by rw [← HL.out];exact hlt
   have Nd:(succ ms (txt role))[k]=x:=by rw [← hx];congr 1;exact HL.out.symm
   have C:=gH (IH.out x c' n' wr md.mu (HU.out x N7).2 (HU.out x N7).1 md.bd (by have:=md.size;have:=HSZ.out;omega) S' M');have Vv:=gH (And.intro kb md);clear kb M' md S' hx N7
   go_wp2_with (go_at_call 117;refine C.out.mono ?_;rintro e w2 ⟨rfl,Rk,c2,n2,M2,g2⟩;have HMN:=gH (show Pp w ms U bf (txt role) c n (k+1) w2 from ⟨Vv.out.1.trans Rk,c2,n2,M2,Vv.out.2.step vQ (by rw [Nd];exact g2)⟩);clear Rk M2 g2)
   go_roundw
   case rel=>exact ⟨k+1,by omega,by go_num,HMN.out⟩
   case measure=>simp [intOf];omega
  ·have Vv:=gH Pr
   clear Pr;go_wp2_with fail
   go_end0
   have uh:k=(succ ms (txt role)).length:=by rw [← HL.out];omega
   obtain ⟨kb,c',n',M',md⟩:=Vv.out;exact ⟨rfl,kb,c',n',M',md.all uh⟩
theorem LW {U:List dR} {c:dR→Nat} {r:dR} (hr:r∈U) (h:mu U c=0):c r≠0:=by
 intro e;unfold mu at h
 have:r∈U.filter fun s=>c s==0:=List.mem_filter.2 ⟨hr,by simp [e]⟩
 rw [List.eq_nil_of_length_eq_zero h] at this;simp at this
theorem I1 (ms:List em) (U:List dR) (pf pn pw bf bn N:Nat) (sm:Small (ms.length*16)∧∀ m∈ms,Small m.of.size) (hU:∀ s∈U,∀ x∈succ ms s,txt x∈U) :
  ∀ (m:Nat) (role:ByteArray) (c:dR→Nat) (n:Nat) (w:World),mu U c≤m→Small role.size→txt role∈U→(∀ s,c s≤n)→n+1+xe ms U c≤140737488351232→kS w ms pf pn pw bf bn N→eL Tryz.prog 9 w bf n (.int .i64 0) (nY c) →
   Calls Tryz.prog 117 #[.string role,.pointer (some ⟨pf,0,none⟩),.pointer (some ⟨pn,0,none⟩),.pointer (some ⟨pw,0,none⟩)] w (DX w ms U bf (txt role) c n):=by
 intro m
 induction m with
 | zero =>
  intro role c n w hmu lp Pq Fv hsz S M;exact rO ms U pf pn pw bf bn N role c n w lp (by omega) Fv S M (Nat.pos_of_ne_zero (LW Pq (by omega)))
 | succ m ih =>
  intro role c n w hmu lp Pq Fv hsz S M;by_cases h0:c (txt role)=0
  ·exact zA ms U pf pn pw bf bn N sm hU role c n w lp Pq Fv hsz S M h0 fun x c1 n1 w1 h1 h2 h3 h4 h5 h6 h7=>ih x c1 n1 w1 (by omega) h2 h3 h4 h5 h6 h7
  ·exact rO ms U pf pn pw bf bn N role c n w lp (by omega) Fv S M (Nat.pos_of_ne_zero h0)
end Go.Proofs.YtmflccbnoeaafaaGreat
