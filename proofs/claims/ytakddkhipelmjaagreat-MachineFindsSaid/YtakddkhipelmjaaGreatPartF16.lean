import Derived.RangeFuncNested
import Derived.RangeFuncBound
import Derived.RangeFuncCalls
import Derived.RangeFuncLeaves
import Derived.Shelf.Abstract
import Derived.Shelf.RegionOpen
import Derived.OwnWalkIn
import Derived.TacticsInMore
import Derived.LoopNIn
import Derived.LoopIn
import Derived.Test.YtakddkhipelmjaaGreatPartF15
set_option maxRecDepth 100000
set_option linter.unusedVariables false
set_option maxHeartbeats 64000000
namespace Go.Proofs.YtakddkhipelmjaaGreat
open Go.Deep Go.RowKit
theorem yX {w:World} {b:Nat} {xs:List Value} (h:au w b xs) (hl:xs.length=2) (v0 v1:Value):au ((w.setCell ⟨b,0,none⟩ v0).setCell ⟨b,1,none⟩ v1) b [v0,v1]:=by
 match xs,hl with
 | [a,b],_=>exact (h.set 0 _ (by simp)).set 1 _ (by simp)
theorem EF (w:World) (b:Nat) (v0 v1:Value):Kb (fun g=>g=b) w ((w.setCell ⟨b,0,none⟩ v0).setCell ⟨b,1,none⟩ v1):=(Kb.set _ _ _ _).trans (Kb.set _ _ _ _)
theorem sZ {w W w1:World} {r:bF × Int} {b:Nat} {hs ht:Hd} {L:List bK} {v0 v1:Value} {e:Ending} (a:ag w w1) (hL:L.map bK.t=r.1.tables) (ob:dM w1 W.heap.size hs ht r.1.aa L) (hb:w.heap.size≤b) (hbW:b < W.heap.size)
  (he:e=.returned (.tuple #[.agg #[.slice hs.a r.1.aa.length hs.c,.slice ht.a r.1.tables.length ht.c],.int .i64 r.2])):rL w r e ((w1.setCell ⟨b,0,none⟩ v0).setCell ⟨b,1,none⟩ v1):=by
 refine ⟨hs,ht,L,hL,he,(EF w1 b v0 v1).aN a (fun g hg e=>by omega),?_⟩;refine dM.down (ob.kb (EF w1 b v0 v1) fun g hg e=>?_) (by omega);have:=(ob.lt g hg).1;omega
theorem dA:qf dD:=⟨⟨by simp [dD,Small],fun s hs=>by simp [dD] at hs⟩,by simp [dD,Small],fun t ht=>by simp [dD] at ht⟩
theorem Ml {o:bF} {q:Nat} {t:cp} (h:qf o) (ht:uB t):qf ⟨o.aa,o.tables.set q t⟩:=by
 refine ⟨h.1,by rw [List.length_set];exact h.2.1,fun x hx=>?_⟩;by_cases hq:q < o.tables.length
 ·rcases uC hq hx with rfl | ⟨i,hi,_,rfl⟩
  ·exact ht
  ·exact h.2.2 _ (List.getElem_mem hi)
 ·have Mm:x∈o.tables.set q t:=hx
  rw [List.set_eq_of_length_le (by omega)] at Mm;exact h.2.2 x Mm
theorem lM {o:bF} {r:bF × Int} (h:qf r.1):qf (ju o r).1:=by
 unfold ju;split
 ·exact h
 ·exact dA
def VC (v:ByteArray) (t:cp):cp × Int:=({ t with owner:=v },0)
def ko (o:bF) (s n v:ByteArray):bF × Int:=if bw o then (if bA v then gu o s n (VC v) else (dD,1)) else (dD,63)
end Go.Proofs.YtakddkhipelmjaaGreat
namespace Go.Proofs.YtakddkhipelmjaaGreat
open Go.RowKit Go.Deep Go.Sort
theorem dM.I9 {P:Nat→Prop} {w w':World} {B:Nat} {hs ht h':Hd} {ss Zp:List fJ} {L:List bK} (ob:dM w B hs ht ss L) (k:Kb P w w') (hP:∀ g,g∈ht.blk++L.flatMap bK.ig→¬ P g) (ho:w'.ownsRow B 109 2 h'.v Zp.length (Zp.flatMap jo)) (hb:∀ g∈h'.blk,g∈hs.blk∨w.heap.size≤g):dM w' B h' ht Zp L:=by
 refine ⟨ho,bB ob.tab k fun g hg=>hP g (List.mem_append.2 (.inl (Hd.bu.2 hg))),fun x hx=>(ob.each x hx).kb k fun g hg=>hP g (List.mem_append.2 (.inr (List.mem_flatMap.2 ⟨x,hx,hg⟩))),?_⟩;refine List.nodup_append.2 ⟨fC _,(List.nodup_append.1 ob.nd).2.1,fun a ha b hb2 e=>?_⟩;subst e
 rcases hb a ha with h1 | h1
 ·exact fx ob.nd h1 hb2
 ·have:=(ob.lt a (List.mem_append.2 (.inr hb2))).2
  omega
def dG (name owner:ByteArray) (o:bF):bF × Int :=
 if (!bA name || !bA owner) then (dD,1) else if 0≤cy o.aa name then (dD,60) else if 8≤o.aa.length then (dD,2) else (⟨dv o.aa (em jH o.aa ⟨name,owner⟩) ⟨name,owner⟩,o.tables⟩,0)
def cS (name:ByteArray) (o:bF):bF × Int :=
 if cy o.aa name < 0 then (dD,61) else if 0 < within o.tables name then (dD,62) else (⟨o.aa.eraseIdx (cy o.aa name).toNat,o.tables⟩,0)
theorem Mn (x y:fJ) (W:World):Calls Tryz.prog 279 (#[.agg (jo x).toArray,.agg (jo y).toArray]++#[]) W fun e w'=>e=.returned (.int .i64 (jH x y))∧∃ q os',w'=grow (W.drewN q) os':=by
 show Calls Tryz.prog 279 #[.agg #[.string x.name,.string x.owner],.agg #[.string y.name,.string y.owner]] W _
 have hcon:=fun W'=>iZ x.name y.name W'
 unfold jH;generalize aT x.name y.name=r at hcon ⊢
 have l1:W.heap.size < W.heap.size+1:=by omega
 have l2:W.heap.size < W.heap.size+1+1:=by omega
 go_in
 go_wp2_with (go_at_call 182;refine (hcon _).mono ?_;rintro e w' ⟨rfl,rfl⟩)
 go_ret;exact ⟨rfl,0,_,by rw [alloc_eq_grow,alloc_eq_grow,grow_grow];rfl⟩
theorem FT (x:fJ):(jo x).length=2:=rfl
theorem Ja (blk cap B:Nat) (l:List fJ) (h0:0 < l.length) (hsz:l.length≤1000000) (w:World) (ho:w.ownsRow B 109 2 (.slice (some ⟨blk,0,none⟩) l.length cap) l.length (l.flatMap jo)) :
  Calls Tryz.prog 278 #[.slice (some ⟨blk,0,none⟩) l.length cap,.func (.func 279) #[] #[]] w (pD 109 2 jo jH w B blk cap l) :=
 yM wS 2 Tryz.isAgg109 Tryz.sizeOf109 jo FT yY jH uZ.swo 279 #[] 109 B blk cap l h0 hsz w ho (enters (P:=Tryz.prog) Tryz.func279 (by kernel_rfl) rfl) (fun W x y=>Mn x y W)
theorem qp {α:Type} (p:α→Bool) (l:List α):decide (0≤bD p l)=l.any p:=by
 induction l with
 | nil=>rfl
 | cons x l ih =>
  rw [List.any_cons,← ih]
  show decide (0≤(if p x then (0:Int) else if bD p l < 0 then -1 else bD p l+1))=_
  cases h:p x
  ·simp only [Bool.false_eq_true,if_false,Bool.false_or]
   by_cases h1:bD p l < 0
   ·rw [if_pos h1,decide_eq_false (by omega),decide_eq_false (by omega)]
   ·rw [if_neg h1,decide_eq_true (by omega),decide_eq_true (by omega)]
  ·simp
theorem Jb {o:bF} {name:ByteArray} (h:cy o.aa name < 0):∀ y∈o.aa,aT y.name name≠0:=fun y hy e=>by
 obtain ⟨k,hk,rfl⟩:=List.getElem_of_mem hy;have h1:=bk (fun c:fJ=>aS c.name name) o.aa
 have h2:cy o.aa name = -1:=by unfold cy at *;omega
 have h3:o.aa.any (fun c=>aS c.name name)=true:=List.any_eq_true.2 ⟨_,hy,(dl _ _).1 e⟩;rw [← qp] at h3;have:=of_decide_eq_true h3;unfold cy at h2;omega
theorem pK {o:bF} (h:bw o=true):aM gF o.tables=true∧aM jH o.aa=true∧o.aa.length≤8∧o.tables.length≤64:=by
 unfold bw lL at h;simp only [Bool.and_eq_true,decide_eq_true_eq] at h;exact ⟨h.1.1.2,h.1.2,h.1.1.1.1,h.1.1.1.2⟩
theorem BQ (name owner:ByteArray) (o:bF) (w:World) (hs ht:Hd) (L:List bK) (B n3 bn bo:Nat) (j7:bw o=true) (hbn:B≤n3) (hL:L.map bK.t=o.tables) (ob:dM w B hs ht o.aa L) (hne:∀ g∈hs.blk++(ht.blk++L.flatMap bK.ig),g≠n3)
  (r3:au w n3 [.slice hs.a o.aa.length hs.c,.slice ht.a o.tables.length ht.c]) (hc1:w.cell? ⟨bn,0,none⟩=some (.string name)) (hc2:w.cell? ⟨bo,0,none⟩=some (.string owner)) (hb1:bn < B) (hb2:bo < B) (sm:qf o) (hs1:Small name.size) (hs2:Small owner.size) :
  Calls Tryz.prog 277 (#[.pointer (some ⟨n3,0,none⟩)]++#[.pointer (some ⟨bn,0,none⟩),.pointer (some ⟨bo,0,none⟩)]) w (Mo w B n3 (dG name owner o)):=by
 show Calls Tryz.prog 277 #[.pointer (some ⟨n3,0,none⟩),.pointer (some ⟨bn,0,none⟩),.pointer (some ⟨bo,0,none⟩)] w (Mo w B n3 (dG name owner o))
 have Tu:pH o.aa L=o:=by unfold pH;rw [hL]
 have en:aA w 2 eL hs.a hs.c o.aa:=ob.Qk (by rw [Tu];exact sm);have hlen:=en.len;have z1:bn < w.heap.size:=World.block_lt_of_cell? _ _ hc1;have z2:bo < w.heap.size:=World.block_lt_of_cell? _ _ hc2;have x0:=r3.cell (j:=0) rfl;have x1:=r3.cell (j:=1) rfl;have xz:=r3.1;have xf:=r3.2.2 0 (by simp);have my:=pK j7;obtain ⟨u1,Zq⟩:∃ u,bA name=u:=⟨_,rfl⟩;obtain ⟨u2,O4⟩:∃ u,bA owner=u:=⟨_,rfl⟩;obtain ⟨i,hi⟩:∃ i,cy o.aa name=i:=⟨_,rfl⟩
 have LY : -1≤i∧i < o.aa.length:=by rw [← hi];exact bk _ _
 have C1:=gH (show ∀ w',Calls Tryz.prog 107 #[.string name] w' fun e w''=>e=.returned (.bool u1)∧w'=w'' from fun w'=>Zq▸cI name w' hs1.max);have C2:=gH (show ∀ w',Calls Tryz.prog 107 #[.string owner] w' fun e w''=>e=.returned (.bool u2)∧w'=w'' from fun w'=>O4▸cI owner w' hs2.max)
 have CB:=gH (show ∀ x:gX w,Calls Tryz.prog 247 #[.slice hs.a o.aa.length hs.c,.string name,.func (.func 248) #[] #[]] (bt w x) fun e w''=>e=.returned (.int .i64 i)∧ag (bt w x) w'' from
  fun x=>(Jc hs.a hs.c o.aa name _ (bI ((ag.refl w).bt x) en)).mono fun e w'' ⟨he,hw⟩=>⟨he.trans (by rw [← hi];rfl),hw⟩)
 have HE:=gH (show dG name owner o=if (!u1 || !u2) then (dD,1) else if 0≤i then (dD,60) else if 8≤o.aa.length then (dD,2) else (⟨dv o.aa (em jH o.aa ⟨name,owner⟩) ⟨name,owner⟩,o.tables⟩,0) by unfold dG;rw [Zq,O4,hi]);have HI:=gH (show i < 0→∀ y∈o.aa,jH y ⟨name,owner⟩≠0 from fun h=>Jb (hi▸h));have VD:=gH ob;have LZ:=gH r3;have Qt:=gH hne;have HL:=gH hL;have Jd:=gH (show hs.v=.slice hs.a o.aa.length hs.c from bY ob.gT);have HRS:=gH my;have QF:=gH (show ∀ w',ag w w'→∀ c:Int,c≠0→Mo w B n3 (dD,c) (.returned (.int .i64 c)) w' from fun w' a c hc=>⟨rfl,Kb.bl a,fun h=>absurd h hc⟩);clear ob r3 hne hL Tu j7 Zq O4 hi en my sm
 go_in
 go_wp2_with fail;refine (C1.out _).mono ?_;rintro e w1 ⟨rfl,rfl⟩
 cases u1
 ·go_wp2
  go_ret;rw [HE.out];exact QF.out _ (ag.refl _) 1 (by decide)
 go_wp2_with fail;refine (C2.out _).mono ?_;rintro e w1 ⟨rfl,rfl⟩
 cases u2
 ·go_wp2
  go_ret;rw [HE.out];exact QF.out _ (ag.refl _) 1 (by decide)
 by_cases h0:0≤i
 ·have hd:decide (0≤i)=true:=by simpa using h0
  go_wp2_with fail;refine aj (by kernel_rfl) (by kernel_rfl) ?_
  repeat (go_big_quiet_step ((go_at_call 247;exact Calls.aL (CB.out _))))
  refine wpQuiet_nil ?_;intro _ hw';obtain ⟨x,hw''⟩:=hw';subst hw'';go_wp2;go_ret;rw [HE.out];simp only [Bool.not_true,Bool.or_self,Bool.false_eq_true,if_false,if_pos h0];exact QF.out _ ((ag.refl _).bt x) 60 (by decide)
 have hd:decide (0≤i)=false:=by simpa using h0
 have X0:=gH h0;clear h0;go_wp2_with fail;refine aj (by kernel_rfl) (by kernel_rfl) ?_
 repeat (go_big_quiet_step ((go_at_call 247;exact Calls.aL (CB.out _))))
 refine wpQuiet_nil ?_;intro _ hw';obtain ⟨x,hw''⟩:=hw';subst hw'';obtain ⟨W,hW⟩:∃ W,W=bt w x:=⟨_,rfl⟩
 have aW:ag w W:=by rw [hW];exact (ag.refl w).bt x
 rw [← hW];have x0:=aW.cell_kept x0;have hc1:=aW.cell_kept hc1;have hc2:=aW.cell_kept hc2;have xz:=Nat.lt_of_lt_of_le xz aW.size;have z1:=Nat.lt_of_lt_of_le z1 aW.size;have z2:=Nat.lt_of_lt_of_le z2 aW.size;have bQ:=gH aW;clear hW aW CB C1 C2;by_cases h8:8≤o.aa.length
 ·have hd8:(8:Int)≤(o.aa.length:Int):=by omega
  have Zr:=gH h8;clear h8;go_wp2;go_ret;rw [HE.out];simp only [Bool.not_true,Bool.or_self,Bool.false_eq_true,if_false,if_neg (show ¬ 0≤i by have:=X0.out;omega),if_pos Zr.out];exact QF.out _ bQ.out 2 (by decide)
 have hd8:¬ (8:Int)≤(o.aa.length:Int):=by omega
 have Zr:=gH h8;have Zs:=VD.out.aH bQ.out;have HOW:=gH (show W.ownsRow B 109 2 (.slice hs.a o.aa.length hs.c) o.aa.length (o.aa.flatMap jo) by rw [← Jd.out];exact Zs.gT)
 have n1:¬ kR (.slice hs.a o.aa.length hs.c) n3:=fun h=>Qt.out n3 (List.mem_append.2 (.inl (Hd.bu.2 (by rw [Jd.out];exact h)))) rfl
 have n2:¬ kR (.slice hs.a o.aa.length hs.c) bn:=fun h=>by have:=(HOW.out.lt bn h).1;omega
 have n4:¬ kR (.slice hs.a o.aa.length hs.c) bo:=fun h=>by have:=(HOW.out.lt bo h).1;omega
 have xf:W.frozen? ⟨n3,0,none⟩=false:=(LZ.out.aH bQ.out).2.2 0 (by simp);obtain ⟨i0,kG,hz0,hz1,hz2⟩:=info_parts FU;have VE:=gH kG;have kU:=gH hz0;have ki:=gH hz1;have kP:=gH hz2;have Mp:=gH Zs;clear kG hz0 hz1 hz2 Zs h8;go_wp2_with fail;refine l7 7 10 (fun w'=>∃ x:s9 (.slice hs.a o.aa.length hs.c) W,w'=rM (.slice hs.a o.aa.length hs.c) W x) (by kernel_rfl) (by kernel_rfl) (KL.aH (ag.refl W).drew) ?_;simp only [List.take_succ_cons,List.take_zero,List.drop_succ_cons,List.drop_zero]
 repeat (go_big_quiet_step (fail))
 refine wpQuiet_nil ?_;refine ip (fun K hK=>?_);go_simp;refine hK _ _ (fun _=>KL.aH ((ag.refl W).drew)) ?_;clear hK K;refine ip (fun K hK=>?_);go_simp;refine hK _ _ (fun _=>KL.aH (((ag.refl W).alloc _).drew)) ?_;clear hK K;refine ip (fun K hK=>?_);refine wp_append_lies _ (.tmp 33) (.tmp 37) 22 rfl B 109 i0 _ 2 32 Tryz.underlying22 VE.out kU.out ki.out kP.out rfl (by decide) (.slice hs.a o.aa.length hs.c) o.aa.length (o.aa.flatMap jo) (by rfl) ((HOW.out.alloc _).drew) ⟨W.heap.size,0,none⟩ 1 1 [.string name,.string owner] (by rfl) rfl (World.news_of_block (cs:=#[.string name,.string owner]) (t:=109) (fr:=(0,0)) (heap_alloc_new W _)) (by simp [Value.oneCell']) (by omega) (by unfold maxLen;omega) (by omega) (by simp;omega) (W.heap.size+1) (by simp) ?_;intro gg cap' w5 ic hgrow hat yZ;refine hK _ _ (fun _=>KL.of ((Kb.bl (((ag.refl W).alloc _).drew)).trans (vp hgrow))) ?_;clear hK K;refine lN _ (by simp) (by decide) ?_;have Lz:Kb (kR (.slice hs.a o.aa.length hs.c)) W w5:=(Kb.bl (((ag.refl W).alloc _).drew)).trans (vp hgrow);have d5:=Lz.cell x0 n1;have Mq:=Lz.row (LZ.out.aH bQ.out) n1;have f5:w5.frozen? ⟨n3,0,none⟩=false:=Mq.2.2 0 (by simp);have z5:=Mq.1
 have X1:gg≠n3:=fun e=>by
  rcases hat with h1 | h1
  ·exact n1 (by rw [← e];exact h1)
  ·omega
 have rN:(w5.setCell ⟨n3,0,none⟩ (.slice (some ⟨gg,0,none⟩) (o.aa.length+1) cap')).ownsRow B 109 2 (.slice (some ⟨gg,0,none⟩) (o.aa++[(⟨name,owner⟩:fJ)]).length cap') (o.aa++[(⟨name,owner⟩:fJ)]).length ((o.aa++[(⟨name,owner⟩:fJ)]).flatMap jo):=by
  rw [List.length_append,List.flatMap_append]
  exact bB ic (Kb.set w5 n3 0 _) (fun g hg e=>by
   have e:g=n3:=e
   have:g=gg:=by simpa [Value.ownBlock,eq_comm] using hg
   exact X1 (by rw [← this];exact e))
 have CS:=gH (Ja gg cap' B (o.aa++[(⟨name,owner⟩:fJ)]) (by simp) (by simp;omega) _ rN);have Je:=Mq.set 0 (.slice (some ⟨gg,0,none⟩) (o.aa.length+1) cap') (by simp)
 have HP:=gH (show ∀ w7 e,pD 109 2 jo jH (w5.setCell ⟨n3,0,none⟩ (.slice (some ⟨gg,0,none⟩) (o.aa.length+1) cap')) B gg cap' (o.aa++[(⟨name,owner⟩:fJ)]) e w7→e=.returned (.tuple #[])∧Mo w B n3 (dG name owner o) (.returned (.int .i64 0)) w7 from fun w7 e X2=>by
  obtain ⟨he,l',hp,Zt,ho7,k7⟩:=X2
  have hlt:i < 0:=by have:=X0.out;omega
  have hl':l'=dv o.aa (em jH o.aa ⟨name,owner⟩) ⟨name,owner⟩:=Jf uZ.tr uZ.dY HRS.out.2.1 (HI.out hlt) hp Zt
  have rS:l'.length=o.aa.length+1:=by rw [hl',fk _ _ _ (gM _ _ _)]
  refine ⟨he,?_⟩;rw [HE.out];simp only [Bool.not_true,Bool.or_self,Bool.false_eq_true,if_false,if_neg (show ¬ 0≤i by omega),if_neg Zr.out];rw [← hl'];have VF:Kb (fun g=>kR (.slice hs.a o.aa.length hs.c) g∨g=n3∨g=gg) W w7:=((Lz.mono fun g _ h=>.inl h).trans ((Kb.set w5 n3 0 _).mono fun g _ e=>.inr (.inl e))).trans (k7.mono fun g _ e=>.inr (.inr e))
  have hIB:∀ g,kR (.slice hs.a o.aa.length hs.c) g→B≤g:=fun g hg=>(HOW.out.lt g hg).1
  have X3:B≤W.heap.size:=by omega
  refine ⟨rfl,(Kb.bl bQ.out).trans (VF.mono fun g _ h=>?_),fun _=>⟨⟨some ⟨gg,0,none⟩,o.aa.length+1,cap'⟩,ht,L,HL.out,?_,?_⟩⟩
  ·rcases h with h | h | h
   ·exact hIB g h
   ·omega
   ·rcases hat with h1 | h1
    ·exact hIB g (by rw [h];exact h1)
    ·omega
  ·refine Mp.out.I9 VF (fun g hg h=>?_) ?_ (fun g hg=>?_)
   ·have hlt:=Mp.out.lt g (List.mem_append.2 (.inr hg))
    rcases h with h | h | h
    ·exact fx Mp.out.nd (Hd.bu.2 (by rw [Jd.out];exact h)) hg
    ·exact Qt.out g (List.mem_append.2 (.inr hg)) h
    ·rcases hat with h1 | h1
     ·exact fx Mp.out.nd (Hd.bu.2 (by rw [Jd.out,h];exact h1)) hg
     ·omega
   ·have:=ho7
    rw [List.length_append] at this;rw [rS];exact this
   ·rw [gG,List.mem_singleton] at hg
    have hg:g=gg:=hg;rw [hg]
    rcases hat with h1 | h1
    ·exact .inl (Hd.bu.2 (by rw [Jd.out];exact h1))
    ·exact .inr (by omega)
  ·rw [rS]
   exact k7.row Je (fun e=>X1 e.symm))
 have aaH:=gH Je;have c6:=Je.cell (j:=0) rfl;have z6:=Je.1
 have CS':=gH (show Calls Tryz.prog 278 #[.slice (some ⟨gg,0,none⟩) (o.aa.length+1) cap',.func (.func 279) #[] #[]] (w5.setCell ⟨n3,0,none⟩ (.slice (some ⟨gg,0,none⟩) (o.aa.length+1) cap')) (pD 109 2 jo jH (w5.setCell ⟨n3,0,none⟩ (.slice (some ⟨gg,0,none⟩) (o.aa.length+1) cap')) B gg cap' (o.aa++[(⟨name,owner⟩:fJ)])) from by
  have h:=CS.out;rw [List.length_append,List.length_singleton] at h
  exact h)
 clear ic hgrow hat yZ Lz Mq rN Je CS;go_wp2_with fail;refine NoPanic.normal ?_;go_wp2_with fail;refine CS'.out.mono ?_;intro e w7 X2;obtain ⟨rfl,hp7⟩:=HP.out w7 e X2;have HP7:=gH hp7;clear X2 hp7 CS' HP;go_wp2;go_ret;exact HP7.out
def jv (ts:List cp) (r:fF) (t:cp):cp × Int :=
 if !cK t.av r then (t,63) else if 0≤fL t.rules r.name then (t,60) else if 8≤t.rules.length then (t,2) else if (r.kind==4&&lO ts t.av r != 0) then (t,lO ts t.av r)
 else ({ t with rules:=dv t.rules (em qO t.rules r) r },0)
theorem Jg {l:List fF} {s:ByteArray} (h:fL l s < 0):∀ y∈l,aT y.name s≠0:=fun y hy e=>by
 have h1:=bk (fun c:fF=>aS c.name s) l
 have h2:fL l s = -1:=by unfold fL at *;omega
 have h3:l.any (fun c=>aS c.name s)=true:=List.any_eq_true.2 ⟨y,hy,(dl _ _).1 e⟩;rw [← qp] at h3;have:=of_decide_eq_true h3;unfold fL at h2;omega
def rY (t:cp) (name:ByteArray):Int:=match t.rules[(fL t.rules name).toNat]? with | some q=>q.kind | none=>0
def QG (kd:Int) (name:ByteArray) (r:fF):Bool:=aS r.key name&&kd==2
end Go.Proofs.YtakddkhipelmjaaGreat
namespace Go.Proofs.YtakddkhipelmjaaGreat
open Go.RowKit Go.Deep Go.Shelf
@[go_sem] theorem Pe (l:Nat) (ρ:Operand→Value) (o:Oper) (h:∀ c,o.op≠.defer c):Oper.semAt (some l) ρ o=execOp ρ o:=Oper.semAt_some l ρ o h
def xm (s n:ByteArray) (r:fF):Bool:=r.kind==4&&(aS r.ac s&&aS r.table n)
def VG (s n:ByteArray) (t:cp):List (cp × fF):=(t.rules.filter (xm s n)).map fun r=>(t,r)
def Jh (s n:ByteArray) (ts:List cp):List (cp × fF):=ts.flatMap (VG s n)
end Go.Proofs.YtakddkhipelmjaaGreat
namespace Go.Proofs.YtakddkhipelmjaaGreat
open Go.RowKit Go.Deep Go.Sort
theorem Ji {w:World} {B size n:Nat} {e:TypeId} {v:Value} {xs:List Value} (h:w.ownsRow B e size v n xs):∀ A n c,v=.slice A n c→c≤9223372036854775807:=by
 intro A n c hv
 rcases h.2 with ⟨rfl,_⟩ | ⟨g,cap,cur,rfl,_,_,_,hcm,_⟩
 ·simp only [Value.slice.injEq] at hv;omega
 ·simp only [Value.slice.injEq] at hv
  have:cap≤maxLen:=hcm;unfold maxLen at this;omega
theorem xn {name owner:ByteArray} {o:bF}:(dG name owner o).2≠0→(dG name owner o).1=dD:=by
 unfold dG
 split
 ·exact fun _=>rfl
 ·split
  ·exact fun _=>rfl
  ·split
   ·exact fun _=>rfl
   ·exact fun h=>absurd rfl h
theorem uD {name:ByteArray} {o:bF}:(cS name o).2≠0→(cS name o).1=dD:=by
 unfold cS
 split
 ·exact fun _=>rfl
 ·split
  ·exact fun _=>rfl
  ·exact fun h=>absurd rfl h
theorem za (name:ByteArray) (o:bF) (w:World) (hs ht:Hd) (L:List bK) (B n3 bn:Nat) (hbn:B≤n3) (hL:L.map bK.t=o.tables) (ob:dM w B hs ht o.aa L) (hne:∀ g∈hs.blk++(ht.blk++L.flatMap bK.ig),g≠n3)
  (r3:au w n3 [.slice hs.a o.aa.length hs.c,.slice ht.a o.tables.length ht.c]) (hc1:w.cell? ⟨bn,0,none⟩=some (.string name)) (sm:qf o) :
  Calls Tryz.prog 280 (#[.pointer (some ⟨n3,0,none⟩)]++#[.pointer (some ⟨bn,0,none⟩)]) w (Mo w B n3 (cS name o)):=by
 show Calls Tryz.prog 280 #[.pointer (some ⟨n3,0,none⟩),.pointer (some ⟨bn,0,none⟩)] w (Mo w B n3 (cS name o))
 have Tu:pH o.aa L=o:=by unfold pH;rw [hL]
 have en:aA w 2 eL hs.a hs.c o.aa:=ob.Qk (by rw [Tu];exact sm)
 have dw:aA w 5 dE ht.a ht.c o.tables:=by have:=ob.tabs (by rw [Tu];exact sm);rw [hL] at this;exact this
 have hlen:=en.len;have z1:bn < w.heap.size:=World.block_lt_of_cell? _ _ hc1;have x0:=r3.cell (j:=0) rfl;have x1:=r3.cell (j:=1) rfl;have xz:=r3.1;obtain ⟨i,hi⟩:∃ i,cy o.aa name=i:=⟨_,rfl⟩;obtain ⟨m,hm⟩:∃ m,within o.tables name=m:=⟨_,rfl⟩
 have LY : -1≤i∧i < o.aa.length:=by rw [← hi];exact bk _ _
 have CB:=gH (show ∀ x:gX w,Calls Tryz.prog 247 #[.slice hs.a o.aa.length hs.c,.string name,.func (.func 248) #[] #[]] (bt w x) fun e w''=>e=.returned (.int .i64 i)∧ag (bt w x) w'' from
  fun x=>(Jc hs.a hs.c o.aa name _ (bI ((ag.refl w).bt x) en)).mono fun e w'' ⟨he,hw⟩=>⟨he.trans (by rw [← hi];rfl),hw⟩)
 have CW:=gH (show ∀ W,ag w W→∀ x:gX W,Calls Tryz.prog 183 #[.agg #[.slice hs.a o.aa.length hs.c,.slice ht.a o.tables.length ht.c],.string name] (bt W x) fun e w''=>e=.returned (.int .i64 m)∧ag (bt W x) w'' from
  fun W a x=>(td _ ht.a ht.c o.tables name _ (br (a.bt x) dw)).mono fun e w'' ⟨he,hw⟩=>⟨he.trans (by rw [← hm]),hw⟩)
 have HE:=gH (show cS name o=if i < 0 then (dD,61) else if 0 < m then (dD,62) else (⟨o.aa.eraseIdx i.toNat,o.tables⟩,0) by unfold cS;rw [hi,hm]);have VD:=gH ob;have LZ:=gH r3;have Qt:=gH hne;have HL:=gH hL;have Jd:=gH (show hs.v=.slice hs.a o.aa.length hs.c from bY ob.gT);have QF:=gH (show ∀ w',ag w w'→∀ c:Int,c≠0→Mo w B n3 (dD,c) (.returned (.int .i64 c)) w' from fun w' a c hc=>⟨rfl,Kb.bl a,fun h=>absurd h hc⟩);clear ob r3 hne hL Tu hi en dw hm sm
 go_in
 go_wp2_with fail;refine aj (by kernel_rfl) (by kernel_rfl) ?_
 repeat (go_big_quiet_step ((go_at_call 247;exact Calls.aL (CB.out _))))
 refine wpQuiet_nil ?_;intro _ hw';obtain ⟨x,hw''⟩:=hw';subst hw'';obtain ⟨W,hW⟩:∃ W,W=bt w x:=⟨_,rfl⟩
 have aW:ag w W:=by rw [hW];exact (ag.refl w).bt x
 rw [← hW];have x0:=aW.cell_kept x0;have x1:=aW.cell_kept x1;have hc1:=aW.cell_kept hc1;have xz:=Nat.lt_of_lt_of_le xz aW.size;have z1:=Nat.lt_of_lt_of_le z1 aW.size;have bQ:=gH aW;have Zu:=gH (CW.out W aW);clear hW aW CB CW;by_cases h0:i < 0
 ·go_wp2
  go_ret;rw [HE.out];simp only [if_pos h0];exact QF.out _ bQ.out 61 (by decide)
 have X0:=gH h0;by_cases Tv:0 < m
 ·have hd:(0:Int) < (m:Int):=by omega
  have HM:=gH Tv;go_wp2_with fail;refine aj (by kernel_rfl) (by kernel_rfl) ?_
  repeat (go_big_quiet_step ((go_at_call 183;exact Calls.aL (Zu.out _))))
  refine wpQuiet_nil ?_;intro _ hw';obtain ⟨x,hw''⟩:=hw';subst hw'';go_wp2;go_ret;rw [HE.out];simp only [if_neg (show ¬ i < 0 by have:=X0.out;omega),if_pos (show 0 < m by have:=HM.out;omega)];exact QF.out _ (bQ.out.bt x) 62 (by decide)
 have hd:¬ (0:Int) < (m:Int):=by omega
 have HM:=gH Tv;clear Tv;go_wp2_with fail;refine aj (by kernel_rfl) (by kernel_rfl) ?_
 repeat (go_big_quiet_step ((go_at_call 183;exact Calls.aL (Zu.out _))))
 refine wpQuiet_nil ?_;intro _ hw';obtain ⟨x,hw''⟩:=hw';subst hw'';obtain ⟨V,hV⟩:∃ V,V=bt W x:=⟨_,rfl⟩
 have aV:ag W V:=by rw [hV];exact (ag.refl W).bt x
 rw [← hV];have x0:=aV.cell_kept x0;have x1:=aV.cell_kept x1;have xz:=Nat.lt_of_lt_of_le xz aV.size;have oq:=gH (bQ.out.trans aV);clear hV aV Zu;obtain ⟨p,hp⟩:∃ p:Nat,i=p:=⟨i.toNat,by omega⟩;subst hp
 have hpl:p < o.aa.length:=by omega
 have r2:=VD.out.aH oq.out;obtain ⟨g,cap,hv,QH,uW,hrow⟩:=cB r2.gT (by omega);obtain ⟨k,hk⟩:∃ k,o.aa.length=p+1+k:=⟨o.aa.length - p - 1,by omega⟩
 have o2:V.ownsRow B 109 2 (.slice (some ⟨g,0,none⟩) (p+1+k) cap) (p+1+k) (o.aa.flatMap jo):=by
  have:=r2.gT;rw [hv,hk] at this;exact this
 have VH:cap≤9223372036854775807:=Ji r2.gT _ _ _ hv;have CD:=gH (QI g cap p k B (o.aa.flatMap jo) V o2 (BR yY _) VH)
 have Zv:Value.slice hs.a o.aa.length hs.c=.slice (some ⟨g,0,none⟩) (p+1+k) cap:=by rw [← Jd.out,hv,hk]
 have VI:=LZ.out.aH oq.out;have Mr:g∈hs.blk:=Hd.bu.2 (by rw [hv];rfl);have hgb:g≠n3:=Qt.out g (List.mem_append.2 (.inl Mr));rw [Zv] at x0
 have K2:=gH (show ∀ w3,Kb (fun j=>j=g) V w3→w3.ownsRow B 109 2 (.slice (some ⟨g,0,none⟩) (p+k) cap) (p+k) ((o.aa.flatMap jo).take (p*2)++(o.aa.flatMap jo).drop ((p+1)*2))→(w3.cell? ⟨n3,0,none⟩=some (.slice (some ⟨g,0,none⟩) (p+1+k) cap)∧w3.frozen? ⟨n3,0,none⟩=false∧n3 < w3.heap.size∧Hid (Mo w B n3 (cS name o) (.returned (.int .i64 0)) (w3.setCell ⟨n3,0,none⟩ (.slice (some ⟨g,0,none⟩) (p+k) cap)))) from fun w3 kb o3=>by
  have Jj:=kb.row VI (fun e=>hgb e.symm);rw [Zv] at Jj
  have e1:(o.aa.eraseIdx p).length=p+k:=by rw [List.length_eraseIdx_of_lt (by omega)];omega
  have n3':w3.ownsRow B 109 2 (Hd.mk (some ⟨g,0,none⟩) (p+k) cap).v (o.aa.eraseIdx p).length ((o.aa.eraseIdx p).flatMap jo):=by
   rw [e1,← uE (size:=2) (fun _=>rfl)];exact o3
  have ks:=Kb.set w3 n3 0 (.slice (some ⟨g,0,none⟩) (p+k) cap);refine ⟨Jj.cell (j:=0) rfl,Jj.2.2 0 (by simp),Jj.1,gH ?_⟩;rw [HE.out];simp only [if_neg (show ¬ (p:Int) < 0 by omega),if_neg (show ¬ 0 < m by have:=HM.out;omega),Int.toNat_natCast]
  have obn:=r2.I9 kb (h':=⟨some ⟨g,0,none⟩,p+k,cap⟩) (fun j hj e=>by
   have e:j=g:=e
   exact fx r2.nd Mr (by rw [← e];exact hj)) n3' (fun j hj=>by
   rw [gG,List.mem_singleton] at hj;have hj:j=g:=hj
   exact .inl (by rw [hj];exact Mr))
  refine ⟨rfl,((Kb.bl oq.out).trans (kb.mono fun j _ e=>by have e:j=g:=e;omega)).trans (ks.mono fun j _ e=>by have e:j=n3:=e;omega),fun _=>⟨⟨some ⟨g,0,none⟩,p+k,cap⟩,ht,L,HL.out,obn.kb ks (fun j hj e=>?_),?_⟩⟩
  ·have e:j=n3:=e
   rcases List.mem_append.1 hj with h1 | h1
   ·rw [gG,List.mem_singleton] at h1
    have h1:j=g:=h1;exact hgb (by rw [← h1,e])
   ·exact Qt.out j (List.mem_append.2 (.inr h1)) e
  ·have h6:=Jj.set 0 (.slice (some ⟨g,0,none⟩) (p+k) cap) (by simp)
   rw [e1]
   exact h6)
 clear r2 hv hrow o2 Zv VI hk hgb Mr h0 uW QH;go_wp2_with fail;refine CD.out.mono ?_;rintro e w3 ⟨rfl,o3,kb⟩;obtain ⟨y0,yf,yz,HP⟩:=K2.out w3 kb o3;clear o3 kb;go_wp2;go_ret;exact HP.out
theorem xq (o:bF) (As:Option Addr) (ay:Nat) (At:Option Addr) (az:Nat) (name owner:ByteArray) (w:World) (en:aA w 2 eL As ay o.aa) (dw:aA w 5 dE At az o.tables) (hs1:Small name.size) (hs2:Small owner.size) :
  Calls Tryz.prog 202 #[.agg #[.slice As o.aa.length ay,.slice At o.tables.length az],.string name,.string owner] w (rL w (ju o (dG name owner o))):=by
 have hlen:=en.len;have fq:=dw.len;have sm:qf o:=⟨xd en,xe dw⟩;have dc:=enters (P:=Tryz.prog) Tryz.func277 (by kernel_rfl) rfl
 have l1:w.heap.size < w.heap.size+1:=by omega
 have l2:w.heap.size < w.heap.size+1+1:=by omega
 have l3:w.heap.size < w.heap.size+1+1+1:=by omega
 obtain ⟨W,hW⟩:∃ W,W=(((w.alloc (.cells #[.slice As o.aa.length ay,.slice At o.tables.length az] 25)).alloc (.cells #[.string name] 9)).alloc (.cells #[.string owner] 9)).alloc (.cells #[.slice none 0 0,.slice none 0 0] 25):=⟨_,rfl⟩
 have aW:ag w W:=by rw [hW];exact ((((ag.refl w).alloc _).alloc _).alloc _).alloc _
 have VJ:au W (w.heap.size+1) [.string name]:=by
  rw [hW];have:=(aU (w:=(w.alloc (.cells #[.slice As o.aa.length ay,.slice At o.tables.length az] 25))) (c:=[.string name]) (t:=9) (ag.refl _)).aH (((ag.refl _).alloc (.cells #[.string owner] 9)).alloc (.cells #[.slice none 0 0,.slice none 0 0] 25))
  simpa using this
 have rs1:au W (w.heap.size+1+1) [.string owner]:=by
  rw [hW];have:=(aU (w:=((w.alloc (.cells #[.slice As o.aa.length ay,.slice At o.tables.length az] 25)).alloc (.cells #[.string name] 9))) (c:=[.string owner]) (t:=9) (ag.refl _)).aH ((ag.refl _).alloc (.cells #[.slice none 0 0,.slice none 0 0] 25))
  simpa using this
 have r2:au W (w.heap.size+1+1+1) [.slice none 0 0,.slice none 0 0]:=by
  rw [hW];have:=(aU (w:=(((w.alloc (.cells #[.slice As o.aa.length ay,.slice At o.tables.length az] 25)).alloc (.cells #[.string name] 9)).alloc (.cells #[.string owner] 9))) (c:=[.slice none 0 0,.slice none 0 0]) (t:=25) (ag.refl _))
  simpa using this
 have zW:W.heap.size=w.heap.size+4:=by rw [hW];simp
 have CT:=gH (th o As ay At az 277 #[.pointer (some ⟨w.heap.size+1,0,none⟩),.pointer (some ⟨w.heap.size+1+1,0,none⟩)] (dG name owner o) W (bI aW en) (br aW dw) dc
  xn (fun j7 w1 hs ht L B n3 a hB hn hL ob hne r3=>BQ name owner o w1 hs ht L B n3 (w.heap.size+1) (w.heap.size+1+1) j7 hn hL ob hne r3 ((VJ.aH a).cell (j:=0) rfl) ((rs1.aH a).cell (j:=0) rfl) (by omega) (by omega) sm hs1 hs2))
 obtain ⟨rr,BS⟩:∃ rr,ju o (dG name owner o)=rr:=⟨_,rfl⟩;rw [BS] at CT ⊢;have bQ:=gH aW;have se:=gH r2;have HZ:=gH zW;clear BS en dw r2 aW zW VJ rs1 sm
 go_in
 go_wp2_with fail;rw [← hW];clear hW;refine CT.out.mono ?_;rintro e w3 ⟨hs,ht,L,hL,rfl,a3,ob⟩;have b2:=se.out.aH a3;have d0:=b2.cell (j:=0) rfl;have d1:=b2.cell (j:=1) rfl;have f0:=b2.2.2 0 (by simp);have f1:=b2.2.2 1 (by simp);have z2:=b2.1;have Ls:=gH b2;have nU:=gH (bQ.out.trans a3);have HO:=gH ob;have HL:=gH hL;clear b2 a3 ob hL;go_wp2;refine bodyPost_ret (results_cell_tmp (v:=.agg #[.slice hs.a rr.1.aa.length hs.c,.slice ht.a rr.1.tables.length ht.c]) rfl _ rfl (iI (yX Ls.out rfl _ _))) rfl ?_;exact sZ nU.out HL.out HO.out (by omega) (by have:=HZ.out;omega) rfl
theorem uF (o:bF) (As:Option Addr) (ay:Nat) (At:Option Addr) (az:Nat) (name:ByteArray) (w:World) (en:aA w 2 eL As ay o.aa) (dw:aA w 5 dE At az o.tables) :
  Calls Tryz.prog 203 #[.agg #[.slice As o.aa.length ay,.slice At o.tables.length az],.string name] w (rL w (ju o (cS name o))):=by
 have hlen:=en.len;have fq:=dw.len;have sm:qf o:=⟨xd en,xe dw⟩;have dc:=enters (P:=Tryz.prog) Tryz.func280 (by kernel_rfl) rfl
 have l1:w.heap.size < w.heap.size+1:=by omega
 have l2:w.heap.size < w.heap.size+1+1:=by omega
 obtain ⟨W,hW⟩:∃ W,W=((w.alloc (.cells #[.slice As o.aa.length ay,.slice At o.tables.length az] 25)).alloc (.cells #[.string name] 9)).alloc (.cells #[.slice none 0 0,.slice none 0 0] 25):=⟨_,rfl⟩
 have aW:ag w W:=by rw [hW];exact (((ag.refl w).alloc _).alloc _).alloc _
 have VJ:au W (w.heap.size+1) [.string name]:=by
  rw [hW];have:=(aU (w:=(w.alloc (.cells #[.slice As o.aa.length ay,.slice At o.tables.length az] 25))) (c:=[.string name]) (t:=9) (ag.refl _)).aH ((ag.refl _).alloc (.cells #[.slice none 0 0,.slice none 0 0] 25))
  simpa using this
 have r2:au W (w.heap.size+1+1) [.slice none 0 0,.slice none 0 0]:=by
  rw [hW];have:=(aU (w:=((w.alloc (.cells #[.slice As o.aa.length ay,.slice At o.tables.length az] 25)).alloc (.cells #[.string name] 9))) (c:=[.slice none 0 0,.slice none 0 0]) (t:=25) (ag.refl _))
  simpa using this
 have zW:W.heap.size=w.heap.size+3:=by rw [hW];simp
 have CT:=gH (th o As ay At az 280 #[.pointer (some ⟨w.heap.size+1,0,none⟩)] (cS name o) W (bI aW en) (br aW dw) dc
  uD (fun j7 w1 hs ht L B n3 a hB hn hL ob hne r3=>za name o w1 hs ht L B n3 (w.heap.size+1) hn hL ob hne r3 ((VJ.aH a).cell (j:=0) rfl) sm))
 obtain ⟨rr,BS⟩:∃ rr,ju o (cS name o)=rr:=⟨_,rfl⟩;rw [BS] at CT ⊢;have bQ:=gH aW;have se:=gH r2;have HZ:=gH zW;clear BS en dw r2 aW zW VJ sm
 go_in
 go_wp2_with fail;rw [← hW];clear hW;refine CT.out.mono ?_;rintro e w3 ⟨hs,ht,L,hL,rfl,a3,ob⟩;have b2:=se.out.aH a3;have d0:=b2.cell (j:=0) rfl;have d1:=b2.cell (j:=1) rfl;have f0:=b2.2.2 0 (by simp);have f1:=b2.2.2 1 (by simp);have z2:=b2.1;have Ls:=gH b2;have nU:=gH (bQ.out.trans a3);have HO:=gH ob;have HL:=gH hL;clear b2 a3 ob hL;go_wp2;refine bodyPost_ret (results_cell_tmp (v:=.agg #[.slice hs.a rr.1.aa.length hs.c,.slice ht.a rr.1.tables.length ht.c]) rfl _ rfl (iI (yX Ls.out rfl _ _))) rfl ?_;exact sZ nU.out HL.out HO.out (by omega) (by have:=HZ.out;omega) rfl
end Go.Proofs.YtakddkhipelmjaaGreat
namespace Go.Proofs.YtakddkhipelmjaaGreat
open Go.RowKit Go.Deep Go.Shelf
def tj (s n:ByteArray) (t:cp):Bool:=aS t.ac s&&aS t.name n
def Pf (o:bF) (s n:ByteArray):Bool:=(Jh s n o.tables).any fun p=>!tj s n p.1
def gI (s n:ByteArray) (o:bF):bF × Int :=
 if bp o.tables s n < 0 then (dD,61) else if Pf o s n then (dD,62) else (⟨o.aa,o.tables.eraseIdx (bp o.tables s n).toNat⟩,0)
end Go.Proofs.YtakddkhipelmjaaGreat
namespace Go.Proofs.YtakddkhipelmjaaGreat
open Go.Deep Go.RowKit
def i5 (ts:List cp) (s n name:ByteArray) (t:cp):cp × Int :=
 if fL t.rules name < 0 then (t,61) else if ((Jh s n ts).any fun p=>QG (rY t name) name p.2) then (t,62) else ({ t with rules:=t.rules.eraseIdx (fL t.rules name).toNat },0)
theorem BU {t:cp} {name:ByteArray} {p:Nat} (h:fL t.rules name=p) (hp:p < t.rules.length):rY t name=t.rules[p].kind:=by
 unfold rY;rw [h];simp only [Int.toNat_natCast,List.getElem?_eq_getElem hp]
theorem dH (a b:ByteArray):aS a b=true↔a=b:=⟨fun h=>by
 have h1:a.data.toList=b.data.toList:=(py _ _).1 ((dl a b).2 h);obtain ⟨a⟩:=a;obtain ⟨b⟩:=b;have h2:a=b:=Array.toList_inj.1 h1
 rw [h2],fun h=>by rw [h];exact cZ b⟩
theorem jR (a b:ByteArray):aT a b=0↔a=b:=(dl a b).trans (dH a b)
theorem BV {x y:cp}:gF x y=0↔x.ac=y.ac∧x.name=y.name:=by
 unfold gF eO;by_cases e1:aT x.ac y.ac=0
 ·rw [if_pos (by simpa using e1),jR]
  exact ⟨fun h=>⟨(jR _ _).1 e1,h⟩,fun h=>h.2⟩
 ·rw [if_neg (by simpa using e1)]
  exact ⟨fun h=>absurd h e1,fun h=>absurd ((jR _ _).2 h.1) e1⟩
theorem ie {α:Type} (p:α→Bool):∀ l:List α,l.find? p=if bD p l < 0 then none else l[(bD p l).toNat]?
 | []=>by simp [bD]
 | x::l=>by
  have ih:=ie p l;have hr:=bk p l;rw [List.find?_cons]
  show _=if (if p x then (0:Int) else if bD p l < 0 then -1 else bD p l+1) < 0 then none else (x::l)[(if p x then (0:Int) else if bD p l < 0 then -1 else bD p l+1).toNat]?
  cases h:p x
  ·simp only [Bool.false_eq_true,if_false]
   rw [ih];by_cases h1:bD p l < 0
   ·rw [if_pos h1,if_pos h1,if_pos (by omega)]
   ·rw [if_neg h1,if_neg h1,if_neg (by omega),show (bD p l+1).toNat=(bD p l).toNat+1 by omega,List.getElem?_cons_succ]
  ·simp
theorem vq {α:Type} (p:α→Bool) (l:List α) (x:α) (hx:x∈l) (hp:p x=true) (hu:∀ y∈l,p y=true→y=x):l.find? p=some x:=by
 cases h:l.find? p with
 | none =>
  have:=List.find?_eq_none.1 h x hx;rw [hp] at this;exact absurd rfl this
 | some y=>rw [hu y (List.mem_of_find?_eq_some h) (List.find?_some h)]
theorem tk {α:Type} {c:α→α→Int} (P:mo c) {l:List α} (h:aM c l=true) {x y:α} (hx:x∈l) (hy:y∈l) (e:c x y=0):x=y:=by
 obtain ⟨i,hi,rfl⟩:=List.getElem_of_mem hx;obtain ⟨j,hj,rfl⟩:=List.getElem_of_mem hy
 rcases Nat.lt_trichotomy i j with h1 | h1 | h1
 ·have:=dZ P.tr h i j hi hj h1;omega
 ·subst h1;rfl
 ·have:=dZ P.tr h j i hj hi h1;have:=P.dY l[i] l[j];omega
def dI (l:List eB) (a:ByteArray):Option Int:=(l.find? fun c=>aS c.name a).map eB.kind
theorem vr (l:List eB) (a:ByteArray):dI l a=if 0≤bR l a then some (fl l (bR l a)) else none:=by
 unfold dI;rw [ie];have hr:=bk (fun c:eB=>aS c.name a) l;by_cases h:0≤bR l a
 ·have h':0≤bD (fun c:eB=>aS c.name a) l:=h
  rw [if_pos h,if_neg (by omega),show bR l a=bD (fun c:eB=>aS c.name a) l from rfl];unfold fl;rw [List.getElem?_eq_getElem (show (bD (fun c:eB=>aS c.name a) l).toNat < l.length by omega)];rfl
 ·have h':¬ 0≤bD (fun c:eB=>aS c.name a) l:=h
  rw [if_neg h,if_pos (by omega)];rfl
theorem lQ {l:List eB} {a:ByteArray} (h:0≤bR l a):dI l a=some (fl l (bR l a)):=by rw [vr,if_pos h]
theorem i6 {l:List eB} {a:ByteArray} {k:Int} (h:dI l a=some k):0≤bR l a∧fl l (bR l a)=k:=by
 rw [vr] at h;by_cases h1:0≤bR l a
 ·rw [if_pos h1] at h;exact ⟨h1,Option.some.inj h⟩
 ·rw [if_neg h1] at h;cases h
theorem vu (l l2:List eB) (a b:ByteArray):l8 l l2 a b=true↔∃ k,dI l a=some k∧dI l2 b=some k:=by
 unfold l8;simp only [Bool.and_eq_true,decide_eq_true_eq,beq_iff_eq]
 constructor
 ·rintro ⟨⟨h1,h2⟩,h3⟩
  exact ⟨_,lQ h1,by rw [lQ h2,h3]⟩
 ·rintro ⟨k,h1,h2⟩
  have h1:=i6 h1;have h2:=i6 h2;exact ⟨⟨h1.1,h2.1⟩,by rw [h1.2,h2.2]⟩
theorem oK {l l' l2 l2':List eB}:∀ cs ds:List ByteArray,(∀ a∈cs,∀ k,dI l a=some k→dI l' a=some k)→(∀ a∈ds,∀ k,dI l2 a=some k→dI l2' a=some k)→dm l l2 cs ds=true→dm l' l2' cs ds=true
 | [],[],_,_,_=>rfl
 | [],_::_,_,_,h=>by simp [dm] at h
 | _::_,[],_,_,h=>by simp [dm] at h
 | a::xs,b::ys,h1,h2,h=>by
  rw [dm,Bool.and_eq_true] at h ⊢;obtain ⟨k,e1,e2⟩:=(vu _ _ _ _).1 h.1;exact ⟨(vu _ _ _ _).2 ⟨k,h1 a (by simp) k e1,h2 b (by simp) k e2⟩,oK xs ys (fun c hc=>h1 c (by simp [hc])) (fun c hc=>h2 c (by simp [hc])) h.2⟩
theorem BW {l:List eB} {r:fF} (h:cK l r=true):∀ a∈r.av,∃ k,dI l a=some k:=fun a ha=>by
 unfold cK tq at h;simp only [Bool.and_eq_true,List.all_eq_true,List.mem_range] at h;obtain ⟨i,hi,rfl⟩:=List.getElem_of_mem ha;have:=h.1.1.1 i hi;rw [List.getElem?_eq_getElem hi] at this;simp only [Bool.and_eq_true,decide_eq_true_eq] at this;exact ⟨_,lQ this.1⟩
theorem vv {l l':List eB} {r:fF} (hm:∀ a∈r.av,∀ k,dI l a=some k→dI l' a=some k) (h:cK l r=true):cK l' r=true:=by
 have hc:=BW h;unfold cK at h ⊢;simp only [Bool.and_eq_true] at h ⊢;obtain ⟨⟨⟨h1,h2⟩,h3⟩,h4⟩:=h;refine ⟨⟨⟨?_,h2⟩,h3⟩,?_⟩
 ·unfold tq at h1 ⊢
  simp only [List.all_eq_true,List.mem_range] at h1 ⊢;intro i hi;have:=h1 i hi;rw [List.getElem?_eq_getElem hi] at this ⊢;simp only [Bool.and_eq_true,decide_eq_true_eq] at this ⊢;exact ⟨(i6 (hm _ (List.getElem_mem hi) _ (lQ this.1))).1,this.2⟩
 ·unfold eR at h4 ⊢
  by_cases k1:(r.kind==1 || r.kind==2)=true
  ·rw [if_pos k1] at h4 ⊢;exact h4
  ·rw [if_neg k1] at h4 ⊢
   by_cases k3:(r.kind==3)=true
   ·rw [if_pos k3] at h4 ⊢
    simp only [Bool.and_eq_true,beq_iff_eq] at h4 ⊢;obtain ⟨⟨⟨h5,h6⟩,h7⟩,h8⟩:=h4;refine ⟨⟨⟨h5,h6⟩,?_⟩,h8⟩
    have hl:r.av.length=1:=by omega
    have Tv:r.av.headD ByteArray.empty∈r.av:=by
     match r.av,hl with
     | [x],_=>simp
    obtain ⟨k,hk⟩:=hc _ Tv;have e1:=(i6 hk).2;rw [h7] at e1;have e2:=(i6 (hm _ Tv _ hk)).2;rw [e2,e1]
   ·rw [if_neg k3] at h4 ⊢;exact h4
theorem lR (l:List eB):eY l=true↔(1≤l.length∧l.length≤8)∧(∀ c∈l,gJ c=true)∧l.Pairwise fun a b=>a.name≠b.name:=by
 unfold eY;simp only [Bool.and_eq_true,decide_eq_true_eq,List.all_eq_true,List.mem_range]
 have key:∀ (i:Nat) (hi:i < l.length),bD (fun d:eB=>aS d.name l[i].name) (l.take i) < 0↔∀ j (hj:j < i),(l[j]'(by omega)).name≠l[i].name:=fun i hi=>by
  constructor
  ·intro h j hj e
   have h1:=ie (fun d:eB=>aS d.name l[i].name) (l.take i);rw [if_pos h] at h1;have:=List.find?_eq_none.1 h1 (l[j]'(by omega)) (by rw [List.mem_take_iff_getElem];exact ⟨j,by omega,rfl⟩);exact this ((dH _ _).2 e)
  ·intro h
   have:bD (fun d:eB=>aS d.name l[i].name) (l.take i) = -1:=dU _ _ fun j hj=>by
    rw [Bool.eq_false_iff];intro e
    have hj':j < i:=by simp at hj;omega
    rw [List.getElem_take] at e;exact h j hj' ((dH _ _).1 e)
   omega
 constructor
 ·rintro ⟨h1,h2⟩
  refine ⟨h1,fun c hc=>?_,List.pairwise_iff_getElem.2 fun i j hi hj pg=>?_⟩
  ·obtain ⟨i,hi,rfl⟩:=List.getElem_of_mem hc
   have:=h2 i hi;rw [List.getElem?_eq_getElem hi] at this;simp only [Bool.and_eq_true,decide_eq_true_eq] at this;exact this.1
  ·have:=h2 j hj
   rw [List.getElem?_eq_getElem hj] at this;simp only [Bool.and_eq_true,decide_eq_true_eq] at this;exact (key j hj).1 this.2 i pg
 ·rintro ⟨h1,h2,h3⟩
  refine ⟨h1,fun i hi=>?_⟩;rw [List.getElem?_eq_getElem hi];simp only [Bool.and_eq_true,decide_eq_true_eq];exact ⟨h2 _ (List.getElem_mem hi),(key i hi).2 fun j hj=>List.pairwise_iff_getElem.1 h3 j i (by omega) hi hj⟩
def iq (ts:List cp) (l:List eB) (r:fF):Prop:=∃ t∈ts,t.ac=r.ac∧t.name=r.table∧∃ q∈t.rules,q.name=r.key∧q.kind=2∧dm l t.av r.av q.av=true
theorem vw (ts:List cp) (l:List eB) (r:fF):lO ts l r=match ts.find? (fun t=>aS t.ac r.ac&&aS t.name r.table) with
  | none=>61
  | some t=>match t.rules.find? (fun q=>aS q.name r.key) with
   | none=>61
   | some q=>if q.kind==2 then (if dm l t.av r.av q.av then 0 else 63) else 61:=by
 have h2:∀ t:cp,j9 t l r=match t.rules.find? (fun q=>aS q.name r.key) with | none=>61 | some q=>if q.kind==2 then (if dm l t.av r.av q.av then 0 else 63) else 61:=fun t=>by
  unfold j9;rw [ie];have e:fL t.rules r.key=bD (fun q:fF=>aS q.name r.key) t.rules:=rfl;rw [e];by_cases h:bD (fun q:fF=>aS q.name r.key) t.rules < 0
  ·rw [if_pos h]
   split
   ·rw [if_pos h]
   ·rfl
  ·rw [if_neg h]
   cases hg:t.rules[(bD (fun q:fF=>aS q.name r.key) t.rules).toNat]? with
   | none=>rfl
   | some q=>simp only;rw [if_neg h]
 unfold lO;rw [ie];have e:bp ts r.ac r.table=bD (fun t:cp=>aS t.ac r.ac&&aS t.name r.table) ts:=rfl;rw [e];by_cases h:bD (fun t:cp=>aS t.ac r.ac&&aS t.name r.table) ts < 0
 ·rw [if_pos h]
  split
  ·rw [if_pos h]
  ·rfl
 ·rw [if_neg h]
  cases hg:ts[(bD (fun t:cp=>aS t.ac r.ac&&aS t.name r.table) ts).toNat]? with
  | none=>rfl
  | some t=>simp only;rw [if_neg h,h2]
theorem tu {ts:List cp} {l:List eB} {r:fF} (h:lO ts l r=0):iq ts l r:=by
 rw [vw] at h
 cases h1:ts.find? (fun t=>aS t.ac r.ac&&aS t.name r.table) with
 | none=>rw [h1] at h;simp at h
 | some t =>
  rw [h1] at h;simp only at h;have p1:=List.find?_some (p:=fun t:cp=>aS t.ac r.ac&&aS t.name r.table) h1;simp only [Bool.and_eq_true,dH] at p1
  cases h2:t.rules.find? (fun q=>aS q.name r.key) with
  | none=>rw [h2] at h;simp at h
  | some q =>
   rw [h2] at h;simp only at h;have p2:=List.find?_some (p:=fun q:fF=>aS q.name r.key) h2;by_cases k:(q.kind==2)=true
   ·rw [if_pos k] at h
    by_cases k2:dm l t.av r.av q.av=true
    ·exact ⟨t,List.mem_of_find?_eq_some h1,p1.1,p1.2,q,List.mem_of_find?_eq_some h2,(dH _ _).1 p2,by simpa using k,k2⟩
    ·rw [if_neg k2] at h;exact absurd h (by decide)
   ·rw [if_neg k] at h;exact absurd h (by decide)
theorem BX {ts:List cp} {l:List eB} {r:fF} (hts:aM gF ts=true) (my:∀ t∈ts,aM qO t.rules=true) (h:iq ts l r):lO ts l r=0:=by
 obtain ⟨t,ht,e1,e2,q,hq,e3,e4,e5⟩:=h
 rw [vw,vq _ ts t ht (by rw [e1,e2,cZ,cZ];rfl) (fun y hy hp=>by
  simp only [Bool.and_eq_true,dH] at hp
  exact tk vd hts hy ht (BV.2 ⟨hp.1.trans e1.symm,hp.2.trans e2.symm⟩))]
 simp only
 rw [vq _ t.rules q hq (by rw [e3,cZ]) (fun y hy hp=>tk Ek (my t ht) hy hq ((jR _ _).2 (((dH _ _).1 hp).trans e3.symm)))]
 simp only
 rw [if_pos (by simp [e4]),if_pos e5]
structure VK (ss:List fJ) (ts:List cp) (t:cp):Prop where
 nm:bA t.name=true
 ow:bA t.owner=true
 av:eY t.av=true
 nr:t.rules.length≤8
 gT:∃ s∈ss,s.name=t.ac
 ln:aM qO t.rules=true
 fit:∀ r∈t.rules,cK t.av r=true
 key:∀ r∈t.rules,r.kind=4→iq ts t.av r
structure Good (o:bF):Prop where
 ns:o.aa.length≤8
 nt:o.tables.length≤64
 rt:aM gF o.tables=true
 rs:aM jH o.aa=true
 gT:∀ s∈o.aa,bA s.name=true∧bA s.owner=true∧within o.tables s.name≤8
 tab:∀ t∈o.tables,VK o.aa o.tables t
theorem nL (l:List fJ) (s:ByteArray):0≤cy l s↔∃ x∈l,x.name=s:=by
 have h:=ie (fun c:fJ=>aS c.name s) l;have hr:=bk (fun c:fJ=>aS c.name s) l;have e:cy l s=bD (fun c:fJ=>aS c.name s) l:=rfl;rw [e]
 constructor
 ·intro h0
  rw [if_neg (by omega),List.getElem?_eq_getElem (by omega)] at h;exact ⟨_,List.mem_of_find?_eq_some h,(dH _ _).1 (List.find?_some (p:=fun c:fJ=>aS c.name s) h)⟩
 ·rintro ⟨x,hx,rfl⟩
  rcases Int.lt_or_le (bD (fun c:fJ=>aS c.name x.name) l) 0 with h0 | h0
  ·rw [if_pos h0] at h
   exact absurd (cZ x.name) (List.find?_eq_none.1 h x hx)
  ·exact h0
theorem eI (o:bF):bw o=true↔Good o:=by
 unfold bw lL;simp only [Bool.and_eq_true,decide_eq_true_eq,List.all_eq_true]
 constructor
 ·rintro ⟨⟨⟨⟨h1,h2⟩,h3⟩,h4⟩,h5,h6⟩
  refine ⟨h1,h2,h3,h4,fun s hs=>?_,fun t ht=>?_⟩
  ·have:=h5 s hs
   unfold iB at this;simp only [Bool.and_eq_true,decide_eq_true_eq] at this;exact ⟨this.1.1,this.1.2,this.2⟩
  ·have:=h6 t ht
   unfold bP at this;simp only [Bool.and_eq_true,decide_eq_true_eq,List.all_eq_true] at this;obtain ⟨⟨⟨⟨⟨a1,a2⟩,a3⟩,a4⟩,a5⟩,a6,a7⟩:=this;refine ⟨a1,a2,a3,a4,(nL _ _).1 a5,a7,fun r hr=>?_,fun r hr hk=>?_⟩
   ·have:=a6 r hr
    unfold ey at this;simp only [Bool.and_eq_true] at this;exact this.1
   ·have:=a6 r hr
    unfold ey at this;simp only [Bool.and_eq_true,Bool.not_eq_true',Bool.and_eq_false_iff,beq_eq_false_iff_ne,bne_eq_false_iff_eq] at this;exact tu (this.2.resolve_left fun h=>h hk)
 ·intro g
  have my:∀ t∈o.tables,aM qO t.rules=true:=fun t ht=>(g.tab t ht).ln
  refine ⟨⟨⟨⟨g.ns,g.nt⟩,g.rt⟩,g.rs⟩,fun s hs=>?_,fun t ht=>?_⟩
  ·have:=g.gT s hs
   unfold iB;simp only [Bool.and_eq_true,decide_eq_true_eq];exact ⟨⟨this.1,this.2.1⟩,this.2.2⟩
  ·have a:=g.tab t ht
   unfold bP;simp only [Bool.and_eq_true,decide_eq_true_eq,List.all_eq_true];refine ⟨⟨⟨⟨⟨a.nm,a.ow⟩,a.av⟩,a.nr⟩,(nL _ _).2 a.gT⟩,fun r hr=>?_,a.ln⟩;unfold ey;simp only [Bool.and_eq_true,Bool.not_eq_true',Bool.and_eq_false_iff,beq_eq_false_iff_ne,bne_eq_false_iff_eq];refine ⟨a.fit r hr,?_⟩;by_cases hk:r.kind=4
   ·exact .inr (BX g.rt my (a.key r hr hk))
   ·exact .inl hk
end Go.Proofs.YtakddkhipelmjaaGreat
namespace Go.Proofs.YtakddkhipelmjaaGreat
open Go.RowKit Go.Deep Go.Sort
def iN (t:cp) (o:bF):bF × Int :=
 if (!bA t.name || !bA t.owner) then (dD,1) else if cy o.aa t.ac < 0 then (dD,61) else if 0≤bp o.tables t.ac t.name then (dD,60) else if 8≤within o.tables t.ac then (dD,2)
 else if (!eY t.av || decide (0 < t.rules.length)) then (dD,63) else (⟨o.aa,dv o.tables (em gF o.tables t) t⟩,0)
theorem Jk {o:bF} {t:cp} (h:bp o.tables t.ac t.name < 0):∀ y∈o.tables,gF y t≠0:=fun y hy e=>by
 have h1:=bk (fun c:cp=>aS c.ac t.ac&&aS c.name t.name) o.tables
 have h2:bp o.tables t.ac t.name = -1:=by unfold bp at *;omega
 have h4:aT y.ac t.ac=0∧aT y.name t.name=0:=by
  unfold gF eO at e;by_cases e1:aT y.ac t.ac=0
  ·rw [if_pos (by simpa using e1)] at e;exact ⟨e1,e⟩
  ·rw [if_neg (by simpa using e1)] at e;exact absurd e e1
 have h3:o.tables.any (fun c=>aS c.ac t.ac&&aS c.name t.name)=true:=List.any_eq_true.2 ⟨y,hy,by rw [(dl _ _).1 h4.1,(dl _ _).1 h4.2];rfl⟩;rw [← qp] at h3;have:=of_decide_eq_true h3;unfold bp at h2;omega
end Go.Proofs.YtakddkhipelmjaaGreat
namespace Go.Proofs.YtakddkhipelmjaaGreat
open Go.Deep Go.RowKit
theorem Ms {ops:Array Oper} {rest:List Oper} {o:Oper} {a:Act} {w:World} {Q:Exit→Act→World→Prop} (hgd:o.guard=none) (s x:Operand)
  (ho:o.op=.call { callee:=.builtin .append,args:=#[s,x],argTypes:=#[23,23] }) (base:Nat) (v:Value) (n:Nat) (xs:List Value) (hs:a.eval s=v) (hown:w.ownsRow base 80 5 v n xs)
  (b:Nat) (y:bK) (c0 c1 c2:ByteArray) (A2:Option Addr) (n2 k2:Nat) (A3:Option Addr) (n3 k3:Nat) (hy:y.cells=[.string c0,.string c1,.string c2,.slice A2 n2 k2,.slice A3 n3 k3]) (hx:a.eval x=.slice (some ⟨b,0,none⟩) 1 1) (hb:w.heap[b]? = some (.cells #[.string c0,.string c1,.string c2,.slice A2 n2 k2,.slice A3 n3 k3] 80)) (hn:n≤1000000) (hbase:base≤w.heap.size)
  (h:∀ g cap w',w'.ownsRow base 80 5 (.slice (some ⟨g,0,none⟩) (n+1) cap) (n+1) (xs++y.cells)→w.grownBy w' v.ownBlock→(v.ownBlock=some g∨g=w.heap.size)→wpList Tryz.prog ops Q rest (a.put o.dst (.slice (some ⟨g,0,none⟩) (n+1) cap)) w'):wpList Tryz.prog ops Q (o::rest) a w:=by
 obtain ⟨i0,kG,hz0,hz1,hz2⟩:=info_parts ze;rw [hy] at h
 exact wpList_append_lies w hgd s x 23 ho base 80 i0 _ 5 96 Tryz.underlying23 kG hz0 hz1 hz2 rfl (by decide) v n xs hs hown ⟨b,0,none⟩ 1 1 [.string c0,.string c1,.string c2,.slice A2 n2 k2,.slice A3 n3 k3] hx rfl (World.news_of_block (cs:=#[.string c0,.string c1,.string c2,.slice A2 n2 k2,.slice A3 n3 k3]) (t:=80) (fr:=(0,0)) hb) (by simp [Value.oneCell']) (by omega) (by unfold maxLen;omega) (by omega) hbase _ rfl fun g cap w' h1 h2 h3 _=>h g cap w' h1 h2 h3
theorem BZ {α:Type} (l:List α) (p:Nat) (x:α):(dv l p x).Perm (l++[x]):=by
 unfold dv;have h1:(l.take p++([x]++l.drop p)).Perm (l.take p++(l.drop p++[x])):=List.perm_append_comm.append_left _;rw [← List.append_assoc,← List.append_assoc,List.take_append_drop] at h1;exact h1
theorem B9 (ts:List cp) (p:Nat) (t:cp) (s:ByteArray):within (dv ts p t) s=within ts s+if aS t.ac s then 1 else 0:=by
 unfold within;rw [((BZ ts p t).filter _).length_eq,List.filter_append,List.length_append]
 cases h:aS t.ac s<;>simp [h]
theorem vx {α:Type} (p:α→Bool):∀ l:List α,l.length=(l.filter p).length+(l.filter fun x=>!p x).length
 | []=>rfl
 | x::l=>by
  have:=vx p l
  cases h:p x<;>simp [h]<;>omega
theorem vy:∀ (ns:List ByteArray) (ts:List cp),(∀ t∈ts,t.ac∈ns)→(∀ n∈ns,within ts n≤8)→ts.length≤ns.length*8
 | [],ts,h,_=>by
  cases ts with
  | nil=>simp
  | cons t l=>have:=h t (by simp);simp at this
 | n::ns,ts,h,h8=>by
  have e:=vx (fun t:cp=>aS t.ac n) ts
  have ih:=vy ns (ts.filter fun t=>!aS t.ac n) (fun t ht=>by
   have h1:=List.mem_filter.1 ht
   rcases List.mem_cons.1 (h t h1.1) with e | e
   ·have:=h1.2
    rw [e,cZ] at this
    cases this
   ·exact e) (fun m hm=>Nat.le_trans (by
    unfold within
    exact ((List.filter_sublist (p:=fun t:cp=>!aS t.ac n) (l:=ts)).filter _).length_le) (h8 m (List.mem_cons_of_mem _ hm)))
  have h9:=h8 n (by simp);unfold within at h9;simp only [List.length_cons];omega
theorem tv {α β:Type} (f:α→β) (d:β→β→Int):∀ l:List α,aM (fun x y=>d (f x) (f y)) l=aM d (l.map f)
 | []=>rfl
 | [_]=>rfl
 | x::y::l=>by
  show (decide (d (f x) (f y) < 0)&&aM (fun x y=>d (f x) (f y)) (y::l))=(decide (d (f x) (f y) < 0)&&aM d ((y::l).map f))
  rw [tv f d (y::l)]
theorem pL {α β:Type} (f:α→β) (l:List α) (q:Nat) (x:α) (hq:q < l.length) (h:f x=f l[q]):(l.set q x).map f=l.map f:=by
 rw [List.map_set,h]
 have:f l[q]=(l.map f)[q]'(by simpa using hq):=by simp
 rw [this,List.set_getElem_self]
theorem vA {ts:List cp} {q:Nat} {t:cp} (hq:q < ts.length) (hs:t.ac=ts[q].ac) (hn:t.name=ts[q].name):aM gF (ts.set q t)=aM gF ts:=by
 have m:=tv (fun t:cp=>(t.ac,t.name)) (fun a b:ByteArray × ByteArray=>eO (aT a.1 b.1) (aT a.2 b.2));have m1:∀ l:List cp,aM gF l=aM (fun a b:ByteArray × ByteArray=>eO (aT a.1 b.1) (aT a.2 b.2)) (l.map fun t=>(t.ac,t.name)):=m;rw [m1,m1,pL _ _ _ _ hq (by simp [hs,hn])]
theorem tx {ts:List cp} {q:Nat} {t:cp} (hq:q < ts.length) (hs:t.ac=ts[q].ac) (s:ByteArray):within (ts.set q t) s=within ts s:=by
 have e:∀ l:List cp,within l s=((l.map cp.ac).filter fun a=>aS a s).length:=fun l=>by
  unfold within;rw [List.filter_map,List.length_map];rfl
 rw [e,e,pL _ _ _ _ hq hs]
theorem mZ {α:Type} {c:α→α→Int} (P:mo c) {l:List α} (h:aM c l=true) (p:Nat):aM c (l.eraseIdx p)=true:=by
 have hw:l.Pairwise fun a b=>c a b < 0:=List.pairwise_iff_getElem.2 fun i j hi hj pg=>dZ P.tr h i j hi hj pg
 have hw2:=hw.sublist (List.eraseIdx_sublist l p)
 exact (cR _ _).2 fun k hk=>List.pairwise_iff_getElem.1 hw2 k (k+1) (by omega) hk (by omega)
theorem fy {α:Type} {l:List α} {p:Nat} {x:α} (hx:x∈l) (hp:∀ h:p < l.length,x≠l[p]):x∈l.eraseIdx p:=by
 obtain ⟨i,hi,rfl⟩:=List.getElem_of_mem hx;refine List.mem_eraseIdx_iff_getElem.2 ⟨i,hi,fun e=>?_,rfl⟩;subst e;exact hp hi rfl
theorem nM {ts:List cp} {q:Nat} {t:cp} {l l':List eB} {r:fF} (hq:q < ts.length) (hs:t.ac=ts[q].ac) (hn:t.name=ts[q].name) (hl:∀ a∈r.av,∀ k,dI l a=some k→dI l' a=some k)
  (hr:ts[q].ac=r.ac→ts[q].name=r.table→∀ k∈ts[q].rules,k.name=r.key→k.kind=2→k∈t.rules∧∀ a∈k.av,∀ i,dI ts[q].av a=some i→dI t.av a=some i) (h:iq ts l r):iq (ts.set q t) l' r:=by
 obtain ⟨x,hx,e1,e2,k,hk,e3,e4,e5⟩:=h;obtain ⟨i,hi,rfl⟩:=List.getElem_of_mem hx;by_cases hiq:i=q
 ·subst hiq
  have h9:=hr e1 e2 k hk e3 e4;exact ⟨t,List.mem_set hq t,hs.trans e1,hn.trans e2,k,h9.1,e3,e4,oK _ _ hl h9.2 e5⟩
 ·refine ⟨ts[i],?_,e1,e2,k,hk,e3,e4,oK _ _ hl (fun _ _ _ h=>h) e5⟩
  exact List.mem_iff_getElem.2 ⟨i,by simpa using hi,by rw [List.getElem_set_ne (fun e=>hiq e.symm)]⟩
theorem oL {α:Type} {l:List α} {q:Nat} {x y:α} (h:x∈l.set q y):x=y∨x∈l:=by
 rcases List.mem_or_eq_of_mem_set h with h | h
 ·exact .inr h
 ·exact .inl h
theorem pM {o:bF} {q:Nat} {t:cp} (g:Good o) (hq:q < o.tables.length) (hs:t.ac=o.tables[q].ac) (hn:t.name=o.tables[q].name) (ho:t.owner=o.tables[q].owner) (hc:eY t.av=true) (hl:t.rules.length≤8) (hri:aM qO t.rules=true) (hf:∀ r∈t.rules,cK t.av r=true)
  (hk:∀ r∈t.rules,r.kind=4→iq (o.tables.set q t) t.av r) (hk2:∀ x∈o.tables,∀ r∈x.rules,r.kind=4→iq (o.tables.set q t) x.av r):Good ⟨o.aa,o.tables.set q t⟩:=by
 have gq:=g.tab _ (List.getElem_mem hq);refine ⟨g.ns,by simpa using g.nt,?_,g.rs,fun s hs2=>?_,fun x hx=>?_⟩
 ·show aM gF (o.tables.set q t)=true
  rw [vA hq hs hn];exact g.rt
 ·have:=g.gT s hs2
  refine ⟨this.1,this.2.1,?_⟩
  show within (o.tables.set q t) s.name≤8
  rw [tx hq hs];exact this.2.2
 ·rcases oL hx with rfl | hx
  ·exact ⟨hn▸gq.nm,ho▸gq.ow,hc,hl,by rw [hs];exact gq.gT,hri,hf,hk⟩
  ·have gx:=g.tab x hx
   exact ⟨gx.nm,gx.ow,gx.av,gx.nr,gx.gT,gx.ln,gx.fit,hk2 x hx⟩
theorem iJ {l:List eB} {cs:List ByteArray}:∀ a∈cs,∀ k,dI l a=some k→dI l a=some k:=fun _ _ _ h=>h
theorem tA {ts:List cp} {s n:ByteArray} {q:Nat} (h:bp ts s n=q) (hq:q < ts.length):ts[q].ac=s∧ts[q].name=n:=by
 have h1:(aS ts[q].ac s&&aS ts[q].name n)=true:=gN (fun t:cp=>aS t.ac s&&aS t.name n) ts q hq h;simp only [Bool.and_eq_true,dH] at h1;exact h1
theorem Jl {l:List fF} {s:ByteArray} {p:Nat} (h:fL l s=p) (hp:p < l.length):l[p].name=s:=(dH _ _).1 (gN (fun c:fF=>aS c.name s) l p hp h)
theorem sf {o:bF} {s n:ByteArray} {f:cp→cp × Int} (h:bw o=true) (hz:(gu o s n f).2=0)
  (hf:∀ (q:Nat) (hq:q < o.tables.length),bp o.tables s n=q→(f o.tables[q]).2=0→Good ⟨o.aa,o.tables.set q (f o.tables[q]).1⟩):bw (gu o s n f).1=true:=by
 have hr:=bk (fun t:cp=>aS t.ac s&&aS t.name n) o.tables;by_cases h0:bp o.tables s n < 0
 ·rw [vB h0] at hz;cases hz
 ·obtain ⟨q,hq⟩:∃ q:Nat,bp o.tables s n=q:=⟨(bp o.tables s n).toNat,by omega⟩
  have mO:q < o.tables.length:=by unfold bp at hq;omega
  rw [vC hq mO] at hz ⊢;by_cases h1:(f o.tables[q]).2=0
  ·rw [if_pos h1]
   exact (eI _).2 (hf q mO hq h1)
  ·rw [if_neg h1] at hz;exact absurd hz h1
theorem Ca {o:bF} {s n:ByteArray} {r:fF} (h:bw o=true) (hz:(gu o s n (jv o.tables r)).2=0):bw (gu o s n (jv o.tables r)).1=true:=by
 have g:=(eI o).1 h
 refine sf h hz fun q hq hat pN=>?_
 have gq:=g.tab _ (List.getElem_mem hq);unfold jv at pN ⊢;by_cases c1:cK o.tables[q].av r=true
 ·by_cases c2:0≤fL o.tables[q].rules r.name
  ·rw [c1] at pN;simp [c2] at pN
  ·by_cases c3:8≤o.tables[q].rules.length
   ·rw [c1] at pN;simp [c2,c3] at pN
   ·by_cases c4:(r.kind==4&&lO o.tables o.tables[q].av r != 0)=true
    ·rw [if_neg (by rw [c1];simp),if_neg c2,if_neg c3,if_pos c4] at pN
     simp only [Bool.and_eq_true,bne_iff_ne] at c4;exact absurd pN c4.2
    ·rw [if_neg (by rw [c1];simp),if_neg c2,if_neg c3,if_neg c4]
     have Zw:∀ k,k∈o.tables[q].rules→k∈dv o.tables[q].rules (em qO o.tables[q].rules r) r:=fun k hk=>bU.2 (.inr hk)
     have uG:∀ x r',iq o.tables x r'→iq (o.tables.set q { o.tables[q] with rules:=dv o.tables[q].rules (em qO o.tables[q].rules r) r }) x r':=fun x r' hh =>
      nM hq rfl rfl iJ (fun _ _ k hk _ _=>⟨Zw k hk,iJ⟩) hh
     refine pM g hq rfl rfl rfl gq.av ?_ (iH Ek.tr Ek.dY gq.ln (Jg (by omega))) (fun y hy=>?_) (fun y hy VL=>?_) (fun x hx y hy VL=>uG _ _ ((g.tab x hx).key y hy VL))
     ·show (dv _ _ _).length≤8
      rw [fk _ _ _ (gM _ _ _)];omega
     ·rcases bU.1 hy with e | e
      ·rw [e];exact c1
      ·exact gq.fit y e
     ·rcases bU.1 hy with e | e
      ·rw [e] at VL ⊢
       refine uG _ _ (tu ?_)
       show lO o.tables o.tables[q].av r=0
       simp only [Bool.and_eq_true,beq_iff_eq,bne_iff_ne,not_and] at c4;exact Classical.not_not.1 (c4 VL)
      ·exact uG _ _ (gq.key y e VL)
 ·rw [if_pos (by simpa using c1)] at pN;cases pN
theorem zh {s n:ByteArray} {ts:List cp} {x:cp} {r:fF} (hx:x∈ts) (hr:r∈x.rules) (h:xm s n r=true):(x,r)∈Jh s n ts:=by
 unfold Jh VG;exact List.mem_flatMap.2 ⟨x,hx,List.mem_map.2 ⟨r,List.mem_filter.2 ⟨hr,h⟩,rfl⟩⟩
theorem vD {s n:ByteArray} {r:fF} (h4:r.kind=4) (hs:r.ac=s) (hn:r.table=n):xm s n r=true:=by
 unfold xm;rw [hs,hn,cZ,cZ];simp [h4]
theorem zi {o:bF} {s n name:ByteArray} (h:bw o=true) (hz:(gu o s n (i5 o.tables s n name)).2=0):bw (gu o s n (i5 o.tables s n name)).1=true:=by
 have g:=(eI o).1 h
 refine sf h hz fun q hq hat pN=>?_
 have gq:=g.tab _ (List.getElem_mem hq);obtain ⟨hqs,IZ⟩:=tA hat hq;have hr:=bk (fun c:fF=>aS c.name name) o.tables[q].rules;unfold i5 at pN ⊢;by_cases c1:fL o.tables[q].rules name < 0
 ·rw [if_pos c1] at pN;cases pN
 ·by_cases c2:((Jh s n o.tables).any fun p=>QG (rY o.tables[q] name) name p.2)=true
  ·rw [if_neg c1,if_pos c2] at pN;cases pN
  ·rw [if_neg c1,if_neg c2]
   obtain ⟨p,hp⟩:∃ p:Nat,fL o.tables[q].rules name=p:=⟨(fL o.tables[q].rules name).toNat,by omega⟩
   have hpl:p < o.tables[q].rules.length:=by unfold fL at hp;omega
   have Tw:=Jl hp hpl;have hkd:=BU hp hpl;rw [hp];simp only [Int.toNat_natCast]
   have uG:∀ x∈o.tables,∀ r'∈x.rules,r'.kind=4→iq o.tables x.av r'→iq (o.tables.set q { o.tables[q] with rules:=o.tables[q].rules.eraseIdx p }) x.av r':=fun x hx r' Jm h4 hh =>
    nM hq rfl rfl iJ (fun e1 e2 k hk e3 e4=>⟨fy hk fun h9 e=>c2 (List.any_eq_true.2 ⟨(x,r'),zh hx Jm (vD h4 (e1.symm.trans hqs) (e2.symm.trans IZ)),by
     unfold QG;rw [hkd,← e,e4,← e3,e,Tw,cZ]
     rfl⟩),iJ⟩) hh
   exact pM g hq rfl rfl rfl gq.av (Nat.le_trans (List.length_eraseIdx_le _ _) gq.nr) (mZ Ek gq.ln p) (fun y hy=>gq.fit y (List.mem_of_mem_eraseIdx hy))
    (fun y hy h4=>uG _ (List.getElem_mem hq) y (List.mem_of_mem_eraseIdx hy) h4 (gq.key y (List.mem_of_mem_eraseIdx hy) h4)) (fun x hx y hy h4=>uG x hx y hy h4 ((g.tab x hx).key y hy h4))
theorem zj {s n:ByteArray} {x y:cp} (h1:tj s n x=true) (h2:tj s n y=true):gF x y=0:=by
 unfold tj at h1 h2;rw [Bool.and_eq_true] at h1 h2;have e1:aT x.ac y.ac=0:=(dl _ _).2 (qr h1.1 (by rw [m9];exact h2.1));have e2:aT x.name y.name=0:=(dl _ _).2 (qr h1.2 (by rw [m9];exact h2.2));unfold gF eO;rw [e1,e2];rfl
theorem Jn {o:bF} {s n:ByteArray} {p:Nat} (hr:aM gF o.tables=true) (hp:bp o.tables s n=p) (hpl:p < o.tables.length) (t:Nat) (ht:t < o.tables.length):tj s n o.tables[t]=decide (t=p):=by
 have h1:tj s n o.tables[p]=true:=gN (fun c:cp=>aS c.ac s&&aS c.name n) o.tables p hpl hp
 rcases Nat.lt_trichotomy t p with h | h | h
 ·rw [decide_eq_false (by omega),Bool.eq_false_iff]
  intro h2;have h3:=dZ vd.tr hr t p ht hpl h;have h4:=zj h2 h1;omega
 ·subst h;rw [h1];simp
 ·rw [decide_eq_false (by omega),Bool.eq_false_iff]
  intro h2;have h3:=dZ vd.tr hr p t hpl ht h;have h4:=zj h1 h2;omega
def jw (c:eB) (t:cp):cp × Int :=
 if (!gJ c || !c.null) then (t,63) else if 0≤bR t.av c.name then (t,60) else if 8≤t.av.length then (t,2) else ({ t with av:=t.av++[c] },0)
def Jo (t:cp) (s:ByteArray):Bool:=decide (t.av.length=1) || t.rules.any fun r=>r.av.any fun x=>aS x s
def i7 (s:ByteArray) (t:cp):cp × Int :=
 if bR t.av s < 0 then (t,61) else if Jo t s then (t,62) else ({ t with av:=t.av.eraseIdx (bR t.av s).toNat },0)
theorem Mt {o:bF} (g:Good o) {t:cp} (ht:t∈o.tables):t.ac∈o.aa.map fJ.name:=by
 obtain ⟨s,hs,e⟩:=(g.tab t ht).gT;exact List.mem_map.2 ⟨s,hs,e⟩
theorem vE {l:List fJ} {s:ByteArray} (h:¬ 0≤cy l s):∀ x∈l,x.name≠s:=fun x hx e=>h ((nL l s).2 ⟨x,hx,e⟩)
theorem zk {ts:List cp} {s:ByteArray} (h:∀ t∈ts,t.ac≠s):within ts s=0:=by
 unfold within;rw [List.length_eq_zero_iff,List.filter_eq_nil_iff];intro t ht e;exact h t ht ((dH _ _).1 e)
theorem Cg {o:bF} {nm ow:ByteArray} (h:bw o=true) (hz:(dG nm ow o).2=0):bw (dG nm ow o).1=true:=by
 have g:=(eI o).1 h;unfold dG at hz ⊢;by_cases c1:(!bA nm || !bA ow)=true
 ·rw [if_pos c1] at hz;cases hz
 ·by_cases c2:0≤cy o.aa nm
  ·rw [if_neg c1,if_pos c2] at hz;cases hz
  ·by_cases c3:8≤o.aa.length
   ·rw [if_neg c1,if_neg c2,if_pos c3] at hz;cases hz
   ·rw [if_neg c1,if_neg c2,if_neg c3]
    simp only [Bool.or_eq_true,Bool.not_eq_true',not_or,Bool.not_eq_false] at c1;refine (eI _).2 ⟨?_,g.nt,g.rt,iH uZ.tr uZ.dY g.rs (fun y hy e=>vE c2 y hy ((jR _ _).1 e)),fun s hs=>?_,fun t ht=>?_⟩
    ·show (dv _ _ _).length≤8
     rw [fk _ _ _ (gM _ _ _)];omega
    ·rcases bU.1 hs with e | e
     ·rw [e]
      refine ⟨c1.1,c1.2,?_⟩
      show within o.tables nm≤8
      rw [zk fun t ht e=>?_]
      ·omega
      ·obtain ⟨x,hx,e2⟩:=(g.tab t ht).gT
       exact vE c2 x hx (e2.trans e)
     ·exact g.gT s e
    ·have a:=g.tab t ht
     obtain ⟨x,hx,e⟩:=a.gT;exact ⟨a.nm,a.ow,a.av,a.nr,⟨x,bU.2 (.inr hx),e⟩,a.ln,a.fit,a.key⟩
theorem EG {ts ts':List cp} {l:List eB} {r:fF} (hs:∀ t∈ts,t.ac=r.ac→t.name=r.table→t∈ts') (h:iq ts l r):iq ts' l r:=by
 obtain ⟨t,ht,e1,e2,rest⟩:=h;exact ⟨t,hs t ht e1 e2,e1,e2,rest⟩
theorem Ch {o:bF} {t:cp} (h:bw o=true) (hz:(iN t o).2=0):bw (iN t o).1=true:=by
 have g:=(eI o).1 h;unfold iN at hz ⊢;by_cases c1:(!bA t.name || !bA t.owner)=true
 ·rw [if_pos c1] at hz;cases hz
 ·by_cases c2:cy o.aa t.ac < 0
  ·rw [if_neg c1,if_pos c2] at hz;cases hz
  ·by_cases c3:0≤bp o.tables t.ac t.name
   ·rw [if_neg c1,if_neg c2,if_pos c3] at hz;cases hz
   ·by_cases c4:8≤within o.tables t.ac
    ·rw [if_neg c1,if_neg c2,if_neg c3,if_pos c4] at hz;cases hz
    ·by_cases c5:(!eY t.av || decide (0 < t.rules.length))=true
     ·rw [if_neg c1,if_neg c2,if_neg c3,if_neg c4,if_pos c5] at hz;cases hz
     ·rw [if_neg c1,if_neg c2,if_neg c3,if_neg c4,if_neg c5]
      simp only [Bool.or_eq_true,Bool.not_eq_true',not_or,Bool.not_eq_false,decide_eq_true_eq] at c1 c5;obtain ⟨sx,hsx,esx⟩:=(nL o.aa t.ac).1 (by omega);have Bc:t.rules=[]:=List.eq_nil_of_length_eq_zero (by omega)
      have hw:∀ s∈o.aa,within (dv o.tables (em gF o.tables t) t) s.name≤8:=fun s hs=>by
       rw [B9];have:=(g.gT s hs).2.2;by_cases e:t.ac=s.name
       ·rw [e] at c4
        rw [e,cZ];simp;omega
       ·rw [show aS t.ac s.name=false by rw [Bool.eq_false_iff];exact fun h9=>e ((dH _ _).1 h9)];simp;exact this
      refine (eI _).2 ⟨g.ns,?_,iH vd.tr vd.dY g.rt (Jk (by omega)),g.rs,fun s hs=>⟨(g.gT s hs).1,(g.gT s hs).2.1,hw s hs⟩,fun x hx=>?_⟩
      ·have h8:=vy (o.aa.map fJ.name) (dv o.tables (em gF o.tables t) t) (fun x hx=>by
        rcases bU.1 hx with e | e
        ·rw [e];exact List.mem_map.2 ⟨sx,hsx,esx⟩
        ·exact Mt g e) (fun n hn=>by
        obtain ⟨s,hs,rfl⟩:=List.mem_map.1 hn
        exact hw s hs)
       rw [List.length_map] at h8;have:=g.ns
       show (dv o.tables (em gF o.tables t) t).length≤64
       omega
      ·rcases bU.1 hx with e | e
       ·rw [e]
        exact ⟨c1.1,c1.2,c5.1,by rw [Bc];simp,⟨sx,hsx,esx⟩,by rw [Bc];rfl,(fun r hr=>by rw [Bc] at hr;cases hr),(fun r hr=>by rw [Bc] at hr;cases hr)⟩
       ·have a:=g.tab x e
        exact ⟨a.nm,a.ow,a.av,a.nr,a.gT,a.ln,a.fit,fun r hr h4=>EG (fun y hy _ _=>bU.2 (.inr hy)) (a.key r hr h4)⟩
theorem zl {o:bF} {s n:ByteArray} (h:bw o=true) (hz:(gI s n o).2=0):bw (gI s n o).1=true:=by
 have g:=(eI o).1 h;have hr:=bk (fun t:cp=>aS t.ac s&&aS t.name n) o.tables;unfold gI at hz ⊢;by_cases c1:bp o.tables s n < 0
 ·rw [if_pos c1] at hz;cases hz
 ·by_cases c2:Pf o s n=true
  ·rw [if_neg c1,if_pos c2] at hz;cases hz
  ·rw [if_neg c1,if_neg c2]
   obtain ⟨p,hp⟩:∃ p:Nat,bp o.tables s n=p:=⟨(bp o.tables s n).toNat,by omega⟩
   have hpl:p < o.tables.length:=by unfold bp at hp;omega
   obtain ⟨Tx,Tw⟩:=tA hp hpl;rw [hp];simp only [Int.toNat_natCast];refine (eI _).2 ⟨g.ns,Nat.le_trans (List.length_eraseIdx_le _ _) g.nt,mZ vd g.rt p,g.rs,fun x hx=>?_,fun x hx=>?_⟩
   ·have:=g.gT x hx
    refine ⟨this.1,this.2.1,Nat.le_trans ?_ this.2.2⟩;unfold within;exact ((List.eraseIdx_sublist o.tables p).filter _).length_le
   ·have hxo:x∈o.tables:=List.mem_of_mem_eraseIdx hx
    have a:=g.tab x hxo;refine ⟨a.nm,a.ow,a.av,a.nr,a.gT,a.ln,a.fit,fun r hr2 h4=>EG (fun y hy e1 e2=>fy hy fun h9 e=>?_) (a.key r hr2 h4)⟩;refine c2 (List.any_eq_true.2 ⟨(x,r),zh hxo hr2 (vD h4 (by rw [← e1,e,Tx]) (by rw [← e2,e,Tw])),?_⟩);obtain ⟨i,hi,hne,ei⟩:=List.mem_eraseIdx_iff_getElem.1 hx
    show (!tj s n x)=true
    rw [← ei,Jn g.rt hp hpl i hi,decide_eq_false hne];rfl
theorem tB {α:Type} (p:α→Bool):∀ (l:List α) (i:Nat) (hi:i < l.length),p l[i]=false→(l.eraseIdx i).find? p=l.find? p
 | x::l,0,_,h=>by
  have h:p x=false:=h;rw [List.eraseIdx_cons_zero,List.find?_cons,h]
 | x::l,i+1,hi,h=>by
  rw [List.eraseIdx_cons_succ,List.find?_cons,List.find?_cons,tB p l i (by simpa using hi) (by simpa using h)]
theorem xu {l:List eB} {i:Nat} {a:ByteArray} (hi:i < l.length) (h:l[i].name≠a):dI (l.eraseIdx i) a=dI l a:=by
 unfold dI;rw [tB _ l i hi (by rw [Bool.eq_false_iff];exact fun e=>h ((dH _ _).1 e))]
theorem uH {l:List eB} {c:eB} {a:ByteArray} {k:Int} (h:dI l a=some k):dI (l++[c]) a=some k:=by
 unfold dI at h ⊢
 cases h1:l.find? (fun c=>aS c.name a) with
 | none=>rw [h1] at h;cases h
 | some x=>rw [List.find?_append,h1];rw [h1] at h;exact h
theorem Jp {l:List eB} {s:ByteArray} {i:Nat} (h:bR l s=i) (hi:i < l.length):l[i].name=s:=(dH _ _).1 (gN (fun c:eB=>aS c.name s) l i hi h)
theorem zm {o:bF} {s n c:ByteArray} (h:bw o=true) (hz:(gu o s n (i7 c)).2=0):bw (gu o s n (i7 c)).1=true:=by
 have g:=(eI o).1 h
 refine sf h hz fun q hq hat pN=>?_
 have gq:=g.tab _ (List.getElem_mem hq);have hr:=bk (fun x:eB=>aS x.name c) o.tables[q].av;unfold i7 at pN ⊢;by_cases c1:bR o.tables[q].av c < 0
 ·rw [if_pos c1] at pN;cases pN
 ·by_cases c2:Jo o.tables[q] c=true
  ·rw [if_neg c1,if_pos c2] at pN;cases pN
  ·rw [if_neg c1,if_neg c2]
   obtain ⟨p,hp⟩:∃ p:Nat,bR o.tables[q].av c=p:=⟨(bR o.tables[q].av c).toNat,by omega⟩
   have hpl:p < o.tables[q].av.length:=by unfold bR at hp;omega
   have Tw:=Jp hp hpl;rw [hp];simp only [Int.toNat_natCast];unfold Jo at c2;simp only [Bool.or_eq_true,decide_eq_true_eq,List.any_eq_true,not_or,not_exists,not_and] at c2
   have hno:∀ r∈o.tables[q].rules,∀ a∈r.av,∀ k,dI o.tables[q].av a=some k→dI (o.tables[q].av.eraseIdx p) a=some k:=fun r hr2 a ha k hk=>by
    rw [xu hpl (fun e=>c2.2 r hr2 a ha ((dH _ _).2 (by rw [← e,Tw])))];exact hk
   have dt:=(lR _).1 gq.av;refine pM (t:={ o.tables[q] with av:=o.tables[q].av.eraseIdx p }) g hq rfl rfl rfl ?_ gq.nr gq.ln (fun r hr2=>vv (hno r hr2) (gq.fit r hr2)) (fun r hr2 h4=>nM hq rfl rfl (hno r hr2) (fun _ _ k hk _ _=>⟨hk,hno k hk⟩) (gq.key r hr2 h4)) (fun x hx r hr2 h4=>nM hq rfl rfl iJ (fun _ _ k hk _ _=>⟨hk,hno k hk⟩) ((g.tab x hx).key r hr2 h4));refine (lR _).2 ⟨⟨?_,?_⟩,fun x hx=>dt.2.1 x (List.mem_of_mem_eraseIdx hx),dt.2.2.sublist (List.eraseIdx_sublist _ _)⟩
   ·show 1≤(o.tables[q].av.eraseIdx p).length
    rw [List.length_eraseIdx_of_lt hpl];have:=c2.1;have:=dt.1.1;omega
   ·show (o.tables[q].av.eraseIdx p).length≤8
    rw [List.length_eraseIdx_of_lt hpl];have:=dt.1.2;omega
theorem Ci {o:bF} {s n:ByteArray} {c:eB} (h:bw o=true) (hz:(gu o s n (jw c)).2=0):bw (gu o s n (jw c)).1=true:=by
 have g:=(eI o).1 h
 refine sf h hz fun q hq hat pN=>?_
 have gq:=g.tab _ (List.getElem_mem hq);unfold jw at pN ⊢;by_cases c1:(!gJ c || !c.null)=true
 ·rw [if_pos c1] at pN;cases pN
 ·by_cases c2:0≤bR o.tables[q].av c.name
  ·rw [if_neg c1,if_pos c2] at pN;cases pN
  ·by_cases c3:8≤o.tables[q].av.length
   ·rw [if_neg c1,if_neg c2,if_pos c3] at pN;cases pN
   ·rw [if_neg c1,if_neg c2,if_neg c3]
    simp only [Bool.or_eq_true,Bool.not_eq_true',not_or,Bool.not_eq_false] at c1;have dt:=(lR _).1 gq.av
    have hm:∀ (cs:List ByteArray),∀ a∈cs,∀ k,dI o.tables[q].av a=some k→dI (o.tables[q].av++[c]) a=some k:=fun _ a _ k hk=>uH hk
    refine pM (t:={ o.tables[q] with av:=o.tables[q].av++[c] }) g hq rfl rfl rfl ?_ gq.nr gq.ln (fun r hr2=>vv (hm r.av) (gq.fit r hr2)) (fun r hr2 h4=>nM hq rfl rfl (hm r.av) (fun _ _ k hk _ _=>⟨hk,hm k.av⟩) (gq.key r hr2 h4)) (fun x hx r hr2 h4=>nM hq rfl rfl iJ (fun _ _ k hk _ _=>⟨hk,hm k.av⟩) ((g.tab x hx).key r hr2 h4));refine (lR _).2 ⟨⟨?_,?_⟩,fun x hx=>?_,?_⟩
    ·show 1≤(o.tables[q].av++[c]).length
     simp
    ·show (o.tables[q].av++[c]).length≤8
     simp;omega
    ·rcases List.mem_append.1 hx with e | e
     ·exact dt.2.1 x e
     ·rw [List.mem_singleton] at e;rw [e];exact c1.1
    ·refine List.pairwise_append.2 ⟨dt.2.2,by simp,fun a ha b hb e=>?_⟩
     rw [List.mem_singleton] at hb;subst hb;refine c2 ?_;have h9:=ie (fun x:eB=>aS x.name b.name) o.tables[q].av
     rcases Int.lt_or_le (bD (fun x:eB=>aS x.name b.name) o.tables[q].av) 0 with h0 | h0
     ·rw [if_pos h0] at h9
      exact absurd ((dH _ _).2 e) (List.find?_eq_none.1 h9 a ha)
     ·exact h0
end Go.Proofs.YtakddkhipelmjaaGreat
