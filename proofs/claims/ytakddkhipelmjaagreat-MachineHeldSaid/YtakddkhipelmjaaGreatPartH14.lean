import Derived.RangeFuncNested
import Derived.RangeFuncBound
import Derived.RangeFuncCalls
import Derived.RangeFuncLeaves
import Derived.Shelf.Abstract
import Derived.Shelf.RegionOpen
import Derived.OwnWalkIn
import Derived.TacticsInMore
import Derived.LoopNIn
import Derived.LoopIn
import Derived.Test.YtakddkhipelmjaaGreatPartH13
set_option maxRecDepth 100000
set_option linter.unusedVariables false
set_option maxHeartbeats 64000000
namespace Go.Proofs.YtakddkhipelmjaaGreat
open Go.Deep Go.RowKit
section
variable {w : World} {B B' g n c i : Nat} {hs : Hd} {L : Lay}
end
theorem xD {w:World} {b:Nat} {xs:List Value} (h:ai w b xs) (hl:xs.length=2) (v0 v1:Value):ai ((w.setCell ⟨b,0,none⟩ v0).setCell ⟨b,1,none⟩ v1) b [v0,v1]:=by
 match xs,hl with
 | [a,b],_=>exact (h.set 0 _ (by simp)).set 1 _ (by simp)
theorem C9 (w:World) (b:Nat) (v0 v1:Value):Kb (fun g=>g=b) w ((w.setCell ⟨b,0,none⟩ v0).setCell ⟨b,1,none⟩ v1):=(Kb.set _ _ _ _).trans (Kb.set _ _ _ _)
theorem ru {w W w1:World} {r:bE × Int} {b:Nat} {hs ht:Hd} {L:List bA} {v0 v1:Value} {e:Ending} (a:ag w w1) (hL:L.map bA.t=r.1.tables) (ob:dw w1 W.heap.size hs ht r.1.ae L) (hb:w.heap.size≤b) (Z2:b < W.heap.size)
  (he:e=.returned (.tuple #[.agg #[.slice hs.a r.1.ae.length hs.c,.slice ht.a r.1.tables.length ht.c],.int .i64 r.2])):qa w r e ((w1.setCell ⟨b,0,none⟩ v0).setCell ⟨b,1,none⟩ v1):=by
 refine ⟨hs,ht,L,hL,he,(C9 w1 b v0 v1).aJ a (fun g hg e=>by omega),?_⟩;refine dw.down (ob.kb (C9 w1 b v0 v1) fun g hg e=>?_) (by omega);have:=(ob.lt g hg).1;omega
theorem cQ:oH cX:=⟨⟨by simp [cX,Small],fun s hs=>by simp [cX] at hs⟩,by simp [cX,Small],fun t ht=>by simp [cX] at ht⟩
theorem Ky {o:bE} {q:Nat} {t:bW} (h:oH o) (ht:tA t):oH ⟨o.ae,o.tables.set q t⟩:=by
 refine ⟨h.1,by rw [List.length_set];exact h.2.1,fun x hx=>?_⟩;by_cases hq:q < o.tables.length
 ·rcases tB hq hx with rfl | ⟨i,hi,_,rfl⟩
  ·exact ht
  ·exact h.2.2 _ (List.getElem_mem hi)
 ·have VS:x∈o.tables.set q t:=hx
  rw [List.set_eq_of_length_le (by omega)] at VS;exact h.2.2 x VS
theorem kB {o:bE} {r:bE × Int} (h:oH r.1):oH (iU o r).1:=by
 unfold iU;split
 ·exact h
 ·exact cQ
def Tr (v:ByteArray) (t:bW):bW × Int:=({ t with owner:=v },0)
def jy (o:bE) (s n v:ByteArray):bE × Int:=if bD o then (if bG v then fD o s n (Tr v) else (cX,1)) else (cX,63)
end Go.Proofs.YtakddkhipelmjaaGreat
namespace Go.Proofs.YtakddkhipelmjaaGreat
open Go.RowKit Go.Deep Go.Sort
theorem dw.GM {P:Nat→Prop} {w w':World} {B:Nat} {hs ht h':Hd} {ss Xq:List fK} {L:List bA} (ob:dw w B hs ht ss L) (k:Kb P w w') (hP:∀ g,g∈ht.blk++L.flatMap bA.gu→¬ P g) (ho:w'.ownsRow B 109 2 h'.v Xq.length (Xq.flatMap iO)) (hb:∀ g∈h'.blk,g∈hs.blk∨w.heap.size≤g):dw w' B h' ht Xq L:=by
 refine ⟨ho,br ob.tab k fun g hg=>hP g (List.mem_append.2 (.inl (Hd.bj.2 hg))),fun x hx=>(ob.each x hx).kb k fun g hg=>hP g (List.mem_append.2 (.inr (List.mem_flatMap.2 ⟨x,hx,hg⟩))),?_⟩;refine List.nodup_append.2 ⟨eV _,(List.nodup_append.1 ob.nd).2.1,fun a ha b hb2 e=>?_⟩;subst e
 rcases hb a ha with h1 | h1
 ·exact eP ob.nd h1 hb2
 ·have:=(ob.lt a (List.mem_append.2 (.inr hb2))).2
  omega
def dg (name owner:ByteArray) (o:bE):bE × Int :=
 if (!bG name || !bG owner) then (cX,1) else if 0≤bY o.ae name then (cX,60) else if 8≤o.ae.length then (cX,2) else (⟨cP o.ae (dP ja o.ae ⟨name,owner⟩) ⟨name,owner⟩,o.tables⟩,0)
def cC (name:ByteArray) (o:bE):bE × Int :=
 if bY o.ae name < 0 then (cX,61) else if 0 < within o.tables name then (cX,62) else (⟨o.ae.eraseIdx (bY o.ae name).toNat,o.tables⟩,0)
theorem Kz (x y:fK) (W:World):Calls Tryz.prog 279 (#[.agg (iO x).toArray,.agg (iO y).toArray]++#[]) W fun e w'=>e=.returned (.int .i64 (ja x y))∧∃ q os',w'=grow (W.drewN q) os':=by
 show Calls Tryz.prog 279 #[.agg #[.string x.name,.string x.owner],.agg #[.string y.name,.string y.owner]] W _
 have hcon:=fun W'=>iu x.name y.name W'
 unfold ja;generalize bv x.name y.name=r at hcon ⊢
 have l1:W.heap.size < W.heap.size+1:=by omega
 have l2:W.heap.size < W.heap.size+1+1:=by omega
 go_in
 go_wp2_with (go_at_call 182;refine (hcon _).mono ?_;rintro e w' ⟨rfl,rfl⟩)
 go_ret;exact ⟨rfl,0,_,by rw [alloc_eq_grow,alloc_eq_grow,grow_grow];rfl⟩
theorem El (x:fK):(iO x).length=2:=rfl
theorem GN (blk cap B:Nat) (l:List fK) (h0:0 < l.length) (hsz:l.length≤1000000) (w:World) (ho:w.ownsRow B 109 2 (.slice (some ⟨blk,0,none⟩) l.length cap) l.length (l.flatMap iO)) :
  Calls Tryz.prog 278 #[.slice (some ⟨blk,0,none⟩) l.length cap,.func (.func 279) #[] #[]] w (nP 109 2 iO ja w B blk cap l) :=
 xq vv 2 Tryz.isAgg109 Tryz.sizeOf109 iO El xE ja tS.swo 279 #[] 109 B blk cap l h0 hsz w ho (enters (P:=Tryz.prog) Tryz.func279 (by kernel_rfl) rfl) (fun W x y=>Kz x y W)
theorem oU {α:Type} (p:α→Bool) (l:List α):decide (0≤bu p l)=l.any p:=by
 induction l with
 | nil=>rfl
 | cons x l ih =>
  rw [List.any_cons,← ih]
  show decide (0≤(if p x then (0:Int) else if bu p l < 0 then -1 else bu p l+1))=_
  cases h:p x
  ·simp only [Bool.false_eq_true,if_false,Bool.false_or]
   by_cases h1:bu p l < 0
   ·rw [if_pos h1,decide_eq_false (by omega),decide_eq_false (by omega)]
   ·rw [if_neg h1,decide_eq_true (by omega),decide_eq_true (by omega)]
  ·simp
theorem GP {o:bE} {name:ByteArray} (h:bY o.ae name < 0):∀ y∈o.ae,bv y.name name≠0:=fun y hy e=>by
 obtain ⟨k,hk,rfl⟩:=List.getElem_of_mem hy;have h1:=aT (fun c:fK=>aS c.name name) o.ae
 have h2:bY o.ae name = -1:=by unfold bY at *;omega
 have h3:o.ae.any (fun c=>aS c.name name)=true:=List.any_eq_true.2 ⟨_,hy,(fw _ _).1 e⟩;rw [← oU] at h3;have:=of_decide_eq_true h3;unfold bY at h2;omega
theorem nT {o:bE} (h:bD o=true):aM fO o.tables=true∧aM ja o.ae=true∧o.ae.length≤8∧o.tables.length≤64:=by
 unfold bD mY at h;simp only [Bool.and_eq_true,decide_eq_true_eq] at h;exact ⟨h.1.1.2,h.1.2,h.1.1.1.1,h.1.1.1.2⟩
theorem zY (name owner:ByteArray) (o:bE) (w:World) (hs ht:Hd) (L:List bA) (B n3 bn bo:Nat) (jL:bD o=true) (hbn:B≤n3) (hL:L.map bA.t=o.tables) (ob:dw w B hs ht o.ae L) (hne:∀ g∈hs.blk++(ht.blk++L.flatMap bA.gu),g≠n3)
  (r3:ai w n3 [.slice hs.a o.ae.length hs.c,.slice ht.a o.tables.length ht.c]) (hc1:w.cell? ⟨bn,0,none⟩=some (.string name)) (hc2:w.cell? ⟨bo,0,none⟩=some (.string owner)) (hb1:bn < B) (hb2:bo < B) (sm:oH o) (hs1:Small name.size) (hs2:Small owner.size) :
  Calls Tryz.prog 277 (#[.pointer (some ⟨n3,0,none⟩)]++#[.pointer (some ⟨bn,0,none⟩),.pointer (some ⟨bo,0,none⟩)]) w (KC w B n3 (dg name owner o)):=by
 show Calls Tryz.prog 277 #[.pointer (some ⟨n3,0,none⟩),.pointer (some ⟨bn,0,none⟩),.pointer (some ⟨bo,0,none⟩)] w (KC w B n3 (dg name owner o))
 have Q8:nR o.ae L=o:=by unfold nR;rw [hL]
 have eJ:az w 2 eE hs.a hs.c o.ae:=ob.OU (by rw [Q8];exact sm);have hlen:=eJ.len;have z1:bn < w.heap.size:=World.block_lt_of_cell? _ _ hc1;have z2:bo < w.heap.size:=World.block_lt_of_cell? _ _ hc2;have x0:=r3.cell (j:=0) rfl;have x1:=r3.cell (j:=1) rfl;have xz:=r3.1;have xf:=r3.2.2 0 (by simp);have oG:=nT jL;obtain ⟨u1,Xr⟩:∃ u,bG name=u:=⟨_,rfl⟩;obtain ⟨u2,Nl⟩:∃ u,bG owner=u:=⟨_,rfl⟩;obtain ⟨i,hi⟩:∃ i,bY o.ae name=i:=⟨_,rfl⟩
 have Ke : -1≤i∧i < o.ae.length:=by rw [← hi];exact aT _ _
 have C1:=gH (show ∀ w',Calls Tryz.prog 107 #[.string name] w' fun e w''=>e=.returned (.bool u1)∧w'=w'' from fun w'=>Xr▸bZ name w' hs1.max);have C2:=gH (show ∀ w',Calls Tryz.prog 107 #[.string owner] w' fun e w''=>e=.returned (.bool u2)∧w'=w'' from fun w'=>Nl▸bZ owner w' hs2.max)
 have CB:=gH (show ∀ x:iM w,Calls Tryz.prog 247 #[.slice hs.a o.ae.length hs.c,.string name,.func (.func 248) #[] #[]] (bV w x) fun e w''=>e=.returned (.int .i64 i)∧ag (bV w x) w'' from
  fun x=>(GQ hs.a hs.c o.ae name _ (bQ ((ag.refl w).bV x) eJ)).mono fun e w'' ⟨he,hw⟩=>⟨he.trans (by rw [← hi];rfl),hw⟩)
 have HE:=gH (show dg name owner o=if (!u1 || !u2) then (cX,1) else if 0≤i then (cX,60) else if 8≤o.ae.length then (cX,2) else (⟨cP o.ae (dP ja o.ae ⟨name,owner⟩) ⟨name,owner⟩,o.tables⟩,0) by unfold dg;rw [Xr,Nl,hi]);have HI:=gH (show i < 0→∀ y∈o.ae,ja y ⟨name,owner⟩≠0 from fun h=>GP (hi▸h));have Ts:=gH ob;have Kf:=gH r3;have Tt:=gH hne;have HL:=gH hL;have GR:=gH (show hs.v=.slice hs.a o.ae.length hs.c from dm ob.fS);have HRS:=gH oG;have O4:=gH (show ∀ w',ag w w'→∀ c:Int,c≠0→KC w B n3 (cX,c) (.returned (.int .i64 c)) w' from fun w' a c hc=>⟨rfl,Kb.aO a,fun h=>absurd h hc⟩);clear ob r3 hne hL Q8 jL Xr Nl hi eJ oG sm
 go_in
 go_wp2_with fail;refine (C1.out _).mono ?_;rintro e w1 ⟨rfl,rfl⟩
 cases u1
 ·go_wp2
  go_ret;rw [HE.out];exact O4.out _ (ag.refl _) 1 (by decide)
 go_wp2_with fail;refine (C2.out _).mono ?_;rintro e w1 ⟨rfl,rfl⟩
 cases u2
 ·go_wp2
  go_ret;rw [HE.out];exact O4.out _ (ag.refl _) 1 (by decide)
 by_cases h0:0≤i
 ·have hd:decide (0≤i)=true:=by simpa using h0
  go_wp2_with fail;refine ay (by kernel_rfl) (by kernel_rfl) ?_
  repeat (go_big_quiet_step ((go_at_call 247;exact Calls.bk (CB.out _))))
  refine wpQuiet_nil ?_;intro _ hw';obtain ⟨x,hw''⟩:=hw';subst hw'';go_wp2;go_ret;rw [HE.out];simp only [Bool.not_true,Bool.or_self,Bool.false_eq_true,if_false,if_pos h0];exact O4.out _ ((ag.refl _).bV x) 60 (by decide)
 have hd:decide (0≤i)=false:=by simpa using h0
 have VT:=gH h0;clear h0;go_wp2_with fail;refine ay (by kernel_rfl) (by kernel_rfl) ?_
 repeat (go_big_quiet_step ((go_at_call 247;exact Calls.bk (CB.out _))))
 refine wpQuiet_nil ?_;intro _ hw';obtain ⟨x,hw''⟩:=hw';subst hw'';obtain ⟨W,hW⟩:∃ W,W=bV w x:=⟨_,rfl⟩
 have aW:ag w W:=by rw [hW];exact (ag.refl w).bV x
 rw [← hW];have x0:=aW.cell_kept x0;have hc1:=aW.cell_kept hc1;have hc2:=aW.cell_kept hc2;have xz:=Nat.lt_of_lt_of_le xz aW.size;have z1:=Nat.lt_of_lt_of_le z1 aW.size;have z2:=Nat.lt_of_lt_of_le z2 aW.size;have cu:=gH aW;clear hW aW CB C1 C2;by_cases h8:8≤o.ae.length
 ·have hd8:(8:Int)≤(o.ae.length:Int):=by omega
  have Xs:=gH h8;clear h8;go_wp2;go_ret;rw [HE.out];simp only [Bool.not_true,Bool.or_self,Bool.false_eq_true,if_false,if_neg (show ¬ 0≤i by have:=VT.out;omega),if_pos Xs.out];exact O4.out _ cu.out 2 (by decide)
 have hd8:¬ (8:Int)≤(o.ae.length:Int):=by omega
 have Xs:=gH h8;have Xt:=Ts.out.aA cu.out;have HOW:=gH (show W.ownsRow B 109 2 (.slice hs.a o.ae.length hs.c) o.ae.length (o.ae.flatMap iO) by rw [← GR.out];exact Xt.fS)
 have n1:¬ jZ (.slice hs.a o.ae.length hs.c) n3:=fun h=>Tt.out n3 (List.mem_append.2 (.inl (Hd.bj.2 (by rw [GR.out];exact h)))) rfl
 have n2:¬ jZ (.slice hs.a o.ae.length hs.c) bn:=fun h=>by have:=(HOW.out.lt bn h).1;omega
 have n4:¬ jZ (.slice hs.a o.ae.length hs.c) bo:=fun h=>by have:=(HOW.out.lt bo h).1;omega
 have xf:W.frozen? ⟨n3,0,none⟩=false:=(Kf.out.aA cu.out).2.2 0 (by simp);obtain ⟨i0,mL,hz0,hz1,hz2⟩:=info_parts Eo;have HI0:=gH mL;have jG:=gH hz0;have jt:=gH hz1;have jX:=gH hz2;have KE:=gH Xt;clear mL hz0 hz1 hz2 Xt h8;go_wp2_with fail;refine kM 7 10 (fun w'=>∃ x:rv (.slice hs.a o.ae.length hs.c) W,w'=qc (.slice hs.a o.ae.length hs.c) W x) (by kernel_rfl) (by kernel_rfl) (KL.aA (ag.refl W).drew) ?_;simp only [List.take_succ_cons,List.take_zero,List.drop_succ_cons,List.drop_zero]
 repeat (go_big_quiet_step (fail))
 refine wpQuiet_nil ?_;refine gI (fun K hK=>?_);go_simp;refine hK _ _ (fun _=>KL.aA ((ag.refl W).drew)) ?_;clear hK K;refine gI (fun K hK=>?_);go_simp;refine hK _ _ (fun _=>KL.aA (((ag.refl W).alloc _).drew)) ?_;clear hK K;refine gI (fun K hK=>?_);refine wp_append_lies _ (.tmp 33) (.tmp 37) 22 rfl B 109 i0 _ 2 32 Tryz.underlying22 HI0.out jG.out jt.out jX.out rfl (by decide) (.slice hs.a o.ae.length hs.c) o.ae.length (o.ae.flatMap iO) (by rfl) ((HOW.out.alloc _).drew) ⟨W.heap.size,0,none⟩ 1 1 [.string name,.string owner] (by rfl) rfl (World.news_of_block (cs:=#[.string name,.string owner]) (t:=109) (fr:=(0,0)) (heap_alloc_new W _)) (by simp [Value.oneCell']) (by omega) (by unfold maxLen;omega) (by omega) (by simp;omega) (W.heap.size+1) (by simp) ?_;intro gg cap' w5 jz hgrow hat Ep;refine hK _ _ (fun _=>KL.of ((Kb.aO (((ag.refl W).alloc _).drew)).trans (ub hgrow))) ?_;clear hK K;refine kD _ (by simp) (by decide) ?_;have JQ:Kb (jZ (.slice hs.a o.ae.length hs.c)) W w5:=(Kb.aO (((ag.refl W).alloc _).drew)).trans (ub hgrow);have d5:=JQ.cell x0 n1;have KG:=JQ.row (Kf.out.aA cu.out) n1;have f5:w5.frozen? ⟨n3,0,none⟩=false:=KG.2.2 0 (by simp);have z5:=KG.1
 have VU:gg≠n3:=fun e=>by
  rcases hat with h1 | h1
  ·exact n1 (by rw [← e];exact h1)
  ·omega
 have qd:(w5.setCell ⟨n3,0,none⟩ (.slice (some ⟨gg,0,none⟩) (o.ae.length+1) cap')).ownsRow B 109 2 (.slice (some ⟨gg,0,none⟩) (o.ae++[(⟨name,owner⟩:fK)]).length cap') (o.ae++[(⟨name,owner⟩:fK)]).length ((o.ae++[(⟨name,owner⟩:fK)]).flatMap iO):=by
  rw [List.length_append,List.flatMap_append]
  exact br jz (Kb.set w5 n3 0 _) (fun g hg e=>by
   have e:g=n3:=e
   have:g=gg:=by simpa [Value.ownBlock,eq_comm] using hg
   exact VU (by rw [← this];exact e))
 have CS:=gH (GN gg cap' B (o.ae++[(⟨name,owner⟩:fK)]) (by simp) (by simp;omega) _ qd);have GS:=KG.set 0 (.slice (some ⟨gg,0,none⟩) (o.ae.length+1) cap') (by simp)
 have HP:=gH (show ∀ w7 e,nP 109 2 iO ja (w5.setCell ⟨n3,0,none⟩ (.slice (some ⟨gg,0,none⟩) (o.ae.length+1) cap')) B gg cap' (o.ae++[(⟨name,owner⟩:fK)]) e w7→e=.returned (.tuple #[])∧KC w B n3 (dg name owner o) (.returned (.int .i64 0)) w7 from fun w7 e VV=>by
  obtain ⟨he,l',hp,Xu,ho7,k7⟩:=VV
  have hlt:i < 0:=by have:=VT.out;omega
  have hl':l'=cP o.ae (dP ja o.ae ⟨name,owner⟩) ⟨name,owner⟩:=GU tS.tr tS.dN HRS.out.2.1 (HI.out hlt) hp Xu
  have pU:l'.length=o.ae.length+1:=by rw [hl',eI _ _ _ (fT _ _ _)]
  refine ⟨he,?_⟩;rw [HE.out];simp only [Bool.not_true,Bool.or_self,Bool.false_eq_true,if_false,if_neg (show ¬ 0≤i by omega),if_neg Xs.out];rw [← hl'];have Tu:Kb (fun g=>jZ (.slice hs.a o.ae.length hs.c) g∨g=n3∨g=gg) W w7:=((JQ.mono fun g _ h=>.inl h).trans ((Kb.set w5 n3 0 _).mono fun g _ e=>.inr (.inl e))).trans (k7.mono fun g _ e=>.inr (.inr e))
  have Z3:∀ g,jZ (.slice hs.a o.ae.length hs.c) g→B≤g:=fun g hg=>(HOW.out.lt g hg).1
  have VW:B≤W.heap.size:=by omega
  refine ⟨rfl,(Kb.aO cu.out).trans (Tu.mono fun g _ h=>?_),fun _=>⟨⟨some ⟨gg,0,none⟩,o.ae.length+1,cap'⟩,ht,L,HL.out,?_,?_⟩⟩
  ·rcases h with h | h | h
   ·exact Z3 g h
   ·omega
   ·rcases hat with h1 | h1
    ·exact Z3 g (by rw [h];exact h1)
    ·omega
  ·refine KE.out.GM Tu (fun g hg h=>?_) ?_ (fun g hg=>?_)
   ·have hlt:=KE.out.lt g (List.mem_append.2 (.inr hg))
    rcases h with h | h | h
    ·exact eP KE.out.nd (Hd.bj.2 (by rw [GR.out];exact h)) hg
    ·exact Tt.out g (List.mem_append.2 (.inr hg)) h
    ·rcases hat with h1 | h1
     ·exact eP KE.out.nd (Hd.bj.2 (by rw [GR.out,h];exact h1)) hg
     ·omega
   ·have:=ho7
    rw [List.length_append] at this;rw [pU];exact this
   ·rw [fP,List.mem_singleton] at hg
    have hg:g=gg:=hg;rw [hg]
    rcases hat with h1 | h1
    ·exact .inl (Hd.bj.2 (by rw [GR.out];exact h1))
    ·exact .inr (by omega)
  ·rw [pU]
   exact k7.row GS (fun e=>VU e.symm))
 have Z4:=gH GS;have c6:=GS.cell (j:=0) rfl;have z6:=GS.1
 have Z5:=gH (show Calls Tryz.prog 278 #[.slice (some ⟨gg,0,none⟩) (o.ae.length+1) cap',.func (.func 279) #[] #[]] (w5.setCell ⟨n3,0,none⟩ (.slice (some ⟨gg,0,none⟩) (o.ae.length+1) cap')) (nP 109 2 iO ja (w5.setCell ⟨n3,0,none⟩ (.slice (some ⟨gg,0,none⟩) (o.ae.length+1) cap')) B gg cap' (o.ae++[(⟨name,owner⟩:fK)])) from by
  have h:=CS.out;rw [List.length_append,List.length_singleton] at h
  exact h)
 clear jz hgrow hat Ep JQ KG qd GS CS;go_wp2_with fail;refine NoPanic.normal ?_;go_wp2_with fail;refine Z5.out.mono ?_;intro e w7 VV;obtain ⟨rfl,Z6⟩:=HP.out w7 e VV;have HP7:=gH Z6;clear VV Z6 Z5 HP;go_wp2;go_ret;exact HP7.out
def iV (ts:List bW) (r:fh) (t:bW):bW × Int :=
 if !dK t.au r then (t,63) else if 0≤fz t.rules r.name then (t,60) else if 8≤t.rules.length then (t,2) else if (r.kind==4&&mn ts t.au r != 0) then (t,mn ts t.au r)
 else ({ t with rules:=cP t.rules (dP py t.rules r) r },0)
theorem GV {l:List fh} {s:ByteArray} (h:fz l s < 0):∀ y∈l,bv y.name s≠0:=fun y hy e=>by
 have h1:=aT (fun c:fh=>aS c.name s) l
 have h2:fz l s = -1:=by unfold fz at *;omega
 have h3:l.any (fun c=>aS c.name s)=true:=List.any_eq_true.2 ⟨y,hy,(fw _ _).1 e⟩;rw [← oU] at h3;have:=of_decide_eq_true h3;unfold fz at h2;omega
def qx (t:bW) (name:ByteArray):Int:=match t.rules[(fz t.rules name).toNat]? with | some q=>q.kind | none=>0
def O5 (kd:Int) (name:ByteArray) (r:fh):Bool:=aS r.key name&&kd==2
end Go.Proofs.YtakddkhipelmjaaGreat
namespace Go.Proofs.YtakddkhipelmjaaGreat
open Go.RowKit Go.Deep Go.Shelf
@[go_sem] theorem Nv (l:Nat) (ρ:Operand→Value) (o:Oper) (h:∀ c,o.op≠.defer c):Oper.semAt (some l) ρ o=execOp ρ o:=Oper.semAt_some l ρ o h
def vH (s n:ByteArray) (r:fh):Bool:=r.kind==4&&(aS r.af s&&aS r.table n)
def Tv (s n:ByteArray) (t:bW):List (bW × fh):=(t.rules.filter (vH s n)).map fun r=>(t,r)
def GW (s n:ByteArray) (ts:List bW):List (bW × fh):=ts.flatMap (Tv s n)
end Go.Proofs.YtakddkhipelmjaaGreat
namespace Go.Proofs.YtakddkhipelmjaaGreat
open Go.RowKit Go.Deep Go.Sort
theorem GX {w:World} {B size n:Nat} {e:TypeId} {v:Value} {xs:List Value} (h:w.ownsRow B e size v n xs):∀ A n c,v=.slice A n c→c≤9223372036854775807:=by
 intro A n c hv
 rcases h.2 with ⟨rfl,_⟩ | ⟨g,cap,cur,rfl,_,_,_,hcm,_⟩
 ·simp only [Value.slice.injEq] at hv;omega
 ·simp only [Value.slice.injEq] at hv
  have:cap≤maxLen:=hcm;unfold maxLen at this;omega
theorem vI {name owner:ByteArray} {o:bE}:(dg name owner o).2≠0→(dg name owner o).1=cX:=by
 unfold dg
 split
 ·exact fun _=>rfl
 ·split
  ·exact fun _=>rfl
  ·split
   ·exact fun _=>rfl
   ·exact fun h=>absurd rfl h
theorem tC {name:ByteArray} {o:bE}:(cC name o).2≠0→(cC name o).1=cX:=by
 unfold cC
 split
 ·exact fun _=>rfl
 ·split
  ·exact fun _=>rfl
  ·exact fun h=>absurd rfl h
theorem xF (name:ByteArray) (o:bE) (w:World) (hs ht:Hd) (L:List bA) (B n3 bn:Nat) (hbn:B≤n3) (hL:L.map bA.t=o.tables) (ob:dw w B hs ht o.ae L) (hne:∀ g∈hs.blk++(ht.blk++L.flatMap bA.gu),g≠n3)
  (r3:ai w n3 [.slice hs.a o.ae.length hs.c,.slice ht.a o.tables.length ht.c]) (hc1:w.cell? ⟨bn,0,none⟩=some (.string name)) (sm:oH o) :
  Calls Tryz.prog 280 (#[.pointer (some ⟨n3,0,none⟩)]++#[.pointer (some ⟨bn,0,none⟩)]) w (KC w B n3 (cC name o)):=by
 show Calls Tryz.prog 280 #[.pointer (some ⟨n3,0,none⟩),.pointer (some ⟨bn,0,none⟩)] w (KC w B n3 (cC name o))
 have Q8:nR o.ae L=o:=by unfold nR;rw [hL]
 have eJ:az w 2 eE hs.a hs.c o.ae:=ob.OU (by rw [Q8];exact sm)
 have dH:az w 5 dE ht.a ht.c o.tables:=by have:=ob.tabs (by rw [Q8];exact sm);rw [hL] at this;exact this
 have hlen:=eJ.len;have z1:bn < w.heap.size:=World.block_lt_of_cell? _ _ hc1;have x0:=r3.cell (j:=0) rfl;have x1:=r3.cell (j:=1) rfl;have xz:=r3.1;obtain ⟨i,hi⟩:∃ i,bY o.ae name=i:=⟨_,rfl⟩;obtain ⟨m,hm⟩:∃ m,within o.tables name=m:=⟨_,rfl⟩
 have Ke : -1≤i∧i < o.ae.length:=by rw [← hi];exact aT _ _
 have CB:=gH (show ∀ x:iM w,Calls Tryz.prog 247 #[.slice hs.a o.ae.length hs.c,.string name,.func (.func 248) #[] #[]] (bV w x) fun e w''=>e=.returned (.int .i64 i)∧ag (bV w x) w'' from
  fun x=>(GQ hs.a hs.c o.ae name _ (bQ ((ag.refl w).bV x) eJ)).mono fun e w'' ⟨he,hw⟩=>⟨he.trans (by rw [← hi];rfl),hw⟩)
 have CW:=gH (show ∀ W,ag w W→∀ x:iM W,Calls Tryz.prog 183 #[.agg #[.slice hs.a o.ae.length hs.c,.slice ht.a o.tables.length ht.c],.string name] (bV W x) fun e w''=>e=.returned (.int .i64 m)∧ag (bV W x) w'' from
  fun W a x=>(ry _ ht.a ht.c o.tables name _ (bC (a.bV x) dH)).mono fun e w'' ⟨he,hw⟩=>⟨he.trans (by rw [← hm]),hw⟩)
 have HE:=gH (show cC name o=if i < 0 then (cX,61) else if 0 < m then (cX,62) else (⟨o.ae.eraseIdx i.toNat,o.tables⟩,0) by unfold cC;rw [hi,hm]);have Ts:=gH ob;have Kf:=gH r3;have Tt:=gH hne;have HL:=gH hL;have GR:=gH (show hs.v=.slice hs.a o.ae.length hs.c from dm ob.fS);have O4:=gH (show ∀ w',ag w w'→∀ c:Int,c≠0→KC w B n3 (cX,c) (.returned (.int .i64 c)) w' from fun w' a c hc=>⟨rfl,Kb.aO a,fun h=>absurd h hc⟩);clear ob r3 hne hL Q8 hi eJ dH hm sm
 go_in
 go_wp2_with fail;refine ay (by kernel_rfl) (by kernel_rfl) ?_
 repeat (go_big_quiet_step ((go_at_call 247;exact Calls.bk (CB.out _))))
 refine wpQuiet_nil ?_;intro _ hw';obtain ⟨x,hw''⟩:=hw';subst hw'';obtain ⟨W,hW⟩:∃ W,W=bV w x:=⟨_,rfl⟩
 have aW:ag w W:=by rw [hW];exact (ag.refl w).bV x
 rw [← hW];have x0:=aW.cell_kept x0;have x1:=aW.cell_kept x1;have hc1:=aW.cell_kept hc1;have xz:=Nat.lt_of_lt_of_le xz aW.size;have z1:=Nat.lt_of_lt_of_le z1 aW.size;have cu:=gH aW;have Xv:=gH (CW.out W aW);clear hW aW CB CW;by_cases h0:i < 0
 ·go_wp2
  go_ret;rw [HE.out];simp only [if_pos h0];exact O4.out _ cu.out 61 (by decide)
 have VT:=gH h0;by_cases Q9:0 < m
 ·have hd:(0:Int) < (m:Int):=by omega
  have HM:=gH Q9;go_wp2_with fail;refine ay (by kernel_rfl) (by kernel_rfl) ?_
  repeat (go_big_quiet_step ((go_at_call 183;exact Calls.bk (Xv.out _))))
  refine wpQuiet_nil ?_;intro _ hw';obtain ⟨x,hw''⟩:=hw';subst hw'';go_wp2;go_ret;rw [HE.out];simp only [if_neg (show ¬ i < 0 by have:=VT.out;omega),if_pos (show 0 < m by have:=HM.out;omega)];exact O4.out _ (cu.out.bV x) 62 (by decide)
 have hd:¬ (0:Int) < (m:Int):=by omega
 have HM:=gH Q9;clear Q9;go_wp2_with fail;refine ay (by kernel_rfl) (by kernel_rfl) ?_
 repeat (go_big_quiet_step ((go_at_call 183;exact Calls.bk (Xv.out _))))
 refine wpQuiet_nil ?_;intro _ hw';obtain ⟨x,hw''⟩:=hw';subst hw'';obtain ⟨V,hV⟩:∃ V,V=bV W x:=⟨_,rfl⟩
 have aV:ag W V:=by rw [hV];exact (ag.refl W).bV x
 rw [← hV];have x0:=aV.cell_kept x0;have x1:=aV.cell_kept x1;have xz:=Nat.lt_of_lt_of_le xz aV.size;have Er:=gH (cu.out.trans aV);clear hV aV Xv;obtain ⟨p,hp⟩:∃ p:Nat,i=p:=⟨i.toNat,by omega⟩;subst hp
 have hpl:p < o.ae.length:=by omega
 have r2:=Ts.out.aA Er.out;obtain ⟨g,cap,hv,O6,pV,hrow⟩:=bU r2.fS (by omega);obtain ⟨k,hk⟩:∃ k,o.ae.length=p+1+k:=⟨o.ae.length - p - 1,by omega⟩
 have o2:V.ownsRow B 109 2 (.slice (some ⟨g,0,none⟩) (p+1+k) cap) (p+1+k) (o.ae.flatMap iO):=by
  have:=r2.fS;rw [hv,hk] at this;exact this
 have Tw:cap≤9223372036854775807:=GX r2.fS _ _ _ hv;have CD:=gH (O7 g cap p k B (o.ae.flatMap iO) V o2 (z8 xE _) Tw)
 have Xw:Value.slice hs.a o.ae.length hs.c=.slice (some ⟨g,0,none⟩) (p+1+k) cap:=by rw [← GR.out,hv,hk]
 have Tx:=Kf.out.aA Er.out;have KH:g∈hs.blk:=Hd.bj.2 (by rw [hv];rfl);have hgb:g≠n3:=Tt.out g (List.mem_append.2 (.inl KH));rw [Xw] at x0
 have K2:=gH (show ∀ w3,Kb (fun j=>j=g) V w3→w3.ownsRow B 109 2 (.slice (some ⟨g,0,none⟩) (p+k) cap) (p+k) ((o.ae.flatMap iO).take (p*2)++(o.ae.flatMap iO).drop ((p+1)*2))→(w3.cell? ⟨n3,0,none⟩=some (.slice (some ⟨g,0,none⟩) (p+1+k) cap)∧w3.frozen? ⟨n3,0,none⟩=false∧n3 < w3.heap.size∧Hid (KC w B n3 (cC name o) (.returned (.int .i64 0)) (w3.setCell ⟨n3,0,none⟩ (.slice (some ⟨g,0,none⟩) (p+k) cap)))) from fun w3 kb o3=>by
  have GY:=kb.row Tx (fun e=>hgb e.symm);rw [Xw] at GY
  have e1:(o.ae.eraseIdx p).length=p+k:=by rw [List.length_eraseIdx_of_lt (by omega)];omega
  have n3':w3.ownsRow B 109 2 (Hd.mk (some ⟨g,0,none⟩) (p+k) cap).v (o.ae.eraseIdx p).length ((o.ae.eraseIdx p).flatMap iO):=by
   rw [e1,← tD (size:=2) (fun _=>rfl)];exact o3
  have ks:=Kb.set w3 n3 0 (.slice (some ⟨g,0,none⟩) (p+k) cap);refine ⟨GY.cell (j:=0) rfl,GY.2.2 0 (by simp),GY.1,gH ?_⟩;rw [HE.out];simp only [if_neg (show ¬ (p:Int) < 0 by omega),if_neg (show ¬ 0 < m by have:=HM.out;omega),Int.toNat_natCast]
  have obn:=r2.GM kb (h':=⟨some ⟨g,0,none⟩,p+k,cap⟩) (fun j hj e=>by
   have e:j=g:=e
   exact eP r2.nd KH (by rw [← e];exact hj)) n3' (fun j hj=>by
   rw [fP,List.mem_singleton] at hj;have hj:j=g:=hj
   exact .inl (by rw [hj];exact KH))
  refine ⟨rfl,((Kb.aO Er.out).trans (kb.mono fun j _ e=>by have e:j=g:=e;omega)).trans (ks.mono fun j _ e=>by have e:j=n3:=e;omega),fun _=>⟨⟨some ⟨g,0,none⟩,p+k,cap⟩,ht,L,HL.out,obn.kb ks (fun j hj e=>?_),?_⟩⟩
  ·have e:j=n3:=e
   rcases List.mem_append.1 hj with h1 | h1
   ·rw [fP,List.mem_singleton] at h1
    have h1:j=g:=h1;exact hgb (by rw [← h1,e])
   ·exact Tt.out j (List.mem_append.2 (.inr h1)) e
  ·have h6:=GY.set 0 (.slice (some ⟨g,0,none⟩) (p+k) cap) (by simp)
   rw [e1]
   exact h6)
 clear r2 hv hrow o2 Xw Tx hk hgb KH h0 pV O6;go_wp2_with fail;refine CD.out.mono ?_;rintro e w3 ⟨rfl,o3,kb⟩;obtain ⟨y0,yf,yz,HP⟩:=K2.out w3 kb o3;clear o3 kb;go_wp2;go_ret;exact HP.out
theorem vJ (o:bE) (As:Option Addr) (ax:Nat) (At:Option Addr) (aD:Nat) (name owner:ByteArray) (w:World) (eJ:az w 2 eE As ax o.ae) (dH:az w 5 dE At aD o.tables) (hs1:Small name.size) (hs2:Small owner.size) :
  Calls Tryz.prog 202 #[.agg #[.slice As o.ae.length ax,.slice At o.tables.length aD],.string name,.string owner] w (qa w (iU o (dg name owner o))):=by
 have hlen:=eJ.len;have iG:=dH.len;have sm:oH o:=⟨vC eJ,vD dH⟩;have cM:=enters (P:=Tryz.prog) Tryz.func277 (by kernel_rfl) rfl
 have l1:w.heap.size < w.heap.size+1:=by omega
 have l2:w.heap.size < w.heap.size+1+1:=by omega
 have l3:w.heap.size < w.heap.size+1+1+1:=by omega
 obtain ⟨W,hW⟩:∃ W,W=(((w.alloc (.cells #[.slice As o.ae.length ax,.slice At o.tables.length aD] 25)).alloc (.cells #[.string name] 9)).alloc (.cells #[.string owner] 9)).alloc (.cells #[.slice none 0 0,.slice none 0 0] 25):=⟨_,rfl⟩
 have aW:ag w W:=by rw [hW];exact ((((ag.refl w).alloc _).alloc _).alloc _).alloc _
 have Ty:ai W (w.heap.size+1) [.string name]:=by
  rw [hW];have:=(aN (w:=(w.alloc (.cells #[.slice As o.ae.length ax,.slice At o.tables.length aD] 25))) (c:=[.string name]) (t:=9) (ag.refl _)).aA (((ag.refl _).alloc (.cells #[.string owner] 9)).alloc (.cells #[.slice none 0 0,.slice none 0 0] 25))
  simpa using this
 have Z7:ai W (w.heap.size+1+1) [.string owner]:=by
  rw [hW];have:=(aN (w:=((w.alloc (.cells #[.slice As o.ae.length ax,.slice At o.tables.length aD] 25)).alloc (.cells #[.string name] 9))) (c:=[.string owner]) (t:=9) (ag.refl _)).aA ((ag.refl _).alloc (.cells #[.slice none 0 0,.slice none 0 0] 25))
  simpa using this
 have r2:ai W (w.heap.size+1+1+1) [.slice none 0 0,.slice none 0 0]:=by
  rw [hW];have:=(aN (w:=(((w.alloc (.cells #[.slice As o.ae.length ax,.slice At o.tables.length aD] 25)).alloc (.cells #[.string name] 9)).alloc (.cells #[.string owner] 9))) (c:=[.slice none 0 0,.slice none 0 0]) (t:=25) (ag.refl _))
  simpa using this
 have zW:W.heap.size=w.heap.size+4:=by rw [hW];simp
 have CT:=gH (rA o As ax At aD 277 #[.pointer (some ⟨w.heap.size+1,0,none⟩),.pointer (some ⟨w.heap.size+1+1,0,none⟩)] (dg name owner o) W (bQ aW eJ) (bC aW dH) cM
  vI (fun jL w1 hs ht L B n3 a hB hn hL ob hne r3=>zY name owner o w1 hs ht L B n3 (w.heap.size+1) (w.heap.size+1+1) jL hn hL ob hne r3 ((Ty.aA a).cell (j:=0) rfl) ((Z7.aA a).cell (j:=0) rfl) (by omega) (by omega) sm hs1 hs2))
 obtain ⟨rr,xG⟩:∃ rr,iU o (dg name owner o)=rr:=⟨_,rfl⟩;rw [xG] at CT ⊢;have cu:=gH aW;have vK:=gH r2;have HZ:=gH zW;clear xG eJ dH r2 aW zW Ty Z7 sm
 go_in
 go_wp2_with fail;rw [← hW];clear hW;refine CT.out.mono ?_;rintro e w3 ⟨hs,ht,L,hL,rfl,a3,ob⟩;have b2:=vK.out.aA a3;have d0:=b2.cell (j:=0) rfl;have d1:=b2.cell (j:=1) rfl;have f0:=b2.2.2 0 (by simp);have f1:=b2.2.2 1 (by simp);have z2:=b2.1;have JL:=gH b2;have qf:=gH (cu.out.trans a3);have HO:=gH ob;have HL:=gH hL;clear b2 a3 ob hL;go_wp2;refine bodyPost_ret (results_cell_tmp (v:=.agg #[.slice hs.a rr.1.ae.length hs.c,.slice ht.a rr.1.tables.length ht.c]) rfl _ rfl (gY (xD JL.out rfl _ _))) rfl ?_;exact ru qf.out HL.out HO.out (by omega) (by have:=HZ.out;omega) rfl
theorem tE (o:bE) (As:Option Addr) (ax:Nat) (At:Option Addr) (aD:Nat) (name:ByteArray) (w:World) (eJ:az w 2 eE As ax o.ae) (dH:az w 5 dE At aD o.tables) :
  Calls Tryz.prog 203 #[.agg #[.slice As o.ae.length ax,.slice At o.tables.length aD],.string name] w (qa w (iU o (cC name o))):=by
 have hlen:=eJ.len;have iG:=dH.len;have sm:oH o:=⟨vC eJ,vD dH⟩;have cM:=enters (P:=Tryz.prog) Tryz.func280 (by kernel_rfl) rfl
 have l1:w.heap.size < w.heap.size+1:=by omega
 have l2:w.heap.size < w.heap.size+1+1:=by omega
 obtain ⟨W,hW⟩:∃ W,W=((w.alloc (.cells #[.slice As o.ae.length ax,.slice At o.tables.length aD] 25)).alloc (.cells #[.string name] 9)).alloc (.cells #[.slice none 0 0,.slice none 0 0] 25):=⟨_,rfl⟩
 have aW:ag w W:=by rw [hW];exact (((ag.refl w).alloc _).alloc _).alloc _
 have Ty:ai W (w.heap.size+1) [.string name]:=by
  rw [hW];have:=(aN (w:=(w.alloc (.cells #[.slice As o.ae.length ax,.slice At o.tables.length aD] 25))) (c:=[.string name]) (t:=9) (ag.refl _)).aA ((ag.refl _).alloc (.cells #[.slice none 0 0,.slice none 0 0] 25))
  simpa using this
 have r2:ai W (w.heap.size+1+1) [.slice none 0 0,.slice none 0 0]:=by
  rw [hW];have:=(aN (w:=((w.alloc (.cells #[.slice As o.ae.length ax,.slice At o.tables.length aD] 25)).alloc (.cells #[.string name] 9))) (c:=[.slice none 0 0,.slice none 0 0]) (t:=25) (ag.refl _))
  simpa using this
 have zW:W.heap.size=w.heap.size+3:=by rw [hW];simp
 have CT:=gH (rA o As ax At aD 280 #[.pointer (some ⟨w.heap.size+1,0,none⟩)] (cC name o) W (bQ aW eJ) (bC aW dH) cM
  tC (fun jL w1 hs ht L B n3 a hB hn hL ob hne r3=>xF name o w1 hs ht L B n3 (w.heap.size+1) hn hL ob hne r3 ((Ty.aA a).cell (j:=0) rfl) sm))
 obtain ⟨rr,xG⟩:∃ rr,iU o (cC name o)=rr:=⟨_,rfl⟩;rw [xG] at CT ⊢;have cu:=gH aW;have vK:=gH r2;have HZ:=gH zW;clear xG eJ dH r2 aW zW Ty sm
 go_in
 go_wp2_with fail;rw [← hW];clear hW;refine CT.out.mono ?_;rintro e w3 ⟨hs,ht,L,hL,rfl,a3,ob⟩;have b2:=vK.out.aA a3;have d0:=b2.cell (j:=0) rfl;have d1:=b2.cell (j:=1) rfl;have f0:=b2.2.2 0 (by simp);have f1:=b2.2.2 1 (by simp);have z2:=b2.1;have JL:=gH b2;have qf:=gH (cu.out.trans a3);have HO:=gH ob;have HL:=gH hL;clear b2 a3 ob hL;go_wp2;refine bodyPost_ret (results_cell_tmp (v:=.agg #[.slice hs.a rr.1.ae.length hs.c,.slice ht.a rr.1.tables.length ht.c]) rfl _ rfl (gY (xD JL.out rfl _ _))) rfl ?_;exact ru qf.out HL.out HO.out (by omega) (by have:=HZ.out;omega) rfl
end Go.Proofs.YtakddkhipelmjaaGreat
namespace Go.Proofs.YtakddkhipelmjaaGreat
open Go.RowKit Go.Deep Go.Shelf
def rC (s n:ByteArray) (t:bW):Bool:=aS t.af s&&aS t.name n
def Nw (o:bE) (s n:ByteArray):Bool:=(GW s n o.tables).any fun p=>!rC s n p.1
def fQ (s n:ByteArray) (o:bE):bE × Int :=
 if bt o.tables s n < 0 then (cX,61) else if Nw o s n then (cX,62) else (⟨o.ae,o.tables.eraseIdx (bt o.tables s n).toNat⟩,0)
end Go.Proofs.YtakddkhipelmjaaGreat
namespace Go.Proofs.YtakddkhipelmjaaGreat
open Go.Deep Go.RowKit
def iv (ts:List bW) (s n name:ByteArray) (t:bW):bW × Int :=
 if fz t.rules name < 0 then (t,61) else if ((GW s n ts).any fun p=>O5 (qx t name) name p.2) then (t,62) else ({ t with rules:=t.rules.eraseIdx (fz t.rules name).toNat },0)
theorem Aa {t:bW} {name:ByteArray} {p:Nat} (h:fz t.rules name=p) (hp:p < t.rules.length):qx t name=t.rules[p].kind:=by
 unfold qx;rw [h];simp only [Int.toNat_natCast,List.getElem?_eq_getElem hp]
theorem cR (a b:ByteArray):aS a b=true↔a=b:=⟨fun h=>by
 have h1:a.data.toList=b.data.toList:=(nL _ _).1 ((fw a b).2 h);obtain ⟨a⟩:=a;obtain ⟨b⟩:=b;have h2:a=b:=Array.toList_inj.1 h1
 rw [h2],fun h=>by rw [h];exact cK b⟩
theorem je (a b:ByteArray):bv a b=0↔a=b:=(fw a b).trans (cR a b)
theorem Ab {x y:bW}:fO x y=0↔x.af=y.af∧x.name=y.name:=by
 unfold fO iR;by_cases e1:bv x.af y.af=0
 ·rw [if_pos (by simpa using e1),je]
  exact ⟨fun h=>⟨(je _ _).1 e1,h⟩,fun h=>h.2⟩
 ·rw [if_neg (by simpa using e1)]
  exact ⟨fun h=>absurd h e1,fun h=>absurd ((je _ _).2 h.1) e1⟩
theorem fx {α:Type} (p:α→Bool):∀ l:List α,l.find? p=if bu p l < 0 then none else l[(bu p l).toNat]?
 | []=>by simp [bu]
 | x::l=>by
  have ih:=fx p l;have hr:=aT p l;rw [List.find?_cons]
  show _=if (if p x then (0:Int) else if bu p l < 0 then -1 else bu p l+1) < 0 then none else (x::l)[(if p x then (0:Int) else if bu p l < 0 then -1 else bu p l+1).toNat]?
  cases h:p x
  ·simp only [Bool.false_eq_true,if_false]
   rw [ih];by_cases h1:bu p l < 0
   ·rw [if_pos h1,if_pos h1,if_pos (by omega)]
   ·rw [if_neg h1,if_neg h1,if_neg (by omega),show (bu p l+1).toNat=(bu p l).toNat+1 by omega,List.getElem?_cons_succ]
  ·simp
theorem ud {α:Type} (p:α→Bool) (l:List α) (x:α) (hx:x∈l) (hp:p x=true) (hu:∀ y∈l,p y=true→y=x):l.find? p=some x:=by
 cases h:l.find? p with
 | none =>
  have:=List.find?_eq_none.1 h x hx;rw [hp] at this;exact absurd rfl this
 | some y=>rw [hu y (List.mem_of_find?_eq_some h) (List.find?_some h)]
theorem rD {α:Type} {c:α→α→Int} (P:kQ c) {l:List α} (h:aM c l=true) {x y:α} (hx:x∈l) (hy:y∈l) (e:c x y=0):x=y:=by
 obtain ⟨i,hi,rfl⟩:=List.getElem_of_mem hx;obtain ⟨j,hj,rfl⟩:=List.getElem_of_mem hy
 rcases Nat.lt_trichotomy i j with h1 | h1 | h1
 ·have:=ed P.tr h i j hi hj h1;omega
 ·subst h1;rfl
 ·have:=ed P.tr h j i hj hi h1;have:=P.dN l[i] l[j];omega
def dh (l:List dY) (a:ByteArray):Option Int:=(l.find? fun c=>aS c.name a).map dY.kind
theorem ue (l:List dY) (a:ByteArray):dh l a=if 0≤bO l a then some (fY l (bO l a)) else none:=by
 unfold dh;rw [fx];have hr:=aT (fun c:dY=>aS c.name a) l;by_cases h:0≤bO l a
 ·have h':0≤bu (fun c:dY=>aS c.name a) l:=h
  rw [if_pos h,if_neg (by omega),show bO l a=bu (fun c:dY=>aS c.name a) l from rfl];unfold fY;rw [List.getElem?_eq_getElem (show (bu (fun c:dY=>aS c.name a) l).toNat < l.length by omega)];rfl
 ·have h':¬ 0≤bu (fun c:dY=>aS c.name a) l:=h
  rw [if_neg h,if_pos (by omega)];rfl
theorem kE {l:List dY} {a:ByteArray} (h:0≤bO l a):dh l a=some (fY l (bO l a)):=by rw [ue,if_pos h]
theorem iw {l:List dY} {a:ByteArray} {k:Int} (h:dh l a=some k):0≤bO l a∧fY l (bO l a)=k:=by
 rw [ue] at h;by_cases h1:0≤bO l a
 ·rw [if_pos h1] at h;exact ⟨h1,Option.some.inj h⟩
 ·rw [if_neg h1] at h;cases h
theorem uf (l l2:List dY) (a b:ByteArray):Da l l2 a b=true↔∃ k,dh l a=some k∧dh l2 b=some k:=by
 unfold Da;simp only [Bool.and_eq_true,decide_eq_true_eq,beq_iff_eq]
 constructor
 ·rintro ⟨⟨h1,h2⟩,h3⟩
  exact ⟨_,kE h1,by rw [kE h2,h3]⟩
 ·rintro ⟨k,h1,h2⟩
  have h1:=iw h1;have h2:=iw h2;exact ⟨⟨h1.1,h2.1⟩,by rw [h1.2,h2.2]⟩
theorem mZ {l l' l2 Z8:List dY}:∀ cs ds:List ByteArray,(∀ a∈cs,∀ k,dh l a=some k→dh l' a=some k)→(∀ a∈ds,∀ k,dh l2 a=some k→dh Z8 a=some k)→en l l2 cs ds=true→en l' Z8 cs ds=true
 | [],[],_,_,_=>rfl
 | [],_::_,_,_,h=>by simp [en] at h
 | _::_,[],_,_,h=>by simp [en] at h
 | a::xs,b::ys,h1,h2,h=>by
  rw [en,Bool.and_eq_true] at h ⊢;obtain ⟨k,e1,e2⟩:=(uf _ _ _ _).1 h.1;exact ⟨(uf _ _ _ _).2 ⟨k,h1 a (by simp) k e1,h2 b (by simp) k e2⟩,mZ xs ys (fun c hc=>h1 c (by simp [hc])) (fun c hc=>h2 c (by simp [hc])) h.2⟩
theorem Ae {l:List dY} {r:fh} (h:dK l r=true):∀ a∈r.au,∃ k,dh l a=some k:=fun a ha=>by
 unfold dK qg at h;simp only [Bool.and_eq_true,List.all_eq_true,List.mem_range] at h;obtain ⟨i,hi,rfl⟩:=List.getElem_of_mem ha;have:=h.1.1.1 i hi;rw [List.getElem?_eq_getElem hi] at this;simp only [Bool.and_eq_true,decide_eq_true_eq] at this;exact ⟨_,kE this.1⟩
theorem ug {l l':List dY} {r:fh} (hm:∀ a∈r.au,∀ k,dh l a=some k→dh l' a=some k) (h:dK l r=true):dK l' r=true:=by
 have hc:=Ae h;unfold dK at h ⊢;simp only [Bool.and_eq_true] at h ⊢;obtain ⟨⟨⟨h1,h2⟩,h3⟩,h4⟩:=h;refine ⟨⟨⟨?_,h2⟩,h3⟩,?_⟩
 ·unfold qg at h1 ⊢
  simp only [List.all_eq_true,List.mem_range] at h1 ⊢;intro i hi;have:=h1 i hi;rw [List.getElem?_eq_getElem hi] at this ⊢;simp only [Bool.and_eq_true,decide_eq_true_eq] at this ⊢;exact ⟨(iw (hm _ (List.getElem_mem hi) _ (kE this.1))).1,this.2⟩
 ·unfold gJ at h4 ⊢
  by_cases k1:(r.kind==1 || r.kind==2)=true
  ·rw [if_pos k1] at h4 ⊢;exact h4
  ·rw [if_neg k1] at h4 ⊢
   by_cases k3:(r.kind==3)=true
   ·rw [if_pos k3] at h4 ⊢
    simp only [Bool.and_eq_true,beq_iff_eq] at h4 ⊢;obtain ⟨⟨⟨h5,h6⟩,h7⟩,h8⟩:=h4;refine ⟨⟨⟨h5,h6⟩,?_⟩,h8⟩
    have hl:r.au.length=1:=by omega
    have Q9:r.au.headD ByteArray.empty∈r.au:=by
     match r.au,hl with
     | [x],_=>simp
    obtain ⟨k,hk⟩:=hc _ Q9;have e1:=(iw hk).2;rw [h7] at e1;have e2:=(iw (hm _ Q9 _ hk)).2;rw [e2,e1]
   ·rw [if_neg k3] at h4 ⊢;exact h4
theorem fZ (l:List dY):fl l=true↔(1≤l.length∧l.length≤8)∧(∀ c∈l,iK c=true)∧l.Pairwise fun a b=>a.name≠b.name:=by
 unfold fl;simp only [Bool.and_eq_true,decide_eq_true_eq,List.all_eq_true,List.mem_range]
 have key:∀ (i:Nat) (hi:i < l.length),bu (fun d:dY=>aS d.name l[i].name) (l.take i) < 0↔∀ j (hj:j < i),(l[j]'(by omega)).name≠l[i].name:=fun i hi=>by
  constructor
  ·intro h j hj e
   have h1:=fx (fun d:dY=>aS d.name l[i].name) (l.take i);rw [if_pos h] at h1;have:=List.find?_eq_none.1 h1 (l[j]'(by omega)) (by rw [List.mem_take_iff_getElem];exact ⟨j,by omega,rfl⟩);exact this ((cR _ _).2 e)
  ·intro h
   have:bu (fun d:dY=>aS d.name l[i].name) (l.take i) = -1:=eT _ _ fun j hj=>by
    rw [Bool.eq_false_iff];intro e
    have hj':j < i:=by simp at hj;omega
    rw [List.getElem_take] at e;exact h j hj' ((cR _ _).1 e)
   omega
 constructor
 ·rintro ⟨h1,h2⟩
  refine ⟨h1,fun c hc=>?_,List.pairwise_iff_getElem.2 fun i j hi hj mU=>?_⟩
  ·obtain ⟨i,hi,rfl⟩:=List.getElem_of_mem hc
   have:=h2 i hi;rw [List.getElem?_eq_getElem hi] at this;simp only [Bool.and_eq_true,decide_eq_true_eq] at this;exact this.1
  ·have:=h2 j hj
   rw [List.getElem?_eq_getElem hj] at this;simp only [Bool.and_eq_true,decide_eq_true_eq] at this;exact (key j hj).1 this.2 i mU
 ·rintro ⟨h1,h2,h3⟩
  refine ⟨h1,fun i hi=>?_⟩;rw [List.getElem?_eq_getElem hi];simp only [Bool.and_eq_true,decide_eq_true_eq];exact ⟨h2 _ (List.getElem_mem hi),(key i hi).2 fun j hj=>List.pairwise_iff_getElem.1 h3 j i (by omega) hi hj⟩
def gK (ts:List bW) (l:List dY) (r:fh):Prop:=∃ t∈ts,t.af=r.af∧t.name=r.table∧∃ q∈t.rules,q.name=r.key∧q.kind=2∧en l t.au r.au q.au=true
theorem uh (ts:List bW) (l:List dY) (r:fh):mn ts l r=match ts.find? (fun t=>aS t.af r.af&&aS t.name r.table) with
  | none=>61
  | some t=>match t.rules.find? (fun q=>aS q.name r.key) with
   | none=>61
   | some q=>if q.kind==2 then (if en l t.au r.au q.au then 0 else 63) else 61:=by
 have h2:∀ t:bW,nU t l r=match t.rules.find? (fun q=>aS q.name r.key) with | none=>61 | some q=>if q.kind==2 then (if en l t.au r.au q.au then 0 else 63) else 61:=fun t=>by
  unfold nU;rw [fx];have e:fz t.rules r.key=bu (fun q:fh=>aS q.name r.key) t.rules:=rfl;rw [e];by_cases h:bu (fun q:fh=>aS q.name r.key) t.rules < 0
  ·rw [if_pos h]
   split
   ·rw [if_pos h]
   ·rfl
  ·rw [if_neg h]
   cases hg:t.rules[(bu (fun q:fh=>aS q.name r.key) t.rules).toNat]? with
   | none=>rfl
   | some q=>simp only;rw [if_neg h]
 unfold mn;rw [fx];have e:bt ts r.af r.table=bu (fun t:bW=>aS t.af r.af&&aS t.name r.table) ts:=rfl;rw [e];by_cases h:bu (fun t:bW=>aS t.af r.af&&aS t.name r.table) ts < 0
 ·rw [if_pos h]
  split
  ·rw [if_pos h]
  ·rfl
 ·rw [if_neg h]
  cases hg:ts[(bu (fun t:bW=>aS t.af r.af&&aS t.name r.table) ts).toNat]? with
  | none=>rfl
  | some t=>simp only;rw [if_neg h,h2]
theorem rE {ts:List bW} {l:List dY} {r:fh} (h:mn ts l r=0):gK ts l r:=by
 rw [uh] at h
 cases h1:ts.find? (fun t=>aS t.af r.af&&aS t.name r.table) with
 | none=>rw [h1] at h;simp at h
 | some t =>
  rw [h1] at h;simp only at h;have p1:=List.find?_some (p:=fun t:bW=>aS t.af r.af&&aS t.name r.table) h1;simp only [Bool.and_eq_true,cR] at p1
  cases h2:t.rules.find? (fun q=>aS q.name r.key) with
  | none=>rw [h2] at h;simp at h
  | some q =>
   rw [h2] at h;simp only at h;have p2:=List.find?_some (p:=fun q:fh=>aS q.name r.key) h2;by_cases k:(q.kind==2)=true
   ·rw [if_pos k] at h
    by_cases k2:en l t.au r.au q.au=true
    ·exact ⟨t,List.mem_of_find?_eq_some h1,p1.1,p1.2,q,List.mem_of_find?_eq_some h2,(cR _ _).1 p2,by simpa using k,k2⟩
    ·rw [if_neg k2] at h;exact absurd h (by decide)
   ·rw [if_neg k] at h;exact absurd h (by decide)
theorem Af {ts:List bW} {l:List dY} {r:fh} (hts:aM fO ts=true) (oG:∀ t∈ts,aM py t.rules=true) (h:gK ts l r):mn ts l r=0:=by
 obtain ⟨t,ht,e1,e2,q,hq,e3,e4,e5⟩:=h
 rw [uh,ud _ ts t ht (by rw [e1,e2,cK,cK];rfl) (fun y hy hp=>by
  simp only [Bool.and_eq_true,cR] at hp
  exact rD tT hts hy ht (Ab.2 ⟨hp.1.trans e1.symm,hp.2.trans e2.symm⟩))]
 simp only
 rw [ud _ t.rules q hq (by rw [e3,cK]) (fun y hy hp=>rD Cu (oG t ht) hy hq ((je _ _).2 (((cR _ _).1 hp).trans e3.symm)))]
 simp only
 rw [if_pos (by simp [e4]),if_pos e5]
structure Nx (ss:List fK) (ts:List bW) (t:bW):Prop where
 nm:bG t.name=true
 ow:bG t.owner=true
 au:fl t.au=true
 nr:t.rules.length≤8
 fS:∃ s∈ss,s.name=t.af
 kj:aM py t.rules=true
 fit:∀ r∈t.rules,dK t.au r=true
 key:∀ r∈t.rules,r.kind=4→gK ts t.au r
structure Good (o:bE):Prop where
 ns:o.ae.length≤8
 nt:o.tables.length≤64
 rt:aM fO o.tables=true
 rs:aM ja o.ae=true
 fS:∀ s∈o.ae,bG s.name=true∧bG s.owner=true∧within o.tables s.name≤8
 tab:∀ t∈o.tables,Nx o.ae o.tables t
theorem l7 (l:List fK) (s:ByteArray):0≤bY l s↔∃ x∈l,x.name=s:=by
 have h:=fx (fun c:fK=>aS c.name s) l;have hr:=aT (fun c:fK=>aS c.name s) l;have e:bY l s=bu (fun c:fK=>aS c.name s) l:=rfl;rw [e]
 constructor
 ·intro h0
  rw [if_neg (by omega),List.getElem?_eq_getElem (by omega)] at h;exact ⟨_,List.mem_of_find?_eq_some h,(cR _ _).1 (List.find?_some (p:=fun c:fK=>aS c.name s) h)⟩
 ·rintro ⟨x,hx,rfl⟩
  rcases Int.lt_or_le (bu (fun c:fK=>aS c.name x.name) l) 0 with h0 | h0
  ·rw [if_pos h0] at h
   exact absurd (cK x.name) (List.find?_eq_none.1 h x hx)
  ·exact h0
theorem dQ (o:bE):bD o=true↔Good o:=by
 unfold bD mY;simp only [Bool.and_eq_true,decide_eq_true_eq,List.all_eq_true]
 constructor
 ·rintro ⟨⟨⟨⟨h1,h2⟩,h3⟩,h4⟩,h5,h6⟩
  refine ⟨h1,h2,h3,h4,fun s hs=>?_,fun t ht=>?_⟩
  ·have:=h5 s hs
   unfold nV at this;simp only [Bool.and_eq_true,decide_eq_true_eq] at this;exact ⟨this.1.1,this.1.2,this.2⟩
  ·have:=h6 t ht
   unfold cU at this;simp only [Bool.and_eq_true,decide_eq_true_eq,List.all_eq_true] at this;obtain ⟨⟨⟨⟨⟨a1,a2⟩,a3⟩,a4⟩,a5⟩,a6,a7⟩:=this;refine ⟨a1,a2,a3,a4,(l7 _ _).1 a5,a7,fun r hr=>?_,fun r hr hk=>?_⟩
   ·have:=a6 r hr
    unfold gZ at this;simp only [Bool.and_eq_true] at this;exact this.1
   ·have:=a6 r hr
    unfold gZ at this;simp only [Bool.and_eq_true,Bool.not_eq_true',Bool.and_eq_false_iff,beq_eq_false_iff_ne,bne_eq_false_iff_eq] at this;exact rE (this.2.resolve_left fun h=>h hk)
 ·intro g
  have oG:∀ t∈o.tables,aM py t.rules=true:=fun t ht=>(g.tab t ht).kj
  refine ⟨⟨⟨⟨g.ns,g.nt⟩,g.rt⟩,g.rs⟩,fun s hs=>?_,fun t ht=>?_⟩
  ·have:=g.fS s hs
   unfold nV;simp only [Bool.and_eq_true,decide_eq_true_eq];exact ⟨⟨this.1,this.2.1⟩,this.2.2⟩
  ·have a:=g.tab t ht
   unfold cU;simp only [Bool.and_eq_true,decide_eq_true_eq,List.all_eq_true];refine ⟨⟨⟨⟨⟨a.nm,a.ow⟩,a.au⟩,a.nr⟩,(l7 _ _).2 a.fS⟩,fun r hr=>?_,a.kj⟩;unfold gZ;simp only [Bool.and_eq_true,Bool.not_eq_true',Bool.and_eq_false_iff,beq_eq_false_iff_ne,bne_eq_false_iff_eq];refine ⟨a.fit r hr,?_⟩;by_cases hk:r.kind=4
   ·exact .inr (Af g.rt oG (a.key r hr hk))
   ·exact .inl hk
end Go.Proofs.YtakddkhipelmjaaGreat
namespace Go.Proofs.YtakddkhipelmjaaGreat
open Go.RowKit Go.Deep Go.Sort
def ii (t:bW) (o:bE):bE × Int :=
 if (!bG t.name || !bG t.owner) then (cX,1) else if bY o.ae t.af < 0 then (cX,61) else if 0≤bt o.tables t.af t.name then (cX,60) else if 8≤within o.tables t.af then (cX,2)
 else if (!fl t.au || decide (0 < t.rules.length)) then (cX,63) else (⟨o.ae,cP o.tables (dP fO o.tables t) t⟩,0)
theorem GZ {o:bE} {t:bW} (h:bt o.tables t.af t.name < 0):∀ y∈o.tables,fO y t≠0:=fun y hy e=>by
 have h1:=aT (fun c:bW=>aS c.af t.af&&aS c.name t.name) o.tables
 have h2:bt o.tables t.af t.name = -1:=by unfold bt at *;omega
 have h4:bv y.af t.af=0∧bv y.name t.name=0:=by
  unfold fO iR at e;by_cases e1:bv y.af t.af=0
  ·rw [if_pos (by simpa using e1)] at e;exact ⟨e1,e⟩
  ·rw [if_neg (by simpa using e1)] at e;exact absurd e e1
 have h3:o.tables.any (fun c=>aS c.af t.af&&aS c.name t.name)=true:=List.any_eq_true.2 ⟨y,hy,by rw [(fw _ _).1 h4.1,(fw _ _).1 h4.2];rfl⟩;rw [← oU] at h3;have:=of_decide_eq_true h3;unfold bt at h2;omega
end Go.Proofs.YtakddkhipelmjaaGreat
namespace Go.Proofs.YtakddkhipelmjaaGreat
open Go.Deep Go.RowKit
theorem KI {ops:Array Oper} {rest:List Oper} {o:Oper} {a:Act} {w:World} {Q:Exit→Act→World→Prop} (hgd:o.guard=none) (s x:Operand)
  (ho:o.op=.call { callee:=.builtin .append,args:=#[s,x],argTypes:=#[23,23] }) (base:Nat) (v:Value) (n:Nat) (xs:List Value) (hs:a.eval s=v) (hown:w.ownsRow base 80 5 v n xs)
  (b:Nat) (y:bA) (c0 c1 c2:ByteArray) (A2:Option Addr) (n2 k2:Nat) (A3:Option Addr) (n3 k3:Nat) (hy:y.cells=[.string c0,.string c1,.string c2,.slice A2 n2 k2,.slice A3 n3 k3]) (hx:a.eval x=.slice (some ⟨b,0,none⟩) 1 1) (hb:w.heap[b]? = some (.cells #[.string c0,.string c1,.string c2,.slice A2 n2 k2,.slice A3 n3 k3] 80)) (hn:n≤1000000) (hbase:base≤w.heap.size)
  (h:∀ g cap w',w'.ownsRow base 80 5 (.slice (some ⟨g,0,none⟩) (n+1) cap) (n+1) (xs++y.cells)→w.grownBy w' v.ownBlock→(v.ownBlock=some g∨g=w.heap.size)→wpList Tryz.prog ops Q rest (a.put o.dst (.slice (some ⟨g,0,none⟩) (n+1) cap)) w'):wpList Tryz.prog ops Q (o::rest) a w:=by
 obtain ⟨i0,mL,hz0,hz1,hz2⟩:=info_parts xH;rw [hy] at h
 exact wpList_append_lies w hgd s x 23 ho base 80 i0 _ 5 96 Tryz.underlying23 mL hz0 hz1 hz2 rfl (by decide) v n xs hs hown ⟨b,0,none⟩ 1 1 [.string c0,.string c1,.string c2,.slice A2 n2 k2,.slice A3 n3 k3] hx rfl (World.news_of_block (cs:=#[.string c0,.string c1,.string c2,.slice A2 n2 k2,.slice A3 n3 k3]) (t:=80) (fr:=(0,0)) hb) (by simp [Value.oneCell']) (by omega) (by unfold maxLen;omega) (by omega) hbase _ rfl fun g cap w' h1 h2 h3 _=>h g cap w' h1 h2 h3
theorem Ah {α:Type} (l:List α) (p:Nat) (x:α):(cP l p x).Perm (l++[x]):=by
 unfold cP;have h1:(l.take p++([x]++l.drop p)).Perm (l.take p++(l.drop p++[x])):=List.perm_append_comm.append_left _;rw [← List.append_assoc,← List.append_assoc,List.take_append_drop] at h1;exact h1
theorem Aj (ts:List bW) (p:Nat) (t:bW) (s:ByteArray):within (cP ts p t) s=within ts s+if aS t.af s then 1 else 0:=by
 unfold within;rw [((Ah ts p t).filter _).length_eq,List.filter_append,List.length_append]
 cases h:aS t.af s<;>simp [h]
theorem ui {α:Type} (p:α→Bool):∀ l:List α,l.length=(l.filter p).length+(l.filter fun x=>!p x).length
 | []=>rfl
 | x::l=>by
  have:=ui p l
  cases h:p x<;>simp [h]<;>omega
theorem uj:∀ (ns:List ByteArray) (ts:List bW),(∀ t∈ts,t.af∈ns)→(∀ n∈ns,within ts n≤8)→ts.length≤ns.length*8
 | [],ts,h,_=>by
  cases ts with
  | nil=>simp
  | cons t l=>have:=h t (by simp);simp at this
 | n::ns,ts,h,h8=>by
  have e:=ui (fun t:bW=>aS t.af n) ts
  have ih:=uj ns (ts.filter fun t=>!aS t.af n) (fun t ht=>by
   have h1:=List.mem_filter.1 ht
   rcases List.mem_cons.1 (h t h1.1) with e | e
   ·have:=h1.2
    rw [e,cK] at this
    cases this
   ·exact e) (fun m hm=>Nat.le_trans (by
    unfold within
    exact ((List.filter_sublist (p:=fun t:bW=>!aS t.af n) (l:=ts)).filter _).length_le) (h8 m (List.mem_cons_of_mem _ hm)))
  have h9:=h8 n (by simp);unfold within at h9;simp only [List.length_cons];omega
theorem rG {α β:Type} (f:α→β) (d:β→β→Int):∀ l:List α,aM (fun x y=>d (f x) (f y)) l=aM d (l.map f)
 | []=>rfl
 | [_]=>rfl
 | x::y::l=>by
  show (decide (d (f x) (f y) < 0)&&aM (fun x y=>d (f x) (f y)) (y::l))=(decide (d (f x) (f y) < 0)&&aM d ((y::l).map f))
  rw [rG f d (y::l)]
theorem nW {α β:Type} (f:α→β) (l:List α) (q:Nat) (x:α) (hq:q < l.length) (h:f x=f l[q]):(l.set q x).map f=l.map f:=by
 rw [List.map_set,h]
 have:f l[q]=(l.map f)[q]'(by simpa using hq):=by simp
 rw [this,List.set_getElem_self]
theorem uk {ts:List bW} {q:Nat} {t:bW} (hq:q < ts.length) (hs:t.af=ts[q].af) (hn:t.name=ts[q].name):aM fO (ts.set q t)=aM fO ts:=by
 have m:=rG (fun t:bW=>(t.af,t.name)) (fun a b:ByteArray × ByteArray=>iR (bv a.1 b.1) (bv a.2 b.2));have m1:∀ l:List bW,aM fO l=aM (fun a b:ByteArray × ByteArray=>iR (bv a.1 b.1) (bv a.2 b.2)) (l.map fun t=>(t.af,t.name)):=m;rw [m1,m1,nW _ _ _ _ hq (by simp [hs,hn])]
theorem rH {ts:List bW} {q:Nat} {t:bW} (hq:q < ts.length) (hs:t.af=ts[q].af) (s:ByteArray):within (ts.set q t) s=within ts s:=by
 have e:∀ l:List bW,within l s=((l.map bW.af).filter fun a=>aS a s).length:=fun l=>by
  unfold within;rw [List.filter_map,List.length_map];rfl
 rw [e,e,nW _ _ _ _ hq hs]
theorem lA {α:Type} {c:α→α→Int} (P:kQ c) {l:List α} (h:aM c l=true) (p:Nat):aM c (l.eraseIdx p)=true:=by
 have hw:l.Pairwise fun a b=>c a b < 0:=List.pairwise_iff_getElem.2 fun i j hi hj mU=>ed P.tr h i j hi hj mU
 have hw2:=hw.sublist (List.eraseIdx_sublist l p)
 exact (cL _ _).2 fun k hk=>List.pairwise_iff_getElem.1 hw2 k (k+1) (by omega) hk (by omega)
theorem eQ {α:Type} {l:List α} {p:Nat} {x:α} (hx:x∈l) (hp:∀ h:p < l.length,x≠l[p]):x∈l.eraseIdx p:=by
 obtain ⟨i,hi,rfl⟩:=List.getElem_of_mem hx;refine List.mem_eraseIdx_iff_getElem.2 ⟨i,hi,fun e=>?_,rfl⟩;subst e;exact hp hi rfl
theorem l8 {ts:List bW} {q:Nat} {t:bW} {l l':List dY} {r:fh} (hq:q < ts.length) (hs:t.af=ts[q].af) (hn:t.name=ts[q].name) (hl:∀ a∈r.au,∀ k,dh l a=some k→dh l' a=some k)
  (hr:ts[q].af=r.af→ts[q].name=r.table→∀ k∈ts[q].rules,k.name=r.key→k.kind=2→k∈t.rules∧∀ a∈k.au,∀ i,dh ts[q].au a=some i→dh t.au a=some i) (h:gK ts l r):gK (ts.set q t) l' r:=by
 obtain ⟨x,hx,e1,e2,k,hk,e3,e4,e5⟩:=h;obtain ⟨i,hi,rfl⟩:=List.getElem_of_mem hx;by_cases Z9:i=q
 ·subst Z9
  have h9:=hr e1 e2 k hk e3 e4;exact ⟨t,List.mem_set hq t,hs.trans e1,hn.trans e2,k,h9.1,e3,e4,mZ _ _ hl h9.2 e5⟩
 ·refine ⟨ts[i],?_,e1,e2,k,hk,e3,e4,mZ _ _ hl (fun _ _ _ h=>h) e5⟩
  exact List.mem_iff_getElem.2 ⟨i,by simpa using hi,by rw [List.getElem_set_ne (fun e=>Z9 e.symm)]⟩
theorem m9 {α:Type} {l:List α} {q:Nat} {x y:α} (h:x∈l.set q y):x=y∨x∈l:=by
 rcases List.mem_or_eq_of_mem_set h with h | h
 ·exact .inr h
 ·exact .inl h
theorem nX {o:bE} {q:Nat} {t:bW} (g:Good o) (hq:q < o.tables.length) (hs:t.af=o.tables[q].af) (hn:t.name=o.tables[q].name) (ho:t.owner=o.tables[q].owner) (hc:fl t.au=true) (hl:t.rules.length≤8) (hri:aM py t.rules=true) (hf:∀ r∈t.rules,dK t.au r=true)
  (hk:∀ r∈t.rules,r.kind=4→gK (o.tables.set q t) t.au r) (hk2:∀ x∈o.tables,∀ r∈x.rules,r.kind=4→gK (o.tables.set q t) x.au r):Good ⟨o.ae,o.tables.set q t⟩:=by
 have gq:=g.tab _ (List.getElem_mem hq);refine ⟨g.ns,by simpa using g.nt,?_,g.rs,fun s hs2=>?_,fun x hx=>?_⟩
 ·show aM fO (o.tables.set q t)=true
  rw [uk hq hs hn];exact g.rt
 ·have:=g.fS s hs2
  refine ⟨this.1,this.2.1,?_⟩
  show within (o.tables.set q t) s.name≤8
  rw [rH hq hs];exact this.2.2
 ·rcases m9 hx with rfl | hx
  ·exact ⟨hn▸gq.nm,ho▸gq.ow,hc,hl,by rw [hs];exact gq.fS,hri,hf,hk⟩
  ·have gx:=g.tab x hx
   exact ⟨gx.nm,gx.ow,gx.au,gx.nr,gx.fS,gx.kj,gx.fit,hk2 x hx⟩
theorem g9 {l:List dY} {cs:List ByteArray}:∀ a∈cs,∀ k,dh l a=some k→dh l a=some k:=fun _ _ _ h=>h
theorem rI {ts:List bW} {s n:ByteArray} {q:Nat} (h:bt ts s n=q) (hq:q < ts.length):ts[q].af=s∧ts[q].name=n:=by
 have h1:(aS ts[q].af s&&aS ts[q].name n)=true:=gF (fun t:bW=>aS t.af s&&aS t.name n) ts q hq h;simp only [Bool.and_eq_true,cR] at h1;exact h1
theorem G0 {l:List fh} {s:ByteArray} {p:Nat} (h:fz l s=p) (hp:p < l.length):l[p].name=s:=(cR _ _).1 (gF (fun c:fh=>aS c.name s) l p hp h)
theorem qy {o:bE} {s n:ByteArray} {f:bW→bW × Int} (h:bD o=true) (hz:(fD o s n f).2=0)
  (hf:∀ (q:Nat) (hq:q < o.tables.length),bt o.tables s n=q→(f o.tables[q]).2=0→Good ⟨o.ae,o.tables.set q (f o.tables[q]).1⟩):bD (fD o s n f).1=true:=by
 have hr:=aT (fun t:bW=>aS t.af s&&aS t.name n) o.tables;by_cases h0:bt o.tables s n < 0
 ·rw [ul h0] at hz;cases hz
 ·obtain ⟨q,hq⟩:∃ q:Nat,bt o.tables s n=q:=⟨(bt o.tables s n).toNat,by omega⟩
  have pC:q < o.tables.length:=by unfold bt at hq;omega
  rw [um hq pC] at hz ⊢;by_cases h1:(f o.tables[q]).2=0
  ·rw [if_pos h1]
   exact (dQ _).2 (hf q pC hq h1)
  ·rw [if_neg h1] at hz;exact absurd hz h1
theorem Ak {o:bE} {s n:ByteArray} {r:fh} (h:bD o=true) (hz:(fD o s n (iV o.tables r)).2=0):bD (fD o s n (iV o.tables r)).1=true:=by
 have g:=(dQ o).1 h
 refine qy h hz fun q hq hat nY=>?_
 have gq:=g.tab _ (List.getElem_mem hq);unfold iV at nY ⊢;by_cases c1:dK o.tables[q].au r=true
 ·by_cases c2:0≤fz o.tables[q].rules r.name
  ·rw [c1] at nY;simp [c2] at nY
  ·by_cases c3:8≤o.tables[q].rules.length
   ·rw [c1] at nY;simp [c2,c3] at nY
   ·by_cases c4:(r.kind==4&&mn o.tables o.tables[q].au r != 0)=true
    ·rw [if_neg (by rw [c1];simp),if_neg c2,if_neg c3,if_pos c4] at nY
     simp only [Bool.and_eq_true,bne_iff_ne] at c4;exact absurd nY c4.2
    ·rw [if_neg (by rw [c1];simp),if_neg c2,if_neg c3,if_neg c4]
     have Xx:∀ k,k∈o.tables[q].rules→k∈cP o.tables[q].rules (dP py o.tables[q].rules r) r:=fun k hk=>bK.2 (.inr hk)
     have tF:∀ x r',gK o.tables x r'→gK (o.tables.set q { o.tables[q] with rules:=cP o.tables[q].rules (dP py o.tables[q].rules r) r }) x r':=fun x r' hh =>
      l8 hq rfl rfl g9 (fun _ _ k hk _ _=>⟨Xx k hk,g9⟩) hh
     refine nX g hq rfl rfl rfl gq.au ?_ (gV Cu.tr Cu.dN gq.kj (GV (by omega))) (fun y hy=>?_) (fun y hy Tz=>?_) (fun x hx y hy Tz=>tF _ _ ((g.tab x hx).key y hy Tz))
     ·show (cP _ _ _).length≤8
      rw [eI _ _ _ (fT _ _ _)];omega
     ·rcases bK.1 hy with e | e
      ·rw [e];exact c1
      ·exact gq.fit y e
     ·rcases bK.1 hy with e | e
      ·rw [e] at Tz ⊢
       refine tF _ _ (rE ?_)
       show mn o.tables o.tables[q].au r=0
       simp only [Bool.and_eq_true,beq_iff_eq,bne_iff_ne,not_and] at c4;exact Classical.not_not.1 (c4 Tz)
      ·exact tF _ _ (gq.key y e Tz)
 ·rw [if_pos (by simpa using c1)] at nY;cases nY
theorem xI {s n:ByteArray} {ts:List bW} {x:bW} {r:fh} (hx:x∈ts) (hr:r∈x.rules) (h:vH s n r=true):(x,r)∈GW s n ts:=by
 unfold GW Tv;exact List.mem_flatMap.2 ⟨x,hx,List.mem_map.2 ⟨r,List.mem_filter.2 ⟨hr,h⟩,rfl⟩⟩
theorem un {s n:ByteArray} {r:fh} (h4:r.kind=4) (hs:r.af=s) (hn:r.table=n):vH s n r=true:=by
 unfold vH;rw [hs,hn,cK,cK];simp [h4]
theorem xJ {o:bE} {s n name:ByteArray} (h:bD o=true) (hz:(fD o s n (iv o.tables s n name)).2=0):bD (fD o s n (iv o.tables s n name)).1=true:=by
 have g:=(dQ o).1 h
 refine qy h hz fun q hq hat nY=>?_
 have gq:=g.tab _ (List.getElem_mem hq);obtain ⟨hqs,O8⟩:=rI hat hq;have hr:=aT (fun c:fh=>aS c.name name) o.tables[q].rules;unfold iv at nY ⊢;by_cases c1:fz o.tables[q].rules name < 0
 ·rw [if_pos c1] at nY;cases nY
 ·by_cases c2:((GW s n o.tables).any fun p=>O5 (qx o.tables[q] name) name p.2)=true
  ·rw [if_neg c1,if_pos c2] at nY;cases nY
  ·rw [if_neg c1,if_neg c2]
   obtain ⟨p,hp⟩:∃ p:Nat,fz o.tables[q].rules name=p:=⟨(fz o.tables[q].rules name).toNat,by omega⟩
   have hpl:p < o.tables[q].rules.length:=by unfold fz at hp;omega
   have Ra:=G0 hp hpl;have hkd:=Aa hp hpl;rw [hp];simp only [Int.toNat_natCast]
   have tF:∀ x∈o.tables,∀ r'∈x.rules,r'.kind=4→gK o.tables x.au r'→gK (o.tables.set q { o.tables[q] with rules:=o.tables[q].rules.eraseIdx p }) x.au r':=fun x hx r' G1 h4 hh =>
    l8 hq rfl rfl g9 (fun e1 e2 k hk e3 e4=>⟨eQ hk fun h9 e=>c2 (List.any_eq_true.2 ⟨(x,r'),xI hx G1 (un h4 (e1.symm.trans hqs) (e2.symm.trans O8)),by
     unfold O5;rw [hkd,← e,e4,← e3,e,Ra,cK]
     rfl⟩),g9⟩) hh
   exact nX g hq rfl rfl rfl gq.au (Nat.le_trans (List.length_eraseIdx_le _ _) gq.nr) (lA Cu gq.kj p) (fun y hy=>gq.fit y (List.mem_of_mem_eraseIdx hy))
    (fun y hy h4=>tF _ (List.getElem_mem hq) y (List.mem_of_mem_eraseIdx hy) h4 (gq.key y (List.mem_of_mem_eraseIdx hy) h4)) (fun x hx y hy h4=>tF x hx y hy h4 ((g.tab x hx).key y hy h4))
theorem xK {s n:ByteArray} {x y:bW} (h1:rC s n x=true) (h2:rC s n y=true):fO x y=0:=by
 unfold rC at h1 h2;rw [Bool.and_eq_true] at h1 h2;have e1:bv x.af y.af=0:=(fw _ _).2 (oV h1.1 (by rw [lB];exact h2.1));have e2:bv x.name y.name=0:=(fw _ _).2 (oV h1.2 (by rw [lB];exact h2.2));unfold fO iR;rw [e1,e2];rfl
theorem G2 {o:bE} {s n:ByteArray} {p:Nat} (hr:aM fO o.tables=true) (hp:bt o.tables s n=p) (hpl:p < o.tables.length) (t:Nat) (ht:t < o.tables.length):rC s n o.tables[t]=decide (t=p):=by
 have h1:rC s n o.tables[p]=true:=gF (fun c:bW=>aS c.af s&&aS c.name n) o.tables p hpl hp
 rcases Nat.lt_trichotomy t p with h | h | h
 ·rw [decide_eq_false (by omega),Bool.eq_false_iff]
  intro h2;have h3:=ed tT.tr hr t p ht hpl h;have h4:=xK h2 h1;omega
 ·subst h;rw [h1];simp
 ·rw [decide_eq_false (by omega),Bool.eq_false_iff]
  intro h2;have h3:=ed tT.tr hr p t hpl ht h;have h4:=xK h1 h2;omega
def iW (c:dY) (t:bW):bW × Int :=
 if (!iK c || !c.null) then (t,63) else if 0≤bO t.au c.name then (t,60) else if 8≤t.au.length then (t,2) else ({ t with au:=t.au++[c] },0)
def G8 (t:bW) (s:ByteArray):Bool:=decide (t.au.length=1) || t.rules.any fun r=>r.au.any fun x=>aS x s
def ix (s:ByteArray) (t:bW):bW × Int :=
 if bO t.au s < 0 then (t,61) else if G8 t s then (t,62) else ({ t with au:=t.au.eraseIdx (bO t.au s).toNat },0)
theorem KJ {o:bE} (g:Good o) {t:bW} (ht:t∈o.tables):t.af∈o.ae.map fK.name:=by
 obtain ⟨s,hs,e⟩:=(g.tab t ht).fS;exact List.mem_map.2 ⟨s,hs,e⟩
theorem uo {l:List fK} {s:ByteArray} (h:¬ 0≤bY l s):∀ x∈l,x.name≠s:=fun x hx e=>h ((l7 l s).2 ⟨x,hx,e⟩)
theorem xL {ts:List bW} {s:ByteArray} (h:∀ t∈ts,t.af≠s):within ts s=0:=by
 unfold within;rw [List.length_eq_zero_iff,List.filter_eq_nil_iff];intro t ht e;exact h t ht ((cR _ _).1 e)
theorem Ao {o:bE} {nm ow:ByteArray} (h:bD o=true) (hz:(dg nm ow o).2=0):bD (dg nm ow o).1=true:=by
 have g:=(dQ o).1 h;unfold dg at hz ⊢;by_cases c1:(!bG nm || !bG ow)=true
 ·rw [if_pos c1] at hz;cases hz
 ·by_cases c2:0≤bY o.ae nm
  ·rw [if_neg c1,if_pos c2] at hz;cases hz
  ·by_cases c3:8≤o.ae.length
   ·rw [if_neg c1,if_neg c2,if_pos c3] at hz;cases hz
   ·rw [if_neg c1,if_neg c2,if_neg c3]
    simp only [Bool.or_eq_true,Bool.not_eq_true',not_or,Bool.not_eq_false] at c1;refine (dQ _).2 ⟨?_,g.nt,g.rt,gV tS.tr tS.dN g.rs (fun y hy e=>uo c2 y hy ((je _ _).1 e)),fun s hs=>?_,fun t ht=>?_⟩
    ·show (cP _ _ _).length≤8
     rw [eI _ _ _ (fT _ _ _)];omega
    ·rcases bK.1 hs with e | e
     ·rw [e]
      refine ⟨c1.1,c1.2,?_⟩
      show within o.tables nm≤8
      rw [xL fun t ht e=>?_]
      ·omega
      ·obtain ⟨x,hx,e2⟩:=(g.tab t ht).fS
       exact uo c2 x hx (e2.trans e)
     ·exact g.fS s e
    ·have a:=g.tab t ht
     obtain ⟨x,hx,e⟩:=a.fS;exact ⟨a.nm,a.ow,a.au,a.nr,⟨x,bK.2 (.inr hx),e⟩,a.kj,a.fit,a.key⟩
theorem Db {ts ts':List bW} {l:List dY} {r:fh} (hs:∀ t∈ts,t.af=r.af→t.name=r.table→t∈ts') (h:gK ts l r):gK ts' l r:=by
 obtain ⟨t,ht,e1,e2,rest⟩:=h;exact ⟨t,hs t ht e1 e2,e1,e2,rest⟩
theorem Ap {o:bE} {t:bW} (h:bD o=true) (hz:(ii t o).2=0):bD (ii t o).1=true:=by
 have g:=(dQ o).1 h;unfold ii at hz ⊢;by_cases c1:(!bG t.name || !bG t.owner)=true
 ·rw [if_pos c1] at hz;cases hz
 ·by_cases c2:bY o.ae t.af < 0
  ·rw [if_neg c1,if_pos c2] at hz;cases hz
  ·by_cases c3:0≤bt o.tables t.af t.name
   ·rw [if_neg c1,if_neg c2,if_pos c3] at hz;cases hz
   ·by_cases c4:8≤within o.tables t.af
    ·rw [if_neg c1,if_neg c2,if_neg c3,if_pos c4] at hz;cases hz
    ·by_cases c5:(!fl t.au || decide (0 < t.rules.length))=true
     ·rw [if_neg c1,if_neg c2,if_neg c3,if_neg c4,if_pos c5] at hz;cases hz
     ·rw [if_neg c1,if_neg c2,if_neg c3,if_neg c4,if_neg c5]
      simp only [Bool.or_eq_true,Bool.not_eq_true',not_or,Bool.not_eq_false,decide_eq_true_eq] at c1 c5;obtain ⟨sx,hsx,esx⟩:=(l7 o.ae t.af).1 (by omega);have Au:t.rules=[]:=List.eq_nil_of_length_eq_zero (by omega)
      have hw:∀ s∈o.ae,within (cP o.tables (dP fO o.tables t) t) s.name≤8:=fun s hs=>by
       rw [Aj];have:=(g.fS s hs).2.2;by_cases e:t.af=s.name
       ·rw [e] at c4
        rw [e,cK];simp;omega
       ·rw [show aS t.af s.name=false by rw [Bool.eq_false_iff];exact fun h9=>e ((cR _ _).1 h9)];simp;exact this
      refine (dQ _).2 ⟨g.ns,?_,gV tT.tr tT.dN g.rt (GZ (by omega)),g.rs,fun s hs=>⟨(g.fS s hs).1,(g.fS s hs).2.1,hw s hs⟩,fun x hx=>?_⟩
      ·have h8:=uj (o.ae.map fK.name) (cP o.tables (dP fO o.tables t) t) (fun x hx=>by
        rcases bK.1 hx with e | e
        ·rw [e];exact List.mem_map.2 ⟨sx,hsx,esx⟩
        ·exact KJ g e) (fun n hn=>by
        obtain ⟨s,hs,rfl⟩:=List.mem_map.1 hn
        exact hw s hs)
       rw [List.length_map] at h8;have:=g.ns
       show (cP o.tables (dP fO o.tables t) t).length≤64
       omega
      ·rcases bK.1 hx with e | e
       ·rw [e]
        exact ⟨c1.1,c1.2,c5.1,by rw [Au];simp,⟨sx,hsx,esx⟩,by rw [Au];rfl,(fun r hr=>by rw [Au] at hr;cases hr),(fun r hr=>by rw [Au] at hr;cases hr)⟩
       ·have a:=g.tab x e
        exact ⟨a.nm,a.ow,a.au,a.nr,a.fS,a.kj,a.fit,fun r hr h4=>Db (fun y hy _ _=>bK.2 (.inr hy)) (a.key r hr h4)⟩
theorem xM {o:bE} {s n:ByteArray} (h:bD o=true) (hz:(fQ s n o).2=0):bD (fQ s n o).1=true:=by
 have g:=(dQ o).1 h;have hr:=aT (fun t:bW=>aS t.af s&&aS t.name n) o.tables;unfold fQ at hz ⊢;by_cases c1:bt o.tables s n < 0
 ·rw [if_pos c1] at hz;cases hz
 ·by_cases c2:Nw o s n=true
  ·rw [if_neg c1,if_pos c2] at hz;cases hz
  ·rw [if_neg c1,if_neg c2]
   obtain ⟨p,hp⟩:∃ p:Nat,bt o.tables s n=p:=⟨(bt o.tables s n).toNat,by omega⟩
   have hpl:p < o.tables.length:=by unfold bt at hp;omega
   obtain ⟨hps,Ra⟩:=rI hp hpl;rw [hp];simp only [Int.toNat_natCast];refine (dQ _).2 ⟨g.ns,Nat.le_trans (List.length_eraseIdx_le _ _) g.nt,lA tT g.rt p,g.rs,fun x hx=>?_,fun x hx=>?_⟩
   ·have:=g.fS x hx
    refine ⟨this.1,this.2.1,Nat.le_trans ?_ this.2.2⟩;unfold within;exact ((List.eraseIdx_sublist o.tables p).filter _).length_le
   ·have hxo:x∈o.tables:=List.mem_of_mem_eraseIdx hx
    have a:=g.tab x hxo;refine ⟨a.nm,a.ow,a.au,a.nr,a.fS,a.kj,a.fit,fun r hr2 h4=>Db (fun y hy e1 e2=>eQ hy fun h9 e=>?_) (a.key r hr2 h4)⟩;refine c2 (List.any_eq_true.2 ⟨(x,r),xI hxo hr2 (un h4 (by rw [← e1,e,hps]) (by rw [← e2,e,Ra])),?_⟩);obtain ⟨i,hi,hne,ei⟩:=List.mem_eraseIdx_iff_getElem.1 hx
    show (!rC s n x)=true
    rw [← ei,G2 g.rt hp hpl i hi,decide_eq_false hne];rfl
theorem rJ {α:Type} (p:α→Bool):∀ (l:List α) (i:Nat) (hi:i < l.length),p l[i]=false→(l.eraseIdx i).find? p=l.find? p
 | x::l,0,_,h=>by
  have h:p x=false:=h;rw [List.eraseIdx_cons_zero,List.find?_cons,h]
 | x::l,i+1,hi,h=>by
  rw [List.eraseIdx_cons_succ,List.find?_cons,List.find?_cons,rJ p l i (by simpa using hi) (by simpa using h)]
theorem vL {l:List dY} {i:Nat} {a:ByteArray} (hi:i < l.length) (h:l[i].name≠a):dh (l.eraseIdx i) a=dh l a:=by
 unfold dh;rw [rJ _ l i hi (by rw [Bool.eq_false_iff];exact fun e=>h ((cR _ _).1 e))]
theorem tG {l:List dY} {c:dY} {a:ByteArray} {k:Int} (h:dh l a=some k):dh (l++[c]) a=some k:=by
 unfold dh at h ⊢
 cases h1:l.find? (fun c=>aS c.name a) with
 | none=>rw [h1] at h;cases h
 | some x=>rw [List.find?_append,h1];rw [h1] at h;exact h
theorem G9 {l:List dY} {s:ByteArray} {i:Nat} (h:bO l s=i) (hi:i < l.length):l[i].name=s:=(cR _ _).1 (gF (fun c:dY=>aS c.name s) l i hi h)
theorem xN {o:bE} {s n c:ByteArray} (h:bD o=true) (hz:(fD o s n (ix c)).2=0):bD (fD o s n (ix c)).1=true:=by
 have g:=(dQ o).1 h
 refine qy h hz fun q hq hat nY=>?_
 have gq:=g.tab _ (List.getElem_mem hq);have hr:=aT (fun x:dY=>aS x.name c) o.tables[q].au;unfold ix at nY ⊢;by_cases c1:bO o.tables[q].au c < 0
 ·rw [if_pos c1] at nY;cases nY
 ·by_cases c2:G8 o.tables[q] c=true
  ·rw [if_neg c1,if_pos c2] at nY;cases nY
  ·rw [if_neg c1,if_neg c2]
   obtain ⟨p,hp⟩:∃ p:Nat,bO o.tables[q].au c=p:=⟨(bO o.tables[q].au c).toNat,by omega⟩
   have hpl:p < o.tables[q].au.length:=by unfold bO at hp;omega
   have Ra:=G9 hp hpl;rw [hp];simp only [Int.toNat_natCast];unfold G8 at c2;simp only [Bool.or_eq_true,decide_eq_true_eq,List.any_eq_true,not_or,not_exists,not_and] at c2
   have hno:∀ r∈o.tables[q].rules,∀ a∈r.au,∀ k,dh o.tables[q].au a=some k→dh (o.tables[q].au.eraseIdx p) a=some k:=fun r hr2 a ha k hk=>by
    rw [vL hpl (fun e=>c2.2 r hr2 a ha ((cR _ _).2 (by rw [← e,Ra])))];exact hk
   have d9:=(fZ _).1 gq.au;refine nX (t:={ o.tables[q] with au:=o.tables[q].au.eraseIdx p }) g hq rfl rfl rfl ?_ gq.nr gq.kj (fun r hr2=>ug (hno r hr2) (gq.fit r hr2)) (fun r hr2 h4=>l8 hq rfl rfl (hno r hr2) (fun _ _ k hk _ _=>⟨hk,hno k hk⟩) (gq.key r hr2 h4)) (fun x hx r hr2 h4=>l8 hq rfl rfl g9 (fun _ _ k hk _ _=>⟨hk,hno k hk⟩) ((g.tab x hx).key r hr2 h4));refine (fZ _).2 ⟨⟨?_,?_⟩,fun x hx=>d9.2.1 x (List.mem_of_mem_eraseIdx hx),d9.2.2.sublist (List.eraseIdx_sublist _ _)⟩
   ·show 1≤(o.tables[q].au.eraseIdx p).length
    rw [List.length_eraseIdx_of_lt hpl];have:=c2.1;have:=d9.1.1;omega
   ·show (o.tables[q].au.eraseIdx p).length≤8
    rw [List.length_eraseIdx_of_lt hpl];have:=d9.1.2;omega
theorem Av {o:bE} {s n:ByteArray} {c:dY} (h:bD o=true) (hz:(fD o s n (iW c)).2=0):bD (fD o s n (iW c)).1=true:=by
 have g:=(dQ o).1 h
 refine qy h hz fun q hq hat nY=>?_
 have gq:=g.tab _ (List.getElem_mem hq);unfold iW at nY ⊢;by_cases c1:(!iK c || !c.null)=true
 ·rw [if_pos c1] at nY;cases nY
 ·by_cases c2:0≤bO o.tables[q].au c.name
  ·rw [if_neg c1,if_pos c2] at nY;cases nY
  ·by_cases c3:8≤o.tables[q].au.length
   ·rw [if_neg c1,if_neg c2,if_pos c3] at nY;cases nY
   ·rw [if_neg c1,if_neg c2,if_neg c3]
    simp only [Bool.or_eq_true,Bool.not_eq_true',not_or,Bool.not_eq_false] at c1;have d9:=(fZ _).1 gq.au
    have hm:∀ (cs:List ByteArray),∀ a∈cs,∀ k,dh o.tables[q].au a=some k→dh (o.tables[q].au++[c]) a=some k:=fun _ a _ k hk=>tG hk
    refine nX (t:={ o.tables[q] with au:=o.tables[q].au++[c] }) g hq rfl rfl rfl ?_ gq.nr gq.kj (fun r hr2=>ug (hm r.au) (gq.fit r hr2)) (fun r hr2 h4=>l8 hq rfl rfl (hm r.au) (fun _ _ k hk _ _=>⟨hk,hm k.au⟩) (gq.key r hr2 h4)) (fun x hx r hr2 h4=>l8 hq rfl rfl g9 (fun _ _ k hk _ _=>⟨hk,hm k.au⟩) ((g.tab x hx).key r hr2 h4));refine (fZ _).2 ⟨⟨?_,?_⟩,fun x hx=>?_,?_⟩
    ·show 1≤(o.tables[q].au++[c]).length
     simp
    ·show (o.tables[q].au++[c]).length≤8
     simp;omega
    ·rcases List.mem_append.1 hx with e | e
     ·exact d9.2.1 x e
     ·rw [List.mem_singleton] at e;rw [e];exact c1.1
    ·refine List.pairwise_append.2 ⟨d9.2.2,by simp,fun a ha b hb e=>?_⟩
     rw [List.mem_singleton] at hb;subst hb;refine c2 ?_;have h9:=fx (fun x:dY=>aS x.name b.name) o.tables[q].au
     rcases Int.lt_or_le (bu (fun x:dY=>aS x.name b.name) o.tables[q].au) 0 with h0 | h0
     ·rw [if_pos h0] at h9
      exact absurd ((cR _ _).2 e) (List.find?_eq_none.1 h9 a ha)
     ·exact h0
end Go.Proofs.YtakddkhipelmjaaGreat
