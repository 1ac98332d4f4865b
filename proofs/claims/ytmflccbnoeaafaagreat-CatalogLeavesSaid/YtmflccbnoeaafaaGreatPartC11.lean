import Derived.Shelf.SlSortCmp.WholeK
import Derived.Test.YtmflccbnoeaafaaGreatPartC10
namespace Go.Proofs.YtmflccbnoeaafaaGreat
open Go.RowKit Go.Deep
set_option maxRecDepth 100000
set_option linter.unusedVariables false
set_option maxHeartbeats 64000000
theorem AO {P A X C Y:List Nat} {N:Nat} (h:(P++(A++(X++C))).Nodup) (hy:Y.Nodup) (hm:∀ g∈Y,g∈X∨N≤g) (hlt:∀ g∈P++(A++(X++C)),g < N):(P++(A++(Y++C))).Nodup:=by
 obtain ⟨hP,h1,d1⟩:=List.nodup_append.1 h;obtain ⟨hA,h2,d2⟩:=List.nodup_append.1 h1;obtain ⟨hX,hC,d3⟩:=List.nodup_append.1 h2;refine List.nodup_append.2 ⟨hP,List.nodup_append.2 ⟨hA,List.nodup_append.2 ⟨hy,hC,?_⟩,?_⟩,?_⟩
 ·intro a ha b hb e
  subst e
  rcases hm a ha with h3 | h3
  ·exact d3 a h3 a hb rfl
  ·have:=hlt a (by simp [hb]);omega
 ·intro a ha b hb e
  subst e;have hl:=hlt a (by simp [ha])
  rcases List.mem_append.1 hb with h3 | h3
  ·rcases hm a h3 with h4 | h4
   ·exact d2 a ha a (by simp [h4]) rfl
   ·omega
  ·exact d2 a ha a (by simp [h3]) rfl
 ·intro a ha b hb e
  subst e;have hl:=hlt a (by simp [ha])
  rcases List.mem_append.1 hb with h3 | h3
  ·exact d1 a ha a (by simp [h3]) rfl
  ·rcases List.mem_append.1 h3 with h3 | h3
   ·rcases hm a h3 with h4 | h4
    ·exact d1 a ha a (by simp [h4]) rfl
    ·omega
   ·exact d1 a ha a (by simp [h3]) rfl
theorem oJ {α:Type} (L:List α) (q:Nat) (hq:q < L.length):L=L.take q++(L[q]::L.drop (q+1)):=by
 have:=List.take_append_drop q L;rw [List.drop_eq_getElem_cons hq] at this;exact this.symm
theorem sL {α:Type} (L:List α) (q:Nat) (hq:q < L.length) (y:α):L.set q y=L.take q++(y::L.drop (q+1)):=by
 rw [List.set_eq_take_append_cons_drop,if_pos hq]
theorem i7 {α:Type} {L:List α} {q:Nat} {x y:α} (hq:q < L.length) (h:x∈L.set q y):x=y∨∃ i,∃ hi:i < L.length,i≠q∧x=L[i]:=by
 obtain ⟨i,hi,rfl⟩:=List.getElem_of_mem h;rw [List.length_set] at hi;by_cases e:i=q
 ·subst e;exact .inl (by simp)
 ·exact .inr ⟨i,hi,e,by rw [List.getElem_set_ne (fun h=>e h.symm)]⟩
theorem yg {P:List Nat} {L:List ay} {q i:Nat} (h:(P++L.flatMap ay.bI).Nodup) (hq:q < L.length) (hi:i < L.length) (hne:i≠q) {g:Nat} (h1:g∈L[q].bI) (h2:g∈L[i].bI):False:=by
 have h0:=(List.nodup_append.1 h).2.1;rw [oJ L q hq,List.flatMap_append,List.flatMap_cons] at h0;obtain ⟨_,h3,d1⟩:=List.nodup_append.1 h0;obtain ⟨_,_,d2⟩:=List.nodup_append.1 h3;by_cases hlt:i < q
 ·exact d1 g (List.mem_flatMap.2 ⟨L[i],by rw [List.mem_take_iff_getElem];exact ⟨i,by omega,rfl⟩,h2⟩) g (by simp [h1]) rfl
 ·refine d2 g h1 g (List.mem_flatMap.2 ⟨L[i],?_,h2⟩) rfl
  rw [List.mem_drop_iff_getElem];exact ⟨i - (q+1),by omega,by congr 1;omega⟩
theorem qF {P:List Nat} {L:List ay} {q N:Nat} {y:ay} (h:(P++L.flatMap ay.bI).Nodup) (hq:q < L.length) (hy:y.bI.Nodup) (hm:∀ g∈y.bI,g∈L[q].bI∨N≤g) (hlt:∀ g∈P++L.flatMap ay.bI,g < N):(P++(L.set q y).flatMap ay.bI).Nodup:=by
 rw [sL L q hq y,List.flatMap_append,List.flatMap_cons]
 have e:L.flatMap ay.bI=(L.take q).flatMap ay.bI++(L[q].bI++(L.drop (q+1)).flatMap ay.bI):=by
  conv=>lhs;rw [oJ L q hq]
  rw [List.flatMap_append,List.flatMap_cons]
 rw [e] at h hlt;exact AO h hy hm hlt
theorem jO {P:List Nat} {L:List ay} {q:Nat} (h:(P++L.flatMap ay.bI).Nodup) (hq:q < L.length):L[q].bI.Nodup:=by
 have h1:=(List.nodup_append.1 h).2.1;rw [oJ L q hq,List.flatMap_append,List.flatMap_cons] at h1;exact (List.nodup_append.1 (List.nodup_append.1 h1).2.1).1
theorem bC.put {w:World} {B gt q j:Nat} {hs ht:Hd} {ss:List gj} {L:List ay} {y:ay} {u:Value} (bS:w.ownsRow B 61 2 hs.v ss.length (ss.flatMap iJ)) (bB:w.ownsRow B 53 5 ht.v L.length (L.flatMap ay.cells))
  (V9:∀ i (hi:i < L.length),i≠q→dW w B L[i]) (hy:dW w B y) (xJ:(hs.blk++(ht.blk++(L.set q y).flatMap ay.bI)).Nodup) (gX:ht.a=some ⟨gt,0,none⟩) (hq:q < L.length) (hj:j < 5) (hc:y.cells=L[q].cells.set j u) :
  bC (w.setCell ⟨gt,q*5+j,none⟩ u) B hs ht ss (L.set q y):=by
 have hg:gt∈ht.blk:=by rw [Hd.au];unfold Hd.v;rw [gX];rfl
 have k:=Kb.set w gt (q*5+j) u;obtain ⟨_,n2,d1⟩:=List.nodup_append.1 xJ;obtain ⟨_,_,d2⟩:=List.nodup_append.1 n2;refine ⟨aP bS k (fun g h1 e=>d1 g (Hd.au.2 h1) g (by rw [e];simp [hg]) rfl),?_,fun x hx=>?_,xJ⟩
 ·have:=fB bB (Hd.au.1 hg) (q*5+j) u
  rw [dm (size:=5) (fun _=>rfl) L q j hq hj u y hc] at this;rw [List.length_set];exact this
 ·have hb:∀ g∈x.bI,¬ g=gt:=fun g h1 e=>d2 gt hg g (List.mem_flatMap.2 ⟨x,hx,h1⟩) e.symm
  rcases i7 hq hx with rfl | ⟨i,hi,hne,rfl⟩
  ·exact hy.kb k hb
  ·exact (V9 i hi hne).kb k hb
theorem bC.nth {w:World} {B q:Nat} {hs ht:Hd} {ss:List gj} {L:List ay} (h:bC w B hs ht ss L) (hq:q < L.length):dW w B L[q]:=h.each _ (List.getElem_mem hq)
theorem jf {a b c:List Nat}:(a++(b++c)).Nodup↔((a++b)++c).Nodup:=by rw [List.append_assoc]
theorem bC.cell {w:World} {B gt q j:Nat} {hs ht:Hd} {ss:List gj} {L:List ay} (h:bC w B hs ht ss L) (gX:ht.a=some ⟨gt,0,none⟩) (hq:q < L.length) (hj:j < 5):w.cell? ⟨gt,q*5+j,none⟩=L[q].cells[j]? := mI h.tab (fun _=>rfl) gX hq hj
theorem bC.row {w:World} {B gt q:Nat} {hs ht:Hd} {ss:List gj} {L:List ay} (h:bC w B hs ht ss L) (gX:ht.a=some ⟨gt,0,none⟩) (hq:q < L.length):gt < w.heap.size∧B≤gt∧∀ j,j < 5→w.frozen? ⟨gt,q*5+j,none⟩=false:=by
 obtain ⟨g,hg,hb,hr⟩:=jN h.tab (by omega);rw [gX] at hg;simp only [Option.some.injEq,Addr.mk.injEq,and_true] at hg;subst hg;refine ⟨hr.1,hb,fun j hj=>hr.2.2 _ ?_⟩;rw [ce (size:=5) (fun _=>rfl)];have:(q+1)*5≤L.length*5:=Nat.mul_le_mul_right _ hq;omega
theorem wu (v:ByteArray) (o:bE) (w:World) (hs ht:Hd) (L:List ay) (B n3 q gt bo:Nat) (hq:q < L.length) (uV:B≤n3) (hL:L.map ay.t=o.tables) (ob:bC w B hs ht o.ae L) (hne:∀ g∈hs.blk++(ht.blk++L.flatMap ay.bI),g≠n3)
  (r3:ap w n3 [.slice hs.a o.ae.length hs.c,.slice ht.a o.tables.length ht.c]) (gX:ht.a=some ⟨gt,0,none⟩) (c1:w.cell? ⟨bo,0,none⟩=some (.string v)) :
  Calls Tryz.prog 134 #[.agg #[.slice hs.a o.ae.length hs.c,.slice ht.a o.tables.length ht.c],.pointer (some ⟨gt,q*5,none⟩),.pointer (some ⟨bo,0,none⟩)] w (rU w B n3 hs ht o.ae L q (({ L[q].t with owner:=v }:cu),0)):=by
 obtain ⟨z1,z2,zf⟩:=ob.row gX hq;have f2:=zf 2 (by decide);have d2:w.cell? ⟨gt,q*5+2,none⟩=some (.string L[q].owner):=ob.cell gX hq (by decide);have y1:=World.block_lt_of_cell? _ _ c1
 have l1:gt < w.heap.size+1:=by omega
 have l2:bo < w.heap.size+1:=by have:bo < w.heap.size:=y1;omega
 have nT:L.length=o.tables.length:=by rw [← hL];simp
 have ut:=gH gX
 have HP:=gH (show rU w B n3 hs ht o.ae L q (({ L[q].t with owner:=v }:cu),0) (.returned (.int .i64 0)) ((w.setCell ⟨gt,q*5+2,none⟩ (.string v)).alloc (.cells #[.slice hs.a o.ae.length hs.c,.slice ht.a o.tables.length ht.c] 25)) from by
  refine ⟨rfl,((Kb.set w gt (q*5+2) (.string v)).mono (fun g _ e=>by subst e;exact z2)).trans (Kb.aH ((ag.refl _).alloc _)),fun _=>⟨{ L[q] with owner:=v },rfl,?_,?_⟩⟩
  ·refine (bC.put (j:=2) (u:=.string v) (y:={ L[q] with owner:=v }) ob.gQ ob.tab (fun i hi _=>ob.nth hi) ⟨(ob.nth hq).qp,(ob.nth hq).nw,(ob.nth hq).each⟩ ?_ gX hq (by decide) rfl).az ((ag.refl _).alloc _)
   have h0:=ob.nd;rw [jf] at h0 ⊢;refine qF (N:=w.heap.size) h0 hq (jO h0 hq) (fun g hg=>.inl hg) (fun g hg=>(ob.lt g (by rw [List.append_assoc] at hg;exact hg)).2)
  ·rw [nT]
   have hg:gt∈ht.blk:=by rw [Hd.au];unfold Hd.v;rw [gX];rfl
   exact ((Kb.set w gt (q*5+2) (.string v)).row r3 (fun e=>hne gt (by simp [hg]) e.symm)).az ((ag.refl _).alloc _))
 clear ob hL hne r3 zf gX
 go_enter Tryz.func134,Tryz.ntmps134
 go_wp2_with fail;go_ret;exact HP.out
end Go.Proofs.YtmflccbnoeaafaaGreat
namespace Go.Proofs.YtmflccbnoeaafaaGreat
open Go.RowKit
set_option maxRecDepth 100000
set_option linter.unusedVariables false
set_option maxHeartbeats 64000000
theorem AP {α:Type} (c:α→α→Int) (l:List α) (h:∀ k,1≤k→∀ (hk:k < l.length),c (l[k - 1]'(by omega)) l[k] < 0):aN c l=true :=
 (dh c l).2 fun k hk=>h (k+1) (by omega) hk
end Go.Proofs.YtmflccbnoeaafaaGreat
namespace Go.Proofs.YtmflccbnoeaafaaGreat
open Go.RowKit Go.Deep
set_option maxRecDepth 100000
set_option linter.unusedVariables false
set_option maxHeartbeats 64000000
def pF:cu:=⟨⟨#[]⟩,⟨#[]⟩,⟨#[]⟩,[],[]⟩
def rj (o:bE) (s n:ByteArray):cu × Int :=
 if bF o then (match o.tables[(bj o.tables s n).toNat]? with | some t=>if bj o.tables s n < 0 then (pF,61) else (t,0) | none=>(pF,61)) else (pF,63)
theorem G0 {o:bE} {s n:ByteArray} (h:bF o=false):rj o s n=(pF,63):=by unfold rj;rw [h];rfl
theorem sM {o:bE} {s n:ByteArray} (h:bF o=true) (hi:bj o.tables s n < 0):rj o s n=(pF,61):=by
 unfold rj;rw [h,if_pos rfl];split
 ·rw [if_pos hi]
 ·rfl
theorem oK {o:bE} {s n:ByteArray} {q:Nat} (h:bF o=true) (hi:bj o.tables s n=q) (hq:q < o.tables.length):rj o s n=(o.tables[q],0):=by
 unfold rj;rw [h,if_pos rfl,hi];simp only [Int.toNat_natCast,List.getElem?_eq_getElem hq];rw [if_neg (by omega)]
def G1 (w:World) (r:cu × Int) (e:Ending) (w':World):Prop :=
 ∃ x:ay,x.t=r.1∧e=.returned (.tuple #[.agg #[.string r.1.aa,.string r.1.name,.string r.1.owner,.slice x.hc.a r.1.ak.length x.hc.c,.slice x.hr.a r.1.rules.length x.hr.c],.int .i64 r.2])∧ag w w'∧dW w' w.heap.size x∧x.bI.Nodup
theorem sN {w w':World} {c:Int} (a:ag w w'):G1 w (pF,c) (.returned (.tuple #[.agg #[.string ⟨#[]⟩,.string ⟨#[]⟩,.string ⟨#[]⟩,.slice none 0 0,.slice none 0 0],.int .i64 c])) w' :=
 ⟨⟨⟨#[]⟩,⟨#[]⟩,⟨#[]⟩,[],[],⟨none,0,0⟩,⟨none,0,0⟩⟩,rfl,rfl,a,⟨dl _ _ _ _,dl _ _ _ _,fun x hx=>by simp at hx⟩,by simp [ay.bI,i6]⟩
theorem jg {w:World} {b:Nat} {xs:List Value} (h:ap w b xs) (hl:xs.length=5) (v0 v1 v2 v3 v4:Value):ap (((((w.setCell ⟨b,0,none⟩ v0).setCell ⟨b,1,none⟩ v1).setCell ⟨b,2,none⟩ v2).setCell ⟨b,3,none⟩ v3).setCell ⟨b,4,none⟩ v4) b [v0,v1,v2,v3,v4]:=by
 match xs,hl with
 | [a,b,c,d,e],_=>exact ((((h.set 0 _ (by simp)).set 1 _ (by simp)).set 2 _ (by simp)).set 3 _ (by simp)).set 4 _ (by simp)
theorem i9 (w:World) (b:Nat) (v0 v1 v2 v3 v4:Value):Kb (fun g=>g=b) w (((((w.setCell ⟨b,0,none⟩ v0).setCell ⟨b,1,none⟩ v1).setCell ⟨b,2,none⟩ v2).setCell ⟨b,3,none⟩ v3).setCell ⟨b,4,none⟩ v4) :=
 ((((Kb.set _ _ _ _).trans (Kb.set _ _ _ _)).trans (Kb.set _ _ _ _)).trans (Kb.set _ _ _ _)).trans (Kb.set _ _ _ _)
theorem Dq (o:bE) (As:Option Addr) (ar:Nat) (At:Option Addr) (ax:Nat) (s n:ByteArray) (w:World) (bS:aL w 2 fk As ar o.ae) (bB:aL w 5 dA At ax o.tables) :
  Calls Tryz.prog 21 #[.agg #[.slice As o.ae.length ar,.slice At o.tables.length ax],.string s,.string n] w (G1 w (rj o s n)):=by
 have hlen:=bS.len;have fl:=bB.len
 have l1:w.heap.size < w.heap.size+1:=by omega
 have l2:w.heap.size < w.heap.size+1+1:=by omega
 obtain ⟨W,hW⟩:∃ W,W=(w.alloc (.cells #[.slice As o.ae.length ar,.slice At o.tables.length ax] 25)).alloc (.cells #[.string ⟨#[]⟩,.string ⟨#[]⟩,.string ⟨#[]⟩,.slice none 0 0,.slice none 0 0] 53):=⟨_,rfl⟩
 have aW:ag w W:=by rw [hW];exact ((ag.refl w).alloc _).alloc _
 have r1:ap W w.heap.size [.slice As o.ae.length ar,.slice At o.tables.length ax]:=by rw [hW];exact (aO (ag.refl _)).az ((ag.refl _).alloc _)
 have r2:ap W (w.heap.size+1) [.string ⟨#[]⟩,.string ⟨#[]⟩,.string ⟨#[]⟩,.slice none 0 0,.slice none 0 0]:=by
  rw [hW];have:=(aO (w:=w.alloc (.cells #[.slice As o.ae.length ar,.slice At o.tables.length ax] 25)) (c:=[.string ⟨#[]⟩,.string ⟨#[]⟩,.string ⟨#[]⟩,.slice none 0 0,.slice none 0 0]) (t:=53) (ag.refl _))
  simpa using this
 have zW:W.heap.size=w.heap.size+2:=by rw [hW];simp
 obtain ⟨c,hc⟩:∃ c,bF o=c:=⟨_,rfl⟩;obtain ⟨i,hi⟩:∃ i,bj o.tables s n=i:=⟨_,rfl⟩
 have ye : -1≤i∧i < o.tables.length:=by rw [← hi];exact bg _ _
 have CK:=gH (show ∀ w',ag w w'→Calls Tryz.prog 42 #[.agg #[.slice As o.ae.length ar,.slice At o.tables.length ax]] w' fun e w''=>e=.returned (.int .i64 (if c=true then 0 else 63))∧ag w' w'' from
  fun w' a=>(lg o As ar At ax w' (bm a bS) (aQ a bB)).mono fun e w'' ⟨he,hw⟩=>⟨he.trans (by unfold eK;rw [hc]),hw⟩)
 have CW:=gH (show ∀ w',ag w w'→Calls Tryz.prog 43 #[.agg #[.slice As o.ae.length ar,.slice At o.tables.length ax],.string s,.string n] w' fun e w''=>e=.returned (.tuple #[.int .i64 i,.bool (decide (0≤i))])∧ag w' w'' from
  fun w' a=>(jL (.slice As o.ae.length ar) At ax o.tables s n w' (aQ a bB)).mono fun e w'' ⟨he,hw⟩=>⟨he.trans (by rw [hi]),hw⟩)
 have HC:=gH hc;have HI:=gH hi;have HT:=gH bB;have br:=gH aW;have qs:=gH r1;have mB:=gH r2;have HZ:=gH zW;clear hc hi bS bB r1 r2 aW zW
 go_enter Tryz.func21,Tryz.ntmps21
 go_wp2_with fail;rw [← hW];clear hW;refine (CK.out W br.out).mono ?_;rintro e w1 ⟨rfl,a1⟩;have b2:=mB.out.az a1;have d0:=b2.cell (j:=0) rfl;have d1:=b2.cell (j:=1) rfl;have d2:=b2.cell (j:=2) rfl;have d3:=b2.cell (j:=3) rfl;have d4:=b2.cell (j:=4) rfl;have f0:=b2.2.2 0 (by simp);have f1:=b2.2.2 1 (by simp);have f2:=b2.2.2 2 (by simp);have f3:=b2.2.2 3 (by simp);have f4:=b2.2.2 4 (by simp);have z2:=b2.1;have cG:=gH (br.out.trans a1);have n7:=gH b2;have b1:=qs.out.az a1;have c0:=b1.cell (j:=0) rfl;have c1:=b1.cell (j:=1) rfl;have z1:=b1.1;have ui:=gH b1;have nS:=gH (show w.heap.size+2≤w1.heap.size by have:=a1.size;have:=HZ.out;omega);clear a1 b2 b1
 cases c
 ·go_wp2_with fail
  refine bodyPost_ret (results_cell_tmp (v:=.agg #[.string ⟨#[]⟩,.string ⟨#[]⟩,.string ⟨#[]⟩,.slice none 0 0,.slice none 0 0]) rfl _ rfl ?hl) rfl ?_
  case hl=>exact jP (jg n7.out rfl _ _ _ _ _)
  rw [G0 HC.out];exact sN ((i9 _ _ _ _ _ _ _).aZ cG.out (fun g hg e=>by omega))
 ·go_wp2_with fail
  refine (CW.out w1 cG.out).mono ?_;rintro e w2 ⟨rfl,a2⟩;have b2:=n7.out.az a2;have d0:=b2.cell (j:=0) rfl;have d1:=b2.cell (j:=1) rfl;have d2:=b2.cell (j:=2) rfl;have d3:=b2.cell (j:=3) rfl;have d4:=b2.cell (j:=4) rfl;have f0:=b2.2.2 0 (by simp);have f1:=b2.2.2 1 (by simp);have f2:=b2.2.2 2 (by simp);have f3:=b2.2.2 3 (by simp);have f4:=b2.2.2 4 (by simp);have z2:=b2.1;have fx:=gH (cG.out.trans a2);have Sp:=gH b2;have b1:=ui.out.az a2;have c1:=b1.cell (j:=1) rfl;have z1:=b1.1;have mG:=gH (show w.heap.size+2≤w2.heap.size by have:=a2.size;have:=nS.out;omega);clear a2 b2 b1;by_cases h0:0≤i
  ·obtain ⟨q,rfl⟩:=Int.eq_ofNat_of_zero_le h0
   have hq:q < o.tables.length:=by omega
   obtain ⟨b,off,A2,bT,A3,fA,rfl,hb,t0,t1,t2,t3,t4,eA,mf,ur⟩:=jt (aQ fx.out HT.out) hq
   have hd:decide (0≤(q:Int))=true:=by simp
   have CP:=gH (qA o.tables[q] A2 bT A3 fA w2 eA mf (by have:=(jM HC.out).2.2 o.tables[q] (List.getElem_mem hq);exact this));have HE:=gH (oK HC.out HI.out hq);obtain ⟨p,hp⟩:∃ p,o.tables[q]=p:=⟨_,rfl⟩;rw [hp] at t0 t1 t2 t3 t4 CP HE;clear hp eA mf ur h0 ye;go_wp2_with fail;refine CP.out.mono ?_;rintro e w3 ⟨x,hx,rfl,a3,rR,Dk⟩;have b2:=Sp.out.az a3;have d0:=b2.cell (j:=0) rfl;have d1:=b2.cell (j:=1) rfl;have d2:=b2.cell (j:=2) rfl;have d3:=b2.cell (j:=3) rfl;have d4:=b2.cell (j:=4) rfl;have f0:=b2.2.2 0 (by simp);have f1:=b2.2.2 1 (by simp);have f2:=b2.2.2 2 (by simp);have f3:=b2.2.2 3 (by simp);have f4:=b2.2.2 4 (by simp);have z2:=b2.1;have iw:=gH (fx.out.trans a3);have mq:=gH b2;have Vc:=gH rR;have HX:=gH hx;have HN:=gH Dk;clear a3 b2 rR hx Dk;go_wp2_with fail;refine bodyPost_ret (results_cell_tmp (v:=.agg #[.string p.aa,.string p.name,.string p.owner,.slice x.hc.a p.ak.length x.hc.c,.slice x.hr.a p.rules.length x.hr.c]) rfl _ rfl ?hl) rfl ?_
   case hl=>exact jP (jg mq.out rfl _ _ _ _ _)
   rw [HE.out];refine ⟨x,HX.out,rfl,(i9 _ _ _ _ _ _ _).aZ iw.out (fun g hg e=>by omega),?_,HN.out⟩;have hz2:=mG.out;refine dW.down (Vc.out.kb (i9 _ _ _ _ _ _ _) fun g hg e=>?_) (show w.heap.size≤w2.heap.size by omega);have:=(Vc.out.lt g hg).1;omega
  ·have hd:decide (0≤i)=false:=by simpa using h0
   go_wp2_with fail;refine bodyPost_ret (results_cell_tmp (v:=.agg #[.string ⟨#[]⟩,.string ⟨#[]⟩,.string ⟨#[]⟩,.slice none 0 0,.slice none 0 0]) rfl _ rfl ?Q0) rfl ?_
   case Q0=>exact jP (jg Sp.out rfl _ _ _ _ _)
   rw [sM HC.out (by rw [HI.out];omega)];exact sN ((i9 _ _ _ _ _ _ _).aZ fx.out (fun g hg e=>by omega))
end Go.Proofs.YtmflccbnoeaafaaGreat
namespace Go.Proofs.YtmflccbnoeaafaaGreat
open Go.RowKit Go.Deep Go.Shelf Go.Sort
set_option maxRecDepth 100000
set_option linter.unusedVariables false
set_option maxHeartbeats 64000000
section
variable {α : Type} [Inhabited α]
theorem sO (f:α→List Value) (k:Nat) (hk:∀ x,(f x).length=k) (d:Array α):(flatK f k d).toList=d.toList.flatMap f:=by
 have hl:(d.toList.flatMap f).length=d.size*k:=by rw [ce hk];simp
 refine List.ext_getElem (by simp [flatK,hl]) fun t h1 h2=>?_
 have ht:t < d.size*k:=by rw [← hl];exact h2
 have k0:0 < k:=by
  rcases Nat.eq_zero_or_pos k with h | h
  ·subst h;simp at ht
  ·exact h
 have hd:t / k < d.size:=Nat.div_lt_of_lt_mul (by rw [Nat.mul_comm];exact ht);have hm:t % k < k:=Nat.mod_lt _ k0;have e:=py (size:=k) (d.toList.map f) (by simp [hk]) (t / k) (t % k) (by simpa using hd) hm;rw [← List.flatMap_def,Nat.div_add_mod' t k] at e;rw [List.getElem?_eq_getElem h2] at e;have e2:(flatK f k d)[t]! = (f d[t / k]!)[t % k]! := get_flatK f k d t ht;rw [getElem!_pos _ t (by rw [size_flatK];exact ht),getElem!_pos d _ hd,getElem!_pos _ _ (by rw [hk];exact hm)] at e2;rw [Array.getElem_toList,e2];simp only [List.getElem_map,Array.getElem_toList] at e;rw [List.getElem?_eq_getElem (by rw [hk];exact hm)] at e;exact (Option.some.inj e).symm
theorem ww (F G:Array Value) (h:F.size=G.size):setMany F 0 G.toList=G:=by
 refine ext_get! (by rw [size_setMany];exact h) fun t ht=>?_
 rw [size_setMany] at ht;rw [get_setMany _ _ _ _ ht,if_pos ⟨Nat.zero_le _,by simpa using (by omega:t < G.size)⟩];simp;rw [getElem!_pos G t (by omega)];simp [List.getElem!_eq_getElem?_getD,Array.getElem?_eq_getElem (show t < G.size by omega)]
theorem pG (w:World) (blk:Nat) (F G:Array Value) (h:Holds id w blk 0 F) (hs:F.size=G.size):putRow id w blk 0 G=w.setCells blk 0 G.toList:=by
 have h1:=putRow_self id w blk 0 F h;have h2:=setCells_putRow w blk 0 G.toList 0 F (by simp [hs]);rw [h1,ww F G hs] at h2;exact h2.symm
theorem AQ {w:World} {B k cap blk:Nat} {e:TypeId} (f:α→List Value) (hk:∀ x,(f x).length=k) (l:List α) (h0:0 < l.length) (ho:w.ownsRow B e k (.slice (some ⟨blk,0,none⟩) l.length cap) l.length (l.flatMap f)):HoldsK f k w blk 0 l.toArray:=by
 obtain ⟨g,cap',hv,hB,mo,hr⟩:=aR ho h0
 have:g=blk:=by simp only [Value.slice.injEq,Option.some.injEq,Addr.mk.injEq] at hv;exact hv.1.1.symm
 subst this;intro j hj;rw [size_flatK] at hj
 have hj':j < (l.flatMap f).length:=by rw [ce hk];simpa using hj
 have e1:=sO f k hk l.toArray;refine ⟨?_,by rw [Nat.zero_add];exact hr.2.2 j hj'⟩;rw [Nat.zero_add,hr.2.1 j hj',id,getElem!_pos _ j (by rw [size_flatK];exact hj),← Array.getElem_toList,List.getElem?_eq_getElem hj']
 congr 1
 exact (List.getElem_of_eq e1 _).symm
theorem uW (w:World) (n:Nat):ag w (Go.Sort.ahead w n):=⟨rfl,rfl,rfl,Nat.le_refl _,fun _ _=>rfl⟩
theorem sP (w:World) (os:Array Obj):ag w (grow w os):=⟨rfl,rfl,rfl,by simp,fun k hk=>heap_grow_old w os hk⟩
def gK (e:TypeId) (k:Nat) (f:α→List Value) (cf:α→α→Int) (w:World) (B blk cap:Nat) (l:List α) (x:Ending) (w':World):Prop :=
 x=.returned (.tuple #[])∧∃ l':List α,l'.Perm l∧(∀ i j (hi:i < l'.length) (hj:j < l'.length),i < j→¬ cf l'[j] l'[i] < 0)∧w'.ownsRow B e k (.slice (some ⟨blk,0,none⟩) l.length cap) l.length (l'.flatMap f)∧Kb (fun j=>j=blk) w w'
theorem pH {P:Program} {ρ:Ren} (L:SlLaysF0.n6 P ρ) (k:Nat) (aE:∀ w,(isAgg (ρ.t 24)).run P w=.ok true w) (zE:∀ w,(Go.sizeOf (ρ.t 24)).run P w=.ok k w) (f:α→List Value) (hk:∀ x,(f x).length=k) (h1:∀ x,∀ v∈f x,v.oneCell'=true) (cf:α→α→Int) (hO:SWO (ltOf cf)) (g:Nat) (cb:Array Value)
  (e:TypeId) (B blk cap:Nat) (l:List α) (h0:0 < l.length) (hsz:l.length≤1000000) (w:World) (ho:w.ownsRow B e k (.slice (some ⟨blk,0,none⟩) l.length cap) l.length (l.flatMap f)) (eg:∀ args w,(callFunc g args).run P w=.ok (.enter g args) w)
  (hc:∀ W x y,Calls P g (#[.agg (f x).toArray,.agg (f y).toArray]++cb) W fun e w'=>e=.returned (.int .i64 (cf x y))∧∃ q os',w'=grow (W.drewN q) os') :
  Calls P (ρ.f 6) #[.slice (some ⟨blk,0,none⟩) l.length cap,.func (.func g) #[] cb] w (gK e k f cf w B blk cap l):=by
 have hH:=AQ f hk l h0 ho;have hb:blk < w.heap.size:=(ho.lt blk rfl).2;refine (AnyQ.slices_SortFunc L k aE zE f hk h1 cf hO g cb blk 0 cap l.toArray w eg (fun m os dk _ x y=>hc _ x y) hH hb (by simp;omega)).mono ?_;rintro x w' ⟨rfl,d',n,os,hp,hs,rfl⟩
 have hsize:d'.size=l.length:=by have:=hp.1;simpa using this
 have Sq:∀ d:Array α,d.size=l.length→(d.extract 0 l.toArray.size).toList=d.toList:=fun d hd=>by simp [← hd]
 refine ⟨rfl,d'.toList,?_,fun i j hi hj px=>?_,?_,?_⟩
 ·have:=hp.2.2
  rw [Sq d' hsize,Sq l.toArray (by simp)] at this
  simpa using this
 ·have qB:j < d'.size:=by simpa using hj
  have:=hs i j (Nat.zero_le _) px (by simp;omega);rw [getElem!_pos d' j qB,getElem!_pos d' i (by omega)] at this
  simpa [ltOf] using this
 ·unfold sortWorldK putRowK
  rw [pG (Go.Sort.ahead w n) blk (flatK f k l.toArray) (flatK f k d') (holdsK_ahead f k w n blk 0 l.toArray hH) (by simp [hsize])];refine bu ?_ (sP _ os);have h2:=bG (v:=.slice (some ⟨blk,0,none⟩) l.length cap) (g:=blk) rfl (flatK f k d').toList 0 (bu ho (uW w n));rw [lF _ _ _ (by simp [ce hk,hsize])] at h2;rw [sO f k hk] at h2 ⊢
  have e3:(d'.toList.flatMap f).length=(l.flatMap f).length:=by rw [ce hk,ce hk];simp [hsize]
  rw [List.take_zero,List.nil_append,Nat.zero_add,e3,List.drop_length,List.append_nil] at h2;exact h2
 ·unfold sortWorldK putRowK
  rw [pG (Go.Sort.ahead w n) blk (flatK f k l.toArray) (flatK f k d') (holdsK_ahead f k w n blk 0 l.toArray hH) (by simp [hsize])];exact ((Kb.aH (uW w n)).trans (bA blk _ _ _)).trans (Kb.aH (sP _ os))
end
theorem sQ {α:Type} {c:α→α→Int} (tr:∀ a b d,c a b < 0→c b d < 0→c a d < 0) (dU:∀ a b,c a b = - c b a) {L l':List α} (hL:∀ i j (hi:i < L.length) (hj:j < L.length),i < j→c L[i] L[j] < 0) (hp:l'.Perm L) (hs:∀ i j (hi:i < l'.length) (hj:j < l'.length),i < j→¬ c l'[j] l'[i] < 0):l'=L:=by
 have hw:L.Pairwise fun a b=>c a b < 0:=List.pairwise_iff_getElem.2 fun i j hi hj px=>hL i j hi hj px
 have hne:∀ a∈L,∀ b∈L,c a b=0→a=b:=fun a ha b hb e=>by
  obtain ⟨i,hi,rfl⟩:=List.getElem_of_mem ha;obtain ⟨j,hj,rfl⟩:=List.getElem_of_mem hb
  rcases Nat.lt_trichotomy i j with h | h | h
  ·have:=hL i j hi hj h;omega
  ·subst h;rfl
  ·have:=hL j i hj hi h;have:=dU L[j] L[i];omega
 have hle:l'.Pairwise fun a b=>c a b≤0:=List.pairwise_iff_getElem.2 fun i j hi hj px=>by
  have h1:=hs i j hi hj px;have h2:=dU l'[i] l'[j];omega
 exact List.Perm.eq_of_pairwise (le:=fun a b=>c a b≤0) (fun a b ha hb h1 h2=>hne a (hp.subset ha) b hb (by have:=dU a b;omega)) hle (hw.imp fun h=>Int.le_of_lt h) hp
theorem pI {α:Type} {c:α→α→Int} (tr:∀ a b d,c a b < 0→c b d < 0→c a d < 0) (dU:∀ a b,c a b = - c b a) {l l':List α} {x:α} (hr:aN c l=true) (hn:∀ y∈l,c y x≠0) (hp:l'.Perm (l++[x])) (hs:∀ i j (hi:i < l'.length) (hj:j < l'.length),i < j→¬ c l'[j] l'[i] < 0):l'=bQ l (cN c l x) x:=by
 have hi:=iT tr dU hr hn;refine sQ tr dU (fun i j hi' hj px=>eh tr hi i j hi' hj px) (hp.trans ?_) hs;unfold bQ;have h1:(l++[x]).Perm ([x]++l):=List.perm_append_comm;have h2:(l.take (cN c l x)++[x]).Perm ([x]++l.take (cN c l x)):=List.perm_append_comm;refine h1.trans (List.Perm.trans ?_ (h2.append_right _).symm);rw [List.append_assoc,List.take_append_drop]
end Go.Proofs.YtmflccbnoeaafaaGreat
namespace Go.Proofs.YtmflccbnoeaafaaGreat
open Go.RowKit
set_option maxRecDepth 100000
set_option linter.unusedVariables false
set_option maxHeartbeats 64000000
structure cB where
 aa:ByteArray
 table:ByteArray
 right:Int
 aC:ByteArray
 to:ByteArray
 opt:Bool
def cC (g:cB):List Value:=[.string g.aa,.string g.table,.int .i64 g.right,.string g.aC,.string g.to,.bool g.opt]
def oL (g:cB):Prop:=Small g.aa.size∧Small g.table.size∧Small g.aC.size∧Small g.to.size∧(Lit.int .i64 g.right).wf=true
def mr (_:World) (cs:List Value) (g:cB):Prop:=cs=cC g∧oL g
structure bW where
 aA:Int
 version:Int
 ai:bE
 aj:fX
 af:List cB
def sR (a b:Int):Int:=if a < b then -1 else if b < a then 1 else 0
def cS (a b:cB):Int:=iQ (bw a.aa b.aa) (iQ (bw a.table b.table) (iQ (sR a.right b.right) (iQ (bw a.aC b.aC) (bw a.to b.to))))
def jZ (a b:cB):Bool:=bk a.aa b.aa&&(bk a.table b.table&&((a.right==b.right)&&(bk a.aC b.aC&&bk a.to b.to)))
def fd (g:cB):ByteArray × ByteArray × Int × ByteArray × ByteArray:=(g.aa,g.table,g.right,g.aC,g.to)
structure mJ {α:Type} (c:α→α→Int):Prop where
 dU:∀ a b,c a b = - c b a
 le:∀ a b d,c a b≤0→c b d≤0→c a d≤0∧(c a d=0→c a b=0∧c b d=0)
theorem pJ (x y:Int):iQ x y=0↔x=0∧y=0:=by
 unfold iQ;by_cases h:x=0
 ·subst h;simp
 ·have:(x==0)=false:=by simpa using h
  rw [this];simp [h]
theorem AR (x y:Int):iQ x y≤0↔x < 0∨(x=0∧y≤0):=by
 unfold iQ;by_cases h:x=0
 ·subst h;simp
 ·have:(x==0)=false:=by simpa using h
  rw [this];simp only [Bool.false_eq_true,if_false];omega
theorem KD (x y:Int):iQ (-x) (-y) = - iQ x y:=by
 unfold iQ;by_cases h:x=0
 ·subst h;simp
 ·have h1:(x==0)=false:=by simpa using h
  have h2:(-x==0)=false:=by simpa using h
  rw [h1,h2];simp
theorem mJ.iQ {α:Type} {c d:α→α→Int} (hc:mJ c) (hd:mJ d):mJ fun a b=>iQ (c a b) (d a b) where
 dU a b:=by
  show Go.Proofs.YtmflccbnoeaafaaGreat.iQ (c a b) (d a b) = - Go.Proofs.YtmflccbnoeaafaaGreat.iQ (c b a) (d b a)
  rw [hc.dU a b,hd.dU a b,KD]
 le x y z h1 h2:=by
  have h1:=(AR _ _).1 h1;have h2:=(AR _ _).1 h2;have k:=hc.le x y z (by omega) (by omega);rw [AR,pJ,pJ,pJ];by_cases e:c x z=0
  ·obtain ⟨e1,e2⟩:=k.2 e
   have m:=hd.le x y z (by omega) (by omega);exact ⟨.inr ⟨e,m.1⟩,fun h=>⟨⟨e1,(m.2 h.2).1⟩,⟨e2,(m.2 h.2).2⟩⟩⟩
  ·exact ⟨.inl (by omega),fun h=>absurd h.1 e⟩
theorem mJ.on {α β:Type} {c:α→α→Int} (h:mJ c) (f:β→α):mJ fun a b=>c (f a) (f b):=⟨fun a b=>h.dU _ _,fun a b d=>h.le _ _ _⟩
theorem mJ.Vd {α:Type} {c:α→α→Int} (h:uu c):mJ c where
 dU:=h.dU
 le a b d h1 h2:=by
  by_cases e1:c a b=0
  ·have:=h.Og _ _ e1;subst this
   exact ⟨h2,fun e=>⟨h.refl _,e⟩⟩
  ·by_cases e2:c b d=0
   ·have:=h.Og _ _ e2;subst this
    exact ⟨h1,fun e=>⟨e,h.refl _⟩⟩
   ·have:=h.tr a b d (by omega) (by omega)
    exact ⟨by omega,fun e=>by omega⟩
theorem mJ.lt {α:Type} {c:α→α→Int} (h:mJ c) (a b d:α) (h1:c a b < 0) (h2:c b d < 0):c a d < 0:=by
 have k:=h.le a b d (by omega) (by omega);by_cases e:c a d=0
 ·have:=(k.2 e).1;omega
 ·omega
theorem Wa:mJ sR:=⟨fun a b=>by unfold sR;split<;>split<;>omega,fun a b d=>by unfold sR;split<;>split<;>split<;>(try split)<;>(try split)<;>omega⟩
theorem mK:mJ cS:=((mJ.Vd rX).on cB.aa).iQ (((mJ.Vd rX).on cB.table).iQ ((Wa.on cB.right).iQ (((mJ.Vd rX).on cB.aC).iQ ((mJ.Vd rX).on cB.to))))
theorem EI (a b:Int):sR a b=0↔(a==b)=true:=by
 unfold sR;rw [beq_iff_eq]
 split
 ·constructor<;>intro h<;>omega
 ·split<;>constructor<;>intro h<;>omega
theorem jQ (a b:cB):cS a b=0↔jZ a b=true:=by
 unfold cS jZ;simp only [pJ,Bool.and_eq_true,gu,EI]
theorem gL (a b:cB):jZ a b=true↔fd a=fd b:=by
 unfold jZ fd;simp only [Bool.and_eq_true,kB,beq_iff_eq,Prod.mk.injEq]
theorem AU (a b:cB):jZ a b=jZ b a:=by
 rw [Bool.eq_iff_iff,gL,gL];exact eq_comm
def mv (l:List cB) (g:cB):Bool:=l.any fun x=>jZ x g
theorem sq (l:List cB) (g:cB):mv l g=true↔fd g∈l.map fd:=by
 unfold mv;rw [List.any_eq_true,List.mem_map];exact ⟨fun ⟨x,hx,h⟩=>⟨x,hx,(gL _ _).1 h⟩,fun ⟨x,hx,h⟩=>⟨x,hx,(gL _ _).2 h⟩⟩
def dL:ByteArray:=⟨#[114,111,111,116]⟩
def iK (o:bE) (s n:ByteArray):cu:=if bj o.tables s n < 0 then pF else (o.tables[(bj o.tables s n).toNat]?).getD pF
def oa (o:bE) (s:ByteArray):ByteArray:=if cE o.ae s < 0 then ⟨#[]⟩ else ((o.ae[(cE o.ae s).toNat]?).map gj.owner).getD ⟨#[]⟩
def jA (o:bE) (is:List ByteArray) (t:cu):Bool:=is.any fun r=>bk r dL || bk r t.owner || bk r (oa o t.aa)
def fC (l:List cB) (is:List ByteArray) (s n:ByteArray) (r:Int) (option:Bool):Bool:=l.any fun g=>bk g.aa s&&bk g.table n&&(g.right==r)&&(g.opt || !option)&&dQ is g.to
def lh (r:Int):Bool:=r==1 || r==2
def iM (c:bW) (g:cB):Bool:=decide (0≤bj c.ai.tables g.aa g.table)&&lh g.right&&!bk g.aC g.to&&dQ c.aj.names g.aC&&dQ c.aj.names g.to
def iA (c:bW):Bool:=c.ai.ae.all (fun s=>dQ c.aj.names s.owner)&&c.ai.tables.all (fun t=>dQ c.aj.names t.owner)
noncomputable def bM (c:bW):Bool:=decide (c.af.length≤64)&&bF c.ai&&bN c.aj&&dQ c.aj.names dL&&iA c&&(c.af.all (iM c)&&aN cS c.af)
noncomputable def fM (c:bW) (l:List cB) (g:cB):Bool:=jA c.ai (cT c.aj g.aC) (iK c.ai g.aa g.table) || fC l (cT c.aj g.aC) g.aa g.table g.right true
inductive Held (c:bW):cB→Prop
 | mk (g:cB) (l:List cB):g∈c.af→(∀ x∈l,Held c x)→fM c l g=true→Held c g
open Classical in
noncomputable def oc (c:bW) (g:cB):Bool:=decide (Held c g)
open Classical in
theorem iU {c:bW} {g:cB}:oc c g=true↔Held c g:=by unfold oc;exact decide_eq_true_iff
noncomputable def cH (c:bW):List cB:=if bM c then c.af.filter (oc c) else []
noncomputable def dH (c:bW):Bool:=bM c&&((cH c).length==c.af.length)
theorem yh {l l':List cB} (h:∀ x∈l,x∈l') {is:List ByteArray} {s n:ByteArray} {r:Int} {o:Bool} (hg:fC l is s n r o=true):fC l' is s n r o=true:=by
 unfold fC at hg ⊢;rw [List.any_eq_true] at hg ⊢;obtain ⟨x,hx,e⟩:=hg;exact ⟨x,h x hx,e⟩
theorem AV {c:bW} {l l':List cB} (h:∀ x∈l,x∈l') {g:cB} (hg:fM c l g=true):fM c l' g=true:=by
 unfold fM at hg ⊢;rw [Bool.or_eq_true] at hg ⊢;exact hg.imp id (yh h)
theorem Held.mem {c:bW} {g:cB} (h:Held c g):g∈c.af:=by cases h;assumption
structure kD (c:bW) (l:List cB):Prop where
 sub:∀ x∈l,Held c x
 nd:(l.map fd).Nodup
theorem kD.nil (c:bW):kD c []:=⟨fun x hx=>by simp at hx,by simp⟩
theorem kD.add {c:bW} {l:List cB} (h:kD c l) {g:cB} (hg:g∈c.af) (hn:mv l g=false) (hj:fM c l g=true):kD c (l++[g]):=by
 refine ⟨fun x hx=>?_,?_⟩
 ·rcases List.mem_append.1 hx with hx | hx
  ·exact h.sub x hx
  ·rw [List.mem_singleton] at hx;subst hx
   exact .mk x l hg h.sub hj
 ·rw [List.map_append,List.nodup_append]
  refine ⟨h.nd,by simp,fun a ha b hb e=>?_⟩;simp at hb;subst hb;subst e;have:=(sq l g).2 ha;rw [hn] at this;cases this
theorem kD.len {c:bW} {l:List cB} (h:kD c l):l.length≤c.af.length:=by
 have:=sS (l:=l.map fd) (l':=c.af.map fd) h.nd fun x hx=>by
  obtain ⟨y,hy,rfl⟩:=List.mem_map.1 hx;exact List.mem_map.2 ⟨y,(h.sub y hy).mem,rfl⟩
 simpa using this
theorem sU {l:List cB} (h:aN cS l=true):∀ x∈l,∀ y∈l,fd x=fd y→x=y:=fun x hx y hy e=>by
 obtain ⟨i,hi,rfl⟩:=List.getElem_of_mem hx;obtain ⟨j,hj,rfl⟩:=List.getElem_of_mem hy;have e0:cS l[i] l[j]=0:=(jQ _ _).2 ((gL _ _).2 e)
 rcases Nat.lt_trichotomy i j with h1 | h1 | h1
 ·have:=eh mK.lt h i j hi hj h1;omega
 ·subst h1;rfl
 ·have:=eh mK.lt h j i hj hi h1
  have:=mK.dU l[i] l[j];omega
theorem kD.all {c:bW} {l:List cB} (h:kD c l) (hr:aN cS c.af=true) (hc:∀ g∈c.af,mv l g=false→fM c l g=false) (g:cB) (hg:g∈c.af):mv l g=true↔Held c g:=by
 have mem:∀ g∈c.af,mv l g=true→g∈l:=fun g hg hi=>by
  obtain ⟨y,hy,e⟩:=List.mem_map.1 ((sq _ _).1 hi);have:=sU hr _ ((h.sub y hy).mem) _ hg e;rw [← this];exact hy
 constructor
 ·exact fun hi=>h.sub g (mem g hg hi)
 ·intro hh
  induction hh with
  | mk g m hg _ hj ih =>
   by_cases hi:mv l g=true
   ·exact hi
   ·rw [Bool.not_eq_true] at hi
    have h1:=hc g hg hi
    have h2:=AV (l':=l) (fun x hx=>mem x (by
     have:=ih x hx;rename_i hall
     exact (hall x hx).mem) (ih x hx (by rename_i hall;exact (hall x hx).mem))) hj
    rw [h1] at h2;cases h2
theorem uX {α:Type}:∀ {l L:List α},l.Nodup→L.Nodup→(∀ x,x∈l↔x∈L)→l.Perm L
 | [],L,_,_,h=>by
  cases L with
  | nil=>exact .nil
  | cons a L=>have:=(h a).2 (by simp);simp at this
 | a::l,L,hl,hL,h=>by
  obtain ⟨A,B,rfl⟩:=List.append_of_mem ((h a).1 (by simp));have hl':=List.nodup_cons.1 hl;have hp:(A++a::B).Perm (a::(A++B)):=List.perm_middle;have Nc:=List.nodup_cons.1 ((hp.nodup_iff).1 hL);refine (List.Perm.cons a (uX hl'.2 Nc.2 fun x=>?_)).trans hp.symm;have hx:=h x;rw [hp.mem_iff,List.mem_cons,List.mem_cons] at hx
  constructor
  ·intro hm
   rcases hx.1 (.inr hm) with e | e
   ·subst e;exact absurd hm hl'.1
   ·exact e
  ·intro hm
   rcases hx.2 (.inr hm) with e | e
   ·subst e;exact absurd hm Nc.1
   ·exact e
theorem uv {l:List cB} (h:(l.map fd).Nodup):l.Nodup:=by
 induction l with
 | nil=>simp
 | cons a l ih =>
  rw [List.map_cons,List.nodup_cons] at h;exact List.nodup_cons.2 ⟨fun hm=>h.1 (List.mem_map.2 ⟨a,hm,rfl⟩),ih h.2⟩
theorem wy {l:List cB} (h:aN cS l=true):l.Nodup:=by
 rw [List.nodup_iff_pairwise_ne,List.pairwise_iff_getElem];intro i j hi hj px e;have:=eh mK.lt h i j hi hj px;rw [e] at this;have:=mK.dU l[j] l[j];omega
theorem kD.sorted {c:bW} {l l':List cB} (h:kD c l) (hr:aN cS c.af=true) (hc:∀ g∈c.af,mv l g=false→fM c l g=false) (hp:l'.Perm l) (hs:∀ i j (hi:i < l'.length) (hj:j < l'.length),i < j→¬ cS l'[j] l'[i] < 0):l'=c.af.filter (oc c):=by
 have hf:∀ i j (hi:i < (c.af.filter (oc c)).length) (hj:j < (c.af.filter (oc c)).length),i < j→cS (c.af.filter (oc c))[i] (c.af.filter (oc c))[j] < 0:=by
  have:c.af.Pairwise fun a b=>cS a b < 0:=List.pairwise_iff_getElem.2 fun i j hi hj px=>eh mK.lt hr i j hi hj px
  exact fun i j hi hj px=>List.pairwise_iff_getElem.1 (this.filter _) i j hi hj px
 refine sQ mK.lt mK.dU hf (hp.trans ?_) hs
 refine uX (uv h.nd) ((wy hr).filter _) fun x=>?_
 rw [List.mem_filter];rw [iU]
 constructor
 ·exact fun hx=>⟨(h.sub x hx).mem,h.sub x hx⟩
 ·rintro ⟨hx,hh⟩
  obtain ⟨y,hy,e⟩:=List.mem_map.1 ((sq _ _).1 ((h.all hr hc x hx).2 hh));rw [← sU hr _ ((h.sub y hy).mem) _ hx e];exact hy
end Go.Proofs.YtmflccbnoeaafaaGreat
namespace Go.Proofs.YtmflccbnoeaafaaGreat
open Go.RowKit Go.Deep
set_option maxRecDepth 100000
set_option linter.unusedVariables false
set_option maxHeartbeats 64000000
theorem mL {w:World} {A:Option Addr} {cap:Nat} {l:List cB} (h:aL w 6 mr A cap l) {k:Nat} (hk:k < l.length) :
  ∃ b off,A=some ⟨b,off,none⟩∧b < w.heap.size∧w.cell? ⟨b,off+k*6,none⟩=some (.string l[k].aa)∧w.cell? ⟨b,off+k*6+1,none⟩=some (.string l[k].table)∧w.cell? ⟨b,off+k*6+2,none⟩=some (.int .i64 l[k].right) ∧
   w.cell? ⟨b,off+k*6+3,none⟩=some (.string l[k].aC)∧w.cell? ⟨b,off+k*6+4,none⟩=some (.string l[k].to)∧w.cell? ⟨b,off+k*6+5,none⟩=some (.bool l[k].opt)∧oL l[k]:=by
 obtain ⟨b,off,cs,hA,hb,hl,⟨rfl,hs⟩,hc⟩:=h.2.2 k hk;exact ⟨b,off,hA,hb,by simpa [cC] using hc 0 (by omega),by simpa [cC,Nat.add_assoc] using hc 1 (by omega),by simpa [cC,Nat.add_assoc] using hc 2 (by omega),by simpa [cC,Nat.add_assoc] using hc 3 (by omega),by simpa [cC,Nat.add_assoc] using hc 4 (by omega),by simpa [cC,Nat.add_assoc] using hc 5 (by omega),hs⟩
theorem eZ {w w':World} (a:ag w w') {A:Option Addr} {cap:Nat} {l:List cB} (h:aL w 6 mr A cap l):aL w' 6 mr A cap l:=h.az a fun _ _ h=>h
theorem KG {w:World} {A:Option Addr} {cap:Nat} {l:List cB} (h:aL w 6 mr A cap l):Small (l.length*16)∧∀ g∈l,oL g :=
 ⟨h.2.1,fun g hg=>by
  obtain ⟨k,hk,rfl⟩:=List.getElem_of_mem hg;obtain ⟨b,off,cs,hA,hb,hl,⟨rfl,hs⟩,hc⟩:=h.2.2 k hk
  exact hs⟩
theorem G2 (A:Option Addr) (cap:Nat) (l:List cB) (g:FuncId) (ar:Array Value) (p:cB→Bool) (w:World) (h:aL w 6 mr A cap l) (bR:∀ (args:Array Value) (w:World),(callFunc g args).run Tryz.prog w=.ok (.enter g args) w)
  (hp:∀ w',ag w w'→∀ i (hi:i < l.length),Calls Tryz.prog g (#[.agg #[.string l[i].aa,.string l[i].table,.int .i64 l[i].right,.string l[i].aC,.string l[i].to,.bool l[i].opt]]++ar) w' fun e w''=>e=.returned (.bool (p l[i]))∧ag w' w'') :
  Calls Tryz.prog 119 #[.slice A l.length cap,.func (.func g) #[] ar] w fun e w'=>e=.returned (.int .i64 (bK p l))∧ag w w':=by
 have hlen:=h.len;have HC:=gH hp;clear hp
 go_enter Tryz.func119,Tryz.ntmps119
 go_wp2_with fail
 go_loopw [8] (fun i wr=>∃ k:Nat,k≤l.length∧i=.int .i64 k∧ag w wr∧∀ j,j < k→∀ (hj:j < l.length),p l[j]=false) (fun i _=>l.length - (intOf i).toNat)
 case atStart=>exact ⟨0,Nat.zero_le _,rfl,ag.refl _,fun j hj=>absurd hj (Nat.not_lt_zero j)⟩
 case round =>
  obtain ⟨k,hk,rfl,ha,hp⟩:=hrel;have HA:=gH ha;have HP:=gH hp;clear hp;by_cases hlt:k < l.length
  ·have eT:=eZ ha h
   clear ha;obtain ⟨b,off,rfl,hb,c0,c1,c2,c3,c4,c5,hs⟩:=mL eT hlt;have HK:=gH (HC.out wr HA.out k hlt);clear eT;obtain ⟨q,hq⟩:∃ q,p l[k]=q:=⟨_,rfl⟩;rw [hq] at HK;have HQ:=gH hq;clear hq
   cases q
   ·go_wp2_with fail
    refine HK.out.mono ?_;rintro e w1 ⟨rfl,a1⟩;have cG:=gH (HA.out.trans a1);clear a1;go_wp2_with fail
    go_roundw
    case rel=>exact ⟨k+1,by omega,by go_num,cG.out,er (p:=fun j=>∀ (hj:j < l.length),p l[j]=false) HP.out (fun _=>HQ.out)⟩
    case measure=>simp [intOf];omega
   ·go_wp2_with fail
    refine HK.out.mono ?_;rintro e w1 ⟨rfl,a1⟩;have cG:=gH (HA.out.trans a1);clear a1;go_wp2_with fail;go_ret;exact ⟨by rw [fR p l k hlt HQ.out (fun i hi=>HP.out i hi (by omega))];rfl,cG.out⟩
  ·clear ha
   go_wp2_with fail;go_ret;exact ⟨by rw [gJ p l (fun i hi=>HP.out i (by omega) hi)];rfl,HA.out⟩
theorem Dr (A:Option Addr) (cap:Nat) (l:List cB) (g:FuncId) (ar:Array Value) (p:cB→Bool) (w:World) (h:aL w 6 mr A cap l) (bR:∀ (args:Array Value) (w:World),(callFunc g args).run Tryz.prog w=.ok (.enter g args) w)
  (hp:∀ w',ag w w'→∀ i (hi:i < l.length),Calls Tryz.prog g (#[.agg #[.string l[i].aa,.string l[i].table,.int .i64 l[i].right,.string l[i].aC,.string l[i].to,.bool l[i].opt]]++ar) w' fun e w''=>e=.returned (.bool (p l[i]))∧ag w' w'') :
  Calls Tryz.prog 75 #[.slice A l.length cap,.func (.func g) #[] ar] w fun e w'=>e=.returned (.bool (l.any p))∧ag w w':=by
 have C:=gH (G2 A cap l g ar p w h bR hp);have HE:=gH (iV p l);obtain ⟨i,hi⟩:∃ i,bK p l=i:=⟨_,rfl⟩;rw [hi] at C HE;clear hi h hp
 go_enter Tryz.func75,Tryz.ntmps75
 go_wp2_with fail;refine C.out.mono ?_;rintro e w1 ⟨rfl,a1⟩;have HA:=gH a1;clear a1;go_wp2_with fail;go_ret;exact ⟨by rw [← HE.out];rfl,HA.out⟩
theorem KH (A:Option Addr) (cap:Nat) (l:List ByteArray) (g:FuncId) (ar:Array Value) (p:ByteArray→Bool) (w:World) (h:aL w 1 dK A cap l) (bR:∀ (args:Array Value) (w:World),(callFunc g args).run Tryz.prog w=.ok (.enter g args) w)
  (hp:∀ w',ag w w'→∀ i (hi:i < l.length),Calls Tryz.prog g (#[.string l[i]]++ar) w' fun e w''=>e=.returned (.bool (p l[i]))∧ag w' w'') :
  Calls Tryz.prog 73 #[.slice A l.length cap,.func (.func g) #[] ar] w fun e w'=>e=.returned (.bool (l.any p))∧ag w w':=by
 have C:=gH (G5 A cap l g ar p w h bR hp);have HE:=gH (iV p l);obtain ⟨i,hi⟩:∃ i,bK p l=i:=⟨_,rfl⟩;rw [hi] at C HE;clear hi h hp
 go_enter Tryz.func73,Tryz.ntmps73
 go_wp2_with fail;refine C.out.mono ?_;rintro e w1 ⟨rfl,a1⟩;have HA:=gH a1;clear a1;go_wp2_with fail;go_ret;exact ⟨by rw [← HE.out];rfl,HA.out⟩
theorem Ds (A:Option Addr) (cap:Nat) (l:List cu) (g:FuncId) (ar:Array Value) (p:cu→Bool) (w:World) (h:aL w 5 dA A cap l) (bR:∀ (args:Array Value) (w:World),(callFunc g args).run Tryz.prog w=.ok (.enter g args) w)
  (hp:∀ w',ag w w'→∀ i (hi:i < l.length) (e1:List Value),dA w' e1 l[i]→Calls Tryz.prog g (#[.agg e1.toArray]++ar) w' fun e w''=>e=.returned (.bool (p l[i]))∧ag w' w'') :
  Calls Tryz.prog 92 #[.slice A l.length cap,.func (.func g) #[] ar] w fun e w'=>e=.returned (.bool (l.any p))∧ag w w':=by
 have C:=gH (AW A cap l g ar p w h bR hp);have HE:=gH (iV p l);obtain ⟨i,hi⟩:∃ i,bK p l=i:=⟨_,rfl⟩;rw [hi] at C HE;clear hi h hp
 go_enter Tryz.func92,Tryz.ntmps92
 go_wp2_with fail;refine C.out.mono ?_;rintro e w1 ⟨rfl,a1⟩;have HA:=gH a1;clear a1;go_wp2_with fail;go_ret;exact ⟨by rw [← HE.out];rfl,HA.out⟩
end Go.Proofs.YtmflccbnoeaafaaGreat
namespace Go.Proofs.YtmflccbnoeaafaaGreat
open Go.RowKit Go.Shelf Go.Sort
set_option maxRecDepth 100000
set_option linter.unusedVariables false
set_option maxHeartbeats 64000000
structure my {α:Type} (c:α→α→Int):Prop where
 tr:∀ a b d,c a b < 0→c b d < 0→c a d < 0
 dU:∀ a b,c a b = - c b a
 Oh:∀ a b d,c a b=0→c a d=c b d
theorem my.Wb {α:Type} {c:α→α→Int} (o:my c) (a b d:α) (h:c a b=0):c d a=c d b:=by
 have h1:=o.Oh a b d h;have h2:=o.dU d a;have h3:=o.dU d b;omega
theorem my.swo {α:Type} {c:α→α→Int} (o:my c):SWO (ltOf c) where
 irrefl x:=by
  have:=o.dU x x;unfold ltOf;exact decide_eq_false (by omega)
 trans x y z h1 h2:=by
  unfold ltOf at *;exact decide_eq_true (o.tr _ _ _ (of_decide_eq_true h1) (of_decide_eq_true h2))
 ntrans x y z h1 h2:=by
  unfold ltOf at *;have h1:=of_decide_eq_false h1;have h2:=of_decide_eq_false h2;have a1:=o.dU x y;have a2:=o.dU y z;have a3:=o.dU x z
  refine decide_eq_false fun h=>?_
  by_cases e1:c y x=0
  ·have:=o.Oh y x z e1;omega
  ·by_cases e2:c z y=0
   ·have:=o.Oh z y x e2;omega
   ·have:=o.tr z y x (by omega) (by omega);omega
theorem KI:my bw:=⟨fun a b d h1 h2=>lG h1 h2,li,fun a b d h=>by
 have:a.data.toList=b.data.toList:=(pK _ _).1 h;unfold bw
 rw [this]⟩
theorem my.on {α β:Type} {c:β→β→Int} (o:my c) (f:α→β):my fun a b:α=>c (f a) (f b):=⟨fun a b d=>o.tr _ _ _,fun a b=>o.dU _ _,fun a b d=>o.Oh _ _ _⟩
theorem my.or {α:Type} {c d:α→α→Int} (o:my c) (p:my d):my fun a b=>iQ (c a b) (d a b):=by
 have h0:∀ a b,c a b=0→c b a=0:=fun a b h=>by have:=o.dU a b;omega
 have e1:∀ a b,c a b=0→iQ (c a b) (d a b)=d a b:=fun a b h=>by unfold iQ;simp [h]
 have e2:∀ a b,c a b≠0→iQ (c a b) (d a b)=c a b:=fun a b h=>by unfold iQ;simp [h]
 refine ⟨fun a b x h1 h2=>?_,fun a b=>?_,fun a b x h=>?_⟩
 ·by_cases g1:c a b=0
  ·rw [e1 _ _ g1] at h1
   have g3:=o.Oh a b x g1;by_cases g2:c b x=0
   ·rw [e1 _ _ g2] at h2
    rw [e1 _ _ (by omega)];exact p.tr _ _ _ h1 h2
   ·rw [e2 _ _ g2] at h2
    rw [e2 _ _ (by omega)];omega
  ·rw [e2 _ _ g1] at h1
   by_cases g2:c b x=0
   ·have g3:=o.Wb b x a g2
    rw [e2 _ _ (by omega)];omega
   ·rw [e2 _ _ g2] at h2
    have:=o.tr _ _ _ h1 h2;rw [e2 _ _ (by omega)];exact this
 ·have ha:=o.dU a b
  by_cases g1:c a b=0
  ·rw [e1 _ _ g1,e1 _ _ (h0 _ _ g1)];exact p.dU _ _
  ·rw [e2 _ _ g1,e2 _ _ (by omega)];exact ha
 ·by_cases g1:c a b=0
  ·rw [e1 _ _ g1] at h
   have g3:=o.Oh a b x g1;by_cases g2:c a x=0
   ·rw [e1 _ _ g2,e1 _ _ (by omega)];exact p.Oh _ _ _ h
   ·rw [e2 _ _ g2,e2 _ _ (by omega)];exact g3
  ·rw [e2 _ _ g1] at h;exact absurd h g1
def jB (a b:gj):Int:=bw a.name b.name
theorem sV:my jB:=KI.on gj.name
def gS (a b:gi):Int:=bw a.name b.name
theorem pL:my gS:=KI.on gi.name
def eG (a b:cu):Int:=iQ (bw a.aa b.aa) (bw a.name b.name)
theorem mM:my eG:=(KI.on cu.aa).or (KI.on cu.name)
instance:Inhabited gj:=⟨⟨ByteArray.empty,ByteArray.empty⟩⟩
instance:Inhabited gi:=⟨⟨ByteArray.empty,0,[],0,0,ByteArray.empty,ByteArray.empty,ByteArray.empty⟩⟩
instance:Inhabited b7:=⟨⟨default,⟨none,0,0⟩⟩⟩
instance:Inhabited ay:=⟨⟨ByteArray.empty,ByteArray.empty,ByteArray.empty,[],[],⟨none,0,0⟩,⟨none,0,0⟩⟩⟩
end Go.Proofs.YtmflccbnoeaafaaGreat
