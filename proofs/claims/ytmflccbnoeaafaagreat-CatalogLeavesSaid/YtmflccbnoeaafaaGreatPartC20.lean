import Derived.Test.YtmflccbnoeaafaaGreatPartC19
namespace Go.Proofs.YtmflccbnoeaafaaGreat
open Go.RowKit Go.Deep
set_option maxRecDepth 100000
set_option linter.unusedVariables false
set_option maxHeartbeats 64000000
theorem I2 {w wr:World} {B g cap n:Nat} {l:List cB} (h:fh 106 6 cC oL w wr B g cap n l) (hs:Small (n*16)):aL wr 6 mr (some ⟨g,0,none⟩) cap l:=by
 have ho:=h.own;have hl:=h.len;subst hl;exact en (h:=⟨some ⟨g,0,none⟩,l.length,cap⟩) cC ho (fun x hx=>⟨rfl,rfl,h.sm x hx⟩) hs
theorem Fw {l:List cB} {m:Nat} (hm:m < l.length) (x:cB):fu (l.flatMap cC) (m*6) (cC x)=(l.set m x).flatMap cC:=by
 have hs:l.set m x=l.take m++x::l.drop (m+1):=by rw [List.set_eq_take_append_cons_drop,if_pos hm]
 have h0:l.flatMap cC=(l.take m).flatMap cC++cC l[m]++(l.drop (m+1)).flatMap cC:=by
  conv=>lhs;rw [← List.take_append_drop m l,List.drop_eq_getElem_cons hm]
  simp only [List.flatMap_append,List.flatMap_cons,List.append_assoc]
 have ht:((l.take m).flatMap cC).length=m*6:=by rw [ce (size:=6) (fun _=>rfl),List.length_take,Nat.min_eq_left (by omega)]
 rw [h0,hs,← ht,nh _ (cC l[m]) _ (cC x) rfl];simp only [List.flatMap_append,List.flatMap_cons,List.append_assoc]
theorem Fx {w wr:World} {B g cap n m i:Nat} {l:List cB} (h:fh 106 6 cC oL w wr B g cap n l) (hm:m < l.length) (hi:i < l.length):fh 106 6 cC oL w ((((((wr.setCell ⟨g,m*6,none⟩ (.string (l[i]).aa)).setCell ⟨g,m*6+1,none⟩ (.string (l[i]).table)).setCell ⟨g,m*6+2,none⟩ (.int .i64 (l[i]).right)).setCell ⟨g,m*6+3,none⟩ (.string (l[i]).aC)).setCell ⟨g,m*6+4,none⟩ (.string (l[i]).to)).setCell ⟨g,m*6+5,none⟩ (.bool (l[i]).opt)) B g cap n (l.set m l[i]):=by
 refine ⟨?_,by rw [List.length_set];exact h.len,fun x hx=>?_,?_⟩
 ·have h1:=bG (g:=g) rfl (cC l[i]) (m*6) h.own
  have e:=Fw hm l[i];rw [e] at h1;exact h1
 ·rcases List.mem_or_eq_of_mem_set hx with h1 | h1
  ·exact h.sm x h1
  ·subst h1;exact h.sm _ (List.getElem_mem hi)
 ·exact h.kb.trans ((((((Kb.set _ _ _ _).trans (Kb.set _ _ _ _)).trans (Kb.set _ _ _ _)).trans (Kb.set _ _ _ _)).trans (Kb.set _ _ _ _)).trans (Kb.set _ _ _ _))
def BX (l:List cB) (q:cB→Bool) (v:Value) (B:Nat) (w:World) (e:Ending) (w':World):Prop :=
 ∃ h:Hd,e=.returned h.v∧w'.ownsRow B 106 6 h.v (l.filter fun x=>!q x).length ((l.filter fun x=>!q x).flatMap cC)∧Kb (fN v) w w'∧∀ g∈h.blk,v.ownBlock=some g
structure mn (q:cB→Bool) (l l':List cB) (i j:Nat):Prop where
 len:l'.length=l.length
 kept:l'.take i=(l.take j).filter fun x=>!q x
 rest:l'.drop j=l.drop j
 ij:i < j
 jl:j≤l.length
theorem mn.start {q:cB→Bool} {l:List cB} {i:Nat} (hi:i < l.length) (hq:q l[i]=true) (hf:∀ k (hk:k < l.length),k < i→q l[k]=false):mn q l l i (i+1):=by
 refine ⟨rfl,?_,rfl,by omega,by omega⟩;rw [List.take_succ_eq_append_getElem hi,List.filter_append,gZ q (l.take i) (fun k hk=>by rw [List.getElem_take];exact hf k (by rw [List.length_take] at hk;omega) (by rw [List.length_take] at hk;omega))];simp [hq]
theorem mn.get {q:cB→Bool} {l l':List cB} {i j:Nat} (h:mn q l l' i j) (hj:j < l.length):l'[j]'(by rw [h.len];exact hj)=l[j]:=by
 have h1:=congrArg (fun x=>x[0]?) h.rest;simp only [List.getElem?_drop,Nat.add_zero] at h1;rw [List.getElem?_eq_getElem (by rw [h.len];exact hj),List.getElem?_eq_getElem hj] at h1;exact Option.some.inj h1
theorem mn.skip {q:cB→Bool} {l l':List cB} {i j:Nat} (h:mn q l l' i j) (hj:j < l.length) (hq:q l[j]=true):mn q l l' i (j+1):=by
 refine ⟨h.len,?_,?_,by have:=h.ij;omega,by omega⟩
 ·rw [List.take_succ_eq_append_getElem hj,List.filter_append,← h.kept]
  simp [hq]
 ·have:=congrArg (List.drop 1) h.rest
  simpa [List.drop_drop] using this
theorem mn.keep {q:cB→Bool} {l l':List cB} {i j:Nat} (h:mn q l l' i j) (hj:j < l.length) (hq:q l[j]=false):mn q l (l'.set i l[j]) (i+1) (j+1):=by
 have px:=h.ij;have hl:=h.len;refine ⟨by rw [List.length_set];exact h.len,?_,?_,by omega,by omega⟩
 ·rw [List.take_succ_eq_append_getElem hj,List.filter_append,← h.kept,List.take_succ_eq_append_getElem (by rw [List.length_set];omega),List.take_set_of_le (Nat.le_refl _)]
  simp [hq]
 ·rw [List.drop_set_of_lt (by omega)]
  have:=congrArg (List.drop 1) h.rest
  simpa [List.drop_drop] using this
theorem NE (v:Value) (l:List cB) (g:FuncId) (ar:Array Value) (q:cB→Bool) (B:Nat) (w:World) (ho:w.ownsRow B 106 6 v l.length (l.flatMap cC)) (hs:Small (l.length*16)) (iu:∀ A n c,v=.slice A n c→c≤9223372036854775807) (sm:∀ x∈l,oL x) (bR:∀ (args:Array Value) (w:World),(callFunc g args).run Tryz.prog w=.ok (.enter g args) w)
  (hq:∀ w',Kb (fN v) w w'→∀ x:cB,oL x→Calls Tryz.prog g (#[.agg #[.string x.aa,.string x.table,.int .i64 x.right,.string x.aC,.string x.to,.bool x.opt]]++ar) w' fun e w''=>e=.returned (.bool (q x))∧ag w' w'') :
  Calls Tryz.prog 88 #[v,.func (.func g) #[] ar] w (BX l q v B w):=by
 have hlen:l.length*16≤140737488351232:=hs;obtain ⟨hd,rfl,xg⟩:=m9 ho;obtain ⟨A,n,cap⟩:=hd;have xg:n=l.length:=xg;subst xg
 show Calls Tryz.prog 88 #[.slice A l.length cap,.func (.func g) #[] ar] w (BX l q (.slice A l.length cap) B w)
 have eT:aL w 6 mr A cap l:=en (h:=⟨A,l.length,cap⟩) cC ho (fun x hx=>⟨rfl,rfl,sm x hx⟩) hs;obtain ⟨k,hk⟩:∃ k,bK q l=k:=⟨_,rfl⟩;have C:=gH (hk▸G2 A cap l g ar q w eT bR (fun w' a i hi=>hq w' (Kb.aH a) l[i] (sm _ (List.getElem_mem hi))));have Ps:=bg q l;rw [hk] at Ps;by_cases xH:k < 0
 ·have oF:k = -1:=by omega
  have HF:=gH (show (l.filter fun x=>!q x)=l from gZ q l (zC q l (by rw [hk];exact xH)));subst oF;have HO:=gH ho;clear hk Ps eT hq sm ho iu xH
  go_enter Tryz.func88,Tryz.ntmps88
  go_wp2_with fail;refine C.out.mono ?_;rintro e w1 ⟨rfl,a1⟩;have HA:=gH a1;clear a1;go_wp2_with fail;go_ret;refine ⟨⟨A,l.length,cap⟩,rfl,?_,Kb.aH HA.out,fun g hg=>Hd.au.1 hg⟩;rw [HF.out];exact bu HO.out HA.out
 obtain ⟨i,rfl⟩:∃ i:Nat,k=i:=⟨k.toNat,by omega⟩
 have N4:i < l.length:=by omega
 have DY:=gY q l i N4 hk;have hst:=mn.start N4 DY (fun j hj Gw=>pj q l i hk j hj Gw);obtain ⟨g0,cap',hv,se,mo,hr⟩:=aR ho (by omega)
 have hv:A=some ⟨g0,0,none⟩∧cap=cap':=by
  have:Value.slice A l.length cap=Value.slice (some ⟨g0,0,none⟩) l.length cap':=hv;simp only [Value.slice.injEq,true_and] at this;exact this
 obtain ⟨rfl,rfl⟩:=hv;have iu:=iu _ _ _ rfl;have hI:fh 106 6 cC oL w w B g0 cap l.length l:=⟨ho,rfl,sm,Kb.refl _ _⟩
 have BZ:∀ w1 w2:World,Kb (fun k=>k=g0) w1 w2→Kb (fN (.slice (some ⟨g0,0,none⟩) l.length cap)) w1 w2:=fun w1 w2 k=>k.mono fun g _ e=>by subst e;rfl
 have HQ:=gH (show ∀ w',Kb (fun k=>k=g0) w w'→_ from fun w' k=>hq w' (BZ _ _ k));have HI:=gH hI;have HST:=gH hst
 have W9:((i:Int) == -1)=false:=by rw [beq_eq_false_iff_ne];omega
 clear hq hI ho hr sm hk Ps hst eT xH DY
 go_enter Tryz.func88,Tryz.ntmps88
 go_wp2_with fail;refine C.out.mono ?_;rintro e w1 ⟨rfl,a1⟩;have HA:=gH a1;clear a1;go_wp2_with fail
 go_loopw [5,6] (fun u5 u6 wr=>∃ (m j:Nat) (l':List cB),u5=.int .i64 m∧u6=.int .i64 j∧mn q l l' m j∧fh 106 6 cC oL w wr B g0 cap l.length l') (fun _ u6 _=>l.length - (intOf u6).toNat)
 case atStart=>exact ⟨i,i+1,l,rfl,by go_num,HST.out,HI.out.az HA.out⟩
 case round =>
  obtain ⟨m,j,l',rfl,rfl,hd,hI⟩:=hrel;have HD:=gH hd;have HJ:=gH hI;have rQ:=hI.len;have hmj:=hd.ij;have hjl:=hd.jl;by_cases hlt:j < l.length
  ·have hj':j < l'.length:=by omega
   obtain ⟨b,off,vR,hb0,c0,c1,c2,c3,c4,c5,hs0⟩:=mL (I2 hI hs) hj';simp only [Option.some.injEq,Addr.mk.injEq,and_true] at vR;obtain ⟨rfl,rfl⟩:=vR;have hg:=hd.get hlt;rw [hg] at c0 c1 c2 c3 c4 c5 hs0;obtain ⟨x,hx⟩:∃ x,l[j]=x:=⟨_,rfl⟩;rw [hx] at c0 c1 c2 c3 c4 c5 hs0;obtain ⟨r,hr⟩:∃ r,q x=r:=⟨_,rfl⟩;obtain ⟨V,hV⟩:∃ V,V=wr.alloc (.cells #[.string x.aa,.string x.table,.int .i64 x.right,.string x.aC,.string x.to,.bool x.opt] 106):=⟨_,rfl⟩
   have aV:ag wr V:=by rw [hV];exact (ag.refl _).alloc _
   have RV:=gH (show ap V wr.heap.size [.string x.aa,.string x.table,.int .i64 x.right,.string x.aC,.string x.to,.bool x.opt] by rw [hV];exact aO (ag.refl _));have lC:=gH aV;have Cc:=gH (hr▸HQ.out V (hI.kb.trans (Kb.aH aV)) x hs0);have HX:=gH hx;have HR:=gH (show q l[j]=r by rw [hx];exact hr);clear hd hI hx hr hg aV;simp only [Nat.zero_add] at c0 c1 c2 c3 c4 c5
   cases r
   ·go_wp2_with fail
    rw [← hV];clear hV;refine Cc.out.mono ?_;rintro e w2 ⟨rfl,a2⟩;obtain ⟨F,hF⟩:∃ F,F=w2:=⟨_,rfl⟩;have I3:=gH (show fh 106 6 cC oL w F B g0 cap l.length l' from hF▸HJ.out.az (lC.out.trans a2));have RF:=gH (show ap F wr.heap.size [.string x.aa,.string x.table,.int .i64 x.right,.string x.aC,.string x.to,.bool x.opt] from hF▸RV.out.az a2);subst hF;clear a2;obtain ⟨_,_,i5,_,_,km⟩:=aR I3.out.own (by omega);simp only [Value.slice.injEq,true_and,Option.some.injEq,Addr.mk.injEq,and_true] at i5;obtain ⟨rfl,rfl⟩:=i5
    have fq:(l'.flatMap cC).length=l.length*6:=by rw [ce (size:=6) (fun _=>rfl),rQ]
    obtain ⟨u0,z0⟩:∃ u,F.cell? ⟨g0,m*6,none⟩=some u:=⟨_,by rw [km.2.1 (m*6) (by rw [fq];omega),List.getElem?_eq_getElem (by rw [fq];omega)]⟩;have y0:F.frozen? ⟨g0,m*6,none⟩=false:=km.2.2 (m*6) (by rw [fq];omega);obtain ⟨u1,z1⟩:∃ u,F.cell? ⟨g0,m*6+1,none⟩=some u:=⟨_,by rw [km.2.1 (m*6+1) (by rw [fq];omega),List.getElem?_eq_getElem (by rw [fq];omega)]⟩;have y1:F.frozen? ⟨g0,m*6+1,none⟩=false:=km.2.2 (m*6+1) (by rw [fq];omega);obtain ⟨u2,z2⟩:∃ u,F.cell? ⟨g0,m*6+2,none⟩=some u:=⟨_,by rw [km.2.1 (m*6+2) (by rw [fq];omega),List.getElem?_eq_getElem (by rw [fq];omega)]⟩;have y2:F.frozen? ⟨g0,m*6+2,none⟩=false:=km.2.2 (m*6+2) (by rw [fq];omega);obtain ⟨u3,z3⟩:∃ u,F.cell? ⟨g0,m*6+3,none⟩=some u:=⟨_,by rw [km.2.1 (m*6+3) (by rw [fq];omega),List.getElem?_eq_getElem (by rw [fq];omega)]⟩;have y3:F.frozen? ⟨g0,m*6+3,none⟩=false:=km.2.2 (m*6+3) (by rw [fq];omega);obtain ⟨u4,z4⟩:∃ u,F.cell? ⟨g0,m*6+4,none⟩=some u:=⟨_,by rw [km.2.1 (m*6+4) (by rw [fq];omega),List.getElem?_eq_getElem (by rw [fq];omega)]⟩;have y4:F.frozen? ⟨g0,m*6+4,none⟩=false:=km.2.2 (m*6+4) (by rw [fq];omega);obtain ⟨u5,z5⟩:∃ u,F.cell? ⟨g0,m*6+5,none⟩=some u:=⟨_,by rw [km.2.1 (m*6+5) (by rw [fq];omega),List.getElem?_eq_getElem (by rw [fq];omega)]⟩;have y5:F.frozen? ⟨g0,m*6+5,none⟩=false:=km.2.2 (m*6+5) (by rw [fq];omega);have zg:g0 < F.heap.size:=km.1;obtain ⟨q0,q1,q2,q3,q4,q5,qz⟩:=j0 RF.out;clear km fq
    have B0:=gH (show fh 106 6 cC oL w ((((((F.setCell ⟨g0,m*6,none⟩ (.string x.aa)).setCell ⟨g0,m*6+1,none⟩ (.string x.table)).setCell ⟨g0,m*6+2,none⟩ (.int .i64 x.right)).setCell ⟨g0,m*6+3,none⟩ (.string x.aC)).setCell ⟨g0,m*6+4,none⟩ (.string x.to)).setCell ⟨g0,m*6+5,none⟩ (.bool x.opt)) B g0 cap l.length (l'.set m l[j]) from by
     have:=Fx I3.out (m:=m) (i:=j) (by omega) hj';rw [HD.out.get hlt,HX.out] at this;rw [HX.out]
     exact this)
    have I4:=gH (HD.out.keep hlt HR.out)
    have Oc:(m:Int) < (l.length:Int):=by omega
    go_wp2_with fail
    go_roundw
    case rel=>exact ⟨m+1,j+1,_,by go_num,by go_num,I4.out,B0.out⟩
    case measure=>simp [intOf];omega
   ·have I4:=gH (HD.out.skip hlt HR.out)
    go_wp2_with fail;rw [← hV];clear hV;refine Cc.out.mono ?_;rintro e w2 ⟨rfl,a2⟩;have Ra:=gH (HJ.out.az (lC.out.trans a2));clear a2;go_wp2_with fail
    go_roundw
    case rel=>exact ⟨m,j+1,l',rfl,by go_num,I4.out,Ra.out⟩
    case measure=>simp [intOf];omega
  ·have Pt:j=l.length:=by omega
   have hcm:¬ cap=m:=by omega
   obtain ⟨_,_,i5,_,_,km⟩:=aR hI.own (by omega);simp only [Value.slice.injEq,true_and,Option.some.injEq,Addr.mk.injEq,and_true] at i5;obtain ⟨rfl,rfl⟩:=i5
   have fq:(l'.flatMap cC).length=l.length*6:=by rw [ce (size:=6) (fun _=>rfl),rQ]
   have qY:∀ w:World,(zeroValue 106).run Tryz.prog w=.ok (.agg #[.string ByteArray.empty,.string ByteArray.empty,.int .i64 0,.string ByteArray.empty,.string ByteArray.empty,.bool false]) w:=fun w=>by kernel_rfl
   obtain ⟨n3,uL⟩:∃ n3,l.length - m=n3:=⟨_,rfl⟩
   have nu:∀ ty,(Builtin.clear_ #[30] ty #[.slice (some ⟨g0,m*6,none⟩) n3 (cap - m)]).run Tryz.prog wr=.ok (.tuple #[]) (wr.setCells g0 (m*6) (Builtin.zeroCells (.agg #[.string ByteArray.empty,.string ByteArray.empty,.int .i64 0,.string ByteArray.empty,.string ByteArray.empty,.bool false]:Value).cells n3).toList):=fun ty=>by
    refine kL wr _ _ ty _ Tryz.underlying30 qY (by intro u hu;have hu:u∈([.string ByteArray.empty,.string ByteArray.empty,.int .i64 0,.string ByteArray.empty,.string ByteArray.empty,.bool false]:List Value):=hu;simp only [List.mem_cons,List.not_mem_nil,or_false] at hu;rcases hu with rfl | rfl | rfl | rfl | rfl | rfl<;>rfl) g0 (m*6) (cap - m) n3 (by omega) (fun j hj=>?_) (fun j hj=>?_)
    ·have hj':j < n3*6:=hj
     have hl:m*6+j < (l'.flatMap cC).length:=by rw [fq];omega
     rw [km.2.1 _ hl,List.getElem?_eq_getElem hl];rfl
    ·have hj':j < n3*6:=hj
     exact km.2.2 _ (by rw [fq];omega)
   obtain ⟨Z,hZ⟩:∃ Z,Z=wr.setCells g0 (m*6) (Builtin.zeroCells (.agg #[.string ByteArray.empty,.string ByteArray.empty,.int .i64 0,.string ByteArray.empty,.string ByteArray.empty,.bool false]:Value).cells n3).toList:=⟨_,rfl⟩;have HZ:=gH (show Kb (fun k=>k=g0) w Z from hZ▸hI.kb.trans (bA g0 _ _ _))
   have HP:=gH (show BX l q (.slice (some ⟨g0,0,none⟩) l.length cap) B w (.returned (.slice (some ⟨g0,0,none⟩) m cap)) Z from by
    have hm:m=(l.filter fun x=>!q x).length:=by
     have:=congrArg List.length hd.kept;rw [List.length_take,Pt,List.take_length] at this;omega
    have hx:l'.take m=l.filter fun x=>!q x:=by
     have:=hd.kept;rw [Pt,List.take_length] at this;exact this
    refine ⟨⟨some ⟨g0,0,none⟩,m,cap⟩,rfl,?_,BZ _ _ HZ.out,fun g hg=>Hd.au.1 hg⟩;have o1:=xi (bG (g:=g0) rfl (Builtin.zeroCells (.agg #[.string ByteArray.empty,.string ByteArray.empty,.int .i64 0,.string ByteArray.empty,.string ByteArray.empty,.bool false]:Value).cells n3).toList (m*6) hI.own) (m:=m) (by omega);rw [← hZ] at o1
    have e:(fu (l'.flatMap cC) (m*6) (Builtin.zeroCells (.agg #[.string ByteArray.empty,.string ByteArray.empty,.int .i64 0,.string ByteArray.empty,.string ByteArray.empty,.bool false]:Value).cells n3).toList).take (m*6)=(l.filter fun x=>!q x).flatMap cC:=by
     rw [lF _ _ _ (by rw [ed,fq];show m*6+n3*6≤_;omega),List.append_assoc,List.take_append_of_le_length (by rw [List.length_take,fq];omega),List.take_take,Nat.min_self,fI (size:=6) (fun _=>rfl),hx]
    rw [e] at o1;rw [← hm]
    exact o1)
   rw [← hZ,← uL] at nu
   have k3:(m:Int)≤(l.length:Int):=by omega
   have k5:(l.length:Int)≤(cap:Int):=by omega
   have k6:(m:Int)≤(cap:Int):=by omega
   clear hI km fq qY hZ uL BZ hd HD HJ HI HST C Pt;go_wp2_with fail;go_ret;exact HP.out
theorem bU.after {w w1 w':World} {B b:Nat} {r:bW × Int} {e:Ending} (k:Kb (fun g=>g=b∨B≤g) w w1) (h:bU w1 B b r e w'):bU w B b r e w':=⟨k.trans h.1,h.2.1,h.2.2⟩
theorem zD (c:bW) (hs ht hn hm hg:Hd) (L:List ay) (B b:Nat) (x:eW) (A6:Option Addr) (n6 c6:Nat) (A9:Option Addr) (n9 c9:Nat) (w:World) (hb:b < B) (tK:B≤w.heap.size) (C:dc w B c hs ht hn hm hg L) (sm:xK c) (R:ap w b (cK c hs ht hn hm hg)) (BO:c.af.length≤1000000) :
  Calls Tryz.prog 55 #[.pointer (some ⟨b,0,none⟩),.agg #[.int .i64 x.kind,.string x.aJ,.string x.aa,.string x.table,.string x.name,.string x.role,.slice A6 n6 c6,.string x.rule.name,.int .i64 x.rule.kind,.slice A9 n9 c9,.int .i64 x.rule.low,.int .i64 x.rule.high,.string x.rule.aa,.string x.rule.table,.string x.rule.key,.int .i64 x.right,.bool x.opt]] w (bU w B b (qP c x)):=by
 have bR:=enters (P:=Tryz.prog) Tryz.func89 (by kernel_rfl) rfl
 have l1:w.heap.size < w.heap.size+1:=by omega
 obtain ⟨W,hW⟩:∃ W,W=w.alloc (.cells #[.int .i64 x.kind,.string x.aJ,.string x.aa,.string x.table,.string x.name,.string x.role,.slice A6 n6 c6,.string x.rule.name,.int .i64 x.rule.kind,.slice A9 n9 c9,.int .i64 x.rule.low,.int .i64 x.rule.high,.string x.rule.aa,.string x.rule.table,.string x.rule.key,.int .i64 x.right,.bool x.opt] 40):=⟨_,rfl⟩
 have aW:ag w W:=by rw [hW];exact (ag.refl w).alloc _
 have r1:ap W w.heap.size [.int .i64 x.kind,.string x.aJ,.string x.aa,.string x.table,.string x.name,.string x.role,.slice A6 n6 c6,.string x.rule.name,.int .i64 x.rule.kind,.slice A9 n9 c9,.int .i64 x.rule.low,.int .i64 x.rule.high,.string x.rule.aa,.string x.rule.table,.string x.rule.key,.int .i64 x.right,.bool x.opt]:=by rw [hW];exact bv (ag.refl _) (by simp)
 have r0:=R.az aW;have pZ:=gH (C.at sm);obtain ⟨F,hF⟩:∃ F,cR c.ai (cv x.aa x.table c.ai)=F:=⟨_,rfl⟩;have C2:=gH (show ∀ V,ag W V→Calls Tryz.prog 87 #[.agg #[.slice hs.a c.ai.ae.length hs.c,.slice ht.a c.ai.tables.length ht.c],.string x.aa,.string x.table] V (ix V F) from fun V a=>hF▸wS c.ai hs.a hs.c ht.a ht.c x.aa x.table V (bm (aW.trans a) pZ.out.gQ) (aQ (aW.trans a) pZ.out.tab));have ej:=gH (show qP c x=if F.2=0 then ({ c with ai:=F.1,af:=ml c.af x.aa x.table },0) else (c,F.2) by unfold qP;rw [hF]);have HC:=gH C;have m8:=gH R;have br:=gH aW;have qs:=gH r1;have nU:=gH sm;have z0:=r0.1;have z1:=r1.1;have Pu:=gH bR;have Xa:=gH BO;have x2:=r0.cell (j:=2) rfl;have x3:=r0.cell (j:=3) rfl;have y2:=r1.cell (j:=2) rfl;have y3:=r1.cell (j:=3) rfl;clear C sm R aW r0 r1 hF pZ bR BO;have KX:=gH (show ∀ V,ag W V→(V.cell? ⟨b,2,none⟩=some (.slice hs.a c.ai.ae.length hs.c)∧V.cell? ⟨b,3,none⟩=some (.slice ht.a c.ai.tables.length ht.c)∧V.cell? ⟨w.heap.size,2,none⟩=some (.string x.aa)∧V.cell? ⟨w.heap.size,3,none⟩=some (.string x.table)) from fun V a=>⟨a.cell_kept x2,a.cell_kept x3,a.cell_kept y2,a.cell_kept y3⟩);clear x2 x3 y2 y3;obtain ⟨⟨F0,F1⟩,F2⟩:=F
 go_enter Tryz.func55,Tryz.ntmps55
 go_wp2_with fail;rw [← hW];clear hW
 go_region_held3 (fun V=>V.cell? ⟨b,2,none⟩=some (.slice hs.a c.ai.ae.length hs.c)∧V.cell? ⟨b,3,none⟩=some (.slice ht.a c.ai.tables.length ht.c)∧V.cell? ⟨w.heap.size,2,none⟩=some (.string x.aa)∧V.cell? ⟨w.heap.size,3,none⟩=some (.string x.table))
  ((refine KX.out _ ?_;first
   | with_reducible exact (ag.refl _).drew
   | with_reducible exact a4
   | with_reducible exact ((ag.refl _).alloc _).drew
   | with_reducible exact a4.alloc _
   | (with_reducible refine ag.setCell (ag.setCell a4 _ _ ?_) _ _ ?_)<;>exact Nat.le_refl _
   | (with_reducible refine ag.setCell (ag.setCell (a4.alloc _) _ _ ?_) _ _ ?_)<;>exact a4.size
   | fail))
  ((go_at_call 87;first
   | (refine (C2.out W.drew ((ag.refl W).trans (ag.refl _).drew)).mono ?_;rintro e w3 ⟨⟨A1,n1,c1⟩,⟨A2,n2,c2⟩,L2,hL,rfl,a3,ob⟩;have a4:ag W w3:=(ag.refl _).drew.trans a3)
   | (refine (C2.out _ ((ag.refl W).trans ((ag.refl _).alloc _).drew)).mono ?_;rintro e w3 ⟨⟨A1,n1,c1⟩,⟨A2,n2,c2⟩,L2,hL,rfl,a3,ob⟩;have a4:ag W w3:=((ag.refl _).alloc _).drew.trans a3;have rb:=(bv (w:=W) (c:=[.slice none 0 0,.slice none 0 0]) (t:=25) (((ag.refl _)).drew.trans a3) rfl);have Fu:=rb.1;have LJ:=rb.cell (j:=0) rfl;have LL:=rb.2.2 0 (by simp);have O8:=rb.cell (j:=1) rfl;have O9:=rb.2.2 1 (by simp))))
 focus
  obtain ⟨V,hV⟩:∃ V,V=w3.alloc (.cells #[.slice A1 F0.length c1,.slice A2 F1.length c2] 25):=⟨_,rfl⟩;obtain ⟨bx,lf⟩:∃ bx,bx=w3.heap.size:=⟨_,rfl⟩
  have rV:ap V bx [.slice A1 F0.length c1,.slice A2 F1.length c2]:=by rw [hV,lf];exact bv (ag.refl _) rfl
  have aV:ag W V:=by rw [hV];exact a4.alloc _
  have xb:bC V W.heap.size ⟨A1,n1,c1⟩ ⟨A2,n2,c2⟩ F0 L2:=by rw [hV];exact bC.down (ob.az ((ag.refl _).alloc _)) (Nat.le_refl W.heap.size)
  have pk:W.heap.size≤bx:=by rw [lf];exact a4.size
 rotate_left
 focus
  obtain ⟨V,hV⟩:∃ V,V=(w3.setCell ⟨W.heap.size,0,none⟩ (.slice A1 F0.length c1)).setCell ⟨W.heap.size,1,none⟩ (.slice A2 F1.length c2):=⟨_,rfl⟩;obtain ⟨bx,lf⟩:∃ bx,bx=W.heap.size:=⟨_,rfl⟩
  have rV:ap V bx [.slice A1 F0.length c1,.slice A2 F1.length c2]:=by rw [hV,lf];exact dg rb rfl _ _
  have aV:ag W V:=by rw [hV];exact ag.setCell (ag.setCell a4 _ _ (Nat.le_refl _)) _ _ (Nat.le_refl _)
  have xb:bC V W.heap.size ⟨A1,n1,c1⟩ ⟨A2,n2,c2⟩ F0 L2:=by rw [hV];exact bC.down (ob.kb (lJ w3 W.heap.size (.slice A1 F0.length c1) (.slice A2 F1.length c2)) fun g hg e=>by have h1:=(ob.lt g hg).1;have h2:((W.alloc (.cells #[.slice none 0 0,.slice none 0 0] 25)).drew).heap.size=W.heap.size+1:=(by simp);have e2:g=W.heap.size:=e;omega) (by show W.heap.size≤((W.alloc (.cells #[.slice none 0 0,.slice none 0 0] 25)).drew).heap.size;simp)
  have pk:W.heap.size≤bx:=by rw [lf];exact Nat.le_refl _
 rotate_left
 all_goals
  rw [← hV,← lf];have HV:=gH (And.intro rV (And.intro aV (And.intro xb hL)));have TA:=gH pk;clear hV lf rV aV xb hL ob a3 a4 pk
  (try clear rb Fu LJ LL O8 O9)
  have aT:=br.out.trans HV.out.2.1;have q:=m8.out.az aT;have u2:=q.cell (j:=2) rfl;have g2:=q.2.2 2 (by simp [cK]);have u3:=q.cell (j:=3) rfl;have g3:=q.2.2 3 (by simp [cK]);have qz:=q.1;have v0:=HV.out.1.cell (j:=0) rfl;have v1:=HV.out.1.cell (j:=1) rfl;have vz:=HV.out.1.1;have rN:=gH aT;clear aT q;by_cases h2:F2=0
  ·subst h2
   have HP:=IK hb tK HC.out m8.out rN.out br.out.size HV.out.2.2.1 HV.out.2.2.2;obtain ⟨Y,hY⟩:∃ Y,Y=(V.setCell ⟨b,2,none⟩ (.slice A1 F0.length c1)).setCell ⟨b,3,none⟩ (.slice A2 F1.length c2):=⟨_,rfl⟩;rw [← hY] at HP;obtain ⟨kY,-,Zj⟩:=HP;obtain ⟨-,hs2,ht2,uk,ux,⟨Ag,ng,cg⟩,L3,CI,RY⟩:=Zj rfl
   have Zk:Kb (fun g=>g=b) V Y:=by rw [hY];exact (Kb.set _ _ _ _).trans (Kb.set _ _ _ _)
   have RX:=gH (Zk.row (qs.out.az HV.out.2.1) (fun e=>by have e:w.heap.size=b:=e;omega));have y6:Y.cell? ⟨b,6,none⟩=some (.slice Ag c.af.length cg):=RY.cell (j:=6) rfl;have yz:b < Y.heap.size:=RY.1;have CC:=gH (lS Ag cg c.af Y Y (ag.refl _) (en (h:=⟨Ag,ng,cg⟩) cC CI.kv (fun g hm=>⟨rfl,rfl,nU.out.2.2.2 g hm⟩) nU.out.2.2.1) Xa.out);have HY:=gH (And.intro kY (And.intro CI (And.intro RY (show B≤Y.heap.size from Nat.le_trans tK kY.size))));rw [hY] at y6 yz;clear kY Zj CI RY Zk;go_wp2_with fail;refine (fH _).mono ?_;rintro e w5 ⟨rfl,rfl⟩;go_wp2_with fail;rw [← hY];clear hY y6 yz;refine CC.out.mono ?_;rintro e w6 ⟨v6,LF,rfl,a6,o6,DO⟩;obtain ⟨Ad,cd,rfl⟩:=dw o6;rw [fy (f:=cC) (fun _ _ h=>h.1) DO] at o6;have nX:=gH a6;have Gv:=gH o6
   have C5:=gH (NE (.slice Ad c.af.length cd) c.af 89 #[.pointer (some ⟨w.heap.size,0,none⟩)] (fun g=>bk g.aa x.aa&&bk g.table x.table) Y.heap.size w6 o6 nU.out.2.2.1 (lX o6) nU.out.2.2.2 Pu.out (fun w' kb g hg=>by
    have p:=kb.row (RX.out.az nX.out) (gh Gv.out RX.out.1)
    exact Pk g x.aa x.table w.heap.size w' p.1 (p.cell (j:=2) rfl) (p.cell (j:=3) rfl)))
   clear a6 o6 DO;go_wp2_with fail;refine C5.out.mono ?_;rintro e w7 ⟨⟨A3,n3,c3⟩,rfl,o7,TB,-⟩;have o7:w7.ownsRow Y.heap.size 106 6 (Hd.mk A3 n3 c3).v (ml c.af x.aa x.table).length ((ml c.af x.aa x.table).flatMap cC):=o7;obtain ⟨l,hl⟩:∃ l,ml c.af x.aa x.table=l:=⟨_,rfl⟩;rw [hl] at o7 ej;obtain rfl:=gm o7;clear hl;have aY:ag Y w7:=TB.aZ nX.out (fun g hg=>gh Gv.out hg);have HG:=gH (NC hb HY.out.2.2.2 HY.out.2.1 HY.out.2.2.1 aY (Nat.le_refl _) o7);have r7:=HY.out.2.2.1.az aY;have z7:=r7.1;have f7:=r7.2.2 6 (by simp [cK]);have u7:w7.cell? ⟨b,6,none⟩=some (.slice Ag c.af.length cg):=r7.cell (j:=6) rfl;clear o7 TB aY r7;simp only [Hd.v];go_wp2_with fail
   go_end0
   rw [ej.out];exact bU.after HY.out.1 HG.out
  ·have HP:=gH (show bU w B b (qP c x) (js F2) V from bU.NB rN.out m8.out (by rw [ej.out,if_neg h2]) h2)
   go_wp2_with fail;refine (ja F2 h2 _).mono ?_;rintro e w5 ⟨he,rfl⟩;unfold js at he;subst he
   dsimp only
   exact ⟨rfl,HP.out⟩
theorem B6 (c:bW) (hs ht hn hm hg:Hd) (L:List ay) (B b:Nat) (x:eW) (A6:Option Addr) (n6 c6:Nat) (A9:Option Addr) (n9 c9:Nat) (w:World) (hb:b < B) (tK:B≤w.heap.size) (C:dc w B c hs ht hn hm hg L) (sm:xK c) (R:ap w b (cK c hs ht hn hm hg)) :
  Calls Tryz.prog 57 #[.pointer (some ⟨b,0,none⟩),.agg #[.int .i64 x.kind,.string x.aJ,.string x.aa,.string x.table,.string x.name,.string x.role,.slice A6 n6 c6,.string x.rule.name,.int .i64 x.rule.kind,.slice A9 n9 c9,.int .i64 x.rule.low,.int .i64 x.rule.high,.string x.rule.aa,.string x.rule.table,.string x.rule.key,.int .i64 x.right,.bool x.opt]] w (bU w B b (ir c x)):=by
 have rh:=enters (P:=Tryz.prog) Tryz.func91 (by kernel_rfl) rfl;have rx:=enters (P:=Tryz.prog) Tryz.func93 (by kernel_rfl) rfl;have NF:=enters (P:=Tryz.prog) Tryz.func94 (by kernel_rfl) rfl
 have l1:w.heap.size < w.heap.size+1:=by omega
 obtain ⟨W,hW⟩:∃ W,W=w.alloc (.cells #[.int .i64 x.kind,.string x.aJ,.string x.aa,.string x.table,.string x.name,.string x.role,.slice A6 n6 c6,.string x.rule.name,.int .i64 x.rule.kind,.slice A9 n9 c9,.int .i64 x.rule.low,.int .i64 x.rule.high,.string x.rule.aa,.string x.rule.table,.string x.rule.key,.int .i64 x.right,.bool x.opt] 40):=⟨_,rfl⟩
 have aW:ag w W:=by rw [hW];exact (ag.refl w).alloc _
 have r1:ap W w.heap.size [.int .i64 x.kind,.string x.aJ,.string x.aa,.string x.table,.string x.name,.string x.role,.slice A6 n6 c6,.string x.rule.name,.int .i64 x.rule.kind,.slice A9 n9 c9,.int .i64 x.rule.low,.int .i64 x.rule.high,.string x.rule.aa,.string x.rule.table,.string x.rule.key,.int .i64 x.right,.bool x.opt]:=by rw [hW];exact bv (ag.refl _) (by simp)
 have r0:=R.az aW;have pZ:=gH (C.at sm);obtain ⟨b1,hb1⟩:∃ b,dQ c.aj.names x.role=b:=⟨_,rfl⟩;obtain ⟨u0,Xb⟩:∃ b,bk x.role dL=b:=⟨_,rfl⟩;obtain ⟨u1,Ia⟩:∃ b,c.ai.ae.any (fun s=>bk s.owner x.role)=b:=⟨_,rfl⟩;obtain ⟨u2,wG⟩:∃ b,c.ai.tables.any (fun t=>bk t.owner x.role)=b:=⟨_,rfl⟩;obtain ⟨u3,Xc⟩:∃ b,c.af.any (fun g=>bk g.aC x.role || bk g.to x.role)=b:=⟨_,rfl⟩;have C1:=gH (show ∀ V,ag W V→Calls Tryz.prog 18 #[.slice hn.a c.aj.names.length hn.c,.string x.role] V fun e w''=>e=.returned (.bool b1)∧V=w'' from fun V a=>hb1▸fY hn.a hn.c c.aj.names x.role V (aM (aW.trans a) pZ.out.fK))
 have CS:=gH (show ∀ V,ag W V→Calls Tryz.prog 19 #[.slice hs.a c.ai.ae.length hs.c,.func (.func 91) #[] #[.pointer (some ⟨w.heap.size,0,none⟩)]] V fun e w''=>e=.returned (.bool u1)∧ag V w'' from fun V a=>Ia▸DT hs.a hs.c c.ai.ae _ _ _ V (bm (aW.trans a) pZ.out.gQ) rh (fun w' a2 j hj=>by
  have p:=r1.az (a.trans a2)
  exact Pg _ _ x.role _ w' p.1 (p.cell (j:=5) rfl)))
 have CT:=gH (show ∀ V,ag W V→Calls Tryz.prog 92 #[.slice ht.a c.ai.tables.length ht.c,.func (.func 93) #[] #[.pointer (some ⟨w.heap.size,0,none⟩)]] V fun e w''=>e=.returned (.bool u2)∧ag V w'' from fun V a=>wG▸Ds ht.a ht.c c.ai.tables _ _ _ V (aQ (aW.trans a) pZ.out.tab) rx (fun w' a2 j hj e1 he=>by
  obtain ⟨A2,bT,A3,fA,rfl,_⟩:=he;have p:=r1.az (a.trans a2)
  exact Ph _ _ _ _ _ _ _ _ _ x.role _ w' p.1 (p.cell (j:=5) rfl)))
 have CG:=gH (show ∀ V,ag W V→Calls Tryz.prog 75 #[.slice hg.a c.af.length hg.c,.func (.func 94) #[] #[.pointer (some ⟨w.heap.size,0,none⟩)]] V fun e w''=>e=.returned (.bool u3)∧ag V w'' from fun V a=>Xc▸Dr hg.a hg.c c.af _ _ _ V (eZ (aW.trans a) pZ.out.kv) NF (fun w' a2 j hj=>by
  have p:=r1.az (a.trans a2)
  exact Pj _ x.role _ w' p.1 (p.cell (j:=5) rfl)))
 obtain ⟨F,hF⟩:∃ F,eC c.aj (fO x.role c.aj)=F:=⟨_,rfl⟩;have C2:=gH (show ∀ V,ag W V→Calls Tryz.prog 95 #[.agg #[.slice hn.a c.aj.names.length hn.c,.slice hm.a c.aj.members.length hm.c],.string x.role] V (jE V F) from fun V a=>hF▸TC c.aj hn.a hn.c hm.a hm.c x.role V (aM (aW.trans a) pZ.out.fK) (bJ (aW.trans a) pZ.out.mem));have ej:=gH (show ir c x=if b1 then (if u0 || u1 || u2 || u3 then (c,73) else (if F.2=0 then ({ c with aj:=F.1 },0) else (c,F.2))) else (c,71) by unfold ir io;rw [hb1,hF,Xb,Ia,wG,Xc]);have Zl:=gH Xb;have HC:=gH C;have m8:=gH R;have br:=gH aW;have qs:=gH r1;have nU:=gH sm;have z0:=r0.1;have z1:=r1.1;have x4:=r0.cell (j:=4) rfl;have y5:=r1.cell (j:=5) rfl;clear C sm R aW r0 r1 hF pZ rh rx NF hb1 Ia wG Xc Xb;have KS:=gH (show ∀ V,ag W V→(V.cell? ⟨b,4,none⟩=some (.slice hn.a c.aj.names.length hn.c)∧V.cell? ⟨w.heap.size,5,none⟩=some (.string x.role)) from fun V a=>⟨a.cell_kept x4,a.cell_kept y5⟩);clear x4 y5;obtain ⟨F0,F2⟩:=F
 go_enter Tryz.func57,Tryz.ntmps57
 go_wp2_with fail;rw [← hW];clear hW
 cases b1
 ·have KB:=gH (show ∀ V,ag W V→bU w B b (ir c x) (js 71) V from fun V a=>bU.NB (br.out.trans a) m8.out (by rw [ej.out];rfl) (by decide))
  have Xd:=KS.out W (ag.refl _);have x4:=Xd.1;have y5:=Xd.2;clear Xd
  go_region_dies
  all_goals
   rename_i K hK;refine (C1.out _ (ag.refl _).drew).mono ?_;rintro e w2 ⟨rfl,rfl⟩
   dsimp only
   refine hK _ _ ?_;clear hK K;refine wpAny_ready (rs:=[8]) (by kernel_rfl) (by simp) ?_;refine AllReady.cons rfl (fun K hK=>?_) AllReady.nil;go_simp;refine (lv 71 _).mono ?_;rintro e w2 ⟨he,rfl⟩;unfold js at he;subst he;exact ⟨rfl,KB.out _ (ag.refl _).drew⟩
 have KB:=gH (show (u0 || u1 || u2 || u3)=true→∀ V,ag W V→bU w B b (ir c x) (js 73) V from fun h V a=>bU.NB (br.out.trans a) m8.out (by rw [ej.out,if_pos rfl,h];rfl) (by decide))
 go_region_held3 (fun V=>V.cell? ⟨b,4,none⟩=some (.slice hn.a c.aj.names.length hn.c)∧V.cell? ⟨w.heap.size,5,none⟩=some (.string x.role))
  ((refine KS.out _ ?_;first
   | with_reducible exact (ag.refl _).drew
   | with_reducible exact ((ag.refl _).alloc _).drew
   | fail))
  ((first | (go_at_call 18;refine (C1.out _ (ag.refl _).drew).mono ?_;rintro e w2 ⟨rfl,rfl⟩) | (go_at_call 16;refine (ou 71 _).mono ?_;rintro e w2 ⟨rfl,rfl⟩)))
 obtain ⟨X,hX⟩:∃ X,X=W.drew:=⟨_,rfl⟩
 have aX:ag W X:=by rw [hX];exact (ag.refl W).drew
 rw [← hX];clear hX;have gN:=gH aX;have p0:=m8.out.az (br.out.trans aX);have p1:=qs.out.az aX;clear aX z0 z1;have HA:=gH gN.out;have z0:=p0.1;have z1:=p1.1;have x2:=p0.cell (j:=2) rfl;have x3:=p0.cell (j:=3) rfl;have x4:=p0.cell (j:=4) rfl;have x5:=p0.cell (j:=5) rfl;have x6:=p0.cell (j:=6) rfl;have y5:=p1.cell (j:=5) rfl;clear p0 p1
 have hbr:dL.toList=[114,111,111,116]:=by first | rfl | decide | (unfold dL;simp) | kernel_rfl
 have rT:(x.role.toList==dL.toList)=u0:=Zl.out;rw [hbr] at rT;clear hbr;clear Zl
 cases u0
 rotate_left
 ·go_wp2_with fail
  refine (lv 73 _).mono ?_;rintro e w9 ⟨he,rfl⟩;unfold js at he;subst he;exact ⟨rfl,KB.out (by simp) _ HA.out⟩
 go_wp2_with fail;refine (CS.out _ HA.out).mono ?_;rintro e v1 ⟨rfl,a1⟩;have NG:=gH (HA.out.trans a1);clear HA a1 x2 x3 x4 x5 x6 y5 z0 z1;have HA:=NG;clear NG;have p0:=m8.out.az (br.out.trans HA.out);have p1:=qs.out.az HA.out;have z0:=p0.1;have z1:=p1.1;have x2:=p0.cell (j:=2) rfl;have x3:=p0.cell (j:=3) rfl;have x4:=p0.cell (j:=4) rfl;have x5:=p0.cell (j:=5) rfl;have x6:=p0.cell (j:=6) rfl;have y5:=p1.cell (j:=5) rfl;clear p0 p1
 cases u1
 rotate_left
 ·go_wp2_with fail
  refine (lv 73 _).mono ?_;rintro e w9 ⟨he,rfl⟩;unfold js at he;subst he;exact ⟨rfl,KB.out (by simp) _ HA.out⟩
 go_wp2_with fail;refine (CT.out _ HA.out).mono ?_;rintro e v2 ⟨rfl,a2⟩;have NG:=gH (HA.out.trans a2);clear HA a2 x2 x3 x4 x5 x6 y5 z0 z1;have HA:=NG;clear NG;have p0:=m8.out.az (br.out.trans HA.out);have p1:=qs.out.az HA.out;have z0:=p0.1;have z1:=p1.1;have x2:=p0.cell (j:=2) rfl;have x3:=p0.cell (j:=3) rfl;have x4:=p0.cell (j:=4) rfl;have x5:=p0.cell (j:=5) rfl;have x6:=p0.cell (j:=6) rfl;have y5:=p1.cell (j:=5) rfl;clear p0 p1
 cases u2
 rotate_left
 ·go_wp2_with fail
  refine (lv 73 _).mono ?_;rintro e w9 ⟨he,rfl⟩;unfold js at he;subst he;exact ⟨rfl,KB.out (by simp) _ HA.out⟩
 go_wp2_with fail;refine (CG.out _ HA.out).mono ?_;rintro e v3 ⟨rfl,a3⟩;have NG:=gH (HA.out.trans a3);clear HA a3 x2 x3 x4 x5 x6 y5 z0 z1;have HA:=NG;clear NG;have p0:=m8.out.az (br.out.trans HA.out);have p1:=qs.out.az HA.out;have z0:=p0.1;have z1:=p1.1;have x2:=p0.cell (j:=2) rfl;have x3:=p0.cell (j:=3) rfl;have x4:=p0.cell (j:=4) rfl;have x5:=p0.cell (j:=5) rfl;have x6:=p0.cell (j:=6) rfl;have y5:=p1.cell (j:=5) rfl;clear p0 p1
 cases u3
 rotate_left
 ·go_wp2_with fail
  refine (lv 73 _).mono ?_;rintro e w9 ⟨he,rfl⟩;unfold js at he;subst he;exact ⟨rfl,KB.out (by simp) _ HA.out⟩
 go_wp2_with fail;refine (ou 73 _).mono ?_;rintro e w9 ⟨rfl,rfl⟩;have KX:=gH (show ∀ V,ag v3 V→(V.cell? ⟨b,4,none⟩=some (.slice hn.a c.aj.names.length hn.c)∧V.cell? ⟨b,5,none⟩=some (.slice hm.a c.aj.members.length hm.c)∧V.cell? ⟨w.heap.size,5,none⟩=some (.string x.role)) from fun V a=>⟨a.cell_kept x4,a.cell_kept x5,a.cell_kept y5⟩);clear x2 x3 x4 x5 x6 y5;go_wp2_with fail
 go_region_held3 (fun V=>V.cell? ⟨b,4,none⟩=some (.slice hn.a c.aj.names.length hn.c)∧V.cell? ⟨b,5,none⟩=some (.slice hm.a c.aj.members.length hm.c)∧V.cell? ⟨w.heap.size,5,none⟩=some (.string x.role))
  ((refine KX.out _ ?_;first
   | with_reducible exact (ag.refl _).drew
   | with_reducible exact a4
   | with_reducible exact ((ag.refl _).alloc _).drew
   | with_reducible exact a4.alloc _
   | (with_reducible refine ag.setCell (ag.setCell a4 _ _ ?_) _ _ ?_)<;>exact Nat.le_refl _
   | (with_reducible refine ag.setCell (ag.setCell (a4.alloc _) _ _ ?_) _ _ ?_)<;>exact a4.size
   | fail))
  ((go_at_call 95;first
   | (refine (C2.out v3.drew (HA.out.trans (ag.refl _).drew)).mono ?_;rintro e w3 ⟨⟨A1,n1,c1⟩,⟨A2,n2,c2⟩,rfl,a3,ob⟩;have a4:ag v3 w3:=(ag.refl _).drew.trans a3;simp only [Hd.v])
   | (refine (C2.out _ (HA.out.trans ((ag.refl _).alloc _).drew)).mono ?_;rintro e w3 ⟨⟨A1,n1,c1⟩,⟨A2,n2,c2⟩,rfl,a3,ob⟩;have a4:ag v3 w3:=((ag.refl _).alloc _).drew.trans a3;have rb:=(bv (w:=v3) (c:=[.slice none 0 0,.slice none 0 0]) (t:=29) (((ag.refl _)).drew.trans a3) rfl);have Fu:=rb.1;have LJ:=rb.cell (j:=0) rfl;have LL:=rb.2.2 0 (by simp);have O8:=rb.cell (j:=1) rfl;have O9:=rb.2.2 1 (by simp);simp only [Hd.v])))
 focus
  obtain ⟨V,hV⟩:∃ V,V=w3.alloc (.cells #[.slice A1 n1 c1,.slice A2 n2 c2] 29):=⟨_,rfl⟩;obtain ⟨bx,lf⟩:∃ bx,bx=w3.heap.size:=⟨_,rfl⟩
  have rV:ap V bx [.slice A1 n1 c1,.slice A2 n2 c2]:=by rw [hV,lf];exact bv (ag.refl _) rfl
  have aV:ag v3 V:=by rw [hV];exact a4.alloc _
  have xb:dY V v3.heap.size ⟨A1,n1,c1⟩ ⟨A2,n2,c2⟩ F0:=by rw [hV];exact dY.down (ob.az ((ag.refl _).alloc _)) (Nat.le_refl v3.heap.size)
  have pk:v3.heap.size≤bx:=by rw [lf];exact a4.size
 rotate_left
 focus
  obtain ⟨V,hV⟩:∃ V,V=(w3.setCell ⟨v3.heap.size,0,none⟩ (.slice A1 n1 c1)).setCell ⟨v3.heap.size,1,none⟩ (.slice A2 n2 c2):=⟨_,rfl⟩;obtain ⟨bx,lf⟩:∃ bx,bx=v3.heap.size:=⟨_,rfl⟩
  have rV:ap V bx [.slice A1 n1 c1,.slice A2 n2 c2]:=by rw [hV,lf];exact dg rb rfl _ _
  have aV:ag v3 V:=by rw [hV];exact ag.setCell (ag.setCell a4 _ _ (Nat.le_refl _)) _ _ (Nat.le_refl _)
  have xb:dY V v3.heap.size ⟨A1,n1,c1⟩ ⟨A2,n2,c2⟩ F0:=by rw [hV];exact dY.down (ob.kb (lJ w3 v3.heap.size (.slice A1 n1 c1) (.slice A2 n2 c2)) fun g hg e=>by have h1:=(ob.lt g hg).1;have h2:((v3.alloc (.cells #[.slice none 0 0,.slice none 0 0] 29)).drew).heap.size=v3.heap.size+1:=(by simp);have e2:g=v3.heap.size:=e;omega) (by show v3.heap.size≤((v3.alloc (.cells #[.slice none 0 0,.slice none 0 0] 29)).drew).heap.size;simp)
  have pk:v3.heap.size≤bx:=by rw [lf];exact Nat.le_refl _
 rotate_left
 all_goals
  rw [← hV,← lf];have HV:=gH (And.intro rV (And.intro aV (And.intro xb trivial)));have TA:=gH pk;clear hV lf rV aV xb ob a3 a4 pk
  (try clear rb Fu LJ LL O8 O9)
  have aT:=(br.out.trans HA.out).trans HV.out.2.1;have q:=m8.out.az aT;have u4:=q.cell (j:=4) rfl;have g4:=q.2.2 4 (by simp [cK]);have u5:=q.cell (j:=5) rfl;have g5:=q.2.2 5 (by simp [cK]);have qz:=q.1;have v0:=HV.out.1.cell (j:=0) rfl;have v1:=HV.out.1.cell (j:=1) rfl;have vz:=HV.out.1.1;have rN:=gH aT;clear aT q;by_cases h2:F2=0
  ·subst h2
   have HP:=gH (DR hb tK HC.out m8.out rN.out (br.out.trans HA.out).size HV.out.2.2.1 (gm HV.out.2.2.1.fK) (gm HV.out.2.2.1.mem));go_wp2_with fail;refine (fH _).mono ?_;rintro e w5 ⟨rfl,rfl⟩;go_wp2_with fail
   go_end0
   rw [ej.out];exact HP.out
  ·have HP:=gH (show bU w B b (ir c x) (js F2) V from bU.NB rN.out m8.out (by rw [ej.out];simp only [if_neg h2,Bool.or_self,Bool.false_eq_true,if_false,if_true]) h2)
   go_wp2_with fail;refine (ja F2 h2 _).mono ?_;rintro e w5 ⟨he,rfl⟩;unfold js at he;subst he
   dsimp only
   exact ⟨rfl,HP.out⟩
theorem vS (V:World) (r:Nat) (v0 v1 v2 v3 v4 v5 v6:Value):(((((((V.setCell ⟨r,0,none⟩ v0).setCell ⟨r,1,none⟩ v1).setCell ⟨r,2,none⟩ v2).setCell ⟨r,3,none⟩ v3).setCell ⟨r,4,none⟩ v4).setCell ⟨r,5,none⟩ v5).setCell ⟨r,6,none⟩ v6).drew=((((((V.drew.setCell ⟨r,0,none⟩ v0).setCell ⟨r,1,none⟩ v1).setCell ⟨r,2,none⟩ v2).setCell ⟨r,3,none⟩ v3).setCell ⟨r,4,none⟩ v4).setCell ⟨r,5,none⟩ v5).setCell ⟨r,6,none⟩ v6:=by simp only [World.setCell_drew]
def zF (c:bW) (hs ht hn hm hg:Hd):List Value:=[.int .i64 c.aA,.int .i64 c.version,.slice hs.a c.ai.ae.length hs.c,.slice ht.a c.ai.tables.length ht.c,.slice hn.a c.aj.names.length hn.c,.slice hm.a c.aj.members.length hm.c,.slice hg.a c.af.length hg.c]
structure qf (V:World) (B q:Nat) (c:bW) (hs ht hn hm hg:Hd) (L:List ay):Prop where
 row:ap V q (zF c hs ht hn hm hg)
 cat:dc V B c hs ht hn hm hg L
 no:∀ g,iZ hs ht hn hm L g∨g∈hg.blk→g≠q
theorem qf.store {P:Nat→Prop} {V V':World} {B q:Nat} {c:bW} {hs ht hn hm hg h:Hd} {L:List ay} {l:List cB} (o:qf V B q c hs ht hn hm hg L) (k:Kb P V V') (hq:¬ P q) (hP:∀ g,iZ hs ht hn hm L g→¬ P g)
  (ho:V'.ownsRow B 106 6 h.v l.length (l.flatMap cC)) (hb:∀ g∈h.blk,g∈hg.blk∨V.heap.size≤g):qf (V'.setCell ⟨q,6,none⟩ (.slice h.a l.length h.c)) B q { c with af:=l } hs ht hn hm h L:=by
 have Zm:∀ g,iZ hs ht hn hm L g∨g∈h.blk→g≠q:=fun g hg=>by
  rcases hg with h1 | h1
  ·exact o.no g (.inl h1)
  ·rcases hb g h1 with h2 | h2
   ·exact o.no g (.inr h2)
   ·have:=o.row.1;omega
 exact ⟨(k.row o.row hq).set 6 _ (by simp [zF]),(o.cat.Fp k hP ho hb).kb (Kb.set _ _ _ _) (fun g hg e=>Zm g hg e),Zm⟩
theorem qf.done {V w:World} {B q r:Nat} {c:bW} {hs ht hn hm hg:Hd} {L:List ay} {zs:List Value} (o:qf V B q c hs ht hn hm hg L) (hr:ap V r zs) (hl:zs.length=7) (a:ag w V) (hwr:w.heap.size≤r) (hrB:r < B) :
  ap (((((((V.setCell ⟨r,0,none⟩ (.int .i64 c.aA)).setCell ⟨r,1,none⟩ (.int .i64 c.version)).setCell ⟨r,2,none⟩ (.slice hs.a c.ai.ae.length hs.c)).setCell ⟨r,3,none⟩ (.slice ht.a c.ai.tables.length ht.c)).setCell ⟨r,4,none⟩ (.slice hn.a c.aj.names.length hn.c)).setCell ⟨r,5,none⟩ (.slice hm.a c.aj.members.length hm.c)).setCell ⟨r,6,none⟩ (.slice hg.a c.af.length hg.c)) r (zF c hs ht hn hm hg) ∧
  pg w (c,0) (.returned (.tuple #[.agg (zF c hs ht hn hm hg).toArray,.int .i64 0])) (((((((V.setCell ⟨r,0,none⟩ (.int .i64 c.aA)).setCell ⟨r,1,none⟩ (.int .i64 c.version)).setCell ⟨r,2,none⟩ (.slice hs.a c.ai.ae.length hs.c)).setCell ⟨r,3,none⟩ (.slice ht.a c.ai.tables.length ht.c)).setCell ⟨r,4,none⟩ (.slice hn.a c.aj.names.length hn.c)).setCell ⟨r,5,none⟩ (.slice hm.a c.aj.members.length hm.c)).setCell ⟨r,6,none⟩ (.slice hg.a c.af.length hg.c)):=by
 have kF:=dG V r (.int .i64 c.aA) (.int .i64 c.version) (.slice hs.a c.ai.ae.length hs.c) (.slice ht.a c.ai.tables.length ht.c) (.slice hn.a c.aj.names.length hn.c) (.slice hm.a c.aj.members.length hm.c) (.slice hg.a c.af.length hg.c);refine ⟨cO hr hl _ _ _ _ _ _ _,hs,ht,hn,hm,hg,L,rfl,kF.aZ a (fun k hk e=>by have e:k=r:=e;omega),(o.cat.kb kF (fun g h1 e=>?_)).down (by omega)⟩;have e:g=r:=e;have:=(o.cat.lt h1).1;omega
end Go.Proofs.YtmflccbnoeaafaaGreat
namespace Go.Proofs.YtmflccbnoeaafaaGreat
open Go.RowKit Go.Deep Go.Lib
set_option maxRecDepth 100000
set_option linter.unusedVariables false
set_option maxHeartbeats 64000000
theorem B7 (A:Option Addr) (n cap B nb:Nat) (xs:List Value) (x:cB) (w:World) (ho:w.ownsRow B 106 6 (.slice A n cap) n xs) (iH:w.heap[nb]? = some (.cells #[.string x.aa,.string x.table,.int .i64 x.right,.string x.aC,.string x.to,.bool x.opt] 106 (0,0))) (hn:n≤1000000) (hB:B≤w.heap.size) :
  Calls Tryz.prog 143 #[.slice A n cap,.int .i64 n,.slice (some ⟨nb,0,none⟩) 1 1] w (kU 106 6 w B (.slice A n cap) n n xs [.string x.aa,.string x.table,.int .i64 x.right,.string x.aC,.string x.to,.bool x.opt]):=by
 obtain ⟨i0,eU,hz0,hz1,hz2⟩:=info_parts pN;have HI:=gH eU;have HZ:=gH (And.intro hz0 (And.intro hz1 hz2));have HO:=gH ho;have TD:=gH iH;have hx:=ho.1
 have TE:n+1≤maxLen:=by unfold maxLen;omega
 have La:(n+1)*80≤140737488355328:=by omega
 have mo:n≤cap:=by
  rcases ho.2 with ⟨hv,Gx⟩ | ⟨g,c,cur,hv,_,_,hc,_⟩
  ·omega
  ·simp only [Value.slice.injEq] at hv;omega
 have hcm:cap≤9223372036854775807:=by
  rcases ho.2 with ⟨hv,Gx⟩ | ⟨g,c,cur,hv,_,_,hc,hm,_⟩
  ·simp only [Value.slice.injEq] at hv;omega
  ·simp only [Value.slice.injEq] at hv;simp only [maxLen] at hm;omega
 have HF:=gH (show ∀ gg cap' w5,w5.ownsRow B 106 6 (.slice (some ⟨gg,0,none⟩) (n+1) cap') (n+1) (xs++[.string x.aa,.string x.table,.int .i64 x.right,.string x.aC,.string x.to,.bool x.opt])→w.grownBy w5 (Value.slice A n cap).ownBlock→((Value.slice A n cap).ownBlock=some gg∨gg=w.heap.size)→kU 106 6 w B (.slice A n cap) n n xs [.string x.aa,.string x.table,.int .i64 x.right,.string x.aC,.string x.to,.bool x.opt] (.returned (.slice (some ⟨gg,0,none⟩) (n+1) cap')) w5 from fun gg cap' w5 h2 h3 h4=>by
  refine ⟨⟨some ⟨gg,0,none⟩,n+1,cap'⟩,rfl,?_,jD h3,fun g hg=>?_⟩
  ·rw [List.take_of_length_le (by omega),List.drop_of_length_le (by omega),List.append_nil];exact h2
  ·rw [cM,List.mem_singleton] at hg
   have hg:g=gg:=hg;subst hg
   rcases h4 with h | h
   ·exact .inl h
   ·exact .inr (by omega))
 clear eU hz0 hz1 hz2 ho iH hx
 have k1:(n:Int)≤(cap:Int):=by omega
 have k2:(n:Int)≤(n:Int):=Int.le_refl _
 go_enter Tryz.func143,Tryz.ntmps143
 by_cases hc:cap=n
 focus
  subst hc
 rotate_left
 rotate_left
 all_goals
  cases A
  all_goals
   go_wp2_with (at_builtin;go_must (refine wpList_append_lies _ rfl _ _ 30 rfl B 106 i0 _ 6 80 Tryz.underlying30 HI.out HZ.out.1 HZ.out.2.1 HZ.out.2.2 rfl (by decide) _ _ xs rfl HO.out ⟨nb,0,none⟩ 1 1 [.string x.aa,.string x.table,.int .i64 x.right,.string x.aC,.string x.to,.bool x.opt] rfl rfl (World.news_of_block (cs:=#[.string x.aa,.string x.table,.int .i64 x.right,.string x.aC,.string x.to,.bool x.opt]) (t:=106) (fr:=(0,0)) TD.out) (by simp [Value.oneCell']) (by omega) TE La hB w.heap.size rfl ?_);intro gg cap' w5 eX hgrow hat nR;have HP:=gH (HF.out gg cap' w5 eX hgrow hat);clear eX hgrow hat nR)
   go_ret;exact HP.out
theorem B8 (g n k m B nb:Nat) (xs:List Value) (x:cB) (w:World) (ho:w.ownsRow B 106 6 (.slice (some ⟨g,0,none⟩) n n) n xs) (I5:n=k+1+m) (h1:∀ u∈xs,u.oneCell'=true) (iH:w.heap[nb]? = some (.cells #[.string x.aa,.string x.table,.int .i64 x.right,.string x.aC,.string x.to,.bool x.opt] 106 (0,0))) (hn:n≤1000000) (hB:B≤w.heap.size) :
  Calls Tryz.prog 143 #[.slice (some ⟨g,0,none⟩) n n,.int .i64 k,.slice (some ⟨nb,0,none⟩) 1 1] w (kU 106 6 w B (.slice (some ⟨g,0,none⟩) n n) n k xs [.string x.aa,.string x.table,.int .i64 x.right,.string x.aC,.string x.to,.bool x.opt]):=by
 obtain ⟨i0,eU,hz0,hz1,hz2⟩:=info_parts pN;obtain ⟨q,hq⟩:∃ q,q=m+2:=⟨_,rfl⟩;have hx:=ho.1
 have D3:k+q=n+1:=by omega
 have hap:=lY (P:=Tryz.prog) w B 30 3 30 106 i0 _ 6 80 .i64 Tryz.underlying30 Tryz.underlying3 eU hz0 hz1 hz2 rfl (by decide) g n n k q xs ho (by omega) (by omega) (by omega) (by rw [D3];omega) (by rw [D3];unfold maxLen;omega) (Nat.le_refl _);rw [D3] at hap;obtain ⟨c2,W2,hap,o2,a2,z2,hc2,ux⟩:=hap;obtain ⟨G,hG⟩:∃ G,w.heap.size=G:=⟨_,rfl⟩;have B9:k*6≤n*6:=Nat.mul_le_mul_right _ (by omega);obtain ⟨zs,hzs⟩:∃ zs,(Builtin.zeroCells (Value.cells (.agg #[.string ByteArray.empty,.string ByteArray.empty,.int .i64 0,.string ByteArray.empty,.string ByteArray.empty,.bool false])) q).toList=zs:=⟨_,rfl⟩
 have lz:zs.length=6+(n - k)*6:=by
  rw [← hzs,ed]
  show q*6=_
  omega
 rw [hG] at hap o2;rw [hzs] at o2;obtain ⟨_,_,hv2,_,_,r2⟩:=aR o2 (by omega);simp only [Value.slice.injEq,true_and,Option.some.injEq,Addr.mk.injEq,and_true] at hv2;obtain ⟨rfl,rfl⟩:=hv2;have l2:(xs.take (k*6)++zs).length=(n+1)*6:=o2.1;have zG:W2.heap[nb]? = some (.cells #[.string x.aa,.string x.table,.int .i64 x.right,.string x.aC,.string x.to,.bool x.opt] 106 (0,0)):=(a2.block nb (lt_of_block iH)).trans iH;obtain ⟨W3,hW3⟩:∃ W3,W3=W2.setCells G (k*6) [.string x.aa,.string x.table,.int .i64 x.right,.string x.aC,.string x.to,.bool x.opt]:=⟨_,rfl⟩
 have ko:∀ ty,(Builtin.copy_ #[30,30] ty #[.slice (some ⟨G,k*6,none⟩) (n+1 - k) (c2 - k),.slice (some ⟨nb,0,none⟩) 1 1]).run Tryz.prog W2=.ok (goInt 1) W3:=fun ty=>by
  rw [hW3];refine ew W2 _ _ ty 106 6 G (k*6) (n+1 - k) (c2 - k) ⟨nb,0,none⟩ 1 1 1 [.string x.aa,.string x.table,.int .i64 x.right,.string x.aC,.string x.to,.bool x.opt] Tryz.underlying30 (by rw [eU];simp [hz1]) (by show min 1 (n+1 - k)=1;omega) rfl (World.news_of_block (cs:=#[.string x.aa,.string x.table,.int .i64 x.right,.string x.aC,.string x.to,.bool x.opt]) (t:=106) (fr:=(0,0)) zG) (fun j hj=>?_) (fun j hj=>?_) (by simp [Value.oneCell'])
  ·have hj':j < 6:=hj
   have hl:k*6+j < (xs.take (k*6)++zs).length:=by rw [l2];omega
   rw [r2.2.1 _ hl,List.getElem?_eq_getElem hl];rfl
  ·have hj':j < 6:=hj
   exact r2.2.2 _ (by rw [l2];omega)
 have o3:=bu (bG (g:=G) rfl [.string x.aa,.string x.table,.int .i64 x.right,.string x.aC,.string x.to,.bool x.opt] (k*6) o2) (ag.refl (W2.setCells G (k*6) [.string x.aa,.string x.table,.int .i64 x.right,.string x.aC,.string x.to,.bool x.opt])).drew;rw [← hW3] at o3;obtain ⟨_,_,hv3,_,_,r3⟩:=aR o3 (by omega);simp only [Value.slice.injEq,true_and,Option.some.injEq,Addr.mk.injEq,and_true] at hv3;obtain ⟨rfl,rfl⟩:=hv3;have l3:(fu (xs.take (k*6)++zs) (k*6) [.string x.aa,.string x.table,.int .i64 x.right,.string x.aC,.string x.to,.bool x.opt]).length=(n+1)*6:=o3.1;have nR:=ho.lt g rfl
 have I6:Kb (fun x=>x=G) w W3.drew:=by
  rw [hW3];exact ((Kb.aH a2).trans (bA G _ _ _)).trans (Kb.aH (ag.refl _).drew)
 have og:W3.drew.ownsRow B 106 6 (.slice (some ⟨g,0,none⟩) n n) n xs:=aP ho I6 (fun x hx e=>by have e:x=G:=e;have h5:x=g:=(by simpa [Value.ownBlock,eq_comm] using hx);omega);obtain ⟨ds,lD⟩:∃ ds,xs.drop (k*6)=ds:=⟨_,rfl⟩
 have ld:ds.length=(n - k)*6:=by rw [← lD,List.length_drop,hx];omega
 obtain ⟨W4,D4⟩:∃ W4,W4=W3.drew.setCells G ((k+1)*6) ds:=⟨_,rfl⟩
 have kp:∀ ty,(Builtin.copy_ #[30,30] ty #[.slice (some ⟨G,(k+1)*6,none⟩) (n - k) (c2 - (k+1)),.slice (some ⟨g,k*6,none⟩) (n - k) (n - k)]).run Tryz.prog W3.drew=.ok (goInt ((n - k:Nat):Int)) W4:=fun ty=>by
  rw [D4];refine ew W3.drew _ _ ty 106 6 G ((k+1)*6) (n - k) (c2 - (k+1)) ⟨g,k*6,none⟩ (n - k) (n - k) (n - k) ds Tryz.underlying30 (by rw [eU];simp [hz1]) (by show min (n - k) (n - k)=n - k;omega) ld (fun j u hj=>?_) (fun j hj=>?_) (fun j hj=>?_) (fun u hu=>h1 u (by rw [← lD] at hu;exact List.mem_of_mem_drop hu))
  ·rw [← lD,List.getElem?_drop] at hj
   rw [Addr.add_lit];have h5:=og.cells (g:=g) rfl _ u hj;rw [Addr.add_lit] at h5
   simpa using h5
  ·rw [ld] at hj
   have hl:(k+1)*6+j < (fu (xs.take (k*6)++zs) (k*6) [.string x.aa,.string x.table,.int .i64 x.right,.string x.aC,.string x.to,.bool x.opt]).length:=by rw [l3];omega
   rw [r3.2.1 _ hl,List.getElem?_eq_getElem hl];rfl
  ·rw [ld] at hj
   exact r3.2.2 _ (by rw [l3];omega)
 have HP:=gH (show kU 106 6 w B (.slice (some ⟨g,0,none⟩) n n) n k xs [.string x.aa,.string x.table,.int .i64 x.right,.string x.aC,.string x.to,.bool x.opt] (.returned (.slice (some ⟨G,0,none⟩) (n+1) c2)) W4 from by
  have o4:=bG (g:=G) rfl ds ((k+1)*6) o3;rw [← D4] at o4
  have e1:(k+1)*6=k*6+6:=by omega
  rw [e1,← lD,xj xs [.string x.aa,.string x.table,.int .i64 x.right,.string x.aC,.string x.to,.bool x.opt] zs (k*6) 6 ((n - k)*6) (by rw [hx];omega) rfl lz] at o4;refine ⟨⟨some ⟨G,0,none⟩,n+1,c2⟩,rfl,bV o4 (by omega),?_,fun x hx=>?_⟩
  ·rw [D4]
   exact (I6.trans (bA G _ _ _)).mono fun x hx e=>by have e:x=G:=e;omega
  ·rw [cM,List.mem_singleton] at hx
   have hx:x=G:=hx
   exact .inr (by omega))
 have DY:(q:Int)=(n:Int)+1 - (k:Int):=by omega
 rw [DY] at hap;clear DY
 have Gl:¬ n=k:=by omega
 have Pv:¬ c2=k:=by omega
 have I7:¬ c2=k+1:=by omega
 have hne:((k:Int)==(n:Int))=false:=by rw [beq_eq_false_iff_ne];omega
 have j1:(k:Int)≤(n:Int):=by omega
 have j2:(k:Int)≤(n:Int)+1:=by omega
 have j3:(k:Int)+1≤(n:Int)+1:=by omega
 have j4:(0:Int)≤(k:Int)+1:=by omega
 have j5:((n:Int) < (n:Int)+1):=by omega
 have j6:(n:Int)+1≤(c2:Int):=by omega
 have w2:IntKind.i64.wrap ((k:Int)+1)=(k:Int)+1:=IntWalk.i64_in _ (by omega)
 have TF:k < n:=by omega
 clear I5 hq D3 ux hW3 D4 o2 o3 r2 r3 og I6 nR zG iH ho h1 hx lz l2 l3 ld lD hzs a2 z2 eU hz0 hz1 hz2 hG B9
 go_enter Tryz.func143,Tryz.ntmps143
 (try simp only [Nat.mul_one] at ko kp)
 have I8:=gH hap;have yK:=gH ko;have xL:=gH kp;clear hap ko kp
 go_wp2_with (first
  | (at_builtin;refine ie _ rfl _ _ 30 3 rfl _ _ rfl rfl I8.out ?_)
  | (refine eJ _ rfl _ _ 30 30 rfl _ _ rfl rfl (yK.out _) ?_))
 go_region_law (refine fw rfl _ _ 30 30 rfl _ _ (by simp [Act.eval,Act.put]) (by simp [Act.eval,Act.put]) (xL.out _) ?_)
 go_wp2_with fail;go_ret;exact HP.out
theorem Fy (g n cap k m B nb:Nat) (xs:List Value) (x:cB) (w:World) (ho:w.ownsRow B 106 6 (.slice (some ⟨g,0,none⟩) n cap) n xs) (I5:n=k+1+m) (iu:n < cap) (h1:∀ u∈xs,u.oneCell'=true) (iH:w.heap[nb]? = some (.cells #[.string x.aa,.string x.table,.int .i64 x.right,.string x.aC,.string x.to,.bool x.opt] 106 (0,0))) (xO:nb≠g) (hn:n≤1000000) :
  Calls Tryz.prog 143 #[.slice (some ⟨g,0,none⟩) n cap,.int .i64 k,.slice (some ⟨nb,0,none⟩) 1 1] w (kU 106 6 w B (.slice (some ⟨g,0,none⟩) n cap) n k xs [.string x.aa,.string x.table,.int .i64 x.right,.string x.aC,.string x.to,.bool x.opt]):=by
 obtain ⟨i0,eU,hz0,hz1,hz2⟩:=info_parts pN;have hx:=ho.1
 obtain ⟨cur,se,nv,tR,hcs,Ax⟩:∃ cur:Array Value,B≤g∧w.heap[g]? = some (.cells cur 106 (0,0))∧cap≤maxLen∧cur.size=cap*6∧cur.toList.take (n*6)=xs:=by
  rcases ho.2 with ⟨hv,_⟩ | ⟨g',c',cur,hv,hb,hg,hc,hm,hs,ht⟩
  ·simp at hv
  ·simp only [Value.slice.injEq,Option.some.injEq,Addr.mk.injEq,and_true,true_and] at hv
   obtain ⟨rfl,rfl⟩:=hv;exact ⟨cur,hb,hg,hm,hs,ht⟩
 obtain ⟨ts,E9⟩:∃ ts,(cur.toList.drop (n*6)).take 6=ts:=⟨_,rfl⟩
 have I9:ts.length=6:=by rw [← E9,List.length_take,List.length_drop,Array.length_toList,hcs];omega
 have o1:w.ownsRow B 106 6 (.slice (some ⟨g,0,none⟩) (n+1) cap) (n+1) (xs++ts):=by
  refine ⟨by rw [List.length_append,hx,I9];omega,.inr ⟨g,cap,cur,rfl,se,nv,by omega,tR,hcs,?_⟩⟩;rw [← Ax,← E9,Nat.add_mul,Nat.one_mul,← List.take_add]
 have Ja:=bu o1 (ag.refl w).drew;obtain ⟨_,_,i5,_,_,r1⟩:=aR Ja (by omega);simp only [Value.slice.injEq,true_and,Option.some.injEq,Addr.mk.injEq,and_true] at i5;obtain ⟨rfl,rfl⟩:=i5;have l1:(xs++ts).length=(n+1)*6:=o1.1;obtain ⟨ds,lD⟩:∃ ds,xs.drop (k*6)=ds:=⟨_,rfl⟩
 have ld:ds.length=(n - k)*6:=by rw [← lD,List.length_drop,hx];omega
 obtain ⟨W1,hW1⟩:∃ W1,W1=w.drew.setCells g ((k+1)*6) ds:=⟨_,rfl⟩
 have ko:∀ ty,(Builtin.copy_ #[30,30] ty #[.slice (some ⟨g,(k+1)*6,none⟩) (n - k) (cap - (k+1)),.slice (some ⟨g,k*6,none⟩) (n+1 - k) (cap - k)]).run Tryz.prog w.drew=.ok (goInt ((n - k:Nat):Int)) W1:=fun ty=>by
  rw [hW1];refine ew w.drew _ _ ty 106 6 g ((k+1)*6) (n - k) (cap - (k+1)) ⟨g,k*6,none⟩ (n+1 - k) (cap - k) (n - k) ds Tryz.underlying30 (by rw [eU];simp [hz1]) (by show min (n+1 - k) (n - k)=n - k;omega) ld (fun j u hj=>?_) (fun j hj=>?_) (fun j hj=>?_) (fun u hu=>h1 u (by rw [← lD] at hu;exact List.mem_of_mem_drop hu))
  ·rw [← lD,List.getElem?_drop] at hj
   rw [Addr.add_lit];have h5:=ho.cells (g:=g) rfl _ u hj;rw [Addr.add_lit] at h5
   simpa using h5
  ·rw [ld] at hj
   have hl:(k+1)*6+j < (xs++ts).length:=by rw [l1];omega
   rw [r1.2.1 _ hl,List.getElem?_eq_getElem hl];rfl
  ·rw [ld] at hj
   exact r1.2.2 _ (by rw [l1];omega)
 have o2:=bG (g:=g) rfl ds ((k+1)*6) Ja;rw [← hW1] at o2;obtain ⟨_,_,hv2,_,_,r2⟩:=aR o2 (by omega);simp only [Value.slice.injEq,true_and,Option.some.injEq,Addr.mk.injEq,and_true] at hv2;obtain ⟨rfl,rfl⟩:=hv2;have l2:(fu (xs++ts) ((k+1)*6) ds).length=(n+1)*6:=o2.1
 have Jb:Kb (fun x=>x=g) w W1:=by rw [hW1];exact (Kb.aH (ag.refl w).drew).trans (bA g _ _ _)
 have zH:W1.heap[nb]? = some (.cells #[.string x.aa,.string x.table,.int .i64 x.right,.string x.aC,.string x.to,.bool x.opt] 106 (0,0)):=(Jb.block nb (lt_of_block iH) xO).trans iH;obtain ⟨W2,hW2⟩:∃ W2,W2=W1.setCells g (k*6) [.string x.aa,.string x.table,.int .i64 x.right,.string x.aC,.string x.to,.bool x.opt]:=⟨_,rfl⟩
 have kp:∀ ty,(Builtin.copy_ #[30,30] ty #[.slice (some ⟨g,k*6,none⟩) (n+1 - k) (cap - k),.slice (some ⟨nb,0,none⟩) 1 1]).run Tryz.prog W1=.ok (goInt 1) W2:=fun ty=>by
  rw [hW2];refine ew W1 _ _ ty 106 6 g (k*6) (n+1 - k) (cap - k) ⟨nb,0,none⟩ 1 1 1 [.string x.aa,.string x.table,.int .i64 x.right,.string x.aC,.string x.to,.bool x.opt] Tryz.underlying30 (by rw [eU];simp [hz1]) (by show min 1 (n+1 - k)=1;omega) rfl (World.news_of_block (cs:=#[.string x.aa,.string x.table,.int .i64 x.right,.string x.aC,.string x.to,.bool x.opt]) (t:=106) (fr:=(0,0)) zH) (fun j hj=>?_) (fun j hj=>?_) (by simp [Value.oneCell'])
  ·have hj':j < 6:=hj
   have hl:k*6+j < (fu (xs++ts) ((k+1)*6) ds).length:=by rw [l2];omega
   rw [r2.2.1 _ hl,List.getElem?_eq_getElem hl];rfl
  ·have hj':j < 6:=hj
   exact r2.2.2 _ (by rw [l2];omega)
 have Jc:(callFunc 203 #[.slice (some ⟨nb,0,none⟩) 1 1,.slice (some ⟨g,(k+1)*6,none⟩) (n - k) (cap - (k+1))]).run Tryz.prog w=.ok (.value (.bool false)) w:=by
  rw [run_callFunc_extern Tryz.func203 (by kernel_rfl) (by kernel_rfl) (by kernel_rfl) (e:=Extern.SlicesOverlaps.overlaps #[30,30] #[4]) (by kernel_rfl),
   Lib.run_overlaps_apart w 30 4 106 Tryz.underlying30 6 (fun w=>by simp [sizeOf,typeInfo,eU,hz1]) ⟨nb,0,none⟩ ⟨g,(k+1)*6,none⟩ 1 1 (n - k) (cap - (k+1)) xO 106 106 6 (cap*6) (by simp [World.shape?,iH]) (by simp [World.shape?,nv,hcs]) (by omega) (by simp [World.frozen?,iH]) (by simp [World.frozen?,iH])]
  rfl
 have HP:=gH (show kU 106 6 w B (.slice (some ⟨g,0,none⟩) n cap) n k xs [.string x.aa,.string x.table,.int .i64 x.right,.string x.aC,.string x.to,.bool x.opt] (.returned (.slice (some ⟨g,0,none⟩) (n+1) cap)) W2 from by
  have o3:=bG (g:=g) rfl [.string x.aa,.string x.table,.int .i64 x.right,.string x.aC,.string x.to,.bool x.opt] (k*6) o2;rw [← hW2] at o3
  have e1:(k+1)*6=k*6+6:=by omega
  rw [e1,← lD,tS xs [.string x.aa,.string x.table,.int .i64 x.right,.string x.aC,.string x.to,.bool x.opt] ts (k*6) 6 ((n - k)*6) (by rw [hx];omega) rfl I9] at o3;refine ⟨⟨some ⟨g,0,none⟩,n+1,cap⟩,rfl,o3,?_,fun x hx=>.inl (Hd.au.1 hx)⟩;rw [hW2]
  exact (Jb.trans (bA g _ _ _)).mono fun x _ e=>by have e:x=g:=e;subst e;rfl)
 (try simp only [Nat.mul_one] at ko kp Jc)
 have yK:=gH ko;have xL:=gH kp
 have Jd:cap≤9223372036854775807:=by simp only [maxLen] at tR;omega
 have Pv:¬ cap=k:=by omega
 have I7:¬ cap=k+1:=by omega
 have hne:((k:Int)==(n:Int))=false:=by rw [beq_eq_false_iff_ne];omega
 have j1:(k:Int)≤(n:Int):=by omega
 have j2:(k:Int)≤(n:Int)+1:=by omega
 have j3:(k:Int)+1≤(n:Int)+1:=by omega
 have j4:(0:Int)≤(k:Int)+1:=by omega
 have j5:¬ ((cap:Int) < (n:Int)+1):=by omega
 have j6:(n:Int)+1≤(cap:Int):=by omega
 have j7:(n:Int)≤(cap:Int):=by omega
 have j8:k < n:=by omega
 have w2:IntKind.i64.wrap ((k:Int)+1)=(k:Int)+1:=IntWalk.i64_in _ (by omega)
 have t1:((k:Int)+1).toNat=k+1:=by omega
 clear I5 ko kp hW1 hW2 o1 Ja o2 r1 r2 Jb zH iH ho h1 hx l1 l2 ld lD eU hz0 hz1 hz2 Ax E9 I9 nv hcs tR se
 go_enter Tryz.func143,Tryz.ntmps143
 go_wp2_with (simp only [Jc])
 go_region_law (refine fw rfl _ _ 30 30 rfl _ _ (by simp [Act.eval,Act.put]) (by simp [Act.eval,Act.put]) (yK.out _) ?_)
 go_wp2_with (refine eJ _ rfl _ _ 30 30 rfl _ _ rfl rfl (xL.out _) ?_)
 go_ret;exact HP.out
theorem Je (A:Option Addr) (n cap k B nb:Nat) (xs:List Value) (x:cB) (w:World) (ho:w.ownsRow B 106 6 (.slice A n cap) n xs) (hk:k≤n) (h1:∀ u∈xs,u.oneCell'=true) (iH:w.heap[nb]? = some (.cells #[.string x.aa,.string x.table,.int .i64 x.right,.string x.aC,.string x.to,.bool x.opt] 106 (0,0))) (xO:(Value.slice A n cap).ownBlock≠some nb) (hn:n≤1000000) (hB:B≤w.heap.size) :
  Calls Tryz.prog 143 #[.slice A n cap,.int .i64 k,.slice (some ⟨nb,0,none⟩) 1 1] w (kU 106 6 w B (.slice A n cap) n k xs [.string x.aa,.string x.table,.int .i64 x.right,.string x.aC,.string x.to,.bool x.opt]):=by
 rcases Nat.lt_or_ge k n with hlt | Ki
 ·obtain ⟨g,cap',hv,se,mo,hr⟩:=aR ho (by omega)
  simp only [Value.slice.injEq,true_and] at hv;obtain ⟨rfl,rfl⟩:=hv
  rcases Nat.lt_or_ge n cap with hc | hc
  ·exact Fy g n cap k (n - k - 1) B nb xs x w ho (by omega) hc h1 iH (fun e=>xO (by rw [e];rfl)) hn
  ·have:cap=n:=by omega
   subst this;exact B8 g cap k (cap - k - 1) B nb xs x w ho (by omega) h1 iH hn hB
 ·have:k=n:=by omega
  subst this;exact B7 A k cap B nb xs x w ho iH hn hB
end Go.Proofs.YtmflccbnoeaafaaGreat
