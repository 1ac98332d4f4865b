import Derived.Test.YtakddkhipelmjaaGreatPartH18
set_option maxRecDepth 100000
set_option linter.unusedVariables false
set_option maxHeartbeats 64000000
namespace Go.Proofs.YtakddkhipelmjaaGreat
open Go.Deep Go.RowKit
theorem eo {s:ByteArray} (h:bG s=true):s.size≤16:=by
 unfold bG at h;simp only [Bool.and_eq_true,decide_eq_true_eq] at h;exact h.1.1.2
theorem pg {s:ByteArray} (h:emp s=true):s.size≤16:=by
 unfold emp at h
 have h1:s.toList=[]:=by simpa using h
 have:=(eL s).1 h1;omega
theorem gS {s:ByteArray} (h:s.size≤16):oF s:=by unfold oF;omega
theorem eX {s:ByteArray} (h:s.size≤16):(bR s).length≤20:=by
 unfold bR;rw [List.length_append,fk];have:s.data.toList.length=s.size:=rfl;omega
theorem jE (n:Int):(bF n).length=4:=fk _ _
theorem LO (n:Int):(ky n).length=8:=fk _ _
theorem Dr (b:Bool):(II b).length=1:=rfl
theorem jR {α:Type} {e:α→Bt} {l:List α} {k n:Nat} (hl:l.length≤k) (h:∀ x∈l,(e x).length≤n):(bN e l).length≤4+k*n:=by
 unfold bN;rw [List.length_append,jE]
 have:∀ l:List α,(∀ x∈l,(e x).length≤n)→(l.flatMap e).length≤l.length*n:=fun l=>by
  induction l with
  | nil=>intro _;simp
  | cons x l ih =>
   intro h;rw [List.flatMap_cons,List.length_append,List.length_cons,Nat.succ_mul];have:=h x (List.mem_cons_self ..)
   have:=ih fun y hy=>h y (List.mem_cons_of_mem _ hy)
   omega
 have:=this l h;have:l.length*n≤k*n:=Nat.mul_le_mul_right _ hl;omega
theorem lK {α:Type} {k:α→Int} {p:α→Bool} {l:List α} (h:kz k p l=true):(∀ x∈l,p x=true)∧∀ j (hj:j+1 < l.length),k l[j] < k l[j+1]:=by
 unfold kz at h;rw [List.all_eq_true] at h;refine ⟨fun x hx=>?_,fun j hj=>?_⟩
 ·obtain ⟨j,hj,rfl⟩:=List.getElem_of_mem hx
  have h1:=h j (List.mem_range.2 hj)
  cases j with
  | zero=>rwa [gT hj] at h1
  | succ j =>
   rw [eO hj,Bool.and_eq_true] at h1;exact h1.2
 ·have h1:=h (j+1) (List.mem_range.2 hj)
  rw [eO hj,Bool.and_eq_true,decide_eq_true_eq] at h1;exact h1.1
theorem wi {n a b:Int} (h:nB n a b=true):a≤n∧n≤b:=by
 unfold nB at h
 simpa only [Bool.and_eq_true,decide_eq_true_eq] using h
theorem jh {m:fo} (h:eh m=true):m.aQ.length≤4∧m.bp.length≤64∧(0≤m.last∧m.last≤1000000000)∧cV m.cat=true∧kz iF.aC (xb m.cat.av m.cat.version) m.aQ=true∧kz eZ.seq (tu m.cat.av m.last) m.bp=true:=by
 unfold eh at h;simp only [Bool.and_eq_true,decide_eq_true_eq] at h;exact ⟨h.1.1.1.1.1,h.1.1.1.1.2,wi h.1.1.1.2,h.1.1.2,h.1.2,h.2⟩
theorem EU {l:List dY} {s:ByteArray} (h0:0≤bO l s):∃ x∈l,x.name=s:=by
 have h:=fx (fun c:dY=>aS c.name s) l;have hr:=aT (fun c:dY=>aS c.name s) l;have e:bO l s=bu (fun c:dY=>aS c.name s) l:=rfl;rw [e] at h0;rw [if_neg (by omega),List.getElem?_eq_getElem (by omega)] at h;exact ⟨_,List.mem_of_find?_eq_some h,(cR _ _).1 (List.find?_some (p:=fun c:dY=>aS c.name s) h)⟩
theorem LP {o:bE} {t:bW} {r:fh} (g:Nx o.ae o.tables t) (hr:r∈t.rules) (hI:Dq r.low∧Dq r.high):wT r∧(jH r).length≤300:=by
 have hf:=g.fit r hr;unfold dK at hf;simp only [Bool.and_eq_true] at hf;obtain ⟨⟨⟨tx,hn⟩,-⟩,iz⟩:=hf;have ux:t.au.length≤8:=((fZ _).1 g.au).1.2
 have Uz:∀ c∈t.au,c.name.size≤16:=fun c hc=>by
  have:=((fZ _).1 g.au).2.1 c hc;unfold iK at this;rw [Bool.and_eq_true] at this;exact eo this.1
 have pT:=BD _ _ tx
 have hcs:∀ s∈r.au,s.size≤16:=fun s hs=>by
  obtain ⟨i,hi,rfl⟩:=List.getElem_of_mem hs;unfold qg at tx;have h1:=List.all_eq_true.1 tx i (List.mem_range.2 hi);rw [List.getElem?_eq_getElem hi] at h1;simp only [Bool.and_eq_true,decide_eq_true_eq] at h1;obtain ⟨c,hc,e⟩:=EU h1.1;rw [← e];exact Uz c hc
 have UA:=eo hn
 have hk:(0≤r.kind∧r.kind≤4)∧r.af.size≤16∧r.table.size≤16∧r.key.size≤16:=by
  unfold gJ at iz
  split at iz
  ·rename_i hk
   simp only [Bool.or_eq_true,beq_iff_eq] at hk;simp only [Bool.and_eq_true] at iz;exact ⟨by omega,pg iz.1.1.1.1,pg iz.1.1.1.2,pg iz.1.1.2⟩
  ·split at iz
   ·rename_i hk
    simp only [beq_iff_eq] at hk;simp only [Bool.and_eq_true] at iz;exact ⟨by omega,pg iz.1.1.1.1.1,pg iz.1.1.1.1.2,pg iz.1.1.1.2⟩
   ·split at iz
    ·rename_i hk
     simp only [beq_iff_eq] at hk;simp only [Bool.and_eq_true] at iz;exact ⟨by omega,eo iz.1.1.1.1,eo iz.1.1.1.2,eo iz.1.1.2⟩
    ·cases iz
 obtain ⟨hk,h1,h2,h3⟩:=hk;refine ⟨⟨gS UA,⟨hk.1,by omega⟩,⟨by omega,fun s hs=>gS (hcs s hs)⟩,hI.1,hI.2,gS h1,gS h2,gS h3⟩,?_⟩;have a1:=eX UA
 have a2:(bN bR r.au).length≤4+8*20:=jR (by omega) fun s hs=>eX (hcs s hs)
 have a3:=eX h1;have a4:=eX h2;have a5:=eX h3;unfold jH;simp only [List.length_append,jE,LO];omega
theorem PZ {o:bE} (g:Good o) {t:bW} (ht:t∈o.tables) (hI:wk t):wU t∧(iQ t).length≤3000:=by
 have gt:=g.tab t ht;have h1:=eo gt.nm;have h2:=eo gt.ow;obtain ⟨s,hs,e⟩:=gt.fS
 have h3:t.af.size≤16:=by rw [← e];exact eo (g.fS s hs).1
 obtain ⟨⟨_,ux⟩,YB,-⟩:=(fZ _).1 gt.au
 have hc:∀ c∈t.au,wR c∧(jo c).length≤25:=fun c hc=>by
  have:=YB c hc;unfold iK at this;simp only [Bool.and_eq_true,Bool.or_eq_true,beq_iff_eq] at this;have hn:=eo this.1;refine ⟨⟨gS hn,⟨by omega,by omega⟩⟩,?_⟩;have:=eX hn;unfold jo;simp only [List.length_append,jE,Dr];omega
 have hr:=fun r hr=>LP gt (r:=r) hr (hI r hr)
 refine ⟨⟨gS h3,gS h1,gS h2,⟨by omega,fun c h=>(hc c h).1⟩,⟨by have:=gt.nr;omega,fun r h=>(hr r h).1⟩⟩,?_⟩;have a1:=eX h1;have a2:=eX h2;have a3:=eX h3
 have a4:(bN jo t.au).length≤4+8*25:=jR ux fun c h=>(hc c h).2
 have a5:(bN jH t.rules).length≤4+8*300:=jR gt.nr fun r h=>(hr r h).2
 unfold iQ;simp only [List.length_append];omega
theorem P0 {c:bS} (h:cV c=true) (hI:∀ t∈c.aj.tables,wk t):tQ c∧(oI c).length≤1000000:=by
 obtain ⟨he,hv,hw⟩:=gf.1 h;obtain ⟨hg,⟨jL,xG,-,-⟩,hgr,-⟩:=bP.1 (dX.1 hw).1;have g:=(dQ _).1 jL;obtain ⟨hn,hm,-,-,FU,Kn⟩:=cG.1 xG
 have hs:∀ s∈c.aj.ae,wV s∧(iC s).length≤40:=fun s hs=>by
  have h1:=eo (g.fS s hs).1;have h2:=eo (g.fS s hs).2.1;refine ⟨⟨gS h1,gS h2⟩,?_⟩;have:=eX h1;have:=eX h2;unfold iC;rw [List.length_append];omega
 have ht:=fun t ht=>PZ g (t:=t) ht (hI t ht)
 have UB:∀ s,eu c.ar.names s=true→s.size≤16:=fun s hs=>eo (FU s ((ig _ _).1 hs))
 have hmb:∀ x∈c.ar.members,wW x∧(jp x).length≤40:=fun x hx=>by
  have h1:x.role.size≤16:=eo (FU _ (Kn x hx).1);have h2:x.of.size≤16:=eo (FU _ (Kn x hx).2.1);refine ⟨⟨gS h1,gS h2⟩,?_⟩;have:=eX h1;have:=eX h2;unfold jp;rw [List.length_append];omega
 have qL:∀ x∈c.ah,wX x∧(jI x).length≤90:=fun x hx=>by
  have hx:=hgr x hx;unfold gD nN at hx;simp only [Bool.and_eq_true,decide_eq_true_eq,Bool.or_eq_true,beq_iff_eq] at hx;obtain ⟨⟨⟨⟨h0,hk⟩,-⟩,h3⟩,h4⟩:=hx;obtain ⟨t,ht9,e1,e2⟩:=(oW _ _ _).1 h0
  have h1:x.af.size≤16:=by
   obtain ⟨s,hs9,e⟩:=(g.tab t ht9).fS;rw [← e1,← e];exact eo (g.fS s hs9).1
  have h2:x.table.size≤16:=by rw [← e2];exact eo (g.tab t ht9).nm
  have h3:=UB _ h3;have h4:=UB _ h4;refine ⟨⟨gS h1,gS h2,⟨by omega,by omega⟩,gS h3,gS h4⟩,?_⟩;have:=eX h1;have:=eX h2;have:=eX h3;have:=eX h4;unfold jI;simp only [List.length_append,jE,Dr];omega
 refine ⟨⟨⟨he.1,by omega⟩,⟨hv.1,hv.2⟩,⟨by have:=g.ns;omega,fun s h=>(hs s h).1⟩,⟨by have:=g.nt;omega,fun t h=>(ht t h).1⟩,⟨by omega,fun s h=>gS (eo (FU s h))⟩,⟨by omega,fun s h=>(hmb s h).1⟩,⟨by omega,fun s h=>(qL s h).1⟩⟩,?_⟩
 have a1:(bN iC c.aj.ae).length≤4+8*40:=jR g.ns fun s h=>(hs s h).2
 have a2:(bN iQ c.aj.tables).length≤4+64*3000:=jR g.nt fun s h=>(ht s h).2
 have a3:(bN bR c.ar.names).length≤4+16*20:=jR hn fun s h=>eX (eo (FU s h))
 have a4:(bN jp c.ar.members).length≤4+256*40:=jR hm fun s h=>(hmb s h).2
 have a5:(bN jI c.ah).length≤4+64*90:=jR hg fun s h=>(qL s h).2
 unfold oI
 simp only [List.length_append,jE];omega
theorem P1 {m:fo} (h:eh m=true) (hI:∀ t∈m.cat.aj.tables,wk t):j5 m∧(gP m).length≤90000000:=by
 obtain ⟨hd,hl,UC,hc,Rk,hle⟩:=jh h;obtain ⟨he,hv,-⟩:=gf.1 hc;obtain ⟨c1,c2⟩:=P0 hc hI
 have hdd:∀ x∈m.aQ,wY x:=fun x hx=>by
  have:=(lK Rk).1 x hx;unfold xb lj at this;simp only [Bool.and_eq_true] at this;obtain ⟨⟨⟨⟨h1,h2⟩,h3⟩,h4⟩,h5⟩:=this;have h1:=wi h1;have h2:=wi h2;have h3:=wi h3;have h4:=wi h4;have h5:=wi h5;exact ⟨⟨by omega,by omega⟩,⟨by omega,by omega⟩,⟨by omega,by omega⟩,⟨by omega,by omega⟩,⟨by omega,by omega⟩⟩
 have pU:∀ x∈m.bp,wZ x:=fun x hx=>by
  have:=(lK hle).1 x hx;unfold tu lj zA at this;simp only [Bool.and_eq_true] at this;obtain ⟨⟨⟨h1,h2⟩,h3⟩,h4⟩:=this;have h1:=wi h1;have h2:=wi h2;have h3:=wi h3;have h4:=wi h4;exact ⟨⟨by omega,by omega⟩,⟨by omega,by omega⟩,⟨by omega,by omega⟩,⟨by omega,by omega⟩⟩
 refine ⟨⟨c1,⟨by omega,hdd⟩,⟨by omega,pU⟩,UC⟩,?_⟩
 have a1:(bN jq m.aQ).length≤4+4*20:=jR hd fun x _=>by unfold jq;simp only [List.length_append,jE];omega
 have a2:(bN jJ m.bp).length≤4+64*16:=jR hl fun x _=>by unfold jJ;simp only [List.length_append,jE];omega
 unfold gP;simp only [List.length_append,jE];omega
theorem yA {α:Type} {k:α→Int} {p:α→Bool} {l:List α} (h:kz k p l=true):l.Pairwise fun a b=>k a < k b:=by
 have h2:=(lK h).2;rw [List.pairwise_iff_getElem];intro i j hi hj mU;obtain ⟨d,rfl⟩:∃ d,j=i+1+d:=⟨j - i - 1,by omega⟩
 induction d with
 | zero=>exact h2 i hj
 | succ d ih=>exact Int.lt_trans (ih (by omega) (by omega)) (h2 (i+1+d) hj)
theorem IJ {α:Type} {k:α→Int} {p:α→Bool} {l:List α} (h1:∀ x∈l,p x=true) (h2:l.Pairwise fun a b=>k a < k b):kz k p l=true:=by
 refine qR fun j hj=>?_
 cases j with
 | zero=>rw [gT hj];exact h1 _ (List.getElem_mem hj)
 | succ j =>
  rw [eO hj,h1 _ (List.getElem_mem hj),decide_eq_true (List.pairwise_iff_getElem.1 h2 j (j+1) (by omega) hj (by omega))];rfl
theorem pj {m:fo} {l:List eZ} (h:eh m=true) (hs:l.Sublist m.bp):eh { m with bp:=l }=true:=by
 obtain ⟨hd,hl,UC,hc,Rk,hle⟩:=jh h;have h1:kz eZ.seq (tu m.cat.av m.last) l=true:=IJ (fun x hx=>(lK hle).1 x (hs.subset hx)) ((yA hle).sublist hs)
 have h2:nB m.last 0 1000000000=true:=by unfold nB;rw [decide_eq_true UC.1,decide_eq_true UC.2];rfl
 unfold eh
 simp only
 rw [decide_eq_true hd,decide_eq_true (Nat.le_trans hs.length_le hl),h2,hc,Rk,h1];rfl
def sk (l:List eZ) (f:Int) (k:Nat):List eZ:=(l.take k).filter (fun x=>!decide (x.av < f))++l.drop k
def oh (l:List eZ) (f:Int) (k:Nat):Nat:=((l.take k).filter fun x=>decide (x.av < f)).length
theorem IK (l:List eZ) (f:Int):sk l f 0=l:=by simp [sk]
theorem qG (l:List eZ) (f:Int) (k:Nat):(sk l f k).Sublist l:=by
 have:((l.take k).filter (fun x=>!decide (x.av < f))++l.drop k).Sublist (l.take k++l.drop k):=List.Sublist.append List.filter_sublist (List.Sublist.refl _)
 rwa [List.take_append_drop] at this
theorem IL {l:List eZ} {f:Int} {k:Nat} (hk:k < l.length) (h:decide (l[k].av < f)=false):sk l f (k+1)=sk l f k:=by
 unfold sk;rw [List.take_succ_eq_append_getElem hk,List.filter_append,List.drop_eq_getElem_cons hk];simp [h]
theorem LQ {l:List eZ} {f:Int} {k:Nat} (hp:l.Pairwise fun a b=>a.seq < b.seq) (hk:k < l.length) (h:decide (l[k].av < f)=true):yn (sk l f k) l[k].seq=sk l f (k+1):=by
 unfold sk yn;rw [List.take_succ_eq_append_getElem hk,List.filter_append,List.drop_eq_getElem_cons hk,List.filter_append,List.filter_cons]
 have h1:((l.take k).filter (fun x=>!decide (x.av < f))).filter (fun x=>!(x.seq==l[k].seq))=(l.take k).filter (fun x=>!decide (x.av < f)):=by
  rw [List.filter_eq_self];intro x hx;have hx:=(List.mem_filter.1 hx).1;obtain ⟨i,hi,rfl⟩:=List.getElem_of_mem hx;rw [List.length_take] at hi;have:=List.pairwise_iff_getElem.1 hp i k (by omega) hk (by omega);rw [List.getElem_take];simp;omega
 have h2:(l.drop (k+1)).filter (fun x=>!(x.seq==l[k].seq))=l.drop (k+1):=by
  rw [List.filter_eq_self];intro x hx;obtain ⟨i,hi,rfl⟩:=List.getElem_of_mem hx;rw [List.length_drop] at hi;have:=List.pairwise_iff_getElem.1 hp k (k+1+i) hk (by omega) (by omega);rw [List.getElem_drop];simp;omega
 rw [h1,h2];simp [h]
theorem IM {l:List eZ} {f:Int} {k:Nat} (hk:k < l.length) (h:decide (l[k].av < f)=false):oh l f (k+1)=oh l f k:=by
 unfold oh;rw [List.take_succ_eq_append_getElem hk,List.filter_append];simp [h]
theorem LR {l:List eZ} {f:Int} {k:Nat} (hk:k < l.length) (h:decide (l[k].av < f)=true):oh l f (k+1)=oh l f k+1:=by
 unfold oh;rw [List.take_succ_eq_append_getElem hk,List.filter_append];simp [h]
theorem P2 (l:List eZ) (f:Int) (k:Nat):oh l f k≤l.length:=by
 unfold oh;have h1:=List.length_filter_le (fun x=>decide (x.av < f)) (l.take k);rw [List.length_take] at h1;omega
theorem LS (l:List eZ) (f:Int):((oh l f l.length:Int)==0)=!(l.any fun x=>decide (x.av < f)):=by
 unfold oh;rw [List.take_length]
 induction l with
 | nil=>rfl
 | cons x l ih =>
  by_cases h:decide (x.av < f)=true
  ·rw [List.filter_cons,if_pos h,List.any_cons,h]
   simp;omega
  ·rw [List.filter_cons,if_neg h,List.any_cons,ih]
   simp at h;simp [Int.not_lt.2 h]
theorem LU (l:List eZ) (f:Int):((sk l f l.length).any fun x=>decide (x.av < f))=false:=by
 unfold sk;rw [List.take_length,List.drop_length,List.append_nil,List.any_eq_false];intro x hx;have:=(List.mem_filter.1 hx).2
 simpa using this
theorem P3 {l:List eZ} {f:Int} {k:Nat} (hk:k < l.length) (h:decide (l[k].av < f)=true):((sk l f k).any fun x=>decide (x.av < f))=true:=by
 rw [List.any_eq_true];exact ⟨l[k],List.mem_append.2 (.inr (by rw [List.drop_eq_getElem_cons hk];exact List.mem_cons_self ..)),h⟩
theorem IP {m:fo} {c n:Int} {l:List eZ} (h:(fR m c n).1.aC≠0) (hm:eh { m with bp:=l }=true):(fR m c n)=(fA m.aQ c,!(m.bp.any fun x=>decide (x.av < (fA m.aQ c).fence)))∧fR { m with bp:=l } c n=(fA m.aQ c,!(l.any fun x=>decide (x.av < (fA m.aQ c).fence))):=by
 unfold fR at h ⊢
 split at h
 ·exact absurd rfl h
 ·rename_i hc
  rw [if_neg hc];refine ⟨rfl,?_⟩
  simp only
  rw [if_neg (by
   intro e
   rcases e with e | e | e | e
   ·exact hc (.inl e)
   ·exact hc (.inr (.inl e))
   ·exact hc (.inr (.inr (.inl e)))
   ·rw [hm] at e;cases e)]
theorem LV {q:Int} (h:1≤q∧q≤1000000000):lz (JX q)=true:=by
 have h1:pZ (JX q)=true:=(by decide +kernel:pZ (JX 0)=true)
 have h2:lj q=true:=by unfold lj nB;rw [decide_eq_true h.1,decide_eq_true h.2];rfl
 unfold lz;rw [if_neg (by show ¬ (4:Int)=1;decide),if_neg (by show ¬ (4:Int)=2;decide),if_neg (by show ¬ (4:Int)=3;decide),if_pos (by show (4:Int)=4;rfl),h1]
 show (true&&lj q&&_&&_)=true
 rw [h2];rfl
theorem LW {B:Nat} {w:World} {cs:List Value} {m:fo} (h:dJ B w cs m):(mr ⟨w.heap.size,0,none⟩ (.agg cs.toArray)).run Tryz.prog (w.alloc (.cells #[.int .i64 0,.int .i64 0,.slice none 0 0,.slice none 0 0,.slice none 0 0,.slice none 0 0,.slice none 0 0,.slice none 0 0,.slice none 0 0,.int .i64 0] 36))=.ok () ((w.alloc (.cells #[.int .i64 0,.int .i64 0,.slice none 0 0,.slice none 0 0,.slice none 0 0,.slice none 0 0,.slice none 0 0,.slice none 0 0,.slice none 0 0,.int .i64 0] 36)).setCells w.heap.size 0 cs)∧ag w ((w.alloc (.cells #[.int .i64 0,.int .i64 0,.slice none 0 0,.slice none 0 0,.slice none 0 0,.slice none 0 0,.slice none 0 0,.slice none 0 0,.slice none 0 0,.int .i64 0] 36)).setCells w.heap.size 0 cs)∧ai ((w.alloc (.cells #[.int .i64 0,.int .i64 0,.slice none 0 0,.slice none 0 0,.slice none 0 0,.slice none 0 0,.slice none 0 0,.slice none 0 0,.slice none 0 0,.int .i64 0] 36)).setCells w.heap.size 0 cs) w.heap.size cs∧dJ B ((w.alloc (.cells #[.int .i64 0,.int .i64 0,.slice none 0 0,.slice none 0 0,.slice none 0 0,.slice none 0 0,.slice none 0 0,.slice none 0 0,.slice none 0 0,.int .i64 0] 36)).setCells w.heap.size 0 cs) cs m:=by
 obtain ⟨s1,a,b⟩:=lJ h.w;exact ⟨s1,a,b.row,h.aA a⟩
theorem LX {B:Nat} {V w:World} {b:Nat} {cs:List Value} {m:fo} (r:ai w b cY) (a:ag V w) (hb:V.heap.size≤b) (hB:b < B) (h:dJ B w cs m):(mr ⟨b,0,none⟩ (.agg cs.toArray)).run Tryz.prog w=.ok () (w.setCells b 0 cs)∧ag V (w.setCells b 0 cs)∧ai (w.setCells b 0 cs) b cs∧dJ B (w.setCells b 0 cs) cs m:=by
 obtain ⟨s1,r2,_,kb⟩:=gG r rfl h.w;exact ⟨s1,kb.aJ a fun g hg e=>by have e:g=_:=e;omega,r2,h.kb kb fun j e=>.inl (by have e:j=_:=e;omega)⟩
theorem EW {m:fo} {c n:Int} (h:(fR m c n).1.aC=0):(fR m c n).2=false:=by
 unfold fR at h ⊢
 split at h
 ·rename_i hc
  rw [if_pos hc]
 ·rename_i hc
  exact absurd (.inl ((Classical.not_not.1 fun e=>hc (.inr (.inl e))).symm.trans h)) hc
theorem P4 (m:fo) (cs:List Value) (q:Int) (w:World) (H:dD w cs m) (hm:eh m=true) (ok:j5 m∧(gP m).length≤90000000) (hq:1≤q∧q≤1000000000) :
  Calls Tryz.prog 11 #[.agg cs.toArray,.agg #[.int .i64 4,.int .i64 0,.int .i64 0,.int .i64 0,.string ⟨#[]⟩,.string ⟨#[]⟩,.string ⟨#[]⟩,.string ⟨#[]⟩,.string ⟨#[]⟩,.slice none 0 0,.string ⟨#[]⟩,.int .i64 0,.slice none 0 0,.int .i64 0,.int .i64 0,.string ⟨#[]⟩,.string ⟨#[]⟩,.string ⟨#[]⟩,.int .i64 0,.bool false,.int .i64 0,.int .i64 0,.int .i64 q]] w (sX w.heap.size w ({ m with bp:=yn m.bp q },0)) :=
 nj m cs (JX q) (gR (JX q)) w _ H (nu _) hm ok.1 ok.2 Bw (LV hq) fun V jN B a hB Q3 =>
  De m jN (gR (JX q)) q B V hB Q3 rfl rfl (by have:=(jh hm).2.1;omega)
theorem zm (m:fo) (cs:List Value) (c n:Int) (w:World) (H:dD w cs m) (hI:∀ t∈m.cat.aj.tables,wk t):Calls Tryz.prog 4 #[.agg cs.toArray,.int .i64 c,.int .i64 n] w fun e w'=>e=.returned (.bool true)∧ag w w':=by
 obtain ⟨Al,ca,ux,dv⟩:=H.CU;have hlen:=dv.len;obtain ⟨W,hW⟩:∃ W,W=w.alloc (.cells cs.toArray 36):=⟨_,rfl⟩
 have aW:ag w W:=by rw [hW];exact (ag.refl w).alloc _
 have zW:W.heap.size=w.heap.size+1:=by rw [hW];simp
 have r0:ai W w.heap.size cs:=by rw [hW];exact aN (ag.refl _)
 have BM:=gH (show BoxM W w.heap.size cs m from ⟨r0,H.aA aW⟩);have A0:=gH aW;have HM:=gH H;have wH:=gH dv;have TL:=gH ux;have HZ:=gH zW;have HI:=gH hI;have C0:=gH (PO m cs W (H.aA aW));obtain ⟨r,hr⟩:∃ r,eh m=r:=⟨_,rfl⟩
 have CK:=gH (show ∀ V,ag W V→Calls Tryz.prog 9 #[.agg cs.toArray] V fun e w'=>e=.returned (.int .i64 (if r=true then 0 else 1))∧ag V w' from fun V a=>by
  obtain ⟨As,c1,At,c2,An,c3,Am,c4,Ag,c5,Ad,cd,Al,cl,rfl,h⟩:=(H.aA (aW.trans a)).at
  have:=vF m As c1 At c2 An c3 Am c4 Ag c5 Ad cd Al cl V h
  rwa [hr] at this)
 obtain ⟨⟨d,f⟩,hd⟩:∃ F,fR m c n=F:=⟨_,rfl⟩
 have C1:=gH (show ∀ V,ag W V→Calls Tryz.prog 6 #[.agg cs.toArray,.int .i64 c,.int .i64 n] V fun e w'=>e=.returned (.tuple #[.agg #[.int .i64 d.aC,.int .i64 d.number,.int .i64 d.code,.int .i64 d.fence,.int .i64 d.version],.bool f])∧ag V w' from fun V a=>by
  have:=yo m cs c n V (H.aA (aW.trans a))
  rwa [hd] at this)
 have HD:=gH hd;have ld:=BM.out.ld;have EX:=gH hr;clear aW r0 H hd hr dv ux zW hI
 go_in
 go_upto_region 1 with fail
 rw [← hW];clear hW;go_wp2_with fail;refine C0.out.mono ?_;rintro e w1 ⟨b,rfl,a1⟩;have A1:=gH a1;clear ld a1
 cases b
 case true =>
  go_wp2_with fail;refine (qF _).mono ?_;rintro e wa ⟨rfl,aa⟩;have AA:=gH ((A0.out.trans A1.out).trans aa);clear aa;go_wp2_with fail;refine (qE _).mono ?_;rintro e wb ⟨rfl,ab⟩;have AB:=gH (AA.out.trans ab);clear ab;go_wp2;go_ret;exact ⟨by simp,AB.out⟩
 have ld:=(BM.out.aA A1.out).ld;go_wp2_with fail;refine (CK.out w1 A1.out).mono ?_;rintro e w2 ⟨rfl,a2⟩;have A2:=gH (A1.out.trans a2);clear ld a2 CK C0
 cases r
 case false =>
  simp only [Bool.false_eq_true,if_false];go_wp2_with fail;refine (qF _).mono ?_;rintro e wa ⟨rfl,aa⟩;have AA:=gH ((A0.out.trans A2.out).trans aa);clear aa;go_wp2_with fail;refine (qE _).mono ?_;rintro e wb ⟨rfl,ab⟩;have AB:=gH (AA.out.trans ab);clear ab;go_wp2;go_ret;exact ⟨by simp,AB.out⟩
 simp only [if_true];have ld:=(BM.out.aA A2.out).ld;go_wp2_with fail;refine (C1.out _ A2.out).mono ?_;rintro e w3 ⟨rfl,a3⟩;obtain ⟨s1,a4,r4⟩:=sf w3 d;obtain ⟨V1,hV⟩:∃ V,V=(w3.alloc (.cells #[.int .i64 0,.int .i64 0,.int .i64 0,.int .i64 0,.int .i64 0] 48)).setCells w3.heap.size 0 (cj d):=⟨_,rfl⟩;obtain ⟨b7,hb⟩:∃ b,b=w3.heap.size:=⟨_,rfl⟩;have A3:=gH (show ag W V1 from hV▸A2.out.trans (a3.trans a4));have R7:=gH (show ai V1 b7 (cj d) from by rw [hV,hb];exact r4);have HB7:=gH (show w.heap.size < b7 from by rw [hb];have:=A2.out.size;have:=a3.size;have:=HZ.out;omega);clear a3 a4 r4 ld
 go_upto_region 4 with fail
 rw [← hV,← hb];clear hV hb s1 C1;have x0:=(wh R7.out).1;have xz:=R7.out.1;by_cases h0:d.aC=0
 ·have hf:f=false:=by have:=EW (m:=m) (c:=c) (n:=n) (by rw [HD.out];exact h0);rwa [HD.out] at this
  subst hf
  have h1:(d.aC==0)=true:=by simpa using h0
  clear h0;go_wp2_with fail;refine (qF _).mono ?_;rintro e wa ⟨rfl,aa⟩;have AA:=gH ((A0.out.trans A3.out).trans aa);clear aa;go_wp2_with fail;refine (qE _).mono ?_;rintro e wb ⟨rfl,ab⟩;have AB:=gH (AA.out.trans ab);clear ab;go_wp2;go_ret;exact ⟨by simp,AB.out⟩
 have h1:(d.aC==0)=false:=by simpa using h0
 have HF:=gH (show ∀ l,l.Sublist m.bp→fR { m with bp:=l } c n=(d,!(l.any fun x=>decide (x.av < d.fence)))∧f=!(m.bp.any fun x=>decide (x.av < d.fence)) from fun l hs=>by
  have:=IP (m:=m) (c:=c) (n:=n) (l:=l) (by rw [HD.out];exact h0) (pj EX.out hs);rw [HD.out] at this;obtain ⟨e1,e2⟩:=this;simp only [Prod.mk.injEq] at e1;rw [← e1.1] at e2 e1
  exact ⟨e2,e1.2⟩)
 clear h0;have ld:=(BM.out.aA A3.out).ld;obtain ⟨s1,a4,bm⟩:=lJ (BM.out.aA A3.out).ES;obtain ⟨V2,hV⟩:∃ V,V=(V1.alloc (.cells #[.int .i64 0,.int .i64 0,.slice none 0 0,.slice none 0 0,.slice none 0 0,.slice none 0 0,.slice none 0 0,.slice none 0 0,.slice none 0 0,.int .i64 0] 36)).setCells V1.heap.size 0 cs:=⟨_,rfl⟩;obtain ⟨bx,hb⟩:∃ b,b=V1.heap.size:=⟨_,rfl⟩;have A4:=gH (show ag W V2 from hV▸A3.out.trans a4);have RX:=gH (show ai V2 bx cs from by rw [hV,hb];exact bm.row);have R72:=gH (show ai V2 b7 (cj d) from by rw [hV];exact R7.out.aA a4);have VY:=gH (show w.heap.size < bx∧b7 < bx from by rw [hb];have:=A3.out.size;have:=HZ.out;omega);clear a4 bm
 go_upto_region 7 with fail
 rw [← hV,← hb];clear hV hb s1 x0 xz ld h1;have HP:=gH (yA (jh EX.out).2.2.2.2.2)
 have HQ:=gH (show ∀ k (hk:k < m.bp.length),1≤m.bp[k].seq∧m.bp[k].seq≤1000000000 from fun k hk=>by
  obtain ⟨_,_,UC,_,_,hle⟩:=jh EX.out;have:=(lK hle).1 _ (List.getElem_mem hk);unfold tu at this;simp only [Bool.and_eq_true] at this;have:=wi this.1.1.1
  omega)
 have fV:=gH (show ∀ k,eh { m with bp:=sk m.bp d.fence k }=true∧j5 { m with bp:=sk m.bp d.fence k }∧(gP { m with bp:=sk m.bp d.fence k }).length≤90000000 from fun k=>⟨pj EX.out (qG _ _ _),P1 (pj EX.out (qG _ _ _)) HI.out⟩);go_wp2_with fail
 go_loopw [10,11] (fun u10 u11 wr=>∃ (k:Nat) (cx:List Value) (S:Nat→Prop),k≤m.bp.length∧u10=.int .i64 (oh m.bp d.fence k)∧u11=.int .i64 k∧Kb (fun g=>g=bx) V2 wr∧ai wr bx cx∧(∀ j,S j→j≠bx)∧fN S dD wr cx { m with bp:=sk m.bp d.fence k }) (fun _ i _=>m.bp.length - (intOf i).toNat)
 case atStart =>
  refine ⟨0,cs,fun j=>j < w.heap.size,Nat.zero_le _,rfl,rfl,Kb.refl _ _,RX.out,fun j e=>by have:=VY.out.1;omega,fun V k=>?_⟩;rw [IK];exact HM.out.aA (k.aJ (A0.out.trans A4.out) fun j hj e=>e hj)
 case round =>
  obtain ⟨k,cx,S,hk,rfl,rfl,kb,rx,hS,hh⟩:=hrel;have KB:=gH kb;have Wd:=gH rx;have HH:=gH (And.intro hS hh);have hbx:=VY.out;have AK:=gH (kb.aJ (A0.out.trans A4.out) fun g hg e=>by have e:g=_:=e;omega);have AKW:=gH (kb.aJ A4.out fun g hg e=>by have e:g=_:=e;have:=HZ.out;have:=A3.out.size;have:=RX.out.1;omega);have q0:=KB.out.row (BM.out.row.aA A4.out) (by omega);have q7:=KB.out.row R72.out (by omega);have y8:=q0.cell TL.out;have qz:=q0.1;have x3:=q7.cell (j:=3) rfl;have xz:=q7.1
  have Lm:k≤70000000000000:=by omega
  have Uz:=P2 m.bp d.fence k;obtain ⟨nc,pV⟩:∃ nc,oh m.bp d.fence k=nc:=⟨_,rfl⟩;rw [pV] at Uz;have YC:=gH pV;rw [pV];clear kb rx hS hh pV q0 q7;by_cases hlt:k < m.bp.length
  ·obtain ⟨bl,off,rfl,hbl,c0,c1,c2,c3⟩:=oK (wH.out.aA AK.out fun _ _ h=>h) hlt
   have aak:bl < w.heap.size:=by
    obtain ⟨b9,o9,cs9,We,hb9,_⟩:=wH.out.2.2 k hlt;simp only [Option.some.injEq,Addr.mk.injEq,and_true] at We;omega
   obtain ⟨l,hl⟩:∃ l,m.bp[k]=l:=⟨_,rfl⟩;rw [hl] at c0 c1 c2 c3;have HL:=gH hl;clear hl c1 c2;by_cases he:l.av < d.fence
   ·go_wp2_with fail
    refine ay (by kernel_rfl) (by kernel_rfl) ?_
    repeat (go_big_quiet_step (fail))
    refine wpQuiet_nil ?_;intro _ hw';obtain ⟨z,hw''⟩:=hw';subst hw'';obtain ⟨W3,hW3⟩:∃ V,V=bV wr z:=⟨_,rfl⟩;have a3:ag wr W3:=hW3▸(ag.refl wr).bV z;have AZ:=gH a3;rw [← hW3];clear hW3
    go_upto_region 13 with fail
    clear x3 xz y8 c0 c3 qz;have s3:=a3.size;have hxk:=Wd.out.1;have RX3:=gH (Wd.out.aA a3);have M3:=gH (show dD W3 cx { m with bp:=sk m.bp d.fence k } from (HH.out.2 wr (Kb.refl _ _)).aA a3);have BF:=(show dD W3 cx { m with bp:=sk m.bp d.fence k } from M3.out).len;have q0:=(KB.out.row (BM.out.row.aA A4.out) (by omega)).aA a3;have y8:=q0.cell TL.out;have qz:=q0.1
    have c0:W3.cell? ⟨bl,off+k*4,none⟩=some (.int .i64 l.seq):=by
     obtain ⟨b9,o9,We,_,e0,_⟩:=oK (wH.out.aA (AK.out.trans a3) fun _ _ h=>h) hlt;simp only [Option.some.injEq,Addr.mk.injEq,and_true] at We;obtain ⟨rfl,rfl⟩:=We;rw [HL.out] at e0;exact e0
    have bz:bl < W3.heap.size:=by have:=(AK.out.trans a3).size;omega
    have HE:=gH (show decide (m.bp[k].av < d.fence)=true from by rw [HL.out];exact decide_eq_true he)
    have KD:=gH (show ∀ V,ag W3 V→Calls Tryz.prog 11 #[.agg cx.toArray,.agg #[.int .i64 4,.int .i64 0,.int .i64 0,.int .i64 0,.string ⟨#[]⟩,.string ⟨#[]⟩,.string ⟨#[]⟩,.string ⟨#[]⟩,.string ⟨#[]⟩,.slice none 0 0,.string ⟨#[]⟩,.int .i64 0,.slice none 0 0,.int .i64 0,.int .i64 0,.string ⟨#[]⟩,.string ⟨#[]⟩,.string ⟨#[]⟩,.int .i64 0,.bool false,.int .i64 0,.int .i64 0,.int .i64 l.seq]] V (sX V.heap.size V ({ m with bp:=sk m.bp d.fence (k+1) },0)) from fun V a=>by
     have h1:=fV.out k;have:=P4 { m with bp:=sk m.bp d.fence k } cx l.seq V (M3.out.aA a) h1.1 h1.2 (HL.out▸HQ.out k hlt);simp only at this;rw [← HL.out,LQ HP.out hlt HE.out,HL.out] at this
     exact this)
    have KX:=gH (show ∀ V,ag W3 V→(jv ⟨bx,0,none⟩).run Tryz.prog V=.ok (.agg cx.toArray) V∧V.cell? ⟨w.heap.size,8,none⟩=some (.slice (some ⟨bl,off,none⟩) m.bp.length ca)∧V.cell? ⟨bl,off+k*4,none⟩=some (.int .i64 l.seq) from fun V a=>⟨gM (RX3.out.aA a) BF,a.cell_kept y8,a.cell_kept c0⟩);clear q0 y8 c0 a3
    go_cut [12,13] from 68 to 78 (fun s12 s13 wx=>∃ YD cy,s12=.pointer (some ⟨YD,0,none⟩)∧s13=.int .i64 0∧ag W3 wx∧ai wx YD cy∧dJ W3.heap.size wx cy { m with bp:=sk m.bp d.fence (k+1) })
    case first =>
     go_region_held3 (fun V=>(jv ⟨bx,0,none⟩).run Tryz.prog V=.ok (.agg cx.toArray) V∧V.cell? ⟨w.heap.size,8,none⟩=some (.slice (some ⟨bl,off,none⟩) m.bp.length ca)∧V.cell? ⟨bl,off+k*4,none⟩=some (.int .i64 l.seq))
      ((
       refine KX.out _ ?_;first
       | with_reducible exact (ag.refl _).drew
       | with_reducible exact b6
       | with_reducible exact b5
       | with_reducible exact ((ag.refl _).alloc _).drew
       | with_reducible exact b5.alloc _
       | fail))
      ((
       go_at_call 11;first
       | ((with_reducible refine (KD.out W3.drew (ag.refl _).drew).mono ?_);rintro e w5 ⟨a5,cy,rfl,m5⟩;have b5:ag W3 w5:=(ag.refl _).drew.trans a5;obtain ⟨s6,b6,r6,x6⟩:=LW (m5.down (B':=W3.heap.size) (by simp));have b6:=b5.trans b6;have X6:=gH (And.intro r6 x6);clear x6 r6)
       | ((with_reducible refine (KD.out _ ((ag.refl _).alloc _).drew).mono ?_);rintro e w5 ⟨a5,cy,rfl,m5⟩;have b5:ag W3 w5:=((ag.refl _).alloc _).drew.trans a5;have PN:ai w5 W3.heap.size cY:=aR (w:=W3) (c:=cY) (t:=36) ((ag.refl _).drew.trans a5) rfl;obtain ⟨s6,b6,r6,x6⟩:=LX PN b5 (Nat.le_refl _) (B:=W3.heap.size+1) (by omega) (m5.down (by simp));have X6:=gH (And.intro r6 (x6.down (B':=W3.heap.size) (by omega)));clear x6 r6)))
     all_goals
      go_wp2
      go_meet
      case rel=>exact ⟨_,_,rfl,rfl,b6,X6.out.1,X6.out.2⟩
    case rest =>
    obtain ⟨YD,cy,rfl,rfl,aB,rB,mB⟩:=hcut;obtain ⟨W4,Dm⟩:∃ V,V=wc:=⟨_,rfl⟩;rw [← Dm] at aB rB mB ⊢;clear Dm;have RY:=gH rB;have MY:=gH mB;have RX4:=gH (RX3.out.aA aB);have AB:=gH aB
    have CF:=gH (show Calls Tryz.prog 6 #[.agg cx.toArray,.int .i64 c,.int .i64 n] W4 fun e w'=>e=.returned (.tuple #[.agg #[.int .i64 d.aC,.int .i64 d.number,.int .i64 d.code,.int .i64 d.fence,.int .i64 d.version],.bool false])∧ag W4 w' from by
     have:=yo { m with bp:=sk m.bp d.fence k } cx c n W4 (M3.out.aA aB);rw [(HF.out _ (qG _ _ _)).1,P3 hlt HE.out] at this
     exact this)
    have ld:=gM RX4.out BF;clear aB rB mB KX KD;go_wp2_with fail;refine CF.out.mono ?_;rintro e w6 ⟨rfl,a6⟩;obtain ⟨s1,a7,-⟩:=sf w6 d;obtain ⟨V5,hV⟩:∃ V,V=(w6.alloc (.cells #[.int .i64 0,.int .i64 0,.int .i64 0,.int .i64 0,.int .i64 0] 48)).setCells w6.heap.size 0 (cj d):=⟨_,rfl⟩;have A5:=gH (show ag W4 V5 from hV▸a6.trans a7);clear a6 a7 ld
    go_upto_region 15 with fail
    rw [← hV];clear hV s1;have ly:=gM (RY.out.aA A5.out) MY.out.w.len;obtain ⟨s1,r9,-,kx⟩:=gG (RX4.out.aA A5.out) BF (MY.out.aA A5.out).w;have s4:=AB.out.size;have s5:=A5.out.size;have NEW:=gH (And.intro (KB.out.trans ((Kb.aO (AZ.out.trans (AB.out.trans A5.out))).trans kx)) (And.intro r9 ((MY.out.aA A5.out).kb kx fun j e=>.inl (by have e:j=_:=e;omega))))
    have w1':IntKind.i64.wrap ((nc:Int)+1)=((nc+1:Nat):Int):=by rw [IntWalk.i64_in _ (by omega)];rfl
    have HCN:=gH (show oh m.bp d.fence (k+1)=nc+1 from by rw [LR hlt HE.out,YC.out]);clear r9 kx;go_wp2
    go_roundw
    case rel =>
     obtain ⟨S9,hS9,hh9⟩:=NEW.out.2.2;exact ⟨k+1,cy,S9,by omega,by rw [HCN.out];go_num,by go_num,NEW.out.1,NEW.out.2.1,fun j e=>by have:=(hS9 j e).1;omega,hh9⟩
    case measure=>simp [intOf];omega
   ·have HE:=gH (show decide (m.bp[k].av < d.fence)=false from by rw [HL.out];exact decide_eq_false he)
    go_wp2_with fail;refine ay (by kernel_rfl) (by kernel_rfl) ?_
    repeat (go_big_quiet_step (fail))
    refine wpQuiet_nil ?_;intro _ hw';obtain ⟨z,hw''⟩:=hw';subst hw'';have aZ:ag wr (bV wr z):=(ag.refl wr).bV z;have HN:=gH (And.intro (KB.out.trans (Kb.aO aZ)) (And.intro (Wd.out.aA aZ) aZ));have HC:=gH (show oh m.bp d.fence (k+1)=nc from by rw [IM hlt HE.out,YC.out]);clear aZ;go_wp2
    go_roundw
    case rel=>exact ⟨k+1,cx,fun j=>S j∧j < wr.heap.size,by omega,by rw [HC.out],by go_num,HN.out.1,HN.out.2.1,fun j e=>HH.out.1 j e.1,fun V kv=>by
     rw [IL hlt HE.out]
     exact HH.out.2 V (((Kb.aO HN.out.2.2).trans kv).mono fun j hj e e'=>e ⟨e',hj⟩)⟩
    case measure=>simp [intOf];omega
  ·have oY:k=m.bp.length:=by omega
   have BF:=(HH.out.2 wr (Kb.refl _ _)).len;have ld:=gM Wd.out BF;have wl:=gH (show f=!(m.bp.any fun x=>decide (x.av < d.fence)) from (HF.out _ (List.Sublist.refl _)).2)
   have HFF:=gH (show (f==((nc:Int)==0))=true from by
    rw [wl.out,← YC.out,oY,LS]
    simp)
   have CF:=gH (show Calls Tryz.prog 6 #[.agg cx.toArray,.int .i64 c,.int .i64 n] wr fun e w'=>e=.returned (.tuple #[.agg #[.int .i64 d.aC,.int .i64 d.number,.int .i64 d.code,.int .i64 d.fence,.int .i64 d.version],.bool true])∧ag wr w' from by
    have:=yo { m with bp:=sk m.bp d.fence k } cx c n wr (HH.out.2 wr (Kb.refl _ _));rw [(HF.out _ (qG _ _ _)).1,oY,LU] at this
    exact this)
   clear x3 xz;go_wp2_with fail;refine CF.out.mono ?_;rintro e w6 ⟨rfl,a6⟩;obtain ⟨s1,a7,-⟩:=sf w6 d;obtain ⟨V5,hV⟩:∃ V,V=(w6.alloc (.cells #[.int .i64 0,.int .i64 0,.int .i64 0,.int .i64 0,.int .i64 0] 48)).setCells w6.heap.size 0 (cj d):=⟨_,rfl⟩;have A5:=gH (show ag wr V5 from hV▸a6.trans a7);clear a6 a7 ld
   go_upto_region 19 with fail
   rw [← hV];clear hV s1;obtain ⟨z0,hz0⟩:∃ z0,((nc:Int)==0)=z0:=⟨_,rfl⟩;have jG:=gH (show (f==z0)=true from hz0▸HFF.out);go_wp2_with fail;refine (qF _).mono ?_;rintro e wa ⟨rfl,aa⟩;have AA:=gH (AK.out.trans (A5.out.trans aa));clear aa;go_wp2_with fail;refine (qE _).mono ?_;rintro e wb ⟨rfl,ab⟩;have AB:=gH (AA.out.trans ab);clear ab;go_wp2;go_ret;exact ⟨by have:=jG.out;simp_all,AB.out⟩
end Go.Proofs.YtakddkhipelmjaaGreat
