import Derived.Test.YtmflccbnoeaafaaGreatPartC17
namespace Go.Proofs.YtmflccbnoeaafaaGreat
set_option maxRecDepth 100000
set_option linter.unusedVariables false
set_option maxHeartbeats 64000000
theorem LA {o:bE} (g:Good o) {t:cu} (ht:t∈o.tables):t.aa∈o.ae.map gj.name:=by
 obtain ⟨s,hs,e⟩:=(g.tab t ht).gQ;exact List.mem_map.2 ⟨s,hs,e⟩
theorem vC {l:List gj} {s:ByteArray} (h:¬ 0≤cE l s):∀ x∈l,x.name≠s:=fun x hx e=>h ((lu l s).2 ⟨x,hx,e⟩)
theorem za {ts:List cu} {s:ByteArray} (h:∀ t∈ts,t.aa≠s):within ts s=0:=by
 unfold within;rw [List.length_eq_zero_iff,List.filter_eq_nil_iff];intro t ht e;exact h t ht ((dE _ _).1 e)
theorem BG {o:bE} {nm ow:ByteArray} (h:bF o=true) (hz:(dp nm ow o).2=0):bF (dp nm ow o).1=true:=by
 have g:=(ek o).1 h;unfold dp at hz ⊢;by_cases c1:(!bP nm || !bP ow)=true
 ·rw [if_pos c1] at hz;cases hz
 ·by_cases c2:0≤cE o.ae nm
  ·rw [if_neg c1,if_pos c2] at hz;cases hz
  ·by_cases c3:8≤o.ae.length
   ·rw [if_neg c1,if_neg c2,if_pos c3] at hz;cases hz
   ·rw [if_neg c1,if_neg c2,if_neg c3]
    simp only [Bool.or_eq_true,Bool.not_eq_true',not_or,Bool.not_eq_false] at c1;refine (ek _).2 ⟨?_,g.nt,g.rt,iT sV.tr sV.dU g.rs (fun y hy e=>vC c2 y hy ((iX _ _).1 e)),fun s hs=>?_,fun t ht=>?_⟩
    ·show (bQ _ _ _).length≤8
     rw [eI _ _ _ (fD _ _ _)];omega
    ·rcases cj.1 hs with e | e
     ·rw [e]
      refine ⟨c1.1,c1.2,?_⟩
      show within o.tables nm≤8
      rw [za fun t ht e=>?_]
      ·omega
      ·obtain ⟨x,hx,e2⟩:=(g.tab t ht).gQ
       exact vC c2 x hx (e2.trans e)
     ·exact g.gQ s e
    ·have a:=g.tab t ht
     obtain ⟨x,hx,e⟩:=a.gQ;exact ⟨a.nm,a.ow,a.ak,a.nr,⟨x,cj.2 (.inr hx),e⟩,a.lr,a.fit,a.key⟩
theorem DM {ts Y6:List cu} {l:List fc} {r:gi} (hs:∀ t∈ts,t.aa=r.aa→t.name=r.table→t∈Y6) (h:iC ts l r):iC Y6 l r:=by
 obtain ⟨t,ht,e1,e2,rest⟩:=h;exact ⟨t,hs t ht e1 e2,e1,e2,rest⟩
theorem BH {o:bE} {t:cu} (h:bF o=true) (hz:(dy t o).2=0):bF (dy t o).1=true:=by
 have g:=(ek o).1 h;unfold dy at hz ⊢;by_cases c1:(!bP t.name || !bP t.owner)=true
 ·rw [if_pos c1] at hz;cases hz
 ·by_cases c2:cE o.ae t.aa < 0
  ·rw [if_neg c1,if_pos c2] at hz;cases hz
  ·by_cases c3:0≤bj o.tables t.aa t.name
   ·rw [if_neg c1,if_neg c2,if_pos c3] at hz;cases hz
   ·by_cases c4:8≤within o.tables t.aa
    ·rw [if_neg c1,if_neg c2,if_neg c3,if_pos c4] at hz;cases hz
    ·by_cases c5:(!fp t.ak || decide (0 < t.rules.length))=true
     ·rw [if_neg c1,if_neg c2,if_neg c3,if_neg c4,if_pos c5] at hz;cases hz
     ·rw [if_neg c1,if_neg c2,if_neg c3,if_neg c4,if_neg c5]
      simp only [Bool.or_eq_true,Bool.not_eq_true',not_or,Bool.not_eq_false,decide_eq_true_eq] at c1 c5;obtain ⟨sx,Y7,Y8⟩:=(lu o.ae t.aa).1 (by omega);have rT:t.rules=[]:=List.eq_nil_of_length_eq_zero (by omega)
      have hw:∀ s∈o.ae,within (bQ o.tables (cN eG o.tables t) t) s.name≤8:=fun s hs=>by
       rw [BC];have:=(g.gQ s hs).2.2;by_cases e:t.aa=s.name
       ·rw [e] at c4
        rw [e,df];simp;omega
       ·rw [show bk t.aa s.name=false by rw [Bool.eq_false_iff];exact fun h9=>e ((dE _ _).1 h9)];simp;exact this
      refine (ek _).2 ⟨g.ns,?_,iT mM.tr mM.dU g.rt (yS (by omega)),g.rs,fun s hs=>⟨(g.gQ s hs).1,(g.gQ s hs).2.1,hw s hs⟩,fun x hx=>?_⟩
      ·have h8:=vx (o.ae.map gj.name) (bQ o.tables (cN eG o.tables t) t) (fun x hx=>by
        rcases cj.1 hx with e | e
        ·rw [e];exact List.mem_map.2 ⟨sx,Y7,Y8⟩
        ·exact LA g e) (fun n hn=>by
        obtain ⟨s,hs,rfl⟩:=List.mem_map.1 hn
        exact hw s hs)
       rw [List.length_map] at h8;have:=g.ns
       show (bQ o.tables (cN eG o.tables t) t).length≤64
       omega
      ·rcases cj.1 hx with e | e
       ·rw [e]
        exact ⟨c1.1,c1.2,c5.1,by rw [rT];simp,⟨sx,Y7,Y8⟩,by rw [rT];rfl,(fun r hr=>by rw [rT] at hr;cases hr),(fun r hr=>by rw [rT] at hr;cases hr)⟩
       ·have a:=g.tab x e
        exact ⟨a.nm,a.ow,a.ak,a.nr,a.gQ,a.lr,a.fit,fun r hr h4=>DM (fun y hy _ _=>cj.2 (.inr hy)) (a.key r hr h4)⟩
theorem ze {o:bE} {s n:ByteArray} (h:bF o=true) (hz:(cv s n o).2=0):bF (cv s n o).1=true:=by
 have g:=(ek o).1 h;have hr:=bg (fun t:cu=>bk t.aa s&&bk t.name n) o.tables;unfold cv at hz ⊢;by_cases c1:bj o.tables s n < 0
 ·rw [if_pos c1] at hz;cases hz
 ·by_cases c2:tB o s n=true
  ·rw [if_neg c1,if_pos c2] at hz;cases hz
  ·rw [if_neg c1,if_neg c2]
   obtain ⟨p,hp⟩:∃ p:Nat,bj o.tables s n=p:=⟨(bj o.tables s n).toNat,by omega⟩
   have hpl:p < o.tables.length:=by unfold bj at hp;omega
   obtain ⟨Rg,Td⟩:=pU hp hpl;rw [hp];simp only [Int.toNat_natCast];refine (ek _).2 ⟨g.ns,Nat.le_trans (List.length_eraseIdx_le _ _) g.nt,mW mM g.rt p,g.rs,fun x hx=>?_,fun x hx=>?_⟩
   ·have:=g.gQ x hx
    refine ⟨this.1,this.2.1,Nat.le_trans ?_ this.2.2⟩;unfold within;exact ((List.eraseIdx_sublist o.tables p).filter _).length_le
   ·have Y9:x∈o.tables:=List.mem_of_mem_eraseIdx hx
    have a:=g.tab x Y9;refine ⟨a.nm,a.ow,a.ak,a.nr,a.gQ,a.lr,a.fit,fun r hr2 h4=>DM (fun y hy e1 e2=>fE hy fun h9 e=>?_) (a.key r hr2 h4)⟩;refine c2 (List.any_eq_true.2 ⟨(x,r),yT Y9 hr2 (vA h4 (by rw [← e1,e,Rg]) (by rw [← e2,e,Td])),?_⟩);obtain ⟨i,hi,hne,ei⟩:=List.mem_eraseIdx_iff_getElem.1 hx
    show (!iN s n x)=true
    rw [← ei,Ip g.rt hp hpl i hi,decide_eq_false hne];rfl
theorem tJ {α:Type} (p:α→Bool):∀ (l:List α) (i:Nat) (hi:i < l.length),p l[i]=false→(l.eraseIdx i).find? p=l.find? p
 | x::l,0,_,h=>by
  have h:p x=false:=h;rw [List.eraseIdx_cons_zero,List.find?_cons,h]
 | x::l,i+1,hi,h=>by
  rw [List.eraseIdx_cons_succ,List.find?_cons,List.find?_cons,tJ p l i (by simpa using hi) (by simpa using h)]
theorem wV {l:List fc} {i:Nat} {a:ByteArray} (hi:i < l.length) (h:l[i].name≠a):dO (l.eraseIdx i) a=dO l a:=by
 unfold dO;rw [tJ _ l i hi (by rw [Bool.eq_false_iff];exact fun e=>h ((dE _ _).1 e))]
theorem uF {l:List fc} {c:fc} {a:ByteArray} {k:Int} (h:dO l a=some k):dO (l++[c]) a=some k:=by
 unfold dO at h ⊢
 cases h1:l.find? (fun c=>bk c.name a) with
 | none=>rw [h1] at h;cases h
 | some x=>rw [List.find?_append,h1];rw [h1] at h;exact h
theorem Ix {l:List fc} {s:ByteArray} {i:Nat} (h:cA l s=i) (hi:i < l.length):l[i].name=s:=(dE _ _).1 (gY (fun c:fc=>bk c.name s) l i hi h)
theorem zh {o:bE} {s n c:ByteArray} (h:bF o=true) (hz:(cY o s n (eB c)).2=0):bF (cY o s n (eB c)).1=true:=by
 have g:=(ek o).1 h
 refine sw h hz fun q hq hat pV=>?_
 have gq:=g.tab _ (List.getElem_mem hq);have hr:=bg (fun x:fc=>bk x.name c) o.tables[q].ak;unfold eB at pV ⊢;by_cases c1:cA o.tables[q].ak c < 0
 ·rw [if_pos c1] at pV;cases pV
 ·by_cases c2:Iq o.tables[q] c=true
  ·rw [if_neg c1,if_pos c2] at pV;cases pV
  ·rw [if_neg c1,if_neg c2]
   obtain ⟨p,hp⟩:∃ p:Nat,cA o.tables[q].ak c=p:=⟨(cA o.tables[q].ak c).toNat,by omega⟩
   have hpl:p < o.tables[q].ak.length:=by unfold cA at hp;omega
   have Td:=Ix hp hpl;rw [hp];simp only [Int.toNat_natCast];unfold Iq at c2;simp only [Bool.or_eq_true,decide_eq_true_eq,List.any_eq_true,not_or,not_exists,not_and] at c2
   have hno:∀ r∈o.tables[q].rules,∀ a∈r.ak,∀ k,dO o.tables[q].ak a=some k→dO (o.tables[q].ak.eraseIdx p) a=some k:=fun r hr2 a ha k hk=>by
    rw [wV hpl (fun e=>c2.2 r hr2 a ha ((dE _ _).2 (by rw [← e,Td])))];exact hk
   have eA:=(lQ _).1 gq.ak;refine pT (t:={ o.tables[q] with ak:=o.tables[q].ak.eraseIdx p }) g hq rfl rfl rfl ?_ gq.nr gq.lr (fun r hr2=>vu (hno r hr2) (gq.fit r hr2)) (fun r hr2 h4=>nH hq rfl rfl (hno r hr2) (fun _ _ k hk _ _=>⟨hk,hno k hk⟩) (gq.key r hr2 h4)) (fun x hx r hr2 h4=>nH hq rfl rfl iY (fun _ _ k hk _ _=>⟨hk,hno k hk⟩) ((g.tab x hx).key r hr2 h4));refine (lQ _).2 ⟨⟨?_,?_⟩,fun x hx=>eA.2.1 x (List.mem_of_mem_eraseIdx hx),eA.2.2.sublist (List.eraseIdx_sublist _ _)⟩
   ·show 1≤(o.tables[q].ak.eraseIdx p).length
    rw [List.length_eraseIdx_of_lt hpl];have:=c2.1;have:=eA.1.1;omega
   ·show (o.tables[q].ak.eraseIdx p).length≤8
    rw [List.length_eraseIdx_of_lt hpl];have:=eA.1.2;omega
theorem BI {o:bE} {s n:ByteArray} {c:fc} (h:bF o=true) (hz:(cY o s n (eF c)).2=0):bF (cY o s n (eF c)).1=true:=by
 have g:=(ek o).1 h
 refine sw h hz fun q hq hat pV=>?_
 have gq:=g.tab _ (List.getElem_mem hq);unfold eF at pV ⊢;by_cases c1:(!kh c || !c.null)=true
 ·rw [if_pos c1] at pV;cases pV
 ·by_cases c2:0≤cA o.tables[q].ak c.name
  ·rw [if_neg c1,if_pos c2] at pV;cases pV
  ·by_cases c3:8≤o.tables[q].ak.length
   ·rw [if_neg c1,if_neg c2,if_pos c3] at pV;cases pV
   ·rw [if_neg c1,if_neg c2,if_neg c3]
    simp only [Bool.or_eq_true,Bool.not_eq_true',not_or,Bool.not_eq_false] at c1;have eA:=(lQ _).1 gq.ak
    have hm:∀ (cs:List ByteArray),∀ a∈cs,∀ k,dO o.tables[q].ak a=some k→dO (o.tables[q].ak++[c]) a=some k:=fun _ a _ k hk=>uF hk
    refine pT (t:={ o.tables[q] with ak:=o.tables[q].ak++[c] }) g hq rfl rfl rfl ?_ gq.nr gq.lr (fun r hr2=>vu (hm r.ak) (gq.fit r hr2)) (fun r hr2 h4=>nH hq rfl rfl (hm r.ak) (fun _ _ k hk _ _=>⟨hk,hm k.ak⟩) (gq.key r hr2 h4)) (fun x hx r hr2 h4=>nH hq rfl rfl iY (fun _ _ k hk _ _=>⟨hk,hm k.ak⟩) ((g.tab x hx).key r hr2 h4));refine (lQ _).2 ⟨⟨?_,?_⟩,fun x hx=>?_,?_⟩
    ·show 1≤(o.tables[q].ak++[c]).length
     simp
    ·show (o.tables[q].ak++[c]).length≤8
     simp;omega
    ·rcases List.mem_append.1 hx with e | e
     ·exact eA.2.1 x e
     ·rw [List.mem_singleton] at e;rw [e];exact c1.1
    ·refine List.pairwise_append.2 ⟨eA.2.2,by simp,fun a ha b hb e=>?_⟩
     rw [List.mem_singleton] at hb;subst hb;refine c2 ?_;have h9:=im (fun x:fc=>bk x.name b.name) o.tables[q].ak
     rcases Int.lt_or_le (bK (fun x:fc=>bk x.name b.name) o.tables[q].ak) 0 with h0 | h0
     ·rw [if_pos h0] at h9
      exact absurd ((dE _ _).2 e) (List.find?_eq_none.1 h9 a ha)
     ·exact h0
end Go.Proofs.YtmflccbnoeaafaaGreat
namespace Go.Proofs.YtmflccbnoeaafaaGreat
open Go.RowKit
set_option maxRecDepth 100000
set_option linter.unusedVariables false
set_option maxHeartbeats 64000000
structure eW where
 kind:Int
 aJ:ByteArray
 aa:ByteArray
 table:ByteArray
 name:ByteArray
 role:ByteArray
 ak:List fc
 rule:gi
 right:Int
 opt:Bool
def LB (r:gi):Bool:=DA r.name r.kind r.ak.length r.low r.high r.aa r.table r.key
def fF (x:eW):Bool:=EY x.kind x.aJ x.aa x.table x.name x.role x.ak.length (LB x.rule) x.right x.opt
def cD (x:eW):Bool:=pO x.kind x.rule.kind
noncomputable def gB (c:bW) (x:eW):Bool :=
 if x.kind=2∨x.kind=3 then BJ c.aj x.aJ dL || BJ c.aj x.aJ (oa c.ai x.aa)
 else if 4≤x.kind∧x.kind≤9 then ji c x.aJ x.aa x.table
 else if x.kind=14∨x.kind=15 then true
 else BJ c.aj x.aJ dL
noncomputable def dC (c:bW) (x:eW):Int :=
 if eu c=false then 1 else if fF x=false then 90 else if dQ c.aj.names x.aJ=false then 71
 else if emp x.aa=false∧x.kind≠1∧cE c.ai.ae x.aa < 0 then 61
 else if emp x.table=false∧x.kind≠3∧bj c.ai.tables x.aa x.table < 0 then 61
 else if gB c x=false then 91 else 0
def dP (x:eW):fc:=x.ak.headD ⟨⟨#[]⟩,0,false⟩
def dt (c:bW) (x:eW):bE × Int :=
 if x.kind=1 then cR c.ai (dp x.aa x.aJ c.ai)
 else if x.kind=2 then cR c.ai (cP x.aa c.ai)
 else if x.kind=3 then cR c.ai (dy ⟨x.aa,x.table,x.aJ,x.ak,[]⟩ c.ai)
 else if x.kind=4 then cR c.ai (cv x.aa x.table c.ai)
 else if x.kind=5 then cR c.ai (cY c.ai x.aa x.table (eF (dP x)))
 else if x.kind=6 then cR c.ai (cY c.ai x.aa x.table (eB x.name))
 else if x.kind=7 then cR c.ai (cY c.ai x.aa x.table (eo c.ai.tables x.rule))
 else if x.kind=8 then cR c.ai (cY c.ai x.aa x.table (dN c.ai.tables x.aa x.table x.name))
 else if dQ c.aj.names x.role then eE c.ai x.aa x.table x.role else (cx,71)
def io (c:bW) (role:ByteArray):Bool:=bk role dL || c.ai.ae.any (fun s=>bk s.owner role) || c.ai.tables.any (fun t=>bk t.owner role) || c.af.any (fun g=>bk g.aC role || bk g.to role)
noncomputable def gC (c:bW) (x:eW):fX × Int :=
 if x.kind=10 then eC c.aj (lR x.role c.aj)
 else if x.kind=11 then (if dQ c.aj.names x.role&&io c x.role then (DN,73) else eC c.aj (fO x.role c.aj))
 else if x.kind=12 then eC c.aj (iD ⟨x.role,x.name⟩ c.aj)
 else eC c.aj (gD ⟨x.role,x.name⟩ c.aj)
def ml (l:List cB) (s n:ByteArray):List cB:=l.filter fun g=>!(bk g.aa s&&bk g.table n)
def LC (b:Bool) (x:eW) (g:cB):Bool:=bk g.aa x.aa&&bk g.table x.table&&(g.right==x.right)&&bk g.to x.role&&(b || bk g.aC x.aJ)
def oX (l:List cB) (b:Bool) (x:eW):List cB:=l.filter fun g=>!LC b x g
noncomputable def bZ (c:bW) (x:eW):bW × Int :=
 if x.kind≤9 then ({ c with ai:=(dt c x).1,af:=if x.kind=4 then ml c.af x.aa x.table else c.af },(dt c x).2)
 else if x.kind≤13 then ({ c with aj:=(gC c x).1 },(gC c x).2)
 else if x.kind=14 then dX c ⟨x.aa,x.table,x.right,x.aJ,x.role,x.opt⟩
 else ({ c with af:=oX c.af (ji c x.aJ x.aa x.table) x },if (oX c.af (ji c x.aJ x.aa x.table) x).length=c.af.length then 80 else 0)
noncomputable def ki (d:bW) (f:Bool):bW:={ d with af:=cH d,version:=d.version+1,aA:=if f then d.aA+1 else d.aA }
noncomputable def cV (c:bW) (x:eW):bW × Int :=
 if dC c x≠0 then (lH,dC c x) else if (bZ c x).2≠0 then (lH,(bZ c x).2)
 else if 1000000000≤c.version∨(cD x=true∧1000≤c.aA) then (lH,92)
 else (ki (bZ c x).1 (cD x),0)
theorem jR (l:List cu) (s n:ByteArray):0≤bj l s n↔∃ t∈l,t.aa=s∧t.name=n:=by
 have h:=im (fun t:cu=>bk t.aa s&&bk t.name n) l;have hr:=bg (fun t:cu=>bk t.aa s&&bk t.name n) l;have e:bj l s n=bK (fun t:cu=>bk t.aa s&&bk t.name n) l:=rfl;rw [e]
 constructor
 ·intro h0
  rw [if_neg (by omega),List.getElem?_eq_getElem (by omega)] at h;have h2:=List.find?_some (p:=fun t:cu=>bk t.aa s&&bk t.name n) h;simp only [Bool.and_eq_true,dE] at h2;exact ⟨_,List.mem_of_find?_eq_some h,h2⟩
 ·rintro ⟨x,hx,rfl,rfl⟩
  rcases Int.lt_or_le (bK (fun t:cu=>bk t.aa x.aa&&bk t.name x.name) l) 0 with h0 | h0
  ·rw [if_pos h0] at h
   exact absurd (by simp [df]) (List.find?_eq_none.1 h x hx)
  ·exact h0
theorem zi {o:bE} (h:aN eG o.tables=true) {t:cu} (ht:t∈o.tables):iK o t.aa t.name=t:=by
 obtain ⟨q,hq⟩:∃ q:Nat,bj o.tables t.aa t.name=q:=⟨_,(Int.toNat_of_nonneg ((jR _ _ _).2 ⟨t,ht,rfl,rfl⟩)).symm⟩;have hr:=(bg (fun x:cu=>bk x.aa t.aa&&bk x.name t.name) o.tables).2
 have hl:q < o.tables.length:=by unfold bj at hq;omega
 rw [nB hq hl];obtain ⟨e1,e2⟩:=pU hq hl;exact lN mM h (List.getElem_mem hl) ht (oP.2 ⟨e1,e2⟩)
theorem vD {o:bE} (h:aN jB o.ae=true) {z:gj} (hz:z∈o.ae):oa o z.name=z.owner:=by
 have h0:=(lu o.ae z.name).2 ⟨z,hz,rfl⟩;have hr:=(bg (fun x:gj=>bk x.name z.name) o.ae).2;obtain ⟨q,hq⟩:∃ q:Nat,cE o.ae z.name=q:=⟨_,(Int.toNat_of_nonneg h0).symm⟩
 have hl:q < o.ae.length:=by unfold cE at hq;omega
 unfold oa;rw [if_neg (by omega),hq,Int.toNat_natCast,List.getElem?_eq_getElem hl];have e1:o.ae[q].name=z.name:=(dE _ _).1 (gY (fun x:gj=>bk x.name z.name) o.ae q hl hq);have e2:o.ae[q]=z:=lN sV h (List.getElem_mem hl) hz ((iX _ _).2 e1);simp [e2]
theorem Iy {c d:bW} (ho:d.ai=c.ai) (hr:d.aj=c.aj) (hg:d.af=c.af) {g:cB} (h:Held c g):Held d g:=yr ho hr id (fun x hx=>⟨by rw [hg];exact hx,rfl,fun h=>h⟩) g h
theorem BK {c d:bW} (ho:d.ai=c.ai) (hr:d.aj=c.aj) (hg:d.af=c.af) (h:bM c=true):bM d=true:=by
 obtain ⟨h1,h2,h3,h4⟩:=bO.1 h;refine bO.2 ⟨by rw [hg];exact h1,?_,fun g hx=>?_,by rw [hg];exact h4⟩
 ·rw [ho,hr]
  refine ⟨h2.1,h2.2.1,h2.2.2.1,?_⟩;have:=h2.2.2.2;unfold iA at this ⊢;rw [ho,hr];exact this
 ·rw [hg] at hx
  rw [qH ho hr (rfl:fd g=fd g)];exact h3 g hx
theorem Fd {c d:bW} (ho:d.ai=c.ai) (hr:d.aj=c.aj) (hg:d.af=c.af) (h:dH c=true):dH d=true:=by
 obtain ⟨h1,h2⟩:=cZ.1 h;exact cZ.2 ⟨BK ho hr hg h1,fun g hx=>Iy ho hr hg (h2 g (by rw [← hg];exact hx))⟩
theorem oZ {d:bW} (h:bM d=true) (f:Bool):dH (ki d f)=true:=Fd (c:={ d with af:=cH d }) rfl rfl rfl (Be h)
theorem ic {c:bW}:eu c=true↔(0≤c.aA∧c.aA≤1000)∧(0≤c.version∧c.version≤1000000000)∧dH c=true:=by
 unfold eu;simp only [Bool.and_eq_true,decide_eq_true_eq];exact ⟨fun h=>⟨⟨h.1.1.1.1,h.1.1.1.2⟩,⟨h.1.1.2,h.1.2⟩,h.2⟩,fun h=>⟨⟨⟨⟨h.1.1,h.1.2⟩,h.2.1.1⟩,h.2.1.2⟩,h.2.2⟩⟩
theorem zj {c:bW} (h:bM c=true) {o:bE} (hk:bF o=true) (hs:∀ s∈o.ae,dQ c.aj.names s.owner=true) (ht:∀ t∈o.tables,dQ c.aj.names t.owner=true) {l:List cB} (hl:l.Sublist c.af) (hg:∀ g∈l,0≤bj o.tables g.aa g.table):bM { c with ai:=o,af:=l }=true:=by
 obtain ⟨h1,h2,h3,h4⟩:=bO.1 h;refine bO.2 ⟨Nat.le_trans hl.length_le h1,⟨hk,h2.2.1,h2.2.2.1,?_⟩,fun g hx=>?_,il.2 ((il.1 h4).sublist hl)⟩
 ·show (_&&_)=true
  rw [Bool.and_eq_true,List.all_eq_true,List.all_eq_true];exact ⟨hs,ht⟩
 ·obtain ⟨k1,k2,k3,k4,k5⟩:=ll (h3 g (hl.subset hx))
  unfold iM;simp only [Bool.and_eq_true,decide_eq_true_eq,Bool.not_eq_true'];exact ⟨⟨⟨⟨hg g hx,k2⟩,k3⟩,k4⟩,k5⟩
theorem pc {c:bW}:iA c=true↔(∀ s∈c.ai.ae,dQ c.aj.names s.owner=true)∧∀ t∈c.ai.tables,dQ c.aj.names t.owner=true:=by
 unfold iA;rw [Bool.and_eq_true,List.all_eq_true,List.all_eq_true]
theorem zk {c:bW} (h:bM c=true) {r:fX} (hr:bN r=true) (hn:∀ a,dQ c.aj.names a=true→io c a=true→dQ r.names a=true):bM { c with aj:=r }=true:=by
 obtain ⟨h1,h2,h3,h4⟩:=bO.1 h;obtain ⟨uG,WP⟩:=pc.1 h2.2.2.2
 have n1:io c dL=true:=by unfold io;rw [df];rfl
 have n2:∀ s∈c.ai.ae,io c s.owner=true:=fun s hs=>by
  have:c.ai.ae.any (fun z=>bk z.owner s.owner)=true:=List.any_eq_true.2 ⟨s,hs,df _⟩;unfold io;rw [this];simp
 have n3:∀ t∈c.ai.tables,io c t.owner=true:=fun t ht=>by
  have:c.ai.tables.any (fun z=>bk z.owner t.owner)=true:=List.any_eq_true.2 ⟨t,ht,df _⟩;unfold io;rw [this];simp
 have n4:∀ g∈c.af,io c g.aC=true∧io c g.to=true:=fun g hg=>by
  have e1:c.af.any (fun z=>bk z.aC g.aC || bk z.to g.aC)=true:=List.any_eq_true.2 ⟨g,hg,by rw [df];rfl⟩;have e2:c.af.any (fun z=>bk z.aC g.to || bk z.to g.to)=true:=List.any_eq_true.2 ⟨g,hg,by rw [df];simp⟩;unfold io;rw [e1,e2];simp
 refine bO.2 ⟨h1,⟨h2.1,hr,hn _ h2.2.2.1 n1,pc.2 ⟨fun s hs=>hn _ (uG s hs) (n2 s hs),fun t ht=>hn _ (WP t ht) (n3 t ht)⟩⟩,fun g hx=>?_,h4⟩;obtain ⟨k1,k2,k3,k4,k5⟩:=ll (h3 g hx);unfold iM;simp only [Bool.and_eq_true,decide_eq_true_eq,Bool.not_eq_true'];exact ⟨⟨⟨⟨k1,k2⟩,k3⟩,hn _ k4 (n4 g hx).1⟩,hn _ k5 (n4 g hx).2⟩
theorem iE {o:bE} {r:bE × Int} (h:bF o=true):cR o r=r:=by unfold cR;rw [if_pos h]
theorem zl {o:bE} {nm:ByteArray} (h:bF o=true) (hz:(cP nm o).2=0):bF (cP nm o).1=true:=by
 have g:=(ek o).1 h;unfold cP at hz ⊢;by_cases c1:cE o.ae nm < 0
 ·rw [if_pos c1] at hz;cases hz
 by_cases c2:0 < within o.tables nm
 ·rw [if_neg c1,if_pos c2] at hz;cases hz
 rw [if_neg c1,if_neg c2];obtain ⟨p,hp⟩:∃ p:Nat,cE o.ae nm=p:=⟨(cE o.ae nm).toNat,by omega⟩;have hr:=(bg (fun x:gj=>bk x.name nm) o.ae).2
 have hpl:p < o.ae.length:=by unfold cE at hp;omega
 have e1:o.ae[p].name=nm:=(dE _ _).1 (gY (fun x:gj=>bk x.name nm) o.ae p hpl hp);rw [hp,Int.toNat_natCast];refine (ek _).2 ⟨Nat.le_trans (List.length_eraseIdx_le _ _) g.ns,g.nt,g.rt,mW sV g.rs p,fun x hx=>g.gQ x (List.mem_of_mem_eraseIdx hx),fun t ht=>?_⟩;have a:=g.tab t ht;refine ⟨a.nm,a.ow,a.ak,a.nr,?_,a.lr,a.fit,a.key⟩;obtain ⟨z,hz1,hz2⟩:=a.gQ;refine ⟨z,fE hz1 fun h9 e=>c2 ?_,hz2⟩;unfold within;exact List.length_pos_iff_exists_mem.2 ⟨t,List.mem_filter.2 ⟨ht,(dE _ _).2 (by rw [← hz2,e,e1])⟩⟩
theorem zm {o:bE} {s n:ByteArray} {f:cu→cu × Int} (hz:(cY o s n f).2=0):∃ (q:Nat) (hq:q < o.tables.length),bj o.tables s n=q∧(f o.tables[q]).2=0∧cY o s n f=(⟨o.ae,o.tables.set q (f o.tables[q]).1⟩,0):=by
 have hr:=bg (fun t:cu=>bk t.aa s&&bk t.name n) o.tables;by_cases h0:bj o.tables s n < 0
 ·rw [nz h0] at hz;cases hz
 ·obtain ⟨q,hq⟩:∃ q:Nat,bj o.tables s n=q:=⟨(bj o.tables s n).toNat,by omega⟩
  have q9:q < o.tables.length:=by unfold bj at hq;omega
  rw [nA hq q9] at hz ⊢;by_cases h1:(f o.tables[q]).2=0
  ·rw [if_pos h1];exact ⟨q,q9,hq,h1,rfl⟩
  ·rw [if_neg h1] at hz;exact absurd hz h1
def BL (t:cu) (v:ByteArray):cu:=⟨t.aa,t.name,v,t.ak,t.rules⟩
theorem Iz {o:bE} {q:Nat} {v:ByteArray} (g:Good o) (hq:q < o.tables.length) (hv:bP v=true):Good ⟨o.ae,o.tables.set q (BL o.tables[q] v)⟩:=by
 have gq:=g.tab _ (List.getElem_mem hq)
 have hk2:∀ x∈o.tables,∀ r∈x.rules,r.kind=4→iC (o.tables.set q (BL o.tables[q] v)) x.ak r:=fun x hx r hr h4=>by
  obtain ⟨t,ht,e1,e2,k,hk,e3,e4,e5⟩:=(g.tab x hx).key r hr h4;by_cases e:t=o.tables[q]
  ·exact ⟨(BL o.tables[q] v),List.mem_set hq _,by rw [← e];exact e1,by rw [← e];exact e2,k,by rw [← e];exact hk,e3,e4,by rw [← e];exact e5⟩
  ·obtain ⟨i,hi,rfl⟩:=List.getElem_of_mem ht
   have hne:q≠i:=fun h=>e (by subst h;rfl)
   exact ⟨o.tables[i],List.mem_iff_getElem.2 ⟨i,by simpa using hi,by rw [List.getElem_set_ne hne]⟩,e1,e2,k,hk,e3,e4,e5⟩
 refine ⟨g.ns,by simpa using g.nt,?_,g.rs,fun s hs2=>?_,fun x hx=>?_⟩
 ·show aN eG (o.tables.set q (BL o.tables[q] v))=true
  rw [vy (t:=BL o.tables[q] v) hq rfl rfl];exact g.rt
 ·have:=g.gQ s hs2
  refine ⟨this.1,this.2.1,?_⟩
  show within (o.tables.set q (BL o.tables[q] v)) s.name≤8
  rw [tF (t:=BL o.tables[q] v) hq rfl];exact this.2.2
 ·rcases oT hx with rfl | hx
  ·exact ⟨gq.nm,hv,gq.ak,gq.nr,gq.gQ,gq.lr,gq.fit,fun r hr h4=>hk2 _ (List.getElem_mem hq) r hr h4⟩
  ·have gx:=g.tab x hx
   exact ⟨gx.nm,gx.ow,gx.ak,gx.nr,gx.gQ,gx.lr,gx.fit,hk2 x hx⟩
theorem BM {o:bE} {s n v:ByteArray} (h:bF o=true) (hz:(eE o s n v).2=0):bF (eE o s n v).1=true∧bP v=true∧eE o s n v=cY o s n (Lk v):=by
 unfold eE at hz ⊢;rw [if_pos h] at hz ⊢;by_cases hv:bP v=true
 ·rw [if_pos hv] at hz ⊢
  refine ⟨?_,hv,rfl⟩;obtain ⟨q,hq,h1,h2,h3⟩:=zm hz;rw [h3];exact (ek _).2 (Iz ((ek o).1 h) hq hv)
 ·rw [if_neg hv] at hz;exact absurd hz (by decide)
end Go.Proofs.YtmflccbnoeaafaaGreat
namespace Go.Proofs.YtmflccbnoeaafaaGreat
open Go.RowKit Go.Deep
set_option maxRecDepth 100000
set_option linter.unusedVariables false
set_option maxHeartbeats 64000000
theorem Fe:(Tryz.prog.info? 106).map (fun i=>(i.zero,i.size,i.bytes))=some (some (.agg #[.string ByteArray.empty,.string ByteArray.empty,.int .i64 0,.string ByteArray.empty,.string ByteArray.empty,.bool false]),6,80):=by kernel_rfl
theorem lS (A:Option Addr) (cap:Nat) (l:List cB) (w0 w:World) (ha:ag w0 w) (h:aL w0 6 mr A cap l) (hb:l.length≤1000000) :
  Calls Tryz.prog 54 #[.slice A l.length cap] w (pd 106 6 mr w0 w l):=by
 obtain ⟨i0,hi,hz0,hz1,hz2⟩:=info_parts Fe
 have Rh:∀ (w:World) (a:Option Addr) (n c n' c':Nat),(binOp .eql 30 (.slice a n c) (.slice none n' c')).run Tryz.prog w=.ok (.bool a.isNone) w:=fun w a n c n' c'=>Lib.run_eql_slice_nil w _ _ a n c n' c' Tryz.underlying30
 cases A with
 | none =>
  have hl0:l=[]:=by
   cases l with
   | nil=>rfl
   | cons x l=>obtain ⟨b,off,cs,hA,_⟩:=h.2.2 0 (by simp);cases hA
  subst hl0
  go_enter Tryz.func54,Tryz.ntmps54
  go_wp2_with fail;go_ret;exact ⟨_,[],rfl,ag.refl _,dl _ _ _ _,cF.nil⟩
 | some ad =>
  have HC:∃ cI,cF w0 6 mr cI l∧∀ p u,cI.flatten[p]? = some u→w.cell? (ad.add p)=some u:=by
   by_cases h0:0 < l.length
   ·obtain ⟨b,off,cI,hA,hb',hch,hc⟩:=h.cI h0 (by decide)
    simp only [Option.some.injEq] at hA;subst hA;refine ⟨cI,hch,fun p u hp=>?_⟩
    have hlt:p < l.length*6:=by rw [← hch.len];exact (List.getElem?_eq_some_iff.1 hp).1
    rw [mD];exact ha.cell_kept ((hc p hlt).trans hp)
   ·have hl0:l=[]:=List.eq_nil_of_length_eq_zero (by omega)
    subst hl0;exact ⟨[],cF.nil,fun p u hp=>by simp at hp⟩
  obtain ⟨cI,hch,hcell⟩:=HC;have H1:=gH hcell
  have H2:Hid (∀ u∈cI.flatten,u.oneCell'=true):=gH (by
   intro u hu;obtain ⟨c,hc,hu⟩:=List.mem_flatten.1 hu;obtain ⟨i,hi,rfl⟩:=List.getElem_of_mem hc;have h3:=(hch.2 i hi (by rw [← hch.1];exact hi)).2;obtain ⟨hcs,_⟩:=h3;unfold cC at hcs;rw [hcs] at hu;simp only [List.mem_cons,List.not_mem_nil,or_false] at hu
   rcases hu with rfl | rfl | rfl | rfl | rfl | rfl<;>simp [Value.oneCell'])
  have H3:=gH hch;have HI:=gH hi;have qw:=gH hz0;have nS:=gH hz1;have mG:=gH hz2;clear hcell hch hi hz0 hz1 hz2 h ha
  go_enter Tryz.func54,Tryz.ntmps54
  go_wp2_with (at_builtin;refine wpList_append_own _ rfl _ _ 30 rfl w.heap.size 106 i0 (.agg #[.string ByteArray.empty,.string ByteArray.empty,.int .i64 0,.string ByteArray.empty,.string ByteArray.empty,.bool false]) 6 80 Tryz.underlying30 HI.out qw.out nS.out mG.out rfl (by decide) _ _ _ rfl (World.ownsRow_made w #[] 0 (Nat.le_refl _) (Nat.zero_le _) rfl) ad l.length cap cI.flatten rfl ?Ff ?Fg ?Fh ?Fi ?Fj ?Fk ?_)
  case Ff=>exact H3.out.len
  case Fg =>
   intro j u hj;exact Lib.cell?_alloc_some _ (H1.out j u hj)
  case Fh=>exact H2.out
  case Fi=>unfold maxLen;omega
  case Fj=>omega
  case Fk=>simp
  intro v' w1 hown hgrow hnil;have HO:=gH hown;have HA:=gH (show ag w w1 from ((Below.refl _ w).alloc (Nat.le_refl _) _).grown hgrow (by simp) (by intro k hk;simp [Value.ownBlock] at hk;omega));clear hown hgrow hnil;go_wp2_with fail;go_ret;refine ⟨v',cI,rfl,HA.out,?_,H3.out⟩
  simpa using HO.out
theorem Fl:(Tryz.prog.info? 53).map (fun i=>(i.zero,i.size,i.bytes))=some (some (.agg #[.string ByteArray.empty,.string ByteArray.empty,.string ByteArray.empty,.slice none 0 0,.slice none 0 0]),5,96):=by kernel_rfl
theorem BN (A:Option Addr) (cap:Nat) (l:List cu) (w0 w:World) (ha:ag w0 w) (h:aL w0 5 dA A cap l) (hb:l.length≤1000000) :
  Calls Tryz.prog 202 #[.slice A l.length cap] w (pd 53 5 dA w0 w l):=by
 obtain ⟨i0,hi,hz0,hz1,hz2⟩:=info_parts Fl
 have Rh:∀ (w:World) (a:Option Addr) (n c n' c':Nat),(binOp .eql 23 (.slice a n c) (.slice none n' c')).run Tryz.prog w=.ok (.bool a.isNone) w:=fun w a n c n' c'=>Lib.run_eql_slice_nil w _ _ a n c n' c' Tryz.underlying23
 cases A with
 | none =>
  have hl0:l=[]:=by
   cases l with
   | nil=>rfl
   | cons x l=>obtain ⟨b,off,cs,hA,_⟩:=h.2.2 0 (by simp);cases hA
  subst hl0
  go_enter Tryz.func202,Tryz.ntmps202
  go_wp2_with fail;go_ret;exact ⟨_,[],rfl,ag.refl _,dl _ _ _ _,cF.nil⟩
 | some ad =>
  have HC:∃ cI,cF w0 5 dA cI l∧∀ p u,cI.flatten[p]? = some u→w.cell? (ad.add p)=some u:=by
   by_cases h0:0 < l.length
   ·obtain ⟨b,off,cI,hA,hb',hch,hc⟩:=h.cI h0 (by decide)
    simp only [Option.some.injEq] at hA;subst hA;refine ⟨cI,hch,fun p u hp=>?_⟩
    have hlt:p < l.length*5:=by rw [← hch.len];exact (List.getElem?_eq_some_iff.1 hp).1
    rw [mD];exact ha.cell_kept ((hc p hlt).trans hp)
   ·have hl0:l=[]:=List.eq_nil_of_length_eq_zero (by omega)
    subst hl0;exact ⟨[],cF.nil,fun p u hp=>by simp at hp⟩
  obtain ⟨cI,hch,hcell⟩:=HC;have H1:=gH hcell
  have H2:Hid (∀ u∈cI.flatten,u.oneCell'=true):=gH (by
   intro u hu;obtain ⟨c,hc,hu⟩:=List.mem_flatten.1 hu;obtain ⟨i,hi,rfl⟩:=List.getElem_of_mem hc;have h3:=(hch.2 i hi (by rw [← hch.1];exact hi)).2;obtain ⟨_,_,_,_,hcs,_⟩:=h3;rw [hcs] at hu;simp only [List.mem_cons,List.not_mem_nil,or_false] at hu
   rcases hu with rfl | rfl | rfl | rfl | rfl<;>simp [Value.oneCell'])
  have H3:=gH hch;have HI:=gH hi;have qw:=gH hz0;have nS:=gH hz1;have mG:=gH hz2;clear hcell hch hi hz0 hz1 hz2 h ha
  go_enter Tryz.func202,Tryz.ntmps202
  go_wp2_with (at_builtin;refine wpList_append_own _ rfl _ _ 23 rfl w.heap.size 53 i0 (.agg #[.string ByteArray.empty,.string ByteArray.empty,.string ByteArray.empty,.slice none 0 0,.slice none 0 0]) 5 96 Tryz.underlying23 HI.out qw.out nS.out mG.out rfl (by decide) _ _ _ rfl (World.ownsRow_made w #[] 0 (Nat.le_refl _) (Nat.zero_le _) rfl) ad l.length cap cI.flatten rfl ?Ff ?Fg ?Fh ?Fi ?Fj ?Fk ?_)
  case Ff=>exact H3.out.len
  case Fg =>
   intro j u hj;exact Lib.cell?_alloc_some _ (H1.out j u hj)
  case Fh=>exact H2.out
  case Fi=>unfold maxLen;omega
  case Fj=>omega
  case Fk=>simp
  intro v' w1 hown hgrow hnil;have HO:=gH hown;have HA:=gH (show ag w w1 from ((Below.refl _ w).alloc (Nat.le_refl _) _).grown hgrow (by simp) (by intro k hk;simp [Value.ownBlock] at hk;omega));clear hown hgrow hnil;go_wp2_with fail;go_ret;refine ⟨v',cI,rfl,HA.out,?_,H3.out⟩
  simpa using HO.out
theorem Kb.or {P Q:Nat→Prop} {w w' w'':World} (h:Kb P w w') (h':Kb Q w' w''):Kb (fun g=>P g∨Q g) w w'':=(h.mono fun _ _=>.inl).trans (h'.mono fun _ _=>.inr)
def wW (w:World) (x:ay):Prop:=x.hc.n=x.ak.length∧x.hr.n=x.rules.length∧aL w 3 iv x.hc.a x.hc.c x.ak∧aL w 8 gI x.hr.a x.hr.c (x.rules.map (·.r))∧Small x.aa.size∧Small x.name.size∧Small x.owner.size
theorem wW.az {w w':World} {x:ay} (h:wW w x) (a:ag w w'):wW w' x:=⟨h.1,h.2.1,cy a h.2.2.1,ee a h.2.2.2.1,h.2.2.2.2⟩
theorem wW.cY {w:World} {x:ay} (h:wW w x):dA w x.cells x.t :=
 ⟨x.hc.a,x.hc.c,x.hr.a,x.hr.c,by unfold ay.cells Hd.v;rw [h.1,h.2.1];simp [ay.t],h.2.2.1,h.2.2.2.1,h.2.2.2.2⟩
theorem IA {w:World} {cI:List (List Value)} {l:List cu} (h:cF w 5 dA cI l):∃ L:List ay,L.map ay.t=l∧cI=L.map ay.cells∧∀ x∈L,wW w x:=by
 have hex:∀ i,i < l.length→∃ x:ay,∀ (hi:i < l.length) (hc:i < cI.length),x.t=l[i]∧cI[i]=x.cells∧wW w x:=by
  intro i hi
  have hc:i < cI.length:=by rw [h.1];exact hi
  obtain ⟨_,A,cap,A2,bT,hcs,hs,hr,h1,h2,h3⟩:=h.2 i hc hi
  have e:(l[i].rules.map (fun r=>(⟨r,⟨none,0,0⟩⟩:b7))).map (·.r)=l[i].rules:=by rw [List.map_map];exact List.map_id _
  exact ⟨⟨l[i].aa,l[i].name,l[i].owner,l[i].ak,l[i].rules.map (fun r=>⟨r,⟨none,0,0⟩⟩),⟨A,l[i].ak.length,cap⟩,⟨A2,l[i].rules.length,bT⟩⟩,fun _ _=>⟨by unfold ay.t;rw [e],hcs,rfl,by simp,hs,by rw [e];exact hr,h1,h2,h3⟩⟩
 obtain ⟨L,hL,hp⟩:=kz l.length _ hex;refine ⟨L,?_,?_,?_⟩
 ·refine List.ext_getElem (by simp [hL]) fun i h1 h2=>?_
  rw [List.getElem_map];exact (hp i (by simpa using h1) h2 (by rw [h.1];exact h2)).1
 ·refine List.ext_getElem (by simp [hL,h.1]) fun i h1 h2=>?_
  rw [List.getElem_map]
  have hi:i < L.length:=by simpa using h2
  exact (hp i hi (by omega) h1).2.1
 ·intro x hx
  obtain ⟨i,hi,rfl⟩:=List.getElem_of_mem hx;exact (hp i hi (by omega) (by rw [h.1];omega)).2.2
theorem Fm {cI:List (List Value)} {L:List ay} (h:cI=L.map ay.cells):cI.flatten=L.flatMap ay.cells:=by rw [h,← List.flatMap_def]
theorem IB {w:World} {B n gt ct k:Nat} {L:List ay} (ho:w.ownsRow B 53 5 (.slice (some ⟨gt,0,none⟩) n ct) n (L.flatMap ay.cells)) (hk:k < L.length) (x:ay) {v0 v1 v2 v3 v4:Value} (hx:x.cells=[v0,v1,v2,v3,v4]) :
  (((((w.setCell ⟨gt,k*5,none⟩ v0).setCell ⟨gt,k*5+1,none⟩ v1).setCell ⟨gt,k*5+2,none⟩ v2).setCell ⟨gt,k*5+3,none⟩ v3).setCell ⟨gt,k*5+4,none⟩ v4).ownsRow B 53 5 (.slice (some ⟨gt,0,none⟩) n ct) n ((L.set k x).flatMap ay.cells):=by
 unfold ay.cells at hx;simp only [List.cons.injEq,and_true] at hx;obtain ⟨rfl,rfl,rfl,rfl,rfl⟩:=hx
 have hl:∀ y:ay,y.cells.length=5:=fun _=>rfl
 have h0:=fB ho (g:=gt) rfl (k*5+0) (.string x.aa);rw [dm (f:=ay.cells) hl L k 0 hk (by decide) _ { L[k] with aa:=x.aa } rfl] at h0;have h1:=fB h0 (g:=gt) rfl (k*5+1) (.string x.name);rw [dm (f:=ay.cells) hl _ k 1 (by simpa using hk) (by decide) _ { L[k] with aa:=x.aa,name:=x.name } (by simp [ay.cells]),List.set_set] at h1;have h2:=fB h1 (g:=gt) rfl (k*5+2) (.string x.owner);rw [dm (f:=ay.cells) hl _ k 2 (by simpa using hk) (by decide) _ { L[k] with aa:=x.aa,name:=x.name,owner:=x.owner } (by simp [ay.cells]),List.set_set] at h2;have h3:=fB h2 (g:=gt) rfl (k*5+3) x.hc.v;rw [dm (f:=ay.cells) hl _ k 3 (by simpa using hk) (by decide) _ { L[k] with aa:=x.aa,name:=x.name,owner:=x.owner,hc:=x.hc } (by simp [ay.cells]),List.set_set] at h3;have h4:=fB h3 (g:=gt) rfl (k*5+4) x.hr.v;rw [dm (f:=ay.cells) hl _ k 4 (by simpa using hk) (by decide) _ x (by simp [ay.cells]),List.set_set] at h4;exact h4
theorem wX (w:World) (g o:Nat) (v0 v1 v2 v3 v4:Value):Kb (fun k=>k=g) w (((((w.setCell ⟨g,o,none⟩ v0).setCell ⟨g,o+1,none⟩ v1).setCell ⟨g,o+2,none⟩ v2).setCell ⟨g,o+3,none⟩ v3).setCell ⟨g,o+4,none⟩ v4) :=
 ((((Kb.set _ _ _ _).trans (Kb.set _ _ _ _)).trans (Kb.set _ _ _ _)).trans (Kb.set _ _ _ _)).trans (Kb.set _ _ _ _)
theorem Fo {o:bE} (h:bF o=true) {k:Nat} (hk:k < o.tables.length):bj o.tables o.tables[k].aa o.tables[k].name=k:=by
 refine fR _ _ k hk (by simp only [Bool.and_eq_true];exact ⟨(lT _ _).2 rfl,(lT _ _).2 rfl⟩) fun i hi=>?_
 rw [Bool.eq_false_iff];intro e;simp only [Bool.and_eq_true] at e;have h1:=eh mM.tr (jI h).1 i k (by omega) hk hi;have h2:eG (o.tables[i]'(by omega)) o.tables[k]=0:=oP.2 ⟨(kB _ _).1 e.1,(kB _ _).1 e.2⟩;omega
structure wY (w wr:World) (B X:Nat) (A:Option Addr) (ct:Nat) (c:bW) (L:List ay) (k:Nat):Prop where
 az:ag w wr
 row:wr.ownsRow B 53 5 (.slice A c.ai.tables.length ct) c.ai.tables.length (L.flatMap ay.cells)
 is:L.map ay.t=c.ai.tables
 own:∀ j (h:j < L.length),j < k→dW wr X L[j]
 raw:∀ j (h:j < L.length),k≤j→wW w L[j]
 nd:((L.take k).flatMap ay.bI).Nodup
 lo:∀ g,A=some ⟨g,0,none⟩→g < X
 WQ:X≤wr.heap.size
theorem wY.len {w wr:World} {B X ct:Nat} {A:Option Addr} {c:bW} {L:List ay} {k:Nat} (h:wY w wr B X A ct c L k):L.length=c.ai.tables.length:=by rw [← h.is,List.length_map]
theorem wY.tabs {w wr:World} {B X ct:Nat} {A:Option Addr} {c:bW} {L:List ay} {k:Nat} (h:wY w wr B X A ct c L k) (sm:Small (c.ai.tables.length*16)∧∀ t∈c.ai.tables,rI t):aL wr 5 dA A ct c.ai.tables:=by
 have:=wZ (h:=⟨A,L.length,ct⟩) (B:=B) (R:=dA) ay.cells ay.t (by have:=h.row;rw [← h.len] at this;exact this) (fun x hx=>⟨rfl,by
  obtain ⟨i,hi,rfl⟩:=List.getElem_of_mem hx;by_cases hk:i < k
  ·exact (h.own i hi hk).cY (sm.2 _ (by rw [← h.is];exact List.mem_map_of_mem hx))
  ·exact ((h.raw i hi (by omega)).az h.az).cY⟩) (by rw [h.len];exact sm.1)
 rw [h.is] at this;exact this
theorem wY.step {w wr w4:World} {B X gt ct k b4:Nat} {c:bW} {L:List ay} {x:ay} (h:wY w wr B X (some ⟨gt,0,none⟩) ct c L k) (hk:k < c.ai.tables.length) (a4:ag wr w4) (rR:dW w4 wr.heap.size x) (Dk:x.bI.Nodup) (hx:x.t=c.ai.tables[k]) (hB:w.heap.size≤B) {v0 v1 v2 v3 v4:Value} (hv:x.cells=[v0,v1,v2,v3,v4]) {w5:World} (kb:Kb (fun g=>g=b4) w4 w5) (hb4:wr.heap.size≤b4) (nW:b4∉x.bI) :
  wY w (((((w5.setCell ⟨gt,k*5,none⟩ v0).setCell ⟨gt,k*5+1,none⟩ v1).setCell ⟨gt,k*5+2,none⟩ v2).setCell ⟨gt,k*5+3,none⟩ v3).setCell ⟨gt,k*5+4,none⟩ v4) B X (some ⟨gt,0,none⟩) ct c (L.set k x) (k+1):=by
 have hl:=h.len;have WR:=h.WQ;have Tf:=h.lo gt rfl;have se:B≤gt:=(h.row.lt gt rfl).1;have k2:=wX w5 gt (k*5) v0 v1 v2 v3 v4;have s4:=a4.size
 have hrow:w5.ownsRow B 53 5 (.slice (some ⟨gt,0,none⟩) c.ai.tables.length ct) c.ai.tables.length (L.flatMap ay.cells):=aP (bu h.row a4) kb (fun g hg e=>by
  have:gt=g:=by simpa [Value.ownBlock] using hg
  have e:g=b4:=e
  omega)
 have hlt:∀ g∈(L.take k).flatMap ay.bI,X≤g∧g < wr.heap.size:=fun g hg=>by
  obtain ⟨y,hy,Vp⟩:=List.mem_flatMap.1 hg;obtain ⟨i,hi,rfl⟩:=List.getElem_of_mem hy;rw [List.length_take] at hi;rw [List.getElem_take] at Vp;exact (h.own i (by omega) (by omega)).lt g Vp
 refine ⟨k2.aZ (kb.aZ (h.az.trans a4) (fun g hg e=>by have e:g=b4:=e;have:=h.az.size;omega)) (fun g hg e=>by have e:g=gt:=e;omega),IB hrow (by omega) x hv,?_,?_,?_,?_,h.lo,?_⟩
 ·rw [List.map_set,h.is,hx]
  exact List.set_getElem_self hk
 ·intro j hj hjk
  rw [List.length_set] at hj;by_cases e:j=k
  ·subst e
   rw [List.getElem_set_self];refine ((rR.kb kb (fun g hg e=>by have e:g=b4:=e;exact nW (e▸hg))).kb k2 (fun g hg e=>by have e:g=gt:=e;have:=(rR.lt g hg).1;omega)).down WR
  ·rw [List.getElem_set_ne (by omega)]
   have hj':=h.own j hj (by omega);exact ((hj'.az a4).kb kb (fun g hg e=>by have e:g=b4:=e;have:=(hj'.lt g hg).2;omega)).kb k2 (fun g hg e=>by have e:g=gt:=e;have:=(hj'.lt g hg).1;omega)
 ·intro j hj hjk
  rw [List.length_set] at hj;rw [List.getElem_set_ne (by omega)];exact h.raw j hj (by omega)
 ·have e:(L.set k x).take (k+1)=L.take k++[x]:=by
   rw [List.take_succ_eq_append_getElem (by rw [List.length_set];omega),List.getElem_set_self,List.take_set_of_le (Nat.le_refl _)]
  rw [e,List.flatMap_append];exact gy h.nd (by simpa using Dk) (fun g hg=>(hlt g hg).2) (fun g hg=>(rR.lt g (by simpa using hg)).1)
 ·have:=kb.size
  have:=k2.size;omega
theorem Tg {o:bE} {As:Option Addr} {ar:Nat} {At:Option Addr} {ax:Nat} {w:World} {k:Nat} {s n:ByteArray} (gA:bF o=true) (hk:k < o.tables.length) (hs:s=o.tables[k].aa) (hn:n=o.tables[k].name) (bS:aL w 2 fk As ar o.ae) (bB:aL w 5 dA At ax o.tables) :
  Calls Tryz.prog 21 #[.agg #[.slice As o.ae.length ar,.slice At o.tables.length ax],.string s,.string n] w fun e w'=>∃ x:ay,x.t=o.tables[k]∧e=.returned (.tuple #[.agg #[.string x.aa,.string x.name,.string x.owner,.slice x.hc.a x.hc.n x.hc.c,.slice x.hr.a x.hr.n x.hr.c],.int .i64 0])∧ag w w'∧dW w' w.heap.size x∧x.bI.Nodup:=by
 subst hs hn;refine (Dq o As ar At ax _ _ w bS bB).mono ?_;rintro e w' ⟨x,hx,rfl,a,rR,nd⟩;rw [oK gA (Fo gA hk) hk] at hx ⊢;have hx:x.t=o.tables[k]:=hx;refine ⟨x,hx,?_,a,rR,nd⟩
 show Ending.returned (.tuple #[.agg #[.string o.tables[k].aa,.string o.tables[k].name,.string o.tables[k].owner,.slice x.hc.a o.tables[k].ak.length x.hc.c,.slice x.hr.a o.tables[k].rules.length x.hr.c],.int .i64 0])=_
 rw [← hx,gm rR.qp,gm rR.nw];simp [ay.t]
theorem WS (c:bW) (As:Option Addr) (ar:Nat) (At:Option Addr) (ax:Nat) (An:Option Addr) (aI:Nat) (Am:Option Addr) (aK:Nat) (Ag:Option Addr) (aS:Nat) (w:World) (H:eH w c As ar At ax An aI Am aK Ag aS) (gA:bF c.ai=true) (WT:c.aj.names.length≤1000000) (O2:c.aj.members.length≤1000000) (BO:c.af.length≤1000000) :
  Calls Tryz.prog 142 #[.agg #[.int .i64 c.aA,.int .i64 c.version,.slice As c.ai.ae.length ar,.slice At c.ai.tables.length ax,.slice An c.aj.names.length aI,.slice Am c.aj.members.length aK,.slice Ag c.af.length aS]] w (Nq c w):=by
 have l1:w.heap.size < w.heap.size+1:=by omega
 have l2:w.heap.size < w.heap.size+1+1:=by omega
 obtain ⟨W,hW⟩:∃ W,W=(w.alloc (.cells #[.int .i64 c.aA,.int .i64 c.version,.slice As c.ai.ae.length ar,.slice At c.ai.tables.length ax,.slice An c.aj.names.length aI,.slice Am c.aj.members.length aK,.slice Ag c.af.length aS] 32)).alloc (.cells #[.int .i64 0,.int .i64 0,.slice none 0 0,.slice none 0 0,.slice none 0 0,.slice none 0 0,.slice none 0 0] 32):=⟨_,rfl⟩
 have aW:ag w W:=by rw [hW];exact ((ag.refl w).alloc _).alloc _
 have r0:ap W (w.heap.size) [.int .i64 c.aA,.int .i64 c.version,.slice As c.ai.ae.length ar,.slice At c.ai.tables.length ax,.slice An c.aj.names.length aI,.slice Am c.aj.members.length aK,.slice Ag c.af.length aS]:=by rw [hW];exact ap.up (bv (ag.refl _) (by simp))
 have r1:ap W (w.heap.size+1) [.int .i64 0,.int .i64 0,.slice none 0 0,.slice none 0 0,.slice none 0 0,.slice none 0 0,.slice none 0 0]:=by rw [hW];exact bv (ag.refl _) (by simp)
 have zW:W.heap.size=w.heap.size+2:=by rw [hW];simp
 have HR:=gH (And.intro r0 r1);have br:=gH aW;have lc:=gH zW;have HH:=gH H;have nU:=gH H.sm;have HCK:=gH gA;have hlt:=H.tab.len;have mV:=jM gA;have C1:=gH (qx As ar c.ai.ae W W (ag.refl _) (bm aW H.gQ) mV.1);have HML:=gH mV.2.1;have x2:=r0.cell (j:=2) rfl;have f2:=r0.2.2 2 (by simp);have xz:=r0.1;clear H r0 r1 aW mV gA
 go_enter Tryz.func142,Tryz.ntmps142
 go_wp2_with fail;rw [← hW];go_wp2_with fail;clear x2 xz f2;refine C1.out.mono ?_;rintro e w1 ⟨v1,N9,rfl,a1,fo,GK⟩;obtain ⟨Bs,ip,rfl⟩:=dw fo;rw [qy GK] at fo;have p0:=HR.out.1.az a1;have p1:=HR.out.2.az a1;have xz:=p0.1;have x2:=p0.cell (j:=2) rfl;have f2:=p0.2.2 2 (by simp);obtain ⟨X,hX⟩:∃ V,V=w1.setCell ⟨w.heap.size,2,none⟩ (.slice Bs c.ai.ae.length ip):=⟨_,rfl⟩
 have kX:Kb (fun g=>g=w.heap.size) w1 X:=by rw [hX];exact Kb.set _ _ _ _
 have zX:X.heap.size=w1.heap.size:=by rw [hX];simp
 have RX:=gH (show ap X (w.heap.size) [.int .i64 c.aA,.int .i64 c.version,.slice Bs c.ai.ae.length ip,.slice At c.ai.tables.length ax,.slice An c.aj.names.length aI,.slice Am c.aj.members.length aK,.slice Ag c.af.length aS] by rw [hX];exact p0.set 2 _ (by simp));have RY:=gH (kX.row p1 (by omega));have gN:=gH (kX.aZ (br.out.trans a1) (fun g hg e=>by omega));have OS:=gH (show X.ownsRow W.heap.size 61 2 (Hd.mk Bs c.ai.ae.length ip).v c.ai.ae.length (c.ai.ae.flatMap iJ) from aP fo kX (fun g hg e=>by have:=(fo.lt g hg).1;have:=lc.out;have e:g=w.heap.size:=e;omega));have Vq:=gH (show W.heap.size≤X.heap.size by rw [zX];exact a1.size);have C2:=gH (BN At ax c.ai.tables w X gN.out HH.out.tab HML.out);have y3:=RX.out.cell (j:=3) rfl;have yz:=RX.out.1;rw [hX] at y3 yz;clear a1 fo GK p0 p1 kX zX C1;go_wp2_with fail;rw [← hX];clear hX x2 f2 xz y3 yz;refine C2.out.mono ?_;rintro e w2 ⟨v2,WU,rfl,a2,oW,Th⟩;obtain ⟨Bt,jo,rfl⟩:=dw oW;obtain ⟨L0,Kg,Ti,Nz⟩:=IA Th;rw [Fm Ti] at oW;have p0:=RX.out.az a2;have p1:=RY.out.az a2;have xz:=p0.1;have x3:=p0.cell (j:=3) rfl;have f3:=p0.2.2 3 (by simp);obtain ⟨Y,hY⟩:∃ V,V=w2.setCell ⟨w.heap.size,3,none⟩ (.slice Bt c.ai.tables.length jo):=⟨_,rfl⟩
 have kY:Kb (fun g=>g=w.heap.size) w2 Y:=by rw [hY];exact Kb.set _ _ _ _
 have zY:Y.heap.size=w2.heap.size:=by rw [hY];simp
 have sX2:=a2.size;have QX:=gH (show ap Y (w.heap.size) [.int .i64 c.aA,.int .i64 c.version,.slice Bs c.ai.ae.length ip,.slice Bt c.ai.tables.length jo,.slice An c.aj.names.length aI,.slice Am c.aj.members.length aK,.slice Ag c.af.length aS] by rw [hY];exact p0.set 3 _ (by simp));have QY:=gH (kY.row p1 (by omega));have jG:=gH (kY.aZ (gN.out.trans a2) (fun g hg e=>by omega));have OT:=gH (show Y.ownsRow X.heap.size 53 5 (.slice Bt c.ai.tables.length jo) c.ai.tables.length (L0.flatMap ay.cells) from aP oW kY (fun g hg e=>by have:=(oW.lt g hg).1;have:=lc.out;have:=Vq.out;have e:g=w.heap.size:=e;omega));have OSY:=gH (aP (bu OS.out a2) kY (fun g hg e=>by have:=(OS.out.lt g hg).1;have:=lc.out;have e:g=w.heap.size:=e;omega));have Vr:=gH (show X.heap.size≤Y.heap.size by rw [zY];exact a2.size);have IC:=gH (show ∀ x∈L0,wW w x from Nz);have BTL:=gH (show ∀ g,Bt=some ⟨g,0,none⟩→g < Y.heap.size from fun g hg=>by rw [zY];exact (oW.lt g (by rw [hg];rfl)).2);have ID:=gH Kg;have y3:=QX.out.cell (j:=3) rfl;have yz:=QX.out.1;rw [hY] at y3 yz;clear a2 oW Th p0 p1 kY zY Kg Ti Nz C2 sX2;go_wp2_with fail;rw [← hY];have LOOP:=gH (show wY w Y X.heap.size Y.heap.size Bt jo c L0 0 from ⟨jG.out,OT.out,ID.out,fun j _ h=>absurd h (Nat.not_lt_zero j),fun j h _=>IC.out _ (List.getElem_mem h),by simp,BTL.out,Nat.le_refl _⟩);clear y3 yz hY
 go_loopw [21] (fun i wr=>∃ (k:Nat) (L:List ay),k≤c.ai.tables.length∧i=.int .i64 k∧wY w wr X.heap.size Y.heap.size Bt jo c L k∧ap wr (w.heap.size) [.int .i64 c.aA,.int .i64 c.version,.slice Bs c.ai.ae.length ip,.slice Bt c.ai.tables.length jo,.slice An c.aj.names.length aI,.slice Am c.aj.members.length aK,.slice Ag c.af.length aS]∧ap wr (w.heap.size+1) [.int .i64 0,.int .i64 0,.slice none 0 0,.slice none 0 0,.slice none 0 0,.slice none 0 0,.slice none 0 0]∧wr.ownsRow W.heap.size 61 2 (Hd.mk Bs c.ai.ae.length ip).v c.ai.ae.length (c.ai.ae.flatMap iJ)) (fun i _=>c.ai.tables.length - (intOf i).toNat)
 case atStart=>exact ⟨0,L0,Nat.zero_le _,rfl,LOOP.out,QX.out,QY.out,OSY.out⟩
 case round =>
  obtain ⟨k,L,hk,rfl,hs,hb0,hb1,bS⟩:=hrel;have HS:=gH hs;have Tj:=gH hb0;have ui:=gH hb1;have Ri:=gH bS;clear hs hb0 hb1 bS;by_cases jF:k < c.ai.tables.length
  ·obtain ⟨gt,ct',hv,se,mo,Vs⟩:=aR HS.out.row (by omega)
   simp only [Value.slice.injEq,true_and] at hv;obtain ⟨rfl,rfl⟩:=hv
   have Za:k < L.length:=by rw [HS.out.len];exact jF
   have hrow:=HS.out.row;obtain ⟨y,hy⟩:∃ y,L[k]=y:=⟨_,rfl⟩
   have hcell:∀ j,j < 5→wr.cell? ⟨gt,k*5+j,none⟩=y.cells[j]? := fun j hj=>by
    have:=mI (f:=ay.cells) (h:=⟨some ⟨gt,0,none⟩,L.length,jo⟩) (by have:=hrow;rw [← HS.out.len] at this;exact this) (fun _=>rfl) rfl Za hj;rw [hy] at this;exact this
   have g0:wr.cell? ⟨gt,k*5,none⟩=some (.string y.aa):=hcell 0 (by decide);have g1:wr.cell? ⟨gt,k*5+1,none⟩=some (.string y.name):=hcell 1 (by decide);have g2:wr.cell? ⟨gt,k*5+2,none⟩=some (.string y.owner):=hcell 2 (by decide);have g3:wr.cell? ⟨gt,k*5+3,none⟩=some (.slice y.hc.a y.hc.n y.hc.c):=hcell 3 (by decide);have g4:wr.cell? ⟨gt,k*5+4,none⟩=some (.slice y.hr.a y.hr.n y.hr.c):=hcell 4 (by decide);have gz:=Vs.1
   have WV:y.t=c.ai.tables[k]:=by
    have e:=HS.out.is
    have:(L.map ay.t)[k]? = c.ai.tables[k]? := by rw [e]
    rw [List.getElem?_map,List.getElem?_eq_getElem Za,List.getElem?_eq_getElem jF,hy] at this
    simpa using this
   have fq:(L.flatMap ay.cells).length=L.length*5:=ce (f:=ay.cells) (size:=5) (fun _=>rfl) L
   have mC:∀ j,j < 5→wr.frozen? ⟨gt,k*5+j,none⟩=false:=fun j hj=>Vs.2.2 _ (by rw [fq];omega)
   obtain ⟨V,hV⟩:∃ V,V=wr.alloc (.cells #[.string y.aa,.string y.name,.string y.owner,.slice y.hc.a y.hc.n y.hc.c,.slice y.hr.a y.hr.n y.hr.c] 53):=⟨_,rfl⟩
   have aV:ag wr V:=by rw [hV];exact (ag.refl _).alloc _
   have zV:V.heap.size=wr.heap.size+1:=by rw [hV];simp
   have RV:=gH (show ap V wr.heap.size [.string y.aa,.string y.name,.string y.owner,.slice y.hc.a y.hc.n y.hc.c,.slice y.hr.a y.hr.n y.hr.c] by rw [hV];exact aO (ag.refl _));have CF:=gH (Tg (s:=y.aa) (n:=y.name) HCK.out jF (by rw [← WV];rfl) (by rw [← WV];rfl) (bm aV (en (h:=⟨Bs,c.ai.ae.length,ip⟩) iJ Ri.out (fun s hm=>⟨rfl,rfl,nU.out.1.1.2 s hm⟩) nU.out.1.1.1)) (aQ aV (HS.out.tabs nU.out.1.2)));have lC:=gH aV;have Kh:=gH zV;have HFZ:=gH mC;have s0:=RV.out.cell (j:=0) rfl;have s1:=RV.out.cell (j:=1) rfl;have sz:=RV.out.1;have b0:=Tj.out.az aV;have t2:=b0.cell (j:=2) rfl;have t3:=b0.cell (j:=3) rfl;have tz:=b0.1;rw [hV] at s0 s1 sz t2 t3 tz;clear hcell hrow WV mC aV zV b0 hy;go_wp2_with fail;rw [← hV];clear hV s0 s1 sz t2 t3 tz;refine CF.out.mono ?_;rintro e w4 ⟨x,hx,rfl,a4,rR,Dk⟩;have HX:=gH (And.intro hx Dk);have Vc:=gH rR;have jr:=gH a4;have q:=RV.out.az a4;have v0:=q.cell (j:=0) rfl;have v1:=q.cell (j:=1) rfl;have v2:=q.cell (j:=2) rfl;have v3:=q.cell (j:=3) rfl;have v4:=q.cell (j:=4) rfl;have f0:=q.2.2 0 (by simp);have f1:=q.2.2 1 (by simp);have f2:=q.2.2 2 (by simp);have f3:=q.2.2 3 (by simp);have f4:=q.2.2 4 (by simp);have vz:=q.1;have Vt:=lC.out.trans a4;have b0:=Tj.out.az Vt;obtain ⟨Z,hZ⟩:∃ Z,Z=((((w4.setCell ⟨wr.heap.size,0,none⟩ (.string x.aa)).setCell ⟨wr.heap.size,1,none⟩ (.string x.name)).setCell ⟨wr.heap.size,2,none⟩ (.string x.owner)).setCell ⟨wr.heap.size,3,none⟩ (.slice x.hc.a x.hc.n x.hc.c)).setCell ⟨wr.heap.size,4,none⟩ (.slice x.hr.a x.hr.n x.hr.c):=⟨_,rfl⟩
   have kZ:Kb (fun g=>g=wr.heap.size) w4 Z:=by rw [hZ];exact wX w4 wr.heap.size 0 _ _ _ _ _
   have rz:=kZ.row b0 (by have:=Tj.out.1;omega);have Zb:=kZ.row (ui.out.az Vt) (by have:=ui.out.1;omega);have rg:=kZ.row (Vs.az Vt) (by omega)
   have ry:ap Z wr.heap.size [.string x.aa,.string x.name,.string x.owner,.slice x.hc.a x.hc.n x.hc.c,.slice x.hr.a x.hr.n x.hr.c]:=by rw [hZ];exact jg q rfl _ _ _ _ _
   have RZ:=gH (And.intro rz Zb);have RG:=gH rg;have KZ:=gH kZ;have t3:=rz.cell (j:=3) rfl;have tz:=rz.1;obtain ⟨y0,y1,y2,y3,y4,yz⟩:=rv ry;have m0:∃ u,Z.cell? ⟨gt,k*5,none⟩=some u:=⟨_,by rw [rg.2.1 _ (by rw [fq];omega),List.getElem?_eq_getElem (by rw [fq];omega)]⟩;obtain ⟨u0,m0⟩:=m0;have n0:Z.frozen? ⟨gt,k*5,none⟩=false:=rg.2.2 _ (by rw [fq];omega);have m1:∃ u,Z.cell? ⟨gt,k*5+1,none⟩=some u:=⟨_,by rw [rg.2.1 _ (by rw [fq];omega),List.getElem?_eq_getElem (by rw [fq];omega)]⟩;obtain ⟨u1,m1⟩:=m1;have n1:Z.frozen? ⟨gt,k*5+1,none⟩=false:=rg.2.2 _ (by rw [fq];omega);have m2:∃ u,Z.cell? ⟨gt,k*5+2,none⟩=some u:=⟨_,by rw [rg.2.1 _ (by rw [fq];omega),List.getElem?_eq_getElem (by rw [fq];omega)]⟩;obtain ⟨u2,m2⟩:=m2;have n2:Z.frozen? ⟨gt,k*5+2,none⟩=false:=rg.2.2 _ (by rw [fq];omega);have m3:∃ u,Z.cell? ⟨gt,k*5+3,none⟩=some u:=⟨_,by rw [rg.2.1 _ (by rw [fq];omega),List.getElem?_eq_getElem (by rw [fq];omega)]⟩;obtain ⟨u3,m3⟩:=m3;have n3:Z.frozen? ⟨gt,k*5+3,none⟩=false:=rg.2.2 _ (by rw [fq];omega);have m4:∃ u,Z.cell? ⟨gt,k*5+4,none⟩=some u:=⟨_,by rw [rg.2.1 _ (by rw [fq];omega),List.getElem?_eq_getElem (by rw [fq];omega)]⟩;obtain ⟨u4,m4⟩:=m4;have n4:Z.frozen? ⟨gt,k*5+4,none⟩=false:=rg.2.2 _ (by rw [fq];omega);have Zc:=rg.1;rw [hZ] at t3 tz y0 y1 y2 y3 y4 yz m0 m1 m2 m3 m4 n0 n1 n2 n3 n4 Zc;clear rz Zb rg ry kZ;clear hx rR Dk a4 q Vt b0 g0 g1 g2 g3 g4 Vs fq;go_wp2_with fail;rw [← hZ];clear hZ t3 tz y0 y1 y2 y3 y4 yz m0 m1 m2 m3 m4 n0 n1 n2 n3 n4 Zc v0 v1 v2 v3 v4 f0 f1 f2 f3 f4 vz
   have rR:=Vc.out;have NA:=Kh.out;have k2:=wX Z gt (k*5) (.string x.aa) (.string x.name) (.string x.owner) (.slice x.hc.a x.hc.n x.hc.c) (.slice x.hr.a x.hr.n x.hr.c);have hXw:w.heap.size≤X.heap.size:=gN.out.size
   have hgw:w.heap.size+1 < X.heap.size:=by have:=RY.out.1;omega
   have WW:=HS.out.step (x:=x) (b4:=wr.heap.size) jF (lC.out.trans jr.out) (rR.down (by omega)) HX.out.2 HX.out.1 hXw rfl KZ.out (Nat.le_refl _) (fun h=>by have:=(rR.lt _ h).1;omega);have hA:=k2.row RZ.out.1 (by omega);have hB:=k2.row RZ.out.2 (by omega);have hS:=aP (aP (bu Ri.out (lC.out.trans jr.out)) KZ.out (fun g hg e=>by have:=(Ri.out.lt g hg).2;have e:g=wr.heap.size:=e;omega)) k2 (fun g hg e=>by have:=(OS.out.lt g hg).2;have e:g=gt:=e;omega)
   go_roundw
   case rel=>exact ⟨k+1,L.set k x,by omega,by go_num,WW,hA,hB,hS⟩
   case measure=>simp [intOf];omega
  ·have Gl:k=c.ai.tables.length:=by omega
   have p0:=Tj.out;have t4:=p0.cell (j:=4) rfl;have t5:=p0.cell (j:=5) rfl;have f4:=p0.2.2 4 (by simp);have f5:=p0.2.2 5 (by simp);have tz:=p0.1;have D1:=gH (fun w' (a:ag wr w')=>iq An aI c.aj.names w' w' (ag.refl _) (aM (HS.out.az.trans a) HH.out.fK) WT);have D2:=gH (fun w' (a:ag wr w')=>nI Am aK c.aj.members w' w' (ag.refl _) (bJ (HS.out.az.trans a) HH.out.mem) O2);have KF:=gH (show ∀ w',ag wr w'→(w'.cell? ⟨w.heap.size,4,none⟩=some (.slice An c.aj.names.length aI)∧w'.cell? ⟨w.heap.size,5,none⟩=some (.slice Am c.aj.members.length aK)∧w'.frozen? ⟨w.heap.size,4,none⟩=false∧w'.frozen? ⟨w.heap.size,5,none⟩=false∧w.heap.size < w'.heap.size) from fun w' a=>⟨a.cell_kept t4,a.cell_kept t5,(p0.az a).2.2 4 (by simp),(p0.az a).2.2 5 (by simp),(p0.az a).1⟩);have haw:=HS.out.az;clear p0;go_wp2_with fail
   go_region_law (first
    | (go_simp;go_at_call 52;(first | refine (D1.out _ ((ag.refl wr).drew)).mono ?_ | refine (D1.out _ (ag.refl wr)).mono ?_);rintro e w4 ⟨v4,LD,rfl,a4,o4,h4⟩;have q4:ag wr w4:=(by first | exact (ag.refl wr).drew.trans a4 | exact a4);obtain ⟨k4,k5,k6,k7,k8⟩:=KF.out w4 q4;rw [fG h4] at o4;clear h4;obtain ⟨A4,c4,hv4⟩:=dw o4;subst hv4)
    | (go_simp;go_at_call 53;refine (D2.out _ q4).mono ?_;rintro e w5 ⟨v5,O3,rfl,a5,o5,h5⟩;have q5:ag wr w5:=q4.trans a5;obtain ⟨Tk,Tl,Tm,Tn,Tp⟩:=KF.out w5 q5;rw [nJ h5] at o5;clear h5;obtain ⟨A5,c5,O4⟩:=dw o5;subst O4))
   all_goals
    have s4:=q4.size;have s5:=a5.size;obtain ⟨Z,hZ⟩:∃ Z,Z=(w5.setCell ⟨w.heap.size,4,none⟩ (.slice A4 c.aj.names.length c4)).setCell ⟨w.heap.size,5,none⟩ (.slice A5 c.aj.members.length c5):=⟨_,rfl⟩
    have kZ:Kb (fun g=>g=w.heap.size) w5 Z:=by rw [hZ];exact (Kb.set _ _ _ _).trans (Kb.set _ _ _ _)
    have zZ:Z.heap.size=w5.heap.size:=by rw [hZ];simp
    have hwx:w.heap.size≤X.heap.size:=gN.out.size;have Zd:w.heap.size+1 < X.heap.size:=RY.out.1;have hwr:Y.heap.size≤wr.heap.size:=HS.out.WQ;have Vu:=Vr.out
    have Tq:X.heap.size≤wr.heap.size:=by omega
    have RZ:=gH (show ap Z (w.heap.size) [.int .i64 c.aA,.int .i64 c.version,.slice Bs c.ai.ae.length ip,.slice Bt c.ai.tables.length jo,.slice A4 c.aj.names.length c4,.slice A5 c.aj.members.length c5,.slice Ag c.af.length aS] by rw [hZ];exact ((Tj.out.az q5).set 4 _ (by simp)).set 5 _ (by simp));have Tr:=gH (kZ.row (ui.out.az q5) (by omega));have O5:=gH (kZ.aZ (HS.out.az.trans q5) (fun g hg e=>by have e:g=_:=e;omega));have NL:=gH (show ∀ g,(Hd.mk A4 c.aj.names.length c4).v.ownBlock=some g→wr.heap.size≤g∧g < w4.heap.size from fun g hg=>by have:=o4.lt g hg;(try simp at this);omega);have ML:=gH (show ∀ g,(Hd.mk A5 c.aj.members.length c5).v.ownBlock=some g→w4.heap.size≤g∧g < w5.heap.size from fun g hg=>by have:=o5.lt g hg;(try simp at this);omega);have ON:=gH (show Z.ownsRow wr.heap.size 9 1 (Hd.mk A4 c.aj.names.length c4).v c.aj.names.length (c.aj.names.flatMap bY) from iF (aP (bu o4 a5) kZ (fun g hg e=>by have:=(NL.out g hg).1;have e:g=_:=e;omega)) (fun g hg=>(NL.out g hg).1));have OM:=gH (show Z.ownsRow w4.heap.size 103 2 (Hd.mk A5 c.aj.members.length c5).v c.aj.members.length (c.aj.members.flatMap fP) from iF (aP o5 kZ (fun g hg e=>by have:=(ML.out g hg).1;have e:g=_:=e;omega)) (fun g hg=>(ML.out g hg).1));have KZ:=gH (show Kb (fun g=>g=w.heap.size) wr Z from (Kb.aH q5).trans kZ);have WX:=gH (show wr.heap.size≤w4.heap.size∧w4.heap.size≤w5.heap.size∧Z.heap.size=w5.heap.size∧X.heap.size≤wr.heap.size∧w.heap.size+1 < X.heap.size∧W.heap.size≤X.heap.size from ⟨s4,s5,zZ,Tq,Zd,Vq.out⟩)
    have CG:=gH (lS Ag aS c.af Z Z (ag.refl _) (eZ O5.out HH.out.kv) BO);have y6:=RZ.out.cell (j:=6) rfl;have yz:=RZ.out.1;rw [hZ] at y6 yz;clear q4 q5 a4 a5 o4 o5 s4 s5 kZ zZ hwx Zd hwr Vu Tq k4 k5 k6 k7 k8 Tk Tl Tm Tn Tp t4 t5 f4 f5 tz D1 D2 KF haw;go_wp2_with fail;rw [← hZ];clear hZ y6 yz;refine CG.out.mono ?_;rintro e w6 ⟨v6,LF,rfl,a6,jk,DO⟩;obtain ⟨Ad,cd,rfl⟩:=dw jk;rw [fy (f:=cC) (fun _ _ h=>h.1) DO] at jk;have Gv:=gH jk;have nX:=gH a6;have p0:=RZ.out.az a6;have p1:=Tr.out.az a6;have z0:=p0.cell (j:=0) rfl;have u0:=p1.cell (j:=0) rfl;have v0:=p1.2.2 0 (by simp);have z1:=p0.cell (j:=1) rfl;have u1:=p1.cell (j:=1) rfl;have v1:=p1.2.2 1 (by simp);have z2:=p0.cell (j:=2) rfl;have u2:=p1.cell (j:=2) rfl;have v2:=p1.2.2 2 (by simp);have z3:=p0.cell (j:=3) rfl;have u3:=p1.cell (j:=3) rfl;have v3:=p1.2.2 3 (by simp);have z4:=p0.cell (j:=4) rfl;have u4:=p1.cell (j:=4) rfl;have v4:=p1.2.2 4 (by simp);have z5:=p0.cell (j:=5) rfl;have u5:=p1.cell (j:=5) rfl;have v5:=p1.2.2 5 (by simp);have z6:=p0.cell (j:=6) rfl;have u6:=p1.cell (j:=6) rfl;have v6:=p1.2.2 6 (by simp);have zf:=p0.2.2 6 (by simp);have zz:=p0.1;have vz:=p1.1;have ne:w.heap.size+1≠w.heap.size:=(by omega);clear jk a6 p0 p1 DO;go_wp2_with fail
    (try simp only [Exit.inBlock,Exit.then])
    have k3:=Kb.set w6 (w.heap.size) 6 (.slice Ad c.af.length cd);have q1:=k3.row (Tr.out.az nX.out) (by omega);have k4:=dG (w6.setCell ⟨w.heap.size,6,none⟩ (.slice Ad c.af.length cd)) (w.heap.size+1) (.int .i64 c.aA) (.int .i64 c.version) (.slice Bs c.ai.ae.length ip) (.slice Bt c.ai.tables.length jo) (.slice A4 c.aj.names.length c4) (.slice A5 c.aj.members.length c5) (.slice Ad c.af.length cd);refine bodyPost_ret (dv (v:=.agg #[.int .i64 c.aA,.int .i64 c.version,.slice Bs c.ai.ae.length ip,.slice Bt c.ai.tables.length jo,.slice A4 c.aj.names.length c4,.slice A5 c.aj.members.length c5,.slice Ad c.af.length cd]) rfl _ rfl (dr (cO q1 rfl _ _ _ _ _ _ _))) rfl ?_;obtain ⟨e1,e2,e3,e4,e5,e6⟩:=WX.out;have kC:=k3.or k4;have KB:=(Kb.aH (P:=fun _=>False) nX.out).or kC;have KA:=KZ.out.or KB
    have g6:∀ g,(Hd.mk Ad c.af.length cd).v.ownBlock=some g→Z.heap.size≤g:=fun g hg=>(Gv.out.lt g hg).1
    refine ⟨⟨Bs,c.ai.ae.length,ip⟩,⟨Bt,c.ai.tables.length,jo⟩,⟨A4,c.aj.names.length,c4⟩,⟨A5,c.aj.members.length,c5⟩,⟨Ad,c.af.length,cd⟩,L,rfl,KA.aZ HS.out.az (fun g hg e=>by rcases e with e | e | e | e<;>first | exact e | (have e:g=_:=e;omega)),?_⟩;have Ts:L.take k=L:=List.take_of_length_le (by rw [HS.out.len];omega)
    have eT:∀ g∈(Hd.mk Bs c.ai.ae.length ip).blk,W.heap.size≤g∧g < X.heap.size:=fun g hg=>OS.out.lt g (Hd.au.1 hg)
    have Ev:∀ g∈(Hd.mk Bt c.ai.tables.length jo).blk,X.heap.size≤g∧g < Y.heap.size:=fun g hg=>OT.out.lt g (Hd.au.1 hg)
    have QZ:∀ g∈L.flatMap ay.bI,Y.heap.size≤g∧g < wr.heap.size:=fun g hg=>by
     obtain ⟨y,hy,Vp⟩:=List.mem_flatMap.1 hg;obtain ⟨i,hi,rfl⟩:=List.getElem_of_mem hy;exact (HS.out.own i hi (by have:=HS.out.len;omega)).lt g Vp
    have hall:∀ g∈(Hd.mk Bs c.ai.ae.length ip).blk++((Hd.mk Bt c.ai.tables.length jo).blk++L.flatMap ay.bI),W.heap.size≤g∧g < wr.heap.size:=fun g hg=>by
     have Vu:=Vr.out;have hyr:=HS.out.WQ
     rcases List.mem_append.1 hg with h1 | h1
     ·have:=eT g h1;omega
     ·rcases List.mem_append.1 h1 with h1 | h1
      ·have:=Ev g h1;omega
      ·have:=QZ g h1;omega
    have Rj:=lc.out
    have hNb:∀ g,g∈(Hd.mk A4 c.aj.names.length c4).blk∨g∈(Hd.mk A5 c.aj.members.length c5).blk→wr.heap.size≤g∧g < w5.heap.size:=fun g hg=>by
     rcases hg with h1 | h1
     ·have:=NL.out g (Hd.au.1 h1);omega
     ·have:=ML.out g (Hd.au.1 h1);omega
    refine ⟨⟨?_,?_,?_,?_⟩,HS.out.is,⟨?_,?_,?_⟩,?_,?_,?_⟩
    ·exact bV (aP Ri.out KA (fun g hg e=>by have:=eT g (Hd.au.2 hg);rcases e with e | e | e | e<;>first | exact e | (have e:g=_:=e;omega))) (by omega)
    ·rw [HS.out.len]
     exact bV (aP HS.out.row KA (fun g hg e=>by have:=(HS.out.row.lt g hg).1;rcases e with e | e | e | e<;>first | exact e | (have e:g=_:=e;omega))) (by omega)
    ·intro y hy
     obtain ⟨i,hi,rfl⟩:=List.getElem_of_mem hy;have Ze:=HS.out.own i hi (by have:=HS.out.len;omega);have Vu:=Vr.out;exact (Ze.kb KA (fun g hg e=>by have:=(Ze.lt g hg).1;rcases e with e | e | e | e<;>first | exact e | (have e:g=_:=e;omega))).down (by omega)
    ·refine gy (cX _) (gy (cX _) (by have:=HS.out.nd;rw [Ts] at this;exact this) (fun g hg=>(Ev g hg).2) (fun g hg=>(QZ g hg).1)) (fun g hg=>(eT g hg).2) (fun g hg=>?_)
     have Vu:=Vr.out
     rcases List.mem_append.1 hg with h1 | h1
     ·exact (Ev g h1).1
     ·have:=(QZ g h1).1;omega
    ·exact bV (aP ON.out KB (fun g hg e=>by have:=(NL.out g hg).1;rcases e with e | e | e<;>first | exact e | (have e:g=_:=e;omega))) (by omega)
    ·exact bV (aP OM.out KB (fun g hg e=>by have:=(ML.out g hg).1;rcases e with e | e | e<;>first | exact e | (have e:g=_:=e;omega))) (by omega)
    ·intro g hg gl
     have h8:=(NL.out g (Hd.au.1 hg)).2;have h9:=(ML.out g (Hd.au.1 gl)).1;omega
    ·exact bV (aP Gv.out kC (fun g hg e=>by have:=g6 g hg;rcases e with e | e<;>(have e:g=_:=e;omega))) (by omega)
    ·intro g hg
     have h1:=hall g hg;exact ⟨fun h2=>by have:=(hNb g h2).1;omega,fun h2=>by have:=g6 g (Hd.au.1 h2);omega⟩
    ·intro g hg h2
     have h1:=(hNb g hg).2;have:=g6 g (Hd.au.1 h2);omega
end Go.Proofs.YtmflccbnoeaafaaGreat
namespace Go.Proofs.YtmflccbnoeaafaaGreat
set_option maxRecDepth 100000
set_option linter.unusedVariables false
set_option maxHeartbeats 64000000
theorem pW {l:List cB} {g:cB} (hr:aN cS l=true) (t:Nat) (ht:t < l.length):jZ l[t] g=true↔(t=cN cS l g∧b8 cS l g=true):=by
 obtain ⟨h1,h2⟩:=lU mK.lt hr g
 constructor
 ·intro e
  have hz:cS l[t] g=0:=(jQ _ _).2 e
  have hp:cN cS l g≤t:=by
   by_cases h:t < cN cS l g
   ·have:=h1 t ht h;omega
   ·omega
  have ju:t=cN cS l g:=by
   by_cases h:t=cN cS l g
   ·exact h
   ·have hlt:cN cS l g < t:=by omega
    have h3:=eh mK.lt hr _ t (by omega) ht hlt
    have h4:cS (l[cN cS l g]'(by omega)) g < 0:=by
     rw [uZ rfl ((gL _ _).1 e).symm];exact h3
    exact absurd h4 (h2 _ (by omega) (Nat.le_refl _))
  refine ⟨ju,?_⟩;unfold b8;rw [← ju,List.getElem?_eq_getElem ht];exact decide_eq_true hz
 ·rintro ⟨rfl,h⟩
  unfold b8 at h;rw [List.getElem?_eq_getElem ht] at h;exact (jQ _ _).1 (of_decide_eq_true h)
theorem qN {l:List cB} {g:cB} (hr:aN cS l=true):b8 cS l g=mv l g:=by
 cases h:b8 cS l g
 ·symm
  unfold mv;rw [List.any_eq_false];intro x hx e;obtain ⟨t,ht,rfl⟩:=List.getElem_of_mem hx;have:=((pW hr t ht).1 e).2;rw [h] at this
  cases this
 ·symm
  unfold mv;rw [List.any_eq_true];exact ⟨_,List.getElem_mem (fQ h),(pW hr _ (fQ h)).2 ⟨rfl,h⟩⟩
theorem IE {α:Type} (f:α→α) (l:List α) (q:Nat) (hq:q < l.length) (h:∀ t (ht:t < l.length),t≠q→f l[t]=l[t]):l.map f=l.set q (f l[q]):=by
 refine List.ext_getElem (by simp) fun t h1 h2=>?_
 rw [List.getElem_map,List.getElem_set]
 split
 ·next e=>subst e;rfl
 ·next e=>exact h t (by simpa using h1) fun x=>e x.symm
theorem IG {l:List cB} {g:cB} (hr:aN cS l=true) (h:b8 cS l g=true):laid l g=l.set (cN cS l g) { l[cN cS l g]'(fQ h) with opt:=(l[cN cS l g]'(fQ h)).opt || g.opt }:=by
 rw [kf (by rw [← qN hr];exact h),IE (lI g) l _ (fQ h) fun t ht hne=>?_]
 ·have:jZ (l[cN cS l g]'(fQ h)) g=true:=(pW hr _ (fQ h)).2 ⟨rfl,h⟩
  unfold lI;rw [if_pos this]
 ·have:¬ jZ l[t] g=true:=fun e=>hne ((pW hr t ht).1 e).1
  unfold lI;rw [if_neg this]
end Go.Proofs.YtmflccbnoeaafaaGreat
