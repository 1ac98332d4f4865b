import Derived.Test.YtakddkhipelmjaaGreatPartF16
set_option maxRecDepth 100000
set_option linter.unusedVariables false
set_option maxHeartbeats 64000000
namespace Go.Proofs.YtakddkhipelmjaaGreat
open Go.Deep Go.RowKit
structure gV where
 kind:Int
 aP:ByteArray
 ac:ByteArray
 table:ByteArray
 name:ByteArray
 role:ByteArray
 av:List eB
 rule:fF
 right:Int
 opt:Bool
def Mu (r:fF):Bool:=yT r.name r.kind r.av.length r.low r.high r.ac r.table r.key
def gv (x:gV):Bool:=FR x.kind x.aP x.ac x.table x.name x.role x.av.length (Mu x.rule) x.right x.opt
def dK (x:gV):Bool:=pJ x.kind x.rule.kind
noncomputable def gw (c:bX) (x:gV):Bool :=
 if x.kind=2∨x.kind=3 then Cj c.ai x.aP cE || Cj c.ai x.aP (qP c.ah x.ac)
 else if 4≤x.kind∧x.kind≤9 then ol c x.aP x.ac x.table
 else if x.kind=14∨x.kind=15 then true
 else Cj c.ai x.aP cE
noncomputable def dW (c:bX) (x:gV):Int :=
 if dh c=false then 1 else if gv x=false then 90 else if cL c.ai.names x.aP=false then 71
 else if emp x.ac=false∧x.kind≠1∧cy c.ah.aa x.ac < 0 then 61
 else if emp x.table=false∧x.kind≠3∧bp c.ah.tables x.ac x.table < 0 then 61
 else if gw c x=false then 91 else 0
def Cl (x:gV):eB:=x.av.headD ⟨⟨#[]⟩,0,false⟩
def dS (c:bX) (x:gV):bF × Int :=
 if x.kind=1 then ju c.ah (dG x.ac x.aP c.ah)
 else if x.kind=2 then ju c.ah (cS x.ac c.ah)
 else if x.kind=3 then ju c.ah (iN ⟨x.ac,x.table,x.aP,x.av,[]⟩ c.ah)
 else if x.kind=4 then ju c.ah (gI x.ac x.table c.ah)
 else if x.kind=5 then ju c.ah (gu c.ah x.ac x.table (jw (Cl x)))
 else if x.kind=6 then ju c.ah (gu c.ah x.ac x.table (i7 x.name))
 else if x.kind=7 then ju c.ah (gu c.ah x.ac x.table (jv c.ah.tables x.rule))
 else if x.kind=8 then ju c.ah (gu c.ah x.ac x.table (i5 c.ah.tables x.ac x.table x.name))
 else if cL c.ai.names x.role then ko c.ah x.ac x.table x.role else (dD,71)
def kp (c:bX) (role:ByteArray):Bool:=aS role cE || c.ah.aa.any (fun s=>aS s.owner role) || c.ah.tables.any (fun t=>aS t.owner role) || c.af.any (fun g=>aS g.aI role || aS g.to role)
noncomputable def jn (c:bX) (x:gV):fV × Int :=
 if x.kind=10 then na c.ai (Jq x.role c.ai)
 else if x.kind=11 then (if cL c.ai.names x.role&&kp c x.role then (QJ,73) else na c.ai (zn x.role c.ai))
 else if x.kind=12 then na c.ai (zo ⟨x.role,x.name⟩ c.ai)
 else na c.ai (tC ⟨x.role,x.name⟩ c.ai)
def zq (l:List cF) (s n:ByteArray):List cF:=l.filter fun g=>!(aS g.ac s&&aS g.table n)
def Zx (b:Bool) (x:gV) (g:cF):Bool:=aS g.ac x.ac&&aS g.table x.table&&(g.right==x.right)&&aS g.to x.role&&(b || aS g.aI x.aP)
def Mv (l:List cF) (b:Bool) (x:gV):List cF:=l.filter fun g=>!Zx b x g
noncomputable def dB (c:bX) (x:gV):bX × Int :=
 if x.kind≤9 then ({ c with ah:=(dS c x).1,af:=if x.kind=4 then zq c.af x.ac x.table else c.af },(dS c x).2)
 else if x.kind≤13 then ({ c with ai:=(jn c x).1 },(jn c x).2)
 else if x.kind=14 then oh c ⟨x.ac,x.table,x.right,x.aP,x.role,x.opt⟩
 else ({ c with af:=Mv c.af (ol c x.aP x.ac x.table) x },if (Mv c.af (ol c x.aP x.ac x.table) x).length=c.af.length then 80 else 0)
noncomputable def l9 (d:bX) (f:Bool):bX:={ d with af:=cH d,version:=d.version+1,ax:=if f then d.ax+1 else d.ax }
noncomputable def dX (c:bX) (x:gV):bX × Int :=
 if dW c x≠0 then (sN,dW c x) else if (dB c x).2≠0 then (sN,(dB c x).2)
 else if 1000000000≤c.version∨(dK x=true∧1000≤c.ax) then (sN,92)
 else (l9 (dB c x).1 (dK x),0)
theorem vF (l:List cp) (s n:ByteArray):0≤bp l s n↔∃ t∈l,t.ac=s∧t.name=n:=by
 have h:=ie (fun t:cp=>aS t.ac s&&aS t.name n) l;have hr:=bk (fun t:cp=>aS t.ac s&&aS t.name n) l;have e:bp l s n=bD (fun t:cp=>aS t.ac s&&aS t.name n) l:=rfl;rw [e]
 constructor
 ·intro h0
  rw [if_neg (by omega),List.getElem?_eq_getElem (by omega)] at h;have h2:=List.find?_some (p:=fun t:cp=>aS t.ac s&&aS t.name n) h;simp only [Bool.and_eq_true,dH] at h2;exact ⟨_,List.mem_of_find?_eq_some h,h2⟩
 ·rintro ⟨x,hx,rfl,rfl⟩
  rcases Int.lt_or_le (bD (fun t:cp=>aS t.ac x.ac&&aS t.name x.name) l) 0 with h0 | h0
  ·rw [if_pos h0] at h
   exact absurd (by simp [cZ]) (List.find?_eq_none.1 h x hx)
  ·exact h0
theorem Jr {c d:bX} (ho:d.ah=c.ah) (hr:d.ai=c.ai) (hg:d.af=c.af) {g:cF} (h:Held c g):Held d g:=yG ho hr id (fun x hx=>⟨by rw [hg];exact hx,rfl,fun h=>h⟩) g h
theorem Co {c d:bX} (ho:d.ah=c.ah) (hr:d.ai=c.ai) (hg:d.af=c.af) (h:bv c=true):bv d=true:=by
 obtain ⟨h1,h2,h3,h4⟩:=bL.1 h;refine bL.2 ⟨by rw [hg];exact h1,?_,fun g hx=>?_,by rw [hg];exact h4⟩
 ·rw [ho,hr]
  refine ⟨h2.1,h2.2.1,h2.2.2.1,?_⟩;have:=h2.2.2.2;unfold eJ at this ⊢;rw [ho,hr];exact this
 ·rw [hg] at hx
  rw [qm ho hr (rfl:fg g=fg g)];exact h3 g hx
theorem FV {c d:bX} (ho:d.ah=c.ah) (hr:d.ai=c.ai) (hg:d.af=c.af) (h:dO c=true):dO d=true:=by
 obtain ⟨h1,h2⟩:=eP.1 h;exact eP.2 ⟨Co ho hr hg h1,fun g hx=>Jr ho hr hg (h2 g (by rw [← hg];exact hx))⟩
theorem Cp {d:bX} (h:bv d=true) (f:Bool):dO (l9 d f)=true:=FV (c:={ d with af:=cH d }) rfl rfl rfl (BA h)
theorem jS {c:bX}:dh c=true↔(0≤c.ax∧c.ax≤1000)∧(0≤c.version∧c.version≤1000000000)∧dO c=true:=by
 unfold dh;simp only [Bool.and_eq_true,decide_eq_true_eq];exact ⟨fun h=>⟨⟨h.1.1.1.1,h.1.1.1.2⟩,⟨h.1.1.2,h.1.2⟩,h.2⟩,fun h=>⟨⟨⟨⟨h.1.1,h.1.2⟩,h.2.1.1⟩,h.2.1.2⟩,h.2.2⟩⟩
theorem zr {c:bX} (h:bv c=true) {o:bF} (hk:bw o=true) (hs:∀ s∈o.aa,cL c.ai.names s.owner=true) (ht:∀ t∈o.tables,cL c.ai.names t.owner=true) {l:List cF} (hl:l.Sublist c.af) (hg:∀ g∈l,0≤bp o.tables g.ac g.table):bv { c with ah:=o,af:=l }=true:=by
 obtain ⟨h1,h2,h3,h4⟩:=bL.1 h;refine bL.2 ⟨Nat.le_trans hl.length_le h1,⟨hk,h2.2.1,h2.2.2.1,?_⟩,fun g hx=>?_,ib.2 ((ib.1 h4).sublist hl)⟩
 ·show (_&&_)=true
  rw [Bool.and_eq_true,List.all_eq_true,List.all_eq_true];exact ⟨hs,ht⟩
 ·obtain ⟨k1,k2,k3,k4,k5⟩:=li (h3 g (hl.subset hx))
  unfold fA;simp only [Bool.and_eq_true,decide_eq_true_eq,Bool.not_eq_true'];exact ⟨⟨⟨⟨hg g hx,k2⟩,k3⟩,k4⟩,k5⟩
theorem oM {c:bX}:eJ c=true↔(∀ s∈c.ah.aa,cL c.ai.names s.owner=true)∧∀ t∈c.ah.tables,cL c.ai.names t.owner=true:=by
 unfold eJ;rw [Bool.and_eq_true,List.all_eq_true,List.all_eq_true]
theorem zt {c:bX} (h:bv c=true) {r:fV} (hr:bG r=true) (hn:∀ a,cL c.ai.names a=true→kp c a=true→cL r.names a=true):bv { c with ai:=r }=true:=by
 obtain ⟨h1,h2,h3,h4⟩:=bL.1 h;obtain ⟨nT,Hh⟩:=oM.1 h2.2.2.2
 have n1:kp c cE=true:=by unfold kp;rw [cZ];rfl
 have n2:∀ s∈c.ah.aa,kp c s.owner=true:=fun s hs=>by
  have:c.ah.aa.any (fun z=>aS z.owner s.owner)=true:=List.any_eq_true.2 ⟨s,hs,cZ _⟩;unfold kp;rw [this];simp
 have n3:∀ t∈c.ah.tables,kp c t.owner=true:=fun t ht=>by
  have:c.ah.tables.any (fun z=>aS z.owner t.owner)=true:=List.any_eq_true.2 ⟨t,ht,cZ _⟩;unfold kp;rw [this];simp
 have n4:∀ g∈c.af,kp c g.aI=true∧kp c g.to=true:=fun g hg=>by
  have e1:c.af.any (fun z=>aS z.aI g.aI || aS z.to g.aI)=true:=List.any_eq_true.2 ⟨g,hg,by rw [cZ];rfl⟩;have e2:c.af.any (fun z=>aS z.aI g.to || aS z.to g.to)=true:=List.any_eq_true.2 ⟨g,hg,by rw [cZ];simp⟩;unfold kp;rw [e1,e2];simp
 refine bL.2 ⟨h1,⟨h2.1,hr,hn _ h2.2.2.1 n1,oM.2 ⟨fun s hs=>hn _ (nT s hs) (n2 s hs),fun t ht=>hn _ (Hh t ht) (n3 t ht)⟩⟩,fun g hx=>?_,h4⟩;obtain ⟨k1,k2,k3,k4,k5⟩:=li (h3 g hx);unfold fA;simp only [Bool.and_eq_true,decide_eq_true_eq,Bool.not_eq_true'];exact ⟨⟨⟨⟨k1,k2⟩,k3⟩,hn _ k4 (n4 g hx).1⟩,hn _ k5 (n4 g hx).2⟩
theorem iO {o:bF} {r:bF × Int} (h:bw o=true):ju o r=r:=by unfold ju;rw [if_pos h]
theorem zv {o:bF} {nm:ByteArray} (h:bw o=true) (hz:(cS nm o).2=0):bw (cS nm o).1=true:=by
 have g:=(eI o).1 h;unfold cS at hz ⊢;by_cases c1:cy o.aa nm < 0
 ·rw [if_pos c1] at hz;cases hz
 by_cases c2:0 < within o.tables nm
 ·rw [if_neg c1,if_pos c2] at hz;cases hz
 rw [if_neg c1,if_neg c2];obtain ⟨p,hp⟩:∃ p:Nat,cy o.aa nm=p:=⟨(cy o.aa nm).toNat,by omega⟩;have hr:=(bk (fun x:fJ=>aS x.name nm) o.aa).2
 have hpl:p < o.aa.length:=by unfold cy at hp;omega
 have e1:o.aa[p].name=nm:=(dH _ _).1 (gN (fun x:fJ=>aS x.name nm) o.aa p hpl hp);rw [hp,Int.toNat_natCast];refine (eI _).2 ⟨Nat.le_trans (List.length_eraseIdx_le _ _) g.ns,g.nt,g.rt,mZ uZ g.rs p,fun x hx=>g.gT x (List.mem_of_mem_eraseIdx hx),fun t ht=>?_⟩;have a:=g.tab t ht;refine ⟨a.nm,a.ow,a.av,a.nr,?_,a.ln,a.fit,a.key⟩;obtain ⟨z,hz1,hz2⟩:=a.gT;refine ⟨z,fy hz1 fun h9 e=>c2 ?_,hz2⟩;unfold within;exact List.length_pos_iff_exists_mem.2 ⟨t,List.mem_filter.2 ⟨ht,(dH _ _).2 (by rw [← hz2,e,e1])⟩⟩
theorem zA {o:bF} {s n:ByteArray} {f:cp→cp × Int} (hz:(gu o s n f).2=0):∃ (q:Nat) (hq:q < o.tables.length),bp o.tables s n=q∧(f o.tables[q]).2=0∧gu o s n f=(⟨o.aa,o.tables.set q (f o.tables[q]).1⟩,0):=by
 have hr:=bk (fun t:cp=>aS t.ac s&&aS t.name n) o.tables;by_cases h0:bp o.tables s n < 0
 ·rw [vB h0] at hz;cases hz
 ·obtain ⟨q,hq⟩:∃ q:Nat,bp o.tables s n=q:=⟨(bp o.tables s n).toNat,by omega⟩
  have mO:q < o.tables.length:=by unfold bp at hq;omega
  rw [vC hq mO] at hz ⊢;by_cases h1:(f o.tables[q]).2=0
  ·rw [if_pos h1];exact ⟨q,mO,hq,h1,rfl⟩
  ·rw [if_neg h1] at hz;exact absurd hz h1
def Cq (t:cp) (v:ByteArray):cp:=⟨t.ac,t.name,v,t.av,t.rules⟩
theorem Js {o:bF} {q:Nat} {v:ByteArray} (g:Good o) (hq:q < o.tables.length) (hv:bA v=true):Good ⟨o.aa,o.tables.set q (Cq o.tables[q] v)⟩:=by
 have gq:=g.tab _ (List.getElem_mem hq)
 have hk2:∀ x∈o.tables,∀ r∈x.rules,r.kind=4→iq (o.tables.set q (Cq o.tables[q] v)) x.av r:=fun x hx r hr h4=>by
  obtain ⟨t,ht,e1,e2,k,hk,e3,e4,e5⟩:=(g.tab x hx).key r hr h4;by_cases e:t=o.tables[q]
  ·exact ⟨(Cq o.tables[q] v),List.mem_set hq _,by rw [← e];exact e1,by rw [← e];exact e2,k,by rw [← e];exact hk,e3,e4,by rw [← e];exact e5⟩
  ·obtain ⟨i,hi,rfl⟩:=List.getElem_of_mem ht
   have hne:q≠i:=fun h=>e (by subst h;rfl)
   exact ⟨o.tables[i],List.mem_iff_getElem.2 ⟨i,by simpa using hi,by rw [List.getElem_set_ne hne]⟩,e1,e2,k,hk,e3,e4,e5⟩
 refine ⟨g.ns,by simpa using g.nt,?_,g.rs,fun s hs2=>?_,fun x hx=>?_⟩
 ·show aM gF (o.tables.set q (Cq o.tables[q] v))=true
  rw [vA (t:=Cq o.tables[q] v) hq rfl rfl];exact g.rt
 ·have:=g.gT s hs2
  refine ⟨this.1,this.2.1,?_⟩
  show within (o.tables.set q (Cq o.tables[q] v)) s.name≤8
  rw [tx (t:=Cq o.tables[q] v) hq rfl];exact this.2.2
 ·rcases oL hx with rfl | hx
  ·exact ⟨gq.nm,hv,gq.av,gq.nr,gq.gT,gq.ln,gq.fit,fun r hr h4=>hk2 _ (List.getElem_mem hq) r hr h4⟩
  ·have gx:=g.tab x hx
   exact ⟨gx.nm,gx.ow,gx.av,gx.nr,gx.gT,gx.ln,gx.fit,hk2 x hx⟩
theorem Cu {o:bF} {s n v:ByteArray} (h:bw o=true) (hz:(ko o s n v).2=0):bw (ko o s n v).1=true∧bA v=true∧ko o s n v=gu o s n (VC v):=by
 unfold ko at hz ⊢;rw [if_pos h] at hz ⊢;by_cases hv:bA v=true
 ·rw [if_pos hv] at hz ⊢
  refine ⟨?_,hv,rfl⟩;obtain ⟨q,hq,h1,h2,h3⟩:=zA hz;rw [h3];exact (eI _).2 (Js ((eI o).1 h) hq hv)
 ·rw [if_neg hv] at hz;exact absurd hz (by decide)
theorem FW {nm ow:ByteArray} {o:bF}:(dG nm ow o).2=0→dG nm ow o=(⟨dv o.aa (em jH o.aa ⟨nm,ow⟩) ⟨nm,ow⟩,o.tables⟩,0):=by
 unfold dG
 repeat' split
 all_goals first | exact fun h=>absurd h (by decide) | exact fun _=>rfl
theorem Cv {nm:ByteArray} {o:bF}:(cS nm o).2=0→cS nm o=(⟨o.aa.eraseIdx (cy o.aa nm).toNat,o.tables⟩,0):=by
 unfold cS
 repeat' split
 all_goals first | exact fun h=>absurd h (by decide) | exact fun _=>rfl
theorem FX {t:cp} {o:bF}:(iN t o).2=0→iN t o=(⟨o.aa,dv o.tables (em gF o.tables t) t⟩,0):=by
 unfold iN
 repeat' split
 all_goals first | exact fun h=>absurd h (by decide) | exact fun _=>rfl
theorem Cx {s n:ByteArray} {o:bF}:(gI s n o).2=0→gI s n o=(⟨o.aa,o.tables.eraseIdx (bp o.tables s n).toNat⟩,0)∧0≤bp o.tables s n:=by
 unfold gI;by_cases h1:bp o.tables s n < 0
 ·rw [if_pos h1];exact fun h=>absurd h (by decide)
 ·rw [if_neg h1]
  split
  ·exact fun h=>absurd h (by decide)
  ·exact fun _=>⟨rfl,by omega⟩
structure VM (c:bX) (x:gV) (o:bF):Prop where
 chk:bw o=true
 gT:∀ s∈o.aa,s∈c.ah.aa∨s.owner=x.aP
 tab:∀ t∈o.tables,(∃ u∈c.ah.tables,t.owner=u.owner)∨t.owner=x.aP∨cL c.ai.names t.owner=true
 keep:∀ t∈c.ah.tables,¬ (x.kind=4∧t.ac=x.ac∧t.name=x.table)→∃ u∈o.tables,u.ac=t.ac∧u.name=t.name∧(x.kind≠9→u.owner=t.owner)
 aaI:x.kind≠2→∀ z∈c.ah.aa,z∈o.aa
theorem ng {c:bX} {x:gV} {f:cp→cp × Int} (hz:(gu c.ah x.ac x.table f).2=0) (j7:bw (gu c.ah x.ac x.table f).1=true)
  (hf:∀ t,(f t).2=0→(f t).1.ac=t.ac∧(f t).1.name=t.name∧((f t).1.owner=t.owner∨(x.kind=9∧cL c.ai.names (f t).1.owner=true))):VM c x (gu c.ah x.ac x.table f).1:=by
 obtain ⟨q,hq,h1,h2,h3⟩:=zA hz;rw [h3] at j7 ⊢;obtain ⟨e1,e2,e3⟩:=hf _ h2;refine ⟨j7,fun s hs=>.inl hs,fun t ht=>?_,fun t ht hn=>?_,fun _ z hz=>hz⟩
 ·rcases oL ht with rfl | ht
  ·rcases e3 with e3 | e3
   ·exact .inl ⟨_,List.getElem_mem hq,e3⟩
   ·exact .inr (.inr e3.2)
  ·exact .inl ⟨t,ht,rfl⟩
 ·obtain ⟨i,hi,rfl⟩:=List.getElem_of_mem ht
  by_cases e:i=q
  ·subst e
   exact ⟨_,List.mem_set hi _,e1,e2,fun h9=>e3.resolve_right fun h=>h9 h.1⟩
  ·exact ⟨c.ah.tables[i],List.mem_iff_getElem.2 ⟨i,by simpa using hi,by rw [List.getElem_set_ne (Ne.symm e)]⟩,rfl,rfl,fun _=>rfl⟩
theorem QK {c:bX} {x:gV} (j7:bw c.ah=true) (jd:1≤x.kind) (hk9:x.kind≤9) (hz:(dS c x).2=0):VM c x (dS c x).1:=by
 have hk:x.kind=1∨x.kind=2∨x.kind=3∨x.kind=4∨x.kind=5∨x.kind=6∨x.kind=7∨x.kind=8∨x.kind=9:=by omega
 rcases hk with hk | hk | hk | hk | hk | hk | hk | hk | hk
 ·have e:dS c x=dG x.ac x.aP c.ah:=by unfold dS;rw [if_pos hk,iO j7]
  rw [e] at hz ⊢;have h1:=FW hz;have h2:=Cg j7 hz;rw [h1] at h2 ⊢;exact ⟨h2,fun s hs=>(bU.1 hs).elim (fun h=>.inr (by rw [h])) .inl,fun t ht=>.inl ⟨t,ht,rfl⟩,fun t ht _=>⟨t,ht,rfl,rfl,fun _=>rfl⟩,fun _ z hz=>bU.2 (.inr hz)⟩
 ·have e:dS c x=cS x.ac c.ah:=by unfold dS;rw [if_neg (by omega),if_pos hk,iO j7]
  rw [e] at hz ⊢;have h1:=Cv hz;have h2:=zv j7 hz;rw [h1] at h2 ⊢;exact ⟨h2,fun s hs=>.inl (List.mem_of_mem_eraseIdx hs),fun t ht=>.inl ⟨t,ht,rfl⟩,fun t ht _=>⟨t,ht,rfl,rfl,fun _=>rfl⟩,fun h=>absurd hk h⟩
 ·have e:dS c x=iN ⟨x.ac,x.table,x.aP,x.av,[]⟩ c.ah:=by unfold dS;rw [if_neg (by omega),if_neg (by omega),if_pos hk,iO j7]
  rw [e] at hz ⊢;have h1:=FX hz;have h2:=Ch j7 hz;rw [h1] at h2 ⊢;exact ⟨h2,fun s hs=>.inl hs,fun t ht=>(bU.1 ht).elim (fun h=>.inr (.inl (by rw [h]))) (fun h=>.inl ⟨t,h,rfl⟩),fun t ht _=>⟨t,bU.2 (.inr ht),rfl,rfl,fun _=>rfl⟩,fun _ z hz=>hz⟩
 ·have e:dS c x=gI x.ac x.table c.ah:=by unfold dS;rw [if_neg (by omega),if_neg (by omega),if_neg (by omega),if_pos hk,iO j7]
  rw [e] at hz ⊢;obtain ⟨h1,h0⟩:=Cx hz;have h2:=zl j7 hz;obtain ⟨p,hp⟩:∃ p:Nat,bp c.ah.tables x.ac x.table=p:=⟨_,(Int.toNat_of_nonneg h0).symm⟩;have hr:=(bk (fun t:cp=>aS t.ac x.ac&&aS t.name x.table) c.ah.tables).2
  have hpl:p < c.ah.tables.length:=by unfold bp at hp;omega
  obtain ⟨e1,e2⟩:=tA hp hpl;rw [h1] at h2 ⊢;rw [hp,Int.toNat_natCast] at h2 ⊢;exact ⟨h2,fun s hs=>.inl hs,fun t ht=>.inl ⟨t,List.mem_of_mem_eraseIdx ht,rfl⟩,fun t ht hn=>⟨t,fy ht fun h e=>hn ⟨hk,by rw [e];exact e1,by rw [e];exact e2⟩,rfl,rfl,fun _=>rfl⟩,fun _ z hz=>hz⟩
 ·have e:dS c x=gu c.ah x.ac x.table (jw (Cl x)):=by unfold dS;rw [if_neg (by omega),if_neg (by omega),if_neg (by omega),if_neg (by omega),if_pos hk,iO j7]
  rw [e] at hz ⊢
  exact ng hz (Ci j7 hz) fun t h=>by
   revert h
   unfold jw
   repeat' split
   all_goals exact fun _=>⟨rfl,rfl,.inl rfl⟩
 ·have e:dS c x=gu c.ah x.ac x.table (i7 x.name):=by unfold dS;rw [if_neg (by omega),if_neg (by omega),if_neg (by omega),if_neg (by omega),if_neg (by omega),if_pos hk,iO j7]
  rw [e] at hz ⊢
  exact ng hz (zm j7 hz) fun t h=>by
   revert h
   unfold i7
   repeat' split
   all_goals exact fun _=>⟨rfl,rfl,.inl rfl⟩
 ·have e:dS c x=gu c.ah x.ac x.table (jv c.ah.tables x.rule):=by unfold dS;rw [if_neg (by omega),if_neg (by omega),if_neg (by omega),if_neg (by omega),if_neg (by omega),if_neg (by omega),if_pos hk,iO j7]
  rw [e] at hz ⊢
  exact ng hz (Ca j7 hz) fun t h=>by
   revert h
   unfold jv
   repeat' split
   all_goals exact fun _=>⟨rfl,rfl,.inl rfl⟩
 ·have e:dS c x=gu c.ah x.ac x.table (i5 c.ah.tables x.ac x.table x.name):=by unfold dS;rw [if_neg (by omega),if_neg (by omega),if_neg (by omega),if_neg (by omega),if_neg (by omega),if_neg (by omega),if_neg (by omega),if_pos hk,iO j7]
  rw [e] at hz ⊢
  exact ng hz (zi j7 hz) fun t h=>by
   revert h
   unfold i5
   repeat' split
   all_goals exact fun _=>⟨rfl,rfl,.inl rfl⟩
 ·by_cases hi:cL c.ai.names x.role=true
  ·have e:dS c x=ko c.ah x.ac x.table x.role:=by unfold dS;rw [if_neg (by omega),if_neg (by omega),if_neg (by omega),if_neg (by omega),if_neg (by omega),if_neg (by omega),if_neg (by omega),if_neg (by omega),if_pos hi]
   rw [e] at hz ⊢;obtain ⟨h1,h2,h3⟩:=Cu j7 hz;rw [h3] at hz h1 ⊢
   exact ng hz h1 fun t _=>⟨rfl,rfl,.inr ⟨hk,hi⟩⟩
  ·have e:dS c x=(dD,71):=by unfold dS;rw [if_neg (by omega),if_neg (by omega),if_neg (by omega),if_neg (by omega),if_neg (by omega),if_neg (by omega),if_neg (by omega),if_neg (by omega),if_neg hi]
   rw [e] at hz;exact absurd hz (by decide)
theorem kq {α:Type} {c:α→α→Int} (tr:∀ a b d,c a b < 0→c b d < 0→c a d < 0) {l:List α}:aM c l=true↔l.Pairwise fun a b=>c a b < 0:=by
 constructor
 ·exact fun h=>List.pairwise_iff_getElem.2 fun i j hi hj pg=>dZ tr h i j hi hj pg
 ·exact fun h=>(cR _ _).2 fun k hk=>List.pairwise_iff_getElem.1 h k (k+1) (by omega) hk (by omega)
theorem zC {α:Type} {c:α→α→Int} (o:uI c) {l:List α} {x:α} (h:fo c l x=true):l[em c l x]'(zD h)=x:=by
 have hl:=zD h;unfold fo at h;rw [List.getElem?_eq_getElem hl] at h;exact o.QL _ _ (of_decide_eq_true h)
theorem FY {r:fV} {nm:ByteArray} (h:bG r=true) (h1:bA nm=true) (h2:fo aT r.names nm=false) (h3:¬ 16≤r.names.length):bG { r with names:=dv r.names (em aT r.names nm) nm }=true:=by
 obtain ⟨p1,p2,p3,p4,p5,p6⟩:=dp.1 h;refine dp.2 ⟨?_,p2,vG rO p3 h2,p4,fun s hs=>?_,fun m hm=>?_⟩
 ·show (dv r.names (em aT r.names nm) nm).length≤16
  rw [fk _ _ _ (gM _ _ _)];omega
 ·rcases bU.1 hs with e | e
  ·rw [e];exact h1
  ·exact p5 s e
 ·have:=p6 m hm
  exact ⟨bU.2 (.inr this.1),bU.2 (.inr this.2.1),this.2.2⟩
theorem zF {r:fV} {nm:ByteArray} (h:bG r=true) (h2:fo aT r.names nm=true) (h3:r.members.any (zH nm)=false):bG { r with names:=r.names.eraseIdx (em aT r.names nm) }=true:=by
 obtain ⟨p1,p2,p3,p4,p5,p6⟩:=dp.1 h;have he:=zC rO h2;refine dp.2 ⟨Nat.le_trans (List.length_eraseIdx_le _ _) p1,p2,(kq rO.tr).2 (((kq rO.tr).1 p3).sublist (List.eraseIdx_sublist _ _)),p4,fun s hs=>p5 s (List.mem_of_mem_eraseIdx hs),fun m hm=>?_⟩
 have hu:zH nm m=false:=by
  rw [List.any_eq_false] at h3
  simpa using h3 m hm
 unfold zH at hu;rw [Bool.or_eq_false_iff] at hu;have:=p6 m hm;exact ⟨fy this.1 fun h9 e=>(by have:=hu.1;rw [e,he,cZ] at this;cases this),fy this.2.1 fun h9 e=>(by have:=hu.2;rw [e,he,cZ] at this;cases this),this.2.2⟩
theorem zI {r:fV} {m:dP} (h:bG r=true):bG { r with members:=r.members.eraseIdx (em fz r.members m) }=true:=by
 obtain ⟨p1,p2,p3,p4,p5,p6⟩:=dp.1 h;refine dp.2 ⟨p1,Nat.le_trans (List.length_eraseIdx_le _ _) p2,p3,(kq Mw.tr).2 (((kq Mw.tr).1 p4).sublist (List.eraseIdx_sublist _ _)),p5,fun m hm=>?_⟩;have:=p6 m (List.mem_of_mem_eraseIdx hm);exact ⟨this.1,this.2.1,fun hr=>this.2.2 (hr.mono fun x hx=>List.mem_of_mem_eraseIdx hx)⟩
structure Zy (c:bX) (x:gV) (r:fV):Prop where
 right:bG r=true
 need:∀ a,cL c.ai.names a=true→kp c a=true→cL r.names a=true
 j0:x.kind≠11→∀ a,cL c.ai.names a=true→cL r.names a=true
 mem:x.kind≠13→∀ m∈c.ai.members,m∈r.members
theorem si {r:fV} {f:fV × Int} (h:bG r=true) (hz:(na r f).2=0):f.2=0∧na r f=(f.1,0):=by
 unfold na at hz ⊢;rw [if_pos h] at hz ⊢;by_cases h2:f.2=0
 ·rw [if_pos h2];exact ⟨h2,rfl⟩
 ·rw [if_neg h2] at hz;exact absurd hz h2
theorem QM {c:bX} {x:gV} (hr:bG c.ai=true) (jd:10≤x.kind) (hk9:x.kind≤13) (hz:(jn c x).2=0):Zy c x (jn c x).1:=by
 have hk:x.kind=10∨x.kind=11∨x.kind=12∨x.kind=13:=by omega
 rcases hk with hk | hk | hk | hk
 ·have e:jn c x=na c.ai (Jq x.role c.ai):=by unfold jn;rw [if_pos hk]
  rw [e] at hz ⊢;obtain ⟨h1,h2⟩:=si hr hz;rw [h2];unfold Jq at h1 ⊢;by_cases c1:bA x.role=true
  ·rw [if_pos c1] at h1 ⊢
   by_cases c2:fo aT c.ai.names x.role=true
   ·rw [if_pos c2] at h1;exact absurd h1 (by simp)
   ·rw [if_neg c2] at h1 ⊢
    by_cases c3:16≤c.ai.names.length
    ·rw [if_pos c3] at h1;exact absurd h1 (by simp)
    ·rw [if_neg c3]
     rw [Bool.not_eq_true] at c2
     have hn:∀ a,cL c.ai.names a=true→cL (dv c.ai.names (em aT c.ai.names x.role) x.role) a=true:=fun a ha=>(jt _ _).2 (bU.2 (.inr ((jt _ _).1 ha)))
     exact ⟨FY hr c1 c2 c3,fun a ha _=>hn a ha,fun _=>hn,fun _ m hm=>hm⟩
  ·rw [if_neg c1] at h1;exact absurd h1 (by simp)
 ·have e:jn c x=if cL c.ai.names x.role&&kp c x.role then (QJ,73) else na c.ai (zn x.role c.ai):=by unfold jn;rw [if_neg (by omega),if_pos hk]
  rw [e] at hz ⊢;by_cases c0:(cL c.ai.names x.role&&kp c x.role)=true
  ·rw [if_pos c0] at hz;exact absurd hz (by simp)
  rw [if_neg c0] at hz ⊢;obtain ⟨h1,h2⟩:=si hr hz;rw [h2];unfold zn at h1 ⊢;by_cases c2:fo aT c.ai.names x.role=true
  ·rw [if_pos c2] at h1 ⊢
   by_cases c3:c.ai.members.any (zH x.role)=true
   ·rw [if_pos c3] at h1;exact absurd h1 (by simp)
   ·rw [if_neg c3]
    rw [Bool.not_eq_true] at c3
    have yi:cL c.ai.names x.role=true:=by rw [FZ (dp.1 hr).2.2.1];exact c2
    rw [yi] at c0;refine ⟨zF hr c2 c3,fun a ha hn=>(jt _ _).2 (fy ((jt _ _).1 ha) fun h9 e=>?_),fun h=>absurd hk h,fun _ m hm=>hm⟩;rw [zC rO c2] at e;rw [e] at hn;rw [hn] at c0;exact c0 rfl
  ·rw [if_neg c2] at h1;exact absurd h1 (by simp)
 ·have e:jn c x=na c.ai (zo ⟨x.role,x.name⟩ c.ai):=by unfold jn;rw [if_neg (by omega),if_neg (by omega),if_pos hk]
  rw [e] at hz ⊢;obtain ⟨h1,h2⟩:=si hr hz;rw [h2];unfold zo at h1 ⊢;by_cases c1:(cL c.ai.names x.role&&cL c.ai.names x.name)=true
  ·rw [if_pos c1] at h1 ⊢
   rw [Bool.and_eq_true] at c1;by_cases c2:fo fz c.ai.members ⟨x.role,x.name⟩=true
   ·rw [if_pos c2] at h1;exact absurd h1 (by simp)
   ·rw [if_neg c2] at h1 ⊢
    rw [Bool.not_eq_true] at c2;by_cases c3:bM c.ai.members x.name x.role=true
    ·rw [if_pos c3] at h1;exact absurd h1 (by simp)
    ·rw [if_neg c3] at h1 ⊢
     rw [Bool.not_eq_true] at c3;exact ⟨Cy hr c1.1 c1.2 c2 c3,fun a ha _=>ha,fun _ a ha=>ha,fun _ m hm=>bU.2 (.inr hm)⟩
  ·rw [if_neg c1] at h1;exact absurd h1 (by simp)
 ·have e:jn c x=na c.ai (tC ⟨x.role,x.name⟩ c.ai):=by unfold jn;rw [if_neg (by omega),if_neg (by omega),if_neg (by omega)]
  rw [e] at hz ⊢;obtain ⟨h1,h2⟩:=si hr hz;rw [h2];unfold tC at h1 ⊢;by_cases c2:fo fz c.ai.members ⟨x.role,x.name⟩=true
  ·rw [if_pos c2]
   exact ⟨zI hr,fun a ha _=>ha,fun _ a ha=>ha,fun h=>absurd hk h⟩
  ·rw [if_neg c2] at h1;exact absurd h1 (by simp)
theorem zJ {x:gV} (h:gv x=true):1≤x.kind∧x.kind≤15:=by
 unfold gv at h;rw [EE] at h;simp only [Bool.and_eq_true] at h;have h1:=h.1.1.1.1.1.1;unfold I6 at h1;simp only [Bool.and_eq_true,decide_eq_true_eq] at h1;exact h1
theorem nh {c:bX} {x:gV} (h:x.kind≤9):dB c x=({ c with ah:=(dS c x).1,af:=if x.kind=4 then zq c.af x.ac x.table else c.af },(dS c x).2):=by unfold dB;rw [if_pos h]
theorem tD {c:bX} {x:gV} (h:10≤x.kind) (h2:x.kind≤13):dB c x=({ c with ai:=(jn c x).1 },(jn c x).2):=by unfold dB;rw [if_neg (by omega),if_pos h2]
theorem qs {c:bX} {x:gV} (h:x.kind=14):dB c x=oh c ⟨x.ac,x.table,x.right,x.aP,x.role,x.opt⟩:=by unfold dB;rw [if_neg (by omega),if_neg (by omega),if_pos h]
theorem tE {c:bX} {x:gV} (h:15≤x.kind):dB c x=({ c with af:=Mv c.af (ol c x.aP x.ac x.table) x },if (Mv c.af (ol c x.aP x.ac x.table) x).length=c.af.length then 80 else 0):=by unfold dB;rw [if_neg (by omega),if_neg (by omega),if_neg (by omega)]
theorem zK {c:bX} {x:gV} (hs:bv c=true) (ha:cL c.ai.names x.aP=true) (hk:1≤x.kind) (hz:(dB c x).2=0):bv (dB c x).1=true:=by
 obtain ⟨h1,h2,h3,h4⟩:=bL.1 hs;obtain ⟨nT,Hh⟩:=oM.1 h2.2.2.2;by_cases k9:x.kind≤9
 ·rw [nh k9] at hz ⊢
  have D:=QK h2.1 hk k9 hz;refine zr hs D.chk (fun s hx=>(D.gT s hx).elim (nT s) (fun e=>by rw [e];exact ha)) (fun t ht=>?_) (l:=if x.kind=4 then zq c.af x.ac x.table else c.af) ?_ (fun g hg=>?_)
  ·rcases D.tab t ht with ⟨u,hu,e⟩ | e | e
   ·rw [e];exact Hh u hu
   ·rw [e];exact ha
   ·exact e
  ·split
   ·exact List.filter_sublist
   ·exact List.Sublist.refl _
  ·have LA:g∈c.af∧¬ (x.kind=4∧g.ac=x.ac∧g.table=x.table):=by
    split at hg
    ·have:=List.mem_filter.1 (show g∈c.af.filter _ from hg)
     refine ⟨this.1,fun h=>?_⟩;have h5:=this.2;rw [h.2.1,h.2.2,cZ,cZ] at h5
     cases h5
    ·rename_i h4
     exact ⟨hg,fun h=>h4 h.1⟩
   obtain ⟨t,ht,e1,e2⟩:=(vF _ _ _).1 (li (h3 g LA.1)).1;obtain ⟨u,hu,e3,e4,_⟩:=D.keep t ht (fun h=>LA.2 ⟨h.1,by rw [← e1];exact h.2.1,by rw [← e2];exact h.2.2⟩);exact (vF _ _ _).2 ⟨u,hu,e3.trans e1,e4.trans e2⟩
 by_cases Ty:x.kind≤13
 ·rw [tD (by omega) Ty] at hz ⊢
  have D:=QM h2.2.1 (by omega) Ty hz;exact zt hs D.right D.need
 by_cases VN:x.kind=14
 ·rw [qs VN] at hz ⊢
  exact (eP.1 (wU hz).P9).1
 ·rw [tE (by omega)] at hz ⊢
  exact sO hs List.filter_sublist
theorem vH {c:bX} {x:gV} (hz:(dB c x).2=0):(dB c x).1.ax=c.ax∧(dB c x).1.version=c.version:=by
 by_cases k9:x.kind≤9
 ·rw [nh k9];exact ⟨rfl,rfl⟩
 by_cases Ty:x.kind≤13
 ·rw [tD (by omega) Ty];exact ⟨rfl,rfl⟩
 by_cases VN:x.kind=14
 ·rw [qs VN] at hz ⊢
  rw [(wU hz).is];exact ⟨rfl,rfl⟩
 ·rw [tE (by omega)];exact ⟨rfl,rfl⟩
structure Pg (c:bX) (x:gV):Prop where
 right:dh c=true
 may:gv x=true
 who:cL c.ai.names x.aP=true
 gT:emp x.ac=false→x.kind≠1→0≤cy c.ah.aa x.ac
 tab:emp x.table=false→x.kind≠3→0≤bp c.ah.tables x.ac x.table
 allow:gw c x=true
theorem Jt {c:bX} {x:gV} (h:dW c x=0):Pg c x:=by
 unfold dW at h;by_cases h1:dh c=false
 ·rw [if_pos h1] at h;exact absurd h (by decide)
 rw [if_neg h1] at h;by_cases h2:gv x=false
 ·rw [if_pos h2] at h;exact absurd h (by decide)
 rw [if_neg h2] at h;by_cases h3:cL c.ai.names x.aP=false
 ·rw [if_pos h3] at h;exact absurd h (by decide)
 rw [if_neg h3] at h;by_cases h4:emp x.ac=false∧x.kind≠1∧cy c.ah.aa x.ac < 0
 ·rw [if_pos h4] at h;exact absurd h (by decide)
 rw [if_neg h4] at h;by_cases h5:emp x.table=false∧x.kind≠3∧bp c.ah.tables x.ac x.table < 0
 ·rw [if_pos h5] at h;exact absurd h (by decide)
 rw [if_neg h5] at h;by_cases h6:gw c x=false
 ·rw [if_pos h6] at h;exact absurd h (by decide)
 rw [Bool.not_eq_false] at h1 h2 h3 h6;exact ⟨h1,h2,h3,fun a b=>Int.not_lt.1 fun d=>h4 ⟨a,b,d⟩,fun a b=>Int.not_lt.1 fun d=>h5 ⟨a,b,d⟩,h6⟩
structure Done (c:bX) (x:gV):Prop where
 begun:Pg c x
 done:(dB c x).2=0
 ver:c.version < 1000000000
 epo:dK x=true→c.ax < 1000
 is:dX c x=(l9 (dB c x).1 (dK x),0)
theorem zL {c:bX} {x:gV} (h:(dX c x).2=0):Done c x:=by
 unfold dX at h;by_cases h1:dW c x≠0
 ·rw [if_pos h1] at h;exact absurd h h1
 rw [if_neg h1] at h;by_cases h2:(dB c x).2≠0
 ·rw [if_pos h2] at h;exact absurd h h2
 rw [if_neg h2] at h;by_cases h3:1000000000≤c.version∨(dK x=true∧1000≤c.ax)
 ·rw [if_pos h3] at h;exact absurd h (by decide)
 refine ⟨Jt (by simpa using h1),by simpa using h2,by omega,fun hf=>Int.not_le.1 fun h=>h3 (.inr ⟨hf,h⟩),?_⟩;unfold dX;rw [if_neg h1,if_neg h2,if_neg h3]
theorem Done.Ju {c:bX} {x:gV} (h:Done c x):dh (l9 (dB c x).1 (dK x))=true:=by
 obtain ⟨⟨e1,e2⟩,⟨v1,v2⟩,hw⟩:=jS.1 h.begun.right;obtain ⟨d1,d2⟩:=vH h.done;have hs:=zK (eP.1 hw).1 h.begun.who (zJ h.begun.may).1 h.done;refine jS.2 ⟨?_,?_,Cp hs _⟩
 ·show 0≤(if dK x then (dB c x).1.ax+1 else (dB c x).1.ax)∧(if dK x then (dB c x).1.ax+1 else (dB c x).1.ax)≤1000
  have:=h.epo;rw [d1]
  split
  ·rename_i hf;have:=this hf;omega
  ·omega
 ·show 0≤(dB c x).1.version+1∧(dB c x).1.version+1≤1000000000
  have:=h.ver;omega
section
variable {c d : bX}
end
def zM:fF:=⟨⟨#[]⟩,0,[],0,0,⟨#[]⟩,⟨#[]⟩,⟨#[]⟩⟩
def lp:gV:=⟨1,cE,⟨#[115]⟩,⟨#[]⟩,⟨#[]⟩,⟨#[]⟩,[],zM,0,false⟩
def ir:bX:=⟨0,1,⟨[⟨⟨#[115]⟩,cE⟩],[]⟩,⟨[cE],[]⟩,[]⟩
theorem EH:Cj jP.ai cE cE=true:=by
 rw [QN,qY,qV]
 decide +kernel
theorem vI {c:bX} (h:c.af=[]):cH c=[]:=by
 unfold cH;rw [h]
 split<;>rfl
theorem VO:gv lp=true:=by decide +kernel
theorem Cz:bw jP.ah=true:=by decide +kernel
theorem QO:dX jP lp=(ir,0):=by
 have h1:dW jP lp=0:=by
  unfold dW
  rw [if_neg (by rw [sX];decide),if_neg (by rw [VO];decide),if_neg (by decide +kernel),if_neg (by decide +kernel),if_neg (by decide +kernel),if_neg (by
   unfold gw
   rw [if_neg (by decide),if_neg (by decide),if_neg (by decide),show lp.aP=cE from rfl,EH];decide)]
 have h2:dB jP lp=(⟨0,0,ir.ah,⟨[cE],[]⟩,[]⟩,0):=by
  rw [nh (by decide)]
  have:dS jP lp=(ir.ah,0):=by
   unfold dS;rw [if_pos (by decide),iO Cz];unfold dG;rw [show (!bA lp.ac || !bA lp.aP)=false by decide +kernel,show cy jP.ah.aa lp.ac = -1 by decide +kernel,show em jH jP.ah.aa ⟨lp.ac,lp.aP⟩=0 by decide +kernel];rfl
  rw [this];rfl
 unfold dX;rw [h1,h2,if_neg (by decide),if_neg (by decide),if_neg (by decide +kernel)];unfold l9;rw [vI rfl,show dK lp=false by decide +kernel];rfl
theorem oN:dh ir=true:=by
 have h:(dX jP lp).2=0:=by rw [QO]
 have d:=zL h;have:=d.Ju;have e:=d.is;rw [QO] at e;rw [show ir=l9 (dB jP lp).1 (dK lp) from congrArg Prod.fst e];exact this
def oO:gV:=⟨2,cE,⟨#[115]⟩,⟨#[]⟩,⟨#[]⟩,⟨#[]⟩,[],zM,0,false⟩
def oP:bX:=⟨1,2,⟨[],[]⟩,⟨[cE],[]⟩,[]⟩
theorem VP:gv oO=true:=by decide +kernel
theorem QP:dX ir oO=(oP,0):=by
 have h1:dW ir oO=0:=by
  unfold dW
  rw [if_neg (by rw [oN];decide),if_neg (by rw [VP];decide),if_neg (by decide +kernel),if_neg (by decide +kernel),if_neg (by decide +kernel),if_neg (by
   unfold gw
   rw [if_pos (by decide),show oO.aP=cE from rfl,show ir.ai=jP.ai from rfl,EH];decide)]
 have h2:dB ir oO=(⟨0,1,⟨[],[]⟩,⟨[cE],[]⟩,[]⟩,0):=by
  rw [nh (by decide)]
  have:dS ir oO=(⟨[],[]⟩,0):=by
   unfold dS;rw [if_neg (by decide),if_pos (by decide),iO (by decide +kernel)];unfold cS;rw [show cy ir.ah.aa oO.ac=0 by decide +kernel,show within ir.ah.tables oO.ac=0 by decide +kernel];rfl
  rw [this];rfl
 unfold dX;rw [h1,h2,if_neg (by decide),if_neg (by decide),if_neg (by decide +kernel)];unfold l9;rw [vI rfl,show dK oO=true by decide +kernel];rfl
theorem tF:dh oP=true:=by
 have h:(dX ir oO).2=0:=by rw [QP]
 have d:=zL h;have:=d.Ju;have e:=d.is;rw [QP] at e;rw [show oP=l9 (dB ir oO).1 (dK oO) from congrArg Prod.fst e];exact this
def mA:gD:=⟨ir,[⟨1,1,0,0,1⟩],[],0⟩
def mC:gD:=⟨ir,[⟨1,1,0,0,1⟩],[⟨1,11,1,0⟩],1⟩
def mD:gD:=⟨oP,[⟨1,2,0,1,2⟩],[⟨1,11,1,0⟩],1⟩
def mK:gD:=⟨oP,[⟨1,2,0,1,2⟩],[],1⟩
def Mx:gD:=⟨sN,[],[],0⟩
theorem zN:fB mA=true:=by unfold fB;rw [show mA.cat=ir from rfl,oN];rfl
theorem Jv:fB mC=true:=by unfold fB;rw [show mC.cat=ir from rfl,oN];rfl
theorem tG:fB mD=true:=by unfold fB;rw [show mD.cat=oP from rfl,tF];rfl
theorem Jw:fB mK=true:=by unfold fB;rw [show mK.cat=oP from rfl,tF];rfl
theorem xv:qM cE:=by unfold qM;decide +kernel
theorem okS:qM ⟨#[115]⟩:=by unfold qM;decide +kernel
theorem kt {α:Type} (ok:α→Prop):uk ok ([]:List α):=⟨by simp,fun x hx=>by simp at hx⟩
theorem pO {α:Type} {ok:α→Prop} {x:α} (h:ok x):uk ok [x]:=⟨by simp,fun y hy=>by simp at hy;exact hy▸h⟩
theorem Jx:yv ir:=⟨⟨by decide,by decide⟩,⟨by decide,by decide⟩,pO ⟨okS,xv⟩,kt _,pO xv,kt _,kt _⟩
theorem QQ:yv oP:=⟨⟨by decide,by decide⟩,⟨by decide,by decide⟩,kt _,kt _,pO xv,kt _,kt _⟩
theorem VQ:nZ ux:=⟨⟨⟨by decide,by decide⟩,⟨by decide,by decide⟩,kt _,kt _,pO xv,kt _,kt _⟩,kt _,kt _,⟨by decide,by decide⟩⟩
theorem okA:nZ mA:=⟨Jx,pO ⟨⟨by decide,by decide⟩,⟨by decide,by decide⟩,⟨by decide,by decide⟩,⟨by decide,by decide⟩,⟨by decide,by decide⟩⟩,kt _,⟨by decide,by decide⟩⟩
theorem okC:nZ mC:=⟨Jx,pO ⟨⟨by decide,by decide⟩,⟨by decide,by decide⟩,⟨by decide,by decide⟩,⟨by decide,by decide⟩,⟨by decide,by decide⟩⟩,pO ⟨⟨by decide,by decide⟩,⟨by decide,by decide⟩,⟨by decide,by decide⟩,⟨by decide,by decide⟩⟩,⟨by decide,by decide⟩⟩
theorem okD:nZ mD:=⟨QQ,pO ⟨⟨by decide,by decide⟩,⟨by decide,by decide⟩,⟨by decide,by decide⟩,⟨by decide,by decide⟩,⟨by decide,by decide⟩⟩,pO ⟨⟨by decide,by decide⟩,⟨by decide,by decide⟩,⟨by decide,by decide⟩,⟨by decide,by decide⟩⟩,⟨by decide,by decide⟩⟩
theorem QS:(jq ux).length≤90000000:=by decide +kernel
theorem VR:(jq mA).length≤90000000:=by decide +kernel
theorem Zz:(jq mC).length≤90000000:=by decide +kernel
theorem VS:(jq mD).length≤90000000:=by decide +kernel
def My (o:vk) (oc:List Value):Prop:=oc=[.int .i64 o.kind,.int .i64 o.aD,.int .i64 o.number,.int .i64 o.cmd.kind,.string o.cmd.aP,.string o.cmd.ac,.string o.cmd.table,.string o.cmd.name,.string o.cmd.role,.slice o.cmd.A o.cmd.n o.cmd.c,.string o.cmd.cU,.int .i64 o.cmd.cN,.slice o.cmd.A2 o.cmd.n2 o.cmd.c2,.int .i64 o.cmd.low,.int .i64 o.cmd.high,.string o.cmd.rs,.string o.cmd.rt,.string o.cmd.rk,.int .i64 o.cmd.right,.bool o.cmd.opt,.int .i64 o.node,.int .i64 o.ask,.int .i64 o.seq]
def vJ (B:Nat) (w:World) (r:gD × Int) (e:Ending) (w':World):Prop:=ag w w'∧∃ cs,e=.returned (.tuple #[.agg cs.toArray,.int .i64 r.2])∧eD B w' cs r.1
theorem Ph (w:World):ed w dN Mx:=(show iX w Mx none 0 none 0 none 0 none 0 none 0 none 0 none 0 from ⟨⟨df,df,df,df,df⟩,df,df⟩).w
theorem VT (B:Nat) (w:World):eD B w dN Mx:=eD.of (S:=fun _=>False) (fun _ e=>e.elim) fun V _=>Ph V
theorem My.len {o:vk} {oc:List Value} (h:My o oc):oc.length=23:=by rw [h];rfl
theorem jh {w:World} {p:Nat} {cs:List Value} (r:au w p cs) (h:cs.length=10):(lW ⟨p,0,none⟩).run Tryz.prog w=.ok (.agg cs.toArray) w:=fZ (T:=36) Tryz.underlying36 (by kernel_rfl) r h
theorem CE {w:World} {p:Nat} {cs:List Value} (r:au w p cs) (h:cs.length=23):(Jy ⟨p,0,none⟩).run Tryz.prog w=.ok (.agg cs.toArray) w:=fZ (T:=60) Tryz.underlying60 (by kernel_rfl) r h
def ZA (k:Int):FuncId:=if k=1 then 33 else if k=2 then 34 else if k=3 then 35 else 36
theorem qu (m:gD) (cs:List Value) (o:vk) (oc:List Value) (w:World) (r:gD × Int) (H:ed w cs m) (HO:My o oc) (hm:fB m=true) (ok:nZ m) (hl:(jq m).length≤90000000) (sm:FP o.cmd) (BP:xk o=true)
  (HB:∀ V iv B,ag w V→B≤V.heap.size→eD B V iv m→Calls Tryz.prog (ZA o.kind) #[.agg iv.toArray,.agg oc.toArray] V (vJ B V r)) :
  Calls Tryz.prog 11 #[.agg cs.toArray,.agg oc.toArray] w (vJ w.heap.size w r):=by
 obtain ⟨W,hW⟩:∃ W,W=((w.alloc (.cells cs.toArray 36)).alloc (.cells oc.toArray 60)).alloc (.cells #[.int .i64 0,.int .i64 0,.slice none 0 0,.slice none 0 0,.slice none 0 0,.slice none 0 0,.slice none 0 0,.slice none 0 0,.slice none 0 0,.int .i64 0] 36):=⟨_,rfl⟩
 have aW:ag w W:=by rw [hW];exact (((ag.refl w).alloc _).alloc _).alloc _
 have zW:W.heap.size=w.heap.size+3:=by rw [hW];simp
 have r0:au W w.heap.size cs:=by rw [hW];exact au.up (au.up (bj (ag.refl _) (by simp)))
 have r1:au W (w.heap.size+1) oc:=by rw [hW];exact au.up (bj (ag.refl _) (by simp))
 have r2:au W (w.heap.size+1+1) dN:=by rw [hW];exact bj (ag.refl _) (by simp)
 have HA:=gH aW;have HZ:=gH zW;have HR:=gH (And.intro r0 (And.intro r1 r2));have HM:=gH H;have HL:=gH HO.len;have l0:=jh r0 H.len
 have C1:=gH (show Calls Tryz.prog 9 #[.agg cs.toArray] W fun e w'=>e=.returned (.int .i64 0)∧ag W w' from by
  obtain ⟨As,c1,At,c2,An,c3,Am,c4,Ag,c5,Ad,cd,Al,cl,rfl,h⟩:=(H.aH aW).at
  have:=I3 m As c1 At c2 An c3 Am c4 Ag c5 Ad cd Al cl W h
  rwa [if_pos hm] at this)
 have C2:=gH (show ∀ V,Calls Tryz.prog 31 #[.agg oc.toArray] V fun e w'=>e=.returned (.bool true)∧ag V w' from fun V=>by
  have:=Zl o sm V;rw [BP] at this;rw [HO]
  exact this)
 have C3:=gH (show ∀ V,ag W V→Calls Tryz.prog 32 #[.agg cs.toArray] V (Vy V m) from fun V a=>Zk m cs V (H.aH (aW.trans a)) ok hl);have HY:=gH (show ∀ V,au V (w.heap.size+1) oc→V.cell? ⟨w.heap.size+1,0,none⟩=some (.int .i64 o.kind) from fun V r=>r.cell (by rw [HO];rfl))
 have hk:o.kind=1∨o.kind=2∨o.kind=3∨o.kind=4:=by
  unfold xk at BP;by_cases h1:o.kind=1
  ·exact .inl h1
  by_cases h2:o.kind=2
  ·exact .inr (.inl h2)
  by_cases h3:o.kind=3
  ·exact .inr (.inr (.inl h3))
  by_cases h4:o.kind=4
  ·exact .inr (.inr (.inr h4))
  rw [if_neg h1,if_neg h2,if_neg h3,if_neg h4] at BP
  cases BP
 clear aW zW r0 r1 r2 ok hl sm hm BP H HO;obtain ⟨k,nV⟩:∃ k,o.kind=k:=⟨_,rfl⟩;rw [nV] at hk HB HY;clear nV
 rcases hk with rfl | rfl | rfl | rfl
 focus
  have HB:=gH (show ∀ V iv B,ag w V→B≤V.heap.size→eD B V iv m→Calls Tryz.prog 33 #[.agg iv.toArray,.agg oc.toArray] V (vJ B V r) from HB)
 rotate_left
 focus
  have HB:=gH (show ∀ V iv B,ag w V→B≤V.heap.size→eD B V iv m→Calls Tryz.prog 34 #[.agg iv.toArray,.agg oc.toArray] V (vJ B V r) from HB)
 rotate_left
 focus
  have HB:=gH (show ∀ V iv B,ag w V→B≤V.heap.size→eD B V iv m→Calls Tryz.prog 35 #[.agg iv.toArray,.agg oc.toArray] V (vJ B V r) from HB)
 rotate_left
 focus
  have HB:=gH (show ∀ V iv B,ag w V→B≤V.heap.size→eD B V iv m→Calls Tryz.prog 36 #[.agg iv.toArray,.agg oc.toArray] V (vJ B V r) from HB)
 rotate_left
 all_goals
  go_in
  go_upto_region 1 with fail
  rw [← hW];clear hW;go_wp2_with fail;refine C1.out.mono ?_;rintro e w1 ⟨rfl,a1⟩;have R1:=gH (HR.out.2.1.aH a1);have l1:=CE R1.out HL.out;have A1:=gH a1;clear a1 l0;go_wp2_with fail;refine (C2.out w1).mono ?_;rintro e w2 ⟨rfl,a2⟩;have l2:=jh (HR.out.1.aH (A1.out.trans a2)) HM.out.len;have A2:=gH (A1.out.trans a2);clear a2 l1;go_wp2_with fail;refine (C3.out w2 A2.out).mono ?_;rintro e w3 ⟨a3,iv,rfl,m3⟩;have a3:=A2.out.trans a3;obtain ⟨s1,r3,s2,kb⟩:=jg (HR.out.1.aH a3) HM.out.len m3.w;have hz:=HZ.out;have kW:Kb (fun g=>g=w.heap.size) W (w3.setCells w.heap.size 0 iv):=(Kb.bl a3).trans kb;have r4:=kW.row HR.out.2.1 (by omega);have r5:=kW.row HR.out.2.2 (by omega);have l3:=CE r4 HL.out;have y0:=HY.out _ r4
  have aF:=kW.aN HA.out fun g hg e=>by have e:g=_:=e;omega
  have aF2:=kW.size;have CB:=gH (HB.out _ iv W.heap.size aF aF2 ((m3.down A2.out.size).kb kb fun j e=>.inl (by have e:j=_:=e;omega)));have R5:=gH r5;have AF:=gH aF;clear a3 m3 r3 kb kW r4 r5 aF aF2 l2;go_wp2_with fail;refine CB.out.mono ?_;rintro e w4 ⟨a4,VU,rfl,m4⟩;obtain ⟨s3,r6,s4,kb⟩:=jg (R5.out.aH a4) rfl m4.w;have HE:=gH (show ag w ((w4.setCells (w.heap.size+1+1) 0 VU))∧eD w.heap.size (w4.setCells (w.heap.size+1+1) 0 VU) VU r.1 from ⟨kb.aN (AF.out.trans a4) fun g hg e=>by have e:g=_:=e;omega,(m4.kb kb fun j e=>.inl (by have e:j=_:=e;have:=HZ.out;omega)).down (by have:=HZ.out;omega)⟩);have S4:=gH s4;clear a4 m4 r6 kb s4;go_wp2;refine bodyPost_ret (results_cell_tmp (v:=.agg VU.toArray) rfl _ rfl S4.out) rfl ?_;exact ⟨HE.out.1,VU,rfl,HE.out.2⟩
theorem QT (A:Option Addr) (cap:Nat) (l:List iw) (g:FuncId) (ay:Array Value) (p:iw→Bool) (w:World) (h:aA w 5 fQ A cap l) (dc:∀ (args:Array Value) (w:World),(callFunc g args).run Tryz.prog w=.ok (.enter g args) w)
  (hp:∀ w',ag w w'→∀ i (hi:i < l.length),Calls Tryz.prog g (#[.agg #[.int .i64 l[i].aD,.int .i64 l[i].number,.int .i64 l[i].code,.int .i64 l[i].fence,.int .i64 l[i].version]]++ay) w' fun e w''=>e=.returned (.bool (p l[i]))∧ag w' w'') :
  Calls Tryz.prog 37 #[.slice A l.length cap,.func (.func g) #[] ay] w fun e w'=>e=.returned (.int .i64 (bD p l))∧ag w w':=by
 have hlen:=h.len;have HC:=gH hp;clear hp
 go_in
 go_wp2_with fail
 go_loopw [8] (fun i wr=>∃ k:Nat,k≤l.length∧i=.int .i64 k∧ag w wr∧∀ j,j < k→∀ (hj:j < l.length),p l[j]=false) (fun i _=>l.length - (intOf i).toNat)
 case atStart=>exact ⟨0,Nat.zero_le _,rfl,ag.refl _,fun j hj=>absurd hj (Nat.not_lt_zero j)⟩
 case round =>
  obtain ⟨k,hk,rfl,ha,hp⟩:=hrel;have HA:=gH ha;have HP:=gH hp;clear hp;by_cases hlt:k < l.length
  ·have cM:=jF ha h
   clear ha;obtain ⟨b,off,rfl,hb,c0,c1,c2,c3,c4⟩:=mL cM hlt;have HK:=gH (HC.out wr HA.out k hlt);clear cM;obtain ⟨q,hq⟩:∃ q,p l[k]=q:=⟨_,rfl⟩;rw [hq] at HK;have HQ:=gH hq;clear hq
   cases q
   ·go_wp2_with fail
    refine HK.out.mono ?_;rintro e w1 ⟨rfl,a1⟩;have cT:=gH (HA.out.trans a1);clear a1;go_wp2
    go_roundw
    case rel=>exact ⟨k+1,by omega,by go_num,cT.out,bC (p:=fun j=>∀ (hj:j < l.length),p l[j]=false) HP.out (fun _=>HQ.out)⟩
    case measure=>simp [intOf];omega
   ·go_wp2_with fail
    refine HK.out.mono ?_;rintro e w1 ⟨rfl,a1⟩;have cT:=gH (HA.out.trans a1);clear a1;go_wp2;go_ret;exact ⟨by rw [dV p l k hlt HQ.out (fun i hi=>HP.out i hi (by omega))];rfl,cT.out⟩
  ·clear ha
   go_wp2;go_ret;exact ⟨by rw [dU p l (fun i hi=>HP.out i (by omega) hi)];rfl,HA.out⟩
theorem Jz (A:Option Addr) (cap:Nat) (l:List gS) (g:FuncId) (ay:Array Value) (p:gS→Bool) (w:World) (h:aA w 4 fY A cap l) (dc:∀ (args:Array Value) (w:World),(callFunc g args).run Tryz.prog w=.ok (.enter g args) w)
  (hp:∀ w',ag w w'→∀ i (hi:i < l.length),Calls Tryz.prog g (#[.agg #[.int .i64 l[i].seq,.int .i64 l[i].node,.int .i64 l[i].ask,.int .i64 l[i].ax]]++ay) w' fun e w''=>e=.returned (.bool (p l[i]))∧ag w' w'') :
  Calls Tryz.prog 39 #[.slice A l.length cap,.func (.func g) #[] ay] w fun e w'=>e=.returned (.int .i64 (bD p l))∧ag w w':=by
 have hlen:=h.len;have HC:=gH hp;clear hp
 go_in
 go_wp2_with fail
 go_loopw [8] (fun i wr=>∃ k:Nat,k≤l.length∧i=.int .i64 k∧ag w wr∧∀ j,j < k→∀ (hj:j < l.length),p l[j]=false) (fun i _=>l.length - (intOf i).toNat)
 case atStart=>exact ⟨0,Nat.zero_le _,rfl,ag.refl _,fun j hj=>absurd hj (Nat.not_lt_zero j)⟩
 case round =>
  obtain ⟨k,hk,rfl,ha,hp⟩:=hrel;have HA:=gH ha;have HP:=gH hp;clear hp;by_cases hlt:k < l.length
  ·have cM:=jG ha h
   clear ha;obtain ⟨b,off,rfl,hb,c0,c1,c2,c3⟩:=oB cM hlt;have HK:=gH (HC.out wr HA.out k hlt);clear cM;obtain ⟨q,hq⟩:∃ q,p l[k]=q:=⟨_,rfl⟩;rw [hq] at HK;have HQ:=gH hq;clear hq
   cases q
   ·go_wp2_with fail
    refine HK.out.mono ?_;rintro e w1 ⟨rfl,a1⟩;have cT:=gH (HA.out.trans a1);clear a1;go_wp2
    go_roundw
    case rel=>exact ⟨k+1,by omega,by go_num,cT.out,bC (p:=fun j=>∀ (hj:j < l.length),p l[j]=false) HP.out (fun _=>HQ.out)⟩
    case measure=>simp [intOf];omega
   ·go_wp2_with fail
    refine HK.out.mono ?_;rintro e w1 ⟨rfl,a1⟩;have cT:=gH (HA.out.trans a1);clear a1;go_wp2;go_ret;exact ⟨by rw [dV p l k hlt HQ.out (fun i hi=>HP.out i hi (by omega))];rfl,cT.out⟩
  ·clear ha
   go_wp2;go_ret;exact ⟨by rw [dU p l (fun i hi=>HP.out i (by omega) hi)];rfl,HA.out⟩
theorem EI (A:Option Addr) (cap:Nat) (l:List gS) (g:FuncId) (ay:Array Value) (p:gS→Bool) (w:World) (h:aA w 4 fY A cap l) (dc:∀ (args:Array Value) (w:World),(callFunc g args).run Tryz.prog w=.ok (.enter g args) w)
  (hp:∀ w',ag w w'→∀ i (hi:i < l.length),Calls Tryz.prog g (#[.agg #[.int .i64 l[i].seq,.int .i64 l[i].node,.int .i64 l[i].ask,.int .i64 l[i].ax]]++ay) w' fun e w''=>e=.returned (.bool (p l[i]))∧ag w' w'') :
  Calls Tryz.prog 14 #[.slice A l.length cap,.func (.func g) #[] ay] w fun e w'=>e=.returned (.bool (l.any p))∧ag w w':=by
 have C:=gH (Jz A cap l g ay p w h dc hp);have HE:=gH (iE p l);obtain ⟨i,hi⟩:∃ i,bD p l=i:=⟨_,rfl⟩;rw [hi] at C HE;clear hi h hp
 go_in
 go_wp2_with fail;refine C.out.mono ?_;rintro e w1 ⟨rfl,a1⟩;have HA:=gH a1;clear a1;go_wp2;go_ret;exact ⟨by rw [← HE.out];rfl,HA.out⟩
theorem Mz (x:iw) (c:Int) (b:Nat) (w:World) (hz:b < w.heap.size) (hc:w.cell? ⟨b,0,none⟩=some (.int .i64 c)) :
  Calls Tryz.prog 38 (#[.agg #[.int .i64 x.aD,.int .i64 x.number,.int .i64 x.code,.int .i64 x.fence,.int .i64 x.version]]++#[.pointer (some ⟨b,0,none⟩)]) w fun e w'=>e=.returned (.bool (x.aD==c))∧ag w w':=by
 have hz1:b < w.heap.size+1:=by omega
 show Calls _ _ #[.agg #[.int .i64 x.aD,.int .i64 x.number,.int .i64 x.code,.int .i64 x.fence,.int .i64 x.version],.pointer (some ⟨b,0,none⟩)] w _
 go_in
 go_wp2;go_ret;refine ⟨?_,by first | exact (ag.refl w).alloc _ | exact ((ag.refl w).alloc _).drew⟩;refine Eq.trans (b:=.returned (.bool _)) rfl (cP (bZ ?_));simp
theorem MA (x:gS) (c:Int) (b:Nat) (w:World) (hz:b < w.heap.size) (hc:w.cell? ⟨b,3,none⟩=some (.int .i64 c)) :
  Calls Tryz.prog 15 (#[.agg #[.int .i64 x.seq,.int .i64 x.node,.int .i64 x.ask,.int .i64 x.ax]]++#[.pointer (some ⟨b,0,none⟩)]) w fun e w'=>e=.returned (.bool (decide (x.ax < c)))∧ag w w':=by
 have hz1:b < w.heap.size+1:=by omega
 show Calls _ _ #[.agg #[.int .i64 x.seq,.int .i64 x.node,.int .i64 x.ask,.int .i64 x.ax],.pointer (some ⟨b,0,none⟩)] w _
 go_in
 go_wp2;go_ret;refine ⟨?_,by first | exact (ag.refl w).alloc _ | exact ((ag.refl w).alloc _).drew⟩;refine Eq.trans (b:=.returned (.bool _)) rfl (cP (bZ ?_));simp
theorem QU (x:gS) (c:Int) (b:Nat) (w:World) (hz:b < w.heap.size) (hc:w.cell? ⟨b,22,none⟩=some (.int .i64 c)) :
  Calls Tryz.prog 57 (#[.agg #[.int .i64 x.seq,.int .i64 x.node,.int .i64 x.ask,.int .i64 x.ax]]++#[.pointer (some ⟨b,0,none⟩)]) w fun e w'=>e=.returned (.bool (x.seq==c))∧ag w w':=by
 have hz1:b < w.heap.size+1:=by omega
 show Calls _ _ #[.agg #[.int .i64 x.seq,.int .i64 x.node,.int .i64 x.ask,.int .i64 x.ax],.pointer (some ⟨b,0,none⟩)] w _
 go_in
 go_wp2;go_ret;refine ⟨?_,by first | exact (ag.refl w).alloc _ | exact ((ag.refl w).alloc _).drew⟩;refine Eq.trans (b:=.returned (.bool _)) rfl (cP (bZ ?_));simp
theorem vK:(Tryz.prog.info? 55).map (fun i=>(i.zero,i.size,i.bytes))=some (some (.agg #[.int .i64 0,.int .i64 0,.int .i64 0,.int .i64 0]),4,32):=by kernel_rfl
theorem tH (A:Option Addr) (cap:Nat) (l:List gS) (w0 w:World) (ha:ag w0 w) (h:aA w0 4 fY A cap l) (hb:l.length≤1000000) :
  Calls Tryz.prog 55 #[.slice A l.length cap] w (ni 55 4 fY w0 w l):=by
 obtain ⟨i0,hi,hz0,hz1,hz2⟩:=info_parts vK
 have QV:∀ (w:World) (a:Option Addr) (n c n' c':Nat),(binOp .eql 34 (.slice a n c) (.slice none n' c')).run Tryz.prog w=.ok (.bool a.isNone) w:=fun w a n c n' c'=>Lib.run_eql_slice_nil w _ _ a n c n' c' Tryz.underlying34
 cases A with
 | none =>
  have hl0:l=[]:=by
   cases l with
   | nil=>rfl
   | cons x l=>obtain ⟨b,off,cs,hA,_⟩:=h.2.2 0 (by simp);cases hA
  subst hl0
  go_in
  go_wp2;go_ret;exact ⟨_,[],rfl,ag.refl _,cO _ _ _ _,bV.nil⟩
 | some ad =>
  have HC:∃ bH,bV w0 4 fY bH l∧∀ p u,bH.flatten[p]? = some u→w.cell? (ad.add p)=some u:=by
   by_cases h0:0 < l.length
   ·obtain ⟨b,off,bH,hA,hb',hch,hc⟩:=h.bH h0 (by decide)
    simp only [Option.some.injEq] at hA;subst hA;refine ⟨bH,hch,fun p u hp=>?_⟩
    have hlt:p < l.length*4:=by rw [← hch.len];exact (List.getElem?_eq_some_iff.1 hp).1
    rw [lA];exact ha.cell_kept ((hc p hlt).trans hp)
   ·have hl0:l=[]:=List.eq_nil_of_length_eq_zero (by omega)
    subst hl0;exact ⟨[],bV.nil,fun p u hp=>by simp at hp⟩
  obtain ⟨bH,hch,hcell⟩:=HC;have H1:=gH hcell
  have H2:Hid (∀ u∈bH.flatten,u.oneCell'=true):=gH (by
   intro u hu;obtain ⟨c,hc,hu⟩:=List.mem_flatten.1 hu;obtain ⟨i,hi,rfl⟩:=List.getElem_of_mem hc;have h3:=(hch.2 i hi (by rw [← hch.1];exact hi)).2;have hcs:=h3;unfold fY at hcs;unfold eV at hcs;rw [hcs] at hu;simp only [List.mem_cons,List.not_mem_nil,or_false] at hu
   rcases hu with rfl | rfl | rfl | rfl<;>simp [Value.oneCell'])
  have H3:=gH hch;have HI:=gH hi;have kU:=gH hz0;have ki:=gH hz1;have kP:=gH hz2;clear hcell hch hi hz0 hz1 hz2 h ha
  go_in
  go_wp2_with (at_builtin;refine wpList_append_own _ rfl _ _ 34 rfl w.heap.size 55 i0 (.agg #[.int .i64 0,.int .i64 0,.int .i64 0,.int .i64 0]) 4 32 Tryz.underlying34 HI.out kU.out ki.out kP.out rfl (by decide) _ _ _ rfl (World.ownsRow_made w #[] 0 (Nat.le_refl _) (Nat.zero_le _) rfl) ad l.length cap bH.flatten rfl ?CF ?CJ ?CM ?CU ?CV ?CX ?_)
  case CF=>exact H3.out.len
  case CJ =>
   intro j u hj;exact Lib.cell?_alloc_some _ (H1.out j u hj)
  case CM=>exact H2.out
  case CU=>unfold maxLen;omega
  case CV=>omega
  case CX=>simp
  intro v' w1 hown hgrow hnil;have HO:=gH hown;have HA:=gH (show ag w w1 from ((Below.refl _ w).alloc (Nat.le_refl _) _).grown hgrow (by simp) (by intro k hk;simp [Value.ownBlock] at hk;omega));clear hown hgrow hnil;go_wp2;go_ret;refine ⟨v',bH,rfl,HA.out,?_,H3.out⟩
  simpa using HO.out
theorem vL:(Tryz.prog.info? 48).map (fun i=>(i.zero,i.size,i.bytes))=some (some (.agg #[.int .i64 0,.int .i64 0,.int .i64 0,.int .i64 0,.int .i64 0]),5,40):=by kernel_rfl
theorem tI (A:Option Addr) (cap:Nat) (l:List iw) (w0 w:World) (ha:ag w0 w) (h:aA w0 5 fQ A cap l) (hb:l.length≤1000000) :
  Calls Tryz.prog 80 #[.slice A l.length cap] w (ni 48 5 fQ w0 w l):=by
 obtain ⟨i0,hi,hz0,hz1,hz2⟩:=info_parts vL
 have QV:∀ (w:World) (a:Option Addr) (n c n' c':Nat),(binOp .eql 33 (.slice a n c) (.slice none n' c')).run Tryz.prog w=.ok (.bool a.isNone) w:=fun w a n c n' c'=>Lib.run_eql_slice_nil w _ _ a n c n' c' Tryz.underlying33
 cases A with
 | none =>
  have hl0:l=[]:=by
   cases l with
   | nil=>rfl
   | cons x l=>obtain ⟨b,off,cs,hA,_⟩:=h.2.2 0 (by simp);cases hA
  subst hl0
  go_in
  go_wp2;go_ret;exact ⟨_,[],rfl,ag.refl _,cO _ _ _ _,bV.nil⟩
 | some ad =>
  have HC:∃ bH,bV w0 5 fQ bH l∧∀ p u,bH.flatten[p]? = some u→w.cell? (ad.add p)=some u:=by
   by_cases h0:0 < l.length
   ·obtain ⟨b,off,bH,hA,hb',hch,hc⟩:=h.bH h0 (by decide)
    simp only [Option.some.injEq] at hA;subst hA;refine ⟨bH,hch,fun p u hp=>?_⟩
    have hlt:p < l.length*5:=by rw [← hch.len];exact (List.getElem?_eq_some_iff.1 hp).1
    rw [lA];exact ha.cell_kept ((hc p hlt).trans hp)
   ·have hl0:l=[]:=List.eq_nil_of_length_eq_zero (by omega)
    subst hl0;exact ⟨[],bV.nil,fun p u hp=>by simp at hp⟩
  obtain ⟨bH,hch,hcell⟩:=HC;have H1:=gH hcell
  have H2:Hid (∀ u∈bH.flatten,u.oneCell'=true):=gH (by
   intro u hu;obtain ⟨c,hc,hu⟩:=List.mem_flatten.1 hu;obtain ⟨i,hi,rfl⟩:=List.getElem_of_mem hc;have h3:=(hch.2 i hi (by rw [← hch.1];exact hi)).2;have hcs:=h3;unfold fQ at hcs;unfold cv at hcs;rw [hcs] at hu;simp only [List.mem_cons,List.not_mem_nil,or_false] at hu
   rcases hu with rfl | rfl | rfl | rfl | rfl<;>simp [Value.oneCell'])
  have H3:=gH hch;have HI:=gH hi;have kU:=gH hz0;have ki:=gH hz1;have kP:=gH hz2;clear hcell hch hi hz0 hz1 hz2 h ha
  go_in
  go_wp2_with (at_builtin;refine wpList_append_own _ rfl _ _ 33 rfl w.heap.size 48 i0 (.agg #[.int .i64 0,.int .i64 0,.int .i64 0,.int .i64 0,.int .i64 0]) 5 40 Tryz.underlying33 HI.out kU.out ki.out kP.out rfl (by decide) _ _ _ rfl (World.ownsRow_made w #[] 0 (Nat.le_refl _) (Nat.zero_le _) rfl) ad l.length cap bH.flatten rfl ?CF ?CJ ?CM ?CU ?CV ?CX ?_)
  case CF=>exact H3.out.len
  case CJ =>
   intro j u hj;exact Lib.cell?_alloc_some _ (H1.out j u hj)
  case CM=>exact H2.out
  case CU=>unfold maxLen;omega
  case CV=>omega
  case CX=>simp
  intro v' w1 hown hgrow hnil;have HO:=gH hown;have HA:=gH (show ag w w1 from ((Below.refl _ w).alloc (Nat.le_refl _) _).grown hgrow (by simp) (by intro k hk;simp [Value.ownBlock] at hk;omega));clear hown hgrow hnil;go_wp2;go_ret;refine ⟨v',bH,rfl,HA.out,?_,H3.out⟩
  simpa using HO.out
def MB (_:gS):Prop:=True
theorem QW {w:World} {p:Nat} {a b c d:Value} (R:au w p [a,b,c,d]):w.cell? ⟨p,0,none⟩=some a∧w.cell? ⟨p,1,none⟩=some b∧w.cell? ⟨p,2,none⟩=some c∧w.cell? ⟨p,3,none⟩=some d∧p < w.heap.size:=⟨R.cell (j:=0) rfl,R.cell (j:=1) rfl,R.cell (j:=2) rfl,R.cell (j:=3) rfl,R.1⟩
theorem JA {w wr:World} {B g cap n:Nat} {l:List gS} (h:eZ 55 4 eV MB w wr B g cap n l) (hs:Small (n*16)):aA wr 4 fY (some ⟨g,0,none⟩) cap l:=by
 have ho:=h.own;have hl:=h.len;subst hl;exact dC (h:=⟨some ⟨g,0,none⟩,l.length,cap⟩) eV ho (fun x hx=>⟨rfl,rfl⟩) hs
theorem F3 {l:List gS} {m:Nat} (hm:m < l.length) (x:gS):oQ (l.flatMap eV) (m*4) (eV x)=(l.set m x).flatMap eV:=by
 have hs:l.set m x=l.take m++x::l.drop (m+1):=by rw [List.set_eq_take_append_cons_drop,if_pos hm]
 have h0:l.flatMap eV=(l.take m).flatMap eV++eV l[m]++(l.drop (m+1)).flatMap eV:=by
  conv=>lhs;rw [← List.take_append_drop m l,List.drop_eq_getElem_cons hm]
  simp only [List.flatMap_append,List.flatMap_cons,List.append_assoc]
 have ht:((l.take m).flatMap eV).length=m*4:=by rw [cJ (size:=4) (fun _=>rfl),List.length_take,Nat.min_eq_left (by omega)]
 rw [h0,hs,← ht,JB _ (eV l[m]) _ (eV x) rfl];simp only [List.flatMap_append,List.flatMap_cons,List.append_assoc]
theorem F4 {w wr:World} {B g cap n m i:Nat} {l:List gS} (h:eZ 55 4 eV MB w wr B g cap n l) (hm:m < l.length) (hi:i < l.length):eZ 55 4 eV MB w ((((wr.setCell ⟨g,m*4,none⟩ (.int .i64 (l[i]).seq)).setCell ⟨g,m*4+1,none⟩ (.int .i64 (l[i]).node)).setCell ⟨g,m*4+2,none⟩ (.int .i64 (l[i]).ask)).setCell ⟨g,m*4+3,none⟩ (.int .i64 (l[i]).ax)) B g cap n (l.set m l[i]):=by
 refine ⟨?_,by rw [List.length_set];exact h.len,fun x hx=>?_,?_⟩
 ·have h1:=dJ (g:=g) rfl (eV l[i]) (m*4) h.own
  have e:=F3 hm l[i];rw [e] at h1;exact h1
 ·rcases List.mem_or_eq_of_mem_set hx with h1 | h1
  ·exact h.sm x h1
  ·subst h1;exact h.sm _ (List.getElem_mem hi)
 ·exact h.kb.trans ((((Kb.set _ _ _ _).trans (Kb.set _ _ _ _)).trans (Kb.set _ _ _ _)).trans (Kb.set _ _ _ _))
def CZ (l:List gS) (q:gS→Bool) (v:Value) (B:Nat) (w:World) (e:Ending) (w':World):Prop :=
 ∃ h:Hd,e=.returned h.v∧w'.ownsRow B 55 4 h.v (l.filter fun x=>!q x).length ((l.filter fun x=>!q x).flatMap eV)∧Kb (kR v) w w'∧∀ g∈h.blk,v.ownBlock=some g
structure mb (q:gS→Bool) (l l':List gS) (i j:Nat):Prop where
 len:l'.length=l.length
 kept:l'.take i=(l.take j).filter fun x=>!q x
 rest:l'.drop j=l.drop j
 ij:i < j
 jl:j≤l.length
theorem mb.start {q:gS→Bool} {l:List gS} {i:Nat} (hi:i < l.length) (hq:q l[i]=true) (hf:∀ k (hk:k < l.length),k < i→q l[k]=false):mb q l l i (i+1):=by
 refine ⟨rfl,?_,rfl,by omega,by omega⟩;rw [List.take_succ_eq_append_getElem hi,List.filter_append,gO q (l.take i) (fun k hk=>by rw [List.getElem_take];exact hf k (by rw [List.length_take] at hk;omega) (by rw [List.length_take] at hk;omega))];simp [hq]
theorem mb.get {q:gS→Bool} {l l':List gS} {i j:Nat} (h:mb q l l' i j) (hj:j < l.length):l'[j]'(by rw [h.len];exact hj)=l[j]:=by
 have h1:=congrArg (fun x=>x[0]?) h.rest;simp only [List.getElem?_drop,Nat.add_zero] at h1;rw [List.getElem?_eq_getElem (by rw [h.len];exact hj),List.getElem?_eq_getElem hj] at h1;exact Option.some.inj h1
theorem mb.skip {q:gS→Bool} {l l':List gS} {i j:Nat} (h:mb q l l' i j) (hj:j < l.length) (hq:q l[j]=true):mb q l l' i (j+1):=by
 refine ⟨h.len,?_,?_,by have:=h.ij;omega,by omega⟩
 ·rw [List.take_succ_eq_append_getElem hj,List.filter_append,← h.kept]
  simp [hq]
 ·have:=congrArg (List.drop 1) h.rest
  simpa [List.drop_drop] using this
theorem mb.keep {q:gS→Bool} {l l':List gS} {i j:Nat} (h:mb q l l' i j) (hj:j < l.length) (hq:q l[j]=false):mb q l (l'.set i l[j]) (i+1) (j+1):=by
 have pg:=h.ij;have hl:=h.len;refine ⟨by rw [List.length_set];exact h.len,?_,?_,by omega,by omega⟩
 ·rw [List.take_succ_eq_append_getElem hj,List.filter_append,← h.kept,List.take_succ_eq_append_getElem (by rw [List.length_set];omega),List.take_set_of_le (Nat.le_refl _)]
  simp [hq]
 ·rw [List.drop_set_of_lt (by omega)]
  have:=congrArg (List.drop 1) h.rest
  simpa [List.drop_drop] using this
theorem VV (v:Value) (l:List gS) (g:FuncId) (ay:Array Value) (q:gS→Bool) (B:Nat) (w:World) (ho:w.ownsRow B 55 4 v l.length (l.flatMap eV)) (hs:Small (l.length*16)) (iR:∀ A n c,v=.slice A n c→c≤9223372036854775807) (sm:∀ x∈l,MB x) (dc:∀ (args:Array Value) (w:World),(callFunc g args).run Tryz.prog w=.ok (.enter g args) w)
  (hq:∀ w',Kb (kR v) w w'→∀ x:gS,MB x→Calls Tryz.prog g (#[.agg #[.int .i64 x.seq,.int .i64 x.node,.int .i64 x.ask,.int .i64 x.ax]]++ay) w' fun e w''=>e=.returned (.bool (q x))∧ag w' w'') :
  Calls Tryz.prog 54 #[v,.func (.func g) #[] ay] w (CZ l q v B w):=by
 have hlen:l.length*16≤140737488351232:=hs;obtain ⟨hd,rfl,JC⟩:=sD ho;obtain ⟨A,n,cap⟩:=hd;have JC:n=l.length:=JC;subst JC
 show Calls Tryz.prog 54 #[.slice A l.length cap,.func (.func g) #[] ay] w (CZ l q (.slice A l.length cap) B w)
 have cM:aA w 4 fY A cap l:=dC (h:=⟨A,l.length,cap⟩) eV ho (fun x hx=>⟨rfl,rfl⟩) hs;obtain ⟨k,hk⟩:∃ k,bD q l=k:=⟨_,rfl⟩;have C:=gH (hk▸Jz A cap l g ay q w cM dc (fun w' a i hi=>hq w' (Kb.bl a) l[i] (sm _ (List.getElem_mem hi))));have QX:=bk q l;rw [hk] at QX;by_cases F5:k < 0
 ·have jd:k = -1:=by omega
  have HF:=gH (show (l.filter fun x=>!q x)=l from gO q l (zO q l (by rw [hk];exact F5)));subst jd;have HO:=gH ho;clear hk QX cM hq sm ho iR F5
  go_in
  go_wp2_with fail;refine C.out.mono ?_;rintro e w1 ⟨rfl,a1⟩;have HA:=gH a1;clear a1;go_wp2;go_ret;refine ⟨⟨A,l.length,cap⟩,rfl,?_,Kb.bl HA.out,fun g hg=>Hd.bu.1 hg⟩;rw [HF.out];exact cj HO.out HA.out
 obtain ⟨i,rfl⟩:∃ i:Nat,k=i:=⟨k.toNat,by omega⟩
 have PQ:i < l.length:=by omega
 have VW:=gN q l i PQ hk;have hst:=mb.start PQ VW (fun j hj Hi=>oT q l i hk j hj Hi);obtain ⟨g0,cap',hv,QH,uW,hr⟩:=cB ho (by omega)
 have hv:A=some ⟨g0,0,none⟩∧cap=cap':=by
  have:Value.slice A l.length cap=Value.slice (some ⟨g0,0,none⟩) l.length cap':=hv;simp only [Value.slice.injEq,true_and] at this;exact this
 obtain ⟨rfl,rfl⟩:=hv;have iR:=iR _ _ _ rfl;have hI:eZ 55 4 eV MB w w B g0 cap l.length l:=⟨ho,rfl,sm,Kb.refl _ _⟩
 have C9:∀ w1 w2:World,Kb (fun k=>k=g0) w1 w2→Kb (kR (.slice (some ⟨g0,0,none⟩) l.length cap)) w1 w2:=fun w1 w2 k=>k.mono fun g _ e=>by subst e;rfl
 have HQ:=gH (show ∀ w',Kb (fun k=>k=g0) w w'→_ from fun w' k=>hq w' (C9 _ _ k));have HI:=gH hI;have HST:=gH hst
 have ZB:((i:Int) == -1)=false:=by rw [beq_eq_false_iff_ne];omega
 clear hq hI ho hr sm hk QX hst cM F5 VW
 go_in
 go_wp2_with fail;refine C.out.mono ?_;rintro e w1 ⟨rfl,a1⟩;have HA:=gH a1;clear a1;go_wp2_with fail
 go_loopw [5,6] (fun u5 u6 wr=>∃ (m j:Nat) (l':List gS),u5=.int .i64 m∧u6=.int .i64 j∧mb q l l' m j∧eZ 55 4 eV MB w wr B g0 cap l.length l') (fun _ u6 _=>l.length - (intOf u6).toNat)
 case atStart=>exact ⟨i,i+1,l,rfl,by go_num,HST.out,HI.out.aH HA.out⟩
 case round =>
  obtain ⟨m,j,l',rfl,rfl,hd,hI⟩:=hrel;have HD:=gH hd;have HJ:=gH hI;have rS:=hI.len;have hmj:=hd.ij;have QY:=hd.jl;by_cases hlt:j < l.length
  ·have hj':j < l'.length:=by omega
   obtain ⟨b,off,zP,hb0,c0,c1,c2,c3⟩:=oB (JA hI hs) hj';simp only [Option.some.injEq,Addr.mk.injEq,and_true] at zP;obtain ⟨rfl,rfl⟩:=zP;have hg:=hd.get hlt;rw [hg] at c0 c1 c2 c3;obtain ⟨x,hx⟩:∃ x,l[j]=x:=⟨_,rfl⟩;rw [hx] at c0 c1 c2 c3;obtain ⟨r,hr⟩:∃ r,q x=r:=⟨_,rfl⟩;obtain ⟨V,hV⟩:∃ V,V=wr.alloc (.cells #[.int .i64 x.seq,.int .i64 x.node,.int .i64 x.ask,.int .i64 x.ax] 55):=⟨_,rfl⟩
   have aV:ag wr V:=by rw [hV];exact (ag.refl _).alloc _
   have RV:=gH (show au V wr.heap.size [.int .i64 x.seq,.int .i64 x.node,.int .i64 x.ask,.int .i64 x.ax] by rw [hV];exact aU (ag.refl _));have oq:=gH aV;have Cc:=gH (hr▸HQ.out V (hI.kb.trans (Kb.bl aV)) x trivial);have HX:=gH hx;have HR:=gH (show q l[j]=r by rw [hx];exact hr);clear hd hI hx hr hg aV;simp only [Nat.zero_add] at c0 c1 c2 c3
   cases r
   ·go_wp2_with fail
    rw [← hV];clear hV;refine Cc.out.mono ?_;rintro e w2 ⟨rfl,a2⟩;obtain ⟨F,hF⟩:∃ F,F=w2:=⟨_,rfl⟩;have JD:=gH (show eZ 55 4 eV MB w F B g0 cap l.length l' from hF▸HJ.out.aH (oq.out.trans a2));have RF:=gH (show au F wr.heap.size [.int .i64 x.seq,.int .i64 x.node,.int .i64 x.ask,.int .i64 x.ax] from hF▸RV.out.aH a2);subst hF;clear a2;obtain ⟨_,_,pj,_,_,kH⟩:=cB JD.out.own (by omega);simp only [Value.slice.injEq,true_and,Option.some.injEq,Addr.mk.injEq,and_true] at pj;obtain ⟨rfl,rfl⟩:=pj
    have iW:(l'.flatMap eV).length=l.length*4:=by rw [cJ (size:=4) (fun _=>rfl),rS]
    obtain ⟨u0,z0⟩:∃ u,F.cell? ⟨g0,m*4,none⟩=some u:=⟨_,by rw [kH.2.1 (m*4) (by rw [iW];omega),List.getElem?_eq_getElem (by rw [iW];omega)]⟩;have y0:F.frozen? ⟨g0,m*4,none⟩=false:=kH.2.2 (m*4) (by rw [iW];omega);obtain ⟨u1,z1⟩:∃ u,F.cell? ⟨g0,m*4+1,none⟩=some u:=⟨_,by rw [kH.2.1 (m*4+1) (by rw [iW];omega),List.getElem?_eq_getElem (by rw [iW];omega)]⟩;have y1:F.frozen? ⟨g0,m*4+1,none⟩=false:=kH.2.2 (m*4+1) (by rw [iW];omega);obtain ⟨u2,z2⟩:∃ u,F.cell? ⟨g0,m*4+2,none⟩=some u:=⟨_,by rw [kH.2.1 (m*4+2) (by rw [iW];omega),List.getElem?_eq_getElem (by rw [iW];omega)]⟩;have y2:F.frozen? ⟨g0,m*4+2,none⟩=false:=kH.2.2 (m*4+2) (by rw [iW];omega);obtain ⟨u3,z3⟩:∃ u,F.cell? ⟨g0,m*4+3,none⟩=some u:=⟨_,by rw [kH.2.1 (m*4+3) (by rw [iW];omega),List.getElem?_eq_getElem (by rw [iW];omega)]⟩;have y3:F.frozen? ⟨g0,m*4+3,none⟩=false:=kH.2.2 (m*4+3) (by rw [iW];omega);have zg:g0 < F.heap.size:=kH.1;obtain ⟨q0,q1,q2,q3,qz⟩:=QW RF.out;clear kH iW
    have Da:=gH (show eZ 55 4 eV MB w ((((F.setCell ⟨g0,m*4,none⟩ (.int .i64 x.seq)).setCell ⟨g0,m*4+1,none⟩ (.int .i64 x.node)).setCell ⟨g0,m*4+2,none⟩ (.int .i64 x.ask)).setCell ⟨g0,m*4+3,none⟩ (.int .i64 x.ax)) B g0 cap l.length (l'.set m l[j]) from by
     have:=F4 JD.out (m:=m) (i:=j) (by omega) hj';rw [HD.out.get hlt,HX.out] at this;rw [HX.out]
     exact this)
    have F6:=gH (HD.out.keep hlt HR.out)
    have F7:(m:Int) < (l.length:Int):=by omega
    go_wp2
    go_roundw
    case rel=>exact ⟨m+1,j+1,_,by go_num,by go_num,F6.out,Da.out⟩
    case measure=>simp [intOf];omega
   ·have F6:=gH (HD.out.skip hlt HR.out)
    go_wp2_with fail;rw [← hV];clear hV;refine Cc.out.mono ?_;rintro e w2 ⟨rfl,a2⟩;have ZC:=gH (HJ.out.aH (oq.out.trans a2));clear a2;go_wp2
    go_roundw
    case rel=>exact ⟨m,j+1,l',rfl,by go_num,F6.out,ZC.out⟩
    case measure=>simp [intOf];omega
  ·have QZ:j=l.length:=by omega
   have hcm:¬ cap=m:=by omega
   obtain ⟨_,_,pj,_,_,kH⟩:=cB hI.own (by omega);simp only [Value.slice.injEq,true_and,Option.some.injEq,Addr.mk.injEq,and_true] at pj;obtain ⟨rfl,rfl⟩:=pj
   have iW:(l'.flatMap eV).length=l.length*4:=by rw [cJ (size:=4) (fun _=>rfl),rS]
   have zQ:∀ w:World,(zeroValue 55).run Tryz.prog w=.ok (.agg #[.int .i64 0,.int .i64 0,.int .i64 0,.int .i64 0]) w:=fun w=>by kernel_rfl
   obtain ⟨n3,Bd⟩:∃ n3,l.length - m=n3:=⟨_,rfl⟩
   have pc:∀ ty,(Builtin.clear_ #[34] ty #[.slice (some ⟨g0,m*4,none⟩) n3 (cap - m)]).run Tryz.prog wr=.ok (.tuple #[]) (wr.setCells g0 (m*4) (Builtin.zeroCells (.agg #[.int .i64 0,.int .i64 0,.int .i64 0,.int .i64 0]:Value).cells n3).toList):=fun ty=>by
    refine ku wr _ _ ty _ Tryz.underlying34 zQ (by intro u hu;have hu:u∈([.int .i64 0,.int .i64 0,.int .i64 0,.int .i64 0]:List Value):=hu;simp only [List.mem_cons,List.not_mem_nil,or_false] at hu;rcases hu with rfl | rfl | rfl | rfl<;>rfl) g0 (m*4) (cap - m) n3 (by omega) (fun j hj=>?_) (fun j hj=>?_)
    ·have hj':j < n3*4:=hj
     have hl:m*4+j < (l'.flatMap eV).length:=by rw [iW];omega
     rw [kH.2.1 _ hl,List.getElem?_eq_getElem hl];rfl
    ·have hj':j < n3*4:=hj
     exact kH.2.2 _ (by rw [iW];omega)
   obtain ⟨Z,hZ⟩:∃ Z,Z=wr.setCells g0 (m*4) (Builtin.zeroCells (.agg #[.int .i64 0,.int .i64 0,.int .i64 0,.int .i64 0]:Value).cells n3).toList:=⟨_,rfl⟩;have HZ:=gH (show Kb (fun k=>k=g0) w Z from hZ▸hI.kb.trans (d9 g0 _ _ _))
   have HP:=gH (show CZ l q (.slice (some ⟨g0,0,none⟩) l.length cap) B w (.returned (.slice (some ⟨g0,0,none⟩) m cap)) Z from by
    have hm:m=(l.filter fun x=>!q x).length:=by
     have:=congrArg List.length hd.kept;rw [List.length_take,QZ,List.take_length] at this;omega
    have hx:l'.take m=l.filter fun x=>!q x:=by
     have:=hd.kept;rw [QZ,List.take_length] at this;exact this
    refine ⟨⟨some ⟨g0,0,none⟩,m,cap⟩,rfl,?_,C9 _ _ HZ.out,fun g hg=>Hd.bu.1 hg⟩;have o1:=xw (dJ (g:=g0) rfl (Builtin.zeroCells (.agg #[.int .i64 0,.int .i64 0,.int .i64 0,.int .i64 0]:Value).cells n3).toList (m*4) hI.own) (m:=m) (by omega);rw [← hZ] at o1
    have e:(oQ (l'.flatMap eV) (m*4) (Builtin.zeroCells (.agg #[.int .i64 0,.int .i64 0,.int .i64 0,.int .i64 0]:Value).cells n3).toList).take (m*4)=(l.filter fun x=>!q x).flatMap eV:=by
     rw [jx _ _ _ (by rw [iP,iW];show m*4+n3*4≤_;omega),List.append_assoc,List.take_append_of_le_length (by rw [List.length_take,iW];omega),List.take_take,Nat.min_self,lS (size:=4) (fun _=>rfl),hx]
    rw [e] at o1;rw [← hm]
    exact o1)
   rw [← hZ,← Bd] at pc
   have k3:(m:Int)≤(l.length:Int):=by omega
   have k5:(l.length:Int)≤(cap:Int):=by omega
   have k6:(m:Int)≤(cap:Int):=by omega
   clear hI kH iW zQ hZ Bd C9 hd HD HJ HI HST C QZ;go_wp2;go_ret;exact HP.out
end Go.Proofs.YtakddkhipelmjaaGreat
