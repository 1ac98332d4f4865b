import Derived.Test.YtakddkhipelmjaaGreatPartH14
set_option maxRecDepth 100000
set_option linter.unusedVariables false
set_option maxHeartbeats 64000000
namespace Go.Proofs.YtakddkhipelmjaaGreat
open Go.Deep Go.RowKit
structure gc where
 kind:Int
 aK:ByteArray
 af:ByteArray
 table:ByteArray
 name:ByteArray
 role:ByteArray
 au:List dY
 rule:fh
 right:Int
 opt:Bool
def KM (r:fh):Bool:=xA r.name r.kind r.au.length r.low r.high r.af r.table r.key
def fE (x:gc):Bool:=Ek x.kind x.aK x.af x.table x.name x.role x.au.length (KM x.rule) x.right x.opt
def dp (x:gc):Bool:=nS x.kind x.rule.kind
noncomputable def fF (c:bS) (x:gc):Bool :=
 if x.kind=2∨x.kind=3 then Aw c.ar x.aK cI || Aw c.ar x.aK (tU c.aj x.af)
 else if 4≤x.kind∧x.kind≤9 then mG c x.aK x.af x.table
 else if x.kind=14∨x.kind=15 then true
 else Aw c.ar x.aK cI
noncomputable def dA (c:bS) (x:gc):Int :=
 if cV c=false then 1 else if fE x=false then 90 else if eu c.ar.names x.aK=false then 71
 else if emp x.af=false∧x.kind≠1∧bY c.aj.ae x.af < 0 then 61
 else if emp x.table=false∧x.kind≠3∧bt c.aj.tables x.af x.table < 0 then 61
 else if fF c x=false then 91 else 0
def Ax (x:gc):dY:=x.au.headD ⟨⟨#[]⟩,0,false⟩
def dy (c:bS) (x:gc):bE × Int :=
 if x.kind=1 then iU c.aj (dg x.af x.aK c.aj)
 else if x.kind=2 then iU c.aj (cC x.af c.aj)
 else if x.kind=3 then iU c.aj (ii ⟨x.af,x.table,x.aK,x.au,[]⟩ c.aj)
 else if x.kind=4 then iU c.aj (fQ x.af x.table c.aj)
 else if x.kind=5 then iU c.aj (fD c.aj x.af x.table (iW (Ax x)))
 else if x.kind=6 then iU c.aj (fD c.aj x.af x.table (ix x.name))
 else if x.kind=7 then iU c.aj (fD c.aj x.af x.table (iV c.aj.tables x.rule))
 else if x.kind=8 then iU c.aj (fD c.aj x.af x.table (iv c.aj.tables x.af x.table x.name))
 else if eu c.ar.names x.role then jy c.aj x.af x.table x.role else (cX,71)
def jA (c:bS) (role:ByteArray):Bool:=aS role cI || c.aj.ae.any (fun s=>aS s.owner role) || c.aj.tables.any (fun t=>aS t.owner role) || c.ah.any (fun g=>aS g.aI role || aS g.to role)
noncomputable def iL (c:bS) (x:gc):gW × Int :=
 if x.kind=10 then lC c.ar (Ha x.role c.ar)
 else if x.kind=11 then (if eu c.ar.names x.role&&jA c x.role then (O9,73) else lC c.ar (xO x.role c.ar))
 else if x.kind=12 then lC c.ar (xP ⟨x.role,x.name⟩ c.ar)
 else lC c.ar (rK ⟨x.role,x.name⟩ c.ar)
def xQ (l:List cD) (s n:ByteArray):List cD:=l.filter fun g=>!(aS g.af s&&aS g.table n)
def Xy (b:Bool) (x:gc) (g:cD):Bool:=aS g.af x.af&&aS g.table x.table&&(g.right==x.right)&&aS g.to x.role&&(b || aS g.aI x.aK)
def KN (l:List cD) (b:Bool) (x:gc):List cD:=l.filter fun g=>!Xy b x g
noncomputable def cS (c:bS) (x:gc):bS × Int :=
 if x.kind≤9 then ({ c with aj:=(dy c x).1,ah:=if x.kind=4 then xQ c.ah x.af x.table else c.ah },(dy c x).2)
 else if x.kind≤13 then ({ c with ar:=(iL c x).1 },(iL c x).2)
 else if x.kind=14 then mE c ⟨x.af,x.table,x.right,x.aK,x.role,x.opt⟩
 else ({ c with ah:=KN c.ah (mG c x.aK x.af x.table) x },if (KN c.ah (mG c x.aK x.af x.table) x).length=c.ah.length then 80 else 0)
noncomputable def kN (d:bS) (f:Bool):bS:={ d with ah:=cJ d,version:=d.version+1,av:=if f then d.av+1 else d.av }
noncomputable def dB (c:bS) (x:gc):bS × Int :=
 if dA c x≠0 then (qY,dA c x) else if (cS c x).2≠0 then (qY,(cS c x).2)
 else if 1000000000≤c.version∨(dp x=true∧1000≤c.av) then (qY,92)
 else (kN (cS c x).1 (dp x),0)
theorem oW (l:List bW) (s n:ByteArray):0≤bt l s n↔∃ t∈l,t.af=s∧t.name=n:=by
 have h:=fx (fun t:bW=>aS t.af s&&aS t.name n) l;have hr:=aT (fun t:bW=>aS t.af s&&aS t.name n) l;have e:bt l s n=bu (fun t:bW=>aS t.af s&&aS t.name n) l:=rfl;rw [e]
 constructor
 ·intro h0
  rw [if_neg (by omega),List.getElem?_eq_getElem (by omega)] at h;have h2:=List.find?_some (p:=fun t:bW=>aS t.af s&&aS t.name n) h;simp only [Bool.and_eq_true,cR] at h2;exact ⟨_,List.mem_of_find?_eq_some h,h2⟩
 ·rintro ⟨x,hx,rfl,rfl⟩
  rcases Int.lt_or_le (bu (fun t:bW=>aS t.af x.af&&aS t.name x.name) l) 0 with h0 | h0
  ·rw [if_pos h0] at h
   exact absurd (by simp [cK]) (List.find?_eq_none.1 h x hx)
  ·exact h0
theorem Hb {c d:bS} (ho:d.aj=c.aj) (hr:d.ar=c.ar) (hg:d.ah=c.ah) {g:cD} (h:Held c g):Held d g:=xk ho hr id (fun x hx=>⟨by rw [hg];exact hx,rfl,fun h=>h⟩) g h
theorem Ay {c d:bS} (ho:d.aj=c.aj) (hr:d.ar=c.ar) (hg:d.ah=c.ah) (h:bH c=true):bH d=true:=by
 obtain ⟨h1,h2,h3,h4⟩:=bP.1 h;refine bP.2 ⟨by rw [hg];exact h1,?_,fun g hx=>?_,by rw [hg];exact h4⟩
 ·rw [ho,hr]
  refine ⟨h2.1,h2.2.1,h2.2.2.1,?_⟩;have:=h2.2.2.2;unfold gC at this ⊢;rw [ho,hr];exact this
 ·rw [hg] at hx
  rw [oP ho hr (rfl:eF g=eF g)];exact h3 g hx
theorem Eu {c d:bS} (ho:d.aj=c.aj) (hr:d.ar=c.ar) (hg:d.ah=c.ah) (h:dU c=true):dU d=true:=by
 obtain ⟨h1,h2⟩:=dX.1 h;exact dX.2 ⟨Ay ho hr hg h1,fun g hx=>Hb ho hr hg (h2 g (by rw [← hg];exact hx))⟩
theorem Az {d:bS} (h:bH d=true) (f:Bool):dU (kN d f)=true:=Eu (c:={ d with ah:=cJ d }) rfl rfl rfl (zN h)
theorem gf {c:bS}:cV c=true↔(0≤c.av∧c.av≤1000)∧(0≤c.version∧c.version≤1000000000)∧dU c=true:=by
 unfold cV;simp only [Bool.and_eq_true,decide_eq_true_eq];exact ⟨fun h=>⟨⟨h.1.1.1.1,h.1.1.1.2⟩,⟨h.1.1.2,h.1.2⟩,h.2⟩,fun h=>⟨⟨⟨⟨h.1.1,h.1.2⟩,h.2.1.1⟩,h.2.1.2⟩,h.2.2⟩⟩
theorem xR {c:bS} (h:bH c=true) {o:bE} (hk:bD o=true) (hs:∀ s∈o.ae,eu c.ar.names s.owner=true) (ht:∀ t∈o.tables,eu c.ar.names t.owner=true) {l:List cD} (hl:l.Sublist c.ah) (hg:∀ g∈l,0≤bt o.tables g.af g.table):bH { c with aj:=o,ah:=l }=true:=by
 obtain ⟨h1,h2,h3,h4⟩:=bP.1 h;refine bP.2 ⟨Nat.le_trans hl.length_le h1,⟨hk,h2.2.1,h2.2.2.1,?_⟩,fun g hx=>?_,gp.2 ((gp.1 h4).sublist hl)⟩
 ·show (_&&_)=true
  rw [Bool.and_eq_true,List.all_eq_true,List.all_eq_true];exact ⟨hs,ht⟩
 ·obtain ⟨k1,k2,k3,k4,k5⟩:=lq (h3 g (hl.subset hx))
  unfold gD;simp only [Bool.and_eq_true,decide_eq_true_eq,Bool.not_eq_true'];exact ⟨⟨⟨⟨hg g hx,k2⟩,k3⟩,k4⟩,k5⟩
theorem na {c:bS}:gC c=true↔(∀ s∈c.aj.ae,eu c.ar.names s.owner=true)∧∀ t∈c.aj.tables,eu c.ar.names t.owner=true:=by
 unfold gC;rw [Bool.and_eq_true,List.all_eq_true,List.all_eq_true]
theorem xS {c:bS} (h:bH c=true) {r:gW} (hr:bI r=true) (hn:∀ a,eu c.ar.names a=true→jA c a=true→eu r.names a=true):bH { c with ar:=r }=true:=by
 obtain ⟨h1,h2,h3,h4⟩:=bP.1 h;obtain ⟨mm,FP⟩:=na.1 h2.2.2.2
 have n1:jA c cI=true:=by unfold jA;rw [cK];rfl
 have n2:∀ s∈c.aj.ae,jA c s.owner=true:=fun s hs=>by
  have:c.aj.ae.any (fun z=>aS z.owner s.owner)=true:=List.any_eq_true.2 ⟨s,hs,cK _⟩;unfold jA;rw [this];simp
 have n3:∀ t∈c.aj.tables,jA c t.owner=true:=fun t ht=>by
  have:c.aj.tables.any (fun z=>aS z.owner t.owner)=true:=List.any_eq_true.2 ⟨t,ht,cK _⟩;unfold jA;rw [this];simp
 have n4:∀ g∈c.ah,jA c g.aI=true∧jA c g.to=true:=fun g hg=>by
  have e1:c.ah.any (fun z=>aS z.aI g.aI || aS z.to g.aI)=true:=List.any_eq_true.2 ⟨g,hg,by rw [cK];rfl⟩;have e2:c.ah.any (fun z=>aS z.aI g.to || aS z.to g.to)=true:=List.any_eq_true.2 ⟨g,hg,by rw [cK];simp⟩;unfold jA;rw [e1,e2];simp
 refine bP.2 ⟨h1,⟨h2.1,hr,hn _ h2.2.2.1 n1,na.2 ⟨fun s hs=>hn _ (mm s hs) (n2 s hs),fun t ht=>hn _ (FP t ht) (n3 t ht)⟩⟩,fun g hx=>?_,h4⟩;obtain ⟨k1,k2,k3,k4,k5⟩:=lq (h3 g hx);unfold gD;simp only [Bool.and_eq_true,decide_eq_true_eq,Bool.not_eq_true'];exact ⟨⟨⟨⟨k1,k2⟩,k3⟩,hn _ k4 (n4 g hx).1⟩,hn _ k5 (n4 g hx).2⟩
theorem ik {o:bE} {r:bE × Int} (h:bD o=true):iU o r=r:=by unfold iU;rw [if_pos h]
theorem xT {o:bE} {nm:ByteArray} (h:bD o=true) (hz:(cC nm o).2=0):bD (cC nm o).1=true:=by
 have g:=(dQ o).1 h;unfold cC at hz ⊢;by_cases c1:bY o.ae nm < 0
 ·rw [if_pos c1] at hz;cases hz
 by_cases c2:0 < within o.tables nm
 ·rw [if_neg c1,if_pos c2] at hz;cases hz
 rw [if_neg c1,if_neg c2];obtain ⟨p,hp⟩:∃ p:Nat,bY o.ae nm=p:=⟨(bY o.ae nm).toNat,by omega⟩;have hr:=(aT (fun x:fK=>aS x.name nm) o.ae).2
 have hpl:p < o.ae.length:=by unfold bY at hp;omega
 have e1:o.ae[p].name=nm:=(cR _ _).1 (gF (fun x:fK=>aS x.name nm) o.ae p hpl hp);rw [hp,Int.toNat_natCast];refine (dQ _).2 ⟨Nat.le_trans (List.length_eraseIdx_le _ _) g.ns,g.nt,g.rt,lA tS g.rs p,fun x hx=>g.fS x (List.mem_of_mem_eraseIdx hx),fun t ht=>?_⟩;have a:=g.tab t ht;refine ⟨a.nm,a.ow,a.au,a.nr,?_,a.kj,a.fit,a.key⟩;obtain ⟨z,hz1,hz2⟩:=a.fS;refine ⟨z,eQ hz1 fun h9 e=>c2 ?_,hz2⟩;unfold within;exact List.length_pos_iff_exists_mem.2 ⟨t,List.mem_filter.2 ⟨ht,(cR _ _).2 (by rw [← hz2,e,e1])⟩⟩
theorem xU {o:bE} {s n:ByteArray} {f:bW→bW × Int} (hz:(fD o s n f).2=0):∃ (q:Nat) (hq:q < o.tables.length),bt o.tables s n=q∧(f o.tables[q]).2=0∧fD o s n f=(⟨o.ae,o.tables.set q (f o.tables[q]).1⟩,0):=by
 have hr:=aT (fun t:bW=>aS t.af s&&aS t.name n) o.tables;by_cases h0:bt o.tables s n < 0
 ·rw [ul h0] at hz;cases hz
 ·obtain ⟨q,hq⟩:∃ q:Nat,bt o.tables s n=q:=⟨(bt o.tables s n).toNat,by omega⟩
  have pC:q < o.tables.length:=by unfold bt at hq;omega
  rw [um hq pC] at hz ⊢;by_cases h1:(f o.tables[q]).2=0
  ·rw [if_pos h1];exact ⟨q,pC,hq,h1,rfl⟩
  ·rw [if_neg h1] at hz;exact absurd hz h1
def AC (t:bW) (v:ByteArray):bW:=⟨t.af,t.name,v,t.au,t.rules⟩
theorem Hc {o:bE} {q:Nat} {v:ByteArray} (g:Good o) (hq:q < o.tables.length) (hv:bG v=true):Good ⟨o.ae,o.tables.set q (AC o.tables[q] v)⟩:=by
 have gq:=g.tab _ (List.getElem_mem hq)
 have hk2:∀ x∈o.tables,∀ r∈x.rules,r.kind=4→gK (o.tables.set q (AC o.tables[q] v)) x.au r:=fun x hx r hr h4=>by
  obtain ⟨t,ht,e1,e2,k,hk,e3,e4,e5⟩:=(g.tab x hx).key r hr h4;by_cases e:t=o.tables[q]
  ·exact ⟨(AC o.tables[q] v),List.mem_set hq _,by rw [← e];exact e1,by rw [← e];exact e2,k,by rw [← e];exact hk,e3,e4,by rw [← e];exact e5⟩
  ·obtain ⟨i,hi,rfl⟩:=List.getElem_of_mem ht
   have hne:q≠i:=fun h=>e (by subst h;rfl)
   exact ⟨o.tables[i],List.mem_iff_getElem.2 ⟨i,by simpa using hi,by rw [List.getElem_set_ne hne]⟩,e1,e2,k,hk,e3,e4,e5⟩
 refine ⟨g.ns,by simpa using g.nt,?_,g.rs,fun s hs2=>?_,fun x hx=>?_⟩
 ·show aM fO (o.tables.set q (AC o.tables[q] v))=true
  rw [uk (t:=AC o.tables[q] v) hq rfl rfl];exact g.rt
 ·have:=g.fS s hs2
  refine ⟨this.1,this.2.1,?_⟩
  show within (o.tables.set q (AC o.tables[q] v)) s.name≤8
  rw [rH (t:=AC o.tables[q] v) hq rfl];exact this.2.2
 ·rcases m9 hx with rfl | hx
  ·exact ⟨gq.nm,hv,gq.au,gq.nr,gq.fS,gq.kj,gq.fit,fun r hr h4=>hk2 _ (List.getElem_mem hq) r hr h4⟩
  ·have gx:=g.tab x hx
   exact ⟨gx.nm,gx.ow,gx.au,gx.nr,gx.fS,gx.kj,gx.fit,hk2 x hx⟩
theorem AD {o:bE} {s n v:ByteArray} (h:bD o=true) (hz:(jy o s n v).2=0):bD (jy o s n v).1=true∧bG v=true∧jy o s n v=fD o s n (Tr v):=by
 unfold jy at hz ⊢;rw [if_pos h] at hz ⊢;by_cases hv:bG v=true
 ·rw [if_pos hv] at hz ⊢
  refine ⟨?_,hv,rfl⟩;obtain ⟨q,hq,h1,h2,h3⟩:=xU hz;rw [h3];exact (dQ _).2 (Hc ((dQ o).1 h) hq hv)
 ·rw [if_neg hv] at hz;exact absurd hz (by decide)
theorem Ev {nm ow:ByteArray} {o:bE}:(dg nm ow o).2=0→dg nm ow o=(⟨cP o.ae (dP ja o.ae ⟨nm,ow⟩) ⟨nm,ow⟩,o.tables⟩,0):=by
 unfold dg
 repeat' split
 all_goals first | exact fun h=>absurd h (by decide) | exact fun _=>rfl
theorem AE {nm:ByteArray} {o:bE}:(cC nm o).2=0→cC nm o=(⟨o.ae.eraseIdx (bY o.ae nm).toNat,o.tables⟩,0):=by
 unfold cC
 repeat' split
 all_goals first | exact fun h=>absurd h (by decide) | exact fun _=>rfl
theorem Ew {t:bW} {o:bE}:(ii t o).2=0→ii t o=(⟨o.ae,cP o.tables (dP fO o.tables t) t⟩,0):=by
 unfold ii
 repeat' split
 all_goals first | exact fun h=>absurd h (by decide) | exact fun _=>rfl
theorem AH {s n:ByteArray} {o:bE}:(fQ s n o).2=0→fQ s n o=(⟨o.ae,o.tables.eraseIdx (bt o.tables s n).toNat⟩,0)∧0≤bt o.tables s n:=by
 unfold fQ;by_cases h1:bt o.tables s n < 0
 ·rw [if_pos h1];exact fun h=>absurd h (by decide)
 ·rw [if_neg h1]
  split
  ·exact fun h=>absurd h (by decide)
  ·exact fun _=>⟨rfl,by omega⟩
structure TA (c:bS) (x:gc) (o:bE):Prop where
 chk:bD o=true
 fS:∀ s∈o.ae,s∈c.aj.ae∨s.owner=x.aK
 tab:∀ t∈o.tables,(∃ u∈c.aj.tables,t.owner=u.owner)∨t.owner=x.aK∨eu c.ar.names t.owner=true
 keep:∀ t∈c.aj.tables,¬ (x.kind=4∧t.af=x.af∧t.name=x.table)→∃ u∈o.tables,u.af=t.af∧u.name=t.name∧(x.kind≠9→u.owner=t.owner)
 aaa:x.kind≠2→∀ z∈c.aj.ae,z∈o.ae
theorem lD {c:bS} {x:gc} {f:bW→bW × Int} (hz:(fD c.aj x.af x.table f).2=0) (jL:bD (fD c.aj x.af x.table f).1=true)
  (hf:∀ t,(f t).2=0→(f t).1.af=t.af∧(f t).1.name=t.name∧((f t).1.owner=t.owner∨(x.kind=9∧eu c.ar.names (f t).1.owner=true))):TA c x (fD c.aj x.af x.table f).1:=by
 obtain ⟨q,hq,h1,h2,h3⟩:=xU hz;rw [h3] at jL ⊢;obtain ⟨e1,e2,e3⟩:=hf _ h2;refine ⟨jL,fun s hs=>.inl hs,fun t ht=>?_,fun t ht hn=>?_,fun _ z hz=>hz⟩
 ·rcases m9 ht with rfl | ht
  ·rcases e3 with e3 | e3
   ·exact .inl ⟨_,List.getElem_mem hq,e3⟩
   ·exact .inr (.inr e3.2)
  ·exact .inl ⟨t,ht,rfl⟩
 ·obtain ⟨i,hi,rfl⟩:=List.getElem_of_mem ht
  by_cases e:i=q
  ·subst e
   exact ⟨_,List.mem_set hi _,e1,e2,fun h9=>e3.resolve_right fun h=>h9 h.1⟩
  ·exact ⟨c.aj.tables[i],List.mem_iff_getElem.2 ⟨i,by simpa using hi,by rw [List.getElem_set_ne (Ne.symm e)]⟩,rfl,rfl,fun _=>rfl⟩
theorem Pa {c:bS} {x:gc} (jL:bD c.aj=true) (mS:1≤x.kind) (hk9:x.kind≤9) (hz:(dy c x).2=0):TA c x (dy c x).1:=by
 have hk:x.kind=1∨x.kind=2∨x.kind=3∨x.kind=4∨x.kind=5∨x.kind=6∨x.kind=7∨x.kind=8∨x.kind=9:=by omega
 rcases hk with hk | hk | hk | hk | hk | hk | hk | hk | hk
 ·have e:dy c x=dg x.af x.aK c.aj:=by unfold dy;rw [if_pos hk,ik jL]
  rw [e] at hz ⊢;have h1:=Ev hz;have h2:=Ao jL hz;rw [h1] at h2 ⊢;exact ⟨h2,fun s hs=>(bK.1 hs).elim (fun h=>.inr (by rw [h])) .inl,fun t ht=>.inl ⟨t,ht,rfl⟩,fun t ht _=>⟨t,ht,rfl,rfl,fun _=>rfl⟩,fun _ z hz=>bK.2 (.inr hz)⟩
 ·have e:dy c x=cC x.af c.aj:=by unfold dy;rw [if_neg (by omega),if_pos hk,ik jL]
  rw [e] at hz ⊢;have h1:=AE hz;have h2:=xT jL hz;rw [h1] at h2 ⊢;exact ⟨h2,fun s hs=>.inl (List.mem_of_mem_eraseIdx hs),fun t ht=>.inl ⟨t,ht,rfl⟩,fun t ht _=>⟨t,ht,rfl,rfl,fun _=>rfl⟩,fun h=>absurd hk h⟩
 ·have e:dy c x=ii ⟨x.af,x.table,x.aK,x.au,[]⟩ c.aj:=by unfold dy;rw [if_neg (by omega),if_neg (by omega),if_pos hk,ik jL]
  rw [e] at hz ⊢;have h1:=Ew hz;have h2:=Ap jL hz;rw [h1] at h2 ⊢;exact ⟨h2,fun s hs=>.inl hs,fun t ht=>(bK.1 ht).elim (fun h=>.inr (.inl (by rw [h]))) (fun h=>.inl ⟨t,h,rfl⟩),fun t ht _=>⟨t,bK.2 (.inr ht),rfl,rfl,fun _=>rfl⟩,fun _ z hz=>hz⟩
 ·have e:dy c x=fQ x.af x.table c.aj:=by unfold dy;rw [if_neg (by omega),if_neg (by omega),if_neg (by omega),if_pos hk,ik jL]
  rw [e] at hz ⊢;obtain ⟨h1,h0⟩:=AH hz;have h2:=xM jL hz;obtain ⟨p,hp⟩:∃ p:Nat,bt c.aj.tables x.af x.table=p:=⟨_,(Int.toNat_of_nonneg h0).symm⟩;have hr:=(aT (fun t:bW=>aS t.af x.af&&aS t.name x.table) c.aj.tables).2
  have hpl:p < c.aj.tables.length:=by unfold bt at hp;omega
  obtain ⟨e1,e2⟩:=rI hp hpl;rw [h1] at h2 ⊢;rw [hp,Int.toNat_natCast] at h2 ⊢;exact ⟨h2,fun s hs=>.inl hs,fun t ht=>.inl ⟨t,List.mem_of_mem_eraseIdx ht,rfl⟩,fun t ht hn=>⟨t,eQ ht fun h e=>hn ⟨hk,by rw [e];exact e1,by rw [e];exact e2⟩,rfl,rfl,fun _=>rfl⟩,fun _ z hz=>hz⟩
 ·have e:dy c x=fD c.aj x.af x.table (iW (Ax x)):=by unfold dy;rw [if_neg (by omega),if_neg (by omega),if_neg (by omega),if_neg (by omega),if_pos hk,ik jL]
  rw [e] at hz ⊢
  exact lD hz (Av jL hz) fun t h=>by
   revert h
   unfold iW
   repeat' split
   all_goals exact fun _=>⟨rfl,rfl,.inl rfl⟩
 ·have e:dy c x=fD c.aj x.af x.table (ix x.name):=by unfold dy;rw [if_neg (by omega),if_neg (by omega),if_neg (by omega),if_neg (by omega),if_neg (by omega),if_pos hk,ik jL]
  rw [e] at hz ⊢
  exact lD hz (xN jL hz) fun t h=>by
   revert h
   unfold ix
   repeat' split
   all_goals exact fun _=>⟨rfl,rfl,.inl rfl⟩
 ·have e:dy c x=fD c.aj x.af x.table (iV c.aj.tables x.rule):=by unfold dy;rw [if_neg (by omega),if_neg (by omega),if_neg (by omega),if_neg (by omega),if_neg (by omega),if_neg (by omega),if_pos hk,ik jL]
  rw [e] at hz ⊢
  exact lD hz (Ak jL hz) fun t h=>by
   revert h
   unfold iV
   repeat' split
   all_goals exact fun _=>⟨rfl,rfl,.inl rfl⟩
 ·have e:dy c x=fD c.aj x.af x.table (iv c.aj.tables x.af x.table x.name):=by unfold dy;rw [if_neg (by omega),if_neg (by omega),if_neg (by omega),if_neg (by omega),if_neg (by omega),if_neg (by omega),if_neg (by omega),if_pos hk,ik jL]
  rw [e] at hz ⊢
  exact lD hz (xJ jL hz) fun t h=>by
   revert h
   unfold iv
   repeat' split
   all_goals exact fun _=>⟨rfl,rfl,.inl rfl⟩
 ·by_cases hi:eu c.ar.names x.role=true
  ·have e:dy c x=jy c.aj x.af x.table x.role:=by unfold dy;rw [if_neg (by omega),if_neg (by omega),if_neg (by omega),if_neg (by omega),if_neg (by omega),if_neg (by omega),if_neg (by omega),if_neg (by omega),if_pos hi]
   rw [e] at hz ⊢;obtain ⟨h1,h2,h3⟩:=AD jL hz;rw [h3] at hz h1 ⊢
   exact lD hz h1 fun t _=>⟨rfl,rfl,.inr ⟨hk,hi⟩⟩
  ·have e:dy c x=(cX,71):=by unfold dy;rw [if_neg (by omega),if_neg (by omega),if_neg (by omega),if_neg (by omega),if_neg (by omega),if_neg (by omega),if_neg (by omega),if_neg (by omega),if_neg hi]
   rw [e] at hz;exact absurd hz (by decide)
theorem jB {α:Type} {c:α→α→Int} (tr:∀ a b d,c a b < 0→c b d < 0→c a d < 0) {l:List α}:aM c l=true↔l.Pairwise fun a b=>c a b < 0:=by
 constructor
 ·exact fun h=>List.pairwise_iff_getElem.2 fun i j hi hj mU=>ed tr h i j hi hj mU
 ·exact fun h=>(cL _ _).2 fun k hk=>List.pairwise_iff_getElem.1 h k (k+1) (by omega) hk (by omega)
theorem xV {α:Type} {c:α→α→Int} (o:tH c) {l:List α} {x:α} (h:eK c l x=true):l[dP c l x]'(xW h)=x:=by
 have hl:=xW h;unfold eK at h;rw [List.getElem?_eq_getElem hl] at h;exact o.Pb _ _ (of_decide_eq_true h)
theorem Ex {r:gW} {nm:ByteArray} (h:bI r=true) (h1:bG nm=true) (h2:eK bv r.names nm=false) (h3:¬ 16≤r.names.length):bI { r with names:=cP r.names (dP bv r.names nm) nm }=true:=by
 obtain ⟨p1,p2,p3,p4,p5,p6⟩:=cG.1 h;refine cG.2 ⟨?_,p2,uq qh p3 h2,p4,fun s hs=>?_,fun m hm=>?_⟩
 ·show (cP r.names (dP bv r.names nm) nm).length≤16
  rw [eI _ _ _ (fT _ _ _)];omega
 ·rcases bK.1 hs with e | e
  ·rw [e];exact h1
  ·exact p5 s e
 ·have:=p6 m hm
  exact ⟨bK.2 (.inr this.1),bK.2 (.inr this.2.1),this.2.2⟩
theorem xX {r:gW} {nm:ByteArray} (h:bI r=true) (h2:eK bv r.names nm=true) (h3:r.members.any (xY nm)=false):bI { r with names:=r.names.eraseIdx (dP bv r.names nm) }=true:=by
 obtain ⟨p1,p2,p3,p4,p5,p6⟩:=cG.1 h;have he:=xV qh h2;refine cG.2 ⟨Nat.le_trans (List.length_eraseIdx_le _ _) p1,p2,(jB qh.tr).2 (((jB qh.tr).1 p3).sublist (List.eraseIdx_sublist _ _)),p4,fun s hs=>p5 s (List.mem_of_mem_eraseIdx hs),fun m hm=>?_⟩
 have hu:xY nm m=false:=by
  rw [List.any_eq_false] at h3
  simpa using h3 m hm
 unfold xY at hu;rw [Bool.or_eq_false_iff] at hu;have:=p6 m hm;exact ⟨eQ this.1 fun h9 e=>(by have:=hu.1;rw [e,he,cK] at this;cases this),eQ this.2.1 fun h9 e=>(by have:=hu.2;rw [e,he,cK] at this;cases this),this.2.2⟩
theorem xZ {r:gW} {m:dO} (h:bI r=true):bI { r with members:=r.members.eraseIdx (dP gQ r.members m) }=true:=by
 obtain ⟨p1,p2,p3,p4,p5,p6⟩:=cG.1 h;refine cG.2 ⟨p1,Nat.le_trans (List.length_eraseIdx_le _ _) p2,p3,(jB KO.tr).2 (((jB KO.tr).1 p4).sublist (List.eraseIdx_sublist _ _)),p5,fun m hm=>?_⟩;have:=p6 m (List.mem_of_mem_eraseIdx hm);exact ⟨this.1,this.2.1,fun hr=>this.2.2 (hr.mono fun x hx=>List.mem_of_mem_eraseIdx hx)⟩
structure Xz (c:bS) (x:gc) (r:gW):Prop where
 right:bI r=true
 need:∀ a,eu c.ar.names a=true→jA c a=true→eu r.names a=true
 kw:x.kind≠11→∀ a,eu c.ar.names a=true→eu r.names a=true
 mem:x.kind≠13→∀ m∈c.ar.members,m∈r.members
theorem qA {r:gW} {f:gW × Int} (h:bI r=true) (hz:(lC r f).2=0):f.2=0∧lC r f=(f.1,0):=by
 unfold lC at hz ⊢;rw [if_pos h] at hz ⊢;by_cases h2:f.2=0
 ·rw [if_pos h2];exact ⟨h2,rfl⟩
 ·rw [if_neg h2] at hz;exact absurd hz h2
theorem Pc {c:bS} {x:gc} (hr:bI c.ar=true) (mS:10≤x.kind) (hk9:x.kind≤13) (hz:(iL c x).2=0):Xz c x (iL c x).1:=by
 have hk:x.kind=10∨x.kind=11∨x.kind=12∨x.kind=13:=by omega
 rcases hk with hk | hk | hk | hk
 ·have e:iL c x=lC c.ar (Ha x.role c.ar):=by unfold iL;rw [if_pos hk]
  rw [e] at hz ⊢;obtain ⟨h1,h2⟩:=qA hr hz;rw [h2];unfold Ha at h1 ⊢;by_cases c1:bG x.role=true
  ·rw [if_pos c1] at h1 ⊢
   by_cases c2:eK bv c.ar.names x.role=true
   ·rw [if_pos c2] at h1;exact absurd h1 (by simp)
   ·rw [if_neg c2] at h1 ⊢
    by_cases c3:16≤c.ar.names.length
    ·rw [if_pos c3] at h1;exact absurd h1 (by simp)
    ·rw [if_neg c3]
     rw [Bool.not_eq_true] at c2
     have hn:∀ a,eu c.ar.names a=true→eu (cP c.ar.names (dP bv c.ar.names x.role) x.role) a=true:=fun a ha=>(ig _ _).2 (bK.2 (.inr ((ig _ _).1 ha)))
     exact ⟨Ex hr c1 c2 c3,fun a ha _=>hn a ha,fun _=>hn,fun _ m hm=>hm⟩
  ·rw [if_neg c1] at h1;exact absurd h1 (by simp)
 ·have e:iL c x=if eu c.ar.names x.role&&jA c x.role then (O9,73) else lC c.ar (xO x.role c.ar):=by unfold iL;rw [if_neg (by omega),if_pos hk]
  rw [e] at hz ⊢;by_cases c0:(eu c.ar.names x.role&&jA c x.role)=true
  ·rw [if_pos c0] at hz;exact absurd hz (by simp)
  rw [if_neg c0] at hz ⊢;obtain ⟨h1,h2⟩:=qA hr hz;rw [h2];unfold xO at h1 ⊢;by_cases c2:eK bv c.ar.names x.role=true
  ·rw [if_pos c2] at h1 ⊢
   by_cases c3:c.ar.members.any (xY x.role)=true
   ·rw [if_pos c3] at h1;exact absurd h1 (by simp)
   ·rw [if_neg c3]
    rw [Bool.not_eq_true] at c3
    have wL:eu c.ar.names x.role=true:=by rw [Ey (cG.1 hr).2.2.1];exact c2
    rw [wL] at c0;refine ⟨xX hr c2 c3,fun a ha hn=>(ig _ _).2 (eQ ((ig _ _).1 ha) fun h9 e=>?_),fun h=>absurd hk h,fun _ m hm=>hm⟩;rw [xV qh c2] at e;rw [e] at hn;rw [hn] at c0;exact c0 rfl
  ·rw [if_neg c2] at h1;exact absurd h1 (by simp)
 ·have e:iL c x=lC c.ar (xP ⟨x.role,x.name⟩ c.ar):=by unfold iL;rw [if_neg (by omega),if_neg (by omega),if_pos hk]
  rw [e] at hz ⊢;obtain ⟨h1,h2⟩:=qA hr hz;rw [h2];unfold xP at h1 ⊢;by_cases c1:(eu c.ar.names x.role&&eu c.ar.names x.name)=true
  ·rw [if_pos c1] at h1 ⊢
   rw [Bool.and_eq_true] at c1;by_cases c2:eK gQ c.ar.members ⟨x.role,x.name⟩=true
   ·rw [if_pos c2] at h1;exact absurd h1 (by simp)
   ·rw [if_neg c2] at h1 ⊢
    rw [Bool.not_eq_true] at c2;by_cases c3:dI c.ar.members x.name x.role=true
    ·rw [if_pos c3] at h1;exact absurd h1 (by simp)
    ·rw [if_neg c3] at h1 ⊢
     rw [Bool.not_eq_true] at c3;exact ⟨AJ hr c1.1 c1.2 c2 c3,fun a ha _=>ha,fun _ a ha=>ha,fun _ m hm=>bK.2 (.inr hm)⟩
  ·rw [if_neg c1] at h1;exact absurd h1 (by simp)
 ·have e:iL c x=lC c.ar (rK ⟨x.role,x.name⟩ c.ar):=by unfold iL;rw [if_neg (by omega),if_neg (by omega),if_neg (by omega)]
  rw [e] at hz ⊢;obtain ⟨h1,h2⟩:=qA hr hz;rw [h2];unfold rK at h1 ⊢;by_cases c2:eK gQ c.ar.members ⟨x.role,x.name⟩=true
  ·rw [if_pos c2]
   exact ⟨xZ hr,fun a ha _=>ha,fun _ a ha=>ha,fun h=>absurd hk h⟩
  ·rw [if_neg c2] at h1;exact absurd h1 (by simp)
theorem ya {x:gc} (h:fE x=true):1≤x.kind∧x.kind≤15:=by
 unfold fE at h;rw [CZ] at h;simp only [Bool.and_eq_true] at h;have h1:=h.1.1.1.1.1.1;unfold GJ at h1;simp only [Bool.and_eq_true,decide_eq_true_eq] at h1;exact h1
theorem lF {c:bS} {x:gc} (h:x.kind≤9):cS c x=({ c with aj:=(dy c x).1,ah:=if x.kind=4 then xQ c.ah x.af x.table else c.ah },(dy c x).2):=by unfold cS;rw [if_pos h]
theorem rL {c:bS} {x:gc} (h:10≤x.kind) (h2:x.kind≤13):cS c x=({ c with ar:=(iL c x).1 },(iL c x).2):=by unfold cS;rw [if_neg (by omega),if_pos h2]
theorem oX {c:bS} {x:gc} (h:x.kind=14):cS c x=mE c ⟨x.af,x.table,x.right,x.aK,x.role,x.opt⟩:=by unfold cS;rw [if_neg (by omega),if_neg (by omega),if_pos h]
theorem rM {c:bS} {x:gc} (h:15≤x.kind):cS c x=({ c with ah:=KN c.ah (mG c x.aK x.af x.table) x },if (KN c.ah (mG c x.aK x.af x.table) x).length=c.ah.length then 80 else 0):=by unfold cS;rw [if_neg (by omega),if_neg (by omega),if_neg (by omega)]
theorem ye {c:bS} {x:gc} (hs:bH c=true) (ha:eu c.ar.names x.aK=true) (hk:1≤x.kind) (hz:(cS c x).2=0):bH (cS c x).1=true:=by
 obtain ⟨h1,h2,h3,h4⟩:=bP.1 hs;obtain ⟨mm,FP⟩:=na.1 h2.2.2.2;by_cases k9:x.kind≤9
 ·rw [lF k9] at hz ⊢
  have D:=Pa h2.1 hk k9 hz;refine xR hs D.chk (fun s hx=>(D.fS s hx).elim (mm s) (fun e=>by rw [e];exact ha)) (fun t ht=>?_) (l:=if x.kind=4 then xQ c.ah x.af x.table else c.ah) ?_ (fun g hg=>?_)
  ·rcases D.tab t ht with ⟨u,hu,e⟩ | e | e
   ·rw [e];exact FP u hu
   ·rw [e];exact ha
   ·exact e
  ·split
   ·exact List.filter_sublist
   ·exact List.Sublist.refl _
  ·have JR:g∈c.ah∧¬ (x.kind=4∧g.af=x.af∧g.table=x.table):=by
    split at hg
    ·have:=List.mem_filter.1 (show g∈c.ah.filter _ from hg)
     refine ⟨this.1,fun h=>?_⟩;have h5:=this.2;rw [h.2.1,h.2.2,cK,cK] at h5
     cases h5
    ·rename_i h4
     exact ⟨hg,fun h=>h4 h.1⟩
   obtain ⟨t,ht,e1,e2⟩:=(oW _ _ _).1 (lq (h3 g JR.1)).1;obtain ⟨u,hu,e3,e4,_⟩:=D.keep t ht (fun h=>JR.2 ⟨h.1,by rw [← e1];exact h.2.1,by rw [← e2];exact h.2.2⟩);exact (oW _ _ _).2 ⟨u,hu,e3.trans e1,e4.trans e2⟩
 by_cases Rb:x.kind≤13
 ·rw [rL (by omega) Rb] at hz ⊢
  have D:=Pc h2.2.1 (by omega) Rb hz;exact xS hs D.right D.need
 by_cases TB:x.kind=14
 ·rw [oX TB] at hz ⊢
  exact (dX.1 (vy hz).OE).1
 ·rw [rM (by omega)] at hz ⊢
  exact qZ hs List.filter_sublist
theorem ur {c:bS} {x:gc} (hz:(cS c x).2=0):(cS c x).1.av=c.av∧(cS c x).1.version=c.version:=by
 by_cases k9:x.kind≤9
 ·rw [lF k9];exact ⟨rfl,rfl⟩
 by_cases Rb:x.kind≤13
 ·rw [rL (by omega) Rb];exact ⟨rfl,rfl⟩
 by_cases TB:x.kind=14
 ·rw [oX TB] at hz ⊢
  rw [(vy hz).is];exact ⟨rfl,rfl⟩
 ·rw [rM (by omega)];exact ⟨rfl,rfl⟩
structure Ny (c:bS) (x:gc):Prop where
 right:cV c=true
 may:fE x=true
 who:eu c.ar.names x.aK=true
 fS:emp x.af=false→x.kind≠1→0≤bY c.aj.ae x.af
 tab:emp x.table=false→x.kind≠3→0≤bt c.aj.tables x.af x.table
 allow:fF c x=true
theorem He {c:bS} {x:gc} (h:dA c x=0):Ny c x:=by
 unfold dA at h;by_cases h1:cV c=false
 ·rw [if_pos h1] at h;exact absurd h (by decide)
 rw [if_neg h1] at h;by_cases h2:fE x=false
 ·rw [if_pos h2] at h;exact absurd h (by decide)
 rw [if_neg h2] at h;by_cases h3:eu c.ar.names x.aK=false
 ·rw [if_pos h3] at h;exact absurd h (by decide)
 rw [if_neg h3] at h;by_cases h4:emp x.af=false∧x.kind≠1∧bY c.aj.ae x.af < 0
 ·rw [if_pos h4] at h;exact absurd h (by decide)
 rw [if_neg h4] at h;by_cases h5:emp x.table=false∧x.kind≠3∧bt c.aj.tables x.af x.table < 0
 ·rw [if_pos h5] at h;exact absurd h (by decide)
 rw [if_neg h5] at h;by_cases h6:fF c x=false
 ·rw [if_pos h6] at h;exact absurd h (by decide)
 rw [Bool.not_eq_false] at h1 h2 h3 h6;exact ⟨h1,h2,h3,fun a b=>Int.not_lt.1 fun d=>h4 ⟨a,b,d⟩,fun a b=>Int.not_lt.1 fun d=>h5 ⟨a,b,d⟩,h6⟩
structure Done (c:bS) (x:gc):Prop where
 begun:Ny c x
 done:(cS c x).2=0
 ver:c.version < 1000000000
 epo:dp x=true→c.av < 1000
 is:dB c x=(kN (cS c x).1 (dp x),0)
theorem yg {c:bS} {x:gc} (h:(dB c x).2=0):Done c x:=by
 unfold dB at h;by_cases h1:dA c x≠0
 ·rw [if_pos h1] at h;exact absurd h h1
 rw [if_neg h1] at h;by_cases h2:(cS c x).2≠0
 ·rw [if_pos h2] at h;exact absurd h h2
 rw [if_neg h2] at h;by_cases h3:1000000000≤c.version∨(dp x=true∧1000≤c.av)
 ·rw [if_pos h3] at h;exact absurd h (by decide)
 refine ⟨He (by simpa using h1),by simpa using h2,by omega,fun hf=>Int.not_le.1 fun h=>h3 (.inr ⟨hf,h⟩),?_⟩;unfold dB;rw [if_neg h1,if_neg h2,if_neg h3]
theorem Done.Hf {c:bS} {x:gc} (h:Done c x):cV (kN (cS c x).1 (dp x))=true:=by
 obtain ⟨⟨e1,e2⟩,⟨v1,v2⟩,hw⟩:=gf.1 h.begun.right;obtain ⟨d1,d2⟩:=ur h.done;have hs:=ye (dX.1 hw).1 h.begun.who (ya h.begun.may).1 h.done;refine gf.2 ⟨?_,?_,Az hs _⟩
 ·show 0≤(if dp x then (cS c x).1.av+1 else (cS c x).1.av)∧(if dp x then (cS c x).1.av+1 else (cS c x).1.av)≤1000
  have:=h.epo;rw [d1]
  split
  ·rename_i hf;have:=this hf;omega
  ·omega
 ·show 0≤(cS c x).1.version+1∧(cS c x).1.version+1≤1000000000
  have:=h.ver;omega
section
variable {c d : bS}
end
def yh:fh:=⟨⟨#[]⟩,0,[],0,0,⟨#[]⟩,⟨#[]⟩,⟨#[]⟩⟩
def km:gc:=⟨1,cI,⟨#[115]⟩,⟨#[]⟩,⟨#[]⟩,⟨#[]⟩,[],yh,0,false⟩
def gL:bS:=⟨0,1,⟨[⟨⟨#[115]⟩,cI⟩],[]⟩,⟨[cI],[]⟩,[]⟩
theorem Dc:Aw jd.ar cI cI=true:=by
 rw [Pd,pF,pE]
 decide +kernel
theorem ut {c:bS} (h:c.ah=[]):cJ c=[]:=by
 unfold cJ;rw [h]
 split<;>rfl
theorem TC:fE km=true:=by decide +kernel
theorem AL:bD jd.aj=true:=by decide +kernel
theorem Pe:dB jd km=(gL,0):=by
 have h1:dA jd km=0:=by
  unfold dA
  rw [if_neg (by rw [rf];decide),if_neg (by rw [TC];decide),if_neg (by decide +kernel),if_neg (by decide +kernel),if_neg (by decide +kernel),if_neg (by
   unfold fF
   rw [if_neg (by decide),if_neg (by decide),if_neg (by decide),show km.aK=cI from rfl,Dc];decide)]
 have h2:cS jd km=(⟨0,0,gL.aj,⟨[cI],[]⟩,[]⟩,0):=by
  rw [lF (by decide)]
  have:dy jd km=(gL.aj,0):=by
   unfold dy;rw [if_pos (by decide),ik AL];unfold dg;rw [show (!bG km.af || !bG km.aK)=false by decide +kernel,show bY jd.aj.ae km.af = -1 by decide +kernel,show dP ja jd.aj.ae ⟨km.af,km.aK⟩=0 by decide +kernel];rfl
  rw [this];rfl
 unfold dB;rw [h1,h2,if_neg (by decide),if_neg (by decide),if_neg (by decide +kernel)];unfold kN;rw [ut rfl,show dp km=false by decide +kernel];rfl
theorem ng:cV gL=true:=by
 have h:(dB jd km).2=0:=by rw [Pe]
 have d:=yg h;have:=d.Hf;have e:=d.is;rw [Pe] at e;rw [show gL=kN (cS jd km).1 (dp km) from congrArg Prod.fst e];exact this
def nh:gc:=⟨2,cI,⟨#[115]⟩,⟨#[]⟩,⟨#[]⟩,⟨#[]⟩,[],yh,0,false⟩
def ni:bS:=⟨1,2,⟨[],[]⟩,⟨[cI],[]⟩,[]⟩
theorem TD:fE nh=true:=by decide +kernel
theorem Pf:dB gL nh=(ni,0):=by
 have h1:dA gL nh=0:=by
  unfold dA
  rw [if_neg (by rw [ng];decide),if_neg (by rw [TD];decide),if_neg (by decide +kernel),if_neg (by decide +kernel),if_neg (by decide +kernel),if_neg (by
   unfold fF
   rw [if_pos (by decide),show nh.aK=cI from rfl,show gL.ar=jd.ar from rfl,Dc];decide)]
 have h2:cS gL nh=(⟨0,1,⟨[],[]⟩,⟨[cI],[]⟩,[]⟩,0):=by
  rw [lF (by decide)]
  have:dy gL nh=(⟨[],[]⟩,0):=by
   unfold dy;rw [if_neg (by decide),if_pos (by decide),ik (by decide +kernel)];unfold cC;rw [show bY gL.aj.ae nh.af=0 by decide +kernel,show within gL.aj.tables nh.af=0 by decide +kernel];rfl
  rw [this];rfl
 unfold dB;rw [h1,h2,if_neg (by decide),if_neg (by decide),if_neg (by decide +kernel)];unfold kN;rw [ut rfl,show dp nh=true by decide +kernel];rfl
theorem rN:cV ni=true:=by
 have h:(dB gL nh).2=0:=by rw [Pf]
 have d:=yg h;have:=d.Hf;have e:=d.is;rw [Pf] at e;rw [show ni=kN (cS gL nh).1 (dp nh) from congrArg Prod.fst e];exact this
def mA:fo:=⟨gL,[⟨1,1,0,0,1⟩],[],0⟩
def mC:fo:=⟨gL,[⟨1,1,0,0,1⟩],[⟨1,11,1,0⟩],1⟩
def mD:fo:=⟨ni,[⟨1,2,0,1,2⟩],[⟨1,11,1,0⟩],1⟩
def mK:fo:=⟨ni,[⟨1,2,0,1,2⟩],[],1⟩
def KP:fo:=⟨qY,[],[],0⟩
theorem yi:eh mA=true:=by unfold eh;rw [show mA.cat=gL from rfl,ng];rfl
theorem Hg:eh mC=true:=by unfold eh;rw [show mC.cat=gL from rfl,ng];rfl
theorem rO:eh mD=true:=by unfold eh;rw [show mD.cat=ni from rfl,rN];rfl
theorem Hh:eh mK=true:=by unfold eh;rw [show mK.cat=ni from rfl,rN];rfl
theorem vM:oF cI:=by unfold oF;decide +kernel
theorem okS:oF ⟨#[115]⟩:=by unfold oF;decide +kernel
theorem jC {α:Type} (ok:α→Prop):sR ok ([]:List α):=⟨by simp,fun x hx=>by simp at hx⟩
theorem nZ {α:Type} {ok:α→Prop} {x:α} (h:ok x):sR ok [x]:=⟨by simp,fun y hy=>by simp at hy;exact hy▸h⟩
theorem Hi:tQ gL:=⟨⟨by decide,by decide⟩,⟨by decide,by decide⟩,nZ ⟨okS,vM⟩,jC _,nZ vM,jC _,jC _⟩
theorem Pg:tQ ni:=⟨⟨by decide,by decide⟩,⟨by decide,by decide⟩,jC _,jC _,nZ vM,jC _,jC _⟩
theorem TE:j5 rh:=⟨⟨⟨by decide,by decide⟩,⟨by decide,by decide⟩,jC _,jC _,nZ vM,jC _,jC _⟩,jC _,jC _,⟨by decide,by decide⟩⟩
theorem okA:j5 mA:=⟨Hi,nZ ⟨⟨by decide,by decide⟩,⟨by decide,by decide⟩,⟨by decide,by decide⟩,⟨by decide,by decide⟩,⟨by decide,by decide⟩⟩,jC _,⟨by decide,by decide⟩⟩
theorem okC:j5 mC:=⟨Hi,nZ ⟨⟨by decide,by decide⟩,⟨by decide,by decide⟩,⟨by decide,by decide⟩,⟨by decide,by decide⟩,⟨by decide,by decide⟩⟩,nZ ⟨⟨by decide,by decide⟩,⟨by decide,by decide⟩,⟨by decide,by decide⟩,⟨by decide,by decide⟩⟩,⟨by decide,by decide⟩⟩
theorem okD:j5 mD:=⟨Pg,nZ ⟨⟨by decide,by decide⟩,⟨by decide,by decide⟩,⟨by decide,by decide⟩,⟨by decide,by decide⟩,⟨by decide,by decide⟩⟩,nZ ⟨⟨by decide,by decide⟩,⟨by decide,by decide⟩,⟨by decide,by decide⟩,⟨by decide,by decide⟩⟩,⟨by decide,by decide⟩⟩
theorem Ph:(gP rh).length≤90000000:=by decide +kernel
theorem TF:(gP mA).length≤90000000:=by decide +kernel
theorem XB:(gP mC).length≤90000000:=by decide +kernel
theorem TG:(gP mD).length≤90000000:=by decide +kernel
def KQ (o:sV) (oc:List Value):Prop:=oc=[.int .i64 o.kind,.int .i64 o.aC,.int .i64 o.number,.int .i64 o.cmd.kind,.string o.cmd.aK,.string o.cmd.af,.string o.cmd.table,.string o.cmd.name,.string o.cmd.role,.slice o.cmd.A o.cmd.n o.cmd.c,.string o.cmd.cE,.int .i64 o.cmd.cv,.slice o.cmd.A2 o.cmd.n2 o.cmd.c2,.int .i64 o.cmd.low,.int .i64 o.cmd.high,.string o.cmd.rs,.string o.cmd.rt,.string o.cmd.rk,.int .i64 o.cmd.right,.bool o.cmd.opt,.int .i64 o.node,.int .i64 o.ask,.int .i64 o.seq]
def sX (B:Nat) (w:World) (r:fo × Int) (e:Ending) (w':World):Prop:=ag w w'∧∃ cs,e=.returned (.tuple #[.agg cs.toArray,.int .i64 r.2])∧dJ B w' cs r.1
theorem Nz (w:World):dD w cY KP:=(show iJ w KP none 0 none 0 none 0 none 0 none 0 none 0 none 0 from ⟨⟨cN,cN,cN,cN,cN⟩,cN,cN⟩).w
theorem TH (B:Nat) (w:World):dJ B w cY KP:=dJ.of (S:=fun _=>False) (fun _ e=>e.elim) fun V _=>Nz V
theorem KQ.len {o:sV} {oc:List Value} (h:KQ o oc):oc.length=23:=by rw [h];rfl
theorem gM {w:World} {p:Nat} {cs:List Value} (r:ai w p cs) (h:cs.length=10):(jv ⟨p,0,none⟩).run Tryz.prog w=.ok (.agg cs.toArray) w:=gA (T:=36) Tryz.underlying36 (by kernel_rfl) r h
theorem AO {w:World} {p:Nat} {cs:List Value} (r:ai w p cs) (h:cs.length=23):(Hj ⟨p,0,none⟩).run Tryz.prog w=.ok (.agg cs.toArray) w:=gA (T:=60) Tryz.underlying60 (by kernel_rfl) r h
def XC (k:Int):FuncId:=if k=1 then 33 else if k=2 then 34 else if k=3 then 35 else 36
theorem nj (m:fo) (cs:List Value) (o:sV) (oc:List Value) (w:World) (r:fo × Int) (H:dD w cs m) (HO:KQ o oc) (hm:eh m=true) (ok:j5 m) (hl:(gP m).length≤90000000) (sm:xx o.cmd) (zU:lz o=true)
  (HB:∀ V jN B,ag w V→B≤V.heap.size→dJ B V jN m→Calls Tryz.prog (XC o.kind) #[.agg jN.toArray,.agg oc.toArray] V (sX B V r)) :
  Calls Tryz.prog 11 #[.agg cs.toArray,.agg oc.toArray] w (sX w.heap.size w r):=by
 obtain ⟨W,hW⟩:∃ W,W=((w.alloc (.cells cs.toArray 36)).alloc (.cells oc.toArray 60)).alloc (.cells #[.int .i64 0,.int .i64 0,.slice none 0 0,.slice none 0 0,.slice none 0 0,.slice none 0 0,.slice none 0 0,.slice none 0 0,.slice none 0 0,.int .i64 0] 36):=⟨_,rfl⟩
 have aW:ag w W:=by rw [hW];exact (((ag.refl w).alloc _).alloc _).alloc _
 have zW:W.heap.size=w.heap.size+3:=by rw [hW];simp
 have r0:ai W w.heap.size cs:=by rw [hW];exact ai.up (ai.up (aR (ag.refl _) (by simp)))
 have r1:ai W (w.heap.size+1) oc:=by rw [hW];exact ai.up (aR (ag.refl _) (by simp))
 have r2:ai W (w.heap.size+1+1) cY:=by rw [hW];exact aR (ag.refl _) (by simp)
 have HA:=gH aW;have HZ:=gH zW;have HR:=gH (And.intro r0 (And.intro r1 r2));have HM:=gH H;have HL:=gH HO.len;have l0:=gM r0 H.len
 have C1:=gH (show Calls Tryz.prog 9 #[.agg cs.toArray] W fun e w'=>e=.returned (.int .i64 0)∧ag W w' from by
  obtain ⟨As,c1,At,c2,An,c3,Am,c4,Ag,c5,Ad,cd,Al,cl,rfl,h⟩:=(H.aA aW).at
  have:=vF m As c1 At c2 An c3 Am c4 Ag c5 Ad cd Al cl W h
  rwa [if_pos hm] at this)
 have C2:=gH (show ∀ V,Calls Tryz.prog 31 #[.agg oc.toArray] V fun e w'=>e=.returned (.bool true)∧ag V w' from fun V=>by
  have:=O3 o sm V;rw [zU] at this;rw [HO]
  exact this)
 have C3:=gH (show ∀ V,ag W V→Calls Tryz.prog 32 #[.agg cs.toArray] V (Tm V m) from fun V a=>Xl m cs V (H.aA (aW.trans a)) ok hl);have HY:=gH (show ∀ V,ai V (w.heap.size+1) oc→V.cell? ⟨w.heap.size+1,0,none⟩=some (.int .i64 o.kind) from fun V r=>r.cell (by rw [HO];rfl))
 have hk:o.kind=1∨o.kind=2∨o.kind=3∨o.kind=4:=by
  unfold lz at zU;by_cases h1:o.kind=1
  ·exact .inl h1
  by_cases h2:o.kind=2
  ·exact .inr (.inl h2)
  by_cases h3:o.kind=3
  ·exact .inr (.inr (.inl h3))
  by_cases h4:o.kind=4
  ·exact .inr (.inr (.inr h4))
  rw [if_neg h1,if_neg h2,if_neg h3,if_neg h4] at zU
  cases zU
 clear aW zW r0 r1 r2 ok hl sm hm zU H HO;obtain ⟨k,oY⟩:∃ k,o.kind=k:=⟨_,rfl⟩;rw [oY] at hk HB HY;clear oY
 rcases hk with rfl | rfl | rfl | rfl
 focus
  have HB:=gH (show ∀ V jN B,ag w V→B≤V.heap.size→dJ B V jN m→Calls Tryz.prog 33 #[.agg jN.toArray,.agg oc.toArray] V (sX B V r) from HB)
 rotate_left
 focus
  have HB:=gH (show ∀ V jN B,ag w V→B≤V.heap.size→dJ B V jN m→Calls Tryz.prog 34 #[.agg jN.toArray,.agg oc.toArray] V (sX B V r) from HB)
 rotate_left
 focus
  have HB:=gH (show ∀ V jN B,ag w V→B≤V.heap.size→dJ B V jN m→Calls Tryz.prog 35 #[.agg jN.toArray,.agg oc.toArray] V (sX B V r) from HB)
 rotate_left
 focus
  have HB:=gH (show ∀ V jN B,ag w V→B≤V.heap.size→dJ B V jN m→Calls Tryz.prog 36 #[.agg jN.toArray,.agg oc.toArray] V (sX B V r) from HB)
 rotate_left
 all_goals
  go_in
  go_upto_region 1 with fail
  rw [← hW];clear hW;go_wp2_with fail;refine C1.out.mono ?_;rintro e w1 ⟨rfl,a1⟩;have R1:=gH (HR.out.2.1.aA a1);have l1:=AO R1.out HL.out;have A1:=gH a1;clear a1 l0;go_wp2_with fail;refine (C2.out w1).mono ?_;rintro e w2 ⟨rfl,a2⟩;have l2:=gM (HR.out.1.aA (A1.out.trans a2)) HM.out.len;have A2:=gH (A1.out.trans a2);clear a2 l1;go_wp2_with fail;refine (C3.out w2 A2.out).mono ?_;rintro e w3 ⟨a3,jN,rfl,m3⟩;have a3:=A2.out.trans a3;obtain ⟨s1,r3,s2,kb⟩:=gG (HR.out.1.aA a3) HM.out.len m3.w;have hz:=HZ.out;have kW:Kb (fun g=>g=w.heap.size) W (w3.setCells w.heap.size 0 jN):=(Kb.aO a3).trans kb;have r4:=kW.row HR.out.2.1 (by omega);have r5:=kW.row HR.out.2.2 (by omega);have l3:=AO r4 HL.out;have y0:=HY.out _ r4
  have aF:=kW.aJ HA.out fun g hg e=>by have e:g=_:=e;omega
  have aF2:=kW.size;have CB:=gH (HB.out _ jN W.heap.size aF aF2 ((m3.down A2.out.size).kb kb fun j e=>.inl (by have e:j=_:=e;omega)));have R5:=gH r5;have AF:=gH aF;clear a3 m3 r3 kb kW r4 r5 aF aF2 l2;go_wp2_with fail;refine CB.out.mono ?_;rintro e w4 ⟨a4,TI,rfl,m4⟩;obtain ⟨s3,r6,s4,kb⟩:=gG (R5.out.aA a4) rfl m4.w;have HE:=gH (show ag w ((w4.setCells (w.heap.size+1+1) 0 TI))∧dJ w.heap.size (w4.setCells (w.heap.size+1+1) 0 TI) TI r.1 from ⟨kb.aJ (AF.out.trans a4) fun g hg e=>by have e:g=_:=e;omega,(m4.kb kb fun j e=>.inl (by have e:j=_:=e;have:=HZ.out;omega)).down (by have:=HZ.out;omega)⟩);have S4:=gH s4;clear a4 m4 r6 kb s4;go_wp2;refine bodyPost_ret (results_cell_tmp (v:=.agg TI.toArray) rfl _ rfl S4.out) rfl ?_;exact ⟨HE.out.1,TI,rfl,HE.out.2⟩
theorem Pj (A:Option Addr) (cap:Nat) (l:List iF) (g:FuncId) (ax:Array Value) (p:iF→Bool) (w:World) (h:az w 5 fj A cap l) (cM:∀ (args:Array Value) (w:World),(callFunc g args).run Tryz.prog w=.ok (.enter g args) w)
  (hp:∀ w',ag w w'→∀ i (hi:i < l.length),Calls Tryz.prog g (#[.agg #[.int .i64 l[i].aC,.int .i64 l[i].number,.int .i64 l[i].code,.int .i64 l[i].fence,.int .i64 l[i].version]]++ax) w' fun e w''=>e=.returned (.bool (p l[i]))∧ag w' w'') :
  Calls Tryz.prog 37 #[.slice A l.length cap,.func (.func g) #[] ax] w fun e w'=>e=.returned (.int .i64 (bu p l))∧ag w w':=by
 have hlen:=h.len;have HC:=gH hp;clear hp
 go_in
 go_wp2_with fail
 go_loopw [8] (fun i wr=>∃ k:Nat,k≤l.length∧i=.int .i64 k∧ag w wr∧∀ j,j < k→∀ (hj:j < l.length),p l[j]=false) (fun i _=>l.length - (intOf i).toNat)
 case atStart=>exact ⟨0,Nat.zero_le _,rfl,ag.refl _,fun j hj=>absurd hj (Nat.not_lt_zero j)⟩
 case round =>
  obtain ⟨k,hk,rfl,ha,hp⟩:=hrel;have HA:=gH ha;have HP:=gH hp;clear hp;by_cases hlt:k < l.length
  ·have dv:=ll ha h
   clear ha;obtain ⟨b,off,rfl,hb,c0,c1,c2,c3,c4⟩:=qP dv hlt;have HK:=gH (HC.out wr HA.out k hlt);clear dv;obtain ⟨q,hq⟩:∃ q,p l[k]=q:=⟨_,rfl⟩;rw [hq] at HK;have HQ:=gH hq;clear hq
   cases q
   ·go_wp2_with fail
    refine HK.out.mono ?_;rintro e w1 ⟨rfl,a1⟩;have dc:=gH (HA.out.trans a1);clear a1;go_wp2
    go_roundw
    case rel=>exact ⟨k+1,by omega,by go_num,dc.out,dG (p:=fun j=>∀ (hj:j < l.length),p l[j]=false) HP.out (fun _=>HQ.out)⟩
    case measure=>simp [intOf];omega
   ·go_wp2_with fail
    refine HK.out.mono ?_;rintro e w1 ⟨rfl,a1⟩;have dc:=gH (HA.out.trans a1);clear a1;go_wp2;go_ret;exact ⟨by rw [eU p l k hlt HQ.out (fun i hi=>HP.out i hi (by omega))];rfl,dc.out⟩
  ·clear ha
   go_wp2;go_ret;exact ⟨by rw [eT p l (fun i hi=>HP.out i (by omega) hi)];rfl,HA.out⟩
theorem Hk (A:Option Addr) (cap:Nat) (l:List eZ) (g:FuncId) (ax:Array Value) (p:eZ→Bool) (w:World) (h:az w 4 fq A cap l) (cM:∀ (args:Array Value) (w:World),(callFunc g args).run Tryz.prog w=.ok (.enter g args) w)
  (hp:∀ w',ag w w'→∀ i (hi:i < l.length),Calls Tryz.prog g (#[.agg #[.int .i64 l[i].seq,.int .i64 l[i].node,.int .i64 l[i].ask,.int .i64 l[i].av]]++ax) w' fun e w''=>e=.returned (.bool (p l[i]))∧ag w' w'') :
  Calls Tryz.prog 39 #[.slice A l.length cap,.func (.func g) #[] ax] w fun e w'=>e=.returned (.int .i64 (bu p l))∧ag w w':=by
 have hlen:=h.len;have HC:=gH hp;clear hp
 go_in
 go_wp2_with fail
 go_loopw [8] (fun i wr=>∃ k:Nat,k≤l.length∧i=.int .i64 k∧ag w wr∧∀ j,j < k→∀ (hj:j < l.length),p l[j]=false) (fun i _=>l.length - (intOf i).toNat)
 case atStart=>exact ⟨0,Nat.zero_le _,rfl,ag.refl _,fun j hj=>absurd hj (Nat.not_lt_zero j)⟩
 case round =>
  obtain ⟨k,hk,rfl,ha,hp⟩:=hrel;have HA:=gH ha;have HP:=gH hp;clear hp;by_cases hlt:k < l.length
  ·have dv:=ln ha h
   clear ha;obtain ⟨b,off,rfl,hb,c0,c1,c2,c3⟩:=oK dv hlt;have HK:=gH (HC.out wr HA.out k hlt);clear dv;obtain ⟨q,hq⟩:∃ q,p l[k]=q:=⟨_,rfl⟩;rw [hq] at HK;have HQ:=gH hq;clear hq
   cases q
   ·go_wp2_with fail
    refine HK.out.mono ?_;rintro e w1 ⟨rfl,a1⟩;have dc:=gH (HA.out.trans a1);clear a1;go_wp2
    go_roundw
    case rel=>exact ⟨k+1,by omega,by go_num,dc.out,dG (p:=fun j=>∀ (hj:j < l.length),p l[j]=false) HP.out (fun _=>HQ.out)⟩
    case measure=>simp [intOf];omega
   ·go_wp2_with fail
    refine HK.out.mono ?_;rintro e w1 ⟨rfl,a1⟩;have dc:=gH (HA.out.trans a1);clear a1;go_wp2;go_ret;exact ⟨by rw [eU p l k hlt HQ.out (fun i hi=>HP.out i hi (by omega))];rfl,dc.out⟩
  ·clear ha
   go_wp2;go_ret;exact ⟨by rw [eT p l (fun i hi=>HP.out i (by omega) hi)];rfl,HA.out⟩
theorem Dd (A:Option Addr) (cap:Nat) (l:List eZ) (g:FuncId) (ax:Array Value) (p:eZ→Bool) (w:World) (h:az w 4 fq A cap l) (cM:∀ (args:Array Value) (w:World),(callFunc g args).run Tryz.prog w=.ok (.enter g args) w)
  (hp:∀ w',ag w w'→∀ i (hi:i < l.length),Calls Tryz.prog g (#[.agg #[.int .i64 l[i].seq,.int .i64 l[i].node,.int .i64 l[i].ask,.int .i64 l[i].av]]++ax) w' fun e w''=>e=.returned (.bool (p l[i]))∧ag w' w'') :
  Calls Tryz.prog 14 #[.slice A l.length cap,.func (.func g) #[] ax] w fun e w'=>e=.returned (.bool (l.any p))∧ag w w':=by
 have C:=gH (Hk A cap l g ax p w h cM hp);have HE:=gH (gU p l);obtain ⟨i,hi⟩:∃ i,bu p l=i:=⟨_,rfl⟩;rw [hi] at C HE;clear hi h hp
 go_in
 go_wp2_with fail;refine C.out.mono ?_;rintro e w1 ⟨rfl,a1⟩;have HA:=gH a1;clear a1;go_wp2;go_ret;exact ⟨by rw [← HE.out];rfl,HA.out⟩
theorem KR (x:iF) (c:Int) (b:Nat) (w:World) (hz:b < w.heap.size) (hc:w.cell? ⟨b,0,none⟩=some (.int .i64 c)) :
  Calls Tryz.prog 38 (#[.agg #[.int .i64 x.aC,.int .i64 x.number,.int .i64 x.code,.int .i64 x.fence,.int .i64 x.version]]++#[.pointer (some ⟨b,0,none⟩)]) w fun e w'=>e=.returned (.bool (x.aC==c))∧ag w w':=by
 have hz1:b < w.heap.size+1:=by omega
 show Calls _ _ #[.agg #[.int .i64 x.aC,.int .i64 x.number,.int .i64 x.code,.int .i64 x.fence,.int .i64 x.version],.pointer (some ⟨b,0,none⟩)] w _
 go_in
 go_wp2;go_ret;refine ⟨?_,by first | exact (ag.refl w).alloc _ | exact ((ag.refl w).alloc _).drew⟩;refine Eq.trans (b:=.returned (.bool _)) rfl (dx (cz ?_));simp
theorem KU (x:eZ) (c:Int) (b:Nat) (w:World) (hz:b < w.heap.size) (hc:w.cell? ⟨b,3,none⟩=some (.int .i64 c)) :
  Calls Tryz.prog 15 (#[.agg #[.int .i64 x.seq,.int .i64 x.node,.int .i64 x.ask,.int .i64 x.av]]++#[.pointer (some ⟨b,0,none⟩)]) w fun e w'=>e=.returned (.bool (decide (x.av < c)))∧ag w w':=by
 have hz1:b < w.heap.size+1:=by omega
 show Calls _ _ #[.agg #[.int .i64 x.seq,.int .i64 x.node,.int .i64 x.ask,.int .i64 x.av],.pointer (some ⟨b,0,none⟩)] w _
 go_in
 go_wp2;go_ret;refine ⟨?_,by first | exact (ag.refl w).alloc _ | exact ((ag.refl w).alloc _).drew⟩;refine Eq.trans (b:=.returned (.bool _)) rfl (dx (cz ?_));simp
theorem Pk (x:eZ) (c:Int) (b:Nat) (w:World) (hz:b < w.heap.size) (hc:w.cell? ⟨b,22,none⟩=some (.int .i64 c)) :
  Calls Tryz.prog 57 (#[.agg #[.int .i64 x.seq,.int .i64 x.node,.int .i64 x.ask,.int .i64 x.av]]++#[.pointer (some ⟨b,0,none⟩)]) w fun e w'=>e=.returned (.bool (x.seq==c))∧ag w w':=by
 have hz1:b < w.heap.size+1:=by omega
 show Calls _ _ #[.agg #[.int .i64 x.seq,.int .i64 x.node,.int .i64 x.ask,.int .i64 x.av],.pointer (some ⟨b,0,none⟩)] w _
 go_in
 go_wp2;go_ret;refine ⟨?_,by first | exact (ag.refl w).alloc _ | exact ((ag.refl w).alloc _).drew⟩;refine Eq.trans (b:=.returned (.bool _)) rfl (dx (cz ?_));simp
theorem uu:(Tryz.prog.info? 55).map (fun i=>(i.zero,i.size,i.bytes))=some (some (.agg #[.int .i64 0,.int .i64 0,.int .i64 0,.int .i64 0]),4,32):=by kernel_rfl
theorem rP (A:Option Addr) (cap:Nat) (l:List eZ) (w0 w:World) (ha:ag w0 w) (h:az w0 4 fq A cap l) (hb:l.length≤1000000) :
  Calls Tryz.prog 55 #[.slice A l.length cap] w (lG 55 4 fq w0 w l):=by
 obtain ⟨i0,hi,hz0,hz1,hz2⟩:=info_parts uu
 have Pm:∀ (w:World) (a:Option Addr) (n c n' c':Nat),(binOp .eql 34 (.slice a n c) (.slice none n' c')).run Tryz.prog w=.ok (.bool a.isNone) w:=fun w a n c n' c'=>Lib.run_eql_slice_nil w _ _ a n c n' c' Tryz.underlying34
 cases A with
 | none =>
  have hl0:l=[]:=by
   cases l with
   | nil=>rfl
   | cons x l=>obtain ⟨b,off,cs,hA,_⟩:=h.2.2 0 (by simp);cases hA
  subst hl0
  go_in
  go_wp2;go_ret;exact ⟨_,[],rfl,ag.refl _,cO _ _ _ _,bL.nil⟩
 | some ad =>
  have HC:∃ bw,bL w0 4 fq bw l∧∀ p u,bw.flatten[p]? = some u→w.cell? (ad.add p)=some u:=by
   by_cases h0:0 < l.length
   ·obtain ⟨b,off,bw,hA,hb',hch,hc⟩:=h.bw h0 (by decide)
    simp only [Option.some.injEq] at hA;subst hA;refine ⟨bw,hch,fun p u hp=>?_⟩
    have hlt:p < l.length*4:=by rw [← hch.len];exact (List.getElem?_eq_some_iff.1 hp).1
    rw [kt];exact ha.cell_kept ((hc p hlt).trans hp)
   ·have hl0:l=[]:=List.eq_nil_of_length_eq_zero (by omega)
    subst hl0;exact ⟨[],bL.nil,fun p u hp=>by simp at hp⟩
  obtain ⟨bw,hch,hcell⟩:=HC;have H1:=gH hcell
  have H2:Hid (∀ u∈bw.flatten,u.oneCell'=true):=gH (by
   intro u hu;obtain ⟨c,hc,hu⟩:=List.mem_flatten.1 hu;obtain ⟨i,hi,rfl⟩:=List.getElem_of_mem hc;have h3:=(hch.2 i hi (by rw [← hch.1];exact hi)).2;have hcs:=h3;unfold fq at hcs;unfold eA at hcs;rw [hcs] at hu;simp only [List.mem_cons,List.not_mem_nil,or_false] at hu
   rcases hu with rfl | rfl | rfl | rfl<;>simp [Value.oneCell'])
  have H3:=gH hch;have HI:=gH hi;have jG:=gH hz0;have jt:=gH hz1;have jX:=gH hz2;clear hcell hch hi hz0 hz1 hz2 h ha
  go_in
  go_wp2_with (at_builtin;refine wpList_append_own _ rfl _ _ 34 rfl w.heap.size 55 i0 (.agg #[.int .i64 0,.int .i64 0,.int .i64 0,.int .i64 0]) 4 32 Tryz.underlying34 HI.out jG.out jt.out jX.out rfl (by decide) _ _ _ rfl (World.ownsRow_made w #[] 0 (Nat.le_refl _) (Nat.zero_le _) rfl) ad l.length cap bw.flatten rfl ?AP ?AQ ?AR ?AU ?AW ?Ba ?_)
  case AP=>exact H3.out.len
  case AQ =>
   intro j u hj;exact Lib.cell?_alloc_some _ (H1.out j u hj)
  case AR=>exact H2.out
  case AU=>unfold maxLen;omega
  case AW=>omega
  case Ba=>simp
  intro v' w1 hown hgrow hnil;have HO:=gH hown;have HA:=gH (show ag w w1 from ((Below.refl _ w).alloc (Nat.le_refl _) _).grown hgrow (by simp) (by intro k hk;simp [Value.ownBlock] at hk;omega));clear hown hgrow hnil;go_wp2;go_ret;refine ⟨v',bw,rfl,HA.out,?_,H3.out⟩
  simpa using HO.out
theorem uv:(Tryz.prog.info? 48).map (fun i=>(i.zero,i.size,i.bytes))=some (some (.agg #[.int .i64 0,.int .i64 0,.int .i64 0,.int .i64 0,.int .i64 0]),5,40):=by kernel_rfl
theorem rQ (A:Option Addr) (cap:Nat) (l:List iF) (w0 w:World) (ha:ag w0 w) (h:az w0 5 fj A cap l) (hb:l.length≤1000000) :
  Calls Tryz.prog 80 #[.slice A l.length cap] w (lG 48 5 fj w0 w l):=by
 obtain ⟨i0,hi,hz0,hz1,hz2⟩:=info_parts uv
 have Pm:∀ (w:World) (a:Option Addr) (n c n' c':Nat),(binOp .eql 33 (.slice a n c) (.slice none n' c')).run Tryz.prog w=.ok (.bool a.isNone) w:=fun w a n c n' c'=>Lib.run_eql_slice_nil w _ _ a n c n' c' Tryz.underlying33
 cases A with
 | none =>
  have hl0:l=[]:=by
   cases l with
   | nil=>rfl
   | cons x l=>obtain ⟨b,off,cs,hA,_⟩:=h.2.2 0 (by simp);cases hA
  subst hl0
  go_in
  go_wp2;go_ret;exact ⟨_,[],rfl,ag.refl _,cO _ _ _ _,bL.nil⟩
 | some ad =>
  have HC:∃ bw,bL w0 5 fj bw l∧∀ p u,bw.flatten[p]? = some u→w.cell? (ad.add p)=some u:=by
   by_cases h0:0 < l.length
   ·obtain ⟨b,off,bw,hA,hb',hch,hc⟩:=h.bw h0 (by decide)
    simp only [Option.some.injEq] at hA;subst hA;refine ⟨bw,hch,fun p u hp=>?_⟩
    have hlt:p < l.length*5:=by rw [← hch.len];exact (List.getElem?_eq_some_iff.1 hp).1
    rw [kt];exact ha.cell_kept ((hc p hlt).trans hp)
   ·have hl0:l=[]:=List.eq_nil_of_length_eq_zero (by omega)
    subst hl0;exact ⟨[],bL.nil,fun p u hp=>by simp at hp⟩
  obtain ⟨bw,hch,hcell⟩:=HC;have H1:=gH hcell
  have H2:Hid (∀ u∈bw.flatten,u.oneCell'=true):=gH (by
   intro u hu;obtain ⟨c,hc,hu⟩:=List.mem_flatten.1 hu;obtain ⟨i,hi,rfl⟩:=List.getElem_of_mem hc;have h3:=(hch.2 i hi (by rw [← hch.1];exact hi)).2;have hcs:=h3;unfold fj at hcs;unfold cj at hcs;rw [hcs] at hu;simp only [List.mem_cons,List.not_mem_nil,or_false] at hu
   rcases hu with rfl | rfl | rfl | rfl | rfl<;>simp [Value.oneCell'])
  have H3:=gH hch;have HI:=gH hi;have jG:=gH hz0;have jt:=gH hz1;have jX:=gH hz2;clear hcell hch hi hz0 hz1 hz2 h ha
  go_in
  go_wp2_with (at_builtin;refine wpList_append_own _ rfl _ _ 33 rfl w.heap.size 48 i0 (.agg #[.int .i64 0,.int .i64 0,.int .i64 0,.int .i64 0,.int .i64 0]) 5 40 Tryz.underlying33 HI.out jG.out jt.out jX.out rfl (by decide) _ _ _ rfl (World.ownsRow_made w #[] 0 (Nat.le_refl _) (Nat.zero_le _) rfl) ad l.length cap bw.flatten rfl ?AP ?AQ ?AR ?AU ?AW ?Ba ?_)
  case AP=>exact H3.out.len
  case AQ =>
   intro j u hj;exact Lib.cell?_alloc_some _ (H1.out j u hj)
  case AR=>exact H2.out
  case AU=>unfold maxLen;omega
  case AW=>omega
  case Ba=>simp
  intro v' w1 hown hgrow hnil;have HO:=gH hown;have HA:=gH (show ag w w1 from ((Below.refl _ w).alloc (Nat.le_refl _) _).grown hgrow (by simp) (by intro k hk;simp [Value.ownBlock] at hk;omega));clear hown hgrow hnil;go_wp2;go_ret;refine ⟨v',bw,rfl,HA.out,?_,H3.out⟩
  simpa using HO.out
def KY (_:eZ):Prop:=True
theorem Pn {w:World} {p:Nat} {a b c d:Value} (R:ai w p [a,b,c,d]):w.cell? ⟨p,0,none⟩=some a∧w.cell? ⟨p,1,none⟩=some b∧w.cell? ⟨p,2,none⟩=some c∧w.cell? ⟨p,3,none⟩=some d∧p < w.heap.size:=⟨R.cell (j:=0) rfl,R.cell (j:=1) rfl,R.cell (j:=2) rfl,R.cell (j:=3) rfl,R.1⟩
theorem Hl {w wr:World} {B g cap n:Nat} {l:List eZ} (h:eD 55 4 eA KY w wr B g cap n l) (hs:Small (n*16)):az wr 4 fq (some ⟨g,0,none⟩) cap l:=by
 have ho:=h.own;have hl:=h.len;subst hl;exact dS (h:=⟨some ⟨g,0,none⟩,l.length,cap⟩) eA ho (fun x hx=>⟨rfl,rfl⟩) hs
theorem Ez {l:List eZ} {m:Nat} (hm:m < l.length) (x:eZ):nk (l.flatMap eA) (m*4) (eA x)=(l.set m x).flatMap eA:=by
 have hs:l.set m x=l.take m++x::l.drop (m+1):=by rw [List.set_eq_take_append_cons_drop,if_pos hm]
 have h0:l.flatMap eA=(l.take m).flatMap eA++eA l[m]++(l.drop (m+1)).flatMap eA:=by
  conv=>lhs;rw [← List.take_append_drop m l,List.drop_eq_getElem_cons hm]
  simp only [List.flatMap_append,List.flatMap_cons,List.append_assoc]
 have ht:((l.take m).flatMap eA).length=m*4:=by rw [cp (size:=4) (fun _=>rfl),List.length_take,Nat.min_eq_left (by omega)]
 rw [h0,hs,← ht,Hm _ (eA l[m]) _ (eA x) rfl];simp only [List.flatMap_append,List.flatMap_cons,List.append_assoc]
theorem EA {w wr:World} {B g cap n m i:Nat} {l:List eZ} (h:eD 55 4 eA KY w wr B g cap n l) (hm:m < l.length) (hi:i < l.length):eD 55 4 eA KY w ((((wr.setCell ⟨g,m*4,none⟩ (.int .i64 (l[i]).seq)).setCell ⟨g,m*4+1,none⟩ (.int .i64 (l[i]).node)).setCell ⟨g,m*4+2,none⟩ (.int .i64 (l[i]).ask)).setCell ⟨g,m*4+3,none⟩ (.int .i64 (l[i]).av)) B g cap n (l.set m l[i]):=by
 refine ⟨?_,by rw [List.length_set];exact h.len,fun x hx=>?_,?_⟩
 ·have h1:=dl (g:=g) rfl (eA l[i]) (m*4) h.own
  have e:=Ez hm l[i];rw [e] at h1;exact h1
 ·rcases List.mem_or_eq_of_mem_set hx with h1 | h1
  ·exact h.sm x h1
  ·subst h1;exact h.sm _ (List.getElem_mem hi)
 ·exact h.kb.trans ((((Kb.set _ _ _ _).trans (Kb.set _ _ _ _)).trans (Kb.set _ _ _ _)).trans (Kb.set _ _ _ _))
def Bb (l:List eZ) (q:eZ→Bool) (v:Value) (B:Nat) (w:World) (e:Ending) (w':World):Prop :=
 ∃ h:Hd,e=.returned h.v∧w'.ownsRow B 55 4 h.v (l.filter fun x=>!q x).length ((l.filter fun x=>!q x).flatMap eA)∧Kb (jZ v) w w'∧∀ g∈h.blk,v.ownBlock=some g
structure kO (q:eZ→Bool) (l l':List eZ) (i j:Nat):Prop where
 len:l'.length=l.length
 kept:l'.take i=(l.take j).filter fun x=>!q x
 rest:l'.drop j=l.drop j
 ij:i < j
 jl:j≤l.length
theorem kO.start {q:eZ→Bool} {l:List eZ} {i:Nat} (hi:i < l.length) (hq:q l[i]=true) (hf:∀ k (hk:k < l.length),k < i→q l[k]=false):kO q l l i (i+1):=by
 refine ⟨rfl,?_,rfl,by omega,by omega⟩;rw [List.take_succ_eq_append_getElem hi,List.filter_append,fU q (l.take i) (fun k hk=>by rw [List.getElem_take];exact hf k (by rw [List.length_take] at hk;omega) (by rw [List.length_take] at hk;omega))];simp [hq]
theorem kO.get {q:eZ→Bool} {l l':List eZ} {i j:Nat} (h:kO q l l' i j) (hj:j < l.length):l'[j]'(by rw [h.len];exact hj)=l[j]:=by
 have h1:=congrArg (fun x=>x[0]?) h.rest;simp only [List.getElem?_drop,Nat.add_zero] at h1;rw [List.getElem?_eq_getElem (by rw [h.len];exact hj),List.getElem?_eq_getElem hj] at h1;exact Option.some.inj h1
theorem kO.skip {q:eZ→Bool} {l l':List eZ} {i j:Nat} (h:kO q l l' i j) (hj:j < l.length) (hq:q l[j]=true):kO q l l' i (j+1):=by
 refine ⟨h.len,?_,?_,by have:=h.ij;omega,by omega⟩
 ·rw [List.take_succ_eq_append_getElem hj,List.filter_append,← h.kept]
  simp [hq]
 ·have:=congrArg (List.drop 1) h.rest
  simpa [List.drop_drop] using this
theorem kO.keep {q:eZ→Bool} {l l':List eZ} {i j:Nat} (h:kO q l l' i j) (hj:j < l.length) (hq:q l[j]=false):kO q l (l'.set i l[j]) (i+1) (j+1):=by
 have mU:=h.ij;have hl:=h.len;refine ⟨by rw [List.length_set];exact h.len,?_,?_,by omega,by omega⟩
 ·rw [List.take_succ_eq_append_getElem hj,List.filter_append,← h.kept,List.take_succ_eq_append_getElem (by rw [List.length_set];omega),List.take_set_of_le (Nat.le_refl _)]
  simp [hq]
 ·rw [List.drop_set_of_lt (by omega)]
  have:=congrArg (List.drop 1) h.rest
  simpa [List.drop_drop] using this
theorem TJ (v:Value) (l:List eZ) (g:FuncId) (ax:Array Value) (q:eZ→Bool) (B:Nat) (w:World) (ho:w.ownsRow B 55 4 v l.length (l.flatMap eA)) (hs:Small (l.length*16)) (iN:∀ A n c,v=.slice A n c→c≤9223372036854775807) (sm:∀ x∈l,KY x) (cM:∀ (args:Array Value) (w:World),(callFunc g args).run Tryz.prog w=.ok (.enter g args) w)
  (hq:∀ w',Kb (jZ v) w w'→∀ x:eZ,KY x→Calls Tryz.prog g (#[.agg #[.int .i64 x.seq,.int .i64 x.node,.int .i64 x.ask,.int .i64 x.av]]++ax) w' fun e w''=>e=.returned (.bool (q x))∧ag w' w'') :
  Calls Tryz.prog 54 #[v,.func (.func g) #[] ax] w (Bb l q v B w):=by
 have hlen:l.length*16≤140737488351232:=hs;obtain ⟨hd,rfl,Hn⟩:=qO ho;obtain ⟨A,n,cap⟩:=hd;have Hn:n=l.length:=Hn;subst Hn
 show Calls Tryz.prog 54 #[.slice A l.length cap,.func (.func g) #[] ax] w (Bb l q (.slice A l.length cap) B w)
 have dv:az w 4 fq A cap l:=dS (h:=⟨A,l.length,cap⟩) eA ho (fun x hx=>⟨rfl,rfl⟩) hs;obtain ⟨k,hk⟩:∃ k,bu q l=k:=⟨_,rfl⟩;have C:=gH (hk▸Hk A cap l g ax q w dv cM (fun w' a i hi=>hq w' (Kb.aO a) l[i] (sm _ (List.getElem_mem hi))));have Po:=aT q l;rw [hk] at Po;by_cases Ho:k < 0
 ·have mS:k = -1:=by omega
  have HF:=gH (show (l.filter fun x=>!q x)=l from fU q l (yj q l (by rw [hk];exact Ho)));subst mS;have HO:=gH ho;clear hk Po dv hq sm ho iN Ho
  go_in
  go_wp2_with fail;refine C.out.mono ?_;rintro e w1 ⟨rfl,a1⟩;have HA:=gH a1;clear a1;go_wp2;go_ret;refine ⟨⟨A,l.length,cap⟩,rfl,?_,Kb.aO HA.out,fun g hg=>Hd.bj.1 hg⟩;rw [HF.out];exact cA HO.out HA.out
 obtain ⟨i,rfl⟩:∃ i:Nat,k=i:=⟨k.toNat,by omega⟩
 have Om:i < l.length:=by omega
 have TK:=gF q l i Om hk;have hst:=kO.start Om TK (fun j hj FQ=>nl q l i hk j hj FQ);obtain ⟨g0,cap',hv,O6,pV,hr⟩:=bU ho (by omega)
 have hv:A=some ⟨g0,0,none⟩∧cap=cap':=by
  have:Value.slice A l.length cap=Value.slice (some ⟨g0,0,none⟩) l.length cap':=hv;simp only [Value.slice.injEq,true_and] at this;exact this
 obtain ⟨rfl,rfl⟩:=hv;have iN:=iN _ _ _ rfl;have hI:eD 55 4 eA KY w w B g0 cap l.length l:=⟨ho,rfl,sm,Kb.refl _ _⟩
 have Bc:∀ w1 w2:World,Kb (fun k=>k=g0) w1 w2→Kb (jZ (.slice (some ⟨g0,0,none⟩) l.length cap)) w1 w2:=fun w1 w2 k=>k.mono fun g _ e=>by subst e;rfl
 have HQ:=gH (show ∀ w',Kb (fun k=>k=g0) w w'→_ from fun w' k=>hq w' (Bc _ _ k));have HI:=gH hI;have HST:=gH hst
 have XD:((i:Int) == -1)=false:=by rw [beq_eq_false_iff_ne];omega
 clear hq hI ho hr sm hk Po hst dv Ho TK
 go_in
 go_wp2_with fail;refine C.out.mono ?_;rintro e w1 ⟨rfl,a1⟩;have HA:=gH a1;clear a1;go_wp2_with fail
 go_loopw [5,6] (fun u5 u6 wr=>∃ (m j:Nat) (l':List eZ),u5=.int .i64 m∧u6=.int .i64 j∧kO q l l' m j∧eD 55 4 eA KY w wr B g0 cap l.length l') (fun _ u6 _=>l.length - (intOf u6).toNat)
 case atStart=>exact ⟨i,i+1,l,rfl,by go_num,HST.out,HI.out.aA HA.out⟩
 case round =>
  obtain ⟨m,j,l',rfl,rfl,hd,hI⟩:=hrel;have HD:=gH hd;have HJ:=gH hI;have pU:=hI.len;have hmj:=hd.ij;have Pp:=hd.jl;by_cases hlt:j < l.length
  ·have hj':j < l'.length:=by omega
   obtain ⟨b,off,yl,hb0,c0,c1,c2,c3⟩:=oK (Hl hI hs) hj';simp only [Option.some.injEq,Addr.mk.injEq,and_true] at yl;obtain ⟨rfl,rfl⟩:=yl;have hg:=hd.get hlt;rw [hg] at c0 c1 c2 c3;obtain ⟨x,hx⟩:∃ x,l[j]=x:=⟨_,rfl⟩;rw [hx] at c0 c1 c2 c3;obtain ⟨r,hr⟩:∃ r,q x=r:=⟨_,rfl⟩;obtain ⟨V,hV⟩:∃ V,V=wr.alloc (.cells #[.int .i64 x.seq,.int .i64 x.node,.int .i64 x.ask,.int .i64 x.av] 55):=⟨_,rfl⟩
   have aV:ag wr V:=by rw [hV];exact (ag.refl _).alloc _
   have RV:=gH (show ai V wr.heap.size [.int .i64 x.seq,.int .i64 x.node,.int .i64 x.ask,.int .i64 x.av] by rw [hV];exact aN (ag.refl _));have Er:=gH aV;have Cc:=gH (hr▸HQ.out V (hI.kb.trans (Kb.aO aV)) x trivial);have HX:=gH hx;have HR:=gH (show q l[j]=r by rw [hx];exact hr);clear hd hI hx hr hg aV;simp only [Nat.zero_add] at c0 c1 c2 c3
   cases r
   ·go_wp2_with fail
    rw [← hV];clear hV;refine Cc.out.mono ?_;rintro e w2 ⟨rfl,a2⟩;obtain ⟨F,hF⟩:∃ F,F=w2:=⟨_,rfl⟩;have Hp:=gH (show eD 55 4 eA KY w F B g0 cap l.length l' from hF▸HJ.out.aA (Er.out.trans a2));have RF:=gH (show ai F wr.heap.size [.int .i64 x.seq,.int .i64 x.node,.int .i64 x.ask,.int .i64 x.av] from hF▸RV.out.aA a2);subst hF;clear a2;obtain ⟨_,_,nC,_,_,jO⟩:=bU Hp.out.own (by omega);simp only [Value.slice.injEq,true_and,Option.some.injEq,Addr.mk.injEq,and_true] at nC;obtain ⟨rfl,rfl⟩:=nC
    have iD:(l'.flatMap eA).length=l.length*4:=by rw [cp (size:=4) (fun _=>rfl),pU]
    obtain ⟨u0,z0⟩:∃ u,F.cell? ⟨g0,m*4,none⟩=some u:=⟨_,by rw [jO.2.1 (m*4) (by rw [iD];omega),List.getElem?_eq_getElem (by rw [iD];omega)]⟩;have y0:F.frozen? ⟨g0,m*4,none⟩=false:=jO.2.2 (m*4) (by rw [iD];omega);obtain ⟨u1,z1⟩:∃ u,F.cell? ⟨g0,m*4+1,none⟩=some u:=⟨_,by rw [jO.2.1 (m*4+1) (by rw [iD];omega),List.getElem?_eq_getElem (by rw [iD];omega)]⟩;have y1:F.frozen? ⟨g0,m*4+1,none⟩=false:=jO.2.2 (m*4+1) (by rw [iD];omega);obtain ⟨u2,z2⟩:∃ u,F.cell? ⟨g0,m*4+2,none⟩=some u:=⟨_,by rw [jO.2.1 (m*4+2) (by rw [iD];omega),List.getElem?_eq_getElem (by rw [iD];omega)]⟩;have y2:F.frozen? ⟨g0,m*4+2,none⟩=false:=jO.2.2 (m*4+2) (by rw [iD];omega);obtain ⟨u3,z3⟩:∃ u,F.cell? ⟨g0,m*4+3,none⟩=some u:=⟨_,by rw [jO.2.1 (m*4+3) (by rw [iD];omega),List.getElem?_eq_getElem (by rw [iD];omega)]⟩;have y3:F.frozen? ⟨g0,m*4+3,none⟩=false:=jO.2.2 (m*4+3) (by rw [iD];omega);have zg:g0 < F.heap.size:=jO.1;obtain ⟨q0,q1,q2,q3,qz⟩:=Pn RF.out;clear jO iD
    have Bd:=gH (show eD 55 4 eA KY w ((((F.setCell ⟨g0,m*4,none⟩ (.int .i64 x.seq)).setCell ⟨g0,m*4+1,none⟩ (.int .i64 x.node)).setCell ⟨g0,m*4+2,none⟩ (.int .i64 x.ask)).setCell ⟨g0,m*4+3,none⟩ (.int .i64 x.av)) B g0 cap l.length (l'.set m l[j]) from by
     have:=EA Hp.out (m:=m) (i:=j) (by omega) hj';rw [HD.out.get hlt,HX.out] at this;rw [HX.out]
     exact this)
    have Hq:=gH (HD.out.keep hlt HR.out)
    have JS:(m:Int) < (l.length:Int):=by omega
    go_wp2
    go_roundw
    case rel=>exact ⟨m+1,j+1,_,by go_num,by go_num,Hq.out,Bd.out⟩
    case measure=>simp [intOf];omega
   ·have Hq:=gH (HD.out.skip hlt HR.out)
    go_wp2_with fail;rw [← hV];clear hV;refine Cc.out.mono ?_;rintro e w2 ⟨rfl,a2⟩;have XE:=gH (HJ.out.aA (Er.out.trans a2));clear a2;go_wp2
    go_roundw
    case rel=>exact ⟨m,j+1,l',rfl,by go_num,Hq.out,XE.out⟩
    case measure=>simp [intOf];omega
  ·have Pq:j=l.length:=by omega
   have hcm:¬ cap=m:=by omega
   obtain ⟨_,_,nC,_,_,jO⟩:=bU hI.own (by omega);simp only [Value.slice.injEq,true_and,Option.some.injEq,Addr.mk.injEq,and_true] at nC;obtain ⟨rfl,rfl⟩:=nC
   have iD:(l'.flatMap eA).length=l.length*4:=by rw [cp (size:=4) (fun _=>rfl),pU]
   have zh:∀ w:World,(zeroValue 55).run Tryz.prog w=.ok (.agg #[.int .i64 0,.int .i64 0,.int .i64 0,.int .i64 0]) w:=fun w=>by kernel_rfl
   obtain ⟨n3,zi⟩:∃ n3,l.length - m=n3:=⟨_,rfl⟩
   have pT:∀ ty,(Builtin.clear_ #[34] ty #[.slice (some ⟨g0,m*4,none⟩) n3 (cap - m)]).run Tryz.prog wr=.ok (.tuple #[]) (wr.setCells g0 (m*4) (Builtin.zeroCells (.agg #[.int .i64 0,.int .i64 0,.int .i64 0,.int .i64 0]:Value).cells n3).toList):=fun ty=>by
    refine jD wr _ _ ty _ Tryz.underlying34 zh (by intro u hu;have hu:u∈([.int .i64 0,.int .i64 0,.int .i64 0,.int .i64 0]:List Value):=hu;simp only [List.mem_cons,List.not_mem_nil,or_false] at hu;rcases hu with rfl | rfl | rfl | rfl<;>rfl) g0 (m*4) (cap - m) n3 (by omega) (fun j hj=>?_) (fun j hj=>?_)
    ·have hj':j < n3*4:=hj
     have hl:m*4+j < (l'.flatMap eA).length:=by rw [iD];omega
     rw [jO.2.1 _ hl,List.getElem?_eq_getElem hl];rfl
    ·have hj':j < n3*4:=hj
     exact jO.2.2 _ (by rw [iD];omega)
   obtain ⟨Z,hZ⟩:∃ Z,Z=wr.setCells g0 (m*4) (Builtin.zeroCells (.agg #[.int .i64 0,.int .i64 0,.int .i64 0,.int .i64 0]:Value).cells n3).toList:=⟨_,rfl⟩;have HZ:=gH (show Kb (fun k=>k=g0) w Z from hZ▸hI.kb.trans (dL g0 _ _ _))
   have HP:=gH (show Bb l q (.slice (some ⟨g0,0,none⟩) l.length cap) B w (.returned (.slice (some ⟨g0,0,none⟩) m cap)) Z from by
    have hm:m=(l.filter fun x=>!q x).length:=by
     have:=congrArg List.length hd.kept;rw [List.length_take,Pq,List.take_length] at this;omega
    have hx:l'.take m=l.filter fun x=>!q x:=by
     have:=hd.kept;rw [Pq,List.take_length] at this;exact this
    refine ⟨⟨some ⟨g0,0,none⟩,m,cap⟩,rfl,?_,Bc _ _ HZ.out,fun g hg=>Hd.bj.1 hg⟩;have o1:=vN (dl (g:=g0) rfl (Builtin.zeroCells (.agg #[.int .i64 0,.int .i64 0,.int .i64 0,.int .i64 0]:Value).cells n3).toList (m*4) hI.own) (m:=m) (by omega);rw [← hZ] at o1
    have e:(nk (l'.flatMap eA) (m*4) (Builtin.zeroCells (.agg #[.int .i64 0,.int .i64 0,.int .i64 0,.int .i64 0]:Value).cells n3).toList).take (m*4)=(l.filter fun x=>!q x).flatMap eA:=by
     rw [iX _ _ _ (by rw [il,iD];show m*4+n3*4≤_;omega),List.append_assoc,List.take_append_of_le_length (by rw [List.length_take,iD];omega),List.take_take,Nat.min_self,kG (size:=4) (fun _=>rfl),hx]
    rw [e] at o1;rw [← hm]
    exact o1)
   rw [← hZ,← zi] at pT
   have k3:(m:Int)≤(l.length:Int):=by omega
   have k5:(l.length:Int)≤(cap:Int):=by omega
   have k6:(m:Int)≤(cap:Int):=by omega
   clear hI jO iD zh hZ zi Bc hd HD HJ HI HST C Pq;go_wp2;go_ret;exact HP.out
end Go.Proofs.YtakddkhipelmjaaGreat
