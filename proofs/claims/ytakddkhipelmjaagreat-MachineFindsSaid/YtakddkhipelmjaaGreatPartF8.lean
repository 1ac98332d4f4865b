import Derived.Shelf.SlSortCmp.WholeK
import Derived.Laws.StructEq
import Derived.Lib.AppendStr
import Derived.Laws.OwnMore
import Derived.Laws.BytesString
import Derived.Laws.BitsAllLaws
import Derived.Test.YtakddkhipelmjaaGreatPartF7
set_option maxRecDepth 100000
set_option linter.unusedVariables false
set_option maxHeartbeats 64000000
namespace Go.Proofs.YtakddkhipelmjaaGreat
open Go.RowKit Go.Deep Go.Shelf Go.Sort
section
variable {α : Type} [Inhabited α]
theorem ug (f:α→List Value) (k:Nat) (hk:∀ x,(f x).length=k) (d:Array α):(flatK f k d).toList=d.toList.flatMap f:=by
 have hl:(d.toList.flatMap f).length=d.size*k:=by rw [cJ hk];simp
 refine List.ext_getElem (by simp [flatK,hl]) fun t h1 h2=>?_
 have ht:t < d.size*k:=by rw [← hl];exact h2
 have k0:0 < k:=by
  rcases Nat.eq_zero_or_pos k with h | h
  ·subst h;simp at ht
  ·exact h
 have hd:t / k < d.size:=Nat.div_lt_of_lt_mul (by rw [Nat.mul_comm];exact ht);have hm:t % k < k:=Nat.mod_lt _ k0;have e:=po (size:=k) (d.toList.map f) (by simp [hk]) (t / k) (t % k) (by simpa using hd) hm;rw [← List.flatMap_def,Nat.div_add_mod' t k] at e;rw [List.getElem?_eq_getElem h2] at e;have e2:(flatK f k d)[t]! = (f d[t / k]!)[t % k]! := get_flatK f k d t ht;rw [getElem!_pos _ t (by rw [size_flatK];exact ht),getElem!_pos d _ hd,getElem!_pos _ _ (by rw [hk];exact hm)] at e2;rw [Array.getElem_toList,e2];simp only [List.getElem_map,Array.getElem_toList] at e;rw [List.getElem?_eq_getElem (by rw [hk];exact hm)] at e;exact (Option.some.inj e).symm
theorem xT (F G:Array Value) (h:F.size=G.size):setMany F 0 G.toList=G:=by
 refine ext_get! (by rw [size_setMany];exact h) fun t ht=>?_
 rw [size_setMany] at ht;rw [get_setMany _ _ _ _ ht,if_pos ⟨Nat.zero_le _,by simpa using (by omega:t < G.size)⟩];simp;rw [getElem!_pos G t (by omega)];simp [List.getElem!_eq_getElem?_getD,Array.getElem?_eq_getElem (show t < G.size by omega)]
theorem qa (w:World) (blk:Nat) (F G:Array Value) (h:Holds id w blk 0 F) (hs:F.size=G.size):putRow id w blk 0 G=w.setCells blk 0 G.toList:=by
 have h1:=putRow_self id w blk 0 F h;have h2:=setCells_putRow w blk 0 G.toList 0 F (by simp [hs]);rw [h1,xT F G hs] at h2;exact h2.symm
theorem DV {w:World} {B k cap blk:Nat} {e:TypeId} (f:α→List Value) (hk:∀ x,(f x).length=k) (l:List α) (h0:0 < l.length) (ho:w.ownsRow B e k (.slice (some ⟨blk,0,none⟩) l.length cap) l.length (l.flatMap f)):HoldsK f k w blk 0 l.toArray:=by
 obtain ⟨g,cap',hv,hB,uW,hr⟩:=cB ho h0
 have:g=blk:=by simp only [Value.slice.injEq,Option.some.injEq,Addr.mk.injEq] at hv;exact hv.1.1.symm
 subst this;intro j hj;rw [size_flatK] at hj
 have hj':j < (l.flatMap f).length:=by rw [cJ hk];simpa using hj
 have e1:=ug f k hk l.toArray;refine ⟨?_,by rw [Nat.zero_add];exact hr.2.2 j hj'⟩;rw [Nat.zero_add,hr.2.1 j hj',id,getElem!_pos _ j (by rw [size_flatK];exact hj),← Array.getElem_toList,List.getElem?_eq_getElem hj']
 congr 1
 exact (List.getElem_of_eq e1 _).symm
theorem wL (w:World) (n:Nat):ag w (Go.Sort.ahead w n):=⟨rfl,rfl,rfl,Nat.le_refl _,fun _ _=>rfl⟩
theorem sL (w:World) (os:Array Obj):ag w (grow w os):=⟨rfl,rfl,rfl,by simp,fun k hk=>heap_grow_old w os hk⟩
def pD (e:TypeId) (k:Nat) (f:α→List Value) (cf:α→α→Int) (w:World) (B blk cap:Nat) (l:List α) (x:Ending) (w':World):Prop :=
 x=.returned (.tuple #[])∧∃ l':List α,l'.Perm l∧(∀ i j (hi:i < l'.length) (hj:j < l'.length),i < j→¬ cf l'[j] l'[i] < 0)∧w'.ownsRow B e k (.slice (some ⟨blk,0,none⟩) l.length cap) l.length (l'.flatMap f)∧Kb (fun j=>j=blk) w w'
theorem yM {P:Program} {ρ:Ren} (L:SlLaysF0.n6 P ρ) (k:Nat) (aE:∀ w,(isAgg (ρ.t 24)).run P w=.ok true w) (zE:∀ w,(Go.sizeOf (ρ.t 24)).run P w=.ok k w) (f:α→List Value) (hk:∀ x,(f x).length=k) (h1:∀ x,∀ v∈f x,v.oneCell'=true) (cf:α→α→Int) (hO:SWO (ltOf cf)) (g:Nat) (cb:Array Value)
  (e:TypeId) (B blk cap:Nat) (l:List α) (h0:0 < l.length) (hsz:l.length≤1000000) (w:World) (ho:w.ownsRow B e k (.slice (some ⟨blk,0,none⟩) l.length cap) l.length (l.flatMap f)) (eg:∀ args w,(callFunc g args).run P w=.ok (.enter g args) w)
  (hc:∀ W x y,Calls P g (#[.agg (f x).toArray,.agg (f y).toArray]++cb) W fun e w'=>e=.returned (.int .i64 (cf x y))∧∃ q os',w'=grow (W.drewN q) os') :
  Calls P (ρ.f 6) #[.slice (some ⟨blk,0,none⟩) l.length cap,.func (.func g) #[] cb] w (pD e k f cf w B blk cap l):=by
 have hH:=DV f hk l h0 ho;have hb:blk < w.heap.size:=(ho.lt blk rfl).2;refine (AnyQ.slices_SortFunc L k aE zE f hk h1 cf hO g cb blk 0 cap l.toArray w eg (fun m os dk _ x y=>hc _ x y) hH hb (by simp;omega)).mono ?_;rintro x w' ⟨rfl,d',n,os,hp,hs,rfl⟩
 have hsize:d'.size=l.length:=by have:=hp.1;simpa using this
 have Xs:∀ d:Array α,d.size=l.length→(d.extract 0 l.toArray.size).toList=d.toList:=fun d hd=>by simp [← hd]
 refine ⟨rfl,d'.toList,?_,fun i j hi hj pg=>?_,?_,?_⟩
 ·have:=hp.2.2
  rw [Xs d' hsize,Xs l.toArray (by simp)] at this
  simpa using this
 ·have mv:j < d'.size:=by simpa using hj
  have:=hs i j (Nat.zero_le _) pg (by simp;omega);rw [getElem!_pos d' j mv,getElem!_pos d' i (by omega)] at this
  simpa [ltOf] using this
 ·unfold sortWorldK putRowK
  rw [qa (Go.Sort.ahead w n) blk (flatK f k l.toArray) (flatK f k d') (holdsK_ahead f k w n blk 0 l.toArray hH) (by simp [hsize])];refine cj ?_ (sL _ os);have h2:=dJ (v:=.slice (some ⟨blk,0,none⟩) l.length cap) (g:=blk) rfl (flatK f k d').toList 0 (cj ho (wL w n));rw [jx _ _ _ (by simp [cJ hk,hsize])] at h2;rw [ug f k hk] at h2 ⊢
  have e3:(d'.toList.flatMap f).length=(l.flatMap f).length:=by rw [cJ hk,cJ hk];simp [hsize]
  rw [List.take_zero,List.nil_append,Nat.zero_add,e3,List.drop_length,List.append_nil] at h2;exact h2
 ·unfold sortWorldK putRowK
  rw [qa (Go.Sort.ahead w n) blk (flatK f k l.toArray) (flatK f k d') (holdsK_ahead f k w n blk 0 l.toArray hH) (by simp [hsize])];exact ((Kb.bl (wL w n)).trans (d9 blk _ _ _)).trans (Kb.bl (sL _ os))
end
theorem uh {α:Type} {c:α→α→Int} (tr:∀ a b d,c a b < 0→c b d < 0→c a d < 0) (dY:∀ a b,c a b = - c b a) {L l':List α} (hL:∀ i j (hi:i < L.length) (hj:j < L.length),i < j→c L[i] L[j] < 0) (hp:l'.Perm L) (hs:∀ i j (hi:i < l'.length) (hj:j < l'.length),i < j→¬ c l'[j] l'[i] < 0):l'=L:=by
 have hw:L.Pairwise fun a b=>c a b < 0:=List.pairwise_iff_getElem.2 fun i j hi hj pg=>hL i j hi hj pg
 have hne:∀ a∈L,∀ b∈L,c a b=0→a=b:=fun a ha b hb e=>by
  obtain ⟨i,hi,rfl⟩:=List.getElem_of_mem ha;obtain ⟨j,hj,rfl⟩:=List.getElem_of_mem hb
  rcases Nat.lt_trichotomy i j with h | h | h
  ·have:=hL i j hi hj h;omega
  ·subst h;rfl
  ·have:=hL j i hj hi h;have:=dY L[j] L[i];omega
 have hle:l'.Pairwise fun a b=>c a b≤0:=List.pairwise_iff_getElem.2 fun i j hi hj pg=>by
  have h1:=hs i j hi hj pg;have h2:=dY l'[i] l'[j];omega
 exact List.Perm.eq_of_pairwise (le:=fun a b=>c a b≤0) (fun a b ha hb h1 h2=>hne a (hp.subset ha) b hb (by have:=dY a b;omega)) hle (hw.imp fun h=>Int.le_of_lt h) hp
theorem Jf {α:Type} {c:α→α→Int} (tr:∀ a b d,c a b < 0→c b d < 0→c a d < 0) (dY:∀ a b,c a b = - c b a) {l l':List α} {x:α} (hr:aM c l=true) (hn:∀ y∈l,c y x≠0) (hp:l'.Perm (l++[x])) (hs:∀ i j (hi:i < l'.length) (hj:j < l'.length),i < j→¬ c l'[j] l'[i] < 0):l'=dv l (em c l x) x:=by
 have hi:=iH tr dY hr hn;refine uh tr dY (fun i j hi' hj pg=>dZ tr hi i j hi' hj pg) (hp.trans ?_) hs;unfold dv;have h1:(l++[x]).Perm ([x]++l):=List.perm_append_comm;have h2:(l.take (em c l x)++[x]).Perm ([x]++l.take (em c l x)):=List.perm_append_comm;refine h1.trans (List.Perm.trans ?_ (h2.append_right _).symm);rw [List.append_assoc,List.take_append_drop]
end Go.Proofs.YtakddkhipelmjaaGreat
namespace Go.Proofs.YtakddkhipelmjaaGreat
open Go.Deep Go.RowKit
structure cF where
 ac:ByteArray
 table:ByteArray
 right:Int
 aI:ByteArray
 to:ByteArray
 opt:Bool
def eM (g:cF):List Value:=[.string g.ac,.string g.table,.int .i64 g.right,.string g.aI,.string g.to,.bool g.opt]
def uw (g:cF):Prop:=Small g.ac.size∧Small g.table.size∧Small g.aI.size∧Small g.to.size∧(Lit.int .i64 g.right).wf=true
def gC (_:World) (cs:List Value) (g:cF):Prop:=cs=eM g∧uw g
structure bX where
 ax:Int
 version:Int
 ah:bF
 ai:fV
 af:List cF
def lJ (a b:Int):Int:=if a < b then -1 else if b < a then 1 else 0
def dR (a b:cF):Int:=eO (aT a.ac b.ac) (eO (aT a.table b.table) (eO (lJ a.right b.right) (eO (aT a.aI b.aI) (aT a.to b.to))))
def g9 (a b:cF):Bool:=aS a.ac b.ac&&(aS a.table b.table&&((a.right==b.right)&&(aS a.aI b.aI&&aS a.to b.to)))
def fg (g:cF):ByteArray × ByteArray × Int × ByteArray × ByteArray:=(g.ac,g.table,g.right,g.aI,g.to)
structure nA {α:Type} (c:α→α→Int):Prop where
 dY:∀ a b,c a b = - c b a
 le:∀ a b d,c a b≤0→c b d≤0→c a d≤0∧(c a d=0→c a b=0∧c b d=0)
theorem qc (x y:Int):eO x y=0↔x=0∧y=0:=by
 unfold eO;by_cases h:x=0
 ·subst h;simp
 ·have:(x==0)=false:=by simpa using h
  rw [this];simp [h]
theorem DW (x y:Int):eO x y≤0↔x < 0∨(x=0∧y≤0):=by
 unfold eO;by_cases h:x=0
 ·subst h;simp
 ·have:(x==0)=false:=by simpa using h
  rw [this];simp only [Bool.false_eq_true,if_false];omega
theorem NW (x y:Int):eO (-x) (-y) = - eO x y:=by
 unfold eO;by_cases h:x=0
 ·subst h;simp
 ·have h1:(x==0)=false:=by simpa using h
  have h2:(-x==0)=false:=by simpa using h
  rw [h1,h2];simp
theorem nA.eO {α:Type} {c d:α→α→Int} (hc:nA c) (hd:nA d):nA fun a b=>eO (c a b) (d a b) where
 dY a b:=by
  show Go.Proofs.YtakddkhipelmjaaGreat.eO (c a b) (d a b) = - Go.Proofs.YtakddkhipelmjaaGreat.eO (c b a) (d b a)
  rw [hc.dY a b,hd.dY a b,NW]
 le x y z h1 h2:=by
  have h1:=(DW _ _).1 h1;have h2:=(DW _ _).1 h2;have k:=hc.le x y z (by omega) (by omega);rw [DW,qc,qc,qc];by_cases e:c x z=0
  ·obtain ⟨e1,e2⟩:=k.2 e
   have m:=hd.le x y z (by omega) (by omega);exact ⟨.inr ⟨e,m.1⟩,fun h=>⟨⟨e1,(m.2 h.2).1⟩,⟨e2,(m.2 h.2).2⟩⟩⟩
  ·exact ⟨.inl (by omega),fun h=>absurd h.1 e⟩
theorem nA.on {α β:Type} {c:α→α→Int} (h:nA c) (f:β→α):nA fun a b=>c (f a) (f b):=⟨fun a b=>h.dY _ _,fun a b d=>h.le _ _ _⟩
theorem nA.Yr {α:Type} {c:α→α→Int} (h:uI c):nA c where
 dY:=h.dY
 le a b d h1 h2:=by
  by_cases e1:c a b=0
  ·have:=h.QL _ _ e1;subst this
   exact ⟨h2,fun e=>⟨h.refl _,e⟩⟩
  ·by_cases e2:c b d=0
   ·have:=h.QL _ _ e2;subst this
    exact ⟨h1,fun e=>⟨e,h.refl _⟩⟩
   ·have:=h.tr a b d (by omega) (by omega)
    exact ⟨by omega,fun e=>by omega⟩
theorem nA.lt {α:Type} {c:α→α→Int} (h:nA c) (a b d:α) (h1:c a b < 0) (h2:c b d < 0):c a d < 0:=by
 have k:=h.le a b d (by omega) (by omega);by_cases e:c a d=0
 ·have:=(k.2 e).1;omega
 ·omega
theorem aaC:nA lJ:=⟨fun a b=>by unfold lJ;split<;>split<;>omega,fun a b d=>by unfold lJ;split<;>split<;>split<;>(try split)<;>(try split)<;>omega⟩
theorem pC:nA dR:=((nA.Yr rO).on cF.ac).eO (((nA.Yr rO).on cF.table).eO ((aaC.on cF.right).eO (((nA.Yr rO).on cF.aI).eO ((nA.Yr rO).on cF.to))))
theorem nK (a b:Int):lJ a b=0↔(a==b)=true:=by
 unfold lJ;rw [beq_iff_eq]
 split
 ·constructor<;>intro h<;>omega
 ·split<;>constructor<;>intro h<;>omega
theorem lf (a b:cF):dR a b=0↔g9 a b=true:=by
 unfold dR g9;simp only [qc,Bool.and_eq_true,dl,nK]
theorem ia (a b:cF):g9 a b=true↔fg a=fg b:=by
 unfold g9 fg;simp only [Bool.and_eq_true,lK,beq_iff_eq,Prod.mk.injEq]
theorem Bz (a b:cF):g9 a b=g9 b a:=by
 rw [Bool.eq_iff_iff,ia,ia];exact eq_comm
def je (l:List cF) (g:cF):Bool:=l.any fun x=>g9 x g
theorem rX (l:List cF) (g:cF):je l g=true↔fg g∈l.map fg:=by
 unfold je;rw [List.any_eq_true,List.mem_map];exact ⟨fun ⟨x,hx,h⟩=>⟨x,hx,(ia _ _).1 h⟩,fun ⟨x,hx,h⟩=>⟨x,hx,(ia _ _).2 h⟩⟩
def cE:ByteArray:=⟨#[114,111,111,116]⟩
def jI (o:bF) (s n:ByteArray):cp:=if bp o.tables s n < 0 then pB else (o.tables[(bp o.tables s n).toNat]?).getD pB
def qP (o:bF) (s:ByteArray):ByteArray:=if cy o.aa s < 0 then ⟨#[]⟩ else ((o.aa[(cy o.aa s).toNat]?).map fJ.owner).getD ⟨#[]⟩
def jL (o:bF) (is:List ByteArray) (t:cp):Bool:=is.any fun r=>aS r cE || aS r t.owner || aS r (qP o t.ac)
def gU (l:List cF) (is:List ByteArray) (s n:ByteArray) (r:Int) (option:Bool):Bool:=l.any fun g=>aS g.ac s&&aS g.table n&&(g.right==r)&&(g.opt || !option)&&cL is g.to
def mM (r:Int):Bool:=r==1 || r==2
def fA (c:bX) (g:cF):Bool:=decide (0≤bp c.ah.tables g.ac g.table)&&mM g.right&&!aS g.aI g.to&&cL c.ai.names g.aI&&cL c.ai.names g.to
def eJ (c:bX):Bool:=c.ah.aa.all (fun s=>cL c.ai.names s.owner)&&c.ah.tables.all (fun t=>cL c.ai.names t.owner)
noncomputable def bv (c:bX):Bool:=decide (c.af.length≤64)&&bw c.ah&&bG c.ai&&cL c.ai.names cE&&eJ c&&(c.af.all (fA c)&&aM dR c.af)
noncomputable def eF (c:bX) (l:List cF) (g:cF):Bool:=jL c.ah (eG c.ai g.aI) (jI c.ah g.ac g.table) || gU l (eG c.ai g.aI) g.ac g.table g.right true
inductive Held (c:bX):cF→Prop
 | mk (g:cF) (l:List cF):g∈c.af→(∀ x∈l,Held c x)→eF c l g=true→Held c g
open Classical in
noncomputable def mQ (c:bX) (g:cF):Bool:=decide (Held c g)
open Classical in
theorem iG {c:bX} {g:cF}:mQ c g=true↔Held c g:=by unfold mQ;exact decide_eq_true_iff
noncomputable def cH (c:bX):List cF:=if bv c then c.af.filter (mQ c) else []
noncomputable def dO (c:bX):Bool:=bv c&&((cH c).length==c.af.length)
theorem AO {l l':List cF} (h:∀ x∈l,x∈l') {is:List ByteArray} {s n:ByteArray} {r:Int} {o:Bool} (hg:gU l is s n r o=true):gU l' is s n r o=true:=by
 unfold gU at hg ⊢;rw [List.any_eq_true] at hg ⊢;obtain ⟨x,hx,e⟩:=hg;exact ⟨x,h x hx,e⟩
theorem DX {c:bX} {l l':List cF} (h:∀ x∈l,x∈l') {g:cF} (hg:eF c l g=true):eF c l' g=true:=by
 unfold eF at hg ⊢;rw [Bool.or_eq_true] at hg ⊢;exact hg.imp id (AO h)
theorem Held.mem {c:bX} {g:cF} (h:Held c g):g∈c.af:=by cases h;assumption
structure iz (c:bX) (l:List cF):Prop where
 sub:∀ x∈l,Held c x
 nd:(l.map fg).Nodup
theorem iz.nil (c:bX):iz c []:=⟨fun x hx=>by simp at hx,by simp⟩
theorem iz.add {c:bX} {l:List cF} (h:iz c l) {g:cF} (hg:g∈c.af) (hn:je l g=false) (hj:eF c l g=true):iz c (l++[g]):=by
 refine ⟨fun x hx=>?_,?_⟩
 ·rcases List.mem_append.1 hx with hx | hx
  ·exact h.sub x hx
  ·rw [List.mem_singleton] at hx;subst hx
   exact .mk x l hg h.sub hj
 ·rw [List.map_append,List.nodup_append]
  refine ⟨h.nd,by simp,fun a ha b hb e=>?_⟩;simp at hb;subst hb;subst e;have:=(rX l g).2 ha;rw [hn] at this;cases this
theorem iz.len {c:bX} {l:List cF} (h:iz c l):l.length≤c.af.length:=by
 have:=pX (l:=l.map fg) (l':=c.af.map fg) h.nd fun x hx=>by
  obtain ⟨y,hy,rfl⟩:=List.mem_map.1 hx;exact List.mem_map.2 ⟨y,(h.sub y hy).mem,rfl⟩
 simpa using this
theorem ui {l:List cF} (h:aM dR l=true):∀ x∈l,∀ y∈l,fg x=fg y→x=y:=fun x hx y hy e=>by
 obtain ⟨i,hi,rfl⟩:=List.getElem_of_mem hx;obtain ⟨j,hj,rfl⟩:=List.getElem_of_mem hy;have e0:dR l[i] l[j]=0:=(lf _ _).2 ((ia _ _).2 e)
 rcases Nat.lt_trichotomy i j with h1 | h1 | h1
 ·have:=dZ pC.lt h i j hi hj h1;omega
 ·subst h1;rfl
 ·have:=dZ pC.lt h j i hj hi h1
  have:=pC.dY l[i] l[j];omega
theorem iz.all {c:bX} {l:List cF} (h:iz c l) (hr:aM dR c.af=true) (hc:∀ g∈c.af,je l g=false→eF c l g=false) (g:cF) (hg:g∈c.af):je l g=true↔Held c g:=by
 have mem:∀ g∈c.af,je l g=true→g∈l:=fun g hg hi=>by
  obtain ⟨y,hy,e⟩:=List.mem_map.1 ((rX _ _).1 hi);have:=ui hr _ ((h.sub y hy).mem) _ hg e;rw [← this];exact hy
 constructor
 ·exact fun hi=>h.sub g (mem g hg hi)
 ·intro hh
  induction hh with
  | mk g m hg _ hj ih =>
   by_cases hi:je l g=true
   ·exact hi
   ·rw [Bool.not_eq_true] at hi
    have h1:=hc g hg hi
    have h2:=DX (l':=l) (fun x hx=>mem x (by
     have:=ih x hx;rename_i hall
     exact (hall x hx).mem) (ih x hx (by rename_i hall;exact (hall x hx).mem))) hj
    rw [h1] at h2;cases h2
theorem wN {α:Type}:∀ {l L:List α},l.Nodup→L.Nodup→(∀ x,x∈l↔x∈L)→l.Perm L
 | [],L,_,_,h=>by
  cases L with
  | nil=>exact .nil
  | cons a L=>have:=(h a).2 (by simp);simp at this
 | a::l,L,hl,hL,h=>by
  obtain ⟨A,B,rfl⟩:=List.append_of_mem ((h a).1 (by simp));have hl':=List.nodup_cons.1 hl;have hp:(A++a::B).Perm (a::(A++B)):=List.perm_middle;have DJ:=List.nodup_cons.1 ((hp.nodup_iff).1 hL);refine (List.Perm.cons a (wN hl'.2 DJ.2 fun x=>?_)).trans hp.symm;have hx:=h x;rw [hp.mem_iff,List.mem_cons,List.mem_cons] at hx
  constructor
  ·intro hm
   rcases hx.1 (.inr hm) with e | e
   ·subst e;exact absurd hm hl'.1
   ·exact e
  ·intro hm
   rcases hx.2 (.inr hm) with e | e
   ·subst e;exact absurd hm DJ.1
   ·exact e
theorem uU {l:List cF} (h:(l.map fg).Nodup):l.Nodup:=by
 induction l with
 | nil=>simp
 | cons a l ih =>
  rw [List.map_cons,List.nodup_cons] at h;exact List.nodup_cons.2 ⟨fun hm=>h.1 (List.mem_map.2 ⟨a,hm,rfl⟩),ih h.2⟩
theorem xU {l:List cF} (h:aM dR l=true):l.Nodup:=by
 rw [List.nodup_iff_pairwise_ne,List.pairwise_iff_getElem];intro i j hi hj pg e;have:=dZ pC.lt h i j hi hj pg;rw [e] at this;have:=pC.dY l[j] l[j];omega
theorem iz.sorted {c:bX} {l l':List cF} (h:iz c l) (hr:aM dR c.af=true) (hc:∀ g∈c.af,je l g=false→eF c l g=false) (hp:l'.Perm l) (hs:∀ i j (hi:i < l'.length) (hj:j < l'.length),i < j→¬ dR l'[j] l'[i] < 0):l'=c.af.filter (mQ c):=by
 have hf:∀ i j (hi:i < (c.af.filter (mQ c)).length) (hj:j < (c.af.filter (mQ c)).length),i < j→dR (c.af.filter (mQ c))[i] (c.af.filter (mQ c))[j] < 0:=by
  have:c.af.Pairwise fun a b=>dR a b < 0:=List.pairwise_iff_getElem.2 fun i j hi hj pg=>dZ pC.lt hr i j hi hj pg
  exact fun i j hi hj pg=>List.pairwise_iff_getElem.1 (this.filter _) i j hi hj pg
 refine uh pC.lt pC.dY hf (hp.trans ?_) hs
 refine wN (uU h.nd) ((xU hr).filter _) fun x=>?_
 rw [List.mem_filter];rw [iG]
 constructor
 ·exact fun hx=>⟨(h.sub x hx).mem,h.sub x hx⟩
 ·rintro ⟨hx,hh⟩
  obtain ⟨y,hy,e⟩:=List.mem_map.1 ((rX _ _).1 ((h.all hr hc x hx).2 hh));rw [← ui hr _ ((h.sub y hy).mem) _ hx e];exact hy
def PD (a:Addr):Sem Value:=loadVar 189 a
@[go_sem ↓] theorem Xt (a:Addr):loadVar 189 a=PD a:=rfl
@[go_sem] theorem Fy (w:World) (b o:Nat) (h0:(w.cell? ⟨b,o,none⟩).isSome=true) (h1:(w.cell? ⟨b,o+1,none⟩).isSome=true) (h2:(w.cell? ⟨b,o+2,none⟩).isSome=true) (h3:(w.cell? ⟨b,o+3,none⟩).isSome=true) (h4:(w.cell? ⟨b,o+4,none⟩).isSome=true):(PD ⟨b,o,none⟩).run Tryz.prog w=.ok (.agg #[(w.cell? ⟨b,o,none⟩).getD undef,(w.cell? ⟨b,o+1,none⟩).getD undef,(w.cell? ⟨b,o+2,none⟩).getD undef,(w.cell? ⟨b,o+3,none⟩).getD undef,(w.cell? ⟨b,o+4,none⟩).getD undef]) w:=fu (P:=Tryz.prog) w 189 _ 5 b o Tryz.underlying189 rfl (by kernel_rfl) (ae _ _ (ae _ _ (ae _ _ (ae _ _ (ae _ _ (fun j hj=>absurd hj (Nat.not_lt_zero j)) h0) h1) h2) h3) h4)
def PE (a:Addr) (v:Value):Sem Unit:=storeVar 189 a v
@[go_sem ↓] theorem Xu (a:Addr) (v:Value):storeVar 189 a v=PE a v:=rfl
@[go_sem] theorem TM (w:World) (b o:Nat) (v0 v1 v2 v3 v4:Value) (h0:(w.cell? ⟨b,o,none⟩).isSome=true) (h1:(w.cell? ⟨b,o+1,none⟩).isSome=true) (h2:(w.cell? ⟨b,o+2,none⟩).isSome=true) (h3:(w.cell? ⟨b,o+3,none⟩).isSome=true) (h4:(w.cell? ⟨b,o+4,none⟩).isSome=true) (f0:w.frozen? ⟨b,o,none⟩=false) (f1:w.frozen? ⟨b,o+1,none⟩=false) (f2:w.frozen? ⟨b,o+2,none⟩=false) (f3:w.frozen? ⟨b,o+3,none⟩=false) (f4:w.frozen? ⟨b,o+4,none⟩=false) (o0:v0.oneCell'=true) (o1:v1.oneCell'=true) (o2:v2.oneCell'=true) (o3:v3.oneCell'=true) (o4:v4.oneCell'=true):(PE ⟨b,o,none⟩ (.agg #[v0,v1,v2,v3,v4])).run Tryz.prog w=.ok () (((((w.setCell ⟨b,o,none⟩ v0).setCell ⟨b,o+1,none⟩ v1).setCell ⟨b,o+2,none⟩ v2).setCell ⟨b,o+3,none⟩ v3).setCell ⟨b,o+4,none⟩ v4):=fE (P:=Tryz.prog) w 189 b o [v0,v1,v2,v3,v4] (by kernel_rfl) (ae _ _ (ae _ _ (ae _ _ (ae _ _ (ae _ _ (fun j hj=>absurd hj (Nat.not_lt_zero j)) ⟨h0,f0,o0⟩) ⟨h1,f1,o1⟩) ⟨h2,f2,o2⟩) ⟨h3,f3,o3⟩) ⟨h4,f4,o4⟩)
def od (s t:ByteArray) (r:Int) (g o:ByteArray) (s2 t2:ByteArray) (r2:Int) (g2 o2:ByteArray):Bool:=aS s s2&&(aS t t2&&((r==r2)&&(aS g g2&&aS o o2)))
theorem GS (w:World) (s t:ByteArray) (r:Int) (g o:ByteArray) (s2 t2:ByteArray) (r2:Int) (g2 o2:ByteArray) :
  (Op.equalIn 10000 189 (.agg #[.string s,.string t,.int .i64 r,.string g,.string o]) (.agg #[.string s2,.string t2,.int .i64 r2,.string g2,.string o2])).run Tryz.prog w=.ok (od s t r g o s2 t2 r2 g2 o2) w:=by
 cases h0:aS s s2
 ·(have O1:=h0;unfold aS at O1;go_simp;simp_all [od])
 have O1:=h0;unfold aS at O1
 cases h1:aS t t2
 ·(have yD:=h1;unfold aS at yD;go_simp;simp_all [od])
 have yD:=h1;unfold aS at yD
 cases h2:(r==r2)
 ·(go_simp;simp_all [od])
 cases h3:aS g g2
 ·(have MK:=h3;unfold aS at MK;go_simp;simp_all [od])
 have MK:=h3;unfold aS at MK
 cases h4:aS o o2
 ·(have LF:=h4;unfold aS at LF;go_simp;simp_all [od])
 ·(have LF:=h4;unfold aS at LF;go_simp;simp_all [od])
@[go_sem ↓] theorem Sx (w:World) (s t:ByteArray) (r:Int) (g o:ByteArray) (s2 t2:ByteArray) (r2:Int) (g2 o2:ByteArray) :
  (binOp .eql 189 (.agg #[.string s,.string t,.int .i64 r,.string g,.string o]) (.agg #[.string s2,.string t2,.int .i64 r2,.string g2,.string o2])).run Tryz.prog w=.ok (.bool (od s t r g o s2 t2 r2 g2 o2)) w:=by
 rw [run_eql_struct,GS];rfl
theorem Iz (a b:cF):od a.ac a.table a.right a.aI a.to b.ac b.table b.right b.aI b.to=g9 a b:=rfl
def xV (s t:ByteArray) (r:Int) (g o:ByteArray) (p:Bool) (s2 t2:ByteArray) (r2:Int) (g2 o2:ByteArray) (p2:Bool):Bool:=aS s s2&&(aS t t2&&((r==r2)&&(aS g g2&&(aS o o2&&(p==p2)))))
theorem GU (w:World) (s t:ByteArray) (r:Int) (g o:ByteArray) (p:Bool) (s2 t2:ByteArray) (r2:Int) (g2 o2:ByteArray) (p2:Bool) :
  (Op.equalIn 10000 177 (.agg #[.string s,.string t,.int .i64 r,.string g,.string o,.bool p]) (.agg #[.string s2,.string t2,.int .i64 r2,.string g2,.string o2,.bool p2])).run Tryz.prog w=.ok (xV s t r g o p s2 t2 r2 g2 o2 p2) w:=by
 cases h0:aS s s2
 ·(have O1:=h0;unfold aS at O1;go_simp;simp_all [xV])
 have O1:=h0;unfold aS at O1
 cases h1:aS t t2
 ·(have yD:=h1;unfold aS at yD;go_simp;simp_all [xV])
 have yD:=h1;unfold aS at yD
 cases h2:(r==r2)
 ·(go_simp;simp_all [xV])
 cases h3:aS g g2
 ·(have MK:=h3;unfold aS at MK;go_simp;simp_all [xV])
 have MK:=h3;unfold aS at MK
 cases h4:aS o o2
 ·(have LF:=h4;unfold aS at LF;go_simp;simp_all [xV])
 have LF:=h4;unfold aS at LF
 cases h5:(p==p2)
 ·(go_simp;simp_all [xV])
 ·(go_simp;simp_all [xV])
@[go_sem ↓] theorem Sy (w:World) (s t:ByteArray) (r:Int) (g o:ByteArray) (p:Bool) (s2 t2:ByteArray) (r2:Int) (g2 o2:ByteArray) (p2:Bool) :
  (binOp .neq 177 (.agg #[.string s,.string t,.int .i64 r,.string g,.string o,.bool p]) (.agg #[.string s2,.string t2,.int .i64 r2,.string g2,.string o2,.bool p2])).run Tryz.prog w=.ok (.bool (!xV s t r g o p s2 t2 r2 g2 o2 p2)) w:=by
 rw [run_neq_struct,GU];rfl
theorem Li:(Tryz.prog.info? 177).map (fun i=>(i.zero,i.size,i.bytes))=some (some (.agg #[.string ByteArray.empty,.string ByteArray.empty,.int .i64 0,.string ByteArray.empty,.string ByteArray.empty,.bool false]),6,80):=by kernel_rfl
theorem pF {ops:Array Oper} {rest:List Oper} {o:Oper} {a:Act} {w:World} {Q:Exit→Act→World→Prop} (hgd:o.guard=none) (s x:Operand)
  (ho:o.op=.call { callee:=.builtin .append,args:=#[s,x],argTypes:=#[30,30] }) (base:Nat) (v:Value) (n:Nat) (xs:List Value) (hs:a.eval s=v) (hown:w.ownsRow base 177 6 v n xs)
  (b:Nat) (y:cF) (hx:a.eval x=.slice (some ⟨b,0,none⟩) 1 1) (hb:w.heap[b]? = some (.cells #[.string y.ac,.string y.table,.int .i64 y.right,.string y.aI,.string y.to,.bool y.opt] 177)) (hn:n≤1000000) (hbase:base≤w.heap.size)
  (h:∀ g cap w',w'.ownsRow base 177 6 (.slice (some ⟨g,0,none⟩) (n+1) cap) (n+1) (xs++eM y)→w.grownBy w' v.ownBlock→(v.ownBlock=some g∨g=w.heap.size)→wpList Tryz.prog ops Q rest (a.put o.dst (.slice (some ⟨g,0,none⟩) (n+1) cap)) w'):wpList Tryz.prog ops Q (o::rest) a w:=by
 obtain ⟨i0,kG,hz0,hz1,hz2⟩:=info_parts Li
 exact wpList_append_lies w hgd s x 30 ho base 177 i0 _ 6 80 Tryz.underlying30 kG hz0 hz1 hz2 rfl (by decide) v n xs hs hown ⟨b,0,none⟩ 1 1 [.string y.ac,.string y.table,.int .i64 y.right,.string y.aI,.string y.to,.bool y.opt] hx rfl (World.news_of_block (cs:=#[.string y.ac,.string y.table,.int .i64 y.right,.string y.aI,.string y.to,.bool y.opt]) (t:=177) (fr:=(0,0)) hb) (by simp [Value.oneCell']) (by omega) (by unfold maxLen;omega) (by omega) hbase _ rfl fun g cap w' h1 h2 h3 _=>h g cap w' h1 h2 h3
def yS (X wr:World) (h:Hd) (l:List cF):Prop:=ag X wr∧wr.ownsRow X.heap.size 177 6 h.v l.length (l.flatMap eM)
theorem yS.start (X:World):yS X X ⟨none,0,0⟩ []:=⟨ag.refl X,cO _ _ _ _⟩
theorem yS.aH {X wr w':World} {h:Hd} {l:List cF} (g:yS X wr h l) (a:ag wr w'):yS X w' h l:=⟨g.1.trans a,cj g.2 a⟩
theorem yS.own {X wr:World} {h:Hd} {l:List cF} (g:yS X wr h l):wr.ownsRow X.heap.size 177 6 (.slice h.a l.length h.c) l.length (l.flatMap eM):=by
 have:=g.2;rw [bY this] at this;exact this
theorem yS.sl {X wr:World} {h:Hd} {l:List cF} (g:yS X wr h l) (hs:∀ x∈l,uw x) (hl:l.length≤1000000):aA wr 6 gC h.a h.c l:=dC eM g.2 (fun x hx=>⟨rfl,rfl,hs x hx⟩) (by unfold Small;omega)
theorem yS.grow {X wr w4 w5:World} {h:Hd} {l:List cF} {y:cF} {gg cap:Nat} (g:yS X wr h l) (a4:ag wr w4) (ho:w5.ownsRow X.heap.size 177 6 (.slice (some ⟨gg,0,none⟩) (l.length+1) cap) (l.length+1) (l.flatMap eM++eM y)) (hg:w4.grownBy w5 (Value.slice h.a l.length h.c).ownBlock) :
  yS X w5 ⟨some ⟨gg,0,none⟩,l.length+1,cap⟩ (l++[y]) :=
 ⟨nB (cj g.own a4) (g.1.trans a4) hg,by rw [List.length_append,List.flatMap_append,List.flatMap_cons,List.flatMap_nil,List.append_nil];exact ho⟩
def yT (name:ByteArray) (kind:Int) (n:Nat) (low high:Int) (ac table key:ByteArray):Bool :=
 decide (n=0)&&emp name&&emp ac&&emp table&&emp key&&(kind==0)&&(low==0)&&(high==0)
theorem I8 (name:ByteArray) (kind:Int) (A:Option Addr) (n c:Nat) (low high:Int) (ac table key:ByteArray) (w:World)
  (h1:name.size≤140737488351232) (h2:ac.size≤140737488351232) (h3:table.size≤140737488351232) (h4:key.size≤140737488351232) :
  Calls Tryz.prog 108 #[.agg #[.string name,.int .i64 kind,.slice A n c,.int .i64 low,.int .i64 high,.string ac,.string table,.string key]] w
   fun e w'=>e=.returned (.bool (yT name kind n low high ac table key))∧ag w w':=by
 go_in
 go_wp2_with fail
 all_goals
  go_ret;refine ⟨Eq.trans (b:=.returned (.bool _)) rfl (cP (bZ ?_)),(ag.refl _).alloc _⟩
  simp_all [yT,emp,iY]
structure iw where
 aD:Int
 number:Int
 code:Int
 fence:Int
 version:Int
structure gS where
 seq:Int
 node:Int
 ask:Int
 ax:Int
def cv (d:iw):List Value:=[.int .i64 d.aD,.int .i64 d.number,.int .i64 d.code,.int .i64 d.fence,.int .i64 d.version]
def eV (l:gS):List Value:=[.int .i64 l.seq,.int .i64 l.node,.int .i64 l.ask,.int .i64 l.ax]
def fQ (_:World) (cs:List Value) (d:iw):Prop:=cs=cv d
def fY (_:World) (cs:List Value) (l:gS):Prop:=cs=eV l
def lH (n lo hi:Int):Bool:=decide (lo≤n)&&decide (n≤hi)
def oA (n:Int):Bool:=lH n 1 1000000000
def yy (n:Int):Bool:=lH n 11 13
def ix {α:Type} (k:α→Int) (p:α→Bool) (l:List α):Nat→Bool
 | 0=>match l[0]? with | some x=>p x | none=>true
 | j+1=>match l[j]?,l[j+1]? with | some y,some x=>decide (k y < k x)&&p x | _,_=>true
def kB {α:Type} (k:α→Int) (p:α→Bool) (l:List α):Bool:=(List.range l.length).all (ix k p l)
section
variable {α : Type} {k : α → Int} {p : α → Bool} {l : List α}
theorem fR (h:0 < l.length):ix k p l 0=p l[0]:=by unfold ix;rw [List.getElem?_eq_getElem h]
theorem eh {j:Nat} (h:j+1 < l.length):ix k p l (j+1)=(decide (k l[j] < k l[j+1])&&p l[j+1]):=by
 show (match l[j]?,l[j+1]? with | some y,some x=>decide (k y < k x)&&p x | _,_=>true)=_
 rw [List.getElem?_eq_getElem h,List.getElem?_eq_getElem (by omega:j < l.length)]
theorem gL {j:Nat} (h:j < l.length) (h2:ix k p l j=false):kB k p l=false:=by
 unfold kB;rw [List.all_eq_false];exact ⟨j,List.mem_range.2 h,by rw [h2];simp⟩
theorem px (h:∀ j,j < l.length→ix k p l j=true):kB k p l=true:=by
 unfold kB;rw [List.all_eq_true]
 exact fun j hj=>h j (List.mem_range.1 hj)
end
def mn (e v:Int) (d:iw):Bool:=lH d.aD 1 4&&oA d.number&&lH d.code 0 65535&&lH d.fence 0 e&&lH d.version 0 v
def lI (e last:Int) (l:gS):Bool:=lH l.seq 1 last&&yy l.node&&oA l.ask&&lH l.ax 0 e
structure gD where
 cat:bX
 aR:List iw
 bN:List gS
 last:Int
abbrev Bt:=List UInt8
def le:Nat→Nat→Bt
 | 0,_=>[]
 | k+1,v=>UInt8.ofNat v::le k (v / 256)
def oy:Bt→Nat
 | []=>0
 | b::l=>b.toNat+256*oy l
theorem il:∀ k v,(le k v).length=k
 | 0,_=>rfl
 | k+1,v=>by rw [le,List.length_cons,il]
theorem xW:∀ k v,oy (le k v)=v % 256 ^ k
 | 0,v=>by simp [le,oy,Nat.mod_one]
 | k+1,v=>by
  rw [le,oy,xW k,Nat.pow_succ,Nat.mul_comm (256 ^ k),Nat.mod_mul,UInt8.toNat_ofNat']
theorem xX:∀ l:Bt,oy l < 256 ^ l.length
 | []=>by decide
 | b::l=>by
  have:=xX l;have:=b.toNat_lt;rw [oy,List.length_cons,Nat.pow_succ];omega
def bO (n:Int):Bt:=le 4 n.toNat
def mj (n:Int):Bt:=le 8 (n % 18446744073709551616).toNat
def cC (s:ByteArray):Bt:=le 4 s.size++s.data.toList
def LL (b:Bool):Bt:=[if b then 1 else 0]
def cG {α:Type} (e:α→Bt) (l:List α):Bt:=bO l.length++l.flatMap e
def cV (l:Bt):Option (Int × Bt):=if 4≤l.length∧oy (l.take 4)≤1000000000 then some (oy (l.take 4),l.drop 4) else none
def Xv (v:Nat):Int:=if v < 9223372036854775808 then v else v - 18446744073709551616
def oZ (l:Bt):Option (Int × Bt):=if 8≤l.length then some (Xv (oy (l.take 8)),l.drop 8) else none
def eo (l:Bt):Option (ByteArray × Bt):=if 4≤l.length∧oy (l.take 4)≤65536∧oy (l.take 4)≤l.length - 4 then some (⟨((l.drop 4).take (oy (l.take 4))).toArray⟩,l.drop (4+oy (l.take 4))) else none
def GV:Bt→Option (Bool × Bt)
 | []=>none
 | b::l=>if b≤1 then some (b==1,l) else none
def gP {α:Type} (d:Bt→Option (α × Bt)):Nat→Bt→Option (List α × Bt)
 | 0,l=>some ([],l)
 | n+1,l=>(d l).bind fun (x,l)=>(gP d n l).map fun (xs,l)=>(x::xs,l)
def cA {α:Type} (d:Bt→Option (α × Bt)) (l:Bt):Option (List α × Bt):=(cV l).bind fun (n,l)=>if n≤4096 then gP d n.toNat l else none
def Rt {α:Type} (e:α→Bt) (d:Bt→Option (α × Bt)) (ok:α→Prop):Prop:=∀ x r,ok x→d (e x++r)=some (x,r)
def ya (n:Int):Prop:=0≤n∧n≤1000000000
def UB (n:Int):Prop := -9223372036854775808≤n∧n≤9223372036854775807
def qM (s:ByteArray):Prop:=s.size≤65536
def uk {α:Type} (ok:α→Prop) (l:List α):Prop:=l.length≤4096∧∀ x∈l,ok x
theorem xY (k v:Nat) (r:Bt):(le k v++r).take k=le k v:=by
 rw [List.take_append_of_le_length (by rw [il];exact Nat.le_refl _),List.take_of_length_le (by rw [il];exact Nat.le_refl _)]
theorem su (k v:Nat) (r:Bt):(le k v++r).drop k=r:=by
 have:=@List.drop_left _ (le k v) r
 rwa [il] at this
theorem gA:Rt bO cV ya:=fun n r ⟨h0,h1⟩=>by
 have hv:n.toNat % 256 ^ 4=n.toNat:=Nat.mod_eq_of_lt (by omega);unfold cV bO;rw [xY,su,xW,hv,if_pos ⟨by rw [List.length_append,il];omega,by omega⟩,Int.toNat_of_nonneg h0]
theorem Lj:Rt mj oZ UB:=fun n r ⟨h0,h1⟩=>by
 have hv:(n % 18446744073709551616).toNat % 256 ^ 8=(n % 18446744073709551616).toNat:=Nat.mod_eq_of_lt (by omega);unfold oZ mj;rw [xY,su,xW,hv,if_pos (by rw [List.length_append,il];omega)]
 congr 2
 unfold Xv
 split<;>omega
theorem fI:Rt cC eo qM:=fun s r h=>by
 have h:s.size≤65536:=h;have hv:s.size % 256 ^ 4=s.size:=Nat.mod_eq_of_lt (by omega);have hz:s.data.toList.length=s.size:=rfl;unfold eo cC;rw [List.append_assoc,xY,su,xW,hv,if_pos ⟨by rw [List.length_append,il];omega,h,by rw [List.length_append,List.length_append,il];omega⟩];rw [← List.drop_drop,su,← hz,List.take_left,List.drop_left]
theorem Lk:Rt LL GV (fun _=>True):=fun b r _=>by cases b<;>rfl
theorem Ll {α:Type} {e:α→Bt} {d:Bt→Option (α × Bt)} {ok:α→Prop} (h:Rt e d ok):∀ (l:List α) (r:Bt),(∀ x∈l,ok x)→gP d l.length (l.flatMap e++r)=some (l,r)
 | [],r,_=>rfl
 | x::l,r,hl=>by
  have h1:=h x (l.flatMap e++r) (hl x (List.mem_cons_self ..))
  have h2:=Ll h l r fun y hy=>hl y (List.mem_cons_of_mem _ hy)
  rw [List.flatMap_cons,List.append_assoc,List.length_cons,gP,h1];simp [h2]
theorem kN {α:Type} {e:α→Bt} {d:Bt→Option (α × Bt)} {ok:α→Prop} (h:Rt e d ok):Rt (cG e) (cA d) (uk ok):=fun l r hl=>by
 have h1:=hl.1;have h2:=gA (l.length:Int) (l.flatMap e++r) ⟨by omega,by omega⟩;unfold cA cG;rw [List.append_assoc,h2];simp only [Option.bind_some,Int.toNat_natCast];rw [if_pos (by omega),Ll h l r hl.2]
def lD (c:eB):Bt:=cC c.name++(bO c.kind++LL c.null)
def ml (x:fF):Bt:=cC x.name++(bO x.kind++(cG cC x.av++(mj x.low++(mj x.high++(cC x.ac++(cC x.table++cC x.key))))))
def kA (t:cp):Bt:=cC t.ac++(cC t.name++(cC t.owner++(cG lD t.av++cG ml t.rules)))
def j6 (s:fJ):Bt:=cC s.name++cC s.owner
def lF (m:dP):Bt:=cC m.role++cC m.of
def mm (g:cF):Bt:=cC g.ac++(cC g.table++(bO g.right++(cC g.aI++(cC g.to++LL g.opt))))
def sG (c:bX):Bt:=bO c.ax++(bO c.version++(cG j6 c.ah.aa++(cG kA c.ah.tables++(cG cC c.ai.names++(cG lF c.ai.members++cG mm c.af)))))
def lc (d:iw):Bt:=bO d.aD++(bO d.number++(bO d.code++(bO d.fence++bO d.version)))
def lG (l:gS):Bt:=bO l.seq++(bO l.node++(bO l.ask++bO l.ax))
def jq (m:gD):Bt:=sG m.cat++(cG lc m.aR++(cG lG m.bN++bO m.last))
def jZ (l:Bt):Option (eB × Bt):=(eo l).bind fun (n,l)=>(cV l).bind fun (k,l)=>(GV l).map fun (u,l)=>(⟨n,k,u⟩,l)
def gB (l:Bt):Option (fF × Bt):=(eo l).bind fun (n,l)=>(cV l).bind fun (k,l)=>(cA eo l).bind fun (c,l)=>(oZ l).bind fun (a,l)=>(oZ l).bind fun (b,l)=>(eo l).bind fun (s,l)=>(eo l).bind fun (t,l)=>(eo l).map fun (q,l)=>(⟨n,k,c,a,b,s,t,q⟩,l)
def iK (l:Bt):Option (cp × Bt):=(eo l).bind fun (s,l)=>(eo l).bind fun (n,l)=>(eo l).bind fun (o,l)=>(cA jZ l).bind fun (c,l)=>(cA gB l).map fun (r,l)=>(⟨s,n,o,c,r⟩,l)
def kO (l:Bt):Option (fJ × Bt):=(eo l).bind fun (n,l)=>(eo l).map fun (o,l)=>(⟨n,o⟩,l)
def kz (l:Bt):Option (dP × Bt):=(eo l).bind fun (n,l)=>(eo l).map fun (o,l)=>(⟨n,o⟩,l)
def ik (l:Bt):Option (cF × Bt):=(eo l).bind fun (s,l)=>(eo l).bind fun (t,l)=>(cV l).bind fun (r,l)=>(eo l).bind fun (b,l)=>(eo l).bind fun (o,l)=>(GV l).map fun (p,l)=>(⟨s,t,r,b,o,p⟩,l)
def lC (l:Bt):Option (bX × Bt):=(cV l).bind fun (e,l)=>(cV l).bind fun (v,l)=>(cA kO l).bind fun (s,l)=>(cA iK l).bind fun (t,l)=>(cA eo l).bind fun (n,l)=>(cA kz l).bind fun (m,l)=>(cA ik l).map fun (g,l)=>(⟨e,v,⟨s,t⟩,⟨n,m⟩,g⟩,l)
def iD (l:Bt):Option (iw × Bt):=(cV l).bind fun (a,l)=>(cV l).bind fun (b,l)=>(cV l).bind fun (c,l)=>(cV l).bind fun (d,l)=>(cV l).map fun (e,l)=>(⟨a,b,c,d,e⟩,l)
def jb (l:Bt):Option (gS × Bt):=(cV l).bind fun (a,l)=>(cV l).bind fun (b,l)=>(cV l).bind fun (c,l)=>(cV l).map fun (d,l)=>(⟨a,b,c,d⟩,l)
def nS (l:Bt):Option (gD × Bt):=(lC l).bind fun (c,l)=>(cA iD l).bind fun (d,l)=>(cA jb l).bind fun (e,l)=>(cV l).map fun (n,l)=>(⟨c,d,e,n⟩,l)
structure D8 (c:eB):Prop where
 n:qM c.name
 k:ya c.kind
structure D9 (x:fF):Prop where
 n:qM x.name
 k:ya x.kind
 c:uk qM x.av
 a:UB x.low
 b:UB x.high
 s:qM x.ac
 t:qM x.table
 q:qM x.key
structure Ea (t:cp):Prop where
 s:qM t.ac
 n:qM t.name
 o:qM t.owner
 c:uk D8 t.av
 r:uk D9 t.rules
structure Eb (s:fJ):Prop where
 n:qM s.name
 o:qM s.owner
structure Ec (s:dP):Prop where
 n:qM s.role
 o:qM s.of
structure Ed (g:cF):Prop where
 s:qM g.ac
 t:qM g.table
 r:ya g.right
 b:qM g.aI
 o:qM g.to
structure yv (c:bX):Prop where
 e:ya c.ax
 v:ya c.version
 s:uk Eb c.ah.aa
 t:uk Ea c.ah.tables
 n:uk qM c.ai.names
 m:uk Ec c.ai.members
 g:uk Ed c.af
structure Ee (x:iw):Prop where
 a:ya x.aD
 b:ya x.number
 c:ya x.code
 d:ya x.fence
 e:ya x.version
structure Ef (l:gS):Prop where
 a:ya l.seq
 b:ya l.node
 c:ya l.ask
 d:ya l.ax
structure nZ (m:gD):Prop where
 c:yv m.cat
 d:uk Ee m.aR
 l:uk Ef m.bN
 n:ya m.last
theorem Sz:Rt lD jZ D8:=fun x r h=>by
 simp only [lD,jZ,List.append_assoc,fI _ _ h.n,gA _ _ h.k,Lk _ _ trivial,Option.bind_some,Option.map_some]
theorem SA:Rt ml gB D9:=fun x r h=>by
 simp only [ml,gB,List.append_assoc,fI _ _ h.n,gA _ _ h.k,kN fI _ _ h.c,Lj _ _ h.a,Lj _ _ h.b,fI _ _ h.s,fI _ _ h.t,fI _ _ h.q,Option.bind_some,Option.map_some]
theorem SB:Rt kA iK Ea:=fun x r h=>by
 simp only [kA,iK,List.append_assoc,fI _ _ h.s,fI _ _ h.n,fI _ _ h.o,kN Sz _ _ h.c,kN SA _ _ h.r,Option.bind_some,Option.map_some]
theorem SC:Rt j6 kO Eb:=fun x r h=>by
 simp only [j6,kO,List.append_assoc,fI _ _ h.n,fI _ _ h.o,Option.bind_some,Option.map_some]
theorem SD:Rt lF kz Ec:=fun x r h=>by
 simp only [lF,kz,List.append_assoc,fI _ _ h.n,fI _ _ h.o,Option.bind_some,Option.map_some]
theorem SE:Rt mm ik Ed:=fun x r h=>by
 simp only [mm,ik,List.append_assoc,fI _ _ h.s,fI _ _ h.t,gA _ _ h.r,fI _ _ h.b,fI _ _ h.o,Lk _ _ trivial,Option.bind_some,Option.map_some]
theorem SF:Rt sG lC yv:=fun x r h=>by
 simp only [sG,lC,List.append_assoc,gA _ _ h.e,gA _ _ h.v,kN SC _ _ h.s,kN SB _ _ h.t,kN fI _ _ h.n,kN SD _ _ h.m,kN SE _ _ h.g,Option.bind_some,Option.map_some]
theorem SH:Rt lc iD Ee:=fun x r h=>by
 simp only [lc,iD,List.append_assoc,gA _ _ h.a,gA _ _ h.b,gA _ _ h.c,gA _ _ h.d,gA _ _ h.e,Option.bind_some,Option.map_some]
theorem SJ:Rt lG jb Ef:=fun x r h=>by
 simp only [lG,jb,List.append_assoc,gA _ _ h.a,gA _ _ h.b,gA _ _ h.c,gA _ _ h.d,Option.bind_some,Option.map_some]
theorem QD:Rt jq nS nZ:=fun x r h=>by
 simp only [jq,nS,List.append_assoc,SF _ _ h.c,kN SH _ _ h.d,kN SJ _ _ h.l,gA _ _ h.n,Option.bind_some,Option.map_some]
def Fo (b:UInt8):List Value:=[.int .u8 b.toNat]
def wQ (_:World) (cs:List Value) (b:UInt8):Prop:=cs=Fo b
def jD (l:Bt):List Value:=l.flatMap Fo
theorem fM (l:Bt):(jD l).length=l.length:=by unfold jD;induction l<;>simp_all [Fo]
theorem qd:∀ l:Bt,jD l=l.map fun b=>Value.int .u8 b.toNat
 | []=>rfl
 | b::l=>by rw [jD,List.flatMap_cons,List.map_cons,← qd l];rfl
theorem rU (a b:Bt):jD (a++b)=jD a++jD b:=by simp [jD]
theorem NX (l:Bt):∀ u∈jD l,u.oneCell'=true:=by
 intro u hu;obtain ⟨b,_,hb⟩:=List.mem_flatMap.1 hu;rw [Fo,List.mem_singleton] at hb;subst hb;rfl
theorem E9:∀ k v,le (k+1) v=le k v++[UInt8.ofNat (v / 256 ^ k)]
 | 0,v=>by simp [le]
 | k+1,v=>by
  rw [le,E9 k,le,Nat.div_div_eq_div_mul,Nat.pow_succ,Nat.mul_comm 256];rfl
theorem NY:(Tryz.prog.info? 5).map (fun i=>(i.zero,i.size,i.bytes))=some (some (.int .u8 0),1,1):=by kernel_rfl
theorem mJ:∃ i,Tryz.prog.info? 5=some i∧i.zero=some (.int .u8 0)∧i.size=1∧i.bytes=1:=by
 have h:=NY
 cases hi:Tryz.prog.info? 5 with
 | none=>rw [hi] at h;cases h
 | some i =>
  rw [hi] at h;simp only [Option.map_some,Option.some.injEq,Prod.mk.injEq] at h;exact ⟨i,rfl,h.1,h.2.1,h.2.2⟩
def rR (l:Bt) (v n k:Nat):List Value:=jD l++(jD (le k v)++List.replicate (n - k) (.int .u8 0))
theorem Lm (l:Bt) (v n k:Nat) (hk:k≤n):(rR l v n k).length=l.length+n:=by
 unfold rR;rw [List.length_append,List.length_append,fM,fM,il,List.length_replicate];omega
theorem Ln (l:Bt) (v n k:Nat) (hk:k < n):(rR l v n k).set (l.length+k) (.int .u8 (UInt8.ofNat (v / 256 ^ k)).toNat)=rR l v n (k+1):=by
 unfold rR
 have e:n - k=(n - (k+1))+1:=by omega
 rw [e,List.replicate_succ,E9,rU];have h1:=fM l
 have h2:(jD (le k v)).length=k:=by rw [fM,il]
 rw [List.set_append_right _ _ (by omega),List.set_append_right _ _ (by omega),h1,h2];rw [show l.length+k - l.length - k=0 by omega,List.set_cons_zero];simp [Fo,jD]
theorem Lp (l:Bt) (v n:Nat):rR l v n n=jD (l++le n v):=by
 unfold rR;rw [Nat.sub_self,List.replicate_zero,List.append_nil,rU]
theorem Fa (m:Nat):(madeCells (Value.int .u8 0).cells (m*1)).toList=List.replicate m (.int .u8 0):=by
 refine List.ext_getElem (by simp [size_madeCells]) fun i h1 h2=>?_
 simp [madeCells,Value.cells,Nat.mod_one]
theorem rG (w:World) (ty:TypeId) (g m cap:Nat) (A:Option Addr) (l:Bt) (hx:aA w 1 wQ A cap l) (hm:l.length≤m) (xs:List Value) (hr:au w g xs) (hl:l.length≤xs.length) :
  (Builtin.copy_ #[84,84] ty #[.slice (some ⟨g,0,none⟩) m m,.slice A l.length cap]).run Tryz.prog w=.ok (.int .i64 l.length) (w.setCells g 0 (jD l)):=by
 obtain ⟨i,hi,hz,hs,hb⟩:=mJ;have aaD:Nat.min l.length m=l.length:=Nat.min_eq_left hm
 cases A with
 | none =>
  cases l with
  | nil =>
   simp [Builtin.copy_,run_underlying Tryz.underlying84,Builtin.lenOf,Builtin.firstCells,sizeOf,typeInfo,hi,hs];rfl
  | cons b l=>obtain ⟨_,_,_,h,_⟩:=hx.2.2 0 (by simp);cases h
 | some a =>
  have Dq:∀ j v,(jD l)[j]? = some v→w.cell? (a.add j)=some v:=fun j v hj=>by
   have QY:j < l.length:=by rw [← fM];exact (List.getElem?_eq_some_iff.1 hj).1
   obtain ⟨b,off,cs,hA,_,_,hR,hc⟩:=hx.2.2 j QY
   injection hA with hA
   subst hA;have h0:=hc 0 (by omega)
   have e:(jD l)[j]? = some (.int .u8 l[j].toNat):=by
    rw [qd,List.getElem?_map,List.getElem?_eq_getElem QY];rfl
   rw [e] at hj
   cases hj
   rw [hR] at h0
   have h0:w.cell? ⟨b,off+j,none⟩=some (.int .u8 l[j].toNat):=by simpa [Fo] using h0
   by_cases Xw:j=0
   ·subst Xw;simpa [Addr.add] using h0
   ·simpa [Addr.add,Xw] using h0
  have:=Dp (P:=Tryz.prog) w 84 84 ty 5 1 g 0 m m a l.length cap l.length (jD l) Tryz.underlying84 (by rw [hi];simp [hs]) aaD (by rw [fM];omega) Dq
   (fun j hj=>by rw [fM] at hj;rw [Nat.zero_add,hr.2.1 j (by omega),List.getElem?_eq_getElem (by omega)];rfl) (fun j hj=>by rw [fM] at hj;rw [Nat.zero_add];exact hr.2.2 j (by omega)) (NX l)
  exact this
theorem xZ (l:Bt) (A:Option Addr) (cap v n:Nat) (hn:n≤8) (hv:v < 18446744073709551616) (hl:l.length≤1000000000) (w:World) (hx:aA w 1 wQ A cap l) :
  Calls Tryz.prog 236 #[.slice A l.length cap,.int .u64 v,.int .i64 n] w fun e w'=>∃ m,e=.returned (.slice (some ⟨m,0,none⟩) (l.length+n) (l.length+n))∧ag w w'∧w'.ownsRow w.heap.size 5 1 (.slice (some ⟨m,0,none⟩) (l.length+n) (l.length+n)) (l.length+n) (jD (l++le n v)):=by
 obtain ⟨i,hi,hz,hs,hb⟩:=mJ;obtain ⟨m,hm⟩:∃ m,l.length+n=m:=⟨_,rfl⟩;obtain ⟨w1,hr1,nT,hg1⟩:=run_make_full w w.heap.size 84 5 i (.int .u8 0) 1 Tryz.underlying84 hi hz hs .i64 .i64 m (by rw [hb];omega) (by unfold maxLen;omega) (Nat.le_refl _);rw [Fa] at nT;obtain ⟨g,hg⟩:∃ g,g=w.heap.size:=⟨_,rfl⟩;rw [← hg] at hr1 nT;have a1:ag w w1:=⟨hg1.os,hg1.tape,hg1.output,hg1.size,fun k hk=>hg1.block k hk (fun e=>by cases e)⟩
 have hx1:=hx.aH a1 fun _ _ h=>h
 have rr:au w1 g (List.replicate m (.int .u8 0)):=by
  by_cases h0:0 < m
  ·obtain ⟨g',cap',hv',_,_,Jm⟩:=cB nT h0
   injection hv' with hv' _ _
   injection hv' with hv'
   injection hv' with hv' _ _
   subst hv';exact Jm
  ·have:m=0:=by omega
   subst this;refine ⟨?_,fun j hj=>(by simp at hj),fun j hj=>(by simp at hj)⟩;have:=nT.2
   rcases this with h | ⟨g',cap',cur,hv',_,pd,_⟩
   ·exact absurd h.1 (by simp)
   ·injection hv' with hv' _ _
    injection hv' with hv'
    injection hv' with hv' _ _
    subst hv';exact lt_of_block pd
 have Ys:=fun ty=>rG w1 ty g m cap A l hx1 (by omega) _ rr (by simp;omega)
 obtain ⟨w2,hw2⟩:∃ w2,w1.setCells g 0 (jD l)=w2:=⟨_,rfl⟩
 have o2:w2.ownsRow w.heap.size 5 1 (.slice (some ⟨g,0,none⟩) m m) m (rR l v n 0):=by
  have h:=dJ (g:=g) rfl (jD l) 0 nT;rw [hw2,jx _ _ _ (by rw [fM];simp;omega),fM] at h;rw [hg];rw [hg] at h
  have e:rR l v n 0=List.take 0 (List.replicate m (Value.int .u8 0))++jD l++List.drop (0+l.length) (List.replicate m (Value.int .u8 0)):=by
   unfold rR;rw [List.take_zero,List.nil_append,Nat.zero_add,List.drop_replicate,← hm];simp [le,jD]
  rw [e];exact h
 have a2:ag w w2:=by
  rw [← hw2];exact (d9 g (jD l) w1 0).aN a1 (fun k hk e=>by omega)
 rw [hw2] at Ys
 have F7:(m:Int)=(l.length:Int)+n:=by omega
 rw [F7] at hr1;have HO:=gH o2;have HA:=gH a2;have HG:=gH hg;have HM:=gH hm;clear hi hz hs hb nT hg1 a1 hx1 rr hw2 hg o2 a2 hx F7
 go_in
 go_wp2_with fail
 go_loopw [18] (fun i wr=>∃ k:Nat,k≤n∧i=.int .i64 k∧Hid (wr.ownsRow w.heap.size 5 1 (.slice (some ⟨g,0,none⟩) m m) m (rR l v n k)∧ag w wr)) (fun i _=>n - (intOf i).toNat)
 case atStart=>exact ⟨0,Nat.zero_le _,rfl,gH ⟨HO.out,HA.out⟩⟩
 case round =>
  obtain ⟨k,hk,rfl,HR⟩:=hrel;by_cases hlt:k < n
  ·have fj:(k:Int) < (n:Int):=by omega
   obtain ⟨g',cap',hv',_,_,Jm⟩:=cB HR.out.1 (by omega)
   injection hv' with hv' _ _
   injection hv' with hv'
   injection hv' with hv' _ _
   subst hv';have hzl:=Lm l v n k hk
   have hj:l.length+k < (rR l v n k).length:=by omega
   have y0:=Jm.cell (List.getElem?_eq_getElem hj);have y1:=Jm.2.2 _ hj;have yb:=Jm.1
   have e:((v:Int) / 2 ^ (8*k) % 256)=(((UInt8.ofNat (v / 256 ^ k)).toNat:Nat):Int):=by
    rw [UInt8.toNat_ofNat',show (256:Nat) ^ k=2 ^ (8*k) from by rw [Nat.pow_mul]]
    push_cast
    rfl
   have HE:=gH e;clear e;go_wp2_with fail;refine ⟨⟨k+1,by omega,by go_num,gH ⟨?_,?_⟩⟩,?_⟩
   ·have h:=lB HR.out.1 (g:=g) rfl (l.length+k) (.int .u8 (UInt8.ofNat (v / 256 ^ k)).toNat)
    rw [Ln _ _ _ _ hlt] at h;rw [HE.out];exact h
   ·exact (Kb.set wr g _ _).aN HR.out.2 (fun j hj ej=>by have:=HG.out;omega)
   ·simp [intOf];omega
  ·have fj:¬ (k:Int) < (n:Int):=by omega
   go_wp2;go_ret
   have e:k=n:=by omega
   subst e;have h:=HR.out.1;rw [Lp] at h;have hm:=HM.out;subst hm;exact ⟨g,rfl,HR.out.2,h⟩
theorem OP {w:World} {B:Nat} {h:Hd} {l:Bt} (o:w.ownsRow B 5 1 h.v l.length (jD l)) (hl:l.length≤1000000000):aA w 1 wQ h.a h.c l :=
 dC Fo (show w.ownsRow B 5 1 h.v l.length (l.flatMap Fo) from o) (fun x _=>⟨rfl,rfl⟩) (by unfold Small;omega)
def uu (w:World) (l:Bt) (e:Ending) (w':World):Prop:=ag w w'∧∃ m c,e=.returned (.tuple #[.slice (some ⟨m,0,none⟩) l.length c,.int .i64 0])∧w'.ownsRow w.heap.size 5 1 (.slice (some ⟨m,0,none⟩) l.length c) l.length (jD l)
theorem Fk (l:Bt) (A:Option Addr) (cap:Nat) (n:Int) (hn:ya n) (hl:l.length≤100000000) (w:World) (hx:aA w 1 wQ A cap l) :
  Calls Tryz.prog 164 #[.slice A l.length cap,.int .i64 n] w (uu w (l++bO n)):=by
 obtain ⟨h0,h1⟩:=hn
 have g0:¬ n < 0:=by omega
 have g1:¬ 1000000000 < n:=by omega
 obtain ⟨v,rfl⟩:∃ v:Nat,n=v:=⟨n.toNat,by omega⟩;have HL:=gH (show Calls Tryz.prog 236 #[.slice A l.length cap,.int .u64 v,.int .i64 4] w _ from xZ l A cap v 4 (by decide) (by omega) (by omega) w hx);have HZ:=gH (show l++bO (v:Int)=l++le 4 v from by simp [bO]);clear hx
 go_in
 go_wp2_with (first
  | (go_at_call 236;(with_reducible refine HL.out.mono ?_);rintro e w1 ⟨m,rfl,a1,o1⟩;have H1:=gH (And.intro a1 o1);clear a1 o1))
 go_ret2
 rw [HZ.out]
 have hlen:(l++le 4 v).length=l.length+4:=by rw [List.length_append,il]
 exact ⟨H1.out.1,m,l.length+4,by rw [hlen];rfl,by rw [hlen];exact H1.out.2⟩
theorem Fm (l:Bt) (A:Option Addr) (cap:Nat) (n:Int) (hn:UB n) (hl:l.length≤100000000) (w:World) (hx:aA w 1 wQ A cap l) :
  Calls Tryz.prog 363 #[.slice A l.length cap,.int .i64 n] w fun e w'=>ag w w'∧∃ m c,e=.returned (.slice (some ⟨m,0,none⟩) (l++mj n).length c)∧w'.ownsRow w.heap.size 5 1 (.slice (some ⟨m,0,none⟩) (l++mj n).length c) (l++mj n).length (jD (l++mj n)):=by
 obtain ⟨h0,h1⟩:=hn;obtain ⟨v,hv⟩:∃ v:Nat,(n % 18446744073709551616).toNat=v:=⟨_,rfl⟩
 have hv2:n % 18446744073709551616=v:=by omega
 have HL:=gH (show Calls Tryz.prog 236 #[.slice A l.length cap,.int .u64 (IntKind.u64.wrap n),.int .i64 8] w _ from by
  rw [show IntKind.u64.wrap n=v from hv2]
  exact xZ l A cap v 8 (by decide) (by omega) (by omega) w hx)
 have HZ:=gH (show l++mj n=l++le 8 v from by rw [mj,hv]);clear hx hv hv2
 go_in
 go_wp2_with (first
  | (go_at_call 236;(with_reducible refine HL.out.mono ?_);rintro e w1 ⟨m,rfl,a1,o1⟩;have H1:=gH (And.intro a1 o1);clear a1 o1))
 go_ret;rw [HZ.out]
 have hlen:(l++le 8 v).length=l.length+8:=by rw [List.length_append,il]
 exact ⟨H1.out.1,m,l.length+8,by rw [hlen];rfl,by rw [hlen];exact H1.out.2⟩
theorem Fl (l:Bt) (A:Option Addr) (cap:Nat) (t:ByteArray) (ht:qM t) (hl:l.length≤100000000) (w:World) (hx:aA w 1 wQ A cap l) :
  Calls Tryz.prog 234 #[.slice A l.length cap,.string t] w (uu w (l++cC t)):=by
 have ht:t.size≤65536:=ht
 have g1:¬ (65536:Int) < (t.size:Int):=by omega
 obtain ⟨i,hi,hz,hs,hb⟩:=mJ;have HL:=gH (show Calls Tryz.prog 236 #[.slice A l.length cap,.int .u64 t.size,.int .i64 4] w _ from xZ l A cap t.size 4 (by decide) (by omega) (by omega) w hx)
 have HAP:=gH (show ∀ (w1:World) (m:Nat),w1.ownsRow w.heap.size 5 1 (.slice (some ⟨m,0,none⟩) (l.length+4) (l.length+4)) (l.length+4) (jD (l++le 4 t.size))→ag w w1→∃ g c w2,(∀ ty,(Builtin.append_ #[84,9] ty #[.slice (some ⟨m,0,none⟩) (l.length+4) (l.length+4),.string t]).run Tryz.prog w1=.ok (.slice (some ⟨g,0,none⟩) (l.length+4+t.size) c) w2)∧Hid (ag w w2∧w2.ownsRow w.heap.size 5 1 (.slice (some ⟨g,0,none⟩) (l.length+4+t.size) c) (l.length+4+t.size) (jD (l++cC t))) from fun w1 m o1 a1=>by
  have e:∀ ty,(Builtin.append_ #[84,9] ty #[.slice (some ⟨m,0,none⟩) (l.length+4) (l.length+4),.string t]).run Tryz.prog w1=(Builtin.append_ #[84,9] 84 #[.slice (some ⟨m,0,none⟩) (l.length+4) (l.length+4),.string t]).run Tryz.prog w1:=fun ty=>rfl
  obtain ⟨v',w2,hr,ho,hg,hn⟩:=Lib.run_append_own_string w1 w.heap.size 84 9 84 5 i Tryz.underlying84 Tryz.underlying9 hi hz hs hb _ _ _ o1 t (by unfold maxLen;omega) (by omega) a1.size
  rcases ho.2 with ⟨hv,h0⟩ | ⟨g,c,cur,rfl,h2⟩
  ·exact absurd (hn.1 hv).1 (by simp)
  ·refine ⟨g,c,w2,fun ty=>(e ty).trans hr,gH ⟨?_,?_⟩⟩
   ·exact (Kb.dF hg).aN a1 (fun k hk ek=>by have:=(o1.lt k ek).1;omega)
   ·have e2:jD (l++le 4 t.size)++Lib.strCells t=jD (l++cC t):=by
     rw [cC,← List.append_assoc,rU (l++le 4 t.size),qd t.data.toList];rfl
    rw [← e2];exact ho)
 clear hx hi hz hs hb
 go_in
 go_wp2_with (first
  | (go_at_call 236;(with_reducible refine HL.out.mono ?_);rintro e w1 ⟨m,rfl,a1,o1⟩;obtain ⟨g,c,w2,hap,H2⟩:=HAP.out w1 m o1 a1;clear a1 o1)
  | (at_builtin;go_must (refine oU _ rfl _ _ _ _ rfl _ _ rfl rfl (hap _) ?_)))
 go_ret2
 have hlen:(l++cC t).length=l.length+4+t.size:=by rw [List.length_append,cC,List.length_append,il];rw [show t.data.toList.length=t.size from rfl];omega
 exact ⟨H2.out.1,g,c,by rw [hlen];rfl,by rw [hlen];exact H2.out.2⟩
structure qi (w:World) (q g:Nat) (l:Bt):Prop where
 ex:∃ off c,au w q [.slice (some ⟨g,off,none⟩) l.length c]∧aA w 1 wQ (some ⟨g,off,none⟩) c l∧g≠q∧g < w.heap.size
 len:l.length≤1000000000
theorem AP:∀ (l:Bt) (b:UInt8),oy (l++[b])=oy l+b.toNat*256 ^ l.length
 | [],b=>by simp [oy]
 | c::l,b=>by
  rw [List.cons_append,oy,AP l b,oy,List.length_cons,Nat.pow_succ]
  have e:b.toNat*(256 ^ l.length*256)=256*(b.toNat*256 ^ l.length):=by
   rw [Nat.mul_comm (256 ^ l.length) 256,← Nat.mul_assoc,Nat.mul_comm b.toNat 256,Nat.mul_assoc]
  rw [e];omega
theorem Lq (l:Bt) (k:Nat) (hk:k < l.length):oy (l.take (k+1))=oy (l.take k)+l[k].toNat*256 ^ k:=by
 rw [List.take_succ_eq_append_getElem hk,AP,List.length_take,Nat.min_eq_left (by omega)]
theorem wrap_u64 (n:Int):IntKind.u64.wrap n=n % 18446744073709551616:=by simp [IntKind.wrap,IntKind.bits,IntKind.signed]
theorem NZ (m b k:Nat) (hk:k < 8) (hm:m < 256 ^ k) (hb:b < 256):bits .or .u64 (m:Int) (IntKind.u64.wrap (IntKind.u64.wrap (b:Int)*2 ^ (8*k)))=((m+b*256 ^ k:Nat):Int):=by
 have e:(256:Nat) ^ k=2 ^ (8*k):=by rw [Nat.pow_mul]
 have h1:b*256 ^ k < 256 ^ (k+1):=by
  rw [Nat.pow_succ,Nat.mul_comm (256 ^ k)];exact Nat.mul_lt_mul_of_pos_right hb (Nat.pow_pos (by decide))
 have h2:(256:Nat) ^ (k+1)≤256 ^ 8:=Nat.pow_le_pow_right (by decide) (by omega);have h3:(256:Nat) ^ k≤256 ^ (k+1):=Nat.pow_le_pow_right (by decide) (by omega)
 have h4:(256:Nat) ^ 8=18446744073709551616:=by decide
 rw [wrap_u64 (b:Int),Int.emod_eq_of_lt (by omega) (by omega)]
 have e2:(b:Int)*2 ^ (8*k)=((b*256 ^ k:Nat):Int):=by rw [e];push_cast;rfl
 rw [e2,wrap_u64,Int.emod_eq_of_lt (by omega) (by omega),u64_or_nat _ _ (by omega) (by omega),Nat.or_comm,nat_join (8*k) _ _ (by rw [← e];exact Nat.mul_mod_left _ _) (by rw [← e];exact hm),Nat.add_comm]
def uV (w:World) (l:Bt) (n:Nat) (e:Ending) (w':World):Prop:=w=w'∧((n≤l.length∧e=.returned (.tuple #[.int .u64 (oy (l.take n)),.bool true]))∨(l.length < n∧e=.returned (.tuple #[.int .u64 0,.bool false])))
theorem uj (q g:Nat) (l:Bt) (n:Nat) (hn:n≤8) (w:World) (h:qi w q g l) :
  Calls Tryz.prog 243 #[.pointer (some ⟨q,0,none⟩),.int .i64 n] w (uV w l n):=by
 obtain ⟨off,c,r,hx,hg,hb⟩:=h.ex;have hl:=h.len;have hz:=hx.len;have y0:=r.cell (j:=0) rfl;have yb:=r.1;have HX:=gH hx;clear r hx h;by_cases hlt:l.length < n
 ·have fj:(l.length:Int) < (n:Int):=by omega
  have HL:=gH hlt
  go_in
  go_wp2
  go_ret2
  exact ⟨rfl,.inr ⟨HL.out,rfl⟩⟩
 ·have fj:¬ (l.length:Int) < (n:Int):=by omega
  have HL:=gH (show n≤l.length by omega)
  go_in
  go_wp2_with fail
  go_loopw [6,16] (fun v i wr=>∃ k m:Nat,k≤n∧i=.int .i64 k∧v=.int .u64 m∧Hid (m=oy (l.take k))∧m < 256 ^ k∧w=wr) (fun _ i _=>n - (intOf i).toNat)
  case atStart=>exact ⟨0,0,Nat.zero_le _,rfl,rfl,gH rfl,by decide,rfl⟩
  case round =>
   obtain ⟨k,m,hk,rfl,rfl,HM,hm,rfl⟩:=hrel;by_cases Pq:k < n
   ·have aaE:(k:Int) < (n:Int):=by omega
    have pE:k < l.length:=by omega
    obtain ⟨g',off',cs,hA,_,_,hR,hc⟩:=HX.out.2.2 k pE
    injection hA with hA
    injection hA with e1 e2 _
    subst e1;subst e2
    have c0:w.cell? ⟨g,off+k,none⟩=some (.int .u8 l[k].toNat):=by
     have:=hc 0 (by omega);rw [hR] at this
     simpa [Fo] using this
    clear hc hR;have HV:=gH (NZ m l[k].toNat k (by omega) hm l[k].toNat_lt);have HT:=gH (Lq l k pE);generalize l[k]=x at c0 HV HT;go_wp2_with fail;refine ⟨⟨k+1,m+x.toNat*256 ^ k,by omega,by go_num,by rw [HV.out],gH (by rw [HT.out,HM.out]),?_,trivial⟩,?_⟩
    ·rw [Nat.pow_succ]
     have:=x.toNat_lt;have h1:x.toNat*256 ^ k≤255*256 ^ k:=Nat.mul_le_mul_right _ (by omega);omega
    ·simp [intOf];omega
   ·have aaE:¬ (k:Int) < (n:Int):=by omega
    go_wp2
    go_ret2
    have e:k=n:=by omega
    subst e;have:=HM.out;subst this;exact ⟨rfl,.inl ⟨HL.out,rfl⟩⟩
theorem qi.read {w:World} {q g:Nat} {l:Bt} (h:qi w q g l):∃ off c,w.cell? ⟨q,0,none⟩=some (.slice (some ⟨g,off,none⟩) l.length c)∧w.frozen? ⟨q,0,none⟩=false∧q < w.heap.size∧l.length≤c:=by
 obtain ⟨off,c,r,hx,_⟩:=h.ex;exact ⟨off,c,r.cell (j:=0) rfl,r.2.2 0 (by simp),r.1,hx.1⟩
theorem aA.drop {α:Type} {w:World} {R:World→List Value→α→Prop} {g off c:Nat} {l:List α} (h:aA w 1 R (some ⟨g,off,none⟩) c l) (k:Nat) (hk:k≤l.length):aA w 1 R (some ⟨g,off+k,none⟩) (c - k) (l.drop k):=by
 refine ⟨by rw [List.length_drop];have:=h.1;omega,by rw [List.length_drop];have:=h.2.1;unfold Small at *;omega,fun i hi=>?_⟩;rw [List.length_drop] at hi;obtain ⟨b,o,cs,hA,hb,hl,hR,hc⟩:=h.2.2 (k+i) (by omega)
 injection hA with hA
 injection hA with e1 e2 _
 subst e1;subst e2;exact ⟨g,off+k,cs,rfl,hb,hl,by rw [List.getElem_drop];exact hR,fun j hj=>by rw [← hc j hj];congr 2;omega⟩
theorem qi.cut {w:World} {q g off c:Nat} {l:Bt} (h:qi w q g l) (hy:w.cell? ⟨q,0,none⟩=some (.slice (some ⟨g,off,none⟩) l.length c)) (k:Nat) (hk:k≤l.length):qi (w.setCell ⟨q,0,none⟩ (.slice (some ⟨g,off+k,none⟩) (l.length - k) (c - k))) q g (l.drop k):=by
 obtain ⟨off',c',r,hx,hg,hb⟩:=h.ex;have e:=r.cell (j:=0) rfl;rw [hy] at e
 injection e with e
 injection e with e1 _ e3
 injection e1 with e1
 injection e1 with _ e2 _
 subst e2;subst e3;have kb:=Kb.set w q 0 (.slice (some ⟨g,off+k,none⟩) (l.length - k) (c - k));refine ⟨⟨off+k,c - k,?_,?_,hg,Nat.lt_of_lt_of_le hb kb.size⟩,by rw [List.length_drop];have:=h.len;omega⟩
 ·rw [List.length_drop];exact r.set 0 _ (by simp)
 ·have h2:=hx.drop k hk
  refine ⟨h2.1,h2.2.1,fun i hi=>?_⟩;obtain ⟨b,o,cs,hA,hb',hl,hR,hc⟩:=h2.2.2 i hi;refine ⟨b,o,cs,hA,Nat.lt_of_lt_of_le hb' kb.size,hl,hR,fun j hj=>?_⟩
  injection hA with hA
  injection hA with e1 _ _
  rw [← hc j hj];have:=kb.block b hb' (fun e=>hg (by omega));unfold World.cell?;simp only [this]
theorem qi.N0 {w:World} {q g off c:Nat} {l:Bt} (h:qi w q g l) (hy:w.cell? ⟨q,0,none⟩=some (.slice (some ⟨g,off,none⟩) l.length c)) (k:Nat) (hk:k≤l.length) (hl:l.length≤k):qi (w.setCell ⟨q,0,none⟩ (.slice (some ⟨g,off,none⟩) (l.length - k) 0)) q g (l.drop k):=by
 obtain ⟨off',c',r,hx,hg,hb⟩:=h.ex;have e:=r.cell (j:=0) rfl;rw [hy] at e
 injection e with e
 injection e with e1 _ e3
 injection e1 with e1
 injection e1 with e1 e2 _
 clear e1;have kb:=Kb.set w q 0 (.slice (some ⟨g,off,none⟩) (l.length - k) 0);have e0:l.drop k=[]:=List.drop_eq_nil_of_le hl;refine ⟨⟨off,0,?_,?_,hg,Nat.lt_of_lt_of_le hb kb.size⟩,by rw [e0];decide⟩
 ·rw [List.length_drop];exact r.set 0 _ (by simp)
 ·rw [e0];exact ⟨Nat.le_refl _,Nat.zero_le _,fun i h=>absurd h (by simp)⟩
def DY {α:Type} (w:World) (q g:Nat) (v:α→Value) (z:Value) (o:Option (α × Bt)) (e:Ending) (w':World):Prop:=Kb (fun j=>j=q) w w'∧match o with
 | some (x,r)=>e=.returned (.tuple #[v x,.int .i64 0])∧qi w' q g r
 | none=>∃ k:Int,k≠0∧e=.returned (.tuple #[z,.int .i64 k])
theorem N9 (q g:Nat) (l:Bt) (w:World) (h:qi w q g l) :
  Calls Tryz.prog 175 #[.pointer (some ⟨q,0,none⟩)] w (DY w q g (fun n:Int=>.int .i64 n) (.int .i64 0) (cV l)):=by
 obtain ⟨off,c,y0,y1,yb,hc⟩:=h.read;have hl:=h.len;have HF:=gH (show Calls Tryz.prog 243 #[.pointer (some ⟨q,0,none⟩),.int .i64 4] w (uV w l 4) from uj q g l 4 (by decide) w h);have HH:=gH h;have HY:=gH y0;clear h;by_cases h4:4≤l.length
 ·obtain ⟨v,hv⟩:∃ v,oy (l.take 4)=v:=⟨_,rfl⟩
  have HF:=gH (HF.out.mono fun e w' (q:uV _ _ _ _ _)=>(show e=.returned (.tuple #[.int .u64 v,.bool true])∧w=w' from by
   rcases q.2 with ⟨_,he⟩ | ⟨h,_⟩
   ·rw [hv] at he;exact ⟨he,q.1⟩
   ·omega))
  have hv2:v < 4294967296:=by
   have:=xX (l.take 4);rw [List.length_take,Nat.min_eq_left h4,hv] at this;exact this
  have LF:(4:Int)≤(l.length:Int):=by omega
  have HV:=gH hv;clear hv
  go_in
  go_wp2_with (first | (go_at_call 243;(with_reducible refine HF.out.mono ?_);rintro e w1 ⟨rfl,rfl⟩))
  all_goals go_ret2
  all_goals
   by_cases hm:v≤1000000000
   ·rw [show cV l=some ((v:Int),l.drop 4) from by unfold cV;rw [HV.out,if_pos ⟨h4,hm⟩]]
    first
     | exact ⟨Kb.set _ _ _ _,rfl,HH.out.cut HY.out 4 h4⟩
     | exact ⟨Kb.set _ _ _ _,rfl,HH.out.N0 HY.out 4 h4 (by omega)⟩
     | (exfalso;omega)
   ·rw [show cV l=none from by unfold cV;rw [HV.out,if_neg (fun h=>hm h.2)]]
    first
     | exact ⟨Kb.refl _ _,11,by decide,rfl⟩
     | (exfalso;omega)
 ·have HF:=gH (HF.out.mono fun e w' (q:uV _ _ _ _ _)=>(show e=.returned (.tuple #[.int .u64 0,.bool false])∧w=w' from by
   rcases q.2 with ⟨h,_⟩ | ⟨_,he⟩
   ·omega
   ·exact ⟨he,q.1⟩))
  have HD:=gH (show cV l=none from by unfold cV;rw [if_neg (fun h=>h4 h.1)])
  go_in
  go_wp2_with (first | (go_at_call 243;(with_reducible refine HF.out.mono ?_);rintro e w1 ⟨rfl,rfl⟩))
  go_ret2
  rw [HD.out];exact ⟨Kb.refl _ _,10,by decide,rfl⟩
theorem Oa (q g:Nat) (l:Bt) (w:World) (h:qi w q g l) :
  Calls Tryz.prog 364 #[.pointer (some ⟨q,0,none⟩)] w (DY w q g (fun n:Int=>.int .i64 n) (.int .i64 0) (oZ l)):=by
 obtain ⟨off,c,y0,y1,yb,hc⟩:=h.read;have hl:=h.len;have HF:=gH (show Calls Tryz.prog 243 #[.pointer (some ⟨q,0,none⟩),.int .i64 8] w (uV w l 8) from uj q g l 8 (by decide) w h);have HH:=gH h;have HY:=gH y0;clear h;by_cases h4:8≤l.length
 ·obtain ⟨v,hv⟩:∃ v,oy (l.take 8)=v:=⟨_,rfl⟩
  have HF:=gH (HF.out.mono fun e w' (q:uV _ _ _ _ _)=>(show e=.returned (.tuple #[.int .u64 v,.bool true])∧w=w' from by
   rcases q.2 with ⟨_,he⟩ | ⟨h,_⟩
   ·rw [hv] at he;exact ⟨he,q.1⟩
   ·omega))
  have hv2:v < 18446744073709551616:=by
   have:=xX (l.take 8);rw [List.length_take,Nat.min_eq_left h4,hv] at this;exact this
  have LF:(8:Int)≤(l.length:Int):=by omega
  have HV:=gH (show oZ l=some (Xv v,l.drop 8) from by unfold oZ;rw [hv,if_pos h4])
  have HS:=gH (show wrap64 (v:Int)=Xv v from by
   unfold wrap64 Xv
   split<;>omega)
  clear hv
  go_in
  go_wp2_with (first | (go_at_call 243;(with_reducible refine HF.out.mono ?_);rintro e w1 ⟨rfl,rfl⟩))
  all_goals go_ret2
  all_goals
   rw [HV.out,← HS.out]
   first
    | exact ⟨Kb.set _ _ _ _,rfl,HH.out.cut HY.out 8 h4⟩
    | exact ⟨Kb.set _ _ _ _,rfl,HH.out.N0 HY.out 8 h4 (by omega)⟩
 ·have HF:=gH (HF.out.mono fun e w' (q:uV _ _ _ _ _)=>(show e=.returned (.tuple #[.int .u64 0,.bool false])∧w=w' from by
   rcases q.2 with ⟨h,_⟩ | ⟨_,he⟩
   ·omega
   ·exact ⟨he,q.1⟩))
  have HD:=gH (show oZ l=none from by unfold oZ;rw [if_neg h4])
  go_in
  go_wp2_with (first | (go_at_call 243;(with_reducible refine HF.out.mono ?_);rintro e w1 ⟨rfl,rfl⟩))
  go_ret2
  rw [HD.out];exact ⟨Kb.refl _ _,10,by decide,rfl⟩
theorem fold_push:∀ (l:Bt) (s:ByteArray),(l.map fun b=>(b.toNat:Int)).foldl (fun r n=>r.push (UInt8.ofNat n.toNat)) s=⟨s.data++l.toArray⟩
 | [],s=>by simp
 | b::l,s=>by
  rw [List.map_cons,List.foldl_cons,fold_push l];simp [ByteArray.push]
theorem AQ {w:World} {g off c:Nat} {l:Bt} (hx:aA w 1 wQ (some ⟨g,off,none⟩) c l) :
  (convert 84 9 (.slice (some ⟨g,off,none⟩) l.length c)).run Tryz.prog w=.ok (.string ⟨l.toArray⟩) w:=by
 rw [run_convert_bytes_string w 84 9 5 _ _ _ Tryz.underlying84 Tryz.underlying5 Tryz.underlying9]
 have h:=run_loadCells_list (P:=Tryz.prog) w ⟨g,off,none⟩ (jD l) (fun j v hj=>by
  have QY:j < l.length:=by rw [← fM];exact (List.getElem?_eq_some_iff.1 hj).1
  obtain ⟨b,o,cs,hA,_,_,hR,hc⟩:=hx.2.2 j QY
  injection hA with hA
  injection hA with e1 e2 _
  subst e1;subst e2;have h0:=hc 0 (by omega);rw [qd,List.getElem?_map,List.getElem?_eq_getElem QY] at hj
  cases hj
  rw [hR] at h0
  have h0:w.cell? ⟨g,off+j,none⟩=some (.int .u8 l[j].toNat):=by simpa [Fo] using h0
  by_cases Xw:j=0
  ·subst Xw;simpa [Addr.add] using h0
  ·simpa [Addr.add,Xw] using h0)
 rw [fM] at h
 have e:jD l=(l.map fun b=>(b.toNat:Int)).map (Value.int .u8):=by rw [qd,List.map_map];rfl
 rw [e] at h;rw [run_bytesToString w ⟨g,off,none⟩ l.length c (l.map fun b=>(b.toNat:Int)) (by simpa using h),fold_push];simp
theorem aA.upto {α:Type} {w:World} {R:World→List Value→α→Prop} {g off c:Nat} {l:List α} (h:aA w 1 R (some ⟨g,off,none⟩) c l) (k c':Nat) (hk:k≤l.length) (hc:k≤c'):aA w 1 R (some ⟨g,off,none⟩) c' (l.take k):=by
 refine ⟨by rw [List.length_take];omega,by rw [List.length_take];have:=h.2.1;unfold Small at *;omega,fun i hi=>?_⟩;rw [List.length_take] at hi;obtain ⟨b,o,cs,hA,hb,hl,hR,hcc⟩:=h.2.2 i (by omega);exact ⟨b,o,cs,hA,hb,hl,by rw [List.getElem_take];exact hR,hcc⟩
theorem Ob (q g:Nat) (l:Bt) (w:World) (h:qi w q g l) :
  Calls Tryz.prog 241 #[.pointer (some ⟨q,0,none⟩)] w (DY w q g (fun s:ByteArray=>.string s) (.string ⟨#[]⟩) (eo l)):=by
 obtain ⟨off,c,y0,y1,yb,hc⟩:=h.read;have hl:=h.len;have HF:=gH (show Calls Tryz.prog 243 #[.pointer (some ⟨q,0,none⟩),.int .i64 4] w (uV w l 4) from uj q g l 4 (by decide) w h);have HH:=gH h;have HY:=gH y0;by_cases h4:4≤l.length
 ·obtain ⟨v,hv⟩:∃ v,oy (l.take 4)=v:=⟨_,rfl⟩
  have HF:=gH (HF.out.mono fun e w' (q:uV _ _ _ _ _)=>(show e=.returned (.tuple #[.int .u64 v,.bool true])∧w=w' from by
   rcases q.2 with ⟨_,he⟩ | ⟨h,_⟩
   ·rw [hv] at he;exact ⟨he,q.1⟩
   ·omega))
  have hv2:v < 4294967296:=by
   have:=xX (l.take 4);rw [List.length_take,Nat.min_eq_left h4,hv] at this;exact this
  have LF:(4:Int)≤(l.length:Int):=by omega
  have hT:∀ c',v≤l.length - 4→v≤c'→(convert 84 9 (.slice (some ⟨g,off+4,none⟩) v c')).run Tryz.prog w=.ok (.string ⟨((l.drop 4).take v).toArray⟩) w:=fun c' hr hc'=>by
   obtain ⟨off',c0,r,hx,_⟩:=h.ex;have e:=r.cell (j:=0) rfl;rw [y0] at e
   injection e with e
   injection e with e1 _ e3
   injection e1 with e1
   injection e1 with _ e2 _
   subst e2;have hs:=(hx.drop 4 h4).upto v c' (by rw [List.length_drop];omega) hc';have:=AQ hs;rw [List.length_take,List.length_drop,Nat.min_eq_left (by omega)] at this;exact this
  by_cases hm:v≤65536
  ·have rJ:¬ (65536:Int) < (v:Int):=by omega
   by_cases hr:v≤l.length - 4
   ·have Jm:¬ ((l.length:Int) - 4) < (v:Int):=by omega
    have HD:=gH (show eo l=some (⟨((l.drop 4).take v).toArray⟩,l.drop (4+v)) from by unfold eo;rw [hv,if_pos ⟨h4,hm,hr⟩]);by_cases hc4:c=4
    ·subst hc4
     obtain rfl:v=0:=by omega
     have ht:(convert 84 9 (.slice (some ⟨g,off,none⟩) 0 0)).run Tryz.prog w=.ok (.string ⟨#[]⟩) w:=AQ (l:=[]) ⟨Nat.le_refl _,Nat.zero_le _,fun i h=>absurd h (by simp)⟩
     have hl4:l.length=4:=by omega
     have HL:=gH hl4;clear hv h hT hl4
     go_in
     go_wp2_with (first | (go_at_call 243;(with_reducible refine HF.out.mono ?_);rintro e w1 ⟨rfl,rfl⟩))
     all_goals go_ret2
     all_goals
      rw [HD.out];have h:=HH.out.N0 HY.out 4 h4 (by rw [HL.out];exact Nat.le_refl _);rw [show l.length - 4=0 from by rw [HL.out]] at h;exact ⟨Kb.set _ _ _ _,rfl,h⟩
    ·have ht:=hT (c - 4) hr (by omega)
     have hc5:¬ (c - 4=0):=by omega
     clear hv h hT
     go_in
     go_wp2_with (first | (go_at_call 243;(with_reducible refine HF.out.mono ?_);rintro e w1 ⟨rfl,rfl⟩))
     all_goals go_ret2
     all_goals
      rw [HD.out]
      first
       | exact ⟨Kb.set _ _ _ _,rfl,HH.out.cut HY.out (4+v) (by omega)⟩
       | exact ⟨Kb.set _ _ _ _,rfl,HH.out.N0 HY.out (4+v) (by omega) (by omega)⟩
   ·have Jm:((l.length:Int) - 4) < (v:Int):=by omega
    have HD:=gH (show eo l=none from by unfold eo;rw [hv,if_neg (fun h=>hr h.2.2)]);clear hv h hT
    go_in
    go_wp2_with (first | (go_at_call 243;(with_reducible refine HF.out.mono ?_);rintro e w1 ⟨rfl,rfl⟩))
    all_goals go_ret2
    all_goals
     rw [HD.out];exact ⟨Kb.refl _ _,10,by decide,rfl⟩
  ·have rJ:(65536:Int) < (v:Int):=by omega
   have HD:=gH (show eo l=none from by unfold eo;rw [hv,if_neg (fun h=>hm h.2.1)]);clear hv h hT
   go_in
   go_wp2_with (first | (go_at_call 243;(with_reducible refine HF.out.mono ?_);rintro e w1 ⟨rfl,rfl⟩))
   all_goals go_ret2
   all_goals
    rw [HD.out];exact ⟨Kb.refl _ _,11,by decide,rfl⟩
 ·have HF:=gH (HF.out.mono fun e w' (q:uV _ _ _ _ _)=>(show e=.returned (.tuple #[.int .u64 0,.bool false])∧w=w' from by
   rcases q.2 with ⟨h,_⟩ | ⟨_,he⟩
   ·omega
   ·exact ⟨he,q.1⟩))
  have HD:=gH (show eo l=none from by unfold eo;rw [if_neg (fun h=>h4 h.1)]);clear h
  go_in
  go_wp2_with (first | (go_at_call 243;(with_reducible refine HF.out.mono ?_);rintro e w1 ⟨rfl,rfl⟩))
  go_ret2
  rw [HD.out];exact ⟨Kb.refl _ _,10,by decide,rfl⟩
theorem yw (q g:Nat) (l:Bt) (w:World) (h:qi w q g l) :
  Calls Tryz.prog 99 #[.pointer (some ⟨q,0,none⟩)] w fun e w'=>e=.returned (.int .i64 l.length)∧w=w':=by
 obtain ⟨off,c,y0,y1,yb,hc⟩:=h.read;clear h
 go_in
 go_wp2;go_ret;exact ⟨rfl,rfl⟩
theorem wR (l:Bt) (A:Option Addr) (cap:Nat) (hl:l.length≤1000000000) (w:World) (hx:aA w 1 wQ A cap l) :
  Calls Tryz.prog 97 #[.slice A l.length cap] w fun e w'=>∃ q g,e=.returned (.pointer (some ⟨q,0,none⟩))∧ag w w'∧w.heap.size≤q∧w.heap.size≤g∧qi w' q g l:=by
 obtain ⟨i,hi,hz,hs,hb⟩:=mJ;obtain ⟨m,hm⟩:∃ m,l.length=m:=⟨_,rfl⟩;obtain ⟨w1,hr1,nT,hg1⟩:=run_make_full w w.heap.size 84 5 i (.int .u8 0) 1 Tryz.underlying84 hi hz hs .i64 .i64 m (by rw [hb];omega) (by unfold maxLen;omega) (Nat.le_refl _);rw [Fa] at nT;obtain ⟨g,hg⟩:∃ g,g=w.heap.size:=⟨_,rfl⟩;rw [← hg] at hr1 nT;have a1:ag w w1:=⟨hg1.os,hg1.tape,hg1.output,hg1.size,fun k hk=>hg1.block k hk (fun e=>by cases e)⟩
 have hx1:=hx.aH a1 fun _ _ h=>h
 have rr:au w1 g (List.replicate m (.int .u8 0)):=by
  by_cases h0:0 < m
  ·obtain ⟨g',cap',hv',_,_,Jm⟩:=cB nT h0
   injection hv' with hv' _ _
   injection hv' with hv'
   injection hv' with hv' _ _
   subst hv';exact Jm
  ·have:m=0:=by omega
   subst this;refine ⟨?_,fun j hj=>(by simp at hj),fun j hj=>(by simp at hj)⟩;have:=nT.2
   rcases this with h | ⟨g',cap',cur,hv',_,pd,_⟩
   ·exact absurd h.1 (by simp)
   ·injection hv' with hv' _ _
    injection hv' with hv'
    injection hv' with hv' _ _
    subst hv';exact lt_of_block pd
 have Ys:=fun ty=>rG w1 ty g m cap A l hx1 (by omega) _ rr (by simp;omega)
 obtain ⟨w2,hw2⟩:∃ w2,w1.setCells g 0 (jD l)=w2:=⟨_,rfl⟩
 have o2:w2.ownsRow w.heap.size 5 1 (.slice (some ⟨g,0,none⟩) m m) m (jD l):=by
  have h:=dJ (g:=g) rfl (jD l) 0 nT;rw [hw2,jx _ _ _ (by rw [fM];simp;omega),fM] at h;rw [hg];rw [hg] at h
  have e:jD l=List.take 0 (List.replicate m (Value.int .u8 0))++jD l++List.drop (0+l.length) (List.replicate m (Value.int .u8 0)):=by
   rw [List.take_zero,List.nil_append,Nat.zero_add,List.drop_replicate,← hm];simp
  rw [e];exact h
 have a2:ag w w2:=by
  rw [← hw2];exact (d9 g (jD l) w1 0).aN a1 (fun k hk e=>by omega)
 have hg2:g < w2.heap.size:=by
  rw [← hw2];exact Nat.lt_of_lt_of_le rr.1 (d9 g (jD l) w1 0).size
 rw [hw2] at Ys;rw [hm] at Ys;have HS:=gH (show aA w2 1 wQ (some ⟨g,0,none⟩) m l from by subst hm;exact OP (h:=⟨_,_,_⟩) o2 hl);have HA:=gH a2;have HG:=gH (And.intro hg hg2);have HM:=gH hm;rw [hm];clear hi hz hs hb nT hg1 a1 hx1 rr hw2 hg o2 a2 hx hg2
 go_in
 go_wp2;go_ret;have hm:=HM.out;subst hm;obtain ⟨rfl,hg⟩:=HG.out;exact ⟨_,_,rfl,HA.out.alloc _,HA.out.size,Nat.le_refl _,⟨⟨0,l.length,aU (ag.refl _),HS.out.aH ((ag.refl _).alloc _) (fun _ _ h=>h),by omega,by simp;omega⟩,hl⟩⟩
def ea:Ending:=.panicked [{ v:=.iface 209 (.agg #[.int .i64 11]),recovered:=false }]
theorem gQ (w:World):Calls Tryz.prog 98 #[.bool true] w fun e w'=>e=.returned (.tuple #[])∧w=w':=by
 go_in
 go_wp2
 go_end0
 exact ⟨rfl,rfl⟩
theorem gR (w:World):Calls Tryz.prog 98 #[.bool false] w fun e w'=>e=ea∧w=w':=by
 go_in
 go_wp2_with fail;exact ⟨rfl,rfl,rfl⟩
theorem aA.kbW {P:Nat→Prop} {w w':World} {g off c:Nat} {l:Bt} (h:aA w 1 wQ (some ⟨g,off,none⟩) c l) (k:Kb P w w') (hg:¬ P g):aA w' 1 wQ (some ⟨g,off,none⟩) c l:=by
 refine ⟨h.1,h.2.1,fun i hi=>?_⟩;obtain ⟨b,o,cs,hA,hb,hl,hR,hc⟩:=h.2.2 i hi
 injection hA with hA
 injection hA with e1 e2 _
 subst e1;subst e2;refine ⟨g,off,cs,rfl,Nat.lt_of_lt_of_le hb k.size,hl,hR,fun j hj=>?_⟩;rw [← hc j hj];have:=k.block g hb hg;unfold World.cell?;simp only [this]
theorem qi.kb {P:Nat→Prop} {w w':World} {q g:Nat} {l:Bt} (h:qi w q g l) (k:Kb P w w') (hq:¬ P q) (hg:¬ P g):qi w' q g l:=by
 obtain ⟨off,c,r,hx,hn,hb⟩:=h.ex;exact ⟨⟨off,c,k.row r hq,hx.kbW k hg,hn,Nat.lt_of_lt_of_le hb k.size⟩,h.len⟩
structure gY (w0:World) (Q:Nat→Prop) (b:Nat) (l:Bt) (w:World):Prop where
 ex:∃ q g A c all,au w b [.pointer (some ⟨q,0,none⟩),.slice A all.length c]∧aA w0 1 wQ A c all∧qi w q g l∧(∃ pre,all=pre++l)∧q≠b∧g≠b∧¬ Q q∧¬ Q g∧w0.heap.size≤q∧w0.heap.size≤g∧all.length≤1000000000
 qb:¬ Q b
 aH:ag w0 w
 lb:w0.heap.size≤b
 qz:∀ j,Q j→j < w.heap.size
theorem gY.step {w0 w w':World} {Q Q':Nat→Prop} {b:Nat} {l:Bt} (h:gY w0 Q b l w) (k:Kb (fun j=>Q j∧w0.heap.size≤j) w w') (hq:∀ j,Q' j→Q j∨w.heap.size≤j∧j < w'.heap.size):gY w0 Q' b l w':=by
 obtain ⟨q,g,A,c,all,r,ha,hc,hp,n1,n2,n3,n4,l1,l2,hl⟩:=h.ex;have hb:=r.1;obtain ⟨_,_,rq,_,_,hg⟩:=hc.ex;have hqz:=rq.1
 exact ⟨⟨q,g,A,c,all,k.row r (fun e=>h.qb e.1),ha,hc.kb k (fun e=>n3 e.1) (fun e=>n4 e.1),hp,n1,n2,fun e=>(hq q e).elim n3 fun e=>by omega,fun e=>(hq g e).elim n4 fun e=>by omega,l1,l2,hl⟩,
  fun e=>(hq b e).elim h.qb fun e=>by omega,k.aN h.aH fun j hj e=>by have:=e.2;omega,h.lb,fun j e=>(hq j e).elim (fun e=>Nat.lt_of_lt_of_le (h.qz j e) k.size) fun e=>e.2⟩
theorem gY.opn {w0 w:World} {Q:Nat→Prop} {b:Nat} {l:Bt} (h:gY w0 Q b l w):∃ q g,w.cell? ⟨b,0,none⟩=some (.pointer (some ⟨q,0,none⟩))∧b < w.heap.size∧qi w q g l ∧
  ∀ (w':World),Kb (fun j=>j=q) w w'→Kb (fun j=>¬ Q j) w w'∧∀ r:Bt,qi w' q g r→(∃ pre,l=pre++r)→gY w0 Q b r w':=by
 obtain ⟨q,g,A,c,all,r,ha,hc,⟨pre,hp⟩,n1,n2,n3,n4,l1,l2,hl⟩:=h.ex;refine ⟨q,g,r.cell (j:=0) rfl,r.1,hc,fun w' k=>⟨k.mono fun j _ e=>by rw [e];exact n3,fun l' hc' ⟨p',hp'⟩=>?_⟩⟩;exact ⟨⟨q,g,A,c,all,k.row r (fun e=>n1 e.symm),ha,hc',⟨pre++p',by rw [hp,hp',List.append_assoc]⟩,n1,n2,n3,n4,l1,l2,hl⟩,h.qb,k.aN h.aH fun j hj e=>by omega,h.lb,fun j e=>Nat.lt_of_lt_of_le (h.qz j e) k.size⟩
theorem Oc {l r:Bt} {n:Int} (h:cV l=some (n,r)):∃ pre,l=pre++r:=by
 unfold cV at h
 split at h
 ·cases h;exact ⟨l.take 4,(List.take_append_drop 4 l).symm⟩
 ·cases h
theorem Od {l r:Bt} {n:Int} (h:oZ l=some (n,r)):∃ pre,l=pre++r:=by
 unfold oZ at h
 split at h
 ·cases h;exact ⟨l.take 8,(List.take_append_drop 8 l).symm⟩
 ·cases h
theorem Oe {l r:Bt} {n:ByteArray} (h:eo l=some (n,r)):∃ pre,l=pre++r:=by
 unfold eo at h
 split at h
 ·cases h;exact ⟨l.take (4+oy (l.take 4)),(List.take_append_drop _ l).symm⟩
 ·cases h
def j5 {α:Type} (w0:World) (Q:Nat→Prop) (b:Nat) (w:World) (v:α→Value) (d:Option (α × Bt)) (e:Ending) (w':World):Prop:=Kb (fun j=>¬ Q j) w w'∧match d with
 | some (x,r)=>e=.returned (v x)∧gY w0 Q b r w'
 | none=>e=ea
theorem fK (w0:World) (Q:Nat→Prop) (b:Nat) (l:Bt) (w:World) (h:gY w0 Q b l w) :
  Calls Tryz.prog 105 #[.pointer (some ⟨b,0,none⟩)] w (j5 w0 Q b w (fun n:Int=>.int .i64 n) (cV l)):=by
 obtain ⟨q,g,y0,yb,hc,hk⟩:=h.opn;have HK:=gH hk;have HC:=gH (N9 q g l w hc);clear h hk hc
 cases hd:cV l with
 | none =>
  have HC:=gH (HC.out.mono fun e w' (h:DY w q g (fun n:Int=>.int .i64 n) (.int .i64 0) (cV l) e w')=>(show Kb (fun j=>j=q) w w'∧∃ k:Int,(k==0)=false∧e=.returned (.tuple #[.int .i64 0,.int .i64 k]) from by
   unfold DY at h;rw [hd] at h;obtain ⟨h1,k,hk,he⟩:=h
   exact ⟨h1,k,by simpa using hk,he⟩))
  clear hd
  go_in
  go_wp2_with (first
   | (go_at_call 175;(with_reducible refine HC.out.mono ?_);rintro e w1 ⟨k1,k,hk,rfl⟩;have K1:=gH k1;clear k1)
   | (go_at_call 98;(with_reducible refine (gR _).mono ?_);rintro e w2 ⟨he,rfl⟩;unfold ea at he;subst he))
  exact ⟨rfl,(HK.out _ K1.out).1,rfl⟩
 | some p =>
  obtain ⟨n,r⟩:=p;have HS:=gH (Oc hd)
  have HC:=gH (HC.out.mono fun e w' (h:DY w q g (fun n:Int=>.int .i64 n) (.int .i64 0) (cV l) e w')=>(show Kb (fun j=>j=q) w w'∧e=.returned (.tuple #[.int .i64 n,.int .i64 0])∧qi w' q g r from by
   unfold DY at h;rw [hd] at h
   exact h))
  clear hd
  go_in
  go_wp2_with (first
   | (go_at_call 175;(with_reducible refine HC.out.mono ?_);rintro e w1 ⟨k1,rfl,c1⟩;have K1:=gH k1;have C1:=gH c1;clear k1 c1)
   | (go_at_call 98;(with_reducible refine (gQ _).mono ?_);rintro e w2 ⟨rfl,rfl⟩))
  go_ret;exact ⟨(HK.out _ K1.out).1,rfl,(HK.out _ K1.out).2 r C1.out HS.out⟩
theorem PF (w0:World) (Q:Nat→Prop) (b:Nat) (l:Bt) (w:World) (h:gY w0 Q b l w) :
  Calls Tryz.prog 323 #[.pointer (some ⟨b,0,none⟩)] w (j5 w0 Q b w (fun n:Int=>.int .i64 n) (oZ l)):=by
 obtain ⟨q,g,y0,yb,hc,hk⟩:=h.opn;have HK:=gH hk;have HC:=gH (Oa q g l w hc);clear h hk hc
 cases hd:oZ l with
 | none =>
  have HC:=gH (HC.out.mono fun e w' (h:DY w q g (fun n:Int=>.int .i64 n) (.int .i64 0) (oZ l) e w')=>(show Kb (fun j=>j=q) w w'∧∃ k:Int,(k==0)=false∧e=.returned (.tuple #[.int .i64 0,.int .i64 k]) from by
   unfold DY at h;rw [hd] at h;obtain ⟨h1,k,hk,he⟩:=h
   exact ⟨h1,k,by simpa using hk,he⟩))
  clear hd
  go_in
  go_wp2_with (first
   | (go_at_call 364;(with_reducible refine HC.out.mono ?_);rintro e w1 ⟨k1,k,hk,rfl⟩;have K1:=gH k1;clear k1)
   | (go_at_call 98;(with_reducible refine (gR _).mono ?_);rintro e w2 ⟨he,rfl⟩;unfold ea at he;subst he))
  exact ⟨rfl,(HK.out _ K1.out).1,rfl⟩
 | some p =>
  obtain ⟨n,r⟩:=p;have HS:=gH (Od hd)
  have HC:=gH (HC.out.mono fun e w' (h:DY w q g (fun n:Int=>.int .i64 n) (.int .i64 0) (oZ l) e w')=>(show Kb (fun j=>j=q) w w'∧e=.returned (.tuple #[.int .i64 n,.int .i64 0])∧qi w' q g r from by
   unfold DY at h;rw [hd] at h
   exact h))
  clear hd
  go_in
  go_wp2_with (first
   | (go_at_call 364;(with_reducible refine HC.out.mono ?_);rintro e w1 ⟨k1,rfl,c1⟩;have K1:=gH k1;have C1:=gH c1;clear k1 c1)
   | (go_at_call 98;(with_reducible refine (gQ _).mono ?_);rintro e w2 ⟨rfl,rfl⟩))
  go_ret;exact ⟨(HK.out _ K1.out).1,rfl,(HK.out _ K1.out).2 r C1.out HS.out⟩
theorem iT (w0:World) (Q:Nat→Prop) (b:Nat) (l:Bt) (w:World) (h:gY w0 Q b l w) :
  Calls Tryz.prog 170 #[.pointer (some ⟨b,0,none⟩)] w (j5 w0 Q b w (fun n:ByteArray=>.string n) (eo l)):=by
 obtain ⟨q,g,y0,yb,hc,hk⟩:=h.opn;have HK:=gH hk;have HC:=gH (Ob q g l w hc);clear h hk hc
 cases hd:eo l with
 | none =>
  have HC:=gH (HC.out.mono fun e w' (h:DY w q g (fun n:ByteArray=>.string n) (.string ⟨#[]⟩) (eo l) e w')=>(show Kb (fun j=>j=q) w w'∧∃ k:Int,(k==0)=false∧e=.returned (.tuple #[.string ⟨#[]⟩,.int .i64 k]) from by
   unfold DY at h;rw [hd] at h;obtain ⟨h1,k,hk,he⟩:=h
   exact ⟨h1,k,by simpa using hk,he⟩))
  clear hd
  go_in
  go_wp2_with (first
   | (go_at_call 241;(with_reducible refine HC.out.mono ?_);rintro e w1 ⟨k1,k,hk,rfl⟩;have K1:=gH k1;clear k1)
   | (go_at_call 98;(with_reducible refine (gR _).mono ?_);rintro e w2 ⟨he,rfl⟩;unfold ea at he;subst he))
  exact ⟨rfl,(HK.out _ K1.out).1,rfl⟩
 | some p =>
  obtain ⟨n,r⟩:=p;have HS:=gH (Oe hd)
  have HC:=gH (HC.out.mono fun e w' (h:DY w q g (fun n:ByteArray=>.string n) (.string ⟨#[]⟩) (eo l) e w')=>(show Kb (fun j=>j=q) w w'∧e=.returned (.tuple #[.string n,.int .i64 0])∧qi w' q g r from by
   unfold DY at h;rw [hd] at h
   exact h))
  clear hd
  go_in
  go_wp2_with (first
   | (go_at_call 241;(with_reducible refine HC.out.mono ?_);rintro e w1 ⟨k1,rfl,c1⟩;have K1:=gH k1;have C1:=gH c1;clear k1 c1)
   | (go_at_call 98;(with_reducible refine (gQ _).mono ?_);rintro e w2 ⟨rfl,rfl⟩))
  go_ret;exact ⟨(HK.out _ K1.out).1,rfl,(HK.out _ K1.out).2 r C1.out HS.out⟩
end Go.Proofs.YtakddkhipelmjaaGreat
