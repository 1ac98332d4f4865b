import Derived.Shelf.SlSortCmp.WholeK
import Derived.Laws.StructEq
import Derived.Lib.AppendStr
import Derived.Laws.OwnMore
import Derived.Laws.BytesString
import Derived.Laws.BitsAllLaws
import Derived.Test.YtakddkhipelmjaaGreatPartH6
set_option maxRecDepth 100000
set_option linter.unusedVariables false
set_option maxHeartbeats 64000000
namespace Go.Proofs.YtakddkhipelmjaaGreat
open Go.RowKit Go.Deep Go.Shelf Go.Sort
section
variable {α : Type} [Inhabited α]
theorem sN (f:α→List Value) (k:Nat) (hk:∀ x,(f x).length=k) (d:Array α):(flatK f k d).toList=d.toList.flatMap f:=by
 have hl:(d.toList.flatMap f).length=d.size*k:=by rw [cp hk];simp
 refine List.ext_getElem (by simp [flatK,hl]) fun t h1 h2=>?_
 have ht:t < d.size*k:=by rw [← hl];exact h2
 have k0:0 < k:=by
  rcases Nat.eq_zero_or_pos k with h | h
  ·subst h;simp at ht
  ·exact h
 have hd:t / k < d.size:=Nat.div_lt_of_lt_mul (by rw [Nat.mul_comm];exact ht);have hm:t % k < k:=Nat.mod_lt _ k0;have e:=nH (size:=k) (d.toList.map f) (by simp [hk]) (t / k) (t % k) (by simpa using hd) hm;rw [← List.flatMap_def,Nat.div_add_mod' t k] at e;rw [List.getElem?_eq_getElem h2] at e;have e2:(flatK f k d)[t]! = (f d[t / k]!)[t % k]! := get_flatK f k d t ht;rw [getElem!_pos _ t (by rw [size_flatK];exact ht),getElem!_pos d _ hd,getElem!_pos _ _ (by rw [hk];exact hm)] at e2;rw [Array.getElem_toList,e2];simp only [List.getElem_map,Array.getElem_toList] at e;rw [List.getElem?_eq_getElem (by rw [hk];exact hm)] at e;exact (Option.some.inj e).symm
theorem wy (F G:Array Value) (h:F.size=G.size):setMany F 0 G.toList=G:=by
 refine ext_get! (by rw [size_setMany];exact h) fun t ht=>?_
 rw [size_setMany] at ht;rw [get_setMany _ _ _ _ ht,if_pos ⟨Nat.zero_le _,by simpa using (by omega:t < G.size)⟩];simp;rw [getElem!_pos G t (by omega)];simp [Array.getElem?_eq_getElem (show t < G.size by omega)]
theorem oB (w:World) (blk:Nat) (F G:Array Value) (h:Holds id w blk 0 F) (hs:F.size=G.size):putRow id w blk 0 G=w.setCells blk 0 G.toList:=by
 have h1:=putRow_self id w blk 0 F h;have h2:=setCells_putRow w blk 0 G.toList 0 F (by simp [hs]);rw [h1,wy F G hs] at h2;exact h2.symm
theorem Ca {w:World} {B k cap blk:Nat} {e:TypeId} (f:α→List Value) (hk:∀ x,(f x).length=k) (l:List α) (h0:0 < l.length) (ho:w.ownsRow B e k (.slice (some ⟨blk,0,none⟩) l.length cap) l.length (l.flatMap f)):HoldsK f k w blk 0 l.toArray:=by
 obtain ⟨g,cap',hv,hB,pV,hr⟩:=bU ho h0
 have:g=blk:=by simp only [Value.slice.injEq,Option.some.injEq,Addr.mk.injEq] at hv;exact hv.1.1.symm
 subst this;intro j hj;rw [size_flatK] at hj
 have hj':j < (l.flatMap f).length:=by rw [cp hk];simpa using hj
 have e1:=sN f k hk l.toArray;refine ⟨?_,by rw [Nat.zero_add];exact hr.2.2 j hj'⟩;rw [Nat.zero_add,hr.2.1 j hj',id,getElem!_pos _ j (by rw [size_flatK];exact hj),← Array.getElem_toList,List.getElem?_eq_getElem hj']
 congr 1
 exact (List.getElem_of_eq e1 _).symm
theorem vp (w:World) (n:Nat):ag w (Go.Sort.ahead w n):=⟨rfl,rfl,rfl,Nat.le_refl _,fun _ _=>rfl⟩
theorem qW (w:World) (os:Array Obj):ag w (grow w os):=⟨rfl,rfl,rfl,by simp,fun k hk=>heap_grow_old w os hk⟩
def nP (e:TypeId) (k:Nat) (f:α→List Value) (cf:α→α→Int) (w:World) (B blk cap:Nat) (l:List α) (x:Ending) (w':World):Prop :=
 x=.returned (.tuple #[])∧∃ l':List α,l'.Perm l∧(∀ i j (hi:i < l'.length) (hj:j < l'.length),i < j→¬ cf l'[j] l'[i] < 0)∧w'.ownsRow B e k (.slice (some ⟨blk,0,none⟩) l.length cap) l.length (l'.flatMap f)∧Kb (fun j=>j=blk) w w'
theorem xq {P:Program} {ρ:Ren} (L:SlLaysF0.n6 P ρ) (k:Nat) (aE:∀ w,(isAgg (ρ.t 24)).run P w=.ok true w) (zE:∀ w,(Go.sizeOf (ρ.t 24)).run P w=.ok k w) (f:α→List Value) (hk:∀ x,(f x).length=k) (h1:∀ x,∀ v∈f x,v.oneCell'=true) (cf:α→α→Int) (hO:SWO (ltOf cf)) (g:Nat) (cb:Array Value)
  (e:TypeId) (B blk cap:Nat) (l:List α) (h0:0 < l.length) (hsz:l.length≤1000000) (w:World) (ho:w.ownsRow B e k (.slice (some ⟨blk,0,none⟩) l.length cap) l.length (l.flatMap f)) (eg:∀ args w,(callFunc g args).run P w=.ok (.enter g args) w)
  (hc:∀ W x y,Calls P g (#[.agg (f x).toArray,.agg (f y).toArray]++cb) W fun e w'=>e=.returned (.int .i64 (cf x y))∧∃ q os',w'=grow (W.drewN q) os') :
  Calls P (ρ.f 6) #[.slice (some ⟨blk,0,none⟩) l.length cap,.func (.func g) #[] cb] w (nP e k f cf w B blk cap l):=by
 have hH:=Ca f hk l h0 ho;have hb:blk < w.heap.size:=(ho.lt blk rfl).2;refine (AnyQ.slices_SortFunc L k aE zE f hk h1 cf hO g cb blk 0 cap l.toArray w eg (fun m os dk _ x y=>hc _ x y) hH hb (by simp;omega)).mono ?_;rintro x w' ⟨rfl,d',n,os,hp,hs,rfl⟩
 have hsize:d'.size=l.length:=by have:=hp.1;simpa using this
 have Vc:∀ d:Array α,d.size=l.length→(d.extract 0 l.toArray.size).toList=d.toList:=fun d hd=>by simp [← hd]
 refine ⟨rfl,d'.toList,?_,fun i j hi hj mU=>?_,?_,?_⟩
 ·have:=hp.2.2
  rw [Vc d' hsize,Vc l.toArray (by simp)] at this
  simpa using this
 ·have qp:j < d'.size:=by simpa using hj
  have:=hs i j (Nat.zero_le _) mU (by simp;omega);rw [getElem!_pos d' j qp,getElem!_pos d' i (by omega)] at this
  simpa [ltOf] using this
 ·unfold sortWorldK putRowK
  rw [oB (Go.Sort.ahead w n) blk (flatK f k l.toArray) (flatK f k d') (holdsK_ahead f k w n blk 0 l.toArray hH) (by simp [hsize])];refine cA ?_ (qW _ os);have h2:=dl (v:=.slice (some ⟨blk,0,none⟩) l.length cap) (g:=blk) rfl (flatK f k d').toList 0 (cA ho (vp w n));rw [iX _ _ _ (by simp [cp hk,hsize])] at h2;rw [sN f k hk] at h2 ⊢
  have e3:(d'.toList.flatMap f).length=(l.flatMap f).length:=by rw [cp hk,cp hk];simp [hsize]
  rw [List.take_zero,List.nil_append,Nat.zero_add,e3,List.drop_length,List.append_nil] at h2;exact h2
 ·unfold sortWorldK putRowK
  rw [oB (Go.Sort.ahead w n) blk (flatK f k l.toArray) (flatK f k d') (holdsK_ahead f k w n blk 0 l.toArray hH) (by simp [hsize])];exact ((Kb.aO (vp w n)).trans (dL blk _ _ _)).trans (Kb.aO (qW _ os))
end
theorem sO {α:Type} {c:α→α→Int} (tr:∀ a b d,c a b < 0→c b d < 0→c a d < 0) (dN:∀ a b,c a b = - c b a) {L l':List α} (hL:∀ i j (hi:i < L.length) (hj:j < L.length),i < j→c L[i] L[j] < 0) (hp:l'.Perm L) (hs:∀ i j (hi:i < l'.length) (hj:j < l'.length),i < j→¬ c l'[j] l'[i] < 0):l'=L:=by
 have hw:L.Pairwise fun a b=>c a b < 0:=List.pairwise_iff_getElem.2 fun i j hi hj mU=>hL i j hi hj mU
 have hne:∀ a∈L,∀ b∈L,c a b=0→a=b:=fun a ha b hb e=>by
  obtain ⟨i,hi,rfl⟩:=List.getElem_of_mem ha;obtain ⟨j,hj,rfl⟩:=List.getElem_of_mem hb
  rcases Nat.lt_trichotomy i j with h | h | h
  ·have:=hL i j hi hj h;omega
  ·subst h;rfl
  ·have:=hL j i hj hi h;have:=dN L[j] L[i];omega
 have hle:l'.Pairwise fun a b=>c a b≤0:=List.pairwise_iff_getElem.2 fun i j hi hj mU=>by
  have h1:=hs i j hi hj mU;have h2:=dN l'[i] l'[j];omega
 exact List.Perm.eq_of_pairwise (le:=fun a b=>c a b≤0) (fun a b ha hb h1 h2=>hne a (hp.subset ha) b hb (by have:=dN a b;omega)) hle (hw.imp fun h=>Int.le_of_lt h) hp
theorem GU {α:Type} {c:α→α→Int} (tr:∀ a b d,c a b < 0→c b d < 0→c a d < 0) (dN:∀ a b,c a b = - c b a) {l l':List α} {x:α} (hr:aM c l=true) (hn:∀ y∈l,c y x≠0) (hp:l'.Perm (l++[x])) (hs:∀ i j (hi:i < l'.length) (hj:j < l'.length),i < j→¬ c l'[j] l'[i] < 0):l'=cP l (dP c l x) x:=by
 have hi:=gV tr dN hr hn;refine sO tr dN (fun i j hi' hj mU=>ed tr hi i j hi' hj mU) (hp.trans ?_) hs;unfold cP;have h1:(l++[x]).Perm ([x]++l):=List.perm_append_comm;have h2:(l.take (dP c l x)++[x]).Perm ([x]++l.take (dP c l x)):=List.perm_append_comm;refine h1.trans (List.Perm.trans ?_ (h2.append_right _).symm);rw [List.append_assoc,List.take_append_drop]
end Go.Proofs.YtakddkhipelmjaaGreat
namespace Go.Proofs.YtakddkhipelmjaaGreat
open Go.Deep Go.RowKit
structure cD where
 af:ByteArray
 table:ByteArray
 right:Int
 aI:ByteArray
 to:ByteArray
 opt:Bool
def eR (g:cD):List Value:=[.string g.af,.string g.table,.int .i64 g.right,.string g.aI,.string g.to,.bool g.opt]
def wI (g:cD):Prop:=Small g.af.size∧Small g.table.size∧Small g.aI.size∧Small g.to.size∧(Lit.int .i64 g.right).wf=true
def gy (_:World) (cs:List Value) (g:cD):Prop:=cs=eR g∧wI g
structure bS where
 av:Int
 version:Int
 aj:bE
 ar:gW
 ah:List cD
def qU (a b:Int):Int:=if a < b then -1 else if b < a then 1 else 0
def eM (a b:cD):Int:=iR (bv a.af b.af) (iR (bv a.table b.table) (iR (qU a.right b.right) (iR (bv a.aI b.aI) (bv a.to b.to))))
def kL (a b:cD):Bool:=aS a.af b.af&&(aS a.table b.table&&((a.right==b.right)&&(aS a.aI b.aI&&aS a.to b.to)))
def eF (g:cD):ByteArray × ByteArray × Int × ByteArray × ByteArray:=(g.af,g.table,g.right,g.aI,g.to)
structure lS {α:Type} (c:α→α→Int):Prop where
 dN:∀ a b,c a b = - c b a
 le:∀ a b d,c a b≤0→c b d≤0→c a d≤0∧(c a d=0→c a b=0∧c b d=0)
theorem oC (x y:Int):iR x y=0↔x=0∧y=0:=by
 unfold iR;by_cases h:x=0
 ·subst h;simp
 ·have:(x==0)=false:=by simpa using h
  rw [this];simp [h]
theorem Cg (x y:Int):iR x y≤0↔x < 0∨(x=0∧y≤0):=by
 unfold iR;by_cases h:x=0
 ·subst h;simp
 ·have:(x==0)=false:=by simpa using h
  rw [this];simp only [Bool.false_eq_true,if_false];omega
theorem Mr (x y:Int):iR (-x) (-y) = - iR x y:=by
 unfold iR;by_cases h:x=0
 ·subst h;simp
 ·have h1:(x==0)=false:=by simpa using h
  have h2:(-x==0)=false:=by simpa using h
  rw [h1,h2];simp
theorem lS.iR {α:Type} {c d:α→α→Int} (hc:lS c) (hd:lS d):lS fun a b=>iR (c a b) (d a b) where
 dN a b:=by
  show Go.Proofs.YtakddkhipelmjaaGreat.iR (c a b) (d a b) = - Go.Proofs.YtakddkhipelmjaaGreat.iR (c b a) (d b a)
  rw [hc.dN a b,hd.dN a b,Mr]
 le x y z h1 h2:=by
  have h1:=(Cg _ _).1 h1;have h2:=(Cg _ _).1 h2;have k:=hc.le x y z (by omega) (by omega);rw [Cg,oC,oC,oC];by_cases e:c x z=0
  ·obtain ⟨e1,e2⟩:=k.2 e
   have m:=hd.le x y z (by omega) (by omega);exact ⟨.inr ⟨e,m.1⟩,fun h=>⟨⟨e1,(m.2 h.2).1⟩,⟨e2,(m.2 h.2).2⟩⟩⟩
  ·exact ⟨.inl (by omega),fun h=>absurd h.1 e⟩
theorem lS.on {α β:Type} {c:α→α→Int} (h:lS c) (f:β→α):lS fun a b=>c (f a) (f b):=⟨fun a b=>h.dN _ _,fun a b d=>h.le _ _ _⟩
theorem lS.Wn {α:Type} {c:α→α→Int} (h:tH c):lS c where
 dN:=h.dN
 le a b d h1 h2:=by
  by_cases e1:c a b=0
  ·have:=h.Pb _ _ e1;subst this
   exact ⟨h2,fun e=>⟨h.refl _,e⟩⟩
  ·by_cases e2:c b d=0
   ·have:=h.Pb _ _ e2;subst this
    exact ⟨h1,fun e=>⟨e,h.refl _⟩⟩
   ·have:=h.tr a b d (by omega) (by omega)
    exact ⟨by omega,fun e=>by omega⟩
theorem lS.lt {α:Type} {c:α→α→Int} (h:lS c) (a b d:α) (h1:c a b < 0) (h2:c b d < 0):c a d < 0:=by
 have k:=h.le a b d (by omega) (by omega);by_cases e:c a d=0
 ·have:=(k.2 e).1;omega
 ·omega
theorem Zd:lS qU:=⟨fun a b=>by unfold qU;split<;>split<;>omega,fun a b d=>by unfold qU;split<;>split<;>split<;>(try split)<;>(try split)<;>omega⟩
theorem oO:lS eM:=((lS.Wn qh).on cD.af).iR (((lS.Wn qh).on cD.table).iR ((Zd.on cD.right).iR (((lS.Wn qh).on cD.aI).iR ((lS.Wn qh).on cD.to))))
theorem Fw (a b:Int):qU a b=0↔(a==b)=true:=by
 unfold qU;rw [beq_iff_eq]
 split
 ·constructor<;>intro h<;>omega
 ·split<;>constructor<;>intro h<;>omega
theorem lW (a b:cD):eM a b=0↔kL a b=true:=by
 unfold eM kL;simp only [oC,Bool.and_eq_true,fw,Fw]
theorem gm (a b:cD):kL a b=true↔eF a=eF b:=by
 unfold kL eF;simp only [Bool.and_eq_true,lY,beq_iff_eq,Prod.mk.injEq]
theorem zK (a b:cD):kL a b=kL b a:=by
 rw [Bool.eq_iff_iff,gm,gm];exact eq_comm
def ml (l:List cD) (g:cD):Bool:=l.any fun x=>kL x g
theorem qu (l:List cD) (g:cD):ml l g=true↔eF g∈l.map eF:=by
 unfold ml;rw [List.any_eq_true,List.mem_map];exact ⟨fun ⟨x,hx,h⟩=>⟨x,hx,(gm _ _).1 h⟩,fun ⟨x,hx,h⟩=>⟨x,hx,(gm _ _).2 h⟩⟩
def cI:ByteArray:=⟨#[114,111,111,116]⟩
def kR (o:bE) (s n:ByteArray):bW:=if bt o.tables s n < 0 then nO else (o.tables[(bt o.tables s n).toNat]?).getD nO
def tU (o:bE) (s:ByteArray):ByteArray:=if bY o.ae s < 0 then ⟨#[]⟩ else ((o.ae[(bY o.ae s).toNat]?).map fK.owner).getD ⟨#[]⟩
def pA (o:bE) (is:List ByteArray) (t:bW):Bool:=is.any fun r=>aS r cI || aS r t.owner || aS r (tU o t.af)
def jK (l:List cD) (is:List ByteArray) (s n:ByteArray) (r:Int) (option:Bool):Bool:=l.any fun g=>aS g.af s&&aS g.table n&&(g.right==r)&&(g.opt || !option)&&eu is g.to
def nN (r:Int):Bool:=r==1 || r==2
def gD (c:bS) (g:cD):Bool:=decide (0≤bt c.aj.tables g.af g.table)&&nN g.right&&!aS g.aI g.to&&eu c.ar.names g.aI&&eu c.ar.names g.to
def gC (c:bS):Bool:=c.aj.ae.all (fun s=>eu c.ar.names s.owner)&&c.aj.tables.all (fun t=>eu c.ar.names t.owner)
noncomputable def bH (c:bS):Bool:=decide (c.ah.length≤64)&&bD c.aj&&bI c.ar&&eu c.ar.names cI&&gC c&&(c.ah.all (gD c)&&aM eM c.ah)
noncomputable def fy (c:bS) (l:List cD) (g:cD):Bool:=pA c.aj (ea c.ar g.aI) (kR c.aj g.af g.table) || jK l (ea c.ar g.aI) g.af g.table g.right true
inductive Held (c:bS):cD→Prop
 | mk (g:cD) (l:List cD):g∈c.ah→(∀ x∈l,Held c x)→fy c l g=true→Held c g
open Classical in
noncomputable def mH (c:bS) (g:cD):Bool:=decide (Held c g)
open Classical in
theorem j8 {c:bS} {g:cD}:mH c g=true↔Held c g:=by unfold mH;exact decide_eq_true_iff
noncomputable def cJ (c:bS):List cD:=if bH c then c.ah.filter (mH c) else []
noncomputable def dU (c:bS):Bool:=bH c&&((cJ c).length==c.ah.length)
theorem yT {l l':List cD} (h:∀ x∈l,x∈l') {is:List ByteArray} {s n:ByteArray} {r:Int} {o:Bool} (hg:jK l is s n r o=true):jK l' is s n r o=true:=by
 unfold jK at hg ⊢;rw [List.any_eq_true] at hg ⊢;obtain ⟨x,hx,e⟩:=hg;exact ⟨x,h x hx,e⟩
theorem Ch {c:bS} {l l':List cD} (h:∀ x∈l,x∈l') {g:cD} (hg:fy c l g=true):fy c l' g=true:=by
 unfold fy at hg ⊢;rw [Bool.or_eq_true] at hg ⊢;exact hg.imp id (yT h)
theorem Held.mem {c:bS} {g:cD} (h:Held c g):g∈c.ah:=by cases h;assumption
structure jw (c:bS) (l:List cD):Prop where
 sub:∀ x∈l,Held c x
 nd:(l.map eF).Nodup
theorem jw.nil (c:bS):jw c []:=⟨fun x hx=>by simp at hx,by simp⟩
theorem jw.add {c:bS} {l:List cD} (h:jw c l) {g:cD} (hg:g∈c.ah) (hn:ml l g=false) (hj:fy c l g=true):jw c (l++[g]):=by
 refine ⟨fun x hx=>?_,?_⟩
 ·rcases List.mem_append.1 hx with hx | hx
  ·exact h.sub x hx
  ·rw [List.mem_singleton] at hx;subst hx
   exact .mk x l hg h.sub hj
 ·rw [List.map_append,List.nodup_append]
  refine ⟨h.nd,by simp,fun a ha b hb e=>?_⟩;simp at hb;subst hb;subst e;have:=(qu l g).2 ha;rw [hn] at this;cases this
theorem jw.len {c:bS} {l:List cD} (h:jw c l):l.length≤c.ah.length:=by
 have:=sF (l:=l.map eF) (l':=c.ah.map eF) h.nd fun x hx=>by
  obtain ⟨y,hy,rfl⟩:=List.mem_map.1 hx;exact List.mem_map.2 ⟨y,(h.sub y hy).mem,rfl⟩
 simpa using this
theorem sP {l:List cD} (h:aM eM l=true):∀ x∈l,∀ y∈l,eF x=eF y→x=y:=fun x hx y hy e=>by
 obtain ⟨i,hi,rfl⟩:=List.getElem_of_mem hx;obtain ⟨j,hj,rfl⟩:=List.getElem_of_mem hy;have e0:eM l[i] l[j]=0:=(lW _ _).2 ((gm _ _).2 e)
 rcases Nat.lt_trichotomy i j with h1 | h1 | h1
 ·have:=ed oO.lt h i j hi hj h1;omega
 ·subst h1;rfl
 ·have:=ed oO.lt h j i hj hi h1
  have:=oO.dN l[i] l[j];omega
theorem jw.all {c:bS} {l:List cD} (h:jw c l) (hr:aM eM c.ah=true) (hc:∀ g∈c.ah,ml l g=false→fy c l g=false) (g:cD) (hg:g∈c.ah):ml l g=true↔Held c g:=by
 have mem:∀ g∈c.ah,ml l g=true→g∈l:=fun g hg hi=>by
  obtain ⟨y,hy,e⟩:=List.mem_map.1 ((qu _ _).1 hi);have:=sP hr _ ((h.sub y hy).mem) _ hg e;rw [← this];exact hy
 constructor
 ·exact fun hi=>h.sub g (mem g hg hi)
 ·intro hh
  induction hh with
  | mk g m hg _ hj ih =>
   by_cases hi:ml l g=true
   ·exact hi
   ·rw [Bool.not_eq_true] at hi
    have h1:=hc g hg hi
    have h2:=Ch (l':=l) (fun x hx=>mem x (by
     have:=ih x hx;rename_i hall
     exact (hall x hx).mem) (ih x hx (by rename_i hall;exact (hall x hx).mem))) hj
    rw [h1] at h2;cases h2
theorem vq {α:Type}:∀ {l L:List α},l.Nodup→L.Nodup→(∀ x,x∈l↔x∈L)→l.Perm L
 | [],L,_,_,h=>by
  cases L with
  | nil=>exact .nil
  | cons a L=>have:=(h a).2 (by simp);simp at this
 | a::l,L,hl,hL,h=>by
  obtain ⟨A,B,rfl⟩:=List.append_of_mem ((h a).1 (by simp));have hl':=List.nodup_cons.1 hl;have hp:(A++a::B).Perm (a::(A++B)):=List.perm_middle;have Va:=List.nodup_cons.1 ((hp.nodup_iff).1 hL);refine (List.Perm.cons a (vq hl'.2 Va.2 fun x=>?_)).trans hp.symm;have hx:=h x;rw [hp.mem_iff,List.mem_cons,List.mem_cons] at hx
  constructor
  ·intro hm
   rcases hx.1 (.inr hm) with e | e
   ·subst e;exact absurd hm hl'.1
   ·exact e
  ·intro hm
   rcases hx.2 (.inr hm) with e | e
   ·subst e;exact absurd hm Va.1
   ·exact e
theorem tO {l:List cD} (h:(l.map eF).Nodup):l.Nodup:=by
 induction l with
 | nil=>simp
 | cons a l ih =>
  rw [List.map_cons,List.nodup_cons] at h;exact List.nodup_cons.2 ⟨fun hm=>h.1 (List.mem_map.2 ⟨a,hm,rfl⟩),ih h.2⟩
theorem wA {l:List cD} (h:aM eM l=true):l.Nodup:=by
 rw [List.nodup_iff_pairwise_ne,List.pairwise_iff_getElem];intro i j hi hj mU e;have:=ed oO.lt h i j hi hj mU;rw [e] at this;have:=oO.dN l[j] l[j];omega
theorem jw.sorted {c:bS} {l l':List cD} (h:jw c l) (hr:aM eM c.ah=true) (hc:∀ g∈c.ah,ml l g=false→fy c l g=false) (hp:l'.Perm l) (hs:∀ i j (hi:i < l'.length) (hj:j < l'.length),i < j→¬ eM l'[j] l'[i] < 0):l'=c.ah.filter (mH c):=by
 have hf:∀ i j (hi:i < (c.ah.filter (mH c)).length) (hj:j < (c.ah.filter (mH c)).length),i < j→eM (c.ah.filter (mH c))[i] (c.ah.filter (mH c))[j] < 0:=by
  have:c.ah.Pairwise fun a b=>eM a b < 0:=List.pairwise_iff_getElem.2 fun i j hi hj mU=>ed oO.lt hr i j hi hj mU
  exact fun i j hi hj mU=>List.pairwise_iff_getElem.1 (this.filter _) i j hi hj mU
 refine sO oO.lt oO.dN hf (hp.trans ?_) hs
 refine vq (tO h.nd) ((wA hr).filter _) fun x=>?_
 rw [List.mem_filter];rw [j8]
 constructor
 ·exact fun hx=>⟨(h.sub x hx).mem,h.sub x hx⟩
 ·rintro ⟨hx,hh⟩
  obtain ⟨y,hy,e⟩:=List.mem_map.1 ((qu _ _).1 ((h.all hr hc x hx).2 hh));rw [← sP hr _ ((h.sub y hy).mem) _ hx e];exact hy
def NW (a:Addr):Sem Value:=loadVar 189 a
@[go_sem ↓] theorem Vd (a:Addr):loadVar 189 a=NW a:=rfl
@[go_sem] theorem D5 (w:World) (b o:Nat) (h0:(w.cell? ⟨b,o,none⟩).isSome=true) (h1:(w.cell? ⟨b,o+1,none⟩).isSome=true) (h2:(w.cell? ⟨b,o+2,none⟩).isSome=true) (h3:(w.cell? ⟨b,o+3,none⟩).isSome=true) (h4:(w.cell? ⟨b,o+4,none⟩).isSome=true):(NW ⟨b,o,none⟩).run Tryz.prog w=.ok (.agg #[(w.cell? ⟨b,o,none⟩).getD undef,(w.cell? ⟨b,o+1,none⟩).getD undef,(w.cell? ⟨b,o+2,none⟩).getD undef,(w.cell? ⟨b,o+3,none⟩).getD undef,(w.cell? ⟨b,o+4,none⟩).getD undef]) w:=eN (P:=Tryz.prog) w 189 _ 5 b o Tryz.underlying189 rfl (by kernel_rfl) (ac _ _ (ac _ _ (ac _ _ (ac _ _ (ac _ _ (fun j hj=>absurd hj (Nat.not_lt_zero j)) h0) h1) h2) h3) h4)
def NX (a:Addr) (v:Value):Sem Unit:=storeVar 189 a v
@[go_sem ↓] theorem Ve (a:Addr) (v:Value):storeVar 189 a v=NX a v:=rfl
@[go_sem] theorem Ro (w:World) (b o:Nat) (v0 v1 v2 v3 v4:Value) (h0:(w.cell? ⟨b,o,none⟩).isSome=true) (h1:(w.cell? ⟨b,o+1,none⟩).isSome=true) (h2:(w.cell? ⟨b,o+2,none⟩).isSome=true) (h3:(w.cell? ⟨b,o+3,none⟩).isSome=true) (h4:(w.cell? ⟨b,o+4,none⟩).isSome=true) (f0:w.frozen? ⟨b,o,none⟩=false) (f1:w.frozen? ⟨b,o+1,none⟩=false) (f2:w.frozen? ⟨b,o+2,none⟩=false) (f3:w.frozen? ⟨b,o+3,none⟩=false) (f4:w.frozen? ⟨b,o+4,none⟩=false) (o0:v0.oneCell'=true) (o1:v1.oneCell'=true) (o2:v2.oneCell'=true) (o3:v3.oneCell'=true) (o4:v4.oneCell'=true):(NX ⟨b,o,none⟩ (.agg #[v0,v1,v2,v3,v4])).run Tryz.prog w=.ok () (((((w.setCell ⟨b,o,none⟩ v0).setCell ⟨b,o+1,none⟩ v1).setCell ⟨b,o+2,none⟩ v2).setCell ⟨b,o+3,none⟩ v3).setCell ⟨b,o+4,none⟩ v4):=eW (P:=Tryz.prog) w 189 b o [v0,v1,v2,v3,v4] (by kernel_rfl) (ac _ _ (ac _ _ (ac _ _ (ac _ _ (ac _ _ (fun j hj=>absurd hj (Nat.not_lt_zero j)) ⟨h0,f0,o0⟩) ⟨h1,f1,o1⟩) ⟨h2,f2,o2⟩) ⟨h3,f3,o3⟩) ⟨h4,f4,o4⟩)
def my (s t:ByteArray) (r:Int) (g o:ByteArray) (s2 t2:ByteArray) (r2:Int) (g2 o2:ByteArray):Bool:=aS s s2&&(aS t t2&&((r==r2)&&(aS g g2&&aS o o2)))
theorem Fx (w:World) (s t:ByteArray) (r:Int) (g o:ByteArray) (s2 t2:ByteArray) (r2:Int) (g2 o2:ByteArray) :
  (Op.equalIn 10000 189 (.agg #[.string s,.string t,.int .i64 r,.string g,.string o]) (.agg #[.string s2,.string t2,.int .i64 r2,.string g2,.string o2])).run Tryz.prog w=.ok (my s t r g o s2 t2 r2 g2 o2) w:=by
 cases h0:aS s s2
 ·(have Nj:=h0;unfold aS at Nj;go_simp;simp_all [my])
 have Nj:=h0;unfold aS at Nj
 cases h1:aS t t2
 ·(have xh:=h1;unfold aS at xh;go_simp;simp_all [my])
 have xh:=h1;unfold aS at xh
 cases h2:(r==r2)
 ·(go_simp;simp_all [my])
 cases h3:aS g g2
 ·(have Le:=h3;unfold aS at Le;go_simp;simp_all [my])
 have Le:=h3;unfold aS at Le
 cases h4:aS o o2
 ·(have JZ:=h4;unfold aS at JZ;go_simp;simp_all [my])
 ·(have JZ:=h4;unfold aS at JZ;go_simp;simp_all [my])
@[go_sem ↓] theorem Qs (w:World) (s t:ByteArray) (r:Int) (g o:ByteArray) (s2 t2:ByteArray) (r2:Int) (g2 o2:ByteArray) :
  (binOp .eql 189 (.agg #[.string s,.string t,.int .i64 r,.string g,.string o]) (.agg #[.string s2,.string t2,.int .i64 r2,.string g2,.string o2])).run Tryz.prog w=.ok (.bool (my s t r g o s2 t2 r2 g2 o2)) w:=by
 rw [run_eql_struct,Fx];rfl
theorem Gr (a b:cD):my a.af a.table a.right a.aI a.to b.af b.table b.right b.aI b.to=kL a b:=rfl
def wB (s t:ByteArray) (r:Int) (g o:ByteArray) (p:Bool) (s2 t2:ByteArray) (r2:Int) (g2 o2:ByteArray) (p2:Bool):Bool:=aS s s2&&(aS t t2&&((r==r2)&&(aS g g2&&(aS o o2&&(p==p2)))))
theorem Fy (w:World) (s t:ByteArray) (r:Int) (g o:ByteArray) (p:Bool) (s2 t2:ByteArray) (r2:Int) (g2 o2:ByteArray) (p2:Bool) :
  (Op.equalIn 10000 177 (.agg #[.string s,.string t,.int .i64 r,.string g,.string o,.bool p]) (.agg #[.string s2,.string t2,.int .i64 r2,.string g2,.string o2,.bool p2])).run Tryz.prog w=.ok (wB s t r g o p s2 t2 r2 g2 o2 p2) w:=by
 cases h0:aS s s2
 ·(have Nj:=h0;unfold aS at Nj;go_simp;simp_all [wB])
 have Nj:=h0;unfold aS at Nj
 cases h1:aS t t2
 ·(have xh:=h1;unfold aS at xh;go_simp;simp_all [wB])
 have xh:=h1;unfold aS at xh
 cases h2:(r==r2)
 ·(go_simp;simp_all [wB])
 cases h3:aS g g2
 ·(have Le:=h3;unfold aS at Le;go_simp;simp_all [wB])
 have Le:=h3;unfold aS at Le
 cases h4:aS o o2
 ·(have JZ:=h4;unfold aS at JZ;go_simp;simp_all [wB])
 have JZ:=h4;unfold aS at JZ
 cases h5:(p==p2)
 ·(go_simp;simp_all [wB])
 ·(go_simp;simp_all [wB])
@[go_sem ↓] theorem Qt (w:World) (s t:ByteArray) (r:Int) (g o:ByteArray) (p:Bool) (s2 t2:ByteArray) (r2:Int) (g2 o2:ByteArray) (p2:Bool) :
  (binOp .neq 177 (.agg #[.string s,.string t,.int .i64 r,.string g,.string o,.bool p]) (.agg #[.string s2,.string t2,.int .i64 r2,.string g2,.string o2,.bool p2])).run Tryz.prog w=.ok (.bool (!wB s t r g o p s2 t2 r2 g2 o2 p2)) w:=by
 rw [run_neq_struct,Fy];rfl
theorem Jv:(Tryz.prog.info? 177).map (fun i=>(i.zero,i.size,i.bytes))=some (some (.agg #[.string ByteArray.empty,.string ByteArray.empty,.int .i64 0,.string ByteArray.empty,.string ByteArray.empty,.bool false]),6,80):=by kernel_rfl
theorem CE {ops:Array Oper} {rest:List Oper} {o:Oper} {a:Act} {w:World} {Q:Exit→Act→World→Prop} (hgd:o.guard=none) (s x:Operand)
  (ho:o.op=.call { callee:=.builtin .append,args:=#[s,x],argTypes:=#[30,30] }) (base:Nat) (v:Value) (n:Nat) (xs:List Value) (hs:a.eval s=v) (hown:w.ownsRow base 177 6 v n xs)
  (b:Nat) (y:cD) (hx:a.eval x=.slice (some ⟨b,0,none⟩) 1 1) (hb:w.heap[b]? = some (.cells #[.string y.af,.string y.table,.int .i64 y.right,.string y.aI,.string y.to,.bool y.opt] 177)) (hn:n≤1000000) (hbase:base≤w.heap.size)
  (h:∀ g cap w',w'.ownsRow base 177 6 (.slice (some ⟨g,0,none⟩) (n+1) cap) (n+1) (xs++eR y)→w.grownBy w' v.ownBlock→(v.ownBlock=some g∨g=w.heap.size)→wpList Tryz.prog ops Q rest (a.put o.dst (.slice (some ⟨g,0,none⟩) (n+1) cap)) w'):wpList Tryz.prog ops Q (o::rest) a w:=by
 obtain ⟨i0,mL,hz0,hz1,hz2⟩:=info_parts Jv
 exact wpList_append_lies w hgd s x 30 ho base 177 i0 _ 6 80 Tryz.underlying30 mL hz0 hz1 hz2 rfl (by decide) v n xs hs hown ⟨b,0,none⟩ 1 1 [.string y.af,.string y.table,.int .i64 y.right,.string y.aI,.string y.to,.bool y.opt] hx rfl (World.news_of_block (cs:=#[.string y.af,.string y.table,.int .i64 y.right,.string y.aI,.string y.to,.bool y.opt]) (t:=177) (fr:=(0,0)) hb) (by simp [Value.oneCell']) (by omega) (by unfold maxLen;omega) (by omega) hbase _ rfl fun g cap w' h1 h2 h3 _=>h g cap w' h1 h2 h3
def xA (name:ByteArray) (kind:Int) (n:Nat) (low high:Int) (af table key:ByteArray):Bool :=
 decide (n=0)&&emp name&&emp af&&emp table&&emp key&&(kind==0)&&(low==0)&&(high==0)
theorem GL (name:ByteArray) (kind:Int) (A:Option Addr) (n c:Nat) (low high:Int) (af table key:ByteArray) (w:World)
  (h1:name.size≤140737488351232) (h2:af.size≤140737488351232) (h3:table.size≤140737488351232) (h4:key.size≤140737488351232) :
  Calls Tryz.prog 108 #[.agg #[.string name,.int .i64 kind,.slice A n c,.int .i64 low,.int .i64 high,.string af,.string table,.string key]] w
   fun e w'=>e=.returned (.bool (xA name kind n low high af table key))∧ag w w':=by
 go_in
 go_wp2_with fail
 all_goals
  go_ret;refine ⟨Eq.trans (b:=.returned (.bool _)) rfl (dx (cz ?_)),(ag.refl _).alloc _⟩
  simp_all [xA,emp,ir]
structure iF where
 aC:Int
 number:Int
 code:Int
 fence:Int
 version:Int
structure eZ where
 seq:Int
 node:Int
 ask:Int
 av:Int
def cj (d:iF):List Value:=[.int .i64 d.aC,.int .i64 d.number,.int .i64 d.code,.int .i64 d.fence,.int .i64 d.version]
def eA (l:eZ):List Value:=[.int .i64 l.seq,.int .i64 l.node,.int .i64 l.ask,.int .i64 l.av]
def fj (_:World) (cs:List Value) (d:iF):Prop:=cs=cj d
def fq (_:World) (cs:List Value) (l:eZ):Prop:=cs=eA l
def nB (n lo hi:Int):Bool:=decide (lo≤n)&&decide (n≤hi)
def lj (n:Int):Bool:=nB n 1 1000000000
def zA (n:Int):Bool:=nB n 11 13
def kI {α:Type} (k:α→Int) (p:α→Bool) (l:List α):Nat→Bool
 | 0=>match l[0]? with | some x=>p x | none=>true
 | j+1=>match l[j]?,l[j+1]? with | some y,some x=>decide (k y < k x)&&p x | _,_=>true
def kz {α:Type} (k:α→Int) (p:α→Bool) (l:List α):Bool:=(List.range l.length).all (kI k p l)
section
variable {α : Type} {k : α → Int} {p : α → Bool} {l : List α}
theorem gT (h:0 < l.length):kI k p l 0=p l[0]:=by unfold kI;rw [List.getElem?_eq_getElem h]
theorem eO {j:Nat} (h:j+1 < l.length):kI k p l (j+1)=(decide (k l[j] < k l[j+1])&&p l[j+1]):=by
 show (match l[j]?,l[j+1]? with | some y,some x=>decide (k y < k x)&&p x | _,_=>true)=_
 rw [List.getElem?_eq_getElem h,List.getElem?_eq_getElem (by omega:j < l.length)]
theorem lV {j:Nat} (h:j < l.length) (h2:kI k p l j=false):kz k p l=false:=by
 unfold kz;rw [List.all_eq_false];exact ⟨j,List.mem_range.2 h,by rw [h2];simp⟩
theorem qR (h:∀ j,j < l.length→kI k p l j=true):kz k p l=true:=by
 unfold kz;rw [List.all_eq_true]
 exact fun j hj=>h j (List.mem_range.1 hj)
end
def xb (e v:Int) (d:iF):Bool:=nB d.aC 1 4&&lj d.number&&nB d.code 0 65535&&nB d.fence 0 e&&nB d.version 0 v
def tu (e last:Int) (l:eZ):Bool:=nB l.seq 1 last&&zA l.node&&lj l.ask&&nB l.av 0 e
structure fo where
 cat:bS
 aQ:List iF
 bp:List eZ
 last:Int
abbrev Bt:=List UInt8
def le:Nat→Nat→Bt
 | 0,_=>[]
 | k+1,v=>UInt8.ofNat v::le k (v / 256)
def mO:Bt→Nat
 | []=>0
 | b::l=>b.toNat+256*mO l
theorem fk:∀ k v,(le k v).length=k
 | 0,_=>rfl
 | k+1,v=>by rw [le,List.length_cons,fk]
theorem wC:∀ k v,mO (le k v)=v % 256 ^ k
 | 0,v=>by simp [le,mO,Nat.mod_one]
 | k+1,v=>by
  rw [le,mO,wC k,Nat.pow_succ,Nat.mul_comm (256 ^ k),Nat.mod_mul,UInt8.toNat_ofNat']
theorem wD:∀ l:Bt,mO l < 256 ^ l.length
 | []=>by decide
 | b::l=>by
  have:=wD l;have:=b.toNat_lt;rw [mO,List.length_cons,Nat.pow_succ];omega
def bF (n:Int):Bt:=le 4 n.toNat
def ky (n:Int):Bt:=le 8 (n % 18446744073709551616).toNat
def bR (s:ByteArray):Bt:=le 4 s.size++s.data.toList
def II (b:Bool):Bt:=[if b then 1 else 0]
def bN {α:Type} (e:α→Bt) (l:List α):Bt:=bF l.length++l.flatMap e
def cH (l:Bt):Option (Int × Bt):=if 4≤l.length∧mO (l.take 4)≤1000000000 then some (mO (l.take 4),l.drop 4) else none
def Vg (v:Nat):Int:=if v < 9223372036854775808 then v else v - 18446744073709551616
def nA (l:Bt):Option (Int × Bt):=if 8≤l.length then some (Vg (mO (l.take 8)),l.drop 8) else none
def dR (l:Bt):Option (ByteArray × Bt):=if 4≤l.length∧mO (l.take 4)≤65536∧mO (l.take 4)≤l.length - 4 then some (⟨((l.drop 4).take (mO (l.take 4))).toArray⟩,l.drop (4+mO (l.take 4))) else none
def Fz:Bt→Option (Bool × Bt)
 | []=>none
 | b::l=>if b≤1 then some (b==1,l) else none
def gi {α:Type} (d:Bt→Option (α × Bt)):Nat→Bt→Option (List α × Bt)
 | 0,l=>some ([],l)
 | n+1,l=>(d l).bind fun (x,l)=>(gi d n l).map fun (xs,l)=>(x::xs,l)
def bT {α:Type} (d:Bt→Option (α × Bt)) (l:Bt):Option (List α × Bt):=(cH l).bind fun (n,l)=>if n≤4096 then gi d n.toNat l else none
def Rt {α:Type} (e:α→Bt) (d:Bt→Option (α × Bt)) (ok:α→Prop):Prop:=∀ x r,ok x→d (e x++r)=some (x,r)
def wK (n:Int):Prop:=0≤n∧n≤1000000000
def Dq (n:Int):Prop := -9223372036854775808≤n∧n≤9223372036854775807
def oF (s:ByteArray):Prop:=s.size≤65536
def sR {α:Type} (ok:α→Prop) (l:List α):Prop:=l.length≤4096∧∀ x∈l,ok x
theorem wE (k v:Nat) (r:Bt):(le k v++r).take k=le k v:=by
 rw [List.take_append_of_le_length (by rw [fk];exact Nat.le_refl _),List.take_of_length_le (by rw [fk];exact Nat.le_refl _)]
theorem qI (k v:Nat) (r:Bt):(le k v++r).drop k=r:=by
 have:=@List.drop_left _ (le k v) r
 rwa [fk] at this
theorem fH:Rt bF cH wK:=fun n r ⟨h0,h1⟩=>by
 have hv:n.toNat % 256 ^ 4=n.toNat:=Nat.mod_eq_of_lt (by omega);unfold cH bF;rw [wE,qI,wC,hv,if_pos ⟨by rw [List.length_append,fk];omega,by omega⟩,Int.toNat_of_nonneg h0]
theorem Jw:Rt ky nA Dq:=fun n r ⟨h0,h1⟩=>by
 have hv:(n % 18446744073709551616).toNat % 256 ^ 8=(n % 18446744073709551616).toNat:=Nat.mod_eq_of_lt (by omega);unfold nA ky;rw [wE,qI,wC,hv,if_pos (by rw [List.length_append,fk];omega)]
 congr 2
 unfold Vg
 split<;>omega
theorem eY:Rt bR dR oF:=fun s r h=>by
 have h:s.size≤65536:=h;have hv:s.size % 256 ^ 4=s.size:=Nat.mod_eq_of_lt (by omega);have hz:s.data.toList.length=s.size:=rfl;unfold dR bR;rw [List.append_assoc,wE,qI,wC,hv,if_pos ⟨by rw [List.length_append,fk];omega,h,by rw [List.length_append,List.length_append,fk];omega⟩];rw [← List.drop_drop,qI,← hz,List.take_left,List.drop_left]
theorem Jx:Rt II Fz (fun _=>True):=fun b r _=>by cases b<;>rfl
theorem Jy {α:Type} {e:α→Bt} {d:Bt→Option (α × Bt)} {ok:α→Prop} (h:Rt e d ok):∀ (l:List α) (r:Bt),(∀ x∈l,ok x)→gi d l.length (l.flatMap e++r)=some (l,r)
 | [],r,_=>rfl
 | x::l,r,hl=>by
  have h1:=h x (l.flatMap e++r) (hl x (List.mem_cons_self ..))
  have h2:=Jy h l r fun y hy=>hl y (List.mem_cons_of_mem _ hy)
  rw [List.flatMap_cons,List.append_assoc,List.length_cons,gi,h1];simp [h2]
theorem jU {α:Type} {e:α→Bt} {d:Bt→Option (α × Bt)} {ok:α→Prop} (h:Rt e d ok):Rt (bN e) (bT d) (sR ok):=fun l r hl=>by
 have h1:=hl.1;have h2:=fH (l.length:Int) (l.flatMap e++r) ⟨by omega,by omega⟩;unfold bT bN;rw [List.append_assoc,h2];simp only [Option.bind_some,Int.toNat_natCast];rw [if_pos (by omega),Jy h l r hl.2]
def jo (c:dY):Bt:=bR c.name++(bF c.kind++II c.null)
def jH (x:fh):Bt:=bR x.name++(bF x.kind++(bN bR x.au++(ky x.low++(ky x.high++(bR x.af++(bR x.table++bR x.key))))))
def iQ (t:bW):Bt:=bR t.af++(bR t.name++(bR t.owner++(bN jo t.au++bN jH t.rules)))
def iC (s:fK):Bt:=bR s.name++bR s.owner
def jp (m:dO):Bt:=bR m.role++bR m.of
def jI (g:cD):Bt:=bR g.af++(bR g.table++(bF g.right++(bR g.aI++(bR g.to++II g.opt))))
def oI (c:bS):Bt:=bF c.av++(bF c.version++(bN iC c.aj.ae++(bN iQ c.aj.tables++(bN bR c.ar.names++(bN jp c.ar.members++bN jI c.ah)))))
def jq (d:iF):Bt:=bF d.aC++(bF d.number++(bF d.code++(bF d.fence++bF d.version)))
def jJ (l:eZ):Bt:=bF l.seq++(bF l.node++(bF l.ask++bF l.av))
def gP (m:fo):Bt:=oI m.cat++(bN jq m.aQ++(bN jJ m.bp++bF m.last))
def jm (l:Bt):Option (dY × Bt):=(dR l).bind fun (n,l)=>(cH l).bind fun (k,l)=>(Fz l).map fun (u,l)=>(⟨n,k,u⟩,l)
def fI (l:Bt):Option (fh × Bt):=(dR l).bind fun (n,l)=>(cH l).bind fun (k,l)=>(bT dR l).bind fun (c,l)=>(nA l).bind fun (a,l)=>(nA l).bind fun (b,l)=>(dR l).bind fun (s,l)=>(dR l).bind fun (t,l)=>(dR l).map fun (q,l)=>(⟨n,k,c,a,b,s,t,q⟩,l)
def ia (l:Bt):Option (bW × Bt):=(dR l).bind fun (s,l)=>(dR l).bind fun (n,l)=>(dR l).bind fun (o,l)=>(bT jm l).bind fun (c,l)=>(bT fI l).map fun (r,l)=>(⟨s,n,o,c,r⟩,l)
def jV (l:Bt):Option (fK × Bt):=(dR l).bind fun (n,l)=>(dR l).map fun (o,l)=>(⟨n,o⟩,l)
def jW (l:Bt):Option (dO × Bt):=(dR l).bind fun (n,l)=>(dR l).map fun (o,l)=>(⟨n,o⟩,l)
def gN (l:Bt):Option (cD × Bt):=(dR l).bind fun (s,l)=>(dR l).bind fun (t,l)=>(cH l).bind fun (r,l)=>(dR l).bind fun (b,l)=>(dR l).bind fun (o,l)=>(Fz l).map fun (p,l)=>(⟨s,t,r,b,o,p⟩,l)
def kH (l:Bt):Option (bS × Bt):=(cH l).bind fun (e,l)=>(cH l).bind fun (v,l)=>(bT jV l).bind fun (s,l)=>(bT ia l).bind fun (t,l)=>(bT dR l).bind fun (n,l)=>(bT jW l).bind fun (m,l)=>(bT gN l).map fun (g,l)=>(⟨e,v,⟨s,t⟩,⟨n,m⟩,g⟩,l)
def ib (l:Bt):Option (iF × Bt):=(cH l).bind fun (a,l)=>(cH l).bind fun (b,l)=>(cH l).bind fun (c,l)=>(cH l).bind fun (d,l)=>(cH l).map fun (e,l)=>(⟨a,b,c,d,e⟩,l)
def iE (l:Bt):Option (eZ × Bt):=(cH l).bind fun (a,l)=>(cH l).bind fun (b,l)=>(cH l).bind fun (c,l)=>(cH l).map fun (d,l)=>(⟨a,b,c,d⟩,l)
def mj (l:Bt):Option (fo × Bt):=(kH l).bind fun (c,l)=>(bT ib l).bind fun (d,l)=>(bT iE l).bind fun (e,l)=>(cH l).map fun (n,l)=>(⟨c,d,e,n⟩,l)
structure wR (c:dY):Prop where
 n:oF c.name
 k:wK c.kind
structure wT (x:fh):Prop where
 n:oF x.name
 k:wK x.kind
 c:sR oF x.au
 a:Dq x.low
 b:Dq x.high
 s:oF x.af
 t:oF x.table
 q:oF x.key
structure wU (t:bW):Prop where
 s:oF t.af
 n:oF t.name
 o:oF t.owner
 c:sR wR t.au
 r:sR wT t.rules
structure wV (s:fK):Prop where
 n:oF s.name
 o:oF s.owner
structure wW (s:dO):Prop where
 n:oF s.role
 o:oF s.of
structure wX (g:cD):Prop where
 s:oF g.af
 t:oF g.table
 r:wK g.right
 b:oF g.aI
 o:oF g.to
structure tQ (c:bS):Prop where
 e:wK c.av
 v:wK c.version
 s:sR wV c.aj.ae
 t:sR wU c.aj.tables
 n:sR oF c.ar.names
 m:sR wW c.ar.members
 g:sR wX c.ah
structure wY (x:iF):Prop where
 a:wK x.aC
 b:wK x.number
 c:wK x.code
 d:wK x.fence
 e:wK x.version
structure wZ (l:eZ):Prop where
 a:wK l.seq
 b:wK l.node
 c:wK l.ask
 d:wK l.av
structure j5 (m:fo):Prop where
 c:tQ m.cat
 d:sR wY m.aQ
 l:sR wZ m.bp
 n:wK m.last
theorem Qu:Rt jo jm wR:=fun x r h=>by
 simp only [jo,jm,List.append_assoc,eY _ _ h.n,fH _ _ h.k,Jx _ _ trivial,Option.bind_some,Option.map_some]
theorem Qv:Rt jH fI wT:=fun x r h=>by
 simp only [jH,fI,List.append_assoc,eY _ _ h.n,fH _ _ h.k,jU eY _ _ h.c,Jw _ _ h.a,Jw _ _ h.b,eY _ _ h.s,eY _ _ h.t,eY _ _ h.q,Option.bind_some,Option.map_some]
theorem Qw:Rt iQ ia wU:=fun x r h=>by
 simp only [iQ,ia,List.append_assoc,eY _ _ h.s,eY _ _ h.n,eY _ _ h.o,jU Qu _ _ h.c,jU Qv _ _ h.r,Option.bind_some,Option.map_some]
theorem Qx:Rt iC jV wV:=fun x r h=>by
 simp only [iC,jV,List.append_assoc,eY _ _ h.n,eY _ _ h.o,Option.bind_some,Option.map_some]
theorem Qy:Rt jp jW wW:=fun x r h=>by
 simp only [jp,jW,List.append_assoc,eY _ _ h.n,eY _ _ h.o,Option.bind_some,Option.map_some]
theorem Qz:Rt jI gN wX:=fun x r h=>by
 simp only [jI,gN,List.append_assoc,eY _ _ h.s,eY _ _ h.t,fH _ _ h.r,eY _ _ h.b,eY _ _ h.o,Jx _ _ trivial,Option.bind_some,Option.map_some]
theorem QA:Rt oI kH tQ:=fun x r h=>by
 simp only [oI,kH,List.append_assoc,fH _ _ h.e,fH _ _ h.v,jU Qx _ _ h.s,jU Qw _ _ h.t,jU eY _ _ h.n,jU Qy _ _ h.m,jU Qz _ _ h.g,Option.bind_some,Option.map_some]
theorem QB:Rt jq ib wY:=fun x r h=>by
 simp only [jq,ib,List.append_assoc,fH _ _ h.a,fH _ _ h.b,fH _ _ h.c,fH _ _ h.d,fH _ _ h.e,Option.bind_some,Option.map_some]
theorem QC:Rt jJ iE wZ:=fun x r h=>by
 simp only [jJ,iE,List.append_assoc,fH _ _ h.a,fH _ _ h.b,fH _ _ h.c,fH _ _ h.d,Option.bind_some,Option.map_some]
theorem O0:Rt gP mj j5:=fun x r h=>by
 simp only [gP,mj,List.append_assoc,QA _ _ h.c,jU QB _ _ h.d,jU QC _ _ h.l,fH _ _ h.n,Option.bind_some,Option.map_some]
def Ei (b:UInt8):List Value:=[.int .u8 b.toNat]
def vt (_:World) (cs:List Value) (b:UInt8):Prop:=cs=Ei b
def i7 (l:Bt):List Value:=l.flatMap Ei
theorem fc (l:Bt):(i7 l).length=l.length:=by unfold i7;induction l<;>simp_all [Ei]
theorem oD:∀ l:Bt,i7 l=l.map fun b=>Value.int .u8 b.toNat
 | []=>rfl
 | b::l=>by rw [i7,List.flatMap_cons,List.map_cons,← oD l];rfl
theorem qJ (a b:Bt):i7 (a++b)=i7 a++i7 b:=by simp [i7]
theorem Ms (l:Bt):∀ u∈i7 l,u.oneCell'=true:=by
 intro u hu;obtain ⟨b,_,hb⟩:=List.mem_flatMap.1 hu;rw [Ei,List.mem_singleton] at hb;subst hb;rfl
theorem DB:∀ k v,le (k+1) v=le k v++[UInt8.ofNat (v / 256 ^ k)]
 | 0,v=>by simp [le]
 | k+1,v=>by
  rw [le,DB k,le,Nat.div_div_eq_div_mul,Nat.pow_succ,Nat.mul_comm 256];rfl
theorem Mt:(Tryz.prog.info? 5).map (fun i=>(i.zero,i.size,i.bytes))=some (some (.int .u8 0),1,1):=by kernel_rfl
theorem lT:∃ i,Tryz.prog.info? 5=some i∧i.zero=some (.int .u8 0)∧i.size=1∧i.bytes=1:=by
 have h:=Mt
 cases hi:Tryz.prog.info? 5 with
 | none=>rw [hi] at h;cases h
 | some i =>
  rw [hi] at h;simp only [Option.map_some,Option.some.injEq,Prod.mk.injEq] at h;exact ⟨i,rfl,h.1,h.2.1,h.2.2⟩
def qm (l:Bt) (v n k:Nat):List Value:=i7 l++(i7 (le k v)++List.replicate (n - k) (.int .u8 0))
theorem Jz (l:Bt) (v n k:Nat) (hk:k≤n):(qm l v n k).length=l.length+n:=by
 unfold qm;rw [List.length_append,List.length_append,fc,fc,fk,List.length_replicate];omega
theorem JA (l:Bt) (v n k:Nat) (hk:k < n):(qm l v n k).set (l.length+k) (.int .u8 (UInt8.ofNat (v / 256 ^ k)).toNat)=qm l v n (k+1):=by
 unfold qm
 have e:n - k=(n - (k+1))+1:=by omega
 rw [e,List.replicate_succ,DB,qJ];have h1:=fc l
 have h2:(i7 (le k v)).length=k:=by rw [fc,fk]
 rw [List.set_append_right _ _ (by omega),List.set_append_right _ _ (by omega),h1,h2];rw [show l.length+k - l.length - k=0 by omega,List.set_cons_zero];simp [Ei,i7]
theorem JB (l:Bt) (v n:Nat):qm l v n n=i7 (l++le n v):=by
 unfold qm;rw [Nat.sub_self,List.replicate_zero,List.append_nil,qJ]
theorem DC (m:Nat):(madeCells (Value.int .u8 0).cells (m*1)).toList=List.replicate m (.int .u8 0):=by
 refine List.ext_getElem (by simp [size_madeCells]) fun i h1 h2=>?_
 simp [madeCells,Value.cells,Nat.mod_one]
theorem pQ (w:World) (ty:TypeId) (g m cap:Nat) (A:Option Addr) (l:Bt) (hx:az w 1 vt A cap l) (hm:l.length≤m) (xs:List Value) (hr:ai w g xs) (hl:l.length≤xs.length) :
  (Builtin.copy_ #[84,84] ty #[.slice (some ⟨g,0,none⟩) m m,.slice A l.length cap]).run Tryz.prog w=.ok (.int .i64 l.length) (w.setCells g 0 (i7 l)):=by
 obtain ⟨i,hi,hz,hs,hb⟩:=lT;have Ze:Nat.min l.length m=l.length:=Nat.min_eq_left hm
 cases A with
 | none =>
  cases l with
  | nil =>
   simp [Builtin.copy_,run_underlying Tryz.underlying84,Builtin.lenOf,Builtin.firstCells,sizeOf,typeInfo,hi];rfl
  | cons b l=>obtain ⟨_,_,_,h,_⟩:=hx.2.2 0 (by simp);cases h
 | some a =>
  have BL:∀ j v,(i7 l)[j]? = some v→w.cell? (a.add j)=some v:=fun j v hj=>by
   have Pp:j < l.length:=by rw [← fc];exact (List.getElem?_eq_some_iff.1 hj).1
   obtain ⟨b,off,cs,hA,_,_,hR,hc⟩:=hx.2.2 j Pp
   injection hA with hA
   subst hA;have h0:=hc 0 (by omega)
   have e:(i7 l)[j]? = some (.int .u8 l[j].toNat):=by
    rw [oD,List.getElem?_map,List.getElem?_eq_getElem Pp];rfl
   rw [e] at hj
   cases hj
   rw [hR] at h0
   have h0:w.cell? ⟨b,off+j,none⟩=some (.int .u8 l[j].toNat):=by simpa [Ei] using h0
   by_cases Vh:j=0
   ·subst Vh;simpa [Addr.add] using h0
   ·simpa [Addr.add,Vh] using h0
  have:=BK (P:=Tryz.prog) w 84 84 ty 5 1 g 0 m m a l.length cap l.length (i7 l) Tryz.underlying84 (by rw [hi];simp [hs]) Ze (by rw [fc];omega) BL
   (fun j hj=>by rw [fc] at hj;rw [Nat.zero_add,hr.2.1 j (by omega),List.getElem?_eq_getElem (by omega)];rfl) (fun j hj=>by rw [fc] at hj;rw [Nat.zero_add];exact hr.2.2 j (by omega)) (Ms l)
  exact this
theorem wG (l:Bt) (A:Option Addr) (cap v n:Nat) (hn:n≤8) (hv:v < 18446744073709551616) (hl:l.length≤1000000000) (w:World) (hx:az w 1 vt A cap l) :
  Calls Tryz.prog 236 #[.slice A l.length cap,.int .u64 v,.int .i64 n] w fun e w'=>∃ m,e=.returned (.slice (some ⟨m,0,none⟩) (l.length+n) (l.length+n))∧ag w w'∧w'.ownsRow w.heap.size 5 1 (.slice (some ⟨m,0,none⟩) (l.length+n) (l.length+n)) (l.length+n) (i7 (l++le n v)):=by
 obtain ⟨i,hi,hz,hs,hb⟩:=lT;obtain ⟨m,hm⟩:∃ m,l.length+n=m:=⟨_,rfl⟩;obtain ⟨w1,hr1,mm,hg1⟩:=run_make_full w w.heap.size 84 5 i (.int .u8 0) 1 Tryz.underlying84 hi hz hs .i64 .i64 m (by rw [hb];omega) (by unfold maxLen;omega) (Nat.le_refl _);rw [DC] at mm;obtain ⟨g,hg⟩:∃ g,g=w.heap.size:=⟨_,rfl⟩;rw [← hg] at hr1 mm;have a1:ag w w1:=⟨hg1.os,hg1.tape,hg1.output,hg1.size,fun k hk=>hg1.block k hk (fun e=>by cases e)⟩
 have hx1:=hx.aA a1 fun _ _ h=>h
 have rr:ai w1 g (List.replicate m (.int .u8 0)):=by
  by_cases h0:0 < m
  ·obtain ⟨g',cap',hv',_,_,G1⟩:=bU mm h0
   injection hv' with hv' _ _
   injection hv' with hv'
   injection hv' with hv' _ _
   subst hv';exact G1
  ·have:m=0:=by omega
   subst this;refine ⟨?_,fun j hj=>(by simp at hj),fun j hj=>(by simp at hj)⟩;have:=mm.2
   rcases this with h | ⟨g',cap',cur,hv',_,qL,_⟩
   ·exact absurd h.1 (by simp)
   ·injection hv' with hv' _ _
    injection hv' with hv'
    injection hv' with hv' _ _
    subst hv';exact lt_of_block qL
 have Wo:=fun ty=>pQ w1 ty g m cap A l hx1 (by omega) _ rr (by simp;omega)
 obtain ⟨w2,hw2⟩:∃ w2,w1.setCells g 0 (i7 l)=w2:=⟨_,rfl⟩
 have o2:w2.ownsRow w.heap.size 5 1 (.slice (some ⟨g,0,none⟩) m m) m (qm l v n 0):=by
  have h:=dl (g:=g) rfl (i7 l) 0 mm;rw [hw2,iX _ _ _ (by rw [fc];simp;omega),fc] at h;rw [hg];rw [hg] at h
  have e:qm l v n 0=List.take 0 (List.replicate m (Value.int .u8 0))++i7 l++List.drop (0+l.length) (List.replicate m (Value.int .u8 0)):=by
   unfold qm;rw [List.take_zero,List.nil_append,Nat.zero_add,List.drop_replicate,← hm];simp [le,i7]
  rw [e];exact h
 have a2:ag w w2:=by
  rw [← hw2];exact (dL g (i7 l) w1 0).aJ a1 (fun k hk e=>by omega)
 rw [hw2] at Wo
 have JS:(m:Int)=(l.length:Int)+n:=by omega
 rw [JS] at hr1;have HO:=gH o2;have HA:=gH a2;have HG:=gH hg;have HM:=gH hm;clear hi hz hs hb mm hg1 a1 hx1 rr hw2 hg o2 a2 hx JS
 go_in
 go_wp2_with fail
 go_loopw [18] (fun i wr=>∃ k:Nat,k≤n∧i=.int .i64 k∧Hid (wr.ownsRow w.heap.size 5 1 (.slice (some ⟨g,0,none⟩) m m) m (qm l v n k)∧ag w wr)) (fun i _=>n - (intOf i).toNat)
 case atStart=>exact ⟨0,Nat.zero_le _,rfl,gH ⟨HO.out,HA.out⟩⟩
 case round =>
  obtain ⟨k,hk,rfl,HR⟩:=hrel;by_cases hlt:k < n
  ·have eH:(k:Int) < (n:Int):=by omega
   obtain ⟨g',cap',hv',_,_,G1⟩:=bU HR.out.1 (by omega)
   injection hv' with hv' _ _
   injection hv' with hv'
   injection hv' with hv' _ _
   subst hv';have hzl:=Jz l v n k hk
   have hj:l.length+k < (qm l v n k).length:=by omega
   have y0:=G1.cell (List.getElem?_eq_getElem hj);have y1:=G1.2.2 _ hj;have yb:=G1.1
   have e:((v:Int) / 2 ^ (8*k) % 256)=(((UInt8.ofNat (v / 256 ^ k)).toNat:Nat):Int):=by
    rw [UInt8.toNat_ofNat',show (256:Nat) ^ k=2 ^ (8*k) from by rw [Nat.pow_mul]]
    push_cast
    rfl
   have HE:=gH e;clear e;go_wp2_with fail;refine ⟨⟨k+1,by omega,by go_num,gH ⟨?_,?_⟩⟩,?_⟩
   ·have h:=ku HR.out.1 (g:=g) rfl (l.length+k) (.int .u8 (UInt8.ofNat (v / 256 ^ k)).toNat)
    rw [JA _ _ _ _ hlt] at h;rw [HE.out];exact h
   ·exact (Kb.set wr g _ _).aJ HR.out.2 (fun j hj ej=>by have:=HG.out;omega)
   ·simp [intOf];omega
  ·have eH:¬ (k:Int) < (n:Int):=by omega
   go_wp2;go_ret
   have e:k=n:=by omega
   subst e;have h:=HR.out.1;rw [JB] at h;have hm:=HM.out;subst hm;exact ⟨g,rfl,HR.out.2,h⟩
theorem NY {w:World} {B:Nat} {h:Hd} {l:Bt} (o:w.ownsRow B 5 1 h.v l.length (i7 l)) (hl:l.length≤1000000000):az w 1 vt h.a h.c l :=
 dS Ei (show w.ownsRow B 5 1 h.v l.length (l.flatMap Ei) from o) (fun x _=>⟨rfl,rfl⟩) (by unfold Small;omega)
def tk (w:World) (l:Bt) (e:Ending) (w':World):Prop:=ag w w'∧∃ m c,e=.returned (.tuple #[.slice (some ⟨m,0,none⟩) l.length c,.int .i64 0])∧w'.ownsRow w.heap.size 5 1 (.slice (some ⟨m,0,none⟩) l.length c) l.length (i7 l)
theorem FA (l:Bt) (A:Option Addr) (cap:Nat) (n:Int) (hn:wK n) (hl:l.length≤100000000) (w:World) (hx:az w 1 vt A cap l) :
  Calls Tryz.prog 164 #[.slice A l.length cap,.int .i64 n] w (tk w (l++bF n)):=by
 obtain ⟨h0,h1⟩:=hn
 have g0:¬ n < 0:=by omega
 have g1:¬ 1000000000 < n:=by omega
 obtain ⟨v,rfl⟩:∃ v:Nat,n=v:=⟨n.toNat,by omega⟩;have HL:=gH (show Calls Tryz.prog 236 #[.slice A l.length cap,.int .u64 v,.int .i64 4] w _ from wG l A cap v 4 (by decide) (by omega) (by omega) w hx);have HZ:=gH (show l++bF (v:Int)=l++le 4 v from by simp [bF]);clear hx
 go_in
 go_wp2_with (first
  | (go_at_call 236;(with_reducible refine HL.out.mono ?_);rintro e w1 ⟨m,rfl,a1,o1⟩;have H1:=gH (And.intro a1 o1);clear a1 o1))
 go_ret2
 rw [HZ.out]
 have hlen:(l++le 4 v).length=l.length+4:=by rw [List.length_append,fk]
 exact ⟨H1.out.1,m,l.length+4,by rw [hlen];rfl,by rw [hlen];exact H1.out.2⟩
theorem FB (l:Bt) (A:Option Addr) (cap:Nat) (n:Int) (hn:Dq n) (hl:l.length≤100000000) (w:World) (hx:az w 1 vt A cap l) :
  Calls Tryz.prog 363 #[.slice A l.length cap,.int .i64 n] w fun e w'=>ag w w'∧∃ m c,e=.returned (.slice (some ⟨m,0,none⟩) (l++ky n).length c)∧w'.ownsRow w.heap.size 5 1 (.slice (some ⟨m,0,none⟩) (l++ky n).length c) (l++ky n).length (i7 (l++ky n)):=by
 obtain ⟨h0,h1⟩:=hn;obtain ⟨v,hv⟩:∃ v:Nat,(n % 18446744073709551616).toNat=v:=⟨_,rfl⟩
 have hv2:n % 18446744073709551616=v:=by omega
 have HL:=gH (show Calls Tryz.prog 236 #[.slice A l.length cap,.int .u64 (IntKind.u64.wrap n),.int .i64 8] w _ from by
  rw [show IntKind.u64.wrap n=v from hv2]
  exact wG l A cap v 8 (by decide) (by omega) (by omega) w hx)
 have HZ:=gH (show l++ky n=l++le 8 v from by rw [ky,hv]);clear hx hv hv2
 go_in
 go_wp2_with (first
  | (go_at_call 236;(with_reducible refine HL.out.mono ?_);rintro e w1 ⟨m,rfl,a1,o1⟩;have H1:=gH (And.intro a1 o1);clear a1 o1))
 go_ret;rw [HZ.out]
 have hlen:(l++le 8 v).length=l.length+8:=by rw [List.length_append,fk]
 exact ⟨H1.out.1,m,l.length+8,by rw [hlen];rfl,by rw [hlen];exact H1.out.2⟩
theorem FC (l:Bt) (A:Option Addr) (cap:Nat) (t:ByteArray) (ht:oF t) (hl:l.length≤100000000) (w:World) (hx:az w 1 vt A cap l) :
  Calls Tryz.prog 234 #[.slice A l.length cap,.string t] w (tk w (l++bR t)):=by
 have ht:t.size≤65536:=ht
 have g1:¬ (65536:Int) < (t.size:Int):=by omega
 obtain ⟨i,hi,hz,hs,hb⟩:=lT;have HL:=gH (show Calls Tryz.prog 236 #[.slice A l.length cap,.int .u64 t.size,.int .i64 4] w _ from wG l A cap t.size 4 (by decide) (by omega) (by omega) w hx)
 have HAP:=gH (show ∀ (w1:World) (m:Nat),w1.ownsRow w.heap.size 5 1 (.slice (some ⟨m,0,none⟩) (l.length+4) (l.length+4)) (l.length+4) (i7 (l++le 4 t.size))→ag w w1→∃ g c w2,(∀ ty,(Builtin.append_ #[84,9] ty #[.slice (some ⟨m,0,none⟩) (l.length+4) (l.length+4),.string t]).run Tryz.prog w1=.ok (.slice (some ⟨g,0,none⟩) (l.length+4+t.size) c) w2)∧Hid (ag w w2∧w2.ownsRow w.heap.size 5 1 (.slice (some ⟨g,0,none⟩) (l.length+4+t.size) c) (l.length+4+t.size) (i7 (l++bR t))) from fun w1 m o1 a1=>by
  have e:∀ ty,(Builtin.append_ #[84,9] ty #[.slice (some ⟨m,0,none⟩) (l.length+4) (l.length+4),.string t]).run Tryz.prog w1=(Builtin.append_ #[84,9] 84 #[.slice (some ⟨m,0,none⟩) (l.length+4) (l.length+4),.string t]).run Tryz.prog w1:=fun ty=>rfl
  obtain ⟨v',w2,hr,ho,hg,hn⟩:=Lib.run_append_own_string w1 w.heap.size 84 9 84 5 i Tryz.underlying84 Tryz.underlying9 hi hz hs hb _ _ _ o1 t (by unfold maxLen;omega) (by omega) a1.size
  rcases ho.2 with ⟨hv,h0⟩ | ⟨g,c,cur,rfl,h2⟩
  ·exact absurd (hn.1 hv).1 (by simp)
  ·refine ⟨g,c,w2,fun ty=>(e ty).trans hr,gH ⟨?_,?_⟩⟩
   ·exact (Kb.cZ hg).aJ a1 (fun k hk ek=>by have:=(o1.lt k ek).1;omega)
   ·have e2:i7 (l++le 4 t.size)++Lib.strCells t=i7 (l++bR t):=by
     rw [bR,← List.append_assoc,qJ (l++le 4 t.size),oD t.data.toList];rfl
    rw [← e2];exact ho)
 clear hx hi hz hs hb
 go_in
 go_wp2_with (first
  | (go_at_call 236;(with_reducible refine HL.out.mono ?_);rintro e w1 ⟨m,rfl,a1,o1⟩;obtain ⟨g,c,w2,hap,H2⟩:=HAP.out w1 m o1 a1;clear a1 o1)
  | (at_builtin;go_must (refine nw _ rfl _ _ _ _ rfl _ _ rfl rfl (hap _) ?_)))
 go_ret2
 have hlen:(l++bR t).length=l.length+4+t.size:=by rw [List.length_append,bR,List.length_append,fk];rw [show t.data.toList.length=t.size from rfl];omega
 exact ⟨H2.out.1,g,c,by rw [hlen];rfl,by rw [hlen];exact H2.out.2⟩
structure oJ (w:World) (q g:Nat) (l:Bt):Prop where
 ex:∃ off c,ai w q [.slice (some ⟨g,off,none⟩) l.length c]∧az w 1 vt (some ⟨g,off,none⟩) c l∧g≠q∧g < w.heap.size
 len:l.length≤1000000000
theorem yU:∀ (l:Bt) (b:UInt8),mO (l++[b])=mO l+b.toNat*256 ^ l.length
 | [],b=>by simp [mO]
 | c::l,b=>by
  rw [List.cons_append,mO,yU l b,mO,List.length_cons,Nat.pow_succ]
  have e:b.toNat*(256 ^ l.length*256)=256*(b.toNat*256 ^ l.length):=by
   rw [Nat.mul_comm (256 ^ l.length) 256,← Nat.mul_assoc,Nat.mul_comm b.toNat 256,Nat.mul_assoc]
  rw [e];omega
theorem JC (l:Bt) (k:Nat) (hk:k < l.length):mO (l.take (k+1))=mO (l.take k)+l[k].toNat*256 ^ k:=by
 rw [List.take_succ_eq_append_getElem hk,yU,List.length_take,Nat.min_eq_left (by omega)]
theorem wrap_u64 (n:Int):IntKind.u64.wrap n=n % 18446744073709551616:=by simp [IntKind.wrap,IntKind.bits,IntKind.signed]
theorem Mu (m b k:Nat) (hk:k < 8) (hm:m < 256 ^ k) (hb:b < 256):bits .or .u64 (m:Int) (IntKind.u64.wrap (IntKind.u64.wrap (b:Int)*2 ^ (8*k)))=((m+b*256 ^ k:Nat):Int):=by
 have e:(256:Nat) ^ k=2 ^ (8*k):=by rw [Nat.pow_mul]
 have h1:b*256 ^ k < 256 ^ (k+1):=by
  rw [Nat.pow_succ,Nat.mul_comm (256 ^ k)];exact Nat.mul_lt_mul_of_pos_right hb (Nat.pow_pos (by decide))
 have h2:(256:Nat) ^ (k+1)≤256 ^ 8:=Nat.pow_le_pow_right (by decide) (by omega);have h3:(256:Nat) ^ k≤256 ^ (k+1):=Nat.pow_le_pow_right (by decide) (by omega)
 have h4:(256:Nat) ^ 8=18446744073709551616:=by decide
 rw [wrap_u64 (b:Int),Int.emod_eq_of_lt (by omega) (by omega)]
 have e2:(b:Int)*2 ^ (8*k)=((b*256 ^ k:Nat):Int):=by rw [e];push_cast;rfl
 rw [e2,wrap_u64,Int.emod_eq_of_lt (by omega) (by omega),u64_or_nat _ _ (by omega) (by omega),Nat.or_comm,nat_join (8*k) _ _ (by rw [← e];exact Nat.mul_mod_left _ _) (by rw [← e];exact hm),Nat.add_comm]
def tP (w:World) (l:Bt) (n:Nat) (e:Ending) (w':World):Prop:=w=w'∧((n≤l.length∧e=.returned (.tuple #[.int .u64 (mO (l.take n)),.bool true]))∨(l.length < n∧e=.returned (.tuple #[.int .u64 0,.bool false])))
theorem sQ (q g:Nat) (l:Bt) (n:Nat) (hn:n≤8) (w:World) (h:oJ w q g l) :
  Calls Tryz.prog 243 #[.pointer (some ⟨q,0,none⟩),.int .i64 n] w (tP w l n):=by
 obtain ⟨off,c,r,hx,hg,hb⟩:=h.ex;have hl:=h.len;have hz:=hx.len;have y0:=r.cell (j:=0) rfl;have yb:=r.1;have HX:=gH hx;clear r hx h;by_cases hlt:l.length < n
 ·have eH:(l.length:Int) < (n:Int):=by omega
  have HL:=gH hlt
  go_in
  go_wp2
  go_ret2
  exact ⟨rfl,.inr ⟨HL.out,rfl⟩⟩
 ·have eH:¬ (l.length:Int) < (n:Int):=by omega
  have HL:=gH (show n≤l.length by omega)
  go_in
  go_wp2_with fail
  go_loopw [6,16] (fun v i wr=>∃ k m:Nat,k≤n∧i=.int .i64 k∧v=.int .u64 m∧Hid (m=mO (l.take k))∧m < 256 ^ k∧w=wr) (fun _ i _=>n - (intOf i).toNat)
  case atStart=>exact ⟨0,0,Nat.zero_le _,rfl,rfl,gH rfl,by decide,rfl⟩
  case round =>
   obtain ⟨k,m,hk,rfl,rfl,HM,hm,rfl⟩:=hrel;by_cases Lm:k < n
   ·have Zf:(k:Int) < (n:Int):=by omega
    have pY:k < l.length:=by omega
    obtain ⟨g',off',cs,hA,_,_,hR,hc⟩:=HX.out.2.2 k pY
    injection hA with hA
    injection hA with e1 e2 _
    subst e1;subst e2
    have c0:w.cell? ⟨g,off+k,none⟩=some (.int .u8 l[k].toNat):=by
     have:=hc 0 (by omega);rw [hR] at this
     simpa [Ei] using this
    clear hc hR;have HV:=gH (Mu m l[k].toNat k (by omega) hm l[k].toNat_lt);have HT:=gH (JC l k pY);generalize l[k]=x at c0 HV HT;go_wp2_with fail;refine ⟨⟨k+1,m+x.toNat*256 ^ k,by omega,by go_num,by rw [HV.out],gH (by rw [HT.out,HM.out]),?_,trivial⟩,?_⟩
    ·rw [Nat.pow_succ]
     have:=x.toNat_lt;have h1:x.toNat*256 ^ k≤255*256 ^ k:=Nat.mul_le_mul_right _ (by omega);omega
    ·simp [intOf];omega
   ·have Zf:¬ (k:Int) < (n:Int):=by omega
    go_wp2
    go_ret2
    have e:k=n:=by omega
    subst e;have:=HM.out;subst this;exact ⟨rfl,.inl ⟨HL.out,rfl⟩⟩
theorem oJ.read {w:World} {q g:Nat} {l:Bt} (h:oJ w q g l):∃ off c,w.cell? ⟨q,0,none⟩=some (.slice (some ⟨g,off,none⟩) l.length c)∧w.frozen? ⟨q,0,none⟩=false∧q < w.heap.size∧l.length≤c:=by
 obtain ⟨off,c,r,hx,_⟩:=h.ex;exact ⟨off,c,r.cell (j:=0) rfl,r.2.2 0 (by simp),r.1,hx.1⟩
theorem az.drop {α:Type} {w:World} {R:World→List Value→α→Prop} {g off c:Nat} {l:List α} (h:az w 1 R (some ⟨g,off,none⟩) c l) (k:Nat) (hk:k≤l.length):az w 1 R (some ⟨g,off+k,none⟩) (c - k) (l.drop k):=by
 refine ⟨by rw [List.length_drop];have:=h.1;omega,by rw [List.length_drop];have:=h.2.1;unfold Small at *;omega,fun i hi=>?_⟩;rw [List.length_drop] at hi;obtain ⟨b,o,cs,hA,hb,hl,hR,hc⟩:=h.2.2 (k+i) (by omega)
 injection hA with hA
 injection hA with e1 e2 _
 subst e1;subst e2;exact ⟨g,off+k,cs,rfl,hb,hl,by rw [List.getElem_drop];exact hR,fun j hj=>by rw [← hc j hj];congr 2;omega⟩
theorem oJ.cut {w:World} {q g off c:Nat} {l:Bt} (h:oJ w q g l) (hy:w.cell? ⟨q,0,none⟩=some (.slice (some ⟨g,off,none⟩) l.length c)) (k:Nat) (hk:k≤l.length):oJ (w.setCell ⟨q,0,none⟩ (.slice (some ⟨g,off+k,none⟩) (l.length - k) (c - k))) q g (l.drop k):=by
 obtain ⟨off',c',r,hx,hg,hb⟩:=h.ex;have e:=r.cell (j:=0) rfl;rw [hy] at e
 injection e with e
 injection e with e1 _ e3
 injection e1 with e1
 injection e1 with _ e2 _
 subst e2;subst e3;have kb:=Kb.set w q 0 (.slice (some ⟨g,off+k,none⟩) (l.length - k) (c - k));refine ⟨⟨off+k,c - k,?_,?_,hg,Nat.lt_of_lt_of_le hb kb.size⟩,by rw [List.length_drop];have:=h.len;omega⟩
 ·rw [List.length_drop];exact r.set 0 _ (by simp)
 ·have h2:=hx.drop k hk
  refine ⟨h2.1,h2.2.1,fun i hi=>?_⟩;obtain ⟨b,o,cs,hA,hb',hl,hR,hc⟩:=h2.2.2 i hi;refine ⟨b,o,cs,hA,Nat.lt_of_lt_of_le hb' kb.size,hl,hR,fun j hj=>?_⟩
  injection hA with hA
  injection hA with e1 _ _
  rw [← hc j hj];have:=kb.block b hb' (fun e=>hg (by omega));unfold World.cell?;simp only [this]
theorem oJ.Mv {w:World} {q g off c:Nat} {l:Bt} (h:oJ w q g l) (hy:w.cell? ⟨q,0,none⟩=some (.slice (some ⟨g,off,none⟩) l.length c)) (k:Nat) (hk:k≤l.length) (hl:l.length≤k):oJ (w.setCell ⟨q,0,none⟩ (.slice (some ⟨g,off,none⟩) (l.length - k) 0)) q g (l.drop k):=by
 obtain ⟨off',c',r,hx,hg,hb⟩:=h.ex;have e:=r.cell (j:=0) rfl;rw [hy] at e
 injection e with e
 injection e with e1 _ e3
 injection e1 with e1
 injection e1 with e1 e2 _
 clear e1;have kb:=Kb.set w q 0 (.slice (some ⟨g,off,none⟩) (l.length - k) 0);have e0:l.drop k=[]:=List.drop_eq_nil_of_le hl;refine ⟨⟨off,0,?_,?_,hg,Nat.lt_of_lt_of_le hb kb.size⟩,by rw [e0];decide⟩
 ·rw [List.length_drop];exact r.set 0 _ (by simp)
 ·rw [e0];exact ⟨Nat.le_refl _,Nat.zero_le _,fun i h=>absurd h (by simp)⟩
def Ci {α:Type} (w:World) (q g:Nat) (v:α→Value) (z:Value) (o:Option (α × Bt)) (e:Ending) (w':World):Prop:=Kb (fun j=>j=q) w w'∧match o with
 | some (x,r)=>e=.returned (.tuple #[v x,.int .i64 0])∧oJ w' q g r
 | none=>∃ k:Int,k≠0∧e=.returned (.tuple #[z,.int .i64 k])
theorem Mw (q g:Nat) (l:Bt) (w:World) (h:oJ w q g l) :
  Calls Tryz.prog 175 #[.pointer (some ⟨q,0,none⟩)] w (Ci w q g (fun n:Int=>.int .i64 n) (.int .i64 0) (cH l)):=by
 obtain ⟨off,c,y0,y1,yb,hc⟩:=h.read;have hl:=h.len;have HF:=gH (show Calls Tryz.prog 243 #[.pointer (some ⟨q,0,none⟩),.int .i64 4] w (tP w l 4) from sQ q g l 4 (by decide) w h);have HH:=gH h;have HY:=gH y0;clear h;by_cases h4:4≤l.length
 ·obtain ⟨v,hv⟩:∃ v,mO (l.take 4)=v:=⟨_,rfl⟩
  have HF:=gH (HF.out.mono fun e w' (q:tP _ _ _ _ _)=>(show e=.returned (.tuple #[.int .u64 v,.bool true])∧w=w' from by
   rcases q.2 with ⟨_,he⟩ | ⟨h,_⟩
   ·rw [hv] at he;exact ⟨he,q.1⟩
   ·omega))
  have hv2:v < 4294967296:=by
   have:=wD (l.take 4);rw [List.length_take,Nat.min_eq_left h4,hv] at this;exact this
  have JZ:(4:Int)≤(l.length:Int):=by omega
  have HV:=gH hv;clear hv
  go_in
  go_wp2_with (first | (go_at_call 243;(with_reducible refine HF.out.mono ?_);rintro e w1 ⟨rfl,rfl⟩))
  all_goals go_ret2
  all_goals
   by_cases hm:v≤1000000000
   ·rw [show cH l=some ((v:Int),l.drop 4) from by unfold cH;rw [HV.out,if_pos ⟨h4,hm⟩]]
    first
     | exact ⟨Kb.set _ _ _ _,rfl,HH.out.cut HY.out 4 h4⟩
     | exact ⟨Kb.set _ _ _ _,rfl,HH.out.Mv HY.out 4 h4 (by omega)⟩
     | (exfalso;omega)
   ·rw [show cH l=none from by unfold cH;rw [HV.out,if_neg (fun h=>hm h.2)]]
    first
     | exact ⟨Kb.refl _ _,11,by decide,rfl⟩
     | (exfalso;omega)
 ·have HF:=gH (HF.out.mono fun e w' (q:tP _ _ _ _ _)=>(show e=.returned (.tuple #[.int .u64 0,.bool false])∧w=w' from by
   rcases q.2 with ⟨h,_⟩ | ⟨_,he⟩
   ·omega
   ·exact ⟨he,q.1⟩))
  have HD:=gH (show cH l=none from by unfold cH;rw [if_neg (fun h=>h4 h.1)])
  go_in
  go_wp2_with (first | (go_at_call 243;(with_reducible refine HF.out.mono ?_);rintro e w1 ⟨rfl,rfl⟩))
  go_ret2
  rw [HD.out];exact ⟨Kb.refl _ _,10,by decide,rfl⟩
theorem Mx (q g:Nat) (l:Bt) (w:World) (h:oJ w q g l) :
  Calls Tryz.prog 364 #[.pointer (some ⟨q,0,none⟩)] w (Ci w q g (fun n:Int=>.int .i64 n) (.int .i64 0) (nA l)):=by
 obtain ⟨off,c,y0,y1,yb,hc⟩:=h.read;have hl:=h.len;have HF:=gH (show Calls Tryz.prog 243 #[.pointer (some ⟨q,0,none⟩),.int .i64 8] w (tP w l 8) from sQ q g l 8 (by decide) w h);have HH:=gH h;have HY:=gH y0;clear h;by_cases h4:8≤l.length
 ·obtain ⟨v,hv⟩:∃ v,mO (l.take 8)=v:=⟨_,rfl⟩
  have HF:=gH (HF.out.mono fun e w' (q:tP _ _ _ _ _)=>(show e=.returned (.tuple #[.int .u64 v,.bool true])∧w=w' from by
   rcases q.2 with ⟨_,he⟩ | ⟨h,_⟩
   ·rw [hv] at he;exact ⟨he,q.1⟩
   ·omega))
  have hv2:v < 18446744073709551616:=by
   have:=wD (l.take 8);rw [List.length_take,Nat.min_eq_left h4,hv] at this;exact this
  have JZ:(8:Int)≤(l.length:Int):=by omega
  have HV:=gH (show nA l=some (Vg v,l.drop 8) from by unfold nA;rw [hv,if_pos h4])
  have HS:=gH (show wrap64 (v:Int)=Vg v from by
   unfold wrap64 Vg
   split<;>omega)
  clear hv
  go_in
  go_wp2_with (first | (go_at_call 243;(with_reducible refine HF.out.mono ?_);rintro e w1 ⟨rfl,rfl⟩))
  all_goals go_ret2
  all_goals
   rw [HV.out,← HS.out]
   first
    | exact ⟨Kb.set _ _ _ _,rfl,HH.out.cut HY.out 8 h4⟩
    | exact ⟨Kb.set _ _ _ _,rfl,HH.out.Mv HY.out 8 h4 (by omega)⟩
 ·have HF:=gH (HF.out.mono fun e w' (q:tP _ _ _ _ _)=>(show e=.returned (.tuple #[.int .u64 0,.bool false])∧w=w' from by
   rcases q.2 with ⟨h,_⟩ | ⟨_,he⟩
   ·omega
   ·exact ⟨he,q.1⟩))
  have HD:=gH (show nA l=none from by unfold nA;rw [if_neg h4])
  go_in
  go_wp2_with (first | (go_at_call 243;(with_reducible refine HF.out.mono ?_);rintro e w1 ⟨rfl,rfl⟩))
  go_ret2
  rw [HD.out];exact ⟨Kb.refl _ _,10,by decide,rfl⟩
theorem fold_push:∀ (l:Bt) (s:ByteArray),(l.map fun b=>(b.toNat:Int)).foldl (fun r n=>r.push (UInt8.ofNat n.toNat)) s=⟨s.data++l.toArray⟩
 | [],s=>by simp
 | b::l,s=>by
  rw [List.map_cons,List.foldl_cons,fold_push l];simp [ByteArray.push]
theorem yV {w:World} {g off c:Nat} {l:Bt} (hx:az w 1 vt (some ⟨g,off,none⟩) c l) :
  (convert 84 9 (.slice (some ⟨g,off,none⟩) l.length c)).run Tryz.prog w=.ok (.string ⟨l.toArray⟩) w:=by
 rw [run_convert_bytes_string w 84 9 5 _ _ _ Tryz.underlying84 Tryz.underlying5 Tryz.underlying9]
 have h:=run_loadCells_list (P:=Tryz.prog) w ⟨g,off,none⟩ (i7 l) (fun j v hj=>by
  have Pp:j < l.length:=by rw [← fc];exact (List.getElem?_eq_some_iff.1 hj).1
  obtain ⟨b,o,cs,hA,_,_,hR,hc⟩:=hx.2.2 j Pp
  injection hA with hA
  injection hA with e1 e2 _
  subst e1;subst e2;have h0:=hc 0 (by omega);rw [oD,List.getElem?_map,List.getElem?_eq_getElem Pp] at hj
  cases hj
  rw [hR] at h0
  have h0:w.cell? ⟨g,off+j,none⟩=some (.int .u8 l[j].toNat):=by simpa [Ei] using h0
  by_cases Vh:j=0
  ·subst Vh;simpa [Addr.add] using h0
  ·simpa [Addr.add,Vh] using h0)
 rw [fc] at h
 have e:i7 l=(l.map fun b=>(b.toNat:Int)).map (Value.int .u8):=by rw [oD,List.map_map];rfl
 rw [e] at h;rw [run_bytesToString w ⟨g,off,none⟩ l.length c (l.map fun b=>(b.toNat:Int)) (by simpa using h),fold_push];simp
theorem az.upto {α:Type} {w:World} {R:World→List Value→α→Prop} {g off c:Nat} {l:List α} (h:az w 1 R (some ⟨g,off,none⟩) c l) (k c':Nat) (hk:k≤l.length) (hc:k≤c'):az w 1 R (some ⟨g,off,none⟩) c' (l.take k):=by
 refine ⟨by rw [List.length_take];omega,by rw [List.length_take];have:=h.2.1;unfold Small at *;omega,fun i hi=>?_⟩;rw [List.length_take] at hi;obtain ⟨b,o,cs,hA,hb,hl,hR,hcc⟩:=h.2.2 i (by omega);exact ⟨b,o,cs,hA,hb,hl,by rw [List.getElem_take];exact hR,hcc⟩
theorem My (q g:Nat) (l:Bt) (w:World) (h:oJ w q g l) :
  Calls Tryz.prog 241 #[.pointer (some ⟨q,0,none⟩)] w (Ci w q g (fun s:ByteArray=>.string s) (.string ⟨#[]⟩) (dR l)):=by
 obtain ⟨off,c,y0,y1,yb,hc⟩:=h.read;have hl:=h.len;have HF:=gH (show Calls Tryz.prog 243 #[.pointer (some ⟨q,0,none⟩),.int .i64 4] w (tP w l 4) from sQ q g l 4 (by decide) w h);have HH:=gH h;have HY:=gH y0;by_cases h4:4≤l.length
 ·obtain ⟨v,hv⟩:∃ v,mO (l.take 4)=v:=⟨_,rfl⟩
  have HF:=gH (HF.out.mono fun e w' (q:tP _ _ _ _ _)=>(show e=.returned (.tuple #[.int .u64 v,.bool true])∧w=w' from by
   rcases q.2 with ⟨_,he⟩ | ⟨h,_⟩
   ·rw [hv] at he;exact ⟨he,q.1⟩
   ·omega))
  have hv2:v < 4294967296:=by
   have:=wD (l.take 4);rw [List.length_take,Nat.min_eq_left h4,hv] at this;exact this
  have JZ:(4:Int)≤(l.length:Int):=by omega
  have hT:∀ c',v≤l.length - 4→v≤c'→(convert 84 9 (.slice (some ⟨g,off+4,none⟩) v c')).run Tryz.prog w=.ok (.string ⟨((l.drop 4).take v).toArray⟩) w:=fun c' hr hc'=>by
   obtain ⟨off',c0,r,hx,_⟩:=h.ex;have e:=r.cell (j:=0) rfl;rw [y0] at e
   injection e with e
   injection e with e1 _ e3
   injection e1 with e1
   injection e1 with _ e2 _
   subst e2;have hs:=(hx.drop 4 h4).upto v c' (by rw [List.length_drop];omega) hc';have:=yV hs;rw [List.length_take,List.length_drop,Nat.min_eq_left (by omega)] at this;exact this
  by_cases hm:v≤65536
  ·have qj:¬ (65536:Int) < (v:Int):=by omega
   by_cases hr:v≤l.length - 4
   ·have G1:¬ ((l.length:Int) - 4) < (v:Int):=by omega
    have HD:=gH (show dR l=some (⟨((l.drop 4).take v).toArray⟩,l.drop (4+v)) from by unfold dR;rw [hv,if_pos ⟨h4,hm,hr⟩]);by_cases hc4:c=4
    ·subst hc4
     obtain rfl:v=0:=by omega
     have ht:(convert 84 9 (.slice (some ⟨g,off,none⟩) 0 0)).run Tryz.prog w=.ok (.string ⟨#[]⟩) w:=yV (l:=[]) ⟨Nat.le_refl _,Nat.zero_le _,fun i h=>absurd h (by simp)⟩
     have hl4:l.length=4:=by omega
     have HL:=gH hl4;clear hv h hT hl4
     go_in
     go_wp2_with (first | (go_at_call 243;(with_reducible refine HF.out.mono ?_);rintro e w1 ⟨rfl,rfl⟩))
     all_goals go_ret2
     all_goals
      rw [HD.out];have h:=HH.out.Mv HY.out 4 h4 (by rw [HL.out];exact Nat.le_refl _);rw [show l.length - 4=0 from by rw [HL.out]] at h;exact ⟨Kb.set _ _ _ _,rfl,h⟩
    ·have ht:=hT (c - 4) hr (by omega)
     have hc5:¬ (c - 4=0):=by omega
     clear hv h hT
     go_in
     go_wp2_with (first | (go_at_call 243;(with_reducible refine HF.out.mono ?_);rintro e w1 ⟨rfl,rfl⟩))
     all_goals go_ret2
     all_goals
      rw [HD.out]
      first
       | exact ⟨Kb.set _ _ _ _,rfl,HH.out.cut HY.out (4+v) (by omega)⟩
       | exact ⟨Kb.set _ _ _ _,rfl,HH.out.Mv HY.out (4+v) (by omega) (by omega)⟩
   ·have G1:((l.length:Int) - 4) < (v:Int):=by omega
    have HD:=gH (show dR l=none from by unfold dR;rw [hv,if_neg (fun h=>hr h.2.2)]);clear hv h hT
    go_in
    go_wp2_with (first | (go_at_call 243;(with_reducible refine HF.out.mono ?_);rintro e w1 ⟨rfl,rfl⟩))
    all_goals go_ret2
    all_goals
     rw [HD.out];exact ⟨Kb.refl _ _,10,by decide,rfl⟩
  ·have qj:(65536:Int) < (v:Int):=by omega
   have HD:=gH (show dR l=none from by unfold dR;rw [hv,if_neg (fun h=>hm h.2.1)]);clear hv h hT
   go_in
   go_wp2_with (first | (go_at_call 243;(with_reducible refine HF.out.mono ?_);rintro e w1 ⟨rfl,rfl⟩))
   all_goals go_ret2
   all_goals
    rw [HD.out];exact ⟨Kb.refl _ _,11,by decide,rfl⟩
 ·have HF:=gH (HF.out.mono fun e w' (q:tP _ _ _ _ _)=>(show e=.returned (.tuple #[.int .u64 0,.bool false])∧w=w' from by
   rcases q.2 with ⟨h,_⟩ | ⟨_,he⟩
   ·omega
   ·exact ⟨he,q.1⟩))
  have HD:=gH (show dR l=none from by unfold dR;rw [if_neg (fun h=>h4 h.1)]);clear h
  go_in
  go_wp2_with (first | (go_at_call 243;(with_reducible refine HF.out.mono ?_);rintro e w1 ⟨rfl,rfl⟩))
  go_ret2
  rw [HD.out];exact ⟨Kb.refl _ _,10,by decide,rfl⟩
theorem xa (q g:Nat) (l:Bt) (w:World) (h:oJ w q g l) :
  Calls Tryz.prog 99 #[.pointer (some ⟨q,0,none⟩)] w fun e w'=>e=.returned (.int .i64 l.length)∧w=w':=by
 obtain ⟨off,c,y0,y1,yb,hc⟩:=h.read;clear h
 go_in
 go_wp2;go_ret;exact ⟨rfl,rfl⟩
theorem vu (l:Bt) (A:Option Addr) (cap:Nat) (hl:l.length≤1000000000) (w:World) (hx:az w 1 vt A cap l) :
  Calls Tryz.prog 97 #[.slice A l.length cap] w fun e w'=>∃ q g,e=.returned (.pointer (some ⟨q,0,none⟩))∧ag w w'∧w.heap.size≤q∧w.heap.size≤g∧oJ w' q g l:=by
 obtain ⟨i,hi,hz,hs,hb⟩:=lT;obtain ⟨m,hm⟩:∃ m,l.length=m:=⟨_,rfl⟩;obtain ⟨w1,hr1,mm,hg1⟩:=run_make_full w w.heap.size 84 5 i (.int .u8 0) 1 Tryz.underlying84 hi hz hs .i64 .i64 m (by rw [hb];omega) (by unfold maxLen;omega) (Nat.le_refl _);rw [DC] at mm;obtain ⟨g,hg⟩:∃ g,g=w.heap.size:=⟨_,rfl⟩;rw [← hg] at hr1 mm;have a1:ag w w1:=⟨hg1.os,hg1.tape,hg1.output,hg1.size,fun k hk=>hg1.block k hk (fun e=>by cases e)⟩
 have hx1:=hx.aA a1 fun _ _ h=>h
 have rr:ai w1 g (List.replicate m (.int .u8 0)):=by
  by_cases h0:0 < m
  ·obtain ⟨g',cap',hv',_,_,G1⟩:=bU mm h0
   injection hv' with hv' _ _
   injection hv' with hv'
   injection hv' with hv' _ _
   subst hv';exact G1
  ·have:m=0:=by omega
   subst this;refine ⟨?_,fun j hj=>(by simp at hj),fun j hj=>(by simp at hj)⟩;have:=mm.2
   rcases this with h | ⟨g',cap',cur,hv',_,qL,_⟩
   ·exact absurd h.1 (by simp)
   ·injection hv' with hv' _ _
    injection hv' with hv'
    injection hv' with hv' _ _
    subst hv';exact lt_of_block qL
 have Wo:=fun ty=>pQ w1 ty g m cap A l hx1 (by omega) _ rr (by simp;omega)
 obtain ⟨w2,hw2⟩:∃ w2,w1.setCells g 0 (i7 l)=w2:=⟨_,rfl⟩
 have o2:w2.ownsRow w.heap.size 5 1 (.slice (some ⟨g,0,none⟩) m m) m (i7 l):=by
  have h:=dl (g:=g) rfl (i7 l) 0 mm;rw [hw2,iX _ _ _ (by rw [fc];simp;omega),fc] at h;rw [hg];rw [hg] at h
  have e:i7 l=List.take 0 (List.replicate m (Value.int .u8 0))++i7 l++List.drop (0+l.length) (List.replicate m (Value.int .u8 0)):=by
   rw [List.take_zero,List.nil_append,Nat.zero_add,List.drop_replicate,← hm];simp
  rw [e];exact h
 have a2:ag w w2:=by
  rw [← hw2];exact (dL g (i7 l) w1 0).aJ a1 (fun k hk e=>by omega)
 have hg2:g < w2.heap.size:=by
  rw [← hw2];exact Nat.lt_of_lt_of_le rr.1 (dL g (i7 l) w1 0).size
 rw [hw2] at Wo;rw [hm] at Wo;have HS:=gH (show az w2 1 vt (some ⟨g,0,none⟩) m l from by subst hm;exact NY (h:=⟨_,_,_⟩) o2 hl);have HA:=gH a2;have HG:=gH (And.intro hg hg2);have HM:=gH hm;rw [hm];clear hi hz hs hb mm hg1 a1 hx1 rr hw2 hg o2 a2 hx hg2
 go_in
 go_wp2;go_ret;have hm:=HM.out;subst hm;obtain ⟨rfl,hg⟩:=HG.out;exact ⟨_,_,rfl,HA.out.alloc _,HA.out.size,Nat.le_refl _,⟨⟨0,l.length,aN (ag.refl _),HS.out.aA ((ag.refl _).alloc _) (fun _ _ h=>h),by omega,by simp;omega⟩,hl⟩⟩
def dM:Ending:=.panicked [{ v:=.iface 209 (.agg #[.int .i64 11]),recovered:=false }]
theorem fX (w:World):Calls Tryz.prog 98 #[.bool true] w fun e w'=>e=.returned (.tuple #[])∧w=w':=by
 go_in
 go_wp2
 go_end0
 exact ⟨rfl,rfl⟩
theorem fW (w:World):Calls Tryz.prog 98 #[.bool false] w fun e w'=>e=dM∧w=w':=by
 go_in
 go_wp2_with fail;exact ⟨rfl,rfl,rfl⟩
theorem az.kbW {P:Nat→Prop} {w w':World} {g off c:Nat} {l:Bt} (h:az w 1 vt (some ⟨g,off,none⟩) c l) (k:Kb P w w') (hg:¬ P g):az w' 1 vt (some ⟨g,off,none⟩) c l:=by
 refine ⟨h.1,h.2.1,fun i hi=>?_⟩;obtain ⟨b,o,cs,hA,hb,hl,hR,hc⟩:=h.2.2 i hi
 injection hA with hA
 injection hA with e1 e2 _
 subst e1;subst e2;refine ⟨g,off,cs,rfl,Nat.lt_of_lt_of_le hb k.size,hl,hR,fun j hj=>?_⟩;rw [← hc j hj];have:=k.block g hb hg;unfold World.cell?;simp only [this]
theorem oJ.kb {P:Nat→Prop} {w w':World} {q g:Nat} {l:Bt} (h:oJ w q g l) (k:Kb P w w') (hq:¬ P q) (hg:¬ P g):oJ w' q g l:=by
 obtain ⟨off,c,r,hx,hn,hb⟩:=h.ex;exact ⟨⟨off,c,k.row r hq,hx.kbW k hg,hn,Nat.lt_of_lt_of_le hb k.size⟩,h.len⟩
structure gj (w0:World) (Q:Nat→Prop) (b:Nat) (l:Bt) (w:World):Prop where
 ex:∃ q g A c all,ai w b [.pointer (some ⟨q,0,none⟩),.slice A all.length c]∧az w0 1 vt A c all∧oJ w q g l∧(∃ pre,all=pre++l)∧q≠b∧g≠b∧¬ Q q∧¬ Q g∧w0.heap.size≤q∧w0.heap.size≤g∧all.length≤1000000000
 qb:¬ Q b
 aA:ag w0 w
 lb:w0.heap.size≤b
 qz:∀ j,Q j→j < w.heap.size
theorem gj.step {w0 w w':World} {Q Q':Nat→Prop} {b:Nat} {l:Bt} (h:gj w0 Q b l w) (k:Kb (fun j=>Q j∧w0.heap.size≤j) w w') (hq:∀ j,Q' j→Q j∨w.heap.size≤j∧j < w'.heap.size):gj w0 Q' b l w':=by
 obtain ⟨q,g,A,c,all,r,ha,hc,hp,n1,n2,n3,n4,l1,l2,hl⟩:=h.ex;have hb:=r.1;obtain ⟨_,_,rq,_,_,hg⟩:=hc.ex;have hqz:=rq.1
 exact ⟨⟨q,g,A,c,all,k.row r (fun e=>h.qb e.1),ha,hc.kb k (fun e=>n3 e.1) (fun e=>n4 e.1),hp,n1,n2,fun e=>(hq q e).elim n3 fun e=>by omega,fun e=>(hq g e).elim n4 fun e=>by omega,l1,l2,hl⟩,
  fun e=>(hq b e).elim h.qb fun e=>by omega,k.aJ h.aA fun j hj e=>by have:=e.2;omega,h.lb,fun j e=>(hq j e).elim (fun e=>Nat.lt_of_lt_of_le (h.qz j e) k.size) fun e=>e.2⟩
theorem gj.opn {w0 w:World} {Q:Nat→Prop} {b:Nat} {l:Bt} (h:gj w0 Q b l w):∃ q g,w.cell? ⟨b,0,none⟩=some (.pointer (some ⟨q,0,none⟩))∧b < w.heap.size∧oJ w q g l ∧
  ∀ (w':World),Kb (fun j=>j=q) w w'→Kb (fun j=>¬ Q j) w w'∧∀ r:Bt,oJ w' q g r→(∃ pre,l=pre++r)→gj w0 Q b r w':=by
 obtain ⟨q,g,A,c,all,r,ha,hc,⟨pre,hp⟩,n1,n2,n3,n4,l1,l2,hl⟩:=h.ex;refine ⟨q,g,r.cell (j:=0) rfl,r.1,hc,fun w' k=>⟨k.mono fun j _ e=>by rw [e];exact n3,fun l' hc' ⟨p',hp'⟩=>?_⟩⟩;exact ⟨⟨q,g,A,c,all,k.row r (fun e=>n1 e.symm),ha,hc',⟨pre++p',by rw [hp,hp',List.append_assoc]⟩,n1,n2,n3,n4,l1,l2,hl⟩,h.qb,k.aJ h.aA fun j hj e=>by omega,h.lb,fun j e=>Nat.lt_of_lt_of_le (h.qz j e) k.size⟩
theorem Mz {l r:Bt} {n:Int} (h:cH l=some (n,r)):∃ pre,l=pre++r:=by
 unfold cH at h
 split at h
 ·cases h;exact ⟨l.take 4,(List.take_append_drop 4 l).symm⟩
 ·cases h
theorem MA {l r:Bt} {n:Int} (h:nA l=some (n,r)):∃ pre,l=pre++r:=by
 unfold nA at h
 split at h
 ·cases h;exact ⟨l.take 8,(List.take_append_drop 8 l).symm⟩
 ·cases h
theorem MB {l r:Bt} {n:ByteArray} (h:dR l=some (n,r)):∃ pre,l=pre++r:=by
 unfold dR at h
 split at h
 ·cases h;exact ⟨l.take (4+mO (l.take 4)),(List.take_append_drop _ l).symm⟩
 ·cases h
def jn {α:Type} (w0:World) (Q:Nat→Prop) (b:Nat) (w:World) (v:α→Value) (d:Option (α × Bt)) (e:Ending) (w':World):Prop:=Kb (fun j=>¬ Q j) w w'∧match d with
 | some (x,r)=>e=.returned (v x)∧gj w0 Q b r w'
 | none=>e=dM
theorem fd (w0:World) (Q:Nat→Prop) (b:Nat) (l:Bt) (w:World) (h:gj w0 Q b l w) :
  Calls Tryz.prog 105 #[.pointer (some ⟨b,0,none⟩)] w (jn w0 Q b w (fun n:Int=>.int .i64 n) (cH l)):=by
 obtain ⟨q,g,y0,yb,hc,hk⟩:=h.opn;have HK:=gH hk;have HC:=gH (Mw q g l w hc);clear h hk hc
 cases hd:cH l with
 | none =>
  have HC:=gH (HC.out.mono fun e w' (h:Ci w q g (fun n:Int=>.int .i64 n) (.int .i64 0) (cH l) e w')=>(show Kb (fun j=>j=q) w w'∧∃ k:Int,(k==0)=false∧e=.returned (.tuple #[.int .i64 0,.int .i64 k]) from by
   unfold Ci at h;rw [hd] at h;obtain ⟨h1,k,hk,he⟩:=h
   exact ⟨h1,k,by simpa using hk,he⟩))
  clear hd
  go_in
  go_wp2_with (first
   | (go_at_call 175;(with_reducible refine HC.out.mono ?_);rintro e w1 ⟨k1,k,hk,rfl⟩;have K1:=gH k1;clear k1)
   | (go_at_call 98;(with_reducible refine (fW _).mono ?_);rintro e w2 ⟨he,rfl⟩;unfold dM at he;subst he))
  exact ⟨rfl,(HK.out _ K1.out).1,rfl⟩
 | some p =>
  obtain ⟨n,r⟩:=p;have HS:=gH (Mz hd)
  have HC:=gH (HC.out.mono fun e w' (h:Ci w q g (fun n:Int=>.int .i64 n) (.int .i64 0) (cH l) e w')=>(show Kb (fun j=>j=q) w w'∧e=.returned (.tuple #[.int .i64 n,.int .i64 0])∧oJ w' q g r from by
   unfold Ci at h;rw [hd] at h
   exact h))
  clear hd
  go_in
  go_wp2_with (first
   | (go_at_call 175;(with_reducible refine HC.out.mono ?_);rintro e w1 ⟨k1,rfl,c1⟩;have K1:=gH k1;have C1:=gH c1;clear k1 c1)
   | (go_at_call 98;(with_reducible refine (fX _).mono ?_);rintro e w2 ⟨rfl,rfl⟩))
  go_ret;exact ⟨(HK.out _ K1.out).1,rfl,(HK.out _ K1.out).2 r C1.out HS.out⟩
theorem NZ (w0:World) (Q:Nat→Prop) (b:Nat) (l:Bt) (w:World) (h:gj w0 Q b l w) :
  Calls Tryz.prog 323 #[.pointer (some ⟨b,0,none⟩)] w (jn w0 Q b w (fun n:Int=>.int .i64 n) (nA l)):=by
 obtain ⟨q,g,y0,yb,hc,hk⟩:=h.opn;have HK:=gH hk;have HC:=gH (Mx q g l w hc);clear h hk hc
 cases hd:nA l with
 | none =>
  have HC:=gH (HC.out.mono fun e w' (h:Ci w q g (fun n:Int=>.int .i64 n) (.int .i64 0) (nA l) e w')=>(show Kb (fun j=>j=q) w w'∧∃ k:Int,(k==0)=false∧e=.returned (.tuple #[.int .i64 0,.int .i64 k]) from by
   unfold Ci at h;rw [hd] at h;obtain ⟨h1,k,hk,he⟩:=h
   exact ⟨h1,k,by simpa using hk,he⟩))
  clear hd
  go_in
  go_wp2_with (first
   | (go_at_call 364;(with_reducible refine HC.out.mono ?_);rintro e w1 ⟨k1,k,hk,rfl⟩;have K1:=gH k1;clear k1)
   | (go_at_call 98;(with_reducible refine (fW _).mono ?_);rintro e w2 ⟨he,rfl⟩;unfold dM at he;subst he))
  exact ⟨rfl,(HK.out _ K1.out).1,rfl⟩
 | some p =>
  obtain ⟨n,r⟩:=p;have HS:=gH (MA hd)
  have HC:=gH (HC.out.mono fun e w' (h:Ci w q g (fun n:Int=>.int .i64 n) (.int .i64 0) (nA l) e w')=>(show Kb (fun j=>j=q) w w'∧e=.returned (.tuple #[.int .i64 n,.int .i64 0])∧oJ w' q g r from by
   unfold Ci at h;rw [hd] at h
   exact h))
  clear hd
  go_in
  go_wp2_with (first
   | (go_at_call 364;(with_reducible refine HC.out.mono ?_);rintro e w1 ⟨k1,rfl,c1⟩;have K1:=gH k1;have C1:=gH c1;clear k1 c1)
   | (go_at_call 98;(with_reducible refine (fX _).mono ?_);rintro e w2 ⟨rfl,rfl⟩))
  go_ret;exact ⟨(HK.out _ K1.out).1,rfl,(HK.out _ K1.out).2 r C1.out HS.out⟩
theorem iA (w0:World) (Q:Nat→Prop) (b:Nat) (l:Bt) (w:World) (h:gj w0 Q b l w) :
  Calls Tryz.prog 170 #[.pointer (some ⟨b,0,none⟩)] w (jn w0 Q b w (fun n:ByteArray=>.string n) (dR l)):=by
 obtain ⟨q,g,y0,yb,hc,hk⟩:=h.opn;have HK:=gH hk;have HC:=gH (My q g l w hc);clear h hk hc
 cases hd:dR l with
 | none =>
  have HC:=gH (HC.out.mono fun e w' (h:Ci w q g (fun n:ByteArray=>.string n) (.string ⟨#[]⟩) (dR l) e w')=>(show Kb (fun j=>j=q) w w'∧∃ k:Int,(k==0)=false∧e=.returned (.tuple #[.string ⟨#[]⟩,.int .i64 k]) from by
   unfold Ci at h;rw [hd] at h;obtain ⟨h1,k,hk,he⟩:=h
   exact ⟨h1,k,by simpa using hk,he⟩))
  clear hd
  go_in
  go_wp2_with (first
   | (go_at_call 241;(with_reducible refine HC.out.mono ?_);rintro e w1 ⟨k1,k,hk,rfl⟩;have K1:=gH k1;clear k1)
   | (go_at_call 98;(with_reducible refine (fW _).mono ?_);rintro e w2 ⟨he,rfl⟩;unfold dM at he;subst he))
  exact ⟨rfl,(HK.out _ K1.out).1,rfl⟩
 | some p =>
  obtain ⟨n,r⟩:=p;have HS:=gH (MB hd)
  have HC:=gH (HC.out.mono fun e w' (h:Ci w q g (fun n:ByteArray=>.string n) (.string ⟨#[]⟩) (dR l) e w')=>(show Kb (fun j=>j=q) w w'∧e=.returned (.tuple #[.string n,.int .i64 0])∧oJ w' q g r from by
   unfold Ci at h;rw [hd] at h
   exact h))
  clear hd
  go_in
  go_wp2_with (first
   | (go_at_call 241;(with_reducible refine HC.out.mono ?_);rintro e w1 ⟨k1,rfl,c1⟩;have K1:=gH k1;have C1:=gH c1;clear k1 c1)
   | (go_at_call 98;(with_reducible refine (fX _).mono ?_);rintro e w2 ⟨rfl,rfl⟩))
  go_ret;exact ⟨(HK.out _ K1.out).1,rfl,(HK.out _ K1.out).2 r C1.out HS.out⟩
end Go.Proofs.YtakddkhipelmjaaGreat
