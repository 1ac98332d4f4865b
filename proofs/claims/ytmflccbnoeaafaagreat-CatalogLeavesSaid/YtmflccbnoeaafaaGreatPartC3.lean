import Derived.OrdersHeld
import Derived.Deep.RegionHeld3
import Derived.Laws.EntriesVeiled
import Derived.Lib.Bytealg
import Derived.Test.YtmflccbnoeaafaaGreatPartC2
namespace Go.Proofs.YtmflccbnoeaafaaGreat
open Go.RowKit
set_option maxRecDepth 100000
set_option linter.unusedVariables false
set_option maxHeartbeats 64000000
section
variable {P : Program} {ops : Array Oper} {Q : Exit → Act → World → Prop} {md : Region.Mode} {T : World → Prop} {m : Nat}
def wpAnyS (P:Program) (md:Region.Mode) (ops:Array Oper) (Q:Exit→Act→World→Prop) (T:World→Prop) (m:Nat):Nat→Array Bool→Act→World→Prop
 | 0,listed,a,w=>Region.ready md ops listed=[]∧Q .normal a w
 | fuel+1,listed,a,w =>
  (Region.ready md ops listed=[]→Q .normal a w) ∧
  ∀ i∈Region.ready md ops listed,wpOp P ops Q i (fun a' w'=>((listed.setIfInBounds i true).getD m false=false→T w')∧wpAnyS P md ops Q T m fuel (listed.setIfInBounds i true) a' w') a w
theorem tX:∀ (fuel:Nat) (listed:Array Bool) (a:Act) (w:World),wpAnyS P md ops Q T m fuel listed a w→wpAny P md ops Q fuel listed a w
 | 0,_,_,_,h=>h
 | fuel+1,_,_,_,h=>⟨h.1,fun i hi=>wpOp_mono (fun a' w' h'=>tX fuel _ a' w' h'.2) (h.2 i hi)⟩
theorem kt {listed:Array Bool} {i j:Nat} (d:Bool) (h:i≠j):(listed.setIfInBounds i true).getD j d=listed.getD j d:=by
 simp [Array.getElem?_setIfInBounds_ne h]
theorem wpAnyS_first {i:Nat} {oi:Oper} {v:Value} (hi:ops[i]? = some oi) (CJ:∀ (j:Nat) (o:Oper) cs b,ops[j]? = some o→o.op≠.select cs b)
  (hQ:∀ c a w,Q (.panic c) (a.put oi.dst v) w→Q (.panic c) a w) (hne:i≠m) (hm:∀ om,ops[m]? = some om→∃ e∈om.after,Region.binds md e=true∧e.on=i) :
  ∀ (fuel:Nat) (listed:Array Bool) (a:Act) (w:World),
   (∀ j oj,ops[j]? = some oj→j≠i→listed.getD j true=false→(∀ e∈oj.after,Region.binds md e=true→e.on≠i)→oi.apart ops oj=true) →
   i∈Region.ready md ops listed→YieldsIf P ops T oi v a→T w→listed.getD m false=false →
   wpAnyS P md ops Q T m fuel (listed.setIfInBounds i true) (a.put oi.dst v) w→wpAnyS P md ops Q T m (fuel+1) listed a w:=by
 intro fuel
 induction fuel with
 | zero =>
  intro listed a w _ hr hy hS O2 H;refine ⟨fun h=>(by rw [h] at hr;cases hr),fun j hj=>?_⟩;by_cases Gw:j=i
  ·subst Gw;exact hy.wpOp hi hS ⟨fun _=>hS,H⟩
  ·have:=ready_mono hj Gw
   rw [H.1] at this
   cases this
 | succ fuel ih =>
  intro listed a w NT hr hy hS O2 H;refine ⟨fun h=>(by rw [h] at hr;cases hr),fun j hj=>?_⟩;by_cases Gw:j=i
  ·subst Gw;exact hy.wpOp hi hS ⟨fun _=>hS,H⟩
  ·have h1:=H.2 j (ready_mono hj Gw)
   obtain ⟨Uq,oj,VL,hall⟩:=mem_ready.1 hj
   have Ur:∀ e∈oj.after,Region.binds md e=true→e.on≠i:=fun e he hb heq=>by
    have h1:=hall e he hb;have h0:=(mem_ready.1 hr).1;rw [heq] at h1
    rcases Nat.lt_or_ge i listed.size with h' | h'
    ·simp [h'] at h0 h1;rw [h0] at h1;cases h1
    ·simp [Array.getElem?_eq_none h'] at h1
   have ZR:j≠m:=fun e=>by
    subst e;obtain ⟨e,he,hb,hei⟩:=hm oj VL;exact Ur e he hb hei
   have h2:=wpOp_putIf VL (NT j oj VL Gw Uq Ur) (fun cs b=>CJ i oi cs b hi) (fun cs b=>CJ j oj cs b VL) hQ hy h1
   have Qi:∀ k ok,ops[k]? = some ok→k≠i→(listed.setIfInBounds j true).getD k true=false →
     (∀ e∈ok.after,Region.binds md e=true→e.on≠i)→oi.apart ops ok=true:=fun k ok hk W9 ZT hno=>by
    refine NT k ok hk W9 ?_ hno;by_cases hjk:j=k
    ·subst hjk;exact Uq
    ·rw [getD_set_ne true hjk] at ZT;exact ZT
   have X7:(listed.setIfInBounds j true).getD m false=false:=by rw [kt false ZR];exact O2
   have Jw:((listed.setIfInBounds i true).setIfInBounds j true).getD m false=false:=by rw [kt false ZR,kt false hne];exact O2
   refine wpOp_mono (fun a' w' h3=>⟨fun _=>h3.2.1 Jw,ih (listed.setIfInBounds j true) a' w' Qi (ready_mono hr (Ne.symm Gw)) h3.1 (h3.2.1 Jw) X7 ?_⟩) h2;rw [Array.setIfInBounds_comm _ _ Gw];exact h3.2.2
theorem nj {α β:Type} {r:Result α} {f:α→World→Result β} {n:β} {w':World} (h:r.andThen f=.ok n w'):∃ a w1,r=.ok a w1∧f a w1=.ok n w':=by
 cases r with
 | ok a w1=>exact ⟨a,w1,rfl,h⟩
 | halt x w1=>simp [Result.andThen] at h
def tY (o:Oper):Bool:=o.guard.isNone&&match o.op with | .load .. | .fieldAddr .. | .indexAddr .. | .move .. | .nilCheck .. | .assign .. | .lookup ..=>true | _=>false
theorem CL {o:Oper} {ev:Operand→Value} {w w':World} {n:Next} (h:tY o=true) (hr:(execOp ev o).run P w=.ok n w'):∃ v,n=.value v:=by
 unfold tY at h;simp only [Bool.and_eq_true] at h;obtain ⟨_,h⟩:=h;unfold execOp at hr
 cases ho:o.op<;>rw [ho] at h hr<;>simp only [Bool.false_eq_true] at h
 case nilCheck x =>
  simp only at hr
  split at hr
  ·simp [runtimePanic] at hr
  ·simp [runtimePanic] at hr
  ·simp [runtimePanic] at hr
  ·split at hr
   ·simp [runtimePanic] at hr
   ·simp only [Sem.run_bind] at hr
    obtain ⟨p,w1,_,h1⟩:=nj hr;obtain ⟨q,w2,_,h2⟩:=nj h1
    split at h2
    ·rw [Sem.run_bind] at h2
     obtain ⟨r,w3,h3,_⟩:=nj h2;simp [unsupported] at h3
    ·simp only [Sem.run_pure,Result.ok.injEq] at h2;exact ⟨_,h2.1.symm⟩
   ·simp only [Sem.run_pure,Result.ok.injEq] at hr;exact ⟨_,hr.1.symm⟩
  ·simp only [Sem.run_pure,Result.ok.injEq] at hr;exact ⟨_,hr.1.symm⟩
 all_goals
  simp only [Sem.run_bind,Sem.run_pure] at hr
  first
   | (simp only [Result.ok.injEq] at hr;exact ⟨_,hr.1.symm⟩)
   | (generalize Sem.run P _ w=r at hr;cases r<;>simp [Result.andThen] at hr;exact ⟨_,hr.1.symm⟩)
theorem zT {o:Oper} {v:Value} {a:Act} (hb:tY o=true) (h:∀ w,T w→o.quietAt P a T w v):YieldsIf P ops T o v a:=by
 have hg:o.guard=none:=by unfold tY at hb;simp only [Bool.and_eq_true,Option.isNone_iff_eq_none] at hb;exact hb.1
 refine .inl ⟨by simp [Region.wanted,hg],fun w hw=>?_⟩;have h1:=h w hw;unfold Oper.quietAt at h1
 cases hr:(execOp a.eval o).run P w with
 | ok n w' =>
  obtain ⟨u,rfl⟩:=CL hb hr;rw [hr] at h1;simp only [Oper.quietUpon] at h1;rw [h1.1,h1.2]
 | halt x w' =>
  rw [hr] at h1;simp only [Oper.quietUpon] at h1
def lk (n k:Nat):Array Bool:=(Array.range n).map fun j=>decide (j < k)
theorem xC {n k j:Nat} (hj:j < n) (d:Bool):(lk n k).getD j d=decide (j < k):=by
 simp [lk,hj]
theorem Mn (n:Nat):lk n 0=Array.replicate n false:=by
 apply Array.ext
 ·simp [lk]
 ·intro i h1 h2;simp [lk]
theorem CQ {n k:Nat} (hk:k < n):(lk n k).setIfInBounds k true=lk n (k+1):=by
 apply Array.ext
 ·simp [lk]
 ·intro i h1 h2
  by_cases e:k=i
  ·subst e;simp [lk]
  ·rw [Array.getElem_setIfInBounds_ne (by simpa using h1) e]
   simp only [lk,Array.getElem_map,Array.getElem_range]
   have:(i < k)=(i < k+1):=by
    apply propext;omega
   simp [this]
def kN (P:Program) (ops:Array Oper) (Q:Exit→Act→World→Prop) (T:World→Prop) (m:Nat):Nat→List Oper→Act→World→Prop
 | _,[],a,w=>Q .normal a w
 | k,o::r,a,w=>o.wp P a w (fun a' w'=>(k < m→T w')∧kN P ops Q T m (k+1) r a' w') Q∨(o.asks P a w∧LetsOut Q)
theorem bX {k:Nat} {o:Oper} {r:List Oper} {a:Act} {w:World} (h:∀ K:Act→World→Prop,(∀ a' w',(k < m→T w')→kN P ops Q T m (k+1) r a' w'→K a' w')→o.wp P a w K Q):kN P ops Q T m k (o::r) a w :=
 .inl (h _ fun _ _ h1 h2=>⟨h1,h2⟩)
theorem d9:∀ (l:List Oper) {k:Nat} {a:Act} {w:World},(∀ o∈l,o.guard=none)→m≤k→wpList P ops Q l a w→kN P ops Q T m k l a w
 | [],k,a,w,_,_,h=>h
 | o::r,k,a,w,hg,hk,h=>by
  unfold wpList at h;rw [if_pos (by simp [Region.wanted,hg o (by simp)])] at h
  rcases h with h | h
  ·exact .inl (Oper.wp_mono (fun a' w' h'=>⟨fun hlt=>absurd hlt (by omega),d9 r (fun o ho=>hg o (by simp [ho])) (by omega) h'⟩) h)
  ·exact .inr h
def CU (ops:Array Oper) (n m:Nat):Bool :=
 Region.noSelect ops&&decide (n≤m)&&decide (m < ops.size) &&
 (List.range ops.size).all (fun k=>match ops[k]? with
  | none=>false
  | some o=>if k < n then tY o&&o.after.all (fun e=>!Region.binds .any e || decide (e.on < k))&&Region.free .any ops (lk ops.size k) k&&(match ops[m]? with | some om=>om.after.any (fun e=>Region.binds .any e&&e.on==k) | none=>false)
   else o.guard.isNone&&(Region.ready .any ops (lk ops.size k)==[k]))&&(Region.ready .any ops (lk ops.size ops.size)==[])
theorem vW {n:Nat} (Rp:n≤m) (Mo:m < ops.size) (hc:∀ k,n≤k→k < ops.size→∃ o,ops[k]? = some o∧o.guard=none∧Region.ready .any ops (lk ops.size k)=[k]) (hz:Region.ready .any ops (lk ops.size ops.size)=[]) :
  ∀ (l:List Oper) (k:Nat) (a:Act) (w:World),n≤k→k+l.length=ops.size→(∀ j (hj:j < l.length),ops[k+j]? = some l[j])→kN P ops Q T m k l a w→wpAnyS P .any ops Q T m l.length (lk ops.size k) a w
 | [],k,a,w,_,hl,_,h=>by
  have e:k=ops.size:=by simpa using hl
  subst e;exact ⟨hz,h⟩
 | o::r,k,a,w,hk,hl,ho,h=>by
  simp only [List.length_cons] at hl
  have B9:k < ops.size:=by omega
  obtain ⟨o',Qj,hg,hr⟩:=hc k hk B9;have h0:=ho 0 (by simp);simp only [Nat.add_zero,List.getElem_cons_zero] at h0;rw [h0] at Qj;simp only [Option.some.injEq] at Qj;subst Qj;refine ⟨fun e=>absurd (hr.symm.trans e) (by simp),fun i hi=>?_⟩;rw [hr,List.mem_singleton] at hi;subst hi;unfold wpOp;simp only [h0];rw [if_pos (by simp [Region.wanted,hg])]
  rcases h with h | h
  case inr=>exact .inr h
  refine .inl (Oper.wp_mono (fun a' w' h'=>?_) h);refine ⟨fun hm=>h'.1 ?_,?_⟩
  ·rw [CQ B9,xC Mo] at hm
   simp at hm;omega
  ·rw [CQ B9]
   exact vW Rp Mo hc hz r (i+1) a' w' (by omega) (by omega) (fun j hj=>by have:=ho (j+1) (by simpa using hj);simpa [Nat.add_assoc,Nat.add_comm 1 j] using this) h'.2
theorem vX {n:Nat} (CJ:Region.noSelect ops=true) (Rp:n≤m) (Mo:m < ops.size) (hQ:∀ c a d v w,Q (.panic c) (Act.put a d v) w→Q (.panic c) a w)
  (hr:∀ k,k < n→∃ o,ops[k]? = some o∧tY o=true∧(∀ e∈o.after,Region.binds .any e=true→e.on < k)∧Region.free .any ops (lk ops.size k) k=true∧∀ om,ops[m]? = some om→∃ e∈om.after,Region.binds .any e=true∧e.on=k)
  (hc:∀ k,n≤k→k < ops.size→∃ o,ops[k]? = some o∧o.guard=none∧Region.ready .any ops (lk ops.size k)=[k]) (hz:Region.ready .any ops (lk ops.size ops.size)=[]) (tl:List Oper) (Ev:n+tl.length=ops.size) (ZU:∀ j (hj:j < tl.length),ops[n+j]? = some tl[j]) (w:World) (hT:T w) :
  ∀ (l:List Oper) (k:Nat) (a:Act),k+l.length=n→(∀ j (hj:j < l.length),ops[k+j]? = some l[j])→wpQuiet P ops T (fun a'=>kN P ops Q T m n tl a' w) l a→wpAnyS P .any ops Q T m (l.length+tl.length) (lk ops.size k) a w
 | [],k,a,hl,_,h=>by
  have e:k=n:=by simpa using hl
  subst e;simp only [List.length_nil,Nat.zero_add];exact vW Rp Mo hc hz tl k a w (Nat.le_refl _) Ev ZU h
 | o::r,k,a,hl,ho,h=>by
  simp only [List.length_cons] at hl
  have Gl:k < n:=by omega
  have B9:k < ops.size:=by omega
  obtain ⟨o',Qj,hb,he,hf,hm⟩:=hr k Gl;have h0:=ho 0 (by simp);simp only [Nat.add_zero,List.getElem_cons_zero] at h0;rw [h0] at Qj;simp only [Option.some.injEq] at Qj;subst Qj
  have hg:o.guard=none:=by unfold tY at hb;simp only [Bool.and_eq_true,Option.isNone_iff_eq_none] at hb;exact hb.1
  unfold wpQuiet at h;rw [if_pos (by simp [Region.wanted,hg])] at h;obtain ⟨v,hv,hn⟩:=h
  have e1:(o::r).length+tl.length=(r.length+tl.length)+1:=by simp;omega
  rw [e1];refine wpAnyS_first h0 (Region.noSelect_spec CJ) (fun c a w h=>hQ c a _ _ w h) (by omega) hm _ _ a w (Region.free_spec h0 hf) ?_ (zT hb hv) hT (by rw [xC Mo];simp;omega) ?_
  ·rw [mem_ready]
   refine ⟨by rw [xC B9];simp,o,h0,fun e hem Fv=>?_⟩;have:=he e hem Fv;rw [xC (by omega)]
   simpa using this
  ·rw [CQ B9]
   exact vX CJ Rp Mo hQ hr hc hz tl Ev ZU w hT r (k+1) _ (by omega) (fun j hj=>by have:=ho (j+1) (by simpa using hj);simpa [Nat.add_assoc,Nat.add_comm 1 j] using this) hn
theorem qV {id:Nat} {a:Act} {w:World} {l:List Oper} (n m:Nat) (T:World→Prop) (hm:P.follows .mixedOrders=true) (hB:CU l.toArray n m=true) (hQ:∀ c a d v w,Q (.panic c) (Act.put a d v) w→Q (.panic c) a w) (hT:T w.drew)
  (h:wpQuiet P l.toArray T (fun a'=>kN P l.toArray Q T m n (l.drop n) a' w.drew) (l.take n) a):(Code.region id l.toArray true).wp P Q a w:=by
 unfold CU at hB;simp only [Bool.and_eq_true,decide_eq_true_eq,List.all_eq_true,List.mem_range,beq_iff_eq] at hB;obtain ⟨⟨⟨⟨CJ,Rp⟩,Mo⟩,hall⟩,hz⟩:=hB
 have Oc:m < l.length:=by simpa using Mo
 have hnl:n≤l.length:=by omega
 refine wp_region_any hm (tX (T:=T) (m:=m) _ _ _ _ ?_);rw [← Mn]
 have Us:(l.take n).length=n:=by rw [List.length_take];omega
 have hsz:l.toArray.size=(l.take n).length+(l.drop n).length:=by simp;omega
 have Mp:∀ k (hk:k < l.length),l.toArray[k]? = some l[k]:=fun k hk=>by simp
 have key:=vX (P:=P) (ops:=l.toArray) (Q:=Q) (T:=T) (m:=m) (n:=n) CJ Rp Mo hQ ?_ ?_ hz (l.drop n) (by simp;omega) (fun j hj=>by simp at hj ⊢) w.drew hT (l.take n) 0 a (by simpa using Us) (fun j hj=>by simp only [List.length_take] at hj;simp) h
 ·have e:(l.take n).length+(l.drop n).length=l.toArray.size:=hsz.symm
  rw [e] at key;exact key
 ·intro k hk
  have uh:k < l.length:=by omega
  have:=hall k (by simpa using uh);rw [Mp k uh] at this;simp only [if_pos hk,Bool.and_eq_true] at this;obtain ⟨⟨⟨h1,h2⟩,h3⟩,h4⟩:=this;refine ⟨l[k],Mp k uh,h1,fun e he hb=>?_,h3,fun om hom=>?_⟩
  ·have:=Array.all_eq_true_iff_forall_mem.1 h2 e he
   simp [hb] at this;exact this
  ·rw [hom] at h4
   simp only at h4;obtain ⟨e,he,hb⟩:=Array.any_eq_true'.1 h4;simp only [Bool.and_eq_true,beq_iff_eq] at hb;exact ⟨e,he,hb.1,hb.2⟩
 ·intro k hk B9
  have uh:k < l.length:=by simpa using B9
  have:=hall k B9;rw [Mp k uh] at this;simp only [if_neg (by omega:¬ k < n),Bool.and_eq_true,Option.isNone_iff_eq_none,beq_iff_eq] at this;exact ⟨l[k],Mp k uh,this.1,this.2⟩
theorem dx {id:Nat} {a:Act} {w:World} {l:List Oper} (n m:Nat) (T:World→Prop) (hm:P.follows .mixedOrders=true) (hB:CU l.toArray n m=true) (hT:T w.drew)
  (h:wpQuiet P l.toArray T (fun a'=>kN P l.toArray (NoPanic Q) T m n (l.drop n) a' w.drew) (l.take n) a):(Code.region id l.toArray true).wp P Q a w :=
 wp_region_noPanic (qV n m T hm hB (fun _ _ _ _ _ h=>h) hT h)
end
def fN (v:Value) (g:Nat):Prop:=v.ownBlock=some g
structure kQ (v:Value) (w:World) where
 to:World
 kb:Kb (fN v) w to
instance (v:Value) (w:World):Nonempty (kQ v w):=⟨⟨w,Kb.refl _ _⟩⟩
def kw (v:Value) (w:World) (x:kQ v w):World:=x.to
@[go_sem] theorem Qk (v:Value) (w:World) (x:kQ v w) (b o:Nat) (h:b < w.heap.size) (hn:¬ fN v b):(kw v w x).cell? ⟨b,o,none⟩=w.cell? ⟨b,o,none⟩:=by
 have:=x.kb.block b h hn;simp [World.cell?,kw,this]
@[go_sem] theorem Mq (v:Value) (w:World) (x:kQ v w) (b o:Nat) (h:b < w.heap.size) (hn:¬ fN v b):(kw v w x).frozen? ⟨b,o,none⟩=w.frozen? ⟨b,o,none⟩:=by
 have:=x.kb.block b h hn;simp [World.frozen?,kw,this]
@[go_sem] theorem VM (v:Value) (w:World) (x:kQ v w) (b:Nat) (h:b < w.heap.size):b < (kw v w x).heap.size:=Nat.lt_of_lt_of_le h x.kb.size
def KL (v:Value) (w w':World):Prop:=∃ x:kQ v w,w'=kw v w x
theorem KL.of {v:Value} {w w':World} (h:Kb (fN v) w w'):∃ x:kQ v w,w'=kw v w x:=⟨⟨w',h⟩,rfl⟩
theorem KL.az {v:Value} {w w':World} (h:ag w w'):∃ x:kQ v w,w'=kw v w x:=KL.of (Kb.aH h)
theorem jD {v:Value} {w w':World} (h:w.grownBy w' v.ownBlock):Kb (fN v) w w':=Kb.ey h
theorem gh {v:Value} {w:World} {B size n:Nat} {e:TypeId} {xs:List Value} (o:w.ownsRow B e size v n xs) {g:Nat} (hg:g < B):¬ fN v g:=fun h=>by have:=(o.lt g h).1;omega
end Go.Proofs.YtmflccbnoeaafaaGreat
namespace Go.Proofs.YtmflccbnoeaafaaGreat
open Go.RowKit Go.Deep
set_option maxRecDepth 100000
set_option linter.unusedVariables false
set_option maxHeartbeats 64000000
theorem ku {w:World} {A:Option Addr} {cap:Nat} {l:List em} (h:aL w 2 ia A cap l) {k:Nat} (hk:k < l.length) :
  ∃ b off,A=some ⟨b,off,none⟩∧b < w.heap.size∧w.cell? ⟨b,off+k*2,none⟩=some (.string l[k].role)∧w.cell? ⟨b,off+k*2+1,none⟩=some (.string l[k].of)∧Small l[k].role.size∧Small l[k].of.size:=by
 obtain ⟨b,off,cs,hA,hb,hl,⟨rfl,hs⟩,hc⟩:=h.2.2 k hk;refine ⟨b,off,hA,hb,?_,?_,hs⟩
 ·simpa using hc 0 (by omega)
 ·simpa [Nat.add_assoc] using hc 1 (by omega)
theorem bJ {w w':World} (a:ag w w') {A:Option Addr} {cap:Nat} {l:List em} (h:aL w 2 ia A cap l):aL w' 2 ia A cap l:=h.az a fun _ _ h=>h
theorem FX (ms:List em) (m:em) (s:dR):succ (ms++[m]) s=succ ms s++if txt m.role=s then [m.of] else []:=by
 unfold succ;rw [List.filter_append,List.map_append]
 congr 1
 by_cases e:txt m.role=s<;>simp [e]
structure qW (w:World) (B bn k:Nat) (ms:List em) (H:dR→Hd):Prop where
 mp:eL Tryz.prog 9 w bn k (.slice none 0 0) (fun s=>(H s).v)
 row:∀ s,w.ownsRow B 9 1 (H s).v (succ ms s).length ((succ ms s).flatMap bY)
 mU:∀ s t g,g∈(H s).blk→g∈(H t).blk→s=t
 lt:bn < B
theorem qW.kb {Q:Nat→Prop} {w w':World} {B bn k:Nat} {ms:List em} {H:dR→Hd} (h:qW w B bn k ms H) (kb:Kb Q w w') (h1:¬ Q bn) (h2:∀ g,B≤g→¬ Q g):qW w' B bn k ms H :=
 ⟨h.mp.kb kb h1,fun s=>aP (h.row s) kb fun g hg=>h2 g ((h.row s).lt g hg).1,h.mU,h.lt⟩
theorem qW.az {w w':World} {B bn k:Nat} {ms:List em} {H:dR→Hd} (h:qW w B bn k ms H) (a:ag w w'):qW w' B bn k ms H:=h.kb (Q:=fun _=>False) (Kb.aH a) (fun h=>h) fun _ _ h=>h
theorem qW.step {w w5:World} {B bn k:Nat} {ms:List em} {H:dR→Hd} (h:qW w B bn k ms H) (tK:B≤w.heap.size) (m:em) (hs:m.role.size≤maxLen) (hk:k < maxLen) {v':Hd} (kb:Kb (fN (H (txt m.role)).v) w w5)
  (ho:w5.ownsRow B 9 1 v'.v ((succ ms (txt m.role)).length+1) ((succ ms (txt m.role)).flatMap bY++[.string m.of])) (hat:∀ g∈v'.blk,g∈(H (txt m.role)).blk∨w.heap.size≤g) :
  ∃ w6,(Instr.mapUpdate 112 (.map (some bn)) (.string m.role) v'.v).run Tryz.prog w5=.ok () w6∧qW w6 B bn (k+1) (ms++[m]) (fun x=>if x=txt m.role then v' else H x)∧Kb (fun g=>g=bn) w5 w6:=by
 have hlt:=h.lt
 have hb:¬ fN (H (txt m.role)).v bn:=fun e=>by have:=((h.row (txt m.role)).lt bn e).1;omega
 obtain ⟨w6,p6,M6,g6⟩:=(h.mp.kb kb hb).put Tryz.underlying9 Tryz.underlying112 hk m.role hs v'.v
 have k6:Kb (fun g=>g=bn) w5 w6:=(Kb.ey g6).mono fun g _ e=>(Option.some.inj e).symm
 refine ⟨w6,p6,⟨?_,?_,?_,hlt⟩,k6⟩
 ·have e:(fun s=>((fun x=>if x=txt m.role then v' else H x) s).v)=fun x=>if x=m.role.data.toList then v'.v else (H x).v:=by
   funext x
   show (if x=m.role.data.toList then v' else H x).v=_
   split<;>rfl
  rw [e];exact M6
 ·intro s
  rw [FX];by_cases e:s=txt m.role
  ·subst e
   rw [if_pos rfl,if_pos rfl,List.length_append,List.flatMap_append]
   exact aP ho k6 fun g hg e=>by have:=(ho.lt g hg).1;omega
  ·have e2:¬ txt m.role=s:=fun h=>e h.symm
   rw [if_neg e,if_neg e2,List.append_nil]
   refine aP (aP (h.row s) kb fun g hg h2=>e (h.mU s (txt m.role) g (Hd.au.2 hg) (Hd.au.2 h2))) k6 fun g hg e=>?_
   have:=((h.row s).lt g hg).1;omega
 ·have hx:∀ s g,¬ s=txt m.role→g∈v'.blk→g∈(H s).blk→False:=fun s g e h1 h2=>by
   rcases hat g h1 with h3 | h3
   ·exact e (h.mU s _ g h2 h3)
   ·have:=((h.row s).lt g (Hd.au.1 h2)).2
    omega
  intro s t g h1 h2;by_cases e1:s=txt m.role
  ·by_cases e2:t=txt m.role
   ·rw [e1,e2]
   ·rw [if_pos e1] at h1
    rw [if_neg e2] at h2;exact absurd h2 (fun h2=>hx t g e2 h1 h2)
  ·rw [if_neg e1] at h1
   by_cases e2:t=txt m.role
   ·rw [if_pos e2] at h2
    exact absurd h1 (fun h1=>hx s g e1 h2 h1)
   ·rw [if_neg e2] at h2
    exact h.mU s t g h1 h2
theorem qW.next {w:World} {B bn k bf:Nat} {ms:List em} {H:dR→Hd} (h:qW w B bn k ms H) (hbf:∀ s,bf∉(H s).blk):na w ms bf bn k :=
 ⟨_,h.mp,fun s=>⟨H s,rfl,bV (h.row s) (Nat.zero_le _),hbf s⟩⟩
theorem na.X8 {w w':World} {ms:List em} {bf bn N:Nat} (h:na w ms bf bn N) (a:ag w w'):na w' ms bf bn N:=by
 obtain ⟨nx,h1,h2⟩:=h;exact ⟨nx,h1.az a,fun s=>by obtain ⟨h,e,o,n⟩:=h2 s;exact ⟨h,e,bu o a,n⟩⟩
theorem FY (w:World) (B:Nat) (hB:w.heap.size < B):qW (w.alloc (.map #[] 0)) B w.heap.size 0 [] (fun _=>⟨none,0,0⟩) :=
 ⟨nE w _,fun s=>dl _ _ _ _,fun s t g h=>by simp [i6] at h,hB⟩
theorem CV (l:List dR):∃ U:List dR,U.Nodup∧∀ x,x∈U↔x∈l:=by
 induction l with
 | nil=>exact ⟨[],by simp,by simp⟩
 | cons a l ih =>
  obtain ⟨U,h1,h2⟩:=ih;by_cases e:a∈U
  ·exact ⟨U,h1,fun x=>by rw [List.mem_cons,h2];exact ⟨.inr,fun h=>h.elim (fun h=>h▸(h2 a).1 e) id⟩⟩
  ·exact ⟨a::U,List.nodup_cons.2 ⟨e,h1⟩,fun x=>by rw [List.mem_cons,List.mem_cons,h2]⟩
theorem Mr {U:List dR} {a:dR} (h:a∉U):(U.map fun s=>if a=s then 1 else 0).sum=0:=by
 induction U with
 | nil=>rfl
 | cons b U ih =>
  rw [List.mem_cons,not_or] at h;simp only [List.map_cons,List.sum_cons,if_neg h.1,ih h.2]
theorem Ms {U:List dR} (hU:U.Nodup) (a:dR):(U.map fun s=>if a=s then 1 else 0).sum≤1:=by
 induction U with
 | nil=>simp
 | cons b U ih =>
  rw [List.nodup_cons] at hU;simp only [List.map_cons,List.sum_cons];by_cases e:a=b
  ·subst e
   rw [Mr hU.1];simp
  ·rw [if_neg e]
   have:=ih hU.2;omega
theorem sum_add (U:List dR) (f g:dR→Nat):(U.map fun s=>f s+g s).sum=(U.map f).sum+(U.map g).sum:=by
 induction U with
 | nil=>rfl
 | cons a U ih=>simp only [List.map_cons,List.sum_cons,ih];omega
theorem JK {U:List dR} (hU:U.Nodup) (ms:List em):xe ms U (fun _=>0)≤ms.length:=by
 unfold xe;simp only [if_true]
 induction ms with
 | nil =>
  have:(U.map fun s=>(succ [] s).length).sum=0:=by
   clear hU
   induction U with
   | nil=>rfl
   | cons a U ih=>simp only [List.map_cons,List.sum_cons,ih];rfl
  rw [this];simp
 | cons m ms ih =>
  have e:(fun s=>(succ (m::ms) s).length)=fun s=>(succ ms s).length+if txt m.role=s then 1 else 0:=by
   funext s
   unfold succ
   by_cases e:txt m.role=s<;>simp [e]
  rw [e,sum_add];have:=Ms hU (txt m.role);simp only [List.length_cons];omega
def Ql (w:World) (ms:List em) (role:ByteArray) (e:Ending) (w':World):Prop :=
 ∃ bf,e=.returned (.map (some bf))∧ag w w'∧∃ (c:dR→Nat) (n:Nat),eL Tryz.prog 9 w' bf n (.int .i64 0) (nY c)∧(∀ s,c s≤140737488351232)∧∀ s,0 < c s↔Reach ms (txt role) s
structure ZV (w wr:World) (ms:List em) (k:Nat) (H:dR→Hd):Prop where
 az:ag w wr
 pn:wr.cell? ⟨w.heap.size+2,0,none⟩=some (.map (some (w.heap.size+1)))
 nx:qW wr (w.heap.size+3) (w.heap.size+1) k (ms.take k) H
 sz:w.heap.size+3≤wr.heap.size
theorem xD (r:fX) (An:Option Addr) (aI:Nat) (Am:Option Addr) (aK:Nat) (role:ByteArray) (w:World) (hm:aL w 2 ia Am aK r.members) (lp:Small role.size) :
  Calls Tryz.prog 69 #[.agg #[.slice An r.names.length aI,.slice Am r.members.length aK],.string role] w (Ql w r.members role):=by
 have hlen:=hm.len;have Q4:=@run_makeMap Tryz.prog
 have l1:w.heap.size < w.heap.size+1:=by omega
 have l2:w.heap.size < w.heap.size+1+1:=by omega
 have l3:w.heap.size < w.heap.size+1+1+1:=by omega
 have HM:=gH hm
 go_enter Tryz.func69,Tryz.ntmps69
 go_wp2_with fail
 go_loopw [14] (fun i wr=>∃ (k:Nat) (H:dR→Hd),k≤r.members.length∧i=.int .i64 k∧ZV w wr r.members k H) (fun i _=>r.members.length - (intOf i).toNat)
 case atStart =>
  refine ⟨0,fun _=>⟨none,0,0⟩,Nat.zero_le _,rfl,((((ag.refl w).alloc _).alloc _).alloc _),?_,?_,by simp⟩
  ·obtain ⟨hb,_,_,_,_⟩:=cJ (ag.refl (((w.alloc (.cells #[.slice An r.names.length aI,.slice Am r.members.length aK] 29)).alloc (.map #[] 0)).alloc (.cells #[.map (some (w.heap.size+1))] 112)))
   have:=hb 0
   simpa [World.size_alloc] using this
  ·have:=FY (w.alloc (.cells #[.slice An r.names.length aI,.slice Am r.members.length aK] 29)) (w.heap.size+3) (by simp)
   simp only [World.size_alloc] at this;exact this.az ((ag.refl _).alloc _)
 case round =>
  obtain ⟨k,H,hk,rfl,hs⟩:=hrel;have HS:=gH hs;have pn:=hs.pn;have sz:=hs.sz;by_cases hlt:k < r.members.length
  ·obtain ⟨b,off,rfl,hb,t0,t1,hs1,hs2⟩:=ku (bJ hs.az HM.out) hlt
   obtain ⟨m,Qm⟩:∃ m,r.members[k]=m:=⟨_,rfl⟩;rw [Qm] at t0 t1 hs1 hs2;obtain ⟨W,hW⟩:∃ W,W=wr.alloc (.cells #[.string m.role,.string m.of] 103):=⟨_,rfl⟩
   have aW:ag wr W:=by rw [hW];exact (ag.refl _).alloc _
   have zW:W.heap.size=wr.heap.size+1:=by rw [hW];simp
   have Gy:=hs.nx.az aW;have hrow:=Gy.row (txt m.role);obtain ⟨a0,n0,c0,hv⟩:∃ a0 n0 c0,H (txt m.role)=⟨a0,n0,c0⟩:=⟨_,_,_,rfl⟩;have Gx:=gm hrow;rw [hv] at hrow Gx;dsimp only at Gx;have HLEN:=gH Gx
   have hle:n0≤k:=by
    rw [Gx];unfold succ;rw [List.length_map];refine Nat.le_trans (List.length_filter_le _ _) ?_;rw [List.length_take];omega
   rw [← Gx] at hrow;have HOW:=gH (show W.ownsRow (w.heap.size+3) 9 1 (.slice a0 n0 c0) n0 ((succ (r.members.take k) (txt m.role)).flatMap bY) from hrow)
   have Ut:∀ x:kQ (.slice a0 n0 c0) W,(Instr.lookup 112 (.map (some (w.heap.size+1))) (.string m.role) false).run Tryz.prog (kw (.slice a0 n0 c0) W x)=.ok (.slice a0 n0 c0) (kw (.slice a0 n0 c0) W x):=fun x=>by
    have h1:=(Gy.mp.kb x.kb (gh HOW.out (by omega))).look Tryz.underlying9 Tryz.underlying112 (ln _) m.role hs1.max;rw [show H m.role.data.toList=⟨a0,n0,c0⟩ from hv] at h1;exact h1
   have p1:=aW.cell_kept pn
   have q0:W.cell? ⟨wr.heap.size,0,none⟩=some (.string m.role):=by
    rw [hW];simp
   have q1:W.cell? ⟨wr.heap.size,1,none⟩=some (.string m.of):=by
    rw [hW];simp
   have e1:w.heap.size+2 < W.heap.size:=by omega
   have Od:w.heap.size+1+1 < W.heap.size:=by omega
   have e2:wr.heap.size < W.heap.size:=by omega
   have n1:¬ fN (.slice a0 n0 c0) (w.heap.size+2):=gh HOW.out (by omega);have n1':¬ fN (.slice a0 n0 c0) (w.heap.size+1+1):=gh HOW.out (by omega)
   have n2:¬ fN (.slice a0 n0 c0) wr.heap.size:=fun h=>by
    have:=((hs.nx.row (txt m.role)).lt wr.heap.size (by rw [hv];exact h)).2;omega
   obtain ⟨i0,eU,hz0,hz1,hz2⟩:=info_parts nL;have HI:=gH eU;have HZ:=gH (And.intro hz0 (And.intro hz1 hz2));have HN:=gH (And.intro Gy (And.intro hv (And.intro Qm (And.intro (hs.az.trans aW) (And.intro aW hs1)))));have lc:=gH (And.intro sz (And.intro zW hle))
   have aam:n0+1≤140737488351232:=by omega
   clear eU hz0 hz1 hz2 hs Gy hv hrow Gx hle aW Qm hs1 hs2;go_wp2_with fail;rw [← hW];clear hW zW;go_wp2_with fail;refine dx 9 11 (fun w'=>∃ x:kQ (.slice a0 n0 c0) W,w'=kw (.slice a0 n0 c0) W x) (by kernel_rfl) (by kernel_rfl) (KL.az (ag.refl W).drew) ?_;simp only [List.take_succ_cons,List.take_zero,List.drop_succ_cons,List.drop_zero]
   repeat (go_big_quiet_step (fail))
   refine wpQuiet_nil ?_;refine bX (fun K hK=>?_);go_simp;refine hK _ _ (fun _=>KL.az (((ag.refl W).alloc _).drew)) ?_;clear hK K;refine bX (fun K hK=>?_);refine wp_append_lies _ (.tmp 24) (.tmp 27) 26 rfl (w.heap.size+3) 9 i0 _ 1 16 Tryz.underlying26 HI.out HZ.out.1 HZ.out.2.1 HZ.out.2.2 rfl (by decide) (.slice a0 n0 c0) n0 ((succ (r.members.take k) (txt m.role)).flatMap bY) (by rfl) ((HOW.out.alloc _).drew) ⟨W.heap.size,0,none⟩ 1 1 [.string m.of] (by rfl) (by rfl) (World.news_of_block (cs:=#[.string m.of]) (t:=9) (fr:=(0,0)) (heap_alloc_new W _)) (by simp [Value.oneCell']) (by omega) (by unfold maxLen;omega) (by have:=lc.out;omega) (by have:=lc.out;simp;omega) (W.heap.size+1) (by simp) ?_;intro gg cap' w5 eX hgrow hat nR;refine hK _ _ (fun _=>KL.of ((Kb.aH (((ag.refl W).alloc _).drew)).trans (jD hgrow))) ?_;clear hK K;refine d9 _ (by simp) (by decide) ?_;have mj:Kb (fN (.slice a0 n0 c0)) W w5:=(Kb.aH (((ag.refl W).alloc _).drew)).trans (jD hgrow);obtain ⟨Gy,hv,Mt,ZW,haW,ZY⟩:=HN.out
   have Ln:w.heap.size+3≤W.heap.size:=by omega
   obtain ⟨w6,p6,ZZ,k6⟩:=Gy.step (v':=⟨some ⟨gg,0,none⟩,n0+1,cap'⟩) Ln m ZY.max (by unfold maxLen;omega) (by rw [hv];exact mj) (by rw [← HLEN.out];exact eX) (fun g hg=>by
    rw [cM,List.mem_singleton] at hg;have hg:g=gg:=hg
    rcases hat with h1 | h1
    ·exact .inl (by rw [hv,hg];exact Hd.au.2 h1)
    ·exact .inr (by omega))
   have Z0:∀ g,g < w.heap.size+3→¬ fN (.slice a0 n0 c0) g:=fun g hg=>gh HOW.out hg
   have yE:=gH (show ∃ H',ZV w w6 r.members (k+1) H' from ⟨_,(k6.aZ (mj.aZ ZW (fun g hg=>Z0 g (by omega))) (fun g hg=>by omega)),
    k6.cell (mj.cell p1 n1) (by show ¬ w.heap.size+2=w.heap.size+1;omega),by rw [List.take_succ_eq_append_getElem hlt,Mt];exact ZZ,by have:=mj.size;have:=k6.size;omega⟩)
   change (Instr.mapUpdate 112 (.map (some (w.heap.size+1))) (.string m.role) (.slice (some ⟨gg,0,none⟩) (n0+1) cap')).run Tryz.prog w5=.ok () w6 at p6;clear Gy hv Mt ZW haW ZY Z0 ZZ k6 mj eX hgrow hat nR Ut;go_wp2_with fail;refine NoPanic.normal ?_;go_wp2_with fail
   go_roundw
   case rel=>obtain ⟨H',hx⟩:=yE.out;exact ⟨k+1,H',by omega,by go_num,hx⟩
   case measure=>simp [intOf];omega
  ·have hke:k=r.members.length:=by omega
   subst hke;have Gy:=hs.nx;rw [List.take_length] at Gy
   have m1:wr.heap.size+1+1 < wr.heap.size+1+1+1:=by omega
   have m2:wr.heap.size+1 < wr.heap.size+1+1+1:=by omega
   have m3:wr.heap.size < wr.heap.size+1+1+1:=by omega
   have m4:w.heap.size+2 < wr.heap.size:=by omega
   obtain ⟨F,hF⟩:∃ F,F=((wr.alloc (.map #[] 0)).alloc (.cells #[.map (some wr.heap.size)] 121)).alloc (.cells #[.func (.func 117) #[] #[.pointer (some ⟨wr.heap.size+1,0,none⟩),.pointer (some ⟨w.heap.size+1+1,0,none⟩),.pointer (some ⟨wr.heap.size+1+1,0,none⟩)]] 155):=⟨_,rfl⟩
   have aF:ag wr F:=by rw [hF];exact (((ag.refl wr).alloc _).alloc _).alloc _
   have MF:eL Tryz.prog 9 F wr.heap.size 0 (.int .i64 0) (nY fun _=>0):=by rw [hF];exact (nE wr _).az (((ag.refl _).alloc _).alloc _)
   have d1:F.cell? ⟨wr.heap.size+1,0,none⟩=some (.map (some wr.heap.size)):=by
    rw [hF];obtain ⟨hb,_,_,_,_⟩:=cJ ((ag.refl ((wr.alloc (.map #[] 0)).alloc (.cells #[.map (some wr.heap.size)] 121))).alloc (.cells #[.func (.func 117) #[] #[.pointer (some ⟨wr.heap.size+1,0,none⟩),.pointer (some ⟨w.heap.size+1+1,0,none⟩),.pointer (some ⟨wr.heap.size+1+1,0,none⟩)]] 155));have:=hb 0
    simpa [World.size_alloc] using this
   have d2:F.cell? ⟨wr.heap.size+2,0,none⟩=some (.func (.func 117) #[] #[.pointer (some ⟨wr.heap.size+1,0,none⟩),.pointer (some ⟨w.heap.size+1+1,0,none⟩),.pointer (some ⟨wr.heap.size+1+1,0,none⟩)]):=by
    rw [hF];obtain ⟨hb,_,_,_,_⟩:=cJ (ag.refl (((wr.alloc (.map #[] 0)).alloc (.cells #[.map (some wr.heap.size)] 121)).alloc (.cells #[.func (.func 117) #[] #[.pointer (some ⟨wr.heap.size+1,0,none⟩),.pointer (some ⟨w.heap.size+1+1,0,none⟩),.pointer (some ⟨wr.heap.size+1+1,0,none⟩)]] 155)));have:=hb 0
    simpa [World.size_alloc] using this
   have SI:kS F r.members (wr.heap.size+1) (w.heap.size+2) (wr.heap.size+2) wr.heap.size (w.heap.size+1) r.members.length :=
    ⟨d1,aF.cell_kept pn,d2,(Gy.next (bf:=wr.heap.size) fun s h=>by have:=((Gy.row s).lt _ (Hd.au.1 h)).2;omega).X8 aF,by omega,by omega,by omega,by omega⟩
   obtain ⟨U,u1,u2⟩:=CV (txt role::r.members.map fun m=>txt m.of)
   have hsm:=kP HM.out (P:=fun m:em=>Small m.of.size) fun _ _ h=>h.2.2
   have C:=gH (I1 r.members U (wr.heap.size+1) (w.heap.size+2) (wr.heap.size+2) wr.heap.size (w.heap.size+1) r.members.length hsm
    (fun s _ x hx=>by
     rw [u2];unfold succ at hx;rw [List.mem_map] at hx;obtain ⟨m,hm,rfl⟩:=hx
     exact List.mem_cons.2 (.inr (List.mem_map.2 ⟨m,(List.mem_filter.1 hm).1,rfl⟩)))
    _ role (fun _=>0) 0 F (Nat.le_refl _) lp (by rw [u2];simp) (fun _=>Nat.le_refl _) (by have:=JK u1 r.members;omega) SI MF)
   have VN:=gH (And.intro (JK u1 r.members) (And.intro hlen (And.intro (hs.az.trans aF) (And.intro d1 hs.az.size))));rw [hF] at C;clear hs Gy MF d1 d2 SI u1 u2 hsm
   go_wp2_with (go_at_call 117;refine C.out.mono ?_;rintro e w2 ⟨rfl,Rk,c2,n2,M2,g2⟩;rw [← hF] at Rk;have dd:=Rk.cell VN.out.2.2.2.1 (by show ¬ wr.heap.size+1=wr.heap.size;omega))
   go_ret;refine ⟨_,rfl,Rk.aZ VN.out.2.2.1 (fun k hk=>by omega),c2,n2,M2,fun s=>?_,fun s=>g2.reach s⟩;have:=g2.bd s;have:=g2.size;have:=VN.out.1;have:=VN.out.2.1;omega
end Go.Proofs.YtmflccbnoeaafaaGreat
namespace Go.Proofs.YtmflccbnoeaafaaGreat
open Go.RowKit
set_option maxRecDepth 100000
set_option linter.unusedVariables false
set_option maxHeartbeats 64000000
theorem tZ (s:ByteArray) (c:Int) (w:World) :
  Calls Tryz.prog 120 #[.string s,.int .u8 c] w fun e w'=>e=.returned (.int .i64 (Lib.indexByte s.data.toList c.toNat.toUInt8))∧w=w':=by
 go_enter Tryz.func120,Tryz.ntmps120
 go_wp2
 rw [run_callFunc_extern Tryz.func191 (by kernel_rfl) (by kernel_rfl) (by kernel_rfl) (e:=Extern.BytealgIndexByte.indexByte) (by kernel_rfl),Lib.run_indexByteString];simp only [Result.andThen];rw [Oper.upon_value]
 go_wp2
 go_ret;exact ⟨rfl,rfl⟩
theorem indexByte (s:ByteArray) (c:Int) (w:World) :
  Calls Tryz.prog 77 #[.string s,.int .u8 c] w fun e w'=>e=.returned (.int .i64 (Lib.indexByte s.data.toList c.toNat.toUInt8))∧w=w':=by
 go_enter Tryz.func77,Tryz.ntmps77
 go_wp2_with (go_at_call 120;refine (tZ _ _ _).mono ?_;rintro e w' ⟨rfl,rfl⟩)
 go_ret;exact ⟨rfl,rfl⟩
end Go.Proofs.YtmflccbnoeaafaaGreat
namespace Go.Proofs.YtmflccbnoeaafaaGreat
set_option maxRecDepth 100000
set_option linter.unusedVariables false
set_option maxHeartbeats 64000000
def isLet (c:UInt8):Bool:=decide (97≤c)&&decide (c≤122)
def pq (c:UInt8):Bool:=isLet c || (decide (48≤c)&&decide (c≤57)) || c==95
def Rq (s:ByteArray):Bool:=s.data.toList.all pq
def bP (s:ByteArray):Bool:=decide (0 < s.size)&&decide (s.size≤16)&&isLet (s.data.toList.headD 0)&&Rq s
def z8 (c:UInt8):Int:=Lib.indexByte [97,98,99,100,101,102,103,104,105,106,107,108,109,110,111,112,113,114,115,116,117,118,119,120,121,122] c
def Aa (c:UInt8):Int:=Lib.indexByte [97,98,99,100,101,102,103,104,105,106,107,108,109,110,111,112,113,114,115,116,117,118,119,120,121,122,48,49,50,51,52,53,54,55,56,57,95] c
theorem JL {p:UInt8→Bool} (h:∀ n:Fin 256,p (UInt8.ofNat n.val)=true) (c:UInt8):p c=true:=by
 have:=h ⟨c.toNat,c.toNat_lt⟩
 simpa using this
theorem FZ (c:UInt8):decide (z8 c < 0)=!isLet c:=by
 have:=JL (p:=fun c=>decide (z8 c < 0)==!isLet c) (by decide +kernel) c
 simpa using this
theorem F3 (c:UInt8):decide (Aa c < 0)=!pq c:=by
 have:=JL (p:=fun c=>decide (Aa c < 0)==!pq c) (by decide +kernel) c
 simpa using this
theorem F4 (c:UInt8):z8 c < 0↔isLet c=false:=by
 have:=FZ c;cases h:isLet c<;>simp_all
theorem vY (c:UInt8):Aa c < 0↔pq c=false:=by
 have:=F3 c;cases h:pq c<;>simp_all
theorem uI {α:Type} (p:α→Bool) (l:List α) (k:Nat) (h:k < l.length):(l.take (k+1)).all p=((l.take k).all p&&p l[k]):=by
 rw [List.take_succ_eq_append_getElem h];simp only [List.all_append,List.all_cons,List.all_nil,Bool.and_true]
theorem nN (s:ByteArray):s.data.toList.length=s.size:=by simp
theorem Qn (s:ByteArray) (k:Nat) (h:k < s.size):s.data.toList[k]'(by simpa using h)=s[k]:=rfl
theorem Mu (s:ByteArray) (k:Nat) (h:k < s.size):(s.data.toList.take (k+1)).all pq=((s.data.toList.take k).all pq&&pq s[k]):=by
 rw [uI pq _ k (by simpa using h)];rfl
theorem JM (s:ByteArray) (k:Nat) (h:k < s.size) (hp:pq s[k]=false):Rq s=false:=by
 have:s[k]∈s.data.toList:=by rw [← Qn s k h];exact List.getElem_mem _
 simp only [Rq,Bool.eq_false_iff,ne_eq,List.all_eq_true];intro hall;have:=hall _ this;simp [hp] at this
theorem Mv (s:ByteArray) (k:Nat) (h:¬ k < s.size) (hp:(s.data.toList.take k).all pq=true):Rq s=true:=by
 rw [List.take_of_length_le (by rw [nN];omega)] at hp;exact hp
theorem JN (s:ByteArray) (h:0 < s.size):s.data.toList.headD 0=s[0]:=by
 have h1:s.data.toList≠[]:=by intro e;have:=nN s;simp [e] at this;omega
 obtain ⟨a,l,e⟩:=List.exists_cons_of_ne_nil h1;have:s.data.toList[0]'(by rw [nN];exact h)=s[0]:=rfl;simp only [e,List.headD_cons] at this ⊢
 simpa using this
end Go.Proofs.YtmflccbnoeaafaaGreat
namespace Go.Proofs.YtmflccbnoeaafaaGreat
open Go.RowKit
set_option maxRecDepth 100000
set_option linter.unusedVariables false
set_option maxHeartbeats 64000000
theorem JO (c:UInt8) (w:World) :
  Calls Tryz.prog 77 #[.string { data:=#[97,98,99,100,101,102,103,104,105,106,107,108,109,110,111,112,113,114,115,116,117,118,119,120,121,122] },.int .u8 c.toNat] w fun e w'=>e=.returned (.int .i64 (z8 c))∧w=w':=by
 refine (indexByte _ _ w).mono ?_;rintro e w' ⟨rfl,rfl⟩;refine ⟨?_,rfl⟩
 have:((c.toNat:Int).toNat.toUInt8)=c:=by simp
 rw [this];rfl
theorem Mw (c:UInt8) (w:World) :
  Calls Tryz.prog 77 #[.string { data:=#[97,98,99,100,101,102,103,104,105,106,107,108,109,110,111,112,113,114,115,116,117,118,119,120,121,122,48,49,50,51,52,53,54,55,56,57,95] },.int .u8 c.toNat] w fun e w'=>e=.returned (.int .i64 (Aa c))∧w=w':=by
 refine (indexByte _ _ w).mono ?_;rintro e w' ⟨rfl,rfl⟩;refine ⟨?_,rfl⟩
 have:((c.toNat:Int).toNat.toUInt8)=c:=by simp
 rw [this];rfl
theorem F5 (s:ByteArray) (w:World) (hs:s.size≤maxLen) :
  Calls Tryz.prog 78 #[.string s] w fun e w'=>e=.returned (.bool (Rq s))∧w=w':=by
 unfold maxLen at hs
 go_enter Tryz.func78,Tryz.ntmps78
 go_wp2_with fail
 go_loop [6] (fun i=>∃ k:Nat,k≤s.size∧i=.int .i64 k∧(s.data.toList.take k).all pq=true) (fun i=>s.size - (intOf i).toNat)
 case atStart=>exact ⟨0,Nat.zero_le _,rfl,rfl⟩
 case round =>
  obtain ⟨k,hk,rfl,ha⟩:=hrel;have HA:=gH ha;clear ha;by_cases hlt:k < s.size
  ·go_wp2_with (go_at_call 77;refine (Mw _ _).mono ?_;rintro e w' ⟨rfl,rfl⟩)
   ·have hp:pq s[k]=false:=(vY _).1 (by assumption)
    go_ret;exact ⟨by rw [JM s k hlt hp];rfl,rfl⟩
   ·have hp:pq s[k]=true:=by
     have h0:0≤Aa s[k]:=by assumption
     have:=vY s[k]
     cases h:pq s[k]
     ·have:=this.2 h;omega
     ·rfl
    go_round
    case rel=>exact ⟨k+1,by omega,by go_num,by rw [Mu s k hlt,HA.out,hp];rfl⟩
    case measure=>simp [intOf];omega
  ·go_wp2_with fail
   go_ret;exact ⟨by rw [Mv s k hlt HA.out];rfl,rfl⟩
theorem gF (s:ByteArray):s.toList=[]↔s.size=0:=by
 rw [ByteArray.toList_eq];rw [← List.length_eq_zero_iff,nN]
theorem isEmpty_iff (s:ByteArray):s.toList.isEmpty=decide (s.size=0):=by
 rw [Bool.eq_iff_iff];simp [gF]
theorem JP (s:ByteArray) (h:0 < s.size):bP s=(decide (s.size≤16)&&(isLet s[0]&&Rq s)):=by
 unfold bP;rw [JN s h,decide_eq_true h,Bool.true_and,Bool.and_assoc]
theorem cz (s:ByteArray) (w:World) (hs:s.size≤maxLen) :
  Calls Tryz.prog 38 #[.string s] w fun e w'=>e=.returned (.bool (bP s))∧w=w':=by
 have hs':=hs;unfold maxLen at hs;by_cases h0:0 < s.size
 ·have H:=gH (JP s h0)
  have hl:=gH (F4 s[0])
  have he:s.toList.isEmpty=false:=by rw [isEmpty_iff];exact decide_eq_false (by omega)
  have he':¬ s.toList=[]:=by rw [gF];omega
  go_enter Tryz.func38,Tryz.ntmps38
  go_wp2_with (first | (go_at_call 77;refine (JO _ _).mono ?_;rintro e w' ⟨rfl,rfl⟩) | (go_at_call 78;refine (F5 _ _ hs').mono ?_;rintro e w' ⟨rfl,rfl⟩))
  ·have a1:s.size≤16:=by have:(s.size:Int)≤16:=(by assumption);omega
   have a2:isLet s[0]=true:=by
    have h0:0≤z8 s[0]:=by assumption
    cases h:isLet s[0]
    ·have:=hl.out.2 h;omega
    ·rfl
   go_ret;exact ⟨by rw [H.out,decide_eq_true a1,a2];rfl,rfl⟩
  ·have a2:isLet s[0]=false:=hl.out.1 (by assumption)
   go_ret;exact ⟨by rw [H.out,a2,Bool.false_and,Bool.and_false];rfl,rfl⟩
  ·have a1:¬ s.size≤16:=by have:16 < (s.size:Int):=(by assumption);omega
   go_ret;exact ⟨by rw [H.out,decide_eq_false a1];rfl,rfl⟩
 ·have he:s.toList.isEmpty=true:=by rw [isEmpty_iff];exact decide_eq_true (by omega)
  have he':s.toList=[]:=by rw [gF];omega
  have H:=gH (show bP s=false by simp [bP,h0])
  go_enter Tryz.func38,Tryz.ntmps38
  go_wp2_with fail;go_ret;exact ⟨by rw [H.out];rfl,rfl⟩
theorem er {k:Nat} {p:Nat→Prop} (h:∀ j,j < k→p j) (hk:p k):∀ j,j < k+1→p j:=ah k p h hk
theorem F6 {α:Type} (p:α→Bool) (l:List α) (k:Nat) (hk:k < l.length) (hp:p l[k]=true):l.any p=true:=List.any_eq_true.2 ⟨l[k],List.getElem_mem hk,hp⟩
theorem enters {P:Program} {f:FuncId} {fn:Func} {c:Code} (hf:P.funcs[f]? = some fn) (hname:(fn.name=="runtime.NumGoroutine")=false) (hb:fn.body=some c):∀ (args:Array Value) (w:World),(callFunc f args).run P w=.ok (.enter f args) w:=by
 intro args w
 have h1:fn.name≠"runtime.NumGoroutine":=by simpa using hname
 simp [callFunc,hf,h1,hb,mark]
theorem Qo (A:Option Addr) (cap:Nat) (l:List fc) (g:FuncId) (ar:Array Value) (p:fc→Bool) (w:World) (h:aL w 3 iv A cap l) (bR:∀ (args:Array Value) (w:World),(callFunc g args).run Tryz.prog w=.ok (.enter g args) w)
  (hp:∀ w',ag w w'→∀ i (hi:i < l.length),Calls Tryz.prog g (#[.agg #[.string l[i].name,.int .i64 l[i].kind,.bool l[i].null]]++ar) w' fun e w''=>e=.returned (.bool (p l[i]))∧ag w' w'') :
  Calls Tryz.prog 211 #[.slice A l.length cap,.func (.func g) #[] ar] w fun e w'=>e=.returned (.int .i64 (bK p l))∧ag w w':=by
 have hlen:=h.len;have HC:=gH hp;clear hp
 go_enter Tryz.func211,Tryz.ntmps211
 go_wp2_with fail
 go_loopw [8] (fun i wr=>∃ k:Nat,k≤l.length∧i=.int .i64 k∧ag w wr∧∀ j,j < k→∀ (hj:j < l.length),p l[j]=false) (fun i _=>l.length - (intOf i).toNat)
 case atStart=>exact ⟨0,Nat.zero_le _,rfl,ag.refl _,fun j hj=>absurd hj (Nat.not_lt_zero j)⟩
 case round =>
  obtain ⟨k,hk,rfl,ha,hp⟩:=hrel;have HA:=gH ha;have HP:=gH hp;clear hp;by_cases hlt:k < l.length
  ·have eT:=cy ha h
   clear ha;obtain ⟨b,off,rfl,hb,c0,c1,c2,hs⟩:=wm eT hlt;have HK:=gH (HC.out wr HA.out k hlt);clear eT;obtain ⟨q,hq⟩:∃ q,p l[k]=q:=⟨_,rfl⟩;rw [hq] at HK;have HQ:=gH hq;clear hq
   cases q
   ·go_wp2_with fail
    refine HK.out.mono ?_;rintro e w1 ⟨rfl,a1⟩;have cG:=gH (HA.out.trans a1);clear a1;go_wp2_with fail
    go_roundw
    case rel=>exact ⟨k+1,by omega,by go_num,cG.out,er (p:=fun j=>∀ (hj:j < l.length),p l[j]=false) HP.out (fun _=>HQ.out)⟩
    case measure=>simp [intOf];omega
   ·go_wp2_with fail
    refine HK.out.mono ?_;rintro e w1 ⟨rfl,a1⟩;have cG:=gH (HA.out.trans a1);clear a1;go_wp2_with fail;go_ret;exact ⟨by rw [fR p l k hlt HQ.out (fun i hi=>HP.out i hi (by omega))];rfl,cG.out⟩
  ·clear ha
   go_wp2_with fail;go_ret;exact ⟨by rw [gJ p l (fun i hi=>HP.out i (by omega) hi)];rfl,HA.out⟩
theorem Ir (A:Option Addr) (cap:Nat) (l:List gi) (g:FuncId) (ar:Array Value) (p:gi→Bool) (w:World) (h:aL w 8 gI A cap l) (bR:∀ (args:Array Value) (w:World),(callFunc g args).run Tryz.prog w=.ok (.enter g args) w)
  (hp:∀ w',ag w w'→∀ i (hi:i < l.length) (e1:List Value),gI w' e1 l[i]→Calls Tryz.prog g (#[.agg e1.toArray]++ar) w' fun e w''=>e=.returned (.bool (p l[i]))∧ag w' w'') :
  Calls Tryz.prog 213 #[.slice A l.length cap,.func (.func g) #[] ar] w fun e w'=>e=.returned (.int .i64 (bK p l))∧ag w w':=by
 have hlen:=h.len;have HC:=gH hp;clear hp
 go_enter Tryz.func213,Tryz.ntmps213
 go_wp2_with fail
 go_loopw [8] (fun i wr=>∃ k:Nat,k≤l.length∧i=.int .i64 k∧ag w wr∧∀ j,j < k→∀ (hj:j < l.length),p l[j]=false) (fun i _=>l.length - (intOf i).toNat)
 case atStart=>exact ⟨0,Nat.zero_le _,rfl,ag.refl _,fun j hj=>absurd hj (Nat.not_lt_zero j)⟩
 case round =>
  obtain ⟨k,hk,rfl,ha,hp⟩:=hrel;have HA:=gH ha;have HP:=gH hp;clear hp;by_cases hlt:k < l.length
  ·have eT:=ee ha h
   clear ha;obtain ⟨b,off,A2,bT,rfl,hb,c0,c1,c2,c3,c4,c5,c6,c7,hs⟩:=oD eT hlt;have HK:=gH (HC.out wr HA.out k hlt _ ⟨A2,bT,rfl,hs⟩);clear eT;obtain ⟨q,hq⟩:∃ q,p l[k]=q:=⟨_,rfl⟩;rw [hq] at HK;have HQ:=gH hq;clear hq
   cases q
   ·go_wp2_with fail
    refine HK.out.mono ?_;rintro e w1 ⟨rfl,a1⟩;have cG:=gH (HA.out.trans a1);clear a1;go_wp2_with fail
    go_roundw
    case rel=>exact ⟨k+1,by omega,by go_num,cG.out,er (p:=fun j=>∀ (hj:j < l.length),p l[j]=false) HP.out (fun _=>HQ.out)⟩
    case measure=>simp [intOf];omega
   ·go_wp2_with fail
    refine HK.out.mono ?_;rintro e w1 ⟨rfl,a1⟩;have cG:=gH (HA.out.trans a1);clear a1;go_wp2_with fail;go_ret;exact ⟨by rw [fR p l k hlt HQ.out (fun i hi=>HP.out i hi (by omega))];rfl,cG.out⟩
  ·clear ha
   go_wp2_with fail;go_ret;exact ⟨by rw [gJ p l (fun i hi=>HP.out i (by omega) hi)];rfl,HA.out⟩
theorem AW (A:Option Addr) (cap:Nat) (l:List cu) (g:FuncId) (ar:Array Value) (p:cu→Bool) (w:World) (h:aL w 5 dA A cap l) (bR:∀ (args:Array Value) (w:World),(callFunc g args).run Tryz.prog w=.ok (.enter g args) w)
  (hp:∀ w',ag w w'→∀ i (hi:i < l.length) (e1:List Value),dA w' e1 l[i]→Calls Tryz.prog g (#[.agg e1.toArray]++ar) w' fun e w''=>e=.returned (.bool (p l[i]))∧ag w' w'') :
  Calls Tryz.prog 66 #[.slice A l.length cap,.func (.func g) #[] ar] w fun e w'=>e=.returned (.int .i64 (bK p l))∧ag w w':=by
 have hlen:=h.len;have HC:=gH hp;clear hp
 go_enter Tryz.func66,Tryz.ntmps66
 go_wp2_with fail
 go_loopw [8] (fun i wr=>∃ k:Nat,k≤l.length∧i=.int .i64 k∧ag w wr∧∀ j,j < k→∀ (hj:j < l.length),p l[j]=false) (fun i _=>l.length - (intOf i).toNat)
 case atStart=>exact ⟨0,Nat.zero_le _,rfl,ag.refl _,fun j hj=>absurd hj (Nat.not_lt_zero j)⟩
 case round =>
  obtain ⟨k,hk,rfl,ha,hp⟩:=hrel;have HA:=gH ha;have HP:=gH hp;clear hp;by_cases hlt:k < l.length
  ·have eT:=aQ ha h
   clear ha;obtain ⟨b,off,A2,bT,A3,fA,rfl,hb,c0,c1,c2,c3,c4,hs⟩:=jt eT hlt;have HK:=gH (HC.out wr HA.out k hlt _ ⟨A2,bT,A3,fA,rfl,hs⟩);clear eT;obtain ⟨q,hq⟩:∃ q,p l[k]=q:=⟨_,rfl⟩;rw [hq] at HK;have HQ:=gH hq;clear hq
   cases q
   ·go_wp2_with fail
    refine HK.out.mono ?_;rintro e w1 ⟨rfl,a1⟩;have cG:=gH (HA.out.trans a1);clear a1;go_wp2_with fail
    go_roundw
    case rel=>exact ⟨k+1,by omega,by go_num,cG.out,er (p:=fun j=>∀ (hj:j < l.length),p l[j]=false) HP.out (fun _=>HQ.out)⟩
    case measure=>simp [intOf];omega
   ·go_wp2_with fail
    refine HK.out.mono ?_;rintro e w1 ⟨rfl,a1⟩;have cG:=gH (HA.out.trans a1);clear a1;go_wp2_with fail;go_ret;exact ⟨by rw [fR p l k hlt HQ.out (fun i hi=>HP.out i hi (by omega))];rfl,cG.out⟩
  ·clear ha
   go_wp2_with fail;go_ret;exact ⟨by rw [gJ p l (fun i hi=>HP.out i (by omega) hi)];rfl,HA.out⟩
theorem wE (A:Option Addr) (cap:Nat) (l:List gj) (g:FuncId) (ar:Array Value) (p:gj→Bool) (w:World) (h:aL w 2 fk A cap l) (bR:∀ (args:Array Value) (w:World),(callFunc g args).run Tryz.prog w=.ok (.enter g args) w)
  (hp:∀ w',ag w w'→∀ i (hi:i < l.length),Calls Tryz.prog g (#[.agg #[.string l[i].name,.string l[i].owner]]++ar) w' fun e w''=>e=.returned (.bool (p l[i]))∧ag w' w'') :
  Calls Tryz.prog 41 #[.slice A l.length cap,.func (.func g) #[] ar] w fun e w'=>e=.returned (.int .i64 (bK p l))∧ag w w':=by
 have hlen:=h.len;have HC:=gH hp;clear hp
 go_enter Tryz.func41,Tryz.ntmps41
 go_wp2_with fail
 go_loopw [8] (fun i wr=>∃ k:Nat,k≤l.length∧i=.int .i64 k∧ag w wr∧∀ j,j < k→∀ (hj:j < l.length),p l[j]=false) (fun i _=>l.length - (intOf i).toNat)
 case atStart=>exact ⟨0,Nat.zero_le _,rfl,ag.refl _,fun j hj=>absurd hj (Nat.not_lt_zero j)⟩
 case round =>
  obtain ⟨k,hk,rfl,ha,hp⟩:=hrel;have HA:=gH ha;have HP:=gH hp;clear hp;by_cases hlt:k < l.length
  ·have eT:=bm ha h
   clear ha;obtain ⟨b,off,rfl,hb,c0,c1,hs,hs2⟩:=oC eT hlt;have HK:=gH (HC.out wr HA.out k hlt);clear eT;obtain ⟨q,hq⟩:∃ q,p l[k]=q:=⟨_,rfl⟩;rw [hq] at HK;have HQ:=gH hq;clear hq
   cases q
   ·go_wp2_with fail
    refine HK.out.mono ?_;rintro e w1 ⟨rfl,a1⟩;have cG:=gH (HA.out.trans a1);clear a1;go_wp2_with fail
    go_roundw
    case rel=>exact ⟨k+1,by omega,by go_num,cG.out,er (p:=fun j=>∀ (hj:j < l.length),p l[j]=false) HP.out (fun _=>HQ.out)⟩
    case measure=>simp [intOf];omega
   ·go_wp2_with fail
    refine HK.out.mono ?_;rintro e w1 ⟨rfl,a1⟩;have cG:=gH (HA.out.trans a1);clear a1;go_wp2_with fail;go_ret;exact ⟨by rw [fR p l k hlt HQ.out (fun i hi=>HP.out i hi (by omega))];rfl,cG.out⟩
  ·clear ha
   go_wp2_with fail;go_ret;exact ⟨by rw [gJ p l (fun i hi=>HP.out i (by omega) hi)];rfl,HA.out⟩
def bw (a b:ByteArray):Int:=Lib.compareBytes a.data.toList b.data.toList
theorem F7 (a b:ByteArray) (w:World) :
  Calls Tryz.prog 121 #[.string a,.string b] w fun e w'=>e=.returned (.int .i64 (bw a b))∧w=w':=by
 go_enter Tryz.func121,Tryz.ntmps121
 go_wp2
 rw [run_callFunc_extern Tryz.func192 (by kernel_rfl) (by kernel_rfl) (by kernel_rfl) (e:=Extern.BytealgCompare.compare) (by kernel_rfl),Lib.run_compareString];simp only [Result.andThen];rw [Oper.upon_value]
 go_wp2
 go_ret;exact ⟨rfl,rfl⟩
theorem ik (a b:ByteArray) (w:World) :
  Calls Tryz.prog 83 #[.string a,.string b] w fun e w'=>e=.returned (.int .i64 (bw a b))∧w=w':=by
 go_enter Tryz.func83,Tryz.ntmps83
 go_wp2_with (go_at_call 121;refine (F7 _ _ _).mono ?_;rintro e w' ⟨rfl,rfl⟩)
 go_ret;exact ⟨rfl,rfl⟩
theorem dJ (a b:ByteArray) (w:World) :
  Calls Tryz.prog 83 #[.string a,.string b] w fun e w'=>e=.returned (.int .i64 (bw a b))∧w'=w:=(ik a b w).mono fun e w' ⟨h1,h2⟩=>⟨h1,h2.symm⟩
def iQ (a b:Int):Int:=if a==0 then b else a
theorem JQ (a b:Int) (g:Nat) (w:World) (hg:g < w.heap.size) (h0:w.cell? ⟨g,0,none⟩=some (.int .i64 a)) (h1:w.cell? ⟨g,1,none⟩=some (.int .i64 b)) :
  Calls Tryz.prog 112 #[.slice (some ⟨g,0,none⟩) 2 2] w fun e w'=>e=.returned (.int .i64 (iQ a b))∧ag w w':=by
 cases ha:(a != 0)
 ·have ha0:a=0:=by simpa using ha
  subst ha0;have HO:=gH (show iQ 0 b=b by simp [iQ]);clear ha
  cases hb:(b != 0)
  ·have hb0:b=0:=by simpa using hb
   subst hb0;clear hb
   go_enter Tryz.func112,Tryz.ntmps112
   go_wp2_with fail
   go_loop [8] (fun i=>∃ k:Nat,k≤2∧i=.int .i64 k) (fun i=>2 - (intOf i).toNat)
   case atStart=>exact ⟨0,by omega,rfl⟩
   case round =>
    obtain ⟨k,hk,rfl⟩:=hrel
    have hk2:k=0∨k=1∨k=2:=by omega
    clear hk
    rcases hk2 with rfl | rfl | rfl
    ·go_wp2_with fail
     go_round
     case rel=>exact ⟨1,by omega,rfl⟩
     case measure=>simp [intOf]
    ·go_wp2_with fail
     go_round
     case rel=>exact ⟨2,by omega,rfl⟩
     case measure=>simp [intOf]
    ·go_wp2_with fail
     go_ret;exact ⟨by rw [HO.out];rfl,ag.refl _⟩
  ·go_enter Tryz.func112,Tryz.ntmps112
   go_wp2_with fail
   go_loop [8] (fun i=>∃ k:Nat,k≤1∧i=.int .i64 k) (fun i=>2 - (intOf i).toNat)
   case atStart=>exact ⟨0,by omega,rfl⟩
   case round =>
    obtain ⟨k,hk,rfl⟩:=hrel
    have hk2:k=0∨k=1:=by omega
    clear hk
    rcases hk2 with rfl | rfl
    ·go_wp2_with fail
     go_round
     case rel=>exact ⟨1,by omega,rfl⟩
     case measure=>simp [intOf]
    ·go_wp2_with fail
     go_ret;exact ⟨by rw [HO.out];rfl,ag.refl _⟩
 ·have HO:=gH (show iQ a b=a by have:¬ a=0:=(by simpa using ha);simp [iQ,this])
  go_enter Tryz.func112,Tryz.ntmps112
  go_wp2_with fail
  go_loop [8] (fun i=>i=.int .i64 0) (fun i=>2 - (intOf i).toNat)
  case atStart=>rfl
  case round =>
   subst hrel;go_wp2_with fail;go_ret;exact ⟨by rw [HO.out];rfl,ag.refl _⟩
theorem EE (s1 n1 o1:ByteArray) (v1 v2:Value) (s2 n2 o2:ByteArray) (v3 v4:Value) (w:World) :
  Calls Tryz.prog 80 #[.agg #[.string s1,.string n1,.string o1,v1,v2],.agg #[.string s2,.string n2,.string o2,v3,v4]] w fun e w'=>e=.returned (.int .i64 (iQ (bw s1 s2) (bw n1 n2)))∧ag w w':=by
 go_enter Tryz.func80,Tryz.ntmps80
 go_wp2_with fail;refine mE 10 (by kernel_rfl) (by kernel_rfl) ?_;intro w1 a1;obtain ⟨hb1,hb2,hz,HA⟩:=jc a1;clear a1;simp only [List.take_succ_cons,List.take_zero,List.drop_succ_cons,List.drop_zero]
 repeat still_step
 still_call (dJ _ _ _)
 repeat still_step
 still_call (dJ _ _ _)
 refine wpStill_nil ?_;go_wp2_with fail;refine (JQ (bw s1 s2) (bw n1 n2) w1.heap.size _ (by simp) (by simp) (by simp)).mono ?_;rintro e w2 ⟨rfl,a2⟩;have fx:=gH ((HA.out.alloc _).trans a2);clear a2;go_wp2_with fail;go_ret;exact ⟨rfl,fx.out⟩
end Go.Proofs.YtmflccbnoeaafaaGreat
