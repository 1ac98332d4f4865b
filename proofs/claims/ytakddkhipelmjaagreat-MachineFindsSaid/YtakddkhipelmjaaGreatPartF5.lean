import Derived.Deep.RegionLaw
import Derived.Test.YtakddkhipelmjaaGreatPartF4
set_option maxRecDepth 100000
set_option linter.unusedVariables false
set_option maxHeartbeats 64000000
namespace Go.Proofs.YtakddkhipelmjaaGreat
open Go.Deep Go.RowKit
def em {α:Type} (c:α→α→Int) (l:List α) (x:α):Nat:=l.countP fun y=>decide (c y x < 0)
theorem pY {α:Type} (p:α→Bool):∀ (l:List α) (i:Nat),i≤l.length→(∀ t (h:t < l.length),t < i→p l[t]=true)→(∀ t (h:t < l.length),i≤t→p l[t]=false)→l.countP p=i
 | [],i,hi,_,_=>by simp at hi;simp [hi]
 | a::r,0,_,_,h2=>by
  rw [List.countP_eq_zero];intro x hx;obtain ⟨t,ht,rfl⟩:=List.getElem_of_mem hx;rw [h2 t ht (Nat.zero_le _)];simp
 | a::r,i+1,hi,h1,h2=>by
  have ha:p a=true:=h1 0 (by simp) (Nat.succ_pos _);rw [List.countP_cons_of_pos ha,pY p r i (by simpa using hi) (fun t h ht=>h1 (t+1) (by simpa using h) (by omega)) (fun t h ht=>h2 (t+1) (by simpa using h) (by omega))]
theorem dZ {α:Type} {c:α→α→Int} (tr:∀ a b d,c a b < 0→c b d < 0→c a d < 0) {l:List α} (h:aM c l=true):∀ (a b:Nat) (ha:a < l.length) (hb:b < l.length),a < b→c l[a] l[b] < 0:=by
 intro a b
 induction b with
 | zero=>intro ha hb hab;omega
 | succ b ih =>
  intro ha hb hab;have h1:=(cR c l).1 h b hb
  rcases Nat.lt_or_ge a b with h2 | h2
  ·exact tr _ _ _ (ih ha (by omega) h2) h1
  ·have:a=b:=by omega
   subst this;exact h1
theorem DD {α:Type} {c:α→α→Int} (tr:∀ a b d,c a b < 0→c b d < 0→c a d < 0) {l:List α} (h:aM c l=true) (x:α) (a b:Nat) (ha:a < l.length) (hb:b < l.length) (hab:a≤b) (hx:c l[b] x < 0):c l[a] x < 0:=by
 rcases Nat.lt_or_ge a b with h2 | h2
 ·exact tr _ _ _ (dZ tr h a b ha hb h2) hx
 ·have:a=b:=by omega
  subst this;exact hx
theorem gM {α:Type} (c:α→α→Int) (l:List α) (x:α):em c l x≤l.length:=List.countP_le_length
def fo {α:Type} (c:α→α→Int) (l:List α) (x:α):Bool:=match l[em c l x]? with | some y=>decide (c y x=0) | none=>false
def dv {α:Type} (l:List α) (p:Nat) (x:α):List α:=l.take p++[x]++l.drop p
theorem zD {α:Type} {c:α→α→Int} {l:List α} {x:α} (h:fo c l x=true):em c l x < l.length:=by
 unfold fo at h
 rcases Nat.lt_or_ge (em c l x) l.length with h1 | h1
 ·exact h1
 ·rw [List.getElem?_eq_none h1] at h;cases h
structure uI {α:Type} (c:α→α→Int):Prop where
 tr:∀ a b d,c a b < 0→c b d < 0→c a d < 0
 dY:∀ a b,c a b = - c b a
 QL:∀ a b,c a b=0→a=b
theorem uI.refl {α:Type} {c:α→α→Int} (o:uI c) (a:α):c a a=0:=by have:=o.dY a a;omega
theorem KE {α:Type} (p:α→Bool) (l:List α) (mono:∀ a b (ha:a < l.length) (hb:b < l.length),a≤b→p l[b]=true→p l[a]=true):∀ n,n≤l.length→∃ i,i≤n∧(∀ t (h:t < l.length),t < i→p l[t]=true)∧(∀ t (h:t < l.length),i≤t→t < n→p l[t]=false):=by
 intro n
 induction n with
 | zero=>intro _;exact ⟨0,Nat.le_refl _,fun t _ h=>absurd h (Nat.not_lt_zero t),fun t _ _ h=>absurd h (Nat.not_lt_zero t)⟩
 | succ n ih =>
  intro hn;obtain ⟨i,hi,h1,h2⟩:=ih (by omega)
  cases hp:p (l[n]'(by omega))
  ·refine ⟨i,by omega,h1,fun t ht h3 h4=>?_⟩
   rcases Nat.lt_or_ge t n with h5 | h5
   ·exact h2 t ht h3 h5
   ·have:t=n:=by omega
    subst this;exact hp
  ·refine ⟨n+1,Nat.le_refl _,fun t ht h3=>mono t n ht (by omega) (by omega) hp,fun t ht h3 h4=>by omega⟩
theorem oW {α:Type} {c:α→α→Int} (tr:∀ a b d,c a b < 0→c b d < 0→c a d < 0) {l:List α} (h:aM c l=true) (x:α):(∀ t (h:t < l.length),t < em c l x→c l[t] x < 0)∧(∀ t (h:t < l.length),em c l x≤t→¬ c l[t] x < 0):=by
 obtain ⟨i,hi,h1,h2⟩:=KE (fun y=>decide (c y x < 0)) l (fun a b ha hb hab hx=>decide_eq_true (DD tr h x a b ha hb hab (of_decide_eq_true hx))) l.length (Nat.le_refl _)
 have hp:em c l x=i:=pY _ l i hi h1 fun t ht hit=>h2 t ht hit ht
 rw [hp];exact ⟨fun t ht hl=>of_decide_eq_true (h1 t ht hl),fun t ht hl=>of_decide_eq_false (h2 t ht hl ht)⟩
theorem GA {α:Type} {c:α→α→Int} (o:uI c) {l:List α} (h:aM c l=true) (x:α):(∀ t (h:t < l.length),t < em c l x→c l[t] x < 0)∧(∀ t (h:t < l.length),em c l x≤t→¬ c l[t] x < 0):=oW o.tr h x
theorem wu {α:Type} {c:α→α→Int} (o:uI c) {l:List α} (h:aM c l=true) (x:α):fo c l x=true↔x∈l:=by
 obtain ⟨h1,h2⟩:=GA o h x;unfold fo
 constructor
 ·intro ht
  split at ht
  ·next y hy =>
   have:=o.QL _ _ (of_decide_eq_true ht);subst this;exact List.mem_of_getElem? hy
  ·cases ht
 ·intro hx
  obtain ⟨t,ht,he⟩:=List.getElem_of_mem hx
  have h3:em c l x≤t:=by
   rcases Nat.lt_or_ge t (em c l x) with h4 | h4
   ·have:=h1 t ht h4;rw [he,o.refl] at this;omega
   ·exact h4
  have h4:em c l x=t:=by
   rcases Nat.lt_or_ge (em c l x) t with h5 | h5
   ·have:=dZ o.tr h _ t (by omega) ht h5
    rw [he] at this;exact absurd this (h2 _ (by omega) (Nat.le_refl _))
   ·omega
  rw [h4,List.getElem?_eq_getElem ht,he];exact decide_eq_true (o.refl x)
theorem GC {α:Type} {c:α→α→Int} (tr:∀ a b d,c a b < 0→c b d < 0→c a d < 0) (dY:∀ a b,c a b = - c b a) {l:List α} (hr:aM c l=true) {x:α} (hn:∀ y∈l,c y x≠0) (t:Nat) (ht:t < l.length):decide (c x l[t] < 0)=decide (em c l x≤t):=by
 obtain ⟨h1,h2⟩:=oW tr hr x
 rcases Nat.lt_or_ge t (em c l x) with h3 | h3
 ·have h4:=h1 t ht h3
  have h5:=dY x l[t];rw [decide_eq_false (by omega),decide_eq_false (by omega)]
 ·have h4:=h2 t ht h3
  have h5:=dY x l[t];have h6:=hn l[t] (List.getElem_mem ht);rw [decide_eq_true (by omega),decide_eq_true h3]
theorem GD {α:Type} {c:α→α→Int} (o:uI c) {l:List α} (hr:aM c l=true) {x:α} (h:fo c l x=false):∀ y∈l,c y x≠0:=fun y hy e=>by
 have:=o.QL _ _ e;subst this;rw [(wu o hr y).2 hy] at h;cases h
theorem iH {α:Type} {c:α→α→Int} (tr:∀ a b d,c a b < 0→c b d < 0→c a d < 0) (dY:∀ a b,c a b = - c b a) {l:List α} (hr:aM c l=true) {x:α} (hn:∀ y∈l,c y x≠0):aM c (dv l (em c l x) x)=true:=by
 have hp:=gM c l x;obtain ⟨h1,h2⟩:=oW tr hr x;have h3:=GC tr dY hr hn;generalize em c l x=p at *;rw [cR];intro k hk;unfold dv at *
 have hlen:(l.take p).length=p:=by simp;omega
 have g1:∀ t,t < p→(l.take p++[x]++l.drop p)[t]? = l[t]? := fun t ht=>by
  rw [List.getElem?_append_left (by simp;omega),List.getElem?_append_left (by omega),List.getElem?_take_of_lt ht]
 have g2:(l.take p++[x]++l.drop p)[p]? = some x:=by
  rw [List.getElem?_append_left (by simp;omega),List.getElem?_append_right (by omega),hlen];simp
 have g3:∀ t,p < t→(l.take p++[x]++l.drop p)[t]? = l[t - 1]? := fun t ht=>by
  rw [List.getElem?_append_right (by simp;omega)];simp only [List.length_append,hlen,List.length_singleton,List.getElem?_drop]
  congr 1;omega
 have hl2:(l.take p++[x]++l.drop p).length=l.length+1:=by simp;omega
 generalize hL:l.take p++[x]++l.drop p=L at *
 rcases Nat.lt_trichotomy (k+1) p with h5 | h5 | h5
 ·have e1:=g1 k (by omega)
  have e2:=g1 (k+1) h5;rw [List.getElem?_eq_getElem (by omega),List.getElem?_eq_getElem (by omega)] at e1 e2;simp only [Option.some.injEq] at e1 e2;rw [e1,e2];exact (cR c l).1 hr k (by omega)
 ·have e1:=g1 k (by omega)
  subst h5;rw [List.getElem?_eq_getElem (by omega),List.getElem?_eq_getElem (by omega)] at e1;rw [List.getElem?_eq_getElem (by omega)] at g2;simp only [Option.some.injEq] at e1 g2;rw [e1,g2];exact h1 k (by omega) (by omega)
 ·rcases Nat.lt_or_ge p k with h6 | h6
  ·have e1:=g3 k h6
   have e2:=g3 (k+1) h5;rw [List.getElem?_eq_getElem (by omega),List.getElem?_eq_getElem (by omega)] at e1 e2;simp only [Option.some.injEq] at e1 e2;rw [e1,e2];have:=(cR c l).1 hr (k - 1) (by omega)
   have jd:k - 1+1=k:=by omega
   simp only [jd] at this;exact this
  ·have:k=p:=by omega
   subst this;have e2:=g3 (k+1) h5;rw [List.getElem?_eq_getElem (by omega),List.getElem?_eq_getElem (by omega)] at e2;rw [List.getElem?_eq_getElem (by omega)] at g2;simp only [Option.some.injEq,Nat.add_sub_cancel] at e2 g2;rw [e2,g2];exact of_decide_eq_true ((h3 k (by omega)).trans (decide_eq_true (Nat.le_refl _)))
theorem vG {α:Type} {c:α→α→Int} (o:uI c) {l:List α} (hr:aM c l=true) {x:α} (h:fo c l x=false):aM c (dv l (em c l x) x)=true:=iH o.tr o.dY hr (GD o hr h)
theorem bU {α:Type} {l:List α} {p:Nat} {x y:α}:y∈dv l p x↔y=x∨y∈l:=by
 unfold dv
 conv=>rhs;rw [← List.take_append_drop p l]
 simp only [List.mem_append,List.mem_singleton]
 grind
theorem fk {α:Type} (l:List α) (p:Nat) (x:α) (h:p≤l.length):(dv l p x).length=l.length+1:=by unfold dv;simp;omega
theorem NJ (a b d:ByteArray) (h1:aT a b < 0) (h2:aT b d < 0):aT a d < 0:=iF h1 h2
theorem E1 (a b d:dP) (h1:fz a b < 0) (h2:fz b d < 0):fz a d < 0:=by
 unfold fz eO at *;by_cases e1:aT a.role b.role=0
 ·have q1:txt a.role=txt b.role:=(lT _ _).1 ((dl _ _).1 e1)
  have f1:aT a.role d.role=aT b.role d.role:=by unfold aT;unfold txt at q1;rw [q1]
  simp only [e1,beq_self_eq_true,if_true] at h1;by_cases e2:aT b.role d.role=0
  ·simp only [e2,beq_self_eq_true,if_true] at h2
   simp only [f1,e2,beq_self_eq_true,if_true];exact iF h1 h2
  ·have G9:(aT b.role d.role==0)=false:=by simpa using e2
   simp only [G9,Bool.false_eq_true,if_false] at h2;simp only [f1,G9,Bool.false_eq_true,if_false];exact h2
 ·have Iy:(aT a.role b.role==0)=false:=by simpa using e1
  simp only [Iy,Bool.false_eq_true,if_false] at h1;by_cases e2:aT b.role d.role=0
  ·have q1:txt b.role=txt d.role:=(lT _ _).1 ((dl _ _).1 e2)
   have f1:aT a.role d.role=aT a.role b.role:=by unfold aT;unfold txt at q1;rw [q1]
   simp only [f1,Iy,Bool.false_eq_true,if_false];exact h1
  ·have G9:(aT b.role d.role==0)=false:=by simpa using e2
   simp only [G9,Bool.false_eq_true,if_false] at h2;have h3:=iF h1 h2
   have Zb:(aT a.role d.role==0)=false:=by simp;omega
   simp only [Zb,Bool.false_eq_true,if_false];exact h3
theorem KG:(Tryz.prog.info? 109).map (fun i=>(i.zero,i.size,i.bytes))=some (some (.agg #[.string ByteArray.empty,.string ByteArray.empty]),2,32):=by kernel_rfl
theorem QI (g cap i m B:Nat) (xs:List Value) (w:World) (ho:w.ownsRow B 109 2 (.slice (some ⟨g,0,none⟩) (i+1+m) cap) (i+1+m) xs) (h1:∀ u∈xs,u.oneCell'=true) (hb:cap≤9223372036854775807) :
  Calls Tryz.prog 281 #[.slice (some ⟨g,0,none⟩) (i+1+m) cap,.int .i64 i,.int .i64 ((i:Int)+1)] w (Wy 109 2 w B g cap i m xs):=by
 obtain ⟨i0,kG,hz0,hz1,hz2⟩:=info_parts KG;obtain ⟨g',cap',hv',hgb,uW,hr⟩:=cB ho (by omega);simp only [Value.slice.injEq,true_and,Option.some.injEq,Addr.mk.injEq,and_true] at hv';obtain ⟨rfl,rfl⟩:=hv';have hx:=ho.1
 have zQ:∀ w:World,(zeroValue 109).run Tryz.prog w=.ok (.agg #[.string ByteArray.empty,.string ByteArray.empty]) w:=fun w=>by kernel_rfl
 obtain ⟨news,hnews⟩:∃ news,news=xs.drop ((i+1)*2):=⟨_,rfl⟩
 have hlen:news.length=m*2:=by rw [hnews,List.length_drop,hx];omega
 have Dq:∃ A:Addr,(if cap=i+1 then some (⟨g,0,none⟩:Addr) else some ⟨g,(i+1)*2,none⟩)=some A∧Hid (∀ t u,news[t]? = some u→w.drew.cell? (A.add t)=some u):=by
  by_cases h:cap=i+1
  ·refine ⟨⟨g,0,none⟩,by simp [h],gH fun t u hu=>?_⟩
   have h0:news.length=0:=by rw [hlen];omega
   rw [List.length_eq_zero_iff.1 h0] at hu;simp at hu
  ·refine ⟨⟨g,(i+1)*2,none⟩,by simp [h],gH fun t u hu=>?_⟩
   rw [hnews,List.getElem?_drop] at hu;rw [Addr.add_lit];exact hr.cell hu
 obtain ⟨A,hA,Dq⟩:=Dq;have s1:=gH hlen;have s2:=gH (show ∀ u∈news,u.oneCell'=true from fun u hu=>h1 u (by rw [hnews] at hu;exact List.mem_of_mem_drop hu))
 have s3:=gH (show ∀ t,t < news.length→(w.drew.cell? ⟨g,0+i*2+t,none⟩).isSome=true∧w.drew.frozen? ⟨g,0+i*2+t,none⟩=false from fun t ht=>by
  rw [hlen] at ht
  have hl:0+i*2+t < xs.length:=by rw [hx];omega
  exact ⟨by show (w.cell? _).isSome=true;rw [hr.2.1 _ hl,List.getElem?_eq_getElem hl];rfl,hr.2.2 _ hl⟩)
 obtain ⟨W1,hW1⟩:∃ W1,W1=w.drew.setCells g (0+i*2) news:=⟨_,rfl⟩
 have nT:W1.ownsRow B 109 2 (.slice (some ⟨g,0,none⟩) (i+1+m) cap) (i+1+m) (oQ xs (0+i*2) news):=by rw [hW1];exact dJ (g:=g) rfl news _ (cj ho (ag.refl w).drew)
 obtain ⟨_,_,pj,_,_,hr1⟩:=cB nT (by omega);simp only [Value.slice.injEq,true_and,Option.some.injEq,Addr.mk.injEq,and_true] at pj;obtain ⟨rfl,rfl⟩:=pj
 have pc:∀ ty,(Builtin.clear_ #[22] ty #[.slice (some ⟨g,(i+m)*2,none⟩) 1 (cap - (i+m))]).run Tryz.prog W1=.ok (.tuple #[]) (W1.setCells g ((i+m)*2) [.string ByteArray.empty,.string ByteArray.empty]):=fun ty=>by
  refine uL W1 _ _ ty _ Tryz.underlying22 zQ (by intro u hu;have hu:u∈([.string ByteArray.empty,.string ByteArray.empty]:List Value):=hu;simp only [List.mem_cons,List.not_mem_nil,or_false] at hu;rcases hu with rfl | rfl<;>rfl) g ((i+m)*2) (cap - (i+m)) (fun j hj=>?_) (fun j hj=>?_)
  ·have hj':j < 2:=hj
   have hl:(i+m)*2+j < (oQ xs (0+i*2) news).length:=by rw [nl,hx];omega
   rw [hr1.2.1 _ hl,List.getElem?_eq_getElem hl];rfl
  ·have hj':j < 2:=hj
   exact hr1.2.2 _ (by rw [nl,hx];omega)
 have HF:=gH (show Wy 109 2 w B g cap i m xs (.returned (.slice (some ⟨g,0,none⟩) (i+m) cap)) (W1.setCells g ((i+m)*2) [.string ByteArray.empty,.string ByteArray.empty]) from by
  refine ⟨rfl,?_,?_⟩
  ·rw [hW1,hnews,Nat.zero_add]
   exact M4 (cj ho (ag.refl w).drew) rfl
  ·rw [hW1]
   exact (Kb.bl (ag.refl w).drew).trans ((d9 g news _ _).trans (d9 g _ _ _)))
 have hW:=gH hW1
 (try simp only [Nat.mul_one] at hA)
 have hic:i≤cap:=by omega
 have hjc:i+1≤cap:=by omega
 have hne:((i:Int)==(i:Int)+1)=false:=by simp;omega
 clear hW1 nT hr1 hr ho hnews hlen h1 hx
 go_in
 have k0:(0:Int)≤(i:Int)+1:=by omega
 have k1:(i:Int)+1≤(i:Int)+1+(m:Int):=by omega
 go_wp2_with fail
 go_region_law (refine step_append_room rfl (.tmp 22) (.tmp 25) 22 rfl 109 i0 2 Tryz.underlying22 kG hz1 g 0 i cap (by simp [Act.eval,Act.put]) A m (cap - (i+1)) news (by simp [Act.eval,Act.put]) s1.out Dq.out s2.out (by omega) s3.out ?_;rw [← hW.out])
 have aas:∀ ty,(Builtin.clear_ #[22] ty #[.slice (some ⟨g,(i+m)*2,none⟩) (i+1+m - (i+m)) (cap - (i+m))]).run Tryz.prog W1=.ok (.tuple #[]) (W1.setCells g ((i+m)*2) [.string ByteArray.empty,.string ByteArray.empty]):=fun ty=>by
  have e1:i+1+m - (i+m)=1:=by omega
  rw [e1];exact pc ty
 (try simp only [Nat.mul_one] at aas)
 have hcm:¬ cap=i+m:=by omega
 have k3:(i:Int)+(m:Int)≤(i:Int)+1+(m:Int):=by omega
 have k4:(0:Int)≤(i:Int)+(m:Int):=by omega
 have k5:(i:Int)+1+(m:Int)≤(cap:Int):=by omega
 go_wp2;go_ret
 first | exact HF.out | (have h9:=HF.out;simp only [Nat.mul_one] at h9;exact h9)
def zn (name:ByteArray) (r:fV):fV × Int:=if fo aT r.names name then (if r.members.any (zH name) then (r,73) else ({ r with names:=r.names.eraseIdx (em aT r.names name) },0)) else (r,71)
def tC (x:dP) (r:fV):fV × Int:=if fo fz r.members x then ({ r with members:=r.members.eraseIdx (em fz r.members x) },0) else (r,71)
def Jq (name:ByteArray) (r:fV):fV × Int:=if bA name then (if fo aT r.names name then (r,70) else (if 16≤r.names.length then (r,2) else ({ r with names:=dv r.names (em aT r.names name) name },0))) else (r,1)
noncomputable def zo (x:dP) (r:fV):fV × Int:=if cL r.names x.role&&cL r.names x.of then (if fo fz r.members x then (r,70) else (if bM r.members x.of x.role then (r,72) else ({ r with members:=dv r.members (em fz r.members x) x },0))) else (r,71)
theorem pI {α:Type} {p:α→Bool} {l:List α} {k:Nat} (hk:k < l.length):(l.take (k+1)).filter p=(l.take k).filter p++(if p l[k] then [l[k]] else []):=by
 rw [List.take_succ_eq_append_getElem hk,List.filter_append]
 congr 1
 cases h:p l[k]<;>simp [h]
def Shut (ms:List dP) (S:List ByteArray) (k:Nat):Prop:=∀ j,j < k→∀ (h:j < ms.length),cL S ms[j].role=true→cL S ms[j].of=true
structure NK (w W0 wr:World) (ms:List dP) (role:ByteArray) (h:Hd) (S:List ByteArray):Prop where
 aH:ag W0 wr
 own:wr.ownsRow (w.heap.size+1) 9 1 h.v S.length (S.flatMap bT)
 BG:Kz ms role S
 sm:∀ x∈S,Small x.size
theorem NK.sl {w W0 wr:World} {ms:List dP} {role:ByteArray} {h:Hd} {S:List ByteArray} (s:NK w W0 wr ms role h S) (hm:ms.length*16≤140737488351000):aA wr 1 dg h.a h.c S :=
 dC bT s.own (fun x hx=>⟨rfl,rfl,s.sm x hx⟩) (by have:=s.BG.len;unfold Small;omega)
theorem NK.to {w W0 wr wr':World} {ms:List dP} {role:ByteArray} {h:Hd} {S:List ByteArray} (s:NK w W0 wr ms role h S) (a:ag wr wr'):NK w W0 wr' ms role h S:=⟨s.aH.trans a,cj s.own a,s.BG,s.sm⟩
def oH (w:World) (r:fV) (role:ByteArray) (e:Ending) (w':World):Prop :=
 ∃ h:Hd,e=.returned h.v∧ag w w'∧w'.ownsRow w.heap.size 9 1 h.v (r.names.filter (bM r.members role)).length ((r.names.filter (bM r.members role)).flatMap bT)
theorem BJ (r:fV) (An:Option Addr) (aC:Nat) (Am:Option Addr) (aJ:Nat) (role:ByteArray) (w:World) (hn:aA w 1 dg An aC r.names) (hm:aA w 2 fw Am aJ r.members) (my:Small role.size) (sP:r.members.length*16≤140737488351000) :
  Calls Tryz.prog 227 #[.agg #[.slice An r.names.length aC,.slice Am r.members.length aJ],.string role] w (oH w r role):=by
 have hlen:=hn.len
 have l1:w.heap.size < w.heap.size+1:=by omega
 have l2:w.heap.size < w.heap.size+1+1:=by omega
 obtain ⟨W0,hW0⟩:∃ W0,W0=w.alloc (.cells #[.slice An r.names.length aC,.slice Am r.members.length aJ] 29):=⟨_,rfl⟩;have HW0:=gH hW0
 have zW0:W0.heap.size=w.heap.size+1:=by rw [hW0];simp
 have fO:=gH (show ∀ w',ag W0 w'→(w'.cell? ⟨w.heap.size,0,none⟩=some (.slice An r.names.length aC)∧w'.cell? ⟨w.heap.size,1,none⟩=some (.slice Am r.members.length aJ)∧w.heap.size < w'.heap.size) from fun w' a=>by
  rw [hW0] at a;obtain ⟨hb,_,hz,_,_⟩:=cz a
  exact ⟨by rw [hb];rfl,by rw [hb];rfl,hz.1⟩)
 have Gj:=gH (show NK w W0 (W0.alloc (.cells #[.string role] 9)) r.members role ⟨some ⟨w.heap.size+1,0,none⟩,1,1⟩ [role] from
  ⟨(ag.refl _).alloc _,⟨by simp [bT],.inr ⟨W0.heap.size,1,#[.string role],by rw [zW0];rfl,by omega,heap_alloc_new W0 _,Nat.le_refl _,by unfold maxLen;omega,rfl,by simp [bT]⟩⟩,Kz.start _ _,fun x hx=>by simp at hx;subst hx;exact my⟩)
 have FJ:=gH (And.intro hn hm);have bQ:=gH (show ag w W0 by rw [hW0];exact (ag.refl w).alloc _);rw [hW0] at Gj;clear hn hm hW0
 go_in
 go_wp2_with fail
 go_loopw [5,6] (fun u5 u6 wr=>∃ (n:Nat) (h:Hd) (S:List ByteArray),u5=.slice h.a S.length h.c∧u6=.int .i64 n∧n≤S.length∧NK w W0 wr r.members role h S∧(n=S.length→Shut r.members S r.members.length)) (fun _ u6 _=>r.members.length+2 - (intOf u6).toNat)
 case atStart=>exact ⟨0,⟨some ⟨w.heap.size+1,0,none⟩,1,1⟩,[role],rfl,rfl,by simp,by rw [HW0.out];exact Gj.out,fun h=>by simp at h⟩
 case round =>
  clear Gj;obtain ⟨n,h,S,rfl,rfl,hnS,hs,hsh⟩:=hrel;have HS:=gH hs;have HSH:=gH hsh;have hSl:=hs.BG.len;clear hs hsh;by_cases hlt:n < S.length
  ·go_wp2_with fail
   go_loopw [5,7] (fun u5 u7 wr=>∃ (k:Nat) (h:Hd) (S':List ByteArray),u5=.slice h.a S'.length h.c∧u7=.int .i64 k∧k≤r.members.length∧S.length≤S'.length∧NK w W0 wr r.members role h S'∧(S.length=S'.length→Shut r.members S' k)) (fun _ u7 _=>r.members.length - (intOf u7).toNat)
   case atStart=>exact ⟨0,h,S,rfl,rfl,Nat.zero_le _,Nat.le_refl _,HS.out,fun _ j hj=>absurd hj (Nat.not_lt_zero j)⟩
   case round =>
    obtain ⟨k,h',S',rfl,rfl,hk,hSS,hs',Xd⟩:=hrel;have KH:=gH hs';have Sj:=gH Xd;obtain ⟨e0,e1,e2⟩:=fO.out wr hs'.aH;have aaX:=hs'.BG.len;clear hs' Xd;by_cases fd:k < r.members.length
    ·obtain ⟨b,off,rfl,hb,t0,t1,hs1,hs2⟩:=jf (cu (bQ.out.trans KH.out.aH) FJ.out.2) fd
     obtain ⟨m,O0⟩:∃ m,r.members[k]=m:=⟨_,rfl⟩;rw [O0] at t0 t1 hs1 hs2;have Vo:=gH O0
     have aaJ:S'.length*16≤140737488351232:=by omega
     have aX:ag wr (wr.alloc (.cells #[.string m.role,.string m.of] 174)):=(ag.refl _).alloc _;obtain ⟨i1,kj⟩:∃ i,cL S' m.role=i:=⟨_,rfl⟩;obtain ⟨i2,kQ⟩:∃ i,cL S' m.of=i:=⟨_,rfl⟩;have K1:=gH (show ∀ w',ag wr w'→Calls Tryz.prog 144 #[.slice h'.a S'.length h'.c,.string m.role] w' fun e w''=>e=.returned (.bool i1)∧w'=w'' from fun w' a=>kj▸gi h'.a h'.c S' m.role w' (aO a (KH.out.sl sP)));have K2:=gH (show ∀ w',ag wr w'→Calls Tryz.prog 144 #[.slice h'.a S'.length h'.c,.string m.of] w' fun e w''=>e=.returned (.bool i2)∧w'=w'' from fun w' a=>kQ▸gi h'.a h'.c S' m.of w' (aO a (KH.out.sl sP)));have HI:=gH (And.intro kj kQ);clear O0 kj kQ
     cases i1
     ·go_wp2_with (go_at_call 144;refine (K1.out _ aX).mono ?_;rintro e w4 ⟨rfl,rfl⟩)
      go_roundw
      case rel =>
       refine ⟨k+1,h',S',rfl,by go_num,by omega,hSS,KH.out.to aX,fun e j hj mv=>?_⟩
       rcases Nat.lt_or_ge j k with h1 | h1
       ·exact Sj.out e j h1 mv
       ·have:j=k:=by omega
        subst this;rw [Vo.out,HI.out.1]
        exact fun h=>Bool.noConfusion h
      case measure=>simp [intOf];omega
     cases i2
     ·have aat:=gH (show m∈r.members by rw [← Vo.out];exact List.getElem_mem fd)
      have HV:=gH (bY KH.out.own);have HOW:=gH (show (wr.alloc (.cells #[.string m.role,.string m.of] 174)).ownsRow (w.heap.size+1) 9 1 (.slice h'.a S'.length h'.c) S'.length (S'.flatMap bT) by rw [← HV.out];exact cj KH.out.own aX);obtain ⟨i0,kG,hz0,hz1,hz2⟩:=info_parts qA;have VE:=gH kG;have HZ:=gH (And.intro hz0 (And.intro hz1 hz2))
      have Q2:S'.length+1≤maxLen:=by unfold maxLen;omega
      have AZ:(S'.length+1)*16≤140737488355328:=by omega
      clear kG hz0 hz1 hz2
      go_wp2_with (first
       | (go_at_call 144;first | (with_reducible refine (K1.out _ aX).mono ?_;rintro e w4 ⟨rfl,rfl⟩) | (with_reducible refine (K2.out _ aX).mono ?_;rintro e w4 ⟨rfl,rfl⟩))
       | (at_builtin;go_must (refine wpList_append_lies _ rfl _ _ 26 rfl (w.heap.size+1) 9 i0 _ 1 16 Tryz.underlying26 VE.out HZ.out.1 HZ.out.2.1 HZ.out.2.2 rfl (by decide) (.slice h'.a S'.length h'.c) S'.length (S'.flatMap bT) rfl (HOW.out.alloc _) ⟨wr.heap.size+1,0,none⟩ 1 1 [.string m.of] rfl rfl ?qn (by simp [Value.oneCell']) (by omega) Q2 AZ ?qb (wr.heap.size+1+1) (by simp) ?_);rotate_left 2;intro gg cap' w5 ic hgrow hat yZ))
      case qn=>exact World.news_of_block (cs:=#[.string m.of]) (t:=9) (fr:=(0,0)) (by have:=heap_alloc_new (wr.alloc (.cells #[.string m.role,.string m.of] 174)) (.cells #[.string m.of] 9);simpa using this)
      case qb=>simp;omega
      have X9:=gH (show NK w W0 w5 r.members role ⟨some ⟨gg,0,none⟩,S'.length+1,cap'⟩ (S'++[m.of]) from by
       have o5:(wr.alloc (.cells #[.string m.role,.string m.of] 174)).ownsRow W0.heap.size 9 1 (.slice h'.a S'.length h'.c) S'.length (S'.flatMap bT):=by rw [zW0];exact HOW.out
       refine ⟨nB (o5.alloc _) ((KH.out.aH.trans aX).alloc _) hgrow,?_,KH.out.BG.add aat.out HI.out.1 HI.out.2,fun x hx=>?_⟩
       ·rw [List.length_append,List.flatMap_append];exact ic
       ·rcases List.mem_append.1 hx with h1 | h1
        ·exact KH.out.sm x h1
        ·rw [List.mem_singleton] at h1;rw [h1];exact hs2)
      clear ic hgrow hat yZ;go_wp2
      go_roundw
      case rel =>
       refine ⟨k+1,⟨some ⟨gg,0,none⟩,S'.length+1,cap'⟩,S'++[m.of],by simp,by go_num,by omega,by simp;omega,X9.out,fun e=>by simp at e;omega⟩
      case measure=>simp [intOf];omega
     ·go_wp2_with (go_at_call 144;first | (with_reducible refine (K1.out _ aX).mono ?_;rintro e w4 ⟨rfl,rfl⟩) | (with_reducible refine (K2.out _ aX).mono ?_;rintro e w4 ⟨rfl,rfl⟩))
      go_roundw
      case rel =>
       refine ⟨k+1,h',S',rfl,by go_num,by omega,hSS,KH.out.to aX,fun e j hj mv=>?_⟩
       rcases Nat.lt_or_ge j k with h1 | h1
       ·exact Sj.out e j h1 mv
       ·have:j=k:=by omega
        subst this;rw [Vo.out,HI.out.2]
        exact fun _=>rfl
      case measure=>simp [intOf];omega
    ·go_wp2
     go_roundw
     case rel =>
      have nV:k=r.members.length:=by omega
      exact ⟨S.length,h',S',rfl,rfl,hSS,KH.out,fun e=>nV▸Sj.out e⟩
     case measure=>simp [intOf];omega
  ·have Vu:n=S.length:=by omega
   have yF:=gH (HS.out.BG.all fun m hm=>by
    obtain ⟨j,hj,rfl⟩:=List.getElem_of_mem hm
    exact HSH.out Vu j hj hj)
   subst Vu;obtain ⟨q,hq⟩:∃ q:ByteArray→Bool,q=bM r.members role:=⟨_,rfl⟩;have HQ:=gH hq;clear hq;obtain ⟨Wf,rfl⟩:∃ Wf,Wf=wr:=⟨_,rfl⟩;go_wp2_with fail
   go_loopw [9,10] (fun u9 u10 wr=>∃ (k:Nat) (g:Hd),u9=.slice g.a ((r.names.take k).filter q).length g.c∧u10=.int .i64 k∧k≤r.names.length∧ag Wf wr∧wr.ownsRow Wf.heap.size 9 1 g.v ((r.names.take k).filter q).length (((r.names.take k).filter q).flatMap bT)) (fun _ u10 _=>r.names.length - (intOf u10).toNat)
   case atStart=>exact ⟨0,⟨none,0,0⟩,rfl,rfl,Nat.zero_le _,ag.refl _,cO _ _ _ _⟩
   case round =>
    obtain ⟨k,g,rfl,rfl,hk,ha,hown⟩:=hrel;have HA:=gH ha;have pR:=gH hown;obtain ⟨e0,e1,e2⟩:=fO.out wr (HS.out.aH.trans ha);obtain ⟨DF,KI⟩:∃ DF,((r.names.take k).filter q)=DF:=⟨_,rfl⟩;rw [KI] at pR
    have aaY:DF.length≤r.names.length:=by rw [← KI];exact Nat.le_trans (List.length_filter_le _ _) (by rw [List.length_take];omega)
    rw [KI];have HLK:=gH KI;clear KI hown ha;by_cases fd:k < r.names.length
    ·obtain ⟨b,off,rfl,hb,c0,hs⟩:=er (aO (bQ.out.trans (HS.out.aH.trans HA.out)) FJ.out.1) fd
     obtain ⟨x,hx⟩:∃ x,r.names[k]=x:=⟨_,rfl⟩;rw [hx] at c0 hs;obtain ⟨i,hi⟩:∃ i,cL S x=i:=⟨_,rfl⟩;have Yp:=gH (show ((r.names.take (k+1)).filter q)=DF++(if i then [x] else []) by rw [pI fd,HLK.out,hx,HQ.out,← yF.out,hi]);have K:=gH (show ∀ w',ag wr w'→Calls Tryz.prog 144 #[.slice h.a S.length h.c,.string x] w' fun e w''=>e=.returned (.bool i)∧w'=w'' from fun w' a=>hi▸gi h.a h.c S x w' (aO (HA.out.trans a) (HS.out.sl sP)));clear hx hi
     cases i
     ·go_wp2_with (go_at_call 144;refine (K.out _ (ag.refl _)).mono ?_;rintro e w4 ⟨rfl,rfl⟩)
      go_roundw
      case rel =>
       refine ⟨k+1,g,?_,by go_num,by omega,HA.out,?_⟩
       ·rw [Yp.out];simp
       ·rw [Yp.out];simpa using pR.out
      case measure=>simp [intOf];omega
     ·have HV:=gH (bY pR.out)
      have HOW:=gH (show wr.ownsRow Wf.heap.size 9 1 (.slice g.a DF.length g.c) DF.length (DF.flatMap bT) by rw [← HV.out];exact pR.out);obtain ⟨i0,kG,hz0,hz1,hz2⟩:=info_parts qA;have VE:=gH kG;have HZ:=gH (And.intro hz0 (And.intro hz1 hz2))
      have Q2:DF.length+1≤maxLen:=by unfold maxLen;omega
      have AZ:(DF.length+1)*16≤140737488355328:=by omega
      have l6:b < wr.heap.size+1:=by omega
      clear kG hz0 hz1 hz2
      go_wp2_with (first
       | (go_at_call 144;refine (K.out _ (ag.refl _)).mono ?_;rintro e w4 ⟨rfl,rfl⟩)
       | (at_builtin;go_must (refine wpList_append_lies _ rfl _ _ 26 rfl Wf.heap.size 9 i0 _ 1 16 Tryz.underlying26 VE.out HZ.out.1 HZ.out.2.1 HZ.out.2.2 rfl (by decide) (.slice g.a DF.length g.c) DF.length (DF.flatMap bT) rfl (HOW.out.alloc _) ⟨wr.heap.size,0,none⟩ 1 1 [.string x] rfl rfl ?qn (by simp [Value.oneCell']) (by omega) Q2 AZ ?qb (wr.heap.size+1) (by simp) ?_);rotate_left 2;intro gg cap' w5 ic hgrow hat yZ))
      case qn=>exact World.news_of_block (cs:=#[.string x]) (t:=9) (fr:=(0,0)) (heap_alloc_new wr _)
      case qb=>have:=HA.out.size;simp;omega
      have M0:=gH (show ag Wf w5 from nB (HOW.out.alloc _) (HA.out.alloc _) hgrow);have Y2:=gH ic;clear ic hgrow hat yZ;go_wp2
      go_roundw
      case rel =>
       refine ⟨k+1,⟨some ⟨gg,0,none⟩,DF.length+1,cap'⟩,?_,by go_num,by omega,M0.out,?_⟩
       ·rw [Yp.out];simp
       ·rw [Yp.out]
        simp only [if_true,List.length_append,List.length_singleton,List.flatMap_append];exact Y2.out
      case measure=>simp [intOf];omega
    ·have HP:=gH (show oH w r role (.returned (.slice g.a DF.length g.c)) wr from by
      have hl:DF=r.names.filter (bM r.members role):=by rw [← HLK.out,List.take_of_length_le (by omega),HQ.out]
      refine ⟨g,by rw [bY pR.out],bQ.out.trans (HS.out.aH.trans HA.out),?_⟩;rw [← hl]
      exact bS pR.out (by have:=(bQ.out.trans HS.out.aH).size;omega))
     go_wp2;go_ret;exact HP.out
def BI (r:fV) (m:dP):Bool:=cL r.names m.role&&cL r.names m.of
def iA (r:fV):Bool:=r.names.all bA&&aM aT r.names&&(r.members.all (BI r)&&aM fz r.members)
theorem mX (r:fV):bG r=(decide (r.names.length≤16)&&decide (r.members.length≤256)&&(iA r&&r.members.all fun m=>!bM r.members m.of m.role)):=by
 have e:r.members.all (jX r)=(r.members.all (BI r)&&r.members.all fun m=>!bM r.members m.of m.role):=by
  rw [Bool.eq_iff_iff];simp only [Bool.and_eq_true,List.all_eq_true]
  constructor
  ·intro h
   refine ⟨fun m hm=>?_,fun m hm=>?_⟩
   ·have:=h m hm;unfold jX at this;unfold BI;simp only [Bool.and_eq_true] at this ⊢;exact this.1
   ·have:=h m hm;unfold jX at this;simp only [Bool.and_eq_true] at this;exact this.2
  ·intro h m hm
   have h1:=h.1 m hm;have h2:=h.2 m hm;unfold BI at h1;unfold jX;simp only [Bool.and_eq_true] at h1 ⊢;exact ⟨h1,h2⟩
 unfold bG iA;rw [e];generalize decide (r.names.length≤16)=a;generalize decide (r.members.length≤256)=b;generalize aM aT r.names=c;generalize aM fz r.members=d;generalize r.names.all bA=x;generalize r.members.all (BI r)=y;generalize (r.members.all fun m=>!bM r.members m.of m.role)=z
 revert a b c d x y z
 decide
theorem ww {ms:List dP} {s a b:ByteArray} (h:aS a b=true):bM ms s a=bM ms s b:=by
 unfold bM;rw [(lT a b).1 h]
theorem sU (ms:List dP) (s t:ByteArray) (l:List ByteArray):cL (l.filter (bM ms s)) t=(bM ms s t&&cL l t):=by
 unfold cL
 induction l with
 | nil=>simp
 | cons x l ih =>
  rw [List.filter_cons,List.any_cons]
  cases h:aS x t
  ·cases h2:bM ms s x
   ·simp [ih]
   ·simp [ih,h]
  ·cases h2:bM ms s x
   ·rw [ww h] at h2
    rw [if_neg (by simp),ih,h2];simp
   ·have h3:=h2
    rw [ww h] at h3;rw [if_pos (by simp),List.any_cons,h,h3];simp
theorem DG (r:fV) (k:Nat) (hk:k < r.names.length) (h:bA r.names[k]=false):iA r=false:=by
 unfold iA;rw [all_false _ _ k hk h];rfl
theorem Ay (r:fV) (k:Nat) (hk:k < r.names.length) (h0:0 < k) (h:nJ (r.names[k - 1]'(by omega)) r.names[k]=false):iA r=false:=by
 have h1:k - 1+1 < r.names.length:=by omega
 have e:(r.names[k - 1+1]'h1)=r.names[k]:=by congr 1;omega
 unfold iA;rw [eu aT _ (k - 1) h1]
 ·simp
 ·rw [e]
  rw [← io] at h;have:=of_decide_eq_false h;omega
theorem Az (r:fV) (k:Nat) (hk:k < r.members.length) (h:BI r r.members[k]=false):iA r=false:=by
 unfold iA;rw [all_false _ _ k hk h];simp
theorem rx (r:fV) (k:Nat) (hk:k < r.members.length) (h0:0 < k) (h:¬ fz (r.members[k - 1]'(by omega)) r.members[k] < 0):iA r=false:=by
 have h1:k - 1+1 < r.members.length:=by omega
 have e:(r.members[k - 1+1]'h1)=r.members[k]:=by congr 1;omega
 unfold iA;rw [eu fz _ (k - 1) h1]
 ·simp
 ·rw [e];omega
theorem ry {α:Type} (c:α→α→Int) (l:List α) (h:∀ k,1≤k→∀ (hk:k < l.length),c (l[k - 1]'(by omega)) l[k] < 0):aM c l=true :=
 (cR c l).2 fun k hk=>h (k+1) (by omega) hk
theorem Qi (r:fV) (An:Option Addr) (aC:Nat) (Am:Option Addr) (aJ:Nat) (w:World) (hn:aA w 1 dg An aC r.names) (hm:aA w 2 fw Am aJ r.members) :
  Calls Tryz.prog 226 #[.agg #[.slice An r.names.length aC,.slice Am r.members.length aJ]] w fun e w'=>e=.returned (.bool (iA r))∧ag w w':=by
 have hlen:=hn.len;have fq:=hm.len;have HN:=gH hn;have HM:=gH hm;clear hn hm
 go_in
 go_wp2_with fail
 go_loopw [3] (fun i wr=>∃ k:Nat,k≤r.names.length∧i=.int .i64 k∧ag (w.alloc (.cells #[.slice An r.names.length aC,.slice Am r.members.length aJ] 29)) wr∧∀ j,j < k→∀ (hj:j < r.names.length),bA r.names[j]=true∧(0 < j→nJ (r.names[j - 1]'(by omega)) r.names[j]=true)) (fun i _=>r.names.length - (intOf i).toNat)
 case atStart=>exact ⟨0,Nat.zero_le _,rfl,ag.refl _,fun j hj=>absurd hj (Nat.not_lt_zero j)⟩
 case round =>
  obtain ⟨k,hk,rfl,ha,hp⟩:=hrel;have HP:=gH hp;clear hp;obtain ⟨fH,ly,hz,mr,HA⟩:=cz ha;have gj:=gH ha;clear ha;by_cases hlt:k < r.names.length
  ·obtain ⟨b,off,rfl,hb,c0,hs⟩:=er (aO HA.out HN.out) hlt
   obtain ⟨x,hx⟩:∃ x,r.names[k]=x:=⟨_,rfl⟩;rw [hx] at c0 hs;have HX:=gH hx;obtain ⟨q,hq⟩:∃ q,bA x=q:=⟨_,rfl⟩;have HQ:=gH (show bA r.names[k]=q by rw [hx];exact hq);have CN:=gH (show ∀ y:gX wr,Calls Tryz.prog 316 #[.string x] (bt wr y) fun e w''=>e=.returned (.bool q)∧bt wr y=w'' from fun y=>hq▸cY x (bt wr y) hs.max);clear hx hq
   cases q
   ·have HF:=gH (DG r k hlt HQ.out)
    go_wp2_with fail;refine aj (by kernel_rfl) (by kernel_rfl) ?_
    repeat (go_big_quiet_step ((go_at_call 316;exact Calls.aK (CN.out _))))
    refine wpQuiet_nil ?_;intro _ hw';obtain ⟨y,hw''⟩:=hw';subst hw'';go_wp2;go_ret;exact ⟨by rw [HF.out];rfl,HA.out.bt y⟩
   by_cases h0:0 < k
   ·have jd:k - 1 < r.names.length:=by omega
    obtain ⟨b',off',hA',hb',e0,_⟩:=er (aO HA.out HN.out) jd;simp only [Option.some.injEq,Addr.mk.injEq,and_true] at hA';obtain ⟨rfl,rfl⟩:=hA';obtain ⟨x',Mm⟩:∃ x',(r.names[k - 1]'jd)=x':=⟨_,rfl⟩;rw [Mm] at e0;have HX':=gH Mm;have w1:IntKind.i64.wrap ((k:Int) - 1)=(k:Int) - 1:=IntWalk.i64_in _ (by omega)
    have w2:(0:Int)≤(k:Int) - 1:=by omega
    have w3:((k:Int) - 1).toNat=k - 1:=by omega
    have w4:(k:Int) - 1 < (r.names.length:Int):=by omega
    have w5:decide ((0:Int) < (k:Int))=true:=decide_eq_true (by omega);clear Mm
    cases hL:nJ x' x
    ·have DJ:Op.bytesLess x'.toList x.toList=false:=hL
     have HF:=gH (Ay r k hlt h0 (by rw [HX.out,HX'.out];exact hL));clear hL;go_wp2_with fail;refine aj (by kernel_rfl) (by kernel_rfl) ?_
     repeat (go_big_quiet_step ((go_at_call 316;exact Calls.aK (CN.out _))))
     refine wpQuiet_nil ?_;intro _ hw';obtain ⟨y,hw''⟩:=hw';subst hw'';go_wp2;go_ret;exact ⟨by rw [HF.out];rfl,HA.out.bt y⟩
    ·have DJ:Op.bytesLess x'.toList x.toList=true:=hL
     have IR:=gH (bC (p:=fun j=>∀ (hj:j < r.names.length),bA r.names[j]=true∧(0 < j→nJ (r.names[j - 1]'(by omega)) r.names[j]=true)) HP.out (fun _=>⟨HQ.out,fun _=>by rw [HX.out,HX'.out];exact hL⟩));clear hL;go_wp2_with fail;refine aj (by kernel_rfl) (by kernel_rfl) ?_
     repeat (go_big_quiet_step ((go_at_call 316;exact Calls.aK (CN.out _))))
     refine wpQuiet_nil ?_;intro _ hw';obtain ⟨y,hw''⟩:=hw';subst hw'';go_wp2
     go_roundw
     case rel=>exact ⟨k+1,by omega,by go_num,gj.out.bt y,IR.out⟩
     case measure=>simp [intOf];omega
   ·have w5:decide ((0:Int) < (k:Int))=false:=decide_eq_false (by omega)
    have IR:=gH (bC (p:=fun j=>∀ (hj:j < r.names.length),bA r.names[j]=true∧(0 < j→nJ (r.names[j - 1]'(by omega)) r.names[j]=true)) HP.out (fun _=>⟨HQ.out,fun h=>absurd h h0⟩));go_wp2_with fail;refine aj (by kernel_rfl) (by kernel_rfl) ?_
    repeat (go_big_quiet_step ((go_at_call 316;exact Calls.aK (CN.out _))))
    refine wpQuiet_nil ?_;intro _ hw';obtain ⟨y,hw''⟩:=hw';subst hw'';go_wp2
    go_roundw
    case rel=>exact ⟨k+1,by omega,by go_num,gj.out.bt y,IR.out⟩
    case measure=>simp [intOf];omega
  have HR:=gH (show iA r=(r.members.all (BI r)&&aM fz r.members) by
   unfold iA;rw [all_true _ _ fun j hj=>(HP.out j (by omega) hj).1,ry aT _ fun j TJ hj=>(nz _ _).2 ((HP.out j (by omega) hj).2 (by omega))]
   rfl)
  clear HP;go_wp2_with fail
  go_loopw [4] (fun i wr=>∃ k:Nat,k≤r.members.length∧i=.int .i64 k∧ag (w.alloc (.cells #[.slice An r.names.length aC,.slice Am r.members.length aJ] 29)) wr∧∀ j,j < k→∀ (hj:j < r.members.length),BI r r.members[j]=true∧(0 < j→fz (r.members[j - 1]'(by omega)) r.members[j] < 0)) (fun i _=>r.members.length - (intOf i).toNat)
  case atStart=>exact ⟨0,Nat.zero_le _,rfl,gj.out,fun j hj=>absurd hj (Nat.not_lt_zero j)⟩
  case round =>
   clear fH ly hz mr HA gj;obtain ⟨k2,hk2,rfl,ha,hp⟩:=hrel;have HP:=gH hp;clear hp;obtain ⟨fH,ly,hz,mr,HA⟩:=cz ha;have gj:=gH ha;clear ha;by_cases fd:k2 < r.members.length
   ·obtain ⟨b,off,rfl,hb,c0,c1,hs1,hs2⟩:=jf (cu HA.out HM.out) fd
    obtain ⟨p,gf⟩:∃ p,r.members[k2]=p:=⟨_,rfl⟩;rw [gf] at c0 c1 hs1 hs2;have sM:=gH gf;obtain ⟨i1,kj⟩:∃ i,cL r.names p.role=i:=⟨_,rfl⟩;obtain ⟨i2,kQ⟩:∃ i,cL r.names p.of=i:=⟨_,rfl⟩;have aX:ag w (wr.alloc (.cells #[.string p.role,.string p.of] 174)):=HA.out.alloc _;have K1:=gH (show Calls Tryz.prog 144 #[.slice An r.names.length aC,.string p.role] (wr.alloc (.cells #[.string p.role,.string p.of] 174)) fun e w''=>e=.returned (.bool i1)∧_=w'' from (gi An aC r.names p.role _ (aO aX HN.out)).mono fun e w'' ⟨he,hw⟩=>⟨by rw [he,← kj];rfl,hw⟩);have K2:=gH (show Calls Tryz.prog 144 #[.slice An r.names.length aC,.string p.of] (wr.alloc (.cells #[.string p.role,.string p.of] 174)) fun e w''=>e=.returned (.bool i2)∧_=w'' from (gi An aC r.names p.of _ (aO aX HN.out)).mono fun e w'' ⟨he,hw⟩=>⟨by rw [he,← kQ];rfl,hw⟩);have HI:=gH (show BI r r.members[k2]=(i1&&i2) by rw [gf];unfold BI;rw [kj,kQ]);have lx:=gH aX;clear gf kj kQ aX
    cases i1
    ·have HF:=gH (Az r k2 fd (by rw [HI.out];rfl))
     go_wp2_with (go_at_call 144;refine K1.out.mono ?_;rintro e w4 ⟨rfl,rfl⟩)
     go_ret;exact ⟨by rw [HF.out];rfl,lx.out⟩
    cases i2
    ·have HF:=gH (Az r k2 fd (by rw [HI.out];rfl))
     go_wp2_with (go_at_call 144;first | (with_reducible refine K1.out.mono ?_;rintro e w4 ⟨rfl,rfl⟩) | (with_reducible refine K2.out.mono ?_;rintro e w4 ⟨rfl,rfl⟩))
     go_ret;exact ⟨by rw [HF.out];rfl,lx.out⟩
    have l5:b < wr.heap.size+1:=by omega
    by_cases h0:0 < k2
    ·have jd:k2 - 1 < r.members.length:=by omega
     obtain ⟨b',off',hA',hb',e0,e1,_,_⟩:=jf (cu HA.out HM.out) jd;simp only [Option.some.injEq,Addr.mk.injEq,and_true] at hA';obtain ⟨rfl,rfl⟩:=hA';obtain ⟨p',js⟩:∃ p',(r.members[k2 - 1]'jd)=p':=⟨_,rfl⟩;rw [js] at e0 e1;have HO:=gH (show fz (r.members[k2 - 1]'jd) r.members[k2]=eO (aT p'.role p.role) (aT p'.of p.of) by rw [sM.out,js];rfl);have NM:=gH (Kw p'.role p.role p'.of p.of);clear js;have w1:IntKind.i64.wrap ((k2:Int) - 1)=(k2:Int) - 1:=IntWalk.i64_in _ (by omega)
     have w2:(0:Int)≤(k2:Int) - 1:=by omega
     have w3:((k2:Int) - 1).toNat=k2 - 1:=by omega
     have w4:(k2:Int) - 1 < (r.members.length:Int):=by omega
     have w5:decide ((0:Int) < (k2:Int))=true:=decide_eq_true (by omega)
     cases hG:(!(nJ p'.role p.role || aS p'.role p.role))
     ·have Sk:(Op.bytesLess p'.role.toList p.role.toList || p'.role.toList==p.role.toList)=true:=by have h1:=hG;rw [Bool.not_eq_false'] at h1;exact h1
      cases hE:aS p'.role p.role
      ·have Xe:(p'.role.toList==p.role.toList)=false:=hE
       have hG2:Op.bytesLess p'.role.toList p.role.toList=true:=by rw [Xe] at Sk;simpa using Sk
       have IR:=gH (bC (p:=fun j=>∀ (hj:j < r.members.length),BI r r.members[j]=true∧(0 < j→fz (r.members[j - 1]'(by omega)) r.members[j] < 0)) HP.out (fun _=>⟨by rw [HI.out];rfl,fun _=>by rw [HO.out];exact of_decide_eq_true (by rw [NM.out,hG,hE];rfl)⟩));clear hG hE
       go_wp2_with (go_at_call 144;first | (with_reducible refine K1.out.mono ?_;rintro e w4 ⟨rfl,rfl⟩) | (with_reducible refine K2.out.mono ?_;rintro e w4 ⟨rfl,rfl⟩))
       refine aj (by kernel_rfl) (by kernel_rfl) ?_
       repeat (go_big_quiet_step (fail))
       refine wpQuiet_nil ?_;intro _ hw';obtain ⟨y,hw''⟩:=hw';subst hw'';go_wp2
       go_roundw
       case rel=>exact ⟨k2+1,by omega,by go_num,(gj.out.alloc _).bt y,IR.out⟩
       case measure=>simp [intOf];omega
      ·have Xe:(p'.role.toList==p.role.toList)=true:=hE
       cases hL:nJ p'.of p.of
       ·have DJ:Op.bytesLess p'.of.toList p.of.toList=false:=hL
        have HF:=gH (rx r k2 fd h0 (by rw [HO.out];exact of_decide_eq_false (by rw [NM.out,hG,hE,hL];rfl)));clear hG hE hL
        go_wp2_with (go_at_call 144;first | (with_reducible refine K1.out.mono ?_;rintro e w4 ⟨rfl,rfl⟩) | (with_reducible refine K2.out.mono ?_;rintro e w4 ⟨rfl,rfl⟩))
        refine aj (by kernel_rfl) (by kernel_rfl) ?_
        repeat (go_big_quiet_step (fail))
        refine wpQuiet_nil ?_;intro _ hw';obtain ⟨y,hw''⟩:=hw';subst hw'';go_wp2;go_ret;exact ⟨by rw [HF.out];rfl,lx.out.bt y⟩
       ·have DJ:Op.bytesLess p'.of.toList p.of.toList=true:=hL
        have IR:=gH (bC (p:=fun j=>∀ (hj:j < r.members.length),BI r r.members[j]=true∧(0 < j→fz (r.members[j - 1]'(by omega)) r.members[j] < 0)) HP.out (fun _=>⟨by rw [HI.out];rfl,fun _=>by rw [HO.out];exact of_decide_eq_true (by rw [NM.out,hG,hE,hL];rfl)⟩));clear hG hE hL
        go_wp2_with (go_at_call 144;first | (with_reducible refine K1.out.mono ?_;rintro e w4 ⟨rfl,rfl⟩) | (with_reducible refine K2.out.mono ?_;rintro e w4 ⟨rfl,rfl⟩))
        refine aj (by kernel_rfl) (by kernel_rfl) ?_
        repeat (go_big_quiet_step (fail))
        refine wpQuiet_nil ?_;intro _ hw';obtain ⟨y,hw''⟩:=hw';subst hw'';go_wp2
        go_roundw
        case rel=>exact ⟨k2+1,by omega,by go_num,(gj.out.alloc _).bt y,IR.out⟩
        case measure=>simp [intOf];omega
     ·have Sk:(Op.bytesLess p'.role.toList p.role.toList || p'.role.toList==p.role.toList)=false:=by have h1:=hG;rw [Bool.not_eq_true'] at h1;exact h1
      have HF:=gH (rx r k2 fd h0 (by rw [HO.out];exact of_decide_eq_false (by rw [NM.out,hG];rfl)));clear hG
      go_wp2_with (go_at_call 144;first | (with_reducible refine K1.out.mono ?_;rintro e w4 ⟨rfl,rfl⟩) | (with_reducible refine K2.out.mono ?_;rintro e w4 ⟨rfl,rfl⟩))
      refine aj (by kernel_rfl) (by kernel_rfl) ?_
      repeat (go_big_quiet_step (fail))
      refine wpQuiet_nil ?_;intro _ hw';obtain ⟨y,hw''⟩:=hw';subst hw'';go_wp2;go_ret;exact ⟨by rw [HF.out];rfl,lx.out.bt y⟩
    ·have w5:decide ((0:Int) < (k2:Int))=false:=decide_eq_false (by omega)
     have IR:=gH (bC (p:=fun j=>∀ (hj:j < r.members.length),BI r r.members[j]=true∧(0 < j→fz (r.members[j - 1]'(by omega)) r.members[j] < 0)) HP.out (fun _=>⟨by rw [HI.out];rfl,fun h=>absurd h h0⟩))
     go_wp2_with (go_at_call 144;first | (with_reducible refine K1.out.mono ?_;rintro e w4 ⟨rfl,rfl⟩) | (with_reducible refine K2.out.mono ?_;rintro e w4 ⟨rfl,rfl⟩))
     refine aj (by kernel_rfl) (by kernel_rfl) ?_
     repeat (go_big_quiet_step (fail))
     refine wpQuiet_nil ?_;intro _ hw';obtain ⟨y,hw''⟩:=hw';subst hw'';go_wp2
     go_roundw
     case rel=>exact ⟨k2+1,by omega,by go_num,(gj.out.alloc _).bt y,IR.out⟩
     case measure=>simp [intOf];omega
   ·have HF:=gH (show iA r=true by
     rw [HR.out,all_true _ _ fun j hj=>(HP.out j (by omega) hj).1,ry fz _ fun j TJ hj=>(HP.out j (by omega) hj).2 (by omega)]
     rfl)
    go_wp2;go_ret;exact ⟨by rw [HF.out];rfl,HA.out⟩
theorem QN (r:fV) (a b:ByteArray):Cj r a b=(bG r&&cL r.names a&&(bM r.members a b&&cL r.names b)):=by
 unfold Cj;rw [sU]
theorem tZ (ms:List dP) (a b:ByteArray):bM ms a b=true↔Reach ms (txt a) (txt b):=by
 unfold bM;simp only [decide_eq_true_eq]
theorem nG {a b:ByteArray} (h:txt a=txt b):a=b:=by
 unfold txt at h
 cases a;cases b
 simp only [Array.toList_inj] at h;rw [h]
theorem lK (a b:ByteArray):aS a b=true↔a=b:=⟨fun h=>nG ((lT _ _).1 h),fun h=>(lT _ _).2 (by rw [h])⟩
theorem rO:uI aT:=⟨NJ,jA,fun a b h=>(lK _ _).1 ((dl _ _).1 h)⟩
theorem Mw:uI fz:=⟨E1,wq,fun a b h=>by
 unfold fz eO at h;obtain ⟨a1,a2⟩:=a;obtain ⟨b1,b2⟩:=b;simp only at h;by_cases e:aT a1 b1=0
 ·rw [if_pos (by simpa using e)] at h
  rw [rO.QL _ _ e,rO.QL _ _ h]
 ·rw [if_neg (by simpa using e)] at h
  exact absurd h e⟩
theorem jt (l:List ByteArray) (s:ByteArray):cL l s=true↔s∈l:=by
 unfold cL;rw [List.any_eq_true];exact ⟨fun ⟨x,hx,h⟩=>by rw [← (lK _ _).1 h];exact hx,fun h=>⟨s,h,(lK _ _).2 rfl⟩⟩
theorem FZ {l:List ByteArray} (hr:aM aT l=true) (s:ByteArray):cL l s=fo aT l s:=by
 rw [Bool.eq_iff_iff,jt,wu rO hr]
theorem lu {ms:List dP} {s:dL} {y:ByteArray}:y∈succ ms s↔∃ m∈ms,txt m.role=s∧m.of=y:=by
 unfold succ;rw [List.mem_map]
 constructor
 ·rintro ⟨m,hm,rfl⟩
  obtain ⟨h1,h2⟩:=List.mem_filter.1 hm;exact ⟨m,h1,by simpa using h2,rfl⟩
 ·rintro ⟨m,hm,h1,rfl⟩
  exact ⟨m,List.mem_filter.2 ⟨hm,by simpa using h1⟩,rfl⟩
theorem Reach.mono {ms Xf:List dP} (hs:∀ m∈ms,m∈Xf) {s t:dL} (h:Reach ms s t):Reach Xf s t:=by
 induction h with
 | refl=>exact .refl _
 | step h1 hx he ih =>
  obtain ⟨m,hm,h2,h3⟩:=lu.1 hx;exact ih.step (lu.2 ⟨m,hs m hm,h2,h3⟩) he
theorem Reach.cut {ms Xf:List dP} {x:dP} (hs:∀ m∈Xf,m=x∨m∈ms) {s t:dL} (h:Reach Xf s t):Reach ms s t∨(Reach ms s (txt x.role)∧Reach ms (txt x.of) t):=by
 induction h with
 | refl=>exact .inl (.refl _)
 | step h1 hx he ih =>
  obtain ⟨m,hm,h2,h3⟩:=lu.1 hx
  rcases hs m hm with e | e
  ·subst e
   subst h3;subst h2;subst he
   rcases ih with i | i
   ·exact .inr ⟨i,.refl _⟩
   ·exact .inr ⟨i.1,.refl _⟩
  ·rcases ih with i | i
   ·exact .inl (i.step (lu.2 ⟨m,e,h2,h3⟩) he)
   ·exact .inr ⟨i.1,i.2.step (lu.2 ⟨m,e,h2,h3⟩) he⟩
theorem AA {l:List dP} (hr:aM fz l=true):(l.map fun m=>(m.role,m.of)).Nodup:=by
 rw [List.nodup_iff_pairwise_ne,List.pairwise_map,List.pairwise_iff_getElem];intro i j hi hj pg e;have h1:=dZ E1 hr i j hi hj pg
 have:l[i]=l[j]:=by
  generalize l[i]=a at *;generalize l[j]=b at *;obtain ⟨a1,a2⟩:=a;obtain ⟨b1,b2⟩:=b;simp only [Prod.mk.injEq] at e;rw [e.1,e.2]
 rw [this,Mw.refl] at h1;omega
theorem GF {r:fV} (hr:aM fz r.members=true) (hn:r.names.length≤16) (hi:∀ m∈r.members,m.role∈r.names∧m.of∈r.names):r.members.length≤256:=by
 have h1:=pX (l:=r.members.map fun m=>(m.role,m.of)) (l':=r.names.flatMap fun a=>r.names.map fun b=>(a,b)) (AA hr) (fun y hy=>by
  obtain ⟨m,hm,rfl⟩:=List.mem_map.1 hy
  exact List.mem_flatMap.2 ⟨m.role,(hi m hm).1,List.mem_map.2 ⟨m.of,(hi m hm).2,rfl⟩⟩)
 have h2:(r.names.flatMap fun a=>r.names.map fun b=>(a,b)).length=r.names.length*r.names.length:=by
  have h3:∀ (l:List ByteArray) (n:Nat),(l.map fun _=>n).sum=l.length*n:=fun l n=>by
   induction l with
   | nil=>simp
   | cons a l ih=>simp [ih,Nat.succ_mul];omega
  rw [List.length_flatMap];simp only [List.length_map];exact h3 _ _
 rw [List.length_map,h2] at h1;exact Nat.le_trans h1 (Nat.mul_le_mul hn hn)
theorem dp {r:fV}:bG r=true↔r.names.length≤16∧r.members.length≤256∧aM aT r.names=true∧aM fz r.members=true∧(∀ s∈r.names,bA s=true)∧∀ m∈r.members,m.role∈r.names∧m.of∈r.names∧¬ Reach r.members (txt m.of) (txt m.role):=by
 unfold bG;simp only [Bool.and_eq_true,decide_eq_true_eq,List.all_eq_true,jX,jt,Bool.not_eq_true',and_assoc]
 have e:∀ a b,bM r.members a b=false↔¬ Reach r.members (txt a) (txt b):=fun a b=>by rw [← tZ];simp
 simp only [e]
theorem Cy {r:fV} {x:dP} (h:bG r=true) (h1:cL r.names x.role=true) (h2:cL r.names x.of=true) (h3:fo fz r.members x=false) (h4:bM r.members x.of x.role=false):bG { r with members:=dv r.members (em fz r.members x) x }=true:=by
 have hp:=dp.1 h;obtain ⟨p1,p2,p3,p4,p5,p6⟩:=hp
 have hnr:¬ Reach r.members (txt x.of) (txt x.role):=by rw [← tZ,h4];simp
 have hm:∀ m∈dv r.members (em fz r.members x) x,m=x∨m∈r.members:=fun m hm=>bU.1 hm
 have I0:=vG Mw p4 h3
 have yi:∀ m∈dv r.members (em fz r.members x) x,m.role∈r.names∧m.of∈r.names:=fun m rJ=>by
  rcases hm m rJ with e | e
  ·subst e;exact ⟨(jt _ _).1 h1,(jt _ _).1 h2⟩
  ·exact ⟨(p6 m e).1,(p6 m e).2.1⟩
 refine dp.2 ⟨p1,GF (r:={ r with members:=dv r.members (em fz r.members x) x }) I0 p1 yi,p3,I0,p5,fun m rJ=>⟨(yi m rJ).1,(yi m rJ).2,fun hr=>?_⟩⟩;have hc:=Reach.cut hm hr
 rcases hm m rJ with e | e
 ·subst e
  rcases hc with i | i
  ·exact hnr i
  ·exact hnr i.1
 ·rcases hc with i | i
  ·exact (p6 m e).2.2 i
  ·have hstep:Reach r.members (txt m.role) (txt m.of):=(Reach.refl _).step (lu.2 ⟨m,e,rfl,rfl⟩) rfl
   exact hnr ((i.2.trans hstep).trans i.1)
theorem aA.take {α:Type} {w:World} {size:Nat} {R:World→List Value→α→Prop} {A:Option Addr} {cap:Nat} {l:List α} (h:aA w size R A cap l) (k:Nat):aA w size R A cap (l.take k) :=
 ⟨Nat.le_trans (by simp;omega) h.1,Nat.le_trans (Nat.mul_le_mul_right _ (by simp;omega)) h.2.1,fun i hi=>by
  have hi':i < l.length:=by simp at hi;omega
  obtain ⟨b,off,cs,hA,hb,hl,hr,hc⟩:=h.2.2 i hi'
  exact ⟨b,off,cs,hA,hb,hl,by rw [List.getElem_take];exact hr,hc⟩⟩
def gJ (c:eB):Bool:=bA c.name&&(c.kind==2 || c.kind==3)
def eY (l:List eB):Bool:=decide (1≤l.length)&&decide (l.length≤8)&&(List.range l.length).all fun i=>match l[i]? with | some c=>gJ c&&decide (bD (fun d=>aS d.name c.name) (l.take i) < 0) | none=>true
theorem jy (l:List eB) (k:Nat) (hk:k < l.length) (h:(gJ l[k]&&decide (bD (fun d=>aS d.name l[k].name) (l.take k) < 0))=false):eY l=false:=by
 unfold eY;rw [Bool.and_eq_false_iff];right;rw [Bool.eq_false_iff];intro ha;have:=List.all_eq_true.1 ha k (List.mem_range.2 hk);rw [List.getElem?_eq_getElem hk] at this;simp only [h] at this
 cases this
theorem rA (l:List eB) (h1:1≤l.length) (h8:l.length≤8) (h:∀ k,k < l.length→∀ hk:k < l.length,(gJ l[k]&&decide (bD (fun d=>aS d.name l[k].name) (l.take k) < 0))=true):eY l=true:=by
 unfold eY;rw [Bool.and_eq_true,List.all_eq_true];refine ⟨by simp [h1,h8],fun k hk=>?_⟩;have pV:=List.mem_range.1 hk;rw [List.getElem?_eq_getElem pV];exact h k pV pV
theorem KJ (name:ByteArray) (kind:Int) (null:Bool) (w:World) (hs:name.size≤maxLen) :
  Calls Tryz.prog 360 #[.agg #[.string name,.int .i64 kind,.bool null]] w fun e w'=>e=.returned (.bool (gJ ⟨name,kind,null⟩))∧ag w w':=by
 go_in
 go_wp2_with (go_at_call 316;refine (cY _ _ hs).mono ?_;rintro e w' ⟨rfl,rfl⟩)
 all_goals
  go_ret;refine ⟨Eq.trans (b:=.returned (.bool _)) rfl (cP (bZ ?_)),(ag.refl _).alloc _⟩
  simp_all [gJ]
theorem GG (A:Option Addr) (cap:Nat) (l:List eB) (w:World) (h:aA w 3 fG A cap l) :
  Calls Tryz.prog 319 #[.slice A l.length cap] w fun e w'=>e=.returned (.bool (eY l))∧ag w w':=by
 have hlen:=h.len;by_cases h1:l.length < 1∨8 < l.length
 ·have H:=gH (show eY l=false by unfold eY;rcases h1 with h1 | h1<;>simp<;>intros<;>omega)
  rcases h1 with h1 | h1
  all_goals
   go_in
   go_wp2;go_ret;exact ⟨by rw [H.out];rfl,ag.refl _⟩
 ·have g1:1≤l.length:=by omega
  have g8:l.length≤8:=by omega
  clear h1
  go_in
  go_wp2_with fail
  go_loopw [3] (fun i wr=>∃ k:Nat,k≤l.length∧i=.int .i64 k∧ag w wr∧∀ j,j < k→∀ (hj:j < l.length),(gJ l[j]&&decide (bD (fun d=>aS d.name l[j].name) (l.take j) < 0))=true) (fun i _=>l.length - (intOf i).toNat)
  case atStart=>exact ⟨0,Nat.zero_le _,rfl,ag.refl _,fun j hj=>absurd hj (Nat.not_lt_zero j)⟩
  case round =>
   obtain ⟨k,hk,rfl,ha,hp⟩:=hrel;have HA:=gH ha;have HP:=gH hp;clear hp;by_cases hlt:k < l.length
   ·have cM:=bW ha h
    clear ha;obtain ⟨b,off,rfl,hb,c0,c1,c2,hs⟩:=ky cM hlt;have xQ:=gH (fun w=>KJ l[k].name l[k].kind l[k].null w hs.max);obtain ⟨r,hr⟩:∃ r,bD (fun d=>aS d.name l[k].name) (l.take k)=r:=⟨_,rfl⟩
    have qJ:=gH (show ∀ x:gX wr,Calls Tryz.prog 361 #[.slice (some ⟨b,off,none⟩) k cap,.string l[k].name] (bt wr x) fun e w'=>e=.returned (.int .i64 r)∧bt wr x=w' by
     intro x;have:=nw _ _ (l.take k) l[k].name (bt wr x) (bW ((ag.refl wr).bt x) (cM.take k))
     rwa [List.length_take,Nat.min_eq_left (by omega),hr] at this)
    have iR:k≤cap:=Nat.le_trans hk cM.1;have HR:=gH hr;clear hr cM;generalize hcc:gJ ⟨l[k].name,l[k].kind,l[k].null⟩=cc at xQ;have HC:=gH hcc;clear hcc
    cases cc
    ·go_wp2_with fail
     refine aj (by kernel_rfl) (by kernel_rfl) ?_
     repeat (go_big_quiet_step ((first | (go_at_call 360;exact Calls.aL (xQ.out _)) | (go_at_call 361;exact Calls.aK (qJ.out _)))))
     refine wpQuiet_nil ?_;intro _ hw';obtain ⟨x,hw''⟩:=hw';subst hw'';go_wp2;go_ret;exact ⟨by rw [jy l k hlt (by rw [show gJ l[k]=false from HC.out];rfl)];rfl,HA.out.bt x⟩
    ·by_cases Bc:0≤r
     ·go_wp2_with fail
      refine aj (by kernel_rfl) (by kernel_rfl) ?_
      repeat (go_big_quiet_step ((first | (go_at_call 360;exact Calls.aL (xQ.out _)) | (go_at_call 361;exact Calls.aK (qJ.out _)))))
      refine wpQuiet_nil ?_;intro _ hw';obtain ⟨x,hw''⟩:=hw';subst hw'';go_wp2;go_ret;exact ⟨by rw [jy l k hlt (by rw [HR.out,decide_eq_false (by omega),Bool.and_false])];rfl,HA.out.bt x⟩
     ·have hr1:r < 0:=by omega
      go_wp2_with fail;refine aj (by kernel_rfl) (by kernel_rfl) ?_
      repeat (go_big_quiet_step ((first | (go_at_call 360;exact Calls.aL (xQ.out _)) | (go_at_call 361;exact Calls.aK (qJ.out _)))))
      refine wpQuiet_nil ?_;intro _ hw';obtain ⟨x,hw''⟩:=hw';subst hw'';go_wp2
      go_roundw
      case rel=>exact ⟨k+1,by omega,by go_num,HA.out.bt x,bC (p:=fun j=>∀ (hj:j < l.length),(gJ l[j]&&decide (bD (fun d=>aS d.name l[j].name) (l.take j) < 0))=true) HP.out (fun _=>by rw [HR.out,decide_eq_true hr1,show gJ l[k]=true from HC.out];rfl)⟩
      case measure=>simp [intOf];omega
   ·go_wp2
    go_ret;exact ⟨by rw [rA l g1 g8 (fun j hj hj'=>HP.out j (by omega) hj')];rfl,HA.out⟩
def emp (s:ByteArray):Bool:=s.toList.isEmpty
theorem iY (a b:ByteArray):(a++b).toList=[]↔a.toList=[]∧b.toList=[]:=by
 simp only [fU,ByteArray.size_append];omega
def bR (l:List eB) (s:ByteArray):Int:=bD (fun c=>aS c.name s) l
def oX (cs:List ByteArray) (s:ByteArray):Bool:=cs.any fun c=>aS c s
def tq (l:List eB) (cs:List ByteArray):Bool:=(List.range cs.length).all fun i=>match cs[i]? with | some s=>decide (0≤bR l s)&&!(oX (cs.take i) s) | none=>true
theorem lU (l:List eB) (cs:List ByteArray) (k:Nat) (hk:k < cs.length) (h:(decide (0≤bR l cs[k])&&!(oX (cs.take k) cs[k]))=false):tq l cs=false:=by
 unfold tq;rw [Bool.eq_false_iff];intro ha;have:=List.all_eq_true.1 ha k (List.mem_range.2 hk);rw [List.getElem?_eq_getElem hk] at this;simp only [h] at this
 cases this
theorem wy (l:List eB) (cs:List ByteArray) (h:∀ k,k < cs.length→∀ hk:k < cs.length,(decide (0≤bR l cs[k])&&!(oX (cs.take k) cs[k]))=true):tq l cs=true:=by
 unfold tq;rw [List.all_eq_true];intro k hk;have pV:=List.mem_range.1 hk;rw [List.getElem?_eq_getElem pV];exact h k pV pV
def fl (l:List eB) (i:Int):Int:=match l[i.toNat]? with | some c=>c.kind | none=>0
def eR (l:List eB) (r:fF):Bool :=
 if r.kind==1 || r.kind==2 then emp r.ac&&emp r.table&&emp r.key&&r.low==0&&r.high==0
 else if r.kind==3 then emp r.ac&&emp r.table&&emp r.key&&((r.av.length:Int)==1)&&fl l (bR l (r.av.headD ByteArray.empty))==2&&decide (r.low≤r.high)
 else if r.kind==4 then bA r.ac&&bA r.table&&bA r.key&&r.low==0&&r.high==0
 else false
def cK (l:List eB) (r:fF):Bool:=tq l r.av&&bA r.name&&!(r.av.length==0)&&eR l r
theorem GH (A:Option Addr) (cap:Nat) (l:List eB) (r:fF) (A2:Option Addr) (bJ:Nat) (w:World) (h:aA w 3 fG A cap l) (h2:aA w 1 dg A2 bJ r.av)
  (hn:Small r.name.size) (hs:Small r.ac.size) (ht:Small r.table.size) (pV:Small r.key.size) :
  Calls Tryz.prog 320 #[.slice A l.length cap,.agg #[.string r.name,.int .i64 r.kind,.slice A2 r.av.length bJ,.int .i64 r.low,.int .i64 r.high,.string r.ac,.string r.table,.string r.key]] w
   fun e w'=>e=.returned (.bool (cK l r))∧ag w w':=by
 obtain ⟨name,kind,cs,low,high,ac,table,key⟩:=r;simp only at h2 hn hs ht pV ⊢;have hlen:=h.len;have fq:=h2.len
 go_in
 go_wp2_with fail
 go_loopw [5] (fun i wr=>∃ k:Nat,k≤cs.length∧i=.int .i64 k∧ag (w.alloc (.cells #[.string name,.int .i64 kind,.slice A2 cs.length bJ,.int .i64 low,.int .i64 high,.string ac,.string table,.string key] 42)) wr∧∀ j,j < k→∀ (hj:j < cs.length),(decide (0≤bR l cs[j])&&!(oX (cs.take j) cs[j]))=true) (fun i _=>cs.length - (intOf i).toNat)
 case atStart=>exact ⟨0,Nat.zero_le _,rfl,ag.refl _,fun j hj=>absurd hj (Nat.not_lt_zero j)⟩
 case round =>
  obtain ⟨k,hk,rfl,ha,hp⟩:=hrel;obtain ⟨fH,ly,hz,mr,HA⟩:=cz ha;have gj:=gH ha;have HP:=gH hp;clear hp;have cM:=bW HA.out h;have gK:=aO HA.out h2;clear ha;by_cases hlt:k < cs.length
  ·obtain ⟨b,off,rfl,hb,c0,lZ⟩:=er gK hlt
   obtain ⟨i,hi⟩:∃ i,bR l cs[k]=i:=⟨_,rfl⟩;obtain ⟨m,hm⟩:∃ m,oX (cs.take k) cs[k]=m:=⟨_,rfl⟩
   have qJ:=gH (show ∀ x:gX wr,Calls Tryz.prog 361 #[.slice A l.length cap,.string cs[k]] (bt wr x) fun e w'=>e=.returned (.int .i64 i)∧bt wr x=w' from
    fun x=>(nw A cap l cs[k] (bt wr x) (bW ((ag.refl wr).bt x) cM)).mono fun e w' ⟨he,hw⟩=>⟨he.trans (by rw [← hi];rfl),hw⟩)
   have Cin:=gH (show ∀ x:gX wr,Calls Tryz.prog 144 #[.slice (some ⟨b,off,none⟩) k bJ,.string cs[k]] (bt wr x) fun e w'=>e=.returned (.bool m)∧bt wr x=w' by
    intro x;have:=gi _ _ (cs.take k) cs[k] (bt wr x) (aO ((ag.refl wr).bt x) (gK.take k));rw [List.length_take,Nat.min_eq_left (by omega)] at this
    exact this.mono fun e w' ⟨he,hw⟩=>⟨he.trans (by rw [← hm];rfl),hw⟩)
   have iR:k≤bJ:=Nat.le_trans hk gK.1;have HI:=gH hi;have HM:=gH hm;clear hi hm cM gK;by_cases kG:i < 0
   ·go_wp2_with fail
    refine aj (by kernel_rfl) (by kernel_rfl) ?_
    repeat (go_big_quiet_step ((first | (go_at_call 361;exact Calls.aK (qJ.out _)) | (go_at_call 144;exact Calls.aK (Cin.out _)))))
    refine wpQuiet_nil ?_;intro _ hw';obtain ⟨x,hw''⟩:=hw';subst hw'';go_wp2;go_ret;exact ⟨by rw [show cK l ⟨name,kind,cs,low,high,ac,table,key⟩=false by unfold cK;rw [lU l cs k hlt (by rw [HI.out,decide_eq_false (by omega)];rfl)];rfl];rfl,HA.out.bt x⟩
   ·have kj:0≤i:=by omega
    have hd:decide (i < 0)=false:=decide_eq_false kG
    cases m
    ·go_wp2_with fail
     refine aj (by kernel_rfl) (by kernel_rfl) ?_
     repeat (go_big_quiet_step ((first | (go_at_call 361;exact Calls.aK (qJ.out _)) | (go_at_call 144;exact Calls.aK (Cin.out _)))))
     refine wpQuiet_nil ?_;intro _ hw';obtain ⟨x,hw''⟩:=hw';subst hw'';go_wp2
     go_roundw
     case rel=>exact ⟨k+1,by omega,by go_num,gj.out.bt x,bC (p:=fun j=>∀ (hj:j < cs.length),(decide (0≤bR l cs[j])&&!(oX (cs.take j) cs[j]))=true) HP.out (fun _=>by rw [HI.out,HM.out,decide_eq_true kj];rfl)⟩
     case measure=>simp [intOf];omega
    ·go_wp2_with fail
     refine aj (by kernel_rfl) (by kernel_rfl) ?_
     repeat (go_big_quiet_step ((first | (go_at_call 361;exact Calls.aK (qJ.out _)) | (go_at_call 144;exact Calls.aK (Cin.out _)))))
     refine wpQuiet_nil ?_;intro _ hw';obtain ⟨x,hw''⟩:=hw';subst hw'';go_wp2;go_ret;exact ⟨by rw [show cK l ⟨name,kind,cs,low,high,ac,table,key⟩=false by unfold cK;rw [lU l cs k hlt (by rw [HM.out,Bool.not_true,Bool.and_false])];rfl];rfl,HA.out.bt x⟩
  ·have qZ:=wy l cs (fun j hj hj'=>HP.out j (by omega) hj')
   cases hN:bA name
   ·have HF:=gH (show cK l ⟨name,kind,cs,low,high,ac,table,key⟩=false by simp [cK,hN])
    clear qZ
    go_wp2_with (go_at_call 316;refine (cY _ _ (by first | exact hn.max | exact hs.max | exact ht.max | exact pV.max)).mono ?_;rintro e w' ⟨rfl,rfl⟩)
    go_ret;exact ⟨by rw [HF.out];rfl,HA.out⟩
   ·by_cases hz0:cs.length=0
    ·have HF:=gH (show cK l ⟨name,kind,cs,low,high,ac,table,key⟩=false by simp [cK,hz0])
     have e0:((cs.length:Int)==0)=true:=by simp [hz0]
     clear qZ hz0
     go_wp2_with (go_at_call 316;refine (cY _ _ (by first | exact hn.max | exact hs.max | exact ht.max | exact pV.max)).mono ?_;rintro e w' ⟨rfl,rfl⟩)
     go_ret;exact ⟨by rw [HF.out];rfl,HA.out⟩
    ·have HF:=gH (show cK l ⟨name,kind,cs,low,high,ac,table,key⟩=eR l ⟨name,kind,cs,low,high,ac,table,key⟩ by simp [cK,qZ,hN,hz0])
     have e0:((cs.length:Int)==0)=false:=beq_eq_false_iff_ne.2 (by omega)
     have sw:0 < cs.length:=by omega
     have hc0:0≤bR l cs[0]:=by have:=HP.out 0 (by omega) sw;simp at this;exact this.1
     clear qZ hz0;by_cases k1:kind=1
     ·subst k1
      go_wp2_with (go_at_call 316;refine (cY _ _ (by first | exact hn.max | exact hs.max | exact ht.max | exact pV.max)).mono ?_;rintro e w' ⟨rfl,rfl⟩)
      all_goals
       go_ret;refine ⟨Eq.trans (b:=.returned (.bool _)) rfl (cP (bZ ?_)),HA.out⟩;rw [HF.out];clear HF HA gj HP fH ly hz mr cM gK h h2
       simp_all [eR,emp]
     by_cases k2:kind=2
     ·subst k2
      go_wp2_with (go_at_call 316;refine (cY _ _ (by first | exact hn.max | exact hs.max | exact ht.max | exact pV.max)).mono ?_;rintro e w' ⟨rfl,rfl⟩)
      all_goals
       go_ret;refine ⟨Eq.trans (b:=.returned (.bool _)) rfl (cP (bZ ?_)),HA.out⟩;rw [HF.out];clear HF HA gj HP fH ly hz mr cM gK h h2
       simp_all [eR,emp]
     by_cases k4:kind=4
     ·subst k4
      go_wp2_with (go_at_call 316;refine (cY _ _ (by first | exact hn.max | exact hs.max | exact ht.max | exact pV.max)).mono ?_;rintro e w' ⟨rfl,rfl⟩)
      all_goals
       go_ret;refine ⟨Eq.trans (b:=.returned (.bool _)) rfl (cP (bZ ?_)),HA.out⟩;rw [HF.out];clear HF HA gj HP fH ly hz mr cM gK h h2
       simp_all [eR]
     by_cases k3:kind=3
     ·subst k3
      obtain ⟨q,hq⟩:=Int.eq_ofNat_of_zero_le hc0
      have mO:q < l.length:=by have:=(bk (fun c=>aS c.name cs[0]) l).2;unfold bR at hq;omega
      obtain ⟨b,off,rfl,hb,c0,lZ⟩:=er gK sw;obtain ⟨b2,DK,rfl,hb2,d0,d1,d2,Xg⟩:=ky cM mO
      have c0':wr.cell? ⟨b,off,none⟩=some (.string cs[0]):=by simpa using c0
      have qJ:=gH (show Calls Tryz.prog 361 #[.slice (some ⟨b2,DK,none⟩) l.length cap,.string cs[0]] wr fun e w'=>e=.returned (.int .i64 q)∧wr=w' from
       (nw _ cap l cs[0] wr cM).mono fun e w' ⟨he,hw⟩=>⟨he.trans (by rw [← show bR l cs[0]=(q:Int) from hq];rfl),hw⟩)
      have HK:=gH (show fl l (bR l (cs.headD ByteArray.empty))=l[q].kind by
       have e1:cs.headD ByteArray.empty=cs[0]:=by cases cs with | nil=>simp at sw | cons a t=>rfl
       rw [e1,hq];simp [fl,List.getElem?_eq_getElem mO])
      clear hc0 hq c0
      go_wp2_with (first | (go_at_call 316;refine (cY _ _ (by first | exact hn.max | exact hs.max | exact ht.max | exact pV.max)).mono ?_;rintro e w' ⟨rfl,rfl⟩) | (go_at_call 361;refine qJ.out.mono ?_;rintro e w' ⟨rfl,rfl⟩))
      all_goals
       go_ret;refine ⟨Eq.trans (b:=.returned (.bool _)) rfl (cP (bZ ?_)),HA.out⟩;rw [HF.out];have nV:=HK.out;clear HF HA gj HP fH ly hz mr cM gK h h2 HK qJ c0' d0 d1 d2
       simp_all [eR,emp]
     ·have q1:(kind==1)=false:=by simp [k1]
      have q2:(kind==2)=false:=by simp [k2]
      have q3:(kind==3)=false:=by simp [k3]
      have q4:(kind==4)=false:=by simp [k4]
      go_wp2_with (go_at_call 316;refine (cY _ _ (by first | exact hn.max | exact hs.max | exact ht.max | exact pV.max)).mono ?_;rintro e w' ⟨rfl,rfl⟩)
      all_goals
       go_ret;refine ⟨Eq.trans (b:=.returned (.bool _)) rfl (cP (bZ ?_)),HA.out⟩;rw [HF.out];clear HF HA gj HP fH ly hz mr cM gK h h2
       simp_all [eR]
theorem sr {w w':World} {a b:Value} {ta tb:TypeId} (h:ag ((w.alloc (.cells #[a] ta)).alloc (.cells #[b] tb)) w') :
  w'.cell? ⟨w.heap.size,0,none⟩=some a∧w'.cell? ⟨w.heap.size+1,0,none⟩=some b∧w.heap.size < w'.heap.size∧w.heap.size+1 < w'.heap.size:=by
 have hz:w.heap.size+1 < w'.heap.size:=by have:=h.size;simp at this;omega
 refine ⟨?_,?_,by omega,hz⟩
 ·rw [Below.cell h (p:=⟨w.heap.size,0,none⟩) (by simp;omega),World.cell?_alloc_past _ _ _ (by simp)];simp
 ·rw [Below.cell h (p:=⟨w.heap.size+1,0,none⟩) (by simp),World.cell?_alloc_at _ _ _ _ (by simp)];rfl
theorem ua (name:ByteArray) (kind:Int) (null:Bool) (w:World) :
  Calls Tryz.prog 287 #[.agg #[.string name,.int .i64 kind,.bool null]] w fun e w'=>e=.returned (.string name)∧ag w w':=by
 go_in
 go_wp2;go_ret;exact ⟨rfl,(ag.refl _).alloc _⟩
theorem Sl (name:ByteArray) (kind:Int) (null:Bool) (s:ByteArray) (b1 b2:Nat) (w:World) (hb1:b1 < w.heap.size) (hb2:b2 < w.heap.size) (hc1:w.cell? ⟨b1,0,none⟩=some (.func (.func 287) #[] #[])) (hc2:w.cell? ⟨b2,0,none⟩=some (.string s)) :
  Calls Tryz.prog 345 #[.agg #[.string name,.int .i64 kind,.bool null],.pointer (some ⟨b1,0,none⟩),.pointer (some ⟨b2,0,none⟩)] w fun e w'=>e=.returned (.bool (aS name s))∧ag w w':=by
 have Cn:=gH (fun w=>ua name kind null w)
 go_in
 go_wp2_with fail
 have f1:∀ x:gX (w.alloc (.cells #[.string name,.int .i64 kind,.bool null] 169)),(bt _ x).cell? ⟨b1,0,none⟩=some (.func (.func 287) #[] #[]):=fun x=>(fX _ x b1 0 (by simp;omega)).trans ((World.cell?_alloc_past _ _ _ hb1).trans hc1)
 have f2:∀ x:gX (w.alloc (.cells #[.string name,.int .i64 kind,.bool null] 169)),(bt _ x).cell? ⟨b2,0,none⟩=some (.string s):=fun x=>(fX _ x b2 0 (by simp;omega)).trans ((World.cell?_alloc_past _ _ _ hb2).trans hc2)
 have f3:∀ x:gX (w.alloc (.cells #[.string name,.int .i64 kind,.bool null] 169)),∀ o,(bt _ x).cell? ⟨w.heap.size,o,none⟩=(#[.string name,.int .i64 kind,.bool null]:Array Value)[o]? := fun x o=>(fX _ x _ o (by simp)).trans (World.cell?_alloc_at _ _ _ _ rfl)
 refine aj (by kernel_rfl) (by kernel_rfl) ?_
 repeat (go_big_quiet_step ((first | (go_at_call 287;exact Calls.aL (Cn.out _)))))
 refine wpQuiet_nil ?_;intro _ hw';obtain ⟨x,hw''⟩:=hw';subst hw'';clear f1 f2 f3 hc1 hc2;go_wp2;go_ret;exact ⟨rfl,((ag.refl _).alloc _).bt x⟩
theorem E4 (A:Option Addr) (cap:Nat) (l:List eB) (s:ByteArray) (w:World) (h:aA w 3 fG A cap l) :
  Calls Tryz.prog 286 #[.slice A l.length cap,.string s,.func (.func 287) #[] #[]] w fun e w'=>e=.returned (.int .i64 (bD (fun c=>aS c.name s) l))∧ag w w':=by
 have dc:=enters (P:=Tryz.prog) Tryz.func345 (by kernel_rfl) rfl
 have C:=gH (Sb A cap l 345 #[.pointer (some ⟨w.heap.size+1,0,none⟩),.pointer (some ⟨w.heap.size,0,none⟩)] (fun c=>aS c.name s) ((w.alloc (.cells #[.string s] 9)).alloc (.cells #[.func (.func 287) #[] #[]] 333)) (bW (((ag.refl w).alloc _).alloc _) h) dc (fun w' ha i hi =>by
  obtain ⟨d1,d2,z1,z2⟩:=sr ha
  exact Sl _ _ _ s (w.heap.size+1) w.heap.size w' z2 z1 d2 d1))
 go_in
 go_wp2_with fail;refine C.out.mono ?_;rintro e w1 ⟨rfl,a1⟩;have HA:=gH ((((ag.refl w).alloc _).alloc _).trans a1);clear a1;go_wp2;go_ret;exact ⟨rfl,HA.out⟩
theorem ub (name:ByteArray) (owner:ByteArray) (w:World) :
  Calls Tryz.prog 248 #[.agg #[.string name,.string owner]] w fun e w'=>e=.returned (.string name)∧ag w w':=by
 go_in
 go_wp2;go_ret;exact ⟨rfl,(ag.refl _).alloc _⟩
theorem Sm (name:ByteArray) (owner:ByteArray) (s:ByteArray) (b1 b2:Nat) (w:World) (hb1:b1 < w.heap.size) (hb2:b2 < w.heap.size) (hc1:w.cell? ⟨b1,0,none⟩=some (.func (.func 248) #[] #[])) (hc2:w.cell? ⟨b2,0,none⟩=some (.string s)) :
  Calls Tryz.prog 326 #[.agg #[.string name,.string owner],.pointer (some ⟨b1,0,none⟩),.pointer (some ⟨b2,0,none⟩)] w fun e w'=>e=.returned (.bool (aS name s))∧ag w w':=by
 have Cn:=gH (fun w=>ub name owner w)
 go_in
 go_wp2_with fail
 have f1:∀ x:gX (w.alloc (.cells #[.string name,.string owner] 109)),(bt _ x).cell? ⟨b1,0,none⟩=some (.func (.func 248) #[] #[]):=fun x=>(fX _ x b1 0 (by simp;omega)).trans ((World.cell?_alloc_past _ _ _ hb1).trans hc1)
 have f2:∀ x:gX (w.alloc (.cells #[.string name,.string owner] 109)),(bt _ x).cell? ⟨b2,0,none⟩=some (.string s):=fun x=>(fX _ x b2 0 (by simp;omega)).trans ((World.cell?_alloc_past _ _ _ hb2).trans hc2)
 have f3:∀ x:gX (w.alloc (.cells #[.string name,.string owner] 109)),∀ o,(bt _ x).cell? ⟨w.heap.size,o,none⟩=(#[.string name,.string owner]:Array Value)[o]? := fun x o=>(fX _ x _ o (by simp)).trans (World.cell?_alloc_at _ _ _ _ rfl)
 refine aj (by kernel_rfl) (by kernel_rfl) ?_
 repeat (go_big_quiet_step ((first | (go_at_call 248;exact Calls.aL (Cn.out _)))))
 refine wpQuiet_nil ?_;intro _ hw';obtain ⟨x,hw''⟩:=hw';subst hw'';clear f1 f2 f3 hc1 hc2;go_wp2;go_ret;exact ⟨rfl,((ag.refl _).alloc _).bt x⟩
theorem Jc (A:Option Addr) (cap:Nat) (l:List fJ) (s:ByteArray) (w:World) (h:aA w 2 eL A cap l) :
  Calls Tryz.prog 247 #[.slice A l.length cap,.string s,.func (.func 248) #[] #[]] w fun e w'=>e=.returned (.int .i64 (bD (fun c=>aS c.name s) l))∧ag w w':=by
 have dc:=enters (P:=Tryz.prog) Tryz.func326 (by kernel_rfl) rfl
 have C:=gH (wT A cap l 326 #[.pointer (some ⟨w.heap.size+1,0,none⟩),.pointer (some ⟨w.heap.size,0,none⟩)] (fun c=>aS c.name s) ((w.alloc (.cells #[.string s] 9)).alloc (.cells #[.func (.func 248) #[] #[]] 298)) (bI (((ag.refl w).alloc _).alloc _) h) dc (fun w' ha i hi =>by
  obtain ⟨d1,d2,z1,z2⟩:=sr ha
  exact Sm _ _ s (w.heap.size+1) w.heap.size w' z2 z1 d2 d1))
 go_in
 go_wp2_with fail;refine C.out.mono ?_;rintro e w1 ⟨rfl,a1⟩;have HA:=gH ((((ag.refl w).alloc _).alloc _).trans a1);clear a1;go_wp2;go_ret;exact ⟨rfl,HA.out⟩
theorem xR (name:ByteArray) (kind:Int) (A0:Option Addr) (n0:Nat) (c0:Nat) (lo:Int) (hi:Int) (rs:ByteArray) (rt:ByteArray) (rk:ByteArray) (w:World) :
  Calls Tryz.prog 294 #[.agg #[.string name,.int .i64 kind,.slice A0 n0 c0,.int .i64 lo,.int .i64 hi,.string rs,.string rt,.string rk]] w fun e w'=>e=.returned (.string name)∧ag w w':=by
 go_in
 go_wp2;go_ret;exact ⟨rfl,(ag.refl _).alloc _⟩
theorem Sn (name:ByteArray) (kind:Int) (A0:Option Addr) (n0:Nat) (c0:Nat) (lo:Int) (hi:Int) (rs:ByteArray) (rt:ByteArray) (rk:ByteArray) (s:ByteArray) (b1 b2:Nat) (w:World) (hb1:b1 < w.heap.size) (hb2:b2 < w.heap.size) (hc1:w.cell? ⟨b1,0,none⟩=some (.func (.func 294) #[] #[])) (hc2:w.cell? ⟨b2,0,none⟩=some (.string s)) :
  Calls Tryz.prog 347 #[.agg #[.string name,.int .i64 kind,.slice A0 n0 c0,.int .i64 lo,.int .i64 hi,.string rs,.string rt,.string rk],.pointer (some ⟨b1,0,none⟩),.pointer (some ⟨b2,0,none⟩)] w fun e w'=>e=.returned (.bool (aS name s))∧ag w w':=by
 have Cn:=gH (fun w=>xR name kind A0 n0 c0 lo hi rs rt rk w)
 go_in
 go_wp2_with fail
 have f1:∀ x:gX (w.alloc (.cells #[.string name,.int .i64 kind,.slice A0 n0 c0,.int .i64 lo,.int .i64 hi,.string rs,.string rt,.string rk] 42)),(bt _ x).cell? ⟨b1,0,none⟩=some (.func (.func 294) #[] #[]):=fun x=>(fX _ x b1 0 (by simp;omega)).trans ((World.cell?_alloc_past _ _ _ hb1).trans hc1)
 have f2:∀ x:gX (w.alloc (.cells #[.string name,.int .i64 kind,.slice A0 n0 c0,.int .i64 lo,.int .i64 hi,.string rs,.string rt,.string rk] 42)),(bt _ x).cell? ⟨b2,0,none⟩=some (.string s):=fun x=>(fX _ x b2 0 (by simp;omega)).trans ((World.cell?_alloc_past _ _ _ hb2).trans hc2)
 have f3:∀ x:gX (w.alloc (.cells #[.string name,.int .i64 kind,.slice A0 n0 c0,.int .i64 lo,.int .i64 hi,.string rs,.string rt,.string rk] 42)),∀ o,(bt _ x).cell? ⟨w.heap.size,o,none⟩=(#[.string name,.int .i64 kind,.slice A0 n0 c0,.int .i64 lo,.int .i64 hi,.string rs,.string rt,.string rk]:Array Value)[o]? := fun x o=>(fX _ x _ o (by simp)).trans (World.cell?_alloc_at _ _ _ _ rfl)
 refine aj (by kernel_rfl) (by kernel_rfl) ?_
 repeat (go_big_quiet_step ((first | (go_at_call 294;exact Calls.aL (Cn.out _)))))
 refine wpQuiet_nil ?_;intro _ hw';obtain ⟨x,hw''⟩:=hw';subst hw'';clear f1 f2 f3 hc1 hc2;go_wp2;go_ret;exact ⟨rfl,((ag.refl _).alloc _).bt x⟩
theorem Xh (A:Option Addr) (cap:Nat) (l:List fF) (s:ByteArray) (w:World) (h:aA w 8 fc A cap l) :
  Calls Tryz.prog 293 #[.slice A l.length cap,.string s,.func (.func 294) #[] #[]] w fun e w'=>e=.returned (.int .i64 (bD (fun c=>aS c.name s) l))∧ag w w':=by
 have dc:=enters (P:=Tryz.prog) Tryz.func347 (by kernel_rfl) rfl
 have C:=gH (Sc A cap l 347 #[.pointer (some ⟨w.heap.size+1,0,none⟩),.pointer (some ⟨w.heap.size,0,none⟩)] (fun c=>aS c.name s) ((w.alloc (.cells #[.string s] 9)).alloc (.cells #[.func (.func 294) #[] #[]] 337)) (eQ (((ag.refl w).alloc _).alloc _) h) dc (fun w' ha i hi e1 he=>by
  obtain ⟨A2,bJ,rfl,_⟩:=he;obtain ⟨d1,d2,z1,z2⟩:=sr ha
  exact Sn _ _ _ _ _ _ _ _ _ _ s (w.heap.size+1) w.heap.size w' z2 z1 d2 d1))
 go_in
 go_wp2_with fail;refine C.out.mono ?_;rintro e w1 ⟨rfl,a1⟩;have HA:=gH ((((ag.refl w).alloc _).alloc _).trans a1);clear a1;go_wp2;go_ret;exact ⟨rfl,HA.out⟩
end Go.Proofs.YtakddkhipelmjaaGreat
