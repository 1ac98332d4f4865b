import Derived.Deep.RegionLaw
import Derived.Test.YtakddkhipelmjaaGreatPartH4
set_option maxRecDepth 100000
set_option linter.unusedVariables false
set_option maxHeartbeats 64000000
namespace Go.Proofs.YtakddkhipelmjaaGreat
open Go.Deep Go.RowKit
def dP {α:Type} (c:α→α→Int) (l:List α) (x:α):Nat:=l.countP fun y=>decide (c y x < 0)
theorem ou {α:Type} (p:α→Bool):∀ (l:List α) (i:Nat),i≤l.length→(∀ t (h:t < l.length),t < i→p l[t]=true)→(∀ t (h:t < l.length),i≤t→p l[t]=false)→l.countP p=i
 | [],i,hi,_,_=>by simp at hi;simp [hi]
 | a::r,0,_,_,h2=>by
  rw [List.countP_eq_zero];intro x hx;obtain ⟨t,ht,rfl⟩:=List.getElem_of_mem hx;rw [h2 t ht (Nat.zero_le _)];simp
 | a::r,i+1,hi,h1,h2=>by
  have ha:p a=true:=h1 0 (by simp) (Nat.succ_pos _);rw [List.countP_cons_of_pos ha,ou p r i (by simpa using hi) (fun t h ht=>h1 (t+1) (by simpa using h) (by omega)) (fun t h ht=>h2 (t+1) (by simpa using h) (by omega))]
theorem ed {α:Type} {c:α→α→Int} (tr:∀ a b d,c a b < 0→c b d < 0→c a d < 0) {l:List α} (h:aM c l=true):∀ (a b:Nat) (ha:a < l.length) (hb:b < l.length),a < b→c l[a] l[b] < 0:=by
 intro a b
 induction b with
 | zero=>intro ha hb hab;omega
 | succ b ih =>
  intro ha hb hab;have h1:=(cL c l).1 h b hb
  rcases Nat.lt_or_ge a b with h2 | h2
  ·exact tr _ _ _ (ih ha (by omega) h2) h1
  ·have:a=b:=by omega
   subst this;exact h1
theorem BS {α:Type} {c:α→α→Int} (tr:∀ a b d,c a b < 0→c b d < 0→c a d < 0) {l:List α} (h:aM c l=true) (x:α) (a b:Nat) (ha:a < l.length) (hb:b < l.length) (hab:a≤b) (hx:c l[b] x < 0):c l[a] x < 0:=by
 rcases Nat.lt_or_ge a b with h2 | h2
 ·exact tr _ _ _ (ed tr h a b ha hb h2) hx
 ·have:a=b:=by omega
  subst this;exact hx
theorem fT {α:Type} (c:α→α→Int) (l:List α) (x:α):dP c l x≤l.length:=List.countP_le_length
def eK {α:Type} (c:α→α→Int) (l:List α) (x:α):Bool:=match l[dP c l x]? with | some y=>decide (c y x=0) | none=>false
def cP {α:Type} (l:List α) (p:Nat) (x:α):List α:=l.take p++[x]++l.drop p
theorem xW {α:Type} {c:α→α→Int} {l:List α} {x:α} (h:eK c l x=true):dP c l x < l.length:=by
 unfold eK at h
 rcases Nat.lt_or_ge (dP c l x) l.length with h1 | h1
 ·exact h1
 ·rw [List.getElem?_eq_none h1] at h;cases h
structure tH {α:Type} (c:α→α→Int):Prop where
 tr:∀ a b d,c a b < 0→c b d < 0→c a d < 0
 dN:∀ a b,c a b = - c b a
 Pb:∀ a b,c a b=0→a=b
theorem tH.refl {α:Type} {c:α→α→Int} (o:tH c) (a:α):c a a=0:=by have:=o.dN a a;omega
theorem Jf {α:Type} (p:α→Bool) (l:List α) (mono:∀ a b (ha:a < l.length) (hb:b < l.length),a≤b→p l[b]=true→p l[a]=true):∀ n,n≤l.length→∃ i,i≤n∧(∀ t (h:t < l.length),t < i→p l[t]=true)∧(∀ t (h:t < l.length),i≤t→t < n→p l[t]=false):=by
 intro n
 induction n with
 | zero=>intro _;exact ⟨0,Nat.le_refl _,fun t _ h=>absurd h (Nat.not_lt_zero t),fun t _ _ h=>absurd h (Nat.not_lt_zero t)⟩
 | succ n ih =>
  intro hn;obtain ⟨i,hi,h1,h2⟩:=ih (by omega)
  cases hp:p (l[n]'(by omega))
  ·refine ⟨i,by omega,h1,fun t ht h3 h4=>?_⟩
   rcases Nat.lt_or_ge t n with h5 | h5
   ·exact h2 t ht h3 h5
   ·have:t=n:=by omega
    subst this;exact hp
  ·refine ⟨n+1,Nat.le_refl _,fun t ht h3=>mono t n ht (by omega) (by omega) hp,fun t ht h3 h4=>by omega⟩
theorem nz {α:Type} {c:α→α→Int} (tr:∀ a b d,c a b < 0→c b d < 0→c a d < 0) {l:List α} (h:aM c l=true) (x:α):(∀ t (h:t < l.length),t < dP c l x→c l[t] x < 0)∧(∀ t (h:t < l.length),dP c l x≤t→¬ c l[t] x < 0):=by
 obtain ⟨i,hi,h1,h2⟩:=Jf (fun y=>decide (c y x < 0)) l (fun a b ha hb hab hx=>decide_eq_true (BS tr h x a b ha hb hab (of_decide_eq_true hx))) l.length (Nat.le_refl _)
 have hp:dP c l x=i:=ou _ l i hi h1 fun t ht hit=>h2 t ht hit ht
 rw [hp];exact ⟨fun t ht hl=>of_decide_eq_true (h1 t ht hl),fun t ht hl=>of_decide_eq_false (h2 t ht hl ht)⟩
theorem Fe {α:Type} {c:α→α→Int} (o:tH c) {l:List α} (h:aM c l=true) (x:α):(∀ t (h:t < l.length),t < dP c l x→c l[t] x < 0)∧(∀ t (h:t < l.length),dP c l x≤t→¬ c l[t] x < 0):=nz o.tr h x
theorem vd {α:Type} {c:α→α→Int} (o:tH c) {l:List α} (h:aM c l=true) (x:α):eK c l x=true↔x∈l:=by
 obtain ⟨h1,h2⟩:=Fe o h x;unfold eK
 constructor
 ·intro ht
  split at ht
  ·next y hy =>
   have:=o.Pb _ _ (of_decide_eq_true ht);subst this;exact List.mem_of_getElem? hy
  ·cases ht
 ·intro hx
  obtain ⟨t,ht,he⟩:=List.getElem_of_mem hx
  have h3:dP c l x≤t:=by
   rcases Nat.lt_or_ge t (dP c l x) with h4 | h4
   ·have:=h1 t ht h4;rw [he,o.refl] at this;omega
   ·exact h4
  have h4:dP c l x=t:=by
   rcases Nat.lt_or_ge (dP c l x) t with h5 | h5
   ·have:=ed o.tr h _ t (by omega) ht h5
    rw [he] at this;exact absurd this (h2 _ (by omega) (Nat.le_refl _))
   ·omega
  rw [h4,List.getElem?_eq_getElem ht,he];exact decide_eq_true (o.refl x)
theorem Ff {α:Type} {c:α→α→Int} (tr:∀ a b d,c a b < 0→c b d < 0→c a d < 0) (dN:∀ a b,c a b = - c b a) {l:List α} (hr:aM c l=true) {x:α} (hn:∀ y∈l,c y x≠0) (t:Nat) (ht:t < l.length):decide (c x l[t] < 0)=decide (dP c l x≤t):=by
 obtain ⟨h1,h2⟩:=nz tr hr x
 rcases Nat.lt_or_ge t (dP c l x) with h3 | h3
 ·have h4:=h1 t ht h3
  have h5:=dN x l[t];rw [decide_eq_false (by omega),decide_eq_false (by omega)]
 ·have h4:=h2 t ht h3
  have h5:=dN x l[t];have h6:=hn l[t] (List.getElem_mem ht);rw [decide_eq_true (by omega),decide_eq_true h3]
theorem Fg {α:Type} {c:α→α→Int} (o:tH c) {l:List α} (hr:aM c l=true) {x:α} (h:eK c l x=false):∀ y∈l,c y x≠0:=fun y hy e=>by
 have:=o.Pb _ _ e;subst this;rw [(vd o hr y).2 hy] at h;cases h
theorem gV {α:Type} {c:α→α→Int} (tr:∀ a b d,c a b < 0→c b d < 0→c a d < 0) (dN:∀ a b,c a b = - c b a) {l:List α} (hr:aM c l=true) {x:α} (hn:∀ y∈l,c y x≠0):aM c (cP l (dP c l x) x)=true:=by
 have hp:=fT c l x;obtain ⟨h1,h2⟩:=nz tr hr x;have h3:=Ff tr dN hr hn;generalize dP c l x=p at *;rw [cL];intro k hk;unfold cP at *
 have hlen:(l.take p).length=p:=by simp;omega
 have g1:∀ t,t < p→(l.take p++[x]++l.drop p)[t]? = l[t]? := fun t ht=>by
  rw [List.getElem?_append_left (by simp;omega),List.getElem?_append_left (by omega),List.getElem?_take_of_lt ht]
 have g2:(l.take p++[x]++l.drop p)[p]? = some x:=by
  rw [List.getElem?_append_left (by simp;omega),List.getElem?_append_right (by omega),hlen];simp
 have g3:∀ t,p < t→(l.take p++[x]++l.drop p)[t]? = l[t - 1]? := fun t ht=>by
  rw [List.getElem?_append_right (by simp;omega)];simp only [List.length_append,hlen,List.length_singleton,List.getElem?_drop]
  congr 1;omega
 have hl2:(l.take p++[x]++l.drop p).length=l.length+1:=by simp;omega
 generalize hL:l.take p++[x]++l.drop p=L at *
 rcases Nat.lt_trichotomy (k+1) p with h5 | h5 | h5
 ·have e1:=g1 k (by omega)
  have e2:=g1 (k+1) h5;rw [List.getElem?_eq_getElem (by omega),List.getElem?_eq_getElem (by omega)] at e1 e2;simp only [Option.some.injEq] at e1 e2;rw [e1,e2];exact (cL c l).1 hr k (by omega)
 ·have e1:=g1 k (by omega)
  subst h5;rw [List.getElem?_eq_getElem (by omega),List.getElem?_eq_getElem (by omega)] at e1;rw [List.getElem?_eq_getElem (by omega)] at g2;simp only [Option.some.injEq] at e1 g2;rw [e1,g2];exact h1 k (by omega) (by omega)
 ·rcases Nat.lt_or_ge p k with h6 | h6
  ·have e1:=g3 k h6
   have e2:=g3 (k+1) h5;rw [List.getElem?_eq_getElem (by omega),List.getElem?_eq_getElem (by omega)] at e1 e2;simp only [Option.some.injEq] at e1 e2;rw [e1,e2];have:=(cL c l).1 hr (k - 1) (by omega)
   have mS:k - 1+1=k:=by omega
   simp only [mS] at this;exact this
  ·have:k=p:=by omega
   subst this;have e2:=g3 (k+1) h5;rw [List.getElem?_eq_getElem (by omega),List.getElem?_eq_getElem (by omega)] at e2;rw [List.getElem?_eq_getElem (by omega)] at g2;simp only [Option.some.injEq,Nat.add_sub_cancel] at e2 g2;rw [e2,g2];exact of_decide_eq_true ((h3 k (by omega)).trans (decide_eq_true (Nat.le_refl _)))
theorem uq {α:Type} {c:α→α→Int} (o:tH c) {l:List α} (hr:aM c l=true) {x:α} (h:eK c l x=false):aM c (cP l (dP c l x) x)=true:=gV o.tr o.dN hr (Fg o hr h)
theorem bK {α:Type} {l:List α} {p:Nat} {x y:α}:y∈cP l p x↔y=x∨y∈l:=by
 unfold cP
 conv=>rhs;rw [← List.take_append_drop p l]
 simp only [List.mem_append,List.mem_singleton]
 grind
theorem eI {α:Type} (l:List α) (p:Nat) (x:α) (h:p≤l.length):(cP l p x).length=l.length+1:=by unfold cP;simp;omega
theorem Ml (a b d:ByteArray) (h1:bv a b < 0) (h2:bv b d < 0):bv a d < 0:=kA h1 h2
theorem Dx (a b d:dO) (h1:gQ a b < 0) (h2:gQ b d < 0):gQ a d < 0:=by
 unfold gQ iR at *;by_cases e1:bv a.role b.role=0
 ·have q1:txt a.role=txt b.role:=(ot _ _).1 ((fw _ _).1 e1)
  have f1:bv a.role d.role=bv b.role d.role:=by unfold bv;unfold txt at q1;rw [q1]
  simp only [e1,beq_self_eq_true,if_true] at h1;by_cases e2:bv b.role d.role=0
  ·simp only [e2,beq_self_eq_true,if_true] at h2
   simp only [f1,e2,beq_self_eq_true,if_true];exact kA h1 h2
  ·have JM:(bv b.role d.role==0)=false:=by simpa using e2
   simp only [JM,Bool.false_eq_true,if_false] at h2;simp only [f1,JM,Bool.false_eq_true,if_false];exact h2
 ·have OA:(bv a.role b.role==0)=false:=by simpa using e1
  simp only [OA,Bool.false_eq_true,if_false] at h1;by_cases e2:bv b.role d.role=0
  ·have q1:txt b.role=txt d.role:=(ot _ _).1 ((fw _ _).1 e2)
   have f1:bv a.role d.role=bv a.role b.role:=by unfold bv;unfold txt at q1;rw [q1]
   simp only [f1,OA,Bool.false_eq_true,if_false];exact h1
  ·have JM:(bv b.role d.role==0)=false:=by simpa using e2
   simp only [JM,Bool.false_eq_true,if_false] at h2;have h3:=kA h1 h2
   have e3':(bv a.role d.role==0)=false:=by simp;omega
   simp only [e3',Bool.false_eq_true,if_false];exact h3
theorem Jg:(Tryz.prog.info? 109).map (fun i=>(i.zero,i.size,i.bytes))=some (some (.agg #[.string ByteArray.empty,.string ByteArray.empty]),2,32):=by kernel_rfl
theorem O7 (g cap i m B:Nat) (xs:List Value) (w:World) (ho:w.ownsRow B 109 2 (.slice (some ⟨g,0,none⟩) (i+1+m) cap) (i+1+m) xs) (h1:∀ u∈xs,u.oneCell'=true) (hb:cap≤9223372036854775807) :
  Calls Tryz.prog 281 #[.slice (some ⟨g,0,none⟩) (i+1+m) cap,.int .i64 i,.int .i64 ((i:Int)+1)] w (UE 109 2 w B g cap i m xs):=by
 obtain ⟨i0,mL,hz0,hz1,hz2⟩:=info_parts Jg;obtain ⟨g',cap',hv',hgb,pV,hr⟩:=bU ho (by omega);simp only [Value.slice.injEq,true_and,Option.some.injEq,Addr.mk.injEq,and_true] at hv';obtain ⟨rfl,rfl⟩:=hv';have hx:=ho.1
 have zh:∀ w:World,(zeroValue 109).run Tryz.prog w=.ok (.agg #[.string ByteArray.empty,.string ByteArray.empty]) w:=fun w=>by kernel_rfl
 obtain ⟨news,hnews⟩:∃ news,news=xs.drop ((i+1)*2):=⟨_,rfl⟩
 have hlen:news.length=m*2:=by rw [hnews,List.length_drop,hx];omega
 have BL:∃ A:Addr,(if cap=i+1 then some (⟨g,0,none⟩:Addr) else some ⟨g,(i+1)*2,none⟩)=some A∧Hid (∀ t u,news[t]? = some u→w.drew.cell? (A.add t)=some u):=by
  by_cases h:cap=i+1
  ·refine ⟨⟨g,0,none⟩,by simp [h],gH fun t u hu=>?_⟩
   have h0:news.length=0:=by rw [hlen];omega
   rw [List.length_eq_zero_iff.1 h0] at hu;simp at hu
  ·refine ⟨⟨g,(i+1)*2,none⟩,by simp [h],gH fun t u hu=>?_⟩
   rw [hnews,List.getElem?_drop] at hu;rw [Addr.add_lit];exact hr.cell hu
 obtain ⟨A,hA,BL⟩:=BL;have s1:=gH hlen;have s2:=gH (show ∀ u∈news,u.oneCell'=true from fun u hu=>h1 u (by rw [hnews] at hu;exact List.mem_of_mem_drop hu))
 have s3:=gH (show ∀ t,t < news.length→(w.drew.cell? ⟨g,0+i*2+t,none⟩).isSome=true∧w.drew.frozen? ⟨g,0+i*2+t,none⟩=false from fun t ht=>by
  rw [hlen] at ht
  have hl:0+i*2+t < xs.length:=by rw [hx];omega
  exact ⟨by show (w.cell? _).isSome=true;rw [hr.2.1 _ hl,List.getElem?_eq_getElem hl];rfl,hr.2.2 _ hl⟩)
 obtain ⟨W1,hW1⟩:∃ W1,W1=w.drew.setCells g (0+i*2) news:=⟨_,rfl⟩
 have mm:W1.ownsRow B 109 2 (.slice (some ⟨g,0,none⟩) (i+1+m) cap) (i+1+m) (nk xs (0+i*2) news):=by rw [hW1];exact dl (g:=g) rfl news _ (cA ho (ag.refl w).drew)
 obtain ⟨_,_,nC,_,_,hr1⟩:=bU mm (by omega);simp only [Value.slice.injEq,true_and,Option.some.injEq,Addr.mk.injEq,and_true] at nC;obtain ⟨rfl,rfl⟩:=nC
 have pT:∀ ty,(Builtin.clear_ #[22] ty #[.slice (some ⟨g,(i+m)*2,none⟩) 1 (cap - (i+m))]).run Tryz.prog W1=.ok (.tuple #[]) (W1.setCells g ((i+m)*2) [.string ByteArray.empty,.string ByteArray.empty]):=fun ty=>by
  refine tL W1 _ _ ty _ Tryz.underlying22 zh (by intro u hu;have hu:u∈([.string ByteArray.empty,.string ByteArray.empty]:List Value):=hu;simp only [List.mem_cons,List.not_mem_nil,or_false] at hu;rcases hu with rfl | rfl<;>rfl) g ((i+m)*2) (cap - (i+m)) (fun j hj=>?_) (fun j hj=>?_)
  ·have hj':j < 2:=hj
   have hl:(i+m)*2+j < (nk xs (0+i*2) news).length:=by rw [lL,hx];omega
   rw [hr1.2.1 _ hl,List.getElem?_eq_getElem hl];rfl
  ·have hj':j < 2:=hj
   exact hr1.2.2 _ (by rw [lL,hx];omega)
 have HF:=gH (show UE 109 2 w B g cap i m xs (.returned (.slice (some ⟨g,0,none⟩) (i+m) cap)) (W1.setCells g ((i+m)*2) [.string ByteArray.empty,.string ByteArray.empty]) from by
  refine ⟨rfl,?_,?_⟩
  ·rw [hW1,hnews,Nat.zero_add]
   exact LZ (cA ho (ag.refl w).drew) rfl
  ·rw [hW1]
   exact (Kb.aO (ag.refl w).drew).trans ((dL g news _ _).trans (dL g _ _ _)))
 have hW:=gH hW1
 (try simp only [Nat.mul_one] at hA)
 have hic:i≤cap:=by omega
 have hjc:i+1≤cap:=by omega
 have hne:((i:Int)==(i:Int)+1)=false:=by simp;omega
 clear hW1 mm hr1 hr ho hnews hlen h1 hx
 go_in
 have k0:(0:Int)≤(i:Int)+1:=by omega
 have k1:(i:Int)+1≤(i:Int)+1+(m:Int):=by omega
 go_wp2_with fail
 go_region_law (refine step_append_room rfl (.tmp 22) (.tmp 25) 22 rfl 109 i0 2 Tryz.underlying22 mL hz1 g 0 i cap (by simp [Act.eval,Act.put]) A m (cap - (i+1)) news (by simp [Act.eval,Act.put]) s1.out BL.out s2.out (by omega) s3.out ?_;rw [← hW.out])
 have YT:∀ ty,(Builtin.clear_ #[22] ty #[.slice (some ⟨g,(i+m)*2,none⟩) (i+1+m - (i+m)) (cap - (i+m))]).run Tryz.prog W1=.ok (.tuple #[]) (W1.setCells g ((i+m)*2) [.string ByteArray.empty,.string ByteArray.empty]):=fun ty=>by
  have e1:i+1+m - (i+m)=1:=by omega
  rw [e1];exact pT ty
 (try simp only [Nat.mul_one] at YT)
 have hcm:¬ cap=i+m:=by omega
 have k3:(i:Int)+(m:Int)≤(i:Int)+1+(m:Int):=by omega
 have k4:(0:Int)≤(i:Int)+(m:Int):=by omega
 have k5:(i:Int)+1+(m:Int)≤(cap:Int):=by omega
 go_wp2;go_ret
 first | exact HF.out | (have h9:=HF.out;simp only [Nat.mul_one] at h9;exact h9)
def xO (name:ByteArray) (r:gW):gW × Int:=if eK bv r.names name then (if r.members.any (xY name) then (r,73) else ({ r with names:=r.names.eraseIdx (dP bv r.names name) },0)) else (r,71)
def rK (x:dO) (r:gW):gW × Int:=if eK gQ r.members x then ({ r with members:=r.members.eraseIdx (dP gQ r.members x) },0) else (r,71)
def Ha (name:ByteArray) (r:gW):gW × Int:=if bG name then (if eK bv r.names name then (r,70) else (if 16≤r.names.length then (r,2) else ({ r with names:=cP r.names (dP bv r.names name) name },0))) else (r,1)
noncomputable def xP (x:dO) (r:gW):gW × Int:=if eu r.names x.role&&eu r.names x.of then (if eK gQ r.members x then (r,70) else (if dI r.members x.of x.role then (r,72) else ({ r with members:=cP r.members (dP gQ r.members x) x },0))) else (r,71)
theorem vg {ms:List dO} {s a b:ByteArray} (h:aS a b=true):dI ms s a=dI ms s b:=by
 unfold dI;rw [(ot a b).1 h]
theorem BU (ms:List dO) (s t:ByteArray) (l:List ByteArray):eu (l.filter (dI ms s)) t=(dI ms s t&&eu l t):=by
 unfold eu
 induction l with
 | nil=>simp
 | cons x l ih =>
  rw [List.filter_cons,List.any_cons]
  cases h:aS x t
  ·cases h2:dI ms s x
   ·simp [ih]
   ·simp [ih,h]
  ·cases h2:dI ms s x
   ·rw [vg h] at h2
    rw [if_neg (by simp),ih,h2];simp
   ·have h3:=h2
    rw [vg h] at h3;rw [if_pos (by simp),List.any_cons,h,h3];simp
theorem Pd (r:gW) (a b:ByteArray):Aw r a b=(bI r&&eu r.names a&&(dI r.members a b&&eu r.names b)):=by
 unfold Aw;rw [BU]
theorem sG (ms:List dO) (a b:ByteArray):dI ms a b=true↔Reach ms (txt a) (txt b):=by
 unfold dI;simp only [decide_eq_true_eq]
theorem lX {a b:ByteArray} (h:txt a=txt b):a=b:=by
 unfold txt at h
 cases a;cases b
 simp only [Array.toList_inj] at h;rw [h]
theorem lY (a b:ByteArray):aS a b=true↔a=b:=⟨fun h=>lX ((ot _ _).1 h),fun h=>(ot _ _).2 (by rw [h])⟩
theorem qh:tH bv:=⟨Ml,j6,fun a b h=>(lY _ _).1 ((fw _ _).1 h)⟩
theorem KO:tH gQ:=⟨Dx,uZ,fun a b h=>by
 unfold gQ iR at h;obtain ⟨a1,a2⟩:=a;obtain ⟨b1,b2⟩:=b;simp only at h;by_cases e:bv a1 b1=0
 ·rw [if_pos (by simpa using e)] at h
  rw [qh.Pb _ _ e,qh.Pb _ _ h]
 ·rw [if_neg (by simpa using e)] at h
  exact absurd h e⟩
theorem ig (l:List ByteArray) (s:ByteArray):eu l s=true↔s∈l:=by
 unfold eu;rw [List.any_eq_true];exact ⟨fun ⟨x,hx,h⟩=>by rw [← (lY _ _).1 h];exact hx,fun h=>⟨s,h,(lY _ _).2 rfl⟩⟩
theorem Ey {l:List ByteArray} (hr:aM bv l=true) (s:ByteArray):eu l s=eK bv l s:=by
 rw [Bool.eq_iff_iff,ig,vd qh hr]
theorem kp {ms:List dO} {s:dt} {y:ByteArray}:y∈succ ms s↔∃ m∈ms,txt m.role=s∧m.of=y:=by
 unfold succ;rw [List.mem_map]
 constructor
 ·rintro ⟨m,hm,rfl⟩
  obtain ⟨h1,h2⟩:=List.mem_filter.1 hm;exact ⟨m,h1,by simpa using h2,rfl⟩
 ·rintro ⟨m,hm,h1,rfl⟩
  exact ⟨m,List.mem_filter.2 ⟨hm,by simpa using h1⟩,rfl⟩
theorem Reach.mono {ms UZ:List dO} (hs:∀ m∈ms,m∈UZ) {s t:dt} (h:Reach ms s t):Reach UZ s t:=by
 induction h with
 | refl=>exact .refl _
 | step h1 hx he ih =>
  obtain ⟨m,hm,h2,h3⟩:=kp.1 hx;exact ih.step (kp.2 ⟨m,hs m hm,h2,h3⟩) he
theorem Reach.cut {ms UZ:List dO} {x:dO} (hs:∀ m∈UZ,m=x∨m∈ms) {s t:dt} (h:Reach UZ s t):Reach ms s t∨(Reach ms s (txt x.role)∧Reach ms (txt x.of) t):=by
 induction h with
 | refl=>exact .inl (.refl _)
 | step h1 hx he ih =>
  obtain ⟨m,hm,h2,h3⟩:=kp.1 hx
  rcases hs m hm with e | e
  ·subst e
   subst h3;subst h2;subst he
   rcases ih with i | i
   ·exact .inr ⟨i,.refl _⟩
   ·exact .inr ⟨i.1,.refl _⟩
  ·rcases ih with i | i
   ·exact .inl (i.step (kp.2 ⟨m,e,h2,h3⟩) he)
   ·exact .inr ⟨i.1,i.2.step (kp.2 ⟨m,e,h2,h3⟩) he⟩
theorem yK {l:List dO} (hr:aM gQ l=true):(l.map fun m=>(m.role,m.of)).Nodup:=by
 rw [List.nodup_iff_pairwise_ne,List.pairwise_map,List.pairwise_iff_getElem];intro i j hi hj mU e;have h1:=ed Dx hr i j hi hj mU
 have:l[i]=l[j]:=by
  generalize l[i]=a at *;generalize l[j]=b at *;obtain ⟨a1,a2⟩:=a;obtain ⟨b1,b2⟩:=b;simp only [Prod.mk.injEq] at e;rw [e.1,e.2]
 rw [this,KO.refl] at h1;omega
theorem Fh {r:gW} (hr:aM gQ r.members=true) (hn:r.names.length≤16) (hi:∀ m∈r.members,m.role∈r.names∧m.of∈r.names):r.members.length≤256:=by
 have h1:=sF (l:=r.members.map fun m=>(m.role,m.of)) (l':=r.names.flatMap fun a=>r.names.map fun b=>(a,b)) (yK hr) (fun y hy=>by
  obtain ⟨m,hm,rfl⟩:=List.mem_map.1 hy
  exact List.mem_flatMap.2 ⟨m.role,(hi m hm).1,List.mem_map.2 ⟨m.of,(hi m hm).2,rfl⟩⟩)
 have h2:(r.names.flatMap fun a=>r.names.map fun b=>(a,b)).length=r.names.length*r.names.length:=by
  have h3:∀ (l:List ByteArray) (n:Nat),(l.map fun _=>n).sum=l.length*n:=fun l n=>by
   induction l with
   | nil=>simp
   | cons a l ih=>simp [ih,Nat.succ_mul];omega
  rw [List.length_flatMap];simp only [List.length_map];exact h3 _ _
 rw [List.length_map,h2] at h1;exact Nat.le_trans h1 (Nat.mul_le_mul hn hn)
theorem cG {r:gW}:bI r=true↔r.names.length≤16∧r.members.length≤256∧aM bv r.names=true∧aM gQ r.members=true∧(∀ s∈r.names,bG s=true)∧∀ m∈r.members,m.role∈r.names∧m.of∈r.names∧¬ Reach r.members (txt m.of) (txt m.role):=by
 unfold bI;simp only [Bool.and_eq_true,decide_eq_true_eq,List.all_eq_true,lR,ig,Bool.not_eq_true',and_assoc]
 have e:∀ a b,dI r.members a b=false↔¬ Reach r.members (txt a) (txt b):=fun a b=>by rw [← sG];simp
 simp only [e]
theorem AJ {r:gW} {x:dO} (h:bI r=true) (h1:eu r.names x.role=true) (h2:eu r.names x.of=true) (h3:eK gQ r.members x=false) (h4:dI r.members x.of x.role=false):bI { r with members:=cP r.members (dP gQ r.members x) x }=true:=by
 have hp:=cG.1 h;obtain ⟨p1,p2,p3,p4,p5,p6⟩:=hp
 have YU:¬ Reach r.members (txt x.of) (txt x.role):=by rw [← sG,h4];simp
 have hm:∀ m∈cP r.members (dP gQ r.members x) x,m=x∨m∈r.members:=fun m hm=>bK.1 hm
 have U0:=uq KO p4 h3
 have wL:∀ m∈cP r.members (dP gQ r.members x) x,m.role∈r.names∧m.of∈r.names:=fun m qj=>by
  rcases hm m qj with e | e
  ·subst e;exact ⟨(ig _ _).1 h1,(ig _ _).1 h2⟩
  ·exact ⟨(p6 m e).1,(p6 m e).2.1⟩
 refine cG.2 ⟨p1,Fh (r:={ r with members:=cP r.members (dP gQ r.members x) x }) U0 p1 wL,p3,U0,p5,fun m qj=>⟨(wL m qj).1,(wL m qj).2,fun hr=>?_⟩⟩;have hc:=Reach.cut hm hr
 rcases hm m qj with e | e
 ·subst e
  rcases hc with i | i
  ·exact YU i
  ·exact YU i.1
 ·rcases hc with i | i
  ·exact (p6 m e).2.2 i
  ·have hstep:Reach r.members (txt m.role) (txt m.of):=(Reach.refl _).step (kp.2 ⟨m,e,rfl,rfl⟩) rfl
   exact YU ((i.2.trans hstep).trans i.1)
def iK (c:dY):Bool:=bG c.name&&(c.kind==2 || c.kind==3)
def fl (l:List dY):Bool:=decide (1≤l.length)&&decide (l.length≤8)&&(List.range l.length).all fun i=>match l[i]? with | some c=>iK c&&decide (bu (fun d=>aS d.name c.name) (l.take i) < 0) | none=>true
theorem ox (l:List dY) (k:Nat) (hk:k < l.length) (h:(iK l[k]&&decide (bu (fun d=>aS d.name l[k].name) (l.take k) < 0))=false):fl l=false:=by
 unfold fl;rw [Bool.and_eq_false_iff];right;rw [Bool.eq_false_iff];intro ha;have:=List.all_eq_true.1 ha k (List.mem_range.2 hk);rw [List.getElem?_eq_getElem hk] at this;simp only [h] at this
 cases this
theorem yL (l:List dY) (h1:1≤l.length) (h8:l.length≤8) (h:∀ k,k < l.length→∀ hk:k < l.length,(iK l[k]&&decide (bu (fun d=>aS d.name l[k].name) (l.take k) < 0))=true):fl l=true:=by
 unfold fl;rw [Bool.and_eq_true,List.all_eq_true];refine ⟨by simp [h1,h8],fun k hk=>?_⟩;have uV:=List.mem_range.1 hk;rw [List.getElem?_eq_getElem uV];exact h k uV uV
def emp (s:ByteArray):Bool:=s.toList.isEmpty
theorem ir (a b:ByteArray):(a++b).toList=[]↔a.toList=[]∧b.toList=[]:=by
 simp only [eL,ByteArray.size_append];omega
def bO (l:List dY) (s:ByteArray):Int:=bu (fun c=>aS c.name s) l
def ql (cs:List ByteArray) (s:ByteArray):Bool:=cs.any fun c=>aS c s
def qg (l:List dY) (cs:List ByteArray):Bool:=(List.range cs.length).all fun i=>match cs[i]? with | some s=>decide (0≤bO l s)&&!(ql (cs.take i) s) | none=>true
theorem sH (l:List dY) (cs:List ByteArray) (k:Nat) (hk:k < cs.length) (h:(decide (0≤bO l cs[k])&&!(ql (cs.take k) cs[k]))=false):qg l cs=false:=by
 unfold qg;rw [Bool.eq_false_iff];intro ha;have:=List.all_eq_true.1 ha k (List.mem_range.2 hk);rw [List.getElem?_eq_getElem hk] at this;simp only [h] at this
 cases this
theorem Fi (l:List dY) (cs:List ByteArray) (h:∀ k,k < cs.length→∀ hk:k < cs.length,(decide (0≤bO l cs[k])&&!(ql (cs.take k) cs[k]))=true):qg l cs=true:=by
 unfold qg;rw [List.all_eq_true];intro k hk;have uV:=List.mem_range.1 hk;rw [List.getElem?_eq_getElem uV];exact h k uV uV
def fY (l:List dY) (i:Int):Int:=match l[i.toNat]? with | some c=>c.kind | none=>0
def gJ (l:List dY) (r:fh):Bool :=
 if r.kind==1 || r.kind==2 then emp r.af&&emp r.table&&emp r.key&&r.low==0&&r.high==0
 else if r.kind==3 then emp r.af&&emp r.table&&emp r.key&&((r.au.length:Int)==1)&&fY l (bO l (r.au.headD ByteArray.empty))==2&&decide (r.low≤r.high)
 else if r.kind==4 then bG r.af&&bG r.table&&bG r.key&&r.low==0&&r.high==0
 else false
def dK (l:List dY) (r:fh):Bool:=qg l r.au&&bG r.name&&!(r.au.length==0)&&gJ l r
theorem qH {w w':World} {a b:Value} {ta tb:TypeId} (h:ag ((w.alloc (.cells #[a] ta)).alloc (.cells #[b] tb)) w') :
  w'.cell? ⟨w.heap.size,0,none⟩=some a∧w'.cell? ⟨w.heap.size+1,0,none⟩=some b∧w.heap.size < w'.heap.size∧w.heap.size+1 < w'.heap.size:=by
 have hz:w.heap.size+1 < w'.heap.size:=by have:=h.size;simp at this;omega
 refine ⟨?_,?_,by omega,hz⟩
 ·rw [Below.cell h (p:=⟨w.heap.size,0,none⟩) (by simp;omega),World.cell?_alloc_past _ _ _ (by simp)];simp
 ·rw [Below.cell h (p:=⟨w.heap.size+1,0,none⟩) (by simp),World.cell?_alloc_at _ _ _ _ (by simp)];rfl
theorem sI (name:ByteArray) (kind:Int) (null:Bool) (w:World) :
  Calls Tryz.prog 287 #[.agg #[.string name,.int .i64 kind,.bool null]] w fun e w'=>e=.returned (.string name)∧ag w w':=by
 go_in
 go_wp2;go_ret;exact ⟨rfl,(ag.refl _).alloc _⟩
theorem Ql (name:ByteArray) (kind:Int) (null:Bool) (s:ByteArray) (b1 b2:Nat) (w:World) (hb1:b1 < w.heap.size) (hb2:b2 < w.heap.size) (hc1:w.cell? ⟨b1,0,none⟩=some (.func (.func 287) #[] #[])) (hc2:w.cell? ⟨b2,0,none⟩=some (.string s)) :
  Calls Tryz.prog 345 #[.agg #[.string name,.int .i64 kind,.bool null],.pointer (some ⟨b1,0,none⟩),.pointer (some ⟨b2,0,none⟩)] w fun e w'=>e=.returned (.bool (aS name s))∧ag w w':=by
 have Cn:=gH (fun w=>sI name kind null w)
 go_in
 go_wp2_with fail
 have f1:∀ x:iM (w.alloc (.cells #[.string name,.int .i64 kind,.bool null] 169)),(bV _ x).cell? ⟨b1,0,none⟩=some (.func (.func 287) #[] #[]):=fun x=>(fp _ x b1 0 (by simp;omega)).trans ((World.cell?_alloc_past _ _ _ hb1).trans hc1)
 have f2:∀ x:iM (w.alloc (.cells #[.string name,.int .i64 kind,.bool null] 169)),(bV _ x).cell? ⟨b2,0,none⟩=some (.string s):=fun x=>(fp _ x b2 0 (by simp;omega)).trans ((World.cell?_alloc_past _ _ _ hb2).trans hc2)
 have f3:∀ x:iM (w.alloc (.cells #[.string name,.int .i64 kind,.bool null] 169)),∀ o,(bV _ x).cell? ⟨w.heap.size,o,none⟩=(#[.string name,.int .i64 kind,.bool null]:Array Value)[o]? := fun x o=>(fp _ x _ o (by simp)).trans (World.cell?_alloc_at _ _ _ _ rfl)
 refine ay (by kernel_rfl) (by kernel_rfl) ?_
 repeat (go_big_quiet_step ((first | (go_at_call 287;exact Calls.bk (Cn.out _)))))
 refine wpQuiet_nil ?_;intro _ hw';obtain ⟨x,hw''⟩:=hw';subst hw'';clear f1 f2 f3 hc1 hc2;go_wp2;go_ret;exact ⟨rfl,((ag.refl _).alloc _).bV x⟩
theorem Dy (A:Option Addr) (cap:Nat) (l:List dY) (s:ByteArray) (w:World) (h:az w 3 fL A cap l) :
  Calls Tryz.prog 286 #[.slice A l.length cap,.string s,.func (.func 287) #[] #[]] w fun e w'=>e=.returned (.int .i64 (bu (fun c=>aS c.name s) l))∧ag w w':=by
 have cM:=enters (P:=Tryz.prog) Tryz.func345 (by kernel_rfl) rfl
 have C:=gH (Qf A cap l 345 #[.pointer (some ⟨w.heap.size+1,0,none⟩),.pointer (some ⟨w.heap.size,0,none⟩)] (fun c=>aS c.name s) ((w.alloc (.cells #[.string s] 9)).alloc (.cells #[.func (.func 287) #[] #[]] 333)) (dF (((ag.refl w).alloc _).alloc _) h) cM (fun w' ha i hi =>by
  obtain ⟨d1,d2,z1,z2⟩:=qH ha
  exact Ql _ _ _ s (w.heap.size+1) w.heap.size w' z2 z1 d2 d1))
 go_in
 go_wp2_with fail;refine C.out.mono ?_;rintro e w1 ⟨rfl,a1⟩;have HA:=gH ((((ag.refl w).alloc _).alloc _).trans a1);clear a1;go_wp2;go_ret;exact ⟨rfl,HA.out⟩
theorem sJ (name:ByteArray) (owner:ByteArray) (w:World) :
  Calls Tryz.prog 248 #[.agg #[.string name,.string owner]] w fun e w'=>e=.returned (.string name)∧ag w w':=by
 go_in
 go_wp2;go_ret;exact ⟨rfl,(ag.refl _).alloc _⟩
theorem Qm (name:ByteArray) (owner:ByteArray) (s:ByteArray) (b1 b2:Nat) (w:World) (hb1:b1 < w.heap.size) (hb2:b2 < w.heap.size) (hc1:w.cell? ⟨b1,0,none⟩=some (.func (.func 248) #[] #[])) (hc2:w.cell? ⟨b2,0,none⟩=some (.string s)) :
  Calls Tryz.prog 326 #[.agg #[.string name,.string owner],.pointer (some ⟨b1,0,none⟩),.pointer (some ⟨b2,0,none⟩)] w fun e w'=>e=.returned (.bool (aS name s))∧ag w w':=by
 have Cn:=gH (fun w=>sJ name owner w)
 go_in
 go_wp2_with fail
 have f1:∀ x:iM (w.alloc (.cells #[.string name,.string owner] 109)),(bV _ x).cell? ⟨b1,0,none⟩=some (.func (.func 248) #[] #[]):=fun x=>(fp _ x b1 0 (by simp;omega)).trans ((World.cell?_alloc_past _ _ _ hb1).trans hc1)
 have f2:∀ x:iM (w.alloc (.cells #[.string name,.string owner] 109)),(bV _ x).cell? ⟨b2,0,none⟩=some (.string s):=fun x=>(fp _ x b2 0 (by simp;omega)).trans ((World.cell?_alloc_past _ _ _ hb2).trans hc2)
 have f3:∀ x:iM (w.alloc (.cells #[.string name,.string owner] 109)),∀ o,(bV _ x).cell? ⟨w.heap.size,o,none⟩=(#[.string name,.string owner]:Array Value)[o]? := fun x o=>(fp _ x _ o (by simp)).trans (World.cell?_alloc_at _ _ _ _ rfl)
 refine ay (by kernel_rfl) (by kernel_rfl) ?_
 repeat (go_big_quiet_step ((first | (go_at_call 248;exact Calls.bk (Cn.out _)))))
 refine wpQuiet_nil ?_;intro _ hw';obtain ⟨x,hw''⟩:=hw';subst hw'';clear f1 f2 f3 hc1 hc2;go_wp2;go_ret;exact ⟨rfl,((ag.refl _).alloc _).bV x⟩
theorem GQ (A:Option Addr) (cap:Nat) (l:List fK) (s:ByteArray) (w:World) (h:az w 2 eE A cap l) :
  Calls Tryz.prog 247 #[.slice A l.length cap,.string s,.func (.func 248) #[] #[]] w fun e w'=>e=.returned (.int .i64 (bu (fun c=>aS c.name s) l))∧ag w w':=by
 have cM:=enters (P:=Tryz.prog) Tryz.func326 (by kernel_rfl) rfl
 have C:=gH (vx A cap l 326 #[.pointer (some ⟨w.heap.size+1,0,none⟩),.pointer (some ⟨w.heap.size,0,none⟩)] (fun c=>aS c.name s) ((w.alloc (.cells #[.string s] 9)).alloc (.cells #[.func (.func 248) #[] #[]] 298)) (bQ (((ag.refl w).alloc _).alloc _) h) cM (fun w' ha i hi =>by
  obtain ⟨d1,d2,z1,z2⟩:=qH ha
  exact Qm _ _ s (w.heap.size+1) w.heap.size w' z2 z1 d2 d1))
 go_in
 go_wp2_with fail;refine C.out.mono ?_;rintro e w1 ⟨rfl,a1⟩;have HA:=gH ((((ag.refl w).alloc _).alloc _).trans a1);clear a1;go_wp2;go_ret;exact ⟨rfl,HA.out⟩
theorem wu (name:ByteArray) (kind:Int) (A0:Option Addr) (n0:Nat) (c0:Nat) (lo:Int) (hi:Int) (rs:ByteArray) (rt:ByteArray) (rk:ByteArray) (w:World) :
  Calls Tryz.prog 294 #[.agg #[.string name,.int .i64 kind,.slice A0 n0 c0,.int .i64 lo,.int .i64 hi,.string rs,.string rt,.string rk]] w fun e w'=>e=.returned (.string name)∧ag w w':=by
 go_in
 go_wp2;go_ret;exact ⟨rfl,(ag.refl _).alloc _⟩
theorem Qn (name:ByteArray) (kind:Int) (A0:Option Addr) (n0:Nat) (c0:Nat) (lo:Int) (hi:Int) (rs:ByteArray) (rt:ByteArray) (rk:ByteArray) (s:ByteArray) (b1 b2:Nat) (w:World) (hb1:b1 < w.heap.size) (hb2:b2 < w.heap.size) (hc1:w.cell? ⟨b1,0,none⟩=some (.func (.func 294) #[] #[])) (hc2:w.cell? ⟨b2,0,none⟩=some (.string s)) :
  Calls Tryz.prog 347 #[.agg #[.string name,.int .i64 kind,.slice A0 n0 c0,.int .i64 lo,.int .i64 hi,.string rs,.string rt,.string rk],.pointer (some ⟨b1,0,none⟩),.pointer (some ⟨b2,0,none⟩)] w fun e w'=>e=.returned (.bool (aS name s))∧ag w w':=by
 have Cn:=gH (fun w=>wu name kind A0 n0 c0 lo hi rs rt rk w)
 go_in
 go_wp2_with fail
 have f1:∀ x:iM (w.alloc (.cells #[.string name,.int .i64 kind,.slice A0 n0 c0,.int .i64 lo,.int .i64 hi,.string rs,.string rt,.string rk] 42)),(bV _ x).cell? ⟨b1,0,none⟩=some (.func (.func 294) #[] #[]):=fun x=>(fp _ x b1 0 (by simp;omega)).trans ((World.cell?_alloc_past _ _ _ hb1).trans hc1)
 have f2:∀ x:iM (w.alloc (.cells #[.string name,.int .i64 kind,.slice A0 n0 c0,.int .i64 lo,.int .i64 hi,.string rs,.string rt,.string rk] 42)),(bV _ x).cell? ⟨b2,0,none⟩=some (.string s):=fun x=>(fp _ x b2 0 (by simp;omega)).trans ((World.cell?_alloc_past _ _ _ hb2).trans hc2)
 have f3:∀ x:iM (w.alloc (.cells #[.string name,.int .i64 kind,.slice A0 n0 c0,.int .i64 lo,.int .i64 hi,.string rs,.string rt,.string rk] 42)),∀ o,(bV _ x).cell? ⟨w.heap.size,o,none⟩=(#[.string name,.int .i64 kind,.slice A0 n0 c0,.int .i64 lo,.int .i64 hi,.string rs,.string rt,.string rk]:Array Value)[o]? := fun x o=>(fp _ x _ o (by simp)).trans (World.cell?_alloc_at _ _ _ _ rfl)
 refine ay (by kernel_rfl) (by kernel_rfl) ?_
 repeat (go_big_quiet_step ((first | (go_at_call 294;exact Calls.bk (Cn.out _)))))
 refine wpQuiet_nil ?_;intro _ hw';obtain ⟨x,hw''⟩:=hw';subst hw'';clear f1 f2 f3 hc1 hc2;go_wp2;go_ret;exact ⟨rfl,((ag.refl _).alloc _).bV x⟩
theorem U1 (A:Option Addr) (cap:Nat) (l:List fh) (s:ByteArray) (w:World) (h:az w 8 eG A cap l) :
  Calls Tryz.prog 293 #[.slice A l.length cap,.string s,.func (.func 294) #[] #[]] w fun e w'=>e=.returned (.int .i64 (bu (fun c=>aS c.name s) l))∧ag w w':=by
 have cM:=enters (P:=Tryz.prog) Tryz.func347 (by kernel_rfl) rfl
 have C:=gH (Qg A cap l 347 #[.pointer (some ⟨w.heap.size+1,0,none⟩),.pointer (some ⟨w.heap.size,0,none⟩)] (fun c=>aS c.name s) ((w.alloc (.cells #[.string s] 9)).alloc (.cells #[.func (.func 294) #[] #[]] 337)) (fM (((ag.refl w).alloc _).alloc _) h) cM (fun w' ha i hi e1 he=>by
  obtain ⟨A2,bJ,rfl,_⟩:=he;obtain ⟨d1,d2,z1,z2⟩:=qH ha
  exact Qn _ _ _ _ _ _ _ _ _ _ s (w.heap.size+1) w.heap.size w' z2 z1 d2 d1))
 go_in
 go_wp2_with fail;refine C.out.mono ?_;rintro e w1 ⟨rfl,a1⟩;have HA:=gH ((((ag.refl w).alloc _).alloc _).trans a1);clear a1;go_wp2;go_ret;exact ⟨rfl,HA.out⟩
theorem cK (s:ByteArray):aS s s=true:=by simp [aS]
theorem yM {α:Type} (p:α→Bool) (l:List α) (k:Nat) (hk:k < l.length) (hp:p l[k]=true) (h:bu p (l.take k) < 0):bu p l=k:=by
 refine eU p l k hk hp fun i hi=>?_
 cases hq:p (l[i]'(by omega)) with
 | false=>rfl
 | true =>
  exfalso
  have hlen:(l.take k).length=k:=by rw [List.length_take];omega
  clear hp
  have:∀ (l:List α) (i:Nat) (hi:i < l.length),p l[i]=true→0≤bu p l:=by
   intro l
   induction l with
   | nil=>intro i hi;simp at hi
   | cons x l ih =>
    intro i hi hp
    cases i with
    | zero=>simp at hp;simp [bu,hp]
    | succ i =>
     have:=ih i (by simpa using hi) hp;simp only [bu]
     split
     ·omega
     ·split<;>omega
  have:=this (l.take k) i (by omega) (by rw [List.getElem_take];exact hq);omega
theorem vh {α:Type} (p:α→Bool) (l:List α) (k:Nat) (hk:k < l.length) (h:0≤bu p (l.take k)):bu p l < k∧0≤bu p l:=by
 induction l generalizing k with
 | nil=>simp at hk
 | cons x l ih =>
  cases k with
  | zero=>simp [bu] at h
  | succ k =>
   simp only [List.take_succ_cons,bu] at h ⊢;by_cases hx:p x=true
   ·rw [if_pos hx] at h ⊢;omega
   ·rw [if_neg hx] at h ⊢
    by_cases hy:bu p (l.take k) < 0
    ·rw [if_pos hy] at h;omega
    ·have:=ih k (by simpa using hk) (by omega)
     rw [if_neg (by omega)];omega
theorem BV (name:ByteArray) (kind:Int) (null:Bool) (w:World) (hs:name.size≤maxLen) :
  Calls Tryz.prog 285 #[.agg #[.string name,.int .i64 kind,.bool null]] w fun e w'=>e=.returned (.bool (iK ⟨name,kind,null⟩))∧ag w w':=by
 go_in
 go_wp2_with (go_at_call 107;refine (bZ _ _ hs).mono ?_;rintro e w' ⟨rfl,rfl⟩)
 all_goals
  go_ret;refine ⟨Eq.trans (b:=.returned (.bool _)) rfl (dx (cz ?_)),(ag.refl _).alloc _⟩
  simp_all [iK]
theorem yN (A:Option Addr) (cap:Nat) (l:List dY) (w:World) (h:az w 3 fL A cap l) :
  Calls Tryz.prog 246 #[.slice A l.length cap] w fun e w'=>e=.returned (.bool (fl l))∧ag w w':=by
 have hlen:=h.len;by_cases h1:l.length < 1∨8 < l.length
 ·have H:=gH (show fl l=false by unfold fl;rcases h1 with h1 | h1<;>simp<;>intros<;>omega)
  rcases h1 with h1 | h1
  all_goals
   go_in
   go_wp2;go_ret;exact ⟨by rw [H.out];rfl,ag.refl _⟩
 ·have g1:1≤l.length:=by omega
  have g8:l.length≤8:=by omega
  clear h1
  go_in
  go_wp2_with fail
  go_loopw [15] (fun i wr=>∃ k:Nat,k≤l.length∧i=.int .i64 k∧ag w wr∧∀ j,j < k→∀ (hj:j < l.length),(iK l[j]&&decide (bu (fun d=>aS d.name l[j].name) (l.take j) < 0))=true) (fun i _=>l.length - (intOf i).toNat)
  case atStart=>exact ⟨0,Nat.zero_le _,rfl,ag.refl _,fun j hj=>absurd hj (Nat.not_lt_zero j)⟩
  case round =>
   obtain ⟨k,hk,rfl,ha,hp⟩:=hrel;have HA:=gH ha;have HP:=gH hp;clear hp;by_cases hlt:k < l.length
   ·have dv:=dF ha h
    clear ha;obtain ⟨b,off,rfl,hb,c0,c1,c2,hs⟩:=qK dv hlt;have Mm:=gH (fun w=>BV l[k].name l[k].kind l[k].null w hs.max);obtain ⟨r,hr⟩:∃ r,bu (fun d=>aS d.name l[k].name) l=r:=⟨_,rfl⟩;have HR:=gH hr
    have Mn:=gH (show ∀ w',ag wr w'→Calls Tryz.prog 286 #[.slice (some ⟨b,off,none⟩) l.length cap,.string l[k].name,.func (.func 287) #[] #[]] w' fun e w''=>e=.returned (.int .i64 r)∧ag w' w'' from
     fun w' ha'=>hr▸Dy _ cap l l[k].name w' (dF ha' dv))
    clear hr dv;generalize hcc:iK ⟨l[k].name,l[k].kind,l[k].null⟩=cc at Mm;have HC:=gH hcc;clear hcc
    cases cc
    ·go_wp2_with fail
     refine (Mm.out _).mono ?_;rintro e w1 ⟨rfl,a1⟩;obtain ⟨jr,p9,hz,sW,dc⟩:=cT a1;clear a1;go_wp2;go_ret;exact ⟨by rw [ox l k hlt (by rw [show iK l[k]=false from HC.out];rfl)];rfl,HA.out.trans dc.out⟩
    ·by_cases sS:r=k
     ·have e1:(r != (k:Int))=false:=by simp [sS]
      have YV:=gH sS;clear sS;go_wp2_with fail;refine (Mm.out _).mono ?_;rintro e w1 ⟨rfl,a1⟩;obtain ⟨jr,p9,hz,sW,dc⟩:=cT a1;clear a1;go_wp2_with fail;refine (Mn.out _ dc.out).mono ?_;rintro e w2 ⟨rfl,a2⟩;have i5:=gH (dc.out.trans a2);clear a2;go_wp2
      go_roundw
      case rel =>
       refine ⟨k+1,by omega,by go_num,HA.out.trans i5.out,dG (p:=fun j=>∀ (hj:j < l.length),(iK l[j]&&decide (bu (fun d=>aS d.name l[j].name) (l.take j) < 0))=true) HP.out (fun _=>?_)⟩;rw [show iK l[k]=true from HC.out,Bool.true_and];refine decide_eq_true ?_;by_cases h0:bu (fun d=>aS d.name l[k].name) (l.take k) < 0
       ·exact h0
       ·have:=(vh (fun d=>aS d.name l[k].name) l k hlt (by omega)).1
        have e1:=HR.out;have e2:=YV.out;omega
      case measure=>simp [intOf];omega
     ·have e1:(r != (k:Int))=true:=by rw [bne_iff_ne];exact sS
      have YV:=gH sS;clear sS;go_wp2_with fail;refine (Mm.out _).mono ?_;rintro e w1 ⟨rfl,a1⟩;obtain ⟨jr,p9,hz,sW,dc⟩:=cT a1;clear a1;go_wp2_with fail;refine (Mn.out _ dc.out).mono ?_;rintro e w2 ⟨rfl,a2⟩;have i5:=gH (dc.out.trans a2);clear a2;go_wp2;go_ret
      have hf:(iK l[k]&&decide (bu (fun d=>aS d.name l[k].name) (l.take k) < 0))=false:=by
       rw [decide_eq_false,Bool.and_false];intro h0;exact YV.out ((HR.out.symm.trans (yM _ l k hlt (cK _) h0)))
      exact ⟨by rw [ox l k hlt hf];rfl,HA.out.trans i5.out⟩
   ·go_wp2
    go_ret;exact ⟨by rw [yL l g1 g8 (fun j hj hj'=>HP.out j (by omega) hj')];rfl,HA.out⟩
theorem BD (l:List dY) (cs:List ByteArray) (h:qg l cs=true):cs.length≤l.length:=by
 have hk:∀ k (hk:k < cs.length),0≤bO l cs[k]∧ql (cs.take k) cs[k]=false:=by
  intro k hk;have:=List.all_eq_true.1 h k (List.mem_range.2 hk);rw [List.getElem?_eq_getElem hk] at this
  simpa using this
 clear h
 have inj:∀ i j (hi:i < cs.length) (hj:j < cs.length),i < j→bO l cs[i]≠bO l cs[j]:=by
  intro i j hi hj mU he;have h1:=(hk i hi).1;obtain ⟨q,hq⟩:=Int.eq_ofNat_of_zero_le h1
  have pC:q < l.length:=by have:=(aT (fun c=>aS c.name cs[i]) l).2;unfold bO at hq;omega
  have a1:=gF (fun c:dY=>aS c.name cs[i]) l q pC hq;have a2:=gF (fun c:dY=>aS c.name cs[j]) l q pC (he▸hq);have e:aS cs[i] cs[j]=true:=oV ((lB _ _).trans a1) a2;have:=(hk j hj).2;unfold ql at this;rw [E8 (fun c=>aS c cs[j]) (cs.take j) i (by simp;omega) (by simpa using e)] at this
  cases this
 have Li:((List.range cs.length).map fun i=>(bO l (cs.getD i ByteArray.empty)).toNat).Nodup:=by
  rw [List.nodup_iff_pairwise_ne,List.pairwise_map];refine List.Pairwise.imp_of_mem ?_ List.pairwise_lt_range;intro i j hi hj mU he;have hi':=List.mem_range.1 hi;have hj':=List.mem_range.1 hj
  have e1:cs.getD i ByteArray.empty=cs[i]:=by simp [List.getD,List.getElem?_eq_getElem hi']
  have e2:cs.getD j ByteArray.empty=cs[j]:=by simp [List.getD,List.getElem?_eq_getElem hj']
  rw [e1,e2] at he;have h1:=(hk i hi').1;have h2:=(hk j hj').1;exact inj i j hi' hj' mU (by omega)
 have YW:∀ u∈((List.range cs.length).map fun i=>(bO l (cs.getD i ByteArray.empty)).toNat),u∈List.range l.length:=by
  intro u hu;obtain ⟨i,hi,rfl⟩:=List.mem_map.1 hu;have hi':=List.mem_range.1 hi
  have e1:cs.getD i ByteArray.empty=cs[i]:=by simp [List.getD,List.getElem?_eq_getElem hi']
  rw [e1];have h1:=(hk i hi').1;have h2:=(aT (fun c=>aS c.name cs[i]) l).2;unfold bO at *;exact List.mem_range.2 (by omega)
 have:=Li.length_le_of_subset YW
 simpa using this
def bX (l:List dY) (cs:List ByteArray):List Int:=cs.filterMap fun s=>if 0≤bO l s then some (fY l (bO l s)) else none
theorem ww (l:List dY) (cs:List ByteArray) (k:Nat) (hk:k < cs.length):bX l (cs.take (k+1))=bX l (cs.take k)++if 0≤bO l cs[k] then [fY l (bO l cs[k])] else []:=by
 unfold bX;rw [List.take_succ_eq_append_getElem hk,List.filterMap_append]
 by_cases h:0≤bO l cs[k]<;>simp [h]
theorem jk (l:List dY) (cs:List ByteArray):(bX l cs).length≤cs.length:=List.length_filterMap_le _ _
theorem Qo:(Tryz.prog.info? 167).map (fun i=>(i.zero,i.size,i.bytes))=some (some (.int .i64 0),1,8):=by kernel_rfl
def Fj (w:World) (ks:List Int) (e:Ending) (w':World):Prop:=∃ v,e=.returned v∧w'.ownsRow w.heap.size 167 1 v ks.length (ks.map (Value.int .i64))∧ag w w'
theorem Fk (A:Option Addr) (cap:Nat) (l:List dY) (A2:Option Addr) (bJ:Nat) (cs:List ByteArray) (w:World) (h:az w 3 fL A cap l) (h2:az w 1 dC A2 bJ cs) :
  Calls Tryz.prog 327 #[.slice A l.length cap,.slice A2 cs.length bJ] w (Fj w (bX l cs)):=by
 have hlen:=h.len;have iG:=h2.len;obtain ⟨i0,hi,hz0,hz1,hz2⟩:=info_parts Qo;have HI:=gH hi;have jG:=gH hz0;have jt:=gH hz1;have jX:=gH hz2;clear hi hz0 hz1 hz2
 go_in
 go_wp2_with fail
 go_loopw [5,11] (fun v i wr=>∃ k:Nat,k≤cs.length∧i=.int .i64 k∧ag w wr∧wr.ownsRow w.heap.size 167 1 v (bX l (cs.take k)).length ((bX l (cs.take k)).map (Value.int .i64))) (fun _ i _=>cs.length - (intOf i).toNat)
 case atStart=>exact ⟨0,Nat.zero_le _,rfl,ag.refl _,cO _ _ _ _⟩
 case round =>
  rename_i v _;obtain ⟨k,hk,rfl,ha,hown⟩:=hrel;have HA:=gH ha;have HO:=gH hown;clear hown;by_cases hlt:k < cs.length
  ·have dv:=dF ha h
   have jT:=aU ha h2;clear ha;obtain ⟨b,off,rfl,hb,c0,tv⟩:=fB jT hlt;obtain ⟨i,hi⟩:∃ i,bO l cs[k]=i:=⟨_,rfl⟩
   have Mn:=gH (show Calls Tryz.prog 286 #[.slice A l.length cap,.string cs[k],.func (.func 287) #[] #[]] wr fun e w'=>e=.returned (.int .i64 i)∧ag wr w' from
    (Dy A cap l cs[k] wr dv).mono fun e w' ⟨he,hw⟩=>⟨he.trans (by rw [← hi];rfl),hw⟩)
   have HS:=gH (ww l cs k hlt);by_cases mL:0≤i
   ·obtain ⟨q,hq⟩:=Int.eq_ofNat_of_zero_le mL
    subst hq
    have pC:q < l.length:=by have:=(aT (fun c=>aS c.name cs[k]) l).2;unfold bO at hi;omega
    obtain ⟨b2,Jh,rfl,hb2,d0,d1,d2,YX⟩:=qK dv pC;have HN:=gH (show bX l (cs.take (k+1))=bX l (cs.take k)++[l[q].kind] by rw [HS.out,hi,if_pos mL];simp [fY,List.getElem?_eq_getElem pC]);have pY:=jk l (cs.take k);have aam:(cs.take k).length≤k:=List.length_take_le _ _;clear hi dv jT HS;go_wp2_with fail;refine Mn.out.mono ?_;rintro e w1 ⟨rfl,a1⟩;have dc:=gH (HA.out.trans a1);have JT:=gH (cA HO.out a1);have d1':=(Below.cell a1 (p:=⟨b2,Jh+q*3+1,none⟩) hb2).trans d1;clear a1 d0 d1 d2 c0
    go_wp2_with (at_builtin;refine wpList_append_own _ rfl (.tmp 20) (.tmp 26) 356 rfl w.heap.size 167 i0 (.int .i64 0) 1 8 Tryz.underlying356 HI.out jG.out jt.out jX.out rfl (by decide) _ _ _ rfl (JT.out.alloc _) ⟨w1.heap.size,0,none⟩ 1 1 [.int .i64 l[q].kind] rfl rfl ?c1 ?c2 ?c3 ?c4 ?c5 ?_)
    case c1=>exact cell_one_new _ _ _
    case c2=>simp [Value.oneCell']
    case c3=>unfold maxLen;omega
    case c4=>omega
    case c5=>have:=dc.out.size;simp;omega
    intro v' w2 hown' hgrow _;have i5:=gH (DL (JT.out.alloc _) (dc.out.alloc _) hgrow);have Wl:=gH hown';clear hown' hgrow;go_wp2
    go_roundw
    case rel=>exact ⟨k+1,by omega,by go_num,i5.out,by rw [HN.out];simpa using Wl.out⟩
    case measure=>simp [intOf];omega
   ·have HN:=gH (show bX l (cs.take (k+1))=bX l (cs.take k) by rw [HS.out,hi,if_neg mL,List.append_nil])
    clear hi dv jT HS;go_wp2_with fail;refine Mn.out.mono ?_;rintro e w1 ⟨rfl,a1⟩;have dc:=gH (HA.out.trans a1);have JT:=gH (cA HO.out a1);clear a1;go_wp2
    go_roundw
    case rel=>exact ⟨k+1,by omega,by go_num,dc.out,by rw [HN.out];exact JT.out⟩
    case measure=>simp [intOf];omega
  ·clear ha
   go_wp2;go_ret;have e1:cs.take k=cs:=List.take_of_length_le (by omega);have ho:=HO.out;rw [e1] at ho;exact ⟨_,rfl,ho,HA.out⟩
def bt (l:List bW) (s n:ByteArray):Int:=bu (fun t=>aS t.af s&&aS t.name n) l
theorem Qp (af name owner:ByteArray) (A0:Option Addr) (n0 c0:Nat) (A1:Option Addr) (n1 c1:Nat) (s n:ByteArray) (b1 b2:Nat) (w:World) (hb1:b1 < w.heap.size) (hb2:b2 < w.heap.size) (hc1:w.cell? ⟨b1,0,none⟩=some (.string s)) (hc2:w.cell? ⟨b2,0,none⟩=some (.string n)) :
  Calls Tryz.prog 186 #[.agg #[.string af,.string name,.string owner,.slice A0 n0 c0,.slice A1 n1 c1],.pointer (some ⟨b1,0,none⟩),.pointer (some ⟨b2,0,none⟩)] w fun e w'=>e=.returned (.bool (aS af s&&aS name n))∧ag w w':=by
 cases h1:aS af s
 ·have xh:(af.toList==s.toList)=false:=h1
  clear h1
  go_in
  go_wp2;go_ret;exact ⟨rfl,(ag.refl _).alloc _⟩
 ·have xh:(af.toList==s.toList)=true:=h1
  clear h1
  go_in
  go_wp2;go_ret;exact ⟨rfl,(ag.refl _).alloc _⟩
theorem Fl {w w':World} {c:Array Value} {a b:Value} {t ta tb:TypeId} (h:ag (((w.alloc (.cells c t)).alloc (.cells #[a] ta)).alloc (.cells #[b] tb)) w') :
  w'.cell? ⟨w.heap.size+1,0,none⟩=some a∧w'.cell? ⟨w.heap.size+1+1,0,none⟩=some b∧w.heap.size+1 < w'.heap.size∧w.heap.size+1+1 < w'.heap.size:=by
 have:=qH (w:=w.alloc (.cells c t)) h
 simpa using this
theorem vk (vs:Value) (A:Option Addr) (cap:Nat) (l:List bW) (s n:ByteArray) (w:World) (h:az w 5 dE A cap l) :
  Calls Tryz.prog 112 #[.agg #[vs,.slice A l.length cap],.string s,.string n] w fun e w'=>e=.returned (.tuple #[.int .i64 (bt l s n),.bool (decide (0≤bt l s n))])∧ag w w':=by
 have cM:=enters (P:=Tryz.prog) Tryz.func186 (by kernel_rfl) rfl;obtain ⟨i,hi⟩:∃ i,bt l s n=i:=⟨_,rfl⟩
 have C:=gH ((zH A cap l 186 #[.pointer (some ⟨w.heap.size+1,0,none⟩),.pointer (some ⟨w.heap.size+1+1,0,none⟩)] (fun t=>aS t.af s&&aS t.name n) (((w.alloc (.cells #[vs,.slice A l.length cap] 25)).alloc (.cells #[.string s] 9)).alloc (.cells #[.string n] 9)) (bC ((((ag.refl w).alloc _).alloc _).alloc _) h) cM (fun w' ha j hj e1 he=>by
  obtain ⟨A2,bJ,A3,fC,rfl,_⟩:=he;obtain ⟨d1,d2,z1,z2⟩:=Fl ha
  exact Qp _ _ _ A2 _ bJ A3 _ fC s n (w.heap.size+1) (w.heap.size+1+1) w' z1 z2 d1 d2)).mono (fun e w' ⟨he,hw⟩=>(⟨he.trans (by rw [← hi];rfl),hw⟩:e=Ending.returned (Value.int .i64 i)∧ag _ w')))
 rw [hi];clear hi
 go_in
 go_wp2_with fail;refine C.out.mono ?_;rintro e w1 ⟨rfl,a1⟩;have HA:=gH (((((ag.refl w).alloc _).alloc _).alloc _).trans a1);clear a1;go_wp2
 go_ret2
 exact ⟨rfl,HA.out⟩
def within (l:List bW) (s:ByteArray):Nat:=(l.filter fun t=>aS t.af s).length
theorem yO (l:List bW) (s:ByteArray) (k:Nat) (hk:k < l.length):within (l.take (k+1)) s=within (l.take k) s+if aS l[k].af s=true then 1 else 0:=by
 unfold within;rw [List.take_succ_eq_append_getElem hk,List.filter_append,List.length_append]
 by_cases h:aS l[k].af s=true<;>simp [h]
theorem Fm (l:List bW) (s:ByteArray):within l s≤l.length:=List.length_filter_le _ _
theorem ry (vs:Value) (A:Option Addr) (cap:Nat) (l:List bW) (s:ByteArray) (w:World) (h:az w 5 dE A cap l) :
  Calls Tryz.prog 183 #[.agg #[vs,.slice A l.length cap],.string s] w fun e w'=>e=.returned (.int .i64 (within l s))∧ag w w':=by
 have hlen:=h.len
 go_in
 go_wp2_with fail
 go_loopw [5,11] (fun n i wr=>∃ k:Nat,k≤l.length∧i=.int .i64 k∧n=.int .i64 (within (l.take k) s)∧ag w wr) (fun _ i _=>l.length - (intOf i).toNat)
 case atStart=>exact ⟨0,Nat.zero_le _,rfl,rfl,(ag.refl _).alloc _⟩
 case round =>
  obtain ⟨k,hk,rfl,rfl,ha⟩:=hrel;have HA:=gH ha;have hw:=Fm (l.take k) s;have hw2:(l.take k).length≤k:=List.length_take_le _ _;by_cases hlt:k < l.length
  ·have dv:=bC ha h
   clear ha;obtain ⟨b,off,A2,bJ,A3,fC,rfl,hb,c0,c1,c2,c3,c4,hs⟩:=iB dv hlt;clear dv hs;have HS:=gH (yO l s k hlt)
   cases heq:aS l[k].af s
   ·have h2:(l[k].af.toList==s.toList)=false:=heq
    have HN:=gH (show within (l.take (k+1)) s=within (l.take k) s by rw [HS.out,heq];simp);clear heq HS;go_wp2
    go_roundw
    case rel=>exact ⟨k+1,by omega,by go_num,by rw [HN.out],HA.out.alloc _⟩
    case measure=>simp [intOf];omega
   ·have h2:(l[k].af.toList==s.toList)=true:=heq
    have HN:=gH (show within (l.take (k+1)) s=within (l.take k) s+1 by rw [HS.out,heq];simp);clear heq HS;go_wp2
    go_roundw
    case rel=>exact ⟨k+1,by omega,by go_num,by rw [HN.out];go_num,HA.out.alloc _⟩
    case measure=>simp [intOf];omega
  ·clear ha
   go_wp2;go_ret;exact ⟨by rw [List.take_of_length_le (by omega)];rfl,HA.out⟩
theorem Ji (l:List ByteArray) (s:ByteArray):ql l s=true↔0≤bu (fun c=>aS c s) l:=by
 induction l with
 | nil=>simp [ql,bu]
 | cons x l ih =>
  unfold ql at ih ⊢;rw [List.any_cons,Bool.or_eq_true,ih];simp only [bu];by_cases hx:aS x s=true
  ·rw [if_pos hx];simp [hx]
  ·rw [if_neg hx]
   by_cases hy:bu (fun c=>aS c s) l < 0
   ·rw [if_pos hy]
    constructor
    ·intro h;rcases h with h | h
     ·exact absurd h hx
     ·omega
    ·intro h;omega
   ·rw [if_neg hy]
    constructor
    ·intro h;omega
    ·intro h;right;omega
theorem yP (l:List ByteArray) (s:ByteArray):ql l s=decide (0≤bu (fun c=>aS c s) l):=by
 rw [Bool.eq_iff_iff,Ji];simp
theorem Jj (A:Option Addr) (cap:Nat) (l:List dY) (r:fh) (A2:Option Addr) (bJ:Nat) (w:World) (h:az w 3 fL A cap l) (h2:az w 1 dC A2 bJ r.au)
  (hn:Small r.name.size) (hs:Small r.af.size) (ht:Small r.table.size) (uV:Small r.key.size) :
  Calls Tryz.prog 249 #[.slice A l.length cap,.agg #[.string r.name,.int .i64 r.kind,.slice A2 r.au.length bJ,.int .i64 r.low,.int .i64 r.high,.string r.af,.string r.table,.string r.key]] w
   fun e w'=>e=.returned (.bool (dK l r))∧ag w w':=by
 obtain ⟨name,kind,cs,low,high,af,table,key⟩:=r;simp only at h2 hn hs ht uV ⊢;have hlen:=h.len;have iG:=h2.len
 cases hN:bG name
 ·have HF:=gH (show dK l ⟨name,kind,cs,low,high,af,table,key⟩=false by simp [dK,hN])
  go_in
  go_wp2_with (go_at_call 107;refine (bZ _ _ (by first | exact hn.max | exact hs.max | exact ht.max | exact uV.max)).mono ?_;rintro e w' ⟨rfl,rfl⟩)
  go_ret;exact ⟨by rw [HF.out];rfl,(ag.refl _).alloc _⟩
 by_cases hz0:cs.length < 1
 ·have HF:=gH (show dK l ⟨name,kind,cs,low,high,af,table,key⟩=false by
   have:cs.length=0:=by omega
   simp [dK,this])
  go_in
  go_wp2_with (go_at_call 107;refine (bZ _ _ (by first | exact hn.max | exact hs.max | exact ht.max | exact uV.max)).mono ?_;rintro e w' ⟨rfl,rfl⟩)
  go_ret;exact ⟨by rw [HF.out];rfl,(ag.refl _).alloc _⟩
 by_cases hzl:l.length < cs.length
 ·have HF:=gH (show dK l ⟨name,kind,cs,low,high,af,table,key⟩=false by
   have:qg l cs=false:=by
    cases tx:qg l cs with
    | false=>rfl
    | true=>have:=BD l cs tx;omega
   simp [dK,this])
  have zn:1≤cs.length:=by omega
  clear hz0
  go_in
  go_wp2_with (go_at_call 107;refine (bZ _ _ (by first | exact hn.max | exact hs.max | exact ht.max | exact uV.max)).mono ?_;rintro e w' ⟨rfl,rfl⟩)
  go_ret;exact ⟨by rw [HF.out];rfl,(ag.refl _).alloc _⟩
 have zn:1≤cs.length:=by omega
 have pU:cs.length≤l.length:=by omega
 have bb1:decide ((cs.length:Int) < 1)=false:=decide_eq_false (by omega);have bb2:decide (l.length < cs.length)=false:=decide_eq_false (by omega);have bb3:decide ((l.length:Int) < (cs.length:Int))=false:=decide_eq_false (by omega);clear hz0 hzl
 go_in
 go_wp2_with (go_at_call 107;refine (bZ _ _ (by first | exact hn.max | exact hs.max | exact ht.max | exact uV.max)).mono ?_;rintro e w' ⟨rfl,rfl⟩)
 go_loopw [29] (fun i wr=>∃ k:Nat,k≤cs.length∧i=.int .i64 k∧ag (w.alloc (.cells #[.string name,.int .i64 kind,.slice A2 cs.length bJ,.int .i64 low,.int .i64 high,.string af,.string table,.string key] 42)) wr∧∀ j,j < k→∀ (hj:j < cs.length),(decide (0≤bO l cs[j])&&!(ql (cs.take j) cs[j]))=true) (fun i _=>cs.length - (intOf i).toNat)
 case atStart=>exact ⟨0,Nat.zero_le _,rfl,ag.refl _,fun j hj=>absurd hj (Nat.not_lt_zero j)⟩
 case round =>
  obtain ⟨k,hk,rfl,ha,hp⟩:=hrel;obtain ⟨jr,p9,hz,sW,HA⟩:=cT ha;have mJ:=gH ha;have HP:=gH hp;clear hp;have dv:=dF HA.out h;have jT:=aU HA.out h2;clear ha;by_cases hlt:k < cs.length
  ·obtain ⟨b,off,rfl,hb,c0,tv⟩:=fB jT hlt
   obtain ⟨i,hi⟩:∃ i,bO l cs[k]=i:=⟨_,rfl⟩;obtain ⟨m,hm⟩:∃ m,bu (fun c=>aS c cs[k]) cs=m:=⟨_,rfl⟩
   have Mn:=gH (show Calls Tryz.prog 286 #[.slice A l.length cap,.string cs[k],.func (.func 287) #[] #[]] wr fun e w'=>e=.returned (.int .i64 i)∧ag wr w' from
    (Dy A cap l cs[k] wr dv).mono fun e w' ⟨he,hw⟩=>⟨he.trans (by rw [← hi];rfl),hw⟩)
   have U3:=gH (show ∀ w',ag wr w'→Calls Tryz.prog 109 #[.slice (some ⟨b,off,none⟩) cs.length bJ,.string cs[k]] w' fun e w''=>e=.returned (.int .i64 m)∧w'=w'' from
    fun w' ha'=>(yI _ bJ cs cs[k] w' (aU ha' jT)).mono fun e w'' ⟨he,hw⟩=>⟨he.trans (by rw [← hm]),hw⟩)
   have HI:=gH hi;have HM:=gH hm;clear hi hm dv jT;by_cases mL:i < 0
   ·go_wp2_with fail
    refine Mn.out.mono ?_;rintro e w1 ⟨rfl,a1⟩;have dc:=gH (HA.out.trans a1);clear a1;go_wp2;go_ret;exact ⟨by rw [show dK l ⟨name,kind,cs,low,high,af,table,key⟩=false by unfold dK;rw [sH l cs k hlt (by rw [HI.out,decide_eq_false (by omega)];rfl)];rfl];rfl,dc.out⟩
   ·have sU:0≤i:=by omega
    have hd:decide (i < 0)=false:=decide_eq_false mL;by_cases BF:m=k
    ·have e1:(m != (k:Int))=false:=by simp [BF]
     have YY:=gH BF;clear BF;go_wp2_with fail;refine Mn.out.mono ?_;rintro e w1 ⟨rfl,a1⟩;obtain ⟨U4,YZ,hz1,Y0,dc⟩:=cT (mJ.out.trans a1);have Y1:=gH (mJ.out.trans a1);have Y2:=gH a1;clear a1 jr p9 hz sW;go_wp2_with fail;refine (U3.out _ Y2.out).mono ?_;rintro e w2 ⟨rfl,rfl⟩;go_wp2
     go_roundw
     case rel =>
      refine ⟨k+1,by omega,by go_num,Y1.out,dG (p:=fun j=>∀ (hj:j < cs.length),(decide (0≤bO l cs[j])&&!(ql (cs.take j) cs[j]))=true) HP.out (fun _=>?_)⟩;rw [HI.out,decide_eq_true sU,yP,decide_eq_false]
      ·rfl
      ·intro h0
       have q1:=(vh (fun c=>aS c cs[k]) cs k hlt h0).1;have q2:=HM.out;have q3:=YY.out;omega
     case measure=>simp [intOf];omega
    ·have e1:(m != (k:Int))=true:=by rw [bne_iff_ne];exact BF
     have YY:=gH BF;clear BF;go_wp2_with fail;refine Mn.out.mono ?_;rintro e w1 ⟨rfl,a1⟩;obtain ⟨U4,YZ,hz1,Y0,dc⟩:=cT (mJ.out.trans a1);have Y2:=gH a1;clear a1 jr p9 hz sW;go_wp2_with fail;refine (U3.out _ Y2.out).mono ?_;rintro e w2 ⟨rfl,rfl⟩;go_wp2;go_ret
     have hf:(decide (0≤bO l cs[k])&&!(ql (cs.take k) cs[k]))=false:=by
      rw [yP,decide_eq_true (p:=0≤bu (fun c=>aS c cs[k]) (cs.take k)),Bool.not_true,Bool.and_false]
      refine Int.not_lt.1 fun h0=>?_
      exact YY.out (HM.out.symm.trans (yM (fun c=>aS c cs[k]) cs k hlt (cK _) h0))
     exact ⟨by rw [show dK l ⟨name,kind,cs,low,high,af,table,key⟩=false by unfold dK;rw [sH l cs k hlt hf];rfl];rfl,dc.out⟩
  ·have tx:=Fi l cs (fun j hj hj'=>HP.out j (by omega) hj')
   have HF:=gH (show dK l ⟨name,kind,cs,low,high,af,table,key⟩=gJ l ⟨name,kind,cs,low,high,af,table,key⟩ by
    have:¬ cs.length=0:=by omega
    simp [dK,tx,hN,this])
   have hc0:0≤bO l cs[0]:=by have:=HP.out 0 (by omega) zn;simp at this;exact this.1
   clear tx
   have z1:af.size+table.size≤9223372036854775807:=by unfold Small at *;omega
   have z2:af.size+table.size+key.size≤9223372036854775807:=by unfold Small at *;omega
   by_cases k1:kind=1
   ·subst k1
    go_wp2_with (go_at_call 107;refine (bZ _ _ (by first | exact hn.max | exact hs.max | exact ht.max | exact uV.max)).mono ?_;rintro e w' ⟨rfl,rfl⟩)
    all_goals
     go_ret;refine ⟨Eq.trans (b:=.returned (.bool _)) rfl (dx (cz ?_)),HA.out⟩;rw [HF.out];clear HF HA mJ HP jr p9 hz sW dv jT h h2
     simp_all [gJ,emp,ir]
   by_cases k2:kind=2
   ·subst k2
    go_wp2_with (go_at_call 107;refine (bZ _ _ (by first | exact hn.max | exact hs.max | exact ht.max | exact uV.max)).mono ?_;rintro e w' ⟨rfl,rfl⟩)
    all_goals
     go_ret;refine ⟨Eq.trans (b:=.returned (.bool _)) rfl (dx (cz ?_)),HA.out⟩;rw [HF.out];clear HF HA mJ HP jr p9 hz sW dv jT h h2
     simp_all [gJ,emp,ir]
   by_cases k4:kind=4
   ·subst k4
    go_wp2_with (go_at_call 107;refine (bZ _ _ (by first | exact hn.max | exact hs.max | exact ht.max | exact uV.max)).mono ?_;rintro e w' ⟨rfl,rfl⟩)
    all_goals
     go_ret;refine ⟨Eq.trans (b:=.returned (.bool _)) rfl (dx (cz ?_)),HA.out⟩;rw [HF.out];clear HF HA mJ HP jr p9 hz sW dv jT h h2
     simp_all [gJ]
   by_cases k3:kind=3
   ·subst k3
    obtain ⟨q,hq⟩:=Int.eq_ofNat_of_zero_le hc0
    have pC:q < l.length:=by have:=(aT (fun c=>aS c.name cs[0]) l).2;unfold bO at hq;omega
    obtain ⟨b,off,rfl,hb,c0,tv⟩:=fB jT zn;obtain ⟨b2,Jh,rfl,hb2,d0,d1,d2,YX⟩:=qK dv pC
    have c0':wr.cell? ⟨b,off,none⟩=some (.string cs[0]):=by simpa using c0
    have U5:=gH (show Calls Tryz.prog 286 #[.slice (some ⟨b2,Jh,none⟩) l.length cap,.string cs[0],.func (.func 287) #[] #[]] wr fun e w'=>e=.returned (.int .i64 q)∧ag wr w' from
     (Dy _ cap l cs[0] wr dv).mono fun e w' ⟨he,hw⟩=>⟨he.trans (by rw [← show bO l cs[0]=(q:Int) from hq];rfl),hw⟩)
    have HK:=gH (show fY l (bO l (cs.headD ByteArray.empty))=l[q].kind by
     have e1:cs.headD ByteArray.empty=cs[0]:=by cases cs with | nil=>simp at zn | cons a t=>rfl
     rw [e1,hq];simp [fY,List.getElem?_eq_getElem pC])
    have qf:=HA;clear hc0 hq c0
    go_wp2_with (first | (go_at_call 107;refine (bZ _ _ (by first | exact hn.max | exact hs.max | exact ht.max | exact uV.max)).mono ?_;rintro e w' ⟨rfl,rfl⟩) | (go_at_call 286;refine U5.out.mono ?_;rintro e w2 ⟨rfl,a2⟩;obtain ⟨Tq,Xn,hz2,Xo,i5⟩:=cT (mJ.out.trans a2);have d1':=(Below.cell a2 (p:=⟨b2,Jh+q*3+1,none⟩) hb2).trans d1;clear a2 jr p9 hz sW c0' d0 d1 d2 HA))
    all_goals
     go_ret;refine ⟨Eq.trans (b:=.returned (.bool _)) rfl (dx (cz ?_)),by first | exact i5.out | exact qf.out⟩;rw [HF.out];have oY:=HK.out;clear HF qf mJ HP dv jT h h2 HK U5
     simp_all [gJ,emp,ir]
   ·have q1:(kind==1)=false:=by simp [k1]
    have q2:(kind==2)=false:=by simp [k2]
    have q3:(kind==3)=false:=by simp [k3]
    have q4:(kind==4)=false:=by simp [k4]
    go_wp2_with (go_at_call 107;refine (bZ _ _ (by first | exact hn.max | exact hs.max | exact ht.max | exact uV.max)).mono ?_;rintro e w' ⟨rfl,rfl⟩)
    all_goals
     go_ret;refine ⟨Eq.trans (b:=.returned (.bool _)) rfl (dx (cz ?_)),HA.out⟩;rw [HF.out];clear HF HA mJ HP jr p9 hz sW dv jT h h2
     simp_all [gJ]
def Da (l:List dY) (l2:List dY) (a b:ByteArray):Bool:=decide (0≤bO l a)&&decide (0≤bO l2 b)&&(fY l (bO l a)==fY l2 (bO l2 b))
def en (l:List dY) (l2:List dY):List ByteArray→List ByteArray→Bool
 | [],[]=>true
 | a::xs,b::ys=>Da l l2 a b&&en l l2 xs ys
 | _,_=>false
theorem oy (l:List dY) (a:ByteArray) (cs:List ByteArray):bX l (a::cs)=if 0≤bO l a then fY l (bO l a)::bX l cs else bX l cs:=by
 unfold bX
 by_cases h:0≤bO l a<;>simp [h]
theorem oA (l l2:List dY):∀ (cs jN:List ByteArray),en l l2 cs jN=(decide (jN.length=cs.length)&&decide ((bX l2 jN).length=jN.length)&&decide (bX l cs=bX l2 jN))
 | [],[]=>by simp [en,bX]
 | [],b::ys=>by simp [en]
 | a::xs,[]=>by simp [en]
 | a::xs,b::ys=>by
  have ih:=oA l l2 xs ys;have hb:=jk l2 ys;have ha:=jk l xs;rw [en,ih,oy,oy];unfold Da;by_cases h1:0≤bO l a
  ·by_cases h2:0≤bO l2 b
   ·by_cases h3:fY l (bO l a)=fY l2 (bO l2 b)<;>simp [h1,h2,h3]
   ·have h4:¬ (bX l2 ys).length=ys.length+1:=by omega
    simp [h1,h2,h4]
  ·by_cases h2:0≤bO l2 b
   ·rw [if_neg h1,if_pos h2]
    simp only [h1,decide_false,Bool.false_and]
    symm
    rw [Bool.eq_false_iff];intro h;simp only [Bool.and_eq_true,decide_eq_true_eq,List.length_cons] at h;obtain ⟨⟨e1,e2⟩,e3⟩:=h;have:=congrArg List.length e3;simp only [List.length_cons] at this;omega
   ·have h4:¬ (bX l2 ys).length=ys.length+1:=by omega
    simp [h1,h2,h4]
def fz (l:List fh) (s:ByteArray):Int:=bu (fun c=>aS c.name s) l
def bY (l:List fK) (s:ByteArray):Int:=bu (fun c=>aS c.name s) l
def nU (t:bW) (l:List dY) (r:fh):Int :=
 match t.rules[(fz t.rules r.key).toNat]? with
 | some q=>if fz t.rules r.key < 0 then 61 else if q.kind==2 then (if en l t.au r.au q.au then 0 else 63) else 61
 | none=>61
def mn (ts:List bW) (l:List dY) (r:fh):Int :=
 match ts[(bt ts r.af r.table).toNat]? with
 | some t=>if bt ts r.af r.table < 0 then 61 else nU t l r
 | none=>61
def gZ (ts:List bW) (l:List dY) (r:fh):Bool:=dK l r&&!(r.kind==4&&mn ts l r != 0)
def cU (o:bE) (t:bW):Bool :=
 bG t.name&&bG t.owner&&fl t.au&&decide (t.rules.length≤8)&&decide (0≤bY o.ae t.af)&&(t.rules.all (gZ o.tables t.au)&&aM (fun a b=>bv a.name b.name) t.rules)
def nV (o:bE) (s:fK):Bool:=bG s.name&&bG s.owner&&decide (within o.tables s.name≤8)
def mY (o:bE):Bool:=decide (o.ae.length≤8)&&decide (o.tables.length≤64)&&aM (fun a b=>iR (bv a.af b.af) (bv a.name b.name)) o.tables&&aM (fun a b=>bv a.name b.name) o.ae
def bD (o:bE):Bool:=mY o&&(o.ae.all (nV o)&&o.tables.all (cU o))
end Go.Proofs.YtakddkhipelmjaaGreat
