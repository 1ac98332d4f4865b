import Derived.Test.YtmflccbnoeaafaaGreatPartC8
namespace Go.Proofs.YtmflccbnoeaafaaGreat
set_option maxRecDepth 100000
set_option linter.unusedVariables false
set_option maxHeartbeats 64000000
theorem nC {a b:ByteArray} (h:txt a=txt b):a=b:=by
 unfold txt at h
 cases a;cases b
 simp only [Array.toList_inj] at h;rw [h]
theorem kB (a b:ByteArray):bk a b=true↔a=b:=⟨fun h=>nC ((lT _ _).1 h),fun h=>(lT _ _).2 (by rw [h])⟩
theorem rX:uu bw:=⟨xE,li,fun a b h=>(kB _ _).1 ((gu _ _).1 h)⟩
theorem LH:uu eV:=⟨sD,wd,fun a b h=>by
 unfold eV iQ at h;obtain ⟨a1,a2⟩:=a;obtain ⟨b1,b2⟩:=b;simp only at h;by_cases e:bw a1 b1=0
 ·rw [if_pos (by simpa using e)] at h
  rw [rX.Og _ _ e,rX.Og _ _ h]
 ·rw [if_neg (by simpa using e)] at h
  exact absurd h e⟩
theorem iB (l:List ByteArray) (s:ByteArray):dQ l s=true↔s∈l:=by
 unfold dQ;rw [List.any_eq_true];exact ⟨fun ⟨x,hx,h⟩=>by rw [← (kB _ _).1 h];exact hx,fun h=>⟨s,h,(kB _ _).2 rfl⟩⟩
theorem vI {l:List ByteArray} (hr:aN bw l=true) (s:ByteArray):dQ l s=b8 bw l s:=by
 rw [Bool.eq_iff_iff,iB,wh rX hr]
theorem lA {ms:List em} {s:dR} {y:ByteArray}:y∈succ ms s↔∃ m∈ms,txt m.role=s∧m.of=y:=by
 unfold succ;rw [List.mem_map]
 constructor
 ·rintro ⟨m,hm,rfl⟩
  obtain ⟨h1,h2⟩:=List.mem_filter.1 hm;exact ⟨m,h1,by simpa using h2,rfl⟩
 ·rintro ⟨m,hm,h1,rfl⟩
  exact ⟨m,List.mem_filter.2 ⟨hm,by simpa using h1⟩,rfl⟩
theorem Reach.mono {ms UZ:List em} (hs:∀ m∈ms,m∈UZ) {s t:dR} (h:Reach ms s t):Reach UZ s t:=by
 induction h with
 | refl=>exact .refl _
 | step h1 hx he ih =>
  obtain ⟨m,hm,h2,h3⟩:=lA.1 hx;exact ih.step (lA.2 ⟨m,hs m hm,h2,h3⟩) he
theorem Reach.cut {ms UZ:List em} {x:em} (hs:∀ m∈UZ,m=x∨m∈ms) {s t:dR} (h:Reach UZ s t):Reach ms s t∨(Reach ms s (txt x.role)∧Reach ms (txt x.of) t):=by
 induction h with
 | refl=>exact .inl (.refl _)
 | step h1 hx he ih =>
  obtain ⟨m,hm,h2,h3⟩:=lA.1 hx
  rcases hs m hm with e | e
  ·subst e
   subst h3;subst h2;subst he
   rcases ih with i | i
   ·exact .inr ⟨i,.refl _⟩
   ·exact .inr ⟨i.1,.refl _⟩
  ·rcases ih with i | i
   ·exact .inl (i.step (lA.2 ⟨m,e,h2,h3⟩) he)
   ·exact .inr ⟨i.1,i.2.step (lA.2 ⟨m,e,h2,h3⟩) he⟩
theorem Ak {l:List em} (hr:aN eV l=true):(l.map fun m=>(m.role,m.of)).Nodup:=by
 rw [List.nodup_iff_pairwise_ne,List.pairwise_map,List.pairwise_iff_getElem];intro i j hi hj px e;have h1:=eh sD hr i j hi hj px
 have:l[i]=l[j]:=by
  generalize l[i]=a at *;generalize l[j]=b at *;obtain ⟨a1,a2⟩:=a;obtain ⟨b1,b2⟩:=b;simp only [Prod.mk.injEq] at e;rw [e.1,e.2]
 rw [this,LH.refl] at h1;omega
theorem Ge {r:fX} (hr:aN eV r.members=true) (hn:r.names.length≤16) (hi:∀ m∈r.members,m.role∈r.names∧m.of∈r.names):r.members.length≤256:=by
 have h1:=sS (l:=r.members.map fun m=>(m.role,m.of)) (l':=r.names.flatMap fun a=>r.names.map fun b=>(a,b)) (Ak hr) (fun y hy=>by
  obtain ⟨m,hm,rfl⟩:=List.mem_map.1 hy
  exact List.mem_flatMap.2 ⟨m.role,(hi m hm).1,List.mem_map.2 ⟨m.of,(hi m hm).2,rfl⟩⟩)
 have h2:(r.names.flatMap fun a=>r.names.map fun b=>(a,b)).length=r.names.length*r.names.length:=by
  have h3:∀ (l:List ByteArray) (n:Nat),(l.map fun _=>n).sum=l.length*n:=fun l n=>by
   induction l with
   | nil=>simp
   | cons a l ih=>simp [ih,Nat.succ_mul];omega
  rw [List.length_flatMap];simp only [List.length_map];exact h3 _ _
 rw [List.length_map,h2] at h1;exact Nat.le_trans h1 (Nat.mul_le_mul hn hn)
theorem cQ {r:fX}:bN r=true↔r.names.length≤16∧r.members.length≤256∧aN bw r.names=true∧aN eV r.members=true∧(∀ s∈r.names,bP s=true)∧∀ m∈r.members,m.role∈r.names∧m.of∈r.names∧¬ Reach r.members (txt m.of) (txt m.role):=by
 unfold bN;simp only [Bool.and_eq_true,decide_eq_true_eq,List.all_eq_true,np,iB,Bool.not_eq_true',and_assoc]
 have e:∀ a b,dI r.members a b=false↔¬ Reach r.members (txt a) (txt b):=fun a b=>by rw [← lV];simp
 simp only [e]
theorem BR {r:fX} {x:em} (h:bN r=true) (h1:dQ r.names x.role=true) (h2:dQ r.names x.of=true) (h3:b8 eV r.members x=false) (h4:dI r.members x.of x.role=false):bN { r with members:=bQ r.members (cN eV r.members x) x }=true:=by
 have hp:=cQ.1 h;obtain ⟨p1,p2,p3,p4,p5,p6⟩:=hp
 have Yn:¬ Reach r.members (txt x.of) (txt x.role):=by rw [← lV,h4];simp
 have hm:∀ m∈bQ r.members (cN eV r.members x) x,m=x∨m∈r.members:=fun m hm=>cj.1 hm
 have Jk:=vH LH p4 h3
 have mb:∀ m∈bQ r.members (cN eV r.members x) x,m.role∈r.names∧m.of∈r.names:=fun m zo=>by
  rcases hm m zo with e | e
  ·subst e;exact ⟨(iB _ _).1 h1,(iB _ _).1 h2⟩
  ·exact ⟨(p6 m e).1,(p6 m e).2.1⟩
 refine cQ.2 ⟨p1,Ge (r:={ r with members:=bQ r.members (cN eV r.members x) x }) Jk p1 mb,p3,Jk,p5,fun m zo=>⟨(mb m zo).1,(mb m zo).2,fun hr=>?_⟩⟩;have hc:=Reach.cut hm hr
 rcases hm m zo with e | e
 ·subst e
  rcases hc with i | i
  ·exact Yn i
  ·exact Yn i.1
 ·rcases hc with i | i
  ·exact (p6 m e).2.2 i
  ·have hstep:Reach r.members (txt m.role) (txt m.of):=(Reach.refl _).step (lA.2 ⟨m,e,rfl,rfl⟩) rfl
   exact Yn ((i.2.trans hstep).trans i.1)
end Go.Proofs.YtmflccbnoeaafaaGreat
namespace Go.Proofs.YtmflccbnoeaafaaGreat
open Go.RowKit
set_option maxRecDepth 100000
set_option linter.unusedVariables false
set_option maxHeartbeats 64000000
def kh (c:fc):Bool:=bP c.name&&(c.kind==2 || c.kind==3)
def fp (l:List fc):Bool:=decide (1≤l.length)&&decide (l.length≤8)&&(List.range l.length).all fun i=>match l[i]? with | some c=>kh c&&decide (bK (fun d=>bk d.name c.name) (l.take i) < 0) | none=>true
theorem qm (l:List fc) (k:Nat) (hk:k < l.length) (h:(kh l[k]&&decide (bK (fun d=>bk d.name l[k].name) (l.take k) < 0))=false):fp l=false:=by
 unfold fp;rw [Bool.and_eq_false_iff];right;rw [Bool.eq_false_iff];intro ha;have:=List.all_eq_true.1 ha k (List.mem_range.2 hk);rw [List.getElem?_eq_getElem hk] at this;simp only [h] at this
 cases this
theorem Al (l:List fc) (h1:1≤l.length) (h8:l.length≤8) (h:∀ k,k < l.length→∀ hk:k < l.length,(kh l[k]&&decide (bK (fun d=>bk d.name l[k].name) (l.take k) < 0))=true):fp l=true:=by
 unfold fp;rw [Bool.and_eq_true,List.all_eq_true];refine ⟨by simp [h1,h8],fun k hk=>?_⟩;have vQ:=List.mem_range.1 hk;rw [List.getElem?_eq_getElem vQ];exact h k vQ vQ
end Go.Proofs.YtmflccbnoeaafaaGreat
namespace Go.Proofs.YtmflccbnoeaafaaGreat
set_option maxRecDepth 100000
set_option linter.unusedVariables false
set_option maxHeartbeats 64000000
def emp (s:ByteArray):Bool:=s.toList.isEmpty
theorem kG (a b:ByteArray):(a++b).toList=[]↔a.toList=[]∧b.toList=[]:=by
 simp only [gF,ByteArray.size_append];omega
end Go.Proofs.YtmflccbnoeaafaaGreat
namespace Go.Proofs.YtmflccbnoeaafaaGreat
open Go.RowKit
set_option maxRecDepth 100000
set_option linter.unusedVariables false
set_option maxHeartbeats 64000000
def cA (l:List fc) (s:ByteArray):Int:=bK (fun c=>bk c.name s) l
def sk (cs:List ByteArray) (s:ByteArray):Bool:=cs.any fun c=>bk c s
def rS (l:List fc) (cs:List ByteArray):Bool:=(List.range cs.length).all fun i=>match cs[i]? with | some s=>decide (0≤cA l s)&&!(sk (cs.take i) s) | none=>true
theorem ud (l:List fc) (cs:List ByteArray) (k:Nat) (hk:k < cs.length) (h:(decide (0≤cA l cs[k])&&!(sk (cs.take k) cs[k]))=false):rS l cs=false:=by
 unfold rS;rw [Bool.eq_false_iff];intro ha;have:=List.all_eq_true.1 ha k (List.mem_range.2 hk);rw [List.getElem?_eq_getElem hk] at this;simp only [h] at this
 cases this
theorem Gf (l:List fc) (cs:List ByteArray) (h:∀ k,k < cs.length→∀ hk:k < cs.length,(decide (0≤cA l cs[k])&&!(sk (cs.take k) cs[k]))=true):rS l cs=true:=by
 unfold rS;rw [List.all_eq_true];intro k hk;have vQ:=List.mem_range.1 hk;rw [List.getElem?_eq_getElem vQ];exact h k vQ vQ
def ib (l:List fc) (i:Int):Int:=match l[i.toNat]? with | some c=>c.kind | none=>0
def jn (l:List fc) (r:gi):Bool :=
 if r.kind==1 || r.kind==2 then emp r.aa&&emp r.table&&emp r.key&&r.low==0&&r.high==0
 else if r.kind==3 then emp r.aa&&emp r.table&&emp r.key&&((r.ak.length:Int)==1)&&ib l (cA l (r.ak.headD ByteArray.empty))==2&&decide (r.low≤r.high)
 else if r.kind==4 then bP r.aa&&bP r.table&&bP r.key&&r.low==0&&r.high==0
 else false
def dS (l:List fc) (r:gi):Bool:=rS l r.ak&&bP r.name&&!(r.ak.length==0)&&jn l r
theorem sF {w w':World} {a b:Value} {ta tb:TypeId} (h:ag ((w.alloc (.cells #[a] ta)).alloc (.cells #[b] tb)) w') :
  w'.cell? ⟨w.heap.size,0,none⟩=some a∧w'.cell? ⟨w.heap.size+1,0,none⟩=some b∧w.heap.size < w'.heap.size∧w.heap.size+1 < w'.heap.size:=by
 have hz:w.heap.size+1 < w'.heap.size:=by have:=h.size;simp at this;omega
 refine ⟨?_,?_,by omega,hz⟩
 ·rw [Below.cell h (p:=⟨w.heap.size,0,none⟩) (by simp;omega),World.cell?_alloc_past _ _ _ (by simp)];simp
 ·rw [Below.cell h (p:=⟨w.heap.size+1,0,none⟩) (by simp),World.cell?_alloc_at _ _ _ _ (by simp)];rfl
theorem ue (name:ByteArray) (kind:Int) (null:Bool) (w:World) :
  Calls Tryz.prog 161 #[.agg #[.string name,.int .i64 kind,.bool null]] w fun e w'=>e=.returned (.string name)∧ag w w':=by
 go_enter Tryz.func161,Tryz.ntmps161
 go_wp2_with fail;go_ret;exact ⟨rfl,(ag.refl _).alloc _⟩
theorem Qz (name:ByteArray) (kind:Int) (null:Bool) (s:ByteArray) (b1 b2:Nat) (w:World) (hb1:b1 < w.heap.size) (hb2:b2 < w.heap.size) (hc1:w.cell? ⟨b1,0,none⟩=some (.func (.func 161) #[] #[])) (hc2:w.cell? ⟨b2,0,none⟩=some (.string s)) :
  Calls Tryz.prog 212 #[.agg #[.string name,.int .i64 kind,.bool null],.pointer (some ⟨b1,0,none⟩),.pointer (some ⟨b2,0,none⟩)] w fun e w'=>e=.returned (.bool (bk name s))∧ag w w':=by
 have Cn:=gH (fun w=>ue name kind null w)
 go_enter Tryz.func212,Tryz.ntmps212
 go_wp2_with fail
 have f1:∀ x:ii (w.alloc (.cells #[.string name,.int .i64 kind,.bool null] 98)),(bH _ x).cell? ⟨b1,0,none⟩=some (.func (.func 161) #[] #[]):=fun x=>(gG _ x b1 0 (by simp;omega)).trans ((World.cell?_alloc_past _ _ _ hb1).trans hc1)
 have f2:∀ x:ii (w.alloc (.cells #[.string name,.int .i64 kind,.bool null] 98)),(bH _ x).cell? ⟨b2,0,none⟩=some (.string s):=fun x=>(gG _ x b2 0 (by simp;omega)).trans ((World.cell?_alloc_past _ _ _ hb2).trans hc2)
 have f3:∀ x:ii (w.alloc (.cells #[.string name,.int .i64 kind,.bool null] 98)),∀ o,(bH _ x).cell? ⟨w.heap.size,o,none⟩=(#[.string name,.int .i64 kind,.bool null]:Array Value)[o]? := fun x o=>(gG _ x _ o (by simp)).trans (World.cell?_alloc_at _ _ _ _ rfl)
 refine av (by kernel_rfl) (by kernel_rfl) ?_
 repeat (go_big_quiet_step ((first | (go_at_call 161;exact Calls.bD (Cn.out _)))))
 refine wpQuiet_nil ?_;intro _ hw';obtain ⟨x,hw''⟩:=hw';subst hw'';clear f1 f2 f3 hc1 hc2;go_wp2_with fail;go_ret;exact ⟨rfl,((ag.refl _).alloc _).bH x⟩
theorem vB (A:Option Addr) (cap:Nat) (l:List fc) (s:ByteArray) (w:World) (h:aL w 3 iv A cap l) :
  Calls Tryz.prog 160 #[.slice A l.length cap,.string s,.func (.func 161) #[] #[]] w fun e w'=>e=.returned (.int .i64 (bK (fun c=>bk c.name s) l))∧ag w w':=by
 have bR:=enters (P:=Tryz.prog) Tryz.func212 (by kernel_rfl) rfl
 have C:=gH (Qo A cap l 212 #[.pointer (some ⟨w.heap.size+1,0,none⟩),.pointer (some ⟨w.heap.size,0,none⟩)] (fun c=>bk c.name s) ((w.alloc (.cells #[.string s] 9)).alloc (.cells #[.func (.func 161) #[] #[]] 193)) (cy (((ag.refl w).alloc _).alloc _) h) bR (fun w' ha i hi =>by
  obtain ⟨d1,d2,z1,z2⟩:=sF ha
  exact Qz _ _ _ s (w.heap.size+1) w.heap.size w' z2 z1 d2 d1))
 go_enter Tryz.func160,Tryz.ntmps160
 go_wp2_with fail;refine C.out.mono ?_;rintro e w1 ⟨rfl,a1⟩;have HA:=gH ((((ag.refl w).alloc _).alloc _).trans a1);clear a1;go_wp2_with fail;go_ret;exact ⟨rfl,HA.out⟩
theorem uf (name:ByteArray) (owner:ByteArray) (w:World) :
  Calls Tryz.prog 124 #[.agg #[.string name,.string owner]] w fun e w'=>e=.returned (.string name)∧ag w w':=by
 go_enter Tryz.func124,Tryz.ntmps124
 go_wp2_with fail;go_ret;exact ⟨rfl,(ag.refl _).alloc _⟩
theorem QA (name:ByteArray) (owner:ByteArray) (s:ByteArray) (b1 b2:Nat) (w:World) (hb1:b1 < w.heap.size) (hb2:b2 < w.heap.size) (hc1:w.cell? ⟨b1,0,none⟩=some (.func (.func 124) #[] #[])) (hc2:w.cell? ⟨b2,0,none⟩=some (.string s)) :
  Calls Tryz.prog 193 #[.agg #[.string name,.string owner],.pointer (some ⟨b1,0,none⟩),.pointer (some ⟨b2,0,none⟩)] w fun e w'=>e=.returned (.bool (bk name s))∧ag w w':=by
 have Cn:=gH (fun w=>uf name owner w)
 go_enter Tryz.func193,Tryz.ntmps193
 go_wp2_with fail
 have f1:∀ x:ii (w.alloc (.cells #[.string name,.string owner] 61)),(bH _ x).cell? ⟨b1,0,none⟩=some (.func (.func 124) #[] #[]):=fun x=>(gG _ x b1 0 (by simp;omega)).trans ((World.cell?_alloc_past _ _ _ hb1).trans hc1)
 have f2:∀ x:ii (w.alloc (.cells #[.string name,.string owner] 61)),(bH _ x).cell? ⟨b2,0,none⟩=some (.string s):=fun x=>(gG _ x b2 0 (by simp;omega)).trans ((World.cell?_alloc_past _ _ _ hb2).trans hc2)
 have f3:∀ x:ii (w.alloc (.cells #[.string name,.string owner] 61)),∀ o,(bH _ x).cell? ⟨w.heap.size,o,none⟩=(#[.string name,.string owner]:Array Value)[o]? := fun x o=>(gG _ x _ o (by simp)).trans (World.cell?_alloc_at _ _ _ _ rfl)
 refine av (by kernel_rfl) (by kernel_rfl) ?_
 repeat (go_big_quiet_step ((first | (go_at_call 124;exact Calls.bD (Cn.out _)))))
 refine wpQuiet_nil ?_;intro _ hw';obtain ⟨x,hw''⟩:=hw';subst hw'';clear f1 f2 f3 hc1 hc2;go_wp2_with fail;go_ret;exact ⟨rfl,((ag.refl _).alloc _).bH x⟩
theorem Dp (A:Option Addr) (cap:Nat) (l:List gj) (s:ByteArray) (w:World) (h:aL w 2 fk A cap l) :
  Calls Tryz.prog 123 #[.slice A l.length cap,.string s,.func (.func 124) #[] #[]] w fun e w'=>e=.returned (.int .i64 (bK (fun c=>bk c.name s) l))∧ag w w':=by
 have bR:=enters (P:=Tryz.prog) Tryz.func193 (by kernel_rfl) rfl
 have C:=gH (wE A cap l 193 #[.pointer (some ⟨w.heap.size+1,0,none⟩),.pointer (some ⟨w.heap.size,0,none⟩)] (fun c=>bk c.name s) ((w.alloc (.cells #[.string s] 9)).alloc (.cells #[.func (.func 124) #[] #[]] 160)) (bm (((ag.refl w).alloc _).alloc _) h) bR (fun w' ha i hi =>by
  obtain ⟨d1,d2,z1,z2⟩:=sF ha
  exact QA _ _ s (w.heap.size+1) w.heap.size w' z2 z1 d2 d1))
 go_enter Tryz.func123,Tryz.ntmps123
 go_wp2_with fail;refine C.out.mono ?_;rintro e w1 ⟨rfl,a1⟩;have HA:=gH ((((ag.refl w).alloc _).alloc _).trans a1);clear a1;go_wp2_with fail;go_ret;exact ⟨rfl,HA.out⟩
theorem xF (name:ByteArray) (kind:Int) (A0:Option Addr) (n0:Nat) (c0:Nat) (lo:Int) (hi:Int) (rs:ByteArray) (rt:ByteArray) (rk:ByteArray) (w:World) :
  Calls Tryz.prog 168 #[.agg #[.string name,.int .i64 kind,.slice A0 n0 c0,.int .i64 lo,.int .i64 hi,.string rs,.string rt,.string rk]] w fun e w'=>e=.returned (.string name)∧ag w w':=by
 go_enter Tryz.func168,Tryz.ntmps168
 go_wp2_with fail;go_ret;exact ⟨rfl,(ag.refl _).alloc _⟩
theorem QB (name:ByteArray) (kind:Int) (A0:Option Addr) (n0:Nat) (c0:Nat) (lo:Int) (hi:Int) (rs:ByteArray) (rt:ByteArray) (rk:ByteArray) (s:ByteArray) (b1 b2:Nat) (w:World) (hb1:b1 < w.heap.size) (hb2:b2 < w.heap.size) (hc1:w.cell? ⟨b1,0,none⟩=some (.func (.func 168) #[] #[])) (hc2:w.cell? ⟨b2,0,none⟩=some (.string s)) :
  Calls Tryz.prog 214 #[.agg #[.string name,.int .i64 kind,.slice A0 n0 c0,.int .i64 lo,.int .i64 hi,.string rs,.string rt,.string rk],.pointer (some ⟨b1,0,none⟩),.pointer (some ⟨b2,0,none⟩)] w fun e w'=>e=.returned (.bool (bk name s))∧ag w w':=by
 have Cn:=gH (fun w=>xF name kind A0 n0 c0 lo hi rs rt rk w)
 go_enter Tryz.func214,Tryz.ntmps214
 go_wp2_with fail
 have f1:∀ x:ii (w.alloc (.cells #[.string name,.int .i64 kind,.slice A0 n0 c0,.int .i64 lo,.int .i64 hi,.string rs,.string rt,.string rk] 37)),(bH _ x).cell? ⟨b1,0,none⟩=some (.func (.func 168) #[] #[]):=fun x=>(gG _ x b1 0 (by simp;omega)).trans ((World.cell?_alloc_past _ _ _ hb1).trans hc1)
 have f2:∀ x:ii (w.alloc (.cells #[.string name,.int .i64 kind,.slice A0 n0 c0,.int .i64 lo,.int .i64 hi,.string rs,.string rt,.string rk] 37)),(bH _ x).cell? ⟨b2,0,none⟩=some (.string s):=fun x=>(gG _ x b2 0 (by simp;omega)).trans ((World.cell?_alloc_past _ _ _ hb2).trans hc2)
 have f3:∀ x:ii (w.alloc (.cells #[.string name,.int .i64 kind,.slice A0 n0 c0,.int .i64 lo,.int .i64 hi,.string rs,.string rt,.string rk] 37)),∀ o,(bH _ x).cell? ⟨w.heap.size,o,none⟩=(#[.string name,.int .i64 kind,.slice A0 n0 c0,.int .i64 lo,.int .i64 hi,.string rs,.string rt,.string rk]:Array Value)[o]? := fun x o=>(gG _ x _ o (by simp)).trans (World.cell?_alloc_at _ _ _ _ rfl)
 refine av (by kernel_rfl) (by kernel_rfl) ?_
 repeat (go_big_quiet_step ((first | (go_at_call 168;exact Calls.bD (Cn.out _)))))
 refine wpQuiet_nil ?_;intro _ hw';obtain ⟨x,hw''⟩:=hw';subst hw'';clear f1 f2 f3 hc1 hc2;go_wp2_with fail;go_ret;exact ⟨rfl,((ag.refl _).alloc _).bH x⟩
theorem GQ (A:Option Addr) (cap:Nat) (l:List gi) (s:ByteArray) (w:World) (h:aL w 8 gI A cap l) :
  Calls Tryz.prog 167 #[.slice A l.length cap,.string s,.func (.func 168) #[] #[]] w fun e w'=>e=.returned (.int .i64 (bK (fun c=>bk c.name s) l))∧ag w w':=by
 have bR:=enters (P:=Tryz.prog) Tryz.func214 (by kernel_rfl) rfl
 have C:=gH (Ir A cap l 214 #[.pointer (some ⟨w.heap.size+1,0,none⟩),.pointer (some ⟨w.heap.size,0,none⟩)] (fun c=>bk c.name s) ((w.alloc (.cells #[.string s] 9)).alloc (.cells #[.func (.func 168) #[] #[]] 197)) (ee (((ag.refl w).alloc _).alloc _) h) bR (fun w' ha i hi e1 he=>by
  obtain ⟨A2,bT,rfl,_⟩:=he;obtain ⟨d1,d2,z1,z2⟩:=sF ha
  exact QB _ _ _ _ _ _ _ _ _ _ s (w.heap.size+1) w.heap.size w' z2 z1 d2 d1))
 go_enter Tryz.func167,Tryz.ntmps167
 go_wp2_with fail;refine C.out.mono ?_;rintro e w1 ⟨rfl,a1⟩;have HA:=gH ((((ag.refl w).alloc _).alloc _).trans a1);clear a1;go_wp2_with fail;go_ret;exact ⟨rfl,HA.out⟩
theorem df (s:ByteArray):bk s s=true:=by simp [bk]
theorem Ao {α:Type} (p:α→Bool) (l:List α) (k:Nat) (hk:k < l.length) (hp:p l[k]=true) (h:bK p (l.take k) < 0):bK p l=k:=by
 refine fR p l k hk hp fun i hi=>?_
 cases hq:p (l[i]'(by omega)) with
 | false=>rfl
 | true =>
  exfalso
  have hlen:(l.take k).length=k:=by rw [List.length_take];omega
  clear hp
  have:∀ (l:List α) (i:Nat) (hi:i < l.length),p l[i]=true→0≤bK p l:=by
   intro l
   induction l with
   | nil=>intro i hi;simp at hi
   | cons x l ih =>
    intro i hi hp
    cases i with
    | zero=>simp at hp;simp [bK,hp]
    | succ i =>
     have:=ih i (by simpa using hi) hp;simp only [bK]
     split
     ·omega
     ·split<;>omega
  have:=this (l.take k) i (by omega) (by rw [List.getElem_take];exact hq);omega
theorem wk {α:Type} (p:α→Bool) (l:List α) (k:Nat) (hk:k < l.length) (h:0≤bK p (l.take k)):bK p l < k∧0≤bK p l:=by
 induction l generalizing k with
 | nil=>simp at hk
 | cons x l ih =>
  cases k with
  | zero=>simp [bK] at h
  | succ k =>
   simp only [List.take_succ_cons,bK] at h ⊢;by_cases hx:p x=true
   ·rw [if_pos hx] at h ⊢;omega
   ·rw [if_neg hx] at h ⊢
    by_cases hy:bK p (l.take k) < 0
    ·rw [if_pos hy] at h;omega
    ·have:=ih k (by simpa using hk) (by omega)
     rw [if_neg (by omega)];omega
theorem tG (name:ByteArray) (kind:Int) (null:Bool) (w:World) (hs:name.size≤maxLen) :
  Calls Tryz.prog 159 #[.agg #[.string name,.int .i64 kind,.bool null]] w fun e w'=>e=.returned (.bool (kh ⟨name,kind,null⟩))∧ag w w':=by
 go_enter Tryz.func159,Tryz.ntmps159
 go_wp2_with (go_at_call 38;refine (cz _ _ hs).mono ?_;rintro e w' ⟨rfl,rfl⟩)
 all_goals
  go_ret;refine ⟨Eq.trans (b:=.returned (.bool _)) rfl (eD (dF ?_)),(ag.refl _).alloc _⟩
  simp_all [kh]
theorem rf (A:Option Addr) (cap:Nat) (l:List fc) (w:World) (h:aL w 3 iv A cap l) :
  Calls Tryz.prog 122 #[.slice A l.length cap] w fun e w'=>e=.returned (.bool (fp l))∧ag w w':=by
 have hlen:=h.len;by_cases h1:l.length < 1∨8 < l.length
 ·have H:=gH (show fp l=false by unfold fp;rcases h1 with h1 | h1<;>simp<;>intros<;>omega)
  rcases h1 with h1 | h1
  all_goals
   go_enter Tryz.func122,Tryz.ntmps122
   go_wp2_with fail;go_ret;exact ⟨by rw [H.out];rfl,ag.refl _⟩
 ·have g1:1≤l.length:=by omega
  have g8:l.length≤8:=by omega
  clear h1
  go_enter Tryz.func122,Tryz.ntmps122
  go_wp2_with fail
  go_loopw [15] (fun i wr=>∃ k:Nat,k≤l.length∧i=.int .i64 k∧ag w wr∧∀ j,j < k→∀ (hj:j < l.length),(kh l[j]&&decide (bK (fun d=>bk d.name l[j].name) (l.take j) < 0))=true) (fun i _=>l.length - (intOf i).toNat)
  case atStart=>exact ⟨0,Nat.zero_le _,rfl,ag.refl _,fun j hj=>absurd hj (Nat.not_lt_zero j)⟩
  case round =>
   obtain ⟨k,hk,rfl,ha,hp⟩:=hrel;have HA:=gH ha;have HP:=gH hp;clear hp;by_cases hlt:k < l.length
   ·have eT:=cy ha h
    clear ha;obtain ⟨b,off,rfl,hb,c0,c1,c2,hs⟩:=wm eT hlt;have ME:=gH (fun w=>tG l[k].name l[k].kind l[k].null w hs.max);obtain ⟨r,hr⟩:∃ r,bK (fun d=>bk d.name l[k].name) l=r:=⟨_,rfl⟩;have HR:=gH hr
    have MG:=gH (show ∀ w',ag wr w'→Calls Tryz.prog 160 #[.slice (some ⟨b,off,none⟩) l.length cap,.string l[k].name,.func (.func 161) #[] #[]] w' fun e w''=>e=.returned (.int .i64 r)∧ag w' w'' from
     fun w' ha'=>hr▸vB _ cap l l[k].name w' (cy ha' eT))
    clear hr eT;generalize hcc:kh ⟨l[k].name,l[k].kind,l[k].null⟩=cc at ME;have HC:=gH hcc;clear hcc
    cases cc
    ·go_wp2_with fail
     refine (ME.out _).mono ?_;rintro e w1 ⟨rfl,a1⟩;obtain ⟨gv,mC,hz,qu,cG⟩:=cJ a1;clear a1;go_wp2_with fail;go_ret;exact ⟨by rw [qm l k hlt (by rw [show kh l[k]=false from HC.out];rfl)];rfl,HA.out.trans cG.out⟩
    ·by_cases uj:r=k
     ·have e1:(r != (k:Int))=false:=by simp [uj]
      have Yo:=gH uj;clear uj;go_wp2_with fail;refine (ME.out _).mono ?_;rintro e w1 ⟨rfl,a1⟩;obtain ⟨gv,mC,hz,qu,cG⟩:=cJ a1;clear a1;go_wp2_with fail;refine (MG.out _ cG.out).mono ?_;rintro e w2 ⟨rfl,a2⟩;have fx:=gH (cG.out.trans a2);clear a2;go_wp2_with fail
      go_roundw
      case rel =>
       refine ⟨k+1,by omega,by go_num,HA.out.trans fx.out,er (p:=fun j=>∀ (hj:j < l.length),(kh l[j]&&decide (bK (fun d=>bk d.name l[j].name) (l.take j) < 0))=true) HP.out (fun _=>?_)⟩;rw [show kh l[k]=true from HC.out,Bool.true_and];refine decide_eq_true ?_;by_cases h0:bK (fun d=>bk d.name l[k].name) (l.take k) < 0
       ·exact h0
       ·have:=(wk (fun d=>bk d.name l[k].name) l k hlt (by omega)).1
        have e1:=HR.out;have e2:=Yo.out;omega
      case measure=>simp [intOf];omega
     ·have e1:(r != (k:Int))=true:=by rw [bne_iff_ne];exact uj
      have Yo:=gH uj;clear uj;go_wp2_with fail;refine (ME.out _).mono ?_;rintro e w1 ⟨rfl,a1⟩;obtain ⟨gv,mC,hz,qu,cG⟩:=cJ a1;clear a1;go_wp2_with fail;refine (MG.out _ cG.out).mono ?_;rintro e w2 ⟨rfl,a2⟩;have fx:=gH (cG.out.trans a2);clear a2;go_wp2_with fail;go_ret
      have hf:(kh l[k]&&decide (bK (fun d=>bk d.name l[k].name) (l.take k) < 0))=false:=by
       rw [decide_eq_false,Bool.and_false];intro h0;exact Yo.out ((HR.out.symm.trans (Ao _ l k hlt (df _) h0)))
      exact ⟨by rw [qm l k hlt hf];rfl,HA.out.trans fx.out⟩
   ·go_wp2_with fail
    go_ret;exact ⟨by rw [Al l g1 g8 (fun j hj hj'=>HP.out j (by omega) hj')];rfl,HA.out⟩
theorem AK (l:List fc) (cs:List ByteArray) (h:rS l cs=true):cs.length≤l.length:=by
 have hk:∀ k (hk:k < cs.length),0≤cA l cs[k]∧sk (cs.take k) cs[k]=false:=by
  intro k hk;have:=List.all_eq_true.1 h k (List.mem_range.2 hk);rw [List.getElem?_eq_getElem hk] at this
  simpa using this
 clear h
 have inj:∀ i j (hi:i < cs.length) (hj:j < cs.length),i < j→cA l cs[i]≠cA l cs[j]:=by
  intro i j hi hj px he;have h1:=(hk i hi).1;obtain ⟨q,hq⟩:=Int.eq_ofNat_of_zero_le h1
  have q9:q < l.length:=by have:=(bg (fun c=>bk c.name cs[i]) l).2;unfold cA at hq;omega
  have a1:=gY (fun c:fc=>bk c.name cs[i]) l q q9 hq;have a2:=gY (fun c:fc=>bk c.name cs[j]) l q q9 (he▸hq);have e:bk cs[i] cs[j]=true:=qL ((mX _ _).trans a1) a2;have:=(hk j hj).2;unfold sk at this;rw [F6 (fun c=>bk c cs[j]) (cs.take j) i (by simp;omega) (by simpa using e)] at this
  cases this
 have xJ:((List.range cs.length).map fun i=>(cA l (cs.getD i ByteArray.empty)).toNat).Nodup:=by
  rw [List.nodup_iff_pairwise_ne,List.pairwise_map];refine List.Pairwise.imp_of_mem ?_ List.pairwise_lt_range;intro i j hi hj px he;have hi':=List.mem_range.1 hi;have hj':=List.mem_range.1 hj
  have e1:cs.getD i ByteArray.empty=cs[i]:=by simp [List.getD,List.getElem?_eq_getElem hi']
  have e2:cs.getD j ByteArray.empty=cs[j]:=by simp [List.getD,List.getElem?_eq_getElem hj']
  rw [e1,e2] at he;have h1:=(hk i hi').1;have h2:=(hk j hj').1;exact inj i j hi' hj' px (by omega)
 have Ik:∀ u∈((List.range cs.length).map fun i=>(cA l (cs.getD i ByteArray.empty)).toNat),u∈List.range l.length:=by
  intro u hu;obtain ⟨i,hi,rfl⟩:=List.mem_map.1 hu;have hi':=List.mem_range.1 hi
  have e1:cs.getD i ByteArray.empty=cs[i]:=by simp [List.getD,List.getElem?_eq_getElem hi']
  rw [e1];have h1:=(hk i hi').1;have h2:=(bg (fun c=>bk c.name cs[i]) l).2;unfold cA at *;exact List.mem_range.2 (by omega)
 have:=xJ.length_le_of_subset Ik
 simpa using this
def cL (l:List fc) (cs:List ByteArray):List Int:=cs.filterMap fun s=>if 0≤cA l s then some (ib l (cA l s)) else none
theorem xG (l:List fc) (cs:List ByteArray) (k:Nat) (hk:k < cs.length):cL l (cs.take (k+1))=cL l (cs.take k)++if 0≤cA l cs[k] then [ib l (cA l cs[k])] else []:=by
 unfold cL;rw [List.take_succ_eq_append_getElem hk,List.filterMap_append]
 by_cases h:0≤cA l cs[k]<;>simp [h]
theorem jX (l:List fc) (cs:List ByteArray):(cL l cs).length≤cs.length:=List.length_filterMap_le _ _
theorem QC:(Tryz.prog.info? 96).map (fun i=>(i.zero,i.size,i.bytes))=some (some (.int .i64 0),1,8):=by kernel_rfl
def Gg (w:World) (ks:List Int) (e:Ending) (w':World):Prop:=∃ v,e=.returned v∧w'.ownsRow w.heap.size 96 1 v ks.length (ks.map (Value.int .i64))∧ag w w'
theorem EC (A:Option Addr) (cap:Nat) (l:List fc) (A2:Option Addr) (bT:Nat) (cs:List ByteArray) (w:World) (h:aL w 3 iv A cap l) (h2:aL w 1 dK A2 bT cs) :
  Calls Tryz.prog 194 #[.slice A l.length cap,.slice A2 cs.length bT] w (Gg w (cL l cs)):=by
 have hlen:=h.len;have fl:=h2.len;obtain ⟨i0,hi,hz0,hz1,hz2⟩:=info_parts QC;have HI:=gH hi;have qw:=gH hz0;have nS:=gH hz1;have mG:=gH hz2;clear hi hz0 hz1 hz2
 go_enter Tryz.func194,Tryz.ntmps194
 go_wp2_with fail
 go_loopw [5,11] (fun v i wr=>∃ k:Nat,k≤cs.length∧i=.int .i64 k∧ag w wr∧wr.ownsRow w.heap.size 96 1 v (cL l (cs.take k)).length ((cL l (cs.take k)).map (Value.int .i64))) (fun _ i _=>cs.length - (intOf i).toNat)
 case atStart=>exact ⟨0,Nat.zero_le _,rfl,ag.refl _,dl _ _ _ _⟩
 case round =>
  rename_i v _;obtain ⟨k,hk,rfl,ha,hown⟩:=hrel;have HA:=gH ha;have HO:=gH hown;clear hown;by_cases hlt:k < cs.length
  ·have eT:=cy ha h
   have kW:=aM ha h2;clear ha;obtain ⟨b,off,rfl,hb,c0,ur⟩:=gw kW hlt;obtain ⟨i,hi⟩:∃ i,cA l cs[k]=i:=⟨_,rfl⟩
   have MG:=gH (show Calls Tryz.prog 160 #[.slice A l.length cap,.string cs[k],.func (.func 161) #[] #[]] wr fun e w'=>e=.returned (.int .i64 i)∧ag wr w' from
    (vB A cap l cs[k] wr eT).mono fun e w' ⟨he,hw⟩=>⟨he.trans (by rw [← hi];rfl),hw⟩)
   have HS:=gH (xG l cs k hlt);by_cases eU:0≤i
   ·obtain ⟨q,hq⟩:=Int.eq_ofNat_of_zero_le eU
    subst hq
    have q9:q < l.length:=by have:=(bg (fun c=>bk c.name cs[k]) l).2;unfold cA at hi;omega
    obtain ⟨b2,GN,rfl,hb2,d0,d1,d2,Yp⟩:=wm eT q9;have HN:=gH (show cL l (cs.take (k+1))=cL l (cs.take k)++[l[q].kind] by rw [HS.out,hi,if_pos eU];simp [ib,List.getElem?_eq_getElem q9]);have uh:=jX l (cs.take k);have aan:(cs.take k).length≤k:=List.length_take_le _ _;clear hi eT kW HS;go_wp2_with fail;refine MG.out.mono ?_;rintro e w1 ⟨rfl,a1⟩;have cG:=gH (HA.out.trans a1);have QD:=gH (bu HO.out a1);have d1':=(Below.cell a1 (p:=⟨b2,GN+q*3+1,none⟩) hb2).trans d1;clear a1 d0 d1 d2 c0
    go_wp2_with (at_builtin;refine wpList_append_own _ rfl (.tmp 20) (.tmp 26) 216 rfl w.heap.size 96 i0 (.int .i64 0) 1 8 Tryz.underlying216 HI.out qw.out nS.out mG.out rfl (by decide) _ _ _ rfl (QD.out.alloc _) ⟨w1.heap.size,0,none⟩ 1 1 [.int .i64 l[q].kind] rfl rfl ?c1 ?c2 ?c3 ?c4 ?c5 ?_)
    case c1=>exact cell_one_new _ _ _
    case c2=>simp [Value.oneCell']
    case c3=>unfold maxLen;omega
    case c4=>omega
    case c5=>have:=cG.out.size;simp;omega
    intro v' w2 hown' hgrow _;have fx:=gH (Er (QD.out.alloc _) (cG.out.alloc _) hgrow);have Vb:=gH hown';clear hown' hgrow;go_wp2_with fail
    go_roundw
    case rel=>exact ⟨k+1,by omega,by go_num,fx.out,by rw [HN.out];simpa using Vb.out⟩
    case measure=>simp [intOf];omega
   ·have HN:=gH (show cL l (cs.take (k+1))=cL l (cs.take k) by rw [HS.out,hi,if_neg eU,List.append_nil])
    clear hi eT kW HS;go_wp2_with fail;refine MG.out.mono ?_;rintro e w1 ⟨rfl,a1⟩;have cG:=gH (HA.out.trans a1);have QD:=gH (bu HO.out a1);clear a1;go_wp2_with fail
    go_roundw
    case rel=>exact ⟨k+1,by omega,by go_num,cG.out,by rw [HN.out];exact QD.out⟩
    case measure=>simp [intOf];omega
  ·clear ha
   go_wp2_with fail;go_ret;have e1:cs.take k=cs:=List.take_of_length_le (by omega);have ho:=HO.out;rw [e1] at ho;exact ⟨_,rfl,ho,HA.out⟩
def bj (l:List cu) (s n:ByteArray):Int:=bK (fun t=>bk t.aa s&&bk t.name n) l
theorem QE (aa name owner:ByteArray) (A0:Option Addr) (n0 c0:Nat) (A1:Option Addr) (n1 c1:Nat) (s n:ByteArray) (b1 b2:Nat) (w:World) (hb1:b1 < w.heap.size) (hb2:b2 < w.heap.size) (hc1:w.cell? ⟨b1,0,none⟩=some (.string s)) (hc2:w.cell? ⟨b2,0,none⟩=some (.string n)) :
  Calls Tryz.prog 86 #[.agg #[.string aa,.string name,.string owner,.slice A0 n0 c0,.slice A1 n1 c1],.pointer (some ⟨b1,0,none⟩),.pointer (some ⟨b2,0,none⟩)] w fun e w'=>e=.returned (.bool (bk aa s&&bk name n))∧ag w w':=by
 cases h1:bk aa s
 ·have AZ:(aa.toList==s.toList)=false:=h1
  clear h1
  go_enter Tryz.func86,Tryz.ntmps86
  go_wp2_with fail;go_ret;exact ⟨rfl,(ag.refl _).alloc _⟩
 ·have AZ:(aa.toList==s.toList)=true:=h1
  clear h1
  go_enter Tryz.func86,Tryz.ntmps86
  go_wp2_with fail;go_ret;exact ⟨rfl,(ag.refl _).alloc _⟩
theorem Gh {w w':World} {c:Array Value} {a b:Value} {t ta tb:TypeId} (h:ag (((w.alloc (.cells c t)).alloc (.cells #[a] ta)).alloc (.cells #[b] tb)) w') :
  w'.cell? ⟨w.heap.size+1,0,none⟩=some a∧w'.cell? ⟨w.heap.size+1+1,0,none⟩=some b∧w.heap.size+1 < w'.heap.size∧w.heap.size+1+1 < w'.heap.size:=by
 have:=sF (w:=w.alloc (.cells c t)) h
 simpa using this
theorem jL (vs:Value) (A:Option Addr) (cap:Nat) (l:List cu) (s n:ByteArray) (w:World) (h:aL w 5 dA A cap l) :
  Calls Tryz.prog 43 #[.agg #[vs,.slice A l.length cap],.string s,.string n] w fun e w'=>e=.returned (.tuple #[.int .i64 (bj l s n),.bool (decide (0≤bj l s n))])∧ag w w':=by
 have bR:=enters (P:=Tryz.prog) Tryz.func86 (by kernel_rfl) rfl;obtain ⟨i,hi⟩:∃ i,bj l s n=i:=⟨_,rfl⟩
 have C:=gH ((AW A cap l 86 #[.pointer (some ⟨w.heap.size+1,0,none⟩),.pointer (some ⟨w.heap.size+1+1,0,none⟩)] (fun t=>bk t.aa s&&bk t.name n) (((w.alloc (.cells #[vs,.slice A l.length cap] 25)).alloc (.cells #[.string s] 9)).alloc (.cells #[.string n] 9)) (aQ ((((ag.refl w).alloc _).alloc _).alloc _) h) bR (fun w' ha j hj e1 he=>by
  obtain ⟨A2,bT,A3,fA,rfl,_⟩:=he;obtain ⟨d1,d2,z1,z2⟩:=Gh ha
  exact QE _ _ _ A2 _ bT A3 _ fA s n (w.heap.size+1) (w.heap.size+1+1) w' z1 z2 d1 d2)).mono (fun e w' ⟨he,hw⟩=>(⟨he.trans (by rw [← hi];rfl),hw⟩:e=Ending.returned (Value.int .i64 i)∧ag _ w')))
 rw [hi];clear hi
 go_enter Tryz.func43,Tryz.ntmps43
 go_wp2_with fail;refine C.out.mono ?_;rintro e w1 ⟨rfl,a1⟩;have HA:=gH (((((ag.refl w).alloc _).alloc _).alloc _).trans a1);clear a1;go_wp2_with fail
 go_ret2
 exact ⟨rfl,HA.out⟩
def within (l:List cu) (s:ByteArray):Nat:=(l.filter fun t=>bk t.aa s).length
theorem Ap (l:List cu) (s:ByteArray) (k:Nat) (hk:k < l.length):within (l.take (k+1)) s=within (l.take k) s+if bk l[k].aa s=true then 1 else 0:=by
 unfold within;rw [List.take_succ_eq_append_getElem hk,List.filter_append,List.length_append]
 by_cases h:bk l[k].aa s=true<;>simp [h]
theorem Gi (l:List cu) (s:ByteArray):within l s≤l.length:=List.length_filter_le _ _
theorem oH (vs:Value) (A:Option Addr) (cap:Nat) (l:List cu) (s:ByteArray) (w:World) (h:aL w 5 dA A cap l) :
  Calls Tryz.prog 84 #[.agg #[vs,.slice A l.length cap],.string s] w fun e w'=>e=.returned (.int .i64 (within l s))∧ag w w':=by
 have hlen:=h.len
 go_enter Tryz.func84,Tryz.ntmps84
 go_wp2_with fail
 go_loopw [5,11] (fun n i wr=>∃ k:Nat,k≤l.length∧i=.int .i64 k∧n=.int .i64 (within (l.take k) s)∧ag w wr) (fun _ i _=>l.length - (intOf i).toNat)
 case atStart=>exact ⟨0,Nat.zero_le _,rfl,rfl,(ag.refl _).alloc _⟩
 case round =>
  obtain ⟨k,hk,rfl,rfl,ha⟩:=hrel;have HA:=gH ha;have hw:=Gi (l.take k) s;have hw2:(l.take k).length≤k:=List.length_take_le _ _;by_cases hlt:k < l.length
  ·have eT:=aQ ha h
   clear ha;obtain ⟨b,off,A2,bT,A3,fA,rfl,hb,c0,c1,c2,c3,c4,hs⟩:=jt eT hlt;clear eT hs;have HS:=gH (Ap l s k hlt)
   cases heq:bk l[k].aa s
   ·have h2:(l[k].aa.toList==s.toList)=false:=heq
    have HN:=gH (show within (l.take (k+1)) s=within (l.take k) s by rw [HS.out,heq];simp);clear heq HS;go_wp2_with fail
    go_roundw
    case rel=>exact ⟨k+1,by omega,by go_num,by rw [HN.out],HA.out.alloc _⟩
    case measure=>simp [intOf];omega
   ·have h2:(l[k].aa.toList==s.toList)=true:=heq
    have HN:=gH (show within (l.take (k+1)) s=within (l.take k) s+1 by rw [HS.out,heq];simp);clear heq HS;go_wp2_with fail
    go_roundw
    case rel=>exact ⟨k+1,by omega,by go_num,by rw [HN.out];go_num,HA.out.alloc _⟩
    case measure=>simp [intOf];omega
  ·clear ha
   go_wp2_with fail;go_ret;exact ⟨by rw [List.take_of_length_le (by omega)];rfl,HA.out⟩
theorem J4 (l:List ByteArray) (s:ByteArray):sk l s=true↔0≤bK (fun c=>bk c s) l:=by
 induction l with
 | nil=>simp [sk,bK]
 | cons x l ih =>
  unfold sk at ih ⊢;rw [List.any_cons,Bool.or_eq_true,ih];simp only [bK];by_cases hx:bk x s=true
  ·rw [if_pos hx];simp [hx]
  ·rw [if_neg hx]
   by_cases hy:bK (fun c=>bk c s) l < 0
   ·rw [if_pos hy]
    constructor
    ·intro h;rcases h with h | h
     ·exact absurd h hx
     ·omega
    ·intro h;omega
   ·rw [if_neg hy]
    constructor
    ·intro h;omega
    ·intro h;right;omega
theorem Au (l:List ByteArray) (s:ByteArray):sk l s=decide (0≤bK (fun c=>bk c s) l):=by
 rw [Bool.eq_iff_iff,J4];simp
theorem yc (A:Option Addr) (cap:Nat) (l:List fc) (r:gi) (A2:Option Addr) (bT:Nat) (w:World) (h:aL w 3 iv A cap l) (h2:aL w 1 dK A2 bT r.ak)
  (hn:Small r.name.size) (hs:Small r.aa.size) (ht:Small r.table.size) (vQ:Small r.key.size) :
  Calls Tryz.prog 125 #[.slice A l.length cap,.agg #[.string r.name,.int .i64 r.kind,.slice A2 r.ak.length bT,.int .i64 r.low,.int .i64 r.high,.string r.aa,.string r.table,.string r.key]] w
   fun e w'=>e=.returned (.bool (dS l r))∧ag w w':=by
 obtain ⟨name,kind,cs,low,high,aa,table,key⟩:=r;simp only at h2 hn hs ht vQ ⊢;have hlen:=h.len;have fl:=h2.len
 cases hN:bP name
 ·have HF:=gH (show dS l ⟨name,kind,cs,low,high,aa,table,key⟩=false by simp [dS,hN])
  go_enter Tryz.func125,Tryz.ntmps125
  go_wp2_with (go_at_call 38;refine (cz _ _ (by first | exact hn.max | exact hs.max | exact ht.max | exact vQ.max)).mono ?_;rintro e w' ⟨rfl,rfl⟩)
  go_ret;exact ⟨by rw [HF.out];rfl,(ag.refl _).alloc _⟩
 by_cases hz0:cs.length < 1
 ·have HF:=gH (show dS l ⟨name,kind,cs,low,high,aa,table,key⟩=false by
   have:cs.length=0:=by omega
   simp [dS,this])
  go_enter Tryz.func125,Tryz.ntmps125
  go_wp2_with (go_at_call 38;refine (cz _ _ (by first | exact hn.max | exact hs.max | exact ht.max | exact vQ.max)).mono ?_;rintro e w' ⟨rfl,rfl⟩)
  go_ret;exact ⟨by rw [HF.out];rfl,(ag.refl _).alloc _⟩
 by_cases hzl:l.length < cs.length
 ·have HF:=gH (show dS l ⟨name,kind,cs,low,high,aa,table,key⟩=false by
   have:rS l cs=false:=by
    cases oI:rS l cs with
    | false=>rfl
    | true=>have:=AK l cs oI;omega
   simp [dS,this])
  have AC:1≤cs.length:=by omega
  clear hz0
  go_enter Tryz.func125,Tryz.ntmps125
  go_wp2_with (go_at_call 38;refine (cz _ _ (by first | exact hn.max | exact hs.max | exact ht.max | exact vQ.max)).mono ?_;rintro e w' ⟨rfl,rfl⟩)
  go_ret;exact ⟨by rw [HF.out];rfl,(ag.refl _).alloc _⟩
 have AC:1≤cs.length:=by omega
 have rQ:cs.length≤l.length:=by omega
 have bb1:decide ((cs.length:Int) < 1)=false:=decide_eq_false (by omega);have bb2:decide (l.length < cs.length)=false:=decide_eq_false (by omega);have bb3:decide ((l.length:Int) < (cs.length:Int))=false:=decide_eq_false (by omega);clear hz0 hzl
 go_enter Tryz.func125,Tryz.ntmps125
 go_wp2_with (go_at_call 38;refine (cz _ _ (by first | exact hn.max | exact hs.max | exact ht.max | exact vQ.max)).mono ?_;rintro e w' ⟨rfl,rfl⟩)
 go_loopw [29] (fun i wr=>∃ k:Nat,k≤cs.length∧i=.int .i64 k∧ag (w.alloc (.cells #[.string name,.int .i64 kind,.slice A2 cs.length bT,.int .i64 low,.int .i64 high,.string aa,.string table,.string key] 37)) wr∧∀ j,j < k→∀ (hj:j < cs.length),(decide (0≤cA l cs[j])&&!(sk (cs.take j) cs[j]))=true) (fun i _=>cs.length - (intOf i).toNat)
 case atStart=>exact ⟨0,Nat.zero_le _,rfl,ag.refl _,fun j hj=>absurd hj (Nat.not_lt_zero j)⟩
 case round =>
  obtain ⟨k,hk,rfl,ha,hp⟩:=hrel;obtain ⟨gv,mC,hz,qu,HA⟩:=cJ ha;have mg:=gH ha;have HP:=gH hp;clear hp;have eT:=cy HA.out h;have kW:=aM HA.out h2;clear ha;by_cases hlt:k < cs.length
  ·obtain ⟨b,off,rfl,hb,c0,ur⟩:=gw kW hlt
   obtain ⟨i,hi⟩:∃ i,cA l cs[k]=i:=⟨_,rfl⟩;obtain ⟨m,hm⟩:∃ m,bK (fun c=>bk c cs[k]) cs=m:=⟨_,rfl⟩
   have MG:=gH (show Calls Tryz.prog 160 #[.slice A l.length cap,.string cs[k],.func (.func 161) #[] #[]] wr fun e w'=>e=.returned (.int .i64 i)∧ag wr w' from
    (vB A cap l cs[k] wr eT).mono fun e w' ⟨he,hw⟩=>⟨he.trans (by rw [← hi];rfl),hw⟩)
   have U0:=gH (show ∀ w',ag wr w'→Calls Tryz.prog 40 #[.slice (some ⟨b,off,none⟩) cs.length bT,.string cs[k]] w' fun e w''=>e=.returned (.int .i64 m)∧w'=w'' from
    fun w' ha'=>(tI _ bT cs cs[k] w' (aM ha' kW)).mono fun e w'' ⟨he,hw⟩=>⟨he.trans (by rw [← hm]),hw⟩)
   have HI:=gH hi;have HM:=gH hm;clear hi hm eT kW;by_cases eU:i < 0
   ·go_wp2_with fail
    refine MG.out.mono ?_;rintro e w1 ⟨rfl,a1⟩;have cG:=gH (HA.out.trans a1);clear a1;go_wp2_with fail;go_ret;exact ⟨by rw [show dS l ⟨name,kind,cs,low,high,aa,table,key⟩=false by unfold dS;rw [ud l cs k hlt (by rw [HI.out,decide_eq_false (by omega)];rfl)];rfl];rfl,cG.out⟩
   ·have ra:0≤i:=by omega
    have hd:decide (i < 0)=false:=decide_eq_false eU;by_cases Mt:m=k
    ·have e1:(m != (k:Int))=false:=by simp [Mt]
     have Yq:=gH Mt;clear Mt;go_wp2_with fail;refine MG.out.mono ?_;rintro e w1 ⟨rfl,a1⟩;obtain ⟨U1,Yr,hz1,Ys,cG⟩:=cJ (mg.out.trans a1);have Yt:=gH (mg.out.trans a1);have Yu:=gH a1;clear a1 gv mC hz qu;go_wp2_with fail;refine (U0.out _ Yu.out).mono ?_;rintro e w2 ⟨rfl,rfl⟩;go_wp2_with fail
     go_roundw
     case rel =>
      refine ⟨k+1,by omega,by go_num,Yt.out,er (p:=fun j=>∀ (hj:j < cs.length),(decide (0≤cA l cs[j])&&!(sk (cs.take j) cs[j]))=true) HP.out (fun _=>?_)⟩;rw [HI.out,decide_eq_true ra,Au,decide_eq_false]
      ·rfl
      ·intro h0
       have q1:=(wk (fun c=>bk c cs[k]) cs k hlt h0).1;have q2:=HM.out;have q3:=Yq.out;omega
     case measure=>simp [intOf];omega
    ·have e1:(m != (k:Int))=true:=by rw [bne_iff_ne];exact Mt
     have Yq:=gH Mt;clear Mt;go_wp2_with fail;refine MG.out.mono ?_;rintro e w1 ⟨rfl,a1⟩;obtain ⟨U1,Yr,hz1,Ys,cG⟩:=cJ (mg.out.trans a1);have Yu:=gH a1;clear a1 gv mC hz qu;go_wp2_with fail;refine (U0.out _ Yu.out).mono ?_;rintro e w2 ⟨rfl,rfl⟩;go_wp2_with fail;go_ret
     have hf:(decide (0≤cA l cs[k])&&!(sk (cs.take k) cs[k]))=false:=by
      rw [Au,decide_eq_true (p:=0≤bK (fun c=>bk c cs[k]) (cs.take k)),Bool.not_true,Bool.and_false]
      refine Int.not_lt.1 fun h0=>?_
      exact Yq.out (HM.out.symm.trans (Ao (fun c=>bk c cs[k]) cs k hlt (df _) h0))
     exact ⟨by rw [show dS l ⟨name,kind,cs,low,high,aa,table,key⟩=false by unfold dS;rw [ud l cs k hlt hf];rfl];rfl,cG.out⟩
  ·have oI:=Gf l cs (fun j hj hj'=>HP.out j (by omega) hj')
   have HF:=gH (show dS l ⟨name,kind,cs,low,high,aa,table,key⟩=jn l ⟨name,kind,cs,low,high,aa,table,key⟩ by
    have:¬ cs.length=0:=by omega
    simp [dS,oI,hN,this])
   have hc0:0≤cA l cs[0]:=by have:=HP.out 0 (by omega) AC;simp at this;exact this.1
   clear oI
   have z1:aa.size+table.size≤9223372036854775807:=by unfold Small at *;omega
   have z2:aa.size+table.size+key.size≤9223372036854775807:=by unfold Small at *;omega
   by_cases k1:kind=1
   ·subst k1
    go_wp2_with (go_at_call 38;refine (cz _ _ (by first | exact hn.max | exact hs.max | exact ht.max | exact vQ.max)).mono ?_;rintro e w' ⟨rfl,rfl⟩)
    all_goals
     go_ret;refine ⟨Eq.trans (b:=.returned (.bool _)) rfl (eD (dF ?_)),HA.out⟩;rw [HF.out];clear HF HA mg HP gv mC hz qu eT kW h h2
     simp_all [jn,emp,kG]
   by_cases k2:kind=2
   ·subst k2
    go_wp2_with (go_at_call 38;refine (cz _ _ (by first | exact hn.max | exact hs.max | exact ht.max | exact vQ.max)).mono ?_;rintro e w' ⟨rfl,rfl⟩)
    all_goals
     go_ret;refine ⟨Eq.trans (b:=.returned (.bool _)) rfl (eD (dF ?_)),HA.out⟩;rw [HF.out];clear HF HA mg HP gv mC hz qu eT kW h h2
     simp_all [jn,emp,kG]
   by_cases k4:kind=4
   ·subst k4
    go_wp2_with (go_at_call 38;refine (cz _ _ (by first | exact hn.max | exact hs.max | exact ht.max | exact vQ.max)).mono ?_;rintro e w' ⟨rfl,rfl⟩)
    all_goals
     go_ret;refine ⟨Eq.trans (b:=.returned (.bool _)) rfl (eD (dF ?_)),HA.out⟩;rw [HF.out];clear HF HA mg HP gv mC hz qu eT kW h h2
     simp_all [jn]
   by_cases k3:kind=3
   ·subst k3
    obtain ⟨q,hq⟩:=Int.eq_ofNat_of_zero_le hc0
    have q9:q < l.length:=by have:=(bg (fun c=>bk c.name cs[0]) l).2;unfold cA at hq;omega
    obtain ⟨b,off,rfl,hb,c0,ur⟩:=gw kW AC;obtain ⟨b2,GN,rfl,hb2,d0,d1,d2,Yp⟩:=wm eT q9
    have c0':wr.cell? ⟨b,off,none⟩=some (.string cs[0]):=by simpa using c0
    have U2:=gH (show Calls Tryz.prog 160 #[.slice (some ⟨b2,GN,none⟩) l.length cap,.string cs[0],.func (.func 161) #[] #[]] wr fun e w'=>e=.returned (.int .i64 q)∧ag wr w' from
     (vB _ cap l cs[0] wr eT).mono fun e w' ⟨he,hw⟩=>⟨he.trans (by rw [← show cA l cs[0]=(q:Int) from hq];rfl),hw⟩)
    have HK:=gH (show ib l (cA l (cs.headD ByteArray.empty))=l[q].kind by
     have e1:cs.headD ByteArray.empty=cs[0]:=by cases cs with | nil=>simp at AC | cons a t=>rfl
     rw [e1,hq];simp [ib,List.getElem?_eq_getElem q9])
    have iw:=HA;clear hc0 hq c0
    go_wp2_with (first | (go_at_call 38;refine (cz _ _ (by first | exact hn.max | exact hs.max | exact ht.max | exact vQ.max)).mono ?_;rintro e w' ⟨rfl,rfl⟩) | (go_at_call 160;refine U2.out.mono ?_;rintro e w2 ⟨rfl,a2⟩;obtain ⟨SQ,WA,hz2,WB,fx⟩:=cJ (mg.out.trans a2);have d1':=(Below.cell a2 (p:=⟨b2,GN+q*3+1,none⟩) hb2).trans d1;clear a2 gv mC hz qu c0' d0 d1 d2 HA))
    all_goals
     go_ret;refine ⟨Eq.trans (b:=.returned (.bool _)) rfl (eD (dF ?_)),by first | exact fx.out | exact iw.out⟩;rw [HF.out];have rJ:=HK.out;clear HF iw mg HP eT kW h h2 HK U2
     simp_all [jn,emp,kG]
   ·have q1:(kind==1)=false:=by simp [k1]
    have q2:(kind==2)=false:=by simp [k2]
    have q3:(kind==3)=false:=by simp [k3]
    have q4:(kind==4)=false:=by simp [k4]
    go_wp2_with (go_at_call 38;refine (cz _ _ (by first | exact hn.max | exact hs.max | exact ht.max | exact vQ.max)).mono ?_;rintro e w' ⟨rfl,rfl⟩)
    all_goals
     go_ret;refine ⟨Eq.trans (b:=.returned (.bool _)) rfl (eD (dF ?_)),HA.out⟩;rw [HF.out];clear HF HA mg HP gv mC hz qu eT kW h h2
     simp_all [jn]
def DD (l:List fc) (l2:List fc) (a b:ByteArray):Bool:=decide (0≤cA l a)&&decide (0≤cA l2 b)&&(ib l (cA l a)==ib l2 (cA l2 b))
def eQ (l:List fc) (l2:List fc):List ByteArray→List ByteArray→Bool
 | [],[]=>true
 | a::xs,b::ys=>DD l l2 a b&&eQ l l2 xs ys
 | _,_=>false
theorem qo (l:List fc) (a:ByteArray) (cs:List ByteArray):cL l (a::cs)=if 0≤cA l a then ib l (cA l a)::cL l cs else cL l cs:=by
 unfold cL
 by_cases h:0≤cA l a<;>simp [h]
theorem pB (l l2:List fc):∀ (cs GZ:List ByteArray),eQ l l2 cs GZ=(decide (GZ.length=cs.length)&&decide ((cL l2 GZ).length=GZ.length)&&decide (cL l cs=cL l2 GZ))
 | [],[]=>by simp [eQ,cL]
 | [],b::ys=>by simp [eQ]
 | a::xs,[]=>by simp [eQ]
 | a::xs,b::ys=>by
  have ih:=pB l l2 xs ys;have hb:=jX l2 ys;have ha:=jX l xs;rw [eQ,ih,qo,qo];unfold DD;by_cases h1:0≤cA l a
  ·by_cases h2:0≤cA l2 b
   ·by_cases h3:ib l (cA l a)=ib l2 (cA l2 b)<;>simp [h1,h2,h3]
   ·have h4:¬ (cL l2 ys).length=ys.length+1:=by omega
    simp [h1,h2,h4]
  ·by_cases h2:0≤cA l2 b
   ·rw [if_neg h1,if_pos h2]
    simp only [h1,decide_false,Bool.false_and]
    symm
    rw [Bool.eq_false_iff];intro h;simp only [Bool.and_eq_true,decide_eq_true_eq,List.length_cons] at h;obtain ⟨⟨e1,e2⟩,e3⟩:=h;have:=congrArg List.length e3;simp only [List.length_cons] at this;omega
   ·have h4:¬ (cL l2 ys).length=ys.length+1:=by omega
    simp [h1,h2,h4]
def gp (l:List gi) (s:ByteArray):Int:=bK (fun c=>bk c.name s) l
def cE (l:List gj) (s:ByteArray):Int:=bK (fun c=>bk c.name s) l
def pz (t:cu) (l:List fc) (r:gi):Int :=
 match t.rules[(gp t.rules r.key).toNat]? with
 | some q=>if gp t.rules r.key < 0 then 61 else if q.kind==2 then (if eQ l t.ak r.ak q.ak then 0 else 63) else 61
 | none=>61
def mH (ts:List cu) (l:List fc) (r:gi):Int :=
 match ts[(bj ts r.aa r.table).toNat]? with
 | some t=>if bj ts r.aa r.table < 0 then 61 else pz t l r
 | none=>61
def iR (ts:List cu) (l:List fc) (r:gi):Bool:=dS l r&&!(r.kind==4&&mH ts l r != 0)
def dB (o:bE) (t:cu):Bool :=
 bP t.name&&bP t.owner&&fp t.ak&&decide (t.rules.length≤8)&&decide (0≤cE o.ae t.aa)&&(t.rules.all (iR o.tables t.ak)&&aN (fun a b=>bw a.name b.name) t.rules)
def pC (o:bE) (s:gj):Bool:=bP s.name&&bP s.owner&&decide (within o.tables s.name≤8)
def oG (o:bE):Bool:=decide (o.ae.length≤8)&&decide (o.tables.length≤64)&&aN (fun a b=>iQ (bw a.aa b.aa) (bw a.name b.name)) o.tables&&aN (fun a b=>bw a.name b.name) o.ae
def bF (o:bE):Bool:=oG o&&(o.ae.all (pC o)&&o.tables.all (dB o))
end Go.Proofs.YtmflccbnoeaafaaGreat
namespace Go.Proofs.YtmflccbnoeaafaaGreat
open Go.RowKit Go.Deep
set_option maxRecDepth 100000
set_option linter.unusedVariables false
set_option maxHeartbeats 64000000
def T3 (t:cu):Prop:=t.ak.length≤1000000∧t.rules.length≤1000000∧∀ r∈t.rules,r.ak.length≤1000000
theorem jP {W:World} {b:Nat} {a c d e f:Value} (h:ap W b [a,c,d,e,f]):(loadVar 53 ⟨b,0,none⟩).run Tryz.prog W=.ok (.agg #[a,c,d,e,f]) W:=by
 have e0:=h.cell (j:=0) rfl;have e1:=h.cell (j:=1) rfl;have e2:=h.cell (j:=2) rfl;have e3:=h.cell (j:=3) rfl;have e4:=h.cell (j:=4) rfl;have h1:=Ej W b 0 (by rw [e0];rfl) (by rw [e1];rfl) (by rw [e2];rfl) (by rw [e3];rfl) (by rw [e4];rfl);rw [e0,e1,e2,e3,e4] at h1;exact h1
theorem aO {w W:World} {c:List Value} {t:TypeId} (h:ag (w.alloc (.cells c.toArray t)) W):ap W w.heap.size c:=by
 obtain ⟨hb,hf,hz,_,_⟩:=cJ h;exact ⟨hz.1,fun j hj=>by rw [hb];simp,fun j _=>hf j⟩
theorem ap.O6 {w:World} {b:Nat} {xs:List Value} (h:ap w b xs) {g:Nat} (hne:g≠b) (j:Nat) (v:Value):ap (w.setCell ⟨g,j,none⟩ v) b xs:=(Kb.set w g j v).row h (fun e=>hne e.symm)
structure ug (w wr:World) (t:cu) (hc hr:Hd) (L0 L:List b7) (k:Nat):Prop where
 az:ag w wr
 box:ap wr w.heap.size [.string t.aa,.string t.name,.string t.owner,.slice hc.a t.ak.length hc.c,.slice hr.a t.rules.length hr.c]
 out:ap wr (w.heap.size+1) [.string ⟨#[]⟩,.string ⟨#[]⟩,.string ⟨#[]⟩,.slice none 0 0,.slice none 0 0]
 qp:wr.ownsRow (w.heap.size+2) 98 3 hc.v t.ak.length (t.ak.flatMap qM)
 nw:wr.ownsRow (w.heap.size+2) 37 8 hr.v t.rules.length ((L++L0.drop k).flatMap b7.cells)
 len:L.length=k
 is:L.map (·.r)=t.rules.take k
 each:∀ x∈L,kJ wr (w.heap.size+2) x
 nd:(hc.blk++(hr.blk++L.flatMap (·.h.blk))).Nodup
theorem ug.lt {w wr:World} {t:cu} {hc hr:Hd} {L0 L:List b7} {k:Nat} (s:ug w wr t hc hr L0 L k):∀ g∈hc.blk++(hr.blk++L.flatMap (·.h.blk)),w.heap.size+2≤g∧g < wr.heap.size:=by
 intro g hg;simp only [List.mem_append,List.mem_flatMap] at hg
 rcases hg with hg | hg | ⟨r,hr,hg⟩
 ·exact fV s.qp g hg
 ·exact fV s.nw g hg
 ·exact fV (s.each r hr).fK g hg
theorem ug.step {w wr w4:World} {t:cu} {hc hr h4:Hd} {L0 L:List b7} {k gr:Nat} (s:ug w wr t hc hr L0 L k) (h0:L0.map (·.r)=t.rules) (hk:k < t.rules.length) (hgr:hr.a=some ⟨gr,0,none⟩)
  (a4:ag wr w4) (pA:w4.ownsRow wr.heap.size 9 1 h4.v t.rules[k].ak.length (t.rules[k].ak.flatMap bY)):ug w (w4.setCell ⟨gr,k*8+2,none⟩ h4.v) t hc hr L0 (L++[⟨t.rules[k],h4⟩]) (k+1):=by
 have Kg:L0.length=t.rules.length:=by rw [← h0];simp
 have hgb:gr∈hr.blk:=by rw [Hd.au];unfold Hd.v;rw [hgr];rfl
 have hlt:=s.lt;have hg:=hlt gr (by simp [hgb]);have kb:=Kb.set w4 gr (k*8+2) h4.v;have ka:Kb (fun x=>x=gr) wr (w4.setCell ⟨gr,k*8+2,none⟩ h4.v):=(Kb.aH a4).trans kb;have xJ:=s.nd
 have hz:wr.heap.size≤w.heap.size+2∨w.heap.size+2≤wr.heap.size:=by omega
 have XB:∀ g∈hc.blk,¬ g=gr:=fun g ot e=>by
  subst e;exact (List.nodup_append.1 xJ).2.2 g ot g (by simp [hgb]) rfl
 have xO:∀ x∈L,∀ g∈x.h.blk,¬ g=gr:=fun x hx g ot e=>by
  subst e;exact (List.nodup_append.1 (List.nodup_append.1 xJ).2.1).2.2 g hgb g (by simp only [List.mem_flatMap];exact ⟨x,hx,ot⟩) rfl
 refine ⟨ka.aZ s.az (fun x hx e=>by omega),ka.row s.box (by omega),ka.row s.out (by omega),aP s.qp ka fun g hgo=>XB g (Hd.au.2 hgo),?_,by simp [s.len],?_,?_,?_⟩
 ·have h1:=fB (bu s.nw a4) (Hd.au.1 hgb) (k*8+2) h4.v
  have uh:k < (L++L0.drop k).length:=by simp [s.len];omega
  have xv:(L++L0.drop k)[k]=L0[k]'(by omega):=by
   rw [List.getElem_append_right (by rw [s.len];exact Nat.le_refl _)];simp [s.len]
  have uj:(L0[k]'(by omega)).r=t.rules[k]:=by
   have:(L0.map (·.r))[k]'(by simpa using (by omega:k < L0.length))=t.rules[k]:=by simp only [h0]
   simpa using this
  rw [dm (size:=8) (fun _=>rfl) (L++L0.drop k) k 2 uh (by decide) h4.v ⟨t.rules[k],h4⟩ (by rw [xv];unfold b7.cells xd;rw [uj];rfl)] at h1
  have uC:(L++L0.drop k).set k ⟨t.rules[k],h4⟩=(L++[⟨t.rules[k],h4⟩])++L0.drop (k+1):=by
   have hd:L0.drop k=L0[k]'(by omega)::L0.drop (k+1):=List.drop_eq_getElem_cons (by omega:k < L0.length);rw [List.set_append_right _ _ (by rw [s.len];exact Nat.le_refl _),s.len,Nat.sub_self,hd];simp only [List.set_cons_zero,List.append_assoc,List.cons_append,List.nil_append]
  rw [uC] at h1;exact h1
 ·rw [List.map_append,s.is,List.take_succ_eq_append_getElem hk];rfl
 ·intro x hx
  simp only [List.mem_append,List.mem_singleton] at hx
  rcases hx with hx | rfl
  ·exact (s.each x hx).kb ka fun g hgo=>xO x hx g hgo
  ·exact ⟨bV (aP pA kb fun g hgo e=>by have:=(pA.lt g hgo).1;omega) (by have:=s.out.1;omega)⟩
 ·have e:hc.blk++(hr.blk++(L++[b7.mk t.rules[k] h4]).flatMap (·.h.blk))=(hc.blk++(hr.blk++L.flatMap (·.h.blk)))++h4.blk:=by simp [List.append_assoc]
  rw [e];exact gy xJ (cX h4) (fun g hg=>(hlt g hg).2) (fun g hg=>(fV pA g hg).1)
theorem qA (t:cu) (A:Option Addr) (cap:Nat) (A2:Option Addr) (bT:Nat) (w:World) (h:aL w 3 iv A cap t.ak) (h2:aL w 8 gI A2 bT t.rules) (hm:T3 t) :
  Calls Tryz.prog 44 #[.agg #[.string t.aa,.string t.name,.string t.owner,.slice A t.ak.length cap,.slice A2 t.rules.length bT]] w (Nx w t):=by
 have hlen:=h.len;have fl:=h2.len;have C1:=gH (show ∀ w',ag w w'→_ from fun w' a=>vL A cap t.ak w w' a h hm.1);have C2:=gH (show ∀ w',ag w w'→_ from fun w' a=>vK A2 bT t.rules w w' a h2 hm.2.1)
 have l1:w.heap.size < w.heap.size+1:=by omega
 have l2:w.heap.size < w.heap.size+1+1:=by omega
 go_enter Tryz.func44,Tryz.ntmps44
 go_wp2_with fail;refine (C1.out _ (((ag.refl w).alloc _).alloc _)).mono ?_;rintro e w1 ⟨v1,N9,rfl,a1,fo,GK⟩;have r1:ap w1 w.heap.size [.string t.aa,.string t.name,.string t.owner,.slice A t.ak.length cap,.slice A2 t.rules.length bT]:=(aO (ag.refl _)).az (((ag.refl _).alloc _).trans a1)
 have r2:ap w1 (w.heap.size+1) [.string ⟨#[]⟩,.string ⟨#[]⟩,.string ⟨#[]⟩,.slice none 0 0,.slice none 0 0]:=by
  have:=(aO (w:=w.alloc (.cells #[.string t.aa,.string t.name,.string t.owner,.slice A t.ak.length cap,.slice A2 t.rules.length bT] 53)) (c:=[.string ⟨#[]⟩,.string ⟨#[]⟩,.string ⟨#[]⟩,.slice none 0 0,.slice none 0 0]) (t:=53) (ag.refl _)).az a1
  simpa using this
 have cG:=gH ((((ag.refl w).alloc _).alloc _).trans a1);obtain ⟨Ac,cc,i5⟩:=dw fo;subst i5;rw [vM GK] at fo;have fo:w1.ownsRow (w.heap.size+2) 98 3 (Hd.mk Ac t.ak.length cc).v t.ak.length (t.ak.flatMap qM):=bV fo (by simp)
 have hz1:w.heap.size+2≤w1.heap.size:=by have:=a1.size;simp at this;omega
 obtain ⟨W1,hW1⟩:∃ W1,W1=w1.setCell ⟨w.heap.size,3,none⟩ (.slice Ac t.ak.length cc):=⟨_,rfl⟩
 have Yv:Kb (fun x=>x=w.heap.size) w1 W1:=by rw [hW1];exact Kb.set _ _ _ _
 have s1:ap W1 w.heap.size [.string t.aa,.string t.name,.string t.owner,.slice Ac t.ak.length cc,.slice A2 t.rules.length bT]:=by rw [hW1];exact r1.set 3 _ (by simp)
 have s2:=Yv.row r2 (by omega)
 have J7:ag w W1:=by rw [hW1];exact cG.out.setCell _ _ (Nat.le_refl _)
 have zW1:W1.heap.size=w1.heap.size:=by rw [hW1];simp
 have Dj:=aP fo Yv (fun g hg e=>by have:=(fo.lt g hg).1;omega);have b0:=r1.cell (j:=3) rfl;have b1:=r1.cell (j:=4) rfl;have f3:=r1.2.2 3 (by simp);have z0:=r1.1;have q4:=s1.cell (j:=4) rfl;have qz:=s1.1;have QD:=gH Dj;have qs:=gH s1;have mB:=gH s2;clear r1 r2 a1 fo GK C1 Yv Dj s1 s2;go_wp2_with fail;rw [← hW1];refine (C2.out W1 J7).mono ?_;rintro e w2 ⟨v2,WU,rfl,a2,oW,Th⟩;clear C2 hW1 b0 b1 f3 q4 qz;obtain ⟨Ar,cr,hv2⟩:=dw oW;subst hv2;obtain ⟨L0,Kg,Jv,Cv⟩:=vN Th;rw [Jv,← List.flatMap_def] at oW;have Ru:=qs.out.az a2;have Z6:=mB.out.az a2;have b0:=Ru.cell (j:=3) rfl;have b1:=Ru.cell (j:=4) rfl;have f4:=Ru.2.2 4 (by simp);have z0:=Ru.1;obtain ⟨W2,hW2⟩:∃ W2,W2=w2.setCell ⟨w.heap.size,4,none⟩ (.slice Ar t.rules.length cr):=⟨_,rfl⟩
 have U3:Kb (fun x=>x=w.heap.size) w2 W2:=by rw [hW2];exact Kb.set _ _ _ _
 have u1:ap W2 w.heap.size [.string t.aa,.string t.name,.string t.owner,.slice Ac t.ak.length cc,.slice Ar t.rules.length cr]:=by rw [hW2];exact Ru.set 4 _ (by simp)
 have Si:ug w W2 t ⟨Ac,t.ak.length,cc⟩ ⟨Ar,t.rules.length,cr⟩ L0 [] 0:=by
  have hz2:w.heap.size+2≤W1.heap.size:=by omega
  have J5:=bu QD.out a2;have NY:w2.ownsRow W1.heap.size 37 8 (Hd.mk Ar t.rules.length cr).v t.rules.length (L0.flatMap b7.cells):=oW
  refine ⟨U3.aZ (J7.trans a2) (fun x hx e=>by omega),u1,U3.row Z6 (by omega),aP J5 U3 (fun g hg e=>by have:=(J5.lt g hg).1;omega),
   bV (aP NY U3 (fun g hg e=>by have:=(oW.lt g hg).1;omega)) hz2,rfl,rfl,fun x hx=>by simp at hx,?_⟩
  simp only [List.flatMap_nil,List.append_nil];exact gy (cX _) (cX _) (fun g hg=>(fV QD.out g hg).2) (fun g hg=>(fV NY g hg).1)
 have Ku:=gH Si;have ID:=gH Kg;have IC:=gH (show ∀ x∈L0,∀ w',ag w w'→x.h.n=x.r.ak.length∧aL w' 1 dK x.h.a x.h.c x.r.ak from fun x hx w' a=>⟨(Cv x hx).1,aM a (Cv x hx).2⟩);have HM:=gH hm;have x3:=u1.cell (j:=4) rfl;have xz:=u1.1;clear Ru Z6 oW Th Si Kg Cv hm U3 u1 J7 Jv;go_wp2_with fail;rw [← hW2];clear hW2 b0 b1 f4 z0
 go_loopw [15] (fun i wr=>∃ (k:Nat) (L:List b7),k≤t.rules.length∧i=.int .i64 k∧ug w wr t ⟨Ac,t.ak.length,cc⟩ ⟨Ar,t.rules.length,cr⟩ L0 L k) (fun i _=>t.rules.length - (intOf i).toNat)
 case atStart=>exact ⟨0,[],Nat.zero_le _,rfl,Ku.out⟩
 case round =>
  clear Ku x3 xz;obtain ⟨k,L,hk,rfl,hs⟩:=hrel;have b4:=hs.box.cell (j:=4) rfl;have bz:=hs.box.1;have HS:=gH hs;by_cases hlt:k < t.rules.length
  ·have Jr:L0.length=t.rules.length:=by rw [← ID.out];simp
   obtain ⟨gr,T4,XC,rg⟩:=jN hs.nw (by omega);have PL:Ar=some ⟨gr,0,none⟩:=T4;subst PL
   have uh:k < L0.length:=by omega
   have xv:(L++L0.drop k)[k]'(by simp [hs.len];omega)=L0[k]:=by
    rw [List.getElem_append_right (by rw [hs.len];exact Nat.le_refl _)];simp [hs.len]
   have uj:L0[k].r=t.rules[k]:=by
    have:(L0.map (·.r))[k]'(by simpa using uh)=t.rules[k]:=by simp only [ID.out]
    simpa using this
   obtain ⟨hn,hD⟩:=IC.out L0[k] (List.getElem_mem uh) wr hs.az;obtain ⟨p,nZ⟩:∃ p,t.rules[k]=p:=⟨_,rfl⟩;obtain ⟨D,nD,Um⟩:Hd:=L0[k].h
   have x2:wr.cell? ⟨gr,k*8+2,none⟩=some (.slice L0[k].h.a p.ak.length L0[k].h.c):=by
    refine rg.cell ?_;rw [jd b7.cells 8 (fun _=>rfl) _ k 2 (by simp [hs.len];omega) (by decide),xv];unfold b7.cells xd Hd.v;rw [hn,uj,nZ];rfl
   rw [uj,nZ] at hD;obtain ⟨D2,Z7⟩:∃ D,L0[k].h.a=D:=⟨_,rfl⟩;obtain ⟨c2,hc2⟩:∃ c,L0[k].h.c=c:=⟨_,rfl⟩;rw [Z7,hc2] at x2 hD;have Gk:=gH nZ;have f2:=rg.2.2 (k*8+2) (by rw [ce (size:=8) (fun _=>rfl)];simp [hs.len];omega);have gz:=rg.1;have XD:p.ak.length≤1000000:=HM.out.2.2 p (by rw [← nZ];exact List.getElem_mem hlt);have hpl:=hD.len;have C3:=gH (show ∀ w',ag wr w'→_ from fun w' a=>iq D2 c2 p.ak wr w' a hD XD)
   have Az:gr≠w.heap.size:=by omega
   clear nZ xv uj hn hD Z7 hc2 hs rg T4 Jr;go_wp2_with fail
   go_region_with ((go_at_call 52;refine (C3.out _ (ag.refl _).drew).mono ?_;rintro e w4 ⟨v4,LD,rfl,a4,pA,Z8⟩;have x4:=a4.cell_kept x2;have b44:=a4.cell_kept b4;have f4:=(Below.frozen a4 (p:=⟨gr,k*8+2,none⟩) gz).trans f2;obtain ⟨Dn,cn,hv4⟩:=dw pA;subst hv4))
   all_goals
    have Z9:ag wr w4:=(ag.refl _).drew.trans a4;have wn:=gH (HS.out.step (h4:=⟨Dn,p.ak.length,cn⟩) ID.out hlt rfl Z9 (by rw [fG Z8] at pA;rw [Gk.out];exact pA));rw [Gk.out] at wn;clear pA Z8 a4 Z9 x4 b44 f4;go_wp2_with fail
    go_roundw
    case rel=>exact ⟨k+1,_,by omega,by go_num,wn.out⟩
    case measure=>simp [intOf];omega
  ·have c0:=hs.box.cell (j:=0) rfl
   have c1:=hs.box.cell (j:=1) rfl;have c2:=hs.box.cell (j:=2) rfl;have c3:=hs.box.cell (j:=3) rfl;have d0:=hs.out.cell (j:=0) rfl;have d1:=hs.out.cell (j:=1) rfl;have d2:=hs.out.cell (j:=2) rfl;have d3:=hs.out.cell (j:=3) rfl;have d4:=hs.out.cell (j:=4) rfl;have e0:=hs.out.2.2 0 (by simp);have e1:=hs.out.2.2 1 (by simp);have e2:=hs.out.2.2 2 (by simp);have e3:=hs.out.2.2 3 (by simp);have e4:=hs.out.2.2 4 (by simp);have dz:=hs.out.1;clear hs;go_wp2_with fail
   (try simp only [Exit.inBlock,Exit.then])
   have hs:=HS.out;obtain ⟨F,hF⟩:∃ F,F=((((wr.setCell ⟨w.heap.size+1,0,none⟩ (.string t.aa)).setCell ⟨w.heap.size+1,1,none⟩ (.string t.name)).setCell ⟨w.heap.size+1,2,none⟩ (.string t.owner)).setCell ⟨w.heap.size+1,3,none⟩ (.slice Ac t.ak.length cc)).setCell ⟨w.heap.size+1,4,none⟩ (.slice Ar t.rules.length cr):=⟨_,rfl⟩
   have kF:Kb (fun x=>x=w.heap.size+1) wr F:=by
    rw [hF];exact ((((Kb.set _ _ _ _).trans (Kb.set _ _ _ _)).trans (Kb.set _ _ _ _)).trans (Kb.set _ _ _ _)).trans (Kb.set _ _ _ _)
   have rF:ap F (w.heap.size+1) [.string t.aa,.string t.name,.string t.owner,.slice Ac t.ak.length cc,.slice Ar t.rules.length cr]:=by
    rw [hF];exact ((((hs.out.set 0 _ (by simp)).set 1 _ (by simp)).set 2 _ (by simp)).set 3 _ (by simp)).set 4 _ (by simp)
   rw [← hF];refine bodyPost_ret (dv (v:=.agg #[.string t.aa,.string t.name,.string t.owner,.slice Ac t.ak.length cc,.slice Ar t.rules.length cr]) rfl _ rfl ?hl) rfl ?_
   case hl=>exact jP rF
   have Gl:k=t.rules.length:=by omega
   subst Gl;have x8:=hs.is;rw [List.take_of_length_le (Nat.le_refl _)] at x8
   have Jr:L0.length=t.rules.length:=by rw [← ID.out];simp
   have Js:=hs.nw;rw [List.drop_of_length_le (by omega),List.append_nil] at Js;have Jt:L.length=t.rules.length:=hs.len;refine ⟨⟨t.aa,t.name,t.owner,t.ak,L,⟨Ac,t.ak.length,cc⟩,⟨Ar,t.rules.length,cr⟩⟩,by unfold ay.t;rw [x8],rfl,kF.aZ hs.az (fun x hx e=>by omega),?_,hs.nd⟩;have Yw:=hs.lt;refine dW.down (dW.kb (w:=wr) (B:=w.heap.size+2) ⟨hs.qp,by show wr.ownsRow _ _ 8 _ L.length _;rw [Jt];exact Js,hs.each⟩ kF fun g hg e=>?_) (by omega);have:=Yw g hg;omega
end Go.Proofs.YtmflccbnoeaafaaGreat
