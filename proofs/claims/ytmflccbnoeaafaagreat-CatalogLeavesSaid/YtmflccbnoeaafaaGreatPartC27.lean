import Derived.ShutString
import Derived.Test.YtmflccbnoeaafaaGreatPartC25
namespace Go.Proofs.YtmflccbnoeaafaaGreat
open Go.ChangeShapes Go.WideShapes Go.ChangeAt Go.RowKit
set_option maxRecDepth 100000
set_option linter.unusedVariables false
set_option maxHeartbeats 64000000
section
variable {H : Type} {enc : TypeId × Value → H} {P : Program} {w : World}
def P8 (enc:TypeId × Value→H) (P:Program) (w:World) (t:TypeId) (v:Value):Prop :=
 Rd enc P w t v.cells.toList∧∃ base,Value.okWide P w .any base t v
theorem P8.struct {t:TypeId} {fs:Array Field} {v:Value} (ht:P.underlying t=some (.struct fs)) (h:P8 enc P w t v):∃ cs:List Value,v=.agg cs.toArray∧Rd enc P w t cs:=by
 obtain ⟨h1,base,h2⟩:=h;obtain ⟨cs,rfl,_⟩:=okWide_struct ht h2;exact ⟨cs.toList,by simp,h1⟩
theorem oA {v x:Value} (h:v.cells.toList=[x]) (hn:∀ cs,v≠.agg cs):v=x:=by
 cases v<;>simp [Value.cells] at h<;>first | exact h | exact absurd rfl (hn _)
theorem ni {t:TypeId} {v:Value} {base:Nat} {d:TypeDesc} (ht:P.underlying t=some d) (hd:(∀ fs,d≠.struct fs)∧(∀ n e,d≠.array n e)) (h:Value.okWide P w .any base t v):∀ cs,v≠.agg cs:=by
 intro cs e;subst e;unfold Value.okWide at h;rw [ht] at h
 cases d<;>simp_all [Cell.okWide,Cell.ok]
theorem P8.string {t:TypeId} {v:Value} (ht:P.underlying t=some .string) (h:P8 enc P w t v):∃ s:ByteArray,v=.string s∧Small s.size:=by
 obtain ⟨h1,base,h2⟩:=h;obtain ⟨s,hc,hs⟩:=h1.string ht;exact ⟨s,oA hc (ni ht (by simp) h2),hs⟩
theorem P8.int {t:TypeId} {k:IntKind} {v:Value} (ht:P.underlying t=some (.int k)) (h:P8 enc P w t v):∃ n:Int,v=.int k n∧(Lit.int k n).wf=true:=by
 obtain ⟨h1,base,h2⟩:=h;obtain ⟨s,hc,hs⟩:=h1.int ht;exact ⟨s,oA hc (ni ht (by simp) h2),hs⟩
theorem tW:∀ {ts:List TypeId} {vs:List Value} {ds:List (DataW H)} {p:List MemPlace},DataW.TrodAll enc P w 0 (fun _=>true) true ts vs ds p→(∀ n∈DataW.weightsEach P ts ds,n≤140737488351232) →
  vs.length=ts.length∧ds.length=ts.length∧∀ (j:Nat) (t:TypeId) (v:Value),ts[j]? = some t→vs[j]? = some v→Rd enc P w t v.cells.toList
 | [],vs,ds,p,h,_=>by
  cases vs<;>cases ds<;>simp [DataW.TrodAll] at h
  exact ⟨rfl,rfl,fun j t v ht=>by simp at ht⟩
 | t::ts,vs,ds,p,h,hw=>by
  obtain ⟨v,vs',d,ds',p1,q1,rfl,rfl,rfl,⟨fuel,h1⟩,h2⟩:=trodAll_cons h;simp only [DataW.weightsEach,List.mem_append] at hw;obtain ⟨l1,l2,ih⟩:=tW h2 (fun n hn=>hw n (.inr hn));refine ⟨by simp [l1],by simp [l2],fun j t' v' ht hv=>?_⟩
  cases j with
  | zero =>
   simp at ht hv;subst ht;subst hv;exact ⟨fuel,_,h1,fun n hn=>hw n (.inl hn)⟩
  | succ j=>exact ih j t' v' (by simpa using ht) (by simpa using hv)
theorem oB {W W':World} (hl:laidOutB P=true) (hb:Below W.heap.size W W'):∀ {ts:List TypeId} {vs:List Value} {ds:List (DataW H)} {p:List MemPlace},(∀ t∈ts,P.readableRec t=true∧t < P.types.size) →
  DataW.TrodAll enc P W 0 (fun _=>true) true ts vs ds p→DataW.TrodAll enc P W' 0 (fun b=>decide (b < W.heap.size)) true ts vs ds p
 | [],vs,ds,p,_,h=>by
  cases vs<;>cases ds<;>simp [DataW.TrodAll] at h ⊢
  exact h
 | t::ts,vs,ds,p,ht,h=>by
  obtain ⟨v,vs',d,ds',p1,q1,rfl,rfl,rfl,h1,h2⟩:=trodAll_cons h
  have lt0:∀ x∈p1,x.block < W.heap.size:=by obtain ⟨m,hm⟩:=h1;exact DataW.trod_lt m _ _ _ hm
  exact trodAll_cons_mk (Below.trod hl (ht t (by simp)).1 (ht t (by simp)).2 h1 hb lt0) (oB hl hb (fun x hx=>ht x (by simp [hx])) h2)
end
theorem sG {C:Checked} {os:Os} {f:FuncId} {fn:Func} {s:ChangeSpec} {tb:TypeId} (H:Type) (enc:TypeId × Value→H)
  (own:ownKnob C.prog.godebug=none) (started:os.Started) (P9:C.prog.inits.idxOf? f=none) (hfn:C.prog.funcs[f]? = some fn)
  (witness:∃ (w:World) (tape:Tape) (i:Input),w.os=os∧(w.forCall tape i).Shaped C.prog∧i.vars=[]∧Input.okWide C.prog (w.forCall tape i) .any w.heap.size f i ∧
   s.pre6 enc C.prog fn [] false (w.forCall tape i).memory i.args∧({}:Assume).holds C.prog (lone (Frame.enter C.prog f i.args .normal) [] (w.forCall tape i)))
  (JI:s.vars=[]) (hres:fn.resultTypes=#[tb]) (uY:C.prog.underlying tb=some .bool)
  (Ul:∀ ds:List (DataW H),ds.length=fn.params.size→s.fn H ds={ results:=[.lit (.bool true)],args:=ds })
  (laid:laidOutB C.prog=true) (hty:∀ t∈fn.params.toList,C.prog.readableRec t=true∧t < C.prog.types.size)
  (walk:∀ (W:World) (vs:List Value),vs.length=fn.params.size→(∀ (j:Nat) (t:TypeId) (v:Value),fn.params[j]? = some t→vs[j]? = some v→P8 enc C.prog W t v)→Calls C.prog f vs.toArray W fun e w'=>e=.returned (.bool true)∧ag W w') :
  ReturnsInHanded {} C os f .any (s.pre6 enc C.prog fn [] false) (s.post enc C.prog fn false true false false):=by
 refine returnsInHanded_of_change_sized own started P9 hfn witness ?_;intro W base args ds gs before hval hW _ hsz _;have hW':=hW;obtain ⟨p,q,hA,hV,rfl,_,_⟩:=hW;rw [JI] at hV;obtain ⟨rfl,rfl⟩:=trodVars_none hV
 have hw:∀ n∈DataW.weightsEach C.prog fn.params.toList ds,n≤140737488351232:=by
  have e:s.plain.varTypes C.prog=[]:=by
   simp [ChangeSpec.plain,JI,DataSpec.varTypes]
  rw [e,List.append_nil,List.append_nil] at hsz;intro n hn;have:=List.all_eq_true.1 hsz n hn
  have h2:n≤reachBytes:=by simpa using this
  exact h2
 obtain ⟨l1,l2,Av⟩:=tW hA hw
 have hlen:args.toList.length=fn.params.size:=by simpa using l1
 refine ((walk W args.toList hlen fun j t v ht hv=>⟨Av j t v (by simpa using ht) hv,base,hval j t v ht (by simpa using hv)⟩)).mono fun e W' ⟨he,mA⟩=>?_
 subst he;have hs:=Ul ds (by simpa using l2);refine ⟨_,rfl,ds,[],p++[],[],p,[],hW',?_,?_,?_,?_,fun h=>by cases h⟩
 ·rw [List.append_nil,hs,hres]
  exact trodAll_mk1 (shut_bool uY _)
 ·rw [List.append_nil,hs]
  exact oB laid mA hty hA
 ·rw [List.append_nil,hs,JI]
  rfl
 ·exact mA.frame _
section
variable {H : Type} {enc : TypeId × Value → H} {w : World}
theorem pp {cs:List Value} (h:Rd enc Tryz.prog w 9 cs):∃ x,dK w cs x:=by
 obtain ⟨s,e,z⟩:=h.string Tryz.underlying9;exact ⟨s,e,z⟩
theorem Ed {cs:List Value} (h:Rd enc Tryz.prog w 26 cs):∃ l,xW w 1 dK cs l :=
 Rd.slice Tryz.underlying26 (by kernel_rfl:Tryz.prog.cellsOf 9=1) (by decide) (of_decide_eq_true (by kernel_rfl)) (fun _ h=>pp h) h
theorem Qa {cs:List Value} (h:Rd enc Tryz.prog w 98 cs):∃ x,iv w cs x:=by
 obtain ⟨hl,_⟩:=h.struct Tryz.underlying98;rw [show Tryz.prog.cellsOf 98=3 by kernel_rfl] at hl
 match cs,hl with
 | [c0,c1,c2],_ =>
  have f0:=h.field Tryz.underlying98 0 9 0 1 rfl (by kernel_rfl);have f1:=h.field Tryz.underlying98 1 96 1 1 rfl (by kernel_rfl);have f2:=h.field Tryz.underlying98 2 4 2 1 rfl (by kernel_rfl);clear h;obtain ⟨x0,e0,z0⟩:=f0.string Tryz.underlying9;obtain ⟨x1,e1,_⟩:=f1.int Tryz.underlying96;obtain ⟨x2,e2⟩:=f2.bool Tryz.underlying4;simp at e0 e1 e2;subst e0 e1 e2;exact ⟨⟨x0,x1,x2⟩,rfl,z0⟩
theorem Ee {cs:List Value} (h:Rd enc Tryz.prog w 34 cs):∃ l,xW w 3 iv cs l :=
 Rd.slice Tryz.underlying34 (by kernel_rfl:Tryz.prog.cellsOf 98=3) (by decide) (of_decide_eq_true (by kernel_rfl)) (fun _ h=>Qa h) h
theorem Ef {cs:List Value} (h:Rd enc Tryz.prog w 37 cs):∃ x,gI w cs x:=by
 obtain ⟨hl,_⟩:=h.struct Tryz.underlying37;rw [show Tryz.prog.cellsOf 37=8 by kernel_rfl] at hl
 match cs,hl with
 | [c0,c1,c2,c3,c4,c5,c6,c7],_ =>
  have f0:=h.field Tryz.underlying37 0 9 0 1 rfl (by kernel_rfl);have f1:=h.field Tryz.underlying37 1 35 1 1 rfl (by kernel_rfl);have f2:=h.field Tryz.underlying37 2 26 2 1 rfl (by kernel_rfl);have f3:=h.field Tryz.underlying37 3 3 3 1 rfl (by kernel_rfl);have f4:=h.field Tryz.underlying37 4 3 4 1 rfl (by kernel_rfl);have f5:=h.field Tryz.underlying37 5 9 5 1 rfl (by kernel_rfl);have f6:=h.field Tryz.underlying37 6 9 6 1 rfl (by kernel_rfl);have f7:=h.field Tryz.underlying37 7 9 7 1 rfl (by kernel_rfl);clear h;obtain ⟨x0,e0,z0⟩:=f0.string Tryz.underlying9;obtain ⟨x1,e1,_⟩:=f1.int Tryz.underlying35;obtain ⟨x2,A2,bT,e2,z2⟩:=Ed f2;obtain ⟨x3,e3,_⟩:=f3.int Tryz.underlying3;obtain ⟨x4,e4,_⟩:=f4.int Tryz.underlying3;obtain ⟨x5,e5,z5⟩:=f5.string Tryz.underlying9;obtain ⟨x6,e6,z6⟩:=f6.string Tryz.underlying9;obtain ⟨x7,e7,z7⟩:=f7.string Tryz.underlying9;simp at e0 e1 e2 e3 e4 e5 e6 e7;subst e0 e1 e2 e3 e4 e5 e6 e7;exact ⟨⟨x0,x1,x2,x3,x4,x5,x6,x7⟩,A2,bT,rfl,z2,z0,z5,z6,z7⟩
theorem JJ {cs:List Value} (h:Rd enc Tryz.prog w 51 cs):∃ l,xW w 8 gI cs l :=
 Rd.slice Tryz.underlying51 (by kernel_rfl:Tryz.prog.cellsOf 37=8) (by decide) (of_decide_eq_true (by kernel_rfl)) (fun _ h=>Ef h) h
theorem Qb {cs:List Value} (h:Rd enc Tryz.prog w 53 cs):∃ x,dA w cs x:=by
 obtain ⟨hl,_⟩:=h.struct Tryz.underlying53;rw [show Tryz.prog.cellsOf 53=5 by kernel_rfl] at hl
 match cs,hl with
 | [c0,c1,c2,c3,c4],_ =>
  have f0:=h.field Tryz.underlying53 0 9 0 1 rfl (by kernel_rfl);have f1:=h.field Tryz.underlying53 1 9 1 1 rfl (by kernel_rfl);have f2:=h.field Tryz.underlying53 2 9 2 1 rfl (by kernel_rfl);have f3:=h.field Tryz.underlying53 3 34 3 1 rfl (by kernel_rfl);have f4:=h.field Tryz.underlying53 4 51 4 1 rfl (by kernel_rfl);clear h;obtain ⟨x0,e0,z0⟩:=f0.string Tryz.underlying9;obtain ⟨x1,e1,z1⟩:=f1.string Tryz.underlying9;obtain ⟨x2,e2,z2⟩:=f2.string Tryz.underlying9;obtain ⟨x3,A3,fA,e3,z3⟩:=Ee f3;obtain ⟨x4,A4,wq,e4,z4⟩:=JJ f4;simp at e0 e1 e2 e3 e4;subst e0 e1 e2 e3 e4;exact ⟨⟨x0,x1,x2,x3,x4⟩,A3,fA,A4,wq,rfl,z3,z4,z0,z1,z2⟩
theorem Mf {cs:List Value} (h:Rd enc Tryz.prog w 23 cs):∃ l,xW w 5 dA cs l :=
 Rd.slice Tryz.underlying23 (by kernel_rfl:Tryz.prog.cellsOf 53=5) (by decide) (of_decide_eq_true (by kernel_rfl)) (fun _ h=>Qb h) h
theorem Qc {cs:List Value} (h:Rd enc Tryz.prog w 61 cs):∃ x,fk w cs x:=by
 obtain ⟨hl,_⟩:=h.struct Tryz.underlying61;rw [show Tryz.prog.cellsOf 61=2 by kernel_rfl] at hl
 match cs,hl with
 | [c0,c1],_ =>
  have f0:=h.field Tryz.underlying61 0 9 0 1 rfl (by kernel_rfl);have f1:=h.field Tryz.underlying61 1 9 1 1 rfl (by kernel_rfl);clear h;obtain ⟨x0,e0,z0⟩:=f0.string Tryz.underlying9;obtain ⟨x1,e1,z1⟩:=f1.string Tryz.underlying9;simp at e0 e1;subst e0 e1;exact ⟨⟨x0,x1⟩,rfl,z0,z1⟩
theorem Mg {cs:List Value} (h:Rd enc Tryz.prog w 22 cs):∃ l,xW w 2 fk cs l :=
 Rd.slice Tryz.underlying22 (by kernel_rfl:Tryz.prog.cellsOf 61=2) (by decide) (of_decide_eq_true (by kernel_rfl)) (fun _ h=>Qc h) h
theorem Mh {cs:List Value} (h:Rd enc Tryz.prog w 25 cs):∃ x,VV w cs x:=by
 obtain ⟨hl,_⟩:=h.struct Tryz.underlying25;rw [show Tryz.prog.cellsOf 25=2 by kernel_rfl] at hl
 match cs,hl with
 | [c0,c1],_ =>
  have f0:=h.field Tryz.underlying25 0 22 0 1 rfl (by kernel_rfl);have f1:=h.field Tryz.underlying25 1 23 1 1 rfl (by kernel_rfl);clear h;obtain ⟨x0,A0,Qd,e0,z0⟩:=Mg f0;obtain ⟨x1,A1,Qe,e1,z1⟩:=Mf f1;simp at e0 e1;subst e0 e1;exact ⟨⟨x0,x1⟩,A0,Qd,A1,Qe,rfl,z0,z1⟩
theorem xT:ownKnob Tryz.prog.godebug=none:=by kernel_rfl
theorem xU:laidOutB Tryz.prog=true:=by kernel_rfl
end
section
variable {H : Type} {enc : TypeId × Value → H} {w : World}
theorem Qf {cs:List Value} (h:Rd enc Tryz.prog w 103 cs):∃ x,ia w cs x:=by
 obtain ⟨hl,_⟩:=h.struct Tryz.underlying103;rw [show Tryz.prog.cellsOf 103=2 by kernel_rfl] at hl
 match cs,hl with
 | [c0,c1],_ =>
  have f0:=h.field Tryz.underlying103 0 9 0 1 rfl (by kernel_rfl);have f1:=h.field Tryz.underlying103 1 9 1 1 rfl (by kernel_rfl);clear h;obtain ⟨x0,e0,z0⟩:=pp f0;obtain ⟨x1,e1,z1⟩:=pp f1;simp at e0 e1;subst e0 e1;exact ⟨⟨x0,x1⟩,rfl,z0,z1⟩
theorem Mi {cs:List Value} (h:Rd enc Tryz.prog w 27 cs):∃ l,xW w 2 ia cs l :=
 Rd.slice Tryz.underlying27 (by kernel_rfl:Tryz.prog.cellsOf 103=2) (by decide) (of_decide_eq_true (by kernel_rfl)) (fun _ h=>Qf h) h
theorem Mj {cs:List Value} (h:Rd enc Tryz.prog w 29 cs):∃ (x:fX) (A:Option Addr) (cap:Nat) (B:Option Addr) (Mk:Nat),cs=[.slice A x.names.length cap,.slice B x.members.length Mk]∧aL w 1 dK A cap x.names∧aL w 2 ia B Mk x.members:=by
 obtain ⟨hl,_⟩:=h.struct Tryz.underlying29;rw [show Tryz.prog.cellsOf 29=2 by kernel_rfl] at hl
 match cs,hl with
 | [c0,c1],_ =>
  have f0:=h.field Tryz.underlying29 0 26 0 1 rfl (by kernel_rfl);have f1:=h.field Tryz.underlying29 1 27 1 1 rfl (by kernel_rfl);clear h;obtain ⟨x0,A0,Qd,e0,z0⟩:=Ed f0;obtain ⟨x1,A1,Qe,e1,z1⟩:=Mi f1;simp at e0 e1;subst e0 e1;exact ⟨⟨x0,x1⟩,A0,Qd,A1,Qe,rfl,z0,z1⟩
end
section
variable {H : Type} {enc : TypeId × Value → H} {w : World}
theorem Qg {cs:List Value} (h:Rd enc Tryz.prog w 106 cs):∃ x,mr w cs x:=by
 obtain ⟨hl,_⟩:=h.struct Tryz.underlying106;rw [show Tryz.prog.cellsOf 106=6 by kernel_rfl] at hl
 match cs,hl with
 | [c0,c1,c2,c3,c4,c5],_ =>
  have f0:=h.field Tryz.underlying106 0 9 0 1 rfl (by kernel_rfl);have f1:=h.field Tryz.underlying106 1 9 1 1 rfl (by kernel_rfl);have f2:=h.field Tryz.underlying106 2 38 2 1 rfl (by kernel_rfl);have f3:=h.field Tryz.underlying106 3 9 3 1 rfl (by kernel_rfl);have f4:=h.field Tryz.underlying106 4 9 4 1 rfl (by kernel_rfl);have f5:=h.field Tryz.underlying106 5 4 5 1 rfl (by kernel_rfl);clear h;obtain ⟨x0,e0,z0⟩:=pp f0;obtain ⟨x1,e1,z1⟩:=pp f1;obtain ⟨x2,e2,z2⟩:=f2.int Tryz.underlying38;obtain ⟨x3,e3,z3⟩:=pp f3;obtain ⟨x4,e4,z4⟩:=pp f4;obtain ⟨x5,e5⟩:=f5.bool Tryz.underlying4;simp at e0 e1 e2 e3 e4 e5;subst e0 e1 e2 e3 e4 e5;exact ⟨⟨x0,x1,x2,x3,x4,x5⟩,rfl,z0,z1,z3,z4,z2⟩
theorem Ml {cs:List Value} (h:Rd enc Tryz.prog w 30 cs):∃ l,xW w 6 mr cs l :=
 Rd.slice Tryz.underlying30 (by kernel_rfl:Tryz.prog.cellsOf 106=6) (by decide) (of_decide_eq_true (by kernel_rfl)) (fun _ h=>Qg h) h
theorem Gz {cs:List Value} (h:Rd enc Tryz.prog w 32 cs):∃ (c:bW) (As:Option Addr) (ar:Nat) (At:Option Addr) (ax:Nat) (An:Option Addr) (aI:Nat) (Am:Option Addr) (aK:Nat) (Ag:Option Addr) (aS:Nat),
  cs=[.int .i64 c.aA,.int .i64 c.version,.slice As c.ai.ae.length ar,.slice At c.ai.tables.length ax,.slice An c.aj.names.length aI,.slice Am c.aj.members.length aK,.slice Ag c.af.length aS] ∧
  aL w 2 fk As ar c.ai.ae∧aL w 5 dA At ax c.ai.tables∧aL w 1 dK An aI c.aj.names∧aL w 2 ia Am aK c.aj.members∧aL w 6 mr Ag aS c.af∧(Lit.int .i64 c.aA).wf=true∧(Lit.int .i64 c.version).wf=true:=by
 obtain ⟨hl,_⟩:=h.struct Tryz.underlying32;rw [show Tryz.prog.cellsOf 32=7 by kernel_rfl] at hl
 match cs,hl with
 | [c0,c1,c2,c3,c4,c5,c6],_ =>
  have f0:=h.field Tryz.underlying32 0 3 0 1 rfl (by kernel_rfl);have f1:=h.field Tryz.underlying32 1 3 1 1 rfl (by kernel_rfl);have f2:=h.field Tryz.underlying32 2 25 2 2 rfl (by kernel_rfl);have f3:=h.field Tryz.underlying32 3 29 4 2 rfl (by kernel_rfl);have f4:=h.field Tryz.underlying32 4 30 6 1 rfl (by kernel_rfl);clear h;obtain ⟨x0,e0,z0⟩:=f0.int Tryz.underlying3;obtain ⟨x1,e1,z1⟩:=f1.int Tryz.underlying3;obtain ⟨o,A,cap,B,Mk,e2,hs,ht⟩:=Mh f2;obtain ⟨r,C,X2,D,Um,e3,hn,hm⟩:=Mj f3;obtain ⟨g,E,X3,e4,hg⟩:=Ml f4;simp at e0 e1 e2 e3 e4;obtain ⟨rfl,rfl⟩:=e2;obtain ⟨rfl,rfl⟩:=e3;subst e0 e1 e4;exact ⟨⟨x0,x1,o,r,g⟩,A,cap,B,Mk,C,X2,D,Um,E,X3,rfl,hs,ht,hn,hm,hg,z0,z1⟩
end
section
variable {H : Type} {enc : TypeId × Value → H} {w : World}
theorem Dh {cs:List Value} (h:Rd enc Tryz.prog w 40 cs) :
  ∃ (x:eW) (A6:Option Addr) (c6:Nat) (A9:Option Addr) (c9:Nat),
   cs=[.int .i64 x.kind,.string x.aJ,.string x.aa,.string x.table,.string x.name,.string x.role,.slice A6 x.ak.length c6,.string x.rule.name,.int .i64 x.rule.kind,.slice A9 x.rule.ak.length c9,.int .i64 x.rule.low,.int .i64 x.rule.high,.string x.rule.aa,.string x.rule.table,.string x.rule.key,.int .i64 x.right,.bool x.opt]∧kM w x A6 c6 A9 c9:=by
 obtain ⟨hl,hf⟩:=h.struct Tryz.underlying40;rw [show Tryz.prog.cellsOf 40=17 by kernel_rfl] at hl
 match cs,hl with
 | [c0,c1,c2,c3,c4,c5,c6,c7,c8,c9,c10,c11,c12,c13,c14,c15,c16],_ =>
  have f0:=h.field Tryz.underlying40 0 33 0 1 rfl (by kernel_rfl);have f1:=h.field Tryz.underlying40 1 9 1 1 rfl (by kernel_rfl);have f2:=h.field Tryz.underlying40 2 9 2 1 rfl (by kernel_rfl);have f3:=h.field Tryz.underlying40 3 9 3 1 rfl (by kernel_rfl);have f4:=h.field Tryz.underlying40 4 9 4 1 rfl (by kernel_rfl);have f5:=h.field Tryz.underlying40 5 9 5 1 rfl (by kernel_rfl);have f6:=h.field Tryz.underlying40 6 34 6 1 rfl (by kernel_rfl);have f7:=h.field Tryz.underlying40 7 37 7 8 rfl (by kernel_rfl);have f8:=h.field Tryz.underlying40 8 38 15 1 rfl (by kernel_rfl);have f9:=h.field Tryz.underlying40 9 4 16 1 rfl (by kernel_rfl);clear h hf;obtain ⟨k,e0,_⟩:=f0.int Tryz.underlying33;obtain ⟨s1,e1,z1⟩:=f1.string Tryz.underlying9;obtain ⟨s2,e2,z2⟩:=f2.string Tryz.underlying9;obtain ⟨s3,e3,z3⟩:=f3.string Tryz.underlying9;obtain ⟨s4,e4,z4⟩:=f4.string Tryz.underlying9;obtain ⟨s5,e5,z5⟩:=f5.string Tryz.underlying9;obtain ⟨l6,A,c,e6,z6⟩:=Ee f6;obtain ⟨r,e8,w8⟩:=f8.int Tryz.underlying38;obtain ⟨o,e9⟩:=f9.bool Tryz.underlying4;obtain ⟨ru,A2,bT,e7,z7,y0,y5,y6,y7⟩:=Ef f7;simp at e0 e1 e2 e3 e4 e5 e6 e7 e8 e9;obtain ⟨d0,d1,d2,d3,d4,d5,d6,d7⟩:=e7;subst e0 e1 e2 e3 e4 e5 e6 e8 e9 d0 d1 d2 d3 d4 d5 d6 d7;exact ⟨⟨k,s1,s2,s3,s4,s5,l6,ru,r,o⟩,A,c,A2,bT,rfl,⟨z6,z7,z1,z2,z3,z4,z5,y0,y5,y6,y7,w8⟩⟩
end
end Go.Proofs.YtmflccbnoeaafaaGreat
