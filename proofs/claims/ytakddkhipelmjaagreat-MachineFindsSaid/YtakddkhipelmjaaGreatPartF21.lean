import Derived.ShutString
import Derived.Test.YtakddkhipelmjaaGreatPartF20
set_option maxRecDepth 100000
set_option linter.unusedVariables false
set_option maxHeartbeats 64000000
namespace Go.Proofs.YtakddkhipelmjaaGreat
open Go.Deep Go.RowKit
theorem RB (m:gD) (cs:List Value) (w:World) (H:ed w cs m):Calls Tryz.prog 5 #[.agg cs.toArray,.agg #[.int .i64 0,.string ⟨#[]⟩,.string ⟨#[]⟩,.string ⟨#[]⟩,.string ⟨#[]⟩,.string ⟨#[]⟩,.slice none 0 0,.string ⟨#[]⟩,.int .i64 0,.slice none 0 0,.int .i64 0,.int .i64 0,.string ⟨#[]⟩,.string ⟨#[]⟩,.string ⟨#[]⟩,.int .i64 0,.bool false]] w (WL w):=by
 obtain ⟨As,c1,At,c2,An,c3,Am,c4,Ag,c5,Ad,cd,Al,cl,rfl,h⟩:=H.at
 exact Nk m As c1 At c2 An c3 Am c4 Ag c5 Ad cd Al cl Yi (by decide) (by decide) w h
theorem WO (a b c d e:Int) (w:World):(binOp .eql 48 (.agg #[.int .i64 a,.int .i64 b,.int .i64 c,.int .i64 d,.int .i64 e]) (.agg #[.int .i64 a,.int .i64 b,.int .i64 c,.int .i64 d,.int .i64 e])).run Tryz.prog w=.ok (.bool true) w:=by
 simp [go_sem]
theorem yh (m:gD) (cs:List Value) (c n:Int) (w:World) (H:ed w cs m):Calls Tryz.prog 3 #[.agg cs.toArray,.int .i64 c,.int .i64 n] w fun e w'=>e=.returned (.bool true)∧ag w w':=by
 obtain ⟨W,hW⟩:∃ W,W=w.alloc (.cells cs.toArray 36):=⟨_,rfl⟩
 have aW:ag w W:=by rw [hW];exact (ag.refl w).alloc _
 have r0:au W w.heap.size cs:=by rw [hW];exact aU (ag.refl _)
 have BM:=gH (show BoxM W w.heap.size cs m from ⟨r0,H.aH aW⟩);have A0:=gH aW;have C0:=gH (RB m cs W (H.aH aW));obtain ⟨⟨d,f⟩,hd⟩:∃ F,gm m c n=F:=⟨_,rfl⟩
 have C1:=gH (show ∀ V,ag W V→Calls Tryz.prog 6 #[.agg cs.toArray,.int .i64 c,.int .i64 n] V fun e w'=>e=.returned (.tuple #[.agg #[.int .i64 d.aD,.int .i64 d.number,.int .i64 d.code,.int .i64 d.fence,.int .i64 d.version],.bool f])∧ag V w' from fun V a=>by
  have:=JF m cs c n V (H.aH (aW.trans a))
  rwa [hd] at this)
 have C2:=gH (show ∀ V,ag W V→Calls Tryz.prog 7 #[.agg cs.toArray,.int .i64 c,.int .i64 n] V fun e w'=>e=.returned (.tuple #[.agg #[.int .i64 d.aD,.int .i64 d.number,.int .i64 d.code,.int .i64 d.fence,.int .i64 d.version],.bool f])∧ag V w' from fun V a=>by
  have:=Np m cs c n V (H.aH (aW.trans a))
  rwa [hd] at this)
 have ld:=BM.out.ld;have heq:=WO d.aD d.number d.code d.fence d.version;clear aW r0 H hd
 go_in
 go_upto_region 1 with fail
 rw [← hW];clear hW;go_wp2_with fail;refine C0.out.mono ?_;rintro e w1 ⟨b,rfl,a1⟩;have A1:=gH a1;clear ld a1
 cases b
 case true =>
  go_wp2;go_ret;exact ⟨rfl,A0.out.trans A1.out⟩
 have ld:=(BM.out.aH A1.out).ld;go_wp2_with fail;refine (C1.out _ A1.out).mono ?_;rintro e w2 ⟨rfl,a2⟩;obtain ⟨s1,a3,r3⟩:=xP w2 d;obtain ⟨V1,hV⟩:∃ V,V=(w2.alloc (.cells #[.int .i64 0,.int .i64 0,.int .i64 0,.int .i64 0,.int .i64 0] 48)).setCells w2.heap.size 0 (cv d):=⟨_,rfl⟩;obtain ⟨b1,hb⟩:∃ b,b=w2.heap.size:=⟨_,rfl⟩;have A2:=gH (show ag W V1 from hV▸A1.out.trans (a2.trans a3));have R1:=gH (show au V1 b1 (cv d) from by rw [hV,hb];exact r3);clear a2 a3 r3 ld
 go_upto_region 4 with fail
 rw [← hV,← hb];clear hV hb s1;have ld:=(BM.out.aH A2.out).ld;go_wp2_with fail;refine (C2.out _ A2.out).mono ?_;rintro e w3 ⟨rfl,a2⟩;obtain ⟨s1,a3,r3⟩:=xP w3 d;obtain ⟨V2,hV⟩:∃ V,V=(w3.alloc (.cells #[.int .i64 0,.int .i64 0,.int .i64 0,.int .i64 0,.int .i64 0] 48)).setCells w3.heap.size 0 (cv d):=⟨_,rfl⟩;obtain ⟨b2,hb⟩:∃ b,b=w3.heap.size:=⟨_,rfl⟩;have A3:=gH (show ag W V2 from hV▸A2.out.trans (a2.trans a3));have R2:=gH (show au V2 b2 (cv d) from by rw [hV,hb];exact r3);have R1:=gH (show au V2 b1 (cv d) from hV▸R1.out.aH (a2.trans a3));clear a2 a3 r3 ld
 go_upto_region 5 with fail
 rw [← hV,← hb];clear hV hb s1;go_wp2_with fail;refine (Nl _).mono ?_;rintro e w4 ⟨rfl,a4⟩;have A4:=gH (A0.out.trans (A3.out.trans a4));have l1:(ot ⟨b1,0,none⟩).run Tryz.prog w4=.ok (.agg #[.int .i64 d.aD,.int .i64 d.number,.int .i64 d.code,.int .i64 d.fence,.int .i64 d.version]) w4:=fZ (T:=48) Tryz.underlying48 (by kernel_rfl) (R1.out.aH a4) (by rfl);have l2:(ot ⟨b2,0,none⟩).run Tryz.prog w4=.ok (.agg #[.int .i64 d.aD,.int .i64 d.number,.int .i64 d.code,.int .i64 d.fence,.int .i64 d.version]) w4:=fZ (T:=48) Tryz.underlying48 (by kernel_rfl) (R2.out.aH a4) (by rfl);clear a4;go_wp2;go_ret;exact ⟨by simp,A4.out⟩
end Go.Proofs.YtakddkhipelmjaaGreat
namespace Go.Proofs.YtakddkhipelmjaaGreat
open Go.ChangeShapes Go.WideShapes Go.ChangeAt Go.RowKit
section
variable {H : Type} {enc : TypeId × Value → H} {P : Program} {w : World}
def WP (enc:TypeId × Value→H) (P:Program) (w:World) (t:TypeId) (v:Value):Prop :=
 Rd enc P w t v.cells.toList∧∃ base,Value.okWide P w .any base t v
theorem WP.struct {t:TypeId} {fs:Array Field} {v:Value} (ht:P.underlying t=some (.struct fs)) (h:WP enc P w t v):∃ cs:List Value,v=.agg cs.toArray∧Rd enc P w t cs:=by
 obtain ⟨h1,base,h2⟩:=h;obtain ⟨cs,rfl,_⟩:=okWide_struct ht h2;exact ⟨cs.toList,by simp,h1⟩
theorem uP {v x:Value} (h:v.cells.toList=[x]) (hn:∀ cs,v≠.agg cs):v=x:=by
 cases v<;>simp [Value.cells] at h<;>first | exact h | exact absurd rfl (hn _)
theorem tU {t:TypeId} {v:Value} {base:Nat} {d:TypeDesc} (ht:P.underlying t=some d) (hd:(∀ fs,d≠.struct fs)∧(∀ n e,d≠.array n e)) (h:Value.okWide P w .any base t v):∀ cs,v≠.agg cs:=by
 intro cs e;subst e;unfold Value.okWide at h;rw [ht] at h
 cases d<;>simp_all [Cell.okWide,Cell.ok]
theorem WP.int {t:TypeId} {k:IntKind} {v:Value} (ht:P.underlying t=some (.int k)) (h:WP enc P w t v):∃ n:Int,v=.int k n∧(Lit.int k n).wf=true:=by
 obtain ⟨h1,base,h2⟩:=h;obtain ⟨s,hc,hs⟩:=h1.int ht;exact ⟨s,uP hc (tU ht (by simp) h2),hs⟩
theorem tV:∀ {ts:List TypeId} {vs:List Value} {ds:List (DataW H)} {p:List MemPlace},DataW.TrodAll enc P w 0 (fun _=>true) true ts vs ds p→(∀ n∈DataW.weightsEach P ts ds,n≤140737488351232) →
  vs.length=ts.length∧ds.length=ts.length∧∀ (j:Nat) (t:TypeId) (v:Value),ts[j]? = some t→vs[j]? = some v→Rd enc P w t v.cells.toList
 | [],vs,ds,p,h,_=>by
  cases vs<;>cases ds<;>simp [DataW.TrodAll] at h
  exact ⟨rfl,rfl,fun j t v ht=>by simp at ht⟩
 | t::ts,vs,ds,p,h,hw=>by
  obtain ⟨v,vs',d,ds',p1,q1,rfl,rfl,rfl,⟨fuel,h1⟩,h2⟩:=trodAll_cons h;simp only [DataW.weightsEach,List.mem_append] at hw;obtain ⟨l1,l2,ih⟩:=tV h2 (fun n hn=>hw n (.inr hn));refine ⟨by simp [l1],by simp [l2],fun j t' v' ht hv=>?_⟩
  cases j with
  | zero =>
   simp at ht hv;subst ht;subst hv;exact ⟨fuel,_,h1,fun n hn=>hw n (.inl hn)⟩
  | succ j=>exact ih j t' v' (by simpa using ht) (by simpa using hv)
theorem ox {W W':World} (hl:laidOutB P=true) (hb:Below W.heap.size W W'):∀ {ts:List TypeId} {vs:List Value} {ds:List (DataW H)} {p:List MemPlace},(∀ t∈ts,P.readableRec t=true∧t < P.types.size) →
  DataW.TrodAll enc P W 0 (fun _=>true) true ts vs ds p→DataW.TrodAll enc P W' 0 (fun b=>decide (b < W.heap.size)) true ts vs ds p
 | [],vs,ds,p,_,h=>by
  cases vs<;>cases ds<;>simp [DataW.TrodAll] at h ⊢
  exact h
 | t::ts,vs,ds,p,ht,h=>by
  obtain ⟨v,vs',d,ds',p1,q1,rfl,rfl,rfl,h1,h2⟩:=trodAll_cons h
  have lt0:∀ x∈p1,x.block < W.heap.size:=by obtain ⟨m,hm⟩:=h1;exact DataW.trod_lt m _ _ _ hm
  exact trodAll_cons_mk (Below.trod hl (ht t (by simp)).1 (ht t (by simp)).2 h1 hb lt0) (ox hl hb (fun x hx=>ht x (by simp [hx])) h2)
end
theorem Bi {C:Checked} {os:Os} {f:FuncId} {fn:Func} {s:ChangeSpec} {tb:TypeId} (H:Type) (enc:TypeId × Value→H)
  (own:ownKnob C.prog.godebug=none) (started:os.Started) (RD:C.prog.inits.idxOf? f=none) (hfn:C.prog.funcs[f]? = some fn)
  (witness:∃ (w:World) (tape:Tape) (i:Input),w.os=os∧(w.forCall tape i).Shaped C.prog∧i.vars=[]∧Input.okWide C.prog (w.forCall tape i) .any w.heap.size f i ∧
   s.pre6 enc C.prog fn [] false (w.forCall tape i).memory i.args∧({}:Assume).holds C.prog (lone (Frame.enter C.prog f i.args .normal) [] (w.forCall tape i)))
  (Ki:s.vars=[]) (hres:fn.resultTypes=#[tb]) (Lu:C.prog.underlying tb=some .bool)
  (WQ:∀ ds:List (DataW H),ds.length=fn.params.size→s.fn H ds={ results:=[.lit (.bool true)],args:=ds })
  (laid:laidOutB C.prog=true) (hty:∀ t∈fn.params.toList,C.prog.readableRec t=true∧t < C.prog.types.size)
  (walk:∀ (W:World) (vs:List Value),vs.length=fn.params.size→(∀ (j:Nat) (t:TypeId) (v:Value),fn.params[j]? = some t→vs[j]? = some v→WP enc C.prog W t v)→Calls C.prog f vs.toArray W fun e w'=>e=.returned (.bool true)∧ag W w') :
  ReturnsInHanded {} C os f .any (s.pre6 enc C.prog fn [] false) (s.post enc C.prog fn false true false false):=by
 refine returnsInHanded_of_change_sized own started RD hfn witness ?_;intro W base args ds gs before hval hW _ hsz _;have hW':=hW;obtain ⟨p,q,hA,hV,rfl,_,_⟩:=hW;rw [Ki] at hV;obtain ⟨rfl,rfl⟩:=trodVars_none hV
 have hw:∀ n∈DataW.weightsEach C.prog fn.params.toList ds,n≤140737488351232:=by
  have e:s.plain.varTypes C.prog=[]:=by
   simp [ChangeSpec.plain,Ki,DataSpec.varTypes]
  rw [e,List.append_nil,List.append_nil] at hsz;intro n hn;have:=List.all_eq_true.1 hsz n hn
  have h2:n≤reachBytes:=by simpa using this
  exact h2
 obtain ⟨l1,l2,PK⟩:=tV hA hw
 have hlen:args.toList.length=fn.params.size:=by simpa using l1
 refine ((walk W args.toList hlen fun j t v ht hv=>⟨PK j t v (by simpa using ht) hv,base,hval j t v ht (by simpa using hv)⟩)).mono fun e W' ⟨he,mq⟩=>?_
 subst he;have hs:=WQ ds (by simpa using l2);refine ⟨_,rfl,ds,[],p++[],[],p,[],hW',?_,?_,?_,?_,fun h=>by cases h⟩
 ·rw [List.append_nil,hs,hres]
  exact trodAll_mk1 (shut_bool Lu _)
 ·rw [List.append_nil,hs]
  exact ox laid mq hty hA
 ·rw [List.append_nil,hs,Ki]
  rfl
 ·exact mq.frame _
section
variable {H : Type} {enc : TypeId × Value → H} {w : World}
theorem oV {cs:List Value} (h:Rd enc Tryz.prog w 9 cs):∃ x,dg w cs x:=by
 obtain ⟨s,e,z⟩:=h.string Tryz.underlying9;exact ⟨s,e,z⟩
theorem EW {cs:List Value} (h:Rd enc Tryz.prog w 26 cs):∃ l,ur w 1 dg cs l :=
 Rd.slice Tryz.underlying26 (by kernel_rfl:Tryz.prog.cellsOf 9=1) (by decide) (of_decide_eq_true (by kernel_rfl)) (fun _ h=>oV h) h
theorem RH {cs:List Value} (h:Rd enc Tryz.prog w 169 cs):∃ x,fG w cs x:=by
 obtain ⟨hl,_⟩:=h.struct Tryz.underlying169;rw [show Tryz.prog.cellsOf 169=3 by kernel_rfl] at hl
 match cs,hl with
 | [c0,c1,c2],_ =>
  have f0:=h.field Tryz.underlying169 0 9 0 1 rfl (by kernel_rfl);have f1:=h.field Tryz.underlying169 1 167 1 1 rfl (by kernel_rfl);have f2:=h.field Tryz.underlying169 2 4 2 1 rfl (by kernel_rfl);clear h;obtain ⟨x0,e0,z0⟩:=f0.string Tryz.underlying9;obtain ⟨x1,e1,_⟩:=f1.int Tryz.underlying167;obtain ⟨x2,e2⟩:=f2.bool Tryz.underlying4;simp at e0 e1 e2;subst e0 e1 e2;exact ⟨⟨x0,x1,x2⟩,rfl,z0⟩
theorem Nq {cs:List Value} (h:Rd enc Tryz.prog w 39 cs):∃ l,ur w 3 fG cs l :=
 Rd.slice Tryz.underlying39 (by kernel_rfl:Tryz.prog.cellsOf 169=3) (by decide) (of_decide_eq_true (by kernel_rfl)) (fun _ h=>RH h) h
theorem Nr {cs:List Value} (h:Rd enc Tryz.prog w 42 cs):∃ x,fc w cs x:=by
 obtain ⟨hl,_⟩:=h.struct Tryz.underlying42;rw [show Tryz.prog.cellsOf 42=8 by kernel_rfl] at hl
 match cs,hl with
 | [c0,c1,c2,c3,c4,c5,c6,c7],_ =>
  have f0:=h.field Tryz.underlying42 0 9 0 1 rfl (by kernel_rfl);have f1:=h.field Tryz.underlying42 1 40 1 1 rfl (by kernel_rfl);have f2:=h.field Tryz.underlying42 2 26 2 1 rfl (by kernel_rfl);have f3:=h.field Tryz.underlying42 3 3 3 1 rfl (by kernel_rfl);have f4:=h.field Tryz.underlying42 4 3 4 1 rfl (by kernel_rfl);have f5:=h.field Tryz.underlying42 5 9 5 1 rfl (by kernel_rfl);have f6:=h.field Tryz.underlying42 6 9 6 1 rfl (by kernel_rfl);have f7:=h.field Tryz.underlying42 7 9 7 1 rfl (by kernel_rfl);clear h;obtain ⟨x0,e0,z0⟩:=f0.string Tryz.underlying9;obtain ⟨x1,e1,_⟩:=f1.int Tryz.underlying40;obtain ⟨x2,A2,bJ,e2,z2⟩:=EW f2;obtain ⟨x3,e3,_⟩:=f3.int Tryz.underlying3;obtain ⟨x4,e4,_⟩:=f4.int Tryz.underlying3;obtain ⟨x5,e5,z5⟩:=f5.string Tryz.underlying9;obtain ⟨x6,e6,z6⟩:=f6.string Tryz.underlying9;obtain ⟨x7,e7,z7⟩:=f7.string Tryz.underlying9;simp at e0 e1 e2 e3 e4 e5 e6 e7;subst e0 e1 e2 e3 e4 e5 e6 e7;exact ⟨⟨x0,x1,x2,x3,x4,x5,x6,x7⟩,A2,bJ,rfl,z2,z0,z5,z6,z7⟩
theorem Kj {cs:List Value} (h:Rd enc Tryz.prog w 78 cs):∃ l,ur w 8 fc cs l :=
 Rd.slice Tryz.underlying78 (by kernel_rfl:Tryz.prog.cellsOf 42=8) (by decide) (of_decide_eq_true (by kernel_rfl)) (fun _ h=>Nr h) h
end
section
variable {H : Type} {enc : TypeId × Value → H} {w : World}
theorem RI {cs:List Value} (h:Rd enc Tryz.prog w 80 cs):∃ x,dE w cs x:=by
 obtain ⟨hl,_⟩:=h.struct Tryz.underlying80;rw [show Tryz.prog.cellsOf 80=5 by kernel_rfl] at hl
 match cs,hl with
 | [c0,c1,c2,c3,c4],_ =>
  have f0:=h.field Tryz.underlying80 0 9 0 1 rfl (by kernel_rfl);have f1:=h.field Tryz.underlying80 1 9 1 1 rfl (by kernel_rfl);have f2:=h.field Tryz.underlying80 2 9 2 1 rfl (by kernel_rfl);have f3:=h.field Tryz.underlying80 3 39 3 1 rfl (by kernel_rfl);have f4:=h.field Tryz.underlying80 4 78 4 1 rfl (by kernel_rfl);clear h;obtain ⟨x0,e0,z0⟩:=f0.string Tryz.underlying9;obtain ⟨x1,e1,z1⟩:=f1.string Tryz.underlying9;obtain ⟨x2,e2,z2⟩:=f2.string Tryz.underlying9;obtain ⟨x3,A3,fN,e3,z3⟩:=Nq f3;obtain ⟨x4,A4,RJ,e4,z4⟩:=Kj f4;simp at e0 e1 e2 e3 e4;subst e0 e1 e2 e3 e4;exact ⟨⟨x0,x1,x2,x3,x4⟩,A3,fN,A4,RJ,rfl,z3,z4,z0,z1,z2⟩
theorem Ns {cs:List Value} (h:Rd enc Tryz.prog w 23 cs):∃ l,ur w 5 dE cs l :=
 Rd.slice Tryz.underlying23 (by kernel_rfl:Tryz.prog.cellsOf 80=5) (by decide) (of_decide_eq_true (by kernel_rfl)) (fun _ h=>RI h) h
theorem RL {cs:List Value} (h:Rd enc Tryz.prog w 109 cs):∃ x,eL w cs x:=by
 obtain ⟨hl,_⟩:=h.struct Tryz.underlying109;rw [show Tryz.prog.cellsOf 109=2 by kernel_rfl] at hl
 match cs,hl with
 | [c0,c1],_ =>
  have f0:=h.field Tryz.underlying109 0 9 0 1 rfl (by kernel_rfl);have f1:=h.field Tryz.underlying109 1 9 1 1 rfl (by kernel_rfl);clear h;obtain ⟨x0,e0,z0⟩:=f0.string Tryz.underlying9;obtain ⟨x1,e1,z1⟩:=f1.string Tryz.underlying9;simp at e0 e1;subst e0 e1;exact ⟨⟨x0,x1⟩,rfl,z0,z1⟩
theorem Nt {cs:List Value} (h:Rd enc Tryz.prog w 22 cs):∃ l,ur w 2 eL cs l :=
 Rd.slice Tryz.underlying22 (by kernel_rfl:Tryz.prog.cellsOf 109=2) (by decide) (of_decide_eq_true (by kernel_rfl)) (fun _ h=>RL h) h
theorem Nu {cs:List Value} (h:Rd enc Tryz.prog w 25 cs):∃ x,YC w cs x:=by
 obtain ⟨hl,_⟩:=h.struct Tryz.underlying25;rw [show Tryz.prog.cellsOf 25=2 by kernel_rfl] at hl
 match cs,hl with
 | [c0,c1],_ =>
  have f0:=h.field Tryz.underlying25 0 22 0 1 rfl (by kernel_rfl);have f1:=h.field Tryz.underlying25 1 23 1 1 rfl (by kernel_rfl);clear h;obtain ⟨x0,A0,RM,e0,z0⟩:=Nt f0;obtain ⟨x1,A1,RN,e1,z1⟩:=Ns f1;simp at e0 e1;subst e0 e1;exact ⟨⟨x0,x1⟩,A0,RM,A1,RN,rfl,z0,z1⟩
theorem Hm:ownKnob Tryz.prog.godebug=none:=by kernel_rfl
theorem Hn:laidOutB Tryz.prog=true:=by kernel_rfl
end
section
variable {H : Type} {enc : TypeId × Value → H} {w : World}
theorem RO {cs:List Value} (h:Rd enc Tryz.prog w 174 cs):∃ x,fw w cs x:=by
 obtain ⟨hl,_⟩:=h.struct Tryz.underlying174;rw [show Tryz.prog.cellsOf 174=2 by kernel_rfl] at hl
 match cs,hl with
 | [c0,c1],_ =>
  have f0:=h.field Tryz.underlying174 0 9 0 1 rfl (by kernel_rfl);have f1:=h.field Tryz.underlying174 1 9 1 1 rfl (by kernel_rfl);clear h;obtain ⟨x0,e0,z0⟩:=oV f0;obtain ⟨x1,e1,z1⟩:=oV f1;simp at e0 e1;subst e0 e1;exact ⟨⟨x0,x1⟩,rfl,z0,z1⟩
theorem Nv {cs:List Value} (h:Rd enc Tryz.prog w 27 cs):∃ l,ur w 2 fw cs l :=
 Rd.slice Tryz.underlying27 (by kernel_rfl:Tryz.prog.cellsOf 174=2) (by decide) (of_decide_eq_true (by kernel_rfl)) (fun _ h=>RO h) h
theorem Nw {cs:List Value} (h:Rd enc Tryz.prog w 29 cs):∃ (x:fV) (A:Option Addr) (cap:Nat) (B:Option Addr) (Nx:Nat),cs=[.slice A x.names.length cap,.slice B x.members.length Nx]∧aA w 1 dg A cap x.names∧aA w 2 fw B Nx x.members:=by
 obtain ⟨hl,_⟩:=h.struct Tryz.underlying29;rw [show Tryz.prog.cellsOf 29=2 by kernel_rfl] at hl
 match cs,hl with
 | [c0,c1],_ =>
  have f0:=h.field Tryz.underlying29 0 26 0 1 rfl (by kernel_rfl);have f1:=h.field Tryz.underlying29 1 27 1 1 rfl (by kernel_rfl);clear h;obtain ⟨x0,A0,RM,e0,z0⟩:=EW f0;obtain ⟨x1,A1,RN,e1,z1⟩:=Nv f1;simp at e0 e1;subst e0 e1;exact ⟨⟨x0,x1⟩,A0,RM,A1,RN,rfl,z0,z1⟩
end
section
variable {H : Type} {enc : TypeId × Value → H} {w : World}
theorem RS {cs:List Value} (h:Rd enc Tryz.prog w 177 cs):∃ x,gC w cs x:=by
 obtain ⟨hl,_⟩:=h.struct Tryz.underlying177;rw [show Tryz.prog.cellsOf 177=6 by kernel_rfl] at hl
 match cs,hl with
 | [c0,c1,c2,c3,c4,c5],_ =>
  have f0:=h.field Tryz.underlying177 0 9 0 1 rfl (by kernel_rfl);have f1:=h.field Tryz.underlying177 1 9 1 1 rfl (by kernel_rfl);have f2:=h.field Tryz.underlying177 2 43 2 1 rfl (by kernel_rfl);have f3:=h.field Tryz.underlying177 3 9 3 1 rfl (by kernel_rfl);have f4:=h.field Tryz.underlying177 4 9 4 1 rfl (by kernel_rfl);have f5:=h.field Tryz.underlying177 5 4 5 1 rfl (by kernel_rfl);clear h;obtain ⟨x0,e0,z0⟩:=oV f0;obtain ⟨x1,e1,z1⟩:=oV f1;obtain ⟨x2,e2,z2⟩:=f2.int Tryz.underlying43;obtain ⟨x3,e3,z3⟩:=oV f3;obtain ⟨x4,e4,z4⟩:=oV f4;obtain ⟨x5,e5⟩:=f5.bool Tryz.underlying4;simp at e0 e1 e2 e3 e4 e5;subst e0 e1 e2 e3 e4 e5;exact ⟨⟨x0,x1,x2,x3,x4,x5⟩,rfl,z0,z1,z3,z4,z2⟩
theorem Ny {cs:List Value} (h:Rd enc Tryz.prog w 30 cs):∃ l,ur w 6 gC cs l :=
 Rd.slice Tryz.underlying30 (by kernel_rfl:Tryz.prog.cellsOf 177=6) (by decide) (of_decide_eq_true (by kernel_rfl)) (fun _ h=>RS h) h
theorem RT {cs:List Value} (h:Rd enc Tryz.prog w 32 cs):∃ (c:bX) (As:Option Addr) (ay:Nat) (At:Option Addr) (az:Nat) (An:Option Addr) (aC:Nat) (Am:Option Addr) (aJ:Nat) (Ag:Option Addr) (aQ:Nat),
  cs=[.int .i64 c.ax,.int .i64 c.version,.slice As c.ah.aa.length ay,.slice At c.ah.tables.length az,.slice An c.ai.names.length aC,.slice Am c.ai.members.length aJ,.slice Ag c.af.length aQ] ∧
  aA w 2 eL As ay c.ah.aa∧aA w 5 dE At az c.ah.tables∧aA w 1 dg An aC c.ai.names∧aA w 2 fw Am aJ c.ai.members∧aA w 6 gC Ag aQ c.af∧(Lit.int .i64 c.ax).wf=true∧(Lit.int .i64 c.version).wf=true:=by
 obtain ⟨hl,_⟩:=h.struct Tryz.underlying32;rw [show Tryz.prog.cellsOf 32=7 by kernel_rfl] at hl
 match cs,hl with
 | [c0,c1,c2,c3,c4,c5,c6],_ =>
  have f0:=h.field Tryz.underlying32 0 3 0 1 rfl (by kernel_rfl);have f1:=h.field Tryz.underlying32 1 3 1 1 rfl (by kernel_rfl);have f2:=h.field Tryz.underlying32 2 25 2 2 rfl (by kernel_rfl);have f3:=h.field Tryz.underlying32 3 29 4 2 rfl (by kernel_rfl);have f4:=h.field Tryz.underlying32 4 30 6 1 rfl (by kernel_rfl);clear h;obtain ⟨x0,e0,z0⟩:=f0.int Tryz.underlying3;obtain ⟨x1,e1,z1⟩:=f1.int Tryz.underlying3;obtain ⟨o,A,cap,B,Nx,e2,hs,ht⟩:=Nu f2;obtain ⟨r,C,aal,D,WR,e3,hn,hm⟩:=Nw f3;obtain ⟨g,E,aam,e4,hg⟩:=Ny f4;simp at e0 e1 e2 e3 e4;obtain ⟨rfl,rfl⟩:=e2;obtain ⟨rfl,rfl⟩:=e3;subst e0 e1 e4;exact ⟨⟨x0,x1,o,r,g⟩,A,cap,B,Nx,C,aal,D,WR,E,aam,rfl,hs,ht,hn,hm,hg,z0,z1⟩
end
section
variable {H : Type} {enc : TypeId × Value → H} {w : World}
theorem RU {cs:List Value} (h:Rd enc Tryz.prog w 48 cs):∃ x,fQ w cs x:=by
 obtain ⟨hl,_⟩:=h.struct Tryz.underlying48;rw [show Tryz.prog.cellsOf 48=5 by kernel_rfl] at hl
 match cs,hl with
 | [c0,c1,c2,c3,c4],_ =>
  have f0:=h.field Tryz.underlying48 0 3 0 1 rfl (by kernel_rfl);have f1:=h.field Tryz.underlying48 1 3 1 1 rfl (by kernel_rfl);have f2:=h.field Tryz.underlying48 2 46 2 1 rfl (by kernel_rfl);have f3:=h.field Tryz.underlying48 3 3 3 1 rfl (by kernel_rfl);have f4:=h.field Tryz.underlying48 4 3 4 1 rfl (by kernel_rfl);clear h;obtain ⟨x0,e0,z0⟩:=f0.int Tryz.underlying3;obtain ⟨x1,e1,z1⟩:=f1.int Tryz.underlying3;obtain ⟨x2,e2,z2⟩:=f2.int Tryz.underlying46;obtain ⟨x3,e3,z3⟩:=f3.int Tryz.underlying3;obtain ⟨x4,e4,z4⟩:=f4.int Tryz.underlying3;simp at e0 e1 e2 e3 e4;subst e0 e1 e2 e3 e4;exact ⟨⟨x0,x1,x2,x3,x4⟩,rfl⟩
theorem R3 {cs:List Value} (h:Rd enc Tryz.prog w 55 cs):∃ x,fY w cs x:=by
 obtain ⟨hl,_⟩:=h.struct Tryz.underlying55;rw [show Tryz.prog.cellsOf 55=4 by kernel_rfl] at hl
 match cs,hl with
 | [c0,c1,c2,c3],_ =>
  have f0:=h.field Tryz.underlying55 0 3 0 1 rfl (by kernel_rfl);have f1:=h.field Tryz.underlying55 1 3 1 1 rfl (by kernel_rfl);have f2:=h.field Tryz.underlying55 2 3 2 1 rfl (by kernel_rfl);have f3:=h.field Tryz.underlying55 3 3 3 1 rfl (by kernel_rfl);clear h;obtain ⟨x0,e0,z0⟩:=f0.int Tryz.underlying3;obtain ⟨x1,e1,z1⟩:=f1.int Tryz.underlying3;obtain ⟨x2,e2,z2⟩:=f2.int Tryz.underlying3;obtain ⟨x3,e3,z3⟩:=f3.int Tryz.underlying3;simp at e0 e1 e2 e3;subst e0 e1 e2 e3;exact ⟨⟨x0,x1,x2,x3⟩,rfl⟩
theorem Nz {cs:List Value} (h:Rd enc Tryz.prog w 33 cs):∃ l,ur w 5 fQ cs l :=
 Rd.slice Tryz.underlying33 (by kernel_rfl:Tryz.prog.cellsOf 48=5) (by decide) (of_decide_eq_true (by kernel_rfl)) (fun _ h=>RU h) h
theorem NA {cs:List Value} (h:Rd enc Tryz.prog w 34 cs):∃ l,ur w 4 fY cs l :=
 Rd.slice Tryz.underlying34 (by kernel_rfl:Tryz.prog.cellsOf 55=4) (by decide) (of_decide_eq_true (by kernel_rfl)) (fun _ h=>R3 h) h
theorem PL {cs:List Value} (h:Rd enc Tryz.prog w 36 cs):∃ (m:gD) (As:Option Addr) (ay:Nat) (At:Option Addr) (az:Nat) (An:Option Addr) (aC:Nat) (Am:Option Addr) (aJ:Nat) (Ag:Option Addr) (aQ:Nat) (Ad:Option Addr) (fW:Nat) (Al:Option Addr) (fD:Nat),
  cs=[.int .i64 m.cat.ax,.int .i64 m.cat.version,.slice As m.cat.ah.aa.length ay,.slice At m.cat.ah.tables.length az,.slice An m.cat.ai.names.length aC,.slice Am m.cat.ai.members.length aJ,.slice Ag m.cat.af.length aQ,.slice Ad m.aR.length fW,.slice Al m.bN.length fD,.int .i64 m.last] ∧
  iX w m As ay At az An aC Am aJ Ag aQ Ad fW Al fD:=by
 obtain ⟨hl,_⟩:=h.struct Tryz.underlying36;rw [show Tryz.prog.cellsOf 36=10 by kernel_rfl] at hl
 match cs,hl with
 | [c0,c1,c2,c3,c4,c5,c6,c7,c8,c9],_ =>
  have f0:=h.field Tryz.underlying36 0 32 0 7 rfl (by kernel_rfl);have f1:=h.field Tryz.underlying36 1 33 7 1 rfl (by kernel_rfl);have f2:=h.field Tryz.underlying36 2 34 8 1 rfl (by kernel_rfl);have f3:=h.field Tryz.underlying36 3 3 9 1 rfl (by kernel_rfl);clear h;obtain ⟨x0,As,ay,At,az,An,aC,Am,aJ,Ag,aQ,e0,y1,y2,y3,y4,y5,z0⟩:=RT f0;obtain ⟨d,Ad,fW,e1,hd⟩:=Nz f1;obtain ⟨l,Al,fD,e2,hl⟩:=NA f2;obtain ⟨la,e3,z3⟩:=f3.int Tryz.underlying3;simp at e0 e1 e2 e3;obtain ⟨rfl,rfl,rfl,rfl,rfl,rfl,rfl⟩:=e0;subst e1 e2 e3;exact ⟨⟨x0,d,l,la⟩,As,ay,At,az,An,aC,Am,aJ,Ag,aQ,Ad,fW,Al,fD,rfl,⟨⟨y1,y2,y3,y4,y5⟩,hd,hl⟩⟩
end
end Go.Proofs.YtakddkhipelmjaaGreat
