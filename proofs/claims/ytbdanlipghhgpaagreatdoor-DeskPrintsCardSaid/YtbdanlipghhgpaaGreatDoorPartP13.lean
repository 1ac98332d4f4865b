import Derived.Test.YtbdanlipghhgpaaGreatDoorPartP12
namespace Go.Proofs.YtbdanlipghhgpaaGreatDoor
open Go.RowKit Go.Deep
set_option maxRecDepth 100000
set_option linter.unusedVariables false
set_option maxHeartbeats 64000000
theorem Nx.start2 {b p:Nat} {w:World} {W:Ws} {d:Bool} (h:LnS w b p W d) (zs cs:List Value) (t1 t2:TypeId):Nx b p w.heap.size (w.heap.size+1) w ((w.alloc (.cells zs.toArray t1)).alloc (.cells cs.toArray t2)) W d zs cs:=by
 have X:=(Nr.start h zs t1).box cs t2
 rw [show (w.alloc (.cells zs.toArray t1)).heap.size=w.heap.size+1 by simp] at X
 exact X
def ActN (b B:Nat) (w':World) (v:Value) (a:Dact):Prop :=
 ∃ A k A2 k2 A3 k3,v=.agg (actV a A k A2 k2 A3 k3).toArray∧ColsN b B w' (.slice A a.cmd.cols.length k) a.cmd.cols∧NamesN b B w' (.slice A2 a.cmd.rule.cols.length k2) a.cmd.rule.cols∧ValsN b B w' (.slice A3 a.row.row.length k3) a.row.row∧CmdZ a.cmd∧(SzS a.row.role∧SzS a.row.schema∧SzS a.row.table∧SzS a.row.col∧SzS a.row.v.text)
theorem cmdZ_z:CmdZ zCmd:=⟨szZ,szZ,szZ,szZ,szZ,szZ,szZ,szZ,szZ⟩
theorem actN_plain {b B:Nat} {w:World} {v:Value} {a:Dact} (hb:b < B) (hv:v=.agg (actV a none 0 none 0 none 0).toArray) (hc:a.cmd=zCmd) (hr:a.row=zROp):ActN b B w v a :=
 ⟨none,0,none,0,none,0,hv,by rw [hc];exact colsN_nil b B w hb,by rw [hc];exact namesN_nil b B w hb,by rw [hr];exact valsN_nil b B w hb,by rw [hc];exact cmdZ_z,by rw [hr];exact ⟨szZ,szZ,szZ,szZ,szZ⟩⟩
theorem actN_tick (f:ByteArray) (W:Ws) (d:Bool) (W0:Ws) (d0:Bool) (q0:wordD W d=(f,W0,d0)) (h:eqS f b_tick=true) (b p:Nat) (w:World) (hl:LnS w b p W d):Calls Tryz.prog 21 #[.pointer (some ⟨b,0,none⟩)] w (RdN b p w (ActN b w.heap.size) (actD W d)):=by
 obtain ⟨n1,W1,d1,q1⟩:∃ a c e,numD W0 d0=(a,c,e):=⟨_,_,_,rfl⟩
 have H1:=gH (lnum_at (b:=b) (p:=p) q1)
 have e:actD W d=({ zAct with kind:=1,node:=n1 },W1,d1):=by simp [actD,threeD,chgD,bindD,q0,q1,h]
 rw [e]
 have H0:=gH (lword_at (b:=b) (p:=p) q0)
 have ih:=eqS_as h
 unfold b_tick at ih
 simp only at ih
 have HX0:=gH (Nx.start2 hl z33 z33 43 43)
 have hb:=hl.lt
 have HB:=gH hb
 clear e hl q0 q1 h
 go_enter Tryz.func21,Tryz.ntmps21
 go_wp2_with (first
  | (go_at_call 32;with_reducible refine (H0.out _ HX0.out.nr.ds).mono ?_;rintro e w0 ⟨rfl,g0,l0,k0⟩;have X1:=HX0.out.call k0 l0;obtain ⟨ca0,fa0⟩:=X1.cf 0 (by simp);obtain ⟨cc0,fc0⟩:=X1.cf 22 (by simp);have hxb:=X1.xb;have hbx:=X1.bx;have z0:=X1.lt;obtain ⟨z00,z01,z02⟩:=z0;have X0s:Nx b p w.heap.size (w.heap.size+1) w _ _ _ z33 [.int .i64 1,.int .i64 0,.int .i64 0,.int .i64 0,.int .i64 0,.int .i64 0,.string ⟨#[]⟩,.string ⟨#[]⟩,.string ⟨#[]⟩,.string ⟨#[]⟩,.string ⟨#[]⟩,.slice none 0 0,.string ⟨#[]⟩,.int .i64 0,.slice none 0 0,.int .i64 0,.int .i64 0,.string ⟨#[]⟩,.string ⟨#[]⟩,.string ⟨#[]⟩,.int .i64 0,.bool false,.int .i64 0,.int .i64 0,.int .i64 0,.string ⟨#[]⟩,.string ⟨#[]⟩,.string ⟨#[]⟩,.slice none 0 0,.string ⟨#[]⟩,.int .i64 0,.int .i64 0,.string ⟨#[]⟩]:=X1.set 0 (.int .i64 1) (by simp);have X0s:=gH X0s;clear l0 k0 X1)
  | (go_at_call 33;with_reducible refine (H1.out _ X0s.out.nr.ds).mono ?_;rintro e w1 ⟨rfl,m1,k1⟩;have X1:=X0s.out.call k1 m1;obtain ⟨ca1,fa1⟩:=X1.cf 1 (by simp);obtain ⟨cc1,fc1⟩:=X1.cf 22 (by simp);have z1:=X1.lt;obtain ⟨z10,z11,z12⟩:=z1;have X1s:Nx b p w.heap.size (w.heap.size+1) w _ _ _ z33 [.int .i64 1,.int .i64 n1,.int .i64 0,.int .i64 0,.int .i64 0,.int .i64 0,.string ⟨#[]⟩,.string ⟨#[]⟩,.string ⟨#[]⟩,.string ⟨#[]⟩,.string ⟨#[]⟩,.slice none 0 0,.string ⟨#[]⟩,.int .i64 0,.slice none 0 0,.int .i64 0,.int .i64 0,.string ⟨#[]⟩,.string ⟨#[]⟩,.string ⟨#[]⟩,.int .i64 0,.bool false,.int .i64 0,.int .i64 0,.int .i64 0,.string ⟨#[]⟩,.string ⟨#[]⟩,.string ⟨#[]⟩,.slice none 0 0,.string ⟨#[]⟩,.int .i64 0,.int .i64 0,.string ⟨#[]⟩]:=X1.set 1 (.int .i64 n1) (by simp);have X1s:=gH X1s;have e1:=lvAct_row X1s.out.row rfl;have e2:=svAct_row X1s.out.nr.res rfl rfl (vs:=[.int .i64 1,.int .i64 n1,.int .i64 0,.int .i64 0,.int .i64 0,.int .i64 0,.string ⟨#[]⟩,.string ⟨#[]⟩,.string ⟨#[]⟩,.string ⟨#[]⟩,.string ⟨#[]⟩,.slice none 0 0,.string ⟨#[]⟩,.int .i64 0,.slice none 0 0,.int .i64 0,.int .i64 0,.string ⟨#[]⟩,.string ⟨#[]⟩,.string ⟨#[]⟩,.int .i64 0,.bool false,.int .i64 0,.int .i64 0,.int .i64 0,.string ⟨#[]⟩,.string ⟨#[]⟩,.string ⟨#[]⟩,.slice none 0 0,.string ⟨#[]⟩,.int .i64 0,.int .i64 0,.string ⟨#[]⟩]) (by simp [Value.oneCell']);clear m1 k1 X1))
 have XR:=X1s.out.nr.sets (cs:=[.int .i64 1,.int .i64 n1,.int .i64 0,.int .i64 0,.int .i64 0,.int .i64 0,.string ⟨#[]⟩,.string ⟨#[]⟩,.string ⟨#[]⟩,.string ⟨#[]⟩,.string ⟨#[]⟩,.slice none 0 0,.string ⟨#[]⟩,.int .i64 0,.slice none 0 0,.int .i64 0,.int .i64 0,.string ⟨#[]⟩,.string ⟨#[]⟩,.string ⟨#[]⟩,.int .i64 0,.bool false,.int .i64 0,.int .i64 0,.int .i64 0,.string ⟨#[]⟩,.string ⟨#[]⟩,.string ⟨#[]⟩,.slice none 0 0,.string ⟨#[]⟩,.int .i64 0,.int .i64 0,.string ⟨#[]⟩]) rfl
 refine bodyPost_ret (results_cell rfl _ rfl (lv_row (T:=43) Tryz.underlying43 (by kernel_rfl) XR.res rfl)) rfl ?_
 exact ⟨XR.kw,_,rfl,actN_plain HB.out rfl rfl rfl,XR.ds⟩
theorem actN_world (f:ByteArray) (W:Ws) (d:Bool) (W0:Ws) (d0:Bool) (q0:wordD W d=(f,W0,d0)) (h0:eqS f b_tick=false) (h:eqS f b_world=true) (b p:Nat) (w:World) (hl:LnS w b p W d):Calls Tryz.prog 21 #[.pointer (some ⟨b,0,none⟩)] w (RdN b p w (ActN b w.heap.size) (actD W d)):=by
 have e:actD W d=({ zAct with kind:=2 },W0,d0):=by simp [actD,threeD,chgD,bindD,q0,h0,h]
 rw [e]
 have H0:=gH (lword_at (b:=b) (p:=p) q0)
 have ih0:=eqS_as h0
 unfold b_tick at ih0
 simp only at ih0
 have ih:=eqS_as h
 unfold b_world at ih
 simp only at ih
 have HX0:=gH (Nx.start2 hl z33 z33 43 43)
 have hb:=hl.lt
 have HB:=gH hb
 clear e hl q0  h0 h
 go_enter Tryz.func21,Tryz.ntmps21
 go_wp2_with (first
  | (go_at_call 32;with_reducible refine (H0.out _ HX0.out.nr.ds).mono ?_;rintro e w0 ⟨rfl,g0,l0,k0⟩;have X1:=HX0.out.call k0 l0;obtain ⟨ca0,fa0⟩:=X1.cf 0 (by simp);obtain ⟨cc0,fc0⟩:=X1.cf 22 (by simp);have hxb:=X1.xb;have hbx:=X1.bx;have z0:=X1.lt;obtain ⟨z00,z01,z02⟩:=z0;have X0s:Nx b p w.heap.size (w.heap.size+1) w _ _ _ z33 [.int .i64 2,.int .i64 0,.int .i64 0,.int .i64 0,.int .i64 0,.int .i64 0,.string ⟨#[]⟩,.string ⟨#[]⟩,.string ⟨#[]⟩,.string ⟨#[]⟩,.string ⟨#[]⟩,.slice none 0 0,.string ⟨#[]⟩,.int .i64 0,.slice none 0 0,.int .i64 0,.int .i64 0,.string ⟨#[]⟩,.string ⟨#[]⟩,.string ⟨#[]⟩,.int .i64 0,.bool false,.int .i64 0,.int .i64 0,.int .i64 0,.string ⟨#[]⟩,.string ⟨#[]⟩,.string ⟨#[]⟩,.slice none 0 0,.string ⟨#[]⟩,.int .i64 0,.int .i64 0,.string ⟨#[]⟩]:=X1.set 0 (.int .i64 2) (by simp);have X0s:=gH X0s;have e1:=lvAct_row X0s.out.row rfl;have e2:=svAct_row X0s.out.nr.res rfl rfl (vs:=[.int .i64 2,.int .i64 0,.int .i64 0,.int .i64 0,.int .i64 0,.int .i64 0,.string ⟨#[]⟩,.string ⟨#[]⟩,.string ⟨#[]⟩,.string ⟨#[]⟩,.string ⟨#[]⟩,.slice none 0 0,.string ⟨#[]⟩,.int .i64 0,.slice none 0 0,.int .i64 0,.int .i64 0,.string ⟨#[]⟩,.string ⟨#[]⟩,.string ⟨#[]⟩,.int .i64 0,.bool false,.int .i64 0,.int .i64 0,.int .i64 0,.string ⟨#[]⟩,.string ⟨#[]⟩,.string ⟨#[]⟩,.slice none 0 0,.string ⟨#[]⟩,.int .i64 0,.int .i64 0,.string ⟨#[]⟩]) (by simp [Value.oneCell']);clear l0 k0 X1))
 have XR:=X0s.out.nr.sets (cs:=[.int .i64 2,.int .i64 0,.int .i64 0,.int .i64 0,.int .i64 0,.int .i64 0,.string ⟨#[]⟩,.string ⟨#[]⟩,.string ⟨#[]⟩,.string ⟨#[]⟩,.string ⟨#[]⟩,.slice none 0 0,.string ⟨#[]⟩,.int .i64 0,.slice none 0 0,.int .i64 0,.int .i64 0,.string ⟨#[]⟩,.string ⟨#[]⟩,.string ⟨#[]⟩,.int .i64 0,.bool false,.int .i64 0,.int .i64 0,.int .i64 0,.string ⟨#[]⟩,.string ⟨#[]⟩,.string ⟨#[]⟩,.slice none 0 0,.string ⟨#[]⟩,.int .i64 0,.int .i64 0,.string ⟨#[]⟩]) rfl
 refine bodyPost_ret (results_cell rfl _ rfl (lv_row (T:=43) Tryz.underlying43 (by kernel_rfl) XR.res rfl)) rfl ?_
 exact ⟨XR.kw,_,rfl,actN_plain HB.out rfl rfl rfl,XR.ds⟩
theorem actN_start (f:ByteArray) (W:Ws) (d:Bool) (W0:Ws) (d0:Bool) (q0:wordD W d=(f,W0,d0)) (h0:eqS f b_tick=false) (h1:eqS f b_world=false) (h:eqS f b_start=true) (b p:Nat) (w:World) (hl:LnS w b p W d):Calls Tryz.prog 21 #[.pointer (some ⟨b,0,none⟩)] w (RdN b p w (ActN b w.heap.size) (actD W d)):=by
 obtain ⟨n1,W1,d1,q1⟩:∃ a c e,numD W0 d0=(a,c,e):=⟨_,_,_,rfl⟩
 have H1:=gH (lnum_at (b:=b) (p:=p) q1)
 have e:actD W d=({ zAct with kind:=12,node:=n1 },W1,d1):=by simp [actD,threeD,chgD,bindD,q0,q1,h0,h1,h]
 rw [e]
 have H0:=gH (lword_at (b:=b) (p:=p) q0)
 have ih0:=eqS_as h0
 unfold b_tick at ih0
 simp only at ih0
 have ih1:=eqS_as h1
 unfold b_world at ih1
 simp only at ih1
 have ih:=eqS_as h
 unfold b_start at ih
 simp only at ih
 have HX0:=gH (Nx.start2 hl z33 z33 43 43)
 have hb:=hl.lt
 have HB:=gH hb
 clear e hl q0 q1 h0 h1 h
 go_enter Tryz.func21,Tryz.ntmps21
 go_wp2_with (first
  | (go_at_call 32;with_reducible refine (H0.out _ HX0.out.nr.ds).mono ?_;rintro e w0 ⟨rfl,g0,l0,k0⟩;have X1:=HX0.out.call k0 l0;obtain ⟨ca0,fa0⟩:=X1.cf 0 (by simp);obtain ⟨cc0,fc0⟩:=X1.cf 22 (by simp);have hxb:=X1.xb;have hbx:=X1.bx;have z0:=X1.lt;obtain ⟨z00,z01,z02⟩:=z0;have X0s:Nx b p w.heap.size (w.heap.size+1) w _ _ _ z33 [.int .i64 12,.int .i64 0,.int .i64 0,.int .i64 0,.int .i64 0,.int .i64 0,.string ⟨#[]⟩,.string ⟨#[]⟩,.string ⟨#[]⟩,.string ⟨#[]⟩,.string ⟨#[]⟩,.slice none 0 0,.string ⟨#[]⟩,.int .i64 0,.slice none 0 0,.int .i64 0,.int .i64 0,.string ⟨#[]⟩,.string ⟨#[]⟩,.string ⟨#[]⟩,.int .i64 0,.bool false,.int .i64 0,.int .i64 0,.int .i64 0,.string ⟨#[]⟩,.string ⟨#[]⟩,.string ⟨#[]⟩,.slice none 0 0,.string ⟨#[]⟩,.int .i64 0,.int .i64 0,.string ⟨#[]⟩]:=X1.set 0 (.int .i64 12) (by simp);have X0s:=gH X0s;clear l0 k0 X1)
  | (go_at_call 33;with_reducible refine (H1.out _ X0s.out.nr.ds).mono ?_;rintro e w1 ⟨rfl,m1,k1⟩;have X1:=X0s.out.call k1 m1;obtain ⟨ca1,fa1⟩:=X1.cf 1 (by simp);obtain ⟨cc1,fc1⟩:=X1.cf 22 (by simp);have z1:=X1.lt;obtain ⟨z10,z11,z12⟩:=z1;have X1s:Nx b p w.heap.size (w.heap.size+1) w _ _ _ z33 [.int .i64 12,.int .i64 n1,.int .i64 0,.int .i64 0,.int .i64 0,.int .i64 0,.string ⟨#[]⟩,.string ⟨#[]⟩,.string ⟨#[]⟩,.string ⟨#[]⟩,.string ⟨#[]⟩,.slice none 0 0,.string ⟨#[]⟩,.int .i64 0,.slice none 0 0,.int .i64 0,.int .i64 0,.string ⟨#[]⟩,.string ⟨#[]⟩,.string ⟨#[]⟩,.int .i64 0,.bool false,.int .i64 0,.int .i64 0,.int .i64 0,.string ⟨#[]⟩,.string ⟨#[]⟩,.string ⟨#[]⟩,.slice none 0 0,.string ⟨#[]⟩,.int .i64 0,.int .i64 0,.string ⟨#[]⟩]:=X1.set 1 (.int .i64 n1) (by simp);have X1s:=gH X1s;have e1:=lvAct_row X1s.out.row rfl;have e2:=svAct_row X1s.out.nr.res rfl rfl (vs:=[.int .i64 12,.int .i64 n1,.int .i64 0,.int .i64 0,.int .i64 0,.int .i64 0,.string ⟨#[]⟩,.string ⟨#[]⟩,.string ⟨#[]⟩,.string ⟨#[]⟩,.string ⟨#[]⟩,.slice none 0 0,.string ⟨#[]⟩,.int .i64 0,.slice none 0 0,.int .i64 0,.int .i64 0,.string ⟨#[]⟩,.string ⟨#[]⟩,.string ⟨#[]⟩,.int .i64 0,.bool false,.int .i64 0,.int .i64 0,.int .i64 0,.string ⟨#[]⟩,.string ⟨#[]⟩,.string ⟨#[]⟩,.slice none 0 0,.string ⟨#[]⟩,.int .i64 0,.int .i64 0,.string ⟨#[]⟩]) (by simp [Value.oneCell']);clear m1 k1 X1))
 have XR:=X1s.out.nr.sets (cs:=[.int .i64 12,.int .i64 n1,.int .i64 0,.int .i64 0,.int .i64 0,.int .i64 0,.string ⟨#[]⟩,.string ⟨#[]⟩,.string ⟨#[]⟩,.string ⟨#[]⟩,.string ⟨#[]⟩,.slice none 0 0,.string ⟨#[]⟩,.int .i64 0,.slice none 0 0,.int .i64 0,.int .i64 0,.string ⟨#[]⟩,.string ⟨#[]⟩,.string ⟨#[]⟩,.int .i64 0,.bool false,.int .i64 0,.int .i64 0,.int .i64 0,.string ⟨#[]⟩,.string ⟨#[]⟩,.string ⟨#[]⟩,.slice none 0 0,.string ⟨#[]⟩,.int .i64 0,.int .i64 0,.string ⟨#[]⟩]) rfl
 refine bodyPost_ret (results_cell rfl _ rfl (lv_row (T:=43) Tryz.underlying43 (by kernel_rfl) XR.res rfl)) rfl ?_
 exact ⟨XR.kw,_,rfl,actN_plain HB.out rfl rfl rfl,XR.ds⟩
theorem actN_deliver (f:ByteArray) (W:Ws) (d:Bool) (W0:Ws) (d0:Bool) (q0:wordD W d=(f,W0,d0)) (h0:eqS f b_tick=false) (h1:eqS f b_world=false) (h2:eqS f b_start=false) (h:eqS f b_deliver=true) (b p:Nat) (w:World) (hl:LnS w b p W d):Calls Tryz.prog 21 #[.pointer (some ⟨b,0,none⟩)] w (RdN b p w (ActN b w.heap.size) (actD W d)):=by
 obtain ⟨n1,W1,d1,q1⟩:∃ a c e,numD W0 d0=(a,c,e):=⟨_,_,_,rfl⟩
 have H1:=gH (lnum_at (b:=b) (p:=p) q1)
 have e:actD W d=({ zAct with kind:=3,n:=n1 },W1,d1):=by simp [actD,threeD,chgD,bindD,q0,q1,h0,h1,h2,h]
 rw [e]
 have H0:=gH (lword_at (b:=b) (p:=p) q0)
 have ih0:=eqS_as h0
 unfold b_tick at ih0
 simp only at ih0
 have ih1:=eqS_as h1
 unfold b_world at ih1
 simp only at ih1
 have ih2:=eqS_as h2
 unfold b_start at ih2
 simp only at ih2
 have ih:=eqS_as h
 unfold b_deliver at ih
 simp only at ih
 have HX0:=gH (Nx.start2 hl z33 z33 43 43)
 have hb:=hl.lt
 have HB:=gH hb
 clear e hl q0 q1 h0 h1 h2 h
 go_enter Tryz.func21,Tryz.ntmps21
 go_wp2_with (first
  | (go_at_call 32;with_reducible refine (H0.out _ HX0.out.nr.ds).mono ?_;rintro e w0 ⟨rfl,g0,l0,k0⟩;have X1:=HX0.out.call k0 l0;obtain ⟨ca0,fa0⟩:=X1.cf 0 (by simp);obtain ⟨cc0,fc0⟩:=X1.cf 22 (by simp);have hxb:=X1.xb;have hbx:=X1.bx;have z0:=X1.lt;obtain ⟨z00,z01,z02⟩:=z0;have X0s:Nx b p w.heap.size (w.heap.size+1) w _ _ _ z33 [.int .i64 3,.int .i64 0,.int .i64 0,.int .i64 0,.int .i64 0,.int .i64 0,.string ⟨#[]⟩,.string ⟨#[]⟩,.string ⟨#[]⟩,.string ⟨#[]⟩,.string ⟨#[]⟩,.slice none 0 0,.string ⟨#[]⟩,.int .i64 0,.slice none 0 0,.int .i64 0,.int .i64 0,.string ⟨#[]⟩,.string ⟨#[]⟩,.string ⟨#[]⟩,.int .i64 0,.bool false,.int .i64 0,.int .i64 0,.int .i64 0,.string ⟨#[]⟩,.string ⟨#[]⟩,.string ⟨#[]⟩,.slice none 0 0,.string ⟨#[]⟩,.int .i64 0,.int .i64 0,.string ⟨#[]⟩]:=X1.set 0 (.int .i64 3) (by simp);have X0s:=gH X0s;clear l0 k0 X1)
  | (go_at_call 33;with_reducible refine (H1.out _ X0s.out.nr.ds).mono ?_;rintro e w1 ⟨rfl,m1,k1⟩;have X1:=X0s.out.call k1 m1;obtain ⟨ca1,fa1⟩:=X1.cf 2 (by simp);obtain ⟨cc1,fc1⟩:=X1.cf 22 (by simp);have z1:=X1.lt;obtain ⟨z10,z11,z12⟩:=z1;have X1s:Nx b p w.heap.size (w.heap.size+1) w _ _ _ z33 [.int .i64 3,.int .i64 0,.int .i64 n1,.int .i64 0,.int .i64 0,.int .i64 0,.string ⟨#[]⟩,.string ⟨#[]⟩,.string ⟨#[]⟩,.string ⟨#[]⟩,.string ⟨#[]⟩,.slice none 0 0,.string ⟨#[]⟩,.int .i64 0,.slice none 0 0,.int .i64 0,.int .i64 0,.string ⟨#[]⟩,.string ⟨#[]⟩,.string ⟨#[]⟩,.int .i64 0,.bool false,.int .i64 0,.int .i64 0,.int .i64 0,.string ⟨#[]⟩,.string ⟨#[]⟩,.string ⟨#[]⟩,.slice none 0 0,.string ⟨#[]⟩,.int .i64 0,.int .i64 0,.string ⟨#[]⟩]:=X1.set 2 (.int .i64 n1) (by simp);have X1s:=gH X1s;have e1:=lvAct_row X1s.out.row rfl;have e2:=svAct_row X1s.out.nr.res rfl rfl (vs:=[.int .i64 3,.int .i64 0,.int .i64 n1,.int .i64 0,.int .i64 0,.int .i64 0,.string ⟨#[]⟩,.string ⟨#[]⟩,.string ⟨#[]⟩,.string ⟨#[]⟩,.string ⟨#[]⟩,.slice none 0 0,.string ⟨#[]⟩,.int .i64 0,.slice none 0 0,.int .i64 0,.int .i64 0,.string ⟨#[]⟩,.string ⟨#[]⟩,.string ⟨#[]⟩,.int .i64 0,.bool false,.int .i64 0,.int .i64 0,.int .i64 0,.string ⟨#[]⟩,.string ⟨#[]⟩,.string ⟨#[]⟩,.slice none 0 0,.string ⟨#[]⟩,.int .i64 0,.int .i64 0,.string ⟨#[]⟩]) (by simp [Value.oneCell']);clear m1 k1 X1))
 have XR:=X1s.out.nr.sets (cs:=[.int .i64 3,.int .i64 0,.int .i64 n1,.int .i64 0,.int .i64 0,.int .i64 0,.string ⟨#[]⟩,.string ⟨#[]⟩,.string ⟨#[]⟩,.string ⟨#[]⟩,.string ⟨#[]⟩,.slice none 0 0,.string ⟨#[]⟩,.int .i64 0,.slice none 0 0,.int .i64 0,.int .i64 0,.string ⟨#[]⟩,.string ⟨#[]⟩,.string ⟨#[]⟩,.int .i64 0,.bool false,.int .i64 0,.int .i64 0,.int .i64 0,.string ⟨#[]⟩,.string ⟨#[]⟩,.string ⟨#[]⟩,.slice none 0 0,.string ⟨#[]⟩,.int .i64 0,.int .i64 0,.string ⟨#[]⟩]) rfl
 refine bodyPost_ret (results_cell rfl _ rfl (lv_row (T:=43) Tryz.underlying43 (by kernel_rfl) XR.res rfl)) rfl ?_
 exact ⟨XR.kw,_,rfl,actN_plain HB.out rfl rfl rfl,XR.ds⟩
theorem actN_drop (f:ByteArray) (W:Ws) (d:Bool) (W0:Ws) (d0:Bool) (q0:wordD W d=(f,W0,d0)) (h0:eqS f b_tick=false) (h1:eqS f b_world=false) (h2:eqS f b_start=false) (h3:eqS f b_deliver=false) (h:eqS f b_drop=true) (b p:Nat) (w:World) (hl:LnS w b p W d):Calls Tryz.prog 21 #[.pointer (some ⟨b,0,none⟩)] w (RdN b p w (ActN b w.heap.size) (actD W d)):=by
 obtain ⟨n1,W1,d1,q1⟩:∃ a c e,numD W0 d0=(a,c,e):=⟨_,_,_,rfl⟩
 have H1:=gH (lnum_at (b:=b) (p:=p) q1)
 have e:actD W d=({ zAct with kind:=4,n:=n1 },W1,d1):=by simp [actD,threeD,chgD,bindD,q0,q1,h0,h1,h2,h3,h]
 rw [e]
 have H0:=gH (lword_at (b:=b) (p:=p) q0)
 have ih0:=eqS_as h0
 unfold b_tick at ih0
 simp only at ih0
 have ih1:=eqS_as h1
 unfold b_world at ih1
 simp only at ih1
 have ih2:=eqS_as h2
 unfold b_start at ih2
 simp only at ih2
 have ih3:=eqS_as h3
 unfold b_deliver at ih3
 simp only at ih3
 have ih:=eqS_as h
 unfold b_drop at ih
 simp only at ih
 have HX0:=gH (Nx.start2 hl z33 z33 43 43)
 have hb:=hl.lt
 have HB:=gH hb
 clear e hl q0 q1 h0 h1 h2 h3 h
 go_enter Tryz.func21,Tryz.ntmps21
 go_wp2_with (first
  | (go_at_call 32;with_reducible refine (H0.out _ HX0.out.nr.ds).mono ?_;rintro e w0 ⟨rfl,g0,l0,k0⟩;have X1:=HX0.out.call k0 l0;obtain ⟨ca0,fa0⟩:=X1.cf 0 (by simp);obtain ⟨cc0,fc0⟩:=X1.cf 22 (by simp);have hxb:=X1.xb;have hbx:=X1.bx;have z0:=X1.lt;obtain ⟨z00,z01,z02⟩:=z0;have X0s:Nx b p w.heap.size (w.heap.size+1) w _ _ _ z33 [.int .i64 4,.int .i64 0,.int .i64 0,.int .i64 0,.int .i64 0,.int .i64 0,.string ⟨#[]⟩,.string ⟨#[]⟩,.string ⟨#[]⟩,.string ⟨#[]⟩,.string ⟨#[]⟩,.slice none 0 0,.string ⟨#[]⟩,.int .i64 0,.slice none 0 0,.int .i64 0,.int .i64 0,.string ⟨#[]⟩,.string ⟨#[]⟩,.string ⟨#[]⟩,.int .i64 0,.bool false,.int .i64 0,.int .i64 0,.int .i64 0,.string ⟨#[]⟩,.string ⟨#[]⟩,.string ⟨#[]⟩,.slice none 0 0,.string ⟨#[]⟩,.int .i64 0,.int .i64 0,.string ⟨#[]⟩]:=X1.set 0 (.int .i64 4) (by simp);have X0s:=gH X0s;clear l0 k0 X1)
  | (go_at_call 33;with_reducible refine (H1.out _ X0s.out.nr.ds).mono ?_;rintro e w1 ⟨rfl,m1,k1⟩;have X1:=X0s.out.call k1 m1;obtain ⟨ca1,fa1⟩:=X1.cf 2 (by simp);obtain ⟨cc1,fc1⟩:=X1.cf 22 (by simp);have z1:=X1.lt;obtain ⟨z10,z11,z12⟩:=z1;have X1s:Nx b p w.heap.size (w.heap.size+1) w _ _ _ z33 [.int .i64 4,.int .i64 0,.int .i64 n1,.int .i64 0,.int .i64 0,.int .i64 0,.string ⟨#[]⟩,.string ⟨#[]⟩,.string ⟨#[]⟩,.string ⟨#[]⟩,.string ⟨#[]⟩,.slice none 0 0,.string ⟨#[]⟩,.int .i64 0,.slice none 0 0,.int .i64 0,.int .i64 0,.string ⟨#[]⟩,.string ⟨#[]⟩,.string ⟨#[]⟩,.int .i64 0,.bool false,.int .i64 0,.int .i64 0,.int .i64 0,.string ⟨#[]⟩,.string ⟨#[]⟩,.string ⟨#[]⟩,.slice none 0 0,.string ⟨#[]⟩,.int .i64 0,.int .i64 0,.string ⟨#[]⟩]:=X1.set 2 (.int .i64 n1) (by simp);have X1s:=gH X1s;have e1:=lvAct_row X1s.out.row rfl;have e2:=svAct_row X1s.out.nr.res rfl rfl (vs:=[.int .i64 4,.int .i64 0,.int .i64 n1,.int .i64 0,.int .i64 0,.int .i64 0,.string ⟨#[]⟩,.string ⟨#[]⟩,.string ⟨#[]⟩,.string ⟨#[]⟩,.string ⟨#[]⟩,.slice none 0 0,.string ⟨#[]⟩,.int .i64 0,.slice none 0 0,.int .i64 0,.int .i64 0,.string ⟨#[]⟩,.string ⟨#[]⟩,.string ⟨#[]⟩,.int .i64 0,.bool false,.int .i64 0,.int .i64 0,.int .i64 0,.string ⟨#[]⟩,.string ⟨#[]⟩,.string ⟨#[]⟩,.slice none 0 0,.string ⟨#[]⟩,.int .i64 0,.int .i64 0,.string ⟨#[]⟩]) (by simp [Value.oneCell']);clear m1 k1 X1))
 have XR:=X1s.out.nr.sets (cs:=[.int .i64 4,.int .i64 0,.int .i64 n1,.int .i64 0,.int .i64 0,.int .i64 0,.string ⟨#[]⟩,.string ⟨#[]⟩,.string ⟨#[]⟩,.string ⟨#[]⟩,.string ⟨#[]⟩,.slice none 0 0,.string ⟨#[]⟩,.int .i64 0,.slice none 0 0,.int .i64 0,.int .i64 0,.string ⟨#[]⟩,.string ⟨#[]⟩,.string ⟨#[]⟩,.int .i64 0,.bool false,.int .i64 0,.int .i64 0,.int .i64 0,.string ⟨#[]⟩,.string ⟨#[]⟩,.string ⟨#[]⟩,.slice none 0 0,.string ⟨#[]⟩,.int .i64 0,.int .i64 0,.string ⟨#[]⟩]) rfl
 refine bodyPost_ret (results_cell rfl _ rfl (lv_row (T:=43) Tryz.underlying43 (by kernel_rfl) XR.res rfl)) rfl ?_
 exact ⟨XR.kw,_,rfl,actN_plain HB.out rfl rfl rfl,XR.ds⟩
theorem actN_double (f:ByteArray) (W:Ws) (d:Bool) (W0:Ws) (d0:Bool) (q0:wordD W d=(f,W0,d0)) (h0:eqS f b_tick=false) (h1:eqS f b_world=false) (h2:eqS f b_start=false) (h3:eqS f b_deliver=false) (h4:eqS f b_drop=false) (h:eqS f b_double=true) (b p:Nat) (w:World) (hl:LnS w b p W d):Calls Tryz.prog 21 #[.pointer (some ⟨b,0,none⟩)] w (RdN b p w (ActN b w.heap.size) (actD W d)):=by
 obtain ⟨n1,W1,d1,q1⟩:∃ a c e,numD W0 d0=(a,c,e):=⟨_,_,_,rfl⟩
 have H1:=gH (lnum_at (b:=b) (p:=p) q1)
 have e:actD W d=({ zAct with kind:=5,n:=n1 },W1,d1):=by simp [actD,threeD,chgD,bindD,q0,q1,h0,h1,h2,h3,h4,h]
 rw [e]
 have H0:=gH (lword_at (b:=b) (p:=p) q0)
 have ih0:=eqS_as h0
 unfold b_tick at ih0
 simp only at ih0
 have ih1:=eqS_as h1
 unfold b_world at ih1
 simp only at ih1
 have ih2:=eqS_as h2
 unfold b_start at ih2
 simp only at ih2
 have ih3:=eqS_as h3
 unfold b_deliver at ih3
 simp only at ih3
 have ih4:=eqS_as h4
 unfold b_drop at ih4
 simp only at ih4
 have ih:=eqS_as h
 unfold b_double at ih
 simp only at ih
 have HX0:=gH (Nx.start2 hl z33 z33 43 43)
 have hb:=hl.lt
 have HB:=gH hb
 clear e hl q0 q1 h0 h1 h2 h3 h4 h
 go_enter Tryz.func21,Tryz.ntmps21
 go_wp2_with (first
  | (go_at_call 32;with_reducible refine (H0.out _ HX0.out.nr.ds).mono ?_;rintro e w0 ⟨rfl,g0,l0,k0⟩;have X1:=HX0.out.call k0 l0;obtain ⟨ca0,fa0⟩:=X1.cf 0 (by simp);obtain ⟨cc0,fc0⟩:=X1.cf 22 (by simp);have hxb:=X1.xb;have hbx:=X1.bx;have z0:=X1.lt;obtain ⟨z00,z01,z02⟩:=z0;have X0s:Nx b p w.heap.size (w.heap.size+1) w _ _ _ z33 [.int .i64 5,.int .i64 0,.int .i64 0,.int .i64 0,.int .i64 0,.int .i64 0,.string ⟨#[]⟩,.string ⟨#[]⟩,.string ⟨#[]⟩,.string ⟨#[]⟩,.string ⟨#[]⟩,.slice none 0 0,.string ⟨#[]⟩,.int .i64 0,.slice none 0 0,.int .i64 0,.int .i64 0,.string ⟨#[]⟩,.string ⟨#[]⟩,.string ⟨#[]⟩,.int .i64 0,.bool false,.int .i64 0,.int .i64 0,.int .i64 0,.string ⟨#[]⟩,.string ⟨#[]⟩,.string ⟨#[]⟩,.slice none 0 0,.string ⟨#[]⟩,.int .i64 0,.int .i64 0,.string ⟨#[]⟩]:=X1.set 0 (.int .i64 5) (by simp);have X0s:=gH X0s;clear l0 k0 X1)
  | (go_at_call 33;with_reducible refine (H1.out _ X0s.out.nr.ds).mono ?_;rintro e w1 ⟨rfl,m1,k1⟩;have X1:=X0s.out.call k1 m1;obtain ⟨ca1,fa1⟩:=X1.cf 2 (by simp);obtain ⟨cc1,fc1⟩:=X1.cf 22 (by simp);have z1:=X1.lt;obtain ⟨z10,z11,z12⟩:=z1;have X1s:Nx b p w.heap.size (w.heap.size+1) w _ _ _ z33 [.int .i64 5,.int .i64 0,.int .i64 n1,.int .i64 0,.int .i64 0,.int .i64 0,.string ⟨#[]⟩,.string ⟨#[]⟩,.string ⟨#[]⟩,.string ⟨#[]⟩,.string ⟨#[]⟩,.slice none 0 0,.string ⟨#[]⟩,.int .i64 0,.slice none 0 0,.int .i64 0,.int .i64 0,.string ⟨#[]⟩,.string ⟨#[]⟩,.string ⟨#[]⟩,.int .i64 0,.bool false,.int .i64 0,.int .i64 0,.int .i64 0,.string ⟨#[]⟩,.string ⟨#[]⟩,.string ⟨#[]⟩,.slice none 0 0,.string ⟨#[]⟩,.int .i64 0,.int .i64 0,.string ⟨#[]⟩]:=X1.set 2 (.int .i64 n1) (by simp);have X1s:=gH X1s;have e1:=lvAct_row X1s.out.row rfl;have e2:=svAct_row X1s.out.nr.res rfl rfl (vs:=[.int .i64 5,.int .i64 0,.int .i64 n1,.int .i64 0,.int .i64 0,.int .i64 0,.string ⟨#[]⟩,.string ⟨#[]⟩,.string ⟨#[]⟩,.string ⟨#[]⟩,.string ⟨#[]⟩,.slice none 0 0,.string ⟨#[]⟩,.int .i64 0,.slice none 0 0,.int .i64 0,.int .i64 0,.string ⟨#[]⟩,.string ⟨#[]⟩,.string ⟨#[]⟩,.int .i64 0,.bool false,.int .i64 0,.int .i64 0,.int .i64 0,.string ⟨#[]⟩,.string ⟨#[]⟩,.string ⟨#[]⟩,.slice none 0 0,.string ⟨#[]⟩,.int .i64 0,.int .i64 0,.string ⟨#[]⟩]) (by simp [Value.oneCell']);clear m1 k1 X1))
 have XR:=X1s.out.nr.sets (cs:=[.int .i64 5,.int .i64 0,.int .i64 n1,.int .i64 0,.int .i64 0,.int .i64 0,.string ⟨#[]⟩,.string ⟨#[]⟩,.string ⟨#[]⟩,.string ⟨#[]⟩,.string ⟨#[]⟩,.slice none 0 0,.string ⟨#[]⟩,.int .i64 0,.slice none 0 0,.int .i64 0,.int .i64 0,.string ⟨#[]⟩,.string ⟨#[]⟩,.string ⟨#[]⟩,.int .i64 0,.bool false,.int .i64 0,.int .i64 0,.int .i64 0,.string ⟨#[]⟩,.string ⟨#[]⟩,.string ⟨#[]⟩,.slice none 0 0,.string ⟨#[]⟩,.int .i64 0,.int .i64 0,.string ⟨#[]⟩]) rfl
 refine bodyPost_ret (results_cell rfl _ rfl (lv_row (T:=43) Tryz.underlying43 (by kernel_rfl) XR.res rfl)) rfl ?_
 exact ⟨XR.kw,_,rfl,actN_plain HB.out rfl rfl rfl,XR.ds⟩
theorem actN_read (f:ByteArray) (W:Ws) (d:Bool) (W0:Ws) (d0:Bool) (q0:wordD W d=(f,W0,d0)) (h0:eqS f b_tick=false) (h1:eqS f b_world=false) (h2:eqS f b_start=false) (h3:eqS f b_deliver=false) (h4:eqS f b_drop=false) (h5:eqS f b_double=false) (h6:eqS f b_ask=false) (h:eqS f b_read=true) (b p:Nat) (w:World) (hl:LnS w b p W d):Calls Tryz.prog 21 #[.pointer (some ⟨b,0,none⟩)] w (RdN b p w (ActN b w.heap.size) (actD W d)):=by
 obtain ⟨n1,W1,d1,q1⟩:∃ a c e,numD W0 d0=(a,c,e):=⟨_,_,_,rfl⟩
 have H1:=gH (lnum_at (b:=b) (p:=p) q1)
 obtain ⟨n2,W2,d2,q2⟩:∃ a c e,numD W1 d1=(a,c,e):=⟨_,_,_,rfl⟩
 have H2:=gH (lnum_at (b:=b) (p:=p) q2)
 obtain ⟨n3,W3,d3,q3⟩:∃ a c e,numD W2 d2=(a,c,e):=⟨_,_,_,rfl⟩
 have H3:=gH (lnum_at (b:=b) (p:=p) q3)
 have e:actD W d=({ zAct with kind:=7,node:=n1,client:=n2,number:=n3 },W3,d3):=by simp [actD,threeD,chgD,bindD,q0,q1,q2,q3,h0,h1,h2,h3,h4,h5,h6,h]
 rw [e]
 have H0:=gH (lword_at (b:=b) (p:=p) q0)
 have ih0:=eqS_as h0
 unfold b_tick at ih0
 simp only at ih0
 have ih1:=eqS_as h1
 unfold b_world at ih1
 simp only at ih1
 have ih2:=eqS_as h2
 unfold b_start at ih2
 simp only at ih2
 have ih3:=eqS_as h3
 unfold b_deliver at ih3
 simp only at ih3
 have ih4:=eqS_as h4
 unfold b_drop at ih4
 simp only at ih4
 have ih5:=eqS_as h5
 unfold b_double at ih5
 simp only at ih5
 have ih6:=eqS_as h6
 unfold b_ask at ih6
 simp only at ih6
 have ih:=eqS_as h
 unfold b_read at ih
 simp only at ih
 have HX0:=gH (Nx.start2 hl z33 z33 43 43)
 have hb:=hl.lt
 have HB:=gH hb
 clear e hl q0 q1 q2 q3 h0 h1 h2 h3 h4 h5 h6 h
 go_enter Tryz.func21,Tryz.ntmps21
 go_wp2_with (first
  | (go_at_call 32;with_reducible refine (H0.out _ HX0.out.nr.ds).mono ?_;rintro e w0 ⟨rfl,g0,l0,k0⟩;have X1:=HX0.out.call k0 l0;obtain ⟨ca0,fa0⟩:=X1.cf 0 (by simp);obtain ⟨cc0,fc0⟩:=X1.cf 22 (by simp);have hxb:=X1.xb;have hbx:=X1.bx;have z0:=X1.lt;obtain ⟨z00,z01,z02⟩:=z0;have X0s:Nx b p w.heap.size (w.heap.size+1) w _ _ _ z33 [.int .i64 7,.int .i64 0,.int .i64 0,.int .i64 0,.int .i64 0,.int .i64 0,.string ⟨#[]⟩,.string ⟨#[]⟩,.string ⟨#[]⟩,.string ⟨#[]⟩,.string ⟨#[]⟩,.slice none 0 0,.string ⟨#[]⟩,.int .i64 0,.slice none 0 0,.int .i64 0,.int .i64 0,.string ⟨#[]⟩,.string ⟨#[]⟩,.string ⟨#[]⟩,.int .i64 0,.bool false,.int .i64 0,.int .i64 0,.int .i64 0,.string ⟨#[]⟩,.string ⟨#[]⟩,.string ⟨#[]⟩,.slice none 0 0,.string ⟨#[]⟩,.int .i64 0,.int .i64 0,.string ⟨#[]⟩]:=X1.set 0 (.int .i64 7) (by simp);have X0s:=gH X0s;clear l0 k0 X1)
  | (go_at_call 33;with_reducible refine (H1.out _ X0s.out.nr.ds).mono ?_;rintro e w1 ⟨rfl,m1,k1⟩;have X1:=X0s.out.call k1 m1;obtain ⟨ca1,fa1⟩:=X1.cf 1 (by simp);obtain ⟨cc1,fc1⟩:=X1.cf 22 (by simp);have z1:=X1.lt;obtain ⟨z10,z11,z12⟩:=z1;have X1s:Nx b p w.heap.size (w.heap.size+1) w _ _ _ z33 [.int .i64 7,.int .i64 n1,.int .i64 0,.int .i64 0,.int .i64 0,.int .i64 0,.string ⟨#[]⟩,.string ⟨#[]⟩,.string ⟨#[]⟩,.string ⟨#[]⟩,.string ⟨#[]⟩,.slice none 0 0,.string ⟨#[]⟩,.int .i64 0,.slice none 0 0,.int .i64 0,.int .i64 0,.string ⟨#[]⟩,.string ⟨#[]⟩,.string ⟨#[]⟩,.int .i64 0,.bool false,.int .i64 0,.int .i64 0,.int .i64 0,.string ⟨#[]⟩,.string ⟨#[]⟩,.string ⟨#[]⟩,.slice none 0 0,.string ⟨#[]⟩,.int .i64 0,.int .i64 0,.string ⟨#[]⟩]:=X1.set 1 (.int .i64 n1) (by simp);have X1s:=gH X1s;clear m1 k1 X1)
  | (go_at_call 33;with_reducible refine (H2.out _ X1s.out.nr.ds).mono ?_;rintro e w2 ⟨rfl,m2,k2⟩;have X2:=X1s.out.call k2 m2;obtain ⟨ca2,fa2⟩:=X2.cf 3 (by simp);obtain ⟨cc2,fc2⟩:=X2.cf 22 (by simp);have z2:=X2.lt;obtain ⟨z20,z21,z22⟩:=z2;have X2s:Nx b p w.heap.size (w.heap.size+1) w _ _ _ z33 [.int .i64 7,.int .i64 n1,.int .i64 0,.int .i64 n2,.int .i64 0,.int .i64 0,.string ⟨#[]⟩,.string ⟨#[]⟩,.string ⟨#[]⟩,.string ⟨#[]⟩,.string ⟨#[]⟩,.slice none 0 0,.string ⟨#[]⟩,.int .i64 0,.slice none 0 0,.int .i64 0,.int .i64 0,.string ⟨#[]⟩,.string ⟨#[]⟩,.string ⟨#[]⟩,.int .i64 0,.bool false,.int .i64 0,.int .i64 0,.int .i64 0,.string ⟨#[]⟩,.string ⟨#[]⟩,.string ⟨#[]⟩,.slice none 0 0,.string ⟨#[]⟩,.int .i64 0,.int .i64 0,.string ⟨#[]⟩]:=X2.set 3 (.int .i64 n2) (by simp);have X2s:=gH X2s;clear m2 k2 X2)
  | (go_at_call 33;with_reducible refine (H3.out _ X2s.out.nr.ds).mono ?_;rintro e w3 ⟨rfl,m3,k3⟩;have X3:=X2s.out.call k3 m3;obtain ⟨ca3,fa3⟩:=X3.cf 4 (by simp);obtain ⟨cc3,fc3⟩:=X3.cf 22 (by simp);have z3:=X3.lt;obtain ⟨z30,z31,z32⟩:=z3;have X3s:Nx b p w.heap.size (w.heap.size+1) w _ _ _ z33 [.int .i64 7,.int .i64 n1,.int .i64 0,.int .i64 n2,.int .i64 n3,.int .i64 0,.string ⟨#[]⟩,.string ⟨#[]⟩,.string ⟨#[]⟩,.string ⟨#[]⟩,.string ⟨#[]⟩,.slice none 0 0,.string ⟨#[]⟩,.int .i64 0,.slice none 0 0,.int .i64 0,.int .i64 0,.string ⟨#[]⟩,.string ⟨#[]⟩,.string ⟨#[]⟩,.int .i64 0,.bool false,.int .i64 0,.int .i64 0,.int .i64 0,.string ⟨#[]⟩,.string ⟨#[]⟩,.string ⟨#[]⟩,.slice none 0 0,.string ⟨#[]⟩,.int .i64 0,.int .i64 0,.string ⟨#[]⟩]:=X3.set 4 (.int .i64 n3) (by simp);have X3s:=gH X3s;have e1:=lvAct_row X3s.out.row rfl;have e2:=svAct_row X3s.out.nr.res rfl rfl (vs:=[.int .i64 7,.int .i64 n1,.int .i64 0,.int .i64 n2,.int .i64 n3,.int .i64 0,.string ⟨#[]⟩,.string ⟨#[]⟩,.string ⟨#[]⟩,.string ⟨#[]⟩,.string ⟨#[]⟩,.slice none 0 0,.string ⟨#[]⟩,.int .i64 0,.slice none 0 0,.int .i64 0,.int .i64 0,.string ⟨#[]⟩,.string ⟨#[]⟩,.string ⟨#[]⟩,.int .i64 0,.bool false,.int .i64 0,.int .i64 0,.int .i64 0,.string ⟨#[]⟩,.string ⟨#[]⟩,.string ⟨#[]⟩,.slice none 0 0,.string ⟨#[]⟩,.int .i64 0,.int .i64 0,.string ⟨#[]⟩]) (by simp [Value.oneCell']);clear m3 k3 X3))
 have XR:=X3s.out.nr.sets (cs:=[.int .i64 7,.int .i64 n1,.int .i64 0,.int .i64 n2,.int .i64 n3,.int .i64 0,.string ⟨#[]⟩,.string ⟨#[]⟩,.string ⟨#[]⟩,.string ⟨#[]⟩,.string ⟨#[]⟩,.slice none 0 0,.string ⟨#[]⟩,.int .i64 0,.slice none 0 0,.int .i64 0,.int .i64 0,.string ⟨#[]⟩,.string ⟨#[]⟩,.string ⟨#[]⟩,.int .i64 0,.bool false,.int .i64 0,.int .i64 0,.int .i64 0,.string ⟨#[]⟩,.string ⟨#[]⟩,.string ⟨#[]⟩,.slice none 0 0,.string ⟨#[]⟩,.int .i64 0,.int .i64 0,.string ⟨#[]⟩]) rfl
 refine bodyPost_ret (results_cell rfl _ rfl (lv_row (T:=43) Tryz.underlying43 (by kernel_rfl) XR.res rfl)) rfl ?_
 exact ⟨XR.kw,_,rfl,actN_plain HB.out rfl rfl rfl,XR.ds⟩
theorem actN_lease (f:ByteArray) (W:Ws) (d:Bool) (W0:Ws) (d0:Bool) (q0:wordD W d=(f,W0,d0)) (h0:eqS f b_tick=false) (h1:eqS f b_world=false) (h2:eqS f b_start=false) (h3:eqS f b_deliver=false) (h4:eqS f b_drop=false) (h5:eqS f b_double=false) (h6:eqS f b_ask=false) (h7:eqS f b_read=false) (h8:eqS f b_learner=false) (h9:eqS f b_voter=false) (h10:eqS f b_remove=false) (h:eqS f b_lease=true) (b p:Nat) (w:World) (hl:LnS w b p W d):Calls Tryz.prog 21 #[.pointer (some ⟨b,0,none⟩)] w (RdN b p w (ActN b w.heap.size) (actD W d)):=by
 obtain ⟨n1,W1,d1,q1⟩:∃ a c e,numD W0 d0=(a,c,e):=⟨_,_,_,rfl⟩
 have H1:=gH (lnum_at (b:=b) (p:=p) q1)
 obtain ⟨n2,W2,d2,q2⟩:∃ a c e,numD W1 d1=(a,c,e):=⟨_,_,_,rfl⟩
 have H2:=gH (lnum_at (b:=b) (p:=p) q2)
 have e:actD W d=({ zAct with kind:=9,n:=n1,node:=n2 },W2,d2):=by simp [actD,threeD,chgD,bindD,q0,q1,q2,h0,h1,h2,h3,h4,h5,h6,h7,h8,h9,h10,h]
 rw [e]
 have H0:=gH (lword_at (b:=b) (p:=p) q0)
 have ih0:=eqS_as h0
 unfold b_tick at ih0
 simp only at ih0
 have ih1:=eqS_as h1
 unfold b_world at ih1
 simp only at ih1
 have ih2:=eqS_as h2
 unfold b_start at ih2
 simp only at ih2
 have ih3:=eqS_as h3
 unfold b_deliver at ih3
 simp only at ih3
 have ih4:=eqS_as h4
 unfold b_drop at ih4
 simp only at ih4
 have ih5:=eqS_as h5
 unfold b_double at ih5
 simp only at ih5
 have ih6:=eqS_as h6
 unfold b_ask at ih6
 simp only at ih6
 have ih7:=eqS_as h7
 unfold b_read at ih7
 simp only at ih7
 have ih8:=eqS_as h8
 unfold b_learner at ih8
 simp only at ih8
 have ih9:=eqS_as h9
 unfold b_voter at ih9
 simp only at ih9
 have ih10:=eqS_as h10
 unfold b_remove at ih10
 simp only at ih10
 have ih:=eqS_as h
 unfold b_lease at ih
 simp only at ih
 have HX0:=gH (Nx.start2 hl z33 z33 43 43)
 have hb:=hl.lt
 have HB:=gH hb
 clear e hl q0 q1 q2 h0 h1 h2 h3 h4 h5 h6 h7 h8 h9 h10 h
 go_enter Tryz.func21,Tryz.ntmps21
 go_wp2_with (first
  | (go_at_call 32;with_reducible refine (H0.out _ HX0.out.nr.ds).mono ?_;rintro e w0 ⟨rfl,g0,l0,k0⟩;have X1:=HX0.out.call k0 l0;obtain ⟨ca0,fa0⟩:=X1.cf 0 (by simp);obtain ⟨cc0,fc0⟩:=X1.cf 22 (by simp);have hxb:=X1.xb;have hbx:=X1.bx;have z0:=X1.lt;obtain ⟨z00,z01,z02⟩:=z0;have X0s:Nx b p w.heap.size (w.heap.size+1) w _ _ _ z33 [.int .i64 9,.int .i64 0,.int .i64 0,.int .i64 0,.int .i64 0,.int .i64 0,.string ⟨#[]⟩,.string ⟨#[]⟩,.string ⟨#[]⟩,.string ⟨#[]⟩,.string ⟨#[]⟩,.slice none 0 0,.string ⟨#[]⟩,.int .i64 0,.slice none 0 0,.int .i64 0,.int .i64 0,.string ⟨#[]⟩,.string ⟨#[]⟩,.string ⟨#[]⟩,.int .i64 0,.bool false,.int .i64 0,.int .i64 0,.int .i64 0,.string ⟨#[]⟩,.string ⟨#[]⟩,.string ⟨#[]⟩,.slice none 0 0,.string ⟨#[]⟩,.int .i64 0,.int .i64 0,.string ⟨#[]⟩]:=X1.set 0 (.int .i64 9) (by simp);have X0s:=gH X0s;clear l0 k0 X1)
  | (go_at_call 33;with_reducible refine (H1.out _ X0s.out.nr.ds).mono ?_;rintro e w1 ⟨rfl,m1,k1⟩;have X1:=X0s.out.call k1 m1;obtain ⟨ca1,fa1⟩:=X1.cf 2 (by simp);obtain ⟨cc1,fc1⟩:=X1.cf 22 (by simp);have z1:=X1.lt;obtain ⟨z10,z11,z12⟩:=z1;have X1s:Nx b p w.heap.size (w.heap.size+1) w _ _ _ z33 [.int .i64 9,.int .i64 0,.int .i64 n1,.int .i64 0,.int .i64 0,.int .i64 0,.string ⟨#[]⟩,.string ⟨#[]⟩,.string ⟨#[]⟩,.string ⟨#[]⟩,.string ⟨#[]⟩,.slice none 0 0,.string ⟨#[]⟩,.int .i64 0,.slice none 0 0,.int .i64 0,.int .i64 0,.string ⟨#[]⟩,.string ⟨#[]⟩,.string ⟨#[]⟩,.int .i64 0,.bool false,.int .i64 0,.int .i64 0,.int .i64 0,.string ⟨#[]⟩,.string ⟨#[]⟩,.string ⟨#[]⟩,.slice none 0 0,.string ⟨#[]⟩,.int .i64 0,.int .i64 0,.string ⟨#[]⟩]:=X1.set 2 (.int .i64 n1) (by simp);have X1s:=gH X1s;clear m1 k1 X1)
  | (go_at_call 33;with_reducible refine (H2.out _ X1s.out.nr.ds).mono ?_;rintro e w2 ⟨rfl,m2,k2⟩;have X2:=X1s.out.call k2 m2;obtain ⟨ca2,fa2⟩:=X2.cf 1 (by simp);obtain ⟨cc2,fc2⟩:=X2.cf 22 (by simp);have z2:=X2.lt;obtain ⟨z20,z21,z22⟩:=z2;have X2s:Nx b p w.heap.size (w.heap.size+1) w _ _ _ z33 [.int .i64 9,.int .i64 n2,.int .i64 n1,.int .i64 0,.int .i64 0,.int .i64 0,.string ⟨#[]⟩,.string ⟨#[]⟩,.string ⟨#[]⟩,.string ⟨#[]⟩,.string ⟨#[]⟩,.slice none 0 0,.string ⟨#[]⟩,.int .i64 0,.slice none 0 0,.int .i64 0,.int .i64 0,.string ⟨#[]⟩,.string ⟨#[]⟩,.string ⟨#[]⟩,.int .i64 0,.bool false,.int .i64 0,.int .i64 0,.int .i64 0,.string ⟨#[]⟩,.string ⟨#[]⟩,.string ⟨#[]⟩,.slice none 0 0,.string ⟨#[]⟩,.int .i64 0,.int .i64 0,.string ⟨#[]⟩]:=X2.set 1 (.int .i64 n2) (by simp);have X2s:=gH X2s;have e1:=lvAct_row X2s.out.row rfl;have e2:=svAct_row X2s.out.nr.res rfl rfl (vs:=[.int .i64 9,.int .i64 n2,.int .i64 n1,.int .i64 0,.int .i64 0,.int .i64 0,.string ⟨#[]⟩,.string ⟨#[]⟩,.string ⟨#[]⟩,.string ⟨#[]⟩,.string ⟨#[]⟩,.slice none 0 0,.string ⟨#[]⟩,.int .i64 0,.slice none 0 0,.int .i64 0,.int .i64 0,.string ⟨#[]⟩,.string ⟨#[]⟩,.string ⟨#[]⟩,.int .i64 0,.bool false,.int .i64 0,.int .i64 0,.int .i64 0,.string ⟨#[]⟩,.string ⟨#[]⟩,.string ⟨#[]⟩,.slice none 0 0,.string ⟨#[]⟩,.int .i64 0,.int .i64 0,.string ⟨#[]⟩]) (by simp [Value.oneCell']);clear m2 k2 X2))
 have XR:=X2s.out.nr.sets (cs:=[.int .i64 9,.int .i64 n2,.int .i64 n1,.int .i64 0,.int .i64 0,.int .i64 0,.string ⟨#[]⟩,.string ⟨#[]⟩,.string ⟨#[]⟩,.string ⟨#[]⟩,.string ⟨#[]⟩,.slice none 0 0,.string ⟨#[]⟩,.int .i64 0,.slice none 0 0,.int .i64 0,.int .i64 0,.string ⟨#[]⟩,.string ⟨#[]⟩,.string ⟨#[]⟩,.int .i64 0,.bool false,.int .i64 0,.int .i64 0,.int .i64 0,.string ⟨#[]⟩,.string ⟨#[]⟩,.string ⟨#[]⟩,.slice none 0 0,.string ⟨#[]⟩,.int .i64 0,.int .i64 0,.string ⟨#[]⟩]) rfl
 refine bodyPost_ret (results_cell rfl _ rfl (lv_row (T:=43) Tryz.underlying43 (by kernel_rfl) XR.res rfl)) rfl ?_
 exact ⟨XR.kw,_,rfl,actN_plain HB.out rfl rfl rfl,XR.ds⟩
theorem actN_crash (f:ByteArray) (W:Ws) (d:Bool) (W0:Ws) (d0:Bool) (q0:wordD W d=(f,W0,d0)) (h0:eqS f b_tick=false) (h1:eqS f b_world=false) (h2:eqS f b_start=false) (h3:eqS f b_deliver=false) (h4:eqS f b_drop=false) (h5:eqS f b_double=false) (h6:eqS f b_ask=false) (h7:eqS f b_read=false) (h8:eqS f b_learner=false) (h9:eqS f b_voter=false) (h10:eqS f b_remove=false) (h11:eqS f b_lease=false) (h12:eqS f b_row=false) (h:eqS f b_crash=true) (b p:Nat) (w:World) (hl:LnS w b p W d):Calls Tryz.prog 21 #[.pointer (some ⟨b,0,none⟩)] w (RdN b p w (ActN b w.heap.size) (actD W d)):=by
 obtain ⟨n1,W1,d1,q1⟩:∃ a c e,numD W0 d0=(a,c,e):=⟨_,_,_,rfl⟩
 have H1:=gH (lnum_at (b:=b) (p:=p) q1)
 obtain ⟨n2,W2,d2,q2⟩:∃ a c e,numD W1 d1=(a,c,e):=⟨_,_,_,rfl⟩
 have H2:=gH (lnum_at (b:=b) (p:=p) q2)
 have e:actD W d=({ zAct with kind:=11,node:=n1,n:=n2 },W2,d2):=by simp [actD,threeD,chgD,bindD,q0,q1,q2,h0,h1,h2,h3,h4,h5,h6,h7,h8,h9,h10,h11,h12,h]
 rw [e]
 have H0:=gH (lword_at (b:=b) (p:=p) q0)
 have ih0:=eqS_as h0
 unfold b_tick at ih0
 simp only at ih0
 have ih1:=eqS_as h1
 unfold b_world at ih1
 simp only at ih1
 have ih2:=eqS_as h2
 unfold b_start at ih2
 simp only at ih2
 have ih3:=eqS_as h3
 unfold b_deliver at ih3
 simp only at ih3
 have ih4:=eqS_as h4
 unfold b_drop at ih4
 simp only at ih4
 have ih5:=eqS_as h5
 unfold b_double at ih5
 simp only at ih5
 have ih6:=eqS_as h6
 unfold b_ask at ih6
 simp only at ih6
 have ih7:=eqS_as h7
 unfold b_read at ih7
 simp only at ih7
 have ih8:=eqS_as h8
 unfold b_learner at ih8
 simp only at ih8
 have ih9:=eqS_as h9
 unfold b_voter at ih9
 simp only at ih9
 have ih10:=eqS_as h10
 unfold b_remove at ih10
 simp only at ih10
 have ih11:=eqS_as h11
 unfold b_lease at ih11
 simp only at ih11
 have ih12:=eqS_as h12
 unfold b_row at ih12
 simp only at ih12
 have ih:=eqS_as h
 unfold b_crash at ih
 simp only at ih
 have HX0:=gH (Nx.start2 hl z33 z33 43 43)
 have hb:=hl.lt
 have HB:=gH hb
 clear e hl q0 q1 q2 h0 h1 h2 h3 h4 h5 h6 h7 h8 h9 h10 h11 h12 h
 go_enter Tryz.func21,Tryz.ntmps21
 go_wp2_with (first
  | (go_at_call 32;with_reducible refine (H0.out _ HX0.out.nr.ds).mono ?_;rintro e w0 ⟨rfl,g0,l0,k0⟩;have X1:=HX0.out.call k0 l0;obtain ⟨ca0,fa0⟩:=X1.cf 0 (by simp);obtain ⟨cc0,fc0⟩:=X1.cf 22 (by simp);have hxb:=X1.xb;have hbx:=X1.bx;have z0:=X1.lt;obtain ⟨z00,z01,z02⟩:=z0;have X0s:Nx b p w.heap.size (w.heap.size+1) w _ _ _ z33 [.int .i64 11,.int .i64 0,.int .i64 0,.int .i64 0,.int .i64 0,.int .i64 0,.string ⟨#[]⟩,.string ⟨#[]⟩,.string ⟨#[]⟩,.string ⟨#[]⟩,.string ⟨#[]⟩,.slice none 0 0,.string ⟨#[]⟩,.int .i64 0,.slice none 0 0,.int .i64 0,.int .i64 0,.string ⟨#[]⟩,.string ⟨#[]⟩,.string ⟨#[]⟩,.int .i64 0,.bool false,.int .i64 0,.int .i64 0,.int .i64 0,.string ⟨#[]⟩,.string ⟨#[]⟩,.string ⟨#[]⟩,.slice none 0 0,.string ⟨#[]⟩,.int .i64 0,.int .i64 0,.string ⟨#[]⟩]:=X1.set 0 (.int .i64 11) (by simp);have X0s:=gH X0s;clear l0 k0 X1)
  | (go_at_call 33;with_reducible refine (H1.out _ X0s.out.nr.ds).mono ?_;rintro e w1 ⟨rfl,m1,k1⟩;have X1:=X0s.out.call k1 m1;obtain ⟨ca1,fa1⟩:=X1.cf 1 (by simp);obtain ⟨cc1,fc1⟩:=X1.cf 22 (by simp);have z1:=X1.lt;obtain ⟨z10,z11,z12⟩:=z1;have X1s:Nx b p w.heap.size (w.heap.size+1) w _ _ _ z33 [.int .i64 11,.int .i64 n1,.int .i64 0,.int .i64 0,.int .i64 0,.int .i64 0,.string ⟨#[]⟩,.string ⟨#[]⟩,.string ⟨#[]⟩,.string ⟨#[]⟩,.string ⟨#[]⟩,.slice none 0 0,.string ⟨#[]⟩,.int .i64 0,.slice none 0 0,.int .i64 0,.int .i64 0,.string ⟨#[]⟩,.string ⟨#[]⟩,.string ⟨#[]⟩,.int .i64 0,.bool false,.int .i64 0,.int .i64 0,.int .i64 0,.string ⟨#[]⟩,.string ⟨#[]⟩,.string ⟨#[]⟩,.slice none 0 0,.string ⟨#[]⟩,.int .i64 0,.int .i64 0,.string ⟨#[]⟩]:=X1.set 1 (.int .i64 n1) (by simp);have X1s:=gH X1s;clear m1 k1 X1)
  | (go_at_call 33;with_reducible refine (H2.out _ X1s.out.nr.ds).mono ?_;rintro e w2 ⟨rfl,m2,k2⟩;have X2:=X1s.out.call k2 m2;obtain ⟨ca2,fa2⟩:=X2.cf 2 (by simp);obtain ⟨cc2,fc2⟩:=X2.cf 22 (by simp);have z2:=X2.lt;obtain ⟨z20,z21,z22⟩:=z2;have X2s:Nx b p w.heap.size (w.heap.size+1) w _ _ _ z33 [.int .i64 11,.int .i64 n1,.int .i64 n2,.int .i64 0,.int .i64 0,.int .i64 0,.string ⟨#[]⟩,.string ⟨#[]⟩,.string ⟨#[]⟩,.string ⟨#[]⟩,.string ⟨#[]⟩,.slice none 0 0,.string ⟨#[]⟩,.int .i64 0,.slice none 0 0,.int .i64 0,.int .i64 0,.string ⟨#[]⟩,.string ⟨#[]⟩,.string ⟨#[]⟩,.int .i64 0,.bool false,.int .i64 0,.int .i64 0,.int .i64 0,.string ⟨#[]⟩,.string ⟨#[]⟩,.string ⟨#[]⟩,.slice none 0 0,.string ⟨#[]⟩,.int .i64 0,.int .i64 0,.string ⟨#[]⟩]:=X2.set 2 (.int .i64 n2) (by simp);have X2s:=gH X2s;have e1:=lvAct_row X2s.out.row rfl;have e2:=svAct_row X2s.out.nr.res rfl rfl (vs:=[.int .i64 11,.int .i64 n1,.int .i64 n2,.int .i64 0,.int .i64 0,.int .i64 0,.string ⟨#[]⟩,.string ⟨#[]⟩,.string ⟨#[]⟩,.string ⟨#[]⟩,.string ⟨#[]⟩,.slice none 0 0,.string ⟨#[]⟩,.int .i64 0,.slice none 0 0,.int .i64 0,.int .i64 0,.string ⟨#[]⟩,.string ⟨#[]⟩,.string ⟨#[]⟩,.int .i64 0,.bool false,.int .i64 0,.int .i64 0,.int .i64 0,.string ⟨#[]⟩,.string ⟨#[]⟩,.string ⟨#[]⟩,.slice none 0 0,.string ⟨#[]⟩,.int .i64 0,.int .i64 0,.string ⟨#[]⟩]) (by simp [Value.oneCell']);clear m2 k2 X2))
 have XR:=X2s.out.nr.sets (cs:=[.int .i64 11,.int .i64 n1,.int .i64 n2,.int .i64 0,.int .i64 0,.int .i64 0,.string ⟨#[]⟩,.string ⟨#[]⟩,.string ⟨#[]⟩,.string ⟨#[]⟩,.string ⟨#[]⟩,.slice none 0 0,.string ⟨#[]⟩,.int .i64 0,.slice none 0 0,.int .i64 0,.int .i64 0,.string ⟨#[]⟩,.string ⟨#[]⟩,.string ⟨#[]⟩,.int .i64 0,.bool false,.int .i64 0,.int .i64 0,.int .i64 0,.string ⟨#[]⟩,.string ⟨#[]⟩,.string ⟨#[]⟩,.slice none 0 0,.string ⟨#[]⟩,.int .i64 0,.int .i64 0,.string ⟨#[]⟩]) rfl
 refine bodyPost_ret (results_cell rfl _ rfl (lv_row (T:=43) Tryz.underlying43 (by kernel_rfl) XR.res rfl)) rfl ?_
 exact ⟨XR.kw,_,rfl,actN_plain HB.out rfl rfl rfl,XR.ds⟩
theorem actN_learner (f:ByteArray) (W:Ws) (d:Bool) (W0:Ws) (d0:Bool) (q0:wordD W d=(f,W0,d0)) (h0:eqS f b_tick=false) (h1:eqS f b_world=false) (h2:eqS f b_start=false) (h3:eqS f b_deliver=false) (h4:eqS f b_drop=false) (h5:eqS f b_double=false) (h6:eqS f b_ask=false) (h7:eqS f b_read=false) (h:eqS f b_learner=true) (b p:Nat) (w:World) (hl:LnS w b p W d):Calls Tryz.prog 21 #[.pointer (some ⟨b,0,none⟩)] w (RdN b p w (ActN b w.heap.size) (actD W d)):=by
 obtain ⟨n1,W1,d1,q1⟩:∃ a c e,numD W0 d0=(a,c,e):=⟨_,_,_,rfl⟩
 have H1:=gH (lnum_at (b:=b) (p:=p) q1)
 obtain ⟨n2,W2,d2,q2⟩:∃ a c e,numD W1 d1=(a,c,e):=⟨_,_,_,rfl⟩
 have H2:=gH (lnum_at (b:=b) (p:=p) q2)
 have e:actD W d=({ zAct with kind:=8,node:=n1,cn:=n2,ck:=1 },W2,d2):=by simp [actD,threeD,chgD,bindD,q0,q1,q2,h0,h1,h2,h3,h4,h5,h6,h7,h]
 rw [e]
 have H0:=gH (lword_at (b:=b) (p:=p) q0)
 have ih0:=eqS_as h0
 unfold b_tick at ih0
 simp only at ih0
 have ih1:=eqS_as h1
 unfold b_world at ih1
 simp only at ih1
 have ih2:=eqS_as h2
 unfold b_start at ih2
 simp only at ih2
 have ih3:=eqS_as h3
 unfold b_deliver at ih3
 simp only at ih3
 have ih4:=eqS_as h4
 unfold b_drop at ih4
 simp only at ih4
 have ih5:=eqS_as h5
 unfold b_double at ih5
 simp only at ih5
 have ih6:=eqS_as h6
 unfold b_ask at ih6
 simp only at ih6
 have ih7:=eqS_as h7
 unfold b_read at ih7
 simp only at ih7
 have ih:=eqS_as h
 unfold b_learner at ih
 simp only at ih
 have HX0:=gH (Nx.start2 hl z33 z33 43 43)
 have hb:=hl.lt
 have HB:=gH hb
 clear e hl q0 q1 q2 h0 h1 h2 h3 h4 h5 h6 h7 h
 go_enter Tryz.func21,Tryz.ntmps21
 go_wp2_with (first
  | (go_at_call 32;with_reducible refine (H0.out _ HX0.out.nr.ds).mono ?_;rintro e w0 ⟨rfl,g0,l0,k0⟩;have X1:=HX0.out.call k0 l0;obtain ⟨ca0,fa0⟩:=X1.cf 0 (by simp);obtain ⟨cc0,fc0⟩:=X1.cf 22 (by simp);have hxb:=X1.xb;have hbx:=X1.bx;have z0:=X1.lt;obtain ⟨z00,z01,z02⟩:=z0;have X0s:Nx b p w.heap.size (w.heap.size+1) w _ _ _ z33 [.int .i64 8,.int .i64 0,.int .i64 0,.int .i64 0,.int .i64 0,.int .i64 0,.string ⟨#[]⟩,.string ⟨#[]⟩,.string ⟨#[]⟩,.string ⟨#[]⟩,.string ⟨#[]⟩,.slice none 0 0,.string ⟨#[]⟩,.int .i64 0,.slice none 0 0,.int .i64 0,.int .i64 0,.string ⟨#[]⟩,.string ⟨#[]⟩,.string ⟨#[]⟩,.int .i64 0,.bool false,.int .i64 1,.int .i64 0,.int .i64 0,.string ⟨#[]⟩,.string ⟨#[]⟩,.string ⟨#[]⟩,.slice none 0 0,.string ⟨#[]⟩,.int .i64 0,.int .i64 0,.string ⟨#[]⟩]:=(X1.set 22 (.int .i64 1) (by simp)).set 0 (.int .i64 8) (by simp);have X0s:=gH X0s;clear l0 k0 X1)
  | (go_at_call 33;with_reducible refine (H1.out _ X0s.out.nr.ds).mono ?_;rintro e w1 ⟨rfl,m1,k1⟩;have X1:=X0s.out.call k1 m1;obtain ⟨ca1,fa1⟩:=X1.cf 1 (by simp);obtain ⟨cc1,fc1⟩:=X1.cf 22 (by simp);have z1:=X1.lt;obtain ⟨z10,z11,z12⟩:=z1;have X1s:Nx b p w.heap.size (w.heap.size+1) w _ _ _ z33 [.int .i64 8,.int .i64 n1,.int .i64 0,.int .i64 0,.int .i64 0,.int .i64 0,.string ⟨#[]⟩,.string ⟨#[]⟩,.string ⟨#[]⟩,.string ⟨#[]⟩,.string ⟨#[]⟩,.slice none 0 0,.string ⟨#[]⟩,.int .i64 0,.slice none 0 0,.int .i64 0,.int .i64 0,.string ⟨#[]⟩,.string ⟨#[]⟩,.string ⟨#[]⟩,.int .i64 0,.bool false,.int .i64 1,.int .i64 0,.int .i64 0,.string ⟨#[]⟩,.string ⟨#[]⟩,.string ⟨#[]⟩,.slice none 0 0,.string ⟨#[]⟩,.int .i64 0,.int .i64 0,.string ⟨#[]⟩]:=X1.set 1 (.int .i64 n1) (by simp);have X1s:=gH X1s;clear m1 k1 X1)
  | (go_at_call 33;with_reducible refine (H2.out _ X1s.out.nr.ds).mono ?_;rintro e w2 ⟨rfl,m2,k2⟩;have X2:=X1s.out.call k2 m2;obtain ⟨ca2,fa2⟩:=X2.cf 23 (by simp);obtain ⟨cc2,fc2⟩:=X2.cf 22 (by simp);have z2:=X2.lt;obtain ⟨z20,z21,z22⟩:=z2;have X2s:Nx b p w.heap.size (w.heap.size+1) w _ _ _ z33 [.int .i64 8,.int .i64 n1,.int .i64 0,.int .i64 0,.int .i64 0,.int .i64 0,.string ⟨#[]⟩,.string ⟨#[]⟩,.string ⟨#[]⟩,.string ⟨#[]⟩,.string ⟨#[]⟩,.slice none 0 0,.string ⟨#[]⟩,.int .i64 0,.slice none 0 0,.int .i64 0,.int .i64 0,.string ⟨#[]⟩,.string ⟨#[]⟩,.string ⟨#[]⟩,.int .i64 0,.bool false,.int .i64 1,.int .i64 n2,.int .i64 0,.string ⟨#[]⟩,.string ⟨#[]⟩,.string ⟨#[]⟩,.slice none 0 0,.string ⟨#[]⟩,.int .i64 0,.int .i64 0,.string ⟨#[]⟩]:=X2.set 23 (.int .i64 n2) (by simp);have X2s:=gH X2s;have e1:=lvAct_row X2s.out.row rfl;have e2:=svAct_row X2s.out.nr.res rfl rfl (vs:=[.int .i64 8,.int .i64 n1,.int .i64 0,.int .i64 0,.int .i64 0,.int .i64 0,.string ⟨#[]⟩,.string ⟨#[]⟩,.string ⟨#[]⟩,.string ⟨#[]⟩,.string ⟨#[]⟩,.slice none 0 0,.string ⟨#[]⟩,.int .i64 0,.slice none 0 0,.int .i64 0,.int .i64 0,.string ⟨#[]⟩,.string ⟨#[]⟩,.string ⟨#[]⟩,.int .i64 0,.bool false,.int .i64 1,.int .i64 n2,.int .i64 0,.string ⟨#[]⟩,.string ⟨#[]⟩,.string ⟨#[]⟩,.slice none 0 0,.string ⟨#[]⟩,.int .i64 0,.int .i64 0,.string ⟨#[]⟩]) (by simp [Value.oneCell']);clear m2 k2 X2))
 have XR:=X2s.out.nr.sets (cs:=[.int .i64 8,.int .i64 n1,.int .i64 0,.int .i64 0,.int .i64 0,.int .i64 0,.string ⟨#[]⟩,.string ⟨#[]⟩,.string ⟨#[]⟩,.string ⟨#[]⟩,.string ⟨#[]⟩,.slice none 0 0,.string ⟨#[]⟩,.int .i64 0,.slice none 0 0,.int .i64 0,.int .i64 0,.string ⟨#[]⟩,.string ⟨#[]⟩,.string ⟨#[]⟩,.int .i64 0,.bool false,.int .i64 1,.int .i64 n2,.int .i64 0,.string ⟨#[]⟩,.string ⟨#[]⟩,.string ⟨#[]⟩,.slice none 0 0,.string ⟨#[]⟩,.int .i64 0,.int .i64 0,.string ⟨#[]⟩]) rfl
 refine bodyPost_ret (results_cell rfl _ rfl (lv_row (T:=43) Tryz.underlying43 (by kernel_rfl) XR.res rfl)) rfl ?_
 exact ⟨XR.kw,_,rfl,actN_plain HB.out rfl rfl rfl,XR.ds⟩
theorem actN_voter (f:ByteArray) (W:Ws) (d:Bool) (W0:Ws) (d0:Bool) (q0:wordD W d=(f,W0,d0)) (h0:eqS f b_tick=false) (h1:eqS f b_world=false) (h2:eqS f b_start=false) (h3:eqS f b_deliver=false) (h4:eqS f b_drop=false) (h5:eqS f b_double=false) (h6:eqS f b_ask=false) (h7:eqS f b_read=false) (h8:eqS f b_learner=false) (h:eqS f b_voter=true) (b p:Nat) (w:World) (hl:LnS w b p W d):Calls Tryz.prog 21 #[.pointer (some ⟨b,0,none⟩)] w (RdN b p w (ActN b w.heap.size) (actD W d)):=by
 obtain ⟨n1,W1,d1,q1⟩:∃ a c e,numD W0 d0=(a,c,e):=⟨_,_,_,rfl⟩
 have H1:=gH (lnum_at (b:=b) (p:=p) q1)
 obtain ⟨n2,W2,d2,q2⟩:∃ a c e,numD W1 d1=(a,c,e):=⟨_,_,_,rfl⟩
 have H2:=gH (lnum_at (b:=b) (p:=p) q2)
 have e:actD W d=({ zAct with kind:=8,node:=n1,cn:=n2,ck:=2 },W2,d2):=by simp [actD,threeD,chgD,bindD,q0,q1,q2,h0,h1,h2,h3,h4,h5,h6,h7,h8,h]
 rw [e]
 have H0:=gH (lword_at (b:=b) (p:=p) q0)
 have ih0:=eqS_as h0
 unfold b_tick at ih0
 simp only at ih0
 have ih1:=eqS_as h1
 unfold b_world at ih1
 simp only at ih1
 have ih2:=eqS_as h2
 unfold b_start at ih2
 simp only at ih2
 have ih3:=eqS_as h3
 unfold b_deliver at ih3
 simp only at ih3
 have ih4:=eqS_as h4
 unfold b_drop at ih4
 simp only at ih4
 have ih5:=eqS_as h5
 unfold b_double at ih5
 simp only at ih5
 have ih6:=eqS_as h6
 unfold b_ask at ih6
 simp only at ih6
 have ih7:=eqS_as h7
 unfold b_read at ih7
 simp only at ih7
 have ih8:=eqS_as h8
 unfold b_learner at ih8
 simp only at ih8
 have ih:=eqS_as h
 unfold b_voter at ih
 simp only at ih
 have HX0:=gH (Nx.start2 hl z33 z33 43 43)
 have hb:=hl.lt
 have HB:=gH hb
 clear e hl q0 q1 q2 h0 h1 h2 h3 h4 h5 h6 h7 h8 h
 go_enter Tryz.func21,Tryz.ntmps21
 go_wp2_with (first
  | (go_at_call 32;with_reducible refine (H0.out _ HX0.out.nr.ds).mono ?_;rintro e w0 ⟨rfl,g0,l0,k0⟩;have X1:=HX0.out.call k0 l0;obtain ⟨ca0,fa0⟩:=X1.cf 0 (by simp);obtain ⟨cc0,fc0⟩:=X1.cf 22 (by simp);have hxb:=X1.xb;have hbx:=X1.bx;have z0:=X1.lt;obtain ⟨z00,z01,z02⟩:=z0;have X0s:Nx b p w.heap.size (w.heap.size+1) w _ _ _ z33 [.int .i64 8,.int .i64 0,.int .i64 0,.int .i64 0,.int .i64 0,.int .i64 0,.string ⟨#[]⟩,.string ⟨#[]⟩,.string ⟨#[]⟩,.string ⟨#[]⟩,.string ⟨#[]⟩,.slice none 0 0,.string ⟨#[]⟩,.int .i64 0,.slice none 0 0,.int .i64 0,.int .i64 0,.string ⟨#[]⟩,.string ⟨#[]⟩,.string ⟨#[]⟩,.int .i64 0,.bool false,.int .i64 2,.int .i64 0,.int .i64 0,.string ⟨#[]⟩,.string ⟨#[]⟩,.string ⟨#[]⟩,.slice none 0 0,.string ⟨#[]⟩,.int .i64 0,.int .i64 0,.string ⟨#[]⟩]:=(X1.set 22 (.int .i64 2) (by simp)).set 0 (.int .i64 8) (by simp);have X0s:=gH X0s;clear l0 k0 X1)
  | (go_at_call 33;with_reducible refine (H1.out _ X0s.out.nr.ds).mono ?_;rintro e w1 ⟨rfl,m1,k1⟩;have X1:=X0s.out.call k1 m1;obtain ⟨ca1,fa1⟩:=X1.cf 1 (by simp);obtain ⟨cc1,fc1⟩:=X1.cf 22 (by simp);have z1:=X1.lt;obtain ⟨z10,z11,z12⟩:=z1;have X1s:Nx b p w.heap.size (w.heap.size+1) w _ _ _ z33 [.int .i64 8,.int .i64 n1,.int .i64 0,.int .i64 0,.int .i64 0,.int .i64 0,.string ⟨#[]⟩,.string ⟨#[]⟩,.string ⟨#[]⟩,.string ⟨#[]⟩,.string ⟨#[]⟩,.slice none 0 0,.string ⟨#[]⟩,.int .i64 0,.slice none 0 0,.int .i64 0,.int .i64 0,.string ⟨#[]⟩,.string ⟨#[]⟩,.string ⟨#[]⟩,.int .i64 0,.bool false,.int .i64 2,.int .i64 0,.int .i64 0,.string ⟨#[]⟩,.string ⟨#[]⟩,.string ⟨#[]⟩,.slice none 0 0,.string ⟨#[]⟩,.int .i64 0,.int .i64 0,.string ⟨#[]⟩]:=X1.set 1 (.int .i64 n1) (by simp);have X1s:=gH X1s;clear m1 k1 X1)
  | (go_at_call 33;with_reducible refine (H2.out _ X1s.out.nr.ds).mono ?_;rintro e w2 ⟨rfl,m2,k2⟩;have X2:=X1s.out.call k2 m2;obtain ⟨ca2,fa2⟩:=X2.cf 23 (by simp);obtain ⟨cc2,fc2⟩:=X2.cf 22 (by simp);have z2:=X2.lt;obtain ⟨z20,z21,z22⟩:=z2;have X2s:Nx b p w.heap.size (w.heap.size+1) w _ _ _ z33 [.int .i64 8,.int .i64 n1,.int .i64 0,.int .i64 0,.int .i64 0,.int .i64 0,.string ⟨#[]⟩,.string ⟨#[]⟩,.string ⟨#[]⟩,.string ⟨#[]⟩,.string ⟨#[]⟩,.slice none 0 0,.string ⟨#[]⟩,.int .i64 0,.slice none 0 0,.int .i64 0,.int .i64 0,.string ⟨#[]⟩,.string ⟨#[]⟩,.string ⟨#[]⟩,.int .i64 0,.bool false,.int .i64 2,.int .i64 n2,.int .i64 0,.string ⟨#[]⟩,.string ⟨#[]⟩,.string ⟨#[]⟩,.slice none 0 0,.string ⟨#[]⟩,.int .i64 0,.int .i64 0,.string ⟨#[]⟩]:=X2.set 23 (.int .i64 n2) (by simp);have X2s:=gH X2s;have e1:=lvAct_row X2s.out.row rfl;have e2:=svAct_row X2s.out.nr.res rfl rfl (vs:=[.int .i64 8,.int .i64 n1,.int .i64 0,.int .i64 0,.int .i64 0,.int .i64 0,.string ⟨#[]⟩,.string ⟨#[]⟩,.string ⟨#[]⟩,.string ⟨#[]⟩,.string ⟨#[]⟩,.slice none 0 0,.string ⟨#[]⟩,.int .i64 0,.slice none 0 0,.int .i64 0,.int .i64 0,.string ⟨#[]⟩,.string ⟨#[]⟩,.string ⟨#[]⟩,.int .i64 0,.bool false,.int .i64 2,.int .i64 n2,.int .i64 0,.string ⟨#[]⟩,.string ⟨#[]⟩,.string ⟨#[]⟩,.slice none 0 0,.string ⟨#[]⟩,.int .i64 0,.int .i64 0,.string ⟨#[]⟩]) (by simp [Value.oneCell']);clear m2 k2 X2))
 have XR:=X2s.out.nr.sets (cs:=[.int .i64 8,.int .i64 n1,.int .i64 0,.int .i64 0,.int .i64 0,.int .i64 0,.string ⟨#[]⟩,.string ⟨#[]⟩,.string ⟨#[]⟩,.string ⟨#[]⟩,.string ⟨#[]⟩,.slice none 0 0,.string ⟨#[]⟩,.int .i64 0,.slice none 0 0,.int .i64 0,.int .i64 0,.string ⟨#[]⟩,.string ⟨#[]⟩,.string ⟨#[]⟩,.int .i64 0,.bool false,.int .i64 2,.int .i64 n2,.int .i64 0,.string ⟨#[]⟩,.string ⟨#[]⟩,.string ⟨#[]⟩,.slice none 0 0,.string ⟨#[]⟩,.int .i64 0,.int .i64 0,.string ⟨#[]⟩]) rfl
 refine bodyPost_ret (results_cell rfl _ rfl (lv_row (T:=43) Tryz.underlying43 (by kernel_rfl) XR.res rfl)) rfl ?_
 exact ⟨XR.kw,_,rfl,actN_plain HB.out rfl rfl rfl,XR.ds⟩
theorem actN_remove (f:ByteArray) (W:Ws) (d:Bool) (W0:Ws) (d0:Bool) (q0:wordD W d=(f,W0,d0)) (h0:eqS f b_tick=false) (h1:eqS f b_world=false) (h2:eqS f b_start=false) (h3:eqS f b_deliver=false) (h4:eqS f b_drop=false) (h5:eqS f b_double=false) (h6:eqS f b_ask=false) (h7:eqS f b_read=false) (h8:eqS f b_learner=false) (h9:eqS f b_voter=false) (h:eqS f b_remove=true) (b p:Nat) (w:World) (hl:LnS w b p W d):Calls Tryz.prog 21 #[.pointer (some ⟨b,0,none⟩)] w (RdN b p w (ActN b w.heap.size) (actD W d)):=by
 obtain ⟨n1,W1,d1,q1⟩:∃ a c e,numD W0 d0=(a,c,e):=⟨_,_,_,rfl⟩
 have H1:=gH (lnum_at (b:=b) (p:=p) q1)
 obtain ⟨n2,W2,d2,q2⟩:∃ a c e,numD W1 d1=(a,c,e):=⟨_,_,_,rfl⟩
 have H2:=gH (lnum_at (b:=b) (p:=p) q2)
 have e:actD W d=({ zAct with kind:=8,node:=n1,cn:=n2,ck:=3 },W2,d2):=by simp [actD,threeD,chgD,bindD,q0,q1,q2,h0,h1,h2,h3,h4,h5,h6,h7,h8,h9,h]
 rw [e]
 have H0:=gH (lword_at (b:=b) (p:=p) q0)
 have ih0:=eqS_as h0
 unfold b_tick at ih0
 simp only at ih0
 have ih1:=eqS_as h1
 unfold b_world at ih1
 simp only at ih1
 have ih2:=eqS_as h2
 unfold b_start at ih2
 simp only at ih2
 have ih3:=eqS_as h3
 unfold b_deliver at ih3
 simp only at ih3
 have ih4:=eqS_as h4
 unfold b_drop at ih4
 simp only at ih4
 have ih5:=eqS_as h5
 unfold b_double at ih5
 simp only at ih5
 have ih6:=eqS_as h6
 unfold b_ask at ih6
 simp only at ih6
 have ih7:=eqS_as h7
 unfold b_read at ih7
 simp only at ih7
 have ih8:=eqS_as h8
 unfold b_learner at ih8
 simp only at ih8
 have ih9:=eqS_as h9
 unfold b_voter at ih9
 simp only at ih9
 have ih:=eqS_as h
 unfold b_remove at ih
 simp only at ih
 have HX0:=gH (Nx.start2 hl z33 z33 43 43)
 have hb:=hl.lt
 have HB:=gH hb
 clear e hl q0 q1 q2 h0 h1 h2 h3 h4 h5 h6 h7 h8 h9 h
 go_enter Tryz.func21,Tryz.ntmps21
 go_wp2_with (first
  | (go_at_call 32;with_reducible refine (H0.out _ HX0.out.nr.ds).mono ?_;rintro e w0 ⟨rfl,g0,l0,k0⟩;have X1:=HX0.out.call k0 l0;obtain ⟨ca0,fa0⟩:=X1.cf 0 (by simp);obtain ⟨cc0,fc0⟩:=X1.cf 22 (by simp);have hxb:=X1.xb;have hbx:=X1.bx;have z0:=X1.lt;obtain ⟨z00,z01,z02⟩:=z0;have X0s:Nx b p w.heap.size (w.heap.size+1) w _ _ _ z33 [.int .i64 8,.int .i64 0,.int .i64 0,.int .i64 0,.int .i64 0,.int .i64 0,.string ⟨#[]⟩,.string ⟨#[]⟩,.string ⟨#[]⟩,.string ⟨#[]⟩,.string ⟨#[]⟩,.slice none 0 0,.string ⟨#[]⟩,.int .i64 0,.slice none 0 0,.int .i64 0,.int .i64 0,.string ⟨#[]⟩,.string ⟨#[]⟩,.string ⟨#[]⟩,.int .i64 0,.bool false,.int .i64 3,.int .i64 0,.int .i64 0,.string ⟨#[]⟩,.string ⟨#[]⟩,.string ⟨#[]⟩,.slice none 0 0,.string ⟨#[]⟩,.int .i64 0,.int .i64 0,.string ⟨#[]⟩]:=(X1.set 22 (.int .i64 3) (by simp)).set 0 (.int .i64 8) (by simp);have X0s:=gH X0s;clear l0 k0 X1)
  | (go_at_call 33;with_reducible refine (H1.out _ X0s.out.nr.ds).mono ?_;rintro e w1 ⟨rfl,m1,k1⟩;have X1:=X0s.out.call k1 m1;obtain ⟨ca1,fa1⟩:=X1.cf 1 (by simp);obtain ⟨cc1,fc1⟩:=X1.cf 22 (by simp);have z1:=X1.lt;obtain ⟨z10,z11,z12⟩:=z1;have X1s:Nx b p w.heap.size (w.heap.size+1) w _ _ _ z33 [.int .i64 8,.int .i64 n1,.int .i64 0,.int .i64 0,.int .i64 0,.int .i64 0,.string ⟨#[]⟩,.string ⟨#[]⟩,.string ⟨#[]⟩,.string ⟨#[]⟩,.string ⟨#[]⟩,.slice none 0 0,.string ⟨#[]⟩,.int .i64 0,.slice none 0 0,.int .i64 0,.int .i64 0,.string ⟨#[]⟩,.string ⟨#[]⟩,.string ⟨#[]⟩,.int .i64 0,.bool false,.int .i64 3,.int .i64 0,.int .i64 0,.string ⟨#[]⟩,.string ⟨#[]⟩,.string ⟨#[]⟩,.slice none 0 0,.string ⟨#[]⟩,.int .i64 0,.int .i64 0,.string ⟨#[]⟩]:=X1.set 1 (.int .i64 n1) (by simp);have X1s:=gH X1s;clear m1 k1 X1)
  | (go_at_call 33;with_reducible refine (H2.out _ X1s.out.nr.ds).mono ?_;rintro e w2 ⟨rfl,m2,k2⟩;have X2:=X1s.out.call k2 m2;obtain ⟨ca2,fa2⟩:=X2.cf 23 (by simp);obtain ⟨cc2,fc2⟩:=X2.cf 22 (by simp);have z2:=X2.lt;obtain ⟨z20,z21,z22⟩:=z2;have X2s:Nx b p w.heap.size (w.heap.size+1) w _ _ _ z33 [.int .i64 8,.int .i64 n1,.int .i64 0,.int .i64 0,.int .i64 0,.int .i64 0,.string ⟨#[]⟩,.string ⟨#[]⟩,.string ⟨#[]⟩,.string ⟨#[]⟩,.string ⟨#[]⟩,.slice none 0 0,.string ⟨#[]⟩,.int .i64 0,.slice none 0 0,.int .i64 0,.int .i64 0,.string ⟨#[]⟩,.string ⟨#[]⟩,.string ⟨#[]⟩,.int .i64 0,.bool false,.int .i64 3,.int .i64 n2,.int .i64 0,.string ⟨#[]⟩,.string ⟨#[]⟩,.string ⟨#[]⟩,.slice none 0 0,.string ⟨#[]⟩,.int .i64 0,.int .i64 0,.string ⟨#[]⟩]:=X2.set 23 (.int .i64 n2) (by simp);have X2s:=gH X2s;have e1:=lvAct_row X2s.out.row rfl;have e2:=svAct_row X2s.out.nr.res rfl rfl (vs:=[.int .i64 8,.int .i64 n1,.int .i64 0,.int .i64 0,.int .i64 0,.int .i64 0,.string ⟨#[]⟩,.string ⟨#[]⟩,.string ⟨#[]⟩,.string ⟨#[]⟩,.string ⟨#[]⟩,.slice none 0 0,.string ⟨#[]⟩,.int .i64 0,.slice none 0 0,.int .i64 0,.int .i64 0,.string ⟨#[]⟩,.string ⟨#[]⟩,.string ⟨#[]⟩,.int .i64 0,.bool false,.int .i64 3,.int .i64 n2,.int .i64 0,.string ⟨#[]⟩,.string ⟨#[]⟩,.string ⟨#[]⟩,.slice none 0 0,.string ⟨#[]⟩,.int .i64 0,.int .i64 0,.string ⟨#[]⟩]) (by simp [Value.oneCell']);clear m2 k2 X2))
 have XR:=X2s.out.nr.sets (cs:=[.int .i64 8,.int .i64 n1,.int .i64 0,.int .i64 0,.int .i64 0,.int .i64 0,.string ⟨#[]⟩,.string ⟨#[]⟩,.string ⟨#[]⟩,.string ⟨#[]⟩,.string ⟨#[]⟩,.slice none 0 0,.string ⟨#[]⟩,.int .i64 0,.slice none 0 0,.int .i64 0,.int .i64 0,.string ⟨#[]⟩,.string ⟨#[]⟩,.string ⟨#[]⟩,.int .i64 0,.bool false,.int .i64 3,.int .i64 n2,.int .i64 0,.string ⟨#[]⟩,.string ⟨#[]⟩,.string ⟨#[]⟩,.slice none 0 0,.string ⟨#[]⟩,.int .i64 0,.int .i64 0,.string ⟨#[]⟩]) rfl
 refine bodyPost_ret (results_cell rfl _ rfl (lv_row (T:=43) Tryz.underlying43 (by kernel_rfl) XR.res rfl)) rfl ?_
 exact ⟨XR.kw,_,rfl,actN_plain HB.out rfl rfl rfl,XR.ds⟩
theorem actN_none (f:ByteArray) (W:Ws) (d:Bool) (W0:Ws) (d0:Bool) (q0:wordD W d=(f,W0,d0)) (h0:eqS f b_tick=false) (h1:eqS f b_world=false) (h2:eqS f b_start=false) (h3:eqS f b_deliver=false) (h4:eqS f b_drop=false) (h5:eqS f b_double=false) (h6:eqS f b_ask=false) (h7:eqS f b_read=false) (h8:eqS f b_learner=false) (h9:eqS f b_voter=false) (h10:eqS f b_remove=false) (h11:eqS f b_lease=false) (h12:eqS f b_row=false) (h13:eqS f b_crash=false) (b p:Nat) (w:World) (hl:LnS w b p W d):Calls Tryz.prog 21 #[.pointer (some ⟨b,0,none⟩)] w (RdN b p w (ActN b w.heap.size) (actD W d)):=by
 have e:actD W d=(zAct,W0,true):=by simp [actD,threeD,chgD,bindD,q0,h0,h1,h2,h3,h4,h5,h6,h7,h8,h9,h10,h11,h12,h13]
 rw [e]
 have H0:=gH (lword_at (b:=b) (p:=p) q0)
 have ih0:=eqS_as h0
 unfold b_tick at ih0
 simp only at ih0
 have ih1:=eqS_as h1
 unfold b_world at ih1
 simp only at ih1
 have ih2:=eqS_as h2
 unfold b_start at ih2
 simp only at ih2
 have ih3:=eqS_as h3
 unfold b_deliver at ih3
 simp only at ih3
 have ih4:=eqS_as h4
 unfold b_drop at ih4
 simp only at ih4
 have ih5:=eqS_as h5
 unfold b_double at ih5
 simp only at ih5
 have ih6:=eqS_as h6
 unfold b_ask at ih6
 simp only at ih6
 have ih7:=eqS_as h7
 unfold b_read at ih7
 simp only at ih7
 have ih8:=eqS_as h8
 unfold b_learner at ih8
 simp only at ih8
 have ih9:=eqS_as h9
 unfold b_voter at ih9
 simp only at ih9
 have ih10:=eqS_as h10
 unfold b_remove at ih10
 simp only at ih10
 have ih11:=eqS_as h11
 unfold b_lease at ih11
 simp only at ih11
 have ih12:=eqS_as h12
 unfold b_row at ih12
 simp only at ih12
 have ih13:=eqS_as h13
 unfold b_crash at ih13
 simp only at ih13
 have HX0:=gH (Nx.start2 hl z33 z33 43 43)
 have hb:=hl.lt
 have HB:=gH hb
 clear e hl q0  h0 h1 h2 h3 h4 h5 h6 h7 h8 h9 h10 h11 h12 h13
 go_enter Tryz.func21,Tryz.ntmps21
 go_wp2_with (first
  | (go_at_call 32;with_reducible refine (H0.out _ HX0.out.nr.ds).mono ?_;rintro e w0 ⟨rfl,g0,l0,k0⟩;have X1:=HX0.out.call k0 l0;obtain ⟨ca0,fa0⟩:=X1.cf 0 (by simp);obtain ⟨cc0,fc0⟩:=X1.cf 22 (by simp);have hxb:=X1.xb;have hbx:=X1.bx;have z0:=X1.lt;obtain ⟨z00,z01,z02⟩:=z0;have y1:=l0.c1;have y2:=l0.f1;have X0s:=gH (X1.bad true);have e1:=lvAct_row X0s.out.row rfl;have e2:=svAct_row X0s.out.nr.res rfl rfl (vs:=z33) (by simp [Value.oneCell']);clear l0 k0 X1))
 have XR:=X0s.out.nr.sets (cs:=z33) rfl
 refine bodyPost_ret (results_cell rfl _ rfl (lv_row (T:=43) Tryz.underlying43 (by kernel_rfl) XR.res rfl)) rfl ?_
 exact ⟨XR.kw,_,rfl,actN_plain HB.out rfl rfl rfl,XR.ds⟩
theorem lcmd_at {b p:Nat} {W W1:Ws} {d d1:Bool} {c:Cmd} (hq:cmdD W d=(c,W1,d1)):∀ V,LnS V b p W d→Calls Tryz.prog 34 #[.pointer (some ⟨b,0,none⟩)] V fun e w'=>∃ A k A2 k2,e=.returned (.agg (cmdV c A k A2 k2).toArray)∧(ColsN b V.heap.size w' (.slice A c.cols.length k) c.cols∧NamesN b V.heap.size w' (.slice A2 c.rule.cols.length k2) c.rule.cols∧CmdZ c)∧LnS w' b p W1 d1∧Kw b V w':=fun V h =>
 (command_dn b p W d V h).mono fun e w' ⟨k,v,h1,h2,h3⟩=>by
  rw [hq] at h2 h3
  obtain ⟨A,k1,A2,k2,h4,h5⟩:=h2
  exact ⟨A,k1,A2,k2,by rw [h1,h4],h5,h3,k⟩
theorem lrow_at {b p:Nat} {W W1:Ws} {d d1:Bool} {c:ROp} (hq:rowD W d=(c,W1,d1)):∀ V,LnS V b p W d→Calls Tryz.prog 35 #[.pointer (some ⟨b,0,none⟩)] V fun e w'=>∃ A k,e=.returned (.agg (ropV c A k).toArray)∧(ValsN b V.heap.size w' (.slice A c.row.length k) c.row∧SzS c.role∧SzS c.schema∧SzS c.table∧SzS c.col∧SzS c.v.text)∧LnS w' b p W1 d1∧Kw b V w':=fun V h =>
 (row_dn b p W d V h).mono fun e w' ⟨k,v,h1,h2,h3⟩=>by
  rw [hq] at h2 h3
  obtain ⟨A,k1,h4,h5⟩:=h2
  exact ⟨A,k1,by rw [h1,h4],h5,h3,k⟩
theorem ask22 {b p r x:Nat} {w V:World} {W:Ws} {d:Bool} {zs:List Value} {s2 s3 s4:Int} {c:Cmd} {A A2:Option Addr} {k k2:Nat} (X:Nx b p r x w V W d zs (actV { zAct with kind:=6,node:=s2,client:=s3,number:=s4,cmd:=c } A k A2 k2 none 0)):V.cell? ⟨x,22,none⟩=some (.int .i64 0):=X.row.cell (j:=22) rfl
theorem row22 {b p r x:Nat} {w V:World} {W:Ws} {d:Bool} {zs:List Value} {s2:Int} {c:ROp} {A:Option Addr} {k:Nat} (X:Nx b p r x w V W d zs (actV { zAct with kind:=10,n:=s2,row:=c } none 0 none 0 A k)):V.cell? ⟨x,22,none⟩=some (.int .i64 0):=X.row.cell (j:=22) rfl
theorem ask_lay {b p r x:Nat} {w V:World} {W:Ws} {d:Bool} {zs:List Value} {s2 s3 s4:Int} (X:Nx b p r x w V W d zs [.int .i64 6,.int .i64 s2,.int .i64 0,.int .i64 s3,.int .i64 s4,.int .i64 0,.string ⟨#[]⟩,.string ⟨#[]⟩,.string ⟨#[]⟩,.string ⟨#[]⟩,.string ⟨#[]⟩,.slice none 0 0,.string ⟨#[]⟩,.int .i64 0,.slice none 0 0,.int .i64 0,.int .i64 0,.string ⟨#[]⟩,.string ⟨#[]⟩,.string ⟨#[]⟩,.int .i64 0,.bool false,.int .i64 0,.int .i64 0,.int .i64 0,.string ⟨#[]⟩,.string ⟨#[]⟩,.string ⟨#[]⟩,.slice none 0 0,.string ⟨#[]⟩,.int .i64 0,.int .i64 0,.string ⟨#[]⟩]) (c:Cmd) (A:Option Addr) (k:Nat) (A2:Option Addr) (k2:Nat):(svCmd ⟨x,5,none⟩ (.agg (cmdV c A k A2 k2).toArray)).run Tryz.prog V=.ok () (V.setCells x 5 (cmdV c A k A2 k2))∧Nx b p r x w (V.setCells x 5 (cmdV c A k A2 k2)) W d zs (actV { zAct with kind:=6,node:=s2,client:=s3,number:=s4,cmd:=c } A k A2 k2 none 0):=by
 have X':Nx b p r x w V W d zs ([.int .i64 6,.int .i64 s2,.int .i64 0,.int .i64 s3,.int .i64 s4]++(z17++[.int .i64 0,.int .i64 0,.int .i64 0,.string ⟨#[]⟩,.string ⟨#[]⟩,.string ⟨#[]⟩,.slice none 0 0,.string ⟨#[]⟩,.int .i64 0,.int .i64 0,.string ⟨#[]⟩])):=X
 exact ⟨svCmd_at c A k A2 k2 X'.row rfl rfl,X'.setsAt (vs:=cmdV c A k A2 k2) rfl rfl⟩
theorem row_lay {b p r x:Nat} {w V:World} {W:Ws} {d:Bool} {zs:List Value} {s2:Int} (X:Nx b p r x w V W d zs [.int .i64 10,.int .i64 0,.int .i64 s2,.int .i64 0,.int .i64 0,.int .i64 0,.string ⟨#[]⟩,.string ⟨#[]⟩,.string ⟨#[]⟩,.string ⟨#[]⟩,.string ⟨#[]⟩,.slice none 0 0,.string ⟨#[]⟩,.int .i64 0,.slice none 0 0,.int .i64 0,.int .i64 0,.string ⟨#[]⟩,.string ⟨#[]⟩,.string ⟨#[]⟩,.int .i64 0,.bool false,.int .i64 0,.int .i64 0,.int .i64 0,.string ⟨#[]⟩,.string ⟨#[]⟩,.string ⟨#[]⟩,.slice none 0 0,.string ⟨#[]⟩,.int .i64 0,.int .i64 0,.string ⟨#[]⟩]) (c:ROp) (A:Option Addr) (k:Nat):(svRop ⟨x,24,none⟩ (.agg (ropV c A k).toArray)).run Tryz.prog V=.ok () (V.setCells x 24 (ropV c A k))∧Nx b p r x w (V.setCells x 24 (ropV c A k)) W d zs (actV { zAct with kind:=10,n:=s2,row:=c } none 0 none 0 A k):=by
 have X':Nx b p r x w V W d zs ([.int .i64 10,.int .i64 0,.int .i64 s2,.int .i64 0,.int .i64 0,.int .i64 0,.string ⟨#[]⟩,.string ⟨#[]⟩,.string ⟨#[]⟩,.string ⟨#[]⟩,.string ⟨#[]⟩,.slice none 0 0,.string ⟨#[]⟩,.int .i64 0,.slice none 0 0,.int .i64 0,.int .i64 0,.string ⟨#[]⟩,.string ⟨#[]⟩,.string ⟨#[]⟩,.int .i64 0,.bool false,.int .i64 0,.int .i64 0]++([.int .i64 0,.string ⟨#[]⟩,.string ⟨#[]⟩,.string ⟨#[]⟩,.slice none 0 0,.string ⟨#[]⟩,.int .i64 0,.int .i64 0,.string ⟨#[]⟩]++[])):=X
 exact ⟨svRop_at c A k X'.row rfl rfl,X'.setsAt (vs:=ropV c A k) rfl rfl⟩
theorem actN_ask (f:ByteArray) (W:Ws) (d:Bool) (W0:Ws) (d0:Bool) (q0:wordD W d=(f,W0,d0)) (h0:eqS f b_tick=false) (h1:eqS f b_world=false) (h2:eqS f b_start=false) (h3:eqS f b_deliver=false) (h4:eqS f b_drop=false) (h5:eqS f b_double=false) (h:eqS f b_ask=true) (b p:Nat) (w:World) (hl:LnS w b p W d):Calls Tryz.prog 21 #[.pointer (some ⟨b,0,none⟩)] w (RdN b p w (ActN b w.heap.size) (actD W d)):=by
 obtain ⟨n1,W1,d1,q1⟩:∃ a c e,numD W0 d0=(a,c,e):=⟨_,_,_,rfl⟩
 have H1:=gH (lnum_at (b:=b) (p:=p) q1)
 obtain ⟨n2,W2,d2,q2⟩:∃ a c e,numD W1 d1=(a,c,e):=⟨_,_,_,rfl⟩
 have H2:=gH (lnum_at (b:=b) (p:=p) q2)
 obtain ⟨n3,W3,d3,q3⟩:∃ a c e,numD W2 d2=(a,c,e):=⟨_,_,_,rfl⟩
 have H3:=gH (lnum_at (b:=b) (p:=p) q3)
 obtain ⟨y,W4,d4,q4⟩:∃ a c e,cmdD W3 d3=(a,c,e):=⟨_,_,_,rfl⟩
 have H4:=gH (lcmd_at (b:=b) (p:=p) q4)
 have e:actD W d=({ zAct with kind:=6,node:=n1,client:=n2,number:=n3,cmd:=y },W4,d4):=by simp [actD,threeD,chgD,bindD,q0,q1,q2,q3,q4,h0,h1,h2,h3,h4,h5,h]
 rw [e]
 have H0:=gH (lword_at (b:=b) (p:=p) q0)
 have ih0:=eqS_as h0
 unfold b_tick at ih0
 simp only at ih0
 have ih1:=eqS_as h1
 unfold b_world at ih1
 simp only at ih1
 have ih2:=eqS_as h2
 unfold b_start at ih2
 simp only at ih2
 have ih3:=eqS_as h3
 unfold b_deliver at ih3
 simp only at ih3
 have ih4:=eqS_as h4
 unfold b_drop at ih4
 simp only at ih4
 have ih5:=eqS_as h5
 unfold b_double at ih5
 simp only at ih5
 have ih:=eqS_as h
 unfold b_ask at ih
 simp only at ih
 have HX0:=gH (Nx.start2 hl z33 z33 43 43)
 have hb:=hl.lt
 have HB:=gH hb
 clear e hl q0 q1 q2 q3 q4 h0 h1 h2 h3 h4 h5 h
 go_enter Tryz.func21,Tryz.ntmps21
 go_wp2_with (first
  | (go_at_call 32;with_reducible refine (H0.out _ HX0.out.nr.ds).mono ?_;rintro e w0 ⟨rfl,g0,l0,k0⟩;have X1:=HX0.out.call k0 l0;obtain ⟨ca0,fa0⟩:=X1.cf 0 (by simp);have z0:=X1.lt;obtain ⟨z00,z01,z02⟩:=z0;have X0s:Nx b p w.heap.size (w.heap.size+1) w _ _ _ z33 [.int .i64 6,.int .i64 0,.int .i64 0,.int .i64 0,.int .i64 0,.int .i64 0,.string ⟨#[]⟩,.string ⟨#[]⟩,.string ⟨#[]⟩,.string ⟨#[]⟩,.string ⟨#[]⟩,.slice none 0 0,.string ⟨#[]⟩,.int .i64 0,.slice none 0 0,.int .i64 0,.int .i64 0,.string ⟨#[]⟩,.string ⟨#[]⟩,.string ⟨#[]⟩,.int .i64 0,.bool false,.int .i64 0,.int .i64 0,.int .i64 0,.string ⟨#[]⟩,.string ⟨#[]⟩,.string ⟨#[]⟩,.slice none 0 0,.string ⟨#[]⟩,.int .i64 0,.int .i64 0,.string ⟨#[]⟩]:=X1.set 0 (.int .i64 6) (by simp);have X0s:=gH X0s;clear l0 k0 X1)
  | (go_at_call 33;with_reducible refine (H1.out _ X0s.out.nr.ds).mono ?_;rintro e w1 ⟨rfl,m1,k1⟩;have X1:=X0s.out.call k1 m1;obtain ⟨ca1,fa1⟩:=X1.cf 1 (by simp);have z1:=X1.lt;obtain ⟨z10,z11,z12⟩:=z1;have X1s:Nx b p w.heap.size (w.heap.size+1) w _ _ _ z33 [.int .i64 6,.int .i64 n1,.int .i64 0,.int .i64 0,.int .i64 0,.int .i64 0,.string ⟨#[]⟩,.string ⟨#[]⟩,.string ⟨#[]⟩,.string ⟨#[]⟩,.string ⟨#[]⟩,.slice none 0 0,.string ⟨#[]⟩,.int .i64 0,.slice none 0 0,.int .i64 0,.int .i64 0,.string ⟨#[]⟩,.string ⟨#[]⟩,.string ⟨#[]⟩,.int .i64 0,.bool false,.int .i64 0,.int .i64 0,.int .i64 0,.string ⟨#[]⟩,.string ⟨#[]⟩,.string ⟨#[]⟩,.slice none 0 0,.string ⟨#[]⟩,.int .i64 0,.int .i64 0,.string ⟨#[]⟩]:=X1.set 1 (.int .i64 n1) (by simp);have X1s:=gH X1s;clear m1 k1 X1)
  | (go_at_call 33;with_reducible refine (H2.out _ X1s.out.nr.ds).mono ?_;rintro e w2 ⟨rfl,m2,k2⟩;have X2:=X1s.out.call k2 m2;obtain ⟨ca2,fa2⟩:=X2.cf 3 (by simp);have z2:=X2.lt;obtain ⟨z20,z21,z22⟩:=z2;have X2s:Nx b p w.heap.size (w.heap.size+1) w _ _ _ z33 [.int .i64 6,.int .i64 n1,.int .i64 0,.int .i64 n2,.int .i64 0,.int .i64 0,.string ⟨#[]⟩,.string ⟨#[]⟩,.string ⟨#[]⟩,.string ⟨#[]⟩,.string ⟨#[]⟩,.slice none 0 0,.string ⟨#[]⟩,.int .i64 0,.slice none 0 0,.int .i64 0,.int .i64 0,.string ⟨#[]⟩,.string ⟨#[]⟩,.string ⟨#[]⟩,.int .i64 0,.bool false,.int .i64 0,.int .i64 0,.int .i64 0,.string ⟨#[]⟩,.string ⟨#[]⟩,.string ⟨#[]⟩,.slice none 0 0,.string ⟨#[]⟩,.int .i64 0,.int .i64 0,.string ⟨#[]⟩]:=X2.set 3 (.int .i64 n2) (by simp);have X2s:=gH X2s;clear m2 k2 X2)
  | (go_at_call 33;with_reducible refine (H3.out _ X2s.out.nr.ds).mono ?_;rintro e w3 ⟨rfl,m3,k3⟩;have X3:=X2s.out.call k3 m3;obtain ⟨ca3,fa3⟩:=X3.cf 4 (by simp);have z3:=X3.lt;obtain ⟨z30,z31,z32⟩:=z3;have X3s:Nx b p w.heap.size (w.heap.size+1) w _ _ _ z33 [.int .i64 6,.int .i64 n1,.int .i64 0,.int .i64 n2,.int .i64 n3,.int .i64 0,.string ⟨#[]⟩,.string ⟨#[]⟩,.string ⟨#[]⟩,.string ⟨#[]⟩,.string ⟨#[]⟩,.slice none 0 0,.string ⟨#[]⟩,.int .i64 0,.slice none 0 0,.int .i64 0,.int .i64 0,.string ⟨#[]⟩,.string ⟨#[]⟩,.string ⟨#[]⟩,.int .i64 0,.bool false,.int .i64 0,.int .i64 0,.int .i64 0,.string ⟨#[]⟩,.string ⟨#[]⟩,.string ⟨#[]⟩,.slice none 0 0,.string ⟨#[]⟩,.int .i64 0,.int .i64 0,.string ⟨#[]⟩]:=X3.set 4 (.int .i64 n3) (by simp);have X3s:=gH X3s;clear m3 k3 X3)
  | (go_at_call 34;with_reducible refine (H4.out _ X3s.out.nr.ds).mono ?_;rintro e wy ⟨A,k,A2,k2,rfl,gy,my,ky⟩;have XY:=X3s.out.call ky my;have zy:=XY.lt;obtain ⟨zy0,zy1,zy2⟩:=zy;obtain ⟨e0,XT⟩:=ask_lay XY y A k A2 k2;have cy:=ask22 XT;have XT:=gH XT;have GY:=gH gy;have XYL:=gH XY;have e1:=lvAct_row XT.out.row (actV_len _ _ _ _ _ _ _);have e2:=svAct_row (vs:=(actV { zAct with kind:=6,node:=n1,client:=n2,number:=n3,cmd:=y } A k A2 k2 none 0)) XT.out.nr.res rfl (actV_len _ _ _ _ _ _ _) (actV_one _ _ _ _ _ _ _);clear my ky gy XY))
 have XR:=XT.out.nr.sets (cs:=(actV { zAct with kind:=6,node:=n1,client:=n2,number:=n3,cmd:=y } A k A2 k2 none 0)) rfl
 refine bodyPost_ret (results_cell rfl _ rfl (lv_row (T:=43) Tryz.underlying43 (by kernel_rfl) XR.res (actV_len _ _ _ _ _ _ _))) rfl ?_
 have S:=X3s.out.lt
 have S2:=X3s.out.nr.kw.size
 have KA:=kb_setCellsD (w.heap.size+1) (cmdV y A k A2 k2) wy 5
 have KB:=kb_setCellsD w.heap.size (actV { zAct with kind:=6,node:=n1,client:=n2,number:=n3,cmd:=y } A k A2 k2 none 0) (wy.setCells (w.heap.size+1) 5 (cmdV y A k A2 k2)) 0
 exact ⟨XR.kw,_,rfl,⟨A,k,A2,k2,none,0,rfl,((GY.out.1.hi KA (fun g e=>by have e':g=w.heap.size+1:=e;omega)).hi KB (fun g e=>by have e':g=w.heap.size:=e;omega)).down S2 HB.out,((GY.out.2.1.hi KA (fun g e=>by have e':g=w.heap.size+1:=e;omega)).hi KB (fun g e=>by have e':g=w.heap.size:=e;omega)).down S2 HB.out,valsN_nil _ _ _ HB.out,GY.out.2.2,⟨szZ,szZ,szZ,szZ,szZ⟩⟩,XR.ds⟩
theorem actN_row (f:ByteArray) (W:Ws) (d:Bool) (W0:Ws) (d0:Bool) (q0:wordD W d=(f,W0,d0)) (h0:eqS f b_tick=false) (h1:eqS f b_world=false) (h2:eqS f b_start=false) (h3:eqS f b_deliver=false) (h4:eqS f b_drop=false) (h5:eqS f b_double=false) (h6:eqS f b_ask=false) (h7:eqS f b_read=false) (h8:eqS f b_learner=false) (h9:eqS f b_voter=false) (h10:eqS f b_remove=false) (h11:eqS f b_lease=false) (h:eqS f b_row=true) (b p:Nat) (w:World) (hl:LnS w b p W d):Calls Tryz.prog 21 #[.pointer (some ⟨b,0,none⟩)] w (RdN b p w (ActN b w.heap.size) (actD W d)):=by
 obtain ⟨n1,W1,d1,q1⟩:∃ a c e,numD W0 d0=(a,c,e):=⟨_,_,_,rfl⟩
 have H1:=gH (lnum_at (b:=b) (p:=p) q1)
 obtain ⟨y,W2,d2,q2⟩:∃ a c e,rowD W1 d1=(a,c,e):=⟨_,_,_,rfl⟩
 have H2:=gH (lrow_at (b:=b) (p:=p) q2)
 have e:actD W d=({ zAct with kind:=10,n:=n1,row:=y },W2,d2):=by simp [actD,threeD,chgD,bindD,q0,q1,q2,h0,h1,h2,h3,h4,h5,h6,h7,h8,h9,h10,h11,h]
 rw [e]
 have H0:=gH (lword_at (b:=b) (p:=p) q0)
 have ih0:=eqS_as h0
 unfold b_tick at ih0
 simp only at ih0
 have ih1:=eqS_as h1
 unfold b_world at ih1
 simp only at ih1
 have ih2:=eqS_as h2
 unfold b_start at ih2
 simp only at ih2
 have ih3:=eqS_as h3
 unfold b_deliver at ih3
 simp only at ih3
 have ih4:=eqS_as h4
 unfold b_drop at ih4
 simp only at ih4
 have ih5:=eqS_as h5
 unfold b_double at ih5
 simp only at ih5
 have ih6:=eqS_as h6
 unfold b_ask at ih6
 simp only at ih6
 have ih7:=eqS_as h7
 unfold b_read at ih7
 simp only at ih7
 have ih8:=eqS_as h8
 unfold b_learner at ih8
 simp only at ih8
 have ih9:=eqS_as h9
 unfold b_voter at ih9
 simp only at ih9
 have ih10:=eqS_as h10
 unfold b_remove at ih10
 simp only at ih10
 have ih11:=eqS_as h11
 unfold b_lease at ih11
 simp only at ih11
 have ih:=eqS_as h
 unfold b_row at ih
 simp only at ih
 have HX0:=gH (Nx.start2 hl z33 z33 43 43)
 have hb:=hl.lt
 have HB:=gH hb
 clear e hl q0 q1 q2 h0 h1 h2 h3 h4 h5 h6 h7 h8 h9 h10 h11 h
 go_enter Tryz.func21,Tryz.ntmps21
 go_wp2_with (first
  | (go_at_call 32;with_reducible refine (H0.out _ HX0.out.nr.ds).mono ?_;rintro e w0 ⟨rfl,g0,l0,k0⟩;have X1:=HX0.out.call k0 l0;obtain ⟨ca0,fa0⟩:=X1.cf 0 (by simp);have z0:=X1.lt;obtain ⟨z00,z01,z02⟩:=z0;have X0s:Nx b p w.heap.size (w.heap.size+1) w _ _ _ z33 [.int .i64 10,.int .i64 0,.int .i64 0,.int .i64 0,.int .i64 0,.int .i64 0,.string ⟨#[]⟩,.string ⟨#[]⟩,.string ⟨#[]⟩,.string ⟨#[]⟩,.string ⟨#[]⟩,.slice none 0 0,.string ⟨#[]⟩,.int .i64 0,.slice none 0 0,.int .i64 0,.int .i64 0,.string ⟨#[]⟩,.string ⟨#[]⟩,.string ⟨#[]⟩,.int .i64 0,.bool false,.int .i64 0,.int .i64 0,.int .i64 0,.string ⟨#[]⟩,.string ⟨#[]⟩,.string ⟨#[]⟩,.slice none 0 0,.string ⟨#[]⟩,.int .i64 0,.int .i64 0,.string ⟨#[]⟩]:=X1.set 0 (.int .i64 10) (by simp);have X0s:=gH X0s;clear l0 k0 X1)
  | (go_at_call 33;with_reducible refine (H1.out _ X0s.out.nr.ds).mono ?_;rintro e w1 ⟨rfl,m1,k1⟩;have X1:=X0s.out.call k1 m1;obtain ⟨ca1,fa1⟩:=X1.cf 2 (by simp);have z1:=X1.lt;obtain ⟨z10,z11,z12⟩:=z1;have X1s:Nx b p w.heap.size (w.heap.size+1) w _ _ _ z33 [.int .i64 10,.int .i64 0,.int .i64 n1,.int .i64 0,.int .i64 0,.int .i64 0,.string ⟨#[]⟩,.string ⟨#[]⟩,.string ⟨#[]⟩,.string ⟨#[]⟩,.string ⟨#[]⟩,.slice none 0 0,.string ⟨#[]⟩,.int .i64 0,.slice none 0 0,.int .i64 0,.int .i64 0,.string ⟨#[]⟩,.string ⟨#[]⟩,.string ⟨#[]⟩,.int .i64 0,.bool false,.int .i64 0,.int .i64 0,.int .i64 0,.string ⟨#[]⟩,.string ⟨#[]⟩,.string ⟨#[]⟩,.slice none 0 0,.string ⟨#[]⟩,.int .i64 0,.int .i64 0,.string ⟨#[]⟩]:=X1.set 2 (.int .i64 n1) (by simp);have X1s:=gH X1s;clear m1 k1 X1)
  | (go_at_call 35;with_reducible refine (H2.out _ X1s.out.nr.ds).mono ?_;rintro e wy ⟨A,k,rfl,gy,my,ky⟩;have XY:=X1s.out.call ky my;have zy:=XY.lt;obtain ⟨zy0,zy1,zy2⟩:=zy;obtain ⟨e0,XT⟩:=row_lay XY y A k;have cy:=row22 XT;have XT:=gH XT;have GY:=gH gy;have XYL:=gH XY;have e1:=lvAct_row XT.out.row (actV_len _ _ _ _ _ _ _);have e2:=svAct_row (vs:=(actV { zAct with kind:=10,n:=n1,row:=y } none 0 none 0 A k)) XT.out.nr.res rfl (actV_len _ _ _ _ _ _ _) (actV_one _ _ _ _ _ _ _);clear my ky gy XY))
 have XR:=XT.out.nr.sets (cs:=(actV { zAct with kind:=10,n:=n1,row:=y } none 0 none 0 A k)) rfl
 refine bodyPost_ret (results_cell rfl _ rfl (lv_row (T:=43) Tryz.underlying43 (by kernel_rfl) XR.res (actV_len _ _ _ _ _ _ _))) rfl ?_
 have S:=X1s.out.lt
 have S2:=X1s.out.nr.kw.size
 have KA:=kb_setCellsD (w.heap.size+1) (ropV y A k) wy 24
 have KB:=kb_setCellsD w.heap.size (actV { zAct with kind:=10,n:=n1,row:=y } none 0 none 0 A k) (wy.setCells (w.heap.size+1) 24 (ropV y A k)) 0
 exact ⟨XR.kw,_,rfl,⟨none,0,none,0,A,k,rfl,colsN_nil _ _ _ HB.out,namesN_nil _ _ _ HB.out,((GY.out.1.hi KA (fun g e=>by have e':g=w.heap.size+1:=e;omega)).hi KB (fun g e=>by have e':g=w.heap.size:=e;omega)).down S2 HB.out,cmdZ_z,GY.out.2⟩,XR.ds⟩
theorem act_dn (b p:Nat) (W:Ws) (d:Bool) (w:World) (hl:LnS w b p W d):Calls Tryz.prog 21 #[.pointer (some ⟨b,0,none⟩)] w (RdN b p w (ActN b w.heap.size) (actD W d)):=by
 obtain ⟨f,W0,d0,q0⟩:∃ a c e,wordD W d=(a,c,e):=⟨_,_,_,rfl⟩
 cases h0:eqS f b_tick with
 | true=>exact actN_tick f W d W0 d0 q0 h0 b p w hl
 | false =>
 cases h1:eqS f b_world with
 | true=>exact actN_world f W d W0 d0 q0 h0 h1 b p w hl
 | false =>
 cases h2:eqS f b_start with
 | true=>exact actN_start f W d W0 d0 q0 h0 h1 h2 b p w hl
 | false =>
 cases h3:eqS f b_deliver with
 | true=>exact actN_deliver f W d W0 d0 q0 h0 h1 h2 h3 b p w hl
 | false =>
 cases h4:eqS f b_drop with
 | true=>exact actN_drop f W d W0 d0 q0 h0 h1 h2 h3 h4 b p w hl
 | false =>
 cases h5:eqS f b_double with
 | true=>exact actN_double f W d W0 d0 q0 h0 h1 h2 h3 h4 h5 b p w hl
 | false =>
 cases h6:eqS f b_ask with
 | true=>exact actN_ask f W d W0 d0 q0 h0 h1 h2 h3 h4 h5 h6 b p w hl
 | false =>
 cases h7:eqS f b_read with
 | true=>exact actN_read f W d W0 d0 q0 h0 h1 h2 h3 h4 h5 h6 h7 b p w hl
 | false =>
 cases h8:eqS f b_learner with
 | true=>exact actN_learner f W d W0 d0 q0 h0 h1 h2 h3 h4 h5 h6 h7 h8 b p w hl
 | false =>
 cases h9:eqS f b_voter with
 | true=>exact actN_voter f W d W0 d0 q0 h0 h1 h2 h3 h4 h5 h6 h7 h8 h9 b p w hl
 | false =>
 cases h10:eqS f b_remove with
 | true=>exact actN_remove f W d W0 d0 q0 h0 h1 h2 h3 h4 h5 h6 h7 h8 h9 h10 b p w hl
 | false =>
 cases h11:eqS f b_lease with
 | true=>exact actN_lease f W d W0 d0 q0 h0 h1 h2 h3 h4 h5 h6 h7 h8 h9 h10 h11 b p w hl
 | false =>
 cases h12:eqS f b_row with
 | true=>exact actN_row f W d W0 d0 q0 h0 h1 h2 h3 h4 h5 h6 h7 h8 h9 h10 h11 h12 b p w hl
 | false =>
 cases h13:eqS f b_crash with
 | true=>exact actN_crash f W d W0 d0 q0 h0 h1 h2 h3 h4 h5 h6 h7 h8 h9 h10 h11 h12 h13 b p w hl
 | false =>
 exact actN_none f W d W0 d0 q0 h0 h1 h2 h3 h4 h5 h6 h7 h8 h9 h10 h11 h12 h13 b p w hl
theorem flat_names:∀ l:Ws,l.flatMap nameC=l.map Value.string
 | []=>rfl
 | a::l=>by rw [List.flatMap_cons,flat_names l];rfl
theorem own_pcs {w:World} {B:Nat} {A:Option Addr} {c:Nat} {l:Ws} (h:w.ownsRow B 9 1 (.slice A l.length c) l.length (l.flatMap nameC)) (hn:l≠[]) (hz:∀ x∈l,x.size≤4096):∃ g,A=some ⟨g,0,none⟩∧B≤g∧Pcs w g 0 c l:=by
 have h':=h
 obtain ⟨_,h | ⟨g,cap,cur,hv,hB,hg,hc,_⟩⟩:=h
 ·exact absurd (List.eq_nil_of_length_eq_zero h.2) hn
 ·injection hv with e1 e2 e3
  subst e1
  subst e3
  refine ⟨g,rfl,hB,hc,(h'.lt g rfl).2,fun i hi=>⟨?_,hz _ (List.getElem_mem hi)⟩⟩
  rw [Nat.zero_add,h'.cellAt i (by simpa using hi)]
  rw [flat_names,List.getElem?_map,List.getElem?_eq_getElem hi];rfl
theorem OwnR.new {α:Type} {ty:TypeId} {size:Nat} {cells:α→List Value} {b B:Nat} {w w':World} {v:Value} {l:List α} (h:OwnR ty size cells b B w v l) (k:Kb (fun j=>j=w.heap.size) w w'):OwnR ty size cells b B w' v l:=by
 obtain ⟨hd,h1,h2,h3⟩:=h
 exact ⟨hd,h1,own_kb h2 k (fun g hg e=>by have:=(h2.lt g hg).2;have e':g=w.heap.size:=e;omega),h3⟩
theorem results_ct {fn:Func} {a u:Tmp} {t:TypeId} (h:fn.results=#[.cell a t,.tmp u]) (tmps:Array Value) {P:Program} {w:World} {p:Addr} {v x:Value} (ha:tmps.getD a undef=.pointer (some p)) (hl:(loadVar t p).run P w=.ok v w) (hu:tmps.getD u undef=x) :
  (results fn tmps).run P w=.ok (.tuple #[v,x]) w:=by
 rw [Array.getD_eq_getD_getElem?] at ha hu
 simp [results,h,ha,hu,asAddr,hl]
def ParseR (w:World) (o:Option Dact) (e:Ending) (w':World):Prop :=
 Aft w w'∧match o with
 | some a=>∃ b B v,w.heap.size≤b∧ActN b B w' v a∧e=.returned (.tuple #[v,.int .i64 0])
 | none=>e=.returned (.tuple #[.agg zs33.toArray,.int .i64 230])
theorem rp_lay {w2:World} {b g r:Nat} {W':Ws} {d':Bool} (h:LnS w2 b g W' d') (rp:RowAt w2 r zs33) (av:List Value) (hl:av.length=33) (h1:∀ v∈av,v.oneCell'=true) :
  ∃ V5,(svAct ⟨w2.heap.size,0,none⟩ (.agg av.toArray)).run Tryz.prog (w2.alloc (.cells zs33.toArray 43))=.ok () V5∧V5.cell? ⟨b,1,none⟩=some (.bool d')∧(∃ o c,V5.cell? ⟨b,0,none⟩=some (.slice (some ⟨g,o,none⟩) W'.length c))∧b < V5.heap.size∧(lvAct ⟨w2.heap.size,0,none⟩).run Tryz.prog V5=.ok (.agg av.toArray) V5 ∧
   (∃ V6,(svAct ⟨r,0,none⟩ (.agg av.toArray)).run Tryz.prog V5=.ok () V6∧RowAt V6 r av∧Kb (fun j=>j=r) V5 V6)∧(∃ V7,(svAct ⟨r,0,none⟩ (.agg zs33.toArray)).run Tryz.prog V5=.ok () V7∧RowAt V7 r zs33∧Kb (fun j=>j=r) V5 V7)∧Kb (fun j=>j=w2.heap.size) w2 V5:=by
 have r0:=rowAt_newD w2 zs33 43
 have kb:=kb_setCellsD w2.heap.size av (w2.alloc (.cells zs33.toArray 43)) 0
 have k5:=(Kb.of_aft (P:=fun j=>j=w2.heap.size) ((Aft.refl w2).alloc (.cells zs33.toArray 43))).trans kb
 have r5:RowAt ((w2.alloc (.cells zs33.toArray 43)).setCells w2.heap.size 0 av) w2.heap.size av:=by simpa using row_setCells av _ [] zs33 r0 (by rw [hl];rfl)
 have hb:=h.lt
 have hr:=rp.1
 have l5:=h.kb k5 (by omega) (by have:=h.plt;omega)
 have p5:=k5.row rp (by omega)
 obtain ⟨o,c,rr,_⟩:=l5.ex
 have e6:=kb_setCellsD r av ((w2.alloc (.cells zs33.toArray 43)).setCells w2.heap.size 0 av) 0
 have e7:=kb_setCellsD r zs33 ((w2.alloc (.cells zs33.toArray 43)).setCells w2.heap.size 0 av) 0
 exact ⟨_,svAct_row r0 rfl hl h1,l5.c1,⟨o,c,rr.cell (j:=0) rfl⟩,l5.lt,lvAct_row r5 hl,⟨_,svAct_row p5 rfl hl h1,by simpa using row_setCells av _ [] zs33 p5 (by rw [hl];rfl),e6⟩,⟨_,svAct_row p5 rfl rfl (by simp [zs33,Value.oneCell']),by simpa using row_setCells zs33 _ [] zs33 p5 rfl,e7⟩,k5⟩
theorem refparse_dn (s:ByteArray) (w:World) (hs:Small s.size):Calls Tryz.prog 7 #[.string s] w (ParseR w (parseD s)):=by
 have hlen:=hs
 obtain ⟨W,hW⟩:∃ W,W=w.alloc (.cells z33.toArray 43):=⟨_,rfl⟩
 have aW:Aft w W:=by rw [hW];exact (Aft.refl w).alloc _
 have rp:RowAt W w.heap.size zs33:=by rw [hW];exact rowAt_newD w zs33 _
 have zW:W.heap.size=w.heap.size+1:=by rw [hW];simp
 delta z33 at hW
 by_cases h4:s.size≤4096
 ·have h5:¬ (4096:Int) < (s.size:Int):=by omega
  have HCU:=gH (show Calls Tryz.prog 20 #[.string s,.int .u8 32] W fun e w1=>∃ g c,e=.returned (.slice (some ⟨g,0,none⟩) (wordsB s).length c)∧Aft W w1∧LnS (w1.alloc (.cells #[.slice (some ⟨g,0,none⟩) (wordsB s).length c,.bool false] 65)) w1.heap.size g (wordsB s) false from (cut_dn 32 32 rfl s W h4).mono fun e w1 ⟨a,hd,h1,h2⟩=>by
   obtain ⟨g,hA,hg,hp⟩:=own_pcs (l:=wordsB s) h2 (words_ne s) (fun x hx=>Nat.le_trans (words_each hx) h4)
   refine ⟨g,hd.c,by rw [h1,hA];rfl,a,⟨⟨0,hd.c,rowAt_newD w1 [.slice (some ⟨g,0,none⟩) (wordsB s).length hd.c,.bool false] _,hp.kb (P:=fun _=>False) (Kb.of_aft ((Aft.refl w1).alloc _)) id⟩,by have:=hp.2.1;omega,by have:=words_len s;omega⟩⟩)
  obtain ⟨a,W',d',hq⟩:∃ a W' d',actD (wordsB s) false=(a,W',d'):=⟨_,_,_,rfl⟩
  have HPD:=gH (show parseD s=if d' || !W'.isEmpty then none else some a from by unfold parseD;rw [if_pos h4,hq])
  have HR:=gH (And.intro rp (And.intro aW zW))
  have HQ:=gH hq
  have HAC:=gH (show ∀ w1 g c,Aft W w1→LnS (w1.alloc (.cells #[.slice (some ⟨g,0,none⟩) (wordsB s).length c,.bool false] 65)) w1.heap.size g (wordsB s) false→Calls Tryz.prog 21 #[.pointer (some ⟨w1.heap.size,0,none⟩)] (w1.alloc (.cells #[.slice (some ⟨g,0,none⟩) (wordsB s).length c,.bool false] 65)) fun e w2=>∃ A k A2 k2 A3 k3,e=.returned (.agg (actV a A k A2 k2 A3 k3).toArray)∧ActN w1.heap.size (w1.heap.size+1) w2 (.agg (actV a A k A2 k2 A3 k3).toArray) a∧LnS w2 w1.heap.size g W' d'∧Aft w w2∧RowAt w2 w.heap.size zs33∧w.heap.size < w1.heap.size from fun w1 g c a1 l1=>by
   refine (act_dn w1.heap.size g (wordsB s) false _ l1).mono ?_
   rintro e w2 ⟨k,v,rfl,h1,l2⟩
   rw [hq] at h1 l2
   have ax:=a1.alloc (.cells #[.slice (some ⟨g,0,none⟩) (wordsB s).length c,.bool false] 65)
   have hz1:=a1.size
   have kb:=(Kb.of_aft (P:=fun j=>j=w1.heap.size) ax).trans k
   obtain ⟨A,k1,A2,k2,A3,k3,rfl,h2⟩:=h1
   refine ⟨A,k1,A2,k2,A3,k3,rfl,⟨A,k1,A2,k2,A3,k3,rfl,?_⟩,l2,kb.to_aft aW (fun j hj e=>by have:j=w1.heap.size:=e;omega),kb.row rp (by omega),by omega⟩
   have e:(w1.alloc (.cells #[.slice (some ⟨g,0,none⟩) (wordsB s).length c,.bool false] 65)).heap.size=w1.heap.size+1:=by simp
   rw [e] at h2
   exact h2)
  clear rp aW zW hq
  cases d'
  all_goals
   cases W'
   all_goals
    go_enter Tryz.func7,Tryz.ntmps7
    go_upto_region 1 with fail
    rw [← hW]
    clear hW
    go_wp2_with (first
     | (go_at_call 20;with_reducible refine HCU.out.mono ?_;rintro e w1 ⟨g,c,rfl,a1,l1⟩;have HL:=gH l1;have HA:=gH a1;clear l1 a1)
     | (go_at_call 21;with_reducible refine (HAC.out _ _ _ HA.out HL.out).mono ?_;rintro e w2 ⟨A,k,A2,k2,A3,k3,rfl,ga,l2,a2,r2,hlt⟩;obtain ⟨V5,e0,y1,⟨o,c',y0⟩,yb,e1,⟨V6,e6,r6,k6⟩,⟨V7,e7,r7,k7⟩,k5⟩:=rp_lay l2 r2 (actV a A k A2 k2 A3 k3) (actV_len _ _ _ _ _ _ _) (actV_one _ _ _ _ _ _ _);unfold zs33 at e0 e7;delta z33 at e0 e7;have R6:=gH (And.intro r6 k6);have R7:=gH (And.intro r7 k7);have R5:=gH (And.intro ga (And.intro a2 (And.intro k5 (And.intro l2 hlt))));clear r6 k6 r7 k7 k5 ga a2 l2 r2))
    first
    | (
     refine bodyPost_ret (results_ct rfl _ rfl (lvAct_row (cs:=zs33) R7.out.1 rfl) rfl) rfl ?_
     rw [HPD.out]
     have kk:=(R5.out.2.2.1.mono (Q:=fun j=>j=w2.heap.size∨j=w.heap.size) fun j _ e=>.inl e).trans (R7.out.2.mono fun j _ e=>.inr e)
     have hz2:=R5.out.2.1.size
     exact ⟨kk.to_aft R5.out.2.1 (fun j hj e=>by rcases e with e | e<;>omega),rfl⟩
     done)
    | (
     refine bodyPost_ret (results_ct rfl _ rfl (lvAct_row (cs:=(actV a A k A2 k2 A3 k3)) R6.out.1 (actV_len _ _ _ _ _ _ _)) rfl) rfl ?_
     rw [HPD.out]
     have kk:=(R5.out.2.2.1.mono (Q:=fun j=>j=w2.heap.size∨j=w.heap.size) fun j _ e=>.inl e).trans (R6.out.2.mono fun j _ e=>.inr e)
     have hz2:=R5.out.2.1.size
     have hlt:=R5.out.2.2.2.2
     obtain ⟨B1,n1,B2,n2,B3,n3,hv,h1,h2,h3,h4,h5⟩:=R5.out.1
     have hp:∀ j,j=w.heap.size→j < w1.heap.size+1:=fun j e=>by omega
     exact ⟨kk.to_aft R5.out.2.1 (fun j hj e=>by rcases e with e | e<;>omega),w1.heap.size,w1.heap.size+1,_,by omega,⟨B1,n1,B2,n2,B3,n3,hv,⟨(h1.1.new R5.out.2.2.1).hi R6.out.2 hp,h1.2⟩,⟨(h2.1.new R5.out.2.2.1).hi R6.out.2 hp,h2.2⟩,⟨(h3.1.new R5.out.2.2.1).hi R6.out.2 hp,h3.2⟩,h4,h5⟩,rfl⟩)
 ·have h5:(4096:Int) < (s.size:Int):=by omega
  have hst:(svAct ⟨w.heap.size,0,none⟩ (.agg z33.toArray)).run Tryz.prog W=.ok () (W.setCells w.heap.size 0 zs33):=sv_row (T:=43) (k:=33) (vs:=zs33) (by kernel_rfl) rp rfl rfl (by simp [zs33,Value.oneCell'])
  delta z33 at hst
  have kb:=kb_setCellsD w.heap.size zs33 W 0
  have r1:RowAt (W.setCells w.heap.size 0 zs33) w.heap.size zs33:=by simpa using row_setCells zs33 W [] zs33 rp rfl
  have a2:=kb.to_aft aW (fun g hg e=>by have:g=w.heap.size:=e;omega)
  have HR:=gH (And.intro r1 a2)
  have HN:=gH (show parseD s=none from by unfold parseD;rw [if_neg h4])
  clear rp aW zW kb r1 a2
  go_enter Tryz.func7,Tryz.ntmps7
  go_upto_region 1 with fail
  rw [← hW]
  clear hW
  go_wp2_with fail
  refine bodyPost_ret (results_ct rfl _ rfl (lvAct_row (cs:=zs33) HR.out.1 rfl) rfl) rfl ?_
  rw [HN.out]
  exact ⟨HR.out.2,rfl⟩
end Go.Proofs.YtbdanlipghhgpaaGreatDoor
