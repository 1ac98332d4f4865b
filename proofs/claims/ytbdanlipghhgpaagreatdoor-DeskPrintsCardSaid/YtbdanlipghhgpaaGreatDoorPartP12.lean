import Derived.Test.YtbdanlipghhgpaaGreatDoorPartP11
namespace Go.Proofs.YtbdanlipghhgpaaGreatDoor
open Go.RowKit Go.Deep
set_option maxRecDepth 100000
set_option linter.unusedVariables false
set_option maxHeartbeats 64000000
theorem itP {c:Prop} [Decidable c] {a b:Int} (ha:0≤a∧a≤15) (hb:0≤b∧b≤15):0≤(if c then a else b)∧(if c then a else b)≤15:=by split<;>assumption
theorem kind_range (s:ByteArray):kindB s=0∨kindB s=1∨kindB s=2∨kindB s=3∨kindB s=4∨kindB s=5∨kindB s=6∨kindB s=7∨kindB s=8∨kindB s=9∨kindB s=10∨kindB s=11∨kindB s=12∨kindB s=13∨kindB s=14∨kindB s=15:=by
 have h:0≤kindB s∧kindB s≤15:=by
  unfold kindB
  repeat refine itP (by decide) ?_
  decide
 omega
theorem command_dn (b p:Nat) (W:Ws) (d:Bool) (w:World) (hl:LnS w b p W d):Calls Tryz.prog 34 #[.pointer (some ⟨b,0,none⟩)] w (RdN b p w (CmdN b w.heap.size) (cmdD W d)):=by
 obtain ⟨f,W0,d0,q0⟩:∃ a c e,wordD W d=(a,c,e):=⟨_,_,_,rfl⟩
 rcases kind_range f with h | h | h | h | h | h | h | h | h | h | h | h | h | h | h | h
 ·exact commandN_0 f W d W0 d0 q0 h b p w hl
 ·exact commandN_1 f W d W0 d0 q0 h b p w hl
 ·exact commandN_2 f W d W0 d0 q0 h b p w hl
 ·exact commandN_3 f W d W0 d0 q0 h b p w hl
 ·exact commandN_4 f W d W0 d0 q0 h b p w hl
 ·exact commandN_5 f W d W0 d0 q0 h b p w hl
 ·exact commandN_6 f W d W0 d0 q0 h b p w hl
 ·exact commandN_7 f W d W0 d0 q0 h b p w hl
 ·exact commandN_8 f W d W0 d0 q0 h b p w hl
 ·exact commandN_9 f W d W0 d0 q0 h b p w hl
 ·exact commandN_10 f W d W0 d0 q0 h b p w hl
 ·exact commandN_11 f W d W0 d0 q0 h b p w hl
 ·exact commandN_12 f W d W0 d0 q0 h b p w hl
 ·exact commandN_13 f W d W0 d0 q0 h b p w hl
 ·exact commandN_14 f W d W0 d0 q0 h b p w hl
 ·exact commandN_15 f W d W0 d0 q0 h b p w hl
def SzV (c:Val):Prop:=c.text.size≤4096
def ValsN (b B:Nat) (w':World) (v:Value) (l:List Val):Prop:=OwnR 39 3 valC b B w' v l∧l.length≤4098∧∀ c∈l,SzV c
theorem ValsN.hi {b B:Nat} {w w':World} {v:Value} {l:List Val} {P:Nat→Prop} (h:ValsN b B w v l) (k:Kb P w w') (hp:∀ g,P g→g < B):ValsN b B w' v l:=⟨h.1.hi k hp,h.2⟩
theorem ValsN.down {b B B0:Nat} {w:World} {v:Value} {l:List Val} (h:ValsN b B w v l) (hB:B0≤B) (hb:b < B0):ValsN b B0 w v l:=⟨h.1.down hB hb,h.2⟩
theorem valsN_nil (b B:Nat) (w:World) (hb:b < B):ValsN b B w (.slice none 0 0) []:=⟨own_nilD _ _ _ b B w hb,by simp,by simp⟩
def RopN (b B:Nat) (w':World) (v:Value) (x:ROp):Prop :=
 ∃ A k,v=.agg (ropV x A k).toArray∧ValsN b B w' (.slice A x.row.length k) x.row∧SzS x.role∧SzS x.schema∧SzS x.table∧SzS x.col∧SzS x.v.text
theorem svVal_at {V:World} {x n:Nat} {pre mid post vs:List Value} (h:RowAt V x (pre++(mid++post))) (hp:pre.length=n) (hm:mid.length=3) (hv:vs.length=3) (h1:∀ v∈vs,v.oneCell'=true) :
  (svVal ⟨x,n,none⟩ (.agg vs.toArray)).run Tryz.prog V=.ok () (V.setCells x n vs):=by
 subst hp
 exact sv_at (T:=39) (by kernel_rfl) h hm hv h1
theorem Nx.xb {b p r x:Nat} {w V:World} {W:Ws} {d:Bool} {zs cs:List Value} (X:Nx b p r x w V W d zs cs):¬ x=b:=by have:=X.nr.fb;have:=X.fx;omega
theorem Nx.bx {b p r x:Nat} {w V:World} {W:Ws} {d:Bool} {zs cs:List Value} (X:Nx b p r x w V W d zs cs):¬ b=x:=by have:=X.nr.fb;have:=X.fx;omega
theorem rowN_remove (f:ByteArray) (W:Ws) (d:Bool) (W0:Ws) (d0:Bool) (q0:wordD W d=(f,W0,d0)) (s1:ByteArray) (W1:Ws) (d1:Bool) (q1:nameD W0 d0=(s1,W1,d1)) (s2:ByteArray) (W2:Ws) (d2:Bool) (q2:nameD W1 d1=(s2,W2,d2)) (s3:ByteArray) (W3:Ws) (d3:Bool) (q3:nameD W2 d2=(s3,W3,d3)) (hr0:eqS f b_insert=false) (hr:eqS f b_remove=true) (b p:Nat) (w:World) (hl:LnS w b p W d):Calls Tryz.prog 35 #[.pointer (some ⟨b,0,none⟩)] w (RdN b p w (RopN b w.heap.size) (rowD W d)):=by
 obtain ⟨s4,W4,d4,q4⟩:∃ a c e,nameD W3 d3=(a,c,e):=⟨_,_,_,rfl⟩
 obtain ⟨v5,W5,d5,q5⟩:∃ a c e,valD W4 d4=(a,c,e):=⟨_,_,_,rfl⟩
 have H4:=gH (lname_at (b:=b) (p:=p) q4)
 have H5:=gH (lval_at (b:=b) (p:=p) q5)
 have e:rowD W d=(⟨2,s1,s2,s3,[],s4,v5⟩,W5,d5):=by simp [rowD,bindD,q0,q1,q2,q3,q4,q5,hr0,hr]
 rw [e]
 have H0:=gH (lword_at (b:=b) (p:=p) q0)
 have H1:=gH (lname_at (b:=b) (p:=p) q1)
 have H2:=gH (lname_at (b:=b) (p:=p) q2)
 have H3:=gH (lname_at (b:=b) (p:=p) q3)
 have ihr0:=eqS_as hr0
 unfold b_insert at ihr0
 simp only at ihr0
 have ihr:=eqS_as hr
 unfold b_remove at ihr
 simp only at ihr
 have HX0:=gH (Nr.start hl [.int .i64 0,.string ⟨#[]⟩,.string ⟨#[]⟩,.string ⟨#[]⟩,.slice none 0 0,.string ⟨#[]⟩,.int .i64 0,.int .i64 0,.string ⟨#[]⟩] 41)
 have hb:=hl.lt
 have HB:=gH hb
 clear e hl q0 q1 q2 q3 q4 q5 hr0 hr
 go_enter Tryz.func35,Tryz.ntmps35
 go_wp2_with (first
  | (go_at_call 32;with_reducible refine (H0.out _ HX0.out.ds).mono ?_;rintro e w0 ⟨rfl,g0,l0,k0⟩;have X1:=(HX0.out.call k0 l0).box [.int .i64 0,.string ⟨#[]⟩,.string ⟨#[]⟩,.string ⟨#[]⟩,.slice none 0 0,.string ⟨#[]⟩,.int .i64 0,.int .i64 0,.string ⟨#[]⟩] 41;have z0:=X1.lt;obtain ⟨z00,z01,z02⟩:=z0;have X0s:=gH X1;clear l0 k0 X1)
  | (go_at_call 57;with_reducible refine (H1.out _ X0s.out.nr.ds).mono ?_;rintro e w1 ⟨rfl,g1,m1,k1⟩;have X1:=X0s.out.call k1 m1;obtain ⟨ca1,fa1⟩:=X1.cf 1 (by simp);have z1:=X1.lt;obtain ⟨z10,z11,z12⟩:=z1;have X1s:Nx b p w.heap.size w0.heap.size w _ _ _ [.int .i64 0,.string ⟨#[]⟩,.string ⟨#[]⟩,.string ⟨#[]⟩,.slice none 0 0,.string ⟨#[]⟩,.int .i64 0,.int .i64 0,.string ⟨#[]⟩] [.int .i64 0,.string s1,.string ⟨#[]⟩,.string ⟨#[]⟩,.slice none 0 0,.string ⟨#[]⟩,.int .i64 0,.int .i64 0,.string ⟨#[]⟩]:=X1.set 1 (.string s1) (by simp);have X1s:=gH X1s;clear m1 k1 X1)
  | (go_at_call 57;with_reducible refine (H2.out _ X1s.out.nr.ds).mono ?_;rintro e w2 ⟨rfl,g2,m2,k2⟩;have X2:=X1s.out.call k2 m2;obtain ⟨ca2,fa2⟩:=X2.cf 2 (by simp);have z2:=X2.lt;obtain ⟨z20,z21,z22⟩:=z2;have X2s:Nx b p w.heap.size w0.heap.size w _ _ _ [.int .i64 0,.string ⟨#[]⟩,.string ⟨#[]⟩,.string ⟨#[]⟩,.slice none 0 0,.string ⟨#[]⟩,.int .i64 0,.int .i64 0,.string ⟨#[]⟩] [.int .i64 0,.string s1,.string s2,.string ⟨#[]⟩,.slice none 0 0,.string ⟨#[]⟩,.int .i64 0,.int .i64 0,.string ⟨#[]⟩]:=X2.set 2 (.string s2) (by simp);have X2s:=gH X2s;clear m2 k2 X2)
  | (go_at_call 57;with_reducible refine (H3.out _ X2s.out.nr.ds).mono ?_;rintro e w3 ⟨rfl,g3,m3,k3⟩;have X3:=X2s.out.call k3 m3;obtain ⟨ca3,fa3⟩:=X3.cf 3 (by simp);obtain ⟨cz3,fz3⟩:=X3.cf 0 (by simp);have z3:=X3.lt;obtain ⟨z30,z31,z32⟩:=z3;have X3s:Nx b p w.heap.size w0.heap.size w _ _ _ [.int .i64 0,.string ⟨#[]⟩,.string ⟨#[]⟩,.string ⟨#[]⟩,.slice none 0 0,.string ⟨#[]⟩,.int .i64 0,.int .i64 0,.string ⟨#[]⟩] [.int .i64 2,.string s1,.string s2,.string s3,.slice none 0 0,.string ⟨#[]⟩,.int .i64 0,.int .i64 0,.string ⟨#[]⟩]:=(X3.set 3 (.string s3) (by simp)).set 0 (.int .i64 2) (by simp);have X3s:=gH X3s;clear m3 k3 X3)
  | (go_at_call 57;with_reducible refine (H4.out _ X3s.out.nr.ds).mono ?_;rintro e w4 ⟨rfl,g4,m4,k4⟩;have X4:=X3s.out.call k4 m4;obtain ⟨ca4,fa4⟩:=X4.cf 5 (by simp);have z4:=X4.lt;obtain ⟨z40,z41,z42⟩:=z4;have X4s:Nx b p w.heap.size w0.heap.size w _ _ _ [.int .i64 0,.string ⟨#[]⟩,.string ⟨#[]⟩,.string ⟨#[]⟩,.slice none 0 0,.string ⟨#[]⟩,.int .i64 0,.int .i64 0,.string ⟨#[]⟩] [.int .i64 2,.string s1,.string s2,.string s3,.slice none 0 0,.string s4,.int .i64 0,.int .i64 0,.string ⟨#[]⟩]:=X4.set 5 (.string s4) (by simp);have X4s:=gH X4s;clear m4 k4 X4)
  | (go_at_call 60;with_reducible refine (H5.out _ X4s.out.nr.ds).mono ?_;rintro e w5 ⟨rfl,g5,m5,k5⟩;have X5:=X4s.out.call k5 m5;have z5:=X5.lt;obtain ⟨z50,z51,z52⟩:=z5;have e0:=svVal_at (n:=6) (pre:=[.int .i64 2,.string s1,.string s2,.string s3,.slice none 0 0,.string s4]) (mid:=[.int .i64 0,.int .i64 0,.string ⟨#[]⟩]) (post:=[]) (vs:=[.int .i64 v5.kind,.int .i64 v5.int,.string v5.text]) X5.row rfl rfl rfl (by simp [Value.oneCell']);have X5t:=X5.setsAt (pre:=[.int .i64 2,.string s1,.string s2,.string s3,.slice none 0 0,.string s4]) (mid:=[.int .i64 0,.int .i64 0,.string ⟨#[]⟩]) (post:=[]) (n:=6) (vs:=[.int .i64 v5.kind,.int .i64 v5.int,.string v5.text]) rfl rfl;have X5s:Nx b p w.heap.size w0.heap.size w _ _ _ [.int .i64 0,.string ⟨#[]⟩,.string ⟨#[]⟩,.string ⟨#[]⟩,.slice none 0 0,.string ⟨#[]⟩,.int .i64 0,.int .i64 0,.string ⟨#[]⟩] [.int .i64 2,.string s1,.string s2,.string s3,.slice none 0 0,.string s4,.int .i64 v5.kind,.int .i64 v5.int,.string v5.text]:=X5t;have X5s:=gH X5s;have e1:=lvRop_row X5s.out.row rfl;have e2:=svRop_row X5s.out.nr.res rfl rfl (vs:=[.int .i64 2,.string s1,.string s2,.string s3,.slice none 0 0,.string s4,.int .i64 v5.kind,.int .i64 v5.int,.string v5.text]) (by simp [Value.oneCell']);clear m5 k5 X5 X5t))
 have XR:=X5s.out.nr.sets (cs:=[.int .i64 2,.string s1,.string s2,.string s3,.slice none 0 0,.string s4,.int .i64 v5.kind,.int .i64 v5.int,.string v5.text]) rfl
 refine bodyPost_ret (results_cell rfl _ rfl (lv_row (T:=41) Tryz.underlying41 (by kernel_rfl) XR.res rfl)) rfl ?_
 exact ⟨XR.kw,_,rfl,⟨none,0,rfl,valsN_nil _ _ _ HB.out,g1,g2,g3,g4,g5⟩,XR.ds⟩
theorem rowN_selnone (f:ByteArray) (W:Ws) (d:Bool) (W0:Ws) (d0:Bool) (q0:wordD W d=(f,W0,d0)) (s1:ByteArray) (W1:Ws) (d1:Bool) (q1:nameD W0 d0=(s1,W1,d1)) (s2:ByteArray) (W2:Ws) (d2:Bool) (q2:nameD W1 d1=(s2,W2,d2)) (s3:ByteArray) (W3:Ws) (d3:Bool) (q3:nameD W2 d2=(s3,W3,d3)) (hr0:eqS f b_insert=false) (hr1:eqS f b_remove=false) (hr:eqS f b_select=true) (hm:moreD W3 d3=false) (b p:Nat) (w:World) (hl:LnS w b p W d):Calls Tryz.prog 35 #[.pointer (some ⟨b,0,none⟩)] w (RdN b p w (RopN b w.heap.size) (rowD W d)):=by
 have e:rowD W d=(⟨3,s1,s2,s3,[],zBy,zVal⟩,W3,d3):=by simp [rowD,bindD,q0,q1,q2,q3,hm,hr0,hr1,hr]
 rw [e]
 have H0:=gH (lword_at (b:=b) (p:=p) q0)
 have H1:=gH (lname_at (b:=b) (p:=p) q1)
 have H2:=gH (lname_at (b:=b) (p:=p) q2)
 have H3:=gH (lname_at (b:=b) (p:=p) q3)
 have HM:=gH (lmore_at (b:=b) (p:=p) hm)
 have ihr0:=eqS_as hr0
 unfold b_insert at ihr0
 simp only at ihr0
 have ihr1:=eqS_as hr1
 unfold b_remove at ihr1
 simp only at ihr1
 have ihr:=eqS_as hr
 unfold b_select at ihr
 simp only at ihr
 have HX0:=gH (Nr.start hl [.int .i64 0,.string ⟨#[]⟩,.string ⟨#[]⟩,.string ⟨#[]⟩,.slice none 0 0,.string ⟨#[]⟩,.int .i64 0,.int .i64 0,.string ⟨#[]⟩] 41)
 have hb:=hl.lt
 have HB:=gH hb
 clear e hl q0 q1 q2 q3 hm hr0 hr1 hr
 go_enter Tryz.func35,Tryz.ntmps35
 go_wp2_with (first
  | (go_at_call 32;with_reducible refine (H0.out _ HX0.out.ds).mono ?_;rintro e w0 ⟨rfl,g0,l0,k0⟩;have X1:=(HX0.out.call k0 l0).box [.int .i64 0,.string ⟨#[]⟩,.string ⟨#[]⟩,.string ⟨#[]⟩,.slice none 0 0,.string ⟨#[]⟩,.int .i64 0,.int .i64 0,.string ⟨#[]⟩] 41;have z0:=X1.lt;obtain ⟨z00,z01,z02⟩:=z0;have X0s:=gH X1;clear l0 k0 X1)
  | (go_at_call 57;with_reducible refine (H1.out _ X0s.out.nr.ds).mono ?_;rintro e w1 ⟨rfl,g1,m1,k1⟩;have X1:=X0s.out.call k1 m1;obtain ⟨ca1,fa1⟩:=X1.cf 1 (by simp);have z1:=X1.lt;obtain ⟨z10,z11,z12⟩:=z1;have X1s:Nx b p w.heap.size w0.heap.size w _ _ _ [.int .i64 0,.string ⟨#[]⟩,.string ⟨#[]⟩,.string ⟨#[]⟩,.slice none 0 0,.string ⟨#[]⟩,.int .i64 0,.int .i64 0,.string ⟨#[]⟩] [.int .i64 0,.string s1,.string ⟨#[]⟩,.string ⟨#[]⟩,.slice none 0 0,.string ⟨#[]⟩,.int .i64 0,.int .i64 0,.string ⟨#[]⟩]:=X1.set 1 (.string s1) (by simp);have X1s:=gH X1s;clear m1 k1 X1)
  | (go_at_call 57;with_reducible refine (H2.out _ X1s.out.nr.ds).mono ?_;rintro e w2 ⟨rfl,g2,m2,k2⟩;have X2:=X1s.out.call k2 m2;obtain ⟨ca2,fa2⟩:=X2.cf 2 (by simp);have z2:=X2.lt;obtain ⟨z20,z21,z22⟩:=z2;have X2s:Nx b p w.heap.size w0.heap.size w _ _ _ [.int .i64 0,.string ⟨#[]⟩,.string ⟨#[]⟩,.string ⟨#[]⟩,.slice none 0 0,.string ⟨#[]⟩,.int .i64 0,.int .i64 0,.string ⟨#[]⟩] [.int .i64 0,.string s1,.string s2,.string ⟨#[]⟩,.slice none 0 0,.string ⟨#[]⟩,.int .i64 0,.int .i64 0,.string ⟨#[]⟩]:=X2.set 2 (.string s2) (by simp);have X2s:=gH X2s;clear m2 k2 X2)
  | (go_at_call 57;with_reducible refine (H3.out _ X2s.out.nr.ds).mono ?_;rintro e w3 ⟨rfl,g3,m3,k3⟩;have X3:=X2s.out.call k3 m3;obtain ⟨ca3,fa3⟩:=X3.cf 3 (by simp);obtain ⟨cz3,fz3⟩:=X3.cf 0 (by simp);have z3:=X3.lt;obtain ⟨z30,z31,z32⟩:=z3;have X3s:Nx b p w.heap.size w0.heap.size w _ _ _ [.int .i64 0,.string ⟨#[]⟩,.string ⟨#[]⟩,.string ⟨#[]⟩,.slice none 0 0,.string ⟨#[]⟩,.int .i64 0,.int .i64 0,.string ⟨#[]⟩] [.int .i64 3,.string s1,.string s2,.string s3,.slice none 0 0,.string ⟨#[]⟩,.int .i64 0,.int .i64 0,.string ⟨#[]⟩]:=(X3.set 3 (.string s3) (by simp)).set 0 (.int .i64 3) (by simp);have X3s:=gH X3s;have e1:=lvRop_row X3s.out.row rfl;have e2:=svRop_row X3s.out.nr.res rfl rfl (vs:=[.int .i64 3,.string s1,.string s2,.string s3,.slice none 0 0,.string ⟨#[]⟩,.int .i64 0,.int .i64 0,.string ⟨#[]⟩]) (by simp [Value.oneCell']);clear m3 k3 X3)
  | (go_at_call 54;with_reducible refine (HM.out _ X3s.out.nr.ds).mono ?_;rintro e wm ⟨rfl,rfl⟩))
 have XR:=X3s.out.nr.sets (cs:=[.int .i64 3,.string s1,.string s2,.string s3,.slice none 0 0,.string ⟨#[]⟩,.int .i64 0,.int .i64 0,.string ⟨#[]⟩]) rfl
 refine bodyPost_ret (results_cell rfl _ rfl (lv_row (T:=41) Tryz.underlying41 (by kernel_rfl) XR.res rfl)) rfl ?_
 exact ⟨XR.kw,_,rfl,⟨none,0,rfl,valsN_nil _ _ _ HB.out,g1,g2,g3,szZ,szZ⟩,XR.ds⟩
theorem rowN_selsome (f:ByteArray) (W:Ws) (d:Bool) (W0:Ws) (d0:Bool) (q0:wordD W d=(f,W0,d0)) (s1:ByteArray) (W1:Ws) (d1:Bool) (q1:nameD W0 d0=(s1,W1,d1)) (s2:ByteArray) (W2:Ws) (d2:Bool) (q2:nameD W1 d1=(s2,W2,d2)) (s3:ByteArray) (W3:Ws) (d3:Bool) (q3:nameD W2 d2=(s3,W3,d3)) (hr0:eqS f b_insert=false) (hr1:eqS f b_remove=false) (hr:eqS f b_select=true) (hm:moreD W3 d3=true) (b p:Nat) (w:World) (hl:LnS w b p W d):Calls Tryz.prog 35 #[.pointer (some ⟨b,0,none⟩)] w (RdN b p w (RopN b w.heap.size) (rowD W d)):=by
 obtain ⟨s4,W4,d4,q4⟩:∃ a c e,nameD W3 d3=(a,c,e):=⟨_,_,_,rfl⟩
 obtain ⟨v5,W5,d5,q5⟩:∃ a c e,valD W4 d4=(a,c,e):=⟨_,_,_,rfl⟩
 have H4:=gH (lname_at (b:=b) (p:=p) q4)
 have H5:=gH (lval_at (b:=b) (p:=p) q5)
 have e:rowD W d=(⟨3,s1,s2,s3,[],s4,v5⟩,W5,d5):=by simp [rowD,bindD,q0,q1,q2,q3,q4,q5,hm,hr0,hr1,hr]
 rw [e]
 have H0:=gH (lword_at (b:=b) (p:=p) q0)
 have H1:=gH (lname_at (b:=b) (p:=p) q1)
 have H2:=gH (lname_at (b:=b) (p:=p) q2)
 have H3:=gH (lname_at (b:=b) (p:=p) q3)
 have HM:=gH (lmore_at (b:=b) (p:=p) hm)
 have ihr0:=eqS_as hr0
 unfold b_insert at ihr0
 simp only at ihr0
 have ihr1:=eqS_as hr1
 unfold b_remove at ihr1
 simp only at ihr1
 have ihr:=eqS_as hr
 unfold b_select at ihr
 simp only at ihr
 have HX0:=gH (Nr.start hl [.int .i64 0,.string ⟨#[]⟩,.string ⟨#[]⟩,.string ⟨#[]⟩,.slice none 0 0,.string ⟨#[]⟩,.int .i64 0,.int .i64 0,.string ⟨#[]⟩] 41)
 have hb:=hl.lt
 have HB:=gH hb
 clear e hl q0 q1 q2 q3 q4 q5 hm hr0 hr1 hr
 go_enter Tryz.func35,Tryz.ntmps35
 go_wp2_with (first
  | (go_at_call 32;with_reducible refine (H0.out _ HX0.out.ds).mono ?_;rintro e w0 ⟨rfl,g0,l0,k0⟩;have X1:=(HX0.out.call k0 l0).box [.int .i64 0,.string ⟨#[]⟩,.string ⟨#[]⟩,.string ⟨#[]⟩,.slice none 0 0,.string ⟨#[]⟩,.int .i64 0,.int .i64 0,.string ⟨#[]⟩] 41;have z0:=X1.lt;obtain ⟨z00,z01,z02⟩:=z0;have X0s:=gH X1;clear l0 k0 X1)
  | (go_at_call 57;with_reducible refine (H1.out _ X0s.out.nr.ds).mono ?_;rintro e w1 ⟨rfl,g1,m1,k1⟩;have X1:=X0s.out.call k1 m1;obtain ⟨ca1,fa1⟩:=X1.cf 1 (by simp);have z1:=X1.lt;obtain ⟨z10,z11,z12⟩:=z1;have X1s:Nx b p w.heap.size w0.heap.size w _ _ _ [.int .i64 0,.string ⟨#[]⟩,.string ⟨#[]⟩,.string ⟨#[]⟩,.slice none 0 0,.string ⟨#[]⟩,.int .i64 0,.int .i64 0,.string ⟨#[]⟩] [.int .i64 0,.string s1,.string ⟨#[]⟩,.string ⟨#[]⟩,.slice none 0 0,.string ⟨#[]⟩,.int .i64 0,.int .i64 0,.string ⟨#[]⟩]:=X1.set 1 (.string s1) (by simp);have X1s:=gH X1s;clear m1 k1 X1)
  | (go_at_call 57;with_reducible refine (H2.out _ X1s.out.nr.ds).mono ?_;rintro e w2 ⟨rfl,g2,m2,k2⟩;have X2:=X1s.out.call k2 m2;obtain ⟨ca2,fa2⟩:=X2.cf 2 (by simp);have z2:=X2.lt;obtain ⟨z20,z21,z22⟩:=z2;have X2s:Nx b p w.heap.size w0.heap.size w _ _ _ [.int .i64 0,.string ⟨#[]⟩,.string ⟨#[]⟩,.string ⟨#[]⟩,.slice none 0 0,.string ⟨#[]⟩,.int .i64 0,.int .i64 0,.string ⟨#[]⟩] [.int .i64 0,.string s1,.string s2,.string ⟨#[]⟩,.slice none 0 0,.string ⟨#[]⟩,.int .i64 0,.int .i64 0,.string ⟨#[]⟩]:=X2.set 2 (.string s2) (by simp);have X2s:=gH X2s;clear m2 k2 X2)
  | (go_at_call 57;with_reducible refine (H3.out _ X2s.out.nr.ds).mono ?_;rintro e w3 ⟨rfl,g3,m3,k3⟩;have X3:=X2s.out.call k3 m3;obtain ⟨ca3,fa3⟩:=X3.cf 3 (by simp);obtain ⟨cz3,fz3⟩:=X3.cf 0 (by simp);have z3:=X3.lt;obtain ⟨z30,z31,z32⟩:=z3;have X3s:Nx b p w.heap.size w0.heap.size w _ _ _ [.int .i64 0,.string ⟨#[]⟩,.string ⟨#[]⟩,.string ⟨#[]⟩,.slice none 0 0,.string ⟨#[]⟩,.int .i64 0,.int .i64 0,.string ⟨#[]⟩] [.int .i64 3,.string s1,.string s2,.string s3,.slice none 0 0,.string ⟨#[]⟩,.int .i64 0,.int .i64 0,.string ⟨#[]⟩]:=(X3.set 3 (.string s3) (by simp)).set 0 (.int .i64 3) (by simp);have X3s:=gH X3s;clear m3 k3 X3)
  | (go_at_call 54;with_reducible refine (HM.out _ X3s.out.nr.ds).mono ?_;rintro e wm ⟨rfl,rfl⟩)
  | (go_at_call 57;with_reducible refine (H4.out _ X3s.out.nr.ds).mono ?_;rintro e w4 ⟨rfl,g4,m4,k4⟩;have X4:=X3s.out.call k4 m4;obtain ⟨ca4,fa4⟩:=X4.cf 5 (by simp);have z4:=X4.lt;obtain ⟨z40,z41,z42⟩:=z4;have X4s:Nx b p w.heap.size w0.heap.size w _ _ _ [.int .i64 0,.string ⟨#[]⟩,.string ⟨#[]⟩,.string ⟨#[]⟩,.slice none 0 0,.string ⟨#[]⟩,.int .i64 0,.int .i64 0,.string ⟨#[]⟩] [.int .i64 3,.string s1,.string s2,.string s3,.slice none 0 0,.string s4,.int .i64 0,.int .i64 0,.string ⟨#[]⟩]:=X4.set 5 (.string s4) (by simp);have X4s:=gH X4s;clear m4 k4 X4)
  | (go_at_call 60;with_reducible refine (H5.out _ X4s.out.nr.ds).mono ?_;rintro e w5 ⟨rfl,g5,m5,k5⟩;have X5:=X4s.out.call k5 m5;have z5:=X5.lt;obtain ⟨z50,z51,z52⟩:=z5;have e0:=svVal_at (n:=6) (pre:=[.int .i64 3,.string s1,.string s2,.string s3,.slice none 0 0,.string s4]) (mid:=[.int .i64 0,.int .i64 0,.string ⟨#[]⟩]) (post:=[]) (vs:=[.int .i64 v5.kind,.int .i64 v5.int,.string v5.text]) X5.row rfl rfl rfl (by simp [Value.oneCell']);have X5t:=X5.setsAt (pre:=[.int .i64 3,.string s1,.string s2,.string s3,.slice none 0 0,.string s4]) (mid:=[.int .i64 0,.int .i64 0,.string ⟨#[]⟩]) (post:=[]) (n:=6) (vs:=[.int .i64 v5.kind,.int .i64 v5.int,.string v5.text]) rfl rfl;have X5s:Nx b p w.heap.size w0.heap.size w _ _ _ [.int .i64 0,.string ⟨#[]⟩,.string ⟨#[]⟩,.string ⟨#[]⟩,.slice none 0 0,.string ⟨#[]⟩,.int .i64 0,.int .i64 0,.string ⟨#[]⟩] [.int .i64 3,.string s1,.string s2,.string s3,.slice none 0 0,.string s4,.int .i64 v5.kind,.int .i64 v5.int,.string v5.text]:=X5t;have X5s:=gH X5s;have e1:=lvRop_row X5s.out.row rfl;have e2:=svRop_row X5s.out.nr.res rfl rfl (vs:=[.int .i64 3,.string s1,.string s2,.string s3,.slice none 0 0,.string s4,.int .i64 v5.kind,.int .i64 v5.int,.string v5.text]) (by simp [Value.oneCell']);clear m5 k5 X5 X5t))
 have XR:=X5s.out.nr.sets (cs:=[.int .i64 3,.string s1,.string s2,.string s3,.slice none 0 0,.string s4,.int .i64 v5.kind,.int .i64 v5.int,.string v5.text]) rfl
 refine bodyPost_ret (results_cell rfl _ rfl (lv_row (T:=41) Tryz.underlying41 (by kernel_rfl) XR.res rfl)) rfl ?_
 exact ⟨XR.kw,_,rfl,⟨none,0,rfl,valsN_nil _ _ _ HB.out,g1,g2,g3,g4,g5⟩,XR.ds⟩
theorem rowN_other (f:ByteArray) (W:Ws) (d:Bool) (W0:Ws) (d0:Bool) (q0:wordD W d=(f,W0,d0)) (s1:ByteArray) (W1:Ws) (d1:Bool) (q1:nameD W0 d0=(s1,W1,d1)) (s2:ByteArray) (W2:Ws) (d2:Bool) (q2:nameD W1 d1=(s2,W2,d2)) (s3:ByteArray) (W3:Ws) (d3:Bool) (q3:nameD W2 d2=(s3,W3,d3)) (hr0:eqS f b_insert=false) (hr1:eqS f b_remove=false) (hr2:eqS f b_select=false) (b p:Nat) (w:World) (hl:LnS w b p W d):Calls Tryz.prog 35 #[.pointer (some ⟨b,0,none⟩)] w (RdN b p w (RopN b w.heap.size) (rowD W d)):=by
 have e:rowD W d=(⟨0,s1,s2,s3,[],zBy,zVal⟩,W3,true):=by simp [rowD,bindD,q0,q1,q2,q3,hr0,hr1,hr2]
 rw [e]
 have H0:=gH (lword_at (b:=b) (p:=p) q0)
 have H1:=gH (lname_at (b:=b) (p:=p) q1)
 have H2:=gH (lname_at (b:=b) (p:=p) q2)
 have H3:=gH (lname_at (b:=b) (p:=p) q3)
 have ihr0:=eqS_as hr0
 unfold b_insert at ihr0
 simp only at ihr0
 have ihr1:=eqS_as hr1
 unfold b_remove at ihr1
 simp only at ihr1
 have ihr2:=eqS_as hr2
 unfold b_select at ihr2
 simp only at ihr2
 have HX0:=gH (Nr.start hl [.int .i64 0,.string ⟨#[]⟩,.string ⟨#[]⟩,.string ⟨#[]⟩,.slice none 0 0,.string ⟨#[]⟩,.int .i64 0,.int .i64 0,.string ⟨#[]⟩] 41)
 have hb:=hl.lt
 have HB:=gH hb
 clear e hl q0 q1 q2 q3 hr0 hr1 hr2
 go_enter Tryz.func35,Tryz.ntmps35
 go_wp2_with (first
  | (go_at_call 32;with_reducible refine (H0.out _ HX0.out.ds).mono ?_;rintro e w0 ⟨rfl,g0,l0,k0⟩;have X1:=(HX0.out.call k0 l0).box [.int .i64 0,.string ⟨#[]⟩,.string ⟨#[]⟩,.string ⟨#[]⟩,.slice none 0 0,.string ⟨#[]⟩,.int .i64 0,.int .i64 0,.string ⟨#[]⟩] 41;have z0:=X1.lt;obtain ⟨z00,z01,z02⟩:=z0;have X0s:=gH X1;clear l0 k0 X1)
  | (go_at_call 57;with_reducible refine (H1.out _ X0s.out.nr.ds).mono ?_;rintro e w1 ⟨rfl,g1,m1,k1⟩;have X1:=X0s.out.call k1 m1;obtain ⟨ca1,fa1⟩:=X1.cf 1 (by simp);have z1:=X1.lt;obtain ⟨z10,z11,z12⟩:=z1;have X1s:Nx b p w.heap.size w0.heap.size w _ _ _ [.int .i64 0,.string ⟨#[]⟩,.string ⟨#[]⟩,.string ⟨#[]⟩,.slice none 0 0,.string ⟨#[]⟩,.int .i64 0,.int .i64 0,.string ⟨#[]⟩] [.int .i64 0,.string s1,.string ⟨#[]⟩,.string ⟨#[]⟩,.slice none 0 0,.string ⟨#[]⟩,.int .i64 0,.int .i64 0,.string ⟨#[]⟩]:=X1.set 1 (.string s1) (by simp);have X1s:=gH X1s;clear m1 k1 X1)
  | (go_at_call 57;with_reducible refine (H2.out _ X1s.out.nr.ds).mono ?_;rintro e w2 ⟨rfl,g2,m2,k2⟩;have X2:=X1s.out.call k2 m2;obtain ⟨ca2,fa2⟩:=X2.cf 2 (by simp);have z2:=X2.lt;obtain ⟨z20,z21,z22⟩:=z2;have X2s:Nx b p w.heap.size w0.heap.size w _ _ _ [.int .i64 0,.string ⟨#[]⟩,.string ⟨#[]⟩,.string ⟨#[]⟩,.slice none 0 0,.string ⟨#[]⟩,.int .i64 0,.int .i64 0,.string ⟨#[]⟩] [.int .i64 0,.string s1,.string s2,.string ⟨#[]⟩,.slice none 0 0,.string ⟨#[]⟩,.int .i64 0,.int .i64 0,.string ⟨#[]⟩]:=X2.set 2 (.string s2) (by simp);have X2s:=gH X2s;clear m2 k2 X2)
  | (go_at_call 57;with_reducible refine (H3.out _ X2s.out.nr.ds).mono ?_;rintro e w3 ⟨rfl,g3,m3,k3⟩;have X3:=X2s.out.call k3 m3;obtain ⟨ca3,fa3⟩:=X3.cf 3 (by simp);have y1:=m3.c1;have y2:=m3.f1;have hxb:¬ w0.heap.size=b:=X3.xb;have hbx:¬ b=w0.heap.size:=X3.bx;have z3:=X3.lt;obtain ⟨z30,z31,z32⟩:=z3;have X3t:Nx b p w.heap.size w0.heap.size w _ _ _ [.int .i64 0,.string ⟨#[]⟩,.string ⟨#[]⟩,.string ⟨#[]⟩,.slice none 0 0,.string ⟨#[]⟩,.int .i64 0,.int .i64 0,.string ⟨#[]⟩] [.int .i64 0,.string s1,.string s2,.string s3,.slice none 0 0,.string ⟨#[]⟩,.int .i64 0,.int .i64 0,.string ⟨#[]⟩]:=X3.set 3 (.string s3) (by simp);have X3s:=gH (X3t.bad true);have e1:=lvRop_row X3s.out.row rfl;have e2:=svRop_row X3s.out.nr.res rfl rfl (vs:=[.int .i64 0,.string s1,.string s2,.string s3,.slice none 0 0,.string ⟨#[]⟩,.int .i64 0,.int .i64 0,.string ⟨#[]⟩]) (by simp [Value.oneCell']);clear m3 k3 X3 X3t))
 have XR:=X3s.out.nr.sets (cs:=[.int .i64 0,.string s1,.string s2,.string s3,.slice none 0 0,.string ⟨#[]⟩,.int .i64 0,.int .i64 0,.string ⟨#[]⟩]) rfl
 refine bodyPost_ret (results_cell rfl _ rfl (lv_row (T:=41) Tryz.underlying41 (by kernel_rfl) XR.res rfl)) rfl ?_
 exact ⟨XR.kw,_,rfl,⟨none,0,rfl,valsN_nil _ _ _ HB.out,g1,g2,g3,szZ,szZ⟩,XR.ds⟩
theorem rowN_insert (f:ByteArray) (W:Ws) (d:Bool) (W0:Ws) (d0:Bool) (q0:wordD W d=(f,W0,d0)) (s1:ByteArray) (W1:Ws) (d1:Bool) (q1:nameD W0 d0=(s1,W1,d1)) (s2:ByteArray) (W2:Ws) (d2:Bool) (q2:nameD W1 d1=(s2,W2,d2)) (s3:ByteArray) (W3:Ws) (d3:Bool) (q3:nameD W2 d2=(s3,W3,d3)) (hr:eqS f b_insert=true) (b p:Nat) (w:World) (hl:LnS w b p W d):Calls Tryz.prog 35 #[.pointer (some ⟨b,0,none⟩)] w (RdN b p w (RopN b w.heap.size) (rowD W d)):=by
 obtain ⟨l4,W4,d4,q4⟩:∃ a c e,manyB valV W3 d3=(a,c,e):=⟨_,_,_,rfl⟩
 have e:rowD W d=(⟨1,s1,s2,s3,l4,zBy,zVal⟩,W4,d4):=by simp [rowD,bindD,q0,q1,q2,q3,q4,hr]
 rw [e]
 have Q4:=gH q4
 have H0:=gH (lword_at (b:=b) (p:=p) q0)
 have H1:=gH (lname_at (b:=b) (p:=p) q1)
 have H2:=gH (lname_at (b:=b) (p:=p) q2)
 have H3:=gH (lname_at (b:=b) (p:=p) q3)
 have ihr:=eqS_as hr
 unfold b_insert at ihr
 simp only at ihr
 have HX0:=gH (Nr.start hl [.int .i64 0,.string ⟨#[]⟩,.string ⟨#[]⟩,.string ⟨#[]⟩,.slice none 0 0,.string ⟨#[]⟩,.int .i64 0,.int .i64 0,.string ⟨#[]⟩] 41)
 have hb:=hl.lt
 have HB:=gH hb
 clear e hl q0 q1 q2 q3 q4 hr
 go_enter Tryz.func35,Tryz.ntmps35
 go_wp2_with (first
  | (go_at_call 32;with_reducible refine (H0.out _ HX0.out.ds).mono ?_;rintro e w0 ⟨rfl,g0,l0,k0⟩;have X1:=(HX0.out.call k0 l0).box [.int .i64 0,.string ⟨#[]⟩,.string ⟨#[]⟩,.string ⟨#[]⟩,.slice none 0 0,.string ⟨#[]⟩,.int .i64 0,.int .i64 0,.string ⟨#[]⟩] 41;have z0:=X1.lt;obtain ⟨z00,z01,z02⟩:=z0;have X0s:=gH X1;clear l0 k0 X1)
  | (go_at_call 57;with_reducible refine (H1.out _ X0s.out.nr.ds).mono ?_;rintro e w1 ⟨rfl,g1,m1,k1⟩;have X1:=X0s.out.call k1 m1;obtain ⟨ca1,fa1⟩:=X1.cf 1 (by simp);have z1:=X1.lt;obtain ⟨z10,z11,z12⟩:=z1;have X1s:Nx b p w.heap.size w0.heap.size w _ _ _ [.int .i64 0,.string ⟨#[]⟩,.string ⟨#[]⟩,.string ⟨#[]⟩,.slice none 0 0,.string ⟨#[]⟩,.int .i64 0,.int .i64 0,.string ⟨#[]⟩] [.int .i64 0,.string s1,.string ⟨#[]⟩,.string ⟨#[]⟩,.slice none 0 0,.string ⟨#[]⟩,.int .i64 0,.int .i64 0,.string ⟨#[]⟩]:=X1.set 1 (.string s1) (by simp);have X1s:=gH X1s;clear m1 k1 X1)
  | (go_at_call 57;with_reducible refine (H2.out _ X1s.out.nr.ds).mono ?_;rintro e w2 ⟨rfl,g2,m2,k2⟩;have X2:=X1s.out.call k2 m2;obtain ⟨ca2,fa2⟩:=X2.cf 2 (by simp);have z2:=X2.lt;obtain ⟨z20,z21,z22⟩:=z2;have X2s:Nx b p w.heap.size w0.heap.size w _ _ _ [.int .i64 0,.string ⟨#[]⟩,.string ⟨#[]⟩,.string ⟨#[]⟩,.slice none 0 0,.string ⟨#[]⟩,.int .i64 0,.int .i64 0,.string ⟨#[]⟩] [.int .i64 0,.string s1,.string s2,.string ⟨#[]⟩,.slice none 0 0,.string ⟨#[]⟩,.int .i64 0,.int .i64 0,.string ⟨#[]⟩]:=X2.set 2 (.string s2) (by simp);have X2s:=gH X2s;clear m2 k2 X2)
  | (go_at_call 57;with_reducible refine (H3.out _ X2s.out.nr.ds).mono ?_;rintro e w3 ⟨rfl,g3,m3,k3⟩;have X3:=X2s.out.call k3 m3;obtain ⟨ca3,fa3⟩:=X3.cf 3 (by simp);obtain ⟨cz3,fz3⟩:=X3.cf 0 (by simp);obtain ⟨cy3,fy3⟩:=X3.cf 4 (by simp);have z3:=X3.lt;obtain ⟨z30,z31,z32⟩:=z3;have X3s:Nx b p w.heap.size w0.heap.size w _ _ _ [.int .i64 0,.string ⟨#[]⟩,.string ⟨#[]⟩,.string ⟨#[]⟩,.slice none 0 0,.string ⟨#[]⟩,.int .i64 0,.int .i64 0,.string ⟨#[]⟩] [.int .i64 1,.string s1,.string s2,.string s3,.slice none 0 0,.string ⟨#[]⟩,.int .i64 0,.int .i64 0,.string ⟨#[]⟩]:=(X3.set 3 (.string s3) (by simp)).set 0 (.int .i64 1) (by simp);have X3s:=gH X3s;clear m3 k3 X3))
 have BIG:=gH X3s.out.nr.ds.big
 have GS:=gH (GrowM.start (ty:=39) (size:=3) (cells:=valC) (f:=valV) (Pz:=SzV) (j:=4) X3s.out (by simp) rfl)
 go_loopw [] (fun wr=>∃ (rest:Ws) (d':Bool) (l:List Val) (h:Hd),(l≠[]→d'=false)∧GrowM 39 3 valC valV SzV 4 b p w.heap.size w0.heap.size ((w3.setCell ⟨w0.heap.size,3,none⟩ (.string s3)).setCell ⟨w0.heap.size,0,none⟩ (.int .i64 1)).heap.size w [.int .i64 0,.string ⟨#[]⟩,.string ⟨#[]⟩,.string ⟨#[]⟩,.slice none 0 0,.string ⟨#[]⟩,.int .i64 0,.int .i64 0,.string ⟨#[]⟩] [.int .i64 1,.string s1,.string s2,.string s3,.slice none 0 0,.string ⟨#[]⟩,.int .i64 0,.int .i64 0,.string ⟨#[]⟩] W3 d3 wr rest d' l h) (fun wr=>W3.length - lenV ((wr.cell? ⟨w0.heap.size,4,none⟩).getD undef))
 case atStart=>exact ⟨W3,d3,[],⟨none,0,0⟩,fun h=>absurd rfl h,GS.out⟩
 case round =>
  obtain ⟨rest,d',l,h,hd,g⟩:=hrel
  have hz:=g.upto hd BIG.out
  have G:=gH g
  have HD:=gH hd
  have HMO:=gH (more_dn b p rest d' wr g.nx.nr.ds)
  obtain ⟨cx,fx⟩:=g.cell
  have zg:=g.nx.lt
  obtain ⟨zg0,zg1,zg2⟩:=zg
  have hxb:¬ w0.heap.size=b:=by have:=g.nx.nr.fb;have:=g.nx.fx;omega
  have hbx:¬ b=w0.heap.size:=fun e=>hxb e.symm
  obtain ⟨n,hn⟩:∃ n,l.length=n:=⟨_,rfl⟩
  rw [hn] at hz cx
  obtain ⟨m,hm⟩:∃ m,moreD rest d'=m:=⟨_,rfl⟩
  rw [hm] at HMO
  by_cases hex:l≠[]∧m=false
  ·obtain ⟨hl,rfl⟩:=hex
   have HEQ:=gH (show l4=l∧W4=rest∧d4=d' from by
    have h1:=manyG_stop valV l rest d' hl (.inr hm)
    rw [g.inv,Q4.out] at h1
    cases h1;exact ⟨rfl,rfl,rfl⟩)
   have h0:((n:Int)==0)=false:=by rw [beq_eq_false_iff_ne];intro e;apply hl;exact List.eq_nil_of_length_eq_zero (by omega)
   have XN:Nx b p w.heap.size w0.heap.size w wr rest d' [.int .i64 0,.string ⟨#[]⟩,.string ⟨#[]⟩,.string ⟨#[]⟩,.slice none 0 0,.string ⟨#[]⟩,.int .i64 0,.int .i64 0,.string ⟨#[]⟩] [.int .i64 1,.string s1,.string s2,.string s3,.slice h.a n h.c,.string ⟨#[]⟩,.int .i64 0,.int .i64 0,.string ⟨#[]⟩]:=by
    have:=g.nx
    rw [hn] at this
    exact this
   have XN:=gH XN
   have e1:=lvRop_row XN.out.row rfl
   have e2:=svRop_row XN.out.nr.res rfl rfl (vs:=[.int .i64 1,.string s1,.string s2,.string s3,.slice h.a n h.c,.string ⟨#[]⟩,.int .i64 0,.int .i64 0,.string ⟨#[]⟩]) (by simp [Value.oneCell'])
   have HN:=gH hn
   clear g hd hm hl hn
   go_wp2_with (first | (go_at_call 54;with_reducible refine HMO.out.mono ?_;rintro e w' ⟨rfl,rfl⟩))
   have XR:=XN.out.nr.sets (cs:=[.int .i64 1,.string s1,.string s2,.string s3,.slice h.a n h.c,.string ⟨#[]⟩,.int .i64 0,.int .i64 0,.string ⟨#[]⟩]) rfl
   refine bodyPost_ret (results_cell rfl _ rfl (lv_row (T:=41) Tryz.underlying41 (by kernel_rfl) XR.res rfl)) rfl ?_
   obtain ⟨rfl,rfl,rfl⟩:=HEQ.out
   have S:=G.out.hr
   have G1:=G.out.own
   rw [HN.out] at G1
   refine ⟨XR.kw,_,rfl,⟨h.a,h.c,by rw [← HN.out];rfl,?_,g1,g2,g3,szZ,szZ⟩,XR.ds⟩
   exact ValsN.down (B:=((w3.setCell ⟨w0.heap.size,3,none⟩ (.string s3)).setCell ⟨w0.heap.size,0,none⟩ (.int .i64 1)).heap.size) ⟨OwnR.hi ⟨h,rfl,G.out.own,G.out.hb⟩ (kb_setCellsD w.heap.size [.int .i64 1,.string s1,.string s2,.string s3,.slice h.a n h.c,.string ⟨#[]⟩,.int .i64 0,.int .i64 0,.string ⟨#[]⟩] _ 0) (fun g e=>by have e':g=w.heap.size:=e;omega),Nat.le_trans (Nat.le_of_eq HN.out) (by omega),G.out.el⟩ G.out.hw HB.out
  obtain ⟨y,W5,d5,hx⟩:∃ x W1 d1,oneD valV rest d'=(x,W1,d1):=⟨_,_,_,rfl⟩
  have HQ:=gH (lval_at (b:=b) (p:=p) hx)
  have HL:=gH (show l=[]∨moreD rest d'=true from by
   rcases m with _ | _
   ·exact .inl (Classical.byContradiction fun e=>hex ⟨e,rfl⟩)
   ·exact .inr hm)
  have HN:=gH hn
  have HRUN:=gH (show d5=false→n+W5.length+1=W3.length from fun e=>by
   subst e
   cases rest with
   | nil=>cases d'<;>cases hx
   | cons s r =>
    cases d' with
    | true=>cases hx
    | false =>
     have e:oneD valV (s::r) false=((valV s).1,r,!(valV s).2):=rfl
     rw [e] at hx
     have:W5=r:=(Prod.mk.inj (Prod.mk.inj hx).2).1.symm
     subst this
     have:=g.bnd rfl
     simp at this;omega)
  have hcase:((n:Int)==0)=true∨(((n:Int)==0)=false∧m=true):=by
   by_cases e:n=0
   ·exact .inl (by subst e;rfl)
   ·refine .inr ⟨by rw [beq_eq_false_iff_ne];omega,?_⟩
    rcases HL.out with h | h
    ·rw [h] at hn;simp at hn;omega
    ·rw [← hm];exact h
  have HBZ:=gH (show ∀ (w2:World) (o1 o2:Obj),Kw b wr w2→((w3.setCell ⟨w0.heap.size,3,none⟩ (.string s3)).setCell ⟨w0.heap.size,0,none⟩ (.int .i64 1)).heap.size≤((w2.alloc o1).alloc o2).heap.size from fun w2 o1 o2 k2=>by
   have h1:=k2.size
   have h2:((w3.setCell ⟨w0.heap.size,3,none⟩ (.string s3)).setCell ⟨w0.heap.size,0,none⟩ (.int .i64 1)).heap.size≤wr.heap.size:=g.big
   have h3:((w2.alloc o1).alloc o2).heap.size=w2.heap.size+1+1:=by simp
   omega)
  have HOW:=gH (show ∀ w2,Kw b wr w2→w2.ownsRow ((w3.setCell ⟨w0.heap.size,3,none⟩ (.string s3)).setCell ⟨w0.heap.size,0,none⟩ (.int .i64 1)).heap.size 39 3 (.slice h.a n h.c) n (l.flatMap valC) from fun w2 k2=>by
   rw [← hn]
   exact own_kb g.own k2 (fun j hj e=>by have:=(g.own.lt j hj).1;have:=g.hb;have e':j=b:=e;omega))
  have HC1:=gH (show ∀ w2,Kw b wr w2→LnS w2 b p W5 d5→w2.cell? ⟨w0.heap.size,4,none⟩=some (.slice h.a n h.c)∧w2.frozen? ⟨w0.heap.size,4,none⟩=false∧w0.heap.size < w2.heap.size∧b < w2.heap.size from fun w2 k2 l2=>by
   have X:=g.nx.call k2 l2
   have c:=X.cf 4 (by simp)
   have z:=X.lt
   rw [hn] at c
   exact ⟨c.1,c.2,z.2.1,z.1⟩)
  have HST:=gH (show ∀ (w2 w5:World) (gg cap':Nat) (o1 o2:Obj),Kw b wr w2→LnS w2 b p W5 d5→y.text.size≤4096→w5.ownsRow ((w3.setCell ⟨w0.heap.size,3,none⟩ (.string s3)).setCell ⟨w0.heap.size,0,none⟩ (.int .i64 1)).heap.size 39 3 (.slice (some ⟨gg,0,none⟩) (n+1) cap') (n+1) (l.flatMap valC++[.int .i64 y.kind,.int .i64 y.int,.string y.text])→((w2.alloc o1).alloc o2).grownBy w5 (Value.slice h.a n h.c).ownBlock→(w5.cell? ⟨w0.heap.size,4,none⟩=some (.slice h.a n h.c)∧w5.frozen? ⟨w0.heap.size,4,none⟩=false∧w0.heap.size < w5.heap.size∧b < w5.heap.size∧w5.cell? ⟨b,1,none⟩=some (.bool d5))∧GrowM 39 3 valC valV SzV 4 b p w.heap.size w0.heap.size ((w3.setCell ⟨w0.heap.size,3,none⟩ (.string s3)).setCell ⟨w0.heap.size,0,none⟩ (.int .i64 1)).heap.size w [.int .i64 0,.string ⟨#[]⟩,.string ⟨#[]⟩,.string ⟨#[]⟩,.slice none 0 0,.string ⟨#[]⟩,.int .i64 0,.int .i64 0,.string ⟨#[]⟩] [.int .i64 1,.string s1,.string s2,.string s3,.slice none 0 0,.string ⟨#[]⟩,.int .i64 0,.int .i64 0,.string ⟨#[]⟩] W3 d3 (w5.setCell ⟨w0.heap.size,4,none⟩ (.slice (some ⟨gg,0,none⟩) (n+1) cap')) W5 d5 (l++[y]) ⟨some ⟨gg,0,none⟩,n+1,cap'⟩∧Nx b p w.heap.size w0.heap.size w (w5.setCell ⟨w0.heap.size,4,none⟩ (.slice (some ⟨gg,0,none⟩) (n+1) cap')) W5 d5 [.int .i64 0,.string ⟨#[]⟩,.string ⟨#[]⟩,.string ⟨#[]⟩,.slice none 0 0,.string ⟨#[]⟩,.int .i64 0,.int .i64 0,.string ⟨#[]⟩] [.int .i64 1,.string s1,.string s2,.string s3,.slice (some ⟨gg,0,none⟩) (n+1) cap',.string ⟨#[]⟩,.int .i64 0,.int .i64 0,.string ⟨#[]⟩] from fun w2 w5 gg cap' o1 o2 k2 l2 sy h1 h2=>by
   subst hn
   obtain ⟨X,G2⟩:=g.step (cells:=valC) hx sy hd HL.out k2 l2 h1 h2
   have c:=X.cf 4 (by simp)
   have z:=X.lt
   have XN:=G2.nx
   rw [List.length_append] at XN
   exact ⟨⟨c.1,c.2,z.2.1,z.1,X.nr.ds.c1⟩,G2,XN⟩)
  have HENDB:=gH (show d5=true→l4=l++[y]∧W4=W5∧d4=d5 from fun e=>by
   have h1:=manyG_step valV l rest d' hd HL.out
   rw [hx,g.inv,Q4.out] at h1
   subst e
   have h2:=manyG_stop valV (l++[y]) W5 true (by simp) (.inl rfl)
   rw [h1] at h2
   cases h2;exact ⟨rfl,rfl,rfl⟩)
  clear g hd hm hn hex hx
  cases d5
  all_goals
   rcases hcase with h0 | ⟨h0,rfl⟩
   all_goals
    go_wp2_with (first
     | (go_at_call 54;with_reducible refine HMO.out.mono ?_;rintro e w' ⟨rfl,rfl⟩)
     | (go_at_call 60;with_reducible refine (HQ.out _ G.out.nx.nr.ds).mono ?_;rintro e w4 ⟨rfl,g4,m4,k4⟩;have HCC:=HC1.out _ k4 m4;obtain ⟨ca4,fa4,za4,zb4⟩:=HCC;have G4:=gH g4;have M4:=gH m4;have K4:=gH k4;clear m4 k4 g4)
     | (at_builtin;go_must (refine app_desk Tryz.underlying36 infoDV rfl (by decide) (by decide) rfl _ _ rfl ((w3.setCell ⟨w0.heap.size,3,none⟩ (.string s3)).setCell ⟨w0.heap.size,0,none⟩ (.int .i64 1)).heap.size (.slice h.a n h.c) n (l.flatMap valC) rfl (((HOW.out w4 K4.out).alloc _).alloc _) (w4.heap.size+1) [.int .i64 y.kind,.int .i64 y.int,.string y.text] rfl (heap_new2 w4 _ _) rfl (by simp [Value.oneCell']) (by omega) (HBZ.out _ _ _ K4.out) ?_);intro gg cap' w5 hown5 hgrow hat;have T5:=HST.out _ _ _ _ _ _ K4.out M4.out G4.out hown5 hgrow;obtain ⟨⟨ca5,fa5,za5,zb5,y5⟩,G5,XN⟩:=T5;have G5:=gH G5;have XN:=gH XN;have e1:=lvRop_row XN.out.row rfl;have e2:=svRop_row XN.out.nr.res rfl rfl (vs:=[.int .i64 1,.string s1,.string s2,.string s3,.slice (some ⟨gg,0,none⟩) (n+1) cap',.string ⟨#[]⟩,.int .i64 0,.int .i64 0,.string ⟨#[]⟩]) (by simp [Value.oneCell']);clear hown5 hgrow hat))
  ·go_roundw
   case rel=>exact ⟨W5,false,l++[y],⟨some ⟨gg,0,none⟩,n+1,cap'⟩,fun _=>rfl,G5.out⟩
   case measure =>
    rw [cx,World.cell?_setCell_same (h:=ca5)]
    have:=HRUN.out (by simp)
    simp [lenV]
    omega
  ·go_roundw
   case rel=>exact ⟨W5,false,l++[y],⟨some ⟨gg,0,none⟩,n+1,cap'⟩,fun _=>rfl,G5.out⟩
   case measure =>
    rw [cx,World.cell?_setCell_same (h:=ca5)]
    have:=HRUN.out (by simp)
    simp [lenV]
    omega
  all_goals
   have XR:=XN.out.nr.sets (cs:=[.int .i64 1,.string s1,.string s2,.string s3,.slice (some ⟨gg,0,none⟩) (n+1) cap',.string ⟨#[]⟩,.int .i64 0,.int .i64 0,.string ⟨#[]⟩]) rfl
   refine bodyPost_ret (results_cell rfl _ rfl (lv_row (T:=41) Tryz.underlying41 (by kernel_rfl) XR.res rfl)) rfl ?_
   obtain ⟨rfl,rfl,rfl⟩:=HENDB.out (by simp)
   have S:=G5.out.hr
   have hlen:(l++[y]).length=n+1:=by rw [List.length_append,HN.out];rfl
   refine ⟨XR.kw,_,rfl,⟨some ⟨gg,0,none⟩,cap',by rw [← hlen];rfl,?_,g1,g2,g3,szZ,szZ⟩,XR.ds⟩
   exact ValsN.down (B:=((w3.setCell ⟨w0.heap.size,3,none⟩ (.string s3)).setCell ⟨w0.heap.size,0,none⟩ (.int .i64 1)).heap.size) ⟨OwnR.hi ⟨⟨some ⟨gg,0,none⟩,n+1,cap'⟩,rfl,G5.out.own,G5.out.hb⟩ (kb_setCellsD w.heap.size [.int .i64 1,.string s1,.string s2,.string s3,.slice (some ⟨gg,0,none⟩) (n+1) cap',.string ⟨#[]⟩,.int .i64 0,.int .i64 0,.string ⟨#[]⟩] _ 0) (fun g e=>by have e':g=w.heap.size:=e;omega),Nat.le_trans (Nat.le_of_eq hlen) (by omega),G5.out.el⟩ G5.out.hw HB.out
theorem row_dn (b p:Nat) (W:Ws) (d:Bool) (w:World) (hl:LnS w b p W d):Calls Tryz.prog 35 #[.pointer (some ⟨b,0,none⟩)] w (RdN b p w (RopN b w.heap.size) (rowD W d)):=by
 obtain ⟨f,W0,d0,q0⟩:∃ a c e,wordD W d=(a,c,e):=⟨_,_,_,rfl⟩
 obtain ⟨s1,W1,d1,q1⟩:∃ a c e,nameD W0 d0=(a,c,e):=⟨_,_,_,rfl⟩
 obtain ⟨s2,W2,d2,q2⟩:∃ a c e,nameD W1 d1=(a,c,e):=⟨_,_,_,rfl⟩
 obtain ⟨s3,W3,d3,q3⟩:∃ a c e,nameD W2 d2=(a,c,e):=⟨_,_,_,rfl⟩
 cases h0:eqS f b_insert with
 | true=>exact rowN_insert f W d W0 d0 q0 s1 W1 d1 q1 s2 W2 d2 q2 s3 W3 d3 q3 h0 b p w hl
 | false =>
  cases h1:eqS f b_remove with
  | true=>exact rowN_remove f W d W0 d0 q0 s1 W1 d1 q1 s2 W2 d2 q2 s3 W3 d3 q3 h0 h1 b p w hl
  | false =>
   cases h2:eqS f b_select with
   | true =>
    cases hm:moreD W3 d3 with
    | true=>exact rowN_selsome f W d W0 d0 q0 s1 W1 d1 q1 s2 W2 d2 q2 s3 W3 d3 q3 h0 h1 h2 hm b p w hl
    | false=>exact rowN_selnone f W d W0 d0 q0 s1 W1 d1 q1 s2 W2 d2 q2 s3 W3 d3 q3 h0 h1 h2 hm b p w hl
   | false=>exact rowN_other f W d W0 d0 q0 s1 W1 d1 q1 s2 W2 d2 q2 s3 W3 d3 q3 h0 h1 h2 b p w hl
end Go.Proofs.YtbdanlipghhgpaaGreatDoor
