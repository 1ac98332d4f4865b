import Derived.Test.YtbdanlipghhgpaaGreatDoorPartP10
namespace Go.Proofs.YtbdanlipghhgpaaGreatDoor
open Go.RowKit Go.Deep
set_option maxRecDepth 100000
set_option linter.unusedVariables false
set_option maxHeartbeats 64000000
theorem lmore_at {b p:Nat} {W:Ws} {d m:Bool} (h:moreD W d=m):∀ V,LnS V b p W d→Calls Tryz.prog 54 #[.pointer (some ⟨b,0,none⟩)] V fun e w'=>e=.returned (.bool m)∧V=w':=fun V hl=>h▸more_dn b p W d V hl
theorem more_word {W W1:Ws} {d d1:Bool} {f:ByteArray} (hm:moreD W d=true) (hq:wordD W d=(f,W1,d1)):d1=false:=by
 cases W with
 | nil=>simp [moreD] at hm
 | cons s W =>
  cases d with
  | true=>simp [moreD] at hm
  | false=>cases hq;rfl
theorem commandN_15_read_end (f:ByteArray) (W:Ws) (d:Bool) (W0:Ws) (d0:Bool) (q0:wordD W d=(f,W0,d0)) (hk:kindB f=15) (s1:ByteArray) (W1:Ws) (d1:Bool) (q1:nameD W0 d0=(s1,W1,d1)) (s2:ByteArray) (W2:Ws) (d2:Bool) (q2:nameD W1 d1=(s2,W2,d2)) (s3:ByteArray) (W3:Ws) (d3:Bool) (q3:nameD W2 d2=(s3,W3,d3)) (f4:ByteArray) (W4:Ws) (d4:Bool) (q4:wordD W3 d3=(f4,W4,d4)) (hr:eqS f4 b_read=true) (b p:Nat) (w:World) (hl:LnS w b p W d) (s5:ByteArray) (W5:Ws) (d5:Bool) (q5:nameD W4 d4=(s5,W5,d5)):Calls Tryz.prog 34 #[.pointer (some ⟨b,0,none⟩)] w (RdN b p w (CmdN b w.heap.size) (cmdD W d)):=by
 have H0:=gH (lword_at (b:=b) (p:=p) q0)
 have HK:=gH (lkind_at hk)
 have HX0:=gH (Nr.start hl z17 31)
 have hb:=hl.lt
 have HB:=gH hb
 have qk:oneD (fun s=>(s,kindB s != 0)) W d=(f,W0,d0):=by rw [one_kind q0 hk];cases d0<;>rfl
 have qr:oneD rightV W3 d3=(1,W4,d4):=by rw [one_word,q4];simp [rightV,hr]
 have e:cmdD W d=({ zCmd with kind:=15,actor:=s1,schema:=s2,table:=s3,right:=1,role:=s5 },W5,d5):=by
  unfold cmdD
  rw [qk]
  simp [bindD,hk,tailD,grantD,q1,q2,q3,qr,q5]
 rw [e]
 have H1:=gH (lname_at (b:=b) (p:=p) q1)
 have H2:=gH (lname_at (b:=b) (p:=p) q2)
 have H3:=gH (lname_at (b:=b) (p:=p) q3)
 have H5:=gH (lname_at (b:=b) (p:=p) q5)
 have H4:=gH (lword_at (b:=b) (p:=p) q4)
 have ihr:=eqS_as hr
 unfold b_read at ihr
 simp only at ihr
 clear e hl qk q0 hk q1 q2 q3 q4 q5 qr hr
 obtain ⟨v,hv⟩:∃ v,v=d0:=⟨_,rfl⟩
 have HVV:=gH hv
 clear hv
 cases d0
 all_goals
  go_enter Tryz.func34,Tryz.ntmps34
  go_wp2_with (first
   | (go_at_call 32;with_reducible refine (H0.out _ HX0.out.ds).mono ?_;rintro e w0 ⟨rfl,g0,l0,k0⟩;have X0:=HX0.out.call k0 l0;have y1:=l0.c1;have y2:=l0.f1;have y3:=l0.lt;have X1:=X0.boxBad v (c17 15 zB zB zB zB zB 0 false) 31;rw [HVV.out] at X1;obtain ⟨z00,z01,z02⟩:=X1.lt;have X0s:=gH X1;clear l0 k0 X0 X1)
   | (go_at_call 56;with_reducible refine (HK.out _).mono ?_;rintro e wk ⟨rfl,rfl⟩)
   | (go_at_call 57;with_reducible refine (H1.out _ X0s.out.nr.ds).mono ?_;rintro e w1 ⟨rfl,g1,m1,k1⟩;have X1:=X0s.out.call k1 m1;obtain ⟨ca1,fa1⟩:=X1.v1;obtain ⟨cb1,fb1⟩:=X1.v0;obtain ⟨z10,z11,z12⟩:=X1.lt;have X1s:=X1.s1 s1;clear m1 k1 X1)
   | (go_at_call 57;with_reducible refine (H2.out _ X1s.out.nr.ds).mono ?_;rintro e w2 ⟨rfl,g2,m2,k2⟩;have X2:=X1s.out.call k2 m2;obtain ⟨ca2,fa2⟩:=X2.v2;obtain ⟨cb2,fb2⟩:=X2.v0;obtain ⟨z20,z21,z22⟩:=X2.lt;have X2s:=X2.s2 s2;clear m2 k2 X2)
   | (go_at_call 57;with_reducible refine (H3.out _ X2s.out.nr.ds).mono ?_;rintro e w3 ⟨rfl,g3,m3,k3⟩;have X3:=X2s.out.call k3 m3;obtain ⟨ca3,fa3⟩:=X3.v3;obtain ⟨cb3,fb3⟩:=X3.v0;obtain ⟨z30,z31,z32⟩:=X3.lt;have X3s:=X3.s3 s3;clear m3 k3 X3)
   | (go_at_call 32;with_reducible refine (H4.out _ X3s.out.nr.ds).mono ?_;rintro e w4 ⟨rfl,g4,m4,k4⟩;have X4:=X3s.out.call k4 m4;obtain ⟨ca4,fa4⟩:=X4.v15;obtain ⟨z40,z41,z42⟩:=X4.lt;have X4s:=X4.s15 1;clear m4 k4 X4)
   | (go_at_call 57;with_reducible refine (H5.out _ X4s.out.nr.ds).mono ?_;rintro e w5 ⟨rfl,g5,m5,k5⟩;have X5:=X4s.out.call k5 m5;obtain ⟨ca5,fa5⟩:=X5.v5;obtain ⟨cb5,fb5⟩:=X5.v0;obtain ⟨z50,z51,z52⟩:=X5.lt;have X5s:=X5.s5 s5;have e1:=cmd_ret X5s.out.row;have e2:=cmd_put (r:=w.heap.size) X5s.out.nr.res (k:=15) (a:=s1) (s:=s2) (t:=s3) (n:=zB) (ro:=s5) (q:=1) (o:=false);clear m5 k5 X5))
  have XR:=X5s.out.nr.sets (cs:=(c17 15 s1 s2 s3 zB s5 1 false)) rfl
  refine bodyPost_ret (results_cell rfl _ rfl (lv_row (T:=31) Tryz.underlying31 (by kernel_rfl) XR.res rfl)) rfl ?_
  exact ⟨XR.kw,_,rfl,⟨none,0,none,0,rfl,colsN_nil _ _ _ HB.out,namesN_nil _ _ _ HB.out,g1,g2,g3,szZ,g5,szZ,szZ,szZ,szZ⟩,XR.ds⟩
theorem commandN_15_write_end (f:ByteArray) (W:Ws) (d:Bool) (W0:Ws) (d0:Bool) (q0:wordD W d=(f,W0,d0)) (hk:kindB f=15) (s1:ByteArray) (W1:Ws) (d1:Bool) (q1:nameD W0 d0=(s1,W1,d1)) (s2:ByteArray) (W2:Ws) (d2:Bool) (q2:nameD W1 d1=(s2,W2,d2)) (s3:ByteArray) (W3:Ws) (d3:Bool) (q3:nameD W2 d2=(s3,W3,d3)) (f4:ByteArray) (W4:Ws) (d4:Bool) (q4:wordD W3 d3=(f4,W4,d4)) (hr0:eqS f4 b_read=false) (hr:eqS f4 b_write=true) (b p:Nat) (w:World) (hl:LnS w b p W d) (s5:ByteArray) (W5:Ws) (d5:Bool) (q5:nameD W4 d4=(s5,W5,d5)):Calls Tryz.prog 34 #[.pointer (some ⟨b,0,none⟩)] w (RdN b p w (CmdN b w.heap.size) (cmdD W d)):=by
 have H0:=gH (lword_at (b:=b) (p:=p) q0)
 have HK:=gH (lkind_at hk)
 have HX0:=gH (Nr.start hl z17 31)
 have hb:=hl.lt
 have HB:=gH hb
 have qk:oneD (fun s=>(s,kindB s != 0)) W d=(f,W0,d0):=by rw [one_kind q0 hk];cases d0<;>rfl
 have qr:oneD rightV W3 d3=(2,W4,d4):=by rw [one_word,q4];simp [rightV,hr0,hr]
 have e:cmdD W d=({ zCmd with kind:=15,actor:=s1,schema:=s2,table:=s3,right:=2,role:=s5 },W5,d5):=by
  unfold cmdD
  rw [qk]
  simp [bindD,hk,tailD,grantD,q1,q2,q3,qr,q5]
 rw [e]
 have H1:=gH (lname_at (b:=b) (p:=p) q1)
 have H2:=gH (lname_at (b:=b) (p:=p) q2)
 have H3:=gH (lname_at (b:=b) (p:=p) q3)
 have H5:=gH (lname_at (b:=b) (p:=p) q5)
 have H4:=gH (lword_at (b:=b) (p:=p) q4)
 have ihr0:=eqS_as hr0
 unfold b_read at ihr0
 simp only at ihr0
 have ihr:=eqS_as hr
 unfold b_write at ihr
 simp only at ihr
 clear e hl qk q0 hk q1 q2 q3 q4 q5 qr hr0 hr
 obtain ⟨v,hv⟩:∃ v,v=d0:=⟨_,rfl⟩
 have HVV:=gH hv
 clear hv
 cases d0
 all_goals
  go_enter Tryz.func34,Tryz.ntmps34
  go_wp2_with (first
   | (go_at_call 32;with_reducible refine (H0.out _ HX0.out.ds).mono ?_;rintro e w0 ⟨rfl,g0,l0,k0⟩;have X0:=HX0.out.call k0 l0;have y1:=l0.c1;have y2:=l0.f1;have y3:=l0.lt;have X1:=X0.boxBad v (c17 15 zB zB zB zB zB 0 false) 31;rw [HVV.out] at X1;obtain ⟨z00,z01,z02⟩:=X1.lt;have X0s:=gH X1;clear l0 k0 X0 X1)
   | (go_at_call 56;with_reducible refine (HK.out _).mono ?_;rintro e wk ⟨rfl,rfl⟩)
   | (go_at_call 57;with_reducible refine (H1.out _ X0s.out.nr.ds).mono ?_;rintro e w1 ⟨rfl,g1,m1,k1⟩;have X1:=X0s.out.call k1 m1;obtain ⟨ca1,fa1⟩:=X1.v1;obtain ⟨cb1,fb1⟩:=X1.v0;obtain ⟨z10,z11,z12⟩:=X1.lt;have X1s:=X1.s1 s1;clear m1 k1 X1)
   | (go_at_call 57;with_reducible refine (H2.out _ X1s.out.nr.ds).mono ?_;rintro e w2 ⟨rfl,g2,m2,k2⟩;have X2:=X1s.out.call k2 m2;obtain ⟨ca2,fa2⟩:=X2.v2;obtain ⟨cb2,fb2⟩:=X2.v0;obtain ⟨z20,z21,z22⟩:=X2.lt;have X2s:=X2.s2 s2;clear m2 k2 X2)
   | (go_at_call 57;with_reducible refine (H3.out _ X2s.out.nr.ds).mono ?_;rintro e w3 ⟨rfl,g3,m3,k3⟩;have X3:=X2s.out.call k3 m3;obtain ⟨ca3,fa3⟩:=X3.v3;obtain ⟨cb3,fb3⟩:=X3.v0;obtain ⟨z30,z31,z32⟩:=X3.lt;have X3s:=X3.s3 s3;clear m3 k3 X3)
   | (go_at_call 32;with_reducible refine (H4.out _ X3s.out.nr.ds).mono ?_;rintro e w4 ⟨rfl,g4,m4,k4⟩;have X4:=X3s.out.call k4 m4;obtain ⟨ca4,fa4⟩:=X4.v15;obtain ⟨z40,z41,z42⟩:=X4.lt;have X4s:=X4.s15 2;clear m4 k4 X4)
   | (go_at_call 57;with_reducible refine (H5.out _ X4s.out.nr.ds).mono ?_;rintro e w5 ⟨rfl,g5,m5,k5⟩;have X5:=X4s.out.call k5 m5;obtain ⟨ca5,fa5⟩:=X5.v5;obtain ⟨cb5,fb5⟩:=X5.v0;obtain ⟨z50,z51,z52⟩:=X5.lt;have X5s:=X5.s5 s5;have e1:=cmd_ret X5s.out.row;have e2:=cmd_put (r:=w.heap.size) X5s.out.nr.res (k:=15) (a:=s1) (s:=s2) (t:=s3) (n:=zB) (ro:=s5) (q:=2) (o:=false);clear m5 k5 X5))
  have XR:=X5s.out.nr.sets (cs:=(c17 15 s1 s2 s3 zB s5 2 false)) rfl
  refine bodyPost_ret (results_cell rfl _ rfl (lv_row (T:=31) Tryz.underlying31 (by kernel_rfl) XR.res rfl)) rfl ?_
  exact ⟨XR.kw,_,rfl,⟨none,0,none,0,rfl,colsN_nil _ _ _ HB.out,namesN_nil _ _ _ HB.out,g1,g2,g3,szZ,g5,szZ,szZ,szZ,szZ⟩,XR.ds⟩
theorem commandN_15_other_end (f:ByteArray) (W:Ws) (d:Bool) (W0:Ws) (d0:Bool) (q0:wordD W d=(f,W0,d0)) (hk:kindB f=15) (s1:ByteArray) (W1:Ws) (d1:Bool) (q1:nameD W0 d0=(s1,W1,d1)) (s2:ByteArray) (W2:Ws) (d2:Bool) (q2:nameD W1 d1=(s2,W2,d2)) (s3:ByteArray) (W3:Ws) (d3:Bool) (q3:nameD W2 d2=(s3,W3,d3)) (f4:ByteArray) (W4:Ws) (d4:Bool) (q4:wordD W3 d3=(f4,W4,d4)) (hr0:eqS f4 b_read=false) (hr1:eqS f4 b_write=false) (b p:Nat) (w:World) (hl:LnS w b p W d) (s5:ByteArray) (W5:Ws) (d5:Bool) (q5:nameD W4 true=(s5,W5,d5)):Calls Tryz.prog 34 #[.pointer (some ⟨b,0,none⟩)] w (RdN b p w (CmdN b w.heap.size) (cmdD W d)):=by
 have H0:=gH (lword_at (b:=b) (p:=p) q0)
 have HK:=gH (lkind_at hk)
 have HX0:=gH (Nr.start hl z17 31)
 have hb:=hl.lt
 have HB:=gH hb
 have qk:oneD (fun s=>(s,kindB s != 0)) W d=(f,W0,d0):=by rw [one_kind q0 hk];cases d0<;>rfl
 have qr:oneD rightV W3 d3=(0,W4,true):=by rw [one_word,q4];simp [rightV,hr0,hr1]
 have e:cmdD W d=({ zCmd with kind:=15,actor:=s1,schema:=s2,table:=s3,right:=0,role:=s5 },W5,d5):=by
  unfold cmdD
  rw [qk]
  simp [bindD,hk,tailD,grantD,q1,q2,q3,qr,q5]
 rw [e]
 have H1:=gH (lname_at (b:=b) (p:=p) q1)
 have H2:=gH (lname_at (b:=b) (p:=p) q2)
 have H3:=gH (lname_at (b:=b) (p:=p) q3)
 have H5:=gH (lname_at (b:=b) (p:=p) q5)
 have H4:=gH (lword_at (b:=b) (p:=p) q4)
 have ihr0:=eqS_as hr0
 unfold b_read at ihr0
 simp only at ihr0
 have ihr1:=eqS_as hr1
 unfold b_write at ihr1
 simp only at ihr1
 clear e hl qk q0 hk q1 q2 q3 q4 q5 qr hr0 hr1
 obtain ⟨v,hv⟩:∃ v,v=d0:=⟨_,rfl⟩
 have HVV:=gH hv
 clear hv
 cases d0
 all_goals
  go_enter Tryz.func34,Tryz.ntmps34
  go_wp2_with (first
   | (go_at_call 32;with_reducible refine (H0.out _ HX0.out.ds).mono ?_;rintro e w0 ⟨rfl,g0,l0,k0⟩;have X0:=HX0.out.call k0 l0;have y1:=l0.c1;have y2:=l0.f1;have y3:=l0.lt;have X1:=X0.boxBad v (c17 15 zB zB zB zB zB 0 false) 31;rw [HVV.out] at X1;obtain ⟨z00,z01,z02⟩:=X1.lt;have X0s:=gH X1;clear l0 k0 X0 X1)
   | (go_at_call 56;with_reducible refine (HK.out _).mono ?_;rintro e wk ⟨rfl,rfl⟩)
   | (go_at_call 57;with_reducible refine (H1.out _ X0s.out.nr.ds).mono ?_;rintro e w1 ⟨rfl,g1,m1,k1⟩;have X1:=X0s.out.call k1 m1;obtain ⟨ca1,fa1⟩:=X1.v1;obtain ⟨cb1,fb1⟩:=X1.v0;obtain ⟨z10,z11,z12⟩:=X1.lt;have X1s:=X1.s1 s1;clear m1 k1 X1)
   | (go_at_call 57;with_reducible refine (H2.out _ X1s.out.nr.ds).mono ?_;rintro e w2 ⟨rfl,g2,m2,k2⟩;have X2:=X1s.out.call k2 m2;obtain ⟨ca2,fa2⟩:=X2.v2;obtain ⟨cb2,fb2⟩:=X2.v0;obtain ⟨z20,z21,z22⟩:=X2.lt;have X2s:=X2.s2 s2;clear m2 k2 X2)
   | (go_at_call 57;with_reducible refine (H3.out _ X2s.out.nr.ds).mono ?_;rintro e w3 ⟨rfl,g3,m3,k3⟩;have X3:=X2s.out.call k3 m3;obtain ⟨ca3,fa3⟩:=X3.v3;obtain ⟨cb3,fb3⟩:=X3.v0;obtain ⟨z30,z31,z32⟩:=X3.lt;have X3s:=X3.s3 s3;clear m3 k3 X3)
   | (go_at_call 32;with_reducible refine (H4.out _ X3s.out.nr.ds).mono ?_;rintro e w4 ⟨rfl,g4,m4,k4⟩;have X4:=X3s.out.call k4 m4;have yy1:=m4.c1;have yy2:=m4.f1;obtain ⟨z40,z41,z42⟩:=X4.lt;have X4s:=gH (X4.bad true);clear m4 k4 X4)
   | (go_at_call 57;with_reducible refine (H5.out _ X4s.out.nr.ds).mono ?_;rintro e w5 ⟨rfl,g5,m5,k5⟩;have X5:=X4s.out.call k5 m5;obtain ⟨ca5,fa5⟩:=X5.v5;obtain ⟨cb5,fb5⟩:=X5.v0;obtain ⟨z50,z51,z52⟩:=X5.lt;have X5s:=X5.s5 s5;have e1:=cmd_ret X5s.out.row;have e2:=cmd_put (r:=w.heap.size) X5s.out.nr.res (k:=15) (a:=s1) (s:=s2) (t:=s3) (n:=zB) (ro:=s5) (q:=0) (o:=false);clear m5 k5 X5))
  have XR:=X5s.out.nr.sets (cs:=(c17 15 s1 s2 s3 zB s5 0 false)) rfl
  refine bodyPost_ret (results_cell rfl _ rfl (lv_row (T:=31) Tryz.underlying31 (by kernel_rfl) XR.res rfl)) rfl ?_
  exact ⟨XR.kw,_,rfl,⟨none,0,none,0,rfl,colsN_nil _ _ _ HB.out,namesN_nil _ _ _ HB.out,g1,g2,g3,szZ,g5,szZ,szZ,szZ,szZ⟩,XR.ds⟩
theorem commandN_14_read_nomore (f:ByteArray) (W:Ws) (d:Bool) (W0:Ws) (d0:Bool) (q0:wordD W d=(f,W0,d0)) (hk:kindB f=14) (s1:ByteArray) (W1:Ws) (d1:Bool) (q1:nameD W0 d0=(s1,W1,d1)) (s2:ByteArray) (W2:Ws) (d2:Bool) (q2:nameD W1 d1=(s2,W2,d2)) (s3:ByteArray) (W3:Ws) (d3:Bool) (q3:nameD W2 d2=(s3,W3,d3)) (f4:ByteArray) (W4:Ws) (d4:Bool) (q4:wordD W3 d3=(f4,W4,d4)) (hr:eqS f4 b_read=true) (b p:Nat) (w:World) (hl:LnS w b p W d) (s5:ByteArray) (W5:Ws) (d5:Bool) (q5:nameD W4 d4=(s5,W5,d5)) (hm:moreD W5 d5=false):Calls Tryz.prog 34 #[.pointer (some ⟨b,0,none⟩)] w (RdN b p w (CmdN b w.heap.size) (cmdD W d)):=by
 have H0:=gH (lword_at (b:=b) (p:=p) q0)
 have HK:=gH (lkind_at hk)
 have HX0:=gH (Nr.start hl z17 31)
 have hb:=hl.lt
 have HB:=gH hb
 have qk:oneD (fun s=>(s,kindB s != 0)) W d=(f,W0,d0):=by rw [one_kind q0 hk];cases d0<;>rfl
 have qr:oneD rightV W3 d3=(1,W4,d4):=by rw [one_word,q4];simp [rightV,hr]
 have e:cmdD W d=({ zCmd with kind:=14,actor:=s1,schema:=s2,table:=s3,right:=1,role:=s5 },W5,d5):=by
  unfold cmdD
  rw [qk]
  simp [bindD,hk,tailD,grantD,q1,q2,q3,qr,q5,hm]
 rw [e]
 have H1:=gH (lname_at (b:=b) (p:=p) q1)
 have H2:=gH (lname_at (b:=b) (p:=p) q2)
 have H3:=gH (lname_at (b:=b) (p:=p) q3)
 have H5:=gH (lname_at (b:=b) (p:=p) q5)
 have H4:=gH (lword_at (b:=b) (p:=p) q4)
 have HM:=gH (lmore_at (b:=b) (p:=p) hm)
 have ihr:=eqS_as hr
 unfold b_read at ihr
 simp only at ihr
 clear e hl qk q0 hk q1 q2 q3 q4 q5 qr hr hm
 obtain ⟨v,hv⟩:∃ v,v=d0:=⟨_,rfl⟩
 have HVV:=gH hv
 clear hv
 cases d0
 all_goals
  go_enter Tryz.func34,Tryz.ntmps34
  go_wp2_with (first
   | (go_at_call 32;with_reducible refine (H0.out _ HX0.out.ds).mono ?_;rintro e w0 ⟨rfl,g0,l0,k0⟩;have X0:=HX0.out.call k0 l0;have y1:=l0.c1;have y2:=l0.f1;have y3:=l0.lt;have X1:=X0.boxBad v (c17 14 zB zB zB zB zB 0 false) 31;rw [HVV.out] at X1;obtain ⟨z00,z01,z02⟩:=X1.lt;have X0s:=gH X1;clear l0 k0 X0 X1)
   | (go_at_call 56;with_reducible refine (HK.out _).mono ?_;rintro e wk ⟨rfl,rfl⟩)
   | (go_at_call 57;with_reducible refine (H1.out _ X0s.out.nr.ds).mono ?_;rintro e w1 ⟨rfl,g1,m1,k1⟩;have X1:=X0s.out.call k1 m1;obtain ⟨ca1,fa1⟩:=X1.v1;obtain ⟨cb1,fb1⟩:=X1.v0;obtain ⟨z10,z11,z12⟩:=X1.lt;have X1s:=X1.s1 s1;clear m1 k1 X1)
   | (go_at_call 57;with_reducible refine (H2.out _ X1s.out.nr.ds).mono ?_;rintro e w2 ⟨rfl,g2,m2,k2⟩;have X2:=X1s.out.call k2 m2;obtain ⟨ca2,fa2⟩:=X2.v2;obtain ⟨cb2,fb2⟩:=X2.v0;obtain ⟨z20,z21,z22⟩:=X2.lt;have X2s:=X2.s2 s2;clear m2 k2 X2)
   | (go_at_call 57;with_reducible refine (H3.out _ X2s.out.nr.ds).mono ?_;rintro e w3 ⟨rfl,g3,m3,k3⟩;have X3:=X2s.out.call k3 m3;obtain ⟨ca3,fa3⟩:=X3.v3;obtain ⟨cb3,fb3⟩:=X3.v0;obtain ⟨z30,z31,z32⟩:=X3.lt;have X3s:=X3.s3 s3;clear m3 k3 X3)
   | (go_at_call 32;with_reducible refine (H4.out _ X3s.out.nr.ds).mono ?_;rintro e w4 ⟨rfl,g4,m4,k4⟩;have X4:=X3s.out.call k4 m4;obtain ⟨ca4,fa4⟩:=X4.v15;obtain ⟨z40,z41,z42⟩:=X4.lt;have X4s:=X4.s15 1;clear m4 k4 X4)
   | (go_at_call 57;with_reducible refine (H5.out _ X4s.out.nr.ds).mono ?_;rintro e w5 ⟨rfl,g5,m5,k5⟩;have X5:=X4s.out.call k5 m5;obtain ⟨ca5,fa5⟩:=X5.v5;obtain ⟨cb5,fb5⟩:=X5.v0;obtain ⟨z50,z51,z52⟩:=X5.lt;have X5s:=X5.s5 s5;have e1:=cmd_ret X5s.out.row;have e2:=cmd_put (r:=w.heap.size) X5s.out.nr.res (k:=14) (a:=s1) (s:=s2) (t:=s3) (n:=zB) (ro:=s5) (q:=1) (o:=false);clear m5 k5 X5)
   | (go_at_call 54;with_reducible refine (HM.out _ X5s.out.nr.ds).mono ?_;rintro e wm ⟨rfl,rfl⟩))
  have XR:=X5s.out.nr.sets (cs:=(c17 14 s1 s2 s3 zB s5 1 false)) rfl
  refine bodyPost_ret (results_cell rfl _ rfl (lv_row (T:=31) Tryz.underlying31 (by kernel_rfl) XR.res rfl)) rfl ?_
  exact ⟨XR.kw,_,rfl,⟨none,0,none,0,rfl,colsN_nil _ _ _ HB.out,namesN_nil _ _ _ HB.out,g1,g2,g3,szZ,g5,szZ,szZ,szZ,szZ⟩,XR.ds⟩
theorem commandN_14_read_opt (f:ByteArray) (W:Ws) (d:Bool) (W0:Ws) (d0:Bool) (q0:wordD W d=(f,W0,d0)) (hk:kindB f=14) (s1:ByteArray) (W1:Ws) (d1:Bool) (q1:nameD W0 d0=(s1,W1,d1)) (s2:ByteArray) (W2:Ws) (d2:Bool) (q2:nameD W1 d1=(s2,W2,d2)) (s3:ByteArray) (W3:Ws) (d3:Bool) (q3:nameD W2 d2=(s3,W3,d3)) (f4:ByteArray) (W4:Ws) (d4:Bool) (q4:wordD W3 d3=(f4,W4,d4)) (hr:eqS f4 b_read=true) (b p:Nat) (w:World) (hl:LnS w b p W d) (s5:ByteArray) (W5:Ws) (d5:Bool) (q5:nameD W4 d4=(s5,W5,d5)) (hm:moreD W5 d5=true) (f6:ByteArray) (W6:Ws) (q6:wordD W5 d5=(f6,W6,false)) (o6:Bool) (ho:eqS f6 b_option=o6):Calls Tryz.prog 34 #[.pointer (some ⟨b,0,none⟩)] w (RdN b p w (CmdN b w.heap.size) (cmdD W d)):=by
 have H0:=gH (lword_at (b:=b) (p:=p) q0)
 have HK:=gH (lkind_at hk)
 have HX0:=gH (Nr.start hl z17 31)
 have hb:=hl.lt
 have HB:=gH hb
 have qk:oneD (fun s=>(s,kindB s != 0)) W d=(f,W0,d0):=by rw [one_kind q0 hk];cases d0<;>rfl
 have qr:oneD rightV W3 d3=(1,W4,d4):=by rw [one_word,q4];simp [rightV,hr]
 have qo:oneD (fun s=>(s,eqS s b_option)) W5 d5=(f6,W6,!o6):=by rw [one_word,q6,ho];rfl
 have e:cmdD W d=({ zCmd with kind:=14,actor:=s1,schema:=s2,table:=s3,right:=1,role:=s5,opt:=true },W6,(!o6)):=by
  unfold cmdD
  rw [qk]
  simp [bindD,hk,tailD,grantD,q1,q2,q3,qr,q5,hm,qo]
 rw [e]
 have H1:=gH (lname_at (b:=b) (p:=p) q1)
 have H2:=gH (lname_at (b:=b) (p:=p) q2)
 have H3:=gH (lname_at (b:=b) (p:=p) q3)
 have H5:=gH (lname_at (b:=b) (p:=p) q5)
 have H4:=gH (lword_at (b:=b) (p:=p) q4)
 have HM:=gH (lmore_at (b:=b) (p:=p) hm)
 have H6:=gH (lword_at (b:=b) (p:=p) q6)
 have io:=eqS_as ho
 unfold b_option at io
 simp only at io
 have io':(f6.toList != [111,112,116,105,111,110])=!(f6.toList==[111,112,116,105,111,110]):=rfl
 rw [io] at io'
 have ihr:=eqS_as hr
 unfold b_read at ihr
 simp only at ihr
 clear e hl qk q0 hk q1 q2 q3 q4 q5 qr hr hm q6 ho qo
 obtain ⟨v,hv⟩:∃ v,v=d0:=⟨_,rfl⟩
 have HVV:=gH hv
 clear hv
 obtain ⟨y,hy⟩:∃ y,y=!o6:=⟨_,rfl⟩
 have HY:=gH hy
 clear hy
 cases d0<;>cases o6
 all_goals
  go_enter Tryz.func34,Tryz.ntmps34
  go_wp2_with (first
   | (go_at_call 32;with_reducible refine (H0.out _ HX0.out.ds).mono ?_;rintro e w0 ⟨rfl,g0,l0,k0⟩;have X0:=HX0.out.call k0 l0;have y1:=l0.c1;have y2:=l0.f1;have y3:=l0.lt;have X1:=X0.boxBad v (c17 14 zB zB zB zB zB 0 false) 31;rw [HVV.out] at X1;obtain ⟨z00,z01,z02⟩:=X1.lt;have X0s:=gH X1;clear l0 k0 X0 X1)
   | (go_at_call 56;with_reducible refine (HK.out _).mono ?_;rintro e wk ⟨rfl,rfl⟩)
   | (go_at_call 57;with_reducible refine (H1.out _ X0s.out.nr.ds).mono ?_;rintro e w1 ⟨rfl,g1,m1,k1⟩;have X1:=X0s.out.call k1 m1;obtain ⟨ca1,fa1⟩:=X1.v1;obtain ⟨cb1,fb1⟩:=X1.v0;obtain ⟨z10,z11,z12⟩:=X1.lt;have X1s:=X1.s1 s1;clear m1 k1 X1)
   | (go_at_call 57;with_reducible refine (H2.out _ X1s.out.nr.ds).mono ?_;rintro e w2 ⟨rfl,g2,m2,k2⟩;have X2:=X1s.out.call k2 m2;obtain ⟨ca2,fa2⟩:=X2.v2;obtain ⟨cb2,fb2⟩:=X2.v0;obtain ⟨z20,z21,z22⟩:=X2.lt;have X2s:=X2.s2 s2;clear m2 k2 X2)
   | (go_at_call 57;with_reducible refine (H3.out _ X2s.out.nr.ds).mono ?_;rintro e w3 ⟨rfl,g3,m3,k3⟩;have X3:=X2s.out.call k3 m3;obtain ⟨ca3,fa3⟩:=X3.v3;obtain ⟨cb3,fb3⟩:=X3.v0;obtain ⟨z30,z31,z32⟩:=X3.lt;have X3s:=X3.s3 s3;clear m3 k3 X3)
   | (go_at_call 32;with_reducible refine (H4.out _ X3s.out.nr.ds).mono ?_;rintro e w4 ⟨rfl,g4,m4,k4⟩;have X4:=X3s.out.call k4 m4;obtain ⟨ca4,fa4⟩:=X4.v15;obtain ⟨z40,z41,z42⟩:=X4.lt;have X4s:=X4.s15 1;clear m4 k4 X4)
   | (go_at_call 57;with_reducible refine (H5.out _ X4s.out.nr.ds).mono ?_;rintro e w5 ⟨rfl,g5,m5,k5⟩;have X5:=X4s.out.call k5 m5;obtain ⟨ca5,fa5⟩:=X5.v5;obtain ⟨cb5,fb5⟩:=X5.v0;obtain ⟨cd5,fd5⟩:=X5.v16;obtain ⟨z50,z51,z52⟩:=X5.lt;have X5s:=X5.s5 s5;have X5o:=X5s.out.s16 true;clear m5 k5 X5)
   | (go_at_call 54;with_reducible refine (HM.out _ X5s.out.nr.ds).mono ?_;rintro e wm ⟨rfl,rfl⟩)
   | (go_at_call 32;with_reducible refine (H6.out _ X5o.out.nr.ds).mono ?_;rintro e w6 ⟨rfl,g6,m6,k6⟩;have X6:=X5o.out.call k6 m6;have yz1:=m6.c1;have yz2:=m6.f1;obtain ⟨z60,z61,z62⟩:=X6.lt;have X6b:=X6.bad y;rw [HY.out] at X6b;simp only [Bool.not_true,Bool.not_false] at X6b;have X6s:=gH X6b;have e1:=cmd_ret X6s.out.row;have e2:=cmd_put (r:=w.heap.size) X6s.out.nr.res (k:=14) (a:=s1) (s:=s2) (t:=s3) (n:=zB) (ro:=s5) (q:=1) (o:=true);clear m6 k6 X6 X6b))
  have XR:=X6s.out.nr.sets (cs:=(c17 14 s1 s2 s3 zB s5 1 true)) rfl
  refine bodyPost_ret (results_cell rfl _ rfl (lv_row (T:=31) Tryz.underlying31 (by kernel_rfl) XR.res rfl)) rfl ?_
  exact ⟨XR.kw,_,rfl,⟨none,0,none,0,rfl,colsN_nil _ _ _ HB.out,namesN_nil _ _ _ HB.out,g1,g2,g3,szZ,g5,szZ,szZ,szZ,szZ⟩,XR.ds⟩
theorem commandN_14_write_nomore (f:ByteArray) (W:Ws) (d:Bool) (W0:Ws) (d0:Bool) (q0:wordD W d=(f,W0,d0)) (hk:kindB f=14) (s1:ByteArray) (W1:Ws) (d1:Bool) (q1:nameD W0 d0=(s1,W1,d1)) (s2:ByteArray) (W2:Ws) (d2:Bool) (q2:nameD W1 d1=(s2,W2,d2)) (s3:ByteArray) (W3:Ws) (d3:Bool) (q3:nameD W2 d2=(s3,W3,d3)) (f4:ByteArray) (W4:Ws) (d4:Bool) (q4:wordD W3 d3=(f4,W4,d4)) (hr0:eqS f4 b_read=false) (hr:eqS f4 b_write=true) (b p:Nat) (w:World) (hl:LnS w b p W d) (s5:ByteArray) (W5:Ws) (d5:Bool) (q5:nameD W4 d4=(s5,W5,d5)) (hm:moreD W5 d5=false):Calls Tryz.prog 34 #[.pointer (some ⟨b,0,none⟩)] w (RdN b p w (CmdN b w.heap.size) (cmdD W d)):=by
 have H0:=gH (lword_at (b:=b) (p:=p) q0)
 have HK:=gH (lkind_at hk)
 have HX0:=gH (Nr.start hl z17 31)
 have hb:=hl.lt
 have HB:=gH hb
 have qk:oneD (fun s=>(s,kindB s != 0)) W d=(f,W0,d0):=by rw [one_kind q0 hk];cases d0<;>rfl
 have qr:oneD rightV W3 d3=(2,W4,d4):=by rw [one_word,q4];simp [rightV,hr0,hr]
 have e:cmdD W d=({ zCmd with kind:=14,actor:=s1,schema:=s2,table:=s3,right:=2,role:=s5 },W5,d5):=by
  unfold cmdD
  rw [qk]
  simp [bindD,hk,tailD,grantD,q1,q2,q3,qr,q5,hm]
 rw [e]
 have H1:=gH (lname_at (b:=b) (p:=p) q1)
 have H2:=gH (lname_at (b:=b) (p:=p) q2)
 have H3:=gH (lname_at (b:=b) (p:=p) q3)
 have H5:=gH (lname_at (b:=b) (p:=p) q5)
 have H4:=gH (lword_at (b:=b) (p:=p) q4)
 have HM:=gH (lmore_at (b:=b) (p:=p) hm)
 have ihr0:=eqS_as hr0
 unfold b_read at ihr0
 simp only at ihr0
 have ihr:=eqS_as hr
 unfold b_write at ihr
 simp only at ihr
 clear e hl qk q0 hk q1 q2 q3 q4 q5 qr hr0 hr hm
 obtain ⟨v,hv⟩:∃ v,v=d0:=⟨_,rfl⟩
 have HVV:=gH hv
 clear hv
 cases d0
 all_goals
  go_enter Tryz.func34,Tryz.ntmps34
  go_wp2_with (first
   | (go_at_call 32;with_reducible refine (H0.out _ HX0.out.ds).mono ?_;rintro e w0 ⟨rfl,g0,l0,k0⟩;have X0:=HX0.out.call k0 l0;have y1:=l0.c1;have y2:=l0.f1;have y3:=l0.lt;have X1:=X0.boxBad v (c17 14 zB zB zB zB zB 0 false) 31;rw [HVV.out] at X1;obtain ⟨z00,z01,z02⟩:=X1.lt;have X0s:=gH X1;clear l0 k0 X0 X1)
   | (go_at_call 56;with_reducible refine (HK.out _).mono ?_;rintro e wk ⟨rfl,rfl⟩)
   | (go_at_call 57;with_reducible refine (H1.out _ X0s.out.nr.ds).mono ?_;rintro e w1 ⟨rfl,g1,m1,k1⟩;have X1:=X0s.out.call k1 m1;obtain ⟨ca1,fa1⟩:=X1.v1;obtain ⟨cb1,fb1⟩:=X1.v0;obtain ⟨z10,z11,z12⟩:=X1.lt;have X1s:=X1.s1 s1;clear m1 k1 X1)
   | (go_at_call 57;with_reducible refine (H2.out _ X1s.out.nr.ds).mono ?_;rintro e w2 ⟨rfl,g2,m2,k2⟩;have X2:=X1s.out.call k2 m2;obtain ⟨ca2,fa2⟩:=X2.v2;obtain ⟨cb2,fb2⟩:=X2.v0;obtain ⟨z20,z21,z22⟩:=X2.lt;have X2s:=X2.s2 s2;clear m2 k2 X2)
   | (go_at_call 57;with_reducible refine (H3.out _ X2s.out.nr.ds).mono ?_;rintro e w3 ⟨rfl,g3,m3,k3⟩;have X3:=X2s.out.call k3 m3;obtain ⟨ca3,fa3⟩:=X3.v3;obtain ⟨cb3,fb3⟩:=X3.v0;obtain ⟨z30,z31,z32⟩:=X3.lt;have X3s:=X3.s3 s3;clear m3 k3 X3)
   | (go_at_call 32;with_reducible refine (H4.out _ X3s.out.nr.ds).mono ?_;rintro e w4 ⟨rfl,g4,m4,k4⟩;have X4:=X3s.out.call k4 m4;obtain ⟨ca4,fa4⟩:=X4.v15;obtain ⟨z40,z41,z42⟩:=X4.lt;have X4s:=X4.s15 2;clear m4 k4 X4)
   | (go_at_call 57;with_reducible refine (H5.out _ X4s.out.nr.ds).mono ?_;rintro e w5 ⟨rfl,g5,m5,k5⟩;have X5:=X4s.out.call k5 m5;obtain ⟨ca5,fa5⟩:=X5.v5;obtain ⟨cb5,fb5⟩:=X5.v0;obtain ⟨z50,z51,z52⟩:=X5.lt;have X5s:=X5.s5 s5;have e1:=cmd_ret X5s.out.row;have e2:=cmd_put (r:=w.heap.size) X5s.out.nr.res (k:=14) (a:=s1) (s:=s2) (t:=s3) (n:=zB) (ro:=s5) (q:=2) (o:=false);clear m5 k5 X5)
   | (go_at_call 54;with_reducible refine (HM.out _ X5s.out.nr.ds).mono ?_;rintro e wm ⟨rfl,rfl⟩))
  have XR:=X5s.out.nr.sets (cs:=(c17 14 s1 s2 s3 zB s5 2 false)) rfl
  refine bodyPost_ret (results_cell rfl _ rfl (lv_row (T:=31) Tryz.underlying31 (by kernel_rfl) XR.res rfl)) rfl ?_
  exact ⟨XR.kw,_,rfl,⟨none,0,none,0,rfl,colsN_nil _ _ _ HB.out,namesN_nil _ _ _ HB.out,g1,g2,g3,szZ,g5,szZ,szZ,szZ,szZ⟩,XR.ds⟩
theorem commandN_14_write_opt (f:ByteArray) (W:Ws) (d:Bool) (W0:Ws) (d0:Bool) (q0:wordD W d=(f,W0,d0)) (hk:kindB f=14) (s1:ByteArray) (W1:Ws) (d1:Bool) (q1:nameD W0 d0=(s1,W1,d1)) (s2:ByteArray) (W2:Ws) (d2:Bool) (q2:nameD W1 d1=(s2,W2,d2)) (s3:ByteArray) (W3:Ws) (d3:Bool) (q3:nameD W2 d2=(s3,W3,d3)) (f4:ByteArray) (W4:Ws) (d4:Bool) (q4:wordD W3 d3=(f4,W4,d4)) (hr0:eqS f4 b_read=false) (hr:eqS f4 b_write=true) (b p:Nat) (w:World) (hl:LnS w b p W d) (s5:ByteArray) (W5:Ws) (d5:Bool) (q5:nameD W4 d4=(s5,W5,d5)) (hm:moreD W5 d5=true) (f6:ByteArray) (W6:Ws) (q6:wordD W5 d5=(f6,W6,false)) (o6:Bool) (ho:eqS f6 b_option=o6):Calls Tryz.prog 34 #[.pointer (some ⟨b,0,none⟩)] w (RdN b p w (CmdN b w.heap.size) (cmdD W d)):=by
 have H0:=gH (lword_at (b:=b) (p:=p) q0)
 have HK:=gH (lkind_at hk)
 have HX0:=gH (Nr.start hl z17 31)
 have hb:=hl.lt
 have HB:=gH hb
 have qk:oneD (fun s=>(s,kindB s != 0)) W d=(f,W0,d0):=by rw [one_kind q0 hk];cases d0<;>rfl
 have qr:oneD rightV W3 d3=(2,W4,d4):=by rw [one_word,q4];simp [rightV,hr0,hr]
 have qo:oneD (fun s=>(s,eqS s b_option)) W5 d5=(f6,W6,!o6):=by rw [one_word,q6,ho];rfl
 have e:cmdD W d=({ zCmd with kind:=14,actor:=s1,schema:=s2,table:=s3,right:=2,role:=s5,opt:=true },W6,(!o6)):=by
  unfold cmdD
  rw [qk]
  simp [bindD,hk,tailD,grantD,q1,q2,q3,qr,q5,hm,qo]
 rw [e]
 have H1:=gH (lname_at (b:=b) (p:=p) q1)
 have H2:=gH (lname_at (b:=b) (p:=p) q2)
 have H3:=gH (lname_at (b:=b) (p:=p) q3)
 have H5:=gH (lname_at (b:=b) (p:=p) q5)
 have H4:=gH (lword_at (b:=b) (p:=p) q4)
 have HM:=gH (lmore_at (b:=b) (p:=p) hm)
 have H6:=gH (lword_at (b:=b) (p:=p) q6)
 have io:=eqS_as ho
 unfold b_option at io
 simp only at io
 have io':(f6.toList != [111,112,116,105,111,110])=!(f6.toList==[111,112,116,105,111,110]):=rfl
 rw [io] at io'
 have ihr0:=eqS_as hr0
 unfold b_read at ihr0
 simp only at ihr0
 have ihr:=eqS_as hr
 unfold b_write at ihr
 simp only at ihr
 clear e hl qk q0 hk q1 q2 q3 q4 q5 qr hr0 hr hm q6 ho qo
 obtain ⟨v,hv⟩:∃ v,v=d0:=⟨_,rfl⟩
 have HVV:=gH hv
 clear hv
 obtain ⟨y,hy⟩:∃ y,y=!o6:=⟨_,rfl⟩
 have HY:=gH hy
 clear hy
 cases d0<;>cases o6
 all_goals
  go_enter Tryz.func34,Tryz.ntmps34
  go_wp2_with (first
   | (go_at_call 32;with_reducible refine (H0.out _ HX0.out.ds).mono ?_;rintro e w0 ⟨rfl,g0,l0,k0⟩;have X0:=HX0.out.call k0 l0;have y1:=l0.c1;have y2:=l0.f1;have y3:=l0.lt;have X1:=X0.boxBad v (c17 14 zB zB zB zB zB 0 false) 31;rw [HVV.out] at X1;obtain ⟨z00,z01,z02⟩:=X1.lt;have X0s:=gH X1;clear l0 k0 X0 X1)
   | (go_at_call 56;with_reducible refine (HK.out _).mono ?_;rintro e wk ⟨rfl,rfl⟩)
   | (go_at_call 57;with_reducible refine (H1.out _ X0s.out.nr.ds).mono ?_;rintro e w1 ⟨rfl,g1,m1,k1⟩;have X1:=X0s.out.call k1 m1;obtain ⟨ca1,fa1⟩:=X1.v1;obtain ⟨cb1,fb1⟩:=X1.v0;obtain ⟨z10,z11,z12⟩:=X1.lt;have X1s:=X1.s1 s1;clear m1 k1 X1)
   | (go_at_call 57;with_reducible refine (H2.out _ X1s.out.nr.ds).mono ?_;rintro e w2 ⟨rfl,g2,m2,k2⟩;have X2:=X1s.out.call k2 m2;obtain ⟨ca2,fa2⟩:=X2.v2;obtain ⟨cb2,fb2⟩:=X2.v0;obtain ⟨z20,z21,z22⟩:=X2.lt;have X2s:=X2.s2 s2;clear m2 k2 X2)
   | (go_at_call 57;with_reducible refine (H3.out _ X2s.out.nr.ds).mono ?_;rintro e w3 ⟨rfl,g3,m3,k3⟩;have X3:=X2s.out.call k3 m3;obtain ⟨ca3,fa3⟩:=X3.v3;obtain ⟨cb3,fb3⟩:=X3.v0;obtain ⟨z30,z31,z32⟩:=X3.lt;have X3s:=X3.s3 s3;clear m3 k3 X3)
   | (go_at_call 32;with_reducible refine (H4.out _ X3s.out.nr.ds).mono ?_;rintro e w4 ⟨rfl,g4,m4,k4⟩;have X4:=X3s.out.call k4 m4;obtain ⟨ca4,fa4⟩:=X4.v15;obtain ⟨z40,z41,z42⟩:=X4.lt;have X4s:=X4.s15 2;clear m4 k4 X4)
   | (go_at_call 57;with_reducible refine (H5.out _ X4s.out.nr.ds).mono ?_;rintro e w5 ⟨rfl,g5,m5,k5⟩;have X5:=X4s.out.call k5 m5;obtain ⟨ca5,fa5⟩:=X5.v5;obtain ⟨cb5,fb5⟩:=X5.v0;obtain ⟨cd5,fd5⟩:=X5.v16;obtain ⟨z50,z51,z52⟩:=X5.lt;have X5s:=X5.s5 s5;have X5o:=X5s.out.s16 true;clear m5 k5 X5)
   | (go_at_call 54;with_reducible refine (HM.out _ X5s.out.nr.ds).mono ?_;rintro e wm ⟨rfl,rfl⟩)
   | (go_at_call 32;with_reducible refine (H6.out _ X5o.out.nr.ds).mono ?_;rintro e w6 ⟨rfl,g6,m6,k6⟩;have X6:=X5o.out.call k6 m6;have yz1:=m6.c1;have yz2:=m6.f1;obtain ⟨z60,z61,z62⟩:=X6.lt;have X6b:=X6.bad y;rw [HY.out] at X6b;simp only [Bool.not_true,Bool.not_false] at X6b;have X6s:=gH X6b;have e1:=cmd_ret X6s.out.row;have e2:=cmd_put (r:=w.heap.size) X6s.out.nr.res (k:=14) (a:=s1) (s:=s2) (t:=s3) (n:=zB) (ro:=s5) (q:=2) (o:=true);clear m6 k6 X6 X6b))
  have XR:=X6s.out.nr.sets (cs:=(c17 14 s1 s2 s3 zB s5 2 true)) rfl
  refine bodyPost_ret (results_cell rfl _ rfl (lv_row (T:=31) Tryz.underlying31 (by kernel_rfl) XR.res rfl)) rfl ?_
  exact ⟨XR.kw,_,rfl,⟨none,0,none,0,rfl,colsN_nil _ _ _ HB.out,namesN_nil _ _ _ HB.out,g1,g2,g3,szZ,g5,szZ,szZ,szZ,szZ⟩,XR.ds⟩
theorem commandN_14_other_nomore (f:ByteArray) (W:Ws) (d:Bool) (W0:Ws) (d0:Bool) (q0:wordD W d=(f,W0,d0)) (hk:kindB f=14) (s1:ByteArray) (W1:Ws) (d1:Bool) (q1:nameD W0 d0=(s1,W1,d1)) (s2:ByteArray) (W2:Ws) (d2:Bool) (q2:nameD W1 d1=(s2,W2,d2)) (s3:ByteArray) (W3:Ws) (d3:Bool) (q3:nameD W2 d2=(s3,W3,d3)) (f4:ByteArray) (W4:Ws) (d4:Bool) (q4:wordD W3 d3=(f4,W4,d4)) (hr0:eqS f4 b_read=false) (hr1:eqS f4 b_write=false) (b p:Nat) (w:World) (hl:LnS w b p W d) (s5:ByteArray) (W5:Ws) (d5:Bool) (q5:nameD W4 true=(s5,W5,d5)) (hm:moreD W5 d5=false):Calls Tryz.prog 34 #[.pointer (some ⟨b,0,none⟩)] w (RdN b p w (CmdN b w.heap.size) (cmdD W d)):=by
 have H0:=gH (lword_at (b:=b) (p:=p) q0)
 have HK:=gH (lkind_at hk)
 have HX0:=gH (Nr.start hl z17 31)
 have hb:=hl.lt
 have HB:=gH hb
 have qk:oneD (fun s=>(s,kindB s != 0)) W d=(f,W0,d0):=by rw [one_kind q0 hk];cases d0<;>rfl
 have qr:oneD rightV W3 d3=(0,W4,true):=by rw [one_word,q4];simp [rightV,hr0,hr1]
 have e:cmdD W d=({ zCmd with kind:=14,actor:=s1,schema:=s2,table:=s3,right:=0,role:=s5 },W5,d5):=by
  unfold cmdD
  rw [qk]
  simp [bindD,hk,tailD,grantD,q1,q2,q3,qr,q5,hm]
 rw [e]
 have H1:=gH (lname_at (b:=b) (p:=p) q1)
 have H2:=gH (lname_at (b:=b) (p:=p) q2)
 have H3:=gH (lname_at (b:=b) (p:=p) q3)
 have H5:=gH (lname_at (b:=b) (p:=p) q5)
 have H4:=gH (lword_at (b:=b) (p:=p) q4)
 have HM:=gH (lmore_at (b:=b) (p:=p) hm)
 have ihr0:=eqS_as hr0
 unfold b_read at ihr0
 simp only at ihr0
 have ihr1:=eqS_as hr1
 unfold b_write at ihr1
 simp only at ihr1
 clear e hl qk q0 hk q1 q2 q3 q4 q5 qr hr0 hr1 hm
 obtain ⟨v,hv⟩:∃ v,v=d0:=⟨_,rfl⟩
 have HVV:=gH hv
 clear hv
 cases d0
 all_goals
  go_enter Tryz.func34,Tryz.ntmps34
  go_wp2_with (first
   | (go_at_call 32;with_reducible refine (H0.out _ HX0.out.ds).mono ?_;rintro e w0 ⟨rfl,g0,l0,k0⟩;have X0:=HX0.out.call k0 l0;have y1:=l0.c1;have y2:=l0.f1;have y3:=l0.lt;have X1:=X0.boxBad v (c17 14 zB zB zB zB zB 0 false) 31;rw [HVV.out] at X1;obtain ⟨z00,z01,z02⟩:=X1.lt;have X0s:=gH X1;clear l0 k0 X0 X1)
   | (go_at_call 56;with_reducible refine (HK.out _).mono ?_;rintro e wk ⟨rfl,rfl⟩)
   | (go_at_call 57;with_reducible refine (H1.out _ X0s.out.nr.ds).mono ?_;rintro e w1 ⟨rfl,g1,m1,k1⟩;have X1:=X0s.out.call k1 m1;obtain ⟨ca1,fa1⟩:=X1.v1;obtain ⟨cb1,fb1⟩:=X1.v0;obtain ⟨z10,z11,z12⟩:=X1.lt;have X1s:=X1.s1 s1;clear m1 k1 X1)
   | (go_at_call 57;with_reducible refine (H2.out _ X1s.out.nr.ds).mono ?_;rintro e w2 ⟨rfl,g2,m2,k2⟩;have X2:=X1s.out.call k2 m2;obtain ⟨ca2,fa2⟩:=X2.v2;obtain ⟨cb2,fb2⟩:=X2.v0;obtain ⟨z20,z21,z22⟩:=X2.lt;have X2s:=X2.s2 s2;clear m2 k2 X2)
   | (go_at_call 57;with_reducible refine (H3.out _ X2s.out.nr.ds).mono ?_;rintro e w3 ⟨rfl,g3,m3,k3⟩;have X3:=X2s.out.call k3 m3;obtain ⟨ca3,fa3⟩:=X3.v3;obtain ⟨cb3,fb3⟩:=X3.v0;obtain ⟨z30,z31,z32⟩:=X3.lt;have X3s:=X3.s3 s3;clear m3 k3 X3)
   | (go_at_call 32;with_reducible refine (H4.out _ X3s.out.nr.ds).mono ?_;rintro e w4 ⟨rfl,g4,m4,k4⟩;have X4:=X3s.out.call k4 m4;have yy1:=m4.c1;have yy2:=m4.f1;obtain ⟨z40,z41,z42⟩:=X4.lt;have X4s:=gH (X4.bad true);clear m4 k4 X4)
   | (go_at_call 57;with_reducible refine (H5.out _ X4s.out.nr.ds).mono ?_;rintro e w5 ⟨rfl,g5,m5,k5⟩;have X5:=X4s.out.call k5 m5;obtain ⟨ca5,fa5⟩:=X5.v5;obtain ⟨cb5,fb5⟩:=X5.v0;obtain ⟨z50,z51,z52⟩:=X5.lt;have X5s:=X5.s5 s5;have e1:=cmd_ret X5s.out.row;have e2:=cmd_put (r:=w.heap.size) X5s.out.nr.res (k:=14) (a:=s1) (s:=s2) (t:=s3) (n:=zB) (ro:=s5) (q:=0) (o:=false);clear m5 k5 X5)
   | (go_at_call 54;with_reducible refine (HM.out _ X5s.out.nr.ds).mono ?_;rintro e wm ⟨rfl,rfl⟩))
  have XR:=X5s.out.nr.sets (cs:=(c17 14 s1 s2 s3 zB s5 0 false)) rfl
  refine bodyPost_ret (results_cell rfl _ rfl (lv_row (T:=31) Tryz.underlying31 (by kernel_rfl) XR.res rfl)) rfl ?_
  exact ⟨XR.kw,_,rfl,⟨none,0,none,0,rfl,colsN_nil _ _ _ HB.out,namesN_nil _ _ _ HB.out,g1,g2,g3,szZ,g5,szZ,szZ,szZ,szZ⟩,XR.ds⟩
theorem commandN_14_other_opt (f:ByteArray) (W:Ws) (d:Bool) (W0:Ws) (d0:Bool) (q0:wordD W d=(f,W0,d0)) (hk:kindB f=14) (s1:ByteArray) (W1:Ws) (d1:Bool) (q1:nameD W0 d0=(s1,W1,d1)) (s2:ByteArray) (W2:Ws) (d2:Bool) (q2:nameD W1 d1=(s2,W2,d2)) (s3:ByteArray) (W3:Ws) (d3:Bool) (q3:nameD W2 d2=(s3,W3,d3)) (f4:ByteArray) (W4:Ws) (d4:Bool) (q4:wordD W3 d3=(f4,W4,d4)) (hr0:eqS f4 b_read=false) (hr1:eqS f4 b_write=false) (b p:Nat) (w:World) (hl:LnS w b p W d) (s5:ByteArray) (W5:Ws) (d5:Bool) (q5:nameD W4 true=(s5,W5,d5)) (hm:moreD W5 d5=true) (f6:ByteArray) (W6:Ws) (q6:wordD W5 d5=(f6,W6,false)) (o6:Bool) (ho:eqS f6 b_option=o6):Calls Tryz.prog 34 #[.pointer (some ⟨b,0,none⟩)] w (RdN b p w (CmdN b w.heap.size) (cmdD W d)):=by
 have H0:=gH (lword_at (b:=b) (p:=p) q0)
 have HK:=gH (lkind_at hk)
 have HX0:=gH (Nr.start hl z17 31)
 have hb:=hl.lt
 have HB:=gH hb
 have qk:oneD (fun s=>(s,kindB s != 0)) W d=(f,W0,d0):=by rw [one_kind q0 hk];cases d0<;>rfl
 have qr:oneD rightV W3 d3=(0,W4,true):=by rw [one_word,q4];simp [rightV,hr0,hr1]
 have qo:oneD (fun s=>(s,eqS s b_option)) W5 d5=(f6,W6,!o6):=by rw [one_word,q6,ho];rfl
 have e:cmdD W d=({ zCmd with kind:=14,actor:=s1,schema:=s2,table:=s3,right:=0,role:=s5,opt:=true },W6,(!o6)):=by
  unfold cmdD
  rw [qk]
  simp [bindD,hk,tailD,grantD,q1,q2,q3,qr,q5,hm,qo]
 rw [e]
 have H1:=gH (lname_at (b:=b) (p:=p) q1)
 have H2:=gH (lname_at (b:=b) (p:=p) q2)
 have H3:=gH (lname_at (b:=b) (p:=p) q3)
 have H5:=gH (lname_at (b:=b) (p:=p) q5)
 have H4:=gH (lword_at (b:=b) (p:=p) q4)
 have HM:=gH (lmore_at (b:=b) (p:=p) hm)
 have H6:=gH (lword_at (b:=b) (p:=p) q6)
 have io:=eqS_as ho
 unfold b_option at io
 simp only at io
 have io':(f6.toList != [111,112,116,105,111,110])=!(f6.toList==[111,112,116,105,111,110]):=rfl
 rw [io] at io'
 have ihr0:=eqS_as hr0
 unfold b_read at ihr0
 simp only at ihr0
 have ihr1:=eqS_as hr1
 unfold b_write at ihr1
 simp only at ihr1
 clear e hl qk q0 hk q1 q2 q3 q4 q5 qr hr0 hr1 hm q6 ho qo
 obtain ⟨v,hv⟩:∃ v,v=d0:=⟨_,rfl⟩
 have HVV:=gH hv
 clear hv
 obtain ⟨y,hy⟩:∃ y,y=!o6:=⟨_,rfl⟩
 have HY:=gH hy
 clear hy
 cases d0<;>cases o6
 all_goals
  go_enter Tryz.func34,Tryz.ntmps34
  go_wp2_with (first
   | (go_at_call 32;with_reducible refine (H0.out _ HX0.out.ds).mono ?_;rintro e w0 ⟨rfl,g0,l0,k0⟩;have X0:=HX0.out.call k0 l0;have y1:=l0.c1;have y2:=l0.f1;have y3:=l0.lt;have X1:=X0.boxBad v (c17 14 zB zB zB zB zB 0 false) 31;rw [HVV.out] at X1;obtain ⟨z00,z01,z02⟩:=X1.lt;have X0s:=gH X1;clear l0 k0 X0 X1)
   | (go_at_call 56;with_reducible refine (HK.out _).mono ?_;rintro e wk ⟨rfl,rfl⟩)
   | (go_at_call 57;with_reducible refine (H1.out _ X0s.out.nr.ds).mono ?_;rintro e w1 ⟨rfl,g1,m1,k1⟩;have X1:=X0s.out.call k1 m1;obtain ⟨ca1,fa1⟩:=X1.v1;obtain ⟨cb1,fb1⟩:=X1.v0;obtain ⟨z10,z11,z12⟩:=X1.lt;have X1s:=X1.s1 s1;clear m1 k1 X1)
   | (go_at_call 57;with_reducible refine (H2.out _ X1s.out.nr.ds).mono ?_;rintro e w2 ⟨rfl,g2,m2,k2⟩;have X2:=X1s.out.call k2 m2;obtain ⟨ca2,fa2⟩:=X2.v2;obtain ⟨cb2,fb2⟩:=X2.v0;obtain ⟨z20,z21,z22⟩:=X2.lt;have X2s:=X2.s2 s2;clear m2 k2 X2)
   | (go_at_call 57;with_reducible refine (H3.out _ X2s.out.nr.ds).mono ?_;rintro e w3 ⟨rfl,g3,m3,k3⟩;have X3:=X2s.out.call k3 m3;obtain ⟨ca3,fa3⟩:=X3.v3;obtain ⟨cb3,fb3⟩:=X3.v0;obtain ⟨z30,z31,z32⟩:=X3.lt;have X3s:=X3.s3 s3;clear m3 k3 X3)
   | (go_at_call 32;with_reducible refine (H4.out _ X3s.out.nr.ds).mono ?_;rintro e w4 ⟨rfl,g4,m4,k4⟩;have X4:=X3s.out.call k4 m4;have yy1:=m4.c1;have yy2:=m4.f1;obtain ⟨z40,z41,z42⟩:=X4.lt;have X4s:=gH (X4.bad true);clear m4 k4 X4)
   | (go_at_call 57;with_reducible refine (H5.out _ X4s.out.nr.ds).mono ?_;rintro e w5 ⟨rfl,g5,m5,k5⟩;have X5:=X4s.out.call k5 m5;obtain ⟨ca5,fa5⟩:=X5.v5;obtain ⟨cb5,fb5⟩:=X5.v0;obtain ⟨cd5,fd5⟩:=X5.v16;obtain ⟨z50,z51,z52⟩:=X5.lt;have X5s:=X5.s5 s5;have X5o:=X5s.out.s16 true;clear m5 k5 X5)
   | (go_at_call 54;with_reducible refine (HM.out _ X5s.out.nr.ds).mono ?_;rintro e wm ⟨rfl,rfl⟩)
   | (go_at_call 32;with_reducible refine (H6.out _ X5o.out.nr.ds).mono ?_;rintro e w6 ⟨rfl,g6,m6,k6⟩;have X6:=X5o.out.call k6 m6;have yz1:=m6.c1;have yz2:=m6.f1;obtain ⟨z60,z61,z62⟩:=X6.lt;have X6b:=X6.bad y;rw [HY.out] at X6b;simp only [Bool.not_true,Bool.not_false] at X6b;have X6s:=gH X6b;have e1:=cmd_ret X6s.out.row;have e2:=cmd_put (r:=w.heap.size) X6s.out.nr.res (k:=14) (a:=s1) (s:=s2) (t:=s3) (n:=zB) (ro:=s5) (q:=0) (o:=true);clear m6 k6 X6 X6b))
  have XR:=X6s.out.nr.sets (cs:=(c17 14 s1 s2 s3 zB s5 0 true)) rfl
  refine bodyPost_ret (results_cell rfl _ rfl (lv_row (T:=31) Tryz.underlying31 (by kernel_rfl) XR.res rfl)) rfl ?_
  exact ⟨XR.kw,_,rfl,⟨none,0,none,0,rfl,colsN_nil _ _ _ HB.out,namesN_nil _ _ _ HB.out,g1,g2,g3,szZ,g5,szZ,szZ,szZ,szZ⟩,XR.ds⟩
theorem commandN_15 (f:ByteArray) (W:Ws) (d:Bool) (W0:Ws) (d0:Bool) (q0:wordD W d=(f,W0,d0)) (hk:kindB f=15) (b p:Nat) (w:World) (hl:LnS w b p W d):Calls Tryz.prog 34 #[.pointer (some ⟨b,0,none⟩)] w (RdN b p w (CmdN b w.heap.size) (cmdD W d)):=by
 obtain ⟨s1,W1,d1,q1⟩:∃ a c e,nameD W0 d0=(a,c,e):=⟨_,_,_,rfl⟩
 obtain ⟨s2,W2,d2,q2⟩:∃ a c e,nameD W1 d1=(a,c,e):=⟨_,_,_,rfl⟩
 obtain ⟨s3,W3,d3,q3⟩:∃ a c e,nameD W2 d2=(a,c,e):=⟨_,_,_,rfl⟩
 obtain ⟨f4,W4,d4,q4⟩:∃ a c e,wordD W3 d3=(a,c,e):=⟨_,_,_,rfl⟩
 cases hr0:eqS f4 b_read with
 | true =>
  obtain ⟨s5,W5,d5,q5⟩:∃ a c e,nameD W4 d4=(a,c,e):=⟨_,_,_,rfl⟩
  exact commandN_15_read_end f W d W0 d0 q0 hk s1 W1 d1 q1 s2 W2 d2 q2 s3 W3 d3 q3 f4 W4 d4 q4 hr0 b p w hl s5 W5 d5 q5
 | false =>
  cases hr1:eqS f4 b_write with
  | true =>
   obtain ⟨s5,W5,d5,q5⟩:∃ a c e,nameD W4 d4=(a,c,e):=⟨_,_,_,rfl⟩
   exact commandN_15_write_end f W d W0 d0 q0 hk s1 W1 d1 q1 s2 W2 d2 q2 s3 W3 d3 q3 f4 W4 d4 q4 hr0 hr1 b p w hl s5 W5 d5 q5
  | false =>
   obtain ⟨s5,W5,d5,q5⟩:∃ a c e,nameD W4 true=(a,c,e):=⟨_,_,_,rfl⟩
   exact commandN_15_other_end f W d W0 d0 q0 hk s1 W1 d1 q1 s2 W2 d2 q2 s3 W3 d3 q3 f4 W4 d4 q4 hr0 hr1 b p w hl s5 W5 d5 q5
theorem commandN_14 (f:ByteArray) (W:Ws) (d:Bool) (W0:Ws) (d0:Bool) (q0:wordD W d=(f,W0,d0)) (hk:kindB f=14) (b p:Nat) (w:World) (hl:LnS w b p W d):Calls Tryz.prog 34 #[.pointer (some ⟨b,0,none⟩)] w (RdN b p w (CmdN b w.heap.size) (cmdD W d)):=by
 obtain ⟨s1,W1,d1,q1⟩:∃ a c e,nameD W0 d0=(a,c,e):=⟨_,_,_,rfl⟩
 obtain ⟨s2,W2,d2,q2⟩:∃ a c e,nameD W1 d1=(a,c,e):=⟨_,_,_,rfl⟩
 obtain ⟨s3,W3,d3,q3⟩:∃ a c e,nameD W2 d2=(a,c,e):=⟨_,_,_,rfl⟩
 obtain ⟨f4,W4,d4,q4⟩:∃ a c e,wordD W3 d3=(a,c,e):=⟨_,_,_,rfl⟩
 cases hr0:eqS f4 b_read with
 | true =>
  obtain ⟨s5,W5,d5,q5⟩:∃ a c e,nameD W4 d4=(a,c,e):=⟨_,_,_,rfl⟩
  cases hm:moreD W5 d5 with
  | false=>exact commandN_14_read_nomore f W d W0 d0 q0 hk s1 W1 d1 q1 s2 W2 d2 q2 s3 W3 d3 q3 f4 W4 d4 q4 hr0 b p w hl s5 W5 d5 q5 hm
  | true =>
   obtain ⟨f6,W6,d6,q6⟩:∃ a c e,wordD W5 d5=(a,c,e):=⟨_,_,_,rfl⟩
   obtain rfl:=more_word hm q6
   exact commandN_14_read_opt f W d W0 d0 q0 hk s1 W1 d1 q1 s2 W2 d2 q2 s3 W3 d3 q3 f4 W4 d4 q4 hr0 b p w hl s5 W5 d5 q5 hm f6 W6 q6 _ rfl
 | false =>
  cases hr1:eqS f4 b_write with
  | true =>
   obtain ⟨s5,W5,d5,q5⟩:∃ a c e,nameD W4 d4=(a,c,e):=⟨_,_,_,rfl⟩
   cases hm:moreD W5 d5 with
   | false=>exact commandN_14_write_nomore f W d W0 d0 q0 hk s1 W1 d1 q1 s2 W2 d2 q2 s3 W3 d3 q3 f4 W4 d4 q4 hr0 hr1 b p w hl s5 W5 d5 q5 hm
   | true =>
    obtain ⟨f6,W6,d6,q6⟩:∃ a c e,wordD W5 d5=(a,c,e):=⟨_,_,_,rfl⟩
    obtain rfl:=more_word hm q6
    exact commandN_14_write_opt f W d W0 d0 q0 hk s1 W1 d1 q1 s2 W2 d2 q2 s3 W3 d3 q3 f4 W4 d4 q4 hr0 hr1 b p w hl s5 W5 d5 q5 hm f6 W6 q6 _ rfl
  | false =>
   obtain ⟨s5,W5,d5,q5⟩:∃ a c e,nameD W4 true=(a,c,e):=⟨_,_,_,rfl⟩
   cases hm:moreD W5 d5 with
   | false=>exact commandN_14_other_nomore f W d W0 d0 q0 hk s1 W1 d1 q1 s2 W2 d2 q2 s3 W3 d3 q3 f4 W4 d4 q4 hr0 hr1 b p w hl s5 W5 d5 q5 hm
   | true =>
    obtain ⟨f6,W6,d6,q6⟩:∃ a c e,wordD W5 d5=(a,c,e):=⟨_,_,_,rfl⟩
    obtain rfl:=more_word hm q6
    exact commandN_14_other_opt f W d W0 d0 q0 hk s1 W1 d1 q1 s2 W2 d2 q2 s3 W3 d3 q3 f4 W4 d4 q4 hr0 hr1 b p w hl s5 W5 d5 q5 hm f6 W6 q6 _ rfl
theorem Nx.kn {b p r x B:Nat} {w V V1:World} {W:Ws} {d:Bool} {zs cs:List Value} (X:Nx b p r x w V W d zs cs) (k:Kn B V V1) (hw:w.heap.size≤B) (hb:b < B) (hp:p < B) (hr:r < B) (hx:x < B):Nx b p r x w V1 W d zs cs :=
 ⟨⟨X.nr.ds.kn k hb hp,Kb.row (P:=fun g=>B≤g) k X.nr.res (by omega),X.nr.kw.kn k hw,X.nr.fb,X.nr.fp,X.nr.fr⟩,Kb.row (P:=fun g=>B≤g) k X.row (by omega),X.fx,X.fn⟩
structure GrowM {α:Type} (ty:TypeId) (size:Nat) (cells:α→List Value) (f:ByteArray→α × Bool) (Pz:α→Prop) (j b p r x B:Nat) (w:World) (zs cs:List Value) (W:Ws) (d0:Bool) (wr:World) (rest:Ws) (d:Bool) (l:List α) (h:Hd):Prop where
 inv:manyG f l rest d=manyB f W d0
 bnd:d=false→l.length+rest.length=W.length
 el:∀ y∈l,Pz y
 nx:Nx b p r x w wr rest d zs (cs.set j (.slice h.a l.length h.c))
 own:wr.ownsRow B ty size (.slice h.a l.length h.c) l.length (l.flatMap cells)
 hw:w.heap.size≤B
 hb:b < B
 hp:p < B
 hr:r < B
 hx:x < B
 hj:j < cs.length
 big:B≤wr.heap.size
section
variable {α : Type} {ty : TypeId} {size : Nat} {cells : α → List Value} {f : ByteArray → α × Bool} {Pz : α → Prop} {j b p r x B : Nat} {w : World} {zs cs : List Value} {W : Ws} {d0 : Bool} {wr : World} {rest : Ws} {d : Bool} {l : List α} {h : Hd}
theorem GrowM.start (X:Nx b p r x w wr W d0 zs cs) (hj:j < cs.length) (hz:cs[j]=.slice none 0 0):GrowM ty size cells f Pz j b p r x wr.heap.size w zs cs W d0 wr W d0 [] ⟨none,0,0⟩ :=
 ⟨rfl,fun _=>by simp,fun y hy=>absurd hy (by simp),by
  have e:cs.set j (.slice none ([]:List α).length 0)=cs:=by
   show cs.set j (.slice none 0 0)=cs
   rw [← hz];exact List.set_getElem_self hj
  show Nx b p r x w wr W d0 zs (cs.set j (.slice none ([]:List α).length 0))
  rw [e];exact X,own_nilN wr,X.nr.kw.size,X.nr.ds.lt,X.nr.ds.plt,X.nr.res.1,X.row.1,hj,Nat.le_refl _⟩
theorem GrowM.upto (g:GrowM ty size cells f Pz j b p r x B w zs cs W d0 wr rest d l h) (hd:l≠[]→d=false) (hW:W.length≤4097):l.length≤4097:=by
 cases l with
 | nil=>simp
 | cons a l=>have:=g.bnd (hd (by simp));omega
theorem GrowM.cell (g:GrowM ty size cells f Pz j b p r x B w zs cs W d0 wr rest d l h):wr.cell? ⟨x,j,none⟩=some (.slice h.a l.length h.c)∧wr.frozen? ⟨x,j,none⟩=false:=by
 have:=g.nx.cf j (by simpa using g.hj)
 simpa using this
theorem GrowM.step (g:GrowM ty size cells f Pz j b p r x B w zs cs W d0 wr rest d l h) {y:α} {rest1:Ws} {d1:Bool} {w1 w5:World} {o1 o2:Obj} {gg cap:Nat} (hs:oneD f rest d=(y,rest1,d1)) (hy:Pz y) (h1:l≠[]→d=false) (h2:l=[]∨moreD rest d=true) (k1:Kw b wr w1) (l1:LnS w1 b p rest1 d1)
  (ho:w5.ownsRow B ty size (.slice (Option.some ⟨gg,0,none⟩) (l.length+1) cap) (l.length+1) (l.flatMap cells++cells y)) (hg:((w1.alloc o1).alloc o2).grownBy w5 (Value.slice h.a l.length h.c).ownBlock) :
  Nx b p r x w w5 rest1 d1 zs (cs.set j (.slice h.a l.length h.c))∧GrowM ty size cells f Pz j b p r x B w zs cs W d0 (w5.setCell ⟨x,j,none⟩ (.slice (Option.some ⟨gg,0,none⟩) (l.length+1) cap)) rest1 d1 (l++[y]) ⟨Option.some ⟨gg,0,none⟩,l.length+1,cap⟩:=by
 have hB:∀ k,(Value.slice h.a l.length h.c).ownBlock=Option.some k→B≤k:=fun k hk=>(g.own.lt k hk).1
 have kn:Kn B ((w1.alloc o1).alloc o2) w5:=⟨hg.os,hg.tape,hg.output,hg.size,fun k hk hn=>hg.block k hk (fun e=>hn (hB k e.symm))⟩
 have X5:=((g.nx.call k1 l1).aft (((Aft.refl w1).alloc o1).alloc o2)).kn kn g.hw g.hb g.hp g.hr g.hx
 have hst:=manyG_step f l rest d h1 h2
 rw [hs] at hst
 refine ⟨X5,hst.trans g.inv,fun hd=>?_,?_,?_,?_,g.hw,g.hb,g.hp,g.hr,g.hx,g.hj,by have:=k1.size;have:=g.big;have:=hg.size;simp at this ⊢;omega⟩
 ·subst hd
  cases rest with
  | nil=>cases d<;>cases hs
  | cons s r =>
   cases d with
   | true=>cases hs
   | false =>
    have e:oneD f (s::r) false=((f s).1,r,!(f s).2):=rfl
    rw [e] at hs
    have:rest1=r:=(Prod.mk.inj (Prod.mk.inj hs).2).1.symm
    subst this
    have:=g.bnd rfl
    simp at this ⊢;omega
 ·intro z hz
  rcases List.mem_append.1 hz with h | h
  ·exact g.el z h
  ·have:z=y:=by simpa using h
   rw [this];exact hy
 ·have:=X5.set j (.slice (Option.some ⟨gg,0,none⟩) (l.length+1) cap) (by simpa using g.hj)
  rw [List.set_set] at this
  rw [List.length_append]
  exact this
 ·rw [List.length_append,List.flatMap_append,List.flatMap_cons,List.flatMap_nil,List.append_nil]
  exact own_kb ho (Kb.set w5 x j _) (fun k hk e=>by
   have h3:=(ho.lt k hk).1
   have h4:=g.hx
   have e':k=x:=e
   omega)
end
def SzC (c:Col):Prop:=c.name.size≤4096
theorem commandN_3_false (f:ByteArray) (W:Ws) (d:Bool) (W0:Ws) (q0:wordD W d=(f,W0,false)) (hk:kindB f=3) (b p:Nat) (w:World) (hl:LnS w b p W d):Calls Tryz.prog 34 #[.pointer (some ⟨b,0,none⟩)] w (RdN b p w (CmdN b w.heap.size) (cmdD W d)):=by
 have H0:=gH (lword_at (b:=b) (p:=p) q0)
 have HK:=gH (lkind_at hk)
 have qk:=one_kind q0 hk
 have HX0:=gH (Nr.start hl z17 31)
 have hb:=hl.lt
 have HB:=gH hb
 have qk:oneD (fun s=>(s,kindB s != 0)) W d=(f,W0,false):=qk
 obtain ⟨s1,W1,d1,q1⟩:∃ a c e,nameD W0 false=(a,c,e):=⟨_,_,_,rfl⟩
 obtain ⟨s2,W2,d2,q2⟩:∃ a c e,nameD W1 d1=(a,c,e):=⟨_,_,_,rfl⟩
 obtain ⟨s3,W3,d3,q3⟩:∃ a c e,nameD W2 d2=(a,c,e):=⟨_,_,_,rfl⟩
 obtain ⟨l4,W4,d4,q4⟩:∃ a c e,manyB colV W3 d3=(a,c,e):=⟨_,_,_,rfl⟩
 have e:cmdD W d=({ zCmd with kind:=3,actor:=s1,schema:=s2,table:=s3,cols:=l4 },W4,d4):=by
  unfold cmdD
  rw [qk]
  simp [bindD,hk,tailD,q1,q2,q3,q4]
 rw [e]
 have Q4:=gH q4
 have H1:=gH (lname_at (b:=b) (p:=p) q1)
 have H2:=gH (lname_at (b:=b) (p:=p) q2)
 have H3:=gH (lname_at (b:=b) (p:=p) q3)
 clear e hl qk q0 hk q1 q2 q3 q4
 go_enter Tryz.func34,Tryz.ntmps34
 go_wp2_with (first
  | (go_at_call 32;with_reducible refine (H0.out _ HX0.out.ds).mono ?_;rintro e w0 ⟨rfl,g0,l0,k0⟩;have X0:=HX0.out.call k0 l0;have y1:=l0.c1;have y2:=l0.f1;have y3:=l0.lt;have X1:=X0.boxBad false [.int .i64 3,.string ⟨#[]⟩,.string ⟨#[]⟩,.string ⟨#[]⟩,.string ⟨#[]⟩,.string ⟨#[]⟩,.slice none 0 0,.string ⟨#[]⟩,.int .i64 0,.slice none 0 0,.int .i64 0,.int .i64 0,.string ⟨#[]⟩,.string ⟨#[]⟩,.string ⟨#[]⟩,.int .i64 0,.bool false] 31;have z0:=X1.lt;obtain ⟨z00,z01,z02⟩:=z0;have X0s:=gH X1;clear l0 k0 X0 X1)
  | (go_at_call 56;with_reducible refine (HK.out _).mono ?_;rintro e wk ⟨rfl,rfl⟩)
  | (go_at_call 57;with_reducible refine (H1.out _ X0s.out.nr.ds).mono ?_;rintro e w1 ⟨rfl,g1,m1,k1⟩;have X1:=X0s.out.call k1 m1;obtain ⟨ca1,fa1⟩:=X1.cf 1 (by simp);obtain ⟨cb1,fb1⟩:=X1.cf 0 (by simp);have z1:=X1.lt;obtain ⟨z10,z11,z12⟩:=z1;have X1s:Nx b p w.heap.size w0.heap.size w _ _ _ z17 [.int .i64 3,.string s1,.string ⟨#[]⟩,.string ⟨#[]⟩,.string ⟨#[]⟩,.string ⟨#[]⟩,.slice none 0 0,.string ⟨#[]⟩,.int .i64 0,.slice none 0 0,.int .i64 0,.int .i64 0,.string ⟨#[]⟩,.string ⟨#[]⟩,.string ⟨#[]⟩,.int .i64 0,.bool false]:=X1.set 1 (.string s1) (by simp);have X1s:=gH X1s;clear m1 k1 X1)
  | (go_at_call 57;with_reducible refine (H2.out _ X1s.out.nr.ds).mono ?_;rintro e w2 ⟨rfl,g2,m2,k2⟩;have X2:=X1s.out.call k2 m2;obtain ⟨ca2,fa2⟩:=X2.cf 2 (by simp);obtain ⟨cb2,fb2⟩:=X2.cf 0 (by simp);have z2:=X2.lt;obtain ⟨z20,z21,z22⟩:=z2;have X2s:Nx b p w.heap.size w0.heap.size w _ _ _ z17 [.int .i64 3,.string s1,.string s2,.string ⟨#[]⟩,.string ⟨#[]⟩,.string ⟨#[]⟩,.slice none 0 0,.string ⟨#[]⟩,.int .i64 0,.slice none 0 0,.int .i64 0,.int .i64 0,.string ⟨#[]⟩,.string ⟨#[]⟩,.string ⟨#[]⟩,.int .i64 0,.bool false]:=X2.set 2 (.string s2) (by simp);have X2s:=gH X2s;clear m2 k2 X2)
  | (go_at_call 57;with_reducible refine (H3.out _ X2s.out.nr.ds).mono ?_;rintro e w3 ⟨rfl,g3,m3,k3⟩;have X3:=X2s.out.call k3 m3;obtain ⟨ca3,fa3⟩:=X3.cf 3 (by simp);obtain ⟨cb3,fb3⟩:=X3.cf 0 (by simp);have z3:=X3.lt;obtain ⟨z30,z31,z32⟩:=z3;have X3s:Nx b p w.heap.size w0.heap.size w _ _ _ z17 [.int .i64 3,.string s1,.string s2,.string s3,.string ⟨#[]⟩,.string ⟨#[]⟩,.slice none 0 0,.string ⟨#[]⟩,.int .i64 0,.slice none 0 0,.int .i64 0,.int .i64 0,.string ⟨#[]⟩,.string ⟨#[]⟩,.string ⟨#[]⟩,.int .i64 0,.bool false]:=X3.set 3 (.string s3) (by simp);have X3s:=gH X3s;clear m3 k3 X3))
 have BIG:=gH X3s.out.nr.ds.big
 have GS:=gH (GrowM.start (ty:=67) (size:=3) (cells:=colC) (f:=colV) (Pz:=SzC) (j:=6) X3s.out (by simp) rfl)
 go_loopw [] (fun wr=>∃ (rest:Ws) (d':Bool) (l:List Col) (h:Hd),(l≠[]→d'=false)∧GrowM 67 3 colC colV SzC 6 b p w.heap.size w0.heap.size (w3.setCell ⟨w0.heap.size,3,none⟩ (.string s3)).heap.size w z17 [.int .i64 3,.string s1,.string s2,.string s3,.string ⟨#[]⟩,.string ⟨#[]⟩,.slice none 0 0,.string ⟨#[]⟩,.int .i64 0,.slice none 0 0,.int .i64 0,.int .i64 0,.string ⟨#[]⟩,.string ⟨#[]⟩,.string ⟨#[]⟩,.int .i64 0,.bool false] W3 d3 wr rest d' l h) (fun wr=>W3.length - lenV ((wr.cell? ⟨w0.heap.size,6,none⟩).getD undef))
 case atStart=>exact ⟨W3,d3,[],⟨none,0,0⟩,fun h=>absurd rfl h,GS.out⟩
 case round =>
  obtain ⟨rest,d',l,h,hd,g⟩:=hrel
  have hz:=g.upto hd BIG.out
  have G:=gH g
  have HD:=gH hd
  have HMO:=gH (more_dn b p rest d' wr g.nx.nr.ds)
  obtain ⟨cx,fx⟩:=g.cell
  have zg:=g.nx.lt
  obtain ⟨zg0,zg1,zg2⟩:=zg
  have hxb:¬ w0.heap.size=b:=by have:=g.nx.nr.fb;have:=g.nx.fx;omega
  have hbx:¬ b=w0.heap.size:=fun e=>hxb e.symm
  obtain ⟨n,hn⟩:∃ n,l.length=n:=⟨_,rfl⟩
  rw [hn] at hz cx
  obtain ⟨m,hm⟩:∃ m,moreD rest d'=m:=⟨_,rfl⟩
  rw [hm] at HMO
  by_cases hex:l≠[]∧m=false
  ·obtain ⟨hl,rfl⟩:=hex
   have HEQ:=gH (show l4=l∧W4=rest∧d4=d' from by
    have h1:=manyG_stop colV l rest d' hl (.inr hm)
    rw [g.inv,Q4.out] at h1
    cases h1;exact ⟨rfl,rfl,rfl⟩)
   have h0:((n:Int)==0)=false:=by rw [beq_eq_false_iff_ne];intro e;apply hl;exact List.eq_nil_of_length_eq_zero (by omega)
   have XN:Nx b p w.heap.size w0.heap.size w wr rest d' z17 [.int .i64 3,.string s1,.string s2,.string s3,.string ⟨#[]⟩,.string ⟨#[]⟩,.slice h.a n h.c,.string ⟨#[]⟩,.int .i64 0,.slice none 0 0,.int .i64 0,.int .i64 0,.string ⟨#[]⟩,.string ⟨#[]⟩,.string ⟨#[]⟩,.int .i64 0,.bool false]:=by
    have:=g.nx
    rw [hn] at this
    exact this
   have XN:=gH XN
   have e1:=lvCmd_row XN.out.row rfl
   have e2:=svCmd_row XN.out.nr.res rfl rfl (vs:=[.int .i64 3,.string s1,.string s2,.string s3,.string ⟨#[]⟩,.string ⟨#[]⟩,.slice h.a n h.c,.string ⟨#[]⟩,.int .i64 0,.slice none 0 0,.int .i64 0,.int .i64 0,.string ⟨#[]⟩,.string ⟨#[]⟩,.string ⟨#[]⟩,.int .i64 0,.bool false]) (by simp [Value.oneCell'])
   have HN:=gH hn
   clear g hd hm hl hn
   go_wp2_with (first | (go_at_call 54;with_reducible refine HMO.out.mono ?_;rintro e w' ⟨rfl,rfl⟩))
   have XR:=XN.out.nr.sets (cs:=[.int .i64 3,.string s1,.string s2,.string s3,.string ⟨#[]⟩,.string ⟨#[]⟩,.slice h.a n h.c,.string ⟨#[]⟩,.int .i64 0,.slice none 0 0,.int .i64 0,.int .i64 0,.string ⟨#[]⟩,.string ⟨#[]⟩,.string ⟨#[]⟩,.int .i64 0,.bool false]) rfl
   refine bodyPost_ret (results_cell rfl _ rfl (lv_row (T:=31) Tryz.underlying31 (by kernel_rfl) XR.res rfl)) rfl ?_
   obtain ⟨rfl,rfl,rfl⟩:=HEQ.out
   have S:=G.out.hr
   have G1:=G.out.own
   rw [HN.out] at G1
   refine ⟨XR.kw,_,rfl,⟨h.a,h.c,none,0,by rw [← HN.out];rfl,?_,namesN_nil _ _ _ HB.out,g1,g2,g3,szZ,szZ,szZ,szZ,szZ,szZ⟩,XR.ds⟩
   exact ColsN.down (B:=(w3.setCell ⟨w0.heap.size,3,none⟩ (.string s3)).heap.size) ⟨OwnR.hi ⟨h,rfl,G.out.own,G.out.hb⟩ (kb_setCellsD w.heap.size [.int .i64 3,.string s1,.string s2,.string s3,.string ⟨#[]⟩,.string ⟨#[]⟩,.slice h.a n h.c,.string ⟨#[]⟩,.int .i64 0,.slice none 0 0,.int .i64 0,.int .i64 0,.string ⟨#[]⟩,.string ⟨#[]⟩,.string ⟨#[]⟩,.int .i64 0,.bool false] _ 0) (fun g e=>by have e':g=w.heap.size:=e;omega),Nat.le_trans (Nat.le_of_eq HN.out) (by omega),G.out.el⟩ G.out.hw HB.out
  obtain ⟨y,W5,d5,hx⟩:∃ x W1 d1,oneD colV rest d'=(x,W1,d1):=⟨_,_,_,rfl⟩
  have HQ:=gH (lcol_at (b:=b) (p:=p) hx)
  have HL:=gH (show l=[]∨moreD rest d'=true from by
   rcases m with _ | _
   ·exact .inl (Classical.byContradiction fun e=>hex ⟨e,rfl⟩)
   ·exact .inr hm)
  have HN:=gH hn
  have HRUN:=gH (show d5=false→n+W5.length+1=W3.length from fun e=>by
   subst e
   cases rest with
   | nil=>cases d'<;>cases hx
   | cons s r =>
    cases d' with
    | true=>cases hx
    | false =>
     have e:oneD colV (s::r) false=((colV s).1,r,!(colV s).2):=rfl
     rw [e] at hx
     have:W5=r:=(Prod.mk.inj (Prod.mk.inj hx).2).1.symm
     subst this
     have:=g.bnd rfl
     simp at this;omega)
  have hcase:((n:Int)==0)=true∨(((n:Int)==0)=false∧m=true):=by
   by_cases e:n=0
   ·exact .inl (by subst e;rfl)
   ·refine .inr ⟨by rw [beq_eq_false_iff_ne];omega,?_⟩
    rcases HL.out with h | h
    ·rw [h] at hn;simp at hn;omega
    ·rw [← hm];exact h
  have HBZ:=gH (show ∀ (w2:World) (o1 o2:Obj),Kw b wr w2→(w3.setCell ⟨w0.heap.size,3,none⟩ (.string s3)).heap.size≤((w2.alloc o1).alloc o2).heap.size from fun w2 o1 o2 k2=>by
   have h1:=k2.size
   have h2:(w3.setCell ⟨w0.heap.size,3,none⟩ (.string s3)).heap.size≤wr.heap.size:=g.big
   have h3:((w2.alloc o1).alloc o2).heap.size=w2.heap.size+1+1:=by simp
   omega)
  have HOW:=gH (show ∀ w2,Kw b wr w2→w2.ownsRow (w3.setCell ⟨w0.heap.size,3,none⟩ (.string s3)).heap.size 67 3 (.slice h.a n h.c) n (l.flatMap colC) from fun w2 k2=>by
   rw [← hn]
   exact own_kb g.own k2 (fun j hj e=>by have:=(g.own.lt j hj).1;have:=g.hb;have e':j=b:=e;omega))
  have HC1:=gH (show ∀ w2,Kw b wr w2→LnS w2 b p W5 d5→w2.cell? ⟨w0.heap.size,6,none⟩=some (.slice h.a n h.c)∧w2.frozen? ⟨w0.heap.size,6,none⟩=false∧w0.heap.size < w2.heap.size∧b < w2.heap.size from fun w2 k2 l2=>by
   have X:=g.nx.call k2 l2
   have c:=X.cf 6 (by simp)
   have z:=X.lt
   rw [hn] at c
   exact ⟨c.1,c.2,z.2.1,z.1⟩)
  have HST:=gH (show ∀ (w2 w5:World) (gg cap':Nat) (o1 o2:Obj),Kw b wr w2→LnS w2 b p W5 d5→y.name.size≤4096→w5.ownsRow (w3.setCell ⟨w0.heap.size,3,none⟩ (.string s3)).heap.size 67 3 (.slice (some ⟨gg,0,none⟩) (n+1) cap') (n+1) (l.flatMap colC++[.string y.name,.int .i64 y.kind,.bool y.null])→((w2.alloc o1).alloc o2).grownBy w5 (Value.slice h.a n h.c).ownBlock→(w5.cell? ⟨w0.heap.size,6,none⟩=some (.slice h.a n h.c)∧w5.frozen? ⟨w0.heap.size,6,none⟩=false∧w0.heap.size < w5.heap.size∧b < w5.heap.size∧w5.cell? ⟨b,1,none⟩=some (.bool d5))∧GrowM 67 3 colC colV SzC 6 b p w.heap.size w0.heap.size (w3.setCell ⟨w0.heap.size,3,none⟩ (.string s3)).heap.size w z17 [.int .i64 3,.string s1,.string s2,.string s3,.string ⟨#[]⟩,.string ⟨#[]⟩,.slice none 0 0,.string ⟨#[]⟩,.int .i64 0,.slice none 0 0,.int .i64 0,.int .i64 0,.string ⟨#[]⟩,.string ⟨#[]⟩,.string ⟨#[]⟩,.int .i64 0,.bool false] W3 d3 (w5.setCell ⟨w0.heap.size,6,none⟩ (.slice (some ⟨gg,0,none⟩) (n+1) cap')) W5 d5 (l++[y]) ⟨some ⟨gg,0,none⟩,n+1,cap'⟩∧Nx b p w.heap.size w0.heap.size w (w5.setCell ⟨w0.heap.size,6,none⟩ (.slice (some ⟨gg,0,none⟩) (n+1) cap')) W5 d5 z17 [.int .i64 3,.string s1,.string s2,.string s3,.string ⟨#[]⟩,.string ⟨#[]⟩,.slice (some ⟨gg,0,none⟩) (n+1) cap',.string ⟨#[]⟩,.int .i64 0,.slice none 0 0,.int .i64 0,.int .i64 0,.string ⟨#[]⟩,.string ⟨#[]⟩,.string ⟨#[]⟩,.int .i64 0,.bool false] from fun w2 w5 gg cap' o1 o2 k2 l2 sy h1 h2=>by
   subst hn
   obtain ⟨X,G2⟩:=g.step (cells:=colC) hx sy hd HL.out k2 l2 h1 h2
   have c:=X.cf 6 (by simp)
   have z:=X.lt
   have XN:=G2.nx
   rw [List.length_append] at XN
   exact ⟨⟨c.1,c.2,z.2.1,z.1,X.nr.ds.c1⟩,G2,XN⟩)
  have HENDB:=gH (show d5=true→l4=l++[y]∧W4=W5∧d4=d5 from fun e=>by
   have h1:=manyG_step colV l rest d' hd HL.out
   rw [hx,g.inv,Q4.out] at h1
   subst e
   have h2:=manyG_stop colV (l++[y]) W5 true (by simp) (.inl rfl)
   rw [h1] at h2
   cases h2;exact ⟨rfl,rfl,rfl⟩)
  clear g hd hm hn hex hx
  cases d5
  all_goals
   rcases hcase with h0 | ⟨h0,rfl⟩
   all_goals
    go_wp2_with (first
     | (go_at_call 54;with_reducible refine HMO.out.mono ?_;rintro e w' ⟨rfl,rfl⟩)
     | (go_at_call 58;with_reducible refine (HQ.out _ G.out.nx.nr.ds).mono ?_;rintro e w4 ⟨rfl,g4,m4,k4⟩;have HCC:=HC1.out _ k4 m4;obtain ⟨ca4,fa4,za4,zb4⟩:=HCC;have G4:=gH g4;have M4:=gH m4;have K4:=gH k4;clear m4 k4 g4)
     | (at_builtin;go_must (refine app_desk Tryz.underlying24 infoDC rfl (by decide) (by decide) rfl _ _ rfl (w3.setCell ⟨w0.heap.size,3,none⟩ (.string s3)).heap.size (.slice h.a n h.c) n (l.flatMap colC) rfl (((HOW.out w4 K4.out).alloc _).alloc _) (w4.heap.size+1) [.string y.name,.int .i64 y.kind,.bool y.null] rfl (heap_new2 w4 _ _) rfl (by simp [Value.oneCell']) (by omega) (HBZ.out _ _ _ K4.out) ?_);intro gg cap' w5 hown5 hgrow hat;have T5:=HST.out _ _ _ _ _ _ K4.out M4.out G4.out hown5 hgrow;obtain ⟨⟨ca5,fa5,za5,zb5,y5⟩,G5,XN⟩:=T5;have G5:=gH G5;have XN:=gH XN;have e1:=lvCmd_row XN.out.row rfl;have e2:=svCmd_row XN.out.nr.res rfl rfl (vs:=[.int .i64 3,.string s1,.string s2,.string s3,.string ⟨#[]⟩,.string ⟨#[]⟩,.slice (some ⟨gg,0,none⟩) (n+1) cap',.string ⟨#[]⟩,.int .i64 0,.slice none 0 0,.int .i64 0,.int .i64 0,.string ⟨#[]⟩,.string ⟨#[]⟩,.string ⟨#[]⟩,.int .i64 0,.bool false]) (by simp [Value.oneCell']);clear hown5 hgrow hat))
  ·go_roundw
   case rel=>exact ⟨W5,false,l++[y],⟨some ⟨gg,0,none⟩,n+1,cap'⟩,fun _=>rfl,G5.out⟩
   case measure =>
    rw [cx,World.cell?_setCell_same (h:=ca5)]
    have:=HRUN.out (by simp)
    simp [lenV]
    omega
  ·go_roundw
   case rel=>exact ⟨W5,false,l++[y],⟨some ⟨gg,0,none⟩,n+1,cap'⟩,fun _=>rfl,G5.out⟩
   case measure =>
    rw [cx,World.cell?_setCell_same (h:=ca5)]
    have:=HRUN.out (by simp)
    simp [lenV]
    omega
  all_goals
   have XR:=XN.out.nr.sets (cs:=[.int .i64 3,.string s1,.string s2,.string s3,.string ⟨#[]⟩,.string ⟨#[]⟩,.slice (some ⟨gg,0,none⟩) (n+1) cap',.string ⟨#[]⟩,.int .i64 0,.slice none 0 0,.int .i64 0,.int .i64 0,.string ⟨#[]⟩,.string ⟨#[]⟩,.string ⟨#[]⟩,.int .i64 0,.bool false]) rfl
   refine bodyPost_ret (results_cell rfl _ rfl (lv_row (T:=31) Tryz.underlying31 (by kernel_rfl) XR.res rfl)) rfl ?_
   obtain ⟨rfl,rfl,rfl⟩:=HENDB.out (by simp)
   have S:=G5.out.hr
   have hlen:(l++[y]).length=n+1:=by rw [List.length_append,HN.out];rfl
   refine ⟨XR.kw,_,rfl,⟨some ⟨gg,0,none⟩,cap',none,0,by rw [← hlen];rfl,?_,namesN_nil _ _ _ HB.out,g1,g2,g3,szZ,szZ,szZ,szZ,szZ,szZ⟩,XR.ds⟩
   exact ColsN.down (B:=(w3.setCell ⟨w0.heap.size,3,none⟩ (.string s3)).heap.size) ⟨OwnR.hi ⟨⟨some ⟨gg,0,none⟩,n+1,cap'⟩,rfl,G5.out.own,G5.out.hb⟩ (kb_setCellsD w.heap.size [.int .i64 3,.string s1,.string s2,.string s3,.string ⟨#[]⟩,.string ⟨#[]⟩,.slice (some ⟨gg,0,none⟩) (n+1) cap',.string ⟨#[]⟩,.int .i64 0,.slice none 0 0,.int .i64 0,.int .i64 0,.string ⟨#[]⟩,.string ⟨#[]⟩,.string ⟨#[]⟩,.int .i64 0,.bool false] _ 0) (fun g e=>by have e':g=w.heap.size:=e;omega),Nat.le_trans (Nat.le_of_eq hlen) (by omega),G5.out.el⟩ G5.out.hw HB.out
theorem commandN_3_true (f:ByteArray) (W:Ws) (d:Bool) (W0:Ws) (q0:wordD W d=(f,W0,true)) (hk:kindB f=3) (b p:Nat) (w:World) (hl:LnS w b p W d):Calls Tryz.prog 34 #[.pointer (some ⟨b,0,none⟩)] w (RdN b p w (CmdN b w.heap.size) (cmdD W d)):=by
 have H0:=gH (lword_at (b:=b) (p:=p) q0)
 have HK:=gH (lkind_at hk)
 have qk:=one_kind q0 hk
 have HX0:=gH (Nr.start hl z17 31)
 have hb:=hl.lt
 have HB:=gH hb
 have qk:oneD (fun s=>(s,kindB s != 0)) W d=(f,W0,true):=qk
 obtain ⟨s1,W1,d1,q1⟩:∃ a c e,nameD W0 true=(a,c,e):=⟨_,_,_,rfl⟩
 obtain ⟨s2,W2,d2,q2⟩:∃ a c e,nameD W1 d1=(a,c,e):=⟨_,_,_,rfl⟩
 obtain ⟨s3,W3,d3,q3⟩:∃ a c e,nameD W2 d2=(a,c,e):=⟨_,_,_,rfl⟩
 obtain ⟨l4,W4,d4,q4⟩:∃ a c e,manyB colV W3 d3=(a,c,e):=⟨_,_,_,rfl⟩
 have e:cmdD W d=({ zCmd with kind:=3,actor:=s1,schema:=s2,table:=s3,cols:=l4 },W4,d4):=by
  unfold cmdD
  rw [qk]
  simp [bindD,hk,tailD,q1,q2,q3,q4]
 rw [e]
 have Q4:=gH q4
 have H1:=gH (lname_at (b:=b) (p:=p) q1)
 have H2:=gH (lname_at (b:=b) (p:=p) q2)
 have H3:=gH (lname_at (b:=b) (p:=p) q3)
 clear e hl qk q0 hk q1 q2 q3 q4
 go_enter Tryz.func34,Tryz.ntmps34
 go_wp2_with (first
  | (go_at_call 32;with_reducible refine (H0.out _ HX0.out.ds).mono ?_;rintro e w0 ⟨rfl,g0,l0,k0⟩;have X0:=HX0.out.call k0 l0;have y1:=l0.c1;have y2:=l0.f1;have y3:=l0.lt;have X1:=X0.boxBad true [.int .i64 3,.string ⟨#[]⟩,.string ⟨#[]⟩,.string ⟨#[]⟩,.string ⟨#[]⟩,.string ⟨#[]⟩,.slice none 0 0,.string ⟨#[]⟩,.int .i64 0,.slice none 0 0,.int .i64 0,.int .i64 0,.string ⟨#[]⟩,.string ⟨#[]⟩,.string ⟨#[]⟩,.int .i64 0,.bool false] 31;have z0:=X1.lt;obtain ⟨z00,z01,z02⟩:=z0;have X0s:=gH X1;clear l0 k0 X0 X1)
  | (go_at_call 56;with_reducible refine (HK.out _).mono ?_;rintro e wk ⟨rfl,rfl⟩)
  | (go_at_call 57;with_reducible refine (H1.out _ X0s.out.nr.ds).mono ?_;rintro e w1 ⟨rfl,g1,m1,k1⟩;have X1:=X0s.out.call k1 m1;obtain ⟨ca1,fa1⟩:=X1.cf 1 (by simp);obtain ⟨cb1,fb1⟩:=X1.cf 0 (by simp);have z1:=X1.lt;obtain ⟨z10,z11,z12⟩:=z1;have X1s:Nx b p w.heap.size w0.heap.size w _ _ _ z17 [.int .i64 3,.string s1,.string ⟨#[]⟩,.string ⟨#[]⟩,.string ⟨#[]⟩,.string ⟨#[]⟩,.slice none 0 0,.string ⟨#[]⟩,.int .i64 0,.slice none 0 0,.int .i64 0,.int .i64 0,.string ⟨#[]⟩,.string ⟨#[]⟩,.string ⟨#[]⟩,.int .i64 0,.bool false]:=X1.set 1 (.string s1) (by simp);have X1s:=gH X1s;clear m1 k1 X1)
  | (go_at_call 57;with_reducible refine (H2.out _ X1s.out.nr.ds).mono ?_;rintro e w2 ⟨rfl,g2,m2,k2⟩;have X2:=X1s.out.call k2 m2;obtain ⟨ca2,fa2⟩:=X2.cf 2 (by simp);obtain ⟨cb2,fb2⟩:=X2.cf 0 (by simp);have z2:=X2.lt;obtain ⟨z20,z21,z22⟩:=z2;have X2s:Nx b p w.heap.size w0.heap.size w _ _ _ z17 [.int .i64 3,.string s1,.string s2,.string ⟨#[]⟩,.string ⟨#[]⟩,.string ⟨#[]⟩,.slice none 0 0,.string ⟨#[]⟩,.int .i64 0,.slice none 0 0,.int .i64 0,.int .i64 0,.string ⟨#[]⟩,.string ⟨#[]⟩,.string ⟨#[]⟩,.int .i64 0,.bool false]:=X2.set 2 (.string s2) (by simp);have X2s:=gH X2s;clear m2 k2 X2)
  | (go_at_call 57;with_reducible refine (H3.out _ X2s.out.nr.ds).mono ?_;rintro e w3 ⟨rfl,g3,m3,k3⟩;have X3:=X2s.out.call k3 m3;obtain ⟨ca3,fa3⟩:=X3.cf 3 (by simp);obtain ⟨cb3,fb3⟩:=X3.cf 0 (by simp);have z3:=X3.lt;obtain ⟨z30,z31,z32⟩:=z3;have X3s:Nx b p w.heap.size w0.heap.size w _ _ _ z17 [.int .i64 3,.string s1,.string s2,.string s3,.string ⟨#[]⟩,.string ⟨#[]⟩,.slice none 0 0,.string ⟨#[]⟩,.int .i64 0,.slice none 0 0,.int .i64 0,.int .i64 0,.string ⟨#[]⟩,.string ⟨#[]⟩,.string ⟨#[]⟩,.int .i64 0,.bool false]:=X3.set 3 (.string s3) (by simp);have X3s:=gH X3s;clear m3 k3 X3))
 have BIG:=gH X3s.out.nr.ds.big
 have GS:=gH (GrowM.start (ty:=67) (size:=3) (cells:=colC) (f:=colV) (Pz:=SzC) (j:=6) X3s.out (by simp) rfl)
 go_loopw [] (fun wr=>∃ (rest:Ws) (d':Bool) (l:List Col) (h:Hd),(l≠[]→d'=false)∧GrowM 67 3 colC colV SzC 6 b p w.heap.size w0.heap.size (w3.setCell ⟨w0.heap.size,3,none⟩ (.string s3)).heap.size w z17 [.int .i64 3,.string s1,.string s2,.string s3,.string ⟨#[]⟩,.string ⟨#[]⟩,.slice none 0 0,.string ⟨#[]⟩,.int .i64 0,.slice none 0 0,.int .i64 0,.int .i64 0,.string ⟨#[]⟩,.string ⟨#[]⟩,.string ⟨#[]⟩,.int .i64 0,.bool false] W3 d3 wr rest d' l h) (fun wr=>W3.length - lenV ((wr.cell? ⟨w0.heap.size,6,none⟩).getD undef))
 case atStart=>exact ⟨W3,d3,[],⟨none,0,0⟩,fun h=>absurd rfl h,GS.out⟩
 case round =>
  obtain ⟨rest,d',l,h,hd,g⟩:=hrel
  have hz:=g.upto hd BIG.out
  have G:=gH g
  have HD:=gH hd
  have HMO:=gH (more_dn b p rest d' wr g.nx.nr.ds)
  obtain ⟨cx,fx⟩:=g.cell
  have zg:=g.nx.lt
  obtain ⟨zg0,zg1,zg2⟩:=zg
  have hxb:¬ w0.heap.size=b:=by have:=g.nx.nr.fb;have:=g.nx.fx;omega
  have hbx:¬ b=w0.heap.size:=fun e=>hxb e.symm
  obtain ⟨n,hn⟩:∃ n,l.length=n:=⟨_,rfl⟩
  rw [hn] at hz cx
  obtain ⟨m,hm⟩:∃ m,moreD rest d'=m:=⟨_,rfl⟩
  rw [hm] at HMO
  by_cases hex:l≠[]∧m=false
  ·obtain ⟨hl,rfl⟩:=hex
   have HEQ:=gH (show l4=l∧W4=rest∧d4=d' from by
    have h1:=manyG_stop colV l rest d' hl (.inr hm)
    rw [g.inv,Q4.out] at h1
    cases h1;exact ⟨rfl,rfl,rfl⟩)
   have h0:((n:Int)==0)=false:=by rw [beq_eq_false_iff_ne];intro e;apply hl;exact List.eq_nil_of_length_eq_zero (by omega)
   have XN:Nx b p w.heap.size w0.heap.size w wr rest d' z17 [.int .i64 3,.string s1,.string s2,.string s3,.string ⟨#[]⟩,.string ⟨#[]⟩,.slice h.a n h.c,.string ⟨#[]⟩,.int .i64 0,.slice none 0 0,.int .i64 0,.int .i64 0,.string ⟨#[]⟩,.string ⟨#[]⟩,.string ⟨#[]⟩,.int .i64 0,.bool false]:=by
    have:=g.nx
    rw [hn] at this
    exact this
   have XN:=gH XN
   have e1:=lvCmd_row XN.out.row rfl
   have e2:=svCmd_row XN.out.nr.res rfl rfl (vs:=[.int .i64 3,.string s1,.string s2,.string s3,.string ⟨#[]⟩,.string ⟨#[]⟩,.slice h.a n h.c,.string ⟨#[]⟩,.int .i64 0,.slice none 0 0,.int .i64 0,.int .i64 0,.string ⟨#[]⟩,.string ⟨#[]⟩,.string ⟨#[]⟩,.int .i64 0,.bool false]) (by simp [Value.oneCell'])
   have HN:=gH hn
   clear g hd hm hl hn
   go_wp2_with (first | (go_at_call 54;with_reducible refine HMO.out.mono ?_;rintro e w' ⟨rfl,rfl⟩))
   have XR:=XN.out.nr.sets (cs:=[.int .i64 3,.string s1,.string s2,.string s3,.string ⟨#[]⟩,.string ⟨#[]⟩,.slice h.a n h.c,.string ⟨#[]⟩,.int .i64 0,.slice none 0 0,.int .i64 0,.int .i64 0,.string ⟨#[]⟩,.string ⟨#[]⟩,.string ⟨#[]⟩,.int .i64 0,.bool false]) rfl
   refine bodyPost_ret (results_cell rfl _ rfl (lv_row (T:=31) Tryz.underlying31 (by kernel_rfl) XR.res rfl)) rfl ?_
   obtain ⟨rfl,rfl,rfl⟩:=HEQ.out
   have S:=G.out.hr
   have G1:=G.out.own
   rw [HN.out] at G1
   refine ⟨XR.kw,_,rfl,⟨h.a,h.c,none,0,by rw [← HN.out];rfl,?_,namesN_nil _ _ _ HB.out,g1,g2,g3,szZ,szZ,szZ,szZ,szZ,szZ⟩,XR.ds⟩
   exact ColsN.down (B:=(w3.setCell ⟨w0.heap.size,3,none⟩ (.string s3)).heap.size) ⟨OwnR.hi ⟨h,rfl,G.out.own,G.out.hb⟩ (kb_setCellsD w.heap.size [.int .i64 3,.string s1,.string s2,.string s3,.string ⟨#[]⟩,.string ⟨#[]⟩,.slice h.a n h.c,.string ⟨#[]⟩,.int .i64 0,.slice none 0 0,.int .i64 0,.int .i64 0,.string ⟨#[]⟩,.string ⟨#[]⟩,.string ⟨#[]⟩,.int .i64 0,.bool false] _ 0) (fun g e=>by have e':g=w.heap.size:=e;omega),Nat.le_trans (Nat.le_of_eq HN.out) (by omega),G.out.el⟩ G.out.hw HB.out
  obtain ⟨y,W5,d5,hx⟩:∃ x W1 d1,oneD colV rest d'=(x,W1,d1):=⟨_,_,_,rfl⟩
  have HQ:=gH (lcol_at (b:=b) (p:=p) hx)
  have HL:=gH (show l=[]∨moreD rest d'=true from by
   rcases m with _ | _
   ·exact .inl (Classical.byContradiction fun e=>hex ⟨e,rfl⟩)
   ·exact .inr hm)
  have HN:=gH hn
  have HRUN:=gH (show d5=false→n+W5.length+1=W3.length from fun e=>by
   subst e
   cases rest with
   | nil=>cases d'<;>cases hx
   | cons s r =>
    cases d' with
    | true=>cases hx
    | false =>
     have e:oneD colV (s::r) false=((colV s).1,r,!(colV s).2):=rfl
     rw [e] at hx
     have:W5=r:=(Prod.mk.inj (Prod.mk.inj hx).2).1.symm
     subst this
     have:=g.bnd rfl
     simp at this;omega)
  have hcase:((n:Int)==0)=true∨(((n:Int)==0)=false∧m=true):=by
   by_cases e:n=0
   ·exact .inl (by subst e;rfl)
   ·refine .inr ⟨by rw [beq_eq_false_iff_ne];omega,?_⟩
    rcases HL.out with h | h
    ·rw [h] at hn;simp at hn;omega
    ·rw [← hm];exact h
  have HBZ:=gH (show ∀ (w2:World) (o1 o2:Obj),Kw b wr w2→(w3.setCell ⟨w0.heap.size,3,none⟩ (.string s3)).heap.size≤((w2.alloc o1).alloc o2).heap.size from fun w2 o1 o2 k2=>by
   have h1:=k2.size
   have h2:(w3.setCell ⟨w0.heap.size,3,none⟩ (.string s3)).heap.size≤wr.heap.size:=g.big
   have h3:((w2.alloc o1).alloc o2).heap.size=w2.heap.size+1+1:=by simp
   omega)
  have HOW:=gH (show ∀ w2,Kw b wr w2→w2.ownsRow (w3.setCell ⟨w0.heap.size,3,none⟩ (.string s3)).heap.size 67 3 (.slice h.a n h.c) n (l.flatMap colC) from fun w2 k2=>by
   rw [← hn]
   exact own_kb g.own k2 (fun j hj e=>by have:=(g.own.lt j hj).1;have:=g.hb;have e':j=b:=e;omega))
  have HC1:=gH (show ∀ w2,Kw b wr w2→LnS w2 b p W5 d5→w2.cell? ⟨w0.heap.size,6,none⟩=some (.slice h.a n h.c)∧w2.frozen? ⟨w0.heap.size,6,none⟩=false∧w0.heap.size < w2.heap.size∧b < w2.heap.size from fun w2 k2 l2=>by
   have X:=g.nx.call k2 l2
   have c:=X.cf 6 (by simp)
   have z:=X.lt
   rw [hn] at c
   exact ⟨c.1,c.2,z.2.1,z.1⟩)
  have HST:=gH (show ∀ (w2 w5:World) (gg cap':Nat) (o1 o2:Obj),Kw b wr w2→LnS w2 b p W5 d5→y.name.size≤4096→w5.ownsRow (w3.setCell ⟨w0.heap.size,3,none⟩ (.string s3)).heap.size 67 3 (.slice (some ⟨gg,0,none⟩) (n+1) cap') (n+1) (l.flatMap colC++[.string y.name,.int .i64 y.kind,.bool y.null])→((w2.alloc o1).alloc o2).grownBy w5 (Value.slice h.a n h.c).ownBlock→(w5.cell? ⟨w0.heap.size,6,none⟩=some (.slice h.a n h.c)∧w5.frozen? ⟨w0.heap.size,6,none⟩=false∧w0.heap.size < w5.heap.size∧b < w5.heap.size∧w5.cell? ⟨b,1,none⟩=some (.bool d5))∧GrowM 67 3 colC colV SzC 6 b p w.heap.size w0.heap.size (w3.setCell ⟨w0.heap.size,3,none⟩ (.string s3)).heap.size w z17 [.int .i64 3,.string s1,.string s2,.string s3,.string ⟨#[]⟩,.string ⟨#[]⟩,.slice none 0 0,.string ⟨#[]⟩,.int .i64 0,.slice none 0 0,.int .i64 0,.int .i64 0,.string ⟨#[]⟩,.string ⟨#[]⟩,.string ⟨#[]⟩,.int .i64 0,.bool false] W3 d3 (w5.setCell ⟨w0.heap.size,6,none⟩ (.slice (some ⟨gg,0,none⟩) (n+1) cap')) W5 d5 (l++[y]) ⟨some ⟨gg,0,none⟩,n+1,cap'⟩∧Nx b p w.heap.size w0.heap.size w (w5.setCell ⟨w0.heap.size,6,none⟩ (.slice (some ⟨gg,0,none⟩) (n+1) cap')) W5 d5 z17 [.int .i64 3,.string s1,.string s2,.string s3,.string ⟨#[]⟩,.string ⟨#[]⟩,.slice (some ⟨gg,0,none⟩) (n+1) cap',.string ⟨#[]⟩,.int .i64 0,.slice none 0 0,.int .i64 0,.int .i64 0,.string ⟨#[]⟩,.string ⟨#[]⟩,.string ⟨#[]⟩,.int .i64 0,.bool false] from fun w2 w5 gg cap' o1 o2 k2 l2 sy h1 h2=>by
   subst hn
   obtain ⟨X,G2⟩:=g.step (cells:=colC) hx sy hd HL.out k2 l2 h1 h2
   have c:=X.cf 6 (by simp)
   have z:=X.lt
   have XN:=G2.nx
   rw [List.length_append] at XN
   exact ⟨⟨c.1,c.2,z.2.1,z.1,X.nr.ds.c1⟩,G2,XN⟩)
  have HENDB:=gH (show d5=true→l4=l++[y]∧W4=W5∧d4=d5 from fun e=>by
   have h1:=manyG_step colV l rest d' hd HL.out
   rw [hx,g.inv,Q4.out] at h1
   subst e
   have h2:=manyG_stop colV (l++[y]) W5 true (by simp) (.inl rfl)
   rw [h1] at h2
   cases h2;exact ⟨rfl,rfl,rfl⟩)
  clear g hd hm hn hex hx
  cases d5
  all_goals
   rcases hcase with h0 | ⟨h0,rfl⟩
   all_goals
    go_wp2_with (first
     | (go_at_call 54;with_reducible refine HMO.out.mono ?_;rintro e w' ⟨rfl,rfl⟩)
     | (go_at_call 58;with_reducible refine (HQ.out _ G.out.nx.nr.ds).mono ?_;rintro e w4 ⟨rfl,g4,m4,k4⟩;have HCC:=HC1.out _ k4 m4;obtain ⟨ca4,fa4,za4,zb4⟩:=HCC;have G4:=gH g4;have M4:=gH m4;have K4:=gH k4;clear m4 k4 g4)
     | (at_builtin;go_must (refine app_desk Tryz.underlying24 infoDC rfl (by decide) (by decide) rfl _ _ rfl (w3.setCell ⟨w0.heap.size,3,none⟩ (.string s3)).heap.size (.slice h.a n h.c) n (l.flatMap colC) rfl (((HOW.out w4 K4.out).alloc _).alloc _) (w4.heap.size+1) [.string y.name,.int .i64 y.kind,.bool y.null] rfl (heap_new2 w4 _ _) rfl (by simp [Value.oneCell']) (by omega) (HBZ.out _ _ _ K4.out) ?_);intro gg cap' w5 hown5 hgrow hat;have T5:=HST.out _ _ _ _ _ _ K4.out M4.out G4.out hown5 hgrow;obtain ⟨⟨ca5,fa5,za5,zb5,y5⟩,G5,XN⟩:=T5;have G5:=gH G5;have XN:=gH XN;have e1:=lvCmd_row XN.out.row rfl;have e2:=svCmd_row XN.out.nr.res rfl rfl (vs:=[.int .i64 3,.string s1,.string s2,.string s3,.string ⟨#[]⟩,.string ⟨#[]⟩,.slice (some ⟨gg,0,none⟩) (n+1) cap',.string ⟨#[]⟩,.int .i64 0,.slice none 0 0,.int .i64 0,.int .i64 0,.string ⟨#[]⟩,.string ⟨#[]⟩,.string ⟨#[]⟩,.int .i64 0,.bool false]) (by simp [Value.oneCell']);clear hown5 hgrow hat))
  ·go_roundw
   case rel=>exact ⟨W5,false,l++[y],⟨some ⟨gg,0,none⟩,n+1,cap'⟩,fun _=>rfl,G5.out⟩
   case measure =>
    rw [cx,World.cell?_setCell_same (h:=ca5)]
    have:=HRUN.out (by simp)
    simp [lenV]
    omega
  ·go_roundw
   case rel=>exact ⟨W5,false,l++[y],⟨some ⟨gg,0,none⟩,n+1,cap'⟩,fun _=>rfl,G5.out⟩
   case measure =>
    rw [cx,World.cell?_setCell_same (h:=ca5)]
    have:=HRUN.out (by simp)
    simp [lenV]
    omega
  all_goals
   have XR:=XN.out.nr.sets (cs:=[.int .i64 3,.string s1,.string s2,.string s3,.string ⟨#[]⟩,.string ⟨#[]⟩,.slice (some ⟨gg,0,none⟩) (n+1) cap',.string ⟨#[]⟩,.int .i64 0,.slice none 0 0,.int .i64 0,.int .i64 0,.string ⟨#[]⟩,.string ⟨#[]⟩,.string ⟨#[]⟩,.int .i64 0,.bool false]) rfl
   refine bodyPost_ret (results_cell rfl _ rfl (lv_row (T:=31) Tryz.underlying31 (by kernel_rfl) XR.res rfl)) rfl ?_
   obtain ⟨rfl,rfl,rfl⟩:=HENDB.out (by simp)
   have S:=G5.out.hr
   have hlen:(l++[y]).length=n+1:=by rw [List.length_append,HN.out];rfl
   refine ⟨XR.kw,_,rfl,⟨some ⟨gg,0,none⟩,cap',none,0,by rw [← hlen];rfl,?_,namesN_nil _ _ _ HB.out,g1,g2,g3,szZ,szZ,szZ,szZ,szZ,szZ⟩,XR.ds⟩
   exact ColsN.down (B:=(w3.setCell ⟨w0.heap.size,3,none⟩ (.string s3)).heap.size) ⟨OwnR.hi ⟨⟨some ⟨gg,0,none⟩,n+1,cap'⟩,rfl,G5.out.own,G5.out.hb⟩ (kb_setCellsD w.heap.size [.int .i64 3,.string s1,.string s2,.string s3,.string ⟨#[]⟩,.string ⟨#[]⟩,.slice (some ⟨gg,0,none⟩) (n+1) cap',.string ⟨#[]⟩,.int .i64 0,.slice none 0 0,.int .i64 0,.int .i64 0,.string ⟨#[]⟩,.string ⟨#[]⟩,.string ⟨#[]⟩,.int .i64 0,.bool false] _ 0) (fun g e=>by have e':g=w.heap.size:=e;omega),Nat.le_trans (Nat.le_of_eq hlen) (by omega),G5.out.el⟩ G5.out.hw HB.out
theorem commandN_3 (f:ByteArray) (W:Ws) (d:Bool) (W0:Ws) (d0:Bool) (q0:wordD W d=(f,W0,d0)) (hk:kindB f=3) (b p:Nat) (w:World) (hl:LnS w b p W d):Calls Tryz.prog 34 #[.pointer (some ⟨b,0,none⟩)] w (RdN b p w (CmdN b w.heap.size) (cmdD W d)):=by
 cases d0
 ·exact commandN_3_false f W d W0 q0 hk b p w hl
 ·exact commandN_3_true f W d W0 q0 hk b p w hl
end Go.Proofs.YtbdanlipghhgpaaGreatDoor
