import Derived.Test.YtbdanlipghhgpaaGreatDoorPartP9
namespace Go.Proofs.YtbdanlipghhgpaaGreatDoor
open Go.RowKit Go.Deep
set_option maxRecDepth 100000
set_option linter.unusedVariables false
set_option maxHeartbeats 64000000
def ColsN (b B:Nat) (w':World) (v:Value) (l:List Col):Prop:=OwnR 67 3 colC b B w' v l∧l.length≤4098∧∀ c∈l,c.name.size≤4096
theorem ColsN.hi {b B:Nat} {w w':World} {v:Value} {l:List Col} {P:Nat→Prop} (h:ColsN b B w v l) (k:Kb P w w') (hp:∀ g,P g→g < B):ColsN b B w' v l:=⟨h.1.hi k hp,h.2⟩
theorem ColsN.down {b B B0:Nat} {w:World} {v:Value} {l:List Col} (h:ColsN b B w v l) (hB:B0≤B) (hb:b < B0):ColsN b B0 w v l:=⟨h.1.down hB hb,h.2⟩
theorem colsN_nil (b B:Nat) (w:World) (hb:b < B):ColsN b B w (.slice none 0 0) []:=⟨own_nilD _ _ _ b B w hb,by simp,by simp⟩
structure CmdZ (c:Cmd):Prop where
 actor:SzS c.actor
 schema:SzS c.schema
 table:SzS c.table
 name:SzS c.name
 role:SzS c.role
 rname:SzS c.rule.name
 rs:SzS c.rule.schema
 rt:SzS c.rule.table
 rk:SzS c.rule.key
theorem Nr.boxBad {b p r:Nat} {w V:World} {W:Ws} {d:Bool} {zs:List Value} (X:Nr b p r w V W d zs) (y:Bool) (cs:List Value) (t:TypeId):Nx b p r V.heap.size w ((V.setCell ⟨b,1,none⟩ (.bool y)).alloc (.cells cs.toArray t)) W y zs cs:=by
 have h:=(X.bad y).box cs t
 rw [show (V.setCell ⟨b,1,none⟩ (.bool y)).heap.size=V.heap.size by simp] at h
 exact h
abbrev zB:ByteArray:=⟨#[]⟩
abbrev c17 (k:Int) (a s t n r:ByteArray) (q:Int) (o:Bool):List Value:=[.int .i64 k,.string a,.string s,.string t,.string n,.string r,.slice none 0 0,.string ⟨#[]⟩,.int .i64 0,.slice none 0 0,.int .i64 0,.int .i64 0,.string ⟨#[]⟩,.string ⟨#[]⟩,.string ⟨#[]⟩,.int .i64 q,.bool o]
section
variable {b p r x : Nat} {w V : World} {W : Ws} {d : Bool} {zs : List Value} {k : Int} {a s t n ro : ByteArray} {q : Int} {o : Bool}
theorem Nx.v0 (X:Nx b p r x w V W d zs (c17 k a s t n ro q o)):V.cell? ⟨x,0,none⟩=some (.int .i64 k)∧V.frozen? ⟨x,0,none⟩=false:=X.cf 0 (by simp)
theorem Nx.v1 (X:Nx b p r x w V W d zs (c17 k a s t n ro q o)):V.cell? ⟨x,1,none⟩=some (.string a)∧V.frozen? ⟨x,1,none⟩=false:=X.cf 1 (by simp)
theorem Nx.v2 (X:Nx b p r x w V W d zs (c17 k a s t n ro q o)):V.cell? ⟨x,2,none⟩=some (.string s)∧V.frozen? ⟨x,2,none⟩=false:=X.cf 2 (by simp)
theorem Nx.v3 (X:Nx b p r x w V W d zs (c17 k a s t n ro q o)):V.cell? ⟨x,3,none⟩=some (.string t)∧V.frozen? ⟨x,3,none⟩=false:=X.cf 3 (by simp)
theorem Nx.v4 (X:Nx b p r x w V W d zs (c17 k a s t n ro q o)):V.cell? ⟨x,4,none⟩=some (.string n)∧V.frozen? ⟨x,4,none⟩=false:=X.cf 4 (by simp)
theorem Nx.v5 (X:Nx b p r x w V W d zs (c17 k a s t n ro q o)):V.cell? ⟨x,5,none⟩=some (.string ro)∧V.frozen? ⟨x,5,none⟩=false:=X.cf 5 (by simp)
theorem Nx.v15 (X:Nx b p r x w V W d zs (c17 k a s t n ro q o)):V.cell? ⟨x,15,none⟩=some (.int .i64 q)∧V.frozen? ⟨x,15,none⟩=false:=X.cf 15 (by simp)
theorem Nx.v16 (X:Nx b p r x w V W d zs (c17 k a s t n ro q o)):V.cell? ⟨x,16,none⟩=some (.bool o)∧V.frozen? ⟨x,16,none⟩=false:=X.cf 16 (by simp)
theorem Nx.s1 (X:Nx b p r x w V W d zs (c17 k a s t n ro q o)) (y:ByteArray):Hid (Nx b p r x w (V.setCell ⟨x,1,none⟩ (.string y)) W d zs (c17 k y s t n ro q o)):=gH (X.set 1 _ (by simp))
theorem Nx.s2 (X:Nx b p r x w V W d zs (c17 k a s t n ro q o)) (y:ByteArray):Hid (Nx b p r x w (V.setCell ⟨x,2,none⟩ (.string y)) W d zs (c17 k a y t n ro q o)):=gH (X.set 2 _ (by simp))
theorem Nx.s3 (X:Nx b p r x w V W d zs (c17 k a s t n ro q o)) (y:ByteArray):Hid (Nx b p r x w (V.setCell ⟨x,3,none⟩ (.string y)) W d zs (c17 k a s y n ro q o)):=gH (X.set 3 _ (by simp))
theorem Nx.s4 (X:Nx b p r x w V W d zs (c17 k a s t n ro q o)) (y:ByteArray):Hid (Nx b p r x w (V.setCell ⟨x,4,none⟩ (.string y)) W d zs (c17 k a s t y ro q o)):=gH (X.set 4 _ (by simp))
theorem Nx.s5 (X:Nx b p r x w V W d zs (c17 k a s t n ro q o)) (y:ByteArray):Hid (Nx b p r x w (V.setCell ⟨x,5,none⟩ (.string y)) W d zs (c17 k a s t n y q o)):=gH (X.set 5 _ (by simp))
theorem Nx.s15 (X:Nx b p r x w V W d zs (c17 k a s t n ro q o)) (y:Int):Hid (Nx b p r x w (V.setCell ⟨x,15,none⟩ (.int .i64 y)) W d zs (c17 k a s t n ro y o)):=gH (X.set 15 _ (by simp))
theorem Nx.s16 (X:Nx b p r x w V W d zs (c17 k a s t n ro q o)) (y:Bool):Hid (Nx b p r x w (V.setCell ⟨x,16,none⟩ (.bool y)) W d zs (c17 k a s t n ro q y)):=gH (X.set 16 _ (by simp))
end
theorem cmd_ret {V:World} {r:Nat} {k:Int} {a s t n ro:ByteArray} {q:Int} {o:Bool} (h:RowAt V r (c17 k a s t n ro q o)):(lvCmd ⟨r,0,none⟩).run Tryz.prog V=.ok (.agg #[.int .i64 k,.string a,.string s,.string t,.string n,.string ro,.slice none 0 0,.string ⟨#[]⟩,.int .i64 0,.slice none 0 0,.int .i64 0,.int .i64 0,.string ⟨#[]⟩,.string ⟨#[]⟩,.string ⟨#[]⟩,.int .i64 q,.bool o]) V:=lvCmd_row h rfl
theorem cmd_put {V:World} {r:Nat} {k:Int} {a s t n ro:ByteArray} {q:Int} {o:Bool} (h:RowAt V r z17):(svCmd ⟨r,0,none⟩ (.agg #[.int .i64 k,.string a,.string s,.string t,.string n,.string ro,.slice none 0 0,.string ⟨#[]⟩,.int .i64 0,.slice none 0 0,.int .i64 0,.int .i64 0,.string ⟨#[]⟩,.string ⟨#[]⟩,.string ⟨#[]⟩,.int .i64 q,.bool o])).run Tryz.prog V=.ok () (V.setCells r 0 (c17 k a s t n ro q o)):=svCmd_row h rfl rfl (vs:=c17 k a s t n ro q o) (by simp [Value.oneCell'])
theorem szZ:SzS zBy:=Nat.zero_le _
def CmdN (b B:Nat) (w':World) (v:Value) (c:Cmd):Prop :=
 ∃ A k A2 k2,v=.agg (cmdV c A k A2 k2).toArray∧ColsN b B w' (.slice A c.cols.length k) c.cols∧NamesN b B w' (.slice A2 c.rule.cols.length k2) c.rule.cols∧CmdZ c
theorem lkind_at {f:ByteArray} {k:Int} (h:kindB f=k):∀ V:World,Calls Tryz.prog 56 #[.string f] V fun e w'=>e=.returned (.int .i64 k)∧V=w':=fun V=>h▸kind_dn f V
theorem one_kind {W W1:Ws} {d d1:Bool} {f:ByteArray} {k:Int} (hq:wordD W d=(f,W1,d1)) (hk:kindB f=k):oneD (fun s=>(s,kindB s != 0)) W d=(f,W1,d1 || !(k != 0)):=by rw [one_word,hq,hk]
theorem commandN_0 (f:ByteArray) (W:Ws) (d:Bool) (W0:Ws) (d0:Bool) (q0:wordD W d=(f,W0,d0)) (hk:kindB f=0) (b p:Nat) (w:World) (hl:LnS w b p W d):Calls Tryz.prog 34 #[.pointer (some ⟨b,0,none⟩)] w (RdN b p w (CmdN b w.heap.size) (cmdD W d)):=by
 have H0:=gH (lword_at (b:=b) (p:=p) q0)
 have HK:=gH (lkind_at hk)
 have HX0:=gH (Nr.start hl z17 31)
 have hb:=hl.lt
 have HB:=gH hb
 have qk:oneD (fun s=>(s,kindB s != 0)) W d=(f,W0,true):=by rw [one_kind q0 hk];cases d0<;>rfl
 obtain ⟨s1,W1,d1,q1⟩:∃ a c e,nameD W0 true=(a,c,e):=⟨_,_,_,rfl⟩
 obtain ⟨s2,W2,d2,q2⟩:∃ a c e,nameD W1 d1=(a,c,e):=⟨_,_,_,rfl⟩
 obtain ⟨s3,W3,d3,q3⟩:∃ a c e,nameD W2 d2=(a,c,e):=⟨_,_,_,rfl⟩
 have e:cmdD W d=({ zCmd with kind:=0,actor:=s1,schema:=s2,table:=s3 },W3,d3):=by
  unfold cmdD
  rw [qk]
  simp [bindD,hk,tailD,q1,q2,q3]
 rw [e]
 have H1:=gH (lname_at (b:=b) (p:=p) q1)
 have H2:=gH (lname_at (b:=b) (p:=p) q2)
 have H3:=gH (lname_at (b:=b) (p:=p) q3)
 clear e hl qk q0 hk q1 q2 q3
 obtain ⟨v,hv⟩:∃ v,v=d0:=⟨_,rfl⟩
 have HVV:=gH hv
 clear hv
 cases d0
 all_goals
  go_enter Tryz.func34,Tryz.ntmps34
  go_wp2_with (first
   | (go_at_call 32;with_reducible refine (H0.out _ HX0.out.ds).mono ?_;rintro e w0 ⟨rfl,g0,l0,k0⟩;have X0:=HX0.out.call k0 l0;have y1:=l0.c1;have y2:=l0.f1;have y3:=l0.lt;have X1:=X0.boxBad true (c17 0 zB zB zB zB zB 0 false) 31;obtain ⟨z00,z01,z02⟩:=X1.lt;have X0s:=gH X1;clear l0 k0 X0 X1)
   | (go_at_call 56;with_reducible refine (HK.out _).mono ?_;rintro e wk ⟨rfl,rfl⟩)
   | (go_at_call 57;with_reducible refine (H1.out _ X0s.out.nr.ds).mono ?_;rintro e w1 ⟨rfl,g1,m1,k1⟩;have X1:=X0s.out.call k1 m1;obtain ⟨ca1,fa1⟩:=X1.v1;obtain ⟨cb1,fb1⟩:=X1.v0;obtain ⟨z10,z11,z12⟩:=X1.lt;have X1s:=X1.s1 s1;clear m1 k1 X1)
   | (go_at_call 57;with_reducible refine (H2.out _ X1s.out.nr.ds).mono ?_;rintro e w2 ⟨rfl,g2,m2,k2⟩;have X2:=X1s.out.call k2 m2;obtain ⟨ca2,fa2⟩:=X2.v2;obtain ⟨cb2,fb2⟩:=X2.v0;obtain ⟨z20,z21,z22⟩:=X2.lt;have X2s:=X2.s2 s2;clear m2 k2 X2)
   | (go_at_call 57;with_reducible refine (H3.out _ X2s.out.nr.ds).mono ?_;rintro e w3 ⟨rfl,g3,m3,k3⟩;have X3:=X2s.out.call k3 m3;obtain ⟨ca3,fa3⟩:=X3.v3;obtain ⟨cb3,fb3⟩:=X3.v0;obtain ⟨z30,z31,z32⟩:=X3.lt;have X3s:=X3.s3 s3;have e1:=cmd_ret X3s.out.row;have e2:=cmd_put (r:=w.heap.size) X3s.out.nr.res (k:=0) (a:=s1) (s:=s2) (t:=s3) (n:=zB) (ro:=zB) (q:=0) (o:=false);clear m3 k3 X3))
  have XR:=X3s.out.nr.sets (cs:=(c17 0 s1 s2 s3 zB zB 0 false)) rfl
  refine bodyPost_ret (results_cell rfl _ rfl (lv_row (T:=31) Tryz.underlying31 (by kernel_rfl) XR.res rfl)) rfl ?_
  exact ⟨XR.kw,_,rfl,⟨none,0,none,0,rfl,colsN_nil _ _ _ HB.out,namesN_nil _ _ _ HB.out,g1,g2,g3,szZ,szZ,szZ,szZ,szZ,szZ⟩,XR.ds⟩
theorem commandN_1 (f:ByteArray) (W:Ws) (d:Bool) (W0:Ws) (d0:Bool) (q0:wordD W d=(f,W0,d0)) (hk:kindB f=1) (b p:Nat) (w:World) (hl:LnS w b p W d):Calls Tryz.prog 34 #[.pointer (some ⟨b,0,none⟩)] w (RdN b p w (CmdN b w.heap.size) (cmdD W d)):=by
 have H0:=gH (lword_at (b:=b) (p:=p) q0)
 have HK:=gH (lkind_at hk)
 have HX0:=gH (Nr.start hl z17 31)
 have hb:=hl.lt
 have HB:=gH hb
 have qk:oneD (fun s=>(s,kindB s != 0)) W d=(f,W0,d0):=by rw [one_kind q0 hk];cases d0<;>rfl
 obtain ⟨s1,W1,d1,q1⟩:∃ a c e,nameD W0 d0=(a,c,e):=⟨_,_,_,rfl⟩
 obtain ⟨s2,W2,d2,q2⟩:∃ a c e,nameD W1 d1=(a,c,e):=⟨_,_,_,rfl⟩
 have e:cmdD W d=({ zCmd with kind:=1,actor:=s1,schema:=s2 },W2,d2):=by
  unfold cmdD
  rw [qk]
  simp [bindD,hk,tailD,q1,q2]
 rw [e]
 have H1:=gH (lname_at (b:=b) (p:=p) q1)
 have H2:=gH (lname_at (b:=b) (p:=p) q2)
 clear e hl qk q0 hk q1 q2
 obtain ⟨v,hv⟩:∃ v,v=d0:=⟨_,rfl⟩
 have HVV:=gH hv
 clear hv
 cases d0
 all_goals
  go_enter Tryz.func34,Tryz.ntmps34
  go_wp2_with (first
   | (go_at_call 32;with_reducible refine (H0.out _ HX0.out.ds).mono ?_;rintro e w0 ⟨rfl,g0,l0,k0⟩;have X0:=HX0.out.call k0 l0;have y1:=l0.c1;have y2:=l0.f1;have y3:=l0.lt;have X1:=X0.boxBad v (c17 1 zB zB zB zB zB 0 false) 31;rw [HVV.out] at X1;obtain ⟨z00,z01,z02⟩:=X1.lt;have X0s:=gH X1;clear l0 k0 X0 X1)
   | (go_at_call 56;with_reducible refine (HK.out _).mono ?_;rintro e wk ⟨rfl,rfl⟩)
   | (go_at_call 57;with_reducible refine (H1.out _ X0s.out.nr.ds).mono ?_;rintro e w1 ⟨rfl,g1,m1,k1⟩;have X1:=X0s.out.call k1 m1;obtain ⟨ca1,fa1⟩:=X1.v1;obtain ⟨cb1,fb1⟩:=X1.v0;obtain ⟨z10,z11,z12⟩:=X1.lt;have X1s:=X1.s1 s1;clear m1 k1 X1)
   | (go_at_call 57;with_reducible refine (H2.out _ X1s.out.nr.ds).mono ?_;rintro e w2 ⟨rfl,g2,m2,k2⟩;have X2:=X1s.out.call k2 m2;obtain ⟨ca2,fa2⟩:=X2.v2;obtain ⟨cb2,fb2⟩:=X2.v0;obtain ⟨z20,z21,z22⟩:=X2.lt;have X2s:=X2.s2 s2;have e1:=cmd_ret X2s.out.row;have e2:=cmd_put (r:=w.heap.size) X2s.out.nr.res (k:=1) (a:=s1) (s:=s2) (t:=zB) (n:=zB) (ro:=zB) (q:=0) (o:=false);clear m2 k2 X2))
  have XR:=X2s.out.nr.sets (cs:=(c17 1 s1 s2 zB zB zB 0 false)) rfl
  refine bodyPost_ret (results_cell rfl _ rfl (lv_row (T:=31) Tryz.underlying31 (by kernel_rfl) XR.res rfl)) rfl ?_
  exact ⟨XR.kw,_,rfl,⟨none,0,none,0,rfl,colsN_nil _ _ _ HB.out,namesN_nil _ _ _ HB.out,g1,g2,szZ,szZ,szZ,szZ,szZ,szZ,szZ⟩,XR.ds⟩
theorem commandN_2 (f:ByteArray) (W:Ws) (d:Bool) (W0:Ws) (d0:Bool) (q0:wordD W d=(f,W0,d0)) (hk:kindB f=2) (b p:Nat) (w:World) (hl:LnS w b p W d):Calls Tryz.prog 34 #[.pointer (some ⟨b,0,none⟩)] w (RdN b p w (CmdN b w.heap.size) (cmdD W d)):=by
 have H0:=gH (lword_at (b:=b) (p:=p) q0)
 have HK:=gH (lkind_at hk)
 have HX0:=gH (Nr.start hl z17 31)
 have hb:=hl.lt
 have HB:=gH hb
 have qk:oneD (fun s=>(s,kindB s != 0)) W d=(f,W0,d0):=by rw [one_kind q0 hk];cases d0<;>rfl
 obtain ⟨s1,W1,d1,q1⟩:∃ a c e,nameD W0 d0=(a,c,e):=⟨_,_,_,rfl⟩
 obtain ⟨s2,W2,d2,q2⟩:∃ a c e,nameD W1 d1=(a,c,e):=⟨_,_,_,rfl⟩
 have e:cmdD W d=({ zCmd with kind:=2,actor:=s1,schema:=s2 },W2,d2):=by
  unfold cmdD
  rw [qk]
  simp [bindD,hk,tailD,q1,q2]
 rw [e]
 have H1:=gH (lname_at (b:=b) (p:=p) q1)
 have H2:=gH (lname_at (b:=b) (p:=p) q2)
 clear e hl qk q0 hk q1 q2
 obtain ⟨v,hv⟩:∃ v,v=d0:=⟨_,rfl⟩
 have HVV:=gH hv
 clear hv
 cases d0
 all_goals
  go_enter Tryz.func34,Tryz.ntmps34
  go_wp2_with (first
   | (go_at_call 32;with_reducible refine (H0.out _ HX0.out.ds).mono ?_;rintro e w0 ⟨rfl,g0,l0,k0⟩;have X0:=HX0.out.call k0 l0;have y1:=l0.c1;have y2:=l0.f1;have y3:=l0.lt;have X1:=X0.boxBad v (c17 2 zB zB zB zB zB 0 false) 31;rw [HVV.out] at X1;obtain ⟨z00,z01,z02⟩:=X1.lt;have X0s:=gH X1;clear l0 k0 X0 X1)
   | (go_at_call 56;with_reducible refine (HK.out _).mono ?_;rintro e wk ⟨rfl,rfl⟩)
   | (go_at_call 57;with_reducible refine (H1.out _ X0s.out.nr.ds).mono ?_;rintro e w1 ⟨rfl,g1,m1,k1⟩;have X1:=X0s.out.call k1 m1;obtain ⟨ca1,fa1⟩:=X1.v1;obtain ⟨cb1,fb1⟩:=X1.v0;obtain ⟨z10,z11,z12⟩:=X1.lt;have X1s:=X1.s1 s1;clear m1 k1 X1)
   | (go_at_call 57;with_reducible refine (H2.out _ X1s.out.nr.ds).mono ?_;rintro e w2 ⟨rfl,g2,m2,k2⟩;have X2:=X1s.out.call k2 m2;obtain ⟨ca2,fa2⟩:=X2.v2;obtain ⟨cb2,fb2⟩:=X2.v0;obtain ⟨z20,z21,z22⟩:=X2.lt;have X2s:=X2.s2 s2;have e1:=cmd_ret X2s.out.row;have e2:=cmd_put (r:=w.heap.size) X2s.out.nr.res (k:=2) (a:=s1) (s:=s2) (t:=zB) (n:=zB) (ro:=zB) (q:=0) (o:=false);clear m2 k2 X2))
  have XR:=X2s.out.nr.sets (cs:=(c17 2 s1 s2 zB zB zB 0 false)) rfl
  refine bodyPost_ret (results_cell rfl _ rfl (lv_row (T:=31) Tryz.underlying31 (by kernel_rfl) XR.res rfl)) rfl ?_
  exact ⟨XR.kw,_,rfl,⟨none,0,none,0,rfl,colsN_nil _ _ _ HB.out,namesN_nil _ _ _ HB.out,g1,g2,szZ,szZ,szZ,szZ,szZ,szZ,szZ⟩,XR.ds⟩
theorem commandN_4 (f:ByteArray) (W:Ws) (d:Bool) (W0:Ws) (d0:Bool) (q0:wordD W d=(f,W0,d0)) (hk:kindB f=4) (b p:Nat) (w:World) (hl:LnS w b p W d):Calls Tryz.prog 34 #[.pointer (some ⟨b,0,none⟩)] w (RdN b p w (CmdN b w.heap.size) (cmdD W d)):=by
 have H0:=gH (lword_at (b:=b) (p:=p) q0)
 have HK:=gH (lkind_at hk)
 have HX0:=gH (Nr.start hl z17 31)
 have hb:=hl.lt
 have HB:=gH hb
 have qk:oneD (fun s=>(s,kindB s != 0)) W d=(f,W0,d0):=by rw [one_kind q0 hk];cases d0<;>rfl
 obtain ⟨s1,W1,d1,q1⟩:∃ a c e,nameD W0 d0=(a,c,e):=⟨_,_,_,rfl⟩
 obtain ⟨s2,W2,d2,q2⟩:∃ a c e,nameD W1 d1=(a,c,e):=⟨_,_,_,rfl⟩
 obtain ⟨s3,W3,d3,q3⟩:∃ a c e,nameD W2 d2=(a,c,e):=⟨_,_,_,rfl⟩
 have e:cmdD W d=({ zCmd with kind:=4,actor:=s1,schema:=s2,table:=s3 },W3,d3):=by
  unfold cmdD
  rw [qk]
  simp [bindD,hk,tailD,q1,q2,q3]
 rw [e]
 have H1:=gH (lname_at (b:=b) (p:=p) q1)
 have H2:=gH (lname_at (b:=b) (p:=p) q2)
 have H3:=gH (lname_at (b:=b) (p:=p) q3)
 clear e hl qk q0 hk q1 q2 q3
 obtain ⟨v,hv⟩:∃ v,v=d0:=⟨_,rfl⟩
 have HVV:=gH hv
 clear hv
 cases d0
 all_goals
  go_enter Tryz.func34,Tryz.ntmps34
  go_wp2_with (first
   | (go_at_call 32;with_reducible refine (H0.out _ HX0.out.ds).mono ?_;rintro e w0 ⟨rfl,g0,l0,k0⟩;have X0:=HX0.out.call k0 l0;have y1:=l0.c1;have y2:=l0.f1;have y3:=l0.lt;have X1:=X0.boxBad v (c17 4 zB zB zB zB zB 0 false) 31;rw [HVV.out] at X1;obtain ⟨z00,z01,z02⟩:=X1.lt;have X0s:=gH X1;clear l0 k0 X0 X1)
   | (go_at_call 56;with_reducible refine (HK.out _).mono ?_;rintro e wk ⟨rfl,rfl⟩)
   | (go_at_call 57;with_reducible refine (H1.out _ X0s.out.nr.ds).mono ?_;rintro e w1 ⟨rfl,g1,m1,k1⟩;have X1:=X0s.out.call k1 m1;obtain ⟨ca1,fa1⟩:=X1.v1;obtain ⟨cb1,fb1⟩:=X1.v0;obtain ⟨z10,z11,z12⟩:=X1.lt;have X1s:=X1.s1 s1;clear m1 k1 X1)
   | (go_at_call 57;with_reducible refine (H2.out _ X1s.out.nr.ds).mono ?_;rintro e w2 ⟨rfl,g2,m2,k2⟩;have X2:=X1s.out.call k2 m2;obtain ⟨ca2,fa2⟩:=X2.v2;obtain ⟨cb2,fb2⟩:=X2.v0;obtain ⟨z20,z21,z22⟩:=X2.lt;have X2s:=X2.s2 s2;clear m2 k2 X2)
   | (go_at_call 57;with_reducible refine (H3.out _ X2s.out.nr.ds).mono ?_;rintro e w3 ⟨rfl,g3,m3,k3⟩;have X3:=X2s.out.call k3 m3;obtain ⟨ca3,fa3⟩:=X3.v3;obtain ⟨cb3,fb3⟩:=X3.v0;obtain ⟨z30,z31,z32⟩:=X3.lt;have X3s:=X3.s3 s3;have e1:=cmd_ret X3s.out.row;have e2:=cmd_put (r:=w.heap.size) X3s.out.nr.res (k:=4) (a:=s1) (s:=s2) (t:=s3) (n:=zB) (ro:=zB) (q:=0) (o:=false);clear m3 k3 X3))
  have XR:=X3s.out.nr.sets (cs:=(c17 4 s1 s2 s3 zB zB 0 false)) rfl
  refine bodyPost_ret (results_cell rfl _ rfl (lv_row (T:=31) Tryz.underlying31 (by kernel_rfl) XR.res rfl)) rfl ?_
  exact ⟨XR.kw,_,rfl,⟨none,0,none,0,rfl,colsN_nil _ _ _ HB.out,namesN_nil _ _ _ HB.out,g1,g2,g3,szZ,szZ,szZ,szZ,szZ,szZ⟩,XR.ds⟩
theorem commandN_6 (f:ByteArray) (W:Ws) (d:Bool) (W0:Ws) (d0:Bool) (q0:wordD W d=(f,W0,d0)) (hk:kindB f=6) (b p:Nat) (w:World) (hl:LnS w b p W d):Calls Tryz.prog 34 #[.pointer (some ⟨b,0,none⟩)] w (RdN b p w (CmdN b w.heap.size) (cmdD W d)):=by
 have H0:=gH (lword_at (b:=b) (p:=p) q0)
 have HK:=gH (lkind_at hk)
 have HX0:=gH (Nr.start hl z17 31)
 have hb:=hl.lt
 have HB:=gH hb
 have qk:oneD (fun s=>(s,kindB s != 0)) W d=(f,W0,d0):=by rw [one_kind q0 hk];cases d0<;>rfl
 obtain ⟨s1,W1,d1,q1⟩:∃ a c e,nameD W0 d0=(a,c,e):=⟨_,_,_,rfl⟩
 obtain ⟨s2,W2,d2,q2⟩:∃ a c e,nameD W1 d1=(a,c,e):=⟨_,_,_,rfl⟩
 obtain ⟨s3,W3,d3,q3⟩:∃ a c e,nameD W2 d2=(a,c,e):=⟨_,_,_,rfl⟩
 obtain ⟨s4,W4,d4,q4⟩:∃ a c e,nameD W3 d3=(a,c,e):=⟨_,_,_,rfl⟩
 have e:cmdD W d=({ zCmd with kind:=6,actor:=s1,schema:=s2,table:=s3,name:=s4 },W4,d4):=by
  unfold cmdD
  rw [qk]
  simp [bindD,hk,tailD,q1,q2,q3,q4]
 rw [e]
 have H1:=gH (lname_at (b:=b) (p:=p) q1)
 have H2:=gH (lname_at (b:=b) (p:=p) q2)
 have H3:=gH (lname_at (b:=b) (p:=p) q3)
 have H4:=gH (lname_at (b:=b) (p:=p) q4)
 clear e hl qk q0 hk q1 q2 q3 q4
 obtain ⟨v,hv⟩:∃ v,v=d0:=⟨_,rfl⟩
 have HVV:=gH hv
 clear hv
 cases d0
 all_goals
  go_enter Tryz.func34,Tryz.ntmps34
  go_wp2_with (first
   | (go_at_call 32;with_reducible refine (H0.out _ HX0.out.ds).mono ?_;rintro e w0 ⟨rfl,g0,l0,k0⟩;have X0:=HX0.out.call k0 l0;have y1:=l0.c1;have y2:=l0.f1;have y3:=l0.lt;have X1:=X0.boxBad v (c17 6 zB zB zB zB zB 0 false) 31;rw [HVV.out] at X1;obtain ⟨z00,z01,z02⟩:=X1.lt;have X0s:=gH X1;clear l0 k0 X0 X1)
   | (go_at_call 56;with_reducible refine (HK.out _).mono ?_;rintro e wk ⟨rfl,rfl⟩)
   | (go_at_call 57;with_reducible refine (H1.out _ X0s.out.nr.ds).mono ?_;rintro e w1 ⟨rfl,g1,m1,k1⟩;have X1:=X0s.out.call k1 m1;obtain ⟨ca1,fa1⟩:=X1.v1;obtain ⟨cb1,fb1⟩:=X1.v0;obtain ⟨z10,z11,z12⟩:=X1.lt;have X1s:=X1.s1 s1;clear m1 k1 X1)
   | (go_at_call 57;with_reducible refine (H2.out _ X1s.out.nr.ds).mono ?_;rintro e w2 ⟨rfl,g2,m2,k2⟩;have X2:=X1s.out.call k2 m2;obtain ⟨ca2,fa2⟩:=X2.v2;obtain ⟨cb2,fb2⟩:=X2.v0;obtain ⟨z20,z21,z22⟩:=X2.lt;have X2s:=X2.s2 s2;clear m2 k2 X2)
   | (go_at_call 57;with_reducible refine (H3.out _ X2s.out.nr.ds).mono ?_;rintro e w3 ⟨rfl,g3,m3,k3⟩;have X3:=X2s.out.call k3 m3;obtain ⟨ca3,fa3⟩:=X3.v3;obtain ⟨cb3,fb3⟩:=X3.v0;obtain ⟨z30,z31,z32⟩:=X3.lt;have X3s:=X3.s3 s3;clear m3 k3 X3)
   | (go_at_call 57;with_reducible refine (H4.out _ X3s.out.nr.ds).mono ?_;rintro e w4 ⟨rfl,g4,m4,k4⟩;have X4:=X3s.out.call k4 m4;obtain ⟨ca4,fa4⟩:=X4.v4;obtain ⟨cb4,fb4⟩:=X4.v0;obtain ⟨z40,z41,z42⟩:=X4.lt;have X4s:=X4.s4 s4;have e1:=cmd_ret X4s.out.row;have e2:=cmd_put (r:=w.heap.size) X4s.out.nr.res (k:=6) (a:=s1) (s:=s2) (t:=s3) (n:=s4) (ro:=zB) (q:=0) (o:=false);clear m4 k4 X4))
  have XR:=X4s.out.nr.sets (cs:=(c17 6 s1 s2 s3 s4 zB 0 false)) rfl
  refine bodyPost_ret (results_cell rfl _ rfl (lv_row (T:=31) Tryz.underlying31 (by kernel_rfl) XR.res rfl)) rfl ?_
  exact ⟨XR.kw,_,rfl,⟨none,0,none,0,rfl,colsN_nil _ _ _ HB.out,namesN_nil _ _ _ HB.out,g1,g2,g3,g4,szZ,szZ,szZ,szZ,szZ⟩,XR.ds⟩
theorem commandN_8 (f:ByteArray) (W:Ws) (d:Bool) (W0:Ws) (d0:Bool) (q0:wordD W d=(f,W0,d0)) (hk:kindB f=8) (b p:Nat) (w:World) (hl:LnS w b p W d):Calls Tryz.prog 34 #[.pointer (some ⟨b,0,none⟩)] w (RdN b p w (CmdN b w.heap.size) (cmdD W d)):=by
 have H0:=gH (lword_at (b:=b) (p:=p) q0)
 have HK:=gH (lkind_at hk)
 have HX0:=gH (Nr.start hl z17 31)
 have hb:=hl.lt
 have HB:=gH hb
 have qk:oneD (fun s=>(s,kindB s != 0)) W d=(f,W0,d0):=by rw [one_kind q0 hk];cases d0<;>rfl
 obtain ⟨s1,W1,d1,q1⟩:∃ a c e,nameD W0 d0=(a,c,e):=⟨_,_,_,rfl⟩
 obtain ⟨s2,W2,d2,q2⟩:∃ a c e,nameD W1 d1=(a,c,e):=⟨_,_,_,rfl⟩
 obtain ⟨s3,W3,d3,q3⟩:∃ a c e,nameD W2 d2=(a,c,e):=⟨_,_,_,rfl⟩
 obtain ⟨s4,W4,d4,q4⟩:∃ a c e,nameD W3 d3=(a,c,e):=⟨_,_,_,rfl⟩
 have e:cmdD W d=({ zCmd with kind:=8,actor:=s1,schema:=s2,table:=s3,name:=s4 },W4,d4):=by
  unfold cmdD
  rw [qk]
  simp [bindD,hk,tailD,q1,q2,q3,q4]
 rw [e]
 have H1:=gH (lname_at (b:=b) (p:=p) q1)
 have H2:=gH (lname_at (b:=b) (p:=p) q2)
 have H3:=gH (lname_at (b:=b) (p:=p) q3)
 have H4:=gH (lname_at (b:=b) (p:=p) q4)
 clear e hl qk q0 hk q1 q2 q3 q4
 obtain ⟨v,hv⟩:∃ v,v=d0:=⟨_,rfl⟩
 have HVV:=gH hv
 clear hv
 cases d0
 all_goals
  go_enter Tryz.func34,Tryz.ntmps34
  go_wp2_with (first
   | (go_at_call 32;with_reducible refine (H0.out _ HX0.out.ds).mono ?_;rintro e w0 ⟨rfl,g0,l0,k0⟩;have X0:=HX0.out.call k0 l0;have y1:=l0.c1;have y2:=l0.f1;have y3:=l0.lt;have X1:=X0.boxBad v (c17 8 zB zB zB zB zB 0 false) 31;rw [HVV.out] at X1;obtain ⟨z00,z01,z02⟩:=X1.lt;have X0s:=gH X1;clear l0 k0 X0 X1)
   | (go_at_call 56;with_reducible refine (HK.out _).mono ?_;rintro e wk ⟨rfl,rfl⟩)
   | (go_at_call 57;with_reducible refine (H1.out _ X0s.out.nr.ds).mono ?_;rintro e w1 ⟨rfl,g1,m1,k1⟩;have X1:=X0s.out.call k1 m1;obtain ⟨ca1,fa1⟩:=X1.v1;obtain ⟨cb1,fb1⟩:=X1.v0;obtain ⟨z10,z11,z12⟩:=X1.lt;have X1s:=X1.s1 s1;clear m1 k1 X1)
   | (go_at_call 57;with_reducible refine (H2.out _ X1s.out.nr.ds).mono ?_;rintro e w2 ⟨rfl,g2,m2,k2⟩;have X2:=X1s.out.call k2 m2;obtain ⟨ca2,fa2⟩:=X2.v2;obtain ⟨cb2,fb2⟩:=X2.v0;obtain ⟨z20,z21,z22⟩:=X2.lt;have X2s:=X2.s2 s2;clear m2 k2 X2)
   | (go_at_call 57;with_reducible refine (H3.out _ X2s.out.nr.ds).mono ?_;rintro e w3 ⟨rfl,g3,m3,k3⟩;have X3:=X2s.out.call k3 m3;obtain ⟨ca3,fa3⟩:=X3.v3;obtain ⟨cb3,fb3⟩:=X3.v0;obtain ⟨z30,z31,z32⟩:=X3.lt;have X3s:=X3.s3 s3;clear m3 k3 X3)
   | (go_at_call 57;with_reducible refine (H4.out _ X3s.out.nr.ds).mono ?_;rintro e w4 ⟨rfl,g4,m4,k4⟩;have X4:=X3s.out.call k4 m4;obtain ⟨ca4,fa4⟩:=X4.v4;obtain ⟨cb4,fb4⟩:=X4.v0;obtain ⟨z40,z41,z42⟩:=X4.lt;have X4s:=X4.s4 s4;have e1:=cmd_ret X4s.out.row;have e2:=cmd_put (r:=w.heap.size) X4s.out.nr.res (k:=8) (a:=s1) (s:=s2) (t:=s3) (n:=s4) (ro:=zB) (q:=0) (o:=false);clear m4 k4 X4))
  have XR:=X4s.out.nr.sets (cs:=(c17 8 s1 s2 s3 s4 zB 0 false)) rfl
  refine bodyPost_ret (results_cell rfl _ rfl (lv_row (T:=31) Tryz.underlying31 (by kernel_rfl) XR.res rfl)) rfl ?_
  exact ⟨XR.kw,_,rfl,⟨none,0,none,0,rfl,colsN_nil _ _ _ HB.out,namesN_nil _ _ _ HB.out,g1,g2,g3,g4,szZ,szZ,szZ,szZ,szZ⟩,XR.ds⟩
theorem commandN_9 (f:ByteArray) (W:Ws) (d:Bool) (W0:Ws) (d0:Bool) (q0:wordD W d=(f,W0,d0)) (hk:kindB f=9) (b p:Nat) (w:World) (hl:LnS w b p W d):Calls Tryz.prog 34 #[.pointer (some ⟨b,0,none⟩)] w (RdN b p w (CmdN b w.heap.size) (cmdD W d)):=by
 have H0:=gH (lword_at (b:=b) (p:=p) q0)
 have HK:=gH (lkind_at hk)
 have HX0:=gH (Nr.start hl z17 31)
 have hb:=hl.lt
 have HB:=gH hb
 have qk:oneD (fun s=>(s,kindB s != 0)) W d=(f,W0,d0):=by rw [one_kind q0 hk];cases d0<;>rfl
 obtain ⟨s1,W1,d1,q1⟩:∃ a c e,nameD W0 d0=(a,c,e):=⟨_,_,_,rfl⟩
 obtain ⟨s2,W2,d2,q2⟩:∃ a c e,nameD W1 d1=(a,c,e):=⟨_,_,_,rfl⟩
 obtain ⟨s3,W3,d3,q3⟩:∃ a c e,nameD W2 d2=(a,c,e):=⟨_,_,_,rfl⟩
 obtain ⟨s4,W4,d4,q4⟩:∃ a c e,nameD W3 d3=(a,c,e):=⟨_,_,_,rfl⟩
 have e:cmdD W d=({ zCmd with kind:=9,actor:=s1,schema:=s2,table:=s3,role:=s4 },W4,d4):=by
  unfold cmdD
  rw [qk]
  simp [bindD,hk,tailD,q1,q2,q3,q4]
 rw [e]
 have H1:=gH (lname_at (b:=b) (p:=p) q1)
 have H2:=gH (lname_at (b:=b) (p:=p) q2)
 have H3:=gH (lname_at (b:=b) (p:=p) q3)
 have H4:=gH (lname_at (b:=b) (p:=p) q4)
 clear e hl qk q0 hk q1 q2 q3 q4
 obtain ⟨v,hv⟩:∃ v,v=d0:=⟨_,rfl⟩
 have HVV:=gH hv
 clear hv
 cases d0
 all_goals
  go_enter Tryz.func34,Tryz.ntmps34
  go_wp2_with (first
   | (go_at_call 32;with_reducible refine (H0.out _ HX0.out.ds).mono ?_;rintro e w0 ⟨rfl,g0,l0,k0⟩;have X0:=HX0.out.call k0 l0;have y1:=l0.c1;have y2:=l0.f1;have y3:=l0.lt;have X1:=X0.boxBad v (c17 9 zB zB zB zB zB 0 false) 31;rw [HVV.out] at X1;obtain ⟨z00,z01,z02⟩:=X1.lt;have X0s:=gH X1;clear l0 k0 X0 X1)
   | (go_at_call 56;with_reducible refine (HK.out _).mono ?_;rintro e wk ⟨rfl,rfl⟩)
   | (go_at_call 57;with_reducible refine (H1.out _ X0s.out.nr.ds).mono ?_;rintro e w1 ⟨rfl,g1,m1,k1⟩;have X1:=X0s.out.call k1 m1;obtain ⟨ca1,fa1⟩:=X1.v1;obtain ⟨cb1,fb1⟩:=X1.v0;obtain ⟨z10,z11,z12⟩:=X1.lt;have X1s:=X1.s1 s1;clear m1 k1 X1)
   | (go_at_call 57;with_reducible refine (H2.out _ X1s.out.nr.ds).mono ?_;rintro e w2 ⟨rfl,g2,m2,k2⟩;have X2:=X1s.out.call k2 m2;obtain ⟨ca2,fa2⟩:=X2.v2;obtain ⟨cb2,fb2⟩:=X2.v0;obtain ⟨z20,z21,z22⟩:=X2.lt;have X2s:=X2.s2 s2;clear m2 k2 X2)
   | (go_at_call 57;with_reducible refine (H3.out _ X2s.out.nr.ds).mono ?_;rintro e w3 ⟨rfl,g3,m3,k3⟩;have X3:=X2s.out.call k3 m3;obtain ⟨ca3,fa3⟩:=X3.v3;obtain ⟨cb3,fb3⟩:=X3.v0;obtain ⟨z30,z31,z32⟩:=X3.lt;have X3s:=X3.s3 s3;clear m3 k3 X3)
   | (go_at_call 57;with_reducible refine (H4.out _ X3s.out.nr.ds).mono ?_;rintro e w4 ⟨rfl,g4,m4,k4⟩;have X4:=X3s.out.call k4 m4;obtain ⟨ca4,fa4⟩:=X4.v5;obtain ⟨cb4,fb4⟩:=X4.v0;obtain ⟨z40,z41,z42⟩:=X4.lt;have X4s:=X4.s5 s4;have e1:=cmd_ret X4s.out.row;have e2:=cmd_put (r:=w.heap.size) X4s.out.nr.res (k:=9) (a:=s1) (s:=s2) (t:=s3) (n:=zB) (ro:=s4) (q:=0) (o:=false);clear m4 k4 X4))
  have XR:=X4s.out.nr.sets (cs:=(c17 9 s1 s2 s3 zB s4 0 false)) rfl
  refine bodyPost_ret (results_cell rfl _ rfl (lv_row (T:=31) Tryz.underlying31 (by kernel_rfl) XR.res rfl)) rfl ?_
  exact ⟨XR.kw,_,rfl,⟨none,0,none,0,rfl,colsN_nil _ _ _ HB.out,namesN_nil _ _ _ HB.out,g1,g2,g3,szZ,g4,szZ,szZ,szZ,szZ⟩,XR.ds⟩
theorem commandN_10 (f:ByteArray) (W:Ws) (d:Bool) (W0:Ws) (d0:Bool) (q0:wordD W d=(f,W0,d0)) (hk:kindB f=10) (b p:Nat) (w:World) (hl:LnS w b p W d):Calls Tryz.prog 34 #[.pointer (some ⟨b,0,none⟩)] w (RdN b p w (CmdN b w.heap.size) (cmdD W d)):=by
 have H0:=gH (lword_at (b:=b) (p:=p) q0)
 have HK:=gH (lkind_at hk)
 have HX0:=gH (Nr.start hl z17 31)
 have hb:=hl.lt
 have HB:=gH hb
 have qk:oneD (fun s=>(s,kindB s != 0)) W d=(f,W0,d0):=by rw [one_kind q0 hk];cases d0<;>rfl
 obtain ⟨s1,W1,d1,q1⟩:∃ a c e,nameD W0 d0=(a,c,e):=⟨_,_,_,rfl⟩
 obtain ⟨s2,W2,d2,q2⟩:∃ a c e,nameD W1 d1=(a,c,e):=⟨_,_,_,rfl⟩
 have e:cmdD W d=({ zCmd with kind:=10,actor:=s1,role:=s2 },W2,d2):=by
  unfold cmdD
  rw [qk]
  simp [bindD,hk,tailD,q1,q2]
 rw [e]
 have H1:=gH (lname_at (b:=b) (p:=p) q1)
 have H2:=gH (lname_at (b:=b) (p:=p) q2)
 clear e hl qk q0 hk q1 q2
 obtain ⟨v,hv⟩:∃ v,v=d0:=⟨_,rfl⟩
 have HVV:=gH hv
 clear hv
 cases d0
 all_goals
  go_enter Tryz.func34,Tryz.ntmps34
  go_wp2_with (first
   | (go_at_call 32;with_reducible refine (H0.out _ HX0.out.ds).mono ?_;rintro e w0 ⟨rfl,g0,l0,k0⟩;have X0:=HX0.out.call k0 l0;have y1:=l0.c1;have y2:=l0.f1;have y3:=l0.lt;have X1:=X0.boxBad v (c17 10 zB zB zB zB zB 0 false) 31;rw [HVV.out] at X1;obtain ⟨z00,z01,z02⟩:=X1.lt;have X0s:=gH X1;clear l0 k0 X0 X1)
   | (go_at_call 56;with_reducible refine (HK.out _).mono ?_;rintro e wk ⟨rfl,rfl⟩)
   | (go_at_call 57;with_reducible refine (H1.out _ X0s.out.nr.ds).mono ?_;rintro e w1 ⟨rfl,g1,m1,k1⟩;have X1:=X0s.out.call k1 m1;obtain ⟨ca1,fa1⟩:=X1.v1;obtain ⟨cb1,fb1⟩:=X1.v0;obtain ⟨z10,z11,z12⟩:=X1.lt;have X1s:=X1.s1 s1;clear m1 k1 X1)
   | (go_at_call 57;with_reducible refine (H2.out _ X1s.out.nr.ds).mono ?_;rintro e w2 ⟨rfl,g2,m2,k2⟩;have X2:=X1s.out.call k2 m2;obtain ⟨ca2,fa2⟩:=X2.v5;obtain ⟨cb2,fb2⟩:=X2.v0;obtain ⟨z20,z21,z22⟩:=X2.lt;have X2s:=X2.s5 s2;have e1:=cmd_ret X2s.out.row;have e2:=cmd_put (r:=w.heap.size) X2s.out.nr.res (k:=10) (a:=s1) (s:=zB) (t:=zB) (n:=zB) (ro:=s2) (q:=0) (o:=false);clear m2 k2 X2))
  have XR:=X2s.out.nr.sets (cs:=(c17 10 s1 zB zB zB s2 0 false)) rfl
  refine bodyPost_ret (results_cell rfl _ rfl (lv_row (T:=31) Tryz.underlying31 (by kernel_rfl) XR.res rfl)) rfl ?_
  exact ⟨XR.kw,_,rfl,⟨none,0,none,0,rfl,colsN_nil _ _ _ HB.out,namesN_nil _ _ _ HB.out,g1,szZ,szZ,szZ,g2,szZ,szZ,szZ,szZ⟩,XR.ds⟩
theorem commandN_11 (f:ByteArray) (W:Ws) (d:Bool) (W0:Ws) (d0:Bool) (q0:wordD W d=(f,W0,d0)) (hk:kindB f=11) (b p:Nat) (w:World) (hl:LnS w b p W d):Calls Tryz.prog 34 #[.pointer (some ⟨b,0,none⟩)] w (RdN b p w (CmdN b w.heap.size) (cmdD W d)):=by
 have H0:=gH (lword_at (b:=b) (p:=p) q0)
 have HK:=gH (lkind_at hk)
 have HX0:=gH (Nr.start hl z17 31)
 have hb:=hl.lt
 have HB:=gH hb
 have qk:oneD (fun s=>(s,kindB s != 0)) W d=(f,W0,d0):=by rw [one_kind q0 hk];cases d0<;>rfl
 obtain ⟨s1,W1,d1,q1⟩:∃ a c e,nameD W0 d0=(a,c,e):=⟨_,_,_,rfl⟩
 obtain ⟨s2,W2,d2,q2⟩:∃ a c e,nameD W1 d1=(a,c,e):=⟨_,_,_,rfl⟩
 have e:cmdD W d=({ zCmd with kind:=11,actor:=s1,role:=s2 },W2,d2):=by
  unfold cmdD
  rw [qk]
  simp [bindD,hk,tailD,q1,q2]
 rw [e]
 have H1:=gH (lname_at (b:=b) (p:=p) q1)
 have H2:=gH (lname_at (b:=b) (p:=p) q2)
 clear e hl qk q0 hk q1 q2
 obtain ⟨v,hv⟩:∃ v,v=d0:=⟨_,rfl⟩
 have HVV:=gH hv
 clear hv
 cases d0
 all_goals
  go_enter Tryz.func34,Tryz.ntmps34
  go_wp2_with (first
   | (go_at_call 32;with_reducible refine (H0.out _ HX0.out.ds).mono ?_;rintro e w0 ⟨rfl,g0,l0,k0⟩;have X0:=HX0.out.call k0 l0;have y1:=l0.c1;have y2:=l0.f1;have y3:=l0.lt;have X1:=X0.boxBad v (c17 11 zB zB zB zB zB 0 false) 31;rw [HVV.out] at X1;obtain ⟨z00,z01,z02⟩:=X1.lt;have X0s:=gH X1;clear l0 k0 X0 X1)
   | (go_at_call 56;with_reducible refine (HK.out _).mono ?_;rintro e wk ⟨rfl,rfl⟩)
   | (go_at_call 57;with_reducible refine (H1.out _ X0s.out.nr.ds).mono ?_;rintro e w1 ⟨rfl,g1,m1,k1⟩;have X1:=X0s.out.call k1 m1;obtain ⟨ca1,fa1⟩:=X1.v1;obtain ⟨cb1,fb1⟩:=X1.v0;obtain ⟨z10,z11,z12⟩:=X1.lt;have X1s:=X1.s1 s1;clear m1 k1 X1)
   | (go_at_call 57;with_reducible refine (H2.out _ X1s.out.nr.ds).mono ?_;rintro e w2 ⟨rfl,g2,m2,k2⟩;have X2:=X1s.out.call k2 m2;obtain ⟨ca2,fa2⟩:=X2.v5;obtain ⟨cb2,fb2⟩:=X2.v0;obtain ⟨z20,z21,z22⟩:=X2.lt;have X2s:=X2.s5 s2;have e1:=cmd_ret X2s.out.row;have e2:=cmd_put (r:=w.heap.size) X2s.out.nr.res (k:=11) (a:=s1) (s:=zB) (t:=zB) (n:=zB) (ro:=s2) (q:=0) (o:=false);clear m2 k2 X2))
  have XR:=X2s.out.nr.sets (cs:=(c17 11 s1 zB zB zB s2 0 false)) rfl
  refine bodyPost_ret (results_cell rfl _ rfl (lv_row (T:=31) Tryz.underlying31 (by kernel_rfl) XR.res rfl)) rfl ?_
  exact ⟨XR.kw,_,rfl,⟨none,0,none,0,rfl,colsN_nil _ _ _ HB.out,namesN_nil _ _ _ HB.out,g1,szZ,szZ,szZ,g2,szZ,szZ,szZ,szZ⟩,XR.ds⟩
theorem commandN_12 (f:ByteArray) (W:Ws) (d:Bool) (W0:Ws) (d0:Bool) (q0:wordD W d=(f,W0,d0)) (hk:kindB f=12) (b p:Nat) (w:World) (hl:LnS w b p W d):Calls Tryz.prog 34 #[.pointer (some ⟨b,0,none⟩)] w (RdN b p w (CmdN b w.heap.size) (cmdD W d)):=by
 have H0:=gH (lword_at (b:=b) (p:=p) q0)
 have HK:=gH (lkind_at hk)
 have HX0:=gH (Nr.start hl z17 31)
 have hb:=hl.lt
 have HB:=gH hb
 have qk:oneD (fun s=>(s,kindB s != 0)) W d=(f,W0,d0):=by rw [one_kind q0 hk];cases d0<;>rfl
 obtain ⟨s1,W1,d1,q1⟩:∃ a c e,nameD W0 d0=(a,c,e):=⟨_,_,_,rfl⟩
 obtain ⟨s2,W2,d2,q2⟩:∃ a c e,nameD W1 d1=(a,c,e):=⟨_,_,_,rfl⟩
 obtain ⟨s3,W3,d3,q3⟩:∃ a c e,nameD W2 d2=(a,c,e):=⟨_,_,_,rfl⟩
 have e:cmdD W d=({ zCmd with kind:=12,actor:=s1,role:=s2,name:=s3 },W3,d3):=by
  unfold cmdD
  rw [qk]
  simp [bindD,hk,tailD,q1,q2,q3]
 rw [e]
 have H1:=gH (lname_at (b:=b) (p:=p) q1)
 have H2:=gH (lname_at (b:=b) (p:=p) q2)
 have H3:=gH (lname_at (b:=b) (p:=p) q3)
 clear e hl qk q0 hk q1 q2 q3
 obtain ⟨v,hv⟩:∃ v,v=d0:=⟨_,rfl⟩
 have HVV:=gH hv
 clear hv
 cases d0
 all_goals
  go_enter Tryz.func34,Tryz.ntmps34
  go_wp2_with (first
   | (go_at_call 32;with_reducible refine (H0.out _ HX0.out.ds).mono ?_;rintro e w0 ⟨rfl,g0,l0,k0⟩;have X0:=HX0.out.call k0 l0;have y1:=l0.c1;have y2:=l0.f1;have y3:=l0.lt;have X1:=X0.boxBad v (c17 12 zB zB zB zB zB 0 false) 31;rw [HVV.out] at X1;obtain ⟨z00,z01,z02⟩:=X1.lt;have X0s:=gH X1;clear l0 k0 X0 X1)
   | (go_at_call 56;with_reducible refine (HK.out _).mono ?_;rintro e wk ⟨rfl,rfl⟩)
   | (go_at_call 57;with_reducible refine (H1.out _ X0s.out.nr.ds).mono ?_;rintro e w1 ⟨rfl,g1,m1,k1⟩;have X1:=X0s.out.call k1 m1;obtain ⟨ca1,fa1⟩:=X1.v1;obtain ⟨cb1,fb1⟩:=X1.v0;obtain ⟨z10,z11,z12⟩:=X1.lt;have X1s:=X1.s1 s1;clear m1 k1 X1)
   | (go_at_call 57;with_reducible refine (H2.out _ X1s.out.nr.ds).mono ?_;rintro e w2 ⟨rfl,g2,m2,k2⟩;have X2:=X1s.out.call k2 m2;obtain ⟨ca2,fa2⟩:=X2.v5;obtain ⟨cb2,fb2⟩:=X2.v0;obtain ⟨z20,z21,z22⟩:=X2.lt;have X2s:=X2.s5 s2;clear m2 k2 X2)
   | (go_at_call 57;with_reducible refine (H3.out _ X2s.out.nr.ds).mono ?_;rintro e w3 ⟨rfl,g3,m3,k3⟩;have X3:=X2s.out.call k3 m3;obtain ⟨ca3,fa3⟩:=X3.v4;obtain ⟨cb3,fb3⟩:=X3.v0;obtain ⟨z30,z31,z32⟩:=X3.lt;have X3s:=X3.s4 s3;have e1:=cmd_ret X3s.out.row;have e2:=cmd_put (r:=w.heap.size) X3s.out.nr.res (k:=12) (a:=s1) (s:=zB) (t:=zB) (n:=s3) (ro:=s2) (q:=0) (o:=false);clear m3 k3 X3))
  have XR:=X3s.out.nr.sets (cs:=(c17 12 s1 zB zB s3 s2 0 false)) rfl
  refine bodyPost_ret (results_cell rfl _ rfl (lv_row (T:=31) Tryz.underlying31 (by kernel_rfl) XR.res rfl)) rfl ?_
  exact ⟨XR.kw,_,rfl,⟨none,0,none,0,rfl,colsN_nil _ _ _ HB.out,namesN_nil _ _ _ HB.out,g1,szZ,szZ,g3,g2,szZ,szZ,szZ,szZ⟩,XR.ds⟩
theorem commandN_13 (f:ByteArray) (W:Ws) (d:Bool) (W0:Ws) (d0:Bool) (q0:wordD W d=(f,W0,d0)) (hk:kindB f=13) (b p:Nat) (w:World) (hl:LnS w b p W d):Calls Tryz.prog 34 #[.pointer (some ⟨b,0,none⟩)] w (RdN b p w (CmdN b w.heap.size) (cmdD W d)):=by
 have H0:=gH (lword_at (b:=b) (p:=p) q0)
 have HK:=gH (lkind_at hk)
 have HX0:=gH (Nr.start hl z17 31)
 have hb:=hl.lt
 have HB:=gH hb
 have qk:oneD (fun s=>(s,kindB s != 0)) W d=(f,W0,d0):=by rw [one_kind q0 hk];cases d0<;>rfl
 obtain ⟨s1,W1,d1,q1⟩:∃ a c e,nameD W0 d0=(a,c,e):=⟨_,_,_,rfl⟩
 obtain ⟨s2,W2,d2,q2⟩:∃ a c e,nameD W1 d1=(a,c,e):=⟨_,_,_,rfl⟩
 obtain ⟨s3,W3,d3,q3⟩:∃ a c e,nameD W2 d2=(a,c,e):=⟨_,_,_,rfl⟩
 have e:cmdD W d=({ zCmd with kind:=13,actor:=s1,role:=s2,name:=s3 },W3,d3):=by
  unfold cmdD
  rw [qk]
  simp [bindD,hk,tailD,q1,q2,q3]
 rw [e]
 have H1:=gH (lname_at (b:=b) (p:=p) q1)
 have H2:=gH (lname_at (b:=b) (p:=p) q2)
 have H3:=gH (lname_at (b:=b) (p:=p) q3)
 clear e hl qk q0 hk q1 q2 q3
 obtain ⟨v,hv⟩:∃ v,v=d0:=⟨_,rfl⟩
 have HVV:=gH hv
 clear hv
 cases d0
 all_goals
  go_enter Tryz.func34,Tryz.ntmps34
  go_wp2_with (first
   | (go_at_call 32;with_reducible refine (H0.out _ HX0.out.ds).mono ?_;rintro e w0 ⟨rfl,g0,l0,k0⟩;have X0:=HX0.out.call k0 l0;have y1:=l0.c1;have y2:=l0.f1;have y3:=l0.lt;have X1:=X0.boxBad v (c17 13 zB zB zB zB zB 0 false) 31;rw [HVV.out] at X1;obtain ⟨z00,z01,z02⟩:=X1.lt;have X0s:=gH X1;clear l0 k0 X0 X1)
   | (go_at_call 56;with_reducible refine (HK.out _).mono ?_;rintro e wk ⟨rfl,rfl⟩)
   | (go_at_call 57;with_reducible refine (H1.out _ X0s.out.nr.ds).mono ?_;rintro e w1 ⟨rfl,g1,m1,k1⟩;have X1:=X0s.out.call k1 m1;obtain ⟨ca1,fa1⟩:=X1.v1;obtain ⟨cb1,fb1⟩:=X1.v0;obtain ⟨z10,z11,z12⟩:=X1.lt;have X1s:=X1.s1 s1;clear m1 k1 X1)
   | (go_at_call 57;with_reducible refine (H2.out _ X1s.out.nr.ds).mono ?_;rintro e w2 ⟨rfl,g2,m2,k2⟩;have X2:=X1s.out.call k2 m2;obtain ⟨ca2,fa2⟩:=X2.v5;obtain ⟨cb2,fb2⟩:=X2.v0;obtain ⟨z20,z21,z22⟩:=X2.lt;have X2s:=X2.s5 s2;clear m2 k2 X2)
   | (go_at_call 57;with_reducible refine (H3.out _ X2s.out.nr.ds).mono ?_;rintro e w3 ⟨rfl,g3,m3,k3⟩;have X3:=X2s.out.call k3 m3;obtain ⟨ca3,fa3⟩:=X3.v4;obtain ⟨cb3,fb3⟩:=X3.v0;obtain ⟨z30,z31,z32⟩:=X3.lt;have X3s:=X3.s4 s3;have e1:=cmd_ret X3s.out.row;have e2:=cmd_put (r:=w.heap.size) X3s.out.nr.res (k:=13) (a:=s1) (s:=zB) (t:=zB) (n:=s3) (ro:=s2) (q:=0) (o:=false);clear m3 k3 X3))
  have XR:=X3s.out.nr.sets (cs:=(c17 13 s1 zB zB s3 s2 0 false)) rfl
  refine bodyPost_ret (results_cell rfl _ rfl (lv_row (T:=31) Tryz.underlying31 (by kernel_rfl) XR.res rfl)) rfl ?_
  exact ⟨XR.kw,_,rfl,⟨none,0,none,0,rfl,colsN_nil _ _ _ HB.out,namesN_nil _ _ _ HB.out,g1,szZ,szZ,g3,g2,szZ,szZ,szZ,szZ⟩,XR.ds⟩
theorem heap_new2 (w:World) (o1 o2:Obj):((w.alloc o1).alloc o2).heap[w.heap.size+1]? = some o2:=by
 have h:=heap_alloc_new (w.alloc o1) o2
 rw [show (w.alloc o1).heap.size=w.heap.size+1 by simp] at h
 exact h
theorem size_new2 (w:World) (o1 o2:Obj):w.heap.size≤((w.alloc o1).alloc o2).heap.size:=by simp;omega
theorem aft_app2 {w w5:World} {o1 o2:Obj} (hg:((w.alloc o1).alloc o2).grownBy w5 (Value.slice none 0 0).ownBlock):Aft w w5:=((Aft.refl w).alloc o1).trans (aft_app hg)
theorem ColsN.one {w1 w5:World} {b gg cap:Nat} {c:Col} (h:w5.ownsRow w1.heap.size 67 3 (.slice (some ⟨gg,0,none⟩) (0+1) cap) (0+1) ([]++[.string c.name,.int .i64 c.kind,.bool c.null])) (hb:b < w1.heap.size) (hs:c.name.size≤4096):ColsN b w1.heap.size w5 (.slice (some ⟨gg,0,none⟩) 1 cap) [c] :=
 ⟨⟨⟨some ⟨gg,0,none⟩,1,cap⟩,rfl,h,hb⟩,by simp,by
  intro x hx
  rw [List.mem_singleton.1 hx]
  exact hs⟩
theorem Nx.setsAt {b p r x n:Nat} {w V:World} {W:Ws} {d:Bool} {zs pre mid post vs:List Value} (X:Nx b p r x w V W d zs (pre++(mid++post))) (hp:pre.length=n) (hm:mid.length=vs.length):Nx b p r x w (V.setCells x n vs) W d zs (pre++(vs++post)):=by
 subst hp
 have:=X.nr.fb
 have:=X.nr.fp
 have:=X.fx
 have kb:=kb_setCellsD x vs V pre.length
 refine ⟨⟨X.nr.ds.kb kb (by omega) (by omega),kb.row X.nr.res X.fn,?_,X.nr.fb,X.nr.fp,X.nr.fr⟩,row_setMid vs mid post V pre X.row hm,X.fx,X.fn⟩
 exact ⟨kb.os.trans X.nr.kw.os,kb.tape.trans X.nr.kw.tape,kb.output.trans X.nr.kw.output,Nat.le_trans X.nr.kw.size kb.size,fun j hj hne=>(kb.block j (Nat.lt_of_lt_of_le hj X.nr.kw.size) (by omega)).trans (X.nr.kw.block j hj hne)⟩
theorem svRul_at {V:World} {x n:Nat} {pre mid post vs:List Value} (h:RowAt V x (pre++(mid++post))) (hp:pre.length=n) (hm:mid.length=8) (hv:vs.length=8) (h1:∀ v∈vs,v.oneCell'=true) :
  (svRul ⟨x,n,none⟩ (.agg vs.toArray)).run Tryz.prog V=.ok () (V.setCells x n vs):=by
 subst hp
 exact sv_at (T:=28) (by kernel_rfl) h hm hv h1
theorem lrule_at {b p:Nat} {W W1:Ws} {d d1:Bool} {f:ByteArray} {r:Rul} (hq:ruleD f W d=(r,W1,d1)):∀ V,LnS V b p W d→Calls Tryz.prog 59 #[.pointer (some ⟨b,0,none⟩),.string f] V fun e w'=>∃ A c,e=.returned (.agg #[.string r.name,.int .i64 r.kind,.slice A r.cols.length c,.int .i64 r.low,.int .i64 r.high,.string r.schema,.string r.table,.string r.key])∧(NamesN b V.heap.size w' (.slice A r.cols.length c) r.cols∧r.name.size≤4096∧r.schema.size≤4096∧r.table.size≤4096∧r.key.size≤4096)∧LnS w' b p W1 d1∧Kw b V w':=fun V h =>
 (rule_dn f b p W d V h).mono fun e w' ⟨k,v,h1,h2,h3⟩=>by
  rw [hq] at h2 h3
  obtain ⟨A,c,h4,h5⟩:=h2
  exact ⟨A,c,by rw [h1,h4],h5,h3,k⟩
theorem commandN_5 (f:ByteArray) (W:Ws) (d:Bool) (W0:Ws) (d0:Bool) (q0:wordD W d=(f,W0,d0)) (hk:kindB f=5) (b p:Nat) (w:World) (hl:LnS w b p W d):Calls Tryz.prog 34 #[.pointer (some ⟨b,0,none⟩)] w (RdN b p w (CmdN b w.heap.size) (cmdD W d)):=by
 have H0:=gH (lword_at (b:=b) (p:=p) q0)
 have HK:=gH (lkind_at hk)
 have qk:=one_kind q0 hk
 have HX0:=gH (Nr.start hl z17 31)
 have hb:=hl.lt
 have HB:=gH hb
 cases d0
 focus
  have qk:oneD (fun s=>(s,kindB s != 0)) W d=(f,W0,false):=qk
  obtain ⟨s1,W1,d1,q1⟩:∃ a c e,nameD W0 false=(a,c,e):=⟨_,_,_,rfl⟩
  obtain ⟨s2,W2,d2,q2⟩:∃ a c e,nameD W1 d1=(a,c,e):=⟨_,_,_,rfl⟩
  obtain ⟨s3,W3,d3,q3⟩:∃ a c e,nameD W2 d2=(a,c,e):=⟨_,_,_,rfl⟩
  obtain ⟨x4,W4,d4,q4⟩:∃ a c e,colD W3 d3=(a,c,e):=⟨_,_,_,rfl⟩
  have H4:=gH (lcol_at (b:=b) (p:=p) q4)
  have e:cmdD W d=({ zCmd with kind:=5,actor:=s1,schema:=s2,table:=s3,cols:=[x4] },W4,d4):=by
   unfold cmdD
   rw [qk]
   simp [bindD,hk,tailD,q1,q2,q3,q4]
  rw [e]
  have H1:=gH (lname_at (b:=b) (p:=p) q1)
  have H2:=gH (lname_at (b:=b) (p:=p) q2)
  have H3:=gH (lname_at (b:=b) (p:=p) q3)
  clear e hl qk q0 hk q1 q2 q3 q4
  go_enter Tryz.func34,Tryz.ntmps34
  go_wp2_with (first
   | (go_at_call 32;with_reducible refine (H0.out _ HX0.out.ds).mono ?_;rintro e w0 ⟨rfl,g0,l0,k0⟩;have X0:=HX0.out.call k0 l0;have y1:=l0.c1;have y2:=l0.f1;have y3:=l0.lt;have X1:=X0.boxBad false [.int .i64 5,.string ⟨#[]⟩,.string ⟨#[]⟩,.string ⟨#[]⟩,.string ⟨#[]⟩,.string ⟨#[]⟩,.slice none 0 0,.string ⟨#[]⟩,.int .i64 0,.slice none 0 0,.int .i64 0,.int .i64 0,.string ⟨#[]⟩,.string ⟨#[]⟩,.string ⟨#[]⟩,.int .i64 0,.bool false] 31;have z0:=X1.lt;obtain ⟨z00,z01,z02⟩:=z0;have X0s:=gH X1;clear l0 k0 X0 X1)
   | (go_at_call 56;with_reducible refine (HK.out _).mono ?_;rintro e wk ⟨rfl,rfl⟩)
   | (go_at_call 57;with_reducible refine (H1.out _ X0s.out.nr.ds).mono ?_;rintro e w1 ⟨rfl,g1,m1,k1⟩;have X1:=X0s.out.call k1 m1;obtain ⟨ca1,fa1⟩:=X1.cf 1 (by simp);obtain ⟨cb1,fb1⟩:=X1.cf 0 (by simp);have z1:=X1.lt;obtain ⟨z10,z11,z12⟩:=z1;have X1s:Nx b p w.heap.size w0.heap.size w _ _ _ z17 [.int .i64 5,.string s1,.string ⟨#[]⟩,.string ⟨#[]⟩,.string ⟨#[]⟩,.string ⟨#[]⟩,.slice none 0 0,.string ⟨#[]⟩,.int .i64 0,.slice none 0 0,.int .i64 0,.int .i64 0,.string ⟨#[]⟩,.string ⟨#[]⟩,.string ⟨#[]⟩,.int .i64 0,.bool false]:=X1.set 1 (.string s1) (by simp);have X1s:=gH X1s;clear m1 k1 X1)
   | (go_at_call 57;with_reducible refine (H2.out _ X1s.out.nr.ds).mono ?_;rintro e w2 ⟨rfl,g2,m2,k2⟩;have X2:=X1s.out.call k2 m2;obtain ⟨ca2,fa2⟩:=X2.cf 2 (by simp);obtain ⟨cb2,fb2⟩:=X2.cf 0 (by simp);have z2:=X2.lt;obtain ⟨z20,z21,z22⟩:=z2;have X2s:Nx b p w.heap.size w0.heap.size w _ _ _ z17 [.int .i64 5,.string s1,.string s2,.string ⟨#[]⟩,.string ⟨#[]⟩,.string ⟨#[]⟩,.slice none 0 0,.string ⟨#[]⟩,.int .i64 0,.slice none 0 0,.int .i64 0,.int .i64 0,.string ⟨#[]⟩,.string ⟨#[]⟩,.string ⟨#[]⟩,.int .i64 0,.bool false]:=X2.set 2 (.string s2) (by simp);have X2s:=gH X2s;clear m2 k2 X2)
   | (go_at_call 57;with_reducible refine (H3.out _ X2s.out.nr.ds).mono ?_;rintro e w3 ⟨rfl,g3,m3,k3⟩;have X3:=X2s.out.call k3 m3;obtain ⟨ca3,fa3⟩:=X3.cf 3 (by simp);obtain ⟨cb3,fb3⟩:=X3.cf 0 (by simp);have z3:=X3.lt;obtain ⟨z30,z31,z32⟩:=z3;have X3s:Nx b p w.heap.size w0.heap.size w _ _ _ z17 [.int .i64 5,.string s1,.string s2,.string s3,.string ⟨#[]⟩,.string ⟨#[]⟩,.slice none 0 0,.string ⟨#[]⟩,.int .i64 0,.slice none 0 0,.int .i64 0,.int .i64 0,.string ⟨#[]⟩,.string ⟨#[]⟩,.string ⟨#[]⟩,.int .i64 0,.bool false]:=X3.set 3 (.string s3) (by simp);have X3s:=gH X3s;clear m3 k3 X3)
   | (go_at_call 58;with_reducible refine (H4.out _ X3s.out.nr.ds).mono ?_;rintro e w4 ⟨rfl,g4,m4,k4⟩;have X4:=X3s.out.call k4 m4;obtain ⟨ca4,fa4⟩:=X4.cf 6 (by simp);obtain ⟨cb4,fb4⟩:=X4.cf 0 (by simp);have z4:=X4.lt;obtain ⟨z40,z41,z42⟩:=z4;have X4s:=gH X4;clear m4 k4 X4)
   | (at_builtin;go_must (refine app_desk Tryz.underlying24 infoDC rfl (by decide) (by decide) rfl _ _ rfl w4.heap.size (.slice none 0 0) 0 [] rfl (own_nilN _) (w4.heap.size+1) [.string x4.name,.int .i64 x4.kind,.bool x4.null] rfl (heap_new2 w4 _ _) rfl (by simp [Value.oneCell']) (by omega) (size_new2 w4 _ _) ?_);intro gg cap' w5 hown5 hgrow hat;have X5:=X4s.out.aft (aft_app2 hgrow);have G5:=gH (ColsN.one hown5 z40 g4);obtain ⟨ca5,fa5⟩:=X5.cf 6 (by simp);have z5:=X5.lt;obtain ⟨z50,z51,z52⟩:=z5;have X5s:Nx b p w.heap.size w0.heap.size w _ _ _ z17 [.int .i64 5,.string s1,.string s2,.string s3,.string ⟨#[]⟩,.string ⟨#[]⟩,.slice (some ⟨gg,0,none⟩) 1 cap',.string ⟨#[]⟩,.int .i64 0,.slice none 0 0,.int .i64 0,.int .i64 0,.string ⟨#[]⟩,.string ⟨#[]⟩,.string ⟨#[]⟩,.int .i64 0,.bool false]:=X5.set 6 (.slice (some ⟨gg,0,none⟩) 1 cap') (by simp);have X5s:=gH X5s;have e1:=lvCmd_row X5s.out.row rfl;have e2:=svCmd_row X5s.out.nr.res rfl rfl (vs:=[.int .i64 5,.string s1,.string s2,.string s3,.string ⟨#[]⟩,.string ⟨#[]⟩,.slice (some ⟨gg,0,none⟩) 1 cap',.string ⟨#[]⟩,.int .i64 0,.slice none 0 0,.int .i64 0,.int .i64 0,.string ⟨#[]⟩,.string ⟨#[]⟩,.string ⟨#[]⟩,.int .i64 0,.bool false]) (by simp [Value.oneCell']);clear hown5 hgrow hat X5))
 rotate_left
 focus
  have qk:oneD (fun s=>(s,kindB s != 0)) W d=(f,W0,true):=qk
  obtain ⟨s1,W1,d1,q1⟩:∃ a c e,nameD W0 true=(a,c,e):=⟨_,_,_,rfl⟩
  obtain ⟨s2,W2,d2,q2⟩:∃ a c e,nameD W1 d1=(a,c,e):=⟨_,_,_,rfl⟩
  obtain ⟨s3,W3,d3,q3⟩:∃ a c e,nameD W2 d2=(a,c,e):=⟨_,_,_,rfl⟩
  obtain ⟨x4,W4,d4,q4⟩:∃ a c e,colD W3 d3=(a,c,e):=⟨_,_,_,rfl⟩
  have H4:=gH (lcol_at (b:=b) (p:=p) q4)
  have e:cmdD W d=({ zCmd with kind:=5,actor:=s1,schema:=s2,table:=s3,cols:=[x4] },W4,d4):=by
   unfold cmdD
   rw [qk]
   simp [bindD,hk,tailD,q1,q2,q3,q4]
  rw [e]
  have H1:=gH (lname_at (b:=b) (p:=p) q1)
  have H2:=gH (lname_at (b:=b) (p:=p) q2)
  have H3:=gH (lname_at (b:=b) (p:=p) q3)
  clear e hl qk q0 hk q1 q2 q3 q4
  go_enter Tryz.func34,Tryz.ntmps34
  go_wp2_with (first
   | (go_at_call 32;with_reducible refine (H0.out _ HX0.out.ds).mono ?_;rintro e w0 ⟨rfl,g0,l0,k0⟩;have X0:=HX0.out.call k0 l0;have y1:=l0.c1;have y2:=l0.f1;have y3:=l0.lt;have X1:=X0.boxBad true [.int .i64 5,.string ⟨#[]⟩,.string ⟨#[]⟩,.string ⟨#[]⟩,.string ⟨#[]⟩,.string ⟨#[]⟩,.slice none 0 0,.string ⟨#[]⟩,.int .i64 0,.slice none 0 0,.int .i64 0,.int .i64 0,.string ⟨#[]⟩,.string ⟨#[]⟩,.string ⟨#[]⟩,.int .i64 0,.bool false] 31;have z0:=X1.lt;obtain ⟨z00,z01,z02⟩:=z0;have X0s:=gH X1;clear l0 k0 X0 X1)
   | (go_at_call 56;with_reducible refine (HK.out _).mono ?_;rintro e wk ⟨rfl,rfl⟩)
   | (go_at_call 57;with_reducible refine (H1.out _ X0s.out.nr.ds).mono ?_;rintro e w1 ⟨rfl,g1,m1,k1⟩;have X1:=X0s.out.call k1 m1;obtain ⟨ca1,fa1⟩:=X1.cf 1 (by simp);obtain ⟨cb1,fb1⟩:=X1.cf 0 (by simp);have z1:=X1.lt;obtain ⟨z10,z11,z12⟩:=z1;have X1s:Nx b p w.heap.size w0.heap.size w _ _ _ z17 [.int .i64 5,.string s1,.string ⟨#[]⟩,.string ⟨#[]⟩,.string ⟨#[]⟩,.string ⟨#[]⟩,.slice none 0 0,.string ⟨#[]⟩,.int .i64 0,.slice none 0 0,.int .i64 0,.int .i64 0,.string ⟨#[]⟩,.string ⟨#[]⟩,.string ⟨#[]⟩,.int .i64 0,.bool false]:=X1.set 1 (.string s1) (by simp);have X1s:=gH X1s;clear m1 k1 X1)
   | (go_at_call 57;with_reducible refine (H2.out _ X1s.out.nr.ds).mono ?_;rintro e w2 ⟨rfl,g2,m2,k2⟩;have X2:=X1s.out.call k2 m2;obtain ⟨ca2,fa2⟩:=X2.cf 2 (by simp);obtain ⟨cb2,fb2⟩:=X2.cf 0 (by simp);have z2:=X2.lt;obtain ⟨z20,z21,z22⟩:=z2;have X2s:Nx b p w.heap.size w0.heap.size w _ _ _ z17 [.int .i64 5,.string s1,.string s2,.string ⟨#[]⟩,.string ⟨#[]⟩,.string ⟨#[]⟩,.slice none 0 0,.string ⟨#[]⟩,.int .i64 0,.slice none 0 0,.int .i64 0,.int .i64 0,.string ⟨#[]⟩,.string ⟨#[]⟩,.string ⟨#[]⟩,.int .i64 0,.bool false]:=X2.set 2 (.string s2) (by simp);have X2s:=gH X2s;clear m2 k2 X2)
   | (go_at_call 57;with_reducible refine (H3.out _ X2s.out.nr.ds).mono ?_;rintro e w3 ⟨rfl,g3,m3,k3⟩;have X3:=X2s.out.call k3 m3;obtain ⟨ca3,fa3⟩:=X3.cf 3 (by simp);obtain ⟨cb3,fb3⟩:=X3.cf 0 (by simp);have z3:=X3.lt;obtain ⟨z30,z31,z32⟩:=z3;have X3s:Nx b p w.heap.size w0.heap.size w _ _ _ z17 [.int .i64 5,.string s1,.string s2,.string s3,.string ⟨#[]⟩,.string ⟨#[]⟩,.slice none 0 0,.string ⟨#[]⟩,.int .i64 0,.slice none 0 0,.int .i64 0,.int .i64 0,.string ⟨#[]⟩,.string ⟨#[]⟩,.string ⟨#[]⟩,.int .i64 0,.bool false]:=X3.set 3 (.string s3) (by simp);have X3s:=gH X3s;clear m3 k3 X3)
   | (go_at_call 58;with_reducible refine (H4.out _ X3s.out.nr.ds).mono ?_;rintro e w4 ⟨rfl,g4,m4,k4⟩;have X4:=X3s.out.call k4 m4;obtain ⟨ca4,fa4⟩:=X4.cf 6 (by simp);obtain ⟨cb4,fb4⟩:=X4.cf 0 (by simp);have z4:=X4.lt;obtain ⟨z40,z41,z42⟩:=z4;have X4s:=gH X4;clear m4 k4 X4)
   | (at_builtin;go_must (refine app_desk Tryz.underlying24 infoDC rfl (by decide) (by decide) rfl _ _ rfl w4.heap.size (.slice none 0 0) 0 [] rfl (own_nilN _) (w4.heap.size+1) [.string x4.name,.int .i64 x4.kind,.bool x4.null] rfl (heap_new2 w4 _ _) rfl (by simp [Value.oneCell']) (by omega) (size_new2 w4 _ _) ?_);intro gg cap' w5 hown5 hgrow hat;have X5:=X4s.out.aft (aft_app2 hgrow);have G5:=gH (ColsN.one hown5 z40 g4);obtain ⟨ca5,fa5⟩:=X5.cf 6 (by simp);have z5:=X5.lt;obtain ⟨z50,z51,z52⟩:=z5;have X5s:Nx b p w.heap.size w0.heap.size w _ _ _ z17 [.int .i64 5,.string s1,.string s2,.string s3,.string ⟨#[]⟩,.string ⟨#[]⟩,.slice (some ⟨gg,0,none⟩) 1 cap',.string ⟨#[]⟩,.int .i64 0,.slice none 0 0,.int .i64 0,.int .i64 0,.string ⟨#[]⟩,.string ⟨#[]⟩,.string ⟨#[]⟩,.int .i64 0,.bool false]:=X5.set 6 (.slice (some ⟨gg,0,none⟩) 1 cap') (by simp);have X5s:=gH X5s;have e1:=lvCmd_row X5s.out.row rfl;have e2:=svCmd_row X5s.out.nr.res rfl rfl (vs:=[.int .i64 5,.string s1,.string s2,.string s3,.string ⟨#[]⟩,.string ⟨#[]⟩,.slice (some ⟨gg,0,none⟩) 1 cap',.string ⟨#[]⟩,.int .i64 0,.slice none 0 0,.int .i64 0,.int .i64 0,.string ⟨#[]⟩,.string ⟨#[]⟩,.string ⟨#[]⟩,.int .i64 0,.bool false]) (by simp [Value.oneCell']);clear hown5 hgrow hat X5))
 rotate_left
 all_goals
  have XR:=X5s.out.nr.sets (cs:=[.int .i64 5,.string s1,.string s2,.string s3,.string ⟨#[]⟩,.string ⟨#[]⟩,.slice (some ⟨gg,0,none⟩) 1 cap',.string ⟨#[]⟩,.int .i64 0,.slice none 0 0,.int .i64 0,.int .i64 0,.string ⟨#[]⟩,.string ⟨#[]⟩,.string ⟨#[]⟩,.int .i64 0,.bool false]) rfl
  refine bodyPost_ret (results_cell rfl _ rfl (lv_row (T:=31) Tryz.underlying31 (by kernel_rfl) XR.res rfl)) rfl ?_
  have S:=X4s.out.lt
  have S2:=X4s.out.nr.kw.size
  have G:=((G5.out.hi (Kb.set w5 w0.heap.size 6 (.slice (some ⟨gg,0,none⟩) 1 cap')) (fun g e=>by have e':g=w0.heap.size:=e;omega)).hi (kb_setCellsD w.heap.size [.int .i64 5,.string s1,.string s2,.string s3,.string ⟨#[]⟩,.string ⟨#[]⟩,.slice (some ⟨gg,0,none⟩) 1 cap',.string ⟨#[]⟩,.int .i64 0,.slice none 0 0,.int .i64 0,.int .i64 0,.string ⟨#[]⟩,.string ⟨#[]⟩,.string ⟨#[]⟩,.int .i64 0,.bool false] _ 0) (fun g e=>by have e':g=w.heap.size:=e;omega)).down (B0:=w.heap.size) S2 HB.out
  exact ⟨XR.kw,_,rfl,⟨some ⟨gg,0,none⟩,cap',none,0,rfl,G,namesN_nil _ _ _ HB.out,g1,g2,g3,szZ,szZ,szZ,szZ,szZ,szZ⟩,XR.ds⟩
theorem commandN_7 (f:ByteArray) (W:Ws) (d:Bool) (W0:Ws) (d0:Bool) (q0:wordD W d=(f,W0,d0)) (hk:kindB f=7) (b p:Nat) (w:World) (hl:LnS w b p W d):Calls Tryz.prog 34 #[.pointer (some ⟨b,0,none⟩)] w (RdN b p w (CmdN b w.heap.size) (cmdD W d)):=by
 have H0:=gH (lword_at (b:=b) (p:=p) q0)
 have HK:=gH (lkind_at hk)
 have qk:=one_kind q0 hk
 have HX0:=gH (Nr.start hl z17 31)
 have hb:=hl.lt
 have HB:=gH hb
 cases d0
 focus
  have qk:oneD (fun s=>(s,kindB s != 0)) W d=(f,W0,false):=qk
  obtain ⟨s1,W1,d1,q1⟩:∃ a c e,nameD W0 false=(a,c,e):=⟨_,_,_,rfl⟩
  obtain ⟨s2,W2,d2,q2⟩:∃ a c e,nameD W1 d1=(a,c,e):=⟨_,_,_,rfl⟩
  obtain ⟨s3,W3,d3,q3⟩:∃ a c e,nameD W2 d2=(a,c,e):=⟨_,_,_,rfl⟩
  obtain ⟨x4,W4,d4,q4⟩:∃ a c e,ruleD f W3 d3=(a,c,e):=⟨_,_,_,rfl⟩
  have H4:=gH (lrule_at (b:=b) (p:=p) q4)
  have e:cmdD W d=({ zCmd with kind:=7,actor:=s1,schema:=s2,table:=s3,rule:=x4 },W4,d4):=by
   unfold cmdD
   rw [qk]
   simp [bindD,hk,tailD,q1,q2,q3,q4]
  rw [e]
  have H1:=gH (lname_at (b:=b) (p:=p) q1)
  have H2:=gH (lname_at (b:=b) (p:=p) q2)
  have H3:=gH (lname_at (b:=b) (p:=p) q3)
  clear e hl qk q0 hk q1 q2 q3 q4
  go_enter Tryz.func34,Tryz.ntmps34
  go_wp2_with (first
   | (go_at_call 32;with_reducible refine (H0.out _ HX0.out.ds).mono ?_;rintro e w0 ⟨rfl,g0,l0,k0⟩;have X0:=HX0.out.call k0 l0;have y1:=l0.c1;have y2:=l0.f1;have y3:=l0.lt;have X1:=X0.boxBad false [.int .i64 7,.string ⟨#[]⟩,.string ⟨#[]⟩,.string ⟨#[]⟩,.string ⟨#[]⟩,.string ⟨#[]⟩,.slice none 0 0,.string ⟨#[]⟩,.int .i64 0,.slice none 0 0,.int .i64 0,.int .i64 0,.string ⟨#[]⟩,.string ⟨#[]⟩,.string ⟨#[]⟩,.int .i64 0,.bool false] 31;have z0:=X1.lt;obtain ⟨z00,z01,z02⟩:=z0;have X0s:=gH X1;clear l0 k0 X0 X1)
   | (go_at_call 56;with_reducible refine (HK.out _).mono ?_;rintro e wk ⟨rfl,rfl⟩)
   | (go_at_call 57;with_reducible refine (H1.out _ X0s.out.nr.ds).mono ?_;rintro e w1 ⟨rfl,g1,m1,k1⟩;have X1:=X0s.out.call k1 m1;obtain ⟨ca1,fa1⟩:=X1.cf 1 (by simp);obtain ⟨cb1,fb1⟩:=X1.cf 0 (by simp);have z1:=X1.lt;obtain ⟨z10,z11,z12⟩:=z1;have X1s:Nx b p w.heap.size w0.heap.size w _ _ _ z17 [.int .i64 7,.string s1,.string ⟨#[]⟩,.string ⟨#[]⟩,.string ⟨#[]⟩,.string ⟨#[]⟩,.slice none 0 0,.string ⟨#[]⟩,.int .i64 0,.slice none 0 0,.int .i64 0,.int .i64 0,.string ⟨#[]⟩,.string ⟨#[]⟩,.string ⟨#[]⟩,.int .i64 0,.bool false]:=X1.set 1 (.string s1) (by simp);have X1s:=gH X1s;clear m1 k1 X1)
   | (go_at_call 57;with_reducible refine (H2.out _ X1s.out.nr.ds).mono ?_;rintro e w2 ⟨rfl,g2,m2,k2⟩;have X2:=X1s.out.call k2 m2;obtain ⟨ca2,fa2⟩:=X2.cf 2 (by simp);obtain ⟨cb2,fb2⟩:=X2.cf 0 (by simp);have z2:=X2.lt;obtain ⟨z20,z21,z22⟩:=z2;have X2s:Nx b p w.heap.size w0.heap.size w _ _ _ z17 [.int .i64 7,.string s1,.string s2,.string ⟨#[]⟩,.string ⟨#[]⟩,.string ⟨#[]⟩,.slice none 0 0,.string ⟨#[]⟩,.int .i64 0,.slice none 0 0,.int .i64 0,.int .i64 0,.string ⟨#[]⟩,.string ⟨#[]⟩,.string ⟨#[]⟩,.int .i64 0,.bool false]:=X2.set 2 (.string s2) (by simp);have X2s:=gH X2s;clear m2 k2 X2)
   | (go_at_call 57;with_reducible refine (H3.out _ X2s.out.nr.ds).mono ?_;rintro e w3 ⟨rfl,g3,m3,k3⟩;have X3:=X2s.out.call k3 m3;obtain ⟨ca3,fa3⟩:=X3.cf 3 (by simp);obtain ⟨cb3,fb3⟩:=X3.cf 0 (by simp);have z3:=X3.lt;obtain ⟨z30,z31,z32⟩:=z3;have X3s:Nx b p w.heap.size w0.heap.size w _ _ _ z17 [.int .i64 7,.string s1,.string s2,.string s3,.string ⟨#[]⟩,.string ⟨#[]⟩,.slice none 0 0,.string ⟨#[]⟩,.int .i64 0,.slice none 0 0,.int .i64 0,.int .i64 0,.string ⟨#[]⟩,.string ⟨#[]⟩,.string ⟨#[]⟩,.int .i64 0,.bool false]:=X3.set 3 (.string s3) (by simp);have X3s:=gH X3s;clear m3 k3 X3)
   | (go_at_call 59;with_reducible refine (H4.out _ X3s.out.nr.ds).mono ?_;rintro e w4 ⟨A4,c4,rfl,g4,m4,k4⟩;have X4:=X3s.out.call k4 m4;have z4:=X4.lt;obtain ⟨z40,z41,z42⟩:=z4;have e0:=svRul_at (n:=7) (pre:=[.int .i64 7,.string s1,.string s2,.string s3,.string ⟨#[]⟩,.string ⟨#[]⟩,.slice none 0 0]) (mid:=[.string ⟨#[]⟩,.int .i64 0,.slice none 0 0,.int .i64 0,.int .i64 0,.string ⟨#[]⟩,.string ⟨#[]⟩,.string ⟨#[]⟩]) (post:=[.int .i64 0,.bool false]) (vs:=[.string x4.name,.int .i64 x4.kind,.slice A4 x4.cols.length c4,.int .i64 x4.low,.int .i64 x4.high,.string x4.schema,.string x4.table,.string x4.key]) X4.row rfl rfl rfl (by simp [Value.oneCell']);have X4t:=X4.setsAt (pre:=[.int .i64 7,.string s1,.string s2,.string s3,.string ⟨#[]⟩,.string ⟨#[]⟩,.slice none 0 0]) (mid:=[.string ⟨#[]⟩,.int .i64 0,.slice none 0 0,.int .i64 0,.int .i64 0,.string ⟨#[]⟩,.string ⟨#[]⟩,.string ⟨#[]⟩]) (post:=[.int .i64 0,.bool false]) (n:=7) (vs:=[.string x4.name,.int .i64 x4.kind,.slice A4 x4.cols.length c4,.int .i64 x4.low,.int .i64 x4.high,.string x4.schema,.string x4.table,.string x4.key]) rfl rfl;have X4s:Nx b p w.heap.size w0.heap.size w _ _ _ z17 [.int .i64 7,.string s1,.string s2,.string s3,.string ⟨#[]⟩,.string ⟨#[]⟩,.slice none 0 0,.string x4.name,.int .i64 x4.kind,.slice A4 x4.cols.length c4,.int .i64 x4.low,.int .i64 x4.high,.string x4.schema,.string x4.table,.string x4.key,.int .i64 0,.bool false]:=X4t;have X4s:=gH X4s;have e1:=lvCmd_row X4s.out.row rfl;have e2:=svCmd_row X4s.out.nr.res rfl rfl (vs:=[.int .i64 7,.string s1,.string s2,.string s3,.string ⟨#[]⟩,.string ⟨#[]⟩,.slice none 0 0,.string x4.name,.int .i64 x4.kind,.slice A4 x4.cols.length c4,.int .i64 x4.low,.int .i64 x4.high,.string x4.schema,.string x4.table,.string x4.key,.int .i64 0,.bool false]) (by simp [Value.oneCell']);clear m4 X4 X4t))
 rotate_left
 focus
  have qk:oneD (fun s=>(s,kindB s != 0)) W d=(f,W0,true):=qk
  obtain ⟨s1,W1,d1,q1⟩:∃ a c e,nameD W0 true=(a,c,e):=⟨_,_,_,rfl⟩
  obtain ⟨s2,W2,d2,q2⟩:∃ a c e,nameD W1 d1=(a,c,e):=⟨_,_,_,rfl⟩
  obtain ⟨s3,W3,d3,q3⟩:∃ a c e,nameD W2 d2=(a,c,e):=⟨_,_,_,rfl⟩
  obtain ⟨x4,W4,d4,q4⟩:∃ a c e,ruleD f W3 d3=(a,c,e):=⟨_,_,_,rfl⟩
  have H4:=gH (lrule_at (b:=b) (p:=p) q4)
  have e:cmdD W d=({ zCmd with kind:=7,actor:=s1,schema:=s2,table:=s3,rule:=x4 },W4,d4):=by
   unfold cmdD
   rw [qk]
   simp [bindD,hk,tailD,q1,q2,q3,q4]
  rw [e]
  have H1:=gH (lname_at (b:=b) (p:=p) q1)
  have H2:=gH (lname_at (b:=b) (p:=p) q2)
  have H3:=gH (lname_at (b:=b) (p:=p) q3)
  clear e hl qk q0 hk q1 q2 q3 q4
  go_enter Tryz.func34,Tryz.ntmps34
  go_wp2_with (first
   | (go_at_call 32;with_reducible refine (H0.out _ HX0.out.ds).mono ?_;rintro e w0 ⟨rfl,g0,l0,k0⟩;have X0:=HX0.out.call k0 l0;have y1:=l0.c1;have y2:=l0.f1;have y3:=l0.lt;have X1:=X0.boxBad true [.int .i64 7,.string ⟨#[]⟩,.string ⟨#[]⟩,.string ⟨#[]⟩,.string ⟨#[]⟩,.string ⟨#[]⟩,.slice none 0 0,.string ⟨#[]⟩,.int .i64 0,.slice none 0 0,.int .i64 0,.int .i64 0,.string ⟨#[]⟩,.string ⟨#[]⟩,.string ⟨#[]⟩,.int .i64 0,.bool false] 31;have z0:=X1.lt;obtain ⟨z00,z01,z02⟩:=z0;have X0s:=gH X1;clear l0 k0 X0 X1)
   | (go_at_call 56;with_reducible refine (HK.out _).mono ?_;rintro e wk ⟨rfl,rfl⟩)
   | (go_at_call 57;with_reducible refine (H1.out _ X0s.out.nr.ds).mono ?_;rintro e w1 ⟨rfl,g1,m1,k1⟩;have X1:=X0s.out.call k1 m1;obtain ⟨ca1,fa1⟩:=X1.cf 1 (by simp);obtain ⟨cb1,fb1⟩:=X1.cf 0 (by simp);have z1:=X1.lt;obtain ⟨z10,z11,z12⟩:=z1;have X1s:Nx b p w.heap.size w0.heap.size w _ _ _ z17 [.int .i64 7,.string s1,.string ⟨#[]⟩,.string ⟨#[]⟩,.string ⟨#[]⟩,.string ⟨#[]⟩,.slice none 0 0,.string ⟨#[]⟩,.int .i64 0,.slice none 0 0,.int .i64 0,.int .i64 0,.string ⟨#[]⟩,.string ⟨#[]⟩,.string ⟨#[]⟩,.int .i64 0,.bool false]:=X1.set 1 (.string s1) (by simp);have X1s:=gH X1s;clear m1 k1 X1)
   | (go_at_call 57;with_reducible refine (H2.out _ X1s.out.nr.ds).mono ?_;rintro e w2 ⟨rfl,g2,m2,k2⟩;have X2:=X1s.out.call k2 m2;obtain ⟨ca2,fa2⟩:=X2.cf 2 (by simp);obtain ⟨cb2,fb2⟩:=X2.cf 0 (by simp);have z2:=X2.lt;obtain ⟨z20,z21,z22⟩:=z2;have X2s:Nx b p w.heap.size w0.heap.size w _ _ _ z17 [.int .i64 7,.string s1,.string s2,.string ⟨#[]⟩,.string ⟨#[]⟩,.string ⟨#[]⟩,.slice none 0 0,.string ⟨#[]⟩,.int .i64 0,.slice none 0 0,.int .i64 0,.int .i64 0,.string ⟨#[]⟩,.string ⟨#[]⟩,.string ⟨#[]⟩,.int .i64 0,.bool false]:=X2.set 2 (.string s2) (by simp);have X2s:=gH X2s;clear m2 k2 X2)
   | (go_at_call 57;with_reducible refine (H3.out _ X2s.out.nr.ds).mono ?_;rintro e w3 ⟨rfl,g3,m3,k3⟩;have X3:=X2s.out.call k3 m3;obtain ⟨ca3,fa3⟩:=X3.cf 3 (by simp);obtain ⟨cb3,fb3⟩:=X3.cf 0 (by simp);have z3:=X3.lt;obtain ⟨z30,z31,z32⟩:=z3;have X3s:Nx b p w.heap.size w0.heap.size w _ _ _ z17 [.int .i64 7,.string s1,.string s2,.string s3,.string ⟨#[]⟩,.string ⟨#[]⟩,.slice none 0 0,.string ⟨#[]⟩,.int .i64 0,.slice none 0 0,.int .i64 0,.int .i64 0,.string ⟨#[]⟩,.string ⟨#[]⟩,.string ⟨#[]⟩,.int .i64 0,.bool false]:=X3.set 3 (.string s3) (by simp);have X3s:=gH X3s;clear m3 k3 X3)
   | (go_at_call 59;with_reducible refine (H4.out _ X3s.out.nr.ds).mono ?_;rintro e w4 ⟨A4,c4,rfl,g4,m4,k4⟩;have X4:=X3s.out.call k4 m4;have z4:=X4.lt;obtain ⟨z40,z41,z42⟩:=z4;have e0:=svRul_at (n:=7) (pre:=[.int .i64 7,.string s1,.string s2,.string s3,.string ⟨#[]⟩,.string ⟨#[]⟩,.slice none 0 0]) (mid:=[.string ⟨#[]⟩,.int .i64 0,.slice none 0 0,.int .i64 0,.int .i64 0,.string ⟨#[]⟩,.string ⟨#[]⟩,.string ⟨#[]⟩]) (post:=[.int .i64 0,.bool false]) (vs:=[.string x4.name,.int .i64 x4.kind,.slice A4 x4.cols.length c4,.int .i64 x4.low,.int .i64 x4.high,.string x4.schema,.string x4.table,.string x4.key]) X4.row rfl rfl rfl (by simp [Value.oneCell']);have X4t:=X4.setsAt (pre:=[.int .i64 7,.string s1,.string s2,.string s3,.string ⟨#[]⟩,.string ⟨#[]⟩,.slice none 0 0]) (mid:=[.string ⟨#[]⟩,.int .i64 0,.slice none 0 0,.int .i64 0,.int .i64 0,.string ⟨#[]⟩,.string ⟨#[]⟩,.string ⟨#[]⟩]) (post:=[.int .i64 0,.bool false]) (n:=7) (vs:=[.string x4.name,.int .i64 x4.kind,.slice A4 x4.cols.length c4,.int .i64 x4.low,.int .i64 x4.high,.string x4.schema,.string x4.table,.string x4.key]) rfl rfl;have X4s:Nx b p w.heap.size w0.heap.size w _ _ _ z17 [.int .i64 7,.string s1,.string s2,.string s3,.string ⟨#[]⟩,.string ⟨#[]⟩,.slice none 0 0,.string x4.name,.int .i64 x4.kind,.slice A4 x4.cols.length c4,.int .i64 x4.low,.int .i64 x4.high,.string x4.schema,.string x4.table,.string x4.key,.int .i64 0,.bool false]:=X4t;have X4s:=gH X4s;have e1:=lvCmd_row X4s.out.row rfl;have e2:=svCmd_row X4s.out.nr.res rfl rfl (vs:=[.int .i64 7,.string s1,.string s2,.string s3,.string ⟨#[]⟩,.string ⟨#[]⟩,.slice none 0 0,.string x4.name,.int .i64 x4.kind,.slice A4 x4.cols.length c4,.int .i64 x4.low,.int .i64 x4.high,.string x4.schema,.string x4.table,.string x4.key,.int .i64 0,.bool false]) (by simp [Value.oneCell']);clear m4 X4 X4t))
 rotate_left
 all_goals
  have XR:=X4s.out.nr.sets (cs:=[.int .i64 7,.string s1,.string s2,.string s3,.string ⟨#[]⟩,.string ⟨#[]⟩,.slice none 0 0,.string x4.name,.int .i64 x4.kind,.slice A4 x4.cols.length c4,.int .i64 x4.low,.int .i64 x4.high,.string x4.schema,.string x4.table,.string x4.key,.int .i64 0,.bool false]) rfl
  refine bodyPost_ret (results_cell rfl _ rfl (lv_row (T:=31) Tryz.underlying31 (by kernel_rfl) XR.res rfl)) rfl ?_
  have S:=X3s.out.lt
  have S2:=X3s.out.nr.kw.size
  have G:=((g4.1.hi (kb_setCellsD w0.heap.size [.string x4.name,.int .i64 x4.kind,.slice A4 x4.cols.length c4,.int .i64 x4.low,.int .i64 x4.high,.string x4.schema,.string x4.table,.string x4.key] w4 7) (fun g e=>by have e':g=w0.heap.size:=e;omega)).hi (kb_setCellsD w.heap.size [.int .i64 7,.string s1,.string s2,.string s3,.string ⟨#[]⟩,.string ⟨#[]⟩,.slice none 0 0,.string x4.name,.int .i64 x4.kind,.slice A4 x4.cols.length c4,.int .i64 x4.low,.int .i64 x4.high,.string x4.schema,.string x4.table,.string x4.key,.int .i64 0,.bool false] _ 0) (fun g e=>by have e':g=w.heap.size:=e;omega)).down (B0:=w.heap.size) S2 HB.out
  exact ⟨XR.kw,_,rfl,⟨none,0,A4,c4,rfl,colsN_nil _ _ _ HB.out,G,g1,g2,g3,szZ,szZ,g4.2.1,g4.2.2.1,g4.2.2.2.1,g4.2.2.2.2⟩,XR.ds⟩
end Go.Proofs.YtbdanlipghhgpaaGreatDoor
