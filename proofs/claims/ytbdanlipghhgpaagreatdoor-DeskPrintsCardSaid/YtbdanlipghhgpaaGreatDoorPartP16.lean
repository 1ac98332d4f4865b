import Derived.Test.YtbdanlipghhgpaaGreatDoorPartP15
namespace Go.Proofs.YtbdanlipghhgpaaGreatDoor
open Go.RowKit Go.Deep
set_option maxRecDepth 100000
set_option linter.unusedVariables false
set_option maxHeartbeats 64000000
structure SmO (r:ROp):Prop where
 role:Small r.role.size
 schema:Small r.schema.size
 table:Small r.table.size
 col:Small r.col.size
 text:Small r.v.text.size
theorem isEmp_eqS (s:ByteArray):s.toList.isEmpty=eqS s zBy:=by
 unfold eqS zBy
 cases h:s.toList<;>simp
theorem row_k1 (w0:World) (Q:List (Nat × Obj)) (b:Nat) (L:Ws) (r:ROp) (A3:Option Addr) (k3:Nat) (w:World) (h:LyS w0 Q b L w) (ht:TabW w0) (sm:SmO r) (hn:L.length≤100) (hv:SlAt w0 3 ValR A3 k3 r.row) (hlr:r.row.length≤4100) (hk:r.kind=1) :
  Calls Tryz.prog 64 #[.pointer (some ⟨b,0,none⟩),.agg #[.int .i64 r.kind,.string r.role,.string r.schema,.string r.table,.slice A3 r.row.length k3,.string r.col,.int .i64 r.v.kind,.int .i64 r.v.int,.string r.v.text]] w (LyQ w0 Q b L (rowL r)):=by
 have b1:(r.kind==1)=true:=by simp [hk]
 have b1n:(r.kind != 1)=false:=by simp [hk]
 have HK:=gH hk
 clear hk
 have HT:=gH ht
 have hsm:=gH sm
 have HV:=gH hv
 clear ht sm hv
 obtain ⟨h0,hm0,he0⟩:=box1 h [.int .i64 r.kind,.string r.role,.string r.schema,.string r.table,.slice A3 r.row.length k3,.string r.col,.int .i64 r.v.kind,.int .i64 r.v.int,.string r.v.text] 41
 have H0:=gH h0
 have HE0:=gH he0
 have HM0:=gH hm0
 clear h h0 he0 hm0
 have HZ0:=gH (show (L).length≤40000 from by (try simp only [List.length_append,List.length_cons,List.length_nil,List.length_map]);omega)
 have HZ1:=gH (show (L++[(⟨#[105,110,115,101,114,116]⟩:ByteArray)]).length≤45000 from by (try simp only [List.length_append,List.length_cons,List.length_nil,List.length_map]);omega)
 rcases nms_cases [r.role,r.schema,r.table] with q1 | q1<;>have HQ1:=gH q1<;>clear q1
 ·have HS:=gH (show rowL r=none from by simp [rowL,andL,HK.out,b_insert,HQ1.out])
  go_enter Tryz.func64,Tryz.ntmps64
  go_wp2_with (first
   | (go_at_call 61;(with_reducible refine (lay2 w0 _ b _ _ _ _ H0.out HZ0.out HE0.out).mono ?_);rintro e w1 ⟨rfl,h⟩;have r:=HM0.out _ _ h;have yb0b0:=r.1;have y0b0c1:=r.cell (j:=1) rfl;have y0b0c2:=r.cell (j:=2) rfl;have y0b0c3:=r.cell (j:=3) rfl;clear r;have H1:=gH h;clear h)
   | (go_at_call 91;(with_reducible refine (nam3 w0 _ b _ _ _ _ _ _ H1.out HT.out HZ1.out rfl hsm.out.role hsm.out.schema hsm.out.table).mono ?_);rintro e w2 h;rw [HQ1.out] at h;obtain ⟨he,h⟩:=h;have H2:=gH h;clear h;unfold NoL at he;subst he))
  rw [HS.out]
  exact ⟨rfl,rfl,H2.out⟩
 ·have HZ2:=gH (show (L++[(⟨#[105,110,115,101,114,116]⟩:ByteArray)]++[r.role,r.schema,r.table]).length+r.row.length≤50000 from by (try simp only [List.length_append,List.length_cons,List.length_nil,List.length_map]);omega)
  rcases vals_cases r.row with q2 | q2<;>have HQ2:=gH q2<;>clear q2
  ·have HS:=gH (show rowL r=none from by simp [rowL,andL,HK.out,b_insert,HQ1.out,HQ2.out])
   go_enter Tryz.func64,Tryz.ntmps64
   go_wp2_with (first
    | (go_at_call 61;(with_reducible refine (lay2 w0 _ b _ _ _ _ H0.out HZ0.out HE0.out).mono ?_);rintro e w1 ⟨rfl,h⟩;have r:=HM0.out _ _ h;have yb0b0:=r.1;have y0b0c1:=r.cell (j:=1) rfl;have y0b0c2:=r.cell (j:=2) rfl;have y0b0c3:=r.cell (j:=3) rfl;clear r;have H1:=gH h;clear h)
    | (go_at_call 91;(with_reducible refine (nam3 w0 _ b _ _ _ _ _ _ H1.out HT.out HZ1.out rfl hsm.out.role hsm.out.schema hsm.out.table).mono ?_);rintro e w2 h;rw [HQ1.out] at h;obtain ⟨rfl,h⟩:=h;have r:=HM0.out _ _ h;have yb1b0:=r.1;have y1b0c0:=r.cell (j:=0) rfl;have y1b0c5:=r.cell (j:=5) rfl;have y1b0c6:=r.cell (j:=6) rfl;have y1b0c7:=r.cell (j:=7) rfl;have y1b0c8:=r.cell (j:=8) rfl;have y1b0c4:=r.cell (j:=4) rfl;clear r;have H2:=gH h;clear h)
    | (go_at_call 96;(with_reducible refine (values_in w0 _ b _ r.row A3 k3 _ H2.out (fun L' V h=>vals_aft h.aft HV.out) HT.out HZ2.out).mono ?_);rintro e w3 h;rw [HQ2.out] at h;obtain ⟨he,h⟩:=h;have H3:=gH h;clear h;unfold NoL at he;subst he))
   rw [HS.out]
   exact ⟨rfl,rfl,H3.out⟩
  ·have HS:=gH (show rowL r=some ([(⟨#[105,110,115,101,114,116]⟩:ByteArray)]++([r.role,r.schema,r.table]++(List.map valT r.row))) from by simp [rowL,andL,HK.out,b_insert,HQ1.out,HQ2.out])
   go_enter Tryz.func64,Tryz.ntmps64
   go_wp2_with (first
    | (go_at_call 61;(with_reducible refine (lay2 w0 _ b _ _ _ _ H0.out HZ0.out HE0.out).mono ?_);rintro e w1 ⟨rfl,h⟩;have r:=HM0.out _ _ h;have yb0b0:=r.1;have y0b0c1:=r.cell (j:=1) rfl;have y0b0c2:=r.cell (j:=2) rfl;have y0b0c3:=r.cell (j:=3) rfl;clear r;have H1:=gH h;clear h)
    | (go_at_call 91;(with_reducible refine (nam3 w0 _ b _ _ _ _ _ _ H1.out HT.out HZ1.out rfl hsm.out.role hsm.out.schema hsm.out.table).mono ?_);rintro e w2 h;rw [HQ1.out] at h;obtain ⟨rfl,h⟩:=h;have r:=HM0.out _ _ h;have yb1b0:=r.1;have y1b0c0:=r.cell (j:=0) rfl;have y1b0c5:=r.cell (j:=5) rfl;have y1b0c6:=r.cell (j:=6) rfl;have y1b0c7:=r.cell (j:=7) rfl;have y1b0c8:=r.cell (j:=8) rfl;have y1b0c4:=r.cell (j:=4) rfl;clear r;have H2:=gH h;clear h)
    | (go_at_call 96;(with_reducible refine (values_in w0 _ b _ r.row A3 k3 _ H2.out (fun L' V h=>vals_aft h.aft HV.out) HT.out HZ2.out).mono ?_);rintro e w3 h;rw [HQ2.out] at h;obtain ⟨rfl,h⟩:=h;have H3:=gH h;clear h))
   go_end0
   rw [HS.out]
   exact ⟨rfl,LyS.conv (by first | (simp only [List.append_assoc];rfl) | simp only [List.append_assoc]) H3.out.pop⟩
theorem row_k2c (w0:World) (Q:List (Nat × Obj)) (b:Nat) (L:Ws) (r:ROp) (A3:Option Addr) (k3:Nat) (w:World) (h:LyS w0 Q b L w) (ht:TabW w0) (sm:SmO r) (hn:L.length≤100) (hv:SlAt w0 3 ValR A3 k3 r.row) (hlr:r.row.length≤4100) (hk:r.kind=2) (hc:eqS r.col zBy=false) :
  Calls Tryz.prog 64 #[.pointer (some ⟨b,0,none⟩),.agg #[.int .i64 r.kind,.string r.role,.string r.schema,.string r.table,.slice A3 r.row.length k3,.string r.col,.int .i64 r.v.kind,.int .i64 r.v.int,.string r.v.text]] w (LyQ w0 Q b L (rowL r)):=by
 have b1:(r.kind==1)=false:=by simp [hk]
 have b1n:(r.kind != 1)=true:=by simp [hk]
 have b2:(r.kind==2)=true:=by simp [hk]
 have HK:=gH hk
 clear hk
 have e1:r.col.toList.isEmpty=false:=(isEmp_eqS r.col).trans hc
 have HE:=gH hc
 clear hc
 have HT:=gH ht
 have hsm:=gH sm
 have HV:=gH hv
 clear ht sm hv
 obtain ⟨h0,hm0,he0⟩:=box1 h [.int .i64 r.kind,.string r.role,.string r.schema,.string r.table,.slice A3 r.row.length k3,.string r.col,.int .i64 r.v.kind,.int .i64 r.v.int,.string r.v.text] 41
 have H0:=gH h0
 have HE0:=gH he0
 have HM0:=gH hm0
 clear h h0 he0 hm0
 have HZ0:=gH (show (L).length≤40000 from by (try simp only [List.length_append,List.length_cons,List.length_nil,List.length_map]);omega)
 have HZ1:=gH (show (L++[(⟨#[114,101,109,111,118,101]⟩:ByteArray)]).length≤45000 from by (try simp only [List.length_append,List.length_cons,List.length_nil,List.length_map]);omega)
 rcases nms_cases [r.role,r.schema,r.table] with q1 | q1<;>have HQ1:=gH q1<;>clear q1
 ·have HS:=gH (show rowL r=none from by simp [rowL,andL,HK.out,HE.out,b_remove,HQ1.out])
  go_enter Tryz.func64,Tryz.ntmps64
  go_wp2_with (first
   | (go_at_call 61;(with_reducible refine (lay2 w0 _ b _ _ _ _ H0.out HZ0.out HE0.out).mono ?_);rintro e w1 ⟨rfl,h⟩;have r:=HM0.out _ _ h;have yb0b0:=r.1;have y0b0c1:=r.cell (j:=1) rfl;have y0b0c2:=r.cell (j:=2) rfl;have y0b0c3:=r.cell (j:=3) rfl;clear r;have H1:=gH h;clear h)
   | (go_at_call 91;(with_reducible refine (nam3 w0 _ b _ _ _ _ _ _ H1.out HT.out HZ1.out rfl hsm.out.role hsm.out.schema hsm.out.table).mono ?_);rintro e w2 h;rw [HQ1.out] at h;obtain ⟨he,h⟩:=h;have H2:=gH h;clear h;unfold NoL at he;subst he))
  rw [HS.out]
  exact ⟨rfl,rfl,H2.out⟩
 ·have HZ2:=gH (show (L++[(⟨#[114,101,109,111,118,101]⟩:ByteArray)]++[r.role,r.schema,r.table]).length≤45000 from by (try simp only [List.length_append,List.length_cons,List.length_nil,List.length_map]);omega)
  rcases nms_cases [r.col] with q2 | q2<;>have HQ2:=gH q2<;>clear q2
  ·have HS:=gH (show rowL r=none from by simp [rowL,andL,HK.out,HE.out,b_remove,HQ1.out,HQ2.out])
   go_enter Tryz.func64,Tryz.ntmps64
   go_wp2_with (first
    | (go_at_call 61;(with_reducible refine (lay2 w0 _ b _ _ _ _ H0.out HZ0.out HE0.out).mono ?_);rintro e w1 ⟨rfl,h⟩;have r:=HM0.out _ _ h;have yb0b0:=r.1;have y0b0c1:=r.cell (j:=1) rfl;have y0b0c2:=r.cell (j:=2) rfl;have y0b0c3:=r.cell (j:=3) rfl;clear r;have H1:=gH h;clear h)
    | (go_at_call 91;(with_reducible refine (nam3 w0 _ b _ _ _ _ _ _ H1.out HT.out HZ1.out rfl hsm.out.role hsm.out.schema hsm.out.table).mono ?_);rintro e w2 h;rw [HQ1.out] at h;obtain ⟨rfl,h⟩:=h;have r:=HM0.out _ _ h;have yb1b0:=r.1;have y1b0c0:=r.cell (j:=0) rfl;have y1b0c5:=r.cell (j:=5) rfl;have y1b0c6:=r.cell (j:=6) rfl;have y1b0c7:=r.cell (j:=7) rfl;have y1b0c8:=r.cell (j:=8) rfl;have y1b0c4:=r.cell (j:=4) rfl;clear r;have H2:=gH h;clear h)
    | (go_at_call 91;(with_reducible refine (nam1 w0 _ b _ _ _ _ H2.out HT.out HZ2.out rfl hsm.out.col).mono ?_);rintro e w3 h;rw [HQ2.out] at h;obtain ⟨he,h⟩:=h;have H3:=gH h;clear h;unfold NoL at he;subst he))
   rw [HS.out]
   exact ⟨rfl,rfl,H3.out⟩
  ·have HZ3:=gH (show (L++[(⟨#[114,101,109,111,118,101]⟩:ByteArray)]++[r.role,r.schema,r.table]++[r.col]).length≤45000 from by (try simp only [List.length_append,List.length_cons,List.length_nil,List.length_map]);omega)
   rcases vals_cases [r.v] with q3 | q3<;>have HQ3:=gH q3<;>clear q3
   ·have HS:=gH (show rowL r=none from by simp [rowL,andL,HK.out,HE.out,b_remove,HQ1.out,HQ2.out,HQ3.out])
    go_enter Tryz.func64,Tryz.ntmps64
    go_wp2_with (first
     | (go_at_call 61;(with_reducible refine (lay2 w0 _ b _ _ _ _ H0.out HZ0.out HE0.out).mono ?_);rintro e w1 ⟨rfl,h⟩;have r:=HM0.out _ _ h;have yb0b0:=r.1;have y0b0c1:=r.cell (j:=1) rfl;have y0b0c2:=r.cell (j:=2) rfl;have y0b0c3:=r.cell (j:=3) rfl;clear r;have H1:=gH h;clear h)
     | (go_at_call 91;(with_reducible refine (nam3 w0 _ b _ _ _ _ _ _ H1.out HT.out HZ1.out rfl hsm.out.role hsm.out.schema hsm.out.table).mono ?_);rintro e w2 h;rw [HQ1.out] at h;obtain ⟨rfl,h⟩:=h;have r:=HM0.out _ _ h;have yb1b0:=r.1;have y1b0c0:=r.cell (j:=0) rfl;have y1b0c5:=r.cell (j:=5) rfl;have y1b0c6:=r.cell (j:=6) rfl;have y1b0c7:=r.cell (j:=7) rfl;have y1b0c8:=r.cell (j:=8) rfl;have y1b0c4:=r.cell (j:=4) rfl;clear r;have H2:=gH h;clear h)
     | (go_at_call 91;(with_reducible refine (nam1 w0 _ b _ _ _ _ H2.out HT.out HZ2.out rfl hsm.out.col).mono ?_);rintro e w3 h;rw [HQ2.out] at h;obtain ⟨rfl,h⟩:=h;have r:=HM0.out _ _ h;have yb2b0:=r.1;have y2b0c6:=r.cell (j:=6) rfl;have y2b0c7:=r.cell (j:=7) rfl;have y2b0c8:=r.cell (j:=8) rfl;have y2b0c4:=r.cell (j:=4) rfl;clear r;have H3:=gH h;clear h)
     | (go_at_call 96;(with_reducible refine (val1 w0 _ b _ _ _ _ H3.out HT.out HZ3.out rfl hsm.out.text).mono ?_);rintro e w4 h;rw [HQ3.out] at h;obtain ⟨he,h⟩:=h;have H4:=gH h;clear h;unfold NoL at he;subst he))
    rw [HS.out]
    exact ⟨rfl,rfl,H4.out⟩
   ·have HZ4:=gH (show (L++[(⟨#[114,101,109,111,118,101]⟩:ByteArray)]++[r.role,r.schema,r.table]++[r.col]++List.map valT [r.v]).length+r.row.length≤50000 from by (try simp only [List.length_append,List.length_cons,List.length_nil,List.length_map]);omega)
    rcases vals_cases r.row with q4 | q4<;>have HQ4:=gH q4<;>clear q4
    ·have HS:=gH (show rowL r=none from by simp [rowL,andL,HK.out,HE.out,b_remove,HQ1.out,HQ2.out,HQ3.out,HQ4.out])
     go_enter Tryz.func64,Tryz.ntmps64
     go_wp2_with (first
      | (go_at_call 61;(with_reducible refine (lay2 w0 _ b _ _ _ _ H0.out HZ0.out HE0.out).mono ?_);rintro e w1 ⟨rfl,h⟩;have r:=HM0.out _ _ h;have yb0b0:=r.1;have y0b0c1:=r.cell (j:=1) rfl;have y0b0c2:=r.cell (j:=2) rfl;have y0b0c3:=r.cell (j:=3) rfl;clear r;have H1:=gH h;clear h)
      | (go_at_call 91;(with_reducible refine (nam3 w0 _ b _ _ _ _ _ _ H1.out HT.out HZ1.out rfl hsm.out.role hsm.out.schema hsm.out.table).mono ?_);rintro e w2 h;rw [HQ1.out] at h;obtain ⟨rfl,h⟩:=h;have r:=HM0.out _ _ h;have yb1b0:=r.1;have y1b0c0:=r.cell (j:=0) rfl;have y1b0c5:=r.cell (j:=5) rfl;have y1b0c6:=r.cell (j:=6) rfl;have y1b0c7:=r.cell (j:=7) rfl;have y1b0c8:=r.cell (j:=8) rfl;have y1b0c4:=r.cell (j:=4) rfl;clear r;have H2:=gH h;clear h)
      | (go_at_call 91;(with_reducible refine (nam1 w0 _ b _ _ _ _ H2.out HT.out HZ2.out rfl hsm.out.col).mono ?_);rintro e w3 h;rw [HQ2.out] at h;obtain ⟨rfl,h⟩:=h;have r:=HM0.out _ _ h;have yb2b0:=r.1;have y2b0c6:=r.cell (j:=6) rfl;have y2b0c7:=r.cell (j:=7) rfl;have y2b0c8:=r.cell (j:=8) rfl;have y2b0c4:=r.cell (j:=4) rfl;clear r;have H3:=gH h;clear h)
      | (go_at_call 96;(with_reducible refine (val1 w0 _ b _ _ _ _ H3.out HT.out HZ3.out rfl hsm.out.text).mono ?_);rintro e w4 h;rw [HQ3.out] at h;obtain ⟨rfl,h⟩:=h;have r:=HM0.out _ _ h;have yb3b0:=r.1;have y3b0c4:=r.cell (j:=4) rfl;clear r;have H4:=gH h;clear h)
      | (go_at_call 96;(with_reducible refine (values_in w0 _ b _ r.row A3 k3 _ H4.out (fun L' V h=>vals_aft h.aft HV.out) HT.out HZ4.out).mono ?_);rintro e w5 h;rw [HQ4.out] at h;obtain ⟨he,h⟩:=h;have H5:=gH h;clear h;unfold NoL at he;subst he))
     rw [HS.out]
     exact ⟨rfl,rfl,H5.out⟩
    ·have HS:=gH (show rowL r=some ([(⟨#[114,101,109,111,118,101]⟩:ByteArray)]++([r.role,r.schema,r.table]++([r.col]++(List.map valT [r.v]++(List.map valT r.row))))) from by simp [rowL,andL,HK.out,HE.out,b_remove,HQ1.out,HQ2.out,HQ3.out,HQ4.out])
     go_enter Tryz.func64,Tryz.ntmps64
     go_wp2_with (first
      | (go_at_call 61;(with_reducible refine (lay2 w0 _ b _ _ _ _ H0.out HZ0.out HE0.out).mono ?_);rintro e w1 ⟨rfl,h⟩;have r:=HM0.out _ _ h;have yb0b0:=r.1;have y0b0c1:=r.cell (j:=1) rfl;have y0b0c2:=r.cell (j:=2) rfl;have y0b0c3:=r.cell (j:=3) rfl;clear r;have H1:=gH h;clear h)
      | (go_at_call 91;(with_reducible refine (nam3 w0 _ b _ _ _ _ _ _ H1.out HT.out HZ1.out rfl hsm.out.role hsm.out.schema hsm.out.table).mono ?_);rintro e w2 h;rw [HQ1.out] at h;obtain ⟨rfl,h⟩:=h;have r:=HM0.out _ _ h;have yb1b0:=r.1;have y1b0c0:=r.cell (j:=0) rfl;have y1b0c5:=r.cell (j:=5) rfl;have y1b0c6:=r.cell (j:=6) rfl;have y1b0c7:=r.cell (j:=7) rfl;have y1b0c8:=r.cell (j:=8) rfl;have y1b0c4:=r.cell (j:=4) rfl;clear r;have H2:=gH h;clear h)
      | (go_at_call 91;(with_reducible refine (nam1 w0 _ b _ _ _ _ H2.out HT.out HZ2.out rfl hsm.out.col).mono ?_);rintro e w3 h;rw [HQ2.out] at h;obtain ⟨rfl,h⟩:=h;have r:=HM0.out _ _ h;have yb2b0:=r.1;have y2b0c6:=r.cell (j:=6) rfl;have y2b0c7:=r.cell (j:=7) rfl;have y2b0c8:=r.cell (j:=8) rfl;have y2b0c4:=r.cell (j:=4) rfl;clear r;have H3:=gH h;clear h)
      | (go_at_call 96;(with_reducible refine (val1 w0 _ b _ _ _ _ H3.out HT.out HZ3.out rfl hsm.out.text).mono ?_);rintro e w4 h;rw [HQ3.out] at h;obtain ⟨rfl,h⟩:=h;have r:=HM0.out _ _ h;have yb3b0:=r.1;have y3b0c4:=r.cell (j:=4) rfl;clear r;have H4:=gH h;clear h)
      | (go_at_call 96;(with_reducible refine (values_in w0 _ b _ r.row A3 k3 _ H4.out (fun L' V h=>vals_aft h.aft HV.out) HT.out HZ4.out).mono ?_);rintro e w5 h;rw [HQ4.out] at h;obtain ⟨rfl,h⟩:=h;have H5:=gH h;clear h))
     go_end0
     rw [HS.out]
     exact ⟨rfl,LyS.conv (by first | (simp only [List.append_assoc];rfl) | simp only [List.append_assoc]) H5.out.pop⟩
theorem row_k2n (w0:World) (Q:List (Nat × Obj)) (b:Nat) (L:Ws) (r:ROp) (A3:Option Addr) (k3:Nat) (w:World) (h:LyS w0 Q b L w) (ht:TabW w0) (sm:SmO r) (hn:L.length≤100) (hv:SlAt w0 3 ValR A3 k3 r.row) (hlr:r.row.length≤4100) (hk:r.kind=2) (hc:eqS r.col zBy=true) :
  Calls Tryz.prog 64 #[.pointer (some ⟨b,0,none⟩),.agg #[.int .i64 r.kind,.string r.role,.string r.schema,.string r.table,.slice A3 r.row.length k3,.string r.col,.int .i64 r.v.kind,.int .i64 r.v.int,.string r.v.text]] w (LyQ w0 Q b L (rowL r)):=by
 have b1:(r.kind==1)=false:=by simp [hk]
 have b1n:(r.kind != 1)=true:=by simp [hk]
 have b2:(r.kind==2)=true:=by simp [hk]
 have HK:=gH hk
 clear hk
 have e1:r.col.toList.isEmpty=true:=(isEmp_eqS r.col).trans hc
 have HE:=gH hc
 clear hc
 have HT:=gH ht
 have hsm:=gH sm
 have HV:=gH hv
 clear ht sm hv
 obtain ⟨h0,hm0,he0⟩:=box1 h [.int .i64 r.kind,.string r.role,.string r.schema,.string r.table,.slice A3 r.row.length k3,.string r.col,.int .i64 r.v.kind,.int .i64 r.v.int,.string r.v.text] 41
 have H0:=gH h0
 have HE0:=gH he0
 have HM0:=gH hm0
 clear h h0 he0 hm0
 have HZ0:=gH (show (L).length≤40000 from by (try simp only [List.length_append,List.length_cons,List.length_nil,List.length_map]);omega)
 have HZ1:=gH (show (L++[(⟨#[114,101,109,111,118,101]⟩:ByteArray)]).length≤45000 from by (try simp only [List.length_append,List.length_cons,List.length_nil,List.length_map]);omega)
 rcases nms_cases [r.role,r.schema,r.table] with q1 | q1<;>have HQ1:=gH q1<;>clear q1
 ·have HS:=gH (show rowL r=none from by simp [rowL,andL,HK.out,HE.out,b_remove,HQ1.out])
  go_enter Tryz.func64,Tryz.ntmps64
  go_wp2_with (first
   | (go_at_call 61;(with_reducible refine (lay2 w0 _ b _ _ _ _ H0.out HZ0.out HE0.out).mono ?_);rintro e w1 ⟨rfl,h⟩;have r:=HM0.out _ _ h;have yb0b0:=r.1;have y0b0c1:=r.cell (j:=1) rfl;have y0b0c2:=r.cell (j:=2) rfl;have y0b0c3:=r.cell (j:=3) rfl;clear r;have H1:=gH h;clear h)
   | (go_at_call 91;(with_reducible refine (nam3 w0 _ b _ _ _ _ _ _ H1.out HT.out HZ1.out rfl hsm.out.role hsm.out.schema hsm.out.table).mono ?_);rintro e w2 h;rw [HQ1.out] at h;obtain ⟨he,h⟩:=h;have H2:=gH h;clear h;unfold NoL at he;subst he))
  rw [HS.out]
  exact ⟨rfl,rfl,H2.out⟩
 ·have HZ2:=gH (show (L++[(⟨#[114,101,109,111,118,101]⟩:ByteArray)]++[r.role,r.schema,r.table]).length+r.row.length≤50000 from by (try simp only [List.length_append,List.length_cons,List.length_nil,List.length_map]);omega)
  rcases vals_cases r.row with q2 | q2<;>have HQ2:=gH q2<;>clear q2
  ·have HS:=gH (show rowL r=none from by simp [rowL,andL,HK.out,HE.out,b_remove,HQ1.out,HQ2.out])
   go_enter Tryz.func64,Tryz.ntmps64
   go_wp2_with (first
    | (go_at_call 61;(with_reducible refine (lay2 w0 _ b _ _ _ _ H0.out HZ0.out HE0.out).mono ?_);rintro e w1 ⟨rfl,h⟩;have r:=HM0.out _ _ h;have yb0b0:=r.1;have y0b0c1:=r.cell (j:=1) rfl;have y0b0c2:=r.cell (j:=2) rfl;have y0b0c3:=r.cell (j:=3) rfl;clear r;have H1:=gH h;clear h)
    | (go_at_call 91;(with_reducible refine (nam3 w0 _ b _ _ _ _ _ _ H1.out HT.out HZ1.out rfl hsm.out.role hsm.out.schema hsm.out.table).mono ?_);rintro e w2 h;rw [HQ1.out] at h;obtain ⟨rfl,h⟩:=h;have r:=HM0.out _ _ h;have yb1b0:=r.1;have y1b0c0:=r.cell (j:=0) rfl;have y1b0c5:=r.cell (j:=5) rfl;have y1b0c6:=r.cell (j:=6) rfl;have y1b0c7:=r.cell (j:=7) rfl;have y1b0c8:=r.cell (j:=8) rfl;have y1b0c4:=r.cell (j:=4) rfl;clear r;have H2:=gH h;clear h)
    | (go_at_call 96;(with_reducible refine (values_in w0 _ b _ r.row A3 k3 _ H2.out (fun L' V h=>vals_aft h.aft HV.out) HT.out HZ2.out).mono ?_);rintro e w3 h;rw [HQ2.out] at h;obtain ⟨he,h⟩:=h;have H3:=gH h;clear h;unfold NoL at he;subst he))
   rw [HS.out]
   exact ⟨rfl,rfl,H3.out⟩
  ·have HS:=gH (show rowL r=some ([(⟨#[114,101,109,111,118,101]⟩:ByteArray)]++([r.role,r.schema,r.table]++(List.map valT r.row))) from by simp [rowL,andL,HK.out,HE.out,b_remove,HQ1.out,HQ2.out])
   go_enter Tryz.func64,Tryz.ntmps64
   go_wp2_with (first
    | (go_at_call 61;(with_reducible refine (lay2 w0 _ b _ _ _ _ H0.out HZ0.out HE0.out).mono ?_);rintro e w1 ⟨rfl,h⟩;have r:=HM0.out _ _ h;have yb0b0:=r.1;have y0b0c1:=r.cell (j:=1) rfl;have y0b0c2:=r.cell (j:=2) rfl;have y0b0c3:=r.cell (j:=3) rfl;clear r;have H1:=gH h;clear h)
    | (go_at_call 91;(with_reducible refine (nam3 w0 _ b _ _ _ _ _ _ H1.out HT.out HZ1.out rfl hsm.out.role hsm.out.schema hsm.out.table).mono ?_);rintro e w2 h;rw [HQ1.out] at h;obtain ⟨rfl,h⟩:=h;have r:=HM0.out _ _ h;have yb1b0:=r.1;have y1b0c0:=r.cell (j:=0) rfl;have y1b0c5:=r.cell (j:=5) rfl;have y1b0c6:=r.cell (j:=6) rfl;have y1b0c7:=r.cell (j:=7) rfl;have y1b0c8:=r.cell (j:=8) rfl;have y1b0c4:=r.cell (j:=4) rfl;clear r;have H2:=gH h;clear h)
    | (go_at_call 96;(with_reducible refine (values_in w0 _ b _ r.row A3 k3 _ H2.out (fun L' V h=>vals_aft h.aft HV.out) HT.out HZ2.out).mono ?_);rintro e w3 h;rw [HQ2.out] at h;obtain ⟨rfl,h⟩:=h;have H3:=gH h;clear h))
   go_end0
   rw [HS.out]
   exact ⟨rfl,LyS.conv (by first | (simp only [List.append_assoc];rfl) | simp only [List.append_assoc]) H3.out.pop⟩
theorem row_k3c (w0:World) (Q:List (Nat × Obj)) (b:Nat) (L:Ws) (r:ROp) (A3:Option Addr) (k3:Nat) (w:World) (h:LyS w0 Q b L w) (ht:TabW w0) (sm:SmO r) (hn:L.length≤100) (hv:SlAt w0 3 ValR A3 k3 r.row) (hlr:r.row.length≤4100) (hk:r.kind≠1) (hk2:r.kind≠2) (hc:eqS r.col zBy=false) :
  Calls Tryz.prog 64 #[.pointer (some ⟨b,0,none⟩),.agg #[.int .i64 r.kind,.string r.role,.string r.schema,.string r.table,.slice A3 r.row.length k3,.string r.col,.int .i64 r.v.kind,.int .i64 r.v.int,.string r.v.text]] w (LyQ w0 Q b L (rowL r)):=by
 have b1:(r.kind==1)=false:=by simp [hk]
 have b1n:(r.kind != 1)=true:=by simp [hk]
 have b2:(r.kind==2)=false:=by simp [hk2]
 have HK:=gH hk
 have HK2:=gH hk2
 clear hk hk2
 have e1:r.col.toList.isEmpty=false:=(isEmp_eqS r.col).trans hc
 have HE:=gH hc
 clear hc
 have HT:=gH ht
 have hsm:=gH sm
 have HV:=gH hv
 clear ht sm hv
 obtain ⟨h0,hm0,he0⟩:=box1 h [.int .i64 r.kind,.string r.role,.string r.schema,.string r.table,.slice A3 r.row.length k3,.string r.col,.int .i64 r.v.kind,.int .i64 r.v.int,.string r.v.text] 41
 have H0:=gH h0
 have HE0:=gH he0
 have HM0:=gH hm0
 clear h h0 he0 hm0
 have HZ0:=gH (show (L).length≤40000 from by (try simp only [List.length_append,List.length_cons,List.length_nil,List.length_map]);omega)
 have HZ1:=gH (show (L++[(⟨#[115,101,108,101,99,116]⟩:ByteArray)]).length≤45000 from by (try simp only [List.length_append,List.length_cons,List.length_nil,List.length_map]);omega)
 rcases nms_cases [r.role,r.schema,r.table] with q1 | q1<;>have HQ1:=gH q1<;>clear q1
 ·have HS:=gH (show rowL r=none from by simp [rowL,andL,HK.out,HK2.out,HE.out,b_select,HQ1.out])
  go_enter Tryz.func64,Tryz.ntmps64
  go_wp2_with (first
   | (go_at_call 61;(with_reducible refine (lay2 w0 _ b _ _ _ _ H0.out HZ0.out HE0.out).mono ?_);rintro e w1 ⟨rfl,h⟩;have r:=HM0.out _ _ h;have yb0b0:=r.1;have y0b0c1:=r.cell (j:=1) rfl;have y0b0c2:=r.cell (j:=2) rfl;have y0b0c3:=r.cell (j:=3) rfl;clear r;have H1:=gH h;clear h)
   | (go_at_call 91;(with_reducible refine (nam3 w0 _ b _ _ _ _ _ _ H1.out HT.out HZ1.out rfl hsm.out.role hsm.out.schema hsm.out.table).mono ?_);rintro e w2 h;rw [HQ1.out] at h;obtain ⟨he,h⟩:=h;have H2:=gH h;clear h;unfold NoL at he;subst he))
  rw [HS.out]
  exact ⟨rfl,rfl,H2.out⟩
 ·have HZ2:=gH (show (L++[(⟨#[115,101,108,101,99,116]⟩:ByteArray)]++[r.role,r.schema,r.table]).length≤45000 from by (try simp only [List.length_append,List.length_cons,List.length_nil,List.length_map]);omega)
  rcases nms_cases [r.col] with q2 | q2<;>have HQ2:=gH q2<;>clear q2
  ·have HS:=gH (show rowL r=none from by simp [rowL,andL,HK.out,HK2.out,HE.out,b_select,HQ1.out,HQ2.out])
   go_enter Tryz.func64,Tryz.ntmps64
   go_wp2_with (first
    | (go_at_call 61;(with_reducible refine (lay2 w0 _ b _ _ _ _ H0.out HZ0.out HE0.out).mono ?_);rintro e w1 ⟨rfl,h⟩;have r:=HM0.out _ _ h;have yb0b0:=r.1;have y0b0c1:=r.cell (j:=1) rfl;have y0b0c2:=r.cell (j:=2) rfl;have y0b0c3:=r.cell (j:=3) rfl;clear r;have H1:=gH h;clear h)
    | (go_at_call 91;(with_reducible refine (nam3 w0 _ b _ _ _ _ _ _ H1.out HT.out HZ1.out rfl hsm.out.role hsm.out.schema hsm.out.table).mono ?_);rintro e w2 h;rw [HQ1.out] at h;obtain ⟨rfl,h⟩:=h;have r:=HM0.out _ _ h;have yb1b0:=r.1;have y1b0c0:=r.cell (j:=0) rfl;have y1b0c5:=r.cell (j:=5) rfl;have y1b0c6:=r.cell (j:=6) rfl;have y1b0c7:=r.cell (j:=7) rfl;have y1b0c8:=r.cell (j:=8) rfl;have y1b0c4:=r.cell (j:=4) rfl;clear r;have H2:=gH h;clear h)
    | (go_at_call 91;(with_reducible refine (nam1 w0 _ b _ _ _ _ H2.out HT.out HZ2.out rfl hsm.out.col).mono ?_);rintro e w3 h;rw [HQ2.out] at h;obtain ⟨he,h⟩:=h;have H3:=gH h;clear h;unfold NoL at he;subst he))
   rw [HS.out]
   exact ⟨rfl,rfl,H3.out⟩
  ·have HZ3:=gH (show (L++[(⟨#[115,101,108,101,99,116]⟩:ByteArray)]++[r.role,r.schema,r.table]++[r.col]).length≤45000 from by (try simp only [List.length_append,List.length_cons,List.length_nil,List.length_map]);omega)
   rcases vals_cases [r.v] with q3 | q3<;>have HQ3:=gH q3<;>clear q3
   ·have HS:=gH (show rowL r=none from by simp [rowL,andL,HK.out,HK2.out,HE.out,b_select,HQ1.out,HQ2.out,HQ3.out])
    go_enter Tryz.func64,Tryz.ntmps64
    go_wp2_with (first
     | (go_at_call 61;(with_reducible refine (lay2 w0 _ b _ _ _ _ H0.out HZ0.out HE0.out).mono ?_);rintro e w1 ⟨rfl,h⟩;have r:=HM0.out _ _ h;have yb0b0:=r.1;have y0b0c1:=r.cell (j:=1) rfl;have y0b0c2:=r.cell (j:=2) rfl;have y0b0c3:=r.cell (j:=3) rfl;clear r;have H1:=gH h;clear h)
     | (go_at_call 91;(with_reducible refine (nam3 w0 _ b _ _ _ _ _ _ H1.out HT.out HZ1.out rfl hsm.out.role hsm.out.schema hsm.out.table).mono ?_);rintro e w2 h;rw [HQ1.out] at h;obtain ⟨rfl,h⟩:=h;have r:=HM0.out _ _ h;have yb1b0:=r.1;have y1b0c0:=r.cell (j:=0) rfl;have y1b0c5:=r.cell (j:=5) rfl;have y1b0c6:=r.cell (j:=6) rfl;have y1b0c7:=r.cell (j:=7) rfl;have y1b0c8:=r.cell (j:=8) rfl;have y1b0c4:=r.cell (j:=4) rfl;clear r;have H2:=gH h;clear h)
     | (go_at_call 91;(with_reducible refine (nam1 w0 _ b _ _ _ _ H2.out HT.out HZ2.out rfl hsm.out.col).mono ?_);rintro e w3 h;rw [HQ2.out] at h;obtain ⟨rfl,h⟩:=h;have r:=HM0.out _ _ h;have yb2b0:=r.1;have y2b0c6:=r.cell (j:=6) rfl;have y2b0c7:=r.cell (j:=7) rfl;have y2b0c8:=r.cell (j:=8) rfl;have y2b0c4:=r.cell (j:=4) rfl;clear r;have H3:=gH h;clear h)
     | (go_at_call 96;(with_reducible refine (val1 w0 _ b _ _ _ _ H3.out HT.out HZ3.out rfl hsm.out.text).mono ?_);rintro e w4 h;rw [HQ3.out] at h;obtain ⟨he,h⟩:=h;have H4:=gH h;clear h;unfold NoL at he;subst he))
    rw [HS.out]
    exact ⟨rfl,rfl,H4.out⟩
   ·have HZ4:=gH (show (L++[(⟨#[115,101,108,101,99,116]⟩:ByteArray)]++[r.role,r.schema,r.table]++[r.col]++List.map valT [r.v]).length+r.row.length≤50000 from by (try simp only [List.length_append,List.length_cons,List.length_nil,List.length_map]);omega)
    rcases vals_cases r.row with q4 | q4<;>have HQ4:=gH q4<;>clear q4
    ·have HS:=gH (show rowL r=none from by simp [rowL,andL,HK.out,HK2.out,HE.out,b_select,HQ1.out,HQ2.out,HQ3.out,HQ4.out])
     go_enter Tryz.func64,Tryz.ntmps64
     go_wp2_with (first
      | (go_at_call 61;(with_reducible refine (lay2 w0 _ b _ _ _ _ H0.out HZ0.out HE0.out).mono ?_);rintro e w1 ⟨rfl,h⟩;have r:=HM0.out _ _ h;have yb0b0:=r.1;have y0b0c1:=r.cell (j:=1) rfl;have y0b0c2:=r.cell (j:=2) rfl;have y0b0c3:=r.cell (j:=3) rfl;clear r;have H1:=gH h;clear h)
      | (go_at_call 91;(with_reducible refine (nam3 w0 _ b _ _ _ _ _ _ H1.out HT.out HZ1.out rfl hsm.out.role hsm.out.schema hsm.out.table).mono ?_);rintro e w2 h;rw [HQ1.out] at h;obtain ⟨rfl,h⟩:=h;have r:=HM0.out _ _ h;have yb1b0:=r.1;have y1b0c0:=r.cell (j:=0) rfl;have y1b0c5:=r.cell (j:=5) rfl;have y1b0c6:=r.cell (j:=6) rfl;have y1b0c7:=r.cell (j:=7) rfl;have y1b0c8:=r.cell (j:=8) rfl;have y1b0c4:=r.cell (j:=4) rfl;clear r;have H2:=gH h;clear h)
      | (go_at_call 91;(with_reducible refine (nam1 w0 _ b _ _ _ _ H2.out HT.out HZ2.out rfl hsm.out.col).mono ?_);rintro e w3 h;rw [HQ2.out] at h;obtain ⟨rfl,h⟩:=h;have r:=HM0.out _ _ h;have yb2b0:=r.1;have y2b0c6:=r.cell (j:=6) rfl;have y2b0c7:=r.cell (j:=7) rfl;have y2b0c8:=r.cell (j:=8) rfl;have y2b0c4:=r.cell (j:=4) rfl;clear r;have H3:=gH h;clear h)
      | (go_at_call 96;(with_reducible refine (val1 w0 _ b _ _ _ _ H3.out HT.out HZ3.out rfl hsm.out.text).mono ?_);rintro e w4 h;rw [HQ3.out] at h;obtain ⟨rfl,h⟩:=h;have r:=HM0.out _ _ h;have yb3b0:=r.1;have y3b0c4:=r.cell (j:=4) rfl;clear r;have H4:=gH h;clear h)
      | (go_at_call 96;(with_reducible refine (values_in w0 _ b _ r.row A3 k3 _ H4.out (fun L' V h=>vals_aft h.aft HV.out) HT.out HZ4.out).mono ?_);rintro e w5 h;rw [HQ4.out] at h;obtain ⟨he,h⟩:=h;have H5:=gH h;clear h;unfold NoL at he;subst he))
     rw [HS.out]
     exact ⟨rfl,rfl,H5.out⟩
    ·have HS:=gH (show rowL r=some ([(⟨#[115,101,108,101,99,116]⟩:ByteArray)]++([r.role,r.schema,r.table]++([r.col]++(List.map valT [r.v]++(List.map valT r.row))))) from by simp [rowL,andL,HK.out,HK2.out,HE.out,b_select,HQ1.out,HQ2.out,HQ3.out,HQ4.out])
     go_enter Tryz.func64,Tryz.ntmps64
     go_wp2_with (first
      | (go_at_call 61;(with_reducible refine (lay2 w0 _ b _ _ _ _ H0.out HZ0.out HE0.out).mono ?_);rintro e w1 ⟨rfl,h⟩;have r:=HM0.out _ _ h;have yb0b0:=r.1;have y0b0c1:=r.cell (j:=1) rfl;have y0b0c2:=r.cell (j:=2) rfl;have y0b0c3:=r.cell (j:=3) rfl;clear r;have H1:=gH h;clear h)
      | (go_at_call 91;(with_reducible refine (nam3 w0 _ b _ _ _ _ _ _ H1.out HT.out HZ1.out rfl hsm.out.role hsm.out.schema hsm.out.table).mono ?_);rintro e w2 h;rw [HQ1.out] at h;obtain ⟨rfl,h⟩:=h;have r:=HM0.out _ _ h;have yb1b0:=r.1;have y1b0c0:=r.cell (j:=0) rfl;have y1b0c5:=r.cell (j:=5) rfl;have y1b0c6:=r.cell (j:=6) rfl;have y1b0c7:=r.cell (j:=7) rfl;have y1b0c8:=r.cell (j:=8) rfl;have y1b0c4:=r.cell (j:=4) rfl;clear r;have H2:=gH h;clear h)
      | (go_at_call 91;(with_reducible refine (nam1 w0 _ b _ _ _ _ H2.out HT.out HZ2.out rfl hsm.out.col).mono ?_);rintro e w3 h;rw [HQ2.out] at h;obtain ⟨rfl,h⟩:=h;have r:=HM0.out _ _ h;have yb2b0:=r.1;have y2b0c6:=r.cell (j:=6) rfl;have y2b0c7:=r.cell (j:=7) rfl;have y2b0c8:=r.cell (j:=8) rfl;have y2b0c4:=r.cell (j:=4) rfl;clear r;have H3:=gH h;clear h)
      | (go_at_call 96;(with_reducible refine (val1 w0 _ b _ _ _ _ H3.out HT.out HZ3.out rfl hsm.out.text).mono ?_);rintro e w4 h;rw [HQ3.out] at h;obtain ⟨rfl,h⟩:=h;have r:=HM0.out _ _ h;have yb3b0:=r.1;have y3b0c4:=r.cell (j:=4) rfl;clear r;have H4:=gH h;clear h)
      | (go_at_call 96;(with_reducible refine (values_in w0 _ b _ r.row A3 k3 _ H4.out (fun L' V h=>vals_aft h.aft HV.out) HT.out HZ4.out).mono ?_);rintro e w5 h;rw [HQ4.out] at h;obtain ⟨rfl,h⟩:=h;have H5:=gH h;clear h))
     go_end0
     rw [HS.out]
     exact ⟨rfl,LyS.conv (by first | (simp only [List.append_assoc];rfl) | simp only [List.append_assoc]) H5.out.pop⟩
theorem row_k3n (w0:World) (Q:List (Nat × Obj)) (b:Nat) (L:Ws) (r:ROp) (A3:Option Addr) (k3:Nat) (w:World) (h:LyS w0 Q b L w) (ht:TabW w0) (sm:SmO r) (hn:L.length≤100) (hv:SlAt w0 3 ValR A3 k3 r.row) (hlr:r.row.length≤4100) (hk:r.kind≠1) (hk2:r.kind≠2) (hc:eqS r.col zBy=true) :
  Calls Tryz.prog 64 #[.pointer (some ⟨b,0,none⟩),.agg #[.int .i64 r.kind,.string r.role,.string r.schema,.string r.table,.slice A3 r.row.length k3,.string r.col,.int .i64 r.v.kind,.int .i64 r.v.int,.string r.v.text]] w (LyQ w0 Q b L (rowL r)):=by
 have b1:(r.kind==1)=false:=by simp [hk]
 have b1n:(r.kind != 1)=true:=by simp [hk]
 have b2:(r.kind==2)=false:=by simp [hk2]
 have HK:=gH hk
 have HK2:=gH hk2
 clear hk hk2
 have e1:r.col.toList.isEmpty=true:=(isEmp_eqS r.col).trans hc
 have HE:=gH hc
 clear hc
 have HT:=gH ht
 have hsm:=gH sm
 have HV:=gH hv
 clear ht sm hv
 obtain ⟨h0,hm0,he0⟩:=box1 h [.int .i64 r.kind,.string r.role,.string r.schema,.string r.table,.slice A3 r.row.length k3,.string r.col,.int .i64 r.v.kind,.int .i64 r.v.int,.string r.v.text] 41
 have H0:=gH h0
 have HE0:=gH he0
 have HM0:=gH hm0
 clear h h0 he0 hm0
 have HZ0:=gH (show (L).length≤40000 from by (try simp only [List.length_append,List.length_cons,List.length_nil,List.length_map]);omega)
 have HZ1:=gH (show (L++[(⟨#[115,101,108,101,99,116]⟩:ByteArray)]).length≤45000 from by (try simp only [List.length_append,List.length_cons,List.length_nil,List.length_map]);omega)
 rcases nms_cases [r.role,r.schema,r.table] with q1 | q1<;>have HQ1:=gH q1<;>clear q1
 ·have HS:=gH (show rowL r=none from by simp [rowL,andL,HK.out,HK2.out,HE.out,b_select,HQ1.out])
  go_enter Tryz.func64,Tryz.ntmps64
  go_wp2_with (first
   | (go_at_call 61;(with_reducible refine (lay2 w0 _ b _ _ _ _ H0.out HZ0.out HE0.out).mono ?_);rintro e w1 ⟨rfl,h⟩;have r:=HM0.out _ _ h;have yb0b0:=r.1;have y0b0c1:=r.cell (j:=1) rfl;have y0b0c2:=r.cell (j:=2) rfl;have y0b0c3:=r.cell (j:=3) rfl;clear r;have H1:=gH h;clear h)
   | (go_at_call 91;(with_reducible refine (nam3 w0 _ b _ _ _ _ _ _ H1.out HT.out HZ1.out rfl hsm.out.role hsm.out.schema hsm.out.table).mono ?_);rintro e w2 h;rw [HQ1.out] at h;obtain ⟨he,h⟩:=h;have H2:=gH h;clear h;unfold NoL at he;subst he))
  rw [HS.out]
  exact ⟨rfl,rfl,H2.out⟩
 ·have HZ2:=gH (show (L++[(⟨#[115,101,108,101,99,116]⟩:ByteArray)]++[r.role,r.schema,r.table]).length+r.row.length≤50000 from by (try simp only [List.length_append,List.length_cons,List.length_nil,List.length_map]);omega)
  rcases vals_cases r.row with q2 | q2<;>have HQ2:=gH q2<;>clear q2
  ·have HS:=gH (show rowL r=none from by simp [rowL,andL,HK.out,HK2.out,HE.out,b_select,HQ1.out,HQ2.out])
   go_enter Tryz.func64,Tryz.ntmps64
   go_wp2_with (first
    | (go_at_call 61;(with_reducible refine (lay2 w0 _ b _ _ _ _ H0.out HZ0.out HE0.out).mono ?_);rintro e w1 ⟨rfl,h⟩;have r:=HM0.out _ _ h;have yb0b0:=r.1;have y0b0c1:=r.cell (j:=1) rfl;have y0b0c2:=r.cell (j:=2) rfl;have y0b0c3:=r.cell (j:=3) rfl;clear r;have H1:=gH h;clear h)
    | (go_at_call 91;(with_reducible refine (nam3 w0 _ b _ _ _ _ _ _ H1.out HT.out HZ1.out rfl hsm.out.role hsm.out.schema hsm.out.table).mono ?_);rintro e w2 h;rw [HQ1.out] at h;obtain ⟨rfl,h⟩:=h;have r:=HM0.out _ _ h;have yb1b0:=r.1;have y1b0c0:=r.cell (j:=0) rfl;have y1b0c5:=r.cell (j:=5) rfl;have y1b0c6:=r.cell (j:=6) rfl;have y1b0c7:=r.cell (j:=7) rfl;have y1b0c8:=r.cell (j:=8) rfl;have y1b0c4:=r.cell (j:=4) rfl;clear r;have H2:=gH h;clear h)
    | (go_at_call 96;(with_reducible refine (values_in w0 _ b _ r.row A3 k3 _ H2.out (fun L' V h=>vals_aft h.aft HV.out) HT.out HZ2.out).mono ?_);rintro e w3 h;rw [HQ2.out] at h;obtain ⟨he,h⟩:=h;have H3:=gH h;clear h;unfold NoL at he;subst he))
   rw [HS.out]
   exact ⟨rfl,rfl,H3.out⟩
  ·have HS:=gH (show rowL r=some ([(⟨#[115,101,108,101,99,116]⟩:ByteArray)]++([r.role,r.schema,r.table]++(List.map valT r.row))) from by simp [rowL,andL,HK.out,HK2.out,HE.out,b_select,HQ1.out,HQ2.out])
   go_enter Tryz.func64,Tryz.ntmps64
   go_wp2_with (first
    | (go_at_call 61;(with_reducible refine (lay2 w0 _ b _ _ _ _ H0.out HZ0.out HE0.out).mono ?_);rintro e w1 ⟨rfl,h⟩;have r:=HM0.out _ _ h;have yb0b0:=r.1;have y0b0c1:=r.cell (j:=1) rfl;have y0b0c2:=r.cell (j:=2) rfl;have y0b0c3:=r.cell (j:=3) rfl;clear r;have H1:=gH h;clear h)
    | (go_at_call 91;(with_reducible refine (nam3 w0 _ b _ _ _ _ _ _ H1.out HT.out HZ1.out rfl hsm.out.role hsm.out.schema hsm.out.table).mono ?_);rintro e w2 h;rw [HQ1.out] at h;obtain ⟨rfl,h⟩:=h;have r:=HM0.out _ _ h;have yb1b0:=r.1;have y1b0c0:=r.cell (j:=0) rfl;have y1b0c5:=r.cell (j:=5) rfl;have y1b0c6:=r.cell (j:=6) rfl;have y1b0c7:=r.cell (j:=7) rfl;have y1b0c8:=r.cell (j:=8) rfl;have y1b0c4:=r.cell (j:=4) rfl;clear r;have H2:=gH h;clear h)
    | (go_at_call 96;(with_reducible refine (values_in w0 _ b _ r.row A3 k3 _ H2.out (fun L' V h=>vals_aft h.aft HV.out) HT.out HZ2.out).mono ?_);rintro e w3 h;rw [HQ2.out] at h;obtain ⟨rfl,h⟩:=h;have H3:=gH h;clear h))
   go_end0
   rw [HS.out]
   exact ⟨rfl,LyS.conv (by first | (simp only [List.append_assoc];rfl) | simp only [List.append_assoc]) H3.out.pop⟩
theorem row_in (w0:World) (Q:List (Nat × Obj)) (b:Nat) (L:Ws) (r:ROp) (A3:Option Addr) (k3:Nat) (w:World) (h:LyS w0 Q b L w) (ht:TabW w0) (sm:SmO r) (hn:L.length≤100) (hv:SlAt w0 3 ValR A3 k3 r.row) (hlr:r.row.length≤4100) :
  Calls Tryz.prog 64 #[.pointer (some ⟨b,0,none⟩),.agg #[.int .i64 r.kind,.string r.role,.string r.schema,.string r.table,.slice A3 r.row.length k3,.string r.col,.int .i64 r.v.kind,.int .i64 r.v.int,.string r.v.text]] w (LyQ w0 Q b L (rowL r)):=by
 by_cases h1:r.kind=1
 ·exact row_k1 w0 Q b L r A3 k3 w h ht sm hn hv hlr h1
 by_cases h2:r.kind=2
 ·cases hc:eqS r.col zBy
  ·exact row_k2c w0 Q b L r A3 k3 w h ht sm hn hv hlr h2 hc
  ·exact row_k2n w0 Q b L r A3 k3 w h ht sm hn hv hlr h2 hc
 ·cases hc:eqS r.col zBy
  ·exact row_k3c w0 Q b L r A3 k3 w h ht sm hn hv hlr h1 h2 hc
  ·exact row_k3n w0 Q b L r A3 k3 w h ht sm hn hv hlr h1 h2 hc
end Go.Proofs.YtbdanlipghhgpaaGreatDoor
