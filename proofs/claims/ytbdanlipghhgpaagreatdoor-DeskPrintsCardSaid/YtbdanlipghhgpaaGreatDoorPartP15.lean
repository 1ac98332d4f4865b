import Derived.Test.YtbdanlipghhgpaaGreatDoorPartP14
namespace Go.Proofs.YtbdanlipghhgpaaGreatDoor
open Go.RowKit Go.Deep
set_option maxRecDepth 100000
set_option linter.unusedVariables false
set_option maxHeartbeats 64000000
theorem andL_len {a b:Option Ws} {W:Ws} {n m:Nat} (h:andL a b=some W) (ha:∀ X,a=some X→X.length≤n) (hb:∀ X,b=some X→X.length≤m):W.length≤n+m:=by
 cases a with
 | none=>cases h
 | some X =>
  cases b with
  | none=>cases h
  | some Y =>
   cases h
   have:=ha X rfl
   have:=hb Y rfl
   simp;omega
theorem nms_len {l W:Ws} (h:nmsL l=some W):W.length≤l.length:=by
 rcases nms_cases l with q | q<;>rw [q] at h<;>cases h
 exact Nat.le_refl _
theorem nus_len {l:List Int} {W:Ws} (h:nusL l=some W):W.length≤l.length:=by
 rcases nus_cases l with q | q<;>rw [q] at h<;>cases h
 simp
theorem onTab_len {w:ByteArray} {x:Cmd} {W:Ws} (h:onTabL w x=some W):W.length≤4 :=
 andL_len (n:=1) (m:=3) h (fun X e=>by cases e;simp) (fun X e=>nms_len e)
theorem right_len {x:Cmd} {W:Ws} (h:rightL x=some W):W.length≤3 :=
 andL_len (n:=1) (m:=2) h (fun X e=>by cases e;simp) (fun X e=>andL_len (n:=1) (m:=1) e (fun Y e=>nms_len e) (fun Y e=>by cases e;split<;>simp))
theorem rule_len {x:Cmd} {W:Ws} (h:ruleL x=some W):W.length≤10+x.rule.cols.length:=by
 have:=andL_len (n:=1) (m:=9+x.rule.cols.length) h (fun X e=>by
  revert e
  split
  ·intro e;cases e;simp
  ·split
   ·intro e;cases e;simp
   ·split
    ·intro e;cases e;simp
    ·split
     ·intro e;cases e;simp
     ·intro e;cases e) (fun X e=>by
  have:=andL_len (n:=4) (m:=5+x.rule.cols.length) e (fun Y e=>nms_len e) (fun Y e=>by
   have:=andL_len (n:=3) (m:=2+x.rule.cols.length) e (fun Z e=>by
    revert e
    split
    ·intro e;exact nms_len e
    ·intro e;cases e;simp) (fun Z e=>by
    have:=andL_len (n:=x.rule.cols.length) (m:=2) e (fun U e=>nms_len e) (fun U e=>by
     revert e
     split
     ·intro e;exact nus_len e
     ·intro e;cases e;simp)
    omega)
   omega)
  omega)
 omega
theorem cmd_k1 (w0:World) (Q:List (Nat × Obj)) (b:Nat) (L:Ws) (x:Cmd) (A:Option Addr) (k:Nat) (A2:Option Addr) (k2:Nat) (w:World) (h:LyS w0 Q b L w) (ht:TabW w0) (sm:SmC x) (hn:L.length≤50) (hcc:SlAt w0 3 ColR A k x.cols) (hc:SlAt w0 1 StrR A2 k2 x.rule.cols) (hlc:x.cols.length≤4100) (hl:x.rule.cols.length≤4100) (hk:x.kind=1) :
  Calls Tryz.prog 63 #[.pointer (some ⟨b,0,none⟩),.agg #[.int .i64 x.kind,.string x.actor,.string x.schema,.string x.table,.string x.name,.string x.role,.slice A x.cols.length k,.string x.rule.name,.int .i64 x.rule.kind,.slice A2 x.rule.cols.length k2,.int .i64 x.rule.low,.int .i64 x.rule.high,.string x.rule.schema,.string x.rule.table,.string x.rule.key,.int .i64 x.right,.bool x.opt]] w (LyQ w0 Q b L (cmdL x)):=by
 have b1:(x.kind==1)=true:=by simp [hk]
 have b2:(x.kind==2)=false:=by simp [hk]
 have b3:(x.kind==3)=false:=by simp [hk]
 have b4:(x.kind==4)=false:=by simp [hk]
 have b5:(x.kind==5)=false:=by simp [hk]
 have b6:(x.kind==6)=false:=by simp [hk]
 have b7:(x.kind==7)=false:=by simp [hk]
 have b8:(x.kind==8)=false:=by simp [hk]
 have b9:(x.kind==9)=false:=by simp [hk]
 have b10:(x.kind==10)=false:=by simp [hk]
 have b11:(x.kind==11)=false:=by simp [hk]
 have b12:(x.kind==12)=false:=by simp [hk]
 have b13:(x.kind==13)=false:=by simp [hk]
 have b14:(x.kind==14)=false:=by simp [hk]
 have b15:(x.kind==15)=false:=by simp [hk]
 have HT:=gH ht
 have hsm:=gH sm
 have HC:=gH hc
 have HCC:=gH hcc
 clear ht sm hc hcc
 have HK:=gH hk
 clear hk
 obtain ⟨h0,hm0,he0⟩:=box1 h [.int .i64 x.kind,.string x.actor,.string x.schema,.string x.table,.string x.name,.string x.role,.slice A x.cols.length k,.string x.rule.name,.int .i64 x.rule.kind,.slice A2 x.rule.cols.length k2,.int .i64 x.rule.low,.int .i64 x.rule.high,.string x.rule.schema,.string x.rule.table,.string x.rule.key,.int .i64 x.right,.bool x.opt] 31
 have H0:=gH h0
 have HE0:=gH he0
 have HM0:=gH hm0
 clear h h0 he0 hm0
 have HZ0:=gH (show (L).length≤40000 from by (try simp only [List.length_append,List.length_cons,List.length_nil,List.length_map]);omega)
 have HZ1:=gH (show (L++[(⟨#[115,99,104,101,109,97]⟩:ByteArray)]).length≤45000 from by (try simp only [List.length_append,List.length_cons,List.length_nil,List.length_map]);omega)
 rcases nms_cases [x.actor,x.schema] with q1 | q1<;>have HQ1:=gH q1<;>clear q1
 ·have HS:=gH (show cmdL x=none from by simp [cmdL,andL,HK.out,b_schema,b_schema,HQ1.out])
  go_enter Tryz.func63,Tryz.ntmps63
  go_wp2_with (first
   | (go_at_call 61;(with_reducible refine (lay2 w0 _ b _ _ _ _ H0.out HZ0.out HE0.out).mono ?_);rintro e w1 ⟨rfl,h⟩;have r:=HM0.out _ _ h;have yb0b0:=r.1;have y0b0c1:=r.cell (j:=1) rfl;have y0b0c2:=r.cell (j:=2) rfl;clear r;have H1:=gH h;clear h)
   | (go_at_call 91;(with_reducible refine (nam2 w0 _ b _ _ _ _ _ H1.out HT.out HZ1.out rfl hsm.out.actor hsm.out.schema).mono ?_);rintro e w2 h;rw [HQ1.out] at h;obtain ⟨he,h⟩:=h;have H2:=gH h;clear h;unfold NoL at he;subst he))
  rw [HS.out]
  exact ⟨rfl,rfl,H2.out⟩
 ·have HS:=gH (show cmdL x=some ([(⟨#[115,99,104,101,109,97]⟩:ByteArray)]++([x.actor,x.schema])) from by simp [cmdL,andL,HK.out,b_schema,b_schema,HQ1.out])
  go_enter Tryz.func63,Tryz.ntmps63
  go_wp2_with (first
   | (go_at_call 61;(with_reducible refine (lay2 w0 _ b _ _ _ _ H0.out HZ0.out HE0.out).mono ?_);rintro e w1 ⟨rfl,h⟩;have r:=HM0.out _ _ h;have yb0b0:=r.1;have y0b0c1:=r.cell (j:=1) rfl;have y0b0c2:=r.cell (j:=2) rfl;clear r;have H1:=gH h;clear h)
   | (go_at_call 91;(with_reducible refine (nam2 w0 _ b _ _ _ _ _ H1.out HT.out HZ1.out rfl hsm.out.actor hsm.out.schema).mono ?_);rintro e w2 h;rw [HQ1.out] at h;obtain ⟨rfl,h⟩:=h;have H2:=gH h;clear h))
  go_end0
  rw [HS.out]
  exact ⟨rfl,LyS.conv (by first | (simp only [List.append_assoc];rfl) | simp only [List.append_assoc]) H2.out.pop⟩
theorem cmd_k2 (w0:World) (Q:List (Nat × Obj)) (b:Nat) (L:Ws) (x:Cmd) (A:Option Addr) (k:Nat) (A2:Option Addr) (k2:Nat) (w:World) (h:LyS w0 Q b L w) (ht:TabW w0) (sm:SmC x) (hn:L.length≤50) (hcc:SlAt w0 3 ColR A k x.cols) (hc:SlAt w0 1 StrR A2 k2 x.rule.cols) (hlc:x.cols.length≤4100) (hl:x.rule.cols.length≤4100) (hk:x.kind=2) :
  Calls Tryz.prog 63 #[.pointer (some ⟨b,0,none⟩),.agg #[.int .i64 x.kind,.string x.actor,.string x.schema,.string x.table,.string x.name,.string x.role,.slice A x.cols.length k,.string x.rule.name,.int .i64 x.rule.kind,.slice A2 x.rule.cols.length k2,.int .i64 x.rule.low,.int .i64 x.rule.high,.string x.rule.schema,.string x.rule.table,.string x.rule.key,.int .i64 x.right,.bool x.opt]] w (LyQ w0 Q b L (cmdL x)):=by
 have b1:(x.kind==1)=false:=by simp [hk]
 have b2:(x.kind==2)=true:=by simp [hk]
 have b3:(x.kind==3)=false:=by simp [hk]
 have b4:(x.kind==4)=false:=by simp [hk]
 have b5:(x.kind==5)=false:=by simp [hk]
 have b6:(x.kind==6)=false:=by simp [hk]
 have b7:(x.kind==7)=false:=by simp [hk]
 have b8:(x.kind==8)=false:=by simp [hk]
 have b9:(x.kind==9)=false:=by simp [hk]
 have b10:(x.kind==10)=false:=by simp [hk]
 have b11:(x.kind==11)=false:=by simp [hk]
 have b12:(x.kind==12)=false:=by simp [hk]
 have b13:(x.kind==13)=false:=by simp [hk]
 have b14:(x.kind==14)=false:=by simp [hk]
 have b15:(x.kind==15)=false:=by simp [hk]
 have HT:=gH ht
 have hsm:=gH sm
 have HC:=gH hc
 have HCC:=gH hcc
 clear ht sm hc hcc
 have HK:=gH hk
 clear hk
 obtain ⟨h0,hm0,he0⟩:=box1 h [.int .i64 x.kind,.string x.actor,.string x.schema,.string x.table,.string x.name,.string x.role,.slice A x.cols.length k,.string x.rule.name,.int .i64 x.rule.kind,.slice A2 x.rule.cols.length k2,.int .i64 x.rule.low,.int .i64 x.rule.high,.string x.rule.schema,.string x.rule.table,.string x.rule.key,.int .i64 x.right,.bool x.opt] 31
 have H0:=gH h0
 have HE0:=gH he0
 have HM0:=gH hm0
 clear h h0 he0 hm0
 have HZ0:=gH (show (L).length≤40000 from by (try simp only [List.length_append,List.length_cons,List.length_nil,List.length_map]);omega)
 have HZ1:=gH (show (L++[(⟨#[100,114,111,112,115,99,104,101,109,97]⟩:ByteArray)]).length≤45000 from by (try simp only [List.length_append,List.length_cons,List.length_nil,List.length_map]);omega)
 rcases nms_cases [x.actor,x.schema] with q1 | q1<;>have HQ1:=gH q1<;>clear q1
 ·have HS:=gH (show cmdL x=none from by simp [cmdL,andL,HK.out,b_dropschema,b_dropschema,HQ1.out])
  go_enter Tryz.func63,Tryz.ntmps63
  go_wp2_with (first
   | (go_at_call 61;(with_reducible refine (lay2 w0 _ b _ _ _ _ H0.out HZ0.out HE0.out).mono ?_);rintro e w1 ⟨rfl,h⟩;have r:=HM0.out _ _ h;have yb0b0:=r.1;have y0b0c1:=r.cell (j:=1) rfl;have y0b0c2:=r.cell (j:=2) rfl;clear r;have H1:=gH h;clear h)
   | (go_at_call 91;(with_reducible refine (nam2 w0 _ b _ _ _ _ _ H1.out HT.out HZ1.out rfl hsm.out.actor hsm.out.schema).mono ?_);rintro e w2 h;rw [HQ1.out] at h;obtain ⟨he,h⟩:=h;have H2:=gH h;clear h;unfold NoL at he;subst he))
  rw [HS.out]
  exact ⟨rfl,rfl,H2.out⟩
 ·have HS:=gH (show cmdL x=some ([(⟨#[100,114,111,112,115,99,104,101,109,97]⟩:ByteArray)]++([x.actor,x.schema])) from by simp [cmdL,andL,HK.out,b_dropschema,b_dropschema,HQ1.out])
  go_enter Tryz.func63,Tryz.ntmps63
  go_wp2_with (first
   | (go_at_call 61;(with_reducible refine (lay2 w0 _ b _ _ _ _ H0.out HZ0.out HE0.out).mono ?_);rintro e w1 ⟨rfl,h⟩;have r:=HM0.out _ _ h;have yb0b0:=r.1;have y0b0c1:=r.cell (j:=1) rfl;have y0b0c2:=r.cell (j:=2) rfl;clear r;have H1:=gH h;clear h)
   | (go_at_call 91;(with_reducible refine (nam2 w0 _ b _ _ _ _ _ H1.out HT.out HZ1.out rfl hsm.out.actor hsm.out.schema).mono ?_);rintro e w2 h;rw [HQ1.out] at h;obtain ⟨rfl,h⟩:=h;have H2:=gH h;clear h))
  go_end0
  rw [HS.out]
  exact ⟨rfl,LyS.conv (by first | (simp only [List.append_assoc];rfl) | simp only [List.append_assoc]) H2.out.pop⟩
theorem cmd_k3 (w0:World) (Q:List (Nat × Obj)) (b:Nat) (L:Ws) (x:Cmd) (A:Option Addr) (k:Nat) (A2:Option Addr) (k2:Nat) (w:World) (h:LyS w0 Q b L w) (ht:TabW w0) (sm:SmC x) (hn:L.length≤50) (hcc:SlAt w0 3 ColR A k x.cols) (hc:SlAt w0 1 StrR A2 k2 x.rule.cols) (hlc:x.cols.length≤4100) (hl:x.rule.cols.length≤4100) (hk:x.kind=3) :
  Calls Tryz.prog 63 #[.pointer (some ⟨b,0,none⟩),.agg #[.int .i64 x.kind,.string x.actor,.string x.schema,.string x.table,.string x.name,.string x.role,.slice A x.cols.length k,.string x.rule.name,.int .i64 x.rule.kind,.slice A2 x.rule.cols.length k2,.int .i64 x.rule.low,.int .i64 x.rule.high,.string x.rule.schema,.string x.rule.table,.string x.rule.key,.int .i64 x.right,.bool x.opt]] w (LyQ w0 Q b L (cmdL x)):=by
 have b1:(x.kind==1)=false:=by simp [hk]
 have b2:(x.kind==2)=false:=by simp [hk]
 have b3:(x.kind==3)=true:=by simp [hk]
 have b4:(x.kind==4)=false:=by simp [hk]
 have b5:(x.kind==5)=false:=by simp [hk]
 have b6:(x.kind==6)=false:=by simp [hk]
 have b7:(x.kind==7)=false:=by simp [hk]
 have b8:(x.kind==8)=false:=by simp [hk]
 have b9:(x.kind==9)=false:=by simp [hk]
 have b10:(x.kind==10)=false:=by simp [hk]
 have b11:(x.kind==11)=false:=by simp [hk]
 have b12:(x.kind==12)=false:=by simp [hk]
 have b13:(x.kind==13)=false:=by simp [hk]
 have b14:(x.kind==14)=false:=by simp [hk]
 have b15:(x.kind==15)=false:=by simp [hk]
 have HT:=gH ht
 have hsm:=gH sm
 have HC:=gH hc
 have HCC:=gH hcc
 clear ht sm hc hcc
 have HK:=gH hk
 clear hk
 obtain ⟨h0,hm0,he0⟩:=box1 h [.int .i64 x.kind,.string x.actor,.string x.schema,.string x.table,.string x.name,.string x.role,.slice A x.cols.length k,.string x.rule.name,.int .i64 x.rule.kind,.slice A2 x.rule.cols.length k2,.int .i64 x.rule.low,.int .i64 x.rule.high,.string x.rule.schema,.string x.rule.table,.string x.rule.key,.int .i64 x.right,.bool x.opt] 31
 have H0:=gH h0
 have HE0:=gH he0
 have HM0:=gH hm0
 clear h h0 he0 hm0
 have HZ0:=gH (show (L).length≤100 from by (try simp only [List.length_append,List.length_cons,List.length_nil,List.length_map]);omega)
 obtain ⟨o0,q0⟩:∃ o,onTabL (⟨#[116,97,98,108,101]⟩:ByteArray) x=o:=⟨_,rfl⟩
 have HQ0:=gH q0
 cases o0 with
 | none =>
  clear q0
  have HS:=gH (show cmdL x=none from by simp [cmdL,andL,HK.out,b_table,HQ0.out])
  go_enter Tryz.func63,Tryz.ntmps63
  go_wp2_with (first
   | (go_at_call 92;(with_reducible refine (onTab_in _ w0 _ b _ x A k A2 k2 _ H0.out HT.out hsm.out HZ0.out).mono ?_);rintro e w1 h;rw [HQ0.out] at h;obtain ⟨he,h⟩:=h;have H1:=gH h;clear h;unfold NoL at he;subst he))
  rw [HS.out]
  exact ⟨rfl,rfl,H1.out⟩
 | some W0 =>
  have hw0:=onTab_len q0
  clear q0
  have HZ1:=gH (show (L++W0).length+x.cols.length≤50000 from by (try simp only [List.length_append,List.length_cons,List.length_nil,List.length_map]);omega)
  rcases cols_cases x.cols with q1 | q1<;>have HQ1:=gH q1<;>clear q1
  ·have HS:=gH (show cmdL x=none from by simp [cmdL,andL,HK.out,b_table,HQ0.out,HQ1.out])
   go_enter Tryz.func63,Tryz.ntmps63
   go_wp2_with (first
    | (go_at_call 92;(with_reducible refine (onTab_in _ w0 _ b _ x A k A2 k2 _ H0.out HT.out hsm.out HZ0.out).mono ?_);rintro e w1 h;rw [HQ0.out] at h;obtain ⟨rfl,h⟩:=h;have r:=HM0.out _ _ h;have yb0b0:=r.1;have y0b0c6:=r.cell (j:=6) rfl;clear r;have H1:=gH h;clear h)
    | (go_at_call 93;(with_reducible refine (columns_in w0 _ b _ x.cols A k _ H1.out (fun L' V h=>cols_aft h.aft HCC.out) HT.out HZ1.out).mono ?_);rintro e w2 h;rw [HQ1.out] at h;obtain ⟨he,h⟩:=h;have H2:=gH h;clear h;unfold NoL at he;subst he))
   rw [HS.out]
   exact ⟨rfl,rfl,H2.out⟩
  ·have HS:=gH (show cmdL x=some (W0++(List.map colT x.cols)) from by simp [cmdL,andL,HK.out,b_table,HQ0.out,HQ1.out])
   go_enter Tryz.func63,Tryz.ntmps63
   go_wp2_with (first
    | (go_at_call 92;(with_reducible refine (onTab_in _ w0 _ b _ x A k A2 k2 _ H0.out HT.out hsm.out HZ0.out).mono ?_);rintro e w1 h;rw [HQ0.out] at h;obtain ⟨rfl,h⟩:=h;have r:=HM0.out _ _ h;have yb0b0:=r.1;have y0b0c6:=r.cell (j:=6) rfl;clear r;have H1:=gH h;clear h)
    | (go_at_call 93;(with_reducible refine (columns_in w0 _ b _ x.cols A k _ H1.out (fun L' V h=>cols_aft h.aft HCC.out) HT.out HZ1.out).mono ?_);rintro e w2 h;rw [HQ1.out] at h;obtain ⟨rfl,h⟩:=h;have H2:=gH h;clear h))
   go_end0
   rw [HS.out]
   exact ⟨rfl,LyS.conv (by first | (simp only [List.append_assoc];rfl) | simp only [List.append_assoc]) H2.out.pop⟩
theorem cmd_k4 (w0:World) (Q:List (Nat × Obj)) (b:Nat) (L:Ws) (x:Cmd) (A:Option Addr) (k:Nat) (A2:Option Addr) (k2:Nat) (w:World) (h:LyS w0 Q b L w) (ht:TabW w0) (sm:SmC x) (hn:L.length≤50) (hcc:SlAt w0 3 ColR A k x.cols) (hc:SlAt w0 1 StrR A2 k2 x.rule.cols) (hlc:x.cols.length≤4100) (hl:x.rule.cols.length≤4100) (hk:x.kind=4) :
  Calls Tryz.prog 63 #[.pointer (some ⟨b,0,none⟩),.agg #[.int .i64 x.kind,.string x.actor,.string x.schema,.string x.table,.string x.name,.string x.role,.slice A x.cols.length k,.string x.rule.name,.int .i64 x.rule.kind,.slice A2 x.rule.cols.length k2,.int .i64 x.rule.low,.int .i64 x.rule.high,.string x.rule.schema,.string x.rule.table,.string x.rule.key,.int .i64 x.right,.bool x.opt]] w (LyQ w0 Q b L (cmdL x)):=by
 have b1:(x.kind==1)=false:=by simp [hk]
 have b2:(x.kind==2)=false:=by simp [hk]
 have b3:(x.kind==3)=false:=by simp [hk]
 have b4:(x.kind==4)=true:=by simp [hk]
 have b5:(x.kind==5)=false:=by simp [hk]
 have b6:(x.kind==6)=false:=by simp [hk]
 have b7:(x.kind==7)=false:=by simp [hk]
 have b8:(x.kind==8)=false:=by simp [hk]
 have b9:(x.kind==9)=false:=by simp [hk]
 have b10:(x.kind==10)=false:=by simp [hk]
 have b11:(x.kind==11)=false:=by simp [hk]
 have b12:(x.kind==12)=false:=by simp [hk]
 have b13:(x.kind==13)=false:=by simp [hk]
 have b14:(x.kind==14)=false:=by simp [hk]
 have b15:(x.kind==15)=false:=by simp [hk]
 have HT:=gH ht
 have hsm:=gH sm
 have HC:=gH hc
 have HCC:=gH hcc
 clear ht sm hc hcc
 have HK:=gH hk
 clear hk
 obtain ⟨h0,hm0,he0⟩:=box1 h [.int .i64 x.kind,.string x.actor,.string x.schema,.string x.table,.string x.name,.string x.role,.slice A x.cols.length k,.string x.rule.name,.int .i64 x.rule.kind,.slice A2 x.rule.cols.length k2,.int .i64 x.rule.low,.int .i64 x.rule.high,.string x.rule.schema,.string x.rule.table,.string x.rule.key,.int .i64 x.right,.bool x.opt] 31
 have H0:=gH h0
 have HE0:=gH he0
 have HM0:=gH hm0
 clear h h0 he0 hm0
 have HZ0:=gH (show (L).length≤100 from by (try simp only [List.length_append,List.length_cons,List.length_nil,List.length_map]);omega)
 obtain ⟨o0,q0⟩:∃ o,onTabL (⟨#[100,114,111,112,116,97,98,108,101]⟩:ByteArray) x=o:=⟨_,rfl⟩
 have HQ0:=gH q0
 cases o0 with
 | none =>
  clear q0
  have HS:=gH (show cmdL x=none from by simp [cmdL,andL,HK.out,b_droptable,HQ0.out])
  go_enter Tryz.func63,Tryz.ntmps63
  go_wp2_with (first
   | (go_at_call 92;(with_reducible refine (onTab_in _ w0 _ b _ x A k A2 k2 _ H0.out HT.out hsm.out HZ0.out).mono ?_);rintro e w1 h;rw [HQ0.out] at h;obtain ⟨he,h⟩:=h;have H1:=gH h;clear h;unfold NoL at he;subst he))
  rw [HS.out]
  exact ⟨rfl,rfl,H1.out⟩
 | some W0 =>
  have hw0:=onTab_len q0
  clear q0
  have HS:=gH (show cmdL x=some (W0) from by simp [cmdL,andL,HK.out,b_droptable,HQ0.out])
  go_enter Tryz.func63,Tryz.ntmps63
  go_wp2_with (first
   | (go_at_call 92;(with_reducible refine (onTab_in _ w0 _ b _ x A k A2 k2 _ H0.out HT.out hsm.out HZ0.out).mono ?_);rintro e w1 h;rw [HQ0.out] at h;obtain ⟨rfl,h⟩:=h;have H1:=gH h;clear h))
  go_end0
  rw [HS.out]
  exact ⟨rfl,LyS.conv (by first | (simp only [List.append_assoc];rfl) | simp only [List.append_assoc]) H1.out.pop⟩
theorem cmd_k5 (w0:World) (Q:List (Nat × Obj)) (b:Nat) (L:Ws) (x:Cmd) (A:Option Addr) (k:Nat) (A2:Option Addr) (k2:Nat) (w:World) (h:LyS w0 Q b L w) (ht:TabW w0) (sm:SmC x) (hn:L.length≤50) (hcc:SlAt w0 3 ColR A k x.cols) (hc:SlAt w0 1 StrR A2 k2 x.rule.cols) (hlc:x.cols.length≤4100) (hl:x.rule.cols.length≤4100) (hk:x.kind=5) :
  Calls Tryz.prog 63 #[.pointer (some ⟨b,0,none⟩),.agg #[.int .i64 x.kind,.string x.actor,.string x.schema,.string x.table,.string x.name,.string x.role,.slice A x.cols.length k,.string x.rule.name,.int .i64 x.rule.kind,.slice A2 x.rule.cols.length k2,.int .i64 x.rule.low,.int .i64 x.rule.high,.string x.rule.schema,.string x.rule.table,.string x.rule.key,.int .i64 x.right,.bool x.opt]] w (LyQ w0 Q b L (cmdL x)):=by
 have b1:(x.kind==1)=false:=by simp [hk]
 have b2:(x.kind==2)=false:=by simp [hk]
 have b3:(x.kind==3)=false:=by simp [hk]
 have b4:(x.kind==4)=false:=by simp [hk]
 have b5:(x.kind==5)=true:=by simp [hk]
 have b6:(x.kind==6)=false:=by simp [hk]
 have b7:(x.kind==7)=false:=by simp [hk]
 have b8:(x.kind==8)=false:=by simp [hk]
 have b9:(x.kind==9)=false:=by simp [hk]
 have b10:(x.kind==10)=false:=by simp [hk]
 have b11:(x.kind==11)=false:=by simp [hk]
 have b12:(x.kind==12)=false:=by simp [hk]
 have b13:(x.kind==13)=false:=by simp [hk]
 have b14:(x.kind==14)=false:=by simp [hk]
 have b15:(x.kind==15)=false:=by simp [hk]
 have HT:=gH ht
 have hsm:=gH sm
 have HC:=gH hc
 have HCC:=gH hcc
 clear ht sm hc hcc
 have HK:=gH hk
 clear hk
 obtain ⟨h0,hm0,he0⟩:=box1 h [.int .i64 x.kind,.string x.actor,.string x.schema,.string x.table,.string x.name,.string x.role,.slice A x.cols.length k,.string x.rule.name,.int .i64 x.rule.kind,.slice A2 x.rule.cols.length k2,.int .i64 x.rule.low,.int .i64 x.rule.high,.string x.rule.schema,.string x.rule.table,.string x.rule.key,.int .i64 x.right,.bool x.opt] 31
 have H0:=gH h0
 have HE0:=gH he0
 have HM0:=gH hm0
 clear h h0 he0 hm0
 have HZ0:=gH (show (L).length≤100 from by (try simp only [List.length_append,List.length_cons,List.length_nil,List.length_map]);omega)
 obtain ⟨o0,q0⟩:∃ o,onTabL (⟨#[99,111,108,117,109,110]⟩:ByteArray) x=o:=⟨_,rfl⟩
 have HQ0:=gH q0
 cases o0 with
 | none =>
  clear q0
  have HS:=gH (show cmdL x=none from by simp [cmdL,andL,HK.out,b_column,HQ0.out])
  go_enter Tryz.func63,Tryz.ntmps63
  go_wp2_with (first
   | (go_at_call 92;(with_reducible refine (onTab_in _ w0 _ b _ x A k A2 k2 _ H0.out HT.out hsm.out HZ0.out).mono ?_);rintro e w1 h;rw [HQ0.out] at h;obtain ⟨he,h⟩:=h;have H1:=gH h;clear h;unfold NoL at he;subst he))
  rw [HS.out]
  exact ⟨rfl,rfl,H1.out⟩
 | some W0 =>
  have hw0:=onTab_len q0
  clear q0
  have HZ1:=gH (show (L++W0).length+x.cols.length≤50000 from by (try simp only [List.length_append,List.length_cons,List.length_nil,List.length_map]);omega)
  rcases cols_cases x.cols with q1 | q1<;>have HQ1:=gH q1<;>clear q1
  ·have HS:=gH (show cmdL x=none from by simp [cmdL,andL,HK.out,b_column,HQ0.out,HQ1.out])
   go_enter Tryz.func63,Tryz.ntmps63
   go_wp2_with (first
    | (go_at_call 92;(with_reducible refine (onTab_in _ w0 _ b _ x A k A2 k2 _ H0.out HT.out hsm.out HZ0.out).mono ?_);rintro e w1 h;rw [HQ0.out] at h;obtain ⟨rfl,h⟩:=h;have r:=HM0.out _ _ h;have yb0b0:=r.1;have y0b0c6:=r.cell (j:=6) rfl;clear r;have H1:=gH h;clear h)
    | (go_at_call 93;(with_reducible refine (columns_in w0 _ b _ x.cols A k _ H1.out (fun L' V h=>cols_aft h.aft HCC.out) HT.out HZ1.out).mono ?_);rintro e w2 h;rw [HQ1.out] at h;obtain ⟨he,h⟩:=h;have H2:=gH h;clear h;unfold NoL at he;subst he))
   rw [HS.out]
   exact ⟨rfl,rfl,H2.out⟩
  ·have HS:=gH (show cmdL x=some (W0++(List.map colT x.cols)) from by simp [cmdL,andL,HK.out,b_column,HQ0.out,HQ1.out])
   go_enter Tryz.func63,Tryz.ntmps63
   go_wp2_with (first
    | (go_at_call 92;(with_reducible refine (onTab_in _ w0 _ b _ x A k A2 k2 _ H0.out HT.out hsm.out HZ0.out).mono ?_);rintro e w1 h;rw [HQ0.out] at h;obtain ⟨rfl,h⟩:=h;have r:=HM0.out _ _ h;have yb0b0:=r.1;have y0b0c6:=r.cell (j:=6) rfl;clear r;have H1:=gH h;clear h)
    | (go_at_call 93;(with_reducible refine (columns_in w0 _ b _ x.cols A k _ H1.out (fun L' V h=>cols_aft h.aft HCC.out) HT.out HZ1.out).mono ?_);rintro e w2 h;rw [HQ1.out] at h;obtain ⟨rfl,h⟩:=h;have H2:=gH h;clear h))
   go_end0
   rw [HS.out]
   exact ⟨rfl,LyS.conv (by first | (simp only [List.append_assoc];rfl) | simp only [List.append_assoc]) H2.out.pop⟩
theorem cmd_k6 (w0:World) (Q:List (Nat × Obj)) (b:Nat) (L:Ws) (x:Cmd) (A:Option Addr) (k:Nat) (A2:Option Addr) (k2:Nat) (w:World) (h:LyS w0 Q b L w) (ht:TabW w0) (sm:SmC x) (hn:L.length≤50) (hcc:SlAt w0 3 ColR A k x.cols) (hc:SlAt w0 1 StrR A2 k2 x.rule.cols) (hlc:x.cols.length≤4100) (hl:x.rule.cols.length≤4100) (hk:x.kind=6) :
  Calls Tryz.prog 63 #[.pointer (some ⟨b,0,none⟩),.agg #[.int .i64 x.kind,.string x.actor,.string x.schema,.string x.table,.string x.name,.string x.role,.slice A x.cols.length k,.string x.rule.name,.int .i64 x.rule.kind,.slice A2 x.rule.cols.length k2,.int .i64 x.rule.low,.int .i64 x.rule.high,.string x.rule.schema,.string x.rule.table,.string x.rule.key,.int .i64 x.right,.bool x.opt]] w (LyQ w0 Q b L (cmdL x)):=by
 have b1:(x.kind==1)=false:=by simp [hk]
 have b2:(x.kind==2)=false:=by simp [hk]
 have b3:(x.kind==3)=false:=by simp [hk]
 have b4:(x.kind==4)=false:=by simp [hk]
 have b5:(x.kind==5)=false:=by simp [hk]
 have b6:(x.kind==6)=true:=by simp [hk]
 have b7:(x.kind==7)=false:=by simp [hk]
 have b8:(x.kind==8)=false:=by simp [hk]
 have b9:(x.kind==9)=false:=by simp [hk]
 have b10:(x.kind==10)=false:=by simp [hk]
 have b11:(x.kind==11)=false:=by simp [hk]
 have b12:(x.kind==12)=false:=by simp [hk]
 have b13:(x.kind==13)=false:=by simp [hk]
 have b14:(x.kind==14)=false:=by simp [hk]
 have b15:(x.kind==15)=false:=by simp [hk]
 have HT:=gH ht
 have hsm:=gH sm
 have HC:=gH hc
 have HCC:=gH hcc
 clear ht sm hc hcc
 have HK:=gH hk
 clear hk
 obtain ⟨h0,hm0,he0⟩:=box1 h [.int .i64 x.kind,.string x.actor,.string x.schema,.string x.table,.string x.name,.string x.role,.slice A x.cols.length k,.string x.rule.name,.int .i64 x.rule.kind,.slice A2 x.rule.cols.length k2,.int .i64 x.rule.low,.int .i64 x.rule.high,.string x.rule.schema,.string x.rule.table,.string x.rule.key,.int .i64 x.right,.bool x.opt] 31
 have H0:=gH h0
 have HE0:=gH he0
 have HM0:=gH hm0
 clear h h0 he0 hm0
 have HZ0:=gH (show (L).length≤100 from by (try simp only [List.length_append,List.length_cons,List.length_nil,List.length_map]);omega)
 obtain ⟨o0,q0⟩:∃ o,onTabL (⟨#[100,114,111,112,99,111,108,117,109,110]⟩:ByteArray) x=o:=⟨_,rfl⟩
 have HQ0:=gH q0
 cases o0 with
 | none =>
  clear q0
  have HS:=gH (show cmdL x=none from by simp [cmdL,andL,HK.out,b_dropcolumn,HQ0.out])
  go_enter Tryz.func63,Tryz.ntmps63
  go_wp2_with (first
   | (go_at_call 92;(with_reducible refine (onTab_in _ w0 _ b _ x A k A2 k2 _ H0.out HT.out hsm.out HZ0.out).mono ?_);rintro e w1 h;rw [HQ0.out] at h;obtain ⟨he,h⟩:=h;have H1:=gH h;clear h;unfold NoL at he;subst he))
  rw [HS.out]
  exact ⟨rfl,rfl,H1.out⟩
 | some W0 =>
  have hw0:=onTab_len q0
  clear q0
  have HZ1:=gH (show (L++W0).length≤45000 from by (try simp only [List.length_append,List.length_cons,List.length_nil,List.length_map]);omega)
  rcases nms_cases [x.name] with q1 | q1<;>have HQ1:=gH q1<;>clear q1
  ·have HS:=gH (show cmdL x=none from by simp [cmdL,andL,HK.out,b_dropcolumn,HQ0.out,HQ1.out])
   go_enter Tryz.func63,Tryz.ntmps63
   go_wp2_with (first
    | (go_at_call 92;(with_reducible refine (onTab_in _ w0 _ b _ x A k A2 k2 _ H0.out HT.out hsm.out HZ0.out).mono ?_);rintro e w1 h;rw [HQ0.out] at h;obtain ⟨rfl,h⟩:=h;have r:=HM0.out _ _ h;have yb0b0:=r.1;have y0b0c4:=r.cell (j:=4) rfl;clear r;have H1:=gH h;clear h)
    | (go_at_call 91;(with_reducible refine (nam1 w0 _ b _ _ _ _ H1.out HT.out HZ1.out rfl hsm.out.name).mono ?_);rintro e w2 h;rw [HQ1.out] at h;obtain ⟨he,h⟩:=h;have H2:=gH h;clear h;unfold NoL at he;subst he))
   rw [HS.out]
   exact ⟨rfl,rfl,H2.out⟩
  ·have HS:=gH (show cmdL x=some (W0++([x.name])) from by simp [cmdL,andL,HK.out,b_dropcolumn,HQ0.out,HQ1.out])
   go_enter Tryz.func63,Tryz.ntmps63
   go_wp2_with (first
    | (go_at_call 92;(with_reducible refine (onTab_in _ w0 _ b _ x A k A2 k2 _ H0.out HT.out hsm.out HZ0.out).mono ?_);rintro e w1 h;rw [HQ0.out] at h;obtain ⟨rfl,h⟩:=h;have r:=HM0.out _ _ h;have yb0b0:=r.1;have y0b0c4:=r.cell (j:=4) rfl;clear r;have H1:=gH h;clear h)
    | (go_at_call 91;(with_reducible refine (nam1 w0 _ b _ _ _ _ H1.out HT.out HZ1.out rfl hsm.out.name).mono ?_);rintro e w2 h;rw [HQ1.out] at h;obtain ⟨rfl,h⟩:=h;have H2:=gH h;clear h))
   go_end0
   rw [HS.out]
   exact ⟨rfl,LyS.conv (by first | (simp only [List.append_assoc];rfl) | simp only [List.append_assoc]) H2.out.pop⟩
theorem cmd_k7 (w0:World) (Q:List (Nat × Obj)) (b:Nat) (L:Ws) (x:Cmd) (A:Option Addr) (k:Nat) (A2:Option Addr) (k2:Nat) (w:World) (h:LyS w0 Q b L w) (ht:TabW w0) (sm:SmC x) (hn:L.length≤50) (hcc:SlAt w0 3 ColR A k x.cols) (hc:SlAt w0 1 StrR A2 k2 x.rule.cols) (hlc:x.cols.length≤4100) (hl:x.rule.cols.length≤4100) (hk:x.kind=7) :
  Calls Tryz.prog 63 #[.pointer (some ⟨b,0,none⟩),.agg #[.int .i64 x.kind,.string x.actor,.string x.schema,.string x.table,.string x.name,.string x.role,.slice A x.cols.length k,.string x.rule.name,.int .i64 x.rule.kind,.slice A2 x.rule.cols.length k2,.int .i64 x.rule.low,.int .i64 x.rule.high,.string x.rule.schema,.string x.rule.table,.string x.rule.key,.int .i64 x.right,.bool x.opt]] w (LyQ w0 Q b L (cmdL x)):=by
 have b1:(x.kind==1)=false:=by simp [hk]
 have b2:(x.kind==2)=false:=by simp [hk]
 have b3:(x.kind==3)=false:=by simp [hk]
 have b4:(x.kind==4)=false:=by simp [hk]
 have b5:(x.kind==5)=false:=by simp [hk]
 have b6:(x.kind==6)=false:=by simp [hk]
 have b7:(x.kind==7)=true:=by simp [hk]
 have b8:(x.kind==8)=false:=by simp [hk]
 have b9:(x.kind==9)=false:=by simp [hk]
 have b10:(x.kind==10)=false:=by simp [hk]
 have b11:(x.kind==11)=false:=by simp [hk]
 have b12:(x.kind==12)=false:=by simp [hk]
 have b13:(x.kind==13)=false:=by simp [hk]
 have b14:(x.kind==14)=false:=by simp [hk]
 have b15:(x.kind==15)=false:=by simp [hk]
 have HT:=gH ht
 have hsm:=gH sm
 have HC:=gH hc
 have HCC:=gH hcc
 clear ht sm hc hcc
 have HK:=gH hk
 clear hk
 obtain ⟨h0,hm0,he0⟩:=box1 h [.int .i64 x.kind,.string x.actor,.string x.schema,.string x.table,.string x.name,.string x.role,.slice A x.cols.length k,.string x.rule.name,.int .i64 x.rule.kind,.slice A2 x.rule.cols.length k2,.int .i64 x.rule.low,.int .i64 x.rule.high,.string x.rule.schema,.string x.rule.table,.string x.rule.key,.int .i64 x.right,.bool x.opt] 31
 have H0:=gH h0
 have HE0:=gH he0
 have HM0:=gH hm0
 clear h h0 he0 hm0
 have HZ0:=gH (show (L).length≤100 from by (try simp only [List.length_append,List.length_cons,List.length_nil,List.length_map]);omega)
 obtain ⟨o0,q0⟩:∃ o,ruleL x=o:=⟨_,rfl⟩
 have HQ0:=gH q0
 cases o0 with
 | none =>
  clear q0
  have HS:=gH (show cmdL x=none from by simp [cmdL,andL,HK.out,HQ0.out])
  go_enter Tryz.func63,Tryz.ntmps63
  go_wp2_with (first
   | (go_at_call 94;(with_reducible refine (rule_in w0 _ b _ x A k A2 k2 _ H0.out HT.out hsm.out HZ0.out HC.out hl).mono ?_);rintro e w1 h;rw [HQ0.out] at h;obtain ⟨he,h⟩:=h;have H1:=gH h;clear h;unfold NoL at he;subst he))
  rw [HS.out]
  exact ⟨rfl,rfl,H1.out⟩
 | some W0 =>
  have hw0:=rule_len q0
  clear q0
  have HS:=gH (show cmdL x=some (W0) from by simp [cmdL,andL,HK.out,HQ0.out])
  go_enter Tryz.func63,Tryz.ntmps63
  go_wp2_with (first
   | (go_at_call 94;(with_reducible refine (rule_in w0 _ b _ x A k A2 k2 _ H0.out HT.out hsm.out HZ0.out HC.out hl).mono ?_);rintro e w1 h;rw [HQ0.out] at h;obtain ⟨rfl,h⟩:=h;have H1:=gH h;clear h))
  go_end0
  rw [HS.out]
  exact ⟨rfl,LyS.conv (by first | (simp only [List.append_assoc];rfl) | simp only [List.append_assoc]) H1.out.pop⟩
theorem cmd_k8 (w0:World) (Q:List (Nat × Obj)) (b:Nat) (L:Ws) (x:Cmd) (A:Option Addr) (k:Nat) (A2:Option Addr) (k2:Nat) (w:World) (h:LyS w0 Q b L w) (ht:TabW w0) (sm:SmC x) (hn:L.length≤50) (hcc:SlAt w0 3 ColR A k x.cols) (hc:SlAt w0 1 StrR A2 k2 x.rule.cols) (hlc:x.cols.length≤4100) (hl:x.rule.cols.length≤4100) (hk:x.kind=8) :
  Calls Tryz.prog 63 #[.pointer (some ⟨b,0,none⟩),.agg #[.int .i64 x.kind,.string x.actor,.string x.schema,.string x.table,.string x.name,.string x.role,.slice A x.cols.length k,.string x.rule.name,.int .i64 x.rule.kind,.slice A2 x.rule.cols.length k2,.int .i64 x.rule.low,.int .i64 x.rule.high,.string x.rule.schema,.string x.rule.table,.string x.rule.key,.int .i64 x.right,.bool x.opt]] w (LyQ w0 Q b L (cmdL x)):=by
 have b1:(x.kind==1)=false:=by simp [hk]
 have b2:(x.kind==2)=false:=by simp [hk]
 have b3:(x.kind==3)=false:=by simp [hk]
 have b4:(x.kind==4)=false:=by simp [hk]
 have b5:(x.kind==5)=false:=by simp [hk]
 have b6:(x.kind==6)=false:=by simp [hk]
 have b7:(x.kind==7)=false:=by simp [hk]
 have b8:(x.kind==8)=true:=by simp [hk]
 have b9:(x.kind==9)=false:=by simp [hk]
 have b10:(x.kind==10)=false:=by simp [hk]
 have b11:(x.kind==11)=false:=by simp [hk]
 have b12:(x.kind==12)=false:=by simp [hk]
 have b13:(x.kind==13)=false:=by simp [hk]
 have b14:(x.kind==14)=false:=by simp [hk]
 have b15:(x.kind==15)=false:=by simp [hk]
 have HT:=gH ht
 have hsm:=gH sm
 have HC:=gH hc
 have HCC:=gH hcc
 clear ht sm hc hcc
 have HK:=gH hk
 clear hk
 obtain ⟨h0,hm0,he0⟩:=box1 h [.int .i64 x.kind,.string x.actor,.string x.schema,.string x.table,.string x.name,.string x.role,.slice A x.cols.length k,.string x.rule.name,.int .i64 x.rule.kind,.slice A2 x.rule.cols.length k2,.int .i64 x.rule.low,.int .i64 x.rule.high,.string x.rule.schema,.string x.rule.table,.string x.rule.key,.int .i64 x.right,.bool x.opt] 31
 have H0:=gH h0
 have HE0:=gH he0
 have HM0:=gH hm0
 clear h h0 he0 hm0
 have HZ0:=gH (show (L).length≤100 from by (try simp only [List.length_append,List.length_cons,List.length_nil,List.length_map]);omega)
 obtain ⟨o0,q0⟩:∃ o,onTabL (⟨#[100,114,111,112,114,117,108,101]⟩:ByteArray) x=o:=⟨_,rfl⟩
 have HQ0:=gH q0
 cases o0 with
 | none =>
  clear q0
  have HS:=gH (show cmdL x=none from by simp [cmdL,andL,HK.out,b_droprule,HQ0.out])
  go_enter Tryz.func63,Tryz.ntmps63
  go_wp2_with (first
   | (go_at_call 92;(with_reducible refine (onTab_in _ w0 _ b _ x A k A2 k2 _ H0.out HT.out hsm.out HZ0.out).mono ?_);rintro e w1 h;rw [HQ0.out] at h;obtain ⟨he,h⟩:=h;have H1:=gH h;clear h;unfold NoL at he;subst he))
  rw [HS.out]
  exact ⟨rfl,rfl,H1.out⟩
 | some W0 =>
  have hw0:=onTab_len q0
  clear q0
  have HZ1:=gH (show (L++W0).length≤45000 from by (try simp only [List.length_append,List.length_cons,List.length_nil,List.length_map]);omega)
  rcases nms_cases [x.name] with q1 | q1<;>have HQ1:=gH q1<;>clear q1
  ·have HS:=gH (show cmdL x=none from by simp [cmdL,andL,HK.out,b_droprule,HQ0.out,HQ1.out])
   go_enter Tryz.func63,Tryz.ntmps63
   go_wp2_with (first
    | (go_at_call 92;(with_reducible refine (onTab_in _ w0 _ b _ x A k A2 k2 _ H0.out HT.out hsm.out HZ0.out).mono ?_);rintro e w1 h;rw [HQ0.out] at h;obtain ⟨rfl,h⟩:=h;have r:=HM0.out _ _ h;have yb0b0:=r.1;have y0b0c4:=r.cell (j:=4) rfl;clear r;have H1:=gH h;clear h)
    | (go_at_call 91;(with_reducible refine (nam1 w0 _ b _ _ _ _ H1.out HT.out HZ1.out rfl hsm.out.name).mono ?_);rintro e w2 h;rw [HQ1.out] at h;obtain ⟨he,h⟩:=h;have H2:=gH h;clear h;unfold NoL at he;subst he))
   rw [HS.out]
   exact ⟨rfl,rfl,H2.out⟩
  ·have HS:=gH (show cmdL x=some (W0++([x.name])) from by simp [cmdL,andL,HK.out,b_droprule,HQ0.out,HQ1.out])
   go_enter Tryz.func63,Tryz.ntmps63
   go_wp2_with (first
    | (go_at_call 92;(with_reducible refine (onTab_in _ w0 _ b _ x A k A2 k2 _ H0.out HT.out hsm.out HZ0.out).mono ?_);rintro e w1 h;rw [HQ0.out] at h;obtain ⟨rfl,h⟩:=h;have r:=HM0.out _ _ h;have yb0b0:=r.1;have y0b0c4:=r.cell (j:=4) rfl;clear r;have H1:=gH h;clear h)
    | (go_at_call 91;(with_reducible refine (nam1 w0 _ b _ _ _ _ H1.out HT.out HZ1.out rfl hsm.out.name).mono ?_);rintro e w2 h;rw [HQ1.out] at h;obtain ⟨rfl,h⟩:=h;have H2:=gH h;clear h))
   go_end0
   rw [HS.out]
   exact ⟨rfl,LyS.conv (by first | (simp only [List.append_assoc];rfl) | simp only [List.append_assoc]) H2.out.pop⟩
theorem cmd_k9 (w0:World) (Q:List (Nat × Obj)) (b:Nat) (L:Ws) (x:Cmd) (A:Option Addr) (k:Nat) (A2:Option Addr) (k2:Nat) (w:World) (h:LyS w0 Q b L w) (ht:TabW w0) (sm:SmC x) (hn:L.length≤50) (hcc:SlAt w0 3 ColR A k x.cols) (hc:SlAt w0 1 StrR A2 k2 x.rule.cols) (hlc:x.cols.length≤4100) (hl:x.rule.cols.length≤4100) (hk:x.kind=9) :
  Calls Tryz.prog 63 #[.pointer (some ⟨b,0,none⟩),.agg #[.int .i64 x.kind,.string x.actor,.string x.schema,.string x.table,.string x.name,.string x.role,.slice A x.cols.length k,.string x.rule.name,.int .i64 x.rule.kind,.slice A2 x.rule.cols.length k2,.int .i64 x.rule.low,.int .i64 x.rule.high,.string x.rule.schema,.string x.rule.table,.string x.rule.key,.int .i64 x.right,.bool x.opt]] w (LyQ w0 Q b L (cmdL x)):=by
 have b1:(x.kind==1)=false:=by simp [hk]
 have b2:(x.kind==2)=false:=by simp [hk]
 have b3:(x.kind==3)=false:=by simp [hk]
 have b4:(x.kind==4)=false:=by simp [hk]
 have b5:(x.kind==5)=false:=by simp [hk]
 have b6:(x.kind==6)=false:=by simp [hk]
 have b7:(x.kind==7)=false:=by simp [hk]
 have b8:(x.kind==8)=false:=by simp [hk]
 have b9:(x.kind==9)=true:=by simp [hk]
 have b10:(x.kind==10)=false:=by simp [hk]
 have b11:(x.kind==11)=false:=by simp [hk]
 have b12:(x.kind==12)=false:=by simp [hk]
 have b13:(x.kind==13)=false:=by simp [hk]
 have b14:(x.kind==14)=false:=by simp [hk]
 have b15:(x.kind==15)=false:=by simp [hk]
 have HT:=gH ht
 have hsm:=gH sm
 have HC:=gH hc
 have HCC:=gH hcc
 clear ht sm hc hcc
 have HK:=gH hk
 clear hk
 obtain ⟨h0,hm0,he0⟩:=box1 h [.int .i64 x.kind,.string x.actor,.string x.schema,.string x.table,.string x.name,.string x.role,.slice A x.cols.length k,.string x.rule.name,.int .i64 x.rule.kind,.slice A2 x.rule.cols.length k2,.int .i64 x.rule.low,.int .i64 x.rule.high,.string x.rule.schema,.string x.rule.table,.string x.rule.key,.int .i64 x.right,.bool x.opt] 31
 have H0:=gH h0
 have HE0:=gH he0
 have HM0:=gH hm0
 clear h h0 he0 hm0
 have HZ0:=gH (show (L).length≤100 from by (try simp only [List.length_append,List.length_cons,List.length_nil,List.length_map]);omega)
 obtain ⟨o0,q0⟩:∃ o,onTabL (⟨#[111,119,110,101,114]⟩:ByteArray) x=o:=⟨_,rfl⟩
 have HQ0:=gH q0
 cases o0 with
 | none =>
  clear q0
  have HS:=gH (show cmdL x=none from by simp [cmdL,andL,HK.out,b_owner,HQ0.out])
  go_enter Tryz.func63,Tryz.ntmps63
  go_wp2_with (first
   | (go_at_call 92;(with_reducible refine (onTab_in _ w0 _ b _ x A k A2 k2 _ H0.out HT.out hsm.out HZ0.out).mono ?_);rintro e w1 h;rw [HQ0.out] at h;obtain ⟨he,h⟩:=h;have H1:=gH h;clear h;unfold NoL at he;subst he))
  rw [HS.out]
  exact ⟨rfl,rfl,H1.out⟩
 | some W0 =>
  have hw0:=onTab_len q0
  clear q0
  have HZ1:=gH (show (L++W0).length≤45000 from by (try simp only [List.length_append,List.length_cons,List.length_nil,List.length_map]);omega)
  rcases nms_cases [x.role] with q1 | q1<;>have HQ1:=gH q1<;>clear q1
  ·have HS:=gH (show cmdL x=none from by simp [cmdL,andL,HK.out,b_owner,HQ0.out,HQ1.out])
   go_enter Tryz.func63,Tryz.ntmps63
   go_wp2_with (first
    | (go_at_call 92;(with_reducible refine (onTab_in _ w0 _ b _ x A k A2 k2 _ H0.out HT.out hsm.out HZ0.out).mono ?_);rintro e w1 h;rw [HQ0.out] at h;obtain ⟨rfl,h⟩:=h;have r:=HM0.out _ _ h;have yb0b0:=r.1;have y0b0c5:=r.cell (j:=5) rfl;clear r;have H1:=gH h;clear h)
    | (go_at_call 91;(with_reducible refine (nam1 w0 _ b _ _ _ _ H1.out HT.out HZ1.out rfl hsm.out.role).mono ?_);rintro e w2 h;rw [HQ1.out] at h;obtain ⟨he,h⟩:=h;have H2:=gH h;clear h;unfold NoL at he;subst he))
   rw [HS.out]
   exact ⟨rfl,rfl,H2.out⟩
  ·have HS:=gH (show cmdL x=some (W0++([x.role])) from by simp [cmdL,andL,HK.out,b_owner,HQ0.out,HQ1.out])
   go_enter Tryz.func63,Tryz.ntmps63
   go_wp2_with (first
    | (go_at_call 92;(with_reducible refine (onTab_in _ w0 _ b _ x A k A2 k2 _ H0.out HT.out hsm.out HZ0.out).mono ?_);rintro e w1 h;rw [HQ0.out] at h;obtain ⟨rfl,h⟩:=h;have r:=HM0.out _ _ h;have yb0b0:=r.1;have y0b0c5:=r.cell (j:=5) rfl;clear r;have H1:=gH h;clear h)
    | (go_at_call 91;(with_reducible refine (nam1 w0 _ b _ _ _ _ H1.out HT.out HZ1.out rfl hsm.out.role).mono ?_);rintro e w2 h;rw [HQ1.out] at h;obtain ⟨rfl,h⟩:=h;have H2:=gH h;clear h))
   go_end0
   rw [HS.out]
   exact ⟨rfl,LyS.conv (by first | (simp only [List.append_assoc];rfl) | simp only [List.append_assoc]) H2.out.pop⟩
theorem cmd_k10 (w0:World) (Q:List (Nat × Obj)) (b:Nat) (L:Ws) (x:Cmd) (A:Option Addr) (k:Nat) (A2:Option Addr) (k2:Nat) (w:World) (h:LyS w0 Q b L w) (ht:TabW w0) (sm:SmC x) (hn:L.length≤50) (hcc:SlAt w0 3 ColR A k x.cols) (hc:SlAt w0 1 StrR A2 k2 x.rule.cols) (hlc:x.cols.length≤4100) (hl:x.rule.cols.length≤4100) (hk:x.kind=10) :
  Calls Tryz.prog 63 #[.pointer (some ⟨b,0,none⟩),.agg #[.int .i64 x.kind,.string x.actor,.string x.schema,.string x.table,.string x.name,.string x.role,.slice A x.cols.length k,.string x.rule.name,.int .i64 x.rule.kind,.slice A2 x.rule.cols.length k2,.int .i64 x.rule.low,.int .i64 x.rule.high,.string x.rule.schema,.string x.rule.table,.string x.rule.key,.int .i64 x.right,.bool x.opt]] w (LyQ w0 Q b L (cmdL x)):=by
 have b1:(x.kind==1)=false:=by simp [hk]
 have b2:(x.kind==2)=false:=by simp [hk]
 have b3:(x.kind==3)=false:=by simp [hk]
 have b4:(x.kind==4)=false:=by simp [hk]
 have b5:(x.kind==5)=false:=by simp [hk]
 have b6:(x.kind==6)=false:=by simp [hk]
 have b7:(x.kind==7)=false:=by simp [hk]
 have b8:(x.kind==8)=false:=by simp [hk]
 have b9:(x.kind==9)=false:=by simp [hk]
 have b10:(x.kind==10)=true:=by simp [hk]
 have b11:(x.kind==11)=false:=by simp [hk]
 have b12:(x.kind==12)=false:=by simp [hk]
 have b13:(x.kind==13)=false:=by simp [hk]
 have b14:(x.kind==14)=false:=by simp [hk]
 have b15:(x.kind==15)=false:=by simp [hk]
 have HT:=gH ht
 have hsm:=gH sm
 have HC:=gH hc
 have HCC:=gH hcc
 clear ht sm hc hcc
 have HK:=gH hk
 clear hk
 obtain ⟨h0,hm0,he0⟩:=box1 h [.int .i64 x.kind,.string x.actor,.string x.schema,.string x.table,.string x.name,.string x.role,.slice A x.cols.length k,.string x.rule.name,.int .i64 x.rule.kind,.slice A2 x.rule.cols.length k2,.int .i64 x.rule.low,.int .i64 x.rule.high,.string x.rule.schema,.string x.rule.table,.string x.rule.key,.int .i64 x.right,.bool x.opt] 31
 have H0:=gH h0
 have HE0:=gH he0
 have HM0:=gH hm0
 clear h h0 he0 hm0
 have HZ0:=gH (show (L).length≤40000 from by (try simp only [List.length_append,List.length_cons,List.length_nil,List.length_map]);omega)
 have HZ1:=gH (show (L++[(⟨#[114,111,108,101]⟩:ByteArray)]).length≤45000 from by (try simp only [List.length_append,List.length_cons,List.length_nil,List.length_map]);omega)
 rcases nms_cases [x.actor,x.role] with q1 | q1<;>have HQ1:=gH q1<;>clear q1
 ·have HS:=gH (show cmdL x=none from by simp [cmdL,andL,HK.out,b_role,b_role,HQ1.out])
  go_enter Tryz.func63,Tryz.ntmps63
  go_wp2_with (first
   | (go_at_call 61;(with_reducible refine (lay2 w0 _ b _ _ _ _ H0.out HZ0.out HE0.out).mono ?_);rintro e w1 ⟨rfl,h⟩;have r:=HM0.out _ _ h;have yb0b0:=r.1;have y0b0c1:=r.cell (j:=1) rfl;have y0b0c5:=r.cell (j:=5) rfl;clear r;have H1:=gH h;clear h)
   | (go_at_call 91;(with_reducible refine (nam2 w0 _ b _ _ _ _ _ H1.out HT.out HZ1.out rfl hsm.out.actor hsm.out.role).mono ?_);rintro e w2 h;rw [HQ1.out] at h;obtain ⟨he,h⟩:=h;have H2:=gH h;clear h;unfold NoL at he;subst he))
  rw [HS.out]
  exact ⟨rfl,rfl,H2.out⟩
 ·have HS:=gH (show cmdL x=some ([(⟨#[114,111,108,101]⟩:ByteArray)]++([x.actor,x.role])) from by simp [cmdL,andL,HK.out,b_role,b_role,HQ1.out])
  go_enter Tryz.func63,Tryz.ntmps63
  go_wp2_with (first
   | (go_at_call 61;(with_reducible refine (lay2 w0 _ b _ _ _ _ H0.out HZ0.out HE0.out).mono ?_);rintro e w1 ⟨rfl,h⟩;have r:=HM0.out _ _ h;have yb0b0:=r.1;have y0b0c1:=r.cell (j:=1) rfl;have y0b0c5:=r.cell (j:=5) rfl;clear r;have H1:=gH h;clear h)
   | (go_at_call 91;(with_reducible refine (nam2 w0 _ b _ _ _ _ _ H1.out HT.out HZ1.out rfl hsm.out.actor hsm.out.role).mono ?_);rintro e w2 h;rw [HQ1.out] at h;obtain ⟨rfl,h⟩:=h;have H2:=gH h;clear h))
  go_end0
  rw [HS.out]
  exact ⟨rfl,LyS.conv (by first | (simp only [List.append_assoc];rfl) | simp only [List.append_assoc]) H2.out.pop⟩
theorem cmd_k11 (w0:World) (Q:List (Nat × Obj)) (b:Nat) (L:Ws) (x:Cmd) (A:Option Addr) (k:Nat) (A2:Option Addr) (k2:Nat) (w:World) (h:LyS w0 Q b L w) (ht:TabW w0) (sm:SmC x) (hn:L.length≤50) (hcc:SlAt w0 3 ColR A k x.cols) (hc:SlAt w0 1 StrR A2 k2 x.rule.cols) (hlc:x.cols.length≤4100) (hl:x.rule.cols.length≤4100) (hk:x.kind=11) :
  Calls Tryz.prog 63 #[.pointer (some ⟨b,0,none⟩),.agg #[.int .i64 x.kind,.string x.actor,.string x.schema,.string x.table,.string x.name,.string x.role,.slice A x.cols.length k,.string x.rule.name,.int .i64 x.rule.kind,.slice A2 x.rule.cols.length k2,.int .i64 x.rule.low,.int .i64 x.rule.high,.string x.rule.schema,.string x.rule.table,.string x.rule.key,.int .i64 x.right,.bool x.opt]] w (LyQ w0 Q b L (cmdL x)):=by
 have b1:(x.kind==1)=false:=by simp [hk]
 have b2:(x.kind==2)=false:=by simp [hk]
 have b3:(x.kind==3)=false:=by simp [hk]
 have b4:(x.kind==4)=false:=by simp [hk]
 have b5:(x.kind==5)=false:=by simp [hk]
 have b6:(x.kind==6)=false:=by simp [hk]
 have b7:(x.kind==7)=false:=by simp [hk]
 have b8:(x.kind==8)=false:=by simp [hk]
 have b9:(x.kind==9)=false:=by simp [hk]
 have b10:(x.kind==10)=false:=by simp [hk]
 have b11:(x.kind==11)=true:=by simp [hk]
 have b12:(x.kind==12)=false:=by simp [hk]
 have b13:(x.kind==13)=false:=by simp [hk]
 have b14:(x.kind==14)=false:=by simp [hk]
 have b15:(x.kind==15)=false:=by simp [hk]
 have HT:=gH ht
 have hsm:=gH sm
 have HC:=gH hc
 have HCC:=gH hcc
 clear ht sm hc hcc
 have HK:=gH hk
 clear hk
 obtain ⟨h0,hm0,he0⟩:=box1 h [.int .i64 x.kind,.string x.actor,.string x.schema,.string x.table,.string x.name,.string x.role,.slice A x.cols.length k,.string x.rule.name,.int .i64 x.rule.kind,.slice A2 x.rule.cols.length k2,.int .i64 x.rule.low,.int .i64 x.rule.high,.string x.rule.schema,.string x.rule.table,.string x.rule.key,.int .i64 x.right,.bool x.opt] 31
 have H0:=gH h0
 have HE0:=gH he0
 have HM0:=gH hm0
 clear h h0 he0 hm0
 have HZ0:=gH (show (L).length≤40000 from by (try simp only [List.length_append,List.length_cons,List.length_nil,List.length_map]);omega)
 have HZ1:=gH (show (L++[(⟨#[100,114,111,112,114,111,108,101]⟩:ByteArray)]).length≤45000 from by (try simp only [List.length_append,List.length_cons,List.length_nil,List.length_map]);omega)
 rcases nms_cases [x.actor,x.role] with q1 | q1<;>have HQ1:=gH q1<;>clear q1
 ·have HS:=gH (show cmdL x=none from by simp [cmdL,andL,HK.out,b_droprole,b_droprole,HQ1.out])
  go_enter Tryz.func63,Tryz.ntmps63
  go_wp2_with (first
   | (go_at_call 61;(with_reducible refine (lay2 w0 _ b _ _ _ _ H0.out HZ0.out HE0.out).mono ?_);rintro e w1 ⟨rfl,h⟩;have r:=HM0.out _ _ h;have yb0b0:=r.1;have y0b0c1:=r.cell (j:=1) rfl;have y0b0c5:=r.cell (j:=5) rfl;clear r;have H1:=gH h;clear h)
   | (go_at_call 91;(with_reducible refine (nam2 w0 _ b _ _ _ _ _ H1.out HT.out HZ1.out rfl hsm.out.actor hsm.out.role).mono ?_);rintro e w2 h;rw [HQ1.out] at h;obtain ⟨he,h⟩:=h;have H2:=gH h;clear h;unfold NoL at he;subst he))
  rw [HS.out]
  exact ⟨rfl,rfl,H2.out⟩
 ·have HS:=gH (show cmdL x=some ([(⟨#[100,114,111,112,114,111,108,101]⟩:ByteArray)]++([x.actor,x.role])) from by simp [cmdL,andL,HK.out,b_droprole,b_droprole,HQ1.out])
  go_enter Tryz.func63,Tryz.ntmps63
  go_wp2_with (first
   | (go_at_call 61;(with_reducible refine (lay2 w0 _ b _ _ _ _ H0.out HZ0.out HE0.out).mono ?_);rintro e w1 ⟨rfl,h⟩;have r:=HM0.out _ _ h;have yb0b0:=r.1;have y0b0c1:=r.cell (j:=1) rfl;have y0b0c5:=r.cell (j:=5) rfl;clear r;have H1:=gH h;clear h)
   | (go_at_call 91;(with_reducible refine (nam2 w0 _ b _ _ _ _ _ H1.out HT.out HZ1.out rfl hsm.out.actor hsm.out.role).mono ?_);rintro e w2 h;rw [HQ1.out] at h;obtain ⟨rfl,h⟩:=h;have H2:=gH h;clear h))
  go_end0
  rw [HS.out]
  exact ⟨rfl,LyS.conv (by first | (simp only [List.append_assoc];rfl) | simp only [List.append_assoc]) H2.out.pop⟩
theorem cmd_k12 (w0:World) (Q:List (Nat × Obj)) (b:Nat) (L:Ws) (x:Cmd) (A:Option Addr) (k:Nat) (A2:Option Addr) (k2:Nat) (w:World) (h:LyS w0 Q b L w) (ht:TabW w0) (sm:SmC x) (hn:L.length≤50) (hcc:SlAt w0 3 ColR A k x.cols) (hc:SlAt w0 1 StrR A2 k2 x.rule.cols) (hlc:x.cols.length≤4100) (hl:x.rule.cols.length≤4100) (hk:x.kind=12) :
  Calls Tryz.prog 63 #[.pointer (some ⟨b,0,none⟩),.agg #[.int .i64 x.kind,.string x.actor,.string x.schema,.string x.table,.string x.name,.string x.role,.slice A x.cols.length k,.string x.rule.name,.int .i64 x.rule.kind,.slice A2 x.rule.cols.length k2,.int .i64 x.rule.low,.int .i64 x.rule.high,.string x.rule.schema,.string x.rule.table,.string x.rule.key,.int .i64 x.right,.bool x.opt]] w (LyQ w0 Q b L (cmdL x)):=by
 have b1:(x.kind==1)=false:=by simp [hk]
 have b2:(x.kind==2)=false:=by simp [hk]
 have b3:(x.kind==3)=false:=by simp [hk]
 have b4:(x.kind==4)=false:=by simp [hk]
 have b5:(x.kind==5)=false:=by simp [hk]
 have b6:(x.kind==6)=false:=by simp [hk]
 have b7:(x.kind==7)=false:=by simp [hk]
 have b8:(x.kind==8)=false:=by simp [hk]
 have b9:(x.kind==9)=false:=by simp [hk]
 have b10:(x.kind==10)=false:=by simp [hk]
 have b11:(x.kind==11)=false:=by simp [hk]
 have b12:(x.kind==12)=true:=by simp [hk]
 have b13:(x.kind==13)=false:=by simp [hk]
 have b14:(x.kind==14)=false:=by simp [hk]
 have b15:(x.kind==15)=false:=by simp [hk]
 have HT:=gH ht
 have hsm:=gH sm
 have HC:=gH hc
 have HCC:=gH hcc
 clear ht sm hc hcc
 have HK:=gH hk
 clear hk
 obtain ⟨h0,hm0,he0⟩:=box1 h [.int .i64 x.kind,.string x.actor,.string x.schema,.string x.table,.string x.name,.string x.role,.slice A x.cols.length k,.string x.rule.name,.int .i64 x.rule.kind,.slice A2 x.rule.cols.length k2,.int .i64 x.rule.low,.int .i64 x.rule.high,.string x.rule.schema,.string x.rule.table,.string x.rule.key,.int .i64 x.right,.bool x.opt] 31
 have H0:=gH h0
 have HE0:=gH he0
 have HM0:=gH hm0
 clear h h0 he0 hm0
 have HZ0:=gH (show (L).length≤40000 from by (try simp only [List.length_append,List.length_cons,List.length_nil,List.length_map]);omega)
 have HZ1:=gH (show (L++[(⟨#[109,101,109,98,101,114]⟩:ByteArray)]).length≤45000 from by (try simp only [List.length_append,List.length_cons,List.length_nil,List.length_map]);omega)
 rcases nms_cases [x.actor,x.role,x.name] with q1 | q1<;>have HQ1:=gH q1<;>clear q1
 ·have HS:=gH (show cmdL x=none from by simp [cmdL,andL,HK.out,b_member,b_member,HQ1.out])
  go_enter Tryz.func63,Tryz.ntmps63
  go_wp2_with (first
   | (go_at_call 61;(with_reducible refine (lay2 w0 _ b _ _ _ _ H0.out HZ0.out HE0.out).mono ?_);rintro e w1 ⟨rfl,h⟩;have r:=HM0.out _ _ h;have yb0b0:=r.1;have y0b0c1:=r.cell (j:=1) rfl;have y0b0c5:=r.cell (j:=5) rfl;have y0b0c4:=r.cell (j:=4) rfl;clear r;have H1:=gH h;clear h)
   | (go_at_call 91;(with_reducible refine (nam3 w0 _ b _ _ _ _ _ _ H1.out HT.out HZ1.out rfl hsm.out.actor hsm.out.role hsm.out.name).mono ?_);rintro e w2 h;rw [HQ1.out] at h;obtain ⟨he,h⟩:=h;have H2:=gH h;clear h;unfold NoL at he;subst he))
  rw [HS.out]
  exact ⟨rfl,rfl,H2.out⟩
 ·have HS:=gH (show cmdL x=some ([(⟨#[109,101,109,98,101,114]⟩:ByteArray)]++([x.actor,x.role,x.name])) from by simp [cmdL,andL,HK.out,b_member,b_member,HQ1.out])
  go_enter Tryz.func63,Tryz.ntmps63
  go_wp2_with (first
   | (go_at_call 61;(with_reducible refine (lay2 w0 _ b _ _ _ _ H0.out HZ0.out HE0.out).mono ?_);rintro e w1 ⟨rfl,h⟩;have r:=HM0.out _ _ h;have yb0b0:=r.1;have y0b0c1:=r.cell (j:=1) rfl;have y0b0c5:=r.cell (j:=5) rfl;have y0b0c4:=r.cell (j:=4) rfl;clear r;have H1:=gH h;clear h)
   | (go_at_call 91;(with_reducible refine (nam3 w0 _ b _ _ _ _ _ _ H1.out HT.out HZ1.out rfl hsm.out.actor hsm.out.role hsm.out.name).mono ?_);rintro e w2 h;rw [HQ1.out] at h;obtain ⟨rfl,h⟩:=h;have H2:=gH h;clear h))
  go_end0
  rw [HS.out]
  exact ⟨rfl,LyS.conv (by first | (simp only [List.append_assoc];rfl) | simp only [List.append_assoc]) H2.out.pop⟩
theorem cmd_k13 (w0:World) (Q:List (Nat × Obj)) (b:Nat) (L:Ws) (x:Cmd) (A:Option Addr) (k:Nat) (A2:Option Addr) (k2:Nat) (w:World) (h:LyS w0 Q b L w) (ht:TabW w0) (sm:SmC x) (hn:L.length≤50) (hcc:SlAt w0 3 ColR A k x.cols) (hc:SlAt w0 1 StrR A2 k2 x.rule.cols) (hlc:x.cols.length≤4100) (hl:x.rule.cols.length≤4100) (hk:x.kind=13) :
  Calls Tryz.prog 63 #[.pointer (some ⟨b,0,none⟩),.agg #[.int .i64 x.kind,.string x.actor,.string x.schema,.string x.table,.string x.name,.string x.role,.slice A x.cols.length k,.string x.rule.name,.int .i64 x.rule.kind,.slice A2 x.rule.cols.length k2,.int .i64 x.rule.low,.int .i64 x.rule.high,.string x.rule.schema,.string x.rule.table,.string x.rule.key,.int .i64 x.right,.bool x.opt]] w (LyQ w0 Q b L (cmdL x)):=by
 have b1:(x.kind==1)=false:=by simp [hk]
 have b2:(x.kind==2)=false:=by simp [hk]
 have b3:(x.kind==3)=false:=by simp [hk]
 have b4:(x.kind==4)=false:=by simp [hk]
 have b5:(x.kind==5)=false:=by simp [hk]
 have b6:(x.kind==6)=false:=by simp [hk]
 have b7:(x.kind==7)=false:=by simp [hk]
 have b8:(x.kind==8)=false:=by simp [hk]
 have b9:(x.kind==9)=false:=by simp [hk]
 have b10:(x.kind==10)=false:=by simp [hk]
 have b11:(x.kind==11)=false:=by simp [hk]
 have b12:(x.kind==12)=false:=by simp [hk]
 have b13:(x.kind==13)=true:=by simp [hk]
 have b14:(x.kind==14)=false:=by simp [hk]
 have b15:(x.kind==15)=false:=by simp [hk]
 have HT:=gH ht
 have hsm:=gH sm
 have HC:=gH hc
 have HCC:=gH hcc
 clear ht sm hc hcc
 have HK:=gH hk
 clear hk
 obtain ⟨h0,hm0,he0⟩:=box1 h [.int .i64 x.kind,.string x.actor,.string x.schema,.string x.table,.string x.name,.string x.role,.slice A x.cols.length k,.string x.rule.name,.int .i64 x.rule.kind,.slice A2 x.rule.cols.length k2,.int .i64 x.rule.low,.int .i64 x.rule.high,.string x.rule.schema,.string x.rule.table,.string x.rule.key,.int .i64 x.right,.bool x.opt] 31
 have H0:=gH h0
 have HE0:=gH he0
 have HM0:=gH hm0
 clear h h0 he0 hm0
 have HZ0:=gH (show (L).length≤40000 from by (try simp only [List.length_append,List.length_cons,List.length_nil,List.length_map]);omega)
 have HZ1:=gH (show (L++[(⟨#[117,110,109,101,109,98,101,114]⟩:ByteArray)]).length≤45000 from by (try simp only [List.length_append,List.length_cons,List.length_nil,List.length_map]);omega)
 rcases nms_cases [x.actor,x.role,x.name] with q1 | q1<;>have HQ1:=gH q1<;>clear q1
 ·have HS:=gH (show cmdL x=none from by simp [cmdL,andL,HK.out,b_unmember,b_unmember,HQ1.out])
  go_enter Tryz.func63,Tryz.ntmps63
  go_wp2_with (first
   | (go_at_call 61;(with_reducible refine (lay2 w0 _ b _ _ _ _ H0.out HZ0.out HE0.out).mono ?_);rintro e w1 ⟨rfl,h⟩;have r:=HM0.out _ _ h;have yb0b0:=r.1;have y0b0c1:=r.cell (j:=1) rfl;have y0b0c5:=r.cell (j:=5) rfl;have y0b0c4:=r.cell (j:=4) rfl;clear r;have H1:=gH h;clear h)
   | (go_at_call 91;(with_reducible refine (nam3 w0 _ b _ _ _ _ _ _ H1.out HT.out HZ1.out rfl hsm.out.actor hsm.out.role hsm.out.name).mono ?_);rintro e w2 h;rw [HQ1.out] at h;obtain ⟨he,h⟩:=h;have H2:=gH h;clear h;unfold NoL at he;subst he))
  rw [HS.out]
  exact ⟨rfl,rfl,H2.out⟩
 ·have HS:=gH (show cmdL x=some ([(⟨#[117,110,109,101,109,98,101,114]⟩:ByteArray)]++([x.actor,x.role,x.name])) from by simp [cmdL,andL,HK.out,b_unmember,b_unmember,HQ1.out])
  go_enter Tryz.func63,Tryz.ntmps63
  go_wp2_with (first
   | (go_at_call 61;(with_reducible refine (lay2 w0 _ b _ _ _ _ H0.out HZ0.out HE0.out).mono ?_);rintro e w1 ⟨rfl,h⟩;have r:=HM0.out _ _ h;have yb0b0:=r.1;have y0b0c1:=r.cell (j:=1) rfl;have y0b0c5:=r.cell (j:=5) rfl;have y0b0c4:=r.cell (j:=4) rfl;clear r;have H1:=gH h;clear h)
   | (go_at_call 91;(with_reducible refine (nam3 w0 _ b _ _ _ _ _ _ H1.out HT.out HZ1.out rfl hsm.out.actor hsm.out.role hsm.out.name).mono ?_);rintro e w2 h;rw [HQ1.out] at h;obtain ⟨rfl,h⟩:=h;have H2:=gH h;clear h))
  go_end0
  rw [HS.out]
  exact ⟨rfl,LyS.conv (by first | (simp only [List.append_assoc];rfl) | simp only [List.append_assoc]) H2.out.pop⟩
theorem cmd_k14 (w0:World) (Q:List (Nat × Obj)) (b:Nat) (L:Ws) (x:Cmd) (A:Option Addr) (k:Nat) (A2:Option Addr) (k2:Nat) (w:World) (h:LyS w0 Q b L w) (ht:TabW w0) (sm:SmC x) (hn:L.length≤50) (hcc:SlAt w0 3 ColR A k x.cols) (hc:SlAt w0 1 StrR A2 k2 x.rule.cols) (hlc:x.cols.length≤4100) (hl:x.rule.cols.length≤4100) (hk:x.kind=14) :
  Calls Tryz.prog 63 #[.pointer (some ⟨b,0,none⟩),.agg #[.int .i64 x.kind,.string x.actor,.string x.schema,.string x.table,.string x.name,.string x.role,.slice A x.cols.length k,.string x.rule.name,.int .i64 x.rule.kind,.slice A2 x.rule.cols.length k2,.int .i64 x.rule.low,.int .i64 x.rule.high,.string x.rule.schema,.string x.rule.table,.string x.rule.key,.int .i64 x.right,.bool x.opt]] w (LyQ w0 Q b L (cmdL x)):=by
 have b1:(x.kind==1)=false:=by simp [hk]
 have b2:(x.kind==2)=false:=by simp [hk]
 have b3:(x.kind==3)=false:=by simp [hk]
 have b4:(x.kind==4)=false:=by simp [hk]
 have b5:(x.kind==5)=false:=by simp [hk]
 have b6:(x.kind==6)=false:=by simp [hk]
 have b7:(x.kind==7)=false:=by simp [hk]
 have b8:(x.kind==8)=false:=by simp [hk]
 have b9:(x.kind==9)=false:=by simp [hk]
 have b10:(x.kind==10)=false:=by simp [hk]
 have b11:(x.kind==11)=false:=by simp [hk]
 have b12:(x.kind==12)=false:=by simp [hk]
 have b13:(x.kind==13)=false:=by simp [hk]
 have b14:(x.kind==14)=true:=by simp [hk]
 have b15:(x.kind==15)=false:=by simp [hk]
 have HT:=gH ht
 have hsm:=gH sm
 have HC:=gH hc
 have HCC:=gH hcc
 clear ht sm hc hcc
 have HK:=gH hk
 clear hk
 obtain ⟨h0,hm0,he0⟩:=box1 h [.int .i64 x.kind,.string x.actor,.string x.schema,.string x.table,.string x.name,.string x.role,.slice A x.cols.length k,.string x.rule.name,.int .i64 x.rule.kind,.slice A2 x.rule.cols.length k2,.int .i64 x.rule.low,.int .i64 x.rule.high,.string x.rule.schema,.string x.rule.table,.string x.rule.key,.int .i64 x.right,.bool x.opt] 31
 have H0:=gH h0
 have HE0:=gH he0
 have HM0:=gH hm0
 clear h h0 he0 hm0
 have HZ0:=gH (show (L).length≤100 from by (try simp only [List.length_append,List.length_cons,List.length_nil,List.length_map]);omega)
 obtain ⟨o0,q0⟩:∃ o,onTabL (⟨#[103,114,97,110,116]⟩:ByteArray) x=o:=⟨_,rfl⟩
 have HQ0:=gH q0
 cases o0 with
 | none =>
  clear q0
  have HS:=gH (show cmdL x=none from by simp [cmdL,andL,HK.out,b_grant,HQ0.out])
  go_enter Tryz.func63,Tryz.ntmps63
  go_wp2_with (first
   | (go_at_call 92;(with_reducible refine (onTab_in _ w0 _ b _ x A k A2 k2 _ H0.out HT.out hsm.out HZ0.out).mono ?_);rintro e w1 h;rw [HQ0.out] at h;obtain ⟨he,h⟩:=h;have H1:=gH h;clear h;unfold NoL at he;subst he))
  rw [HS.out]
  exact ⟨rfl,rfl,H1.out⟩
 | some W0 =>
  have hw0:=onTab_len q0
  clear q0
  have HZ1:=gH (show (L++W0).length≤100 from by (try simp only [List.length_append,List.length_cons,List.length_nil,List.length_map]);omega)
  obtain ⟨o1,q1⟩:∃ o,rightL x=o:=⟨_,rfl⟩
  have HQ1:=gH q1
  cases o1 with
  | none =>
   clear q1
   have HS:=gH (show cmdL x=none from by simp [cmdL,andL,HK.out,b_grant,HQ0.out,HQ1.out])
   go_enter Tryz.func63,Tryz.ntmps63
   go_wp2_with (first
    | (go_at_call 92;(with_reducible refine (onTab_in _ w0 _ b _ x A k A2 k2 _ H0.out HT.out hsm.out HZ0.out).mono ?_);rintro e w1 h;rw [HQ0.out] at h;obtain ⟨rfl,h⟩:=h;have r:=HM0.out _ _ h;have yb0b0:=r.1;have y0b0c0:=r.cell (j:=0) rfl;have y0b0c1:=r.cell (j:=1) rfl;have y0b0c2:=r.cell (j:=2) rfl;have y0b0c3:=r.cell (j:=3) rfl;have y0b0c4:=r.cell (j:=4) rfl;have y0b0c5:=r.cell (j:=5) rfl;have y0b0c6:=r.cell (j:=6) rfl;have y0b0c7:=r.cell (j:=7) rfl;have y0b0c8:=r.cell (j:=8) rfl;have y0b0c9:=r.cell (j:=9) rfl;have y0b0c10:=r.cell (j:=10) rfl;have y0b0c11:=r.cell (j:=11) rfl;have y0b0c12:=r.cell (j:=12) rfl;have y0b0c13:=r.cell (j:=13) rfl;have y0b0c14:=r.cell (j:=14) rfl;have y0b0c15:=r.cell (j:=15) rfl;have y0b0c16:=r.cell (j:=16) rfl;clear r;have H1:=gH h;clear h)
    | (go_at_call 95;(with_reducible refine (right_in w0 _ b _ x A k A2 k2 _ H1.out HT.out hsm.out HZ1.out).mono ?_);rintro e w2 h;rw [HQ1.out] at h;obtain ⟨he,h⟩:=h;have H2:=gH h;clear h;unfold NoL at he;subst he))
   rw [HS.out]
   exact ⟨rfl,rfl,H2.out⟩
  | some W1 =>
   have hw1:=right_len q1
   clear q1
   have HS:=gH (show cmdL x=some (W0++(W1)) from by simp [cmdL,andL,HK.out,b_grant,HQ0.out,HQ1.out])
   go_enter Tryz.func63,Tryz.ntmps63
   go_wp2_with (first
    | (go_at_call 92;(with_reducible refine (onTab_in _ w0 _ b _ x A k A2 k2 _ H0.out HT.out hsm.out HZ0.out).mono ?_);rintro e w1 h;rw [HQ0.out] at h;obtain ⟨rfl,h⟩:=h;have r:=HM0.out _ _ h;have yb0b0:=r.1;have y0b0c0:=r.cell (j:=0) rfl;have y0b0c1:=r.cell (j:=1) rfl;have y0b0c2:=r.cell (j:=2) rfl;have y0b0c3:=r.cell (j:=3) rfl;have y0b0c4:=r.cell (j:=4) rfl;have y0b0c5:=r.cell (j:=5) rfl;have y0b0c6:=r.cell (j:=6) rfl;have y0b0c7:=r.cell (j:=7) rfl;have y0b0c8:=r.cell (j:=8) rfl;have y0b0c9:=r.cell (j:=9) rfl;have y0b0c10:=r.cell (j:=10) rfl;have y0b0c11:=r.cell (j:=11) rfl;have y0b0c12:=r.cell (j:=12) rfl;have y0b0c13:=r.cell (j:=13) rfl;have y0b0c14:=r.cell (j:=14) rfl;have y0b0c15:=r.cell (j:=15) rfl;have y0b0c16:=r.cell (j:=16) rfl;clear r;have H1:=gH h;clear h)
    | (go_at_call 95;(with_reducible refine (right_in w0 _ b _ x A k A2 k2 _ H1.out HT.out hsm.out HZ1.out).mono ?_);rintro e w2 h;rw [HQ1.out] at h;obtain ⟨rfl,h⟩:=h;have H2:=gH h;clear h))
   go_end0
   rw [HS.out]
   exact ⟨rfl,LyS.conv (by first | (simp only [List.append_assoc];rfl) | simp only [List.append_assoc]) H2.out.pop⟩
theorem cmd_k15 (w0:World) (Q:List (Nat × Obj)) (b:Nat) (L:Ws) (x:Cmd) (A:Option Addr) (k:Nat) (A2:Option Addr) (k2:Nat) (w:World) (h:LyS w0 Q b L w) (ht:TabW w0) (sm:SmC x) (hn:L.length≤50) (hcc:SlAt w0 3 ColR A k x.cols) (hc:SlAt w0 1 StrR A2 k2 x.rule.cols) (hlc:x.cols.length≤4100) (hl:x.rule.cols.length≤4100) (hk:x.kind=15) :
  Calls Tryz.prog 63 #[.pointer (some ⟨b,0,none⟩),.agg #[.int .i64 x.kind,.string x.actor,.string x.schema,.string x.table,.string x.name,.string x.role,.slice A x.cols.length k,.string x.rule.name,.int .i64 x.rule.kind,.slice A2 x.rule.cols.length k2,.int .i64 x.rule.low,.int .i64 x.rule.high,.string x.rule.schema,.string x.rule.table,.string x.rule.key,.int .i64 x.right,.bool x.opt]] w (LyQ w0 Q b L (cmdL x)):=by
 have b1:(x.kind==1)=false:=by simp [hk]
 have b2:(x.kind==2)=false:=by simp [hk]
 have b3:(x.kind==3)=false:=by simp [hk]
 have b4:(x.kind==4)=false:=by simp [hk]
 have b5:(x.kind==5)=false:=by simp [hk]
 have b6:(x.kind==6)=false:=by simp [hk]
 have b7:(x.kind==7)=false:=by simp [hk]
 have b8:(x.kind==8)=false:=by simp [hk]
 have b9:(x.kind==9)=false:=by simp [hk]
 have b10:(x.kind==10)=false:=by simp [hk]
 have b11:(x.kind==11)=false:=by simp [hk]
 have b12:(x.kind==12)=false:=by simp [hk]
 have b13:(x.kind==13)=false:=by simp [hk]
 have b14:(x.kind==14)=false:=by simp [hk]
 have b15:(x.kind==15)=true:=by simp [hk]
 have HT:=gH ht
 have hsm:=gH sm
 have HC:=gH hc
 have HCC:=gH hcc
 clear ht sm hc hcc
 have HK:=gH hk
 clear hk
 obtain ⟨h0,hm0,he0⟩:=box1 h [.int .i64 x.kind,.string x.actor,.string x.schema,.string x.table,.string x.name,.string x.role,.slice A x.cols.length k,.string x.rule.name,.int .i64 x.rule.kind,.slice A2 x.rule.cols.length k2,.int .i64 x.rule.low,.int .i64 x.rule.high,.string x.rule.schema,.string x.rule.table,.string x.rule.key,.int .i64 x.right,.bool x.opt] 31
 have H0:=gH h0
 have HE0:=gH he0
 have HM0:=gH hm0
 clear h h0 he0 hm0
 have HZ0:=gH (show (L).length≤100 from by (try simp only [List.length_append,List.length_cons,List.length_nil,List.length_map]);omega)
 obtain ⟨o0,q0⟩:∃ o,onTabL (⟨#[114,101,118,111,107,101]⟩:ByteArray) x=o:=⟨_,rfl⟩
 have HQ0:=gH q0
 cases o0 with
 | none =>
  clear q0
  have HS:=gH (show cmdL x=none from by simp [cmdL,andL,HK.out,b_revoke,HQ0.out])
  go_enter Tryz.func63,Tryz.ntmps63
  go_wp2_with (first
   | (go_at_call 92;(with_reducible refine (onTab_in _ w0 _ b _ x A k A2 k2 _ H0.out HT.out hsm.out HZ0.out).mono ?_);rintro e w1 h;rw [HQ0.out] at h;obtain ⟨he,h⟩:=h;have H1:=gH h;clear h;unfold NoL at he;subst he))
  rw [HS.out]
  exact ⟨rfl,rfl,H1.out⟩
 | some W0 =>
  have hw0:=onTab_len q0
  clear q0
  have HZ1:=gH (show (L++W0).length≤100 from by (try simp only [List.length_append,List.length_cons,List.length_nil,List.length_map]);omega)
  obtain ⟨o1,q1⟩:∃ o,rightL x=o:=⟨_,rfl⟩
  have HQ1:=gH q1
  cases o1 with
  | none =>
   clear q1
   have HS:=gH (show cmdL x=none from by simp [cmdL,andL,HK.out,b_revoke,HQ0.out,HQ1.out])
   go_enter Tryz.func63,Tryz.ntmps63
   go_wp2_with (first
    | (go_at_call 92;(with_reducible refine (onTab_in _ w0 _ b _ x A k A2 k2 _ H0.out HT.out hsm.out HZ0.out).mono ?_);rintro e w1 h;rw [HQ0.out] at h;obtain ⟨rfl,h⟩:=h;have r:=HM0.out _ _ h;have yb0b0:=r.1;have y0b0c0:=r.cell (j:=0) rfl;have y0b0c1:=r.cell (j:=1) rfl;have y0b0c2:=r.cell (j:=2) rfl;have y0b0c3:=r.cell (j:=3) rfl;have y0b0c4:=r.cell (j:=4) rfl;have y0b0c5:=r.cell (j:=5) rfl;have y0b0c6:=r.cell (j:=6) rfl;have y0b0c7:=r.cell (j:=7) rfl;have y0b0c8:=r.cell (j:=8) rfl;have y0b0c9:=r.cell (j:=9) rfl;have y0b0c10:=r.cell (j:=10) rfl;have y0b0c11:=r.cell (j:=11) rfl;have y0b0c12:=r.cell (j:=12) rfl;have y0b0c13:=r.cell (j:=13) rfl;have y0b0c14:=r.cell (j:=14) rfl;have y0b0c15:=r.cell (j:=15) rfl;have y0b0c16:=r.cell (j:=16) rfl;clear r;have H1:=gH h;clear h)
    | (go_at_call 95;(with_reducible refine (right_in w0 _ b _ x A k A2 k2 _ H1.out HT.out hsm.out HZ1.out).mono ?_);rintro e w2 h;rw [HQ1.out] at h;obtain ⟨he,h⟩:=h;have H2:=gH h;clear h;unfold NoL at he;subst he))
   rw [HS.out]
   exact ⟨rfl,rfl,H2.out⟩
  | some W1 =>
   have hw1:=right_len q1
   clear q1
   have HS:=gH (show cmdL x=some (W0++(W1)) from by simp [cmdL,andL,HK.out,b_revoke,HQ0.out,HQ1.out])
   go_enter Tryz.func63,Tryz.ntmps63
   go_wp2_with (first
    | (go_at_call 92;(with_reducible refine (onTab_in _ w0 _ b _ x A k A2 k2 _ H0.out HT.out hsm.out HZ0.out).mono ?_);rintro e w1 h;rw [HQ0.out] at h;obtain ⟨rfl,h⟩:=h;have r:=HM0.out _ _ h;have yb0b0:=r.1;have y0b0c0:=r.cell (j:=0) rfl;have y0b0c1:=r.cell (j:=1) rfl;have y0b0c2:=r.cell (j:=2) rfl;have y0b0c3:=r.cell (j:=3) rfl;have y0b0c4:=r.cell (j:=4) rfl;have y0b0c5:=r.cell (j:=5) rfl;have y0b0c6:=r.cell (j:=6) rfl;have y0b0c7:=r.cell (j:=7) rfl;have y0b0c8:=r.cell (j:=8) rfl;have y0b0c9:=r.cell (j:=9) rfl;have y0b0c10:=r.cell (j:=10) rfl;have y0b0c11:=r.cell (j:=11) rfl;have y0b0c12:=r.cell (j:=12) rfl;have y0b0c13:=r.cell (j:=13) rfl;have y0b0c14:=r.cell (j:=14) rfl;have y0b0c15:=r.cell (j:=15) rfl;have y0b0c16:=r.cell (j:=16) rfl;clear r;have H1:=gH h;clear h)
    | (go_at_call 95;(with_reducible refine (right_in w0 _ b _ x A k A2 k2 _ H1.out HT.out hsm.out HZ1.out).mono ?_);rintro e w2 h;rw [HQ1.out] at h;obtain ⟨rfl,h⟩:=h;have H2:=gH h;clear h))
   go_end0
   rw [HS.out]
   exact ⟨rfl,LyS.conv (by first | (simp only [List.append_assoc];rfl) | simp only [List.append_assoc]) H2.out.pop⟩
theorem cmd_k0 (w0:World) (Q:List (Nat × Obj)) (b:Nat) (L:Ws) (x:Cmd) (A:Option Addr) (k:Nat) (A2:Option Addr) (k2:Nat) (w:World) (h:LyS w0 Q b L w) (ht:TabW w0) (sm:SmC x) (hn:L.length≤50) (hcc:SlAt w0 3 ColR A k x.cols) (hc:SlAt w0 1 StrR A2 k2 x.rule.cols) (hlc:x.cols.length≤4100) (hl:x.rule.cols.length≤4100) (h1:x.kind≠1) (h2:x.kind≠2) (h3:x.kind≠3) (h4:x.kind≠4) (h5:x.kind≠5) (h6:x.kind≠6) (h7:x.kind≠7) (h8:x.kind≠8) (h9:x.kind≠9) (h10:x.kind≠10) (h11:x.kind≠11) (h12:x.kind≠12) (h13:x.kind≠13) (h14:x.kind≠14) (h15:x.kind≠15) :
  Calls Tryz.prog 63 #[.pointer (some ⟨b,0,none⟩),.agg #[.int .i64 x.kind,.string x.actor,.string x.schema,.string x.table,.string x.name,.string x.role,.slice A x.cols.length k,.string x.rule.name,.int .i64 x.rule.kind,.slice A2 x.rule.cols.length k2,.int .i64 x.rule.low,.int .i64 x.rule.high,.string x.rule.schema,.string x.rule.table,.string x.rule.key,.int .i64 x.right,.bool x.opt]] w (LyQ w0 Q b L (cmdL x)):=by
 have b1:(x.kind==1)=false:=by simp [h1]
 have b2:(x.kind==2)=false:=by simp [h2]
 have b3:(x.kind==3)=false:=by simp [h3]
 have b4:(x.kind==4)=false:=by simp [h4]
 have b5:(x.kind==5)=false:=by simp [h5]
 have b6:(x.kind==6)=false:=by simp [h6]
 have b7:(x.kind==7)=false:=by simp [h7]
 have b8:(x.kind==8)=false:=by simp [h8]
 have b9:(x.kind==9)=false:=by simp [h9]
 have b10:(x.kind==10)=false:=by simp [h10]
 have b11:(x.kind==11)=false:=by simp [h11]
 have b12:(x.kind==12)=false:=by simp [h12]
 have b13:(x.kind==13)=false:=by simp [h13]
 have b14:(x.kind==14)=false:=by simp [h14]
 have b15:(x.kind==15)=false:=by simp [h15]
 have HS:=gH (show cmdL x=none from by simp [cmdL,h1,h2,h3,h4,h5,h6,h7,h8,h9,h10,h11,h12,h13,h14,h15])
 have HA:=gH h.aft
 clear h1 h2 h3 h4 h5 h6 h7 h8 h9 h10 h11 h12 h13 h14 h15 h
 go_enter Tryz.func63,Tryz.ntmps63
 go_wp2_with (first
  | (go_at_call 18;with_reducible refine (dis_no _).mono ?_;rintro e w3 ⟨he,rfl⟩;unfold NoL at he;subst he))
 rw [HS.out]
 exact ⟨rfl,rfl,HA.out.alloc _⟩
theorem cmd_in (w0:World) (Q:List (Nat × Obj)) (b:Nat) (L:Ws) (x:Cmd) (A:Option Addr) (k:Nat) (A2:Option Addr) (k2:Nat) (w:World) (h:LyS w0 Q b L w) (ht:TabW w0) (sm:SmC x) (hn:L.length≤50) (hcc:SlAt w0 3 ColR A k x.cols) (hc:SlAt w0 1 StrR A2 k2 x.rule.cols) (hlc:x.cols.length≤4100) (hl:x.rule.cols.length≤4100) :
  Calls Tryz.prog 63 #[.pointer (some ⟨b,0,none⟩),.agg #[.int .i64 x.kind,.string x.actor,.string x.schema,.string x.table,.string x.name,.string x.role,.slice A x.cols.length k,.string x.rule.name,.int .i64 x.rule.kind,.slice A2 x.rule.cols.length k2,.int .i64 x.rule.low,.int .i64 x.rule.high,.string x.rule.schema,.string x.rule.table,.string x.rule.key,.int .i64 x.right,.bool x.opt]] w (LyQ w0 Q b L (cmdL x)):=by
 by_cases h1:x.kind=1
 ·exact cmd_k1 w0 Q b L x A k A2 k2 w h ht sm hn hcc hc hlc hl h1
 by_cases h2:x.kind=2
 ·exact cmd_k2 w0 Q b L x A k A2 k2 w h ht sm hn hcc hc hlc hl h2
 by_cases h3:x.kind=3
 ·exact cmd_k3 w0 Q b L x A k A2 k2 w h ht sm hn hcc hc hlc hl h3
 by_cases h4:x.kind=4
 ·exact cmd_k4 w0 Q b L x A k A2 k2 w h ht sm hn hcc hc hlc hl h4
 by_cases h5:x.kind=5
 ·exact cmd_k5 w0 Q b L x A k A2 k2 w h ht sm hn hcc hc hlc hl h5
 by_cases h6:x.kind=6
 ·exact cmd_k6 w0 Q b L x A k A2 k2 w h ht sm hn hcc hc hlc hl h6
 by_cases h7:x.kind=7
 ·exact cmd_k7 w0 Q b L x A k A2 k2 w h ht sm hn hcc hc hlc hl h7
 by_cases h8:x.kind=8
 ·exact cmd_k8 w0 Q b L x A k A2 k2 w h ht sm hn hcc hc hlc hl h8
 by_cases h9:x.kind=9
 ·exact cmd_k9 w0 Q b L x A k A2 k2 w h ht sm hn hcc hc hlc hl h9
 by_cases h10:x.kind=10
 ·exact cmd_k10 w0 Q b L x A k A2 k2 w h ht sm hn hcc hc hlc hl h10
 by_cases h11:x.kind=11
 ·exact cmd_k11 w0 Q b L x A k A2 k2 w h ht sm hn hcc hc hlc hl h11
 by_cases h12:x.kind=12
 ·exact cmd_k12 w0 Q b L x A k A2 k2 w h ht sm hn hcc hc hlc hl h12
 by_cases h13:x.kind=13
 ·exact cmd_k13 w0 Q b L x A k A2 k2 w h ht sm hn hcc hc hlc hl h13
 by_cases h14:x.kind=14
 ·exact cmd_k14 w0 Q b L x A k A2 k2 w h ht sm hn hcc hc hlc hl h14
 by_cases h15:x.kind=15
 ·exact cmd_k15 w0 Q b L x A k A2 k2 w h ht sm hn hcc hc hlc hl h15
 exact cmd_k0 w0 Q b L x A k A2 k2 w h ht sm hn hcc hc hlc hl h1 h2 h3 h4 h5 h6 h7 h8 h9 h10 h11 h12 h13 h14 h15
end Go.Proofs.YtbdanlipghhgpaaGreatDoor
