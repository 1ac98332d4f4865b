import Derived.Lib.ItoaLen
import Derived.Test.YtbdanlipghhgpaaGreatDoorPartP13
import Derived.Test.YtbdanlipghhgpaaGreatDoorPartP16
namespace Go.Proofs.YtbdanlipghhgpaaGreatDoor
open Go.RowKit Go.Deep
set_option maxRecDepth 100000
set_option linter.unusedVariables false
set_option maxHeartbeats 64000000
abbrev c33 (a:Dact) (A:Option Addr) (k:Nat) (A2:Option Addr) (k2:Nat) (A3:Option Addr) (k3:Nat):List Value:=.int .i64 a.kind::.int .i64 a.node::.int .i64 a.n::.int .i64 a.client::.int .i64 a.number::.int .i64 a.cmd.kind::.string a.cmd.actor::.string a.cmd.schema::.string a.cmd.table::.string a.cmd.name::.string a.cmd.role::.slice A a.cmd.cols.length k::.string a.cmd.rule.name::.int .i64 a.cmd.rule.kind::.slice A2 a.cmd.rule.cols.length k2::.int .i64 a.cmd.rule.low::.int .i64 a.cmd.rule.high::.string a.cmd.rule.schema::.string a.cmd.rule.table::.string a.cmd.rule.key::.int .i64 a.cmd.right::.bool a.cmd.opt::.int .i64 a.ck::.int .i64 a.cn::.int .i64 a.row.kind::.string a.row.role::.string a.row.schema::.string a.row.table::.slice A3 a.row.row.length k3::.string a.row.col::.int .i64 a.row.v.kind::.int .i64 a.row.v.int::.string a.row.v.text::[]
def chgX (k:Int):ByteArray:=if k = -9223372036854775808 then b_remove else chgW k
def actM (a:Dact):Option Ws:=if a.kind=8 then andL (some [chgX a.ck]) (nusL [a.node,a.cn]) else actL a
theorem actM_of {a:Dact} (h:a.kind=8→1≤a.ck):actM a=actL a:=by
 unfold actM
 by_cases hk:a.kind=8
 ·have h1:=h hk
  rw [if_pos hk]
  simp [actL,hk,chgX,show ¬ a.ck = -9223372036854775808 by omega]
 ·rw [if_neg hk]
theorem act_k1 (w0:World) (Q:List (Nat × Obj)) (b:Nat) (L:Ws) (a:Dact) (A:Option Addr) (k:Nat) (A2:Option Addr) (k2:Nat) (A3:Option Addr) (k3:Nat) (w:World) (h:LyS w0 Q b L w) (ht:TabW w0) (sm:SmC a.cmd) (so:SmO a.row) (hn:L.length≤10) (hcc:SlAt w0 3 ColR A k a.cmd.cols) (hc:SlAt w0 1 StrR A2 k2 a.cmd.rule.cols) (hv:SlAt w0 3 ValR A3 k3 a.row.row) (hlc:a.cmd.cols.length≤4100) (hl:a.cmd.rule.cols.length≤4100) (hlr:a.row.row.length≤4100) (hk:a.kind=1) :
  Calls Tryz.prog 36 #[.pointer (some ⟨b,0,none⟩),.agg (c33 a A k A2 k2 A3 k3).toArray] w (LyQ w0 Q b L (actM a)):=by
 delta c33
 have b1:(a.kind==1)=true:=by simp [hk]
 have b2:(a.kind==2)=false:=by simp [hk]
 have b12:(a.kind==12)=false:=by simp [hk]
 have b3:(a.kind==3)=false:=by simp [hk]
 have b4:(a.kind==4)=false:=by simp [hk]
 have b5:(a.kind==5)=false:=by simp [hk]
 have b6:(a.kind==6)=false:=by simp [hk]
 have b7:(a.kind==7)=false:=by simp [hk]
 have b8:(a.kind==8)=false:=by simp [hk]
 have b9:(a.kind==9)=false:=by simp [hk]
 have b10:(a.kind==10)=false:=by simp [hk]
 have b11:(a.kind==11)=false:=by simp [hk]
 have HT:=gH ht
 have HSM:=gH sm
 have HSO:=gH so
 have HC:=gH hc
 have HCC:=gH hcc
 have HV:=gH hv
 clear ht sm so hc hcc hv
 have HK:=gH hk
 clear hk
 obtain ⟨h0,hm0,he0⟩:=box1 h (c33 a A k A2 k2 A3 k3) 43
 delta c33 at h0 he0 hm0
 have H0:=gH h0
 have HE0:=gH he0
 have HM0:=gH hm0
 clear h h0 he0 hm0
 have HZ0:=gH (show (L).length≤40000 from by (try simp only [List.length_append,List.length_cons,List.length_nil,List.length_map]);omega)
 have HZ1:=gH (show (L++[(⟨#[116,105,99,107]⟩:ByteArray)]).length≤50000 from by (try simp only [List.length_append,List.length_cons,List.length_nil,List.length_map]);omega)
 rcases nus_cases [a.node] with q1 | q1<;>have HQ1:=gH q1<;>clear q1
 ·have HS:=gH (show actM a=none from by simp [actM,actL,andL,HK.out,b_tick,HQ1.out])
  go_enter Tryz.func36,Tryz.ntmps36
  go_wp2_with (first
   | (go_at_call 61;(with_reducible refine (lay2 w0 _ b _ _ _ _ H0.out HZ0.out HE0.out).mono ?_);rintro e w1 ⟨rfl,h⟩;have r:=HM0.out _ _ h;have yb0b0:=r.1;have y0b0c1:=r.cell (j:=1) rfl;clear r;have H1:=gH h;clear h)
   | (go_at_call 62;(with_reducible refine (num1 w0 _ b _ _ _ _ H1.out HT.out HZ1.out rfl).mono ?_);rintro e w2 h;rw [HQ1.out] at h;obtain ⟨he,h⟩:=h;have H2:=gH h;clear h;unfold NoL at he;subst he))
  rw [HS.out]
  exact ⟨rfl,rfl,H2.out⟩
 ·have HS:=gH (show actM a=some ([(⟨#[116,105,99,107]⟩:ByteArray)]++(List.map itoaB [a.node])) from by simp [actM,actL,andL,HK.out,b_tick,HQ1.out])
  go_enter Tryz.func36,Tryz.ntmps36
  go_wp2_with (first
   | (go_at_call 61;(with_reducible refine (lay2 w0 _ b _ _ _ _ H0.out HZ0.out HE0.out).mono ?_);rintro e w1 ⟨rfl,h⟩;have r:=HM0.out _ _ h;have yb0b0:=r.1;have y0b0c1:=r.cell (j:=1) rfl;clear r;have H1:=gH h;clear h)
   | (go_at_call 62;(with_reducible refine (num1 w0 _ b _ _ _ _ H1.out HT.out HZ1.out rfl).mono ?_);rintro e w2 h;rw [HQ1.out] at h;obtain ⟨rfl,h⟩:=h;have H2:=gH h;clear h))
  go_end0
  rw [HS.out]
  exact ⟨rfl,LyS.conv (by first | (simp only [List.append_assoc];rfl) | simp only [List.append_assoc]) H2.out.pop⟩
theorem act_k2 (w0:World) (Q:List (Nat × Obj)) (b:Nat) (L:Ws) (a:Dact) (A:Option Addr) (k:Nat) (A2:Option Addr) (k2:Nat) (A3:Option Addr) (k3:Nat) (w:World) (h:LyS w0 Q b L w) (ht:TabW w0) (sm:SmC a.cmd) (so:SmO a.row) (hn:L.length≤10) (hcc:SlAt w0 3 ColR A k a.cmd.cols) (hc:SlAt w0 1 StrR A2 k2 a.cmd.rule.cols) (hv:SlAt w0 3 ValR A3 k3 a.row.row) (hlc:a.cmd.cols.length≤4100) (hl:a.cmd.rule.cols.length≤4100) (hlr:a.row.row.length≤4100) (hk:a.kind=2) :
  Calls Tryz.prog 36 #[.pointer (some ⟨b,0,none⟩),.agg (c33 a A k A2 k2 A3 k3).toArray] w (LyQ w0 Q b L (actM a)):=by
 delta c33
 have b1:(a.kind==1)=false:=by simp [hk]
 have b2:(a.kind==2)=true:=by simp [hk]
 have b12:(a.kind==12)=false:=by simp [hk]
 have b3:(a.kind==3)=false:=by simp [hk]
 have b4:(a.kind==4)=false:=by simp [hk]
 have b5:(a.kind==5)=false:=by simp [hk]
 have b6:(a.kind==6)=false:=by simp [hk]
 have b7:(a.kind==7)=false:=by simp [hk]
 have b8:(a.kind==8)=false:=by simp [hk]
 have b9:(a.kind==9)=false:=by simp [hk]
 have b10:(a.kind==10)=false:=by simp [hk]
 have b11:(a.kind==11)=false:=by simp [hk]
 have HT:=gH ht
 have HSM:=gH sm
 have HSO:=gH so
 have HC:=gH hc
 have HCC:=gH hcc
 have HV:=gH hv
 clear ht sm so hc hcc hv
 have HK:=gH hk
 clear hk
 obtain ⟨h0,hm0,he0⟩:=box1 h (c33 a A k A2 k2 A3 k3) 43
 delta c33 at h0 he0 hm0
 have H0:=gH h0
 have HE0:=gH he0
 have HM0:=gH hm0
 clear h h0 he0 hm0
 have HZ0:=gH (show (L).length≤40000 from by (try simp only [List.length_append,List.length_cons,List.length_nil,List.length_map]);omega)
 have HS:=gH (show actM a=some ([(⟨#[119,111,114,108,100]⟩:ByteArray)]) from by simp [actM,actL,andL,HK.out,b_world])
 go_enter Tryz.func36,Tryz.ntmps36
 go_wp2_with (first
  | (go_at_call 61;(with_reducible refine (lay2 w0 _ b _ _ _ _ H0.out HZ0.out HE0.out).mono ?_);rintro e w1 ⟨rfl,h⟩;have H1:=gH h;clear h))
 go_end0
 rw [HS.out]
 exact ⟨rfl,LyS.conv (by first | (simp only [List.append_assoc];rfl) | simp only [List.append_assoc]) H1.out.pop⟩
theorem act_k12 (w0:World) (Q:List (Nat × Obj)) (b:Nat) (L:Ws) (a:Dact) (A:Option Addr) (k:Nat) (A2:Option Addr) (k2:Nat) (A3:Option Addr) (k3:Nat) (w:World) (h:LyS w0 Q b L w) (ht:TabW w0) (sm:SmC a.cmd) (so:SmO a.row) (hn:L.length≤10) (hcc:SlAt w0 3 ColR A k a.cmd.cols) (hc:SlAt w0 1 StrR A2 k2 a.cmd.rule.cols) (hv:SlAt w0 3 ValR A3 k3 a.row.row) (hlc:a.cmd.cols.length≤4100) (hl:a.cmd.rule.cols.length≤4100) (hlr:a.row.row.length≤4100) (hk:a.kind=12) :
  Calls Tryz.prog 36 #[.pointer (some ⟨b,0,none⟩),.agg (c33 a A k A2 k2 A3 k3).toArray] w (LyQ w0 Q b L (actM a)):=by
 delta c33
 have b1:(a.kind==1)=false:=by simp [hk]
 have b2:(a.kind==2)=false:=by simp [hk]
 have b12:(a.kind==12)=true:=by simp [hk]
 have b3:(a.kind==3)=false:=by simp [hk]
 have b4:(a.kind==4)=false:=by simp [hk]
 have b5:(a.kind==5)=false:=by simp [hk]
 have b6:(a.kind==6)=false:=by simp [hk]
 have b7:(a.kind==7)=false:=by simp [hk]
 have b8:(a.kind==8)=false:=by simp [hk]
 have b9:(a.kind==9)=false:=by simp [hk]
 have b10:(a.kind==10)=false:=by simp [hk]
 have b11:(a.kind==11)=false:=by simp [hk]
 have HT:=gH ht
 have HSM:=gH sm
 have HSO:=gH so
 have HC:=gH hc
 have HCC:=gH hcc
 have HV:=gH hv
 clear ht sm so hc hcc hv
 have HK:=gH hk
 clear hk
 obtain ⟨h0,hm0,he0⟩:=box1 h (c33 a A k A2 k2 A3 k3) 43
 delta c33 at h0 he0 hm0
 have H0:=gH h0
 have HE0:=gH he0
 have HM0:=gH hm0
 clear h h0 he0 hm0
 have HZ0:=gH (show (L).length≤40000 from by (try simp only [List.length_append,List.length_cons,List.length_nil,List.length_map]);omega)
 have HZ1:=gH (show (L++[(⟨#[115,116,97,114,116]⟩:ByteArray)]).length≤50000 from by (try simp only [List.length_append,List.length_cons,List.length_nil,List.length_map]);omega)
 rcases nus_cases [a.node] with q1 | q1<;>have HQ1:=gH q1<;>clear q1
 ·have HS:=gH (show actM a=none from by simp [actM,actL,andL,HK.out,b_start,HQ1.out])
  go_enter Tryz.func36,Tryz.ntmps36
  go_wp2_with (first
   | (go_at_call 61;(with_reducible refine (lay2 w0 _ b _ _ _ _ H0.out HZ0.out HE0.out).mono ?_);rintro e w1 ⟨rfl,h⟩;have r:=HM0.out _ _ h;have yb0b0:=r.1;have y0b0c1:=r.cell (j:=1) rfl;clear r;have H1:=gH h;clear h)
   | (go_at_call 62;(with_reducible refine (num1 w0 _ b _ _ _ _ H1.out HT.out HZ1.out rfl).mono ?_);rintro e w2 h;rw [HQ1.out] at h;obtain ⟨he,h⟩:=h;have H2:=gH h;clear h;unfold NoL at he;subst he))
  rw [HS.out]
  exact ⟨rfl,rfl,H2.out⟩
 ·have HS:=gH (show actM a=some ([(⟨#[115,116,97,114,116]⟩:ByteArray)]++(List.map itoaB [a.node])) from by simp [actM,actL,andL,HK.out,b_start,HQ1.out])
  go_enter Tryz.func36,Tryz.ntmps36
  go_wp2_with (first
   | (go_at_call 61;(with_reducible refine (lay2 w0 _ b _ _ _ _ H0.out HZ0.out HE0.out).mono ?_);rintro e w1 ⟨rfl,h⟩;have r:=HM0.out _ _ h;have yb0b0:=r.1;have y0b0c1:=r.cell (j:=1) rfl;clear r;have H1:=gH h;clear h)
   | (go_at_call 62;(with_reducible refine (num1 w0 _ b _ _ _ _ H1.out HT.out HZ1.out rfl).mono ?_);rintro e w2 h;rw [HQ1.out] at h;obtain ⟨rfl,h⟩:=h;have H2:=gH h;clear h))
  go_end0
  rw [HS.out]
  exact ⟨rfl,LyS.conv (by first | (simp only [List.append_assoc];rfl) | simp only [List.append_assoc]) H2.out.pop⟩
theorem act_k3 (w0:World) (Q:List (Nat × Obj)) (b:Nat) (L:Ws) (a:Dact) (A:Option Addr) (k:Nat) (A2:Option Addr) (k2:Nat) (A3:Option Addr) (k3:Nat) (w:World) (h:LyS w0 Q b L w) (ht:TabW w0) (sm:SmC a.cmd) (so:SmO a.row) (hn:L.length≤10) (hcc:SlAt w0 3 ColR A k a.cmd.cols) (hc:SlAt w0 1 StrR A2 k2 a.cmd.rule.cols) (hv:SlAt w0 3 ValR A3 k3 a.row.row) (hlc:a.cmd.cols.length≤4100) (hl:a.cmd.rule.cols.length≤4100) (hlr:a.row.row.length≤4100) (hk:a.kind=3) :
  Calls Tryz.prog 36 #[.pointer (some ⟨b,0,none⟩),.agg (c33 a A k A2 k2 A3 k3).toArray] w (LyQ w0 Q b L (actM a)):=by
 delta c33
 have b1:(a.kind==1)=false:=by simp [hk]
 have b2:(a.kind==2)=false:=by simp [hk]
 have b12:(a.kind==12)=false:=by simp [hk]
 have b3:(a.kind==3)=true:=by simp [hk]
 have b4:(a.kind==4)=false:=by simp [hk]
 have b5:(a.kind==5)=false:=by simp [hk]
 have b6:(a.kind==6)=false:=by simp [hk]
 have b7:(a.kind==7)=false:=by simp [hk]
 have b8:(a.kind==8)=false:=by simp [hk]
 have b9:(a.kind==9)=false:=by simp [hk]
 have b10:(a.kind==10)=false:=by simp [hk]
 have b11:(a.kind==11)=false:=by simp [hk]
 have HT:=gH ht
 have HSM:=gH sm
 have HSO:=gH so
 have HC:=gH hc
 have HCC:=gH hcc
 have HV:=gH hv
 clear ht sm so hc hcc hv
 have HK:=gH hk
 clear hk
 obtain ⟨h0,hm0,he0⟩:=box1 h (c33 a A k A2 k2 A3 k3) 43
 delta c33 at h0 he0 hm0
 have H0:=gH h0
 have HE0:=gH he0
 have HM0:=gH hm0
 clear h h0 he0 hm0
 have HZ0:=gH (show (L).length≤40000 from by (try simp only [List.length_append,List.length_cons,List.length_nil,List.length_map]);omega)
 have HZ1:=gH (show (L++[(⟨#[100,101,108,105,118,101,114]⟩:ByteArray)]).length≤50000 from by (try simp only [List.length_append,List.length_cons,List.length_nil,List.length_map]);omega)
 rcases nus_cases [a.n] with q1 | q1<;>have HQ1:=gH q1<;>clear q1
 ·have HS:=gH (show actM a=none from by simp [actM,actL,andL,HK.out,b_deliver,HQ1.out])
  go_enter Tryz.func36,Tryz.ntmps36
  go_wp2_with (first
   | (go_at_call 61;(with_reducible refine (lay2 w0 _ b _ _ _ _ H0.out HZ0.out HE0.out).mono ?_);rintro e w1 ⟨rfl,h⟩;have r:=HM0.out _ _ h;have yb0b0:=r.1;have y0b0c2:=r.cell (j:=2) rfl;clear r;have H1:=gH h;clear h)
   | (go_at_call 62;(with_reducible refine (num1 w0 _ b _ _ _ _ H1.out HT.out HZ1.out rfl).mono ?_);rintro e w2 h;rw [HQ1.out] at h;obtain ⟨he,h⟩:=h;have H2:=gH h;clear h;unfold NoL at he;subst he))
  rw [HS.out]
  exact ⟨rfl,rfl,H2.out⟩
 ·have HS:=gH (show actM a=some ([(⟨#[100,101,108,105,118,101,114]⟩:ByteArray)]++(List.map itoaB [a.n])) from by simp [actM,actL,andL,HK.out,b_deliver,HQ1.out])
  go_enter Tryz.func36,Tryz.ntmps36
  go_wp2_with (first
   | (go_at_call 61;(with_reducible refine (lay2 w0 _ b _ _ _ _ H0.out HZ0.out HE0.out).mono ?_);rintro e w1 ⟨rfl,h⟩;have r:=HM0.out _ _ h;have yb0b0:=r.1;have y0b0c2:=r.cell (j:=2) rfl;clear r;have H1:=gH h;clear h)
   | (go_at_call 62;(with_reducible refine (num1 w0 _ b _ _ _ _ H1.out HT.out HZ1.out rfl).mono ?_);rintro e w2 h;rw [HQ1.out] at h;obtain ⟨rfl,h⟩:=h;have H2:=gH h;clear h))
  go_end0
  rw [HS.out]
  exact ⟨rfl,LyS.conv (by first | (simp only [List.append_assoc];rfl) | simp only [List.append_assoc]) H2.out.pop⟩
theorem act_k4 (w0:World) (Q:List (Nat × Obj)) (b:Nat) (L:Ws) (a:Dact) (A:Option Addr) (k:Nat) (A2:Option Addr) (k2:Nat) (A3:Option Addr) (k3:Nat) (w:World) (h:LyS w0 Q b L w) (ht:TabW w0) (sm:SmC a.cmd) (so:SmO a.row) (hn:L.length≤10) (hcc:SlAt w0 3 ColR A k a.cmd.cols) (hc:SlAt w0 1 StrR A2 k2 a.cmd.rule.cols) (hv:SlAt w0 3 ValR A3 k3 a.row.row) (hlc:a.cmd.cols.length≤4100) (hl:a.cmd.rule.cols.length≤4100) (hlr:a.row.row.length≤4100) (hk:a.kind=4) :
  Calls Tryz.prog 36 #[.pointer (some ⟨b,0,none⟩),.agg (c33 a A k A2 k2 A3 k3).toArray] w (LyQ w0 Q b L (actM a)):=by
 delta c33
 have b1:(a.kind==1)=false:=by simp [hk]
 have b2:(a.kind==2)=false:=by simp [hk]
 have b12:(a.kind==12)=false:=by simp [hk]
 have b3:(a.kind==3)=false:=by simp [hk]
 have b4:(a.kind==4)=true:=by simp [hk]
 have b5:(a.kind==5)=false:=by simp [hk]
 have b6:(a.kind==6)=false:=by simp [hk]
 have b7:(a.kind==7)=false:=by simp [hk]
 have b8:(a.kind==8)=false:=by simp [hk]
 have b9:(a.kind==9)=false:=by simp [hk]
 have b10:(a.kind==10)=false:=by simp [hk]
 have b11:(a.kind==11)=false:=by simp [hk]
 have HT:=gH ht
 have HSM:=gH sm
 have HSO:=gH so
 have HC:=gH hc
 have HCC:=gH hcc
 have HV:=gH hv
 clear ht sm so hc hcc hv
 have HK:=gH hk
 clear hk
 obtain ⟨h0,hm0,he0⟩:=box1 h (c33 a A k A2 k2 A3 k3) 43
 delta c33 at h0 he0 hm0
 have H0:=gH h0
 have HE0:=gH he0
 have HM0:=gH hm0
 clear h h0 he0 hm0
 have HZ0:=gH (show (L).length≤40000 from by (try simp only [List.length_append,List.length_cons,List.length_nil,List.length_map]);omega)
 have HZ1:=gH (show (L++[(⟨#[100,114,111,112]⟩:ByteArray)]).length≤50000 from by (try simp only [List.length_append,List.length_cons,List.length_nil,List.length_map]);omega)
 rcases nus_cases [a.n] with q1 | q1<;>have HQ1:=gH q1<;>clear q1
 ·have HS:=gH (show actM a=none from by simp [actM,actL,andL,HK.out,b_drop,HQ1.out])
  go_enter Tryz.func36,Tryz.ntmps36
  go_wp2_with (first
   | (go_at_call 61;(with_reducible refine (lay2 w0 _ b _ _ _ _ H0.out HZ0.out HE0.out).mono ?_);rintro e w1 ⟨rfl,h⟩;have r:=HM0.out _ _ h;have yb0b0:=r.1;have y0b0c2:=r.cell (j:=2) rfl;clear r;have H1:=gH h;clear h)
   | (go_at_call 62;(with_reducible refine (num1 w0 _ b _ _ _ _ H1.out HT.out HZ1.out rfl).mono ?_);rintro e w2 h;rw [HQ1.out] at h;obtain ⟨he,h⟩:=h;have H2:=gH h;clear h;unfold NoL at he;subst he))
  rw [HS.out]
  exact ⟨rfl,rfl,H2.out⟩
 ·have HS:=gH (show actM a=some ([(⟨#[100,114,111,112]⟩:ByteArray)]++(List.map itoaB [a.n])) from by simp [actM,actL,andL,HK.out,b_drop,HQ1.out])
  go_enter Tryz.func36,Tryz.ntmps36
  go_wp2_with (first
   | (go_at_call 61;(with_reducible refine (lay2 w0 _ b _ _ _ _ H0.out HZ0.out HE0.out).mono ?_);rintro e w1 ⟨rfl,h⟩;have r:=HM0.out _ _ h;have yb0b0:=r.1;have y0b0c2:=r.cell (j:=2) rfl;clear r;have H1:=gH h;clear h)
   | (go_at_call 62;(with_reducible refine (num1 w0 _ b _ _ _ _ H1.out HT.out HZ1.out rfl).mono ?_);rintro e w2 h;rw [HQ1.out] at h;obtain ⟨rfl,h⟩:=h;have H2:=gH h;clear h))
  go_end0
  rw [HS.out]
  exact ⟨rfl,LyS.conv (by first | (simp only [List.append_assoc];rfl) | simp only [List.append_assoc]) H2.out.pop⟩
theorem act_k5 (w0:World) (Q:List (Nat × Obj)) (b:Nat) (L:Ws) (a:Dact) (A:Option Addr) (k:Nat) (A2:Option Addr) (k2:Nat) (A3:Option Addr) (k3:Nat) (w:World) (h:LyS w0 Q b L w) (ht:TabW w0) (sm:SmC a.cmd) (so:SmO a.row) (hn:L.length≤10) (hcc:SlAt w0 3 ColR A k a.cmd.cols) (hc:SlAt w0 1 StrR A2 k2 a.cmd.rule.cols) (hv:SlAt w0 3 ValR A3 k3 a.row.row) (hlc:a.cmd.cols.length≤4100) (hl:a.cmd.rule.cols.length≤4100) (hlr:a.row.row.length≤4100) (hk:a.kind=5) :
  Calls Tryz.prog 36 #[.pointer (some ⟨b,0,none⟩),.agg (c33 a A k A2 k2 A3 k3).toArray] w (LyQ w0 Q b L (actM a)):=by
 delta c33
 have b1:(a.kind==1)=false:=by simp [hk]
 have b2:(a.kind==2)=false:=by simp [hk]
 have b12:(a.kind==12)=false:=by simp [hk]
 have b3:(a.kind==3)=false:=by simp [hk]
 have b4:(a.kind==4)=false:=by simp [hk]
 have b5:(a.kind==5)=true:=by simp [hk]
 have b6:(a.kind==6)=false:=by simp [hk]
 have b7:(a.kind==7)=false:=by simp [hk]
 have b8:(a.kind==8)=false:=by simp [hk]
 have b9:(a.kind==9)=false:=by simp [hk]
 have b10:(a.kind==10)=false:=by simp [hk]
 have b11:(a.kind==11)=false:=by simp [hk]
 have HT:=gH ht
 have HSM:=gH sm
 have HSO:=gH so
 have HC:=gH hc
 have HCC:=gH hcc
 have HV:=gH hv
 clear ht sm so hc hcc hv
 have HK:=gH hk
 clear hk
 obtain ⟨h0,hm0,he0⟩:=box1 h (c33 a A k A2 k2 A3 k3) 43
 delta c33 at h0 he0 hm0
 have H0:=gH h0
 have HE0:=gH he0
 have HM0:=gH hm0
 clear h h0 he0 hm0
 have HZ0:=gH (show (L).length≤40000 from by (try simp only [List.length_append,List.length_cons,List.length_nil,List.length_map]);omega)
 have HZ1:=gH (show (L++[(⟨#[100,111,117,98,108,101]⟩:ByteArray)]).length≤50000 from by (try simp only [List.length_append,List.length_cons,List.length_nil,List.length_map]);omega)
 rcases nus_cases [a.n] with q1 | q1<;>have HQ1:=gH q1<;>clear q1
 ·have HS:=gH (show actM a=none from by simp [actM,actL,andL,HK.out,b_double,HQ1.out])
  go_enter Tryz.func36,Tryz.ntmps36
  go_wp2_with (first
   | (go_at_call 61;(with_reducible refine (lay2 w0 _ b _ _ _ _ H0.out HZ0.out HE0.out).mono ?_);rintro e w1 ⟨rfl,h⟩;have r:=HM0.out _ _ h;have yb0b0:=r.1;have y0b0c2:=r.cell (j:=2) rfl;clear r;have H1:=gH h;clear h)
   | (go_at_call 62;(with_reducible refine (num1 w0 _ b _ _ _ _ H1.out HT.out HZ1.out rfl).mono ?_);rintro e w2 h;rw [HQ1.out] at h;obtain ⟨he,h⟩:=h;have H2:=gH h;clear h;unfold NoL at he;subst he))
  rw [HS.out]
  exact ⟨rfl,rfl,H2.out⟩
 ·have HS:=gH (show actM a=some ([(⟨#[100,111,117,98,108,101]⟩:ByteArray)]++(List.map itoaB [a.n])) from by simp [actM,actL,andL,HK.out,b_double,HQ1.out])
  go_enter Tryz.func36,Tryz.ntmps36
  go_wp2_with (first
   | (go_at_call 61;(with_reducible refine (lay2 w0 _ b _ _ _ _ H0.out HZ0.out HE0.out).mono ?_);rintro e w1 ⟨rfl,h⟩;have r:=HM0.out _ _ h;have yb0b0:=r.1;have y0b0c2:=r.cell (j:=2) rfl;clear r;have H1:=gH h;clear h)
   | (go_at_call 62;(with_reducible refine (num1 w0 _ b _ _ _ _ H1.out HT.out HZ1.out rfl).mono ?_);rintro e w2 h;rw [HQ1.out] at h;obtain ⟨rfl,h⟩:=h;have H2:=gH h;clear h))
  go_end0
  rw [HS.out]
  exact ⟨rfl,LyS.conv (by first | (simp only [List.append_assoc];rfl) | simp only [List.append_assoc]) H2.out.pop⟩
theorem act_k6 (w0:World) (Q:List (Nat × Obj)) (b:Nat) (L:Ws) (a:Dact) (A:Option Addr) (k:Nat) (A2:Option Addr) (k2:Nat) (A3:Option Addr) (k3:Nat) (w:World) (h:LyS w0 Q b L w) (ht:TabW w0) (sm:SmC a.cmd) (so:SmO a.row) (hn:L.length≤10) (hcc:SlAt w0 3 ColR A k a.cmd.cols) (hc:SlAt w0 1 StrR A2 k2 a.cmd.rule.cols) (hv:SlAt w0 3 ValR A3 k3 a.row.row) (hlc:a.cmd.cols.length≤4100) (hl:a.cmd.rule.cols.length≤4100) (hlr:a.row.row.length≤4100) (hk:a.kind=6) :
  Calls Tryz.prog 36 #[.pointer (some ⟨b,0,none⟩),.agg (c33 a A k A2 k2 A3 k3).toArray] w (LyQ w0 Q b L (actM a)):=by
 delta c33
 have b1:(a.kind==1)=false:=by simp [hk]
 have b2:(a.kind==2)=false:=by simp [hk]
 have b12:(a.kind==12)=false:=by simp [hk]
 have b3:(a.kind==3)=false:=by simp [hk]
 have b4:(a.kind==4)=false:=by simp [hk]
 have b5:(a.kind==5)=false:=by simp [hk]
 have b6:(a.kind==6)=true:=by simp [hk]
 have b7:(a.kind==7)=false:=by simp [hk]
 have b8:(a.kind==8)=false:=by simp [hk]
 have b9:(a.kind==9)=false:=by simp [hk]
 have b10:(a.kind==10)=false:=by simp [hk]
 have b11:(a.kind==11)=false:=by simp [hk]
 have HT:=gH ht
 have HSM:=gH sm
 have HSO:=gH so
 have HC:=gH hc
 have HCC:=gH hcc
 have HV:=gH hv
 clear ht sm so hc hcc hv
 have HK:=gH hk
 clear hk
 obtain ⟨h0,hm0,he0⟩:=box1 h (c33 a A k A2 k2 A3 k3) 43
 delta c33 at h0 he0 hm0
 have H0:=gH h0
 have HE0:=gH he0
 have HM0:=gH hm0
 clear h h0 he0 hm0
 have HZ0:=gH (show (L).length≤40000 from by (try simp only [List.length_append,List.length_cons,List.length_nil,List.length_map]);omega)
 have HZ1:=gH (show (L++[(⟨#[97,115,107]⟩:ByteArray)]).length≤50000 from by (try simp only [List.length_append,List.length_cons,List.length_nil,List.length_map]);omega)
 rcases nus_cases [a.node,a.client,a.number] with q1 | q1<;>have HQ1:=gH q1<;>clear q1
 ·have HS:=gH (show actM a=none from by simp [actM,actL,andL,HK.out,b_ask,HQ1.out])
  go_enter Tryz.func36,Tryz.ntmps36
  go_wp2_with (first
   | (go_at_call 61;(with_reducible refine (lay2 w0 _ b _ _ _ _ H0.out HZ0.out HE0.out).mono ?_);rintro e w1 ⟨rfl,h⟩;have r:=HM0.out _ _ h;have yb0b0:=r.1;have y0b0c1:=r.cell (j:=1) rfl;have y0b0c3:=r.cell (j:=3) rfl;have y0b0c4:=r.cell (j:=4) rfl;clear r;have H1:=gH h;clear h)
   | (go_at_call 62;(with_reducible refine (num3 w0 _ b _ _ _ _ _ _ H1.out HT.out HZ1.out rfl).mono ?_);rintro e w2 h;rw [HQ1.out] at h;obtain ⟨he,h⟩:=h;have H2:=gH h;clear h;unfold NoL at he;subst he))
  rw [HS.out]
  exact ⟨rfl,rfl,H2.out⟩
 ·have HZ2:=gH (show (L++[(⟨#[97,115,107]⟩:ByteArray)]++List.map itoaB [a.node,a.client,a.number]).length≤50 from by (try simp only [List.length_append,List.length_cons,List.length_nil,List.length_map]);omega)
  obtain ⟨o2,q2⟩:∃ o,cmdL a.cmd=o:=⟨_,rfl⟩
  have HQ2:=gH q2
  cases o2 with
  | none =>
   clear q2
   have HS:=gH (show actM a=none from by simp [actM,actL,andL,HK.out,b_ask,HQ1.out,HQ2.out])
   go_enter Tryz.func36,Tryz.ntmps36
   go_wp2_with (first
    | (go_at_call 61;(with_reducible refine (lay2 w0 _ b _ _ _ _ H0.out HZ0.out HE0.out).mono ?_);rintro e w1 ⟨rfl,h⟩;have r:=HM0.out _ _ h;have yb0b0:=r.1;have y0b0c1:=r.cell (j:=1) rfl;have y0b0c3:=r.cell (j:=3) rfl;have y0b0c4:=r.cell (j:=4) rfl;clear r;have H1:=gH h;clear h)
    | (go_at_call 62;(with_reducible refine (num3 w0 _ b _ _ _ _ _ _ H1.out HT.out HZ1.out rfl).mono ?_);rintro e w2 h;rw [HQ1.out] at h;obtain ⟨rfl,h⟩:=h;have r:=HM0.out _ _ h;have yb1b0:=r.1;have y1b0c5:=r.cell (j:=5) rfl;have y1b0c6:=r.cell (j:=6) rfl;have y1b0c7:=r.cell (j:=7) rfl;have y1b0c8:=r.cell (j:=8) rfl;have y1b0c9:=r.cell (j:=9) rfl;have y1b0c10:=r.cell (j:=10) rfl;have y1b0c11:=r.cell (j:=11) rfl;have y1b0c12:=r.cell (j:=12) rfl;have y1b0c13:=r.cell (j:=13) rfl;have y1b0c14:=r.cell (j:=14) rfl;have y1b0c15:=r.cell (j:=15) rfl;have y1b0c16:=r.cell (j:=16) rfl;have y1b0c17:=r.cell (j:=17) rfl;have y1b0c18:=r.cell (j:=18) rfl;have y1b0c19:=r.cell (j:=19) rfl;have y1b0c20:=r.cell (j:=20) rfl;have y1b0c21:=r.cell (j:=21) rfl;clear r;have H2:=gH h;clear h)
    | (go_at_call 63;(with_reducible refine (cmd_in w0 _ b _ a.cmd A k A2 k2 _ H2.out HT.out HSM.out HZ2.out HCC.out HC.out hlc hl).mono ?_);rintro e w3 h;rw [HQ2.out] at h;obtain ⟨he,h⟩:=h;have H3:=gH h;clear h;unfold NoL at he;subst he))
   rw [HS.out]
   exact ⟨rfl,rfl,H3.out⟩
  | some W2 =>
   clear q2
   have HS:=gH (show actM a=some ([(⟨#[97,115,107]⟩:ByteArray)]++(List.map itoaB [a.node,a.client,a.number]++(W2))) from by simp [actM,actL,andL,HK.out,b_ask,HQ1.out,HQ2.out])
   go_enter Tryz.func36,Tryz.ntmps36
   go_wp2_with (first
    | (go_at_call 61;(with_reducible refine (lay2 w0 _ b _ _ _ _ H0.out HZ0.out HE0.out).mono ?_);rintro e w1 ⟨rfl,h⟩;have r:=HM0.out _ _ h;have yb0b0:=r.1;have y0b0c1:=r.cell (j:=1) rfl;have y0b0c3:=r.cell (j:=3) rfl;have y0b0c4:=r.cell (j:=4) rfl;clear r;have H1:=gH h;clear h)
    | (go_at_call 62;(with_reducible refine (num3 w0 _ b _ _ _ _ _ _ H1.out HT.out HZ1.out rfl).mono ?_);rintro e w2 h;rw [HQ1.out] at h;obtain ⟨rfl,h⟩:=h;have r:=HM0.out _ _ h;have yb1b0:=r.1;have y1b0c5:=r.cell (j:=5) rfl;have y1b0c6:=r.cell (j:=6) rfl;have y1b0c7:=r.cell (j:=7) rfl;have y1b0c8:=r.cell (j:=8) rfl;have y1b0c9:=r.cell (j:=9) rfl;have y1b0c10:=r.cell (j:=10) rfl;have y1b0c11:=r.cell (j:=11) rfl;have y1b0c12:=r.cell (j:=12) rfl;have y1b0c13:=r.cell (j:=13) rfl;have y1b0c14:=r.cell (j:=14) rfl;have y1b0c15:=r.cell (j:=15) rfl;have y1b0c16:=r.cell (j:=16) rfl;have y1b0c17:=r.cell (j:=17) rfl;have y1b0c18:=r.cell (j:=18) rfl;have y1b0c19:=r.cell (j:=19) rfl;have y1b0c20:=r.cell (j:=20) rfl;have y1b0c21:=r.cell (j:=21) rfl;clear r;have H2:=gH h;clear h)
    | (go_at_call 63;(with_reducible refine (cmd_in w0 _ b _ a.cmd A k A2 k2 _ H2.out HT.out HSM.out HZ2.out HCC.out HC.out hlc hl).mono ?_);rintro e w3 h;rw [HQ2.out] at h;obtain ⟨rfl,h⟩:=h;have H3:=gH h;clear h))
   go_end0
   rw [HS.out]
   exact ⟨rfl,LyS.conv (by first | (simp only [List.append_assoc];rfl) | simp only [List.append_assoc]) H3.out.pop⟩
theorem act_k7 (w0:World) (Q:List (Nat × Obj)) (b:Nat) (L:Ws) (a:Dact) (A:Option Addr) (k:Nat) (A2:Option Addr) (k2:Nat) (A3:Option Addr) (k3:Nat) (w:World) (h:LyS w0 Q b L w) (ht:TabW w0) (sm:SmC a.cmd) (so:SmO a.row) (hn:L.length≤10) (hcc:SlAt w0 3 ColR A k a.cmd.cols) (hc:SlAt w0 1 StrR A2 k2 a.cmd.rule.cols) (hv:SlAt w0 3 ValR A3 k3 a.row.row) (hlc:a.cmd.cols.length≤4100) (hl:a.cmd.rule.cols.length≤4100) (hlr:a.row.row.length≤4100) (hk:a.kind=7) :
  Calls Tryz.prog 36 #[.pointer (some ⟨b,0,none⟩),.agg (c33 a A k A2 k2 A3 k3).toArray] w (LyQ w0 Q b L (actM a)):=by
 delta c33
 have b1:(a.kind==1)=false:=by simp [hk]
 have b2:(a.kind==2)=false:=by simp [hk]
 have b12:(a.kind==12)=false:=by simp [hk]
 have b3:(a.kind==3)=false:=by simp [hk]
 have b4:(a.kind==4)=false:=by simp [hk]
 have b5:(a.kind==5)=false:=by simp [hk]
 have b6:(a.kind==6)=false:=by simp [hk]
 have b7:(a.kind==7)=true:=by simp [hk]
 have b8:(a.kind==8)=false:=by simp [hk]
 have b9:(a.kind==9)=false:=by simp [hk]
 have b10:(a.kind==10)=false:=by simp [hk]
 have b11:(a.kind==11)=false:=by simp [hk]
 have HT:=gH ht
 have HSM:=gH sm
 have HSO:=gH so
 have HC:=gH hc
 have HCC:=gH hcc
 have HV:=gH hv
 clear ht sm so hc hcc hv
 have HK:=gH hk
 clear hk
 obtain ⟨h0,hm0,he0⟩:=box1 h (c33 a A k A2 k2 A3 k3) 43
 delta c33 at h0 he0 hm0
 have H0:=gH h0
 have HE0:=gH he0
 have HM0:=gH hm0
 clear h h0 he0 hm0
 have HZ0:=gH (show (L).length≤40000 from by (try simp only [List.length_append,List.length_cons,List.length_nil,List.length_map]);omega)
 have HZ1:=gH (show (L++[(⟨#[114,101,97,100]⟩:ByteArray)]).length≤50000 from by (try simp only [List.length_append,List.length_cons,List.length_nil,List.length_map]);omega)
 rcases nus_cases [a.node,a.client,a.number] with q1 | q1<;>have HQ1:=gH q1<;>clear q1
 ·have HS:=gH (show actM a=none from by simp [actM,actL,andL,HK.out,b_read,HQ1.out])
  go_enter Tryz.func36,Tryz.ntmps36
  go_wp2_with (first
   | (go_at_call 61;(with_reducible refine (lay2 w0 _ b _ _ _ _ H0.out HZ0.out HE0.out).mono ?_);rintro e w1 ⟨rfl,h⟩;have r:=HM0.out _ _ h;have yb0b0:=r.1;have y0b0c1:=r.cell (j:=1) rfl;have y0b0c3:=r.cell (j:=3) rfl;have y0b0c4:=r.cell (j:=4) rfl;clear r;have H1:=gH h;clear h)
   | (go_at_call 62;(with_reducible refine (num3 w0 _ b _ _ _ _ _ _ H1.out HT.out HZ1.out rfl).mono ?_);rintro e w2 h;rw [HQ1.out] at h;obtain ⟨he,h⟩:=h;have H2:=gH h;clear h;unfold NoL at he;subst he))
  rw [HS.out]
  exact ⟨rfl,rfl,H2.out⟩
 ·have HS:=gH (show actM a=some ([(⟨#[114,101,97,100]⟩:ByteArray)]++(List.map itoaB [a.node,a.client,a.number])) from by simp [actM,actL,andL,HK.out,b_read,HQ1.out])
  go_enter Tryz.func36,Tryz.ntmps36
  go_wp2_with (first
   | (go_at_call 61;(with_reducible refine (lay2 w0 _ b _ _ _ _ H0.out HZ0.out HE0.out).mono ?_);rintro e w1 ⟨rfl,h⟩;have r:=HM0.out _ _ h;have yb0b0:=r.1;have y0b0c1:=r.cell (j:=1) rfl;have y0b0c3:=r.cell (j:=3) rfl;have y0b0c4:=r.cell (j:=4) rfl;clear r;have H1:=gH h;clear h)
   | (go_at_call 62;(with_reducible refine (num3 w0 _ b _ _ _ _ _ _ H1.out HT.out HZ1.out rfl).mono ?_);rintro e w2 h;rw [HQ1.out] at h;obtain ⟨rfl,h⟩:=h;have H2:=gH h;clear h))
  go_end0
  rw [HS.out]
  exact ⟨rfl,LyS.conv (by first | (simp only [List.append_assoc];rfl) | simp only [List.append_assoc]) H2.out.pop⟩
theorem act_k9 (w0:World) (Q:List (Nat × Obj)) (b:Nat) (L:Ws) (a:Dact) (A:Option Addr) (k:Nat) (A2:Option Addr) (k2:Nat) (A3:Option Addr) (k3:Nat) (w:World) (h:LyS w0 Q b L w) (ht:TabW w0) (sm:SmC a.cmd) (so:SmO a.row) (hn:L.length≤10) (hcc:SlAt w0 3 ColR A k a.cmd.cols) (hc:SlAt w0 1 StrR A2 k2 a.cmd.rule.cols) (hv:SlAt w0 3 ValR A3 k3 a.row.row) (hlc:a.cmd.cols.length≤4100) (hl:a.cmd.rule.cols.length≤4100) (hlr:a.row.row.length≤4100) (hk:a.kind=9) :
  Calls Tryz.prog 36 #[.pointer (some ⟨b,0,none⟩),.agg (c33 a A k A2 k2 A3 k3).toArray] w (LyQ w0 Q b L (actM a)):=by
 delta c33
 have b1:(a.kind==1)=false:=by simp [hk]
 have b2:(a.kind==2)=false:=by simp [hk]
 have b12:(a.kind==12)=false:=by simp [hk]
 have b3:(a.kind==3)=false:=by simp [hk]
 have b4:(a.kind==4)=false:=by simp [hk]
 have b5:(a.kind==5)=false:=by simp [hk]
 have b6:(a.kind==6)=false:=by simp [hk]
 have b7:(a.kind==7)=false:=by simp [hk]
 have b8:(a.kind==8)=false:=by simp [hk]
 have b9:(a.kind==9)=true:=by simp [hk]
 have b10:(a.kind==10)=false:=by simp [hk]
 have b11:(a.kind==11)=false:=by simp [hk]
 have HT:=gH ht
 have HSM:=gH sm
 have HSO:=gH so
 have HC:=gH hc
 have HCC:=gH hcc
 have HV:=gH hv
 clear ht sm so hc hcc hv
 have HK:=gH hk
 clear hk
 obtain ⟨h0,hm0,he0⟩:=box1 h (c33 a A k A2 k2 A3 k3) 43
 delta c33 at h0 he0 hm0
 have H0:=gH h0
 have HE0:=gH he0
 have HM0:=gH hm0
 clear h h0 he0 hm0
 have HZ0:=gH (show (L).length≤40000 from by (try simp only [List.length_append,List.length_cons,List.length_nil,List.length_map]);omega)
 have HZ1:=gH (show (L++[(⟨#[108,101,97,115,101]⟩:ByteArray)]).length≤50000 from by (try simp only [List.length_append,List.length_cons,List.length_nil,List.length_map]);omega)
 rcases nus_cases [a.n,a.node] with q1 | q1<;>have HQ1:=gH q1<;>clear q1
 ·have HS:=gH (show actM a=none from by simp [actM,actL,andL,HK.out,b_lease,HQ1.out])
  go_enter Tryz.func36,Tryz.ntmps36
  go_wp2_with (first
   | (go_at_call 61;(with_reducible refine (lay2 w0 _ b _ _ _ _ H0.out HZ0.out HE0.out).mono ?_);rintro e w1 ⟨rfl,h⟩;have r:=HM0.out _ _ h;have yb0b0:=r.1;have y0b0c2:=r.cell (j:=2) rfl;have y0b0c1:=r.cell (j:=1) rfl;clear r;have H1:=gH h;clear h)
   | (go_at_call 62;(with_reducible refine (num2 w0 _ b _ _ _ _ _ H1.out HT.out HZ1.out rfl).mono ?_);rintro e w2 h;rw [HQ1.out] at h;obtain ⟨he,h⟩:=h;have H2:=gH h;clear h;unfold NoL at he;subst he))
  rw [HS.out]
  exact ⟨rfl,rfl,H2.out⟩
 ·have HS:=gH (show actM a=some ([(⟨#[108,101,97,115,101]⟩:ByteArray)]++(List.map itoaB [a.n,a.node])) from by simp [actM,actL,andL,HK.out,b_lease,HQ1.out])
  go_enter Tryz.func36,Tryz.ntmps36
  go_wp2_with (first
   | (go_at_call 61;(with_reducible refine (lay2 w0 _ b _ _ _ _ H0.out HZ0.out HE0.out).mono ?_);rintro e w1 ⟨rfl,h⟩;have r:=HM0.out _ _ h;have yb0b0:=r.1;have y0b0c2:=r.cell (j:=2) rfl;have y0b0c1:=r.cell (j:=1) rfl;clear r;have H1:=gH h;clear h)
   | (go_at_call 62;(with_reducible refine (num2 w0 _ b _ _ _ _ _ H1.out HT.out HZ1.out rfl).mono ?_);rintro e w2 h;rw [HQ1.out] at h;obtain ⟨rfl,h⟩:=h;have H2:=gH h;clear h))
  go_end0
  rw [HS.out]
  exact ⟨rfl,LyS.conv (by first | (simp only [List.append_assoc];rfl) | simp only [List.append_assoc]) H2.out.pop⟩
theorem act_k10 (w0:World) (Q:List (Nat × Obj)) (b:Nat) (L:Ws) (a:Dact) (A:Option Addr) (k:Nat) (A2:Option Addr) (k2:Nat) (A3:Option Addr) (k3:Nat) (w:World) (h:LyS w0 Q b L w) (ht:TabW w0) (sm:SmC a.cmd) (so:SmO a.row) (hn:L.length≤10) (hcc:SlAt w0 3 ColR A k a.cmd.cols) (hc:SlAt w0 1 StrR A2 k2 a.cmd.rule.cols) (hv:SlAt w0 3 ValR A3 k3 a.row.row) (hlc:a.cmd.cols.length≤4100) (hl:a.cmd.rule.cols.length≤4100) (hlr:a.row.row.length≤4100) (hk:a.kind=10) :
  Calls Tryz.prog 36 #[.pointer (some ⟨b,0,none⟩),.agg (c33 a A k A2 k2 A3 k3).toArray] w (LyQ w0 Q b L (actM a)):=by
 delta c33
 have b1:(a.kind==1)=false:=by simp [hk]
 have b2:(a.kind==2)=false:=by simp [hk]
 have b12:(a.kind==12)=false:=by simp [hk]
 have b3:(a.kind==3)=false:=by simp [hk]
 have b4:(a.kind==4)=false:=by simp [hk]
 have b5:(a.kind==5)=false:=by simp [hk]
 have b6:(a.kind==6)=false:=by simp [hk]
 have b7:(a.kind==7)=false:=by simp [hk]
 have b8:(a.kind==8)=false:=by simp [hk]
 have b9:(a.kind==9)=false:=by simp [hk]
 have b10:(a.kind==10)=true:=by simp [hk]
 have b11:(a.kind==11)=false:=by simp [hk]
 have HT:=gH ht
 have HSM:=gH sm
 have HSO:=gH so
 have HC:=gH hc
 have HCC:=gH hcc
 have HV:=gH hv
 clear ht sm so hc hcc hv
 have HK:=gH hk
 clear hk
 obtain ⟨h0,hm0,he0⟩:=box1 h (c33 a A k A2 k2 A3 k3) 43
 delta c33 at h0 he0 hm0
 have H0:=gH h0
 have HE0:=gH he0
 have HM0:=gH hm0
 clear h h0 he0 hm0
 have HZ0:=gH (show (L).length≤40000 from by (try simp only [List.length_append,List.length_cons,List.length_nil,List.length_map]);omega)
 have HZ1:=gH (show (L++[(⟨#[114,111,119]⟩:ByteArray)]).length≤50000 from by (try simp only [List.length_append,List.length_cons,List.length_nil,List.length_map]);omega)
 rcases nus_cases [a.n] with q1 | q1<;>have HQ1:=gH q1<;>clear q1
 ·have HS:=gH (show actM a=none from by simp [actM,actL,andL,HK.out,b_row,HQ1.out])
  go_enter Tryz.func36,Tryz.ntmps36
  go_wp2_with (first
   | (go_at_call 61;(with_reducible refine (lay2 w0 _ b _ _ _ _ H0.out HZ0.out HE0.out).mono ?_);rintro e w1 ⟨rfl,h⟩;have r:=HM0.out _ _ h;have yb0b0:=r.1;have y0b0c2:=r.cell (j:=2) rfl;clear r;have H1:=gH h;clear h)
   | (go_at_call 62;(with_reducible refine (num1 w0 _ b _ _ _ _ H1.out HT.out HZ1.out rfl).mono ?_);rintro e w2 h;rw [HQ1.out] at h;obtain ⟨he,h⟩:=h;have H2:=gH h;clear h;unfold NoL at he;subst he))
  rw [HS.out]
  exact ⟨rfl,rfl,H2.out⟩
 ·have HZ2:=gH (show (L++[(⟨#[114,111,119]⟩:ByteArray)]++List.map itoaB [a.n]).length≤50 from by (try simp only [List.length_append,List.length_cons,List.length_nil,List.length_map]);omega)
  obtain ⟨o2,q2⟩:∃ o,rowL a.row=o:=⟨_,rfl⟩
  have HQ2:=gH q2
  cases o2 with
  | none =>
   clear q2
   have HS:=gH (show actM a=none from by simp [actM,actL,andL,HK.out,b_row,HQ1.out,HQ2.out])
   go_enter Tryz.func36,Tryz.ntmps36
   go_wp2_with (first
    | (go_at_call 61;(with_reducible refine (lay2 w0 _ b _ _ _ _ H0.out HZ0.out HE0.out).mono ?_);rintro e w1 ⟨rfl,h⟩;have r:=HM0.out _ _ h;have yb0b0:=r.1;have y0b0c2:=r.cell (j:=2) rfl;clear r;have H1:=gH h;clear h)
    | (go_at_call 62;(with_reducible refine (num1 w0 _ b _ _ _ _ H1.out HT.out HZ1.out rfl).mono ?_);rintro e w2 h;rw [HQ1.out] at h;obtain ⟨rfl,h⟩:=h;have r:=HM0.out _ _ h;have yb1b0:=r.1;have y1b0c24:=r.cell (j:=24) rfl;have y1b0c25:=r.cell (j:=25) rfl;have y1b0c26:=r.cell (j:=26) rfl;have y1b0c27:=r.cell (j:=27) rfl;have y1b0c28:=r.cell (j:=28) rfl;have y1b0c29:=r.cell (j:=29) rfl;have y1b0c30:=r.cell (j:=30) rfl;have y1b0c31:=r.cell (j:=31) rfl;have y1b0c32:=r.cell (j:=32) rfl;clear r;have H2:=gH h;clear h)
    | (go_at_call 64;(with_reducible refine (row_in w0 _ b _ a.row A3 k3 _ H2.out HT.out HSO.out (Nat.le_trans HZ2.out (by decide)) HV.out hlr).mono ?_);rintro e w3 h;rw [HQ2.out] at h;obtain ⟨he,h⟩:=h;have H3:=gH h;clear h;unfold NoL at he;subst he))
   rw [HS.out]
   exact ⟨rfl,rfl,H3.out⟩
  | some W2 =>
   clear q2
   have HS:=gH (show actM a=some ([(⟨#[114,111,119]⟩:ByteArray)]++(List.map itoaB [a.n]++(W2))) from by simp [actM,actL,andL,HK.out,b_row,HQ1.out,HQ2.out])
   go_enter Tryz.func36,Tryz.ntmps36
   go_wp2_with (first
    | (go_at_call 61;(with_reducible refine (lay2 w0 _ b _ _ _ _ H0.out HZ0.out HE0.out).mono ?_);rintro e w1 ⟨rfl,h⟩;have r:=HM0.out _ _ h;have yb0b0:=r.1;have y0b0c2:=r.cell (j:=2) rfl;clear r;have H1:=gH h;clear h)
    | (go_at_call 62;(with_reducible refine (num1 w0 _ b _ _ _ _ H1.out HT.out HZ1.out rfl).mono ?_);rintro e w2 h;rw [HQ1.out] at h;obtain ⟨rfl,h⟩:=h;have r:=HM0.out _ _ h;have yb1b0:=r.1;have y1b0c24:=r.cell (j:=24) rfl;have y1b0c25:=r.cell (j:=25) rfl;have y1b0c26:=r.cell (j:=26) rfl;have y1b0c27:=r.cell (j:=27) rfl;have y1b0c28:=r.cell (j:=28) rfl;have y1b0c29:=r.cell (j:=29) rfl;have y1b0c30:=r.cell (j:=30) rfl;have y1b0c31:=r.cell (j:=31) rfl;have y1b0c32:=r.cell (j:=32) rfl;clear r;have H2:=gH h;clear h)
    | (go_at_call 64;(with_reducible refine (row_in w0 _ b _ a.row A3 k3 _ H2.out HT.out HSO.out (Nat.le_trans HZ2.out (by decide)) HV.out hlr).mono ?_);rintro e w3 h;rw [HQ2.out] at h;obtain ⟨rfl,h⟩:=h;have H3:=gH h;clear h))
   go_end0
   rw [HS.out]
   exact ⟨rfl,LyS.conv (by first | (simp only [List.append_assoc];rfl) | simp only [List.append_assoc]) H3.out.pop⟩
theorem act_k11 (w0:World) (Q:List (Nat × Obj)) (b:Nat) (L:Ws) (a:Dact) (A:Option Addr) (k:Nat) (A2:Option Addr) (k2:Nat) (A3:Option Addr) (k3:Nat) (w:World) (h:LyS w0 Q b L w) (ht:TabW w0) (sm:SmC a.cmd) (so:SmO a.row) (hn:L.length≤10) (hcc:SlAt w0 3 ColR A k a.cmd.cols) (hc:SlAt w0 1 StrR A2 k2 a.cmd.rule.cols) (hv:SlAt w0 3 ValR A3 k3 a.row.row) (hlc:a.cmd.cols.length≤4100) (hl:a.cmd.rule.cols.length≤4100) (hlr:a.row.row.length≤4100) (hk:a.kind=11) :
  Calls Tryz.prog 36 #[.pointer (some ⟨b,0,none⟩),.agg (c33 a A k A2 k2 A3 k3).toArray] w (LyQ w0 Q b L (actM a)):=by
 delta c33
 have b1:(a.kind==1)=false:=by simp [hk]
 have b2:(a.kind==2)=false:=by simp [hk]
 have b12:(a.kind==12)=false:=by simp [hk]
 have b3:(a.kind==3)=false:=by simp [hk]
 have b4:(a.kind==4)=false:=by simp [hk]
 have b5:(a.kind==5)=false:=by simp [hk]
 have b6:(a.kind==6)=false:=by simp [hk]
 have b7:(a.kind==7)=false:=by simp [hk]
 have b8:(a.kind==8)=false:=by simp [hk]
 have b9:(a.kind==9)=false:=by simp [hk]
 have b10:(a.kind==10)=false:=by simp [hk]
 have b11:(a.kind==11)=true:=by simp [hk]
 have HT:=gH ht
 have HSM:=gH sm
 have HSO:=gH so
 have HC:=gH hc
 have HCC:=gH hcc
 have HV:=gH hv
 clear ht sm so hc hcc hv
 have HK:=gH hk
 clear hk
 obtain ⟨h0,hm0,he0⟩:=box1 h (c33 a A k A2 k2 A3 k3) 43
 delta c33 at h0 he0 hm0
 have H0:=gH h0
 have HE0:=gH he0
 have HM0:=gH hm0
 clear h h0 he0 hm0
 have HZ0:=gH (show (L).length≤40000 from by (try simp only [List.length_append,List.length_cons,List.length_nil,List.length_map]);omega)
 have HZ1:=gH (show (L++[(⟨#[99,114,97,115,104]⟩:ByteArray)]).length≤50000 from by (try simp only [List.length_append,List.length_cons,List.length_nil,List.length_map]);omega)
 rcases nus_cases [a.node,a.n] with q1 | q1<;>have HQ1:=gH q1<;>clear q1
 ·have HS:=gH (show actM a=none from by simp [actM,actL,andL,HK.out,b_crash,HQ1.out])
  go_enter Tryz.func36,Tryz.ntmps36
  go_wp2_with (first
   | (go_at_call 61;(with_reducible refine (lay2 w0 _ b _ _ _ _ H0.out HZ0.out HE0.out).mono ?_);rintro e w1 ⟨rfl,h⟩;have r:=HM0.out _ _ h;have yb0b0:=r.1;have y0b0c1:=r.cell (j:=1) rfl;have y0b0c2:=r.cell (j:=2) rfl;clear r;have H1:=gH h;clear h)
   | (go_at_call 62;(with_reducible refine (num2 w0 _ b _ _ _ _ _ H1.out HT.out HZ1.out rfl).mono ?_);rintro e w2 h;rw [HQ1.out] at h;obtain ⟨he,h⟩:=h;have H2:=gH h;clear h;unfold NoL at he;subst he))
  rw [HS.out]
  exact ⟨rfl,rfl,H2.out⟩
 ·have HS:=gH (show actM a=some ([(⟨#[99,114,97,115,104]⟩:ByteArray)]++(List.map itoaB [a.node,a.n])) from by simp [actM,actL,andL,HK.out,b_crash,HQ1.out])
  go_enter Tryz.func36,Tryz.ntmps36
  go_wp2_with (first
   | (go_at_call 61;(with_reducible refine (lay2 w0 _ b _ _ _ _ H0.out HZ0.out HE0.out).mono ?_);rintro e w1 ⟨rfl,h⟩;have r:=HM0.out _ _ h;have yb0b0:=r.1;have y0b0c1:=r.cell (j:=1) rfl;have y0b0c2:=r.cell (j:=2) rfl;clear r;have H1:=gH h;clear h)
   | (go_at_call 62;(with_reducible refine (num2 w0 _ b _ _ _ _ _ H1.out HT.out HZ1.out rfl).mono ?_);rintro e w2 h;rw [HQ1.out] at h;obtain ⟨rfl,h⟩:=h;have H2:=gH h;clear h))
  go_end0
  rw [HS.out]
  exact ⟨rfl,LyS.conv (by first | (simp only [List.append_assoc];rfl) | simp only [List.append_assoc]) H2.out.pop⟩
theorem act_k81 (w0:World) (Q:List (Nat × Obj)) (b:Nat) (L:Ws) (a:Dact) (A:Option Addr) (k:Nat) (A2:Option Addr) (k2:Nat) (A3:Option Addr) (k3:Nat) (w:World) (h:LyS w0 Q b L w) (ht:TabW w0) (sm:SmC a.cmd) (so:SmO a.row) (hn:L.length≤10) (hcc:SlAt w0 3 ColR A k a.cmd.cols) (hc:SlAt w0 1 StrR A2 k2 a.cmd.rule.cols) (hv:SlAt w0 3 ValR A3 k3 a.row.row) (hlc:a.cmd.cols.length≤4100) (hl:a.cmd.rule.cols.length≤4100) (hlr:a.row.row.length≤4100) (hk:a.kind=8) (hc1:a.ck≤1) (hc2:¬ a.ck = -9223372036854775808) (hr1 : -9223372036854775808≤a.ck) (hr2:a.ck≤9223372036854775807) :
  Calls Tryz.prog 36 #[.pointer (some ⟨b,0,none⟩),.agg (c33 a A k A2 k2 A3 k3).toArray] w (LyQ w0 Q b L (actM a)):=by
 delta c33
 have b1:(a.kind==1)=false:=by simp [hk]
 have b2:(a.kind==2)=false:=by simp [hk]
 have b12:(a.kind==12)=false:=by simp [hk]
 have b3:(a.kind==3)=false:=by simp [hk]
 have b4:(a.kind==4)=false:=by simp [hk]
 have b5:(a.kind==5)=false:=by simp [hk]
 have b6:(a.kind==6)=false:=by simp [hk]
 have b7:(a.kind==7)=false:=by simp [hk]
 have b8:(a.kind==8)=true:=by simp [hk]
 have b9:(a.kind==9)=false:=by simp [hk]
 have b10:(a.kind==10)=false:=by simp [hk]
 have b11:(a.kind==11)=false:=by simp [hk]
 have HT:=gH ht
 have HSM:=gH sm
 have HSO:=gH so
 have HC:=gH hc
 have HCC:=gH hcc
 have HV:=gH hv
 clear ht sm so hc hcc hv
 have HK:=gH hk
 have HX:=gH (show chgX a.ck=b_learner from by
  unfold chgX chgW
  rw [if_neg hc2,if_pos hc1])
 have hix:(min (max 0 (a.ck - 1)) 2).toNat=0:=by omega
 clear hk
 obtain ⟨h0,hm0,he0⟩:=box1 h (c33 a A k A2 k2 A3 k3) 43
 delta c33 at h0 he0 hm0
 replace h0:=h0.trans ((Aft.refl _).alloc (.cells #[.string (⟨#[108,101,97,114,110,101,114]⟩:ByteArray),.string (⟨#[118,111,116,101,114]⟩:ByteArray),.string (⟨#[114,101,109,111,118,101]⟩:ByteArray)] 9))
 replace he0:=show w.heap.size+2=_ from alloc_succ he0 (.cells #[.string (⟨#[108,101,97,114,110,101,114]⟩:ByteArray),.string (⟨#[118,111,116,101,114]⟩:ByteArray),.string (⟨#[114,101,109,111,118,101]⟩:ByteArray)] 9)
 have H0:=gH h0
 have HE0:=gH he0
 have HM0:=gH hm0
 clear h h0 he0 hm0
 have HZ0:=gH (show (L).length≤40000 from by (try simp only [List.length_append,List.length_cons,List.length_nil,List.length_map]);omega)
 have HZ1:=gH (show (L++[(⟨#[108,101,97,114,110,101,114]⟩:ByteArray)]).length≤50000 from by (try simp only [List.length_append,List.length_cons,List.length_nil,List.length_map]);omega)
 rcases nus_cases [a.node,a.cn] with q1 | q1<;>have HQ1:=gH q1<;>clear q1
 ·have HS:=gH (show actM a=none from by simp [actM,andL,HK.out,HX.out,b_learner,HQ1.out])
  go_enter Tryz.func36,Tryz.ntmps36
  go_wp2_with (first
   | (go_at_call 61;(with_reducible refine (lay2 w0 _ b _ _ _ _ H0.out HZ0.out HE0.out).mono ?_);rintro e w1 ⟨rfl,h⟩;have r:=HM0.out _ _ h;have yb0b0:=r.1;have y0b0c1:=r.cell (j:=1) rfl;have y0b0c23:=r.cell (j:=23) rfl;clear r;have H1:=gH h;clear h)
   | (go_at_call 62;(with_reducible refine (num2 w0 _ b _ _ _ _ _ H1.out HT.out HZ1.out rfl).mono ?_);rintro e w2 h;rw [HQ1.out] at h;obtain ⟨he,h⟩:=h;have H2:=gH h;clear h;unfold NoL at he;subst he))
  rw [HS.out]
  exact ⟨rfl,rfl,H2.out⟩
 ·have HS:=gH (show actM a=some ([(⟨#[108,101,97,114,110,101,114]⟩:ByteArray)]++(List.map itoaB [a.node,a.cn])) from by simp [actM,andL,HK.out,HX.out,b_learner,HQ1.out])
  go_enter Tryz.func36,Tryz.ntmps36
  go_wp2_with (first
   | (go_at_call 61;(with_reducible refine (lay2 w0 _ b _ _ _ _ H0.out HZ0.out HE0.out).mono ?_);rintro e w1 ⟨rfl,h⟩;have r:=HM0.out _ _ h;have yb0b0:=r.1;have y0b0c1:=r.cell (j:=1) rfl;have y0b0c23:=r.cell (j:=23) rfl;clear r;have H1:=gH h;clear h)
   | (go_at_call 62;(with_reducible refine (num2 w0 _ b _ _ _ _ _ H1.out HT.out HZ1.out rfl).mono ?_);rintro e w2 h;rw [HQ1.out] at h;obtain ⟨rfl,h⟩:=h;have H2:=gH h;clear h))
  go_end0
  rw [HS.out]
  exact ⟨rfl,LyS.conv (by first | (simp only [List.append_assoc];rfl) | simp only [List.append_assoc]) H2.out.pop⟩
theorem act_k82 (w0:World) (Q:List (Nat × Obj)) (b:Nat) (L:Ws) (a:Dact) (A:Option Addr) (k:Nat) (A2:Option Addr) (k2:Nat) (A3:Option Addr) (k3:Nat) (w:World) (h:LyS w0 Q b L w) (ht:TabW w0) (sm:SmC a.cmd) (so:SmO a.row) (hn:L.length≤10) (hcc:SlAt w0 3 ColR A k a.cmd.cols) (hc:SlAt w0 1 StrR A2 k2 a.cmd.rule.cols) (hv:SlAt w0 3 ValR A3 k3 a.row.row) (hlc:a.cmd.cols.length≤4100) (hl:a.cmd.rule.cols.length≤4100) (hlr:a.row.row.length≤4100) (hk:a.kind=8) (hc1:a.ck=2) (hr1 : -9223372036854775808≤a.ck) (hr2:a.ck≤9223372036854775807) :
  Calls Tryz.prog 36 #[.pointer (some ⟨b,0,none⟩),.agg (c33 a A k A2 k2 A3 k3).toArray] w (LyQ w0 Q b L (actM a)):=by
 delta c33
 have b1:(a.kind==1)=false:=by simp [hk]
 have b2:(a.kind==2)=false:=by simp [hk]
 have b12:(a.kind==12)=false:=by simp [hk]
 have b3:(a.kind==3)=false:=by simp [hk]
 have b4:(a.kind==4)=false:=by simp [hk]
 have b5:(a.kind==5)=false:=by simp [hk]
 have b6:(a.kind==6)=false:=by simp [hk]
 have b7:(a.kind==7)=false:=by simp [hk]
 have b8:(a.kind==8)=true:=by simp [hk]
 have b9:(a.kind==9)=false:=by simp [hk]
 have b10:(a.kind==10)=false:=by simp [hk]
 have b11:(a.kind==11)=false:=by simp [hk]
 have HT:=gH ht
 have HSM:=gH sm
 have HSO:=gH so
 have HC:=gH hc
 have HCC:=gH hcc
 have HV:=gH hv
 clear ht sm so hc hcc hv
 have HK:=gH hk
 have HX:=gH (show chgX a.ck=b_voter from by
  unfold chgX chgW
  rw [if_neg (by omega),if_neg (by omega),if_pos hc1])
 have hr3:0≤a.ck:=by omega
 have hr4:a.ck≤5:=by omega
 have hix:(min (max 0 (a.ck - 1)) 2).toNat=1:=by omega
 clear hk hc1
 obtain ⟨h0,hm0,he0⟩:=box1 h (c33 a A k A2 k2 A3 k3) 43
 delta c33 at h0 he0 hm0
 replace h0:=h0.trans ((Aft.refl _).alloc (.cells #[.string (⟨#[108,101,97,114,110,101,114]⟩:ByteArray),.string (⟨#[118,111,116,101,114]⟩:ByteArray),.string (⟨#[114,101,109,111,118,101]⟩:ByteArray)] 9))
 replace he0:=show w.heap.size+2=_ from alloc_succ he0 (.cells #[.string (⟨#[108,101,97,114,110,101,114]⟩:ByteArray),.string (⟨#[118,111,116,101,114]⟩:ByteArray),.string (⟨#[114,101,109,111,118,101]⟩:ByteArray)] 9)
 have H0:=gH h0
 have HE0:=gH he0
 have HM0:=gH hm0
 clear h h0 he0 hm0
 have HZ0:=gH (show (L).length≤40000 from by (try simp only [List.length_append,List.length_cons,List.length_nil,List.length_map]);omega)
 have HZ1:=gH (show (L++[(⟨#[118,111,116,101,114]⟩:ByteArray)]).length≤50000 from by (try simp only [List.length_append,List.length_cons,List.length_nil,List.length_map]);omega)
 rcases nus_cases [a.node,a.cn] with q1 | q1<;>have HQ1:=gH q1<;>clear q1
 ·have HS:=gH (show actM a=none from by simp [actM,andL,HK.out,HX.out,b_voter,HQ1.out])
  go_enter Tryz.func36,Tryz.ntmps36
  go_wp2_with (first
   | (go_at_call 61;(with_reducible refine (lay2 w0 _ b _ _ _ _ H0.out HZ0.out HE0.out).mono ?_);rintro e w1 ⟨rfl,h⟩;have r:=HM0.out _ _ h;have yb0b0:=r.1;have y0b0c1:=r.cell (j:=1) rfl;have y0b0c23:=r.cell (j:=23) rfl;clear r;have H1:=gH h;clear h)
   | (go_at_call 62;(with_reducible refine (num2 w0 _ b _ _ _ _ _ H1.out HT.out HZ1.out rfl).mono ?_);rintro e w2 h;rw [HQ1.out] at h;obtain ⟨he,h⟩:=h;have H2:=gH h;clear h;unfold NoL at he;subst he))
  rw [HS.out]
  exact ⟨rfl,rfl,H2.out⟩
 ·have HS:=gH (show actM a=some ([(⟨#[118,111,116,101,114]⟩:ByteArray)]++(List.map itoaB [a.node,a.cn])) from by simp [actM,andL,HK.out,HX.out,b_voter,HQ1.out])
  go_enter Tryz.func36,Tryz.ntmps36
  go_wp2_with (first
   | (go_at_call 61;(with_reducible refine (lay2 w0 _ b _ _ _ _ H0.out HZ0.out HE0.out).mono ?_);rintro e w1 ⟨rfl,h⟩;have r:=HM0.out _ _ h;have yb0b0:=r.1;have y0b0c1:=r.cell (j:=1) rfl;have y0b0c23:=r.cell (j:=23) rfl;clear r;have H1:=gH h;clear h)
   | (go_at_call 62;(with_reducible refine (num2 w0 _ b _ _ _ _ _ H1.out HT.out HZ1.out rfl).mono ?_);rintro e w2 h;rw [HQ1.out] at h;obtain ⟨rfl,h⟩:=h;have H2:=gH h;clear h))
  go_end0
  rw [HS.out]
  exact ⟨rfl,LyS.conv (by first | (simp only [List.append_assoc];rfl) | simp only [List.append_assoc]) H2.out.pop⟩
theorem act_k83 (w0:World) (Q:List (Nat × Obj)) (b:Nat) (L:Ws) (a:Dact) (A:Option Addr) (k:Nat) (A2:Option Addr) (k2:Nat) (A3:Option Addr) (k3:Nat) (w:World) (h:LyS w0 Q b L w) (ht:TabW w0) (sm:SmC a.cmd) (so:SmO a.row) (hn:L.length≤10) (hcc:SlAt w0 3 ColR A k a.cmd.cols) (hc:SlAt w0 1 StrR A2 k2 a.cmd.rule.cols) (hv:SlAt w0 3 ValR A3 k3 a.row.row) (hlc:a.cmd.cols.length≤4100) (hl:a.cmd.rule.cols.length≤4100) (hlr:a.row.row.length≤4100) (hk:a.kind=8) (hc1:3≤a.ck) (hr1 : -9223372036854775808≤a.ck) (hr2:a.ck≤9223372036854775807) :
  Calls Tryz.prog 36 #[.pointer (some ⟨b,0,none⟩),.agg (c33 a A k A2 k2 A3 k3).toArray] w (LyQ w0 Q b L (actM a)):=by
 delta c33
 have b1:(a.kind==1)=false:=by simp [hk]
 have b2:(a.kind==2)=false:=by simp [hk]
 have b12:(a.kind==12)=false:=by simp [hk]
 have b3:(a.kind==3)=false:=by simp [hk]
 have b4:(a.kind==4)=false:=by simp [hk]
 have b5:(a.kind==5)=false:=by simp [hk]
 have b6:(a.kind==6)=false:=by simp [hk]
 have b7:(a.kind==7)=false:=by simp [hk]
 have b8:(a.kind==8)=true:=by simp [hk]
 have b9:(a.kind==9)=false:=by simp [hk]
 have b10:(a.kind==10)=false:=by simp [hk]
 have b11:(a.kind==11)=false:=by simp [hk]
 have HT:=gH ht
 have HSM:=gH sm
 have HSO:=gH so
 have HC:=gH hc
 have HCC:=gH hcc
 have HV:=gH hv
 clear ht sm so hc hcc hv
 have HK:=gH hk
 have HX:=gH (show chgX a.ck=b_remove from by
  unfold chgX chgW
  rw [if_neg (by omega),if_neg (by omega),if_neg (by omega)])
 have hix:(min (max 0 (a.ck - 1)) 2).toNat=2:=by omega
 clear hk
 obtain ⟨h0,hm0,he0⟩:=box1 h (c33 a A k A2 k2 A3 k3) 43
 delta c33 at h0 he0 hm0
 replace h0:=h0.trans ((Aft.refl _).alloc (.cells #[.string (⟨#[108,101,97,114,110,101,114]⟩:ByteArray),.string (⟨#[118,111,116,101,114]⟩:ByteArray),.string (⟨#[114,101,109,111,118,101]⟩:ByteArray)] 9))
 replace he0:=show w.heap.size+2=_ from alloc_succ he0 (.cells #[.string (⟨#[108,101,97,114,110,101,114]⟩:ByteArray),.string (⟨#[118,111,116,101,114]⟩:ByteArray),.string (⟨#[114,101,109,111,118,101]⟩:ByteArray)] 9)
 have H0:=gH h0
 have HE0:=gH he0
 have HM0:=gH hm0
 clear h h0 he0 hm0
 have HZ0:=gH (show (L).length≤40000 from by (try simp only [List.length_append,List.length_cons,List.length_nil,List.length_map]);omega)
 have HZ1:=gH (show (L++[(⟨#[114,101,109,111,118,101]⟩:ByteArray)]).length≤50000 from by (try simp only [List.length_append,List.length_cons,List.length_nil,List.length_map]);omega)
 rcases nus_cases [a.node,a.cn] with q1 | q1<;>have HQ1:=gH q1<;>clear q1
 ·have HS:=gH (show actM a=none from by simp [actM,andL,HK.out,HX.out,b_remove,HQ1.out])
  go_enter Tryz.func36,Tryz.ntmps36
  go_wp2_with (first
   | (go_at_call 61;(with_reducible refine (lay2 w0 _ b _ _ _ _ H0.out HZ0.out HE0.out).mono ?_);rintro e w1 ⟨rfl,h⟩;have r:=HM0.out _ _ h;have yb0b0:=r.1;have y0b0c1:=r.cell (j:=1) rfl;have y0b0c23:=r.cell (j:=23) rfl;clear r;have H1:=gH h;clear h)
   | (go_at_call 62;(with_reducible refine (num2 w0 _ b _ _ _ _ _ H1.out HT.out HZ1.out rfl).mono ?_);rintro e w2 h;rw [HQ1.out] at h;obtain ⟨he,h⟩:=h;have H2:=gH h;clear h;unfold NoL at he;subst he))
  rw [HS.out]
  exact ⟨rfl,rfl,H2.out⟩
 ·have HS:=gH (show actM a=some ([(⟨#[114,101,109,111,118,101]⟩:ByteArray)]++(List.map itoaB [a.node,a.cn])) from by simp [actM,andL,HK.out,HX.out,b_remove,HQ1.out])
  go_enter Tryz.func36,Tryz.ntmps36
  go_wp2_with (first
   | (go_at_call 61;(with_reducible refine (lay2 w0 _ b _ _ _ _ H0.out HZ0.out HE0.out).mono ?_);rintro e w1 ⟨rfl,h⟩;have r:=HM0.out _ _ h;have yb0b0:=r.1;have y0b0c1:=r.cell (j:=1) rfl;have y0b0c23:=r.cell (j:=23) rfl;clear r;have H1:=gH h;clear h)
   | (go_at_call 62;(with_reducible refine (num2 w0 _ b _ _ _ _ _ H1.out HT.out HZ1.out rfl).mono ?_);rintro e w2 h;rw [HQ1.out] at h;obtain ⟨rfl,h⟩:=h;have H2:=gH h;clear h))
  go_end0
  rw [HS.out]
  exact ⟨rfl,LyS.conv (by first | (simp only [List.append_assoc];rfl) | simp only [List.append_assoc]) H2.out.pop⟩
theorem act_k84 (w0:World) (Q:List (Nat × Obj)) (b:Nat) (L:Ws) (a:Dact) (A:Option Addr) (k:Nat) (A2:Option Addr) (k2:Nat) (A3:Option Addr) (k3:Nat) (w:World) (h:LyS w0 Q b L w) (ht:TabW w0) (sm:SmC a.cmd) (so:SmO a.row) (hn:L.length≤10) (hcc:SlAt w0 3 ColR A k a.cmd.cols) (hc:SlAt w0 1 StrR A2 k2 a.cmd.rule.cols) (hv:SlAt w0 3 ValR A3 k3 a.row.row) (hlc:a.cmd.cols.length≤4100) (hl:a.cmd.rule.cols.length≤4100) (hlr:a.row.row.length≤4100) (hk:a.kind=8) (hc1:a.ck = -9223372036854775808) (hr1 : -9223372036854775808≤a.ck) (hr2:a.ck≤9223372036854775807) :
  Calls Tryz.prog 36 #[.pointer (some ⟨b,0,none⟩),.agg (c33 a A k A2 k2 A3 k3).toArray] w (LyQ w0 Q b L (actM a)):=by
 delta c33
 have b1:(a.kind==1)=false:=by simp [hk]
 have b2:(a.kind==2)=false:=by simp [hk]
 have b12:(a.kind==12)=false:=by simp [hk]
 have b3:(a.kind==3)=false:=by simp [hk]
 have b4:(a.kind==4)=false:=by simp [hk]
 have b5:(a.kind==5)=false:=by simp [hk]
 have b6:(a.kind==6)=false:=by simp [hk]
 have b7:(a.kind==7)=false:=by simp [hk]
 have b8:(a.kind==8)=true:=by simp [hk]
 have b9:(a.kind==9)=false:=by simp [hk]
 have b10:(a.kind==10)=false:=by simp [hk]
 have b11:(a.kind==11)=false:=by simp [hk]
 have HT:=gH ht
 have HSM:=gH sm
 have HSO:=gH so
 have HC:=gH hc
 have HCC:=gH hcc
 have HV:=gH hv
 clear ht sm so hc hcc hv
 have HK:=gH hk
 have HX:=gH (show chgX a.ck=b_remove from by
  unfold chgX chgW
  rw [if_pos hc1])
 have hix:(min (max 0 (wrap64 (a.ck - 1))) 2).toNat=2:=by rw [hc1];decide +kernel
 clear hk hc1 hr1 hr2
 obtain ⟨h0,hm0,he0⟩:=box1 h (c33 a A k A2 k2 A3 k3) 43
 delta c33 at h0 he0 hm0
 replace h0:=h0.trans ((Aft.refl _).alloc (.cells #[.string (⟨#[108,101,97,114,110,101,114]⟩:ByteArray),.string (⟨#[118,111,116,101,114]⟩:ByteArray),.string (⟨#[114,101,109,111,118,101]⟩:ByteArray)] 9))
 replace he0:=show w.heap.size+2=_ from alloc_succ he0 (.cells #[.string (⟨#[108,101,97,114,110,101,114]⟩:ByteArray),.string (⟨#[118,111,116,101,114]⟩:ByteArray),.string (⟨#[114,101,109,111,118,101]⟩:ByteArray)] 9)
 have H0:=gH h0
 have HE0:=gH he0
 have HM0:=gH hm0
 clear h h0 he0 hm0
 have HZ0:=gH (show (L).length≤40000 from by (try simp only [List.length_append,List.length_cons,List.length_nil,List.length_map]);omega)
 have HZ1:=gH (show (L++[(⟨#[114,101,109,111,118,101]⟩:ByteArray)]).length≤50000 from by (try simp only [List.length_append,List.length_cons,List.length_nil,List.length_map]);omega)
 rcases nus_cases [a.node,a.cn] with q1 | q1<;>have HQ1:=gH q1<;>clear q1
 ·have HS:=gH (show actM a=none from by simp [actM,andL,HK.out,HX.out,b_remove,HQ1.out])
  go_enter Tryz.func36,Tryz.ntmps36
  go_wp2_with (first
   | (go_at_call 61;(with_reducible refine (lay2 w0 _ b _ _ _ _ H0.out HZ0.out HE0.out).mono ?_);rintro e w1 ⟨rfl,h⟩;have r:=HM0.out _ _ h;have yb0b0:=r.1;have y0b0c1:=r.cell (j:=1) rfl;have y0b0c23:=r.cell (j:=23) rfl;clear r;have H1:=gH h;clear h)
   | (go_at_call 62;(with_reducible refine (num2 w0 _ b _ _ _ _ _ H1.out HT.out HZ1.out rfl).mono ?_);rintro e w2 h;rw [HQ1.out] at h;obtain ⟨he,h⟩:=h;have H2:=gH h;clear h;unfold NoL at he;subst he))
  rw [HS.out]
  exact ⟨rfl,rfl,H2.out⟩
 ·have HS:=gH (show actM a=some ([(⟨#[114,101,109,111,118,101]⟩:ByteArray)]++(List.map itoaB [a.node,a.cn])) from by simp [actM,andL,HK.out,HX.out,b_remove,HQ1.out])
  go_enter Tryz.func36,Tryz.ntmps36
  go_wp2_with (first
   | (go_at_call 61;(with_reducible refine (lay2 w0 _ b _ _ _ _ H0.out HZ0.out HE0.out).mono ?_);rintro e w1 ⟨rfl,h⟩;have r:=HM0.out _ _ h;have yb0b0:=r.1;have y0b0c1:=r.cell (j:=1) rfl;have y0b0c23:=r.cell (j:=23) rfl;clear r;have H1:=gH h;clear h)
   | (go_at_call 62;(with_reducible refine (num2 w0 _ b _ _ _ _ _ H1.out HT.out HZ1.out rfl).mono ?_);rintro e w2 h;rw [HQ1.out] at h;obtain ⟨rfl,h⟩:=h;have H2:=gH h;clear h))
  go_end0
  rw [HS.out]
  exact ⟨rfl,LyS.conv (by first | (simp only [List.append_assoc];rfl) | simp only [List.append_assoc]) H2.out.pop⟩
theorem act_k0 (w0:World) (Q:List (Nat × Obj)) (b:Nat) (L:Ws) (a:Dact) (A:Option Addr) (k:Nat) (A2:Option Addr) (k2:Nat) (A3:Option Addr) (k3:Nat) (w:World) (h:LyS w0 Q b L w) (ht:TabW w0) (sm:SmC a.cmd) (so:SmO a.row) (hn:L.length≤10) (hcc:SlAt w0 3 ColR A k a.cmd.cols) (hc:SlAt w0 1 StrR A2 k2 a.cmd.rule.cols) (hv:SlAt w0 3 ValR A3 k3 a.row.row) (hlc:a.cmd.cols.length≤4100) (hl:a.cmd.rule.cols.length≤4100) (hlr:a.row.row.length≤4100) (h1:a.kind≠1) (h2:a.kind≠2) (h12:a.kind≠12) (h3:a.kind≠3) (h4:a.kind≠4) (h5:a.kind≠5) (h6:a.kind≠6) (h7:a.kind≠7) (h8:a.kind≠8) (h9:a.kind≠9) (h10:a.kind≠10) (h11:a.kind≠11) :
  Calls Tryz.prog 36 #[.pointer (some ⟨b,0,none⟩),.agg (c33 a A k A2 k2 A3 k3).toArray] w (LyQ w0 Q b L (actM a)):=by
 delta c33
 have b1:(a.kind==1)=false:=by simp [h1]
 have b2:(a.kind==2)=false:=by simp [h2]
 have b12:(a.kind==12)=false:=by simp [h12]
 have b3:(a.kind==3)=false:=by simp [h3]
 have b4:(a.kind==4)=false:=by simp [h4]
 have b5:(a.kind==5)=false:=by simp [h5]
 have b6:(a.kind==6)=false:=by simp [h6]
 have b7:(a.kind==7)=false:=by simp [h7]
 have b8:(a.kind==8)=false:=by simp [h8]
 have b9:(a.kind==9)=false:=by simp [h9]
 have b10:(a.kind==10)=false:=by simp [h10]
 have b11:(a.kind==11)=false:=by simp [h11]
 have HS:=gH (show actM a=none from by simp [actM,actL,h1,h2,h12,h3,h4,h5,h6,h7,h8,h9,h10,h11])
 have HA:=gH h.aft
 clear h1 h2 h12 h3 h4 h5 h6 h7 h8 h9 h10 h11 h
 go_enter Tryz.func36,Tryz.ntmps36
 go_wp2_with (first
  | (go_at_call 18;with_reducible refine (dis_no _).mono ?_;rintro e w3 ⟨he,rfl⟩;unfold NoL at he;subst he))
 rw [HS.out]
 exact ⟨rfl,rfl,HA.out.alloc _⟩
theorem act_in (w0:World) (Q:List (Nat × Obj)) (b:Nat) (L:Ws) (a:Dact) (A:Option Addr) (k:Nat) (A2:Option Addr) (k2:Nat) (A3:Option Addr) (k3:Nat) (w:World) (h:LyS w0 Q b L w) (ht:TabW w0) (sm:SmC a.cmd) (so:SmO a.row) (hn:L.length≤10) (hcc:SlAt w0 3 ColR A k a.cmd.cols) (hc:SlAt w0 1 StrR A2 k2 a.cmd.rule.cols) (hv:SlAt w0 3 ValR A3 k3 a.row.row) (hlc:a.cmd.cols.length≤4100) (hl:a.cmd.rule.cols.length≤4100) (hlr:a.row.row.length≤4100) (hr1 : -9223372036854775808≤a.ck) (hr2:a.ck≤9223372036854775807) :
  Calls Tryz.prog 36 #[.pointer (some ⟨b,0,none⟩),.agg (c33 a A k A2 k2 A3 k3).toArray] w (LyQ w0 Q b L (actM a)):=by
 by_cases h1:a.kind=1
 ·exact act_k1 w0 Q b L a A k A2 k2 A3 k3 w h ht sm so hn hcc hc hv hlc hl hlr h1
 by_cases h2:a.kind=2
 ·exact act_k2 w0 Q b L a A k A2 k2 A3 k3 w h ht sm so hn hcc hc hv hlc hl hlr h2
 by_cases h12:a.kind=12
 ·exact act_k12 w0 Q b L a A k A2 k2 A3 k3 w h ht sm so hn hcc hc hv hlc hl hlr h12
 by_cases h3:a.kind=3
 ·exact act_k3 w0 Q b L a A k A2 k2 A3 k3 w h ht sm so hn hcc hc hv hlc hl hlr h3
 by_cases h4:a.kind=4
 ·exact act_k4 w0 Q b L a A k A2 k2 A3 k3 w h ht sm so hn hcc hc hv hlc hl hlr h4
 by_cases h5:a.kind=5
 ·exact act_k5 w0 Q b L a A k A2 k2 A3 k3 w h ht sm so hn hcc hc hv hlc hl hlr h5
 by_cases h6:a.kind=6
 ·exact act_k6 w0 Q b L a A k A2 k2 A3 k3 w h ht sm so hn hcc hc hv hlc hl hlr h6
 by_cases h7:a.kind=7
 ·exact act_k7 w0 Q b L a A k A2 k2 A3 k3 w h ht sm so hn hcc hc hv hlc hl hlr h7
 by_cases h9:a.kind=9
 ·exact act_k9 w0 Q b L a A k A2 k2 A3 k3 w h ht sm so hn hcc hc hv hlc hl hlr h9
 by_cases h10:a.kind=10
 ·exact act_k10 w0 Q b L a A k A2 k2 A3 k3 w h ht sm so hn hcc hc hv hlc hl hlr h10
 by_cases h11:a.kind=11
 ·exact act_k11 w0 Q b L a A k A2 k2 A3 k3 w h ht sm so hn hcc hc hv hlc hl hlr h11
 by_cases h8:a.kind=8
 ·by_cases c1:a.ck = -9223372036854775808
  ·exact act_k84 w0 Q b L a A k A2 k2 A3 k3 w h ht sm so hn hcc hc hv hlc hl hlr h8 c1 hr1 hr2
  by_cases c2:a.ck≤1
  ·exact act_k81 w0 Q b L a A k A2 k2 A3 k3 w h ht sm so hn hcc hc hv hlc hl hlr h8 c2 c1 hr1 hr2
  by_cases c3:a.ck=2
  ·exact act_k82 w0 Q b L a A k A2 k2 A3 k3 w h ht sm so hn hcc hc hv hlc hl hlr h8 c3 hr1 hr2
  ·exact act_k83 w0 Q b L a A k A2 k2 A3 k3 w h ht sm so hn hcc hc hv hlc hl hlr h8 (by omega) hr1 hr2
 exact act_k0 w0 Q b L a A k A2 k2 A3 k3 w h ht sm so hn hcc hc hv hlc hl hlr h1 h2 h12 h3 h4 h5 h6 h7 h8 h9 h10 h11
theorem join_eq:∀ W:List Bts,Lib.join W [32]=joinL 32 W
 | []=>rfl
 | [w]=>by simp [Lib.join,joinL,List.intercalate]
 | w::v::r=>by
  have:=join_eq (v::r)
  unfold Lib.join at this ⊢
  rw [joinL,← this]
  simp [List.intercalate,List.intersperse]
def ShortW (n:Nat) (W:Ws):Prop:=W.length≤n∧∀ x∈W,x.size≤64
theorem short_and {a b:Option Ws} {W:Ws} {n m:Nat} (h:andL a b=some W) (ha:∀ X,a=some X→ShortW n X) (hb:∀ X,b=some X→ShortW m X):ShortW (n+m) W:=by
 cases a with
 | none=>cases h
 | some X =>
  cases b with
  | none=>cases h
  | some Y =>
   cases h
   obtain ⟨a1,a2⟩:=ha X rfl
   obtain ⟨b1,b2⟩:=hb Y rfl
   exact ⟨by simp;omega,fun x hx=>(List.mem_append.1 hx).elim (a2 x) (b2 x)⟩
theorem ShortW.le {n m:Nat} {W:Ws} (h:ShortW n W) (hn:n≤m):ShortW m W:=⟨Nat.le_trans h.1 hn,h.2⟩
theorem nameB_le {s:ByteArray} (h:nameB s=true):s.size≤16:=by
 simp only [nameB,Bool.and_eq_true,decide_eq_true_eq] at h;exact h.1.1.2
theorem nms_short {l W:Ws} (h:nmsL l=some W):ShortW l.length W:=by
 unfold nmsL at h
 split at h
 ·rename_i ha
  cases h
  exact ⟨Nat.le_refl _,fun x hx=>Nat.le_trans (nameB_le (List.all_eq_true.1 ha x hx)) (by decide)⟩
 ·cases h
theorem itoaB_le {n:Int} (h:inN n=true):(itoaB n).size≤64:=by
 simp only [inN,Bool.and_eq_true,decide_eq_true_eq] at h
 unfold itoaB
 rw [wd_size]
 exact Nat.le_trans (Lib.itoa_length_le n (by omega) (by omega)) (by decide)
theorem nus_short {l:List Int} {W:Ws} (h:nusL l=some W):ShortW l.length W:=by
 unfold nusL at h
 split at h
 ·rename_i ha
  cases h
  refine ⟨by simp,fun x hx=>?_⟩
  obtain ⟨n,hn,rfl⟩:=List.mem_map.1 hx
  exact itoaB_le (List.all_eq_true.1 ha n hn)
 ·cases h
theorem catB_size (a b:ByteArray):(catB a b).size=a.size+b.size:=by
 unfold catB
 rw [wd_size,List.length_append,Lib.size_eq,Lib.size_eq]
theorem cols_short {l:List Col} {W:Ws} (h:colsL l=some W):ShortW l.length W:=by
 unfold colsL at h
 split at h
 ·rename_i ha
  cases h
  refine ⟨by simp,fun x hx=>?_⟩
  obtain ⟨c,hc,rfl⟩:=List.mem_map.1 hx
  have:=nameB_le (List.all_eq_true.1 ha c hc)
  have z1:b_cint.size=4:=rfl
  have z2:b_ctext.size=5:=rfl
  have z3:b_nul.size=1:=rfl
  unfold colT
  split<;>split<;>simp only [catB_size]<;>omega
 ·cases h
theorem vals_short {l:List Val} {W:Ws} (h:valsL l=some W):ShortW l.length W:=by
 unfold valsL at h
 split at h
 ·rename_i ha
  cases h
  refine ⟨by simp,fun x hx=>?_⟩
  obtain ⟨v,hv,rfl⟩:=List.mem_map.1 hx
  have ho:=List.all_eq_true.1 ha v hv
  unfold okV at ho
  unfold valT
  split
  ·decide
  ·split
   ·rename_i h2
    rw [if_pos h2] at ho
    exact itoaB_le ho
   ·rename_i h2
    rw [if_neg h2] at ho
    simp only [txtB,Bool.and_eq_true,decide_eq_true_eq] at ho
    have z:b_quo.size=1:=rfl
    rw [catB_size];omega
 ·cases h
theorem one_short {w:ByteArray} (hw:w.size≤64) {X:Ws} (h:(some [w]:Option Ws)=some X):ShortW 1 X:=by
 cases h
 exact ⟨by simp,by simpa using hw⟩
theorem nil_short {X:Ws} (h:(some []:Option Ws)=some X):ShortW 0 X:=by
 cases h
 exact ⟨by simp,by simp⟩
theorem onTab_short {w:ByteArray} (hw:w.size≤64) {x:Cmd} {W:Ws} (h:onTabL w x=some W):ShortW 4 W :=
 short_and (n:=1) (m:=3) h (fun X e=>one_short hw e) (fun X e=>nms_short e)
theorem right_short {x:Cmd} {W:Ws} (h:rightL x=some W):ShortW 3 W :=
 short_and (n:=1) (m:=2) h (fun X e=>one_short (by split<;>decide) e) (fun X e=>short_and (n:=1) (m:=1) e (fun Y e=>nms_short e) (fun Y e=>by
  revert e
  split
  ·exact one_short (by decide)
  ·intro e;exact (nil_short e).le (by decide)))
theorem rule_short {x:Cmd} {W:Ws} (h:ruleL x=some W):ShortW (10+x.rule.cols.length) W:=by
 have:=short_and (n:=1) (m:=4+(3+(x.rule.cols.length+2))) h (fun X e=>by
  revert e
  split
  ·exact one_short (by decide)
  ·split
   ·exact one_short (by decide)
   ·split
    ·exact one_short (by decide)
    ·split
     ·exact one_short (by decide)
     ·intro e;cases e) (fun X e=>short_and (n:=4) e (fun Y e=>nms_short e) (fun Y e=>short_and (n:=3) e (fun Z e=>by
   revert e
   split
   ·exact nms_short
   ·intro e;exact (nil_short e).le (by decide)) (fun Z e=>short_and (n:=x.rule.cols.length) (m:=2) e (fun U e=>nms_short e) (fun U e=>by
    revert e
    split
    ·exact nus_short
    ·intro e;exact (nil_short e).le (by decide)))))
 exact this.le (by omega)
theorem cmd_short {x:Cmd} {W:Ws} (h:cmdL x=some W) (hlc:x.cols.length≤4100) (hl:x.rule.cols.length≤4100):ShortW 4600 W:=by
 unfold cmdL at h
 by_cases g1:x.kind=1
 ·rw [if_pos g1] at h
  exact (short_and (n:=1) (m:=3) h (fun X e=>one_short (by decide) e) (fun X e=>(nms_short e).le (by simp))).le (by decide)
 rw [if_neg g1] at h
 by_cases g2:x.kind=2
 ·rw [if_pos g2] at h
  exact (short_and (n:=1) (m:=3) h (fun X e=>one_short (by decide) e) (fun X e=>(nms_short e).le (by simp))).le (by decide)
 rw [if_neg g2] at h
 by_cases g3:x.kind=3
 ·rw [if_pos g3] at h
  exact (short_and (n:=4) (m:=4100) h (fun X e=>onTab_short (by decide) e) (fun X e=>(cols_short e).le hlc)).le (by decide)
 rw [if_neg g3] at h
 by_cases g4:x.kind=4
 ·rw [if_pos g4] at h
  exact (onTab_short (by decide) h).le (by decide)
 rw [if_neg g4] at h
 by_cases g5:x.kind=5
 ·rw [if_pos g5] at h
  exact (short_and (n:=4) (m:=4100) h (fun X e=>onTab_short (by decide) e) (fun X e=>(cols_short e).le hlc)).le (by decide)
 rw [if_neg g5] at h
 by_cases g6:x.kind=6
 ·rw [if_pos g6] at h
  exact (short_and (n:=4) (m:=1) h (fun X e=>onTab_short (by decide) e) (fun X e=>nms_short e)).le (by decide)
 rw [if_neg g6] at h
 by_cases g7:x.kind=7
 ·rw [if_pos g7] at h
  exact (rule_short h).le (by omega)
 rw [if_neg g7] at h
 by_cases g8:x.kind=8
 ·rw [if_pos g8] at h
  exact (short_and (n:=4) (m:=1) h (fun X e=>onTab_short (by decide) e) (fun X e=>nms_short e)).le (by decide)
 rw [if_neg g8] at h
 by_cases g9:x.kind=9
 ·rw [if_pos g9] at h
  exact (short_and (n:=4) (m:=1) h (fun X e=>onTab_short (by decide) e) (fun X e=>nms_short e)).le (by decide)
 rw [if_neg g9] at h
 by_cases g10:x.kind=10
 ·rw [if_pos g10] at h
  exact (short_and (n:=1) (m:=3) h (fun X e=>one_short (by decide) e) (fun X e=>(nms_short e).le (by simp))).le (by decide)
 rw [if_neg g10] at h
 by_cases g11:x.kind=11
 ·rw [if_pos g11] at h
  exact (short_and (n:=1) (m:=3) h (fun X e=>one_short (by decide) e) (fun X e=>(nms_short e).le (by simp))).le (by decide)
 rw [if_neg g11] at h
 by_cases g12:x.kind=12
 ·rw [if_pos g12] at h
  exact (short_and (n:=1) (m:=3) h (fun X e=>one_short (by decide) e) (fun X e=>(nms_short e).le (by simp))).le (by decide)
 rw [if_neg g12] at h
 by_cases g13:x.kind=13
 ·rw [if_pos g13] at h
  exact (short_and (n:=1) (m:=3) h (fun X e=>one_short (by decide) e) (fun X e=>(nms_short e).le (by simp))).le (by decide)
 rw [if_neg g13] at h
 by_cases g14:x.kind=14
 ·rw [if_pos g14] at h
  exact (short_and (n:=4) (m:=3) h (fun X e=>onTab_short (by decide) e) (fun X e=>right_short e)).le (by decide)
 rw [if_neg g14] at h
 by_cases g15:x.kind=15
 ·rw [if_pos g15] at h
  exact (short_and (n:=4) (m:=3) h (fun X e=>onTab_short (by decide) e) (fun X e=>right_short e)).le (by decide)
 rw [if_neg g15] at h
 cases h
theorem row_short {r:ROp} {W:Ws} (h:rowL r=some W) (hlr:r.row.length≤4100):ShortW 4600 W:=by
 have:=short_and (n:=1) (m:=3+(2+r.row.length)) h (fun X e=>one_short (by split<;>(try split)<;>decide) e) (fun X e=>short_and (n:=3) e (fun Y e=>nms_short e) (fun Y e=>short_and (n:=2) e (fun Z e=>by
  revert e
  split
  ·intro e;exact short_and (n:=1) (m:=1) e (fun U e=>nms_short e) (fun U e=>vals_short e)
  ·intro e;exact (nil_short e).le (by decide)) (fun Z e=>vals_short e)))
 exact this.le (by omega)
theorem act_short {a:Dact} {W:Ws} (h:actM a=some W) (hlc:a.cmd.cols.length≤4100) (hl:a.cmd.rule.cols.length≤4100) (hlr:a.row.row.length≤4100):ShortW 9000 W:=by
 unfold actM at h
 by_cases k8:a.kind=8
 ·rw [if_pos k8] at h
  exact (short_and (n:=1) (m:=2) h (fun X e=>one_short (by unfold chgX chgW;split<;>(try split)<;>(try split)<;>decide) e) (fun X e=>nus_short e)).le (by decide)
 rw [if_neg k8] at h
 unfold actL at h
 by_cases g1:a.kind=1
 ·rw [if_pos g1] at h
  exact (short_and (n:=1) (m:=3) h (fun X e=>one_short (by decide) e) (fun X e=>(nus_short e).le (by simp))).le (by decide)
 rw [if_neg g1] at h
 by_cases g2:a.kind=2
 ·rw [if_pos g2] at h
  exact (one_short (by decide) h).le (by decide)
 rw [if_neg g2] at h
 by_cases g12:a.kind=12
 ·rw [if_pos g12] at h
  exact (short_and (n:=1) (m:=3) h (fun X e=>one_short (by decide) e) (fun X e=>(nus_short e).le (by simp))).le (by decide)
 rw [if_neg g12] at h
 by_cases g3:a.kind=3
 ·rw [if_pos g3] at h
  exact (short_and (n:=1) (m:=3) h (fun X e=>one_short (by decide) e) (fun X e=>(nus_short e).le (by simp))).le (by decide)
 rw [if_neg g3] at h
 by_cases g4:a.kind=4
 ·rw [if_pos g4] at h
  exact (short_and (n:=1) (m:=3) h (fun X e=>one_short (by decide) e) (fun X e=>(nus_short e).le (by simp))).le (by decide)
 rw [if_neg g4] at h
 by_cases g5:a.kind=5
 ·rw [if_pos g5] at h
  exact (short_and (n:=1) (m:=3) h (fun X e=>one_short (by decide) e) (fun X e=>(nus_short e).le (by simp))).le (by decide)
 rw [if_neg g5] at h
 by_cases g6:a.kind=6
 ·rw [if_pos g6] at h
  exact (short_and (n:=1) (m:=3+4600) h (fun X e=>one_short (by decide) e) (fun X e=>short_and (n:=3) (m:=4600) e (fun Y e=>nus_short e) (fun Y e=>cmd_short e hlc hl))).le (by decide)
 rw [if_neg g6] at h
 by_cases g7:a.kind=7
 ·rw [if_pos g7] at h
  exact (short_and (n:=1) (m:=3) h (fun X e=>one_short (by decide) e) (fun X e=>(nus_short e).le (by simp))).le (by decide)
 rw [if_neg g7] at h
 by_cases g8:a.kind=8
 ·rw [if_pos g8] at h
  exact absurd g8 k8
 rw [if_neg g8] at h
 by_cases g9:a.kind=9
 ·rw [if_pos g9] at h
  exact (short_and (n:=1) (m:=3) h (fun X e=>one_short (by decide) e) (fun X e=>(nus_short e).le (by simp))).le (by decide)
 rw [if_neg g9] at h
 by_cases g10:a.kind=10
 ·rw [if_pos g10] at h
  exact (short_and (n:=1) (m:=1+4600) h (fun X e=>one_short (by decide) e) (fun X e=>short_and (n:=1) (m:=4600) e (fun Y e=>nus_short e) (fun Y e=>row_short e hlr))).le (by decide)
 rw [if_neg g10] at h
 by_cases g11:a.kind=11
 ·rw [if_pos g11] at h
  exact (short_and (n:=1) (m:=3) h (fun X e=>one_short (by decide) e) (fun X e=>(nus_short e).le (by simp))).le (by decide)
 rw [if_neg g11] at h
 cases h
theorem act_words {a:Dact} {W:Ws} (h:actM a=some W):W≠[]:=by
 have one:∀ (w:ByteArray) (o:Option Ws) (W:Ws),andL (some [w]) o=some W→W≠[]:=by
  intro w o W e
  cases o with
  | none=>cases e
  | some X=>cases e;simp
 unfold actM at h
 by_cases k8:a.kind=8
 ·rw [if_pos k8] at h
  exact one _ _ _ h
 rw [if_neg k8] at h
 unfold actL at h
 by_cases g1:a.kind=1
 ·rw [if_pos g1] at h
  exact one _ _ _ h
 rw [if_neg g1] at h
 by_cases g2:a.kind=2
 ·rw [if_pos g2] at h
  cases h;simp
 rw [if_neg g2] at h
 by_cases g12:a.kind=12
 ·rw [if_pos g12] at h
  exact one _ _ _ h
 rw [if_neg g12] at h
 by_cases g3:a.kind=3
 ·rw [if_pos g3] at h
  exact one _ _ _ h
 rw [if_neg g3] at h
 by_cases g4:a.kind=4
 ·rw [if_pos g4] at h
  exact one _ _ _ h
 rw [if_neg g4] at h
 by_cases g5:a.kind=5
 ·rw [if_pos g5] at h
  exact one _ _ _ h
 rw [if_neg g5] at h
 by_cases g6:a.kind=6
 ·rw [if_pos g6] at h
  exact one _ _ _ h
 rw [if_neg g6] at h
 by_cases g7:a.kind=7
 ·rw [if_pos g7] at h
  exact one _ _ _ h
 rw [if_neg g7] at h
 by_cases g8:a.kind=8
 ·rw [if_pos g8] at h
  exact absurd g8 k8
 rw [if_neg g8] at h
 by_cases g9:a.kind=9
 ·rw [if_pos g9] at h
  exact one _ _ _ h
 rw [if_neg g9] at h
 by_cases g10:a.kind=10
 ·rw [if_pos g10] at h
  exact one _ _ _ h
 rw [if_neg g10] at h
 by_cases g11:a.kind=11
 ·rw [if_pos g11] at h
  exact one _ _ _ h
 rw [if_neg g11] at h
 cases h
theorem line_small {W:Ws} (h:ShortW 9000 W):(joinL 32 (W.map (·.data.toList))).length≤600000:=by
 by_cases hn:W=[]
 ·subst hn;simp [joinL]
 have h1:=join_len 32 (W.map (·.data.toList)) (by simpa using hn)
 have h2:∀ l:Ws,(∀ x∈l,x.size≤64)→((l.map (·.data.toList)).map (·.length+1)).sum≤65*l.length:=by
  intro l
  induction l with
  | nil=>intro _;simp
  | cons x l ih =>
   intro hx
   have a:=ih fun y hy=>hx y (List.mem_cons_of_mem _ hy)
   have b:=hx x List.mem_cons_self
   rw [Lib.size_eq] at b
   simp only [List.map_cons,List.sum_cons,List.length_cons]
   omega
 have h3:=Nat.le_trans (Nat.le_of_eq h1) (h2 W h.2)
 clear h1 h2
 have:=h.1
 omega
theorem line_le {a:Dact} {W:Ws} (h:actM a=some W) (hlc:a.cmd.cols.length≤4100) (hl:a.cmd.rule.cols.length≤4100) (hlr:a.row.row.length≤4100):Small (lineB W).size:=by
 have:=line_small (act_short h hlc hl hlr)
 unfold lineB
 rw [wd_size]
 unfold Small;omega
def b_bang:ByteArray:=⟨#[33]⟩
def numX (n:Int):ByteArray:=if inN n then itoaB n else b_bang
def wordT (s:ByteArray):ByteArray:=if nameB s then s else b_bang
theorem itoa_neg1 {n:Int} (h:n < 0):itoaB n=⟨#[45]⟩++itoaB (-n):=by
 refine ba_ext ?_
 unfold itoaB
 rw [wd_data]
 unfold Lib.itoa
 rw [if_pos h,if_neg (by omega)]
 have e:n.natAbs=(-n).toNat:=by omega
 rw [e]
 simp [wd]
theorem itoa_one {n:Int} (h0:0≤n) (h:n < 10):itoaB n=⟨#[UInt8.ofNat (48+n.toNat)]⟩:=by
 unfold itoaB Lib.itoa
 rw [if_neg (by omega),Lib.decDigits,dif_pos (by omega)]
 rfl
theorem itoa_more {n:Int} (h:10≤n):itoaB n=itoaB (n / 10)++⟨#[UInt8.ofNat (48+(n % 10).toNat)]⟩:=by
 refine ba_ext ?_
 unfold itoaB
 rw [wd_data]
 unfold Lib.itoa
 rw [if_neg (by omega),if_neg (by omega),Lib.decDigits,dif_neg (by omega)]
 have e1:n.toNat / 10=(n / 10).toNat:=by omega
 have e2:n.toNat % 10=(n % 10).toNat:=by omega
 rw [e1,e2]
 simp [wd]
theorem dig_at {d:Int} (h0:0≤d) (h:d < 10):(⟨#[48,49,50,51,52,53,54,55,56,57]⟩:ByteArray).extract d.toNat (d+1).toNat=⟨#[UInt8.ofNat (48+d.toNat)]⟩:=by
 have:d=0∨d=1∨d=2∨d=3∨d=4∨d=5∨d=6∨d=7∨d=8∨d=9:=by omega
 rcases this with rfl | rfl | rfl | rfl | rfl | rfl | rfl | rfl | rfl | rfl<;>decide
theorem decimal_pos:∀ (k:Nat) (n:Int) (w:World),n.toNat < k→0≤n→n≤1000000000→Calls Tryz.prog 68 #[.int .i64 n] w fun e w'=>e=.returned (.string (itoaB n))∧w=w':=by
 intro k
 induction k with
 | zero=>intro n w h;omega
 | succ k ih =>
  intro n w hk h0 h1
  have hneg:¬ n < 0:=by omega
  have d0:0≤n % 10:=by omega
  have d1:n % 10 < 10:=by omega
  have d2:0≤n / 10:=by omega
  have d3:n / 10≤100000000:=by omega
  have z0:(itoaB (n / 10)).size≤64:=itoaB_le (by simp only [inN,Bool.and_eq_true,decide_eq_true_eq];omega)
  have hx:=dig_at d0 d1
  have t1:n.tmod 10=n % 10:=Int.tmod_eq_emod_of_nonneg h0
  have t2:n.tdiv 10=n / 10:=Int.tdiv_eq_ediv_of_nonneg h0
  have hsz:((⟨#[48,49,50,51,52,53,54,55,56,57]⟩:ByteArray).size:Int)=10:=rfl
  by_cases hten:n < 10
  ·have HN:=gH (show itoaB n=⟨#[48+UInt8.ofNat (n % 10).toNat]⟩ from by rw [itoa_one h0 hten,show n % 10=n from by omega,UInt8.ofNat_add];rfl)
   clear ih
   go_enter Tryz.func68,Tryz.ntmps68
   go_wp2_with fail
   go_ret
   exact ⟨by rw [HN.out];rfl,rfl⟩
  ·have HN:=gH (show itoaB n=itoaB (n / 10)++⟨#[48+UInt8.ofNat (n % 10).toNat]⟩ from by rw [itoa_more (n:=n) (by omega),UInt8.ofNat_add];rfl)
   have HI:=gH (ih (n / 10) w (by omega) (by omega) (by omega))
   clear ih
   go_enter Tryz.func68,Tryz.ntmps68
   go_wp2_with (first
    | (go_at_call 68;(with_reducible refine HI.out.mono ?_);rintro e w1 ⟨rfl,rfl⟩))
   go_ret
   exact ⟨by rw [HN.out];rfl,rfl⟩
theorem decimal_dn (n:Int) (w:World) (h:inN n=true):Calls Tryz.prog 68 #[.int .i64 n] w fun e w'=>e=.returned (.string (itoaB n))∧w=w':=by
 simp only [inN,Bool.and_eq_true,decide_eq_true_eq] at h
 by_cases hneg:n < 0
 ·have HI:=gH (decimal_pos _ (-n) w (Nat.lt_succ_self _) (by omega) (by omega))
  have HN:=gH (itoa_neg1 hneg)
  have h1:=h.1
  have z0:(itoaB (-n)).size≤64:=itoaB_le (by simp only [inN,Bool.and_eq_true,decide_eq_true_eq];omega)
  clear h
  go_enter Tryz.func68,Tryz.ntmps68
  go_wp2_with (first
   | (go_at_call 68;(with_reducible refine HI.out.mono ?_);rintro e w1 ⟨rfl,rfl⟩))
  go_ret
  exact ⟨by rw [HN.out];rfl,rfl⟩
 ·exact decimal_pos _ n w (Nat.lt_succ_self _) (by omega) h.2
theorem num_dx (n:Int) (w:World):Calls Tryz.prog 41 #[.int .i64 n] w fun e w'=>e=.returned (.string (numX n))∧w=w':=by
 by_cases h : -1000000000≤n∧n≤1000000000
 ·have hi:inN n=true:=by simp [inN,h.1,h.2]
  have HD:=gH (decimal_dn n w hi)
  have HN:=gH (show numX n=itoaB n from by unfold numX;rw [if_pos hi])
  have h1:¬ n < -1000000000:=by omega
  have h2:¬ 1000000000 < n:=by omega
  clear h hi
  go_enter Tryz.func41,Tryz.ntmps41
  go_wp2_with (first
   | (go_at_call 68;(with_reducible refine HD.out.mono ?_);rintro e w1 ⟨rfl,rfl⟩))
  go_ret
  exact ⟨by rw [HN.out];rfl,rfl⟩
 ·have HN:=gH (show numX n=b_bang from by unfold numX;rw [if_neg];simp only [inN,Bool.and_eq_true,decide_eq_true_eq];exact h)
  by_cases h1:n < -1000000000
  ·clear h
   go_enter Tryz.func41,Tryz.ntmps41
   go_wp2_with fail
   go_ret
   exact ⟨by rw [HN.out];rfl,rfl⟩
  ·have h2:1000000000 < n:=by omega
   clear h
   go_enter Tryz.func41,Tryz.ntmps41
   go_wp2_with fail
   go_ret
   exact ⟨by rw [HN.out];rfl,rfl⟩
theorem word_dx (s:ByteArray) (w:World) (hs:Small s.size):Calls Tryz.prog 70 #[.string s] w fun e w'=>e=.returned (.string (wordT s))∧w=w':=by
 have HM:=gH (rname_any s w (by unfold Small at hs;unfold maxLen;omega))
 cases hb:nameB s
 ·have HN:=gH (show wordT s=b_bang from by unfold wordT;rw [if_neg (by rw [hb];decide)])
  rw [hb] at HM
  clear hb
  go_enter Tryz.func70,Tryz.ntmps70
  go_wp2_with (first
   | (go_at_call 87;(with_reducible refine HM.out.mono ?_);rintro e w1 ⟨rfl,rfl⟩))
  go_ret
  exact ⟨by rw [HN.out];rfl,rfl⟩
 ·have HN:=gH (show wordT s=s from by unfold wordT;rw [if_pos hb])
  rw [hb] at HM
  clear hb
  go_enter Tryz.func70,Tryz.ntmps70
  go_wp2_with (first
   | (go_at_call 87;(with_reducible refine HM.out.mono ?_);rintro e w1 ⟨rfl,rfl⟩))
  go_ret
  exact ⟨by rw [HN.out];rfl,rfl⟩
end Go.Proofs.YtbdanlipghhgpaaGreatDoor
