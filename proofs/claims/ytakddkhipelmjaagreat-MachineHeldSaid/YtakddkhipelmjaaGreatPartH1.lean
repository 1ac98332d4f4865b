import Derived.WalkKit
import Derived.WalkSpells
import Derived.WalkLawsBesides
import Derived.Laws.Cells
import Derived.Laws.IdiomCopy
import Derived.Test.YtakddkhipelmjaaGreatRows
import Derived.Lib.Hide
import Derived.Deep.QuietTactic
import Derived.BigQuiet
import Derived.Below
import Derived.Deep.Draws
import Derived.StillTailTactics
import Derived.ProofKit
import Derived.OpenShut
import Derived.Deep.Slices
import Derived.ChangeOld
import Derived.SizedLaws
import Derived.OwnWalk
import Derived.Laws.AppendOwn
import Derived.Deep.Upon
import Derived.OneCell
set_option maxRecDepth 100000
set_option linter.unusedVariables false
set_option maxHeartbeats 64000000
namespace Go.Proofs.YtakddkhipelmjaaGreat
open Go.Deep Go.RowKit
theorem gH {p:Prop}(h:p):Go.RowKit.Hid p:=Lib.hid h
theorem kt (b o j:Nat):(Addr.mk b o none).add j=⟨b,o+j,none⟩:=by
 unfold Addr.add;split
 ·rename_i h;rw [h];rfl
 ·rfl
theorem eN {P:Program} (w:World) (T:TypeId) (d:TypeDesc) (k b o:Nat) (hu:P.underlying T=some d) (hd:(match d with | .struct _ | .array _ _=>true | _=>false)=true) (hi:(P.info? T).map (·.size)=some k)
  (h:∀ j,j < k→(w.cell? ⟨b,o+j,none⟩).isSome=true):(loadVar T ⟨b,o,none⟩).run P w=.ok (.agg ((List.range k).map fun j=>(w.cell? ⟨b,o+j,none⟩).getD undef).toArray) w:=by
 have hl:=run_loadCells (P:=P) w ⟨b,o,none⟩ k (fun j=>(w.cell? ⟨b,o+j,none⟩).getD undef) (fun j hj=>by
  rw [kt];obtain ⟨v,hv⟩:=Option.isSome_iff_exists.1 (h j hj)
  rw [hv];rfl)
 cases hq:P.info? T with
 | none=>rw [hq] at hi;cases hi
 | some i =>
  rw [hq] at hi
  have hi':i.size=k:=by simpa using hi
  unfold loadVar
  cases d<;>simp at hd<;>simp [isAgg,run_underlying hu,sizeOf,typeInfo,hq,hi',hl]
theorem eW {P:Program} (w:World) (T:TypeId) (b o:Nat) (vs:List Value) (hi:(P.info? T).map (·.size)=some vs.length)
  (h:∀ j,j < vs.length→(w.cell? ⟨b,o+j,none⟩).isSome=true∧w.frozen? ⟨b,o+j,none⟩=false∧(vs.getD j undef).oneCell'=true):(storeVar T ⟨b,o,none⟩ (.agg vs.toArray)).run P w=.ok () (w.setCells b o vs):=by
 have hs:=run_storeCells_cells (P:=P) b o vs 0 w (fun j hj=>by simpa using (h j hj).1) (fun j hj=>by simpa using (h j hj).2.1) (fun v hv=>by
  obtain ⟨j,hj,rfl⟩:=List.getElem_of_mem hv;have:=(h j hj).2.2
  simpa [List.getD,List.getElem?_eq_getElem hj] using this)
 cases hq:P.info? T with
 | none=>rw [hq] at hi;cases hi
 | some i =>
  rw [hq] at hi
  have hi':i.size=vs.length:=by simpa using hi
  unfold storeVar;simp [sizeOf,typeInfo,hq,hi',Value.cells]
  simpa using hs
theorem ac (k:Nat) (p:Nat→Prop) (h:∀ j,j < k→p j) (hk:p k):∀ j,j < k+1→p j:=fun j hj=>by
 rcases Nat.lt_or_ge j k with h1 | h1
 ·exact h j h1
 ·have:j=k:=by omega
  subst this;exact hk
@[go_sem] theorem Oi (x:ByteArray):(Value.string x).oneCell'=true:=by simp [Value.oneCell']
@[go_sem] theorem VD (k:IntKind) (n:Int):(Value.int k n).oneCell'=true:=by simp [Value.oneCell']
@[go_sem] theorem Rz (b:Bool):(Value.bool b).oneCell'=true:=by simp [Value.oneCell']
@[go_sem] theorem QI (a:Option Addr) (n c:Nat):(Value.slice a n c).oneCell'=true:=by simp [Value.oneCell']
@[go_sem] theorem MJ (a:Option Addr):(Value.pointer a).oneCell'=true:=by simp [Value.oneCell']
@[go_sem] theorem VE (r:Option Nat):(Value.map r).oneCell'=true:=by simp [Value.oneCell']
def MK (a:Addr):Sem Value:=loadVar 109 a
@[go_sem ↓] theorem FZ (a:Addr):loadVar 109 a=MK a:=rfl
@[go_sem] theorem QJ (w:World) (b o:Nat) (h0:(w.cell? ⟨b,o,none⟩).isSome=true) (h1:(w.cell? ⟨b,o+1,none⟩).isSome=true):(MK ⟨b,o,none⟩).run Tryz.prog w=.ok (.agg #[(w.cell? ⟨b,o,none⟩).getD undef,(w.cell? ⟨b,o+1,none⟩).getD undef]) w:=eN (P:=Tryz.prog) w 109 _ 2 b o Tryz.underlying109 rfl (by kernel_rfl) (ac _ _ (ac _ _ (fun j hj=>absurd hj (Nat.not_lt_zero j)) h0) h1)
def MM (a:Addr) (v:Value):Sem Unit:=storeVar 109 a v
@[go_sem ↓] theorem F3 (a:Addr) (v:Value):storeVar 109 a v=MM a v:=rfl
@[go_sem] theorem QK (w:World) (b o:Nat) (v0 v1:Value) (h0:(w.cell? ⟨b,o,none⟩).isSome=true) (h1:(w.cell? ⟨b,o+1,none⟩).isSome=true) (f0:w.frozen? ⟨b,o,none⟩=false) (f1:w.frozen? ⟨b,o+1,none⟩=false) (o0:v0.oneCell'=true) (o1:v1.oneCell'=true):(MM ⟨b,o,none⟩ (.agg #[v0,v1])).run Tryz.prog w=.ok () ((w.setCell ⟨b,o,none⟩ v0).setCell ⟨b,o+1,none⟩ v1):=eW (P:=Tryz.prog) w 109 b o [v0,v1] (by kernel_rfl) (ac _ _ (ac _ _ (fun j hj=>absurd hj (Nat.not_lt_zero j)) ⟨h0,f0,o0⟩) ⟨h1,f1,o1⟩)
def MN (a:Addr):Sem Value:=loadVar 169 a
@[go_sem ↓] theorem F4 (a:Addr):loadVar 169 a=MN a:=rfl
@[go_sem] theorem QL (w:World) (b o:Nat) (h0:(w.cell? ⟨b,o,none⟩).isSome=true) (h1:(w.cell? ⟨b,o+1,none⟩).isSome=true) (h2:(w.cell? ⟨b,o+2,none⟩).isSome=true):(MN ⟨b,o,none⟩).run Tryz.prog w=.ok (.agg #[(w.cell? ⟨b,o,none⟩).getD undef,(w.cell? ⟨b,o+1,none⟩).getD undef,(w.cell? ⟨b,o+2,none⟩).getD undef]) w:=eN (P:=Tryz.prog) w 169 _ 3 b o Tryz.underlying169 rfl (by kernel_rfl) (ac _ _ (ac _ _ (ac _ _ (fun j hj=>absurd hj (Nat.not_lt_zero j)) h0) h1) h2)
def MO (a:Addr) (v:Value):Sem Unit:=storeVar 169 a v
@[go_sem ↓] theorem F5 (a:Addr) (v:Value):storeVar 169 a v=MO a v:=rfl
@[go_sem] theorem QM (w:World) (b o:Nat) (v0 v1 v2:Value) (h0:(w.cell? ⟨b,o,none⟩).isSome=true) (h1:(w.cell? ⟨b,o+1,none⟩).isSome=true) (h2:(w.cell? ⟨b,o+2,none⟩).isSome=true) (f0:w.frozen? ⟨b,o,none⟩=false) (f1:w.frozen? ⟨b,o+1,none⟩=false) (f2:w.frozen? ⟨b,o+2,none⟩=false) (o0:v0.oneCell'=true) (o1:v1.oneCell'=true) (o2:v2.oneCell'=true):(MO ⟨b,o,none⟩ (.agg #[v0,v1,v2])).run Tryz.prog w=.ok () (((w.setCell ⟨b,o,none⟩ v0).setCell ⟨b,o+1,none⟩ v1).setCell ⟨b,o+2,none⟩ v2):=eW (P:=Tryz.prog) w 169 b o [v0,v1,v2] (by kernel_rfl) (ac _ _ (ac _ _ (ac _ _ (fun j hj=>absurd hj (Nat.not_lt_zero j)) ⟨h0,f0,o0⟩) ⟨h1,f1,o1⟩) ⟨h2,f2,o2⟩)
def MP (a:Addr):Sem Value:=loadVar 174 a
@[go_sem ↓] theorem F6 (a:Addr):loadVar 174 a=MP a:=rfl
@[go_sem] theorem QN (w:World) (b o:Nat) (h0:(w.cell? ⟨b,o,none⟩).isSome=true) (h1:(w.cell? ⟨b,o+1,none⟩).isSome=true):(MP ⟨b,o,none⟩).run Tryz.prog w=.ok (.agg #[(w.cell? ⟨b,o,none⟩).getD undef,(w.cell? ⟨b,o+1,none⟩).getD undef]) w:=eN (P:=Tryz.prog) w 174 _ 2 b o Tryz.underlying174 rfl (by kernel_rfl) (ac _ _ (ac _ _ (fun j hj=>absurd hj (Nat.not_lt_zero j)) h0) h1)
def MQ (a:Addr) (v:Value):Sem Unit:=storeVar 174 a v
@[go_sem ↓] theorem F7 (a:Addr) (v:Value):storeVar 174 a v=MQ a v:=rfl
@[go_sem] theorem QO (w:World) (b o:Nat) (v0 v1:Value) (h0:(w.cell? ⟨b,o,none⟩).isSome=true) (h1:(w.cell? ⟨b,o+1,none⟩).isSome=true) (f0:w.frozen? ⟨b,o,none⟩=false) (f1:w.frozen? ⟨b,o+1,none⟩=false) (o0:v0.oneCell'=true) (o1:v1.oneCell'=true):(MQ ⟨b,o,none⟩ (.agg #[v0,v1])).run Tryz.prog w=.ok () ((w.setCell ⟨b,o,none⟩ v0).setCell ⟨b,o+1,none⟩ v1):=eW (P:=Tryz.prog) w 174 b o [v0,v1] (by kernel_rfl) (ac _ _ (ac _ _ (fun j hj=>absurd hj (Nat.not_lt_zero j)) ⟨h0,f0,o0⟩) ⟨h1,f1,o1⟩)
def MR (a:Addr):Sem Value:=loadVar 80 a
@[go_sem ↓] theorem F8 (a:Addr):loadVar 80 a=MR a:=rfl
@[go_sem] theorem DD (w:World) (b o:Nat) (h0:(w.cell? ⟨b,o,none⟩).isSome=true) (h1:(w.cell? ⟨b,o+1,none⟩).isSome=true) (h2:(w.cell? ⟨b,o+2,none⟩).isSome=true) (h3:(w.cell? ⟨b,o+3,none⟩).isSome=true) (h4:(w.cell? ⟨b,o+4,none⟩).isSome=true):(MR ⟨b,o,none⟩).run Tryz.prog w=.ok (.agg #[(w.cell? ⟨b,o,none⟩).getD undef,(w.cell? ⟨b,o+1,none⟩).getD undef,(w.cell? ⟨b,o+2,none⟩).getD undef,(w.cell? ⟨b,o+3,none⟩).getD undef,(w.cell? ⟨b,o+4,none⟩).getD undef]) w:=eN (P:=Tryz.prog) w 80 _ 5 b o Tryz.underlying80 rfl (by kernel_rfl) (ac _ _ (ac _ _ (ac _ _ (ac _ _ (ac _ _ (fun j hj=>absurd hj (Nat.not_lt_zero j)) h0) h1) h2) h3) h4)
def MS (a:Addr) (v:Value):Sem Unit:=storeVar 80 a v
@[go_sem ↓] theorem F9 (a:Addr) (v:Value):storeVar 80 a v=MS a v:=rfl
@[go_sem] theorem QP (w:World) (b o:Nat) (v0 v1 v2 v3 v4:Value) (h0:(w.cell? ⟨b,o,none⟩).isSome=true) (h1:(w.cell? ⟨b,o+1,none⟩).isSome=true) (h2:(w.cell? ⟨b,o+2,none⟩).isSome=true) (h3:(w.cell? ⟨b,o+3,none⟩).isSome=true) (h4:(w.cell? ⟨b,o+4,none⟩).isSome=true) (f0:w.frozen? ⟨b,o,none⟩=false) (f1:w.frozen? ⟨b,o+1,none⟩=false) (f2:w.frozen? ⟨b,o+2,none⟩=false) (f3:w.frozen? ⟨b,o+3,none⟩=false) (f4:w.frozen? ⟨b,o+4,none⟩=false) (o0:v0.oneCell'=true) (o1:v1.oneCell'=true) (o2:v2.oneCell'=true) (o3:v3.oneCell'=true) (o4:v4.oneCell'=true):(MS ⟨b,o,none⟩ (.agg #[v0,v1,v2,v3,v4])).run Tryz.prog w=.ok () (((((w.setCell ⟨b,o,none⟩ v0).setCell ⟨b,o+1,none⟩ v1).setCell ⟨b,o+2,none⟩ v2).setCell ⟨b,o+3,none⟩ v3).setCell ⟨b,o+4,none⟩ v4):=eW (P:=Tryz.prog) w 80 b o [v0,v1,v2,v3,v4] (by kernel_rfl) (ac _ _ (ac _ _ (ac _ _ (ac _ _ (ac _ _ (fun j hj=>absurd hj (Nat.not_lt_zero j)) ⟨h0,f0,o0⟩) ⟨h1,f1,o1⟩) ⟨h2,f2,o2⟩) ⟨h3,f3,o3⟩) ⟨h4,f4,o4⟩)
def MT (a:Addr):Sem Value:=loadVar 42 a
@[go_sem ↓] theorem Ga (a:Addr):loadVar 42 a=MT a:=rfl
@[go_sem] theorem QQ (w:World) (b o:Nat) (h0:(w.cell? ⟨b,o,none⟩).isSome=true) (h1:(w.cell? ⟨b,o+1,none⟩).isSome=true) (h2:(w.cell? ⟨b,o+2,none⟩).isSome=true) (h3:(w.cell? ⟨b,o+3,none⟩).isSome=true) (h4:(w.cell? ⟨b,o+4,none⟩).isSome=true) (h5:(w.cell? ⟨b,o+5,none⟩).isSome=true) (h6:(w.cell? ⟨b,o+6,none⟩).isSome=true) (h7:(w.cell? ⟨b,o+7,none⟩).isSome=true):(MT ⟨b,o,none⟩).run Tryz.prog w=.ok (.agg #[(w.cell? ⟨b,o,none⟩).getD undef,(w.cell? ⟨b,o+1,none⟩).getD undef,(w.cell? ⟨b,o+2,none⟩).getD undef,(w.cell? ⟨b,o+3,none⟩).getD undef,(w.cell? ⟨b,o+4,none⟩).getD undef,(w.cell? ⟨b,o+5,none⟩).getD undef,(w.cell? ⟨b,o+6,none⟩).getD undef,(w.cell? ⟨b,o+7,none⟩).getD undef]) w:=eN (P:=Tryz.prog) w 42 _ 8 b o Tryz.underlying42 rfl (by kernel_rfl) (ac _ _ (ac _ _ (ac _ _ (ac _ _ (ac _ _ (ac _ _ (ac _ _ (ac _ _ (fun j hj=>absurd hj (Nat.not_lt_zero j)) h0) h1) h2) h3) h4) h5) h6) h7)
def MU (a:Addr) (v:Value):Sem Unit:=storeVar 42 a v
@[go_sem ↓] theorem Gb (a:Addr) (v:Value):storeVar 42 a v=MU a v:=rfl
@[go_sem] theorem QS (w:World) (b o:Nat) (v0 v1 v2 v3 v4 v5 v6 v7:Value) (h0:(w.cell? ⟨b,o,none⟩).isSome=true) (h1:(w.cell? ⟨b,o+1,none⟩).isSome=true) (h2:(w.cell? ⟨b,o+2,none⟩).isSome=true) (h3:(w.cell? ⟨b,o+3,none⟩).isSome=true) (h4:(w.cell? ⟨b,o+4,none⟩).isSome=true) (h5:(w.cell? ⟨b,o+5,none⟩).isSome=true) (h6:(w.cell? ⟨b,o+6,none⟩).isSome=true) (h7:(w.cell? ⟨b,o+7,none⟩).isSome=true) (f0:w.frozen? ⟨b,o,none⟩=false) (f1:w.frozen? ⟨b,o+1,none⟩=false) (f2:w.frozen? ⟨b,o+2,none⟩=false) (f3:w.frozen? ⟨b,o+3,none⟩=false) (f4:w.frozen? ⟨b,o+4,none⟩=false) (f5:w.frozen? ⟨b,o+5,none⟩=false) (f6:w.frozen? ⟨b,o+6,none⟩=false) (f7:w.frozen? ⟨b,o+7,none⟩=false) (o0:v0.oneCell'=true) (o1:v1.oneCell'=true) (o2:v2.oneCell'=true) (o3:v3.oneCell'=true) (o4:v4.oneCell'=true) (o5:v5.oneCell'=true) (o6:v6.oneCell'=true) (o7:v7.oneCell'=true):(MU ⟨b,o,none⟩ (.agg #[v0,v1,v2,v3,v4,v5,v6,v7])).run Tryz.prog w=.ok () ((((((((w.setCell ⟨b,o,none⟩ v0).setCell ⟨b,o+1,none⟩ v1).setCell ⟨b,o+2,none⟩ v2).setCell ⟨b,o+3,none⟩ v3).setCell ⟨b,o+4,none⟩ v4).setCell ⟨b,o+5,none⟩ v5).setCell ⟨b,o+6,none⟩ v6).setCell ⟨b,o+7,none⟩ v7):=eW (P:=Tryz.prog) w 42 b o [v0,v1,v2,v3,v4,v5,v6,v7] (by kernel_rfl) (ac _ _ (ac _ _ (ac _ _ (ac _ _ (ac _ _ (ac _ _ (ac _ _ (ac _ _ (fun j hj=>absurd hj (Nat.not_lt_zero j)) ⟨h0,f0,o0⟩) ⟨h1,f1,o1⟩) ⟨h2,f2,o2⟩) ⟨h3,f3,o3⟩) ⟨h4,f4,o4⟩) ⟨h5,f5,o5⟩) ⟨h6,f6,o6⟩) ⟨h7,f7,o7⟩)
def MV (a:Addr):Sem Value:=loadVar 25 a
@[go_sem ↓] theorem RA (a:Addr):loadVar 25 a=MV a:=rfl
@[go_sem] theorem DF (w:World) (b o:Nat) (h0:(w.cell? ⟨b,o,none⟩).isSome=true) (h1:(w.cell? ⟨b,o+1,none⟩).isSome=true):(MV ⟨b,o,none⟩).run Tryz.prog w=.ok (.agg #[(w.cell? ⟨b,o,none⟩).getD undef,(w.cell? ⟨b,o+1,none⟩).getD undef]) w:=eN (P:=Tryz.prog) w 25 _ 2 b o Tryz.underlying25 rfl (by kernel_rfl) (ac _ _ (ac _ _ (fun j hj=>absurd hj (Nat.not_lt_zero j)) h0) h1)
def MW (a:Addr) (v:Value):Sem Unit:=storeVar 25 a v
@[go_sem ↓] theorem RB (a:Addr) (v:Value):storeVar 25 a v=MW a v:=rfl
@[go_sem] theorem QT (w:World) (b o:Nat) (v0 v1:Value) (h0:(w.cell? ⟨b,o,none⟩).isSome=true) (h1:(w.cell? ⟨b,o+1,none⟩).isSome=true) (f0:w.frozen? ⟨b,o,none⟩=false) (f1:w.frozen? ⟨b,o+1,none⟩=false) (o0:v0.oneCell'=true) (o1:v1.oneCell'=true):(MW ⟨b,o,none⟩ (.agg #[v0,v1])).run Tryz.prog w=.ok () ((w.setCell ⟨b,o,none⟩ v0).setCell ⟨b,o+1,none⟩ v1):=eW (P:=Tryz.prog) w 25 b o [v0,v1] (by kernel_rfl) (ac _ _ (ac _ _ (fun j hj=>absurd hj (Nat.not_lt_zero j)) ⟨h0,f0,o0⟩) ⟨h1,f1,o1⟩)
def MX (a:Addr):Sem Value:=loadVar 29 a
@[go_sem ↓] theorem RD (a:Addr):loadVar 29 a=MX a:=rfl
@[go_sem] theorem QU (w:World) (b o:Nat) (h0:(w.cell? ⟨b,o,none⟩).isSome=true) (h1:(w.cell? ⟨b,o+1,none⟩).isSome=true):(MX ⟨b,o,none⟩).run Tryz.prog w=.ok (.agg #[(w.cell? ⟨b,o,none⟩).getD undef,(w.cell? ⟨b,o+1,none⟩).getD undef]) w:=eN (P:=Tryz.prog) w 29 _ 2 b o Tryz.underlying29 rfl (by kernel_rfl) (ac _ _ (ac _ _ (fun j hj=>absurd hj (Nat.not_lt_zero j)) h0) h1)
def MZ (a:Addr) (v:Value):Sem Unit:=storeVar 29 a v
@[go_sem ↓] theorem RH (a:Addr) (v:Value):storeVar 29 a v=MZ a v:=rfl
@[go_sem] theorem QV (w:World) (b o:Nat) (v0 v1:Value) (h0:(w.cell? ⟨b,o,none⟩).isSome=true) (h1:(w.cell? ⟨b,o+1,none⟩).isSome=true) (f0:w.frozen? ⟨b,o,none⟩=false) (f1:w.frozen? ⟨b,o+1,none⟩=false) (o0:v0.oneCell'=true) (o1:v1.oneCell'=true):(MZ ⟨b,o,none⟩ (.agg #[v0,v1])).run Tryz.prog w=.ok () ((w.setCell ⟨b,o,none⟩ v0).setCell ⟨b,o+1,none⟩ v1):=eW (P:=Tryz.prog) w 29 b o [v0,v1] (by kernel_rfl) (ac _ _ (ac _ _ (fun j hj=>absurd hj (Nat.not_lt_zero j)) ⟨h0,f0,o0⟩) ⟨h1,f1,o1⟩)
def M0 (a:Addr):Sem Value:=loadVar 177 a
@[go_sem ↓] theorem Gc (a:Addr):loadVar 177 a=M0 a:=rfl
@[go_sem] theorem QW (w:World) (b o:Nat) (h0:(w.cell? ⟨b,o,none⟩).isSome=true) (h1:(w.cell? ⟨b,o+1,none⟩).isSome=true) (h2:(w.cell? ⟨b,o+2,none⟩).isSome=true) (h3:(w.cell? ⟨b,o+3,none⟩).isSome=true) (h4:(w.cell? ⟨b,o+4,none⟩).isSome=true) (h5:(w.cell? ⟨b,o+5,none⟩).isSome=true):(M0 ⟨b,o,none⟩).run Tryz.prog w=.ok (.agg #[(w.cell? ⟨b,o,none⟩).getD undef,(w.cell? ⟨b,o+1,none⟩).getD undef,(w.cell? ⟨b,o+2,none⟩).getD undef,(w.cell? ⟨b,o+3,none⟩).getD undef,(w.cell? ⟨b,o+4,none⟩).getD undef,(w.cell? ⟨b,o+5,none⟩).getD undef]) w:=eN (P:=Tryz.prog) w 177 _ 6 b o Tryz.underlying177 rfl (by kernel_rfl) (ac _ _ (ac _ _ (ac _ _ (ac _ _ (ac _ _ (ac _ _ (fun j hj=>absurd hj (Nat.not_lt_zero j)) h0) h1) h2) h3) h4) h5)
def M4 (a:Addr) (v:Value):Sem Unit:=storeVar 177 a v
@[go_sem ↓] theorem Gd (a:Addr) (v:Value):storeVar 177 a v=M4 a v:=rfl
@[go_sem] theorem QX (w:World) (b o:Nat) (v0 v1 v2 v3 v4 v5:Value) (h0:(w.cell? ⟨b,o,none⟩).isSome=true) (h1:(w.cell? ⟨b,o+1,none⟩).isSome=true) (h2:(w.cell? ⟨b,o+2,none⟩).isSome=true) (h3:(w.cell? ⟨b,o+3,none⟩).isSome=true) (h4:(w.cell? ⟨b,o+4,none⟩).isSome=true) (h5:(w.cell? ⟨b,o+5,none⟩).isSome=true) (f0:w.frozen? ⟨b,o,none⟩=false) (f1:w.frozen? ⟨b,o+1,none⟩=false) (f2:w.frozen? ⟨b,o+2,none⟩=false) (f3:w.frozen? ⟨b,o+3,none⟩=false) (f4:w.frozen? ⟨b,o+4,none⟩=false) (f5:w.frozen? ⟨b,o+5,none⟩=false) (o0:v0.oneCell'=true) (o1:v1.oneCell'=true) (o2:v2.oneCell'=true) (o3:v3.oneCell'=true) (o4:v4.oneCell'=true) (o5:v5.oneCell'=true):(M4 ⟨b,o,none⟩ (.agg #[v0,v1,v2,v3,v4,v5])).run Tryz.prog w=.ok () ((((((w.setCell ⟨b,o,none⟩ v0).setCell ⟨b,o+1,none⟩ v1).setCell ⟨b,o+2,none⟩ v2).setCell ⟨b,o+3,none⟩ v3).setCell ⟨b,o+4,none⟩ v4).setCell ⟨b,o+5,none⟩ v5):=eW (P:=Tryz.prog) w 177 b o [v0,v1,v2,v3,v4,v5] (by kernel_rfl) (ac _ _ (ac _ _ (ac _ _ (ac _ _ (ac _ _ (ac _ _ (fun j hj=>absurd hj (Nat.not_lt_zero j)) ⟨h0,f0,o0⟩) ⟨h1,f1,o1⟩) ⟨h2,f2,o2⟩) ⟨h3,f3,o3⟩) ⟨h4,f4,o4⟩) ⟨h5,f5,o5⟩)
def Cj (a:Addr):Sem Value:=loadVar 32 a
@[go_sem ↓] theorem Ge (a:Addr):loadVar 32 a=Cj a:=rfl
@[go_sem] theorem DG (w:World) (b o:Nat) (h0:(w.cell? ⟨b,o,none⟩).isSome=true) (h1:(w.cell? ⟨b,o+1,none⟩).isSome=true) (h2:(w.cell? ⟨b,o+2,none⟩).isSome=true) (h3:(w.cell? ⟨b,o+3,none⟩).isSome=true) (h4:(w.cell? ⟨b,o+4,none⟩).isSome=true) (h5:(w.cell? ⟨b,o+5,none⟩).isSome=true) (h6:(w.cell? ⟨b,o+6,none⟩).isSome=true):(Cj ⟨b,o,none⟩).run Tryz.prog w=.ok (.agg #[(w.cell? ⟨b,o,none⟩).getD undef,(w.cell? ⟨b,o+1,none⟩).getD undef,(w.cell? ⟨b,o+2,none⟩).getD undef,(w.cell? ⟨b,o+3,none⟩).getD undef,(w.cell? ⟨b,o+4,none⟩).getD undef,(w.cell? ⟨b,o+5,none⟩).getD undef,(w.cell? ⟨b,o+6,none⟩).getD undef]) w:=eN (P:=Tryz.prog) w 32 _ 7 b o Tryz.underlying32 rfl (by kernel_rfl) (ac _ _ (ac _ _ (ac _ _ (ac _ _ (ac _ _ (ac _ _ (ac _ _ (fun j hj=>absurd hj (Nat.not_lt_zero j)) h0) h1) h2) h3) h4) h5) h6)
def M8 (a:Addr) (v:Value):Sem Unit:=storeVar 32 a v
@[go_sem ↓] theorem nE (a:Addr) (v:Value):storeVar 32 a v=M8 a v:=rfl
@[go_sem] theorem QY (w:World) (b o:Nat) (v0 v1 v2 v3 v4 v5 v6:Value) (h0:(w.cell? ⟨b,o,none⟩).isSome=true) (h1:(w.cell? ⟨b,o+1,none⟩).isSome=true) (h2:(w.cell? ⟨b,o+2,none⟩).isSome=true) (h3:(w.cell? ⟨b,o+3,none⟩).isSome=true) (h4:(w.cell? ⟨b,o+4,none⟩).isSome=true) (h5:(w.cell? ⟨b,o+5,none⟩).isSome=true) (h6:(w.cell? ⟨b,o+6,none⟩).isSome=true) (f0:w.frozen? ⟨b,o,none⟩=false) (f1:w.frozen? ⟨b,o+1,none⟩=false) (f2:w.frozen? ⟨b,o+2,none⟩=false) (f3:w.frozen? ⟨b,o+3,none⟩=false) (f4:w.frozen? ⟨b,o+4,none⟩=false) (f5:w.frozen? ⟨b,o+5,none⟩=false) (f6:w.frozen? ⟨b,o+6,none⟩=false) (o0:v0.oneCell'=true) (o1:v1.oneCell'=true) (o2:v2.oneCell'=true) (o3:v3.oneCell'=true) (o4:v4.oneCell'=true) (o5:v5.oneCell'=true) (o6:v6.oneCell'=true):(M8 ⟨b,o,none⟩ (.agg #[v0,v1,v2,v3,v4,v5,v6])).run Tryz.prog w=.ok () (((((((w.setCell ⟨b,o,none⟩ v0).setCell ⟨b,o+1,none⟩ v1).setCell ⟨b,o+2,none⟩ v2).setCell ⟨b,o+3,none⟩ v3).setCell ⟨b,o+4,none⟩ v4).setCell ⟨b,o+5,none⟩ v5).setCell ⟨b,o+6,none⟩ v6):=eW (P:=Tryz.prog) w 32 b o [v0,v1,v2,v3,v4,v5,v6] (by kernel_rfl) (ac _ _ (ac _ _ (ac _ _ (ac _ _ (ac _ _ (ac _ _ (ac _ _ (fun j hj=>absurd hj (Nat.not_lt_zero j)) ⟨h0,f0,o0⟩) ⟨h1,f1,o1⟩) ⟨h2,f2,o2⟩) ⟨h3,f3,o3⟩) ⟨h4,f4,o4⟩) ⟨h5,f5,o5⟩) ⟨h6,f6,o6⟩)
def Cl (a:Addr):Sem Value:=loadVar 45 a
@[go_sem ↓] theorem RI (a:Addr):loadVar 45 a=Cl a:=rfl
@[go_sem] theorem QZ (w:World) (b o:Nat) (h0:(w.cell? ⟨b,o,none⟩).isSome=true) (h1:(w.cell? ⟨b,o+1,none⟩).isSome=true) (h2:(w.cell? ⟨b,o+2,none⟩).isSome=true) (h3:(w.cell? ⟨b,o+3,none⟩).isSome=true) (h4:(w.cell? ⟨b,o+4,none⟩).isSome=true) (h5:(w.cell? ⟨b,o+5,none⟩).isSome=true) (h6:(w.cell? ⟨b,o+6,none⟩).isSome=true) (h7:(w.cell? ⟨b,o+7,none⟩).isSome=true) (h8:(w.cell? ⟨b,o+8,none⟩).isSome=true) (h9:(w.cell? ⟨b,o+9,none⟩).isSome=true) (h10:(w.cell? ⟨b,o+10,none⟩).isSome=true) (h11:(w.cell? ⟨b,o+11,none⟩).isSome=true) (Co:(w.cell? ⟨b,o+12,none⟩).isSome=true) (Cp:(w.cell? ⟨b,o+13,none⟩).isSome=true) (FE:(w.cell? ⟨b,o+14,none⟩).isSome=true) (FH:(w.cell? ⟨b,o+15,none⟩).isSome=true) (Oj:(w.cell? ⟨b,o+16,none⟩).isSome=true):(Cl ⟨b,o,none⟩).run Tryz.prog w=.ok (.agg #[(w.cell? ⟨b,o,none⟩).getD undef,(w.cell? ⟨b,o+1,none⟩).getD undef,(w.cell? ⟨b,o+2,none⟩).getD undef,(w.cell? ⟨b,o+3,none⟩).getD undef,(w.cell? ⟨b,o+4,none⟩).getD undef,(w.cell? ⟨b,o+5,none⟩).getD undef,(w.cell? ⟨b,o+6,none⟩).getD undef,(w.cell? ⟨b,o+7,none⟩).getD undef,(w.cell? ⟨b,o+8,none⟩).getD undef,(w.cell? ⟨b,o+9,none⟩).getD undef,(w.cell? ⟨b,o+10,none⟩).getD undef,(w.cell? ⟨b,o+11,none⟩).getD undef,(w.cell? ⟨b,o+12,none⟩).getD undef,(w.cell? ⟨b,o+13,none⟩).getD undef,(w.cell? ⟨b,o+14,none⟩).getD undef,(w.cell? ⟨b,o+15,none⟩).getD undef,(w.cell? ⟨b,o+16,none⟩).getD undef]) w:=eN (P:=Tryz.prog) w 45 _ 17 b o Tryz.underlying45 rfl (by kernel_rfl) (ac _ _ (ac _ _ (ac _ _ (ac _ _ (ac _ _ (ac _ _ (ac _ _ (ac _ _ (ac _ _ (ac _ _ (ac _ _ (ac _ _ (ac _ _ (ac _ _ (ac _ _ (ac _ _ (ac _ _ (fun j hj=>absurd hj (Nat.not_lt_zero j)) h0) h1) h2) h3) h4) h5) h6) h7) h8) h9) h10) h11) Co) Cp) FE) FH) Oj)
def M9 (a:Addr) (v:Value):Sem Unit:=storeVar 45 a v
@[go_sem ↓] theorem RJ (a:Addr) (v:Value):storeVar 45 a v=M9 a v:=rfl
@[go_sem] theorem Q0 (w:World) (b o:Nat) (v0 v1 v2 v3 v4 v5 v6 v7 v8 v9 v10 v11 v12 v13 v14 v15 v16:Value) (h0:(w.cell? ⟨b,o,none⟩).isSome=true) (h1:(w.cell? ⟨b,o+1,none⟩).isSome=true) (h2:(w.cell? ⟨b,o+2,none⟩).isSome=true) (h3:(w.cell? ⟨b,o+3,none⟩).isSome=true) (h4:(w.cell? ⟨b,o+4,none⟩).isSome=true) (h5:(w.cell? ⟨b,o+5,none⟩).isSome=true) (h6:(w.cell? ⟨b,o+6,none⟩).isSome=true) (h7:(w.cell? ⟨b,o+7,none⟩).isSome=true) (h8:(w.cell? ⟨b,o+8,none⟩).isSome=true) (h9:(w.cell? ⟨b,o+9,none⟩).isSome=true) (h10:(w.cell? ⟨b,o+10,none⟩).isSome=true) (h11:(w.cell? ⟨b,o+11,none⟩).isSome=true) (Co:(w.cell? ⟨b,o+12,none⟩).isSome=true) (Cp:(w.cell? ⟨b,o+13,none⟩).isSome=true) (FE:(w.cell? ⟨b,o+14,none⟩).isSome=true) (FH:(w.cell? ⟨b,o+15,none⟩).isSome=true) (Oj:(w.cell? ⟨b,o+16,none⟩).isSome=true) (f0:w.frozen? ⟨b,o,none⟩=false) (f1:w.frozen? ⟨b,o+1,none⟩=false) (f2:w.frozen? ⟨b,o+2,none⟩=false) (f3:w.frozen? ⟨b,o+3,none⟩=false) (f4:w.frozen? ⟨b,o+4,none⟩=false) (f5:w.frozen? ⟨b,o+5,none⟩=false) (f6:w.frozen? ⟨b,o+6,none⟩=false) (f7:w.frozen? ⟨b,o+7,none⟩=false) (f8:w.frozen? ⟨b,o+8,none⟩=false) (f9:w.frozen? ⟨b,o+9,none⟩=false) (f10:w.frozen? ⟨b,o+10,none⟩=false) (f11:w.frozen? ⟨b,o+11,none⟩=false) (f12:w.frozen? ⟨b,o+12,none⟩=false) (f13:w.frozen? ⟨b,o+13,none⟩=false) (f14:w.frozen? ⟨b,o+14,none⟩=false) (f15:w.frozen? ⟨b,o+15,none⟩=false) (f16:w.frozen? ⟨b,o+16,none⟩=false) (o0:v0.oneCell'=true) (o1:v1.oneCell'=true) (o2:v2.oneCell'=true) (o3:v3.oneCell'=true) (o4:v4.oneCell'=true) (o5:v5.oneCell'=true) (o6:v6.oneCell'=true) (o7:v7.oneCell'=true) (o8:v8.oneCell'=true) (o9:v9.oneCell'=true) (Wu:v10.oneCell'=true) (Wv:v11.oneCell'=true) (Ww:v12.oneCell'=true) (DJ:v13.oneCell'=true) (Wx:v14.oneCell'=true) (Wy:v15.oneCell'=true) (Wz:v16.oneCell'=true):(M9 ⟨b,o,none⟩ (.agg #[v0,v1,v2,v3,v4,v5,v6,v7,v8,v9,v10,v11,v12,v13,v14,v15,v16])).run Tryz.prog w=.ok () (((((((((((((((((w.setCell ⟨b,o,none⟩ v0).setCell ⟨b,o+1,none⟩ v1).setCell ⟨b,o+2,none⟩ v2).setCell ⟨b,o+3,none⟩ v3).setCell ⟨b,o+4,none⟩ v4).setCell ⟨b,o+5,none⟩ v5).setCell ⟨b,o+6,none⟩ v6).setCell ⟨b,o+7,none⟩ v7).setCell ⟨b,o+8,none⟩ v8).setCell ⟨b,o+9,none⟩ v9).setCell ⟨b,o+10,none⟩ v10).setCell ⟨b,o+11,none⟩ v11).setCell ⟨b,o+12,none⟩ v12).setCell ⟨b,o+13,none⟩ v13).setCell ⟨b,o+14,none⟩ v14).setCell ⟨b,o+15,none⟩ v15).setCell ⟨b,o+16,none⟩ v16):=eW (P:=Tryz.prog) w 45 b o [v0,v1,v2,v3,v4,v5,v6,v7,v8,v9,v10,v11,v12,v13,v14,v15,v16] (by kernel_rfl) (ac _ _ (ac _ _ (ac _ _ (ac _ _ (ac _ _ (ac _ _ (ac _ _ (ac _ _ (ac _ _ (ac _ _ (ac _ _ (ac _ _ (ac _ _ (ac _ _ (ac _ _ (ac _ _ (ac _ _ (fun j hj=>absurd hj (Nat.not_lt_zero j)) ⟨h0,f0,o0⟩) ⟨h1,f1,o1⟩) ⟨h2,f2,o2⟩) ⟨h3,f3,o3⟩) ⟨h4,f4,o4⟩) ⟨h5,f5,o5⟩) ⟨h6,f6,o6⟩) ⟨h7,f7,o7⟩) ⟨h8,f8,o8⟩) ⟨h9,f9,o9⟩) ⟨h10,f10,Wu⟩) ⟨h11,f11,Wv⟩) ⟨Co,f12,Ww⟩) ⟨Cp,f13,DJ⟩) ⟨FE,f14,Wx⟩) ⟨FH,f15,Wy⟩) ⟨Oj,f16,Wz⟩)
def RL (a:Addr):Sem Value:=loadVar 150 a
@[go_sem ↓] theorem VF (a:Addr):loadVar 150 a=RL a:=rfl
@[go_sem] theorem RM (w:World) (b o:Nat) (h0:(w.cell? ⟨b,o,none⟩).isSome=true) (h1:(w.cell? ⟨b,o+1,none⟩).isSome=true) (h2:(w.cell? ⟨b,o+2,none⟩).isSome=true) (h3:(w.cell? ⟨b,o+3,none⟩).isSome=true):(RL ⟨b,o,none⟩).run Tryz.prog w=.ok (.agg #[(w.cell? ⟨b,o,none⟩).getD undef,(w.cell? ⟨b,o+1,none⟩).getD undef,(w.cell? ⟨b,o+2,none⟩).getD undef,(w.cell? ⟨b,o+3,none⟩).getD undef]) w:=eN (P:=Tryz.prog) w 150 _ 4 b o Tryz.underlying150 rfl (by kernel_rfl) (ac _ _ (ac _ _ (ac _ _ (ac _ _ (fun j hj=>absurd hj (Nat.not_lt_zero j)) h0) h1) h2) h3)
def RN (a:Addr) (v:Value):Sem Unit:=storeVar 150 a v
@[go_sem ↓] theorem VG (a:Addr) (v:Value):storeVar 150 a v=RN a v:=rfl
@[go_sem] theorem RO (w:World) (b o:Nat) (v0 v1 v2 v3:Value) (h0:(w.cell? ⟨b,o,none⟩).isSome=true) (h1:(w.cell? ⟨b,o+1,none⟩).isSome=true) (h2:(w.cell? ⟨b,o+2,none⟩).isSome=true) (h3:(w.cell? ⟨b,o+3,none⟩).isSome=true) (f0:w.frozen? ⟨b,o,none⟩=false) (f1:w.frozen? ⟨b,o+1,none⟩=false) (f2:w.frozen? ⟨b,o+2,none⟩=false) (f3:w.frozen? ⟨b,o+3,none⟩=false) (o0:v0.oneCell'=true) (o1:v1.oneCell'=true) (o2:v2.oneCell'=true) (o3:v3.oneCell'=true):(RN ⟨b,o,none⟩ (.agg #[v0,v1,v2,v3])).run Tryz.prog w=.ok () ((((w.setCell ⟨b,o,none⟩ v0).setCell ⟨b,o+1,none⟩ v1).setCell ⟨b,o+2,none⟩ v2).setCell ⟨b,o+3,none⟩ v3):=eW (P:=Tryz.prog) w 150 b o [v0,v1,v2,v3] (by kernel_rfl) (ac _ _ (ac _ _ (ac _ _ (ac _ _ (fun j hj=>absurd hj (Nat.not_lt_zero j)) ⟨h0,f0,o0⟩) ⟨h1,f1,o1⟩) ⟨h2,f2,o2⟩) ⟨h3,f3,o3⟩)
def RS (a:Addr):Sem Value:=loadVar 151 a
@[go_sem ↓] theorem VH (a:Addr):loadVar 151 a=RS a:=rfl
@[go_sem] theorem RT (w:World) (b o:Nat) (h0:(w.cell? ⟨b,o,none⟩).isSome=true) (h1:(w.cell? ⟨b,o+1,none⟩).isSome=true) (h2:(w.cell? ⟨b,o+2,none⟩).isSome=true) (h3:(w.cell? ⟨b,o+3,none⟩).isSome=true):(RS ⟨b,o,none⟩).run Tryz.prog w=.ok (.agg #[(w.cell? ⟨b,o,none⟩).getD undef,(w.cell? ⟨b,o+1,none⟩).getD undef,(w.cell? ⟨b,o+2,none⟩).getD undef,(w.cell? ⟨b,o+3,none⟩).getD undef]) w:=eN (P:=Tryz.prog) w 151 _ 4 b o Tryz.underlying151 rfl (by kernel_rfl) (ac _ _ (ac _ _ (ac _ _ (ac _ _ (fun j hj=>absurd hj (Nat.not_lt_zero j)) h0) h1) h2) h3)
def RU (a:Addr) (v:Value):Sem Unit:=storeVar 151 a v
@[go_sem ↓] theorem VI (a:Addr) (v:Value):storeVar 151 a v=RU a v:=rfl
@[go_sem] theorem R2 (w:World) (b o:Nat) (v0 v1 v2 v3:Value) (h0:(w.cell? ⟨b,o,none⟩).isSome=true) (h1:(w.cell? ⟨b,o+1,none⟩).isSome=true) (h2:(w.cell? ⟨b,o+2,none⟩).isSome=true) (h3:(w.cell? ⟨b,o+3,none⟩).isSome=true) (f0:w.frozen? ⟨b,o,none⟩=false) (f1:w.frozen? ⟨b,o+1,none⟩=false) (f2:w.frozen? ⟨b,o+2,none⟩=false) (f3:w.frozen? ⟨b,o+3,none⟩=false) (o0:v0.oneCell'=true) (o1:v1.oneCell'=true) (o2:v2.oneCell'=true) (o3:v3.oneCell'=true):(RU ⟨b,o,none⟩ (.agg #[v0,v1,v2,v3])).run Tryz.prog w=.ok () ((((w.setCell ⟨b,o,none⟩ v0).setCell ⟨b,o+1,none⟩ v1).setCell ⟨b,o+2,none⟩ v2).setCell ⟨b,o+3,none⟩ v3):=eW (P:=Tryz.prog) w 151 b o [v0,v1,v2,v3] (by kernel_rfl) (ac _ _ (ac _ _ (ac _ _ (ac _ _ (fun j hj=>absurd hj (Nat.not_lt_zero j)) ⟨h0,f0,o0⟩) ⟨h1,f1,o1⟩) ⟨h2,f2,o2⟩) ⟨h3,f3,o3⟩)
structure iM (w:World) where
 to:World
 below:Below w.heap.size w to
instance (w:World):Nonempty (iM w):=⟨⟨w,Below.refl _ _⟩⟩
def bV (w:World) (x:iM w):World:=x.to
theorem bk {w w':World} (h:Below w.heap.size w w'):∃ x:iM w,w'=bV w x:=⟨⟨w',h⟩,rfl⟩
@[go_sem] theorem fp (w:World) (x:iM w) (b o:Nat) (h:b < w.heap.size):(bV w x).cell? ⟨b,o,none⟩=w.cell? ⟨b,o,none⟩:=x.below.cell (p:=⟨b,o,none⟩) h
@[go_sem] theorem Na (w:World) (x:iM w) (b o:Nat) (h:b < w.heap.size):(bV w x).frozen? ⟨b,o,none⟩=w.frozen? ⟨b,o,none⟩:=x.below.frozen (p:=⟨b,o,none⟩) h
@[go_sem] theorem WA (w:World) (x:iM w) (b:Nat) (h:b < w.heap.size):b < (bV w x).heap.size:=Nat.lt_of_lt_of_le h x.below.size
@[go_sem] theorem Ok (w:World) (x:iM w) (b k:Nat) (h:b < w.heap.size+k):b < (bV w x).heap.size+k:=by have:=x.below.size;unfold bV;omega
@[go_sem] theorem WB (w:World) (x:iM w) (b:Nat) (h:b≤w.heap.size):b≤(bV w x).heap.size:=Nat.le_trans h x.below.size
@[go_sem] theorem Ol (w:World) (x:iM w) (b k:Nat) (h:b≤w.heap.size+k):b≤(bV w x).heap.size+k:=by have:=x.below.size;unfold bV;omega
def ag (W w:World):Prop:=Below W.heap.size W w
theorem ag.refl (W:World):ag W W:=Below.refl _ _
theorem ag.bV {W w:World} (h:ag W w) (x:iM w):ag W (bV w x):=Below.trans h (x.below.mono h.size)
theorem ag.alloc {W w:World} (h:ag W w) (o:Obj):ag W (w.alloc o):=Below.alloc h h.size o
theorem ag.drew {W w:World} (h:ag W w):ag W w.drew:=Below.drew h
theorem ag.drewN {W w:World} (h:ag W w) (n:Nat):ag W (w.drewN n):=⟨h.os,h.tape,h.output,h.size,h.block⟩
theorem ag.setCell {W w:World} (h:ag W w) (p:Addr) (v:Value) (hp:W.heap.size≤p.block):ag W (w.setCell p v):=Below.setCell h hp v
theorem ag.to {W w:World} (h:ag W w):∃ x:iM W,w=Go.Proofs.YtakddkhipelmjaaGreat.bV W x:=bk h
theorem ag.trans {W w w':World} (h:ag W w) (h':ag w w'):ag W w':=Below.trans h (Below.mono h' h.size)
section
variable {P : Program}
theorem ay {id:Nat} {Q:Exit→Act→World→Prop} {a:Act} {w:World} {l:List Oper} (hm:P.follows .mixedOrders=true) (hB:Region.lexB .any l.toArray=true)
  (h:wpQuiet P l.toArray (fun w'=>∃ x:iM w,w'=bV w x) (fun a'=>∀ w',(∃ x:iM w,w'=bV w x)→Q .normal a' w') l a):(Code.region id l.toArray true).wp P Q a w :=
 wp_region_quiet (C:=fun w'=>∃ x:iM w,w'=bV w x) hm hB (bk (Below.drew (Below.refl _ _))) (by simpa using h)
theorem Calls.bk {f:FuncId} {args:Array Value} {w:World} {x:iM w} {v:Value}
  (h:Calls P f args (bV w x) fun e w'=>e=.returned v∧ag (bV w x) w'):Calls P f args (bV w x) fun e w''=>e=.returned v∧∃ y:iM w,w''=bV w y :=
 h.mono fun _ _ ⟨he,hm⟩=>⟨he,ag.to (((ag.refl w).bV x).trans hm)⟩
theorem Calls.nG {f:FuncId} {args:Array Value} {w:World} {x:iM w} {v:Value}
  (h:Calls P f args (bV w x) fun e w'=>e=.returned v∧bV w x=w'):Calls P f args (bV w x) fun e w''=>e=.returned v∧∃ y:iM w,w''=bV w y :=
 h.mono fun _ _ ⟨he,hm⟩=>⟨he,x,hm.symm⟩
end
theorem cT {w w1:World} {c:Array Value} {t:TypeId} (h:ag (w.alloc (.cells c t)) w1) :
  (∀ o,w1.cell? ⟨w.heap.size,o,none⟩=c[o]?)∧(∀ o,w1.frozen? ⟨w.heap.size,o,none⟩=false)∧(w.heap.size < w1.heap.size∧w.heap.size≤w1.heap.size∧w.heap.size < w1.heap.size+1∧w.heap.size < w1.heap.size+1+1∧w.heap.size < w1.heap.size+1+1+1∧w.heap.size < w1.heap.size+1+1+1+1)∧(∀ k,w.heap.size≤w1.heap.size+k)∧Hid (ag w w1):=by
 have hz:w.heap.size < w1.heap.size:=by have:=h.size;simp at this;omega
 refine ⟨fun o=>?_,fun o=>?_,⟨hz,by omega,by omega,by omega,by omega,by omega⟩,fun k=>by omega,gH (((ag.refl w).alloc _).trans h)⟩
 ·rw [Below.cell h (p:=⟨w.heap.size,o,none⟩) (by simp)];simp
 ·rw [Below.frozen h (p:=⟨w.heap.size,o,none⟩) (by simp)];exact World.frozen?_alloc_at _ _ _ _ rfl
theorem lc {P:Program} {id:Nat} {Q:Exit→Act→World→Prop} {a:Act} {w:World} {l:List Oper} (n:Nat) (hm:P.follows .mixedOrders=true) (hB:Region.lexTailB .any l.toArray n=true)
  (h:∀ w1,ag w w1→wpStill P l.toArray w1 (fun a'=>wpList P l.toArray Q (l.drop n) a' w1) (l.take n) a):(Code.region id l.toArray true).wp P Q a w :=
 wp_region_still_tail n hm hB (h _ (ag.refl w).drew)
theorem i6 {w w1:World} {c d:Array Value} {t u:TypeId} (h:ag ((w.alloc (.cells c t)).alloc (.cells d u)) w1) :
  (∀ o,w1.cell? ⟨w.heap.size,o,none⟩=c[o]?)∧(∀ o,w1.cell? ⟨w.heap.size+1,o,none⟩=d[o]?)∧(w.heap.size < w1.heap.size∧w.heap.size+1 < w1.heap.size)∧Hid (ag w w1):=by
 have hz:w.heap.size+1 < w1.heap.size:=by have:=h.size;simp at this;omega
 refine ⟨fun o=>?_,fun o=>?_,⟨by omega,hz⟩,gH ((((ag.refl w).alloc _).alloc _).trans h)⟩
 ·rw [Below.cell h (p:=⟨w.heap.size,o,none⟩) (by simp;omega),World.cell?_alloc_past _ _ _ (by simp)];simp
 ·rw [Below.cell h (p:=⟨w.heap.size+1,o,none⟩) (by simp),World.cell?_alloc_at _ _ _ _ (by simp)]
theorem dx {v v':Value} (h:v=v'):Ending.returned v=.returned v':=by rw [h]
theorem cz {b b':Bool} (h:b=b'):Value.bool b=.bool b':=by rw [h]
end Go.Proofs.YtakddkhipelmjaaGreat
namespace Go.Proofs.YtakddkhipelmjaaGreat
open Go.ChangeShapes Go.WideShapes Go.RowKit Go.Deep
def Small (n:Nat):Prop:=n≤140737488351232
theorem Small.max {n:Nat} (h:Small n):n≤maxLen:=by unfold Small at h;unfold maxLen;omega
def Lt {H:Type} (P:Program) (t:TypeId) (d:DataW H):Prop:=∀ n∈d.weights P t,n≤140737488351232
section
variable {H : Type} {enc : TypeId × Value → H} {P : Program} {w : World}
theorem pS:∀ {ts:List TypeId} {ds:List (DataW H)} {i:Nat} {t:TypeId} {d:DataW H},ts[i]? = some t→ds[i]? = some d→∀ n∈d.weights P t,n∈DataW.weightsEach P ts ds :=
 fun ht hd n hn=>DataW.weights_mem_each ht hd n hn
theorem lf {e:TypeId}:∀ {ds:List (DataW H)} {d:DataW H},d∈ds→∀ n∈d.weights P e,n∈DataW.weightsAll P e ds
 | x::r,d,h,n,hn=>by
  simp only [DataW.weightsAll,List.mem_append]
  rcases List.mem_cons.1 h with rfl | h
  ·exact .inl hn
  ·exact .inr (lf h n hn)
theorem Gf {t:TypeId} {fs:Array Field} (ht:P.underlying t=some (.struct fs)) {xs:List (DataW H × List MemPlace)} (h:Lt P t (.agg (xs.map (·.1)):DataW H)) {i:Nat} {f:Field} (hf:fs[i]? = some f) {x:DataW H × List MemPlace} (hx:xs[i]? = some x):Lt P f.type x.1:=by
 intro n hn;refine h n ?_;simp only [DataW.weights,ht];refine pS (i:=i) (t:=f.type) (d:=x.1) ?_ ?_ n hn
 ·simp [hf]
 ·simp [hx]
def Rd (enc:TypeId × Value→H) (P:Program) (w:World) (t:TypeId) (cs:List Value):Prop :=
 ∃ (fuel:Nat) (x:DataW H × List MemPlace),DataW.trod enc P w 0 (fun _=>true) true fuel t cs=some x∧Lt P t x.1
theorem Rd.struct {t:TypeId} {fs:Array Field} {cs:List Value} (ht:P.underlying t=some (.struct fs)) (h:Rd enc P w t cs) :
  cs.length=P.cellsOf t∧∀ (i:Nat) (f:Field),fs[i]? = some f→Rd enc P w f.type ((cs.drop f.offset).take (P.cellsOf f.type)):=by
 obtain ⟨fuel,x,hx,hl⟩:=h;obtain ⟨xs,n,_,rfl,hlen,hsz,hf⟩:=DataW.trod_struct ht hx;refine ⟨hlen,fun i f hi=>?_⟩;have h1:=hf i f hi
 have hlt:i < xs.length:=by rw [hsz];exact (Array.getElem?_eq_some_iff.1 hi).1
 have Zq:xs[i]? = some xs[i]:=List.getElem?_eq_getElem hlt;exact ⟨n,xs[i],h1.trans Zq,Gf ht hl hi Zq⟩
theorem Rd.field {t:TypeId} {fs:Array Field} {cs:List Value} (h:Rd enc P w t cs) (ht:P.underlying t=some (.struct fs)) (i:Nat) (ft off k:Nat) (hf:(fs[i]?).map (fun f=>(f.type,f.offset))=some (ft,off)) (hk:P.cellsOf ft=k) :
  Rd enc P w ft ((cs.drop off).take k):=by
 obtain ⟨_,h2⟩:=h.struct ht
 cases hq:fs[i]? with
 | none=>rw [hq] at hf;cases hf
 | some f =>
  rw [hq] at hf;simp only [Option.map_some,Option.some.injEq,Prod.mk.injEq] at hf;have:=h2 i f hq;rw [hf.1,hf.2,hk] at this;exact this
theorem Rd.string {t:TypeId} {cs:List Value} (ht:P.underlying t=some .string) (h:Rd enc P w t cs):∃ s:ByteArray,cs=[.string s]∧Small s.size:=by
 obtain ⟨fuel,x,hx,hl⟩:=h;obtain ⟨s,rfl,rfl,_⟩:=DataW.trod_string ht hx;refine ⟨s,rfl,?_⟩;have:=hl s.data.toList.length (by simp [DataW.weights])
 simpa [Small] using this
theorem Rd.int {t:TypeId} {k:IntKind} {cs:List Value} (ht:P.underlying t=some (.int k)) (h:Rd enc P w t cs):∃ n:Int,cs=[.int k n]∧(Lit.int k n).wf=true:=by
 obtain ⟨fuel,x,hx,hl⟩:=h;obtain ⟨n,rfl,_,hw⟩:=DataW.trod_int ht hx;exact ⟨n,rfl,hw⟩
theorem Rd.bool {t:TypeId} {cs:List Value} (ht:P.underlying t=some .bool) (h:Rd enc P w t cs):∃ b:Bool,cs=[.bool b]:=by
 obtain ⟨fuel,x,hx,hl⟩:=h;obtain ⟨b,rfl,_⟩:=DataW.trod_bool ht hx;exact ⟨b,rfl⟩
def az {α:Type} (w:World) (size:Nat) (R:World→List Value→α→Prop) (A:Option Addr) (cap:Nat) (l:List α):Prop :=
 l.length≤cap∧Small (l.length*16)∧∀ i (h:i < l.length),∃ b off cs,A=some ⟨b,off,none⟩∧b < w.heap.size∧cs.length=size∧R w cs l[i]∧∀ j,j < size→w.cell? ⟨b,off+(i*size+j),none⟩=cs[j]?
def th {α:Type} (w:World) (size:Nat) (R:World→List Value→α→Prop) (cs:List Value) (l:List α):Prop :=
 ∃ A cap,cs=[.slice A l.length cap]∧az w size R A cap l
theorem cN {α:Type} {size:Nat} {R:World→List Value→α→Prop}:az w size R none 0 ([]:List α) :=
 ⟨Nat.le_refl _,Nat.zero_le _,fun i h=>absurd h (by simp)⟩
theorem az.aA {α:Type} {size:Nat} {R:World→List Value→α→Prop} {A:Option Addr} {cap:Nat} {l:List α} {w':World} (h:az w size R A cap l) (hw:ag w w') (hR:∀ cs x,R w cs x→R w' cs x):az w' size R A cap l :=
 ⟨h.1,h.2.1,fun i hi=>by
  obtain ⟨b,off,cs,hA,hb,hl,hr,hc⟩:=h.2.2 i hi
  exact ⟨b,off,cs,hA,Nat.lt_of_lt_of_le hb hw.size,hl,hR _ _ hr,fun j hj=>(Below.cell hw (p:=⟨b,off+(i*size+j),none⟩) hb).trans (hc j hj)⟩⟩
theorem lg {α:Type} (n:Nat) (p:Nat→α→Prop) (h:∀ i,i < n→∃ x,p i x):∃ l:List α,l.length=n∧∀ i (hi:i < l.length),p i l[i]:=by
 induction n with
 | zero=>exact ⟨[],rfl,fun i hi=>absurd hi (by simp)⟩
 | succ n ih =>
  obtain ⟨l,hl,hp⟩:=ih fun i hi=>h i (by omega)
  obtain ⟨x,hx⟩:=h n (by omega);refine ⟨l++[x],by simp [hl],fun i hi=>?_⟩;by_cases wL:i < l.length
  ·rw [List.getElem_append_left wL];exact hp i wL
  ·have:i=l.length:=by simp at hi;omega
   subst this;simp only [List.getElem_append_right (Nat.le_refl _),Nat.sub_self,List.getElem_cons_zero];rw [hl];exact hx
theorem Rd.slice {α:Type} {t e:TypeId} {cs:List Value} {size:Nat} {R:World→List Value→α→Prop} (ht:P.underlying t=some (.slice e)) (hs:P.cellsOf e=size) (zn:0 < size) (hby:16≤P.bytesOf e)
  (hR:∀ cs,Rd enc P w e cs→∃ x,R w cs x) (h:Rd enc P w t cs):∃ l:List α,th w size R cs l:=by
 obtain ⟨fuel,x,hx,hl⟩:=h;have hlt:=DataW.trod_lt fuel t cs x hx
 rcases open_slice ht hx with ⟨rfl,_⟩ | ⟨a,len,cap,m,n,D,Pl,rfl,_,hlc,hcm,hm,rfl,hi⟩
 ·exact ⟨[],none,0,rfl,cN⟩
 ·simp only [if_true] at hm
  subst hm
  have iN:Small (m*16):=by
   have h1:=hl (((List.range len).map D).length+((List.range (m - len)).map fun j=>D (len+j)).length |> (·*P.bytesOf e)) (by simp [DataW.weights,ht]);simp only [List.length_map,List.length_range] at h1
   have h2:len+(m - len)=m:=by omega
   rw [h2] at h1;exact Nat.le_trans (Nat.mul_le_mul_left _ hby) h1
  have hspot:0 < len→a.spot=none:=by
   intro h0;obtain ⟨cs',hc,_⟩:=hi 0 (by omega);rw [hs] at hc;obtain ⟨_,pT,hat⟩:=World.cells?_some hc;have h1:=hat 0 zn
   have h2:w.cell? ((a.add (0*size)).add 0)=some (cs'[0]'(by omega)):=by rw [h1];exact List.getElem?_eq_getElem (by omega)
   have h3:=World.cell?_spot h2
   simpa [Addr.add] using h3
  have hel:∀ i,i < len→∃ x:α,∃ b off cs,some a=some ⟨b,off,none⟩∧b < w.heap.size∧cs.length=size∧R w cs x∧∀ j,j < size→w.cell? ⟨b,off+(i*size+j),none⟩=cs[j]? := by
   intro i Om;obtain ⟨cs',hc,htr⟩:=hi i (by omega);rw [hs] at hc;obtain ⟨_,pT,hat⟩:=World.cells?_some hc
   have Oh:Rd enc P w e cs':=by
    refine ⟨n,_,htr,fun k hk=>hl k ?_⟩;simp only [DataW.weights,ht,List.mem_cons,List.mem_append];exact .inr (.inl (lf (d:=D i) (List.mem_map.2 ⟨i,List.mem_range.2 Om,rfl⟩) k hk))
   obtain ⟨y,hy⟩:=hR cs' Oh;have hsp:=hspot (by omega);obtain ⟨b,off,spot⟩:=a;simp only at hsp;subst hsp
   have hb:b < w.heap.size:=hlt (.cell b off) (by
    simp only [List.mem_append]
    left
    rw [hs];have hpm:0 < m*size:=Nat.mul_pos (by omega) zn;simp only [MemPlace.row]
    exact List.mem_map.2 ⟨0,List.mem_range.2 hpm,by simp⟩)
   refine ⟨y,b,off,cs',rfl,hb,pT,hy,fun j hj=>?_⟩;have h1:=hat j hj;rw [← h1,Go.Deep.add_add]
   have:(Addr.mk b off none).add (i*size+j)=⟨b,off+(i*size+j),none⟩:=by
    unfold Addr.add;split
    ·rename_i h0;rw [h0];rfl
    ·rfl
   rw [this]
  obtain ⟨l,pU,hp⟩:=lg len _ hel;subst pU;exact ⟨l,some a,m,rfl,hlc,Nat.le_trans (Nat.mul_le_mul_right _ hlc) iN,hp⟩
end
end Go.Proofs.YtakddkhipelmjaaGreat
namespace Go.Proofs.YtakddkhipelmjaaGreat
open Go.Deep Go.RowKit
structure dY where
 name:ByteArray
 kind:Int
 null:Bool
structure fh where
 name:ByteArray
 kind:Int
 au:List ByteArray
 low:Int
 high:Int
 af:ByteArray
 table:ByteArray
 key:ByteArray
structure bW where
 af:ByteArray
 name:ByteArray
 owner:ByteArray
 au:List dY
 rules:List fh
structure fK where
 name:ByteArray
 owner:ByteArray
structure bE where
 ae:List fK
 tables:List bW
def aS (a b:ByteArray):Bool:=a.toList==b.toList
def dC (_:World) (cs:List Value) (s:ByteArray):Prop:=cs=[.string s]∧Small s.size
def fL (_:World) (cs:List Value) (c:dY):Prop:=cs=[.string c.name,.int .i64 c.kind,.bool c.null]∧Small c.name.size
def eE (_:World) (cs:List Value) (s:fK):Prop:=cs=[.string s.name,.string s.owner]∧Small s.name.size∧Small s.owner.size
def eG (w:World) (cs:List Value) (r:fh):Prop :=
 ∃ A cap,cs=[.string r.name,.int .i64 r.kind,.slice A r.au.length cap,.int .i64 r.low,.int .i64 r.high,.string r.af,.string r.table,.string r.key] ∧
  az w 1 dC A cap r.au∧Small r.name.size∧Small r.af.size∧Small r.table.size∧Small r.key.size
def dE (w:World) (cs:List Value) (t:bW):Prop :=
 ∃ A cap A2 bJ,cs=[.string t.af,.string t.name,.string t.owner,.slice A t.au.length cap,.slice A2 t.rules.length bJ] ∧
  az w 3 fL A cap t.au∧az w 8 eG A2 bJ t.rules∧Small t.af.size∧Small t.name.size∧Small t.owner.size
def WC (w:World) (cs:List Value) (o:bE):Prop :=
 ∃ A cap A2 bJ,cs=[.slice A o.ae.length cap,.slice A2 o.tables.length bJ]∧az w 2 eE A cap o.ae∧az w 5 dE A2 bJ o.tables
section
variable {w w' : World}
theorem aU {A:Option Addr} {cap:Nat} {l:List ByteArray} (hw:ag w w') (h:az w 1 dC A cap l):az w' 1 dC A cap l:=h.aA hw fun _ _ h=>h
theorem dF {A:Option Addr} {cap:Nat} {l:List dY} (hw:ag w w') (h:az w 3 fL A cap l):az w' 3 fL A cap l:=h.aA hw fun _ _ h=>h
theorem bQ {A:Option Addr} {cap:Nat} {l:List fK} (hw:ag w w') (h:az w 2 eE A cap l):az w' 2 eE A cap l:=h.aA hw fun _ _ h=>h
theorem eG.aA {cs:List Value} {r:fh} (hw:ag w w') (h:eG w cs r):eG w' cs r:=by
 obtain ⟨A,cap,e,hs,h1⟩:=h;exact ⟨A,cap,e,aU hw hs,h1⟩
theorem fM {A:Option Addr} {cap:Nat} {l:List fh} (hw:ag w w') (h:az w 8 eG A cap l):az w' 8 eG A cap l:=h.aA hw fun _ _ h=>eG.aA hw h
theorem dE.aA {cs:List Value} {r:bW} (hw:ag w w') (h:dE w cs r):dE w' cs r:=by
 obtain ⟨A,cap,A2,bJ,e,hs,hr,h1⟩:=h;exact ⟨A,cap,A2,bJ,e,dF hw hs,fM hw hr,h1⟩
theorem bC {A:Option Addr} {cap:Nat} {l:List bW} (hw:ag w w') (h:az w 5 dE A cap l):az w' 5 dE A cap l:=h.aA hw fun _ _ h=>dE.aA hw h
theorem fB {A:Option Addr} {cap:Nat} {l:List ByteArray} (h:az w 1 dC A cap l) {k:Nat} (hk:k < l.length) :
  ∃ b off,A=some ⟨b,off,none⟩∧b < w.heap.size∧w.cell? ⟨b,off+k,none⟩=some (.string l[k])∧Small l[k].size:=by
 obtain ⟨b,off,cs,hA,hb,hl,⟨rfl,hs⟩,hc⟩:=h.2.2 k hk;refine ⟨b,off,hA,hb,?_,hs⟩;have:=hc 0 (by omega)
 simpa using this
theorem qK {A:Option Addr} {cap:Nat} {l:List dY} (h:az w 3 fL A cap l) {k:Nat} (hk:k < l.length) :
  ∃ b off,A=some ⟨b,off,none⟩∧b < w.heap.size∧w.cell? ⟨b,off+k*3,none⟩=some (.string l[k].name)∧w.cell? ⟨b,off+k*3+1,none⟩=some (.int .i64 l[k].kind)∧w.cell? ⟨b,off+k*3+2,none⟩=some (.bool l[k].null)∧Small l[k].name.size:=by
 obtain ⟨b,off,cs,hA,hb,hl,⟨rfl,hs⟩,hc⟩:=h.2.2 k hk;exact ⟨b,off,hA,hb,by simpa using hc 0 (by omega),by simpa [Nat.add_assoc] using hc 1 (by omega),by simpa [Nat.add_assoc] using hc 2 (by omega),hs⟩
theorem lh {A:Option Addr} {cap:Nat} {l:List fK} (h:az w 2 eE A cap l) {k:Nat} (hk:k < l.length) :
  ∃ b off,A=some ⟨b,off,none⟩∧b < w.heap.size∧w.cell? ⟨b,off+k*2,none⟩=some (.string l[k].name)∧w.cell? ⟨b,off+k*2+1,none⟩=some (.string l[k].owner)∧Small l[k].name.size∧Small l[k].owner.size:=by
 obtain ⟨b,off,cs,hA,hb,hl,⟨rfl,hs,hs2⟩,hc⟩:=h.2.2 k hk;exact ⟨b,off,hA,hb,by simpa using hc 0 (by omega),by simpa [Nat.add_assoc] using hc 1 (by omega),hs,hs2⟩
theorem mQ {A:Option Addr} {cap:Nat} {l:List fh} (h:az w 8 eG A cap l) {k:Nat} (hk:k < l.length) :
  ∃ b off A2 bJ,A=some ⟨b,off,none⟩∧b < w.heap.size∧w.cell? ⟨b,off+k*8,none⟩=some (.string l[k].name)∧w.cell? ⟨b,off+k*8+1,none⟩=some (.int .i64 l[k].kind)∧w.cell? ⟨b,off+k*8+2,none⟩=some (.slice A2 l[k].au.length bJ) ∧
   w.cell? ⟨b,off+k*8+3,none⟩=some (.int .i64 l[k].low)∧w.cell? ⟨b,off+k*8+4,none⟩=some (.int .i64 l[k].high)∧w.cell? ⟨b,off+k*8+5,none⟩=some (.string l[k].af)∧w.cell? ⟨b,off+k*8+6,none⟩=some (.string l[k].table)∧w.cell? ⟨b,off+k*8+7,none⟩=some (.string l[k].key) ∧
   az w 1 dC A2 bJ l[k].au∧Small l[k].name.size∧Small l[k].af.size∧Small l[k].table.size∧Small l[k].key.size:=by
 obtain ⟨b,off,cs,hA,hb,hl,⟨A2,bJ,rfl,hr⟩,hc⟩:=h.2.2 k hk
 exact ⟨b,off,A2,bJ,hA,hb,by simpa using hc 0 (by omega),by simpa [Nat.add_assoc] using hc 1 (by omega),by simpa [Nat.add_assoc] using hc 2 (by omega),by simpa [Nat.add_assoc] using hc 3 (by omega),by simpa [Nat.add_assoc] using hc 4 (by omega),
  by simpa [Nat.add_assoc] using hc 5 (by omega),by simpa [Nat.add_assoc] using hc 6 (by omega),by simpa [Nat.add_assoc] using hc 7 (by omega),hr⟩
theorem iB {A:Option Addr} {cap:Nat} {l:List bW} (h:az w 5 dE A cap l) {k:Nat} (hk:k < l.length) :
  ∃ b off A2 bJ A3 fC,A=some ⟨b,off,none⟩∧b < w.heap.size∧w.cell? ⟨b,off+k*5,none⟩=some (.string l[k].af)∧w.cell? ⟨b,off+k*5+1,none⟩=some (.string l[k].name)∧w.cell? ⟨b,off+k*5+2,none⟩=some (.string l[k].owner) ∧
   w.cell? ⟨b,off+k*5+3,none⟩=some (.slice A2 l[k].au.length bJ)∧w.cell? ⟨b,off+k*5+4,none⟩=some (.slice A3 l[k].rules.length fC) ∧
   az w 3 fL A2 bJ l[k].au∧az w 8 eG A3 fC l[k].rules∧Small l[k].af.size∧Small l[k].name.size∧Small l[k].owner.size:=by
 obtain ⟨b,off,cs,hA,hb,hl,⟨A2,bJ,A3,fC,rfl,hr⟩,hc⟩:=h.2.2 k hk;exact ⟨b,off,A2,bJ,A3,fC,hA,hb,by simpa using hc 0 (by omega),by simpa [Nat.add_assoc] using hc 1 (by omega),by simpa [Nat.add_assoc] using hc 2 (by omega),by simpa [Nat.add_assoc] using hc 3 (by omega),by simpa [Nat.add_assoc] using hc 4 (by omega),hr⟩
theorem az.len {α:Type} {size:Nat} {R:World→List Value→α→Prop} {A:Option Addr} {cap:Nat} {l:List α} (h:az w size R A cap l):l.length*16≤140737488351232:=h.2.1
end
def bu {α:Type} (p:α→Bool):List α→Int
 | [] => -1
 | x::l=>if p x then 0 else if bu p l < 0 then -1 else bu p l+1
theorem eT {α:Type} (p:α→Bool) (l:List α) (h:∀ i (hi:i < l.length),p l[i]=false):bu p l = -1:=by
 induction l with
 | nil=>rfl
 | cons x l ih =>
  have h0:=h 0 (by simp)
  have ih:=ih fun i hi=>h (i+1) (Nat.succ_lt_succ hi)
  simp at h0;simp [bu,h0,ih]
theorem eU {α:Type} (p:α→Bool) (l:List α) (k:Nat) (hk:k < l.length) (hp:p l[k]=true) (h:∀ i (hi:i < k),p (l[i]'(by omega))=false):bu p l=k:=by
 induction l generalizing k with
 | nil=>simp at hk
 | cons x l ih =>
  cases k with
  | zero=>simp at hp;simp [bu,hp]
  | succ k =>
   have h0:=h 0 (by omega);simp at h0 hp
   have:=ih k (by simpa using hk) hp fun i hi=>h (i+1) (by omega)
   simp [bu,h0,this];omega
theorem aT {α:Type} (p:α→Bool) (l:List α) : -1≤bu p l∧bu p l < l.length:=by
 induction l with
 | nil=>simp [bu]
 | cons x l ih=>simp only [bu,List.length_cons];(repeat' split)<;>omega
theorem cA {w w':World} {base size n:Nat} {e:TypeId} {v:Value} {xs:List Value} (h:w.ownsRow base e size v n xs) (hw:ag w w'):w'.ownsRow base e size v n xs:=by
 refine ⟨h.1,?_⟩
 rcases h.2 with hn | ⟨g,cap,cur,rfl,hb,qL,rest⟩
 ·exact .inl hn
 ·have hlt:g < w.heap.size:=(Array.getElem?_eq_some_iff.1 qL).1
  exact .inr ⟨g,cap,cur,rfl,hb,(hw.block g hlt).trans qL,rest⟩
theorem DK {w:World} {base size n:Nat} {e:TypeId} {v:Value} {xs:List Value} (h:w.ownsRow base e size v n xs):∀ g,v.ownBlock=some g→base≤g:=by
 intro g hg
 rcases h.2 with ⟨rfl,_⟩ | ⟨g',cap,cur,rfl,hb,_⟩
 ·simp [Value.ownBlock] at hg
 ·have:g'=g:=by simpa [Value.ownBlock] using hg
  omega
theorem DL {W w w':World} {size n:Nat} {e:TypeId} {v:Value} {xs:List Value} (h:w.ownsRow W.heap.size e size v n xs) (hW:ag W w) (hg:w.grownBy w' v.ownBlock):ag W w':=by
 refine ⟨hg.os.trans hW.os,hg.tape.trans hW.tape,hg.output.trans hW.output,Nat.le_trans hW.size hg.size,fun k hk=>?_⟩;have hlt:k < w.heap.size:=Nat.lt_of_lt_of_le hk hW.size;refine (hg.block k hlt ?_).trans (hW.block k hk);intro he;have:=DK h k he.symm;omega
theorem cO (w:World) (base:Nat) (e:TypeId) (size:Nat):w.ownsRow base e size (.slice none 0 0) 0 []:=⟨by simp,.inl ⟨rfl,rfl⟩⟩
theorem js {α:Type} (f:α→List Value) (size:Nat) (hf:∀ x,(f x).length=size):∀ (l:List α) (i j:Nat) (hi:i < l.length),j < size→(l.flatMap f)[i*size+j]? = (f l[i])[j]?
 | x::l,0,j,_,hj=>by
  rw [List.flatMap_cons,Nat.zero_mul,Nat.zero_add,List.getElem?_append_left (by rw [hf];exact hj)];rfl
 | x::l,i+1,j,hi,hj=>by
  have e:(i+1)*size+j=size+(i*size+j):=by rw [Nat.succ_mul];omega
  rw [List.flatMap_cons,e,List.getElem?_append_right (by rw [hf];omega),hf,Nat.add_sub_cancel_left];exact js f size hf l i j (by simpa using hi) hj
theorem wM {α:Type} {w:World} {base size:Nat} {e:TypeId} {v:Value} {l:List α} (f:α→List Value) (R:World→List Value→α→Prop) (hf:∀ x,(f x).length=size) (h:w.ownsRow base e size v l.length (l.flatMap f)) (hR:∀ x∈l,R w (f x) x)
  (hs:Small (l.length*16)):∃ A cap,v=.slice A l.length cap∧az w size R A cap l:=by
 rcases h.2 with ⟨rfl,hn⟩ | ⟨g,cap,cur,rfl,hb,qL,pV,_,hcs,Oo⟩
 ·have:l=[]:=List.eq_nil_of_length_eq_zero hn
  subst this;exact ⟨none,0,rfl,cN⟩
 ·have hlt:g < w.heap.size:=(Array.getElem?_eq_some_iff.1 qL).1
  refine ⟨some ⟨g,0,none⟩,cap,rfl,pV,hs,fun i hi=>⟨g,0,f l[i],rfl,hlt,hf _,hR _ (List.getElem_mem hi),fun j hj=>?_⟩⟩;rw [← js f size hf l i j hi hj,← Oo]
  have mg:i*size+j < l.length*size:=by
   have:(i+1)*size≤l.length*size:=Nat.mul_le_mul_right _ hi;rw [Nat.succ_mul] at this;omega
  rw [List.getElem?_take_of_lt mg];simp [World.cell?,qL]
theorem bB {fn:Func} {a:Tmp} {t:TypeId} (h:fn.results=#[.cell a t]) (tmps:Array Value) {P:Program} {w:World} {p:Addr} {v:Value} (ha:tmps.getD a undef=.pointer (some p)) (hl:(loadVar t p).run P w=.ok v w) :
  (results fn tmps).run P w=.ok v w:=by
 rw [Array.getD_eq_getD_getElem?] at ha;simp [results,h,ha,asAddr,hl]
theorem results_cell_tmp {fn:Func} {a u:Tmp} {t:TypeId} (h:fn.results=#[.cell a t,.tmp u]) (tmps:Array Value) {P:Program} {w:World} {p:Addr} {v:Value} (ha:tmps.getD a undef=.pointer (some p)) (hl:(loadVar t p).run P w=.ok v w) :
  (results fn tmps).run P w=.ok (.tuple #[v,tmps.getD u undef]) w:=by
 rw [Array.getD_eq_getD_getElem?] at ha;simp [results,h,ha,asAddr,hl]
theorem Gg {α:Type} {size:Nat} {R:World→List Value→α→Prop} {w:World} {b cap:Nat} (x:α) (cs:List Value) (c:Array Value) (hb:b < w.heap.size) (hc:∀ o,w.cell? ⟨b,o,none⟩=c[o]?) (e:c.toList=cs) (hf:cs.length=size)
  (hR:R w cs x) (iN:1≤cap):az w size R (some ⟨b,0,none⟩) cap [x] :=
 ⟨iN,by simp [Small],fun i hi=>by
  have:i=0:=by simpa using hi
  subst this
  exact ⟨b,0,cs,rfl,hb,hf,hR,fun j hj=>by rw [← e,hc];simp⟩⟩
theorem ag.cell_kept {w w':World} (h:ag w w') {a:Addr} {v:Value} (hc:w.cell? a=some v):w'.cell? a=some v:=(Below.cell h (World.block_lt_of_cell? w a hc)).trans hc
def ai (w:World) (g:Nat) (xs:List Value):Prop:=g < w.heap.size∧(∀ j,j < xs.length→w.cell? ⟨g,j,none⟩=xs[j]?)∧∀ j,j < xs.length→w.frozen? ⟨g,j,none⟩=false
theorem ai.aA {w w':World} {g:Nat} {xs:List Value} (h:ai w g xs) (a:ag w w'):ai w' g xs :=
 ⟨Nat.lt_of_lt_of_le h.1 a.size,fun j hj=>(Below.cell a (p:=⟨g,j,none⟩) h.1).trans (h.2.1 j hj),fun j hj=>(Below.frozen a (p:=⟨g,j,none⟩) h.1).trans (h.2.2 j hj)⟩
theorem ai.cell {w:World} {g:Nat} {xs:List Value} (h:ai w g xs) {j:Nat} {v:Value} (hj:xs[j]? = some v):w.cell? ⟨g,j,none⟩=some v :=
 (h.2.1 j (List.getElem?_eq_some_iff.1 hj).1).trans hj
theorem DM {w:World} {p:Nat} {a0 a1 a2 a3:Value} {tl:List Value} (R:ai w p (a0::a1::a2::a3::tl)):w.cell? ⟨p,0,none⟩=some a0∧w.cell? ⟨p,1,none⟩=some a1∧w.cell? ⟨p,2,none⟩=some a2∧w.cell? ⟨p,3,none⟩=some a3:=⟨R.cell (j:=0) rfl,R.cell (j:=1) rfl,R.cell (j:=2) rfl,R.cell (j:=3) rfl⟩
theorem pW {w:World} {p:Nat} {a0 a1 a2 a3 a4:Value} {tl:List Value} (R:ai w p (a0::a1::a2::a3::a4::tl)):w.cell? ⟨p,0,none⟩=some a0∧w.cell? ⟨p,1,none⟩=some a1∧w.cell? ⟨p,2,none⟩=some a2∧w.cell? ⟨p,3,none⟩=some a3∧w.cell? ⟨p,4,none⟩=some a4:=⟨R.cell (j:=0) rfl,R.cell (j:=1) rfl,R.cell (j:=2) rfl,R.cell (j:=3) rfl,R.cell (j:=4) rfl⟩
theorem vr {w:World} {p:Nat} {a0 a1 a2 a3 a4 a5 a6:Value} {tl:List Value} (R:ai w p (a0::a1::a2::a3::a4::a5::a6::tl)):w.cell? ⟨p,0,none⟩=some a0∧w.cell? ⟨p,1,none⟩=some a1∧w.cell? ⟨p,2,none⟩=some a2∧w.cell? ⟨p,3,none⟩=some a3∧w.cell? ⟨p,4,none⟩=some a4∧w.cell? ⟨p,5,none⟩=some a5∧w.cell? ⟨p,6,none⟩=some a6:=⟨R.cell (j:=0) rfl,R.cell (j:=1) rfl,R.cell (j:=2) rfl,R.cell (j:=3) rfl,R.cell (j:=4) rfl,R.cell (j:=5) rfl,R.cell (j:=6) rfl⟩
theorem Cq {w:World} {p:Nat} {a0 a1 a2 a3 a4 a5 a6 a7 a8 a9:Value} {tl:List Value} (R:ai w p (a0::a1::a2::a3::a4::a5::a6::a7::a8::a9::tl)):w.cell? ⟨p,0,none⟩=some a0∧w.cell? ⟨p,1,none⟩=some a1∧w.cell? ⟨p,2,none⟩=some a2∧w.cell? ⟨p,3,none⟩=some a3∧w.cell? ⟨p,4,none⟩=some a4∧w.cell? ⟨p,5,none⟩=some a5∧w.cell? ⟨p,6,none⟩=some a6∧w.cell? ⟨p,7,none⟩=some a7∧w.cell? ⟨p,8,none⟩=some a8∧w.cell? ⟨p,9,none⟩=some a9:=⟨R.cell (j:=0) rfl,R.cell (j:=1) rfl,R.cell (j:=2) rfl,R.cell (j:=3) rfl,R.cell (j:=4) rfl,R.cell (j:=5) rfl,R.cell (j:=6) rfl,R.cell (j:=7) rfl,R.cell (j:=8) rfl,R.cell (j:=9) rfl⟩
theorem j0 {w:World} {p:Nat} {a0 a1 a2 a3 a4 a5 a6 a7 a8 a9 Nb Gh a12 wN wO R3 R4:Value} {tl:List Value} (R:ai w p (a0::a1::a2::a3::a4::a5::a6::a7::a8::a9::Nb::Gh::a12::wN::wO::R3::R4::tl)):w.cell? ⟨p,0,none⟩=some a0∧w.cell? ⟨p,1,none⟩=some a1∧w.cell? ⟨p,2,none⟩=some a2∧w.cell? ⟨p,3,none⟩=some a3∧w.cell? ⟨p,4,none⟩=some a4∧w.cell? ⟨p,5,none⟩=some a5∧w.cell? ⟨p,6,none⟩=some a6∧w.cell? ⟨p,7,none⟩=some a7∧w.cell? ⟨p,8,none⟩=some a8∧w.cell? ⟨p,9,none⟩=some a9∧w.cell? ⟨p,10,none⟩=some Nb∧w.cell? ⟨p,11,none⟩=some Gh∧w.cell? ⟨p,12,none⟩=some a12∧w.cell? ⟨p,13,none⟩=some wN∧w.cell? ⟨p,14,none⟩=some wO∧w.cell? ⟨p,15,none⟩=some R3∧w.cell? ⟨p,16,none⟩=some R4:=⟨R.cell (j:=0) rfl,R.cell (j:=1) rfl,R.cell (j:=2) rfl,R.cell (j:=3) rfl,R.cell (j:=4) rfl,R.cell (j:=5) rfl,R.cell (j:=6) rfl,R.cell (j:=7) rfl,R.cell (j:=8) rfl,R.cell (j:=9) rfl,R.cell (j:=10) rfl,R.cell (j:=11) rfl,R.cell (j:=12) rfl,R.cell (j:=13) rfl,R.cell (j:=14) rfl,R.cell (j:=15) rfl,R.cell (j:=16) rfl⟩
theorem R9 {w:World} {p:Nat} {a0 a1 a2 a3 a4 a5 a6 a7 a8 a9 Nb Gh a12 wN wO R3 R4 a17 Zr Zs a20 a21 a22:Value} {tl:List Value} (R:ai w p (a0::a1::a2::a3::a4::a5::a6::a7::a8::a9::Nb::Gh::a12::wN::wO::R3::R4::a17::Zr::Zs::a20::a21::a22::tl)):w.cell? ⟨p,0,none⟩=some a0∧w.cell? ⟨p,1,none⟩=some a1∧w.cell? ⟨p,2,none⟩=some a2∧w.cell? ⟨p,3,none⟩=some a3∧w.cell? ⟨p,4,none⟩=some a4∧w.cell? ⟨p,5,none⟩=some a5∧w.cell? ⟨p,6,none⟩=some a6∧w.cell? ⟨p,7,none⟩=some a7∧w.cell? ⟨p,8,none⟩=some a8∧w.cell? ⟨p,9,none⟩=some a9∧w.cell? ⟨p,10,none⟩=some Nb∧w.cell? ⟨p,11,none⟩=some Gh∧w.cell? ⟨p,12,none⟩=some a12∧w.cell? ⟨p,13,none⟩=some wN∧w.cell? ⟨p,14,none⟩=some wO∧w.cell? ⟨p,15,none⟩=some R3∧w.cell? ⟨p,16,none⟩=some R4∧w.cell? ⟨p,17,none⟩=some a17∧w.cell? ⟨p,18,none⟩=some Zr∧w.cell? ⟨p,19,none⟩=some Zs∧w.cell? ⟨p,20,none⟩=some a20∧w.cell? ⟨p,21,none⟩=some a21∧w.cell? ⟨p,22,none⟩=some a22:=⟨R.cell (j:=0) rfl,R.cell (j:=1) rfl,R.cell (j:=2) rfl,R.cell (j:=3) rfl,R.cell (j:=4) rfl,R.cell (j:=5) rfl,R.cell (j:=6) rfl,R.cell (j:=7) rfl,R.cell (j:=8) rfl,R.cell (j:=9) rfl,R.cell (j:=10) rfl,R.cell (j:=11) rfl,R.cell (j:=12) rfl,R.cell (j:=13) rfl,R.cell (j:=14) rfl,R.cell (j:=15) rfl,R.cell (j:=16) rfl,R.cell (j:=17) rfl,R.cell (j:=18) rfl,R.cell (j:=19) rfl,R.cell (j:=20) rfl,R.cell (j:=21) rfl,R.cell (j:=22) rfl⟩
theorem zo {w:World} {p:Nat} {a0 a1 a2 a3 a4:Value} {tl:List Value} (R:ai w p (a0::a1::a2::a3::a4::tl)):w.frozen? ⟨p,0,none⟩=false∧w.frozen? ⟨p,1,none⟩=false∧w.frozen? ⟨p,2,none⟩=false∧w.frozen? ⟨p,3,none⟩=false∧w.frozen? ⟨p,4,none⟩=false:=⟨R.2.2 0 (by simp),R.2.2 1 (by simp),R.2.2 2 (by simp),R.2.2 3 (by simp),R.2.2 4 (by simp)⟩
theorem Sa {w:World} {p:Nat} {a0 a1 a2 a3 a4 a5 a6 a7 a8 a9:Value} {tl:List Value} (R:ai w p (a0::a1::a2::a3::a4::a5::a6::a7::a8::a9::tl)):w.frozen? ⟨p,0,none⟩=false∧w.frozen? ⟨p,1,none⟩=false∧w.frozen? ⟨p,2,none⟩=false∧w.frozen? ⟨p,3,none⟩=false∧w.frozen? ⟨p,4,none⟩=false∧w.frozen? ⟨p,5,none⟩=false∧w.frozen? ⟨p,6,none⟩=false∧w.frozen? ⟨p,7,none⟩=false∧w.frozen? ⟨p,8,none⟩=false∧w.frozen? ⟨p,9,none⟩=false:=⟨R.2.2 0 (by simp),R.2.2 1 (by simp),R.2.2 2 (by simp),R.2.2 3 (by simp),R.2.2 4 (by simp),R.2.2 5 (by simp),R.2.2 6 (by simp),R.2.2 7 (by simp),R.2.2 8 (by simp),R.2.2 9 (by simp)⟩
theorem ai.set {w:World} {g:Nat} {xs:List Value} (h:ai w g xs) (j:Nat) (v:Value) (hj:j < xs.length):ai (w.setCell ⟨g,j,none⟩ v) g (xs.set j v):=by
 have hc:w.cell? ⟨g,j,none⟩=some xs[j]:=(h.2.1 j hj).trans (List.getElem?_eq_getElem hj);refine ⟨by simpa using h.1,fun k hk=>?_,fun k hk=>?_⟩
 ·rw [List.length_set] at hk
  by_cases e:k=j
  ·subst e
   rw [World.cell?_setCell_same (h:=hc),List.getElem?_set_self hj]
  ·rw [World.cell?_setCell_other (h:=by intro e2;injection e2 with _ e3 _;exact e e3.symm),List.getElem?_set_ne (fun e2=>e e2.symm)]
   exact h.2.1 k hk
 ·rw [List.length_set] at hk
  rw [World.frozen?_setCell];exact h.2.2 k hk
def Sb (w:World) (base:Nat) (v:Value) (n:Nat) (xs:List Value):Prop:=∃ A cap,v=.slice A n cap∧n≤cap∧(0 < n→∃ g,A=some ⟨g,0,none⟩∧base≤g∧ai w g xs)
theorem qM {w:World} {base size n:Nat} {e:TypeId} {v:Value} {xs:List Value} (h:w.ownsRow base e size v n xs):Sb w base v n xs:=by
 rcases h.2 with ⟨rfl,hn⟩ | ⟨g,cap,cur,rfl,hb,qL,pV,_,hcs,Oo⟩
 ·exact ⟨none,0,by rw [hn],by omega,fun h0=>by omega⟩
 ·refine ⟨_,cap,rfl,pV,fun _=>⟨g,rfl,hb,(Array.getElem?_eq_some_iff.1 qL).1,fun j hj=>?_,fun j _=>?_⟩⟩
  ·rw [h.1] at hj
   rw [← Oo,List.getElem?_take_of_lt hj];simp [World.cell?,qL]
  ·simp [World.frozen?,qL]
section
variable {α : Type} {size : Nat} {R : World → List Value → α → Prop} {w w' : World}
theorem qN:∀ (bw:List (List Value)),(∀ c∈bw,c.length=size)→bw.flatten.length=bw.length*size
 | [],_=>by simp
 | c::bw,h=>by
  rw [List.flatten_cons,List.length_append,h c (by simp),qN bw fun x hx=>h x (by simp [hx]),List.length_cons,Nat.succ_mul];omega
theorem nH:∀ (bw:List (List Value)),(∀ c∈bw,c.length=size)→∀ i j (hi:i < bw.length),j < size→bw.flatten[i*size+j]? = bw[i][j]?
 | [],_,i,j,hi,_=>by simp at hi
 | c::bw,h,0,j,_,hj=>by
  rw [List.flatten_cons,Nat.zero_mul,Nat.zero_add,List.getElem?_append_left (by rw [h c (by simp)];exact hj)];rfl
 | c::bw,h,i+1,j,hi,hj=>by
  have e:(i+1)*size+j=size+(i*size+j):=by rw [Nat.succ_mul];omega
  rw [List.flatten_cons,e,List.getElem?_append_right (by rw [h c (by simp)];omega),h c (by simp),Nat.add_sub_cancel_left];exact nH bw (fun x hx=>h x (by simp [hx])) i j (by simpa using hi) hj
theorem wP:∀ (bw:List (List Value)),(∀ c∈bw,c.length=size)→∀ i j (hi:i < bw.length) (v:Value),j < size→bw.flatten.set (i*size+j) v=(bw.set i (bw[i].set j v)).flatten
 | [],_,i,j,hi,_,_=>by simp at hi
 | c::bw,h,0,j,_,v,hj=>by
  rw [List.flatten_cons,Nat.zero_mul,Nat.zero_add,List.set_append_left _ _ (by rw [h c (by simp)];exact hj)];rfl
 | c::bw,h,i+1,j,hi,v,hj=>by
  have e:(i+1)*size+j=size+(i*size+j):=by rw [Nat.succ_mul];omega
  rw [List.flatten_cons,e,List.set_append_right _ _ (by rw [h c (by simp)];omega),h c (by simp),Nat.add_sub_cancel_left,wP bw (fun x hx=>h x (by simp [hx])) i j (by simpa using hi) v hj];rfl
def bL (w:World) (size:Nat) (R:World→List Value→α→Prop) (bw:List (List Value)) (l:List α):Prop:=bw.length=l.length∧∀ i (h:i < bw.length) (h':i < l.length),bw[i].length=size∧R w bw[i] l[i]
theorem bL.all {bw:List (List Value)} {l:List α} (h:bL w size R bw l):∀ c∈bw,c.length=size:=by
 intro c hc;obtain ⟨i,hi,rfl⟩:=List.getElem_of_mem hc;exact (h.2 i hi (by rw [← h.1];exact hi)).1
theorem bL.len {bw:List (List Value)} {l:List α} (h:bL w size R bw l):bw.flatten.length=l.length*size:=by rw [qN bw h.all,h.1]
theorem bL.nil:bL w size R [] ([]:List α):=⟨rfl,fun i h=>by simp at h⟩
theorem az.bw {A:Option Addr} {cap:Nat} {l:List α} (h:az w size R A cap l) (h0:0 < l.length) (hs:0 < size) :
  ∃ b off bw,A=some ⟨b,off,none⟩∧b < w.heap.size∧bL w size R bw l∧∀ p,p < l.length*size→w.cell? ⟨b,off+p,none⟩=bw.flatten[p]? := by
 obtain ⟨b,off,cs0,hA,hb,_⟩:=h.2.2 0 h0
 have hex:∀ i,i < l.length→∃ cs:List Value,∀ hi:i < l.length,cs.length=size∧R w cs l[i]∧∀ j,j < size→w.cell? ⟨b,off+(i*size+j),none⟩=cs[j]? := by
  intro i hi;obtain ⟨b',off',cs,hA',hb',hl,hR,hc⟩:=h.2.2 i hi;rw [hA] at hA';simp only [Option.some.injEq,Addr.mk.injEq,and_true] at hA';obtain ⟨rfl,rfl⟩:=hA';exact ⟨cs,fun _=>⟨hl,hR,hc⟩⟩
 obtain ⟨bw,pT,hp⟩:=lg l.length _ hex;have hch:bL w size R bw l:=⟨pT,fun i h1 h2=>⟨(hp i h1 h2).1,(hp i h1 h2).2.1⟩⟩;refine ⟨b,off,bw,hA,hb,hch,fun p hpl=>?_⟩
 have e:p=p / size*size+p % size:=by rw [Nat.mul_comm];exact (Nat.div_add_mod p size).symm
 have hi:p / size < l.length:=Nat.div_lt_of_lt_mul (by rw [Nat.mul_comm];exact hpl);have hj:p % size < size:=Nat.mod_lt _ hs;have h1:=(hp (p / size) (by rw [pT];exact hi) hi).2.2 (p % size) hj;rw [← e] at h1;rw [h1,← nH bw hch.all (p / size) (p % size) (by rw [pT];exact hi) hj,← e]
theorem Gi {g cap:Nat} {bw:List (List Value)} {l:List α} (hr:ai w g bw.flatten) (hc:bL w size R bw l) (iN:l.length≤cap) (hs:Small (l.length*16)):az w size R (some ⟨g,0,none⟩) cap l:=by
 refine ⟨iN,hs,fun i hi=>?_⟩
 have hi':i < bw.length:=by rw [hc.1];exact hi
 refine ⟨g,0,bw[i],rfl,hr.1,(hc.2 i hi' hi).1,(hc.2 i hi' hi).2,fun j hj=>?_⟩;rw [Nat.zero_add,← nH bw hc.all i j hi' hj];refine hr.2.1 _ ?_;rw [hc.len];have:(i+1)*size≤l.length*size:=Nat.mul_le_mul_right _ hi;rw [Nat.succ_mul] at this;omega
theorem DN {base:Nat} {v:Value} {bw:List (List Value)} {l:List α} (h:Sb w base v l.length bw.flatten) (hc:bL w size R bw l) (hs:Small (l.length*16)):∃ A cap,v=.slice A l.length cap∧az w size R A cap l:=by
 obtain ⟨A,cap,e,iN,hg⟩:=h;by_cases h0:0 < l.length
 ·obtain ⟨g,rfl,_,hr⟩:=hg h0
  exact ⟨_,cap,e,Gi hr hc iN hs⟩
 ·have:l=[]:=List.eq_nil_of_length_eq_zero (by omega)
  subst this;exact ⟨A,cap,e,iN,hs,fun i hi=>by simp at hi⟩
end
structure Hd where
 a:Option Addr
 n:Nat
 c:Nat
def Hd.v (h:Hd):Value:=.slice h.a h.n h.c
def Hd.blk (h:Hd):List Nat:=match h.a with | some p=>[p.block] | none=>[]
theorem Hd.bj {h:Hd} {g:Nat}:g∈h.blk↔h.v.ownBlock=some g:=by
 obtain ⟨a,n,c⟩:=h
 cases a<;>simp [Hd.blk,Hd.v,Value.ownBlock,eq_comm]
structure Kb (P:Nat→Prop) (w w':World):Prop where
 os:w'.os=w.os
 tape:w'.tape=w.tape
 output:w'.output=w.output
 size:w.heap.size≤w'.heap.size
 block:∀ k,k < w.heap.size→¬ P k→w'.heap[k]? = w.heap[k]?
theorem Kb.refl (P:Nat→Prop) (w:World):Kb P w w:=⟨rfl,rfl,rfl,Nat.le_refl _,fun _ _ _=>rfl⟩
theorem Kb.aO {P:Nat→Prop} {w w':World} (a:ag w w'):Kb P w w':=⟨a.os,a.tape,a.output,a.size,fun k hk _=>a.block k hk⟩
theorem Kb.cZ {w w':World} {row:Option Nat} (h:w.grownBy w' row):Kb (fun k=>row=some k) w w':=⟨h.os,h.tape,h.output,h.size,fun k hk hn=>h.block k hk fun e=>hn e.symm⟩
theorem Kb.mono {P Q:Nat→Prop} {w w':World} (h:Kb P w w') (hq:∀ k,k < w.heap.size→P k→Q k):Kb Q w w':=⟨h.os,h.tape,h.output,h.size,fun k hk hn=>h.block k hk fun hp=>hn (hq k hk hp)⟩
theorem Kb.trans {P:Nat→Prop} {w w' w'':World} (h:Kb P w w') (h':Kb P w' w''):Kb P w w'' :=
 ⟨h'.os.trans h.os,h'.tape.trans h.tape,h'.output.trans h.output,Nat.le_trans h.size h'.size,fun k hk hn=>(h'.block k (Nat.lt_of_lt_of_le hk h.size) hn).trans (h.block k hk hn)⟩
theorem Kb.set (w:World) (g j:Nat) (v:Value):Kb (fun k=>k=g) w (w.setCell ⟨g,j,none⟩ v) :=
 ⟨rfl,rfl,rfl,by simp,fun k hk hn=>Below.heap_setCell _ _ _ _ hn⟩
theorem Kb.aJ {P:Nat→Prop} {W w w':World} (h:Kb P w w') (a:ag W w) (hP:∀ k,k < W.heap.size→¬ P k):ag W w' :=
 ⟨h.os.trans a.os,h.tape.trans a.tape,h.output.trans a.output,Nat.le_trans a.size h.size,fun k hk=>(h.block k (Nat.lt_of_lt_of_le hk a.size) (hP k hk)).trans (a.block k hk)⟩
theorem Kb.cell {P:Nat→Prop} {w w':World} (h:Kb P w w') {p:Addr} {v:Value} (hc:w.cell? p=some v) (hb:¬ P p.block):w'.cell? p=some v:=by
 have:=h.block p.block (World.block_lt_of_cell? w p hc) hb;unfold World.cell? at hc ⊢;rw [this];exact hc
theorem Kb.row {P:Nat→Prop} {w w':World} (h:Kb P w w') {g:Nat} {xs:List Value} (hr:ai w g xs) (hb:¬ P g):ai w' g xs:=by
 have:=h.block g hr.1 hb;refine ⟨Nat.lt_of_lt_of_le hr.1 h.size,fun j hj=>?_,fun j hj=>?_⟩
 ·rw [← hr.2.1 j hj];simp [World.cell?,this]
 ·rw [← hr.2.2 j hj];simp [World.frozen?,this]
theorem br {P:Nat→Prop} {w w':World} {B size n:Nat} {e:TypeId} {v:Value} {xs:List Value} (h:w.ownsRow B e size v n xs) (k:Kb P w w') (hne:∀ g,v.ownBlock=some g→¬ P g):w'.ownsRow B e size v n xs:=by
 refine ⟨h.1,?_⟩
 rcases h.2 with hn | ⟨g,cap,cur,rfl,hb,qL,rest⟩
 ·exact .inl hn
 ·exact .inr ⟨g,cap,cur,rfl,hb,(k.block g (lt_of_block qL) (hne g rfl)).trans qL,rest⟩
theorem mq {w:World} {B size n:Nat} {e:TypeId} {h:Hd} {xs:List Value} (o:w.ownsRow B e size h.v n xs):h.n=n:=by
 rcases o.2 with ⟨hv,hn⟩ | ⟨g,cap,cur,hv,_⟩
 ·unfold Hd.v at hv;simp only [Value.slice.injEq] at hv;omega
 ·unfold Hd.v at hv;simp only [Value.slice.injEq] at hv;exact hv.2.1
theorem qO {w:World} {B size n:Nat} {e:TypeId} {v:Value} {xs:List Value} (o:w.ownsRow B e size v n xs):∃ h:Hd,v=h.v∧h.n=n:=by
 rcases o.2 with ⟨hv,hn⟩ | ⟨g,cap,cur,hv,_⟩
 ·exact ⟨⟨none,0,0⟩,hv,hn.symm⟩
 ·exact ⟨⟨_,n,cap⟩,hv,rfl⟩
theorem dm {w:World} {B size n:Nat} {e:TypeId} {h:Hd} {xs:List Value} (o:w.ownsRow B e size h.v n xs):h.v=.slice h.a n h.c:=by
 have:=mq o;unfold Hd.v;rw [this]
theorem li {w:World} {B B' size n:Nat} {e:TypeId} {v:Value} {xs:List Value} (h:w.ownsRow B e size v n xs) (hb:∀ g,v.ownBlock=some g→B'≤g):w.ownsRow B' e size v n xs:=by
 refine ⟨h.1,?_⟩
 rcases h.2 with hn | ⟨g,cap,cur,rfl,hb',rest⟩
 ·exact .inl hn
 ·exact .inr ⟨g,cap,cur,rfl,hb g rfl,rest⟩
theorem bM {w:World} {B B' size n:Nat} {e:TypeId} {v:Value} {xs:List Value} (h:w.ownsRow B e size v n xs) (hb:B'≤B):w.ownsRow B' e size v n xs :=
 li h fun g hg=>Nat.le_trans hb (h.lt g hg).1
theorem bU {w:World} {B size n:Nat} {e:TypeId} {v:Value} {xs:List Value} (h:w.ownsRow B e size v n xs) (hn:0 < n):∃ g cap,v=.slice (some ⟨g,0,none⟩) n cap∧B≤g∧n≤cap∧ai w g xs:=by
 obtain ⟨A,cap,e,hc,hg⟩:=qM h;obtain ⟨g,hA,hb,hr⟩:=hg hn;exact ⟨g,cap,by rw [e,hA],hb,hc,hr⟩
theorem nI (w:World) (g j:Nat) (v:Value) {cur:Array Value} {e:TypeId} {f:Nat × Nat} (h:w.heap[g]? = some (.cells cur e f)):(w.setCell ⟨g,j,none⟩ v).heap[g]? = some (.cells (cur.setIfInBounds j v) e f):=by
 have hl:g < w.heap.size:=lt_of_block h
 have h':w.heap[g]=.cells cur e f:=by simpa [Array.getElem?_eq_getElem hl] using h
 show (w.heap.modify g _)[g]? = _
 rw [Array.getElem?_eq_getElem (by simpa using hl),Array.getElem_modify_self,h'];simp
theorem ku {w:World} {B size n:Nat} {e:TypeId} {v:Value} {xs:List Value} (h:w.ownsRow B e size v n xs) {g:Nat} (hg:v.ownBlock=some g) (j:Nat) (u:Value):(w.setCell ⟨g,j,none⟩ u).ownsRow B e size v n (xs.set j u):=by
 refine ⟨by rw [List.length_set];exact h.1,?_⟩
 rcases h.2 with ⟨rfl,_⟩ | ⟨g',cap,cur,rfl,hb,qL,pV,hm,hcs,Oo⟩
 ·simp [Value.ownBlock] at hg
 ·have:g'=g:=by simpa [Value.ownBlock] using hg
  subst this;refine .inr ⟨g',cap,cur.setIfInBounds j u,rfl,hb,nI w g' j u qL,pV,hm,by simpa using hcs,?_⟩;rw [Array.toList_setIfInBounds,List.take_set,Oo]
theorem zq {α:Type} {w:World} {B size:Nat} {e:TypeId} {h:Hd} {l:List α} {bw:List (List Value)} {R:World→List Value→α→Prop} (o:w.ownsRow B e size h.v l.length bw.flatten) (hc:bL w size R bw l) (hs:Small (l.length*16)):az w size R h.a h.c l:=by
 obtain ⟨A,cap,hv,sl⟩:=DN (qM o) hc hs;unfold Hd.v at hv;simp only [Value.slice.injEq] at hv;rw [hv.1,hv.2.2];exact sl
theorem zr {α:Type} {w:World} {size:Nat} {R:World→List Value→α→Prop} (f:α→List Value) (l:List α) (hf:∀ x∈l,(f x).length=size∧R w (f x) x):bL w size R (l.map f) l :=
 ⟨by simp,fun i h h'=>by simpa using hf l[i] (List.getElem_mem h')⟩
theorem dS {α:Type} {w:World} {B size:Nat} {e:TypeId} {h:Hd} {l:List α} {R:World→List Value→α→Prop} (f:α→List Value) (o:w.ownsRow B e size h.v l.length (l.flatMap f)) (hf:∀ x∈l,(f x).length=size∧R w (f x) x) (hs:Small (l.length*16)):az w size R h.a h.c l :=
 zq (bw:=l.map f) (by rw [← List.flatMap_def];exact o) (zr f l hf) hs
def cB (s:ByteArray):List Value:=[.string s]
def DO (c:dY):List Value:=[.string c.name,.int .i64 c.kind,.bool c.null]
def iO (s:fK):List Value:=[.string s.name,.string s.owner]
def DR (r:fh) (h:Hd):List Value:=[.string r.name,.int .i64 r.kind,h.v,.int .i64 r.low,.int .i64 r.high,.string r.af,.string r.table,.string r.key]
structure Lay where
 zt:Nat→Hd
 wQ:Nat→Hd
 kw:Nat→Nat→Hd
end Go.Proofs.YtakddkhipelmjaaGreat
