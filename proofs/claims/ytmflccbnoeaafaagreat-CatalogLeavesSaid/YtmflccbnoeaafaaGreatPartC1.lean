import Derived.WalkKit
import Derived.WalkSpells
import Derived.WalkLawsBesides
import Derived.Laws.Cells
import Derived.Laws.IdiomCopy
import Derived.Test.YtmflccbnoeaafaaGreatRows
import Derived.Lib.Hide
import Derived.Deep.QuietTactic
import Derived.BigQuiet
import Derived.Below
import Derived.Deep.Draws
import Derived.StillTailTactics
import Derived.ProofKit
import Derived.OpenShut
import Derived.Deep.Slices
import Derived.ChangeOld
import Derived.SizedLaws
import Derived.OwnWalk
import Derived.Laws.AppendOwn
namespace Go.Proofs.YtmflccbnoeaafaaGreat
open Go.RowKit
set_option maxRecDepth 100000
set_option linter.unusedVariables false
set_option maxHeartbeats 64000000
theorem gH {p:Prop}(h:p):Go.RowKit.Hid p:=Lib.hid h
theorem mD (b o j:Nat):(Addr.mk b o none).add j=⟨b,o+j,none⟩:=by
 unfold Addr.add;split
 ·rename_i h;rw [h];rfl
 ·rfl
theorem iO {P:Program} (w:World) (T:TypeId) (d:TypeDesc) (k b o:Nat) (hu:P.underlying T=some d) (hd:(match d with | .struct _ | .array _ _=>true | _=>false)=true) (hi:(P.info? T).map (·.size)=some k)
  (h:∀ j,j < k→(w.cell? ⟨b,o+j,none⟩).isSome=true):(loadVar T ⟨b,o,none⟩).run P w=.ok (.agg ((List.range k).map fun j=>(w.cell? ⟨b,o+j,none⟩).getD undef).toArray) w:=by
 have hl:=run_loadCells (P:=P) w ⟨b,o,none⟩ k (fun j=>(w.cell? ⟨b,o+j,none⟩).getD undef) (fun j hj=>by
  rw [mD];obtain ⟨v,hv⟩:=Option.isSome_iff_exists.1 (h j hj)
  rw [hv];rfl)
 cases hq:P.info? T with
 | none=>rw [hq] at hi;cases hi
 | some i =>
  rw [hq] at hi
  have hi':i.size=k:=by simpa using hi
  unfold loadVar
  cases d<;>simp at hd<;>simp [isAgg,run_underlying hu,sizeOf,typeInfo,hq,hi',hl]
theorem iP {P:Program} (w:World) (T:TypeId) (b o:Nat) (vs:List Value) (hi:(P.info? T).map (·.size)=some vs.length)
  (h:∀ j,j < vs.length→(w.cell? ⟨b,o+j,none⟩).isSome=true∧w.frozen? ⟨b,o+j,none⟩=false∧(vs.getD j undef).oneCell'=true):(storeVar T ⟨b,o,none⟩ (.agg vs.toArray)).run P w=.ok () (w.setCells b o vs):=by
 have hs:=run_storeCells_cells (P:=P) b o vs 0 w (fun j hj=>by simpa using (h j hj).1) (fun j hj=>by simpa using (h j hj).2.1) (fun v hv=>by
  obtain ⟨j,hj,rfl⟩:=List.getElem_of_mem hv;have:=(h j hj).2.2
  simpa [List.getD,List.getElem?_eq_getElem hj] using this)
 cases hq:P.info? T with
 | none=>rw [hq] at hi;cases hi
 | some i =>
  rw [hq] at hi
  have hi':i.size=vs.length:=by simpa using hi
  unfold storeVar;simp [sizeOf,typeInfo,hq,hi',Value.cells]
  simpa using hs
theorem ah (k:Nat) (p:Nat→Prop) (h:∀ j,j < k→p j) (hk:p k):∀ j,j < k+1→p j:=fun j hj=>by
 rcases Nat.lt_or_ge j k with h1 | h1
 ·exact h j h1
 ·have:j=k:=by omega
  subst this;exact hk
@[go_sem] theorem NZ (x:ByteArray):(Value.string x).oneCell'=true:=by simp [Value.oneCell']
@[go_sem] theorem U4 (k:IntKind) (n:Int):(Value.int k n).oneCell'=true:=by simp [Value.oneCell']
@[go_sem] theorem Rv (b:Bool):(Value.bool b).oneCell'=true:=by simp [Value.oneCell']
@[go_sem] theorem QF (a:Option Addr) (n c:Nat):(Value.slice a n c).oneCell'=true:=by simp [Value.oneCell']
@[go_sem] theorem MH (a:Option Addr):(Value.pointer a).oneCell'=true:=by simp [Value.oneCell']
@[go_sem] theorem U5 (r:Option Nat):(Value.map r).oneCell'=true:=by simp [Value.oneCell']
def MI (a:Addr):Sem Value:=loadVar 61 a
@[go_sem ↓] theorem Rw (a:Addr):loadVar 61 a=MI a:=rfl
@[go_sem] theorem QG (w:World) (b o:Nat) (h0:(w.cell? ⟨b,o,none⟩).isSome=true) (h1:(w.cell? ⟨b,o+1,none⟩).isSome=true):(MI ⟨b,o,none⟩).run Tryz.prog w=.ok (.agg #[(w.cell? ⟨b,o,none⟩).getD undef,(w.cell? ⟨b,o+1,none⟩).getD undef]) w:=iO (P:=Tryz.prog) w 61 _ 2 b o Tryz.underlying61 rfl (by kernel_rfl) (ah _ _ (ah _ _ (fun j hj=>absurd hj (Nat.not_lt_zero j)) h0) h1)
def MJ (a:Addr) (v:Value):Sem Unit:=storeVar 61 a v
@[go_sem ↓] theorem Rx (a:Addr) (v:Value):storeVar 61 a v=MJ a v:=rfl
@[go_sem] theorem QH (w:World) (b o:Nat) (v0 v1:Value) (h0:(w.cell? ⟨b,o,none⟩).isSome=true) (h1:(w.cell? ⟨b,o+1,none⟩).isSome=true) (f0:w.frozen? ⟨b,o,none⟩=false) (f1:w.frozen? ⟨b,o+1,none⟩=false) (o0:v0.oneCell'=true) (o1:v1.oneCell'=true):(MJ ⟨b,o,none⟩ (.agg #[v0,v1])).run Tryz.prog w=.ok () ((w.setCell ⟨b,o,none⟩ v0).setCell ⟨b,o+1,none⟩ v1):=iP (P:=Tryz.prog) w 61 b o [v0,v1] (by kernel_rfl) (ah _ _ (ah _ _ (fun j hj=>absurd hj (Nat.not_lt_zero j)) ⟨h0,f0,o0⟩) ⟨h1,f1,o1⟩)
def MK (a:Addr):Sem Value:=loadVar 98 a
@[go_sem ↓] theorem Ry (a:Addr):loadVar 98 a=MK a:=rfl
@[go_sem] theorem QI (w:World) (b o:Nat) (h0:(w.cell? ⟨b,o,none⟩).isSome=true) (h1:(w.cell? ⟨b,o+1,none⟩).isSome=true) (h2:(w.cell? ⟨b,o+2,none⟩).isSome=true):(MK ⟨b,o,none⟩).run Tryz.prog w=.ok (.agg #[(w.cell? ⟨b,o,none⟩).getD undef,(w.cell? ⟨b,o+1,none⟩).getD undef,(w.cell? ⟨b,o+2,none⟩).getD undef]) w:=iO (P:=Tryz.prog) w 98 _ 3 b o Tryz.underlying98 rfl (by kernel_rfl) (ah _ _ (ah _ _ (ah _ _ (fun j hj=>absurd hj (Nat.not_lt_zero j)) h0) h1) h2)
def MM (a:Addr) (v:Value):Sem Unit:=storeVar 98 a v
@[go_sem ↓] theorem Rz (a:Addr) (v:Value):storeVar 98 a v=MM a v:=rfl
@[go_sem] theorem QJ (w:World) (b o:Nat) (v0 v1 v2:Value) (h0:(w.cell? ⟨b,o,none⟩).isSome=true) (h1:(w.cell? ⟨b,o+1,none⟩).isSome=true) (h2:(w.cell? ⟨b,o+2,none⟩).isSome=true) (f0:w.frozen? ⟨b,o,none⟩=false) (f1:w.frozen? ⟨b,o+1,none⟩=false) (f2:w.frozen? ⟨b,o+2,none⟩=false) (o0:v0.oneCell'=true) (o1:v1.oneCell'=true) (o2:v2.oneCell'=true):(MM ⟨b,o,none⟩ (.agg #[v0,v1,v2])).run Tryz.prog w=.ok () (((w.setCell ⟨b,o,none⟩ v0).setCell ⟨b,o+1,none⟩ v1).setCell ⟨b,o+2,none⟩ v2):=iP (P:=Tryz.prog) w 98 b o [v0,v1,v2] (by kernel_rfl) (ah _ _ (ah _ _ (ah _ _ (fun j hj=>absurd hj (Nat.not_lt_zero j)) ⟨h0,f0,o0⟩) ⟨h1,f1,o1⟩) ⟨h2,f2,o2⟩)
def MN (a:Addr):Sem Value:=loadVar 103 a
@[go_sem ↓] theorem RA (a:Addr):loadVar 103 a=MN a:=rfl
@[go_sem] theorem QK (w:World) (b o:Nat) (h0:(w.cell? ⟨b,o,none⟩).isSome=true) (h1:(w.cell? ⟨b,o+1,none⟩).isSome=true):(MN ⟨b,o,none⟩).run Tryz.prog w=.ok (.agg #[(w.cell? ⟨b,o,none⟩).getD undef,(w.cell? ⟨b,o+1,none⟩).getD undef]) w:=iO (P:=Tryz.prog) w 103 _ 2 b o Tryz.underlying103 rfl (by kernel_rfl) (ah _ _ (ah _ _ (fun j hj=>absurd hj (Nat.not_lt_zero j)) h0) h1)
def MO (a:Addr) (v:Value):Sem Unit:=storeVar 103 a v
@[go_sem ↓] theorem RH (a:Addr) (v:Value):storeVar 103 a v=MO a v:=rfl
@[go_sem] theorem QL (w:World) (b o:Nat) (v0 v1:Value) (h0:(w.cell? ⟨b,o,none⟩).isSome=true) (h1:(w.cell? ⟨b,o+1,none⟩).isSome=true) (f0:w.frozen? ⟨b,o,none⟩=false) (f1:w.frozen? ⟨b,o+1,none⟩=false) (o0:v0.oneCell'=true) (o1:v1.oneCell'=true):(MO ⟨b,o,none⟩ (.agg #[v0,v1])).run Tryz.prog w=.ok () ((w.setCell ⟨b,o,none⟩ v0).setCell ⟨b,o+1,none⟩ v1):=iP (P:=Tryz.prog) w 103 b o [v0,v1] (by kernel_rfl) (ah _ _ (ah _ _ (fun j hj=>absurd hj (Nat.not_lt_zero j)) ⟨h0,f0,o0⟩) ⟨h1,f1,o1⟩)
def MP (a:Addr):Sem Value:=loadVar 53 a
@[go_sem ↓] theorem RI (a:Addr):loadVar 53 a=MP a:=rfl
@[go_sem] theorem Ej (w:World) (b o:Nat) (h0:(w.cell? ⟨b,o,none⟩).isSome=true) (h1:(w.cell? ⟨b,o+1,none⟩).isSome=true) (h2:(w.cell? ⟨b,o+2,none⟩).isSome=true) (h3:(w.cell? ⟨b,o+3,none⟩).isSome=true) (h4:(w.cell? ⟨b,o+4,none⟩).isSome=true):(MP ⟨b,o,none⟩).run Tryz.prog w=.ok (.agg #[(w.cell? ⟨b,o,none⟩).getD undef,(w.cell? ⟨b,o+1,none⟩).getD undef,(w.cell? ⟨b,o+2,none⟩).getD undef,(w.cell? ⟨b,o+3,none⟩).getD undef,(w.cell? ⟨b,o+4,none⟩).getD undef]) w:=iO (P:=Tryz.prog) w 53 _ 5 b o Tryz.underlying53 rfl (by kernel_rfl) (ah _ _ (ah _ _ (ah _ _ (ah _ _ (ah _ _ (fun j hj=>absurd hj (Nat.not_lt_zero j)) h0) h1) h2) h3) h4)
def MQ (a:Addr) (v:Value):Sem Unit:=storeVar 53 a v
@[go_sem ↓] theorem RJ (a:Addr) (v:Value):storeVar 53 a v=MQ a v:=rfl
@[go_sem] theorem QM (w:World) (b o:Nat) (v0 v1 v2 v3 v4:Value) (h0:(w.cell? ⟨b,o,none⟩).isSome=true) (h1:(w.cell? ⟨b,o+1,none⟩).isSome=true) (h2:(w.cell? ⟨b,o+2,none⟩).isSome=true) (h3:(w.cell? ⟨b,o+3,none⟩).isSome=true) (h4:(w.cell? ⟨b,o+4,none⟩).isSome=true) (f0:w.frozen? ⟨b,o,none⟩=false) (f1:w.frozen? ⟨b,o+1,none⟩=false) (f2:w.frozen? ⟨b,o+2,none⟩=false) (f3:w.frozen? ⟨b,o+3,none⟩=false) (f4:w.frozen? ⟨b,o+4,none⟩=false) (o0:v0.oneCell'=true) (o1:v1.oneCell'=true) (o2:v2.oneCell'=true) (o3:v3.oneCell'=true) (o4:v4.oneCell'=true):(MQ ⟨b,o,none⟩ (.agg #[v0,v1,v2,v3,v4])).run Tryz.prog w=.ok () (((((w.setCell ⟨b,o,none⟩ v0).setCell ⟨b,o+1,none⟩ v1).setCell ⟨b,o+2,none⟩ v2).setCell ⟨b,o+3,none⟩ v3).setCell ⟨b,o+4,none⟩ v4):=iP (P:=Tryz.prog) w 53 b o [v0,v1,v2,v3,v4] (by kernel_rfl) (ah _ _ (ah _ _ (ah _ _ (ah _ _ (ah _ _ (fun j hj=>absurd hj (Nat.not_lt_zero j)) ⟨h0,f0,o0⟩) ⟨h1,f1,o1⟩) ⟨h2,f2,o2⟩) ⟨h3,f3,o3⟩) ⟨h4,f4,o4⟩)
def MR (a:Addr):Sem Value:=loadVar 37 a
@[go_sem ↓] theorem RL (a:Addr):loadVar 37 a=MR a:=rfl
@[go_sem] theorem QN (w:World) (b o:Nat) (h0:(w.cell? ⟨b,o,none⟩).isSome=true) (h1:(w.cell? ⟨b,o+1,none⟩).isSome=true) (h2:(w.cell? ⟨b,o+2,none⟩).isSome=true) (h3:(w.cell? ⟨b,o+3,none⟩).isSome=true) (h4:(w.cell? ⟨b,o+4,none⟩).isSome=true) (h5:(w.cell? ⟨b,o+5,none⟩).isSome=true) (h6:(w.cell? ⟨b,o+6,none⟩).isSome=true) (h7:(w.cell? ⟨b,o+7,none⟩).isSome=true):(MR ⟨b,o,none⟩).run Tryz.prog w=.ok (.agg #[(w.cell? ⟨b,o,none⟩).getD undef,(w.cell? ⟨b,o+1,none⟩).getD undef,(w.cell? ⟨b,o+2,none⟩).getD undef,(w.cell? ⟨b,o+3,none⟩).getD undef,(w.cell? ⟨b,o+4,none⟩).getD undef,(w.cell? ⟨b,o+5,none⟩).getD undef,(w.cell? ⟨b,o+6,none⟩).getD undef,(w.cell? ⟨b,o+7,none⟩).getD undef]) w:=iO (P:=Tryz.prog) w 37 _ 8 b o Tryz.underlying37 rfl (by kernel_rfl) (ah _ _ (ah _ _ (ah _ _ (ah _ _ (ah _ _ (ah _ _ (ah _ _ (ah _ _ (fun j hj=>absurd hj (Nat.not_lt_zero j)) h0) h1) h2) h3) h4) h5) h6) h7)
def MS (a:Addr) (v:Value):Sem Unit:=storeVar 37 a v
@[go_sem ↓] theorem RM (a:Addr) (v:Value):storeVar 37 a v=MS a v:=rfl
@[go_sem] theorem QO (w:World) (b o:Nat) (v0 v1 v2 v3 v4 v5 v6 v7:Value) (h0:(w.cell? ⟨b,o,none⟩).isSome=true) (h1:(w.cell? ⟨b,o+1,none⟩).isSome=true) (h2:(w.cell? ⟨b,o+2,none⟩).isSome=true) (h3:(w.cell? ⟨b,o+3,none⟩).isSome=true) (h4:(w.cell? ⟨b,o+4,none⟩).isSome=true) (h5:(w.cell? ⟨b,o+5,none⟩).isSome=true) (h6:(w.cell? ⟨b,o+6,none⟩).isSome=true) (h7:(w.cell? ⟨b,o+7,none⟩).isSome=true) (f0:w.frozen? ⟨b,o,none⟩=false) (f1:w.frozen? ⟨b,o+1,none⟩=false) (f2:w.frozen? ⟨b,o+2,none⟩=false) (f3:w.frozen? ⟨b,o+3,none⟩=false) (f4:w.frozen? ⟨b,o+4,none⟩=false) (f5:w.frozen? ⟨b,o+5,none⟩=false) (f6:w.frozen? ⟨b,o+6,none⟩=false) (f7:w.frozen? ⟨b,o+7,none⟩=false) (o0:v0.oneCell'=true) (o1:v1.oneCell'=true) (o2:v2.oneCell'=true) (o3:v3.oneCell'=true) (o4:v4.oneCell'=true) (o5:v5.oneCell'=true) (o6:v6.oneCell'=true) (o7:v7.oneCell'=true):(MS ⟨b,o,none⟩ (.agg #[v0,v1,v2,v3,v4,v5,v6,v7])).run Tryz.prog w=.ok () ((((((((w.setCell ⟨b,o,none⟩ v0).setCell ⟨b,o+1,none⟩ v1).setCell ⟨b,o+2,none⟩ v2).setCell ⟨b,o+3,none⟩ v3).setCell ⟨b,o+4,none⟩ v4).setCell ⟨b,o+5,none⟩ v5).setCell ⟨b,o+6,none⟩ v6).setCell ⟨b,o+7,none⟩ v7):=iP (P:=Tryz.prog) w 37 b o [v0,v1,v2,v3,v4,v5,v6,v7] (by kernel_rfl) (ah _ _ (ah _ _ (ah _ _ (ah _ _ (ah _ _ (ah _ _ (ah _ _ (ah _ _ (fun j hj=>absurd hj (Nat.not_lt_zero j)) ⟨h0,f0,o0⟩) ⟨h1,f1,o1⟩) ⟨h2,f2,o2⟩) ⟨h3,f3,o3⟩) ⟨h4,f4,o4⟩) ⟨h5,f5,o5⟩) ⟨h6,f6,o6⟩) ⟨h7,f7,o7⟩)
def MT (a:Addr):Sem Value:=loadVar 25 a
@[go_sem ↓] theorem RN (a:Addr):loadVar 25 a=MT a:=rfl
@[go_sem] theorem Ek (w:World) (b o:Nat) (h0:(w.cell? ⟨b,o,none⟩).isSome=true) (h1:(w.cell? ⟨b,o+1,none⟩).isSome=true):(MT ⟨b,o,none⟩).run Tryz.prog w=.ok (.agg #[(w.cell? ⟨b,o,none⟩).getD undef,(w.cell? ⟨b,o+1,none⟩).getD undef]) w:=iO (P:=Tryz.prog) w 25 _ 2 b o Tryz.underlying25 rfl (by kernel_rfl) (ah _ _ (ah _ _ (fun j hj=>absurd hj (Nat.not_lt_zero j)) h0) h1)
def MU (a:Addr) (v:Value):Sem Unit:=storeVar 25 a v
@[go_sem ↓] theorem RO (a:Addr) (v:Value):storeVar 25 a v=MU a v:=rfl
@[go_sem] theorem QP (w:World) (b o:Nat) (v0 v1:Value) (h0:(w.cell? ⟨b,o,none⟩).isSome=true) (h1:(w.cell? ⟨b,o+1,none⟩).isSome=true) (f0:w.frozen? ⟨b,o,none⟩=false) (f1:w.frozen? ⟨b,o+1,none⟩=false) (o0:v0.oneCell'=true) (o1:v1.oneCell'=true):(MU ⟨b,o,none⟩ (.agg #[v0,v1])).run Tryz.prog w=.ok () ((w.setCell ⟨b,o,none⟩ v0).setCell ⟨b,o+1,none⟩ v1):=iP (P:=Tryz.prog) w 25 b o [v0,v1] (by kernel_rfl) (ah _ _ (ah _ _ (fun j hj=>absurd hj (Nat.not_lt_zero j)) ⟨h0,f0,o0⟩) ⟨h1,f1,o1⟩)
def MV (a:Addr):Sem Value:=loadVar 29 a
@[go_sem ↓] theorem RS (a:Addr):loadVar 29 a=MV a:=rfl
@[go_sem] theorem El (w:World) (b o:Nat) (h0:(w.cell? ⟨b,o,none⟩).isSome=true) (h1:(w.cell? ⟨b,o+1,none⟩).isSome=true):(MV ⟨b,o,none⟩).run Tryz.prog w=.ok (.agg #[(w.cell? ⟨b,o,none⟩).getD undef,(w.cell? ⟨b,o+1,none⟩).getD undef]) w:=iO (P:=Tryz.prog) w 29 _ 2 b o Tryz.underlying29 rfl (by kernel_rfl) (ah _ _ (ah _ _ (fun j hj=>absurd hj (Nat.not_lt_zero j)) h0) h1)
def MW (a:Addr) (v:Value):Sem Unit:=storeVar 29 a v
@[go_sem ↓] theorem RT (a:Addr) (v:Value):storeVar 29 a v=MW a v:=rfl
@[go_sem] theorem QQ (w:World) (b o:Nat) (v0 v1:Value) (h0:(w.cell? ⟨b,o,none⟩).isSome=true) (h1:(w.cell? ⟨b,o+1,none⟩).isSome=true) (f0:w.frozen? ⟨b,o,none⟩=false) (f1:w.frozen? ⟨b,o+1,none⟩=false) (o0:v0.oneCell'=true) (o1:v1.oneCell'=true):(MW ⟨b,o,none⟩ (.agg #[v0,v1])).run Tryz.prog w=.ok () ((w.setCell ⟨b,o,none⟩ v0).setCell ⟨b,o+1,none⟩ v1):=iP (P:=Tryz.prog) w 29 b o [v0,v1] (by kernel_rfl) (ah _ _ (ah _ _ (fun j hj=>absurd hj (Nat.not_lt_zero j)) ⟨h0,f0,o0⟩) ⟨h1,f1,o1⟩)
def MX (a:Addr):Sem Value:=loadVar 106 a
@[go_sem ↓] theorem RU (a:Addr):loadVar 106 a=MX a:=rfl
@[go_sem] theorem QS (w:World) (b o:Nat) (h0:(w.cell? ⟨b,o,none⟩).isSome=true) (h1:(w.cell? ⟨b,o+1,none⟩).isSome=true) (h2:(w.cell? ⟨b,o+2,none⟩).isSome=true) (h3:(w.cell? ⟨b,o+3,none⟩).isSome=true) (h4:(w.cell? ⟨b,o+4,none⟩).isSome=true) (h5:(w.cell? ⟨b,o+5,none⟩).isSome=true):(MX ⟨b,o,none⟩).run Tryz.prog w=.ok (.agg #[(w.cell? ⟨b,o,none⟩).getD undef,(w.cell? ⟨b,o+1,none⟩).getD undef,(w.cell? ⟨b,o+2,none⟩).getD undef,(w.cell? ⟨b,o+3,none⟩).getD undef,(w.cell? ⟨b,o+4,none⟩).getD undef,(w.cell? ⟨b,o+5,none⟩).getD undef]) w:=iO (P:=Tryz.prog) w 106 _ 6 b o Tryz.underlying106 rfl (by kernel_rfl) (ah _ _ (ah _ _ (ah _ _ (ah _ _ (ah _ _ (ah _ _ (fun j hj=>absurd hj (Nat.not_lt_zero j)) h0) h1) h2) h3) h4) h5)
def MZ (a:Addr) (v:Value):Sem Unit:=storeVar 106 a v
@[go_sem ↓] theorem R2 (a:Addr) (v:Value):storeVar 106 a v=MZ a v:=rfl
@[go_sem] theorem QT (w:World) (b o:Nat) (v0 v1 v2 v3 v4 v5:Value) (h0:(w.cell? ⟨b,o,none⟩).isSome=true) (h1:(w.cell? ⟨b,o+1,none⟩).isSome=true) (h2:(w.cell? ⟨b,o+2,none⟩).isSome=true) (h3:(w.cell? ⟨b,o+3,none⟩).isSome=true) (h4:(w.cell? ⟨b,o+4,none⟩).isSome=true) (h5:(w.cell? ⟨b,o+5,none⟩).isSome=true) (f0:w.frozen? ⟨b,o,none⟩=false) (f1:w.frozen? ⟨b,o+1,none⟩=false) (f2:w.frozen? ⟨b,o+2,none⟩=false) (f3:w.frozen? ⟨b,o+3,none⟩=false) (f4:w.frozen? ⟨b,o+4,none⟩=false) (f5:w.frozen? ⟨b,o+5,none⟩=false) (o0:v0.oneCell'=true) (o1:v1.oneCell'=true) (o2:v2.oneCell'=true) (o3:v3.oneCell'=true) (o4:v4.oneCell'=true) (o5:v5.oneCell'=true):(MZ ⟨b,o,none⟩ (.agg #[v0,v1,v2,v3,v4,v5])).run Tryz.prog w=.ok () ((((((w.setCell ⟨b,o,none⟩ v0).setCell ⟨b,o+1,none⟩ v1).setCell ⟨b,o+2,none⟩ v2).setCell ⟨b,o+3,none⟩ v3).setCell ⟨b,o+4,none⟩ v4).setCell ⟨b,o+5,none⟩ v5):=iP (P:=Tryz.prog) w 106 b o [v0,v1,v2,v3,v4,v5] (by kernel_rfl) (ah _ _ (ah _ _ (ah _ _ (ah _ _ (ah _ _ (ah _ _ (fun j hj=>absurd hj (Nat.not_lt_zero j)) ⟨h0,f0,o0⟩) ⟨h1,f1,o1⟩) ⟨h2,f2,o2⟩) ⟨h3,f3,o3⟩) ⟨h4,f4,o4⟩) ⟨h5,f5,o5⟩)
def M0 (a:Addr):Sem Value:=loadVar 32 a
@[go_sem ↓] theorem R3 (a:Addr):loadVar 32 a=M0 a:=rfl
@[go_sem] theorem Eo (w:World) (b o:Nat) (h0:(w.cell? ⟨b,o,none⟩).isSome=true) (h1:(w.cell? ⟨b,o+1,none⟩).isSome=true) (h2:(w.cell? ⟨b,o+2,none⟩).isSome=true) (h3:(w.cell? ⟨b,o+3,none⟩).isSome=true) (h4:(w.cell? ⟨b,o+4,none⟩).isSome=true) (h5:(w.cell? ⟨b,o+5,none⟩).isSome=true) (h6:(w.cell? ⟨b,o+6,none⟩).isSome=true):(M0 ⟨b,o,none⟩).run Tryz.prog w=.ok (.agg #[(w.cell? ⟨b,o,none⟩).getD undef,(w.cell? ⟨b,o+1,none⟩).getD undef,(w.cell? ⟨b,o+2,none⟩).getD undef,(w.cell? ⟨b,o+3,none⟩).getD undef,(w.cell? ⟨b,o+4,none⟩).getD undef,(w.cell? ⟨b,o+5,none⟩).getD undef,(w.cell? ⟨b,o+6,none⟩).getD undef]) w:=iO (P:=Tryz.prog) w 32 _ 7 b o Tryz.underlying32 rfl (by kernel_rfl) (ah _ _ (ah _ _ (ah _ _ (ah _ _ (ah _ _ (ah _ _ (ah _ _ (fun j hj=>absurd hj (Nat.not_lt_zero j)) h0) h1) h2) h3) h4) h5) h6)
def M3 (a:Addr) (v:Value):Sem Unit:=storeVar 32 a v
@[go_sem ↓] theorem R4 (a:Addr) (v:Value):storeVar 32 a v=M3 a v:=rfl
@[go_sem] theorem QU (w:World) (b o:Nat) (v0 v1 v2 v3 v4 v5 v6:Value) (h0:(w.cell? ⟨b,o,none⟩).isSome=true) (h1:(w.cell? ⟨b,o+1,none⟩).isSome=true) (h2:(w.cell? ⟨b,o+2,none⟩).isSome=true) (h3:(w.cell? ⟨b,o+3,none⟩).isSome=true) (h4:(w.cell? ⟨b,o+4,none⟩).isSome=true) (h5:(w.cell? ⟨b,o+5,none⟩).isSome=true) (h6:(w.cell? ⟨b,o+6,none⟩).isSome=true) (f0:w.frozen? ⟨b,o,none⟩=false) (f1:w.frozen? ⟨b,o+1,none⟩=false) (f2:w.frozen? ⟨b,o+2,none⟩=false) (f3:w.frozen? ⟨b,o+3,none⟩=false) (f4:w.frozen? ⟨b,o+4,none⟩=false) (f5:w.frozen? ⟨b,o+5,none⟩=false) (f6:w.frozen? ⟨b,o+6,none⟩=false) (o0:v0.oneCell'=true) (o1:v1.oneCell'=true) (o2:v2.oneCell'=true) (o3:v3.oneCell'=true) (o4:v4.oneCell'=true) (o5:v5.oneCell'=true) (o6:v6.oneCell'=true):(M3 ⟨b,o,none⟩ (.agg #[v0,v1,v2,v3,v4,v5,v6])).run Tryz.prog w=.ok () (((((((w.setCell ⟨b,o,none⟩ v0).setCell ⟨b,o+1,none⟩ v1).setCell ⟨b,o+2,none⟩ v2).setCell ⟨b,o+3,none⟩ v3).setCell ⟨b,o+4,none⟩ v4).setCell ⟨b,o+5,none⟩ v5).setCell ⟨b,o+6,none⟩ v6):=iP (P:=Tryz.prog) w 32 b o [v0,v1,v2,v3,v4,v5,v6] (by kernel_rfl) (ah _ _ (ah _ _ (ah _ _ (ah _ _ (ah _ _ (ah _ _ (ah _ _ (fun j hj=>absurd hj (Nat.not_lt_zero j)) ⟨h0,f0,o0⟩) ⟨h1,f1,o1⟩) ⟨h2,f2,o2⟩) ⟨h3,f3,o3⟩) ⟨h4,f4,o4⟩) ⟨h5,f5,o5⟩) ⟨h6,f6,o6⟩)
def M4 (a:Addr):Sem Value:=loadVar 40 a
@[go_sem ↓] theorem R5 (a:Addr):loadVar 40 a=M4 a:=rfl
@[go_sem] theorem QV (w:World) (b o:Nat) (h0:(w.cell? ⟨b,o,none⟩).isSome=true) (h1:(w.cell? ⟨b,o+1,none⟩).isSome=true) (h2:(w.cell? ⟨b,o+2,none⟩).isSome=true) (h3:(w.cell? ⟨b,o+3,none⟩).isSome=true) (h4:(w.cell? ⟨b,o+4,none⟩).isSome=true) (h5:(w.cell? ⟨b,o+5,none⟩).isSome=true) (h6:(w.cell? ⟨b,o+6,none⟩).isSome=true) (h7:(w.cell? ⟨b,o+7,none⟩).isSome=true) (h8:(w.cell? ⟨b,o+8,none⟩).isSome=true) (h9:(w.cell? ⟨b,o+9,none⟩).isSome=true) (h10:(w.cell? ⟨b,o+10,none⟩).isSome=true) (h11:(w.cell? ⟨b,o+11,none⟩).isSome=true) (Aw:(w.cell? ⟨b,o+12,none⟩).isSome=true) (Gj:(w.cell? ⟨b,o+13,none⟩).isSome=true) (J6:(w.cell? ⟨b,o+14,none⟩).isSome=true) (GA:(w.cell? ⟨b,o+15,none⟩).isSome=true) (M8:(w.cell? ⟨b,o+16,none⟩).isSome=true):(M4 ⟨b,o,none⟩).run Tryz.prog w=.ok (.agg #[(w.cell? ⟨b,o,none⟩).getD undef,(w.cell? ⟨b,o+1,none⟩).getD undef,(w.cell? ⟨b,o+2,none⟩).getD undef,(w.cell? ⟨b,o+3,none⟩).getD undef,(w.cell? ⟨b,o+4,none⟩).getD undef,(w.cell? ⟨b,o+5,none⟩).getD undef,(w.cell? ⟨b,o+6,none⟩).getD undef,(w.cell? ⟨b,o+7,none⟩).getD undef,(w.cell? ⟨b,o+8,none⟩).getD undef,(w.cell? ⟨b,o+9,none⟩).getD undef,(w.cell? ⟨b,o+10,none⟩).getD undef,(w.cell? ⟨b,o+11,none⟩).getD undef,(w.cell? ⟨b,o+12,none⟩).getD undef,(w.cell? ⟨b,o+13,none⟩).getD undef,(w.cell? ⟨b,o+14,none⟩).getD undef,(w.cell? ⟨b,o+15,none⟩).getD undef,(w.cell? ⟨b,o+16,none⟩).getD undef]) w:=iO (P:=Tryz.prog) w 40 _ 17 b o Tryz.underlying40 rfl (by kernel_rfl) (ah _ _ (ah _ _ (ah _ _ (ah _ _ (ah _ _ (ah _ _ (ah _ _ (ah _ _ (ah _ _ (ah _ _ (ah _ _ (ah _ _ (ah _ _ (ah _ _ (ah _ _ (ah _ _ (ah _ _ (fun j hj=>absurd hj (Nat.not_lt_zero j)) h0) h1) h2) h3) h4) h5) h6) h7) h8) h9) h10) h11) Aw) Gj) J6) GA) M8)
def M9 (a:Addr) (v:Value):Sem Unit:=storeVar 40 a v
@[go_sem ↓] theorem R6 (a:Addr) (v:Value):storeVar 40 a v=M9 a v:=rfl
@[go_sem] theorem QW (w:World) (b o:Nat) (v0 v1 v2 v3 v4 v5 v6 v7 v8 v9 v10 v11 v12 v13 v14 v15 v16:Value) (h0:(w.cell? ⟨b,o,none⟩).isSome=true) (h1:(w.cell? ⟨b,o+1,none⟩).isSome=true) (h2:(w.cell? ⟨b,o+2,none⟩).isSome=true) (h3:(w.cell? ⟨b,o+3,none⟩).isSome=true) (h4:(w.cell? ⟨b,o+4,none⟩).isSome=true) (h5:(w.cell? ⟨b,o+5,none⟩).isSome=true) (h6:(w.cell? ⟨b,o+6,none⟩).isSome=true) (h7:(w.cell? ⟨b,o+7,none⟩).isSome=true) (h8:(w.cell? ⟨b,o+8,none⟩).isSome=true) (h9:(w.cell? ⟨b,o+9,none⟩).isSome=true) (h10:(w.cell? ⟨b,o+10,none⟩).isSome=true) (h11:(w.cell? ⟨b,o+11,none⟩).isSome=true) (Aw:(w.cell? ⟨b,o+12,none⟩).isSome=true) (Gj:(w.cell? ⟨b,o+13,none⟩).isSome=true) (J6:(w.cell? ⟨b,o+14,none⟩).isSome=true) (GA:(w.cell? ⟨b,o+15,none⟩).isSome=true) (M8:(w.cell? ⟨b,o+16,none⟩).isSome=true) (f0:w.frozen? ⟨b,o,none⟩=false) (f1:w.frozen? ⟨b,o+1,none⟩=false) (f2:w.frozen? ⟨b,o+2,none⟩=false) (f3:w.frozen? ⟨b,o+3,none⟩=false) (f4:w.frozen? ⟨b,o+4,none⟩=false) (f5:w.frozen? ⟨b,o+5,none⟩=false) (f6:w.frozen? ⟨b,o+6,none⟩=false) (f7:w.frozen? ⟨b,o+7,none⟩=false) (f8:w.frozen? ⟨b,o+8,none⟩=false) (f9:w.frozen? ⟨b,o+9,none⟩=false) (f10:w.frozen? ⟨b,o+10,none⟩=false) (f11:w.frozen? ⟨b,o+11,none⟩=false) (f12:w.frozen? ⟨b,o+12,none⟩=false) (f13:w.frozen? ⟨b,o+13,none⟩=false) (f14:w.frozen? ⟨b,o+14,none⟩=false) (f15:w.frozen? ⟨b,o+15,none⟩=false) (f16:w.frozen? ⟨b,o+16,none⟩=false) (o0:v0.oneCell'=true) (o1:v1.oneCell'=true) (o2:v2.oneCell'=true) (o3:v3.oneCell'=true) (o4:v4.oneCell'=true) (o5:v5.oneCell'=true) (o6:v6.oneCell'=true) (o7:v7.oneCell'=true) (o8:v8.oneCell'=true) (o9:v9.oneCell'=true) (o10:v10.oneCell'=true) (o11:v11.oneCell'=true) (o12:v12.oneCell'=true) (GC:v13.oneCell'=true) (o14:v14.oneCell'=true) (o15:v15.oneCell'=true) (o16:v16.oneCell'=true):(M9 ⟨b,o,none⟩ (.agg #[v0,v1,v2,v3,v4,v5,v6,v7,v8,v9,v10,v11,v12,v13,v14,v15,v16])).run Tryz.prog w=.ok () (((((((((((((((((w.setCell ⟨b,o,none⟩ v0).setCell ⟨b,o+1,none⟩ v1).setCell ⟨b,o+2,none⟩ v2).setCell ⟨b,o+3,none⟩ v3).setCell ⟨b,o+4,none⟩ v4).setCell ⟨b,o+5,none⟩ v5).setCell ⟨b,o+6,none⟩ v6).setCell ⟨b,o+7,none⟩ v7).setCell ⟨b,o+8,none⟩ v8).setCell ⟨b,o+9,none⟩ v9).setCell ⟨b,o+10,none⟩ v10).setCell ⟨b,o+11,none⟩ v11).setCell ⟨b,o+12,none⟩ v12).setCell ⟨b,o+13,none⟩ v13).setCell ⟨b,o+14,none⟩ v14).setCell ⟨b,o+15,none⟩ v15).setCell ⟨b,o+16,none⟩ v16):=iP (P:=Tryz.prog) w 40 b o [v0,v1,v2,v3,v4,v5,v6,v7,v8,v9,v10,v11,v12,v13,v14,v15,v16] (by kernel_rfl) (ah _ _ (ah _ _ (ah _ _ (ah _ _ (ah _ _ (ah _ _ (ah _ _ (ah _ _ (ah _ _ (ah _ _ (ah _ _ (ah _ _ (ah _ _ (ah _ _ (ah _ _ (ah _ _ (ah _ _ (fun j hj=>absurd hj (Nat.not_lt_zero j)) ⟨h0,f0,o0⟩) ⟨h1,f1,o1⟩) ⟨h2,f2,o2⟩) ⟨h3,f3,o3⟩) ⟨h4,f4,o4⟩) ⟨h5,f5,o5⟩) ⟨h6,f6,o6⟩) ⟨h7,f7,o7⟩) ⟨h8,f8,o8⟩) ⟨h9,f9,o9⟩) ⟨h10,f10,o10⟩) ⟨h11,f11,o11⟩) ⟨Aw,f12,o12⟩) ⟨Gj,f13,GC⟩) ⟨J6,f14,o14⟩) ⟨GA,f15,o15⟩) ⟨M8,f16,o16⟩)
def R7 (a:Addr):Sem Value:=loadVar 78 a
@[go_sem ↓] theorem U6 (a:Addr):loadVar 78 a=R7 a:=rfl
@[go_sem] theorem R8 (w:World) (b o:Nat) (h0:(w.cell? ⟨b,o,none⟩).isSome=true) (h1:(w.cell? ⟨b,o+1,none⟩).isSome=true) (h2:(w.cell? ⟨b,o+2,none⟩).isSome=true) (h3:(w.cell? ⟨b,o+3,none⟩).isSome=true):(R7 ⟨b,o,none⟩).run Tryz.prog w=.ok (.agg #[(w.cell? ⟨b,o,none⟩).getD undef,(w.cell? ⟨b,o+1,none⟩).getD undef,(w.cell? ⟨b,o+2,none⟩).getD undef,(w.cell? ⟨b,o+3,none⟩).getD undef]) w:=iO (P:=Tryz.prog) w 78 _ 4 b o Tryz.underlying78 rfl (by kernel_rfl) (ah _ _ (ah _ _ (ah _ _ (ah _ _ (fun j hj=>absurd hj (Nat.not_lt_zero j)) h0) h1) h2) h3)
def R9 (a:Addr) (v:Value):Sem Unit:=storeVar 78 a v
@[go_sem ↓] theorem U7 (a:Addr) (v:Value):storeVar 78 a v=R9 a v:=rfl
@[go_sem] theorem Sa (w:World) (b o:Nat) (v0 v1 v2 v3:Value) (h0:(w.cell? ⟨b,o,none⟩).isSome=true) (h1:(w.cell? ⟨b,o+1,none⟩).isSome=true) (h2:(w.cell? ⟨b,o+2,none⟩).isSome=true) (h3:(w.cell? ⟨b,o+3,none⟩).isSome=true) (f0:w.frozen? ⟨b,o,none⟩=false) (f1:w.frozen? ⟨b,o+1,none⟩=false) (f2:w.frozen? ⟨b,o+2,none⟩=false) (f3:w.frozen? ⟨b,o+3,none⟩=false) (o0:v0.oneCell'=true) (o1:v1.oneCell'=true) (o2:v2.oneCell'=true) (o3:v3.oneCell'=true):(R9 ⟨b,o,none⟩ (.agg #[v0,v1,v2,v3])).run Tryz.prog w=.ok () ((((w.setCell ⟨b,o,none⟩ v0).setCell ⟨b,o+1,none⟩ v1).setCell ⟨b,o+2,none⟩ v2).setCell ⟨b,o+3,none⟩ v3):=iP (P:=Tryz.prog) w 78 b o [v0,v1,v2,v3] (by kernel_rfl) (ah _ _ (ah _ _ (ah _ _ (ah _ _ (fun j hj=>absurd hj (Nat.not_lt_zero j)) ⟨h0,f0,o0⟩) ⟨h1,f1,o1⟩) ⟨h2,f2,o2⟩) ⟨h3,f3,o3⟩)
def Sb (a:Addr):Sem Value:=loadVar 79 a
@[go_sem ↓] theorem U8 (a:Addr):loadVar 79 a=Sb a:=rfl
@[go_sem] theorem Sc (w:World) (b o:Nat) (h0:(w.cell? ⟨b,o,none⟩).isSome=true) (h1:(w.cell? ⟨b,o+1,none⟩).isSome=true) (h2:(w.cell? ⟨b,o+2,none⟩).isSome=true) (h3:(w.cell? ⟨b,o+3,none⟩).isSome=true):(Sb ⟨b,o,none⟩).run Tryz.prog w=.ok (.agg #[(w.cell? ⟨b,o,none⟩).getD undef,(w.cell? ⟨b,o+1,none⟩).getD undef,(w.cell? ⟨b,o+2,none⟩).getD undef,(w.cell? ⟨b,o+3,none⟩).getD undef]) w:=iO (P:=Tryz.prog) w 79 _ 4 b o Tryz.underlying79 rfl (by kernel_rfl) (ah _ _ (ah _ _ (ah _ _ (ah _ _ (fun j hj=>absurd hj (Nat.not_lt_zero j)) h0) h1) h2) h3)
def Sd (a:Addr) (v:Value):Sem Unit:=storeVar 79 a v
@[go_sem ↓] theorem U9 (a:Addr) (v:Value):storeVar 79 a v=Sd a v:=rfl
@[go_sem] theorem Sg (w:World) (b o:Nat) (v0 v1 v2 v3:Value) (h0:(w.cell? ⟨b,o,none⟩).isSome=true) (h1:(w.cell? ⟨b,o+1,none⟩).isSome=true) (h2:(w.cell? ⟨b,o+2,none⟩).isSome=true) (h3:(w.cell? ⟨b,o+3,none⟩).isSome=true) (f0:w.frozen? ⟨b,o,none⟩=false) (f1:w.frozen? ⟨b,o+1,none⟩=false) (f2:w.frozen? ⟨b,o+2,none⟩=false) (f3:w.frozen? ⟨b,o+3,none⟩=false) (o0:v0.oneCell'=true) (o1:v1.oneCell'=true) (o2:v2.oneCell'=true) (o3:v3.oneCell'=true):(Sd ⟨b,o,none⟩ (.agg #[v0,v1,v2,v3])).run Tryz.prog w=.ok () ((((w.setCell ⟨b,o,none⟩ v0).setCell ⟨b,o+1,none⟩ v1).setCell ⟨b,o+2,none⟩ v2).setCell ⟨b,o+3,none⟩ v3):=iP (P:=Tryz.prog) w 79 b o [v0,v1,v2,v3] (by kernel_rfl) (ah _ _ (ah _ _ (ah _ _ (ah _ _ (fun j hj=>absurd hj (Nat.not_lt_zero j)) ⟨h0,f0,o0⟩) ⟨h1,f1,o1⟩) ⟨h2,f2,o2⟩) ⟨h3,f3,o3⟩)
structure ii (w:World) where
 to:World
 below:Below w.heap.size w to
instance (w:World):Nonempty (ii w):=⟨⟨w,Below.refl _ _⟩⟩
def bH (w:World) (x:ii w):World:=x.to
theorem bD {w w':World} (h:Below w.heap.size w w'):∃ x:ii w,w'=bH w x:=⟨⟨w',h⟩,rfl⟩
@[go_sem] theorem gG (w:World) (x:ii w) (b o:Nat) (h:b < w.heap.size):(bH w x).cell? ⟨b,o,none⟩=w.cell? ⟨b,o,none⟩:=x.below.cell (p:=⟨b,o,none⟩) h
@[go_sem] theorem Na (w:World) (x:ii w) (b o:Nat) (h:b < w.heap.size):(bH w x).frozen? ⟨b,o,none⟩=w.frozen? ⟨b,o,none⟩:=x.below.frozen (p:=⟨b,o,none⟩) h
@[go_sem] theorem VT (w:World) (x:ii w) (b:Nat) (h:b < w.heap.size):b < (bH w x).heap.size:=Nat.lt_of_lt_of_le h x.below.size
@[go_sem] theorem N0 (w:World) (x:ii w) (b k:Nat) (h:b < w.heap.size+k):b < (bH w x).heap.size+k:=by have:=x.below.size;unfold bH;omega
@[go_sem] theorem VU (w:World) (x:ii w) (b:Nat) (h:b≤w.heap.size):b≤(bH w x).heap.size:=Nat.le_trans h x.below.size
@[go_sem] theorem N3 (w:World) (x:ii w) (b k:Nat) (h:b≤w.heap.size+k):b≤(bH w x).heap.size+k:=by have:=x.below.size;unfold bH;omega
def ag (W w:World):Prop:=Below W.heap.size W w
theorem ag.refl (W:World):ag W W:=Below.refl _ _
theorem ag.bH {W w:World} (h:ag W w) (x:ii w):ag W (bH w x):=Below.trans h (x.below.mono h.size)
theorem ag.alloc {W w:World} (h:ag W w) (o:Obj):ag W (w.alloc o):=Below.alloc h h.size o
theorem ag.drew {W w:World} (h:ag W w):ag W w.drew:=Below.drew h
theorem ag.drewN {W w:World} (h:ag W w) (n:Nat):ag W (w.drewN n):=⟨h.os,h.tape,h.output,h.size,h.block⟩
theorem ag.setCell {W w:World} (h:ag W w) (p:Addr) (v:Value) (hp:W.heap.size≤p.block):ag W (w.setCell p v):=Below.setCell h hp v
theorem ag.to {W w:World} (h:ag W w):∃ x:ii W,w=Go.Proofs.YtmflccbnoeaafaaGreat.bH W x:=bD h
theorem ag.trans {W w w':World} (h:ag W w) (h':ag w w'):ag W w':=Below.trans h (Below.mono h' h.size)
section
variable {P : Program}
theorem av {id:Nat} {Q:Exit→Act→World→Prop} {a:Act} {w:World} {l:List Oper} (hm:P.follows .mixedOrders=true) (hB:Region.lexB .any l.toArray=true)
  (h:wpQuiet P l.toArray (fun w'=>∃ x:ii w,w'=bH w x) (fun a'=>∀ w',(∃ x:ii w,w'=bH w x)→Q .normal a' w') l a):(Code.region id l.toArray true).wp P Q a w :=
 wp_region_quiet (C:=fun w'=>∃ x:ii w,w'=bH w x) hm hB (bD (Below.drew (Below.refl _ _))) (by simpa using h)
theorem Calls.bD {f:FuncId} {args:Array Value} {w:World} {x:ii w} {v:Value}
  (h:Calls P f args (bH w x) fun e w'=>e=.returned v∧ag (bH w x) w'):Calls P f args (bH w x) fun e w''=>e=.returned v∧∃ y:ii w,w''=bH w y :=
 h.mono fun _ _ ⟨he,hm⟩=>⟨he,ag.to (((ag.refl w).bH x).trans hm)⟩
theorem Calls.jb {f:FuncId} {args:Array Value} {w:World} {x:ii w} {v:Value}
  (h:Calls P f args (bH w x) fun e w'=>e=.returned v∧bH w x=w'):Calls P f args (bH w x) fun e w''=>e=.returned v∧∃ y:ii w,w''=bH w y :=
 h.mono fun _ _ ⟨he,hm⟩=>⟨he,x,hm.symm⟩
end
theorem cJ {w w1:World} {c:Array Value} {t:TypeId} (h:ag (w.alloc (.cells c t)) w1) :
  (∀ o,w1.cell? ⟨w.heap.size,o,none⟩=c[o]?)∧(∀ o,w1.frozen? ⟨w.heap.size,o,none⟩=false)∧(w.heap.size < w1.heap.size∧w.heap.size≤w1.heap.size∧w.heap.size < w1.heap.size+1∧w.heap.size < w1.heap.size+1+1∧w.heap.size < w1.heap.size+1+1+1∧w.heap.size < w1.heap.size+1+1+1+1)∧(∀ k,w.heap.size≤w1.heap.size+k)∧Hid (ag w w1):=by
 have hz:w.heap.size < w1.heap.size:=by have:=h.size;simp at this;omega
 refine ⟨fun o=>?_,fun o=>?_,⟨hz,by omega,by omega,by omega,by omega,by omega⟩,fun k=>by omega,gH (((ag.refl w).alloc _).trans h)⟩
 ·rw [Below.cell h (p:=⟨w.heap.size,o,none⟩) (by simp)];simp
 ·rw [Below.frozen h (p:=⟨w.heap.size,o,none⟩) (by simp)];exact World.frozen?_alloc_at _ _ _ _ rfl
theorem Kt {w w1:World} {b:Nat} {c:Array Value} (hb:∀ o,w.cell? ⟨b,o,none⟩=c[o]?) (hf:∀ o,w.frozen? ⟨b,o,none⟩=false) (hl:b < w.heap.size) (h:ag w w1) :
  (∀ o,w1.cell? ⟨b,o,none⟩=c[o]?)∧(∀ o,w1.frozen? ⟨b,o,none⟩=false)∧(b < w1.heap.size∧b≤w1.heap.size∧b < w1.heap.size+1∧b < w1.heap.size+1+1∧b < w1.heap.size+1+1+1∧b < w1.heap.size+1+1+1+1)∧(∀ k,b≤w1.heap.size+k):=by
 have hz:b < w1.heap.size:=Nat.lt_of_lt_of_le hl h.size;refine ⟨fun o=>?_,fun o=>?_,⟨hz,by omega,by omega,by omega,by omega,by omega⟩,fun k=>by omega⟩
 ·rw [Below.cell h (p:=⟨b,o,none⟩) hl];exact hb o
 ·rw [Below.frozen h (p:=⟨b,o,none⟩) hl];exact hf o
theorem mE {P:Program} {id:Nat} {Q:Exit→Act→World→Prop} {a:Act} {w:World} {l:List Oper} (n:Nat) (hm:P.follows .mixedOrders=true) (hB:Region.lexTailB .any l.toArray n=true)
  (h:∀ w1,ag w w1→wpStill P l.toArray w1 (fun a'=>wpList P l.toArray Q (l.drop n) a' w1) (l.take n) a):(Code.region id l.toArray true).wp P Q a w :=
 wp_region_still_tail n hm hB (h _ (ag.refl w).drew)
theorem jc {w w1:World} {c d:Array Value} {t u:TypeId} (h:ag ((w.alloc (.cells c t)).alloc (.cells d u)) w1) :
  (∀ o,w1.cell? ⟨w.heap.size,o,none⟩=c[o]?)∧(∀ o,w1.cell? ⟨w.heap.size+1,o,none⟩=d[o]?)∧(w.heap.size < w1.heap.size∧w.heap.size+1 < w1.heap.size)∧Hid (ag w w1):=by
 have hz:w.heap.size+1 < w1.heap.size:=by have:=h.size;simp at this;omega
 refine ⟨fun o=>?_,fun o=>?_,⟨by omega,hz⟩,gH ((((ag.refl w).alloc _).alloc _).trans h)⟩
 ·rw [Below.cell h (p:=⟨w.heap.size,o,none⟩) (by simp;omega),World.cell?_alloc_past _ _ _ (by simp)];simp
 ·rw [Below.cell h (p:=⟨w.heap.size+1,o,none⟩) (by simp),World.cell?_alloc_at _ _ _ _ (by simp)]
theorem eD {v v':Value} (h:v=v'):Ending.returned v=.returned v':=by rw [h]
theorem dF {b b':Bool} (h:b=b'):Value.bool b=.bool b':=by rw [h]
end Go.Proofs.YtmflccbnoeaafaaGreat
namespace Go.Proofs.YtmflccbnoeaafaaGreat
open Go.ChangeShapes Go.WideShapes Go.RowKit Go.Deep
set_option maxRecDepth 100000
set_option linter.unusedVariables false
set_option maxHeartbeats 64000000
def Small (n:Nat):Prop:=n≤140737488351232
theorem Small.max {n:Nat} (h:Small n):n≤maxLen:=by unfold Small at h;unfold maxLen;omega
def Lt {H:Type} (P:Program) (t:TypeId) (d:DataW H):Prop:=∀ n∈d.weights P t,n≤140737488351232
section
variable {H : Type} {enc : TypeId × Value → H} {P : Program} {w : World}
theorem rP:∀ {ts:List TypeId} {ds:List (DataW H)} {i:Nat} {t:TypeId} {d:DataW H},ts[i]? = some t→ds[i]? = some d→∀ n∈d.weights P t,n∈DataW.weightsEach P ts ds :=
 fun ht hd n hn=>DataW.weights_mem_each ht hd n hn
theorem mF {e:TypeId}:∀ {ds:List (DataW H)} {d:DataW H},d∈ds→∀ n∈d.weights P e,n∈DataW.weightsAll P e ds
 | x::r,d,h,n,hn=>by
  simp only [DataW.weightsAll,List.mem_append]
  rcases List.mem_cons.1 h with rfl | h
  ·exact .inl hn
  ·exact .inr (mF h n hn)
theorem GD {t:TypeId} {fs:Array Field} (ht:P.underlying t=some (.struct fs)) {xs:List (DataW H × List MemPlace)} (h:Lt P t (.agg (xs.map (·.1)):DataW H)) {i:Nat} {f:Field} (hf:fs[i]? = some f) {x:DataW H × List MemPlace} (hx:xs[i]? = some x):Lt P f.type x.1:=by
 intro n hn;refine h n ?_;simp only [DataW.weights,ht];refine rP (i:=i) (t:=f.type) (d:=x.1) ?_ ?_ n hn
 ·simp [hf]
 ·simp [hx]
def Rd (enc:TypeId × Value→H) (P:Program) (w:World) (t:TypeId) (cs:List Value):Prop :=
 ∃ (fuel:Nat) (x:DataW H × List MemPlace),DataW.trod enc P w 0 (fun _=>true) true fuel t cs=some x∧Lt P t x.1
theorem Rd.struct {t:TypeId} {fs:Array Field} {cs:List Value} (ht:P.underlying t=some (.struct fs)) (h:Rd enc P w t cs) :
  cs.length=P.cellsOf t∧∀ (i:Nat) (f:Field),fs[i]? = some f→Rd enc P w f.type ((cs.drop f.offset).take (P.cellsOf f.type)):=by
 obtain ⟨fuel,x,hx,hl⟩:=h;obtain ⟨xs,n,_,rfl,hlen,hsz,hf⟩:=DataW.trod_struct ht hx;refine ⟨hlen,fun i f hi=>?_⟩;have h1:=hf i f hi
 have hlt:i < xs.length:=by rw [hsz];exact (Array.getElem?_eq_some_iff.1 hi).1
 have Yx:xs[i]? = some xs[i]:=List.getElem?_eq_getElem hlt;exact ⟨n,xs[i],h1.trans Yx,GD ht hl hi Yx⟩
theorem Rd.field {t:TypeId} {fs:Array Field} {cs:List Value} (h:Rd enc P w t cs) (ht:P.underlying t=some (.struct fs)) (i:Nat) (ft off k:Nat) (hf:(fs[i]?).map (fun f=>(f.type,f.offset))=some (ft,off)) (hk:P.cellsOf ft=k) :
  Rd enc P w ft ((cs.drop off).take k):=by
 obtain ⟨_,h2⟩:=h.struct ht
 cases hq:fs[i]? with
 | none=>rw [hq] at hf;cases hf
 | some f =>
  rw [hq] at hf;simp only [Option.map_some,Option.some.injEq,Prod.mk.injEq] at hf;have:=h2 i f hq;rw [hf.1,hf.2,hk] at this;exact this
theorem Rd.string {t:TypeId} {cs:List Value} (ht:P.underlying t=some .string) (h:Rd enc P w t cs):∃ s:ByteArray,cs=[.string s]∧Small s.size:=by
 obtain ⟨fuel,x,hx,hl⟩:=h;obtain ⟨s,rfl,rfl,_⟩:=DataW.trod_string ht hx;refine ⟨s,rfl,?_⟩;have:=hl s.data.toList.length (by simp [DataW.weights])
 simpa [Small] using this
theorem Rd.int {t:TypeId} {k:IntKind} {cs:List Value} (ht:P.underlying t=some (.int k)) (h:Rd enc P w t cs):∃ n:Int,cs=[.int k n]∧(Lit.int k n).wf=true:=by
 obtain ⟨fuel,x,hx,hl⟩:=h;obtain ⟨n,rfl,_,hw⟩:=DataW.trod_int ht hx;exact ⟨n,rfl,hw⟩
theorem Rd.bool {t:TypeId} {cs:List Value} (ht:P.underlying t=some .bool) (h:Rd enc P w t cs):∃ b:Bool,cs=[.bool b]:=by
 obtain ⟨fuel,x,hx,hl⟩:=h;obtain ⟨b,rfl,_⟩:=DataW.trod_bool ht hx;exact ⟨b,rfl⟩
def aL {α:Type} (w:World) (size:Nat) (R:World→List Value→α→Prop) (A:Option Addr) (cap:Nat) (l:List α):Prop :=
 l.length≤cap∧Small (l.length*16)∧∀ i (h:i < l.length),∃ b off cs,A=some ⟨b,off,none⟩∧b < w.heap.size∧cs.length=size∧R w cs l[i]∧∀ j,j < size→w.cell? ⟨b,off+(i*size+j),none⟩=cs[j]?
def xW {α:Type} (w:World) (size:Nat) (R:World→List Value→α→Prop) (cs:List Value) (l:List α):Prop :=
 ∃ A cap,cs=[.slice A l.length cap]∧aL w size R A cap l
theorem gR {α:Type} {size:Nat} {R:World→List Value→α→Prop}:aL w size R none 0 ([]:List α) :=
 ⟨Nat.le_refl _,Nat.zero_le _,fun i h=>absurd h (by simp)⟩
theorem aL.az {α:Type} {size:Nat} {R:World→List Value→α→Prop} {A:Option Addr} {cap:Nat} {l:List α} {w':World} (h:aL w size R A cap l) (hw:ag w w') (hR:∀ cs x,R w cs x→R w' cs x):aL w' size R A cap l :=
 ⟨h.1,h.2.1,fun i hi=>by
  obtain ⟨b,off,cs,hA,hb,hl,hr,hc⟩:=h.2.2 i hi
  exact ⟨b,off,cs,hA,Nat.lt_of_lt_of_le hb hw.size,hl,hR _ _ hr,fun j hj=>(Below.cell hw (p:=⟨b,off+(i*size+j),none⟩) hb).trans (hc j hj)⟩⟩
theorem kz {α:Type} (n:Nat) (p:Nat→α→Prop) (h:∀ i,i < n→∃ x,p i x):∃ l:List α,l.length=n∧∀ i (hi:i < l.length),p i l[i]:=by
 induction n with
 | zero=>exact ⟨[],rfl,fun i hi=>absurd hi (by simp)⟩
 | succ n ih =>
  obtain ⟨l,hl,hp⟩:=ih fun i hi=>h i (by omega)
  obtain ⟨x,hx⟩:=h n (by omega);refine ⟨l++[x],by simp [hl],fun i hi=>?_⟩;by_cases mb:i < l.length
  ·rw [List.getElem_append_left mb];exact hp i mb
  ·have:i=l.length:=by simp at hi;omega
   subst this;simp only [List.getElem_append_right (Nat.le_refl _),Nat.sub_self,List.getElem_cons_zero];rw [hl];exact hx
theorem Rd.slice {α:Type} {t e:TypeId} {cs:List Value} {size:Nat} {R:World→List Value→α→Prop} (ht:P.underlying t=some (.slice e)) (hs:P.cellsOf e=size) (AC:0 < size) (hby:16≤P.bytesOf e)
  (hR:∀ cs,Rd enc P w e cs→∃ x,R w cs x) (h:Rd enc P w t cs):∃ l:List α,xW w size R cs l:=by
 obtain ⟨fuel,x,hx,hl⟩:=h;have hlt:=DataW.trod_lt fuel t cs x hx
 rcases open_slice ht hx with ⟨rfl,_⟩ | ⟨a,len,cap,m,n,D,Pl,rfl,_,hlc,hcm,hm,rfl,hi⟩
 ·exact ⟨[],none,0,rfl,gR⟩
 ·simp only [if_true] at hm
  subst hm
  have iu:Small (m*16):=by
   have h1:=hl (((List.range len).map D).length+((List.range (m - len)).map fun j=>D (len+j)).length |> (·*P.bytesOf e)) (by simp [DataW.weights,ht]);simp only [List.length_map,List.length_range] at h1
   have h2:len+(m - len)=m:=by omega
   rw [h2] at h1;exact Nat.le_trans (Nat.mul_le_mul_left _ hby) h1
  have hspot:0 < len→a.spot=none:=by
   intro h0;obtain ⟨cs',hc,_⟩:=hi 0 (by omega);rw [hs] at hc;obtain ⟨_,nu,hat⟩:=World.cells?_some hc;have h1:=hat 0 AC
   have h2:w.cell? ((a.add (0*size)).add 0)=some (cs'[0]'(by omega)):=by rw [h1];exact List.getElem?_eq_getElem (by omega)
   have h3:=World.cell?_spot h2
   simpa [Addr.add] using h3
  have hel:∀ i,i < len→∃ x:α,∃ b off cs,some a=some ⟨b,off,none⟩∧b < w.heap.size∧cs.length=size∧R w cs x∧∀ j,j < size→w.cell? ⟨b,off+(i*size+j),none⟩=cs[j]? := by
   intro i N4;obtain ⟨cs',hc,htr⟩:=hi i (by omega);rw [hs] at hc;obtain ⟨_,nu,hat⟩:=World.cells?_some hc
   have Av:Rd enc P w e cs':=by
    refine ⟨n,_,htr,fun k hk=>hl k ?_⟩;simp only [DataW.weights,ht,List.mem_cons,List.mem_append];exact .inr (.inl (mF (d:=D i) (List.mem_map.2 ⟨i,List.mem_range.2 N4,rfl⟩) k hk))
   obtain ⟨y,hy⟩:=hR cs' Av;have hsp:=hspot (by omega);obtain ⟨b,off,spot⟩:=a;simp only at hsp;subst hsp
   have hb:b < w.heap.size:=hlt (.cell b off) (by
    simp only [List.mem_append]
    left
    rw [hs];have N5:0 < m*size:=Nat.mul_pos (by omega) AC;simp only [MemPlace.row]
    exact List.mem_map.2 ⟨0,List.mem_range.2 N5,by simp⟩)
   refine ⟨y,b,off,cs',rfl,hb,nu,hy,fun j hj=>?_⟩;have h1:=hat j hj;rw [← h1,Go.Deep.add_add]
   have:(Addr.mk b off none).add (i*size+j)=⟨b,off+(i*size+j),none⟩:=by
    unfold Addr.add;split
    ·rename_i h0;rw [h0];rfl
    ·rfl
   rw [this]
  obtain ⟨l,rQ,hp⟩:=kz len _ hel;subst rQ;exact ⟨l,some a,m,rfl,hlc,Nat.le_trans (Nat.mul_le_mul_right _ hlc) iu,hp⟩
end
end Go.Proofs.YtmflccbnoeaafaaGreat
namespace Go.Proofs.YtmflccbnoeaafaaGreat
open Go.RowKit
set_option maxRecDepth 100000
set_option linter.unusedVariables false
set_option maxHeartbeats 64000000
structure fc where
 name:ByteArray
 kind:Int
 null:Bool
structure gi where
 name:ByteArray
 kind:Int
 ak:List ByteArray
 low:Int
 high:Int
 aa:ByteArray
 table:ByteArray
 key:ByteArray
structure cu where
 aa:ByteArray
 name:ByteArray
 owner:ByteArray
 ak:List fc
 rules:List gi
structure gj where
 name:ByteArray
 owner:ByteArray
structure bE where
 ae:List gj
 tables:List cu
def bk (a b:ByteArray):Bool:=a.toList==b.toList
def dK (_:World) (cs:List Value) (s:ByteArray):Prop:=cs=[.string s]∧Small s.size
def iv (_:World) (cs:List Value) (c:fc):Prop:=cs=[.string c.name,.int .i64 c.kind,.bool c.null]∧Small c.name.size
def fk (_:World) (cs:List Value) (s:gj):Prop:=cs=[.string s.name,.string s.owner]∧Small s.name.size∧Small s.owner.size
def gI (w:World) (cs:List Value) (r:gi):Prop :=
 ∃ A cap,cs=[.string r.name,.int .i64 r.kind,.slice A r.ak.length cap,.int .i64 r.low,.int .i64 r.high,.string r.aa,.string r.table,.string r.key] ∧
  aL w 1 dK A cap r.ak∧Small r.name.size∧Small r.aa.size∧Small r.table.size∧Small r.key.size
def dA (w:World) (cs:List Value) (t:cu):Prop :=
 ∃ A cap A2 bT,cs=[.string t.aa,.string t.name,.string t.owner,.slice A t.ak.length cap,.slice A2 t.rules.length bT] ∧
  aL w 3 iv A cap t.ak∧aL w 8 gI A2 bT t.rules∧Small t.aa.size∧Small t.name.size∧Small t.owner.size
def VV (w:World) (cs:List Value) (o:bE):Prop :=
 ∃ A cap A2 bT,cs=[.slice A o.ae.length cap,.slice A2 o.tables.length bT]∧aL w 2 fk A cap o.ae∧aL w 5 dA A2 bT o.tables
section
variable {w w' : World}
theorem aM {A:Option Addr} {cap:Nat} {l:List ByteArray} (hw:ag w w') (h:aL w 1 dK A cap l):aL w' 1 dK A cap l:=h.az hw fun _ _ h=>h
theorem cy {A:Option Addr} {cap:Nat} {l:List fc} (hw:ag w w') (h:aL w 3 iv A cap l):aL w' 3 iv A cap l:=h.az hw fun _ _ h=>h
theorem bm {A:Option Addr} {cap:Nat} {l:List gj} (hw:ag w w') (h:aL w 2 fk A cap l):aL w' 2 fk A cap l:=h.az hw fun _ _ h=>h
theorem gI.az {cs:List Value} {r:gi} (hw:ag w w') (h:gI w cs r):gI w' cs r:=by
 obtain ⟨A,cap,e,hs,h1⟩:=h;exact ⟨A,cap,e,aM hw hs,h1⟩
theorem ee {A:Option Addr} {cap:Nat} {l:List gi} (hw:ag w w') (h:aL w 8 gI A cap l):aL w' 8 gI A cap l:=h.az hw fun _ _ h=>gI.az hw h
theorem dA.az {cs:List Value} {r:cu} (hw:ag w w') (h:dA w cs r):dA w' cs r:=by
 obtain ⟨A,cap,A2,bT,e,hs,hr,h1⟩:=h;exact ⟨A,cap,A2,bT,e,cy hw hs,ee hw hr,h1⟩
theorem aQ {A:Option Addr} {cap:Nat} {l:List cu} (hw:ag w w') (h:aL w 5 dA A cap l):aL w' 5 dA A cap l:=h.az hw fun _ _ h=>dA.az hw h
theorem gw {A:Option Addr} {cap:Nat} {l:List ByteArray} (h:aL w 1 dK A cap l) {k:Nat} (hk:k < l.length) :
  ∃ b off,A=some ⟨b,off,none⟩∧b < w.heap.size∧w.cell? ⟨b,off+k,none⟩=some (.string l[k])∧Small l[k].size:=by
 obtain ⟨b,off,cs,hA,hb,hl,⟨rfl,hs⟩,hc⟩:=h.2.2 k hk;refine ⟨b,off,hA,hb,?_,hs⟩;have:=hc 0 (by omega)
 simpa using this
theorem wm {A:Option Addr} {cap:Nat} {l:List fc} (h:aL w 3 iv A cap l) {k:Nat} (hk:k < l.length) :
  ∃ b off,A=some ⟨b,off,none⟩∧b < w.heap.size∧w.cell? ⟨b,off+k*3,none⟩=some (.string l[k].name)∧w.cell? ⟨b,off+k*3+1,none⟩=some (.int .i64 l[k].kind)∧w.cell? ⟨b,off+k*3+2,none⟩=some (.bool l[k].null)∧Small l[k].name.size:=by
 obtain ⟨b,off,cs,hA,hb,hl,⟨rfl,hs⟩,hc⟩:=h.2.2 k hk;exact ⟨b,off,hA,hb,by simpa using hc 0 (by omega),by simpa [Nat.add_assoc] using hc 1 (by omega),by simpa [Nat.add_assoc] using hc 2 (by omega),hs⟩
theorem oC {A:Option Addr} {cap:Nat} {l:List gj} (h:aL w 2 fk A cap l) {k:Nat} (hk:k < l.length) :
  ∃ b off,A=some ⟨b,off,none⟩∧b < w.heap.size∧w.cell? ⟨b,off+k*2,none⟩=some (.string l[k].name)∧w.cell? ⟨b,off+k*2+1,none⟩=some (.string l[k].owner)∧Small l[k].name.size∧Small l[k].owner.size:=by
 obtain ⟨b,off,cs,hA,hb,hl,⟨rfl,hs,hs2⟩,hc⟩:=h.2.2 k hk;exact ⟨b,off,hA,hb,by simpa using hc 0 (by omega),by simpa [Nat.add_assoc] using hc 1 (by omega),hs,hs2⟩
theorem oD {A:Option Addr} {cap:Nat} {l:List gi} (h:aL w 8 gI A cap l) {k:Nat} (hk:k < l.length) :
  ∃ b off A2 bT,A=some ⟨b,off,none⟩∧b < w.heap.size∧w.cell? ⟨b,off+k*8,none⟩=some (.string l[k].name)∧w.cell? ⟨b,off+k*8+1,none⟩=some (.int .i64 l[k].kind)∧w.cell? ⟨b,off+k*8+2,none⟩=some (.slice A2 l[k].ak.length bT) ∧
   w.cell? ⟨b,off+k*8+3,none⟩=some (.int .i64 l[k].low)∧w.cell? ⟨b,off+k*8+4,none⟩=some (.int .i64 l[k].high)∧w.cell? ⟨b,off+k*8+5,none⟩=some (.string l[k].aa)∧w.cell? ⟨b,off+k*8+6,none⟩=some (.string l[k].table)∧w.cell? ⟨b,off+k*8+7,none⟩=some (.string l[k].key) ∧
   aL w 1 dK A2 bT l[k].ak∧Small l[k].name.size∧Small l[k].aa.size∧Small l[k].table.size∧Small l[k].key.size:=by
 obtain ⟨b,off,cs,hA,hb,hl,⟨A2,bT,rfl,hr⟩,hc⟩:=h.2.2 k hk
 exact ⟨b,off,A2,bT,hA,hb,by simpa using hc 0 (by omega),by simpa [Nat.add_assoc] using hc 1 (by omega),by simpa [Nat.add_assoc] using hc 2 (by omega),by simpa [Nat.add_assoc] using hc 3 (by omega),by simpa [Nat.add_assoc] using hc 4 (by omega),
  by simpa [Nat.add_assoc] using hc 5 (by omega),by simpa [Nat.add_assoc] using hc 6 (by omega),by simpa [Nat.add_assoc] using hc 7 (by omega),hr⟩
theorem jt {A:Option Addr} {cap:Nat} {l:List cu} (h:aL w 5 dA A cap l) {k:Nat} (hk:k < l.length) :
  ∃ b off A2 bT A3 fA,A=some ⟨b,off,none⟩∧b < w.heap.size∧w.cell? ⟨b,off+k*5,none⟩=some (.string l[k].aa)∧w.cell? ⟨b,off+k*5+1,none⟩=some (.string l[k].name)∧w.cell? ⟨b,off+k*5+2,none⟩=some (.string l[k].owner) ∧
   w.cell? ⟨b,off+k*5+3,none⟩=some (.slice A2 l[k].ak.length bT)∧w.cell? ⟨b,off+k*5+4,none⟩=some (.slice A3 l[k].rules.length fA) ∧
   aL w 3 iv A2 bT l[k].ak∧aL w 8 gI A3 fA l[k].rules∧Small l[k].aa.size∧Small l[k].name.size∧Small l[k].owner.size:=by
 obtain ⟨b,off,cs,hA,hb,hl,⟨A2,bT,A3,fA,rfl,hr⟩,hc⟩:=h.2.2 k hk;exact ⟨b,off,A2,bT,A3,fA,hA,hb,by simpa using hc 0 (by omega),by simpa [Nat.add_assoc] using hc 1 (by omega),by simpa [Nat.add_assoc] using hc 2 (by omega),by simpa [Nat.add_assoc] using hc 3 (by omega),by simpa [Nat.add_assoc] using hc 4 (by omega),hr⟩
theorem aL.len {α:Type} {size:Nat} {R:World→List Value→α→Prop} {A:Option Addr} {cap:Nat} {l:List α} (h:aL w size R A cap l):l.length*16≤140737488351232:=h.2.1
end
def bK {α:Type} (p:α→Bool):List α→Int
 | [] => -1
 | x::l=>if p x then 0 else if bK p l < 0 then -1 else bK p l+1
theorem gJ {α:Type} (p:α→Bool) (l:List α) (h:∀ i (hi:i < l.length),p l[i]=false):bK p l = -1:=by
 induction l with
 | nil=>rfl
 | cons x l ih =>
  have h0:=h 0 (by simp)
  have ih:=ih fun i hi=>h (i+1) (Nat.succ_lt_succ hi)
  simp at h0;simp [bK,h0,ih]
theorem fR {α:Type} (p:α→Bool) (l:List α) (k:Nat) (hk:k < l.length) (hp:p l[k]=true) (h:∀ i (hi:i < k),p (l[i]'(by omega))=false):bK p l=k:=by
 induction l generalizing k with
 | nil=>simp at hk
 | cons x l ih =>
  cases k with
  | zero=>simp at hp;simp [bK,hp]
  | succ k =>
   have h0:=h 0 (by omega);simp at h0 hp
   have:=ih k (by simpa using hk) hp fun i hi=>h (i+1) (by omega)
   simp [bK,h0,this];omega
theorem bg {α:Type} (p:α→Bool) (l:List α) : -1≤bK p l∧bK p l < l.length:=by
 induction l with
 | nil=>simp [bK]
 | cons x l ih=>simp only [bK,List.length_cons];(repeat' split)<;>omega
theorem bu {w w':World} {base size n:Nat} {e:TypeId} {v:Value} {xs:List Value} (h:w.ownsRow base e size v n xs) (hw:ag w w'):w'.ownsRow base e size v n xs:=by
 refine ⟨h.1,?_⟩
 rcases h.2 with hn | ⟨g,cap,cur,rfl,hb,nv,rest⟩
 ·exact .inl hn
 ·have hlt:g < w.heap.size:=(Array.getElem?_eq_some_iff.1 nv).1
  exact .inr ⟨g,cap,cur,rfl,hb,(hw.block g hlt).trans nv,rest⟩
theorem Ep {w:World} {base size n:Nat} {e:TypeId} {v:Value} {xs:List Value} (h:w.ownsRow base e size v n xs):∀ g,v.ownBlock=some g→base≤g:=by
 intro g hg
 rcases h.2 with ⟨rfl,_⟩ | ⟨g',cap,cur,rfl,hb,_⟩
 ·simp [Value.ownBlock] at hg
 ·have:g'=g:=by simpa [Value.ownBlock] using hg
  omega
theorem Er {W w w':World} {size n:Nat} {e:TypeId} {v:Value} {xs:List Value} (h:w.ownsRow W.heap.size e size v n xs) (hW:ag W w) (hg:w.grownBy w' v.ownBlock):ag W w':=by
 refine ⟨hg.os.trans hW.os,hg.tape.trans hW.tape,hg.output.trans hW.output,Nat.le_trans hW.size hg.size,fun k hk=>?_⟩;have hlt:k < w.heap.size:=Nat.lt_of_lt_of_le hk hW.size;refine (hg.block k hlt ?_).trans (hW.block k hk);intro he;have:=Ep h k he.symm;omega
theorem dl (w:World) (base:Nat) (e:TypeId) (size:Nat):w.ownsRow base e size (.slice none 0 0) 0 []:=⟨by simp,.inl ⟨rfl,rfl⟩⟩
theorem jd {α:Type} (f:α→List Value) (size:Nat) (hf:∀ x,(f x).length=size):∀ (l:List α) (i j:Nat) (hi:i < l.length),j < size→(l.flatMap f)[i*size+j]? = (f l[i])[j]?
 | x::l,0,j,_,hj=>by
  rw [List.flatMap_cons,Nat.zero_mul,Nat.zero_add,List.getElem?_append_left (by rw [hf];exact hj)];rfl
 | x::l,i+1,j,hi,hj=>by
  have e:(i+1)*size+j=size+(i*size+j):=by rw [Nat.succ_mul];omega
  rw [List.flatMap_cons,e,List.getElem?_append_right (by rw [hf];omega),hf,Nat.add_sub_cancel_left];exact jd f size hf l i j (by simpa using hi) hj
theorem GF {α:Type} {w:World} {base size:Nat} {e:TypeId} {v:Value} {l:List α} (f:α→List Value) (R:World→List Value→α→Prop) (hf:∀ x,(f x).length=size) (h:w.ownsRow base e size v l.length (l.flatMap f)) (hR:∀ x∈l,R w (f x) x)
  (hs:Small (l.length*16)):∃ A cap,v=.slice A l.length cap∧aL w size R A cap l:=by
 rcases h.2 with ⟨rfl,hn⟩ | ⟨g,cap,cur,rfl,hb,nv,mo,_,hcs,Ax⟩
 ·have:l=[]:=List.eq_nil_of_length_eq_zero hn
  subst this;exact ⟨none,0,rfl,gR⟩
 ·have hlt:g < w.heap.size:=(Array.getElem?_eq_some_iff.1 nv).1
  refine ⟨some ⟨g,0,none⟩,cap,rfl,mo,hs,fun i hi=>⟨g,0,f l[i],rfl,hlt,hf _,hR _ (List.getElem_mem hi),fun j hj=>?_⟩⟩;rw [← jd f size hf l i j hi hj,← Ax]
  have jF:i*size+j < l.length*size:=by
   have:(i+1)*size≤l.length*size:=Nat.mul_le_mul_right _ hi;rw [Nat.succ_mul] at this;omega
  rw [List.getElem?_take_of_lt jF];simp [World.cell?,nv]
theorem dv {fn:Func} {a:Tmp} {t:TypeId} (h:fn.results=#[.cell a t]) (tmps:Array Value) {P:Program} {w:World} {p:Addr} {v:Value} (ha:tmps.getD a undef=.pointer (some p)) (hl:(loadVar t p).run P w=.ok v w) :
  (results fn tmps).run P w=.ok v w:=by
 rw [Array.getD_eq_getD_getElem?] at ha;simp [results,h,ha,asAddr,hl]
theorem results_cell_tmp {fn:Func} {a u:Tmp} {t:TypeId} (h:fn.results=#[.cell a t,.tmp u]) (tmps:Array Value) {P:Program} {w:World} {p:Addr} {v:Value} (ha:tmps.getD a undef=.pointer (some p)) (hl:(loadVar t p).run P w=.ok v w) :
  (results fn tmps).run P w=.ok (.tuple #[v,tmps.getD u undef]) w:=by
 rw [Array.getD_eq_getD_getElem?] at ha;simp [results,h,ha,asAddr,hl]
theorem xX {α:Type} {size:Nat} {R:World→List Value→α→Prop} {w:World} {b cap:Nat} (x:α) (cs:List Value) (c:Array Value) (hb:b < w.heap.size) (hc:∀ o,w.cell? ⟨b,o,none⟩=c[o]?) (e:c.toList=cs) (hf:cs.length=size)
  (hR:R w cs x) (iu:1≤cap):aL w size R (some ⟨b,0,none⟩) cap [x] :=
 ⟨iu,by simp [Small],fun i hi=>by
  have:i=0:=by simpa using hi
  subst this
  exact ⟨b,0,cs,rfl,hb,hf,hR,fun j hj=>by rw [← e,hc];simp⟩⟩
theorem ag.cell_kept {w w':World} (h:ag w w') {a:Addr} {v:Value} (hc:w.cell? a=some v):w'.cell? a=some v:=(Below.cell h (World.block_lt_of_cell? w a hc)).trans hc
def ap (w:World) (g:Nat) (xs:List Value):Prop:=g < w.heap.size∧(∀ j,j < xs.length→w.cell? ⟨g,j,none⟩=xs[j]?)∧∀ j,j < xs.length→w.frozen? ⟨g,j,none⟩=false
theorem ap.az {w w':World} {g:Nat} {xs:List Value} (h:ap w g xs) (a:ag w w'):ap w' g xs :=
 ⟨Nat.lt_of_lt_of_le h.1 a.size,fun j hj=>(Below.cell a (p:=⟨g,j,none⟩) h.1).trans (h.2.1 j hj),fun j hj=>(Below.frozen a (p:=⟨g,j,none⟩) h.1).trans (h.2.2 j hj)⟩
theorem ap.cell {w:World} {g:Nat} {xs:List Value} (h:ap w g xs) {j:Nat} {v:Value} (hj:xs[j]? = some v):w.cell? ⟨g,j,none⟩=some v :=
 (h.2.1 j (List.getElem?_eq_some_iff.1 hj).1).trans hj
theorem ap.set {w:World} {g:Nat} {xs:List Value} (h:ap w g xs) (j:Nat) (v:Value) (hj:j < xs.length):ap (w.setCell ⟨g,j,none⟩ v) g (xs.set j v):=by
 have hc:w.cell? ⟨g,j,none⟩=some xs[j]:=(h.2.1 j hj).trans (List.getElem?_eq_getElem hj);refine ⟨by simpa using h.1,fun k hk=>?_,fun k hk=>?_⟩
 ·rw [List.length_set] at hk
  by_cases e:k=j
  ·subst e
   rw [World.cell?_setCell_same (h:=hc),List.getElem?_set_self hj]
  ·rw [World.cell?_setCell_other (h:=by intro e2;injection e2 with _ e3 _;exact e e3.symm),List.getElem?_set_ne (fun e2=>e e2.symm)]
   exact h.2.1 k hk
 ·rw [List.length_set] at hk
  rw [World.frozen?_setCell];exact h.2.2 k hk
def Sh (w:World) (base:Nat) (v:Value) (n:Nat) (xs:List Value):Prop:=∃ A cap,v=.slice A n cap∧n≤cap∧(0 < n→∃ g,A=some ⟨g,0,none⟩∧base≤g∧ap w g xs)
theorem xY {w:World} {base size n:Nat} {e:TypeId} {v:Value} {xs:List Value} (h:w.ownsRow base e size v n xs):Sh w base v n xs:=by
 rcases h.2 with ⟨rfl,hn⟩ | ⟨g,cap,cur,rfl,hb,nv,mo,_,hcs,Ax⟩
 ·exact ⟨none,0,by rw [hn],by omega,fun h0=>by omega⟩
 ·refine ⟨_,cap,rfl,mo,fun _=>⟨g,rfl,hb,(Array.getElem?_eq_some_iff.1 nv).1,fun j hj=>?_,fun j _=>?_⟩⟩
  ·rw [h.1] at hj
   rw [← Ax,List.getElem?_take_of_lt hj];simp [World.cell?,nv]
  ·simp [World.frozen?,nv]
section
variable {α : Type} {size : Nat} {R : World → List Value → α → Prop} {w w' : World}
theorem sH:∀ (cI:List (List Value)),(∀ c∈cI,c.length=size)→cI.flatten.length=cI.length*size
 | [],_=>by simp
 | c::cI,h=>by
  rw [List.flatten_cons,List.length_append,h c (by simp),sH cI fun x hx=>h x (by simp [hx]),List.length_cons,Nat.succ_mul];omega
theorem py:∀ (cI:List (List Value)),(∀ c∈cI,c.length=size)→∀ i j (hi:i < cI.length),j < size→cI.flatten[i*size+j]? = cI[i][j]?
 | [],_,i,j,hi,_=>by simp at hi
 | c::cI,h,0,j,_,hj=>by
  rw [List.flatten_cons,Nat.zero_mul,Nat.zero_add,List.getElem?_append_left (by rw [h c (by simp)];exact hj)];rfl
 | c::cI,h,i+1,j,hi,hj=>by
  have e:(i+1)*size+j=size+(i*size+j):=by rw [Nat.succ_mul];omega
  rw [List.flatten_cons,e,List.getElem?_append_right (by rw [h c (by simp)];omega),h c (by simp),Nat.add_sub_cancel_left];exact py cI (fun x hx=>h x (by simp [hx])) i j (by simpa using hi) hj
theorem xZ:∀ (cI:List (List Value)),(∀ c∈cI,c.length=size)→∀ i j (hi:i < cI.length) (v:Value),j < size→cI.flatten.set (i*size+j) v=(cI.set i (cI[i].set j v)).flatten
 | [],_,i,j,hi,_,_=>by simp at hi
 | c::cI,h,0,j,_,v,hj=>by
  rw [List.flatten_cons,Nat.zero_mul,Nat.zero_add,List.set_append_left _ _ (by rw [h c (by simp)];exact hj)];rfl
 | c::cI,h,i+1,j,hi,v,hj=>by
  have e:(i+1)*size+j=size+(i*size+j):=by rw [Nat.succ_mul];omega
  rw [List.flatten_cons,e,List.set_append_right _ _ (by rw [h c (by simp)];omega),h c (by simp),Nat.add_sub_cancel_left,xZ cI (fun x hx=>h x (by simp [hx])) i j (by simpa using hi) v hj];rfl
def cF (w:World) (size:Nat) (R:World→List Value→α→Prop) (cI:List (List Value)) (l:List α):Prop:=cI.length=l.length∧∀ i (h:i < cI.length) (h':i < l.length),cI[i].length=size∧R w cI[i] l[i]
theorem cF.all {cI:List (List Value)} {l:List α} (h:cF w size R cI l):∀ c∈cI,c.length=size:=by
 intro c hc;obtain ⟨i,hi,rfl⟩:=List.getElem_of_mem hc;exact (h.2 i hi (by rw [← h.1];exact hi)).1
theorem cF.len {cI:List (List Value)} {l:List α} (h:cF w size R cI l):cI.flatten.length=l.length*size:=by rw [sH cI h.all,h.1]
theorem cF.nil:cF w size R [] ([]:List α):=⟨rfl,fun i h=>by simp at h⟩
theorem aL.cI {A:Option Addr} {cap:Nat} {l:List α} (h:aL w size R A cap l) (h0:0 < l.length) (hs:0 < size) :
  ∃ b off cI,A=some ⟨b,off,none⟩∧b < w.heap.size∧cF w size R cI l∧∀ p,p < l.length*size→w.cell? ⟨b,off+p,none⟩=cI.flatten[p]? := by
 obtain ⟨b,off,cs0,hA,hb,_⟩:=h.2.2 0 h0
 have hex:∀ i,i < l.length→∃ cs:List Value,∀ hi:i < l.length,cs.length=size∧R w cs l[i]∧∀ j,j < size→w.cell? ⟨b,off+(i*size+j),none⟩=cs[j]? := by
  intro i hi;obtain ⟨b',off',cs,hA',hb',hl,hR,hc⟩:=h.2.2 i hi;rw [hA] at hA';simp only [Option.some.injEq,Addr.mk.injEq,and_true] at hA';obtain ⟨rfl,rfl⟩:=hA';exact ⟨cs,fun _=>⟨hl,hR,hc⟩⟩
 obtain ⟨cI,nu,hp⟩:=kz l.length _ hex;have hch:cF w size R cI l:=⟨nu,fun i h1 h2=>⟨(hp i h1 h2).1,(hp i h1 h2).2.1⟩⟩;refine ⟨b,off,cI,hA,hb,hch,fun p hpl=>?_⟩
 have e:p=p / size*size+p % size:=by rw [Nat.mul_comm];exact (Nat.div_add_mod p size).symm
 have hi:p / size < l.length:=Nat.div_lt_of_lt_mul (by rw [Nat.mul_comm];exact hpl);have hj:p % size < size:=Nat.mod_lt _ hs;have h1:=(hp (p / size) (by rw [nu];exact hi) hi).2.2 (p % size) hj;rw [← e] at h1;rw [h1,← py cI hch.all (p / size) (p % size) (by rw [nu];exact hi) hj,← e]
theorem GG {g cap:Nat} {cI:List (List Value)} {l:List α} (hr:ap w g cI.flatten) (hc:cF w size R cI l) (iu:l.length≤cap) (hs:Small (l.length*16)):aL w size R (some ⟨g,0,none⟩) cap l:=by
 refine ⟨iu,hs,fun i hi=>?_⟩
 have hi':i < cI.length:=by rw [hc.1];exact hi
 refine ⟨g,0,cI[i],rfl,hr.1,(hc.2 i hi' hi).1,(hc.2 i hi' hi).2,fun j hj=>?_⟩;rw [Nat.zero_add,← py cI hc.all i j hi' hj];refine hr.2.1 _ ?_;rw [hc.len];have:(i+1)*size≤l.length*size:=Nat.mul_le_mul_right _ hi;rw [Nat.succ_mul] at this;omega
theorem Eu {base:Nat} {v:Value} {cI:List (List Value)} {l:List α} (h:Sh w base v l.length cI.flatten) (hc:cF w size R cI l) (hs:Small (l.length*16)):∃ A cap,v=.slice A l.length cap∧aL w size R A cap l:=by
 obtain ⟨A,cap,e,iu,hg⟩:=h;by_cases h0:0 < l.length
 ·obtain ⟨g,rfl,_,hr⟩:=hg h0
  exact ⟨_,cap,e,GG hr hc iu hs⟩
 ·have:l=[]:=List.eq_nil_of_length_eq_zero (by omega)
  subst this;exact ⟨A,cap,e,iu,hs,fun i hi=>by simp at hi⟩
end
end Go.Proofs.YtmflccbnoeaafaaGreat
