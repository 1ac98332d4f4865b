import Derived.WalkKit
import Derived.WalkSpells
import Derived.WalkLawsBesides
import Derived.Laws.Cells
import Derived.Laws.IdiomCopy
import Derived.Test.YtbdanlipghhgpaaGreatDoorRows
import Derived.Lib.Hide
import Derived.Deep.QuietTactic
import Derived.BigQuiet
import Derived.Below
import Derived.Deep.Draws
import Derived.StillTailTactics
import Derived.ProofKit
import Derived.OpenShut
import Derived.Deep.Slices
import Derived.ChangeOld
import Derived.SizedLaws
import Derived.ShutString
import Derived.LaidMore
import Derived.Lay
import Derived.Stop.Joined
import Derived.Shelf.Vars
import Derived.Lib.Bytealg
namespace Go.Proofs.YtbdanlipghhgpaaGreatDoor
open Go.RowKit
set_option maxRecDepth 100000
set_option linter.unusedVariables false
set_option maxHeartbeats 64000000
theorem gH {p:Prop}(h:p):Go.RowKit.Hid p:=Lib.hid h
theorem add_mk (b o j:Nat):(Addr.mk b o none).add j=⟨b,o+j,none⟩:=by
 unfold Addr.add;split
 ·rename_i h;rw [h];rfl
 ·rfl
theorem run_lv {P:Program} (w:World) (T:TypeId) (d:TypeDesc) (k b o:Nat) (hu:P.underlying T=some d) (hd:(match d with | .struct _ | .array _ _=>true | _=>false)=true) (hi:(P.info? T).map (·.size)=some k)
  (h:∀ j,j < k→(w.cell? ⟨b,o+j,none⟩).isSome=true):(loadVar T ⟨b,o,none⟩).run P w=.ok (.agg ((List.range k).map fun j=>(w.cell? ⟨b,o+j,none⟩).getD undef).toArray) w:=by
 have hl:=run_loadCells (P:=P) w ⟨b,o,none⟩ k (fun j=>(w.cell? ⟨b,o+j,none⟩).getD undef) (fun j hj=>by
  rw [add_mk]
  obtain ⟨v,hv⟩:=Option.isSome_iff_exists.1 (h j hj)
  rw [hv];rfl)
 cases hq:P.info? T with
 | none=>rw [hq] at hi;cases hi
 | some i =>
  rw [hq] at hi
  have hi':i.size=k:=by simpa using hi
  unfold loadVar
  cases d<;>simp at hd<;>simp [isAgg,run_underlying hu,sizeOf,typeInfo,hq,hi',hl]
theorem run_sv {P:Program} (w:World) (T:TypeId) (b o:Nat) (vs:List Value) (hi:(P.info? T).map (·.size)=some vs.length)
  (h:∀ j,j < vs.length→(w.cell? ⟨b,o+j,none⟩).isSome=true∧w.frozen? ⟨b,o+j,none⟩=false∧(vs.getD j undef).oneCell'=true):(storeVar T ⟨b,o,none⟩ (.agg vs.toArray)).run P w=.ok () (w.setCells b o vs):=by
 have hs:=run_storeCells_cells (P:=P) b o vs 0 w (fun j hj=>by simpa using (h j hj).1) (fun j hj=>by simpa using (h j hj).2.1) (fun v hv=>by
  obtain ⟨j,hj,rfl⟩:=List.getElem_of_mem hv
  have:=(h j hj).2.2
  simpa [List.getD,List.getElem?_eq_getElem hj] using this)
 cases hq:P.info? T with
 | none=>rw [hq] at hi;cases hi
 | some i =>
  rw [hq] at hi
  have hi':i.size=vs.length:=by simpa using hi
  unfold storeVar
  simp [sizeOf,typeInfo,hq,hi',Value.cells]
  simpa using hs
theorem forall_lt_succ (k:Nat) (p:Nat→Prop) (h:∀ j,j < k→p j) (hk:p k):∀ j,j < k+1→p j:=fun j hj=>by
 rcases Nat.lt_or_ge j k with h1 | h1
 ·exact h j h1
 ·have:j=k:=by omega
  subst this;exact hk
@[go_sem] theorem one_string (x:ByteArray):(Value.string x).oneCell'=true:=by simp [Value.oneCell']
@[go_sem] theorem one_int (k:IntKind) (n:Int):(Value.int k n).oneCell'=true:=by simp [Value.oneCell']
@[go_sem] theorem one_bool (b:Bool):(Value.bool b).oneCell'=true:=by simp [Value.oneCell']
@[go_sem] theorem one_slice (a:Option Addr) (n c:Nat):(Value.slice a n c).oneCell'=true:=by simp [Value.oneCell']
@[go_sem] theorem one_pointer (a:Option Addr):(Value.pointer a).oneCell'=true:=by simp [Value.oneCell']
@[go_sem] theorem one_map (r:Option Nat):(Value.map r).oneCell'=true:=by simp [Value.oneCell']
def lvCol (a:Addr):Sem Value:=loadVar 67 a
@[go_sem ↓] theorem lvCol_eq (a:Addr):loadVar 67 a=lvCol a:=rfl
@[go_sem] theorem run_lvCol (w:World) (b o:Nat) (h0:(w.cell? ⟨b,o,none⟩).isSome=true) (h1:(w.cell? ⟨b,o+1,none⟩).isSome=true) (h2:(w.cell? ⟨b,o+2,none⟩).isSome=true):(lvCol ⟨b,o,none⟩).run Tryz.prog w=.ok (.agg #[(w.cell? ⟨b,o,none⟩).getD undef,(w.cell? ⟨b,o+1,none⟩).getD undef,(w.cell? ⟨b,o+2,none⟩).getD undef]) w:=run_lv (P:=Tryz.prog) w 67 _ 3 b o Tryz.underlying67 rfl (by kernel_rfl) (forall_lt_succ _ _ (forall_lt_succ _ _ (forall_lt_succ _ _ (fun j hj=>absurd hj (Nat.not_lt_zero j)) h0) h1) h2)
def svCol (a:Addr) (v:Value):Sem Unit:=storeVar 67 a v
@[go_sem ↓] theorem svCol_eq (a:Addr) (v:Value):storeVar 67 a v=svCol a v:=rfl
@[go_sem] theorem run_svCol (w:World) (b o:Nat) (v0 v1 v2:Value) (h0:(w.cell? ⟨b,o,none⟩).isSome=true) (h1:(w.cell? ⟨b,o+1,none⟩).isSome=true) (h2:(w.cell? ⟨b,o+2,none⟩).isSome=true) (f0:w.frozen? ⟨b,o,none⟩=false) (f1:w.frozen? ⟨b,o+1,none⟩=false) (f2:w.frozen? ⟨b,o+2,none⟩=false) (o0:v0.oneCell'=true) (o1:v1.oneCell'=true) (o2:v2.oneCell'=true):(svCol ⟨b,o,none⟩ (.agg #[v0,v1,v2])).run Tryz.prog w=.ok () (((w.setCell ⟨b,o,none⟩ v0).setCell ⟨b,o+1,none⟩ v1).setCell ⟨b,o+2,none⟩ v2):=run_sv (P:=Tryz.prog) w 67 b o [v0,v1,v2] (by kernel_rfl) (forall_lt_succ _ _ (forall_lt_succ _ _ (forall_lt_succ _ _ (fun j hj=>absurd hj (Nat.not_lt_zero j)) ⟨h0,f0,o0⟩) ⟨h1,f1,o1⟩) ⟨h2,f2,o2⟩)
def lvVal (a:Addr):Sem Value:=loadVar 39 a
@[go_sem ↓] theorem lvVal_eq (a:Addr):loadVar 39 a=lvVal a:=rfl
@[go_sem] theorem run_lvVal (w:World) (b o:Nat) (h0:(w.cell? ⟨b,o,none⟩).isSome=true) (h1:(w.cell? ⟨b,o+1,none⟩).isSome=true) (h2:(w.cell? ⟨b,o+2,none⟩).isSome=true):(lvVal ⟨b,o,none⟩).run Tryz.prog w=.ok (.agg #[(w.cell? ⟨b,o,none⟩).getD undef,(w.cell? ⟨b,o+1,none⟩).getD undef,(w.cell? ⟨b,o+2,none⟩).getD undef]) w:=run_lv (P:=Tryz.prog) w 39 _ 3 b o Tryz.underlying39 rfl (by kernel_rfl) (forall_lt_succ _ _ (forall_lt_succ _ _ (forall_lt_succ _ _ (fun j hj=>absurd hj (Nat.not_lt_zero j)) h0) h1) h2)
def svVal (a:Addr) (v:Value):Sem Unit:=storeVar 39 a v
@[go_sem ↓] theorem svVal_eq (a:Addr) (v:Value):storeVar 39 a v=svVal a v:=rfl
@[go_sem] theorem run_svVal (w:World) (b o:Nat) (v0 v1 v2:Value) (h0:(w.cell? ⟨b,o,none⟩).isSome=true) (h1:(w.cell? ⟨b,o+1,none⟩).isSome=true) (h2:(w.cell? ⟨b,o+2,none⟩).isSome=true) (f0:w.frozen? ⟨b,o,none⟩=false) (f1:w.frozen? ⟨b,o+1,none⟩=false) (f2:w.frozen? ⟨b,o+2,none⟩=false) (o0:v0.oneCell'=true) (o1:v1.oneCell'=true) (o2:v2.oneCell'=true):(svVal ⟨b,o,none⟩ (.agg #[v0,v1,v2])).run Tryz.prog w=.ok () (((w.setCell ⟨b,o,none⟩ v0).setCell ⟨b,o+1,none⟩ v1).setCell ⟨b,o+2,none⟩ v2):=run_sv (P:=Tryz.prog) w 39 b o [v0,v1,v2] (by kernel_rfl) (forall_lt_succ _ _ (forall_lt_succ _ _ (forall_lt_succ _ _ (fun j hj=>absurd hj (Nat.not_lt_zero j)) ⟨h0,f0,o0⟩) ⟨h1,f1,o1⟩) ⟨h2,f2,o2⟩)
def lvTab (a:Addr):Sem Value:=loadVar 71 a
@[go_sem ↓] theorem lvTab_eq (a:Addr):loadVar 71 a=lvTab a:=rfl
@[go_sem] theorem run_lvTab (w:World) (b o:Nat) (h0:(w.cell? ⟨b,o,none⟩).isSome=true) (h1:(w.cell? ⟨b,o+1,none⟩).isSome=true) (h2:(w.cell? ⟨b,o+2,none⟩).isSome=true) (h3:(w.cell? ⟨b,o+3,none⟩).isSome=true) (h4:(w.cell? ⟨b,o+4,none⟩).isSome=true):(lvTab ⟨b,o,none⟩).run Tryz.prog w=.ok (.agg #[(w.cell? ⟨b,o,none⟩).getD undef,(w.cell? ⟨b,o+1,none⟩).getD undef,(w.cell? ⟨b,o+2,none⟩).getD undef,(w.cell? ⟨b,o+3,none⟩).getD undef,(w.cell? ⟨b,o+4,none⟩).getD undef]) w:=run_lv (P:=Tryz.prog) w 71 _ 5 b o Tryz.underlying71 rfl (by kernel_rfl) (forall_lt_succ _ _ (forall_lt_succ _ _ (forall_lt_succ _ _ (forall_lt_succ _ _ (forall_lt_succ _ _ (fun j hj=>absurd hj (Nat.not_lt_zero j)) h0) h1) h2) h3) h4)
def svTab (a:Addr) (v:Value):Sem Unit:=storeVar 71 a v
@[go_sem ↓] theorem svTab_eq (a:Addr) (v:Value):storeVar 71 a v=svTab a v:=rfl
@[go_sem] theorem run_svTab (w:World) (b o:Nat) (v0 v1 v2 v3 v4:Value) (h0:(w.cell? ⟨b,o,none⟩).isSome=true) (h1:(w.cell? ⟨b,o+1,none⟩).isSome=true) (h2:(w.cell? ⟨b,o+2,none⟩).isSome=true) (h3:(w.cell? ⟨b,o+3,none⟩).isSome=true) (h4:(w.cell? ⟨b,o+4,none⟩).isSome=true) (f0:w.frozen? ⟨b,o,none⟩=false) (f1:w.frozen? ⟨b,o+1,none⟩=false) (f2:w.frozen? ⟨b,o+2,none⟩=false) (f3:w.frozen? ⟨b,o+3,none⟩=false) (f4:w.frozen? ⟨b,o+4,none⟩=false) (o0:v0.oneCell'=true) (o1:v1.oneCell'=true) (o2:v2.oneCell'=true) (o3:v3.oneCell'=true) (o4:v4.oneCell'=true):(svTab ⟨b,o,none⟩ (.agg #[v0,v1,v2,v3,v4])).run Tryz.prog w=.ok () (((((w.setCell ⟨b,o,none⟩ v0).setCell ⟨b,o+1,none⟩ v1).setCell ⟨b,o+2,none⟩ v2).setCell ⟨b,o+3,none⟩ v3).setCell ⟨b,o+4,none⟩ v4):=run_sv (P:=Tryz.prog) w 71 b o [v0,v1,v2,v3,v4] (by kernel_rfl) (forall_lt_succ _ _ (forall_lt_succ _ _ (forall_lt_succ _ _ (forall_lt_succ _ _ (forall_lt_succ _ _ (fun j hj=>absurd hj (Nat.not_lt_zero j)) ⟨h0,f0,o0⟩) ⟨h1,f1,o1⟩) ⟨h2,f2,o2⟩) ⟨h3,f3,o3⟩) ⟨h4,f4,o4⟩)
def lvRul (a:Addr):Sem Value:=loadVar 28 a
@[go_sem ↓] theorem lvRul_eq (a:Addr):loadVar 28 a=lvRul a:=rfl
@[go_sem] theorem run_lvRul (w:World) (b o:Nat) (h0:(w.cell? ⟨b,o,none⟩).isSome=true) (h1:(w.cell? ⟨b,o+1,none⟩).isSome=true) (h2:(w.cell? ⟨b,o+2,none⟩).isSome=true) (h3:(w.cell? ⟨b,o+3,none⟩).isSome=true) (h4:(w.cell? ⟨b,o+4,none⟩).isSome=true) (h5:(w.cell? ⟨b,o+5,none⟩).isSome=true) (h6:(w.cell? ⟨b,o+6,none⟩).isSome=true) (h7:(w.cell? ⟨b,o+7,none⟩).isSome=true):(lvRul ⟨b,o,none⟩).run Tryz.prog w=.ok (.agg #[(w.cell? ⟨b,o,none⟩).getD undef,(w.cell? ⟨b,o+1,none⟩).getD undef,(w.cell? ⟨b,o+2,none⟩).getD undef,(w.cell? ⟨b,o+3,none⟩).getD undef,(w.cell? ⟨b,o+4,none⟩).getD undef,(w.cell? ⟨b,o+5,none⟩).getD undef,(w.cell? ⟨b,o+6,none⟩).getD undef,(w.cell? ⟨b,o+7,none⟩).getD undef]) w:=run_lv (P:=Tryz.prog) w 28 _ 8 b o Tryz.underlying28 rfl (by kernel_rfl) (forall_lt_succ _ _ (forall_lt_succ _ _ (forall_lt_succ _ _ (forall_lt_succ _ _ (forall_lt_succ _ _ (forall_lt_succ _ _ (forall_lt_succ _ _ (forall_lt_succ _ _ (fun j hj=>absurd hj (Nat.not_lt_zero j)) h0) h1) h2) h3) h4) h5) h6) h7)
def svRul (a:Addr) (v:Value):Sem Unit:=storeVar 28 a v
@[go_sem ↓] theorem svRul_eq (a:Addr) (v:Value):storeVar 28 a v=svRul a v:=rfl
@[go_sem] theorem run_svRul (w:World) (b o:Nat) (v0 v1 v2 v3 v4 v5 v6 v7:Value) (h0:(w.cell? ⟨b,o,none⟩).isSome=true) (h1:(w.cell? ⟨b,o+1,none⟩).isSome=true) (h2:(w.cell? ⟨b,o+2,none⟩).isSome=true) (h3:(w.cell? ⟨b,o+3,none⟩).isSome=true) (h4:(w.cell? ⟨b,o+4,none⟩).isSome=true) (h5:(w.cell? ⟨b,o+5,none⟩).isSome=true) (h6:(w.cell? ⟨b,o+6,none⟩).isSome=true) (h7:(w.cell? ⟨b,o+7,none⟩).isSome=true) (f0:w.frozen? ⟨b,o,none⟩=false) (f1:w.frozen? ⟨b,o+1,none⟩=false) (f2:w.frozen? ⟨b,o+2,none⟩=false) (f3:w.frozen? ⟨b,o+3,none⟩=false) (f4:w.frozen? ⟨b,o+4,none⟩=false) (f5:w.frozen? ⟨b,o+5,none⟩=false) (f6:w.frozen? ⟨b,o+6,none⟩=false) (f7:w.frozen? ⟨b,o+7,none⟩=false) (o0:v0.oneCell'=true) (o1:v1.oneCell'=true) (o2:v2.oneCell'=true) (o3:v3.oneCell'=true) (o4:v4.oneCell'=true) (o5:v5.oneCell'=true) (o6:v6.oneCell'=true) (o7:v7.oneCell'=true):(svRul ⟨b,o,none⟩ (.agg #[v0,v1,v2,v3,v4,v5,v6,v7])).run Tryz.prog w=.ok () ((((((((w.setCell ⟨b,o,none⟩ v0).setCell ⟨b,o+1,none⟩ v1).setCell ⟨b,o+2,none⟩ v2).setCell ⟨b,o+3,none⟩ v3).setCell ⟨b,o+4,none⟩ v4).setCell ⟨b,o+5,none⟩ v5).setCell ⟨b,o+6,none⟩ v6).setCell ⟨b,o+7,none⟩ v7):=run_sv (P:=Tryz.prog) w 28 b o [v0,v1,v2,v3,v4,v5,v6,v7] (by kernel_rfl) (forall_lt_succ _ _ (forall_lt_succ _ _ (forall_lt_succ _ _ (forall_lt_succ _ _ (forall_lt_succ _ _ (forall_lt_succ _ _ (forall_lt_succ _ _ (forall_lt_succ _ _ (fun j hj=>absurd hj (Nat.not_lt_zero j)) ⟨h0,f0,o0⟩) ⟨h1,f1,o1⟩) ⟨h2,f2,o2⟩) ⟨h3,f3,o3⟩) ⟨h4,f4,o4⟩) ⟨h5,f5,o5⟩) ⟨h6,f6,o6⟩) ⟨h7,f7,o7⟩)
def lvCmd (a:Addr):Sem Value:=loadVar 31 a
@[go_sem ↓] theorem lvCmd_eq (a:Addr):loadVar 31 a=lvCmd a:=rfl
@[go_sem] theorem run_lvCmd (w:World) (b o:Nat) (h0:(w.cell? ⟨b,o,none⟩).isSome=true) (h1:(w.cell? ⟨b,o+1,none⟩).isSome=true) (h2:(w.cell? ⟨b,o+2,none⟩).isSome=true) (h3:(w.cell? ⟨b,o+3,none⟩).isSome=true) (h4:(w.cell? ⟨b,o+4,none⟩).isSome=true) (h5:(w.cell? ⟨b,o+5,none⟩).isSome=true) (h6:(w.cell? ⟨b,o+6,none⟩).isSome=true) (h7:(w.cell? ⟨b,o+7,none⟩).isSome=true) (h8:(w.cell? ⟨b,o+8,none⟩).isSome=true) (h9:(w.cell? ⟨b,o+9,none⟩).isSome=true) (h10:(w.cell? ⟨b,o+10,none⟩).isSome=true) (h11:(w.cell? ⟨b,o+11,none⟩).isSome=true) (h12:(w.cell? ⟨b,o+12,none⟩).isSome=true) (h13:(w.cell? ⟨b,o+13,none⟩).isSome=true) (h14:(w.cell? ⟨b,o+14,none⟩).isSome=true) (h15:(w.cell? ⟨b,o+15,none⟩).isSome=true) (h16:(w.cell? ⟨b,o+16,none⟩).isSome=true):(lvCmd ⟨b,o,none⟩).run Tryz.prog w=.ok (.agg #[(w.cell? ⟨b,o,none⟩).getD undef,(w.cell? ⟨b,o+1,none⟩).getD undef,(w.cell? ⟨b,o+2,none⟩).getD undef,(w.cell? ⟨b,o+3,none⟩).getD undef,(w.cell? ⟨b,o+4,none⟩).getD undef,(w.cell? ⟨b,o+5,none⟩).getD undef,(w.cell? ⟨b,o+6,none⟩).getD undef,(w.cell? ⟨b,o+7,none⟩).getD undef,(w.cell? ⟨b,o+8,none⟩).getD undef,(w.cell? ⟨b,o+9,none⟩).getD undef,(w.cell? ⟨b,o+10,none⟩).getD undef,(w.cell? ⟨b,o+11,none⟩).getD undef,(w.cell? ⟨b,o+12,none⟩).getD undef,(w.cell? ⟨b,o+13,none⟩).getD undef,(w.cell? ⟨b,o+14,none⟩).getD undef,(w.cell? ⟨b,o+15,none⟩).getD undef,(w.cell? ⟨b,o+16,none⟩).getD undef]) w:=run_lv (P:=Tryz.prog) w 31 _ 17 b o Tryz.underlying31 rfl (by kernel_rfl) (forall_lt_succ _ _ (forall_lt_succ _ _ (forall_lt_succ _ _ (forall_lt_succ _ _ (forall_lt_succ _ _ (forall_lt_succ _ _ (forall_lt_succ _ _ (forall_lt_succ _ _ (forall_lt_succ _ _ (forall_lt_succ _ _ (forall_lt_succ _ _ (forall_lt_succ _ _ (forall_lt_succ _ _ (forall_lt_succ _ _ (forall_lt_succ _ _ (forall_lt_succ _ _ (forall_lt_succ _ _ (fun j hj=>absurd hj (Nat.not_lt_zero j)) h0) h1) h2) h3) h4) h5) h6) h7) h8) h9) h10) h11) h12) h13) h14) h15) h16)
def svCmd (a:Addr) (v:Value):Sem Unit:=storeVar 31 a v
@[go_sem ↓] theorem svCmd_eq (a:Addr) (v:Value):storeVar 31 a v=svCmd a v:=rfl
@[go_sem] theorem run_svCmd (w:World) (b o:Nat) (v0 v1 v2 v3 v4 v5 v6 v7 v8 v9 v10 v11 v12 v13 v14 v15 v16:Value) (h0:(w.cell? ⟨b,o,none⟩).isSome=true) (h1:(w.cell? ⟨b,o+1,none⟩).isSome=true) (h2:(w.cell? ⟨b,o+2,none⟩).isSome=true) (h3:(w.cell? ⟨b,o+3,none⟩).isSome=true) (h4:(w.cell? ⟨b,o+4,none⟩).isSome=true) (h5:(w.cell? ⟨b,o+5,none⟩).isSome=true) (h6:(w.cell? ⟨b,o+6,none⟩).isSome=true) (h7:(w.cell? ⟨b,o+7,none⟩).isSome=true) (h8:(w.cell? ⟨b,o+8,none⟩).isSome=true) (h9:(w.cell? ⟨b,o+9,none⟩).isSome=true) (h10:(w.cell? ⟨b,o+10,none⟩).isSome=true) (h11:(w.cell? ⟨b,o+11,none⟩).isSome=true) (h12:(w.cell? ⟨b,o+12,none⟩).isSome=true) (h13:(w.cell? ⟨b,o+13,none⟩).isSome=true) (h14:(w.cell? ⟨b,o+14,none⟩).isSome=true) (h15:(w.cell? ⟨b,o+15,none⟩).isSome=true) (h16:(w.cell? ⟨b,o+16,none⟩).isSome=true) (f0:w.frozen? ⟨b,o,none⟩=false) (f1:w.frozen? ⟨b,o+1,none⟩=false) (f2:w.frozen? ⟨b,o+2,none⟩=false) (f3:w.frozen? ⟨b,o+3,none⟩=false) (f4:w.frozen? ⟨b,o+4,none⟩=false) (f5:w.frozen? ⟨b,o+5,none⟩=false) (f6:w.frozen? ⟨b,o+6,none⟩=false) (f7:w.frozen? ⟨b,o+7,none⟩=false) (f8:w.frozen? ⟨b,o+8,none⟩=false) (f9:w.frozen? ⟨b,o+9,none⟩=false) (f10:w.frozen? ⟨b,o+10,none⟩=false) (f11:w.frozen? ⟨b,o+11,none⟩=false) (f12:w.frozen? ⟨b,o+12,none⟩=false) (f13:w.frozen? ⟨b,o+13,none⟩=false) (f14:w.frozen? ⟨b,o+14,none⟩=false) (f15:w.frozen? ⟨b,o+15,none⟩=false) (f16:w.frozen? ⟨b,o+16,none⟩=false) (o0:v0.oneCell'=true) (o1:v1.oneCell'=true) (o2:v2.oneCell'=true) (o3:v3.oneCell'=true) (o4:v4.oneCell'=true) (o5:v5.oneCell'=true) (o6:v6.oneCell'=true) (o7:v7.oneCell'=true) (o8:v8.oneCell'=true) (o9:v9.oneCell'=true) (o10:v10.oneCell'=true) (o11:v11.oneCell'=true) (o12:v12.oneCell'=true) (o13:v13.oneCell'=true) (o14:v14.oneCell'=true) (o15:v15.oneCell'=true) (o16:v16.oneCell'=true):(svCmd ⟨b,o,none⟩ (.agg #[v0,v1,v2,v3,v4,v5,v6,v7,v8,v9,v10,v11,v12,v13,v14,v15,v16])).run Tryz.prog w=.ok () (((((((((((((((((w.setCell ⟨b,o,none⟩ v0).setCell ⟨b,o+1,none⟩ v1).setCell ⟨b,o+2,none⟩ v2).setCell ⟨b,o+3,none⟩ v3).setCell ⟨b,o+4,none⟩ v4).setCell ⟨b,o+5,none⟩ v5).setCell ⟨b,o+6,none⟩ v6).setCell ⟨b,o+7,none⟩ v7).setCell ⟨b,o+8,none⟩ v8).setCell ⟨b,o+9,none⟩ v9).setCell ⟨b,o+10,none⟩ v10).setCell ⟨b,o+11,none⟩ v11).setCell ⟨b,o+12,none⟩ v12).setCell ⟨b,o+13,none⟩ v13).setCell ⟨b,o+14,none⟩ v14).setCell ⟨b,o+15,none⟩ v15).setCell ⟨b,o+16,none⟩ v16):=run_sv (P:=Tryz.prog) w 31 b o [v0,v1,v2,v3,v4,v5,v6,v7,v8,v9,v10,v11,v12,v13,v14,v15,v16] (by kernel_rfl) (forall_lt_succ _ _ (forall_lt_succ _ _ (forall_lt_succ _ _ (forall_lt_succ _ _ (forall_lt_succ _ _ (forall_lt_succ _ _ (forall_lt_succ _ _ (forall_lt_succ _ _ (forall_lt_succ _ _ (forall_lt_succ _ _ (forall_lt_succ _ _ (forall_lt_succ _ _ (forall_lt_succ _ _ (forall_lt_succ _ _ (forall_lt_succ _ _ (forall_lt_succ _ _ (forall_lt_succ _ _ (fun j hj=>absurd hj (Nat.not_lt_zero j)) ⟨h0,f0,o0⟩) ⟨h1,f1,o1⟩) ⟨h2,f2,o2⟩) ⟨h3,f3,o3⟩) ⟨h4,f4,o4⟩) ⟨h5,f5,o5⟩) ⟨h6,f6,o6⟩) ⟨h7,f7,o7⟩) ⟨h8,f8,o8⟩) ⟨h9,f9,o9⟩) ⟨h10,f10,o10⟩) ⟨h11,f11,o11⟩) ⟨h12,f12,o12⟩) ⟨h13,f13,o13⟩) ⟨h14,f14,o14⟩) ⟨h15,f15,o15⟩) ⟨h16,f16,o16⟩)
structure Lat (w:World) where
 to:World
 below:Below w.heap.size w to
instance (w:World):Nonempty (Lat w):=⟨⟨w,Below.refl _ _⟩⟩
def lat (w:World) (x:Lat w):World:=x.to
theorem lat_of {w w':World} (h:Below w.heap.size w w'):∃ x:Lat w,w'=lat w x:=⟨⟨w',h⟩,rfl⟩
@[go_sem] theorem cell?_lat (w:World) (x:Lat w) (b o:Nat) (h:b < w.heap.size):(lat w x).cell? ⟨b,o,none⟩=w.cell? ⟨b,o,none⟩:=x.below.cell (p:=⟨b,o,none⟩) h
@[go_sem] theorem frozen?_lat (w:World) (x:Lat w) (b o:Nat) (h:b < w.heap.size):(lat w x).frozen? ⟨b,o,none⟩=w.frozen? ⟨b,o,none⟩:=x.below.frozen (p:=⟨b,o,none⟩) h
@[go_sem] theorem lt_lat (w:World) (x:Lat w) (b:Nat) (h:b < w.heap.size):b < (lat w x).heap.size:=Nat.lt_of_lt_of_le h x.below.size
@[go_sem] theorem lt_lat_add (w:World) (x:Lat w) (b k:Nat) (h:b < w.heap.size+k):b < (lat w x).heap.size+k:=by have:=x.below.size;unfold lat;omega
@[go_sem] theorem le_lat (w:World) (x:Lat w) (b:Nat) (h:b≤w.heap.size):b≤(lat w x).heap.size:=Nat.le_trans h x.below.size
@[go_sem] theorem le_lat_add (w:World) (x:Lat w) (b k:Nat) (h:b≤w.heap.size+k):b≤(lat w x).heap.size+k:=by have:=x.below.size;unfold lat;omega
def Aft (W w:World):Prop:=Below W.heap.size W w
theorem Aft.refl (W:World):Aft W W:=Below.refl _ _
theorem Aft.lat {W w:World} (h:Aft W w) (x:Lat w):Aft W (lat w x):=Below.trans h (x.below.mono h.size)
theorem Aft.alloc {W w:World} (h:Aft W w) (o:Obj):Aft W (w.alloc o):=Below.alloc h h.size o
theorem Aft.drew {W w:World} (h:Aft W w):Aft W w.drew:=Below.drew h
theorem Aft.drewN {W w:World} (h:Aft W w) (n:Nat):Aft W (w.drewN n):=⟨h.os,h.tape,h.output,h.size,h.block⟩
theorem Aft.setCell {W w:World} (h:Aft W w) (p:Addr) (v:Value) (hp:W.heap.size≤p.block):Aft W (w.setCell p v):=Below.setCell h hp v
theorem Aft.to {W w:World} (h:Aft W w):∃ x:Lat W,w=Go.Proofs.YtbdanlipghhgpaaGreatDoor.lat W x:=lat_of h
theorem Aft.trans {W w w':World} (h:Aft W w) (h':Aft w w'):Aft W w':=Below.trans h (Below.mono h' h.size)
section
variable {P : Program}
theorem wp_region_lat {id:Nat} {Q:Exit→Act→World→Prop} {a:Act} {w:World} {l:List Oper} (hm:P.follows .mixedOrders=true) (hB:Region.lexB .any l.toArray=true)
  (h:wpQuiet P l.toArray (fun w'=>∃ x:Lat w,w'=lat w x) (fun a'=>∀ w',(∃ x:Lat w,w'=lat w x)→Q .normal a' w') l a):(Code.region id l.toArray true).wp P Q a w :=
 wp_region_quiet (C:=fun w'=>∃ x:Lat w,w'=lat w x) hm hB (lat_of (Below.drew (Below.refl _ _))) (by simpa using h)
theorem Calls.lat_of {f:FuncId} {args:Array Value} {w:World} {x:Lat w} {v:Value}
  (h:Calls P f args (lat w x) fun e w'=>e=.returned v∧Aft (lat w x) w'):Calls P f args (lat w x) fun e w''=>e=.returned v∧∃ y:Lat w,w''=lat w y :=
 h.mono fun _ _ ⟨he,hm⟩=>⟨he,Aft.to (((Aft.refl w).lat x).trans hm)⟩
theorem Calls.lat_same {f:FuncId} {args:Array Value} {w:World} {x:Lat w} {v:Value}
  (h:Calls P f args (lat w x) fun e w'=>e=.returned v∧lat w x=w'):Calls P f args (lat w x) fun e w''=>e=.returned v∧∃ y:Lat w,w''=lat w y :=
 h.mono fun _ _ ⟨he,hm⟩=>⟨he,x,hm.symm⟩
end
theorem box_aft {w w1:World} {b:Nat} {c:Array Value} (hb:∀ o,w.cell? ⟨b,o,none⟩=c[o]?) (hf:∀ o,w.frozen? ⟨b,o,none⟩=false) (hl:b < w.heap.size) (h:Aft w w1) :
  (∀ o,w1.cell? ⟨b,o,none⟩=c[o]?)∧(∀ o,w1.frozen? ⟨b,o,none⟩=false)∧(b < w1.heap.size∧b≤w1.heap.size∧b < w1.heap.size+1∧b < w1.heap.size+1+1∧b < w1.heap.size+1+1+1∧b < w1.heap.size+1+1+1+1)∧(∀ k,b≤w1.heap.size+k):=by
 have hz:b < w1.heap.size:=Nat.lt_of_lt_of_le hl h.size
 refine ⟨fun o=>?_,fun o=>?_,⟨hz,by omega,by omega,by omega,by omega,by omega⟩,fun k=>by omega⟩
 ·rw [Below.cell h (p:=⟨b,o,none⟩) hl];exact hb o
 ·rw [Below.frozen h (p:=⟨b,o,none⟩) hl];exact hf o
theorem aft_box2 {w w1:World} {c d:Array Value} {t u:TypeId} (h:Aft ((w.alloc (.cells c t)).alloc (.cells d u)) w1) :
  (∀ o,w1.cell? ⟨w.heap.size,o,none⟩=c[o]?)∧(∀ o,w1.cell? ⟨w.heap.size+1,o,none⟩=d[o]?)∧(w.heap.size < w1.heap.size∧w.heap.size+1 < w1.heap.size)∧Hid (Aft w w1):=by
 have hz:w.heap.size+1 < w1.heap.size:=by have:=h.size;simp at this;omega
 refine ⟨fun o=>?_,fun o=>?_,⟨by omega,hz⟩,gH ((((Aft.refl w).alloc _).alloc _).trans h)⟩
 ·rw [Below.cell h (p:=⟨w.heap.size,o,none⟩) (by simp;omega),World.cell?_alloc_past _ _ _ (by simp)];simp
 ·rw [Below.cell h (p:=⟨w.heap.size+1,o,none⟩) (by simp),World.cell?_alloc_at _ _ _ _ (by simp)]
theorem ret_of {v v':Value} (h:v=v'):Ending.returned v=.returned v':=by rw [h]
theorem bool_of {b b':Bool} (h:b=b'):Value.bool b=.bool b':=by rw [h]
end Go.Proofs.YtbdanlipghhgpaaGreatDoor
namespace Go.Proofs.YtbdanlipghhgpaaGreatDoor
open Go.ChangeShapes Go.WideShapes Go.RowKit Go.Deep
set_option maxRecDepth 100000
set_option linter.unusedVariables false
set_option maxHeartbeats 64000000
def Small (n:Nat):Prop:=n≤140737488351232
theorem Small.max {n:Nat} (h:Small n):n≤maxLen:=by unfold Small at h;unfold maxLen;omega
theorem Small.le {n:Nat} (h:Small n):n≤9223372036854775807:=by unfold Small at h;omega
def Lt {H:Type} (P:Program) (t:TypeId) (d:DataW H):Prop:=∀ n∈d.weights P t,n≤140737488351232
section
variable {H : Type} {enc : TypeId × Value → H} {P : Program} {w : World}
theorem weightsEach_get:∀ {ts:List TypeId} {ds:List (DataW H)} {i:Nat} {t:TypeId} {d:DataW H},ts[i]? = some t→ds[i]? = some d→∀ n∈d.weights P t,n∈DataW.weightsEach P ts ds :=
 fun ht hd n hn=>DataW.weights_mem_each ht hd n hn
theorem weightsAll_get {e:TypeId}:∀ {ds:List (DataW H)} {d:DataW H},d∈ds→∀ n∈d.weights P e,n∈DataW.weightsAll P e ds
 | x::r,d,h,n,hn=>by
  simp only [DataW.weightsAll,List.mem_append]
  rcases List.mem_cons.1 h with rfl | h
  ·exact .inl hn
  ·exact .inr (weightsAll_get h n hn)
theorem field_lt {t:TypeId} {fs:Array Field} (ht:P.underlying t=some (.struct fs)) {xs:List (DataW H × List MemPlace)} (h:Lt P t (.agg (xs.map (·.1)):DataW H)) {i:Nat} {f:Field} (hf:fs[i]? = some f) {x:DataW H × List MemPlace} (hx:xs[i]? = some x):Lt P f.type x.1:=by
 intro n hn
 refine h n ?_
 simp only [DataW.weights,ht]
 refine weightsEach_get (i:=i) (t:=f.type) (d:=x.1) ?_ ?_ n hn
 ·simp [hf]
 ·simp [hx]
def Rd (enc:TypeId × Value→H) (P:Program) (w:World) (t:TypeId) (cs:List Value):Prop :=
 ∃ (fuel:Nat) (x:DataW H × List MemPlace),DataW.trod enc P w 0 (fun _=>true) true fuel t cs=some x∧Lt P t x.1
theorem Rd.struct {t:TypeId} {fs:Array Field} {cs:List Value} (ht:P.underlying t=some (.struct fs)) (h:Rd enc P w t cs) :
  cs.length=P.cellsOf t∧∀ (i:Nat) (f:Field),fs[i]? = some f→Rd enc P w f.type ((cs.drop f.offset).take (P.cellsOf f.type)):=by
 obtain ⟨fuel,x,hx,hl⟩:=h
 obtain ⟨xs,n,_,rfl,hlen,hsz,hf⟩:=DataW.trod_struct ht hx
 refine ⟨hlen,fun i f hi=>?_⟩
 have h1:=hf i f hi
 have hlt:i < xs.length:=by rw [hsz];exact (Array.getElem?_eq_some_iff.1 hi).1
 have hxi:xs[i]? = some xs[i]:=List.getElem?_eq_getElem hlt
 exact ⟨n,xs[i],h1.trans hxi,field_lt ht hl hi hxi⟩
theorem Rd.field {t:TypeId} {fs:Array Field} {cs:List Value} (h:Rd enc P w t cs) (ht:P.underlying t=some (.struct fs)) (i:Nat) (ft off k:Nat) (hf:(fs[i]?).map (fun f=>(f.type,f.offset))=some (ft,off)) (hk:P.cellsOf ft=k) :
  Rd enc P w ft ((cs.drop off).take k):=by
 obtain ⟨_,h2⟩:=h.struct ht
 cases hq:fs[i]? with
 | none=>rw [hq] at hf;cases hf
 | some f =>
  rw [hq] at hf
  simp only [Option.map_some,Option.some.injEq,Prod.mk.injEq] at hf
  have:=h2 i f hq
  rw [hf.1,hf.2,hk] at this
  exact this
theorem Rd.string {t:TypeId} {cs:List Value} (ht:P.underlying t=some .string) (h:Rd enc P w t cs):∃ s:ByteArray,cs=[.string s]∧Small s.size:=by
 obtain ⟨fuel,x,hx,hl⟩:=h
 obtain ⟨s,rfl,rfl,_⟩:=DataW.trod_string ht hx
 refine ⟨s,rfl,?_⟩
 have:=hl s.data.toList.length (by simp [DataW.weights])
 simpa [Small] using this
theorem Rd.int {t:TypeId} {k:IntKind} {cs:List Value} (ht:P.underlying t=some (.int k)) (h:Rd enc P w t cs):∃ n:Int,cs=[.int k n]∧(Lit.int k n).wf=true:=by
 obtain ⟨fuel,x,hx,hl⟩:=h
 obtain ⟨n,rfl,_,hw⟩:=DataW.trod_int ht hx
 exact ⟨n,rfl,hw⟩
theorem Rd.bool {t:TypeId} {cs:List Value} (ht:P.underlying t=some .bool) (h:Rd enc P w t cs):∃ b:Bool,cs=[.bool b]:=by
 obtain ⟨fuel,x,hx,hl⟩:=h
 obtain ⟨b,rfl,_⟩:=DataW.trod_bool ht hx
 exact ⟨b,rfl⟩
def SlAt {α:Type} (w:World) (size:Nat) (R:World→List Value→α→Prop) (A:Option Addr) (cap:Nat) (l:List α):Prop :=
 l.length≤cap∧Small (l.length*16)∧∀ i (h:i < l.length),∃ b off cs,A=some ⟨b,off,none⟩∧b < w.heap.size∧cs.length=size∧R w cs l[i]∧∀ j,j < size→w.cell? ⟨b,off+(i*size+j),none⟩=cs[j]?
def SlOf {α:Type} (w:World) (size:Nat) (R:World→List Value→α→Prop) (cs:List Value) (l:List α):Prop :=
 ∃ A cap,cs=[.slice A l.length cap]∧SlAt w size R A cap l
theorem slAt_nil {α:Type} {size:Nat} {R:World→List Value→α→Prop}:SlAt w size R none 0 ([]:List α) :=
 ⟨Nat.le_refl _,Nat.zero_le _,fun i h=>absurd h (by simp)⟩
theorem SlAt.aft {α:Type} {size:Nat} {R:World→List Value→α→Prop} {A:Option Addr} {cap:Nat} {l:List α} {w':World} (h:SlAt w size R A cap l) (hw:Aft w w') (hR:∀ cs x,R w cs x→R w' cs x):SlAt w' size R A cap l :=
 ⟨h.1,h.2.1,fun i hi=>by
  obtain ⟨b,off,cs,hA,hb,hl,hr,hc⟩:=h.2.2 i hi
  exact ⟨b,off,cs,hA,Nat.lt_of_lt_of_le hb hw.size,hl,hR _ _ hr,fun j hj=>(Below.cell hw (p:=⟨b,off+(i*size+j),none⟩) hb).trans (hc j hj)⟩⟩
theorem choose_list {α:Type} (n:Nat) (p:Nat→α→Prop) (h:∀ i,i < n→∃ x,p i x):∃ l:List α,l.length=n∧∀ i (hi:i < l.length),p i l[i]:=by
 induction n with
 | zero=>exact ⟨[],rfl,fun i hi=>absurd hi (by simp)⟩
 | succ n ih =>
  obtain ⟨l,hl,hp⟩:=ih fun i hi=>h i (by omega)
  obtain ⟨x,hx⟩:=h n (by omega)
  refine ⟨l++[x],by simp [hl],fun i hi=>?_⟩
  by_cases hin:i < l.length
  ·rw [List.getElem_append_left hin];exact hp i hin
  ·have:i=l.length:=by simp at hi;omega
   subst this
   simp only [List.getElem_append_right (Nat.le_refl _),Nat.sub_self,List.getElem_cons_zero]
   rw [hl];exact hx
theorem Rd.slice {α:Type} {t e:TypeId} {cs:List Value} {size:Nat} {R:World→List Value→α→Prop} (ht:P.underlying t=some (.slice e)) (hs:P.cellsOf e=size) (hpos:0 < size) (hby:16≤P.bytesOf e)
  (hR:∀ cs,Rd enc P w e cs→∃ x,R w cs x) (h:Rd enc P w t cs):∃ l:List α,SlOf w size R cs l:=by
 obtain ⟨fuel,x,hx,hl⟩:=h
 have hlt:=DataW.trod_lt fuel t cs x hx
 rcases open_slice ht hx with ⟨rfl,_⟩ | ⟨a,len,cap,m,n,D,Pl,rfl,_,hlc,hcm,hm,rfl,hi⟩
 ·exact ⟨[],none,0,rfl,slAt_nil⟩
 ·simp only [if_true] at hm
  subst hm
  have hcap:Small (m*16):=by
   have h1:=hl (((List.range len).map D).length+((List.range (m - len)).map fun j=>D (len+j)).length |> (·*P.bytesOf e)) (by simp [DataW.weights,ht])
   simp only [List.length_map,List.length_range] at h1
   have h2:len+(m - len)=m:=by omega
   rw [h2] at h1
   exact Nat.le_trans (Nat.mul_le_mul_left _ hby) h1
  have hspot:0 < len→a.spot=none:=by
   intro h0
   obtain ⟨cs',hc,_⟩:=hi 0 (by omega)
   rw [hs] at hc
   obtain ⟨_,hcl,hat⟩:=World.cells?_some hc
   have h1:=hat 0 hpos
   have h2:w.cell? ((a.add (0*size)).add 0)=some (cs'[0]'(by omega)):=by rw [h1];exact List.getElem?_eq_getElem (by omega)
   have h3:=World.cell?_spot h2
   simpa [Addr.add] using h3
  have hel:∀ i,i < len→∃ x:α,∃ b off cs,some a=some ⟨b,off,none⟩∧b < w.heap.size∧cs.length=size∧R w cs x∧∀ j,j < size→w.cell? ⟨b,off+(i*size+j),none⟩=cs[j]? := by
   intro i hil
   obtain ⟨cs',hc,htr⟩:=hi i (by omega)
   rw [hs] at hc
   obtain ⟨_,hcl,hat⟩:=World.cells?_some hc
   have hrd:Rd enc P w e cs':=by
    refine ⟨n,_,htr,fun k hk=>hl k ?_⟩
    simp only [DataW.weights,ht,List.mem_cons,List.mem_append]
    exact .inr (.inl (weightsAll_get (d:=D i) (List.mem_map.2 ⟨i,List.mem_range.2 hil,rfl⟩) k hk))
   obtain ⟨y,hy⟩:=hR cs' hrd
   have hsp:=hspot (by omega)
   obtain ⟨b,off,spot⟩:=a
   simp only at hsp
   subst hsp
   have hb:b < w.heap.size:=hlt (.cell b off) (by
    simp only [List.mem_append]
    left
    rw [hs]
    have hpm:0 < m*size:=Nat.mul_pos (by omega) hpos
    simp only [MemPlace.row]
    exact List.mem_map.2 ⟨0,List.mem_range.2 hpm,by simp⟩)
   refine ⟨y,b,off,cs',rfl,hb,hcl,hy,fun j hj=>?_⟩
   have h1:=hat j hj
   rw [← h1,Go.Deep.add_add]
   have:(Addr.mk b off none).add (i*size+j)=⟨b,off+(i*size+j),none⟩:=by
    unfold Addr.add;split
    ·rename_i h0;rw [h0];rfl
    ·rfl
   rw [this]
  obtain ⟨l,hll,hp⟩:=choose_list len _ hel
  subst hll
  exact ⟨l,some a,m,rfl,hlc,Nat.le_trans (Nat.mul_le_mul_right _ hlc) hcap,hp⟩
end
end Go.Proofs.YtbdanlipghhgpaaGreatDoor
namespace Go.Proofs.YtbdanlipghhgpaaGreatDoor
open Go.ChangeShapes Go.WideShapes Go.ChangeAt Go.RowKit
set_option maxRecDepth 100000
set_option linter.unusedVariables false
set_option maxHeartbeats 64000000
section
variable {H : Type} {enc : TypeId × Value → H} {P : Program} {w : World}
def RdV (enc:TypeId × Value→H) (P:Program) (w:World) (t:TypeId) (v:Value):Prop :=
 Rd enc P w t v.cells.toList∧∃ base,Value.okWide P w .any base t v
theorem RdV.struct {t:TypeId} {fs:Array Field} {v:Value} (ht:P.underlying t=some (.struct fs)) (h:RdV enc P w t v):∃ cs:List Value,v=.agg cs.toArray∧Rd enc P w t cs:=by
 obtain ⟨h1,base,h2⟩:=h
 obtain ⟨cs,rfl,_⟩:=okWide_struct ht h2
 exact ⟨cs.toList,by simp,h1⟩
theorem trodAll_rd:∀ {ts:List TypeId} {vs:List Value} {ds:List (DataW H)} {p:List MemPlace},DataW.TrodAll enc P w 0 (fun _=>true) true ts vs ds p→(∀ n∈DataW.weightsEach P ts ds,n≤140737488351232) →
  vs.length=ts.length∧ds.length=ts.length∧∀ (j:Nat) (t:TypeId) (v:Value),ts[j]? = some t→vs[j]? = some v→Rd enc P w t v.cells.toList
 | [],vs,ds,p,h,_=>by
  cases vs<;>cases ds<;>simp [DataW.TrodAll] at h
  exact ⟨rfl,rfl,fun j t v ht=>by simp at ht⟩
 | t::ts,vs,ds,p,h,hw=>by
  obtain ⟨v,vs',d,ds',p1,q1,rfl,rfl,rfl,⟨fuel,h1⟩,h2⟩:=trodAll_cons h
  simp only [DataW.weightsEach,List.mem_append] at hw
  obtain ⟨l1,l2,ih⟩:=trodAll_rd h2 (fun n hn=>hw n (.inr hn))
  refine ⟨by simp [l1],by simp [l2],fun j t' v' ht hv=>?_⟩
  cases j with
  | zero =>
   simp at ht hv
   subst ht;subst hv
   exact ⟨fuel,_,h1,fun n hn=>hw n (.inl hn)⟩
  | succ j=>exact ih j t' v' (by simpa using ht) (by simpa using hv)
theorem trodAll_below {W W':World} (hl:laidOutB P=true) (hb:Below W.heap.size W W'):∀ {ts:List TypeId} {vs:List Value} {ds:List (DataW H)} {p:List MemPlace},(∀ t∈ts,P.readableRec t=true∧t < P.types.size) →
  DataW.TrodAll enc P W 0 (fun _=>true) true ts vs ds p→DataW.TrodAll enc P W' 0 (fun b=>decide (b < W.heap.size)) true ts vs ds p
 | [],vs,ds,p,_,h=>by
  cases vs<;>cases ds<;>simp [DataW.TrodAll] at h ⊢
  exact h
 | t::ts,vs,ds,p,ht,h=>by
  obtain ⟨v,vs',d,ds',p1,q1,rfl,rfl,rfl,h1,h2⟩:=trodAll_cons h
  have lt0:∀ x∈p1,x.block < W.heap.size:=by obtain ⟨m,hm⟩:=h1;exact DataW.trod_lt m _ _ _ hm
  exact trodAll_cons_mk (Below.trod hl (ht t (by simp)).1 (ht t (by simp)).2 h1 hb lt0) (trodAll_below hl hb (fun x hx=>ht x (by simp [hx])) h2)
end
theorem law_lifted_laid {C:Checked} {os:Os} {f:FuncId} {fn:Func} {s:ChangeSpec} {tb:TypeId} (l:List (String × DataW Unit)) (H:Type) (enc:TypeId × Value→H)
  (own:ownKnob C.prog.godebug=none) (started:os.Started) (noInit:C.prog.inits.idxOf? f=none) (hfn:C.prog.funcs[f]? = some fn)
  (witness:∃ (w:World) (tape:Tape) (i:Input),w.os=os∧(w.forCall tape i).Shaped C.prog∧i.vars=[]∧Input.okWide C.prog (w.forCall tape i) .any w.heap.size f i ∧
   ((s.pre enc C.prog fn [] false (w.forCall tape i).memory i.args∧laidMetH C.prog l (w.forCall tape i).memory)∧sizedMet enc C.prog fn (OpenSpec.ofChange s) false (w.forCall tape i).memory i.args)∧({}:Assume).holds C.prog (lone (Frame.enter C.prog f i.args .normal) [] (w.forCall tape i)))
  (hvars:s.vars=[]) (hres:fn.resultTypes=#[tb]) (htb:C.prog.underlying tb=some .bool)
  (hspec:∀ ds:List (DataW H),ds.length=fn.params.size→s.fn H ds={ results:=[.lit (.bool true)],args:=ds })
  (laid:laidOutB C.prog=true) (hty:∀ t∈fn.params.toList,C.prog.readableRec t=true∧t < C.prog.types.size)
  (walk:∀ (W:World) (vs:List Value),vs.length=fn.params.size→(∀ (j:Nat) (t:TypeId) (v:Value),fn.params[j]? = some t→vs[j]? = some v→RdV enc C.prog W t v)→W.ShapedOpen C.prog→laidMetH C.prog l W→Calls C.prog f vs.toArray W fun e w'=>e=.returned (.bool true)∧Aft W w') :
  ReturnsInHanded {} C os f .any (fun w args=>(s.pre enc C.prog fn [] false w args∧laidMetH C.prog l w)∧sizedMet enc C.prog fn (OpenSpec.ofChange s) false w args) (s.post enc C.prog fn false true false false):=by
 refine returnsInHanded_of_calls own started noInit witness ?_
 intro w tape i _ hsh _ hok hpre hholds
 obtain ⟨_,_,_,fn',hfn',_,_,_,_,hval⟩:=hok
 have e:fn'=fn:=Option.some.inj (hfn'.symm.trans hfn)
 subst e
 obtain ⟨⟨⟨ds,gs,before,hw,_⟩,hx⟩,hz⟩:=hpre
 have hW:=DataW.Whole.of_heap (w':=w.forCall tape i) (by rfl) hw
 have hL:laidMetH C.prog l (w.forCall tape i):=laidMetH.of_heap (by rfl) hx
 have hsz:=hz.weights hw
 suffices h:Calls C.prog f i.args (w.forCall tape i) fun e W'=>∃ v,e=.returned v∧s.post enc C.prog fn' false true false false (w.forCall tape i) i.args v W' from
  h.mono fun e W' ⟨v,he,hp⟩=>by
   subst he
   exact ChangeSpec.post_blind hp
 have hW':=hW
 obtain ⟨p,q,hA,hV,rfl,_,_⟩:=hW
 rw [hvars] at hV
 obtain ⟨rfl,rfl⟩:=trodVars_none hV
 have hww:∀ n∈DataW.weightsEach C.prog fn'.params.toList ds,n≤140737488351232:=by
  have e:s.plain.varTypes C.prog=[]:=by
   simp [ChangeSpec.plain,hvars,DataSpec.varTypes]
  have e2:(OpenSpec.ofChange s).bare.plain.varTypes C.prog=[]:=e
  rw [e2,List.append_nil,List.append_nil] at hsz
  intro n hn
  have:=List.all_eq_true.1 hsz n hn
  have h2:n≤reachBytes:=by simpa using this
  exact h2
 obtain ⟨l1,l2,hrd⟩:=trodAll_rd hA hww
 have hlen:i.args.toList.length=fn'.params.size:=by simpa using l1
 refine ((walk (w.forCall tape i) i.args.toList hlen (fun j t v ht hv=>⟨hrd j t v (by simpa using ht) hv,w.heap.size,hval j t v ht (by simpa using hv)⟩) hsh hL)).mono fun e W' ⟨he,haft⟩=>?_
 subst he
 have hs:=hspec ds (by simpa using l2)
 refine ⟨_,rfl,ds,[],p++[],[],p,[],hW',?_,?_,?_,?_,fun h=>by cases h⟩
 ·rw [List.append_nil,hs,hres]
  exact trodAll_mk1 (shut_bool htb _)
 ·rw [List.append_nil,hs]
  exact trodAll_below laid haft hty hA
 ·rw [List.append_nil,hs,hvars]
  rfl
 ·exact haft.frame _
end Go.Proofs.YtbdanlipghhgpaaGreatDoor
namespace Go.Proofs.YtbdanlipghhgpaaGreatDoor
open Go.RowKit
set_option maxRecDepth 100000
set_option linter.unusedVariables false
set_option maxHeartbeats 64000000
def lvAct (a:Addr):Sem Value:=loadVar 43 a
@[go_sem ↓] theorem lvAct_eq (a:Addr):loadVar 43 a=lvAct a:=rfl
@[go_sem] theorem run_lvAct (w:World) (b o:Nat) (h0:(w.cell? ⟨b,o,none⟩).isSome=true) (h1:(w.cell? ⟨b,o+1,none⟩).isSome=true) (h2:(w.cell? ⟨b,o+2,none⟩).isSome=true) (h3:(w.cell? ⟨b,o+3,none⟩).isSome=true) (h4:(w.cell? ⟨b,o+4,none⟩).isSome=true) (h5:(w.cell? ⟨b,o+5,none⟩).isSome=true) (h6:(w.cell? ⟨b,o+6,none⟩).isSome=true) (h7:(w.cell? ⟨b,o+7,none⟩).isSome=true) (h8:(w.cell? ⟨b,o+8,none⟩).isSome=true) (h9:(w.cell? ⟨b,o+9,none⟩).isSome=true) (h10:(w.cell? ⟨b,o+10,none⟩).isSome=true) (h11:(w.cell? ⟨b,o+11,none⟩).isSome=true) (h12:(w.cell? ⟨b,o+12,none⟩).isSome=true) (h13:(w.cell? ⟨b,o+13,none⟩).isSome=true) (h14:(w.cell? ⟨b,o+14,none⟩).isSome=true) (h15:(w.cell? ⟨b,o+15,none⟩).isSome=true) (h16:(w.cell? ⟨b,o+16,none⟩).isSome=true) (h17:(w.cell? ⟨b,o+17,none⟩).isSome=true) (h18:(w.cell? ⟨b,o+18,none⟩).isSome=true) (h19:(w.cell? ⟨b,o+19,none⟩).isSome=true) (h20:(w.cell? ⟨b,o+20,none⟩).isSome=true) (h21:(w.cell? ⟨b,o+21,none⟩).isSome=true) (h22:(w.cell? ⟨b,o+22,none⟩).isSome=true) (h23:(w.cell? ⟨b,o+23,none⟩).isSome=true) (h24:(w.cell? ⟨b,o+24,none⟩).isSome=true) (h25:(w.cell? ⟨b,o+25,none⟩).isSome=true) (h26:(w.cell? ⟨b,o+26,none⟩).isSome=true) (h27:(w.cell? ⟨b,o+27,none⟩).isSome=true) (h28:(w.cell? ⟨b,o+28,none⟩).isSome=true) (h29:(w.cell? ⟨b,o+29,none⟩).isSome=true) (h30:(w.cell? ⟨b,o+30,none⟩).isSome=true) (h31:(w.cell? ⟨b,o+31,none⟩).isSome=true) (h32:(w.cell? ⟨b,o+32,none⟩).isSome=true):(lvAct ⟨b,o,none⟩).run Tryz.prog w=.ok (.agg #[(w.cell? ⟨b,o,none⟩).getD undef,(w.cell? ⟨b,o+1,none⟩).getD undef,(w.cell? ⟨b,o+2,none⟩).getD undef,(w.cell? ⟨b,o+3,none⟩).getD undef,(w.cell? ⟨b,o+4,none⟩).getD undef,(w.cell? ⟨b,o+5,none⟩).getD undef,(w.cell? ⟨b,o+6,none⟩).getD undef,(w.cell? ⟨b,o+7,none⟩).getD undef,(w.cell? ⟨b,o+8,none⟩).getD undef,(w.cell? ⟨b,o+9,none⟩).getD undef,(w.cell? ⟨b,o+10,none⟩).getD undef,(w.cell? ⟨b,o+11,none⟩).getD undef,(w.cell? ⟨b,o+12,none⟩).getD undef,(w.cell? ⟨b,o+13,none⟩).getD undef,(w.cell? ⟨b,o+14,none⟩).getD undef,(w.cell? ⟨b,o+15,none⟩).getD undef,(w.cell? ⟨b,o+16,none⟩).getD undef,(w.cell? ⟨b,o+17,none⟩).getD undef,(w.cell? ⟨b,o+18,none⟩).getD undef,(w.cell? ⟨b,o+19,none⟩).getD undef,(w.cell? ⟨b,o+20,none⟩).getD undef,(w.cell? ⟨b,o+21,none⟩).getD undef,(w.cell? ⟨b,o+22,none⟩).getD undef,(w.cell? ⟨b,o+23,none⟩).getD undef,(w.cell? ⟨b,o+24,none⟩).getD undef,(w.cell? ⟨b,o+25,none⟩).getD undef,(w.cell? ⟨b,o+26,none⟩).getD undef,(w.cell? ⟨b,o+27,none⟩).getD undef,(w.cell? ⟨b,o+28,none⟩).getD undef,(w.cell? ⟨b,o+29,none⟩).getD undef,(w.cell? ⟨b,o+30,none⟩).getD undef,(w.cell? ⟨b,o+31,none⟩).getD undef,(w.cell? ⟨b,o+32,none⟩).getD undef]) w:=run_lv (P:=Tryz.prog) w 43 _ 33 b o Tryz.underlying43 rfl (by kernel_rfl) (forall_lt_succ _ _ (forall_lt_succ _ _ (forall_lt_succ _ _ (forall_lt_succ _ _ (forall_lt_succ _ _ (forall_lt_succ _ _ (forall_lt_succ _ _ (forall_lt_succ _ _ (forall_lt_succ _ _ (forall_lt_succ _ _ (forall_lt_succ _ _ (forall_lt_succ _ _ (forall_lt_succ _ _ (forall_lt_succ _ _ (forall_lt_succ _ _ (forall_lt_succ _ _ (forall_lt_succ _ _ (forall_lt_succ _ _ (forall_lt_succ _ _ (forall_lt_succ _ _ (forall_lt_succ _ _ (forall_lt_succ _ _ (forall_lt_succ _ _ (forall_lt_succ _ _ (forall_lt_succ _ _ (forall_lt_succ _ _ (forall_lt_succ _ _ (forall_lt_succ _ _ (forall_lt_succ _ _ (forall_lt_succ _ _ (forall_lt_succ _ _ (forall_lt_succ _ _ (forall_lt_succ _ _ (fun j hj=>absurd hj (Nat.not_lt_zero j)) h0) h1) h2) h3) h4) h5) h6) h7) h8) h9) h10) h11) h12) h13) h14) h15) h16) h17) h18) h19) h20) h21) h22) h23) h24) h25) h26) h27) h28) h29) h30) h31) h32)
def svAct (a:Addr) (v:Value):Sem Unit:=storeVar 43 a v
@[go_sem ↓] theorem svAct_eq (a:Addr) (v:Value):storeVar 43 a v=svAct a v:=rfl
@[go_sem] theorem run_svAct (w:World) (b o:Nat) (v0 v1 v2 v3 v4 v5 v6 v7 v8 v9 v10 v11 v12 v13 v14 v15 v16 v17 v18 v19 v20 v21 v22 v23 v24 v25 v26 v27 v28 v29 v30 v31 v32:Value) (h0:(w.cell? ⟨b,o,none⟩).isSome=true) (h1:(w.cell? ⟨b,o+1,none⟩).isSome=true) (h2:(w.cell? ⟨b,o+2,none⟩).isSome=true) (h3:(w.cell? ⟨b,o+3,none⟩).isSome=true) (h4:(w.cell? ⟨b,o+4,none⟩).isSome=true) (h5:(w.cell? ⟨b,o+5,none⟩).isSome=true) (h6:(w.cell? ⟨b,o+6,none⟩).isSome=true) (h7:(w.cell? ⟨b,o+7,none⟩).isSome=true) (h8:(w.cell? ⟨b,o+8,none⟩).isSome=true) (h9:(w.cell? ⟨b,o+9,none⟩).isSome=true) (h10:(w.cell? ⟨b,o+10,none⟩).isSome=true) (h11:(w.cell? ⟨b,o+11,none⟩).isSome=true) (h12:(w.cell? ⟨b,o+12,none⟩).isSome=true) (h13:(w.cell? ⟨b,o+13,none⟩).isSome=true) (h14:(w.cell? ⟨b,o+14,none⟩).isSome=true) (h15:(w.cell? ⟨b,o+15,none⟩).isSome=true) (h16:(w.cell? ⟨b,o+16,none⟩).isSome=true) (h17:(w.cell? ⟨b,o+17,none⟩).isSome=true) (h18:(w.cell? ⟨b,o+18,none⟩).isSome=true) (h19:(w.cell? ⟨b,o+19,none⟩).isSome=true) (h20:(w.cell? ⟨b,o+20,none⟩).isSome=true) (h21:(w.cell? ⟨b,o+21,none⟩).isSome=true) (h22:(w.cell? ⟨b,o+22,none⟩).isSome=true) (h23:(w.cell? ⟨b,o+23,none⟩).isSome=true) (h24:(w.cell? ⟨b,o+24,none⟩).isSome=true) (h25:(w.cell? ⟨b,o+25,none⟩).isSome=true) (h26:(w.cell? ⟨b,o+26,none⟩).isSome=true) (h27:(w.cell? ⟨b,o+27,none⟩).isSome=true) (h28:(w.cell? ⟨b,o+28,none⟩).isSome=true) (h29:(w.cell? ⟨b,o+29,none⟩).isSome=true) (h30:(w.cell? ⟨b,o+30,none⟩).isSome=true) (h31:(w.cell? ⟨b,o+31,none⟩).isSome=true) (h32:(w.cell? ⟨b,o+32,none⟩).isSome=true) (f0:w.frozen? ⟨b,o,none⟩=false) (f1:w.frozen? ⟨b,o+1,none⟩=false) (f2:w.frozen? ⟨b,o+2,none⟩=false) (f3:w.frozen? ⟨b,o+3,none⟩=false) (f4:w.frozen? ⟨b,o+4,none⟩=false) (f5:w.frozen? ⟨b,o+5,none⟩=false) (f6:w.frozen? ⟨b,o+6,none⟩=false) (f7:w.frozen? ⟨b,o+7,none⟩=false) (f8:w.frozen? ⟨b,o+8,none⟩=false) (f9:w.frozen? ⟨b,o+9,none⟩=false) (f10:w.frozen? ⟨b,o+10,none⟩=false) (f11:w.frozen? ⟨b,o+11,none⟩=false) (f12:w.frozen? ⟨b,o+12,none⟩=false) (f13:w.frozen? ⟨b,o+13,none⟩=false) (f14:w.frozen? ⟨b,o+14,none⟩=false) (f15:w.frozen? ⟨b,o+15,none⟩=false) (f16:w.frozen? ⟨b,o+16,none⟩=false) (f17:w.frozen? ⟨b,o+17,none⟩=false) (f18:w.frozen? ⟨b,o+18,none⟩=false) (f19:w.frozen? ⟨b,o+19,none⟩=false) (f20:w.frozen? ⟨b,o+20,none⟩=false) (f21:w.frozen? ⟨b,o+21,none⟩=false) (f22:w.frozen? ⟨b,o+22,none⟩=false) (f23:w.frozen? ⟨b,o+23,none⟩=false) (f24:w.frozen? ⟨b,o+24,none⟩=false) (f25:w.frozen? ⟨b,o+25,none⟩=false) (f26:w.frozen? ⟨b,o+26,none⟩=false) (f27:w.frozen? ⟨b,o+27,none⟩=false) (f28:w.frozen? ⟨b,o+28,none⟩=false) (f29:w.frozen? ⟨b,o+29,none⟩=false) (f30:w.frozen? ⟨b,o+30,none⟩=false) (f31:w.frozen? ⟨b,o+31,none⟩=false) (f32:w.frozen? ⟨b,o+32,none⟩=false) (o0:v0.oneCell'=true) (o1:v1.oneCell'=true) (o2:v2.oneCell'=true) (o3:v3.oneCell'=true) (o4:v4.oneCell'=true) (o5:v5.oneCell'=true) (o6:v6.oneCell'=true) (o7:v7.oneCell'=true) (o8:v8.oneCell'=true) (o9:v9.oneCell'=true) (o10:v10.oneCell'=true) (o11:v11.oneCell'=true) (o12:v12.oneCell'=true) (o13:v13.oneCell'=true) (o14:v14.oneCell'=true) (o15:v15.oneCell'=true) (o16:v16.oneCell'=true) (o17:v17.oneCell'=true) (o18:v18.oneCell'=true) (o19:v19.oneCell'=true) (o20:v20.oneCell'=true) (o21:v21.oneCell'=true) (o22:v22.oneCell'=true) (o23:v23.oneCell'=true) (o24:v24.oneCell'=true) (o25:v25.oneCell'=true) (o26:v26.oneCell'=true) (o27:v27.oneCell'=true) (o28:v28.oneCell'=true) (o29:v29.oneCell'=true) (o30:v30.oneCell'=true) (o31:v31.oneCell'=true) (o32:v32.oneCell'=true):(svAct ⟨b,o,none⟩ (.agg #[v0,v1,v2,v3,v4,v5,v6,v7,v8,v9,v10,v11,v12,v13,v14,v15,v16,v17,v18,v19,v20,v21,v22,v23,v24,v25,v26,v27,v28,v29,v30,v31,v32])).run Tryz.prog w=.ok () (((((((((((((((((((((((((((((((((w.setCell ⟨b,o,none⟩ v0).setCell ⟨b,o+1,none⟩ v1).setCell ⟨b,o+2,none⟩ v2).setCell ⟨b,o+3,none⟩ v3).setCell ⟨b,o+4,none⟩ v4).setCell ⟨b,o+5,none⟩ v5).setCell ⟨b,o+6,none⟩ v6).setCell ⟨b,o+7,none⟩ v7).setCell ⟨b,o+8,none⟩ v8).setCell ⟨b,o+9,none⟩ v9).setCell ⟨b,o+10,none⟩ v10).setCell ⟨b,o+11,none⟩ v11).setCell ⟨b,o+12,none⟩ v12).setCell ⟨b,o+13,none⟩ v13).setCell ⟨b,o+14,none⟩ v14).setCell ⟨b,o+15,none⟩ v15).setCell ⟨b,o+16,none⟩ v16).setCell ⟨b,o+17,none⟩ v17).setCell ⟨b,o+18,none⟩ v18).setCell ⟨b,o+19,none⟩ v19).setCell ⟨b,o+20,none⟩ v20).setCell ⟨b,o+21,none⟩ v21).setCell ⟨b,o+22,none⟩ v22).setCell ⟨b,o+23,none⟩ v23).setCell ⟨b,o+24,none⟩ v24).setCell ⟨b,o+25,none⟩ v25).setCell ⟨b,o+26,none⟩ v26).setCell ⟨b,o+27,none⟩ v27).setCell ⟨b,o+28,none⟩ v28).setCell ⟨b,o+29,none⟩ v29).setCell ⟨b,o+30,none⟩ v30).setCell ⟨b,o+31,none⟩ v31).setCell ⟨b,o+32,none⟩ v32):=run_sv (P:=Tryz.prog) w 43 b o [v0,v1,v2,v3,v4,v5,v6,v7,v8,v9,v10,v11,v12,v13,v14,v15,v16,v17,v18,v19,v20,v21,v22,v23,v24,v25,v26,v27,v28,v29,v30,v31,v32] (by kernel_rfl) (forall_lt_succ _ _ (forall_lt_succ _ _ (forall_lt_succ _ _ (forall_lt_succ _ _ (forall_lt_succ _ _ (forall_lt_succ _ _ (forall_lt_succ _ _ (forall_lt_succ _ _ (forall_lt_succ _ _ (forall_lt_succ _ _ (forall_lt_succ _ _ (forall_lt_succ _ _ (forall_lt_succ _ _ (forall_lt_succ _ _ (forall_lt_succ _ _ (forall_lt_succ _ _ (forall_lt_succ _ _ (forall_lt_succ _ _ (forall_lt_succ _ _ (forall_lt_succ _ _ (forall_lt_succ _ _ (forall_lt_succ _ _ (forall_lt_succ _ _ (forall_lt_succ _ _ (forall_lt_succ _ _ (forall_lt_succ _ _ (forall_lt_succ _ _ (forall_lt_succ _ _ (forall_lt_succ _ _ (forall_lt_succ _ _ (forall_lt_succ _ _ (forall_lt_succ _ _ (forall_lt_succ _ _ (fun j hj=>absurd hj (Nat.not_lt_zero j)) ⟨h0,f0,o0⟩) ⟨h1,f1,o1⟩) ⟨h2,f2,o2⟩) ⟨h3,f3,o3⟩) ⟨h4,f4,o4⟩) ⟨h5,f5,o5⟩) ⟨h6,f6,o6⟩) ⟨h7,f7,o7⟩) ⟨h8,f8,o8⟩) ⟨h9,f9,o9⟩) ⟨h10,f10,o10⟩) ⟨h11,f11,o11⟩) ⟨h12,f12,o12⟩) ⟨h13,f13,o13⟩) ⟨h14,f14,o14⟩) ⟨h15,f15,o15⟩) ⟨h16,f16,o16⟩) ⟨h17,f17,o17⟩) ⟨h18,f18,o18⟩) ⟨h19,f19,o19⟩) ⟨h20,f20,o20⟩) ⟨h21,f21,o21⟩) ⟨h22,f22,o22⟩) ⟨h23,f23,o23⟩) ⟨h24,f24,o24⟩) ⟨h25,f25,o25⟩) ⟨h26,f26,o26⟩) ⟨h27,f27,o27⟩) ⟨h28,f28,o28⟩) ⟨h29,f29,o29⟩) ⟨h30,f30,o30⟩) ⟨h31,f31,o31⟩) ⟨h32,f32,o32⟩)
def lvRop (a:Addr):Sem Value:=loadVar 41 a
@[go_sem ↓] theorem lvRop_eq (a:Addr):loadVar 41 a=lvRop a:=rfl
@[go_sem] theorem run_lvRop (w:World) (b o:Nat) (h0:(w.cell? ⟨b,o,none⟩).isSome=true) (h1:(w.cell? ⟨b,o+1,none⟩).isSome=true) (h2:(w.cell? ⟨b,o+2,none⟩).isSome=true) (h3:(w.cell? ⟨b,o+3,none⟩).isSome=true) (h4:(w.cell? ⟨b,o+4,none⟩).isSome=true) (h5:(w.cell? ⟨b,o+5,none⟩).isSome=true) (h6:(w.cell? ⟨b,o+6,none⟩).isSome=true) (h7:(w.cell? ⟨b,o+7,none⟩).isSome=true) (h8:(w.cell? ⟨b,o+8,none⟩).isSome=true):(lvRop ⟨b,o,none⟩).run Tryz.prog w=.ok (.agg #[(w.cell? ⟨b,o,none⟩).getD undef,(w.cell? ⟨b,o+1,none⟩).getD undef,(w.cell? ⟨b,o+2,none⟩).getD undef,(w.cell? ⟨b,o+3,none⟩).getD undef,(w.cell? ⟨b,o+4,none⟩).getD undef,(w.cell? ⟨b,o+5,none⟩).getD undef,(w.cell? ⟨b,o+6,none⟩).getD undef,(w.cell? ⟨b,o+7,none⟩).getD undef,(w.cell? ⟨b,o+8,none⟩).getD undef]) w:=run_lv (P:=Tryz.prog) w 41 _ 9 b o Tryz.underlying41 rfl (by kernel_rfl) (forall_lt_succ _ _ (forall_lt_succ _ _ (forall_lt_succ _ _ (forall_lt_succ _ _ (forall_lt_succ _ _ (forall_lt_succ _ _ (forall_lt_succ _ _ (forall_lt_succ _ _ (forall_lt_succ _ _ (fun j hj=>absurd hj (Nat.not_lt_zero j)) h0) h1) h2) h3) h4) h5) h6) h7) h8)
def svRop (a:Addr) (v:Value):Sem Unit:=storeVar 41 a v
@[go_sem ↓] theorem svRop_eq (a:Addr) (v:Value):storeVar 41 a v=svRop a v:=rfl
@[go_sem] theorem run_svRop (w:World) (b o:Nat) (v0 v1 v2 v3 v4 v5 v6 v7 v8:Value) (h0:(w.cell? ⟨b,o,none⟩).isSome=true) (h1:(w.cell? ⟨b,o+1,none⟩).isSome=true) (h2:(w.cell? ⟨b,o+2,none⟩).isSome=true) (h3:(w.cell? ⟨b,o+3,none⟩).isSome=true) (h4:(w.cell? ⟨b,o+4,none⟩).isSome=true) (h5:(w.cell? ⟨b,o+5,none⟩).isSome=true) (h6:(w.cell? ⟨b,o+6,none⟩).isSome=true) (h7:(w.cell? ⟨b,o+7,none⟩).isSome=true) (h8:(w.cell? ⟨b,o+8,none⟩).isSome=true) (f0:w.frozen? ⟨b,o,none⟩=false) (f1:w.frozen? ⟨b,o+1,none⟩=false) (f2:w.frozen? ⟨b,o+2,none⟩=false) (f3:w.frozen? ⟨b,o+3,none⟩=false) (f4:w.frozen? ⟨b,o+4,none⟩=false) (f5:w.frozen? ⟨b,o+5,none⟩=false) (f6:w.frozen? ⟨b,o+6,none⟩=false) (f7:w.frozen? ⟨b,o+7,none⟩=false) (f8:w.frozen? ⟨b,o+8,none⟩=false) (o0:v0.oneCell'=true) (o1:v1.oneCell'=true) (o2:v2.oneCell'=true) (o3:v3.oneCell'=true) (o4:v4.oneCell'=true) (o5:v5.oneCell'=true) (o6:v6.oneCell'=true) (o7:v7.oneCell'=true) (o8:v8.oneCell'=true):(svRop ⟨b,o,none⟩ (.agg #[v0,v1,v2,v3,v4,v5,v6,v7,v8])).run Tryz.prog w=.ok () (((((((((w.setCell ⟨b,o,none⟩ v0).setCell ⟨b,o+1,none⟩ v1).setCell ⟨b,o+2,none⟩ v2).setCell ⟨b,o+3,none⟩ v3).setCell ⟨b,o+4,none⟩ v4).setCell ⟨b,o+5,none⟩ v5).setCell ⟨b,o+6,none⟩ v6).setCell ⟨b,o+7,none⟩ v7).setCell ⟨b,o+8,none⟩ v8):=run_sv (P:=Tryz.prog) w 41 b o [v0,v1,v2,v3,v4,v5,v6,v7,v8] (by kernel_rfl) (forall_lt_succ _ _ (forall_lt_succ _ _ (forall_lt_succ _ _ (forall_lt_succ _ _ (forall_lt_succ _ _ (forall_lt_succ _ _ (forall_lt_succ _ _ (forall_lt_succ _ _ (forall_lt_succ _ _ (fun j hj=>absurd hj (Nat.not_lt_zero j)) ⟨h0,f0,o0⟩) ⟨h1,f1,o1⟩) ⟨h2,f2,o2⟩) ⟨h3,f3,o3⟩) ⟨h4,f4,o4⟩) ⟨h5,f5,o5⟩) ⟨h6,f6,o6⟩) ⟨h7,f7,o7⟩) ⟨h8,f8,o8⟩)
def lvWds (a:Addr):Sem Value:=loadVar 59 a
@[go_sem ↓] theorem lvWds_eq (a:Addr):loadVar 59 a=lvWds a:=rfl
@[go_sem] theorem run_lvWds (w:World) (b o:Nat) (h0:(w.cell? ⟨b,o,none⟩).isSome=true):(lvWds ⟨b,o,none⟩).run Tryz.prog w=.ok (.agg #[(w.cell? ⟨b,o,none⟩).getD undef]) w:=run_lv (P:=Tryz.prog) w 59 _ 1 b o Tryz.underlying59 rfl (by kernel_rfl) (forall_lt_succ _ _ (fun j hj=>absurd hj (Nat.not_lt_zero j)) h0)
def svWds (a:Addr) (v:Value):Sem Unit:=storeVar 59 a v
@[go_sem ↓] theorem svWds_eq (a:Addr) (v:Value):storeVar 59 a v=svWds a v:=rfl
@[go_sem] theorem run_svWds (w:World) (b o:Nat) (v0:Value) (h0:(w.cell? ⟨b,o,none⟩).isSome=true) (f0:w.frozen? ⟨b,o,none⟩=false) (o0:v0.oneCell'=true):(svWds ⟨b,o,none⟩ (.agg #[v0])).run Tryz.prog w=.ok () (w.setCell ⟨b,o,none⟩ v0):=run_sv (P:=Tryz.prog) w 59 b o [v0] (by kernel_rfl) (forall_lt_succ _ _ (fun j hj=>absurd hj (Nat.not_lt_zero j)) ⟨h0,f0,o0⟩)
def lvLne (a:Addr):Sem Value:=loadVar 82 a
@[go_sem ↓] theorem lvLne_eq (a:Addr):loadVar 82 a=lvLne a:=rfl
@[go_sem] theorem run_lvLne (w:World) (b o:Nat) (h0:(w.cell? ⟨b,o,none⟩).isSome=true):(lvLne ⟨b,o,none⟩).run Tryz.prog w=.ok (.agg #[(w.cell? ⟨b,o,none⟩).getD undef]) w:=run_lv (P:=Tryz.prog) w 82 _ 1 b o Tryz.underlying82 rfl (by kernel_rfl) (forall_lt_succ _ _ (fun j hj=>absurd hj (Nat.not_lt_zero j)) h0)
def svLne (a:Addr) (v:Value):Sem Unit:=storeVar 82 a v
@[go_sem ↓] theorem svLne_eq (a:Addr) (v:Value):storeVar 82 a v=svLne a v:=rfl
@[go_sem] theorem run_svLne (w:World) (b o:Nat) (v0:Value) (h0:(w.cell? ⟨b,o,none⟩).isSome=true) (f0:w.frozen? ⟨b,o,none⟩=false) (o0:v0.oneCell'=true):(svLne ⟨b,o,none⟩ (.agg #[v0])).run Tryz.prog w=.ok () (w.setCell ⟨b,o,none⟩ v0):=run_sv (P:=Tryz.prog) w 82 b o [v0] (by kernel_rfl) (forall_lt_succ _ _ (fun j hj=>absurd hj (Nat.not_lt_zero j)) ⟨h0,f0,o0⟩)
def lvLin (a:Addr):Sem Value:=loadVar 65 a
@[go_sem ↓] theorem lvLin_eq (a:Addr):loadVar 65 a=lvLin a:=rfl
@[go_sem] theorem run_lvLin (w:World) (b o:Nat) (h0:(w.cell? ⟨b,o,none⟩).isSome=true) (h1:(w.cell? ⟨b,o+1,none⟩).isSome=true):(lvLin ⟨b,o,none⟩).run Tryz.prog w=.ok (.agg #[(w.cell? ⟨b,o,none⟩).getD undef,(w.cell? ⟨b,o+1,none⟩).getD undef]) w:=run_lv (P:=Tryz.prog) w 65 _ 2 b o Tryz.underlying65 rfl (by kernel_rfl) (forall_lt_succ _ _ (forall_lt_succ _ _ (fun j hj=>absurd hj (Nat.not_lt_zero j)) h0) h1)
def svLin (a:Addr) (v:Value):Sem Unit:=storeVar 65 a v
@[go_sem ↓] theorem svLin_eq (a:Addr) (v:Value):storeVar 65 a v=svLin a v:=rfl
@[go_sem] theorem run_svLin (w:World) (b o:Nat) (v0 v1:Value) (h0:(w.cell? ⟨b,o,none⟩).isSome=true) (h1:(w.cell? ⟨b,o+1,none⟩).isSome=true) (f0:w.frozen? ⟨b,o,none⟩=false) (f1:w.frozen? ⟨b,o+1,none⟩=false) (o0:v0.oneCell'=true) (o1:v1.oneCell'=true):(svLin ⟨b,o,none⟩ (.agg #[v0,v1])).run Tryz.prog w=.ok () ((w.setCell ⟨b,o,none⟩ v0).setCell ⟨b,o+1,none⟩ v1):=run_sv (P:=Tryz.prog) w 65 b o [v0,v1] (by kernel_rfl) (forall_lt_succ _ _ (forall_lt_succ _ _ (fun j hj=>absurd hj (Nat.not_lt_zero j)) ⟨h0,f0,o0⟩) ⟨h1,f1,o1⟩)
theorem sliteIndexByte (s:ByteArray) (c:Int) (w:World) :
  Calls Tryz.prog 100 #[.string s,.int .u8 c] w fun e w'=>e=.returned (.int .i64 (Lib.indexByte s.data.toList c.toNat.toUInt8))∧w=w':=by
 go_enter Tryz.func100,Tryz.ntmps100
 go_wp2
 rw [run_callFunc_extern Tryz.func123 (by kernel_rfl) (by kernel_rfl) (by kernel_rfl) (e:=Extern.BytealgIndexByte.indexByte) (by kernel_rfl),Lib.run_indexByteString]
 simp only [Result.andThen]
 rw [Oper.upon_value]
 go_wp2
 go_ret
 exact ⟨rfl,rfl⟩
theorem indexByte (s:ByteArray) (c:Int) (w:World) :
  Calls Tryz.prog 114 #[.string s,.int .u8 c] w fun e w'=>e=.returned (.int .i64 (Lib.indexByte s.data.toList c.toNat.toUInt8))∧w=w':=by
 go_enter Tryz.func114,Tryz.ntmps114
 go_wp2_with (go_at_call 100;refine (sliteIndexByte _ _ _).mono ?_;rintro e w' ⟨rfl,rfl⟩)
 go_ret
 exact ⟨rfl,rfl⟩
end Go.Proofs.YtbdanlipghhgpaaGreatDoor
namespace Go.Proofs.YtbdanlipghhgpaaGreatDoor
set_option maxRecDepth 100000
set_option linter.unusedVariables false
set_option maxHeartbeats 64000000
def isLet (c:UInt8):Bool:=decide (97≤c)&&decide (c≤122)
def isPl (c:UInt8):Bool:=isLet c || (decide (48≤c)&&decide (c≤57)) || c==95
def plB (s:ByteArray):Bool:=s.data.toList.all isPl
def nameB (s:ByteArray):Bool:=decide (0 < s.size)&&decide (s.size≤16)&&isLet (s.data.toList.headD 0)&&plB s
def ltIdx (c:UInt8):Int:=Lib.indexByte [97,98,99,100,101,102,103,104,105,106,107,108,109,110,111,112,113,114,115,116,117,118,119,120,121,122] c
def plIdx (c:UInt8):Int:=Lib.indexByte [97,98,99,100,101,102,103,104,105,106,107,108,109,110,111,112,113,114,115,116,117,118,119,120,121,122,48,49,50,51,52,53,54,55,56,57,95] c
theorem all256 {p:UInt8→Bool} (h:∀ n:Fin 256,p (UInt8.ofNat n.val)=true) (c:UInt8):p c=true:=by
 have:=h ⟨c.toNat,c.toNat_lt⟩
 simpa using this
theorem ltIdx_neg (c:UInt8):decide (ltIdx c < 0)=!isLet c:=by
 have:=all256 (p:=fun c=>decide (ltIdx c < 0)==!isLet c) (by decide +kernel) c
 simpa using this
theorem plIdx_neg (c:UInt8):decide (plIdx c < 0)=!isPl c:=by
 have:=all256 (p:=fun c=>decide (plIdx c < 0)==!isPl c) (by decide +kernel) c
 simpa using this
theorem ltIdx_iff (c:UInt8):ltIdx c < 0↔isLet c=false:=by
 have:=ltIdx_neg c;cases h:isLet c<;>simp_all
theorem plIdx_iff (c:UInt8):plIdx c < 0↔isPl c=false:=by
 have:=plIdx_neg c;cases h:isPl c<;>simp_all
theorem isLet_iff (c:UInt8):isLet c=true↔97≤(c.toNat:Int)∧(c.toNat:Int)≤122:=by
 simp [isLet,UInt8.le_iff_toNat_le];omega
theorem isPl_iff (c:UInt8):isPl c=true↔(97≤(c.toNat:Int)∧(c.toNat:Int)≤122)∨(48≤(c.toNat:Int)∧(c.toNat:Int)≤57)∨(c.toNat:Int)=95:=by
 simp [isPl,isLet,UInt8.le_iff_toNat_le,← UInt8.toNat_inj];omega
theorem all_take_succ {α:Type} (p:α→Bool) (l:List α) (k:Nat) (h:k < l.length):(l.take (k+1)).all p=((l.take k).all p&&p l[k]):=by
 rw [List.take_succ_eq_append_getElem h];simp only [List.all_append,List.all_cons,List.all_nil,Bool.and_true]
theorem ba_length (s:ByteArray):s.data.toList.length=s.size:=by simp
theorem ba_get (s:ByteArray) (k:Nat) (h:k < s.size):s.data.toList[k]'(by simpa using h)=s[k]:=rfl
theorem pl_succ (s:ByteArray) (k:Nat) (h:k < s.size):(s.data.toList.take (k+1)).all isPl=((s.data.toList.take k).all isPl&&isPl s[k]):=by
 rw [all_take_succ isPl _ k (by simpa using h)];rfl
theorem pl_false (s:ByteArray) (k:Nat) (h:k < s.size) (hp:isPl s[k]=false):plB s=false:=by
 have:s[k]∈s.data.toList:=by rw [← ba_get s k h];exact List.getElem_mem _
 simp only [plB,Bool.eq_false_iff,ne_eq,List.all_eq_true]
 intro hall;have:=hall _ this;simp [hp] at this
theorem pl_true (s:ByteArray) (k:Nat) (h:¬ k < s.size) (hp:(s.data.toList.take k).all isPl=true):plB s=true:=by
 rw [List.take_of_length_le (by rw [ba_length];omega)] at hp;exact hp
theorem head_get (s:ByteArray) (h:0 < s.size):s.data.toList.headD 0=s[0]:=by
 have h1:s.data.toList≠[]:=by intro e;have:=ba_length s;simp [e] at this;omega
 obtain ⟨a,l,e⟩:=List.exists_cons_of_ne_nil h1
 have:s.data.toList[0]'(by rw [ba_length];exact h)=s[0]:=rfl
 simp only [e,List.headD_cons] at this ⊢
 simpa using this
end Go.Proofs.YtbdanlipghhgpaaGreatDoor
namespace Go.Proofs.YtbdanlipghhgpaaGreatDoor
open Go.RowKit
set_option maxRecDepth 100000
set_option linter.unusedVariables false
set_option maxHeartbeats 64000000
theorem indexLet (c:UInt8) (w:World) :
  Calls Tryz.prog 114 #[.string { data:=#[97,98,99,100,101,102,103,104,105,106,107,108,109,110,111,112,113,114,115,116,117,118,119,120,121,122] },.int .u8 c.toNat] w fun e w'=>e=.returned (.int .i64 (ltIdx c))∧w=w':=by
 refine (indexByte _ _ w).mono ?_
 rintro e w' ⟨rfl,rfl⟩
 refine ⟨?_,rfl⟩
 have:((c.toNat:Int).toNat.toUInt8)=c:=by simp
 rw [this];rfl
theorem indexPl (c:UInt8) (w:World) :
  Calls Tryz.prog 114 #[.string { data:=#[97,98,99,100,101,102,103,104,105,106,107,108,109,110,111,112,113,114,115,116,117,118,119,120,121,122,48,49,50,51,52,53,54,55,56,57,95] },.int .u8 c.toNat] w fun e w'=>e=.returned (.int .i64 (plIdx c))∧w=w':=by
 refine (indexByte _ _ w).mono ?_
 rintro e w' ⟨rfl,rfl⟩
 refine ⟨?_,rfl⟩
 have:((c.toNat:Int).toNat.toUInt8)=c:=by simp
 rw [this];rfl
theorem plain_any (s:ByteArray) (w:World) (hs:s.size≤maxLen) :
  Calls Tryz.prog 115 #[.string s] w fun e w'=>e=.returned (.bool (plB s))∧w=w':=by
 unfold maxLen at hs
 go_enter Tryz.func115,Tryz.ntmps115
 go_wp2_with fail
 go_loop [6] (fun i=>∃ k:Nat,k≤s.size∧i=.int .i64 k∧(s.data.toList.take k).all isPl=true) (fun i=>s.size - (intOf i).toNat)
 case atStart=>exact ⟨0,Nat.zero_le _,rfl,rfl⟩
 case round =>
  obtain ⟨k,hk,rfl,ha⟩:=hrel
  have HA:=gH ha;clear ha
  by_cases hlt:k < s.size
  ·go_wp2_with (go_at_call 114;refine (indexPl _ _).mono ?_;rintro e w' ⟨rfl,rfl⟩)
   ·have hp:isPl s[k]=false:=(plIdx_iff _).1 (by assumption)
    go_ret
    exact ⟨by rw [pl_false s k hlt hp];rfl,rfl⟩
   ·have hp:isPl s[k]=true:=by
     have h0:0≤plIdx s[k]:=by assumption
     have:=plIdx_iff s[k]
     cases h:isPl s[k]
     ·have:=this.2 h;omega
     ·rfl
    go_round
    case rel=>exact ⟨k+1,by omega,by go_num,by rw [pl_succ s k hlt,HA.out,hp];rfl⟩
    case measure=>simp [intOf];omega
  ·go_wp2_with fail
   go_ret
   exact ⟨by rw [pl_true s k hlt HA.out];rfl,rfl⟩
theorem toList_nil_iff (s:ByteArray):s.toList=[]↔s.size=0:=by
 rw [ByteArray.toList_eq]
 rw [← List.length_eq_zero_iff,ba_length]
theorem isEmpty_iff (s:ByteArray):s.toList.isEmpty=decide (s.size=0):=by
 rw [Bool.eq_iff_iff];simp [toList_nil_iff]
theorem nameB_of (s:ByteArray) (h:0 < s.size):nameB s=(decide (s.size≤16)&&(isLet s[0]&&plB s)):=by
 unfold nameB;rw [head_get s h,decide_eq_true h,Bool.true_and,Bool.and_assoc]
theorem name_any (s:ByteArray) (w:World) (hs:s.size≤maxLen) :
  Calls Tryz.prog 81 #[.string s] w fun e w'=>e=.returned (.bool (nameB s))∧w=w':=by
 have hs':=hs
 unfold maxLen at hs
 by_cases h0:0 < s.size
 ·have H:=gH (nameB_of s h0)
  have hl:=gH (ltIdx_iff s[0])
  have he:s.toList.isEmpty=false:=by rw [isEmpty_iff];exact decide_eq_false (by omega)
  have he':¬ s.toList=[]:=by rw [toList_nil_iff];omega
  go_enter Tryz.func81,Tryz.ntmps81
  go_wp2_with (first | (go_at_call 114;refine (indexLet _ _).mono ?_;rintro e w' ⟨rfl,rfl⟩) | (go_at_call 115;refine (plain_any _ _ hs').mono ?_;rintro e w' ⟨rfl,rfl⟩))
  ·have a1:s.size≤16:=by have:(s.size:Int)≤16:=(by assumption);omega
   have a2:isLet s[0]=true:=by
    have h0:0≤ltIdx s[0]:=by assumption
    cases h:isLet s[0]
    ·have:=hl.out.2 h;omega
    ·rfl
   go_ret
   exact ⟨by rw [H.out,decide_eq_true a1,a2];rfl,rfl⟩
  ·have a2:isLet s[0]=false:=hl.out.1 (by assumption)
   go_ret
   exact ⟨by rw [H.out,a2,Bool.false_and,Bool.and_false];rfl,rfl⟩
  ·have a1:¬ s.size≤16:=by have:16 < (s.size:Int):=(by assumption);omega
   go_ret
   exact ⟨by rw [H.out,decide_eq_false a1];rfl,rfl⟩
 ·have he:s.toList.isEmpty=true:=by rw [isEmpty_iff];exact decide_eq_true (by omega)
  have he':s.toList=[]:=by rw [toList_nil_iff];omega
  have H:=gH (show nameB s=false by simp [nameB,h0])
  go_enter Tryz.func81,Tryz.ntmps81
  go_wp2_with fail
  go_ret
  exact ⟨by rw [H.out];rfl,rfl⟩
theorem isPl_false (c:UInt8):isPl c=false↔¬ ((97≤(c.toNat:Int)∧(c.toNat:Int)≤122)∨(48≤(c.toNat:Int)∧(c.toNat:Int)≤57)∨(c.toNat:Int)=95):=by
 rw [← isPl_iff];simp
theorem rname_no (s:ByteArray) (w:World) (hs:s.size≤maxLen) (hn:nameB s=false) (hx:s.size=0∨16 < s.size∨∃ h:0 < s.size,(s[0].toNat:Int) < 97∨122 < (s[0].toNat:Int)) :
  Calls Tryz.prog 87 #[.string s] w fun e w'=>e=.returned (.bool (nameB s))∧w=w':=by
 unfold maxLen at hs
 have H:=gH hn
 clear hn
 rcases hx with hx | hx | ⟨h0,hx⟩
 ·have hx':(s.size:Int) < 1:=by omega
  clear hx
  go_enter Tryz.func87,Tryz.ntmps87
  go_wp2_with fail
  go_ret
  exact ⟨by rw [H.out];rfl,rfl⟩
 ·go_enter Tryz.func87,Tryz.ntmps87
  go_wp2_with fail
  go_ret
  exact ⟨by rw [H.out];rfl,rfl⟩
 ·by_cases h1:s.size≤16
  ·rcases hx with hx | hx
   all_goals
    go_enter Tryz.func87,Tryz.ntmps87
    go_wp2_with fail
    go_ret
    exact ⟨by rw [H.out];rfl,rfl⟩
  ·go_enter Tryz.func87,Tryz.ntmps87
   go_wp2_with fail
   go_ret
   exact ⟨by rw [H.out];rfl,rfl⟩
theorem rname_yes (s:ByteArray) (w:World) (hs:s.size≤maxLen) (h0:0 < s.size) (h1:s.size≤16) (h2:97≤(s[0].toNat:Int)) (h3:(s[0].toNat:Int)≤122) (hn:nameB s=plB s) :
  Calls Tryz.prog 87 #[.string s] w fun e w'=>e=.returned (.bool (nameB s))∧w=w':=by
 unfold maxLen at hs
 have H:=gH hn
 clear hn
 go_enter Tryz.func87,Tryz.ntmps87
 go_wp2_with fail
 go_loop [3] (fun i=>∃ k:Nat,k≤s.size∧i=.int .i64 k∧(s.data.toList.take k).all isPl=true) (fun i=>s.size - (intOf i).toNat)
 case atStart=>exact ⟨0,Nat.zero_le _,rfl,rfl⟩
 case round =>
  obtain ⟨k,hk,rfl,ha⟩:=hrel
  have HA:=gH ha;clear ha
  by_cases hlt:k < s.size
  ·have hp:=isPl_false s[k]
   have hps:=pl_succ s k hlt
   cases hq:isPl s[k]
   ·have H2:=gH (pl_false s k hlt hq)
    have hb0:=hp.1 hq
    have hb:(s[k].toNat:Int) < 48∨(58≤(s[k].toNat:Int)∧(s[k].toNat:Int) < 95)∨(96≤(s[k].toNat:Int)∧(s[k].toNat:Int) < 97)∨122 < (s[k].toNat:Int):=by omega
    have hne:((s[k].toNat:Int) != 95)=true:=by rw [bne_iff_ne];omega
    clear hp hq hps hb0
    rcases hb with hb | hb | hb | hb
    all_goals
     go_wp2_with fail
     go_ret
     exact ⟨by rw [H.out,H2.out];rfl,rfl⟩
   ·rw [hq] at hps hp
    have HS:=gH hps
    have hb:((97≤(s[k].toNat:Int)∧(s[k].toNat:Int)≤122)∨(48≤(s[k].toNat:Int)∧(s[k].toNat:Int)≤57)∨(s[k].toNat:Int)=95):=by
     rw [← isPl_iff,hq]
    clear hp hq hps
    have fin:(List.take (k+1) s.data.toList).all isPl=true:=by rw [HS.out,HA.out];rfl
    have FIN:=gH fin
    clear fin
    rcases hb with hb | hb | hb
    all_goals
     go_wp2_with fail
     go_round
     case rel=>exact ⟨k+1,by omega,by go_num,FIN.out⟩
     case measure=>simp [intOf];omega
  ·go_wp2_with fail
   go_ret
   exact ⟨by rw [H.out,pl_true s k hlt HA.out];rfl,rfl⟩
theorem rname_any (s:ByteArray) (w:World) (hs:s.size≤maxLen) :
  Calls Tryz.prog 87 #[.string s] w fun e w'=>e=.returned (.bool (nameB s))∧w=w':=by
 by_cases h0:0 < s.size
 ·by_cases h1:s.size≤16
  ·by_cases h2:97≤(s[0].toNat:Int)
   ·by_cases h3:(s[0].toNat:Int)≤122
    ·exact rname_yes s w hs h0 h1 h2 h3 (by rw [nameB_of s h0,decide_eq_true h1,(isLet_iff _).2 ⟨h2,h3⟩];rfl)
    ·refine rname_no s w hs ?_ (.inr (.inr ⟨h0,.inr (by omega)⟩))
     rw [nameB_of s h0,show isLet s[0]=false by rw [← Bool.not_eq_true,isLet_iff];omega];simp
   ·refine rname_no s w hs ?_ (.inr (.inr ⟨h0,.inl (by omega)⟩))
    rw [nameB_of s h0,show isLet s[0]=false by rw [← Bool.not_eq_true,isLet_iff];omega];simp
  ·exact rname_no s w hs (by rw [nameB_of s h0,decide_eq_false h1];rfl) (.inr (.inl (by omega)))
 ·exact rname_no s w hs (by simp [nameB,h0]) (.inl (by omega))
structure Col where
 name:ByteArray
 kind:Int
 null:Bool
structure Rul where
 name:ByteArray
 kind:Int
 cols:List ByteArray
 low:Int
 high:Int
 schema:ByteArray
 table:ByteArray
 key:ByteArray
def eqS (a b:ByteArray):Bool:=a.toList==b.toList
def StrR (_:World) (cs:List Value) (s:ByteArray):Prop:=cs=[.string s]∧Small s.size
def ColR (_:World) (cs:List Value) (c:Col):Prop:=cs=[.string c.name,.int .i64 c.kind,.bool c.null]∧Small c.name.size
def RulR (w:World) (cs:List Value) (r:Rul):Prop :=
 ∃ A cap,cs=[.string r.name,.int .i64 r.kind,.slice A r.cols.length cap,.int .i64 r.low,.int .i64 r.high,.string r.schema,.string r.table,.string r.key] ∧
  SlAt w 1 StrR A cap r.cols∧Small r.name.size∧Small r.schema.size∧Small r.table.size∧Small r.key.size
section
variable {w w' : World}
theorem strs_aft {A:Option Addr} {cap:Nat} {l:List ByteArray} (hw:Aft w w') (h:SlAt w 1 StrR A cap l):SlAt w' 1 StrR A cap l:=h.aft hw fun _ _ h=>h
theorem cols_aft {A:Option Addr} {cap:Nat} {l:List Col} (hw:Aft w w') (h:SlAt w 3 ColR A cap l):SlAt w' 3 ColR A cap l:=h.aft hw fun _ _ h=>h
theorem RulR.aft {cs:List Value} {r:Rul} (hw:Aft w w') (h:RulR w cs r):RulR w' cs r:=by
 obtain ⟨A,cap,e,hs,h1⟩:=h
 exact ⟨A,cap,e,strs_aft hw hs,h1⟩
theorem ruls_aft {A:Option Addr} {cap:Nat} {l:List Rul} (hw:Aft w w') (h:SlAt w 8 RulR A cap l):SlAt w' 8 RulR A cap l:=h.aft hw fun _ _ h=>RulR.aft hw h
theorem str_at {A:Option Addr} {cap:Nat} {l:List ByteArray} (h:SlAt w 1 StrR A cap l) {k:Nat} (hk:k < l.length) :
  ∃ b off,A=some ⟨b,off,none⟩∧b < w.heap.size∧w.cell? ⟨b,off+k,none⟩=some (.string l[k])∧Small l[k].size:=by
 obtain ⟨b,off,cs,hA,hb,hl,⟨rfl,hs⟩,hc⟩:=h.2.2 k hk
 refine ⟨b,off,hA,hb,?_,hs⟩
 have:=hc 0 (by omega)
 simpa using this
theorem col_at {A:Option Addr} {cap:Nat} {l:List Col} (h:SlAt w 3 ColR A cap l) {k:Nat} (hk:k < l.length) :
  ∃ b off,A=some ⟨b,off,none⟩∧b < w.heap.size∧w.cell? ⟨b,off+k*3,none⟩=some (.string l[k].name)∧w.cell? ⟨b,off+k*3+1,none⟩=some (.int .i64 l[k].kind)∧w.cell? ⟨b,off+k*3+2,none⟩=some (.bool l[k].null)∧Small l[k].name.size:=by
 obtain ⟨b,off,cs,hA,hb,hl,⟨rfl,hs⟩,hc⟩:=h.2.2 k hk
 exact ⟨b,off,hA,hb,by simpa using hc 0 (by omega),by simpa [Nat.add_assoc] using hc 1 (by omega),by simpa [Nat.add_assoc] using hc 2 (by omega),hs⟩
theorem rul_at {A:Option Addr} {cap:Nat} {l:List Rul} (h:SlAt w 8 RulR A cap l) {k:Nat} (hk:k < l.length) :
  ∃ b off A2 cap2,A=some ⟨b,off,none⟩∧b < w.heap.size∧w.cell? ⟨b,off+k*8,none⟩=some (.string l[k].name)∧w.cell? ⟨b,off+k*8+1,none⟩=some (.int .i64 l[k].kind)∧w.cell? ⟨b,off+k*8+2,none⟩=some (.slice A2 l[k].cols.length cap2) ∧
   w.cell? ⟨b,off+k*8+3,none⟩=some (.int .i64 l[k].low)∧w.cell? ⟨b,off+k*8+4,none⟩=some (.int .i64 l[k].high)∧w.cell? ⟨b,off+k*8+5,none⟩=some (.string l[k].schema)∧w.cell? ⟨b,off+k*8+6,none⟩=some (.string l[k].table)∧w.cell? ⟨b,off+k*8+7,none⟩=some (.string l[k].key) ∧
   SlAt w 1 StrR A2 cap2 l[k].cols∧Small l[k].name.size∧Small l[k].schema.size∧Small l[k].table.size∧Small l[k].key.size:=by
 obtain ⟨b,off,cs,hA,hb,hl,⟨A2,cap2,rfl,hr⟩,hc⟩:=h.2.2 k hk
 exact ⟨b,off,A2,cap2,hA,hb,by simpa using hc 0 (by omega),by simpa [Nat.add_assoc] using hc 1 (by omega),by simpa [Nat.add_assoc] using hc 2 (by omega),by simpa [Nat.add_assoc] using hc 3 (by omega),by simpa [Nat.add_assoc] using hc 4 (by omega),
  by simpa [Nat.add_assoc] using hc 5 (by omega),by simpa [Nat.add_assoc] using hc 6 (by omega),by simpa [Nat.add_assoc] using hc 7 (by omega),hr⟩
theorem SlAt.len {α:Type} {size:Nat} {R:World→List Value→α→Prop} {A:Option Addr} {cap:Nat} {l:List α} (h:SlAt w size R A cap l):l.length*16≤140737488351232:=h.2.1
end
theorem ext_lt {k:Nat} {p:Nat→Prop} (h:∀ j,j < k→p j) (hk:p k):∀ j,j < k+1→p j:=forall_lt_succ k p h hk
end Go.Proofs.YtbdanlipghhgpaaGreatDoor
