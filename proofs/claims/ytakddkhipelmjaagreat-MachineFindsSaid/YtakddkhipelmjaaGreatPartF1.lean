import Derived.WalkKit
import Derived.WalkSpells
import Derived.WalkLawsBesides
import Derived.Laws.Cells
import Derived.Laws.IdiomCopy
import Derived.Test.YtakddkhipelmjaaGreatRows
import Derived.Lib.Hide
import Derived.Deep.QuietTactic
import Derived.BigQuiet
import Derived.Below
import Derived.Deep.Draws
import Derived.StillTailTactics
import Derived.ProofKit
import Derived.OpenShut
import Derived.Deep.Slices
import Derived.ChangeOld
import Derived.SizedLaws
import Derived.OwnWalk
import Derived.Laws.AppendOwn
import Derived.Deep.Upon
import Derived.OneCell
set_option maxRecDepth 100000
set_option linter.unusedVariables false
set_option maxHeartbeats 64000000
namespace Go.Proofs.YtakddkhipelmjaaGreat
open Go.Deep Go.RowKit
theorem gH {p:Prop}(h:p):Go.RowKit.Hid p:=Lib.hid h
theorem lA (b o j:Nat):(Addr.mk b o none).add j=⟨b,o+j,none⟩:=by
 unfold Addr.add;split
 ·rename_i h;rw [h];rfl
 ·rfl
theorem fu {P:Program} (w:World) (T:TypeId) (d:TypeDesc) (k b o:Nat) (hu:P.underlying T=some d) (hd:(match d with | .struct _ | .array _ _=>true | _=>false)=true) (hi:(P.info? T).map (·.size)=some k)
  (h:∀ j,j < k→(w.cell? ⟨b,o+j,none⟩).isSome=true):(loadVar T ⟨b,o,none⟩).run P w=.ok (.agg ((List.range k).map fun j=>(w.cell? ⟨b,o+j,none⟩).getD undef).toArray) w:=by
 have hl:=run_loadCells (P:=P) w ⟨b,o,none⟩ k (fun j=>(w.cell? ⟨b,o+j,none⟩).getD undef) (fun j hj=>by
  rw [lA];obtain ⟨v,hv⟩:=Option.isSome_iff_exists.1 (h j hj)
  rw [hv];rfl)
 cases hq:P.info? T with
 | none=>rw [hq] at hi;cases hi
 | some i =>
  rw [hq] at hi
  have hi':i.size=k:=by simpa using hi
  unfold loadVar
  cases d<;>simp at hd<;>simp [isAgg,run_underlying hu,sizeOf,typeInfo,hq,hi',hl]
theorem fE {P:Program} (w:World) (T:TypeId) (b o:Nat) (vs:List Value) (hi:(P.info? T).map (·.size)=some vs.length)
  (h:∀ j,j < vs.length→(w.cell? ⟨b,o+j,none⟩).isSome=true∧w.frozen? ⟨b,o+j,none⟩=false∧(vs.getD j undef).oneCell'=true):(storeVar T ⟨b,o,none⟩ (.agg vs.toArray)).run P w=.ok () (w.setCells b o vs):=by
 have hs:=run_storeCells_cells (P:=P) b o vs 0 w (fun j hj=>by simpa using (h j hj).1) (fun j hj=>by simpa using (h j hj).2.1) (fun v hv=>by
  obtain ⟨j,hj,rfl⟩:=List.getElem_of_mem hv;have:=(h j hj).2.2
  simpa [List.getD,List.getElem?_eq_getElem hj] using this)
 cases hq:P.info? T with
 | none=>rw [hq] at hi;cases hi
 | some i =>
  rw [hq] at hi
  have hi':i.size=vs.length:=by simpa using hi
  unfold storeVar;simp [sizeOf,typeInfo,hq,hi',Value.cells]
  simpa using hs
theorem ae (k:Nat) (p:Nat→Prop) (h:∀ j,j < k→p j) (hk:p k):∀ j,j < k+1→p j:=fun j hj=>by
 rcases Nat.lt_or_ge j k with h1 | h1
 ·exact h j h1
 ·have:j=k:=by omega
  subst this;exact hk
@[go_sem] theorem PM (x:ByteArray):(Value.string x).oneCell'=true:=by simp [Value.oneCell']
@[go_sem] theorem XG (k:IntKind) (n:Int):(Value.int k n).oneCell'=true:=by simp [Value.oneCell']
@[go_sem] theorem TT (b:Bool):(Value.bool b).oneCell'=true:=by simp [Value.oneCell']
@[go_sem] theorem SM (a:Option Addr) (n c:Nat):(Value.slice a n c).oneCell'=true:=by simp [Value.oneCell']
@[go_sem] theorem Oi (a:Option Addr):(Value.pointer a).oneCell'=true:=by simp [Value.oneCell']
@[go_sem] theorem XH (r:Option Nat):(Value.map r).oneCell'=true:=by simp [Value.oneCell']
def Oj (a:Addr):Sem Value:=loadVar 109 a
@[go_sem ↓] theorem Ho (a:Addr):loadVar 109 a=Oj a:=rfl
@[go_sem] theorem SN (w:World) (b o:Nat) (h0:(w.cell? ⟨b,o,none⟩).isSome=true) (h1:(w.cell? ⟨b,o+1,none⟩).isSome=true):(Oj ⟨b,o,none⟩).run Tryz.prog w=.ok (.agg #[(w.cell? ⟨b,o,none⟩).getD undef,(w.cell? ⟨b,o+1,none⟩).getD undef]) w:=fu (P:=Tryz.prog) w 109 _ 2 b o Tryz.underlying109 rfl (by kernel_rfl) (ae _ _ (ae _ _ (fun j hj=>absurd hj (Nat.not_lt_zero j)) h0) h1)
def Ok (a:Addr) (v:Value):Sem Unit:=storeVar 109 a v
@[go_sem ↓] theorem Hp (a:Addr) (v:Value):storeVar 109 a v=Ok a v:=rfl
@[go_sem] theorem SP (w:World) (b o:Nat) (v0 v1:Value) (h0:(w.cell? ⟨b,o,none⟩).isSome=true) (h1:(w.cell? ⟨b,o+1,none⟩).isSome=true) (f0:w.frozen? ⟨b,o,none⟩=false) (f1:w.frozen? ⟨b,o+1,none⟩=false) (o0:v0.oneCell'=true) (o1:v1.oneCell'=true):(Ok ⟨b,o,none⟩ (.agg #[v0,v1])).run Tryz.prog w=.ok () ((w.setCell ⟨b,o,none⟩ v0).setCell ⟨b,o+1,none⟩ v1):=fE (P:=Tryz.prog) w 109 b o [v0,v1] (by kernel_rfl) (ae _ _ (ae _ _ (fun j hj=>absurd hj (Nat.not_lt_zero j)) ⟨h0,f0,o0⟩) ⟨h1,f1,o1⟩)
def Ol (a:Addr):Sem Value:=loadVar 169 a
@[go_sem ↓] theorem Hq (a:Addr):loadVar 169 a=Ol a:=rfl
@[go_sem] theorem SQ (w:World) (b o:Nat) (h0:(w.cell? ⟨b,o,none⟩).isSome=true) (h1:(w.cell? ⟨b,o+1,none⟩).isSome=true) (h2:(w.cell? ⟨b,o+2,none⟩).isSome=true):(Ol ⟨b,o,none⟩).run Tryz.prog w=.ok (.agg #[(w.cell? ⟨b,o,none⟩).getD undef,(w.cell? ⟨b,o+1,none⟩).getD undef,(w.cell? ⟨b,o+2,none⟩).getD undef]) w:=fu (P:=Tryz.prog) w 169 _ 3 b o Tryz.underlying169 rfl (by kernel_rfl) (ae _ _ (ae _ _ (ae _ _ (fun j hj=>absurd hj (Nat.not_lt_zero j)) h0) h1) h2)
def Om (a:Addr) (v:Value):Sem Unit:=storeVar 169 a v
@[go_sem ↓] theorem Hr (a:Addr) (v:Value):storeVar 169 a v=Om a v:=rfl
@[go_sem] theorem SS (w:World) (b o:Nat) (v0 v1 v2:Value) (h0:(w.cell? ⟨b,o,none⟩).isSome=true) (h1:(w.cell? ⟨b,o+1,none⟩).isSome=true) (h2:(w.cell? ⟨b,o+2,none⟩).isSome=true) (f0:w.frozen? ⟨b,o,none⟩=false) (f1:w.frozen? ⟨b,o+1,none⟩=false) (f2:w.frozen? ⟨b,o+2,none⟩=false) (o0:v0.oneCell'=true) (o1:v1.oneCell'=true) (o2:v2.oneCell'=true):(Om ⟨b,o,none⟩ (.agg #[v0,v1,v2])).run Tryz.prog w=.ok () (((w.setCell ⟨b,o,none⟩ v0).setCell ⟨b,o+1,none⟩ v1).setCell ⟨b,o+2,none⟩ v2):=fE (P:=Tryz.prog) w 169 b o [v0,v1,v2] (by kernel_rfl) (ae _ _ (ae _ _ (ae _ _ (fun j hj=>absurd hj (Nat.not_lt_zero j)) ⟨h0,f0,o0⟩) ⟨h1,f1,o1⟩) ⟨h2,f2,o2⟩)
def Oo (a:Addr):Sem Value:=loadVar 174 a
@[go_sem ↓] theorem Hs (a:Addr):loadVar 174 a=Oo a:=rfl
@[go_sem] theorem SU (w:World) (b o:Nat) (h0:(w.cell? ⟨b,o,none⟩).isSome=true) (h1:(w.cell? ⟨b,o+1,none⟩).isSome=true):(Oo ⟨b,o,none⟩).run Tryz.prog w=.ok (.agg #[(w.cell? ⟨b,o,none⟩).getD undef,(w.cell? ⟨b,o+1,none⟩).getD undef]) w:=fu (P:=Tryz.prog) w 174 _ 2 b o Tryz.underlying174 rfl (by kernel_rfl) (ae _ _ (ae _ _ (fun j hj=>absurd hj (Nat.not_lt_zero j)) h0) h1)
def Oq (a:Addr) (v:Value):Sem Unit:=storeVar 174 a v
@[go_sem ↓] theorem Ht (a:Addr) (v:Value):storeVar 174 a v=Oq a v:=rfl
@[go_sem] theorem SV (w:World) (b o:Nat) (v0 v1:Value) (h0:(w.cell? ⟨b,o,none⟩).isSome=true) (h1:(w.cell? ⟨b,o+1,none⟩).isSome=true) (f0:w.frozen? ⟨b,o,none⟩=false) (f1:w.frozen? ⟨b,o+1,none⟩=false) (o0:v0.oneCell'=true) (o1:v1.oneCell'=true):(Oq ⟨b,o,none⟩ (.agg #[v0,v1])).run Tryz.prog w=.ok () ((w.setCell ⟨b,o,none⟩ v0).setCell ⟨b,o+1,none⟩ v1):=fE (P:=Tryz.prog) w 174 b o [v0,v1] (by kernel_rfl) (ae _ _ (ae _ _ (fun j hj=>absurd hj (Nat.not_lt_zero j)) ⟨h0,f0,o0⟩) ⟨h1,f1,o1⟩)
def Ot (a:Addr):Sem Value:=loadVar 80 a
@[go_sem ↓] theorem Hu (a:Addr):loadVar 80 a=Ot a:=rfl
@[go_sem] theorem Fb (w:World) (b o:Nat) (h0:(w.cell? ⟨b,o,none⟩).isSome=true) (h1:(w.cell? ⟨b,o+1,none⟩).isSome=true) (h2:(w.cell? ⟨b,o+2,none⟩).isSome=true) (h3:(w.cell? ⟨b,o+3,none⟩).isSome=true) (h4:(w.cell? ⟨b,o+4,none⟩).isSome=true):(Ot ⟨b,o,none⟩).run Tryz.prog w=.ok (.agg #[(w.cell? ⟨b,o,none⟩).getD undef,(w.cell? ⟨b,o+1,none⟩).getD undef,(w.cell? ⟨b,o+2,none⟩).getD undef,(w.cell? ⟨b,o+3,none⟩).getD undef,(w.cell? ⟨b,o+4,none⟩).getD undef]) w:=fu (P:=Tryz.prog) w 80 _ 5 b o Tryz.underlying80 rfl (by kernel_rfl) (ae _ _ (ae _ _ (ae _ _ (ae _ _ (ae _ _ (fun j hj=>absurd hj (Nat.not_lt_zero j)) h0) h1) h2) h3) h4)
def Ou (a:Addr) (v:Value):Sem Unit:=storeVar 80 a v
@[go_sem ↓] theorem Hv (a:Addr) (v:Value):storeVar 80 a v=Ou a v:=rfl
@[go_sem] theorem SY (w:World) (b o:Nat) (v0 v1 v2 v3 v4:Value) (h0:(w.cell? ⟨b,o,none⟩).isSome=true) (h1:(w.cell? ⟨b,o+1,none⟩).isSome=true) (h2:(w.cell? ⟨b,o+2,none⟩).isSome=true) (h3:(w.cell? ⟨b,o+3,none⟩).isSome=true) (h4:(w.cell? ⟨b,o+4,none⟩).isSome=true) (f0:w.frozen? ⟨b,o,none⟩=false) (f1:w.frozen? ⟨b,o+1,none⟩=false) (f2:w.frozen? ⟨b,o+2,none⟩=false) (f3:w.frozen? ⟨b,o+3,none⟩=false) (f4:w.frozen? ⟨b,o+4,none⟩=false) (o0:v0.oneCell'=true) (o1:v1.oneCell'=true) (o2:v2.oneCell'=true) (o3:v3.oneCell'=true) (o4:v4.oneCell'=true):(Ou ⟨b,o,none⟩ (.agg #[v0,v1,v2,v3,v4])).run Tryz.prog w=.ok () (((((w.setCell ⟨b,o,none⟩ v0).setCell ⟨b,o+1,none⟩ v1).setCell ⟨b,o+2,none⟩ v2).setCell ⟨b,o+3,none⟩ v3).setCell ⟨b,o+4,none⟩ v4):=fE (P:=Tryz.prog) w 80 b o [v0,v1,v2,v3,v4] (by kernel_rfl) (ae _ _ (ae _ _ (ae _ _ (ae _ _ (ae _ _ (fun j hj=>absurd hj (Nat.not_lt_zero j)) ⟨h0,f0,o0⟩) ⟨h1,f1,o1⟩) ⟨h2,f2,o2⟩) ⟨h3,f3,o3⟩) ⟨h4,f4,o4⟩)
def Ov (a:Addr):Sem Value:=loadVar 42 a
@[go_sem ↓] theorem Hw (a:Addr):loadVar 42 a=Ov a:=rfl
@[go_sem] theorem S8 (w:World) (b o:Nat) (h0:(w.cell? ⟨b,o,none⟩).isSome=true) (h1:(w.cell? ⟨b,o+1,none⟩).isSome=true) (h2:(w.cell? ⟨b,o+2,none⟩).isSome=true) (h3:(w.cell? ⟨b,o+3,none⟩).isSome=true) (h4:(w.cell? ⟨b,o+4,none⟩).isSome=true) (h5:(w.cell? ⟨b,o+5,none⟩).isSome=true) (h6:(w.cell? ⟨b,o+6,none⟩).isSome=true) (h7:(w.cell? ⟨b,o+7,none⟩).isSome=true):(Ov ⟨b,o,none⟩).run Tryz.prog w=.ok (.agg #[(w.cell? ⟨b,o,none⟩).getD undef,(w.cell? ⟨b,o+1,none⟩).getD undef,(w.cell? ⟨b,o+2,none⟩).getD undef,(w.cell? ⟨b,o+3,none⟩).getD undef,(w.cell? ⟨b,o+4,none⟩).getD undef,(w.cell? ⟨b,o+5,none⟩).getD undef,(w.cell? ⟨b,o+6,none⟩).getD undef,(w.cell? ⟨b,o+7,none⟩).getD undef]) w:=fu (P:=Tryz.prog) w 42 _ 8 b o Tryz.underlying42 rfl (by kernel_rfl) (ae _ _ (ae _ _ (ae _ _ (ae _ _ (ae _ _ (ae _ _ (ae _ _ (ae _ _ (fun j hj=>absurd hj (Nat.not_lt_zero j)) h0) h1) h2) h3) h4) h5) h6) h7)
def Ow (a:Addr) (v:Value):Sem Unit:=storeVar 42 a v
@[go_sem ↓] theorem Hx (a:Addr) (v:Value):storeVar 42 a v=Ow a v:=rfl
@[go_sem] theorem S9 (w:World) (b o:Nat) (v0 v1 v2 v3 v4 v5 v6 v7:Value) (h0:(w.cell? ⟨b,o,none⟩).isSome=true) (h1:(w.cell? ⟨b,o+1,none⟩).isSome=true) (h2:(w.cell? ⟨b,o+2,none⟩).isSome=true) (h3:(w.cell? ⟨b,o+3,none⟩).isSome=true) (h4:(w.cell? ⟨b,o+4,none⟩).isSome=true) (h5:(w.cell? ⟨b,o+5,none⟩).isSome=true) (h6:(w.cell? ⟨b,o+6,none⟩).isSome=true) (h7:(w.cell? ⟨b,o+7,none⟩).isSome=true) (f0:w.frozen? ⟨b,o,none⟩=false) (f1:w.frozen? ⟨b,o+1,none⟩=false) (f2:w.frozen? ⟨b,o+2,none⟩=false) (f3:w.frozen? ⟨b,o+3,none⟩=false) (f4:w.frozen? ⟨b,o+4,none⟩=false) (f5:w.frozen? ⟨b,o+5,none⟩=false) (f6:w.frozen? ⟨b,o+6,none⟩=false) (f7:w.frozen? ⟨b,o+7,none⟩=false) (o0:v0.oneCell'=true) (o1:v1.oneCell'=true) (o2:v2.oneCell'=true) (o3:v3.oneCell'=true) (o4:v4.oneCell'=true) (o5:v5.oneCell'=true) (o6:v6.oneCell'=true) (o7:v7.oneCell'=true):(Ow ⟨b,o,none⟩ (.agg #[v0,v1,v2,v3,v4,v5,v6,v7])).run Tryz.prog w=.ok () ((((((((w.setCell ⟨b,o,none⟩ v0).setCell ⟨b,o+1,none⟩ v1).setCell ⟨b,o+2,none⟩ v2).setCell ⟨b,o+3,none⟩ v3).setCell ⟨b,o+4,none⟩ v4).setCell ⟨b,o+5,none⟩ v5).setCell ⟨b,o+6,none⟩ v6).setCell ⟨b,o+7,none⟩ v7):=fE (P:=Tryz.prog) w 42 b o [v0,v1,v2,v3,v4,v5,v6,v7] (by kernel_rfl) (ae _ _ (ae _ _ (ae _ _ (ae _ _ (ae _ _ (ae _ _ (ae _ _ (ae _ _ (fun j hj=>absurd hj (Nat.not_lt_zero j)) ⟨h0,f0,o0⟩) ⟨h1,f1,o1⟩) ⟨h2,f2,o2⟩) ⟨h3,f3,o3⟩) ⟨h4,f4,o4⟩) ⟨h5,f5,o5⟩) ⟨h6,f6,o6⟩) ⟨h7,f7,o7⟩)
def Ox (a:Addr):Sem Value:=loadVar 25 a
@[go_sem ↓] theorem TU (a:Addr):loadVar 25 a=Ox a:=rfl
@[go_sem] theorem Fc (w:World) (b o:Nat) (h0:(w.cell? ⟨b,o,none⟩).isSome=true) (h1:(w.cell? ⟨b,o+1,none⟩).isSome=true):(Ox ⟨b,o,none⟩).run Tryz.prog w=.ok (.agg #[(w.cell? ⟨b,o,none⟩).getD undef,(w.cell? ⟨b,o+1,none⟩).getD undef]) w:=fu (P:=Tryz.prog) w 25 _ 2 b o Tryz.underlying25 rfl (by kernel_rfl) (ae _ _ (ae _ _ (fun j hj=>absurd hj (Nat.not_lt_zero j)) h0) h1)
def Oy (a:Addr) (v:Value):Sem Unit:=storeVar 25 a v
@[go_sem ↓] theorem TV (a:Addr) (v:Value):storeVar 25 a v=Oy a v:=rfl
@[go_sem] theorem Ta (w:World) (b o:Nat) (v0 v1:Value) (h0:(w.cell? ⟨b,o,none⟩).isSome=true) (h1:(w.cell? ⟨b,o+1,none⟩).isSome=true) (f0:w.frozen? ⟨b,o,none⟩=false) (f1:w.frozen? ⟨b,o+1,none⟩=false) (o0:v0.oneCell'=true) (o1:v1.oneCell'=true):(Oy ⟨b,o,none⟩ (.agg #[v0,v1])).run Tryz.prog w=.ok () ((w.setCell ⟨b,o,none⟩ v0).setCell ⟨b,o+1,none⟩ v1):=fE (P:=Tryz.prog) w 25 b o [v0,v1] (by kernel_rfl) (ae _ _ (ae _ _ (fun j hj=>absurd hj (Nat.not_lt_zero j)) ⟨h0,f0,o0⟩) ⟨h1,f1,o1⟩)
def Oz (a:Addr):Sem Value:=loadVar 29 a
@[go_sem ↓] theorem TW (a:Addr):loadVar 29 a=Oz a:=rfl
@[go_sem] theorem Tb (w:World) (b o:Nat) (h0:(w.cell? ⟨b,o,none⟩).isSome=true) (h1:(w.cell? ⟨b,o+1,none⟩).isSome=true):(Oz ⟨b,o,none⟩).run Tryz.prog w=.ok (.agg #[(w.cell? ⟨b,o,none⟩).getD undef,(w.cell? ⟨b,o+1,none⟩).getD undef]) w:=fu (P:=Tryz.prog) w 29 _ 2 b o Tryz.underlying29 rfl (by kernel_rfl) (ae _ _ (ae _ _ (fun j hj=>absurd hj (Nat.not_lt_zero j)) h0) h1)
def OA (a:Addr) (v:Value):Sem Unit:=storeVar 29 a v
@[go_sem ↓] theorem TX (a:Addr) (v:Value):storeVar 29 a v=OA a v:=rfl
@[go_sem] theorem Tc (w:World) (b o:Nat) (v0 v1:Value) (h0:(w.cell? ⟨b,o,none⟩).isSome=true) (h1:(w.cell? ⟨b,o+1,none⟩).isSome=true) (f0:w.frozen? ⟨b,o,none⟩=false) (f1:w.frozen? ⟨b,o+1,none⟩=false) (o0:v0.oneCell'=true) (o1:v1.oneCell'=true):(OA ⟨b,o,none⟩ (.agg #[v0,v1])).run Tryz.prog w=.ok () ((w.setCell ⟨b,o,none⟩ v0).setCell ⟨b,o+1,none⟩ v1):=fE (P:=Tryz.prog) w 29 b o [v0,v1] (by kernel_rfl) (ae _ _ (ae _ _ (fun j hj=>absurd hj (Nat.not_lt_zero j)) ⟨h0,f0,o0⟩) ⟨h1,f1,o1⟩)
def OB (a:Addr):Sem Value:=loadVar 177 a
@[go_sem ↓] theorem Hy (a:Addr):loadVar 177 a=OB a:=rfl
@[go_sem] theorem Td (w:World) (b o:Nat) (h0:(w.cell? ⟨b,o,none⟩).isSome=true) (h1:(w.cell? ⟨b,o+1,none⟩).isSome=true) (h2:(w.cell? ⟨b,o+2,none⟩).isSome=true) (h3:(w.cell? ⟨b,o+3,none⟩).isSome=true) (h4:(w.cell? ⟨b,o+4,none⟩).isSome=true) (h5:(w.cell? ⟨b,o+5,none⟩).isSome=true):(OB ⟨b,o,none⟩).run Tryz.prog w=.ok (.agg #[(w.cell? ⟨b,o,none⟩).getD undef,(w.cell? ⟨b,o+1,none⟩).getD undef,(w.cell? ⟨b,o+2,none⟩).getD undef,(w.cell? ⟨b,o+3,none⟩).getD undef,(w.cell? ⟨b,o+4,none⟩).getD undef,(w.cell? ⟨b,o+5,none⟩).getD undef]) w:=fu (P:=Tryz.prog) w 177 _ 6 b o Tryz.underlying177 rfl (by kernel_rfl) (ae _ _ (ae _ _ (ae _ _ (ae _ _ (ae _ _ (ae _ _ (fun j hj=>absurd hj (Nat.not_lt_zero j)) h0) h1) h2) h3) h4) h5)
def OC (a:Addr) (v:Value):Sem Unit:=storeVar 177 a v
@[go_sem ↓] theorem Hz (a:Addr) (v:Value):storeVar 177 a v=OC a v:=rfl
@[go_sem] theorem Te (w:World) (b o:Nat) (v0 v1 v2 v3 v4 v5:Value) (h0:(w.cell? ⟨b,o,none⟩).isSome=true) (h1:(w.cell? ⟨b,o+1,none⟩).isSome=true) (h2:(w.cell? ⟨b,o+2,none⟩).isSome=true) (h3:(w.cell? ⟨b,o+3,none⟩).isSome=true) (h4:(w.cell? ⟨b,o+4,none⟩).isSome=true) (h5:(w.cell? ⟨b,o+5,none⟩).isSome=true) (f0:w.frozen? ⟨b,o,none⟩=false) (f1:w.frozen? ⟨b,o+1,none⟩=false) (f2:w.frozen? ⟨b,o+2,none⟩=false) (f3:w.frozen? ⟨b,o+3,none⟩=false) (f4:w.frozen? ⟨b,o+4,none⟩=false) (f5:w.frozen? ⟨b,o+5,none⟩=false) (o0:v0.oneCell'=true) (o1:v1.oneCell'=true) (o2:v2.oneCell'=true) (o3:v3.oneCell'=true) (o4:v4.oneCell'=true) (o5:v5.oneCell'=true):(OC ⟨b,o,none⟩ (.agg #[v0,v1,v2,v3,v4,v5])).run Tryz.prog w=.ok () ((((((w.setCell ⟨b,o,none⟩ v0).setCell ⟨b,o+1,none⟩ v1).setCell ⟨b,o+2,none⟩ v2).setCell ⟨b,o+3,none⟩ v3).setCell ⟨b,o+4,none⟩ v4).setCell ⟨b,o+5,none⟩ v5):=fE (P:=Tryz.prog) w 177 b o [v0,v1,v2,v3,v4,v5] (by kernel_rfl) (ae _ _ (ae _ _ (ae _ _ (ae _ _ (ae _ _ (ae _ _ (fun j hj=>absurd hj (Nat.not_lt_zero j)) ⟨h0,f0,o0⟩) ⟨h1,f1,o1⟩) ⟨h2,f2,o2⟩) ⟨h3,f3,o3⟩) ⟨h4,f4,o4⟩) ⟨h5,f5,o5⟩)
def D4 (a:Addr):Sem Value:=loadVar 32 a
@[go_sem ↓] theorem H9 (a:Addr):loadVar 32 a=D4 a:=rfl
@[go_sem] theorem Fe (w:World) (b o:Nat) (h0:(w.cell? ⟨b,o,none⟩).isSome=true) (h1:(w.cell? ⟨b,o+1,none⟩).isSome=true) (h2:(w.cell? ⟨b,o+2,none⟩).isSome=true) (h3:(w.cell? ⟨b,o+3,none⟩).isSome=true) (h4:(w.cell? ⟨b,o+4,none⟩).isSome=true) (h5:(w.cell? ⟨b,o+5,none⟩).isSome=true) (h6:(w.cell? ⟨b,o+6,none⟩).isSome=true):(D4 ⟨b,o,none⟩).run Tryz.prog w=.ok (.agg #[(w.cell? ⟨b,o,none⟩).getD undef,(w.cell? ⟨b,o+1,none⟩).getD undef,(w.cell? ⟨b,o+2,none⟩).getD undef,(w.cell? ⟨b,o+3,none⟩).getD undef,(w.cell? ⟨b,o+4,none⟩).getD undef,(w.cell? ⟨b,o+5,none⟩).getD undef,(w.cell? ⟨b,o+6,none⟩).getD undef]) w:=fu (P:=Tryz.prog) w 32 _ 7 b o Tryz.underlying32 rfl (by kernel_rfl) (ae _ _ (ae _ _ (ae _ _ (ae _ _ (ae _ _ (ae _ _ (ae _ _ (fun j hj=>absurd hj (Nat.not_lt_zero j)) h0) h1) h2) h3) h4) h5) h6)
def OD (a:Addr) (v:Value):Sem Unit:=storeVar 32 a v
@[go_sem ↓] theorem pk (a:Addr) (v:Value):storeVar 32 a v=OD a v:=rfl
@[go_sem] theorem Tf (w:World) (b o:Nat) (v0 v1 v2 v3 v4 v5 v6:Value) (h0:(w.cell? ⟨b,o,none⟩).isSome=true) (h1:(w.cell? ⟨b,o+1,none⟩).isSome=true) (h2:(w.cell? ⟨b,o+2,none⟩).isSome=true) (h3:(w.cell? ⟨b,o+3,none⟩).isSome=true) (h4:(w.cell? ⟨b,o+4,none⟩).isSome=true) (h5:(w.cell? ⟨b,o+5,none⟩).isSome=true) (h6:(w.cell? ⟨b,o+6,none⟩).isSome=true) (f0:w.frozen? ⟨b,o,none⟩=false) (f1:w.frozen? ⟨b,o+1,none⟩=false) (f2:w.frozen? ⟨b,o+2,none⟩=false) (f3:w.frozen? ⟨b,o+3,none⟩=false) (f4:w.frozen? ⟨b,o+4,none⟩=false) (f5:w.frozen? ⟨b,o+5,none⟩=false) (f6:w.frozen? ⟨b,o+6,none⟩=false) (o0:v0.oneCell'=true) (o1:v1.oneCell'=true) (o2:v2.oneCell'=true) (o3:v3.oneCell'=true) (o4:v4.oneCell'=true) (o5:v5.oneCell'=true) (o6:v6.oneCell'=true):(OD ⟨b,o,none⟩ (.agg #[v0,v1,v2,v3,v4,v5,v6])).run Tryz.prog w=.ok () (((((((w.setCell ⟨b,o,none⟩ v0).setCell ⟨b,o+1,none⟩ v1).setCell ⟨b,o+2,none⟩ v2).setCell ⟨b,o+3,none⟩ v3).setCell ⟨b,o+4,none⟩ v4).setCell ⟨b,o+5,none⟩ v5).setCell ⟨b,o+6,none⟩ v6):=fE (P:=Tryz.prog) w 32 b o [v0,v1,v2,v3,v4,v5,v6] (by kernel_rfl) (ae _ _ (ae _ _ (ae _ _ (ae _ _ (ae _ _ (ae _ _ (ae _ _ (fun j hj=>absurd hj (Nat.not_lt_zero j)) ⟨h0,f0,o0⟩) ⟨h1,f1,o1⟩) ⟨h2,f2,o2⟩) ⟨h3,f3,o3⟩) ⟨h4,f4,o4⟩) ⟨h5,f5,o5⟩) ⟨h6,f6,o6⟩)
def D5 (a:Addr):Sem Value:=loadVar 45 a
@[go_sem ↓] theorem TY (a:Addr):loadVar 45 a=D5 a:=rfl
@[go_sem] theorem Tg (w:World) (b o:Nat) (h0:(w.cell? ⟨b,o,none⟩).isSome=true) (h1:(w.cell? ⟨b,o+1,none⟩).isSome=true) (h2:(w.cell? ⟨b,o+2,none⟩).isSome=true) (h3:(w.cell? ⟨b,o+3,none⟩).isSome=true) (h4:(w.cell? ⟨b,o+4,none⟩).isSome=true) (h5:(w.cell? ⟨b,o+5,none⟩).isSome=true) (h6:(w.cell? ⟨b,o+6,none⟩).isSome=true) (h7:(w.cell? ⟨b,o+7,none⟩).isSome=true) (h8:(w.cell? ⟨b,o+8,none⟩).isSome=true) (h9:(w.cell? ⟨b,o+9,none⟩).isSome=true) (h10:(w.cell? ⟨b,o+10,none⟩).isSome=true) (h11:(w.cell? ⟨b,o+11,none⟩).isSome=true) (D6:(w.cell? ⟨b,o+12,none⟩).isSome=true) (D7:(w.cell? ⟨b,o+13,none⟩).isSome=true) (GZ:(w.cell? ⟨b,o+14,none⟩).isSome=true) (G0:(w.cell? ⟨b,o+15,none⟩).isSome=true) (PN:(w.cell? ⟨b,o+16,none⟩).isSome=true):(D5 ⟨b,o,none⟩).run Tryz.prog w=.ok (.agg #[(w.cell? ⟨b,o,none⟩).getD undef,(w.cell? ⟨b,o+1,none⟩).getD undef,(w.cell? ⟨b,o+2,none⟩).getD undef,(w.cell? ⟨b,o+3,none⟩).getD undef,(w.cell? ⟨b,o+4,none⟩).getD undef,(w.cell? ⟨b,o+5,none⟩).getD undef,(w.cell? ⟨b,o+6,none⟩).getD undef,(w.cell? ⟨b,o+7,none⟩).getD undef,(w.cell? ⟨b,o+8,none⟩).getD undef,(w.cell? ⟨b,o+9,none⟩).getD undef,(w.cell? ⟨b,o+10,none⟩).getD undef,(w.cell? ⟨b,o+11,none⟩).getD undef,(w.cell? ⟨b,o+12,none⟩).getD undef,(w.cell? ⟨b,o+13,none⟩).getD undef,(w.cell? ⟨b,o+14,none⟩).getD undef,(w.cell? ⟨b,o+15,none⟩).getD undef,(w.cell? ⟨b,o+16,none⟩).getD undef]) w:=fu (P:=Tryz.prog) w 45 _ 17 b o Tryz.underlying45 rfl (by kernel_rfl) (ae _ _ (ae _ _ (ae _ _ (ae _ _ (ae _ _ (ae _ _ (ae _ _ (ae _ _ (ae _ _ (ae _ _ (ae _ _ (ae _ _ (ae _ _ (ae _ _ (ae _ _ (ae _ _ (ae _ _ (fun j hj=>absurd hj (Nat.not_lt_zero j)) h0) h1) h2) h3) h4) h5) h6) h7) h8) h9) h10) h11) D6) D7) GZ) G0) PN)
def OE (a:Addr) (v:Value):Sem Unit:=storeVar 45 a v
@[go_sem ↓] theorem TZ (a:Addr) (v:Value):storeVar 45 a v=OE a v:=rfl
@[go_sem] theorem Th (w:World) (b o:Nat) (v0 v1 v2 v3 v4 v5 v6 v7 v8 v9 v10 v11 v12 v13 v14 v15 v16:Value) (h0:(w.cell? ⟨b,o,none⟩).isSome=true) (h1:(w.cell? ⟨b,o+1,none⟩).isSome=true) (h2:(w.cell? ⟨b,o+2,none⟩).isSome=true) (h3:(w.cell? ⟨b,o+3,none⟩).isSome=true) (h4:(w.cell? ⟨b,o+4,none⟩).isSome=true) (h5:(w.cell? ⟨b,o+5,none⟩).isSome=true) (h6:(w.cell? ⟨b,o+6,none⟩).isSome=true) (h7:(w.cell? ⟨b,o+7,none⟩).isSome=true) (h8:(w.cell? ⟨b,o+8,none⟩).isSome=true) (h9:(w.cell? ⟨b,o+9,none⟩).isSome=true) (h10:(w.cell? ⟨b,o+10,none⟩).isSome=true) (h11:(w.cell? ⟨b,o+11,none⟩).isSome=true) (D6:(w.cell? ⟨b,o+12,none⟩).isSome=true) (D7:(w.cell? ⟨b,o+13,none⟩).isSome=true) (GZ:(w.cell? ⟨b,o+14,none⟩).isSome=true) (G0:(w.cell? ⟨b,o+15,none⟩).isSome=true) (PN:(w.cell? ⟨b,o+16,none⟩).isSome=true) (f0:w.frozen? ⟨b,o,none⟩=false) (f1:w.frozen? ⟨b,o+1,none⟩=false) (f2:w.frozen? ⟨b,o+2,none⟩=false) (f3:w.frozen? ⟨b,o+3,none⟩=false) (f4:w.frozen? ⟨b,o+4,none⟩=false) (f5:w.frozen? ⟨b,o+5,none⟩=false) (f6:w.frozen? ⟨b,o+6,none⟩=false) (f7:w.frozen? ⟨b,o+7,none⟩=false) (f8:w.frozen? ⟨b,o+8,none⟩=false) (f9:w.frozen? ⟨b,o+9,none⟩=false) (f10:w.frozen? ⟨b,o+10,none⟩=false) (f11:w.frozen? ⟨b,o+11,none⟩=false) (f12:w.frozen? ⟨b,o+12,none⟩=false) (f13:w.frozen? ⟨b,o+13,none⟩=false) (f14:w.frozen? ⟨b,o+14,none⟩=false) (f15:w.frozen? ⟨b,o+15,none⟩=false) (f16:w.frozen? ⟨b,o+16,none⟩=false) (o0:v0.oneCell'=true) (o1:v1.oneCell'=true) (o2:v2.oneCell'=true) (o3:v3.oneCell'=true) (o4:v4.oneCell'=true) (o5:v5.oneCell'=true) (o6:v6.oneCell'=true) (o7:v7.oneCell'=true) (o8:v8.oneCell'=true) (o9:v9.oneCell'=true) (Yu:v10.oneCell'=true) (Yv:v11.oneCell'=true) (Yw:v12.oneCell'=true) (Ff:v13.oneCell'=true) (Yx:v14.oneCell'=true) (Yy:v15.oneCell'=true) (Yz:v16.oneCell'=true):(OE ⟨b,o,none⟩ (.agg #[v0,v1,v2,v3,v4,v5,v6,v7,v8,v9,v10,v11,v12,v13,v14,v15,v16])).run Tryz.prog w=.ok () (((((((((((((((((w.setCell ⟨b,o,none⟩ v0).setCell ⟨b,o+1,none⟩ v1).setCell ⟨b,o+2,none⟩ v2).setCell ⟨b,o+3,none⟩ v3).setCell ⟨b,o+4,none⟩ v4).setCell ⟨b,o+5,none⟩ v5).setCell ⟨b,o+6,none⟩ v6).setCell ⟨b,o+7,none⟩ v7).setCell ⟨b,o+8,none⟩ v8).setCell ⟨b,o+9,none⟩ v9).setCell ⟨b,o+10,none⟩ v10).setCell ⟨b,o+11,none⟩ v11).setCell ⟨b,o+12,none⟩ v12).setCell ⟨b,o+13,none⟩ v13).setCell ⟨b,o+14,none⟩ v14).setCell ⟨b,o+15,none⟩ v15).setCell ⟨b,o+16,none⟩ v16):=fE (P:=Tryz.prog) w 45 b o [v0,v1,v2,v3,v4,v5,v6,v7,v8,v9,v10,v11,v12,v13,v14,v15,v16] (by kernel_rfl) (ae _ _ (ae _ _ (ae _ _ (ae _ _ (ae _ _ (ae _ _ (ae _ _ (ae _ _ (ae _ _ (ae _ _ (ae _ _ (ae _ _ (ae _ _ (ae _ _ (ae _ _ (ae _ _ (ae _ _ (fun j hj=>absurd hj (Nat.not_lt_zero j)) ⟨h0,f0,o0⟩) ⟨h1,f1,o1⟩) ⟨h2,f2,o2⟩) ⟨h3,f3,o3⟩) ⟨h4,f4,o4⟩) ⟨h5,f5,o5⟩) ⟨h6,f6,o6⟩) ⟨h7,f7,o7⟩) ⟨h8,f8,o8⟩) ⟨h9,f9,o9⟩) ⟨h10,f10,Yu⟩) ⟨h11,f11,Yv⟩) ⟨D6,f12,Yw⟩) ⟨D7,f13,Ff⟩) ⟨GZ,f14,Yx⟩) ⟨G0,f15,Yy⟩) ⟨PN,f16,Yz⟩)
def T4 (a:Addr):Sem Value:=loadVar 150 a
@[go_sem ↓] theorem XI (a:Addr):loadVar 150 a=T4 a:=rfl
@[go_sem] theorem Ua (w:World) (b o:Nat) (h0:(w.cell? ⟨b,o,none⟩).isSome=true) (h1:(w.cell? ⟨b,o+1,none⟩).isSome=true) (h2:(w.cell? ⟨b,o+2,none⟩).isSome=true) (h3:(w.cell? ⟨b,o+3,none⟩).isSome=true):(T4 ⟨b,o,none⟩).run Tryz.prog w=.ok (.agg #[(w.cell? ⟨b,o,none⟩).getD undef,(w.cell? ⟨b,o+1,none⟩).getD undef,(w.cell? ⟨b,o+2,none⟩).getD undef,(w.cell? ⟨b,o+3,none⟩).getD undef]) w:=fu (P:=Tryz.prog) w 150 _ 4 b o Tryz.underlying150 rfl (by kernel_rfl) (ae _ _ (ae _ _ (ae _ _ (ae _ _ (fun j hj=>absurd hj (Nat.not_lt_zero j)) h0) h1) h2) h3)
def Ub (a:Addr) (v:Value):Sem Unit:=storeVar 150 a v
@[go_sem ↓] theorem XJ (a:Addr) (v:Value):storeVar 150 a v=Ub a v:=rfl
@[go_sem] theorem Uc (w:World) (b o:Nat) (v0 v1 v2 v3:Value) (h0:(w.cell? ⟨b,o,none⟩).isSome=true) (h1:(w.cell? ⟨b,o+1,none⟩).isSome=true) (h2:(w.cell? ⟨b,o+2,none⟩).isSome=true) (h3:(w.cell? ⟨b,o+3,none⟩).isSome=true) (f0:w.frozen? ⟨b,o,none⟩=false) (f1:w.frozen? ⟨b,o+1,none⟩=false) (f2:w.frozen? ⟨b,o+2,none⟩=false) (f3:w.frozen? ⟨b,o+3,none⟩=false) (o0:v0.oneCell'=true) (o1:v1.oneCell'=true) (o2:v2.oneCell'=true) (o3:v3.oneCell'=true):(Ub ⟨b,o,none⟩ (.agg #[v0,v1,v2,v3])).run Tryz.prog w=.ok () ((((w.setCell ⟨b,o,none⟩ v0).setCell ⟨b,o+1,none⟩ v1).setCell ⟨b,o+2,none⟩ v2).setCell ⟨b,o+3,none⟩ v3):=fE (P:=Tryz.prog) w 150 b o [v0,v1,v2,v3] (by kernel_rfl) (ae _ _ (ae _ _ (ae _ _ (ae _ _ (fun j hj=>absurd hj (Nat.not_lt_zero j)) ⟨h0,f0,o0⟩) ⟨h1,f1,o1⟩) ⟨h2,f2,o2⟩) ⟨h3,f3,o3⟩)
def Ud (a:Addr):Sem Value:=loadVar 151 a
@[go_sem ↓] theorem XK (a:Addr):loadVar 151 a=Ud a:=rfl
@[go_sem] theorem Ue (w:World) (b o:Nat) (h0:(w.cell? ⟨b,o,none⟩).isSome=true) (h1:(w.cell? ⟨b,o+1,none⟩).isSome=true) (h2:(w.cell? ⟨b,o+2,none⟩).isSome=true) (h3:(w.cell? ⟨b,o+3,none⟩).isSome=true):(Ud ⟨b,o,none⟩).run Tryz.prog w=.ok (.agg #[(w.cell? ⟨b,o,none⟩).getD undef,(w.cell? ⟨b,o+1,none⟩).getD undef,(w.cell? ⟨b,o+2,none⟩).getD undef,(w.cell? ⟨b,o+3,none⟩).getD undef]) w:=fu (P:=Tryz.prog) w 151 _ 4 b o Tryz.underlying151 rfl (by kernel_rfl) (ae _ _ (ae _ _ (ae _ _ (ae _ _ (fun j hj=>absurd hj (Nat.not_lt_zero j)) h0) h1) h2) h3)
def Uf (a:Addr) (v:Value):Sem Unit:=storeVar 151 a v
@[go_sem ↓] theorem XL (a:Addr) (v:Value):storeVar 151 a v=Uf a v:=rfl
@[go_sem] theorem Ug (w:World) (b o:Nat) (v0 v1 v2 v3:Value) (h0:(w.cell? ⟨b,o,none⟩).isSome=true) (h1:(w.cell? ⟨b,o+1,none⟩).isSome=true) (h2:(w.cell? ⟨b,o+2,none⟩).isSome=true) (h3:(w.cell? ⟨b,o+3,none⟩).isSome=true) (f0:w.frozen? ⟨b,o,none⟩=false) (f1:w.frozen? ⟨b,o+1,none⟩=false) (f2:w.frozen? ⟨b,o+2,none⟩=false) (f3:w.frozen? ⟨b,o+3,none⟩=false) (o0:v0.oneCell'=true) (o1:v1.oneCell'=true) (o2:v2.oneCell'=true) (o3:v3.oneCell'=true):(Uf ⟨b,o,none⟩ (.agg #[v0,v1,v2,v3])).run Tryz.prog w=.ok () ((((w.setCell ⟨b,o,none⟩ v0).setCell ⟨b,o+1,none⟩ v1).setCell ⟨b,o+2,none⟩ v2).setCell ⟨b,o+3,none⟩ v3):=fE (P:=Tryz.prog) w 151 b o [v0,v1,v2,v3] (by kernel_rfl) (ae _ _ (ae _ _ (ae _ _ (ae _ _ (fun j hj=>absurd hj (Nat.not_lt_zero j)) ⟨h0,f0,o0⟩) ⟨h1,f1,o1⟩) ⟨h2,f2,o2⟩) ⟨h3,f3,o3⟩)
structure gX (w:World) where
 to:World
 below:Below w.heap.size w to
instance (w:World):Nonempty (gX w):=⟨⟨w,Below.refl _ _⟩⟩
def bt (w:World) (x:gX w):World:=x.to
theorem aL {w w':World} (h:Below w.heap.size w w'):∃ x:gX w,w'=bt w x:=⟨⟨w',h⟩,rfl⟩
@[go_sem] theorem fX (w:World) (x:gX w) (b o:Nat) (h:b < w.heap.size):(bt w x).cell? ⟨b,o,none⟩=w.cell? ⟨b,o,none⟩:=x.below.cell (p:=⟨b,o,none⟩) h
@[go_sem] theorem OG (w:World) (x:gX w) (b o:Nat) (h:b < w.heap.size):(bt w x).frozen? ⟨b,o,none⟩=w.frozen? ⟨b,o,none⟩:=x.below.frozen (p:=⟨b,o,none⟩) h
@[go_sem] theorem YA (w:World) (x:gX w) (b:Nat) (h:b < w.heap.size):b < (bt w x).heap.size:=Nat.lt_of_lt_of_le h x.below.size
@[go_sem] theorem PO (w:World) (x:gX w) (b k:Nat) (h:b < w.heap.size+k):b < (bt w x).heap.size+k:=by have:=x.below.size;unfold bt;omega
@[go_sem] theorem YB (w:World) (x:gX w) (b:Nat) (h:b≤w.heap.size):b≤(bt w x).heap.size:=Nat.le_trans h x.below.size
@[go_sem] theorem PP (w:World) (x:gX w) (b k:Nat) (h:b≤w.heap.size+k):b≤(bt w x).heap.size+k:=by have:=x.below.size;unfold bt;omega
def ag (W w:World):Prop:=Below W.heap.size W w
theorem ag.refl (W:World):ag W W:=Below.refl _ _
theorem ag.bt {W w:World} (h:ag W w) (x:gX w):ag W (bt w x):=Below.trans h (x.below.mono h.size)
theorem ag.alloc {W w:World} (h:ag W w) (o:Obj):ag W (w.alloc o):=Below.alloc h h.size o
theorem ag.drew {W w:World} (h:ag W w):ag W w.drew:=Below.drew h
theorem ag.drewN {W w:World} (h:ag W w) (n:Nat):ag W (w.drewN n):=⟨h.os,h.tape,h.output,h.size,h.block⟩
theorem ag.setCell {W w:World} (h:ag W w) (p:Addr) (v:Value) (hp:W.heap.size≤p.block):ag W (w.setCell p v):=Below.setCell h hp v
theorem ag.to {W w:World} (h:ag W w):∃ x:gX W,w=Go.Proofs.YtakddkhipelmjaaGreat.bt W x:=aL h
theorem ag.trans {W w w':World} (h:ag W w) (h':ag w w'):ag W w':=Below.trans h (Below.mono h' h.size)
section
variable {P : Program}
theorem aj {id:Nat} {Q:Exit→Act→World→Prop} {a:Act} {w:World} {l:List Oper} (hm:P.follows .mixedOrders=true) (hB:Region.lexB .any l.toArray=true)
  (h:wpQuiet P l.toArray (fun w'=>∃ x:gX w,w'=bt w x) (fun a'=>∀ w',(∃ x:gX w,w'=bt w x)→Q .normal a' w') l a):(Code.region id l.toArray true).wp P Q a w :=
 wp_region_quiet (C:=fun w'=>∃ x:gX w,w'=bt w x) hm hB (aL (Below.drew (Below.refl _ _))) (by simpa using h)
theorem Calls.aL {f:FuncId} {args:Array Value} {w:World} {x:gX w} {v:Value}
  (h:Calls P f args (bt w x) fun e w'=>e=.returned v∧ag (bt w x) w'):Calls P f args (bt w x) fun e w''=>e=.returned v∧∃ y:gX w,w''=bt w y :=
 h.mono fun _ _ ⟨he,hm⟩=>⟨he,ag.to (((ag.refl w).bt x).trans hm)⟩
theorem Calls.aK {f:FuncId} {args:Array Value} {w:World} {x:gX w} {v:Value}
  (h:Calls P f args (bt w x) fun e w'=>e=.returned v∧bt w x=w'):Calls P f args (bt w x) fun e w''=>e=.returned v∧∃ y:gX w,w''=bt w y :=
 h.mono fun _ _ ⟨he,hm⟩=>⟨he,x,hm.symm⟩
end
theorem cz {w w1:World} {c:Array Value} {t:TypeId} (h:ag (w.alloc (.cells c t)) w1) :
  (∀ o,w1.cell? ⟨w.heap.size,o,none⟩=c[o]?)∧(∀ o,w1.frozen? ⟨w.heap.size,o,none⟩=false)∧(w.heap.size < w1.heap.size∧w.heap.size≤w1.heap.size∧w.heap.size < w1.heap.size+1∧w.heap.size < w1.heap.size+1+1∧w.heap.size < w1.heap.size+1+1+1∧w.heap.size < w1.heap.size+1+1+1+1)∧(∀ k,w.heap.size≤w1.heap.size+k)∧Hid (ag w w1):=by
 have hz:w.heap.size < w1.heap.size:=by have:=h.size;simp at this;omega
 refine ⟨fun o=>?_,fun o=>?_,⟨hz,by omega,by omega,by omega,by omega,by omega⟩,fun k=>by omega,gH (((ag.refl w).alloc _).trans h)⟩
 ·rw [Below.cell h (p:=⟨w.heap.size,o,none⟩) (by simp)];simp
 ·rw [Below.frozen h (p:=⟨w.heap.size,o,none⟩) (by simp)];exact World.frozen?_alloc_at _ _ _ _ rfl
theorem mB {P:Program} {id:Nat} {Q:Exit→Act→World→Prop} {a:Act} {w:World} {l:List Oper} (n:Nat) (hm:P.follows .mixedOrders=true) (hB:Region.lexTailB .any l.toArray n=true)
  (h:∀ w1,ag w w1→wpStill P l.toArray w1 (fun a'=>wpList P l.toArray Q (l.drop n) a' w1) (l.take n) a):(Code.region id l.toArray true).wp P Q a w :=
 wp_region_still_tail n hm hB (h _ (ag.refl w).drew)
theorem fP {w w1:World} {c d:Array Value} {t u:TypeId} (h:ag ((w.alloc (.cells c t)).alloc (.cells d u)) w1) :
  (∀ o,w1.cell? ⟨w.heap.size,o,none⟩=c[o]?)∧(∀ o,w1.cell? ⟨w.heap.size+1,o,none⟩=d[o]?)∧(w.heap.size < w1.heap.size∧w.heap.size+1 < w1.heap.size)∧Hid (ag w w1):=by
 have hz:w.heap.size+1 < w1.heap.size:=by have:=h.size;simp at this;omega
 refine ⟨fun o=>?_,fun o=>?_,⟨by omega,hz⟩,gH ((((ag.refl w).alloc _).alloc _).trans h)⟩
 ·rw [Below.cell h (p:=⟨w.heap.size,o,none⟩) (by simp;omega),World.cell?_alloc_past _ _ _ (by simp)];simp
 ·rw [Below.cell h (p:=⟨w.heap.size+1,o,none⟩) (by simp),World.cell?_alloc_at _ _ _ _ (by simp)]
theorem cP {v v':Value} (h:v=v'):Ending.returned v=.returned v':=by rw [h]
theorem bZ {b b':Bool} (h:b=b'):Value.bool b=.bool b':=by rw [h]
end Go.Proofs.YtakddkhipelmjaaGreat
namespace Go.Proofs.YtakddkhipelmjaaGreat
open Go.ChangeShapes Go.WideShapes Go.RowKit Go.Deep
def Small (n:Nat):Prop:=n≤140737488351232
theorem Small.max {n:Nat} (h:Small n):n≤maxLen:=by unfold Small at h;unfold maxLen;omega
def Lt {H:Type} (P:Program) (t:TypeId) (d:DataW H):Prop:=∀ n∈d.weights P t,n≤140737488351232
section
variable {H : Type} {enc : TypeId × Value → H} {P : Program} {w : World}
theorem rH:∀ {ts:List TypeId} {ds:List (DataW H)} {i:Nat} {t:TypeId} {d:DataW H},ts[i]? = some t→ds[i]? = some d→∀ n∈d.weights P t,n∈DataW.weightsEach P ts ds :=
 fun ht hd n hn=>DataW.weights_mem_each ht hd n hn
theorem mE {e:TypeId}:∀ {ds:List (DataW H)} {d:DataW H},d∈ds→∀ n∈d.weights P e,n∈DataW.weightsAll P e ds
 | x::r,d,h,n,hn=>by
  simp only [DataW.weightsAll,List.mem_append]
  rcases List.mem_cons.1 h with rfl | h
  ·exact .inl hn
  ·exact .inr (mE h n hn)
theorem Ia {t:TypeId} {fs:Array Field} (ht:P.underlying t=some (.struct fs)) {xs:List (DataW H × List MemPlace)} (h:Lt P t (.agg (xs.map (·.1)):DataW H)) {i:Nat} {f:Field} (hf:fs[i]? = some f) {x:DataW H × List MemPlace} (hx:xs[i]? = some x):Lt P f.type x.1:=by
 intro n hn;refine h n ?_;simp only [DataW.weights,ht];refine rH (i:=i) (t:=f.type) (d:=x.1) ?_ ?_ n hn
 ·simp [hf]
 ·simp [hx]
def Rd (enc:TypeId × Value→H) (P:Program) (w:World) (t:TypeId) (cs:List Value):Prop :=
 ∃ (fuel:Nat) (x:DataW H × List MemPlace),DataW.trod enc P w 0 (fun _=>true) true fuel t cs=some x∧Lt P t x.1
theorem Rd.struct {t:TypeId} {fs:Array Field} {cs:List Value} (ht:P.underlying t=some (.struct fs)) (h:Rd enc P w t cs) :
  cs.length=P.cellsOf t∧∀ (i:Nat) (f:Field),fs[i]? = some f→Rd enc P w f.type ((cs.drop f.offset).take (P.cellsOf f.type)):=by
 obtain ⟨fuel,x,hx,hl⟩:=h;obtain ⟨xs,n,_,rfl,hlen,hsz,hf⟩:=DataW.trod_struct ht hx;refine ⟨hlen,fun i f hi=>?_⟩;have h1:=hf i f hi
 have hlt:i < xs.length:=by rw [hsz];exact (Array.getElem?_eq_some_iff.1 hi).1
 have hxi:xs[i]? = some xs[i]:=List.getElem?_eq_getElem hlt;exact ⟨n,xs[i],h1.trans hxi,Ia ht hl hi hxi⟩
theorem Rd.field {t:TypeId} {fs:Array Field} {cs:List Value} (h:Rd enc P w t cs) (ht:P.underlying t=some (.struct fs)) (i:Nat) (ft off k:Nat) (hf:(fs[i]?).map (fun f=>(f.type,f.offset))=some (ft,off)) (hk:P.cellsOf ft=k) :
  Rd enc P w ft ((cs.drop off).take k):=by
 obtain ⟨_,h2⟩:=h.struct ht
 cases hq:fs[i]? with
 | none=>rw [hq] at hf;cases hf
 | some f =>
  rw [hq] at hf;simp only [Option.map_some,Option.some.injEq,Prod.mk.injEq] at hf;have:=h2 i f hq;rw [hf.1,hf.2,hk] at this;exact this
theorem Rd.string {t:TypeId} {cs:List Value} (ht:P.underlying t=some .string) (h:Rd enc P w t cs):∃ s:ByteArray,cs=[.string s]∧Small s.size:=by
 obtain ⟨fuel,x,hx,hl⟩:=h;obtain ⟨s,rfl,rfl,_⟩:=DataW.trod_string ht hx;refine ⟨s,rfl,?_⟩;have:=hl s.data.toList.length (by simp [DataW.weights])
 simpa [Small] using this
theorem Rd.int {t:TypeId} {k:IntKind} {cs:List Value} (ht:P.underlying t=some (.int k)) (h:Rd enc P w t cs):∃ n:Int,cs=[.int k n]∧(Lit.int k n).wf=true:=by
 obtain ⟨fuel,x,hx,hl⟩:=h;obtain ⟨n,rfl,_,hw⟩:=DataW.trod_int ht hx;exact ⟨n,rfl,hw⟩
theorem Rd.bool {t:TypeId} {cs:List Value} (ht:P.underlying t=some .bool) (h:Rd enc P w t cs):∃ b:Bool,cs=[.bool b]:=by
 obtain ⟨fuel,x,hx,hl⟩:=h;obtain ⟨b,rfl,_⟩:=DataW.trod_bool ht hx;exact ⟨b,rfl⟩
def aA {α:Type} (w:World) (size:Nat) (R:World→List Value→α→Prop) (A:Option Addr) (cap:Nat) (l:List α):Prop :=
 l.length≤cap∧Small (l.length*16)∧∀ i (h:i < l.length),∃ b off cs,A=some ⟨b,off,none⟩∧b < w.heap.size∧cs.length=size∧R w cs l[i]∧∀ j,j < size→w.cell? ⟨b,off+(i*size+j),none⟩=cs[j]?
def ur {α:Type} (w:World) (size:Nat) (R:World→List Value→α→Prop) (cs:List Value) (l:List α):Prop :=
 ∃ A cap,cs=[.slice A l.length cap]∧aA w size R A cap l
theorem df {α:Type} {size:Nat} {R:World→List Value→α→Prop}:aA w size R none 0 ([]:List α) :=
 ⟨Nat.le_refl _,Nat.zero_le _,fun i h=>absurd h (by simp)⟩
theorem aA.aH {α:Type} {size:Nat} {R:World→List Value→α→Prop} {A:Option Addr} {cap:Nat} {l:List α} {w':World} (h:aA w size R A cap l) (hw:ag w w') (hR:∀ cs x,R w cs x→R w' cs x):aA w' size R A cap l :=
 ⟨h.1,h.2.1,fun i hi=>by
  obtain ⟨b,off,cs,hA,hb,hl,hr,hc⟩:=h.2.2 i hi
  exact ⟨b,off,cs,hA,Nat.lt_of_lt_of_le hb hw.size,hl,hR _ _ hr,fun j hj=>(Below.cell hw (p:=⟨b,off+(i*size+j),none⟩) hb).trans (hc j hj)⟩⟩
theorem mG {α:Type} (n:Nat) (p:Nat→α→Prop) (h:∀ i,i < n→∃ x,p i x):∃ l:List α,l.length=n∧∀ i (hi:i < l.length),p i l[i]:=by
 induction n with
 | zero=>exact ⟨[],rfl,fun i hi=>absurd hi (by simp)⟩
 | succ n ih =>
  obtain ⟨l,hl,hp⟩:=ih fun i hi=>h i (by omega)
  obtain ⟨x,hx⟩:=h n (by omega);refine ⟨l++[x],by simp [hl],fun i hi=>?_⟩;by_cases yi:i < l.length
  ·rw [List.getElem_append_left yi];exact hp i yi
  ·have:i=l.length:=by simp at hi;omega
   subst this;simp only [List.getElem_append_right (Nat.le_refl _),Nat.sub_self,List.getElem_cons_zero];rw [hl];exact hx
theorem Rd.slice {α:Type} {t e:TypeId} {cs:List Value} {size:Nat} {R:World→List Value→α→Prop} (ht:P.underlying t=some (.slice e)) (hs:P.cellsOf e=size) (sw:0 < size) (hby:16≤P.bytesOf e)
  (hR:∀ cs,Rd enc P w e cs→∃ x,R w cs x) (h:Rd enc P w t cs):∃ l:List α,ur w size R cs l:=by
 obtain ⟨fuel,x,hx,hl⟩:=h;have hlt:=DataW.trod_lt fuel t cs x hx
 rcases open_slice ht hx with ⟨rfl,_⟩ | ⟨a,len,cap,m,n,D,Pl,rfl,_,hlc,hcm,hm,rfl,hi⟩
 ·exact ⟨[],none,0,rfl,df⟩
 ·simp only [if_true] at hm
  subst hm
  have iR:Small (m*16):=by
   have h1:=hl (((List.range len).map D).length+((List.range (m - len)).map fun j=>D (len+j)).length |> (·*P.bytesOf e)) (by simp [DataW.weights,ht]);simp only [List.length_map,List.length_range] at h1
   have h2:len+(m - len)=m:=by omega
   rw [h2] at h1;exact Nat.le_trans (Nat.mul_le_mul_left _ hby) h1
  have hspot:0 < len→a.spot=none:=by
   intro h0;obtain ⟨cs',hc,_⟩:=hi 0 (by omega);rw [hs] at hc;obtain ⟨_,pc,hat⟩:=World.cells?_some hc;have h1:=hat 0 sw
   have h2:w.cell? ((a.add (0*size)).add 0)=some (cs'[0]'(by omega)):=by rw [h1];exact List.getElem?_eq_getElem (by omega)
   have h3:=World.cell?_spot h2
   simpa [Addr.add] using h3
  have hel:∀ i,i < len→∃ x:α,∃ b off cs,some a=some ⟨b,off,none⟩∧b < w.heap.size∧cs.length=size∧R w cs x∧∀ j,j < size→w.cell? ⟨b,off+(i*size+j),none⟩=cs[j]? := by
   intro i PQ;obtain ⟨cs',hc,htr⟩:=hi i (by omega);rw [hs] at hc;obtain ⟨_,pc,hat⟩:=World.cells?_some hc
   have PK:Rd enc P w e cs':=by
    refine ⟨n,_,htr,fun k hk=>hl k ?_⟩;simp only [DataW.weights,ht,List.mem_cons,List.mem_append];exact .inr (.inl (mE (d:=D i) (List.mem_map.2 ⟨i,List.mem_range.2 PQ,rfl⟩) k hk))
   obtain ⟨y,hy⟩:=hR cs' PK;have hsp:=hspot (by omega);obtain ⟨b,off,spot⟩:=a;simp only at hsp;subst hsp
   have hb:b < w.heap.size:=hlt (.cell b off) (by
    simp only [List.mem_append]
    left
    rw [hs];have hpm:0 < m*size:=Nat.mul_pos (by omega) sw;simp only [MemPlace.row]
    exact List.mem_map.2 ⟨0,List.mem_range.2 hpm,by simp⟩)
   refine ⟨y,b,off,cs',rfl,hb,pc,hy,fun j hj=>?_⟩;have h1:=hat j hj;rw [← h1,Go.Deep.add_add]
   have:(Addr.mk b off none).add (i*size+j)=⟨b,off+(i*size+j),none⟩:=by
    unfold Addr.add;split
    ·rename_i h0;rw [h0];rfl
    ·rfl
   rw [this]
  obtain ⟨l,rS,hp⟩:=mG len _ hel;subst rS;exact ⟨l,some a,m,rfl,hlc,Nat.le_trans (Nat.mul_le_mul_right _ hlc) iR,hp⟩
end
end Go.Proofs.YtakddkhipelmjaaGreat
namespace Go.Proofs.YtakddkhipelmjaaGreat
open Go.Deep Go.RowKit
structure eB where
 name:ByteArray
 kind:Int
 null:Bool
structure fF where
 name:ByteArray
 kind:Int
 av:List ByteArray
 low:Int
 high:Int
 ac:ByteArray
 table:ByteArray
 key:ByteArray
structure cp where
 ac:ByteArray
 name:ByteArray
 owner:ByteArray
 av:List eB
 rules:List fF
structure fJ where
 name:ByteArray
 owner:ByteArray
structure bF where
 aa:List fJ
 tables:List cp
def aS (a b:ByteArray):Bool:=a.toList==b.toList
def dg (_:World) (cs:List Value) (s:ByteArray):Prop:=cs=[.string s]∧Small s.size
def fG (_:World) (cs:List Value) (c:eB):Prop:=cs=[.string c.name,.int .i64 c.kind,.bool c.null]∧Small c.name.size
def eL (_:World) (cs:List Value) (s:fJ):Prop:=cs=[.string s.name,.string s.owner]∧Small s.name.size∧Small s.owner.size
def fc (w:World) (cs:List Value) (r:fF):Prop :=
 ∃ A cap,cs=[.string r.name,.int .i64 r.kind,.slice A r.av.length cap,.int .i64 r.low,.int .i64 r.high,.string r.ac,.string r.table,.string r.key] ∧
  aA w 1 dg A cap r.av∧Small r.name.size∧Small r.ac.size∧Small r.table.size∧Small r.key.size
def dE (w:World) (cs:List Value) (t:cp):Prop :=
 ∃ A cap A2 bJ,cs=[.string t.ac,.string t.name,.string t.owner,.slice A t.av.length cap,.slice A2 t.rules.length bJ] ∧
  aA w 3 fG A cap t.av∧aA w 8 fc A2 bJ t.rules∧Small t.ac.size∧Small t.name.size∧Small t.owner.size
def YC (w:World) (cs:List Value) (o:bF):Prop :=
 ∃ A cap A2 bJ,cs=[.slice A o.aa.length cap,.slice A2 o.tables.length bJ]∧aA w 2 eL A cap o.aa∧aA w 5 dE A2 bJ o.tables
section
variable {w w' : World}
theorem aO {A:Option Addr} {cap:Nat} {l:List ByteArray} (hw:ag w w') (h:aA w 1 dg A cap l):aA w' 1 dg A cap l:=h.aH hw fun _ _ h=>h
theorem bW {A:Option Addr} {cap:Nat} {l:List eB} (hw:ag w w') (h:aA w 3 fG A cap l):aA w' 3 fG A cap l:=h.aH hw fun _ _ h=>h
theorem bI {A:Option Addr} {cap:Nat} {l:List fJ} (hw:ag w w') (h:aA w 2 eL A cap l):aA w' 2 eL A cap l:=h.aH hw fun _ _ h=>h
theorem fc.aH {cs:List Value} {r:fF} (hw:ag w w') (h:fc w cs r):fc w' cs r:=by
 obtain ⟨A,cap,e,hs,h1⟩:=h;exact ⟨A,cap,e,aO hw hs,h1⟩
theorem eQ {A:Option Addr} {cap:Nat} {l:List fF} (hw:ag w w') (h:aA w 8 fc A cap l):aA w' 8 fc A cap l:=h.aH hw fun _ _ h=>fc.aH hw h
theorem dE.aH {cs:List Value} {r:cp} (hw:ag w w') (h:dE w cs r):dE w' cs r:=by
 obtain ⟨A,cap,A2,bJ,e,hs,hr,h1⟩:=h;exact ⟨A,cap,A2,bJ,e,bW hw hs,eQ hw hr,h1⟩
theorem br {A:Option Addr} {cap:Nat} {l:List cp} (hw:ag w w') (h:aA w 5 dE A cap l):aA w' 5 dE A cap l:=h.aH hw fun _ _ h=>dE.aH hw h
theorem er {A:Option Addr} {cap:Nat} {l:List ByteArray} (h:aA w 1 dg A cap l) {k:Nat} (hk:k < l.length) :
  ∃ b off,A=some ⟨b,off,none⟩∧b < w.heap.size∧w.cell? ⟨b,off+k,none⟩=some (.string l[k])∧Small l[k].size:=by
 obtain ⟨b,off,cs,hA,hb,hl,⟨rfl,hs⟩,hc⟩:=h.2.2 k hk;refine ⟨b,off,hA,hb,?_,hs⟩;have:=hc 0 (by omega)
 simpa using this
theorem ky {A:Option Addr} {cap:Nat} {l:List eB} (h:aA w 3 fG A cap l) {k:Nat} (hk:k < l.length) :
  ∃ b off,A=some ⟨b,off,none⟩∧b < w.heap.size∧w.cell? ⟨b,off+k*3,none⟩=some (.string l[k].name)∧w.cell? ⟨b,off+k*3+1,none⟩=some (.int .i64 l[k].kind)∧w.cell? ⟨b,off+k*3+2,none⟩=some (.bool l[k].null)∧Small l[k].name.size:=by
 obtain ⟨b,off,cs,hA,hb,hl,⟨rfl,hs⟩,hc⟩:=h.2.2 k hk;exact ⟨b,off,hA,hb,by simpa using hc 0 (by omega),by simpa [Nat.add_assoc] using hc 1 (by omega),by simpa [Nat.add_assoc] using hc 2 (by omega),hs⟩
theorem iC {A:Option Addr} {cap:Nat} {l:List fJ} (h:aA w 2 eL A cap l) {k:Nat} (hk:k < l.length) :
  ∃ b off,A=some ⟨b,off,none⟩∧b < w.heap.size∧w.cell? ⟨b,off+k*2,none⟩=some (.string l[k].name)∧w.cell? ⟨b,off+k*2+1,none⟩=some (.string l[k].owner)∧Small l[k].name.size∧Small l[k].owner.size:=by
 obtain ⟨b,off,cs,hA,hb,hl,⟨rfl,hs,hs2⟩,hc⟩:=h.2.2 k hk;exact ⟨b,off,hA,hb,by simpa using hc 0 (by omega),by simpa [Nat.add_assoc] using hc 1 (by omega),hs,hs2⟩
theorem jC {A:Option Addr} {cap:Nat} {l:List fF} (h:aA w 8 fc A cap l) {k:Nat} (hk:k < l.length) :
  ∃ b off A2 bJ,A=some ⟨b,off,none⟩∧b < w.heap.size∧w.cell? ⟨b,off+k*8,none⟩=some (.string l[k].name)∧w.cell? ⟨b,off+k*8+1,none⟩=some (.int .i64 l[k].kind)∧w.cell? ⟨b,off+k*8+2,none⟩=some (.slice A2 l[k].av.length bJ) ∧
   w.cell? ⟨b,off+k*8+3,none⟩=some (.int .i64 l[k].low)∧w.cell? ⟨b,off+k*8+4,none⟩=some (.int .i64 l[k].high)∧w.cell? ⟨b,off+k*8+5,none⟩=some (.string l[k].ac)∧w.cell? ⟨b,off+k*8+6,none⟩=some (.string l[k].table)∧w.cell? ⟨b,off+k*8+7,none⟩=some (.string l[k].key) ∧
   aA w 1 dg A2 bJ l[k].av∧Small l[k].name.size∧Small l[k].ac.size∧Small l[k].table.size∧Small l[k].key.size:=by
 obtain ⟨b,off,cs,hA,hb,hl,⟨A2,bJ,rfl,hr⟩,hc⟩:=h.2.2 k hk
 exact ⟨b,off,A2,bJ,hA,hb,by simpa using hc 0 (by omega),by simpa [Nat.add_assoc] using hc 1 (by omega),by simpa [Nat.add_assoc] using hc 2 (by omega),by simpa [Nat.add_assoc] using hc 3 (by omega),by simpa [Nat.add_assoc] using hc 4 (by omega),
  by simpa [Nat.add_assoc] using hc 5 (by omega),by simpa [Nat.add_assoc] using hc 6 (by omega),by simpa [Nat.add_assoc] using hc 7 (by omega),hr⟩
theorem fh {A:Option Addr} {cap:Nat} {l:List cp} (h:aA w 5 dE A cap l) {k:Nat} (hk:k < l.length) :
  ∃ b off A2 bJ A3 fN,A=some ⟨b,off,none⟩∧b < w.heap.size∧w.cell? ⟨b,off+k*5,none⟩=some (.string l[k].ac)∧w.cell? ⟨b,off+k*5+1,none⟩=some (.string l[k].name)∧w.cell? ⟨b,off+k*5+2,none⟩=some (.string l[k].owner) ∧
   w.cell? ⟨b,off+k*5+3,none⟩=some (.slice A2 l[k].av.length bJ)∧w.cell? ⟨b,off+k*5+4,none⟩=some (.slice A3 l[k].rules.length fN) ∧
   aA w 3 fG A2 bJ l[k].av∧aA w 8 fc A3 fN l[k].rules∧Small l[k].ac.size∧Small l[k].name.size∧Small l[k].owner.size:=by
 obtain ⟨b,off,cs,hA,hb,hl,⟨A2,bJ,A3,fN,rfl,hr⟩,hc⟩:=h.2.2 k hk;exact ⟨b,off,A2,bJ,A3,fN,hA,hb,by simpa using hc 0 (by omega),by simpa [Nat.add_assoc] using hc 1 (by omega),by simpa [Nat.add_assoc] using hc 2 (by omega),by simpa [Nat.add_assoc] using hc 3 (by omega),by simpa [Nat.add_assoc] using hc 4 (by omega),hr⟩
theorem aA.len {α:Type} {size:Nat} {R:World→List Value→α→Prop} {A:Option Addr} {cap:Nat} {l:List α} (h:aA w size R A cap l):l.length*16≤140737488351232:=h.2.1
end
def bD {α:Type} (p:α→Bool):List α→Int
 | [] => -1
 | x::l=>if p x then 0 else if bD p l < 0 then -1 else bD p l+1
theorem dU {α:Type} (p:α→Bool) (l:List α) (h:∀ i (hi:i < l.length),p l[i]=false):bD p l = -1:=by
 induction l with
 | nil=>rfl
 | cons x l ih =>
  have h0:=h 0 (by simp)
  have ih:=ih fun i hi=>h (i+1) (Nat.succ_lt_succ hi)
  simp at h0;simp [bD,h0,ih]
theorem dV {α:Type} (p:α→Bool) (l:List α) (k:Nat) (hk:k < l.length) (hp:p l[k]=true) (h:∀ i (hi:i < k),p (l[i]'(by omega))=false):bD p l=k:=by
 induction l generalizing k with
 | nil=>simp at hk
 | cons x l ih =>
  cases k with
  | zero=>simp at hp;simp [bD,hp]
  | succ k =>
   have h0:=h 0 (by omega);simp at h0 hp
   have:=ih k (by simpa using hk) hp fun i hi=>h (i+1) (by omega)
   simp [bD,h0,this];omega
theorem bk {α:Type} (p:α→Bool) (l:List α) : -1≤bD p l∧bD p l < l.length:=by
 induction l with
 | nil=>simp [bD]
 | cons x l ih=>simp only [bD,List.length_cons];(repeat' split)<;>omega
theorem cj {w w':World} {base size n:Nat} {e:TypeId} {v:Value} {xs:List Value} (h:w.ownsRow base e size v n xs) (hw:ag w w'):w'.ownsRow base e size v n xs:=by
 refine ⟨h.1,?_⟩
 rcases h.2 with hn | ⟨g,cap,cur,rfl,hb,pd,rest⟩
 ·exact .inl hn
 ·have hlt:g < w.heap.size:=(Array.getElem?_eq_some_iff.1 pd).1
  exact .inr ⟨g,cap,cur,rfl,hb,(hw.block g hlt).trans pd,rest⟩
theorem Fg {w:World} {base size n:Nat} {e:TypeId} {v:Value} {xs:List Value} (h:w.ownsRow base e size v n xs):∀ g,v.ownBlock=some g→base≤g:=by
 intro g hg
 rcases h.2 with ⟨rfl,_⟩ | ⟨g',cap,cur,rfl,hb,_⟩
 ·simp [Value.ownBlock] at hg
 ·have:g'=g:=by simpa [Value.ownBlock] using hg
  omega
theorem nB {W w w':World} {size n:Nat} {e:TypeId} {v:Value} {xs:List Value} (h:w.ownsRow W.heap.size e size v n xs) (hW:ag W w) (hg:w.grownBy w' v.ownBlock):ag W w':=by
 refine ⟨hg.os.trans hW.os,hg.tape.trans hW.tape,hg.output.trans hW.output,Nat.le_trans hW.size hg.size,fun k hk=>?_⟩;have hlt:k < w.heap.size:=Nat.lt_of_lt_of_le hk hW.size;refine (hg.block k hlt ?_).trans (hW.block k hk);intro he;have:=Fg h k he.symm;omega
theorem cO (w:World) (base:Nat) (e:TypeId) (size:Nat):w.ownsRow base e size (.slice none 0 0) 0 []:=⟨by simp,.inl ⟨rfl,rfl⟩⟩
theorem kf {α:Type} (f:α→List Value) (size:Nat) (hf:∀ x,(f x).length=size):∀ (l:List α) (i j:Nat) (hi:i < l.length),j < size→(l.flatMap f)[i*size+j]? = (f l[i])[j]?
 | x::l,0,j,_,hj=>by
  rw [List.flatMap_cons,Nat.zero_mul,Nat.zero_add,List.getElem?_append_left (by rw [hf];exact hj)];rfl
 | x::l,i+1,j,hi,hj=>by
  have e:(i+1)*size+j=size+(i*size+j):=by rw [Nat.succ_mul];omega
  rw [List.flatMap_cons,e,List.getElem?_append_right (by rw [hf];omega),hf,Nat.add_sub_cancel_left];exact kf f size hf l i j (by simpa using hi) hj
theorem yj {α:Type} {w:World} {base size:Nat} {e:TypeId} {v:Value} {l:List α} (f:α→List Value) (R:World→List Value→α→Prop) (hf:∀ x,(f x).length=size) (h:w.ownsRow base e size v l.length (l.flatMap f)) (hR:∀ x∈l,R w (f x) x)
  (hs:Small (l.length*16)):∃ A cap,v=.slice A l.length cap∧aA w size R A cap l:=by
 rcases h.2 with ⟨rfl,hn⟩ | ⟨g,cap,cur,rfl,hb,pd,uW,_,hcs,PR⟩
 ·have:l=[]:=List.eq_nil_of_length_eq_zero hn
  subst this;exact ⟨none,0,rfl,df⟩
 ·have hlt:g < w.heap.size:=(Array.getElem?_eq_some_iff.1 pd).1
  refine ⟨some ⟨g,0,none⟩,cap,rfl,uW,hs,fun i hi=>⟨g,0,f l[i],rfl,hlt,hf _,hR _ (List.getElem_mem hi),fun j hj=>?_⟩⟩;rw [← kf f size hf l i j hi hj,← PR]
  have fd:i*size+j < l.length*size:=by
   have:(i+1)*size≤l.length*size:=Nat.mul_le_mul_right _ hi;rw [Nat.succ_mul] at this;omega
  rw [List.getElem?_take_of_lt fd];simp [World.cell?,pd]
theorem bE {fn:Func} {a:Tmp} {t:TypeId} (h:fn.results=#[.cell a t]) (tmps:Array Value) {P:Program} {w:World} {p:Addr} {v:Value} (ha:tmps.getD a undef=.pointer (some p)) (hl:(loadVar t p).run P w=.ok v w) :
  (results fn tmps).run P w=.ok v w:=by
 rw [Array.getD_eq_getD_getElem?] at ha;simp [results,h,ha,asAddr,hl]
theorem results_cell_tmp {fn:Func} {a u:Tmp} {t:TypeId} (h:fn.results=#[.cell a t,.tmp u]) (tmps:Array Value) {P:Program} {w:World} {p:Addr} {v:Value} (ha:tmps.getD a undef=.pointer (some p)) (hl:(loadVar t p).run P w=.ok v w) :
  (results fn tmps).run P w=.ok (.tuple #[v,tmps.getD u undef]) w:=by
 rw [Array.getD_eq_getD_getElem?] at ha;simp [results,h,ha,asAddr,hl]
theorem Ib {α:Type} {size:Nat} {R:World→List Value→α→Prop} {w:World} {b cap:Nat} (x:α) (cs:List Value) (c:Array Value) (hb:b < w.heap.size) (hc:∀ o,w.cell? ⟨b,o,none⟩=c[o]?) (e:c.toList=cs) (hf:cs.length=size)
  (hR:R w cs x) (iR:1≤cap):aA w size R (some ⟨b,0,none⟩) cap [x] :=
 ⟨iR,by simp [Small],fun i hi=>by
  have:i=0:=by simpa using hi
  subst this
  exact ⟨b,0,cs,rfl,hb,hf,hR,fun j hj=>by rw [← e,hc];simp⟩⟩
theorem ag.cell_kept {w w':World} (h:ag w w') {a:Addr} {v:Value} (hc:w.cell? a=some v):w'.cell? a=some v:=(Below.cell h (World.block_lt_of_cell? w a hc)).trans hc
def au (w:World) (g:Nat) (xs:List Value):Prop:=g < w.heap.size∧(∀ j,j < xs.length→w.cell? ⟨g,j,none⟩=xs[j]?)∧∀ j,j < xs.length→w.frozen? ⟨g,j,none⟩=false
theorem au.aH {w w':World} {g:Nat} {xs:List Value} (h:au w g xs) (a:ag w w'):au w' g xs :=
 ⟨Nat.lt_of_lt_of_le h.1 a.size,fun j hj=>(Below.cell a (p:=⟨g,j,none⟩) h.1).trans (h.2.1 j hj),fun j hj=>(Below.frozen a (p:=⟨g,j,none⟩) h.1).trans (h.2.2 j hj)⟩
theorem au.cell {w:World} {g:Nat} {xs:List Value} (h:au w g xs) {j:Nat} {v:Value} (hj:xs[j]? = some v):w.cell? ⟨g,j,none⟩=some v :=
 (h.2.1 j (List.getElem?_eq_some_iff.1 hj).1).trans hj
theorem YD {w:World} {p:Nat} {a0 a1 a2:Value} {tl:List Value} (R:au w p (a0::a1::a2::tl)):w.cell? ⟨p,0,none⟩=some a0∧w.cell? ⟨p,1,none⟩=some a1∧w.cell? ⟨p,2,none⟩=some a2:=⟨R.cell (j:=0) rfl,R.cell (j:=1) rfl,R.cell (j:=2) rfl⟩
theorem yl {w:World} {p:Nat} {a0 a1 a2 a3:Value} {tl:List Value} (R:au w p (a0::a1::a2::a3::tl)):w.cell? ⟨p,0,none⟩=some a0∧w.cell? ⟨p,1,none⟩=some a1∧w.cell? ⟨p,2,none⟩=some a2∧w.cell? ⟨p,3,none⟩=some a3:=⟨R.cell (j:=0) rfl,R.cell (j:=1) rfl,R.cell (j:=2) rfl,R.cell (j:=3) rfl⟩
theorem rI {w:World} {p:Nat} {a0 a1 a2 a3 a4:Value} {tl:List Value} (R:au w p (a0::a1::a2::a3::a4::tl)):w.cell? ⟨p,0,none⟩=some a0∧w.cell? ⟨p,1,none⟩=some a1∧w.cell? ⟨p,2,none⟩=some a2∧w.cell? ⟨p,3,none⟩=some a3∧w.cell? ⟨p,4,none⟩=some a4:=⟨R.cell (j:=0) rfl,R.cell (j:=1) rfl,R.cell (j:=2) rfl,R.cell (j:=3) rfl,R.cell (j:=4) rfl⟩
theorem wO {w:World} {p:Nat} {a0 a1 a2 a3 a4 a5 a6:Value} {tl:List Value} (R:au w p (a0::a1::a2::a3::a4::a5::a6::tl)):w.cell? ⟨p,0,none⟩=some a0∧w.cell? ⟨p,1,none⟩=some a1∧w.cell? ⟨p,2,none⟩=some a2∧w.cell? ⟨p,3,none⟩=some a3∧w.cell? ⟨p,4,none⟩=some a4∧w.cell? ⟨p,5,none⟩=some a5∧w.cell? ⟨p,6,none⟩=some a6:=⟨R.cell (j:=0) rfl,R.cell (j:=1) rfl,R.cell (j:=2) rfl,R.cell (j:=3) rfl,R.cell (j:=4) rfl,R.cell (j:=5) rfl,R.cell (j:=6) rfl⟩
theorem uX {w:World} {p:Nat} {a0 a1 a2 a3 a4 a5 a6 a7 a8 a9:Value} {tl:List Value} (R:au w p (a0::a1::a2::a3::a4::a5::a6::a7::a8::a9::tl)):w.cell? ⟨p,0,none⟩=some a0∧w.cell? ⟨p,1,none⟩=some a1∧w.cell? ⟨p,2,none⟩=some a2∧w.cell? ⟨p,3,none⟩=some a3∧w.cell? ⟨p,4,none⟩=some a4∧w.cell? ⟨p,5,none⟩=some a5∧w.cell? ⟨p,6,none⟩=some a6∧w.cell? ⟨p,7,none⟩=some a7∧w.cell? ⟨p,8,none⟩=some a8∧w.cell? ⟨p,9,none⟩=some a9:=⟨R.cell (j:=0) rfl,R.cell (j:=1) rfl,R.cell (j:=2) rfl,R.cell (j:=3) rfl,R.cell (j:=4) rfl,R.cell (j:=5) rfl,R.cell (j:=6) rfl,R.cell (j:=7) rfl,R.cell (j:=8) rfl,R.cell (j:=9) rfl⟩
theorem kS {w:World} {p:Nat} {a0 a1 a2 a3 a4 a5 a6 a7 a8 a9 OH Ic a12 ym yn Uh Ui:Value} {tl:List Value} (R:au w p (a0::a1::a2::a3::a4::a5::a6::a7::a8::a9::OH::Ic::a12::ym::yn::Uh::Ui::tl)):w.cell? ⟨p,0,none⟩=some a0∧w.cell? ⟨p,1,none⟩=some a1∧w.cell? ⟨p,2,none⟩=some a2∧w.cell? ⟨p,3,none⟩=some a3∧w.cell? ⟨p,4,none⟩=some a4∧w.cell? ⟨p,5,none⟩=some a5∧w.cell? ⟨p,6,none⟩=some a6∧w.cell? ⟨p,7,none⟩=some a7∧w.cell? ⟨p,8,none⟩=some a8∧w.cell? ⟨p,9,none⟩=some a9∧w.cell? ⟨p,10,none⟩=some OH∧w.cell? ⟨p,11,none⟩=some Ic∧w.cell? ⟨p,12,none⟩=some a12∧w.cell? ⟨p,13,none⟩=some ym∧w.cell? ⟨p,14,none⟩=some yn∧w.cell? ⟨p,15,none⟩=some Uh∧w.cell? ⟨p,16,none⟩=some Ui:=⟨R.cell (j:=0) rfl,R.cell (j:=1) rfl,R.cell (j:=2) rfl,R.cell (j:=3) rfl,R.cell (j:=4) rfl,R.cell (j:=5) rfl,R.cell (j:=6) rfl,R.cell (j:=7) rfl,R.cell (j:=8) rfl,R.cell (j:=9) rfl,R.cell (j:=10) rfl,R.cell (j:=11) rfl,R.cell (j:=12) rfl,R.cell (j:=13) rfl,R.cell (j:=14) rfl,R.cell (j:=15) rfl,R.cell (j:=16) rfl⟩
theorem Uj {w:World} {p:Nat} {a0 a1 a2 a3 a4 a5 a6 a7 a8 a9 OH Ic a12 ym yn Uh Ui a17 a18 a19 a20 a21 a22:Value} {tl:List Value} (R:au w p (a0::a1::a2::a3::a4::a5::a6::a7::a8::a9::OH::Ic::a12::ym::yn::Uh::Ui::a17::a18::a19::a20::a21::a22::tl)):w.cell? ⟨p,0,none⟩=some a0∧w.cell? ⟨p,1,none⟩=some a1∧w.cell? ⟨p,2,none⟩=some a2∧w.cell? ⟨p,3,none⟩=some a3∧w.cell? ⟨p,4,none⟩=some a4∧w.cell? ⟨p,5,none⟩=some a5∧w.cell? ⟨p,6,none⟩=some a6∧w.cell? ⟨p,7,none⟩=some a7∧w.cell? ⟨p,8,none⟩=some a8∧w.cell? ⟨p,9,none⟩=some a9∧w.cell? ⟨p,10,none⟩=some OH∧w.cell? ⟨p,11,none⟩=some Ic∧w.cell? ⟨p,12,none⟩=some a12∧w.cell? ⟨p,13,none⟩=some ym∧w.cell? ⟨p,14,none⟩=some yn∧w.cell? ⟨p,15,none⟩=some Uh∧w.cell? ⟨p,16,none⟩=some Ui∧w.cell? ⟨p,17,none⟩=some a17∧w.cell? ⟨p,18,none⟩=some a18∧w.cell? ⟨p,19,none⟩=some a19∧w.cell? ⟨p,20,none⟩=some a20∧w.cell? ⟨p,21,none⟩=some a21∧w.cell? ⟨p,22,none⟩=some a22:=⟨R.cell (j:=0) rfl,R.cell (j:=1) rfl,R.cell (j:=2) rfl,R.cell (j:=3) rfl,R.cell (j:=4) rfl,R.cell (j:=5) rfl,R.cell (j:=6) rfl,R.cell (j:=7) rfl,R.cell (j:=8) rfl,R.cell (j:=9) rfl,R.cell (j:=10) rfl,R.cell (j:=11) rfl,R.cell (j:=12) rfl,R.cell (j:=13) rfl,R.cell (j:=14) rfl,R.cell (j:=15) rfl,R.cell (j:=16) rfl,R.cell (j:=17) rfl,R.cell (j:=18) rfl,R.cell (j:=19) rfl,R.cell (j:=20) rfl,R.cell (j:=21) rfl,R.cell (j:=22) rfl⟩
theorem Bj {w:World} {p:Nat} {a0 a1 a2 a3 a4:Value} {tl:List Value} (R:au w p (a0::a1::a2::a3::a4::tl)):w.frozen? ⟨p,0,none⟩=false∧w.frozen? ⟨p,1,none⟩=false∧w.frozen? ⟨p,2,none⟩=false∧w.frozen? ⟨p,3,none⟩=false∧w.frozen? ⟨p,4,none⟩=false:=⟨R.2.2 0 (by simp),R.2.2 1 (by simp),R.2.2 2 (by simp),R.2.2 3 (by simp),R.2.2 4 (by simp)⟩
theorem Uk {w:World} {p:Nat} {a0 a1 a2 a3 a4 a5 a6 a7 a8 a9:Value} {tl:List Value} (R:au w p (a0::a1::a2::a3::a4::a5::a6::a7::a8::a9::tl)):w.frozen? ⟨p,0,none⟩=false∧w.frozen? ⟨p,1,none⟩=false∧w.frozen? ⟨p,2,none⟩=false∧w.frozen? ⟨p,3,none⟩=false∧w.frozen? ⟨p,4,none⟩=false∧w.frozen? ⟨p,5,none⟩=false∧w.frozen? ⟨p,6,none⟩=false∧w.frozen? ⟨p,7,none⟩=false∧w.frozen? ⟨p,8,none⟩=false∧w.frozen? ⟨p,9,none⟩=false:=⟨R.2.2 0 (by simp),R.2.2 1 (by simp),R.2.2 2 (by simp),R.2.2 3 (by simp),R.2.2 4 (by simp),R.2.2 5 (by simp),R.2.2 6 (by simp),R.2.2 7 (by simp),R.2.2 8 (by simp),R.2.2 9 (by simp)⟩
theorem au.set {w:World} {g:Nat} {xs:List Value} (h:au w g xs) (j:Nat) (v:Value) (hj:j < xs.length):au (w.setCell ⟨g,j,none⟩ v) g (xs.set j v):=by
 have hc:w.cell? ⟨g,j,none⟩=some xs[j]:=(h.2.1 j hj).trans (List.getElem?_eq_getElem hj);refine ⟨by simpa using h.1,fun k hk=>?_,fun k hk=>?_⟩
 ·rw [List.length_set] at hk
  by_cases e:k=j
  ·subst e
   rw [World.cell?_setCell_same (h:=hc),List.getElem?_set_self hj]
  ·rw [World.cell?_setCell_other (h:=by intro e2;injection e2 with _ e3 _;exact e e3.symm),List.getElem?_set_ne (fun e2=>e e2.symm)]
   exact h.2.1 k hk
 ·rw [List.length_set] at hk
  rw [World.frozen?_setCell];exact h.2.2 k hk
def Ul (w:World) (base:Nat) (v:Value) (n:Nat) (xs:List Value):Prop:=∃ A cap,v=.slice A n cap∧n≤cap∧(0 < n→∃ g,A=some ⟨g,0,none⟩∧base≤g∧au w g xs)
theorem sy {w:World} {base size n:Nat} {e:TypeId} {v:Value} {xs:List Value} (h:w.ownsRow base e size v n xs):Ul w base v n xs:=by
 rcases h.2 with ⟨rfl,hn⟩ | ⟨g,cap,cur,rfl,hb,pd,uW,_,hcs,PR⟩
 ·exact ⟨none,0,by rw [hn],by omega,fun h0=>by omega⟩
 ·refine ⟨_,cap,rfl,uW,fun _=>⟨g,rfl,hb,(Array.getElem?_eq_some_iff.1 pd).1,fun j hj=>?_,fun j _=>?_⟩⟩
  ·rw [h.1] at hj
   rw [← PR,List.getElem?_take_of_lt hj];simp [World.cell?,pd]
  ·simp [World.frozen?,pd]
section
variable {α : Type} {size : Nat} {R : World → List Value → α → Prop} {w w' : World}
theorem sB:∀ (bH:List (List Value)),(∀ c∈bH,c.length=size)→bH.flatten.length=bH.length*size
 | [],_=>by simp
 | c::bH,h=>by
  rw [List.flatten_cons,List.length_append,h c (by simp),sB bH fun x hx=>h x (by simp [hx]),List.length_cons,Nat.succ_mul];omega
theorem po:∀ (bH:List (List Value)),(∀ c∈bH,c.length=size)→∀ i j (hi:i < bH.length),j < size→bH.flatten[i*size+j]? = bH[i][j]?
 | [],_,i,j,hi,_=>by simp at hi
 | c::bH,h,0,j,_,hj=>by
  rw [List.flatten_cons,Nat.zero_mul,Nat.zero_add,List.getElem?_append_left (by rw [h c (by simp)];exact hj)];rfl
 | c::bH,h,i+1,j,hi,hj=>by
  have e:(i+1)*size+j=size+(i*size+j):=by rw [Nat.succ_mul];omega
  rw [List.flatten_cons,e,List.getElem?_append_right (by rw [h c (by simp)];omega),h c (by simp),Nat.add_sub_cancel_left];exact po bH (fun x hx=>h x (by simp [hx])) i j (by simpa using hi) hj
theorem yo:∀ (bH:List (List Value)),(∀ c∈bH,c.length=size)→∀ i j (hi:i < bH.length) (v:Value),j < size→bH.flatten.set (i*size+j) v=(bH.set i (bH[i].set j v)).flatten
 | [],_,i,j,hi,_,_=>by simp at hi
 | c::bH,h,0,j,_,v,hj=>by
  rw [List.flatten_cons,Nat.zero_mul,Nat.zero_add,List.set_append_left _ _ (by rw [h c (by simp)];exact hj)];rfl
 | c::bH,h,i+1,j,hi,v,hj=>by
  have e:(i+1)*size+j=size+(i*size+j):=by rw [Nat.succ_mul];omega
  rw [List.flatten_cons,e,List.set_append_right _ _ (by rw [h c (by simp)];omega),h c (by simp),Nat.add_sub_cancel_left,yo bH (fun x hx=>h x (by simp [hx])) i j (by simpa using hi) v hj];rfl
def bV (w:World) (size:Nat) (R:World→List Value→α→Prop) (bH:List (List Value)) (l:List α):Prop:=bH.length=l.length∧∀ i (h:i < bH.length) (h':i < l.length),bH[i].length=size∧R w bH[i] l[i]
theorem bV.all {bH:List (List Value)} {l:List α} (h:bV w size R bH l):∀ c∈bH,c.length=size:=by
 intro c hc;obtain ⟨i,hi,rfl⟩:=List.getElem_of_mem hc;exact (h.2 i hi (by rw [← h.1];exact hi)).1
theorem bV.len {bH:List (List Value)} {l:List α} (h:bV w size R bH l):bH.flatten.length=l.length*size:=by rw [sB bH h.all,h.1]
theorem bV.nil:bV w size R [] ([]:List α):=⟨rfl,fun i h=>by simp at h⟩
theorem aA.bH {A:Option Addr} {cap:Nat} {l:List α} (h:aA w size R A cap l) (h0:0 < l.length) (hs:0 < size) :
  ∃ b off bH,A=some ⟨b,off,none⟩∧b < w.heap.size∧bV w size R bH l∧∀ p,p < l.length*size→w.cell? ⟨b,off+p,none⟩=bH.flatten[p]? := by
 obtain ⟨b,off,cs0,hA,hb,_⟩:=h.2.2 0 h0
 have hex:∀ i,i < l.length→∃ cs:List Value,∀ hi:i < l.length,cs.length=size∧R w cs l[i]∧∀ j,j < size→w.cell? ⟨b,off+(i*size+j),none⟩=cs[j]? := by
  intro i hi;obtain ⟨b',off',cs,hA',hb',hl,hR,hc⟩:=h.2.2 i hi;rw [hA] at hA';simp only [Option.some.injEq,Addr.mk.injEq,and_true] at hA';obtain ⟨rfl,rfl⟩:=hA';exact ⟨cs,fun _=>⟨hl,hR,hc⟩⟩
 obtain ⟨bH,pc,hp⟩:=mG l.length _ hex;have hch:bV w size R bH l:=⟨pc,fun i h1 h2=>⟨(hp i h1 h2).1,(hp i h1 h2).2.1⟩⟩;refine ⟨b,off,bH,hA,hb,hch,fun p hpl=>?_⟩
 have e:p=p / size*size+p % size:=by rw [Nat.mul_comm];exact (Nat.div_add_mod p size).symm
 have hi:p / size < l.length:=Nat.div_lt_of_lt_mul (by rw [Nat.mul_comm];exact hpl);have hj:p % size < size:=Nat.mod_lt _ hs;have h1:=(hp (p / size) (by rw [pc];exact hi) hi).2.2 (p % size) hj;rw [← e] at h1;rw [h1,← po bH hch.all (p / size) (p % size) (by rw [pc];exact hi) hj,← e]
theorem Ie {g cap:Nat} {bH:List (List Value)} {l:List α} (hr:au w g bH.flatten) (hc:bV w size R bH l) (iR:l.length≤cap) (hs:Small (l.length*16)):aA w size R (some ⟨g,0,none⟩) cap l:=by
 refine ⟨iR,hs,fun i hi=>?_⟩
 have hi':i < bH.length:=by rw [hc.1];exact hi
 refine ⟨g,0,bH[i],rfl,hr.1,(hc.2 i hi' hi).1,(hc.2 i hi' hi).2,fun j hj=>?_⟩;rw [Nat.zero_add,← po bH hc.all i j hi' hj];refine hr.2.1 _ ?_;rw [hc.len];have:(i+1)*size≤l.length*size:=Nat.mul_le_mul_right _ hi;rw [Nat.succ_mul] at this;omega
theorem Fh {base:Nat} {v:Value} {bH:List (List Value)} {l:List α} (h:Ul w base v l.length bH.flatten) (hc:bV w size R bH l) (hs:Small (l.length*16)):∃ A cap,v=.slice A l.length cap∧aA w size R A cap l:=by
 obtain ⟨A,cap,e,iR,hg⟩:=h;by_cases h0:0 < l.length
 ·obtain ⟨g,rfl,_,hr⟩:=hg h0
  exact ⟨_,cap,e,Ie hr hc iR hs⟩
 ·have:l=[]:=List.eq_nil_of_length_eq_zero (by omega)
  subst this;exact ⟨A,cap,e,iR,hs,fun i hi=>by simp at hi⟩
end
structure Hd where
 a:Option Addr
 n:Nat
 c:Nat
def Hd.v (h:Hd):Value:=.slice h.a h.n h.c
def Hd.blk (h:Hd):List Nat:=match h.a with | some p=>[p.block] | none=>[]
theorem Hd.bu {h:Hd} {g:Nat}:g∈h.blk↔h.v.ownBlock=some g:=by
 obtain ⟨a,n,c⟩:=h
 cases a<;>simp [Hd.blk,Hd.v,Value.ownBlock,eq_comm]
structure Kb (P:Nat→Prop) (w w':World):Prop where
 os:w'.os=w.os
 tape:w'.tape=w.tape
 output:w'.output=w.output
 size:w.heap.size≤w'.heap.size
 block:∀ k,k < w.heap.size→¬ P k→w'.heap[k]? = w.heap[k]?
theorem Kb.refl (P:Nat→Prop) (w:World):Kb P w w:=⟨rfl,rfl,rfl,Nat.le_refl _,fun _ _ _=>rfl⟩
theorem Kb.bl {P:Nat→Prop} {w w':World} (a:ag w w'):Kb P w w':=⟨a.os,a.tape,a.output,a.size,fun k hk _=>a.block k hk⟩
theorem Kb.dF {w w':World} {row:Option Nat} (h:w.grownBy w' row):Kb (fun k=>row=some k) w w':=⟨h.os,h.tape,h.output,h.size,fun k hk hn=>h.block k hk fun e=>hn e.symm⟩
theorem Kb.mono {P Q:Nat→Prop} {w w':World} (h:Kb P w w') (hq:∀ k,k < w.heap.size→P k→Q k):Kb Q w w':=⟨h.os,h.tape,h.output,h.size,fun k hk hn=>h.block k hk fun hp=>hn (hq k hk hp)⟩
theorem Kb.trans {P:Nat→Prop} {w w' w'':World} (h:Kb P w w') (h':Kb P w' w''):Kb P w w'' :=
 ⟨h'.os.trans h.os,h'.tape.trans h.tape,h'.output.trans h.output,Nat.le_trans h.size h'.size,fun k hk hn=>(h'.block k (Nat.lt_of_lt_of_le hk h.size) hn).trans (h.block k hk hn)⟩
theorem Kb.set (w:World) (g j:Nat) (v:Value):Kb (fun k=>k=g) w (w.setCell ⟨g,j,none⟩ v) :=
 ⟨rfl,rfl,rfl,by simp,fun k hk hn=>Below.heap_setCell _ _ _ _ hn⟩
theorem Kb.aN {P:Nat→Prop} {W w w':World} (h:Kb P w w') (a:ag W w) (hP:∀ k,k < W.heap.size→¬ P k):ag W w' :=
 ⟨h.os.trans a.os,h.tape.trans a.tape,h.output.trans a.output,Nat.le_trans a.size h.size,fun k hk=>(h.block k (Nat.lt_of_lt_of_le hk a.size) (hP k hk)).trans (a.block k hk)⟩
theorem Kb.cell {P:Nat→Prop} {w w':World} (h:Kb P w w') {p:Addr} {v:Value} (hc:w.cell? p=some v) (hb:¬ P p.block):w'.cell? p=some v:=by
 have:=h.block p.block (World.block_lt_of_cell? w p hc) hb;unfold World.cell? at hc ⊢;rw [this];exact hc
theorem Kb.row {P:Nat→Prop} {w w':World} (h:Kb P w w') {g:Nat} {xs:List Value} (hr:au w g xs) (hb:¬ P g):au w' g xs:=by
 have:=h.block g hr.1 hb;refine ⟨Nat.lt_of_lt_of_le hr.1 h.size,fun j hj=>?_,fun j hj=>?_⟩
 ·rw [← hr.2.1 j hj];simp [World.cell?,this]
 ·rw [← hr.2.2 j hj];simp [World.frozen?,this]
theorem bB {P:Nat→Prop} {w w':World} {B size n:Nat} {e:TypeId} {v:Value} {xs:List Value} (h:w.ownsRow B e size v n xs) (k:Kb P w w') (hne:∀ g,v.ownBlock=some g→¬ P g):w'.ownsRow B e size v n xs:=by
 refine ⟨h.1,?_⟩
 rcases h.2 with hn | ⟨g,cap,cur,rfl,hb,pd,rest⟩
 ·exact .inl hn
 ·exact .inr ⟨g,cap,cur,rfl,hb,(k.block g (lt_of_block pd) (hne g rfl)).trans pd,rest⟩
theorem nX {w:World} {B size n:Nat} {e:TypeId} {h:Hd} {xs:List Value} (o:w.ownsRow B e size h.v n xs):h.n=n:=by
 rcases o.2 with ⟨hv,hn⟩ | ⟨g,cap,cur,hv,_⟩
 ·unfold Hd.v at hv;simp only [Value.slice.injEq] at hv;omega
 ·unfold Hd.v at hv;simp only [Value.slice.injEq] at hv;exact hv.2.1
theorem sD {w:World} {B size n:Nat} {e:TypeId} {v:Value} {xs:List Value} (o:w.ownsRow B e size v n xs):∃ h:Hd,v=h.v∧h.n=n:=by
 rcases o.2 with ⟨hv,hn⟩ | ⟨g,cap,cur,hv,_⟩
 ·exact ⟨⟨none,0,0⟩,hv,hn.symm⟩
 ·exact ⟨⟨_,n,cap⟩,hv,rfl⟩
theorem bY {w:World} {B size n:Nat} {e:TypeId} {h:Hd} {xs:List Value} (o:w.ownsRow B e size h.v n xs):h.v=.slice h.a n h.c:=by
 have:=nX o;unfold Hd.v;rw [this]
theorem mH {w:World} {B B' size n:Nat} {e:TypeId} {v:Value} {xs:List Value} (h:w.ownsRow B e size v n xs) (hb:∀ g,v.ownBlock=some g→B'≤g):w.ownsRow B' e size v n xs:=by
 refine ⟨h.1,?_⟩
 rcases h.2 with hn | ⟨g,cap,cur,rfl,hb',rest⟩
 ·exact .inl hn
 ·exact .inr ⟨g,cap,cur,rfl,hb g rfl,rest⟩
theorem bS {w:World} {B B' size n:Nat} {e:TypeId} {v:Value} {xs:List Value} (h:w.ownsRow B e size v n xs) (hb:B'≤B):w.ownsRow B' e size v n xs :=
 mH h fun g hg=>Nat.le_trans hb (h.lt g hg).1
theorem cB {w:World} {B size n:Nat} {e:TypeId} {v:Value} {xs:List Value} (h:w.ownsRow B e size v n xs) (hn:0 < n):∃ g cap,v=.slice (some ⟨g,0,none⟩) n cap∧B≤g∧n≤cap∧au w g xs:=by
 obtain ⟨A,cap,e,hc,hg⟩:=sy h;obtain ⟨g,hA,hb,hr⟩:=hg hn;exact ⟨g,cap,by rw [e,hA],hb,hc,hr⟩
theorem pp (w:World) (g j:Nat) (v:Value) {cur:Array Value} {e:TypeId} {f:Nat × Nat} (h:w.heap[g]? = some (.cells cur e f)):(w.setCell ⟨g,j,none⟩ v).heap[g]? = some (.cells (cur.setIfInBounds j v) e f):=by
 have hl:g < w.heap.size:=lt_of_block h
 have h':w.heap[g]=.cells cur e f:=by simpa [Array.getElem?_eq_getElem hl] using h
 show (w.heap.modify g _)[g]? = _
 rw [Array.getElem?_eq_getElem (by simpa using hl),Array.getElem_modify_self,h'];simp
theorem lB {w:World} {B size n:Nat} {e:TypeId} {v:Value} {xs:List Value} (h:w.ownsRow B e size v n xs) {g:Nat} (hg:v.ownBlock=some g) (j:Nat) (u:Value):(w.setCell ⟨g,j,none⟩ u).ownsRow B e size v n (xs.set j u):=by
 refine ⟨by rw [List.length_set];exact h.1,?_⟩
 rcases h.2 with ⟨rfl,_⟩ | ⟨g',cap,cur,rfl,hb,pd,uW,hm,hcs,PR⟩
 ·simp [Value.ownBlock] at hg
 ·have:g'=g:=by simpa [Value.ownBlock] using hg
  subst this;refine .inr ⟨g',cap,cur.setIfInBounds j u,rfl,hb,pp w g' j u pd,uW,hm,by simpa using hcs,?_⟩;rw [Array.toList_setIfInBounds,List.take_set,PR]
theorem Bk {α:Type} {w:World} {B size:Nat} {e:TypeId} {h:Hd} {l:List α} {bH:List (List Value)} {R:World→List Value→α→Prop} (o:w.ownsRow B e size h.v l.length bH.flatten) (hc:bV w size R bH l) (hs:Small (l.length*16)):aA w size R h.a h.c l:=by
 obtain ⟨A,cap,hv,sl⟩:=Fh (sy o) hc hs;unfold Hd.v at hv;simp only [Value.slice.injEq] at hv;rw [hv.1,hv.2.2];exact sl
theorem Bl {α:Type} {w:World} {size:Nat} {R:World→List Value→α→Prop} (f:α→List Value) (l:List α) (hf:∀ x∈l,(f x).length=size∧R w (f x) x):bV w size R (l.map f) l :=
 ⟨by simp,fun i h h'=>by simpa using hf l[i] (List.getElem_mem h')⟩
theorem dC {α:Type} {w:World} {B size:Nat} {e:TypeId} {h:Hd} {l:List α} {R:World→List Value→α→Prop} (f:α→List Value) (o:w.ownsRow B e size h.v l.length (l.flatMap f)) (hf:∀ x∈l,(f x).length=size∧R w (f x) x) (hs:Small (l.length*16)):aA w size R h.a h.c l :=
 Bk (bH:=l.map f) (by rw [← List.flatMap_def];exact o) (Bl f l hf) hs
def bT (s:ByteArray):List Value:=[.string s]
def Fi (c:eB):List Value:=[.string c.name,.int .i64 c.kind,.bool c.null]
def jo (s:fJ):List Value:=[.string s.name,.string s.owner]
def Fj (r:fF) (h:Hd):List Value:=[.string r.name,.int .i64 r.kind,h.v,.int .i64 r.low,.int .i64 r.high,.string r.ac,.string r.table,.string r.key]
structure Lay where
 Bo:Nat→Hd
 yq:Nat→Hd
 j0:Nat→Nat→Hd
end Go.Proofs.YtakddkhipelmjaaGreat
