/- Contracts of the program, part 15. -/
import Derived.Laws.EntriesVeiled
import Derived.WalkKit
import Derived.WalkSpells
import Derived.WalkLawsBesides
import Derived.Laws.Cells
import Derived.Laws.IdiomCopy
import Derived.Test.YtbdanlipghhgpaaGreatDoorRows
import Derived.Lib.Bytealg
import Derived.Lib.Hide
import Derived.ProofKit
import Derived.OpenShut
import Derived.Deep.Slices
import Derived.ChangeOld
import Derived.SizedLaws
import Derived.Deep.QuietTactic
import Derived.BigQuiet
import Derived.Below
import Derived.Deep.Draws
import Derived.StillTailTactics
import Derived.ShutString
import Derived.Lib.Atoi
import Derived.Lib.ItoaNum
import Derived.Lib.Split
import Derived.Lib.SplitLaws
import Derived.Lib.CutLaws
import Derived.Lib.Strings
import Derived.Lib.SlTrimSet
import Derived.Deep.Upon
import Derived.OwnWalk
import Derived.Laws.AppendOwn
import Derived.Shelf.Strings.Builder1
import Derived.Shelf.Strings.Builder2
import Derived.Shelf.Strings.OnBuilder
import Derived.Shelf.Strings.Trim
import Derived.Shelf.Small.Utf8
import Derived.Shelf.Small.Strs
import Derived.Shelf.Small.Wraps
import Derived.Shelf.Strconv.Atoi
import Derived.Shelf.Strconv.Itoa0
import Derived.Shelf.Strconv.Itoa1
import Derived.Shelf.LaysM
import Derived.Shelf.Strconv.Itoa2
import Derived.Shelf.Strconv.Itoa3
import Derived.Shelf.Strings.Search1
import Derived.Shelf.Strings.Search2
import Derived.Shelf.Strings.Search3
import Derived.Shelf.Strings.Cut
import Derived.Shelf.Strings.Count
import Derived.Shelf.Strings.Shaped
import Derived.Shelf.Strings.Prefix
import Derived.Shelf.Strings.Split
import Derived.Shelf.Strings.Runes
import Derived.Shelf.Strings.AsciiSet
import Derived.Shelf.Unicode.DecodeSlow
import Derived.Shelf.Slices.Equal
import Derived.Shelf.Slices.Empties2
import Derived.Shelf.Strings.SlTrimAscii
import Derived.Test.YtbdanlipghhgpaaGreatDoorProg
import Derived.Deep.AppendLies
import Derived.Recover
import Derived.Defers
import Derived.Deep.Cut
import Derived.Lib.CountLaws
import Derived.Deep.RegionLaw
import Derived.RegionDies
import Derived.Test.YtbdanlipghhgpaaGreatDoorPartD1
import Derived.Test.YtbdanlipghhgpaaGreatDoorPartD2
import Derived.Test.YtbdanlipghhgpaaGreatDoorPartD3
import Derived.Test.YtbdanlipghhgpaaGreatDoorPartD4
import Derived.Test.YtbdanlipghhgpaaGreatDoorPartD5
import Derived.Test.YtbdanlipghhgpaaGreatDoorPartD6
import Derived.Test.YtbdanlipghhgpaaGreatDoorPartD7
import Derived.Test.YtbdanlipghhgpaaGreatDoorPartD8
import Derived.Test.YtbdanlipghhgpaaGreatDoorPartD9
import Derived.Test.YtbdanlipghhgpaaGreatDoorPartD10
import Derived.Test.YtbdanlipghhgpaaGreatDoorPartD11
import Derived.Test.YtbdanlipghhgpaaGreatDoorPartD12
import Derived.Test.YtbdanlipghhgpaaGreatDoorPartD13
import Derived.Test.YtbdanlipghhgpaaGreatDoorPartD14
namespace Go.Proofs.YtbdanlipghhgpaaGreatDoor
open Go.RowKit Go.Deep
set_option maxRecDepth 100000
set_option linter.unusedVariables false
theorem Nx.start2 {b p : Nat} {w : World} {W : Ws} {d : Bool} (h : LnS w b p W d) (zs cs : List Value) (t1 t2 : TypeId) : Nx b p w.heap.size (w.heap.size + 1) w ((w.alloc (.cells zs.toArray t1)).alloc (.cells cs.toArray t2)) W d zs cs := by
  have X := (Nr.start h zs t1).box cs t2
  rw [show (w.alloc (.cells zs.toArray t1)).heap.size = w.heap.size + 1 by simp] at X
  exact X
def ActN (b B : Nat) (w' : World) (v : Value) (a : Dact) : Prop :=
  ∃ A k A2 k2 A3 k3, v = .agg (actV a A k A2 k2 A3 k3).toArray ∧ ColsN b B w' (.slice A a.cmd.cols.length k) a.cmd.cols ∧ NamesN b B w' (.slice A2 a.cmd.rule.cols.length k2) a.cmd.rule.cols ∧ ValsN b B w' (.slice A3 a.row.row.length k3) a.row.row ∧ CmdZ a.cmd ∧ (SzS a.row.role ∧ SzS a.row.schema ∧ SzS a.row.table ∧ SzS a.row.col ∧ SzS a.row.v.text)
theorem cmdZ_z : CmdZ zCmd := ⟨szZ, szZ, szZ, szZ, szZ, szZ, szZ, szZ, szZ⟩
theorem actN_plain {b B : Nat} {w : World} {v : Value} {a : Dact} (hb : b < B) (hv : v = .agg (actV a none 0 none 0 none 0).toArray) (hc : a.cmd = zCmd) (hr : a.row = zROp) : ActN b B w v a :=
  ⟨none, 0, none, 0, none, 0, hv, by rw [hc]; exact colsN_nil b B w hb, by rw [hc]; exact namesN_nil b B w hb, by rw [hr]; exact valsN_nil b B w hb, by rw [hc]; exact cmdZ_z, by rw [hr]; exact ⟨szZ, szZ, szZ, szZ, szZ⟩⟩
set_option maxHeartbeats 4000000 in
theorem actN_tick (f : ByteArray) (W : Ws) (d : Bool) (W0 : Ws) (d0 : Bool) (q0 : wordD W d = (f, W0, d0)) (h : eqS f b_tick = true) (b p : Nat) (w : World) (hl : LnS w b p W d) : Calls Tryz.prog 21 #[.pointer (some ⟨b, 0, none⟩)] w (RdN b p w (ActN b w.heap.size) (actD W d)) := by
  obtain ⟨n1, W1, d1, q1⟩ : ∃ a c e, numD W0 d0 = (a, c, e) := ⟨_, _, _, rfl⟩
  have H1 := Lib.hid (lnum_at (b := b) (p := p) q1)
  have e : actD W d = ({ zAct with kind := 1, node := n1 }, W1, d1) := by simp [actD, threeD, chgD, bindD, q0, q1, h]
  rw [e]
  have H0 := Lib.hid (lword_at (b := b) (p := p) q0)
  have ih := eqS_as h
  unfold b_tick at ih
  simp only at ih
  have HX0 := Lib.hid (Nx.start2 hl [.int .i64 0, .int .i64 0, .int .i64 0, .int .i64 0, .int .i64 0, .int .i64 0, .string ⟨#[]⟩, .string ⟨#[]⟩, .string ⟨#[]⟩, .string ⟨#[]⟩, .string ⟨#[]⟩, .slice none 0 0, .string ⟨#[]⟩, .int .i64 0, .slice none 0 0, .int .i64 0, .int .i64 0, .string ⟨#[]⟩, .string ⟨#[]⟩, .string ⟨#[]⟩, .int .i64 0, .bool false, .int .i64 0, .int .i64 0, .int .i64 0, .string ⟨#[]⟩, .string ⟨#[]⟩, .string ⟨#[]⟩, .slice none 0 0, .string ⟨#[]⟩, .int .i64 0, .int .i64 0, .string ⟨#[]⟩] [.int .i64 0, .int .i64 0, .int .i64 0, .int .i64 0, .int .i64 0, .int .i64 0, .string ⟨#[]⟩, .string ⟨#[]⟩, .string ⟨#[]⟩, .string ⟨#[]⟩, .string ⟨#[]⟩, .slice none 0 0, .string ⟨#[]⟩, .int .i64 0, .slice none 0 0, .int .i64 0, .int .i64 0, .string ⟨#[]⟩, .string ⟨#[]⟩, .string ⟨#[]⟩, .int .i64 0, .bool false, .int .i64 0, .int .i64 0, .int .i64 0, .string ⟨#[]⟩, .string ⟨#[]⟩, .string ⟨#[]⟩, .slice none 0 0, .string ⟨#[]⟩, .int .i64 0, .int .i64 0, .string ⟨#[]⟩] 43 43)
  have hb := hl.lt
  have HB := Lib.hid hb
  clear e hl q0 q1 h
  go_enter Tryz.func21, Tryz.ntmps21
  go_wp2_with (first
    | (go_at_call 32; with_reducible refine (H0.out _ HX0.out.nr.ds).mono ?_; rintro e w0 ⟨rfl, g0, l0, k0⟩; have X1 := HX0.out.call k0 l0; obtain ⟨ca0, fa0⟩ := X1.cf 0 (by simp); obtain ⟨cc0, fc0⟩ := X1.cf 22 (by simp); have hxb := X1.xb; have hbx := X1.bx; have z0 := X1.lt; obtain ⟨z00, z01, z02⟩ := z0; have X0s : Nx b p w.heap.size (w.heap.size + 1) w _ _ _ [.int .i64 0, .int .i64 0, .int .i64 0, .int .i64 0, .int .i64 0, .int .i64 0, .string ⟨#[]⟩, .string ⟨#[]⟩, .string ⟨#[]⟩, .string ⟨#[]⟩, .string ⟨#[]⟩, .slice none 0 0, .string ⟨#[]⟩, .int .i64 0, .slice none 0 0, .int .i64 0, .int .i64 0, .string ⟨#[]⟩, .string ⟨#[]⟩, .string ⟨#[]⟩, .int .i64 0, .bool false, .int .i64 0, .int .i64 0, .int .i64 0, .string ⟨#[]⟩, .string ⟨#[]⟩, .string ⟨#[]⟩, .slice none 0 0, .string ⟨#[]⟩, .int .i64 0, .int .i64 0, .string ⟨#[]⟩] [.int .i64 1, .int .i64 0, .int .i64 0, .int .i64 0, .int .i64 0, .int .i64 0, .string ⟨#[]⟩, .string ⟨#[]⟩, .string ⟨#[]⟩, .string ⟨#[]⟩, .string ⟨#[]⟩, .slice none 0 0, .string ⟨#[]⟩, .int .i64 0, .slice none 0 0, .int .i64 0, .int .i64 0, .string ⟨#[]⟩, .string ⟨#[]⟩, .string ⟨#[]⟩, .int .i64 0, .bool false, .int .i64 0, .int .i64 0, .int .i64 0, .string ⟨#[]⟩, .string ⟨#[]⟩, .string ⟨#[]⟩, .slice none 0 0, .string ⟨#[]⟩, .int .i64 0, .int .i64 0, .string ⟨#[]⟩] := X1.set 0 (.int .i64 1) (by simp); have X0s := Lib.hid X0s; clear l0 k0 X1)
    | (go_at_call 33; with_reducible refine (H1.out _ X0s.out.nr.ds).mono ?_; rintro e w1 ⟨rfl, m1, k1⟩; have X1 := X0s.out.call k1 m1; obtain ⟨ca1, fa1⟩ := X1.cf 1 (by simp); obtain ⟨cc1, fc1⟩ := X1.cf 22 (by simp); have z1 := X1.lt; obtain ⟨z10, z11, z12⟩ := z1; have X1s : Nx b p w.heap.size (w.heap.size + 1) w _ _ _ [.int .i64 0, .int .i64 0, .int .i64 0, .int .i64 0, .int .i64 0, .int .i64 0, .string ⟨#[]⟩, .string ⟨#[]⟩, .string ⟨#[]⟩, .string ⟨#[]⟩, .string ⟨#[]⟩, .slice none 0 0, .string ⟨#[]⟩, .int .i64 0, .slice none 0 0, .int .i64 0, .int .i64 0, .string ⟨#[]⟩, .string ⟨#[]⟩, .string ⟨#[]⟩, .int .i64 0, .bool false, .int .i64 0, .int .i64 0, .int .i64 0, .string ⟨#[]⟩, .string ⟨#[]⟩, .string ⟨#[]⟩, .slice none 0 0, .string ⟨#[]⟩, .int .i64 0, .int .i64 0, .string ⟨#[]⟩] [.int .i64 1, .int .i64 n1, .int .i64 0, .int .i64 0, .int .i64 0, .int .i64 0, .string ⟨#[]⟩, .string ⟨#[]⟩, .string ⟨#[]⟩, .string ⟨#[]⟩, .string ⟨#[]⟩, .slice none 0 0, .string ⟨#[]⟩, .int .i64 0, .slice none 0 0, .int .i64 0, .int .i64 0, .string ⟨#[]⟩, .string ⟨#[]⟩, .string ⟨#[]⟩, .int .i64 0, .bool false, .int .i64 0, .int .i64 0, .int .i64 0, .string ⟨#[]⟩, .string ⟨#[]⟩, .string ⟨#[]⟩, .slice none 0 0, .string ⟨#[]⟩, .int .i64 0, .int .i64 0, .string ⟨#[]⟩] := X1.set 1 (.int .i64 n1) (by simp); have X1s := Lib.hid X1s; have e1 := lvAct_row X1s.out.row rfl; have e2 := svAct_row X1s.out.nr.res rfl rfl (vs := [.int .i64 1, .int .i64 n1, .int .i64 0, .int .i64 0, .int .i64 0, .int .i64 0, .string ⟨#[]⟩, .string ⟨#[]⟩, .string ⟨#[]⟩, .string ⟨#[]⟩, .string ⟨#[]⟩, .slice none 0 0, .string ⟨#[]⟩, .int .i64 0, .slice none 0 0, .int .i64 0, .int .i64 0, .string ⟨#[]⟩, .string ⟨#[]⟩, .string ⟨#[]⟩, .int .i64 0, .bool false, .int .i64 0, .int .i64 0, .int .i64 0, .string ⟨#[]⟩, .string ⟨#[]⟩, .string ⟨#[]⟩, .slice none 0 0, .string ⟨#[]⟩, .int .i64 0, .int .i64 0, .string ⟨#[]⟩]) (by simp [Value.oneCell']); clear m1 k1 X1))
  have XR := X1s.out.nr.sets (cs := [.int .i64 1, .int .i64 n1, .int .i64 0, .int .i64 0, .int .i64 0, .int .i64 0, .string ⟨#[]⟩, .string ⟨#[]⟩, .string ⟨#[]⟩, .string ⟨#[]⟩, .string ⟨#[]⟩, .slice none 0 0, .string ⟨#[]⟩, .int .i64 0, .slice none 0 0, .int .i64 0, .int .i64 0, .string ⟨#[]⟩, .string ⟨#[]⟩, .string ⟨#[]⟩, .int .i64 0, .bool false, .int .i64 0, .int .i64 0, .int .i64 0, .string ⟨#[]⟩, .string ⟨#[]⟩, .string ⟨#[]⟩, .slice none 0 0, .string ⟨#[]⟩, .int .i64 0, .int .i64 0, .string ⟨#[]⟩]) rfl
  refine bodyPost_ret (results_cell rfl _ rfl (lv_row (T := 43) Tryz.underlying43 (by kernel_rfl) XR.res rfl)) rfl ?_
  exact ⟨XR.kw, _, rfl, actN_plain HB.out rfl rfl rfl, XR.ds⟩
set_option maxHeartbeats 4000000 in
theorem actN_world (f : ByteArray) (W : Ws) (d : Bool) (W0 : Ws) (d0 : Bool) (q0 : wordD W d = (f, W0, d0)) (h0 : eqS f b_tick = false) (h : eqS f b_world = true) (b p : Nat) (w : World) (hl : LnS w b p W d) : Calls Tryz.prog 21 #[.pointer (some ⟨b, 0, none⟩)] w (RdN b p w (ActN b w.heap.size) (actD W d)) := by
  have e : actD W d = ({ zAct with kind := 2 }, W0, d0) := by simp [actD, threeD, chgD, bindD, q0, h0, h]
  rw [e]
  have H0 := Lib.hid (lword_at (b := b) (p := p) q0)
  have ih0 := eqS_as h0
  unfold b_tick at ih0
  simp only at ih0
  have ih := eqS_as h
  unfold b_world at ih
  simp only at ih
  have HX0 := Lib.hid (Nx.start2 hl [.int .i64 0, .int .i64 0, .int .i64 0, .int .i64 0, .int .i64 0, .int .i64 0, .string ⟨#[]⟩, .string ⟨#[]⟩, .string ⟨#[]⟩, .string ⟨#[]⟩, .string ⟨#[]⟩, .slice none 0 0, .string ⟨#[]⟩, .int .i64 0, .slice none 0 0, .int .i64 0, .int .i64 0, .string ⟨#[]⟩, .string ⟨#[]⟩, .string ⟨#[]⟩, .int .i64 0, .bool false, .int .i64 0, .int .i64 0, .int .i64 0, .string ⟨#[]⟩, .string ⟨#[]⟩, .string ⟨#[]⟩, .slice none 0 0, .string ⟨#[]⟩, .int .i64 0, .int .i64 0, .string ⟨#[]⟩] [.int .i64 0, .int .i64 0, .int .i64 0, .int .i64 0, .int .i64 0, .int .i64 0, .string ⟨#[]⟩, .string ⟨#[]⟩, .string ⟨#[]⟩, .string ⟨#[]⟩, .string ⟨#[]⟩, .slice none 0 0, .string ⟨#[]⟩, .int .i64 0, .slice none 0 0, .int .i64 0, .int .i64 0, .string ⟨#[]⟩, .string ⟨#[]⟩, .string ⟨#[]⟩, .int .i64 0, .bool false, .int .i64 0, .int .i64 0, .int .i64 0, .string ⟨#[]⟩, .string ⟨#[]⟩, .string ⟨#[]⟩, .slice none 0 0, .string ⟨#[]⟩, .int .i64 0, .int .i64 0, .string ⟨#[]⟩] 43 43)
  have hb := hl.lt
  have HB := Lib.hid hb
  clear e hl q0  h0 h
  go_enter Tryz.func21, Tryz.ntmps21
  go_wp2_with (first
    | (go_at_call 32; with_reducible refine (H0.out _ HX0.out.nr.ds).mono ?_; rintro e w0 ⟨rfl, g0, l0, k0⟩; have X1 := HX0.out.call k0 l0; obtain ⟨ca0, fa0⟩ := X1.cf 0 (by simp); obtain ⟨cc0, fc0⟩ := X1.cf 22 (by simp); have hxb := X1.xb; have hbx := X1.bx; have z0 := X1.lt; obtain ⟨z00, z01, z02⟩ := z0; have X0s : Nx b p w.heap.size (w.heap.size + 1) w _ _ _ [.int .i64 0, .int .i64 0, .int .i64 0, .int .i64 0, .int .i64 0, .int .i64 0, .string ⟨#[]⟩, .string ⟨#[]⟩, .string ⟨#[]⟩, .string ⟨#[]⟩, .string ⟨#[]⟩, .slice none 0 0, .string ⟨#[]⟩, .int .i64 0, .slice none 0 0, .int .i64 0, .int .i64 0, .string ⟨#[]⟩, .string ⟨#[]⟩, .string ⟨#[]⟩, .int .i64 0, .bool false, .int .i64 0, .int .i64 0, .int .i64 0, .string ⟨#[]⟩, .string ⟨#[]⟩, .string ⟨#[]⟩, .slice none 0 0, .string ⟨#[]⟩, .int .i64 0, .int .i64 0, .string ⟨#[]⟩] [.int .i64 2, .int .i64 0, .int .i64 0, .int .i64 0, .int .i64 0, .int .i64 0, .string ⟨#[]⟩, .string ⟨#[]⟩, .string ⟨#[]⟩, .string ⟨#[]⟩, .string ⟨#[]⟩, .slice none 0 0, .string ⟨#[]⟩, .int .i64 0, .slice none 0 0, .int .i64 0, .int .i64 0, .string ⟨#[]⟩, .string ⟨#[]⟩, .string ⟨#[]⟩, .int .i64 0, .bool false, .int .i64 0, .int .i64 0, .int .i64 0, .string ⟨#[]⟩, .string ⟨#[]⟩, .string ⟨#[]⟩, .slice none 0 0, .string ⟨#[]⟩, .int .i64 0, .int .i64 0, .string ⟨#[]⟩] := X1.set 0 (.int .i64 2) (by simp); have X0s := Lib.hid X0s; have e1 := lvAct_row X0s.out.row rfl; have e2 := svAct_row X0s.out.nr.res rfl rfl (vs := [.int .i64 2, .int .i64 0, .int .i64 0, .int .i64 0, .int .i64 0, .int .i64 0, .string ⟨#[]⟩, .string ⟨#[]⟩, .string ⟨#[]⟩, .string ⟨#[]⟩, .string ⟨#[]⟩, .slice none 0 0, .string ⟨#[]⟩, .int .i64 0, .slice none 0 0, .int .i64 0, .int .i64 0, .string ⟨#[]⟩, .string ⟨#[]⟩, .string ⟨#[]⟩, .int .i64 0, .bool false, .int .i64 0, .int .i64 0, .int .i64 0, .string ⟨#[]⟩, .string ⟨#[]⟩, .string ⟨#[]⟩, .slice none 0 0, .string ⟨#[]⟩, .int .i64 0, .int .i64 0, .string ⟨#[]⟩]) (by simp [Value.oneCell']); clear l0 k0 X1))
  have XR := X0s.out.nr.sets (cs := [.int .i64 2, .int .i64 0, .int .i64 0, .int .i64 0, .int .i64 0, .int .i64 0, .string ⟨#[]⟩, .string ⟨#[]⟩, .string ⟨#[]⟩, .string ⟨#[]⟩, .string ⟨#[]⟩, .slice none 0 0, .string ⟨#[]⟩, .int .i64 0, .slice none 0 0, .int .i64 0, .int .i64 0, .string ⟨#[]⟩, .string ⟨#[]⟩, .string ⟨#[]⟩, .int .i64 0, .bool false, .int .i64 0, .int .i64 0, .int .i64 0, .string ⟨#[]⟩, .string ⟨#[]⟩, .string ⟨#[]⟩, .slice none 0 0, .string ⟨#[]⟩, .int .i64 0, .int .i64 0, .string ⟨#[]⟩]) rfl
  refine bodyPost_ret (results_cell rfl _ rfl (lv_row (T := 43) Tryz.underlying43 (by kernel_rfl) XR.res rfl)) rfl ?_
  exact ⟨XR.kw, _, rfl, actN_plain HB.out rfl rfl rfl, XR.ds⟩
set_option maxHeartbeats 4000000 in
theorem actN_start (f : ByteArray) (W : Ws) (d : Bool) (W0 : Ws) (d0 : Bool) (q0 : wordD W d = (f, W0, d0)) (h0 : eqS f b_tick = false) (h1 : eqS f b_world = false) (h : eqS f b_start = true) (b p : Nat) (w : World) (hl : LnS w b p W d) : Calls Tryz.prog 21 #[.pointer (some ⟨b, 0, none⟩)] w (RdN b p w (ActN b w.heap.size) (actD W d)) := by
  obtain ⟨n1, W1, d1, q1⟩ : ∃ a c e, numD W0 d0 = (a, c, e) := ⟨_, _, _, rfl⟩
  have H1 := Lib.hid (lnum_at (b := b) (p := p) q1)
  have e : actD W d = ({ zAct with kind := 12, node := n1 }, W1, d1) := by simp [actD, threeD, chgD, bindD, q0, q1, h0, h1, h]
  rw [e]
  have H0 := Lib.hid (lword_at (b := b) (p := p) q0)
  have ih0 := eqS_as h0
  unfold b_tick at ih0
  simp only at ih0
  have ih1 := eqS_as h1
  unfold b_world at ih1
  simp only at ih1
  have ih := eqS_as h
  unfold b_start at ih
  simp only at ih
  have HX0 := Lib.hid (Nx.start2 hl [.int .i64 0, .int .i64 0, .int .i64 0, .int .i64 0, .int .i64 0, .int .i64 0, .string ⟨#[]⟩, .string ⟨#[]⟩, .string ⟨#[]⟩, .string ⟨#[]⟩, .string ⟨#[]⟩, .slice none 0 0, .string ⟨#[]⟩, .int .i64 0, .slice none 0 0, .int .i64 0, .int .i64 0, .string ⟨#[]⟩, .string ⟨#[]⟩, .string ⟨#[]⟩, .int .i64 0, .bool false, .int .i64 0, .int .i64 0, .int .i64 0, .string ⟨#[]⟩, .string ⟨#[]⟩, .string ⟨#[]⟩, .slice none 0 0, .string ⟨#[]⟩, .int .i64 0, .int .i64 0, .string ⟨#[]⟩] [.int .i64 0, .int .i64 0, .int .i64 0, .int .i64 0, .int .i64 0, .int .i64 0, .string ⟨#[]⟩, .string ⟨#[]⟩, .string ⟨#[]⟩, .string ⟨#[]⟩, .string ⟨#[]⟩, .slice none 0 0, .string ⟨#[]⟩, .int .i64 0, .slice none 0 0, .int .i64 0, .int .i64 0, .string ⟨#[]⟩, .string ⟨#[]⟩, .string ⟨#[]⟩, .int .i64 0, .bool false, .int .i64 0, .int .i64 0, .int .i64 0, .string ⟨#[]⟩, .string ⟨#[]⟩, .string ⟨#[]⟩, .slice none 0 0, .string ⟨#[]⟩, .int .i64 0, .int .i64 0, .string ⟨#[]⟩] 43 43)
  have hb := hl.lt
  have HB := Lib.hid hb
  clear e hl q0 q1 h0 h1 h
  go_enter Tryz.func21, Tryz.ntmps21
  go_wp2_with (first
    | (go_at_call 32; with_reducible refine (H0.out _ HX0.out.nr.ds).mono ?_; rintro e w0 ⟨rfl, g0, l0, k0⟩; have X1 := HX0.out.call k0 l0; obtain ⟨ca0, fa0⟩ := X1.cf 0 (by simp); obtain ⟨cc0, fc0⟩ := X1.cf 22 (by simp); have hxb := X1.xb; have hbx := X1.bx; have z0 := X1.lt; obtain ⟨z00, z01, z02⟩ := z0; have X0s : Nx b p w.heap.size (w.heap.size + 1) w _ _ _ [.int .i64 0, .int .i64 0, .int .i64 0, .int .i64 0, .int .i64 0, .int .i64 0, .string ⟨#[]⟩, .string ⟨#[]⟩, .string ⟨#[]⟩, .string ⟨#[]⟩, .string ⟨#[]⟩, .slice none 0 0, .string ⟨#[]⟩, .int .i64 0, .slice none 0 0, .int .i64 0, .int .i64 0, .string ⟨#[]⟩, .string ⟨#[]⟩, .string ⟨#[]⟩, .int .i64 0, .bool false, .int .i64 0, .int .i64 0, .int .i64 0, .string ⟨#[]⟩, .string ⟨#[]⟩, .string ⟨#[]⟩, .slice none 0 0, .string ⟨#[]⟩, .int .i64 0, .int .i64 0, .string ⟨#[]⟩] [.int .i64 12, .int .i64 0, .int .i64 0, .int .i64 0, .int .i64 0, .int .i64 0, .string ⟨#[]⟩, .string ⟨#[]⟩, .string ⟨#[]⟩, .string ⟨#[]⟩, .string ⟨#[]⟩, .slice none 0 0, .string ⟨#[]⟩, .int .i64 0, .slice none 0 0, .int .i64 0, .int .i64 0, .string ⟨#[]⟩, .string ⟨#[]⟩, .string ⟨#[]⟩, .int .i64 0, .bool false, .int .i64 0, .int .i64 0, .int .i64 0, .string ⟨#[]⟩, .string ⟨#[]⟩, .string ⟨#[]⟩, .slice none 0 0, .string ⟨#[]⟩, .int .i64 0, .int .i64 0, .string ⟨#[]⟩] := X1.set 0 (.int .i64 12) (by simp); have X0s := Lib.hid X0s; clear l0 k0 X1)
    | (go_at_call 33; with_reducible refine (H1.out _ X0s.out.nr.ds).mono ?_; rintro e w1 ⟨rfl, m1, k1⟩; have X1 := X0s.out.call k1 m1; obtain ⟨ca1, fa1⟩ := X1.cf 1 (by simp); obtain ⟨cc1, fc1⟩ := X1.cf 22 (by simp); have z1 := X1.lt; obtain ⟨z10, z11, z12⟩ := z1; have X1s : Nx b p w.heap.size (w.heap.size + 1) w _ _ _ [.int .i64 0, .int .i64 0, .int .i64 0, .int .i64 0, .int .i64 0, .int .i64 0, .string ⟨#[]⟩, .string ⟨#[]⟩, .string ⟨#[]⟩, .string ⟨#[]⟩, .string ⟨#[]⟩, .slice none 0 0, .string ⟨#[]⟩, .int .i64 0, .slice none 0 0, .int .i64 0, .int .i64 0, .string ⟨#[]⟩, .string ⟨#[]⟩, .string ⟨#[]⟩, .int .i64 0, .bool false, .int .i64 0, .int .i64 0, .int .i64 0, .string ⟨#[]⟩, .string ⟨#[]⟩, .string ⟨#[]⟩, .slice none 0 0, .string ⟨#[]⟩, .int .i64 0, .int .i64 0, .string ⟨#[]⟩] [.int .i64 12, .int .i64 n1, .int .i64 0, .int .i64 0, .int .i64 0, .int .i64 0, .string ⟨#[]⟩, .string ⟨#[]⟩, .string ⟨#[]⟩, .string ⟨#[]⟩, .string ⟨#[]⟩, .slice none 0 0, .string ⟨#[]⟩, .int .i64 0, .slice none 0 0, .int .i64 0, .int .i64 0, .string ⟨#[]⟩, .string ⟨#[]⟩, .string ⟨#[]⟩, .int .i64 0, .bool false, .int .i64 0, .int .i64 0, .int .i64 0, .string ⟨#[]⟩, .string ⟨#[]⟩, .string ⟨#[]⟩, .slice none 0 0, .string ⟨#[]⟩, .int .i64 0, .int .i64 0, .string ⟨#[]⟩] := X1.set 1 (.int .i64 n1) (by simp); have X1s := Lib.hid X1s; have e1 := lvAct_row X1s.out.row rfl; have e2 := svAct_row X1s.out.nr.res rfl rfl (vs := [.int .i64 12, .int .i64 n1, .int .i64 0, .int .i64 0, .int .i64 0, .int .i64 0, .string ⟨#[]⟩, .string ⟨#[]⟩, .string ⟨#[]⟩, .string ⟨#[]⟩, .string ⟨#[]⟩, .slice none 0 0, .string ⟨#[]⟩, .int .i64 0, .slice none 0 0, .int .i64 0, .int .i64 0, .string ⟨#[]⟩, .string ⟨#[]⟩, .string ⟨#[]⟩, .int .i64 0, .bool false, .int .i64 0, .int .i64 0, .int .i64 0, .string ⟨#[]⟩, .string ⟨#[]⟩, .string ⟨#[]⟩, .slice none 0 0, .string ⟨#[]⟩, .int .i64 0, .int .i64 0, .string ⟨#[]⟩]) (by simp [Value.oneCell']); clear m1 k1 X1))
  have XR := X1s.out.nr.sets (cs := [.int .i64 12, .int .i64 n1, .int .i64 0, .int .i64 0, .int .i64 0, .int .i64 0, .string ⟨#[]⟩, .string ⟨#[]⟩, .string ⟨#[]⟩, .string ⟨#[]⟩, .string ⟨#[]⟩, .slice none 0 0, .string ⟨#[]⟩, .int .i64 0, .slice none 0 0, .int .i64 0, .int .i64 0, .string ⟨#[]⟩, .string ⟨#[]⟩, .string ⟨#[]⟩, .int .i64 0, .bool false, .int .i64 0, .int .i64 0, .int .i64 0, .string ⟨#[]⟩, .string ⟨#[]⟩, .string ⟨#[]⟩, .slice none 0 0, .string ⟨#[]⟩, .int .i64 0, .int .i64 0, .string ⟨#[]⟩]) rfl
  refine bodyPost_ret (results_cell rfl _ rfl (lv_row (T := 43) Tryz.underlying43 (by kernel_rfl) XR.res rfl)) rfl ?_
  exact ⟨XR.kw, _, rfl, actN_plain HB.out rfl rfl rfl, XR.ds⟩
set_option maxHeartbeats 4000000 in
theorem actN_deliver (f : ByteArray) (W : Ws) (d : Bool) (W0 : Ws) (d0 : Bool) (q0 : wordD W d = (f, W0, d0)) (h0 : eqS f b_tick = false) (h1 : eqS f b_world = false) (h2 : eqS f b_start = false) (h : eqS f b_deliver = true) (b p : Nat) (w : World) (hl : LnS w b p W d) : Calls Tryz.prog 21 #[.pointer (some ⟨b, 0, none⟩)] w (RdN b p w (ActN b w.heap.size) (actD W d)) := by
  obtain ⟨n1, W1, d1, q1⟩ : ∃ a c e, numD W0 d0 = (a, c, e) := ⟨_, _, _, rfl⟩
  have H1 := Lib.hid (lnum_at (b := b) (p := p) q1)
  have e : actD W d = ({ zAct with kind := 3, n := n1 }, W1, d1) := by simp [actD, threeD, chgD, bindD, q0, q1, h0, h1, h2, h]
  rw [e]
  have H0 := Lib.hid (lword_at (b := b) (p := p) q0)
  have ih0 := eqS_as h0
  unfold b_tick at ih0
  simp only at ih0
  have ih1 := eqS_as h1
  unfold b_world at ih1
  simp only at ih1
  have ih2 := eqS_as h2
  unfold b_start at ih2
  simp only at ih2
  have ih := eqS_as h
  unfold b_deliver at ih
  simp only at ih
  have HX0 := Lib.hid (Nx.start2 hl [.int .i64 0, .int .i64 0, .int .i64 0, .int .i64 0, .int .i64 0, .int .i64 0, .string ⟨#[]⟩, .string ⟨#[]⟩, .string ⟨#[]⟩, .string ⟨#[]⟩, .string ⟨#[]⟩, .slice none 0 0, .string ⟨#[]⟩, .int .i64 0, .slice none 0 0, .int .i64 0, .int .i64 0, .string ⟨#[]⟩, .string ⟨#[]⟩, .string ⟨#[]⟩, .int .i64 0, .bool false, .int .i64 0, .int .i64 0, .int .i64 0, .string ⟨#[]⟩, .string ⟨#[]⟩, .string ⟨#[]⟩, .slice none 0 0, .string ⟨#[]⟩, .int .i64 0, .int .i64 0, .string ⟨#[]⟩] [.int .i64 0, .int .i64 0, .int .i64 0, .int .i64 0, .int .i64 0, .int .i64 0, .string ⟨#[]⟩, .string ⟨#[]⟩, .string ⟨#[]⟩, .string ⟨#[]⟩, .string ⟨#[]⟩, .slice none 0 0, .string ⟨#[]⟩, .int .i64 0, .slice none 0 0, .int .i64 0, .int .i64 0, .string ⟨#[]⟩, .string ⟨#[]⟩, .string ⟨#[]⟩, .int .i64 0, .bool false, .int .i64 0, .int .i64 0, .int .i64 0, .string ⟨#[]⟩, .string ⟨#[]⟩, .string ⟨#[]⟩, .slice none 0 0, .string ⟨#[]⟩, .int .i64 0, .int .i64 0, .string ⟨#[]⟩] 43 43)
  have hb := hl.lt
  have HB := Lib.hid hb
  clear e hl q0 q1 h0 h1 h2 h
  go_enter Tryz.func21, Tryz.ntmps21
  go_wp2_with (first
    | (go_at_call 32; with_reducible refine (H0.out _ HX0.out.nr.ds).mono ?_; rintro e w0 ⟨rfl, g0, l0, k0⟩; have X1 := HX0.out.call k0 l0; obtain ⟨ca0, fa0⟩ := X1.cf 0 (by simp); obtain ⟨cc0, fc0⟩ := X1.cf 22 (by simp); have hxb := X1.xb; have hbx := X1.bx; have z0 := X1.lt; obtain ⟨z00, z01, z02⟩ := z0; have X0s : Nx b p w.heap.size (w.heap.size + 1) w _ _ _ [.int .i64 0, .int .i64 0, .int .i64 0, .int .i64 0, .int .i64 0, .int .i64 0, .string ⟨#[]⟩, .string ⟨#[]⟩, .string ⟨#[]⟩, .string ⟨#[]⟩, .string ⟨#[]⟩, .slice none 0 0, .string ⟨#[]⟩, .int .i64 0, .slice none 0 0, .int .i64 0, .int .i64 0, .string ⟨#[]⟩, .string ⟨#[]⟩, .string ⟨#[]⟩, .int .i64 0, .bool false, .int .i64 0, .int .i64 0, .int .i64 0, .string ⟨#[]⟩, .string ⟨#[]⟩, .string ⟨#[]⟩, .slice none 0 0, .string ⟨#[]⟩, .int .i64 0, .int .i64 0, .string ⟨#[]⟩] [.int .i64 3, .int .i64 0, .int .i64 0, .int .i64 0, .int .i64 0, .int .i64 0, .string ⟨#[]⟩, .string ⟨#[]⟩, .string ⟨#[]⟩, .string ⟨#[]⟩, .string ⟨#[]⟩, .slice none 0 0, .string ⟨#[]⟩, .int .i64 0, .slice none 0 0, .int .i64 0, .int .i64 0, .string ⟨#[]⟩, .string ⟨#[]⟩, .string ⟨#[]⟩, .int .i64 0, .bool false, .int .i64 0, .int .i64 0, .int .i64 0, .string ⟨#[]⟩, .string ⟨#[]⟩, .string ⟨#[]⟩, .slice none 0 0, .string ⟨#[]⟩, .int .i64 0, .int .i64 0, .string ⟨#[]⟩] := X1.set 0 (.int .i64 3) (by simp); have X0s := Lib.hid X0s; clear l0 k0 X1)
    | (go_at_call 33; with_reducible refine (H1.out _ X0s.out.nr.ds).mono ?_; rintro e w1 ⟨rfl, m1, k1⟩; have X1 := X0s.out.call k1 m1; obtain ⟨ca1, fa1⟩ := X1.cf 2 (by simp); obtain ⟨cc1, fc1⟩ := X1.cf 22 (by simp); have z1 := X1.lt; obtain ⟨z10, z11, z12⟩ := z1; have X1s : Nx b p w.heap.size (w.heap.size + 1) w _ _ _ [.int .i64 0, .int .i64 0, .int .i64 0, .int .i64 0, .int .i64 0, .int .i64 0, .string ⟨#[]⟩, .string ⟨#[]⟩, .string ⟨#[]⟩, .string ⟨#[]⟩, .string ⟨#[]⟩, .slice none 0 0, .string ⟨#[]⟩, .int .i64 0, .slice none 0 0, .int .i64 0, .int .i64 0, .string ⟨#[]⟩, .string ⟨#[]⟩, .string ⟨#[]⟩, .int .i64 0, .bool false, .int .i64 0, .int .i64 0, .int .i64 0, .string ⟨#[]⟩, .string ⟨#[]⟩, .string ⟨#[]⟩, .slice none 0 0, .string ⟨#[]⟩, .int .i64 0, .int .i64 0, .string ⟨#[]⟩] [.int .i64 3, .int .i64 0, .int .i64 n1, .int .i64 0, .int .i64 0, .int .i64 0, .string ⟨#[]⟩, .string ⟨#[]⟩, .string ⟨#[]⟩, .string ⟨#[]⟩, .string ⟨#[]⟩, .slice none 0 0, .string ⟨#[]⟩, .int .i64 0, .slice none 0 0, .int .i64 0, .int .i64 0, .string ⟨#[]⟩, .string ⟨#[]⟩, .string ⟨#[]⟩, .int .i64 0, .bool false, .int .i64 0, .int .i64 0, .int .i64 0, .string ⟨#[]⟩, .string ⟨#[]⟩, .string ⟨#[]⟩, .slice none 0 0, .string ⟨#[]⟩, .int .i64 0, .int .i64 0, .string ⟨#[]⟩] := X1.set 2 (.int .i64 n1) (by simp); have X1s := Lib.hid X1s; have e1 := lvAct_row X1s.out.row rfl; have e2 := svAct_row X1s.out.nr.res rfl rfl (vs := [.int .i64 3, .int .i64 0, .int .i64 n1, .int .i64 0, .int .i64 0, .int .i64 0, .string ⟨#[]⟩, .string ⟨#[]⟩, .string ⟨#[]⟩, .string ⟨#[]⟩, .string ⟨#[]⟩, .slice none 0 0, .string ⟨#[]⟩, .int .i64 0, .slice none 0 0, .int .i64 0, .int .i64 0, .string ⟨#[]⟩, .string ⟨#[]⟩, .string ⟨#[]⟩, .int .i64 0, .bool false, .int .i64 0, .int .i64 0, .int .i64 0, .string ⟨#[]⟩, .string ⟨#[]⟩, .string ⟨#[]⟩, .slice none 0 0, .string ⟨#[]⟩, .int .i64 0, .int .i64 0, .string ⟨#[]⟩]) (by simp [Value.oneCell']); clear m1 k1 X1))
  have XR := X1s.out.nr.sets (cs := [.int .i64 3, .int .i64 0, .int .i64 n1, .int .i64 0, .int .i64 0, .int .i64 0, .string ⟨#[]⟩, .string ⟨#[]⟩, .string ⟨#[]⟩, .string ⟨#[]⟩, .string ⟨#[]⟩, .slice none 0 0, .string ⟨#[]⟩, .int .i64 0, .slice none 0 0, .int .i64 0, .int .i64 0, .string ⟨#[]⟩, .string ⟨#[]⟩, .string ⟨#[]⟩, .int .i64 0, .bool false, .int .i64 0, .int .i64 0, .int .i64 0, .string ⟨#[]⟩, .string ⟨#[]⟩, .string ⟨#[]⟩, .slice none 0 0, .string ⟨#[]⟩, .int .i64 0, .int .i64 0, .string ⟨#[]⟩]) rfl
  refine bodyPost_ret (results_cell rfl _ rfl (lv_row (T := 43) Tryz.underlying43 (by kernel_rfl) XR.res rfl)) rfl ?_
  exact ⟨XR.kw, _, rfl, actN_plain HB.out rfl rfl rfl, XR.ds⟩
set_option maxHeartbeats 4000000 in
theorem actN_drop (f : ByteArray) (W : Ws) (d : Bool) (W0 : Ws) (d0 : Bool) (q0 : wordD W d = (f, W0, d0)) (h0 : eqS f b_tick = false) (h1 : eqS f b_world = false) (h2 : eqS f b_start = false) (h3 : eqS f b_deliver = false) (h : eqS f b_drop = true) (b p : Nat) (w : World) (hl : LnS w b p W d) : Calls Tryz.prog 21 #[.pointer (some ⟨b, 0, none⟩)] w (RdN b p w (ActN b w.heap.size) (actD W d)) := by
  obtain ⟨n1, W1, d1, q1⟩ : ∃ a c e, numD W0 d0 = (a, c, e) := ⟨_, _, _, rfl⟩
  have H1 := Lib.hid (lnum_at (b := b) (p := p) q1)
  have e : actD W d = ({ zAct with kind := 4, n := n1 }, W1, d1) := by simp [actD, threeD, chgD, bindD, q0, q1, h0, h1, h2, h3, h]
  rw [e]
  have H0 := Lib.hid (lword_at (b := b) (p := p) q0)
  have ih0 := eqS_as h0
  unfold b_tick at ih0
  simp only at ih0
  have ih1 := eqS_as h1
  unfold b_world at ih1
  simp only at ih1
  have ih2 := eqS_as h2
  unfold b_start at ih2
  simp only at ih2
  have ih3 := eqS_as h3
  unfold b_deliver at ih3
  simp only at ih3
  have ih := eqS_as h
  unfold b_drop at ih
  simp only at ih
  have HX0 := Lib.hid (Nx.start2 hl [.int .i64 0, .int .i64 0, .int .i64 0, .int .i64 0, .int .i64 0, .int .i64 0, .string ⟨#[]⟩, .string ⟨#[]⟩, .string ⟨#[]⟩, .string ⟨#[]⟩, .string ⟨#[]⟩, .slice none 0 0, .string ⟨#[]⟩, .int .i64 0, .slice none 0 0, .int .i64 0, .int .i64 0, .string ⟨#[]⟩, .string ⟨#[]⟩, .string ⟨#[]⟩, .int .i64 0, .bool false, .int .i64 0, .int .i64 0, .int .i64 0, .string ⟨#[]⟩, .string ⟨#[]⟩, .string ⟨#[]⟩, .slice none 0 0, .string ⟨#[]⟩, .int .i64 0, .int .i64 0, .string ⟨#[]⟩] [.int .i64 0, .int .i64 0, .int .i64 0, .int .i64 0, .int .i64 0, .int .i64 0, .string ⟨#[]⟩, .string ⟨#[]⟩, .string ⟨#[]⟩, .string ⟨#[]⟩, .string ⟨#[]⟩, .slice none 0 0, .string ⟨#[]⟩, .int .i64 0, .slice none 0 0, .int .i64 0, .int .i64 0, .string ⟨#[]⟩, .string ⟨#[]⟩, .string ⟨#[]⟩, .int .i64 0, .bool false, .int .i64 0, .int .i64 0, .int .i64 0, .string ⟨#[]⟩, .string ⟨#[]⟩, .string ⟨#[]⟩, .slice none 0 0, .string ⟨#[]⟩, .int .i64 0, .int .i64 0, .string ⟨#[]⟩] 43 43)
  have hb := hl.lt
  have HB := Lib.hid hb
  clear e hl q0 q1 h0 h1 h2 h3 h
  go_enter Tryz.func21, Tryz.ntmps21
  go_wp2_with (first
    | (go_at_call 32; with_reducible refine (H0.out _ HX0.out.nr.ds).mono ?_; rintro e w0 ⟨rfl, g0, l0, k0⟩; have X1 := HX0.out.call k0 l0; obtain ⟨ca0, fa0⟩ := X1.cf 0 (by simp); obtain ⟨cc0, fc0⟩ := X1.cf 22 (by simp); have hxb := X1.xb; have hbx := X1.bx; have z0 := X1.lt; obtain ⟨z00, z01, z02⟩ := z0; have X0s : Nx b p w.heap.size (w.heap.size + 1) w _ _ _ [.int .i64 0, .int .i64 0, .int .i64 0, .int .i64 0, .int .i64 0, .int .i64 0, .string ⟨#[]⟩, .string ⟨#[]⟩, .string ⟨#[]⟩, .string ⟨#[]⟩, .string ⟨#[]⟩, .slice none 0 0, .string ⟨#[]⟩, .int .i64 0, .slice none 0 0, .int .i64 0, .int .i64 0, .string ⟨#[]⟩, .string ⟨#[]⟩, .string ⟨#[]⟩, .int .i64 0, .bool false, .int .i64 0, .int .i64 0, .int .i64 0, .string ⟨#[]⟩, .string ⟨#[]⟩, .string ⟨#[]⟩, .slice none 0 0, .string ⟨#[]⟩, .int .i64 0, .int .i64 0, .string ⟨#[]⟩] [.int .i64 4, .int .i64 0, .int .i64 0, .int .i64 0, .int .i64 0, .int .i64 0, .string ⟨#[]⟩, .string ⟨#[]⟩, .string ⟨#[]⟩, .string ⟨#[]⟩, .string ⟨#[]⟩, .slice none 0 0, .string ⟨#[]⟩, .int .i64 0, .slice none 0 0, .int .i64 0, .int .i64 0, .string ⟨#[]⟩, .string ⟨#[]⟩, .string ⟨#[]⟩, .int .i64 0, .bool false, .int .i64 0, .int .i64 0, .int .i64 0, .string ⟨#[]⟩, .string ⟨#[]⟩, .string ⟨#[]⟩, .slice none 0 0, .string ⟨#[]⟩, .int .i64 0, .int .i64 0, .string ⟨#[]⟩] := X1.set 0 (.int .i64 4) (by simp); have X0s := Lib.hid X0s; clear l0 k0 X1)
    | (go_at_call 33; with_reducible refine (H1.out _ X0s.out.nr.ds).mono ?_; rintro e w1 ⟨rfl, m1, k1⟩; have X1 := X0s.out.call k1 m1; obtain ⟨ca1, fa1⟩ := X1.cf 2 (by simp); obtain ⟨cc1, fc1⟩ := X1.cf 22 (by simp); have z1 := X1.lt; obtain ⟨z10, z11, z12⟩ := z1; have X1s : Nx b p w.heap.size (w.heap.size + 1) w _ _ _ [.int .i64 0, .int .i64 0, .int .i64 0, .int .i64 0, .int .i64 0, .int .i64 0, .string ⟨#[]⟩, .string ⟨#[]⟩, .string ⟨#[]⟩, .string ⟨#[]⟩, .string ⟨#[]⟩, .slice none 0 0, .string ⟨#[]⟩, .int .i64 0, .slice none 0 0, .int .i64 0, .int .i64 0, .string ⟨#[]⟩, .string ⟨#[]⟩, .string ⟨#[]⟩, .int .i64 0, .bool false, .int .i64 0, .int .i64 0, .int .i64 0, .string ⟨#[]⟩, .string ⟨#[]⟩, .string ⟨#[]⟩, .slice none 0 0, .string ⟨#[]⟩, .int .i64 0, .int .i64 0, .string ⟨#[]⟩] [.int .i64 4, .int .i64 0, .int .i64 n1, .int .i64 0, .int .i64 0, .int .i64 0, .string ⟨#[]⟩, .string ⟨#[]⟩, .string ⟨#[]⟩, .string ⟨#[]⟩, .string ⟨#[]⟩, .slice none 0 0, .string ⟨#[]⟩, .int .i64 0, .slice none 0 0, .int .i64 0, .int .i64 0, .string ⟨#[]⟩, .string ⟨#[]⟩, .string ⟨#[]⟩, .int .i64 0, .bool false, .int .i64 0, .int .i64 0, .int .i64 0, .string ⟨#[]⟩, .string ⟨#[]⟩, .string ⟨#[]⟩, .slice none 0 0, .string ⟨#[]⟩, .int .i64 0, .int .i64 0, .string ⟨#[]⟩] := X1.set 2 (.int .i64 n1) (by simp); have X1s := Lib.hid X1s; have e1 := lvAct_row X1s.out.row rfl; have e2 := svAct_row X1s.out.nr.res rfl rfl (vs := [.int .i64 4, .int .i64 0, .int .i64 n1, .int .i64 0, .int .i64 0, .int .i64 0, .string ⟨#[]⟩, .string ⟨#[]⟩, .string ⟨#[]⟩, .string ⟨#[]⟩, .string ⟨#[]⟩, .slice none 0 0, .string ⟨#[]⟩, .int .i64 0, .slice none 0 0, .int .i64 0, .int .i64 0, .string ⟨#[]⟩, .string ⟨#[]⟩, .string ⟨#[]⟩, .int .i64 0, .bool false, .int .i64 0, .int .i64 0, .int .i64 0, .string ⟨#[]⟩, .string ⟨#[]⟩, .string ⟨#[]⟩, .slice none 0 0, .string ⟨#[]⟩, .int .i64 0, .int .i64 0, .string ⟨#[]⟩]) (by simp [Value.oneCell']); clear m1 k1 X1))
  have XR := X1s.out.nr.sets (cs := [.int .i64 4, .int .i64 0, .int .i64 n1, .int .i64 0, .int .i64 0, .int .i64 0, .string ⟨#[]⟩, .string ⟨#[]⟩, .string ⟨#[]⟩, .string ⟨#[]⟩, .string ⟨#[]⟩, .slice none 0 0, .string ⟨#[]⟩, .int .i64 0, .slice none 0 0, .int .i64 0, .int .i64 0, .string ⟨#[]⟩, .string ⟨#[]⟩, .string ⟨#[]⟩, .int .i64 0, .bool false, .int .i64 0, .int .i64 0, .int .i64 0, .string ⟨#[]⟩, .string ⟨#[]⟩, .string ⟨#[]⟩, .slice none 0 0, .string ⟨#[]⟩, .int .i64 0, .int .i64 0, .string ⟨#[]⟩]) rfl
  refine bodyPost_ret (results_cell rfl _ rfl (lv_row (T := 43) Tryz.underlying43 (by kernel_rfl) XR.res rfl)) rfl ?_
  exact ⟨XR.kw, _, rfl, actN_plain HB.out rfl rfl rfl, XR.ds⟩
set_option maxHeartbeats 4000000 in
theorem actN_double (f : ByteArray) (W : Ws) (d : Bool) (W0 : Ws) (d0 : Bool) (q0 : wordD W d = (f, W0, d0)) (h0 : eqS f b_tick = false) (h1 : eqS f b_world = false) (h2 : eqS f b_start = false) (h3 : eqS f b_deliver = false) (h4 : eqS f b_drop = false) (h : eqS f b_double = true) (b p : Nat) (w : World) (hl : LnS w b p W d) : Calls Tryz.prog 21 #[.pointer (some ⟨b, 0, none⟩)] w (RdN b p w (ActN b w.heap.size) (actD W d)) := by
  obtain ⟨n1, W1, d1, q1⟩ : ∃ a c e, numD W0 d0 = (a, c, e) := ⟨_, _, _, rfl⟩
  have H1 := Lib.hid (lnum_at (b := b) (p := p) q1)
  have e : actD W d = ({ zAct with kind := 5, n := n1 }, W1, d1) := by simp [actD, threeD, chgD, bindD, q0, q1, h0, h1, h2, h3, h4, h]
  rw [e]
  have H0 := Lib.hid (lword_at (b := b) (p := p) q0)
  have ih0 := eqS_as h0
  unfold b_tick at ih0
  simp only at ih0
  have ih1 := eqS_as h1
  unfold b_world at ih1
  simp only at ih1
  have ih2 := eqS_as h2
  unfold b_start at ih2
  simp only at ih2
  have ih3 := eqS_as h3
  unfold b_deliver at ih3
  simp only at ih3
  have ih4 := eqS_as h4
  unfold b_drop at ih4
  simp only at ih4
  have ih := eqS_as h
  unfold b_double at ih
  simp only at ih
  have HX0 := Lib.hid (Nx.start2 hl [.int .i64 0, .int .i64 0, .int .i64 0, .int .i64 0, .int .i64 0, .int .i64 0, .string ⟨#[]⟩, .string ⟨#[]⟩, .string ⟨#[]⟩, .string ⟨#[]⟩, .string ⟨#[]⟩, .slice none 0 0, .string ⟨#[]⟩, .int .i64 0, .slice none 0 0, .int .i64 0, .int .i64 0, .string ⟨#[]⟩, .string ⟨#[]⟩, .string ⟨#[]⟩, .int .i64 0, .bool false, .int .i64 0, .int .i64 0, .int .i64 0, .string ⟨#[]⟩, .string ⟨#[]⟩, .string ⟨#[]⟩, .slice none 0 0, .string ⟨#[]⟩, .int .i64 0, .int .i64 0, .string ⟨#[]⟩] [.int .i64 0, .int .i64 0, .int .i64 0, .int .i64 0, .int .i64 0, .int .i64 0, .string ⟨#[]⟩, .string ⟨#[]⟩, .string ⟨#[]⟩, .string ⟨#[]⟩, .string ⟨#[]⟩, .slice none 0 0, .string ⟨#[]⟩, .int .i64 0, .slice none 0 0, .int .i64 0, .int .i64 0, .string ⟨#[]⟩, .string ⟨#[]⟩, .string ⟨#[]⟩, .int .i64 0, .bool false, .int .i64 0, .int .i64 0, .int .i64 0, .string ⟨#[]⟩, .string ⟨#[]⟩, .string ⟨#[]⟩, .slice none 0 0, .string ⟨#[]⟩, .int .i64 0, .int .i64 0, .string ⟨#[]⟩] 43 43)
  have hb := hl.lt
  have HB := Lib.hid hb
  clear e hl q0 q1 h0 h1 h2 h3 h4 h
  go_enter Tryz.func21, Tryz.ntmps21
  go_wp2_with (first
    | (go_at_call 32; with_reducible refine (H0.out _ HX0.out.nr.ds).mono ?_; rintro e w0 ⟨rfl, g0, l0, k0⟩; have X1 := HX0.out.call k0 l0; obtain ⟨ca0, fa0⟩ := X1.cf 0 (by simp); obtain ⟨cc0, fc0⟩ := X1.cf 22 (by simp); have hxb := X1.xb; have hbx := X1.bx; have z0 := X1.lt; obtain ⟨z00, z01, z02⟩ := z0; have X0s : Nx b p w.heap.size (w.heap.size + 1) w _ _ _ [.int .i64 0, .int .i64 0, .int .i64 0, .int .i64 0, .int .i64 0, .int .i64 0, .string ⟨#[]⟩, .string ⟨#[]⟩, .string ⟨#[]⟩, .string ⟨#[]⟩, .string ⟨#[]⟩, .slice none 0 0, .string ⟨#[]⟩, .int .i64 0, .slice none 0 0, .int .i64 0, .int .i64 0, .string ⟨#[]⟩, .string ⟨#[]⟩, .string ⟨#[]⟩, .int .i64 0, .bool false, .int .i64 0, .int .i64 0, .int .i64 0, .string ⟨#[]⟩, .string ⟨#[]⟩, .string ⟨#[]⟩, .slice none 0 0, .string ⟨#[]⟩, .int .i64 0, .int .i64 0, .string ⟨#[]⟩] [.int .i64 5, .int .i64 0, .int .i64 0, .int .i64 0, .int .i64 0, .int .i64 0, .string ⟨#[]⟩, .string ⟨#[]⟩, .string ⟨#[]⟩, .string ⟨#[]⟩, .string ⟨#[]⟩, .slice none 0 0, .string ⟨#[]⟩, .int .i64 0, .slice none 0 0, .int .i64 0, .int .i64 0, .string ⟨#[]⟩, .string ⟨#[]⟩, .string ⟨#[]⟩, .int .i64 0, .bool false, .int .i64 0, .int .i64 0, .int .i64 0, .string ⟨#[]⟩, .string ⟨#[]⟩, .string ⟨#[]⟩, .slice none 0 0, .string ⟨#[]⟩, .int .i64 0, .int .i64 0, .string ⟨#[]⟩] := X1.set 0 (.int .i64 5) (by simp); have X0s := Lib.hid X0s; clear l0 k0 X1)
    | (go_at_call 33; with_reducible refine (H1.out _ X0s.out.nr.ds).mono ?_; rintro e w1 ⟨rfl, m1, k1⟩; have X1 := X0s.out.call k1 m1; obtain ⟨ca1, fa1⟩ := X1.cf 2 (by simp); obtain ⟨cc1, fc1⟩ := X1.cf 22 (by simp); have z1 := X1.lt; obtain ⟨z10, z11, z12⟩ := z1; have X1s : Nx b p w.heap.size (w.heap.size + 1) w _ _ _ [.int .i64 0, .int .i64 0, .int .i64 0, .int .i64 0, .int .i64 0, .int .i64 0, .string ⟨#[]⟩, .string ⟨#[]⟩, .string ⟨#[]⟩, .string ⟨#[]⟩, .string ⟨#[]⟩, .slice none 0 0, .string ⟨#[]⟩, .int .i64 0, .slice none 0 0, .int .i64 0, .int .i64 0, .string ⟨#[]⟩, .string ⟨#[]⟩, .string ⟨#[]⟩, .int .i64 0, .bool false, .int .i64 0, .int .i64 0, .int .i64 0, .string ⟨#[]⟩, .string ⟨#[]⟩, .string ⟨#[]⟩, .slice none 0 0, .string ⟨#[]⟩, .int .i64 0, .int .i64 0, .string ⟨#[]⟩] [.int .i64 5, .int .i64 0, .int .i64 n1, .int .i64 0, .int .i64 0, .int .i64 0, .string ⟨#[]⟩, .string ⟨#[]⟩, .string ⟨#[]⟩, .string ⟨#[]⟩, .string ⟨#[]⟩, .slice none 0 0, .string ⟨#[]⟩, .int .i64 0, .slice none 0 0, .int .i64 0, .int .i64 0, .string ⟨#[]⟩, .string ⟨#[]⟩, .string ⟨#[]⟩, .int .i64 0, .bool false, .int .i64 0, .int .i64 0, .int .i64 0, .string ⟨#[]⟩, .string ⟨#[]⟩, .string ⟨#[]⟩, .slice none 0 0, .string ⟨#[]⟩, .int .i64 0, .int .i64 0, .string ⟨#[]⟩] := X1.set 2 (.int .i64 n1) (by simp); have X1s := Lib.hid X1s; have e1 := lvAct_row X1s.out.row rfl; have e2 := svAct_row X1s.out.nr.res rfl rfl (vs := [.int .i64 5, .int .i64 0, .int .i64 n1, .int .i64 0, .int .i64 0, .int .i64 0, .string ⟨#[]⟩, .string ⟨#[]⟩, .string ⟨#[]⟩, .string ⟨#[]⟩, .string ⟨#[]⟩, .slice none 0 0, .string ⟨#[]⟩, .int .i64 0, .slice none 0 0, .int .i64 0, .int .i64 0, .string ⟨#[]⟩, .string ⟨#[]⟩, .string ⟨#[]⟩, .int .i64 0, .bool false, .int .i64 0, .int .i64 0, .int .i64 0, .string ⟨#[]⟩, .string ⟨#[]⟩, .string ⟨#[]⟩, .slice none 0 0, .string ⟨#[]⟩, .int .i64 0, .int .i64 0, .string ⟨#[]⟩]) (by simp [Value.oneCell']); clear m1 k1 X1))
  have XR := X1s.out.nr.sets (cs := [.int .i64 5, .int .i64 0, .int .i64 n1, .int .i64 0, .int .i64 0, .int .i64 0, .string ⟨#[]⟩, .string ⟨#[]⟩, .string ⟨#[]⟩, .string ⟨#[]⟩, .string ⟨#[]⟩, .slice none 0 0, .string ⟨#[]⟩, .int .i64 0, .slice none 0 0, .int .i64 0, .int .i64 0, .string ⟨#[]⟩, .string ⟨#[]⟩, .string ⟨#[]⟩, .int .i64 0, .bool false, .int .i64 0, .int .i64 0, .int .i64 0, .string ⟨#[]⟩, .string ⟨#[]⟩, .string ⟨#[]⟩, .slice none 0 0, .string ⟨#[]⟩, .int .i64 0, .int .i64 0, .string ⟨#[]⟩]) rfl
  refine bodyPost_ret (results_cell rfl _ rfl (lv_row (T := 43) Tryz.underlying43 (by kernel_rfl) XR.res rfl)) rfl ?_
  exact ⟨XR.kw, _, rfl, actN_plain HB.out rfl rfl rfl, XR.ds⟩
set_option maxHeartbeats 4000000 in
theorem actN_read (f : ByteArray) (W : Ws) (d : Bool) (W0 : Ws) (d0 : Bool) (q0 : wordD W d = (f, W0, d0)) (h0 : eqS f b_tick = false) (h1 : eqS f b_world = false) (h2 : eqS f b_start = false) (h3 : eqS f b_deliver = false) (h4 : eqS f b_drop = false) (h5 : eqS f b_double = false) (h6 : eqS f b_ask = false) (h : eqS f b_read = true) (b p : Nat) (w : World) (hl : LnS w b p W d) : Calls Tryz.prog 21 #[.pointer (some ⟨b, 0, none⟩)] w (RdN b p w (ActN b w.heap.size) (actD W d)) := by
  obtain ⟨n1, W1, d1, q1⟩ : ∃ a c e, numD W0 d0 = (a, c, e) := ⟨_, _, _, rfl⟩
  have H1 := Lib.hid (lnum_at (b := b) (p := p) q1)
  obtain ⟨n2, W2, d2, q2⟩ : ∃ a c e, numD W1 d1 = (a, c, e) := ⟨_, _, _, rfl⟩
  have H2 := Lib.hid (lnum_at (b := b) (p := p) q2)
  obtain ⟨n3, W3, d3, q3⟩ : ∃ a c e, numD W2 d2 = (a, c, e) := ⟨_, _, _, rfl⟩
  have H3 := Lib.hid (lnum_at (b := b) (p := p) q3)
  have e : actD W d = ({ zAct with kind := 7, node := n1, client := n2, number := n3 }, W3, d3) := by simp [actD, threeD, chgD, bindD, q0, q1, q2, q3, h0, h1, h2, h3, h4, h5, h6, h]
  rw [e]
  have H0 := Lib.hid (lword_at (b := b) (p := p) q0)
  have ih0 := eqS_as h0
  unfold b_tick at ih0
  simp only at ih0
  have ih1 := eqS_as h1
  unfold b_world at ih1
  simp only at ih1
  have ih2 := eqS_as h2
  unfold b_start at ih2
  simp only at ih2
  have ih3 := eqS_as h3
  unfold b_deliver at ih3
  simp only at ih3
  have ih4 := eqS_as h4
  unfold b_drop at ih4
  simp only at ih4
  have ih5 := eqS_as h5
  unfold b_double at ih5
  simp only at ih5
  have ih6 := eqS_as h6
  unfold b_ask at ih6
  simp only at ih6
  have ih := eqS_as h
  unfold b_read at ih
  simp only at ih
  have HX0 := Lib.hid (Nx.start2 hl [.int .i64 0, .int .i64 0, .int .i64 0, .int .i64 0, .int .i64 0, .int .i64 0, .string ⟨#[]⟩, .string ⟨#[]⟩, .string ⟨#[]⟩, .string ⟨#[]⟩, .string ⟨#[]⟩, .slice none 0 0, .string ⟨#[]⟩, .int .i64 0, .slice none 0 0, .int .i64 0, .int .i64 0, .string ⟨#[]⟩, .string ⟨#[]⟩, .string ⟨#[]⟩, .int .i64 0, .bool false, .int .i64 0, .int .i64 0, .int .i64 0, .string ⟨#[]⟩, .string ⟨#[]⟩, .string ⟨#[]⟩, .slice none 0 0, .string ⟨#[]⟩, .int .i64 0, .int .i64 0, .string ⟨#[]⟩] [.int .i64 0, .int .i64 0, .int .i64 0, .int .i64 0, .int .i64 0, .int .i64 0, .string ⟨#[]⟩, .string ⟨#[]⟩, .string ⟨#[]⟩, .string ⟨#[]⟩, .string ⟨#[]⟩, .slice none 0 0, .string ⟨#[]⟩, .int .i64 0, .slice none 0 0, .int .i64 0, .int .i64 0, .string ⟨#[]⟩, .string ⟨#[]⟩, .string ⟨#[]⟩, .int .i64 0, .bool false, .int .i64 0, .int .i64 0, .int .i64 0, .string ⟨#[]⟩, .string ⟨#[]⟩, .string ⟨#[]⟩, .slice none 0 0, .string ⟨#[]⟩, .int .i64 0, .int .i64 0, .string ⟨#[]⟩] 43 43)
  have hb := hl.lt
  have HB := Lib.hid hb
  clear e hl q0 q1 q2 q3 h0 h1 h2 h3 h4 h5 h6 h
  go_enter Tryz.func21, Tryz.ntmps21
  go_wp2_with (first
    | (go_at_call 32; with_reducible refine (H0.out _ HX0.out.nr.ds).mono ?_; rintro e w0 ⟨rfl, g0, l0, k0⟩; have X1 := HX0.out.call k0 l0; obtain ⟨ca0, fa0⟩ := X1.cf 0 (by simp); obtain ⟨cc0, fc0⟩ := X1.cf 22 (by simp); have hxb := X1.xb; have hbx := X1.bx; have z0 := X1.lt; obtain ⟨z00, z01, z02⟩ := z0; have X0s : Nx b p w.heap.size (w.heap.size + 1) w _ _ _ [.int .i64 0, .int .i64 0, .int .i64 0, .int .i64 0, .int .i64 0, .int .i64 0, .string ⟨#[]⟩, .string ⟨#[]⟩, .string ⟨#[]⟩, .string ⟨#[]⟩, .string ⟨#[]⟩, .slice none 0 0, .string ⟨#[]⟩, .int .i64 0, .slice none 0 0, .int .i64 0, .int .i64 0, .string ⟨#[]⟩, .string ⟨#[]⟩, .string ⟨#[]⟩, .int .i64 0, .bool false, .int .i64 0, .int .i64 0, .int .i64 0, .string ⟨#[]⟩, .string ⟨#[]⟩, .string ⟨#[]⟩, .slice none 0 0, .string ⟨#[]⟩, .int .i64 0, .int .i64 0, .string ⟨#[]⟩] [.int .i64 7, .int .i64 0, .int .i64 0, .int .i64 0, .int .i64 0, .int .i64 0, .string ⟨#[]⟩, .string ⟨#[]⟩, .string ⟨#[]⟩, .string ⟨#[]⟩, .string ⟨#[]⟩, .slice none 0 0, .string ⟨#[]⟩, .int .i64 0, .slice none 0 0, .int .i64 0, .int .i64 0, .string ⟨#[]⟩, .string ⟨#[]⟩, .string ⟨#[]⟩, .int .i64 0, .bool false, .int .i64 0, .int .i64 0, .int .i64 0, .string ⟨#[]⟩, .string ⟨#[]⟩, .string ⟨#[]⟩, .slice none 0 0, .string ⟨#[]⟩, .int .i64 0, .int .i64 0, .string ⟨#[]⟩] := X1.set 0 (.int .i64 7) (by simp); have X0s := Lib.hid X0s; clear l0 k0 X1)
    | (go_at_call 33; with_reducible refine (H1.out _ X0s.out.nr.ds).mono ?_; rintro e w1 ⟨rfl, m1, k1⟩; have X1 := X0s.out.call k1 m1; obtain ⟨ca1, fa1⟩ := X1.cf 1 (by simp); obtain ⟨cc1, fc1⟩ := X1.cf 22 (by simp); have z1 := X1.lt; obtain ⟨z10, z11, z12⟩ := z1; have X1s : Nx b p w.heap.size (w.heap.size + 1) w _ _ _ [.int .i64 0, .int .i64 0, .int .i64 0, .int .i64 0, .int .i64 0, .int .i64 0, .string ⟨#[]⟩, .string ⟨#[]⟩, .string ⟨#[]⟩, .string ⟨#[]⟩, .string ⟨#[]⟩, .slice none 0 0, .string ⟨#[]⟩, .int .i64 0, .slice none 0 0, .int .i64 0, .int .i64 0, .string ⟨#[]⟩, .string ⟨#[]⟩, .string ⟨#[]⟩, .int .i64 0, .bool false, .int .i64 0, .int .i64 0, .int .i64 0, .string ⟨#[]⟩, .string ⟨#[]⟩, .string ⟨#[]⟩, .slice none 0 0, .string ⟨#[]⟩, .int .i64 0, .int .i64 0, .string ⟨#[]⟩] [.int .i64 7, .int .i64 n1, .int .i64 0, .int .i64 0, .int .i64 0, .int .i64 0, .string ⟨#[]⟩, .string ⟨#[]⟩, .string ⟨#[]⟩, .string ⟨#[]⟩, .string ⟨#[]⟩, .slice none 0 0, .string ⟨#[]⟩, .int .i64 0, .slice none 0 0, .int .i64 0, .int .i64 0, .string ⟨#[]⟩, .string ⟨#[]⟩, .string ⟨#[]⟩, .int .i64 0, .bool false, .int .i64 0, .int .i64 0, .int .i64 0, .string ⟨#[]⟩, .string ⟨#[]⟩, .string ⟨#[]⟩, .slice none 0 0, .string ⟨#[]⟩, .int .i64 0, .int .i64 0, .string ⟨#[]⟩] := X1.set 1 (.int .i64 n1) (by simp); have X1s := Lib.hid X1s; clear m1 k1 X1)
    | (go_at_call 33; with_reducible refine (H2.out _ X1s.out.nr.ds).mono ?_; rintro e w2 ⟨rfl, m2, k2⟩; have X2 := X1s.out.call k2 m2; obtain ⟨ca2, fa2⟩ := X2.cf 3 (by simp); obtain ⟨cc2, fc2⟩ := X2.cf 22 (by simp); have z2 := X2.lt; obtain ⟨z20, z21, z22⟩ := z2; have X2s : Nx b p w.heap.size (w.heap.size + 1) w _ _ _ [.int .i64 0, .int .i64 0, .int .i64 0, .int .i64 0, .int .i64 0, .int .i64 0, .string ⟨#[]⟩, .string ⟨#[]⟩, .string ⟨#[]⟩, .string ⟨#[]⟩, .string ⟨#[]⟩, .slice none 0 0, .string ⟨#[]⟩, .int .i64 0, .slice none 0 0, .int .i64 0, .int .i64 0, .string ⟨#[]⟩, .string ⟨#[]⟩, .string ⟨#[]⟩, .int .i64 0, .bool false, .int .i64 0, .int .i64 0, .int .i64 0, .string ⟨#[]⟩, .string ⟨#[]⟩, .string ⟨#[]⟩, .slice none 0 0, .string ⟨#[]⟩, .int .i64 0, .int .i64 0, .string ⟨#[]⟩] [.int .i64 7, .int .i64 n1, .int .i64 0, .int .i64 n2, .int .i64 0, .int .i64 0, .string ⟨#[]⟩, .string ⟨#[]⟩, .string ⟨#[]⟩, .string ⟨#[]⟩, .string ⟨#[]⟩, .slice none 0 0, .string ⟨#[]⟩, .int .i64 0, .slice none 0 0, .int .i64 0, .int .i64 0, .string ⟨#[]⟩, .string ⟨#[]⟩, .string ⟨#[]⟩, .int .i64 0, .bool false, .int .i64 0, .int .i64 0, .int .i64 0, .string ⟨#[]⟩, .string ⟨#[]⟩, .string ⟨#[]⟩, .slice none 0 0, .string ⟨#[]⟩, .int .i64 0, .int .i64 0, .string ⟨#[]⟩] := X2.set 3 (.int .i64 n2) (by simp); have X2s := Lib.hid X2s; clear m2 k2 X2)
    | (go_at_call 33; with_reducible refine (H3.out _ X2s.out.nr.ds).mono ?_; rintro e w3 ⟨rfl, m3, k3⟩; have X3 := X2s.out.call k3 m3; obtain ⟨ca3, fa3⟩ := X3.cf 4 (by simp); obtain ⟨cc3, fc3⟩ := X3.cf 22 (by simp); have z3 := X3.lt; obtain ⟨z30, z31, z32⟩ := z3; have X3s : Nx b p w.heap.size (w.heap.size + 1) w _ _ _ [.int .i64 0, .int .i64 0, .int .i64 0, .int .i64 0, .int .i64 0, .int .i64 0, .string ⟨#[]⟩, .string ⟨#[]⟩, .string ⟨#[]⟩, .string ⟨#[]⟩, .string ⟨#[]⟩, .slice none 0 0, .string ⟨#[]⟩, .int .i64 0, .slice none 0 0, .int .i64 0, .int .i64 0, .string ⟨#[]⟩, .string ⟨#[]⟩, .string ⟨#[]⟩, .int .i64 0, .bool false, .int .i64 0, .int .i64 0, .int .i64 0, .string ⟨#[]⟩, .string ⟨#[]⟩, .string ⟨#[]⟩, .slice none 0 0, .string ⟨#[]⟩, .int .i64 0, .int .i64 0, .string ⟨#[]⟩] [.int .i64 7, .int .i64 n1, .int .i64 0, .int .i64 n2, .int .i64 n3, .int .i64 0, .string ⟨#[]⟩, .string ⟨#[]⟩, .string ⟨#[]⟩, .string ⟨#[]⟩, .string ⟨#[]⟩, .slice none 0 0, .string ⟨#[]⟩, .int .i64 0, .slice none 0 0, .int .i64 0, .int .i64 0, .string ⟨#[]⟩, .string ⟨#[]⟩, .string ⟨#[]⟩, .int .i64 0, .bool false, .int .i64 0, .int .i64 0, .int .i64 0, .string ⟨#[]⟩, .string ⟨#[]⟩, .string ⟨#[]⟩, .slice none 0 0, .string ⟨#[]⟩, .int .i64 0, .int .i64 0, .string ⟨#[]⟩] := X3.set 4 (.int .i64 n3) (by simp); have X3s := Lib.hid X3s; have e1 := lvAct_row X3s.out.row rfl; have e2 := svAct_row X3s.out.nr.res rfl rfl (vs := [.int .i64 7, .int .i64 n1, .int .i64 0, .int .i64 n2, .int .i64 n3, .int .i64 0, .string ⟨#[]⟩, .string ⟨#[]⟩, .string ⟨#[]⟩, .string ⟨#[]⟩, .string ⟨#[]⟩, .slice none 0 0, .string ⟨#[]⟩, .int .i64 0, .slice none 0 0, .int .i64 0, .int .i64 0, .string ⟨#[]⟩, .string ⟨#[]⟩, .string ⟨#[]⟩, .int .i64 0, .bool false, .int .i64 0, .int .i64 0, .int .i64 0, .string ⟨#[]⟩, .string ⟨#[]⟩, .string ⟨#[]⟩, .slice none 0 0, .string ⟨#[]⟩, .int .i64 0, .int .i64 0, .string ⟨#[]⟩]) (by simp [Value.oneCell']); clear m3 k3 X3))
  have XR := X3s.out.nr.sets (cs := [.int .i64 7, .int .i64 n1, .int .i64 0, .int .i64 n2, .int .i64 n3, .int .i64 0, .string ⟨#[]⟩, .string ⟨#[]⟩, .string ⟨#[]⟩, .string ⟨#[]⟩, .string ⟨#[]⟩, .slice none 0 0, .string ⟨#[]⟩, .int .i64 0, .slice none 0 0, .int .i64 0, .int .i64 0, .string ⟨#[]⟩, .string ⟨#[]⟩, .string ⟨#[]⟩, .int .i64 0, .bool false, .int .i64 0, .int .i64 0, .int .i64 0, .string ⟨#[]⟩, .string ⟨#[]⟩, .string ⟨#[]⟩, .slice none 0 0, .string ⟨#[]⟩, .int .i64 0, .int .i64 0, .string ⟨#[]⟩]) rfl
  refine bodyPost_ret (results_cell rfl _ rfl (lv_row (T := 43) Tryz.underlying43 (by kernel_rfl) XR.res rfl)) rfl ?_
  exact ⟨XR.kw, _, rfl, actN_plain HB.out rfl rfl rfl, XR.ds⟩
set_option maxHeartbeats 4000000 in
theorem actN_lease (f : ByteArray) (W : Ws) (d : Bool) (W0 : Ws) (d0 : Bool) (q0 : wordD W d = (f, W0, d0)) (h0 : eqS f b_tick = false) (h1 : eqS f b_world = false) (h2 : eqS f b_start = false) (h3 : eqS f b_deliver = false) (h4 : eqS f b_drop = false) (h5 : eqS f b_double = false) (h6 : eqS f b_ask = false) (h7 : eqS f b_read = false) (h8 : eqS f b_learner = false) (h9 : eqS f b_voter = false) (h10 : eqS f b_remove = false) (h : eqS f b_lease = true) (b p : Nat) (w : World) (hl : LnS w b p W d) : Calls Tryz.prog 21 #[.pointer (some ⟨b, 0, none⟩)] w (RdN b p w (ActN b w.heap.size) (actD W d)) := by
  obtain ⟨n1, W1, d1, q1⟩ : ∃ a c e, numD W0 d0 = (a, c, e) := ⟨_, _, _, rfl⟩
  have H1 := Lib.hid (lnum_at (b := b) (p := p) q1)
  obtain ⟨n2, W2, d2, q2⟩ : ∃ a c e, numD W1 d1 = (a, c, e) := ⟨_, _, _, rfl⟩
  have H2 := Lib.hid (lnum_at (b := b) (p := p) q2)
  have e : actD W d = ({ zAct with kind := 9, n := n1, node := n2 }, W2, d2) := by simp [actD, threeD, chgD, bindD, q0, q1, q2, h0, h1, h2, h3, h4, h5, h6, h7, h8, h9, h10, h]
  rw [e]
  have H0 := Lib.hid (lword_at (b := b) (p := p) q0)
  have ih0 := eqS_as h0
  unfold b_tick at ih0
  simp only at ih0
  have ih1 := eqS_as h1
  unfold b_world at ih1
  simp only at ih1
  have ih2 := eqS_as h2
  unfold b_start at ih2
  simp only at ih2
  have ih3 := eqS_as h3
  unfold b_deliver at ih3
  simp only at ih3
  have ih4 := eqS_as h4
  unfold b_drop at ih4
  simp only at ih4
  have ih5 := eqS_as h5
  unfold b_double at ih5
  simp only at ih5
  have ih6 := eqS_as h6
  unfold b_ask at ih6
  simp only at ih6
  have ih7 := eqS_as h7
  unfold b_read at ih7
  simp only at ih7
  have ih8 := eqS_as h8
  unfold b_learner at ih8
  simp only at ih8
  have ih9 := eqS_as h9
  unfold b_voter at ih9
  simp only at ih9
  have ih10 := eqS_as h10
  unfold b_remove at ih10
  simp only at ih10
  have ih := eqS_as h
  unfold b_lease at ih
  simp only at ih
  have HX0 := Lib.hid (Nx.start2 hl [.int .i64 0, .int .i64 0, .int .i64 0, .int .i64 0, .int .i64 0, .int .i64 0, .string ⟨#[]⟩, .string ⟨#[]⟩, .string ⟨#[]⟩, .string ⟨#[]⟩, .string ⟨#[]⟩, .slice none 0 0, .string ⟨#[]⟩, .int .i64 0, .slice none 0 0, .int .i64 0, .int .i64 0, .string ⟨#[]⟩, .string ⟨#[]⟩, .string ⟨#[]⟩, .int .i64 0, .bool false, .int .i64 0, .int .i64 0, .int .i64 0, .string ⟨#[]⟩, .string ⟨#[]⟩, .string ⟨#[]⟩, .slice none 0 0, .string ⟨#[]⟩, .int .i64 0, .int .i64 0, .string ⟨#[]⟩] [.int .i64 0, .int .i64 0, .int .i64 0, .int .i64 0, .int .i64 0, .int .i64 0, .string ⟨#[]⟩, .string ⟨#[]⟩, .string ⟨#[]⟩, .string ⟨#[]⟩, .string ⟨#[]⟩, .slice none 0 0, .string ⟨#[]⟩, .int .i64 0, .slice none 0 0, .int .i64 0, .int .i64 0, .string ⟨#[]⟩, .string ⟨#[]⟩, .string ⟨#[]⟩, .int .i64 0, .bool false, .int .i64 0, .int .i64 0, .int .i64 0, .string ⟨#[]⟩, .string ⟨#[]⟩, .string ⟨#[]⟩, .slice none 0 0, .string ⟨#[]⟩, .int .i64 0, .int .i64 0, .string ⟨#[]⟩] 43 43)
  have hb := hl.lt
  have HB := Lib.hid hb
  clear e hl q0 q1 q2 h0 h1 h2 h3 h4 h5 h6 h7 h8 h9 h10 h
  go_enter Tryz.func21, Tryz.ntmps21
  go_wp2_with (first
    | (go_at_call 32; with_reducible refine (H0.out _ HX0.out.nr.ds).mono ?_; rintro e w0 ⟨rfl, g0, l0, k0⟩; have X1 := HX0.out.call k0 l0; obtain ⟨ca0, fa0⟩ := X1.cf 0 (by simp); obtain ⟨cc0, fc0⟩ := X1.cf 22 (by simp); have hxb := X1.xb; have hbx := X1.bx; have z0 := X1.lt; obtain ⟨z00, z01, z02⟩ := z0; have X0s : Nx b p w.heap.size (w.heap.size + 1) w _ _ _ [.int .i64 0, .int .i64 0, .int .i64 0, .int .i64 0, .int .i64 0, .int .i64 0, .string ⟨#[]⟩, .string ⟨#[]⟩, .string ⟨#[]⟩, .string ⟨#[]⟩, .string ⟨#[]⟩, .slice none 0 0, .string ⟨#[]⟩, .int .i64 0, .slice none 0 0, .int .i64 0, .int .i64 0, .string ⟨#[]⟩, .string ⟨#[]⟩, .string ⟨#[]⟩, .int .i64 0, .bool false, .int .i64 0, .int .i64 0, .int .i64 0, .string ⟨#[]⟩, .string ⟨#[]⟩, .string ⟨#[]⟩, .slice none 0 0, .string ⟨#[]⟩, .int .i64 0, .int .i64 0, .string ⟨#[]⟩] [.int .i64 9, .int .i64 0, .int .i64 0, .int .i64 0, .int .i64 0, .int .i64 0, .string ⟨#[]⟩, .string ⟨#[]⟩, .string ⟨#[]⟩, .string ⟨#[]⟩, .string ⟨#[]⟩, .slice none 0 0, .string ⟨#[]⟩, .int .i64 0, .slice none 0 0, .int .i64 0, .int .i64 0, .string ⟨#[]⟩, .string ⟨#[]⟩, .string ⟨#[]⟩, .int .i64 0, .bool false, .int .i64 0, .int .i64 0, .int .i64 0, .string ⟨#[]⟩, .string ⟨#[]⟩, .string ⟨#[]⟩, .slice none 0 0, .string ⟨#[]⟩, .int .i64 0, .int .i64 0, .string ⟨#[]⟩] := X1.set 0 (.int .i64 9) (by simp); have X0s := Lib.hid X0s; clear l0 k0 X1)
    | (go_at_call 33; with_reducible refine (H1.out _ X0s.out.nr.ds).mono ?_; rintro e w1 ⟨rfl, m1, k1⟩; have X1 := X0s.out.call k1 m1; obtain ⟨ca1, fa1⟩ := X1.cf 2 (by simp); obtain ⟨cc1, fc1⟩ := X1.cf 22 (by simp); have z1 := X1.lt; obtain ⟨z10, z11, z12⟩ := z1; have X1s : Nx b p w.heap.size (w.heap.size + 1) w _ _ _ [.int .i64 0, .int .i64 0, .int .i64 0, .int .i64 0, .int .i64 0, .int .i64 0, .string ⟨#[]⟩, .string ⟨#[]⟩, .string ⟨#[]⟩, .string ⟨#[]⟩, .string ⟨#[]⟩, .slice none 0 0, .string ⟨#[]⟩, .int .i64 0, .slice none 0 0, .int .i64 0, .int .i64 0, .string ⟨#[]⟩, .string ⟨#[]⟩, .string ⟨#[]⟩, .int .i64 0, .bool false, .int .i64 0, .int .i64 0, .int .i64 0, .string ⟨#[]⟩, .string ⟨#[]⟩, .string ⟨#[]⟩, .slice none 0 0, .string ⟨#[]⟩, .int .i64 0, .int .i64 0, .string ⟨#[]⟩] [.int .i64 9, .int .i64 0, .int .i64 n1, .int .i64 0, .int .i64 0, .int .i64 0, .string ⟨#[]⟩, .string ⟨#[]⟩, .string ⟨#[]⟩, .string ⟨#[]⟩, .string ⟨#[]⟩, .slice none 0 0, .string ⟨#[]⟩, .int .i64 0, .slice none 0 0, .int .i64 0, .int .i64 0, .string ⟨#[]⟩, .string ⟨#[]⟩, .string ⟨#[]⟩, .int .i64 0, .bool false, .int .i64 0, .int .i64 0, .int .i64 0, .string ⟨#[]⟩, .string ⟨#[]⟩, .string ⟨#[]⟩, .slice none 0 0, .string ⟨#[]⟩, .int .i64 0, .int .i64 0, .string ⟨#[]⟩] := X1.set 2 (.int .i64 n1) (by simp); have X1s := Lib.hid X1s; clear m1 k1 X1)
    | (go_at_call 33; with_reducible refine (H2.out _ X1s.out.nr.ds).mono ?_; rintro e w2 ⟨rfl, m2, k2⟩; have X2 := X1s.out.call k2 m2; obtain ⟨ca2, fa2⟩ := X2.cf 1 (by simp); obtain ⟨cc2, fc2⟩ := X2.cf 22 (by simp); have z2 := X2.lt; obtain ⟨z20, z21, z22⟩ := z2; have X2s : Nx b p w.heap.size (w.heap.size + 1) w _ _ _ [.int .i64 0, .int .i64 0, .int .i64 0, .int .i64 0, .int .i64 0, .int .i64 0, .string ⟨#[]⟩, .string ⟨#[]⟩, .string ⟨#[]⟩, .string ⟨#[]⟩, .string ⟨#[]⟩, .slice none 0 0, .string ⟨#[]⟩, .int .i64 0, .slice none 0 0, .int .i64 0, .int .i64 0, .string ⟨#[]⟩, .string ⟨#[]⟩, .string ⟨#[]⟩, .int .i64 0, .bool false, .int .i64 0, .int .i64 0, .int .i64 0, .string ⟨#[]⟩, .string ⟨#[]⟩, .string ⟨#[]⟩, .slice none 0 0, .string ⟨#[]⟩, .int .i64 0, .int .i64 0, .string ⟨#[]⟩] [.int .i64 9, .int .i64 n2, .int .i64 n1, .int .i64 0, .int .i64 0, .int .i64 0, .string ⟨#[]⟩, .string ⟨#[]⟩, .string ⟨#[]⟩, .string ⟨#[]⟩, .string ⟨#[]⟩, .slice none 0 0, .string ⟨#[]⟩, .int .i64 0, .slice none 0 0, .int .i64 0, .int .i64 0, .string ⟨#[]⟩, .string ⟨#[]⟩, .string ⟨#[]⟩, .int .i64 0, .bool false, .int .i64 0, .int .i64 0, .int .i64 0, .string ⟨#[]⟩, .string ⟨#[]⟩, .string ⟨#[]⟩, .slice none 0 0, .string ⟨#[]⟩, .int .i64 0, .int .i64 0, .string ⟨#[]⟩] := X2.set 1 (.int .i64 n2) (by simp); have X2s := Lib.hid X2s; have e1 := lvAct_row X2s.out.row rfl; have e2 := svAct_row X2s.out.nr.res rfl rfl (vs := [.int .i64 9, .int .i64 n2, .int .i64 n1, .int .i64 0, .int .i64 0, .int .i64 0, .string ⟨#[]⟩, .string ⟨#[]⟩, .string ⟨#[]⟩, .string ⟨#[]⟩, .string ⟨#[]⟩, .slice none 0 0, .string ⟨#[]⟩, .int .i64 0, .slice none 0 0, .int .i64 0, .int .i64 0, .string ⟨#[]⟩, .string ⟨#[]⟩, .string ⟨#[]⟩, .int .i64 0, .bool false, .int .i64 0, .int .i64 0, .int .i64 0, .string ⟨#[]⟩, .string ⟨#[]⟩, .string ⟨#[]⟩, .slice none 0 0, .string ⟨#[]⟩, .int .i64 0, .int .i64 0, .string ⟨#[]⟩]) (by simp [Value.oneCell']); clear m2 k2 X2))
  have XR := X2s.out.nr.sets (cs := [.int .i64 9, .int .i64 n2, .int .i64 n1, .int .i64 0, .int .i64 0, .int .i64 0, .string ⟨#[]⟩, .string ⟨#[]⟩, .string ⟨#[]⟩, .string ⟨#[]⟩, .string ⟨#[]⟩, .slice none 0 0, .string ⟨#[]⟩, .int .i64 0, .slice none 0 0, .int .i64 0, .int .i64 0, .string ⟨#[]⟩, .string ⟨#[]⟩, .string ⟨#[]⟩, .int .i64 0, .bool false, .int .i64 0, .int .i64 0, .int .i64 0, .string ⟨#[]⟩, .string ⟨#[]⟩, .string ⟨#[]⟩, .slice none 0 0, .string ⟨#[]⟩, .int .i64 0, .int .i64 0, .string ⟨#[]⟩]) rfl
  refine bodyPost_ret (results_cell rfl _ rfl (lv_row (T := 43) Tryz.underlying43 (by kernel_rfl) XR.res rfl)) rfl ?_
  exact ⟨XR.kw, _, rfl, actN_plain HB.out rfl rfl rfl, XR.ds⟩
set_option maxHeartbeats 4000000 in
theorem actN_crash (f : ByteArray) (W : Ws) (d : Bool) (W0 : Ws) (d0 : Bool) (q0 : wordD W d = (f, W0, d0)) (h0 : eqS f b_tick = false) (h1 : eqS f b_world = false) (h2 : eqS f b_start = false) (h3 : eqS f b_deliver = false) (h4 : eqS f b_drop = false) (h5 : eqS f b_double = false) (h6 : eqS f b_ask = false) (h7 : eqS f b_read = false) (h8 : eqS f b_learner = false) (h9 : eqS f b_voter = false) (h10 : eqS f b_remove = false) (h11 : eqS f b_lease = false) (h12 : eqS f b_row = false) (h : eqS f b_crash = true) (b p : Nat) (w : World) (hl : LnS w b p W d) : Calls Tryz.prog 21 #[.pointer (some ⟨b, 0, none⟩)] w (RdN b p w (ActN b w.heap.size) (actD W d)) := by
  obtain ⟨n1, W1, d1, q1⟩ : ∃ a c e, numD W0 d0 = (a, c, e) := ⟨_, _, _, rfl⟩
  have H1 := Lib.hid (lnum_at (b := b) (p := p) q1)
  obtain ⟨n2, W2, d2, q2⟩ : ∃ a c e, numD W1 d1 = (a, c, e) := ⟨_, _, _, rfl⟩
  have H2 := Lib.hid (lnum_at (b := b) (p := p) q2)
  have e : actD W d = ({ zAct with kind := 11, node := n1, n := n2 }, W2, d2) := by simp [actD, threeD, chgD, bindD, q0, q1, q2, h0, h1, h2, h3, h4, h5, h6, h7, h8, h9, h10, h11, h12, h]
  rw [e]
  have H0 := Lib.hid (lword_at (b := b) (p := p) q0)
  have ih0 := eqS_as h0
  unfold b_tick at ih0
  simp only at ih0
  have ih1 := eqS_as h1
  unfold b_world at ih1
  simp only at ih1
  have ih2 := eqS_as h2
  unfold b_start at ih2
  simp only at ih2
  have ih3 := eqS_as h3
  unfold b_deliver at ih3
  simp only at ih3
  have ih4 := eqS_as h4
  unfold b_drop at ih4
  simp only at ih4
  have ih5 := eqS_as h5
  unfold b_double at ih5
  simp only at ih5
  have ih6 := eqS_as h6
  unfold b_ask at ih6
  simp only at ih6
  have ih7 := eqS_as h7
  unfold b_read at ih7
  simp only at ih7
  have ih8 := eqS_as h8
  unfold b_learner at ih8
  simp only at ih8
  have ih9 := eqS_as h9
  unfold b_voter at ih9
  simp only at ih9
  have ih10 := eqS_as h10
  unfold b_remove at ih10
  simp only at ih10
  have ih11 := eqS_as h11
  unfold b_lease at ih11
  simp only at ih11
  have ih12 := eqS_as h12
  unfold b_row at ih12
  simp only at ih12
  have ih := eqS_as h
  unfold b_crash at ih
  simp only at ih
  have HX0 := Lib.hid (Nx.start2 hl [.int .i64 0, .int .i64 0, .int .i64 0, .int .i64 0, .int .i64 0, .int .i64 0, .string ⟨#[]⟩, .string ⟨#[]⟩, .string ⟨#[]⟩, .string ⟨#[]⟩, .string ⟨#[]⟩, .slice none 0 0, .string ⟨#[]⟩, .int .i64 0, .slice none 0 0, .int .i64 0, .int .i64 0, .string ⟨#[]⟩, .string ⟨#[]⟩, .string ⟨#[]⟩, .int .i64 0, .bool false, .int .i64 0, .int .i64 0, .int .i64 0, .string ⟨#[]⟩, .string ⟨#[]⟩, .string ⟨#[]⟩, .slice none 0 0, .string ⟨#[]⟩, .int .i64 0, .int .i64 0, .string ⟨#[]⟩] [.int .i64 0, .int .i64 0, .int .i64 0, .int .i64 0, .int .i64 0, .int .i64 0, .string ⟨#[]⟩, .string ⟨#[]⟩, .string ⟨#[]⟩, .string ⟨#[]⟩, .string ⟨#[]⟩, .slice none 0 0, .string ⟨#[]⟩, .int .i64 0, .slice none 0 0, .int .i64 0, .int .i64 0, .string ⟨#[]⟩, .string ⟨#[]⟩, .string ⟨#[]⟩, .int .i64 0, .bool false, .int .i64 0, .int .i64 0, .int .i64 0, .string ⟨#[]⟩, .string ⟨#[]⟩, .string ⟨#[]⟩, .slice none 0 0, .string ⟨#[]⟩, .int .i64 0, .int .i64 0, .string ⟨#[]⟩] 43 43)
  have hb := hl.lt
  have HB := Lib.hid hb
  clear e hl q0 q1 q2 h0 h1 h2 h3 h4 h5 h6 h7 h8 h9 h10 h11 h12 h
  go_enter Tryz.func21, Tryz.ntmps21
  go_wp2_with (first
    | (go_at_call 32; with_reducible refine (H0.out _ HX0.out.nr.ds).mono ?_; rintro e w0 ⟨rfl, g0, l0, k0⟩; have X1 := HX0.out.call k0 l0; obtain ⟨ca0, fa0⟩ := X1.cf 0 (by simp); obtain ⟨cc0, fc0⟩ := X1.cf 22 (by simp); have hxb := X1.xb; have hbx := X1.bx; have z0 := X1.lt; obtain ⟨z00, z01, z02⟩ := z0; have X0s : Nx b p w.heap.size (w.heap.size + 1) w _ _ _ [.int .i64 0, .int .i64 0, .int .i64 0, .int .i64 0, .int .i64 0, .int .i64 0, .string ⟨#[]⟩, .string ⟨#[]⟩, .string ⟨#[]⟩, .string ⟨#[]⟩, .string ⟨#[]⟩, .slice none 0 0, .string ⟨#[]⟩, .int .i64 0, .slice none 0 0, .int .i64 0, .int .i64 0, .string ⟨#[]⟩, .string ⟨#[]⟩, .string ⟨#[]⟩, .int .i64 0, .bool false, .int .i64 0, .int .i64 0, .int .i64 0, .string ⟨#[]⟩, .string ⟨#[]⟩, .string ⟨#[]⟩, .slice none 0 0, .string ⟨#[]⟩, .int .i64 0, .int .i64 0, .string ⟨#[]⟩] [.int .i64 11, .int .i64 0, .int .i64 0, .int .i64 0, .int .i64 0, .int .i64 0, .string ⟨#[]⟩, .string ⟨#[]⟩, .string ⟨#[]⟩, .string ⟨#[]⟩, .string ⟨#[]⟩, .slice none 0 0, .string ⟨#[]⟩, .int .i64 0, .slice none 0 0, .int .i64 0, .int .i64 0, .string ⟨#[]⟩, .string ⟨#[]⟩, .string ⟨#[]⟩, .int .i64 0, .bool false, .int .i64 0, .int .i64 0, .int .i64 0, .string ⟨#[]⟩, .string ⟨#[]⟩, .string ⟨#[]⟩, .slice none 0 0, .string ⟨#[]⟩, .int .i64 0, .int .i64 0, .string ⟨#[]⟩] := X1.set 0 (.int .i64 11) (by simp); have X0s := Lib.hid X0s; clear l0 k0 X1)
    | (go_at_call 33; with_reducible refine (H1.out _ X0s.out.nr.ds).mono ?_; rintro e w1 ⟨rfl, m1, k1⟩; have X1 := X0s.out.call k1 m1; obtain ⟨ca1, fa1⟩ := X1.cf 1 (by simp); obtain ⟨cc1, fc1⟩ := X1.cf 22 (by simp); have z1 := X1.lt; obtain ⟨z10, z11, z12⟩ := z1; have X1s : Nx b p w.heap.size (w.heap.size + 1) w _ _ _ [.int .i64 0, .int .i64 0, .int .i64 0, .int .i64 0, .int .i64 0, .int .i64 0, .string ⟨#[]⟩, .string ⟨#[]⟩, .string ⟨#[]⟩, .string ⟨#[]⟩, .string ⟨#[]⟩, .slice none 0 0, .string ⟨#[]⟩, .int .i64 0, .slice none 0 0, .int .i64 0, .int .i64 0, .string ⟨#[]⟩, .string ⟨#[]⟩, .string ⟨#[]⟩, .int .i64 0, .bool false, .int .i64 0, .int .i64 0, .int .i64 0, .string ⟨#[]⟩, .string ⟨#[]⟩, .string ⟨#[]⟩, .slice none 0 0, .string ⟨#[]⟩, .int .i64 0, .int .i64 0, .string ⟨#[]⟩] [.int .i64 11, .int .i64 n1, .int .i64 0, .int .i64 0, .int .i64 0, .int .i64 0, .string ⟨#[]⟩, .string ⟨#[]⟩, .string ⟨#[]⟩, .string ⟨#[]⟩, .string ⟨#[]⟩, .slice none 0 0, .string ⟨#[]⟩, .int .i64 0, .slice none 0 0, .int .i64 0, .int .i64 0, .string ⟨#[]⟩, .string ⟨#[]⟩, .string ⟨#[]⟩, .int .i64 0, .bool false, .int .i64 0, .int .i64 0, .int .i64 0, .string ⟨#[]⟩, .string ⟨#[]⟩, .string ⟨#[]⟩, .slice none 0 0, .string ⟨#[]⟩, .int .i64 0, .int .i64 0, .string ⟨#[]⟩] := X1.set 1 (.int .i64 n1) (by simp); have X1s := Lib.hid X1s; clear m1 k1 X1)
    | (go_at_call 33; with_reducible refine (H2.out _ X1s.out.nr.ds).mono ?_; rintro e w2 ⟨rfl, m2, k2⟩; have X2 := X1s.out.call k2 m2; obtain ⟨ca2, fa2⟩ := X2.cf 2 (by simp); obtain ⟨cc2, fc2⟩ := X2.cf 22 (by simp); have z2 := X2.lt; obtain ⟨z20, z21, z22⟩ := z2; have X2s : Nx b p w.heap.size (w.heap.size + 1) w _ _ _ [.int .i64 0, .int .i64 0, .int .i64 0, .int .i64 0, .int .i64 0, .int .i64 0, .string ⟨#[]⟩, .string ⟨#[]⟩, .string ⟨#[]⟩, .string ⟨#[]⟩, .string ⟨#[]⟩, .slice none 0 0, .string ⟨#[]⟩, .int .i64 0, .slice none 0 0, .int .i64 0, .int .i64 0, .string ⟨#[]⟩, .string ⟨#[]⟩, .string ⟨#[]⟩, .int .i64 0, .bool false, .int .i64 0, .int .i64 0, .int .i64 0, .string ⟨#[]⟩, .string ⟨#[]⟩, .string ⟨#[]⟩, .slice none 0 0, .string ⟨#[]⟩, .int .i64 0, .int .i64 0, .string ⟨#[]⟩] [.int .i64 11, .int .i64 n1, .int .i64 n2, .int .i64 0, .int .i64 0, .int .i64 0, .string ⟨#[]⟩, .string ⟨#[]⟩, .string ⟨#[]⟩, .string ⟨#[]⟩, .string ⟨#[]⟩, .slice none 0 0, .string ⟨#[]⟩, .int .i64 0, .slice none 0 0, .int .i64 0, .int .i64 0, .string ⟨#[]⟩, .string ⟨#[]⟩, .string ⟨#[]⟩, .int .i64 0, .bool false, .int .i64 0, .int .i64 0, .int .i64 0, .string ⟨#[]⟩, .string ⟨#[]⟩, .string ⟨#[]⟩, .slice none 0 0, .string ⟨#[]⟩, .int .i64 0, .int .i64 0, .string ⟨#[]⟩] := X2.set 2 (.int .i64 n2) (by simp); have X2s := Lib.hid X2s; have e1 := lvAct_row X2s.out.row rfl; have e2 := svAct_row X2s.out.nr.res rfl rfl (vs := [.int .i64 11, .int .i64 n1, .int .i64 n2, .int .i64 0, .int .i64 0, .int .i64 0, .string ⟨#[]⟩, .string ⟨#[]⟩, .string ⟨#[]⟩, .string ⟨#[]⟩, .string ⟨#[]⟩, .slice none 0 0, .string ⟨#[]⟩, .int .i64 0, .slice none 0 0, .int .i64 0, .int .i64 0, .string ⟨#[]⟩, .string ⟨#[]⟩, .string ⟨#[]⟩, .int .i64 0, .bool false, .int .i64 0, .int .i64 0, .int .i64 0, .string ⟨#[]⟩, .string ⟨#[]⟩, .string ⟨#[]⟩, .slice none 0 0, .string ⟨#[]⟩, .int .i64 0, .int .i64 0, .string ⟨#[]⟩]) (by simp [Value.oneCell']); clear m2 k2 X2))
  have XR := X2s.out.nr.sets (cs := [.int .i64 11, .int .i64 n1, .int .i64 n2, .int .i64 0, .int .i64 0, .int .i64 0, .string ⟨#[]⟩, .string ⟨#[]⟩, .string ⟨#[]⟩, .string ⟨#[]⟩, .string ⟨#[]⟩, .slice none 0 0, .string ⟨#[]⟩, .int .i64 0, .slice none 0 0, .int .i64 0, .int .i64 0, .string ⟨#[]⟩, .string ⟨#[]⟩, .string ⟨#[]⟩, .int .i64 0, .bool false, .int .i64 0, .int .i64 0, .int .i64 0, .string ⟨#[]⟩, .string ⟨#[]⟩, .string ⟨#[]⟩, .slice none 0 0, .string ⟨#[]⟩, .int .i64 0, .int .i64 0, .string ⟨#[]⟩]) rfl
  refine bodyPost_ret (results_cell rfl _ rfl (lv_row (T := 43) Tryz.underlying43 (by kernel_rfl) XR.res rfl)) rfl ?_
  exact ⟨XR.kw, _, rfl, actN_plain HB.out rfl rfl rfl, XR.ds⟩
set_option maxHeartbeats 4000000 in
theorem actN_learner (f : ByteArray) (W : Ws) (d : Bool) (W0 : Ws) (d0 : Bool) (q0 : wordD W d = (f, W0, d0)) (h0 : eqS f b_tick = false) (h1 : eqS f b_world = false) (h2 : eqS f b_start = false) (h3 : eqS f b_deliver = false) (h4 : eqS f b_drop = false) (h5 : eqS f b_double = false) (h6 : eqS f b_ask = false) (h7 : eqS f b_read = false) (h : eqS f b_learner = true) (b p : Nat) (w : World) (hl : LnS w b p W d) : Calls Tryz.prog 21 #[.pointer (some ⟨b, 0, none⟩)] w (RdN b p w (ActN b w.heap.size) (actD W d)) := by
  obtain ⟨n1, W1, d1, q1⟩ : ∃ a c e, numD W0 d0 = (a, c, e) := ⟨_, _, _, rfl⟩
  have H1 := Lib.hid (lnum_at (b := b) (p := p) q1)
  obtain ⟨n2, W2, d2, q2⟩ : ∃ a c e, numD W1 d1 = (a, c, e) := ⟨_, _, _, rfl⟩
  have H2 := Lib.hid (lnum_at (b := b) (p := p) q2)
  have e : actD W d = ({ zAct with kind := 8, node := n1, cn := n2, ck := 1 }, W2, d2) := by simp [actD, threeD, chgD, bindD, q0, q1, q2, h0, h1, h2, h3, h4, h5, h6, h7, h]
  rw [e]
  have H0 := Lib.hid (lword_at (b := b) (p := p) q0)
  have ih0 := eqS_as h0
  unfold b_tick at ih0
  simp only at ih0
  have ih1 := eqS_as h1
  unfold b_world at ih1
  simp only at ih1
  have ih2 := eqS_as h2
  unfold b_start at ih2
  simp only at ih2
  have ih3 := eqS_as h3
  unfold b_deliver at ih3
  simp only at ih3
  have ih4 := eqS_as h4
  unfold b_drop at ih4
  simp only at ih4
  have ih5 := eqS_as h5
  unfold b_double at ih5
  simp only at ih5
  have ih6 := eqS_as h6
  unfold b_ask at ih6
  simp only at ih6
  have ih7 := eqS_as h7
  unfold b_read at ih7
  simp only at ih7
  have ih := eqS_as h
  unfold b_learner at ih
  simp only at ih
  have HX0 := Lib.hid (Nx.start2 hl [.int .i64 0, .int .i64 0, .int .i64 0, .int .i64 0, .int .i64 0, .int .i64 0, .string ⟨#[]⟩, .string ⟨#[]⟩, .string ⟨#[]⟩, .string ⟨#[]⟩, .string ⟨#[]⟩, .slice none 0 0, .string ⟨#[]⟩, .int .i64 0, .slice none 0 0, .int .i64 0, .int .i64 0, .string ⟨#[]⟩, .string ⟨#[]⟩, .string ⟨#[]⟩, .int .i64 0, .bool false, .int .i64 0, .int .i64 0, .int .i64 0, .string ⟨#[]⟩, .string ⟨#[]⟩, .string ⟨#[]⟩, .slice none 0 0, .string ⟨#[]⟩, .int .i64 0, .int .i64 0, .string ⟨#[]⟩] [.int .i64 0, .int .i64 0, .int .i64 0, .int .i64 0, .int .i64 0, .int .i64 0, .string ⟨#[]⟩, .string ⟨#[]⟩, .string ⟨#[]⟩, .string ⟨#[]⟩, .string ⟨#[]⟩, .slice none 0 0, .string ⟨#[]⟩, .int .i64 0, .slice none 0 0, .int .i64 0, .int .i64 0, .string ⟨#[]⟩, .string ⟨#[]⟩, .string ⟨#[]⟩, .int .i64 0, .bool false, .int .i64 0, .int .i64 0, .int .i64 0, .string ⟨#[]⟩, .string ⟨#[]⟩, .string ⟨#[]⟩, .slice none 0 0, .string ⟨#[]⟩, .int .i64 0, .int .i64 0, .string ⟨#[]⟩] 43 43)
  have hb := hl.lt
  have HB := Lib.hid hb
  clear e hl q0 q1 q2 h0 h1 h2 h3 h4 h5 h6 h7 h
  go_enter Tryz.func21, Tryz.ntmps21
  go_wp2_with (first
    | (go_at_call 32; with_reducible refine (H0.out _ HX0.out.nr.ds).mono ?_; rintro e w0 ⟨rfl, g0, l0, k0⟩; have X1 := HX0.out.call k0 l0; obtain ⟨ca0, fa0⟩ := X1.cf 0 (by simp); obtain ⟨cc0, fc0⟩ := X1.cf 22 (by simp); have hxb := X1.xb; have hbx := X1.bx; have z0 := X1.lt; obtain ⟨z00, z01, z02⟩ := z0; have X0s : Nx b p w.heap.size (w.heap.size + 1) w _ _ _ [.int .i64 0, .int .i64 0, .int .i64 0, .int .i64 0, .int .i64 0, .int .i64 0, .string ⟨#[]⟩, .string ⟨#[]⟩, .string ⟨#[]⟩, .string ⟨#[]⟩, .string ⟨#[]⟩, .slice none 0 0, .string ⟨#[]⟩, .int .i64 0, .slice none 0 0, .int .i64 0, .int .i64 0, .string ⟨#[]⟩, .string ⟨#[]⟩, .string ⟨#[]⟩, .int .i64 0, .bool false, .int .i64 0, .int .i64 0, .int .i64 0, .string ⟨#[]⟩, .string ⟨#[]⟩, .string ⟨#[]⟩, .slice none 0 0, .string ⟨#[]⟩, .int .i64 0, .int .i64 0, .string ⟨#[]⟩] [.int .i64 8, .int .i64 0, .int .i64 0, .int .i64 0, .int .i64 0, .int .i64 0, .string ⟨#[]⟩, .string ⟨#[]⟩, .string ⟨#[]⟩, .string ⟨#[]⟩, .string ⟨#[]⟩, .slice none 0 0, .string ⟨#[]⟩, .int .i64 0, .slice none 0 0, .int .i64 0, .int .i64 0, .string ⟨#[]⟩, .string ⟨#[]⟩, .string ⟨#[]⟩, .int .i64 0, .bool false, .int .i64 1, .int .i64 0, .int .i64 0, .string ⟨#[]⟩, .string ⟨#[]⟩, .string ⟨#[]⟩, .slice none 0 0, .string ⟨#[]⟩, .int .i64 0, .int .i64 0, .string ⟨#[]⟩] := (X1.set 22 (.int .i64 1) (by simp)).set 0 (.int .i64 8) (by simp); have X0s := Lib.hid X0s; clear l0 k0 X1)
    | (go_at_call 33; with_reducible refine (H1.out _ X0s.out.nr.ds).mono ?_; rintro e w1 ⟨rfl, m1, k1⟩; have X1 := X0s.out.call k1 m1; obtain ⟨ca1, fa1⟩ := X1.cf 1 (by simp); obtain ⟨cc1, fc1⟩ := X1.cf 22 (by simp); have z1 := X1.lt; obtain ⟨z10, z11, z12⟩ := z1; have X1s : Nx b p w.heap.size (w.heap.size + 1) w _ _ _ [.int .i64 0, .int .i64 0, .int .i64 0, .int .i64 0, .int .i64 0, .int .i64 0, .string ⟨#[]⟩, .string ⟨#[]⟩, .string ⟨#[]⟩, .string ⟨#[]⟩, .string ⟨#[]⟩, .slice none 0 0, .string ⟨#[]⟩, .int .i64 0, .slice none 0 0, .int .i64 0, .int .i64 0, .string ⟨#[]⟩, .string ⟨#[]⟩, .string ⟨#[]⟩, .int .i64 0, .bool false, .int .i64 0, .int .i64 0, .int .i64 0, .string ⟨#[]⟩, .string ⟨#[]⟩, .string ⟨#[]⟩, .slice none 0 0, .string ⟨#[]⟩, .int .i64 0, .int .i64 0, .string ⟨#[]⟩] [.int .i64 8, .int .i64 n1, .int .i64 0, .int .i64 0, .int .i64 0, .int .i64 0, .string ⟨#[]⟩, .string ⟨#[]⟩, .string ⟨#[]⟩, .string ⟨#[]⟩, .string ⟨#[]⟩, .slice none 0 0, .string ⟨#[]⟩, .int .i64 0, .slice none 0 0, .int .i64 0, .int .i64 0, .string ⟨#[]⟩, .string ⟨#[]⟩, .string ⟨#[]⟩, .int .i64 0, .bool false, .int .i64 1, .int .i64 0, .int .i64 0, .string ⟨#[]⟩, .string ⟨#[]⟩, .string ⟨#[]⟩, .slice none 0 0, .string ⟨#[]⟩, .int .i64 0, .int .i64 0, .string ⟨#[]⟩] := X1.set 1 (.int .i64 n1) (by simp); have X1s := Lib.hid X1s; clear m1 k1 X1)
    | (go_at_call 33; with_reducible refine (H2.out _ X1s.out.nr.ds).mono ?_; rintro e w2 ⟨rfl, m2, k2⟩; have X2 := X1s.out.call k2 m2; obtain ⟨ca2, fa2⟩ := X2.cf 23 (by simp); obtain ⟨cc2, fc2⟩ := X2.cf 22 (by simp); have z2 := X2.lt; obtain ⟨z20, z21, z22⟩ := z2; have X2s : Nx b p w.heap.size (w.heap.size + 1) w _ _ _ [.int .i64 0, .int .i64 0, .int .i64 0, .int .i64 0, .int .i64 0, .int .i64 0, .string ⟨#[]⟩, .string ⟨#[]⟩, .string ⟨#[]⟩, .string ⟨#[]⟩, .string ⟨#[]⟩, .slice none 0 0, .string ⟨#[]⟩, .int .i64 0, .slice none 0 0, .int .i64 0, .int .i64 0, .string ⟨#[]⟩, .string ⟨#[]⟩, .string ⟨#[]⟩, .int .i64 0, .bool false, .int .i64 0, .int .i64 0, .int .i64 0, .string ⟨#[]⟩, .string ⟨#[]⟩, .string ⟨#[]⟩, .slice none 0 0, .string ⟨#[]⟩, .int .i64 0, .int .i64 0, .string ⟨#[]⟩] [.int .i64 8, .int .i64 n1, .int .i64 0, .int .i64 0, .int .i64 0, .int .i64 0, .string ⟨#[]⟩, .string ⟨#[]⟩, .string ⟨#[]⟩, .string ⟨#[]⟩, .string ⟨#[]⟩, .slice none 0 0, .string ⟨#[]⟩, .int .i64 0, .slice none 0 0, .int .i64 0, .int .i64 0, .string ⟨#[]⟩, .string ⟨#[]⟩, .string ⟨#[]⟩, .int .i64 0, .bool false, .int .i64 1, .int .i64 n2, .int .i64 0, .string ⟨#[]⟩, .string ⟨#[]⟩, .string ⟨#[]⟩, .slice none 0 0, .string ⟨#[]⟩, .int .i64 0, .int .i64 0, .string ⟨#[]⟩] := X2.set 23 (.int .i64 n2) (by simp); have X2s := Lib.hid X2s; have e1 := lvAct_row X2s.out.row rfl; have e2 := svAct_row X2s.out.nr.res rfl rfl (vs := [.int .i64 8, .int .i64 n1, .int .i64 0, .int .i64 0, .int .i64 0, .int .i64 0, .string ⟨#[]⟩, .string ⟨#[]⟩, .string ⟨#[]⟩, .string ⟨#[]⟩, .string ⟨#[]⟩, .slice none 0 0, .string ⟨#[]⟩, .int .i64 0, .slice none 0 0, .int .i64 0, .int .i64 0, .string ⟨#[]⟩, .string ⟨#[]⟩, .string ⟨#[]⟩, .int .i64 0, .bool false, .int .i64 1, .int .i64 n2, .int .i64 0, .string ⟨#[]⟩, .string ⟨#[]⟩, .string ⟨#[]⟩, .slice none 0 0, .string ⟨#[]⟩, .int .i64 0, .int .i64 0, .string ⟨#[]⟩]) (by simp [Value.oneCell']); clear m2 k2 X2))
  have XR := X2s.out.nr.sets (cs := [.int .i64 8, .int .i64 n1, .int .i64 0, .int .i64 0, .int .i64 0, .int .i64 0, .string ⟨#[]⟩, .string ⟨#[]⟩, .string ⟨#[]⟩, .string ⟨#[]⟩, .string ⟨#[]⟩, .slice none 0 0, .string ⟨#[]⟩, .int .i64 0, .slice none 0 0, .int .i64 0, .int .i64 0, .string ⟨#[]⟩, .string ⟨#[]⟩, .string ⟨#[]⟩, .int .i64 0, .bool false, .int .i64 1, .int .i64 n2, .int .i64 0, .string ⟨#[]⟩, .string ⟨#[]⟩, .string ⟨#[]⟩, .slice none 0 0, .string ⟨#[]⟩, .int .i64 0, .int .i64 0, .string ⟨#[]⟩]) rfl
  refine bodyPost_ret (results_cell rfl _ rfl (lv_row (T := 43) Tryz.underlying43 (by kernel_rfl) XR.res rfl)) rfl ?_
  exact ⟨XR.kw, _, rfl, actN_plain HB.out rfl rfl rfl, XR.ds⟩
set_option maxHeartbeats 4000000 in
theorem actN_voter (f : ByteArray) (W : Ws) (d : Bool) (W0 : Ws) (d0 : Bool) (q0 : wordD W d = (f, W0, d0)) (h0 : eqS f b_tick = false) (h1 : eqS f b_world = false) (h2 : eqS f b_start = false) (h3 : eqS f b_deliver = false) (h4 : eqS f b_drop = false) (h5 : eqS f b_double = false) (h6 : eqS f b_ask = false) (h7 : eqS f b_read = false) (h8 : eqS f b_learner = false) (h : eqS f b_voter = true) (b p : Nat) (w : World) (hl : LnS w b p W d) : Calls Tryz.prog 21 #[.pointer (some ⟨b, 0, none⟩)] w (RdN b p w (ActN b w.heap.size) (actD W d)) := by
  obtain ⟨n1, W1, d1, q1⟩ : ∃ a c e, numD W0 d0 = (a, c, e) := ⟨_, _, _, rfl⟩
  have H1 := Lib.hid (lnum_at (b := b) (p := p) q1)
  obtain ⟨n2, W2, d2, q2⟩ : ∃ a c e, numD W1 d1 = (a, c, e) := ⟨_, _, _, rfl⟩
  have H2 := Lib.hid (lnum_at (b := b) (p := p) q2)
  have e : actD W d = ({ zAct with kind := 8, node := n1, cn := n2, ck := 2 }, W2, d2) := by simp [actD, threeD, chgD, bindD, q0, q1, q2, h0, h1, h2, h3, h4, h5, h6, h7, h8, h]
  rw [e]
  have H0 := Lib.hid (lword_at (b := b) (p := p) q0)
  have ih0 := eqS_as h0
  unfold b_tick at ih0
  simp only at ih0
  have ih1 := eqS_as h1
  unfold b_world at ih1
  simp only at ih1
  have ih2 := eqS_as h2
  unfold b_start at ih2
  simp only at ih2
  have ih3 := eqS_as h3
  unfold b_deliver at ih3
  simp only at ih3
  have ih4 := eqS_as h4
  unfold b_drop at ih4
  simp only at ih4
  have ih5 := eqS_as h5
  unfold b_double at ih5
  simp only at ih5
  have ih6 := eqS_as h6
  unfold b_ask at ih6
  simp only at ih6
  have ih7 := eqS_as h7
  unfold b_read at ih7
  simp only at ih7
  have ih8 := eqS_as h8
  unfold b_learner at ih8
  simp only at ih8
  have ih := eqS_as h
  unfold b_voter at ih
  simp only at ih
  have HX0 := Lib.hid (Nx.start2 hl [.int .i64 0, .int .i64 0, .int .i64 0, .int .i64 0, .int .i64 0, .int .i64 0, .string ⟨#[]⟩, .string ⟨#[]⟩, .string ⟨#[]⟩, .string ⟨#[]⟩, .string ⟨#[]⟩, .slice none 0 0, .string ⟨#[]⟩, .int .i64 0, .slice none 0 0, .int .i64 0, .int .i64 0, .string ⟨#[]⟩, .string ⟨#[]⟩, .string ⟨#[]⟩, .int .i64 0, .bool false, .int .i64 0, .int .i64 0, .int .i64 0, .string ⟨#[]⟩, .string ⟨#[]⟩, .string ⟨#[]⟩, .slice none 0 0, .string ⟨#[]⟩, .int .i64 0, .int .i64 0, .string ⟨#[]⟩] [.int .i64 0, .int .i64 0, .int .i64 0, .int .i64 0, .int .i64 0, .int .i64 0, .string ⟨#[]⟩, .string ⟨#[]⟩, .string ⟨#[]⟩, .string ⟨#[]⟩, .string ⟨#[]⟩, .slice none 0 0, .string ⟨#[]⟩, .int .i64 0, .slice none 0 0, .int .i64 0, .int .i64 0, .string ⟨#[]⟩, .string ⟨#[]⟩, .string ⟨#[]⟩, .int .i64 0, .bool false, .int .i64 0, .int .i64 0, .int .i64 0, .string ⟨#[]⟩, .string ⟨#[]⟩, .string ⟨#[]⟩, .slice none 0 0, .string ⟨#[]⟩, .int .i64 0, .int .i64 0, .string ⟨#[]⟩] 43 43)
  have hb := hl.lt
  have HB := Lib.hid hb
  clear e hl q0 q1 q2 h0 h1 h2 h3 h4 h5 h6 h7 h8 h
  go_enter Tryz.func21, Tryz.ntmps21
  go_wp2_with (first
    | (go_at_call 32; with_reducible refine (H0.out _ HX0.out.nr.ds).mono ?_; rintro e w0 ⟨rfl, g0, l0, k0⟩; have X1 := HX0.out.call k0 l0; obtain ⟨ca0, fa0⟩ := X1.cf 0 (by simp); obtain ⟨cc0, fc0⟩ := X1.cf 22 (by simp); have hxb := X1.xb; have hbx := X1.bx; have z0 := X1.lt; obtain ⟨z00, z01, z02⟩ := z0; have X0s : Nx b p w.heap.size (w.heap.size + 1) w _ _ _ [.int .i64 0, .int .i64 0, .int .i64 0, .int .i64 0, .int .i64 0, .int .i64 0, .string ⟨#[]⟩, .string ⟨#[]⟩, .string ⟨#[]⟩, .string ⟨#[]⟩, .string ⟨#[]⟩, .slice none 0 0, .string ⟨#[]⟩, .int .i64 0, .slice none 0 0, .int .i64 0, .int .i64 0, .string ⟨#[]⟩, .string ⟨#[]⟩, .string ⟨#[]⟩, .int .i64 0, .bool false, .int .i64 0, .int .i64 0, .int .i64 0, .string ⟨#[]⟩, .string ⟨#[]⟩, .string ⟨#[]⟩, .slice none 0 0, .string ⟨#[]⟩, .int .i64 0, .int .i64 0, .string ⟨#[]⟩] [.int .i64 8, .int .i64 0, .int .i64 0, .int .i64 0, .int .i64 0, .int .i64 0, .string ⟨#[]⟩, .string ⟨#[]⟩, .string ⟨#[]⟩, .string ⟨#[]⟩, .string ⟨#[]⟩, .slice none 0 0, .string ⟨#[]⟩, .int .i64 0, .slice none 0 0, .int .i64 0, .int .i64 0, .string ⟨#[]⟩, .string ⟨#[]⟩, .string ⟨#[]⟩, .int .i64 0, .bool false, .int .i64 2, .int .i64 0, .int .i64 0, .string ⟨#[]⟩, .string ⟨#[]⟩, .string ⟨#[]⟩, .slice none 0 0, .string ⟨#[]⟩, .int .i64 0, .int .i64 0, .string ⟨#[]⟩] := (X1.set 22 (.int .i64 2) (by simp)).set 0 (.int .i64 8) (by simp); have X0s := Lib.hid X0s; clear l0 k0 X1)
    | (go_at_call 33; with_reducible refine (H1.out _ X0s.out.nr.ds).mono ?_; rintro e w1 ⟨rfl, m1, k1⟩; have X1 := X0s.out.call k1 m1; obtain ⟨ca1, fa1⟩ := X1.cf 1 (by simp); obtain ⟨cc1, fc1⟩ := X1.cf 22 (by simp); have z1 := X1.lt; obtain ⟨z10, z11, z12⟩ := z1; have X1s : Nx b p w.heap.size (w.heap.size + 1) w _ _ _ [.int .i64 0, .int .i64 0, .int .i64 0, .int .i64 0, .int .i64 0, .int .i64 0, .string ⟨#[]⟩, .string ⟨#[]⟩, .string ⟨#[]⟩, .string ⟨#[]⟩, .string ⟨#[]⟩, .slice none 0 0, .string ⟨#[]⟩, .int .i64 0, .slice none 0 0, .int .i64 0, .int .i64 0, .string ⟨#[]⟩, .string ⟨#[]⟩, .string ⟨#[]⟩, .int .i64 0, .bool false, .int .i64 0, .int .i64 0, .int .i64 0, .string ⟨#[]⟩, .string ⟨#[]⟩, .string ⟨#[]⟩, .slice none 0 0, .string ⟨#[]⟩, .int .i64 0, .int .i64 0, .string ⟨#[]⟩] [.int .i64 8, .int .i64 n1, .int .i64 0, .int .i64 0, .int .i64 0, .int .i64 0, .string ⟨#[]⟩, .string ⟨#[]⟩, .string ⟨#[]⟩, .string ⟨#[]⟩, .string ⟨#[]⟩, .slice none 0 0, .string ⟨#[]⟩, .int .i64 0, .slice none 0 0, .int .i64 0, .int .i64 0, .string ⟨#[]⟩, .string ⟨#[]⟩, .string ⟨#[]⟩, .int .i64 0, .bool false, .int .i64 2, .int .i64 0, .int .i64 0, .string ⟨#[]⟩, .string ⟨#[]⟩, .string ⟨#[]⟩, .slice none 0 0, .string ⟨#[]⟩, .int .i64 0, .int .i64 0, .string ⟨#[]⟩] := X1.set 1 (.int .i64 n1) (by simp); have X1s := Lib.hid X1s; clear m1 k1 X1)
    | (go_at_call 33; with_reducible refine (H2.out _ X1s.out.nr.ds).mono ?_; rintro e w2 ⟨rfl, m2, k2⟩; have X2 := X1s.out.call k2 m2; obtain ⟨ca2, fa2⟩ := X2.cf 23 (by simp); obtain ⟨cc2, fc2⟩ := X2.cf 22 (by simp); have z2 := X2.lt; obtain ⟨z20, z21, z22⟩ := z2; have X2s : Nx b p w.heap.size (w.heap.size + 1) w _ _ _ [.int .i64 0, .int .i64 0, .int .i64 0, .int .i64 0, .int .i64 0, .int .i64 0, .string ⟨#[]⟩, .string ⟨#[]⟩, .string ⟨#[]⟩, .string ⟨#[]⟩, .string ⟨#[]⟩, .slice none 0 0, .string ⟨#[]⟩, .int .i64 0, .slice none 0 0, .int .i64 0, .int .i64 0, .string ⟨#[]⟩, .string ⟨#[]⟩, .string ⟨#[]⟩, .int .i64 0, .bool false, .int .i64 0, .int .i64 0, .int .i64 0, .string ⟨#[]⟩, .string ⟨#[]⟩, .string ⟨#[]⟩, .slice none 0 0, .string ⟨#[]⟩, .int .i64 0, .int .i64 0, .string ⟨#[]⟩] [.int .i64 8, .int .i64 n1, .int .i64 0, .int .i64 0, .int .i64 0, .int .i64 0, .string ⟨#[]⟩, .string ⟨#[]⟩, .string ⟨#[]⟩, .string ⟨#[]⟩, .string ⟨#[]⟩, .slice none 0 0, .string ⟨#[]⟩, .int .i64 0, .slice none 0 0, .int .i64 0, .int .i64 0, .string ⟨#[]⟩, .string ⟨#[]⟩, .string ⟨#[]⟩, .int .i64 0, .bool false, .int .i64 2, .int .i64 n2, .int .i64 0, .string ⟨#[]⟩, .string ⟨#[]⟩, .string ⟨#[]⟩, .slice none 0 0, .string ⟨#[]⟩, .int .i64 0, .int .i64 0, .string ⟨#[]⟩] := X2.set 23 (.int .i64 n2) (by simp); have X2s := Lib.hid X2s; have e1 := lvAct_row X2s.out.row rfl; have e2 := svAct_row X2s.out.nr.res rfl rfl (vs := [.int .i64 8, .int .i64 n1, .int .i64 0, .int .i64 0, .int .i64 0, .int .i64 0, .string ⟨#[]⟩, .string ⟨#[]⟩, .string ⟨#[]⟩, .string ⟨#[]⟩, .string ⟨#[]⟩, .slice none 0 0, .string ⟨#[]⟩, .int .i64 0, .slice none 0 0, .int .i64 0, .int .i64 0, .string ⟨#[]⟩, .string ⟨#[]⟩, .string ⟨#[]⟩, .int .i64 0, .bool false, .int .i64 2, .int .i64 n2, .int .i64 0, .string ⟨#[]⟩, .string ⟨#[]⟩, .string ⟨#[]⟩, .slice none 0 0, .string ⟨#[]⟩, .int .i64 0, .int .i64 0, .string ⟨#[]⟩]) (by simp [Value.oneCell']); clear m2 k2 X2))
  have XR := X2s.out.nr.sets (cs := [.int .i64 8, .int .i64 n1, .int .i64 0, .int .i64 0, .int .i64 0, .int .i64 0, .string ⟨#[]⟩, .string ⟨#[]⟩, .string ⟨#[]⟩, .string ⟨#[]⟩, .string ⟨#[]⟩, .slice none 0 0, .string ⟨#[]⟩, .int .i64 0, .slice none 0 0, .int .i64 0, .int .i64 0, .string ⟨#[]⟩, .string ⟨#[]⟩, .string ⟨#[]⟩, .int .i64 0, .bool false, .int .i64 2, .int .i64 n2, .int .i64 0, .string ⟨#[]⟩, .string ⟨#[]⟩, .string ⟨#[]⟩, .slice none 0 0, .string ⟨#[]⟩, .int .i64 0, .int .i64 0, .string ⟨#[]⟩]) rfl
  refine bodyPost_ret (results_cell rfl _ rfl (lv_row (T := 43) Tryz.underlying43 (by kernel_rfl) XR.res rfl)) rfl ?_
  exact ⟨XR.kw, _, rfl, actN_plain HB.out rfl rfl rfl, XR.ds⟩
set_option maxHeartbeats 4000000 in
theorem actN_remove (f : ByteArray) (W : Ws) (d : Bool) (W0 : Ws) (d0 : Bool) (q0 : wordD W d = (f, W0, d0)) (h0 : eqS f b_tick = false) (h1 : eqS f b_world = false) (h2 : eqS f b_start = false) (h3 : eqS f b_deliver = false) (h4 : eqS f b_drop = false) (h5 : eqS f b_double = false) (h6 : eqS f b_ask = false) (h7 : eqS f b_read = false) (h8 : eqS f b_learner = false) (h9 : eqS f b_voter = false) (h : eqS f b_remove = true) (b p : Nat) (w : World) (hl : LnS w b p W d) : Calls Tryz.prog 21 #[.pointer (some ⟨b, 0, none⟩)] w (RdN b p w (ActN b w.heap.size) (actD W d)) := by
  obtain ⟨n1, W1, d1, q1⟩ : ∃ a c e, numD W0 d0 = (a, c, e) := ⟨_, _, _, rfl⟩
  have H1 := Lib.hid (lnum_at (b := b) (p := p) q1)
  obtain ⟨n2, W2, d2, q2⟩ : ∃ a c e, numD W1 d1 = (a, c, e) := ⟨_, _, _, rfl⟩
  have H2 := Lib.hid (lnum_at (b := b) (p := p) q2)
  have e : actD W d = ({ zAct with kind := 8, node := n1, cn := n2, ck := 3 }, W2, d2) := by simp [actD, threeD, chgD, bindD, q0, q1, q2, h0, h1, h2, h3, h4, h5, h6, h7, h8, h9, h]
  rw [e]
  have H0 := Lib.hid (lword_at (b := b) (p := p) q0)
  have ih0 := eqS_as h0
  unfold b_tick at ih0
  simp only at ih0
  have ih1 := eqS_as h1
  unfold b_world at ih1
  simp only at ih1
  have ih2 := eqS_as h2
  unfold b_start at ih2
  simp only at ih2
  have ih3 := eqS_as h3
  unfold b_deliver at ih3
  simp only at ih3
  have ih4 := eqS_as h4
  unfold b_drop at ih4
  simp only at ih4
  have ih5 := eqS_as h5
  unfold b_double at ih5
  simp only at ih5
  have ih6 := eqS_as h6
  unfold b_ask at ih6
  simp only at ih6
  have ih7 := eqS_as h7
  unfold b_read at ih7
  simp only at ih7
  have ih8 := eqS_as h8
  unfold b_learner at ih8
  simp only at ih8
  have ih9 := eqS_as h9
  unfold b_voter at ih9
  simp only at ih9
  have ih := eqS_as h
  unfold b_remove at ih
  simp only at ih
  have HX0 := Lib.hid (Nx.start2 hl [.int .i64 0, .int .i64 0, .int .i64 0, .int .i64 0, .int .i64 0, .int .i64 0, .string ⟨#[]⟩, .string ⟨#[]⟩, .string ⟨#[]⟩, .string ⟨#[]⟩, .string ⟨#[]⟩, .slice none 0 0, .string ⟨#[]⟩, .int .i64 0, .slice none 0 0, .int .i64 0, .int .i64 0, .string ⟨#[]⟩, .string ⟨#[]⟩, .string ⟨#[]⟩, .int .i64 0, .bool false, .int .i64 0, .int .i64 0, .int .i64 0, .string ⟨#[]⟩, .string ⟨#[]⟩, .string ⟨#[]⟩, .slice none 0 0, .string ⟨#[]⟩, .int .i64 0, .int .i64 0, .string ⟨#[]⟩] [.int .i64 0, .int .i64 0, .int .i64 0, .int .i64 0, .int .i64 0, .int .i64 0, .string ⟨#[]⟩, .string ⟨#[]⟩, .string ⟨#[]⟩, .string ⟨#[]⟩, .string ⟨#[]⟩, .slice none 0 0, .string ⟨#[]⟩, .int .i64 0, .slice none 0 0, .int .i64 0, .int .i64 0, .string ⟨#[]⟩, .string ⟨#[]⟩, .string ⟨#[]⟩, .int .i64 0, .bool false, .int .i64 0, .int .i64 0, .int .i64 0, .string ⟨#[]⟩, .string ⟨#[]⟩, .string ⟨#[]⟩, .slice none 0 0, .string ⟨#[]⟩, .int .i64 0, .int .i64 0, .string ⟨#[]⟩] 43 43)
  have hb := hl.lt
  have HB := Lib.hid hb
  clear e hl q0 q1 q2 h0 h1 h2 h3 h4 h5 h6 h7 h8 h9 h
  go_enter Tryz.func21, Tryz.ntmps21
  go_wp2_with (first
    | (go_at_call 32; with_reducible refine (H0.out _ HX0.out.nr.ds).mono ?_; rintro e w0 ⟨rfl, g0, l0, k0⟩; have X1 := HX0.out.call k0 l0; obtain ⟨ca0, fa0⟩ := X1.cf 0 (by simp); obtain ⟨cc0, fc0⟩ := X1.cf 22 (by simp); have hxb := X1.xb; have hbx := X1.bx; have z0 := X1.lt; obtain ⟨z00, z01, z02⟩ := z0; have X0s : Nx b p w.heap.size (w.heap.size + 1) w _ _ _ [.int .i64 0, .int .i64 0, .int .i64 0, .int .i64 0, .int .i64 0, .int .i64 0, .string ⟨#[]⟩, .string ⟨#[]⟩, .string ⟨#[]⟩, .string ⟨#[]⟩, .string ⟨#[]⟩, .slice none 0 0, .string ⟨#[]⟩, .int .i64 0, .slice none 0 0, .int .i64 0, .int .i64 0, .string ⟨#[]⟩, .string ⟨#[]⟩, .string ⟨#[]⟩, .int .i64 0, .bool false, .int .i64 0, .int .i64 0, .int .i64 0, .string ⟨#[]⟩, .string ⟨#[]⟩, .string ⟨#[]⟩, .slice none 0 0, .string ⟨#[]⟩, .int .i64 0, .int .i64 0, .string ⟨#[]⟩] [.int .i64 8, .int .i64 0, .int .i64 0, .int .i64 0, .int .i64 0, .int .i64 0, .string ⟨#[]⟩, .string ⟨#[]⟩, .string ⟨#[]⟩, .string ⟨#[]⟩, .string ⟨#[]⟩, .slice none 0 0, .string ⟨#[]⟩, .int .i64 0, .slice none 0 0, .int .i64 0, .int .i64 0, .string ⟨#[]⟩, .string ⟨#[]⟩, .string ⟨#[]⟩, .int .i64 0, .bool false, .int .i64 3, .int .i64 0, .int .i64 0, .string ⟨#[]⟩, .string ⟨#[]⟩, .string ⟨#[]⟩, .slice none 0 0, .string ⟨#[]⟩, .int .i64 0, .int .i64 0, .string ⟨#[]⟩] := (X1.set 22 (.int .i64 3) (by simp)).set 0 (.int .i64 8) (by simp); have X0s := Lib.hid X0s; clear l0 k0 X1)
    | (go_at_call 33; with_reducible refine (H1.out _ X0s.out.nr.ds).mono ?_; rintro e w1 ⟨rfl, m1, k1⟩; have X1 := X0s.out.call k1 m1; obtain ⟨ca1, fa1⟩ := X1.cf 1 (by simp); obtain ⟨cc1, fc1⟩ := X1.cf 22 (by simp); have z1 := X1.lt; obtain ⟨z10, z11, z12⟩ := z1; have X1s : Nx b p w.heap.size (w.heap.size + 1) w _ _ _ [.int .i64 0, .int .i64 0, .int .i64 0, .int .i64 0, .int .i64 0, .int .i64 0, .string ⟨#[]⟩, .string ⟨#[]⟩, .string ⟨#[]⟩, .string ⟨#[]⟩, .string ⟨#[]⟩, .slice none 0 0, .string ⟨#[]⟩, .int .i64 0, .slice none 0 0, .int .i64 0, .int .i64 0, .string ⟨#[]⟩, .string ⟨#[]⟩, .string ⟨#[]⟩, .int .i64 0, .bool false, .int .i64 0, .int .i64 0, .int .i64 0, .string ⟨#[]⟩, .string ⟨#[]⟩, .string ⟨#[]⟩, .slice none 0 0, .string ⟨#[]⟩, .int .i64 0, .int .i64 0, .string ⟨#[]⟩] [.int .i64 8, .int .i64 n1, .int .i64 0, .int .i64 0, .int .i64 0, .int .i64 0, .string ⟨#[]⟩, .string ⟨#[]⟩, .string ⟨#[]⟩, .string ⟨#[]⟩, .string ⟨#[]⟩, .slice none 0 0, .string ⟨#[]⟩, .int .i64 0, .slice none 0 0, .int .i64 0, .int .i64 0, .string ⟨#[]⟩, .string ⟨#[]⟩, .string ⟨#[]⟩, .int .i64 0, .bool false, .int .i64 3, .int .i64 0, .int .i64 0, .string ⟨#[]⟩, .string ⟨#[]⟩, .string ⟨#[]⟩, .slice none 0 0, .string ⟨#[]⟩, .int .i64 0, .int .i64 0, .string ⟨#[]⟩] := X1.set 1 (.int .i64 n1) (by simp); have X1s := Lib.hid X1s; clear m1 k1 X1)
    | (go_at_call 33; with_reducible refine (H2.out _ X1s.out.nr.ds).mono ?_; rintro e w2 ⟨rfl, m2, k2⟩; have X2 := X1s.out.call k2 m2; obtain ⟨ca2, fa2⟩ := X2.cf 23 (by simp); obtain ⟨cc2, fc2⟩ := X2.cf 22 (by simp); have z2 := X2.lt; obtain ⟨z20, z21, z22⟩ := z2; have X2s : Nx b p w.heap.size (w.heap.size + 1) w _ _ _ [.int .i64 0, .int .i64 0, .int .i64 0, .int .i64 0, .int .i64 0, .int .i64 0, .string ⟨#[]⟩, .string ⟨#[]⟩, .string ⟨#[]⟩, .string ⟨#[]⟩, .string ⟨#[]⟩, .slice none 0 0, .string ⟨#[]⟩, .int .i64 0, .slice none 0 0, .int .i64 0, .int .i64 0, .string ⟨#[]⟩, .string ⟨#[]⟩, .string ⟨#[]⟩, .int .i64 0, .bool false, .int .i64 0, .int .i64 0, .int .i64 0, .string ⟨#[]⟩, .string ⟨#[]⟩, .string ⟨#[]⟩, .slice none 0 0, .string ⟨#[]⟩, .int .i64 0, .int .i64 0, .string ⟨#[]⟩] [.int .i64 8, .int .i64 n1, .int .i64 0, .int .i64 0, .int .i64 0, .int .i64 0, .string ⟨#[]⟩, .string ⟨#[]⟩, .string ⟨#[]⟩, .string ⟨#[]⟩, .string ⟨#[]⟩, .slice none 0 0, .string ⟨#[]⟩, .int .i64 0, .slice none 0 0, .int .i64 0, .int .i64 0, .string ⟨#[]⟩, .string ⟨#[]⟩, .string ⟨#[]⟩, .int .i64 0, .bool false, .int .i64 3, .int .i64 n2, .int .i64 0, .string ⟨#[]⟩, .string ⟨#[]⟩, .string ⟨#[]⟩, .slice none 0 0, .string ⟨#[]⟩, .int .i64 0, .int .i64 0, .string ⟨#[]⟩] := X2.set 23 (.int .i64 n2) (by simp); have X2s := Lib.hid X2s; have e1 := lvAct_row X2s.out.row rfl; have e2 := svAct_row X2s.out.nr.res rfl rfl (vs := [.int .i64 8, .int .i64 n1, .int .i64 0, .int .i64 0, .int .i64 0, .int .i64 0, .string ⟨#[]⟩, .string ⟨#[]⟩, .string ⟨#[]⟩, .string ⟨#[]⟩, .string ⟨#[]⟩, .slice none 0 0, .string ⟨#[]⟩, .int .i64 0, .slice none 0 0, .int .i64 0, .int .i64 0, .string ⟨#[]⟩, .string ⟨#[]⟩, .string ⟨#[]⟩, .int .i64 0, .bool false, .int .i64 3, .int .i64 n2, .int .i64 0, .string ⟨#[]⟩, .string ⟨#[]⟩, .string ⟨#[]⟩, .slice none 0 0, .string ⟨#[]⟩, .int .i64 0, .int .i64 0, .string ⟨#[]⟩]) (by simp [Value.oneCell']); clear m2 k2 X2))
  have XR := X2s.out.nr.sets (cs := [.int .i64 8, .int .i64 n1, .int .i64 0, .int .i64 0, .int .i64 0, .int .i64 0, .string ⟨#[]⟩, .string ⟨#[]⟩, .string ⟨#[]⟩, .string ⟨#[]⟩, .string ⟨#[]⟩, .slice none 0 0, .string ⟨#[]⟩, .int .i64 0, .slice none 0 0, .int .i64 0, .int .i64 0, .string ⟨#[]⟩, .string ⟨#[]⟩, .string ⟨#[]⟩, .int .i64 0, .bool false, .int .i64 3, .int .i64 n2, .int .i64 0, .string ⟨#[]⟩, .string ⟨#[]⟩, .string ⟨#[]⟩, .slice none 0 0, .string ⟨#[]⟩, .int .i64 0, .int .i64 0, .string ⟨#[]⟩]) rfl
  refine bodyPost_ret (results_cell rfl _ rfl (lv_row (T := 43) Tryz.underlying43 (by kernel_rfl) XR.res rfl)) rfl ?_
  exact ⟨XR.kw, _, rfl, actN_plain HB.out rfl rfl rfl, XR.ds⟩
set_option maxHeartbeats 4000000 in
theorem actN_none (f : ByteArray) (W : Ws) (d : Bool) (W0 : Ws) (d0 : Bool) (q0 : wordD W d = (f, W0, d0)) (h0 : eqS f b_tick = false) (h1 : eqS f b_world = false) (h2 : eqS f b_start = false) (h3 : eqS f b_deliver = false) (h4 : eqS f b_drop = false) (h5 : eqS f b_double = false) (h6 : eqS f b_ask = false) (h7 : eqS f b_read = false) (h8 : eqS f b_learner = false) (h9 : eqS f b_voter = false) (h10 : eqS f b_remove = false) (h11 : eqS f b_lease = false) (h12 : eqS f b_row = false) (h13 : eqS f b_crash = false) (b p : Nat) (w : World) (hl : LnS w b p W d) : Calls Tryz.prog 21 #[.pointer (some ⟨b, 0, none⟩)] w (RdN b p w (ActN b w.heap.size) (actD W d)) := by
  have e : actD W d = (zAct, W0, true) := by simp [actD, threeD, chgD, bindD, q0, h0, h1, h2, h3, h4, h5, h6, h7, h8, h9, h10, h11, h12, h13]
  rw [e]
  have H0 := Lib.hid (lword_at (b := b) (p := p) q0)
  have ih0 := eqS_as h0
  unfold b_tick at ih0
  simp only at ih0
  have ih1 := eqS_as h1
  unfold b_world at ih1
  simp only at ih1
  have ih2 := eqS_as h2
  unfold b_start at ih2
  simp only at ih2
  have ih3 := eqS_as h3
  unfold b_deliver at ih3
  simp only at ih3
  have ih4 := eqS_as h4
  unfold b_drop at ih4
  simp only at ih4
  have ih5 := eqS_as h5
  unfold b_double at ih5
  simp only at ih5
  have ih6 := eqS_as h6
  unfold b_ask at ih6
  simp only at ih6
  have ih7 := eqS_as h7
  unfold b_read at ih7
  simp only at ih7
  have ih8 := eqS_as h8
  unfold b_learner at ih8
  simp only at ih8
  have ih9 := eqS_as h9
  unfold b_voter at ih9
  simp only at ih9
  have ih10 := eqS_as h10
  unfold b_remove at ih10
  simp only at ih10
  have ih11 := eqS_as h11
  unfold b_lease at ih11
  simp only at ih11
  have ih12 := eqS_as h12
  unfold b_row at ih12
  simp only at ih12
  have ih13 := eqS_as h13
  unfold b_crash at ih13
  simp only at ih13
  have HX0 := Lib.hid (Nx.start2 hl [.int .i64 0, .int .i64 0, .int .i64 0, .int .i64 0, .int .i64 0, .int .i64 0, .string ⟨#[]⟩, .string ⟨#[]⟩, .string ⟨#[]⟩, .string ⟨#[]⟩, .string ⟨#[]⟩, .slice none 0 0, .string ⟨#[]⟩, .int .i64 0, .slice none 0 0, .int .i64 0, .int .i64 0, .string ⟨#[]⟩, .string ⟨#[]⟩, .string ⟨#[]⟩, .int .i64 0, .bool false, .int .i64 0, .int .i64 0, .int .i64 0, .string ⟨#[]⟩, .string ⟨#[]⟩, .string ⟨#[]⟩, .slice none 0 0, .string ⟨#[]⟩, .int .i64 0, .int .i64 0, .string ⟨#[]⟩] [.int .i64 0, .int .i64 0, .int .i64 0, .int .i64 0, .int .i64 0, .int .i64 0, .string ⟨#[]⟩, .string ⟨#[]⟩, .string ⟨#[]⟩, .string ⟨#[]⟩, .string ⟨#[]⟩, .slice none 0 0, .string ⟨#[]⟩, .int .i64 0, .slice none 0 0, .int .i64 0, .int .i64 0, .string ⟨#[]⟩, .string ⟨#[]⟩, .string ⟨#[]⟩, .int .i64 0, .bool false, .int .i64 0, .int .i64 0, .int .i64 0, .string ⟨#[]⟩, .string ⟨#[]⟩, .string ⟨#[]⟩, .slice none 0 0, .string ⟨#[]⟩, .int .i64 0, .int .i64 0, .string ⟨#[]⟩] 43 43)
  have hb := hl.lt
  have HB := Lib.hid hb
  clear e hl q0  h0 h1 h2 h3 h4 h5 h6 h7 h8 h9 h10 h11 h12 h13
  go_enter Tryz.func21, Tryz.ntmps21
  go_wp2_with (first
    | (go_at_call 32; with_reducible refine (H0.out _ HX0.out.nr.ds).mono ?_; rintro e w0 ⟨rfl, g0, l0, k0⟩; have X1 := HX0.out.call k0 l0; obtain ⟨ca0, fa0⟩ := X1.cf 0 (by simp); obtain ⟨cc0, fc0⟩ := X1.cf 22 (by simp); have hxb := X1.xb; have hbx := X1.bx; have z0 := X1.lt; obtain ⟨z00, z01, z02⟩ := z0; have y1 := l0.c1; have y2 := l0.f1; have X0s := Lib.hid (X1.bad true); have e1 := lvAct_row X0s.out.row rfl; have e2 := svAct_row X0s.out.nr.res rfl rfl (vs := [.int .i64 0, .int .i64 0, .int .i64 0, .int .i64 0, .int .i64 0, .int .i64 0, .string ⟨#[]⟩, .string ⟨#[]⟩, .string ⟨#[]⟩, .string ⟨#[]⟩, .string ⟨#[]⟩, .slice none 0 0, .string ⟨#[]⟩, .int .i64 0, .slice none 0 0, .int .i64 0, .int .i64 0, .string ⟨#[]⟩, .string ⟨#[]⟩, .string ⟨#[]⟩, .int .i64 0, .bool false, .int .i64 0, .int .i64 0, .int .i64 0, .string ⟨#[]⟩, .string ⟨#[]⟩, .string ⟨#[]⟩, .slice none 0 0, .string ⟨#[]⟩, .int .i64 0, .int .i64 0, .string ⟨#[]⟩]) (by simp [Value.oneCell']); clear l0 k0 X1))
  have XR := X0s.out.nr.sets (cs := [.int .i64 0, .int .i64 0, .int .i64 0, .int .i64 0, .int .i64 0, .int .i64 0, .string ⟨#[]⟩, .string ⟨#[]⟩, .string ⟨#[]⟩, .string ⟨#[]⟩, .string ⟨#[]⟩, .slice none 0 0, .string ⟨#[]⟩, .int .i64 0, .slice none 0 0, .int .i64 0, .int .i64 0, .string ⟨#[]⟩, .string ⟨#[]⟩, .string ⟨#[]⟩, .int .i64 0, .bool false, .int .i64 0, .int .i64 0, .int .i64 0, .string ⟨#[]⟩, .string ⟨#[]⟩, .string ⟨#[]⟩, .slice none 0 0, .string ⟨#[]⟩, .int .i64 0, .int .i64 0, .string ⟨#[]⟩]) rfl
  refine bodyPost_ret (results_cell rfl _ rfl (lv_row (T := 43) Tryz.underlying43 (by kernel_rfl) XR.res rfl)) rfl ?_
  exact ⟨XR.kw, _, rfl, actN_plain HB.out rfl rfl rfl, XR.ds⟩
end Go.Proofs.YtbdanlipghhgpaaGreatDoor

