/- Contracts of the program, part 14. -/
import Derived.Deep.Onto
import Derived.LaidEqlPtr
import Derived.OwnWalk
import Derived.Laws.AppendOwn
import Derived.ProofKit
import Derived.OpenShut
import Derived.Deep.Slices
import Derived.ChangeOld
import Derived.SizedLaws
import Derived.WalkKit
import Derived.WalkSpells
import Derived.WalkLawsBesides
import Derived.Lib.Hide
import Derived.Deep.QuietTactic
import Derived.BigQuiet
import Derived.Below
import Derived.Deep.Draws
import Derived.StillTailTactics
import Derived.Laws.Cells
import Derived.Laws.IdiomCopy
import Derived.Test.YtiadkchlkdaceaaRows
import Derived.Lib.Bytealg
import Derived.IntWalk
import Derived.ShutString
import Derived.Shelf.SlSortCmp.WholeK
import Derived.Lib.SliceRun
import Derived.Deep.AppendLies
import Derived.Deep.Upon
import Derived.OneCell
import Derived.Deep.DeepMust
import Derived.Deep.RegionLaw
import Derived.Deep.RegionHeld3
import Derived.Shelf.RegionOpen
import Derived.Sort.BigQuietIn
import Derived.RangeFuncNested
import Derived.RangeFuncBound
import Derived.RangeFuncCalls
import Derived.RangeFuncLeaves
import Derived.Shelf.Abstract
import Derived.OwnWalkIn
import Derived.TacticsInMore
import Derived.LoopNIn
import Derived.LoopIn
import Derived.Sort.QuietTacIn
import Derived.NoCompiler
import Derived.OrdersHeld
import Derived.Lib.Walk
import Derived.Test.YtiadkchlkdaceaaPartN1
import Derived.Test.YtiadkchlkdaceaaPartN2
import Derived.Test.YtiadkchlkdaceaaPartN3
import Derived.Test.YtiadkchlkdaceaaPartN4
import Derived.Test.YtiadkchlkdaceaaPartN5
import Derived.Test.YtiadkchlkdaceaaPartN6
import Derived.Test.YtiadkchlkdaceaaPartN7
import Derived.Test.YtiadkchlkdaceaaPartN8
import Derived.Test.YtiadkchlkdaceaaPartN9
import Derived.Test.YtiadkchlkdaceaaPartN10
import Derived.Test.YtiadkchlkdaceaaPartN11
import Derived.Test.YtiadkchlkdaceaaPartN12
import Derived.Test.YtiadkchlkdaceaaPartN13
namespace Go.Proofs.Ytiadkchlkdaceaa
open Go.RowKit Go.Deep
set_option maxRecDepth 100000
set_option linter.unusedVariables false
theorem do_nil (x : ROp) (A : Option Addr) (cap : Nat) (w : World) :
    Calls Try.prog 9 #[.pointer none, .agg #[.int .i64 x.kind, .string x.role, .string x.schema, .string x.table, .slice A x.row.length cap, .string x.col, .int .i64 x.v.kind, .int .i64 x.v.int, .string x.v.text]] w fun e w' => e = .returned (.tuple #[.slice none 0 0, .int .i64 3]) ∧ Aft w w' := by
  go_enter Try.func9, Try.ntmps9
  go_wp2_with fail
  go_ret2
  exact ⟨rfl, (Aft.refl _).alloc _⟩
end Go.Proofs.Ytiadkchlkdaceaa

namespace Go.Proofs.Ytiadkchlkdaceaa
open Go.RowKit Go.Deep
set_option maxRecDepth 100000
set_option linter.unusedVariables false
theorem dump_nil (w : World) : Calls Try.prog 10 #[.pointer none] w fun e w' => e = .returned (.slice none 0 0) ∧ w = w' := by
  go_enter Try.func10, Try.ntmps10
  go_wp2_with fail
  go_ret
  exact ⟨rfl, rfl⟩
theorem load_nil (v : Value) (w : World) (hv : ∃ a b, v = .agg #[a, b]) : Calls Try.prog 7 #[.pointer none, v] w fun e w' => e = .returned (.int .i64 3) ∧ Aft w w' := by
  obtain ⟨a, b, rfl⟩ := hv
  go_enter Try.func7, Try.ntmps7
  go_wp2_with fail
  go_ret
  exact ⟨rfl, (Aft.refl _).alloc _⟩
end Go.Proofs.Ytiadkchlkdaceaa

namespace Go.Proofs.Ytiadkchlkdaceaa
open Go.RowKit Go.Deep
set_option maxRecDepth 100000
set_option linter.unusedVariables false
set_option maxHeartbeats 8000000 in
theorem law_snil (o : Objs) (As : Option Addr) (caps : Nat) (At : Option Addr) (capt : Nat) (x : ROp) (A : Option Addr) (cap : Nat) (w : World) (hsch : SlAt w 2 SchR As caps o.schemas) (htab : SlAt w 5 TabR At capt o.tables) :
    Calls Try.prog 4 #[.agg #[.slice As o.schemas.length caps, .slice At o.tables.length capt], .agg #[.int .i64 x.kind, .string x.role, .string x.schema, .string x.table, .slice A x.row.length cap, .string x.col, .int .i64 x.v.kind, .int .i64 x.v.int, .string x.v.text]] w fun e w' => e = .returned (.bool true) ∧ Aft w w' := by
  have CL := Lib.hid (show ∀ V, Aft w V → Calls Try.prog 5 #[.agg #[.int .i64 0, .int .i64 0, .slice As o.schemas.length caps, .slice At o.tables.length capt, .slice none 0 0, .slice none 0 0, .slice none 0 0]] V (LargeP V o) from fun V a => large12 o As caps At capt V (schs_aft a hsch) (tabs_aft a htab))
  obtain ⟨W, hW⟩ : ∃ W, W = (w.alloc (.cells #[.slice As o.schemas.length caps, .slice At o.tables.length capt] 25)).alloc (.cells #[.int .i64 x.kind, .string x.role, .string x.schema, .string x.table, .slice A x.row.length cap, .string x.col, .int .i64 x.v.kind, .int .i64 x.v.int, .string x.v.text] 46) := ⟨_, rfl⟩
  have aW : Aft w W := by rw [hW]; exact ((Aft.refl w).alloc _).alloc _
  have r0 : RowAt W w.heap.size [.slice As o.schemas.length caps, .slice At o.tables.length capt] := by rw [hW]; exact (box_row2 (Aft.refl _)).aft ((Aft.refl _).alloc _)
  have r1 : RowAt W (w.heap.size + 1) [.int .i64 x.kind, .string x.role, .string x.schema, .string x.table, .slice A x.row.length cap, .string x.col, .int .i64 x.v.kind, .int .i64 x.v.int, .string x.v.text] := by
    rw [hW]
    have := box_row2 (w := w.alloc (.cells #[.slice As o.schemas.length caps, .slice At o.tables.length capt] 25)) (c := [.int .i64 x.kind, .string x.role, .string x.schema, .string x.table, .slice A x.row.length cap, .string x.col, .int .i64 x.v.kind, .int .i64 x.v.int, .string x.v.text]) (t := 46) (Aft.refl _)
    simpa using this
  have HAW := Lib.hid aW
  have KF := Lib.hid (show ∀ V, Aft W V → (V.cell? ⟨w.heap.size, 0, none⟩ = some (.slice As o.schemas.length caps) ∧ V.cell? ⟨w.heap.size, 1, none⟩ = some (.slice At o.tables.length capt) ∧ w.heap.size < V.heap.size) from fun V a => by
    have r := r0.aft a
    exact ⟨r.cell (j := 0) rfl, r.cell (j := 1) rfl, r.1⟩)
  have KX := Lib.hid (show ∀ V, Aft W V → (V.cell? ⟨w.heap.size + 1, 0, none⟩ = some (.int .i64 x.kind) ∧ V.cell? ⟨w.heap.size + 1, 1, none⟩ = some (.string x.role) ∧ V.cell? ⟨w.heap.size + 1, 2, none⟩ = some (.string x.schema) ∧ V.cell? ⟨w.heap.size + 1, 3, none⟩ = some (.string x.table) ∧ V.cell? ⟨w.heap.size + 1, 4, none⟩ = some (.slice A x.row.length cap) ∧ V.cell? ⟨w.heap.size + 1, 5, none⟩ = some (.string x.col) ∧ V.cell? ⟨w.heap.size + 1, 6, none⟩ = some (.int .i64 x.v.kind) ∧ V.cell? ⟨w.heap.size + 1, 7, none⟩ = some (.int .i64 x.v.int) ∧ V.cell? ⟨w.heap.size + 1, 8, none⟩ = some (.string x.v.text) ∧ w.heap.size + 1 < V.heap.size) from fun V a => by
    have r := r1.aft a
    exact ⟨r.cell (j := 0) rfl, r.cell (j := 1) rfl, r.cell (j := 2) rfl, r.cell (j := 3) rfl, r.cell (j := 4) rfl, r.cell (j := 5) rfl, r.cell (j := 6) rfl, r.cell (j := 7) rfl, r.cell (j := 8) rfl, r.1⟩)
  have lw := Nat.lt_succ_self w.heap.size
  clear aW r0 r1 hsch htab
  go_enter Try.func4, Try.ntmps4
  go_wp2_with fail
  rw [← hW]
  clear hW
  obtain ⟨a0, a1, az⟩ := KF.out W (Aft.refl W)
  go_wp2_with fail
  refine (CL.out W HAW.out).mono ?_
  rintro e X ⟨b, rfl, _, aX⟩
  have HWX := Lib.hid aX
  obtain ⟨c0, c1, c2, c3, c4, c5, c6, c7, c8, cz⟩ := KX.out X aX
  clear a0 a1 az CL aX
  cases b
  · by_cases hr : (1000 : Int) < (x.row.length : Int)
    · go_wp2_with fail
      go_ret
      exact ⟨rfl, HAW.out.trans HWX.out⟩
    · go_wp2_with fail
      refine (do_nil x A cap X).mono ?_
      rintro e Y ⟨rfl, aY⟩
      have HXY := Lib.hid (HWX.out.trans aY)
      clear c0 c1 c2 c3 c4 c5 c6 c7 c8 cz aY
      go_wp2_with fail
      refine (awake12 Y).mono ?_
      rintro e Z ⟨rfl, aZ⟩
      have HXZ := Lib.hid (HXY.out.trans aZ)
      obtain ⟨a0, a1, az⟩ := KF.out Z HXZ.out
      clear aZ
      go_wp2_with fail
      refine (load_nil _ Z ⟨_, _, rfl⟩).mono ?_
      rintro e U ⟨rfl, aU⟩
      have HXU := Lib.hid (HXZ.out.trans aU)
      clear a0 a1 az aU
      go_wp2_with fail
      refine (dump_nil U).mono ?_
      rintro e U2 ⟨rfl, rfl⟩
      go_wp2_with fail
      go_ret
      exact ⟨rfl, HAW.out.trans HXU.out⟩
  · go_wp2_with fail
    go_ret
    exact ⟨rfl, HAW.out.trans HWX.out⟩
end Go.Proofs.Ytiadkchlkdaceaa

