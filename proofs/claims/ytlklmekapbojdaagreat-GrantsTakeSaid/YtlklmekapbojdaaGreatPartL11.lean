/- Contracts of the program, part 11. -/
import Derived.ProofKit
import Derived.OpenShut
import Derived.Deep.Slices
import Derived.ChangeOld
import Derived.SizedLaws
import Derived.WalkKit
import Derived.WalkSpells
import Derived.WalkLawsBesides
import Derived.Lib.Hide
import Derived.Deep.QuietTactic
import Derived.BigQuiet
import Derived.Below
import Derived.Deep.Draws
import Derived.StillTailTactics
import Derived.Laws.Cells
import Derived.Laws.IdiomCopy
import Derived.Test.YtlklmekapbojdaaGreatRows
import Derived.ShutString
import Derived.Deep.AppendLies
import Derived.Deep.Upon
import Derived.OneCell
import Derived.OwnWalk
import Derived.Laws.AppendOwn
import Derived.Deep.DeepMust
import Derived.Lib.Walk
import Derived.Laws.EntriesVeiled
import Derived.Maps.Own
import Derived.Maps.Views
import Derived.OrdersHeld
import Derived.Deep.RegionHeld3
import Derived.IntWalk
import Derived.Lib.Bytealg
import Derived.Lib.SliceRun
import Derived.Deep.RegionLaw
import Derived.Lib.AppendZerosOnto
import Derived.Lib.Overlaps
import Derived.Shelf.SlSortCmp.WholeK
import Derived.Test.YtlklmekapbojdaaGreatPartL1
import Derived.Test.YtlklmekapbojdaaGreatPartL2
import Derived.Test.YtlklmekapbojdaaGreatPartL3
import Derived.Test.YtlklmekapbojdaaGreatPartL4
import Derived.Test.YtlklmekapbojdaaGreatPartL5
import Derived.Test.YtlklmekapbojdaaGreatPartL6
import Derived.Test.YtlklmekapbojdaaGreatPartL7
import Derived.Test.YtlklmekapbojdaaGreatPartL10
namespace Go.Proofs.YtlklmekapbojdaaGreat
open Go.ChangeShapes Go.WideShapes Go.ChangeAt Go.RowKit
set_option maxRecDepth 100000
set_option linter.unusedVariables false
section
variable {H : Type} {enc : TypeId × Value → H} {w : World}
theorem rd_str {cs : List Value} (h : Rd enc Tryz.prog w 9 cs) : ∃ x, StrR w cs x := by
  obtain ⟨s, e, z⟩ := h.string Tryz.underlying9
  exact ⟨s, e, z⟩
theorem rd_strs {cs : List Value} (h : Rd enc Tryz.prog w 60 cs) : ∃ l, SlOf w 1 StrR cs l :=
  Rd.slice Tryz.underlying60 (by kernel_rfl : Tryz.prog.cellsOf 9 = 1) (by decide) (of_decide_eq_true (by kernel_rfl)) (fun _ h => rd_str h) h
theorem rd_col {cs : List Value} (h : Rd enc Tryz.prog w 106 cs) : ∃ x, ColR w cs x := by
  obtain ⟨hl, _⟩ := h.struct Tryz.underlying106
  rw [show Tryz.prog.cellsOf 106 = 3 by kernel_rfl] at hl
  match cs, hl with
  | [c0, c1, c2], _ =>
    have f0 := h.field Tryz.underlying106 0 9 0 1 rfl (by kernel_rfl)
    have f1 := h.field Tryz.underlying106 1 35 1 1 rfl (by kernel_rfl)
    have f2 := h.field Tryz.underlying106 2 4 2 1 rfl (by kernel_rfl)
    clear h
    obtain ⟨x0, e0, z0⟩ := f0.string Tryz.underlying9
    obtain ⟨x1, e1, _⟩ := f1.int Tryz.underlying35
    obtain ⟨x2, e2⟩ := f2.bool Tryz.underlying4
    simp at e0 e1 e2
    subst e0 e1 e2
    exact ⟨⟨x0, x1, x2⟩, rfl, z0⟩
theorem rd_cols {cs : List Value} (h : Rd enc Tryz.prog w 86 cs) : ∃ l, SlOf w 3 ColR cs l :=
  Rd.slice Tryz.underlying86 (by kernel_rfl : Tryz.prog.cellsOf 106 = 3) (by decide) (of_decide_eq_true (by kernel_rfl)) (fun _ h => rd_col h) h
theorem rd_rule {cs : List Value} (h : Rd enc Tryz.prog w 121 cs) : ∃ x, RulR w cs x := by
  obtain ⟨hl, _⟩ := h.struct Tryz.underlying121
  rw [show Tryz.prog.cellsOf 121 = 8 by kernel_rfl] at hl
  match cs, hl with
  | [c0, c1, c2, c3, c4, c5, c6, c7], _ =>
    have f0 := h.field Tryz.underlying121 0 9 0 1 rfl (by kernel_rfl)
    have f1 := h.field Tryz.underlying121 1 119 1 1 rfl (by kernel_rfl)
    have f2 := h.field Tryz.underlying121 2 60 2 1 rfl (by kernel_rfl)
    have f3 := h.field Tryz.underlying121 3 3 3 1 rfl (by kernel_rfl)
    have f4 := h.field Tryz.underlying121 4 3 4 1 rfl (by kernel_rfl)
    have f5 := h.field Tryz.underlying121 5 9 5 1 rfl (by kernel_rfl)
    have f6 := h.field Tryz.underlying121 6 9 6 1 rfl (by kernel_rfl)
    have f7 := h.field Tryz.underlying121 7 9 7 1 rfl (by kernel_rfl)
    clear h
    obtain ⟨x0, e0, z0⟩ := f0.string Tryz.underlying9
    obtain ⟨x1, e1, _⟩ := f1.int Tryz.underlying119
    obtain ⟨x2, A2, cap2, e2, z2⟩ := rd_strs f2
    obtain ⟨x3, e3, _⟩ := f3.int Tryz.underlying3
    obtain ⟨x4, e4, _⟩ := f4.int Tryz.underlying3
    obtain ⟨x5, e5, z5⟩ := f5.string Tryz.underlying9
    obtain ⟨x6, e6, z6⟩ := f6.string Tryz.underlying9
    obtain ⟨x7, e7, z7⟩ := f7.string Tryz.underlying9
    simp at e0 e1 e2 e3 e4 e5 e6 e7
    subst e0 e1 e2 e3 e4 e5 e6 e7
    exact ⟨⟨x0, x1, x2, x3, x4, x5, x6, x7⟩, A2, cap2, rfl, z2, z0, z5, z6, z7⟩
theorem rd_rules {cs : List Value} (h : Rd enc Tryz.prog w 87 cs) : ∃ l, SlOf w 8 RulR cs l :=
  Rd.slice Tryz.underlying87 (by kernel_rfl : Tryz.prog.cellsOf 121 = 8) (by decide) (of_decide_eq_true (by kernel_rfl)) (fun _ h => rd_rule h) h
theorem rd_tab {cs : List Value} (h : Rd enc Tryz.prog w 89 cs) : ∃ x, TabR w cs x := by
  obtain ⟨hl, _⟩ := h.struct Tryz.underlying89
  rw [show Tryz.prog.cellsOf 89 = 5 by kernel_rfl] at hl
  match cs, hl with
  | [c0, c1, c2, c3, c4], _ =>
    have f0 := h.field Tryz.underlying89 0 9 0 1 rfl (by kernel_rfl)
    have f1 := h.field Tryz.underlying89 1 9 1 1 rfl (by kernel_rfl)
    have f2 := h.field Tryz.underlying89 2 9 2 1 rfl (by kernel_rfl)
    have f3 := h.field Tryz.underlying89 3 86 3 1 rfl (by kernel_rfl)
    have f4 := h.field Tryz.underlying89 4 87 4 1 rfl (by kernel_rfl)
    clear h
    obtain ⟨x0, e0, z0⟩ := f0.string Tryz.underlying9
    obtain ⟨x1, e1, z1⟩ := f1.string Tryz.underlying9
    obtain ⟨x2, e2, z2⟩ := f2.string Tryz.underlying9
    obtain ⟨x3, A3, cap3, e3, z3⟩ := rd_cols f3
    obtain ⟨x4, A4, cap4, e4, z4⟩ := rd_rules f4
    simp at e0 e1 e2 e3 e4
    subst e0 e1 e2 e3 e4
    exact ⟨⟨x0, x1, x2, x3, x4⟩, A3, cap3, A4, cap4, rfl, z3, z4, z0, z1, z2⟩
theorem rd_tabs {cs : List Value} (h : Rd enc Tryz.prog w 27 cs) : ∃ l, SlOf w 5 TabR cs l :=
  Rd.slice Tryz.underlying27 (by kernel_rfl : Tryz.prog.cellsOf 89 = 5) (by decide) (of_decide_eq_true (by kernel_rfl)) (fun _ h => rd_tab h) h
theorem rd_sch {cs : List Value} (h : Rd enc Tryz.prog w 101 cs) : ∃ x, SchR w cs x := by
  obtain ⟨hl, _⟩ := h.struct Tryz.underlying101
  rw [show Tryz.prog.cellsOf 101 = 2 by kernel_rfl] at hl
  match cs, hl with
  | [c0, c1], _ =>
    have f0 := h.field Tryz.underlying101 0 9 0 1 rfl (by kernel_rfl)
    have f1 := h.field Tryz.underlying101 1 9 1 1 rfl (by kernel_rfl)
    clear h
    obtain ⟨x0, e0, z0⟩ := f0.string Tryz.underlying9
    obtain ⟨x1, e1, z1⟩ := f1.string Tryz.underlying9
    simp at e0 e1
    subst e0 e1
    exact ⟨⟨x0, x1⟩, rfl, z0, z1⟩
theorem rd_schs {cs : List Value} (h : Rd enc Tryz.prog w 26 cs) : ∃ l, SlOf w 2 SchR cs l :=
  Rd.slice Tryz.underlying26 (by kernel_rfl : Tryz.prog.cellsOf 101 = 2) (by decide) (of_decide_eq_true (by kernel_rfl)) (fun _ h => rd_sch h) h
theorem rd_objs {cs : List Value} (h : Rd enc Tryz.prog w 29 cs) : ∃ x, ObjR w cs x := by
  obtain ⟨hl, _⟩ := h.struct Tryz.underlying29
  rw [show Tryz.prog.cellsOf 29 = 2 by kernel_rfl] at hl
  match cs, hl with
  | [c0, c1], _ =>
    have f0 := h.field Tryz.underlying29 0 26 0 1 rfl (by kernel_rfl)
    have f1 := h.field Tryz.underlying29 1 27 1 1 rfl (by kernel_rfl)
    clear h
    obtain ⟨x0, A0, cap0, e0, z0⟩ := rd_schs f0
    obtain ⟨x1, A1, cap1, e1, z1⟩ := rd_tabs f1
    simp at e0 e1
    subst e0 e1
    exact ⟨⟨x0, x1⟩, A0, cap0, A1, cap1, rfl, z0, z1⟩
theorem own_knob : ownKnob Tryz.prog.godebug = none := by kernel_rfl
theorem laid_out : laidOutB Tryz.prog = true := by kernel_rfl
end
end Go.Proofs.YtlklmekapbojdaaGreat

namespace Go.Proofs.YtlklmekapbojdaaGreat
open Go.ChangeShapes Go.WideShapes Go.ChangeAt Go.RowKit
set_option maxRecDepth 100000
set_option linter.unusedVariables false
section
variable {H : Type} {enc : TypeId × Value → H} {w : World}
theorem rd_mbr {cs : List Value} (h : Rd enc Tryz.prog w 176 cs) : ∃ x, MbrR w cs x := by
  obtain ⟨hl, _⟩ := h.struct Tryz.underlying176
  rw [show Tryz.prog.cellsOf 176 = 2 by kernel_rfl] at hl
  match cs, hl with
  | [c0, c1], _ =>
    have f0 := h.field Tryz.underlying176 0 9 0 1 rfl (by kernel_rfl)
    have f1 := h.field Tryz.underlying176 1 9 1 1 rfl (by kernel_rfl)
    clear h
    obtain ⟨x0, e0, z0⟩ := rd_str f0
    obtain ⟨x1, e1, z1⟩ := rd_str f1
    simp at e0 e1
    subst e0 e1
    exact ⟨⟨x0, x1⟩, rfl, z0, z1⟩
theorem rd_mbrs {cs : List Value} (h : Rd enc Tryz.prog w 61 cs) : ∃ l, SlOf w 2 MbrR cs l :=
  Rd.slice Tryz.underlying61 (by kernel_rfl : Tryz.prog.cellsOf 176 = 2) (by decide) (of_decide_eq_true (by kernel_rfl)) (fun _ h => rd_mbr h) h
theorem rd_rols {cs : List Value} (h : Rd enc Tryz.prog w 63 cs) : ∃ (x : Rls) (A : Option Addr) (cap : Nat) (B : Option Addr) (capB : Nat), cs = [.slice A x.names.length cap, .slice B x.members.length capB] ∧ SlAt w 1 StrR A cap x.names ∧ SlAt w 2 MbrR B capB x.members := by
  obtain ⟨hl, _⟩ := h.struct Tryz.underlying63
  rw [show Tryz.prog.cellsOf 63 = 2 by kernel_rfl] at hl
  match cs, hl with
  | [c0, c1], _ =>
    have f0 := h.field Tryz.underlying63 0 60 0 1 rfl (by kernel_rfl)
    have f1 := h.field Tryz.underlying63 1 61 1 1 rfl (by kernel_rfl)
    clear h
    obtain ⟨x0, A0, cap0, e0, z0⟩ := rd_strs f0
    obtain ⟨x1, A1, cap1, e1, z1⟩ := rd_mbrs f1
    simp at e0 e1
    subst e0 e1
    exact ⟨⟨x0, x1⟩, A0, cap0, A1, cap1, rfl, z0, z1⟩
end
end Go.Proofs.YtlklmekapbojdaaGreat

namespace Go.Proofs.YtlklmekapbojdaaGreat
open Go.ChangeShapes Go.WideShapes Go.ChangeAt Go.RowKit
set_option maxRecDepth 100000
set_option linter.unusedVariables false
section
variable {H : Type} {enc : TypeId × Value → H} {w : World}
theorem rd_gra {cs : List Value} (h : Rd enc Tryz.prog w 76 cs) : ∃ x, GraR w cs x := by
  obtain ⟨hl, _⟩ := h.struct Tryz.underlying76
  rw [show Tryz.prog.cellsOf 76 = 6 by kernel_rfl] at hl
  match cs, hl with
  | [c0, c1, c2, c3, c4, c5], _ =>
    have f0 := h.field Tryz.underlying76 0 9 0 1 rfl (by kernel_rfl)
    have f1 := h.field Tryz.underlying76 1 9 1 1 rfl (by kernel_rfl)
    have f2 := h.field Tryz.underlying76 2 74 2 1 rfl (by kernel_rfl)
    have f3 := h.field Tryz.underlying76 3 9 3 1 rfl (by kernel_rfl)
    have f4 := h.field Tryz.underlying76 4 9 4 1 rfl (by kernel_rfl)
    have f5 := h.field Tryz.underlying76 5 4 5 1 rfl (by kernel_rfl)
    clear h
    obtain ⟨x0, e0, z0⟩ := rd_str f0
    obtain ⟨x1, e1, z1⟩ := rd_str f1
    obtain ⟨x2, e2, z2⟩ := f2.int Tryz.underlying74
    obtain ⟨x3, e3, z3⟩ := rd_str f3
    obtain ⟨x4, e4, z4⟩ := rd_str f4
    obtain ⟨x5, e5⟩ := f5.bool Tryz.underlying4
    simp at e0 e1 e2 e3 e4 e5
    subst e0 e1 e2 e3 e4 e5
    exact ⟨⟨x0, x1, x2, x3, x4, x5⟩, rfl, z0, z1, z3, z4, z2⟩
theorem rd_gras {cs : List Value} (h : Rd enc Tryz.prog w 64 cs) : ∃ l, SlOf w 6 GraR cs l :=
  Rd.slice Tryz.underlying64 (by kernel_rfl : Tryz.prog.cellsOf 76 = 6) (by decide) (of_decide_eq_true (by kernel_rfl)) (fun _ h => rd_gra h) h
theorem rd_cat {cs : List Value} (h : Rd enc Tryz.prog w 66 cs) : ∃ (c : Cat) (As : Option Addr) (caps : Nat) (At : Option Addr) (capt : Nat) (An : Option Addr) (capn : Nat) (Am : Option Addr) (capm : Nat) (Ag : Option Addr) (capg : Nat),
    cs = [.int .i64 c.epoch, .int .i64 c.version, .slice As c.objs.schemas.length caps, .slice At c.objs.tables.length capt, .slice An c.rols.names.length capn, .slice Am c.rols.members.length capm, .slice Ag c.grants.length capg] ∧
    SlAt w 2 SchR As caps c.objs.schemas ∧ SlAt w 5 TabR At capt c.objs.tables ∧ SlAt w 1 StrR An capn c.rols.names ∧ SlAt w 2 MbrR Am capm c.rols.members ∧ SlAt w 6 GraR Ag capg c.grants ∧ (Lit.int .i64 c.epoch).wf = true ∧ (Lit.int .i64 c.version).wf = true := by
  obtain ⟨hl, _⟩ := h.struct Tryz.underlying66
  rw [show Tryz.prog.cellsOf 66 = 7 by kernel_rfl] at hl
  match cs, hl with
  | [c0, c1, c2, c3, c4, c5, c6], _ =>
    have f0 := h.field Tryz.underlying66 0 3 0 1 rfl (by kernel_rfl)
    have f1 := h.field Tryz.underlying66 1 3 1 1 rfl (by kernel_rfl)
    have f2 := h.field Tryz.underlying66 2 29 2 2 rfl (by kernel_rfl)
    have f3 := h.field Tryz.underlying66 3 63 4 2 rfl (by kernel_rfl)
    have f4 := h.field Tryz.underlying66 4 64 6 1 rfl (by kernel_rfl)
    clear h
    obtain ⟨x0, e0, z0⟩ := f0.int Tryz.underlying3
    obtain ⟨x1, e1, z1⟩ := f1.int Tryz.underlying3
    obtain ⟨o, A, cap, B, capB, e2, hs, ht⟩ := rd_objs f2
    obtain ⟨r, C, capC, D, capD, e3, hn, hm⟩ := rd_rols f3
    obtain ⟨g, E, capE, e4, hg⟩ := rd_gras f4
    simp at e0 e1 e2 e3 e4
    obtain ⟨rfl, rfl⟩ := e2
    obtain ⟨rfl, rfl⟩ := e3
    subst e0 e1 e4
    exact ⟨⟨x0, x1, o, r, g⟩, A, cap, B, capB, C, capC, D, capD, E, capE, rfl, hs, ht, hn, hm, hg, z0, z1⟩
end
end Go.Proofs.YtlklmekapbojdaaGreat

