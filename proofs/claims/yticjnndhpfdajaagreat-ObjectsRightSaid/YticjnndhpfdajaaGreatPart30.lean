/- Contracts of the program, part 30. -/
import Derived.Test.YticjnndhpfdajaaGreatPart2
import Derived.Test.YticjnndhpfdajaaGreatPart29
/- How objects, tables, rules, columns, schemas read as arguments. -/
namespace Go.Proofs.YticjnndhpfdajaaGreat
open Go.ChangeShapes Go.WideShapes Go.ChangeAt Go.RowKit
set_option maxRecDepth 100000
set_option linter.unusedVariables false
section
variable {H : Type} {enc : TypeId × Value → H} {w : World}
theorem rd_str {cs : List Value} (h : Rd enc Tryz.prog w 9 cs) : ∃ x, StrR w cs x := by
  obtain ⟨s, e, z⟩ := h.string Tryz.underlying9
  exact ⟨s, e, z⟩
theorem rd_strs {cs : List Value} (h : Rd enc Tryz.prog w 27 cs) : ∃ l, SlOf w 1 StrR cs l :=
  Rd.slice Tryz.underlying27 (by kernel_rfl : Tryz.prog.cellsOf 9 = 1) (by decide) (of_decide_eq_true (by kernel_rfl)) (fun _ h => rd_str h) h
theorem rd_col {cs : List Value} (h : Rd enc Tryz.prog w 41 cs) : ∃ x, ColR w cs x := by
  obtain ⟨hl, _⟩ := h.struct Tryz.underlying41
  rw [show Tryz.prog.cellsOf 41 = 3 by kernel_rfl] at hl
  match cs, hl with
  | [c0, c1, c2], _ =>
    have f0 := h.field Tryz.underlying41 0 9 0 1 rfl (by kernel_rfl)
    have f1 := h.field Tryz.underlying41 1 39 1 1 rfl (by kernel_rfl)
    have f2 := h.field Tryz.underlying41 2 4 2 1 rfl (by kernel_rfl)
    clear h
    obtain ⟨x0, e0, z0⟩ := f0.string Tryz.underlying9
    obtain ⟨x1, e1, _⟩ := f1.int Tryz.underlying39
    obtain ⟨x2, e2⟩ := f2.bool Tryz.underlying4
    simp at e0 e1 e2
    subst e0 e1 e2
    exact ⟨⟨x0, x1, x2⟩, rfl, z0⟩
theorem rd_cols {cs : List Value} (h : Rd enc Tryz.prog w 47 cs) : ∃ l, SlOf w 3 ColR cs l :=
  Rd.slice Tryz.underlying47 (by kernel_rfl : Tryz.prog.cellsOf 41 = 3) (by decide) (of_decide_eq_true (by kernel_rfl)) (fun _ h => rd_col h) h
theorem rd_rule {cs : List Value} (h : Rd enc Tryz.prog w 29 cs) : ∃ x, RulR w cs x := by
  obtain ⟨hl, _⟩ := h.struct Tryz.underlying29
  rw [show Tryz.prog.cellsOf 29 = 8 by kernel_rfl] at hl
  match cs, hl with
  | [c0, c1, c2, c3, c4, c5, c6, c7], _ =>
    have f0 := h.field Tryz.underlying29 0 9 0 1 rfl (by kernel_rfl)
    have f1 := h.field Tryz.underlying29 1 26 1 1 rfl (by kernel_rfl)
    have f2 := h.field Tryz.underlying29 2 27 2 1 rfl (by kernel_rfl)
    have f3 := h.field Tryz.underlying29 3 3 3 1 rfl (by kernel_rfl)
    have f4 := h.field Tryz.underlying29 4 3 4 1 rfl (by kernel_rfl)
    have f5 := h.field Tryz.underlying29 5 9 5 1 rfl (by kernel_rfl)
    have f6 := h.field Tryz.underlying29 6 9 6 1 rfl (by kernel_rfl)
    have f7 := h.field Tryz.underlying29 7 9 7 1 rfl (by kernel_rfl)
    clear h
    obtain ⟨x0, e0, z0⟩ := f0.string Tryz.underlying9
    obtain ⟨x1, e1, _⟩ := f1.int Tryz.underlying26
    obtain ⟨x2, A2, cap2, e2, z2⟩ := rd_strs f2
    obtain ⟨x3, e3, _⟩ := f3.int Tryz.underlying3
    obtain ⟨x4, e4, _⟩ := f4.int Tryz.underlying3
    obtain ⟨x5, e5, z5⟩ := f5.string Tryz.underlying9
    obtain ⟨x6, e6, z6⟩ := f6.string Tryz.underlying9
    obtain ⟨x7, e7, z7⟩ := f7.string Tryz.underlying9
    simp at e0 e1 e2 e3 e4 e5 e6 e7
    subst e0 e1 e2 e3 e4 e5 e6 e7
    exact ⟨⟨x0, x1, x2, x3, x4, x5, x6, x7⟩, A2, cap2, rfl, z2, z0, z5, z6, z7⟩
theorem rd_rules {cs : List Value} (h : Rd enc Tryz.prog w 48 cs) : ∃ l, SlOf w 8 RulR cs l :=
  Rd.slice Tryz.underlying48 (by kernel_rfl : Tryz.prog.cellsOf 29 = 8) (by decide) (of_decide_eq_true (by kernel_rfl)) (fun _ h => rd_rule h) h
theorem rd_tab {cs : List Value} (h : Rd enc Tryz.prog w 50 cs) : ∃ x, TabR w cs x := by
  obtain ⟨hl, _⟩ := h.struct Tryz.underlying50
  rw [show Tryz.prog.cellsOf 50 = 5 by kernel_rfl] at hl
  match cs, hl with
  | [c0, c1, c2, c3, c4], _ =>
    have f0 := h.field Tryz.underlying50 0 9 0 1 rfl (by kernel_rfl)
    have f1 := h.field Tryz.underlying50 1 9 1 1 rfl (by kernel_rfl)
    have f2 := h.field Tryz.underlying50 2 9 2 1 rfl (by kernel_rfl)
    have f3 := h.field Tryz.underlying50 3 47 3 1 rfl (by kernel_rfl)
    have f4 := h.field Tryz.underlying50 4 48 4 1 rfl (by kernel_rfl)
    clear h
    obtain ⟨x0, e0, z0⟩ := f0.string Tryz.underlying9
    obtain ⟨x1, e1, z1⟩ := f1.string Tryz.underlying9
    obtain ⟨x2, e2, z2⟩ := f2.string Tryz.underlying9
    obtain ⟨x3, A3, cap3, e3, z3⟩ := rd_cols f3
    obtain ⟨x4, A4, cap4, e4, z4⟩ := rd_rules f4
    simp at e0 e1 e2 e3 e4
    subst e0 e1 e2 e3 e4
    exact ⟨⟨x0, x1, x2, x3, x4⟩, A3, cap3, A4, cap4, rfl, z3, z4, z0, z1, z2⟩
theorem rd_tabs {cs : List Value} (h : Rd enc Tryz.prog w 23 cs) : ∃ l, SlOf w 5 TabR cs l :=
  Rd.slice Tryz.underlying23 (by kernel_rfl : Tryz.prog.cellsOf 50 = 5) (by decide) (of_decide_eq_true (by kernel_rfl)) (fun _ h => rd_tab h) h
theorem rd_sch {cs : List Value} (h : Rd enc Tryz.prog w 99 cs) : ∃ x, SchR w cs x := by
  obtain ⟨hl, _⟩ := h.struct Tryz.underlying99
  rw [show Tryz.prog.cellsOf 99 = 2 by kernel_rfl] at hl
  match cs, hl with
  | [c0, c1], _ =>
    have f0 := h.field Tryz.underlying99 0 9 0 1 rfl (by kernel_rfl)
    have f1 := h.field Tryz.underlying99 1 9 1 1 rfl (by kernel_rfl)
    clear h
    obtain ⟨x0, e0, z0⟩ := f0.string Tryz.underlying9
    obtain ⟨x1, e1, z1⟩ := f1.string Tryz.underlying9
    simp at e0 e1
    subst e0 e1
    exact ⟨⟨x0, x1⟩, rfl, z0, z1⟩
theorem rd_schs {cs : List Value} (h : Rd enc Tryz.prog w 22 cs) : ∃ l, SlOf w 2 SchR cs l :=
  Rd.slice Tryz.underlying22 (by kernel_rfl : Tryz.prog.cellsOf 99 = 2) (by decide) (of_decide_eq_true (by kernel_rfl)) (fun _ h => rd_sch h) h
theorem rd_objs {cs : List Value} (h : Rd enc Tryz.prog w 25 cs) : ∃ x, ObjR w cs x := by
  obtain ⟨hl, _⟩ := h.struct Tryz.underlying25
  rw [show Tryz.prog.cellsOf 25 = 2 by kernel_rfl] at hl
  match cs, hl with
  | [c0, c1], _ =>
    have f0 := h.field Tryz.underlying25 0 22 0 1 rfl (by kernel_rfl)
    have f1 := h.field Tryz.underlying25 1 23 1 1 rfl (by kernel_rfl)
    clear h
    obtain ⟨x0, A0, cap0, e0, z0⟩ := rd_schs f0
    obtain ⟨x1, A1, cap1, e1, z1⟩ := rd_tabs f1
    simp at e0 e1
    subst e0 e1
    exact ⟨⟨x0, x1⟩, A0, cap0, A1, cap1, rfl, z0, z1⟩
theorem own_knob : ownKnob Tryz.prog.godebug = none := by kernel_rfl
theorem laid_out : laidOutB Tryz.prog = true := by kernel_rfl
end
end Go.Proofs.YticjnndhpfdajaaGreat
