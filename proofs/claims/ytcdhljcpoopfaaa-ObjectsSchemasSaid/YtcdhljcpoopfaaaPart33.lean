/- Contracts of the program, part 33. -/
import Derived.Test.YtcdhljcpoopfaaaPart2
import Derived.Test.YtcdhljcpoopfaaaPart32
/- How objects, tables, rules, columns, schemas read as arguments. -/
namespace Go.Proofs.Ytcdhljcpoopfaaa
open Go.ChangeShapes Go.WideShapes Go.ChangeAt Go.RowKit
set_option maxRecDepth 100000
set_option linter.unusedVariables false
section
variable {H : Type} {enc : TypeId × Value → H} {w : World}
theorem rd_str {cs : List Value} (h : Rd enc Try.prog w 9 cs) : ∃ x, StrR w cs x := by
  obtain ⟨s, e, z⟩ := h.string Try.underlying9
  exact ⟨s, e, z⟩
theorem rd_strs {cs : List Value} (h : Rd enc Try.prog w 22 cs) : ∃ l, SlOf w 1 StrR cs l :=
  Rd.slice Try.underlying22 (by kernel_rfl : Try.prog.cellsOf 9 = 1) (by decide) (of_decide_eq_true (by kernel_rfl)) (fun _ h => rd_str h) h
theorem rd_col {cs : List Value} (h : Rd enc Try.prog w 105 cs) : ∃ x, ColR w cs x := by
  obtain ⟨hl, _⟩ := h.struct Try.underlying105
  rw [show Try.prog.cellsOf 105 = 3 by kernel_rfl] at hl
  match cs, hl with
  | [c0, c1, c2], _ =>
    have f0 := h.field Try.underlying105 0 9 0 1 rfl (by kernel_rfl)
    have f1 := h.field Try.underlying105 1 103 1 1 rfl (by kernel_rfl)
    have f2 := h.field Try.underlying105 2 4 2 1 rfl (by kernel_rfl)
    clear h
    obtain ⟨x0, e0, z0⟩ := f0.string Try.underlying9
    obtain ⟨x1, e1, _⟩ := f1.int Try.underlying103
    obtain ⟨x2, e2⟩ := f2.bool Try.underlying4
    simp at e0 e1 e2
    subst e0 e1 e2
    exact ⟨⟨x0, x1, x2⟩, rfl, z0⟩
theorem rd_cols {cs : List Value} (h : Rd enc Try.prog w 53 cs) : ∃ l, SlOf w 3 ColR cs l :=
  Rd.slice Try.underlying53 (by kernel_rfl : Try.prog.cellsOf 105 = 3) (by decide) (of_decide_eq_true (by kernel_rfl)) (fun _ h => rd_col h) h
theorem rd_rule {cs : List Value} (h : Rd enc Try.prog w 86 cs) : ∃ x, RulR w cs x := by
  obtain ⟨hl, _⟩ := h.struct Try.underlying86
  rw [show Try.prog.cellsOf 86 = 8 by kernel_rfl] at hl
  match cs, hl with
  | [c0, c1, c2, c3, c4, c5, c6, c7], _ =>
    have f0 := h.field Try.underlying86 0 9 0 1 rfl (by kernel_rfl)
    have f1 := h.field Try.underlying86 1 84 1 1 rfl (by kernel_rfl)
    have f2 := h.field Try.underlying86 2 22 2 1 rfl (by kernel_rfl)
    have f3 := h.field Try.underlying86 3 3 3 1 rfl (by kernel_rfl)
    have f4 := h.field Try.underlying86 4 3 4 1 rfl (by kernel_rfl)
    have f5 := h.field Try.underlying86 5 9 5 1 rfl (by kernel_rfl)
    have f6 := h.field Try.underlying86 6 9 6 1 rfl (by kernel_rfl)
    have f7 := h.field Try.underlying86 7 9 7 1 rfl (by kernel_rfl)
    clear h
    obtain ⟨x0, e0, z0⟩ := f0.string Try.underlying9
    obtain ⟨x1, e1, _⟩ := f1.int Try.underlying84
    obtain ⟨x2, A2, cap2, e2, z2⟩ := rd_strs f2
    obtain ⟨x3, e3, _⟩ := f3.int Try.underlying3
    obtain ⟨x4, e4, _⟩ := f4.int Try.underlying3
    obtain ⟨x5, e5, z5⟩ := f5.string Try.underlying9
    obtain ⟨x6, e6, z6⟩ := f6.string Try.underlying9
    obtain ⟨x7, e7, z7⟩ := f7.string Try.underlying9
    simp at e0 e1 e2 e3 e4 e5 e6 e7
    subst e0 e1 e2 e3 e4 e5 e6 e7
    exact ⟨⟨x0, x1, x2, x3, x4, x5, x6, x7⟩, A2, cap2, rfl, z2, z0, z5, z6, z7⟩
theorem rd_rules {cs : List Value} (h : Rd enc Try.prog w 54 cs) : ∃ l, SlOf w 8 RulR cs l :=
  Rd.slice Try.underlying54 (by kernel_rfl : Try.prog.cellsOf 86 = 8) (by decide) (of_decide_eq_true (by kernel_rfl)) (fun _ h => rd_rule h) h
theorem rd_tab {cs : List Value} (h : Rd enc Try.prog w 56 cs) : ∃ x, TabR w cs x := by
  obtain ⟨hl, _⟩ := h.struct Try.underlying56
  rw [show Try.prog.cellsOf 56 = 5 by kernel_rfl] at hl
  match cs, hl with
  | [c0, c1, c2, c3, c4], _ =>
    have f0 := h.field Try.underlying56 0 9 0 1 rfl (by kernel_rfl)
    have f1 := h.field Try.underlying56 1 9 1 1 rfl (by kernel_rfl)
    have f2 := h.field Try.underlying56 2 9 2 1 rfl (by kernel_rfl)
    have f3 := h.field Try.underlying56 3 53 3 1 rfl (by kernel_rfl)
    have f4 := h.field Try.underlying56 4 54 4 1 rfl (by kernel_rfl)
    clear h
    obtain ⟨x0, e0, z0⟩ := f0.string Try.underlying9
    obtain ⟨x1, e1, z1⟩ := f1.string Try.underlying9
    obtain ⟨x2, e2, z2⟩ := f2.string Try.underlying9
    obtain ⟨x3, A3, cap3, e3, z3⟩ := rd_cols f3
    obtain ⟨x4, A4, cap4, e4, z4⟩ := rd_rules f4
    simp at e0 e1 e2 e3 e4
    subst e0 e1 e2 e3 e4
    exact ⟨⟨x0, x1, x2, x3, x4⟩, A3, cap3, A4, cap4, rfl, z3, z4, z0, z1, z2⟩
theorem rd_tabs {cs : List Value} (h : Rd enc Try.prog w 43 cs) : ∃ l, SlOf w 5 TabR cs l :=
  Rd.slice Try.underlying43 (by kernel_rfl : Try.prog.cellsOf 56 = 5) (by decide) (of_decide_eq_true (by kernel_rfl)) (fun _ h => rd_tab h) h
theorem rd_sch {cs : List Value} (h : Rd enc Try.prog w 92 cs) : ∃ x, SchR w cs x := by
  obtain ⟨hl, _⟩ := h.struct Try.underlying92
  rw [show Try.prog.cellsOf 92 = 2 by kernel_rfl] at hl
  match cs, hl with
  | [c0, c1], _ =>
    have f0 := h.field Try.underlying92 0 9 0 1 rfl (by kernel_rfl)
    have f1 := h.field Try.underlying92 1 9 1 1 rfl (by kernel_rfl)
    clear h
    obtain ⟨x0, e0, z0⟩ := f0.string Try.underlying9
    obtain ⟨x1, e1, z1⟩ := f1.string Try.underlying9
    simp at e0 e1
    subst e0 e1
    exact ⟨⟨x0, x1⟩, rfl, z0, z1⟩
theorem rd_schs {cs : List Value} (h : Rd enc Try.prog w 42 cs) : ∃ l, SlOf w 2 SchR cs l :=
  Rd.slice Try.underlying42 (by kernel_rfl : Try.prog.cellsOf 92 = 2) (by decide) (of_decide_eq_true (by kernel_rfl)) (fun _ h => rd_sch h) h
theorem rd_objs {cs : List Value} (h : Rd enc Try.prog w 45 cs) : ∃ x, ObjR w cs x := by
  obtain ⟨hl, _⟩ := h.struct Try.underlying45
  rw [show Try.prog.cellsOf 45 = 2 by kernel_rfl] at hl
  match cs, hl with
  | [c0, c1], _ =>
    have f0 := h.field Try.underlying45 0 42 0 1 rfl (by kernel_rfl)
    have f1 := h.field Try.underlying45 1 43 1 1 rfl (by kernel_rfl)
    clear h
    obtain ⟨x0, A0, cap0, e0, z0⟩ := rd_schs f0
    obtain ⟨x1, A1, cap1, e1, z1⟩ := rd_tabs f1
    simp at e0 e1
    subst e0 e1
    exact ⟨⟨x0, x1⟩, A0, cap0, A1, cap1, rfl, z0, z1⟩
theorem own_knob : ownKnob Try.prog.godebug = none := by kernel_rfl
theorem laid_out : laidOutB Try.prog = true := by kernel_rfl
end
end Go.Proofs.Ytcdhljcpoopfaaa
