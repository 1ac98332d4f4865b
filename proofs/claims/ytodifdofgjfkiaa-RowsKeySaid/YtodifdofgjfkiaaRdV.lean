/- How values of rows read as arguments. -/
import Derived.Test.YtodifdofgjfkiaaRd
import Derived.Test.YtodifdofgjfkiaaVal
namespace Go.Proofs.Ytodifdofgjfkiaa
open Go.ChangeShapes Go.WideShapes Go.ChangeAt Go.RowKit
set_option maxRecDepth 100000
set_option linter.unusedVariables false
section
variable {H : Type} {enc : TypeId × Value → H} {w : World}
theorem rd_val {cs : List Value} (h : Rd enc Try.prog w 48 cs) : ∃ x, ValR w cs x := by
  obtain ⟨hl, _⟩ := h.struct Try.underlying48
  rw [show Try.prog.cellsOf 48 = 3 by kernel_rfl] at hl
  match cs, hl with
  | [c0, c1, c2], _ =>
    have f0 := h.field Try.underlying48 0 38 0 1 rfl (by kernel_rfl)
    have f1 := h.field Try.underlying48 1 3 1 1 rfl (by kernel_rfl)
    have f2 := h.field Try.underlying48 2 9 2 1 rfl (by kernel_rfl)
    clear h
    obtain ⟨x0, e0, _⟩ := f0.int Try.underlying38
    obtain ⟨x1, e1, _⟩ := f1.int Try.underlying3
    obtain ⟨x2, e2, z2⟩ := f2.string Try.underlying9
    simp at e0 e1 e2
    subst e0 e1 e2
    exact ⟨⟨x0, x1, x2⟩, rfl, z2⟩
theorem rd_vals {cs : List Value} (h : Rd enc Try.prog w 49 cs) : ∃ l, SlOf w 3 ValR cs l :=
  Rd.slice Try.underlying49 (by kernel_rfl : Try.prog.cellsOf 48 = 3) (by decide) (of_decide_eq_true (by kernel_rfl)) (fun _ h => rd_val h) h
end
end Go.Proofs.Ytodifdofgjfkiaa
