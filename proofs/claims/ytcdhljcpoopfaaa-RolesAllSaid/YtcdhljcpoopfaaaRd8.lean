/- How roles read as arguments. -/
import Derived.Test.YtcdhljcpoopfaaaRoles
import Derived.Test.YtcdhljcpoopfaaaRd
namespace Go.Proofs.Ytcdhljcpoopfaaa
open Go.ChangeShapes Go.WideShapes Go.ChangeAt Go.RowKit
set_option maxRecDepth 100000
set_option linter.unusedVariables false
section
variable {H : Type} {enc : TypeId × Value → H} {w : World}
theorem rd_mbr {cs : List Value} (h : Rd enc Try.prog w 61 cs) : ∃ x, MbrR w cs x := by
  obtain ⟨hl, _⟩ := h.struct Try.underlying61
  rw [show Try.prog.cellsOf 61 = 2 by kernel_rfl] at hl
  match cs, hl with
  | [c0, c1], _ =>
    have f0 := h.field Try.underlying61 0 9 0 1 rfl (by kernel_rfl)
    have f1 := h.field Try.underlying61 1 9 1 1 rfl (by kernel_rfl)
    clear h
    obtain ⟨x0, e0, z0⟩ := rd_str f0
    obtain ⟨x1, e1, z1⟩ := rd_str f1
    simp at e0 e1
    subst e0 e1
    exact ⟨⟨x0, x1⟩, rfl, z0, z1⟩
theorem rd_mbrs {cs : List Value} (h : Rd enc Try.prog w 23 cs) : ∃ l, SlOf w 2 MbrR cs l :=
  Rd.slice Try.underlying23 (by kernel_rfl : Try.prog.cellsOf 61 = 2) (by decide) (of_decide_eq_true (by kernel_rfl)) (fun _ h => rd_mbr h) h
theorem rd_rols {cs : List Value} (h : Rd enc Try.prog w 25 cs) : ∃ (x : Rls) (A : Option Addr) (cap : Nat) (B : Option Addr) (capB : Nat), cs = [.slice A x.names.length cap, .slice B x.members.length capB] ∧ SlAt w 1 StrR A cap x.names ∧ SlAt w 2 MbrR B capB x.members := by
  obtain ⟨hl, _⟩ := h.struct Try.underlying25
  rw [show Try.prog.cellsOf 25 = 2 by kernel_rfl] at hl
  match cs, hl with
  | [c0, c1], _ =>
    have f0 := h.field Try.underlying25 0 22 0 1 rfl (by kernel_rfl)
    have f1 := h.field Try.underlying25 1 23 1 1 rfl (by kernel_rfl)
    clear h
    obtain ⟨x0, A0, cap0, e0, z0⟩ := rd_strs f0
    obtain ⟨x1, A1, cap1, e1, z1⟩ := rd_mbrs f1
    simp at e0 e1
    subst e0 e1
    exact ⟨⟨x0, x1⟩, A0, cap0, A1, cap1, rfl, z0, z1⟩
end
end Go.Proofs.Ytcdhljcpoopfaaa
