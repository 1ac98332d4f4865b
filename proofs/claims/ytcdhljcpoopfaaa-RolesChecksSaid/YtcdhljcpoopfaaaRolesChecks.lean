/- For all roles r: RolesChecks(r) returns true, and r reads afterwards as before. No condition. -/
import Derived.Test.YtcdhljcpoopfaaaLaw8A
import Derived.Test.YtcdhljcpoopfaaaRd8
namespace Go.Proofs.Ytcdhljcpoopfaaa.rolesChecks
open Go.ChangeShapes Go.WideShapes Go.ChangeAt Go.RowKit
set_option maxRecDepth 100000
set_option linter.unusedVariables false
theorem lifted (os : Os) (started : os.Started) (H : Type) (enc : TypeId × Value → H) :
    ReturnsInHanded {} Try.checked os 3 .any (Rows.rolesChecksSpec.pre6 enc Try.prog Try.f3 Rows.rolesChecksRow.domain false) (Rows.rolesChecksSpec.post enc Try.prog Try.f3 false true false false) := by
  refine law_lifted (C := Try.checked) (tb := 4) H enc own_knob started (by kernel_rfl) Try.func3
    (ChangeSpec.witness6 (enc := enc) (C := Try.checked) false ⟨#[], #[.agg #[.slice none 0 0, .slice none 0 0]], []⟩ 8 (by kernel_rfl) (by kernel_rfl) (by kernel_rfl) (by kernel_rfl))
    rfl rfl Try.underlying4 ?_ laid_out ?_ ?_
  · intro ds hds
    match ds, hds with
    | [d0], _ => rfl
  · intro t ht
    have : t = 25 := by simpa [Try.params3] using ht
    rcases this with rfl
    all_goals exact ⟨by kernel_rfl, of_decide_eq_true (by kernel_rfl)⟩
  · intro W vs hl hrd
    match vs, hl with
    | [v0], _ =>
      have h0 := hrd 0 25 v0 rfl rfl
      obtain ⟨cs0, rfl, q0⟩ := h0.struct Try.underlying25
      obtain ⟨x0, A0, cap0, B0, capB0, rfl, y0, z0⟩ := rd_rols q0
      exact law_rchecks8 x0 A0 cap0 B0 capB0 W y0 z0
theorem proved : Rows.RolesChecksSaid :=
  OpenClaim.holds_of_wide 3 Try.f3 rfl rfl rfl rfl rfl rfl rfl ⟨rfl, rfl, rfl, rfl, rfl⟩ rfl rfl rfl rfl rfl (by kernel_rfl) Try.func3 (by kernel_rfl)
    (of_decide_eq_true (by kernel_rfl)) (by unfold Func.isWrapper; first | (rw [if_pos (by decide +kernel)]; kernel_rfl) | (rw [if_neg (by decide +kernel)]; exact ⟨rfl, rfl⟩))
    (fun os started H enc _ => lifted os started H enc)
#print axioms proved
end Go.Proofs.Ytcdhljcpoopfaaa.rolesChecks
