/- For all roles r and every text name: RolesAdds(r, name) returns true, and the arguments read afterwards as before. No condition. -/
import Derived.Test.YtcdhljcpoopfaaaPart10
namespace Go.Proofs.Ytcdhljcpoopfaaa.rolesAdds
open Go.ChangeShapes Go.WideShapes Go.ChangeAt Go.RowKit
set_option maxRecDepth 100000
set_option linter.unusedVariables false
theorem lifted (os : Os) (started : os.Started) (H : Type) (enc : TypeId × Value → H) :
    ReturnsInHanded {} Try.checked os 7 .any (Rows.rolesAddsSpec.pre6 enc Try.prog Try.f7 Rows.rolesAddsRow.domain false) (Rows.rolesAddsSpec.post enc Try.prog Try.f7 false true false false) := by
  refine law_lifted (C := Try.checked) (tb := 4) H enc own_knob started (by kernel_rfl) Try.func7
    (ChangeSpec.witness6 (enc := enc) (C := Try.checked) false ⟨#[], #[.agg #[.slice none 0 0, .slice none 0 0], .string ByteArray.empty], []⟩ 8 (by kernel_rfl) (by kernel_rfl) (by kernel_rfl) (by kernel_rfl))
    rfl rfl Try.underlying4 ?_ laid_out ?_ ?_
  · intro ds hds
    match ds, hds with
    | [d0, d1], _ => rfl
  · intro t ht
    have : t = 25 ∨ t = 9 := by simpa [Try.params7] using ht
    rcases this with rfl | rfl
    all_goals exact ⟨by kernel_rfl, of_decide_eq_true (by kernel_rfl)⟩
  · intro W vs hl hrd
    match vs, hl with
    | [v0, v1], _ =>
      have h0 := hrd 0 25 v0 rfl rfl
      have h1 := hrd 1 9 v1 rfl rfl
      obtain ⟨cs0, rfl, q0⟩ := h0.struct Try.underlying25
      obtain ⟨x0, A0, cap0, B0, capB0, rfl, y0, z0⟩ := rd_rols q0
      obtain ⟨x1, rfl, z1⟩ := h1.string Try.underlying9
      exact law_adds8 x0 A0 cap0 B0 capB0 x1 W y0 z0 z1
theorem proved : Rows.RolesAddsSaid :=
  OpenClaim.holds_of_wide 7 Try.f7 rfl rfl rfl rfl rfl rfl rfl ⟨rfl, rfl, rfl, rfl, rfl⟩ rfl rfl rfl rfl rfl (by kernel_rfl) Try.func7 (by kernel_rfl)
    (of_decide_eq_true (by kernel_rfl)) (by unfold Func.isWrapper; first | (rw [if_pos (by decide +kernel)]; kernel_rfl) | (rw [if_neg (by decide +kernel)]; exact ⟨rfl, rfl⟩))
    (fun os started H enc _ => lifted os started H enc)
#print axioms proved
end Go.Proofs.Ytcdhljcpoopfaaa.rolesAdds
