/- For all objects o and texts name and owner: ObjectsSchemas(o, name, owner) returns true, and the arguments read afterwards as before. No condition. -/
import Derived.Test.YtcdhljcpoopfaaaPart32
import Derived.Test.YtcdhljcpoopfaaaPart33
namespace Go.Proofs.Ytcdhljcpoopfaaa.objectsSchemas
open Go.ChangeShapes Go.WideShapes Go.ChangeAt Go.RowKit
set_option maxRecDepth 100000
set_option linter.unusedVariables false
theorem lifted (os : Os) (started : os.Started) (H : Type) (enc : TypeId × Value → H) :
    ReturnsInHanded {} Try.checked os 9 .any (Rows.objectsSchemasSpec.pre6 enc Try.prog Try.f9 Rows.objectsSchemasRow.domain false) (Rows.objectsSchemasSpec.post enc Try.prog Try.f9 false true false false) := by
  refine law_lifted (C := Try.checked) (tb := 4) H enc own_knob started (by kernel_rfl) Try.func9
    (ChangeSpec.witness6 (enc := enc) (C := Try.checked) false ⟨#[], #[.agg #[.slice none 0 0, .slice none 0 0], .string ByteArray.empty, .string ByteArray.empty], []⟩ 8 (by kernel_rfl) (by kernel_rfl) (by kernel_rfl) (by kernel_rfl))
    rfl rfl Try.underlying4 ?_ laid_out ?_ ?_
  · intro ds hds
    match ds, hds with
    | [d0, d1, d2], _ => rfl
  · intro t ht
    have : t = 45 ∨ t = 9 := by simpa [Try.params9] using ht
    rcases this with rfl | rfl
    all_goals exact ⟨by kernel_rfl, of_decide_eq_true (by kernel_rfl)⟩
  · intro W vs hl hrd
    match vs, hl with
    | [v0, v1, v2], _ =>
      have h0 := hrd 0 45 v0 rfl rfl
      have h1 := hrd 1 9 v1 rfl rfl
      have h2 := hrd 2 9 v2 rfl rfl
      obtain ⟨cs0, rfl, q0⟩ := h0.struct Try.underlying45
      obtain ⟨x0, A0, cap0, B0, capB0, rfl, y0, z0⟩ := rd_objs q0
      obtain ⟨x1, rfl, z1⟩ := h1.string Try.underlying9
      obtain ⟨x2, rfl, z2⟩ := h2.string Try.underlying9
      exact law_schemas x0 x1 x2 A0 cap0 B0 capB0 W y0 z0 z1 z2
theorem proved : Rows.ObjectsSchemasSaid :=
  OpenClaim.holds_of_wide 9 Try.f9 rfl rfl rfl rfl rfl rfl rfl ⟨rfl, rfl, rfl, rfl, rfl⟩ rfl rfl rfl rfl rfl (by kernel_rfl) Try.func9 (by kernel_rfl)
    (of_decide_eq_true (by kernel_rfl)) (by unfold Func.isWrapper; first | (rw [if_pos (by decide +kernel)]; kernel_rfl) | (rw [if_neg (by decide +kernel)]; exact ⟨rfl, rfl⟩))
    (fun os started H enc _ => lifted os started H enc)
#print axioms proved
end Go.Proofs.Ytcdhljcpoopfaaa.objectsSchemas
