/- For all objects o, every table t, every rule r and texts schema and name: ObjectsRight(o, t, r, schema, name) returns true, and the arguments read afterwards as before. No condition. -/
import Derived.Test.YticjnndhpfdajaaGreatPart38
import Derived.Test.YticjnndhpfdajaaGreatPart30
namespace Go.Proofs.YticjnndhpfdajaaGreat.objectsRight
open Go.ChangeShapes Go.WideShapes Go.ChangeAt Go.RowKit
set_option maxRecDepth 100000
set_option linter.unusedVariables false
theorem lifted (os : Os) (started : os.Started) (H : Type) (enc : TypeId × Value → H) :
    ReturnsInHanded {} Tryz.checked os 5 .any (Rows.objectsRightSpec.pre6 enc Tryz.prog Tryz.f5 Rows.objectsRightRow.domain false) (Rows.objectsRightSpec.post enc Tryz.prog Tryz.f5 false true false false) := by
  refine law_lifted (C := Tryz.checked) (tb := 4) H enc own_knob started (by kernel_rfl) Tryz.func5
    (ChangeSpec.witness6 (enc := enc) (C := Tryz.checked) false ⟨#[], #[.agg #[.slice none 0 0, .slice none 0 0], .agg #[.string ByteArray.empty, .string ByteArray.empty, .string ByteArray.empty, .slice none 0 0, .slice none 0 0], .agg #[.string ByteArray.empty, .int .i64 0, .slice none 0 0, .int .i64 0, .int .i64 0, .string ByteArray.empty, .string ByteArray.empty, .string ByteArray.empty], .string ByteArray.empty, .string ByteArray.empty], []⟩ 8 (by kernel_rfl) (by kernel_rfl) (by kernel_rfl) (by kernel_rfl))
    rfl rfl Tryz.underlying4 ?_ laid_out ?_ ?_
  · intro ds hds
    match ds, hds with
    | [d0, d1, d2, d3, d4], _ => rfl
  · intro t ht
    have : t = 25 ∨ t = 50 ∨ t = 29 ∨ t = 9 := by simpa [Tryz.params5] using ht
    rcases this with rfl | rfl | rfl | rfl
    all_goals exact ⟨by kernel_rfl, of_decide_eq_true (by kernel_rfl)⟩
  · intro W vs hl hrd
    match vs, hl with
    | [v0, v1, v2, v3, v4], _ =>
      have h0 := hrd 0 25 v0 rfl rfl
      have h1 := hrd 1 50 v1 rfl rfl
      have h2 := hrd 2 29 v2 rfl rfl
      have h3 := hrd 3 9 v3 rfl rfl
      have h4 := hrd 4 9 v4 rfl rfl
      obtain ⟨cs0, rfl, q0⟩ := h0.struct Tryz.underlying25
      obtain ⟨x0, A0, cap0, B0, capB0, rfl, y0, z0⟩ := rd_objs q0
      obtain ⟨cs1, rfl, q1⟩ := h1.struct Tryz.underlying50
      obtain ⟨x1, A1, cap1, B1, capB1, rfl, y1, z1, s1⟩ := rd_tab q1
      obtain ⟨cs2, rfl, q2⟩ := h2.struct Tryz.underlying29
      obtain ⟨x2, A2, cap2, rfl, z2, s2⟩ := rd_rule q2
      obtain ⟨x3, rfl, z3⟩ := h3.string Tryz.underlying9
      obtain ⟨x4, rfl, z4⟩ := h4.string Tryz.underlying9
      exact law_right x0 x1 A1 cap1 B1 capB1 x2 A2 cap2 x3 x4 A0 cap0 B0 capB0 W y0 z0 y1 z1 s1 z2 s2 z4
theorem proved : Rows.ObjectsRightSaid :=
  OpenClaim.holds_of_wide 5 Tryz.f5 rfl rfl rfl rfl rfl rfl rfl ⟨rfl, rfl, rfl, rfl, rfl⟩ rfl rfl rfl rfl rfl (by kernel_rfl) Tryz.func5 (by kernel_rfl)
    (of_decide_eq_true (by kernel_rfl)) (by unfold Func.isWrapper; first | (rw [if_pos (by decide +kernel)]; kernel_rfl) | (rw [if_neg (by decide +kernel)]; exact ⟨rfl, rfl⟩))
    (fun os started H enc _ => lifted os started H enc)
#print axioms proved
end Go.Proofs.YticjnndhpfdajaaGreat.objectsRight
