/- For all objects o, texts schema and table and every rule r: ObjectsRules(o, schema, table, r) returns true, and the arguments read afterwards as before. No condition. -/
import Derived.Test.YticjnndhpfdajaaGreatPart29
import Derived.Test.YticjnndhpfdajaaGreatPart30
namespace Go.Proofs.YticjnndhpfdajaaGreat.objectsRules
open Go.ChangeShapes Go.WideShapes Go.ChangeAt Go.RowKit
set_option maxRecDepth 100000
set_option linter.unusedVariables false
theorem lifted (os : Os) (started : os.Started) (H : Type) (enc : TypeId × Value → H) :
    ReturnsInHanded {} Tryz.checked os 3 .any (Rows.objectsRulesSpec.pre6 enc Tryz.prog Tryz.f3 Rows.objectsRulesRow.domain false) (Rows.objectsRulesSpec.post enc Tryz.prog Tryz.f3 false true false false) := by
  refine law_lifted (C := Tryz.checked) (tb := 4) H enc own_knob started (by kernel_rfl) Tryz.func3
    (ChangeSpec.witness6 (enc := enc) (C := Tryz.checked) false ⟨#[], #[.agg #[.slice none 0 0, .slice none 0 0], .string ByteArray.empty, .string ByteArray.empty, .agg #[.string ByteArray.empty, .int .i64 0, .slice none 0 0, .int .i64 0, .int .i64 0, .string ByteArray.empty, .string ByteArray.empty, .string ByteArray.empty]], []⟩ 8 (by kernel_rfl) (by kernel_rfl) (by kernel_rfl) (by kernel_rfl))
    rfl rfl Tryz.underlying4 ?_ laid_out ?_ ?_
  · intro ds hds
    match ds, hds with
    | [d0, d1, d2, d3], _ => rfl
  · intro t ht
    have : t = 25 ∨ t = 9 ∨ t = 29 := by simpa [Tryz.params3] using ht
    rcases this with rfl | rfl | rfl
    all_goals exact ⟨by kernel_rfl, of_decide_eq_true (by kernel_rfl)⟩
  · intro W vs hl hrd
    match vs, hl with
    | [v0, v1, v2, v3], _ =>
      have h0 := hrd 0 25 v0 rfl rfl
      have h1 := hrd 1 9 v1 rfl rfl
      have h2 := hrd 2 9 v2 rfl rfl
      have h3 := hrd 3 29 v3 rfl rfl
      obtain ⟨cs0, rfl, q0⟩ := h0.struct Tryz.underlying25
      obtain ⟨x0, A0, cap0, B0, capB0, rfl, y0, z0⟩ := rd_objs q0
      obtain ⟨x1, rfl, z1⟩ := h1.string Tryz.underlying9
      obtain ⟨x2, rfl, z2⟩ := h2.string Tryz.underlying9
      obtain ⟨cs3, rfl, q3⟩ := h3.struct Tryz.underlying29
      obtain ⟨x3, A3, cap3, rfl, z3, s3⟩ := rd_rule q3
      exact law_rules x0 x1 x2 x3 A3 cap3 A0 cap0 B0 capB0 W y0 z0 z3 s3.1 s3.2.1 s3.2.2.1 s3.2.2.2
theorem proved : Rows.ObjectsRulesSaid :=
  OpenClaim.holds_of_wide 3 Tryz.f3 rfl rfl rfl rfl rfl rfl rfl ⟨rfl, rfl, rfl, rfl, rfl⟩ rfl rfl rfl rfl rfl (by kernel_rfl) Tryz.func3 (by kernel_rfl)
    (of_decide_eq_true (by kernel_rfl)) (by unfold Func.isWrapper; first | (rw [if_pos (by decide +kernel)]; kernel_rfl) | (rw [if_neg (by decide +kernel)]; exact ⟨rfl, rfl⟩))
    (fun os started H enc _ => lifted os started H enc)
#print axioms proved
end Go.Proofs.YticjnndhpfdajaaGreat.objectsRules
