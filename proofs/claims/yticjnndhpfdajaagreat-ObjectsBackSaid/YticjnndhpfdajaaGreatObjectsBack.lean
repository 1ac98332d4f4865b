/- For all objects o, texts schema and table, every column c and rule r: ObjectsBack(o, schema, table, c, r) returns true, and the arguments read afterwards as before. No condition. -/
import Derived.Test.YticjnndhpfdajaaGreatPart36
import Derived.Test.YticjnndhpfdajaaGreatPart30
namespace Go.Proofs.YticjnndhpfdajaaGreat.objectsBack
open Go.ChangeShapes Go.WideShapes Go.ChangeAt Go.RowKit
set_option maxRecDepth 100000
set_option linter.unusedVariables false
theorem lifted (os : Os) (started : os.Started) (H : Type) (enc : TypeId × Value → H) :
    ReturnsInHanded {} Tryz.checked os 4 .any (Rows.objectsBackSpec.pre6 enc Tryz.prog Tryz.f4 Rows.objectsBackRow.domain false) (Rows.objectsBackSpec.post enc Tryz.prog Tryz.f4 false true false false) := by
  refine law_lifted (C := Tryz.checked) (tb := 4) H enc own_knob started (by kernel_rfl) Tryz.func4
    (ChangeSpec.witness6 (enc := enc) (C := Tryz.checked) false ⟨#[], #[.agg #[.slice none 0 0, .slice none 0 0], .string ByteArray.empty, .string ByteArray.empty, .agg #[.string ByteArray.empty, .int .i64 0, .bool false], .agg #[.string ByteArray.empty, .int .i64 0, .slice none 0 0, .int .i64 0, .int .i64 0, .string ByteArray.empty, .string ByteArray.empty, .string ByteArray.empty]], []⟩ 8 (by kernel_rfl) (by kernel_rfl) (by kernel_rfl) (by kernel_rfl))
    rfl rfl Tryz.underlying4 ?_ laid_out ?_ ?_
  · intro ds hds
    match ds, hds with
    | [d0, d1, d2, d3, d4], _ => rfl
  · intro t ht
    have : t = 25 ∨ t = 9 ∨ t = 41 ∨ t = 29 := by simpa [Tryz.params4] using ht
    rcases this with rfl | rfl | rfl | rfl
    all_goals exact ⟨by kernel_rfl, of_decide_eq_true (by kernel_rfl)⟩
  · intro W vs hl hrd
    match vs, hl with
    | [v0, v1, v2, v3, v4], _ =>
      have h0 := hrd 0 25 v0 rfl rfl
      have h1 := hrd 1 9 v1 rfl rfl
      have h2 := hrd 2 9 v2 rfl rfl
      have h3 := hrd 3 41 v3 rfl rfl
      have h4 := hrd 4 29 v4 rfl rfl
      obtain ⟨cs0, rfl, q0⟩ := h0.struct Tryz.underlying25
      obtain ⟨x0, A0, cap0, B0, capB0, rfl, y0, z0⟩ := rd_objs q0
      obtain ⟨x1, rfl, z1⟩ := h1.string Tryz.underlying9
      obtain ⟨x2, rfl, z2⟩ := h2.string Tryz.underlying9
      obtain ⟨cs3, rfl, q3⟩ := h3.struct Tryz.underlying41
      obtain ⟨x3, rfl, z3⟩ := rd_col q3
      obtain ⟨cs4, rfl, q4⟩ := h4.struct Tryz.underlying29
      obtain ⟨x4, A4, cap4, rfl, z4, s4⟩ := rd_rule q4
      exact law_back x0 x1 x2 x3 x4 A4 cap4 A0 cap0 B0 capB0 W y0 z0 z4 ⟨s4.1, s4.2.1, s4.2.2.1, s4.2.2.2⟩ z3 z1 z2
theorem proved : Rows.ObjectsBackSaid :=
  OpenClaim.holds_of_wide 4 Tryz.f4 rfl rfl rfl rfl rfl rfl rfl ⟨rfl, rfl, rfl, rfl, rfl⟩ rfl rfl rfl rfl rfl (by kernel_rfl) Tryz.func4 (by kernel_rfl)
    (of_decide_eq_true (by kernel_rfl)) (by unfold Func.isWrapper; first | (rw [if_pos (by decide +kernel)]; kernel_rfl) | (rw [if_neg (by decide +kernel)]; exact ⟨rfl, rfl⟩))
    (fun os started H enc _ => lifted os started H enc)
#print axioms proved
end Go.Proofs.YticjnndhpfdajaaGreat.objectsBack
