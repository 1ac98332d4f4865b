/- For all objects o, texts schema and table and every column c: ObjectsColumns(o, schema, table, c) returns true, and the arguments read afterwards as before. No condition. -/
import Derived.Test.YtodifdofgjfkiaaPart10
namespace Go.Proofs.Ytodifdofgjfkiaa.objectsColumns
open Go.ChangeShapes Go.WideShapes Go.ChangeAt Go.RowKit
set_option maxRecDepth 100000
set_option linter.unusedVariables false
theorem lifted (os : Os) (started : os.Started) (H : Type) (enc : TypeId × Value → H) :
    ReturnsInHanded {} Try.checked os 5 .any (Rows.objectsColumnsSpec.pre6 enc Try.prog Try.f5 Rows.objectsColumnsRow.domain false) (Rows.objectsColumnsSpec.post enc Try.prog Try.f5 false true false false) := by
  refine law_lifted (C := Try.checked) (tb := 4) H enc own_knob started (by kernel_rfl) Try.func5
    (ChangeSpec.witness6 (enc := enc) (C := Try.checked) false ⟨#[], #[.agg #[.slice none 0 0, .slice none 0 0], .string ByteArray.empty, .string ByteArray.empty, .agg #[.string ByteArray.empty, .int .i64 0, .bool false]], []⟩ 8 (by kernel_rfl) (by kernel_rfl) (by kernel_rfl) (by kernel_rfl))
    rfl rfl Try.underlying4 ?_ laid_out ?_ ?_
  · intro ds hds
    match ds, hds with
    | [d0, d1, d2, d3], _ => rfl
  · intro t ht
    have : t = 25 ∨ t = 9 ∨ t = 40 := by simpa [Try.params5] using ht
    rcases this with rfl | rfl | rfl
    all_goals exact ⟨by kernel_rfl, of_decide_eq_true (by kernel_rfl)⟩
  · intro W vs hl hrd
    match vs, hl with
    | [v0, v1, v2, v3], _ =>
      have h0 := hrd 0 25 v0 rfl rfl
      have h1 := hrd 1 9 v1 rfl rfl
      have h2 := hrd 2 9 v2 rfl rfl
      have h3 := hrd 3 40 v3 rfl rfl
      obtain ⟨cs0, rfl, q0⟩ := h0.struct Try.underlying25
      obtain ⟨x0, A0, cap0, B0, capB0, rfl, y0, z0⟩ := rd_objs q0
      obtain ⟨x1, rfl, z1⟩ := h1.string Try.underlying9
      obtain ⟨x2, rfl, z2⟩ := h2.string Try.underlying9
      obtain ⟨cs3, rfl, q3⟩ := h3.struct Try.underlying40
      obtain ⟨x3, rfl, z3⟩ := rd_col q3
      exact law_columns x0 x1 x2 x3.name x3.kind x3.null A0 cap0 B0 capB0 W y0 z0 z3
theorem proved : Rows.ObjectsColumnsSaid :=
  OpenClaim.holds_of_wide 5 Try.f5 rfl rfl rfl rfl rfl rfl rfl ⟨rfl, rfl, rfl, rfl, rfl⟩ rfl rfl rfl rfl rfl (by kernel_rfl) Try.func5 (by kernel_rfl)
    (of_decide_eq_true (by kernel_rfl)) (by unfold Func.isWrapper; first | (rw [if_pos (by decide +kernel)]; kernel_rfl) | (rw [if_neg (by decide +kernel)]; exact ⟨rfl, rfl⟩))
    (fun os started H enc _ => lifted os started H enc)
#print axioms proved
end Go.Proofs.Ytodifdofgjfkiaa.objectsColumns
