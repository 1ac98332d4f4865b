/- For all objects o, every table t and texts schema and table: ObjectsTables(o, t, schema, table) returns true, and the arguments read afterwards as before. No condition. -/
import Derived.Test.YticjnndhpfdajaaPart40
import Derived.Test.YticjnndhpfdajaaPart33
namespace Go.Proofs.Yticjnndhpfdajaa.objectsTables
open Go.ChangeShapes Go.WideShapes Go.ChangeAt Go.RowKit
set_option maxRecDepth 100000
set_option linter.unusedVariables false
theorem lifted (os : Os) (started : os.Started) (H : Type) (enc : TypeId × Value → H) :
    ReturnsInHanded {} Try.checked os 3 .any (Rows.objectsTablesSpec.pre6 enc Try.prog Try.f3 Rows.objectsTablesRow.domain false) (Rows.objectsTablesSpec.post enc Try.prog Try.f3 false true false false) := by
  refine law_lifted (C := Try.checked) (tb := 4) H enc own_knob started (by kernel_rfl) Try.func3
    (ChangeSpec.witness6 (enc := enc) (C := Try.checked) false ⟨#[], #[.agg #[.slice none 0 0, .slice none 0 0], .agg #[.string ByteArray.empty, .string ByteArray.empty, .string ByteArray.empty, .slice none 0 0, .slice none 0 0], .string ByteArray.empty, .string ByteArray.empty], []⟩ 8 (by kernel_rfl) (by kernel_rfl) (by kernel_rfl) (by kernel_rfl))
    rfl rfl Try.underlying4 ?_ laid_out ?_ ?_
  · intro ds hds
    match ds, hds with
    | [d0, d1, d2, d3], _ => rfl
  · intro t ht
    have : t = 25 ∨ t = 29 ∨ t = 9 := by simpa [Try.params3] using ht
    rcases this with rfl | rfl | rfl
    all_goals exact ⟨by kernel_rfl, of_decide_eq_true (by kernel_rfl)⟩
  · intro W vs hl hrd
    match vs, hl with
    | [v0, v1, v2, v3], _ =>
      have h0 := hrd 0 25 v0 rfl rfl
      have h1 := hrd 1 29 v1 rfl rfl
      have h2 := hrd 2 9 v2 rfl rfl
      have h3 := hrd 3 9 v3 rfl rfl
      obtain ⟨cs0, rfl, q0⟩ := h0.struct Try.underlying25
      obtain ⟨x0, A0, cap0, B0, capB0, rfl, y0, z0⟩ := rd_objs q0
      obtain ⟨cs1, rfl, q1⟩ := h1.struct Try.underlying29
      obtain ⟨x1, A1, cap1, B1, capB1, rfl, y1, z1, s1⟩ := rd_tab q1
      obtain ⟨x2, rfl, z2⟩ := h2.string Try.underlying9
      obtain ⟨x3, rfl, z3⟩ := h3.string Try.underlying9
      exact law_tables x0 x1 A1 cap1 B1 capB1 x2 x3 A0 cap0 B0 capB0 W y0 z0 y1 z1 s1.1 s1.2.1 s1.2.2
theorem proved : Rows.ObjectsTablesSaid :=
  OpenClaim.holds_of_wide 3 Try.f3 rfl rfl rfl rfl rfl rfl rfl ⟨rfl, rfl, rfl, rfl, rfl⟩ rfl rfl rfl rfl rfl (by kernel_rfl) Try.func3 (by kernel_rfl)
    (of_decide_eq_true (by kernel_rfl)) (by unfold Func.isWrapper; first | (rw [if_pos (by decide +kernel)]; kernel_rfl) | (rw [if_neg (by decide +kernel)]; exact ⟨rfl, rfl⟩))
    (fun os started H enc _ => lifted os started H enc)
#print axioms proved
end Go.Proofs.Yticjnndhpfdajaa.objectsTables
