/- For every value v, table t, rows a and b: RowsMay(v, t, a, b) returns true, and the arguments read afterwards as before. No condition. -/
import Derived.Test.YtodifdofgjfkiaaLawRMay
import Derived.Test.YtodifdofgjfkiaaRdV
namespace Go.Proofs.Ytodifdofgjfkiaa.rowsMay
open Go.ChangeShapes Go.WideShapes Go.ChangeAt Go.RowKit
set_option maxRecDepth 100000
set_option linter.unusedVariables false
theorem lifted (os : Os) (started : os.Started) (H : Type) (enc : TypeId × Value → H) :
    ReturnsInHanded {} Try.checked os 6 .any (Rows.rowsMaySpec.pre6 enc Try.prog Try.f6 Rows.rowsMayRow.domain false) (Rows.rowsMaySpec.post enc Try.prog Try.f6 false true false false) := by
  refine law_lifted (C := Try.checked) (tb := 4) H enc own_knob started (by kernel_rfl) Try.func6
    (ChangeSpec.witness6 (enc := enc) (C := Try.checked) false ⟨#[], #[.agg #[.int .i64 0, .int .i64 0, .string ByteArray.empty], .agg #[.string ByteArray.empty, .string ByteArray.empty, .string ByteArray.empty, .slice none 0 0, .slice none 0 0], .slice none 0 0, .slice none 0 0], []⟩ 8 (by kernel_rfl) (by kernel_rfl) (by kernel_rfl) (by kernel_rfl))
    rfl rfl Try.underlying4 ?_ laid_out ?_ ?_
  · intro ds hds
    match ds, hds with
    | [d0, d1, d2, d3], _ => rfl
  · intro t ht
    have : t = 48 ∨ t = 34 ∨ t = 49 := by simpa [Try.params6] using ht
    rcases this with rfl | rfl | rfl
    all_goals exact ⟨by kernel_rfl, of_decide_eq_true (by kernel_rfl)⟩
  · intro W vs hl hrd
    match vs, hl with
    | [v0, v1, v2, v3], _ =>
      have h0 := hrd 0 48 v0 rfl rfl
      have h1 := hrd 1 34 v1 rfl rfl
      have h2 := hrd 2 49 v2 rfl rfl
      have h3 := hrd 3 49 v3 rfl rfl
      obtain ⟨cs0, rfl, q0⟩ := h0.struct Try.underlying48
      obtain ⟨x0, rfl, z0⟩ := rd_val q0
      obtain ⟨cs1, rfl, q1⟩ := h1.struct Try.underlying34
      obtain ⟨x1, A1, cap1, B1, capB1, rfl, y1, z1, s1⟩ := rd_tab q1
      have q2 := h2.slice Try.underlying49
      obtain ⟨x2, A2, cap2, e2, z2⟩ := rd_vals q2
      simp only [List.cons.injEq, and_true] at e2
      subst e2
      have q3 := h3.slice Try.underlying49
      obtain ⟨x3, A3, cap3, e3, z3⟩ := rd_vals q3
      simp only [List.cons.injEq, and_true] at e3
      subst e3
      exact law_rmay x0 x1 x2 x3 A1 cap1 B1 capB1 A2 cap2 A3 cap3 W z0 y1 z1 z2 z3
theorem proved : Rows.RowsMaySaid :=
  OpenClaim.holds_of_wide 6 Try.f6 rfl rfl rfl rfl rfl rfl rfl ⟨rfl, rfl, rfl, rfl, rfl⟩ rfl rfl rfl rfl rfl (by kernel_rfl) Try.func6 (by kernel_rfl)
    (of_decide_eq_true (by kernel_rfl)) (by unfold Func.isWrapper; first | (rw [if_pos (by decide +kernel)]; kernel_rfl) | (rw [if_neg (by decide +kernel)]; exact ⟨rfl, rfl⟩))
    (fun os started H enc _ => lifted os started H enc)
#print axioms proved
end Go.Proofs.Ytodifdofgjfkiaa.rowsMay
