/- For every table t, text rule and row: RowsKey(t, rule, row) returns true, and the arguments read afterwards as before. No condition. -/
import Derived.Test.YtodifdofgjfkiaaLawRKey
import Derived.Test.YtodifdofgjfkiaaRdV
namespace Go.Proofs.Ytodifdofgjfkiaa.rowsKey
open Go.ChangeShapes Go.WideShapes Go.ChangeAt Go.RowKit
set_option maxRecDepth 100000
set_option linter.unusedVariables false
theorem lifted (os : Os) (started : os.Started) (H : Type) (enc : TypeId × Value → H) :
    ReturnsInHanded {} Try.checked os 9 .any (Rows.rowsKeySpec.pre6 enc Try.prog Try.f9 Rows.rowsKeyRow.domain false) (Rows.rowsKeySpec.post enc Try.prog Try.f9 false true false false) := by
  refine law_lifted (C := Try.checked) (tb := 4) H enc own_knob started (by kernel_rfl) Try.func9
    (ChangeSpec.witness6 (enc := enc) (C := Try.checked) false ⟨#[], #[.agg #[.string ByteArray.empty, .string ByteArray.empty, .string ByteArray.empty, .slice none 0 0, .slice none 0 0], .string ByteArray.empty, .slice none 0 0], []⟩ 8 (by kernel_rfl) (by kernel_rfl) (by kernel_rfl) (by kernel_rfl))
    rfl rfl Try.underlying4 ?_ laid_out ?_ ?_
  · intro ds hds
    match ds, hds with
    | [d0, d1, d2], _ => rfl
  · intro t ht
    have : t = 34 ∨ t = 9 ∨ t = 49 := by simpa [Try.params9] using ht
    rcases this with rfl | rfl | rfl
    all_goals exact ⟨by kernel_rfl, of_decide_eq_true (by kernel_rfl)⟩
  · intro W vs hl hrd
    match vs, hl with
    | [v0, v1, v2], _ =>
      have h0 := hrd 0 34 v0 rfl rfl
      have h1 := hrd 1 9 v1 rfl rfl
      have h2 := hrd 2 49 v2 rfl rfl
      obtain ⟨cs0, rfl, q0⟩ := h0.struct Try.underlying34
      obtain ⟨x0, A0, cap0, B0, capB0, rfl, y0, z0, s0⟩ := rd_tab q0
      obtain ⟨x1, rfl, z1⟩ := h1.string Try.underlying9
      have q2 := h2.slice Try.underlying49
      obtain ⟨x2, A2, cap2, e2, z2⟩ := rd_vals q2
      simp only [List.cons.injEq, and_true] at e2
      subst e2
      exact law_rkey x0 x1 x2 A0 cap0 B0 capB0 A2 cap2 W y0 z0 z1 z2
theorem proved : Rows.RowsKeySaid :=
  OpenClaim.holds_of_wide 9 Try.f9 rfl rfl rfl rfl rfl rfl rfl ⟨rfl, rfl, rfl, rfl, rfl⟩ rfl rfl rfl rfl rfl (by kernel_rfl) Try.func9 (by kernel_rfl)
    (of_decide_eq_true (by kernel_rfl)) (by unfold Func.isWrapper; first | (rw [if_pos (by decide +kernel)]; kernel_rfl) | (rw [if_neg (by decide +kernel)]; exact ⟨rfl, rfl⟩))
    (fun os started H enc _ => lifted os started H enc)
#print axioms proved
end Go.Proofs.Ytodifdofgjfkiaa.rowsKey
