/- For every table t and row: RowsFit(t, row) returns true, and the arguments read afterwards as before. No condition. -/
import Derived.Test.YtodifdofgjfkiaaLawRFit
import Derived.Test.YtodifdofgjfkiaaRdV
namespace Go.Proofs.Ytodifdofgjfkiaa.rowsFit
open Go.ChangeShapes Go.WideShapes Go.ChangeAt Go.RowKit
set_option maxRecDepth 100000
set_option linter.unusedVariables false
theorem lifted (os : Os) (started : os.Started) (H : Type) (enc : TypeId × Value → H) :
    ReturnsInHanded {} Try.checked os 8 .any (Rows.rowsFitSpec.pre6 enc Try.prog Try.f8 Rows.rowsFitRow.domain false) (Rows.rowsFitSpec.post enc Try.prog Try.f8 false true false false) := by
  refine law_lifted (C := Try.checked) (tb := 4) H enc own_knob started (by kernel_rfl) Try.func8
    (ChangeSpec.witness6 (enc := enc) (C := Try.checked) false ⟨#[], #[.agg #[.string ByteArray.empty, .string ByteArray.empty, .string ByteArray.empty, .slice none 0 0, .slice none 0 0], .slice none 0 0], []⟩ 8 (by kernel_rfl) (by kernel_rfl) (by kernel_rfl) (by kernel_rfl))
    rfl rfl Try.underlying4 ?_ laid_out ?_ ?_
  · intro ds hds
    match ds, hds with
    | [d0, d1], _ => rfl
  · intro t ht
    have : t = 34 ∨ t = 49 := by simpa [Try.params8] using ht
    rcases this with rfl | rfl
    all_goals exact ⟨by kernel_rfl, of_decide_eq_true (by kernel_rfl)⟩
  · intro W vs hl hrd
    match vs, hl with
    | [v0, v1], _ =>
      have h0 := hrd 0 34 v0 rfl rfl
      have h1 := hrd 1 49 v1 rfl rfl
      obtain ⟨cs0, rfl, q0⟩ := h0.struct Try.underlying34
      obtain ⟨x0, A0, cap0, B0, capB0, rfl, y0, z0, s0⟩ := rd_tab q0
      have q1 := h1.slice Try.underlying49
      obtain ⟨x1, A1, cap1, e1, z1⟩ := rd_vals q1
      simp only [List.cons.injEq, and_true] at e1
      subst e1
      exact law_rfit x0 x1 A0 cap0 B0 capB0 A1 cap1 W y0 z0 z1
theorem proved : Rows.RowsFitSaid :=
  OpenClaim.holds_of_wide 8 Try.f8 rfl rfl rfl rfl rfl rfl rfl ⟨rfl, rfl, rfl, rfl, rfl⟩ rfl rfl rfl rfl rfl (by kernel_rfl) Try.func8 (by kernel_rfl)
    (of_decide_eq_true (by kernel_rfl)) (by unfold Func.isWrapper; first | (rw [if_pos (by decide +kernel)]; kernel_rfl) | (rw [if_neg (by decide +kernel)]; exact ⟨rfl, rfl⟩))
    (fun os started H enc _ => lifted os started H enc)
#print axioms proved
end Go.Proofs.Ytodifdofgjfkiaa.rowsFit
