/- For all columns from and to and every row: RowsBack(from, to, row) returns true, and the arguments read afterwards as before. No condition. -/
import Derived.Test.YtodifdofgjfkiaaLawRBack
import Derived.Test.YtodifdofgjfkiaaRdV
namespace Go.Proofs.Ytodifdofgjfkiaa.rowsBack
open Go.ChangeShapes Go.WideShapes Go.ChangeAt Go.RowKit
set_option maxRecDepth 100000
set_option linter.unusedVariables false
theorem lifted (os : Os) (started : os.Started) (H : Type) (enc : TypeId × Value → H) :
    ReturnsInHanded {} Try.checked os 10 .any (Rows.rowsBackSpec.pre6 enc Try.prog Try.f10 Rows.rowsBackRow.domain false) (Rows.rowsBackSpec.post enc Try.prog Try.f10 false true false false) := by
  refine law_lifted (C := Try.checked) (tb := 4) H enc own_knob started (by kernel_rfl) Try.func10
    (ChangeSpec.witness6 (enc := enc) (C := Try.checked) false ⟨#[], #[.slice none 0 0, .slice none 0 0, .slice none 0 0], []⟩ 8 (by kernel_rfl) (by kernel_rfl) (by kernel_rfl) (by kernel_rfl))
    rfl rfl Try.underlying4 ?_ laid_out ?_ ?_
  · intro ds hds
    match ds, hds with
    | [d0, d1, d2], _ => rfl
  · intro t ht
    have : t = 31 ∨ t = 49 := by simpa [Try.params10] using ht
    rcases this with rfl | rfl
    all_goals exact ⟨by kernel_rfl, of_decide_eq_true (by kernel_rfl)⟩
  · intro W vs hl hrd
    match vs, hl with
    | [v0, v1, v2], _ =>
      have h0 := hrd 0 31 v0 rfl rfl
      have h1 := hrd 1 31 v1 rfl rfl
      have h2 := hrd 2 49 v2 rfl rfl
      have q0 := h0.slice Try.underlying31
      obtain ⟨x0, A0, cap0, e0, z0⟩ := rd_cols q0
      simp only [List.cons.injEq, and_true] at e0
      subst e0
      have q1 := h1.slice Try.underlying31
      obtain ⟨x1, A1, cap1, e1, z1⟩ := rd_cols q1
      simp only [List.cons.injEq, and_true] at e1
      subst e1
      have q2 := h2.slice Try.underlying49
      obtain ⟨x2, A2, cap2, e2, z2⟩ := rd_vals q2
      simp only [List.cons.injEq, and_true] at e2
      subst e2
      exact law_rback x0 x1 x2 A0 cap0 A1 cap1 A2 cap2 W z0 z1 z2
theorem proved : Rows.RowsBackSaid :=
  OpenClaim.holds_of_wide 10 Try.f10 rfl rfl rfl rfl rfl rfl rfl ⟨rfl, rfl, rfl, rfl, rfl⟩ rfl rfl rfl rfl rfl (by kernel_rfl) Try.func10 (by kernel_rfl)
    (of_decide_eq_true (by kernel_rfl)) (by unfold Func.isWrapper; first | (rw [if_pos (by decide +kernel)]; kernel_rfl) | (rw [if_neg (by decide +kernel)]; exact ⟨rfl, rfl⟩))
    (fun os started H enc _ => lifted os started H enc)
#print axioms proved
end Go.Proofs.Ytodifdofgjfkiaa.rowsBack
