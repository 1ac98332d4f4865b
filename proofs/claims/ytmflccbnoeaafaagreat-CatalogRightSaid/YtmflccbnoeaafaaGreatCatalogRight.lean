/- For every catalog c and command x: CatalogRight(c, x) returns true, and the arguments read afterwards as before. No condition. -/
import Derived.Test.YtmflccbnoeaafaaGreatPartC27
import Derived.Test.YtmflccbnoeaafaaGreatPartC29
namespace Go.Proofs.YtmflccbnoeaafaaGreat.catalogRight
open Go.ChangeShapes Go.WideShapes Go.ChangeAt Go.RowKit
set_option maxRecDepth 100000
set_option linter.unusedVariables false
theorem lifted (os : Os) (started : os.Started) (H : Type) (enc : TypeId × Value → H) :
    ReturnsInHanded {} Tryz.checked os 3 .any (Rows.catalogRightSpec.pre6 enc Tryz.prog Tryz.f3 Rows.catalogRightRow.domain false) (Rows.catalogRightSpec.post enc Tryz.prog Tryz.f3 false true false false) := by
  refine sG (C := Tryz.checked) (tb := 4) H enc xT started (by kernel_rfl) Tryz.func3
    (ChangeSpec.witness6 (enc := enc) (C := Tryz.checked) false ⟨#[], #[.agg #[.int .i64 0, .int .i64 0, .slice none 0 0, .slice none 0 0, .slice none 0 0, .slice none 0 0, .slice none 0 0], .agg #[.int .i64 0, .string ByteArray.empty, .string ByteArray.empty, .string ByteArray.empty, .string ByteArray.empty, .string ByteArray.empty, .slice none 0 0, .string ByteArray.empty, .int .i64 0, .slice none 0 0, .int .i64 0, .int .i64 0, .string ByteArray.empty, .string ByteArray.empty, .string ByteArray.empty, .int .i64 0, .bool false]], []⟩ 8 (by kernel_rfl) (by kernel_rfl) (by kernel_rfl) (by kernel_rfl))
    rfl rfl Tryz.underlying4 ?_ xU ?_ ?_
  · intro ds lD
    match ds, lD with
    | [d0, d1], _ => rfl
  · intro t ht
    have : t = 32 ∨ t = 40 := by simpa [Tryz.params3] using ht
    rcases this with rfl | rfl
    all_goals exact ⟨by kernel_rfl, of_decide_eq_true (by kernel_rfl)⟩
  · intro W vs hl Av
    match vs, hl with
    | [v0, v1], _ =>
      have h0 := Av 0 32 v0 rfl rfl
      have h1 := Av 1 40 v1 rfl rfl
      obtain ⟨cs0, rfl, q0⟩ := h0.struct Tryz.underlying32
      obtain ⟨x0, As, ar, At, ax, An, aI, Am, aK, Ag, aS, rfl, jq, VP, VQ, VR, VS, z0⟩ := Gz q0
      obtain ⟨cs1, rfl, q1⟩ := h1.struct Tryz.underlying40
      obtain ⟨x1, A6, c6, A9, c9, rfl, y1⟩ := Dh q1
      exact xV x0 As ar At ax An aI Am aK Ag aS x1 A6 c6 A9 c9 W ⟨jq, VP, VQ, VR, VS⟩ y1
theorem j1 : (Rows.catalogRightRow.inPlace == Tryz.pinned.checked.prog.inPlace 3) = true := by kernel_rfl
theorem j2 : (Rows.catalogRightRow.unfollowed == Tryz.pinned.checked.prog.unfollowed 3) = true := by kernel_rfl
theorem j3 : (Rows.catalogRightRow.recurses == Tryz.pinned.checked.prog.recurses 3) = true := by kernel_rfl
theorem j4 : (Rows.catalogRightRow.named == Tryz.pinned.checked.prog.varsNamed 3) = true := by kernel_rfl
theorem joined : joinedFacts Tryz.pinned.checked.prog 3 Tryz.f3 Rows.catalogRightSpec Rows.catalogRightRow = true := by
  unfold joinedFacts
  rw [j1, j2, j3, j4]
  kernel_rfl
theorem proved : Rows.CatalogRightSaid :=
  OpenClaim.holds_of_wide 3 Tryz.f3 rfl rfl rfl rfl rfl rfl rfl ⟨rfl, rfl, rfl, rfl, rfl⟩ rfl rfl rfl rfl rfl (by kernel_rfl) Tryz.func3 (joined)
    (of_decide_eq_true (by kernel_rfl)) (by unfold Func.isWrapper; first | (rw [if_pos (by decide +kernel)]; kernel_rfl) | (rw [if_neg (by decide +kernel)]; exact ⟨rfl, rfl⟩))
    (fun os started H enc _ => lifted os started H enc)
#print axioms proved
end Go.Proofs.YtmflccbnoeaafaaGreat.catalogRight
