/- For every catalog c, command x, texts role, schema and table and every right: CatalogLeaves(c, x, role, schema, table, right) returns true, and the arguments read afterwards as before. No condition. -/
import Derived.Test.YtmflccbnoeaafaaGreatPartC27
import Derived.Test.YtmflccbnoeaafaaGreatPartC28
namespace Go.Proofs.YtmflccbnoeaafaaGreat.catalogLeaves
open Go.ChangeShapes Go.WideShapes Go.ChangeAt Go.RowKit
set_option maxRecDepth 100000
set_option linter.unusedVariables false
theorem lifted (os : Os) (started : os.Started) (H : Type) (enc : TypeId × Value → H) :
    ReturnsInHanded {} Tryz.checked os 4 .any (Rows.catalogLeavesSpec.pre6 enc Tryz.prog Tryz.f4 Rows.catalogLeavesRow.domain false) (Rows.catalogLeavesSpec.post enc Tryz.prog Tryz.f4 false true false false) := by
  refine sG (C := Tryz.checked) (tb := 4) H enc xT started (by kernel_rfl) Tryz.func4
    (ChangeSpec.witness6 (enc := enc) (C := Tryz.checked) false ⟨#[], #[.agg #[.int .i64 0, .int .i64 0, .slice none 0 0, .slice none 0 0, .slice none 0 0, .slice none 0 0, .slice none 0 0], .agg #[.int .i64 0, .string ByteArray.empty, .string ByteArray.empty, .string ByteArray.empty, .string ByteArray.empty, .string ByteArray.empty, .slice none 0 0, .string ByteArray.empty, .int .i64 0, .slice none 0 0, .int .i64 0, .int .i64 0, .string ByteArray.empty, .string ByteArray.empty, .string ByteArray.empty, .int .i64 0, .bool false], .string ByteArray.empty, .string ByteArray.empty, .string ByteArray.empty, .int .i64 0], []⟩ 8 (by kernel_rfl) (by kernel_rfl) (by kernel_rfl) (by kernel_rfl))
    rfl rfl Tryz.underlying4 ?_ xU ?_ ?_
  · intro ds lD
    match ds, lD with
    | [d0, d1, d2, d3, d4, d5], _ => rfl
  · intro t ht
    have : t = 32 ∨ t = 40 ∨ t = 9 ∨ t = 38 := by simpa [Tryz.params4] using ht
    rcases this with rfl | rfl | rfl | rfl
    all_goals exact ⟨by kernel_rfl, of_decide_eq_true (by kernel_rfl)⟩
  · intro W vs hl Av
    match vs, hl with
    | [v0, v1, v2, v3, v4, v5], _ =>
      have h0 := Av 0 32 v0 rfl rfl
      have h1 := Av 1 40 v1 rfl rfl
      have h2 := Av 2 9 v2 rfl rfl
      have h3 := Av 3 9 v3 rfl rfl
      have h4 := Av 4 9 v4 rfl rfl
      have h5 := Av 5 38 v5 rfl rfl
      obtain ⟨cs0, rfl, q0⟩ := h0.struct Tryz.underlying32
      obtain ⟨x0, As, ar, At, ax, An, aI, Am, aK, Ag, aS, rfl, jq, VP, VQ, VR, VS, z0⟩ := Gz q0
      obtain ⟨cs1, rfl, q1⟩ := h1.struct Tryz.underlying40
      obtain ⟨x1, A6, c6, A9, c9, rfl, y1⟩ := Dh q1
      obtain ⟨x2, rfl, z2⟩ := h2.string Tryz.underlying9
      obtain ⟨x3, rfl, z3⟩ := h3.string Tryz.underlying9
      obtain ⟨x4, rfl, z4⟩ := h4.string Tryz.underlying9
      obtain ⟨x5, rfl, z5⟩ := h5.int Tryz.underlying38
      exact wl x0 As ar At ax An aI Am aK Ag aS x1 A6 c6 A9 c9 x2 x3 x4 x5 W ⟨jq, VP, VQ, VR, VS⟩ y1 z2
theorem j1 : (Rows.catalogLeavesRow.inPlace == Tryz.pinned.checked.prog.inPlace 4) = true := by kernel_rfl
theorem j2 : (Rows.catalogLeavesRow.unfollowed == Tryz.pinned.checked.prog.unfollowed 4) = true := by kernel_rfl
theorem j3 : (Rows.catalogLeavesRow.recurses == Tryz.pinned.checked.prog.recurses 4) = true := by kernel_rfl
theorem j4 : (Rows.catalogLeavesRow.named == Tryz.pinned.checked.prog.varsNamed 4) = true := by kernel_rfl
theorem joined : joinedFacts Tryz.pinned.checked.prog 4 Tryz.f4 Rows.catalogLeavesSpec Rows.catalogLeavesRow = true := by
  unfold joinedFacts
  rw [j1, j2, j3, j4]
  kernel_rfl
theorem proved : Rows.CatalogLeavesSaid :=
  OpenClaim.holds_of_wide 4 Tryz.f4 rfl rfl rfl rfl rfl rfl rfl ⟨rfl, rfl, rfl, rfl, rfl⟩ rfl rfl rfl rfl rfl (by kernel_rfl) Tryz.func4 (joined)
    (of_decide_eq_true (by kernel_rfl)) (by unfold Func.isWrapper; first | (rw [if_pos (by decide +kernel)]; kernel_rfl) | (rw [if_neg (by decide +kernel)]; exact ⟨rfl, rfl⟩))
    (fun os started H enc _ => lifted os started H enc)
#print axioms proved
end Go.Proofs.YtmflccbnoeaafaaGreat.catalogLeaves
