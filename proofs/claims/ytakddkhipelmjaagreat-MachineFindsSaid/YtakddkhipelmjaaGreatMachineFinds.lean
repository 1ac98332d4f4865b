/- For every machine m and numbers client and number: MachineFinds(m, client, number) returns true, and the arguments read afterwards as before. No condition. -/
import Derived.Test.YtakddkhipelmjaaGreatPartF21
namespace Go.Proofs.YtakddkhipelmjaaGreat.machineFinds
open Go.ChangeShapes Go.WideShapes Go.ChangeAt Go.RowKit
set_option maxRecDepth 100000
set_option linter.unusedVariables false
theorem lifted (os : Os) (started : os.Started) (H : Type) (enc : TypeId × Value → H) :
    ReturnsInHanded {} Tryz.checked os 3 .any (Rows.machineFindsSpec.pre6 enc Tryz.prog Tryz.f3 Rows.machineFindsRow.domain false) (Rows.machineFindsSpec.post enc Tryz.prog Tryz.f3 false true false false) := by
  refine Bi (C := Tryz.checked) (tb := 4) H enc Hm started (by kernel_rfl) Tryz.func3
    (ChangeSpec.witness6 (enc := enc) (C := Tryz.checked) false ⟨#[], #[.agg #[.int .i64 0, .int .i64 0, .slice none 0 0, .slice none 0 0, .slice none 0 0, .slice none 0 0, .slice none 0 0, .slice none 0 0, .slice none 0 0, .int .i64 0], .int .i64 0, .int .i64 0], []⟩ 8 (by kernel_rfl) (by kernel_rfl) (by kernel_rfl) (by kernel_rfl))
    rfl rfl Tryz.underlying4 ?_ Hn ?_ ?_
  · intro ds hds
    match ds, hds with
    | [d0, d1, d2], _ => rfl
  · intro t ht
    have : t = 36 ∨ t = 3 := by simpa [Tryz.params3] using ht
    rcases this with rfl | rfl
    all_goals exact ⟨by kernel_rfl, of_decide_eq_true (by kernel_rfl)⟩
  · intro W vs hl PK
    match vs, hl with
    | [v0, v1, v2], _ =>
      have h0 := PK 0 36 v0 rfl rfl
      have h1 := PK 1 3 v1 rfl rfl
      have h2 := PK 2 3 v2 rfl rfl
      obtain ⟨cs0, rfl, q0⟩ := h0.struct Tryz.underlying36
      obtain ⟨x0, As, ay, At, az, An, aC, Am, aJ, Ag, aQ, Ad, fW, Al, fD, rfl, y0⟩ := PL q0
      obtain ⟨x1, rfl, z1⟩ := h1.int Tryz.underlying3
      obtain ⟨x2, rfl, z2⟩ := h2.int Tryz.underlying3
      exact yh x0 _ x1 x2 W y0.w
theorem j1 : (Rows.machineFindsRow.inPlace == Tryz.pinned.checked.prog.inPlace 3) = true := by kernel_rfl
theorem j2 : (Rows.machineFindsRow.unfollowed == Tryz.pinned.checked.prog.unfollowed 3) = true := by kernel_rfl
theorem j3 : (Rows.machineFindsRow.recurses == Tryz.pinned.checked.prog.recurses 3) = true := by kernel_rfl
theorem j4 : (Rows.machineFindsRow.named == Tryz.pinned.checked.prog.varsNamed 3) = true := by kernel_rfl
theorem joined : joinedFacts Tryz.pinned.checked.prog 3 Tryz.f3 Rows.machineFindsSpec Rows.machineFindsRow = true := by
  unfold joinedFacts
  rw [j1, j2, j3, j4]
  kernel_rfl
theorem proved : Rows.MachineFindsSaid :=
  OpenClaim.holds_of_wide 3 Tryz.f3 rfl rfl rfl rfl rfl rfl rfl ⟨rfl, rfl, rfl, rfl, rfl⟩ rfl rfl rfl rfl rfl (by kernel_rfl) Tryz.func3 (joined)
    (of_decide_eq_true (by kernel_rfl)) (by unfold Func.isWrapper; first | (rw [if_pos (by decide +kernel)]; kernel_rfl) | (rw [if_neg (by decide +kernel)]; exact ⟨rfl, rfl⟩))
    (fun os started H enc _ => lifted os started H enc)
#print axioms proved
end Go.Proofs.YtakddkhipelmjaaGreat.machineFinds
