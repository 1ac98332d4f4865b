/- For every machine m and numbers client and number: MachineHeld(m, client, number) returns true, and the arguments read afterwards as before. No condition. -/
import Derived.Test.YtakddkhipelmjaaGreatPartH19
namespace Go.Proofs.YtakddkhipelmjaaGreat.machineHeld
open Go.ChangeShapes Go.WideShapes Go.ChangeAt Go.RowKit
set_option maxRecDepth 100000
set_option linter.unusedVariables false
theorem lifted (os : Os) (started : os.Started) (H : Type) (enc : TypeId × Value → H) :
    ReturnsInHanded {} Tryz.checked os 4 .any (Rows.machineHeldSpec.pre6 enc Tryz.prog Tryz.f4 Rows.machineHeldRow.domain false) (Rows.machineHeldSpec.post enc Tryz.prog Tryz.f4 false true false false) := by
  refine zl (C := Tryz.checked) (tb := 4) H enc FX started (by kernel_rfl) Tryz.func4
    (ChangeSpec.witness6 (enc := enc) (C := Tryz.checked) false ⟨#[], #[.agg #[.int .i64 0, .int .i64 0, .slice none 0 0, .slice none 0 0, .slice none 0 0, .slice none 0 0, .slice none 0 0, .slice none 0 0, .slice none 0 0, .int .i64 0], .int .i64 0, .int .i64 0], []⟩ 8 (by kernel_rfl) (by kernel_rfl) (by kernel_rfl) (by kernel_rfl))
    rfl rfl Tryz.underlying4 ?_ FY ?_ ?_
  · intro ds hds
    match ds, hds with
    | [d0, d1, d2], _ => rfl
  · intro t ht
    have : t = 36 ∨ t = 3 := by simpa [Tryz.params4] using ht
    rcases this with rfl | rfl
    all_goals exact ⟨by kernel_rfl, of_decide_eq_true (by kernel_rfl)⟩
  · intro W vs hl Oh
    match vs, hl with
    | [v0, v1, v2], _ =>
      have h0 := Oh 0 36 v0 rfl rfl
      have h1 := Oh 1 3 v1 rfl rfl
      have h2 := Oh 2 3 v2 rfl rfl
      obtain ⟨cs0, rfl, q0⟩ := h0.struct Tryz.underlying36
      obtain ⟨x0, As, ax, At, aD, An, aH, Am, aL, Ag, aP, Ad, gv, Al, gw, rfl, y0, t0⟩ := J0 q0
      obtain ⟨x1, rfl, z1⟩ := h1.int Tryz.underlying3
      obtain ⟨x2, rfl, z2⟩ := h2.int Tryz.underlying3
      exact zm x0 _ x1 x2 W y0.w t0
theorem j1 : (Rows.machineHeldRow.inPlace == Tryz.pinned.checked.prog.inPlace 4) = true := by kernel_rfl
theorem j2 : (Rows.machineHeldRow.unfollowed == Tryz.pinned.checked.prog.unfollowed 4) = true := by kernel_rfl
theorem j3 : (Rows.machineHeldRow.recurses == Tryz.pinned.checked.prog.recurses 4) = true := by kernel_rfl
theorem j4 : (Rows.machineHeldRow.named == Tryz.pinned.checked.prog.varsNamed 4) = true := by kernel_rfl
theorem joined : joinedFacts Tryz.pinned.checked.prog 4 Tryz.f4 Rows.machineHeldSpec Rows.machineHeldRow = true := by
  unfold joinedFacts
  rw [j1, j2, j3, j4]
  kernel_rfl
theorem proved : Rows.MachineHeldSaid :=
  OpenClaim.holds_of_wide 4 Tryz.f4 rfl rfl rfl rfl rfl rfl rfl ⟨rfl, rfl, rfl, rfl, rfl⟩ rfl rfl rfl rfl rfl (by kernel_rfl) Tryz.func4 (joined)
    (of_decide_eq_true (by kernel_rfl)) (by unfold Func.isWrapper; first | (rw [if_pos (by decide +kernel)]; kernel_rfl) | (rw [if_neg (by decide +kernel)]; exact ⟨rfl, rfl⟩))
    (fun os started H enc _ => lifted os started H enc)
#print axioms proved
end Go.Proofs.YtakddkhipelmjaaGreat.machineHeld
