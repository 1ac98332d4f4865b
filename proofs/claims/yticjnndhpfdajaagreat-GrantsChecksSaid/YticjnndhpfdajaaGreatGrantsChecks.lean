/- For every catalog c: GrantsChecks(c) returns true, and the argument reads afterwards as before. No condition. -/
import Derived.Test.YticjnndhpfdajaaGreatPartG30
import Derived.Test.YticjnndhpfdajaaGreatPartG31
namespace Go.Proofs.YticjnndhpfdajaaGreat.grantsChecks
open Go.ChangeShapes Go.WideShapes Go.ChangeAt Go.RowKit
set_option maxRecDepth 100000
set_option linter.unusedVariables false
theorem lifted (os : Os) (started : os.Started) (H : Type) (enc : TypeId × Value → H) :
    ReturnsInHanded {} Tryz.checked os 6 .any (Rows.grantsChecksSpec.pre6 enc Tryz.prog Tryz.f6 Rows.grantsChecksRow.domain false) (Rows.grantsChecksSpec.post enc Tryz.prog Tryz.f6 false true false false) := by
  refine law_lifted (C := Tryz.checked) (tb := 4) H enc own_knob started (by kernel_rfl) Tryz.func6
    (ChangeSpec.witness6 (enc := enc) (C := Tryz.checked) false ⟨#[], #[.agg #[.int .i64 0, .int .i64 0, .slice none 0 0, .slice none 0 0, .slice none 0 0, .slice none 0 0, .slice none 0 0]], []⟩ 8 (by kernel_rfl) (by kernel_rfl) (by kernel_rfl) (by kernel_rfl))
    rfl rfl Tryz.underlying4 ?_ laid_out ?_ ?_
  · intro ds hds
    match ds, hds with
    | [d0], _ => rfl
  · intro t ht
    have : t = 59 := by simpa [Tryz.params6] using ht
    rcases this with rfl
    all_goals exact ⟨by kernel_rfl, of_decide_eq_true (by kernel_rfl)⟩
  · intro W vs hl hrd
    match vs, hl with
    | [v0], _ =>
      have h0 := hrd 0 59 v0 rfl rfl
      obtain ⟨cs0, rfl, q0⟩ := h0.struct Tryz.underlying59
      obtain ⟨x0, As, caps, At, capt, An, capn, Am, capm, Ag, capg, rfl, y10, y20, y30, y40, y50, z0⟩ := rd_cat q0
      exact law_checks9 x0 As caps At capt An capn Am capm Ag capg W ⟨y10, y20, y30, y40, y50⟩
theorem j1 : (Rows.grantsChecksRow.inPlace == Tryz.pinned.checked.prog.inPlace 6) = true := by kernel_rfl
theorem j2 : (Rows.grantsChecksRow.unfollowed == Tryz.pinned.checked.prog.unfollowed 6) = true := by kernel_rfl
theorem j3 : (Rows.grantsChecksRow.recurses == Tryz.pinned.checked.prog.recurses 6) = true := by kernel_rfl
theorem j4 : (Rows.grantsChecksRow.named == Tryz.pinned.checked.prog.varsNamed 6) = true := by kernel_rfl
theorem joined : joinedFacts Tryz.pinned.checked.prog 6 Tryz.f6 Rows.grantsChecksSpec Rows.grantsChecksRow = true := by
  unfold joinedFacts
  rw [j1, j2, j3, j4]
  kernel_rfl
theorem proved : Rows.GrantsChecksSaid :=
  OpenClaim.holds_of_wide 6 Tryz.f6 rfl rfl rfl rfl rfl rfl rfl ⟨rfl, rfl, rfl, rfl, rfl⟩ rfl rfl rfl rfl rfl (by kernel_rfl) Tryz.func6 (joined)
    (of_decide_eq_true (by kernel_rfl)) (by unfold Func.isWrapper; first | (rw [if_pos (by decide +kernel)]; kernel_rfl) | (rw [if_neg (by decide +kernel)]; exact ⟨rfl, rfl⟩))
    (fun os started H enc _ => lifted os started H enc)
#print axioms proved
end Go.Proofs.YticjnndhpfdajaaGreat.grantsChecks
