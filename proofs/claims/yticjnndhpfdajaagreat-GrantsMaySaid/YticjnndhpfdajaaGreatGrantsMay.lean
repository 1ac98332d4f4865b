/- For every catalog c, texts role, schema and table and every right: GrantsMay(c, role, schema, table, right) returns true, and the arguments read afterwards as before. No condition. -/
import Derived.Test.YticjnndhpfdajaaGreatPartG32
import Derived.Test.YticjnndhpfdajaaGreatPartG31
namespace Go.Proofs.YticjnndhpfdajaaGreat.grantsMay
open Go.ChangeShapes Go.WideShapes Go.ChangeAt Go.RowKit
set_option maxRecDepth 100000
set_option linter.unusedVariables false
theorem lifted (os : Os) (started : os.Started) (H : Type) (enc : TypeId × Value → H) :
    ReturnsInHanded {} Tryz.checked os 7 .any (Rows.grantsMaySpec.pre6 enc Tryz.prog Tryz.f7 Rows.grantsMayRow.domain false) (Rows.grantsMaySpec.post enc Tryz.prog Tryz.f7 false true false false) := by
  refine law_lifted (C := Tryz.checked) (tb := 4) H enc own_knob started (by kernel_rfl) Tryz.func7
    (ChangeSpec.witness6 (enc := enc) (C := Tryz.checked) false ⟨#[], #[.agg #[.int .i64 0, .int .i64 0, .slice none 0 0, .slice none 0 0, .slice none 0 0, .slice none 0 0, .slice none 0 0], .string ByteArray.empty, .string ByteArray.empty, .string ByteArray.empty, .int .i64 0], []⟩ 8 (by kernel_rfl) (by kernel_rfl) (by kernel_rfl) (by kernel_rfl))
    rfl rfl Tryz.underlying4 ?_ laid_out ?_ ?_
  · intro ds hds
    match ds, hds with
    | [d0, d1, d2, d3, d4], _ => rfl
  · intro t ht
    have : t = 59 ∨ t = 9 ∨ t = 65 := by simpa [Tryz.params7] using ht
    rcases this with rfl | rfl | rfl
    all_goals exact ⟨by kernel_rfl, of_decide_eq_true (by kernel_rfl)⟩
  · intro W vs hl hrd
    match vs, hl with
    | [v0, v1, v2, v3, v4], _ =>
      have h0 := hrd 0 59 v0 rfl rfl
      have h1 := hrd 1 9 v1 rfl rfl
      have h2 := hrd 2 9 v2 rfl rfl
      have h3 := hrd 3 9 v3 rfl rfl
      have h4 := hrd 4 65 v4 rfl rfl
      obtain ⟨cs0, rfl, q0⟩ := h0.struct Tryz.underlying59
      obtain ⟨x0, As, caps, At, capt, An, capn, Am, capm, Ag, capg, rfl, y10, y20, y30, y40, y50, z0⟩ := rd_cat q0
      obtain ⟨x1, rfl, z1⟩ := h1.string Tryz.underlying9
      obtain ⟨x2, rfl, z2⟩ := h2.string Tryz.underlying9
      obtain ⟨x3, rfl, z3⟩ := h3.string Tryz.underlying9
      obtain ⟨x4, rfl, z4⟩ := h4.int Tryz.underlying65
      exact law_may9 x0 As caps At capt An capn Am capm Ag capg x1 x2 x3 x4 z1 W ⟨y10, y20, y30, y40, y50⟩
theorem j1 : (Rows.grantsMayRow.inPlace == Tryz.pinned.checked.prog.inPlace 7) = true := by kernel_rfl
theorem j2 : (Rows.grantsMayRow.unfollowed == Tryz.pinned.checked.prog.unfollowed 7) = true := by kernel_rfl
theorem j3 : (Rows.grantsMayRow.recurses == Tryz.pinned.checked.prog.recurses 7) = true := by kernel_rfl
theorem j4 : (Rows.grantsMayRow.named == Tryz.pinned.checked.prog.varsNamed 7) = true := by kernel_rfl
theorem joined : joinedFacts Tryz.pinned.checked.prog 7 Tryz.f7 Rows.grantsMaySpec Rows.grantsMayRow = true := by
  unfold joinedFacts
  rw [j1, j2, j3, j4]
  kernel_rfl
theorem proved : Rows.GrantsMaySaid :=
  OpenClaim.holds_of_wide 7 Tryz.f7 rfl rfl rfl rfl rfl rfl rfl ⟨rfl, rfl, rfl, rfl, rfl⟩ rfl rfl rfl rfl rfl (by kernel_rfl) Tryz.func7 (joined)
    (of_decide_eq_true (by kernel_rfl)) (by unfold Func.isWrapper; first | (rw [if_pos (by decide +kernel)]; kernel_rfl) | (rw [if_neg (by decide +kernel)]; exact ⟨rfl, rfl⟩))
    (fun os started H enc _ => lifted os started H enc)
#print axioms proved
end Go.Proofs.YticjnndhpfdajaaGreat.grantsMay
