/- For every catalog c: CatalogChecks(c) returns true, and the argument reads afterwards as before. No condition. -/
import Derived.Test.YtlklmekapbojdaaGreatPartL1
import Derived.Test.YtlklmekapbojdaaGreatPartL2
import Derived.Test.YtlklmekapbojdaaGreatPartL3
import Derived.Test.YtlklmekapbojdaaGreatPartL4
import Derived.Test.YtlklmekapbojdaaGreatPartL5
import Derived.Test.YtlklmekapbojdaaGreatPartL6
import Derived.Test.YtlklmekapbojdaaGreatPartL7
import Derived.Test.YtlklmekapbojdaaGreatPartL8
import Derived.Test.YtlklmekapbojdaaGreatPartL9
import Derived.Test.YtlklmekapbojdaaGreatPartL10
import Derived.Test.YtlklmekapbojdaaGreatPartL11
import Derived.Test.YtlklmekapbojdaaGreatPartL17
import Derived.Test.YtlklmekapbojdaaGreatPartL20
import Derived.Test.YtlklmekapbojdaaGreatPartL21
import Derived.Test.YtlklmekapbojdaaGreatPartL22
import Derived.Test.YtlklmekapbojdaaGreatPartL23
import Derived.Test.YtlklmekapbojdaaGreatPartL25
import Derived.Test.YtlklmekapbojdaaGreatPartL29
namespace Go.Proofs.YtlklmekapbojdaaGreat.catalogChecks
open Go.ChangeShapes Go.WideShapes Go.ChangeAt Go.RowKit
set_option maxRecDepth 100000
set_option linter.unusedVariables false
theorem lifted (os : Os) (started : os.Started) (H : Type) (enc : TypeId × Value → H) :
    ReturnsInHanded {} Tryz.checked os 5 .any (Rows.catalogChecksSpec.pre6 enc Tryz.prog Tryz.f5 Rows.catalogChecksRow.domain false) (Rows.catalogChecksSpec.post enc Tryz.prog Tryz.f5 false true false false) := by
  refine law_lifted (C := Tryz.checked) (tb := 4) H enc own_knob started (by kernel_rfl) Tryz.func5
    (ChangeSpec.witness6 (enc := enc) (C := Tryz.checked) false ⟨#[], #[.agg #[.int .i64 0, .int .i64 0, .slice none 0 0, .slice none 0 0, .slice none 0 0, .slice none 0 0, .slice none 0 0]], []⟩ 8 (by kernel_rfl) (by kernel_rfl) (by kernel_rfl) (by kernel_rfl))
    rfl rfl Tryz.underlying4 ?_ laid_out ?_ ?_
  · intro ds hds
    match ds, hds with
    | [d0], _ => rfl
  · intro t ht
    have : t = 66 := by simpa [Tryz.params5] using ht
    rcases this with rfl
    all_goals exact ⟨by kernel_rfl, of_decide_eq_true (by kernel_rfl)⟩
  · intro W vs hl hrd
    match vs, hl with
    | [v0], _ =>
      have h0 := hrd 0 66 v0 rfl rfl
      obtain ⟨cs0, rfl, q0⟩ := h0.struct Tryz.underlying66
      obtain ⟨x0, As, caps, At, capt, An, capn, Am, capm, Ag, capg, rfl, y10, y20, y30, y40, y50, z0⟩ := rd_cat q0
      exact law_checks10 x0 As caps At capt An capn Am capm Ag capg W ⟨y10, y20, y30, y40, y50⟩
theorem j1 : (Rows.catalogChecksRow.inPlace == Tryz.pinned.checked.prog.inPlace 5) = true := by kernel_rfl
theorem j2 : (Rows.catalogChecksRow.unfollowed == Tryz.pinned.checked.prog.unfollowed 5) = true := by kernel_rfl
theorem j3 : (Rows.catalogChecksRow.recurses == Tryz.pinned.checked.prog.recurses 5) = true := by kernel_rfl
theorem j4 : (Rows.catalogChecksRow.named == Tryz.pinned.checked.prog.varsNamed 5) = true := by kernel_rfl
theorem joined : joinedFacts Tryz.pinned.checked.prog 5 Tryz.f5 Rows.catalogChecksSpec Rows.catalogChecksRow = true := by
  unfold joinedFacts
  rw [j1, j2, j3, j4]
  kernel_rfl
theorem proved : Rows.CatalogChecksSaid :=
  OpenClaim.holds_of_wide 5 Tryz.f5 rfl rfl rfl rfl rfl rfl rfl ⟨rfl, rfl, rfl, rfl, rfl⟩ rfl rfl rfl rfl rfl (by kernel_rfl) Tryz.func5 (joined)
    (of_decide_eq_true (by kernel_rfl)) (by unfold Func.isWrapper; first | (rw [if_pos (by decide +kernel)]; kernel_rfl) | (rw [if_neg (by decide +kernel)]; exact ⟨rfl, rfl⟩))
    (fun os started H enc _ => lifted os started H enc)
#print axioms proved
end Go.Proofs.YtlklmekapbojdaaGreat.catalogChecks
