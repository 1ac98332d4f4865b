/- For every catalog c and grant g: GrantsTake(c, g) returns true, and the arguments read afterwards as before. No condition. -/
import Derived.Test.YtlklmekapbojdaaGreatPartL1
import Derived.Test.YtlklmekapbojdaaGreatPartL2
import Derived.Test.YtlklmekapbojdaaGreatPartL3
import Derived.Test.YtlklmekapbojdaaGreatPartL4
import Derived.Test.YtlklmekapbojdaaGreatPartL5
import Derived.Test.YtlklmekapbojdaaGreatPartL6
import Derived.Test.YtlklmekapbojdaaGreatPartL7
import Derived.Test.YtlklmekapbojdaaGreatPartL8
import Derived.Test.YtlklmekapbojdaaGreatPartL9
import Derived.Test.YtlklmekapbojdaaGreatPartL10
import Derived.Test.YtlklmekapbojdaaGreatPartL11
import Derived.Test.YtlklmekapbojdaaGreatPartL12
import Derived.Test.YtlklmekapbojdaaGreatPartL13
import Derived.Test.YtlklmekapbojdaaGreatPartL14
import Derived.Test.YtlklmekapbojdaaGreatPartL15
import Derived.Test.YtlklmekapbojdaaGreatPartL16
import Derived.Test.YtlklmekapbojdaaGreatPartL17
import Derived.Test.YtlklmekapbojdaaGreatPartL19
import Derived.Test.YtlklmekapbojdaaGreatPartL20
import Derived.Test.YtlklmekapbojdaaGreatPartL21
import Derived.Test.YtlklmekapbojdaaGreatPartL22
import Derived.Test.YtlklmekapbojdaaGreatPartL23
import Derived.Test.YtlklmekapbojdaaGreatPartL24
import Derived.Test.YtlklmekapbojdaaGreatPartL27
import Derived.Test.YtlklmekapbojdaaGreatPartL34
namespace Go.Proofs.YtlklmekapbojdaaGreat.grantsTake
open Go.ChangeShapes Go.WideShapes Go.ChangeAt Go.RowKit
set_option maxRecDepth 100000
set_option linter.unusedVariables false
theorem lifted (os : Os) (started : os.Started) (H : Type) (enc : TypeId × Value → H) :
    ReturnsInHanded {} Tryz.checked os 7 .any (Rows.grantsTakeSpec.pre6 enc Tryz.prog Tryz.f7 Rows.grantsTakeRow.domain false) (Rows.grantsTakeSpec.post enc Tryz.prog Tryz.f7 false true false false) := by
  refine law_lifted (C := Tryz.checked) (tb := 4) H enc own_knob started (by kernel_rfl) Tryz.func7
    (ChangeSpec.witness6 (enc := enc) (C := Tryz.checked) false ⟨#[], #[.agg #[.int .i64 0, .int .i64 0, .slice none 0 0, .slice none 0 0, .slice none 0 0, .slice none 0 0, .slice none 0 0], .agg #[.string ByteArray.empty, .string ByteArray.empty, .int .i64 0, .string ByteArray.empty, .string ByteArray.empty, .bool false]], []⟩ 8 (by kernel_rfl) (by kernel_rfl) (by kernel_rfl) (by kernel_rfl))
    rfl rfl Tryz.underlying4 ?_ laid_out ?_ ?_
  · intro ds hds
    match ds, hds with
    | [d0, d1], _ => rfl
  · intro t ht
    have : t = 66 ∨ t = 76 := by simpa [Tryz.params7] using ht
    rcases this with rfl | rfl
    all_goals exact ⟨by kernel_rfl, of_decide_eq_true (by kernel_rfl)⟩
  · intro W vs hl hrd
    match vs, hl with
    | [v0, v1], _ =>
      have h0 := hrd 0 66 v0 rfl rfl
      have h1 := hrd 1 76 v1 rfl rfl
      obtain ⟨cs0, rfl, q0⟩ := h0.struct Tryz.underlying66
      obtain ⟨x0, As, caps, At, capt, An, capn, Am, capm, Ag, capg, rfl, y10, y20, y30, y40, y50, z0⟩ := rd_cat q0
      obtain ⟨cs1, rfl, q1⟩ := h1.struct Tryz.underlying76
      obtain ⟨x1, rfl, z1⟩ := rd_gra q1
      exact law_take9 x0 As caps At capt An capn Am capm Ag capg x1 z1 W ⟨y10, y20, y30, y40, y50⟩
theorem j1 : (Rows.grantsTakeRow.inPlace == Tryz.pinned.checked.prog.inPlace 7) = true := by kernel_rfl
theorem j2 : (Rows.grantsTakeRow.unfollowed == Tryz.pinned.checked.prog.unfollowed 7) = true := by kernel_rfl
theorem j3 : (Rows.grantsTakeRow.recurses == Tryz.pinned.checked.prog.recurses 7) = true := by kernel_rfl
theorem j4 : (Rows.grantsTakeRow.named == Tryz.pinned.checked.prog.varsNamed 7) = true := by kernel_rfl
theorem joined : joinedFacts Tryz.pinned.checked.prog 7 Tryz.f7 Rows.grantsTakeSpec Rows.grantsTakeRow = true := by
  unfold joinedFacts
  rw [j1, j2, j3, j4]
  kernel_rfl
theorem proved : Rows.GrantsTakeSaid :=
  OpenClaim.holds_of_wide 7 Tryz.f7 rfl rfl rfl rfl rfl rfl rfl ⟨rfl, rfl, rfl, rfl, rfl⟩ rfl rfl rfl rfl rfl (by kernel_rfl) Tryz.func7 (joined)
    (of_decide_eq_true (by kernel_rfl)) (by unfold Func.isWrapper; first | (rw [if_pos (by decide +kernel)]; kernel_rfl) | (rw [if_neg (by decide +kernel)]; exact ⟨rfl, rfl⟩))
    (fun os started H enc _ => lifted os started H enc)
#print axioms proved
end Go.Proofs.YtlklmekapbojdaaGreat.grantsTake
