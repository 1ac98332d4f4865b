/- For every list of calls (loads of objects and operations on rows): StoreRuns(script) returns true, and the argument reads afterwards as before. No condition. -/
import Derived.Test.YtiadkchlkdaceaaGreatPartR1
import Derived.Test.YtiadkchlkdaceaaGreatPartR2
import Derived.Test.YtiadkchlkdaceaaGreatPartR3
import Derived.Test.YtiadkchlkdaceaaGreatPartR4
import Derived.Test.YtiadkchlkdaceaaGreatPartR5
import Derived.Test.YtiadkchlkdaceaaGreatPartR6
import Derived.Test.YtiadkchlkdaceaaGreatPartR7
import Derived.Test.YtiadkchlkdaceaaGreatPartR8
import Derived.Test.YtiadkchlkdaceaaGreatPartR9
import Derived.Test.YtiadkchlkdaceaaGreatPartR10
import Derived.Test.YtiadkchlkdaceaaGreatPartR11
import Derived.Test.YtiadkchlkdaceaaGreatPartR12
import Derived.Test.YtiadkchlkdaceaaGreatPartR13
import Derived.Test.YtiadkchlkdaceaaGreatPartR14
namespace Go.Proofs.YtiadkchlkdaceaaGreat.storeRuns
open Go.ChangeShapes Go.WideShapes Go.ChangeAt Go.RowKit
set_option maxRecDepth 100000
set_option linter.unusedVariables false
theorem lifted (os : Os) (started : os.Started) (H : Type) (enc : TypeId × Value → H) :
    ReturnsInHanded {} Tryz.checked os 3 .any (Rows.storeRunsSpec.pre6 enc Tryz.prog Tryz.f3 Rows.storeRunsRow.domain false) (Rows.storeRunsSpec.post enc Tryz.prog Tryz.f3 false true false false) := by
  refine law_lifted (C := Tryz.checked) (tb := 4) H enc own_knob started (by kernel_rfl) Tryz.func3
    (ChangeSpec.witness6 (enc := enc) (C := Tryz.checked) false ⟨#[], #[.slice none 0 0], []⟩ 8 (by kernel_rfl) (by kernel_rfl) (by kernel_rfl) (by kernel_rfl))
    rfl rfl Tryz.underlying4 ?_ laid_out ?_ ?_
  · intro ds hds
    match ds, hds with
    | [d0], _ => rfl
  · intro t ht
    have : t = 22 := by simpa [Tryz.params3] using ht
    rcases this with rfl
    all_goals exact ⟨by kernel_rfl, of_decide_eq_true (by kernel_rfl)⟩
  · intro W vs hl hrd
    match vs, hl with
    | [v0], _ =>
      have h0 := hrd 0 22 v0 rfl rfl
      have q0 := h0.slice Tryz.underlying22
      obtain ⟨x0, A0, cap0, e0, z0⟩ := rd_sops q0
      simp only [List.cons.injEq, and_true] at e0
      subst e0
      exact law_sruns x0 A0 cap0 W z0
theorem proved : Rows.StoreRunsSaid :=
  OpenClaim.holds_of_wide 3 Tryz.f3 rfl rfl rfl rfl rfl rfl rfl ⟨rfl, rfl, rfl, rfl, rfl⟩ rfl rfl rfl rfl rfl (by kernel_rfl) Tryz.func3 (by kernel_rfl)
    (of_decide_eq_true (by kernel_rfl)) (by unfold Func.isWrapper; first | (rw [if_pos (by decide +kernel)]; kernel_rfl) | (rw [if_neg (by decide +kernel)]; exact ⟨rfl, rfl⟩))
    (fun os started H enc _ => lifted os started H enc)
#print axioms proved
end Go.Proofs.YtiadkchlkdaceaaGreat.storeRuns
