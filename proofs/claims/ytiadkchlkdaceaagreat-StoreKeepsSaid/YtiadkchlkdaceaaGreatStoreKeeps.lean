/- For all objects o and every list l of operations on rows: StoreKeeps(o, l) returns true, and the arguments read afterwards as before. No condition. -/
import Derived.Test.YtiadkchlkdaceaaGreatPartK1
import Derived.Test.YtiadkchlkdaceaaGreatPartK2
import Derived.Test.YtiadkchlkdaceaaGreatPartK3
import Derived.Test.YtiadkchlkdaceaaGreatPartK4
import Derived.Test.YtiadkchlkdaceaaGreatPartK5
import Derived.Test.YtiadkchlkdaceaaGreatPartK6
import Derived.Test.YtiadkchlkdaceaaGreatPartK7
import Derived.Test.YtiadkchlkdaceaaGreatPartK8
import Derived.Test.YtiadkchlkdaceaaGreatPartK9
import Derived.Test.YtiadkchlkdaceaaGreatPartK10
import Derived.Test.YtiadkchlkdaceaaGreatPartK11
import Derived.Test.YtiadkchlkdaceaaGreatPartK12
import Derived.Test.YtiadkchlkdaceaaGreatPartK13
import Derived.Test.YtiadkchlkdaceaaGreatPartK14
import Derived.Test.YtiadkchlkdaceaaGreatPartK15
import Derived.Test.YtiadkchlkdaceaaGreatPartK16
import Derived.Test.YtiadkchlkdaceaaGreatPartK17
namespace Go.Proofs.YtiadkchlkdaceaaGreat.storeKeeps
open Go.ChangeShapes Go.WideShapes Go.ChangeAt Go.RowKit
set_option maxRecDepth 100000
set_option linter.unusedVariables false
theorem lifted (os : Os) (started : os.Started) (H : Type) (enc : TypeId × Value → H) :
    ReturnsInHanded {} Tryz.checked os 4 .any (Rows.storeKeepsSpec.pre6 enc Tryz.prog Tryz.f4 Rows.storeKeepsRow.domain false) (Rows.storeKeepsSpec.post enc Tryz.prog Tryz.f4 false true false false) := by
  refine law_lifted (C := Tryz.checked) (tb := 4) H enc own_knob started (by kernel_rfl) Tryz.func4
    (ChangeSpec.witness6 (enc := enc) (C := Tryz.checked) false ⟨#[], #[.agg #[.slice none 0 0, .slice none 0 0], .slice none 0 0], []⟩ 8 (by kernel_rfl) (by kernel_rfl) (by kernel_rfl) (by kernel_rfl))
    rfl rfl Tryz.underlying4 ?_ laid_out ?_ ?_
  · intro ds hds
    match ds, hds with
    | [d0, d1], _ => rfl
  · intro t ht
    have : t = 29 ∨ t = 58 := by simpa [Tryz.params4] using ht
    rcases this with rfl | rfl
    all_goals exact ⟨by kernel_rfl, of_decide_eq_true (by kernel_rfl)⟩
  · intro W vs hl hrd
    match vs, hl with
    | [v0, v1], _ =>
      have h0 := hrd 0 29 v0 rfl rfl
      have h1 := hrd 1 58 v1 rfl rfl
      obtain ⟨cs0, rfl, q0⟩ := h0.struct Tryz.underlying29
      obtain ⟨x0, A0, cap0, B0, capB0, rfl, y0, z0⟩ := rd_objs q0
      have q1 := h1.slice Tryz.underlying58
      obtain ⟨x1, A1, cap1, e1, z1⟩ := rd_rops q1
      simp only [List.cons.injEq, and_true] at e1
      subst e1
      exact law_skeep x0 A0 cap0 B0 capB0 x1 A1 cap1 W y0 z0 z1
theorem proved : Rows.StoreKeepsSaid :=
  OpenClaim.holds_of_wide 4 Tryz.f4 rfl rfl rfl rfl rfl rfl rfl ⟨rfl, rfl, rfl, rfl, rfl⟩ rfl rfl rfl rfl rfl (by kernel_rfl) Tryz.func4 (by kernel_rfl)
    (of_decide_eq_true (by kernel_rfl)) (by unfold Func.isWrapper; first | (rw [if_pos (by decide +kernel)]; kernel_rfl) | (rw [if_neg (by decide +kernel)]; exact ⟨rfl, rfl⟩))
    (fun os started H enc _ => lifted os started H enc)
#print axioms proved
end Go.Proofs.YtiadkchlkdaceaaGreat.storeKeeps
