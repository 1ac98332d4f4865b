/- For all objects o and every list l of operations on rows: StoreSelects(o, l) returns true, and the arguments read afterwards as before. No condition. -/
import Derived.Test.YtiadkchlkdaceaaPartN1
import Derived.Test.YtiadkchlkdaceaaPartN2
import Derived.Test.YtiadkchlkdaceaaPartN3
import Derived.Test.YtiadkchlkdaceaaPartN4
import Derived.Test.YtiadkchlkdaceaaPartN5
import Derived.Test.YtiadkchlkdaceaaPartN6
import Derived.Test.YtiadkchlkdaceaaPartN7
import Derived.Test.YtiadkchlkdaceaaPartN8
import Derived.Test.YtiadkchlkdaceaaPartN9
import Derived.Test.YtiadkchlkdaceaaPartN10
import Derived.Test.YtiadkchlkdaceaaPartN11
import Derived.Test.YtiadkchlkdaceaaPartN12
import Derived.Test.YtiadkchlkdaceaaPartN13
import Derived.Test.YtiadkchlkdaceaaPartN15
namespace Go.Proofs.Ytiadkchlkdaceaa.storeSelects
open Go.ChangeShapes Go.WideShapes Go.ChangeAt Go.RowKit
set_option maxRecDepth 100000
set_option linter.unusedVariables false
theorem lifted (os : Os) (started : os.Started) (H : Type) (enc : TypeId × Value → H) :
    ReturnsInHanded {} Try.checked os 3 .any (Rows.storeSelectsSpec.pre6 enc Try.prog Try.f3 Rows.storeSelectsRow.domain false) (Rows.storeSelectsSpec.post enc Try.prog Try.f3 false true false false) := by
  refine law_lifted (C := Try.checked) (tb := 4) H enc own_knob started (by kernel_rfl) Try.func3
    (ChangeSpec.witness6 (enc := enc) (C := Try.checked) false ⟨#[], #[.agg #[.slice none 0 0, .slice none 0 0], .slice none 0 0], []⟩ 8 (by kernel_rfl) (by kernel_rfl) (by kernel_rfl) (by kernel_rfl))
    rfl rfl Try.underlying4 ?_ laid_out ?_ ?_
  · intro ds hds
    match ds, hds with
    | [d0, d1], _ => rfl
  · intro t ht
    have : t = 25 ∨ t = 26 := by simpa [Try.params3] using ht
    rcases this with rfl | rfl
    all_goals exact ⟨by kernel_rfl, of_decide_eq_true (by kernel_rfl)⟩
  · intro W vs hl hrd
    match vs, hl with
    | [v0, v1], _ =>
      have h0 := hrd 0 25 v0 rfl rfl
      have h1 := hrd 1 26 v1 rfl rfl
      obtain ⟨cs0, rfl, q0⟩ := h0.struct Try.underlying25
      obtain ⟨x0, A0, cap0, B0, capB0, rfl, y0, z0⟩ := rd_objs q0
      have q1 := h1.slice Try.underlying26
      obtain ⟨x1, A1, cap1, e1, z1⟩ := rd_rops q1
      simp only [List.cons.injEq, and_true] at e1
      subst e1
      exact law_ssel x0 A0 cap0 B0 capB0 x1 A1 cap1 W y0 z0 z1
theorem proved : Rows.StoreSelectsSaid :=
  OpenClaim.holds_of_wide 3 Try.f3 rfl rfl rfl rfl rfl rfl rfl ⟨rfl, rfl, rfl, rfl, rfl⟩ rfl rfl rfl rfl rfl (by kernel_rfl) Try.func3 (by kernel_rfl)
    (of_decide_eq_true (by kernel_rfl)) (by unfold Func.isWrapper; first | (rw [if_pos (by decide +kernel)]; kernel_rfl) | (rw [if_neg (by decide +kernel)]; exact ⟨rfl, rfl⟩))
    (fun os started H enc _ => lifted os started H enc)
#print axioms proved
end Go.Proofs.Ytiadkchlkdaceaa.storeSelects
