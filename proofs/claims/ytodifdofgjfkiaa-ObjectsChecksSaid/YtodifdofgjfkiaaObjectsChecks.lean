/- For all objects o: ObjectsChecks(o) returns true, and o reads afterwards as before. No condition. -/
import Derived.Test.YtodifdofgjfkiaaLawChecks
import Derived.Test.YtodifdofgjfkiaaRd
namespace Go.Proofs.Ytodifdofgjfkiaa.objectsChecks
open Go.ChangeShapes Go.WideShapes Go.ChangeAt Go.RowKit
set_option maxRecDepth 100000
theorem lifted (os : Os) (started : os.Started) (H : Type) (enc : TypeId × Value → H) :
    ReturnsInHanded {} Try.checked os 3 .any (Rows.objectsChecksSpec.pre6 enc Try.prog Try.f3 Rows.objectsChecksRow.domain false) (Rows.objectsChecksSpec.post enc Try.prog Try.f3 false true false false) := by
  refine law_lifted (C := Try.checked) (tb := 4) H enc own_knob started (by kernel_rfl) Try.func3
    (ChangeSpec.witness6 (enc := enc) (C := Try.checked) false ⟨#[], #[.agg #[.slice none 0 0, .slice none 0 0]], []⟩ 8 (by kernel_rfl) (by kernel_rfl) (by kernel_rfl) (by kernel_rfl))
    rfl rfl Try.underlying4 ?_ laid_out ?_ ?_
  · intro ds hds
    match ds, hds with
    | [d], _ => rfl
  · intro t ht
    have : t = 25 := by simpa [Try.params3] using ht
    subst this
    exact ⟨by kernel_rfl, of_decide_eq_true (by kernel_rfl)⟩
  · intro W vs hl hrd
    match vs, hl with
    | [v], _ =>
      have h0 := hrd 0 25 v rfl rfl
      obtain ⟨cs, rfl, hcs⟩ := h0.struct Try.underlying25
      obtain ⟨o, A, cap, A2, cap2, rfl, h1, h2⟩ := rd_objs hcs
      exact law_checks o A cap A2 cap2 W h1 h2
theorem proved : Rows.ObjectsChecksSaid :=
  OpenClaim.holds_of_wide 3 Try.f3 rfl rfl rfl rfl rfl rfl rfl ⟨rfl, rfl, rfl, rfl, rfl⟩ rfl rfl rfl rfl rfl (by kernel_rfl) Try.func3 (by kernel_rfl)
    (of_decide_eq_true (by kernel_rfl)) (by unfold Func.isWrapper; first | (rw [if_pos (by decide +kernel)]; kernel_rfl) | (rw [if_neg (by decide +kernel)]; exact ⟨rfl, rfl⟩))
    (fun os started H enc _ => lifted os started H enc)
#print axioms proved
end Go.Proofs.Ytodifdofgjfkiaa.objectsChecks
