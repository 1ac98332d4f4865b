/- For all objects o and every operation x on rows: StoreNil(o, x) returns true, and the arguments read afterwards as before. No condition. -/
import Derived.Test.YtiadkchlkdaceaaPartN1
import Derived.Test.YtiadkchlkdaceaaPartN2
import Derived.Test.YtiadkchlkdaceaaPartN3
import Derived.Test.YtiadkchlkdaceaaPartN4
import Derived.Test.YtiadkchlkdaceaaPartN5
import Derived.Test.YtiadkchlkdaceaaPartN6
import Derived.Test.YtiadkchlkdaceaaPartN7
import Derived.Test.YtiadkchlkdaceaaPartN8
import Derived.Test.YtiadkchlkdaceaaPartN9
import Derived.Test.YtiadkchlkdaceaaPartN10
import Derived.Test.YtiadkchlkdaceaaPartN11
import Derived.Test.YtiadkchlkdaceaaPartN12
import Derived.Test.YtiadkchlkdaceaaPartN13
import Derived.Test.YtiadkchlkdaceaaPartN14
namespace Go.Proofs.Ytiadkchlkdaceaa.storeNil
open Go.ChangeShapes Go.WideShapes Go.ChangeAt Go.RowKit
set_option maxRecDepth 100000
set_option linter.unusedVariables false
theorem lifted (os : Os) (started : os.Started) (H : Type) (enc : TypeId × Value → H) :
    ReturnsInHanded {} Try.checked os 4 .any (Rows.storeNilSpec.pre6 enc Try.prog Try.f4 Rows.storeNilRow.domain false) (Rows.storeNilSpec.post enc Try.prog Try.f4 false true false false) := by
  refine law_lifted (C := Try.checked) (tb := 4) H enc own_knob started (by kernel_rfl) Try.func4
    (ChangeSpec.witness6 (enc := enc) (C := Try.checked) false ⟨#[], #[.agg #[.slice none 0 0, .slice none 0 0], .agg #[.int .i64 0, .string ByteArray.empty, .string ByteArray.empty, .string ByteArray.empty, .slice none 0 0, .string ByteArray.empty, .int .i64 0, .int .i64 0, .string ByteArray.empty]], []⟩ 8 (by kernel_rfl) (by kernel_rfl) (by kernel_rfl) (by kernel_rfl))
    rfl rfl Try.underlying4 ?_ laid_out ?_ ?_
  · intro ds hds
    match ds, hds with
    | [d0, d1], _ => rfl
  · intro t ht
    have : t = 25 ∨ t = 46 := by simpa [Try.params4] using ht
    rcases this with rfl | rfl
    all_goals exact ⟨by kernel_rfl, of_decide_eq_true (by kernel_rfl)⟩
  · intro W vs hl hrd
    match vs, hl with
    | [v0, v1], _ =>
      have h0 := hrd 0 25 v0 rfl rfl
      have h1 := hrd 1 46 v1 rfl rfl
      obtain ⟨cs0, rfl, q0⟩ := h0.struct Try.underlying25
      obtain ⟨x0, A0, cap0, B0, capB0, rfl, y0, z0⟩ := rd_objs q0
      obtain ⟨cs1, rfl, q1⟩ := h1.struct Try.underlying46
      obtain ⟨x1, A1, cap1, rfl, z1, m1⟩ := rd_rop q1
      exact law_snil x0 A0 cap0 B0 capB0 x1 A1 cap1 W y0 z0
theorem proved : Rows.StoreNilSaid :=
  OpenClaim.holds_of_wide 4 Try.f4 rfl rfl rfl rfl rfl rfl rfl ⟨rfl, rfl, rfl, rfl, rfl⟩ rfl rfl rfl rfl rfl (by kernel_rfl) Try.func4 (by kernel_rfl)
    (of_decide_eq_true (by kernel_rfl)) (by unfold Func.isWrapper; first | (rw [if_pos (by decide +kernel)]; kernel_rfl) | (rw [if_neg (by decide +kernel)]; exact ⟨rfl, rfl⟩))
    (fun os started H enc _ => lifted os started H enc)
#print axioms proved
end Go.Proofs.Ytiadkchlkdaceaa.storeNil
