/- roles.order: the order of members. -/
import Derived.Test.YtcdhljcpoopfaaaRising
import Derived.Test.YtcdhljcpoopfaaaCmp
namespace Go.Proofs.Ytcdhljcpoopfaaa
open Go.RowKit
set_option maxRecDepth 100000
set_option linter.unusedVariables false
def cmpM (a b : Mbr) : Int := or2 (cmpS a.role b.role) (cmpS a.of b.of)
set_option maxHeartbeats 1000000 in
theorem order8 (a b : Mbr) (w : World) :
    Calls Try.prog 60 #[.agg #[.string a.role, .string a.of], .agg #[.string b.role, .string b.of]] w fun e w' => e = .returned (.int .i64 (cmpM a b)) ∧ Aft w w' := by
  go_enter Try.func60, Try.ntmps60
  go_wp2_with fail
  refine wp_region_tail 10 (by kernel_rfl) (by kernel_rfl) ?_
  intro w1 a1
  obtain ⟨hb1, hb2, hz, HA⟩ := aft_box2 a1
  clear a1
  simp only [List.take_succ_cons, List.take_zero, List.drop_succ_cons, List.drop_zero]
  repeat still_step
  still_call (compare_still _ _ _)
  repeat still_step
  still_call (compare_still _ _ _)
  refine wpStill_nil ?_
  go_wp2_with fail
  refine (or_any (cmpS a.role b.role) (cmpS a.of b.of) w1.heap.size _ (by simp) (by simp) (by simp)).mono ?_
  rintro e w2 ⟨rfl, a2⟩
  have HA2 := Lib.hid ((HA.out.alloc _).trans a2)
  clear a2
  go_wp2_with fail
  go_ret
  exact ⟨rfl, HA2.out⟩
end Go.Proofs.Ytcdhljcpoopfaaa
