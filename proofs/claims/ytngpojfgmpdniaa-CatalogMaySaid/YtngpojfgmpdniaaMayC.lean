/- Which fields a command's kind uses, by the document. -/
import Derived.Test.YtngpojfgmpdniaaMayB
namespace Go.Proofs.Ytngpojfgmpdniaa
open Go.RowKit
set_option maxRecDepth 100000

def uC (k : Int) : Bool := k == 3 || k == 5
theorem uses_no2 (k : Int) (h : isK k = false) : uC k = false ∧ (k == 7) = false ∧ (k == 14 || k == 15) = false ∧ (k == 14) = false := by
  obtain ⟨h1, h2, h3, h4, h5, h6, h7, h8, h9, h10, h11, h12, h13, h14, h15⟩ := notK k h
  simp [uC, h3, h5, h7, h14, h15]
set_option maxHeartbeats 4000000 in
theorem uses_any (k : Int) (w : World) :
    Calls Try.prog 50 #[.int .i64 k] w
      fun e w' => e = .returned (.tuple #[.agg #[.bool (uS k), .bool (uT k), .bool (uN k), .bool (uR k), .bool (uC k), .bool (k == 7), .bool (k == 14 || k == 15), .bool (k == 14)], .bool (isK k)]) ∧ Aft w w' := by
  cases hk : isK k
  · obtain ⟨u1, u2, u3, u4⟩ := uses_no k hk
    obtain ⟨u5, u6, u7, u8⟩ := uses_no2 k hk
    have H := Lib.hid (And.intro u1 (And.intro u2 (And.intro u3 (And.intro u4 (And.intro u5 (And.intro u6 (And.intro u7 u8)))))))
    clear u1 u2 u3 u4 u5 u6 u7 u8
    obtain ⟨h1, h2, h3, h4, h5, h6, h7, h8, h9, h10, h11, h12, h13, h14, h15⟩ := notK k hk
    clear hk
    go_enter Try.func50, Try.ntmps50
    go_wp2_with fail
    obtain ⟨u1, u2, u3, u4, u5, u6, u7, u8⟩ := H.out
    refine bodyPost_ret (v := .tuple #[.agg #[.bool false, .bool false, .bool false, .bool false, .bool false, .bool false, .bool false, .bool false], .bool false]) (by simp [results, Try.results50, go_sem]) rfl ⟨by rw [u1, u2, u3, u4, u5, u6, u7, u8], ?_⟩
    repeat (first | exact Aft.refl _ | apply Aft.alloc | apply Aft.lat | apply Aft.drew | apply Aft.drewN)
  · have hk2 := kinds k hk
    clear hk
    rcases hk2 with rfl | rfl | rfl | rfl | rfl | rfl | rfl | rfl | rfl | rfl | rfl | rfl | rfl | rfl | rfl
    all_goals
      go_enter Try.func50, Try.ntmps50
      go_wp2_with fail
      refine bodyPost_ret (v := .tuple #[.agg #[.bool _, .bool _, .bool _, .bool _, .bool _, .bool _, .bool _, .bool _], .bool true]) (by simp [results, Try.results50, go_sem]; decide) rfl ⟨rfl, ?_⟩
      repeat (first | exact Aft.refl _ | apply Aft.alloc | apply Aft.lat | apply Aft.drew | apply Aft.drewN)
end Go.Proofs.Ytngpojfgmpdniaa
