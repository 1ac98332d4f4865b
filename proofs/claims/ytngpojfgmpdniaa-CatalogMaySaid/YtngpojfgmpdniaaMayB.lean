/- Which fields a command's kind uses. -/
import Derived.Test.YtngpojfgmpdniaaMayA
namespace Go.Proofs.Ytngpojfgmpdniaa
open Go.RowKit
set_option maxRecDepth 100000

def uS (k : Int) : Bool := k == 1 || k == 2 || k == 3 || k == 4 || k == 5 || k == 6 || k == 7 || k == 8 || k == 9 || k == 14 || k == 15
def uT (k : Int) : Bool := k == 3 || k == 4 || k == 5 || k == 6 || k == 7 || k == 8 || k == 9 || k == 14 || k == 15
def uN (k : Int) : Bool := k == 6 || k == 8 || k == 12 || k == 13
def uR (k : Int) : Bool := k == 9 || k == 10 || k == 11 || k == 12 || k == 13 || k == 14 || k == 15
def isK (k : Int) : Bool := decide (1 ≤ k) && decide (k ≤ 15)
theorem kinds (k : Int) (h : isK k = true) : k = 1 ∨ k = 2 ∨ k = 3 ∨ k = 4 ∨ k = 5 ∨ k = 6 ∨ k = 7 ∨ k = 8 ∨ k = 9 ∨ k = 10 ∨ k = 11 ∨ k = 12 ∨ k = 13 ∨ k = 14 ∨ k = 15 := by
  simp [isK] at h; omega
theorem notK (k : Int) (h : isK k = false) : (k == 1) = false ∧ (k == 2) = false ∧ (k == 3) = false ∧ (k == 4) = false ∧ (k == 5) = false ∧ (k == 6) = false ∧ (k == 7) = false ∧ (k == 8) = false ∧ (k == 9) = false ∧ (k == 10) = false ∧ (k == 11) = false ∧ (k == 12) = false ∧ (k == 13) = false ∧ (k == 14) = false ∧ (k == 15) = false := by
  simp [isK] at h; simp; omega
theorem uses_no (k : Int) (h : isK k = false) : uS k = false ∧ uT k = false ∧ uN k = false ∧ uR k = false := by
  obtain ⟨h1, h2, h3, h4, h5, h6, h7, h8, h9, h10, h11, h12, h13, h14, h15⟩ := notK k h
  simp [uS, uT, uN, uR, h1, h2, h3, h4, h5, h6, h7, h8, h9, h10, h11, h12, h13, h14, h15]

set_option maxHeartbeats 4000000 in
theorem used_any (k : Int) (actor schema table name role : ByteArray) (vc : Value) (r0 r1 r2 r3 r4 r5 r6 r7 : Value) (right opt : Value) (w : World) :
    Calls Try.prog 48 #[.agg #[.int .i64 k, .string actor, .string schema, .string table, .string name, .string role, vc, r0, r1, r2, r3, r4, r5, r6, r7, right, opt]] w
      fun e w' => e = .returned (.tuple #[.agg #[.string schema, .string table, .string name, .string role], .agg #[.bool (uS k), .bool (uT k), .bool (uN k), .bool (uR k)], .bool (isK k)]) ∧ Aft w w' := by
  cases hk : isK k
  · obtain ⟨u1, u2, u3, u4⟩ := uses_no k hk
    have H := Lib.hid (And.intro u1 (And.intro u2 (And.intro u3 u4)))
    clear u1 u2 u3 u4
    obtain ⟨h1, h2, h3, h4, h5, h6, h7, h8, h9, h10, h11, h12, h13, h14, h15⟩ := notK k hk
    clear hk
    go_enter Try.func48, Try.ntmps48
    go_wp2_with fail
    obtain ⟨u1, u2, u3, u4⟩ := H.out
    refine bodyPost_ret (v := .tuple #[.agg #[.string schema, .string table, .string name, .string role], .agg #[.bool false, .bool false, .bool false, .bool false], .bool false]) (by simp [results, Try.results48, go_sem]) rfl ⟨by rw [u1, u2, u3, u4], ?_⟩
    repeat (first | exact Aft.refl _ | apply Aft.alloc | apply Aft.lat | apply Aft.drew | apply Aft.drewN)
  · have hk2 := kinds k hk
    clear hk
    rcases hk2 with rfl | rfl | rfl | rfl | rfl | rfl | rfl | rfl | rfl | rfl | rfl | rfl | rfl | rfl | rfl
    all_goals
      go_enter Try.func48, Try.ntmps48
      go_wp2_with fail
      refine bodyPost_ret (v := .tuple #[.agg #[.string schema, .string table, .string name, .string role], .agg #[.bool _, .bool _, .bool _, .bool _], .bool true]) (by simp [results, Try.results48, go_sem]; decide) rfl ⟨rfl, ?_⟩
      repeat (first | exact Aft.refl _ | apply Aft.alloc | apply Aft.lat | apply Aft.drew | apply Aft.drewN)
end Go.Proofs.Ytngpojfgmpdniaa
