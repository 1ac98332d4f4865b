/- The document's May; who is fencing. -/
import Derived.Test.YtngpojfgmpdniaaMayD
import Derived.Test.YtngpojfgmpdniaaMayE
namespace Go.Proofs.Ytngpojfgmpdniaa
open Go.RowKit
set_option maxRecDepth 100000

theorem restC_eq (k : Int) (n : Nat) (bb : Bool) (right : Int) (opt : Bool) : restC (uC k) (k == 7) (k == 14 || k == 15) (k == 14) (k == 5) n bb right opt = restB k n bb right opt := by
  by_cases h3 : k = 3
  · subst h3; cases bb <;> cases opt <;> simp [restC, restB, uC]
  by_cases h5 : k = 5
  · subst h5; cases bb <;> cases opt <;> simp [restC, restB, uC]
  by_cases h7 : k = 7
  · subst h7; cases bb <;> cases opt <;> simp [restC, restB, uC, Bool.and_comm]
  by_cases h14 : k = 14
  · subst h14; cases bb <;> cases opt <;> simp [restC, restB, uC]
  by_cases h15 : k = 15
  · subst h15; cases bb <;> cases opt <;> simp [restC, restB, uC]
  · have e3 : (k == 3) = false := by simp [h3]
    have e5 : (k == 5) = false := by simp [h5]
    have e7 : (k == 7) = false := by simp [h7]
    have e14 : (k == 14) = false := by simp [h14]
    have e15 : (k == 15) = false := by simp [h15]
    unfold restC restB uC
    rw [e3, e5, e7, e14, e15]
    cases bb <;> cases opt <;> cases (right == 0) <;> cases (n == 0) <;> rfl
theorem combos (k : Int) : (uC k = true ∧ (k == 7) = false ∧ (k == 14 || k == 15) = false ∧ (k == 14) = false) ∨ (uC k = false ∧ (k == 7) = true ∧ (k == 14 || k == 15) = false ∧ (k == 14) = false) ∨
    (uC k = false ∧ (k == 7) = false ∧ (k == 14 || k == 15) = true ∧ (k == 14) = false) ∨ (uC k = false ∧ (k == 7) = false ∧ (k == 14 || k == 15) = true ∧ (k == 14) = true) ∨ (uC k = false ∧ (k == 7) = false ∧ (k == 14 || k == 15) = false ∧ (k == 14) = false) := by
  simp [uC]; omega
theorem mayB_eq (k : Int) (actor schema table name role : ByteArray) (n : Nat) (bb : Bool) (right : Int) (opt : Bool) :
    mayB k actor schema table name role n bb right opt = (isK k && nameB actor && textB schema (uS k) && textB table (uT k) && textB name (uN k) && textB role (uR k) && restB k n bb right opt) := rfl

theorem rmay_any (k : Int) (actor schema table name role : ByteArray) (A : Option Addr) (n c : Nat) (rname : ByteArray) (rkind : Int) (A2 : Option Addr) (n2 c2 : Nat) (low high : Int) (rs rt rk : ByteArray) (right : Int) (opt : Bool) (w : World)
    (ha : actor.size ≤ maxLen) (hs : schema.size ≤ maxLen) (ht : table.size ≤ maxLen) (hn : name.size ≤ maxLen) (hr : role.size ≤ maxLen)
    (h1 : rname.size ≤ 140737488351232) (h2 : rs.size ≤ 140737488351232) (h3 : rt.size ≤ 140737488351232) (h4 : rk.size ≤ 140737488351232) :
    Calls Try.prog 15 #[.agg #[.int .i64 k, .string actor, .string schema, .string table, .string name, .string role, .slice A n c, .string rname, .int .i64 rkind, .slice A2 n2 c2, .int .i64 low, .int .i64 high, .string rs, .string rt, .string rk, .int .i64 right, .bool opt]] w fun e w' => e = .returned (.bool (mayB k actor schema table name role n (bareB rname rkind n2 low high rs rt rk) right opt)) ∧ Aft w w' := by
  have hu := Lib.hid (fun w => uses_any k w)
  have hb := Lib.hid (fun w => rbare_any rname rkind A2 n2 c2 low high rs rt rk w)
  rw [mayB_eq]
  have no := fun hx => rmay_no k actor schema table name role A n c rname rkind A2 n2 c2 low high rs rt rk right opt w _ _ _ _ _ _ _ _ _ _ ha hs ht hn hr hu hb hx
  have yes := fun x0 x1 x2 x3 x4 x5 => rmay_yes k actor schema table name role A n c rname rkind A2 n2 c2 low high rs rt rk right opt w _ _ _ _ _ _ _ _ _ _ ha hs ht hn hr hu hb x0 x1 x2 x3 x4 x5 (combos k)
  cases e0 : isK k
  · refine (no (.inl e0)).mono ?_
    rintro e w' ⟨rfl, h⟩; exact ⟨by simp, h⟩
  cases e1 : nameB actor
  · refine (no (.inr (.inl ⟨e0, e1⟩))).mono ?_
    rintro e w' ⟨rfl, h⟩; exact ⟨by simp, h⟩
  cases e2 : textB schema (uS k)
  · refine (no (.inr (.inr (.inl ⟨e0, e1, e2⟩)))).mono ?_
    rintro e w' ⟨rfl, h⟩; exact ⟨by simp, h⟩
  cases e3 : textB table (uT k)
  · refine (no (.inr (.inr (.inr (.inl ⟨e0, e1, e2, e3⟩))))).mono ?_
    rintro e w' ⟨rfl, h⟩; exact ⟨by simp, h⟩
  cases e4 : textB name (uN k)
  · refine (no (.inr (.inr (.inr (.inr (.inl ⟨e0, e1, e2, e3, e4⟩)))))).mono ?_
    rintro e w' ⟨rfl, h⟩; exact ⟨by simp, h⟩
  cases e5 : textB role (uR k)
  · refine (no (.inr (.inr (.inr (.inr (.inr ⟨e0, e1, e2, e3, e4, e5⟩)))))).mono ?_
    rintro e w' ⟨rfl, h⟩; exact ⟨by simp, h⟩
  refine (yes e0 e1 e2 e3 e4 e5).mono ?_
  rintro e w' ⟨rfl, h⟩
  exact ⟨by rw [restC_eq]; simp, h⟩

def fencesB (k rkind : Int) : Bool := k == 2 || k == 4 || k == 6 || k == 9 || k == 11 || k == 13 || k == 15 || (k == 7 && rkind != 1)
set_option maxHeartbeats 4000000 in
theorem fences_any (k : Int) (actor schema table name role : ByteArray) (A : Option Addr) (n c : Nat) (rname : ByteArray) (rkind : Int) (A2 : Option Addr) (n2 c2 : Nat) (low high : Int) (rs rt rk : ByteArray) (right : Int) (opt : Bool) (w : World) :
    Calls Try.prog 53 #[.agg #[.int .i64 k, .string actor, .string schema, .string table, .string name, .string role, .slice A n c, .string rname, .int .i64 rkind, .slice A2 n2 c2, .int .i64 low, .int .i64 high, .string rs, .string rt, .string rk, .int .i64 right, .bool opt]] w fun e w' => e = .returned (.bool (fencesB k rkind)) ∧ Aft w w' := by
  go_enter Try.func53, Try.ntmps53
  go_wp2_with fail
  all_goals
    go_ret
    refine ⟨Eq.trans (b := .returned (.bool _)) rfl (ret_of (bool_of ?_)), ?_⟩
    · simp_all [fencesB]
    · repeat (first | exact Aft.refl _ | apply Aft.alloc)
set_option maxHeartbeats 4000000 in
theorem fencing_any (k : Int) (actor schema table name role : ByteArray) (A : Option Addr) (n c : Nat) (rname : ByteArray) (rkind : Int) (A2 : Option Addr) (n2 c2 : Nat) (low high : Int) (rs rt rk : ByteArray) (right : Int) (opt : Bool) (w : World) (m : Bool) (hmay : Hid (∀ w, Calls Try.prog 14 #[.agg #[.int .i64 k, .string actor, .string schema, .string table, .string name, .string role, .slice A n c, .string rname, .int .i64 rkind, .slice A2 n2 c2, .int .i64 low, .int .i64 high, .string rs, .string rt, .string rk, .int .i64 right, .bool opt]] w fun e w' => e = .returned (.bool m) ∧ Aft w w')) :
    Calls Try.prog 16 #[.agg #[.int .i64 k, .string actor, .string schema, .string table, .string name, .string role, .slice A n c, .string rname, .int .i64 rkind, .slice A2 n2 c2, .int .i64 low, .int .i64 high, .string rs, .string rt, .string rk, .int .i64 right, .bool opt]] w fun e w' => e = .returned (.bool (m && fencesB k rkind)) ∧ Aft w w' := by
  have hfen := Lib.hid (fun w => fences_any k actor schema table name role A n c rname rkind A2 n2 c2 low high rs rt rk right opt w)
  cases m
  all_goals
    go_enter Try.func16, Try.ntmps16
    go_wp2_with (first | (go_at_call 14; refine (hmay.out _).mono ?_; rintro e w1 ⟨rfl, haft⟩; obtain ⟨hbox, hfr, hz, hzk, HA⟩ := aft_box haft; clear haft) | (go_at_call 53; refine (hfen.out _).mono ?_; rintro e w2 ⟨rfl, haft2⟩; have HA2 := Lib.hid (HA.out.trans haft2); clear haft2))
    go_ret
    refine ⟨Eq.trans (b := .returned (.bool _)) rfl (ret_of (bool_of ?_)), ?_⟩
    · simp
    · repeat (first | exact HA2.out | exact HA.out | apply Aft.alloc)
set_option maxHeartbeats 4000000 in
theorem rfencing_any (k : Int) (actor schema table name role : ByteArray) (A : Option Addr) (n c : Nat) (rname : ByteArray) (rkind : Int) (A2 : Option Addr) (n2 c2 : Nat) (low high : Int) (rs rt rk : ByteArray) (right : Int) (opt : Bool) (w : World) (m : Bool) (hmay : Hid (∀ w, Calls Try.prog 15 #[.agg #[.int .i64 k, .string actor, .string schema, .string table, .string name, .string role, .slice A n c, .string rname, .int .i64 rkind, .slice A2 n2 c2, .int .i64 low, .int .i64 high, .string rs, .string rt, .string rk, .int .i64 right, .bool opt]] w fun e w' => e = .returned (.bool m) ∧ Aft w w')) :
    Calls Try.prog 17 #[.agg #[.int .i64 k, .string actor, .string schema, .string table, .string name, .string role, .slice A n c, .string rname, .int .i64 rkind, .slice A2 n2 c2, .int .i64 low, .int .i64 high, .string rs, .string rt, .string rk, .int .i64 right, .bool opt]] w fun e w' => e = .returned (.bool (m && fencesB k rkind)) ∧ Aft w w' := by
  cases m
  all_goals
    go_enter Try.func17, Try.ntmps17
    go_wp2_with (first | (go_at_call 15; refine (hmay.out _).mono ?_; rintro e w1 ⟨rfl, haft⟩; obtain ⟨hbox, hfr, hz, hzk, HA⟩ := aft_box haft; clear haft))
    all_goals
      go_ret
      refine ⟨Eq.trans (b := .returned (.bool _)) rfl (ret_of (bool_of ?_)), ?_⟩
      · clear HA hmay
        first | rfl | simp_all [fencesB]
      · repeat (first | exact HA.out | apply Aft.alloc)
end Go.Proofs.Ytngpojfgmpdniaa
