/- catalog.May. -/
import Derived.Test.YtngpojfgmpdniaaMayB
namespace Go.Proofs.Ytngpojfgmpdniaa
open Go.RowKit
set_option maxRecDepth 100000

/-- may a field be, that is used or not? -/
def fieldOk (u : Bool) (s : ByteArray) : Bool := if u then nameB s else emp s
theorem nameB_emp (s : ByteArray) (h : emp s = true) : nameB s = false := by
  unfold emp at h; rw [isEmpty_iff] at h; simp [nameB]; intro h0; simp at h; subst h; simp at h0
def restB (k : Int) (n : Nat) (bare : Bool) (right : Int) (opt : Bool) : Bool :=
  if k == 3 then bare && right == 0 && !opt
  else if k == 5 then bare && right == 0 && !opt && ((n : Int) == 1)
  else if k == 7 then n == 0 && right == 0 && !opt
  else if k == 14 || k == 15 then (right == 1 || right == 2) && bare && n == 0 && (k == 14 || !opt)
  else bare && n == 0 && right == 0 && !opt
def mayB (k : Int) (actor schema table name role : ByteArray) (n : Nat) (bare : Bool) (right : Int) (opt : Bool) : Bool :=
  isK k && nameB actor && fieldOk (uS k) schema && fieldOk (uT k) table && fieldOk (uN k) name && fieldOk (uR k) role && restB k n bare right opt

theorem field_cases (b : Bool) (s : ByteArray) : (b = true ∧ s.toList.isEmpty = true ∧ s.toList = [] ∧ fieldOk b s = false) ∨ (b = true ∧ s.toList.isEmpty = false ∧ (¬ s.toList = []) ∧ nameB s = false ∧ fieldOk b s = false) ∨
    (b = true ∧ s.toList.isEmpty = false ∧ (¬ s.toList = []) ∧ nameB s = true ∧ fieldOk b s = true) ∨ (b = false ∧ s.toList.isEmpty = true ∧ s.toList = [] ∧ fieldOk b s = true) ∨ (b = false ∧ s.toList.isEmpty = false ∧ (¬ s.toList = []) ∧ fieldOk b s = false) := by
  have hne := nameB_emp s
  unfold emp at hne
  cases b <;> cases he : s.toList.isEmpty <;> simp_all [fieldOk, emp]

set_option maxHeartbeats 4000000 in
theorem may_no1 (k : Int) (actor schema table name role : ByteArray) (A : Option Addr) (n c : Nat) (rname : ByteArray) (rkind : Int) (A2 : Option Addr) (n2 c2 : Nat) (low high : Int) (rs rt rk : ByteArray) (right : Int) (opt : Bool) (w : World) (b0 b1 b2 b3 ok bb : Bool)
    (ha : actor.size ≤ maxLen) (hs : schema.size ≤ maxLen) (ht : table.size ≤ maxLen) (hn : name.size ≤ maxLen) (hr : role.size ≤ maxLen)
    (hused : Hid (∀ w, Calls Try.prog 48 #[.agg #[.int .i64 k, .string actor, .string schema, .string table, .string name, .string role, .slice A n c, .string rname, .int .i64 rkind, .slice A2 n2 c2, .int .i64 low, .int .i64 high, .string rs, .string rt, .string rk, .int .i64 right, .bool opt]] w fun e w' => e = .returned (.tuple #[.agg #[.string schema, .string table, .string name, .string role], .agg #[.bool b0, .bool b1, .bool b2, .bool b3], .bool ok]) ∧ Aft w w'))
    (hbare : Hid (∀ w, Calls Try.prog 49 #[.agg #[.string rname, .int .i64 rkind, .slice A2 n2 c2, .int .i64 low, .int .i64 high, .string rs, .string rt, .string rk]] w fun e w' => e = .returned (.bool bb) ∧ Aft w w')) (hK : ok = false) :
    Calls Try.prog 14 #[.agg #[.int .i64 k, .string actor, .string schema, .string table, .string name, .string role, .slice A n c, .string rname, .int .i64 rkind, .slice A2 n2 c2, .int .i64 low, .int .i64 high, .string rs, .string rt, .string rk, .int .i64 right, .bool opt]] w fun e w' => e = .returned (.bool (false)) ∧ Aft w w' := by
  go_enter Try.func14, Try.ntmps14
  go_wp2_with (first | (go_at_call 48; refine (hused.out _).mono ?_; rintro e w1 ⟨rfl, haft⟩; obtain ⟨hbox, _, hz, hzk, HA⟩ := aft_box haft; clear haft))
  go_ret
  refine ⟨rfl, ?_⟩
  repeat (first | exact HA.out | apply Aft.alloc | apply Aft.lat | apply Aft.drew | apply Aft.drewN)
set_option maxHeartbeats 4000000 in
theorem may_no2 (k : Int) (actor schema table name role : ByteArray) (A : Option Addr) (n c : Nat) (rname : ByteArray) (rkind : Int) (A2 : Option Addr) (n2 c2 : Nat) (low high : Int) (rs rt rk : ByteArray) (right : Int) (opt : Bool) (w : World) (b0 b1 b2 b3 ok bb : Bool)
    (ha : actor.size ≤ maxLen) (hs : schema.size ≤ maxLen) (ht : table.size ≤ maxLen) (hn : name.size ≤ maxLen) (hr : role.size ≤ maxLen)
    (hused : Hid (∀ w, Calls Try.prog 48 #[.agg #[.int .i64 k, .string actor, .string schema, .string table, .string name, .string role, .slice A n c, .string rname, .int .i64 rkind, .slice A2 n2 c2, .int .i64 low, .int .i64 high, .string rs, .string rt, .string rk, .int .i64 right, .bool opt]] w fun e w' => e = .returned (.tuple #[.agg #[.string schema, .string table, .string name, .string role], .agg #[.bool b0, .bool b1, .bool b2, .bool b3], .bool ok]) ∧ Aft w w'))
    (hbare : Hid (∀ w, Calls Try.prog 49 #[.agg #[.string rname, .int .i64 rkind, .slice A2 n2 c2, .int .i64 low, .int .i64 high, .string rs, .string rt, .string rk]] w fun e w' => e = .returned (.bool bb) ∧ Aft w w')) (hK : ok = true) (hA : nameB actor = false) :
    Calls Try.prog 14 #[.agg #[.int .i64 k, .string actor, .string schema, .string table, .string name, .string role, .slice A n c, .string rname, .int .i64 rkind, .slice A2 n2 c2, .int .i64 low, .int .i64 high, .string rs, .string rt, .string rk, .int .i64 right, .bool opt]] w fun e w' => e = .returned (.bool (false)) ∧ Aft w w' := by
  go_enter Try.func14, Try.ntmps14
  go_wp2_with (first | (go_at_call 48; refine (hused.out _).mono ?_; rintro e w1 ⟨rfl, haft⟩; obtain ⟨hbox, _, hz, hzk, HA⟩ := aft_box haft; clear haft) | (go_at_call 10; refine (name_any _ _ (by assumption)).mono ?_; rintro e w' ⟨rfl, rfl⟩))
  go_ret
  refine ⟨rfl, ?_⟩
  repeat (first | exact HA.out | apply Aft.alloc | apply Aft.lat | apply Aft.drew | apply Aft.drewN)
set_option maxHeartbeats 8000000 in
theorem may_yes (k : Int) (actor schema table name role : ByteArray) (A : Option Addr) (n c : Nat) (rname : ByteArray) (rkind : Int) (A2 : Option Addr) (n2 c2 : Nat) (low high : Int) (rs rt rk : ByteArray) (right : Int) (opt : Bool) (w : World) (b0 b1 b2 b3 ok bb : Bool)
    (ha : actor.size ≤ maxLen) (hs : schema.size ≤ maxLen) (ht : table.size ≤ maxLen) (hn : name.size ≤ maxLen) (hr : role.size ≤ maxLen)
    (hused : Hid (∀ w, Calls Try.prog 48 #[.agg #[.int .i64 k, .string actor, .string schema, .string table, .string name, .string role, .slice A n c, .string rname, .int .i64 rkind, .slice A2 n2 c2, .int .i64 low, .int .i64 high, .string rs, .string rt, .string rk, .int .i64 right, .bool opt]] w fun e w' => e = .returned (.tuple #[.agg #[.string schema, .string table, .string name, .string role], .agg #[.bool b0, .bool b1, .bool b2, .bool b3], .bool ok]) ∧ Aft w w'))
    (hbare : Hid (∀ w, Calls Try.prog 49 #[.agg #[.string rname, .int .i64 rkind, .slice A2 n2 c2, .int .i64 low, .int .i64 high, .string rs, .string rt, .string rk]] w fun e w' => e = .returned (.bool bb) ∧ Aft w w')) (hK : ok = true) (hA : nameB actor = true) :
    Calls Try.prog 14 #[.agg #[.int .i64 k, .string actor, .string schema, .string table, .string name, .string role, .slice A n c, .string rname, .int .i64 rkind, .slice A2 n2 c2, .int .i64 low, .int .i64 high, .string rs, .string rt, .string rk, .int .i64 right, .bool opt]] w fun e w' => e = .returned (.bool (fieldOk b0 schema && fieldOk b1 table && fieldOk b2 name && fieldOk b3 role && restB k n bb right opt)) ∧ Aft w w' := by
  have i0 : ∀ w, (Instr.index 64 (.agg #[.string schema, .string table, .string name, .string role]) (.int .i64 0)).run Try.prog w = .ok (.string schema) w := fun _ => by kernel_rfl
  have i1 : ∀ w, (Instr.index 64 (.agg #[.string schema, .string table, .string name, .string role]) (.int .i64 1)).run Try.prog w = .ok (.string table) w := fun _ => by kernel_rfl
  have i2 : ∀ w, (Instr.index 64 (.agg #[.string schema, .string table, .string name, .string role]) (.int .i64 2)).run Try.prog w = .ok (.string name) w := fun _ => by kernel_rfl
  have i3 : ∀ w, (Instr.index 64 (.agg #[.string schema, .string table, .string name, .string role]) (.int .i64 3)).run Try.prog w = .ok (.string role) w := fun _ => by kernel_rfl
  go_enter Try.func14, Try.ntmps14
  go_wp2_with (first | (go_at_call 48; refine (hused.out _).mono ?_; rintro e w1 ⟨rfl, haft⟩; obtain ⟨hbox, hfr, hz, hzk, HA⟩ := aft_box haft; have HAB := Lib.hid haft; clear haft) | (go_at_call 10; refine (name_any _ _ (by assumption)).mono ?_; rintro e w' ⟨rfl, rfl⟩))
  go_loop [24] (fun i => ∃ j : Nat, j ≤ 4 ∧ i = .int .i64 j ∧ (1 ≤ j → fieldOk b0 schema = true) ∧ (2 ≤ j → fieldOk b1 table = true) ∧ (3 ≤ j → fieldOk b2 name = true) ∧ (4 ≤ j → fieldOk b3 role = true)) (fun i => 4 - (intOf i).toNat)
  case atStart => exact ⟨0, by omega, rfl, by omega, by omega, by omega, by omega⟩
  case round =>
    obtain ⟨j, hj, rfl, hf⟩ := hrel
    have HF := Lib.hid hf
    clear hf
    have hj2 : j = 0 ∨ j = 1 ∨ j = 2 ∨ j = 3 ∨ j = 4 := by omega
    clear hj
    rcases hj2 with rfl | rfl | rfl | rfl | rfl
    · rcases field_cases b0 schema with ⟨hb, e1, e2, hx⟩ | ⟨hb, e1, e2, hN, hx⟩ | ⟨hb, e1, e2, hN, hx⟩ | ⟨hb, e1, e2, hx⟩ | ⟨hb, e1, e2, hx⟩
      all_goals
        subst hb
        have HX := Lib.hid hx
        clear hx
        go_wp2_with (first | (go_at_call 10; refine (name_any _ _ (by assumption)).mono ?_; rintro e w' ⟨rfl, rfl⟩))
      · go_ret
        exact ⟨by rw [HX.out]; simp, by repeat (first | exact HA.out | apply Aft.alloc)⟩
      · go_ret
        exact ⟨by rw [HX.out]; simp, by repeat (first | exact HA.out | apply Aft.alloc)⟩
      · go_round
        case rel => exact ⟨1, by omega, rfl, fun _ => HX.out, fun h => absurd h (by omega), fun h => absurd h (by omega), fun h => absurd h (by omega)⟩
        case measure => simp [intOf]
      · go_round
        case rel => exact ⟨1, by omega, rfl, fun _ => HX.out, fun h => absurd h (by omega), fun h => absurd h (by omega), fun h => absurd h (by omega)⟩
        case measure => simp [intOf]
      · go_ret
        exact ⟨by rw [HX.out]; simp, by repeat (first | exact HA.out | apply Aft.alloc)⟩
    · rcases field_cases b1 table with ⟨hb, e1, e2, hx⟩ | ⟨hb, e1, e2, hN, hx⟩ | ⟨hb, e1, e2, hN, hx⟩ | ⟨hb, e1, e2, hx⟩ | ⟨hb, e1, e2, hx⟩
      all_goals
        subst hb
        have HX := Lib.hid hx
        clear hx
        go_wp2_with (first | (go_at_call 10; refine (name_any _ _ (by assumption)).mono ?_; rintro e w' ⟨rfl, rfl⟩))
      · go_ret
        exact ⟨by rw [HX.out]; simp, by repeat (first | exact HA.out | apply Aft.alloc)⟩
      · go_ret
        exact ⟨by rw [HX.out]; simp, by repeat (first | exact HA.out | apply Aft.alloc)⟩
      · go_round
        case rel => exact ⟨2, by omega, rfl, fun _ => HF.out.1 (by omega), fun _ => HX.out, fun h => absurd h (by omega), fun h => absurd h (by omega)⟩
        case measure => simp [intOf]
      · go_round
        case rel => exact ⟨2, by omega, rfl, fun _ => HF.out.1 (by omega), fun _ => HX.out, fun h => absurd h (by omega), fun h => absurd h (by omega)⟩
        case measure => simp [intOf]
      · go_ret
        exact ⟨by rw [HX.out]; simp, by repeat (first | exact HA.out | apply Aft.alloc)⟩
    · rcases field_cases b2 name with ⟨hb, e1, e2, hx⟩ | ⟨hb, e1, e2, hN, hx⟩ | ⟨hb, e1, e2, hN, hx⟩ | ⟨hb, e1, e2, hx⟩ | ⟨hb, e1, e2, hx⟩
      all_goals
        subst hb
        have HX := Lib.hid hx
        clear hx
        go_wp2_with (first | (go_at_call 10; refine (name_any _ _ (by assumption)).mono ?_; rintro e w' ⟨rfl, rfl⟩))
      · go_ret
        exact ⟨by rw [HX.out]; simp, by repeat (first | exact HA.out | apply Aft.alloc)⟩
      · go_ret
        exact ⟨by rw [HX.out]; simp, by repeat (first | exact HA.out | apply Aft.alloc)⟩
      · go_round
        case rel => exact ⟨3, by omega, rfl, fun _ => HF.out.1 (by omega), fun _ => HF.out.2.1 (by omega), fun _ => HX.out, fun h => absurd h (by omega)⟩
        case measure => simp [intOf]
      · go_round
        case rel => exact ⟨3, by omega, rfl, fun _ => HF.out.1 (by omega), fun _ => HF.out.2.1 (by omega), fun _ => HX.out, fun h => absurd h (by omega)⟩
        case measure => simp [intOf]
      · go_ret
        exact ⟨by rw [HX.out]; simp, by repeat (first | exact HA.out | apply Aft.alloc)⟩
    · rcases field_cases b3 role with ⟨hb, e1, e2, hx⟩ | ⟨hb, e1, e2, hN, hx⟩ | ⟨hb, e1, e2, hN, hx⟩ | ⟨hb, e1, e2, hx⟩ | ⟨hb, e1, e2, hx⟩
      all_goals
        subst hb
        have HX := Lib.hid hx
        clear hx
        go_wp2_with (first | (go_at_call 10; refine (name_any _ _ (by assumption)).mono ?_; rintro e w' ⟨rfl, rfl⟩))
      · go_ret
        exact ⟨by rw [HX.out]; simp, by repeat (first | exact HA.out | apply Aft.alloc)⟩
      · go_ret
        exact ⟨by rw [HX.out]; simp, by repeat (first | exact HA.out | apply Aft.alloc)⟩
      · go_round
        case rel => exact ⟨4, by omega, rfl, fun _ => HF.out.1 (by omega), fun _ => HF.out.2.1 (by omega), fun _ => HF.out.2.2.1 (by omega), fun _ => HX.out⟩
        case measure => simp [intOf]
      · go_round
        case rel => exact ⟨4, by omega, rfl, fun _ => HF.out.1 (by omega), fun _ => HF.out.2.1 (by omega), fun _ => HF.out.2.2.1 (by omega), fun _ => HX.out⟩
        case measure => simp [intOf]
      · go_ret
        exact ⟨by rw [HX.out]; simp, by repeat (first | exact HA.out | apply Aft.alloc)⟩
    · clear i0 i1 i2 i3
      go_wp2_with (first | (go_at_call 49; refine (hbare.out _).mono ?_; rintro e w2 ⟨rfl, haft⟩; obtain ⟨hbox2, hfr2, hz2, hzk2, HA2⟩ := aft_box (((HAB.out.alloc _).alloc _).trans haft); clear haft hbox hfr hz hzk))
      all_goals
        go_ret
        refine ⟨Eq.trans (b := .returned (.bool _)) rfl (ret_of (bool_of ?_)), ?_⟩
        · rw [HF.out.1 (by omega), HF.out.2.1 (by omega), HF.out.2.2.1 (by omega), HF.out.2.2.2 (by omega)]
          clear HF HA HAB hused hbare
          simp_all [restB]
        · repeat (first | exact HA.out | exact HA2.out | apply Aft.alloc)

theorem may_any (k : Int) (actor schema table name role : ByteArray) (A : Option Addr) (n c : Nat) (rname : ByteArray) (rkind : Int) (A2 : Option Addr) (n2 c2 : Nat) (low high : Int) (rs rt rk : ByteArray) (right : Int) (opt : Bool) (w : World)
    (ha : actor.size ≤ maxLen) (hs : schema.size ≤ maxLen) (ht : table.size ≤ maxLen) (hn : name.size ≤ maxLen) (hr : role.size ≤ maxLen)
    (h1 : rname.size ≤ 140737488351232) (h2 : rs.size ≤ 140737488351232) (h3 : rt.size ≤ 140737488351232) (h4 : rk.size ≤ 140737488351232) :
    Calls Try.prog 14 #[.agg #[.int .i64 k, .string actor, .string schema, .string table, .string name, .string role, .slice A n c, .string rname, .int .i64 rkind, .slice A2 n2 c2, .int .i64 low, .int .i64 high, .string rs, .string rt, .string rk, .int .i64 right, .bool opt]] w
      fun e w' => e = .returned (.bool (mayB k actor schema table name role n (bareB rname rkind n2 low high rs rt rk) right opt)) ∧ Aft w w' := by
  have hu := Lib.hid (fun w => used_any k actor schema table name role (.slice A n c) (.string rname) (.int .i64 rkind) (.slice A2 n2 c2) (.int .i64 low) (.int .i64 high) (.string rs) (.string rt) (.string rk) (.int .i64 right) (.bool opt) w)
  have hb := Lib.hid (fun w => bare_any rname rkind A2 n2 c2 low high rs rt rk w h1 h2 h3 h4)
  cases hK : isK k
  · refine (may_no1 k actor schema table name role A n c rname rkind A2 n2 c2 low high rs rt rk right opt w _ _ _ _ _ _ ha hs ht hn hr hu hb hK).mono ?_
    rintro e w' ⟨rfl, h⟩
    exact ⟨by simp [mayB, hK], h⟩
  · cases hN : nameB actor
    · refine (may_no2 k actor schema table name role A n c rname rkind A2 n2 c2 low high rs rt rk right opt w _ _ _ _ _ _ ha hs ht hn hr hu hb hK hN).mono ?_
      rintro e w' ⟨rfl, h⟩
      exact ⟨by simp [mayB, hN], h⟩
    · refine (may_yes k actor schema table name role A n c rname rkind A2 n2 c2 low high rs rt rk right opt w _ _ _ _ _ _ ha hs ht hn hr hu hb hK hN).mono ?_
      rintro e w' ⟨rfl, h⟩
      exact ⟨by simp [mayB, hK, hN], h⟩
end Go.Proofs.Ytngpojfgmpdniaa
