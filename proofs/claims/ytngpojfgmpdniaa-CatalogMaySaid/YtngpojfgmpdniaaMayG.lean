/- The law CatalogMay. -/
import Derived.Test.YtngpojfgmpdniaaMayF
namespace Go.Proofs.Ytngpojfgmpdniaa
open Go.RowKit
set_option maxRecDepth 100000
theorem big_any (k : Int) (actor schema table name role : ByteArray) (A : Option Addr) (n c : Nat) (rname : ByteArray) (rkind : Int) (A2 : Option Addr) (n2 c2 : Nat) (low high : Int) (rs rt rk : ByteArray) (right : Int) (opt : Bool) (w : World) (hn : n ≤ 9223372036854775807) (hn2 : n2 ≤ 9223372036854775807) :
    Calls Try.prog 12 #[.agg #[.int .i64 k, .string actor, .string schema, .string table, .string name, .string role, .slice A n c, .string rname, .int .i64 rkind, .slice A2 n2 c2, .int .i64 low, .int .i64 high, .string rs, .string rt, .string rk, .int .i64 right, .bool opt]] w fun e w' => e = .returned (.bool (decide (1000 < n) || decide (1000 < n2))) ∧ Aft w w' := by
  go_enter Try.func12, Try.ntmps12
  go_wp2_with fail
  all_goals
    go_ret
    refine ⟨Eq.trans (b := .returned (.bool _)) rfl (ret_of (bool_of ?_)), ?_⟩
    · rw [Bool.eq_iff_iff]; simp; omega
    · repeat (first | exact Aft.refl _ | apply Aft.alloc)

theorem one_any (w : World) : Calls Try.prog 47 #[] w fun e w' => e = .returned (.agg #[.int .i64 1, .string { data := #[114, 111, 111, 116] }, .string { data := #[115] }, .string { data := #[] }, .string { data := #[] }, .string { data := #[] }, .slice none 0 0, .string { data := #[] }, .int .i64 0, .slice none 0 0, .int .i64 0, .int .i64 0, .string { data := #[] }, .string { data := #[] }, .string { data := #[] }, .int .i64 0, .bool false]) ∧ Aft w w' := by
  go_enter Try.func47, Try.ntmps47
  go_wp2_with fail
  exact bodyPost_ret (v := .agg #[.int .i64 1, .string { data := #[114, 111, 111, 116] }, .string { data := #[115] }, .string { data := #[] }, .string { data := #[] }, .string { data := #[] }, .slice none 0 0, .string { data := #[] }, .int .i64 0, .slice none 0 0, .int .i64 0, .int .i64 0, .string { data := #[] }, .string { data := #[] }, .string { data := #[] }, .int .i64 0, .bool false]) (by simp [results, Try.results47, go_sem]) rfl ⟨rfl, by repeat (first | exact Aft.refl _ | apply Aft.alloc)⟩

theorem mayOne (w : World) : Calls Try.prog 14 #[.agg #[.int .i64 1, .string { data := #[114, 111, 111, 116] }, .string { data := #[115] }, .string { data := #[] }, .string { data := #[] }, .string { data := #[] }, .slice none 0 0, .string { data := #[] }, .int .i64 0, .slice none 0 0, .int .i64 0, .int .i64 0, .string { data := #[] }, .string { data := #[] }, .string { data := #[] }, .int .i64 0, .bool false]] w fun e w' => e = .returned (.bool true) ∧ Aft w w' :=
  (may_any 1 _ _ _ _ _ none 0 0 _ 0 none 0 0 0 0 _ _ _ 0 false w (by decide) (by decide) (by decide) (by decide) (by decide) (by decide) (by decide) (by decide) (by decide)).mono fun e w' ⟨he, h⟩ => ⟨he.trans (ret_of (bool_of (by decide +kernel))), h⟩
theorem mayTwo (w : World) : Calls Try.prog 14 #[.agg #[.int .i64 1, .string { data := #[114, 111, 111, 116] }, .string { data := #[115] }, .string { data := #[116] }, .string { data := #[] }, .string { data := #[] }, .slice none 0 0, .string { data := #[] }, .int .i64 0, .slice none 0 0, .int .i64 0, .int .i64 0, .string { data := #[] }, .string { data := #[] }, .string { data := #[] }, .int .i64 0, .bool false]] w fun e w' => e = .returned (.bool false) ∧ Aft w w' :=
  (may_any 1 _ _ _ _ _ none 0 0 _ 0 none 0 0 0 0 _ _ _ 0 false w (by decide) (by decide) (by decide) (by decide) (by decide) (by decide) (by decide) (by decide) (by decide)).mono fun e w' ⟨he, h⟩ => ⟨he.trans (ret_of (bool_of (by decide +kernel))), h⟩
theorem fenOne (w : World) : Calls Try.prog 16 #[.agg #[.int .i64 1, .string { data := #[114, 111, 111, 116] }, .string { data := #[115] }, .string { data := #[] }, .string { data := #[] }, .string { data := #[] }, .slice none 0 0, .string { data := #[] }, .int .i64 0, .slice none 0 0, .int .i64 0, .int .i64 0, .string { data := #[] }, .string { data := #[] }, .string { data := #[] }, .int .i64 0, .bool false]] w fun e w' => e = .returned (.bool false) ∧ Aft w w' :=
  (fencing_any 1 _ _ _ _ _ none 0 0 _ 0 none 0 0 0 0 _ _ _ 0 false w true (Lib.hid mayOne)).mono fun e w' ⟨he, h⟩ => ⟨he.trans (ret_of (bool_of (by decide +kernel))), h⟩
theorem mayThree (w : World) : Calls Try.prog 14 #[.agg #[.int .i64 2, .string { data := #[97] }, .string { data := #[115] }, .string { data := #[] }, .string { data := #[] }, .string { data := #[] }, .slice none 0 0, .string { data := #[] }, .int .i64 0, .slice none 0 0, .int .i64 0, .int .i64 0, .string { data := #[] }, .string { data := #[] }, .string { data := #[] }, .int .i64 0, .bool false]] w fun e w' => e = .returned (.bool true) ∧ Aft w w' :=
  (may_any 2 _ _ _ _ _ none 0 0 _ 0 none 0 0 0 0 _ _ _ 0 false w (by decide) (by decide) (by decide) (by decide) (by decide) (by decide) (by decide) (by decide) (by decide)).mono fun e w' ⟨he, h⟩ => ⟨he.trans (ret_of (bool_of (by decide +kernel))), h⟩
theorem fenThree (w : World) : Calls Try.prog 16 #[.agg #[.int .i64 2, .string { data := #[97] }, .string { data := #[115] }, .string { data := #[] }, .string { data := #[] }, .string { data := #[] }, .slice none 0 0, .string { data := #[] }, .int .i64 0, .slice none 0 0, .int .i64 0, .int .i64 0, .string { data := #[] }, .string { data := #[] }, .string { data := #[] }, .int .i64 0, .bool false]] w fun e w' => e = .returned (.bool true) ∧ Aft w w' :=
  (fencing_any 2 _ _ _ _ _ none 0 0 _ 0 none 0 0 0 0 _ _ _ 0 false w true (Lib.hid mayThree)).mono fun e w' ⟨he, h⟩ => ⟨he.trans (ret_of (bool_of (by decide +kernel))), h⟩

set_option maxHeartbeats 4000000 in
theorem mayEx_any (w : World) : Calls Try.prog 13 #[] w fun e w' => e = .returned (.bool true) ∧ Aft w w' := by
  go_enter Try.func13, Try.ntmps13
  go_wp2_with fail
  refine (one_any _).mono ?_
  rintro e w1 ⟨rfl, a1⟩
  have A1 := Lib.hid a1; clear a1
  go_wp2_with fail
  refine (one_any _).mono ?_
  rintro e w2 ⟨rfl, a2⟩
  obtain ⟨hbox, hfr, hz, hzk, HA⟩ := aft_box a2
  have HB := Lib.hid a2; clear a2
  go_wp2_with fail
  refine (mayOne _).mono ?_
  rintro e w3 ⟨rfl, a3⟩
  obtain ⟨hbox3, _, hz3, hzk3, HA3⟩ := aft_box (HB.out.trans a3)
  have HB3 := Lib.hid (HB.out.trans a3); clear a3 hbox hfr hz hzk
  go_wp2_with fail
  refine (mayTwo _).mono ?_
  rintro e w4 ⟨rfl, a4⟩
  have HA4 := Lib.hid (HA3.out.trans a4); clear a4 hbox3 hz3 hzk3
  go_wp2_with fail
  refine (one_any _).mono ?_
  rintro e w5 ⟨rfl, a5⟩
  have HA5 := Lib.hid (HA4.out.trans a5); clear a5
  go_wp2_with fail
  refine (fenOne _).mono ?_
  rintro e w6 ⟨rfl, a6⟩
  have HA6 := Lib.hid (HA5.out.trans a6); clear a6
  go_wp2_with fail
  refine (fenThree _).mono ?_
  rintro e w7 ⟨rfl, a7⟩
  have HA7 := Lib.hid (HA6.out.trans a7); clear a7
  go_wp2_with fail
  go_ret
  exact ⟨rfl, A1.out.trans HA7.out⟩
end Go.Proofs.Ytngpojfgmpdniaa
