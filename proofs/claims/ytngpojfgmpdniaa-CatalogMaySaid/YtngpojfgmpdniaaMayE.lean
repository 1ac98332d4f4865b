/- The document's text, and May; the fencing. -/
import Derived.Test.YtngpojfgmpdniaaMayC
namespace Go.Proofs.Ytngpojfgmpdniaa
open Go.RowKit
set_option maxRecDepth 100000
def textB (s : ByteArray) (u : Bool) : Bool := if u then nameB s else emp s
set_option maxHeartbeats 400000 in
theorem text_any (s : ByteArray) (u : Bool) (w : World) (hs : s.size ≤ maxLen) :
    Calls Try.prog 51 #[.string s, .bool u] w fun e w' => e = .returned (.bool (textB s u)) ∧ w = w' := by
  cases u <;> cases he : s.toList.isEmpty
  all_goals
    have he2 : (s.toList = []) = (s.toList.isEmpty = true) := by simp
    rw [he] at he2
    simp only [Bool.false_eq_true, if_true, eq_iff_iff, iff_true, iff_false] at he2
    go_enter Try.func51, Try.ntmps51
    go_wp2_with (go_at_call 11; refine (rname_any _ _ hs).mono ?_; rintro e w' ⟨rfl, rfl⟩)
    go_ret
    exact ⟨by simp [textB, emp, he], rfl⟩

def restC (c r g o k5 : Bool) (n : Nat) (bb : Bool) (right : Int) (opt : Bool) : Bool :=
  ((right == 0 && !g) || (g && (right == 1 || right == 2))) && ((c && (!k5 || (n : Int) == 1)) || (!c && n == 0)) && (r || bb) && (o || !opt)
set_option maxHeartbeats 8000000 in
theorem rmay_no (k : Int) (actor schema table name role : ByteArray) (A : Option Addr) (n c : Nat) (rname : ByteArray) (rkind : Int) (A2 : Option Addr) (n2 c2 : Nat) (low high : Int) (rs rt rk : ByteArray) (right : Int) (opt : Bool) (w : World) (b0 b1 b2 b3 b4 b5 b6 b7 ok bb : Bool)
    (ha : actor.size ≤ maxLen) (hs : schema.size ≤ maxLen) (ht : table.size ≤ maxLen) (hn : name.size ≤ maxLen) (hr : role.size ≤ maxLen)
    (huses : Hid (∀ w, Calls Try.prog 50 #[.int .i64 k] w fun e w' => e = .returned (.tuple #[.agg #[.bool b0, .bool b1, .bool b2, .bool b3, .bool b4, .bool b5, .bool b6, .bool b7], .bool ok]) ∧ Aft w w'))
    (hbare : Hid (∀ w, Calls Try.prog 52 #[.agg #[.string rname, .int .i64 rkind, .slice A2 n2 c2, .int .i64 low, .int .i64 high, .string rs, .string rt, .string rk]] w fun e w' => e = .returned (.bool bb) ∧ Aft w w')) (hx : ok = false ∨ (ok = true ∧ nameB actor = false) ∨ (ok = true ∧ nameB actor = true ∧ textB schema b0 = false) ∨ (ok = true ∧ nameB actor = true ∧ textB schema b0 = true ∧ textB table b1 = false) ∨
      (ok = true ∧ nameB actor = true ∧ textB schema b0 = true ∧ textB table b1 = true ∧ textB name b2 = false) ∨ (ok = true ∧ nameB actor = true ∧ textB schema b0 = true ∧ textB table b1 = true ∧ textB name b2 = true ∧ textB role b3 = false)) :
    Calls Try.prog 15 #[.agg #[.int .i64 k, .string actor, .string schema, .string table, .string name, .string role, .slice A n c, .string rname, .int .i64 rkind, .slice A2 n2 c2, .int .i64 low, .int .i64 high, .string rs, .string rt, .string rk, .int .i64 right, .bool opt]] w fun e w' => e = .returned (.bool (false)) ∧ Aft w w' := by
  rcases hx with hx | ⟨hx0, hx⟩ | ⟨hx0, hx1, hx⟩ | ⟨hx0, hx1, hx2, hx⟩ | ⟨hx0, hx1, hx2, hx3, hx⟩ | ⟨hx0, hx1, hx2, hx3, hx4, hx⟩
  all_goals
    go_enter Try.func15, Try.ntmps15
    go_wp2_with (first | (go_at_call 50; refine (huses.out _).mono ?_; rintro e w1 ⟨rfl, haft⟩; obtain ⟨hbox, hfr, hz, hzk, HA⟩ := aft_box haft; have HAB := Lib.hid haft; clear haft) | (go_at_call 11; refine (rname_any _ _ (by assumption)).mono ?_; rintro e w' ⟨rfl, rfl⟩) | (go_at_call 51; refine (text_any _ _ _ (by assumption)).mono ?_; rintro e w' ⟨rfl, rfl⟩))
    go_ret
    refine ⟨rfl, ?_⟩
    repeat (first | exact HA.out | apply Aft.alloc)
set_option maxHeartbeats 8000000 in
theorem rmay_yes (k : Int) (actor schema table name role : ByteArray) (A : Option Addr) (n c : Nat) (rname : ByteArray) (rkind : Int) (A2 : Option Addr) (n2 c2 : Nat) (low high : Int) (rs rt rk : ByteArray) (right : Int) (opt : Bool) (w : World) (b0 b1 b2 b3 b4 b5 b6 b7 ok bb : Bool)
    (ha : actor.size ≤ maxLen) (hs : schema.size ≤ maxLen) (ht : table.size ≤ maxLen) (hn : name.size ≤ maxLen) (hr : role.size ≤ maxLen)
    (huses : Hid (∀ w, Calls Try.prog 50 #[.int .i64 k] w fun e w' => e = .returned (.tuple #[.agg #[.bool b0, .bool b1, .bool b2, .bool b3, .bool b4, .bool b5, .bool b6, .bool b7], .bool ok]) ∧ Aft w w'))
    (hbare : Hid (∀ w, Calls Try.prog 52 #[.agg #[.string rname, .int .i64 rkind, .slice A2 n2 c2, .int .i64 low, .int .i64 high, .string rs, .string rt, .string rk]] w fun e w' => e = .returned (.bool bb) ∧ Aft w w')) (hok : ok = true) (hN : nameB actor = true) (t0 : textB schema b0 = true) (t1 : textB table b1 = true) (t2 : textB name b2 = true) (t3 : textB role b3 = true)
    (hb : (b4 = true ∧ b5 = false ∧ b6 = false ∧ b7 = false) ∨ (b4 = false ∧ b5 = true ∧ b6 = false ∧ b7 = false) ∨ (b4 = false ∧ b5 = false ∧ b6 = true ∧ b7 = false) ∨ (b4 = false ∧ b5 = false ∧ b6 = true ∧ b7 = true) ∨ (b4 = false ∧ b5 = false ∧ b6 = false ∧ b7 = false)) :
    Calls Try.prog 15 #[.agg #[.int .i64 k, .string actor, .string schema, .string table, .string name, .string role, .slice A n c, .string rname, .int .i64 rkind, .slice A2 n2 c2, .int .i64 low, .int .i64 high, .string rs, .string rt, .string rk, .int .i64 right, .bool opt]] w fun e w' => e = .returned (.bool (restC b4 b5 b6 b7 (k == 5) n bb right opt)) ∧ Aft w w' := by
  rcases hb with ⟨rfl, rfl, rfl, rfl⟩ | ⟨rfl, rfl, rfl, rfl⟩ | ⟨rfl, rfl, rfl, rfl⟩ | ⟨rfl, rfl, rfl, rfl⟩ | ⟨rfl, rfl, rfl, rfl⟩
  all_goals
    go_enter Try.func15, Try.ntmps15
    go_wp2_with (first | (go_at_call 50; refine (huses.out _).mono ?_; rintro e w1 ⟨rfl, haft⟩; obtain ⟨hbox, hfr, hz, hzk, HA⟩ := aft_box haft; have HAB := Lib.hid haft; clear haft) | (go_at_call 11; refine (rname_any _ _ (by assumption)).mono ?_; rintro e w' ⟨rfl, rfl⟩) | (go_at_call 51; refine (text_any _ _ _ (by assumption)).mono ?_; rintro e w' ⟨rfl, rfl⟩) | (go_at_call 52; refine (hbare.out _).mono ?_; rintro e w2 ⟨rfl, haft⟩; obtain ⟨hbox2, hfr2, hz2, hzk2, HA2⟩ := aft_box ((HAB.out.alloc _).trans haft); obtain ⟨hbox3, _, hz3, hzk3, _⟩ := aft_box haft; clear haft hbox hfr))
    all_goals
      go_ret
      refine ⟨Eq.trans (b := .returned (.bool _)) rfl (ret_of (bool_of ?_)), ?_⟩
      · clear HA HAB huses hbare
        simp_all [restC]
      · repeat (first | exact HA2.out | exact HA.out | apply Aft.alloc)
end Go.Proofs.Ytngpojfgmpdniaa
