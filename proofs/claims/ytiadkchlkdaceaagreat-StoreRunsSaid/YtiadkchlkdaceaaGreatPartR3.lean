/- Contracts of the program, part 3. -/
import Derived.Lib.Bytealg
import Derived.StillTailTactics
import Derived.ProofKit
import Derived.OpenShut
import Derived.Deep.Slices
import Derived.ChangeOld
import Derived.SizedLaws
import Derived.WalkKit
import Derived.WalkSpells
import Derived.WalkLawsBesides
import Derived.Lib.Hide
import Derived.Deep.QuietTactic
import Derived.BigQuiet
import Derived.Below
import Derived.Deep.Draws
import Derived.Laws.Cells
import Derived.Laws.IdiomCopy
import Derived.Test.YtiadkchlkdaceaaGreatRows
import Derived.IntWalk
import Derived.OwnWalk
import Derived.Laws.AppendOwn
import Derived.ShutString
import Derived.OneCell
import Derived.Test.YtiadkchlkdaceaaGreatPartR1
import Derived.Test.YtiadkchlkdaceaaGreatPartR2
namespace Go.Proofs.YtiadkchlkdaceaaGreat
open Go.RowKit
set_option maxRecDepth 100000
set_option linter.unusedVariables false
def cmpS (a b : ByteArray) : Int := Lib.compareBytes a.data.toList b.data.toList
set_option maxHeartbeats 400000 in
theorem cmpString (a b : ByteArray) (w : World) :
    Calls Tryz.prog 83 #[.string a, .string b] w fun e w' => e = .returned (.int .i64 (cmpS a b)) ∧ w = w' := by
  go_enter Tryz.func83, Tryz.ntmps83
  go_wp2
  rw [run_callFunc_extern Tryz.func110 (by kernel_rfl) (by kernel_rfl) (by kernel_rfl) (e := Extern.BytealgCompare.compare) (by kernel_rfl), Lib.run_compareString]
  simp only [Result.andThen]
  rw [Oper.upon_value]
  go_wp2
  go_ret
  exact ⟨rfl, rfl⟩
theorem compare_any (a b : ByteArray) (w : World) :
    Calls Tryz.prog 55 #[.string a, .string b] w fun e w' => e = .returned (.int .i64 (cmpS a b)) ∧ w = w' := by
  go_enter Tryz.func55, Tryz.ntmps55
  go_wp2_with (go_at_call 83; refine (cmpString _ _ _).mono ?_; rintro e w' ⟨rfl, rfl⟩)
  go_ret
  exact ⟨rfl, rfl⟩
theorem compare_still (a b : ByteArray) (w : World) :
    Calls Tryz.prog 55 #[.string a, .string b] w fun e w' => e = .returned (.int .i64 (cmpS a b)) ∧ w' = w := (compare_any a b w).mono fun e w' ⟨h1, h2⟩ => ⟨h1, h2.symm⟩
/-- the first that is not 0 -/
def or2 (a b : Int) : Int := if a == 0 then b else a
set_option maxHeartbeats 1000000 in
theorem or_any (a b : Int) (g : Nat) (w : World) (hg : g < w.heap.size) (h0 : w.cell? ⟨g, 0, none⟩ = some (.int .i64 a)) (h1 : w.cell? ⟨g, 1, none⟩ = some (.int .i64 b)) :
    Calls Tryz.prog 82 #[.slice (some ⟨g, 0, none⟩) 2 2] w fun e w' => e = .returned (.int .i64 (or2 a b)) ∧ Aft w w' := by
  cases ha : (a != 0)
  · have ha0 : a = 0 := by simpa using ha
    subst ha0
    have HO := Lib.hid (show or2 0 b = b by simp [or2])
    clear ha
    cases hb : (b != 0)
    · have hb0 : b = 0 := by simpa using hb
      subst hb0
      clear hb
      go_enter Tryz.func82, Tryz.ntmps82
      go_wp2_with fail
      go_loop [8] (fun i => ∃ k : Nat, k ≤ 2 ∧ i = .int .i64 k) (fun i => 2 - (intOf i).toNat)
      case atStart => exact ⟨0, by omega, rfl⟩
      case round =>
        obtain ⟨k, hk, rfl⟩ := hrel
        have hk2 : k = 0 ∨ k = 1 ∨ k = 2 := by omega
        clear hk
        rcases hk2 with rfl | rfl | rfl
        · go_wp2_with fail
          go_round
          case rel => exact ⟨1, by omega, rfl⟩
          case measure => simp [intOf]
        · go_wp2_with fail
          go_round
          case rel => exact ⟨2, by omega, rfl⟩
          case measure => simp [intOf]
        · go_wp2_with fail
          go_ret
          exact ⟨by rw [HO.out]; rfl, Aft.refl _⟩
    · go_enter Tryz.func82, Tryz.ntmps82
      go_wp2_with fail
      go_loop [8] (fun i => ∃ k : Nat, k ≤ 1 ∧ i = .int .i64 k) (fun i => 2 - (intOf i).toNat)
      case atStart => exact ⟨0, by omega, rfl⟩
      case round =>
        obtain ⟨k, hk, rfl⟩ := hrel
        have hk2 : k = 0 ∨ k = 1 := by omega
        clear hk
        rcases hk2 with rfl | rfl
        · go_wp2_with fail
          go_round
          case rel => exact ⟨1, by omega, rfl⟩
          case measure => simp [intOf]
        · go_wp2_with fail
          go_ret
          exact ⟨by rw [HO.out]; rfl, Aft.refl _⟩
  · have HO := Lib.hid (show or2 a b = a by have : ¬ a = 0 := (by simpa using ha); simp [or2, this])
    go_enter Tryz.func82, Tryz.ntmps82
    go_wp2_with fail
    go_loop [8] (fun i => i = .int .i64 0) (fun i => 2 - (intOf i).toNat)
    case atStart => rfl
    case round =>
      subst hrel
      go_wp2_with fail
      go_ret
      exact ⟨by rw [HO.out]; rfl, Aft.refl _⟩
set_option maxHeartbeats 1000000 in
theorem order_any (s1 n1 o1 : ByteArray) (v1 v2 : Value) (s2 n2 o2 : ByteArray) (v3 v4 : Value) (w : World) :
    Calls Tryz.prog 52 #[.agg #[.string s1, .string n1, .string o1, v1, v2], .agg #[.string s2, .string n2, .string o2, v3, v4]] w fun e w' => e = .returned (.int .i64 (or2 (cmpS s1 s2) (cmpS n1 n2))) ∧ Aft w w' := by
  go_enter Tryz.func52, Tryz.ntmps52
  go_wp2_with fail
  refine wp_region_tail 10 (by kernel_rfl) (by kernel_rfl) ?_
  intro w1 a1
  obtain ⟨hb1, hb2, hz, HA⟩ := aft_box2 a1
  clear a1
  simp only [List.take_succ_cons, List.take_zero, List.drop_succ_cons, List.drop_zero]
  repeat still_step
  still_call (compare_still _ _ _)
  repeat still_step
  still_call (compare_still _ _ _)
  refine wpStill_nil ?_
  go_wp2_with fail
  refine (or_any (cmpS s1 s2) (cmpS n1 n2) w1.heap.size _ (by simp) (by simp) (by simp)).mono ?_
  rintro e w2 ⟨rfl, a2⟩
  have HA2 := Lib.hid ((HA.out.alloc _).trans a2)
  clear a2
  go_wp2_with fail
  go_ret
  exact ⟨rfl, HA2.out⟩
end Go.Proofs.YtiadkchlkdaceaaGreat

namespace Go.Proofs.YtiadkchlkdaceaaGreat
open Go.RowKit
set_option maxRecDepth 100000
set_option linter.unusedVariables false
/-- does a row rise? -/
def risesB {α : Type} (c : α → α → Int) : List α → Bool
  | [] => true
  | [_] => true
  | x :: y :: l => decide (c x y < 0) && risesB c (y :: l)
theorem risesB_iff {α : Type} (c : α → α → Int) (l : List α) : risesB c l = true ↔ ∀ k (h : k + 1 < l.length), c (l[k]'(by omega)) l[k + 1] < 0 := by
  induction l with
  | nil => simp [risesB]
  | cons x l ih =>
    cases l with
    | nil => simp [risesB]
    | cons y l =>
      rw [risesB, Bool.and_eq_true, ih, decide_eq_true_eq]
      constructor
      · rintro ⟨h1, h2⟩ k hk
        cases k with
        | zero => exact h1
        | succ k => exact h2 k (by simpa using hk)
      · intro h
        exact ⟨h 0 (by simp), fun k hk => h (k + 1) (by simpa using hk)⟩
theorem risesB_false {α : Type} (c : α → α → Int) (l : List α) (k : Nat) (h : k + 1 < l.length) (hc : 0 ≤ c (l[k]'(by omega)) l[k + 1]) : risesB c l = false := by
  rw [Bool.eq_false_iff]
  intro hr
  have := (risesB_iff c l).1 hr k h
  omega
set_option maxHeartbeats 1000000 in
theorem risesSch (A : Option Addr) (cap : Nat) (l : List Sch) (g : FuncId) (caps : Array Value) (c : Sch → Sch → Int) (w : World) (h : SlAt w 2 SchR A cap l) (hent : ∀ (args : Array Value) (w : World), (callFunc g args).run Tryz.prog w = .ok (.enter g args) w)
    (hp : ∀ w', Aft w w' → ∀ i (hi : i + 1 < l.length), Calls Tryz.prog g (#[.agg #[.string (l[i]'(by omega)).name, .string (l[i]'(by omega)).owner], .agg #[.string l[i + 1].name, .string l[i + 1].owner]] ++ caps) w' fun e w'' => e = .returned (.int .i64 (c (l[i]'(by omega)) l[i + 1])) ∧ Aft w' w'') :
    Calls Tryz.prog 53 #[.slice A l.length cap, .func (.func g) #[] caps] w fun e w' => e = .returned (.bool (risesB c l)) ∧ Aft w w' := by
  have hlen := h.len
  have HC := Lib.hid hp
  clear hp
  by_cases h2 : l.length ≤ 1
  · have HT := Lib.hid (show risesB c l = true from (risesB_iff c l).2 fun k hk => by omega)
    have hi2 : (l.length : Int) ≤ 1 := by omega
    go_enter Tryz.func53, Tryz.ntmps53
    go_wp2_with fail
    all_goals
      go_loop [10] (fun i => i = .int .i64 0) (fun i => 2 - (intOf i).toNat)
      case atStart => rfl
      case round =>
        subst hrel
        go_wp2_with fail
        go_ret
        exact ⟨by rw [HT.out]; rfl, Aft.refl _⟩
  · have hge : 2 ≤ l.length := by omega
    have hi2 : ¬ (l.length : Int) ≤ 1 := by omega
    have hi3 : (0 : Int) ≤ (l.length : Int) - 1 := by omega
    go_enter Tryz.func53, Tryz.ntmps53
    go_wp2_with fail
    go_loopw [10] (fun i wr => ∃ k : Nat, k ≤ l.length - 1 ∧ i = .int .i64 k ∧ Aft w wr ∧ ∀ j, j < k → ∀ (hj : j + 1 < l.length), c (l[j]'(by omega)) l[j + 1] < 0) (fun i _ => l.length - (intOf i).toNat)
    case atStart => exact ⟨0, Nat.zero_le _, rfl, Aft.refl _, fun j hj => absurd hj (Nat.not_lt_zero j)⟩
    case round =>
      obtain ⟨k, hk, rfl, ha, hp⟩ := hrel
      have HA := Lib.hid ha
      have HP := Lib.hid hp; clear hp
      by_cases hlt : k + 1 < l.length
      · have hsl := schs_aft ha h
        have hk1 : k < l.length := by omega
        obtain ⟨b, off, rfl, hb, c0, c1, hs, hs2⟩ := sch_at hsl hk1
        obtain ⟨b', off', hA', hb', d0, d1, hs', hs2'⟩ := sch_at hsl hlt
        simp only [Option.some.injEq, Addr.mk.injEq, and_true] at hA'
        obtain ⟨rfl, rfl⟩ := hA'
        obtain ⟨r, hr⟩ : ∃ r, c (l[k]'(by omega)) l[k + 1] = r := ⟨_, rfl⟩
        have Cc := Lib.hid (show ∀ x : Lat wr, _ from fun x => hr ▸ HC.out (lat wr x) (HA.out.lat x) k hlt)
        have HR := Lib.hid hr
        clear ha hsl hr
        have w1 : IntKind.i64.wrap ((k : Int) + 1) = (k : Int) + 1 := IntWalk.i64_in _ (by omega)
        have w2 : (0 : Int) ≤ (k : Int) + 1 := by omega
        have w3 : ((k : Int) + 1).toNat = k + 1 := by omega
        have w4 : (k : Int) + 1 < (l.length : Int) := by omega
        by_cases hr0 : 0 ≤ r
        · skip
          go_wp2_with fail
          refine wp_region_lat (by kernel_rfl) (by kernel_rfl) ?_
          repeat (go_big_quiet_step ((exact Calls.lat_of (Cc.out _))))
          refine wpQuiet_nil ?_
          intro _ hw'
          obtain ⟨x, hw''⟩ := hw'
          subst hw''
          clear w1 w2 w3 w4
          go_wp2_with fail
          go_ret
          exact ⟨by rw [risesB_false c l k hlt (by rw [HR.out]; exact hr0)]; rfl, HA.out.lat x⟩
        · have hr1 : r < 0 := by omega
          go_wp2_with fail
          refine wp_region_lat (by kernel_rfl) (by kernel_rfl) ?_
          repeat (go_big_quiet_step ((exact Calls.lat_of (Cc.out _))))
          refine wpQuiet_nil ?_
          intro _ hw'
          obtain ⟨x, hw''⟩ := hw'
          subst hw''
          clear w1 w2 w3 w4
          go_wp2_with fail
          go_roundw
          case rel => exact ⟨k + 1, by omega, by go_num, HA.out.lat x, ext_lt (p := fun j => ∀ (hj : j + 1 < l.length), c (l[j]'(by omega)) l[j + 1] < 0) HP.out (fun _ => by rw [HR.out]; exact hr1)⟩
          case measure => simp [intOf]; omega
      · have HT := Lib.hid (show risesB c l = true from (risesB_iff c l).2 fun j hj => HP.out j (by omega) hj)
        have hge2 : ¬ (k : Int) < (l.length : Int) - 1 := by omega
        clear ha
        go_wp2_with fail
        go_ret
        exact ⟨by rw [HT.out]; rfl, HA.out⟩
set_option maxHeartbeats 1000000 in
theorem risesRul (A : Option Addr) (cap : Nat) (l : List Rul) (g : FuncId) (caps : Array Value) (c : Rul → Rul → Int) (w : World) (h : SlAt w 8 RulR A cap l) (hent : ∀ (args : Array Value) (w : World), (callFunc g args).run Tryz.prog w = .ok (.enter g args) w)
    (hp : ∀ w', Aft w w' → ∀ i (hi : i + 1 < l.length) (e1 e2 : List Value), RulR w' e1 (l[i]'(by omega)) → RulR w' e2 l[i + 1] → Calls Tryz.prog g (#[.agg e1.toArray, .agg e2.toArray] ++ caps) w' fun e w'' => e = .returned (.int .i64 (c (l[i]'(by omega)) l[i + 1])) ∧ Aft w' w'') :
    Calls Tryz.prog 91 #[.slice A l.length cap, .func (.func g) #[] caps] w fun e w' => e = .returned (.bool (risesB c l)) ∧ Aft w w' := by
  have hlen := h.len
  have HC := Lib.hid hp
  clear hp
  by_cases h2 : l.length ≤ 1
  · have HT := Lib.hid (show risesB c l = true from (risesB_iff c l).2 fun k hk => by omega)
    have hi2 : (l.length : Int) ≤ 1 := by omega
    go_enter Tryz.func91, Tryz.ntmps91
    go_wp2_with fail
    all_goals
      go_loop [10] (fun i => i = .int .i64 0) (fun i => 2 - (intOf i).toNat)
      case atStart => rfl
      case round =>
        subst hrel
        go_wp2_with fail
        go_ret
        exact ⟨by rw [HT.out]; rfl, Aft.refl _⟩
  · have hge : 2 ≤ l.length := by omega
    have hi2 : ¬ (l.length : Int) ≤ 1 := by omega
    have hi3 : (0 : Int) ≤ (l.length : Int) - 1 := by omega
    go_enter Tryz.func91, Tryz.ntmps91
    go_wp2_with fail
    go_loopw [10] (fun i wr => ∃ k : Nat, k ≤ l.length - 1 ∧ i = .int .i64 k ∧ Aft w wr ∧ ∀ j, j < k → ∀ (hj : j + 1 < l.length), c (l[j]'(by omega)) l[j + 1] < 0) (fun i _ => l.length - (intOf i).toNat)
    case atStart => exact ⟨0, Nat.zero_le _, rfl, Aft.refl _, fun j hj => absurd hj (Nat.not_lt_zero j)⟩
    case round =>
      obtain ⟨k, hk, rfl, ha, hp⟩ := hrel
      have HA := Lib.hid ha
      have HP := Lib.hid hp; clear hp
      by_cases hlt : k + 1 < l.length
      · have hsl := ruls_aft ha h
        have hk1 : k < l.length := by omega
        obtain ⟨b, off, A2, cap2, rfl, hb, c0, c1, c2, c3, c4, c5, c6, c7, hs⟩ := rul_at hsl hk1
        obtain ⟨b', off', A2', cap2', hA', hb', d0, d1, d2, d3, d4, d5, d6, d7, hs'⟩ := rul_at hsl hlt
        simp only [Option.some.injEq, Addr.mk.injEq, and_true] at hA'
        obtain ⟨rfl, rfl⟩ := hA'
        obtain ⟨r, hr⟩ : ∃ r, c (l[k]'(by omega)) l[k + 1] = r := ⟨_, rfl⟩
        have Cc := Lib.hid (show ∀ x : Lat wr, _ from fun x => hr ▸ HC.out (lat wr x) (HA.out.lat x) k hlt _ _ (RulR.aft ((Aft.refl wr).lat x) ⟨A2, cap2, rfl, hs⟩) (RulR.aft ((Aft.refl wr).lat x) ⟨A2', cap2', rfl, hs'⟩))
        have HR := Lib.hid hr
        clear ha hsl hr
        have w1 : IntKind.i64.wrap ((k : Int) + 1) = (k : Int) + 1 := IntWalk.i64_in _ (by omega)
        have w2 : (0 : Int) ≤ (k : Int) + 1 := by omega
        have w3 : ((k : Int) + 1).toNat = k + 1 := by omega
        have w4 : (k : Int) + 1 < (l.length : Int) := by omega
        by_cases hr0 : 0 ≤ r
        · skip
          go_wp2_with fail
          refine wp_region_lat (by kernel_rfl) (by kernel_rfl) ?_
          repeat (go_big_quiet_step ((exact Calls.lat_of (Cc.out _))))
          refine wpQuiet_nil ?_
          intro _ hw'
          obtain ⟨x, hw''⟩ := hw'
          subst hw''
          clear w1 w2 w3 w4
          go_wp2_with fail
          go_ret
          exact ⟨by rw [risesB_false c l k hlt (by rw [HR.out]; exact hr0)]; rfl, HA.out.lat x⟩
        · have hr1 : r < 0 := by omega
          go_wp2_with fail
          refine wp_region_lat (by kernel_rfl) (by kernel_rfl) ?_
          repeat (go_big_quiet_step ((exact Calls.lat_of (Cc.out _))))
          refine wpQuiet_nil ?_
          intro _ hw'
          obtain ⟨x, hw''⟩ := hw'
          subst hw''
          clear w1 w2 w3 w4
          go_wp2_with fail
          go_roundw
          case rel => exact ⟨k + 1, by omega, by go_num, HA.out.lat x, ext_lt (p := fun j => ∀ (hj : j + 1 < l.length), c (l[j]'(by omega)) l[j + 1] < 0) HP.out (fun _ => by rw [HR.out]; exact hr1)⟩
          case measure => simp [intOf]; omega
      · have HT := Lib.hid (show risesB c l = true from (risesB_iff c l).2 fun j hj => HP.out j (by omega) hj)
        have hge2 : ¬ (k : Int) < (l.length : Int) - 1 := by omega
        clear ha
        go_wp2_with fail
        go_ret
        exact ⟨by rw [HT.out]; rfl, HA.out⟩
set_option maxHeartbeats 1000000 in
theorem risesTab (A : Option Addr) (cap : Nat) (l : List Tab) (g : FuncId) (caps : Array Value) (c : Tab → Tab → Int) (w : World) (h : SlAt w 5 TabR A cap l) (hent : ∀ (args : Array Value) (w : World), (callFunc g args).run Tryz.prog w = .ok (.enter g args) w)
    (hp : ∀ w', Aft w w' → ∀ i (hi : i + 1 < l.length) (e1 e2 : List Value), TabR w' e1 (l[i]'(by omega)) → TabR w' e2 l[i + 1] → Calls Tryz.prog g (#[.agg e1.toArray, .agg e2.toArray] ++ caps) w' fun e w'' => e = .returned (.int .i64 (c (l[i]'(by omega)) l[i + 1])) ∧ Aft w' w'') :
    Calls Tryz.prog 51 #[.slice A l.length cap, .func (.func g) #[] caps] w fun e w' => e = .returned (.bool (risesB c l)) ∧ Aft w w' := by
  have hlen := h.len
  have HC := Lib.hid hp
  clear hp
  by_cases h2 : l.length ≤ 1
  · have HT := Lib.hid (show risesB c l = true from (risesB_iff c l).2 fun k hk => by omega)
    have hi2 : (l.length : Int) ≤ 1 := by omega
    go_enter Tryz.func51, Tryz.ntmps51
    go_wp2_with fail
    all_goals
      go_loop [10] (fun i => i = .int .i64 0) (fun i => 2 - (intOf i).toNat)
      case atStart => rfl
      case round =>
        subst hrel
        go_wp2_with fail
        go_ret
        exact ⟨by rw [HT.out]; rfl, Aft.refl _⟩
  · have hge : 2 ≤ l.length := by omega
    have hi2 : ¬ (l.length : Int) ≤ 1 := by omega
    have hi3 : (0 : Int) ≤ (l.length : Int) - 1 := by omega
    go_enter Tryz.func51, Tryz.ntmps51
    go_wp2_with fail
    go_loopw [10] (fun i wr => ∃ k : Nat, k ≤ l.length - 1 ∧ i = .int .i64 k ∧ Aft w wr ∧ ∀ j, j < k → ∀ (hj : j + 1 < l.length), c (l[j]'(by omega)) l[j + 1] < 0) (fun i _ => l.length - (intOf i).toNat)
    case atStart => exact ⟨0, Nat.zero_le _, rfl, Aft.refl _, fun j hj => absurd hj (Nat.not_lt_zero j)⟩
    case round =>
      obtain ⟨k, hk, rfl, ha, hp⟩ := hrel
      have HA := Lib.hid ha
      have HP := Lib.hid hp; clear hp
      by_cases hlt : k + 1 < l.length
      · have hsl := tabs_aft ha h
        have hk1 : k < l.length := by omega
        obtain ⟨b, off, A2, cap2, A3, cap3, rfl, hb, c0, c1, c2, c3, c4, hs⟩ := tab_at hsl hk1
        obtain ⟨b', off', A2', cap2', A3', cap3', hA', hb', d0, d1, d2, d3, d4, hs'⟩ := tab_at hsl hlt
        simp only [Option.some.injEq, Addr.mk.injEq, and_true] at hA'
        obtain ⟨rfl, rfl⟩ := hA'
        obtain ⟨r, hr⟩ : ∃ r, c (l[k]'(by omega)) l[k + 1] = r := ⟨_, rfl⟩
        have Cc := Lib.hid (show ∀ x : Lat wr, _ from fun x => hr ▸ HC.out (lat wr x) (HA.out.lat x) k hlt _ _ (TabR.aft ((Aft.refl wr).lat x) ⟨A2, cap2, A3, cap3, rfl, hs⟩) (TabR.aft ((Aft.refl wr).lat x) ⟨A2', cap2', A3', cap3', rfl, hs'⟩))
        have HR := Lib.hid hr
        clear ha hsl hr
        have w1 : IntKind.i64.wrap ((k : Int) + 1) = (k : Int) + 1 := IntWalk.i64_in _ (by omega)
        have w2 : (0 : Int) ≤ (k : Int) + 1 := by omega
        have w3 : ((k : Int) + 1).toNat = k + 1 := by omega
        have w4 : (k : Int) + 1 < (l.length : Int) := by omega
        by_cases hr0 : 0 ≤ r
        · skip
          go_wp2_with fail
          refine wp_region_lat (by kernel_rfl) (by kernel_rfl) ?_
          repeat (go_big_quiet_step ((exact Calls.lat_of (Cc.out _))))
          refine wpQuiet_nil ?_
          intro _ hw'
          obtain ⟨x, hw''⟩ := hw'
          subst hw''
          clear w1 w2 w3 w4
          go_wp2_with fail
          go_ret
          exact ⟨by rw [risesB_false c l k hlt (by rw [HR.out]; exact hr0)]; rfl, HA.out.lat x⟩
        · have hr1 : r < 0 := by omega
          go_wp2_with fail
          refine wp_region_lat (by kernel_rfl) (by kernel_rfl) ?_
          repeat (go_big_quiet_step ((exact Calls.lat_of (Cc.out _))))
          refine wpQuiet_nil ?_
          intro _ hw'
          obtain ⟨x, hw''⟩ := hw'
          subst hw''
          clear w1 w2 w3 w4
          go_wp2_with fail
          go_roundw
          case rel => exact ⟨k + 1, by omega, by go_num, HA.out.lat x, ext_lt (p := fun j => ∀ (hj : j + 1 < l.length), c (l[j]'(by omega)) l[j + 1] < 0) HP.out (fun _ => by rw [HR.out]; exact hr1)⟩
          case measure => simp [intOf]; omega
      · have HT := Lib.hid (show risesB c l = true from (risesB_iff c l).2 fun j hj => HP.out j (by omega) hj)
        have hge2 : ¬ (k : Int) < (l.length : Int) - 1 := by omega
        clear ha
        go_wp2_with fail
        go_ret
        exact ⟨by rw [HT.out]; rfl, HA.out⟩
end Go.Proofs.YtiadkchlkdaceaaGreat

namespace Go.Proofs.YtiadkchlkdaceaaGreat
open Go.RowKit
set_option linter.unusedVariables false
def ltS (a b : ByteArray) : Bool := Op.bytesLess a.toList b.toList
theorem cmpB_lt : ∀ (a b : List UInt8), decide (Lib.compareBytes a b < 0) = Op.bytesLess a b
  | [], [] => rfl
  | [], _ :: _ => rfl
  | _ :: _, [] => rfl
  | x :: a, y :: b => by
    unfold Lib.compareBytes Op.bytesLess
    by_cases h : x < y
    · simp [h]
    · by_cases h2 : y < x
      · have h3 : ¬ x = y := fun e => by subst e; exact UInt8.lt_irrefl _ h2
        simp [h, h2, h3]
      · have h3 : x = y := UInt8.le_antisymm (UInt8.not_lt.1 h2) (UInt8.not_lt.1 h)
        subst h3
        have := cmpB_lt a b
        simp [UInt8.lt_irrefl, this]
theorem cmpB_eq : ∀ (a b : List UInt8), (Lib.compareBytes a b = 0) ↔ a = b
  | [], [] => by simp [Lib.compareBytes]
  | [], _ :: _ => by simp [Lib.compareBytes]
  | _ :: _, [] => by simp [Lib.compareBytes]
  | x :: a, y :: b => by
    unfold Lib.compareBytes
    by_cases h : x < y
    · have h3 : ¬ x = y := fun e => by subst e; exact UInt8.lt_irrefl _ h
      simp [h, h3]
    · by_cases h2 : y < x
      · have h3 : ¬ x = y := fun e => by subst e; exact UInt8.lt_irrefl _ h2
        simp [h, h2, h3]
      · have h3 : x = y := UInt8.le_antisymm (UInt8.not_lt.1 h2) (UInt8.not_lt.1 h)
        subst h3
        have := cmpB_eq a b
        simp [UInt8.lt_irrefl, this]
theorem cmpB_anti : ∀ (a b : List UInt8), Lib.compareBytes a b = - Lib.compareBytes b a
  | [], [] => rfl
  | [], _ :: _ => rfl
  | _ :: _, [] => rfl
  | x :: a, y :: b => by
    unfold Lib.compareBytes
    by_cases h : x < y
    · have h2 : ¬ y < x := UInt8.lt_asymm h
      simp [h, h2]
    · by_cases h2 : y < x
      · simp [h, h2]
      · simp [h, h2]; exact cmpB_anti a b
theorem cmpB_trans : ∀ (a b c : List UInt8), Lib.compareBytes a b < 0 → Lib.compareBytes b c < 0 → Lib.compareBytes a c < 0
  | [], [], c => fun h => by simp [Lib.compareBytes] at h
  | [], _ :: _, [] => fun _ h => by simp [Lib.compareBytes] at h
  | [], _ :: _, _ :: _ => fun _ _ => by simp [Lib.compareBytes]
  | _ :: _, [], c => fun h => by simp [Lib.compareBytes] at h
  | _ :: _, _ :: _, [] => fun _ h => by simp [Lib.compareBytes] at h
  | x :: a, y :: b, z :: c => by
    unfold Lib.compareBytes
    intro h1 h2
    by_cases xy : x < y
    · by_cases yz : y < z
      · have := UInt8.lt_trans xy yz; simp [this]
      · simp only [yz, if_false] at h2
        by_cases zy : z < y
        · simp [zy] at h2
        · have e : y = z := UInt8.le_antisymm (UInt8.not_lt.1 zy) (UInt8.not_lt.1 yz)
          subst e; simp [xy]
    · simp only [xy, if_false] at h1
      by_cases yx : y < x
      · simp [yx] at h1
      · have e : x = y := UInt8.le_antisymm (UInt8.not_lt.1 yx) (UInt8.not_lt.1 xy)
        subst e
        simp only [yx, if_false] at h1
        by_cases yz : x < z
        · simp [yz]
        · simp only [yz, if_false] at h2 ⊢
          by_cases zy : z < x
          · simp [zy] at h2
          · simp only [zy, if_false] at h2 ⊢
            exact cmpB_trans a b c h1 h2
theorem cmpS_lt (a b : ByteArray) : decide (cmpS a b < 0) = ltS a b := by
  unfold cmpS ltS
  rw [Lib.toList_data, Lib.toList_data]; exact cmpB_lt _ _
theorem cmpS_eq (a b : ByteArray) : (cmpS a b = 0) ↔ eqS a b = true := by
  unfold cmpS eqS
  rw [Lib.toList_data, Lib.toList_data, cmpB_eq]; simp
theorem cmpS_lt_iff (a b : ByteArray) : cmpS a b < 0 ↔ ltS a b = true := by rw [← cmpS_lt]; simp
theorem cmpS_anti (a b : ByteArray) : cmpS a b = - cmpS b a := cmpB_anti _ _
theorem cmpS_trans {a b c : ByteArray} (h1 : cmpS a b < 0) (h2 : cmpS b c < 0) : cmpS a c < 0 := cmpB_trans _ _ _ h1 h2
/-- the order of pairs: less, spelt as the document does -/
theorem or2_lt (a b c d : ByteArray) : decide (or2 (cmpS a b) (cmpS c d) < 0) = (!(!(ltS a b || eqS a b)) && !(eqS a b && !(ltS c d))) := by
  unfold or2
  by_cases h : cmpS a b = 0
  · have he := (cmpS_eq a b).1 h
    have hl : ltS a b = false := by rw [← cmpS_lt, h]; rfl
    simp only [h, beq_self_eq_true, if_true, he, hl]
    rw [← cmpS_lt c d]; simp
  · have he : eqS a b = false := by rw [Bool.eq_false_iff]; intro e; exact h ((cmpS_eq a b).2 e)
    have h' : (cmpS a b == 0) = false := beq_eq_false_iff_ne.2 h
    simp only [h', he]
    rw [← cmpS_lt a b]; simp
end Go.Proofs.YtiadkchlkdaceaaGreat

namespace Go.Proofs.YtiadkchlkdaceaaGreat
open Go.RowKit
set_option maxRecDepth 100000
set_option linter.unusedVariables false
theorem hasS_iff (l : List ByteArray) (s : ByteArray) : hasS l s = true ↔ 0 ≤ idxP (fun c => eqS c s) l := by
  induction l with
  | nil => simp [hasS, idxP]
  | cons x l ih =>
    unfold hasS at ih ⊢
    rw [List.any_cons, Bool.or_eq_true, ih]
    simp only [idxP]
    by_cases hx : eqS x s = true
    · rw [if_pos hx]; simp [hx]
    · rw [if_neg hx]
      by_cases hy : idxP (fun c => eqS c s) l < 0
      · rw [if_pos hy]
        constructor
        · intro h; rcases h with h | h
          · exact absurd h hx
          · omega
        · intro h; omega
      · rw [if_neg hy]
        constructor
        · intro h; omega
        · intro h; right; omega
theorem hasS_idx (l : List ByteArray) (s : ByteArray) : hasS l s = decide (0 ≤ idxP (fun c => eqS c s) l) := by
  rw [Bool.eq_iff_iff, hasS_iff]; simp
set_option maxHeartbeats 8000000 in
theorem fits_any (A : Option Addr) (cap : Nat) (l : List Col) (r : Rul) (A2 : Option Addr) (cap2 : Nat) (w : World) (h : SlAt w 3 ColR A cap l) (h2 : SlAt w 1 StrR A2 cap2 r.cols)
    (hn : Small r.name.size) (hs : Small r.schema.size) (ht : Small r.table.size) (hk' : Small r.key.size) :
    Calls Tryz.prog 89 #[.slice A l.length cap, .agg #[.string r.name, .int .i64 r.kind, .slice A2 r.cols.length cap2, .int .i64 r.low, .int .i64 r.high, .string r.schema, .string r.table, .string r.key]] w
      fun e w' => e = .returned (.bool (fitsOk l r)) ∧ Aft w w' := by
  obtain ⟨name, kind, cs, low, high, schema, table, key⟩ := r
  simp only at h2 hn hs ht hk' ⊢
  have hlen := h.len
  have hlen2 := h2.len
  cases hN : nameB name
  · have HF := Lib.hid (show fitsOk l ⟨name, kind, cs, low, high, schema, table, key⟩ = false by simp [fitsOk, hN])
    go_enter Tryz.func89, Tryz.ntmps89
    go_wp2_with (go_at_call 56; refine (name_any _ _ (by first | exact hn.max | exact hs.max | exact ht.max | exact hk'.max)).mono ?_; rintro e w' ⟨rfl, rfl⟩)
    go_ret
    exact ⟨by rw [HF.out]; rfl, (Aft.refl _).alloc _⟩
  by_cases hz0 : cs.length < 1
  · have HF := Lib.hid (show fitsOk l ⟨name, kind, cs, low, high, schema, table, key⟩ = false by
      have : cs.length = 0 := by omega
      simp [fitsOk, this])
    go_enter Tryz.func89, Tryz.ntmps89
    go_wp2_with (go_at_call 56; refine (name_any _ _ (by first | exact hn.max | exact hs.max | exact ht.max | exact hk'.max)).mono ?_; rintro e w' ⟨rfl, rfl⟩)
    go_ret
    exact ⟨by rw [HF.out]; rfl, (Aft.refl _).alloc _⟩
  by_cases hzl : l.length < cs.length
  · have HF := Lib.hid (show fitsOk l ⟨name, kind, cs, low, high, schema, table, key⟩ = false by
      have : rcOk l cs = false := by
        cases hrc : rcOk l cs with
        | false => rfl
        | true => have := rc_len l cs hrc; omega
      simp [fitsOk, this])
    have hpos : 1 ≤ cs.length := by omega
    clear hz0
    go_enter Tryz.func89, Tryz.ntmps89
    go_wp2_with (go_at_call 56; refine (name_any _ _ (by first | exact hn.max | exact hs.max | exact ht.max | exact hk'.max)).mono ?_; rintro e w' ⟨rfl, rfl⟩)
    go_ret
    exact ⟨by rw [HF.out]; rfl, (Aft.refl _).alloc _⟩
  have hpos : 1 ≤ cs.length := by omega
  have hll : cs.length ≤ l.length := by omega
  have bb1 : decide ((cs.length : Int) < 1) = false := decide_eq_false (by omega)
  have bb2 : decide (l.length < cs.length) = false := decide_eq_false (by omega)
  have bb3 : decide ((l.length : Int) < (cs.length : Int)) = false := decide_eq_false (by omega)
  clear hz0 hzl
  go_enter Tryz.func89, Tryz.ntmps89
  go_wp2_with (go_at_call 56; refine (name_any _ _ (by first | exact hn.max | exact hs.max | exact ht.max | exact hk'.max)).mono ?_; rintro e w' ⟨rfl, rfl⟩)
  go_loopw [29] (fun i wr => ∃ k : Nat, k ≤ cs.length ∧ i = .int .i64 k ∧ Aft (w.alloc (.cells #[.string name, .int .i64 kind, .slice A2 cs.length cap2, .int .i64 low, .int .i64 high, .string schema, .string table, .string key] 108)) wr ∧ ∀ j, j < k → ∀ (hj : j < cs.length), (decide (0 ≤ colAt l cs[j]) && !(hasS (cs.take j) cs[j])) = true) (fun i _ => cs.length - (intOf i).toNat)
  case atStart => exact ⟨0, Nat.zero_le _, rfl, Aft.refl _, fun j hj => absurd hj (Nat.not_lt_zero j)⟩
  case round =>
    obtain ⟨k, hk, rfl, ha, hp⟩ := hrel
    obtain ⟨hbox, hfr, hz, hzk, HA⟩ := aft_box ha
    have HAB := Lib.hid ha
    have HP := Lib.hid hp; clear hp
    have hsl := cols_aft HA.out h
    have hsl2 := strs_aft HA.out h2
    clear ha
    by_cases hlt : k < cs.length
    · obtain ⟨b, off, rfl, hb, c0, hss⟩ := str_at hsl2 hlt
      obtain ⟨i, hi⟩ : ∃ i, colAt l cs[k] = i := ⟨_, rfl⟩
      obtain ⟨m, hm⟩ : ∃ m, idxP (fun c => eqS c cs[k]) cs = m := ⟨_, rfl⟩
      have Cby := Lib.hid (show Calls Tryz.prog 113 #[.slice A l.length cap, .string cs[k], .func (.func 114) #[] #[]] wr fun e w' => e = .returned (.int .i64 i) ∧ Aft wr w' from
        (byCol A cap l cs[k] wr hsl).mono fun e w' ⟨he, hw⟩ => ⟨he.trans (by rw [← hi]; rfl), hw⟩)
      have Cidx := Lib.hid (show ∀ w', Aft wr w' → Calls Tryz.prog 117 #[.slice (some ⟨b, off, none⟩) cs.length cap2, .string cs[k]] w' fun e w'' => e = .returned (.int .i64 m) ∧ w' = w'' from
        fun w' ha' => (sidx_any _ cap2 cs cs[k] w' (strs_aft ha' hsl2)).mono fun e w'' ⟨he, hw⟩ => ⟨he.trans (by rw [← hm]), hw⟩)
      have HI := Lib.hid hi
      have HM := Lib.hid hm
      clear hi hm hsl hsl2
      by_cases hi0 : i < 0
      · go_wp2_with fail
        refine Cby.out.mono ?_
        rintro e w1 ⟨rfl, a1⟩
        have HA1 := Lib.hid (HA.out.trans a1)
        clear a1
        go_wp2_with fail
        go_ret
        exact ⟨by rw [show fitsOk l ⟨name, kind, cs, low, high, schema, table, key⟩ = false by unfold fitsOk; rw [rcOk_false l cs k hlt (by rw [HI.out, decide_eq_false (by omega)]; rfl)]; rfl]; rfl, HA1.out⟩
      · have hi1 : 0 ≤ i := by omega
        have hd : decide (i < 0) = false := decide_eq_false hi0
        by_cases hmk : m = k
        · have e1 : (m != (k : Int)) = false := by simp [hmk]
          have HMK := Lib.hid hmk
          clear hmk
          go_wp2_with fail
          refine Cby.out.mono ?_
          rintro e w1 ⟨rfl, a1⟩
          obtain ⟨hbox1, hfr1, hz1, hzk1, HA1⟩ := aft_box (HAB.out.trans a1)
          have HAB1 := Lib.hid (HAB.out.trans a1)
          have HW1 := Lib.hid a1
          clear a1 hbox hfr hz hzk
          go_wp2_with fail
          refine (Cidx.out _ HW1.out).mono ?_
          rintro e w2 ⟨rfl, rfl⟩
          go_wp2_with fail
          go_roundw
          case rel =>
            refine ⟨k + 1, by omega, by go_num, HAB1.out, ext_lt (p := fun j => ∀ (hj : j < cs.length), (decide (0 ≤ colAt l cs[j]) && !(hasS (cs.take j) cs[j])) = true) HP.out (fun _ => ?_)⟩
            rw [HI.out, decide_eq_true hi1, hasS_idx, decide_eq_false]
            · rfl
            · intro h0
              have q1 := (idxP_miss (fun c => eqS c cs[k]) cs k hlt h0).1
              have q2 := HM.out
              have q3 := HMK.out
              omega
          case measure => simp [intOf]; omega
        · have e1 : (m != (k : Int)) = true := by rw [bne_iff_ne]; exact hmk
          have HMK := Lib.hid hmk
          clear hmk
          go_wp2_with fail
          refine Cby.out.mono ?_
          rintro e w1 ⟨rfl, a1⟩
          obtain ⟨hbox1, hfr1, hz1, hzk1, HA1⟩ := aft_box (HAB.out.trans a1)
          have HW1 := Lib.hid a1
          clear a1 hbox hfr hz hzk
          go_wp2_with fail
          refine (Cidx.out _ HW1.out).mono ?_
          rintro e w2 ⟨rfl, rfl⟩
          go_wp2_with fail
          go_ret
          have hf : (decide (0 ≤ colAt l cs[k]) && !(hasS (cs.take k) cs[k])) = false := by
            rw [hasS_idx, decide_eq_true (p := 0 ≤ idxP (fun c => eqS c cs[k]) (cs.take k)), Bool.not_true, Bool.and_false]
            refine Int.not_lt.1 fun h0 => ?_
            exact HMK.out (HM.out.symm.trans (idxP_hit (fun c => eqS c cs[k]) cs k hlt (eqS_refl _) h0))
          exact ⟨by rw [show fitsOk l ⟨name, kind, cs, low, high, schema, table, key⟩ = false by unfold fitsOk; rw [rcOk_false l cs k hlt hf]; rfl]; rfl, HA1.out⟩
    · have hrc := rcOk_true l cs (fun j hj hj' => HP.out j (by omega) hj')
      have HF := Lib.hid (show fitsOk l ⟨name, kind, cs, low, high, schema, table, key⟩ = ruleRest l ⟨name, kind, cs, low, high, schema, table, key⟩ by
        have : ¬ cs.length = 0 := by omega
        simp [fitsOk, hrc, hN, this])
      have hc0 : 0 ≤ colAt l cs[0] := by have := HP.out 0 (by omega) hpos; simp at this; exact this.1
      clear hrc
      have z1 : schema.size + table.size ≤ 9223372036854775807 := by unfold Small at *; omega
      have z2 : schema.size + table.size + key.size ≤ 9223372036854775807 := by unfold Small at *; omega
      by_cases k1 : kind = 1
      · subst k1
        go_wp2_with (go_at_call 56; refine (name_any _ _ (by first | exact hn.max | exact hs.max | exact ht.max | exact hk'.max)).mono ?_; rintro e w' ⟨rfl, rfl⟩)
        all_goals
          go_ret
          refine ⟨Eq.trans (b := .returned (.bool _)) rfl (ret_of (bool_of ?_)), HA.out⟩
          rw [HF.out]
          clear HF HA HAB HP hbox hfr hz hzk hsl hsl2 h h2
          simp_all [ruleRest, emp, cat_nil_iff]
      by_cases k2 : kind = 2
      · subst k2
        go_wp2_with (go_at_call 56; refine (name_any _ _ (by first | exact hn.max | exact hs.max | exact ht.max | exact hk'.max)).mono ?_; rintro e w' ⟨rfl, rfl⟩)
        all_goals
          go_ret
          refine ⟨Eq.trans (b := .returned (.bool _)) rfl (ret_of (bool_of ?_)), HA.out⟩
          rw [HF.out]
          clear HF HA HAB HP hbox hfr hz hzk hsl hsl2 h h2
          simp_all [ruleRest, emp, cat_nil_iff]
      by_cases k4 : kind = 4
      · subst k4
        go_wp2_with (go_at_call 56; refine (name_any _ _ (by first | exact hn.max | exact hs.max | exact ht.max | exact hk'.max)).mono ?_; rintro e w' ⟨rfl, rfl⟩)
        all_goals
          go_ret
          refine ⟨Eq.trans (b := .returned (.bool _)) rfl (ret_of (bool_of ?_)), HA.out⟩
          rw [HF.out]
          clear HF HA HAB HP hbox hfr hz hzk hsl hsl2 h h2
          simp_all [ruleRest]
      by_cases k3 : kind = 3
      · subst k3
        obtain ⟨q, hq⟩ := Int.eq_ofNat_of_zero_le hc0
        have hql : q < l.length := by have := (idxP_range (fun c => eqS c.name cs[0]) l).2; unfold colAt at hq; omega
        obtain ⟨b, off, rfl, hb, c0, hss⟩ := str_at hsl2 hpos
        obtain ⟨b2, off2, rfl, hb2, d0, d1, d2, hss2⟩ := col_at hsl hql
        have c0' : wr.cell? ⟨b, off, none⟩ = some (.string cs[0]) := by simpa using c0
        have Ccol := Lib.hid (show Calls Tryz.prog 113 #[.slice (some ⟨b2, off2, none⟩) l.length cap, .string cs[0], .func (.func 114) #[] #[]] wr fun e w' => e = .returned (.int .i64 q) ∧ Aft wr w' from
          (byCol _ cap l cs[0] wr hsl).mono fun e w' ⟨he, hw⟩ => ⟨he.trans (by rw [← show colAt l cs[0] = (q : Int) from hq]; rfl), hw⟩)
        have HK := Lib.hid (show kindAt l (colAt l (cs.headD ByteArray.empty)) = l[q].kind by
          have e1 : cs.headD ByteArray.empty = cs[0] := by cases cs with | nil => simp at hpos | cons a t => rfl
          rw [e1, hq]; simp [kindAt, List.getElem?_eq_getElem hql])
        have HA3 := HA
        clear hc0 hq c0
        go_wp2_with (first | (go_at_call 56; refine (name_any _ _ (by first | exact hn.max | exact hs.max | exact ht.max | exact hk'.max)).mono ?_; rintro e w' ⟨rfl, rfl⟩) | (go_at_call 113; refine Ccol.out.mono ?_; rintro e w2 ⟨rfl, a2⟩; obtain ⟨hbox2, hfr2, hz2, hzk2, HA2⟩ := aft_box (HAB.out.trans a2); have d1' := (Below.cell a2 (p := ⟨b2, off2 + q * 3 + 1, none⟩) hb2).trans d1; clear a2 hbox hfr hz hzk c0' d0 d1 d2 HA))
        all_goals
          go_ret
          refine ⟨Eq.trans (b := .returned (.bool _)) rfl (ret_of (bool_of ?_)), by first | exact HA2.out | exact HA3.out⟩
          rw [HF.out]
          have hkk := HK.out
          clear HF HA3 HAB HP hsl hsl2 h h2 HK Ccol
          simp_all [ruleRest, emp, cat_nil_iff]
      · have q1 : (kind == 1) = false := by simp [k1]
        have q2 : (kind == 2) = false := by simp [k2]
        have q3 : (kind == 3) = false := by simp [k3]
        have q4 : (kind == 4) = false := by simp [k4]
        go_wp2_with (go_at_call 56; refine (name_any _ _ (by first | exact hn.max | exact hs.max | exact ht.max | exact hk'.max)).mono ?_; rintro e w' ⟨rfl, rfl⟩)
        all_goals
          go_ret
          refine ⟨Eq.trans (b := .returned (.bool _)) rfl (ret_of (bool_of ?_)), HA.out⟩
          rw [HF.out]
          clear HF HA HAB HP hbox hfr hz hzk hsl hsl2 h h2
          simp_all [ruleRest]
end Go.Proofs.YtiadkchlkdaceaaGreat

namespace Go.Proofs.YtiadkchlkdaceaaGreat
open Go.RowKit
set_option linter.unusedVariables false
/-- do columns go with columns, one by one? -/
def pairB (l : List Col) (l2 : List Col) (a b : ByteArray) : Bool := decide (0 ≤ colAt l a) && decide (0 ≤ colAt l2 b) && (kindAt l (colAt l a) == kindAt l2 (colAt l2 b))
def pairsOk (l : List Col) (l2 : List Col) : List ByteArray → List ByteArray → Bool
  | [], [] => true
  | a :: xs, b :: ys => pairB l l2 a b && pairsOk l l2 xs ys
  | _, _ => false
theorem kindsOf_cons (l : List Col) (a : ByteArray) (cs : List ByteArray) : kindsOf l (a :: cs) = if 0 ≤ colAt l a then kindAt l (colAt l a) :: kindsOf l cs else kindsOf l cs := by
  unfold kindsOf
  by_cases h : 0 ≤ colAt l a <;> simp [h]
theorem pairsOk_code (l l2 : List Col) : ∀ (cs cs2 : List ByteArray), pairsOk l l2 cs cs2 = (decide (cs2.length = cs.length) && decide ((kindsOf l2 cs2).length = cs2.length) && decide (kindsOf l cs = kindsOf l2 cs2))
  | [], [] => by simp [pairsOk, kindsOf]
  | [], b :: ys => by simp [pairsOk]
  | a :: xs, [] => by simp [pairsOk]
  | a :: xs, b :: ys => by
    have ih := pairsOk_code l l2 xs ys
    have hb := kindsOf_le l2 ys
    have ha := kindsOf_le l xs
    rw [pairsOk, ih, kindsOf_cons, kindsOf_cons]
    unfold pairB
    by_cases h1 : 0 ≤ colAt l a
    · by_cases h2 : 0 ≤ colAt l2 b
      · by_cases h3 : kindAt l (colAt l a) = kindAt l2 (colAt l2 b) <;> simp [h1, h2, h3]
      · have h4 : ¬ (kindsOf l2 ys).length = ys.length + 1 := by omega
        simp [h1, h2, h4]
    · by_cases h2 : 0 ≤ colAt l2 b
      · rw [if_neg h1, if_pos h2]
        simp only [h1, decide_false, Bool.false_and]
        symm
        rw [Bool.eq_false_iff]
        intro h
        simp only [Bool.and_eq_true, decide_eq_true_eq, List.length_cons] at h
        obtain ⟨⟨e1, e2⟩, e3⟩ := h
        have := congrArg List.length e3
        simp only [List.length_cons] at this
        omega
      · have h4 : ¬ (kindsOf l2 ys).length = ys.length + 1 := by omega
        simp [h1, h2, h4]
theorem pairsOk_true (l l2 : List Col) : ∀ (cs cs2 : List ByteArray), cs2.length = cs.length → (∀ k (h : k < cs.length) (h2 : k < cs2.length), pairB l l2 cs[k] cs2[k] = true) → pairsOk l l2 cs cs2 = true
  | [], [], _, _ => rfl
  | [], b :: ys, h, _ => by simp at h
  | a :: xs, [], h, _ => by simp at h
  | a :: xs, b :: ys, h, hp => by
    have h0 := hp 0 (by simp) (by simp)
    simp only [List.getElem_cons_zero] at h0
    rw [pairsOk, h0, pairsOk_true l l2 xs ys (by simpa using h) (fun k h1 h2 => hp (k + 1) (Nat.succ_lt_succ h1) (Nat.succ_lt_succ h2))]
    rfl
theorem pairsOk_get (l l2 : List Col) : ∀ (cs cs2 : List ByteArray), pairsOk l l2 cs cs2 = true → ∀ k (h : k < cs.length) (h2 : k < cs2.length), pairB l l2 cs[k] cs2[k] = true
  | [], _, _, k, h, _ => by simp at h
  | a :: xs, [], _, k, _, h => by simp at h
  | a :: xs, b :: ys, h, k, h1, h2 => by
    rw [pairsOk, Bool.and_eq_true] at h
    cases k with
    | zero => exact h.1
    | succ k => exact pairsOk_get l l2 xs ys h.2 k (by simpa using h1) (by simpa using h2)
theorem pairsOk_len (l l2 : List Col) (cs cs2 : List ByteArray) (h : ¬ cs2.length = cs.length) : pairsOk l l2 cs cs2 = false := by rw [pairsOk_code]; simp [h]
theorem pairsOk_false (l l2 : List Col) (cs cs2 : List ByteArray) (k : Nat) (h : k < cs.length) (h2 : k < cs2.length) (hp : pairB l l2 cs[k] cs2[k] = false) : pairsOk l l2 cs cs2 = false := by
  rw [Bool.eq_false_iff]; intro ha
  rw [pairsOk_get l l2 cs cs2 ha k h h2] at hp; cases hp

def rulAt (l : List Rul) (s : ByteArray) : Int := idxP (fun c => eqS c.name s) l
def schAt (l : List Sch) (s : ByteArray) : Int := idxP (fun c => eqS c.name s) l
/-- why a foreign rule has not its key; 0: it has -/
def keyT (t : Tab) (l : List Col) (r : Rul) : Int :=
  match t.rules[(rulAt t.rules r.key).toNat]? with
  | some q => if rulAt t.rules r.key < 0 then 61 else if q.kind == 2 then (if pairsOk l t.cols r.cols q.cols then 0 else 63) else 61
  | none => 61
def keyE (ts : List Tab) (l : List Col) (r : Rul) : Int :=
  match ts[(tabAt ts r.schema r.table).toNat]? with
  | some t => if tabAt ts r.schema r.table < 0 then 61 else keyT t l r
  | none => 61
/-- may a rule be? -/
def ruleOk (ts : List Tab) (l : List Col) (r : Rul) : Bool := fitsOk l r && !(r.kind == 4 && keyE ts l r != 0)
def rightT (o : Objs) (t : Tab) : Bool :=
  nameB t.name && nameB t.owner && colsOk t.cols && decide (t.rules.length ≤ 8) && decide (0 ≤ schAt o.schemas t.schema) && (t.rules.all (ruleOk o.tables t.cols) && risesB (fun a b => cmpS a.name b.name) t.rules)
def schOk (o : Objs) (s : Sch) : Bool := nameB s.name && nameB s.owner && decide (within o.tables s.name ≤ 8)
def headOk (o : Objs) : Bool := decide (o.schemas.length ≤ 8) && decide (o.tables.length ≤ 64) && risesB (fun a b => or2 (cmpS a.schema b.schema) (cmpS a.name b.name)) o.tables && risesB (fun a b => cmpS a.name b.name) o.schemas
def checkO (o : Objs) : Bool := headOk o && (o.schemas.all (schOk o) && o.tables.all (rightT o))
end Go.Proofs.YtiadkchlkdaceaaGreat

namespace Go.Proofs.YtiadkchlkdaceaaGreat
open Go.RowKit
set_option linter.unusedVariables false
def bareR (r : Rul) : Rul := if r.kind == 4 && nameB r.schema && nameB r.table && nameB r.key then { r with kind := 1, schema := ⟨#[]⟩, table := ⟨#[]⟩, key := ⟨#[]⟩ } else r
def aloneO (t : Tab) : Objs := ⟨[⟨⟨#[115]⟩, ⟨#[111]⟩⟩], [⟨⟨#[115]⟩, ⟨#[116]⟩, ⟨#[111]⟩, t.cols, t.rules.map bareR⟩]⟩
/-- is a table right by itself? -/
def tableOk (t : Tab) : Bool := colsOk t.cols && decide (t.rules.length ≤ 8) && (t.rules.all (fitsOk t.cols) && risesB (fun a b => cmpS a.name b.name) t.rules)
theorem mixed_len {α : Type} (f : α → α) (l : List α) (k : Nat) (hk : k ≤ l.length) : ((l.take k).map f ++ l.drop k).length = l.length := by simp; omega
theorem mixed_get {α : Type} (f : α → α) (l : List α) (k : Nat) (hk : k < l.length) (h : k < ((l.take k).map f ++ l.drop k).length) : ((l.take k).map f ++ l.drop k)[k] = l[k] := by
  have e : ((l.take k).map f).length = k := by simp; omega
  rw [List.getElem_append_right (by omega)]
  simp only [e, Nat.sub_self, List.getElem_drop, Nat.add_zero]
theorem mixed_step {α : Type} (f : α → α) (l : List α) (k : Nat) (hk : k < l.length) : ((l.take k).map f ++ l.drop k).set k (f l[k]) = (l.take (k + 1)).map f ++ l.drop (k + 1) := by
  have e : ((l.take k).map f).length = k := by simp; omega
  rw [List.set_append_right _ _ (by omega), e, Nat.sub_self, List.drop_eq_getElem_cons hk, List.set_cons_zero, List.take_succ_eq_append_getElem hk, List.map_append, List.append_assoc]
  rfl
theorem mixed_same {α : Type} (f : α → α) (l : List α) (k : Nat) (hk : k < l.length) (h : f l[k] = l[k]) : (l.take k).map f ++ l.drop k = (l.take (k + 1)).map f ++ l.drop (k + 1) := by
  rw [← mixed_step f l k hk, h]
  have hl : k < ((l.take k).map f ++ l.drop k).length := by rw [mixed_len f l k (by omega)]; exact hk
  have e : (((l.take k).map f ++ l.drop k).set k l[k]) = ((l.take k).map f ++ l.drop k).set k (((l.take k).map f ++ l.drop k)[k]'hl) := by rw [mixed_get f l k hk hl]
  rw [e, List.set_getElem_self]
theorem emp_nil : emp ⟨#[]⟩ = true := by decide +kernel
theorem fits_bare (l : List Col) (r : Rul) : (bareR r).cols = r.cols ∧ (bareR r).name = r.name ∧ ∀ ts, ruleOk ts l (bareR r) = fitsOk l r := by
  unfold bareR
  by_cases h : (r.kind == 4 && nameB r.schema && nameB r.table && nameB r.key) = true
  · rw [if_pos h]
    refine ⟨rfl, rfl, fun ts => ?_⟩
    simp only [Bool.and_eq_true, beq_iff_eq] at h
    obtain ⟨⟨⟨h4, h1⟩, h2⟩, h3⟩ := h
    simp [ruleOk, fitsOk, ruleRest, h4, h1, h2, h3, emp_nil]
  · rw [if_neg h]
    refine ⟨rfl, rfl, fun ts => ?_⟩
    by_cases h4 : r.kind = 4
    · have hr : ruleRest l r = false := by
        simp only [h4, beq_self_eq_true, Bool.true_and, Bool.and_eq_true, not_and, Bool.not_eq_true] at h
        cases h1 : nameB r.schema <;> cases h2 : nameB r.table <;> cases h3 : nameB r.key <;> simp_all [ruleRest]
      simp [ruleOk, fitsOk, hr]
    · have e : (r.kind == 4) = false := by simpa using h4
      simp [ruleOk, e]
theorem rises_map {α : Type} (c : α → α → Int) (f : α → α) (hc : ∀ x y, c (f x) (f y) = c x y) : ∀ l : List α, risesB c (l.map f) = risesB c l
  | [] => rfl
  | [_] => rfl
  | x :: y :: l => by
    have := rises_map c f hc (y :: l)
    simp only [List.map_cons] at this ⊢
    rw [risesB, risesB, hc, this]
theorem schAt_one : schAt [⟨⟨#[115]⟩, ⟨#[111]⟩⟩] ⟨#[115]⟩ = 0 := by decide +kernel
theorem name_s : nameB ⟨#[115]⟩ = true := by decide +kernel
theorem name_t : nameB ⟨#[116]⟩ = true := by decide +kernel
theorem name_o : nameB ⟨#[111]⟩ = true := by decide +kernel
theorem alone_ok (t : Tab) : checkO (aloneO t) = tableOk t := by
  have h1 : (t.rules.map bareR).all (ruleOk (aloneO t).tables t.cols) = t.rules.all (fitsOk t.cols) := by
    rw [List.all_map]
    congr 1
    funext r
    exact (fits_bare t.cols r).2.2 _
  have h2 : risesB (fun a b : Rul => cmpS a.name b.name) (t.rules.map bareR) = risesB (fun a b => cmpS a.name b.name) t.rules :=
    rises_map _ _ (fun x y => by rw [(fits_bare t.cols x).2.1, (fits_bare t.cols y).2.1]) _
  have h3 : rightT (aloneO t) ⟨⟨#[115]⟩, ⟨#[116]⟩, ⟨#[111]⟩, t.cols, t.rules.map bareR⟩ = tableOk t := by
    unfold rightT tableOk
    simp only [h1, h2, name_t, name_o, Bool.true_and, List.length_map]
    rw [show schAt (aloneO t).schemas ⟨#[115]⟩ = 0 from schAt_one]
    simp
  have h4 : within (aloneO t).tables ⟨#[115]⟩ ≤ 8 := Nat.le_trans (within_le _ _) (by simp [aloneO])
  have h5 : schOk (aloneO t) ⟨⟨#[115]⟩, ⟨#[111]⟩⟩ = true := by unfold schOk; simp [name_s, name_o, h4]
  unfold checkO headOk
  have e1 : (aloneO t).schemas.all (schOk (aloneO t)) = true := by show List.all [_] _ = true; simp [h5]
  have e2 : (aloneO t).tables.all (rightT (aloneO t)) = tableOk t := by show List.all [_] _ = _; simp [h3]
  rw [e1, e2]
  simp [aloneO, risesB]
end Go.Proofs.YtiadkchlkdaceaaGreat

namespace Go.Proofs.YtiadkchlkdaceaaGreat
open Go.RowKit
set_option maxRecDepth 100000
set_option linter.unusedVariables false
theorem Aft.cell_keep {w w' : World} (h : Aft w w') {a : Addr} {v : Value} (hc : w.cell? a = some v) : w'.cell? a = some v := (Below.cell h (World.block_lt_of_cell? w a hc)).trans hc
def besideB (p : Col → Val → Bool) : List Col → List Val → Bool
  | [], [] => true
  | a :: l, b :: m => p a b && besideB p l m
  | _, _ => false
theorem besideB_len (p : Col → Val → Bool) : ∀ (l : List Col) (m : List Val), ¬ l.length = m.length → besideB p l m = false
  | [], [], h => absurd rfl h
  | [], _ :: _, _ => rfl
  | _ :: _, [], _ => rfl
  | a :: l, b :: m, h => by rw [besideB, besideB_len p l m (by simpa using h), Bool.and_false]
theorem besideB_false (p : Col → Val → Bool) : ∀ (l : List Col) (m : List Val) (k : Nat) (h1 : k < l.length) (h2 : k < m.length), p l[k] m[k] = false → besideB p l m = false
  | [], _, _, h, _, _ => by simp at h
  | _ :: _, [], _, _, h, _ => by simp at h
  | a :: l, b :: m, 0, _, _, h => by rw [besideB, show p a b = false from h]; rfl
  | a :: l, b :: m, k + 1, h1, h2, h => by rw [besideB, besideB_false p l m k (by simpa using h1) (by simpa using h2) h, Bool.and_false]
theorem besideB_true (p : Col → Val → Bool) : ∀ (l : List Col) (m : List Val), l.length = m.length → (∀ k (h1 : k < l.length) (h2 : k < m.length), p l[k] m[k] = true) → besideB p l m = true
  | [], [], _, _ => rfl
  | [], _ :: _, h, _ => by simp at h
  | _ :: _, [], h, _ => by simp at h
  | a :: l, b :: m, h, hp => by
    rw [besideB, show p a b = true from hp 0 (by simp) (by simp), besideB_true p l m (by simpa using h) fun k h1 h2 => hp (k + 1) (Nat.succ_lt_succ h1) (Nat.succ_lt_succ h2)]; rfl
theorem besideB_iff (p : Col → Val → Bool) (l : List Col) (m : List Val) : besideB p l m = true ↔ l.length = m.length ∧ ∀ k (h1 : k < l.length) (h2 : k < m.length), p l[k] m[k] = true := by
  constructor
  · intro h
    have hl : l.length = m.length := by
      apply Classical.byContradiction; intro hn
      rw [besideB_len p l m hn] at h; cases h
    refine ⟨hl, fun k h1 h2 => ?_⟩
    cases hk : p l[k] m[k]
    · rw [besideB_false p l m k h1 h2 hk] at h; cases h
    · rfl
  · rintro ⟨h1, h2⟩; exact besideB_true p l m h1 h2
def formB (c : Col) (v : Val) : Bool := mayV v && (v.kind == c.kind || v.kind == 1)
def nullB (c : Col) (v : Val) : Bool := c.null || v.kind != 1
set_option maxHeartbeats 2000000 in
theorem beside_any (A : Option Addr) (cap : Nat) (l : List Col) (A2 : Option Addr) (cap2 : Nat) (m : List Val) (g : FuncId) (caps : Array Value) (p : Col → Val → Bool) (w : World) (h : SlAt w 3 ColR A cap l) (h2 : SlAt w 3 ValR A2 cap2 m)
    (hent : ∀ (args : Array Value) (w : World), (callFunc g args).run Tryz.prog w = .ok (.enter g args) w)
    (hp : ∀ w', Aft w w' → ∀ i (hi : i < l.length) (hi2 : i < m.length), Calls Tryz.prog g (#[.agg #[.string l[i].name, .int .i64 l[i].kind, .bool l[i].null], .agg #[.int .i64 m[i].kind, .int .i64 m[i].int, .string m[i].text]] ++ caps) w' fun e w'' => e = .returned (.bool (p l[i] m[i])) ∧ Aft w' w'') :
    Calls Tryz.prog 98 #[.slice A l.length cap, .slice A2 m.length cap2, .func (.func g) #[] caps] w fun e w' => e = .returned (.bool (besideB p l m)) ∧ Aft w w' := by
  have hlen := h.len
  have hlen2 := h2.len
  have HC := Lib.hid hp
  clear hp
  by_cases hl : l.length = m.length
  · have e1 : ((l.length : Int) != (m.length : Int)) = false := by simp [hl]
    go_enter Tryz.func98, Tryz.ntmps98
    go_wp2_with fail
    go_loopw [16] (fun i wr => ∃ k : Nat, k ≤ l.length ∧ i = .int .i64 k ∧ Aft w wr ∧ ∀ j, j < k → ∀ (hj : j < l.length) (hj2 : j < m.length), p l[j] m[j] = true) (fun i _ => l.length - (intOf i).toNat)
    case atStart => exact ⟨0, Nat.zero_le _, rfl, Aft.refl _, fun j hj => absurd hj (Nat.not_lt_zero j)⟩
    case round =>
      obtain ⟨k, hk, rfl, ha, hp⟩ := hrel
      have HA := Lib.hid ha
      have HP := Lib.hid hp; clear hp
      by_cases hlt : k < l.length
      · have hlt2 : k < m.length := by omega
        obtain ⟨b, off, rfl, hb, c0, c1, c2, _⟩ := col_at (cols_aft ha h) hlt
        obtain ⟨b2, off2, rfl, hb2, d0, d1, d2, _⟩ := val_at (vals_aft ha h2) hlt2
        clear ha
        obtain ⟨r, hr⟩ : ∃ r, p l[k] m[k] = r := ⟨_, rfl⟩
        obtain ⟨W, hW⟩ : ∃ W, W = wr.alloc (.cells #[.string l[k].name, .int .i64 l[k].kind, .bool l[k].null] 93) := ⟨_, rfl⟩
        have aW : Aft wr W := by rw [hW]; exact (Aft.refl wr).alloc _
        have hbW : ∀ o, W.cell? ⟨wr.heap.size, o, none⟩ = (#[.string l[k].name, .int .i64 l[k].kind, .bool l[k].null] : Array Value)[o]? := by intro o; rw [hW]; simp
        have hzW : wr.heap.size < W.heap.size := by rw [hW]; simp
        have hbW2 : b2 < W.heap.size := Nat.lt_of_lt_of_le hb2 aW.size
        have d0' := aW.cell_keep d0
        have d1' := aW.cell_keep d1
        have d2' := aW.cell_keep d2
        have HAW := Lib.hid (HA.out.trans aW)
        have HC2 := Lib.hid (fun x : Lat W => HC.out (lat W x) (HAW.out.lat x) k hlt hlt2)
        rw [hr] at HC2
        cases r
        · have HN := Lib.hid (besideB_false p l m k hlt hlt2 hr)
          clear hr
          go_wp2_with fail
          rw [← hW]
          clear hW d0 d1 d2 aW
          refine wp_region_lat (by kernel_rfl) (by kernel_rfl) ?_
          repeat (go_big_quiet_step ((exact Calls.lat_of (HC2.out _))))
          refine wpQuiet_nil ?_
          intro _ hw'
          obtain ⟨x, hw''⟩ := hw'
          subst hw''
          go_wp2_with fail
          go_ret
          exact ⟨by rw [HN.out]; rfl, HAW.out.lat x⟩
        · have HN := Lib.hid (ext_lt (p := fun j => ∀ (hj : j < l.length) (hj2 : j < m.length), p l[j] m[j] = true) HP.out (fun _ _ => hr))
          clear hr
          go_wp2_with fail
          rw [← hW]
          clear hW d0 d1 d2 aW
          refine wp_region_lat (by kernel_rfl) (by kernel_rfl) ?_
          repeat (go_big_quiet_step ((exact Calls.lat_of (HC2.out _))))
          refine wpQuiet_nil ?_
          intro _ hw'
          obtain ⟨x, hw''⟩ := hw'
          subst hw''
          go_wp2_with fail
          go_roundw
          case rel => exact ⟨k + 1, by omega, by go_num, HAW.out.lat x, HN.out⟩
          case measure => simp [intOf]; omega
      · have HN := Lib.hid (besideB_true p l m hl fun j hj hj2 => HP.out j (by omega) hj hj2)
        clear ha
        go_wp2_with fail
        go_ret
        exact ⟨by rw [HN.out]; rfl, HA.out⟩
  · have e1 : ((l.length : Int) != (m.length : Int)) = true := by simp; omega
    have HN := Lib.hid (besideB_len p l m hl)
    go_enter Tryz.func98, Tryz.ntmps98
    go_wp2_with fail
    go_ret
    exact ⟨by rw [HN.out]; rfl, Aft.refl _⟩
set_option maxHeartbeats 2000000 in
theorem formed1_any (c : Col) (v : Val) (w : World) (hs : Small v.text.size) :
    Calls Tryz.prog 99 #[.agg #[.string c.name, .int .i64 c.kind, .bool c.null], .agg #[.int .i64 v.kind, .int .i64 v.int, .string v.text]] w fun e w' => e = .returned (.bool (formB c v)) ∧ Aft w w' := by
  obtain ⟨m, hm⟩ : ∃ m, mayV v = m := ⟨_, rfl⟩
  have C := Lib.hid (show ∀ w', Calls Tryz.prog 66 #[.agg #[.int .i64 v.kind, .int .i64 v.int, .string v.text]] w' fun e w'' => e = .returned (.bool m) ∧ Aft w' w'' from
    fun w' => (may_any v w' hs).mono fun e w'' ⟨he, hw⟩ => ⟨he.trans (by rw [hm]), hw⟩)
  have HF := Lib.hid (show formB c v = (m && (v.kind == c.kind || v.kind == 1)) by unfold formB; rw [hm])
  clear hm
  go_enter Tryz.func99, Tryz.ntmps99
  go_wp2_with fail
  refine (C.out _).mono ?_
  rintro e w1 ⟨rfl, a1⟩
  obtain ⟨hb1, hb2, hz, HA⟩ := aft_box2 a1
  clear a1
  cases m
  · have HF2 := Lib.hid (show formB c v = false by rw [HF.out]; rfl)
    go_wp2_with fail
    go_ret
    exact ⟨by rw [HF2.out]; rfl, HA.out⟩
  · cases h1 : (v.kind == c.kind)
    · have HF2 := Lib.hid (show formB c v = (v.kind == 1) by rw [HF.out, h1]; rfl)
      go_wp2_with fail
      go_ret
      exact ⟨by rw [HF2.out]; rfl, HA.out⟩
    · have HF2 := Lib.hid (show formB c v = true by rw [HF.out, h1]; rfl)
      go_wp2_with fail
      go_ret
      exact ⟨by rw [HF2.out]; rfl, HA.out⟩
set_option maxHeartbeats 2000000 in
theorem fit1_any (c : Col) (v : Val) (w : World) :
    Calls Tryz.prog 123 #[.agg #[.string c.name, .int .i64 c.kind, .bool c.null], .agg #[.int .i64 v.kind, .int .i64 v.int, .string v.text]] w fun e w' => e = .returned (.bool (nullB c v)) ∧ Aft w w' := by
  obtain ⟨name, kind, null⟩ := c
  cases null
  · have HF := Lib.hid (show nullB ⟨name, kind, false⟩ v = (v.kind != 1) by simp [nullB])
    go_enter Tryz.func123, Tryz.ntmps123
    go_wp2_with fail
    go_ret
    exact ⟨by rw [HF.out]; rfl, ((Aft.refl _).alloc _).alloc _⟩
  · have HF := Lib.hid (show nullB ⟨name, kind, true⟩ v = true by simp [nullB])
    go_enter Tryz.func123, Tryz.ntmps123
    go_wp2_with fail
    go_ret
    exact ⟨by rw [HF.out]; rfl, ((Aft.refl _).alloc _).alloc _⟩
theorem val_small {w : World} {A : Option Addr} {cap : Nat} {l : List Val} (h : SlAt w 3 ValR A cap l) (i : Nat) (hi : i < l.length) : Small l[i].text.size := by
  obtain ⟨_, _, _, _, _, _, _, hs⟩ := val_at h hi; exact hs
theorem formedC (A : Option Addr) (cap : Nat) (l : List Col) (A2 : Option Addr) (cap2 : Nat) (m : List Val) (w : World) (h : SlAt w 3 ColR A cap l) (h2 : SlAt w 3 ValR A2 cap2 m) :
    Calls Tryz.prog 98 #[.slice A l.length cap, .slice A2 m.length cap2, .func (.func 99) #[] #[]] w fun e w' => e = .returned (.bool (besideB formB l m)) ∧ Aft w w' :=
  beside_any A cap l A2 cap2 m 99 #[] formB w h h2 (enters (P := Tryz.prog) Tryz.func99 (by kernel_rfl) rfl) fun w' ha i hi hi2 => formed1_any _ _ w' (val_small h2 i hi2)
theorem nullC (A : Option Addr) (cap : Nat) (l : List Col) (A2 : Option Addr) (cap2 : Nat) (m : List Val) (w : World) (h : SlAt w 3 ColR A cap l) (h2 : SlAt w 3 ValR A2 cap2 m) :
    Calls Tryz.prog 98 #[.slice A l.length cap, .slice A2 m.length cap2, .func (.func 123) #[] #[]] w fun e w' => e = .returned (.bool (besideB nullB l m)) ∧ Aft w w' :=
  beside_any A cap l A2 cap2 m 123 #[] nullB w h h2 (enters (P := Tryz.prog) Tryz.func123 (by kernel_rfl) rfl) fun w' ha i hi hi2 => fit1_any _ _ w'
theorem formed_any (A : Option Addr) (cap : Nat) (l : List Col) (A2 : Option Addr) (cap2 : Nat) (m : List Val) (w : World) (h : SlAt w 3 ColR A cap l) (h2 : SlAt w 3 ValR A2 cap2 m) :
    Calls Tryz.prog 62 #[.slice A l.length cap, .slice A2 m.length cap2] w fun e w' => e = .returned (.bool (besideB formB l m)) ∧ Aft w w' := by
  have C := Lib.hid (formedC A cap l A2 cap2 m w h h2)
  go_enter Tryz.func62, Tryz.ntmps62
  go_wp2_with fail
  refine C.out.mono ?_
  rintro e w1 ⟨rfl, a1⟩
  have HA := Lib.hid a1
  clear a1
  go_wp2_with fail
  go_ret
  exact ⟨rfl, HA.out⟩
set_option maxHeartbeats 1000000 in
theorem place1_any (name : ByteArray) (kind : Int) (null : Bool) (s : ByteArray) (b1 : Nat) (w : World) (hb1 : b1 < w.heap.size) (hc1 : w.cell? ⟨b1, 0, none⟩ = some (.string s)) :
    Calls Tryz.prog 100 #[.agg #[.string name, .int .i64 kind, .bool null], .pointer (some ⟨b1, 0, none⟩)] w fun e w' => e = .returned (.bool (eqS name s)) ∧ Aft w w' := by
  go_enter Tryz.func100, Tryz.ntmps100
  go_wp2_with fail
  go_ret
  exact ⟨rfl, (Aft.refl _).alloc _⟩
set_option maxHeartbeats 1000000 in
theorem place_any (A : Option Addr) (cap : Nat) (l : List Col) (s : ByteArray) (w : World) (h : SlAt w 3 ColR A cap l) :
    Calls Tryz.prog 63 #[.slice A l.length cap, .string s] w fun e w' => e = .returned (.int .i64 (colAt l s)) ∧ Aft w w' := by
  have hent := enters (P := Tryz.prog) Tryz.func100 (by kernel_rfl) rfl
  have C := Lib.hid (idxCol A cap l 100 #[.pointer (some ⟨w.heap.size, 0, none⟩)] (fun c => eqS c.name s) (w.alloc (.cells #[.string s] 9)) (cols_aft ((Aft.refl w).alloc _) h) hent (fun w' ha i hi => by
    obtain ⟨hb, _, hz, _, _⟩ := aft_box ha
    exact place1_any _ _ _ s w.heap.size w' hz.1 (hb 0)))
  go_enter Tryz.func63, Tryz.ntmps63
  go_wp2_with fail
  refine C.out.mono ?_
  rintro e w1 ⟨rfl, a1⟩
  have HA := Lib.hid (((Aft.refl w).alloc _).trans a1)
  clear a1
  go_wp2_with fail
  go_ret
  exact ⟨rfl, HA.out⟩
end Go.Proofs.YtiadkchlkdaceaaGreat

namespace Go.Proofs.YtiadkchlkdaceaaGreat
open Go.RowKit
set_option linter.unusedVariables false
def nilV : Val := ⟨0, 0, ⟨#[]⟩⟩
def valAt (row : List Val) (i : Int) : Val := match row[i.toNat]? with | some v => v | none => nilV
/-- is a value without a rule's bounds? -/
def outB (v : Val) (r : Rul) : Bool := v.kind == 2 && (decide (v.int < r.low) || decide (r.high < v.int))
def badR (l : List Col) (row : List Val) (r : Rul) : Bool := r.kind == 3 && outB (valAt row (colAt l (r.cols.headD ⟨#[]⟩))) r
def fitE (t : Tab) (row : List Val) : Int :=
  if tableOk t = false then 1 else if besideB formB t.cols row = false then 100 else if besideB nullB t.cols row = false then 101 else if t.rules.any (badR t.cols row) = true then 102 else 0
theorem table_fits {t : Tab} (h : tableOk t = true) {k : Nat} (hk : k < t.rules.length) : fitsOk t.cols t.rules[k] = true := by
  unfold tableOk at h
  simp only [Bool.and_eq_true] at h
  exact List.all_eq_true.1 h.2.1 _ (List.getElem_mem hk)
theorem fits_cols {l : List Col} {r : Rul} (h : fitsOk l r = true) {j : Nat} (hj : j < r.cols.length) : 0 ≤ colAt l r.cols[j] := by
  unfold fitsOk at h
  simp only [Bool.and_eq_true] at h
  have h1 := h.1.1.1
  cases hc : (decide (0 ≤ colAt l r.cols[j]) && !(hasS (r.cols.take j) r.cols[j]))
  · rw [rcOk_false l r.cols j hj hc] at h1; cases h1
  · simp only [Bool.and_eq_true, decide_eq_true_eq] at hc; exact hc.1
theorem fits_pos {l : List Col} {r : Rul} (h : fitsOk l r = true) : 0 < r.cols.length := by
  unfold fitsOk at h
  simp only [Bool.and_eq_true] at h
  have h1 := h.1.2
  apply Nat.pos_of_ne_zero
  intro e
  rw [e] at h1
  simp at h1
theorem colAt_lt {l : List Col} {s : ByteArray} {q : Nat} (h : colAt l s = q) : q < l.length := by
  have := (idxP_range (fun c => eqS c.name s) l).2
  unfold colAt at h; omega
theorem headD_zero {cs : List ByteArray} (h : 0 < cs.length) : cs.headD ⟨#[]⟩ = cs[0] := by
  cases cs with
  | nil => simp at h
  | cons a t => rfl
theorem valAt_get {row : List Val} {q : Nat} (h : q < row.length) : valAt row (q : Int) = row[q] := by
  simp [valAt, List.getElem?_eq_getElem h]
theorem badR_of {l : List Col} {row : List Val} {r : Rul} {q : Nat} (h3 : (r.kind == 3) = true) (h0 : 0 < r.cols.length) (hq : colAt l r.cols[0] = q) (hl : q < row.length) : badR l row r = outB row[q] r := by
  unfold badR
  rw [h3, headD_zero h0, hq, valAt_get hl]; rfl
theorem any_false {α : Type} (p : α → Bool) (l : List α) (h : ∀ k (hk : k < l.length), p l[k] = false) : l.any p = false := by
  rw [Bool.eq_false_iff]; intro ha
  obtain ⟨x, hx, hp⟩ := List.any_eq_true.1 ha
  obtain ⟨i, hi, rfl⟩ := List.getElem_of_mem hx
  rw [h i hi] at hp; cases hp
theorem any_true {α : Type} (p : α → Bool) (l : List α) (k : Nat) (hk : k < l.length) (h : p l[k] = true) : l.any p = true := List.any_eq_true.2 ⟨_, List.getElem_mem hk, h⟩
theorem fitE_1 {t : Tab} {row : List Val} (h : tableOk t = false) : fitE t row = 1 := by unfold fitE; rw [if_pos h]
theorem fitE_100 {t : Tab} {row : List Val} (h : tableOk t = true) (h1 : besideB formB t.cols row = false) : fitE t row = 100 := by unfold fitE; rw [if_neg (by rw [h]; simp), if_pos h1]
theorem fitE_101 {t : Tab} {row : List Val} (h : tableOk t = true) (h1 : besideB formB t.cols row = true) (h2 : besideB nullB t.cols row = false) : fitE t row = 101 := by unfold fitE; rw [if_neg (by rw [h]; simp), if_neg (by rw [h1]; simp), if_pos h2]
theorem fitE_any {t : Tab} {row : List Val} (h : tableOk t = true) (h1 : besideB formB t.cols row = true) (h2 : besideB nullB t.cols row = true) : fitE t row = if t.rules.any (badR t.cols row) = true then 102 else 0 := by unfold fitE; rw [if_neg (by rw [h]; simp), if_neg (by rw [h1]; simp), if_neg (by rw [h2]; simp)]
end Go.Proofs.YtiadkchlkdaceaaGreat

namespace Go.Proofs.YtiadkchlkdaceaaGreat
open Go.RowKit
theorem results_cell {fn : Func} {a : Tmp} {t : TypeId} (h : fn.results = #[.cell a t]) (tmps : Array Value) {P : Program} {w : World} {p : Addr} {v : Value} (ha : tmps.getD a undef = .pointer (some p)) (hl : (loadVar t p).run P w = .ok v w) :
    (results fn tmps).run P w = .ok v w := by
  rw [Array.getD_eq_getD_getElem?] at ha
  simp [results, h, ha, asAddr, hl]
theorem results_cell_tmp {fn : Func} {a u : Tmp} {t : TypeId} (h : fn.results = #[.cell a t, .tmp u]) (tmps : Array Value) {P : Program} {w : World} {p : Addr} {v : Value} (ha : tmps.getD a undef = .pointer (some p)) (hl : (loadVar t p).run P w = .ok v w) :
    (results fn tmps).run P w = .ok (.tuple #[v, tmps.getD u undef]) w := by
  rw [Array.getD_eq_getD_getElem?] at ha
  simp [results, h, ha, asAddr, hl]
/-- a block whose cells are those of a list -/
theorem slAt_box {α : Type} {size : Nat} {R : World → List Value → α → Prop} {w : World} {b cap : Nat} (l : List α) (f : α → List Value) (c : Array Value) (hb : b < w.heap.size) (hc : ∀ o, w.cell? ⟨b, o, none⟩ = c[o]?) (e : c.toList = l.flatMap f) (hf : ∀ x, (f x).length = size)
    (hR : ∀ x ∈ l, R w (f x) x) (hs : Small (l.length * 16)) (hcap : l.length ≤ cap) : SlAt w size R (some ⟨b, 0, none⟩) cap l :=
  ⟨hcap, hs, fun i hi => ⟨b, 0, f l[i], rfl, hb, hf _, hR _ (List.getElem_mem hi), fun j hj => by
    rw [← flatMap_get f size hf l i j hi hj, ← e, hc]; simp⟩⟩
theorem slAt_one {α : Type} {size : Nat} {R : World → List Value → α → Prop} {w : World} {b cap : Nat} (x : α) (cs : List Value) (c : Array Value) (hb : b < w.heap.size) (hc : ∀ o, w.cell? ⟨b, o, none⟩ = c[o]?) (e : c.toList = cs) (hf : cs.length = size)
    (hR : R w cs x) (hcap : 1 ≤ cap) : SlAt w size R (some ⟨b, 0, none⟩) cap [x] :=
  ⟨hcap, by simp [Small], fun i hi => by
    have : i = 0 := by simpa using hi
    subst this
    exact ⟨b, 0, cs, rfl, hb, hf, hR, fun j hj => by rw [← e, hc]; simp⟩⟩
end Go.Proofs.YtiadkchlkdaceaaGreat

namespace Go.Proofs.YtiadkchlkdaceaaGreat
open Go.RowKit
set_option linter.unusedVariables false
theorem Aft.cell_kept {w w' : World} (h : Aft w w') {a : Addr} {v : Value} (hc : w.cell? a = some v) : w'.cell? a = some v := (Below.cell h (World.block_lt_of_cell? w a hc)).trans hc
/-- a block that may be written and that begins with these cells -/
def RowAt (w : World) (g : Nat) (xs : List Value) : Prop := g < w.heap.size ∧ (∀ j, j < xs.length → w.cell? ⟨g, j, none⟩ = xs[j]?) ∧ ∀ j, j < xs.length → w.frozen? ⟨g, j, none⟩ = false
theorem RowAt.aft {w w' : World} {g : Nat} {xs : List Value} (h : RowAt w g xs) (a : Aft w w') : RowAt w' g xs :=
  ⟨Nat.lt_of_lt_of_le h.1 a.size, fun j hj => (Below.cell a (p := ⟨g, j, none⟩) h.1).trans (h.2.1 j hj), fun j hj => (Below.frozen a (p := ⟨g, j, none⟩) h.1).trans (h.2.2 j hj)⟩
theorem RowAt.cell {w : World} {g : Nat} {xs : List Value} (h : RowAt w g xs) {j : Nat} {v : Value} (hj : xs[j]? = some v) : w.cell? ⟨g, j, none⟩ = some v :=
  (h.2.1 j (List.getElem?_eq_some_iff.1 hj).1).trans hj
theorem RowAt.set {w : World} {g : Nat} {xs : List Value} (h : RowAt w g xs) (j : Nat) (v : Value) (hj : j < xs.length) : RowAt (w.setCell ⟨g, j, none⟩ v) g (xs.set j v) := by
  have hc : w.cell? ⟨g, j, none⟩ = some xs[j] := (h.2.1 j hj).trans (List.getElem?_eq_getElem hj)
  refine ⟨by simpa using h.1, fun k hk => ?_, fun k hk => ?_⟩
  · rw [List.length_set] at hk
    by_cases e : k = j
    · subst e
      rw [World.cell?_setCell_same (h := hc), List.getElem?_set_self hj]
    · rw [World.cell?_setCell_other (h := by intro e2; injection e2 with _ e3 _; exact e e3.symm), List.getElem?_set_ne (fun e2 => e e2.symm)]
      exact h.2.1 k hk
  · rw [List.length_set] at hk
    rw [World.frozen?_setCell]; exact h.2.2 k hk
/-- a slice value that leads to such a row -/
def RowV (w : World) (base : Nat) (v : Value) (n : Nat) (xs : List Value) : Prop := ∃ A cap, v = .slice A n cap ∧ n ≤ cap ∧ (0 < n → ∃ g, A = some ⟨g, 0, none⟩ ∧ base ≤ g ∧ RowAt w g xs)
theorem RowV.aft {w w' : World} {base n : Nat} {v : Value} {xs : List Value} (h : RowV w base v n xs) (a : Aft w w') : RowV w' base v n xs := by
  obtain ⟨A, cap, e, hc, hg⟩ := h
  exact ⟨A, cap, e, hc, fun h0 => by obtain ⟨g, hA, hb, hr⟩ := hg h0; exact ⟨g, hA, hb, hr.aft a⟩⟩
theorem own_rowV {w : World} {base size n : Nat} {e : TypeId} {v : Value} {xs : List Value} (h : w.ownsRow base e size v n xs) : RowV w base v n xs := by
  rcases h.2 with ⟨rfl, hn⟩ | ⟨g, cap, cur, rfl, hb, hgg, hnc, _, hcs, htk⟩
  · exact ⟨none, 0, by rw [hn], by omega, fun h0 => by omega⟩
  · refine ⟨_, cap, rfl, hnc, fun _ => ⟨g, rfl, hb, (Array.getElem?_eq_some_iff.1 hgg).1, fun j hj => ?_, fun j _ => ?_⟩⟩
    · rw [h.1] at hj
      rw [← htk, List.getElem?_take_of_lt hj]
      simp [World.cell?, hgg]
    · simp [World.frozen?, hgg]

section
variable {α : Type} {size : Nat} {R : World → List Value → α → Prop} {w w' : World}
theorem flat_len : ∀ (css : List (List Value)), (∀ c ∈ css, c.length = size) → css.flatten.length = css.length * size
  | [], _ => by simp
  | c :: css, h => by
    rw [List.flatten_cons, List.length_append, h c (by simp), flat_len css fun x hx => h x (by simp [hx]), List.length_cons, Nat.succ_mul]; omega
theorem flat_get : ∀ (css : List (List Value)), (∀ c ∈ css, c.length = size) → ∀ i j (hi : i < css.length), j < size → css.flatten[i * size + j]? = css[i][j]?
  | [], _, i, j, hi, _ => by simp at hi
  | c :: css, h, 0, j, _, hj => by
    rw [List.flatten_cons, Nat.zero_mul, Nat.zero_add, List.getElem?_append_left (by rw [h c (by simp)]; exact hj)]; rfl
  | c :: css, h, i + 1, j, hi, hj => by
    have e : (i + 1) * size + j = size + (i * size + j) := by rw [Nat.succ_mul]; omega
    rw [List.flatten_cons, e, List.getElem?_append_right (by rw [h c (by simp)]; omega), h c (by simp), Nat.add_sub_cancel_left]
    exact flat_get css (fun x hx => h x (by simp [hx])) i j (by simpa using hi) hj
theorem flat_set : ∀ (css : List (List Value)), (∀ c ∈ css, c.length = size) → ∀ i j (hi : i < css.length) (v : Value), j < size → css.flatten.set (i * size + j) v = (css.set i (css[i].set j v)).flatten
  | [], _, i, j, hi, _, _ => by simp at hi
  | c :: css, h, 0, j, _, v, hj => by
    rw [List.flatten_cons, Nat.zero_mul, Nat.zero_add, List.set_append_left _ _ (by rw [h c (by simp)]; exact hj)]; rfl
  | c :: css, h, i + 1, j, hi, v, hj => by
    have e : (i + 1) * size + j = size + (i * size + j) := by rw [Nat.succ_mul]; omega
    rw [List.flatten_cons, e, List.set_append_right _ _ (by rw [h c (by simp)]; omega), h c (by simp), Nat.add_sub_cancel_left, flat_set css (fun x hx => h x (by simp [hx])) i j (by simpa using hi) v hj]
    rfl
/-- the cells of each element -/
def Chunks (w : World) (size : Nat) (R : World → List Value → α → Prop) (css : List (List Value)) (l : List α) : Prop := css.length = l.length ∧ ∀ i (h : i < css.length) (h' : i < l.length), css[i].length = size ∧ R w css[i] l[i]
theorem Chunks.all {css : List (List Value)} {l : List α} (h : Chunks w size R css l) : ∀ c ∈ css, c.length = size := by
  intro c hc
  obtain ⟨i, hi, rfl⟩ := List.getElem_of_mem hc
  exact (h.2 i hi (by rw [← h.1]; exact hi)).1
theorem Chunks.len {css : List (List Value)} {l : List α} (h : Chunks w size R css l) : css.flatten.length = l.length * size := by rw [flat_len css h.all, h.1]
theorem Chunks.aft {css : List (List Value)} {l : List α} (h : Chunks w size R css l) (hR : ∀ cs x, R w cs x → R w' cs x) : Chunks w' size R css l := ⟨h.1, fun i h1 h2 => ⟨(h.2 i h1 h2).1, hR _ _ (h.2 i h1 h2).2⟩⟩
theorem Chunks.nil : Chunks w size R [] ([] : List α) := ⟨rfl, fun i h => by simp at h⟩
theorem Chunks.snoc {css : List (List Value)} {l : List α} (h : Chunks w size R css l) {c : List Value} {x : α} (hl : c.length = size) (hR : R w c x) : Chunks w size R (css ++ [c]) (l ++ [x]) := by
  refine ⟨by simp [h.1], fun i h1 h2 => ?_⟩
  by_cases hi : i < css.length
  · rw [List.getElem_append_left hi, List.getElem_append_left (by rw [← h.1]; exact hi)]
    exact h.2 i hi (by rw [← h.1]; exact hi)
  · have e : i = css.length := by simp at h1; omega
    subst e
    have e2 : l.length = css.length := h.1.symm
    simp only [List.getElem_append_right (Nat.le_refl _), Nat.sub_self, List.getElem_cons_zero]
    rw [List.getElem_append_right (by omega)]
    simp only [e2, Nat.sub_self, List.getElem_cons_zero]
    exact ⟨hl, hR⟩
theorem Chunks.set {css : List (List Value)} {l : List α} (h : Chunks w size R css l) {k : Nat} {c : List Value} {x : α} (hl : c.length = size) (hR : R w c x) : Chunks w size R (css.set k c) (l.set k x) := by
  refine ⟨by simp [h.1], fun i h1 h2 => ?_⟩
  simp only [List.length_set] at h1 h2
  by_cases e : k = i
  · subst e
    simp only [List.getElem_set_self]
    exact ⟨hl, hR⟩
  · rw [List.getElem_set_ne e, List.getElem_set_ne e]
    exact h.2 i h1 h2
theorem SlAt.css {A : Option Addr} {cap : Nat} {l : List α} (h : SlAt w size R A cap l) (h0 : 0 < l.length) (hs : 0 < size) :
    ∃ b off css, A = some ⟨b, off, none⟩ ∧ b < w.heap.size ∧ Chunks w size R css l ∧ ∀ p, p < l.length * size → w.cell? ⟨b, off + p, none⟩ = css.flatten[p]? := by
  obtain ⟨b, off, cs0, hA, hb, _⟩ := h.2.2 0 h0
  have hex : ∀ i, i < l.length → ∃ cs : List Value, ∀ hi : i < l.length, cs.length = size ∧ R w cs l[i] ∧ ∀ j, j < size → w.cell? ⟨b, off + (i * size + j), none⟩ = cs[j]? := by
    intro i hi
    obtain ⟨b', off', cs, hA', hb', hl, hR, hc⟩ := h.2.2 i hi
    rw [hA] at hA'
    simp only [Option.some.injEq, Addr.mk.injEq, and_true] at hA'
    obtain ⟨rfl, rfl⟩ := hA'
    exact ⟨cs, fun _ => ⟨hl, hR, hc⟩⟩
  obtain ⟨css, hcl, hp⟩ := choose_list l.length _ hex
  have hch : Chunks w size R css l := ⟨hcl, fun i h1 h2 => ⟨(hp i h1 h2).1, (hp i h1 h2).2.1⟩⟩
  refine ⟨b, off, css, hA, hb, hch, fun p hpl => ?_⟩
  have e : p = p / size * size + p % size := by rw [Nat.mul_comm]; exact (Nat.div_add_mod p size).symm
  have hi : p / size < l.length := Nat.div_lt_of_lt_mul (by rw [Nat.mul_comm]; exact hpl)
  have hj : p % size < size := Nat.mod_lt _ hs
  have h1 := (hp (p / size) (by rw [hcl]; exact hi) hi).2.2 (p % size) hj
  rw [← e] at h1
  rw [h1, ← flat_get css hch.all (p / size) (p % size) (by rw [hcl]; exact hi) hj, ← e]
theorem row_slAt {g cap : Nat} {css : List (List Value)} {l : List α} (hr : RowAt w g css.flatten) (hc : Chunks w size R css l) (hcap : l.length ≤ cap) (hs : Small (l.length * 16)) : SlAt w size R (some ⟨g, 0, none⟩) cap l := by
  refine ⟨hcap, hs, fun i hi => ?_⟩
  have hi' : i < css.length := by rw [hc.1]; exact hi
  refine ⟨g, 0, css[i], rfl, hr.1, (hc.2 i hi' hi).1, (hc.2 i hi' hi).2, fun j hj => ?_⟩
  rw [Nat.zero_add, ← flat_get css hc.all i j hi' hj]
  refine hr.2.1 _ ?_
  rw [hc.len]
  have : (i + 1) * size ≤ l.length * size := Nat.mul_le_mul_right _ hi
  rw [Nat.succ_mul] at this; omega
theorem rowV_slAt {base : Nat} {v : Value} {css : List (List Value)} {l : List α} (h : RowV w base v l.length css.flatten) (hc : Chunks w size R css l) (hs : Small (l.length * 16)) : ∃ A cap, v = .slice A l.length cap ∧ SlAt w size R A cap l := by
  obtain ⟨A, cap, e, hcap, hg⟩ := h
  by_cases h0 : 0 < l.length
  · obtain ⟨g, rfl, _, hr⟩ := hg h0
    exact ⟨_, cap, e, row_slAt hr hc hcap hs⟩
  · have : l = [] := List.eq_nil_of_length_eq_zero (by omega)
    subst this
    exact ⟨A, cap, e, hcap, hs, fun i hi => by simp at hi⟩
/-- one cell of one element is written -/
theorem RowAt.put {g : Nat} {css : List (List Value)} (hr : RowAt w g css.flatten) (hl : ∀ c ∈ css, c.length = size) (i j : Nat) (hi : i < css.length) (hj : j < size) (v : Value) : RowAt (w.setCell ⟨g, i * size + j, none⟩ v) g (css.set i (css[i].set j v)).flatten := by
  rw [← flat_set css hl i j hi v hj]
  refine hr.set _ v ?_
  rw [flat_len css hl]
  have : (i + 1) * size ≤ css.length * size := Nat.mul_le_mul_right _ hi
  rw [Nat.succ_mul] at this; omega
end
end Go.Proofs.YtiadkchlkdaceaaGreat

namespace Go.Proofs.YtiadkchlkdaceaaGreat
open Go.RowKit
set_option linter.unusedVariables false
theorem rowAt_new (w : World) (c : List Value) (t : TypeId) : RowAt (w.alloc (.cells c.toArray t)) w.heap.size c :=
  ⟨by simp, fun j hj => (World.cell?_alloc_at _ _ _ _ rfl).trans (by simp), fun j _ => World.frozen?_alloc_at _ _ _ _ rfl⟩
def cellsV (v : Val) : List Value := [.int .i64 v.kind, .int .i64 v.int, .string v.text]
def nullV : Val := ⟨1, 0, ⟨#[]⟩⟩
def turn1 (l : List Col) (row : List Val) (c : Col) : Val := if 0 ≤ colAt l c.name ∧ kindAt l (colAt l c.name) = c.kind then valAt row (colAt l c.name) else nullV
def turnVs (l m : List Col) (row : List Val) : List Val := m.map (turn1 l row)
def turnC (l m : List Col) (row : List Val) : Int := if colsOk l = false then 1 else if colsOk m = false then 1 else if besideB formB l row = false then 100 else 0
def turned (l m : List Col) (row : List Val) : List Val := if turnC l m row = 0 then turnVs l m row else []
theorem turnVs_succ (l m : List Col) (row : List Val) (k : Nat) (hk : k < m.length) : turnVs l (m.take (k + 1)) row = turnVs l (m.take k) row ++ [turn1 l row m[k]] := by
  unfold turnVs; rw [List.take_succ_eq_append_getElem hk, List.map_append]; rfl
theorem turnVs_len (l m : List Col) (row : List Val) : (turnVs l m row).length = m.length := by simp [turnVs]
theorem turn1_hit {l : List Col} {row : List Val} {c : Col} {q : Nat} (hq : colAt l c.name = q) (hl : q < l.length) (hr : q < row.length) (hk : l[q].kind = c.kind) : turn1 l row c = row[q] := by
  unfold turn1
  rw [hq, if_pos ⟨by omega, by simpa [kindAt, List.getElem?_eq_getElem hl] using hk⟩]
  exact valAt_get hr
theorem turn1_miss {l : List Col} {row : List Val} {c : Col} (h : colAt l c.name < 0) : turn1 l row c = nullV := by
  unfold turn1; rw [if_neg (by omega)]
theorem turn1_other {l : List Col} {row : List Val} {c : Col} {q : Nat} (hq : colAt l c.name = q) (hl : q < l.length) (hk : ¬ l[q].kind = c.kind) : turn1 l row c = nullV := by
  unfold turn1
  rw [hq, if_neg (by intro h; exact hk (by simpa [kindAt, List.getElem?_eq_getElem hl] using h.2))]
def TurnP (w : World) (l : List Val) (c : Int) (e : Ending) (w' : World) : Prop := ∃ v, e = .returned (.tuple #[v, .int .i64 c]) ∧ Aft w w' ∧ w'.ownsRow w.heap.size 37 3 v l.length (l.flatMap cellsV)
theorem infoV : (Tryz.prog.info? 37).map (fun i => (i.zero, i.size, i.bytes)) = some (some (.agg #[.int .i64 0, .int .i64 0, .string ByteArray.empty]), 3, 32) := by kernel_rfl
theorem own_lt {w : World} {base size n : Nat} {e : TypeId} {v : Value} {xs : List Value} (h : w.ownsRow base e size v n xs) : ∀ k, v.ownBlock = some k → k < w.heap.size := by
  intro k hk
  rcases h.2 with ⟨rfl, _⟩ | ⟨g, cap, cur, rfl, hb, hgg, _⟩
  · simp [Value.ownBlock] at hk
  · simp only [Value.ownBlock, Option.some.injEq] at hk
    have := (Array.getElem?_eq_some_iff.1 hgg).1
    omega
theorem own_vals {w : World} {base : Nat} {e : TypeId} {v : Value} {l : List Val} (h : w.ownsRow base e 3 v l.length (l.flatMap cellsV)) (hs : Small (l.length * 16)) (ht : ∀ x ∈ l, Small x.text.size) : ∃ A cap, v = .slice A l.length cap ∧ SlAt w 3 ValR A cap l :=
  own_slAt (base := base) (e := e) cellsV ValR (fun _ => rfl) h (fun x hx => ⟨rfl, ht x hx⟩) hs
theorem turnC_1 {l m : List Col} {row : List Val} (h : colsOk l = false) : turnC l m row = 1 := by unfold turnC; rw [if_pos h]
theorem turnC_1' {l m : List Col} {row : List Val} (h0 : colsOk l = true) (h : colsOk m = false) : turnC l m row = 1 := by unfold turnC; rw [if_neg (by rw [h0]; simp), if_pos h]
theorem turnC_100 {l m : List Col} {row : List Val} (h0 : colsOk l = true) (h : colsOk m = true) (h1 : besideB formB l row = false) : turnC l m row = 100 := by unfold turnC; rw [if_neg (by rw [h0]; simp), if_neg (by rw [h]; simp), if_pos h1]
theorem turnC_0 {l m : List Col} {row : List Val} (h0 : colsOk l = true) (h : colsOk m = true) (h1 : besideB formB l row = true) : turnC l m row = 0 := by unfold turnC; rw [if_neg (by rw [h0]; simp), if_neg (by rw [h]; simp), if_neg (by rw [h1]; simp)]
theorem turned_no {l m : List Col} {row : List Val} (h : ¬ turnC l m row = 0) : turned l m row = [] := by unfold turned; rw [if_neg h]
theorem turned_yes {l m : List Col} {row : List Val} (h : turnC l m row = 0) : turned l m row = turnVs l m row := by unfold turned; rw [if_pos h]
theorem cols_len {l : List Col} (h : colsOk l = true) : l.length ≤ 8 := by
  unfold colsOk at h; simp only [Bool.and_eq_true, decide_eq_true_eq] at h; exact h.1.2
theorem tableOk_cols (l : List Col) (a b c : ByteArray) : tableOk ⟨a, b, c, l, []⟩ = colsOk l := by unfold tableOk; simp [risesB]
end Go.Proofs.YtiadkchlkdaceaaGreat

namespace Go.Proofs.YtiadkchlkdaceaaGreat
open Go.RowKit
set_option linter.unusedVariables false
/-- the values of some columns -/
def ofVs (l : List Col) (cs : List ByteArray) (row : List Val) : List Val := cs.map fun s => valAt row (colAt l s)
def wholeV (l : List Val) : Bool := l.all fun v => v.kind != 1
theorem ofVs_succ (l : List Col) (cs : List ByteArray) (row : List Val) (k : Nat) (hk : k < cs.length) : ofVs l (cs.take (k + 1)) row = ofVs l (cs.take k) row ++ [valAt row (colAt l cs[k])] := by
  unfold ofVs; rw [List.take_succ_eq_append_getElem hk, List.map_append]; rfl
theorem ofVs_len (l : List Col) (cs : List ByteArray) (row : List Val) : (ofVs l cs row).length = cs.length := by simp [ofVs]
theorem wholeV_snoc (l : List Val) (v : Val) : wholeV (l ++ [v]) = (wholeV l && v.kind != 1) := by simp [wholeV]
/-- a null that may be is the null -/
theorem null_iff {v : Val} (h : mayV v = true) : eqV nullV v = (v.kind == 1) := by
  cases hk : (v.kind == 1)
  · rw [Bool.eq_false_iff]; intro he
    have := (eqV_iff _ _).1 he
    have h1 : v.kind = 1 := this.1.symm
    rw [h1] at hk; cases hk
  · have h1 : v.kind = 1 := by simpa using hk
    unfold mayV at h
    rw [hk, if_pos rfl, Bool.and_eq_true] at h
    obtain ⟨h2, h3⟩ := h
    refine (eqV_iff _ _).2 ⟨h1.symm, (by simpa using h2 : v.int = 0).symm, ?_⟩
    rw [eqS_comm, show nullV.text = ⟨#[]⟩ from rfl, eqS_nil]; exact h3
theorem val_may {l : List Col} {row : List Val} (h : besideB formB l row = true) {q : Nat} (hq : q < row.length) : mayV row[q] = true := by
  obtain ⟨hl, hf⟩ := (besideB_iff formB l row).1 h
  have := hf q (by omega) hq
  unfold formB at this; simp only [Bool.and_eq_true] at this; exact this.1
def hasN (l : List Val) : Bool := l.any fun v => eqV nullV v
theorem hasN_whole {l : List Val} (h : ∀ v ∈ l, mayV v = true) : (!hasN l) = wholeV l := by
  unfold hasN wholeV
  induction l with
  | nil => rfl
  | cons v l ih =>
    rw [List.any_cons, List.all_cons, Bool.not_or, ih fun x hx => h x (by simp [hx]), null_iff (h v (by simp))]
    rfl
def OfP (w : World) (l : List Val) (b : Bool) (e : Ending) (w' : World) : Prop := ∃ v, e = .returned (.tuple #[v, .bool b]) ∧ Aft w w' ∧ w'.ownsRow w.heap.size 37 3 v l.length (l.flatMap cellsV)
/-- a rule of a right table has at most as many columns as the table -/
theorem fits_len {l : List Col} {r : Rul} (hc : colsOk l = true) (hf : fitsOk l r = true) : r.cols.length ≤ 8 := by
  have h1 : rcOk l r.cols = true := by unfold fitsOk at hf; simp only [Bool.and_eq_true] at hf; exact hf.1.1.1
  exact Nat.le_trans (rc_len l r.cols h1) (cols_len hc)
end Go.Proofs.YtiadkchlkdaceaaGreat

namespace Go.Proofs.YtiadkchlkdaceaaGreat
set_option linter.unusedVariables false
/-- in a row that rises, what is less lies ahead -/
theorem rises_lt {α : Type} {c : α → α → Int} (tr : ∀ a b d, c a b < 0 → c b d < 0 → c a d < 0) {l : List α} (h : risesB c l = true) : ∀ (a b : Nat) (ha : a < l.length) (hb : b < l.length), a < b → c l[a] l[b] < 0 := by
  intro a b
  induction b with
  | zero => intro ha hb hab; omega
  | succ b ih =>
    intro ha hb hab
    have h1 := (risesB_iff c l).1 h b hb
    rcases Nat.lt_or_ge a b with h2 | h2
    · exact tr _ _ _ (ih ha (by omega) h2) h1
    · have : a = b := by omega
      subst this; exact h1
/-- an order: of two, just one way -/
structure Ord8 {α : Type} (c : α → α → Int) : Prop where
  tr : ∀ a b d, c a b < 0 → c b d < 0 → c a d < 0
  anti : ∀ a b, c a b = - c b a
  eq0 : ∀ a b, c a b = 0 → a = b
theorem Ord8.refl {α : Type} {c : α → α → Int} (o : Ord8 c) (a : α) : c a a = 0 := by have := o.anti a a; omega
end Go.Proofs.YtiadkchlkdaceaaGreat

namespace Go.Proofs.YtiadkchlkdaceaaGreat
open Go.RowKit
set_option linter.unusedVariables false
/-- all but the blocks from B up to B' is as it was -/
structure Kp (B B' : Nat) (w w' : World) : Prop where
  os : w'.os = w.os
  tape : w'.tape = w.tape
  output : w'.output = w.output
  size : w.heap.size ≤ w'.heap.size
  block : ∀ k, k < w.heap.size → (k < B ∨ B' ≤ k) → w'.heap[k]? = w.heap[k]?
theorem Kp.refl (B B' : Nat) (w : World) : Kp B B' w w := ⟨rfl, rfl, rfl, Nat.le_refl _, fun _ _ _ => rfl⟩
theorem Kp.aft {B B' : Nat} {w w' w'' : World} (h : Kp B B' w w') (a : Aft w' w'') : Kp B B' w w'' :=
  ⟨a.os.trans h.os, a.tape.trans h.tape, a.output.trans h.output, Nat.le_trans h.size a.size, fun k hk hb => (a.block k (Nat.lt_of_lt_of_le hk h.size)).trans (h.block k hk hb)⟩
theorem Kp.trans {B B' : Nat} {w w' w'' : World} (h : Kp B B' w w') (a : Kp B B' w' w'') : Kp B B' w w'' :=
  ⟨a.os.trans h.os, a.tape.trans h.tape, a.output.trans h.output, Nat.le_trans h.size a.size, fun k hk hb => (a.block k (Nat.lt_of_lt_of_le hk h.size) hb).trans (h.block k hk hb)⟩
theorem Kp.of_aft {B B' : Nat} {w w' : World} (a : Aft w w') : Kp B B' w w' := (Kp.refl B B' w).aft a
theorem Kp.set {B B' : Nat} {w w' : World} (h : Kp B B' w w') (p : Addr) (v : Value) (h1 : B ≤ p.block) (h2 : p.block < B') : Kp B B' w (w'.setCell p v) :=
  ⟨h.os, h.tape, h.output, by simpa using h.size, fun k hk hb => by rw [Below.heap_setCell _ _ _ _ (by omega)]; exact h.block k hk hb⟩
theorem Kp.cell {B B' : Nat} {w w' : World} (h : Kp B B' w w') {p : Addr} {v : Value} (hc : w.cell? p = some v) (hb : p.block < B ∨ B' ≤ p.block) : w'.cell? p = some v := by
  have := h.block p.block (World.block_lt_of_cell? w p hc) hb
  unfold World.cell? at hc ⊢
  rw [this]; exact hc
theorem Kp.to_aft {B B' : Nat} {W0 w w' : World} (h : Kp B B' w w') (a : Aft W0 w) (hB : W0.heap.size ≤ B) : Aft W0 w' :=
  ⟨h.os.trans a.os, h.tape.trans a.tape, h.output.trans a.output, Nat.le_trans a.size h.size, fun k hk => (h.block k (Nat.lt_of_lt_of_le hk a.size) (.inl (Nat.lt_of_lt_of_le hk hB))).trans (a.block k hk)⟩
/-- a block of a kind, that may be written -/
def Blk (w : World) (B B' g : Nat) (e : TypeId) (n : Nat) : Prop := B ≤ g ∧ g < B' ∧ ∃ cur, w.heap[g]? = some (.cells cur e (0, 0)) ∧ n ≤ cur.size
theorem Blk.lt {w : World} {B B' g n : Nat} {e : TypeId} (h : Blk w B B' g e n) : g < w.heap.size := by
  obtain ⟨_, _, cur, hg, _⟩ := h; exact lt_of_block hg
theorem Blk.cell {w : World} {B B' g n : Nat} {e : TypeId} (h : Blk w B B' g e n) {j : Nat} (hj : j < n) : ∃ v, w.cell? ⟨g, j, none⟩ = some v := by
  obtain ⟨_, _, cur, hg, hn⟩ := h
  exact ⟨cur[j]'(by omega), by simp [World.cell?, hg]⟩
theorem Blk.free {w : World} {B B' g n : Nat} {e : TypeId} (h : Blk w B B' g e n) (j : Nat) : w.frozen? ⟨g, j, none⟩ = false := by
  obtain ⟨_, _, cur, hg, hn⟩ := h
  simp [World.frozen?, hg]
theorem Blk.aft {w w' : World} {B B' g n : Nat} {e : TypeId} (h : Blk w B B' g e n) (a : Aft w w') : Blk w' B B' g e n := by
  have hl := h.lt
  obtain ⟨h1, h2, cur, hg, hn⟩ := h
  exact ⟨h1, h2, cur, (a.block g hl).trans hg, hn⟩
theorem Blk.set {w : World} {B B' g n : Nat} {e : TypeId} (h : Blk w B B' g e n) (g0 j0 : Nat) (v : Value) : Blk (w.setCell ⟨g0, j0, none⟩ v) B B' g e n := by
  have hl := h.lt
  obtain ⟨h1, h2, cur, hg, hn⟩ := h
  by_cases hgg : g0 = g
  · subst hgg
    refine ⟨h1, h2, cur.setIfInBounds j0 v, ?_, by simpa using hn⟩
    have h' : w.heap[g0] = .cells cur e (0, 0) := by simpa [Array.getElem?_eq_getElem hl] using hg
    show (w.heap.modify g0 _)[g0]? = _
    rw [Array.getElem?_eq_getElem (by simpa using hl), Array.getElem_modify_self, h']
    simp
  · exact ⟨h1, h2, cur, by rw [Below.heap_setCell _ _ _ _ (by simpa using fun e => hgg e.symm)]; exact hg, hn⟩
/-- a slice's head -/
structure Hd where
  a : Option Addr
  n : Nat
  c : Nat
def Hd.v (h : Hd) : Value := .slice h.a h.n h.c
structure Lay where
  col : Nat → Hd
  rul : Nat → Hd
  nam : Nat → Nat → Hd
def ShV (w : World) (B B' : Nat) (e : TypeId) (size : Nat) (h : Hd) : Prop := h.n * 16 ≤ 140737488351232 ∧ (0 < h.n → ∃ g, h.a = some ⟨g, 0, none⟩ ∧ Blk w B B' g e (h.n * size))
theorem ShV.aft {w w' : World} {B B' size : Nat} {e : TypeId} {h : Hd} (s : ShV w B B' e size h) (a : Aft w w') : ShV w' B B' e size h :=
  ⟨s.1, fun h0 => by obtain ⟨g, hg, hb⟩ := s.2 h0; exact ⟨g, hg, hb.aft a⟩⟩
theorem ShV.set {w : World} {B B' size : Nat} {e : TypeId} {h : Hd} (s : ShV w B B' e size h) (g0 j0 : Nat) (v : Value) : ShV (w.setCell ⟨g0, j0, none⟩ v) B B' e size h :=
  ⟨s.1, fun h0 => by obtain ⟨g, hg, hb⟩ := s.2 h0; exact ⟨g, hg, hb.set g0 j0 v⟩⟩
/-- rules of our own: each has its names -/
def ShR (w : World) (B B' : Nat) (h : Hd) (nam : Nat → Hd) : Prop := h.n * 16 ≤ 140737488351232 ∧ (0 < h.n → ∃ g, h.a = some ⟨g, 0, none⟩ ∧ Blk w B B' g 108 (h.n * 8) ∧ ∀ j, j < h.n → w.cell? ⟨g, j * 8 + 2, none⟩ = some (nam j).v) ∧ ∀ j, j < h.n → ShV w B B' 9 1 (nam j)
/-- tables of our own -/
def ShT (w : World) (B B' : Nat) (h : Hd) (L : Lay) : Prop := h.n * 16 ≤ 140737488351232 ∧ (0 < h.n → ∃ g, h.a = some ⟨g, 0, none⟩ ∧ Blk w B B' g 76 (h.n * 5) ∧ ∀ i, i < h.n → w.cell? ⟨g, i * 5 + 3, none⟩ = some (L.col i).v ∧ w.cell? ⟨g, i * 5 + 4, none⟩ = some (L.rul i).v) ∧
  ∀ i, i < h.n → ShV w B B' 93 3 (L.col i) ∧ ShR w B B' (L.rul i) (L.nam i)
/-- a store that leaves the heads alone -/
def OkW (w : World) (g0 j0 : Nat) : Prop := ∃ cur e0 f, w.heap[g0]? = some (.cells cur e0 f) ∧ (e0 = 108 → j0 % 8 ≠ 2) ∧ (e0 = 76 → j0 % 5 ≠ 3 ∧ j0 % 5 ≠ 4)
theorem cell_far {w : World} {g j g0 j0 : Nat} {v u : Value} (hc : w.cell? ⟨g, j, none⟩ = some u) (hne : ¬ (g0 = g ∧ j0 = j)) : (w.setCell ⟨g0, j0, none⟩ v).cell? ⟨g, j, none⟩ = some u := by
  refine (World.cell?_setCell_other _ _ _ _ ?_).trans hc
  intro e; injection e with e1 e2 _; exact hne ⟨e1, e2⟩
theorem ok_rule {w : World} {g0 j0 g n B B' i : Nat} (ok : OkW w g0 j0) (b : Blk w B B' g 108 n) : ¬ (g0 = g ∧ j0 = i * 8 + 2) := by
  rintro ⟨rfl, rfl⟩
  obtain ⟨cur, e0, f, hg, h1, _⟩ := ok
  obtain ⟨_, _, cur', hg', _⟩ := b
  rw [hg] at hg'
  simp only [Option.some.injEq, Obj.cells.injEq] at hg'
  exact h1 hg'.2.1 (by omega)
theorem ok_tab {w : World} {g0 j0 g n B B' i : Nat} (ok : OkW w g0 j0) (b : Blk w B B' g 76 n) : ¬ (g0 = g ∧ j0 = i * 5 + 3) ∧ ¬ (g0 = g ∧ j0 = i * 5 + 4) := by
  obtain ⟨cur, e0, f, hg, _, h1⟩ := ok
  obtain ⟨_, _, cur', hg', _⟩ := b
  constructor
  · rintro ⟨rfl, rfl⟩
    rw [hg] at hg'
    simp only [Option.some.injEq, Obj.cells.injEq] at hg'
    exact (h1 hg'.2.1).1 (by omega)
  · rintro ⟨rfl, rfl⟩
    rw [hg] at hg'
    simp only [Option.some.injEq, Obj.cells.injEq] at hg'
    exact (h1 hg'.2.1).2 (by omega)
theorem ShR.set {w : World} {B B' : Nat} {h : Hd} {nam : Nat → Hd} (s : ShR w B B' h nam) {g0 j0 : Nat} (ok : OkW w g0 j0) (v : Value) : ShR (w.setCell ⟨g0, j0, none⟩ v) B B' h nam :=
  ⟨s.1, fun h0 => by obtain ⟨g, hg, hb, hc⟩ := s.2.1 h0; exact ⟨g, hg, hb.set g0 j0 v, fun j hj => cell_far (hc j hj) (ok_rule ok hb)⟩, fun j hj => (s.2.2 j hj).set g0 j0 v⟩
theorem ShT.set {w : World} {B B' : Nat} {h : Hd} {L : Lay} (s : ShT w B B' h L) {g0 j0 : Nat} (ok : OkW w g0 j0) (v : Value) : ShT (w.setCell ⟨g0, j0, none⟩ v) B B' h L :=
  ⟨s.1, fun h0 => by obtain ⟨g, hg, hb, hc⟩ := s.2.1 h0; exact ⟨g, hg, hb.set g0 j0 v, fun i hi => ⟨cell_far (hc i hi).1 (ok_tab ok hb).1, cell_far (hc i hi).2 (ok_tab ok hb).2⟩⟩, fun i hi => ⟨(s.2.2 i hi).1.set g0 j0 v, (s.2.2 i hi).2.set ok v⟩⟩
theorem ShR.aft {w w' : World} {B B' : Nat} {h : Hd} {nam : Nat → Hd} (s : ShR w B B' h nam) (a : Aft w w') : ShR w' B B' h nam :=
  ⟨s.1, fun h0 => by obtain ⟨g, hg, hb, hc⟩ := s.2.1 h0; exact ⟨g, hg, hb.aft a, fun j hj => a.cell_kept (hc j hj)⟩, fun j hj => (s.2.2 j hj).aft a⟩
theorem ShT.aft {w w' : World} {B B' : Nat} {h : Hd} {L : Lay} (s : ShT w B B' h L) (a : Aft w w') : ShT w' B B' h L :=
  ⟨s.1, fun h0 => by obtain ⟨g, hg, hb, hc⟩ := s.2.1 h0; exact ⟨g, hg, hb.aft a, fun i hi => ⟨a.cell_kept (hc i hi).1, a.cell_kept (hc i hi).2⟩⟩, fun i hi => ⟨(s.2.2 i hi).1.aft a, (s.2.2 i hi).2.aft a⟩⟩
theorem Blk.ok {w : World} {B B' g n : Nat} {e : TypeId} (h : Blk w B B' g e n) (j : Nat) (h1 : e = 108 → j % 8 ≠ 2) (h2 : e = 76 → j % 5 ≠ 3 ∧ j % 5 ≠ 4) : OkW w g j := by
  obtain ⟨_, _, cur, hg, _⟩ := h
  exact ⟨cur, e, (0, 0), hg, h1, h2⟩
/-- objects of our own -/
structure Sh (w : World) (B B' : Nat) (hs ht : Hd) (L : Lay) : Prop where
  sch : ShV w B B' 88 2 hs
  tab : ShT w B B' ht L
theorem Sh.set {w : World} {B B' : Nat} {hs ht : Hd} {L : Lay} (s : Sh w B B' hs ht L) {g0 j0 : Nat} (ok : OkW w g0 j0) (v : Value) : Sh (w.setCell ⟨g0, j0, none⟩ v) B B' hs ht L := ⟨s.sch.set g0 j0 v, s.tab.set ok v⟩
theorem Sh.aft {w w' : World} {B B' : Nat} {hs ht : Hd} {L : Lay} (s : Sh w B B' hs ht L) (a : Aft w w') : Sh w' B B' hs ht L := ⟨s.sch.aft a, s.tab.aft a⟩
end Go.Proofs.YtiadkchlkdaceaaGreat

