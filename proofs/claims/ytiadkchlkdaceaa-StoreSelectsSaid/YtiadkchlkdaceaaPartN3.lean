/- Contracts of the program, part 3. -/
import Derived.IntWalk
import Derived.ProofKit
import Derived.OpenShut
import Derived.Deep.Slices
import Derived.ChangeOld
import Derived.SizedLaws
import Derived.WalkKit
import Derived.WalkSpells
import Derived.WalkLawsBesides
import Derived.Lib.Hide
import Derived.Deep.QuietTactic
import Derived.BigQuiet
import Derived.Below
import Derived.Deep.Draws
import Derived.StillTailTactics
import Derived.Laws.Cells
import Derived.Laws.IdiomCopy
import Derived.Test.YtiadkchlkdaceaaRows
import Derived.Lib.Bytealg
import Derived.OwnWalk
import Derived.Laws.AppendOwn
import Derived.ShutString
import Derived.Test.YtiadkchlkdaceaaPartN1
import Derived.Test.YtiadkchlkdaceaaPartN2
namespace Go.Proofs.Ytiadkchlkdaceaa
open Go.RowKit
set_option maxRecDepth 100000
set_option linter.unusedVariables false
/-- does a row rise? -/
def risesB {α : Type} (c : α → α → Int) : List α → Bool
  | [] => true
  | [_] => true
  | x :: y :: l => decide (c x y < 0) && risesB c (y :: l)
theorem risesB_iff {α : Type} (c : α → α → Int) (l : List α) : risesB c l = true ↔ ∀ k (h : k + 1 < l.length), c (l[k]'(by omega)) l[k + 1] < 0 := by
  induction l with
  | nil => simp [risesB]
  | cons x l ih =>
    cases l with
    | nil => simp [risesB]
    | cons y l =>
      rw [risesB, Bool.and_eq_true, ih, decide_eq_true_eq]
      constructor
      · rintro ⟨h1, h2⟩ k hk
        cases k with
        | zero => exact h1
        | succ k => exact h2 k (by simpa using hk)
      · intro h
        exact ⟨h 0 (by simp), fun k hk => h (k + 1) (by simpa using hk)⟩
theorem risesB_false {α : Type} (c : α → α → Int) (l : List α) (k : Nat) (h : k + 1 < l.length) (hc : 0 ≤ c (l[k]'(by omega)) l[k + 1]) : risesB c l = false := by
  rw [Bool.eq_false_iff]
  intro hr
  have := (risesB_iff c l).1 hr k h
  omega
set_option maxHeartbeats 1000000 in
theorem risesSch (A : Option Addr) (cap : Nat) (l : List Sch) (g : FuncId) (caps : Array Value) (c : Sch → Sch → Int) (w : World) (h : SlAt w 2 SchR A cap l) (hent : ∀ (args : Array Value) (w : World), (callFunc g args).run Try.prog w = .ok (.enter g args) w)
    (hp : ∀ w', Aft w w' → ∀ i (hi : i + 1 < l.length), Calls Try.prog g (#[.agg #[.string (l[i]'(by omega)).name, .string (l[i]'(by omega)).owner], .agg #[.string l[i + 1].name, .string l[i + 1].owner]] ++ caps) w' fun e w'' => e = .returned (.int .i64 (c (l[i]'(by omega)) l[i + 1])) ∧ Aft w' w'') :
    Calls Try.prog 30 #[.slice A l.length cap, .func (.func g) #[] caps] w fun e w' => e = .returned (.bool (risesB c l)) ∧ Aft w w' := by
  have hlen := h.len
  have HC := Lib.hid hp
  clear hp
  by_cases h2 : l.length ≤ 1
  · have HT := Lib.hid (show risesB c l = true from (risesB_iff c l).2 fun k hk => by omega)
    have hi2 : (l.length : Int) ≤ 1 := by omega
    go_enter Try.func30, Try.ntmps30
    go_wp2_with fail
    all_goals
      go_loop [10] (fun i => i = .int .i64 0) (fun i => 2 - (intOf i).toNat)
      case atStart => rfl
      case round =>
        subst hrel
        go_wp2_with fail
        go_ret
        exact ⟨by rw [HT.out]; rfl, Aft.refl _⟩
  · have hge : 2 ≤ l.length := by omega
    have hi2 : ¬ (l.length : Int) ≤ 1 := by omega
    have hi3 : (0 : Int) ≤ (l.length : Int) - 1 := by omega
    go_enter Try.func30, Try.ntmps30
    go_wp2_with fail
    go_loopw [10] (fun i wr => ∃ k : Nat, k ≤ l.length - 1 ∧ i = .int .i64 k ∧ Aft w wr ∧ ∀ j, j < k → ∀ (hj : j + 1 < l.length), c (l[j]'(by omega)) l[j + 1] < 0) (fun i _ => l.length - (intOf i).toNat)
    case atStart => exact ⟨0, Nat.zero_le _, rfl, Aft.refl _, fun j hj => absurd hj (Nat.not_lt_zero j)⟩
    case round =>
      obtain ⟨k, hk, rfl, ha, hp⟩ := hrel
      have HA := Lib.hid ha
      have HP := Lib.hid hp; clear hp
      by_cases hlt : k + 1 < l.length
      · have hsl := schs_aft ha h
        have hk1 : k < l.length := by omega
        obtain ⟨b, off, rfl, hb, c0, c1, hs, hs2⟩ := sch_at hsl hk1
        obtain ⟨b', off', hA', hb', d0, d1, hs', hs2'⟩ := sch_at hsl hlt
        simp only [Option.some.injEq, Addr.mk.injEq, and_true] at hA'
        obtain ⟨rfl, rfl⟩ := hA'
        obtain ⟨r, hr⟩ : ∃ r, c (l[k]'(by omega)) l[k + 1] = r := ⟨_, rfl⟩
        have Cc := Lib.hid (show ∀ x : Lat wr, _ from fun x => hr ▸ HC.out (lat wr x) (HA.out.lat x) k hlt)
        have HR := Lib.hid hr
        clear ha hsl hr
        have w1 : IntKind.i64.wrap ((k : Int) + 1) = (k : Int) + 1 := IntWalk.i64_in _ (by omega)
        have w2 : (0 : Int) ≤ (k : Int) + 1 := by omega
        have w3 : ((k : Int) + 1).toNat = k + 1 := by omega
        have w4 : (k : Int) + 1 < (l.length : Int) := by omega
        by_cases hr0 : 0 ≤ r
        · skip
          go_wp2_with fail
          refine wp_region_lat (by kernel_rfl) (by kernel_rfl) ?_
          repeat (go_big_quiet_step ((exact Calls.lat_of (Cc.out _))))
          refine wpQuiet_nil ?_
          intro _ hw'
          obtain ⟨x, hw''⟩ := hw'
          subst hw''
          clear w1 w2 w3 w4
          go_wp2_with fail
          go_ret
          exact ⟨by rw [risesB_false c l k hlt (by rw [HR.out]; exact hr0)]; rfl, HA.out.lat x⟩
        · have hr1 : r < 0 := by omega
          go_wp2_with fail
          refine wp_region_lat (by kernel_rfl) (by kernel_rfl) ?_
          repeat (go_big_quiet_step ((exact Calls.lat_of (Cc.out _))))
          refine wpQuiet_nil ?_
          intro _ hw'
          obtain ⟨x, hw''⟩ := hw'
          subst hw''
          clear w1 w2 w3 w4
          go_wp2_with fail
          go_roundw
          case rel => exact ⟨k + 1, by omega, by go_num, HA.out.lat x, ext_lt (p := fun j => ∀ (hj : j + 1 < l.length), c (l[j]'(by omega)) l[j + 1] < 0) HP.out (fun _ => by rw [HR.out]; exact hr1)⟩
          case measure => simp [intOf]; omega
      · have HT := Lib.hid (show risesB c l = true from (risesB_iff c l).2 fun j hj => HP.out j (by omega) hj)
        have hge2 : ¬ (k : Int) < (l.length : Int) - 1 := by omega
        clear ha
        go_wp2_with fail
        go_ret
        exact ⟨by rw [HT.out]; rfl, HA.out⟩
set_option maxHeartbeats 1000000 in
theorem risesRul (A : Option Addr) (cap : Nat) (l : List Rul) (g : FuncId) (caps : Array Value) (c : Rul → Rul → Int) (w : World) (h : SlAt w 8 RulR A cap l) (hent : ∀ (args : Array Value) (w : World), (callFunc g args).run Try.prog w = .ok (.enter g args) w)
    (hp : ∀ w', Aft w w' → ∀ i (hi : i + 1 < l.length) (e1 e2 : List Value), RulR w' e1 (l[i]'(by omega)) → RulR w' e2 l[i + 1] → Calls Try.prog g (#[.agg e1.toArray, .agg e2.toArray] ++ caps) w' fun e w'' => e = .returned (.int .i64 (c (l[i]'(by omega)) l[i + 1])) ∧ Aft w' w'') :
    Calls Try.prog 56 #[.slice A l.length cap, .func (.func g) #[] caps] w fun e w' => e = .returned (.bool (risesB c l)) ∧ Aft w w' := by
  have hlen := h.len
  have HC := Lib.hid hp
  clear hp
  by_cases h2 : l.length ≤ 1
  · have HT := Lib.hid (show risesB c l = true from (risesB_iff c l).2 fun k hk => by omega)
    have hi2 : (l.length : Int) ≤ 1 := by omega
    go_enter Try.func56, Try.ntmps56
    go_wp2_with fail
    all_goals
      go_loop [10] (fun i => i = .int .i64 0) (fun i => 2 - (intOf i).toNat)
      case atStart => rfl
      case round =>
        subst hrel
        go_wp2_with fail
        go_ret
        exact ⟨by rw [HT.out]; rfl, Aft.refl _⟩
  · have hge : 2 ≤ l.length := by omega
    have hi2 : ¬ (l.length : Int) ≤ 1 := by omega
    have hi3 : (0 : Int) ≤ (l.length : Int) - 1 := by omega
    go_enter Try.func56, Try.ntmps56
    go_wp2_with fail
    go_loopw [10] (fun i wr => ∃ k : Nat, k ≤ l.length - 1 ∧ i = .int .i64 k ∧ Aft w wr ∧ ∀ j, j < k → ∀ (hj : j + 1 < l.length), c (l[j]'(by omega)) l[j + 1] < 0) (fun i _ => l.length - (intOf i).toNat)
    case atStart => exact ⟨0, Nat.zero_le _, rfl, Aft.refl _, fun j hj => absurd hj (Nat.not_lt_zero j)⟩
    case round =>
      obtain ⟨k, hk, rfl, ha, hp⟩ := hrel
      have HA := Lib.hid ha
      have HP := Lib.hid hp; clear hp
      by_cases hlt : k + 1 < l.length
      · have hsl := ruls_aft ha h
        have hk1 : k < l.length := by omega
        obtain ⟨b, off, A2, cap2, rfl, hb, c0, c1, c2, c3, c4, c5, c6, c7, hs⟩ := rul_at hsl hk1
        obtain ⟨b', off', A2', cap2', hA', hb', d0, d1, d2, d3, d4, d5, d6, d7, hs'⟩ := rul_at hsl hlt
        simp only [Option.some.injEq, Addr.mk.injEq, and_true] at hA'
        obtain ⟨rfl, rfl⟩ := hA'
        obtain ⟨r, hr⟩ : ∃ r, c (l[k]'(by omega)) l[k + 1] = r := ⟨_, rfl⟩
        have Cc := Lib.hid (show ∀ x : Lat wr, _ from fun x => hr ▸ HC.out (lat wr x) (HA.out.lat x) k hlt _ _ (RulR.aft ((Aft.refl wr).lat x) ⟨A2, cap2, rfl, hs⟩) (RulR.aft ((Aft.refl wr).lat x) ⟨A2', cap2', rfl, hs'⟩))
        have HR := Lib.hid hr
        clear ha hsl hr
        have w1 : IntKind.i64.wrap ((k : Int) + 1) = (k : Int) + 1 := IntWalk.i64_in _ (by omega)
        have w2 : (0 : Int) ≤ (k : Int) + 1 := by omega
        have w3 : ((k : Int) + 1).toNat = k + 1 := by omega
        have w4 : (k : Int) + 1 < (l.length : Int) := by omega
        by_cases hr0 : 0 ≤ r
        · skip
          go_wp2_with fail
          refine wp_region_lat (by kernel_rfl) (by kernel_rfl) ?_
          repeat (go_big_quiet_step ((exact Calls.lat_of (Cc.out _))))
          refine wpQuiet_nil ?_
          intro _ hw'
          obtain ⟨x, hw''⟩ := hw'
          subst hw''
          clear w1 w2 w3 w4
          go_wp2_with fail
          go_ret
          exact ⟨by rw [risesB_false c l k hlt (by rw [HR.out]; exact hr0)]; rfl, HA.out.lat x⟩
        · have hr1 : r < 0 := by omega
          go_wp2_with fail
          refine wp_region_lat (by kernel_rfl) (by kernel_rfl) ?_
          repeat (go_big_quiet_step ((exact Calls.lat_of (Cc.out _))))
          refine wpQuiet_nil ?_
          intro _ hw'
          obtain ⟨x, hw''⟩ := hw'
          subst hw''
          clear w1 w2 w3 w4
          go_wp2_with fail
          go_roundw
          case rel => exact ⟨k + 1, by omega, by go_num, HA.out.lat x, ext_lt (p := fun j => ∀ (hj : j + 1 < l.length), c (l[j]'(by omega)) l[j + 1] < 0) HP.out (fun _ => by rw [HR.out]; exact hr1)⟩
          case measure => simp [intOf]; omega
      · have HT := Lib.hid (show risesB c l = true from (risesB_iff c l).2 fun j hj => HP.out j (by omega) hj)
        have hge2 : ¬ (k : Int) < (l.length : Int) - 1 := by omega
        clear ha
        go_wp2_with fail
        go_ret
        exact ⟨by rw [HT.out]; rfl, HA.out⟩
set_option maxHeartbeats 1000000 in
theorem risesTab (A : Option Addr) (cap : Nat) (l : List Tab) (g : FuncId) (caps : Array Value) (c : Tab → Tab → Int) (w : World) (h : SlAt w 5 TabR A cap l) (hent : ∀ (args : Array Value) (w : World), (callFunc g args).run Try.prog w = .ok (.enter g args) w)
    (hp : ∀ w', Aft w w' → ∀ i (hi : i + 1 < l.length) (e1 e2 : List Value), TabR w' e1 (l[i]'(by omega)) → TabR w' e2 l[i + 1] → Calls Try.prog g (#[.agg e1.toArray, .agg e2.toArray] ++ caps) w' fun e w'' => e = .returned (.int .i64 (c (l[i]'(by omega)) l[i + 1])) ∧ Aft w' w'') :
    Calls Try.prog 28 #[.slice A l.length cap, .func (.func g) #[] caps] w fun e w' => e = .returned (.bool (risesB c l)) ∧ Aft w w' := by
  have hlen := h.len
  have HC := Lib.hid hp
  clear hp
  by_cases h2 : l.length ≤ 1
  · have HT := Lib.hid (show risesB c l = true from (risesB_iff c l).2 fun k hk => by omega)
    have hi2 : (l.length : Int) ≤ 1 := by omega
    go_enter Try.func28, Try.ntmps28
    go_wp2_with fail
    all_goals
      go_loop [10] (fun i => i = .int .i64 0) (fun i => 2 - (intOf i).toNat)
      case atStart => rfl
      case round =>
        subst hrel
        go_wp2_with fail
        go_ret
        exact ⟨by rw [HT.out]; rfl, Aft.refl _⟩
  · have hge : 2 ≤ l.length := by omega
    have hi2 : ¬ (l.length : Int) ≤ 1 := by omega
    have hi3 : (0 : Int) ≤ (l.length : Int) - 1 := by omega
    go_enter Try.func28, Try.ntmps28
    go_wp2_with fail
    go_loopw [10] (fun i wr => ∃ k : Nat, k ≤ l.length - 1 ∧ i = .int .i64 k ∧ Aft w wr ∧ ∀ j, j < k → ∀ (hj : j + 1 < l.length), c (l[j]'(by omega)) l[j + 1] < 0) (fun i _ => l.length - (intOf i).toNat)
    case atStart => exact ⟨0, Nat.zero_le _, rfl, Aft.refl _, fun j hj => absurd hj (Nat.not_lt_zero j)⟩
    case round =>
      obtain ⟨k, hk, rfl, ha, hp⟩ := hrel
      have HA := Lib.hid ha
      have HP := Lib.hid hp; clear hp
      by_cases hlt : k + 1 < l.length
      · have hsl := tabs_aft ha h
        have hk1 : k < l.length := by omega
        obtain ⟨b, off, A2, cap2, A3, cap3, rfl, hb, c0, c1, c2, c3, c4, hs⟩ := tab_at hsl hk1
        obtain ⟨b', off', A2', cap2', A3', cap3', hA', hb', d0, d1, d2, d3, d4, hs'⟩ := tab_at hsl hlt
        simp only [Option.some.injEq, Addr.mk.injEq, and_true] at hA'
        obtain ⟨rfl, rfl⟩ := hA'
        obtain ⟨r, hr⟩ : ∃ r, c (l[k]'(by omega)) l[k + 1] = r := ⟨_, rfl⟩
        have Cc := Lib.hid (show ∀ x : Lat wr, _ from fun x => hr ▸ HC.out (lat wr x) (HA.out.lat x) k hlt _ _ (TabR.aft ((Aft.refl wr).lat x) ⟨A2, cap2, A3, cap3, rfl, hs⟩) (TabR.aft ((Aft.refl wr).lat x) ⟨A2', cap2', A3', cap3', rfl, hs'⟩))
        have HR := Lib.hid hr
        clear ha hsl hr
        have w1 : IntKind.i64.wrap ((k : Int) + 1) = (k : Int) + 1 := IntWalk.i64_in _ (by omega)
        have w2 : (0 : Int) ≤ (k : Int) + 1 := by omega
        have w3 : ((k : Int) + 1).toNat = k + 1 := by omega
        have w4 : (k : Int) + 1 < (l.length : Int) := by omega
        by_cases hr0 : 0 ≤ r
        · skip
          go_wp2_with fail
          refine wp_region_lat (by kernel_rfl) (by kernel_rfl) ?_
          repeat (go_big_quiet_step ((exact Calls.lat_of (Cc.out _))))
          refine wpQuiet_nil ?_
          intro _ hw'
          obtain ⟨x, hw''⟩ := hw'
          subst hw''
          clear w1 w2 w3 w4
          go_wp2_with fail
          go_ret
          exact ⟨by rw [risesB_false c l k hlt (by rw [HR.out]; exact hr0)]; rfl, HA.out.lat x⟩
        · have hr1 : r < 0 := by omega
          go_wp2_with fail
          refine wp_region_lat (by kernel_rfl) (by kernel_rfl) ?_
          repeat (go_big_quiet_step ((exact Calls.lat_of (Cc.out _))))
          refine wpQuiet_nil ?_
          intro _ hw'
          obtain ⟨x, hw''⟩ := hw'
          subst hw''
          clear w1 w2 w3 w4
          go_wp2_with fail
          go_roundw
          case rel => exact ⟨k + 1, by omega, by go_num, HA.out.lat x, ext_lt (p := fun j => ∀ (hj : j + 1 < l.length), c (l[j]'(by omega)) l[j + 1] < 0) HP.out (fun _ => by rw [HR.out]; exact hr1)⟩
          case measure => simp [intOf]; omega
      · have HT := Lib.hid (show risesB c l = true from (risesB_iff c l).2 fun j hj => HP.out j (by omega) hj)
        have hge2 : ¬ (k : Int) < (l.length : Int) - 1 := by omega
        clear ha
        go_wp2_with fail
        go_ret
        exact ⟨by rw [HT.out]; rfl, HA.out⟩
end Go.Proofs.Ytiadkchlkdaceaa

namespace Go.Proofs.Ytiadkchlkdaceaa
open Go.RowKit
set_option linter.unusedVariables false
theorem cmpB_eq : ∀ (a b : List UInt8), (Lib.compareBytes a b = 0) ↔ a = b
  | [], [] => by simp [Lib.compareBytes]
  | [], _ :: _ => by simp [Lib.compareBytes]
  | _ :: _, [] => by simp [Lib.compareBytes]
  | x :: a, y :: b => by
    unfold Lib.compareBytes
    by_cases h : x < y
    · have h3 : ¬ x = y := fun e => by subst e; exact UInt8.lt_irrefl _ h
      simp [h, h3]
    · by_cases h2 : y < x
      · have h3 : ¬ x = y := fun e => by subst e; exact UInt8.lt_irrefl _ h2
        simp [h, h2, h3]
      · have h3 : x = y := UInt8.le_antisymm (UInt8.not_lt.1 h2) (UInt8.not_lt.1 h)
        subst h3
        have := cmpB_eq a b
        simp [UInt8.lt_irrefl, this]
theorem cmpB_anti : ∀ (a b : List UInt8), Lib.compareBytes a b = - Lib.compareBytes b a
  | [], [] => rfl
  | [], _ :: _ => rfl
  | _ :: _, [] => rfl
  | x :: a, y :: b => by
    unfold Lib.compareBytes
    by_cases h : x < y
    · have h2 : ¬ y < x := UInt8.lt_asymm h
      simp [h, h2]
    · by_cases h2 : y < x
      · simp [h, h2]
      · simp [h, h2]; exact cmpB_anti a b
theorem cmpB_trans : ∀ (a b c : List UInt8), Lib.compareBytes a b < 0 → Lib.compareBytes b c < 0 → Lib.compareBytes a c < 0
  | [], [], c => fun h => by simp [Lib.compareBytes] at h
  | [], _ :: _, [] => fun _ h => by simp [Lib.compareBytes] at h
  | [], _ :: _, _ :: _ => fun _ _ => by simp [Lib.compareBytes]
  | _ :: _, [], c => fun h => by simp [Lib.compareBytes] at h
  | _ :: _, _ :: _, [] => fun _ h => by simp [Lib.compareBytes] at h
  | x :: a, y :: b, z :: c => by
    unfold Lib.compareBytes
    intro h1 h2
    by_cases xy : x < y
    · by_cases yz : y < z
      · have := UInt8.lt_trans xy yz; simp [this]
      · simp only [yz, if_false] at h2
        by_cases zy : z < y
        · simp [zy] at h2
        · have e : y = z := UInt8.le_antisymm (UInt8.not_lt.1 zy) (UInt8.not_lt.1 yz)
          subst e; simp [xy]
    · simp only [xy, if_false] at h1
      by_cases yx : y < x
      · simp [yx] at h1
      · have e : x = y := UInt8.le_antisymm (UInt8.not_lt.1 yx) (UInt8.not_lt.1 xy)
        subst e
        simp only [yx, if_false] at h1
        by_cases yz : x < z
        · simp [yz]
        · simp only [yz, if_false] at h2 ⊢
          by_cases zy : z < x
          · simp [zy] at h2
          · simp only [zy, if_false] at h2 ⊢
            exact cmpB_trans a b c h1 h2
theorem cmpS_eq (a b : ByteArray) : (cmpS a b = 0) ↔ eqS a b = true := by
  unfold cmpS eqS
  rw [Lib.toList_data, Lib.toList_data, cmpB_eq]; simp
theorem cmpS_anti (a b : ByteArray) : cmpS a b = - cmpS b a := cmpB_anti _ _
theorem cmpS_trans {a b c : ByteArray} (h1 : cmpS a b < 0) (h2 : cmpS b c < 0) : cmpS a c < 0 := cmpB_trans _ _ _ h1 h2
end Go.Proofs.Ytiadkchlkdaceaa

namespace Go.Proofs.Ytiadkchlkdaceaa
open Go.RowKit
set_option maxRecDepth 100000
set_option linter.unusedVariables false
theorem hasS_iff (l : List ByteArray) (s : ByteArray) : hasS l s = true ↔ 0 ≤ idxP (fun c => eqS c s) l := by
  induction l with
  | nil => simp [hasS, idxP]
  | cons x l ih =>
    unfold hasS at ih ⊢
    rw [List.any_cons, Bool.or_eq_true, ih]
    simp only [idxP]
    by_cases hx : eqS x s = true
    · rw [if_pos hx]; simp [hx]
    · rw [if_neg hx]
      by_cases hy : idxP (fun c => eqS c s) l < 0
      · rw [if_pos hy]
        constructor
        · intro h; rcases h with h | h
          · exact absurd h hx
          · omega
        · intro h; omega
      · rw [if_neg hy]
        constructor
        · intro h; omega
        · intro h; right; omega
theorem hasS_idx (l : List ByteArray) (s : ByteArray) : hasS l s = decide (0 ≤ idxP (fun c => eqS c s) l) := by
  rw [Bool.eq_iff_iff, hasS_iff]; simp
set_option maxHeartbeats 8000000 in
theorem fits_any (A : Option Addr) (cap : Nat) (l : List Col) (r : Rul) (A2 : Option Addr) (cap2 : Nat) (w : World) (h : SlAt w 3 ColR A cap l) (h2 : SlAt w 1 StrR A2 cap2 r.cols)
    (hn : Small r.name.size) (hs : Small r.schema.size) (ht : Small r.table.size) (hk' : Small r.key.size) :
    Calls Try.prog 54 #[.slice A l.length cap, .agg #[.string r.name, .int .i64 r.kind, .slice A2 r.cols.length cap2, .int .i64 r.low, .int .i64 r.high, .string r.schema, .string r.table, .string r.key]] w
      fun e w' => e = .returned (.bool (fitsOk l r)) ∧ Aft w w' := by
  obtain ⟨name, kind, cs, low, high, schema, table, key⟩ := r
  simp only at h2 hn hs ht hk' ⊢
  have hlen := h.len
  have hlen2 := h2.len
  cases hN : nameB name
  · have HF := Lib.hid (show fitsOk l ⟨name, kind, cs, low, high, schema, table, key⟩ = false by simp [fitsOk, hN])
    go_enter Try.func54, Try.ntmps54
    go_wp2_with (go_at_call 33; refine (name_any _ _ (by first | exact hn.max | exact hs.max | exact ht.max | exact hk'.max)).mono ?_; rintro e w' ⟨rfl, rfl⟩)
    go_ret
    exact ⟨by rw [HF.out]; rfl, (Aft.refl _).alloc _⟩
  by_cases hz0 : cs.length < 1
  · have HF := Lib.hid (show fitsOk l ⟨name, kind, cs, low, high, schema, table, key⟩ = false by
      have : cs.length = 0 := by omega
      simp [fitsOk, this])
    go_enter Try.func54, Try.ntmps54
    go_wp2_with (go_at_call 33; refine (name_any _ _ (by first | exact hn.max | exact hs.max | exact ht.max | exact hk'.max)).mono ?_; rintro e w' ⟨rfl, rfl⟩)
    go_ret
    exact ⟨by rw [HF.out]; rfl, (Aft.refl _).alloc _⟩
  by_cases hzl : l.length < cs.length
  · have HF := Lib.hid (show fitsOk l ⟨name, kind, cs, low, high, schema, table, key⟩ = false by
      have : rcOk l cs = false := by
        cases hrc : rcOk l cs with
        | false => rfl
        | true => have := rc_len l cs hrc; omega
      simp [fitsOk, this])
    have hpos : 1 ≤ cs.length := by omega
    clear hz0
    go_enter Try.func54, Try.ntmps54
    go_wp2_with (go_at_call 33; refine (name_any _ _ (by first | exact hn.max | exact hs.max | exact ht.max | exact hk'.max)).mono ?_; rintro e w' ⟨rfl, rfl⟩)
    go_ret
    exact ⟨by rw [HF.out]; rfl, (Aft.refl _).alloc _⟩
  have hpos : 1 ≤ cs.length := by omega
  have hll : cs.length ≤ l.length := by omega
  have bb1 : decide ((cs.length : Int) < 1) = false := decide_eq_false (by omega)
  have bb2 : decide (l.length < cs.length) = false := decide_eq_false (by omega)
  have bb3 : decide ((l.length : Int) < (cs.length : Int)) = false := decide_eq_false (by omega)
  clear hz0 hzl
  go_enter Try.func54, Try.ntmps54
  go_wp2_with (go_at_call 33; refine (name_any _ _ (by first | exact hn.max | exact hs.max | exact ht.max | exact hk'.max)).mono ?_; rintro e w' ⟨rfl, rfl⟩)
  go_loopw [29] (fun i wr => ∃ k : Nat, k ≤ cs.length ∧ i = .int .i64 k ∧ Aft (w.alloc (.cells #[.string name, .int .i64 kind, .slice A2 cs.length cap2, .int .i64 low, .int .i64 high, .string schema, .string table, .string key] 64)) wr ∧ ∀ j, j < k → ∀ (hj : j < cs.length), (decide (0 ≤ colAt l cs[j]) && !(hasS (cs.take j) cs[j])) = true) (fun i _ => cs.length - (intOf i).toNat)
  case atStart => exact ⟨0, Nat.zero_le _, rfl, Aft.refl _, fun j hj => absurd hj (Nat.not_lt_zero j)⟩
  case round =>
    obtain ⟨k, hk, rfl, ha, hp⟩ := hrel
    obtain ⟨hbox, hfr, hz, hzk, HA⟩ := aft_box ha
    have HAB := Lib.hid ha
    have HP := Lib.hid hp; clear hp
    have hsl := cols_aft HA.out h
    have hsl2 := strs_aft HA.out h2
    clear ha
    by_cases hlt : k < cs.length
    · obtain ⟨b, off, rfl, hb, c0, hss⟩ := str_at hsl2 hlt
      obtain ⟨i, hi⟩ : ∃ i, colAt l cs[k] = i := ⟨_, rfl⟩
      obtain ⟨m, hm⟩ : ∃ m, idxP (fun c => eqS c cs[k]) cs = m := ⟨_, rfl⟩
      have Cby := Lib.hid (show Calls Try.prog 76 #[.slice A l.length cap, .string cs[k], .func (.func 77) #[] #[]] wr fun e w' => e = .returned (.int .i64 i) ∧ Aft wr w' from
        (byCol A cap l cs[k] wr hsl).mono fun e w' ⟨he, hw⟩ => ⟨he.trans (by rw [← hi]; rfl), hw⟩)
      have Cidx := Lib.hid (show ∀ w', Aft wr w' → Calls Try.prog 80 #[.slice (some ⟨b, off, none⟩) cs.length cap2, .string cs[k]] w' fun e w'' => e = .returned (.int .i64 m) ∧ w' = w'' from
        fun w' ha' => (sidx_any _ cap2 cs cs[k] w' (strs_aft ha' hsl2)).mono fun e w'' ⟨he, hw⟩ => ⟨he.trans (by rw [← hm]), hw⟩)
      have HI := Lib.hid hi
      have HM := Lib.hid hm
      clear hi hm hsl hsl2
      by_cases hi0 : i < 0
      · go_wp2_with fail
        refine Cby.out.mono ?_
        rintro e w1 ⟨rfl, a1⟩
        have HA1 := Lib.hid (HA.out.trans a1)
        clear a1
        go_wp2_with fail
        go_ret
        exact ⟨by rw [show fitsOk l ⟨name, kind, cs, low, high, schema, table, key⟩ = false by unfold fitsOk; rw [rcOk_false l cs k hlt (by rw [HI.out, decide_eq_false (by omega)]; rfl)]; rfl]; rfl, HA1.out⟩
      · have hi1 : 0 ≤ i := by omega
        have hd : decide (i < 0) = false := decide_eq_false hi0
        by_cases hmk : m = k
        · have e1 : (m != (k : Int)) = false := by simp [hmk]
          have HMK := Lib.hid hmk
          clear hmk
          go_wp2_with fail
          refine Cby.out.mono ?_
          rintro e w1 ⟨rfl, a1⟩
          obtain ⟨hbox1, hfr1, hz1, hzk1, HA1⟩ := aft_box (HAB.out.trans a1)
          have HAB1 := Lib.hid (HAB.out.trans a1)
          have HW1 := Lib.hid a1
          clear a1 hbox hfr hz hzk
          go_wp2_with fail
          refine (Cidx.out _ HW1.out).mono ?_
          rintro e w2 ⟨rfl, rfl⟩
          go_wp2_with fail
          go_roundw
          case rel =>
            refine ⟨k + 1, by omega, by go_num, HAB1.out, ext_lt (p := fun j => ∀ (hj : j < cs.length), (decide (0 ≤ colAt l cs[j]) && !(hasS (cs.take j) cs[j])) = true) HP.out (fun _ => ?_)⟩
            rw [HI.out, decide_eq_true hi1, hasS_idx, decide_eq_false]
            · rfl
            · intro h0
              have q1 := (idxP_miss (fun c => eqS c cs[k]) cs k hlt h0).1
              have q2 := HM.out
              have q3 := HMK.out
              omega
          case measure => simp [intOf]; omega
        · have e1 : (m != (k : Int)) = true := by rw [bne_iff_ne]; exact hmk
          have HMK := Lib.hid hmk
          clear hmk
          go_wp2_with fail
          refine Cby.out.mono ?_
          rintro e w1 ⟨rfl, a1⟩
          obtain ⟨hbox1, hfr1, hz1, hzk1, HA1⟩ := aft_box (HAB.out.trans a1)
          have HW1 := Lib.hid a1
          clear a1 hbox hfr hz hzk
          go_wp2_with fail
          refine (Cidx.out _ HW1.out).mono ?_
          rintro e w2 ⟨rfl, rfl⟩
          go_wp2_with fail
          go_ret
          have hf : (decide (0 ≤ colAt l cs[k]) && !(hasS (cs.take k) cs[k])) = false := by
            rw [hasS_idx, decide_eq_true (p := 0 ≤ idxP (fun c => eqS c cs[k]) (cs.take k)), Bool.not_true, Bool.and_false]
            refine Int.not_lt.1 fun h0 => ?_
            exact HMK.out (HM.out.symm.trans (idxP_hit (fun c => eqS c cs[k]) cs k hlt (eqS_refl _) h0))
          exact ⟨by rw [show fitsOk l ⟨name, kind, cs, low, high, schema, table, key⟩ = false by unfold fitsOk; rw [rcOk_false l cs k hlt hf]; rfl]; rfl, HA1.out⟩
    · have hrc := rcOk_true l cs (fun j hj hj' => HP.out j (by omega) hj')
      have HF := Lib.hid (show fitsOk l ⟨name, kind, cs, low, high, schema, table, key⟩ = ruleRest l ⟨name, kind, cs, low, high, schema, table, key⟩ by
        have : ¬ cs.length = 0 := by omega
        simp [fitsOk, hrc, hN, this])
      have hc0 : 0 ≤ colAt l cs[0] := by have := HP.out 0 (by omega) hpos; simp at this; exact this.1
      clear hrc
      have z1 : schema.size + table.size ≤ 9223372036854775807 := by unfold Small at *; omega
      have z2 : schema.size + table.size + key.size ≤ 9223372036854775807 := by unfold Small at *; omega
      by_cases k1 : kind = 1
      · subst k1
        go_wp2_with (go_at_call 33; refine (name_any _ _ (by first | exact hn.max | exact hs.max | exact ht.max | exact hk'.max)).mono ?_; rintro e w' ⟨rfl, rfl⟩)
        all_goals
          go_ret
          refine ⟨Eq.trans (b := .returned (.bool _)) rfl (ret_of (bool_of ?_)), HA.out⟩
          rw [HF.out]
          clear HF HA HAB HP hbox hfr hz hzk hsl hsl2 h h2
          simp_all [ruleRest, emp, cat_nil_iff]
      by_cases k2 : kind = 2
      · subst k2
        go_wp2_with (go_at_call 33; refine (name_any _ _ (by first | exact hn.max | exact hs.max | exact ht.max | exact hk'.max)).mono ?_; rintro e w' ⟨rfl, rfl⟩)
        all_goals
          go_ret
          refine ⟨Eq.trans (b := .returned (.bool _)) rfl (ret_of (bool_of ?_)), HA.out⟩
          rw [HF.out]
          clear HF HA HAB HP hbox hfr hz hzk hsl hsl2 h h2
          simp_all [ruleRest, emp, cat_nil_iff]
      by_cases k4 : kind = 4
      · subst k4
        go_wp2_with (go_at_call 33; refine (name_any _ _ (by first | exact hn.max | exact hs.max | exact ht.max | exact hk'.max)).mono ?_; rintro e w' ⟨rfl, rfl⟩)
        all_goals
          go_ret
          refine ⟨Eq.trans (b := .returned (.bool _)) rfl (ret_of (bool_of ?_)), HA.out⟩
          rw [HF.out]
          clear HF HA HAB HP hbox hfr hz hzk hsl hsl2 h h2
          simp_all [ruleRest]
      by_cases k3 : kind = 3
      · subst k3
        obtain ⟨q, hq⟩ := Int.eq_ofNat_of_zero_le hc0
        have hql : q < l.length := by have := (idxP_range (fun c => eqS c.name cs[0]) l).2; unfold colAt at hq; omega
        obtain ⟨b, off, rfl, hb, c0, hss⟩ := str_at hsl2 hpos
        obtain ⟨b2, off2, rfl, hb2, d0, d1, d2, hss2⟩ := col_at hsl hql
        have c0' : wr.cell? ⟨b, off, none⟩ = some (.string cs[0]) := by simpa using c0
        have Ccol := Lib.hid (show Calls Try.prog 76 #[.slice (some ⟨b2, off2, none⟩) l.length cap, .string cs[0], .func (.func 77) #[] #[]] wr fun e w' => e = .returned (.int .i64 q) ∧ Aft wr w' from
          (byCol _ cap l cs[0] wr hsl).mono fun e w' ⟨he, hw⟩ => ⟨he.trans (by rw [← show colAt l cs[0] = (q : Int) from hq]; rfl), hw⟩)
        have HK := Lib.hid (show kindAt l (colAt l (cs.headD ByteArray.empty)) = l[q].kind by
          have e1 : cs.headD ByteArray.empty = cs[0] := by cases cs with | nil => simp at hpos | cons a t => rfl
          rw [e1, hq]; simp [kindAt, List.getElem?_eq_getElem hql])
        have HA3 := HA
        clear hc0 hq c0
        go_wp2_with (first | (go_at_call 33; refine (name_any _ _ (by first | exact hn.max | exact hs.max | exact ht.max | exact hk'.max)).mono ?_; rintro e w' ⟨rfl, rfl⟩) | (go_at_call 76; refine Ccol.out.mono ?_; rintro e w2 ⟨rfl, a2⟩; obtain ⟨hbox2, hfr2, hz2, hzk2, HA2⟩ := aft_box (HAB.out.trans a2); have d1' := (Below.cell a2 (p := ⟨b2, off2 + q * 3 + 1, none⟩) hb2).trans d1; clear a2 hbox hfr hz hzk c0' d0 d1 d2 HA))
        all_goals
          go_ret
          refine ⟨Eq.trans (b := .returned (.bool _)) rfl (ret_of (bool_of ?_)), by first | exact HA2.out | exact HA3.out⟩
          rw [HF.out]
          have hkk := HK.out
          clear HF HA3 HAB HP hsl hsl2 h h2 HK Ccol
          simp_all [ruleRest, emp, cat_nil_iff]
      · have q1 : (kind == 1) = false := by simp [k1]
        have q2 : (kind == 2) = false := by simp [k2]
        have q3 : (kind == 3) = false := by simp [k3]
        have q4 : (kind == 4) = false := by simp [k4]
        go_wp2_with (go_at_call 33; refine (name_any _ _ (by first | exact hn.max | exact hs.max | exact ht.max | exact hk'.max)).mono ?_; rintro e w' ⟨rfl, rfl⟩)
        all_goals
          go_ret
          refine ⟨Eq.trans (b := .returned (.bool _)) rfl (ret_of (bool_of ?_)), HA.out⟩
          rw [HF.out]
          clear HF HA HAB HP hbox hfr hz hzk hsl hsl2 h h2
          simp_all [ruleRest]
end Go.Proofs.Ytiadkchlkdaceaa

namespace Go.Proofs.Ytiadkchlkdaceaa
open Go.RowKit
set_option linter.unusedVariables false
/-- do columns go with columns, one by one? -/
def pairB (l : List Col) (l2 : List Col) (a b : ByteArray) : Bool := decide (0 ≤ colAt l a) && decide (0 ≤ colAt l2 b) && (kindAt l (colAt l a) == kindAt l2 (colAt l2 b))
def pairsOk (l : List Col) (l2 : List Col) : List ByteArray → List ByteArray → Bool
  | [], [] => true
  | a :: xs, b :: ys => pairB l l2 a b && pairsOk l l2 xs ys
  | _, _ => false
theorem kindsOf_cons (l : List Col) (a : ByteArray) (cs : List ByteArray) : kindsOf l (a :: cs) = if 0 ≤ colAt l a then kindAt l (colAt l a) :: kindsOf l cs else kindsOf l cs := by
  unfold kindsOf
  by_cases h : 0 ≤ colAt l a <;> simp [h]
theorem pairsOk_code (l l2 : List Col) : ∀ (cs cs2 : List ByteArray), pairsOk l l2 cs cs2 = (decide (cs2.length = cs.length) && decide ((kindsOf l2 cs2).length = cs2.length) && decide (kindsOf l cs = kindsOf l2 cs2))
  | [], [] => by simp [pairsOk, kindsOf]
  | [], b :: ys => by simp [pairsOk]
  | a :: xs, [] => by simp [pairsOk]
  | a :: xs, b :: ys => by
    have ih := pairsOk_code l l2 xs ys
    have hb := kindsOf_le l2 ys
    have ha := kindsOf_le l xs
    rw [pairsOk, ih, kindsOf_cons, kindsOf_cons]
    unfold pairB
    by_cases h1 : 0 ≤ colAt l a
    · by_cases h2 : 0 ≤ colAt l2 b
      · by_cases h3 : kindAt l (colAt l a) = kindAt l2 (colAt l2 b) <;> simp [h1, h2, h3]
      · have h4 : ¬ (kindsOf l2 ys).length = ys.length + 1 := by omega
        simp [h1, h2, h4]
    · by_cases h2 : 0 ≤ colAt l2 b
      · rw [if_neg h1, if_pos h2]
        simp only [h1, decide_false, Bool.false_and]
        symm
        rw [Bool.eq_false_iff]
        intro h
        simp only [Bool.and_eq_true, decide_eq_true_eq, List.length_cons] at h
        obtain ⟨⟨e1, e2⟩, e3⟩ := h
        have := congrArg List.length e3
        simp only [List.length_cons] at this
        omega
      · have h4 : ¬ (kindsOf l2 ys).length = ys.length + 1 := by omega
        simp [h1, h2, h4]
def rulAt (l : List Rul) (s : ByteArray) : Int := idxP (fun c => eqS c.name s) l
def schAt (l : List Sch) (s : ByteArray) : Int := idxP (fun c => eqS c.name s) l
/-- why a foreign rule has not its key; 0: it has -/
def keyT (t : Tab) (l : List Col) (r : Rul) : Int :=
  match t.rules[(rulAt t.rules r.key).toNat]? with
  | some q => if rulAt t.rules r.key < 0 then 61 else if q.kind == 2 then (if pairsOk l t.cols r.cols q.cols then 0 else 63) else 61
  | none => 61
def keyE (ts : List Tab) (l : List Col) (r : Rul) : Int :=
  match ts[(tabAt ts r.schema r.table).toNat]? with
  | some t => if tabAt ts r.schema r.table < 0 then 61 else keyT t l r
  | none => 61
/-- may a rule be? -/
def ruleOk (ts : List Tab) (l : List Col) (r : Rul) : Bool := fitsOk l r && !(r.kind == 4 && keyE ts l r != 0)
def rightT (o : Objs) (t : Tab) : Bool :=
  nameB t.name && nameB t.owner && colsOk t.cols && decide (t.rules.length ≤ 8) && decide (0 ≤ schAt o.schemas t.schema) && (t.rules.all (ruleOk o.tables t.cols) && risesB (fun a b => cmpS a.name b.name) t.rules)
def schOk (o : Objs) (s : Sch) : Bool := nameB s.name && nameB s.owner && decide (within o.tables s.name ≤ 8)
def headOk (o : Objs) : Bool := decide (o.schemas.length ≤ 8) && decide (o.tables.length ≤ 64) && risesB (fun a b => or2 (cmpS a.schema b.schema) (cmpS a.name b.name)) o.tables && risesB (fun a b => cmpS a.name b.name) o.schemas
def checkO (o : Objs) : Bool := headOk o && (o.schemas.all (schOk o) && o.tables.all (rightT o))
end Go.Proofs.Ytiadkchlkdaceaa

namespace Go.Proofs.Ytiadkchlkdaceaa
open Go.RowKit
set_option linter.unusedVariables false
def bareR (r : Rul) : Rul := if r.kind == 4 && nameB r.schema && nameB r.table && nameB r.key then { r with kind := 1, schema := ⟨#[]⟩, table := ⟨#[]⟩, key := ⟨#[]⟩ } else r
def aloneO (t : Tab) : Objs := ⟨[⟨⟨#[115]⟩, ⟨#[111]⟩⟩], [⟨⟨#[115]⟩, ⟨#[116]⟩, ⟨#[111]⟩, t.cols, t.rules.map bareR⟩]⟩
/-- is a table right by itself? -/
def tableOk (t : Tab) : Bool := colsOk t.cols && decide (t.rules.length ≤ 8) && (t.rules.all (fitsOk t.cols) && risesB (fun a b => cmpS a.name b.name) t.rules)
theorem mixed_len {α : Type} (f : α → α) (l : List α) (k : Nat) (hk : k ≤ l.length) : ((l.take k).map f ++ l.drop k).length = l.length := by simp; omega
theorem mixed_get {α : Type} (f : α → α) (l : List α) (k : Nat) (hk : k < l.length) (h : k < ((l.take k).map f ++ l.drop k).length) : ((l.take k).map f ++ l.drop k)[k] = l[k] := by
  have e : ((l.take k).map f).length = k := by simp; omega
  rw [List.getElem_append_right (by omega)]
  simp only [e, Nat.sub_self, List.getElem_drop, Nat.add_zero]
theorem mixed_step {α : Type} (f : α → α) (l : List α) (k : Nat) (hk : k < l.length) : ((l.take k).map f ++ l.drop k).set k (f l[k]) = (l.take (k + 1)).map f ++ l.drop (k + 1) := by
  have e : ((l.take k).map f).length = k := by simp; omega
  rw [List.set_append_right _ _ (by omega), e, Nat.sub_self, List.drop_eq_getElem_cons hk, List.set_cons_zero, List.take_succ_eq_append_getElem hk, List.map_append, List.append_assoc]
  rfl
theorem mixed_same {α : Type} (f : α → α) (l : List α) (k : Nat) (hk : k < l.length) (h : f l[k] = l[k]) : (l.take k).map f ++ l.drop k = (l.take (k + 1)).map f ++ l.drop (k + 1) := by
  rw [← mixed_step f l k hk, h]
  have hl : k < ((l.take k).map f ++ l.drop k).length := by rw [mixed_len f l k (by omega)]; exact hk
  have e : (((l.take k).map f ++ l.drop k).set k l[k]) = ((l.take k).map f ++ l.drop k).set k (((l.take k).map f ++ l.drop k)[k]'hl) := by rw [mixed_get f l k hk hl]
  rw [e, List.set_getElem_self]
theorem emp_nil : emp ⟨#[]⟩ = true := by decide +kernel
theorem fits_bare (l : List Col) (r : Rul) : (bareR r).cols = r.cols ∧ (bareR r).name = r.name ∧ ∀ ts, ruleOk ts l (bareR r) = fitsOk l r := by
  unfold bareR
  by_cases h : (r.kind == 4 && nameB r.schema && nameB r.table && nameB r.key) = true
  · rw [if_pos h]
    refine ⟨rfl, rfl, fun ts => ?_⟩
    simp only [Bool.and_eq_true, beq_iff_eq] at h
    obtain ⟨⟨⟨h4, h1⟩, h2⟩, h3⟩ := h
    simp [ruleOk, fitsOk, ruleRest, h4, h1, h2, h3, emp_nil]
  · rw [if_neg h]
    refine ⟨rfl, rfl, fun ts => ?_⟩
    by_cases h4 : r.kind = 4
    · have hr : ruleRest l r = false := by
        simp only [h4, beq_self_eq_true, Bool.true_and, Bool.and_eq_true, not_and, Bool.not_eq_true] at h
        cases h1 : nameB r.schema <;> cases h2 : nameB r.table <;> cases h3 : nameB r.key <;> simp_all [ruleRest]
      simp [ruleOk, fitsOk, hr]
    · have e : (r.kind == 4) = false := by simpa using h4
      simp [ruleOk, e]
theorem rises_map {α : Type} (c : α → α → Int) (f : α → α) (hc : ∀ x y, c (f x) (f y) = c x y) : ∀ l : List α, risesB c (l.map f) = risesB c l
  | [] => rfl
  | [_] => rfl
  | x :: y :: l => by
    have := rises_map c f hc (y :: l)
    simp only [List.map_cons] at this ⊢
    rw [risesB, risesB, hc, this]
theorem schAt_one : schAt [⟨⟨#[115]⟩, ⟨#[111]⟩⟩] ⟨#[115]⟩ = 0 := by decide +kernel
theorem name_s : nameB ⟨#[115]⟩ = true := by decide +kernel
theorem name_t : nameB ⟨#[116]⟩ = true := by decide +kernel
theorem name_o : nameB ⟨#[111]⟩ = true := by decide +kernel
theorem alone_ok (t : Tab) : checkO (aloneO t) = tableOk t := by
  have h1 : (t.rules.map bareR).all (ruleOk (aloneO t).tables t.cols) = t.rules.all (fitsOk t.cols) := by
    rw [List.all_map]
    congr 1
    funext r
    exact (fits_bare t.cols r).2.2 _
  have h2 : risesB (fun a b : Rul => cmpS a.name b.name) (t.rules.map bareR) = risesB (fun a b => cmpS a.name b.name) t.rules :=
    rises_map _ _ (fun x y => by rw [(fits_bare t.cols x).2.1, (fits_bare t.cols y).2.1]) _
  have h3 : rightT (aloneO t) ⟨⟨#[115]⟩, ⟨#[116]⟩, ⟨#[111]⟩, t.cols, t.rules.map bareR⟩ = tableOk t := by
    unfold rightT tableOk
    simp only [h1, h2, name_t, name_o, Bool.true_and, List.length_map]
    rw [show schAt (aloneO t).schemas ⟨#[115]⟩ = 0 from schAt_one]
    simp
  have h4 : within (aloneO t).tables ⟨#[115]⟩ ≤ 8 := Nat.le_trans (within_le _ _) (by simp [aloneO])
  have h5 : schOk (aloneO t) ⟨⟨#[115]⟩, ⟨#[111]⟩⟩ = true := by unfold schOk; simp [name_s, name_o, h4]
  unfold checkO headOk
  have e1 : (aloneO t).schemas.all (schOk (aloneO t)) = true := by show List.all [_] _ = true; simp [h5]
  have e2 : (aloneO t).tables.all (rightT (aloneO t)) = tableOk t := by show List.all [_] _ = _; simp [h3]
  rw [e1, e2]
  simp [aloneO, risesB]
end Go.Proofs.Ytiadkchlkdaceaa

namespace Go.Proofs.Ytiadkchlkdaceaa
open Go.ChangeShapes Go.WideShapes Go.ChangeAt Go.RowKit

section
variable {H : Type} {enc : TypeId × Value → H} {P : Program} {w : World}

/-- an argument that reads -/
def RdV (enc : TypeId × Value → H) (P : Program) (w : World) (t : TypeId) (v : Value) : Prop :=
  Rd enc P w t v.cells.toList ∧ ∃ base, Value.okWide P w .any base t v

theorem RdV.struct {t : TypeId} {fs : Array Field} {v : Value} (ht : P.underlying t = some (.struct fs)) (h : RdV enc P w t v) : ∃ cs : List Value, v = .agg cs.toArray ∧ Rd enc P w t cs := by
  obtain ⟨h1, base, h2⟩ := h
  obtain ⟨cs, rfl, _⟩ := okWide_struct ht h2
  exact ⟨cs.toList, by simp, h1⟩
theorem cell_of_cells {v x : Value} (h : v.cells.toList = [x]) (hn : ∀ cs, v ≠ .agg cs) : v = x := by
  cases v <;> simp [Value.cells] at h <;> first | exact h | exact absurd rfl (hn _)
theorem okWide_not_agg {t : TypeId} {v : Value} {base : Nat} {d : TypeDesc} (ht : P.underlying t = some d) (hd : (∀ fs, d ≠ .struct fs) ∧ (∀ n e, d ≠ .array n e)) (h : Value.okWide P w .any base t v) : ∀ cs, v ≠ .agg cs := by
  intro cs e
  subst e
  unfold Value.okWide at h
  rw [ht] at h
  cases d <;> simp_all [Cell.okWide, Cell.ok]
theorem RdV.string {t : TypeId} {v : Value} (ht : P.underlying t = some .string) (h : RdV enc P w t v) : ∃ s : ByteArray, v = .string s ∧ Small s.size := by
  obtain ⟨h1, base, h2⟩ := h
  obtain ⟨s, hc, hs⟩ := h1.string ht
  exact ⟨s, cell_of_cells hc (okWide_not_agg ht (by simp) h2), hs⟩
theorem RdV.int {t : TypeId} {k : IntKind} {v : Value} (ht : P.underlying t = some (.int k)) (h : RdV enc P w t v) : ∃ n : Int, v = .int k n ∧ (Lit.int k n).wf = true := by
  obtain ⟨h1, base, h2⟩ := h
  obtain ⟨s, hc, hs⟩ := h1.int ht
  exact ⟨s, cell_of_cells hc (okWide_not_agg ht (by simp) h2), hs⟩
theorem RdV.slice {t e : TypeId} {v : Value} (ht : P.underlying t = some (.slice e)) (h : RdV enc P w t v) : Rd enc P w t [v] := by
  obtain ⟨h1, base, h2⟩ := h
  have hn := okWide_not_agg ht (by simp) h2
  have : v.cells.toList = [v] := by cases v <;> first | rfl | exact absurd rfl (hn _)
  rwa [this] at h1

theorem trodAll_rd : ∀ {ts : List TypeId} {vs : List Value} {ds : List (DataW H)} {p : List MemPlace}, DataW.TrodAll enc P w 0 (fun _ => true) true ts vs ds p → (∀ n ∈ DataW.weightsEach P ts ds, n ≤ 140737488351232) →
    vs.length = ts.length ∧ ds.length = ts.length ∧ ∀ (j : Nat) (t : TypeId) (v : Value), ts[j]? = some t → vs[j]? = some v → Rd enc P w t v.cells.toList
  | [], vs, ds, p, h, _ => by
    cases vs <;> cases ds <;> simp [DataW.TrodAll] at h
    exact ⟨rfl, rfl, fun j t v ht => by simp at ht⟩
  | t :: ts, vs, ds, p, h, hw => by
    obtain ⟨v, vs', d, ds', p1, q1, rfl, rfl, rfl, ⟨fuel, h1⟩, h2⟩ := trodAll_cons h
    simp only [DataW.weightsEach, List.mem_append] at hw
    obtain ⟨l1, l2, ih⟩ := trodAll_rd h2 (fun n hn => hw n (.inr hn))
    refine ⟨by simp [l1], by simp [l2], fun j t' v' ht hv => ?_⟩
    cases j with
    | zero =>
      simp at ht hv
      subst ht; subst hv
      exact ⟨fuel, _, h1, fun n hn => hw n (.inl hn)⟩
    | succ j => exact ih j t' v' (by simpa using ht) (by simpa using hv)
theorem trodAll_below {W W' : World} (hl : laidOutB P = true) (hb : Below W.heap.size W W') : ∀ {ts : List TypeId} {vs : List Value} {ds : List (DataW H)} {p : List MemPlace}, (∀ t ∈ ts, P.readableRec t = true ∧ t < P.types.size) →
    DataW.TrodAll enc P W 0 (fun _ => true) true ts vs ds p → DataW.TrodAll enc P W' 0 (fun b => decide (b < W.heap.size)) true ts vs ds p
  | [], vs, ds, p, _, h => by
    cases vs <;> cases ds <;> simp [DataW.TrodAll] at h ⊢
    exact h
  | t :: ts, vs, ds, p, ht, h => by
    obtain ⟨v, vs', d, ds', p1, q1, rfl, rfl, rfl, h1, h2⟩ := trodAll_cons h
    have lt0 : ∀ x ∈ p1, x.block < W.heap.size := by obtain ⟨m, hm⟩ := h1; exact DataW.trod_lt m _ _ _ hm
    exact trodAll_cons_mk (Below.trod hl (ht t (by simp)).1 (ht t (by simp)).2 h1 hb lt0) (trodAll_below hl hb (fun x hx => ht x (by simp [hx])) h2)
end

theorem law_lifted {C : Checked} {os : Os} {f : FuncId} {fn : Func} {s : ChangeSpec} {tb : TypeId} (H : Type) (enc : TypeId × Value → H)
    (own : ownKnob C.prog.godebug = none) (started : os.Started) (noInit : C.prog.inits.idxOf? f = none) (hfn : C.prog.funcs[f]? = some fn)
    (witness : ∃ (w : World) (tape : Tape) (i : Input), w.os = os ∧ (w.forCall tape i).Shaped C.prog ∧ i.vars = [] ∧ Input.okWide C.prog (w.forCall tape i) .any w.heap.size f i ∧
      s.pre6 enc C.prog fn [] false (w.forCall tape i).memory i.args ∧ ({} : Assume).holds C.prog (lone (Frame.enter C.prog f i.args .normal) [] (w.forCall tape i)))
    (hvars : s.vars = []) (hres : fn.resultTypes = #[tb]) (htb : C.prog.underlying tb = some .bool)
    (hspec : ∀ ds : List (DataW H), ds.length = fn.params.size → s.fn H ds = { results := [.lit (.bool true)], args := ds })
    (laid : laidOutB C.prog = true) (hty : ∀ t ∈ fn.params.toList, C.prog.readableRec t = true ∧ t < C.prog.types.size)
    (walk : ∀ (W : World) (vs : List Value), vs.length = fn.params.size → (∀ (j : Nat) (t : TypeId) (v : Value), fn.params[j]? = some t → vs[j]? = some v → RdV enc C.prog W t v) → Calls C.prog f vs.toArray W fun e w' => e = .returned (.bool true) ∧ Aft W w') :
    ReturnsInHanded {} C os f .any (s.pre6 enc C.prog fn [] false) (s.post enc C.prog fn false true false false) := by
  refine returnsInHanded_of_change_sized own started noInit hfn witness ?_
  intro W base args ds gs before hval hW _ hsz _
  have hW' := hW
  obtain ⟨p, q, hA, hV, rfl, _, _⟩ := hW
  rw [hvars] at hV
  obtain ⟨rfl, rfl⟩ := trodVars_none hV
  have hw : ∀ n ∈ DataW.weightsEach C.prog fn.params.toList ds, n ≤ 140737488351232 := by
    have e : s.plain.varTypes C.prog = [] := by
      simp [ChangeSpec.plain, hvars, DataSpec.varTypes]
    rw [e, List.append_nil, List.append_nil] at hsz
    intro n hn
    have := List.all_eq_true.1 hsz n hn
    have h2 : n ≤ reachBytes := by simpa using this
    exact h2
  obtain ⟨l1, l2, hrd⟩ := trodAll_rd hA hw
  have hlen : args.toList.length = fn.params.size := by simpa using l1
  refine ((walk W args.toList hlen fun j t v ht hv => ⟨hrd j t v (by simpa using ht) hv, base, hval j t v ht (by simpa using hv)⟩)).mono fun e W' ⟨he, haft⟩ => ?_
  subst he
  have hs := hspec ds (by simpa using l2)
  refine ⟨_, rfl, ds, [], p ++ [], [], p, [], hW', ?_, ?_, ?_, ?_, fun h => by cases h⟩
  · rw [List.append_nil, hs, hres]
    exact trodAll_mk1 (shut_bool htb _)
  · rw [List.append_nil, hs]
    exact trodAll_below laid haft hty hA
  · rw [List.append_nil, hs, hvars]
    rfl
  · exact haft.frame _
end Go.Proofs.Ytiadkchlkdaceaa

namespace Go.Proofs.Ytiadkchlkdaceaa
open Go.RowKit
set_option maxRecDepth 100000
set_option linter.unusedVariables false
structure Val where
  kind : Int
  int : Int
  text : ByteArray
def ValR (_ : World) (cs : List Value) (v : Val) : Prop := cs = [.int .i64 v.kind, .int .i64 v.int, .string v.text] ∧ Small v.text.size
theorem vals_aft {w w' : World} {A : Option Addr} {cap : Nat} {l : List Val} (hw : Aft w w') (h : SlAt w 3 ValR A cap l) : SlAt w' 3 ValR A cap l := h.aft hw fun _ _ h => h
theorem val_at {w : World} {A : Option Addr} {cap : Nat} {l : List Val} (h : SlAt w 3 ValR A cap l) {k : Nat} (hk : k < l.length) :
    ∃ b off, A = some ⟨b, off, none⟩ ∧ b < w.heap.size ∧ w.cell? ⟨b, off + k * 3, none⟩ = some (.int .i64 l[k].kind) ∧ w.cell? ⟨b, off + k * 3 + 1, none⟩ = some (.int .i64 l[k].int) ∧ w.cell? ⟨b, off + k * 3 + 2, none⟩ = some (.string l[k].text) ∧ Small l[k].text.size := by
  obtain ⟨b, off, cs, hA, hb, hl, ⟨rfl, hs⟩, hc⟩ := h.2.2 k hk
  exact ⟨b, off, hA, hb, by simpa using hc 0 (by omega), by simpa [Nat.add_assoc] using hc 1 (by omega), by simpa [Nat.add_assoc] using hc 2 (by omega), hs⟩
def eqV3 (k n : Int) (s : ByteArray) (k' n' : Int) (s' : ByteArray) : Bool := k == k' && (n == n' && eqS s s')
def eqV (a b : Val) : Bool := eqV3 a.kind a.int a.text b.kind b.int b.text
theorem run_eqVal (w : World) (k n : Int) (s : ByteArray) (k' n' : Int) (s' : ByteArray) :
    (Op.equalIn 10000 44 (.agg #[.int .i64 k, .int .i64 n, .string s]) (.agg #[.int .i64 k', .int .i64 n', .string s'])).run Try.prog w = .ok (eqV3 k n s k' n' s') w := by
  cases h1 : (k == k') <;> cases h2 : (n == n') <;> cases h3 : eqS s s' <;> (have h3' := h3; unfold eqS at h3') <;> go_simp <;> simp_all [eqV3]
@[go_sem ↓] theorem run_eqlVal (w : World) (k n : Int) (s : ByteArray) (k' n' : Int) (s' : ByteArray) :
    (binOp .eql 44 (.agg #[.int .i64 k, .int .i64 n, .string s]) (.agg #[.int .i64 k', .int .i64 n', .string s'])).run Try.prog w = .ok (.bool (eqV3 k n s k' n' s')) w := by
  rw [run_eql_struct, run_eqVal]; rfl
@[go_sem ↓] theorem run_neqVal (w : World) (k n : Int) (s : ByteArray) (k' n' : Int) (s' : ByteArray) :
    (binOp .neq 44 (.agg #[.int .i64 k, .int .i64 n, .string s]) (.agg #[.int .i64 k', .int .i64 n', .string s'])).run Try.prog w = .ok (.bool (!eqV3 k n s k' n' s')) w := by
  rw [run_neq_struct, run_eqVal]; rfl
/-- the same values -/
def eqVs : List Val → List Val → Bool
  | [], [] => true
  | a :: l, b :: m => eqV a b && eqVs l m
  | _, _ => false
theorem eqV_iff (a b : Val) : eqV a b = true ↔ a.kind = b.kind ∧ a.int = b.int ∧ eqS a.text b.text = true := by simp [eqV, eqV3]
theorem eqVs_len : ∀ (l m : List Val), ¬ l.length = m.length → eqVs l m = false
  | [], [], h => absurd rfl h
  | [], _ :: _, _ => rfl
  | _ :: _, [], _ => rfl
  | a :: l, b :: m, h => by rw [eqVs, eqVs_len l m (by simpa using h), Bool.and_false]
theorem eqVs_false : ∀ (l m : List Val) (k : Nat) (h1 : k < l.length) (h2 : k < m.length), eqV l[k] m[k] = false → eqVs l m = false
  | [], _, _, h, _, _ => by simp at h
  | _ :: _, [], _, _, h, _ => by simp at h
  | a :: l, b :: m, 0, _, _, h => by rw [eqVs, show eqV a b = false from h]; rfl
  | a :: l, b :: m, k + 1, h1, h2, h => by rw [eqVs, eqVs_false l m k (by simpa using h1) (by simpa using h2) h, Bool.and_false]
theorem eqVs_true : ∀ (l m : List Val), l.length = m.length → (∀ k (h1 : k < l.length) (h2 : k < m.length), eqV l[k] m[k] = true) → eqVs l m = true
  | [], [], _, _ => rfl
  | [], _ :: _, h, _ => by simp at h
  | _ :: _, [], h, _ => by simp at h
  | a :: l, b :: m, h, hp => by
    rw [eqVs, show eqV a b = true from hp 0 (by simp) (by simp), eqVs_true l m (by simpa using h) fun k h1 h2 => hp (k + 1) (Nat.succ_lt_succ h1) (Nat.succ_lt_succ h2)]; rfl
set_option maxHeartbeats 1000000 in
theorem eqVal_any (A : Option Addr) (cap : Nat) (l : List Val) (A2 : Option Addr) (cap2 : Nat) (l2 : List Val) (w : World) (h : SlAt w 3 ValR A cap l) (h2 : SlAt w 3 ValR A2 cap2 l2) :
    Calls Try.prog 92 #[.slice A l.length cap, .slice A2 l2.length cap2] w fun e w' => e = .returned (.bool (eqVs l l2)) ∧ Aft w w' := by
  have hlen := h.len
  have hlen2 := h2.len
  by_cases hl : l.length = l2.length
  · have e1 : ((l.length : Int) != (l2.length : Int)) = false := by simp [hl]
    go_enter Try.func92, Try.ntmps92
    go_wp2_with fail
    go_loopw [13] (fun i wr => ∃ k : Nat, k ≤ l.length ∧ i = .int .i64 k ∧ Aft w wr ∧ ∀ j, j < k → ∀ (hj : j < l.length) (hj2 : j < l2.length), eqV l[j] l2[j] = true) (fun i _ => l.length - (intOf i).toNat)
    case atStart => exact ⟨0, Nat.zero_le _, rfl, Aft.refl _, fun j hj => absurd hj (Nat.not_lt_zero j)⟩
    case round =>
      obtain ⟨k, hk, rfl, ha, hp⟩ := hrel
      have HA := Lib.hid ha
      have HP := Lib.hid hp; clear hp
      by_cases hlt : k < l.length
      · have hlt2 : k < l2.length := by omega
        obtain ⟨b, off, rfl, hb, c0, c1, c2, _⟩ := val_at (vals_aft ha h) hlt
        obtain ⟨b2, off2, rfl, hb2, d0, d1, d2, _⟩ := val_at (vals_aft ha h2) hlt2
        clear ha
        cases heq : eqV l[k] l2[k]
        · have h3 : eqV3 l[k].kind l[k].int l[k].text l2[k].kind l2[k].int l2[k].text = false := heq
          have HN := Lib.hid (eqVs_false l l2 k hlt hlt2 heq)
          clear heq
          go_wp2_with fail
          refine wp_region_lat (by kernel_rfl) (by kernel_rfl) ?_
          repeat (go_big_quiet_step (fail))
          refine wpQuiet_nil ?_
          intro _ hw'
          obtain ⟨x, hw''⟩ := hw'
          subst hw''
          go_wp2_with fail
          go_ret
          exact ⟨by rw [HN.out]; rfl, HA.out.lat x⟩
        · have h3 : eqV3 l[k].kind l[k].int l[k].text l2[k].kind l2[k].int l2[k].text = true := heq
          have HN := Lib.hid (ext_lt (p := fun j => ∀ (hj : j < l.length) (hj2 : j < l2.length), eqV l[j] l2[j] = true) HP.out (fun _ _ => heq))
          clear heq
          go_wp2_with fail
          refine wp_region_lat (by kernel_rfl) (by kernel_rfl) ?_
          repeat (go_big_quiet_step (fail))
          refine wpQuiet_nil ?_
          intro _ hw'
          obtain ⟨x, hw''⟩ := hw'
          subst hw''
          go_wp2_with fail
          go_roundw
          case rel => exact ⟨k + 1, by omega, by go_num, HA.out.lat x, HN.out⟩
          case measure => simp [intOf]; omega
      · have HN := Lib.hid (eqVs_true l l2 hl fun j hj hj2 => HP.out j (by omega) hj hj2)
        clear ha
        go_wp2_with fail
        go_ret
        exact ⟨by rw [HN.out]; rfl, HA.out⟩
  · have e1 : ((l.length : Int) != (l2.length : Int)) = true := by simp; omega
    have HN := Lib.hid (eqVs_len l l2 hl)
    go_enter Try.func92, Try.ntmps92
    go_wp2_with fail
    go_ret
    exact ⟨by rw [HN.out]; rfl, Aft.refl _⟩
/-- may a value be? -/
def mayV (v : Val) : Bool := if v.kind == 1 then v.int == 0 && emp v.text else if v.kind == 2 then emp v.text else if v.kind == 3 then v.int == 0 && decide ((v.text.size : Int) ≤ 32) else false
theorem emp_size (s : ByteArray) : emp s = decide (s.size = 0) := isEmpty_iff s
theorem eqS_nil (s : ByteArray) : eqS s ⟨#[]⟩ = emp s := by
  have e : (⟨#[]⟩ : ByteArray).toList = [] := by decide +kernel
  rw [Bool.eq_iff_iff]; unfold eqS emp; rw [e]; simp
set_option maxHeartbeats 2000000 in
theorem may_any (v : Val) (w : World) (hs : Small v.text.size) :
    Calls Try.prog 41 #[.agg #[.int .i64 v.kind, .int .i64 v.int, .string v.text]] w fun e w' => e = .returned (.bool (mayV v)) ∧ Aft w w' := by
  have l1 : w.heap.size < w.heap.size + 1 := by omega
  have l2 : w.heap.size < w.heap.size + 1 + 1 := by omega
  have hm := hs.le
  obtain ⟨kind, int, text⟩ := v
  simp only at hs hm ⊢
  by_cases k2 : kind = 2
  · subst k2
    cases hE : emp text
    · have q : eqV3 2 int text 2 int ⟨#[]⟩ = false := by simp [eqV3, eqS_nil, hE]
      have HF := Lib.hid (show mayV ⟨2, int, text⟩ = false by simp [mayV, hE])
      go_enter Try.func41, Try.ntmps41
      go_wp2_with fail
      go_ret
      exact ⟨by rw [HF.out]; rfl, ((Aft.refl _).alloc _).alloc _⟩
    · have q : eqV3 2 int text 2 int ⟨#[]⟩ = true := by simp [eqV3, eqS_nil, hE]
      have z : text.size = 0 := by rw [emp_size] at hE; exact of_decide_eq_true hE
      have z' : (text.size : Int) ≤ 32 := by omega
      have HF := Lib.hid (show mayV ⟨2, int, text⟩ = true by simp [mayV, hE])
      go_enter Try.func41, Try.ntmps41
      go_wp2_with fail
      go_ret
      exact ⟨by rw [HF.out]; simp, ((Aft.refl _).alloc _).alloc _⟩
  by_cases k3 : kind = 3
  · subst k3
    by_cases hi : int = 0
    · subst hi
      have q : eqV3 3 0 text 3 0 text = true := by simp [eqV3, eqS]
      have HF := Lib.hid (show mayV ⟨3, 0, text⟩ = decide ((text.size : Int) ≤ 32) by simp [mayV])
      go_enter Try.func41, Try.ntmps41
      go_wp2_with fail
      go_ret
      exact ⟨by rw [HF.out]; rfl, ((Aft.refl _).alloc _).alloc _⟩
    · have q : eqV3 3 int text 3 0 text = false := by simp [eqV3, hi]
      have HF := Lib.hid (show mayV ⟨3, int, text⟩ = false by simp [mayV, hi])
      go_enter Try.func41, Try.ntmps41
      go_wp2_with fail
      go_ret
      exact ⟨by rw [HF.out]; rfl, ((Aft.refl _).alloc _).alloc _⟩
  by_cases k1 : kind = 1
  · subst k1
    cases hE : (int == 0 && emp text)
    · have q : eqV3 1 int text 1 0 ⟨#[]⟩ = false := by simpa [eqV3, eqS_nil] using hE
      have HF := Lib.hid (show mayV ⟨1, int, text⟩ = false by simpa [mayV] using hE)
      go_enter Try.func41, Try.ntmps41
      go_wp2_with fail
      go_ret
      exact ⟨by rw [HF.out]; rfl, ((Aft.refl _).alloc _).alloc _⟩
    · have q : eqV3 1 int text 1 0 ⟨#[]⟩ = true := by simpa [eqV3, eqS_nil] using hE
      have z : text.size = 0 := by simp only [Bool.and_eq_true] at hE; have := hE.2; rw [emp_size] at this; exact of_decide_eq_true this
      have z' : (text.size : Int) ≤ 32 := by omega
      have HF := Lib.hid (show mayV ⟨1, int, text⟩ = true by simpa [mayV] using hE)
      go_enter Try.func41, Try.ntmps41
      go_wp2_with fail
      go_ret
      exact ⟨by rw [HF.out]; simp, ((Aft.refl _).alloc _).alloc _⟩
  have q1 : (kind == 1) = false := by simpa using k1
  have q2 : (kind == 2) = false := by simpa using k2
  have q3 : (kind == 3) = false := by simpa using k3
  have HF := Lib.hid (show mayV ⟨kind, int, text⟩ = false by simp [mayV, k1, k2, k3])
  go_enter Try.func41, Try.ntmps41
  go_wp2_with fail
  go_ret
  exact ⟨by rw [HF.out]; rfl, ((Aft.refl _).alloc _).alloc _⟩
end Go.Proofs.Ytiadkchlkdaceaa

