/- Contracts of the program, part 5. -/
import Derived.IntWalk
import Derived.ProofKit
import Derived.OpenShut
import Derived.Deep.Slices
import Derived.ChangeOld
import Derived.SizedLaws
import Derived.WalkKit
import Derived.WalkSpells
import Derived.WalkLawsBesides
import Derived.Lib.Hide
import Derived.Deep.QuietTactic
import Derived.BigQuiet
import Derived.Below
import Derived.Deep.Draws
import Derived.StillTailTactics
import Derived.Laws.Cells
import Derived.Laws.IdiomCopy
import Derived.Test.YtgkhmnamkfgciaaGreatRows
import Derived.Lib.Bytealg
import Derived.Deep.AppendLies
import Derived.Laws.EntriesVeiled
import Derived.Maps.Own
import Derived.Maps.Views
import Derived.Deep.Upon
import Derived.OneCell
import Derived.OwnWalk
import Derived.Laws.AppendOwn
import Derived.OrdersHeld
import Derived.Deep.RegionHeld3
import Derived.Lib.SliceRun
import Derived.Lib.Walk
import Derived.Test.YtgkhmnamkfgciaaGreatPartM1
import Derived.Test.YtgkhmnamkfgciaaGreatPartM2
import Derived.Test.YtgkhmnamkfgciaaGreatPartM3
import Derived.Test.YtgkhmnamkfgciaaGreatPartM4
namespace Go.Proofs.YtgkhmnamkfgciaaGreat
open Go.RowKit
set_option maxRecDepth 100000
set_option linter.unusedVariables false
/-- does a row rise? -/
def risesB {α : Type} (c : α → α → Int) : List α → Bool
  | [] => true
  | [_] => true
  | x :: y :: l => decide (c x y < 0) && risesB c (y :: l)
theorem risesB_iff {α : Type} (c : α → α → Int) (l : List α) : risesB c l = true ↔ ∀ k (h : k + 1 < l.length), c (l[k]'(by omega)) l[k + 1] < 0 := by
  induction l with
  | nil => simp [risesB]
  | cons x l ih =>
    cases l with
    | nil => simp [risesB]
    | cons y l =>
      rw [risesB, Bool.and_eq_true, ih, decide_eq_true_eq]
      constructor
      · rintro ⟨h1, h2⟩ k hk
        cases k with
        | zero => exact h1
        | succ k => exact h2 k (by simpa using hk)
      · intro h
        exact ⟨h 0 (by simp), fun k hk => h (k + 1) (by simpa using hk)⟩
theorem risesB_false {α : Type} (c : α → α → Int) (l : List α) (k : Nat) (h : k + 1 < l.length) (hc : 0 ≤ c (l[k]'(by omega)) l[k + 1]) : risesB c l = false := by
  rw [Bool.eq_false_iff]
  intro hr
  have := (risesB_iff c l).1 hr k h
  omega
set_option maxHeartbeats 1000000 in
theorem risesSch (A : Option Addr) (cap : Nat) (l : List Sch) (g : FuncId) (caps : Array Value) (c : Sch → Sch → Int) (w : World) (h : SlAt w 2 SchR A cap l) (hent : ∀ (args : Array Value) (w : World), (callFunc g args).run Tryz.prog w = .ok (.enter g args) w)
    (hp : ∀ w', Aft w w' → ∀ i (hi : i + 1 < l.length), Calls Tryz.prog g (#[.agg #[.string (l[i]'(by omega)).name, .string (l[i]'(by omega)).owner], .agg #[.string l[i + 1].name, .string l[i + 1].owner]] ++ caps) w' fun e w'' => e = .returned (.int .i64 (c (l[i]'(by omega)) l[i + 1])) ∧ Aft w' w'') :
    Calls Tryz.prog 142 #[.slice A l.length cap, .func (.func g) #[] caps] w fun e w' => e = .returned (.bool (risesB c l)) ∧ Aft w w' := by
  have hlen := h.len
  have HC := Lib.hid hp
  clear hp
  by_cases h2 : l.length ≤ 1
  · have HT := Lib.hid (show risesB c l = true from (risesB_iff c l).2 fun k hk => by omega)
    have hi2 : (l.length : Int) ≤ 1 := by omega
    go_enter Tryz.func142, Tryz.ntmps142
    go_wp2_with fail
    all_goals
      go_loop [10] (fun i => i = .int .i64 0) (fun i => 2 - (intOf i).toNat)
      case atStart => rfl
      case round =>
        subst hrel
        go_wp2_with fail
        go_ret
        exact ⟨by rw [HT.out]; rfl, Aft.refl _⟩
  · have hge : 2 ≤ l.length := by omega
    have hi2 : ¬ (l.length : Int) ≤ 1 := by omega
    have hi3 : (0 : Int) ≤ (l.length : Int) - 1 := by omega
    go_enter Tryz.func142, Tryz.ntmps142
    go_wp2_with fail
    go_loopw [10] (fun i wr => ∃ k : Nat, k ≤ l.length - 1 ∧ i = .int .i64 k ∧ Aft w wr ∧ ∀ j, j < k → ∀ (hj : j + 1 < l.length), c (l[j]'(by omega)) l[j + 1] < 0) (fun i _ => l.length - (intOf i).toNat)
    case atStart => exact ⟨0, Nat.zero_le _, rfl, Aft.refl _, fun j hj => absurd hj (Nat.not_lt_zero j)⟩
    case round =>
      obtain ⟨k, hk, rfl, ha, hp⟩ := hrel
      have HA := Lib.hid ha
      have HP := Lib.hid hp; clear hp
      by_cases hlt : k + 1 < l.length
      · have hsl := schs_aft ha h
        have hk1 : k < l.length := by omega
        obtain ⟨b, off, rfl, hb, c0, c1, hs, hs2⟩ := sch_at hsl hk1
        obtain ⟨b', off', hA', hb', d0, d1, hs', hs2'⟩ := sch_at hsl hlt
        simp only [Option.some.injEq, Addr.mk.injEq, and_true] at hA'
        obtain ⟨rfl, rfl⟩ := hA'
        obtain ⟨r, hr⟩ : ∃ r, c (l[k]'(by omega)) l[k + 1] = r := ⟨_, rfl⟩
        have Cc := Lib.hid (show ∀ x : Lat wr, _ from fun x => hr ▸ HC.out (lat wr x) (HA.out.lat x) k hlt)
        have HR := Lib.hid hr
        clear ha hsl hr
        have w1 : IntKind.i64.wrap ((k : Int) + 1) = (k : Int) + 1 := IntWalk.i64_in _ (by omega)
        have w2 : (0 : Int) ≤ (k : Int) + 1 := by omega
        have w3 : ((k : Int) + 1).toNat = k + 1 := by omega
        have w4 : (k : Int) + 1 < (l.length : Int) := by omega
        by_cases hr0 : 0 ≤ r
        · skip
          go_wp2_with fail
          refine wp_region_lat (by kernel_rfl) (by kernel_rfl) ?_
          repeat (go_big_quiet_step ((exact Calls.lat_of (Cc.out _))))
          refine wpQuiet_nil ?_
          intro _ hw'
          obtain ⟨x, hw''⟩ := hw'
          subst hw''
          clear w1 w2 w3 w4
          go_wp2_with fail
          go_ret
          exact ⟨by rw [risesB_false c l k hlt (by rw [HR.out]; exact hr0)]; rfl, HA.out.lat x⟩
        · have hr1 : r < 0 := by omega
          go_wp2_with fail
          refine wp_region_lat (by kernel_rfl) (by kernel_rfl) ?_
          repeat (go_big_quiet_step ((exact Calls.lat_of (Cc.out _))))
          refine wpQuiet_nil ?_
          intro _ hw'
          obtain ⟨x, hw''⟩ := hw'
          subst hw''
          clear w1 w2 w3 w4
          go_wp2_with fail
          go_roundw
          case rel => exact ⟨k + 1, by omega, by go_num, HA.out.lat x, ext_lt (p := fun j => ∀ (hj : j + 1 < l.length), c (l[j]'(by omega)) l[j + 1] < 0) HP.out (fun _ => by rw [HR.out]; exact hr1)⟩
          case measure => simp [intOf]; omega
      · have HT := Lib.hid (show risesB c l = true from (risesB_iff c l).2 fun j hj => HP.out j (by omega) hj)
        have hge2 : ¬ (k : Int) < (l.length : Int) - 1 := by omega
        clear ha
        go_wp2_with fail
        go_ret
        exact ⟨by rw [HT.out]; rfl, HA.out⟩
set_option maxHeartbeats 1000000 in
theorem risesRul (A : Option Addr) (cap : Nat) (l : List Rul) (g : FuncId) (caps : Array Value) (c : Rul → Rul → Int) (w : World) (h : SlAt w 8 RulR A cap l) (hent : ∀ (args : Array Value) (w : World), (callFunc g args).run Tryz.prog w = .ok (.enter g args) w)
    (hp : ∀ w', Aft w w' → ∀ i (hi : i + 1 < l.length) (e1 e2 : List Value), RulR w' e1 (l[i]'(by omega)) → RulR w' e2 l[i + 1] → Calls Tryz.prog g (#[.agg e1.toArray, .agg e2.toArray] ++ caps) w' fun e w'' => e = .returned (.int .i64 (c (l[i]'(by omega)) l[i + 1])) ∧ Aft w' w'') :
    Calls Tryz.prog 215 #[.slice A l.length cap, .func (.func g) #[] caps] w fun e w' => e = .returned (.bool (risesB c l)) ∧ Aft w w' := by
  have hlen := h.len
  have HC := Lib.hid hp
  clear hp
  by_cases h2 : l.length ≤ 1
  · have HT := Lib.hid (show risesB c l = true from (risesB_iff c l).2 fun k hk => by omega)
    have hi2 : (l.length : Int) ≤ 1 := by omega
    go_enter Tryz.func215, Tryz.ntmps215
    go_wp2_with fail
    all_goals
      go_loop [10] (fun i => i = .int .i64 0) (fun i => 2 - (intOf i).toNat)
      case atStart => rfl
      case round =>
        subst hrel
        go_wp2_with fail
        go_ret
        exact ⟨by rw [HT.out]; rfl, Aft.refl _⟩
  · have hge : 2 ≤ l.length := by omega
    have hi2 : ¬ (l.length : Int) ≤ 1 := by omega
    have hi3 : (0 : Int) ≤ (l.length : Int) - 1 := by omega
    go_enter Tryz.func215, Tryz.ntmps215
    go_wp2_with fail
    go_loopw [10] (fun i wr => ∃ k : Nat, k ≤ l.length - 1 ∧ i = .int .i64 k ∧ Aft w wr ∧ ∀ j, j < k → ∀ (hj : j + 1 < l.length), c (l[j]'(by omega)) l[j + 1] < 0) (fun i _ => l.length - (intOf i).toNat)
    case atStart => exact ⟨0, Nat.zero_le _, rfl, Aft.refl _, fun j hj => absurd hj (Nat.not_lt_zero j)⟩
    case round =>
      obtain ⟨k, hk, rfl, ha, hp⟩ := hrel
      have HA := Lib.hid ha
      have HP := Lib.hid hp; clear hp
      by_cases hlt : k + 1 < l.length
      · have hsl := ruls_aft ha h
        have hk1 : k < l.length := by omega
        obtain ⟨b, off, A2, cap2, rfl, hb, c0, c1, c2, c3, c4, c5, c6, c7, hs⟩ := rul_at hsl hk1
        obtain ⟨b', off', A2', cap2', hA', hb', d0, d1, d2, d3, d4, d5, d6, d7, hs'⟩ := rul_at hsl hlt
        simp only [Option.some.injEq, Addr.mk.injEq, and_true] at hA'
        obtain ⟨rfl, rfl⟩ := hA'
        obtain ⟨r, hr⟩ : ∃ r, c (l[k]'(by omega)) l[k + 1] = r := ⟨_, rfl⟩
        have Cc := Lib.hid (show ∀ x : Lat wr, _ from fun x => hr ▸ HC.out (lat wr x) (HA.out.lat x) k hlt _ _ (RulR.aft ((Aft.refl wr).lat x) ⟨A2, cap2, rfl, hs⟩) (RulR.aft ((Aft.refl wr).lat x) ⟨A2', cap2', rfl, hs'⟩))
        have HR := Lib.hid hr
        clear ha hsl hr
        have w1 : IntKind.i64.wrap ((k : Int) + 1) = (k : Int) + 1 := IntWalk.i64_in _ (by omega)
        have w2 : (0 : Int) ≤ (k : Int) + 1 := by omega
        have w3 : ((k : Int) + 1).toNat = k + 1 := by omega
        have w4 : (k : Int) + 1 < (l.length : Int) := by omega
        by_cases hr0 : 0 ≤ r
        · skip
          go_wp2_with fail
          refine wp_region_lat (by kernel_rfl) (by kernel_rfl) ?_
          repeat (go_big_quiet_step ((exact Calls.lat_of (Cc.out _))))
          refine wpQuiet_nil ?_
          intro _ hw'
          obtain ⟨x, hw''⟩ := hw'
          subst hw''
          clear w1 w2 w3 w4
          go_wp2_with fail
          go_ret
          exact ⟨by rw [risesB_false c l k hlt (by rw [HR.out]; exact hr0)]; rfl, HA.out.lat x⟩
        · have hr1 : r < 0 := by omega
          go_wp2_with fail
          refine wp_region_lat (by kernel_rfl) (by kernel_rfl) ?_
          repeat (go_big_quiet_step ((exact Calls.lat_of (Cc.out _))))
          refine wpQuiet_nil ?_
          intro _ hw'
          obtain ⟨x, hw''⟩ := hw'
          subst hw''
          clear w1 w2 w3 w4
          go_wp2_with fail
          go_roundw
          case rel => exact ⟨k + 1, by omega, by go_num, HA.out.lat x, ext_lt (p := fun j => ∀ (hj : j + 1 < l.length), c (l[j]'(by omega)) l[j + 1] < 0) HP.out (fun _ => by rw [HR.out]; exact hr1)⟩
          case measure => simp [intOf]; omega
      · have HT := Lib.hid (show risesB c l = true from (risesB_iff c l).2 fun j hj => HP.out j (by omega) hj)
        have hge2 : ¬ (k : Int) < (l.length : Int) - 1 := by omega
        clear ha
        go_wp2_with fail
        go_ret
        exact ⟨by rw [HT.out]; rfl, HA.out⟩
set_option maxHeartbeats 1000000 in
theorem risesTab (A : Option Addr) (cap : Nat) (l : List Tab) (g : FuncId) (caps : Array Value) (c : Tab → Tab → Int) (w : World) (h : SlAt w 5 TabR A cap l) (hent : ∀ (args : Array Value) (w : World), (callFunc g args).run Tryz.prog w = .ok (.enter g args) w)
    (hp : ∀ w', Aft w w' → ∀ i (hi : i + 1 < l.length) (e1 e2 : List Value), TabR w' e1 (l[i]'(by omega)) → TabR w' e2 l[i + 1] → Calls Tryz.prog g (#[.agg e1.toArray, .agg e2.toArray] ++ caps) w' fun e w'' => e = .returned (.int .i64 (c (l[i]'(by omega)) l[i + 1])) ∧ Aft w' w'') :
    Calls Tryz.prog 140 #[.slice A l.length cap, .func (.func g) #[] caps] w fun e w' => e = .returned (.bool (risesB c l)) ∧ Aft w w' := by
  have hlen := h.len
  have HC := Lib.hid hp
  clear hp
  by_cases h2 : l.length ≤ 1
  · have HT := Lib.hid (show risesB c l = true from (risesB_iff c l).2 fun k hk => by omega)
    have hi2 : (l.length : Int) ≤ 1 := by omega
    go_enter Tryz.func140, Tryz.ntmps140
    go_wp2_with fail
    all_goals
      go_loop [10] (fun i => i = .int .i64 0) (fun i => 2 - (intOf i).toNat)
      case atStart => rfl
      case round =>
        subst hrel
        go_wp2_with fail
        go_ret
        exact ⟨by rw [HT.out]; rfl, Aft.refl _⟩
  · have hge : 2 ≤ l.length := by omega
    have hi2 : ¬ (l.length : Int) ≤ 1 := by omega
    have hi3 : (0 : Int) ≤ (l.length : Int) - 1 := by omega
    go_enter Tryz.func140, Tryz.ntmps140
    go_wp2_with fail
    go_loopw [10] (fun i wr => ∃ k : Nat, k ≤ l.length - 1 ∧ i = .int .i64 k ∧ Aft w wr ∧ ∀ j, j < k → ∀ (hj : j + 1 < l.length), c (l[j]'(by omega)) l[j + 1] < 0) (fun i _ => l.length - (intOf i).toNat)
    case atStart => exact ⟨0, Nat.zero_le _, rfl, Aft.refl _, fun j hj => absurd hj (Nat.not_lt_zero j)⟩
    case round =>
      obtain ⟨k, hk, rfl, ha, hp⟩ := hrel
      have HA := Lib.hid ha
      have HP := Lib.hid hp; clear hp
      by_cases hlt : k + 1 < l.length
      · have hsl := tabs_aft ha h
        have hk1 : k < l.length := by omega
        obtain ⟨b, off, A2, cap2, A3, cap3, rfl, hb, c0, c1, c2, c3, c4, hs⟩ := tab_at hsl hk1
        obtain ⟨b', off', A2', cap2', A3', cap3', hA', hb', d0, d1, d2, d3, d4, hs'⟩ := tab_at hsl hlt
        simp only [Option.some.injEq, Addr.mk.injEq, and_true] at hA'
        obtain ⟨rfl, rfl⟩ := hA'
        obtain ⟨r, hr⟩ : ∃ r, c (l[k]'(by omega)) l[k + 1] = r := ⟨_, rfl⟩
        have Cc := Lib.hid (show ∀ x : Lat wr, _ from fun x => hr ▸ HC.out (lat wr x) (HA.out.lat x) k hlt _ _ (TabR.aft ((Aft.refl wr).lat x) ⟨A2, cap2, A3, cap3, rfl, hs⟩) (TabR.aft ((Aft.refl wr).lat x) ⟨A2', cap2', A3', cap3', rfl, hs'⟩))
        have HR := Lib.hid hr
        clear ha hsl hr
        have w1 : IntKind.i64.wrap ((k : Int) + 1) = (k : Int) + 1 := IntWalk.i64_in _ (by omega)
        have w2 : (0 : Int) ≤ (k : Int) + 1 := by omega
        have w3 : ((k : Int) + 1).toNat = k + 1 := by omega
        have w4 : (k : Int) + 1 < (l.length : Int) := by omega
        by_cases hr0 : 0 ≤ r
        · skip
          go_wp2_with fail
          refine wp_region_lat (by kernel_rfl) (by kernel_rfl) ?_
          repeat (go_big_quiet_step ((exact Calls.lat_of (Cc.out _))))
          refine wpQuiet_nil ?_
          intro _ hw'
          obtain ⟨x, hw''⟩ := hw'
          subst hw''
          clear w1 w2 w3 w4
          go_wp2_with fail
          go_ret
          exact ⟨by rw [risesB_false c l k hlt (by rw [HR.out]; exact hr0)]; rfl, HA.out.lat x⟩
        · have hr1 : r < 0 := by omega
          go_wp2_with fail
          refine wp_region_lat (by kernel_rfl) (by kernel_rfl) ?_
          repeat (go_big_quiet_step ((exact Calls.lat_of (Cc.out _))))
          refine wpQuiet_nil ?_
          intro _ hw'
          obtain ⟨x, hw''⟩ := hw'
          subst hw''
          clear w1 w2 w3 w4
          go_wp2_with fail
          go_roundw
          case rel => exact ⟨k + 1, by omega, by go_num, HA.out.lat x, ext_lt (p := fun j => ∀ (hj : j + 1 < l.length), c (l[j]'(by omega)) l[j + 1] < 0) HP.out (fun _ => by rw [HR.out]; exact hr1)⟩
          case measure => simp [intOf]; omega
      · have HT := Lib.hid (show risesB c l = true from (risesB_iff c l).2 fun j hj => HP.out j (by omega) hj)
        have hge2 : ¬ (k : Int) < (l.length : Int) - 1 := by omega
        clear ha
        go_wp2_with fail
        go_ret
        exact ⟨by rw [HT.out]; rfl, HA.out⟩
end Go.Proofs.YtgkhmnamkfgciaaGreat

namespace Go.Proofs.YtgkhmnamkfgciaaGreat
open Go.RowKit
set_option maxRecDepth 100000
set_option linter.unusedVariables false
def Sorted {α : Type} (c : α → α → Int) (l : List α) : Prop := ∀ k (h : k + 1 < l.length), 0 ≤ c l[k + 1] (l[k]'(by omega))
def SortP {α : Type} (c : α → α → Int) (l : List α) (w : World) (e : Ending) (w' : World) : Prop := ∃ b : Bool, e = .returned (.bool b) ∧ (b = true ↔ Sorted c l) ∧ Aft w w'
set_option maxHeartbeats 2000000 in
theorem sortedS (A : Option Addr) (cap : Nat) (l : List ByteArray) (g : FuncId) (caps : Array Value) (c : ByteArray → ByteArray → Int) (w : World) (h : SlAt w 1 StrR A cap l) (hent : ∀ (args : Array Value) (w : World), (callFunc g args).run Tryz.prog w = .ok (.enter g args) w)
    (hp : ∀ w', Aft w w' → ∀ i (hi : i + 1 < l.length), Calls Tryz.prog g (#[.string l[i + 1], .string (l[i]'(by omega))] ++ caps) w' fun e w'' => e = .returned (.int .i64 (c l[i + 1] (l[i]'(by omega)))) ∧ Aft w' w'') :
    Calls Tryz.prog 288 #[.slice A l.length cap, .func (.func g) #[] caps] w (SortP c l w) := by
  have hlen := h.len
  have HC := Lib.hid hp
  clear hp
  by_cases h2 : l.length ≤ 1
  · have HT := Lib.hid (show Sorted c l from fun k hk => by omega)
    have hi2 : (l.length : Int) ≤ 1 := by omega
    have hi3 : (l.length : Int) - 1 ≤ 0 := by omega
    have hi4 : ¬ (0 : Int) < (l.length : Int) - 1 := by omega
    have hw1 : IntKind.i64.wrap ((l.length : Int) - 1) = (l.length : Int) - 1 := IntWalk.i64_in _ (by omega)
    go_enter Tryz.func288, Tryz.ntmps288
    go_wp2_with fail
    go_loop [5] (fun i => i = .int .i64 ((l.length : Int) - 1)) (fun i => 2)
    case atStart => rfl
    case round =>
      subst hrel
      go_wp2_with fail
      go_ret
      exact ⟨true, rfl, ⟨fun _ => HT.out, fun _ => rfl⟩, Aft.refl _⟩
  · have hge : 2 ≤ l.length := by omega
    have hi3 : (0 : Int) < (l.length : Int) - 1 := by omega
    have hw1 : IntKind.i64.wrap ((l.length : Int) - 1) = (l.length : Int) - 1 := IntWalk.i64_in _ (by omega)
    go_enter Tryz.func288, Tryz.ntmps288
    go_wp2_with fail
    go_loopw [5] (fun i wr => ∃ k : Nat, k ≤ l.length - 1 ∧ i = .int .i64 k ∧ Aft w wr ∧ ∀ j, k ≤ j → ∀ (hj : j + 1 < l.length), 0 ≤ c l[j + 1] (l[j]'(by omega))) (fun i _ => (intOf i).toNat)
    case atStart => exact ⟨l.length - 1, by omega, by congr 1; omega, Aft.refl _, fun j hj h => by omega⟩
    case round =>
      obtain ⟨k, hk, rfl, ha, hp⟩ := hrel
      have HA := Lib.hid ha
      have HP := Lib.hid hp; clear hp
      by_cases h0 : k = 0
      · subst h0
        have HT := Lib.hid (show Sorted c l from fun j hj => HP.out j (by omega) hj)
        clear ha
        go_wp2_with fail
        go_ret
        exact ⟨true, rfl, ⟨fun _ => HT.out, fun _ => rfl⟩, HA.out⟩
      · obtain ⟨k, rfl⟩ : ∃ k', k = k' + 1 := ⟨k - 1, by omega⟩
        have hlt : k + 1 < l.length := by omega
        have hsl := strs_aft ha h
        have hk1 : k < l.length := by omega
        obtain ⟨b, off, rfl, hb, c0, hs⟩ := str_at hsl hk1
        obtain ⟨b', off', hA', hb', d0, hs'⟩ := str_at hsl hlt
        simp only [Option.some.injEq, Addr.mk.injEq, and_true] at hA'
        obtain ⟨rfl, rfl⟩ := hA'
        obtain ⟨r, hr⟩ : ∃ r, c l[k + 1] (l[k]'(by omega)) = r := ⟨_, rfl⟩
        have Cc := Lib.hid (show ∀ x : Lat wr, _ from fun x => hr ▸ HC.out (lat wr x) (HA.out.lat x) k hlt)
        have HR := Lib.hid hr
        clear ha hsl hr
        have w1 : IntKind.i64.wrap (((k + 1 : Nat) : Int) - 1) = (k : Int) := by rw [show ((k + 1 : Nat) : Int) - 1 = (k : Int) from by omega]; exact IntWalk.i64_in _ (by omega)
        have w5 : IntKind.i64.wrap ((k : Int) + 1 - 1) = (k : Int) := by rw [show (k : Int) + 1 - 1 = (k : Int) from by omega]; exact IntWalk.i64_in _ (by omega)
        have w2 : (0 : Int) ≤ (k : Int) + 1 := by omega
        have w3 : ((k : Int) + 1).toNat = k + 1 := by omega
        have w4 : (k : Int) + 1 < (l.length : Int) := by omega
        have w6 : (0 : Int) < (k : Int) + 1 := by omega
        by_cases hr0 : r < 0
        · go_wp2_with fail
          refine wp_region_lat (by kernel_rfl) (by kernel_rfl) ?_
          repeat (go_big_quiet_step ((exact Calls.lat_of (Cc.out _))))
          refine wpQuiet_nil ?_
          intro _ hw'
          obtain ⟨x, hw''⟩ := hw'
          subst hw''
          clear w1 w2 w3 w4 w5 w6
          go_wp2_with fail
          go_ret
          exact ⟨false, rfl, ⟨fun h => Bool.noConfusion h, fun h => absurd (h k hlt) (by rw [HR.out]; omega)⟩, HA.out.lat x⟩
        · go_wp2_with fail
          refine wp_region_lat (by kernel_rfl) (by kernel_rfl) ?_
          repeat (go_big_quiet_step ((exact Calls.lat_of (Cc.out _))))
          refine wpQuiet_nil ?_
          intro _ hw'
          obtain ⟨x, hw''⟩ := hw'
          subst hw''
          go_wp2_with fail
          go_roundw
          case rel =>
            refine ⟨k, by omega, by first | rfl | go_num, HA.out.lat x, fun j hj hj2 => ?_⟩
            rcases Nat.lt_or_ge k j with h1 | h1
            · exact HP.out j (by omega) hj2
            · have : j = k := by omega
              subst this
              rw [HR.out]; omega
          case measure => simp [intOf]
set_option maxHeartbeats 2000000 in
theorem sortedM (A : Option Addr) (cap : Nat) (l : List Mbr) (g : FuncId) (caps : Array Value) (c : Mbr → Mbr → Int) (w : World) (h : SlAt w 2 MbrR A cap l) (hent : ∀ (args : Array Value) (w : World), (callFunc g args).run Tryz.prog w = .ok (.enter g args) w)
    (hp : ∀ w', Aft w w' → ∀ i (hi : i + 1 < l.length), Calls Tryz.prog g (#[.agg #[.string (l[i + 1]).role, .string (l[i + 1]).of], .agg #[.string (l[i]'(by omega)).role, .string (l[i]'(by omega)).of]] ++ caps) w' fun e w'' => e = .returned (.int .i64 (c l[i + 1] (l[i]'(by omega)))) ∧ Aft w' w'') :
    Calls Tryz.prog 291 #[.slice A l.length cap, .func (.func g) #[] caps] w (SortP c l w) := by
  have hlen := h.len
  have HC := Lib.hid hp
  clear hp
  by_cases h2 : l.length ≤ 1
  · have HT := Lib.hid (show Sorted c l from fun k hk => by omega)
    have hi2 : (l.length : Int) ≤ 1 := by omega
    have hi3 : (l.length : Int) - 1 ≤ 0 := by omega
    have hi4 : ¬ (0 : Int) < (l.length : Int) - 1 := by omega
    have hw1 : IntKind.i64.wrap ((l.length : Int) - 1) = (l.length : Int) - 1 := IntWalk.i64_in _ (by omega)
    go_enter Tryz.func291, Tryz.ntmps291
    go_wp2_with fail
    go_loop [5] (fun i => i = .int .i64 ((l.length : Int) - 1)) (fun i => 2)
    case atStart => rfl
    case round =>
      subst hrel
      go_wp2_with fail
      go_ret
      exact ⟨true, rfl, ⟨fun _ => HT.out, fun _ => rfl⟩, Aft.refl _⟩
  · have hge : 2 ≤ l.length := by omega
    have hi3 : (0 : Int) < (l.length : Int) - 1 := by omega
    have hw1 : IntKind.i64.wrap ((l.length : Int) - 1) = (l.length : Int) - 1 := IntWalk.i64_in _ (by omega)
    go_enter Tryz.func291, Tryz.ntmps291
    go_wp2_with fail
    go_loopw [5] (fun i wr => ∃ k : Nat, k ≤ l.length - 1 ∧ i = .int .i64 k ∧ Aft w wr ∧ ∀ j, k ≤ j → ∀ (hj : j + 1 < l.length), 0 ≤ c l[j + 1] (l[j]'(by omega))) (fun i _ => (intOf i).toNat)
    case atStart => exact ⟨l.length - 1, by omega, by congr 1; omega, Aft.refl _, fun j hj h => by omega⟩
    case round =>
      obtain ⟨k, hk, rfl, ha, hp⟩ := hrel
      have HA := Lib.hid ha
      have HP := Lib.hid hp; clear hp
      by_cases h0 : k = 0
      · subst h0
        have HT := Lib.hid (show Sorted c l from fun j hj => HP.out j (by omega) hj)
        clear ha
        go_wp2_with fail
        go_ret
        exact ⟨true, rfl, ⟨fun _ => HT.out, fun _ => rfl⟩, HA.out⟩
      · obtain ⟨k, rfl⟩ : ∃ k', k = k' + 1 := ⟨k - 1, by omega⟩
        have hlt : k + 1 < l.length := by omega
        have hsl := mbrs_aft ha h
        have hk1 : k < l.length := by omega
        obtain ⟨b, off, rfl, hb, c0, c1, hs, hs2⟩ := mbr_at hsl hk1
        obtain ⟨b', off', hA', hb', d0, d1, hs', hs2'⟩ := mbr_at hsl hlt
        simp only [Option.some.injEq, Addr.mk.injEq, and_true] at hA'
        obtain ⟨rfl, rfl⟩ := hA'
        obtain ⟨r, hr⟩ : ∃ r, c l[k + 1] (l[k]'(by omega)) = r := ⟨_, rfl⟩
        have Cc := Lib.hid (show ∀ x : Lat wr, _ from fun x => hr ▸ HC.out (lat wr x) (HA.out.lat x) k hlt)
        have HR := Lib.hid hr
        clear ha hsl hr
        have w1 : IntKind.i64.wrap (((k + 1 : Nat) : Int) - 1) = (k : Int) := by rw [show ((k + 1 : Nat) : Int) - 1 = (k : Int) from by omega]; exact IntWalk.i64_in _ (by omega)
        have w5 : IntKind.i64.wrap ((k : Int) + 1 - 1) = (k : Int) := by rw [show (k : Int) + 1 - 1 = (k : Int) from by omega]; exact IntWalk.i64_in _ (by omega)
        have w2 : (0 : Int) ≤ (k : Int) + 1 := by omega
        have w3 : ((k : Int) + 1).toNat = k + 1 := by omega
        have w4 : (k : Int) + 1 < (l.length : Int) := by omega
        have w6 : (0 : Int) < (k : Int) + 1 := by omega
        by_cases hr0 : r < 0
        · go_wp2_with fail
          refine wp_region_lat (by kernel_rfl) (by kernel_rfl) ?_
          repeat (go_big_quiet_step ((exact Calls.lat_of (Cc.out _))))
          refine wpQuiet_nil ?_
          intro _ hw'
          obtain ⟨x, hw''⟩ := hw'
          subst hw''
          clear w1 w2 w3 w4 w5 w6
          go_wp2_with fail
          go_ret
          exact ⟨false, rfl, ⟨fun h => Bool.noConfusion h, fun h => absurd (h k hlt) (by rw [HR.out]; omega)⟩, HA.out.lat x⟩
        · go_wp2_with fail
          refine wp_region_lat (by kernel_rfl) (by kernel_rfl) ?_
          repeat (go_big_quiet_step ((exact Calls.lat_of (Cc.out _))))
          refine wpQuiet_nil ?_
          intro _ hw'
          obtain ⟨x, hw''⟩ := hw'
          subst hw''
          go_wp2_with fail
          go_roundw
          case rel =>
            refine ⟨k, by omega, by first | rfl | go_num, HA.out.lat x, fun j hj hj2 => ?_⟩
            rcases Nat.lt_or_ge k j with h1 | h1
            · exact HP.out j (by omega) hj2
            · have : j = k := by omega
              subst this
              rw [HR.out]; omega
          case measure => simp [intOf]
end Go.Proofs.YtgkhmnamkfgciaaGreat

namespace Go.Proofs.YtgkhmnamkfgciaaGreat
open Go.RowKit
set_option maxRecDepth 100000
set_option linter.unusedVariables false
def cmpM (a b : Mbr) : Int := or2 (cmpS a.role b.role) (cmpS a.of b.of)
set_option maxHeartbeats 1000000 in
theorem order8 (a b : Mbr) (w : World) :
    Calls Tryz.prog 204 #[.agg #[.string a.role, .string a.of], .agg #[.string b.role, .string b.of]] w fun e w' => e = .returned (.int .i64 (cmpM a b)) ∧ Aft w w' := by
  go_enter Tryz.func204, Tryz.ntmps204
  go_wp2_with fail
  refine wp_region_tail 10 (by kernel_rfl) (by kernel_rfl) ?_
  intro w1 a1
  obtain ⟨hb1, hb2, hz, HA⟩ := aft_box2 a1
  clear a1
  simp only [List.take_succ_cons, List.take_zero, List.drop_succ_cons, List.drop_zero]
  repeat still_step
  still_call (compare_still _ _ _)
  repeat still_step
  still_call (compare_still _ _ _)
  refine wpStill_nil ?_
  go_wp2_with fail
  refine (or_any (cmpS a.role b.role) (cmpS a.of b.of) w1.heap.size _ (by simp) (by simp) (by simp)).mono ?_
  rintro e w2 ⟨rfl, a2⟩
  have HA2 := Lib.hid ((HA.out.alloc _).trans a2)
  clear a2
  go_wp2_with fail
  go_ret
  exact ⟨rfl, HA2.out⟩
end Go.Proofs.YtgkhmnamkfgciaaGreat

namespace Go.Proofs.YtgkhmnamkfgciaaGreat
open Go.RowKit Go.Deep
set_option linter.unusedVariables false
def setL : List Value → Nat → List Value → List Value
  | xs, _, [] => xs
  | xs, o, v :: r => setL (xs.set o v) (o + 1) r
theorem setL_eq : ∀ (vs xs : List Value) (o : Nat), o + vs.length ≤ xs.length → setL xs o vs = xs.take o ++ vs ++ xs.drop (o + vs.length)
  | [], xs, o, h => by simp [setL]
  | v :: r, xs, o, h => by
    simp only [List.length_cons] at h
    rw [setL, setL_eq r (xs.set o v) (o + 1) (by simp; omega)]
    have e1 : (xs.set o v).take (o + 1) = xs.take o ++ [v] := by
      rw [List.take_succ_eq_append_getElem (by simp; omega)]
      simp [List.take_set_of_le]
    have e2 : (xs.set o v).drop (o + 1 + r.length) = xs.drop (o + (r.length + 1)) := by
      rw [List.drop_set_of_lt (by omega)]
      congr 1; omega
    rw [e1, e2]
    simp
theorem own_setCells {B size n : Nat} {e : TypeId} {v : Value} {g : Nat} (hg : v.ownBlock = some g) : ∀ (vs : List Value) {w : World} {xs : List Value} (o : Nat), w.ownsRow B e size v n xs → (w.setCells g o vs).ownsRow B e size v n (setL xs o vs)
  | [], w, xs, o, h => h
  | u :: r, w, xs, o, h => own_setCells hg r (o + 1) (own_set h hg o u)
theorem kb_setCells (g : Nat) : ∀ (vs : List Value) (w : World) (o : Nat), Kb (fun k => k = g) w (w.setCells g o vs)
  | [], w, o => Kb.refl _ _
  | u :: r, w, o => (Kb.set w g o u).trans (kb_setCells g r _ (o + 1))
theorem own_cut {w : World} {B size n m cap : Nat} {e : TypeId} {A : Option Addr} {xs : List Value} (h : w.ownsRow B e size (.slice A n cap) n xs) (hm : m ≤ n) : w.ownsRow B e size (.slice A m cap) m (xs.take (m * size)) := by
  have hl : m * size ≤ n * size := Nat.mul_le_mul_right _ hm
  refine ⟨by rw [List.length_take, h.1]; omega, ?_⟩
  rcases h.2 with ⟨hv, hn⟩ | ⟨g, cap', cur, hv, hb, hgg, hnc, hcm, hcs, htk⟩
  · simp only [Value.slice.injEq] at hv
    exact .inl ⟨by rw [hv.1, hv.2.2]; congr 1; omega, by omega⟩
  · simp only [Value.slice.injEq, true_and] at hv
    refine .inr ⟨g, cap', cur, by rw [hv.1, hv.2], hb, hgg, by omega, hcm, hcs, ?_⟩
    rw [← htk, List.take_take]
    congr 1; omega
theorem flatMap_take {α : Type} {f : α → List Value} {size : Nat} (hf : ∀ x, (f x).length = size) (l : List α) (i : Nat) : (l.flatMap f).take (i * size) = (l.take i).flatMap f := by
  induction l generalizing i with
  | nil => simp
  | cons x l ih =>
    cases i with
    | zero => simp
    | succ i =>
      have e : (i + 1) * size = (f x).length + i * size := by rw [hf, Nat.succ_mul]; omega
      rw [List.flatMap_cons, e, List.take_length_add_append, ih]
      simp
end Go.Proofs.YtgkhmnamkfgciaaGreat

namespace Go.Proofs.YtgkhmnamkfgciaaGreat
open Go.RowKit
set_option linter.unusedVariables false
theorem zeroCells_len (z : Array Value) (n : Nat) : (Builtin.zeroCells z n).toList.length = n * z.size := by simp [Builtin.zeroCells]
theorem zeroCells_mem {z : Array Value} {n : Nat} {u : Value} (h : u ∈ (Builtin.zeroCells z n).toList) : u ∈ z.toList := by
  simp only [Builtin.zeroCells] at h
  obtain ⟨i, hi, rfl⟩ := List.getElem_of_mem h
  have hi2 : i < n * z.size := by simpa using hi
  have hz : 0 < z.size := by
    rcases Nat.eq_zero_or_pos z.size with h | h
    · rw [h] at hi2; simp at hi2
    · exact h
  simp [getElem!_pos z (i % z.size) (Nat.mod_lt _ hz)]
theorem run_clear_n {P : Program} (w : World) (t e ty : TypeId) (z : Value) (ht : P.underlying t = some (.slice e)) (hv : ∀ w, (zeroValue e).run P w = .ok z w) (h1 : ∀ u ∈ z.cells.toList, u.oneCell' = true) (b o c n : Nat) (hn : 0 < n)
    (hc : ∀ j, j < n * z.cells.size → (w.cell? ⟨b, o + j, none⟩).isSome = true) (hf : ∀ j, j < n * z.cells.size → w.frozen? ⟨b, o + j, none⟩ = false) :
    (Builtin.clear_ #[t] ty #[.slice (some ⟨b, o, none⟩) n c]).run P w = .ok (.tuple #[]) (w.setCells b o (Builtin.zeroCells z.cells n).toList) := by
  have hst := run_storeCells_cells (P := P) b o (Builtin.zeroCells z.cells n).toList 0 w (by rw [zeroCells_len]; simpa using hc) (by rw [zeroCells_len]; simpa using hf) (fun u hu => h1 u (zeroCells_mem hu))
  simp only [Nat.add_zero] at hst
  obtain ⟨m, rfl⟩ : ∃ m, n = m + 1 := ⟨n - 1, by omega⟩
  simp only [Builtin.clear_, List.getElem?_toArray, List.getElem?_cons_zero, Sem.run_bind, run_underlying ht, Result.andThen_ok, hv, hst, Sem.run_pure]
end Go.Proofs.YtgkhmnamkfgciaaGreat

namespace Go.Proofs.YtgkhmnamkfgciaaGreat
open Go.RowKit Go.Deep
set_option maxRecDepth 100000
set_option linter.unusedVariables false
def NoTwin {α : Type} (q : α → α → Bool) (l : List α) : Prop := ∀ k (h : k + 1 < l.length), q l[k + 1] (l[k]'(by omega)) = false
def CompP {α : Type} (q : α → α → Bool) (l : List α) (v : Value) (w : World) (e : Ending) (w' : World) : Prop :=
  ∃ A m c, e = .returned (.slice A m c) ∧ (m = l.length ↔ NoTwin q l) ∧ Kb (InV v) w w'
structure CompI {α : Type} (ty : TypeId) (size : Nat) (cells : α → List Value) (sm : α → Prop) (w wr : World) (B g cap n : Nat) (l : List α) : Prop where
  own : wr.ownsRow B ty size (.slice (some ⟨g, 0, none⟩) n cap) n (l.flatMap cells)
  len : l.length = n
  sm : ∀ x ∈ l, sm x
  kb : Kb (fun k => k = g) w wr
theorem CompI.aft {α : Type} {ty : TypeId} {size : Nat} {cells : α → List Value} {sm : α → Prop} {w wr wr' : World} {B g cap n : Nat} {l : List α} (h : CompI ty size cells sm w wr B g cap n l) (a : Aft wr wr') : CompI ty size cells sm w wr' B g cap n l := ⟨own_aft h.own a, h.len, h.sm, h.kb.trans (Kb.of_aft a)⟩
theorem compS_set {w wr : World} {B g cap n m i : Nat} {l : List ByteArray} (h : CompI 9 1 nameC (fun x : ByteArray => Small x.size) w wr B g cap n l) (hm : m < l.length) (hi : i < l.length) : CompI 9 1 nameC (fun x : ByteArray => Small x.size) w (wr.setCell ⟨g, m * 1, none⟩ (.string (l[i]))) B g cap n (l.set m l[i]) := by
  refine ⟨?_, by rw [List.length_set]; exact h.len, fun x hx => ?_, ?_⟩
  · have h1 := own_set h.own (g := g) rfl (m * 1) (.string l[i])
    rwa [← Nat.add_zero (m * 1), flatMap_set (f := nameC) (fun _ => rfl) l m 0 hm (by decide) (.string l[i]) l[i] rfl, Nat.add_zero] at h1
  · rcases List.mem_or_eq_of_mem_set hx with h1 | h1
    · exact h.sm x h1
    · subst h1; exact h.sm _ (List.getElem_mem hi)
  · exact h.kb.trans (Kb.set _ _ _ _)
theorem compS_sl {w wr : World} {B g cap n : Nat} {l : List ByteArray} (h : CompI 9 1 nameC (fun x : ByteArray => Small x.size) w wr B g cap n l) (hs : Small (n * 16)) : SlAt wr 1 StrR (some ⟨g, 0, none⟩) cap l := by
  have ho := h.own
  have hl := h.len
  subst hl
  exact own_slf (h := ⟨some ⟨g, 0, none⟩, l.length, cap⟩) nameC ho (fun x hx => ⟨rfl, rfl, h.sm x hx⟩) hs
set_option maxHeartbeats 8000000 in
theorem compS (v : Value) (l : List ByteArray) (g : FuncId) (caps : Array Value) (q : ByteArray → ByteArray → Bool) (B : Nat) (w : World) (ho : w.ownsRow B 9 1 v l.length (l.flatMap nameC)) (hs : Small (l.length * 16)) (hcap : ∀ A n c, v = .slice A n c → c ≤ 9223372036854775807) (sm : ∀ x ∈ l, (fun x : ByteArray => Small x.size) x) (hent : ∀ (args : Array Value) (w : World), (callFunc g args).run Tryz.prog w = .ok (.enter g args) w)
    (hq : ∀ w', Kb (InV v) w w' → ∀ x y : ByteArray, Calls Tryz.prog g (#[.string (x), .string (y)] ++ caps) w' fun e w'' => e = .returned (.bool (q x y)) ∧ Aft w' w'') :
    Calls Tryz.prog 289 #[v, .func (.func g) #[] caps] w (CompP q l v w) := by
  have hlen : l.length * 16 ≤ 140737488351232 := hs
  by_cases h2 : l.length < 2
  · obtain ⟨A, cap, hv⟩ := own_lit ho
    subst hv
    have HT := Lib.hid (show NoTwin q l from fun k h => by omega)
    have hi2 : (l.length : Int) < 2 := by omega
    go_enter Tryz.func289, Tryz.ntmps289
    go_wp2_with fail
    go_ret
    exact ⟨_, _, _, rfl, ⟨fun _ => HT.out, fun _ => rfl⟩, Kb.refl _ _⟩
  · obtain ⟨g0, cap, hv, hgB, hnc, hr⟩ := own_rowAt ho (by omega)
    subst hv
    have hcap := hcap _ _ _ rfl
    have hI : CompI 9 1 nameC (fun x : ByteArray => Small x.size) w w B g0 cap l.length l := ⟨ho, rfl, sm, Kb.refl _ _⟩
    have kin : ∀ w1 w2 : World, Kb (fun k => k = g0) w1 w2 → Kb (InV (.slice (some ⟨g0, 0, none⟩) l.length cap)) w1 w2 := fun w1 w2 k => k.mono fun g _ e => by subst e; rfl
    have HQ := Lib.hid (show ∀ w', Kb (fun k => k = g0) w w' → _ from fun w' k => hq w' (kin _ _ k))
    have HI := Lib.hid hI
    have hsl := compS_sl hI hs
    have hi2 : ¬ (l.length : Int) < 2 := by omega
    have HSL := Lib.hid hsl
    clear hq hI ho hr sm
    go_enter Tryz.func289, Tryz.ntmps289
    go_wp2_with fail
    go_loopw [5] (fun i wr => ∃ k : Nat, 0 < k ∧ k ≤ l.length ∧ i = .int .i64 k ∧ Aft w wr ∧ ∀ j, j + 1 < k → ∀ (hj : j + 1 < l.length), q l[j + 1] (l[j]'(by omega)) = false) (fun i _ => l.length - (intOf i).toNat)
    case atStart => exact ⟨1, by omega, by omega, rfl, Aft.refl _, fun j hj h => by omega⟩
    case round =>
      obtain ⟨k, hk0, hk, rfl, ha, hp⟩ := hrel
      have HA := Lib.hid ha
      have HP := Lib.hid hp; clear hp
      by_cases hlt : k < l.length
      · obtain ⟨k, rfl⟩ : ∃ k', k = k' + 1 := ⟨k - 1, by omega⟩
        have hsl2 := HSL.out.aft ha fun _ _ h => h
        have hk1 : k < l.length := by omega
        obtain ⟨b, off, hA0, hb, c0, hs⟩ := str_at hsl2 hk1
        obtain ⟨b', off', hA', hb', d0, hs'⟩ := str_at hsl2 hlt
        simp only [Option.some.injEq, Addr.mk.injEq, and_true] at hA0 hA'
        obtain ⟨rfl, rfl⟩ := hA0
        obtain ⟨rfl, rfl⟩ := hA'
        simp only [Nat.zero_add] at c0 d0
        obtain ⟨r, hr⟩ : ∃ r, q l[k + 1] (l[k]'(by omega)) = r := ⟨_, rfl⟩
        have Cc := Lib.hid (show ∀ x : Lat wr, _ from fun x => hr ▸ HQ.out (lat wr x) (Kb.of_aft (HA.out.lat x)) l[k + 1] (l[k]'(by omega)))
        have HR := Lib.hid hr
        clear ha hsl hsl2 hr
        have w1 : IntKind.i64.wrap (((k + 1 : Nat) : Int) - 1) = (k : Int) := by rw [show ((k + 1 : Nat) : Int) - 1 = (k : Int) from by omega]; exact IntWalk.i64_in _ (by omega)
        have w5 : IntKind.i64.wrap ((k : Int) + 1 - 1) = (k : Int) := by rw [show (k : Int) + 1 - 1 = (k : Int) from by omega]; exact IntWalk.i64_in _ (by omega)
        have w2 : (0 : Int) ≤ (k : Int) + 1 := by omega
        have w3 : ((k : Int) + 1).toNat = k + 1 := by omega
        have w4 : (k : Int) + 1 < (l.length : Int) := by omega
        cases r
        · go_wp2_with fail
          refine wp_region_lat (by kernel_rfl) (by kernel_rfl) ?_
          repeat (go_big_quiet_step ((exact Calls.lat_of (Cc.out _))))
          refine wpQuiet_nil ?_
          intro _ hw'
          obtain ⟨x, hw''⟩ := hw'
          subst hw''
          clear w1 w2 w3 w4 w5
          go_wp2_with fail
          go_roundw
          case rel =>
            refine ⟨k + 1 + 1, by omega, by omega, by go_num, HA.out.lat x, fun j hj hj2 => ?_⟩
            rcases Nat.lt_or_ge j k with h1 | h1
            · exact HP.out j (by omega) hj2
            · have : j = k := by omega
              subst this
              exact HR.out
          case measure => simp [intOf]; omega
        · have hck : ¬ cap = k + 1 := by omega
          go_wp2_with fail
          refine wp_region_lat (by kernel_rfl) (by kernel_rfl) ?_
          repeat (go_big_quiet_step ((exact Calls.lat_of (Cc.out _))))
          refine wpQuiet_nil ?_
          intro _ hw'
          obtain ⟨x, hw''⟩ := hw'
          subst hw''
          clear w1 w2 w3 w4 w5
          go_wp2_with fail
          obtain ⟨n2, hn2⟩ : ∃ n2, l.length - (k + 1) = n2 := ⟨_, rfl⟩
          rw [hn2]
          have HN := Lib.hid (And.intro hn2 (And.intro hlt (And.intro hnc hcap)))
          have HI2 := Lib.hid (HI.out.aft (HA.out.lat x))
          clear hn2 c0 d0 hs hs'
          go_loopw [5, 7] (fun u5 u7 wr2 => ∃ (m k2 : Nat) (l' : List ByteArray), 0 < k2 ∧ k2 ≤ n2 ∧ m < k + 1 + k2 ∧ u5 = .int .i64 m ∧ u7 = .int .i64 k2 ∧ CompI 9 1 nameC (fun x : ByteArray => Small x.size) w wr2 B g0 cap l.length l') (fun _ u7 _ => n2 - (intOf u7).toNat)
          case atStart => exact ⟨k + 1, 1, l, by omega, by have := HN.out.1; omega, by omega, rfl, rfl, HI2.out⟩
          case round =>
            obtain ⟨m, k2, l', hk20, hk2, hm, rfl, rfl, hI⟩ := hrel
            have hn2 := HN.out.1
            have hml : m < l.length := by omega
            have HJ := Lib.hid hI
            have hll := hI.len
            by_cases hlt2 : k2 < n2
            · obtain ⟨k3, rfl⟩ : ∃ k', k2 = k' + 1 := ⟨k2 - 1, by omega⟩
              have hsl3 := compS_sl hI hs
              have hi1 : k + 1 + (k3 + 1) < l'.length := by omega
              have hi0 : k + 1 + k3 < l'.length := by omega
              obtain ⟨b, off, hA0, hb0, c0, hs⟩ := str_at hsl3 hi0
              obtain ⟨b', off', hA', hb1, d0, hs'⟩ := str_at hsl3 hi1
              simp only [Option.some.injEq, Addr.mk.injEq, and_true] at hA0 hA'
              obtain ⟨rfl, rfl⟩ := hA0
              obtain ⟨rfl, rfl⟩ := hA'
              simp only [Nat.zero_add] at c0 d0
              obtain ⟨x1, hx1⟩ : ∃ x1, l'[k + 1 + (k3 + 1)] = x1 := ⟨_, rfl⟩
              obtain ⟨x0, hx0⟩ : ∃ x0, l'[k + 1 + k3] = x0 := ⟨_, rfl⟩
              rw [hx0] at c0 hs
              rw [hx1] at d0 hs'
              obtain ⟨r, hr⟩ : ∃ r, q x1 x0 = r := ⟨_, rfl⟩
              have Cc2 := Lib.hid (show ∀ y : Lat wr, _ from fun y => hr ▸ HQ.out (lat wr y) (hI.kb.trans (Kb.of_aft ((Aft.refl wr).lat y))) x1 x0)
              have HX := Lib.hid hx1
              have w1 : IntKind.i64.wrap (((k3 + 1 : Nat) : Int) - 1) = (k3 : Int) := by rw [show ((k3 + 1 : Nat) : Int) - 1 = (k3 : Int) from by omega]; exact IntWalk.i64_in _ (by omega)
              have w5 : IntKind.i64.wrap ((k3 : Int) + 1 - 1) = (k3 : Int) := by rw [show (k3 : Int) + 1 - 1 = (k3 : Int) from by omega]; exact IntWalk.i64_in _ (by omega)
              have w2 : (0 : Int) ≤ (k3 : Int) + 1 := by omega
              have w3 : ((k3 : Int) + 1).toNat = k3 + 1 := by omega
              have w4 : (k3 : Int) + 1 < (n2 : Int) := by omega
              have w6 : (k3 : Int) < (n2 : Int) := by omega
              clear hI hsl3 hr hx0 hx1 hn2
              go_wp2_with fail
              refine wp_region_lat (by kernel_rfl) (by kernel_rfl) ?_
              repeat (go_big_quiet_step ((exact Calls.lat_of (Cc2.out _))))
              refine wpQuiet_nil ?_
              intro _ hw'
              obtain ⟨y, hw''⟩ := hw'
              subst hw''
              clear w1 w5
              cases r
              · obtain ⟨F, hF⟩ : ∃ F, F = lat wr y := ⟨_, rfl⟩
                have HJF := Lib.hid (show CompI 9 1 nameC (fun x : ByteArray => Small x.size) w F B g0 cap l.length l' from hF ▸ HJ.out.aft ((Aft.refl wr).lat y))
                obtain ⟨_, _, hv1, _, _, hrF⟩ := own_rowAt HJF.out.own (by omega)
                simp only [Value.slice.injEq, true_and, Option.some.injEq, Addr.mk.injEq, and_true] at hv1
                obtain ⟨rfl, rfl⟩ := hv1
                have hfl : (l'.flatMap nameC).length = l.length * 1 := by rw [flatMap_len (size := 1) (fun _ => rfl), hll]
                obtain ⟨u0, z0⟩ : ∃ u, F.cell? ⟨g0, m, none⟩ = some u := ⟨_, by rw [hrF.2.1 m (by rw [hfl]; omega), List.getElem?_eq_getElem (by rw [hfl]; omega)]⟩
                have z1 : F.frozen? ⟨g0, m, none⟩ = false := hrF.2.2 m (by rw [hfl]; omega)
                have z2 : g0 < F.heap.size := hrF.1
                have z3 : F.cell? ⟨g0, k + 1 + (k3 + 1), none⟩ = some (.string x1) := by rw [hF]; exact ((Aft.refl wr).lat y).cell_kept d0
                rw [← hF]
                clear hF
                clear hrF hfl
                have HNEW := Lib.hid (show CompI 9 1 nameC (fun x : ByteArray => Small x.size) w (F.setCell ⟨g0, m, none⟩ (.string (x1))) B g0 cap l.length (l'.set m l'[k + 1 + (k3 + 1)]) from by
                  have := compS_set HJF.out (m := m) (i := k + 1 + (k3 + 1)) (by omega) hi1
                  rw [HX.out] at this ⊢
                  simpa using this)
                clear w2 w3 w4 w6
                go_wp2_with fail
                go_roundw
                case rel => exact ⟨m + 1, k3 + 1 + 1, _, by omega, by omega, by omega, by go_num, by go_num, HNEW.out⟩
                case measure => simp [intOf]; omega
              · clear w2 w3 w4 w6
                go_wp2_with fail
                go_roundw
                case rel => exact ⟨m, k3 + 1 + 1, l', by omega, by omega, by omega, rfl, by go_num, HJ.out.aft ((Aft.refl wr).lat y)⟩
                case measure => simp [intOf]; omega
            · have hcm : ¬ cap = m := by omega
              obtain ⟨_, _, hv1, _, _, hrF⟩ := own_rowAt hI.own (by omega)
              simp only [Value.slice.injEq, true_and, Option.some.injEq, Addr.mk.injEq, and_true] at hv1
              obtain ⟨rfl, rfl⟩ := hv1
              have hfl : (l'.flatMap nameC).length = l.length * 1 := by rw [flatMap_len (size := 1) (fun _ => rfl), hll]
              have hzr : ∀ w : World, (zeroValue 9).run Tryz.prog w = .ok (.string ByteArray.empty) w := fun w => by kernel_rfl
              obtain ⟨n3, hn3⟩ : ∃ n3, l.length - m = n3 := ⟨_, rfl⟩
              have hcl : ∀ ty, (Builtin.clear_ #[26] ty #[.slice (some ⟨g0, m * 1, none⟩) n3 (cap - m)]).run Tryz.prog wr = .ok (.tuple #[]) (wr.setCells g0 (m * 1) (Builtin.zeroCells (.string ByteArray.empty : Value).cells n3).toList) := fun ty => by
                refine run_clear_n wr _ _ ty _ Tryz.underlying26 hzr (by intro u hu; have hu : u ∈ ([.string ByteArray.empty] : List Value) := hu; simp only [List.mem_cons, List.not_mem_nil, or_false] at hu; subst hu; rfl) g0 (m * 1) (cap - m) n3 (by omega) (fun j hj => ?_) (fun j hj => ?_)
                · have hj' : j < n3 * 1 := hj
                  have hl : m * 1 + j < (l'.flatMap nameC).length := by rw [hfl]; omega
                  rw [hrF.2.1 _ hl, List.getElem?_eq_getElem hl]; rfl
                · have hj' : j < n3 * 1 := hj
                  exact hrF.2.2 _ (by rw [hfl]; omega)
              obtain ⟨Z, hZ⟩ : ∃ Z, Z = wr.setCells g0 (m * 1) (Builtin.zeroCells (.string ByteArray.empty : Value).cells n3).toList := ⟨_, rfl⟩
              have HZ := Lib.hid (show Kb (fun k => k = g0) w Z from hZ ▸ hI.kb.trans (kb_setCells g0 _ _ _))
              rw [← hZ, ← hn3] at hcl
              simp only [Nat.mul_one] at hcl
              have HF := Lib.hid (show ¬ m = l.length ∧ ¬ NoTwin q l from ⟨by omega, fun h => by have := h k HN.out.2.1; rw [HR.out] at this; cases this⟩)
              have HKIN := Lib.hid kin
              have k3 : (m : Int) ≤ (l.length : Int) := by omega
              have k5 : (l.length : Int) ≤ (cap : Int) := by omega
              have k6 : (m : Int) ≤ (cap : Int) := by omega
              clear hI hrF hfl hzr hZ hn3 hn2 kin
              go_wp2_with fail
              go_ret
              exact ⟨_, _, _, rfl, ⟨fun h => absurd h HF.out.1, fun h => absurd h HF.out.2⟩, HKIN.out _ _ HZ.out⟩
      · have HT := Lib.hid (show NoTwin q l from fun j hj => HP.out j (by omega) hj)
        clear ha
        go_wp2_with fail
        go_ret
        exact ⟨_, _, _, rfl, ⟨fun _ => HT.out, fun _ => rfl⟩, Kb.of_aft HA.out⟩
theorem compM_set {w wr : World} {B g cap n m i : Nat} {l : List Mbr} (h : CompI 142 2 mbrC (fun x : Mbr => Small x.role.size ∧ Small x.of.size) w wr B g cap n l) (hm : m < l.length) (hi : i < l.length) : CompI 142 2 mbrC (fun x : Mbr => Small x.role.size ∧ Small x.of.size) w ((wr.setCell ⟨g, m * 2, none⟩ (.string (l[i]).role)).setCell ⟨g, m * 2 + 1, none⟩ (.string (l[i]).of)) B g cap n (l.set m l[i]) := by
  refine ⟨?_, by rw [List.length_set]; exact h.len, fun x hx => ?_, ?_⟩
  · have h1 := own_set (own_set h.own (g := g) rfl (m * 2) (.string l[i].role)) (g := g) rfl (m * 2 + 1) (.string l[i].of)
    rw [show (l.flatMap mbrC).set (m * 2) (.string l[i].role) = (l.set m ⟨l[i].role, l[m].of⟩).flatMap mbrC from flatMap_set (f := mbrC) (size := 2) (fun _ => rfl) l m 0 hm (by decide) (.string l[i].role) ⟨l[i].role, l[m].of⟩ rfl,
      flatMap_set (f := mbrC) (size := 2) (fun _ => rfl) (l.set m ⟨l[i].role, l[m].of⟩) m 1 (by simpa using hm) (by decide) (.string l[i].of) l[i] (by simp [mbrC])] at h1
    simpa using h1
  · rcases List.mem_or_eq_of_mem_set hx with h1 | h1
    · exact h.sm x h1
    · subst h1; exact h.sm _ (List.getElem_mem hi)
  · exact h.kb.trans ((Kb.set _ _ _ _).trans (Kb.set _ _ _ _))
theorem compM_sl {w wr : World} {B g cap n : Nat} {l : List Mbr} (h : CompI 142 2 mbrC (fun x : Mbr => Small x.role.size ∧ Small x.of.size) w wr B g cap n l) (hs : Small (n * 16)) : SlAt wr 2 MbrR (some ⟨g, 0, none⟩) cap l := by
  have ho := h.own
  have hl := h.len
  subst hl
  exact own_slf (h := ⟨some ⟨g, 0, none⟩, l.length, cap⟩) mbrC ho (fun x hx => ⟨rfl, rfl, h.sm x hx⟩) hs
set_option maxHeartbeats 8000000 in
theorem compM (v : Value) (l : List Mbr) (g : FuncId) (caps : Array Value) (q : Mbr → Mbr → Bool) (B : Nat) (w : World) (ho : w.ownsRow B 142 2 v l.length (l.flatMap mbrC)) (hs : Small (l.length * 16)) (hcap : ∀ A n c, v = .slice A n c → c ≤ 9223372036854775807) (sm : ∀ x ∈ l, (fun x : Mbr => Small x.role.size ∧ Small x.of.size) x) (hent : ∀ (args : Array Value) (w : World), (callFunc g args).run Tryz.prog w = .ok (.enter g args) w)
    (hq : ∀ w', Kb (InV v) w w' → ∀ x y : Mbr, Calls Tryz.prog g (#[.agg #[.string (x).role, .string (x).of], .agg #[.string (y).role, .string (y).of]] ++ caps) w' fun e w'' => e = .returned (.bool (q x y)) ∧ Aft w' w'') :
    Calls Tryz.prog 292 #[v, .func (.func g) #[] caps] w (CompP q l v w) := by
  have hlen : l.length * 16 ≤ 140737488351232 := hs
  by_cases h2 : l.length < 2
  · obtain ⟨A, cap, hv⟩ := own_lit ho
    subst hv
    have HT := Lib.hid (show NoTwin q l from fun k h => by omega)
    have hi2 : (l.length : Int) < 2 := by omega
    go_enter Tryz.func292, Tryz.ntmps292
    go_wp2_with fail
    go_ret
    exact ⟨_, _, _, rfl, ⟨fun _ => HT.out, fun _ => rfl⟩, Kb.refl _ _⟩
  · obtain ⟨g0, cap, hv, hgB, hnc, hr⟩ := own_rowAt ho (by omega)
    subst hv
    have hcap := hcap _ _ _ rfl
    have hI : CompI 142 2 mbrC (fun x : Mbr => Small x.role.size ∧ Small x.of.size) w w B g0 cap l.length l := ⟨ho, rfl, sm, Kb.refl _ _⟩
    have kin : ∀ w1 w2 : World, Kb (fun k => k = g0) w1 w2 → Kb (InV (.slice (some ⟨g0, 0, none⟩) l.length cap)) w1 w2 := fun w1 w2 k => k.mono fun g _ e => by subst e; rfl
    have HQ := Lib.hid (show ∀ w', Kb (fun k => k = g0) w w' → _ from fun w' k => hq w' (kin _ _ k))
    have HI := Lib.hid hI
    have hsl := compM_sl hI hs
    have hi2 : ¬ (l.length : Int) < 2 := by omega
    have HSL := Lib.hid hsl
    clear hq hI ho hr sm
    go_enter Tryz.func292, Tryz.ntmps292
    go_wp2_with fail
    go_loopw [5] (fun i wr => ∃ k : Nat, 0 < k ∧ k ≤ l.length ∧ i = .int .i64 k ∧ Aft w wr ∧ ∀ j, j + 1 < k → ∀ (hj : j + 1 < l.length), q l[j + 1] (l[j]'(by omega)) = false) (fun i _ => l.length - (intOf i).toNat)
    case atStart => exact ⟨1, by omega, by omega, rfl, Aft.refl _, fun j hj h => by omega⟩
    case round =>
      obtain ⟨k, hk0, hk, rfl, ha, hp⟩ := hrel
      have HA := Lib.hid ha
      have HP := Lib.hid hp; clear hp
      by_cases hlt : k < l.length
      · obtain ⟨k, rfl⟩ : ∃ k', k = k' + 1 := ⟨k - 1, by omega⟩
        have hsl2 := HSL.out.aft ha fun _ _ h => h
        have hk1 : k < l.length := by omega
        obtain ⟨b, off, hA0, hb, c0, c1, hs, hs2⟩ := mbr_at hsl2 hk1
        obtain ⟨b', off', hA', hb', d0, d1, hs', hs2'⟩ := mbr_at hsl2 hlt
        simp only [Option.some.injEq, Addr.mk.injEq, and_true] at hA0 hA'
        obtain ⟨rfl, rfl⟩ := hA0
        obtain ⟨rfl, rfl⟩ := hA'
        simp only [Nat.zero_add] at c0 c1 d0 d1
        obtain ⟨r, hr⟩ : ∃ r, q l[k + 1] (l[k]'(by omega)) = r := ⟨_, rfl⟩
        have Cc := Lib.hid (show ∀ x : Lat wr, _ from fun x => hr ▸ HQ.out (lat wr x) (Kb.of_aft (HA.out.lat x)) l[k + 1] (l[k]'(by omega)))
        have HR := Lib.hid hr
        clear ha hsl hsl2 hr
        have w1 : IntKind.i64.wrap (((k + 1 : Nat) : Int) - 1) = (k : Int) := by rw [show ((k + 1 : Nat) : Int) - 1 = (k : Int) from by omega]; exact IntWalk.i64_in _ (by omega)
        have w5 : IntKind.i64.wrap ((k : Int) + 1 - 1) = (k : Int) := by rw [show (k : Int) + 1 - 1 = (k : Int) from by omega]; exact IntWalk.i64_in _ (by omega)
        have w2 : (0 : Int) ≤ (k : Int) + 1 := by omega
        have w3 : ((k : Int) + 1).toNat = k + 1 := by omega
        have w4 : (k : Int) + 1 < (l.length : Int) := by omega
        cases r
        · go_wp2_with fail
          refine wp_region_lat (by kernel_rfl) (by kernel_rfl) ?_
          repeat (go_big_quiet_step ((exact Calls.lat_of (Cc.out _))))
          refine wpQuiet_nil ?_
          intro _ hw'
          obtain ⟨x, hw''⟩ := hw'
          subst hw''
          clear w1 w2 w3 w4 w5
          go_wp2_with fail
          go_roundw
          case rel =>
            refine ⟨k + 1 + 1, by omega, by omega, by go_num, HA.out.lat x, fun j hj hj2 => ?_⟩
            rcases Nat.lt_or_ge j k with h1 | h1
            · exact HP.out j (by omega) hj2
            · have : j = k := by omega
              subst this
              exact HR.out
          case measure => simp [intOf]; omega
        · have hck : ¬ cap = k + 1 := by omega
          go_wp2_with fail
          refine wp_region_lat (by kernel_rfl) (by kernel_rfl) ?_
          repeat (go_big_quiet_step ((exact Calls.lat_of (Cc.out _))))
          refine wpQuiet_nil ?_
          intro _ hw'
          obtain ⟨x, hw''⟩ := hw'
          subst hw''
          clear w1 w2 w3 w4 w5
          go_wp2_with fail
          obtain ⟨n2, hn2⟩ : ∃ n2, l.length - (k + 1) = n2 := ⟨_, rfl⟩
          rw [hn2]
          have HN := Lib.hid (And.intro hn2 (And.intro hlt (And.intro hnc hcap)))
          have HI2 := Lib.hid (HI.out.aft (HA.out.lat x))
          clear hn2 c0 c1 d0 d1 hs hs2 hs' hs2'
          go_loopw [5, 7] (fun u5 u7 wr2 => ∃ (m k2 : Nat) (l' : List Mbr), 0 < k2 ∧ k2 ≤ n2 ∧ m < k + 1 + k2 ∧ u5 = .int .i64 m ∧ u7 = .int .i64 k2 ∧ CompI 142 2 mbrC (fun x : Mbr => Small x.role.size ∧ Small x.of.size) w wr2 B g0 cap l.length l') (fun _ u7 _ => n2 - (intOf u7).toNat)
          case atStart => exact ⟨k + 1, 1, l, by omega, by have := HN.out.1; omega, by omega, rfl, rfl, HI2.out⟩
          case round =>
            obtain ⟨m, k2, l', hk20, hk2, hm, rfl, rfl, hI⟩ := hrel
            have hn2 := HN.out.1
            have hml : m < l.length := by omega
            have HJ := Lib.hid hI
            have hll := hI.len
            by_cases hlt2 : k2 < n2
            · obtain ⟨k3, rfl⟩ : ∃ k', k2 = k' + 1 := ⟨k2 - 1, by omega⟩
              have hsl3 := compM_sl hI hs
              have hi1 : k + 1 + (k3 + 1) < l'.length := by omega
              have hi0 : k + 1 + k3 < l'.length := by omega
              obtain ⟨b, off, hA0, hb0, c0, c1, hs, hs2⟩ := mbr_at hsl3 hi0
              obtain ⟨b', off', hA', hb1, d0, d1, hs', hs2'⟩ := mbr_at hsl3 hi1
              simp only [Option.some.injEq, Addr.mk.injEq, and_true] at hA0 hA'
              obtain ⟨rfl, rfl⟩ := hA0
              obtain ⟨rfl, rfl⟩ := hA'
              rw [show 0 + (k + 1 + k3) * 2 = (k + 1) * 2 + k3 * 2 from by omega] at c0 c1
              rw [show 0 + (k + 1 + (k3 + 1)) * 2 = (k + 1) * 2 + (k3 + 1) * 2 from by omega] at d0 d1
              obtain ⟨x1, hx1⟩ : ∃ x1, l'[k + 1 + (k3 + 1)] = x1 := ⟨_, rfl⟩
              obtain ⟨x0, hx0⟩ : ∃ x0, l'[k + 1 + k3] = x0 := ⟨_, rfl⟩
              rw [hx0] at c0 c1 hs hs2
              rw [hx1] at d0 d1 hs' hs2'
              obtain ⟨r, hr⟩ : ∃ r, q x1 x0 = r := ⟨_, rfl⟩
              have Cc2 := Lib.hid (show ∀ y : Lat wr, _ from fun y => hr ▸ HQ.out (lat wr y) (hI.kb.trans (Kb.of_aft ((Aft.refl wr).lat y))) x1 x0)
              have HX := Lib.hid hx1
              have w1 : IntKind.i64.wrap (((k3 + 1 : Nat) : Int) - 1) = (k3 : Int) := by rw [show ((k3 + 1 : Nat) : Int) - 1 = (k3 : Int) from by omega]; exact IntWalk.i64_in _ (by omega)
              have w5 : IntKind.i64.wrap ((k3 : Int) + 1 - 1) = (k3 : Int) := by rw [show (k3 : Int) + 1 - 1 = (k3 : Int) from by omega]; exact IntWalk.i64_in _ (by omega)
              have w2 : (0 : Int) ≤ (k3 : Int) + 1 := by omega
              have w3 : ((k3 : Int) + 1).toNat = k3 + 1 := by omega
              have w4 : (k3 : Int) + 1 < (n2 : Int) := by omega
              have w6 : (k3 : Int) < (n2 : Int) := by omega
              clear hI hsl3 hr hx0 hx1 hn2
              go_wp2_with fail
              refine wp_region_lat (by kernel_rfl) (by kernel_rfl) ?_
              repeat (go_big_quiet_step ((exact Calls.lat_of (Cc2.out _))))
              refine wpQuiet_nil ?_
              intro _ hw'
              obtain ⟨y, hw''⟩ := hw'
              subst hw''
              clear w1 w5
              cases r
              · obtain ⟨F, hF⟩ : ∃ F, F = lat wr y := ⟨_, rfl⟩
                have HJF := Lib.hid (show CompI 142 2 mbrC (fun x : Mbr => Small x.role.size ∧ Small x.of.size) w F B g0 cap l.length l' from hF ▸ HJ.out.aft ((Aft.refl wr).lat y))
                obtain ⟨_, _, hv1, _, _, hrF⟩ := own_rowAt HJF.out.own (by omega)
                simp only [Value.slice.injEq, true_and, Option.some.injEq, Addr.mk.injEq, and_true] at hv1
                obtain ⟨rfl, rfl⟩ := hv1
                have hfl : (l'.flatMap mbrC).length = l.length * 2 := by rw [flatMap_len (size := 2) (fun _ => rfl), hll]
                obtain ⟨u0, z0⟩ : ∃ u, F.cell? ⟨g0, m * 2, none⟩ = some u := ⟨_, by rw [hrF.2.1 (m * 2) (by rw [hfl]; omega), List.getElem?_eq_getElem (by rw [hfl]; omega)]⟩
                obtain ⟨u1, y0⟩ : ∃ u, F.cell? ⟨g0, m * 2 + 1, none⟩ = some u := ⟨_, by rw [hrF.2.1 (m * 2 + 1) (by rw [hfl]; omega), List.getElem?_eq_getElem (by rw [hfl]; omega)]⟩
                have z1 : F.frozen? ⟨g0, m * 2, none⟩ = false := hrF.2.2 (m * 2) (by rw [hfl]; omega)
                have y1 : F.frozen? ⟨g0, m * 2 + 1, none⟩ = false := hrF.2.2 (m * 2 + 1) (by rw [hfl]; omega)
                have z2 : g0 < F.heap.size := hrF.1
                have z3 : F.cell? ⟨g0, (k + 1) * 2 + (k3 + 1) * 2, none⟩ = some (.string x1.role) := by rw [hF]; exact ((Aft.refl wr).lat y).cell_kept d0
                have y3 : F.cell? ⟨g0, (k + 1) * 2 + (k3 + 1) * 2 + 1, none⟩ = some (.string x1.of) := by rw [hF]; exact ((Aft.refl wr).lat y).cell_kept d1
                rw [← hF]
                clear hF
                clear hrF hfl
                have HNEW := Lib.hid (show CompI 142 2 mbrC (fun x : Mbr => Small x.role.size ∧ Small x.of.size) w ((F.setCell ⟨g0, m * 2, none⟩ (.string (x1).role)).setCell ⟨g0, m * 2 + 1, none⟩ (.string (x1).of)) B g0 cap l.length (l'.set m l'[k + 1 + (k3 + 1)]) from by
                  have := compM_set HJF.out (m := m) (i := k + 1 + (k3 + 1)) (by omega) hi1
                  rw [HX.out] at this ⊢
                  simpa using this)
                clear w2 w3 w4 w6
                go_wp2_with fail
                go_roundw
                case rel => exact ⟨m + 1, k3 + 1 + 1, _, by omega, by omega, by omega, by go_num, by go_num, HNEW.out⟩
                case measure => simp [intOf]; omega
              · clear w2 w3 w4 w6
                go_wp2_with fail
                go_roundw
                case rel => exact ⟨m, k3 + 1 + 1, l', by omega, by omega, by omega, rfl, by go_num, HJ.out.aft ((Aft.refl wr).lat y)⟩
                case measure => simp [intOf]; omega
            · have hcm : ¬ cap = m := by omega
              obtain ⟨_, _, hv1, _, _, hrF⟩ := own_rowAt hI.own (by omega)
              simp only [Value.slice.injEq, true_and, Option.some.injEq, Addr.mk.injEq, and_true] at hv1
              obtain ⟨rfl, rfl⟩ := hv1
              have hfl : (l'.flatMap mbrC).length = l.length * 2 := by rw [flatMap_len (size := 2) (fun _ => rfl), hll]
              have hzr : ∀ w : World, (zeroValue 142).run Tryz.prog w = .ok (.agg #[.string ByteArray.empty, .string ByteArray.empty]) w := fun w => by kernel_rfl
              obtain ⟨n3, hn3⟩ : ∃ n3, l.length - m = n3 := ⟨_, rfl⟩
              have hcl : ∀ ty, (Builtin.clear_ #[27] ty #[.slice (some ⟨g0, m * 2, none⟩) n3 (cap - m)]).run Tryz.prog wr = .ok (.tuple #[]) (wr.setCells g0 (m * 2) (Builtin.zeroCells (.agg #[.string ByteArray.empty, .string ByteArray.empty] : Value).cells n3).toList) := fun ty => by
                refine run_clear_n wr _ _ ty _ Tryz.underlying27 hzr (by intro u hu; have hu : u ∈ ([.string ByteArray.empty, .string ByteArray.empty] : List Value) := hu; simp only [List.mem_cons, List.not_mem_nil, or_false] at hu; rcases hu with rfl | rfl <;> rfl) g0 (m * 2) (cap - m) n3 (by omega) (fun j hj => ?_) (fun j hj => ?_)
                · have hj' : j < n3 * 2 := hj
                  have hl : m * 2 + j < (l'.flatMap mbrC).length := by rw [hfl]; omega
                  rw [hrF.2.1 _ hl, List.getElem?_eq_getElem hl]; rfl
                · have hj' : j < n3 * 2 := hj
                  exact hrF.2.2 _ (by rw [hfl]; omega)
              obtain ⟨Z, hZ⟩ : ∃ Z, Z = wr.setCells g0 (m * 2) (Builtin.zeroCells (.agg #[.string ByteArray.empty, .string ByteArray.empty] : Value).cells n3).toList := ⟨_, rfl⟩
              have HZ := Lib.hid (show Kb (fun k => k = g0) w Z from hZ ▸ hI.kb.trans (kb_setCells g0 _ _ _))
              rw [← hZ, ← hn3] at hcl
              skip
              have HF := Lib.hid (show ¬ m = l.length ∧ ¬ NoTwin q l from ⟨by omega, fun h => by have := h k HN.out.2.1; rw [HR.out] at this; cases this⟩)
              have HKIN := Lib.hid kin
              have k3 : (m : Int) ≤ (l.length : Int) := by omega
              have k5 : (l.length : Int) ≤ (cap : Int) := by omega
              have k6 : (m : Int) ≤ (cap : Int) := by omega
              clear hI hrF hfl hzr hZ hn3 hn2 kin
              go_wp2_with fail
              go_ret
              exact ⟨_, _, _, rfl, ⟨fun h => absurd h HF.out.1, fun h => absurd h HF.out.2⟩, HKIN.out _ _ HZ.out⟩
      · have HT := Lib.hid (show NoTwin q l from fun j hj => HP.out j (by omega) hj)
        clear ha
        go_wp2_with fail
        go_ret
        exact ⟨_, _, _, rfl, ⟨fun _ => HT.out, fun _ => rfl⟩, Kb.of_aft HA.out⟩
end Go.Proofs.YtgkhmnamkfgciaaGreat

namespace Go.Proofs.YtgkhmnamkfgciaaGreat
open Go.RowKit
set_option maxRecDepth 100000
set_option linter.unusedVariables false
theorem info2Mem : (Tryz.prog.info? 142).map (fun i => (i.zero, i.size, i.bytes)) = some (some (.agg #[.string ByteArray.empty, .string ByteArray.empty]), 2, 32) := by kernel_rfl
set_option maxHeartbeats 2000000 in
theorem clone2Mem (A : Option Addr) (cap : Nat) (l : List Mbr) (w0 w : World) (ha : Aft w0 w) (h : SlAt w0 2 MbrR A cap l) (hb : l.length ≤ 1000000) :
    Calls Tryz.prog 98 #[.slice A l.length cap] w (CloneQ 142 2 MbrR w0 w l) := by
  obtain ⟨i0, hi, hz0, hz1, hz2⟩ := info_parts info2Mem
  have q22 : ∀ (w : World) (a : Option Addr) (n c n' c' : Nat), (binOp .eql 27 (.slice a n c) (.slice none n' c')).run Tryz.prog w = .ok (.bool a.isNone) w := fun w a n c n' c' => Lib.run_eql_slice_nil w _ _ a n c n' c' Tryz.underlying27
  cases A with
  | none =>
    have hl0 : l = [] := by
      cases l with
      | nil => rfl
      | cons x l => obtain ⟨b, off, cs, hA, _⟩ := h.2.2 0 (by simp); cases hA
    subst hl0
    go_enter Tryz.func98, Tryz.ntmps98
    go_wp2_with fail
    go_ret
    exact ⟨_, [], rfl, Aft.refl _, own_nil _ _ _ _, Chunks.nil⟩
  | some ad =>
    have HC : ∃ css, Chunks w0 2 MbrR css l ∧ ∀ p u, css.flatten[p]? = some u → w.cell? (ad.add p) = some u := by
      by_cases h0 : 0 < l.length
      · obtain ⟨b, off, css, hA, hb', hch, hc⟩ := h.css h0 (by decide)
        simp only [Option.some.injEq] at hA
        subst hA
        refine ⟨css, hch, fun p u hp => ?_⟩
        have hlt : p < l.length * 2 := by rw [← hch.len]; exact (List.getElem?_eq_some_iff.1 hp).1
        rw [add_mk]; exact ha.cell_kept ((hc p hlt).trans hp)
      · have hl0 : l = [] := List.eq_nil_of_length_eq_zero (by omega)
        subst hl0
        exact ⟨[], Chunks.nil, fun p u hp => by simp at hp⟩
    obtain ⟨css, hch, hcell⟩ := HC
    have H1 := Lib.hid hcell
    have H2 : Hid (∀ u ∈ css.flatten, u.oneCell' = true) := Lib.hid (by
      intro u hu
      obtain ⟨c, hc, hu⟩ := List.mem_flatten.1 hu
      obtain ⟨i, hi, rfl⟩ := List.getElem_of_mem hc
      have h3 := (hch.2 i hi (by rw [← hch.1]; exact hi)).2
      obtain ⟨hcs, _⟩ := h3
      rw [hcs] at hu
      simp only [List.mem_cons, List.not_mem_nil, or_false] at hu
      rcases hu with rfl | rfl <;> simp [Value.oneCell'])
    have H3 := Lib.hid hch
    have HI := Lib.hid hi
    have HZ0 := Lib.hid hz0
    have HZ1 := Lib.hid hz1
    have HZ2 := Lib.hid hz2
    clear hcell hch hi hz0 hz1 hz2 h ha
    go_enter Tryz.func98, Tryz.ntmps98
    go_wp2_with (at_builtin; refine wpList_append_own _ rfl _ _ 27 rfl w.heap.size 142 i0 (.agg #[.string ByteArray.empty, .string ByteArray.empty]) 2 32 Tryz.underlying27 HI.out HZ0.out HZ1.out HZ2.out rfl (by decide) _ _ _ rfl (World.ownsRow_made w #[] 0 (Nat.le_refl _) (Nat.zero_le _) rfl) ad l.length cap css.flatten rfl ?qc1 ?qc2 ?qc3 ?qc4 ?qc5 ?qc6 ?_)
    case qc1 => exact H3.out.len
    case qc2 =>
      intro j u hj
      exact Lib.cell?_alloc_some _ (H1.out j u hj)
    case qc3 => exact H2.out
    case qc4 => unfold maxLen; omega
    case qc5 => omega
    case qc6 => simp
    intro v' w1 hown hgrow hnil
    have HO := Lib.hid hown
    have HA := Lib.hid (show Aft w w1 from ((Below.refl _ w).alloc (Nat.le_refl _) _).grown hgrow (by simp) (by intro k hk; simp [Value.ownBlock] at hk; omega))
    clear hown hgrow hnil
    go_wp2_with fail
    go_ret
    refine ⟨v', css, rfl, HA.out, ?_, H3.out⟩
    simpa using HO.out
end Go.Proofs.YtgkhmnamkfgciaaGreat

