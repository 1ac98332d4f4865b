/- slices.IsSortedFunc at texts and at members, whatever the function value. -/
import Derived.Test.YtcdhljcpoopfaaaSeen
import Derived.Test.YtcdhljcpoopfaaaRises
namespace Go.Proofs.Ytcdhljcpoopfaaa
open Go.RowKit
set_option maxRecDepth 100000
set_option linter.unusedVariables false
def Sorted {α : Type} (c : α → α → Int) (l : List α) : Prop := ∀ k (h : k + 1 < l.length), 0 ≤ c l[k + 1] (l[k]'(by omega))
def SortP {α : Type} (c : α → α → Int) (l : List α) (w : World) (e : Ending) (w' : World) : Prop := ∃ b : Bool, e = .returned (.bool b) ∧ (b = true ↔ Sorted c l) ∧ Aft w w'
set_option maxHeartbeats 2000000 in
theorem sortedS (A : Option Addr) (cap : Nat) (l : List ByteArray) (g : FuncId) (caps : Array Value) (c : ByteArray → ByteArray → Int) (w : World) (h : SlAt w 1 StrR A cap l) (hent : ∀ (args : Array Value) (w : World), (callFunc g args).run Try.prog w = .ok (.enter g args) w)
    (hp : ∀ w', Aft w w' → ∀ i (hi : i + 1 < l.length), Calls Try.prog g (#[.string l[i + 1], .string (l[i]'(by omega))] ++ caps) w' fun e w'' => e = .returned (.int .i64 (c l[i + 1] (l[i]'(by omega)))) ∧ Aft w' w'') :
    Calls Try.prog 141 #[.slice A l.length cap, .func (.func g) #[] caps] w (SortP c l w) := by
  have hlen := h.len
  have HC := Lib.hid hp
  clear hp
  by_cases h2 : l.length ≤ 1
  · have HT := Lib.hid (show Sorted c l from fun k hk => by omega)
    have hi2 : (l.length : Int) ≤ 1 := by omega
    have hi3 : (l.length : Int) - 1 ≤ 0 := by omega
    have hi4 : ¬ (0 : Int) < (l.length : Int) - 1 := by omega
    have hw1 : IntKind.i64.wrap ((l.length : Int) - 1) = (l.length : Int) - 1 := IntWalk.i64_in _ (by omega)
    go_enter Try.func141, Try.ntmps141
    go_wp2_with fail
    go_loop [5] (fun i => i = .int .i64 ((l.length : Int) - 1)) (fun i => 2)
    case atStart => rfl
    case round =>
      subst hrel
      go_wp2_with fail
      go_ret
      exact ⟨true, rfl, ⟨fun _ => HT.out, fun _ => rfl⟩, Aft.refl _⟩
  · have hge : 2 ≤ l.length := by omega
    have hi3 : (0 : Int) < (l.length : Int) - 1 := by omega
    have hw1 : IntKind.i64.wrap ((l.length : Int) - 1) = (l.length : Int) - 1 := IntWalk.i64_in _ (by omega)
    go_enter Try.func141, Try.ntmps141
    go_wp2_with fail
    go_loopw [5] (fun i wr => ∃ k : Nat, k ≤ l.length - 1 ∧ i = .int .i64 k ∧ Aft w wr ∧ ∀ j, k ≤ j → ∀ (hj : j + 1 < l.length), 0 ≤ c l[j + 1] (l[j]'(by omega))) (fun i _ => (intOf i).toNat)
    case atStart => exact ⟨l.length - 1, by omega, by congr 1; omega, Aft.refl _, fun j hj h => by omega⟩
    case round =>
      obtain ⟨k, hk, rfl, ha, hp⟩ := hrel
      have HA := Lib.hid ha
      have HP := Lib.hid hp; clear hp
      by_cases h0 : k = 0
      · subst h0
        have HT := Lib.hid (show Sorted c l from fun j hj => HP.out j (by omega) hj)
        clear ha
        go_wp2_with fail
        go_ret
        exact ⟨true, rfl, ⟨fun _ => HT.out, fun _ => rfl⟩, HA.out⟩
      · obtain ⟨k, rfl⟩ : ∃ k', k = k' + 1 := ⟨k - 1, by omega⟩
        have hlt : k + 1 < l.length := by omega
        have hsl := strs_aft ha h
        have hk1 : k < l.length := by omega
        obtain ⟨b, off, rfl, hb, c0, hs⟩ := str_at hsl hk1
        obtain ⟨b', off', hA', hb', d0, hs'⟩ := str_at hsl hlt
        simp only [Option.some.injEq, Addr.mk.injEq, and_true] at hA'
        obtain ⟨rfl, rfl⟩ := hA'
        obtain ⟨r, hr⟩ : ∃ r, c l[k + 1] (l[k]'(by omega)) = r := ⟨_, rfl⟩
        have Cc := Lib.hid (show ∀ x : Lat wr, _ from fun x => hr ▸ HC.out (lat wr x) (HA.out.lat x) k hlt)
        have HR := Lib.hid hr
        clear ha hsl hr
        have w1 : IntKind.i64.wrap (((k + 1 : Nat) : Int) - 1) = (k : Int) := by rw [show ((k + 1 : Nat) : Int) - 1 = (k : Int) from by omega]; exact IntWalk.i64_in _ (by omega)
        have w5 : IntKind.i64.wrap ((k : Int) + 1 - 1) = (k : Int) := by rw [show (k : Int) + 1 - 1 = (k : Int) from by omega]; exact IntWalk.i64_in _ (by omega)
        have w2 : (0 : Int) ≤ (k : Int) + 1 := by omega
        have w3 : ((k : Int) + 1).toNat = k + 1 := by omega
        have w4 : (k : Int) + 1 < (l.length : Int) := by omega
        have w6 : (0 : Int) < (k : Int) + 1 := by omega
        by_cases hr0 : r < 0
        · go_wp2_with fail
          refine wp_region_lat (by kernel_rfl) (by kernel_rfl) ?_
          repeat (go_big_quiet_step ((exact Calls.lat_of (Cc.out _))))
          refine wpQuiet_nil ?_
          intro _ hw'
          obtain ⟨x, hw''⟩ := hw'
          subst hw''
          clear w1 w2 w3 w4 w5 w6
          go_wp2_with fail
          go_ret
          exact ⟨false, rfl, ⟨fun h => Bool.noConfusion h, fun h => absurd (h k hlt) (by rw [HR.out]; omega)⟩, HA.out.lat x⟩
        · go_wp2_with fail
          refine wp_region_lat (by kernel_rfl) (by kernel_rfl) ?_
          repeat (go_big_quiet_step ((exact Calls.lat_of (Cc.out _))))
          refine wpQuiet_nil ?_
          intro _ hw'
          obtain ⟨x, hw''⟩ := hw'
          subst hw''
          go_wp2_with fail
          go_roundw
          case rel =>
            refine ⟨k, by omega, by first | rfl | go_num, HA.out.lat x, fun j hj hj2 => ?_⟩
            rcases Nat.lt_or_ge k j with h1 | h1
            · exact HP.out j (by omega) hj2
            · have : j = k := by omega
              subst this
              rw [HR.out]; omega
          case measure => simp [intOf]
set_option maxHeartbeats 2000000 in
theorem sortedM (A : Option Addr) (cap : Nat) (l : List Mbr) (g : FuncId) (caps : Array Value) (c : Mbr → Mbr → Int) (w : World) (h : SlAt w 2 MbrR A cap l) (hent : ∀ (args : Array Value) (w : World), (callFunc g args).run Try.prog w = .ok (.enter g args) w)
    (hp : ∀ w', Aft w w' → ∀ i (hi : i + 1 < l.length), Calls Try.prog g (#[.agg #[.string (l[i + 1]).role, .string (l[i + 1]).of], .agg #[.string (l[i]'(by omega)).role, .string (l[i]'(by omega)).of]] ++ caps) w' fun e w'' => e = .returned (.int .i64 (c l[i + 1] (l[i]'(by omega)))) ∧ Aft w' w'') :
    Calls Try.prog 144 #[.slice A l.length cap, .func (.func g) #[] caps] w (SortP c l w) := by
  have hlen := h.len
  have HC := Lib.hid hp
  clear hp
  by_cases h2 : l.length ≤ 1
  · have HT := Lib.hid (show Sorted c l from fun k hk => by omega)
    have hi2 : (l.length : Int) ≤ 1 := by omega
    have hi3 : (l.length : Int) - 1 ≤ 0 := by omega
    have hi4 : ¬ (0 : Int) < (l.length : Int) - 1 := by omega
    have hw1 : IntKind.i64.wrap ((l.length : Int) - 1) = (l.length : Int) - 1 := IntWalk.i64_in _ (by omega)
    go_enter Try.func144, Try.ntmps144
    go_wp2_with fail
    go_loop [5] (fun i => i = .int .i64 ((l.length : Int) - 1)) (fun i => 2)
    case atStart => rfl
    case round =>
      subst hrel
      go_wp2_with fail
      go_ret
      exact ⟨true, rfl, ⟨fun _ => HT.out, fun _ => rfl⟩, Aft.refl _⟩
  · have hge : 2 ≤ l.length := by omega
    have hi3 : (0 : Int) < (l.length : Int) - 1 := by omega
    have hw1 : IntKind.i64.wrap ((l.length : Int) - 1) = (l.length : Int) - 1 := IntWalk.i64_in _ (by omega)
    go_enter Try.func144, Try.ntmps144
    go_wp2_with fail
    go_loopw [5] (fun i wr => ∃ k : Nat, k ≤ l.length - 1 ∧ i = .int .i64 k ∧ Aft w wr ∧ ∀ j, k ≤ j → ∀ (hj : j + 1 < l.length), 0 ≤ c l[j + 1] (l[j]'(by omega))) (fun i _ => (intOf i).toNat)
    case atStart => exact ⟨l.length - 1, by omega, by congr 1; omega, Aft.refl _, fun j hj h => by omega⟩
    case round =>
      obtain ⟨k, hk, rfl, ha, hp⟩ := hrel
      have HA := Lib.hid ha
      have HP := Lib.hid hp; clear hp
      by_cases h0 : k = 0
      · subst h0
        have HT := Lib.hid (show Sorted c l from fun j hj => HP.out j (by omega) hj)
        clear ha
        go_wp2_with fail
        go_ret
        exact ⟨true, rfl, ⟨fun _ => HT.out, fun _ => rfl⟩, HA.out⟩
      · obtain ⟨k, rfl⟩ : ∃ k', k = k' + 1 := ⟨k - 1, by omega⟩
        have hlt : k + 1 < l.length := by omega
        have hsl := mbrs_aft ha h
        have hk1 : k < l.length := by omega
        obtain ⟨b, off, rfl, hb, c0, c1, hs, hs2⟩ := mbr_at hsl hk1
        obtain ⟨b', off', hA', hb', d0, d1, hs', hs2'⟩ := mbr_at hsl hlt
        simp only [Option.some.injEq, Addr.mk.injEq, and_true] at hA'
        obtain ⟨rfl, rfl⟩ := hA'
        obtain ⟨r, hr⟩ : ∃ r, c l[k + 1] (l[k]'(by omega)) = r := ⟨_, rfl⟩
        have Cc := Lib.hid (show ∀ x : Lat wr, _ from fun x => hr ▸ HC.out (lat wr x) (HA.out.lat x) k hlt)
        have HR := Lib.hid hr
        clear ha hsl hr
        have w1 : IntKind.i64.wrap (((k + 1 : Nat) : Int) - 1) = (k : Int) := by rw [show ((k + 1 : Nat) : Int) - 1 = (k : Int) from by omega]; exact IntWalk.i64_in _ (by omega)
        have w5 : IntKind.i64.wrap ((k : Int) + 1 - 1) = (k : Int) := by rw [show (k : Int) + 1 - 1 = (k : Int) from by omega]; exact IntWalk.i64_in _ (by omega)
        have w2 : (0 : Int) ≤ (k : Int) + 1 := by omega
        have w3 : ((k : Int) + 1).toNat = k + 1 := by omega
        have w4 : (k : Int) + 1 < (l.length : Int) := by omega
        have w6 : (0 : Int) < (k : Int) + 1 := by omega
        by_cases hr0 : r < 0
        · go_wp2_with fail
          refine wp_region_lat (by kernel_rfl) (by kernel_rfl) ?_
          repeat (go_big_quiet_step ((exact Calls.lat_of (Cc.out _))))
          refine wpQuiet_nil ?_
          intro _ hw'
          obtain ⟨x, hw''⟩ := hw'
          subst hw''
          clear w1 w2 w3 w4 w5 w6
          go_wp2_with fail
          go_ret
          exact ⟨false, rfl, ⟨fun h => Bool.noConfusion h, fun h => absurd (h k hlt) (by rw [HR.out]; omega)⟩, HA.out.lat x⟩
        · go_wp2_with fail
          refine wp_region_lat (by kernel_rfl) (by kernel_rfl) ?_
          repeat (go_big_quiet_step ((exact Calls.lat_of (Cc.out _))))
          refine wpQuiet_nil ?_
          intro _ hw'
          obtain ⟨x, hw''⟩ := hw'
          subst hw''
          go_wp2_with fail
          go_roundw
          case rel =>
            refine ⟨k, by omega, by first | rfl | go_num, HA.out.lat x, fun j hj hj2 => ?_⟩
            rcases Nat.lt_or_ge k j with h1 | h1
            · exact HP.out j (by omega) hj2
            · have : j = k := by omega
              subst this
              rw [HR.out]; omega
          case measure => simp [intOf]
end Go.Proofs.Ytcdhljcpoopfaaa
