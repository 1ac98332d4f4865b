/- Contracts of the program, part 4. -/
import Derived.Test.YticjnndhpfdajaaGreatPart2
import Derived.Lib.Bytealg
import Derived.StillTailTactics
import Derived.Test.YticjnndhpfdajaaGreatPart3
import Derived.IntWalk
/- strings.Compare, cmp.Or, and the orders that are made of them. -/
namespace Go.Proofs.YticjnndhpfdajaaGreat
open Go.RowKit
set_option maxRecDepth 100000
set_option linter.unusedVariables false
def cmpS (a b : ByteArray) : Int := Lib.compareBytes a.data.toList b.data.toList
set_option maxHeartbeats 400000 in
theorem cmpString (a b : ByteArray) (w : World) :
    Calls Tryz.prog 149 #[.string a, .string b] w fun e w' => e = .returned (.int .i64 (cmpS a b)) ∧ w = w' := by
  go_enter Tryz.func149, Tryz.ntmps149
  go_wp2
  rw [run_callFunc_extern Tryz.func204 (by kernel_rfl) (by kernel_rfl) (by kernel_rfl) (e := Extern.BytealgCompare.compare) (by kernel_rfl), Lib.run_compareString]
  simp only [Result.andThen]
  rw [Oper.upon_value]
  go_wp2
  go_ret
  exact ⟨rfl, rfl⟩
theorem compare_any (a b : ByteArray) (w : World) :
    Calls Tryz.prog 69 #[.string a, .string b] w fun e w' => e = .returned (.int .i64 (cmpS a b)) ∧ w = w' := by
  go_enter Tryz.func69, Tryz.ntmps69
  go_wp2_with (go_at_call 149; refine (cmpString _ _ _).mono ?_; rintro e w' ⟨rfl, rfl⟩)
  go_ret
  exact ⟨rfl, rfl⟩
theorem compare_still (a b : ByteArray) (w : World) :
    Calls Tryz.prog 69 #[.string a, .string b] w fun e w' => e = .returned (.int .i64 (cmpS a b)) ∧ w' = w := (compare_any a b w).mono fun e w' ⟨h1, h2⟩ => ⟨h1, h2.symm⟩
/-- the first that is not 0 -/
def or2 (a b : Int) : Int := if a == 0 then b else a
set_option maxHeartbeats 1000000 in
theorem or_any (a b : Int) (g : Nat) (w : World) (hg : g < w.heap.size) (h0 : w.cell? ⟨g, 0, none⟩ = some (.int .i64 a)) (h1 : w.cell? ⟨g, 1, none⟩ = some (.int .i64 b)) :
    Calls Tryz.prog 163 #[.slice (some ⟨g, 0, none⟩) 2 2] w fun e w' => e = .returned (.int .i64 (or2 a b)) ∧ Aft w w' := by
  cases ha : (a != 0)
  · have ha0 : a = 0 := by simpa using ha
    subst ha0
    have HO := Lib.hid (show or2 0 b = b by simp [or2])
    clear ha
    cases hb : (b != 0)
    · have hb0 : b = 0 := by simpa using hb
      subst hb0
      clear hb
      go_enter Tryz.func163, Tryz.ntmps163
      go_wp2_with fail
      go_loop [8] (fun i => ∃ k : Nat, k ≤ 2 ∧ i = .int .i64 k) (fun i => 2 - (intOf i).toNat)
      case atStart => exact ⟨0, by omega, rfl⟩
      case round =>
        obtain ⟨k, hk, rfl⟩ := hrel
        have hk2 : k = 0 ∨ k = 1 ∨ k = 2 := by omega
        clear hk
        rcases hk2 with rfl | rfl | rfl
        · go_wp2_with fail
          go_round
          case rel => exact ⟨1, by omega, rfl⟩
          case measure => simp [intOf]
        · go_wp2_with fail
          go_round
          case rel => exact ⟨2, by omega, rfl⟩
          case measure => simp [intOf]
        · go_wp2_with fail
          go_ret
          exact ⟨by rw [HO.out]; rfl, Aft.refl _⟩
    · go_enter Tryz.func163, Tryz.ntmps163
      go_wp2_with fail
      go_loop [8] (fun i => ∃ k : Nat, k ≤ 1 ∧ i = .int .i64 k) (fun i => 2 - (intOf i).toNat)
      case atStart => exact ⟨0, by omega, rfl⟩
      case round =>
        obtain ⟨k, hk, rfl⟩ := hrel
        have hk2 : k = 0 ∨ k = 1 := by omega
        clear hk
        rcases hk2 with rfl | rfl
        · go_wp2_with fail
          go_round
          case rel => exact ⟨1, by omega, rfl⟩
          case measure => simp [intOf]
        · go_wp2_with fail
          go_ret
          exact ⟨by rw [HO.out]; rfl, Aft.refl _⟩
  · have HO := Lib.hid (show or2 a b = a by have : ¬ a = 0 := by simpa using ha
                                            simp [or2, this])
    go_enter Tryz.func163, Tryz.ntmps163
    go_wp2_with fail
    go_loop [8] (fun i => i = .int .i64 0) (fun i => 2 - (intOf i).toNat)
    case atStart => rfl
    case round =>
      subst hrel
      go_wp2_with fail
      go_ret
      exact ⟨by rw [HO.out]; rfl, Aft.refl _⟩
set_option maxHeartbeats 1000000 in
theorem order_any (s1 n1 o1 : ByteArray) (v1 v2 : Value) (s2 n2 o2 : ByteArray) (v3 v4 : Value) (w : World) :
    Calls Tryz.prog 102 #[.agg #[.string s1, .string n1, .string o1, v1, v2], .agg #[.string s2, .string n2, .string o2, v3, v4]] w fun e w' => e = .returned (.int .i64 (or2 (cmpS s1 s2) (cmpS n1 n2))) ∧ Aft w w' := by
  go_enter Tryz.func102, Tryz.ntmps102
  go_wp2_with fail
  refine wp_region_tail 10 (by kernel_rfl) (by kernel_rfl) ?_
  intro w1 a1
  obtain ⟨hb1, hb2, hz, HA⟩ := aft_box2 a1
  clear a1
  simp only [List.take_succ_cons, List.take_zero, List.drop_succ_cons, List.drop_zero]
  repeat still_step
  still_call (compare_still _ _ _)
  repeat still_step
  still_call (compare_still _ _ _)
  refine wpStill_nil ?_
  go_wp2_with fail
  refine (or_any (cmpS s1 s2) (cmpS n1 n2) w1.heap.size _ (by simp) (by simp) (by simp)).mono ?_
  rintro e w2 ⟨rfl, a2⟩
  have HA2 := Lib.hid ((HA.out.alloc _).trans a2)
  clear a2
  go_wp2_with fail
  go_ret
  exact ⟨rfl, HA2.out⟩
end Go.Proofs.YticjnndhpfdajaaGreat
/- objects.rises. -/
namespace Go.Proofs.YticjnndhpfdajaaGreat
open Go.RowKit
set_option maxRecDepth 100000
set_option linter.unusedVariables false
/-- does a row rise? -/
def risesB {α : Type} (c : α → α → Int) : List α → Bool
  | [] => true
  | [_] => true
  | x :: y :: l => decide (c x y < 0) && risesB c (y :: l)
theorem risesB_iff {α : Type} (c : α → α → Int) (l : List α) : risesB c l = true ↔ ∀ k (h : k + 1 < l.length), c (l[k]'(by omega)) l[k + 1] < 0 := by
  induction l with
  | nil => simp [risesB]
  | cons x l ih =>
    cases l with
    | nil => simp [risesB]
    | cons y l =>
      rw [risesB, Bool.and_eq_true, ih, decide_eq_true_eq]
      constructor
      · rintro ⟨h1, h2⟩ k hk
        cases k with
        | zero => exact h1
        | succ k => exact h2 k (by simpa using hk)
      · intro h
        exact ⟨h 0 (by simp), fun k hk => h (k + 1) (by simpa using hk)⟩
theorem risesB_false {α : Type} (c : α → α → Int) (l : List α) (k : Nat) (h : k + 1 < l.length) (hc : 0 ≤ c (l[k]'(by omega)) l[k + 1]) : risesB c l = false := by
  rw [Bool.eq_false_iff]
  intro hr
  have := (risesB_iff c l).1 hr k h
  omega
set_option maxHeartbeats 1000000 in
theorem risesSch (A : Option Addr) (cap : Nat) (l : List Sch) (g : FuncId) (caps : Array Value) (c : Sch → Sch → Int) (w : World) (h : SlAt w 2 SchR A cap l) (hent : ∀ (args : Array Value) (w : World), (callFunc g args).run Tryz.prog w = .ok (.enter g args) w)
    (hp : ∀ w', Aft w w' → ∀ i (hi : i + 1 < l.length), Calls Tryz.prog g (#[.agg #[.string (l[i]'(by omega)).name, .string (l[i]'(by omega)).owner], .agg #[.string l[i + 1].name, .string l[i + 1].owner]] ++ caps) w' fun e w'' => e = .returned (.int .i64 (c (l[i]'(by omega)) l[i + 1])) ∧ Aft w' w'') :
    Calls Tryz.prog 103 #[.slice A l.length cap, .func (.func g) #[] caps] w fun e w' => e = .returned (.bool (risesB c l)) ∧ Aft w w' := by
  have hlen := h.len
  have HC := Lib.hid hp
  clear hp
  by_cases h2 : l.length ≤ 1
  · have HT := Lib.hid (show risesB c l = true from (risesB_iff c l).2 fun k hk => by omega)
    have hi2 : (l.length : Int) ≤ 1 := by omega
    go_enter Tryz.func103, Tryz.ntmps103
    go_wp2_with fail
    all_goals
      go_loop [10] (fun i => i = .int .i64 0) (fun i => 2 - (intOf i).toNat)
      case atStart => rfl
      case round =>
        subst hrel
        go_wp2_with fail
        go_ret
        exact ⟨by rw [HT.out]; rfl, Aft.refl _⟩
  · have hge : 2 ≤ l.length := by omega
    have hi2 : ¬ (l.length : Int) ≤ 1 := by omega
    have hi3 : (0 : Int) ≤ (l.length : Int) - 1 := by omega
    go_enter Tryz.func103, Tryz.ntmps103
    go_wp2_with fail
    go_loopw [10] (fun i wr => ∃ k : Nat, k ≤ l.length - 1 ∧ i = .int .i64 k ∧ Aft w wr ∧ ∀ j, j < k → ∀ (hj : j + 1 < l.length), c (l[j]'(by omega)) l[j + 1] < 0) (fun i _ => l.length - (intOf i).toNat)
    case atStart => exact ⟨0, Nat.zero_le _, rfl, Aft.refl _, fun j hj => absurd hj (Nat.not_lt_zero j)⟩
    case round =>
      obtain ⟨k, hk, rfl, ha, hp⟩ := hrel
      have HA := Lib.hid ha
      have HP := Lib.hid hp; clear hp
      by_cases hlt : k + 1 < l.length
      · have hsl := schs_aft ha h
        have hk1 : k < l.length := by omega
        obtain ⟨b, off, rfl, hb, c0, c1, hs, hs2⟩ := sch_at hsl hk1
        obtain ⟨b', off', hA', hb', d0, d1, hs', hs2'⟩ := sch_at hsl hlt
        simp only [Option.some.injEq, Addr.mk.injEq, and_true] at hA'
        obtain ⟨rfl, rfl⟩ := hA'
        obtain ⟨r, hr⟩ : ∃ r, c (l[k]'(by omega)) l[k + 1] = r := ⟨_, rfl⟩
        have Cc := Lib.hid (show ∀ x : Lat wr, _ from fun x => hr ▸ HC.out (lat wr x) (HA.out.lat x) k hlt)
        have HR := Lib.hid hr
        clear ha hsl hr
        have w1 : IntKind.i64.wrap ((k : Int) + 1) = (k : Int) + 1 := IntWalk.i64_in _ (by omega)
        have w2 : (0 : Int) ≤ (k : Int) + 1 := by omega
        have w3 : ((k : Int) + 1).toNat = k + 1 := by omega
        have w4 : (k : Int) + 1 < (l.length : Int) := by omega
        by_cases hr0 : 0 ≤ r
        · skip
          go_wp2_with fail
          refine wp_region_lat (by kernel_rfl) (by kernel_rfl) ?_
          repeat (go_big_quiet_step ((exact Calls.lat_of (Cc.out _))))
          refine wpQuiet_nil ?_
          intro _ hw'
          obtain ⟨x, hw''⟩ := hw'
          subst hw''
          clear w1 w2 w3 w4
          go_wp2_with fail
          go_ret
          exact ⟨by rw [risesB_false c l k hlt (by rw [HR.out]; exact hr0)]; rfl, HA.out.lat x⟩
        · have hr1 : r < 0 := by omega
          go_wp2_with fail
          refine wp_region_lat (by kernel_rfl) (by kernel_rfl) ?_
          repeat (go_big_quiet_step ((exact Calls.lat_of (Cc.out _))))
          refine wpQuiet_nil ?_
          intro _ hw'
          obtain ⟨x, hw''⟩ := hw'
          subst hw''
          clear w1 w2 w3 w4
          go_wp2_with fail
          go_roundw
          case rel => exact ⟨k + 1, by omega, by go_num, HA.out.lat x, ext_lt (p := fun j => ∀ (hj : j + 1 < l.length), c (l[j]'(by omega)) l[j + 1] < 0) HP.out (fun _ => by rw [HR.out]; exact hr1)⟩
          case measure => simp [intOf]; omega
      · have HT := Lib.hid (show risesB c l = true from (risesB_iff c l).2 fun j hj => HP.out j (by omega) hj)
        have hge2 : ¬ (k : Int) < (l.length : Int) - 1 := by omega
        clear ha
        go_wp2_with fail
        go_ret
        exact ⟨by rw [HT.out]; rfl, HA.out⟩
set_option maxHeartbeats 1000000 in
theorem risesRul (A : Option Addr) (cap : Nat) (l : List Rul) (g : FuncId) (caps : Array Value) (c : Rul → Rul → Int) (w : World) (h : SlAt w 8 RulR A cap l) (hent : ∀ (args : Array Value) (w : World), (callFunc g args).run Tryz.prog w = .ok (.enter g args) w)
    (hp : ∀ w', Aft w w' → ∀ i (hi : i + 1 < l.length) (e1 e2 : List Value), RulR w' e1 (l[i]'(by omega)) → RulR w' e2 l[i + 1] → Calls Tryz.prog g (#[.agg e1.toArray, .agg e2.toArray] ++ caps) w' fun e w'' => e = .returned (.int .i64 (c (l[i]'(by omega)) l[i + 1])) ∧ Aft w' w'') :
    Calls Tryz.prog 164 #[.slice A l.length cap, .func (.func g) #[] caps] w fun e w' => e = .returned (.bool (risesB c l)) ∧ Aft w w' := by
  have hlen := h.len
  have HC := Lib.hid hp
  clear hp
  by_cases h2 : l.length ≤ 1
  · have HT := Lib.hid (show risesB c l = true from (risesB_iff c l).2 fun k hk => by omega)
    have hi2 : (l.length : Int) ≤ 1 := by omega
    go_enter Tryz.func164, Tryz.ntmps164
    go_wp2_with fail
    all_goals
      go_loop [10] (fun i => i = .int .i64 0) (fun i => 2 - (intOf i).toNat)
      case atStart => rfl
      case round =>
        subst hrel
        go_wp2_with fail
        go_ret
        exact ⟨by rw [HT.out]; rfl, Aft.refl _⟩
  · have hge : 2 ≤ l.length := by omega
    have hi2 : ¬ (l.length : Int) ≤ 1 := by omega
    have hi3 : (0 : Int) ≤ (l.length : Int) - 1 := by omega
    go_enter Tryz.func164, Tryz.ntmps164
    go_wp2_with fail
    go_loopw [10] (fun i wr => ∃ k : Nat, k ≤ l.length - 1 ∧ i = .int .i64 k ∧ Aft w wr ∧ ∀ j, j < k → ∀ (hj : j + 1 < l.length), c (l[j]'(by omega)) l[j + 1] < 0) (fun i _ => l.length - (intOf i).toNat)
    case atStart => exact ⟨0, Nat.zero_le _, rfl, Aft.refl _, fun j hj => absurd hj (Nat.not_lt_zero j)⟩
    case round =>
      obtain ⟨k, hk, rfl, ha, hp⟩ := hrel
      have HA := Lib.hid ha
      have HP := Lib.hid hp; clear hp
      by_cases hlt : k + 1 < l.length
      · have hsl := ruls_aft ha h
        have hk1 : k < l.length := by omega
        obtain ⟨b, off, A2, cap2, rfl, hb, c0, c1, c2, c3, c4, c5, c6, c7, hs⟩ := rul_at hsl hk1
        obtain ⟨b', off', A2', cap2', hA', hb', d0, d1, d2, d3, d4, d5, d6, d7, hs'⟩ := rul_at hsl hlt
        simp only [Option.some.injEq, Addr.mk.injEq, and_true] at hA'
        obtain ⟨rfl, rfl⟩ := hA'
        obtain ⟨r, hr⟩ : ∃ r, c (l[k]'(by omega)) l[k + 1] = r := ⟨_, rfl⟩
        have Cc := Lib.hid (show ∀ x : Lat wr, _ from fun x => hr ▸ HC.out (lat wr x) (HA.out.lat x) k hlt _ _ (RulR.aft ((Aft.refl wr).lat x) ⟨A2, cap2, rfl, hs⟩) (RulR.aft ((Aft.refl wr).lat x) ⟨A2', cap2', rfl, hs'⟩))
        have HR := Lib.hid hr
        clear ha hsl hr
        have w1 : IntKind.i64.wrap ((k : Int) + 1) = (k : Int) + 1 := IntWalk.i64_in _ (by omega)
        have w2 : (0 : Int) ≤ (k : Int) + 1 := by omega
        have w3 : ((k : Int) + 1).toNat = k + 1 := by omega
        have w4 : (k : Int) + 1 < (l.length : Int) := by omega
        by_cases hr0 : 0 ≤ r
        · skip
          go_wp2_with fail
          refine wp_region_lat (by kernel_rfl) (by kernel_rfl) ?_
          repeat (go_big_quiet_step ((exact Calls.lat_of (Cc.out _))))
          refine wpQuiet_nil ?_
          intro _ hw'
          obtain ⟨x, hw''⟩ := hw'
          subst hw''
          clear w1 w2 w3 w4
          go_wp2_with fail
          go_ret
          exact ⟨by rw [risesB_false c l k hlt (by rw [HR.out]; exact hr0)]; rfl, HA.out.lat x⟩
        · have hr1 : r < 0 := by omega
          go_wp2_with fail
          refine wp_region_lat (by kernel_rfl) (by kernel_rfl) ?_
          repeat (go_big_quiet_step ((exact Calls.lat_of (Cc.out _))))
          refine wpQuiet_nil ?_
          intro _ hw'
          obtain ⟨x, hw''⟩ := hw'
          subst hw''
          clear w1 w2 w3 w4
          go_wp2_with fail
          go_roundw
          case rel => exact ⟨k + 1, by omega, by go_num, HA.out.lat x, ext_lt (p := fun j => ∀ (hj : j + 1 < l.length), c (l[j]'(by omega)) l[j + 1] < 0) HP.out (fun _ => by rw [HR.out]; exact hr1)⟩
          case measure => simp [intOf]; omega
      · have HT := Lib.hid (show risesB c l = true from (risesB_iff c l).2 fun j hj => HP.out j (by omega) hj)
        have hge2 : ¬ (k : Int) < (l.length : Int) - 1 := by omega
        clear ha
        go_wp2_with fail
        go_ret
        exact ⟨by rw [HT.out]; rfl, HA.out⟩
set_option maxHeartbeats 1000000 in
theorem risesTab (A : Option Addr) (cap : Nat) (l : List Tab) (g : FuncId) (caps : Array Value) (c : Tab → Tab → Int) (w : World) (h : SlAt w 5 TabR A cap l) (hent : ∀ (args : Array Value) (w : World), (callFunc g args).run Tryz.prog w = .ok (.enter g args) w)
    (hp : ∀ w', Aft w w' → ∀ i (hi : i + 1 < l.length) (e1 e2 : List Value), TabR w' e1 (l[i]'(by omega)) → TabR w' e2 l[i + 1] → Calls Tryz.prog g (#[.agg e1.toArray, .agg e2.toArray] ++ caps) w' fun e w'' => e = .returned (.int .i64 (c (l[i]'(by omega)) l[i + 1])) ∧ Aft w' w'') :
    Calls Tryz.prog 101 #[.slice A l.length cap, .func (.func g) #[] caps] w fun e w' => e = .returned (.bool (risesB c l)) ∧ Aft w w' := by
  have hlen := h.len
  have HC := Lib.hid hp
  clear hp
  by_cases h2 : l.length ≤ 1
  · have HT := Lib.hid (show risesB c l = true from (risesB_iff c l).2 fun k hk => by omega)
    have hi2 : (l.length : Int) ≤ 1 := by omega
    go_enter Tryz.func101, Tryz.ntmps101
    go_wp2_with fail
    all_goals
      go_loop [10] (fun i => i = .int .i64 0) (fun i => 2 - (intOf i).toNat)
      case atStart => rfl
      case round =>
        subst hrel
        go_wp2_with fail
        go_ret
        exact ⟨by rw [HT.out]; rfl, Aft.refl _⟩
  · have hge : 2 ≤ l.length := by omega
    have hi2 : ¬ (l.length : Int) ≤ 1 := by omega
    have hi3 : (0 : Int) ≤ (l.length : Int) - 1 := by omega
    go_enter Tryz.func101, Tryz.ntmps101
    go_wp2_with fail
    go_loopw [10] (fun i wr => ∃ k : Nat, k ≤ l.length - 1 ∧ i = .int .i64 k ∧ Aft w wr ∧ ∀ j, j < k → ∀ (hj : j + 1 < l.length), c (l[j]'(by omega)) l[j + 1] < 0) (fun i _ => l.length - (intOf i).toNat)
    case atStart => exact ⟨0, Nat.zero_le _, rfl, Aft.refl _, fun j hj => absurd hj (Nat.not_lt_zero j)⟩
    case round =>
      obtain ⟨k, hk, rfl, ha, hp⟩ := hrel
      have HA := Lib.hid ha
      have HP := Lib.hid hp; clear hp
      by_cases hlt : k + 1 < l.length
      · have hsl := tabs_aft ha h
        have hk1 : k < l.length := by omega
        obtain ⟨b, off, A2, cap2, A3, cap3, rfl, hb, c0, c1, c2, c3, c4, hs⟩ := tab_at hsl hk1
        obtain ⟨b', off', A2', cap2', A3', cap3', hA', hb', d0, d1, d2, d3, d4, hs'⟩ := tab_at hsl hlt
        simp only [Option.some.injEq, Addr.mk.injEq, and_true] at hA'
        obtain ⟨rfl, rfl⟩ := hA'
        obtain ⟨r, hr⟩ : ∃ r, c (l[k]'(by omega)) l[k + 1] = r := ⟨_, rfl⟩
        have Cc := Lib.hid (show ∀ x : Lat wr, _ from fun x => hr ▸ HC.out (lat wr x) (HA.out.lat x) k hlt _ _ (TabR.aft ((Aft.refl wr).lat x) ⟨A2, cap2, A3, cap3, rfl, hs⟩) (TabR.aft ((Aft.refl wr).lat x) ⟨A2', cap2', A3', cap3', rfl, hs'⟩))
        have HR := Lib.hid hr
        clear ha hsl hr
        have w1 : IntKind.i64.wrap ((k : Int) + 1) = (k : Int) + 1 := IntWalk.i64_in _ (by omega)
        have w2 : (0 : Int) ≤ (k : Int) + 1 := by omega
        have w3 : ((k : Int) + 1).toNat = k + 1 := by omega
        have w4 : (k : Int) + 1 < (l.length : Int) := by omega
        by_cases hr0 : 0 ≤ r
        · skip
          go_wp2_with fail
          refine wp_region_lat (by kernel_rfl) (by kernel_rfl) ?_
          repeat (go_big_quiet_step ((exact Calls.lat_of (Cc.out _))))
          refine wpQuiet_nil ?_
          intro _ hw'
          obtain ⟨x, hw''⟩ := hw'
          subst hw''
          clear w1 w2 w3 w4
          go_wp2_with fail
          go_ret
          exact ⟨by rw [risesB_false c l k hlt (by rw [HR.out]; exact hr0)]; rfl, HA.out.lat x⟩
        · have hr1 : r < 0 := by omega
          go_wp2_with fail
          refine wp_region_lat (by kernel_rfl) (by kernel_rfl) ?_
          repeat (go_big_quiet_step ((exact Calls.lat_of (Cc.out _))))
          refine wpQuiet_nil ?_
          intro _ hw'
          obtain ⟨x, hw''⟩ := hw'
          subst hw''
          clear w1 w2 w3 w4
          go_wp2_with fail
          go_roundw
          case rel => exact ⟨k + 1, by omega, by go_num, HA.out.lat x, ext_lt (p := fun j => ∀ (hj : j + 1 < l.length), c (l[j]'(by omega)) l[j + 1] < 0) HP.out (fun _ => by rw [HR.out]; exact hr1)⟩
          case measure => simp [intOf]; omega
      · have HT := Lib.hid (show risesB c l = true from (risesB_iff c l).2 fun j hj => HP.out j (by omega) hj)
        have hge2 : ¬ (k : Int) < (l.length : Int) - 1 := by omega
        clear ha
        go_wp2_with fail
        go_ret
        exact ⟨by rw [HT.out]; rfl, HA.out⟩
end Go.Proofs.YticjnndhpfdajaaGreat
/- Plain: the place in a row that rises; what goes in and out there. -/
namespace Go.Proofs.YticjnndhpfdajaaGreat
set_option linter.unusedVariables false
/-- how many are less -/
def posB {α : Type} (c : α → α → Int) (l : List α) (x : α) : Nat := l.countP fun y => decide (c y x < 0)
theorem countP_bound {α : Type} (p : α → Bool) : ∀ (l : List α) (i : Nat), i ≤ l.length → (∀ t (h : t < l.length), t < i → p l[t] = true) → (∀ t (h : t < l.length), i ≤ t → p l[t] = false) → l.countP p = i
  | [], i, hi, _, _ => by simp at hi; simp [hi]
  | a :: r, 0, _, _, h2 => by
    rw [List.countP_eq_zero]
    intro x hx
    obtain ⟨t, ht, rfl⟩ := List.getElem_of_mem hx
    rw [h2 t ht (Nat.zero_le _)]; simp
  | a :: r, i + 1, hi, h1, h2 => by
    have ha : p a = true := h1 0 (by simp) (Nat.succ_pos _)
    rw [List.countP_cons_of_pos ha, countP_bound p r i (by simpa using hi) (fun t h ht => h1 (t + 1) (by simpa using h) (by omega)) (fun t h ht => h2 (t + 1) (by simpa using h) (by omega))]
/-- in a row that rises, what is less lies ahead -/
theorem rises_lt {α : Type} {c : α → α → Int} (tr : ∀ a b d, c a b < 0 → c b d < 0 → c a d < 0) {l : List α} (h : risesB c l = true) : ∀ (a b : Nat) (ha : a < l.length) (hb : b < l.length), a < b → c l[a] l[b] < 0 := by
  intro a b
  induction b with
  | zero => intro ha hb hab; omega
  | succ b ih =>
    intro ha hb hab
    have h1 := (risesB_iff c l).1 h b hb
    rcases Nat.lt_or_ge a b with h2 | h2
    · exact tr _ _ _ (ih ha (by omega) h2) h1
    · have : a = b := by omega
      subst this; exact h1
theorem rises_mono {α : Type} {c : α → α → Int} (tr : ∀ a b d, c a b < 0 → c b d < 0 → c a d < 0) {l : List α} (h : risesB c l = true) (x : α) (a b : Nat) (ha : a < l.length) (hb : b < l.length) (hab : a ≤ b) (hx : c l[b] x < 0) : c l[a] x < 0 := by
  rcases Nat.lt_or_ge a b with h2 | h2
  · exact tr _ _ _ (rises_lt tr h a b ha hb h2) hx
  · have : a = b := by omega
    subst this; exact hx
theorem posB_le {α : Type} (c : α → α → Int) (l : List α) (x : α) : posB c l x ≤ l.length := List.countP_le_length
/-- is it there? -/
def thereB {α : Type} (c : α → α → Int) (l : List α) (x : α) : Bool := match l[posB c l x]? with | some y => decide (c y x = 0) | none => false
def insAt {α : Type} (l : List α) (p : Nat) (x : α) : List α := l.take p ++ [x] ++ l.drop p
theorem there_lt {α : Type} {c : α → α → Int} {l : List α} {x : α} (h : thereB c l x = true) : posB c l x < l.length := by
  unfold thereB at h
  rcases Nat.lt_or_ge (posB c l x) l.length with h1 | h1
  · exact h1
  · rw [List.getElem?_eq_none h1] at h; cases h
/-- an order: of two, just one way -/
structure Ord8 {α : Type} (c : α → α → Int) : Prop where
  tr : ∀ a b d, c a b < 0 → c b d < 0 → c a d < 0
  anti : ∀ a b, c a b = - c b a
  eq0 : ∀ a b, c a b = 0 → a = b
theorem Ord8.refl {α : Type} {c : α → α → Int} (o : Ord8 c) (a : α) : c a a = 0 := by have := o.anti a a; omega
theorem split_at {α : Type} (p : α → Bool) (l : List α) (mono : ∀ a b (ha : a < l.length) (hb : b < l.length), a ≤ b → p l[b] = true → p l[a] = true) : ∀ n, n ≤ l.length → ∃ i, i ≤ n ∧ (∀ t (h : t < l.length), t < i → p l[t] = true) ∧ (∀ t (h : t < l.length), i ≤ t → t < n → p l[t] = false) := by
  intro n
  induction n with
  | zero => intro _; exact ⟨0, Nat.le_refl _, fun t _ h => absurd h (Nat.not_lt_zero t), fun t _ _ h => absurd h (Nat.not_lt_zero t)⟩
  | succ n ih =>
    intro hn
    obtain ⟨i, hi, h1, h2⟩ := ih (by omega)
    cases hp : p (l[n]'(by omega))
    · refine ⟨i, by omega, h1, fun t ht h3 h4 => ?_⟩
      rcases Nat.lt_or_ge t n with h5 | h5
      · exact h2 t ht h3 h5
      · have : t = n := by omega
        subst this; exact hp
    · refine ⟨n + 1, Nat.le_refl _, fun t ht h3 => mono t n ht (by omega) (by omega) hp, fun t ht h3 h4 => by omega⟩
theorem pos_split' {α : Type} {c : α → α → Int} (tr : ∀ a b d, c a b < 0 → c b d < 0 → c a d < 0) {l : List α} (h : risesB c l = true) (x : α) : (∀ t (h : t < l.length), t < posB c l x → c l[t] x < 0) ∧ (∀ t (h : t < l.length), posB c l x ≤ t → ¬ c l[t] x < 0) := by
  obtain ⟨i, hi, h1, h2⟩ := split_at (fun y => decide (c y x < 0)) l (fun a b ha hb hab hx => decide_eq_true (rises_mono tr h x a b ha hb hab (of_decide_eq_true hx))) l.length (Nat.le_refl _)
  have hp : posB c l x = i := countP_bound _ l i hi h1 fun t ht hit => h2 t ht hit ht
  rw [hp]
  exact ⟨fun t ht hl => of_decide_eq_true (h1 t ht hl), fun t ht hl => of_decide_eq_false (h2 t ht hl ht)⟩
theorem pos_split {α : Type} {c : α → α → Int} (o : Ord8 c) {l : List α} (h : risesB c l = true) (x : α) : (∀ t (h : t < l.length), t < posB c l x → c l[t] x < 0) ∧ (∀ t (h : t < l.length), posB c l x ≤ t → ¬ c l[t] x < 0) := pos_split' o.tr h x
theorem there_iff {α : Type} {c : α → α → Int} (o : Ord8 c) {l : List α} (h : risesB c l = true) (x : α) : thereB c l x = true ↔ x ∈ l := by
  obtain ⟨h1, h2⟩ := pos_split o h x
  unfold thereB
  constructor
  · intro ht
    split at ht
    · next y hy =>
      have := o.eq0 _ _ (of_decide_eq_true ht)
      subst this
      exact List.mem_of_getElem? hy
    · cases ht
  · intro hx
    obtain ⟨t, ht, he⟩ := List.getElem_of_mem hx
    have h3 : posB c l x ≤ t := by
      rcases Nat.lt_or_ge t (posB c l x) with h4 | h4
      · have := h1 t ht h4; rw [he, o.refl] at this; omega
      · exact h4
    have h4 : posB c l x = t := by
      rcases Nat.lt_or_ge (posB c l x) t with h5 | h5
      · have := rises_lt o.tr h _ t (by omega) ht h5
        rw [he] at this
        exact absurd this (h2 _ (by omega) (Nat.le_refl _))
      · omega
    rw [h4, List.getElem?_eq_getElem ht, he]
    exact decide_eq_true (o.refl x)
theorem there_get {α : Type} {c : α → α → Int} (o : Ord8 c) {l : List α} {x : α} (h : thereB c l x = true) : ∃ hp : posB c l x < l.length, l[posB c l x] = x := by
  unfold thereB at h
  split at h
  · next y hy =>
    obtain ⟨hp, he⟩ := List.getElem?_eq_some_iff.1 hy
    exact ⟨hp, he.trans (o.eq0 _ _ (of_decide_eq_true h))⟩
  · cases h
theorem there_only {α : Type} {c : α → α → Int} (o : Ord8 c) {l : List α} (hr : risesB c l = true) {x : α} (h : thereB c l x = true) (t : Nat) (ht : t < l.length) : l[t] = x ↔ t = posB c l x := by
  obtain ⟨hp, he⟩ := there_get o h
  constructor
  · intro e
    rcases Nat.lt_trichotomy t (posB c l x) with h5 | h5 | h5
    · have := rises_lt o.tr hr t _ ht hp h5
      rw [e, he, o.refl] at this; omega
    · exact h5
    · have := rises_lt o.tr hr _ t hp ht h5
      rw [e, he, o.refl] at this; omega
  · intro e; subst e; exact he
/-- in a row that rises a new one stands ahead of all from its place on -/
theorem new_less' {α : Type} {c : α → α → Int} (tr : ∀ a b d, c a b < 0 → c b d < 0 → c a d < 0) (anti : ∀ a b, c a b = - c b a) {l : List α} (hr : risesB c l = true) {x : α} (hn : ∀ y ∈ l, c y x ≠ 0) (t : Nat) (ht : t < l.length) : decide (c x l[t] < 0) = decide (posB c l x ≤ t) := by
  obtain ⟨h1, h2⟩ := pos_split' tr hr x
  rcases Nat.lt_or_ge t (posB c l x) with h3 | h3
  · have h4 := h1 t ht h3
    have h5 := anti x l[t]
    rw [decide_eq_false (by omega), decide_eq_false (by omega)]
  · have h4 := h2 t ht h3
    have h5 := anti x l[t]
    have h6 := hn l[t] (List.getElem_mem ht)
    rw [decide_eq_true (by omega), decide_eq_true h3]
theorem not_there {α : Type} {c : α → α → Int} (o : Ord8 c) {l : List α} (hr : risesB c l = true) {x : α} (h : thereB c l x = false) : ∀ y ∈ l, c y x ≠ 0 := fun y hy e => by
  have := o.eq0 _ _ e
  subst this
  rw [(there_iff o hr y).2 hy] at h; cases h
theorem new_less {α : Type} {c : α → α → Int} (o : Ord8 c) {l : List α} (hr : risesB c l = true) {x : α} (h : thereB c l x = false) (t : Nat) (ht : t < l.length) : decide (c x l[t] < 0) = decide (posB c l x ≤ t) := new_less' o.tr o.anti hr (not_there o hr h) t ht
theorem rises_ins' {α : Type} {c : α → α → Int} (tr : ∀ a b d, c a b < 0 → c b d < 0 → c a d < 0) (anti : ∀ a b, c a b = - c b a) {l : List α} (hr : risesB c l = true) {x : α} (hn : ∀ y ∈ l, c y x ≠ 0) : risesB c (insAt l (posB c l x) x) = true := by
  have hp := posB_le c l x
  obtain ⟨h1, h2⟩ := pos_split' tr hr x
  have h3 := new_less' tr anti hr hn
  generalize posB c l x = p at *
  rw [risesB_iff]
  intro k hk
  unfold insAt at *
  have hlen : (l.take p).length = p := by simp; omega
  have g1 : ∀ t, t < p → (l.take p ++ [x] ++ l.drop p)[t]? = l[t]? := fun t ht => by
    rw [List.getElem?_append_left (by simp; omega), List.getElem?_append_left (by omega), List.getElem?_take_of_lt ht]
  have g2 : (l.take p ++ [x] ++ l.drop p)[p]? = some x := by
    rw [List.getElem?_append_left (by simp; omega), List.getElem?_append_right (by omega), hlen]; simp
  have g3 : ∀ t, p < t → (l.take p ++ [x] ++ l.drop p)[t]? = l[t - 1]? := fun t ht => by
    rw [List.getElem?_append_right (by simp; omega)]
    simp only [List.length_append, hlen, List.length_singleton, List.getElem?_drop]
    congr 1; omega
  have hl2 : (l.take p ++ [x] ++ l.drop p).length = l.length + 1 := by simp; omega
  generalize hL : l.take p ++ [x] ++ l.drop p = L at *
  rcases Nat.lt_trichotomy (k + 1) p with h5 | h5 | h5
  · have e1 := g1 k (by omega)
    have e2 := g1 (k + 1) h5
    rw [List.getElem?_eq_getElem (by omega), List.getElem?_eq_getElem (by omega)] at e1 e2
    simp only [Option.some.injEq] at e1 e2
    rw [e1, e2]
    exact (risesB_iff c l).1 hr k (by omega)
  · have e1 := g1 k (by omega)
    subst h5
    rw [List.getElem?_eq_getElem (by omega), List.getElem?_eq_getElem (by omega)] at e1
    rw [List.getElem?_eq_getElem (by omega)] at g2
    simp only [Option.some.injEq] at e1 g2
    rw [e1, g2]
    exact h1 k (by omega) (by omega)
  · rcases Nat.lt_or_ge p k with h6 | h6
    · have e1 := g3 k h6
      have e2 := g3 (k + 1) h5
      rw [List.getElem?_eq_getElem (by omega), List.getElem?_eq_getElem (by omega)] at e1 e2
      simp only [Option.some.injEq] at e1 e2
      rw [e1, e2]
      have := (risesB_iff c l).1 hr (k - 1) (by omega)
      have hk1 : k - 1 + 1 = k := by omega
      simp only [hk1] at this
      exact this
    · have : k = p := by omega
      subst this
      have e2 := g3 (k + 1) h5
      rw [List.getElem?_eq_getElem (by omega), List.getElem?_eq_getElem (by omega)] at e2
      rw [List.getElem?_eq_getElem (by omega)] at g2
      simp only [Option.some.injEq, Nat.add_sub_cancel] at e2 g2
      rw [e2, g2]
      exact of_decide_eq_true ((h3 k (by omega)).trans (decide_eq_true (Nat.le_refl _)))
theorem rises_ins {α : Type} {c : α → α → Int} (o : Ord8 c) {l : List α} (hr : risesB c l = true) {x : α} (h : thereB c l x = false) : risesB c (insAt l (posB c l x) x) = true := rises_ins' o.tr o.anti hr (not_there o hr h)
theorem mem_insAt {α : Type} {l : List α} {p : Nat} {x y : α} : y ∈ insAt l p x ↔ y = x ∨ y ∈ l := by
  unfold insAt
  conv => rhs; rw [← List.take_append_drop p l]
  simp only [List.mem_append, List.mem_singleton]
  grind
theorem insAt_len {α : Type} (l : List α) (p : Nat) (x : α) (h : p ≤ l.length) : (insAt l p x).length = l.length + 1 := by unfold insAt; simp; omega
theorem insAt_get {α : Type} {l : List α} {p : Nat} {x : α} (h : p ≤ l.length) : (insAt l p x)[p]? = some x := by
  unfold insAt
  have e : (l.take p).length = p := by simp; omega
  rw [List.getElem?_append_left (by simp; omega), List.getElem?_append_right (by omega), e]
  simp
/-- what was put in and is taken out again is as it was -/
theorem ins_erase {α : Type} (l : List α) (p : Nat) (x : α) (h : p ≤ l.length) : (insAt l p x).eraseIdx p = l := by
  unfold insAt
  rw [List.eraseIdx_append_of_lt_length (by simp; omega), List.eraseIdx_append_of_length_le (by simp; omega)]
  have : p - (l.take p).length = 0 := by simp; omega
  rw [this]
  simp
theorem ins_pos {α : Type} {c : α → α → Int} (o : Ord8 c) {l : List α} (hr : risesB c l = true) {x : α} (h : thereB c l x = false) : thereB c (insAt l (posB c l x) x) x = true ∧ posB c (insAt l (posB c l x) x) x = posB c l x := by
  have h1 := rises_ins o hr h
  have h2 : thereB c (insAt l (posB c l x) x) x = true := (there_iff o h1 x).2 (mem_insAt.2 (.inl rfl))
  refine ⟨h2, ?_⟩
  have hp := posB_le c l x
  have hl := insAt_len l (posB c l x) x hp
  have hg := insAt_get (x := x) hp
  rw [List.getElem?_eq_getElem (by omega)] at hg
  exact ((there_only o h1 h2 _ (by omega)).1 (by simpa using hg)).symm
/-- the document's row so far, with the new one when its place is behind -/
def insK {α : Type} (l : List α) (p : Nat) (x : α) (k : Nat) : List α := if p < k then insAt (l.take k) p x else l.take k
theorem insK_zero {α : Type} (l : List α) (p : Nat) (x : α) : insK l p x 0 = [] := by unfold insK; simp
theorem insK_lt {α : Type} (l : List α) (p : Nat) (x : α) (k : Nat) (hk : k < l.length) (h : k < p) : insK l p x (k + 1) = insK l p x k ++ [l[k]] := by
  unfold insK
  rw [if_neg (by omega), if_neg (by omega), List.take_succ_eq_append_getElem hk]
theorem insK_at {α : Type} (l : List α) (x : α) (k : Nat) (hk : k < l.length) : insK l k x (k + 1) = insK l k x k ++ [x] ++ [l[k]] := by
  unfold insK
  rw [if_pos (by omega), if_neg (by omega)]
  unfold insAt
  rw [List.take_take, Nat.min_eq_left (by omega), List.take_succ_eq_append_getElem hk, List.drop_append_of_le_length (by simp; omega)]
  simp
theorem insK_gt {α : Type} (l : List α) (p : Nat) (x : α) (k : Nat) (hk : k < l.length) (h : p < k) : insK l p x (k + 1) = insK l p x k ++ [l[k]] := by
  unfold insK
  rw [if_pos (by omega), if_pos h]
  unfold insAt
  rw [List.take_take, List.take_take, Nat.min_eq_left (by omega), Nat.min_eq_left (by omega), List.take_succ_eq_append_getElem hk, List.drop_append_of_le_length (by simp; omega)]
  simp
theorem insK_end {α : Type} (l : List α) (p : Nat) (x : α) (h : p < l.length) : insK l p x l.length = insAt l p x := by
  unfold insK
  rw [if_pos h, List.take_length]
theorem insK_end' {α : Type} (l : List α) (x : α) : insK l l.length x l.length ++ [x] = insAt l l.length x := by
  unfold insK insAt
  simp
theorem insK_len {α : Type} (l : List α) (p : Nat) (x : α) (k : Nat) (hk : k ≤ l.length) : (insK l p x k).length ≤ l.length + 1 := by
  unfold insK
  split
  · rw [insAt_len _ _ _ (by simp; omega)]; simp; omega
  · simp; omega
theorem insK_mem {α : Type} {l : List α} {p : Nat} {x y : α} {k : Nat} (h : y ∈ insK l p x k) : y = x ∨ y ∈ l := by
  unfold insK at h
  split at h
  · rcases mem_insAt.1 h with h | h
    · exact .inl h
    · exact .inr (List.mem_of_mem_take h)
  · exact .inr (List.mem_of_mem_take h)
/-- all but the one at a place -/
def delK {α : Type} (l : List α) (p k : Nat) : List α := (l.take k).eraseIdx p
theorem delK_zero {α : Type} (l : List α) (p : Nat) : delK l p 0 = [] := by unfold delK; simp
theorem delK_at {α : Type} (l : List α) (k : Nat) (hk : k < l.length) : delK l k (k + 1) = delK l k k := by
  unfold delK
  have e : (l.take k).length = k := by simp; omega
  rw [List.take_succ_eq_append_getElem hk, List.eraseIdx_append_of_length_le (by omega), List.eraseIdx_of_length_le (l := l.take k) (by omega), e]
  simp
theorem delK_ne {α : Type} (l : List α) (p k : Nat) (hk : k < l.length) (h : k ≠ p) : delK l p (k + 1) = delK l p k ++ [l[k]] := by
  unfold delK
  rw [List.take_succ_eq_append_getElem hk]
  rcases Nat.lt_or_ge p k with h1 | h1
  · rw [List.eraseIdx_append_of_lt_length (by simp; omega)]
  · rw [List.eraseIdx_append_of_length_le (by simp; omega), List.eraseIdx_of_length_le (l := l.take k) (by simp; omega)]
    congr 1
    rw [List.eraseIdx_of_length_le (by simp; omega)]
theorem delK_end {α : Type} (l : List α) (p : Nat) : delK l p l.length = l.eraseIdx p := by unfold delK; simp
theorem delK_len {α : Type} (l : List α) (p k : Nat) : (delK l p k).length ≤ l.length := by unfold delK; have := List.length_eraseIdx_le (l.take k) p; simp at this ⊢; omega
theorem delK_mem {α : Type} {l : List α} {p k : Nat} {y : α} (h : y ∈ delK l p k) : y ∈ l := List.mem_of_mem_take (List.mem_of_mem_eraseIdx h)
end Go.Proofs.YticjnndhpfdajaaGreat
