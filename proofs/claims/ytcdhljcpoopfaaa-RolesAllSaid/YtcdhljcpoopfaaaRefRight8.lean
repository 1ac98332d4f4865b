/- The document's roles: right, or not. -/
import Derived.Test.YtcdhljcpoopfaaaRefReach
import Derived.IntWalk
namespace Go.Proofs.Ytcdhljcpoopfaaa
open Go.RowKit Go.Deep
set_option maxRecDepth 100000
set_option linter.unusedVariables false
def mIn (r : Rls) (m : Mbr) : Bool := inB r.names m.role && inB r.names m.of
def rowsR (r : Rls) : Bool := r.names.all nameB && risesB cmpS r.names && (r.members.all (mIn r) && risesB cmpM r.members)
theorem rightR_rows (r : Rls) : rightR r = (decide (r.names.length ≤ 16) && decide (r.members.length ≤ 256) && (rowsR r && r.members.all fun m => !reachB r.members m.of m.role)) := by
  have e : r.members.all (mbrOk r) = (r.members.all (mIn r) && r.members.all fun m => !reachB r.members m.of m.role) := by
    rw [Bool.eq_iff_iff]
    simp only [Bool.and_eq_true, List.all_eq_true]
    constructor
    · intro h
      refine ⟨fun m hm => ?_, fun m hm => ?_⟩
      · have := h m hm; unfold mbrOk at this; unfold mIn; simp only [Bool.and_eq_true] at this ⊢; exact this.1
      · have := h m hm; unfold mbrOk at this; simp only [Bool.and_eq_true] at this; exact this.2
    · intro h m hm
      have h1 := h.1 m hm
      have h2 := h.2 m hm
      unfold mIn at h1; unfold mbrOk
      simp only [Bool.and_eq_true] at h1 ⊢
      exact ⟨h1, h2⟩
  unfold rightR rowsR
  rw [e]
  generalize decide (r.names.length ≤ 16) = a
  generalize decide (r.members.length ≤ 256) = b
  generalize risesB cmpS r.names = c
  generalize risesB cmpM r.members = d
  generalize r.names.all nameB = x
  generalize r.members.all (mIn r) = y
  generalize (r.members.all fun m => !reachB r.members m.of m.role) = z
  revert a b c d x y z
  decide
theorem reachB_eq {ms : List Mbr} {s a b : ByteArray} (h : eqS a b = true) : reachB ms s a = reachB ms s b := by
  unfold reachB
  rw [(eqS_txt a b).1 h]
theorem inB_filter (ms : List Mbr) (s t : ByteArray) (l : List ByteArray) : inB (l.filter (reachB ms s)) t = (reachB ms s t && inB l t) := by
  unfold inB
  induction l with
  | nil => simp
  | cons x l ih =>
    rw [List.filter_cons, List.any_cons]
    cases h : eqS x t
    · cases h2 : reachB ms s x
      · simp [ih]
      · simp [ih, h]
    · cases h2 : reachB ms s x
      · rw [reachB_eq h] at h2
        rw [if_neg (by simp), ih, h2]; simp
      · have h3 := h2
        rw [reachB_eq h] at h3
        rw [if_pos (by simp), List.any_cons, h, h3]; simp
theorem rowsR_name (r : Rls) (k : Nat) (hk : k < r.names.length) (h : nameB r.names[k] = false) : rowsR r = false := by
  unfold rowsR; rw [all_false _ _ k hk h]; rfl
theorem rowsR_nrise (r : Rls) (k : Nat) (hk : k < r.names.length) (h0 : 0 < k) (h : ltS (r.names[k - 1]'(by omega)) r.names[k] = false) : rowsR r = false := by
  have h1 : k - 1 + 1 < r.names.length := by omega
  have e : (r.names[k - 1 + 1]'h1) = r.names[k] := by congr 1; omega
  unfold rowsR
  rw [risesB_false cmpS _ (k - 1) h1]
  · simp
  · rw [e]
    rw [← cmpS_lt] at h
    have := of_decide_eq_false h
    omega
theorem rowsR_in (r : Rls) (k : Nat) (hk : k < r.members.length) (h : mIn r r.members[k] = false) : rowsR r = false := by
  unfold rowsR; rw [all_false _ _ k hk h]; simp
theorem rowsR_mrise (r : Rls) (k : Nat) (hk : k < r.members.length) (h0 : 0 < k) (h : ¬ cmpM (r.members[k - 1]'(by omega)) r.members[k] < 0) : rowsR r = false := by
  have h1 : k - 1 + 1 < r.members.length := by omega
  have e : (r.members[k - 1 + 1]'h1) = r.members[k] := by congr 1; omega
  unfold rowsR
  rw [risesB_false cmpM _ (k - 1) h1]
  · simp
  · rw [e]; omega
theorem rises_pred8 {α : Type} (c : α → α → Int) (l : List α) (h : ∀ k, 1 ≤ k → ∀ (hk : k < l.length), c (l[k - 1]'(by omega)) l[k] < 0) : risesB c l = true :=
  (risesB_iff c l).2 fun k hk => h (k + 1) (by omega) hk
set_option maxHeartbeats 8000000 in
theorem rrows8 (r : Rls) (An : Option Addr) (capn : Nat) (Am : Option Addr) (capm : Nat) (w : World) (hn : SlAt w 1 StrR An capn r.names) (hm : SlAt w 2 MbrR Am capm r.members) :
    Calls Try.prog 49 #[.agg #[.slice An r.names.length capn, .slice Am r.members.length capm]] w fun e w' => e = .returned (.bool (rowsR r)) ∧ Aft w w' := by
  have hlen := hn.len
  have hlen2 := hm.len
  have HN := Lib.hid hn
  have HM := Lib.hid hm
  clear hn hm
  go_enter Try.func49, Try.ntmps49
  go_wp2_with fail
  go_loopw [3] (fun i wr => ∃ k : Nat, k ≤ r.names.length ∧ i = .int .i64 k ∧ Aft (w.alloc (.cells #[.slice An r.names.length capn, .slice Am r.members.length capm] 25)) wr ∧ ∀ j, j < k → ∀ (hj : j < r.names.length), nameB r.names[j] = true ∧ (0 < j → ltS (r.names[j - 1]'(by omega)) r.names[j] = true)) (fun i _ => r.names.length - (intOf i).toNat)
  case atStart => exact ⟨0, Nat.zero_le _, rfl, Aft.refl _, fun j hj => absurd hj (Nat.not_lt_zero j)⟩
  case round =>
    obtain ⟨k, hk, rfl, ha, hp⟩ := hrel
    have HP := Lib.hid hp; clear hp
    obtain ⟨hbox, hfr, hz, hzk, HA⟩ := aft_box ha
    have HAB := Lib.hid ha
    clear ha
    by_cases hlt : k < r.names.length
    · obtain ⟨b, off, rfl, hb, c0, hs⟩ := str_at (strs_aft HA.out HN.out) hlt
      obtain ⟨x, hx⟩ : ∃ x, r.names[k] = x := ⟨_, rfl⟩
      rw [hx] at c0 hs
      have HX := Lib.hid hx
      obtain ⟨q, hq⟩ : ∃ q, nameB x = q := ⟨_, rfl⟩
      have HQ := Lib.hid (show nameB r.names[k] = q by rw [hx]; exact hq)
      have CN := Lib.hid (show ∀ y : Lat wr, Calls Try.prog 70 #[.string x] (lat wr y) fun e w'' => e = .returned (.bool q) ∧ lat wr y = w'' from fun y => hq ▸ rname_any x (lat wr y) hs.max)
      clear hx hq
      cases q
      · have HF := Lib.hid (rowsR_name r k hlt HQ.out)
        go_wp2_with fail
        refine wp_region_lat (by kernel_rfl) (by kernel_rfl) ?_
        repeat (go_big_quiet_step ((go_at_call 70; exact Calls.lat_same (CN.out _))))
        refine wpQuiet_nil ?_
        intro _ hw'
        obtain ⟨y, hw''⟩ := hw'
        subst hw''
        go_wp2_with fail
        go_ret
        exact ⟨by rw [HF.out]; rfl, HA.out.lat y⟩
      by_cases h0 : 0 < k
      · have hk1 : k - 1 < r.names.length := by omega
        obtain ⟨b', off', hA', hb', e0, _⟩ := str_at (strs_aft HA.out HN.out) hk1
        simp only [Option.some.injEq, Addr.mk.injEq, and_true] at hA'
        obtain ⟨rfl, rfl⟩ := hA'
        obtain ⟨x', hx'⟩ : ∃ x', (r.names[k - 1]'hk1) = x' := ⟨_, rfl⟩
        rw [hx'] at e0
        have HX' := Lib.hid hx'
        have w1 : IntKind.i64.wrap ((k : Int) - 1) = (k : Int) - 1 := IntWalk.i64_in _ (by omega)
        have w2 : (0 : Int) ≤ (k : Int) - 1 := by omega
        have w3 : ((k : Int) - 1).toNat = k - 1 := by omega
        have w4 : (k : Int) - 1 < (r.names.length : Int) := by omega
        have w5 : decide ((0 : Int) < (k : Int)) = true := decide_eq_true (by omega)
        clear hx'
        cases hL : ltS x' x
        · have hL' : Op.bytesLess x'.toList x.toList = false := hL
          have HF := Lib.hid (rowsR_nrise r k hlt h0 (by rw [HX.out, HX'.out]; exact hL))
          clear hL
          go_wp2_with fail
          refine wp_region_lat (by kernel_rfl) (by kernel_rfl) ?_
          repeat (go_big_quiet_step ((go_at_call 70; exact Calls.lat_same (CN.out _))))
          refine wpQuiet_nil ?_
          intro _ hw'
          obtain ⟨y, hw''⟩ := hw'
          subst hw''
          go_wp2_with fail
          go_ret
          exact ⟨by rw [HF.out]; rfl, HA.out.lat y⟩
        · have hL' : Op.bytesLess x'.toList x.toList = true := hL
          have HNX := Lib.hid (ext_lt (p := fun j => ∀ (hj : j < r.names.length), nameB r.names[j] = true ∧ (0 < j → ltS (r.names[j - 1]'(by omega)) r.names[j] = true)) HP.out (fun _ => ⟨HQ.out, fun _ => by rw [HX.out, HX'.out]; exact hL⟩))
          clear hL
          go_wp2_with fail
          refine wp_region_lat (by kernel_rfl) (by kernel_rfl) ?_
          repeat (go_big_quiet_step ((go_at_call 70; exact Calls.lat_same (CN.out _))))
          refine wpQuiet_nil ?_
          intro _ hw'
          obtain ⟨y, hw''⟩ := hw'
          subst hw''
          go_wp2_with fail
          go_roundw
          case rel => exact ⟨k + 1, by omega, by go_num, HAB.out.lat y, HNX.out⟩
          case measure => simp [intOf]; omega
      · have w5 : decide ((0 : Int) < (k : Int)) = false := decide_eq_false (by omega)
        have HNX := Lib.hid (ext_lt (p := fun j => ∀ (hj : j < r.names.length), nameB r.names[j] = true ∧ (0 < j → ltS (r.names[j - 1]'(by omega)) r.names[j] = true)) HP.out (fun _ => ⟨HQ.out, fun h => absurd h h0⟩))
        go_wp2_with fail
        refine wp_region_lat (by kernel_rfl) (by kernel_rfl) ?_
        repeat (go_big_quiet_step ((go_at_call 70; exact Calls.lat_same (CN.out _))))
        refine wpQuiet_nil ?_
        intro _ hw'
        obtain ⟨y, hw''⟩ := hw'
        subst hw''
        go_wp2_with fail
        go_roundw
        case rel => exact ⟨k + 1, by omega, by go_num, HAB.out.lat y, HNX.out⟩
        case measure => simp [intOf]; omega
    have HR := Lib.hid (show rowsR r = (r.members.all (mIn r) && risesB cmpM r.members) by
      unfold rowsR
      rw [all_true _ _ fun j hj => (HP.out j (by omega) hj).1, rises_pred8 cmpS _ fun j hj1 hj => (cmpS_lt_iff _ _).2 ((HP.out j (by omega) hj).2 (by omega))]
      rfl)
    clear HP
    go_wp2_with fail
    go_loopw [4] (fun i wr => ∃ k : Nat, k ≤ r.members.length ∧ i = .int .i64 k ∧ Aft (w.alloc (.cells #[.slice An r.names.length capn, .slice Am r.members.length capm] 25)) wr ∧ ∀ j, j < k → ∀ (hj : j < r.members.length), mIn r r.members[j] = true ∧ (0 < j → cmpM (r.members[j - 1]'(by omega)) r.members[j] < 0)) (fun i _ => r.members.length - (intOf i).toNat)
    case atStart => exact ⟨0, Nat.zero_le _, rfl, HAB.out, fun j hj => absurd hj (Nat.not_lt_zero j)⟩
    case round =>
      clear hbox hfr hz hzk HA HAB
      obtain ⟨k2, hk2, rfl, ha, hp⟩ := hrel
      have HP := Lib.hid hp; clear hp
      obtain ⟨hbox, hfr, hz, hzk, HA⟩ := aft_box ha
      have HAB := Lib.hid ha
      clear ha
      by_cases hlt2 : k2 < r.members.length
      · obtain ⟨b, off, rfl, hb, c0, c1, hs1, hs2⟩ := mbr_at (mbrs_aft HA.out HM.out) hlt2
        obtain ⟨p, hpp⟩ : ∃ p, r.members[k2] = p := ⟨_, rfl⟩
        rw [hpp] at c0 c1 hs1 hs2
        have HPP := Lib.hid hpp
        obtain ⟨i1, hi1⟩ : ∃ i, inB r.names p.role = i := ⟨_, rfl⟩
        obtain ⟨i2, hi2⟩ : ∃ i, inB r.names p.of = i := ⟨_, rfl⟩
        have aX : Aft w (wr.alloc (.cells #[.string p.role, .string p.of] 61)) := HA.out.alloc _
        have K1 := Lib.hid (show Calls Try.prog 50 #[.slice An r.names.length capn, .string p.role] (wr.alloc (.cells #[.string p.role, .string p.of] 61)) fun e w'' => e = .returned (.bool i1) ∧ _ = w'' from (rin_any An capn r.names p.role _ (strs_aft aX HN.out)).mono fun e w'' ⟨he, hw⟩ => ⟨by rw [he, ← hi1]; rfl, hw⟩)
        have K2 := Lib.hid (show Calls Try.prog 50 #[.slice An r.names.length capn, .string p.of] (wr.alloc (.cells #[.string p.role, .string p.of] 61)) fun e w'' => e = .returned (.bool i2) ∧ _ = w'' from (rin_any An capn r.names p.of _ (strs_aft aX HN.out)).mono fun e w'' ⟨he, hw⟩ => ⟨by rw [he, ← hi2]; rfl, hw⟩)
        have HI := Lib.hid (show mIn r r.members[k2] = (i1 && i2) by rw [hpp]; unfold mIn; rw [hi1, hi2])
        have HAX := Lib.hid aX
        clear hpp hi1 hi2 aX
        cases i1
        · have HF := Lib.hid (rowsR_in r k2 hlt2 (by rw [HI.out]; rfl))
          go_wp2_with (go_at_call 50; refine K1.out.mono ?_; rintro e w4 ⟨rfl, rfl⟩)
          go_ret
          exact ⟨by rw [HF.out]; rfl, HAX.out⟩
        cases i2
        · have HF := Lib.hid (rowsR_in r k2 hlt2 (by rw [HI.out]; rfl))
          go_wp2_with (go_at_call 50; first | (with_reducible refine K1.out.mono ?_; rintro e w4 ⟨rfl, rfl⟩) | (with_reducible refine K2.out.mono ?_; rintro e w4 ⟨rfl, rfl⟩))
          go_ret
          exact ⟨by rw [HF.out]; rfl, HAX.out⟩
        have l5 : b < wr.heap.size + 1 := by omega
        by_cases h0 : 0 < k2
        · have hk1 : k2 - 1 < r.members.length := by omega
          obtain ⟨b', off', hA', hb', e0, e1, _, _⟩ := mbr_at (mbrs_aft HA.out HM.out) hk1
          simp only [Option.some.injEq, Addr.mk.injEq, and_true] at hA'
          obtain ⟨rfl, rfl⟩ := hA'
          obtain ⟨p', hpp'⟩ : ∃ p', (r.members[k2 - 1]'hk1) = p' := ⟨_, rfl⟩
          rw [hpp'] at e0 e1
          have HO := Lib.hid (show cmpM (r.members[k2 - 1]'hk1) r.members[k2] = or2 (cmpS p'.role p.role) (cmpS p'.of p.of) by rw [HPP.out, hpp']; rfl)
          have HOL := Lib.hid (or2_lt p'.role p.role p'.of p.of)
          clear hpp'
          have w1 : IntKind.i64.wrap ((k2 : Int) - 1) = (k2 : Int) - 1 := IntWalk.i64_in _ (by omega)
          have w2 : (0 : Int) ≤ (k2 : Int) - 1 := by omega
          have w3 : ((k2 : Int) - 1).toNat = k2 - 1 := by omega
          have w4 : (k2 : Int) - 1 < (r.members.length : Int) := by omega
          have w5 : decide ((0 : Int) < (k2 : Int)) = true := decide_eq_true (by omega)
          cases hG : (!(ltS p'.role p.role || eqS p'.role p.role))
          · have hG' : (Op.bytesLess p'.role.toList p.role.toList || p'.role.toList == p.role.toList) = true := by have h1 := hG; rw [Bool.not_eq_false'] at h1; exact h1
            cases hE : eqS p'.role p.role
            · have hE' : (p'.role.toList == p.role.toList) = false := hE
              have hG2 : Op.bytesLess p'.role.toList p.role.toList = true := by rw [hE'] at hG'; simpa using hG'
              have HNX := Lib.hid (ext_lt (p := fun j => ∀ (hj : j < r.members.length), mIn r r.members[j] = true ∧ (0 < j → cmpM (r.members[j - 1]'(by omega)) r.members[j] < 0)) HP.out (fun _ => ⟨by rw [HI.out]; rfl, fun _ => by rw [HO.out]; exact of_decide_eq_true (by rw [HOL.out, hG, hE]; rfl)⟩))
              clear hG hE
              go_wp2_with (go_at_call 50; first | (with_reducible refine K1.out.mono ?_; rintro e w4 ⟨rfl, rfl⟩) | (with_reducible refine K2.out.mono ?_; rintro e w4 ⟨rfl, rfl⟩))
              refine wp_region_lat (by kernel_rfl) (by kernel_rfl) ?_
              repeat (go_big_quiet_step (fail))
              refine wpQuiet_nil ?_
              intro _ hw'
              obtain ⟨y, hw''⟩ := hw'
              subst hw''
              go_wp2_with fail
              go_roundw
              case rel => exact ⟨k2 + 1, by omega, by go_num, (HAB.out.alloc _).lat y, HNX.out⟩
              case measure => simp [intOf]; omega
            · have hE' : (p'.role.toList == p.role.toList) = true := hE
              cases hL : ltS p'.of p.of
              · have hL' : Op.bytesLess p'.of.toList p.of.toList = false := hL
                have HF := Lib.hid (rowsR_mrise r k2 hlt2 h0 (by rw [HO.out]; exact of_decide_eq_false (by rw [HOL.out, hG, hE, hL]; rfl)))
                clear hG hE hL
                go_wp2_with (go_at_call 50; first | (with_reducible refine K1.out.mono ?_; rintro e w4 ⟨rfl, rfl⟩) | (with_reducible refine K2.out.mono ?_; rintro e w4 ⟨rfl, rfl⟩))
                refine wp_region_lat (by kernel_rfl) (by kernel_rfl) ?_
                repeat (go_big_quiet_step (fail))
                refine wpQuiet_nil ?_
                intro _ hw'
                obtain ⟨y, hw''⟩ := hw'
                subst hw''
                go_wp2_with fail
                go_ret
                exact ⟨by rw [HF.out]; rfl, HAX.out.lat y⟩
              · have hL' : Op.bytesLess p'.of.toList p.of.toList = true := hL
                have HNX := Lib.hid (ext_lt (p := fun j => ∀ (hj : j < r.members.length), mIn r r.members[j] = true ∧ (0 < j → cmpM (r.members[j - 1]'(by omega)) r.members[j] < 0)) HP.out (fun _ => ⟨by rw [HI.out]; rfl, fun _ => by rw [HO.out]; exact of_decide_eq_true (by rw [HOL.out, hG, hE, hL]; rfl)⟩))
                clear hG hE hL
                go_wp2_with (go_at_call 50; first | (with_reducible refine K1.out.mono ?_; rintro e w4 ⟨rfl, rfl⟩) | (with_reducible refine K2.out.mono ?_; rintro e w4 ⟨rfl, rfl⟩))
                refine wp_region_lat (by kernel_rfl) (by kernel_rfl) ?_
                repeat (go_big_quiet_step (fail))
                refine wpQuiet_nil ?_
                intro _ hw'
                obtain ⟨y, hw''⟩ := hw'
                subst hw''
                go_wp2_with fail
                go_roundw
                case rel => exact ⟨k2 + 1, by omega, by go_num, (HAB.out.alloc _).lat y, HNX.out⟩
                case measure => simp [intOf]; omega
          · have hG' : (Op.bytesLess p'.role.toList p.role.toList || p'.role.toList == p.role.toList) = false := by have h1 := hG; rw [Bool.not_eq_true'] at h1; exact h1
            have HF := Lib.hid (rowsR_mrise r k2 hlt2 h0 (by rw [HO.out]; exact of_decide_eq_false (by rw [HOL.out, hG]; rfl)))
            clear hG
            go_wp2_with (go_at_call 50; first | (with_reducible refine K1.out.mono ?_; rintro e w4 ⟨rfl, rfl⟩) | (with_reducible refine K2.out.mono ?_; rintro e w4 ⟨rfl, rfl⟩))
            refine wp_region_lat (by kernel_rfl) (by kernel_rfl) ?_
            repeat (go_big_quiet_step (fail))
            refine wpQuiet_nil ?_
            intro _ hw'
            obtain ⟨y, hw''⟩ := hw'
            subst hw''
            go_wp2_with fail
            go_ret
            exact ⟨by rw [HF.out]; rfl, HAX.out.lat y⟩
        · have w5 : decide ((0 : Int) < (k2 : Int)) = false := decide_eq_false (by omega)
          have HNX := Lib.hid (ext_lt (p := fun j => ∀ (hj : j < r.members.length), mIn r r.members[j] = true ∧ (0 < j → cmpM (r.members[j - 1]'(by omega)) r.members[j] < 0)) HP.out (fun _ => ⟨by rw [HI.out]; rfl, fun h => absurd h h0⟩))
          go_wp2_with (go_at_call 50; first | (with_reducible refine K1.out.mono ?_; rintro e w4 ⟨rfl, rfl⟩) | (with_reducible refine K2.out.mono ?_; rintro e w4 ⟨rfl, rfl⟩))
          refine wp_region_lat (by kernel_rfl) (by kernel_rfl) ?_
          repeat (go_big_quiet_step (fail))
          refine wpQuiet_nil ?_
          intro _ hw'
          obtain ⟨y, hw''⟩ := hw'
          subst hw''
          go_wp2_with fail
          go_roundw
          case rel => exact ⟨k2 + 1, by omega, by go_num, (HAB.out.alloc _).lat y, HNX.out⟩
          case measure => simp [intOf]; omega
      · have HF := Lib.hid (show rowsR r = true by
          rw [HR.out, all_true _ _ fun j hj => (HP.out j (by omega) hj).1, rises_pred8 cmpM _ fun j hj1 hj => (HP.out j (by omega) hj).2 (by omega)]
          rfl)
        go_wp2_with fail
        go_ret
        exact ⟨by rw [HF.out]; rfl, HA.out⟩
end Go.Proofs.Ytcdhljcpoopfaaa
