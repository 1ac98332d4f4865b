/- Contracts of the program, part 14. -/
import Derived.Test.YticjnndhpfdajaaGreatPartG13
import Derived.IntWalk
import Derived.Test.YticjnndhpfdajaaGreatPartG10
import Derived.Test.YticjnndhpfdajaaGreatPartG6
/- The document's roles: right, or not. -/
namespace Go.Proofs.YticjnndhpfdajaaGreat
open Go.RowKit Go.Deep
set_option maxRecDepth 100000
set_option linter.unusedVariables false
def mIn (r : Rls) (m : Mbr) : Bool := inB r.names m.role && inB r.names m.of
def rowsR (r : Rls) : Bool := r.names.all nameB && risesB cmpS r.names && (r.members.all (mIn r) && risesB cmpM r.members)
theorem rightR_rows (r : Rls) : rightR r = (decide (r.names.length ≤ 16) && decide (r.members.length ≤ 256) && (rowsR r && r.members.all fun m => !reachB r.members m.of m.role)) := by
  have e : r.members.all (mbrOk r) = (r.members.all (mIn r) && r.members.all fun m => !reachB r.members m.of m.role) := by
    rw [Bool.eq_iff_iff]
    simp only [Bool.and_eq_true, List.all_eq_true]
    constructor
    · intro h
      refine ⟨fun m hm => ?_, fun m hm => ?_⟩
      · have := h m hm; unfold mbrOk at this; unfold mIn; simp only [Bool.and_eq_true] at this ⊢; exact this.1
      · have := h m hm; unfold mbrOk at this; simp only [Bool.and_eq_true] at this; exact this.2
    · intro h m hm
      have h1 := h.1 m hm
      have h2 := h.2 m hm
      unfold mIn at h1; unfold mbrOk
      simp only [Bool.and_eq_true] at h1 ⊢
      exact ⟨h1, h2⟩
  unfold rightR rowsR
  rw [e]
  generalize decide (r.names.length ≤ 16) = a
  generalize decide (r.members.length ≤ 256) = b
  generalize risesB cmpS r.names = c
  generalize risesB cmpM r.members = d
  generalize r.names.all nameB = x
  generalize r.members.all (mIn r) = y
  generalize (r.members.all fun m => !reachB r.members m.of m.role) = z
  revert a b c d x y z
  decide
theorem reachB_eq {ms : List Mbr} {s a b : ByteArray} (h : eqS a b = true) : reachB ms s a = reachB ms s b := by
  unfold reachB
  rw [(eqS_txt a b).1 h]
theorem inB_filter (ms : List Mbr) (s t : ByteArray) (l : List ByteArray) : inB (l.filter (reachB ms s)) t = (reachB ms s t && inB l t) := by
  unfold inB
  induction l with
  | nil => simp
  | cons x l ih =>
    rw [List.filter_cons, List.any_cons]
    cases h : eqS x t
    · cases h2 : reachB ms s x
      · simp [ih]
      · simp [ih, h]
    · cases h2 : reachB ms s x
      · rw [reachB_eq h] at h2
        rw [if_neg (by simp), ih, h2]; simp
      · have h3 := h2
        rw [reachB_eq h] at h3
        rw [if_pos (by simp), List.any_cons, h, h3]; simp
theorem rowsR_name (r : Rls) (k : Nat) (hk : k < r.names.length) (h : nameB r.names[k] = false) : rowsR r = false := by
  unfold rowsR; rw [all_false _ _ k hk h]; rfl
theorem rowsR_nrise (r : Rls) (k : Nat) (hk : k < r.names.length) (h0 : 0 < k) (h : ltS (r.names[k - 1]'(by omega)) r.names[k] = false) : rowsR r = false := by
  have h1 : k - 1 + 1 < r.names.length := by omega
  have e : (r.names[k - 1 + 1]'h1) = r.names[k] := by congr 1; omega
  unfold rowsR
  rw [risesB_false cmpS _ (k - 1) h1]
  · simp
  · rw [e]
    rw [← cmpS_lt] at h
    have := of_decide_eq_false h
    omega
theorem rowsR_in (r : Rls) (k : Nat) (hk : k < r.members.length) (h : mIn r r.members[k] = false) : rowsR r = false := by
  unfold rowsR; rw [all_false _ _ k hk h]; simp
theorem rowsR_mrise (r : Rls) (k : Nat) (hk : k < r.members.length) (h0 : 0 < k) (h : ¬ cmpM (r.members[k - 1]'(by omega)) r.members[k] < 0) : rowsR r = false := by
  have h1 : k - 1 + 1 < r.members.length := by omega
  have e : (r.members[k - 1 + 1]'h1) = r.members[k] := by congr 1; omega
  unfold rowsR
  rw [risesB_false cmpM _ (k - 1) h1]
  · simp
  · rw [e]; omega
theorem rises_pred8 {α : Type} (c : α → α → Int) (l : List α) (h : ∀ k, 1 ≤ k → ∀ (hk : k < l.length), c (l[k - 1]'(by omega)) l[k] < 0) : risesB c l = true :=
  (risesB_iff c l).2 fun k hk => h (k + 1) (by omega) hk
set_option maxHeartbeats 8000000 in
theorem rrows8 (r : Rls) (An : Option Addr) (capn : Nat) (Am : Option Addr) (capm : Nat) (w : World) (hn : SlAt w 1 StrR An capn r.names) (hm : SlAt w 2 MbrR Am capm r.members) :
    Calls Tryz.prog 242 #[.agg #[.slice An r.names.length capn, .slice Am r.members.length capm]] w fun e w' => e = .returned (.bool (rowsR r)) ∧ Aft w w' := by
  have hlen := hn.len
  have hlen2 := hm.len
  have HN := Lib.hid hn
  have HM := Lib.hid hm
  clear hn hm
  go_enter Tryz.func242, Tryz.ntmps242
  go_wp2_with fail
  go_loopw [3] (fun i wr => ∃ k : Nat, k ≤ r.names.length ∧ i = .int .i64 k ∧ Aft (w.alloc (.cells #[.slice An r.names.length capn, .slice Am r.members.length capm] 56)) wr ∧ ∀ j, j < k → ∀ (hj : j < r.names.length), nameB r.names[j] = true ∧ (0 < j → ltS (r.names[j - 1]'(by omega)) r.names[j] = true)) (fun i _ => r.names.length - (intOf i).toNat)
  case atStart => exact ⟨0, Nat.zero_le _, rfl, Aft.refl _, fun j hj => absurd hj (Nat.not_lt_zero j)⟩
  case round =>
    obtain ⟨k, hk, rfl, ha, hp⟩ := hrel
    have HP := Lib.hid hp; clear hp
    obtain ⟨hbox, hfr, hz, hzk, HA⟩ := aft_box ha
    have HAB := Lib.hid ha
    clear ha
    by_cases hlt : k < r.names.length
    · obtain ⟨b, off, rfl, hb, c0, hs⟩ := str_at (strs_aft HA.out HN.out) hlt
      obtain ⟨x, hx⟩ : ∃ x, r.names[k] = x := ⟨_, rfl⟩
      rw [hx] at c0 hs
      have HX := Lib.hid hx
      obtain ⟨q, hq⟩ : ∃ q, nameB x = q := ⟨_, rfl⟩
      have HQ := Lib.hid (show nameB r.names[k] = q by rw [hx]; exact hq)
      have CN := Lib.hid (show ∀ y : Lat wr, Calls Tryz.prog 153 #[.string x] (lat wr y) fun e w'' => e = .returned (.bool q) ∧ lat wr y = w'' from fun y => hq ▸ rname_any x (lat wr y) hs.max)
      clear hx hq
      cases q
      · have HF := Lib.hid (rowsR_name r k hlt HQ.out)
        go_wp2_with fail
        refine wp_region_lat (by kernel_rfl) (by kernel_rfl) ?_
        repeat (go_big_quiet_step ((go_at_call 153; exact Calls.lat_same (CN.out _))))
        refine wpQuiet_nil ?_
        intro _ hw'
        obtain ⟨y, hw''⟩ := hw'
        subst hw''
        go_wp2_with fail
        go_ret
        exact ⟨by rw [HF.out]; rfl, HA.out.lat y⟩
      by_cases h0 : 0 < k
      · have hk1 : k - 1 < r.names.length := by omega
        obtain ⟨b', off', hA', hb', e0, _⟩ := str_at (strs_aft HA.out HN.out) hk1
        simp only [Option.some.injEq, Addr.mk.injEq, and_true] at hA'
        obtain ⟨rfl, rfl⟩ := hA'
        obtain ⟨x', hx'⟩ : ∃ x', (r.names[k - 1]'hk1) = x' := ⟨_, rfl⟩
        rw [hx'] at e0
        have HX' := Lib.hid hx'
        have w1 : IntKind.i64.wrap ((k : Int) - 1) = (k : Int) - 1 := IntWalk.i64_in _ (by omega)
        have w2 : (0 : Int) ≤ (k : Int) - 1 := by omega
        have w3 : ((k : Int) - 1).toNat = k - 1 := by omega
        have w4 : (k : Int) - 1 < (r.names.length : Int) := by omega
        have w5 : decide ((0 : Int) < (k : Int)) = true := decide_eq_true (by omega)
        clear hx'
        cases hL : ltS x' x
        · have hL' : Op.bytesLess x'.toList x.toList = false := hL
          have HF := Lib.hid (rowsR_nrise r k hlt h0 (by rw [HX.out, HX'.out]; exact hL))
          clear hL
          go_wp2_with fail
          refine wp_region_lat (by kernel_rfl) (by kernel_rfl) ?_
          repeat (go_big_quiet_step ((go_at_call 153; exact Calls.lat_same (CN.out _))))
          refine wpQuiet_nil ?_
          intro _ hw'
          obtain ⟨y, hw''⟩ := hw'
          subst hw''
          go_wp2_with fail
          go_ret
          exact ⟨by rw [HF.out]; rfl, HA.out.lat y⟩
        · have hL' : Op.bytesLess x'.toList x.toList = true := hL
          have HNX := Lib.hid (ext_lt (p := fun j => ∀ (hj : j < r.names.length), nameB r.names[j] = true ∧ (0 < j → ltS (r.names[j - 1]'(by omega)) r.names[j] = true)) HP.out (fun _ => ⟨HQ.out, fun _ => by rw [HX.out, HX'.out]; exact hL⟩))
          clear hL
          go_wp2_with fail
          refine wp_region_lat (by kernel_rfl) (by kernel_rfl) ?_
          repeat (go_big_quiet_step ((go_at_call 153; exact Calls.lat_same (CN.out _))))
          refine wpQuiet_nil ?_
          intro _ hw'
          obtain ⟨y, hw''⟩ := hw'
          subst hw''
          go_wp2_with fail
          go_roundw
          case rel => exact ⟨k + 1, by omega, by go_num, HAB.out.lat y, HNX.out⟩
          case measure => simp [intOf]; omega
      · have w5 : decide ((0 : Int) < (k : Int)) = false := decide_eq_false (by omega)
        have HNX := Lib.hid (ext_lt (p := fun j => ∀ (hj : j < r.names.length), nameB r.names[j] = true ∧ (0 < j → ltS (r.names[j - 1]'(by omega)) r.names[j] = true)) HP.out (fun _ => ⟨HQ.out, fun h => absurd h h0⟩))
        go_wp2_with fail
        refine wp_region_lat (by kernel_rfl) (by kernel_rfl) ?_
        repeat (go_big_quiet_step ((go_at_call 153; exact Calls.lat_same (CN.out _))))
        refine wpQuiet_nil ?_
        intro _ hw'
        obtain ⟨y, hw''⟩ := hw'
        subst hw''
        go_wp2_with fail
        go_roundw
        case rel => exact ⟨k + 1, by omega, by go_num, HAB.out.lat y, HNX.out⟩
        case measure => simp [intOf]; omega
    have HR := Lib.hid (show rowsR r = (r.members.all (mIn r) && risesB cmpM r.members) by
      unfold rowsR
      rw [all_true _ _ fun j hj => (HP.out j (by omega) hj).1, rises_pred8 cmpS _ fun j hj1 hj => (cmpS_lt_iff _ _).2 ((HP.out j (by omega) hj).2 (by omega))]
      rfl)
    clear HP
    go_wp2_with fail
    go_loopw [4] (fun i wr => ∃ k : Nat, k ≤ r.members.length ∧ i = .int .i64 k ∧ Aft (w.alloc (.cells #[.slice An r.names.length capn, .slice Am r.members.length capm] 56)) wr ∧ ∀ j, j < k → ∀ (hj : j < r.members.length), mIn r r.members[j] = true ∧ (0 < j → cmpM (r.members[j - 1]'(by omega)) r.members[j] < 0)) (fun i _ => r.members.length - (intOf i).toNat)
    case atStart => exact ⟨0, Nat.zero_le _, rfl, HAB.out, fun j hj => absurd hj (Nat.not_lt_zero j)⟩
    case round =>
      clear hbox hfr hz hzk HA HAB
      obtain ⟨k2, hk2, rfl, ha, hp⟩ := hrel
      have HP := Lib.hid hp; clear hp
      obtain ⟨hbox, hfr, hz, hzk, HA⟩ := aft_box ha
      have HAB := Lib.hid ha
      clear ha
      by_cases hlt2 : k2 < r.members.length
      · obtain ⟨b, off, rfl, hb, c0, c1, hs1, hs2⟩ := mbr_at (mbrs_aft HA.out HM.out) hlt2
        obtain ⟨p, hpp⟩ : ∃ p, r.members[k2] = p := ⟨_, rfl⟩
        rw [hpp] at c0 c1 hs1 hs2
        have HPP := Lib.hid hpp
        obtain ⟨i1, hi1⟩ : ∃ i, inB r.names p.role = i := ⟨_, rfl⟩
        obtain ⟨i2, hi2⟩ : ∃ i, inB r.names p.of = i := ⟨_, rfl⟩
        have aX : Aft w (wr.alloc (.cells #[.string p.role, .string p.of] 185)) := HA.out.alloc _
        have K1 := Lib.hid (show Calls Tryz.prog 137 #[.slice An r.names.length capn, .string p.role] (wr.alloc (.cells #[.string p.role, .string p.of] 185)) fun e w'' => e = .returned (.bool i1) ∧ _ = w'' from (rin_any An capn r.names p.role _ (strs_aft aX HN.out)).mono fun e w'' ⟨he, hw⟩ => ⟨by rw [he, ← hi1]; rfl, hw⟩)
        have K2 := Lib.hid (show Calls Tryz.prog 137 #[.slice An r.names.length capn, .string p.of] (wr.alloc (.cells #[.string p.role, .string p.of] 185)) fun e w'' => e = .returned (.bool i2) ∧ _ = w'' from (rin_any An capn r.names p.of _ (strs_aft aX HN.out)).mono fun e w'' ⟨he, hw⟩ => ⟨by rw [he, ← hi2]; rfl, hw⟩)
        have HI := Lib.hid (show mIn r r.members[k2] = (i1 && i2) by rw [hpp]; unfold mIn; rw [hi1, hi2])
        have HAX := Lib.hid aX
        clear hpp hi1 hi2 aX
        cases i1
        · have HF := Lib.hid (rowsR_in r k2 hlt2 (by rw [HI.out]; rfl))
          go_wp2_with (go_at_call 137; refine K1.out.mono ?_; rintro e w4 ⟨rfl, rfl⟩)
          go_ret
          exact ⟨by rw [HF.out]; rfl, HAX.out⟩
        cases i2
        · have HF := Lib.hid (rowsR_in r k2 hlt2 (by rw [HI.out]; rfl))
          go_wp2_with (go_at_call 137; first | (with_reducible refine K1.out.mono ?_; rintro e w4 ⟨rfl, rfl⟩) | (with_reducible refine K2.out.mono ?_; rintro e w4 ⟨rfl, rfl⟩))
          go_ret
          exact ⟨by rw [HF.out]; rfl, HAX.out⟩
        have l5 : b < wr.heap.size + 1 := by omega
        by_cases h0 : 0 < k2
        · have hk1 : k2 - 1 < r.members.length := by omega
          obtain ⟨b', off', hA', hb', e0, e1, _, _⟩ := mbr_at (mbrs_aft HA.out HM.out) hk1
          simp only [Option.some.injEq, Addr.mk.injEq, and_true] at hA'
          obtain ⟨rfl, rfl⟩ := hA'
          obtain ⟨p', hpp'⟩ : ∃ p', (r.members[k2 - 1]'hk1) = p' := ⟨_, rfl⟩
          rw [hpp'] at e0 e1
          have HO := Lib.hid (show cmpM (r.members[k2 - 1]'hk1) r.members[k2] = or2 (cmpS p'.role p.role) (cmpS p'.of p.of) by rw [HPP.out, hpp']; rfl)
          have HOL := Lib.hid (or2_lt p'.role p.role p'.of p.of)
          clear hpp'
          have w1 : IntKind.i64.wrap ((k2 : Int) - 1) = (k2 : Int) - 1 := IntWalk.i64_in _ (by omega)
          have w2 : (0 : Int) ≤ (k2 : Int) - 1 := by omega
          have w3 : ((k2 : Int) - 1).toNat = k2 - 1 := by omega
          have w4 : (k2 : Int) - 1 < (r.members.length : Int) := by omega
          have w5 : decide ((0 : Int) < (k2 : Int)) = true := decide_eq_true (by omega)
          cases hG : (!(ltS p'.role p.role || eqS p'.role p.role))
          · have hG' : (Op.bytesLess p'.role.toList p.role.toList || p'.role.toList == p.role.toList) = true := by have h1 := hG; rw [Bool.not_eq_false'] at h1; exact h1
            cases hE : eqS p'.role p.role
            · have hE' : (p'.role.toList == p.role.toList) = false := hE
              have hG2 : Op.bytesLess p'.role.toList p.role.toList = true := by rw [hE'] at hG'; simpa using hG'
              have HNX := Lib.hid (ext_lt (p := fun j => ∀ (hj : j < r.members.length), mIn r r.members[j] = true ∧ (0 < j → cmpM (r.members[j - 1]'(by omega)) r.members[j] < 0)) HP.out (fun _ => ⟨by rw [HI.out]; rfl, fun _ => by rw [HO.out]; exact of_decide_eq_true (by rw [HOL.out, hG, hE]; rfl)⟩))
              clear hG hE
              go_wp2_with (go_at_call 137; first | (with_reducible refine K1.out.mono ?_; rintro e w4 ⟨rfl, rfl⟩) | (with_reducible refine K2.out.mono ?_; rintro e w4 ⟨rfl, rfl⟩))
              refine wp_region_lat (by kernel_rfl) (by kernel_rfl) ?_
              repeat (go_big_quiet_step (fail))
              refine wpQuiet_nil ?_
              intro _ hw'
              obtain ⟨y, hw''⟩ := hw'
              subst hw''
              go_wp2_with fail
              go_roundw
              case rel => exact ⟨k2 + 1, by omega, by go_num, (HAB.out.alloc _).lat y, HNX.out⟩
              case measure => simp [intOf]; omega
            · have hE' : (p'.role.toList == p.role.toList) = true := hE
              cases hL : ltS p'.of p.of
              · have hL' : Op.bytesLess p'.of.toList p.of.toList = false := hL
                have HF := Lib.hid (rowsR_mrise r k2 hlt2 h0 (by rw [HO.out]; exact of_decide_eq_false (by rw [HOL.out, hG, hE, hL]; rfl)))
                clear hG hE hL
                go_wp2_with (go_at_call 137; first | (with_reducible refine K1.out.mono ?_; rintro e w4 ⟨rfl, rfl⟩) | (with_reducible refine K2.out.mono ?_; rintro e w4 ⟨rfl, rfl⟩))
                refine wp_region_lat (by kernel_rfl) (by kernel_rfl) ?_
                repeat (go_big_quiet_step (fail))
                refine wpQuiet_nil ?_
                intro _ hw'
                obtain ⟨y, hw''⟩ := hw'
                subst hw''
                go_wp2_with fail
                go_ret
                exact ⟨by rw [HF.out]; rfl, HAX.out.lat y⟩
              · have hL' : Op.bytesLess p'.of.toList p.of.toList = true := hL
                have HNX := Lib.hid (ext_lt (p := fun j => ∀ (hj : j < r.members.length), mIn r r.members[j] = true ∧ (0 < j → cmpM (r.members[j - 1]'(by omega)) r.members[j] < 0)) HP.out (fun _ => ⟨by rw [HI.out]; rfl, fun _ => by rw [HO.out]; exact of_decide_eq_true (by rw [HOL.out, hG, hE, hL]; rfl)⟩))
                clear hG hE hL
                go_wp2_with (go_at_call 137; first | (with_reducible refine K1.out.mono ?_; rintro e w4 ⟨rfl, rfl⟩) | (with_reducible refine K2.out.mono ?_; rintro e w4 ⟨rfl, rfl⟩))
                refine wp_region_lat (by kernel_rfl) (by kernel_rfl) ?_
                repeat (go_big_quiet_step (fail))
                refine wpQuiet_nil ?_
                intro _ hw'
                obtain ⟨y, hw''⟩ := hw'
                subst hw''
                go_wp2_with fail
                go_roundw
                case rel => exact ⟨k2 + 1, by omega, by go_num, (HAB.out.alloc _).lat y, HNX.out⟩
                case measure => simp [intOf]; omega
          · have hG' : (Op.bytesLess p'.role.toList p.role.toList || p'.role.toList == p.role.toList) = false := by have h1 := hG; rw [Bool.not_eq_true'] at h1; exact h1
            have HF := Lib.hid (rowsR_mrise r k2 hlt2 h0 (by rw [HO.out]; exact of_decide_eq_false (by rw [HOL.out, hG]; rfl)))
            clear hG
            go_wp2_with (go_at_call 137; first | (with_reducible refine K1.out.mono ?_; rintro e w4 ⟨rfl, rfl⟩) | (with_reducible refine K2.out.mono ?_; rintro e w4 ⟨rfl, rfl⟩))
            refine wp_region_lat (by kernel_rfl) (by kernel_rfl) ?_
            repeat (go_big_quiet_step (fail))
            refine wpQuiet_nil ?_
            intro _ hw'
            obtain ⟨y, hw''⟩ := hw'
            subst hw''
            go_wp2_with fail
            go_ret
            exact ⟨by rw [HF.out]; rfl, HAX.out.lat y⟩
        · have w5 : decide ((0 : Int) < (k2 : Int)) = false := decide_eq_false (by omega)
          have HNX := Lib.hid (ext_lt (p := fun j => ∀ (hj : j < r.members.length), mIn r r.members[j] = true ∧ (0 < j → cmpM (r.members[j - 1]'(by omega)) r.members[j] < 0)) HP.out (fun _ => ⟨by rw [HI.out]; rfl, fun h => absurd h h0⟩))
          go_wp2_with (go_at_call 137; first | (with_reducible refine K1.out.mono ?_; rintro e w4 ⟨rfl, rfl⟩) | (with_reducible refine K2.out.mono ?_; rintro e w4 ⟨rfl, rfl⟩))
          refine wp_region_lat (by kernel_rfl) (by kernel_rfl) ?_
          repeat (go_big_quiet_step (fail))
          refine wpQuiet_nil ?_
          intro _ hw'
          obtain ⟨y, hw''⟩ := hw'
          subst hw''
          go_wp2_with fail
          go_roundw
          case rel => exact ⟨k2 + 1, by omega, by go_num, (HAB.out.alloc _).lat y, HNX.out⟩
          case measure => simp [intOf]; omega
      · have HF := Lib.hid (show rowsR r = true by
          rw [HR.out, all_true _ _ fun j hj => (HP.out j (by omega) hj).1, rises_pred8 cmpM _ fun j hj1 hj => (HP.out j (by omega) hj).2 (by omega)]
          rfl)
        go_wp2_with fail
        go_ret
        exact ⟨by rw [HF.out]; rfl, HA.out⟩
end Go.Proofs.YticjnndhpfdajaaGreat
/- The law RolesOn, walked; and the plain law behind it. -/
namespace Go.Proofs.YticjnndhpfdajaaGreat
open Go.RowKit Go.Deep
set_option maxRecDepth 100000
set_option linter.unusedVariables false
/-- a way is none, or has a first step -/
theorem Reach.first {ms : List Mbr} {s u : Txt} (h : Reach ms s u) : s = u ∨ ∃ x ∈ succ ms s, Reach ms (txt x) u := by
  induction h with
  | refl => exact .inl rfl
  | step h1 hx he ih =>
    rcases ih with e | ⟨y, hy, hr⟩
    · subst e
      exact .inr ⟨_, hx, by rw [← he]; exact .refl _⟩
    · exact .inr ⟨y, hy, hr.step hx he⟩
end Go.Proofs.YticjnndhpfdajaaGreat
/- Plain: where a new one goes into a row that rises; what the document's loops lay; roles that have grown. -/
namespace Go.Proofs.YticjnndhpfdajaaGreat
set_option linter.unusedVariables false
theorem txt_inj {a b : ByteArray} (h : txt a = txt b) : a = b := by
  unfold txt at h
  cases a; cases b
  simp only [Array.toList_inj] at h
  rw [h]
theorem eqS_iff (a b : ByteArray) : eqS a b = true ↔ a = b := ⟨fun h => txt_inj ((eqS_txt _ _).1 h), fun h => (eqS_txt _ _).2 (by rw [h])⟩
theorem ordS : Ord8 cmpS := ⟨cmpS_tr, cmpS_anti, fun a b h => (eqS_iff _ _).1 ((cmpS_eq _ _).1 h)⟩
theorem inB_mem (l : List ByteArray) (s : ByteArray) : inB l s = true ↔ s ∈ l := by
  unfold inB
  rw [List.any_eq_true]
  exact ⟨fun ⟨x, hx, h⟩ => by rw [← (eqS_iff _ _).1 h]; exact hx, fun h => ⟨s, h, (eqS_iff _ _).2 rfl⟩⟩
theorem mem_succ {ms : List Mbr} {s : Txt} {y : ByteArray} : y ∈ succ ms s ↔ ∃ m ∈ ms, txt m.role = s ∧ m.of = y := by
  unfold succ
  rw [List.mem_map]
  constructor
  · rintro ⟨m, hm, rfl⟩
    obtain ⟨h1, h2⟩ := List.mem_filter.1 hm
    exact ⟨m, h1, by simpa using h2, rfl⟩
  · rintro ⟨m, hm, h1, rfl⟩
    exact ⟨m, List.mem_filter.2 ⟨hm, by simpa using h1⟩, rfl⟩
theorem Reach.mono {ms ms' : List Mbr} (hs : ∀ m ∈ ms, m ∈ ms') {s t : Txt} (h : Reach ms s t) : Reach ms' s t := by
  induction h with
  | refl => exact .refl _
  | step h1 hx he ih =>
    obtain ⟨m, hm, h2, h3⟩ := mem_succ.1 hx
    exact ih.step (mem_succ.2 ⟨m, hs m hm, h2, h3⟩) he
end Go.Proofs.YticjnndhpfdajaaGreat
/- The document's columns. -/
namespace Go.Proofs.YticjnndhpfdajaaGreat
open Go.RowKit
set_option maxRecDepth 100000
set_option linter.unusedVariables false

theorem SlAt.take {α : Type} {w : World} {size : Nat} {R : World → List Value → α → Prop} {A : Option Addr} {cap : Nat} {l : List α} (h : SlAt w size R A cap l) (k : Nat) : SlAt w size R A cap (l.take k) :=
  ⟨Nat.le_trans (by simp; omega) h.1, Nat.le_trans (Nat.mul_le_mul_right _ (by simp; omega)) h.2.1, fun i hi => by
    have hi' : i < l.length := by simp at hi; omega
    obtain ⟨b, off, cs, hA, hb, hl, hr, hc⟩ := h.2.2 i hi'
    exact ⟨b, off, cs, hA, hb, hl, by rw [List.getElem_take]; exact hr, hc⟩⟩

/-- may a column be? -/
def colOk (c : Col) : Bool := nameB c.name && (c.kind == 2 || c.kind == 3)
/-- may columns be? -/
def colsOk (l : List Col) : Bool := decide (1 ≤ l.length) && decide (l.length ≤ 8) && (List.range l.length).all fun i => match l[i]? with | some c => colOk c && decide (idxP (fun d => eqS d.name c.name) (l.take i) < 0) | none => true
theorem colsOk_false (l : List Col) (k : Nat) (hk : k < l.length) (h : (colOk l[k] && decide (idxP (fun d => eqS d.name l[k].name) (l.take k) < 0)) = false) : colsOk l = false := by
  unfold colsOk
  rw [Bool.and_eq_false_iff]; right
  rw [Bool.eq_false_iff]
  intro ha
  have := List.all_eq_true.1 ha k (List.mem_range.2 hk)
  rw [List.getElem?_eq_getElem hk] at this
  simp only [h] at this
  cases this
theorem colsOk_true (l : List Col) (h1 : 1 ≤ l.length) (h8 : l.length ≤ 8) (h : ∀ k, k < l.length → ∀ hk : k < l.length, (colOk l[k] && decide (idxP (fun d => eqS d.name l[k].name) (l.take k) < 0)) = true) : colsOk l = true := by
  unfold colsOk
  rw [Bool.and_eq_true, List.all_eq_true]
  refine ⟨by simp [h1, h8], fun k hk => ?_⟩
  have hk' := List.mem_range.1 hk
  rw [List.getElem?_eq_getElem hk']
  exact h k hk' hk'

set_option maxHeartbeats 1000000 in
theorem rone_any (name : ByteArray) (kind : Int) (null : Bool) (w : World) (hs : name.size ≤ maxLen) :
    Calls Tryz.prog 249 #[.agg #[.string name, .int .i64 kind, .bool null]] w fun e w' => e = .returned (.bool (colOk ⟨name, kind, null⟩)) ∧ Aft w w' := by
  go_enter Tryz.func249, Tryz.ntmps249
  go_wp2_with (go_at_call 153; refine (rname_any _ _ hs).mono ?_; rintro e w' ⟨rfl, rfl⟩)
  all_goals
    go_ret
    refine ⟨Eq.trans (b := .returned (.bool _)) rfl (ret_of (bool_of ?_)), (Aft.refl _).alloc _⟩
    simp_all [colOk]

set_option maxHeartbeats 2000000 in
theorem rcols_any (A : Option Addr) (cap : Nat) (l : List Col) (w : World) (h : SlAt w 3 ColR A cap l) :
    Calls Tryz.prog 207 #[.slice A l.length cap] w fun e w' => e = .returned (.bool (colsOk l)) ∧ Aft w w' := by
  have hlen := h.len
  by_cases h1 : l.length < 1 ∨ 8 < l.length
  · have H := Lib.hid (show colsOk l = false by unfold colsOk; rcases h1 with h1 | h1 <;> simp <;> intros <;> omega)
    rcases h1 with h1 | h1
    all_goals
      go_enter Tryz.func207, Tryz.ntmps207
      go_wp2_with fail
      go_ret
      exact ⟨by rw [H.out]; rfl, Aft.refl _⟩
  · have g1 : 1 ≤ l.length := by omega
    have g8 : l.length ≤ 8 := by omega
    clear h1
    go_enter Tryz.func207, Tryz.ntmps207
    go_wp2_with fail
    go_loopw [3] (fun i wr => ∃ k : Nat, k ≤ l.length ∧ i = .int .i64 k ∧ Aft w wr ∧ ∀ j, j < k → ∀ (hj : j < l.length), (colOk l[j] && decide (idxP (fun d => eqS d.name l[j].name) (l.take j) < 0)) = true) (fun i _ => l.length - (intOf i).toNat)
    case atStart => exact ⟨0, Nat.zero_le _, rfl, Aft.refl _, fun j hj => absurd hj (Nat.not_lt_zero j)⟩
    case round =>
      obtain ⟨k, hk, rfl, ha, hp⟩ := hrel
      have HA := Lib.hid ha
      have HP := Lib.hid hp; clear hp
      by_cases hlt : k < l.length
      · have hsl := cols_aft ha h
        clear ha
        obtain ⟨b, off, rfl, hb, c0, c1, c2, hs⟩ := col_at hsl hlt
        have Cone := Lib.hid (fun w => rone_any l[k].name l[k].kind l[k].null w hs.max)
        obtain ⟨r, hr⟩ : ∃ r, idxP (fun d => eqS d.name l[k].name) (l.take k) = r := ⟨_, rfl⟩
        have Ccol := Lib.hid (show ∀ x : Lat wr, Calls Tryz.prog 152 #[.slice (some ⟨b, off, none⟩) k cap, .string l[k].name] (lat wr x) fun e w' => e = .returned (.int .i64 r) ∧ lat wr x = w' by
          intro x
          have := rcol_any _ _ (l.take k) l[k].name (lat wr x) (cols_aft ((Aft.refl wr).lat x) (hsl.take k))
          rwa [List.length_take, Nat.min_eq_left (by omega), hr] at this)
        have hcap : k ≤ cap := Nat.le_trans hk hsl.1
        have HR := Lib.hid hr
        clear hr hsl
        generalize hcc : colOk ⟨l[k].name, l[k].kind, l[k].null⟩ = cc at Cone
        have HC := Lib.hid hcc
        clear hcc
        cases cc
        · go_wp2_with fail
          refine wp_region_lat (by kernel_rfl) (by kernel_rfl) ?_
          repeat (go_big_quiet_step ((first | (go_at_call 249; exact Calls.lat_of (Cone.out _)) | (go_at_call 152; exact Calls.lat_same (Ccol.out _)))))
          refine wpQuiet_nil ?_
          intro _ hw'
          obtain ⟨x, hw''⟩ := hw'
          subst hw''
          go_wp2_with fail
          go_ret
          exact ⟨by rw [colsOk_false l k hlt (by rw [show colOk l[k] = false from HC.out]; rfl)]; rfl, HA.out.lat x⟩
        · by_cases hr0 : 0 ≤ r
          · go_wp2_with fail
            refine wp_region_lat (by kernel_rfl) (by kernel_rfl) ?_
            repeat (go_big_quiet_step ((first | (go_at_call 249; exact Calls.lat_of (Cone.out _)) | (go_at_call 152; exact Calls.lat_same (Ccol.out _)))))
            refine wpQuiet_nil ?_
            intro _ hw'
            obtain ⟨x, hw''⟩ := hw'
            subst hw''
            go_wp2_with fail
            go_ret
            exact ⟨by rw [colsOk_false l k hlt (by rw [HR.out, decide_eq_false (by omega), Bool.and_false])]; rfl, HA.out.lat x⟩
          · have hr1 : r < 0 := by omega
            go_wp2_with fail
            refine wp_region_lat (by kernel_rfl) (by kernel_rfl) ?_
            repeat (go_big_quiet_step ((first | (go_at_call 249; exact Calls.lat_of (Cone.out _)) | (go_at_call 152; exact Calls.lat_same (Ccol.out _)))))
            refine wpQuiet_nil ?_
            intro _ hw'
            obtain ⟨x, hw''⟩ := hw'
            subst hw''
            go_wp2_with fail
            go_roundw
            case rel => exact ⟨k + 1, by omega, by go_num, HA.out.lat x, ext_lt (p := fun j => ∀ (hj : j < l.length), (colOk l[j] && decide (idxP (fun d => eqS d.name l[j].name) (l.take j) < 0)) = true) HP.out (fun _ => by rw [HR.out, decide_eq_true hr1, show colOk l[k] = true from HC.out]; rfl)⟩
            case measure => simp [intOf]; omega
      · go_wp2_with fail
        go_ret
        exact ⟨by rw [colsOk_true l g1 g8 (fun j hj hj' => HP.out j (by omega) hj')]; rfl, HA.out⟩
end Go.Proofs.YticjnndhpfdajaaGreat
