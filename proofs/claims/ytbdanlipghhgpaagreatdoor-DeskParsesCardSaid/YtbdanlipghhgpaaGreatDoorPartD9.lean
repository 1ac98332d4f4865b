/- Contracts of the program, part 9. -/
import Derived.Laws.EntriesVeiled
import Derived.WalkKit
import Derived.WalkSpells
import Derived.WalkLawsBesides
import Derived.Laws.Cells
import Derived.Laws.IdiomCopy
import Derived.Test.YtbdanlipghhgpaaGreatDoorRows
import Derived.Lib.Bytealg
import Derived.Lib.Hide
import Derived.ProofKit
import Derived.OpenShut
import Derived.Deep.Slices
import Derived.ChangeOld
import Derived.SizedLaws
import Derived.Deep.QuietTactic
import Derived.BigQuiet
import Derived.Below
import Derived.Deep.Draws
import Derived.StillTailTactics
import Derived.ShutString
import Derived.Lib.Atoi
import Derived.Lib.ItoaNum
import Derived.Lib.Split
import Derived.Lib.SplitLaws
import Derived.Lib.CutLaws
import Derived.Lib.Strings
import Derived.Lib.SlTrimSet
import Derived.Deep.Upon
import Derived.OwnWalk
import Derived.Laws.AppendOwn
import Derived.Shelf.Strings.Builder1
import Derived.Shelf.Strings.Builder2
import Derived.Shelf.Strings.OnBuilder
import Derived.Shelf.Strings.Trim
import Derived.Shelf.Small.Utf8
import Derived.Shelf.Small.Strs
import Derived.Shelf.Small.Wraps
import Derived.Shelf.Strconv.Atoi
import Derived.Shelf.Strconv.Itoa0
import Derived.Shelf.Strconv.Itoa1
import Derived.Shelf.LaysM
import Derived.Shelf.Strconv.Itoa2
import Derived.Shelf.Strconv.Itoa3
import Derived.Shelf.Strings.Search1
import Derived.Shelf.Strings.Search2
import Derived.Shelf.Strings.Search3
import Derived.Shelf.Strings.Cut
import Derived.Shelf.Strings.Count
import Derived.Shelf.Strings.Shaped
import Derived.Shelf.Strings.Prefix
import Derived.Shelf.Strings.Split
import Derived.Shelf.Strings.Runes
import Derived.Shelf.Strings.AsciiSet
import Derived.Shelf.Unicode.DecodeSlow
import Derived.Shelf.Slices.Equal
import Derived.Shelf.Slices.Empties2
import Derived.Shelf.Strings.SlTrimAscii
import Derived.Test.YtbdanlipghhgpaaGreatDoorProg
import Derived.Deep.AppendLies
import Derived.Recover
import Derived.Defers
import Derived.Deep.Cut
import Derived.Lib.CountLaws
import Derived.Deep.RegionLaw
import Derived.RegionDies
import Derived.Test.YtbdanlipghhgpaaGreatDoorPartD1
import Derived.Test.YtbdanlipghhgpaaGreatDoorPartD2
import Derived.Test.YtbdanlipghhgpaaGreatDoorPartD3
import Derived.Test.YtbdanlipghhgpaaGreatDoorPartD4
import Derived.Test.YtbdanlipghhgpaaGreatDoorPartD5
import Derived.Test.YtbdanlipghhgpaaGreatDoorPartD6
import Derived.Test.YtbdanlipghhgpaaGreatDoorPartD7
import Derived.Test.YtbdanlipghhgpaaGreatDoorPartD8
namespace Go.Proofs.YtbdanlipghhgpaaGreatDoor
open Go.RowKit Go.Deep
set_option maxRecDepth 100000
set_option linter.unusedVariables false
def numT (neg : Bool) (l : Bts) : Int × Bool :=
  if l.length = 0 ∨ 10 < l.length ∨ (l.head? = some 48 ∧ (1 < l.length ∨ neg = true)) then (0, false)
  else if l.all isDig then (if accN 0 l ≤ 1000000000 then (if neg then -(accN 0 l : Int) else accN 0 l, true) else (0, false)) else (0, false)
theorem numV_of {l : Bts} {s : ByteArray} (h : s.data.toList = l) : numV s = ((numL l).getD 0, (numL l).isSome) := by subst h; rfl
theorem numL_no {l : Bts} (h : formN l = false) : numL l = none := by unfold numL; rw [h]; rfl
theorem numT_neg (r : Bts) (hr : r ≠ []) : ((numL (45 :: r)).getD 0, (numL (45 :: r)).isSome) = numT true r := by
  have e1 : r.isEmpty = false := by cases r <;> simp_all
  have e2 : ¬ r.length = 0 := by cases r <;> simp_all
  have ef : formN (45 :: r) = (decide (r.length ≤ 10) && r.all isDig && !(r.head? == some 48)) := by
    unfold formN
    rw [minus_yes, e1, show ((45 : UInt8) :: r != [48]) = true by simp]
    simp
  unfold numT
  by_cases h1 : 10 < r.length
  · rw [if_pos (.inr (.inl h1)), numL_no (by rw [ef, decide_eq_false (by omega)]; rfl)]; rfl
  by_cases h2 : r.head? = some 48
  · rw [if_pos (.inr (.inr ⟨h2, .inr rfl⟩)), numL_no (by rw [ef, h2]; simp)]; rfl
  rw [if_neg (by simp [e2, h1, h2])]
  cases hd : r.all isDig with
  | false => rw [numL_no (by rw [ef, hd]; simp)]; rfl
  | true =>
    rw [if_pos rfl]
    have hf : formN (45 :: r) = true := by
      rw [ef, hd, decide_eq_true (by omega), show (r.head? == some 48) = false by simpa using h2]; rfl
    have ha : Lib.atoi (45 :: r) = some (-(accN 0 r : Int)) := by
      simp only [Lib.atoi, Lib.decNat, e1, Bool.false_eq_true, if_false, beq_self_eq_true, if_true, dec_all _ _ hd, Option.map_some]
    unfold numL
    rw [if_pos hf, ha]
    show ((if inN (-(accN 0 r : Int)) then some (-(accN 0 r : Int)) else none).getD 0, _) = _
    by_cases h3 : accN 0 r ≤ 1000000000
    · have : inN (-(accN 0 r : Int)) = true := by unfold inN; simp; omega
      simp [this, h3]
    · have : inN (-(accN 0 r : Int)) = false := by unfold inN; simp; omega
      simp [this, h3]
theorem numT_pos (l : Bts) (hl : l.length ≤ 1 ∨ l.head? ≠ some 45) : ((numL l).getD 0, (numL l).isSome) = numT false l := by
  cases l with
  | nil => rfl
  | cons c r =>
    by_cases hc : c = 45
    · subst hc
      have : r = [] := by
        rcases hl with h | h
        · simpa using h
        · simp at h
      subst this; rfl
    have em := minus_no c r hc
    have e2 : ¬ (c :: r).length = 0 := by simp
    have ef : formN (c :: r) = (decide ((c :: r).length ≤ 10) && (c :: r).all isDig && !((c :: r).head? == some 48 && (c :: r) != [48])) := by
      unfold formN; rw [em]; rfl
    unfold numT
    by_cases h1 : 10 < (c :: r).length
    · rw [if_pos (.inr (.inl h1)), numL_no (by rw [ef, decide_eq_false (by omega)]; rfl)]; rfl
    by_cases h2 : (c :: r).head? = some 48 ∧ 1 < (c :: r).length
    · rw [if_pos (.inr (.inr ⟨h2.1, .inl h2.2⟩)), numL_no (by
        rw [ef, h2.1]
        have : r ≠ [] := fun e => by have := h2.2; rw [e] at this; simp at this
        simp [this])]; rfl
    rw [if_neg (by
      rintro (h | h | ⟨h, h3 | h3⟩)
      · exact e2 h
      · exact h1 h
      · exact h2 ⟨h, h3⟩
      · cases h3)]
    cases hd : (c :: r).all isDig with
    | false => rw [numL_no (by rw [ef, hd]; simp)]; rfl
    | true =>
      rw [if_pos rfl]
      have hf : formN (c :: r) = true := by
        rw [ef, hd, decide_eq_true (by omega)]
        by_cases h3 : c = 48
        · subst h3
          have : r = [] := by
            cases r with
            | nil => rfl
            | cons x y => exact absurd ⟨rfl, by simp⟩ h2
          subst this; rfl
        · simp [h3]
      have hc2 : c ≠ 43 := by intro e; subst e; simp [isDig] at hd
      have e3 : (c == 45) = false := by rw [beq_eq_false_iff_ne]; exact hc
      have e4 : (c == 43) = false := by rw [beq_eq_false_iff_ne]; exact hc2
      have ha : Lib.atoi (c :: r) = some (accN 0 (c :: r) : Int) := by
        simp only [Lib.atoi, e3, e4, Bool.false_eq_true, if_false, Lib.decNat, List.isEmpty_cons, dec_all _ _ hd, Option.map_some]
      unfold numL
      rw [if_pos hf, ha]
      show ((if inN (accN 0 (c :: r) : Int) then some (accN 0 (c :: r) : Int) else none).getD 0, _) = _
      by_cases h3 : accN 0 (c :: r) ≤ 1000000000
      · have : inN (accN 0 (c :: r) : Int) = true := by unfold inN; simp; omega
        simp [this, h3]
      · have : inN (accN 0 (c :: r) : Int) = false := by unfold inN; simp; omega
        simp [this, h3]
theorem accN_snoc (l : Bts) (c : UInt8) (a : Nat) : accN a (l ++ [c]) = accN a l * 10 + (c.toNat - 48) := by unfold accN; rw [List.foldl_append]; rfl
theorem accN_lt : ∀ (k : Nat) (l : Bts), l.length = k → l.all isDig = true → accN 0 l < 10 ^ k := by
  intro k
  induction k with
  | zero => intro l h _; have := List.eq_nil_of_length_eq_zero h; subst this; decide
  | succ k ih =>
    intro l h hd
    have hn : l ≠ [] := by intro e; subst e; simp at h
    obtain ⟨m, c, rfl⟩ : ∃ m c, l = m ++ [c] := ⟨l.dropLast, l.getLast hn, (List.dropLast_concat_getLast hn).symm⟩
    rw [List.all_append, Bool.and_eq_true] at hd
    have h1 := ih m (by simpa using h) hd.1
    rw [accN_snoc]
    have h2 : c.toNat - 48 < 10 := by have := hd.2; simp only [List.all_cons, List.all_nil, Bool.and_true] at this; exact (dig_back this).2
    rw [Nat.pow_succ]; omega
theorem acc10 {l : Bts} (h : l.length ≤ 10) (hd : l.all isDig = true) : accN 0 l < 10000000000 :=
  Nat.lt_of_lt_of_le (accN_lt l.length l rfl hd) (Nat.pow_le_pow_right (n := 10) (by decide) h)

theorem dig_no (s : ByteArray) (k : Nat) (h : k < s.size) (hq : isDig s[k] = false) : s.data.toList.all isDig = false := by
  rw [← Bool.not_eq_true, List.all_eq_true]
  intro hx
  have := hx s[k] (by rw [List.mem_iff_getElem]; exact ⟨k, by rw [← Lib.size_eq]; exact h, by simp [ByteArray.getElem_eq_getElem_data]⟩)
  rw [hq] at this; cases this
theorem take_snoc (s : ByteArray) (k : Nat) (h : k < s.size) : s.data.toList.take (k + 1) = s.data.toList.take k ++ [s[k]] := by
  rw [List.take_add_one, List.getElem?_eq_getElem (by rw [← Lib.size_eq]; exact h)]
  simp [ByteArray.getElem_eq_getElem_data]
theorem isDig_iff (c : UInt8) : isDig c = true ↔ (48 ≤ (c.toNat : Int) ∧ (c.toNat : Int) ≤ 57) := by unfold isDig; simp; omega
def NumQ (r : Int × Bool) (w : World) (e : Ending) (w' : World) : Prop := e = .returned (.tuple #[.int .i64 r.1, .bool r.2]) ∧ w = w'

set_option maxHeartbeats 2000000 in
theorem number_pos (s : ByteArray) (w : World) (hs : Small s.size) (hp : s.size ≤ 1 ∨ ∃ h : 0 < s.size, s[0] ≠ 45) : Calls Tryz.prog 55 #[.string s] w (NumQ (numT false s.data.toList) w) := by
  have hs' := hs.max
  unfold maxLen at hs'
  have hp' : ((1 : Int) < (s.size : Int)) → ∃ h : 0 < s.size, ((s[0].toNat : Int) == 45) = false := by
    intro h1
    rcases hp with h | ⟨h, h2⟩
    · omega
    · refine ⟨h, beq_eq_false_iff_ne.2 fun e => h2 (UInt8.toNat_inj.1 ?_)⟩
      have : (45 : UInt8).toNat = 45 := rfl
      omega
  unfold NumQ
  by_cases b1 : (1 : Int) < (s.size : Int)
  · obtain ⟨b0, b2⟩ := hp' b1
    clear hp' hp
    have b2' : ¬ (s[0].toNat : Int) = 45 := by simpa using b2
    have hD0 : (s.size : Int) = s.size := rfl
    have hlen : s.data.toList.length = s.size := (Lib.size_eq s).symm
    by_cases c1 : s.size = 0
    · have H := Lib.hid (show numT false s.data.toList = (0, false) from by unfold numT; rw [hlen, if_pos (.inl c1)])
      have c1' : (s.size : Int) < 1 := by omega
      clear c1
      go_enter Tryz.func55, Tryz.ntmps55
      go_wp2_with fail
      all_goals
        go_ret2
        exact ⟨by rw [H.out]; rfl, rfl⟩
    have c1' : ¬ (s.size : Int) < 1 := by omega
    have c1d : decide ((s.size : Int) < 1) = false := decide_eq_false c1'
    have c1p : 0 < s.size := by omega
    by_cases c2 : 10 < s.size
    · have H := Lib.hid (show numT false s.data.toList = (0, false) from by unfold numT; rw [hlen, if_pos (.inr (.inl c2))])
      have c2' : (10 : Int) < (s.size : Int) := by omega
      clear c2
      go_enter Tryz.func55, Tryz.ntmps55
      go_wp2_with fail
      all_goals
        go_ret2
        exact ⟨by rw [H.out]; rfl, rfl⟩
    have c2' : ¬ (10 : Int) < (s.size : Int) := by omega
    have c2d : decide ((10 : Int) < (s.size : Int)) = false := decide_eq_false c2'
    have hh : s.data.toList.head? = some s[0] := by
      cases hq : s.data.toList with
      | nil => rw [hq] at hlen; simp at hlen; omega
      | cons a l => rw [← head_get _ c1p, hq]; rfl
    have e48 : ((s[0].toNat : Int) == 48) = decide (s[0] = 48) := by
      rw [Bool.eq_iff_iff]; simp only [beq_iff_eq, decide_eq_true_eq]
      constructor
      · intro h; exact UInt8.toNat_inj.1 (by have : (48 : UInt8).toNat = 48 := rfl; omega)
      · intro h; rw [h]; rfl
    by_cases c3 : s[0] = 48 ∧ (1 < s.size ∨ false = true)
    · have H := Lib.hid (show numT false s.data.toList = (0, false) from by unfold numT; rw [hlen, hh, if_pos (.inr (.inr ⟨by rw [c3.1], c3.2⟩))])
      have c4 : ((s[0].toNat : Int) == 48) = true := by rw [e48]; exact decide_eq_true c3.1
      have c5 : (s[0].toNat : Int) = 48 := by simpa using c4
      have c6 : (1 : Int) < (s.size : Int) := by
        rcases c3.2 with h | h
        · omega
        · cases h
      clear c3 hh e48 hlen c1 c2
      go_enter Tryz.func55, Tryz.ntmps55
      go_wp2_with fail
      all_goals
        go_ret2
        exact ⟨by rw [H.out]; rfl, rfl⟩
    have c3n : ¬ (s.data.toList.length = 0 ∨ 10 < s.data.toList.length ∨ (s.data.toList.head? = some 48 ∧ (1 < s.data.toList.length ∨ false = true))) := by
      rw [hlen, hh]
      rintro (h | h | ⟨h, h'⟩)
      · exact c1 h
      · exact c2 h
      · exact c3 ⟨by simpa using h, h'⟩
    have HNO := Lib.hid (show ∀ k (h : k < s.size), isDig s[k] = false → numT false s.data.toList = (0, false) from fun k h hq => by unfold numT; rw [if_neg c3n, dig_no s k h hq]; rfl)
    have HALL := Lib.hid (show s.data.toList.all isDig = true → numT false s.data.toList = if accN 0 s.data.toList ≤ 1000000000 then ((accN 0 s.data.toList : Int), true) else (0, false) from fun hq => by unfold numT; rw [if_neg c3n, hq]; rfl)
    have HLN := Lib.hid hlen
    have c3' : s[0] = 48 → ¬ 1 < s.size := fun h h1 => c3 ⟨h, .inl h1⟩
    have hcase : ((s[0].toNat : Int) == 48) = false ∨ (((s[0].toNat : Int) == 48) = true ∧ (s.size : Int) = 1) := by
      rw [e48]
      by_cases h : s[0] = 48
      · exact .inr ⟨decide_eq_true h, by have := c3' h; omega⟩
      · exact .inl (decide_eq_false h)
    clear hlen hh e48 c3 c3n c3' c1 c2
    rcases hcase with c4 | ⟨c4, c6⟩
    · have c5 : ¬ (s[0].toNat : Int) = 48 := by simpa using c4
      go_enter Tryz.func55, Tryz.ntmps55
      go_wp2_with fail
      go_loop [6, 7] (fun n i => ∃ k : Nat, k ≤ s.size ∧ n = .int .i64 (accN 0 (s.data.toList.take k)) ∧ i = .int .i64 k ∧ (s.data.toList.take k).all isDig = true) (fun n i => s.size - (intOf i).toNat)
      case atStart => exact ⟨0, Nat.zero_le _, rfl, rfl, rfl⟩
      case round =>
        obtain ⟨k, hk, rfl, rfl, ha⟩ := hrel
        have hacc := acc10 (l := s.data.toList.take k) (by rw [List.length_take]; omega) ha
        have HA := Lib.hid ha
        obtain ⟨m, hm⟩ : ∃ m, accN 0 (s.data.toList.take k) = m := ⟨_, rfl⟩
        rw [hm] at hacc ⊢
        have HM := Lib.hid hm
        clear ha hm
        by_cases hlt : k < s.size
        · cases hq : isDig s[k]
          · have H := Lib.hid (HNO.out k hlt hq)
            have hb : (s[k].toNat : Int) < 48 ∨ 57 < (s[k].toNat : Int) := by
              have := isDig_iff s[k]
              rw [hq] at this
              simp at this
              omega
            clear hq
            rcases hb with hb | hb
            all_goals
              go_wp2_with fail
              all_goals
                go_ret2
                exact ⟨by rw [H.out]; rfl, rfl⟩
          · have hb := (isDig_iff s[k]).1 hq
            have HS := Lib.hid (take_snoc s k hlt)
            have HQ := Lib.hid hq
            clear hq
            obtain ⟨hb1, hb2⟩ := hb
            go_wp2_with fail
            go_round
            case rel => exact ⟨k + 1, by omega, by rw [HS.out, accN_snoc, HM.out]; go_num, by go_num, by rw [HS.out, List.all_append, HA.out]; simp [HQ.out]⟩
            case measure => simp [intOf]; omega
        · have hkk : k = s.size := by omega
          have hd : s.data.toList.all isDig = true := by
            have := HA.out
            rw [hkk, List.take_of_length_le (by rw [HLN.out]; exact Nat.le_refl _)] at this
            exact this
          have hm2 : accN 0 s.data.toList = m := by
            have := HM.out
            rw [hkk, List.take_of_length_le (by rw [HLN.out]; exact Nat.le_refl _)] at this
            exact this
          have HALL2 := Lib.hid (HALL.out hd)
          rw [hm2] at HALL2
          clear hd hm2
          by_cases hm3 : (1000000000 : Int) < (m : Int)
          · go_wp2_with fail
            all_goals
              go_ret2
              exact ⟨by rw [HALL2.out, if_neg (by omega)]; rfl, rfl⟩
          · go_wp2_with fail
            all_goals
              go_ret2
              exact ⟨by rw [HALL2.out, if_pos (by omega)]; first | rfl | (congr 1; congr 1; go_num), rfl⟩
    · have c5 : (s[0].toNat : Int) = 48 := by simpa using c4
      exact absurd c6 (by omega)
  · clear hp' hp
    have hD0 : (s.size : Int) = s.size := rfl
    have hlen : s.data.toList.length = s.size := (Lib.size_eq s).symm
    by_cases c1 : s.size = 0
    · have H := Lib.hid (show numT false s.data.toList = (0, false) from by unfold numT; rw [hlen, if_pos (.inl c1)])
      have c1' : (s.size : Int) < 1 := by omega
      clear c1
      go_enter Tryz.func55, Tryz.ntmps55
      go_wp2_with fail
      all_goals
        go_ret2
        exact ⟨by rw [H.out]; rfl, rfl⟩
    have c1' : ¬ (s.size : Int) < 1 := by omega
    have c1d : decide ((s.size : Int) < 1) = false := decide_eq_false c1'
    have c1p : 0 < s.size := by omega
    by_cases c2 : 10 < s.size
    · have H := Lib.hid (show numT false s.data.toList = (0, false) from by unfold numT; rw [hlen, if_pos (.inr (.inl c2))])
      have c2' : (10 : Int) < (s.size : Int) := by omega
      clear c2
      go_enter Tryz.func55, Tryz.ntmps55
      go_wp2_with fail
      all_goals
        go_ret2
        exact ⟨by rw [H.out]; rfl, rfl⟩
    have c2' : ¬ (10 : Int) < (s.size : Int) := by omega
    have c2d : decide ((10 : Int) < (s.size : Int)) = false := decide_eq_false c2'
    have hh : s.data.toList.head? = some s[0] := by
      cases hq : s.data.toList with
      | nil => rw [hq] at hlen; simp at hlen; omega
      | cons a l => rw [← head_get _ c1p, hq]; rfl
    have e48 : ((s[0].toNat : Int) == 48) = decide (s[0] = 48) := by
      rw [Bool.eq_iff_iff]; simp only [beq_iff_eq, decide_eq_true_eq]
      constructor
      · intro h; exact UInt8.toNat_inj.1 (by have : (48 : UInt8).toNat = 48 := rfl; omega)
      · intro h; rw [h]; rfl
    by_cases c3 : s[0] = 48 ∧ (1 < s.size ∨ false = true)
    · have H := Lib.hid (show numT false s.data.toList = (0, false) from by unfold numT; rw [hlen, hh, if_pos (.inr (.inr ⟨by rw [c3.1], c3.2⟩))])
      have c4 : ((s[0].toNat : Int) == 48) = true := by rw [e48]; exact decide_eq_true c3.1
      have c5 : (s[0].toNat : Int) = 48 := by simpa using c4
      have c6 : (1 : Int) < (s.size : Int) := by
        rcases c3.2 with h | h
        · omega
        · cases h
      exact absurd c6 b1
    have c3n : ¬ (s.data.toList.length = 0 ∨ 10 < s.data.toList.length ∨ (s.data.toList.head? = some 48 ∧ (1 < s.data.toList.length ∨ false = true))) := by
      rw [hlen, hh]
      rintro (h | h | ⟨h, h'⟩)
      · exact c1 h
      · exact c2 h
      · exact c3 ⟨by simpa using h, h'⟩
    have HNO := Lib.hid (show ∀ k (h : k < s.size), isDig s[k] = false → numT false s.data.toList = (0, false) from fun k h hq => by unfold numT; rw [if_neg c3n, dig_no s k h hq]; rfl)
    have HALL := Lib.hid (show s.data.toList.all isDig = true → numT false s.data.toList = if accN 0 s.data.toList ≤ 1000000000 then ((accN 0 s.data.toList : Int), true) else (0, false) from fun hq => by unfold numT; rw [if_neg c3n, hq]; rfl)
    have HLN := Lib.hid hlen
    have c3' : s[0] = 48 → ¬ 1 < s.size := fun h h1 => c3 ⟨h, .inl h1⟩
    have hcase : ((s[0].toNat : Int) == 48) = false ∨ (((s[0].toNat : Int) == 48) = true ∧ (s.size : Int) = 1) := by
      rw [e48]
      by_cases h : s[0] = 48
      · exact .inr ⟨decide_eq_true h, by have := c3' h; omega⟩
      · exact .inl (decide_eq_false h)
    clear hlen hh e48 c3 c3n c3' c1 c2
    rcases hcase with c4 | ⟨c4, c6⟩
    · have c5 : ¬ (s[0].toNat : Int) = 48 := by simpa using c4
      go_enter Tryz.func55, Tryz.ntmps55
      go_wp2_with fail
      go_loop [6, 7] (fun n i => ∃ k : Nat, k ≤ s.size ∧ n = .int .i64 (accN 0 (s.data.toList.take k)) ∧ i = .int .i64 k ∧ (s.data.toList.take k).all isDig = true) (fun n i => s.size - (intOf i).toNat)
      case atStart => exact ⟨0, Nat.zero_le _, rfl, rfl, rfl⟩
      case round =>
        obtain ⟨k, hk, rfl, rfl, ha⟩ := hrel
        have hacc := acc10 (l := s.data.toList.take k) (by rw [List.length_take]; omega) ha
        have HA := Lib.hid ha
        obtain ⟨m, hm⟩ : ∃ m, accN 0 (s.data.toList.take k) = m := ⟨_, rfl⟩
        rw [hm] at hacc ⊢
        have HM := Lib.hid hm
        clear ha hm
        by_cases hlt : k < s.size
        · cases hq : isDig s[k]
          · have H := Lib.hid (HNO.out k hlt hq)
            have hb : (s[k].toNat : Int) < 48 ∨ 57 < (s[k].toNat : Int) := by
              have := isDig_iff s[k]
              rw [hq] at this
              simp at this
              omega
            clear hq
            rcases hb with hb | hb
            all_goals
              go_wp2_with fail
              all_goals
                go_ret2
                exact ⟨by rw [H.out]; rfl, rfl⟩
          · have hb := (isDig_iff s[k]).1 hq
            have HS := Lib.hid (take_snoc s k hlt)
            have HQ := Lib.hid hq
            clear hq
            obtain ⟨hb1, hb2⟩ := hb
            go_wp2_with fail
            go_round
            case rel => exact ⟨k + 1, by omega, by rw [HS.out, accN_snoc, HM.out]; go_num, by go_num, by rw [HS.out, List.all_append, HA.out]; simp [HQ.out]⟩
            case measure => simp [intOf]; omega
        · have hkk : k = s.size := by omega
          have hd : s.data.toList.all isDig = true := by
            have := HA.out
            rw [hkk, List.take_of_length_le (by rw [HLN.out]; exact Nat.le_refl _)] at this
            exact this
          have hm2 : accN 0 s.data.toList = m := by
            have := HM.out
            rw [hkk, List.take_of_length_le (by rw [HLN.out]; exact Nat.le_refl _)] at this
            exact this
          have HALL2 := Lib.hid (HALL.out hd)
          rw [hm2] at HALL2
          clear hd hm2
          by_cases hm3 : (1000000000 : Int) < (m : Int)
          · go_wp2_with fail
            all_goals
              go_ret2
              exact ⟨by rw [HALL2.out, if_neg (by omega)]; rfl, rfl⟩
          · go_wp2_with fail
            all_goals
              go_ret2
              exact ⟨by rw [HALL2.out, if_pos (by omega)]; first | rfl | (congr 1; congr 1; go_num), rfl⟩
    · have c5 : (s[0].toNat : Int) = 48 := by simpa using c4
      go_enter Tryz.func55, Tryz.ntmps55
      go_wp2_with fail
      go_loop [6, 7] (fun n i => ∃ k : Nat, k ≤ s.size ∧ n = .int .i64 (accN 0 (s.data.toList.take k)) ∧ i = .int .i64 k ∧ (s.data.toList.take k).all isDig = true) (fun n i => s.size - (intOf i).toNat)
      case atStart => exact ⟨0, Nat.zero_le _, rfl, rfl, rfl⟩
      case round =>
        obtain ⟨k, hk, rfl, rfl, ha⟩ := hrel
        have hacc := acc10 (l := s.data.toList.take k) (by rw [List.length_take]; omega) ha
        have HA := Lib.hid ha
        obtain ⟨m, hm⟩ : ∃ m, accN 0 (s.data.toList.take k) = m := ⟨_, rfl⟩
        rw [hm] at hacc ⊢
        have HM := Lib.hid hm
        clear ha hm
        by_cases hlt : k < s.size
        · cases hq : isDig s[k]
          · have H := Lib.hid (HNO.out k hlt hq)
            have hb : (s[k].toNat : Int) < 48 ∨ 57 < (s[k].toNat : Int) := by
              have := isDig_iff s[k]
              rw [hq] at this
              simp at this
              omega
            clear hq
            rcases hb with hb | hb
            all_goals
              go_wp2_with fail
              all_goals
                go_ret2
                exact ⟨by rw [H.out]; rfl, rfl⟩
          · have hb := (isDig_iff s[k]).1 hq
            have HS := Lib.hid (take_snoc s k hlt)
            have HQ := Lib.hid hq
            clear hq
            obtain ⟨hb1, hb2⟩ := hb
            go_wp2_with fail
            go_round
            case rel => exact ⟨k + 1, by omega, by rw [HS.out, accN_snoc, HM.out]; go_num, by go_num, by rw [HS.out, List.all_append, HA.out]; simp [HQ.out]⟩
            case measure => simp [intOf]; omega
        · have hkk : k = s.size := by omega
          have hd : s.data.toList.all isDig = true := by
            have := HA.out
            rw [hkk, List.take_of_length_le (by rw [HLN.out]; exact Nat.le_refl _)] at this
            exact this
          have hm2 : accN 0 s.data.toList = m := by
            have := HM.out
            rw [hkk, List.take_of_length_le (by rw [HLN.out]; exact Nat.le_refl _)] at this
            exact this
          have HALL2 := Lib.hid (HALL.out hd)
          rw [hm2] at HALL2
          clear hd hm2
          by_cases hm3 : (1000000000 : Int) < (m : Int)
          · go_wp2_with fail
            all_goals
              go_ret2
              exact ⟨by rw [HALL2.out, if_neg (by omega)]; rfl, rfl⟩
          · go_wp2_with fail
            all_goals
              go_ret2
              exact ⟨by rw [HALL2.out, if_pos (by omega)]; first | rfl | (congr 1; congr 1; go_num), rfl⟩
set_option maxHeartbeats 2000000 in
theorem number_neg (s : ByteArray) (w : World) (hs : Small s.size) (h0 : 1 < s.size) (hm : s[0] = 45) : Calls Tryz.prog 55 #[.string s] w (NumQ (numT true (s.extract 1 s.size).data.toList) w) := by
  have hs' := hs.max
  unfold maxLen at hs'
  have b1 : (1 : Int) < (s.size : Int) := by omega
  have b2 : ((s[0].toNat : Int) == 45) = true := by rw [hm]; rfl
  have b2' : (s[0].toNat : Int) = 45 := by simpa using b2
  obtain ⟨d, hd⟩ : ∃ d, s.extract 1 s.size = d := ⟨_, rfl⟩
  have hds : d.size + 1 = s.size := by rw [← hd, ByteArray.size_extract]; omega
  have hdm : d.size ≤ 9223372036854775807 := by omega
  rw [hd]
  clear hm
  unfold NumQ
  have hD0 : (d.size : Int) = d.size := rfl
  have hlen : d.data.toList.length = d.size := (Lib.size_eq d).symm
  by_cases c1 : d.size = 0
  · have H := Lib.hid (show numT true d.data.toList = (0, false) from by unfold numT; rw [hlen, if_pos (.inl c1)])
    have c1' : (d.size : Int) < 1 := by omega
    clear c1
    go_enter Tryz.func55, Tryz.ntmps55
    go_wp2_with fail
    all_goals
      go_ret2
      exact ⟨by rw [H.out]; rfl, rfl⟩
  have c1' : ¬ (d.size : Int) < 1 := by omega
  have c1d : decide ((d.size : Int) < 1) = false := decide_eq_false c1'
  have c1p : 0 < d.size := by omega
  by_cases c2 : 10 < d.size
  · have H := Lib.hid (show numT true d.data.toList = (0, false) from by unfold numT; rw [hlen, if_pos (.inr (.inl c2))])
    have c2' : (10 : Int) < (d.size : Int) := by omega
    clear c2
    go_enter Tryz.func55, Tryz.ntmps55
    go_wp2_with fail
    all_goals
      go_ret2
      exact ⟨by rw [H.out]; rfl, rfl⟩
  have c2' : ¬ (10 : Int) < (d.size : Int) := by omega
  have c2d : decide ((10 : Int) < (d.size : Int)) = false := decide_eq_false c2'
  have hh : d.data.toList.head? = some d[0] := by
    cases hq : d.data.toList with
    | nil => rw [hq] at hlen; simp at hlen; omega
    | cons a l => rw [← head_get _ c1p, hq]; rfl
  have e48 : ((d[0].toNat : Int) == 48) = decide (d[0] = 48) := by
    rw [Bool.eq_iff_iff]; simp only [beq_iff_eq, decide_eq_true_eq]
    constructor
    · intro h; exact UInt8.toNat_inj.1 (by have : (48 : UInt8).toNat = 48 := rfl; omega)
    · intro h; rw [h]; rfl
  by_cases c3 : d[0] = 48 ∧ (1 < d.size ∨ true = true)
  · have H := Lib.hid (show numT true d.data.toList = (0, false) from by unfold numT; rw [hlen, hh, if_pos (.inr (.inr ⟨by rw [c3.1], c3.2⟩))])
    have c4 : ((d[0].toNat : Int) == 48) = true := by rw [e48]; exact decide_eq_true c3.1
    have c5 : (d[0].toNat : Int) = 48 := by simpa using c4
    clear c3 hh e48 hlen c1 c2
    by_cases c6 : (1 : Int) < (d.size : Int)
    · go_enter Tryz.func55, Tryz.ntmps55
      go_wp2_with fail
      all_goals
        go_ret2
        exact ⟨by rw [H.out]; rfl, rfl⟩
    · go_enter Tryz.func55, Tryz.ntmps55
      go_wp2_with fail
      all_goals
        go_ret2
        exact ⟨by rw [H.out]; rfl, rfl⟩
  have c3n : ¬ (d.data.toList.length = 0 ∨ 10 < d.data.toList.length ∨ (d.data.toList.head? = some 48 ∧ (1 < d.data.toList.length ∨ true = true))) := by
    rw [hlen, hh]
    rintro (h | h | ⟨h, h'⟩)
    · exact c1 h
    · exact c2 h
    · exact c3 ⟨by simpa using h, h'⟩
  have HNO := Lib.hid (show ∀ k (h : k < d.size), isDig d[k] = false → numT true d.data.toList = (0, false) from fun k h hq => by unfold numT; rw [if_neg c3n, dig_no d k h hq]; rfl)
  have HALL := Lib.hid (show d.data.toList.all isDig = true → numT true d.data.toList = if accN 0 d.data.toList ≤ 1000000000 then (-(accN 0 d.data.toList : Int), true) else (0, false) from fun hq => by unfold numT; rw [if_neg c3n, hq]; rfl)
  have HLN := Lib.hid hlen
  have c3' : d[0] = 48 → ¬ 1 < d.size := fun h h1 => c3 ⟨h, .inl h1⟩
  have hcase : ((d[0].toNat : Int) == 48) = false ∨ (((d[0].toNat : Int) == 48) = true ∧ (d.size : Int) = 1) := by
    rw [e48]
    by_cases h : d[0] = 48
    · exact .inr ⟨decide_eq_true h, by have := c3' h; omega⟩
    · exact .inl (decide_eq_false h)
  have c40 : ((d[0].toNat : Int) == 48) = false := by rw [e48]; exact decide_eq_false fun h => c3 ⟨h, .inr rfl⟩
  clear hlen hh e48 c3 c3n c3' c1 c2
  have c4 : ((d[0].toNat : Int) == 48) = false := c40
  have c5 : ¬ (d[0].toNat : Int) = 48 := by simpa using c4
  clear hcase
  go_enter Tryz.func55, Tryz.ntmps55
  go_wp2_with fail
  go_loop [6, 7] (fun n i => ∃ k : Nat, k ≤ d.size ∧ n = .int .i64 (accN 0 (d.data.toList.take k)) ∧ i = .int .i64 k ∧ (d.data.toList.take k).all isDig = true) (fun n i => d.size - (intOf i).toNat)
  case atStart => exact ⟨0, Nat.zero_le _, rfl, rfl, rfl⟩
  case round =>
    obtain ⟨k, hk, rfl, rfl, ha⟩ := hrel
    have hacc := acc10 (l := d.data.toList.take k) (by rw [List.length_take]; omega) ha
    have HA := Lib.hid ha
    obtain ⟨m, hm⟩ : ∃ m, accN 0 (d.data.toList.take k) = m := ⟨_, rfl⟩
    rw [hm] at hacc ⊢
    have HM := Lib.hid hm
    clear ha hm
    by_cases hlt : k < d.size
    · cases hq : isDig d[k]
      · have H := Lib.hid (HNO.out k hlt hq)
        have hb : (d[k].toNat : Int) < 48 ∨ 57 < (d[k].toNat : Int) := by
          have := isDig_iff d[k]
          rw [hq] at this
          simp at this
          omega
        clear hq
        rcases hb with hb | hb
        all_goals
          go_wp2_with fail
          all_goals
            go_ret2
            exact ⟨by rw [H.out]; rfl, rfl⟩
      · have hb := (isDig_iff d[k]).1 hq
        have HS := Lib.hid (take_snoc d k hlt)
        have HQ := Lib.hid hq
        clear hq
        obtain ⟨hb1, hb2⟩ := hb
        go_wp2_with fail
        go_round
        case rel => exact ⟨k + 1, by omega, by rw [HS.out, accN_snoc, HM.out]; go_num, by go_num, by rw [HS.out, List.all_append, HA.out]; simp [HQ.out]⟩
        case measure => simp [intOf]; omega
    · have hkk : k = d.size := by omega
      have hd : d.data.toList.all isDig = true := by
        have := HA.out
        rw [hkk, List.take_of_length_le (by rw [HLN.out]; exact Nat.le_refl _)] at this
        exact this
      have hm2 : accN 0 d.data.toList = m := by
        have := HM.out
        rw [hkk, List.take_of_length_le (by rw [HLN.out]; exact Nat.le_refl _)] at this
        exact this
      have HALL2 := Lib.hid (HALL.out hd)
      rw [hm2] at HALL2
      clear hd hm2
      by_cases hm3 : (1000000000 : Int) < (m : Int)
      · go_wp2_with fail
        all_goals
          go_ret2
          exact ⟨by rw [HALL2.out, if_neg (by omega)]; rfl, rfl⟩
      · go_wp2_with fail
        all_goals
          go_ret2
          exact ⟨by rw [HALL2.out, if_pos (by omega)]; first | rfl | (congr 1; congr 1; go_num), rfl⟩
theorem number_dn (s : ByteArray) (w : World) (hs : Small s.size) : Calls Tryz.prog 55 #[.string s] w fun e w' => e = .returned (.tuple #[.int .i64 (numV s).1, .bool (numV s).2]) ∧ w = w' := by
  by_cases h : ∃ h : 1 < s.size, s[0] = 45
  · obtain ⟨h1, h2⟩ := h
    have e : numV s = numT true (s.extract 1 s.size).data.toList := by
      have hl : s.data.toList = 45 :: (s.extract 1 s.size).data.toList := by
        rw [Lib.extract_to_end]
        have := head_get s (by omega)
        cases hq : s.data.toList with
        | nil => have hz := Lib.size_eq s; rw [hq, List.length_nil] at hz; omega
        | cons a l =>
          rw [hq] at this
          have this : a = s[0] := this
          simp only [List.drop_succ_cons, List.drop_zero]
          rw [this, h2]
      rw [numV_of hl]
      refine numT_neg _ fun e => ?_
      rw [e] at hl
      have hz := Lib.size_eq s
      rw [hl, List.length_cons, List.length_nil] at hz
      omega
    rw [e]
    exact number_neg s w hs h1 h2
  · have hp : s.size ≤ 1 ∨ ∃ h : 0 < s.size, s[0] ≠ 45 := by
      by_cases h1 : s.size ≤ 1
      · exact .inl h1
      · exact .inr ⟨by omega, fun e => h ⟨by omega, e⟩⟩
    have e : numV s = numT false s.data.toList := by
      rw [numV_of rfl]
      refine numT_pos _ ?_
      rcases hp with h | ⟨h, h2⟩
      · exact .inl (by rw [← Lib.size_eq]; exact h)
      · refine .inr fun e => h2 ?_
        have := head_get s h
        cases hq : s.data.toList with
        | nil => rw [hq] at e; cases e
        | cons a l =>
          rw [hq] at e this
          simp only [List.head?_cons, Option.some.injEq] at e
          have this : a = s[0] := this
          rw [← this, e]
    rw [e]
    exact number_pos s w hs hp

end Go.Proofs.YtbdanlipghhgpaaGreatDoor

namespace Go.Proofs.YtbdanlipghhgpaaGreatDoor
open Go.RowKit Go.Deep
set_option maxRecDepth 100000
set_option linter.unusedVariables false
structure LnS (w : World) (b p : Nat) (W : Ws) (d : Bool) : Prop where
  ex : ∃ o c, RowAt w b [.slice (some ⟨p, o, none⟩) W.length c, .bool d] ∧ Pcs w p o c W
  ne : ¬ p = b
  big : W.length ≤ 4097
theorem LnS.lt {w : World} {b p : Nat} {W : Ws} {d : Bool} (h : LnS w b p W d) : b < w.heap.size := by
  obtain ⟨o, c, r, _⟩ := h.ex
  exact r.1
theorem LnS.plt {w : World} {b p : Nat} {W : Ws} {d : Bool} (h : LnS w b p W d) : p < w.heap.size := by
  obtain ⟨o, c, r, q⟩ := h.ex
  exact q.2.1
theorem LnS.kb {w w' : World} {b p : Nat} {W : Ws} {d : Bool} {P : Nat → Prop} (h : LnS w b p W d) (k : Kb P w w') (hb : ¬ P b) (hp : ¬ P p) : LnS w' b p W d := by
  obtain ⟨o, c, r, q⟩ := h.ex
  exact ⟨⟨o, c, k.row r hb, q.kb k hp⟩, h.ne, h.big⟩
theorem LnS.aft {w w' : World} {b p : Nat} {W : Ws} {d : Bool} (h : LnS w b p W d) (a : Aft w w') : LnS w' b p W d := h.kb (P := fun _ => False) (Kb.of_aft a) id id
theorem LnS.bad {w : World} {b p : Nat} {W : Ws} {d : Bool} (h : LnS w b p W d) (x : Bool) : LnS (w.setCell ⟨b, 1, none⟩ (.bool x)) b p W x ∧ Kw b w (w.setCell ⟨b, 1, none⟩ (.bool x)) := by
  have hk : Kw b w (w.setCell ⟨b, 1, none⟩ (.bool x)) := (Kw.refl b w).set b 1 _ (.inl rfl)
  obtain ⟨o, c, r, q⟩ := h.ex
  exact ⟨⟨⟨o, c, r.set 1 _ (by simp), q.kb hk h.ne⟩, h.ne, h.big⟩, hk⟩
theorem LnS.setW {w : World} {b p o c : Nat} {W W0 : Ws} {d : Bool} (h : LnS w b p W0 d) (hl : W.length ≤ W0.length) (hp : Pcs w p o c W) :
    LnS (w.setCell ⟨b, 0, none⟩ (.slice (some ⟨p, o, none⟩) W.length c)) b p W d ∧ Kw b w (w.setCell ⟨b, 0, none⟩ (.slice (some ⟨p, o, none⟩) W.length c)) := by
  have hk : Kw b w (w.setCell ⟨b, 0, none⟩ (.slice (some ⟨p, o, none⟩) W.length c)) := (Kw.refl b w).set b 0 _ (.inl rfl)
  obtain ⟨o0, c0, r, _⟩ := h.ex
  exact ⟨⟨⟨o, c, r.set 0 _ (by simp), hp.kb hk h.ne⟩, h.ne, Nat.le_trans hl h.big⟩, hk⟩
theorem LnS.le {w : World} {b p : Nat} {s : ByteArray} {W : Ws} {d : Bool} (h : LnS w b p (s :: W) d) : s.size ≤ 4096 := by
  obtain ⟨o, c, r, q⟩ := h.ex
  exact (q.2.2 0 (by simp)).2
def RdN {α : Type} (b p : Nat) (w : World) (V : World → Value → α → Prop) (r : RD α) (e : Ending) (w' : World) : Prop :=
  Kw b w w' ∧ ∃ v, e = .returned v ∧ V w' v r.1 ∧ LnS w' b p r.2.1 r.2.2
theorem more_dn (b p : Nat) (W : Ws) (d : Bool) (w : World) (h : LnS w b p W d) : Calls Tryz.prog 54 #[.pointer (some ⟨b, 0, none⟩)] w fun e w' => e = .returned (.bool (moreD W d)) ∧ w = w' := by
  obtain ⟨o, c, r, hp⟩ := h.ex
  have hb := h.lt
  have hl := hp.1
  have hz := h.big
  have c0 := r.cell (j := 0) rfl
  have c1 := r.cell (j := 1) rfl
  cases W with
  | nil =>
    rw [List.length_nil] at c0
    clear h hp r
    go_enter Tryz.func54, Tryz.ntmps54
    go_wp2_with fail
    go_ret
    exact ⟨rfl, rfl⟩
  | cons s W =>
    rw [List.length_cons] at c0 hl hz
    have e : moreD (s :: W) d = !d := by unfold moreD; simp
    rw [e]
    generalize W.length = n at *
    clear h hp r e
    have hn : (0 : Int) < (n : Int) + 1 := by omega
    have hn2 : (0 : Int) < ((n + 1 : Nat) : Int) := by omega
    cases d
    all_goals
      go_enter Tryz.func54, Tryz.ntmps54
      go_wp2_with fail
      go_ret
      exact ⟨rfl, rfl⟩
theorem word_dn (b p : Nat) (W : Ws) (d : Bool) (w : World) (h : LnS w b p W d) : Calls Tryz.prog 32 #[.pointer (some ⟨b, 0, none⟩)] w (RdN b p w (fun _ v x => v = .string x) (wordD W d)) := by
  obtain ⟨m, hm⟩ : ∃ m, moreD W d = m := ⟨_, rfl⟩
  have HM := Lib.hid (hm ▸ more_dn b p W d w h)
  have HH := Lib.hid h
  have HE := Lib.hid hm
  obtain ⟨o, c, r, hp⟩ := h.ex
  have hb := h.lt
  have hf := r.2.2 0 (by simp)
  have hf1 := r.2.2 1 (by simp)
  have c1 := r.cell (j := 1) rfl
  cases m with
  | false =>
    clear h hp hm
    go_enter Tryz.func32, Tryz.ntmps32
    go_wp2_with (first | (go_at_call 54; refine HM.out.mono ?_; rintro e w' ⟨rfl, rfl⟩))
    go_ret
    have e : wordD W d = (zBy, W, true) := by
      have := HE.out
      unfold moreD at this
      unfold wordD oneD
      cases W with
      | nil => rfl
      | cons s W => cases d <;> simp_all
    rw [e]
    exact ⟨(HH.out.bad true).2, _, rfl, rfl, (HH.out.bad true).1⟩
  | true =>
    cases W with
    | nil => simp [moreD] at hm
    | cons s W =>
      cases d with
      | true => simp [moreD] at hm
      | false =>
        have hne := h.ne
        have hl := hp.1
        have hz := h.big
        have hpl := hp.2.1
        have c0 := r.cell (j := 0) rfl
        obtain ⟨c2, -⟩ := hp.2.2 0 (by simp)
        simp only [List.getElem_cons_zero, Nat.add_zero] at c2
        have HP := Lib.hid hp.tail
        rw [List.length_cons] at c0 hl hz
        clear h hp hm r
        go_enter Tryz.func32, Tryz.ntmps32
        go_wp2_with (first | (go_at_call 54; refine HM.out.mono ?_; rintro e w' ⟨rfl, rfl⟩))
        · have hW : W = [] := List.eq_nil_of_length_eq_zero (by omega)
          go_ret
          have q := HH.out.setW (W := W) (by simp) (o := o) (c := 0) (by subst hW; exact ⟨Nat.zero_le _, hpl, fun i hi => absurd hi (by simp)⟩)
          exact ⟨q.2, _, rfl, rfl, q.1⟩
        · go_ret
          have q := HH.out.setW (W := W) (by simp) (o := o + 1) (c := c - 1) HP.out
          exact ⟨q.2, _, rfl, rfl, q.1⟩
theorem one_word {α : Type} (f : ByteArray → α × Bool) (W : Ws) (d : Bool) : oneD f W d = ((f (wordD W d).1).1, (wordD W d).2.1, (wordD W d).2.2 || !(f (wordD W d).1).2) := by
  cases W with
  | nil => rfl
  | cons s W => cases d <;> rfl
theorem word_le {w : World} {b p : Nat} {W : Ws} {d : Bool} (h : LnS w b p W d) : (wordD W d).1.size ≤ 4096 := by
  cases W with
  | nil => exact Nat.zero_le _
  | cons s W =>
    cases d with
    | false => exact h.le
    | true => exact Nat.zero_le _
theorem lword_cases (b p : Nat) (W : Ws) (d : Bool) (w : World) (h : LnS w b p W d) : ∃ s1 W1 d1, wordD W d = (s1, W1, d1) ∧ s1.size ≤ 4096 ∧ Calls Tryz.prog 32 #[.pointer (some ⟨b, 0, none⟩)] w fun e w' => e = .returned (.string s1) ∧ LnS w' b p W1 d1 ∧ Kw b w w' := by
  refine ⟨(wordD W d).1, (wordD W d).2.1, (wordD W d).2.2, rfl, word_le h, (word_dn b p W d w h).mono ?_⟩
  rintro e w' ⟨k, v, rfl, rfl, l⟩
  exact ⟨rfl, l, k⟩
theorem LnS.c1 {w : World} {b p : Nat} {W : Ws} {d : Bool} (h : LnS w b p W d) : w.cell? ⟨b, 1, none⟩ = some (.bool d) := by
  obtain ⟨o, c, r, _⟩ := h.ex
  exact r.cell (j := 1) rfl
theorem LnS.f1 {w : World} {b p : Nat} {W : Ws} {d : Bool} (h : LnS w b p W d) : w.frozen? ⟨b, 1, none⟩ = false := by
  obtain ⟨o, c, r, _⟩ := h.ex
  exact r.2.2 1 (by simp)
theorem lnumber_dn (b p : Nat) (W : Ws) (d : Bool) (w : World) (h : LnS w b p W d) : Calls Tryz.prog 33 #[.pointer (some ⟨b, 0, none⟩)] w (RdN b p w (fun _ v x => v = .int .i64 x) (numD W d)) := by
  obtain ⟨s1, W1, d1, hq, hs, hc⟩ := lword_cases b p W d w h
  have HC := Lib.hid hc
  have e : numD W d = ((numV s1).1, W1, d1 || !(numV s1).2) := by unfold numD; rw [one_word, hq]
  rw [e]
  obtain ⟨n, ok, hn⟩ : ∃ n ok, numV s1 = (n, ok) := ⟨_, _, rfl⟩
  have HN := Lib.hid (number_dn s1)
  rw [hn] at HN
  have HN := Lib.hid (show ∀ V : World, Calls Tryz.prog 55 #[.string s1] V fun e w' => e = .returned (.tuple #[.int .i64 n, .bool ok]) ∧ V = w' from fun V => HN.out V (Nat.le_trans hs (by decide)))
  rw [hn]
  have hb := h.lt
  clear hc hq e h hn hs
  cases d1
  all_goals
    cases ok
    all_goals
      go_enter Tryz.func33, Tryz.ntmps33
      go_wp2_with (first | (go_at_call 32; with_reducible refine HC.out.mono ?_; rintro e w1 ⟨rfl, l1, k1⟩; have y1 := l1.c1; have y2 := l1.f1; have L1 := Lib.hid l1; have K1 := Lib.hid k1; clear l1 k1) | (go_at_call 55; with_reducible refine (HN.out _).mono ?_; rintro e w2 ⟨rfl, rfl⟩))
      go_ret
      exact ⟨K1.out.trans (L1.out.bad _).2, _, rfl, rfl, (L1.out.bad _).1⟩
theorem lname_dn (b p : Nat) (W : Ws) (d : Bool) (w : World) (h : LnS w b p W d) : Calls Tryz.prog 57 #[.pointer (some ⟨b, 0, none⟩)] w (RdN b p w (fun _ v x => v = .string x ∧ x.size ≤ 4096) (nameD W d)) := by
  obtain ⟨s1, W1, d1, hq, hs, hc⟩ := lword_cases b p W d w h
  have HC := Lib.hid hc
  have e : nameD W d = (s1, W1, d1 || !(nameB s1)) := by unfold nameD; rw [one_word, hq]; rfl
  rw [e]
  obtain ⟨ok, hn⟩ : ∃ ok, nameB s1 = ok := ⟨_, rfl⟩
  have HN := Lib.hid (show ∀ V : World, Calls Tryz.prog 87 #[.string s1] V fun e w' => e = .returned (.bool ok) ∧ V = w' from fun V => hn ▸ rname_any s1 V (Nat.le_trans hs (by decide)))
  rw [hn]
  have hb := h.lt
  have HS := Lib.hid hs
  clear hc hq e h hn hs
  cases d1
  all_goals
    cases ok
    all_goals
      go_enter Tryz.func57, Tryz.ntmps57
      go_wp2_with (first | (go_at_call 32; with_reducible refine HC.out.mono ?_; rintro e w1 ⟨rfl, l1, k1⟩; have y1 := l1.c1; have y2 := l1.f1; have L1 := Lib.hid l1; have K1 := Lib.hid k1; clear l1 k1) | (go_at_call 87; with_reducible refine (HN.out _).mono ?_; rintro e w2 ⟨rfl, rfl⟩))
      go_ret
      exact ⟨K1.out.trans (L1.out.bad _).2, _, rfl, ⟨rfl, HS.out⟩, (L1.out.bad _).1⟩
end Go.Proofs.YtbdanlipghhgpaaGreatDoor

namespace Go.Proofs.YtbdanlipghhgpaaGreatDoor
open Go.RowKit Go.Deep
set_option maxRecDepth 100000
set_option linter.unusedVariables false
def goD {α : Type} (f : ByteArray → α × Bool) (rest : Ws) : RD (List α) := if rest.isEmpty then ([], [], false) else manyD f rest
def manyG {α : Type} (f : ByteArray → α × Bool) (l : List α) (rest : Ws) (d : Bool) : RD (List α) :=
  if l.isEmpty then manyB f rest d else if d then (l, rest, true) else (l ++ (goD f rest).1, (goD f rest).2)
theorem manyG_step {α : Type} (f : ByteArray → α × Bool) (l : List α) (rest : Ws) (d : Bool) (h1 : l ≠ [] → d = false) (h2 : l = [] ∨ moreD rest d = true) :
    manyG f (l ++ [(oneD f rest d).1]) (oneD f rest d).2.1 (oneD f rest d).2.2 = manyG f l rest d := by
  unfold manyG
  rw [show (l ++ [(oneD f rest d).1]).isEmpty = false by cases l <;> rfl]
  cases d with
  | true =>
    have hl : l = [] := by
      cases l with
      | nil => rfl
      | cons a l => have := h1 (by simp); cases this
    subst hl
    cases rest <;> rfl
  | false =>
    cases rest with
    | nil =>
      have hl : l = [] := by
        rcases h2 with h | h
        · exact h
        · simp [moreD] at h
      subst hl; rfl
    | cons s W =>
      have e : oneD f (s :: W) false = ((f s).1, W, !(f s).2) := rfl
      rw [e]
      have e2 : manyD f (s :: W) = if (f s).2 then ((f s).1 :: (goD f W).1, (goD f W).2) else ([(f s).1], W, true) := by
        rw [manyD]
        unfold goD
        cases W <;> rfl
      cases hf : (f s).2 with
      | true =>
        rw [hf] at e2
        cases l with
        | nil =>
          show (if (!true) = true then ([(f s).1], W, true) else ([(f s).1] ++ (goD f W).1, (goD f W).2)) = manyB f (s :: W) false
          unfold manyB
          rw [if_neg (by simp), if_neg (by simp), e2, if_pos rfl]; rfl
        | cons a l =>
          show (if (!true) = true then ((a :: l) ++ [(f s).1], W, true) else ((a :: l) ++ [(f s).1] ++ (goD f W).1, (goD f W).2)) = (if false = true then (a :: l, s :: W, true) else ((a :: l) ++ (goD f (s :: W)).1, (goD f (s :: W)).2))
          rw [if_neg (by simp), if_neg (by simp)]
          have e3 : goD f (s :: W) = manyD f (s :: W) := rfl
          rw [e3, e2, if_pos rfl]
          simp
      | false =>
        rw [hf] at e2
        cases l with
        | nil =>
          show (if (!false) = true then ([(f s).1], W, true) else ([(f s).1] ++ (goD f W).1, (goD f W).2)) = manyB f (s :: W) false
          unfold manyB
          rw [if_pos (by simp), if_neg (by simp), e2, if_neg (by simp)]
        | cons a l =>
          show (if (!false) = true then ((a :: l) ++ [(f s).1], W, true) else ((a :: l) ++ [(f s).1] ++ (goD f W).1, (goD f W).2)) = (if false = true then (a :: l, s :: W, true) else ((a :: l) ++ (goD f (s :: W)).1, (goD f (s :: W)).2))
          rw [if_pos (by simp), if_neg (by simp)]
          have e3 : goD f (s :: W) = manyD f (s :: W) := rfl
          rw [e3, e2, if_neg (by simp)]
theorem manyG_stop {α : Type} (f : ByteArray → α × Bool) (l : List α) (rest : Ws) (d : Bool) (h1 : l ≠ []) (h2 : d = true ∨ moreD rest d = false) : manyG f l rest d = (l, rest, d) := by
  unfold manyG
  rw [show l.isEmpty = false by cases l <;> simp_all]
  cases d with
  | true => rfl
  | false =>
    have : rest = [] := by
      rcases h2 with h | h
      · cases h
      · cases rest with
        | nil => rfl
        | cons s W => simp [moreD] at h
    subst this
    simp [goD]
theorem LnS.kn {w w' : World} {b p B : Nat} {W : Ws} {d : Bool} (h : LnS w b p W d) (k : Kn B w w') (hb : b < B) (hp : p < B) : LnS w' b p W d :=
  h.kb (P := fun g => B ≤ g) ⟨k.os, k.tape, k.output, k.size, k.block⟩ (by omega) (by omega)
theorem own_nilN (w : World) {B : Nat} {ty : TypeId} {size : Nat} : w.ownsRow B ty size (.slice none 0 0) 0 [] := ⟨by simp, .inl ⟨rfl, rfl⟩⟩
structure GrowN {α : Type} (ty : TypeId) (size : Nat) (cells : α → List Value) (f : ByteArray → α × Bool) (Pz : α → Prop) (b p : Nat) (w : World) (W : Ws) (d0 : Bool) (wr : World) (rest : Ws) (d : Bool) (l : List α) (h : Hd) : Prop where
  inv : manyG f l rest d = manyB f W d0
  bnd : d = false → l.length + rest.length = W.length
  el : ∀ x ∈ l, Pz x
  ds : LnS wr b p rest d
  kw : Kw b w wr
  own : wr.ownsRow w.heap.size ty size (.slice h.a l.length h.c) l.length (l.flatMap cells)
  lt : b < w.heap.size
  plt : p < w.heap.size
section
variable {α : Type} {ty : TypeId} {size : Nat} {cells : α → List Value} {f : ByteArray → α × Bool} {Pz : α → Prop} {b p : Nat} {w : World} {W : Ws} {d0 : Bool} {wr : World} {rest : Ws} {d : Bool} {l : List α} {h : Hd}
theorem GrowN.start (hl : LnS w b p W d0) : GrowN ty size cells f Pz b p w W d0 w W d0 [] ⟨none, 0, 0⟩ :=
  ⟨rfl, fun _ => by simp, fun x hx => absurd hx (by simp), hl, Kw.refl _ _, own_nilN w, hl.lt, hl.plt⟩
theorem GrowN.step (g : GrowN ty size cells f Pz b p w W d0 wr rest d l h) {x : α} {rest1 : Ws} {d1 : Bool} {w1 w5 : World} {o : Obj} {gg cap : Nat} (hs : oneD f rest d = (x, rest1, d1)) (hx : Pz x) (h1 : l ≠ [] → d = false) (h2 : l = [] ∨ moreD rest d = true) (k1 : Kw b wr w1) (l1 : LnS w1 b p rest1 d1)
    (ho : w5.ownsRow w.heap.size ty size (.slice (Option.some ⟨gg, 0, none⟩) (l.length + 1) cap) (l.length + 1) (l.flatMap cells ++ cells x)) (hg : (w1.alloc o).grownBy w5 (Value.slice h.a l.length h.c).ownBlock) :
    GrowN ty size cells f Pz b p w W d0 w5 rest1 d1 (l ++ [x]) ⟨Option.some ⟨gg, 0, none⟩, l.length + 1, cap⟩ := by
  have hB : ∀ k, (Value.slice h.a l.length h.c).ownBlock = Option.some k → w.heap.size ≤ k := fun k hk => (g.own.lt k hk).1
  have kz := (g.kw.trans k1).size
  have hz : w1.heap.size ≤ (w1.alloc o).heap.size := by simp
  have kb : Kw b w w5 := by
    refine ⟨hg.os.trans (g.kw.trans k1).os, hg.tape.trans (g.kw.trans k1).tape, hg.output.trans (g.kw.trans k1).output, Nat.le_trans kz (Nat.le_trans hz hg.size), fun k hk hn => ?_⟩
    have h2 := ((g.kw.trans k1).alloc o).block k hk hn
    exact (hg.block k (by omega) (fun e => by have := hB k e.symm; omega)).trans h2
  have kn : Kn w.heap.size (w1.alloc o) w5 := ⟨hg.os, hg.tape, hg.output, hg.size, fun k hk hn => hg.block k hk (fun e => hn (hB k e.symm))⟩
  have hst := manyG_step f l rest d h1 h2
  rw [hs] at hst
  refine ⟨hst.trans g.inv, fun hd => ?_, ?_, (l1.aft ((Aft.refl _).alloc o)).kn kn g.lt g.plt, kb, by rw [List.length_append, List.flatMap_append, List.flatMap_cons, List.flatMap_nil, List.append_nil]; exact ho, g.lt, g.plt⟩
  · subst hd
    cases rest with
    | nil => cases d <;> cases hs
    | cons s r =>
      cases d with
      | true => cases hs
      | false =>
        have e : oneD f (s :: r) false = ((f s).1, r, !(f s).2) := rfl
        rw [e] at hs
        have : rest1 = r := (Prod.mk.inj (Prod.mk.inj hs).2).1.symm
        subst this
        have := g.bnd rfl
        simp at this ⊢; omega
  · intro y hy
    rcases List.mem_append.1 hy with h | h
    · exact g.el y h
    · have : y = x := by simpa using h
      rw [this]; exact hx
theorem GrowN.upto (g : GrowN ty size cells f Pz b p w W d0 wr rest d l h) (hd : l ≠ [] → d = false) (hW : W.length ≤ 4097) : l.length ≤ 4097 := by
  cases l with
  | nil => simp
  | cons a l =>
    have := g.bnd (hd (by simp))
    omega
end
def SzS (x : ByteArray) : Prop := x.size ≤ 4096
def NamesN (b B : Nat) (w' : World) (v : Value) (l : List ByteArray) : Prop := OwnR 9 1 nameC b B w' v l ∧ l.length ≤ 4098 ∧ ∀ x ∈ l, SzS x
theorem oneD_le {w : World} {b p : Nat} {W : Ws} {d : Bool} (h : LnS w b p W d) : (oneD nameV W d).1.size ≤ 4096 := by
  cases W with
  | nil => exact Nat.zero_le _
  | cons s W =>
    cases d with
    | false => exact h.le
    | true => exact Nat.zero_le _
set_option maxHeartbeats 2000000 in
theorem names_dn (b p : Nat) (W : Ws) (d : Bool) (w : World) (h : LnS w b p W d) : Calls Tryz.prog 88 #[.pointer (some ⟨b, 0, none⟩)] w (RdN b p w (NamesN b w.heap.size) (manyB nameV W d)) := by
  have hbig := Lib.hid h.big
  have HB := Lib.hid h.lt
  have G0 := Lib.hid (GrowN.start (ty := 9) (size := 1) (cells := nameC) (f := nameV) (Pz := SzS) h)
  clear h
  go_enter Tryz.func88, Tryz.ntmps88
  go_wp2_with fail
  go_loopw [3] (fun u3 wr => ∃ (rest : Ws) (d' : Bool) (l : List ByteArray) (h : Hd), u3 = .slice h.a l.length h.c ∧ (l ≠ [] → d' = false) ∧ GrowN 9 1 nameC nameV SzS b p w W d wr rest d' l h) (fun u3 _ => W.length - lenV u3)
  case atStart => exact ⟨W, d, [], ⟨none, 0, 0⟩, rfl, fun h => absurd rfl h, G0.out⟩
  case round =>
    obtain ⟨rest, d', l, h, rfl, hd, g⟩ := hrel
    have hz := g.upto hd hbig.out
    have G := Lib.hid g
    have HD := Lib.hid hd
    have HMO := Lib.hid (more_dn b p rest d' wr g.ds)
    obtain ⟨n, hn⟩ : ∃ n, l.length = n := ⟨_, rfl⟩
    rw [hn] at hz ⊢
    obtain ⟨m, hm⟩ : ∃ m, moreD rest d' = m := ⟨_, rfl⟩
    rw [hm] at HMO
    by_cases hex : l ≠ [] ∧ m = false
    · obtain ⟨hl, rfl⟩ := hex
      have HS := Lib.hid (manyG_stop nameV l rest d' hl (.inr hm))
      have h0 : ((n : Int) == 0) = false := by rw [beq_eq_false_iff_ne]; intro e; apply hl; exact List.eq_nil_of_length_eq_zero (by omega)
      have HN := Lib.hid hn
      clear g hd hm hl hn
      go_wp2_with (first | (go_at_call 54; with_reducible refine HMO.out.mono ?_; rintro e w' ⟨rfl, rfl⟩))
      go_ret
      refine ⟨G.out.kw, _, rfl, ?_⟩
      rw [← G.out.inv, HS.out]
      exact ⟨⟨⟨h, by rw [HN.out]; rfl, G.out.own, G.out.lt⟩, by rw [HN.out]; omega, G.out.el⟩, G.out.ds⟩
    obtain ⟨x, W1, d1, hx⟩ : ∃ x W1 d1, oneD nameV rest d' = (x, W1, d1) := ⟨_, _, _, rfl⟩
    have HX := Lib.hid hx
    have HSZ := Lib.hid (show SzS x from by have := oneD_le g.ds; rw [hx] at this; exact this)
    have HNM := Lib.hid (show Calls Tryz.prog 57 #[.pointer (some ⟨b, 0, none⟩)] wr fun e w' => e = .returned (.string x) ∧ LnS w' b p W1 d1 ∧ Kw b wr w' from by
      refine (lname_dn b p rest d' wr g.ds).mono ?_
      rintro e w' ⟨k, v, rfl, ⟨rfl, _⟩, l2⟩
      unfold nameD at l2
      rw [hx] at l2
      refine ⟨?_, l2, k⟩
      unfold nameD; rw [hx])
    have HL := Lib.hid (show l = [] ∨ moreD rest d' = true from by
      rcases m with _ | _
      · exact .inl (Classical.byContradiction fun e => hex ⟨e, rfl⟩)
      · exact .inr hm)
    have HN := Lib.hid hn
    have HRUN := Lib.hid (show d1 = false → n + W1.length + 1 = W.length from fun e => by
      subst e
      cases rest with
      | nil => cases d' <;> cases hx
      | cons s r =>
        cases d' with
        | true => cases hx
        | false =>
          have e : oneD nameV (s :: r) false = ((nameV s).1, r, !(nameV s).2) := rfl
          rw [e] at hx
          have : W1 = r := (Prod.mk.inj (Prod.mk.inj hx).2).1.symm
          subst this
          have := g.bnd rfl
          simp at this; omega)
    have hcase : ((n : Int) == 0) = true ∨ (((n : Int) == 0) = false ∧ m = true) := by
      by_cases e : n = 0
      · exact .inl (by subst e; rfl)
      · refine .inr ⟨by rw [beq_eq_false_iff_ne]; omega, ?_⟩
        rcases HL.out with h | h
        · rw [h] at hn; simp at hn; omega
        · rw [← hm]; exact h
    have HBZ := Lib.hid (show ∀ (w2 : World) (o : Obj), Kw b wr w2 → w.heap.size ≤ (w2.alloc o).heap.size from fun w2 o k2 => by
      have h1 := k2.size
      have h2 := g.kw.size
      have h3 : (w2.alloc o).heap.size = w2.heap.size + 1 := by simp
      omega)
    have HOW := Lib.hid (show ∀ w2, Kw b wr w2 → w2.ownsRow w.heap.size 9 1 (.slice h.a n h.c) n (l.flatMap nameC) from fun w2 k2 => by
      rw [← hn]
      exact own_kb g.own k2 (fun j hj e => by have := (g.own.lt j hj).1; have := HB.out; have e' : j = b := e; omega))
    have HST := Lib.hid (show ∀ (w2 w5 : World) (gg cap : Nat) (o : Obj), Kw b wr w2 → LnS w2 b p W1 d1 → w5.ownsRow w.heap.size 9 1 (.slice (some ⟨gg, 0, none⟩) (n + 1) cap) (n + 1) (l.flatMap nameC ++ [.string x]) → (w2.alloc o).grownBy w5 (Value.slice h.a n h.c).ownBlock → GrowN 9 1 nameC nameV SzS b p w W d w5 W1 d1 (l ++ [x]) ⟨some ⟨gg, 0, none⟩, n + 1, cap⟩ from fun w2 w5 gg cap o k2 l2 h1 h2 => by
      subst hn
      exact g.step hx HSZ.out hd HL.out k2 l2 h1 h2)
    clear g hd hm hn hex hx
    cases d1
    all_goals
      rcases hcase with h0 | ⟨h0, rfl⟩
      all_goals
        go_wp2_with (first
          | (go_at_call 54; with_reducible refine HMO.out.mono ?_; rintro e w' ⟨rfl, rfl⟩)
          | (go_at_call 57; with_reducible refine HNM.out.mono ?_; rintro e w2 ⟨rfl, l2, k2⟩; have L2 := Lib.hid l2; have K2 := Lib.hid k2; clear l2 k2; have OW := Lib.hid (HOW.out _ K2.out))
          | (at_builtin; go_must (refine app_desk Tryz.underlying26 infoDS rfl (by decide) (by decide) rfl _ _ rfl w.heap.size (.slice h.a n h.c) n (l.flatMap nameC) rfl (OW.out.alloc _) w2.heap.size [.string x] rfl (heap_alloc_new w2 _) rfl (by simp [Value.oneCell']) (by omega) (HBZ.out _ _ K2.out) ?_); intro gg cap' w5 hown5 hgrow hat; have G5 := Lib.hid (HST.out _ _ _ _ _ K2.out L2.out hown5 hgrow); have y1 := G5.out.ds.c1; have y2 := G5.out.ds.lt; clear hown5 hgrow hat))
    · go_roundw
      case rel => exact ⟨W1, false, l ++ [x], ⟨some ⟨gg, 0, none⟩, n + 1, cap'⟩, by rw [List.length_append, HN.out]; rfl, fun _ => rfl, G5.out⟩
      case measure => have := HRUN.out (by simp); simp [lenV]; omega
    · go_roundw
      case rel => exact ⟨W1, false, l ++ [x], ⟨some ⟨gg, 0, none⟩, n + 1, cap'⟩, by rw [List.length_append, HN.out]; rfl, fun _ => rfl, G5.out⟩
      case measure => have := HRUN.out (by simp); simp [lenV]; omega
    · go_ret
      refine ⟨G5.out.kw, _, rfl, ?_⟩
      rw [← G5.out.inv, manyG_stop _ _ _ _ (by simp) (.inl rfl)]
      exact ⟨⟨⟨⟨some ⟨gg, 0, none⟩, n + 1, cap'⟩, by rw [List.length_append, HN.out]; rfl, G5.out.own, G5.out.lt⟩, by rw [List.length_append, HN.out]; simp; omega, G5.out.el⟩, G5.out.ds⟩
    · go_ret
      refine ⟨G5.out.kw, _, rfl, ?_⟩
      rw [← G5.out.inv, manyG_stop _ _ _ _ (by simp) (.inl rfl)]
      exact ⟨⟨⟨⟨some ⟨gg, 0, none⟩, n + 1, cap'⟩, by rw [List.length_append, HN.out]; rfl, G5.out.own, G5.out.lt⟩, by rw [List.length_append, HN.out]; simp; omega, G5.out.el⟩, G5.out.ds⟩
end Go.Proofs.YtbdanlipghhgpaaGreatDoor

namespace Go.Proofs.YtbdanlipghhgpaaGreatDoor
open Go.RowKit Go.Deep
set_option maxRecDepth 100000
set_option linter.unusedVariables false
def pieces (b : UInt8) (s : ByteArray) : Ws := (cutL b s.data.toList).map wd
structure CutI (b : UInt8) (s : ByteArray) (w wr : World) (l : Ws) (h : Hd) (fr i : Nat) : Prop where
  own : wr.ownsRow w.heap.size 9 1 (.slice h.a l.length h.c) l.length (l.flatMap nameC)
  aft : Aft w wr
  len : l.length ≤ i
  on : i ≤ s.size → fr ≤ i ∧ pieces b s = l ++ (cutL b (s.data.toList.drop fr)).map wd ∧ b ∉ (s.data.toList.drop fr).take (i - fr)
  fin : s.size < i → i = s.size + 1 ∧ pieces b s = l
theorem CutI.start (b : UInt8) (s : ByteArray) (w : World) : CutI b s w w [] ⟨none, 0, 0⟩ 0 0 :=
  ⟨own_nilN w, Aft.refl w, Nat.le_refl _, fun _ => ⟨Nat.le_refl _, by simp [pieces], by simp⟩, fun h => by omega⟩
theorem aft_grownN {w w1 w5 : World} {o : Obj} {ob : Option Nat} (a : Aft w w1) (hB : ∀ k, ob = some k → w.heap.size ≤ k) (hg : (w1.alloc o).grownBy w5 ob) : Aft w w5 := by
  have a2 := a.alloc o
  exact ⟨hg.os.trans a2.os, hg.tape.trans a2.tape, hg.output.trans a2.output, Nat.le_trans a2.size hg.size, fun k hk => (hg.block k (Nat.lt_of_lt_of_le hk a2.size) (fun e => by have := hB k e.symm; omega)).trans (a2.block k hk)⟩
theorem piece_eq (s : ByteArray) (fr i : Nat) (h : fr ≤ i) (hi : i ≤ s.size) : s.extract fr i = wd ((s.data.toList.drop fr).take (i - fr)) := by
  refine ba_ext ?_
  rw [wd_data]
  rw [ByteArray.data_extract, Array.toList_extract]
theorem CutI.skip {b : UInt8} {s : ByteArray} {w wr : World} {l : Ws} {h : Hd} {fr i : Nat} (g : CutI b s w wr l h fr i) (hi : i < s.size) (hb : s[i] ≠ b) : CutI b s w wr l h fr (i + 1) := by
  obtain ⟨q1, q2, q3⟩ := g.on (by omega)
  refine ⟨g.own, g.aft, by have := g.len; omega, fun _ => ⟨by omega, q2, ?_⟩, fun h => by omega⟩
  have hL : i < s.data.toList.length := by rw [← Lib.size_eq]; exact hi
  have e : (s.data.toList.drop fr).take (i + 1 - fr) = (s.data.toList.drop fr).take (i - fr) ++ [s[i]] := by
    rw [show i + 1 - fr = (i - fr) + 1 by omega, List.take_add_one, List.getElem?_drop, show fr + (i - fr) = i by omega, List.getElem?_eq_getElem hL]
    simp [ByteArray.getElem_eq_getElem_data]
  rw [e]
  simp only [List.mem_append, List.mem_singleton, not_or]
  exact ⟨q3, fun e => hb e.symm⟩
theorem CutI.cut {b : UInt8} {s : ByteArray} {w wr w5 : World} {o : Obj} {l : Ws} {h : Hd} {fr i gg cap : Nat} (g : CutI b s w wr l h fr i) (hi : i ≤ s.size) (hb : i = s.size ∨ ∃ h : i < s.size, s[i] = b)
    (ho : w5.ownsRow w.heap.size 9 1 (.slice (some ⟨gg, 0, none⟩) (l.length + 1) cap) (l.length + 1) (l.flatMap nameC ++ [.string (s.extract fr i)])) (hg : (wr.alloc o).grownBy w5 (Value.slice h.a l.length h.c).ownBlock) :
    CutI b s w w5 (l ++ [s.extract fr i]) ⟨some ⟨gg, 0, none⟩, l.length + 1, cap⟩ (i + 1) (i + 1) := by
  obtain ⟨q1, q2, q3⟩ := g.on hi
  have hz : s.data.toList.length = s.size := (Lib.size_eq s).symm
  refine ⟨by rw [List.length_append, List.flatMap_append]; exact ho, aft_grownN g.aft (fun k hk => (g.own.lt k hk).1) hg, by rw [List.length_append]; have := g.len; simp; omega, fun h1 => ?_, fun h1 => ?_⟩
  · rcases hb with rfl | ⟨h2, h3⟩
    · omega
    · refine ⟨Nat.le_refl _, ?_, by simp⟩
      have e : s.data.toList.drop fr = (s.data.toList.drop fr).take (i - fr) ++ b :: s.data.toList.drop (i + 1) := by
        conv => lhs; rw [← List.take_append_drop (i - fr) (s.data.toList.drop fr)]
        congr 1
        rw [List.drop_drop, show fr + (i - fr) = i by omega, List.drop_eq_getElem_cons (by omega)]
        congr 1
      rw [q2, piece_eq s fr i q1 hi]
      conv => lhs; rw [e, cut_pre b _ _ q3]
      simp
  · have h4 : i = s.size := by omega
    refine ⟨by omega, ?_⟩
    rw [q2, piece_eq s fr i q1 hi]
    have e : (s.data.toList.drop fr).take (i - fr) = s.data.toList.drop fr := List.take_of_length_le (by rw [List.length_drop]; omega)
    rw [e] at q3 ⊢
    rw [cut_free b _ q3]; simp
def CutQ (b : UInt8) (s : ByteArray) (w : World) (e : Ending) (w' : World) : Prop :=
  Aft w w' ∧ ∃ h : Hd, e = .returned (.slice h.a (pieces b s).length h.c) ∧ w'.ownsRow w.heap.size 9 1 (.slice h.a (pieces b s).length h.c) (pieces b s).length ((pieces b s).flatMap nameC)
set_option maxHeartbeats 2000000 in
theorem cut_dn (b : UInt8) (c : Int) (hc : c = b.toNat) (s : ByteArray) (w : World) (hs : s.size ≤ 4096) : Calls Tryz.prog 20 #[.string s, .int .u8 c] w (CutQ b s w) := by
  have G0 := Lib.hid (CutI.start b s w)
  have HC := Lib.hid hc
  clear hc
  go_enter Tryz.func20, Tryz.ntmps20
  go_wp2_with fail
  go_loopw [5, 6, 7] (fun u5 u6 u7 wr => ∃ (l : Ws) (h : Hd) (fr i : Nat), u5 = .slice h.a l.length h.c ∧ u6 = .int .i64 fr ∧ u7 = .int .i64 i ∧ i ≤ s.size + 1 ∧ CutI b s w wr l h fr i) (fun _ _ u7 _ => s.size + 1 - (intOf u7).toNat)
  case atStart => exact ⟨[], ⟨none, 0, 0⟩, 0, 0, rfl, rfl, rfl, Nat.zero_le _, G0.out⟩
  case round =>
    obtain ⟨l, h, fr, i, rfl, rfl, rfl, hi, g⟩ := hrel
    have G := Lib.hid g
    obtain ⟨n, hn⟩ : ∃ n, l.length = n := ⟨_, rfl⟩
    have hz : n ≤ 4097 := by have := g.len; omega
    rw [hn]
    have HN := Lib.hid hn
    by_cases hle : i ≤ s.size
    · obtain ⟨q1, -, -⟩ := g.on hle
      have HBZ := Lib.hid (show w.heap.size ≤ (wr.alloc (.cells #[.string (s.extract fr i)] 9)).heap.size from by have := g.aft.size; simp; omega)
      have HOW := Lib.hid (show wr.ownsRow w.heap.size 9 1 (.slice h.a n h.c) n (l.flatMap nameC) from by rw [← hn]; exact g.own)
      have HST := Lib.hid (show ∀ (w5 : World) (gg cap : Nat) (o : Obj), (i = s.size ∨ ∃ h : i < s.size, s[i] = b) → w5.ownsRow w.heap.size 9 1 (.slice (some ⟨gg, 0, none⟩) (n + 1) cap) (n + 1) (l.flatMap nameC ++ [.string (s.extract fr i)]) → (wr.alloc o).grownBy w5 (Value.slice h.a n h.c).ownBlock → CutI b s w w5 (l ++ [s.extract fr i]) ⟨some ⟨gg, 0, none⟩, n + 1, cap⟩ (i + 1) (i + 1) from fun w5 gg cap o hb h1 h2 => by
        subst hn
        exact g.cut hle hb h1 h2)
      have hcase : ((i : Int) == (s.size : Int)) = true ∨ (((i : Int) == (s.size : Int)) = false ∧ ∃ h : i < s.size, (((s[i].toNat : Int) == c) = true ∧ s[i] = b) ∨ (((s[i].toNat : Int) == c) = false ∧ s[i] ≠ b)) := by
        by_cases e : i = s.size
        · exact .inl (by simp [e])
        · refine .inr ⟨by rw [beq_eq_false_iff_ne]; omega, by omega, ?_⟩
          by_cases e2 : s[i]'(by omega) = b
          · exact .inl ⟨by rw [HC.out, e2]; simp, e2⟩
          · exact .inr ⟨by rw [HC.out, beq_eq_false_iff_ne]; intro e3; exact e2 (UInt8.toNat_inj.1 (by omega)), e2⟩
      clear g hn
      rcases hcase with h0 | ⟨h0, hlt, ⟨h1, hB⟩ | ⟨h1, hB⟩⟩
      · have HW := Lib.hid (show i = s.size from by have := eq_of_beq h0; omega)
        go_wp2_with (first | (at_builtin; go_must (refine app_desk Tryz.underlying26 infoDS rfl (by decide) (by decide) rfl _ _ rfl w.heap.size (.slice h.a n h.c) n (l.flatMap nameC) rfl (HOW.out.alloc _) wr.heap.size [.string (s.extract fr i)] rfl (heap_alloc_new wr _) rfl (by simp [Value.oneCell']) (by omega) HBZ.out ?_); intro gg cap' w5 hown5 hgrow hat; have G5 := Lib.hid (HST.out _ _ _ _ (.inl HW.out) hown5 hgrow); clear hown5 hgrow hat))
        refine ⟨⟨l ++ [s.extract fr i], ⟨some ⟨gg, 0, none⟩, n + 1, cap'⟩, i + 1, i + 1, by rw [List.length_append, HN.out]; rfl, by go_num, by go_num, by omega, G5.out⟩, ?_⟩
        simp [intOf]; omega
      · have HW := Lib.hid (show ∃ h : i < s.size, s[i] = b from ⟨hlt, hB⟩)
        clear hB
        go_wp2_with (first | (at_builtin; go_must (refine app_desk Tryz.underlying26 infoDS rfl (by decide) (by decide) rfl _ _ rfl w.heap.size (.slice h.a n h.c) n (l.flatMap nameC) rfl (HOW.out.alloc _) wr.heap.size [.string (s.extract fr i)] rfl (heap_alloc_new wr _) rfl (by simp [Value.oneCell']) (by omega) HBZ.out ?_); intro gg cap' w5 hown5 hgrow hat; have G5 := Lib.hid (HST.out _ _ _ _ (.inr HW.out) hown5 hgrow); clear hown5 hgrow hat))
        refine ⟨⟨l ++ [s.extract fr i], ⟨some ⟨gg, 0, none⟩, n + 1, cap'⟩, i + 1, i + 1, by rw [List.length_append, HN.out]; rfl, by go_num, by go_num, by omega, G5.out⟩, ?_⟩
        simp [intOf]; omega
      · have HW := Lib.hid (G.out.skip hlt hB)
        go_wp2_with fail
        refine ⟨⟨l, h, fr, i + 1, by rw [HN.out], rfl, by go_num, by omega, HW.out⟩, ?_⟩
        simp [intOf]; omega
    · go_wp2_with fail
      go_ret
      obtain ⟨q1, q2⟩ := G.out.fin (by omega)
      refine ⟨G.out.aft, h, ?_, ?_⟩
      · rw [q2, HN.out]; rfl
      · rw [q2]; exact G.out.own
end Go.Proofs.YtbdanlipghhgpaaGreatDoor

namespace Go.Proofs.YtbdanlipghhgpaaGreatDoor
open Go.RowKit Go.Deep
set_option maxRecDepth 100000
set_option linter.unusedVariables false
set_option maxHeartbeats 2000000 in
theorem plain_dn (s : ByteArray) (w : World) (hs : Small s.size) : Calls Tryz.prog 89 #[.string s] w fun e w' => e = .returned (.bool (txtB s)) ∧ w = w' := by
  have hs' := hs.max
  unfold maxLen at hs'
  go_enter Tryz.func89, Tryz.ntmps89
  go_wp2_with fail
  go_loop [3] (fun i => ∃ k : Nat, k ≤ s.size ∧ i = .int .i64 k ∧ (s.data.toList.take k).all isPl = true) (fun i => s.size - (intOf i).toNat)
  case atStart => exact ⟨0, Nat.zero_le _, rfl, rfl⟩
  case round =>
    obtain ⟨k, hk, rfl, ha⟩ := hrel
    have HA := Lib.hid ha; clear ha
    by_cases hlt : k < s.size
    · have hp := isPl_false s[k]
      have hps := pl_succ s k hlt
      cases hq : isPl s[k]
      · have H2 := Lib.hid (pl_false s k hlt hq)
        have hb0 := hp.1 hq
        have hb : (s[k].toNat : Int) < 48 ∨ (58 ≤ (s[k].toNat : Int) ∧ (s[k].toNat : Int) < 95) ∨ (96 ≤ (s[k].toNat : Int) ∧ (s[k].toNat : Int) < 97) ∨ 122 < (s[k].toNat : Int) := by omega
        have hne : ((s[k].toNat : Int) != 95) = true := by rw [bne_iff_ne]; omega
        clear hp hq hps hb0
        rcases hb with hb | hb | hb | hb
        all_goals
          go_wp2_with fail
          go_ret
          exact ⟨by unfold txtB; rw [H2.out]; rfl, rfl⟩
      · rw [hq] at hps hp
        have HS := Lib.hid hps
        have hb : ((97 ≤ (s[k].toNat : Int) ∧ (s[k].toNat : Int) ≤ 122) ∨ (48 ≤ (s[k].toNat : Int) ∧ (s[k].toNat : Int) ≤ 57) ∨ (s[k].toNat : Int) = 95) := by
          rw [← isPl_iff, hq]
        clear hp hq hps
        have FIN := Lib.hid (show (List.take (k + 1) s.data.toList).all isPl = true by rw [HS.out, HA.out]; rfl)
        rcases hb with hb | hb | hb
        all_goals
          go_wp2_with fail
          go_round
          case rel => exact ⟨k + 1, by omega, by go_num, FIN.out⟩
          case measure => simp [intOf]; omega
    · go_wp2_with fail
      go_ret
      refine ⟨?_, rfl⟩
      refine Eq.trans (b := .returned (.bool _)) rfl (ret_of (bool_of ?_))
      unfold txtB
      rw [pl_true s k hlt HA.out, Bool.true_and]
      by_cases h32 : s.size ≤ 32
      · rw [decide_eq_true h32]; exact decide_eq_true (by omega)
      · rw [decide_eq_false h32]; exact decide_eq_false (by omega)
theorem eqS_d (a b : ByteArray) : eqS a b = (a.toList == b.data.toList) := (eqS_as rfl).symm
theorem kind_eq (s : ByteArray) : kindB s = (if s.toList == [115, 99, 104, 101, 109, 97] then 1 else if s.toList == [100, 114, 111, 112, 115, 99, 104, 101, 109, 97] then 2 else if s.toList == [116, 97, 98, 108, 101] then 3 else if s.toList == [100, 114, 111, 112, 116, 97, 98, 108, 101] then 4 else if s.toList == [99, 111, 108, 117, 109, 110] then 5 else if s.toList == [100, 114, 111, 112, 99, 111, 108, 117, 109, 110] then 6 else if s.toList == [105, 110, 100, 101, 120] then 7 else if s.toList == [107, 101, 121] then 7 else if s.toList == [99, 104, 101, 99, 107] then 7 else if s.toList == [102, 111, 114, 101, 105, 103, 110] then 7 else if s.toList == [100, 114, 111, 112, 114, 117, 108, 101] then 8 else if s.toList == [111, 119, 110, 101, 114] then 9 else if s.toList == [114, 111, 108, 101] then 10 else if s.toList == [100, 114, 111, 112, 114, 111, 108, 101] then 11 else if s.toList == [109, 101, 109, 98, 101, 114] then 12 else if s.toList == [117, 110, 109, 101, 109, 98, 101, 114] then 13 else if s.toList == [103, 114, 97, 110, 116] then 14 else if s.toList == [114, 101, 118, 111, 107, 101] then 15 else 0) := by
  unfold kindB
  simp only [eqS_d, b_schema, b_dropschema, b_table, b_droptable, b_column, b_dropcolumn, b_index, b_key, b_check, b_foreign, b_droprule, b_owner, b_role, b_droprole, b_member, b_unmember, b_grant, b_revoke]
set_option maxHeartbeats 2000000 in
theorem kind_dn (s : ByteArray) (w : World) : Calls Tryz.prog 56 #[.string s] w fun e w' => e = .returned (.int .i64 (kindB s)) ∧ w = w' := by
  go_enter Tryz.func56, Tryz.ntmps56
  go_wp2_with fail
  all_goals
    go_ret
    refine ⟨?_, rfl⟩
    rw [kind_eq s]
    first | (simp [*]; done) | (exfalso; simp_all; done)
theorem quo_yes {s : ByteArray} (h : quoB s = true) : ∃ h0 : 0 < s.size, ((s[0].toNat : Int) == 39) = true ∧ s.extract 1 s.size = quoless s := by
  unfold quoB Lib.hasPrefix at h
  cases hq : s.data.toList with
  | nil => rw [hq] at h; simp [List.isPrefixOf] at h
  | cons a l =>
    rw [hq] at h
    have ha : a = 39 := by
      simp [List.isPrefixOf] at h
      exact h.symm
    have hz := Lib.size_eq s
    rw [hq, List.length_cons] at hz
    refine ⟨by omega, ?_, ?_⟩
    · have := head_get s (by omega)
      rw [hq] at this
      have this : a = s[0] := this
      rw [← this, ha]; rfl
    · refine ba_ext ?_
      unfold quoless
      rw [Lib.extract_to_end, wd_data, hq, ha]
      simp [Lib.trimPrefix, Lib.hasPrefix, List.isPrefixOf]
theorem quo_no {s : ByteArray} (h : quoB s = false) : s.size = 0 ∨ ∃ h0 : 0 < s.size, ((s[0].toNat : Int) == 39) = false := by
  by_cases h0 : s.size = 0
  · exact .inl h0
  · refine .inr ⟨by omega, ?_⟩
    rw [beq_eq_false_iff_ne]
    intro e
    unfold quoB Lib.hasPrefix at h
    have := head_get s (by omega)
    cases hq : s.data.toList with
    | nil => have hz := Lib.size_eq s; rw [hq, List.length_nil] at hz; omega
    | cons a l =>
      rw [hq] at this h
      have this : a = s[0] := this
      have ha : a = 39 := by rw [this]; exact UInt8.toNat_inj.1 (by have : (39 : UInt8).toNat = 39 := rfl; omega)
      rw [ha] at h
      simp [List.isPrefixOf] at h
end Go.Proofs.YtbdanlipghhgpaaGreatDoor

namespace Go.Proofs.YtbdanlipghhgpaaGreatDoor
open Go.RowKit Go.Deep
set_option maxRecDepth 100000
set_option linter.unusedVariables false
structure Nr (b p r : Nat) (w V : World) (W : Ws) (d : Bool) (zs : List Value) : Prop where
  ds : LnS V b p W d
  res : RowAt V r zs
  kw : Kw b w V
  fb : b < w.heap.size
  fp : p < w.heap.size
  fr : w.heap.size ≤ r
section
variable {b p r : Nat} {w V V1 : World} {W W1 : Ws} {d d1 : Bool} {zs cs : List Value}
theorem Nr.start (h : LnS w b p W d) (zs : List Value) (t : TypeId) : Nr b p w.heap.size w (w.alloc (.cells zs.toArray t)) W d zs :=
  ⟨h.aft ((Aft.refl _).alloc _), rowAt_newD w zs t, (Kw.refl _ _).alloc _, h.lt, h.plt, Nat.le_refl _⟩
theorem Nr.call (X : Nr b p r w V W d zs) (k : Kw b V V1) (l : LnS V1 b p W1 d1) : Nr b p r w V1 W1 d1 zs :=
  ⟨l, X.res.kw k (by have := X.fb; have := X.fr; omega), X.kw.trans k, X.fb, X.fp, X.fr⟩
theorem Nr.aft (X : Nr b p r w V W d zs) (a : Aft V V1) : Nr b p r w V1 W d zs := X.call ((Kw.refl _ _).aft a) (X.ds.aft a)
theorem Nr.bad (X : Nr b p r w V W d zs) (x : Bool) : Nr b p r w (V.setCell ⟨b, 1, none⟩ (.bool x)) W x zs :=
  X.call (X.ds.bad x).2 (X.ds.bad x).1
theorem Nr.sets (X : Nr b p r w V W d zs) (hz : zs.length = cs.length) : Nr b p r w (V.setCells r 0 cs) W d cs := by
  have kb := kb_setCellsD r cs V 0
  have := X.fb
  have := X.fp
  have := X.fr
  refine ⟨X.ds.kb kb (by omega) (by omega), by simpa using row_setCells cs V [] zs X.res hz, ?_, X.fb, X.fp, X.fr⟩
  exact ⟨kb.os.trans X.kw.os, kb.tape.trans X.kw.tape, kb.output.trans X.kw.output, Nat.le_trans X.kw.size kb.size, fun j hj hne => (kb.block j (Nat.lt_of_lt_of_le hj X.kw.size) (by omega)).trans (X.kw.block j hj hne)⟩
end
theorem svVal_rowN {V : World} {r : Nat} {zs vs : List Value} (h : RowAt V r zs) (hz : zs.length = 3) (hv : vs.length = 3) (h1 : ∀ v ∈ vs, v.oneCell' = true) : (svVal ⟨r, 0, none⟩ (.agg vs.toArray)).run Tryz.prog V = .ok () (V.setCells r 0 vs) :=
  sv_row (T := 39) (by kernel_rfl) h hz hv h1
def ValN (w' : World) (v : Value) (x : Val) : Prop := v = .agg #[.int .i64 x.kind, .int .i64 x.int, .string x.text] ∧ x.text.size ≤ 4096
set_option maxHeartbeats 2000000 in
theorem value_dn (b p : Nat) (W : Ws) (d : Bool) (w : World) (h : LnS w b p W d) : Calls Tryz.prog 60 #[.pointer (some ⟨b, 0, none⟩)] w (RdN b p w ValN (valD W d)) := by
  have X0 := Nr.start h [.int .i64 0, .int .i64 0, .string ⟨#[]⟩] 39
  obtain ⟨s, W1, d1, hq, hs, hc⟩ := lword_cases b p W d _ X0.ds
  have HC := Lib.hid hc
  have HX0 := Lib.hid X0
  have e : valD W d = ((valV s).1, W1, d1 || !(valV s).2) := by unfold valD; rw [one_word, hq]
  rw [e]
  have hb := h.lt
  have hsm : Small s.size := Nat.le_trans hs (by decide)
  have hs' := hsm.max
  unfold maxLen at hs'
  clear hc hq e h X0
  have LE := Lib.hid hs
  have QLE := Lib.hid (quoless_le s)
  cases q1 : eqS s b_null with
  | true =>
    have e1 := eqS_as q1
    unfold b_null at e1
    simp only at e1
    have HV := Lib.hid (show valV s = (⟨1, 0, zBy⟩, true) from by unfold valV; rw [q1]; rfl)
    clear q1
    go_enter Tryz.func60, Tryz.ntmps60
    go_wp2_with (first | (go_at_call 32; with_reducible refine HC.out.mono ?_; rintro e w1 ⟨rfl, l1, k1⟩; have X1 := Lib.hid (HX0.out.call k1 l1); have e2 := svVal_rowN (vs := [.int .i64 1, .int .i64 0, .string ⟨#[]⟩]) X1.out.res rfl rfl (by simp [Value.oneCell']); clear l1 k1))
    have XF := X1.out.sets (cs := [.int .i64 1, .int .i64 0, .string ⟨#[]⟩]) rfl
    refine bodyPost_ret (results_cell rfl _ rfl (lv_row (T := 39) Tryz.underlying39 (by kernel_rfl) XF.res rfl)) rfl ?_
    rw [HV.out]
    refine ⟨XF.kw, _, rfl, ⟨rfl, Nat.zero_le _⟩, ?_⟩
    simpa using XF.ds
  | false =>
    have e1 := eqS_as q1
    unfold b_null at e1
    simp only at e1
    cases q2 : quoB s with
    | true =>
      obtain ⟨h0, e3, e4⟩ := quo_yes q2
      obtain ⟨t, ht⟩ : ∃ t, quoless s = t := ⟨_, rfl⟩
      rw [ht] at e4 QLE
      obtain ⟨ok, hok⟩ : ∃ ok, txtB t = ok := ⟨_, rfl⟩
      have HV := Lib.hid (show valV s = (⟨3, 0, t⟩, ok) from by unfold valV; rw [q1, q2, ht, hok]; rfl)
      have HP := Lib.hid (show ∀ V : World, Calls Tryz.prog 89 #[.string t] V fun e w' => e = .returned (.bool ok) ∧ V = w' from fun V => hok ▸ plain_dn t V (Nat.le_trans (Nat.le_trans QLE.out hs) (by decide)))
      have h1 : (0 : Int) < (s.size : Int) := by omega
      have hA : 1 ≤ s.size := by omega
      clear q1 q2 ht hok
      cases d1
      all_goals
        cases ok
        all_goals
          go_enter Tryz.func60, Tryz.ntmps60
          go_wp2_with (first | (go_at_call 32; with_reducible refine HC.out.mono ?_; rintro e w1 ⟨rfl, l1, k1⟩; have X1 := Lib.hid (HX0.out.call k1 l1); have y1 := l1.c1; have y2 := l1.f1; have y3 := l1.lt; have e2 := fun x => svVal_rowN (vs := [.int .i64 3, .int .i64 0, .string t]) (X1.out.bad x).res rfl rfl (by simp [Value.oneCell']); clear l1 k1) | (go_at_call 89; with_reducible refine (HP.out _).mono ?_; rintro e w2 ⟨rfl, rfl⟩))
          have XF := fun x => (X1.out.bad x).sets (cs := [.int .i64 3, .int .i64 0, .string t]) rfl
          refine bodyPost_ret (results_cell rfl _ rfl (lv_row (T := 39) Tryz.underlying39 (by kernel_rfl) (XF _).res rfl)) rfl ?_
          rw [HV.out]
          refine ⟨(XF _).kw, _, rfl, ⟨rfl, Nat.le_trans QLE.out LE.out⟩, ?_⟩
          exact (XF _).ds
    | false =>
      obtain ⟨n, ok, hn⟩ : ∃ n ok, numV s = (n, ok) := ⟨_, _, rfl⟩
      have HN := Lib.hid (number_dn s)
      rw [hn] at HN
      have HN := Lib.hid (show ∀ V : World, Calls Tryz.prog 55 #[.string s] V fun e w' => e = .returned (.tuple #[.int .i64 n, .bool ok]) ∧ V = w' from fun V => HN.out V hsm)
      have HV := Lib.hid (show valV s = (⟨2, n, zBy⟩, ok) from by unfold valV; rw [q1, q2, hn]; rfl)
      have h2 := quo_no q2
      clear q1 q2 hn
      rcases h2 with h2 | ⟨h2, e3⟩
      · have h1 : ¬ (0 : Int) < (s.size : Int) := by omega
        cases d1
        all_goals
          cases ok
          all_goals
            go_enter Tryz.func60, Tryz.ntmps60
            go_wp2_with (first | (go_at_call 32; with_reducible refine HC.out.mono ?_; rintro e w1 ⟨rfl, l1, k1⟩; have X1 := Lib.hid (HX0.out.call k1 l1); have y1 := l1.c1; have y2 := l1.f1; have y3 := l1.lt; have e2 := fun x => svVal_rowN (vs := [.int .i64 2, .int .i64 n, .string ⟨#[]⟩]) (X1.out.bad x).res rfl rfl (by simp [Value.oneCell']); clear l1 k1) | (go_at_call 55; with_reducible refine (HN.out _).mono ?_; rintro e w2 ⟨rfl, rfl⟩))
            have XF := fun x => (X1.out.bad x).sets (cs := [.int .i64 2, .int .i64 n, .string ⟨#[]⟩]) rfl
            refine bodyPost_ret (results_cell rfl _ rfl (lv_row (T := 39) Tryz.underlying39 (by kernel_rfl) (XF _).res rfl)) rfl ?_
            rw [HV.out]
            refine ⟨(XF _).kw, _, rfl, ⟨rfl, Nat.zero_le _⟩, ?_⟩
            exact (XF _).ds
      · have h1 : (0 : Int) < (s.size : Int) := by omega
        have e4 : ¬ (s[0].toNat : Int) = 39 := by simpa using e3
        cases d1
        all_goals
          cases ok
          all_goals
            go_enter Tryz.func60, Tryz.ntmps60
            go_wp2_with (first | (go_at_call 32; with_reducible refine HC.out.mono ?_; rintro e w1 ⟨rfl, l1, k1⟩; have X1 := Lib.hid (HX0.out.call k1 l1); have y1 := l1.c1; have y2 := l1.f1; have y3 := l1.lt; have e2 := fun x => svVal_rowN (vs := [.int .i64 2, .int .i64 n, .string ⟨#[]⟩]) (X1.out.bad x).res rfl rfl (by simp [Value.oneCell']); clear l1 k1) | (go_at_call 55; with_reducible refine (HN.out _).mono ?_; rintro e w2 ⟨rfl, rfl⟩))
            have XF := fun x => (X1.out.bad x).sets (cs := [.int .i64 2, .int .i64 n, .string ⟨#[]⟩]) rfl
            refine bodyPost_ret (results_cell rfl _ rfl (lv_row (T := 39) Tryz.underlying39 (by kernel_rfl) (XF _).res rfl)) rfl ?_
            rw [HV.out]
            refine ⟨(XF _).kw, _, rfl, ⟨rfl, Nat.zero_le _⟩, ?_⟩
            exact (XF _).ds
end Go.Proofs.YtbdanlipghhgpaaGreatDoor

