/- The document's Form and Right of a table by itself. -/
import Derived.Test.YtodifdofgjfkiaaForm
import Derived.Test.YtodifdofgjfkiaaAloneLaw
import Derived.IntWalk
namespace Go.Proofs.Ytodifdofgjfkiaa
open Go.RowKit
set_option maxRecDepth 100000
set_option linter.unusedVariables false
set_option maxHeartbeats 4000000 in
theorem rform_any (A : Option Addr) (cap : Nat) (l : List Col) (A2 : Option Addr) (cap2 : Nat) (m : List Val) (w : World) (h : SlAt w 3 ColR A cap l) (h2 : SlAt w 3 ValR A2 cap2 m) :
    Calls Try.prog 102 #[.slice A l.length cap, .slice A2 m.length cap2] w fun e w' => e = .returned (.bool (besideB formB l m)) ∧ Aft w w' := by
  have hlen := h.len
  have hlen2 := h2.len
  by_cases hl : l.length = m.length
  · have e1 : ((m.length : Int) != (l.length : Int)) = false := by simp [hl]
    go_enter Try.func102, Try.ntmps102
    go_wp2_with fail
    go_loopw [5] (fun i wr => ∃ k : Nat, k ≤ m.length ∧ i = .int .i64 k ∧ Aft w wr ∧ ∀ j, j < k → ∀ (hj : j < l.length) (hj2 : j < m.length), formB l[j] m[j] = true) (fun i _ => m.length - (intOf i).toNat)
    case atStart => exact ⟨0, Nat.zero_le _, rfl, Aft.refl _, fun j hj => absurd hj (Nat.not_lt_zero j)⟩
    case round =>
      obtain ⟨k, hk, rfl, ha, hp⟩ := hrel
      have HA := Lib.hid ha
      have HP := Lib.hid hp; clear hp
      by_cases hlt2 : k < m.length
      · have hlt : k < l.length := by omega
        obtain ⟨b, off, rfl, hb, c0, c1, c2, _⟩ := col_at (cols_aft ha h) hlt
        obtain ⟨b2, off2, rfl, hb2, d0, d1, d2, hs⟩ := val_at (vals_aft ha h2) hlt2
        clear ha
        obtain ⟨r, hr⟩ : ∃ r, mayV m[k] = r := ⟨_, rfl⟩
        have HF := Lib.hid (show formB l[k] m[k] = (r && (m[k].kind == l[k].kind || m[k].kind == 1)) by unfold formB; rw [hr])
        have Cm := Lib.hid (show ∀ x : Lat wr, Calls Try.prog 36 #[.agg #[.int .i64 m[k].kind, .int .i64 m[k].int, .string m[k].text]] (lat wr x) fun e w'' => e = .returned (.bool r) ∧ Aft (lat wr x) w'' from
          fun x => (rmay_any m[k] (lat wr x) hs).mono fun e w'' ⟨he, hw⟩ => ⟨he.trans (by rw [hr]), hw⟩)
        clear hr
        cases r
        · have HN := Lib.hid (besideB_false formB l m k hlt hlt2 (by rw [HF.out]; rfl))
          go_wp2_with fail
          refine wp_region_lat (by kernel_rfl) (by kernel_rfl) ?_
          repeat (go_big_quiet_step ((first | (go_at_call 36; exact Calls.lat_of (Cm.out _)))))
          refine wpQuiet_nil ?_
          intro _ hw'
          obtain ⟨x, hw''⟩ := hw'
          subst hw''
          go_wp2_with fail
          go_ret
          exact ⟨by rw [HN.out]; rfl, HA.out.lat x⟩
        cases g1 : (m[k].kind != 1)
        · have HN := Lib.hid (ext_lt (p := fun j => ∀ (hj : j < l.length) (hj2 : j < m.length), formB l[j] m[j] = true) HP.out (fun _ _ => by rw [HF.out, show (m[k].kind == 1) = true by simpa using g1]; simp))
          go_wp2_with fail
          refine wp_region_lat (by kernel_rfl) (by kernel_rfl) ?_
          repeat (go_big_quiet_step ((first | (go_at_call 36; exact Calls.lat_of (Cm.out _)))))
          refine wpQuiet_nil ?_
          intro _ hw'
          obtain ⟨x, hw''⟩ := hw'
          subst hw''
          go_wp2_with fail
          go_roundw
          case rel => exact ⟨k + 1, by omega, by go_num, HA.out.lat x, HN.out⟩
          case measure => simp [intOf]; omega
        cases g2 : (m[k].kind != l[k].kind)
        · have HN := Lib.hid (ext_lt (p := fun j => ∀ (hj : j < l.length) (hj2 : j < m.length), formB l[j] m[j] = true) HP.out (fun _ _ => by rw [HF.out, show (m[k].kind == l[k].kind) = true by simpa using g2]; simp))
          go_wp2_with fail
          refine wp_region_lat (by kernel_rfl) (by kernel_rfl) ?_
          repeat (go_big_quiet_step ((first | (go_at_call 36; exact Calls.lat_of (Cm.out _)))))
          refine wpQuiet_nil ?_
          intro _ hw'
          obtain ⟨x, hw''⟩ := hw'
          subst hw''
          go_wp2_with fail
          go_roundw
          case rel => exact ⟨k + 1, by omega, by go_num, HA.out.lat x, HN.out⟩
          case measure => simp [intOf]; omega
        · have HN := Lib.hid (besideB_false formB l m k hlt hlt2 (by rw [HF.out, show (m[k].kind == l[k].kind) = false by simpa using g2, show (m[k].kind == 1) = false by simpa using g1]; rfl))
          go_wp2_with fail
          refine wp_region_lat (by kernel_rfl) (by kernel_rfl) ?_
          repeat (go_big_quiet_step ((first | (go_at_call 36; exact Calls.lat_of (Cm.out _)))))
          refine wpQuiet_nil ?_
          intro _ hw'
          obtain ⟨x, hw''⟩ := hw'
          subst hw''
          go_wp2_with fail
          go_ret
          exact ⟨by rw [HN.out]; rfl, HA.out.lat x⟩
      · have HN := Lib.hid (besideB_true formB l m hl fun j hj hj2 => HP.out j (by omega) hj hj2)
        clear ha
        go_wp2_with fail
        go_ret
        exact ⟨by rw [HN.out]; rfl, HA.out⟩
  · have e1 : ((m.length : Int) != (l.length : Int)) = true := by simp; omega
    have HN := Lib.hid (besideB_len formB l m hl)
    go_enter Try.func102, Try.ntmps102
    go_wp2_with fail
    go_ret
    exact ⟨by rw [HN.out]; rfl, Aft.refl _⟩
theorem tableOk_rule (t : Tab) (k : Nat) (hk : k < t.rules.length) (h : fitsOk t.cols t.rules[k] = false) : tableOk t = false := by
  unfold tableOk; rw [all_false _ _ k hk h]; simp
theorem tableOk_rise (t : Tab) (k : Nat) (hk : k < t.rules.length) (h0 : 0 < k) (h : ltS (t.rules[k - 1]'(by omega)).name t.rules[k].name = false) : tableOk t = false := by
  have h1 : k - 1 + 1 < t.rules.length := by omega
  have e : (t.rules[k - 1 + 1]'h1) = t.rules[k] := by congr 1; omega
  unfold tableOk
  rw [risesB_false (fun a b : Rul => cmpS a.name b.name) _ (k - 1) h1]
  · simp
  · rw [e]
    rw [← cmpS_lt] at h
    have := of_decide_eq_false h
    omega
theorem rises_pred' {α : Type} (c : α → α → Int) (l : List α) (h : ∀ k, 1 ≤ k → ∀ (hk : k < l.length), c (l[k - 1]'(by omega)) l[k] < 0) : risesB c l = true :=
  (risesB_iff c l).2 fun k hk => h (k + 1) (by omega) hk
set_option maxHeartbeats 8000000 in
theorem rtable_any (t : Tab) (A : Option Addr) (cap : Nat) (A2 : Option Addr) (cap2 : Nat) (w : World) (h : SlAt w 3 ColR A cap t.cols) (h2 : SlAt w 8 RulR A2 cap2 t.rules) :
    Calls Try.prog 37 #[.agg #[.string t.schema, .string t.name, .string t.owner, .slice A t.cols.length cap, .slice A2 t.rules.length cap2]] w
      fun e w' => e = .returned (.bool (tableOk t)) ∧ Aft w w' := by
  have hlen2 := h2.len
  obtain ⟨m, hm⟩ : ∃ m, colsOk t.cols = m := ⟨_, rfl⟩
  have HR1 := Lib.hid (show tableOk t = (m && decide (t.rules.length ≤ 8) && (t.rules.all (fitsOk t.cols) && risesB (fun a b => cmpS a.name b.name) t.rules)) by unfold tableOk; rw [hm])
  have Cm := Lib.hid (show ∀ w', Aft w w' → Calls Try.prog 96 #[.slice A t.cols.length cap] w' fun e w'' => e = .returned (.bool m) ∧ Aft w' w'' from
    fun w' a => (rcols_any A cap t.cols w' (cols_aft a h)).mono fun e w'' ⟨he, hw⟩ => ⟨he.trans (by rw [← hm]), hw⟩)
  clear hm
  go_enter Try.func37, Try.ntmps37
  go_wp2_with fail
  refine (Cm.out _ ((Aft.refl w).alloc _)).mono ?_
  rintro e w1 ⟨rfl, a1⟩
  obtain ⟨hbt, hfr, hz, hzk, HA⟩ := aft_box a1
  have HAB := Lib.hid a1
  clear a1 Cm
  cases m
  · have HN := Lib.hid (show tableOk t = false by rw [HR1.out]; rfl)
    go_wp2_with fail
    go_ret
    exact ⟨by rw [HN.out]; rfl, HA.out⟩
  by_cases h8 : 8 < t.rules.length
  · have HN := Lib.hid (show tableOk t = false by rw [HR1.out, decide_eq_false (show ¬ t.rules.length ≤ 8 by omega)]; rfl)
    have h8' : (8 : Int) < (t.rules.length : Int) := by omega
    go_wp2_with fail
    go_ret
    exact ⟨by rw [HN.out]; rfl, HA.out⟩
  have h8' : (t.rules.length : Int) ≤ 8 := by omega
  have d8 : decide ((8 : Int) < (t.rules.length : Int)) = false := decide_eq_false (by omega)
  have HR2 := Lib.hid (show tableOk t = (t.rules.all (fitsOk t.cols) && risesB (fun a b => cmpS a.name b.name) t.rules) by rw [HR1.out, decide_eq_true (show t.rules.length ≤ 8 by omega)]; rfl)
  clear HR1
  go_wp2_with fail
  go_loopw [3] (fun i wr => ∃ k : Nat, k ≤ t.rules.length ∧ i = .int .i64 k ∧ Aft (w.alloc (.cells #[.string t.schema, .string t.name, .string t.owner, .slice A t.cols.length cap, .slice A2 t.rules.length cap2] 34)) wr ∧ ∀ j, j < k → ∀ (hj : j < t.rules.length), fitsOk t.cols t.rules[j] = true ∧ (0 < j → ltS (t.rules[j - 1]'(by omega)).name t.rules[j].name = true)) (fun i _ => t.rules.length - (intOf i).toNat)
  case atStart => exact ⟨0, Nat.zero_le _, rfl, HAB.out, fun j hj => absurd hj (Nat.not_lt_zero j)⟩
  case round =>
    clear hbt hfr hz hzk HA HAB
    obtain ⟨k, hk, rfl, ha, hp⟩ := hrel
    obtain ⟨hbt, hfr, hz, hzk, HA⟩ := aft_box ha
    have HAB := Lib.hid ha
    have HP := Lib.hid hp; clear hp ha
    by_cases hlt : k < t.rules.length
    · have hr := ruls_aft HA.out h2
      obtain ⟨b, off, D2, capD2, rfl, hb, c0, c1, c2, c3, c4, c5, c6, c7, hcs, s0, s1, s2, s3⟩ := rul_at hr hlt
      obtain ⟨p, hpp⟩ : ∃ p, t.rules[k] = p := ⟨_, rfl⟩
      rw [hpp] at c0 c1 c2 c3 c4 c5 c6 c7 hcs s0 s1 s2 s3
      have HPP := Lib.hid hpp
      obtain ⟨f, hf⟩ : ∃ f, fitsOk t.cols p = f := ⟨_, rfl⟩
      have HO := Lib.hid (show fitsOk t.cols t.rules[k] = f by rw [hpp]; exact hf)
      have Cm := Lib.hid (show ∀ x : Lat wr, Calls Try.prog 97 #[.slice A t.cols.length cap, .agg #[.string p.name, .int .i64 p.kind, .slice D2 p.cols.length capD2, .int .i64 p.low, .int .i64 p.high, .string p.schema, .string p.table, .string p.key]] (lat wr x) fun e w'' => e = .returned (.bool f) ∧ Aft (lat wr x) w'' from
        fun x => (rfits_any A cap t.cols p D2 capD2 (lat wr x) (cols_aft (HA.out.lat x) h) (strs_aft ((Aft.refl wr).lat x) hcs) s0 s1 s2 s3).mono fun e w'' ⟨he, hw⟩ => ⟨he.trans (by rw [← hf]), hw⟩)
      clear hf hcs
      by_cases h0 : 0 < k
      · have hk1 : k - 1 < t.rules.length := by omega
        obtain ⟨b', off', D2', capD2', hA', hb', e0, _, _, _, _, _, _, _, _⟩ := rul_at hr hk1
        simp only [Option.some.injEq, Addr.mk.injEq, and_true] at hA'
        obtain ⟨rfl, rfl⟩ := hA'
        obtain ⟨p', hpp'⟩ : ∃ p', (t.rules[k - 1]'(by omega)) = p' := ⟨_, rfl⟩
        rw [hpp'] at e0
        have HPP' := Lib.hid hpp'
        have w1' : IntKind.i64.wrap ((k : Int) - 1) = (k : Int) - 1 := IntWalk.i64_in _ (by omega)
        have w2' : (0 : Int) ≤ (k : Int) - 1 := by omega
        have w3' : ((k : Int) - 1).toNat = k - 1 := by omega
        have w4' : (k : Int) - 1 < (t.rules.length : Int) := by omega
        have w5' : decide ((0 : Int) < (k : Int)) = true := decide_eq_true (by omega)
        clear hpp hpp' hr
        cases hL : ltS p'.name p.name
        · have hL' : Op.bytesLess p'.name.toList p.name.toList = false := hL
          have HN := Lib.hid (tableOk_rise t k hlt h0 (by rw [HPP.out, HPP'.out]; exact hL))
          clear hL
          go_wp2_with fail
          refine wp_region_lat (by kernel_rfl) (by kernel_rfl) ?_
          repeat (go_big_quiet_step ((first | (go_at_call 97; exact Calls.lat_of (Cm.out _)))))
          refine wpQuiet_nil ?_
          intro _ hw'
          obtain ⟨x, hw''⟩ := hw'
          subst hw''
          go_wp2_with fail
          go_ret
          exact ⟨by rw [HN.out]; rfl, HA.out.lat x⟩
        have hL' : Op.bytesLess p'.name.toList p.name.toList = true := hL
        have HLT := Lib.hid (show 0 < k → ltS (t.rules[k - 1]'(by omega)).name t.rules[k].name = true by intro _; rw [HPP.out, HPP'.out]; exact hL)
        clear hL
        cases f
        · have HN := Lib.hid (tableOk_rule t k hlt HO.out)
          go_wp2_with fail
          refine wp_region_lat (by kernel_rfl) (by kernel_rfl) ?_
          repeat (go_big_quiet_step ((first | (go_at_call 97; exact Calls.lat_of (Cm.out _)))))
          refine wpQuiet_nil ?_
          intro _ hw'
          obtain ⟨x, hw''⟩ := hw'
          subst hw''
          go_wp2_with fail
          go_ret
          exact ⟨by rw [HN.out]; rfl, HA.out.lat x⟩
        · have HN := Lib.hid (ext_lt (p := fun j => ∀ (hj : j < t.rules.length), fitsOk t.cols t.rules[j] = true ∧ (0 < j → ltS (t.rules[j - 1]'(by omega)).name t.rules[j].name = true)) HP.out (fun _ => ⟨HO.out, HLT.out⟩))
          go_wp2_with fail
          refine wp_region_lat (by kernel_rfl) (by kernel_rfl) ?_
          repeat (go_big_quiet_step ((first | (go_at_call 97; exact Calls.lat_of (Cm.out _)))))
          refine wpQuiet_nil ?_
          intro _ hw'
          obtain ⟨x, hw''⟩ := hw'
          subst hw''
          go_wp2_with fail
          go_roundw
          case rel => exact ⟨k + 1, by omega, by go_num, HAB.out.lat x, HN.out⟩
          case measure => simp [intOf]; omega
      · have w5' : decide ((0 : Int) < (k : Int)) = false := decide_eq_false (by omega)
        have w6' : (k : Int) ≤ 0 := by omega
        have HLT := Lib.hid (show 0 < k → ltS (t.rules[k - 1]'(by omega)).name t.rules[k].name = true from fun h => absurd h h0)
        clear hpp hr
        cases f
        · have HN := Lib.hid (tableOk_rule t k hlt HO.out)
          go_wp2_with fail
          refine wp_region_lat (by kernel_rfl) (by kernel_rfl) ?_
          repeat (go_big_quiet_step ((first | (go_at_call 97; exact Calls.lat_of (Cm.out _)))))
          refine wpQuiet_nil ?_
          intro _ hw'
          obtain ⟨x, hw''⟩ := hw'
          subst hw''
          go_wp2_with fail
          go_ret
          exact ⟨by rw [HN.out]; rfl, HA.out.lat x⟩
        · have HN := Lib.hid (ext_lt (p := fun j => ∀ (hj : j < t.rules.length), fitsOk t.cols t.rules[j] = true ∧ (0 < j → ltS (t.rules[j - 1]'(by omega)).name t.rules[j].name = true)) HP.out (fun _ => ⟨HO.out, HLT.out⟩))
          go_wp2_with fail
          refine wp_region_lat (by kernel_rfl) (by kernel_rfl) ?_
          repeat (go_big_quiet_step ((first | (go_at_call 97; exact Calls.lat_of (Cm.out _)))))
          refine wpQuiet_nil ?_
          intro _ hw'
          obtain ⟨x, hw''⟩ := hw'
          subst hw''
          go_wp2_with fail
          go_roundw
          case rel => exact ⟨k + 1, by omega, by go_num, HAB.out.lat x, HN.out⟩
          case measure => simp [intOf]; omega
    · have HN := Lib.hid (show tableOk t = true by
        rw [HR2.out, all_true _ _ fun j hj => (HP.out j (by omega) hj).1, rises_pred' (fun a b : Rul => cmpS a.name b.name) _ fun j hj1 hj => (cmpS_lt_iff _ _).2 ((HP.out j (by omega) hj).2 (by omega))]; rfl)
      go_wp2_with fail
      go_ret
      exact ⟨by rw [HN.out]; rfl, HA.out⟩
end Go.Proofs.Ytodifdofgjfkiaa
