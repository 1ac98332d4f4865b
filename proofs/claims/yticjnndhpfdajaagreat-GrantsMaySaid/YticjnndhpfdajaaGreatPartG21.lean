/- Contracts of the program, part 21. -/
import Derived.Test.YticjnndhpfdajaaGreatPartG20
import Derived.Test.YticjnndhpfdajaaGreatPartG19
import Derived.Test.YticjnndhpfdajaaGreatPartG11
import Derived.Test.YticjnndhpfdajaaGreatPartG7
import Derived.Shelf.SlSortCmp.WholeK
import Derived.Test.YticjnndhpfdajaaGreatPartG10
import Derived.Test.YticjnndhpfdajaaGreatPartG14
import Derived.Test.YticjnndhpfdajaaGreatPartG17
/- The document's right: a table, objects. -/
namespace Go.Proofs.YticjnndhpfdajaaGreat
open Go.RowKit
set_option maxRecDepth 100000
set_option linter.unusedVariables false
theorem rightT_rule (o : Objs) (t : Tab) (k : Nat) (hk : k < t.rules.length) (h : ruleOk o.tables t.cols t.rules[k] = false) : rightT o t = false := by
  unfold rightT; rw [all_false _ _ k hk h]; simp
theorem rightT_rise (o : Objs) (t : Tab) (k : Nat) (hk : k < t.rules.length) (h0 : 0 < k) (h : ltS (t.rules[k - 1]'(by omega)).name t.rules[k].name = false) : rightT o t = false := by
  have h1 : k - 1 + 1 < t.rules.length := by omega
  have e : (t.rules[k - 1 + 1]'h1) = t.rules[k] := by congr 1; omega
  unfold rightT
  rw [risesB_false (fun a b : Rul => cmpS a.name b.name) _ (k - 1) h1]
  · simp
  · rw [e]
    rw [← cmpS_lt] at h
    have := of_decide_eq_false h
    omega
set_option maxHeartbeats 8000000 in
theorem rright_any (o : Objs) (t : Tab) (As : Option Addr) (caps : Nat) (At : Option Addr) (capt : Nat) (A : Option Addr) (cap : Nat) (A2 : Option Addr) (cap2 : Nat) (w : World) (hsch : SlAt w 2 SchR As caps o.schemas) (htab : SlAt w 5 TabR At capt o.tables)
    (h : SlAt w 3 ColR A cap t.cols) (h2 : SlAt w 8 RulR A2 cap2 t.rules) (hn : Small t.name.size) (ho : Small t.owner.size) :
    Calls Tryz.prog 151 #[.agg #[.slice As o.schemas.length caps, .slice At o.tables.length capt], .agg #[.string t.schema, .string t.name, .string t.owner, .slice A t.cols.length cap, .slice A2 t.rules.length cap2]] w
      fun e w' => e = .returned (.bool (rightT o t)) ∧ Aft w w' := by
  have hlen2 := h2.len
  obtain ⟨i, hi⟩ : ∃ i, schAt o.schemas t.schema = i := ⟨_, rfl⟩
  obtain ⟨m, hm⟩ : ∃ m, colsOk t.cols = m := ⟨_, rfl⟩
  have HR0 := Lib.hid (show rightT o t = (nameB t.name && nameB t.owner && m && decide (t.rules.length ≤ 8) && decide (0 ≤ i) && (t.rules.all (ruleOk o.tables t.cols) && risesB (fun a b => cmpS a.name b.name) t.rules)) by unfold rightT; rw [hi, hm])
  have Cs := Lib.hid (show ∀ w', Aft w w' → Calls Tryz.prog 206 #[.agg #[.slice As o.schemas.length caps, .slice At o.tables.length capt], .string t.schema] w' fun e w'' => e = .returned (.int .i64 i) ∧ Aft w' w'' from
    fun w' a => (rsch_any As caps o.schemas _ t.schema w' (schs_aft a hsch)).mono fun e w'' ⟨he, hw⟩ => ⟨he.trans (by rw [← hi]), hw⟩)
  have Cm := Lib.hid (show ∀ w', Aft w w' → Calls Tryz.prog 207 #[.slice A t.cols.length cap] w' fun e w'' => e = .returned (.bool m) ∧ Aft w' w'' from
    fun w' a => (rcols_any A cap t.cols w' (cols_aft a h)).mono fun e w'' ⟨he, hw⟩ => ⟨he.trans (by rw [← hm]), hw⟩)
  clear hi hm
  go_enter Tryz.func151, Tryz.ntmps151
  go_wp2_with fail
  refine (Cs.out _ (((Aft.refl w).alloc _).alloc _)).mono ?_
  rintro e w1 ⟨rfl, a1⟩
  obtain ⟨hbo, hbt, hz, HA⟩ := aft_box2 a1
  have HAB := Lib.hid a1
  clear a1 Cs
  by_cases hi0 : i < 0
  · have HF := Lib.hid (show rightT o t = false by rw [HR0.out, decide_eq_false (show ¬ 0 ≤ i by omega), Bool.and_false]; rfl)
    go_wp2_with fail
    go_ret
    exact ⟨by rw [HF.out]; rfl, HA.out⟩
  have hi1 : 0 ≤ i := by omega
  cases hN : nameB t.name
  · have HF := Lib.hid (show rightT o t = false by rw [HR0.out, hN]; rfl)
    go_wp2_with (go_at_call 153; refine (rname_any _ _ (by first | exact hn.max | exact ho.max)).mono ?_; rintro e w' ⟨rfl, rfl⟩)
    go_ret
    exact ⟨by rw [HF.out]; rfl, HA.out⟩
  cases hO : nameB t.owner
  · have HF := Lib.hid (show rightT o t = false by rw [HR0.out, hN, hO]; rfl)
    go_wp2_with (go_at_call 153; refine (rname_any _ _ (by first | exact hn.max | exact ho.max)).mono ?_; rintro e w' ⟨rfl, rfl⟩)
    go_ret
    exact ⟨by rw [HF.out]; rfl, HA.out⟩
  have HR1 := Lib.hid (show rightT o t = (m && decide (t.rules.length ≤ 8) && (t.rules.all (ruleOk o.tables t.cols) && risesB (fun a b => cmpS a.name b.name) t.rules)) by rw [HR0.out, hN, hO, decide_eq_true hi1]; simp)
  clear HR0
  go_wp2_with (go_at_call 153; refine (rname_any _ _ (by first | exact hn.max | exact ho.max)).mono ?_; rintro e w' ⟨rfl, rfl⟩)
  refine (Cm.out _ HA.out).mono ?_
  rintro e w2 ⟨rfl, a2⟩
  have HAB2 := Lib.hid (HAB.out.trans a2)
  clear a2 Cm HA HAB hbo hbt hz
  obtain ⟨hbo, hbt, hz, HA⟩ := aft_box2 HAB2.out
  cases m
  · have HF := Lib.hid (show rightT o t = false by rw [HR1.out]; rfl)
    go_wp2_with fail
    go_ret
    exact ⟨by rw [HF.out]; rfl, HA.out⟩
  by_cases h8 : 8 < t.rules.length
  · have HF := Lib.hid (show rightT o t = false by rw [HR1.out, decide_eq_false (show ¬ t.rules.length ≤ 8 by omega)]; rfl)
    have h8' : (8 : Int) < (t.rules.length : Int) := by omega
    go_wp2_with fail
    go_ret
    exact ⟨by rw [HF.out]; rfl, HA.out⟩
  have h8' : (t.rules.length : Int) ≤ 8 := by omega
  have d8 : decide ((8 : Int) < (t.rules.length : Int)) = false := decide_eq_false (by omega)
  have HR2 := Lib.hid (show rightT o t = (t.rules.all (ruleOk o.tables t.cols) && risesB (fun a b => cmpS a.name b.name) t.rules) by rw [HR1.out, decide_eq_true (show t.rules.length ≤ 8 by omega)]; rfl)
  clear HR1
  go_wp2_with fail
  go_loopw [5] (fun i wr => ∃ k : Nat, k ≤ t.rules.length ∧ i = .int .i64 k ∧ Aft ((w.alloc (.cells #[.slice As o.schemas.length caps, .slice At o.tables.length capt] 25)).alloc (.cells #[.string t.schema, .string t.name, .string t.owner, .slice A t.cols.length cap, .slice A2 t.rules.length cap2] 50)) wr ∧ ∀ j, j < k → ∀ (hj : j < t.rules.length), ruleOk o.tables t.cols t.rules[j] = true ∧ (0 < j → ltS (t.rules[j - 1]'(by omega)).name t.rules[j].name = true)) (fun i _ => t.rules.length - (intOf i).toNat)
  case atStart => exact ⟨0, Nat.zero_le _, rfl, HAB2.out, fun j hj => absurd hj (Nat.not_lt_zero j)⟩
  case round =>
    clear hbo hbt hz HA HAB2
    obtain ⟨k, hk, rfl, ha, hp⟩ := hrel
    obtain ⟨hbo, hbt, hz, HA⟩ := aft_box2 ha
    have HAB := Lib.hid ha
    have HP := Lib.hid hp; clear hp ha
    by_cases hlt : k < t.rules.length
    · have hr := ruls_aft HA.out h2
      obtain ⟨b, off, D2, capD2, rfl, hb, c0, c1, c2, c3, c4, c5, c6, c7, hcs, s0, s1, s2, s3⟩ := rul_at hr hlt
      obtain ⟨p, hpp⟩ : ∃ p, t.rules[k] = p := ⟨_, rfl⟩
      rw [hpp] at c0 c1 c2 c3 c4 c5 c6 c7 hcs s0 s1 s2 s3
      have HPP := Lib.hid hpp
      obtain ⟨f, hf⟩ : ∃ f, fitsOk t.cols p = f := ⟨_, rfl⟩
      obtain ⟨z, hz'⟩ : ∃ z, keyE o.tables t.cols p = z := ⟨_, rfl⟩
      have HO := Lib.hid (show ruleOk o.tables t.cols t.rules[k] = (f && !(p.kind == 4 && z != 0)) by rw [hpp]; unfold ruleOk; rw [hf, hz'])
      obtain ⟨w3, hw3⟩ : ∃ w3, w3 = wr.alloc (.cells #[.string p.name, .int .i64 p.kind, .slice D2 p.cols.length capD2, .int .i64 p.low, .int .i64 p.high, .string p.schema, .string p.table, .string p.key] 29) := ⟨_, rfl⟩
      have a3 : Aft wr w3 := by rw [hw3]; exact (Aft.refl wr).alloc _
      have hbr : ∀ o', w3.cell? ⟨wr.heap.size, o', none⟩ = (#[.string p.name, .int .i64 p.kind, .slice D2 p.cols.length capD2, .int .i64 p.low, .int .i64 p.high, .string p.schema, .string p.table, .string p.key] : Array Value)[o']? := by intro o'; rw [hw3]; simp
      have hzr : wr.heap.size < w3.heap.size := by rw [hw3]; simp
      have hbo3 : ∀ o', w3.cell? ⟨w.heap.size, o', none⟩ = _ := fun o' => (Below.cell a3 (p := ⟨w.heap.size, o', none⟩) hz.1).trans (hbo o')
      have hbt3 : ∀ o', w3.cell? ⟨w.heap.size + 1, o', none⟩ = _ := fun o' => (Below.cell a3 (p := ⟨w.heap.size + 1, o', none⟩) hz.2).trans (hbt o')
      have hz3 : w.heap.size < w3.heap.size ∧ w.heap.size + 1 < w3.heap.size := ⟨Nat.lt_of_lt_of_le hz.1 a3.size, Nat.lt_of_lt_of_le hz.2 a3.size⟩
      have Cf := Lib.hid (show ∀ x : Lat w3, Calls Tryz.prog 73 #[.slice A t.cols.length cap, .agg #[.string p.name, .int .i64 p.kind, .slice D2 p.cols.length capD2, .int .i64 p.low, .int .i64 p.high, .string p.schema, .string p.table, .string p.key]] (lat w3 x) fun e w'' => e = .returned (.bool f) ∧ Aft (lat w3 x) w'' from
        fun x => (rfits_any A cap t.cols p D2 capD2 (lat w3 x) (cols_aft ((HA.out.trans a3).lat x) h) (strs_aft (a3.lat x) hcs) s0 s1 s2 s3).mono fun e w'' ⟨he, hw⟩ => ⟨he.trans (by rw [← hf]), hw⟩)
      have Ck := Lib.hid (show ∀ w', Aft w3 w' → Calls Tryz.prog 75 #[.agg #[.slice As o.schemas.length caps, .slice At o.tables.length capt], .slice A t.cols.length cap, .agg #[.string p.name, .int .i64 p.kind, .slice D2 p.cols.length capD2, .int .i64 p.low, .int .i64 p.high, .string p.schema, .string p.table, .string p.key]] w' fun e w'' => e = .returned (.int .i64 z) ∧ Aft w' w'' from
        fun w' a => (rkey_any _ At capt o.tables A cap t.cols p D2 capD2 w' (tabs_aft (HA.out.trans (a3.trans a)) htab) (cols_aft (HA.out.trans (a3.trans a)) h) (strs_aft (a3.trans a) hcs)).mono fun e w'' ⟨he, hw⟩ => ⟨he.trans (by rw [← hz']), hw⟩)
      have HA3 := Lib.hid a3
      clear hf hz' hcs
      go_wp2_with fail
      rw [← hw3]
      clear hw3 c0 c1 c2 c3 c4 c5 c6 c7
      by_cases h0 : 0 < k
      · have hk1 : k - 1 < t.rules.length := by omega
        obtain ⟨b', off', D2', capD2', hA', hb', e0, _, _, _, _, _, _, _, _⟩ := rul_at (ruls_aft a3 hr) hk1
        simp only [Option.some.injEq, Addr.mk.injEq, and_true] at hA'
        obtain ⟨rfl, rfl⟩ := hA'
        obtain ⟨p', hpp'⟩ : ∃ p', (t.rules[k - 1]'(by omega)) = p' := ⟨_, rfl⟩
        rw [hpp'] at e0
        have HPP' := Lib.hid hpp'
        have w1' : IntKind.i64.wrap ((k : Int) - 1) = (k : Int) - 1 := IntWalk.i64_in _ (by omega)
        have w2' : (0 : Int) ≤ (k : Int) - 1 := by omega
        have w3' : ((k : Int) - 1).toNat = k - 1 := by omega
        have w4' : (k : Int) - 1 < (t.rules.length : Int) := by omega
        have w5' : decide ((0 : Int) < (k : Int)) = true := decide_eq_true (by omega)
        clear hpp hpp' hr a3
        cases hL : ltS p'.name p.name
        · have hL' : Op.bytesLess p'.name.toList p.name.toList = false := hL
          have HF := Lib.hid (rightT_rise o t k hlt h0 (by rw [HPP.out, HPP'.out]; exact hL))
          clear hL
          refine wp_region_lat (by kernel_rfl) (by kernel_rfl) ?_
          repeat (go_big_quiet_step ((first | (go_at_call 73; exact Calls.lat_of (Cf.out _)))))
          refine wpQuiet_nil ?_
          intro _ hw'
          obtain ⟨x, hw''⟩ := hw'
          subst hw''
          go_wp2_with fail
          go_ret
          exact ⟨by rw [HF.out]; rfl, (HA.out.trans HA3.out).lat x⟩
        have hL' : Op.bytesLess p'.name.toList p.name.toList = true := hL
        have HLT := Lib.hid (show 0 < k → ltS (t.rules[k - 1]'(by omega)).name t.rules[k].name = true by intro _; rw [HPP.out, HPP'.out]; exact hL)
        clear hL
        cases f
        · have HF := Lib.hid (rightT_rule o t k hlt (by rw [HO.out]; rfl))
          refine wp_region_lat (by kernel_rfl) (by kernel_rfl) ?_
          repeat (go_big_quiet_step ((first | (go_at_call 73; exact Calls.lat_of (Cf.out _)))))
          refine wpQuiet_nil ?_
          intro _ hw'
          obtain ⟨x, hw''⟩ := hw'
          subst hw''
          go_wp2_with fail
          go_ret
          exact ⟨by rw [HF.out]; rfl, (HA.out.trans HA3.out).lat x⟩
        refine wp_region_lat (by kernel_rfl) (by kernel_rfl) ?_
        repeat (go_big_quiet_step ((first | (go_at_call 73; exact Calls.lat_of (Cf.out _)))))
        refine wpQuiet_nil ?_
        intro _ hw'
        obtain ⟨x, hw''⟩ := hw'
        subst hw''
        cases h4 : (p.kind == 4)
        · have HN := Lib.hid (ext_lt (p := fun j => ∀ (hj : j < t.rules.length), ruleOk o.tables t.cols t.rules[j] = true ∧ (0 < j → ltS (t.rules[j - 1]'(by omega)).name t.rules[j].name = true)) HP.out (fun _ => ⟨by rw [HO.out, h4]; rfl, HLT.out⟩))
          go_wp2_with fail
          go_roundw
          case rel => exact ⟨k + 1, by omega, by go_num, (HAB.out.trans HA3.out).lat x, HN.out⟩
          case measure => simp [intOf]; omega
        · go_wp2_with fail
          refine (Ck.out _ ((Aft.refl w3).lat x)).mono ?_
          rintro e w4 ⟨rfl, a4⟩
          have HA4 := Lib.hid ((HA3.out.lat x).trans a4)
          clear a4 Ck hbo3 hbt3 hbr
          cases z0 : (z != 0)
          · have HN := Lib.hid (ext_lt (p := fun j => ∀ (hj : j < t.rules.length), ruleOk o.tables t.cols t.rules[j] = true ∧ (0 < j → ltS (t.rules[j - 1]'(by omega)).name t.rules[j].name = true)) HP.out (fun _ => ⟨by rw [HO.out, h4, z0]; rfl, HLT.out⟩))
            go_wp2_with fail
            go_roundw
            case rel => exact ⟨k + 1, by omega, by go_num, HAB.out.trans HA4.out, HN.out⟩
            case measure => simp [intOf]; omega
          · have HF := Lib.hid (rightT_rule o t k hlt (by rw [HO.out, h4, z0]; rfl))
            go_wp2_with fail
            go_ret
            exact ⟨by rw [HF.out]; rfl, HA.out.trans HA4.out⟩
      · have w5' : decide ((0 : Int) < (k : Int)) = false := decide_eq_false (by omega)
        have w6' : (k : Int) ≤ 0 := by omega
        have HLT := Lib.hid (show 0 < k → ltS (t.rules[k - 1]'(by omega)).name t.rules[k].name = true from fun h => absurd h h0)
        clear hpp hr a3
        cases f
        · have HF := Lib.hid (rightT_rule o t k hlt (by rw [HO.out]; rfl))
          refine wp_region_lat (by kernel_rfl) (by kernel_rfl) ?_
          repeat (go_big_quiet_step ((first | (go_at_call 73; exact Calls.lat_of (Cf.out _)))))
          refine wpQuiet_nil ?_
          intro _ hw'
          obtain ⟨x, hw''⟩ := hw'
          subst hw''
          go_wp2_with fail
          go_ret
          exact ⟨by rw [HF.out]; rfl, (HA.out.trans HA3.out).lat x⟩
        refine wp_region_lat (by kernel_rfl) (by kernel_rfl) ?_
        repeat (go_big_quiet_step ((first | (go_at_call 73; exact Calls.lat_of (Cf.out _)))))
        refine wpQuiet_nil ?_
        intro _ hw'
        obtain ⟨x, hw''⟩ := hw'
        subst hw''
        cases h4 : (p.kind == 4)
        · have HN := Lib.hid (ext_lt (p := fun j => ∀ (hj : j < t.rules.length), ruleOk o.tables t.cols t.rules[j] = true ∧ (0 < j → ltS (t.rules[j - 1]'(by omega)).name t.rules[j].name = true)) HP.out (fun _ => ⟨by rw [HO.out, h4]; rfl, HLT.out⟩))
          go_wp2_with fail
          go_roundw
          case rel => exact ⟨k + 1, by omega, by go_num, (HAB.out.trans HA3.out).lat x, HN.out⟩
          case measure => simp [intOf]; omega
        · go_wp2_with fail
          refine (Ck.out _ ((Aft.refl w3).lat x)).mono ?_
          rintro e w4 ⟨rfl, a4⟩
          have HA4 := Lib.hid ((HA3.out.lat x).trans a4)
          clear a4 Ck hbo3 hbt3 hbr
          cases z0 : (z != 0)
          · have HN := Lib.hid (ext_lt (p := fun j => ∀ (hj : j < t.rules.length), ruleOk o.tables t.cols t.rules[j] = true ∧ (0 < j → ltS (t.rules[j - 1]'(by omega)).name t.rules[j].name = true)) HP.out (fun _ => ⟨by rw [HO.out, h4, z0]; rfl, HLT.out⟩))
            go_wp2_with fail
            go_roundw
            case rel => exact ⟨k + 1, by omega, by go_num, HAB.out.trans HA4.out, HN.out⟩
            case measure => simp [intOf]; omega
          · have HF := Lib.hid (rightT_rule o t k hlt (by rw [HO.out, h4, z0]; rfl))
            go_wp2_with fail
            go_ret
            exact ⟨by rw [HF.out]; rfl, HA.out.trans HA4.out⟩
    · have HF := Lib.hid (show rightT o t = true by
        rw [HR2.out, all_true _ _ fun j hj => (HP.out j (by omega) hj).1, rises_pred (fun a b : Rul => cmpS a.name b.name) _ fun j hj1 hj => (cmpS_lt_iff _ _).2 ((HP.out j (by omega) hj).2 (by omega))]; rfl)
      go_wp2_with fail
      go_ret
      exact ⟨by rw [HF.out]; rfl, HA.out⟩
theorem checkO_rows (o : Objs) : checkO o = (decide (o.schemas.length ≤ 8) && decide (o.tables.length ≤ 64) && rowsB o && o.tables.all (rightT o)) := by
  unfold checkO headOk rowsB
  cases decide (o.schemas.length ≤ 8) <;> cases decide (o.tables.length ≤ 64) <;> cases o.schemas.all (schOk o) <;> simp [Bool.and_comm]
set_option maxHeartbeats 8000000 in
theorem rRight_any (o : Objs) (As : Option Addr) (caps : Nat) (At : Option Addr) (capt : Nat) (w : World) (hsch : SlAt w 2 SchR As caps o.schemas) (htab : SlAt w 5 TabR At capt o.tables) :
    Calls Tryz.prog 70 #[.agg #[.slice As o.schemas.length caps, .slice At o.tables.length capt]] w
      fun e w' => e = .returned (.bool (checkO o)) ∧ Aft w w' := by
  have hlen := hsch.len
  have hlen2 := htab.len
  have HR0 := Lib.hid (checkO_rows o)
  by_cases d1 : 8 < o.schemas.length
  · have HF := Lib.hid (show checkO o = false by rw [HR0.out, decide_eq_false (show ¬ o.schemas.length ≤ 8 by omega)]; rfl)
    have e1 : (8 : Int) < (o.schemas.length : Int) := by omega
    go_enter Tryz.func70, Tryz.ntmps70
    go_wp2_with fail
    go_ret
    exact ⟨by rw [HF.out]; rfl, (Aft.refl _).alloc _⟩
  have e1 : (o.schemas.length : Int) ≤ 8 := by omega
  by_cases d2 : 64 < o.tables.length
  · have HF := Lib.hid (show checkO o = false by rw [HR0.out, decide_eq_false (show ¬ o.tables.length ≤ 64 by omega), Bool.and_false]; rfl)
    have e2 : (64 : Int) < (o.tables.length : Int) := by omega
    go_enter Tryz.func70, Tryz.ntmps70
    go_wp2_with fail
    go_ret
    exact ⟨by rw [HF.out]; rfl, (Aft.refl _).alloc _⟩
  have e2 : (o.tables.length : Int) ≤ 64 := by omega
  obtain ⟨g, hg⟩ : ∃ g, rowsB o = g := ⟨_, rfl⟩
  have HR := Lib.hid (show checkO o = (g && o.tables.all (rightT o)) by rw [HR0.out, decide_eq_true (show o.schemas.length ≤ 8 by omega), decide_eq_true (show o.tables.length ≤ 64 by omega), hg]; rfl)
  have C1 := Lib.hid (show ∀ w', Aft w w' → Calls Tryz.prog 150 #[.agg #[.slice As o.schemas.length caps, .slice At o.tables.length capt]] w' fun e w'' => e = .returned (.bool g) ∧ Aft w' w'' from
    fun w' a => (rrows_any o As caps At capt w' (schs_aft a hsch) (tabs_aft a htab)).mono fun e w'' ⟨he, hw⟩ => ⟨he.trans (by rw [← hg]), hw⟩)
  clear hg HR0
  go_enter Tryz.func70, Tryz.ntmps70
  go_wp2_with fail
  refine (C1.out _ ((Aft.refl w).alloc _)).mono ?_
  rintro e w1 ⟨rfl, a1⟩
  obtain ⟨hbox, hfr, hz, hzk, HA⟩ := aft_box a1
  have HAB := Lib.hid a1
  clear a1 C1
  cases g
  · have HF := Lib.hid (show checkO o = false by rw [HR.out]; rfl)
    go_wp2_with fail
    go_ret
    exact ⟨by rw [HF.out]; rfl, HA.out⟩
  have HR2 := Lib.hid (show checkO o = o.tables.all (rightT o) by rw [HR.out]; rfl)
  clear HR
  go_wp2_with fail
  go_loopw [3] (fun i wr => ∃ k : Nat, k ≤ o.tables.length ∧ i = .int .i64 k ∧ Aft (w.alloc (.cells #[.slice As o.schemas.length caps, .slice At o.tables.length capt] 25)) wr ∧ ∀ j, j < k → ∀ (hj : j < o.tables.length), rightT o o.tables[j] = true) (fun i _ => o.tables.length - (intOf i).toNat)
  case atStart => exact ⟨0, Nat.zero_le _, rfl, HAB.out, fun j hj => absurd hj (Nat.not_lt_zero j)⟩
  case round =>
    clear hbox hfr hz hzk HA HAB
    obtain ⟨k2, hk2, rfl, ha, hp⟩ := hrel
    obtain ⟨hbox, hfr, hz, hzk, HA⟩ := aft_box ha
    have HAB := Lib.hid ha
    have HP := Lib.hid hp
    clear ha hp
    by_cases hlt2 : k2 < o.tables.length
    · have htt := tabs_aft HA.out htab
      have hss := schs_aft HA.out hsch
      obtain ⟨b, off, B2, capB2, B3, capB3, rfl, hb, c0, c1, c2, c3, c4, hcols, hrules, s0, s1, s2⟩ := tab_at htt hlt2
      obtain ⟨p, hpp⟩ : ∃ p, o.tables[k2] = p := ⟨_, rfl⟩
      rw [hpp] at c0 c1 c2 c3 c4 hcols hrules s0 s1 s2
      obtain ⟨f, hf⟩ : ∃ f, rightT o p = f := ⟨_, rfl⟩
      have HO := Lib.hid (show rightT o o.tables[k2] = f by rw [hpp]; exact hf)
      have Cr := Lib.hid (show ∀ x : Lat wr, Calls Tryz.prog 151 #[.agg #[.slice As o.schemas.length caps, .slice (some ⟨b, off, none⟩) o.tables.length capt], .agg #[.string p.schema, .string p.name, .string p.owner, .slice B2 p.cols.length capB2, .slice B3 p.rules.length capB3]] (lat wr x) fun e w' => e = .returned (.bool f) ∧ Aft (lat wr x) w' from
        fun x => (rright_any o p As caps _ capt B2 capB2 B3 capB3 (lat wr x) (schs_aft ((Aft.refl wr).lat x) hss) (tabs_aft ((Aft.refl wr).lat x) htt) (cols_aft ((Aft.refl wr).lat x) hcols) (ruls_aft ((Aft.refl wr).lat x) hrules) s1 s2).mono fun e w'' ⟨he, hw⟩ => ⟨he.trans (by rw [← hf]), hw⟩)
      clear hf hpp htt hss hcols hrules
      go_wp2_with fail
      refine wp_region_lat (by kernel_rfl) (by kernel_rfl) ?_
      repeat (go_big_quiet_step ((first | (go_at_call 151; exact Calls.lat_of (Cr.out _)))))
      refine wpQuiet_nil ?_
      intro _ hw'
      obtain ⟨x, hw''⟩ := hw'
      subst hw''
      cases f
      · have HF := Lib.hid (show checkO o = false by rw [HR2.out, all_false _ _ k2 hlt2 HO.out])
        go_wp2_with fail
        go_ret
        exact ⟨by rw [HF.out]; rfl, HA.out.lat x⟩
      · have HN := Lib.hid (ext_lt (p := fun j => ∀ (hj : j < o.tables.length), rightT o o.tables[j] = true) HP.out (fun _ => HO.out))
        go_wp2_with fail
        go_roundw
        case rel => exact ⟨k2 + 1, by omega, by go_num, HAB.out.lat x, HN.out⟩
        case measure => simp [intOf]; omega
    · have HF := Lib.hid (show checkO o = true by rw [HR2.out, all_true _ _ fun j hj => HP.out j (by omega) hj])
      go_wp2_with fail
      go_ret
      exact ⟨by rw [HF.out]; rfl, HA.out⟩
end Go.Proofs.YticjnndhpfdajaaGreat
/- objects.Find and the document's: a table is found just as it is. -/
namespace Go.Proofs.YticjnndhpfdajaaGreat
open Go.RowKit Go.Deep
set_option maxRecDepth 100000
set_option linter.unusedVariables false
def zeroT : Tab := ⟨⟨#[]⟩, ⟨#[]⟩, ⟨#[]⟩, [], []⟩
theorem setT_row {w : World} {b : Nat} {xs : List Value} (h : RowAt w b xs) (hl : xs.length = 5) (v0 v1 v2 v3 v4 : Value) : RowAt (((((w.setCell ⟨b, 0, none⟩ v0).setCell ⟨b, 1, none⟩ v1).setCell ⟨b, 2, none⟩ v2).setCell ⟨b, 3, none⟩ v3).setCell ⟨b, 4, none⟩ v4) b [v0, v1, v2, v3, v4] := by
  match xs, hl with
  | [a, b, c, d, e], _ => exact ((((h.set 0 _ (by simp)).set 1 _ (by simp)).set 2 _ (by simp)).set 3 _ (by simp)).set 4 _ (by simp)
theorem setT_kb (w : World) (b : Nat) (v0 v1 v2 v3 v4 : Value) : Kb (fun g => g = b) w (((((w.setCell ⟨b, 0, none⟩ v0).setCell ⟨b, 1, none⟩ v1).setCell ⟨b, 2, none⟩ v2).setCell ⟨b, 3, none⟩ v3).setCell ⟨b, 4, none⟩ v4) :=
  ((((Kb.set _ _ _ _).trans (Kb.set _ _ _ _)).trans (Kb.set _ _ _ _)).trans (Kb.set _ _ _ _)).trans (Kb.set _ _ _ _)
end Go.Proofs.YticjnndhpfdajaaGreat
/- slices.SortFunc over a row of our own: it holds the same things in order; and what one new thing in a row that rises makes of it. -/
namespace Go.Proofs.YticjnndhpfdajaaGreat
open Go.RowKit Go.Deep Go.Shelf Go.Sort
set_option linter.unusedVariables false
set_option linter.unusedSectionVars false
section
variable {α : Type} [Inhabited α]
theorem flatK_list (f : α → List Value) (k : Nat) (hk : ∀ x, (f x).length = k) (d : Array α) : (flatK f k d).toList = d.toList.flatMap f := by
  have hl : (d.toList.flatMap f).length = d.size * k := by rw [flatMap_len hk]; simp
  refine List.ext_getElem (by simp [flatK, hl]) fun t h1 h2 => ?_
  have ht : t < d.size * k := by rw [← hl]; exact h2
  have k0 : 0 < k := by
    rcases Nat.eq_zero_or_pos k with h | h
    · subst h; simp at ht
    · exact h
  have hd : t / k < d.size := Nat.div_lt_of_lt_mul (by rw [Nat.mul_comm]; exact ht)
  have hm : t % k < k := Nat.mod_lt _ k0
  have e := flat_get (size := k) (d.toList.map f) (by simp [hk]) (t / k) (t % k) (by simpa using hd) hm
  rw [← List.flatMap_def, Nat.div_add_mod' t k] at e
  rw [List.getElem?_eq_getElem h2] at e
  have e2 : (flatK f k d)[t]! = (f d[t / k]!)[t % k]! := get_flatK f k d t ht
  rw [getElem!_pos _ t (by rw [size_flatK]; exact ht), getElem!_pos d _ hd, getElem!_pos _ _ (by rw [hk]; exact hm)] at e2
  rw [Array.getElem_toList, e2]
  simp only [List.getElem_map, Array.getElem_toList] at e
  rw [List.getElem?_eq_getElem (by rw [hk]; exact hm)] at e
  exact (Option.some.inj e).symm
theorem setMany_list (F G : Array Value) (h : F.size = G.size) : setMany F 0 G.toList = G := by
  refine ext_get! (by rw [size_setMany]; exact h) fun t ht => ?_
  rw [size_setMany] at ht
  rw [get_setMany _ _ _ _ ht, if_pos ⟨Nat.zero_le _, by simpa using (by omega : t < G.size)⟩]
  simp
  rw [getElem!_pos G t (by omega)]
  simp [List.getElem!_eq_getElem?_getD, Array.getElem?_eq_getElem (show t < G.size by omega)]
theorem putRow_cells (w : World) (blk : Nat) (F G : Array Value) (h : Holds id w blk 0 F) (hs : F.size = G.size) : putRow id w blk 0 G = w.setCells blk 0 G.toList := by
  have h1 := putRow_self id w blk 0 F h
  have h2 := setCells_putRow w blk 0 G.toList 0 F (by simp [hs])
  rw [h1, setMany_list F G hs] at h2
  exact h2.symm
theorem holdsK_own {w : World} {B k cap blk : Nat} {e : TypeId} (f : α → List Value) (hk : ∀ x, (f x).length = k) (l : List α) (h0 : 0 < l.length) (ho : w.ownsRow B e k (.slice (some ⟨blk, 0, none⟩) l.length cap) l.length (l.flatMap f)) : HoldsK f k w blk 0 l.toArray := by
  obtain ⟨g, cap', hv, hB, hnc, hr⟩ := own_rowAt ho h0
  have : g = blk := by simp only [Value.slice.injEq, Option.some.injEq, Addr.mk.injEq] at hv; exact hv.1.1.symm
  subst this
  intro j hj
  rw [size_flatK] at hj
  have hj' : j < (l.flatMap f).length := by rw [flatMap_len hk]; simpa using hj
  have e1 := flatK_list f k hk l.toArray
  refine ⟨?_, by rw [Nat.zero_add]; exact hr.2.2 j hj'⟩
  rw [Nat.zero_add, hr.2.1 j hj', id, getElem!_pos _ j (by rw [size_flatK]; exact hj), ← Array.getElem_toList, List.getElem?_eq_getElem hj']
  congr 1
  exact (List.getElem_of_eq e1 _).symm
theorem aft_ahead (w : World) (n : Nat) : Aft w (Go.Sort.ahead w n) := ⟨rfl, rfl, rfl, Nat.le_refl _, fun _ _ => rfl⟩
theorem aft_grow (w : World) (os : Array Obj) : Aft w (grow w os) := ⟨rfl, rfl, rfl, by simp, fun k hk => heap_grow_old w os hk⟩
/-- what a sort leaves -/
def SortedP (e : TypeId) (k : Nat) (f : α → List Value) (cf : α → α → Int) (w : World) (B blk cap : Nat) (l : List α) (x : Ending) (w' : World) : Prop :=
  x = .returned (.tuple #[]) ∧ ∃ l' : List α, l'.Perm l ∧ (∀ i j (hi : i < l'.length) (hj : j < l'.length), i < j → ¬ cf l'[j] l'[i] < 0) ∧ w'.ownsRow B e k (.slice (some ⟨blk, 0, none⟩) l.length cap) l.length (l'.flatMap f) ∧ Kb (fun j => j = blk) w w'
theorem sort_own {P : Program} {ρ : Ren} (L : SlLaysF0.n6 P ρ) (k : Nat) (aE : ∀ w, (isAgg (ρ.t 24)).run P w = .ok true w) (zE : ∀ w, (Go.sizeOf (ρ.t 24)).run P w = .ok k w) (f : α → List Value) (hk : ∀ x, (f x).length = k) (h1 : ∀ x, ∀ v ∈ f x, v.oneCell' = true) (cf : α → α → Int) (hO : SWO (ltOf cf)) (g : Nat) (cb : Array Value)
    (e : TypeId) (B blk cap : Nat) (l : List α) (h0 : 0 < l.length) (hsz : l.length ≤ 1000000) (w : World) (ho : w.ownsRow B e k (.slice (some ⟨blk, 0, none⟩) l.length cap) l.length (l.flatMap f)) (eg : ∀ args w, (callFunc g args).run P w = .ok (.enter g args) w)
    (hc : ∀ W x y, Calls P g (#[.agg (f x).toArray, .agg (f y).toArray] ++ cb) W fun e w' => e = .returned (.int .i64 (cf x y)) ∧ ∃ q os', w' = grow (W.drewN q) os') :
    Calls P (ρ.f 6) #[.slice (some ⟨blk, 0, none⟩) l.length cap, .func (.func g) #[] cb] w (SortedP e k f cf w B blk cap l) := by
  have hH := holdsK_own f hk l h0 ho
  have hb : blk < w.heap.size := (ho.lt blk rfl).2
  refine (AnyQ.slices_SortFunc L k aE zE f hk h1 cf hO g cb blk 0 cap l.toArray w eg (fun m os dk _ x y => hc _ x y) hH hb (by simp; omega)).mono ?_
  rintro x w' ⟨rfl, d', n, os, hp, hs, rfl⟩
  have hsize : d'.size = l.length := by have := hp.1; simpa using this
  have hext : ∀ d : Array α, d.size = l.length → (d.extract 0 l.toArray.size).toList = d.toList := fun d hd => by simp [← hd]
  refine ⟨rfl, d'.toList, ?_, fun i j hi hj hij => ?_, ?_, ?_⟩
  · have := hp.2.2
    rw [hext d' hsize, hext l.toArray (by simp)] at this
    simpa using this
  · have hj2 : j < d'.size := by simpa using hj
    have := hs i j (Nat.zero_le _) hij (by simp; omega)
    rw [getElem!_pos d' j hj2, getElem!_pos d' i (by omega)] at this
    simpa [ltOf] using this
  · unfold sortWorldK putRowK
    rw [putRow_cells (Go.Sort.ahead w n) blk (flatK f k l.toArray) (flatK f k d') (holdsK_ahead f k w n blk 0 l.toArray hH) (by simp [hsize])]
    refine own_aft ?_ (aft_grow _ os)
    have h2 := own_setCells (v := .slice (some ⟨blk, 0, none⟩) l.length cap) (g := blk) rfl (flatK f k d').toList 0 (own_aft ho (aft_ahead w n))
    rw [setL_eq _ _ _ (by simp [flatMap_len hk, hsize])] at h2
    rw [flatK_list f k hk] at h2 ⊢
    have e3 : (d'.toList.flatMap f).length = (l.flatMap f).length := by rw [flatMap_len hk, flatMap_len hk]; simp [hsize]
    rw [List.take_zero, List.nil_append, Nat.zero_add, e3, List.drop_length, List.append_nil] at h2
    exact h2
  · unfold sortWorldK putRowK
    rw [putRow_cells (Go.Sort.ahead w n) blk (flatK f k l.toArray) (flatK f k d') (holdsK_ahead f k w n blk 0 l.toArray hH) (by simp [hsize])]
    exact ((Kb.of_aft (aft_ahead w n)).trans (kb_setCells blk _ _ _)).trans (Kb.of_aft (aft_grow _ os))
end
/-- two rows of the same things, one that rises and one that does not fall, are one -/
theorem perm_rises {α : Type} {c : α → α → Int} (tr : ∀ a b d, c a b < 0 → c b d < 0 → c a d < 0) (anti : ∀ a b, c a b = - c b a) {L l' : List α} (hL : ∀ i j (hi : i < L.length) (hj : j < L.length), i < j → c L[i] L[j] < 0) (hp : l'.Perm L) (hs : ∀ i j (hi : i < l'.length) (hj : j < l'.length), i < j → ¬ c l'[j] l'[i] < 0) : l' = L := by
  have hw : L.Pairwise fun a b => c a b < 0 := List.pairwise_iff_getElem.2 fun i j hi hj hij => hL i j hi hj hij
  have hne : ∀ a ∈ L, ∀ b ∈ L, c a b = 0 → a = b := fun a ha b hb e => by
    obtain ⟨i, hi, rfl⟩ := List.getElem_of_mem ha
    obtain ⟨j, hj, rfl⟩ := List.getElem_of_mem hb
    rcases Nat.lt_trichotomy i j with h | h | h
    · have := hL i j hi hj h; omega
    · subst h; rfl
    · have := hL j i hj hi h; have := anti L[j] L[i]; omega
  have hle : l'.Pairwise fun a b => c a b ≤ 0 := List.pairwise_iff_getElem.2 fun i j hi hj hij => by
    have h1 := hs i j hi hj hij
    have h2 := anti l'[i] l'[j]
    omega
  exact List.Perm.eq_of_pairwise (le := fun a b => c a b ≤ 0) (fun a b ha hb h1 h2 => hne a (hp.subset ha) b hb (by have := anti a b; omega)) hle (hw.imp fun h => Int.le_of_lt h) hp
end Go.Proofs.YticjnndhpfdajaaGreat
/- Grants in plain words: the things, their order, which of them hold. -/
namespace Go.Proofs.YticjnndhpfdajaaGreat
open Go.RowKit
set_option linter.unusedVariables false
structure Gra where
  schema : ByteArray
  table : ByteArray
  right : Int
  giver : ByteArray
  to : ByteArray
  opt : Bool
def graC (g : Gra) : List Value := [.string g.schema, .string g.table, .int .i64 g.right, .string g.giver, .string g.to, .bool g.opt]
def SmG (g : Gra) : Prop := Small g.schema.size ∧ Small g.table.size ∧ Small g.giver.size ∧ Small g.to.size ∧ (Lit.int .i64 g.right).wf = true
def GraR (_ : World) (cs : List Value) (g : Gra) : Prop := cs = graC g ∧ SmG g
structure Cat where
  epoch : Int
  version : Int
  objs : Objs
  rols : Rls
  grants : List Gra
def cmpI (a b : Int) : Int := if a < b then -1 else if b < a then 1 else 0
def cmpG (a b : Gra) : Int := or2 (cmpS a.schema b.schema) (or2 (cmpS a.table b.table) (or2 (cmpI a.right b.right) (or2 (cmpS a.giver b.giver) (cmpS a.to b.to))))
def fiveE (a b : Gra) : Bool := eqS a.schema b.schema && (eqS a.table b.table && ((a.right == b.right) && (eqS a.giver b.giver && eqS a.to b.to)))
def fkey (g : Gra) : ByteArray × ByteArray × Int × ByteArray × ByteArray := (g.schema, g.table, g.right, g.giver, g.to)
/-- an order of things by what they are asked -/
structure Ord7 {α : Type} (c : α → α → Int) : Prop where
  anti : ∀ a b, c a b = - c b a
  le : ∀ a b d, c a b ≤ 0 → c b d ≤ 0 → c a d ≤ 0 ∧ (c a d = 0 → c a b = 0 ∧ c b d = 0)
theorem or2_zero (x y : Int) : or2 x y = 0 ↔ x = 0 ∧ y = 0 := by
  unfold or2
  by_cases h : x = 0
  · subst h; simp
  · have : (x == 0) = false := by simpa using h
    rw [this]; simp [h]
theorem or2_le (x y : Int) : or2 x y ≤ 0 ↔ x < 0 ∨ (x = 0 ∧ y ≤ 0) := by
  unfold or2
  by_cases h : x = 0
  · subst h; simp
  · have : (x == 0) = false := by simpa using h
    rw [this]
    simp only [Bool.false_eq_true, if_false]
    omega
theorem or2_neg (x y : Int) : or2 (-x) (-y) = - or2 x y := by
  unfold or2
  by_cases h : x = 0
  · subst h; simp
  · have h1 : (x == 0) = false := by simpa using h
    have h2 : (-x == 0) = false := by simpa using h
    rw [h1, h2]; simp
theorem Ord7.or2 {α : Type} {c d : α → α → Int} (hc : Ord7 c) (hd : Ord7 d) : Ord7 fun a b => or2 (c a b) (d a b) where
  anti a b := by
    show Go.Proofs.YticjnndhpfdajaaGreat.or2 (c a b) (d a b) = - Go.Proofs.YticjnndhpfdajaaGreat.or2 (c b a) (d b a)
    rw [hc.anti a b, hd.anti a b, or2_neg]
  le x y z h1 h2 := by
    have h1 := (or2_le _ _).1 h1
    have h2 := (or2_le _ _).1 h2
    have k := hc.le x y z (by omega) (by omega)
    rw [or2_le, or2_zero, or2_zero, or2_zero]
    by_cases e : c x z = 0
    · obtain ⟨e1, e2⟩ := k.2 e
      have m := hd.le x y z (by omega) (by omega)
      exact ⟨.inr ⟨e, m.1⟩, fun h => ⟨⟨e1, (m.2 h.2).1⟩, ⟨e2, (m.2 h.2).2⟩⟩⟩
    · exact ⟨.inl (by omega), fun h => absurd h.1 e⟩
theorem Ord7.on {α β : Type} {c : α → α → Int} (h : Ord7 c) (f : β → α) : Ord7 fun a b => c (f a) (f b) := ⟨fun a b => h.anti _ _, fun a b d => h.le _ _ _⟩
theorem Ord7.of8 {α : Type} {c : α → α → Int} (h : Ord8 c) : Ord7 c where
  anti := h.anti
  le a b d h1 h2 := by
    by_cases e1 : c a b = 0
    · have := h.eq0 _ _ e1; subst this
      exact ⟨h2, fun e => ⟨h.refl _, e⟩⟩
    · by_cases e2 : c b d = 0
      · have := h.eq0 _ _ e2; subst this
        exact ⟨h1, fun e => ⟨e, h.refl _⟩⟩
      · have := h.tr a b d (by omega) (by omega)
        exact ⟨by omega, fun e => by omega⟩
theorem Ord7.lt {α : Type} {c : α → α → Int} (h : Ord7 c) (a b d : α) (h1 : c a b < 0) (h2 : c b d < 0) : c a d < 0 := by
  have k := h.le a b d (by omega) (by omega)
  by_cases e : c a d = 0
  · have := (k.2 e).1; omega
  · omega
theorem ordI : Ord7 cmpI := ⟨fun a b => by unfold cmpI; split <;> split <;> omega, fun a b d => by unfold cmpI; split <;> split <;> split <;> (try split) <;> (try split) <;> omega⟩
theorem ordG : Ord7 cmpG := ((Ord7.of8 ordS).on Gra.schema).or2 (((Ord7.of8 ordS).on Gra.table).or2 ((ordI.on Gra.right).or2 (((Ord7.of8 ordS).on Gra.giver).or2 ((Ord7.of8 ordS).on Gra.to))))
theorem cmpI_zero (a b : Int) : cmpI a b = 0 ↔ (a == b) = true := by
  unfold cmpI
  rw [beq_iff_eq]
  split
  · constructor <;> intro h <;> omega
  · split <;> constructor <;> intro h <;> omega
theorem cmpG_zero (a b : Gra) : cmpG a b = 0 ↔ fiveE a b = true := by
  unfold cmpG fiveE
  simp only [or2_zero, Bool.and_eq_true, cmpS_eq, cmpI_zero]
theorem fiveE_iff (a b : Gra) : fiveE a b = true ↔ fkey a = fkey b := by
  unfold fiveE fkey
  simp only [Bool.and_eq_true, eqS_iff, beq_iff_eq, Prod.mk.injEq]
theorem fiveE_comm (a b : Gra) : fiveE a b = fiveE b a := by
  rw [Bool.eq_iff_iff, fiveE_iff, fiveE_iff]; exact eq_comm
def inG (l : List Gra) (g : Gra) : Bool := l.any fun x => fiveE x g
theorem inG_iff (l : List Gra) (g : Gra) : inG l g = true ↔ fkey g ∈ l.map fkey := by
  unfold inG
  rw [List.any_eq_true, List.mem_map]
  exact ⟨fun ⟨x, hx, h⟩ => ⟨x, hx, (fiveE_iff _ _).1 h⟩, fun ⟨x, hx, h⟩ => ⟨x, hx, (fiveE_iff _ _).2 h⟩⟩
def bRoot : ByteArray := ⟨#[114, 111, 111, 116]⟩
def tabF (o : Objs) (s n : ByteArray) : Tab := if tabAt o.tables s n < 0 then zeroT else (o.tables[(tabAt o.tables s n).toNat]?).getD zeroT
def overB (o : Objs) (s : ByteArray) : ByteArray := if schAt o.schemas s < 0 then ⟨#[]⟩ else ((o.schemas[(schAt o.schemas s).toNat]?).map Sch.owner).getD ⟨#[]⟩
def bossB (o : Objs) (is : List ByteArray) (t : Tab) : Bool := is.any fun r => eqS r bRoot || eqS r t.owner || eqS r (overB o t.schema)
def givesB (l : List Gra) (is : List ByteArray) (s n : ByteArray) (r : Int) (option : Bool) : Bool := l.any fun g => eqS g.schema s && eqS g.table n && (g.right == r) && (g.opt || !option) && inB is g.to
def kindB (r : Int) : Bool := r == 1 || r == 2
def graOk (c : Cat) (g : Gra) : Bool := decide (0 ≤ tabAt c.objs.tables g.schema g.table) && kindB g.right && !eqS g.giver g.to && inB c.rols.names g.giver && inB c.rols.names g.to
def ownersB (c : Cat) : Bool := c.objs.schemas.all (fun s => inB c.rols.names s.owner) && c.objs.tables.all (fun t => inB c.rols.names t.owner)
noncomputable def standsB (c : Cat) : Bool := decide (c.grants.length ≤ 64) && checkO c.objs && rightR c.rols && inB c.rols.names bRoot && ownersB c && (c.grants.all (graOk c) && risesB cmpG c.grants)
noncomputable def justB (c : Cat) (l : List Gra) (g : Gra) : Bool := bossB c.objs (allL c.rols g.giver) (tabF c.objs g.schema g.table) || givesB l (allL c.rols g.giver) g.schema g.table g.right true
/-- which grants hold: the fewest -/
inductive Held (c : Cat) : Gra → Prop
  | mk (g : Gra) (l : List Gra) : g ∈ c.grants → (∀ x ∈ l, Held c x) → justB c l g = true → Held c g
open Classical in
noncomputable def heldB (c : Cat) (g : Gra) : Bool := decide (Held c g)
open Classical in
theorem heldB_iff {c : Cat} {g : Gra} : heldB c g = true ↔ Held c g := by unfold heldB; exact decide_eq_true_iff
noncomputable def holdL (c : Cat) : List Gra := if standsB c then c.grants.filter (heldB c) else []
noncomputable def wholeB (c : Cat) : Bool := standsB c && ((holdL c).length == c.grants.length)
theorem givesB_mono {l l' : List Gra} (h : ∀ x ∈ l, x ∈ l') {is : List ByteArray} {s n : ByteArray} {r : Int} {o : Bool} (hg : givesB l is s n r o = true) : givesB l' is s n r o = true := by
  unfold givesB at hg ⊢
  rw [List.any_eq_true] at hg ⊢
  obtain ⟨x, hx, e⟩ := hg
  exact ⟨x, h x hx, e⟩
theorem justB_mono {c : Cat} {l l' : List Gra} (h : ∀ x ∈ l, x ∈ l') {g : Gra} (hg : justB c l g = true) : justB c l' g = true := by
  unfold justB at hg ⊢
  rw [Bool.or_eq_true] at hg ⊢
  exact hg.imp id (givesB_mono h)
theorem Held.mem {c : Cat} {g : Gra} (h : Held c g) : g ∈ c.grants := by cases h; assumption
/-- what is found so far -/
structure HeldL (c : Cat) (l : List Gra) : Prop where
  sub : ∀ x ∈ l, Held c x
  nd : (l.map fkey).Nodup
theorem HeldL.nil (c : Cat) : HeldL c [] := ⟨fun x hx => by simp at hx, by simp⟩
theorem HeldL.add {c : Cat} {l : List Gra} (h : HeldL c l) {g : Gra} (hg : g ∈ c.grants) (hn : inG l g = false) (hj : justB c l g = true) : HeldL c (l ++ [g]) := by
  refine ⟨fun x hx => ?_, ?_⟩
  · rcases List.mem_append.1 hx with hx | hx
    · exact h.sub x hx
    · rw [List.mem_singleton] at hx; subst hx
      exact .mk x l hg h.sub hj
  · rw [List.map_append, List.nodup_append]
    refine ⟨h.nd, by simp, fun a ha b hb e => ?_⟩
    simp at hb; subst hb; subst e
    have := (inG_iff l g).2 ha
    rw [hn] at this; cases this
theorem HeldL.len {c : Cat} {l : List Gra} (h : HeldL c l) : l.length ≤ c.grants.length := by
  have := nodup_le (l := l.map fkey) (l' := c.grants.map fkey) h.nd fun x hx => by
    obtain ⟨y, hy, rfl⟩ := List.mem_map.1 hx
    exact List.mem_map.2 ⟨y, (h.sub y hy).mem, rfl⟩
  simpa using this
theorem rises_keys {l : List Gra} (h : risesB cmpG l = true) : ∀ x ∈ l, ∀ y ∈ l, fkey x = fkey y → x = y := fun x hx y hy e => by
  obtain ⟨i, hi, rfl⟩ := List.getElem_of_mem hx
  obtain ⟨j, hj, rfl⟩ := List.getElem_of_mem hy
  have e0 : cmpG l[i] l[j] = 0 := (cmpG_zero _ _).2 ((fiveE_iff _ _).2 e)
  rcases Nat.lt_trichotomy i j with h1 | h1 | h1
  · have := rises_lt ordG.lt h i j hi hj h1; omega
  · subst h1; rfl
  · have := rises_lt ordG.lt h j i hj hi h1
    have := ordG.anti l[i] l[j]; omega
/-- closed: what is found is what holds -/
theorem HeldL.all {c : Cat} {l : List Gra} (h : HeldL c l) (hr : risesB cmpG c.grants = true) (hc : ∀ g ∈ c.grants, inG l g = false → justB c l g = false) (g : Gra) (hg : g ∈ c.grants) : inG l g = true ↔ Held c g := by
  have mem : ∀ g ∈ c.grants, inG l g = true → g ∈ l := fun g hg hi => by
    obtain ⟨y, hy, e⟩ := List.mem_map.1 ((inG_iff _ _).1 hi)
    have := rises_keys hr _ ((h.sub y hy).mem) _ hg e
    rw [← this]; exact hy
  constructor
  · exact fun hi => h.sub g (mem g hg hi)
  · intro hh
    induction hh with
    | mk g m hg _ hj ih =>
      by_cases hi : inG l g = true
      · exact hi
      · rw [Bool.not_eq_true] at hi
        have h1 := hc g hg hi
        have h2 := justB_mono (l' := l) (fun x hx => mem x (by
          have := ih x hx
          rename_i hall
          exact (hall x hx).mem) (ih x hx (by rename_i hall; exact (hall x hx).mem))) hj
        rw [h1] at h2; cases h2
theorem perm_same {α : Type} : ∀ {l L : List α}, l.Nodup → L.Nodup → (∀ x, x ∈ l ↔ x ∈ L) → l.Perm L
  | [], L, _, _, h => by
    cases L with
    | nil => exact .nil
    | cons a L => have := (h a).2 (by simp); simp at this
  | a :: l, L, hl, hL, h => by
    obtain ⟨A, B, rfl⟩ := List.append_of_mem ((h a).1 (by simp))
    have hl' := List.nodup_cons.1 hl
    have hp : (A ++ a :: B).Perm (a :: (A ++ B)) := List.perm_middle
    have hL' := List.nodup_cons.1 ((hp.nodup_iff).1 hL)
    refine (List.Perm.cons a (perm_same hl'.2 hL'.2 fun x => ?_)).trans hp.symm
    have hx := h x
    rw [hp.mem_iff, List.mem_cons, List.mem_cons] at hx
    constructor
    · intro hm
      rcases hx.1 (.inr hm) with e | e
      · subst e; exact absurd hm hl'.1
      · exact e
    · intro hm
      rcases hx.2 (.inr hm) with e | e
      · subst e; exact absurd hm hL'.1
      · exact e
theorem nodup_of_keys {l : List Gra} (h : (l.map fkey).Nodup) : l.Nodup := by
  induction l with
  | nil => simp
  | cons a l ih =>
    rw [List.map_cons, List.nodup_cons] at h
    exact List.nodup_cons.2 ⟨fun hm => h.1 (List.mem_map.2 ⟨a, hm, rfl⟩), ih h.2⟩
theorem rises_nodupG {l : List Gra} (h : risesB cmpG l = true) : l.Nodup := by
  rw [List.nodup_iff_pairwise_ne, List.pairwise_iff_getElem]
  intro i j hi hj hij e
  have := rises_lt ordG.lt h i j hi hj hij
  rw [e] at this
  have := ordG.anti l[j] l[j]; omega
/-- what is found, in order, are the grants that hold -/
theorem HeldL.sorted {c : Cat} {l l' : List Gra} (h : HeldL c l) (hr : risesB cmpG c.grants = true) (hc : ∀ g ∈ c.grants, inG l g = false → justB c l g = false) (hp : l'.Perm l) (hs : ∀ i j (hi : i < l'.length) (hj : j < l'.length), i < j → ¬ cmpG l'[j] l'[i] < 0) : l' = c.grants.filter (heldB c) := by
  have hf : ∀ i j (hi : i < (c.grants.filter (heldB c)).length) (hj : j < (c.grants.filter (heldB c)).length), i < j → cmpG (c.grants.filter (heldB c))[i] (c.grants.filter (heldB c))[j] < 0 := by
    have : c.grants.Pairwise fun a b => cmpG a b < 0 := List.pairwise_iff_getElem.2 fun i j hi hj hij => rises_lt ordG.lt hr i j hi hj hij
    exact fun i j hi hj hij => List.pairwise_iff_getElem.1 (this.filter _) i j hi hj hij
  refine perm_rises ordG.lt ordG.anti hf (hp.trans ?_) hs
  refine perm_same (nodup_of_keys h.nd) ((rises_nodupG hr).filter _) fun x => ?_
  rw [List.mem_filter]
  rw [heldB_iff]
  constructor
  · exact fun hx => ⟨(h.sub x hx).mem, h.sub x hx⟩
  · rintro ⟨hx, hh⟩
    obtain ⟨y, hy, e⟩ := List.mem_map.1 ((inG_iff _ _).1 ((h.all hr hc x hx).2 hh))
    rw [← rises_keys hr _ ((h.sub y hy).mem) _ hx e]; exact hy
end Go.Proofs.YticjnndhpfdajaaGreat
