/- Contracts of the program, part 20. -/
import Derived.Test.YticjnndhpfdajaaGreatPart19
import Derived.Test.YticjnndhpfdajaaGreatPart18
/- The document's right: a table, objects. -/
namespace Go.Proofs.YticjnndhpfdajaaGreat
open Go.RowKit
set_option maxRecDepth 100000
set_option linter.unusedVariables false
theorem rightT_rule (o : Objs) (t : Tab) (k : Nat) (hk : k < t.rules.length) (h : ruleOk o.tables t.cols t.rules[k] = false) : rightT o t = false := by
  unfold rightT; rw [all_false _ _ k hk h]; simp
theorem rightT_rise (o : Objs) (t : Tab) (k : Nat) (hk : k < t.rules.length) (h0 : 0 < k) (h : ltS (t.rules[k - 1]'(by omega)).name t.rules[k].name = false) : rightT o t = false := by
  have h1 : k - 1 + 1 < t.rules.length := by omega
  have e : (t.rules[k - 1 + 1]'h1) = t.rules[k] := by congr 1; omega
  unfold rightT
  rw [risesB_false (fun a b : Rul => cmpS a.name b.name) _ (k - 1) h1]
  · simp
  · rw [e]
    rw [← cmpS_lt] at h
    have := of_decide_eq_false h
    omega
set_option maxHeartbeats 8000000 in
theorem rright_any (o : Objs) (t : Tab) (As : Option Addr) (caps : Nat) (At : Option Addr) (capt : Nat) (A : Option Addr) (cap : Nat) (A2 : Option Addr) (cap2 : Nat) (w : World) (hsch : SlAt w 2 SchR As caps o.schemas) (htab : SlAt w 5 TabR At capt o.tables)
    (h : SlAt w 3 ColR A cap t.cols) (h2 : SlAt w 8 RulR A2 cap2 t.rules) (hn : Small t.name.size) (ho : Small t.owner.size) :
    Calls Tryz.prog 151 #[.agg #[.slice As o.schemas.length caps, .slice At o.tables.length capt], .agg #[.string t.schema, .string t.name, .string t.owner, .slice A t.cols.length cap, .slice A2 t.rules.length cap2]] w
      fun e w' => e = .returned (.bool (rightT o t)) ∧ Aft w w' := by
  have hlen2 := h2.len
  obtain ⟨i, hi⟩ : ∃ i, schAt o.schemas t.schema = i := ⟨_, rfl⟩
  obtain ⟨m, hm⟩ : ∃ m, colsOk t.cols = m := ⟨_, rfl⟩
  have HR0 := Lib.hid (show rightT o t = (nameB t.name && nameB t.owner && m && decide (t.rules.length ≤ 8) && decide (0 ≤ i) && (t.rules.all (ruleOk o.tables t.cols) && risesB (fun a b => cmpS a.name b.name) t.rules)) by unfold rightT; rw [hi, hm])
  have Cs := Lib.hid (show ∀ w', Aft w w' → Calls Tryz.prog 206 #[.agg #[.slice As o.schemas.length caps, .slice At o.tables.length capt], .string t.schema] w' fun e w'' => e = .returned (.int .i64 i) ∧ Aft w' w'' from
    fun w' a => (rsch_any As caps o.schemas _ t.schema w' (schs_aft a hsch)).mono fun e w'' ⟨he, hw⟩ => ⟨he.trans (by rw [← hi]), hw⟩)
  have Cm := Lib.hid (show ∀ w', Aft w w' → Calls Tryz.prog 207 #[.slice A t.cols.length cap] w' fun e w'' => e = .returned (.bool m) ∧ Aft w' w'' from
    fun w' a => (rcols_any A cap t.cols w' (cols_aft a h)).mono fun e w'' ⟨he, hw⟩ => ⟨he.trans (by rw [← hm]), hw⟩)
  clear hi hm
  go_enter Tryz.func151, Tryz.ntmps151
  go_wp2_with fail
  refine (Cs.out _ (((Aft.refl w).alloc _).alloc _)).mono ?_
  rintro e w1 ⟨rfl, a1⟩
  obtain ⟨hbo, hbt, hz, HA⟩ := aft_box2 a1
  have HAB := Lib.hid a1
  clear a1 Cs
  by_cases hi0 : i < 0
  · have HF := Lib.hid (show rightT o t = false by rw [HR0.out, decide_eq_false (show ¬ 0 ≤ i by omega), Bool.and_false]; rfl)
    go_wp2_with fail
    go_ret
    exact ⟨by rw [HF.out]; rfl, HA.out⟩
  have hi1 : 0 ≤ i := by omega
  cases hN : nameB t.name
  · have HF := Lib.hid (show rightT o t = false by rw [HR0.out, hN]; rfl)
    go_wp2_with (go_at_call 153; refine (rname_any _ _ (by first | exact hn.max | exact ho.max)).mono ?_; rintro e w' ⟨rfl, rfl⟩)
    go_ret
    exact ⟨by rw [HF.out]; rfl, HA.out⟩
  cases hO : nameB t.owner
  · have HF := Lib.hid (show rightT o t = false by rw [HR0.out, hN, hO]; rfl)
    go_wp2_with (go_at_call 153; refine (rname_any _ _ (by first | exact hn.max | exact ho.max)).mono ?_; rintro e w' ⟨rfl, rfl⟩)
    go_ret
    exact ⟨by rw [HF.out]; rfl, HA.out⟩
  have HR1 := Lib.hid (show rightT o t = (m && decide (t.rules.length ≤ 8) && (t.rules.all (ruleOk o.tables t.cols) && risesB (fun a b => cmpS a.name b.name) t.rules)) by rw [HR0.out, hN, hO, decide_eq_true hi1]; simp)
  clear HR0
  go_wp2_with (go_at_call 153; refine (rname_any _ _ (by first | exact hn.max | exact ho.max)).mono ?_; rintro e w' ⟨rfl, rfl⟩)
  refine (Cm.out _ HA.out).mono ?_
  rintro e w2 ⟨rfl, a2⟩
  have HAB2 := Lib.hid (HAB.out.trans a2)
  clear a2 Cm HA HAB hbo hbt hz
  obtain ⟨hbo, hbt, hz, HA⟩ := aft_box2 HAB2.out
  cases m
  · have HF := Lib.hid (show rightT o t = false by rw [HR1.out]; rfl)
    go_wp2_with fail
    go_ret
    exact ⟨by rw [HF.out]; rfl, HA.out⟩
  by_cases h8 : 8 < t.rules.length
  · have HF := Lib.hid (show rightT o t = false by rw [HR1.out, decide_eq_false (show ¬ t.rules.length ≤ 8 by omega)]; rfl)
    have h8' : (8 : Int) < (t.rules.length : Int) := by omega
    go_wp2_with fail
    go_ret
    exact ⟨by rw [HF.out]; rfl, HA.out⟩
  have h8' : (t.rules.length : Int) ≤ 8 := by omega
  have d8 : decide ((8 : Int) < (t.rules.length : Int)) = false := decide_eq_false (by omega)
  have HR2 := Lib.hid (show rightT o t = (t.rules.all (ruleOk o.tables t.cols) && risesB (fun a b => cmpS a.name b.name) t.rules) by rw [HR1.out, decide_eq_true (show t.rules.length ≤ 8 by omega)]; rfl)
  clear HR1
  go_wp2_with fail
  go_loopw [5] (fun i wr => ∃ k : Nat, k ≤ t.rules.length ∧ i = .int .i64 k ∧ Aft ((w.alloc (.cells #[.slice As o.schemas.length caps, .slice At o.tables.length capt] 25)).alloc (.cells #[.string t.schema, .string t.name, .string t.owner, .slice A t.cols.length cap, .slice A2 t.rules.length cap2] 50)) wr ∧ ∀ j, j < k → ∀ (hj : j < t.rules.length), ruleOk o.tables t.cols t.rules[j] = true ∧ (0 < j → ltS (t.rules[j - 1]'(by omega)).name t.rules[j].name = true)) (fun i _ => t.rules.length - (intOf i).toNat)
  case atStart => exact ⟨0, Nat.zero_le _, rfl, HAB2.out, fun j hj => absurd hj (Nat.not_lt_zero j)⟩
  case round =>
    clear hbo hbt hz HA HAB2
    obtain ⟨k, hk, rfl, ha, hp⟩ := hrel
    obtain ⟨hbo, hbt, hz, HA⟩ := aft_box2 ha
    have HAB := Lib.hid ha
    have HP := Lib.hid hp; clear hp ha
    by_cases hlt : k < t.rules.length
    · have hr := ruls_aft HA.out h2
      obtain ⟨b, off, D2, capD2, rfl, hb, c0, c1, c2, c3, c4, c5, c6, c7, hcs, s0, s1, s2, s3⟩ := rul_at hr hlt
      obtain ⟨p, hpp⟩ : ∃ p, t.rules[k] = p := ⟨_, rfl⟩
      rw [hpp] at c0 c1 c2 c3 c4 c5 c6 c7 hcs s0 s1 s2 s3
      have HPP := Lib.hid hpp
      obtain ⟨f, hf⟩ : ∃ f, fitsOk t.cols p = f := ⟨_, rfl⟩
      obtain ⟨z, hz'⟩ : ∃ z, keyE o.tables t.cols p = z := ⟨_, rfl⟩
      have HO := Lib.hid (show ruleOk o.tables t.cols t.rules[k] = (f && !(p.kind == 4 && z != 0)) by rw [hpp]; unfold ruleOk; rw [hf, hz'])
      obtain ⟨w3, hw3⟩ : ∃ w3, w3 = wr.alloc (.cells #[.string p.name, .int .i64 p.kind, .slice D2 p.cols.length capD2, .int .i64 p.low, .int .i64 p.high, .string p.schema, .string p.table, .string p.key] 29) := ⟨_, rfl⟩
      have a3 : Aft wr w3 := by rw [hw3]; exact (Aft.refl wr).alloc _
      have hbr : ∀ o', w3.cell? ⟨wr.heap.size, o', none⟩ = (#[.string p.name, .int .i64 p.kind, .slice D2 p.cols.length capD2, .int .i64 p.low, .int .i64 p.high, .string p.schema, .string p.table, .string p.key] : Array Value)[o']? := by intro o'; rw [hw3]; simp
      have hzr : wr.heap.size < w3.heap.size := by rw [hw3]; simp
      have hbo3 : ∀ o', w3.cell? ⟨w.heap.size, o', none⟩ = _ := fun o' => (Below.cell a3 (p := ⟨w.heap.size, o', none⟩) hz.1).trans (hbo o')
      have hbt3 : ∀ o', w3.cell? ⟨w.heap.size + 1, o', none⟩ = _ := fun o' => (Below.cell a3 (p := ⟨w.heap.size + 1, o', none⟩) hz.2).trans (hbt o')
      have hz3 : w.heap.size < w3.heap.size ∧ w.heap.size + 1 < w3.heap.size := ⟨Nat.lt_of_lt_of_le hz.1 a3.size, Nat.lt_of_lt_of_le hz.2 a3.size⟩
      have Cf := Lib.hid (show ∀ x : Lat w3, Calls Tryz.prog 73 #[.slice A t.cols.length cap, .agg #[.string p.name, .int .i64 p.kind, .slice D2 p.cols.length capD2, .int .i64 p.low, .int .i64 p.high, .string p.schema, .string p.table, .string p.key]] (lat w3 x) fun e w'' => e = .returned (.bool f) ∧ Aft (lat w3 x) w'' from
        fun x => (rfits_any A cap t.cols p D2 capD2 (lat w3 x) (cols_aft ((HA.out.trans a3).lat x) h) (strs_aft (a3.lat x) hcs) s0 s1 s2 s3).mono fun e w'' ⟨he, hw⟩ => ⟨he.trans (by rw [← hf]), hw⟩)
      have Ck := Lib.hid (show ∀ w', Aft w3 w' → Calls Tryz.prog 75 #[.agg #[.slice As o.schemas.length caps, .slice At o.tables.length capt], .slice A t.cols.length cap, .agg #[.string p.name, .int .i64 p.kind, .slice D2 p.cols.length capD2, .int .i64 p.low, .int .i64 p.high, .string p.schema, .string p.table, .string p.key]] w' fun e w'' => e = .returned (.int .i64 z) ∧ Aft w' w'' from
        fun w' a => (rkey_any _ At capt o.tables A cap t.cols p D2 capD2 w' (tabs_aft (HA.out.trans (a3.trans a)) htab) (cols_aft (HA.out.trans (a3.trans a)) h) (strs_aft (a3.trans a) hcs)).mono fun e w'' ⟨he, hw⟩ => ⟨he.trans (by rw [← hz']), hw⟩)
      have HA3 := Lib.hid a3
      clear hf hz' hcs
      go_wp2_with fail
      rw [← hw3]
      clear hw3 c0 c1 c2 c3 c4 c5 c6 c7
      by_cases h0 : 0 < k
      · have hk1 : k - 1 < t.rules.length := by omega
        obtain ⟨b', off', D2', capD2', hA', hb', e0, _, _, _, _, _, _, _, _⟩ := rul_at (ruls_aft a3 hr) hk1
        simp only [Option.some.injEq, Addr.mk.injEq, and_true] at hA'
        obtain ⟨rfl, rfl⟩ := hA'
        obtain ⟨p', hpp'⟩ : ∃ p', (t.rules[k - 1]'(by omega)) = p' := ⟨_, rfl⟩
        rw [hpp'] at e0
        have HPP' := Lib.hid hpp'
        have w1' : IntKind.i64.wrap ((k : Int) - 1) = (k : Int) - 1 := IntWalk.i64_in _ (by omega)
        have w2' : (0 : Int) ≤ (k : Int) - 1 := by omega
        have w3' : ((k : Int) - 1).toNat = k - 1 := by omega
        have w4' : (k : Int) - 1 < (t.rules.length : Int) := by omega
        have w5' : decide ((0 : Int) < (k : Int)) = true := decide_eq_true (by omega)
        clear hpp hpp' hr a3
        cases hL : ltS p'.name p.name
        · have hL' : Op.bytesLess p'.name.toList p.name.toList = false := hL
          have HF := Lib.hid (rightT_rise o t k hlt h0 (by rw [HPP.out, HPP'.out]; exact hL))
          clear hL
          refine wp_region_lat (by kernel_rfl) (by kernel_rfl) ?_
          repeat (go_big_quiet_step ((first | (go_at_call 73; exact Calls.lat_of (Cf.out _)))))
          refine wpQuiet_nil ?_
          intro _ hw'
          obtain ⟨x, hw''⟩ := hw'
          subst hw''
          go_wp2_with fail
          go_ret
          exact ⟨by rw [HF.out]; rfl, (HA.out.trans HA3.out).lat x⟩
        have hL' : Op.bytesLess p'.name.toList p.name.toList = true := hL
        have HLT := Lib.hid (show 0 < k → ltS (t.rules[k - 1]'(by omega)).name t.rules[k].name = true by intro _; rw [HPP.out, HPP'.out]; exact hL)
        clear hL
        cases f
        · have HF := Lib.hid (rightT_rule o t k hlt (by rw [HO.out]; rfl))
          refine wp_region_lat (by kernel_rfl) (by kernel_rfl) ?_
          repeat (go_big_quiet_step ((first | (go_at_call 73; exact Calls.lat_of (Cf.out _)))))
          refine wpQuiet_nil ?_
          intro _ hw'
          obtain ⟨x, hw''⟩ := hw'
          subst hw''
          go_wp2_with fail
          go_ret
          exact ⟨by rw [HF.out]; rfl, (HA.out.trans HA3.out).lat x⟩
        refine wp_region_lat (by kernel_rfl) (by kernel_rfl) ?_
        repeat (go_big_quiet_step ((first | (go_at_call 73; exact Calls.lat_of (Cf.out _)))))
        refine wpQuiet_nil ?_
        intro _ hw'
        obtain ⟨x, hw''⟩ := hw'
        subst hw''
        cases h4 : (p.kind == 4)
        · have HN := Lib.hid (ext_lt (p := fun j => ∀ (hj : j < t.rules.length), ruleOk o.tables t.cols t.rules[j] = true ∧ (0 < j → ltS (t.rules[j - 1]'(by omega)).name t.rules[j].name = true)) HP.out (fun _ => ⟨by rw [HO.out, h4]; rfl, HLT.out⟩))
          go_wp2_with fail
          go_roundw
          case rel => exact ⟨k + 1, by omega, by go_num, (HAB.out.trans HA3.out).lat x, HN.out⟩
          case measure => simp [intOf]; omega
        · go_wp2_with fail
          refine (Ck.out _ ((Aft.refl w3).lat x)).mono ?_
          rintro e w4 ⟨rfl, a4⟩
          have HA4 := Lib.hid ((HA3.out.lat x).trans a4)
          clear a4 Ck hbo3 hbt3 hbr
          cases z0 : (z != 0)
          · have HN := Lib.hid (ext_lt (p := fun j => ∀ (hj : j < t.rules.length), ruleOk o.tables t.cols t.rules[j] = true ∧ (0 < j → ltS (t.rules[j - 1]'(by omega)).name t.rules[j].name = true)) HP.out (fun _ => ⟨by rw [HO.out, h4, z0]; rfl, HLT.out⟩))
            go_wp2_with fail
            go_roundw
            case rel => exact ⟨k + 1, by omega, by go_num, HAB.out.trans HA4.out, HN.out⟩
            case measure => simp [intOf]; omega
          · have HF := Lib.hid (rightT_rule o t k hlt (by rw [HO.out, h4, z0]; rfl))
            go_wp2_with fail
            go_ret
            exact ⟨by rw [HF.out]; rfl, HA.out.trans HA4.out⟩
      · have w5' : decide ((0 : Int) < (k : Int)) = false := decide_eq_false (by omega)
        have w6' : (k : Int) ≤ 0 := by omega
        have HLT := Lib.hid (show 0 < k → ltS (t.rules[k - 1]'(by omega)).name t.rules[k].name = true from fun h => absurd h h0)
        clear hpp hr a3
        cases f
        · have HF := Lib.hid (rightT_rule o t k hlt (by rw [HO.out]; rfl))
          refine wp_region_lat (by kernel_rfl) (by kernel_rfl) ?_
          repeat (go_big_quiet_step ((first | (go_at_call 73; exact Calls.lat_of (Cf.out _)))))
          refine wpQuiet_nil ?_
          intro _ hw'
          obtain ⟨x, hw''⟩ := hw'
          subst hw''
          go_wp2_with fail
          go_ret
          exact ⟨by rw [HF.out]; rfl, (HA.out.trans HA3.out).lat x⟩
        refine wp_region_lat (by kernel_rfl) (by kernel_rfl) ?_
        repeat (go_big_quiet_step ((first | (go_at_call 73; exact Calls.lat_of (Cf.out _)))))
        refine wpQuiet_nil ?_
        intro _ hw'
        obtain ⟨x, hw''⟩ := hw'
        subst hw''
        cases h4 : (p.kind == 4)
        · have HN := Lib.hid (ext_lt (p := fun j => ∀ (hj : j < t.rules.length), ruleOk o.tables t.cols t.rules[j] = true ∧ (0 < j → ltS (t.rules[j - 1]'(by omega)).name t.rules[j].name = true)) HP.out (fun _ => ⟨by rw [HO.out, h4]; rfl, HLT.out⟩))
          go_wp2_with fail
          go_roundw
          case rel => exact ⟨k + 1, by omega, by go_num, (HAB.out.trans HA3.out).lat x, HN.out⟩
          case measure => simp [intOf]; omega
        · go_wp2_with fail
          refine (Ck.out _ ((Aft.refl w3).lat x)).mono ?_
          rintro e w4 ⟨rfl, a4⟩
          have HA4 := Lib.hid ((HA3.out.lat x).trans a4)
          clear a4 Ck hbo3 hbt3 hbr
          cases z0 : (z != 0)
          · have HN := Lib.hid (ext_lt (p := fun j => ∀ (hj : j < t.rules.length), ruleOk o.tables t.cols t.rules[j] = true ∧ (0 < j → ltS (t.rules[j - 1]'(by omega)).name t.rules[j].name = true)) HP.out (fun _ => ⟨by rw [HO.out, h4, z0]; rfl, HLT.out⟩))
            go_wp2_with fail
            go_roundw
            case rel => exact ⟨k + 1, by omega, by go_num, HAB.out.trans HA4.out, HN.out⟩
            case measure => simp [intOf]; omega
          · have HF := Lib.hid (rightT_rule o t k hlt (by rw [HO.out, h4, z0]; rfl))
            go_wp2_with fail
            go_ret
            exact ⟨by rw [HF.out]; rfl, HA.out.trans HA4.out⟩
    · have HF := Lib.hid (show rightT o t = true by
        rw [HR2.out, all_true _ _ fun j hj => (HP.out j (by omega) hj).1, rises_pred (fun a b : Rul => cmpS a.name b.name) _ fun j hj1 hj => (cmpS_lt_iff _ _).2 ((HP.out j (by omega) hj).2 (by omega))]; rfl)
      go_wp2_with fail
      go_ret
      exact ⟨by rw [HF.out]; rfl, HA.out⟩
theorem checkO_rows (o : Objs) : checkO o = (decide (o.schemas.length ≤ 8) && decide (o.tables.length ≤ 64) && rowsB o && o.tables.all (rightT o)) := by
  unfold checkO headOk rowsB
  cases decide (o.schemas.length ≤ 8) <;> cases decide (o.tables.length ≤ 64) <;> cases o.schemas.all (schOk o) <;> simp [Bool.and_comm]
set_option maxHeartbeats 8000000 in
theorem rRight_any (o : Objs) (As : Option Addr) (caps : Nat) (At : Option Addr) (capt : Nat) (w : World) (hsch : SlAt w 2 SchR As caps o.schemas) (htab : SlAt w 5 TabR At capt o.tables) :
    Calls Tryz.prog 70 #[.agg #[.slice As o.schemas.length caps, .slice At o.tables.length capt]] w
      fun e w' => e = .returned (.bool (checkO o)) ∧ Aft w w' := by
  have hlen := hsch.len
  have hlen2 := htab.len
  have HR0 := Lib.hid (checkO_rows o)
  by_cases d1 : 8 < o.schemas.length
  · have HF := Lib.hid (show checkO o = false by rw [HR0.out, decide_eq_false (show ¬ o.schemas.length ≤ 8 by omega)]; rfl)
    have e1 : (8 : Int) < (o.schemas.length : Int) := by omega
    go_enter Tryz.func70, Tryz.ntmps70
    go_wp2_with fail
    go_ret
    exact ⟨by rw [HF.out]; rfl, (Aft.refl _).alloc _⟩
  have e1 : (o.schemas.length : Int) ≤ 8 := by omega
  by_cases d2 : 64 < o.tables.length
  · have HF := Lib.hid (show checkO o = false by rw [HR0.out, decide_eq_false (show ¬ o.tables.length ≤ 64 by omega), Bool.and_false]; rfl)
    have e2 : (64 : Int) < (o.tables.length : Int) := by omega
    go_enter Tryz.func70, Tryz.ntmps70
    go_wp2_with fail
    go_ret
    exact ⟨by rw [HF.out]; rfl, (Aft.refl _).alloc _⟩
  have e2 : (o.tables.length : Int) ≤ 64 := by omega
  obtain ⟨g, hg⟩ : ∃ g, rowsB o = g := ⟨_, rfl⟩
  have HR := Lib.hid (show checkO o = (g && o.tables.all (rightT o)) by rw [HR0.out, decide_eq_true (show o.schemas.length ≤ 8 by omega), decide_eq_true (show o.tables.length ≤ 64 by omega), hg]; rfl)
  have C1 := Lib.hid (show ∀ w', Aft w w' → Calls Tryz.prog 150 #[.agg #[.slice As o.schemas.length caps, .slice At o.tables.length capt]] w' fun e w'' => e = .returned (.bool g) ∧ Aft w' w'' from
    fun w' a => (rrows_any o As caps At capt w' (schs_aft a hsch) (tabs_aft a htab)).mono fun e w'' ⟨he, hw⟩ => ⟨he.trans (by rw [← hg]), hw⟩)
  clear hg HR0
  go_enter Tryz.func70, Tryz.ntmps70
  go_wp2_with fail
  refine (C1.out _ ((Aft.refl w).alloc _)).mono ?_
  rintro e w1 ⟨rfl, a1⟩
  obtain ⟨hbox, hfr, hz, hzk, HA⟩ := aft_box a1
  have HAB := Lib.hid a1
  clear a1 C1
  cases g
  · have HF := Lib.hid (show checkO o = false by rw [HR.out]; rfl)
    go_wp2_with fail
    go_ret
    exact ⟨by rw [HF.out]; rfl, HA.out⟩
  have HR2 := Lib.hid (show checkO o = o.tables.all (rightT o) by rw [HR.out]; rfl)
  clear HR
  go_wp2_with fail
  go_loopw [3] (fun i wr => ∃ k : Nat, k ≤ o.tables.length ∧ i = .int .i64 k ∧ Aft (w.alloc (.cells #[.slice As o.schemas.length caps, .slice At o.tables.length capt] 25)) wr ∧ ∀ j, j < k → ∀ (hj : j < o.tables.length), rightT o o.tables[j] = true) (fun i _ => o.tables.length - (intOf i).toNat)
  case atStart => exact ⟨0, Nat.zero_le _, rfl, HAB.out, fun j hj => absurd hj (Nat.not_lt_zero j)⟩
  case round =>
    clear hbox hfr hz hzk HA HAB
    obtain ⟨k2, hk2, rfl, ha, hp⟩ := hrel
    obtain ⟨hbox, hfr, hz, hzk, HA⟩ := aft_box ha
    have HAB := Lib.hid ha
    have HP := Lib.hid hp
    clear ha hp
    by_cases hlt2 : k2 < o.tables.length
    · have htt := tabs_aft HA.out htab
      have hss := schs_aft HA.out hsch
      obtain ⟨b, off, B2, capB2, B3, capB3, rfl, hb, c0, c1, c2, c3, c4, hcols, hrules, s0, s1, s2⟩ := tab_at htt hlt2
      obtain ⟨p, hpp⟩ : ∃ p, o.tables[k2] = p := ⟨_, rfl⟩
      rw [hpp] at c0 c1 c2 c3 c4 hcols hrules s0 s1 s2
      obtain ⟨f, hf⟩ : ∃ f, rightT o p = f := ⟨_, rfl⟩
      have HO := Lib.hid (show rightT o o.tables[k2] = f by rw [hpp]; exact hf)
      have Cr := Lib.hid (show ∀ x : Lat wr, Calls Tryz.prog 151 #[.agg #[.slice As o.schemas.length caps, .slice (some ⟨b, off, none⟩) o.tables.length capt], .agg #[.string p.schema, .string p.name, .string p.owner, .slice B2 p.cols.length capB2, .slice B3 p.rules.length capB3]] (lat wr x) fun e w' => e = .returned (.bool f) ∧ Aft (lat wr x) w' from
        fun x => (rright_any o p As caps _ capt B2 capB2 B3 capB3 (lat wr x) (schs_aft ((Aft.refl wr).lat x) hss) (tabs_aft ((Aft.refl wr).lat x) htt) (cols_aft ((Aft.refl wr).lat x) hcols) (ruls_aft ((Aft.refl wr).lat x) hrules) s1 s2).mono fun e w'' ⟨he, hw⟩ => ⟨he.trans (by rw [← hf]), hw⟩)
      clear hf hpp htt hss hcols hrules
      go_wp2_with fail
      refine wp_region_lat (by kernel_rfl) (by kernel_rfl) ?_
      repeat (go_big_quiet_step ((first | (go_at_call 151; exact Calls.lat_of (Cr.out _)))))
      refine wpQuiet_nil ?_
      intro _ hw'
      obtain ⟨x, hw''⟩ := hw'
      subst hw''
      cases f
      · have HF := Lib.hid (show checkO o = false by rw [HR2.out, all_false _ _ k2 hlt2 HO.out])
        go_wp2_with fail
        go_ret
        exact ⟨by rw [HF.out]; rfl, HA.out.lat x⟩
      · have HN := Lib.hid (ext_lt (p := fun j => ∀ (hj : j < o.tables.length), rightT o o.tables[j] = true) HP.out (fun _ => HO.out))
        go_wp2_with fail
        go_roundw
        case rel => exact ⟨k2 + 1, by omega, by go_num, HAB.out.lat x, HN.out⟩
        case measure => simp [intOf]; omega
    · have HF := Lib.hid (show checkO o = true by rw [HR2.out, all_true _ _ fun j hj => HP.out j (by omega) hj])
      go_wp2_with fail
      go_ret
      exact ⟨by rw [HF.out]; rfl, HA.out⟩
end Go.Proofs.YticjnndhpfdajaaGreat
/- The frame of the document's functions of objects; append of one schema. -/
namespace Go.Proofs.YticjnndhpfdajaaGreat
open Go.RowKit Go.Deep
set_option maxRecDepth 100000
set_option linter.unusedVariables false
def BoxO (w : World) (v0 v1 : Value) : World := (w.alloc (.cells #[v0, v1] 25)).alloc (.cells #[.slice none 0 0, .slice none 0 0] 25)
theorem BoxO.aft (w : World) (v0 v1 : Value) : Aft w (BoxO w v0 v1) := ((Aft.refl w).alloc _).alloc _
theorem BoxO.size (w : World) (v0 v1 : Value) : (BoxO w v0 v1).heap.size = w.heap.size + 2 := by unfold BoxO; simp
theorem BoxO.row (w : World) (v0 v1 : Value) : RowAt (BoxO w v0 v1) w.heap.size [v0, v1] := (box_row2 (w := w) (c := [v0, v1]) (t := 25) (Aft.refl _)).aft ((Aft.refl _).alloc _)
theorem BoxO.res (w : World) (v0 v1 : Value) : RowAt (BoxO w v0 v1) (w.heap.size + 1) [.slice none 0 0, .slice none 0 0] := by
  have := box_row2 (w := w.alloc (.cells #[v0, v1] 25)) (c := [.slice none 0 0, .slice none 0 0]) (t := 25) (Aft.refl _)
  unfold BoxO
  simpa using this
theorem BoxO.read {w w' : World} {v0 v1 : Value} (a : Aft (BoxO w v0 v1) w') : w'.cell? ⟨w.heap.size, 0, none⟩ = some v0 ∧ w'.cell? ⟨w.heap.size, 1, none⟩ = some v1 ∧ w.heap.size < w'.heap.size := by
  have r := (BoxO.row w v0 v1).aft a
  exact ⟨r.cell (j := 0) rfl, r.cell (j := 1) rfl, r.1⟩
theorem BoxO.out {w w' : World} {v0 v1 : Value} (a : Aft (BoxO w v0 v1) w') : w'.cell? ⟨w.heap.size + 1, 0, none⟩ = some (.slice none 0 0) ∧ w'.cell? ⟨w.heap.size + 1, 1, none⟩ = some (.slice none 0 0) ∧ w'.frozen? ⟨w.heap.size + 1, 0, none⟩ = false ∧ w'.frozen? ⟨w.heap.size + 1, 1, none⟩ = false ∧ w.heap.size + 1 < w'.heap.size := by
  have r := (BoxO.res w v0 v1).aft a
  exact ⟨r.cell (j := 0) rfl, r.cell (j := 1) rfl, r.2.2 0 (by simp), r.2.2 1 (by simp), r.1⟩
theorem BoxO.no {w w' : World} {v0 v1 : Value} (a : Aft (BoxO w v0 v1) w') (x : Int) : ObjP w (zeroO, x) (.returned (.tuple #[.agg #[.slice none 0 0, .slice none 0 0], .int .i64 x])) ((w'.setCell ⟨w.heap.size + 1, 0, none⟩ (.slice none 0 0)).setCell ⟨w.heap.size + 1, 1, none⟩ (.slice none 0 0)) :=
  objP_zset ((BoxO.aft w v0 v1).trans a) (by omega)
def OutO (w3 : World) (v0 v1 : Value) : World := w3.alloc (.cells #[v0, v1] 25)
theorem OutO.aft (w3 : World) (v0 v1 : Value) : Aft w3 (OutO w3 v0 v1) := (Aft.refl w3).alloc _
theorem OutO.size (w3 : World) (v0 v1 : Value) : (OutO w3 v0 v1).heap.size = w3.heap.size + 1 := by unfold OutO; simp
theorem OutO.row (w3 : World) (v0 v1 : Value) : RowAt (OutO w3 v0 v1) w3.heap.size [v0, v1] := box_row2 (w := w3) (c := [v0, v1]) (t := 25) (Aft.refl _)
/-- the end: the schemas in our own box are others -/
theorem endO {w w2 w3 wr : World} {v0 v1 : Value} {o : Objs} {hs ht : Hd} {L : List OTab} (a2 : Aft (BoxO w v0 v1) w2) (a3 : Aft w2 w3) (hL : L.map OTab.t = o.tables) (ob : ObjIn w3 w2.heap.size hs ht o.schemas L) (ar : Aft (OutO w3 (.slice hs.a o.schemas.length hs.c) (.slice ht.a o.tables.length ht.c)) wr) :
    ∀ (h : Hd) (l : List Sch) (n : Nat), n = l.length → wr.ownsRow (w3.heap.size + 1) 99 2 (.slice h.a n h.c) n (l.flatMap schC) →
      RowAt (wr.setCell ⟨w3.heap.size, 0, none⟩ (.slice h.a n h.c)) w3.heap.size [.slice h.a n h.c, .slice ht.a o.tables.length ht.c] ∧
      RowAt (((wr.setCell ⟨w3.heap.size, 0, none⟩ (.slice h.a n h.c)).setCell ⟨w.heap.size + 1, 0, none⟩ (.slice h.a n h.c)).setCell ⟨w.heap.size + 1, 1, none⟩ (.slice ht.a o.tables.length ht.c)) (w.heap.size + 1) [.slice h.a n h.c, .slice ht.a o.tables.length ht.c] ∧
      ObjP w (⟨l, o.tables⟩, 0) (.returned (.tuple #[.agg #[.slice h.a n h.c, .slice ht.a o.tables.length ht.c], .int .i64 0])) (((wr.setCell ⟨w3.heap.size, 0, none⟩ (.slice h.a n h.c)).setCell ⟨w.heap.size + 1, 0, none⟩ (.slice h.a n h.c)).setCell ⟨w.heap.size + 1, 1, none⟩ (.slice ht.a o.tables.length ht.c)) := by
  intro h l n hn ho
  subst hn
  have z2 := a2.size
  rw [BoxO.size] at z2
  have z3 := a3.size
  have zr := ar.size
  rw [OutO.size] at zr
  have aw := (((BoxO.aft w v0 v1).trans a2).trans a3).trans ((OutO.aft w3 (.slice hs.a o.schemas.length hs.c) (.slice ht.a o.tables.length ht.c)).trans ar)
  have rb := (OutO.row w3 (.slice hs.a o.schemas.length hs.c) (.slice ht.a o.tables.length ht.c)).aft ar
  have rr := ((BoxO.res w v0 v1).aft a2).aft (a3.trans ((OutO.aft w3 (.slice hs.a o.schemas.length hs.c) (.slice ht.a o.tables.length ht.c)).trans ar))
  have obr := ((ob.aft (OutO.aft w3 (.slice hs.a o.schemas.length hs.c) (.slice ht.a o.tables.length ht.c))).aft ar).down (B' := w.heap.size + 2) (by omega)
  have hlt := ob.lt
  have gh : ∀ g, (Value.slice h.a l.length h.c).ownBlock = some g → w3.heap.size + 1 ≤ g := fun g hg => (ho.lt g hg).1
  have ghb : ∀ g ∈ (Hd.mk h.a l.length h.c).blk, w3.heap.size + 1 ≤ g := fun g hg => gh g (Hd.mem_blk.1 hg)
  have obn : ObjIn wr (w.heap.size + 2) ⟨h.a, l.length, h.c⟩ ht l L := by
    refine ⟨own_down ho (by omega), obr.tab, obr.each, ?_⟩
    refine List.nodup_append.2 ⟨blk_nodup _, (List.nodup_append.1 obr.nd).2.1, fun a ha b hb2 e => ?_⟩
    subst e
    have := ghb a ha
    have := (hlt a (List.mem_append.2 (.inr hb2))).2
    omega
  have hlt2 := obn.lt
  have hltn : ∀ g ∈ (Hd.mk h.a l.length h.c).blk ++ (ht.blk ++ L.flatMap OTab.blks), g ≠ w3.heap.size ∧ g ≠ w.heap.size + 1 := fun g hg => by
    rcases List.mem_append.1 hg with h1 | h1
    · have := ghb g h1; omega
    · have := hlt g (List.mem_append.2 (.inr h1)); omega
  have k1 := Kb.set wr w3.heap.size 0 (.slice h.a l.length h.c)
  have k2 := Kb.set (wr.setCell ⟨w3.heap.size, 0, none⟩ (.slice h.a l.length h.c)) (w.heap.size + 1) 0 (.slice h.a l.length h.c)
  have k3 := Kb.set ((wr.setCell ⟨w3.heap.size, 0, none⟩ (.slice h.a l.length h.c)).setCell ⟨w.heap.size + 1, 0, none⟩ (.slice h.a l.length h.c)) (w.heap.size + 1) 1 (.slice ht.a o.tables.length ht.c)
  refine ⟨rb.set 0 _ (by simp), setO_row (k1.row rr (by omega)) rfl _ _, ⟨⟨h.a, l.length, h.c⟩, ht, L, hL, rfl, ?_, ?_⟩⟩
  · exact k3.to_aft (k2.to_aft (k1.to_aft aw (fun g hg e => by omega)) (fun g hg e => by omega)) (fun g hg e => by omega)
  · exact ((((obn.kb k1 fun g hg e => (hltn g hg).1 e).kb k2 fun g hg e => (hltn g hg).2 e).kb k3 fun g hg e => (hltn g hg).2 e)).down (by omega)
theorem app_sch {ops : Array Oper} {rest : List Oper} {o : Oper} {a : Act} {w : World} {Q : Exit → Act → World → Prop} (hgd : o.guard = none) (s x : Operand)
    (ho : o.op = .call { callee := .builtin .append, args := #[s, x], argTypes := #[22, 22] }) (base : Nat) (v : Value) (n : Nat) (xs : List Value) (hs : a.eval s = v) (hown : w.ownsRow base 99 2 v n xs)
    (b : Nat) (y : Sch) (hx : a.eval x = .slice (some ⟨b, 0, none⟩) 1 1) (hb : w.heap[b]? = some (.cells #[.string y.name, .string y.owner] 99)) (hn : n ≤ 1000000) (hbase : base ≤ w.heap.size)
    (h : ∀ g cap w', w'.ownsRow base 99 2 (.slice (some ⟨g, 0, none⟩) (n + 1) cap) (n + 1) (xs ++ schC y) → w.grownBy w' v.ownBlock → (v.ownBlock = some g ∨ g = w.heap.size) → wpList Tryz.prog ops Q rest (a.put o.dst (.slice (some ⟨g, 0, none⟩) (n + 1) cap)) w') : wpList Tryz.prog ops Q (o :: rest) a w := by
  obtain ⟨i0, hi0, hz0, hz1, hz2⟩ := info_parts info2Sch2
  exact wpList_append_lies w hgd s x 22 ho base 99 i0 _ 2 32 Tryz.underlying22 hi0 hz0 hz1 hz2 rfl (by decide) v n xs hs hown ⟨b, 0, none⟩ 1 1 [.string y.name, .string y.owner] hx rfl (World.news_of_block (cs := #[.string y.name, .string y.owner]) (t := 99) (fr := (0, 0)) hb) (by simp [Value.oneCell']) (by omega) (by unfold maxLen; omega) (by omega) hbase _ rfl fun g cap w' h1 h2 h3 _ => h g cap w' h1 h2 h3
def GrC (X wr : World) (h : Hd) (l : List Sch) : Prop := Aft X wr ∧ wr.ownsRow X.heap.size 99 2 h.v l.length (l.flatMap schC)
theorem GrC.start (X : World) : GrC X X ⟨none, 0, 0⟩ [] := ⟨Aft.refl X, own_nil _ _ _ _⟩
theorem GrC.own {X wr : World} {h : Hd} {l : List Sch} (g : GrC X wr h l) : wr.ownsRow X.heap.size 99 2 (.slice h.a l.length h.c) l.length (l.flatMap schC) := by
  have := g.2
  rw [own_slice this] at this
  exact this
theorem GrC.grow {X wr w5 : World} {h : Hd} {l : List Sch} {y : Sch} {o : Obj} {gg cap : Nat} (g : GrC X wr h l) (ho : w5.ownsRow X.heap.size 99 2 (.slice (some ⟨gg, 0, none⟩) (l.length + 1) cap) (l.length + 1) (l.flatMap schC ++ schC y)) (hg : (wr.alloc o).grownBy w5 (Value.slice h.a l.length h.c).ownBlock) :
    GrC X w5 ⟨some ⟨gg, 0, none⟩, l.length + 1, cap⟩ (l ++ [y]) :=
  ⟨aft_grown (g.own.alloc _) (g.1.alloc _) hg, by rw [List.length_append, List.flatMap_append, List.flatMap_cons, List.flatMap_nil, List.append_nil]; exact ho⟩
/-- the schema of a name stands at one place -/
theorem sch_only {o : Objs} {name : ByteArray} {p : Nat} (hr : risesB cmpSc o.schemas = true) (hp : schAt o.schemas name = p) (hpl : p < o.schemas.length) (t : Nat) (ht : t < o.schemas.length) : eqS o.schemas[t].name name = decide (t = p) := by
  have h1 : eqS o.schemas[p].name name = true := idxP_at (fun c : Sch => eqS c.name name) o.schemas p hpl hp
  rcases Nat.lt_trichotomy t p with h | h | h
  · rw [decide_eq_false (by omega), Bool.eq_false_iff]
    intro h2
    have h3 := rises_lt preSc.tr hr t p ht hpl h
    have h4 : cmpSc o.schemas[t] o.schemas[p] = 0 := (cmpS_eq _ _).2 (eqS_trans h2 (by rw [eqS_comm]; exact h1))
    omega
  · subst h; rw [h1]; simp
  · rw [decide_eq_false (by omega), Bool.eq_false_iff]
    intro h2
    have h3 := rises_lt preSc.tr hr p t hpl ht h
    have h4 : cmpSc o.schemas[p] o.schemas[t] = 0 := (cmpS_eq _ _).2 (eqS_trans h1 (by rw [eqS_comm]; exact h2))
    omega
end Go.Proofs.YticjnndhpfdajaaGreat
/- objects.AddSchema: the closure, walked. -/
namespace Go.Proofs.YticjnndhpfdajaaGreat
open Go.RowKit Go.Deep Go.Sort
set_option maxRecDepth 100000
set_option linter.unusedVariables false
theorem idxP_anyO {α : Type} (p : α → Bool) (l : List α) : decide (0 ≤ idxP p l) = l.any p := by
  induction l with
  | nil => rfl
  | cons x l ih =>
    rw [List.any_cons, ← ih]
    show decide (0 ≤ (if p x then (0 : Int) else if idxP p l < 0 then -1 else idxP p l + 1)) = _
    cases h : p x
    · simp only [Bool.false_eq_true, if_false, Bool.false_or]
      by_cases h1 : idxP p l < 0
      · rw [if_pos h1, decide_eq_false (by omega), decide_eq_false (by omega)]
      · rw [if_neg h1, decide_eq_true (by omega), decide_eq_true (by omega)]
    · simp
theorem sch_none {o : Objs} {name : ByteArray} (h : schAt o.schemas name < 0) : ∀ y ∈ o.schemas, cmpS y.name name ≠ 0 := fun y hy e => by
  obtain ⟨k, hk, rfl⟩ := List.getElem_of_mem hy
  have h1 := idxP_range (fun c : Sch => eqS c.name name) o.schemas
  have h2 : schAt o.schemas name = -1 := by unfold schAt at *; omega
  have h3 : o.schemas.any (fun c => eqS c.name name) = true := List.any_eq_true.2 ⟨_, hy, (cmpS_eq _ _).1 e⟩
  rw [← idxP_anyO] at h3
  have := of_decide_eq_true h3
  unfold schAt at h2
  omega
theorem checkO_rises {o : Objs} (h : checkO o = true) : risesB cmpTb o.tables = true ∧ risesB cmpSc o.schemas = true ∧ o.schemas.length ≤ 8 ∧ o.tables.length ≤ 64 := by
  unfold checkO headOk at h
  simp only [Bool.and_eq_true, decide_eq_true_eq] at h
  exact ⟨h.1.1.2, h.1.2, h.1.1.1.1, h.1.1.1.2⟩
set_option maxHeartbeats 8000000 in
theorem addSch1_in (name owner : ByteArray) (o : Objs) (w : World) (hs ht : Hd) (L : List OTab) (B n3 bn bo : Nat) (hck : checkO o = true) (hbn : B ≤ n3) (hL : L.map OTab.t = o.tables) (ob : ObjIn w B hs ht o.schemas L) (hne : ∀ g ∈ hs.blk ++ (ht.blk ++ L.flatMap OTab.blks), g ≠ n3)
    (r3 : RowAt w n3 [.slice hs.a o.schemas.length hs.c, .slice ht.a o.tables.length ht.c]) (hc1 : w.cell? ⟨bn, 0, none⟩ = some (.string name)) (hc2 : w.cell? ⟨bo, 0, none⟩ = some (.string owner)) (hb1 : bn < B) (hb2 : bo < B) (sm : SmO o) (hs1 : Small name.size) (hs2 : Small owner.size) :
    Calls Tryz.prog 86 (#[.pointer (some ⟨n3, 0, none⟩)] ++ #[.pointer (some ⟨bn, 0, none⟩), .pointer (some ⟨bo, 0, none⟩)]) w (DoP w B n3 (addSchR name owner o)) := by
  show Calls Tryz.prog 86 #[.pointer (some ⟨n3, 0, none⟩), .pointer (some ⟨bn, 0, none⟩), .pointer (some ⟨bo, 0, none⟩)] w (DoP w B n3 (addSchR name owner o))
  have hoo : objOf o.schemas L = o := by unfold objOf; rw [hL]
  have hsch : SlAt w 2 SchR hs.a hs.c o.schemas := ob.schs (by rw [hoo]; exact sm)
  have hlen := hsch.len
  have z1 : bn < w.heap.size := World.block_lt_of_cell? _ _ hc1
  have z2 : bo < w.heap.size := World.block_lt_of_cell? _ _ hc2
  have x0 := r3.cell (j := 0) rfl
  have x1 := r3.cell (j := 1) rfl
  have xz := r3.1
  have xf := r3.2.2 0 (by simp)
  have hrs := checkO_rises hck
  obtain ⟨u1, hu1⟩ : ∃ u, nameB name = u := ⟨_, rfl⟩
  obtain ⟨u2, hu2⟩ : ∃ u, nameB owner = u := ⟨_, rfl⟩
  obtain ⟨i, hi⟩ : ∃ i, schAt o.schemas name = i := ⟨_, rfl⟩
  have hir : -1 ≤ i ∧ i < o.schemas.length := by rw [← hi]; exact idxP_range _ _
  have C1 := Lib.hid (show ∀ w', Calls Tryz.prog 87 #[.string name] w' fun e w'' => e = .returned (.bool u1) ∧ w' = w'' from fun w' => hu1 ▸ name_any name w' hs1.max)
  have C2 := Lib.hid (show ∀ w', Calls Tryz.prog 87 #[.string owner] w' fun e w'' => e = .returned (.bool u2) ∧ w' = w'' from fun w' => hu2 ▸ name_any owner w' hs2.max)
  have CB := Lib.hid (show ∀ x : Lat w, Calls Tryz.prog 88 #[.slice hs.a o.schemas.length hs.c, .string name, .func (.func 89) #[] #[]] (lat w x) fun e w'' => e = .returned (.int .i64 i) ∧ Aft (lat w x) w'' from
    fun x => (bySch hs.a hs.c o.schemas name _ (schs_aft ((Aft.refl w).lat x) hsch)).mono fun e w'' ⟨he, hw⟩ => ⟨he.trans (by rw [← hi]; rfl), hw⟩)
  have HE := Lib.hid (show addSchR name owner o = if (!u1 || !u2) then (zeroO, 1) else if 0 ≤ i then (zeroO, 60) else if 8 ≤ o.schemas.length then (zeroO, 2) else (⟨insAt o.schemas (posB cmpSc o.schemas ⟨name, owner⟩) ⟨name, owner⟩, o.tables⟩, 0) by unfold addSchR; rw [hu1, hu2, hi])
  have HI := Lib.hid (show i < 0 → ∀ y ∈ o.schemas, cmpSc y ⟨name, owner⟩ ≠ 0 from fun h => sch_none (hi ▸ h))
  have HOB := Lib.hid ob
  have HR3 := Lib.hid r3
  have HNE := Lib.hid hne
  have HL := Lib.hid hL
  have HCS := Lib.hid (show hs.v = .slice hs.a o.schemas.length hs.c from own_slice ob.sch)
  have HRS := Lib.hid hrs
  have ERR := Lib.hid (show ∀ w', Aft w w' → ∀ c : Int, c ≠ 0 → DoP w B n3 (zeroO, c) (.returned (.int .i64 c)) w' from fun w' a c hc => ⟨rfl, Kb.of_aft a, fun h => absurd h hc⟩)
  clear ob r3 hne hL hoo hck hu1 hu2 hi hsch hrs sm
  go_enter Tryz.func86, Tryz.ntmps86
  go_wp2_with fail
  refine (C1.out _).mono ?_
  rintro e w1 ⟨rfl, rfl⟩
  cases u1
  · go_wp2_with fail
    go_ret
    rw [HE.out]
    exact ERR.out _ (Aft.refl _) 1 (by decide)
  go_wp2_with fail
  refine (C2.out _).mono ?_
  rintro e w1 ⟨rfl, rfl⟩
  cases u2
  · go_wp2_with fail
    go_ret
    rw [HE.out]
    exact ERR.out _ (Aft.refl _) 1 (by decide)
  by_cases h0 : 0 ≤ i
  · have hd : decide (0 ≤ i) = true := by simpa using h0
    go_wp2_with fail
    refine wp_region_lat (by kernel_rfl) (by kernel_rfl) ?_
    repeat (go_big_quiet_step ((go_at_call 88; exact Calls.lat_of (CB.out _))))
    refine wpQuiet_nil ?_
    intro _ hw'
    obtain ⟨x, hw''⟩ := hw'
    subst hw''
    go_wp2_with fail
    go_ret
    rw [HE.out]
    simp only [Bool.not_true, Bool.or_self, Bool.false_eq_true, if_false, if_pos h0]
    exact ERR.out _ ((Aft.refl _).lat x) 60 (by decide)
  have hd : decide (0 ≤ i) = false := by simpa using h0
  have HH0 := Lib.hid h0
  clear h0
  go_wp2_with fail
  refine wp_region_lat (by kernel_rfl) (by kernel_rfl) ?_
  repeat (go_big_quiet_step ((go_at_call 88; exact Calls.lat_of (CB.out _))))
  refine wpQuiet_nil ?_
  intro _ hw'
  obtain ⟨x, hw''⟩ := hw'
  subst hw''
  obtain ⟨W, hW⟩ : ∃ W, W = lat w x := ⟨_, rfl⟩
  have aW : Aft w W := by rw [hW]; exact (Aft.refl w).lat x
  rw [← hW]
  have x0 := aW.cell_kept x0
  have hc1 := aW.cell_kept hc1
  have hc2 := aW.cell_kept hc2
  have xz := Nat.lt_of_lt_of_le xz aW.size
  have z1 := Nat.lt_of_lt_of_le z1 aW.size
  have z2 := Nat.lt_of_lt_of_le z2 aW.size
  have HAW := Lib.hid aW
  clear hW aW CB C1 C2
  by_cases h8 : 8 ≤ o.schemas.length
  · have hd8 : (8 : Int) ≤ (o.schemas.length : Int) := by omega
    have HH8 := Lib.hid h8
    clear h8
    go_wp2_with fail
    go_ret
    rw [HE.out]
    simp only [Bool.not_true, Bool.or_self, Bool.false_eq_true, if_false, if_neg (show ¬ 0 ≤ i by have := HH0.out; omega), if_pos HH8.out]
    exact ERR.out _ HAW.out 2 (by decide)
  have hd8 : ¬ (8 : Int) ≤ (o.schemas.length : Int) := by omega
  have HH8 := Lib.hid h8
  have obW := HOB.out.aft HAW.out
  have HOW := Lib.hid (show W.ownsRow B 99 2 (.slice hs.a o.schemas.length hs.c) o.schemas.length (o.schemas.flatMap schC) by rw [← HCS.out]; exact obW.sch)
  have n1 : ¬ InV (.slice hs.a o.schemas.length hs.c) n3 := fun h => HNE.out n3 (List.mem_append.2 (.inl (Hd.mem_blk.2 (by rw [HCS.out]; exact h)))) rfl
  have n2 : ¬ InV (.slice hs.a o.schemas.length hs.c) bn := fun h => by have := (HOW.out.lt bn h).1; omega
  have n4 : ¬ InV (.slice hs.a o.schemas.length hs.c) bo := fun h => by have := (HOW.out.lt bo h).1; omega
  have xf : W.frozen? ⟨n3, 0, none⟩ = false := (HR3.out.aft HAW.out).2.2 0 (by simp)
  obtain ⟨i0, hi0, hz0, hz1, hz2⟩ := info_parts info2Sch2
  have HI0 := Lib.hid hi0
  have HZ0 := Lib.hid hz0
  have HZ1 := Lib.hid hz1
  have HZ2 := Lib.hid hz2
  have HOBW := Lib.hid obW
  clear hi0 hz0 hz1 hz2 obW h8
  go_wp2_with fail
  refine wp_region_reads 7 10 (fun w' => ∃ x : KLat (.slice hs.a o.schemas.length hs.c) W, w' = klat (.slice hs.a o.schemas.length hs.c) W x) (by kernel_rfl) (by kernel_rfl) (KL.aft (Aft.refl W).drew) ?_
  simp only [List.take_succ_cons, List.take_zero, List.drop_succ_cons, List.drop_zero]
  repeat (go_big_quiet_step (fail))
  refine wpQuiet_nil ?_
  refine wpChain_step (fun K hK => ?_)
  go_simp
  refine hK _ _ (fun _ => KL.aft ((Aft.refl W).drew)) ?_
  clear hK K
  refine wpChain_step (fun K hK => ?_)
  go_simp
  refine hK _ _ (fun _ => KL.aft (((Aft.refl W).alloc _).drew)) ?_
  clear hK K
  refine wpChain_step (fun K hK => ?_)
  refine wp_append_lies _ (.tmp 33) (.tmp 37) 22 rfl B 99 i0 _ 2 32 Tryz.underlying22 HI0.out HZ0.out HZ1.out HZ2.out rfl (by decide) (.slice hs.a o.schemas.length hs.c) o.schemas.length (o.schemas.flatMap schC) (by rfl) ((HOW.out.alloc _).drew) ⟨W.heap.size, 0, none⟩ 1 1 [.string name, .string owner] (by rfl) rfl (World.news_of_block (cs := #[.string name, .string owner]) (t := 99) (fr := (0, 0)) (heap_alloc_new W _)) (by simp [Value.oneCell']) (by omega) (by unfold maxLen; omega) (by omega) (by simp; omega) (W.heap.size + 1) (by simp) ?_
  intro gg cap' w5 hown5 hgrow hat hgl
  refine hK _ _ (fun _ => KL.of ((Kb.of_aft (((Aft.refl W).alloc _).drew)).trans (kb_in hgrow))) ?_
  clear hK K
  refine wpChain_list _ (by simp) (by decide) ?_
  have kw5 : Kb (InV (.slice hs.a o.schemas.length hs.c)) W w5 := (Kb.of_aft (((Aft.refl W).alloc _).drew)).trans (kb_in hgrow)
  have d5 := kw5.cell x0 n1
  have row5 := kw5.row (HR3.out.aft HAW.out) n1
  have f5 : w5.frozen? ⟨n3, 0, none⟩ = false := row5.2.2 0 (by simp)
  have z5 := row5.1
  have hgn : gg ≠ n3 := fun e => by
    rcases hat with h1 | h1
    · exact n1 (by rw [← e]; exact h1)
    · omega
  have own6 : (w5.setCell ⟨n3, 0, none⟩ (.slice (some ⟨gg, 0, none⟩) (o.schemas.length + 1) cap')).ownsRow B 99 2 (.slice (some ⟨gg, 0, none⟩) (o.schemas ++ [(⟨name, owner⟩ : Sch)]).length cap') (o.schemas ++ [(⟨name, owner⟩ : Sch)]).length ((o.schemas ++ [(⟨name, owner⟩ : Sch)]).flatMap schC) := by
    rw [List.length_append, List.flatMap_append]
    exact own_kb hown5 (Kb.set w5 n3 0 _) (fun g hg e => by
      have e : g = n3 := e
      have : g = gg := by simpa [Value.ownBlock, eq_comm] using hg
      exact hgn (by rw [← this]; exact e))
  have CS := Lib.hid (sortSchF gg cap' B (o.schemas ++ [(⟨name, owner⟩ : Sch)]) (by simp) (by simp; omega) _ own6)
  have row6 := row5.set 0 (.slice (some ⟨gg, 0, none⟩) (o.schemas.length + 1) cap') (by simp)
  have HP := Lib.hid (show ∀ w7 e, SortedP 99 2 schC cmpSc (w5.setCell ⟨n3, 0, none⟩ (.slice (some ⟨gg, 0, none⟩) (o.schemas.length + 1) cap')) B gg cap' (o.schemas ++ [(⟨name, owner⟩ : Sch)]) e w7 → e = .returned (.tuple #[]) ∧ DoP w B n3 (addSchR name owner o) (.returned (.int .i64 0)) w7 from fun w7 e hs7 => by
    obtain ⟨he, l', hp, hsrt, ho7, k7⟩ := hs7
    have hlt : i < 0 := by have := HH0.out; omega
    have hl' : l' = insAt o.schemas (posB cmpSc o.schemas ⟨name, owner⟩) ⟨name, owner⟩ := sort_ins preSc.tr preSc.anti HRS.out.2.1 (HI.out hlt) hp hsrt
    have hll : l'.length = o.schemas.length + 1 := by rw [hl', insAt_len _ _ _ (posB_le _ _ _)]
    refine ⟨he, ?_⟩
    rw [HE.out]
    simp only [Bool.not_true, Bool.or_self, Bool.false_eq_true, if_false, if_neg (show ¬ 0 ≤ i by omega), if_neg HH8.out]
    rw [← hl']
    have kall : Kb (fun g => InV (.slice hs.a o.schemas.length hs.c) g ∨ g = n3 ∨ g = gg) W w7 := ((kw5.mono fun g _ h => .inl h).trans ((Kb.set w5 n3 0 _).mono fun g _ e => .inr (.inl e))).trans (k7.mono fun g _ e => .inr (.inr e))
    have hIB : ∀ g, InV (.slice hs.a o.schemas.length hs.c) g → B ≤ g := fun g hg => (HOW.out.lt g hg).1
    have hBW : B ≤ W.heap.size := by omega
    refine ⟨rfl, (Kb.of_aft HAW.out).trans (kall.mono fun g _ h => ?_), fun _ => ⟨⟨some ⟨gg, 0, none⟩, o.schemas.length + 1, cap'⟩, ht, L, HL.out, ?_, ?_⟩⟩
    · rcases h with h | h | h
      · exact hIB g h
      · omega
      · rcases hat with h1 | h1
        · exact hIB g (by rw [h]; exact h1)
        · omega
    · refine HOBW.out.newSch kall (fun g hg h => ?_) ?_ (fun g hg => ?_)
      · have hlt := HOBW.out.lt g (List.mem_append.2 (.inr hg))
        rcases h with h | h | h
        · exact nodup_disj HOBW.out.nd (Hd.mem_blk.2 (by rw [HCS.out]; exact h)) hg
        · exact HNE.out g (List.mem_append.2 (.inr hg)) h
        · rcases hat with h1 | h1
          · exact nodup_disj HOBW.out.nd (Hd.mem_blk.2 (by rw [HCS.out, h]; exact h1)) hg
          · omega
      · have := ho7
        rw [List.length_append] at this
        rw [hll]
        exact this
      · rw [blk_some, List.mem_singleton] at hg
        have hg : g = gg := hg
        rw [hg]
        rcases hat with h1 | h1
        · exact .inl (Hd.mem_blk.2 (by rw [HCS.out]; exact h1))
        · exact .inr (by omega)
    · rw [hll]
      exact k7.row row6 (fun e => hgn e.symm))
  have HROW6 := Lib.hid row6
  have c6 := row6.cell (j := 0) rfl
  have z6 := row6.1
  have CS' := Lib.hid (show Calls Tryz.prog 90 #[.slice (some ⟨gg, 0, none⟩) (o.schemas.length + 1) cap', .func (.func 91) #[] #[]] (w5.setCell ⟨n3, 0, none⟩ (.slice (some ⟨gg, 0, none⟩) (o.schemas.length + 1) cap')) (SortedP 99 2 schC cmpSc (w5.setCell ⟨n3, 0, none⟩ (.slice (some ⟨gg, 0, none⟩) (o.schemas.length + 1) cap')) B gg cap' (o.schemas ++ [(⟨name, owner⟩ : Sch)])) from by
    have h := CS.out
    rw [List.length_append, List.length_singleton] at h
    exact h)
  clear hown5 hgrow hat hgl kw5 row5 own6 row6 CS
  go_wp2_with fail
  refine NoPanic.normal ?_
  go_wp2_with fail
  refine CS'.out.mono ?_
  intro e w7 hs7
  obtain ⟨rfl, hp7⟩ := HP.out w7 e hs7
  have HP7 := Lib.hid hp7
  clear hs7 hp7 CS' HP
  go_wp2_with fail
  go_ret
  exact HP7.out
end Go.Proofs.YticjnndhpfdajaaGreat
