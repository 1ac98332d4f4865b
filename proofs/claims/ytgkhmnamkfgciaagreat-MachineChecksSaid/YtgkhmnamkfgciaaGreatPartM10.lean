/- Contracts of the program, part 10. -/
import Derived.IntWalk
import Derived.OwnWalk
import Derived.Laws.AppendOwn
import Derived.ProofKit
import Derived.OpenShut
import Derived.Deep.Slices
import Derived.ChangeOld
import Derived.SizedLaws
import Derived.WalkKit
import Derived.WalkSpells
import Derived.WalkLawsBesides
import Derived.Lib.Hide
import Derived.Deep.QuietTactic
import Derived.BigQuiet
import Derived.Below
import Derived.Deep.Draws
import Derived.StillTailTactics
import Derived.Laws.Cells
import Derived.Laws.IdiomCopy
import Derived.Test.YtgkhmnamkfgciaaGreatRows
import Derived.Lib.Bytealg
import Derived.Deep.RegionHeld3
import Derived.Deep.DeepMust
import Derived.Deep.RegionLaw
import Derived.Deep.AppendLies
import Derived.Deep.Upon
import Derived.OneCell
import Derived.Shelf.SlSortCmp.WholeK
import Derived.Lib.SliceRun
import Derived.Lib.Walk
import Derived.Laws.EntriesVeiled
import Derived.Maps.Own
import Derived.Maps.Views
import Derived.OrdersHeld
import Derived.Lib.AppendZerosOnto
import Derived.Lib.Overlaps
import Derived.Laws.StructEq
import Derived.Test.YtgkhmnamkfgciaaGreatPartM1
import Derived.Test.YtgkhmnamkfgciaaGreatPartM2
import Derived.Test.YtgkhmnamkfgciaaGreatPartM3
import Derived.Test.YtgkhmnamkfgciaaGreatPartM4
import Derived.Test.YtgkhmnamkfgciaaGreatPartM5
import Derived.Test.YtgkhmnamkfgciaaGreatPartM6
import Derived.Test.YtgkhmnamkfgciaaGreatPartM7
import Derived.Test.YtgkhmnamkfgciaaGreatPartM8
import Derived.Test.YtgkhmnamkfgciaaGreatPartM9
namespace Go.Proofs.YtgkhmnamkfgciaaGreat
open Go.RowKit
set_option maxRecDepth 100000
set_option linter.unusedVariables false
theorem rightT_rule (o : Objs) (t : Tab) (k : Nat) (hk : k < t.rules.length) (h : ruleOk o.tables t.cols t.rules[k] = false) : rightT o t = false := by
  unfold rightT; rw [all_false _ _ k hk h]; simp
theorem rightT_rise (o : Objs) (t : Tab) (k : Nat) (hk : k < t.rules.length) (h0 : 0 < k) (h : ltS (t.rules[k - 1]'(by omega)).name t.rules[k].name = false) : rightT o t = false := by
  have h1 : k - 1 + 1 < t.rules.length := by omega
  have e : (t.rules[k - 1 + 1]'h1) = t.rules[k] := by congr 1; omega
  unfold rightT
  rw [risesB_false (fun a b : Rul => cmpS a.name b.name) _ (k - 1) h1]
  · simp
  · rw [e]
    rw [← cmpS_lt] at h
    have := of_decide_eq_false h
    omega
set_option maxHeartbeats 8000000 in
theorem rright_any (o : Objs) (t : Tab) (As : Option Addr) (caps : Nat) (At : Option Addr) (capt : Nat) (A : Option Addr) (cap : Nat) (A2 : Option Addr) (cap2 : Nat) (w : World) (hsch : SlAt w 2 SchR As caps o.schemas) (htab : SlAt w 5 TabR At capt o.tables)
    (h : SlAt w 3 ColR A cap t.cols) (h2 : SlAt w 8 RulR A2 cap2 t.rules) (hn : Small t.name.size) (ho : Small t.owner.size) :
    Calls Tryz.prog 286 #[.agg #[.slice As o.schemas.length caps, .slice At o.tables.length capt], .agg #[.string t.schema, .string t.name, .string t.owner, .slice A t.cols.length cap, .slice A2 t.rules.length cap2]] w
      fun e w' => e = .returned (.bool (rightT o t)) ∧ Aft w w' := by
  have hlen2 := h2.len
  obtain ⟨i, hi⟩ : ∃ i, schAt o.schemas t.schema = i := ⟨_, rfl⟩
  obtain ⟨m, hm⟩ : ∃ m, colsOk t.cols = m := ⟨_, rfl⟩
  have HR0 := Lib.hid (show rightT o t = (nameB t.name && nameB t.owner && m && decide (t.rules.length ≤ 8) && decide (0 ≤ i) && (t.rules.all (ruleOk o.tables t.cols) && risesB (fun a b => cmpS a.name b.name) t.rules)) by unfold rightT; rw [hi, hm])
  have Cs := Lib.hid (show ∀ w', Aft w w' → Calls Tryz.prog 274 #[.agg #[.slice As o.schemas.length caps, .slice At o.tables.length capt], .string t.schema] w' fun e w'' => e = .returned (.int .i64 i) ∧ Aft w' w'' from
    fun w' a => (rsch_any As caps o.schemas _ t.schema w' (schs_aft a hsch)).mono fun e w'' ⟨he, hw⟩ => ⟨he.trans (by rw [← hi]), hw⟩)
  have Cm := Lib.hid (show ∀ w', Aft w w' → Calls Tryz.prog 276 #[.slice A t.cols.length cap] w' fun e w'' => e = .returned (.bool m) ∧ Aft w' w'' from
    fun w' a => (rcols_any A cap t.cols w' (cols_aft a h)).mono fun e w'' ⟨he, hw⟩ => ⟨he.trans (by rw [← hm]), hw⟩)
  clear hi hm
  go_enter Tryz.func286, Tryz.ntmps286
  go_wp2_with fail
  refine (Cs.out _ (((Aft.refl w).alloc _).alloc _)).mono ?_
  rintro e w1 ⟨rfl, a1⟩
  obtain ⟨hbo, hbt, hz, HA⟩ := aft_box2 a1
  have HAB := Lib.hid a1
  clear a1 Cs
  by_cases hi0 : i < 0
  · have HF := Lib.hid (show rightT o t = false by rw [HR0.out, decide_eq_false (show ¬ 0 ≤ i by omega), Bool.and_false]; rfl)
    go_wp2_with fail
    go_ret
    exact ⟨by rw [HF.out]; rfl, HA.out⟩
  have hi1 : 0 ≤ i := by omega
  cases hN : nameB t.name
  · have HF := Lib.hid (show rightT o t = false by rw [HR0.out, hN]; rfl)
    go_wp2_with (go_at_call 176; refine (rname_any _ _ (by first | exact hn.max | exact ho.max)).mono ?_; rintro e w' ⟨rfl, rfl⟩)
    go_ret
    exact ⟨by rw [HF.out]; rfl, HA.out⟩
  cases hO : nameB t.owner
  · have HF := Lib.hid (show rightT o t = false by rw [HR0.out, hN, hO]; rfl)
    go_wp2_with (go_at_call 176; refine (rname_any _ _ (by first | exact hn.max | exact ho.max)).mono ?_; rintro e w' ⟨rfl, rfl⟩)
    go_ret
    exact ⟨by rw [HF.out]; rfl, HA.out⟩
  have HR1 := Lib.hid (show rightT o t = (m && decide (t.rules.length ≤ 8) && (t.rules.all (ruleOk o.tables t.cols) && risesB (fun a b => cmpS a.name b.name) t.rules)) by rw [HR0.out, hN, hO, decide_eq_true hi1]; simp)
  clear HR0
  go_wp2_with (go_at_call 176; refine (rname_any _ _ (by first | exact hn.max | exact ho.max)).mono ?_; rintro e w' ⟨rfl, rfl⟩)
  refine (Cm.out _ HA.out).mono ?_
  rintro e w2 ⟨rfl, a2⟩
  have HAB2 := Lib.hid (HAB.out.trans a2)
  clear a2 Cm HA HAB hbo hbt hz
  obtain ⟨hbo, hbt, hz, HA⟩ := aft_box2 HAB2.out
  cases m
  · have HF := Lib.hid (show rightT o t = false by rw [HR1.out]; rfl)
    go_wp2_with fail
    go_ret
    exact ⟨by rw [HF.out]; rfl, HA.out⟩
  by_cases h8 : 8 < t.rules.length
  · have HF := Lib.hid (show rightT o t = false by rw [HR1.out, decide_eq_false (show ¬ t.rules.length ≤ 8 by omega)]; rfl)
    have h8' : (8 : Int) < (t.rules.length : Int) := by omega
    go_wp2_with fail
    go_ret
    exact ⟨by rw [HF.out]; rfl, HA.out⟩
  have h8' : (t.rules.length : Int) ≤ 8 := by omega
  have d8 : decide ((8 : Int) < (t.rules.length : Int)) = false := decide_eq_false (by omega)
  have HR2 := Lib.hid (show rightT o t = (t.rules.all (ruleOk o.tables t.cols) && risesB (fun a b => cmpS a.name b.name) t.rules) by rw [HR1.out, decide_eq_true (show t.rules.length ≤ 8 by omega)]; rfl)
  clear HR1
  go_wp2_with fail
  go_loopw [5] (fun i wr => ∃ k : Nat, k ≤ t.rules.length ∧ i = .int .i64 k ∧ Aft ((w.alloc (.cells #[.slice As o.schemas.length caps, .slice At o.tables.length capt] 25)).alloc (.cells #[.string t.schema, .string t.name, .string t.owner, .slice A t.cols.length cap, .slice A2 t.rules.length cap2] 86)) wr ∧ ∀ j, j < k → ∀ (hj : j < t.rules.length), ruleOk o.tables t.cols t.rules[j] = true ∧ (0 < j → ltS (t.rules[j - 1]'(by omega)).name t.rules[j].name = true)) (fun i _ => t.rules.length - (intOf i).toNat)
  case atStart => exact ⟨0, Nat.zero_le _, rfl, HAB2.out, fun j hj => absurd hj (Nat.not_lt_zero j)⟩
  case round =>
    clear hbo hbt hz HA HAB2
    obtain ⟨k, hk, rfl, ha, hp⟩ := hrel
    obtain ⟨hbo, hbt, hz, HA⟩ := aft_box2 ha
    have HAB := Lib.hid ha
    have HP := Lib.hid hp; clear hp ha
    by_cases hlt : k < t.rules.length
    · have hr := ruls_aft HA.out h2
      obtain ⟨b, off, D2, capD2, rfl, hb, c0, c1, c2, c3, c4, c5, c6, c7, hcs, s0, s1, s2, s3⟩ := rul_at hr hlt
      obtain ⟨p, hpp⟩ : ∃ p, t.rules[k] = p := ⟨_, rfl⟩
      rw [hpp] at c0 c1 c2 c3 c4 c5 c6 c7 hcs s0 s1 s2 s3
      have HPP := Lib.hid hpp
      obtain ⟨f, hf⟩ : ∃ f, fitsOk t.cols p = f := ⟨_, rfl⟩
      obtain ⟨z, hz'⟩ : ∃ z, keyE o.tables t.cols p = z := ⟨_, rfl⟩
      have HO := Lib.hid (show ruleOk o.tables t.cols t.rules[k] = (f && !(p.kind == 4 && z != 0)) by rw [hpp]; unfold ruleOk; rw [hf, hz'])
      obtain ⟨w3, hw3⟩ : ∃ w3, w3 = wr.alloc (.cells #[.string p.name, .int .i64 p.kind, .slice D2 p.cols.length capD2, .int .i64 p.low, .int .i64 p.high, .string p.schema, .string p.table, .string p.key] 42) := ⟨_, rfl⟩
      have a3 : Aft wr w3 := by rw [hw3]; exact (Aft.refl wr).alloc _
      have hbr : ∀ o', w3.cell? ⟨wr.heap.size, o', none⟩ = (#[.string p.name, .int .i64 p.kind, .slice D2 p.cols.length capD2, .int .i64 p.low, .int .i64 p.high, .string p.schema, .string p.table, .string p.key] : Array Value)[o']? := by intro o'; rw [hw3]; simp
      have hzr : wr.heap.size < w3.heap.size := by rw [hw3]; simp
      have hbo3 : ∀ o', w3.cell? ⟨w.heap.size, o', none⟩ = _ := fun o' => (Below.cell a3 (p := ⟨w.heap.size, o', none⟩) hz.1).trans (hbo o')
      have hbt3 : ∀ o', w3.cell? ⟨w.heap.size + 1, o', none⟩ = _ := fun o' => (Below.cell a3 (p := ⟨w.heap.size + 1, o', none⟩) hz.2).trans (hbt o')
      have hz3 : w.heap.size < w3.heap.size ∧ w.heap.size + 1 < w3.heap.size := ⟨Nat.lt_of_lt_of_le hz.1 a3.size, Nat.lt_of_lt_of_le hz.2 a3.size⟩
      have Cf := Lib.hid (show ∀ x : Lat w3, Calls Tryz.prog 280 #[.slice A t.cols.length cap, .agg #[.string p.name, .int .i64 p.kind, .slice D2 p.cols.length capD2, .int .i64 p.low, .int .i64 p.high, .string p.schema, .string p.table, .string p.key]] (lat w3 x) fun e w'' => e = .returned (.bool f) ∧ Aft (lat w3 x) w'' from
        fun x => (rfits_any A cap t.cols p D2 capD2 (lat w3 x) (cols_aft ((HA.out.trans a3).lat x) h) (strs_aft (a3.lat x) hcs) s0 s1 s2 s3).mono fun e w'' ⟨he, hw⟩ => ⟨he.trans (by rw [← hf]), hw⟩)
      have Ck := Lib.hid (show ∀ w', Aft w3 w' → Calls Tryz.prog 282 #[.agg #[.slice As o.schemas.length caps, .slice At o.tables.length capt], .slice A t.cols.length cap, .agg #[.string p.name, .int .i64 p.kind, .slice D2 p.cols.length capD2, .int .i64 p.low, .int .i64 p.high, .string p.schema, .string p.table, .string p.key]] w' fun e w'' => e = .returned (.int .i64 z) ∧ Aft w' w'' from
        fun w' a => (rkey_any _ At capt o.tables A cap t.cols p D2 capD2 w' (tabs_aft (HA.out.trans (a3.trans a)) htab) (cols_aft (HA.out.trans (a3.trans a)) h) (strs_aft (a3.trans a) hcs)).mono fun e w'' ⟨he, hw⟩ => ⟨he.trans (by rw [← hz']), hw⟩)
      have HA3 := Lib.hid a3
      clear hf hz' hcs
      go_wp2_with fail
      rw [← hw3]
      clear hw3 c0 c1 c2 c3 c4 c5 c6 c7
      by_cases h0 : 0 < k
      · have hk1 : k - 1 < t.rules.length := by omega
        obtain ⟨b', off', D2', capD2', hA', hb', e0, _, _, _, _, _, _, _, _⟩ := rul_at (ruls_aft a3 hr) hk1
        simp only [Option.some.injEq, Addr.mk.injEq, and_true] at hA'
        obtain ⟨rfl, rfl⟩ := hA'
        obtain ⟨p', hpp'⟩ : ∃ p', (t.rules[k - 1]'(by omega)) = p' := ⟨_, rfl⟩
        rw [hpp'] at e0
        have HPP' := Lib.hid hpp'
        have w1' : IntKind.i64.wrap ((k : Int) - 1) = (k : Int) - 1 := IntWalk.i64_in _ (by omega)
        have w2' : (0 : Int) ≤ (k : Int) - 1 := by omega
        have w3' : ((k : Int) - 1).toNat = k - 1 := by omega
        have w4' : (k : Int) - 1 < (t.rules.length : Int) := by omega
        have w5' : decide ((0 : Int) < (k : Int)) = true := decide_eq_true (by omega)
        clear hpp hpp' hr a3
        cases hL : ltS p'.name p.name
        · have hL' : Op.bytesLess p'.name.toList p.name.toList = false := hL
          have HF := Lib.hid (rightT_rise o t k hlt h0 (by rw [HPP.out, HPP'.out]; exact hL))
          clear hL
          refine wp_region_lat (by kernel_rfl) (by kernel_rfl) ?_
          repeat (go_big_quiet_step ((first | (go_at_call 280; exact Calls.lat_of (Cf.out _)))))
          refine wpQuiet_nil ?_
          intro _ hw'
          obtain ⟨x, hw''⟩ := hw'
          subst hw''
          go_wp2_with fail
          go_ret
          exact ⟨by rw [HF.out]; rfl, (HA.out.trans HA3.out).lat x⟩
        have hL' : Op.bytesLess p'.name.toList p.name.toList = true := hL
        have HLT := Lib.hid (show 0 < k → ltS (t.rules[k - 1]'(by omega)).name t.rules[k].name = true by intro _; rw [HPP.out, HPP'.out]; exact hL)
        clear hL
        cases f
        · have HF := Lib.hid (rightT_rule o t k hlt (by rw [HO.out]; rfl))
          refine wp_region_lat (by kernel_rfl) (by kernel_rfl) ?_
          repeat (go_big_quiet_step ((first | (go_at_call 280; exact Calls.lat_of (Cf.out _)))))
          refine wpQuiet_nil ?_
          intro _ hw'
          obtain ⟨x, hw''⟩ := hw'
          subst hw''
          go_wp2_with fail
          go_ret
          exact ⟨by rw [HF.out]; rfl, (HA.out.trans HA3.out).lat x⟩
        refine wp_region_lat (by kernel_rfl) (by kernel_rfl) ?_
        repeat (go_big_quiet_step ((first | (go_at_call 280; exact Calls.lat_of (Cf.out _)))))
        refine wpQuiet_nil ?_
        intro _ hw'
        obtain ⟨x, hw''⟩ := hw'
        subst hw''
        cases h4 : (p.kind == 4)
        · have HN := Lib.hid (ext_lt (p := fun j => ∀ (hj : j < t.rules.length), ruleOk o.tables t.cols t.rules[j] = true ∧ (0 < j → ltS (t.rules[j - 1]'(by omega)).name t.rules[j].name = true)) HP.out (fun _ => ⟨by rw [HO.out, h4]; rfl, HLT.out⟩))
          go_wp2_with fail
          go_roundw
          case rel => exact ⟨k + 1, by omega, by go_num, (HAB.out.trans HA3.out).lat x, HN.out⟩
          case measure => simp [intOf]; omega
        · go_wp2_with fail
          refine (Ck.out _ ((Aft.refl w3).lat x)).mono ?_
          rintro e w4 ⟨rfl, a4⟩
          have HA4 := Lib.hid ((HA3.out.lat x).trans a4)
          clear a4 Ck hbo3 hbt3 hbr
          cases z0 : (z != 0)
          · have HN := Lib.hid (ext_lt (p := fun j => ∀ (hj : j < t.rules.length), ruleOk o.tables t.cols t.rules[j] = true ∧ (0 < j → ltS (t.rules[j - 1]'(by omega)).name t.rules[j].name = true)) HP.out (fun _ => ⟨by rw [HO.out, h4, z0]; rfl, HLT.out⟩))
            go_wp2_with fail
            go_roundw
            case rel => exact ⟨k + 1, by omega, by go_num, HAB.out.trans HA4.out, HN.out⟩
            case measure => simp [intOf]; omega
          · have HF := Lib.hid (rightT_rule o t k hlt (by rw [HO.out, h4, z0]; rfl))
            go_wp2_with fail
            go_ret
            exact ⟨by rw [HF.out]; rfl, HA.out.trans HA4.out⟩
      · have w5' : decide ((0 : Int) < (k : Int)) = false := decide_eq_false (by omega)
        have w6' : (k : Int) ≤ 0 := by omega
        have HLT := Lib.hid (show 0 < k → ltS (t.rules[k - 1]'(by omega)).name t.rules[k].name = true from fun h => absurd h h0)
        clear hpp hr a3
        cases f
        · have HF := Lib.hid (rightT_rule o t k hlt (by rw [HO.out]; rfl))
          refine wp_region_lat (by kernel_rfl) (by kernel_rfl) ?_
          repeat (go_big_quiet_step ((first | (go_at_call 280; exact Calls.lat_of (Cf.out _)))))
          refine wpQuiet_nil ?_
          intro _ hw'
          obtain ⟨x, hw''⟩ := hw'
          subst hw''
          go_wp2_with fail
          go_ret
          exact ⟨by rw [HF.out]; rfl, (HA.out.trans HA3.out).lat x⟩
        refine wp_region_lat (by kernel_rfl) (by kernel_rfl) ?_
        repeat (go_big_quiet_step ((first | (go_at_call 280; exact Calls.lat_of (Cf.out _)))))
        refine wpQuiet_nil ?_
        intro _ hw'
        obtain ⟨x, hw''⟩ := hw'
        subst hw''
        cases h4 : (p.kind == 4)
        · have HN := Lib.hid (ext_lt (p := fun j => ∀ (hj : j < t.rules.length), ruleOk o.tables t.cols t.rules[j] = true ∧ (0 < j → ltS (t.rules[j - 1]'(by omega)).name t.rules[j].name = true)) HP.out (fun _ => ⟨by rw [HO.out, h4]; rfl, HLT.out⟩))
          go_wp2_with fail
          go_roundw
          case rel => exact ⟨k + 1, by omega, by go_num, (HAB.out.trans HA3.out).lat x, HN.out⟩
          case measure => simp [intOf]; omega
        · go_wp2_with fail
          refine (Ck.out _ ((Aft.refl w3).lat x)).mono ?_
          rintro e w4 ⟨rfl, a4⟩
          have HA4 := Lib.hid ((HA3.out.lat x).trans a4)
          clear a4 Ck hbo3 hbt3 hbr
          cases z0 : (z != 0)
          · have HN := Lib.hid (ext_lt (p := fun j => ∀ (hj : j < t.rules.length), ruleOk o.tables t.cols t.rules[j] = true ∧ (0 < j → ltS (t.rules[j - 1]'(by omega)).name t.rules[j].name = true)) HP.out (fun _ => ⟨by rw [HO.out, h4, z0]; rfl, HLT.out⟩))
            go_wp2_with fail
            go_roundw
            case rel => exact ⟨k + 1, by omega, by go_num, HAB.out.trans HA4.out, HN.out⟩
            case measure => simp [intOf]; omega
          · have HF := Lib.hid (rightT_rule o t k hlt (by rw [HO.out, h4, z0]; rfl))
            go_wp2_with fail
            go_ret
            exact ⟨by rw [HF.out]; rfl, HA.out.trans HA4.out⟩
    · have HF := Lib.hid (show rightT o t = true by
        rw [HR2.out, all_true _ _ fun j hj => (HP.out j (by omega) hj).1, rises_pred (fun a b : Rul => cmpS a.name b.name) _ fun j hj1 hj => (cmpS_lt_iff _ _).2 ((HP.out j (by omega) hj).2 (by omega))]; rfl)
      go_wp2_with fail
      go_ret
      exact ⟨by rw [HF.out]; rfl, HA.out⟩
theorem checkO_rows (o : Objs) : checkO o = (decide (o.schemas.length ≤ 8) && decide (o.tables.length ≤ 64) && rowsB o && o.tables.all (rightT o)) := by
  unfold checkO headOk rowsB
  cases decide (o.schemas.length ≤ 8) <;> cases decide (o.tables.length ≤ 64) <;> cases o.schemas.all (schOk o) <;> simp [Bool.and_comm]
set_option maxHeartbeats 8000000 in
theorem rRight_any (o : Objs) (As : Option Addr) (caps : Nat) (At : Option Addr) (capt : Nat) (w : World) (hsch : SlAt w 2 SchR As caps o.schemas) (htab : SlAt w 5 TabR At capt o.tables) :
    Calls Tryz.prog 199 #[.agg #[.slice As o.schemas.length caps, .slice At o.tables.length capt]] w
      fun e w' => e = .returned (.bool (checkO o)) ∧ Aft w w' := by
  have hlen := hsch.len
  have hlen2 := htab.len
  have HR0 := Lib.hid (checkO_rows o)
  by_cases d1 : 8 < o.schemas.length
  · have HF := Lib.hid (show checkO o = false by rw [HR0.out, decide_eq_false (show ¬ o.schemas.length ≤ 8 by omega)]; rfl)
    have e1 : (8 : Int) < (o.schemas.length : Int) := by omega
    go_enter Tryz.func199, Tryz.ntmps199
    go_wp2_with fail
    go_ret
    exact ⟨by rw [HF.out]; rfl, (Aft.refl _).alloc _⟩
  have e1 : (o.schemas.length : Int) ≤ 8 := by omega
  by_cases d2 : 64 < o.tables.length
  · have HF := Lib.hid (show checkO o = false by rw [HR0.out, decide_eq_false (show ¬ o.tables.length ≤ 64 by omega), Bool.and_false]; rfl)
    have e2 : (64 : Int) < (o.tables.length : Int) := by omega
    go_enter Tryz.func199, Tryz.ntmps199
    go_wp2_with fail
    go_ret
    exact ⟨by rw [HF.out]; rfl, (Aft.refl _).alloc _⟩
  have e2 : (o.tables.length : Int) ≤ 64 := by omega
  obtain ⟨g, hg⟩ : ∃ g, rowsB o = g := ⟨_, rfl⟩
  have HR := Lib.hid (show checkO o = (g && o.tables.all (rightT o)) by rw [HR0.out, decide_eq_true (show o.schemas.length ≤ 8 by omega), decide_eq_true (show o.tables.length ≤ 64 by omega), hg]; rfl)
  have C1 := Lib.hid (show ∀ w', Aft w w' → Calls Tryz.prog 285 #[.agg #[.slice As o.schemas.length caps, .slice At o.tables.length capt]] w' fun e w'' => e = .returned (.bool g) ∧ Aft w' w'' from
    fun w' a => (rrows_any o As caps At capt w' (schs_aft a hsch) (tabs_aft a htab)).mono fun e w'' ⟨he, hw⟩ => ⟨he.trans (by rw [← hg]), hw⟩)
  clear hg HR0
  go_enter Tryz.func199, Tryz.ntmps199
  go_wp2_with fail
  refine (C1.out _ ((Aft.refl w).alloc _)).mono ?_
  rintro e w1 ⟨rfl, a1⟩
  obtain ⟨hbox, hfr, hz, hzk, HA⟩ := aft_box a1
  have HAB := Lib.hid a1
  clear a1 C1
  cases g
  · have HF := Lib.hid (show checkO o = false by rw [HR.out]; rfl)
    go_wp2_with fail
    go_ret
    exact ⟨by rw [HF.out]; rfl, HA.out⟩
  have HR2 := Lib.hid (show checkO o = o.tables.all (rightT o) by rw [HR.out]; rfl)
  clear HR
  go_wp2_with fail
  go_loopw [3] (fun i wr => ∃ k : Nat, k ≤ o.tables.length ∧ i = .int .i64 k ∧ Aft (w.alloc (.cells #[.slice As o.schemas.length caps, .slice At o.tables.length capt] 25)) wr ∧ ∀ j, j < k → ∀ (hj : j < o.tables.length), rightT o o.tables[j] = true) (fun i _ => o.tables.length - (intOf i).toNat)
  case atStart => exact ⟨0, Nat.zero_le _, rfl, HAB.out, fun j hj => absurd hj (Nat.not_lt_zero j)⟩
  case round =>
    clear hbox hfr hz hzk HA HAB
    obtain ⟨k2, hk2, rfl, ha, hp⟩ := hrel
    obtain ⟨hbox, hfr, hz, hzk, HA⟩ := aft_box ha
    have HAB := Lib.hid ha
    have HP := Lib.hid hp
    clear ha hp
    by_cases hlt2 : k2 < o.tables.length
    · have htt := tabs_aft HA.out htab
      have hss := schs_aft HA.out hsch
      obtain ⟨b, off, B2, capB2, B3, capB3, rfl, hb, c0, c1, c2, c3, c4, hcols, hrules, s0, s1, s2⟩ := tab_at htt hlt2
      obtain ⟨p, hpp⟩ : ∃ p, o.tables[k2] = p := ⟨_, rfl⟩
      rw [hpp] at c0 c1 c2 c3 c4 hcols hrules s0 s1 s2
      obtain ⟨f, hf⟩ : ∃ f, rightT o p = f := ⟨_, rfl⟩
      have HO := Lib.hid (show rightT o o.tables[k2] = f by rw [hpp]; exact hf)
      have Cr := Lib.hid (show ∀ x : Lat wr, Calls Tryz.prog 286 #[.agg #[.slice As o.schemas.length caps, .slice (some ⟨b, off, none⟩) o.tables.length capt], .agg #[.string p.schema, .string p.name, .string p.owner, .slice B2 p.cols.length capB2, .slice B3 p.rules.length capB3]] (lat wr x) fun e w' => e = .returned (.bool f) ∧ Aft (lat wr x) w' from
        fun x => (rright_any o p As caps _ capt B2 capB2 B3 capB3 (lat wr x) (schs_aft ((Aft.refl wr).lat x) hss) (tabs_aft ((Aft.refl wr).lat x) htt) (cols_aft ((Aft.refl wr).lat x) hcols) (ruls_aft ((Aft.refl wr).lat x) hrules) s1 s2).mono fun e w'' ⟨he, hw⟩ => ⟨he.trans (by rw [← hf]), hw⟩)
      clear hf hpp htt hss hcols hrules
      go_wp2_with fail
      refine wp_region_lat (by kernel_rfl) (by kernel_rfl) ?_
      repeat (go_big_quiet_step ((first | (go_at_call 286; exact Calls.lat_of (Cr.out _)))))
      refine wpQuiet_nil ?_
      intro _ hw'
      obtain ⟨x, hw''⟩ := hw'
      subst hw''
      cases f
      · have HF := Lib.hid (show checkO o = false by rw [HR2.out, all_false _ _ k2 hlt2 HO.out])
        go_wp2_with fail
        go_ret
        exact ⟨by rw [HF.out]; rfl, HA.out.lat x⟩
      · have HN := Lib.hid (ext_lt (p := fun j => ∀ (hj : j < o.tables.length), rightT o o.tables[j] = true) HP.out (fun _ => HO.out))
        go_wp2_with fail
        go_roundw
        case rel => exact ⟨k2 + 1, by omega, by go_num, HAB.out.lat x, HN.out⟩
        case measure => simp [intOf]; omega
    · have HF := Lib.hid (show checkO o = true by rw [HR2.out, all_true _ _ fun j hj => HP.out j (by omega) hj])
      go_wp2_with fail
      go_ret
      exact ⟨by rw [HF.out]; rfl, HA.out⟩
end Go.Proofs.YtgkhmnamkfgciaaGreat

namespace Go.Proofs.YtgkhmnamkfgciaaGreat
open Go.RowKit Go.Deep
set_option maxRecDepth 100000
set_option linter.unusedVariables false
def zeroT : Tab := ⟨⟨#[]⟩, ⟨#[]⟩, ⟨#[]⟩, [], []⟩
theorem setT_row {w : World} {b : Nat} {xs : List Value} (h : RowAt w b xs) (hl : xs.length = 5) (v0 v1 v2 v3 v4 : Value) : RowAt (((((w.setCell ⟨b, 0, none⟩ v0).setCell ⟨b, 1, none⟩ v1).setCell ⟨b, 2, none⟩ v2).setCell ⟨b, 3, none⟩ v3).setCell ⟨b, 4, none⟩ v4) b [v0, v1, v2, v3, v4] := by
  match xs, hl with
  | [a, b, c, d, e], _ => exact ((((h.set 0 _ (by simp)).set 1 _ (by simp)).set 2 _ (by simp)).set 3 _ (by simp)).set 4 _ (by simp)
theorem setT_kb (w : World) (b : Nat) (v0 v1 v2 v3 v4 : Value) : Kb (fun g => g = b) w (((((w.setCell ⟨b, 0, none⟩ v0).setCell ⟨b, 1, none⟩ v1).setCell ⟨b, 2, none⟩ v2).setCell ⟨b, 3, none⟩ v3).setCell ⟨b, 4, none⟩ v4) :=
  ((((Kb.set _ _ _ _).trans (Kb.set _ _ _ _)).trans (Kb.set _ _ _ _)).trans (Kb.set _ _ _ _)).trans (Kb.set _ _ _ _)
end Go.Proofs.YtgkhmnamkfgciaaGreat

namespace Go.Proofs.YtgkhmnamkfgciaaGreat
open Go.RowKit Go.Deep Go.Shelf Go.Sort
set_option linter.unusedVariables false
set_option linter.unusedSectionVars false
section
variable {α : Type} [Inhabited α]
theorem flatK_list (f : α → List Value) (k : Nat) (hk : ∀ x, (f x).length = k) (d : Array α) : (flatK f k d).toList = d.toList.flatMap f := by
  have hl : (d.toList.flatMap f).length = d.size * k := by rw [flatMap_len hk]; simp
  refine List.ext_getElem (by simp [flatK, hl]) fun t h1 h2 => ?_
  have ht : t < d.size * k := by rw [← hl]; exact h2
  have k0 : 0 < k := by
    rcases Nat.eq_zero_or_pos k with h | h
    · subst h; simp at ht
    · exact h
  have hd : t / k < d.size := Nat.div_lt_of_lt_mul (by rw [Nat.mul_comm]; exact ht)
  have hm : t % k < k := Nat.mod_lt _ k0
  have e := flat_get (size := k) (d.toList.map f) (by simp [hk]) (t / k) (t % k) (by simpa using hd) hm
  rw [← List.flatMap_def, Nat.div_add_mod' t k] at e
  rw [List.getElem?_eq_getElem h2] at e
  have e2 : (flatK f k d)[t]! = (f d[t / k]!)[t % k]! := get_flatK f k d t ht
  rw [getElem!_pos _ t (by rw [size_flatK]; exact ht), getElem!_pos d _ hd, getElem!_pos _ _ (by rw [hk]; exact hm)] at e2
  rw [Array.getElem_toList, e2]
  simp only [List.getElem_map, Array.getElem_toList] at e
  rw [List.getElem?_eq_getElem (by rw [hk]; exact hm)] at e
  exact (Option.some.inj e).symm
theorem setMany_list (F G : Array Value) (h : F.size = G.size) : setMany F 0 G.toList = G := by
  refine ext_get! (by rw [size_setMany]; exact h) fun t ht => ?_
  rw [size_setMany] at ht
  rw [get_setMany _ _ _ _ ht, if_pos ⟨Nat.zero_le _, by simpa using (by omega : t < G.size)⟩]
  simp
  rw [getElem!_pos G t (by omega)]
  simp [List.getElem!_eq_getElem?_getD, Array.getElem?_eq_getElem (show t < G.size by omega)]
theorem putRow_cells (w : World) (blk : Nat) (F G : Array Value) (h : Holds id w blk 0 F) (hs : F.size = G.size) : putRow id w blk 0 G = w.setCells blk 0 G.toList := by
  have h1 := putRow_self id w blk 0 F h
  have h2 := setCells_putRow w blk 0 G.toList 0 F (by simp [hs])
  rw [h1, setMany_list F G hs] at h2
  exact h2.symm
theorem holdsK_own {w : World} {B k cap blk : Nat} {e : TypeId} (f : α → List Value) (hk : ∀ x, (f x).length = k) (l : List α) (h0 : 0 < l.length) (ho : w.ownsRow B e k (.slice (some ⟨blk, 0, none⟩) l.length cap) l.length (l.flatMap f)) : HoldsK f k w blk 0 l.toArray := by
  obtain ⟨g, cap', hv, hB, hnc, hr⟩ := own_rowAt ho h0
  have : g = blk := by simp only [Value.slice.injEq, Option.some.injEq, Addr.mk.injEq] at hv; exact hv.1.1.symm
  subst this
  intro j hj
  rw [size_flatK] at hj
  have hj' : j < (l.flatMap f).length := by rw [flatMap_len hk]; simpa using hj
  have e1 := flatK_list f k hk l.toArray
  refine ⟨?_, by rw [Nat.zero_add]; exact hr.2.2 j hj'⟩
  rw [Nat.zero_add, hr.2.1 j hj', id, getElem!_pos _ j (by rw [size_flatK]; exact hj), ← Array.getElem_toList, List.getElem?_eq_getElem hj']
  congr 1
  exact (List.getElem_of_eq e1 _).symm
theorem aft_ahead (w : World) (n : Nat) : Aft w (Go.Sort.ahead w n) := ⟨rfl, rfl, rfl, Nat.le_refl _, fun _ _ => rfl⟩
theorem aft_grow (w : World) (os : Array Obj) : Aft w (grow w os) := ⟨rfl, rfl, rfl, by simp, fun k hk => heap_grow_old w os hk⟩
/-- what a sort leaves -/
def SortedP (e : TypeId) (k : Nat) (f : α → List Value) (cf : α → α → Int) (w : World) (B blk cap : Nat) (l : List α) (x : Ending) (w' : World) : Prop :=
  x = .returned (.tuple #[]) ∧ ∃ l' : List α, l'.Perm l ∧ (∀ i j (hi : i < l'.length) (hj : j < l'.length), i < j → ¬ cf l'[j] l'[i] < 0) ∧ w'.ownsRow B e k (.slice (some ⟨blk, 0, none⟩) l.length cap) l.length (l'.flatMap f) ∧ Kb (fun j => j = blk) w w'
theorem sort_own {P : Program} {ρ : Ren} (L : SlLaysF0.n6 P ρ) (k : Nat) (aE : ∀ w, (isAgg (ρ.t 24)).run P w = .ok true w) (zE : ∀ w, (Go.sizeOf (ρ.t 24)).run P w = .ok k w) (f : α → List Value) (hk : ∀ x, (f x).length = k) (h1 : ∀ x, ∀ v ∈ f x, v.oneCell' = true) (cf : α → α → Int) (hO : SWO (ltOf cf)) (g : Nat) (cb : Array Value)
    (e : TypeId) (B blk cap : Nat) (l : List α) (h0 : 0 < l.length) (hsz : l.length ≤ 1000000) (w : World) (ho : w.ownsRow B e k (.slice (some ⟨blk, 0, none⟩) l.length cap) l.length (l.flatMap f)) (eg : ∀ args w, (callFunc g args).run P w = .ok (.enter g args) w)
    (hc : ∀ W x y, Calls P g (#[.agg (f x).toArray, .agg (f y).toArray] ++ cb) W fun e w' => e = .returned (.int .i64 (cf x y)) ∧ ∃ q os', w' = grow (W.drewN q) os') :
    Calls P (ρ.f 6) #[.slice (some ⟨blk, 0, none⟩) l.length cap, .func (.func g) #[] cb] w (SortedP e k f cf w B blk cap l) := by
  have hH := holdsK_own f hk l h0 ho
  have hb : blk < w.heap.size := (ho.lt blk rfl).2
  refine (AnyQ.slices_SortFunc L k aE zE f hk h1 cf hO g cb blk 0 cap l.toArray w eg (fun m os dk _ x y => hc _ x y) hH hb (by simp; omega)).mono ?_
  rintro x w' ⟨rfl, d', n, os, hp, hs, rfl⟩
  have hsize : d'.size = l.length := by have := hp.1; simpa using this
  have hext : ∀ d : Array α, d.size = l.length → (d.extract 0 l.toArray.size).toList = d.toList := fun d hd => by simp [← hd]
  refine ⟨rfl, d'.toList, ?_, fun i j hi hj hij => ?_, ?_, ?_⟩
  · have := hp.2.2
    rw [hext d' hsize, hext l.toArray (by simp)] at this
    simpa using this
  · have hj2 : j < d'.size := by simpa using hj
    have := hs i j (Nat.zero_le _) hij (by simp; omega)
    rw [getElem!_pos d' j hj2, getElem!_pos d' i (by omega)] at this
    simpa [ltOf] using this
  · unfold sortWorldK putRowK
    rw [putRow_cells (Go.Sort.ahead w n) blk (flatK f k l.toArray) (flatK f k d') (holdsK_ahead f k w n blk 0 l.toArray hH) (by simp [hsize])]
    refine own_aft ?_ (aft_grow _ os)
    have h2 := own_setCells (v := .slice (some ⟨blk, 0, none⟩) l.length cap) (g := blk) rfl (flatK f k d').toList 0 (own_aft ho (aft_ahead w n))
    rw [setL_eq _ _ _ (by simp [flatMap_len hk, hsize])] at h2
    rw [flatK_list f k hk] at h2 ⊢
    have e3 : (d'.toList.flatMap f).length = (l.flatMap f).length := by rw [flatMap_len hk, flatMap_len hk]; simp [hsize]
    rw [List.take_zero, List.nil_append, Nat.zero_add, e3, List.drop_length, List.append_nil] at h2
    exact h2
  · unfold sortWorldK putRowK
    rw [putRow_cells (Go.Sort.ahead w n) blk (flatK f k l.toArray) (flatK f k d') (holdsK_ahead f k w n blk 0 l.toArray hH) (by simp [hsize])]
    exact ((Kb.of_aft (aft_ahead w n)).trans (kb_setCells blk _ _ _)).trans (Kb.of_aft (aft_grow _ os))
end
/-- two rows of the same things, one that rises and one that does not fall, are one -/
theorem perm_rises {α : Type} {c : α → α → Int} (tr : ∀ a b d, c a b < 0 → c b d < 0 → c a d < 0) (anti : ∀ a b, c a b = - c b a) {L l' : List α} (hL : ∀ i j (hi : i < L.length) (hj : j < L.length), i < j → c L[i] L[j] < 0) (hp : l'.Perm L) (hs : ∀ i j (hi : i < l'.length) (hj : j < l'.length), i < j → ¬ c l'[j] l'[i] < 0) : l' = L := by
  have hw : L.Pairwise fun a b => c a b < 0 := List.pairwise_iff_getElem.2 fun i j hi hj hij => hL i j hi hj hij
  have hne : ∀ a ∈ L, ∀ b ∈ L, c a b = 0 → a = b := fun a ha b hb e => by
    obtain ⟨i, hi, rfl⟩ := List.getElem_of_mem ha
    obtain ⟨j, hj, rfl⟩ := List.getElem_of_mem hb
    rcases Nat.lt_trichotomy i j with h | h | h
    · have := hL i j hi hj h; omega
    · subst h; rfl
    · have := hL j i hj hi h; have := anti L[j] L[i]; omega
  have hle : l'.Pairwise fun a b => c a b ≤ 0 := List.pairwise_iff_getElem.2 fun i j hi hj hij => by
    have h1 := hs i j hi hj hij
    have h2 := anti l'[i] l'[j]
    omega
  exact List.Perm.eq_of_pairwise (le := fun a b => c a b ≤ 0) (fun a b ha hb h1 h2 => hne a (hp.subset ha) b hb (by have := anti a b; omega)) hle (hw.imp fun h => Int.le_of_lt h) hp
end Go.Proofs.YtgkhmnamkfgciaaGreat

namespace Go.Proofs.YtgkhmnamkfgciaaGreat
open Go.RowKit
set_option linter.unusedVariables false
structure Gra where
  schema : ByteArray
  table : ByteArray
  right : Int
  giver : ByteArray
  to : ByteArray
  opt : Bool
def graC (g : Gra) : List Value := [.string g.schema, .string g.table, .int .i64 g.right, .string g.giver, .string g.to, .bool g.opt]
def SmG (g : Gra) : Prop := Small g.schema.size ∧ Small g.table.size ∧ Small g.giver.size ∧ Small g.to.size ∧ (Lit.int .i64 g.right).wf = true
def GraR (_ : World) (cs : List Value) (g : Gra) : Prop := cs = graC g ∧ SmG g
structure Cat where
  epoch : Int
  version : Int
  objs : Objs
  rols : Rls
  grants : List Gra
def cmpI (a b : Int) : Int := if a < b then -1 else if b < a then 1 else 0
def cmpG (a b : Gra) : Int := or2 (cmpS a.schema b.schema) (or2 (cmpS a.table b.table) (or2 (cmpI a.right b.right) (or2 (cmpS a.giver b.giver) (cmpS a.to b.to))))
def fiveE (a b : Gra) : Bool := eqS a.schema b.schema && (eqS a.table b.table && ((a.right == b.right) && (eqS a.giver b.giver && eqS a.to b.to)))
def fkey (g : Gra) : ByteArray × ByteArray × Int × ByteArray × ByteArray := (g.schema, g.table, g.right, g.giver, g.to)
/-- an order of things by what they are asked -/
structure Ord7 {α : Type} (c : α → α → Int) : Prop where
  anti : ∀ a b, c a b = - c b a
  le : ∀ a b d, c a b ≤ 0 → c b d ≤ 0 → c a d ≤ 0 ∧ (c a d = 0 → c a b = 0 ∧ c b d = 0)
theorem or2_zero (x y : Int) : or2 x y = 0 ↔ x = 0 ∧ y = 0 := by
  unfold or2
  by_cases h : x = 0
  · subst h; simp
  · have : (x == 0) = false := by simpa using h
    rw [this]; simp [h]
theorem or2_le (x y : Int) : or2 x y ≤ 0 ↔ x < 0 ∨ (x = 0 ∧ y ≤ 0) := by
  unfold or2
  by_cases h : x = 0
  · subst h; simp
  · have : (x == 0) = false := by simpa using h
    rw [this]
    simp only [Bool.false_eq_true, if_false]
    omega
theorem or2_neg (x y : Int) : or2 (-x) (-y) = - or2 x y := by
  unfold or2
  by_cases h : x = 0
  · subst h; simp
  · have h1 : (x == 0) = false := by simpa using h
    have h2 : (-x == 0) = false := by simpa using h
    rw [h1, h2]; simp
theorem Ord7.or2 {α : Type} {c d : α → α → Int} (hc : Ord7 c) (hd : Ord7 d) : Ord7 fun a b => or2 (c a b) (d a b) where
  anti a b := by
    show Go.Proofs.YtgkhmnamkfgciaaGreat.or2 (c a b) (d a b) = - Go.Proofs.YtgkhmnamkfgciaaGreat.or2 (c b a) (d b a)
    rw [hc.anti a b, hd.anti a b, or2_neg]
  le x y z h1 h2 := by
    have h1 := (or2_le _ _).1 h1
    have h2 := (or2_le _ _).1 h2
    have k := hc.le x y z (by omega) (by omega)
    rw [or2_le, or2_zero, or2_zero, or2_zero]
    by_cases e : c x z = 0
    · obtain ⟨e1, e2⟩ := k.2 e
      have m := hd.le x y z (by omega) (by omega)
      exact ⟨.inr ⟨e, m.1⟩, fun h => ⟨⟨e1, (m.2 h.2).1⟩, ⟨e2, (m.2 h.2).2⟩⟩⟩
    · exact ⟨.inl (by omega), fun h => absurd h.1 e⟩
theorem Ord7.on {α β : Type} {c : α → α → Int} (h : Ord7 c) (f : β → α) : Ord7 fun a b => c (f a) (f b) := ⟨fun a b => h.anti _ _, fun a b d => h.le _ _ _⟩
theorem Ord7.of8 {α : Type} {c : α → α → Int} (h : Ord8 c) : Ord7 c where
  anti := h.anti
  le a b d h1 h2 := by
    by_cases e1 : c a b = 0
    · have := h.eq0 _ _ e1; subst this
      exact ⟨h2, fun e => ⟨h.refl _, e⟩⟩
    · by_cases e2 : c b d = 0
      · have := h.eq0 _ _ e2; subst this
        exact ⟨h1, fun e => ⟨e, h.refl _⟩⟩
      · have := h.tr a b d (by omega) (by omega)
        exact ⟨by omega, fun e => by omega⟩
theorem Ord7.lt {α : Type} {c : α → α → Int} (h : Ord7 c) (a b d : α) (h1 : c a b < 0) (h2 : c b d < 0) : c a d < 0 := by
  have k := h.le a b d (by omega) (by omega)
  by_cases e : c a d = 0
  · have := (k.2 e).1; omega
  · omega
theorem ordI : Ord7 cmpI := ⟨fun a b => by unfold cmpI; split <;> split <;> omega, fun a b d => by unfold cmpI; split <;> split <;> split <;> (try split) <;> (try split) <;> omega⟩
theorem ordG : Ord7 cmpG := ((Ord7.of8 ordS).on Gra.schema).or2 (((Ord7.of8 ordS).on Gra.table).or2 ((ordI.on Gra.right).or2 (((Ord7.of8 ordS).on Gra.giver).or2 ((Ord7.of8 ordS).on Gra.to))))
theorem cmpI_zero (a b : Int) : cmpI a b = 0 ↔ (a == b) = true := by
  unfold cmpI
  rw [beq_iff_eq]
  split
  · constructor <;> intro h <;> omega
  · split <;> constructor <;> intro h <;> omega
theorem cmpG_zero (a b : Gra) : cmpG a b = 0 ↔ fiveE a b = true := by
  unfold cmpG fiveE
  simp only [or2_zero, Bool.and_eq_true, cmpS_eq, cmpI_zero]
theorem fiveE_iff (a b : Gra) : fiveE a b = true ↔ fkey a = fkey b := by
  unfold fiveE fkey
  simp only [Bool.and_eq_true, eqS_iff, beq_iff_eq, Prod.mk.injEq]
theorem fiveE_comm (a b : Gra) : fiveE a b = fiveE b a := by
  rw [Bool.eq_iff_iff, fiveE_iff, fiveE_iff]; exact eq_comm
def inG (l : List Gra) (g : Gra) : Bool := l.any fun x => fiveE x g
theorem inG_iff (l : List Gra) (g : Gra) : inG l g = true ↔ fkey g ∈ l.map fkey := by
  unfold inG
  rw [List.any_eq_true, List.mem_map]
  exact ⟨fun ⟨x, hx, h⟩ => ⟨x, hx, (fiveE_iff _ _).1 h⟩, fun ⟨x, hx, h⟩ => ⟨x, hx, (fiveE_iff _ _).2 h⟩⟩
def bRoot : ByteArray := ⟨#[114, 111, 111, 116]⟩
def tabF (o : Objs) (s n : ByteArray) : Tab := if tabAt o.tables s n < 0 then zeroT else (o.tables[(tabAt o.tables s n).toNat]?).getD zeroT
def overB (o : Objs) (s : ByteArray) : ByteArray := if schAt o.schemas s < 0 then ⟨#[]⟩ else ((o.schemas[(schAt o.schemas s).toNat]?).map Sch.owner).getD ⟨#[]⟩
def bossB (o : Objs) (is : List ByteArray) (t : Tab) : Bool := is.any fun r => eqS r bRoot || eqS r t.owner || eqS r (overB o t.schema)
def givesB (l : List Gra) (is : List ByteArray) (s n : ByteArray) (r : Int) (option : Bool) : Bool := l.any fun g => eqS g.schema s && eqS g.table n && (g.right == r) && (g.opt || !option) && inB is g.to
def kindB (r : Int) : Bool := r == 1 || r == 2
def graOk (c : Cat) (g : Gra) : Bool := decide (0 ≤ tabAt c.objs.tables g.schema g.table) && kindB g.right && !eqS g.giver g.to && inB c.rols.names g.giver && inB c.rols.names g.to
def ownersB (c : Cat) : Bool := c.objs.schemas.all (fun s => inB c.rols.names s.owner) && c.objs.tables.all (fun t => inB c.rols.names t.owner)
noncomputable def standsB (c : Cat) : Bool := decide (c.grants.length ≤ 64) && checkO c.objs && rightR c.rols && inB c.rols.names bRoot && ownersB c && (c.grants.all (graOk c) && risesB cmpG c.grants)
noncomputable def justB (c : Cat) (l : List Gra) (g : Gra) : Bool := bossB c.objs (allL c.rols g.giver) (tabF c.objs g.schema g.table) || givesB l (allL c.rols g.giver) g.schema g.table g.right true
/-- which grants hold: the fewest -/
inductive Held (c : Cat) : Gra → Prop
  | mk (g : Gra) (l : List Gra) : g ∈ c.grants → (∀ x ∈ l, Held c x) → justB c l g = true → Held c g
open Classical in
noncomputable def heldB (c : Cat) (g : Gra) : Bool := decide (Held c g)
open Classical in
theorem heldB_iff {c : Cat} {g : Gra} : heldB c g = true ↔ Held c g := by unfold heldB; exact decide_eq_true_iff
noncomputable def holdL (c : Cat) : List Gra := if standsB c then c.grants.filter (heldB c) else []
noncomputable def wholeB (c : Cat) : Bool := standsB c && ((holdL c).length == c.grants.length)
theorem givesB_mono {l l' : List Gra} (h : ∀ x ∈ l, x ∈ l') {is : List ByteArray} {s n : ByteArray} {r : Int} {o : Bool} (hg : givesB l is s n r o = true) : givesB l' is s n r o = true := by
  unfold givesB at hg ⊢
  rw [List.any_eq_true] at hg ⊢
  obtain ⟨x, hx, e⟩ := hg
  exact ⟨x, h x hx, e⟩
theorem justB_mono {c : Cat} {l l' : List Gra} (h : ∀ x ∈ l, x ∈ l') {g : Gra} (hg : justB c l g = true) : justB c l' g = true := by
  unfold justB at hg ⊢
  rw [Bool.or_eq_true] at hg ⊢
  exact hg.imp id (givesB_mono h)
theorem Held.mem {c : Cat} {g : Gra} (h : Held c g) : g ∈ c.grants := by cases h; assumption
/-- what is found so far -/
structure HeldL (c : Cat) (l : List Gra) : Prop where
  sub : ∀ x ∈ l, Held c x
  nd : (l.map fkey).Nodup
theorem HeldL.nil (c : Cat) : HeldL c [] := ⟨fun x hx => by simp at hx, by simp⟩
theorem HeldL.add {c : Cat} {l : List Gra} (h : HeldL c l) {g : Gra} (hg : g ∈ c.grants) (hn : inG l g = false) (hj : justB c l g = true) : HeldL c (l ++ [g]) := by
  refine ⟨fun x hx => ?_, ?_⟩
  · rcases List.mem_append.1 hx with hx | hx
    · exact h.sub x hx
    · rw [List.mem_singleton] at hx; subst hx
      exact .mk x l hg h.sub hj
  · rw [List.map_append, List.nodup_append]
    refine ⟨h.nd, by simp, fun a ha b hb e => ?_⟩
    simp at hb; subst hb; subst e
    have := (inG_iff l g).2 ha
    rw [hn] at this; cases this
theorem HeldL.len {c : Cat} {l : List Gra} (h : HeldL c l) : l.length ≤ c.grants.length := by
  have := nodup_le (l := l.map fkey) (l' := c.grants.map fkey) h.nd fun x hx => by
    obtain ⟨y, hy, rfl⟩ := List.mem_map.1 hx
    exact List.mem_map.2 ⟨y, (h.sub y hy).mem, rfl⟩
  simpa using this
theorem rises_keys {l : List Gra} (h : risesB cmpG l = true) : ∀ x ∈ l, ∀ y ∈ l, fkey x = fkey y → x = y := fun x hx y hy e => by
  obtain ⟨i, hi, rfl⟩ := List.getElem_of_mem hx
  obtain ⟨j, hj, rfl⟩ := List.getElem_of_mem hy
  have e0 : cmpG l[i] l[j] = 0 := (cmpG_zero _ _).2 ((fiveE_iff _ _).2 e)
  rcases Nat.lt_trichotomy i j with h1 | h1 | h1
  · have := rises_lt ordG.lt h i j hi hj h1; omega
  · subst h1; rfl
  · have := rises_lt ordG.lt h j i hj hi h1
    have := ordG.anti l[i] l[j]; omega
/-- closed: what is found is what holds -/
theorem HeldL.all {c : Cat} {l : List Gra} (h : HeldL c l) (hr : risesB cmpG c.grants = true) (hc : ∀ g ∈ c.grants, inG l g = false → justB c l g = false) (g : Gra) (hg : g ∈ c.grants) : inG l g = true ↔ Held c g := by
  have mem : ∀ g ∈ c.grants, inG l g = true → g ∈ l := fun g hg hi => by
    obtain ⟨y, hy, e⟩ := List.mem_map.1 ((inG_iff _ _).1 hi)
    have := rises_keys hr _ ((h.sub y hy).mem) _ hg e
    rw [← this]; exact hy
  constructor
  · exact fun hi => h.sub g (mem g hg hi)
  · intro hh
    induction hh with
    | mk g m hg _ hj ih =>
      by_cases hi : inG l g = true
      · exact hi
      · rw [Bool.not_eq_true] at hi
        have h1 := hc g hg hi
        have h2 := justB_mono (l' := l) (fun x hx => mem x (by
          have := ih x hx
          rename_i hall
          exact (hall x hx).mem) (ih x hx (by rename_i hall; exact (hall x hx).mem))) hj
        rw [h1] at h2; cases h2
theorem perm_same {α : Type} : ∀ {l L : List α}, l.Nodup → L.Nodup → (∀ x, x ∈ l ↔ x ∈ L) → l.Perm L
  | [], L, _, _, h => by
    cases L with
    | nil => exact .nil
    | cons a L => have := (h a).2 (by simp); simp at this
  | a :: l, L, hl, hL, h => by
    obtain ⟨A, B, rfl⟩ := List.append_of_mem ((h a).1 (by simp))
    have hl' := List.nodup_cons.1 hl
    have hp : (A ++ a :: B).Perm (a :: (A ++ B)) := List.perm_middle
    have hL' := List.nodup_cons.1 ((hp.nodup_iff).1 hL)
    refine (List.Perm.cons a (perm_same hl'.2 hL'.2 fun x => ?_)).trans hp.symm
    have hx := h x
    rw [hp.mem_iff, List.mem_cons, List.mem_cons] at hx
    constructor
    · intro hm
      rcases hx.1 (.inr hm) with e | e
      · subst e; exact absurd hm hl'.1
      · exact e
    · intro hm
      rcases hx.2 (.inr hm) with e | e
      · subst e; exact absurd hm hL'.1
      · exact e
theorem nodup_of_keys {l : List Gra} (h : (l.map fkey).Nodup) : l.Nodup := by
  induction l with
  | nil => simp
  | cons a l ih =>
    rw [List.map_cons, List.nodup_cons] at h
    exact List.nodup_cons.2 ⟨fun hm => h.1 (List.mem_map.2 ⟨a, hm, rfl⟩), ih h.2⟩
theorem rises_nodupG {l : List Gra} (h : risesB cmpG l = true) : l.Nodup := by
  rw [List.nodup_iff_pairwise_ne, List.pairwise_iff_getElem]
  intro i j hi hj hij e
  have := rises_lt ordG.lt h i j hi hj hij
  rw [e] at this
  have := ordG.anti l[j] l[j]; omega
/-- what is found, in order, are the grants that hold -/
theorem HeldL.sorted {c : Cat} {l l' : List Gra} (h : HeldL c l) (hr : risesB cmpG c.grants = true) (hc : ∀ g ∈ c.grants, inG l g = false → justB c l g = false) (hp : l'.Perm l) (hs : ∀ i j (hi : i < l'.length) (hj : j < l'.length), i < j → ¬ cmpG l'[j] l'[i] < 0) : l' = c.grants.filter (heldB c) := by
  have hf : ∀ i j (hi : i < (c.grants.filter (heldB c)).length) (hj : j < (c.grants.filter (heldB c)).length), i < j → cmpG (c.grants.filter (heldB c))[i] (c.grants.filter (heldB c))[j] < 0 := by
    have : c.grants.Pairwise fun a b => cmpG a b < 0 := List.pairwise_iff_getElem.2 fun i j hi hj hij => rises_lt ordG.lt hr i j hi hj hij
    exact fun i j hi hj hij => List.pairwise_iff_getElem.1 (this.filter _) i j hi hj hij
  refine perm_rises ordG.lt ordG.anti hf (hp.trans ?_) hs
  refine perm_same (nodup_of_keys h.nd) ((rises_nodupG hr).filter _) fun x => ?_
  rw [List.mem_filter]
  rw [heldB_iff]
  constructor
  · exact fun hx => ⟨(h.sub x hx).mem, h.sub x hx⟩
  · rintro ⟨hx, hh⟩
    obtain ⟨y, hy, e⟩ := List.mem_map.1 ((inG_iff _ _).1 ((h.all hr hc x hx).2 hh))
    rw [← rises_keys hr _ ((h.sub y hy).mem) _ hx e]; exact hy
end Go.Proofs.YtgkhmnamkfgciaaGreat

namespace Go.Proofs.YtgkhmnamkfgciaaGreat
open Go.RowKit Go.Deep
set_option maxRecDepth 100000
set_option linter.unusedVariables false
theorem gra_at {w : World} {A : Option Addr} {cap : Nat} {l : List Gra} (h : SlAt w 6 GraR A cap l) {k : Nat} (hk : k < l.length) :
    ∃ b off, A = some ⟨b, off, none⟩ ∧ b < w.heap.size ∧ w.cell? ⟨b, off + k * 6, none⟩ = some (.string l[k].schema) ∧ w.cell? ⟨b, off + k * 6 + 1, none⟩ = some (.string l[k].table) ∧ w.cell? ⟨b, off + k * 6 + 2, none⟩ = some (.int .i64 l[k].right) ∧
      w.cell? ⟨b, off + k * 6 + 3, none⟩ = some (.string l[k].giver) ∧ w.cell? ⟨b, off + k * 6 + 4, none⟩ = some (.string l[k].to) ∧ w.cell? ⟨b, off + k * 6 + 5, none⟩ = some (.bool l[k].opt) ∧ SmG l[k] := by
  obtain ⟨b, off, cs, hA, hb, hl, ⟨rfl, hs⟩, hc⟩ := h.2.2 k hk
  exact ⟨b, off, hA, hb, by simpa [graC] using hc 0 (by omega), by simpa [graC, Nat.add_assoc] using hc 1 (by omega), by simpa [graC, Nat.add_assoc] using hc 2 (by omega), by simpa [graC, Nat.add_assoc] using hc 3 (by omega), by simpa [graC, Nat.add_assoc] using hc 4 (by omega), by simpa [graC, Nat.add_assoc] using hc 5 (by omega), hs⟩
theorem gras_aft {w w' : World} (a : Aft w w') {A : Option Addr} {cap : Nat} {l : List Gra} (h : SlAt w 6 GraR A cap l) : SlAt w' 6 GraR A cap l := h.aft a fun _ _ h => h
theorem sm_gras {w : World} {A : Option Addr} {cap : Nat} {l : List Gra} (h : SlAt w 6 GraR A cap l) : Small (l.length * 16) ∧ ∀ g ∈ l, SmG g :=
  ⟨h.2.1, fun g hg => by
    obtain ⟨k, hk, rfl⟩ := List.getElem_of_mem hg
    obtain ⟨b, off, cs, hA, hb, hl, ⟨rfl, hs⟩, hc⟩ := h.2.2 k hk
    exact hs⟩
set_option maxHeartbeats 1000000 in
theorem idxGra (A : Option Addr) (cap : Nat) (l : List Gra) (g : FuncId) (caps : Array Value) (p : Gra → Bool) (w : World) (h : SlAt w 6 GraR A cap l) (hent : ∀ (args : Array Value) (w : World), (callFunc g args).run Tryz.prog w = .ok (.enter g args) w)
    (hp : ∀ w', Aft w w' → ∀ i (hi : i < l.length), Calls Tryz.prog g (#[.agg #[.string l[i].schema, .string l[i].table, .int .i64 l[i].right, .string l[i].giver, .string l[i].to, .bool l[i].opt]] ++ caps) w' fun e w'' => e = .returned (.bool (p l[i])) ∧ Aft w' w'') :
    Calls Tryz.prog 207 #[.slice A l.length cap, .func (.func g) #[] caps] w fun e w' => e = .returned (.int .i64 (idxP p l)) ∧ Aft w w' := by
  have hlen := h.len
  have HC := Lib.hid hp
  clear hp
  go_enter Tryz.func207, Tryz.ntmps207
  go_wp2_with fail
  go_loopw [8] (fun i wr => ∃ k : Nat, k ≤ l.length ∧ i = .int .i64 k ∧ Aft w wr ∧ ∀ j, j < k → ∀ (hj : j < l.length), p l[j] = false) (fun i _ => l.length - (intOf i).toNat)
  case atStart => exact ⟨0, Nat.zero_le _, rfl, Aft.refl _, fun j hj => absurd hj (Nat.not_lt_zero j)⟩
  case round =>
    obtain ⟨k, hk, rfl, ha, hp⟩ := hrel
    have HA := Lib.hid ha
    have HP := Lib.hid hp; clear hp
    by_cases hlt : k < l.length
    · have hsl := gras_aft ha h
      clear ha
      obtain ⟨b, off, rfl, hb, c0, c1, c2, c3, c4, c5, hs⟩ := gra_at hsl hlt
      have HK := Lib.hid (HC.out wr HA.out k hlt)
      clear hsl
      obtain ⟨q, hq⟩ : ∃ q, p l[k] = q := ⟨_, rfl⟩
      rw [hq] at HK
      have HQ := Lib.hid hq
      clear hq
      cases q
      · go_wp2_with fail
        refine HK.out.mono ?_
        rintro e w1 ⟨rfl, a1⟩
        have HA1 := Lib.hid (HA.out.trans a1)
        clear a1
        go_wp2_with fail
        go_roundw
        case rel => exact ⟨k + 1, by omega, by go_num, HA1.out, ext_lt (p := fun j => ∀ (hj : j < l.length), p l[j] = false) HP.out (fun _ => HQ.out)⟩
        case measure => simp [intOf]; omega
      · go_wp2_with fail
        refine HK.out.mono ?_
        rintro e w1 ⟨rfl, a1⟩
        have HA1 := Lib.hid (HA.out.trans a1)
        clear a1
        go_wp2_with fail
        go_ret
        exact ⟨by rw [idxP_some p l k hlt HQ.out (fun i hi => HP.out i hi (by omega))]; rfl, HA1.out⟩
    · clear ha
      go_wp2_with fail
      go_ret
      exact ⟨by rw [idxP_none p l (fun i hi => HP.out i (by omega) hi)]; rfl, HA.out⟩
set_option maxHeartbeats 1000000 in
theorem contGra (A : Option Addr) (cap : Nat) (l : List Gra) (g : FuncId) (caps : Array Value) (p : Gra → Bool) (w : World) (h : SlAt w 6 GraR A cap l) (hent : ∀ (args : Array Value) (w : World), (callFunc g args).run Tryz.prog w = .ok (.enter g args) w)
    (hp : ∀ w', Aft w w' → ∀ i (hi : i < l.length), Calls Tryz.prog g (#[.agg #[.string l[i].schema, .string l[i].table, .int .i64 l[i].right, .string l[i].giver, .string l[i].to, .bool l[i].opt]] ++ caps) w' fun e w'' => e = .returned (.bool (p l[i])) ∧ Aft w' w'') :
    Calls Tryz.prog 136 #[.slice A l.length cap, .func (.func g) #[] caps] w fun e w' => e = .returned (.bool (l.any p)) ∧ Aft w w' := by
  have C := Lib.hid (idxGra A cap l g caps p w h hent hp)
  have HE := Lib.hid (idxP_any8 p l)
  obtain ⟨i, hi⟩ : ∃ i, idxP p l = i := ⟨_, rfl⟩
  rw [hi] at C HE
  clear hi h hp
  go_enter Tryz.func136, Tryz.ntmps136
  go_wp2_with fail
  refine C.out.mono ?_
  rintro e w1 ⟨rfl, a1⟩
  have HA := Lib.hid a1
  clear a1
  go_wp2_with fail
  go_ret
  exact ⟨by rw [← HE.out]; rfl, HA.out⟩
set_option maxHeartbeats 1000000 in
theorem contStr (A : Option Addr) (cap : Nat) (l : List ByteArray) (g : FuncId) (caps : Array Value) (p : ByteArray → Bool) (w : World) (h : SlAt w 1 StrR A cap l) (hent : ∀ (args : Array Value) (w : World), (callFunc g args).run Tryz.prog w = .ok (.enter g args) w)
    (hp : ∀ w', Aft w w' → ∀ i (hi : i < l.length), Calls Tryz.prog g (#[.string l[i]] ++ caps) w' fun e w'' => e = .returned (.bool (p l[i])) ∧ Aft w' w'') :
    Calls Tryz.prog 134 #[.slice A l.length cap, .func (.func g) #[] caps] w fun e w' => e = .returned (.bool (l.any p)) ∧ Aft w w' := by
  have C := Lib.hid (idxStr A cap l g caps p w h hent hp)
  have HE := Lib.hid (idxP_any8 p l)
  obtain ⟨i, hi⟩ : ∃ i, idxP p l = i := ⟨_, rfl⟩
  rw [hi] at C HE
  clear hi h hp
  go_enter Tryz.func134, Tryz.ntmps134
  go_wp2_with fail
  refine C.out.mono ?_
  rintro e w1 ⟨rfl, a1⟩
  have HA := Lib.hid a1
  clear a1
  go_wp2_with fail
  go_ret
  exact ⟨by rw [← HE.out]; rfl, HA.out⟩
set_option maxHeartbeats 1000000 in
theorem contTab (A : Option Addr) (cap : Nat) (l : List Tab) (g : FuncId) (caps : Array Value) (p : Tab → Bool) (w : World) (h : SlAt w 5 TabR A cap l) (hent : ∀ (args : Array Value) (w : World), (callFunc g args).run Tryz.prog w = .ok (.enter g args) w)
    (hp : ∀ w', Aft w w' → ∀ i (hi : i < l.length) (e1 : List Value), TabR w' e1 l[i] → Calls Tryz.prog g (#[.agg e1.toArray] ++ caps) w' fun e w'' => e = .returned (.bool (p l[i])) ∧ Aft w' w'') :
    Calls Tryz.prog 153 #[.slice A l.length cap, .func (.func g) #[] caps] w fun e w' => e = .returned (.bool (l.any p)) ∧ Aft w w' := by
  have C := Lib.hid (idxTab A cap l g caps p w h hent hp)
  have HE := Lib.hid (idxP_any8 p l)
  obtain ⟨i, hi⟩ : ∃ i, idxP p l = i := ⟨_, rfl⟩
  rw [hi] at C HE
  clear hi h hp
  go_enter Tryz.func153, Tryz.ntmps153
  go_wp2_with fail
  refine C.out.mono ?_
  rintro e w1 ⟨rfl, a1⟩
  have HA := Lib.hid a1
  clear a1
  go_wp2_with fail
  go_ret
  exact ⟨by rw [← HE.out]; rfl, HA.out⟩
end Go.Proofs.YtgkhmnamkfgciaaGreat

namespace Go.Proofs.YtgkhmnamkfgciaaGreat
open Go.RowKit Go.Shelf Go.Sort
set_option linter.unusedVariables false
/-- an order: what is like another one stands to all as that one does -/
structure Pre8 {α : Type} (c : α → α → Int) : Prop where
  tr : ∀ a b d, c a b < 0 → c b d < 0 → c a d < 0
  anti : ∀ a b, c a b = - c b a
  con : ∀ a b d, c a b = 0 → c a d = c b d
theorem Pre8.swo {α : Type} {c : α → α → Int} (o : Pre8 c) : SWO (ltOf c) where
  irrefl x := by
    have := o.anti x x
    unfold ltOf
    exact decide_eq_false (by omega)
  trans x y z h1 h2 := by
    unfold ltOf at *
    exact decide_eq_true (o.tr _ _ _ (of_decide_eq_true h1) (of_decide_eq_true h2))
  ntrans x y z h1 h2 := by
    unfold ltOf at *
    have h1 := of_decide_eq_false h1
    have h2 := of_decide_eq_false h2
    have a1 := o.anti x y
    have a2 := o.anti y z
    have a3 := o.anti x z
    refine decide_eq_false fun h => ?_
    by_cases e1 : c y x = 0
    · have := o.con y x z e1; omega
    · by_cases e2 : c z y = 0
      · have := o.con z y x e2; omega
      · have := o.tr z y x (by omega) (by omega); omega
theorem Pre8.on {α β : Type} {c : β → β → Int} (o : Pre8 c) (f : α → β) : Pre8 fun a b : α => c (f a) (f b) := ⟨fun a b d => o.tr _ _ _, fun a b => o.anti _ _, fun a b d => o.con _ _ _⟩
instance : Inhabited Sch := ⟨⟨ByteArray.empty, ByteArray.empty⟩⟩
instance : Inhabited Rul := ⟨⟨ByteArray.empty, 0, [], 0, 0, ByteArray.empty, ByteArray.empty, ByteArray.empty⟩⟩
instance : Inhabited ORul := ⟨⟨default, ⟨none, 0, 0⟩⟩⟩
instance : Inhabited OTab := ⟨⟨ByteArray.empty, ByteArray.empty, ByteArray.empty, [], [], ⟨none, 0, 0⟩, ⟨none, 0, 0⟩⟩⟩
end Go.Proofs.YtgkhmnamkfgciaaGreat

namespace Go.Proofs.YtgkhmnamkfgciaaGreat
open Go.RowKit Go.Sort Go.Shelf
set_option maxRecDepth 100000
set_option linter.unusedVariables false
/-- draws and new blocks, nothing else -/
def Gro (w w' : World) : Prop := ∃ q os', w' = grow (w.drewN q) os'
theorem Gro.refl (w : World) : Gro w w := ⟨0, #[], by rw [grow_empty]; rfl⟩
theorem Gro.alloc {w w' : World} (h : Gro w w') (o : Obj) : Gro w (w'.alloc o) := by
  obtain ⟨q, os, rfl⟩ := h
  exact ⟨q, os ++ #[o], by rw [alloc_eq_grow, grow_grow]⟩
theorem Gro.drew {w w' : World} (h : Gro w w') : Gro w w'.drew := by
  obtain ⟨q, os, rfl⟩ := h
  exact ⟨q + 1, os, rfl⟩
theorem wp_region_tail_eq {P : Program} {id : Nat} {Q : Exit → Act → World → Prop} {a : Act} {w : World} {l : List Oper} (n : Nat) (hm : P.follows .mixedOrders = true) (hB : Region.lexTailB .any l.toArray n = true)
    (h : ∀ w1, w1 = w.drew → wpStill P l.toArray w1 (fun a' => wpList P l.toArray Q (l.drop n) a' w1) (l.take n) a) : (Code.region id l.toArray true).wp P Q a w :=
  wp_region_still_tail n hm hB (h _ rfl)
end Go.Proofs.YtgkhmnamkfgciaaGreat

namespace Go.Proofs.YtgkhmnamkfgciaaGreat
open Go.RowKit
def lvFiv (a : Addr) : Sem Value := loadVar 151 a
@[go_sem ↓] theorem lvFiv_eq (a : Addr) : loadVar 151 a = lvFiv a := rfl
@[go_sem] theorem run_lvFiv (w : World) (b o : Nat) (h0 : (w.cell? ⟨b, o, none⟩).isSome = true) (h1 : (w.cell? ⟨b, o + 1, none⟩).isSome = true) (h2 : (w.cell? ⟨b, o + 2, none⟩).isSome = true) (h3 : (w.cell? ⟨b, o + 3, none⟩).isSome = true) (h4 : (w.cell? ⟨b, o + 4, none⟩).isSome = true) : (lvFiv ⟨b, o, none⟩).run Tryz.prog w = .ok (.agg #[(w.cell? ⟨b, o, none⟩).getD undef, (w.cell? ⟨b, o + 1, none⟩).getD undef, (w.cell? ⟨b, o + 2, none⟩).getD undef, (w.cell? ⟨b, o + 3, none⟩).getD undef, (w.cell? ⟨b, o + 4, none⟩).getD undef]) w := run_lv (P := Tryz.prog) w 151 _ 5 b o Tryz.underlying151 rfl (by kernel_rfl) (forall_lt_succ _ _ (forall_lt_succ _ _ (forall_lt_succ _ _ (forall_lt_succ _ _ (forall_lt_succ _ _ (fun j hj => absurd hj (Nat.not_lt_zero j)) h0) h1) h2) h3) h4)
def svFiv (a : Addr) (v : Value) : Sem Unit := storeVar 151 a v
@[go_sem ↓] theorem svFiv_eq (a : Addr) (v : Value) : storeVar 151 a v = svFiv a v := rfl
@[go_sem] theorem run_svFiv (w : World) (b o : Nat) (v0 v1 v2 v3 v4 : Value) (h0 : (w.cell? ⟨b, o, none⟩).isSome = true) (h1 : (w.cell? ⟨b, o + 1, none⟩).isSome = true) (h2 : (w.cell? ⟨b, o + 2, none⟩).isSome = true) (h3 : (w.cell? ⟨b, o + 3, none⟩).isSome = true) (h4 : (w.cell? ⟨b, o + 4, none⟩).isSome = true) (f0 : w.frozen? ⟨b, o, none⟩ = false) (f1 : w.frozen? ⟨b, o + 1, none⟩ = false) (f2 : w.frozen? ⟨b, o + 2, none⟩ = false) (f3 : w.frozen? ⟨b, o + 3, none⟩ = false) (f4 : w.frozen? ⟨b, o + 4, none⟩ = false) (o0 : v0.oneCell' = true) (o1 : v1.oneCell' = true) (o2 : v2.oneCell' = true) (o3 : v3.oneCell' = true) (o4 : v4.oneCell' = true) : (svFiv ⟨b, o, none⟩ (.agg #[v0, v1, v2, v3, v4])).run Tryz.prog w = .ok () (((((w.setCell ⟨b, o, none⟩ v0).setCell ⟨b, o + 1, none⟩ v1).setCell ⟨b, o + 2, none⟩ v2).setCell ⟨b, o + 3, none⟩ v3).setCell ⟨b, o + 4, none⟩ v4) := run_sv (P := Tryz.prog) w 151 b o [v0, v1, v2, v3, v4] (by kernel_rfl) (forall_lt_succ _ _ (forall_lt_succ _ _ (forall_lt_succ _ _ (forall_lt_succ _ _ (forall_lt_succ _ _ (fun j hj => absurd hj (Nat.not_lt_zero j)) ⟨h0, f0, o0⟩) ⟨h1, f1, o1⟩) ⟨h2, f2, o2⟩) ⟨h3, f3, o3⟩) ⟨h4, f4, o4⟩)
end Go.Proofs.YtgkhmnamkfgciaaGreat

namespace Go.Proofs.YtgkhmnamkfgciaaGreat
open Go.RowKit
set_option maxRecDepth 100000
set_option linter.unusedVariables false
def five5 (s t : ByteArray) (r : Int) (g o : ByteArray) (s2 t2 : ByteArray) (r2 : Int) (g2 o2 : ByteArray) : Bool := eqS s s2 && (eqS t t2 && ((r == r2) && (eqS g g2 && eqS o o2)))
set_option maxHeartbeats 2000000 in
theorem run_eqFiv (w : World) (s t : ByteArray) (r : Int) (g o : ByteArray) (s2 t2 : ByteArray) (r2 : Int) (g2 o2 : ByteArray) :
    (Op.equalIn 10000 151 (.agg #[.string s, .string t, .int .i64 r, .string g, .string o]) (.agg #[.string s2, .string t2, .int .i64 r2, .string g2, .string o2])).run Tryz.prog w = .ok (five5 s t r g o s2 t2 r2 g2 o2) w := by
  cases h0 : eqS s s2
  · (have h0' := h0; unfold eqS at h0'; go_simp; simp_all [five5])
  have h0' := h0
  unfold eqS at h0'
  cases h1 : eqS t t2
  · (have h1' := h1; unfold eqS at h1'; go_simp; simp_all [five5])
  have h1' := h1
  unfold eqS at h1'
  cases h2 : (r == r2)
  · (go_simp; simp_all [five5])
  cases h3 : eqS g g2
  · (have h3' := h3; unfold eqS at h3'; go_simp; simp_all [five5])
  have h3' := h3
  unfold eqS at h3'
  cases h4 : eqS o o2
  · (have h4' := h4; unfold eqS at h4'; go_simp; simp_all [five5])
  · (have h4' := h4; unfold eqS at h4'; go_simp; simp_all [five5])
@[go_sem ↓] theorem run_eqlFiv (w : World) (s t : ByteArray) (r : Int) (g o : ByteArray) (s2 t2 : ByteArray) (r2 : Int) (g2 o2 : ByteArray) :
    (binOp .eql 151 (.agg #[.string s, .string t, .int .i64 r, .string g, .string o]) (.agg #[.string s2, .string t2, .int .i64 r2, .string g2, .string o2])).run Tryz.prog w = .ok (.bool (five5 s t r g o s2 t2 r2 g2 o2)) w := by
  rw [run_eql_struct, run_eqFiv]; rfl
theorem five5_is (a b : Gra) : five5 a.schema a.table a.right a.giver a.to b.schema b.table b.right b.giver b.to = fiveE a b := rfl
def gra6 (s t : ByteArray) (r : Int) (g o : ByteArray) (p : Bool) (s2 t2 : ByteArray) (r2 : Int) (g2 o2 : ByteArray) (p2 : Bool) : Bool := eqS s s2 && (eqS t t2 && ((r == r2) && (eqS g g2 && (eqS o o2 && (p == p2)))))
set_option maxHeartbeats 2000000 in
theorem run_eqGra (w : World) (s t : ByteArray) (r : Int) (g o : ByteArray) (p : Bool) (s2 t2 : ByteArray) (r2 : Int) (g2 o2 : ByteArray) (p2 : Bool) :
    (Op.equalIn 10000 106 (.agg #[.string s, .string t, .int .i64 r, .string g, .string o, .bool p]) (.agg #[.string s2, .string t2, .int .i64 r2, .string g2, .string o2, .bool p2])).run Tryz.prog w = .ok (gra6 s t r g o p s2 t2 r2 g2 o2 p2) w := by
  cases h0 : eqS s s2
  · (have h0' := h0; unfold eqS at h0'; go_simp; simp_all [gra6])
  have h0' := h0
  unfold eqS at h0'
  cases h1 : eqS t t2
  · (have h1' := h1; unfold eqS at h1'; go_simp; simp_all [gra6])
  have h1' := h1
  unfold eqS at h1'
  cases h2 : (r == r2)
  · (go_simp; simp_all [gra6])
  cases h3 : eqS g g2
  · (have h3' := h3; unfold eqS at h3'; go_simp; simp_all [gra6])
  have h3' := h3
  unfold eqS at h3'
  cases h4 : eqS o o2
  · (have h4' := h4; unfold eqS at h4'; go_simp; simp_all [gra6])
  have h4' := h4
  unfold eqS at h4'
  cases h5 : (p == p2)
  · (go_simp; simp_all [gra6])
  · (go_simp; simp_all [gra6])
@[go_sem ↓] theorem run_neqGra (w : World) (s t : ByteArray) (r : Int) (g o : ByteArray) (p : Bool) (s2 t2 : ByteArray) (r2 : Int) (g2 o2 : ByteArray) (p2 : Bool) :
    (binOp .neq 106 (.agg #[.string s, .string t, .int .i64 r, .string g, .string o, .bool p]) (.agg #[.string s2, .string t2, .int .i64 r2, .string g2, .string o2, .bool p2])).run Tryz.prog w = .ok (.bool (!gra6 s t r g o p s2 t2 r2 g2 o2 p2)) w := by
  rw [run_neq_struct, run_eqGra]; rfl
def graE (a b : Gra) : Bool := gra6 a.schema a.table a.right a.giver a.to a.opt b.schema b.table b.right b.giver b.to b.opt
theorem graE_iff (a b : Gra) : graE a b = true ↔ a = b := by
  unfold graE gra6
  simp only [Bool.and_eq_true, eqS_iff, beq_iff_eq]
  constructor
  · rintro ⟨h1, h2, h3, h4, h5, h6⟩
    cases a; cases b; simp_all
  · rintro rfl; simp
end Go.Proofs.YtgkhmnamkfgciaaGreat

namespace Go.Proofs.YtgkhmnamkfgciaaGreat
open Go.RowKit Go.Sort Go.Shelf
set_option maxRecDepth 100000
set_option linter.unusedVariables false
/-- the first that is not 0 -/
def orL : List Int → Int
  | [] => 0
  | x :: l => if x == 0 then orL l else x
theorem orL_skip : ∀ (l : List Int) (k : Nat) (hk : k < l.length), (∀ j (hj : j < k), (l[j]'(by omega)) = 0) → l[k] ≠ 0 → orL l = l[k]
  | x :: l, 0, _, _, h => by
    have h : x ≠ 0 := h
    unfold orL
    rw [if_neg (by simpa using h)]; rfl
  | x :: l, k + 1, hk, h0, h => by
    have e : x = 0 := h0 0 (by omega)
    subst e
    unfold orL
    rw [if_pos (by rfl)]
    exact orL_skip l k (by simpa using hk) (fun j hj => h0 (j + 1) (by omega)) h
theorem orL_zero : ∀ (l : List Int), (∀ j (hj : j < l.length), l[j] = 0) → orL l = 0
  | [], _ => rfl
  | x :: l, h => by
    have e : x = 0 := h 0 (by simp)
    subst e
    unfold orL
    rw [if_pos (by rfl)]
    exact orL_zero l fun j hj => h (j + 1) (by simpa using hj)
set_option maxHeartbeats 2000000 in
theorem orL_still (l : List Int) (hl : l.length ≤ 1000) (g : Nat) (w : World) (hg : g < w.heap.size) (hc : ∀ k (hk : k < l.length), w.cell? ⟨g, k, none⟩ = some (.int .i64 l[k])) :
    Calls Tryz.prog 173 #[.slice (some ⟨g, 0, none⟩) l.length l.length] w fun e w' => e = .returned (.int .i64 (orL l)) ∧ w' = w := by
  have HC := Lib.hid hc
  clear hc
  go_enter Tryz.func173, Tryz.ntmps173
  go_wp2_with fail
  go_loop [5, 8] (fun v i => ∃ k : Nat, k ≤ l.length ∧ i = .int .i64 k ∧ ∀ j (hj : j < k) (hj2 : j < l.length), l[j] = 0) (fun v i => l.length - (intOf i).toNat)
  case atStart => exact ⟨0, by omega, rfl, fun j hj => absurd hj (Nat.not_lt_zero j)⟩
  case round =>
    obtain ⟨k, hk, rfl, hz⟩ := hrel
    have HZ := Lib.hid hz
    clear hz
    by_cases hlt : k < l.length
    · have c0 := HC.out k hlt
      obtain ⟨x, hx⟩ : ∃ x, l[k] = x := ⟨_, rfl⟩
      rw [hx] at c0
      have HX := Lib.hid hx
      clear hx
      by_cases h0 : x = 0
      · subst h0
        go_wp2_with fail
        go_round
        case rel => exact ⟨k + 1, by omega, by go_num, fun j hj hj2 => by
          rcases Nat.lt_or_ge j k with h1 | h1
          · exact HZ.out j h1 hj2
          · have : j = k := by omega
            subst this
            exact HX.out⟩
        case measure => simp [intOf]; omega
      · have hb : (x != 0) = true := by simpa using h0
        have HN := Lib.hid h0
        clear h0
        go_wp2_with fail
        go_ret
        exact ⟨by rw [orL_skip l k hlt (fun j hj => HZ.out j hj (by omega)) (by rw [HX.out]; exact HN.out), HX.out]; rfl, rfl⟩
    · go_wp2_with fail
      go_ret
      exact ⟨by rw [orL_zero l fun j hj => HZ.out j (by omega) hj]; rfl, rfl⟩
theorem nan_right (x : Int) (w : World) : Calls Tryz.prog 272 #[.int .i64 x] w fun e w' => e = .returned (.bool false) ∧ w' = w := by
  go_enter Tryz.func272, Tryz.ntmps272
  go_wp2_with fail
  go_ret
  exact ⟨by simp, rfl⟩
set_option maxHeartbeats 2000000 in
theorem cmp_right (x y : Int) (w : World) : Calls Tryz.prog 174 #[.int .i64 x, .int .i64 y] w fun e w' => e = .returned (.int .i64 (cmpI x y)) ∧ w' = w := by
  have HE := Lib.hid (show cmpI x y = if x < y then -1 else if y < x then 1 else 0 from rfl)
  obtain ⟨r, hr⟩ : ∃ r, cmpI x y = r := ⟨_, rfl⟩
  rw [hr] at HE ⊢
  clear hr
  go_enter Tryz.func174, Tryz.ntmps174
  by_cases h1 : x < y
  · have HE2 := Lib.hid (show r = -1 by rw [HE.out, if_pos h1])
    go_wp2_with (go_at_call 272; refine (nan_right _ _).mono ?_; rintro e w' ⟨rfl, rfl⟩)
    go_ret
    exact ⟨by rw [HE2.out]; rfl, rfl⟩
  · by_cases h2 : y < x
    · have HE2 := Lib.hid (show r = 1 by rw [HE.out, if_neg h1, if_pos h2])
      go_wp2_with (go_at_call 272; refine (nan_right _ _).mono ?_; rintro e w' ⟨rfl, rfl⟩)
      go_ret
      exact ⟨by rw [HE2.out]; rfl, rfl⟩
    · have HE2 := Lib.hid (show r = 0 by rw [HE.out, if_neg h1, if_neg h2])
      go_wp2_with (go_at_call 272; refine (nan_right _ _).mono ?_; rintro e w' ⟨rfl, rfl⟩)
      go_ret
      exact ⟨by rw [HE2.out]; rfl, rfl⟩
theorem orL_five (a b c d e : Int) : orL [a, b, c, d, e] = or2 a (or2 b (or2 c (or2 d e))) := by
  unfold orL orL orL orL orL orL or2
  by_cases h : e = 0
  · subst h; simp
  · have : (e == 0) = false := by simpa using h
    simp [this]
set_option maxHeartbeats 4000000 in
theorem orderG_gro (a b : Gra) (w : World) :
    Calls Tryz.prog 110 #[.agg #[.string a.schema, .string a.table, .int .i64 a.right, .string a.giver, .string a.to, .bool a.opt], .agg #[.string b.schema, .string b.table, .int .i64 b.right, .string b.giver, .string b.to, .bool b.opt]] w fun e w' => e = .returned (.int .i64 (cmpG a b)) ∧ Gro w w' := by
  have HE := Lib.hid (show orL [cmpS a.schema b.schema, cmpS a.table b.table, cmpI a.right b.right, cmpS a.giver b.giver, cmpS a.to b.to] = cmpG a b from orL_five _ _ _ _ _)
  have CC := Lib.hid (cmp_right a.right b.right)
  obtain ⟨r, hr⟩ : ∃ r, cmpI a.right b.right = r := ⟨_, rfl⟩
  rw [hr] at HE CC
  clear hr
  go_enter Tryz.func110, Tryz.ntmps110
  go_wp2_with fail
  have HG := Lib.hid (((Gro.refl w).alloc (.cells #[.string a.schema, .string a.table, .int .i64 a.right, .string a.giver, .string a.to, .bool a.opt] 106)).alloc (.cells #[.string b.schema, .string b.table, .int .i64 b.right, .string b.giver, .string b.to, .bool b.opt] 106)).drew
  refine wp_region_tail_eq 25 (by kernel_rfl) (by kernel_rfl) ?_
  intro w1 hw1
  have a1 : Aft ((w.alloc (.cells #[.string a.schema, .string a.table, .int .i64 a.right, .string a.giver, .string a.to, .bool a.opt] 106)).alloc (.cells #[.string b.schema, .string b.table, .int .i64 b.right, .string b.giver, .string b.to, .bool b.opt] 106)) w1 := by rw [hw1]; exact (Aft.refl _).drew
  rw [← hw1] at HG
  clear hw1
  obtain ⟨hb1, hb2, hz, HA⟩ := aft_box2 a1
  clear a1 HA
  simp only [List.take_succ_cons, List.take_zero, List.drop_succ_cons, List.drop_zero]
  repeat still_step
  still_call (compare_still _ _ _)
  repeat still_step
  still_call (compare_still _ _ _)
  repeat still_step
  still_call (CC.out _)
  repeat still_step
  still_call (compare_still _ _ _)
  repeat still_step
  still_call (compare_still _ _ _)
  refine wpStill_nil ?_
  go_wp2_with fail
  refine (orL_still [cmpS a.schema b.schema, cmpS a.table b.table, r, cmpS a.giver b.giver, cmpS a.to b.to] (by simp) w1.heap.size _ (by simp) (fun k hk => ?_)).mono ?_
  · match k, hk with
    | 0, _ => simp
    | 1, _ => simp
    | 2, _ => simp
    | 3, _ => simp
    | 4, _ => simp
  rintro e w2 ⟨rfl, rfl⟩
  have HG2 := Lib.hid (HG.out.alloc (.cells #[.int .i64 (cmpS a.schema b.schema), .int .i64 (cmpS a.table b.table), .int .i64 r, .int .i64 (cmpS a.giver b.giver), .int .i64 (cmpS a.to b.to)] 3))
  go_wp2_with fail
  go_ret
  exact ⟨by rw [HE.out]; rfl, HG2.out⟩
theorem Gro.aft {w w' : World} (h : Gro w w') : Aft w w' := by
  obtain ⟨q, os, rfl⟩ := h
  exact ((Aft.refl w).drewN q).trans (aft_grow _ os)
theorem orderG (a b : Gra) (w : World) :
    Calls Tryz.prog 110 #[.agg #[.string a.schema, .string a.table, .int .i64 a.right, .string a.giver, .string a.to, .bool a.opt], .agg #[.string b.schema, .string b.table, .int .i64 b.right, .string b.giver, .string b.to, .bool b.opt]] w fun e w' => e = .returned (.int .i64 (cmpG a b)) ∧ Aft w w' := (orderG_gro a b w).mono fun e w' ⟨h, g⟩ => ⟨h, g.aft⟩
theorem kindG (x : Int) (w : World) : Calls Tryz.prog 75 #[.int .i64 x] w fun e w' => e = .returned (.bool (kindB x)) ∧ w = w' := by
  have HK := Lib.hid (show kindB x = (x == 1 || x == 2) from rfl)
  go_enter Tryz.func75, Tryz.ntmps75
  cases h1 : (x == 1) <;> cases h2 : (x == 2)
  all_goals
    rw [h1, h2] at HK
    go_wp2_with fail
    go_ret
    exact ⟨by rw [HK.out]; rfl, rfl⟩
theorem lvFiv_row {W : World} {b : Nat} {a c d e f : Value} (h : RowAt W b [a, c, d, e, f]) : (loadVar 151 ⟨b, 0, none⟩).run Tryz.prog W = .ok (.agg #[a, c, d, e, f]) W := by
  have e0 := h.cell (j := 0) rfl
  have e1 := h.cell (j := 1) rfl
  have e2 := h.cell (j := 2) rfl
  have e3 := h.cell (j := 3) rfl
  have e4 := h.cell (j := 4) rfl
  have h1 := run_lvFiv W b 0 (by rw [e0]; rfl) (by rw [e1]; rfl) (by rw [e2]; rfl) (by rw [e3]; rfl) (by rw [e4]; rfl)
  rw [e0, e1, e2, e3, e4] at h1
  exact h1
set_option maxHeartbeats 1000000 in
theorem ofG (g : Gra) (w : World) : Calls Tryz.prog 108 #[.agg #[.string g.schema, .string g.table, .int .i64 g.right, .string g.giver, .string g.to, .bool g.opt]] w fun e w' => e = .returned (.agg #[.string g.schema, .string g.table, .int .i64 g.right, .string g.giver, .string g.to]) ∧ Aft w w' := by
  go_enter Tryz.func108, Tryz.ntmps108
  go_wp2_with fail
  refine bodyPost_ret (results_cell (v := .agg #[.string g.schema, .string g.table, .int .i64 g.right, .string g.giver, .string g.to]) rfl _ rfl ?hl) rfl ?_
  case hl =>
    have := lvFiv_row (box_row2 (w := w.alloc (.cells #[.string g.schema, .string g.table, .int .i64 g.right, .string g.giver, .string g.to, .bool g.opt] 106)) (c := [.string g.schema, .string g.table, .int .i64 g.right, .string g.giver, .string g.to]) (t := 151) (Aft.refl _))
    simpa using this
  exact ⟨rfl, ((Aft.refl _).alloc _).alloc _⟩
end Go.Proofs.YtgkhmnamkfgciaaGreat

