/- Contracts of the program, part 22. -/
import Derived.IntWalk
import Derived.OwnWalk
import Derived.Laws.AppendOwn
import Derived.ProofKit
import Derived.OpenShut
import Derived.Deep.Slices
import Derived.ChangeOld
import Derived.SizedLaws
import Derived.WalkKit
import Derived.WalkSpells
import Derived.WalkLawsBesides
import Derived.Lib.Hide
import Derived.Deep.QuietTactic
import Derived.BigQuiet
import Derived.Below
import Derived.Deep.Draws
import Derived.StillTailTactics
import Derived.Laws.Cells
import Derived.Laws.IdiomCopy
import Derived.Test.YtlklmekapbojdaaGreatRows
import Derived.Lib.Bytealg
import Derived.Deep.RegionHeld3
import Derived.Deep.AppendLies
import Derived.Deep.DeepMust
import Derived.Lib.Walk
import Derived.Laws.EntriesVeiled
import Derived.Maps.Own
import Derived.Maps.Views
import Derived.Deep.Upon
import Derived.OneCell
import Derived.OrdersHeld
import Derived.Lib.SliceRun
import Derived.Deep.RegionLaw
import Derived.Lib.AppendZerosOnto
import Derived.Lib.Overlaps
import Derived.Shelf.SlSortCmp.WholeK
import Derived.Laws.StructEq
import Derived.WalkMore
import Derived.WideKeyEntry
import Derived.DeepKeys3
import Derived.ChangeKeys
import Derived.Test.YtlklmekapbojdaaGreatPartL1
import Derived.Test.YtlklmekapbojdaaGreatPartL2
import Derived.Test.YtlklmekapbojdaaGreatPartL3
import Derived.Test.YtlklmekapbojdaaGreatPartL4
import Derived.Test.YtlklmekapbojdaaGreatPartL5
import Derived.Test.YtlklmekapbojdaaGreatPartL6
import Derived.Test.YtlklmekapbojdaaGreatPartL7
import Derived.Test.YtlklmekapbojdaaGreatPartL8
import Derived.Test.YtlklmekapbojdaaGreatPartL9
import Derived.Test.YtlklmekapbojdaaGreatPartL10
import Derived.Test.YtlklmekapbojdaaGreatPartL17
import Derived.Test.YtlklmekapbojdaaGreatPartL20
import Derived.Test.YtlklmekapbojdaaGreatPartL21
namespace Go.Proofs.YtlklmekapbojdaaGreat
open Go.RowKit
set_option maxRecDepth 100000
set_option linter.unusedVariables false
theorem rightT_rule (o : Objs) (t : Tab) (k : Nat) (hk : k < t.rules.length) (h : ruleOk o.tables t.cols t.rules[k] = false) : rightT o t = false := by
  unfold rightT; rw [all_false _ _ k hk h]; simp
theorem rightT_rise (o : Objs) (t : Tab) (k : Nat) (hk : k < t.rules.length) (h0 : 0 < k) (h : ltS (t.rules[k - 1]'(by omega)).name t.rules[k].name = false) : rightT o t = false := by
  have h1 : k - 1 + 1 < t.rules.length := by omega
  have e : (t.rules[k - 1 + 1]'h1) = t.rules[k] := by congr 1; omega
  unfold rightT
  rw [risesB_false (fun a b : Rul => cmpS a.name b.name) _ (k - 1) h1]
  · simp
  · rw [e]
    rw [← cmpS_lt] at h
    have := of_decide_eq_false h
    omega
set_option maxHeartbeats 8000000 in
theorem rright_any (o : Objs) (t : Tab) (As : Option Addr) (caps : Nat) (At : Option Addr) (capt : Nat) (A : Option Addr) (cap : Nat) (A2 : Option Addr) (cap2 : Nat) (w : World) (hsch : SlAt w 2 SchR As caps o.schemas) (htab : SlAt w 5 TabR At capt o.tables)
    (h : SlAt w 3 ColR A cap t.cols) (h2 : SlAt w 8 RulR A2 cap2 t.rules) (hn : Small t.name.size) (ho : Small t.owner.size) :
    Calls Tryz.prog 69 #[.agg #[.slice As o.schemas.length caps, .slice At o.tables.length capt], .agg #[.string t.schema, .string t.name, .string t.owner, .slice A t.cols.length cap, .slice A2 t.rules.length cap2]] w
      fun e w' => e = .returned (.bool (rightT o t)) ∧ Aft w w' := by
  have hlen2 := h2.len
  obtain ⟨i, hi⟩ : ∃ i, schAt o.schemas t.schema = i := ⟨_, rfl⟩
  obtain ⟨m, hm⟩ : ∃ m, colsOk t.cols = m := ⟨_, rfl⟩
  have HR0 := Lib.hid (show rightT o t = (nameB t.name && nameB t.owner && m && decide (t.rules.length ≤ 8) && decide (0 ≤ i) && (t.rules.all (ruleOk o.tables t.cols) && risesB (fun a b => cmpS a.name b.name) t.rules)) by unfold rightT; rw [hi, hm])
  have Cs := Lib.hid (show ∀ w', Aft w w' → Calls Tryz.prog 130 #[.agg #[.slice As o.schemas.length caps, .slice At o.tables.length capt], .string t.schema] w' fun e w'' => e = .returned (.int .i64 i) ∧ Aft w' w'' from
    fun w' a => (rsch_any As caps o.schemas _ t.schema w' (schs_aft a hsch)).mono fun e w'' ⟨he, hw⟩ => ⟨he.trans (by rw [← hi]), hw⟩)
  have Cm := Lib.hid (show ∀ w', Aft w w' → Calls Tryz.prog 116 #[.slice A t.cols.length cap] w' fun e w'' => e = .returned (.bool m) ∧ Aft w' w'' from
    fun w' a => (rcols_any A cap t.cols w' (cols_aft a h)).mono fun e w'' ⟨he, hw⟩ => ⟨he.trans (by rw [← hm]), hw⟩)
  clear hi hm
  go_enter Tryz.func69, Tryz.ntmps69
  go_wp2_with fail
  refine (Cs.out _ (((Aft.refl w).alloc _).alloc _)).mono ?_
  rintro e w1 ⟨rfl, a1⟩
  obtain ⟨hbo, hbt, hz, HA⟩ := aft_box2 a1
  have HAB := Lib.hid a1
  clear a1 Cs
  by_cases hi0 : i < 0
  · have HF := Lib.hid (show rightT o t = false by rw [HR0.out, decide_eq_false (show ¬ 0 ≤ i by omega), Bool.and_false]; rfl)
    go_wp2_with fail
    go_ret
    exact ⟨by rw [HF.out]; rfl, HA.out⟩
  have hi1 : 0 ≤ i := by omega
  cases hN : nameB t.name
  · have HF := Lib.hid (show rightT o t = false by rw [HR0.out, hN]; rfl)
    go_wp2_with (go_at_call 124; refine (rname_any _ _ (by first | exact hn.max | exact ho.max)).mono ?_; rintro e w' ⟨rfl, rfl⟩)
    go_ret
    exact ⟨by rw [HF.out]; rfl, HA.out⟩
  cases hO : nameB t.owner
  · have HF := Lib.hid (show rightT o t = false by rw [HR0.out, hN, hO]; rfl)
    go_wp2_with (go_at_call 124; refine (rname_any _ _ (by first | exact hn.max | exact ho.max)).mono ?_; rintro e w' ⟨rfl, rfl⟩)
    go_ret
    exact ⟨by rw [HF.out]; rfl, HA.out⟩
  have HR1 := Lib.hid (show rightT o t = (m && decide (t.rules.length ≤ 8) && (t.rules.all (ruleOk o.tables t.cols) && risesB (fun a b => cmpS a.name b.name) t.rules)) by rw [HR0.out, hN, hO, decide_eq_true hi1]; simp)
  clear HR0
  go_wp2_with (go_at_call 124; refine (rname_any _ _ (by first | exact hn.max | exact ho.max)).mono ?_; rintro e w' ⟨rfl, rfl⟩)
  refine (Cm.out _ HA.out).mono ?_
  rintro e w2 ⟨rfl, a2⟩
  have HAB2 := Lib.hid (HAB.out.trans a2)
  clear a2 Cm HA HAB hbo hbt hz
  obtain ⟨hbo, hbt, hz, HA⟩ := aft_box2 HAB2.out
  cases m
  · have HF := Lib.hid (show rightT o t = false by rw [HR1.out]; rfl)
    go_wp2_with fail
    go_ret
    exact ⟨by rw [HF.out]; rfl, HA.out⟩
  by_cases h8 : 8 < t.rules.length
  · have HF := Lib.hid (show rightT o t = false by rw [HR1.out, decide_eq_false (show ¬ t.rules.length ≤ 8 by omega)]; rfl)
    have h8' : (8 : Int) < (t.rules.length : Int) := by omega
    go_wp2_with fail
    go_ret
    exact ⟨by rw [HF.out]; rfl, HA.out⟩
  have h8' : (t.rules.length : Int) ≤ 8 := by omega
  have d8 : decide ((8 : Int) < (t.rules.length : Int)) = false := decide_eq_false (by omega)
  have HR2 := Lib.hid (show rightT o t = (t.rules.all (ruleOk o.tables t.cols) && risesB (fun a b => cmpS a.name b.name) t.rules) by rw [HR1.out, decide_eq_true (show t.rules.length ≤ 8 by omega)]; rfl)
  clear HR1
  go_wp2_with fail
  go_loopw [5] (fun i wr => ∃ k : Nat, k ≤ t.rules.length ∧ i = .int .i64 k ∧ Aft ((w.alloc (.cells #[.slice As o.schemas.length caps, .slice At o.tables.length capt] 29)).alloc (.cells #[.string t.schema, .string t.name, .string t.owner, .slice A t.cols.length cap, .slice A2 t.rules.length cap2] 89)) wr ∧ ∀ j, j < k → ∀ (hj : j < t.rules.length), ruleOk o.tables t.cols t.rules[j] = true ∧ (0 < j → ltS (t.rules[j - 1]'(by omega)).name t.rules[j].name = true)) (fun i _ => t.rules.length - (intOf i).toNat)
  case atStart => exact ⟨0, Nat.zero_le _, rfl, HAB2.out, fun j hj => absurd hj (Nat.not_lt_zero j)⟩
  case round =>
    clear hbo hbt hz HA HAB2
    obtain ⟨k, hk, rfl, ha, hp⟩ := hrel
    obtain ⟨hbo, hbt, hz, HA⟩ := aft_box2 ha
    have HAB := Lib.hid ha
    have HP := Lib.hid hp; clear hp ha
    by_cases hlt : k < t.rules.length
    · have hr := ruls_aft HA.out h2
      obtain ⟨b, off, D2, capD2, rfl, hb, c0, c1, c2, c3, c4, c5, c6, c7, hcs, s0, s1, s2, s3⟩ := rul_at hr hlt
      obtain ⟨p, hpp⟩ : ∃ p, t.rules[k] = p := ⟨_, rfl⟩
      rw [hpp] at c0 c1 c2 c3 c4 c5 c6 c7 hcs s0 s1 s2 s3
      have HPP := Lib.hid hpp
      obtain ⟨f, hf⟩ : ∃ f, fitsOk t.cols p = f := ⟨_, rfl⟩
      obtain ⟨z, hz'⟩ : ∃ z, keyE o.tables t.cols p = z := ⟨_, rfl⟩
      have HO := Lib.hid (show ruleOk o.tables t.cols t.rules[k] = (f && !(p.kind == 4 && z != 0)) by rw [hpp]; unfold ruleOk; rw [hf, hz'])
      obtain ⟨w3, hw3⟩ : ∃ w3, w3 = wr.alloc (.cells #[.string p.name, .int .i64 p.kind, .slice D2 p.cols.length capD2, .int .i64 p.low, .int .i64 p.high, .string p.schema, .string p.table, .string p.key] 121) := ⟨_, rfl⟩
      have a3 : Aft wr w3 := by rw [hw3]; exact (Aft.refl wr).alloc _
      have hbr : ∀ o', w3.cell? ⟨wr.heap.size, o', none⟩ = (#[.string p.name, .int .i64 p.kind, .slice D2 p.cols.length capD2, .int .i64 p.low, .int .i64 p.high, .string p.schema, .string p.table, .string p.key] : Array Value)[o']? := by intro o'; rw [hw3]; simp
      have hzr : wr.heap.size < w3.heap.size := by rw [hw3]; simp
      have hbo3 : ∀ o', w3.cell? ⟨w.heap.size, o', none⟩ = _ := fun o' => (Below.cell a3 (p := ⟨w.heap.size, o', none⟩) hz.1).trans (hbo o')
      have hbt3 : ∀ o', w3.cell? ⟨w.heap.size + 1, o', none⟩ = _ := fun o' => (Below.cell a3 (p := ⟨w.heap.size + 1, o', none⟩) hz.2).trans (hbt o')
      have hz3 : w.heap.size < w3.heap.size ∧ w.heap.size + 1 < w3.heap.size := ⟨Nat.lt_of_lt_of_le hz.1 a3.size, Nat.lt_of_lt_of_le hz.2 a3.size⟩
      have Cf := Lib.hid (show ∀ x : Lat w3, Calls Tryz.prog 131 #[.slice A t.cols.length cap, .agg #[.string p.name, .int .i64 p.kind, .slice D2 p.cols.length capD2, .int .i64 p.low, .int .i64 p.high, .string p.schema, .string p.table, .string p.key]] (lat w3 x) fun e w'' => e = .returned (.bool f) ∧ Aft (lat w3 x) w'' from
        fun x => (rfits_any A cap t.cols p D2 capD2 (lat w3 x) (cols_aft ((HA.out.trans a3).lat x) h) (strs_aft (a3.lat x) hcs) s0 s1 s2 s3).mono fun e w'' ⟨he, hw⟩ => ⟨he.trans (by rw [← hf]), hw⟩)
      have Ck := Lib.hid (show ∀ w', Aft w3 w' → Calls Tryz.prog 132 #[.agg #[.slice As o.schemas.length caps, .slice At o.tables.length capt], .slice A t.cols.length cap, .agg #[.string p.name, .int .i64 p.kind, .slice D2 p.cols.length capD2, .int .i64 p.low, .int .i64 p.high, .string p.schema, .string p.table, .string p.key]] w' fun e w'' => e = .returned (.int .i64 z) ∧ Aft w' w'' from
        fun w' a => (rkey_any _ At capt o.tables A cap t.cols p D2 capD2 w' (tabs_aft (HA.out.trans (a3.trans a)) htab) (cols_aft (HA.out.trans (a3.trans a)) h) (strs_aft (a3.trans a) hcs)).mono fun e w'' ⟨he, hw⟩ => ⟨he.trans (by rw [← hz']), hw⟩)
      have HA3 := Lib.hid a3
      clear hf hz' hcs
      go_wp2_with fail
      rw [← hw3]
      clear hw3 c0 c1 c2 c3 c4 c5 c6 c7
      by_cases h0 : 0 < k
      · have hk1 : k - 1 < t.rules.length := by omega
        obtain ⟨b', off', D2', capD2', hA', hb', e0, _, _, _, _, _, _, _, _⟩ := rul_at (ruls_aft a3 hr) hk1
        simp only [Option.some.injEq, Addr.mk.injEq, and_true] at hA'
        obtain ⟨rfl, rfl⟩ := hA'
        obtain ⟨p', hpp'⟩ : ∃ p', (t.rules[k - 1]'(by omega)) = p' := ⟨_, rfl⟩
        rw [hpp'] at e0
        have HPP' := Lib.hid hpp'
        have w1' : IntKind.i64.wrap ((k : Int) - 1) = (k : Int) - 1 := IntWalk.i64_in _ (by omega)
        have w2' : (0 : Int) ≤ (k : Int) - 1 := by omega
        have w3' : ((k : Int) - 1).toNat = k - 1 := by omega
        have w4' : (k : Int) - 1 < (t.rules.length : Int) := by omega
        have w5' : decide ((0 : Int) < (k : Int)) = true := decide_eq_true (by omega)
        clear hpp hpp' hr a3
        cases hL : ltS p'.name p.name
        · have hL' : Op.bytesLess p'.name.toList p.name.toList = false := hL
          have HF := Lib.hid (rightT_rise o t k hlt h0 (by rw [HPP.out, HPP'.out]; exact hL))
          clear hL
          refine wp_region_lat (by kernel_rfl) (by kernel_rfl) ?_
          repeat (go_big_quiet_step ((first | (go_at_call 131; exact Calls.lat_of (Cf.out _)))))
          refine wpQuiet_nil ?_
          intro _ hw'
          obtain ⟨x, hw''⟩ := hw'
          subst hw''
          go_wp2_with fail
          go_ret
          exact ⟨by rw [HF.out]; rfl, (HA.out.trans HA3.out).lat x⟩
        have hL' : Op.bytesLess p'.name.toList p.name.toList = true := hL
        have HLT := Lib.hid (show 0 < k → ltS (t.rules[k - 1]'(by omega)).name t.rules[k].name = true by intro _; rw [HPP.out, HPP'.out]; exact hL)
        clear hL
        cases f
        · have HF := Lib.hid (rightT_rule o t k hlt (by rw [HO.out]; rfl))
          refine wp_region_lat (by kernel_rfl) (by kernel_rfl) ?_
          repeat (go_big_quiet_step ((first | (go_at_call 131; exact Calls.lat_of (Cf.out _)))))
          refine wpQuiet_nil ?_
          intro _ hw'
          obtain ⟨x, hw''⟩ := hw'
          subst hw''
          go_wp2_with fail
          go_ret
          exact ⟨by rw [HF.out]; rfl, (HA.out.trans HA3.out).lat x⟩
        refine wp_region_lat (by kernel_rfl) (by kernel_rfl) ?_
        repeat (go_big_quiet_step ((first | (go_at_call 131; exact Calls.lat_of (Cf.out _)))))
        refine wpQuiet_nil ?_
        intro _ hw'
        obtain ⟨x, hw''⟩ := hw'
        subst hw''
        cases h4 : (p.kind == 4)
        · have HN := Lib.hid (ext_lt (p := fun j => ∀ (hj : j < t.rules.length), ruleOk o.tables t.cols t.rules[j] = true ∧ (0 < j → ltS (t.rules[j - 1]'(by omega)).name t.rules[j].name = true)) HP.out (fun _ => ⟨by rw [HO.out, h4]; rfl, HLT.out⟩))
          go_wp2_with fail
          go_roundw
          case rel => exact ⟨k + 1, by omega, by go_num, (HAB.out.trans HA3.out).lat x, HN.out⟩
          case measure => simp [intOf]; omega
        · go_wp2_with fail
          refine (Ck.out _ ((Aft.refl w3).lat x)).mono ?_
          rintro e w4 ⟨rfl, a4⟩
          have HA4 := Lib.hid ((HA3.out.lat x).trans a4)
          clear a4 Ck hbo3 hbt3 hbr
          cases z0 : (z != 0)
          · have HN := Lib.hid (ext_lt (p := fun j => ∀ (hj : j < t.rules.length), ruleOk o.tables t.cols t.rules[j] = true ∧ (0 < j → ltS (t.rules[j - 1]'(by omega)).name t.rules[j].name = true)) HP.out (fun _ => ⟨by rw [HO.out, h4, z0]; rfl, HLT.out⟩))
            go_wp2_with fail
            go_roundw
            case rel => exact ⟨k + 1, by omega, by go_num, HAB.out.trans HA4.out, HN.out⟩
            case measure => simp [intOf]; omega
          · have HF := Lib.hid (rightT_rule o t k hlt (by rw [HO.out, h4, z0]; rfl))
            go_wp2_with fail
            go_ret
            exact ⟨by rw [HF.out]; rfl, HA.out.trans HA4.out⟩
      · have w5' : decide ((0 : Int) < (k : Int)) = false := decide_eq_false (by omega)
        have w6' : (k : Int) ≤ 0 := by omega
        have HLT := Lib.hid (show 0 < k → ltS (t.rules[k - 1]'(by omega)).name t.rules[k].name = true from fun h => absurd h h0)
        clear hpp hr a3
        cases f
        · have HF := Lib.hid (rightT_rule o t k hlt (by rw [HO.out]; rfl))
          refine wp_region_lat (by kernel_rfl) (by kernel_rfl) ?_
          repeat (go_big_quiet_step ((first | (go_at_call 131; exact Calls.lat_of (Cf.out _)))))
          refine wpQuiet_nil ?_
          intro _ hw'
          obtain ⟨x, hw''⟩ := hw'
          subst hw''
          go_wp2_with fail
          go_ret
          exact ⟨by rw [HF.out]; rfl, (HA.out.trans HA3.out).lat x⟩
        refine wp_region_lat (by kernel_rfl) (by kernel_rfl) ?_
        repeat (go_big_quiet_step ((first | (go_at_call 131; exact Calls.lat_of (Cf.out _)))))
        refine wpQuiet_nil ?_
        intro _ hw'
        obtain ⟨x, hw''⟩ := hw'
        subst hw''
        cases h4 : (p.kind == 4)
        · have HN := Lib.hid (ext_lt (p := fun j => ∀ (hj : j < t.rules.length), ruleOk o.tables t.cols t.rules[j] = true ∧ (0 < j → ltS (t.rules[j - 1]'(by omega)).name t.rules[j].name = true)) HP.out (fun _ => ⟨by rw [HO.out, h4]; rfl, HLT.out⟩))
          go_wp2_with fail
          go_roundw
          case rel => exact ⟨k + 1, by omega, by go_num, (HAB.out.trans HA3.out).lat x, HN.out⟩
          case measure => simp [intOf]; omega
        · go_wp2_with fail
          refine (Ck.out _ ((Aft.refl w3).lat x)).mono ?_
          rintro e w4 ⟨rfl, a4⟩
          have HA4 := Lib.hid ((HA3.out.lat x).trans a4)
          clear a4 Ck hbo3 hbt3 hbr
          cases z0 : (z != 0)
          · have HN := Lib.hid (ext_lt (p := fun j => ∀ (hj : j < t.rules.length), ruleOk o.tables t.cols t.rules[j] = true ∧ (0 < j → ltS (t.rules[j - 1]'(by omega)).name t.rules[j].name = true)) HP.out (fun _ => ⟨by rw [HO.out, h4, z0]; rfl, HLT.out⟩))
            go_wp2_with fail
            go_roundw
            case rel => exact ⟨k + 1, by omega, by go_num, HAB.out.trans HA4.out, HN.out⟩
            case measure => simp [intOf]; omega
          · have HF := Lib.hid (rightT_rule o t k hlt (by rw [HO.out, h4, z0]; rfl))
            go_wp2_with fail
            go_ret
            exact ⟨by rw [HF.out]; rfl, HA.out.trans HA4.out⟩
    · have HF := Lib.hid (show rightT o t = true by
        rw [HR2.out, all_true _ _ fun j hj => (HP.out j (by omega) hj).1, rises_pred (fun a b : Rul => cmpS a.name b.name) _ fun j hj1 hj => (cmpS_lt_iff _ _).2 ((HP.out j (by omega) hj).2 (by omega))]; rfl)
      go_wp2_with fail
      go_ret
      exact ⟨by rw [HF.out]; rfl, HA.out⟩
theorem checkO_rows (o : Objs) : checkO o = (decide (o.schemas.length ≤ 8) && decide (o.tables.length ≤ 64) && rowsB o && o.tables.all (rightT o)) := by
  unfold checkO headOk rowsB
  cases decide (o.schemas.length ≤ 8) <;> cases decide (o.tables.length ≤ 64) <;> cases o.schemas.all (schOk o) <;> simp [Bool.and_comm]
set_option maxHeartbeats 8000000 in
theorem rRight_any (o : Objs) (As : Option Addr) (caps : Nat) (At : Option Addr) (capt : Nat) (w : World) (hsch : SlAt w 2 SchR As caps o.schemas) (htab : SlAt w 5 TabR At capt o.tables) :
    Calls Tryz.prog 26 #[.agg #[.slice As o.schemas.length caps, .slice At o.tables.length capt]] w
      fun e w' => e = .returned (.bool (checkO o)) ∧ Aft w w' := by
  have hlen := hsch.len
  have hlen2 := htab.len
  have HR0 := Lib.hid (checkO_rows o)
  by_cases d1 : 8 < o.schemas.length
  · have HF := Lib.hid (show checkO o = false by rw [HR0.out, decide_eq_false (show ¬ o.schemas.length ≤ 8 by omega)]; rfl)
    have e1 : (8 : Int) < (o.schemas.length : Int) := by omega
    go_enter Tryz.func26, Tryz.ntmps26
    go_wp2_with fail
    go_ret
    exact ⟨by rw [HF.out]; rfl, (Aft.refl _).alloc _⟩
  have e1 : (o.schemas.length : Int) ≤ 8 := by omega
  by_cases d2 : 64 < o.tables.length
  · have HF := Lib.hid (show checkO o = false by rw [HR0.out, decide_eq_false (show ¬ o.tables.length ≤ 64 by omega), Bool.and_false]; rfl)
    have e2 : (64 : Int) < (o.tables.length : Int) := by omega
    go_enter Tryz.func26, Tryz.ntmps26
    go_wp2_with fail
    go_ret
    exact ⟨by rw [HF.out]; rfl, (Aft.refl _).alloc _⟩
  have e2 : (o.tables.length : Int) ≤ 64 := by omega
  obtain ⟨g, hg⟩ : ∃ g, rowsB o = g := ⟨_, rfl⟩
  have HR := Lib.hid (show checkO o = (g && o.tables.all (rightT o)) by rw [HR0.out, decide_eq_true (show o.schemas.length ≤ 8 by omega), decide_eq_true (show o.tables.length ≤ 64 by omega), hg]; rfl)
  have C1 := Lib.hid (show ∀ w', Aft w w' → Calls Tryz.prog 68 #[.agg #[.slice As o.schemas.length caps, .slice At o.tables.length capt]] w' fun e w'' => e = .returned (.bool g) ∧ Aft w' w'' from
    fun w' a => (rrows_any o As caps At capt w' (schs_aft a hsch) (tabs_aft a htab)).mono fun e w'' ⟨he, hw⟩ => ⟨he.trans (by rw [← hg]), hw⟩)
  clear hg HR0
  go_enter Tryz.func26, Tryz.ntmps26
  go_wp2_with fail
  refine (C1.out _ ((Aft.refl w).alloc _)).mono ?_
  rintro e w1 ⟨rfl, a1⟩
  obtain ⟨hbox, hfr, hz, hzk, HA⟩ := aft_box a1
  have HAB := Lib.hid a1
  clear a1 C1
  cases g
  · have HF := Lib.hid (show checkO o = false by rw [HR.out]; rfl)
    go_wp2_with fail
    go_ret
    exact ⟨by rw [HF.out]; rfl, HA.out⟩
  have HR2 := Lib.hid (show checkO o = o.tables.all (rightT o) by rw [HR.out]; rfl)
  clear HR
  go_wp2_with fail
  go_loopw [3] (fun i wr => ∃ k : Nat, k ≤ o.tables.length ∧ i = .int .i64 k ∧ Aft (w.alloc (.cells #[.slice As o.schemas.length caps, .slice At o.tables.length capt] 29)) wr ∧ ∀ j, j < k → ∀ (hj : j < o.tables.length), rightT o o.tables[j] = true) (fun i _ => o.tables.length - (intOf i).toNat)
  case atStart => exact ⟨0, Nat.zero_le _, rfl, HAB.out, fun j hj => absurd hj (Nat.not_lt_zero j)⟩
  case round =>
    clear hbox hfr hz hzk HA HAB
    obtain ⟨k2, hk2, rfl, ha, hp⟩ := hrel
    obtain ⟨hbox, hfr, hz, hzk, HA⟩ := aft_box ha
    have HAB := Lib.hid ha
    have HP := Lib.hid hp
    clear ha hp
    by_cases hlt2 : k2 < o.tables.length
    · have htt := tabs_aft HA.out htab
      have hss := schs_aft HA.out hsch
      obtain ⟨b, off, B2, capB2, B3, capB3, rfl, hb, c0, c1, c2, c3, c4, hcols, hrules, s0, s1, s2⟩ := tab_at htt hlt2
      obtain ⟨p, hpp⟩ : ∃ p, o.tables[k2] = p := ⟨_, rfl⟩
      rw [hpp] at c0 c1 c2 c3 c4 hcols hrules s0 s1 s2
      obtain ⟨f, hf⟩ : ∃ f, rightT o p = f := ⟨_, rfl⟩
      have HO := Lib.hid (show rightT o o.tables[k2] = f by rw [hpp]; exact hf)
      have Cr := Lib.hid (show ∀ x : Lat wr, Calls Tryz.prog 69 #[.agg #[.slice As o.schemas.length caps, .slice (some ⟨b, off, none⟩) o.tables.length capt], .agg #[.string p.schema, .string p.name, .string p.owner, .slice B2 p.cols.length capB2, .slice B3 p.rules.length capB3]] (lat wr x) fun e w' => e = .returned (.bool f) ∧ Aft (lat wr x) w' from
        fun x => (rright_any o p As caps _ capt B2 capB2 B3 capB3 (lat wr x) (schs_aft ((Aft.refl wr).lat x) hss) (tabs_aft ((Aft.refl wr).lat x) htt) (cols_aft ((Aft.refl wr).lat x) hcols) (ruls_aft ((Aft.refl wr).lat x) hrules) s1 s2).mono fun e w'' ⟨he, hw⟩ => ⟨he.trans (by rw [← hf]), hw⟩)
      clear hf hpp htt hss hcols hrules
      go_wp2_with fail
      refine wp_region_lat (by kernel_rfl) (by kernel_rfl) ?_
      repeat (go_big_quiet_step ((first | (go_at_call 69; exact Calls.lat_of (Cr.out _)))))
      refine wpQuiet_nil ?_
      intro _ hw'
      obtain ⟨x, hw''⟩ := hw'
      subst hw''
      cases f
      · have HF := Lib.hid (show checkO o = false by rw [HR2.out, all_false _ _ k2 hlt2 HO.out])
        go_wp2_with fail
        go_ret
        exact ⟨by rw [HF.out]; rfl, HA.out.lat x⟩
      · have HN := Lib.hid (ext_lt (p := fun j => ∀ (hj : j < o.tables.length), rightT o o.tables[j] = true) HP.out (fun _ => HO.out))
        go_wp2_with fail
        go_roundw
        case rel => exact ⟨k2 + 1, by omega, by go_num, HAB.out.lat x, HN.out⟩
        case measure => simp [intOf]; omega
    · have HF := Lib.hid (show checkO o = true by rw [HR2.out, all_true _ _ fun j hj => HP.out j (by omega) hj])
      go_wp2_with fail
      go_ret
      exact ⟨by rw [HF.out]; rfl, HA.out⟩
end Go.Proofs.YtlklmekapbojdaaGreat

namespace Go.Proofs.YtlklmekapbojdaaGreat
open Go.RowKit Go.Deep
set_option maxRecDepth 100000
set_option linter.unusedVariables false
theorem or2_ne (x y : Int) (h : x ≠ 0) : or2 x y = x := by
  unfold or2
  rw [if_neg (by simpa using h)]
theorem or2_eq (x y : Int) (h : x = 0) : or2 x y = y := by
  unfold or2
  rw [if_pos (by simpa using h)]
theorem cmpS_ne {a b : ByteArray} (h : eqS a b = false) : cmpS a b ≠ 0 := fun e => by rw [(cmpS_eq _ _).1 e] at h; cases h
theorem cmpI_lt (a b : Int) (h : a ≠ b) : decide (cmpI a b < 0) = decide (a < b) := by
  unfold cmpI
  by_cases h1 : a < b
  · rw [if_pos h1, decide_eq_true h1]; rfl
  · rw [if_neg h1, decide_eq_false h1, if_pos (by omega)]; rfl
set_option maxHeartbeats 4000000 in
theorem rless (a b : Gra) (w : World) :
    Calls Tryz.prog 96 #[.agg #[.string a.schema, .string a.table, .int .i64 a.right, .string a.giver, .string a.to, .bool a.opt], .agg #[.string b.schema, .string b.table, .int .i64 b.right, .string b.giver, .string b.to, .bool b.opt]] w fun e w' => e = .returned (.bool (decide (cmpG a b < 0))) ∧ Aft w w' := by
  obtain ⟨s, t, r, g, o, p⟩ := a
  obtain ⟨s2, t2, r2, g2, o2, p2⟩ := b
  dsimp only
  have HE : cmpG ⟨s, t, r, g, o, p⟩ ⟨s2, t2, r2, g2, o2, p2⟩ = or2 (cmpS s s2) (or2 (cmpS t t2) (or2 (cmpI r r2) (or2 (cmpS g g2) (cmpS o o2)))) := rfl
  rw [HE]
  clear HE
  cases e0 : eqS s s2
  · have HE := Lib.hid (show decide (or2 (cmpS s s2) (or2 (cmpS t t2) (or2 (cmpI r r2) (or2 (cmpS g g2) (cmpS o o2)))) < 0) = ltS s s2 by rw [or2_ne _ _ (cmpS_ne e0), cmpS_lt])
    have e0' : (s.toList == s2.toList) = false := e0
    go_enter Tryz.func96, Tryz.ntmps96
    go_wp2_with fail
    go_ret
    exact ⟨by rw [HE.out]; rfl, ((Aft.refl _).alloc _).alloc _⟩
  · have e0' : (s.toList == s2.toList) = true := e0
    cases e1 : eqS t t2
    · have HE := Lib.hid (show decide (or2 (cmpS s s2) (or2 (cmpS t t2) (or2 (cmpI r r2) (or2 (cmpS g g2) (cmpS o o2)))) < 0) = ltS t t2 by rw [or2_eq _ _ ((cmpS_eq _ _).2 e0), or2_ne _ _ (cmpS_ne e1), cmpS_lt])
      have e1' : (t.toList == t2.toList) = false := e1
      go_enter Tryz.func96, Tryz.ntmps96
      go_wp2_with fail
      go_ret
      exact ⟨by rw [HE.out]; rfl, ((Aft.refl _).alloc _).alloc _⟩
    · have e1' : (t.toList == t2.toList) = true := e1
      cases e2 : (r == r2)
      · have n2 : r ≠ r2 := by simpa using e2
        have HE := Lib.hid (show decide (or2 (cmpS s s2) (or2 (cmpS t t2) (or2 (cmpI r r2) (or2 (cmpS g g2) (cmpS o o2)))) < 0) = decide (r < r2) by rw [or2_eq _ _ ((cmpS_eq _ _).2 e0), or2_eq _ _ ((cmpS_eq _ _).2 e1), or2_ne _ _ (fun h => n2 (by simpa using (cmpI_zero _ _).1 h)), cmpI_lt _ _ n2])
        go_enter Tryz.func96, Tryz.ntmps96
        go_wp2_with fail
        go_ret
        exact ⟨by rw [HE.out]; rfl, ((Aft.refl _).alloc _).alloc _⟩
      · cases e3 : eqS g g2
        · have HE := Lib.hid (show decide (or2 (cmpS s s2) (or2 (cmpS t t2) (or2 (cmpI r r2) (or2 (cmpS g g2) (cmpS o o2)))) < 0) = ltS g g2 by rw [or2_eq _ _ ((cmpS_eq _ _).2 e0), or2_eq _ _ ((cmpS_eq _ _).2 e1), or2_eq _ _ ((cmpI_zero _ _).2 e2), or2_ne _ _ (cmpS_ne e3), cmpS_lt])
          have e3' : (g.toList == g2.toList) = false := e3
          go_enter Tryz.func96, Tryz.ntmps96
          go_wp2_with fail
          go_ret
          exact ⟨by rw [HE.out]; rfl, ((Aft.refl _).alloc _).alloc _⟩
        · have e3' : (g.toList == g2.toList) = true := e3
          have HE := Lib.hid (show decide (or2 (cmpS s s2) (or2 (cmpS t t2) (or2 (cmpI r r2) (or2 (cmpS g g2) (cmpS o o2)))) < 0) = ltS o o2 by rw [or2_eq _ _ ((cmpS_eq _ _).2 e0), or2_eq _ _ ((cmpS_eq _ _).2 e1), or2_eq _ _ ((cmpI_zero _ _).2 e2), or2_eq _ _ ((cmpS_eq _ _).2 e3), cmpS_lt])
          go_enter Tryz.func96, Tryz.ntmps96
          go_wp2_with fail
          go_ret
          exact ⟨by rw [HE.out]; rfl, ((Aft.refl _).alloc _).alloc _⟩
theorem five_less (a b : Gra) : fiveE a b = (!decide (cmpG a b < 0) && !decide (cmpG b a < 0)) := by
  have h := cmpG_zero a b
  have h2 := ordG.anti a b
  cases h3 : fiveE a b
  · rw [h3] at h
    have : cmpG a b ≠ 0 := fun e => by have := h.1 e; cases this
    by_cases h4 : cmpG a b < 0
    · rw [decide_eq_true h4]; rfl
    · rw [decide_eq_true (show cmpG b a < 0 by omega)]; simp
  · have := h.2 h3
    rw [decide_eq_false (by omega), decide_eq_false (by omega)]; rfl
set_option maxHeartbeats 2000000 in
theorem rfive (a b : Gra) (w : World) :
    Calls Tryz.prog 95 #[.agg #[.string a.schema, .string a.table, .int .i64 a.right, .string a.giver, .string a.to, .bool a.opt], .agg #[.string b.schema, .string b.table, .int .i64 b.right, .string b.giver, .string b.to, .bool b.opt]] w fun e w' => e = .returned (.bool (fiveE a b)) ∧ Aft w w' := by
  obtain ⟨W, hW⟩ : ∃ W, W = (w.alloc (.cells #[.string a.schema, .string a.table, .int .i64 a.right, .string a.giver, .string a.to, .bool a.opt] 76)).alloc (.cells #[.string b.schema, .string b.table, .int .i64 b.right, .string b.giver, .string b.to, .bool b.opt] 76) := ⟨_, rfl⟩
  have aW : Aft w W := by rw [hW]; exact ((Aft.refl w).alloc _).alloc _
  have r0 : RowAt W (w.heap.size) [.string a.schema, .string a.table, .int .i64 a.right, .string a.giver, .string a.to, .bool a.opt] := by rw [hW]; exact RowAt.up (box_at (Aft.refl _) (by simp))
  have r1 : RowAt W (w.heap.size + 1) [.string b.schema, .string b.table, .int .i64 b.right, .string b.giver, .string b.to, .bool b.opt] := by rw [hW]; exact box_at (Aft.refl _) (by simp)
  obtain ⟨l1, h1⟩ : ∃ b1, decide (cmpG a b < 0) = b1 := ⟨_, rfl⟩
  obtain ⟨l2, h2⟩ : ∃ b1, decide (cmpG b a < 0) = b1 := ⟨_, rfl⟩
  have HF := Lib.hid (show fiveE a b = (!l1 && !l2) by rw [five_less, h1, h2])
  have C1 := Lib.hid (show ∀ V, Calls Tryz.prog 96 #[.agg #[.string a.schema, .string a.table, .int .i64 a.right, .string a.giver, .string a.to, .bool a.opt], .agg #[.string b.schema, .string b.table, .int .i64 b.right, .string b.giver, .string b.to, .bool b.opt]] V fun e w'' => e = .returned (.bool l1) ∧ Aft V w'' from fun V => h1 ▸ rless a b V)
  have C2 := Lib.hid (show ∀ V, Calls Tryz.prog 96 #[.agg #[.string b.schema, .string b.table, .int .i64 b.right, .string b.giver, .string b.to, .bool b.opt], .agg #[.string a.schema, .string a.table, .int .i64 a.right, .string a.giver, .string a.to, .bool a.opt]] V fun e w'' => e = .returned (.bool l2) ∧ Aft V w'' from fun V => h2 ▸ rless b a V)
  have KS := Lib.hid (And.intro r0 (And.intro r1 aW))
  clear h1 h2 r0 r1 aW
  go_enter Tryz.func95, Tryz.ntmps95
  go_wp2_with fail
  rw [← hW]
  clear hW
  refine (C1.out W).mono ?_
  rintro e w1 ⟨rfl, a1⟩
  have A1 := Lib.hid (KS.out.2.2.trans a1)
  have p0 := KS.out.1.aft a1
  have p1 := KS.out.2.1.aft a1
  cases l1
  case true =>
    clear p0 p1
    go_wp2_with fail
    go_ret
    exact ⟨by rw [HF.out]; rfl, A1.out⟩
  obtain ⟨x0, x1, x2, x3, x4, x5, xz⟩ := rowF6 p0
  obtain ⟨y0, y1, y2, y3, y4, y5, yz⟩ := rowF6 p1
  clear p0 p1 a1
  go_wp2_with fail
  refine (C2.out w1).mono ?_
  rintro e w2 ⟨rfl, a2⟩
  have A2 := Lib.hid (A1.out.trans a2)
  clear a2
  cases l2 <;> (go_wp2_with fail; go_ret; exact ⟨by rw [HF.out]; rfl, A2.out⟩)
theorem rkind (x : Int) (w : World) : Calls Tryz.prog 89 #[.int .i64 x] w fun e w' => e = .returned (.bool (kindB x)) ∧ w = w' := by
  have HK := Lib.hid (show kindB x = (x == 1 || x == 2) from rfl)
  go_enter Tryz.func89, Tryz.ntmps89
  cases h1 : (x == 1) <;> cases h2 : (x == 2)
  all_goals
    rw [h1, h2] at HK
    go_wp2_with fail
    go_ret
    exact ⟨by rw [HK.out]; rfl, rfl⟩
theorem any_true {α : Type} (p : α → Bool) (l : List α) (k : Nat) (hk : k < l.length) (h : p l[k] = true) : l.any p = true := List.any_eq_true.2 ⟨_, List.getElem_mem hk, h⟩
theorem any_false {α : Type} (p : α → Bool) (l : List α) (h : ∀ k (hk : k < l.length), p l[k] = false) : l.any p = false := by
  rw [List.any_eq_false]
  intro x hx
  obtain ⟨k, hk, rfl⟩ := List.getElem_of_mem hx
  rw [h k hk]; decide
set_option maxHeartbeats 4000000 in
theorem rin9 (l : List Gra) (A : Option Addr) (cap : Nat) (g : Gra) (w : World) (h : SlAt w 6 GraR A cap l) :
    Calls Tryz.prog 94 #[.slice A l.length cap, .agg #[.string g.schema, .string g.table, .int .i64 g.right, .string g.giver, .string g.to, .bool g.opt]] w fun e w' => e = .returned (.bool (inG l g)) ∧ Aft w w' := by
  have hlen := h.len
  obtain ⟨W, hW⟩ : ∃ W, W = w.alloc (.cells #[.string g.schema, .string g.table, .int .i64 g.right, .string g.giver, .string g.to, .bool g.opt] 76) := ⟨_, rfl⟩
  have aW : Aft w W := by rw [hW]; exact (Aft.refl w).alloc _
  have r0 : RowAt W (w.heap.size) [.string g.schema, .string g.table, .int .i64 g.right, .string g.giver, .string g.to, .bool g.opt] := by rw [hW]; exact box_at (Aft.refl _) (by simp)
  have KS := Lib.hid (And.intro r0 aW)
  have HL := Lib.hid (gras_aft aW h)
  clear r0 aW h
  go_enter Tryz.func94, Tryz.ntmps94
  go_wp2_with fail
  rw [← hW]
  go_loopw [5] (fun i wr => ∃ k : Nat, k ≤ l.length ∧ i = .int .i64 k ∧ Aft W wr ∧ ∀ j, j < k → ∀ (hj : j < l.length), fiveE l[j] g = false) (fun i _ => l.length - (intOf i).toNat)
  case atStart => exact ⟨0, Nat.zero_le _, rfl, Aft.refl _, fun j hj => absurd hj (Nat.not_lt_zero j)⟩
  case round =>
    clear hW
    obtain ⟨k, hk, rfl, ha, hp⟩ := hrel
    have HA := Lib.hid ha
    have HP := Lib.hid hp
    by_cases hlt : k < l.length
    · obtain ⟨b, off, rfl, hb, t0, t1, t2, t3, t4, t5, _⟩ := gra_at (gras_aft ha HL.out) hlt
      obtain ⟨x, hx⟩ : ∃ x, l[k] = x := ⟨_, rfl⟩
      rw [hx] at t0 t1 t2 t3 t4 t5
      have p0 := KS.out.1.aft ha
      obtain ⟨x0, x1, x2, x3, x4, x5, xz⟩ := rowF6 p0
      obtain ⟨q, hq⟩ : ∃ q, fiveE x g = q := ⟨_, rfl⟩
      have HQ := Lib.hid (show fiveE l[k] g = q by rw [hx]; exact hq)
      have C := Lib.hid (show ∀ y : Lat wr, Calls Tryz.prog 95 #[.agg #[.string x.schema, .string x.table, .int .i64 x.right, .string x.giver, .string x.to, .bool x.opt], .agg #[.string g.schema, .string g.table, .int .i64 g.right, .string g.giver, .string g.to, .bool g.opt]] (lat wr y) fun e w'' => e = .returned (.bool q) ∧ Aft (lat wr y) w'' from fun y => hq ▸ rfive x g _)
      clear ha hp p0 hx hq
      cases q
      all_goals
        go_wp2_with fail
        refine wp_region_lat (by kernel_rfl) (by kernel_rfl) ?_
        repeat (go_big_quiet_step ((go_at_call 95; exact Calls.lat_of (C.out _))))
        refine wpQuiet_nil ?_
        intro _ hw'
        obtain ⟨y, hw''⟩ := hw'
        subst hw''
      · go_wp2_with fail
        go_roundw
        case rel => exact ⟨k + 1, by omega, by go_num, HA.out.lat y, ext_lt (p := fun j => ∀ (hj : j < l.length), fiveE l[j] g = false) HP.out (fun _ => HQ.out)⟩
        case measure => simp [intOf]; omega
      · go_wp2_with fail
        go_ret
        exact ⟨by rw [show inG l g = true from any_true _ l k hlt HQ.out]; rfl, KS.out.2.trans (HA.out.lat y)⟩
    · clear ha hp
      go_wp2_with fail
      go_ret
      exact ⟨by rw [show inG l g = false from any_false _ l fun j hj => HP.out j (by omega) hj]; rfl, KS.out.2.trans HA.out⟩
end Go.Proofs.YtlklmekapbojdaaGreat

namespace Go.Proofs.YtlklmekapbojdaaGreat
open Go.RowKit Go.Deep
set_option maxRecDepth 100000
set_option linter.unusedVariables false
set_option maxHeartbeats 8000000 in
theorem own8w (r : Rls) (An : Option Addr) (capn : Nat) (Am : Option Addr) (capm : Nat) (w : World) (hn : SlAt w 1 StrR An capn r.names) (hm : SlAt w 2 MbrR Am capm r.members) (hln : r.names.length ≤ 1000000) (hlm : r.members.length ≤ 1000000) :
    Calls Tryz.prog 74 #[.agg #[.slice An r.names.length capn, .slice Am r.members.length capm]] w (OwnP8 r w) := by
  obtain ⟨i1, hi, hz0, hz1, hz2⟩ := info_parts info2Str2
  have JI := Lib.hid hi
  have JZ := Lib.hid (And.intro hz0 (And.intro hz1 hz2))
  clear hi hz0 hz1 hz2
  obtain ⟨i2, hi, hz0, hz1, hz2⟩ := info_parts info2Mem
  have KI := Lib.hid hi
  have KZ := Lib.hid (And.intro hz0 (And.intro hz1 hz2))
  clear hi hz0 hz1 hz2
  have l1 : w.heap.size < w.heap.size + 1 := by omega
  have l2 : w.heap.size < w.heap.size + 1 + 1 := by omega
  have l3 : w.heap.size < w.heap.size + 1 + 1 + 1 := by omega
  obtain ⟨W, hW⟩ : ∃ W, W = ((w.alloc (.cells #[.slice An r.names.length capn, .slice Am r.members.length capm] 63)).alloc (.cells #[.slice none 0 0, .slice none 0 0] 63)).alloc (.cells #[.slice none 0 0, .slice none 0 0] 63) := ⟨_, rfl⟩
  have aW : Aft w W := by rw [hW]; exact (((Aft.refl w).alloc _).alloc _).alloc _
  have r1 : RowAt W w.heap.size [.slice An r.names.length capn, .slice Am r.members.length capm] := by rw [hW]; exact (rowAt_new8 w [.slice An r.names.length capn, .slice Am r.members.length capm] 63).aft (((Aft.refl _).alloc _).alloc _)
  have r2 : RowAt W (w.heap.size + 1) [.slice none 0 0, .slice none 0 0] := by
    rw [hW]
    have := (rowAt_new8 (w.alloc (.cells #[.slice An r.names.length capn, .slice Am r.members.length capm] 63)) [.slice none 0 0, .slice none 0 0] 63).aft ((Aft.refl _).alloc (.cells #[.slice none 0 0, .slice none 0 0] 63))
    simpa using this
  have r3 : RowAt W (w.heap.size + 1 + 1) [.slice none 0 0, .slice none 0 0] := by
    rw [hW]
    have := rowAt_new8 ((w.alloc (.cells #[.slice An r.names.length capn, .slice Am r.members.length capm] 63)).alloc (.cells #[.slice none 0 0, .slice none 0 0] 63)) [.slice none 0 0, .slice none 0 0] 63
    simpa using this
  have zW : W.heap.size = w.heap.size + 3 := by rw [hW]; simp
  have HC := Lib.hid (sl_cells hn (by decide) (fun _ _ h => h.1) aW)
  have HN := Lib.hid (sl_none hn)
  have HCM := Lib.hid (fun w' (a : Aft w w') => sl_cells hm (f := mbrC) (by decide) (fun _ _ h => h.1) a)
  have HNM := Lib.hid (sl_none hm)
  have HR := Lib.hid (And.intro r1 (And.intro r2 r3))
  have HAW := Lib.hid aW
  have HZW := Lib.hid zW
  have hq4 : r.names.length ≤ maxLen := by unfold maxLen; omega
  have hq5 : r.names.length * 16 ≤ 140737488355328 := by omega
  have hq6 : r.members.length ≤ maxLen := by unfold maxLen; omega
  have hq7 : r.members.length * 32 ≤ 140737488355328 := by omega
  have K1 := Lib.hid (show ∀ w1, Aft W w1 → (w1.cell? ⟨w.heap.size + 1 + 1, 0, none⟩ = some (.slice none 0 0) ∧ w1.cell? ⟨w.heap.size + 1 + 1, 1, none⟩ = some (.slice none 0 0) ∧ w1.frozen? ⟨w.heap.size + 1 + 1, 0, none⟩ = false ∧ w1.frozen? ⟨w.heap.size + 1 + 1, 1, none⟩ = false ∧ w1.cell? ⟨w.heap.size, 1, none⟩ = some (.slice Am r.members.length capm) ∧ w.heap.size + 1 + 1 < w1.heap.size ∧ w.heap.size < w1.heap.size) from fun w1 a => by
    have q3 := r3.aft a
    have q1 := r1.aft a
    exact ⟨q3.cell (j := 0) rfl, q3.cell (j := 1) rfl, q3.2.2 0 (by simp), q3.2.2 1 (by simp), q1.cell (j := 1) rfl, q3.1, q1.1⟩)
  have K2 := Lib.hid (show ∀ w1 w2 v, Aft W w1 → Aft (w1.setCell ⟨w.heap.size + 1 + 1, 0, none⟩ v) w2 → (w2.cell? ⟨w.heap.size + 1 + 1, 0, none⟩ = some v ∧ w2.cell? ⟨w.heap.size + 1 + 1, 1, none⟩ = some (.slice none 0 0) ∧ w2.frozen? ⟨w.heap.size + 1 + 1, 1, none⟩ = false ∧ w.heap.size + 1 + 1 < w2.heap.size ∧ w2.cell? ⟨w.heap.size + 1, 0, none⟩ = some (.slice none 0 0) ∧ w2.cell? ⟨w.heap.size + 1, 1, none⟩ = some (.slice none 0 0) ∧ w2.frozen? ⟨w.heap.size + 1, 0, none⟩ = false ∧ w2.frozen? ⟨w.heap.size + 1, 1, none⟩ = false ∧ w.heap.size + 1 < w2.heap.size) from fun w1 w2 v a b => by
    have q2 := ((Kb.set w1 (w.heap.size + 1 + 1) 0 v).row (r2.aft a) (by omega)).aft b
    have q3 := ((r3.aft a).set 0 v (by simp)).aft b
    exact ⟨q3.cell (j := 0) rfl, q3.cell (j := 1) rfl, q3.2.2 1 (by simp), q3.1, q2.cell (j := 0) rfl, q2.cell (j := 1) rfl, q2.2.2 0 (by simp), q2.2.2 1 (by simp), q2.1⟩)
  clear hn hm r1 r2 r3 aW zW
  go_enter Tryz.func74, Tryz.ntmps74
  go_wp2_with (first
    | (at_builtin; (refine wpList_append_new _ rfl _ _ 60 rfl 9 i1 _ 1 16 Tryz.underlying60 JI.out JZ.out.1 JZ.out.2.1 JZ.out.2.2 rfl (by decide) rfl An r.names.length capn (r.names.flatMap nameC) rfl (nameC_len8 _) HN.out ?qc (oneC_cells oneC_name _) hq4 hq5 ?_); rotate_left; intro Ac cc w1 own1 a1; have a1 : Aft W w1 := (by rw [hW]; exact a1); obtain ⟨p1, p2, p3, p4, p5, p6, p7⟩ := K1.out w1 a1; have HA1 := Lib.hid a1; have HO1 := Lib.hid own1; clear a1 own1)
    | (at_builtin; (refine wpList_append_new _ rfl _ _ 61 rfl 176 i2 _ 2 32 Tryz.underlying61 KI.out KZ.out.1 KZ.out.2.1 KZ.out.2.2 rfl (by decide) rfl Am r.members.length capm (r.members.flatMap mbrC) rfl (mbrC_len8 _) HNM.out ?qm (oneC_cells oneC_mbr _) hq6 hq7 ?_); rotate_left; intro Ad cd w2 own2 a2; obtain ⟨s1, s2, s3, s4, s5, s6, s7, s8, s9⟩ := K2.out w1 w2 _ HA1.out a2; have HA2 := Lib.hid a2; have HO2 := Lib.hid own2; clear a2 own2))
  case qc => rw [← hW]; exact HC.out
  case qm => exact HCM.out _ ((HAW.out.trans HA1.out).setCell _ _ (by show w.heap.size ≤ w.heap.size + 1 + 1; omega))
  have a1 := HA1.out
  have a2 := HA2.out
  have own1 : w1.ownsRow W.heap.size 9 1 (Hd.mk Ac r.names.length cc).v r.names.length (r.names.flatMap nameC) := by rw [hW]; exact HO1.out
  have own2 : w2.ownsRow w1.heap.size 176 2 (Hd.mk Ad r.members.length cd).v r.members.length (r.members.flatMap mbrC) := by
    have h := HO2.out
    rw [show (w1.setCell ⟨w.heap.size + 1 + 1, 0, none⟩ (.slice Ac r.names.length cc)).heap.size = w1.heap.size by simp] at h
    exact h
  have zW := HZW.out
  have q2 := ((Kb.set w1 (w.heap.size + 1 + 1) 0 (.slice Ac r.names.length cc)).row (HR.out.2.1.aft a1) (by omega)).aft a2
  have q2' := (Kb.set w2 (w.heap.size + 1 + 1) 1 (.slice Ad r.members.length cd)).row q2 (by omega)
  have sz1 := a1.size
  have k1 := Kb.set w1 (w.heap.size + 1 + 1) 0 (.slice Ac r.names.length cc)
  have k2 := Kb.set w2 (w.heap.size + 1 + 1) 1 (.slice Ad r.members.length cd)
  have k3 := Kb.set (w2.setCell ⟨w.heap.size + 1 + 1, 1, none⟩ (.slice Ad r.members.length cd)) (w.heap.size + 1) 0 (.slice Ac r.names.length cc)
  have k4 := Kb.set ((w2.setCell ⟨w.heap.size + 1 + 1, 1, none⟩ (.slice Ad r.members.length cd)).setCell ⟨w.heap.size + 1, 0, none⟩ (.slice Ac r.names.length cc)) (w.heap.size + 1) 1 (.slice Ad r.members.length cd)
  have g1 : ∀ g, (Hd.mk Ac r.names.length cc).v.ownBlock = some g → w.heap.size + 3 ≤ g ∧ g < w1.heap.size := fun g hg => by have := own1.lt g hg; omega
  have g2 : ∀ g, (Hd.mk Ad r.members.length cd).v.ownBlock = some g → w1.heap.size ≤ g := fun g hg => (own2.lt g hg).1
  refine bodyPost_ret (results_cell (v := .agg #[.slice Ac r.names.length cc, .slice Ad r.members.length cd]) rfl _ rfl (lvRol_row (setR_row q2' rfl _ _))) rfl ?_
  refine ⟨⟨Ac, r.names.length, cc⟩, ⟨Ad, r.members.length, cd⟩, rfl, ?_, ⟨?_, ?_, ?_⟩⟩
  · exact k4.to_aft (k3.to_aft (k2.to_aft ((k1.to_aft (HAW.out.trans a1) (fun g hg e => by omega)).trans a2) (fun g hg e => by omega)) (fun g hg e => by omega)) (fun g hg e => by omega)
  · refine own_down (B := W.heap.size) ?_ (by omega)
    refine own_kb (own_kb (own_kb (own_aft (own_kb own1 k1 ?_) a2) k2 ?_) k3 ?_) k4 ?_
    all_goals
      intro g hg e
      have := g1 g hg
      have e : g = _ := e
      omega
  · refine own_down (B := w1.heap.size) ?_ (by omega)
    refine own_kb (own_kb (own_kb own2 k2 ?_) k3 ?_) k4 ?_
    all_goals
      intro g hg e
      have := g2 g hg
      have e : g = _ := e
      omega
  · intro g hg hg'
    have := g1 g (Hd.mem_blk.1 hg)
    have := g2 g (Hd.mem_blk.1 hg')
    omega
end Go.Proofs.YtlklmekapbojdaaGreat

namespace Go.Proofs.YtlklmekapbojdaaGreat
open Go.RowKit Go.Deep
set_option maxRecDepth 100000
set_option linter.unusedVariables false
theorem rightR_big (r : Rls) (h : ¬ r.names.length ≤ 16) : rightR r = false := by rw [rightR_rows]; simp [h]
theorem rightR_bigm (r : Rls) (h : ¬ r.members.length ≤ 256) : rightR r = false := by rw [rightR_rows]; simp [h]
theorem rowsR_mem {r : Rls} (h : rowsR r = true) {m : Mbr} (hm : m ∈ r.members) : mIn r m = true := by
  unfold rowsR at h
  simp only [Bool.and_eq_true, List.all_eq_true] at h
  exact h.2.1 m hm
theorem inB_filter_row {r : Rls} (h : rowsR r = true) {m : Mbr} (hm : m ∈ r.members) (s : ByteArray) : inB (r.names.filter (reachB r.members s)) m.role = reachB r.members s m.role := by
  have := rowsR_mem h hm
  unfold mIn at this
  simp only [Bool.and_eq_true] at this
  rw [inB_filter, this.1, Bool.and_true]
set_option maxHeartbeats 8000000 in
theorem rright8 (r : Rls) (An : Option Addr) (capn : Nat) (Am : Option Addr) (capm : Nat) (w : World) (hn : SlAt w 1 StrR An capn r.names) (hm : SlAt w 2 MbrR Am capm r.members) :
    Calls Tryz.prog 185 #[.agg #[.slice An r.names.length capn, .slice Am r.members.length capm]] w fun e w' => e = .returned (.bool (rightR r)) ∧ Aft w w' := by
  have hlen := hn.len
  have hlen2 := hm.len
  have l1 : w.heap.size < w.heap.size + 1 := by omega
  by_cases h1 : r.names.length ≤ 16
  case neg =>
    have HF := Lib.hid (rightR_big r h1)
    have hi : (16 : Int) < (r.names.length : Int) := by omega
    go_enter Tryz.func185, Tryz.ntmps185
    go_wp2_with fail
    go_ret
    exact ⟨by rw [HF.out]; rfl, (Aft.refl _).alloc _⟩
  by_cases h2 : r.members.length ≤ 256
  case neg =>
    have HF := Lib.hid (rightR_bigm r h2)
    have hi : ¬ (16 : Int) < (r.names.length : Int) := by omega
    have hi2 : (256 : Int) < (r.members.length : Int) := by omega
    go_enter Tryz.func185, Tryz.ntmps185
    go_wp2_with fail
    go_ret
    exact ⟨by rw [HF.out]; rfl, (Aft.refl _).alloc _⟩
  have hi : ¬ (16 : Int) < (r.names.length : Int) := by omega
  have hi2 : ¬ (256 : Int) < (r.members.length : Int) := by omega
  obtain ⟨W, hW⟩ : ∃ W, W = w.alloc (.cells #[.slice An r.names.length capn, .slice Am r.members.length capm] 63) := ⟨_, rfl⟩
  have aW : Aft w W := by rw [hW]; exact (Aft.refl w).alloc _
  have r0 : ∀ w', Aft W w' → (w'.cell? ⟨w.heap.size, 0, none⟩ = some (.slice An r.names.length capn) ∧ w'.cell? ⟨w.heap.size, 1, none⟩ = some (.slice Am r.members.length capm) ∧ w.heap.size < w'.heap.size) := fun w' a => by
    rw [hW] at a
    obtain ⟨hb, _, hz, _, _⟩ := aft_box a
    exact ⟨by rw [hb]; rfl, by rw [hb]; rfl, hz.1⟩
  obtain ⟨q, hq⟩ : ∃ q, rowsR r = q := ⟨_, rfl⟩
  have C := Lib.hid (fun w' (a : Aft w w') => hq ▸ rrows8 r An capn Am capm w' (strs_aft a hn) (mbrs_aft a hm))
  have HRT := Lib.hid (show rightR r = (q && r.members.all fun m => !reachB r.members m.of m.role) by rw [rightR_rows, hq]; simp [h1, h2])
  have HR0 := Lib.hid r0
  have HAW := Lib.hid aW
  have HNM := Lib.hid (And.intro hn hm)
  have HQ := Lib.hid hq
  clear hq r0 aW hn hm
  go_enter Tryz.func185, Tryz.ntmps185
  go_wp2_with fail
  rw [← hW]
  clear hW
  refine (C.out W HAW.out).mono ?_
  rintro e w1 ⟨rfl, a1⟩
  have HA1 := Lib.hid a1
  obtain ⟨e0, e1, e2⟩ := HR0.out w1 a1
  clear a1
  cases q
  · have HF := Lib.hid (show rightR r = false by rw [HRT.out]; rfl)
    go_wp2_with fail
    go_ret
    exact ⟨by rw [HF.out]; rfl, HAW.out.trans HA1.out⟩
  go_wp2_with fail
  go_loopw [3] (fun i wr => ∃ k : Nat, k ≤ r.members.length ∧ i = .int .i64 k ∧ Aft W wr ∧ ∀ j, j < k → ∀ (hj : j < r.members.length), (!reachB r.members r.members[j].of r.members[j].role) = true) (fun i _ => r.members.length - (intOf i).toNat)
  case atStart => exact ⟨0, Nat.zero_le _, rfl, HA1.out, fun j hj => absurd hj (Nat.not_lt_zero j)⟩
  case round =>
    clear e0 e1 e2
    obtain ⟨k, hk, rfl, ha, hp⟩ := hrel
    have HA := Lib.hid ha
    have HP := Lib.hid hp
    obtain ⟨e0, e1, e2⟩ := HR0.out wr ha
    clear ha hp
    by_cases hlt : k < r.members.length
    · obtain ⟨b, off, rfl, hb, t0, t1, hs1, hs2⟩ := mbr_at (mbrs_aft (HAW.out.trans HA.out) HNM.out.2) hlt
      have HIN := Lib.hid (inB_filter_row HQ.out (List.getElem_mem hlt) r.members[k].of)
      obtain ⟨m, hmm⟩ : ∃ m, r.members[k] = m := ⟨_, rfl⟩
      rw [hmm] at t0 t1 hs1 hs2 HIN
      have HMM := Lib.hid hmm
      have K3 := Lib.hid (show ∀ w', Aft wr w' → Calls Tryz.prog 158 #[.agg #[.slice An r.names.length capn, .slice (some ⟨b, off, none⟩) r.members.length capm], .string m.of] w' (ReachP w' r m.of) from fun w' a => rreach r An capn _ capm m.of w' (strs_aft ((HAW.out.trans HA.out).trans a) HNM.out.1) (mbrs_aft ((HAW.out.trans HA.out).trans a) HNM.out.2) hs2 (by omega))
      obtain ⟨q, hq⟩ : ∃ q, reachB r.members m.of m.role = q := ⟨_, rfl⟩
      obtain ⟨F, hF⟩ : ∃ F, r.names.filter (reachB r.members m.of) = F := ⟨_, rfl⟩
      have K4 := Lib.hid (show ∀ (g : Hd) (B : Nat) (w' : World), w'.ownsRow B 9 1 g.v F.length (F.flatMap nameC) → Calls Tryz.prog 91 #[g.v, .string m.role] w' fun e w'' => e = .returned (.bool q) ∧ w' = w'' from fun g B w' o => by
        rw [own_slice o]
        refine (rin_any g.a g.c F m.role w' (own_slf nameC o (fun x hx => ⟨rfl, rfl, ?_⟩) ?_)).mono fun e w'' ⟨he, hw⟩ => ⟨?_, hw⟩
        · rw [← hF] at hx
          exact (sm_names HNM.out.1).2 x (List.mem_filter.1 hx).1
        · rw [← hF]
          have := List.length_filter_le (reachB r.members m.of) r.names
          unfold Small; omega
        · rw [he, ← hq, ← HIN.out, hF]; rfl)
      have KP := Lib.hid (show ∀ w' e w'', ReachP w' r m.of e w'' → ∃ g : Hd, e = .returned g.v ∧ Aft w' w'' ∧ w''.ownsRow w'.heap.size 9 1 g.v F.length (F.flatMap nameC) from fun w' e w'' h => by unfold ReachP at h; rw [hF] at h; exact h)
      have HOK := Lib.hid (show reachB r.members r.members[k].of r.members[k].role = q by rw [hmm]; exact hq)
      have KS := Lib.hid (show ∀ w', Aft wr w' → (Aft wr w' ∧ w'.cell? ⟨w.heap.size, 0, none⟩ = some (.slice An r.names.length capn) ∧ w'.cell? ⟨w.heap.size, 1, none⟩ = some (.slice (some ⟨b, off, none⟩) r.members.length capm) ∧ w'.cell? ⟨b, off + k * 2, none⟩ = some (.string m.role) ∧ w'.cell? ⟨b, off + k * 2 + 1, none⟩ = some (.string m.of)) from fun w' a => ⟨a, a.cell_kept e0, a.cell_kept e1, a.cell_kept t0, a.cell_kept t1⟩)
      clear hmm hq hF HIN
      go_wp2_with fail
      go_region_held3 (fun w' => Aft wr w' ∧ w'.cell? ⟨w.heap.size, 0, none⟩ = some (.slice An r.names.length capn) ∧ w'.cell? ⟨w.heap.size, 1, none⟩ = some (.slice (some ⟨b, off, none⟩) r.members.length capm) ∧ w'.cell? ⟨b, off + k * 2, none⟩ = some (.string m.role) ∧ w'.cell? ⟨b, off + k * 2 + 1, none⟩ = some (.string m.of))
        (first | exact KS.out _ (Aft.refl _).drew | exact KS.out _ (And.left (by assumption)) | exact KS.out _ (Aft.trans (And.left (by assumption : Aft wr _ ∧ _)) (by assumption)))
        ((first | (go_at_call 158; refine (K3.out _ (And.left (by assumption : Aft wr _ ∧ _))).mono ?_; intro e w5 hP5; obtain ⟨g5, he5, a5, o5⟩ := KP.out _ _ _ hP5; clear hP5; subst he5) | (go_at_call 91; refine (K4.out _ _ _ (by assumption)).mono ?_; rintro e w4 ⟨rfl, rfl⟩)))
      have HAX := Lib.hid (And.left (by assumption : Aft wr w5 ∧ _))
      clear o5 a5
      cases q
      · have HNX := Lib.hid (ext_lt (p := fun j => ∀ (hj : j < r.members.length), (!reachB r.members r.members[j].of r.members[j].role) = true) HP.out (fun _ => by rw [HOK.out]; rfl))
        go_wp2_with fail
        go_roundw
        case rel => exact ⟨k + 1, by omega, by go_num, HA.out.trans HAX.out, HNX.out⟩
        case measure => simp [intOf]; omega
      · have HF := Lib.hid (show rightR r = false by rw [HRT.out, all_false (fun m => !reachB r.members m.of m.role) r.members k hlt (by show (!reachB r.members r.members[k].of r.members[k].role) = false; rw [HOK.out]; rfl)]; rfl)
        go_wp2_with fail
        go_ret
        exact ⟨by rw [HF.out]; rfl, (HAW.out.trans HA.out).trans HAX.out⟩
    · have HF := Lib.hid (show rightR r = true by rw [HRT.out, all_true _ _ fun j hj => HP.out j (by omega) hj]; rfl)
      go_wp2_with fail
      go_ret
      exact ⟨by rw [HF.out]; rfl, HAW.out.trans HA.out⟩
end Go.Proofs.YtlklmekapbojdaaGreat

namespace Go.Proofs.YtlklmekapbojdaaGreat
open Go.RowKit Go.Deep
set_option maxRecDepth 100000
set_option linter.unusedVariables false
set_option maxHeartbeats 16000000 in
theorem own9 (c : Cat) (As : Option Addr) (caps : Nat) (At : Option Addr) (capt : Nat) (An : Option Addr) (capn : Nat) (Am : Option Addr) (capm : Nat) (Ag : Option Addr) (capg : Nat) (w : World) (H : CatAt w c As caps At capt An capn Am capm Ag capg) (hmo : ModO c.objs) (hln : c.rols.names.length ≤ 1000000) (hlm : c.rols.members.length ≤ 1000000) (hlg : c.grants.length ≤ 1000000) :
    Calls Tryz.prog 28 #[.agg #[.int .i64 c.epoch, .int .i64 c.version, .slice As c.objs.schemas.length caps, .slice At c.objs.tables.length capt, .slice An c.rols.names.length capn, .slice Am c.rols.members.length capm, .slice Ag c.grants.length capg]] w (OwnP9 c w) := by
  obtain ⟨i1, hi, hz0, hz1, hz2⟩ := info_parts info2Gra
  have JI := Lib.hid hi
  have JZ := Lib.hid (And.intro hz0 (And.intro hz1 hz2))
  clear hi hz0 hz1 hz2
  have l1 : w.heap.size < w.heap.size + 1 := by omega
  have l2 : w.heap.size < w.heap.size + 1 + 1 := by omega
  obtain ⟨W, hW⟩ : ∃ W, W = (w.alloc (.cells #[.int .i64 c.epoch, .int .i64 c.version, .slice As c.objs.schemas.length caps, .slice At c.objs.tables.length capt, .slice An c.rols.names.length capn, .slice Am c.rols.members.length capm, .slice Ag c.grants.length capg] 66)).alloc (.cells #[.int .i64 0, .int .i64 0, .slice none 0 0, .slice none 0 0, .slice none 0 0, .slice none 0 0, .slice none 0 0] 66) := ⟨_, rfl⟩
  have aW : Aft w W := by rw [hW]; exact ((Aft.refl w).alloc _).alloc _
  have r0 : RowAt W (w.heap.size) [.int .i64 c.epoch, .int .i64 c.version, .slice As c.objs.schemas.length caps, .slice At c.objs.tables.length capt, .slice An c.rols.names.length capn, .slice Am c.rols.members.length capm, .slice Ag c.grants.length capg] := by rw [hW]; exact RowAt.up (box_at (Aft.refl _) (by simp))
  have r1 : RowAt W (w.heap.size + 1) [.int .i64 0, .int .i64 0, .slice none 0 0, .slice none 0 0, .slice none 0 0, .slice none 0 0, .slice none 0 0] := by rw [hW]; exact box_at (Aft.refl _) (by simp)
  have zW : W.heap.size = w.heap.size + 2 := by rw [hW]; simp
  have HC := Lib.hid (fun w' (a : Aft w w') => sl_cells H.gra (f := graC) (by decide) (fun _ _ h => h.1) a)
  have HN := Lib.hid (sl_none H.gra)
  have HR := Lib.hid (And.intro r0 r1)
  have HAW := Lib.hid aW
  have HZW := Lib.hid zW
  have HH := Lib.hid H
  have C1 := Lib.hid (rOwn_in c.objs As caps At capt W (schs_aft aW H.sch) (tabs_aft aW H.tab) hmo)
  have hq6 : c.grants.length ≤ maxLen := by unfold maxLen; omega
  have hq7 : c.grants.length * 80 ≤ 140737488355328 := by omega
  have x2 := r0.cell (j := 2) rfl
  have x3 := r0.cell (j := 3) rfl
  have xz := r0.1
  clear H r0 r1 aW
  go_enter Tryz.func28, Tryz.ntmps28
  go_wp2_with fail
  rw [← hW]
  go_wp2_with fail
  clear x2 x3 xz
  refine C1.out.mono ?_
  rintro e w1 ⟨hs, ht, L, hL, rfl, a1, ob⟩
  obtain ⟨hsa, hsn, hsc⟩ := hs
  obtain ⟨hta, htn, htc⟩ := ht
  simp only []
  have p0 := HR.out.1.aft a1
  have p1 := HR.out.2.aft a1
  have xz := p0.1
  have x2 := p0.cell (j := 2) rfl
  have x3 := p0.cell (j := 3) rfl
  have f2 := p0.2.2 2 (by simp)
  have f3 := p0.2.2 3 (by simp)
  obtain ⟨X, hX⟩ : ∃ V, V = (w1.setCell ⟨w.heap.size, 2, none⟩ (.slice hsa c.objs.schemas.length hsc)).setCell ⟨w.heap.size, 3, none⟩ (.slice hta c.objs.tables.length htc) := ⟨_, rfl⟩
  have kX : Kb (fun g => g = w.heap.size) w1 X := by rw [hX]; exact (Kb.set _ _ _ _).trans (Kb.set _ _ _ _)
  have RX := Lib.hid (show RowAt X (w.heap.size) [.int .i64 c.epoch, .int .i64 c.version, .slice hsa c.objs.schemas.length hsc, .slice hta c.objs.tables.length htc, .slice An c.rols.names.length capn, .slice Am c.rols.members.length capm, .slice Ag c.grants.length capg] by rw [hX]; exact (p0.set 2 _ (by simp)).set 3 _ (by simp))
  have RY := Lib.hid (kX.row p1 (by omega))
  have HAX := Lib.hid (kX.to_aft (HAW.out.trans a1) (fun g hg e => by omega))
  have obl := ob.lt
  have OB := Lib.hid (ob.kb kX (fun g hg e => by have := (obl g hg).1; have := HZW.out; omega))
  have OL := Lib.hid (show ∀ g ∈ (Hd.mk hsa hsn hsc).blk ++ ((Hd.mk hta htn htc).blk ++ L.flatMap OTab.blks), w.heap.size + 2 ≤ g ∧ g < X.heap.size from fun g hg => by have := obl g hg; have := HZW.out; rw [hX]; simp; omega)
  have C2 := Lib.hid (own8w c.rols An capn Am capm X (strs_aft HAX.out HH.out.nam) (mbrs_aft HAX.out HH.out.mem) hln hlm)
  have q0 := RX.out
  have y4 := q0.cell (j := 4) rfl
  have y5 := q0.cell (j := 5) rfl
  have yz := q0.1
  have HL := Lib.hid hL
  rw [hX] at y4 y5 yz
  clear a1 ob p0 p1 kX obl hL q0
  go_wp2_with fail
  rw [← hX]
  clear hX x2 x3 f2 f3 xz y4 y5 yz
  refine C2.out.mono ?_
  rintro e w2 ⟨hn, hm, rfl, a2, rin⟩
  rw [rin.vn, rin.vm]
  have RIN := Lib.hid rin
  obtain ⟨hna, hnn, hnc⟩ := hn
  obtain ⟨hma, hmn, hmc⟩ := hm
  simp only []
  have p0 := RX.out.aft a2
  have p1 := RY.out.aft a2
  have xz := p0.1
  have x4 := p0.cell (j := 4) rfl
  have x5 := p0.cell (j := 5) rfl
  have f4 := p0.2.2 4 (by simp)
  have f5 := p0.2.2 5 (by simp)
  have ral := rin.lt
  have s2 := a2.size
  obtain ⟨Y, hY⟩ : ∃ V, V = (w2.setCell ⟨w.heap.size, 4, none⟩ (.slice hna c.rols.names.length hnc)).setCell ⟨w.heap.size, 5, none⟩ (.slice hma c.rols.members.length hmc) := ⟨_, rfl⟩
  have kY : Kb (fun g => g = w.heap.size) w2 Y := by rw [hY]; exact (Kb.set _ _ _ _).trans (Kb.set _ _ _ _)
  have SY : Y.heap.size = w2.heap.size := by rw [hY]; simp
  have QX := Lib.hid (show RowAt Y (w.heap.size) [.int .i64 c.epoch, .int .i64 c.version, .slice hsa c.objs.schemas.length hsc, .slice hta c.objs.tables.length htc, .slice hna c.rols.names.length hnc, .slice hma c.rols.members.length hmc, .slice Ag c.grants.length capg] by rw [hY]; exact (p0.set 4 _ (by simp)).set 5 _ (by simp))
  have QY := Lib.hid (kY.row p1 (by omega))
  have HAY := Lib.hid (kY.to_aft (HAX.out.trans a2) (fun g hg e => by omega))
  have OBY := Lib.hid ((OB.out.aft a2).kb kY (fun g hg e => by have := (OL.out g hg).1; omega))
  have sX : w.heap.size + 2 ≤ X.heap.size := by have := HZW.out; have := RY.out.1; omega
  have RNY := Lib.hid (rin.kb kY (fun g hg e => by have := (ral g hg).1; omega))
  have RL := Lib.hid (show ∀ g, g ∈ (Hd.mk hna hnn hnc).blk ∨ g ∈ (Hd.mk hma hmn hmc).blk → X.heap.size ≤ g ∧ g < Y.heap.size from fun g hg => by have := ral g hg; rw [SY]; exact this)
  have SXY : X.heap.size ≤ Y.heap.size := by rw [SY]; exact s2
  have SH := Lib.hid (And.intro sX SXY)
  have HCY := Lib.hid (HC.out Y HAY.out)
  have q0 := QX.out
  have y6 := q0.cell (j := 6) rfl
  have yf := q0.2.2 6 (by simp)
  have yz := q0.1
  rw [hY] at y6 yf yz
  clear a2 rin p0 p1 kY ral s2 SY q0 sX SXY
  go_wp2_with (first
    | (at_builtin; (refine wpList_append_new _ rfl _ _ 64 rfl 76 i1 _ 6 80 Tryz.underlying64 JI.out JZ.out.1 JZ.out.2.1 JZ.out.2.2 rfl (by decide) rfl Ag c.grants.length capg (c.grants.flatMap graC) rfl (flatMap_len (f := graC) (size := 6) (fun _ => rfl) _) HN.out ?qc (oneC_cells oneC_gra _) hq6 hq7 ?_); rotate_left; intro Ad cd w3 own3 a3; have a3 : Aft Y w3 := (by rw [hY]; exact a3); have own3 : w3.ownsRow Y.heap.size 76 6 (Hd.mk Ad c.grants.length cd).v c.grants.length (c.grants.flatMap graC) := (by rw [hY]; exact own3); have HA3 := Lib.hid a3; have HO3 := Lib.hid own3; have p0 := QX.out.aft a3; have z0 := p0.cell (j := 0) rfl; have z1 := p0.cell (j := 1) rfl; have z2 := p0.cell (j := 2) rfl; have z3 := p0.cell (j := 3) rfl; have z4 := p0.cell (j := 4) rfl; have z5 := p0.cell (j := 5) rfl; have z6 := p0.cell (j := 6) rfl; have zf := p0.2.2 6 (by simp); have zz := p0.1; have p1 := QY.out.aft a3; have u0 := p1.cell (j := 0) rfl; have u1 := p1.cell (j := 1) rfl; have u2 := p1.cell (j := 2) rfl; have u3 := p1.cell (j := 3) rfl; have u4 := p1.cell (j := 4) rfl; have u5 := p1.cell (j := 5) rfl; have u6 := p1.cell (j := 6) rfl; have v0 := p1.2.2 0 (by simp); have v1 := p1.2.2 1 (by simp); have v2 := p1.2.2 2 (by simp); have v3 := p1.2.2 3 (by simp); have v4 := p1.2.2 4 (by simp); have v5 := p1.2.2 5 (by simp); have v6 := p1.2.2 6 (by simp); have vz := p1.1; have ne : w.heap.size + 1 ≠ w.heap.size := (by omega); clear own3 a3 p0 p1 y6 yf yz))
  case qc => rw [← hY]; exact HCY.out
  (try simp only [Exit.inBlock, Exit.then])
  have k3 := Kb.set w3 (w.heap.size) 6 (.slice Ad c.grants.length cd)
  have q1 := k3.row (QY.out.aft HA3.out) (by omega)
  have k4 := setC_kb (w3.setCell ⟨w.heap.size, 6, none⟩ (.slice Ad c.grants.length cd)) (w.heap.size + 1) (.int .i64 c.epoch) (.int .i64 c.version) (.slice hsa c.objs.schemas.length hsc) (.slice hta c.objs.tables.length htc) (.slice hna c.rols.names.length hnc) (.slice hma c.rols.members.length hmc) (.slice Ad c.grants.length cd)
  refine bodyPost_ret (results_cell (v := .agg #[.int .i64 c.epoch, .int .i64 c.version, .slice hsa c.objs.schemas.length hsc, .slice hta c.objs.tables.length htc, .slice hna c.rols.names.length hnc, .slice hma c.rols.members.length hmc, .slice Ad c.grants.length cd]) rfl _ rfl (lvCat_row (setC_row q1 rfl _ _ _ _ _ _ _))) rfl ?_
  have g3 : ∀ g, (Hd.mk Ad c.grants.length cd).v.ownBlock = some g → Y.heap.size ≤ g := fun g hg => (HO3.out.lt g hg).1
  obtain ⟨sX, SXY⟩ := SH.out
  refine ⟨⟨hsa, hsn, hsc⟩, ⟨hta, htn, htc⟩, ⟨hna, hnn, hnc⟩, ⟨hma, hmn, hmc⟩, ⟨Ad, c.grants.length, cd⟩, L, rfl, k4.to_aft (k3.to_aft (HAY.out.trans HA3.out) (fun g hg e => by omega)) (fun g hg e => by omega), ⟨?_, HL.out, ?_, ?_, ?_, ?_⟩⟩
  · refine ObjIn.down (((OBY.out.aft HA3.out).kb k3 (fun g hg e => ?_)).kb k4 (fun g hg e => ?_)) (B := W.heap.size) (by have := HZW.out; omega)
    · have := (OL.out g hg).1; omega
    · have := (OL.out g hg).1; omega
  · refine RolIn.down (((RNY.out.aft HA3.out).kb k3 (fun g hg e => ?_)).kb k4 (fun g hg e => ?_)) (by omega)
    · have := (RL.out g hg).1; omega
    · have := (RL.out g hg).1; omega
  · refine own_down (B := Y.heap.size) (own_kb (own_kb HO3.out k3 ?_) k4 ?_) (by omega)
    all_goals
      intro g hg e
      have := g3 g hg
      have e : g = _ := e
      omega
  · intro g hg
    have h1 := OL.out g hg
    exact ⟨fun h2 => by have := (RL.out g h2).1; omega, fun h2 => by have := g3 g (Hd.mem_blk.1 h2); omega⟩
  · intro g hg h2
    have h1 := RL.out g hg
    have := g3 g (Hd.mem_blk.1 h2)
    omega
end Go.Proofs.YtlklmekapbojdaaGreat

