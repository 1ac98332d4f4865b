/- Contracts of the program, part 6. -/
import Derived.IntWalk
import Derived.OwnWalk
import Derived.Laws.AppendOwn
import Derived.ProofKit
import Derived.OpenShut
import Derived.Deep.Slices
import Derived.ChangeOld
import Derived.SizedLaws
import Derived.WalkKit
import Derived.WalkSpells
import Derived.WalkLawsBesides
import Derived.Lib.Hide
import Derived.Deep.QuietTactic
import Derived.BigQuiet
import Derived.Below
import Derived.Deep.Draws
import Derived.StillTailTactics
import Derived.Laws.Cells
import Derived.Laws.IdiomCopy
import Derived.Test.YtiadkchlkdaceaaGreatRows
import Derived.Lib.Bytealg
import Derived.Deep.RegionHeld3
import Derived.Deep.DeepMust
import Derived.Deep.RegionLaw
import Derived.Deep.AppendLies
import Derived.Deep.Upon
import Derived.OneCell
import Derived.ShutString
import Derived.Shelf.SlSortCmp.WholeK
import Derived.Lib.SliceRun
import Derived.Deep.Onto
import Derived.LaidEqlPtr
import Derived.Test.YtiadkchlkdaceaaGreatPartR1
import Derived.Test.YtiadkchlkdaceaaGreatPartR2
import Derived.Test.YtiadkchlkdaceaaGreatPartR3
import Derived.Test.YtiadkchlkdaceaaGreatPartR4
import Derived.Test.YtiadkchlkdaceaaGreatPartR5
namespace Go.Proofs.YtiadkchlkdaceaaGreat
open Go.RowKit
set_option maxRecDepth 100000
set_option linter.unusedVariables false
theorem rightT_rule (o : Objs) (t : Tab) (k : Nat) (hk : k < t.rules.length) (h : ruleOk o.tables t.cols t.rules[k] = false) : rightT o t = false := by
  unfold rightT; rw [all_false _ _ k hk h]; simp
theorem rightT_rise (o : Objs) (t : Tab) (k : Nat) (hk : k < t.rules.length) (h0 : 0 < k) (h : ltS (t.rules[k - 1]'(by omega)).name t.rules[k].name = false) : rightT o t = false := by
  have h1 : k - 1 + 1 < t.rules.length := by omega
  have e : (t.rules[k - 1 + 1]'h1) = t.rules[k] := by congr 1; omega
  unfold rightT
  rw [risesB_false (fun a b : Rul => cmpS a.name b.name) _ (k - 1) h1]
  · simp
  · rw [e]
    rw [← cmpS_lt] at h
    have := of_decide_eq_false h
    omega
set_option maxHeartbeats 8000000 in
theorem rright_any (o : Objs) (t : Tab) (As : Option Addr) (caps : Nat) (At : Option Addr) (capt : Nat) (A : Option Addr) (cap : Nat) (A2 : Option Addr) (cap2 : Nat) (w : World) (hsch : SlAt w 2 SchR As caps o.schemas) (htab : SlAt w 5 TabR At capt o.tables)
    (h : SlAt w 3 ColR A cap t.cols) (h2 : SlAt w 8 RulR A2 cap2 t.rules) (hn : Small t.name.size) (ho : Small t.owner.size) :
    Calls Tryz.prog 46 #[.agg #[.slice As o.schemas.length caps, .slice At o.tables.length capt], .agg #[.string t.schema, .string t.name, .string t.owner, .slice A t.cols.length cap, .slice A2 t.rules.length cap2]] w
      fun e w' => e = .returned (.bool (rightT o t)) ∧ Aft w w' := by
  have hlen2 := h2.len
  obtain ⟨i, hi⟩ : ∃ i, schAt o.schemas t.schema = i := ⟨_, rfl⟩
  obtain ⟨m, hm⟩ : ∃ m, colsOk t.cols = m := ⟨_, rfl⟩
  have HR0 := Lib.hid (show rightT o t = (nameB t.name && nameB t.owner && m && decide (t.rules.length ≤ 8) && decide (0 ≤ i) && (t.rules.all (ruleOk o.tables t.cols) && risesB (fun a b => cmpS a.name b.name) t.rules)) by unfold rightT; rw [hi, hm])
  have Cs := Lib.hid (show ∀ w', Aft w w' → Calls Tryz.prog 78 #[.agg #[.slice As o.schemas.length caps, .slice At o.tables.length capt], .string t.schema] w' fun e w'' => e = .returned (.int .i64 i) ∧ Aft w' w'' from
    fun w' a => (rsch_any As caps o.schemas _ t.schema w' (schs_aft a hsch)).mono fun e w'' ⟨he, hw⟩ => ⟨he.trans (by rw [← hi]), hw⟩)
  have Cm := Lib.hid (show ∀ w', Aft w w' → Calls Tryz.prog 64 #[.slice A t.cols.length cap] w' fun e w'' => e = .returned (.bool m) ∧ Aft w' w'' from
    fun w' a => (rcols_any A cap t.cols w' (cols_aft a h)).mono fun e w'' ⟨he, hw⟩ => ⟨he.trans (by rw [← hm]), hw⟩)
  clear hi hm
  go_enter Tryz.func46, Tryz.ntmps46
  go_wp2_with fail
  refine (Cs.out _ (((Aft.refl w).alloc _).alloc _)).mono ?_
  rintro e w1 ⟨rfl, a1⟩
  obtain ⟨hbo, hbt, hz, HA⟩ := aft_box2 a1
  have HAB := Lib.hid a1
  clear a1 Cs
  by_cases hi0 : i < 0
  · have HF := Lib.hid (show rightT o t = false by rw [HR0.out, decide_eq_false (show ¬ 0 ≤ i by omega), Bool.and_false]; rfl)
    go_wp2_with fail
    go_ret
    exact ⟨by rw [HF.out]; rfl, HA.out⟩
  have hi1 : 0 ≤ i := by omega
  cases hN : nameB t.name
  · have HF := Lib.hid (show rightT o t = false by rw [HR0.out, hN]; rfl)
    go_wp2_with (go_at_call 72; refine (rname_any _ _ (by first | exact hn.max | exact ho.max)).mono ?_; rintro e w' ⟨rfl, rfl⟩)
    go_ret
    exact ⟨by rw [HF.out]; rfl, HA.out⟩
  cases hO : nameB t.owner
  · have HF := Lib.hid (show rightT o t = false by rw [HR0.out, hN, hO]; rfl)
    go_wp2_with (go_at_call 72; refine (rname_any _ _ (by first | exact hn.max | exact ho.max)).mono ?_; rintro e w' ⟨rfl, rfl⟩)
    go_ret
    exact ⟨by rw [HF.out]; rfl, HA.out⟩
  have HR1 := Lib.hid (show rightT o t = (m && decide (t.rules.length ≤ 8) && (t.rules.all (ruleOk o.tables t.cols) && risesB (fun a b => cmpS a.name b.name) t.rules)) by rw [HR0.out, hN, hO, decide_eq_true hi1]; simp)
  clear HR0
  go_wp2_with (go_at_call 72; refine (rname_any _ _ (by first | exact hn.max | exact ho.max)).mono ?_; rintro e w' ⟨rfl, rfl⟩)
  refine (Cm.out _ HA.out).mono ?_
  rintro e w2 ⟨rfl, a2⟩
  have HAB2 := Lib.hid (HAB.out.trans a2)
  clear a2 Cm HA HAB hbo hbt hz
  obtain ⟨hbo, hbt, hz, HA⟩ := aft_box2 HAB2.out
  cases m
  · have HF := Lib.hid (show rightT o t = false by rw [HR1.out]; rfl)
    go_wp2_with fail
    go_ret
    exact ⟨by rw [HF.out]; rfl, HA.out⟩
  by_cases h8 : 8 < t.rules.length
  · have HF := Lib.hid (show rightT o t = false by rw [HR1.out, decide_eq_false (show ¬ t.rules.length ≤ 8 by omega)]; rfl)
    have h8' : (8 : Int) < (t.rules.length : Int) := by omega
    go_wp2_with fail
    go_ret
    exact ⟨by rw [HF.out]; rfl, HA.out⟩
  have h8' : (t.rules.length : Int) ≤ 8 := by omega
  have d8 : decide ((8 : Int) < (t.rules.length : Int)) = false := decide_eq_false (by omega)
  have HR2 := Lib.hid (show rightT o t = (t.rules.all (ruleOk o.tables t.cols) && risesB (fun a b => cmpS a.name b.name) t.rules) by rw [HR1.out, decide_eq_true (show t.rules.length ≤ 8 by omega)]; rfl)
  clear HR1
  go_wp2_with fail
  go_loopw [5] (fun i wr => ∃ k : Nat, k ≤ t.rules.length ∧ i = .int .i64 k ∧ Aft ((w.alloc (.cells #[.slice As o.schemas.length caps, .slice At o.tables.length capt] 29)).alloc (.cells #[.string t.schema, .string t.name, .string t.owner, .slice A t.cols.length cap, .slice A2 t.rules.length cap2] 76)) wr ∧ ∀ j, j < k → ∀ (hj : j < t.rules.length), ruleOk o.tables t.cols t.rules[j] = true ∧ (0 < j → ltS (t.rules[j - 1]'(by omega)).name t.rules[j].name = true)) (fun i _ => t.rules.length - (intOf i).toNat)
  case atStart => exact ⟨0, Nat.zero_le _, rfl, HAB2.out, fun j hj => absurd hj (Nat.not_lt_zero j)⟩
  case round =>
    clear hbo hbt hz HA HAB2
    obtain ⟨k, hk, rfl, ha, hp⟩ := hrel
    obtain ⟨hbo, hbt, hz, HA⟩ := aft_box2 ha
    have HAB := Lib.hid ha
    have HP := Lib.hid hp; clear hp ha
    by_cases hlt : k < t.rules.length
    · have hr := ruls_aft HA.out h2
      obtain ⟨b, off, D2, capD2, rfl, hb, c0, c1, c2, c3, c4, c5, c6, c7, hcs, s0, s1, s2, s3⟩ := rul_at hr hlt
      obtain ⟨p, hpp⟩ : ∃ p, t.rules[k] = p := ⟨_, rfl⟩
      rw [hpp] at c0 c1 c2 c3 c4 c5 c6 c7 hcs s0 s1 s2 s3
      have HPP := Lib.hid hpp
      obtain ⟨f, hf⟩ : ∃ f, fitsOk t.cols p = f := ⟨_, rfl⟩
      obtain ⟨z, hz'⟩ : ∃ z, keyE o.tables t.cols p = z := ⟨_, rfl⟩
      have HO := Lib.hid (show ruleOk o.tables t.cols t.rules[k] = (f && !(p.kind == 4 && z != 0)) by rw [hpp]; unfold ruleOk; rw [hf, hz'])
      obtain ⟨w3, hw3⟩ : ∃ w3, w3 = wr.alloc (.cells #[.string p.name, .int .i64 p.kind, .slice D2 p.cols.length capD2, .int .i64 p.low, .int .i64 p.high, .string p.schema, .string p.table, .string p.key] 108) := ⟨_, rfl⟩
      have a3 : Aft wr w3 := by rw [hw3]; exact (Aft.refl wr).alloc _
      have hbr : ∀ o', w3.cell? ⟨wr.heap.size, o', none⟩ = (#[.string p.name, .int .i64 p.kind, .slice D2 p.cols.length capD2, .int .i64 p.low, .int .i64 p.high, .string p.schema, .string p.table, .string p.key] : Array Value)[o']? := by intro o'; rw [hw3]; simp
      have hzr : wr.heap.size < w3.heap.size := by rw [hw3]; simp
      have hbo3 : ∀ o', w3.cell? ⟨w.heap.size, o', none⟩ = _ := fun o' => (Below.cell a3 (p := ⟨w.heap.size, o', none⟩) hz.1).trans (hbo o')
      have hbt3 : ∀ o', w3.cell? ⟨w.heap.size + 1, o', none⟩ = _ := fun o' => (Below.cell a3 (p := ⟨w.heap.size + 1, o', none⟩) hz.2).trans (hbt o')
      have hz3 : w.heap.size < w3.heap.size ∧ w.heap.size + 1 < w3.heap.size := ⟨Nat.lt_of_lt_of_le hz.1 a3.size, Nat.lt_of_lt_of_le hz.2 a3.size⟩
      have Cf := Lib.hid (show ∀ x : Lat w3, Calls Tryz.prog 79 #[.slice A t.cols.length cap, .agg #[.string p.name, .int .i64 p.kind, .slice D2 p.cols.length capD2, .int .i64 p.low, .int .i64 p.high, .string p.schema, .string p.table, .string p.key]] (lat w3 x) fun e w'' => e = .returned (.bool f) ∧ Aft (lat w3 x) w'' from
        fun x => (rfits_any A cap t.cols p D2 capD2 (lat w3 x) (cols_aft ((HA.out.trans a3).lat x) h) (strs_aft (a3.lat x) hcs) s0 s1 s2 s3).mono fun e w'' ⟨he, hw⟩ => ⟨he.trans (by rw [← hf]), hw⟩)
      have Ck := Lib.hid (show ∀ w', Aft w3 w' → Calls Tryz.prog 80 #[.agg #[.slice As o.schemas.length caps, .slice At o.tables.length capt], .slice A t.cols.length cap, .agg #[.string p.name, .int .i64 p.kind, .slice D2 p.cols.length capD2, .int .i64 p.low, .int .i64 p.high, .string p.schema, .string p.table, .string p.key]] w' fun e w'' => e = .returned (.int .i64 z) ∧ Aft w' w'' from
        fun w' a => (rkey_any _ At capt o.tables A cap t.cols p D2 capD2 w' (tabs_aft (HA.out.trans (a3.trans a)) htab) (cols_aft (HA.out.trans (a3.trans a)) h) (strs_aft (a3.trans a) hcs)).mono fun e w'' ⟨he, hw⟩ => ⟨he.trans (by rw [← hz']), hw⟩)
      have HA3 := Lib.hid a3
      clear hf hz' hcs
      go_wp2_with fail
      rw [← hw3]
      clear hw3 c0 c1 c2 c3 c4 c5 c6 c7
      by_cases h0 : 0 < k
      · have hk1 : k - 1 < t.rules.length := by omega
        obtain ⟨b', off', D2', capD2', hA', hb', e0, _, _, _, _, _, _, _, _⟩ := rul_at (ruls_aft a3 hr) hk1
        simp only [Option.some.injEq, Addr.mk.injEq, and_true] at hA'
        obtain ⟨rfl, rfl⟩ := hA'
        obtain ⟨p', hpp'⟩ : ∃ p', (t.rules[k - 1]'(by omega)) = p' := ⟨_, rfl⟩
        rw [hpp'] at e0
        have HPP' := Lib.hid hpp'
        have w1' : IntKind.i64.wrap ((k : Int) - 1) = (k : Int) - 1 := IntWalk.i64_in _ (by omega)
        have w2' : (0 : Int) ≤ (k : Int) - 1 := by omega
        have w3' : ((k : Int) - 1).toNat = k - 1 := by omega
        have w4' : (k : Int) - 1 < (t.rules.length : Int) := by omega
        have w5' : decide ((0 : Int) < (k : Int)) = true := decide_eq_true (by omega)
        clear hpp hpp' hr a3
        cases hL : ltS p'.name p.name
        · have hL' : Op.bytesLess p'.name.toList p.name.toList = false := hL
          have HF := Lib.hid (rightT_rise o t k hlt h0 (by rw [HPP.out, HPP'.out]; exact hL))
          clear hL
          refine wp_region_lat (by kernel_rfl) (by kernel_rfl) ?_
          repeat (go_big_quiet_step ((first | (go_at_call 79; exact Calls.lat_of (Cf.out _)))))
          refine wpQuiet_nil ?_
          intro _ hw'
          obtain ⟨x, hw''⟩ := hw'
          subst hw''
          go_wp2_with fail
          go_ret
          exact ⟨by rw [HF.out]; rfl, (HA.out.trans HA3.out).lat x⟩
        have hL' : Op.bytesLess p'.name.toList p.name.toList = true := hL
        have HLT := Lib.hid (show 0 < k → ltS (t.rules[k - 1]'(by omega)).name t.rules[k].name = true by intro _; rw [HPP.out, HPP'.out]; exact hL)
        clear hL
        cases f
        · have HF := Lib.hid (rightT_rule o t k hlt (by rw [HO.out]; rfl))
          refine wp_region_lat (by kernel_rfl) (by kernel_rfl) ?_
          repeat (go_big_quiet_step ((first | (go_at_call 79; exact Calls.lat_of (Cf.out _)))))
          refine wpQuiet_nil ?_
          intro _ hw'
          obtain ⟨x, hw''⟩ := hw'
          subst hw''
          go_wp2_with fail
          go_ret
          exact ⟨by rw [HF.out]; rfl, (HA.out.trans HA3.out).lat x⟩
        refine wp_region_lat (by kernel_rfl) (by kernel_rfl) ?_
        repeat (go_big_quiet_step ((first | (go_at_call 79; exact Calls.lat_of (Cf.out _)))))
        refine wpQuiet_nil ?_
        intro _ hw'
        obtain ⟨x, hw''⟩ := hw'
        subst hw''
        cases h4 : (p.kind == 4)
        · have HN := Lib.hid (ext_lt (p := fun j => ∀ (hj : j < t.rules.length), ruleOk o.tables t.cols t.rules[j] = true ∧ (0 < j → ltS (t.rules[j - 1]'(by omega)).name t.rules[j].name = true)) HP.out (fun _ => ⟨by rw [HO.out, h4]; rfl, HLT.out⟩))
          go_wp2_with fail
          go_roundw
          case rel => exact ⟨k + 1, by omega, by go_num, (HAB.out.trans HA3.out).lat x, HN.out⟩
          case measure => simp [intOf]; omega
        · go_wp2_with fail
          refine (Ck.out _ ((Aft.refl w3).lat x)).mono ?_
          rintro e w4 ⟨rfl, a4⟩
          have HA4 := Lib.hid ((HA3.out.lat x).trans a4)
          clear a4 Ck hbo3 hbt3 hbr
          cases z0 : (z != 0)
          · have HN := Lib.hid (ext_lt (p := fun j => ∀ (hj : j < t.rules.length), ruleOk o.tables t.cols t.rules[j] = true ∧ (0 < j → ltS (t.rules[j - 1]'(by omega)).name t.rules[j].name = true)) HP.out (fun _ => ⟨by rw [HO.out, h4, z0]; rfl, HLT.out⟩))
            go_wp2_with fail
            go_roundw
            case rel => exact ⟨k + 1, by omega, by go_num, HAB.out.trans HA4.out, HN.out⟩
            case measure => simp [intOf]; omega
          · have HF := Lib.hid (rightT_rule o t k hlt (by rw [HO.out, h4, z0]; rfl))
            go_wp2_with fail
            go_ret
            exact ⟨by rw [HF.out]; rfl, HA.out.trans HA4.out⟩
      · have w5' : decide ((0 : Int) < (k : Int)) = false := decide_eq_false (by omega)
        have w6' : (k : Int) ≤ 0 := by omega
        have HLT := Lib.hid (show 0 < k → ltS (t.rules[k - 1]'(by omega)).name t.rules[k].name = true from fun h => absurd h h0)
        clear hpp hr a3
        cases f
        · have HF := Lib.hid (rightT_rule o t k hlt (by rw [HO.out]; rfl))
          refine wp_region_lat (by kernel_rfl) (by kernel_rfl) ?_
          repeat (go_big_quiet_step ((first | (go_at_call 79; exact Calls.lat_of (Cf.out _)))))
          refine wpQuiet_nil ?_
          intro _ hw'
          obtain ⟨x, hw''⟩ := hw'
          subst hw''
          go_wp2_with fail
          go_ret
          exact ⟨by rw [HF.out]; rfl, (HA.out.trans HA3.out).lat x⟩
        refine wp_region_lat (by kernel_rfl) (by kernel_rfl) ?_
        repeat (go_big_quiet_step ((first | (go_at_call 79; exact Calls.lat_of (Cf.out _)))))
        refine wpQuiet_nil ?_
        intro _ hw'
        obtain ⟨x, hw''⟩ := hw'
        subst hw''
        cases h4 : (p.kind == 4)
        · have HN := Lib.hid (ext_lt (p := fun j => ∀ (hj : j < t.rules.length), ruleOk o.tables t.cols t.rules[j] = true ∧ (0 < j → ltS (t.rules[j - 1]'(by omega)).name t.rules[j].name = true)) HP.out (fun _ => ⟨by rw [HO.out, h4]; rfl, HLT.out⟩))
          go_wp2_with fail
          go_roundw
          case rel => exact ⟨k + 1, by omega, by go_num, (HAB.out.trans HA3.out).lat x, HN.out⟩
          case measure => simp [intOf]; omega
        · go_wp2_with fail
          refine (Ck.out _ ((Aft.refl w3).lat x)).mono ?_
          rintro e w4 ⟨rfl, a4⟩
          have HA4 := Lib.hid ((HA3.out.lat x).trans a4)
          clear a4 Ck hbo3 hbt3 hbr
          cases z0 : (z != 0)
          · have HN := Lib.hid (ext_lt (p := fun j => ∀ (hj : j < t.rules.length), ruleOk o.tables t.cols t.rules[j] = true ∧ (0 < j → ltS (t.rules[j - 1]'(by omega)).name t.rules[j].name = true)) HP.out (fun _ => ⟨by rw [HO.out, h4, z0]; rfl, HLT.out⟩))
            go_wp2_with fail
            go_roundw
            case rel => exact ⟨k + 1, by omega, by go_num, HAB.out.trans HA4.out, HN.out⟩
            case measure => simp [intOf]; omega
          · have HF := Lib.hid (rightT_rule o t k hlt (by rw [HO.out, h4, z0]; rfl))
            go_wp2_with fail
            go_ret
            exact ⟨by rw [HF.out]; rfl, HA.out.trans HA4.out⟩
    · have HF := Lib.hid (show rightT o t = true by
        rw [HR2.out, all_true _ _ fun j hj => (HP.out j (by omega) hj).1, rises_pred (fun a b : Rul => cmpS a.name b.name) _ fun j hj1 hj => (cmpS_lt_iff _ _).2 ((HP.out j (by omega) hj).2 (by omega))]; rfl)
      go_wp2_with fail
      go_ret
      exact ⟨by rw [HF.out]; rfl, HA.out⟩
theorem checkO_rows (o : Objs) : checkO o = (decide (o.schemas.length ≤ 8) && decide (o.tables.length ≤ 64) && rowsB o && o.tables.all (rightT o)) := by
  unfold checkO headOk rowsB
  cases decide (o.schemas.length ≤ 8) <;> cases decide (o.tables.length ≤ 64) <;> cases o.schemas.all (schOk o) <;> simp [Bool.and_comm]
set_option maxHeartbeats 8000000 in
theorem rRight_any (o : Objs) (As : Option Addr) (caps : Nat) (At : Option Addr) (capt : Nat) (w : World) (hsch : SlAt w 2 SchR As caps o.schemas) (htab : SlAt w 5 TabR At capt o.tables) :
    Calls Tryz.prog 20 #[.agg #[.slice As o.schemas.length caps, .slice At o.tables.length capt]] w
      fun e w' => e = .returned (.bool (checkO o)) ∧ Aft w w' := by
  have hlen := hsch.len
  have hlen2 := htab.len
  have HR0 := Lib.hid (checkO_rows o)
  by_cases d1 : 8 < o.schemas.length
  · have HF := Lib.hid (show checkO o = false by rw [HR0.out, decide_eq_false (show ¬ o.schemas.length ≤ 8 by omega)]; rfl)
    have e1 : (8 : Int) < (o.schemas.length : Int) := by omega
    go_enter Tryz.func20, Tryz.ntmps20
    go_wp2_with fail
    go_ret
    exact ⟨by rw [HF.out]; rfl, (Aft.refl _).alloc _⟩
  have e1 : (o.schemas.length : Int) ≤ 8 := by omega
  by_cases d2 : 64 < o.tables.length
  · have HF := Lib.hid (show checkO o = false by rw [HR0.out, decide_eq_false (show ¬ o.tables.length ≤ 64 by omega), Bool.and_false]; rfl)
    have e2 : (64 : Int) < (o.tables.length : Int) := by omega
    go_enter Tryz.func20, Tryz.ntmps20
    go_wp2_with fail
    go_ret
    exact ⟨by rw [HF.out]; rfl, (Aft.refl _).alloc _⟩
  have e2 : (o.tables.length : Int) ≤ 64 := by omega
  obtain ⟨g, hg⟩ : ∃ g, rowsB o = g := ⟨_, rfl⟩
  have HR := Lib.hid (show checkO o = (g && o.tables.all (rightT o)) by rw [HR0.out, decide_eq_true (show o.schemas.length ≤ 8 by omega), decide_eq_true (show o.tables.length ≤ 64 by omega), hg]; rfl)
  have C1 := Lib.hid (show ∀ w', Aft w w' → Calls Tryz.prog 45 #[.agg #[.slice As o.schemas.length caps, .slice At o.tables.length capt]] w' fun e w'' => e = .returned (.bool g) ∧ Aft w' w'' from
    fun w' a => (rrows_any o As caps At capt w' (schs_aft a hsch) (tabs_aft a htab)).mono fun e w'' ⟨he, hw⟩ => ⟨he.trans (by rw [← hg]), hw⟩)
  clear hg HR0
  go_enter Tryz.func20, Tryz.ntmps20
  go_wp2_with fail
  refine (C1.out _ ((Aft.refl w).alloc _)).mono ?_
  rintro e w1 ⟨rfl, a1⟩
  obtain ⟨hbox, hfr, hz, hzk, HA⟩ := aft_box a1
  have HAB := Lib.hid a1
  clear a1 C1
  cases g
  · have HF := Lib.hid (show checkO o = false by rw [HR.out]; rfl)
    go_wp2_with fail
    go_ret
    exact ⟨by rw [HF.out]; rfl, HA.out⟩
  have HR2 := Lib.hid (show checkO o = o.tables.all (rightT o) by rw [HR.out]; rfl)
  clear HR
  go_wp2_with fail
  go_loopw [3] (fun i wr => ∃ k : Nat, k ≤ o.tables.length ∧ i = .int .i64 k ∧ Aft (w.alloc (.cells #[.slice As o.schemas.length caps, .slice At o.tables.length capt] 29)) wr ∧ ∀ j, j < k → ∀ (hj : j < o.tables.length), rightT o o.tables[j] = true) (fun i _ => o.tables.length - (intOf i).toNat)
  case atStart => exact ⟨0, Nat.zero_le _, rfl, HAB.out, fun j hj => absurd hj (Nat.not_lt_zero j)⟩
  case round =>
    clear hbox hfr hz hzk HA HAB
    obtain ⟨k2, hk2, rfl, ha, hp⟩ := hrel
    obtain ⟨hbox, hfr, hz, hzk, HA⟩ := aft_box ha
    have HAB := Lib.hid ha
    have HP := Lib.hid hp
    clear ha hp
    by_cases hlt2 : k2 < o.tables.length
    · have htt := tabs_aft HA.out htab
      have hss := schs_aft HA.out hsch
      obtain ⟨b, off, B2, capB2, B3, capB3, rfl, hb, c0, c1, c2, c3, c4, hcols, hrules, s0, s1, s2⟩ := tab_at htt hlt2
      obtain ⟨p, hpp⟩ : ∃ p, o.tables[k2] = p := ⟨_, rfl⟩
      rw [hpp] at c0 c1 c2 c3 c4 hcols hrules s0 s1 s2
      obtain ⟨f, hf⟩ : ∃ f, rightT o p = f := ⟨_, rfl⟩
      have HO := Lib.hid (show rightT o o.tables[k2] = f by rw [hpp]; exact hf)
      have Cr := Lib.hid (show ∀ x : Lat wr, Calls Tryz.prog 46 #[.agg #[.slice As o.schemas.length caps, .slice (some ⟨b, off, none⟩) o.tables.length capt], .agg #[.string p.schema, .string p.name, .string p.owner, .slice B2 p.cols.length capB2, .slice B3 p.rules.length capB3]] (lat wr x) fun e w' => e = .returned (.bool f) ∧ Aft (lat wr x) w' from
        fun x => (rright_any o p As caps _ capt B2 capB2 B3 capB3 (lat wr x) (schs_aft ((Aft.refl wr).lat x) hss) (tabs_aft ((Aft.refl wr).lat x) htt) (cols_aft ((Aft.refl wr).lat x) hcols) (ruls_aft ((Aft.refl wr).lat x) hrules) s1 s2).mono fun e w'' ⟨he, hw⟩ => ⟨he.trans (by rw [← hf]), hw⟩)
      clear hf hpp htt hss hcols hrules
      go_wp2_with fail
      refine wp_region_lat (by kernel_rfl) (by kernel_rfl) ?_
      repeat (go_big_quiet_step ((first | (go_at_call 46; exact Calls.lat_of (Cr.out _)))))
      refine wpQuiet_nil ?_
      intro _ hw'
      obtain ⟨x, hw''⟩ := hw'
      subst hw''
      cases f
      · have HF := Lib.hid (show checkO o = false by rw [HR2.out, all_false _ _ k2 hlt2 HO.out])
        go_wp2_with fail
        go_ret
        exact ⟨by rw [HF.out]; rfl, HA.out.lat x⟩
      · have HN := Lib.hid (ext_lt (p := fun j => ∀ (hj : j < o.tables.length), rightT o o.tables[j] = true) HP.out (fun _ => HO.out))
        go_wp2_with fail
        go_roundw
        case rel => exact ⟨k2 + 1, by omega, by go_num, HAB.out.lat x, HN.out⟩
        case measure => simp [intOf]; omega
    · have HF := Lib.hid (show checkO o = true by rw [HR2.out, all_true _ _ fun j hj => HP.out j (by omega) hj])
      go_wp2_with fail
      go_ret
      exact ⟨by rw [HF.out]; rfl, HA.out⟩
end Go.Proofs.YtiadkchlkdaceaaGreat

namespace Go.Proofs.YtiadkchlkdaceaaGreat
open Go.RowKit Go.Deep
set_option maxRecDepth 100000
set_option linter.unusedVariables false
def zeroT : Tab := ⟨⟨#[]⟩, ⟨#[]⟩, ⟨#[]⟩, [], []⟩
def findR (o : Objs) (s n : ByteArray) : Tab × Int :=
  if checkO o then (match o.tables[(tabAt o.tables s n).toNat]? with | some t => if tabAt o.tables s n < 0 then (zeroT, 61) else (t, 0) | none => (zeroT, 61)) else (zeroT, 63)
theorem findR_no {o : Objs} {s n : ByteArray} (h : checkO o = false) : findR o s n = (zeroT, 63) := by unfold findR; rw [h]; rfl
theorem findR_none {o : Objs} {s n : ByteArray} (h : checkO o = true) (hi : tabAt o.tables s n < 0) : findR o s n = (zeroT, 61) := by
  unfold findR; rw [h, if_pos rfl]; split
  · rw [if_pos hi]
  · rfl
theorem findR_some {o : Objs} {s n : ByteArray} {q : Nat} (h : checkO o = true) (hi : tabAt o.tables s n = q) (hq : q < o.tables.length) : findR o s n = (o.tables[q], 0) := by
  unfold findR; rw [h, if_pos rfl, hi]
  simp only [Int.toNat_natCast, List.getElem?_eq_getElem hq]
  rw [if_neg (by omega)]
def FindP (w : World) (r : Tab × Int) (e : Ending) (w' : World) : Prop :=
  ∃ x : OTab, x.t = r.1 ∧ e = .returned (.tuple #[.agg #[.string r.1.schema, .string r.1.name, .string r.1.owner, .slice x.hc.a r.1.cols.length x.hc.c, .slice x.hr.a r.1.rules.length x.hr.c], .int .i64 r.2]) ∧ Aft w w' ∧ TabIn w' w.heap.size x ∧ x.blks.Nodup
theorem findP_zero {w w' : World} {c : Int} (a : Aft w w') : FindP w (zeroT, c) (.returned (.tuple #[.agg #[.string ⟨#[]⟩, .string ⟨#[]⟩, .string ⟨#[]⟩, .slice none 0 0, .slice none 0 0], .int .i64 c])) w' :=
  ⟨⟨⟨#[]⟩, ⟨#[]⟩, ⟨#[]⟩, [], [], ⟨none, 0, 0⟩, ⟨none, 0, 0⟩⟩, rfl, rfl, a, ⟨own_nil _ _ _ _, own_nil _ _ _ _, fun x hx => by simp at hx⟩, by simp [OTab.blks, blk_nil]⟩
theorem setT_row {w : World} {b : Nat} {xs : List Value} (h : RowAt w b xs) (hl : xs.length = 5) (v0 v1 v2 v3 v4 : Value) : RowAt (((((w.setCell ⟨b, 0, none⟩ v0).setCell ⟨b, 1, none⟩ v1).setCell ⟨b, 2, none⟩ v2).setCell ⟨b, 3, none⟩ v3).setCell ⟨b, 4, none⟩ v4) b [v0, v1, v2, v3, v4] := by
  match xs, hl with
  | [a, b, c, d, e], _ => exact ((((h.set 0 _ (by simp)).set 1 _ (by simp)).set 2 _ (by simp)).set 3 _ (by simp)).set 4 _ (by simp)
theorem setT_kb (w : World) (b : Nat) (v0 v1 v2 v3 v4 : Value) : Kb (fun g => g = b) w (((((w.setCell ⟨b, 0, none⟩ v0).setCell ⟨b, 1, none⟩ v1).setCell ⟨b, 2, none⟩ v2).setCell ⟨b, 3, none⟩ v3).setCell ⟨b, 4, none⟩ v4) :=
  ((((Kb.set _ _ _ _).trans (Kb.set _ _ _ _)).trans (Kb.set _ _ _ _)).trans (Kb.set _ _ _ _)).trans (Kb.set _ _ _ _)
set_option maxHeartbeats 8000000 in
theorem find_in (o : Objs) (As : Option Addr) (caps : Nat) (At : Option Addr) (capt : Nat) (s n : ByteArray) (w : World) (hsch : SlAt w 2 SchR As caps o.schemas) (htab : SlAt w 5 TabR At capt o.tables) :
    Calls Tryz.prog 24 #[.agg #[.slice As o.schemas.length caps, .slice At o.tables.length capt], .string s, .string n] w (FindP w (findR o s n)) := by
  have hlen := hsch.len
  have hlen2 := htab.len
  have l1 : w.heap.size < w.heap.size + 1 := by omega
  have l2 : w.heap.size < w.heap.size + 1 + 1 := by omega
  obtain ⟨W, hW⟩ : ∃ W, W = (w.alloc (.cells #[.slice As o.schemas.length caps, .slice At o.tables.length capt] 29)).alloc (.cells #[.string ⟨#[]⟩, .string ⟨#[]⟩, .string ⟨#[]⟩, .slice none 0 0, .slice none 0 0] 76) := ⟨_, rfl⟩
  have aW : Aft w W := by rw [hW]; exact ((Aft.refl w).alloc _).alloc _
  have r1 : RowAt W w.heap.size [.slice As o.schemas.length caps, .slice At o.tables.length capt] := by rw [hW]; exact (box_row2 (Aft.refl _)).aft ((Aft.refl _).alloc _)
  have r2 : RowAt W (w.heap.size + 1) [.string ⟨#[]⟩, .string ⟨#[]⟩, .string ⟨#[]⟩, .slice none 0 0, .slice none 0 0] := by
    rw [hW]
    have := (box_row2 (w := w.alloc (.cells #[.slice As o.schemas.length caps, .slice At o.tables.length capt] 29)) (c := [.string ⟨#[]⟩, .string ⟨#[]⟩, .string ⟨#[]⟩, .slice none 0 0, .slice none 0 0]) (t := 76) (Aft.refl _))
    simpa using this
  have zW : W.heap.size = w.heap.size + 2 := by rw [hW]; simp
  obtain ⟨c, hc⟩ : ∃ c, checkO o = c := ⟨_, rfl⟩
  obtain ⟨i, hi⟩ : ∃ i, tabAt o.tables s n = i := ⟨_, rfl⟩
  have hir : -1 ≤ i ∧ i < o.tables.length := by rw [← hi]; exact idxP_range _ _
  have CK := Lib.hid (show ∀ w', Aft w w' → Calls Tryz.prog 23 #[.agg #[.slice As o.schemas.length caps, .slice At o.tables.length capt]] w' fun e w'' => e = .returned (.int .i64 (if c = true then 0 else 63)) ∧ Aft w' w'' from
    fun w' a => (check_any o As caps At capt w' (schs_aft a hsch) (tabs_aft a htab)).mono fun e w'' ⟨he, hw⟩ => ⟨he.trans (by unfold checkE; rw [hc]), hw⟩)
  have CW := Lib.hid (show ∀ w', Aft w w' → Calls Tryz.prog 59 #[.agg #[.slice As o.schemas.length caps, .slice At o.tables.length capt], .string s, .string n] w' fun e w'' => e = .returned (.tuple #[.int .i64 i, .bool (decide (0 ≤ i))]) ∧ Aft w' w'' from
    fun w' a => (where_any (.slice As o.schemas.length caps) At capt o.tables s n w' (tabs_aft a htab)).mono fun e w'' ⟨he, hw⟩ => ⟨he.trans (by rw [hi]), hw⟩)
  have HC := Lib.hid hc
  have HI := Lib.hid hi
  have HT := Lib.hid htab
  have HAW := Lib.hid aW
  have HR1 := Lib.hid r1
  have HR2 := Lib.hid r2
  have HZ := Lib.hid zW
  clear hc hi hsch htab r1 r2 aW zW
  go_enter Tryz.func24, Tryz.ntmps24
  go_wp2_with fail
  rw [← hW]
  clear hW
  refine (CK.out W HAW.out).mono ?_
  rintro e w1 ⟨rfl, a1⟩
  have b2 := HR2.out.aft a1
  have d0 := b2.cell (j := 0) rfl
  have d1 := b2.cell (j := 1) rfl
  have d2 := b2.cell (j := 2) rfl
  have d3 := b2.cell (j := 3) rfl
  have d4 := b2.cell (j := 4) rfl
  have f0 := b2.2.2 0 (by simp)
  have f1 := b2.2.2 1 (by simp)
  have f2 := b2.2.2 2 (by simp)
  have f3 := b2.2.2 3 (by simp)
  have f4 := b2.2.2 4 (by simp)
  have z2 := b2.1
  have HA1 := Lib.hid (HAW.out.trans a1)
  have HB2 := Lib.hid b2
  have b1 := HR1.out.aft a1
  have c0 := b1.cell (j := 0) rfl
  have c1 := b1.cell (j := 1) rfl
  have z1 := b1.1
  have HB1 := Lib.hid b1
  have HZ1 := Lib.hid (show w.heap.size + 2 ≤ w1.heap.size by have := a1.size; have := HZ.out; omega)
  clear a1 b2 b1
  cases c
  · go_wp2_with fail
    refine bodyPost_ret (results_cell_tmp (v := .agg #[.string ⟨#[]⟩, .string ⟨#[]⟩, .string ⟨#[]⟩, .slice none 0 0, .slice none 0 0]) rfl _ rfl ?hl) rfl ?_
    case hl => exact lvTab_row (setT_row HB2.out rfl _ _ _ _ _)
    rw [findR_no HC.out]
    exact findP_zero ((setT_kb _ _ _ _ _ _ _).to_aft HA1.out (fun g hg e => by omega))
  · go_wp2_with fail
    refine (CW.out w1 HA1.out).mono ?_
    rintro e w2 ⟨rfl, a2⟩
    have b2 := HB2.out.aft a2
    have d0 := b2.cell (j := 0) rfl
    have d1 := b2.cell (j := 1) rfl
    have d2 := b2.cell (j := 2) rfl
    have d3 := b2.cell (j := 3) rfl
    have d4 := b2.cell (j := 4) rfl
    have f0 := b2.2.2 0 (by simp)
    have f1 := b2.2.2 1 (by simp)
    have f2 := b2.2.2 2 (by simp)
    have f3 := b2.2.2 3 (by simp)
    have f4 := b2.2.2 4 (by simp)
    have z2 := b2.1
    have HA2 := Lib.hid (HA1.out.trans a2)
    have HB2' := Lib.hid b2
    have b1 := HB1.out.aft a2
    have c1 := b1.cell (j := 1) rfl
    have z1 := b1.1
    have HZ2 := Lib.hid (show w.heap.size + 2 ≤ w2.heap.size by have := a2.size; have := HZ1.out; omega)
    clear a2 b2 b1
    by_cases h0 : 0 ≤ i
    · obtain ⟨q, rfl⟩ := Int.eq_ofNat_of_zero_le h0
      have hq : q < o.tables.length := by omega
      obtain ⟨b, off, A2, cap2, A3, cap3, rfl, hb, t0, t1, t2, t3, t4, hcols, hruls, hss⟩ := tab_at (tabs_aft HA2.out HT.out) hq
      have hd : decide (0 ≤ (q : Int)) = true := by simp
      have CP := Lib.hid (copied_in o.tables[q] A2 cap2 A3 cap3 w2 hcols hruls (by have := (check_mod HC.out).2.2 o.tables[q] (List.getElem_mem hq); exact this))
      have HE := Lib.hid (findR_some HC.out HI.out hq)
      obtain ⟨p, hp⟩ : ∃ p, o.tables[q] = p := ⟨_, rfl⟩
      rw [hp] at t0 t1 t2 t3 t4 CP HE
      clear hp hcols hruls hss h0 hir
      go_wp2_with fail
      refine CP.out.mono ?_
      rintro e w3 ⟨x, hx, rfl, a3, tin, xnd⟩
      have b2 := HB2'.out.aft a3
      have d0 := b2.cell (j := 0) rfl
      have d1 := b2.cell (j := 1) rfl
      have d2 := b2.cell (j := 2) rfl
      have d3 := b2.cell (j := 3) rfl
      have d4 := b2.cell (j := 4) rfl
      have f0 := b2.2.2 0 (by simp)
      have f1 := b2.2.2 1 (by simp)
      have f2 := b2.2.2 2 (by simp)
      have f3 := b2.2.2 3 (by simp)
      have f4 := b2.2.2 4 (by simp)
      have z2 := b2.1
      have HA3 := Lib.hid (HA2.out.trans a3)
      have HB3 := Lib.hid b2
      have HTI := Lib.hid tin
      have HX := Lib.hid hx
      have HN := Lib.hid xnd
      clear a3 b2 tin hx xnd
      go_wp2_with fail
      refine bodyPost_ret (results_cell_tmp (v := .agg #[.string p.schema, .string p.name, .string p.owner, .slice x.hc.a p.cols.length x.hc.c, .slice x.hr.a p.rules.length x.hr.c]) rfl _ rfl ?hl) rfl ?_
      case hl => exact lvTab_row (setT_row HB3.out rfl _ _ _ _ _)
      rw [HE.out]
      refine ⟨x, HX.out, rfl, (setT_kb _ _ _ _ _ _ _).to_aft HA3.out (fun g hg e => by omega), ?_, HN.out⟩
      have hz2 := HZ2.out
      refine TabIn.down (HTI.out.kb (setT_kb _ _ _ _ _ _ _) fun g hg e => ?_) (show w.heap.size ≤ w2.heap.size by omega)
      have := (HTI.out.lt g hg).1
      omega
    · have hd : decide (0 ≤ i) = false := by simpa using h0
      go_wp2_with fail
      refine bodyPost_ret (results_cell_tmp (v := .agg #[.string ⟨#[]⟩, .string ⟨#[]⟩, .string ⟨#[]⟩, .slice none 0 0, .slice none 0 0]) rfl _ rfl ?hl3) rfl ?_
      case hl3 => exact lvTab_row (setT_row HB2'.out rfl _ _ _ _ _)
      rw [findR_none HC.out (by rw [HI.out]; omega)]
      exact findP_zero ((setT_kb _ _ _ _ _ _ _).to_aft HA2.out (fun g hg e => by omega))
end Go.Proofs.YtiadkchlkdaceaaGreat

namespace Go.Proofs.YtiadkchlkdaceaaGreat
open Go.RowKit
set_option linter.unusedVariables false
/-- a table and its rows -/
structure Shf where
  t : Tab
  rows : List (List Val)
structure ROp where
  kind : Int
  role : ByteArray
  schema : ByteArray
  table : ByteArray
  row : List Val
  col : ByteArray
  v : Val
def noShf : Shf := ⟨zeroT, []⟩
def shfAt (S : List Shf) (s n : ByteArray) : Int := idxP (fun x : Shf => eqS x.t.schema s && eqS x.t.name n) S
def shfN (S : List Shf) (q : Nat) : Shf := S[q]?.getD noShf
/-- has one of some rows these values in these columns? -/
def hasR12 (l : List Col) (rows : List (List Val)) (cs : List ByteArray) (want : List Val) : Bool := rows.any fun row => eqVs (ofVs l cs row) want
def isKey (key : ByteArray) (r : Rul) : Bool := r.kind == 2 && eqS r.name key
/-- the columns of a table's key -/
def keyOf (t : Tab) (key : ByteArray) : List ByteArray := ((t.rules.find? (isKey key)).map (·.cols)).getD []
def keyHit (t : Tab) (rows : List (List Val)) (row : List Val) (r : Rul) : Bool := r.kind == 2 && (wholeV (ofVs t.cols r.cols row) && hasR12 t.cols rows r.cols (ofVs t.cols r.cols row))
/-- the rows among which a foreign rule's key must be -/
def amongS (S : List Shf) (q p : Nat) (row : List Val) : List (List Val) := if p = q then (shfN S p).rows ++ [row] else (shfN S p).rows
def farHit (S : List Shf) (q : Nat) (row : List Val) (r : Rul) : Bool :=
  r.kind == 4 && (wholeV (ofVs (shfN S q).t.cols r.cols row) && !hasR12 (shfN S (shfAt S r.schema r.table).toNat).t.cols (amongS S q (shfAt S r.schema r.table).toNat row) (keyOf (shfN S (shfAt S r.schema r.table).toNat).t r.key) (ofVs (shfN S q).t.cols r.cols row))
/-- why a row may not be laid -/
def wrongS (S : List Shf) (q : Nat) (row : List Val) : Int :=
  if fitE (shfN S q).t row ≠ 0 then fitE (shfN S q).t row
  else if 64 ≤ (shfN S q).rows.length then 2
  else if (shfN S q).t.rules.any (keyHit (shfN S q).t (shfN S q).rows row) then 111
  else if (shfN S q).t.rules.any (farHit S q row) then 112
  else 0
/-- does a row need one that is gone? -/
def needS (x y : Shf) (q : Nat) (left gone : List (List Val)) (r : Rul) (row : List Val) : Bool :=
  wholeV (ofVs y.t.cols r.cols row) && (hasR12 x.t.cols gone (keyOf x.t r.key) (ofVs y.t.cols r.cols row) && !hasR12 x.t.cols left (keyOf x.t r.key) (ofVs y.t.cols r.cols row))
def needR (S : List Shf) (q : Nat) (left gone : List (List Val)) (y : Shf) (all : List (List Val)) (r : Rul) : Bool :=
  r.kind == 4 && (decide (shfAt S r.schema r.table = q) && all.any (needS (shfN S q) y q left gone r))
def heldS (S : List Shf) (q : Nat) (left gone : List (List Val)) : Bool :=
  (List.range S.length).any fun i => (shfN S i).t.rules.any (needR S q left gone (shfN S i) (if i = q then left else (shfN S i).rows))
def mayO (x : ROp) : Bool :=
  if x.kind == 1 then emp x.col && eqV x.v nilV
  else if x.kind == 2 then nameB x.col && (mayV x.v && decide (x.row.length = 0))
  else if x.kind == 3 then (nameB x.col && (mayV x.v && decide (x.row.length = 0))) || (emp x.col && (eqV x.v nilV && decide (x.row.length = 0)))
  else false
/-- is a row one whose column is a value? all are, if there is no column -/
def inS (l : List Col) (col : ByteArray) (v : Val) (row : List Val) : Bool := decide (colAt l col < 0) || eqV (valAt row (colAt l col)) v
def putS (S : List Shf) (q : Nat) (rows : List (List Val)) : List Shf := S.set q ⟨(shfN S q).t, rows⟩
def doS (S : List Shf) (x : ROp) : List Shf × List (List Val) × Int :=
  if mayO x = false then (S, [], 1)
  else if shfAt S x.schema x.table < 0 then (S, [], 110)
  else if emp x.col = false ∧ colAt (shfN S (shfAt S x.schema x.table).toNat).t.cols x.col < 0 then (S, [], 110)
  else if x.kind = 1 then
    (if wrongS S (shfAt S x.schema x.table).toNat x.row ≠ 0 then (S, [], wrongS S (shfAt S x.schema x.table).toNat x.row)
     else (putS S (shfAt S x.schema x.table).toNat ((shfN S (shfAt S x.schema x.table).toNat).rows ++ [x.row]), [x.row], 0))
  else
    let y := shfN S (shfAt S x.schema x.table).toNat
    let gone := y.rows.filter (inS y.t.cols x.col x.v)
    let left := y.rows.filter fun r => !inS y.t.cols x.col x.v r
    if x.kind = 2 then (if heldS S (shfAt S x.schema x.table).toNat left gone then (S, [], 113) else (putS S (shfAt S x.schema x.table).toNat left, gone, 0))
    else (S, gone, 0)
/-- a table's rows behind other objects -/
def turnS (S : List Shf) (t : Tab) : Shf := ⟨t, if shfAt S t.schema t.name < 0 then [] else (shfN S (shfAt S t.schema t.name).toNat).rows.map (turnVs (shfN S (shfAt S t.schema t.name).toNat).t.cols t.cols)⟩
def loadS (S : List Shf) (o : Objs) : List Shf × Int := if checkO o then (o.tables.map (turnS S), 0) else (S, 63)
/-- a store as it may be -/
structure SOk (S : List Shf) (ss : List Sch) : Prop where
  ck : checkO ⟨ss, S.map (·.t)⟩ = true
  form : ∀ x ∈ S, ∀ row ∈ x.rows, besideB formB x.t.cols row = true
  most : ∀ x ∈ S, x.rows.length ≤ 64
end Go.Proofs.YtiadkchlkdaceaaGreat

namespace Go.Proofs.YtiadkchlkdaceaaGreat
open Go.ChangeShapes Go.WideShapes Go.ChangeAt Go.RowKit
set_option maxRecDepth 100000
set_option linter.unusedVariables false
def RopR (w : World) (cs : List Value) (x : ROp) : Prop := ∃ A cap, cs = [.int .i64 x.kind, .string x.role, .string x.schema, .string x.table, .slice A x.row.length cap, .string x.col, .int .i64 x.v.kind, .int .i64 x.v.int, .string x.v.text] ∧
  SlAt w 3 ValR A cap x.row ∧ Small x.col.size ∧ Small x.v.text.size ∧ Small x.schema.size ∧ Small x.table.size ∧ (Lit.int .i64 x.kind).wf = true
section
variable {H : Type} {enc : TypeId × Value → H} {w : World}
theorem rd_rop {cs : List Value} (h : Rd enc Tryz.prog w 39 cs) : ∃ x, RopR w cs x := by
  obtain ⟨hl, _⟩ := h.struct Tryz.underlying39
  rw [show Tryz.prog.cellsOf 39 = 9 by kernel_rfl] at hl
  match cs, hl with
  | [c0, c1, c2, c3, c4, c5, c6, c7, c8], _ =>
    have f0 := h.field Tryz.underlying39 0 33 0 1 rfl (by kernel_rfl)
    have f1 := h.field Tryz.underlying39 1 9 1 1 rfl (by kernel_rfl)
    have f2 := h.field Tryz.underlying39 2 9 2 1 rfl (by kernel_rfl)
    have f3 := h.field Tryz.underlying39 3 9 3 1 rfl (by kernel_rfl)
    have f4 := h.field Tryz.underlying39 4 34 4 1 rfl (by kernel_rfl)
    have f5 := h.field Tryz.underlying39 5 9 5 1 rfl (by kernel_rfl)
    have f6 := h.field Tryz.underlying39 6 37 6 3 rfl (by kernel_rfl)
    clear h
    obtain ⟨x0, e0, z0⟩ := f0.int Tryz.underlying33
    obtain ⟨x1, e1, z1⟩ := rd_str f1
    obtain ⟨x2, e2, z2⟩ := rd_str f2
    obtain ⟨x3, e3, z3⟩ := rd_str f3
    obtain ⟨x4, A, cap, e4, z4⟩ := rd_vals f4
    obtain ⟨x5, e5, z5⟩ := rd_str f5
    obtain ⟨x6, e6, z6⟩ := rd_val f6
    simp at e0 e1 e2 e3 e4 e5 e6
    obtain ⟨e6, e7, e8⟩ := e6
    subst e0 e1 e2 e3 e4 e5 e6 e7 e8
    exact ⟨⟨x0, x1, x2, x3, x4, x5, x6⟩, A, cap, rfl, z4, z5, z6, z2, z3, z0⟩
end
end Go.Proofs.YtiadkchlkdaceaaGreat

namespace Go.Proofs.YtiadkchlkdaceaaGreat
open Go.ChangeShapes Go.WideShapes Go.ChangeAt Go.RowKit
set_option maxRecDepth 100000
set_option linter.unusedVariables false
/-- a call: Load of objects, or Do of an operation -/
structure SOp where
  ld : Bool
  o : Objs
  x : ROp
def SOpR (w : World) (cs : List Value) (p : SOp) : Prop := ∃ As caps At capt A cap, cs = [.bool p.ld, .slice As p.o.schemas.length caps, .slice At p.o.tables.length capt, .int .i64 p.x.kind, .string p.x.role, .string p.x.schema, .string p.x.table, .slice A p.x.row.length cap, .string p.x.col, .int .i64 p.x.v.kind, .int .i64 p.x.v.int, .string p.x.v.text] ∧
  SlAt w 2 SchR As caps p.o.schemas ∧ SlAt w 5 TabR At capt p.o.tables ∧ SlAt w 3 ValR A cap p.x.row ∧ Small p.x.col.size ∧ Small p.x.v.text.size
theorem SOpR.aft {w w' : World} {cs : List Value} {p : SOp} (hw : Aft w w') (h : SOpR w cs p) : SOpR w' cs p := by
  obtain ⟨As, caps, At, capt, A, cap, e, h1, h2, h3, h4⟩ := h
  exact ⟨As, caps, At, capt, A, cap, e, schs_aft hw h1, tabs_aft hw h2, vals_aft hw h3, h4⟩
section
variable {H : Type} {enc : TypeId × Value → H} {w : World}
theorem rd_sop {cs : List Value} (h : Rd enc Tryz.prog w 41 cs) : ∃ x, SOpR w cs x := by
  obtain ⟨hl, _⟩ := h.struct Tryz.underlying41
  rw [show Tryz.prog.cellsOf 41 = 12 by kernel_rfl] at hl
  match cs, hl with
  | [c0, c1, c2, c3, c4, c5, c6, c7, c8, c9, c10, c11], _ =>
    have f0 := h.field Tryz.underlying41 0 4 0 1 rfl (by kernel_rfl)
    have f1 := h.field Tryz.underlying41 1 29 1 2 rfl (by kernel_rfl)
    have f2 := h.field Tryz.underlying41 2 39 3 9 rfl (by kernel_rfl)
    clear h
    obtain ⟨x0, e0⟩ := f0.bool Tryz.underlying4
    obtain ⟨x1, As, caps, At, capt, e1, y1, y2⟩ := rd_objs f1
    obtain ⟨x2, A, cap, e2, y3, y4, y5, _⟩ := rd_rop f2
    simp at e0 e1 e2
    obtain ⟨e11, e12⟩ := e1
    obtain ⟨e20, e21, e22, e23, e24, e25, e26, e27, e28⟩ := e2
    subst e0 e11 e12 e20 e21 e22 e23 e24 e25 e26 e27 e28
    exact ⟨⟨x0, x1, x2⟩, As, caps, At, capt, A, cap, rfl, y1, y2, y3, y4, y5⟩
theorem rd_sops {cs : List Value} (h : Rd enc Tryz.prog w 22 cs) : ∃ l, SlOf w 12 SOpR cs l :=
  Rd.slice Tryz.underlying22 (by kernel_rfl : Tryz.prog.cellsOf 41 = 12) (by decide) (of_decide_eq_true (by kernel_rfl)) (fun _ h => rd_sop h) h
end
theorem sop_at {w : World} {R : Option Addr} {capR : Nat} {l : List SOp} (h : SlAt w 12 SOpR R capR l) {k : Nat} (hk : k < l.length) :
    ∃ b off As caps At capt A cap, R = some ⟨b, off, none⟩ ∧ b < w.heap.size ∧ w.cell? ⟨b, off + k * 12, none⟩ = some (.bool l[k].ld) ∧ w.cell? ⟨b, off + k * 12 + 1, none⟩ = some (.slice As l[k].o.schemas.length caps) ∧ w.cell? ⟨b, off + k * 12 + 2, none⟩ = some (.slice At l[k].o.tables.length capt) ∧
      w.cell? ⟨b, off + k * 12 + 3, none⟩ = some (.int .i64 l[k].x.kind) ∧ w.cell? ⟨b, off + k * 12 + 4, none⟩ = some (.string l[k].x.role) ∧ w.cell? ⟨b, off + k * 12 + 5, none⟩ = some (.string l[k].x.schema) ∧ w.cell? ⟨b, off + k * 12 + 6, none⟩ = some (.string l[k].x.table) ∧ w.cell? ⟨b, off + k * 12 + 7, none⟩ = some (.slice A l[k].x.row.length cap) ∧
      w.cell? ⟨b, off + k * 12 + 8, none⟩ = some (.string l[k].x.col) ∧ w.cell? ⟨b, off + k * 12 + 9, none⟩ = some (.int .i64 l[k].x.v.kind) ∧ w.cell? ⟨b, off + k * 12 + 10, none⟩ = some (.int .i64 l[k].x.v.int) ∧ w.cell? ⟨b, off + k * 12 + 11, none⟩ = some (.string l[k].x.v.text) ∧
      SlAt w 2 SchR As caps l[k].o.schemas ∧ SlAt w 5 TabR At capt l[k].o.tables ∧ SlAt w 3 ValR A cap l[k].x.row ∧ Small l[k].x.col.size ∧ Small l[k].x.v.text.size := by
  obtain ⟨b, off, cs, hA, hb, hl, ⟨As, caps, At, capt, A, cap, e, h1, h2, h3, h4, h5⟩, hc⟩ := h.2.2 k hk
  have g : ∀ j u, j < 12 → cs[j]? = some u → w.cell? ⟨b, off + k * 12 + j, none⟩ = some u := fun j u hj hu => by
    rw [Nat.add_assoc, hc j hj, hu]
  subst e
  exact ⟨b, off, As, caps, At, capt, A, cap, hA, hb, g 0 _ (by omega) rfl, g 1 _ (by omega) rfl, g 2 _ (by omega) rfl, g 3 _ (by omega) rfl, g 4 _ (by omega) rfl, g 5 _ (by omega) rfl, g 6 _ (by omega) rfl, g 7 _ (by omega) rfl, g 8 _ (by omega) rfl, g 9 _ (by omega) rfl, g 10 _ (by omega) rfl, g 11 _ (by omega) rfl, h1, h2, h3, h4, h5⟩
end Go.Proofs.YtiadkchlkdaceaaGreat

namespace Go.Proofs.YtiadkchlkdaceaaGreat
open Go.RowKit
set_option maxRecDepth 100000
set_option linter.unusedVariables false
def LargeP (w : World) (o : Objs) (e : Ending) (w' : World) : Prop := ∃ b : Bool, e = .returned (.bool b) ∧ (b = false → ModO o) ∧ Aft w w'
def ModTs (l : List Tab) : Prop := ∀ t ∈ l, t.cols.length ≤ 3000 ∧ t.rules.length ≤ 3000 ∧ ∀ r ∈ t.rules, r.cols.length ≤ 3000
theorem ModTs.snoc {l : List Tab} {k : Nat} (hk : k < l.length) (h : ModTs (l.take k)) (h1 : l[k].cols.length ≤ 3000) (h2 : l[k].rules.length ≤ 3000) (h3 : ∀ r ∈ l[k].rules, r.cols.length ≤ 3000) : ModTs (l.take (k + 1)) := by
  intro t ht
  rw [List.take_succ_eq_append_getElem hk, List.mem_append, List.mem_singleton] at ht
  rcases ht with ht | rfl
  · exact h t ht
  · exact ⟨h1, h2, h3⟩
theorem mem_snoc_all {α : Type} {l : List α} {k : Nat} (hk : k < l.length) {P : α → Prop} (h : ∀ r ∈ l.take k, P r) (h1 : P l[k]) : ∀ r ∈ l.take (k + 1), P r := by
  intro r hr
  rw [List.take_succ_eq_append_getElem hk, List.mem_append, List.mem_singleton] at hr
  rcases hr with hr | rfl
  · exact h r hr
  · exact h1
end Go.Proofs.YtiadkchlkdaceaaGreat

namespace Go.Proofs.YtiadkchlkdaceaaGreat
open Go.RowKit
set_option maxRecDepth 100000
set_option linter.unusedVariables false
set_option maxHeartbeats 8000000 in
theorem large12 (o : Objs) (As : Option Addr) (caps : Nat) (At : Option Addr) (capt : Nat) (w : World) (hsch : SlAt w 2 SchR As caps o.schemas) (htab : SlAt w 5 TabR At capt o.tables) :
    Calls Tryz.prog 19 #[.agg #[.int .i64 0, .int .i64 0, .slice As o.schemas.length caps, .slice At o.tables.length capt, .slice none 0 0, .slice none 0 0, .slice none 0 0]] w (LargeP w o) := by
  have hlen := hsch.len
  have hlen2 := htab.len
  obtain ⟨W, hW⟩ : ∃ W, W = (w.alloc (.cells #[.int .i64 0, .int .i64 0, .slice As o.schemas.length caps, .slice At o.tables.length capt, .slice none 0 0, .slice none 0 0, .slice none 0 0] 66)).alloc (.cells #[.slice As o.schemas.length caps, .slice At o.tables.length capt] 29) := ⟨_, rfl⟩
  have aW : Aft w W := by rw [hW]; exact ((Aft.refl w).alloc _).alloc _
  have r0 : RowAt W (w.heap.size) [.int .i64 0, .int .i64 0, .slice As o.schemas.length caps, .slice At o.tables.length capt, .slice none 0 0, .slice none 0 0, .slice none 0 0] := by rw [hW]; exact (box_row2 (Aft.refl _)).aft ((Aft.refl _).alloc _)
  have r1 : RowAt W (w.heap.size + 1) [.slice As o.schemas.length caps, .slice At o.tables.length capt] := by
    rw [hW]
    have := box_row2 (w := w.alloc (.cells #[.int .i64 0, .int .i64 0, .slice As o.schemas.length caps, .slice At o.tables.length capt, .slice none 0 0, .slice none 0 0, .slice none 0 0] 66)) (c := [.slice As o.schemas.length caps, .slice At o.tables.length capt]) (t := 29) (Aft.refl _)
    simpa using this
  have HR := Lib.hid r1
  have HAW := Lib.hid aW
  have HT := Lib.hid htab
  clear hsch htab r0 r1 aW
  go_enter Tryz.func19, Tryz.ntmps19
  go_wp2_with fail
  rw [← hW]
  go_loopw [4, 5] (fun n i wr => ∃ (k : Nat) (z : Int), k ≤ o.tables.length ∧ n = .int .i64 z ∧ i = .int .i64 k ∧ 0 ≤ z ∧ z ≤ 140737488351232 ∧ (z ≤ 3000 → (o.schemas.length ≤ 3000 ∧ o.tables.length ≤ 3000) ∧ ModTs (o.tables.take k)) ∧ Aft W wr) (fun _ i _ => o.tables.length - (intOf i).toNat)
  case atStart => exact ⟨0, _, Nat.zero_le _, rfl, rfl, by omega, by omega, fun h => ⟨⟨by omega, by omega⟩, fun t ht => by simp at ht⟩, Aft.refl _⟩
  case round =>
    clear hW
    obtain ⟨k, z, hk, rfl, rfl, hz1, hz2, hmod, ha⟩ := hrel
    have HA := Lib.hid ha
    have p0 := HR.out.aft ha
    have x1 := p0.cell (j := 1) rfl
    have xz := p0.1
    have HM := Lib.hid hmod
    clear hmod p0
    by_cases hlt : k < o.tables.length
    · by_cases hz0 : z ≤ 3000
      · obtain ⟨b, off, B2, capB2, B3, capB3, rfl, hb, c0, c1, c2, c3, c4, hcols, hrules, hss⟩ := tab_at (tabs_aft (HAW.out.trans ha) HT.out) hlt
        obtain ⟨t, ht0⟩ : ∃ t, o.tables[k] = t := ⟨_, rfl⟩
        rw [ht0] at c0 c1 c2 c3 c4 hcols hrules
        have HTT := Lib.hid ht0
        clear ht0 hss ha
        have hl2 := hcols.len
        have hl3 := hrules.len
        go_wp2_with fail
        go_loop [4, 7] (fun n i => ∃ (m : Nat) (z : Int), m ≤ t.rules.length ∧ n = .int .i64 z ∧ i = .int .i64 m ∧ 0 ≤ z ∧ z ≤ 140737488351232 ∧ (z ≤ 3000 → (t.cols.length ≤ 3000 ∧ t.rules.length ≤ 3000) ∧ ∀ r ∈ t.rules.take m, r.cols.length ≤ 3000)) (fun _ i => t.rules.length - (intOf i).toNat)
        case atStart => exact ⟨0, _, Nat.zero_le _, rfl, rfl, by omega, by omega, fun h => ⟨⟨by omega, by omega⟩, fun r hr => by simp at hr⟩⟩
        case round =>
          obtain ⟨m, z2, hm, rfl, rfl, hy1, hy2, hmod⟩ := hrel
          have HN := Lib.hid hmod
          clear hmod
          by_cases hlt2 : m < t.rules.length
          · by_cases hz2 : z2 ≤ 3000
            · obtain ⟨b3, off3, D2, capD2, rfl, hb3, e0, e1, e2, e3, e4, e5, e6, e7, hcs, hss3⟩ := rul_at hrules hlt2
              have hl4 := hcs.len
              go_wp2_with fail
              go_round
              case rel => exact ⟨m + 1, _, by omega, rfl, by go_num, by omega, by omega, fun h => ⟨(HN.out hz2).1, mem_snoc_all (P := fun r : Rul => r.cols.length ≤ 3000) hlt2 (HN.out hz2).2 (by omega)⟩⟩
              case measure => simp [intOf]; omega
            · go_wp2_with fail
              go_roundw
              case rel => exact ⟨k + 1, _, by omega, rfl, by go_num, hy1, hy2, fun h => absurd h hz2, HA.out.alloc _⟩
              case measure => simp [intOf]; omega
          · go_wp2_with fail
            go_roundw
            case rel =>
              refine ⟨k + 1, _, by omega, rfl, by go_num, hy1, hy2, fun h => ⟨(HM.out hz0).1, ?_⟩, HA.out.alloc _⟩
              have hn := HN.out h
              rw [List.take_of_length_le (by omega)] at hn
              exact (HM.out hz0).2.snoc hlt (by rw [HTT.out]; exact hn.1.1) (by rw [HTT.out]; exact hn.1.2) (by rw [HTT.out]; exact hn.2)
            case measure => simp [intOf]; omega
      · clear ha
        go_wp2_with fail
        go_ret
        exact ⟨_, rfl, fun h => absurd h (by first | (simp; done) | (simp; omega)), HAW.out.trans HA.out⟩
    · clear ha
      go_wp2_with fail
      go_ret
      refine ⟨_, rfl, fun h => ?_, HAW.out.trans HA.out⟩
      have h3 : z ≤ 3000 := by simpa using h
      obtain ⟨h1, h2⟩ := HM.out h3
      rw [List.take_of_length_le (by omega)] at h2
      exact ⟨by omega, by omega, fun t ht => ⟨by have := (h2 t ht).1; omega, by have := (h2 t ht).2.1; omega, fun r hr => by have := (h2 t ht).2.2 r hr; omega⟩⟩
end Go.Proofs.YtiadkchlkdaceaaGreat

namespace Go.Proofs.YtiadkchlkdaceaaGreat
open Go.RowKit Go.Deep
set_option maxRecDepth 100000
set_option linter.unusedVariables false
def LargeQ (w : World) (p : SOp) (e : Ending) (w' : World) : Prop := ∃ b : Bool, e = .returned (.bool b) ∧ Aft w w' ∧ (b = false → (p.ld = true → ModO p.o) ∧ p.x.row.length ≤ 1000)
set_option maxHeartbeats 8000000 in
theorem large12op (p : SOp) (As : Option Addr) (caps : Nat) (At : Option Addr) (capt : Nat) (A : Option Addr) (cap : Nat) (w : World) (hsch : SlAt w 2 SchR As caps p.o.schemas) (htab : SlAt w 5 TabR At capt p.o.tables) :
    Calls Tryz.prog 6 #[.agg #[.bool p.ld, .slice As p.o.schemas.length caps, .slice At p.o.tables.length capt, .int .i64 p.x.kind, .string p.x.role, .string p.x.schema, .string p.x.table, .slice A p.x.row.length cap, .string p.x.col, .int .i64 p.x.v.kind, .int .i64 p.x.v.int, .string p.x.v.text]] w (LargeQ w p) := by
  have CL := Lib.hid (show ∀ V, Aft w V → Calls Tryz.prog 19 #[.agg #[.int .i64 0, .int .i64 0, .slice As p.o.schemas.length caps, .slice At p.o.tables.length capt, .slice none 0 0, .slice none 0 0, .slice none 0 0]] V (LargeP V p.o) from fun V a => large12 p.o As caps At capt V (schs_aft a hsch) (tabs_aft a htab))
  obtain ⟨W, hW⟩ : ∃ W, W = w.alloc (.cells #[.bool p.ld, .slice As p.o.schemas.length caps, .slice At p.o.tables.length capt, .int .i64 p.x.kind, .string p.x.role, .string p.x.schema, .string p.x.table, .slice A p.x.row.length cap, .string p.x.col, .int .i64 p.x.v.kind, .int .i64 p.x.v.int, .string p.x.v.text] 41) := ⟨_, rfl⟩
  have aW : Aft w W := by rw [hW]; exact (Aft.refl w).alloc _
  have rW : RowAt W w.heap.size [.bool p.ld, .slice As p.o.schemas.length caps, .slice At p.o.tables.length capt, .int .i64 p.x.kind, .string p.x.role, .string p.x.schema, .string p.x.table, .slice A p.x.row.length cap, .string p.x.col, .int .i64 p.x.v.kind, .int .i64 p.x.v.int, .string p.x.v.text] := by rw [hW]; exact box_row2 (Aft.refl _)
  have HAW := Lib.hid aW
  have HRW := Lib.hid rW
  have c0 := rW.cell (j := 0) rfl
  have c1 := rW.cell (j := 1) rfl
  have c2 := rW.cell (j := 2) rfl
  have c7 := rW.cell (j := 7) rfl
  have cz := rW.1
  obtain ⟨ld, hld⟩ : ∃ ld, p.ld = ld := ⟨_, rfl⟩
  have HLD := Lib.hid hld
  rw [hld] at c0 hW HRW ⊢
  clear aW rW hsch htab hld
  cases ld
  · go_enter Tryz.func6, Tryz.ntmps6
    go_wp2_with fail
    go_ret
    rw [← hW]
    exact ⟨decide ((1000 : Int) < (p.x.row.length : Int)), rfl, HAW.out, fun h => ⟨fun h2 => by (rw [HLD.out] at h2; cases h2), by (have := of_decide_eq_false h; omega)⟩⟩
  · go_enter Tryz.func6, Tryz.ntmps6
    go_wp2_with fail
    rw [← hW]
    clear hW
    refine (CL.out W HAW.out).mono ?_
    rintro e V ⟨b, rfl, hb, aV⟩
    have HV := Lib.hid (HAW.out.trans aV)
    have HB := Lib.hid (fun h : b = false => hb h)
    have c7' := (HRW.out.aft aV).cell (j := 7) rfl
    have cz' := (HRW.out.aft aV).1
    clear aV hb c0 c1 c2 c7 cz
    cases b
    · have HM := Lib.hid (HB.out rfl)
      go_wp2_with fail
      go_ret
      exact ⟨decide ((1000 : Int) < (p.x.row.length : Int)), rfl, HV.out, fun h => ⟨fun _ => HM.out, by (have := of_decide_eq_false h; omega)⟩⟩
    · go_wp2_with fail
      go_ret
      exact ⟨true, rfl, HV.out, fun h => by cases h⟩
end Go.Proofs.YtiadkchlkdaceaaGreat

namespace Go.Proofs.YtiadkchlkdaceaaGreat
open Go.RowKit
set_option maxRecDepth 100000
set_option linter.unusedVariables false
/-- what Clone gives: a row of its own, with the same cells -/
def CloneP {α : Type} (size : Nat) (R : World → List Value → α → Prop) (w0 w : World) (l : List α) (e : Ending) (w' : World) : Prop :=
  ∃ v css, e = .returned v ∧ Aft w w' ∧ RowV w' w.heap.size v l.length css.flatten ∧ Chunks w0 size R css l
theorem infoRul : (Tryz.prog.info? 108).map (fun i => (i.zero, i.size, i.bytes)) = some (some (.agg #[.string ByteArray.empty, .int .i64 0, .slice none 0 0, .int .i64 0, .int .i64 0, .string ByteArray.empty, .string ByteArray.empty, .string ByteArray.empty]), 8, 112) := by kernel_rfl
set_option maxHeartbeats 2000000 in
theorem cloneRul (A : Option Addr) (cap : Nat) (l : List Rul) (w0 w : World) (ha : Aft w0 w) (h : SlAt w0 8 RulR A cap l) (hb : l.length ≤ 1000000) :
    Calls Tryz.prog 95 #[.slice A l.length cap] w (CloneP 8 RulR w0 w l) := by
  obtain ⟨i0, hi, hz0, hz1, hz2⟩ := info_parts infoRul
  have q22 : ∀ (w : World) (a : Option Addr) (n c n' c' : Nat), (binOp .eql 74 (.slice a n c) (.slice none n' c')).run Tryz.prog w = .ok (.bool a.isNone) w := fun w a n c n' c' => Lib.run_eql_slice_nil w _ _ a n c n' c' Tryz.underlying74
  cases A with
  | none =>
    have hl0 : l = [] := by
      cases l with
      | nil => rfl
      | cons x l => obtain ⟨b, off, cs, hA, _⟩ := h.2.2 0 (by simp); cases hA
    subst hl0
    go_enter Tryz.func95, Tryz.ntmps95
    go_wp2_with fail
    go_ret
    exact ⟨_, [], rfl, Aft.refl _, ⟨none, 0, rfl, by simp, fun h0 => by simp at h0⟩, Chunks.nil⟩
  | some ad =>
    have HC : ∃ css, Chunks w0 8 RulR css l ∧ ∀ p u, css.flatten[p]? = some u → w.cell? (ad.add p) = some u := by
      by_cases h0 : 0 < l.length
      · obtain ⟨b, off, css, hA, hb', hch, hc⟩ := h.css h0 (by decide)
        simp only [Option.some.injEq] at hA
        subst hA
        refine ⟨css, hch, fun p u hp => ?_⟩
        have hlt : p < l.length * 8 := by rw [← hch.len]; exact (List.getElem?_eq_some_iff.1 hp).1
        rw [add_mk]; exact ha.cell_kept ((hc p hlt).trans hp)
      · have hl0 : l = [] := List.eq_nil_of_length_eq_zero (by omega)
        subst hl0
        exact ⟨[], Chunks.nil, fun p u hp => by simp at hp⟩
    obtain ⟨css, hch, hcell⟩ := HC
    have H1 := Lib.hid hcell
    have H2 : Hid (∀ u ∈ css.flatten, u.oneCell' = true) := Lib.hid (by
      intro u hu
      obtain ⟨c, hc, hu⟩ := List.mem_flatten.1 hu
      obtain ⟨i, hi, rfl⟩ := List.getElem_of_mem hc
      have h3 := (hch.2 i hi (by rw [← hch.1]; exact hi)).2
      obtain ⟨A2, cap2, hcs, _⟩ := h3
      rw [hcs] at hu
      simp only [List.mem_cons, List.not_mem_nil, or_false] at hu
      rcases hu with rfl | rfl | rfl | rfl | rfl | rfl | rfl | rfl <;> simp [Value.oneCell'])
    have H3 := Lib.hid hch
    have HI := Lib.hid hi
    have HZ0 := Lib.hid hz0
    have HZ1 := Lib.hid hz1
    have HZ2 := Lib.hid hz2
    clear hcell hch hi hz0 hz1 hz2 h ha
    go_enter Tryz.func95, Tryz.ntmps95
    go_wp2_with (at_builtin; refine wpList_append_own _ rfl _ _ 74 rfl w.heap.size 108 i0 (.agg #[.string ByteArray.empty, .int .i64 0, .slice none 0 0, .int .i64 0, .int .i64 0, .string ByteArray.empty, .string ByteArray.empty, .string ByteArray.empty]) 8 112 Tryz.underlying74 HI.out HZ0.out HZ1.out HZ2.out rfl (by decide) _ _ _ rfl (World.ownsRow_made w #[] 0 (Nat.le_refl _) (Nat.zero_le _) rfl) ad l.length cap css.flatten rfl ?qc1 ?qc2 ?qc3 ?qc4 ?qc5 ?qc6 ?_)
    case qc1 => exact H3.out.len
    case qc2 =>
      intro j u hj
      exact Lib.cell?_alloc_some _ (H1.out j u hj)
    case qc3 => exact H2.out
    case qc4 => unfold maxLen; omega
    case qc5 => omega
    case qc6 => simp
    intro v' w1 hown hgrow hnil
    have HO := Lib.hid hown
    have HA := Lib.hid (show Aft w w1 from ((Below.refl _ w).alloc (Nat.le_refl _) _).grown hgrow (by simp) (by intro k hk; simp [Value.ownBlock] at hk; omega))
    clear hown hgrow hnil
    go_wp2_with fail
    go_ret
    refine ⟨v', css, rfl, HA.out, ?_, H3.out⟩
    have ho := own_rowV HO.out
    simpa using ho
end Go.Proofs.YtiadkchlkdaceaaGreat

namespace Go.Proofs.YtiadkchlkdaceaaGreat
open Go.RowKit
set_option maxRecDepth 100000
set_option linter.unusedVariables false
theorem RowAt.far {w : World} {b : Nat} {xs : List Value} (h : RowAt w b xs) {g : Nat} (hne : g ≠ b) (j : Nat) (v : Value) : RowAt (w.setCell ⟨g, j, none⟩ v) b xs :=
  ⟨by simpa using h.1, fun k hk => by refine (World.cell?_setCell_other _ _ _ _ ?_).trans (h.2.1 k hk); intro e; injection e with e1; exact hne e1, fun k hk => by rw [World.frozen?_setCell]; exact h.2.2 k hk⟩
theorem box_row {w W : World} {c : List Value} {t : TypeId} (h : Aft (w.alloc (.cells c.toArray t)) W) : RowAt W w.heap.size c := by
  obtain ⟨hb, hf, hz, _, _⟩ := aft_box h
  exact ⟨hz.1, fun j hj => by rw [hb]; simp, fun j _ => hf j⟩
theorem some_set {w : World} {q : Addr} (h : (w.cell? q).isSome = true) (p : Addr) (v : Value) : ((w.setCell p v).cell? q).isSome = true := by
  obtain ⟨u, hu⟩ := Option.isSome_iff_exists.1 h
  by_cases e : p = q
  · subst e; rw [World.cell?_setCell_same (h := hu)]; rfl
  · rw [World.cell?_setCell_other (h := e)]; exact h
theorem keep_row {w : World} {n a b c d g : Nat} {V : Value} (hS : w.cell? ⟨n, 4, none⟩ = some V ∧ (w.cell? ⟨g, a, none⟩).isSome = true ∧ (w.cell? ⟨g, b, none⟩).isSome = true ∧ (w.cell? ⟨g, c, none⟩).isSome = true ∧ (w.cell? ⟨g, d, none⟩).isSome = true ∧ w.frozen? ⟨g, a, none⟩ = false ∧ w.frozen? ⟨g, b, none⟩ = false ∧ w.frozen? ⟨g, c, none⟩ = false ∧ w.frozen? ⟨g, d, none⟩ = false) (hne : g ≠ n) (j : Nat) (v : Value) :
    (w.setCell ⟨g, j, none⟩ v).cell? ⟨n, 4, none⟩ = some V ∧ ((w.setCell ⟨g, j, none⟩ v).cell? ⟨g, a, none⟩).isSome = true ∧ ((w.setCell ⟨g, j, none⟩ v).cell? ⟨g, b, none⟩).isSome = true ∧ ((w.setCell ⟨g, j, none⟩ v).cell? ⟨g, c, none⟩).isSome = true ∧ ((w.setCell ⟨g, j, none⟩ v).cell? ⟨g, d, none⟩).isSome = true ∧ (w.setCell ⟨g, j, none⟩ v).frozen? ⟨g, a, none⟩ = false ∧ (w.setCell ⟨g, j, none⟩ v).frozen? ⟨g, b, none⟩ = false ∧ (w.setCell ⟨g, j, none⟩ v).frozen? ⟨g, c, none⟩ = false ∧ (w.setCell ⟨g, j, none⟩ v).frozen? ⟨g, d, none⟩ = false := by
  obtain ⟨h1, h2, h3, h4, h5, h6⟩ := hS
  refine ⟨?_, some_set h2 _ _, some_set h3 _ _, some_set h4 _ _, some_set h5 _ _, by simpa using h6⟩
  refine (World.cell?_setCell_other _ _ _ _ ?_).trans h1
  intro e; injection e with e1; exact hne e1
theorem RowAt.put4 {w : World} {g : Nat} {cs : List (List Value)} (hr : RowAt w g cs.flatten) (hl : ∀ c ∈ cs, c.length = 8) (k : Nat) (hk : k < cs.length) {a b c d e f x y : Value} (hcs : cs[k] = [a, b, c, d, e, f, x, y]) (b' f' x' y' : Value) :
    RowAt ((((w.setCell ⟨g, k * 8 + 1, none⟩ b').setCell ⟨g, k * 8 + 5, none⟩ f').setCell ⟨g, k * 8 + 6, none⟩ x').setCell ⟨g, k * 8 + 7, none⟩ y') g (cs.set k [a, b', c, d, e, f', x', y']).flatten := by
  have hset : ∀ (n : List Value), n.length = 8 → ∀ z ∈ cs.set k n, z.length = 8 := by
    intro n hn z hz
    rcases List.mem_or_eq_of_mem_set hz with h | h
    · exact hl z h
    · rw [h]; exact hn
  have p1 := hr.put hl k 1 hk (by decide) b'
  rw [hcs] at p1
  simp only [List.set_cons_succ, List.set_cons_zero] at p1
  have p2 := p1.put (hset _ rfl) k 5 (by simpa using hk) (by decide) f'
  rw [List.set_set, List.getElem_set_self] at p2
  simp only [List.set_cons_succ, List.set_cons_zero] at p2
  have p3 := p2.put (hset _ rfl) k 6 (by simpa using hk) (by decide) x'
  rw [List.set_set, List.getElem_set_self] at p3
  simp only [List.set_cons_succ, List.set_cons_zero] at p3
  have p4 := p3.put (hset _ rfl) k 7 (by simpa using hk) (by decide) y'
  rw [List.set_set, List.getElem_set_self] at p4
  simp only [List.set_cons_succ, List.set_cons_zero] at p4
  exact p4
theorem lvObj_rowA {W : World} {b : Nat} {a c : Value} (h : RowAt W b [a, c]) : (loadVar 29 ⟨b, 0, none⟩).run Tryz.prog W = .ok (.agg #[a, c]) W := by
  have e0 := h.cell (j := 0) rfl
  have e1 := h.cell (j := 1) rfl
  have h1 := run_lvObj W b 0 (by rw [e0]; rfl) (by rw [e1]; rfl)
  rw [e0, e1] at h1
  exact h1
theorem small0 : Small (ByteArray.size ⟨#[]⟩) := by unfold Small; simp [ByteArray.size]
theorem small1 (c : UInt8) : Small (ByteArray.size ⟨#[c]⟩) := by unfold Small; simp [ByteArray.size]
def AloneP (w : World) (t : Tab) (e : Ending) (w' : World) : Prop := ∃ As At, e = .returned (.agg #[.slice As 1 1, .slice At 1 1]) ∧ Aft w w' ∧ SlAt w' 2 SchR As 1 (aloneO t).schemas ∧ SlAt w' 5 TabR At 1 (aloneO t).tables
set_option maxHeartbeats 8000000 in
theorem alone_any (t : Tab) (A : Option Addr) (cap : Nat) (A2 : Option Addr) (cap2 : Nat) (w : World) (h : SlAt w 3 ColR A cap t.cols) (h2 : SlAt w 8 RulR A2 cap2 t.rules) (hb : t.rules.length ≤ 1000000) :
    Calls Tryz.prog 122 #[.agg #[.string t.schema, .string t.name, .string t.owner, .slice A t.cols.length cap, .slice A2 t.rules.length cap2]] w (AloneP w t) := by
  have hlen := h.len
  have l1 : w.heap.size < w.heap.size + 1 := by omega
  have l2 : w.heap.size < w.heap.size + 1 + 1 := by omega
  have Cc := Lib.hid (show ∀ w', Aft w w' → _ from fun w' a => cloneRul A2 cap2 t.rules w w' a h2 hb)
  go_enter Tryz.func122, Tryz.ntmps122
  go_wp2_with fail
  refine (Cc.out _ (((Aft.refl w).alloc _).alloc _)).mono ?_
  rintro e w1 ⟨v, css, rfl, a1, hrow, hch⟩
  have r1 : RowAt w1 w.heap.size [.string ⟨#[115]⟩, .string ⟨#[116]⟩, .string ⟨#[111]⟩, .slice A t.cols.length cap, .slice A2 t.rules.length cap2] := (box_row (Aft.refl _)).aft (((Aft.refl _).alloc _).trans a1)
  have r2 : RowAt w1 (w.heap.size + 1) [.slice none 0 0, .slice none 0 0] := by
    have := (box_row (w := w.alloc (.cells #[.string ⟨#[115]⟩, .string ⟨#[116]⟩, .string ⟨#[111]⟩, .slice A t.cols.length cap, .slice A2 t.rules.length cap2] 76)) (c := [.slice none 0 0, .slice none 0 0]) (t := 29) (Aft.refl _)).aft a1
    simpa using this
  have HC := Lib.hid hch
  have HA1 := Lib.hid ((((Aft.refl w).alloc _).alloc _).trans a1)
  obtain ⟨G, capG, rfl, hcapG, hG⟩ := hrow
  have hlr := h2.len
  have b0 := r1.cell (j := 0) rfl
  have b1 := r1.cell (j := 1) rfl
  have b2 := r1.cell (j := 2) rfl
  have b3 := r1.cell (j := 3) rfl
  have b4 := r1.cell (j := 4) rfl
  have f4 := r1.2.2 4 (by simp)
  have z1 := r1.1
  have HR1 := Lib.hid (show RowAt (w1.setCell ⟨w.heap.size, 4, none⟩ (.slice G t.rules.length capG)) w.heap.size [.string ⟨#[115]⟩, .string ⟨#[116]⟩, .string ⟨#[111]⟩, .slice A t.cols.length cap, .slice G t.rules.length capG] from r1.set 4 (.slice G t.rules.length capG) (by simp))
  have HR2 := Lib.hid (r2.far (g := w.heap.size) (by omega) 4 (.slice G t.rules.length capG))
  have HRG := Lib.hid (show 0 < t.rules.length → ∃ g, G = some ⟨g, 0, none⟩ ∧ w.heap.size + 2 ≤ g ∧ RowAt (w1.setCell ⟨w.heap.size, 4, none⟩ (.slice G t.rules.length capG)) g css.flatten by
    intro h0
    obtain ⟨g, e, hb, hr⟩ := hG h0
    have hb' : w.heap.size + 2 ≤ g := by simpa using hb
    exact ⟨g, e, hb', hr.far (by omega) _ _⟩)
  have HAS := Lib.hid (HA1.out.setCell ⟨w.heap.size, 4, none⟩ (.slice G t.rules.length capG) (Nat.le_refl _))
  clear hch a1 hG r1 r2 HA1
  go_wp2_with fail
  go_loopw [15] (fun i wr => ∃ (k : Nat) (cs : List (List Value)), k ≤ t.rules.length ∧ i = .int .i64 k ∧ Aft w wr ∧ RowAt wr w.heap.size [.string ⟨#[115]⟩, .string ⟨#[116]⟩, .string ⟨#[111]⟩, .slice A t.cols.length cap, .slice G t.rules.length capG] ∧ RowAt wr (w.heap.size + 1) [.slice none 0 0, .slice none 0 0] ∧ Chunks w 8 RulR cs ((t.rules.take k).map bareR ++ t.rules.drop k) ∧ (0 < t.rules.length → ∃ g, G = some ⟨g, 0, none⟩ ∧ w.heap.size + 2 ≤ g ∧ RowAt wr g cs.flatten)) (fun i _ => t.rules.length - (intOf i).toNat)
  case atStart => exact ⟨0, css, Nat.zero_le _, rfl, HAS.out, HR1.out, HR2.out, by simpa using HC.out, HRG.out⟩
  case round =>
    clear HAS HR1 HR2 HRG HC b0 b1 b2 b3 b4 f4 z1
    obtain ⟨k, cs, hk, rfl, ha, r1, r2, hch, hrg⟩ := hrel
    have HA := Lib.hid ha
    have HR1 := Lib.hid r1
    have HR2 := Lib.hid r2
    have HC := Lib.hid hch
    have b0 := r1.cell (j := 0) rfl
    have b1 := r1.cell (j := 1) rfl
    have b2 := r1.cell (j := 2) rfl
    have b3 := r1.cell (j := 3) rfl
    have b4 := r1.cell (j := 4) rfl
    have z1 := r1.1
    by_cases hlt : k < t.rules.length
    · obtain ⟨g, rfl, hg2, rg⟩ := hrg (by omega)
      have HRG := Lib.hid rg
      have hmix := mixed_len bareR t.rules k (by omega)
      have hkc : k < cs.length := by rw [hch.1, hmix]; exact hlt
      obtain ⟨hc8, A3, cap3, hcs, hcols, s0, s1, s2, s3⟩ := hch.2 k hkc (by rw [hmix]; exact hlt)
      rw [mixed_get bareR t.rules k hlt] at hcs hcols s0 s1 s2 s3
      obtain ⟨p, hpp⟩ : ∃ p, t.rules[k] = p := ⟨_, rfl⟩
      rw [hpp] at hcs hcols s0 s1 s2 s3
      have cell : ∀ j u, j < 8 → cs[k][j]? = some u → wr.cell? ⟨g, k * 8 + j, none⟩ = some u := fun j u hj hu => rg.cell ((flat_get cs hch.all k j hkc hj).trans hu)
      have c0 := cell 0 _ (by omega) (by rw [hcs]; rfl)
      have c1 := cell 1 _ (by omega) (by rw [hcs]; rfl)
      have c2 := cell 2 _ (by omega) (by rw [hcs]; rfl)
      have c3 := cell 3 _ (by omega) (by rw [hcs]; rfl)
      have c4 := cell 4 _ (by omega) (by rw [hcs]; rfl)
      have c5 := cell 5 _ (by omega) (by rw [hcs]; rfl)
      have c6 := cell 6 _ (by omega) (by rw [hcs]; rfl)
      have c7 := cell 7 _ (by omega) (by rw [hcs]; rfl)
      rw [Nat.add_zero] at c0
      have hgl : g < wr.heap.size := rg.1
      have HB := Lib.hid (show bareR t.rules[k] = if (p.kind == 4 && nameB p.schema && nameB p.table && nameB p.key) = true then { p with kind := 1, schema := ⟨#[]⟩, table := ⟨#[]⟩, key := ⟨#[]⟩ } else p by rw [hpp]; rfl)
      have HPP := Lib.hid hpp
      have HCS := Lib.hid hcs
      have HCO := Lib.hid hcols
      have HNB := Lib.hid (fun hn : bareR t.rules[k] = t.rules[k] => (show Chunks w 8 RulR cs ((t.rules.take (k + 1)).map bareR ++ t.rules.drop (k + 1)) from mixed_same bareR t.rules k hlt hn ▸ hch))
      have RGA := Lib.hid (show ∀ c : Obj, 0 < t.rules.length → ∃ g', some (⟨g, 0, none⟩ : Addr) = some ⟨g', 0, none⟩ ∧ w.heap.size + 2 ≤ g' ∧ RowAt (wr.alloc c) g' cs.flatten from fun c _ => ⟨g, rfl, hg2, rg.aft ((Aft.refl _).alloc _)⟩)
      clear ha r1 r2 hch hrg rg hcs hcols cell hmix hpp
      cases h4 : (p.kind == 4)
      · have HN := Lib.hid (HNB.out (by rw [HB.out, h4, HPP.out]; rfl))
        go_wp2_with (go_at_call 56; refine (name_any _ _ (by first | exact s1.max | exact s2.max | exact s3.max)).mono ?_; rintro e w' ⟨rfl, rfl⟩)
        go_roundw
        case rel => exact ⟨k + 1, cs, by omega, by go_num, HA.out.alloc _, HR1.out.aft ((Aft.refl _).alloc _), HR2.out.aft ((Aft.refl _).alloc _), HN.out, RGA.out _⟩
        case measure => simp [intOf]; omega
      cases n1 : nameB p.schema
      · have HN := Lib.hid (HNB.out (by rw [HB.out, h4, n1, HPP.out]; rfl))
        go_wp2_with (go_at_call 56; refine (name_any _ _ (by first | exact s1.max | exact s2.max | exact s3.max)).mono ?_; rintro e w' ⟨rfl, rfl⟩)
        go_roundw
        case rel => exact ⟨k + 1, cs, by omega, by go_num, HA.out.alloc _, HR1.out.aft ((Aft.refl _).alloc _), HR2.out.aft ((Aft.refl _).alloc _), HN.out, RGA.out _⟩
        case measure => simp [intOf]; omega
      cases n2 : nameB p.table
      · have HN := Lib.hid (HNB.out (by rw [HB.out, h4, n1, n2, HPP.out]; rfl))
        go_wp2_with (go_at_call 56; refine (name_any _ _ (by first | exact s1.max | exact s2.max | exact s3.max)).mono ?_; rintro e w' ⟨rfl, rfl⟩)
        go_roundw
        case rel => exact ⟨k + 1, cs, by omega, by go_num, HA.out.alloc _, HR1.out.aft ((Aft.refl _).alloc _), HR2.out.aft ((Aft.refl _).alloc _), HN.out, RGA.out _⟩
        case measure => simp [intOf]; omega
      cases n3 : nameB p.key
      · have HN := Lib.hid (HNB.out (by rw [HB.out, h4, n1, n2, n3, HPP.out]; rfl))
        go_wp2_with (go_at_call 56; refine (name_any _ _ (by first | exact s1.max | exact s2.max | exact s3.max)).mono ?_; rintro e w' ⟨rfl, rfl⟩)
        go_roundw
        case rel => exact ⟨k + 1, cs, by omega, by go_num, HA.out.alloc _, HR1.out.aft ((Aft.refl _).alloc _), HR2.out.aft ((Aft.refl _).alloc _), HN.out, RGA.out _⟩
        case measure => simp [intOf]; omega
      · have HB2 := Lib.hid (show bareR t.rules[k] = { p with kind := 1, schema := ⟨#[]⟩, table := ⟨#[]⟩, key := ⟨#[]⟩ } by rw [HB.out, h4, n1, n2, n3]; rfl)
        go_wp2_with (go_at_call 56; refine (name_any _ _ (by first | exact s1.max | exact s2.max | exact s3.max)).mono ?_; rintro e w' ⟨rfl, rfl⟩)
        obtain ⟨W, hW⟩ : ∃ W, W = wr.alloc (.cells #[.string p.name, .int .i64 p.kind, .slice A3 p.cols.length cap3, .int .i64 p.low, .int .i64 p.high, .string p.schema, .string p.table, .string p.key] 108) := ⟨_, rfl⟩
        rw [← hW]
        have a8 : Aft wr W := by rw [hW]; exact (Aft.refl wr).alloc _
        have rg := HRG.out.aft a8
        have HRW := Lib.hid rg
        have hl8 : k * 8 + 7 < cs.flatten.length := by rw [flat_len cs HC.out.all]; have : (k + 1) * 8 ≤ cs.length * 8 := Nat.mul_le_mul_right _ hkc; omega
        have hgn : g ≠ w.heap.size := by omega
        have hgn1 : g ≠ w.heap.size + 1 := by omega
        have K0 := Lib.hid (show W.cell? ⟨w.heap.size, 4, none⟩ = some (.slice (some ⟨g, 0, none⟩) t.rules.length capG) ∧ (W.cell? ⟨g, k * 8 + 1, none⟩).isSome = true ∧ (W.cell? ⟨g, k * 8 + 5, none⟩).isSome = true ∧ (W.cell? ⟨g, k * 8 + 6, none⟩).isSome = true ∧ (W.cell? ⟨g, k * 8 + 7, none⟩).isSome = true ∧ W.frozen? ⟨g, k * 8 + 1, none⟩ = false ∧ W.frozen? ⟨g, k * 8 + 5, none⟩ = false ∧ W.frozen? ⟨g, k * 8 + 6, none⟩ = false ∧ W.frozen? ⟨g, k * 8 + 7, none⟩ = false from ⟨a8.cell_kept b4, congrArg Option.isSome (a8.cell_kept c1), congrArg Option.isSome (a8.cell_kept c5), congrArg Option.isSome (a8.cell_kept c6), congrArg Option.isSome (a8.cell_kept c7), rg.2.2 (k * 8 + 1) (by omega), rg.2.2 (k * 8 + 5) (by omega), rg.2.2 (k * 8 + 6) (by omega), rg.2.2 (k * 8 + 7) (by omega)⟩)
        have K1 := Lib.hid (keep_row K0.out hgn (k * 8 + 1) (.int .i64 1))
        have K2 := Lib.hid (keep_row K1.out hgn (k * 8 + 5) (.string ⟨#[]⟩))
        have K3 := Lib.hid (keep_row K2.out hgn (k * 8 + 6) (.string ⟨#[]⟩))
        have K4 := Lib.hid (keep_row K3.out hgn (k * 8 + 7) (.string ⟨#[]⟩))
        have HAW := Lib.hid (HA.out.trans a8)
        have HR1W := Lib.hid (HR1.out.aft a8)
        have HR2W := Lib.hid (HR2.out.aft a8)
        have x1 := a8.cell_kept c1
        have x5 := a8.cell_kept c5
        have x6 := a8.cell_kept c6
        have x7 := a8.cell_kept c7
        have y1 := rg.2.2 (k * 8 + 1) (by omega)
        have y5 := rg.2.2 (k * 8 + 5) (by omega)
        have y6 := rg.2.2 (k * 8 + 6) (by omega)
        have y7 := rg.2.2 (k * 8 + 7) (by omega)
        clear hW b0 b1 b2 b3 b4 c0 c1 c2 c3 c4 c5 c6 c7 a8 rg
        go_region_held3 (fun w' => w'.cell? ⟨w.heap.size, 4, none⟩ = some (.slice (some ⟨g, 0, none⟩) t.rules.length capG)) (first | exact K0.out.1 | exact K1.out.1 | exact K2.out.1 | exact K3.out.1 | exact K4.out.1) (fail)
        have HP4 := Lib.hid (HRW.out.put4 HC.out.all k hkc HCS.out (.int .i64 1) (.string ⟨#[]⟩) (.string ⟨#[]⟩) (.string ⟨#[]⟩))
        have HCH := Lib.hid (show Chunks w 8 RulR (cs.set k [.string p.name, .int .i64 1, .slice A3 p.cols.length cap3, .int .i64 p.low, .int .i64 p.high, .string ⟨#[]⟩, .string ⟨#[]⟩, .string ⟨#[]⟩]) ((t.rules.take (k + 1)).map bareR ++ t.rules.drop (k + 1)) from
          mixed_step bareR t.rules k hlt ▸ HC.out.set rfl (by rw [HB2.out]; exact ⟨A3, cap3, rfl, HCO.out, s0, small0, small0, small0⟩))
        go_wp2_with fail
        go_roundw
        case rel => exact ⟨k + 1, _, by omega, by go_num, ((((HAW.out.setCell _ _ (by simp; omega)).setCell _ _ (by simp; omega)).setCell _ _ (by simp; omega)).setCell _ _ (by simp; omega)).drew, ((((HR1W.out.far hgn _ _).far hgn _ _).far hgn _ _).far hgn _ _).aft (Aft.refl _).drew, ((((HR2W.out.far hgn1 _ _).far hgn1 _ _).far hgn1 _ _).far hgn1 _ _).aft (Aft.refl _).drew, HCH.out, fun _ => ⟨g, rfl, hg2, HP4.out.aft (Aft.refl _).drew⟩⟩
        case measure => simp [intOf]; omega
    · have c20 := r2.cell (j := 0) rfl
      have c21 := r2.cell (j := 1) rfl
      have f20 := r2.2.2 0 (by simp)
      have f21 := r2.2.2 1 (by simp)
      have z2 := r2.1
      have z3 : w.heap.size + 1 < wr.heap.size + 1 := by omega
      have z4 : w.heap.size + 1 < wr.heap.size + 1 + 1 := by omega
      have z5 : w.heap.size < wr.heap.size + 1 := by omega
      have z6 : w.heap.size < wr.heap.size + 1 + 1 := by omega
      have ek : (t.rules.take k).map bareR ++ t.rules.drop k = t.rules.map bareR := by rw [List.take_of_length_le (by omega), List.drop_eq_nil_of_le (by omega), List.append_nil]
      rw [ek] at hch
      have HC2 := Lib.hid hch
      have HRG := Lib.hid hrg
      clear ha r1 r2 hch hrg ek HC
      go_wp2_with fail
      (try simp only [Exit.inBlock, Exit.then])
      have HRF := Lib.hid (show RowAt ((wr.setCell ⟨w.heap.size + 1, 0, none⟩ (.slice (some ⟨wr.heap.size, 0, none⟩) 1 1)).setCell ⟨w.heap.size + 1, 1, none⟩ (.slice (some ⟨wr.heap.size + 1, 0, none⟩) 1 1)) (w.heap.size + 1) [.slice (some ⟨wr.heap.size, 0, none⟩) 1 1, .slice (some ⟨wr.heap.size + 1, 0, none⟩) 1 1] from
        (HR2.out.set 0 (.slice (some ⟨wr.heap.size, 0, none⟩) 1 1) (by simp)).set 1 (.slice (some ⟨wr.heap.size + 1, 0, none⟩) 1 1) (by simp))
      refine bodyPost_ret (results_cell (v := .agg #[.slice (some ⟨wr.heap.size, 0, none⟩) 1 1, .slice (some ⟨wr.heap.size + 1, 0, none⟩) 1 1]) rfl _ rfl ?hl) rfl ?_
      case hl => exact lvObj_rowA (HRF.out.aft (((Aft.refl _).alloc _).alloc _))
      have HF := (((HA.out.setCell ⟨w.heap.size + 1, 0, none⟩ (.slice (some ⟨wr.heap.size, 0, none⟩) 1 1) (by simp)).setCell ⟨w.heap.size + 1, 1, none⟩ (.slice (some ⟨wr.heap.size + 1, 0, none⟩) 1 1) (by simp)).alloc (.cells #[.string ⟨#[115]⟩, .string ⟨#[111]⟩] 88)).alloc (.cells #[.string ⟨#[115]⟩, .string ⟨#[116]⟩, .string ⟨#[111]⟩, .slice A t.cols.length cap, .slice G t.rules.length capG] 76)
      refine ⟨_, _, rfl, HF, ?s, ?t⟩
      case s => exact slAt_one _ [.string ⟨#[115]⟩, .string ⟨#[111]⟩] #[.string ⟨#[115]⟩, .string ⟨#[111]⟩] (by first | (simp; done) | (simp; omega)) (by intro o; (repeat (refine (World.cell?_alloc_past _ _ _ (by first | (simp; done) | (simp; omega))).trans ?_)); exact World.cell?_alloc_at _ _ _ _ (by simp)) rfl rfl ⟨rfl, small1 _, small1 _⟩ (by omega)
      case t =>
        refine slAt_one _ [.string ⟨#[115]⟩, .string ⟨#[116]⟩, .string ⟨#[111]⟩, .slice A t.cols.length cap, .slice G t.rules.length capG] #[.string ⟨#[115]⟩, .string ⟨#[116]⟩, .string ⟨#[111]⟩, .slice A t.cols.length cap, .slice G t.rules.length capG] (by first | (simp; done) | (simp; omega)) (by intro o; exact World.cell?_alloc_at _ _ _ _ (by simp)) rfl rfl ⟨A, cap, G, capG, by simp, cols_aft HF h, ?r, small1 _, small1 _, small1 _⟩ (by omega)
        case r =>
          by_cases h0 : 0 < t.rules.length
          · obtain ⟨g, rfl, hg2, rg⟩ := HRG.out h0
            exact row_slAt (((rg.far (g := w.heap.size + 1) (by omega) _ _).far (g := w.heap.size + 1) (by omega) _ _).aft (((Aft.refl _).alloc _).alloc _)) (HC2.out.aft fun _ _ h => RulR.aft HF h) (by simpa using hcapG) (by unfold Small; simp; omega)
          · exact ⟨by simp; omega, by unfold Small; simp; omega, fun i hi => by simp at hi; omega⟩
set_option maxHeartbeats 2000000 in
theorem rcheck_any (t : Tab) (A : Option Addr) (cap : Nat) (A2 : Option Addr) (cap2 : Nat) (w : World) (h : SlAt w 3 ColR A cap t.cols) (h2 : SlAt w 8 RulR A2 cap2 t.rules) (hb : t.rules.length ≤ 1000000) :
    Calls Tryz.prog 97 #[.agg #[.string t.schema, .string t.name, .string t.owner, .slice A t.cols.length cap, .slice A2 t.rules.length cap2]] w fun e w' => e = .returned (.int .i64 (if tableOk t then 0 else 1)) ∧ Aft w w' := by
  have Ca := Lib.hid (show ∀ w', Aft w w' → _ from fun w' a => alone_any t A cap A2 cap2 w' (cols_aft a h) (ruls_aft a h2) hb)
  obtain ⟨c, hc⟩ : ∃ c, tableOk t = c := ⟨_, rfl⟩
  rw [hc]
  have HC := Lib.hid ((alone_ok t).trans hc)
  clear hc
  go_enter Tryz.func97, Tryz.ntmps97
  go_wp2_with fail
  refine (Ca.out _ ((Aft.refl _).alloc _)).mono ?_
  rintro e w1 ⟨As, At, rfl, a1, h1, h3⟩
  have HA := Lib.hid (((Aft.refl w).alloc _).trans a1)
  have Ck := Lib.hid (show Calls Tryz.prog 23 #[.agg #[.slice As 1 1, .slice At 1 1]] w1 fun e w'' => e = .returned (.int .i64 (if c = true then 0 else 63)) ∧ Aft w1 w'' from
    (check_any (aloneO t) As 1 At 1 w1 h1 h3).mono fun e w'' ⟨he, hw⟩ => ⟨he.trans (by unfold checkE; rw [HC.out]), hw⟩)
  clear a1 h1 h3 Ca
  go_wp2_with fail
  refine Ck.out.mono ?_
  rintro e w2 ⟨rfl, a2⟩
  have HA2 := Lib.hid (HA.out.trans a2)
  clear a2
  cases c
  · go_wp2_with fail
    go_ret
    exact ⟨rfl, HA2.out⟩
  · go_wp2_with fail
    go_ret
    exact ⟨rfl, HA2.out⟩
end Go.Proofs.YtiadkchlkdaceaaGreat

namespace Go.Proofs.YtiadkchlkdaceaaGreat
open Go.RowKit
set_option maxRecDepth 100000
set_option linter.unusedVariables false
theorem small8' {n : Nat} (h : n ≤ 8) : Small (n * 16) := by unfold Small; omega
theorem any_iff {α : Type} (p : α → Bool) (l : List α) : l.any p = true ↔ 0 ≤ idxP p l := by
  induction l with
  | nil => simp [idxP]
  | cons x l ih =>
    rw [List.any_cons, Bool.or_eq_true, ih]
    simp only [idxP]
    by_cases hx : p x = true
    · rw [if_pos hx]; simp [hx]
    · rw [if_neg hx]
      by_cases hy : idxP p l < 0
      · rw [if_pos hy]
        constructor
        · intro h; rcases h with h | h
          · exact absurd h hx
          · omega
        · intro h; omega
      · rw [if_neg hy]
        constructor
        · intro h; omega
        · intro h; right; omega
theorem any_idx {α : Type} (p : α → Bool) (l : List α) : l.any p = decide (0 ≤ idxP p l) := by
  rw [Bool.eq_iff_iff, any_iff]; simp
set_option maxHeartbeats 2000000 in
theorem index_any (A : Option Addr) (cap : Nat) (l : List Val) (v : Val) (w : World) (h : SlAt w 3 ValR A cap l) :
    Calls Tryz.prog 134 #[.slice A l.length cap, .agg #[.int .i64 v.kind, .int .i64 v.int, .string v.text]] w fun e w' => e = .returned (.int .i64 (idxP (fun x => eqV v x) l)) ∧ Aft w w' := by
  have hlen := h.len
  go_enter Tryz.func134, Tryz.ntmps134
  go_wp2_with fail
  go_loopw [8] (fun i wr => ∃ k : Nat, k ≤ l.length ∧ i = .int .i64 k ∧ Aft (w.alloc (.cells #[.int .i64 v.kind, .int .i64 v.int, .string v.text] 37)) wr ∧ ∀ j, j < k → ∀ (hj : j < l.length), eqV v l[j] = false) (fun i _ => l.length - (intOf i).toNat)
  case atStart => exact ⟨0, Nat.zero_le _, rfl, Aft.refl _, fun j hj => absurd hj (Nat.not_lt_zero j)⟩
  case round =>
    obtain ⟨k, hk, rfl, ha, hp⟩ := hrel
    have HP := Lib.hid hp; clear hp
    obtain ⟨hb, hfr, hz, hzk, HA⟩ := aft_box ha
    have HAB := Lib.hid ha
    clear ha
    by_cases hlt : k < l.length
    · obtain ⟨b, off, rfl, hbb, c0, c1, c2, _⟩ := val_at (vals_aft HA.out h) hlt
      cases heq : eqV v l[k]
      · have h3 : eqV3 v.kind v.int v.text l[k].kind l[k].int l[k].text = false := heq
        have HN := Lib.hid (ext_lt (p := fun j => ∀ (hj : j < l.length), eqV v l[j] = false) HP.out (fun _ => heq))
        clear heq
        go_wp2_with fail
        refine wp_region_lat (by kernel_rfl) (by kernel_rfl) ?_
        repeat (go_big_quiet_step (fail))
        refine wpQuiet_nil ?_
        intro _ hw'
        obtain ⟨x, hw''⟩ := hw'
        subst hw''
        go_wp2_with fail
        go_roundw
        case rel => exact ⟨k + 1, by omega, by go_num, HAB.out.lat x, HN.out⟩
        case measure => simp [intOf]; omega
      · have h3 : eqV3 v.kind v.int v.text l[k].kind l[k].int l[k].text = true := heq
        have HN := Lib.hid (idxP_some (fun x => eqV v x) l k hlt heq fun i hi => HP.out i hi (by omega))
        clear heq
        go_wp2_with fail
        refine wp_region_lat (by kernel_rfl) (by kernel_rfl) ?_
        repeat (go_big_quiet_step (fail))
        refine wpQuiet_nil ?_
        intro _ hw'
        obtain ⟨x, hw''⟩ := hw'
        subst hw''
        go_wp2_with fail
        go_ret
        exact ⟨by rw [HN.out]; rfl, HA.out.lat x⟩
    · have HN := Lib.hid (idxP_none (fun x => eqV v x) l fun i hi => HP.out i (by omega) hi)
      go_wp2_with fail
      go_ret
      exact ⟨by rw [HN.out]; rfl, HA.out⟩
set_option maxHeartbeats 1000000 in
theorem containsV_any (A : Option Addr) (cap : Nat) (l : List Val) (v : Val) (w : World) (h : SlAt w 3 ValR A cap l) :
    Calls Tryz.prog 126 #[.slice A l.length cap, .agg #[.int .i64 v.kind, .int .i64 v.int, .string v.text]] w fun e w' => e = .returned (.bool (l.any fun x => eqV v x)) ∧ Aft w w' := by
  have C := Lib.hid (show ∀ w', Aft w w' → _ from fun w' a => index_any A cap l v w' (vals_aft a h))
  have HN := Lib.hid (any_idx (fun x => eqV v x) l)
  go_enter Tryz.func126, Tryz.ntmps126
  go_wp2_with fail
  refine (C.out _ ((Aft.refl w).alloc _)).mono ?_
  rintro e w1 ⟨rfl, a1⟩
  have HA := Lib.hid (((Aft.refl w).alloc _).trans a1)
  clear a1
  go_wp2_with fail
  go_ret
  exact ⟨by rw [HN.out]; rfl, HA.out⟩
end Go.Proofs.YtiadkchlkdaceaaGreat

namespace Go.Proofs.YtiadkchlkdaceaaGreat
open Go.RowKit
set_option maxRecDepth 100000
set_option linter.unusedVariables false
/-- a row among rows -/
def RowsR (w : World) (cs : List Value) (row : List Val) : Prop := SlOf w 3 ValR cs row
/-- a pointer to a block's head -/
def PtrR (_ : World) (cs : List Value) (p : Nat) : Prop := cs = [.pointer (some ⟨p, 0, none⟩)]
section
variable {w w' : World}
theorem RowsR.aft {cs : List Value} {r : List Val} (hw : Aft w w') (h : RowsR w cs r) : RowsR w' cs r := by
  obtain ⟨A, cap, e, hs⟩ := h
  exact ⟨A, cap, e, vals_aft hw hs⟩
theorem rows_aft {A : Option Addr} {cap : Nat} {l : List (List Val)} (hw : Aft w w') (h : SlAt w 1 RowsR A cap l) : SlAt w' 1 RowsR A cap l := h.aft hw fun _ _ h => RowsR.aft hw h
theorem ptrs_aft {A : Option Addr} {cap : Nat} {l : List Nat} (hw : Aft w w') (h : SlAt w 1 PtrR A cap l) : SlAt w' 1 PtrR A cap l := h.aft hw fun _ _ h => h
theorem row_at {A : Option Addr} {cap : Nat} {l : List (List Val)} (h : SlAt w 1 RowsR A cap l) {k : Nat} (hk : k < l.length) :
    ∃ b off A2 cap2, A = some ⟨b, off, none⟩ ∧ b < w.heap.size ∧ w.cell? ⟨b, off + k, none⟩ = some (.slice A2 l[k].length cap2) ∧ SlAt w 3 ValR A2 cap2 l[k] := by
  obtain ⟨b, off, cs, hA, hb, hl, ⟨A2, cap2, rfl, hr⟩, hc⟩ := h.2.2 k hk
  exact ⟨b, off, A2, cap2, hA, hb, by simpa using hc 0 (by omega), hr⟩
theorem ptr_at {A : Option Addr} {cap : Nat} {l : List Nat} (h : SlAt w 1 PtrR A cap l) {k : Nat} (hk : k < l.length) :
    ∃ b off, A = some ⟨b, off, none⟩ ∧ b < w.heap.size ∧ w.cell? ⟨b, off + k, none⟩ = some (.pointer (some ⟨l[k], 0, none⟩)) := by
  obtain ⟨b, off, cs, hA, hb, hl, rfl, hc⟩ := h.2.2 k hk
  exact ⟨b, off, hA, hb, by simpa using hc 0 (by omega)⟩
/-- a shelf in block p -/
structure ShfAt (w : World) (p : Nat) (x : Shf) (A : Option Addr) (cap : Nat) (A2 : Option Addr) (cap2 : Nat) (A3 : Option Addr) (cap3 : Nat) : Prop where
  row : RowAt w p [.string x.t.schema, .string x.t.name, .string x.t.owner, .slice A x.t.cols.length cap, .slice A2 x.t.rules.length cap2, .slice A3 x.rows.length cap3]
  cols : SlAt w 3 ColR A cap x.t.cols
  ruls : SlAt w 8 RulR A2 cap2 x.t.rules
  rows : SlAt w 1 RowsR A3 cap3 x.rows
  hb : ∃ cur t, w.heap[p]? = some (.cells cur t (0, 0))
theorem ShfAt.aft {p : Nat} {x : Shf} {A : Option Addr} {cap : Nat} {A2 : Option Addr} {cap2 : Nat} {A3 : Option Addr} {cap3 : Nat} (h : ShfAt w p x A cap A2 cap2 A3 cap3) (a : Aft w w') : ShfAt w' p x A cap A2 cap2 A3 cap3 :=
  ⟨h.row.aft a, cols_aft a h.cols, ruls_aft a h.ruls, rows_aft a h.rows, by obtain ⟨cur, t, e⟩ := h.hb; exact ⟨cur, t, (a.block p h.row.1).trans e⟩⟩
def ShfIs (w : World) (p : Nat) (x : Shf) : Prop := ∃ A cap A2 cap2 A3 cap3, ShfAt w p x A cap A2 cap2 A3 cap3
theorem ShfIs.aft {p : Nat} {x : Shf} (h : ShfIs w p x) (a : Aft w w') : ShfIs w' p x := by
  obtain ⟨A, cap, A2, cap2, A3, cap3, h⟩ := h
  exact ⟨A, cap, A2, cap2, A3, cap3, h.aft a⟩
/-- a store in block s, whose shelves lie in the blocks ps -/
structure StoIs (w : World) (s : Nat) (ps : List Nat) (S : List Shf) : Prop where
  len : ps.length = S.length
  nd : ps.Nodup
  ex : ∃ A cap, RowAt w s [.slice A ps.length cap] ∧ SlAt w 1 PtrR A cap ps
  each : ∀ i (h : i < ps.length) (h' : i < S.length), ShfIs w ps[i] S[i]
theorem StoIs.aft {s : Nat} {ps : List Nat} {S : List Shf} (h : StoIs w s ps S) (a : Aft w w') : StoIs w' s ps S := by
  obtain ⟨A, cap, h1, h2⟩ := h.ex
  exact ⟨h.len, h.nd, ⟨A, cap, h1.aft a, ptrs_aft a h2⟩, fun i h1 h2 => (h.each i h1 h2).aft a⟩
end
theorem infoShf : ∃ j, Tryz.prog.info? 82 = some j ∧ j.size = 6 := by
  have h : (Tryz.prog.info? 82).map (fun i => i.size) = some 6 := by kernel_rfl
  obtain ⟨j, hj, e⟩ := Option.map_eq_some_iff.1 h
  exact ⟨j, hj, e⟩
theorem eqPtr_same (w : World) (p : Nat) : (binOp .eql 80 (.pointer (some ⟨p, 0, none⟩)) (.pointer (some ⟨p, 0, none⟩))).run Tryz.prog w = .ok (.bool true) w := by
  obtain ⟨j, hj, _⟩ := infoShf
  exact run_eql_ptr_same w _ (te := 82) (by kernel_rfl) hj
theorem eqPtr_other {w : World} {p q : Nat} (hne : ¬ p = q) (hp : ∃ cur t, w.heap[p]? = some (.cells cur t (0, 0))) (hq : ∃ cur t, w.heap[q]? = some (.cells cur t (0, 0))) : (binOp .eql 80 (.pointer (some ⟨p, 0, none⟩)) (.pointer (some ⟨q, 0, none⟩))).run Tryz.prog w = .ok (.bool false) w := by
  obtain ⟨ca, ta, ea⟩ := hp
  obtain ⟨cb, tb, eb⟩ := hq
  obtain ⟨j, hj, hs⟩ := infoShf
  exact run_eql_ptr_other w (te := 82) (by kernel_rfl) hj (by rw [hs]; decide) (fun e => hne (by injection e)) ea eb
theorem shfAt_of {S : List Shf} {s n : ByteArray} {k : Nat} (hk : k < S.length) (hp : (eqS S[k].t.schema s && eqS S[k].t.name n) = true) (hb : ∀ i, i < k → ∀ hi : i < S.length, (eqS S[i].t.schema s && eqS S[i].t.name n) = false) : shfAt S s n = k :=
  idxP_some _ S k hk hp fun i hi => hb i hi (by omega)
theorem shfAt_none {S : List Shf} {s n : ByteArray} (hb : ∀ i (hi : i < S.length), (eqS S[i].t.schema s && eqS S[i].t.name n) = false) : shfAt S s n = -1 := idxP_none _ S hb
theorem shfAt_lt {S : List Shf} {s n : ByteArray} {q : Nat} (h : shfAt S s n = q) : q < S.length := by
  have := (idxP_range (fun x : Shf => eqS x.t.schema s && eqS x.t.name n) S).2
  unfold shfAt at h; omega
theorem shfN_get {S : List Shf} {q : Nat} (h : q < S.length) : shfN S q = S[q] := by unfold shfN; rw [List.getElem?_eq_getElem h]; rfl
end Go.Proofs.YtiadkchlkdaceaaGreat

namespace Go.Proofs.YtiadkchlkdaceaaGreat
open Go.RowKit
set_option maxRecDepth 100000
set_option linter.unusedVariables false
def ptrV (ps : List Nat) (i : Int) : Value := if i < 0 then .pointer none else .pointer (some ⟨ps.getD i.toNat 0, 0, none⟩)
theorem ptrV_at {ps : List Nat} {q : Nat} (h : q < ps.length) : ptrV ps (q : Int) = .pointer (some ⟨ps[q], 0, none⟩) := by
  unfold ptrV
  rw [if_neg (by omega), Int.toNat_natCast, List.getD_eq_getElem?_getD, List.getElem?_eq_getElem h]; rfl
theorem ptrV_no (ps : List Nat) : ptrV ps (-1) = .pointer none := rfl
def nmB (sc n : ByteArray) (x : Shf) : Bool := eqS x.t.schema sc && eqS x.t.name n
set_option maxHeartbeats 4000000 in
theorem find12 (s : Nat) (ps : List Nat) (S : List Shf) (sc n : ByteArray) (w : World) (h : StoIs w s ps S) :
    Calls Tryz.prog 25 #[.pointer (some ⟨s, 0, none⟩), .string sc, .string n] w fun e w' => e = .returned (ptrV ps (shfAt S sc n)) ∧ w = w' := by
  obtain ⟨A, cap, hr, hp⟩ := h.ex
  have hlen := hp.len
  have HS := Lib.hid h
  have c0 := hr.cell (j := 0) rfl
  have HP := Lib.hid hp
  have HL := Lib.hid h.len
  clear h hr hp
  go_enter Tryz.func25, Tryz.ntmps25
  go_wp2_with fail
  go_loop [14] (fun i => ∃ k : Nat, k ≤ ps.length ∧ i = .int .i64 k ∧ ∀ j, j < k → ∀ (hj : j < S.length), nmB sc n S[j] = false) (fun i => ps.length - (intOf i).toNat)
  case atStart => exact ⟨0, Nat.zero_le _, rfl, fun j hj => absurd hj (Nat.not_lt_zero j)⟩
  case round =>
    obtain ⟨k, hk, rfl, hp⟩ := hrel
    have HB := Lib.hid hp
    clear hp
    by_cases hlt : k < ps.length
    · obtain ⟨b, off, rfl, hb, d0⟩ := ptr_at HP.out hlt
      have hk2 : k < S.length := by have := HL.out; omega
      obtain ⟨B1, u1, B2, u2, B3, u3, hs⟩ := HS.out.each k hlt hk2
      have r0 := hs.row.cell (j := 0) rfl
      have r1 := hs.row.cell (j := 1) rfl
      clear hs
      cases g1 : eqS S[k].t.schema sc
      · have HN := Lib.hid (ext_lt (p := fun j => ∀ (hj : j < S.length), nmB sc n S[j] = false) HB.out (fun _ => by unfold nmB; rw [g1]; rfl))
        have e1 : (S[k].t.schema.toList == sc.toList) = false := g1
        clear g1
        go_wp2_with fail
        go_round
        case rel => exact ⟨k + 1, by omega, by go_num, HN.out⟩
        case measure => simp [intOf]; omega
      · cases g2 : eqS S[k].t.name n
        · have HN := Lib.hid (ext_lt (p := fun j => ∀ (hj : j < S.length), nmB sc n S[j] = false) HB.out (fun _ => by unfold nmB; rw [g1, g2]; rfl))
          have e1 : (S[k].t.schema.toList == sc.toList) = true := g1
          have e2 : (S[k].t.name.toList == n.toList) = false := g2
          clear g1 g2
          go_wp2_with fail
          go_round
          case rel => exact ⟨k + 1, by omega, by go_num, HN.out⟩
          case measure => simp [intOf]; omega
        · have HN := Lib.hid (show shfAt S sc n = (k : Int) from shfAt_of hk2 (by rw [g1, g2]; rfl) (fun i hi hi2 => HB.out i hi hi2))
          have e1 : (S[k].t.schema.toList == sc.toList) = true := g1
          have e2 : (S[k].t.name.toList == n.toList) = true := g2
          clear g1 g2
          go_wp2_with fail
          go_ret
          exact ⟨by rw [HN.out, ptrV_at hlt]; rfl, rfl⟩
    · have HN := Lib.hid (show shfAt S sc n = -1 from shfAt_none (fun i hi => HB.out i (by have := HL.out; omega) hi))
      go_wp2_with fail
      go_ret
      exact ⟨by rw [HN.out]; rfl, rfl⟩
end Go.Proofs.YtiadkchlkdaceaaGreat

namespace Go.Proofs.YtiadkchlkdaceaaGreat
open Go.RowKit
set_option maxRecDepth 100000
set_option linter.unusedVariables false
/-- are these columns there? -/
def OkN (l : List Col) (names : List ByteArray) : Prop := names.length ≤ 8 ∧ ∀ a ∈ names, 0 ≤ colAt l a
theorem okN_at {l : List Col} {names : List ByteArray} {row : List Val} (h : OkN l names) (hf : besideB formB l row = true) : ∀ k (hk : k < names.length), ∃ q : Nat, colAt l names[k] = q ∧ q < row.length := by
  intro k hk
  obtain ⟨q, hq⟩ := Int.eq_ofNat_of_zero_le (h.2 _ (List.getElem_mem hk))
  have h1 := colAt_lt hq
  have h2 := ((besideB_iff formB l row).1 hf).1
  exact ⟨q, hq, by omega⟩
theorem ofVs_may {l : List Col} {names : List ByteArray} {row : List Val} (h : OkN l names) (hf : besideB formB l row = true) : ∀ v ∈ ofVs l names row, mayV v = true := by
  intro v hv
  obtain ⟨a, ha, rfl⟩ := List.mem_map.1 hv
  obtain ⟨k, hk, rfl⟩ := List.getElem_of_mem ha
  obtain ⟨q, hq, hr⟩ := okN_at h hf k hk
  rw [hq, valAt_get hr]
  exact val_may hf hr
set_option maxHeartbeats 1000000 in
theorem values1 (name : ByteArray) (kind : Int) (null : Bool) (s : ByteArray) (b1 : Nat) (w : World) (hb1 : b1 < w.heap.size) (hc1 : w.cell? ⟨b1, 0, none⟩ = some (.string s)) :
    Calls Tryz.prog 125 #[.agg #[.string name, .int .i64 kind, .bool null], .pointer (some ⟨b1, 0, none⟩)] w fun e w' => e = .returned (.bool (eqS name s)) ∧ Aft w w' := by
  go_enter Tryz.func125, Tryz.ntmps125
  go_wp2_with fail
  go_ret
  exact ⟨rfl, (Aft.refl _).alloc _⟩
set_option maxHeartbeats 8000000 in
theorem values12 (p : Nat) (x : Shf) (names : List ByteArray) (row : List Val) (N : Option Addr) (capN : Nat) (B : Option Addr) (capB : Nat) (w : World) (h : ShfIs w p x) (hn : SlAt w 1 StrR N capN names) (h3 : SlAt w 3 ValR B capB row)
    (ok : OkN x.t.cols names) (hf : besideB formB x.t.cols row = true) :
    Calls Tryz.prog 104 #[.pointer (some ⟨p, 0, none⟩), .slice N names.length capN, .slice B row.length capB] w (OfP w (ofVs x.t.cols names row) (wholeV (ofVs x.t.cols names row))) := by
  have hlen := hn.len
  have hlen3 := h3.len
  have hn8 := ok.1
  have HOK := Lib.hid (okN_at ok hf)
  have HMAY := Lib.hid (ofVs_may ok hf)
  have hent := enters (P := Tryz.prog) Tryz.func125 (by kernel_rfl) rfl
  obtain ⟨A, cap, A2, cap2, A3, cap3, hs⟩ := h
  have HSH := Lib.hid hs
  have HRS := Lib.hid (show ∀ v ∈ row, Small v.text.size by intro v hv; obtain ⟨i, hi, rfl⟩ := List.getElem_of_mem hv; exact val_small h3 i hi)
  obtain ⟨i0, hi, hz0, hz1, hz2⟩ := info_parts infoV
  have HI := Lib.hid hi
  have HZ0 := Lib.hid hz0
  have HZ1 := Lib.hid hz1
  have HZ2 := Lib.hid hz2
  have HEN := Lib.hid hent
  have HNM := Lib.hid hn
  have HRW := Lib.hid h3
  clear hi hz0 hz1 hz2 ok hf hs hent hn h3
  go_enter Tryz.func104, Tryz.ntmps104
  go_wp2_with fail
  go_loopw [8, 14] (fun v i wr => ∃ k : Nat, k ≤ names.length ∧ i = .int .i64 k ∧ Aft w wr ∧ wr.ownsRow w.heap.size 37 3 v k ((ofVs x.t.cols (names.take k) row).flatMap cellsV)) (fun _ i _ => names.length - (intOf i).toNat)
  case atStart => exact ⟨0, Nat.zero_le _, rfl, Aft.refl _, own_nil _ _ _ _⟩
  case round =>
    obtain ⟨k, hk, rfl, ha, hown⟩ := hrel
    have HA := Lib.hid ha
    have HO := Lib.hid hown
    clear ha hown
    by_cases hlt : k < names.length
    · obtain ⟨b5, off5, hD, hb5, g5, _⟩ := str_at (strs_aft HA.out HNM.out) hlt
      subst hD
      obtain ⟨z, hz0, hzr⟩ := HOK.out k hlt
      obtain ⟨b6, off6, hBB, hb6, v0, v1, v2, _⟩ := val_at (vals_aft HA.out HRW.out) hzr
      subst hBB
      have HS := Lib.hid (show ofVs x.t.cols (names.take (k + 1)) row = ofVs x.t.cols (names.take k) row ++ [row[z]] by rw [ofVs_succ _ _ _ k hlt, hz0, valAt_get hzr])
      obtain ⟨nm, hnm⟩ : ∃ nm, names[k] = nm := ⟨_, rfl⟩
      rw [hnm] at g5 hz0
      obtain ⟨W, hW⟩ : ∃ W, W = wr.alloc (.cells #[.string nm] 9) := ⟨_, rfl⟩
      have aW : Aft wr W := by rw [hW]; exact (Aft.refl wr).alloc _
      have rs := HSH.out.row.aft HA.out
      have r3 := rs.cell (j := 3) rfl
      have rz := rs.1
      have q0 : W.cell? ⟨wr.heap.size, 0, none⟩ = some (.string nm) := by rw [hW]; exact World.cell?_alloc_at _ _ _ _ rfl
      have lw := Nat.lt_succ_self wr.heap.size
      have zW : wr.heap.size < W.heap.size := by rw [hW]; simp
      have HAW := Lib.hid (HA.out.trans aW)
      have OW := Lib.hid (own_aft HO.out aW)
      have v0 := aW.cell_kept v0
      have v1 := aW.cell_kept v1
      have v2 := aW.cell_kept v2
      have hb6 := Nat.lt_of_lt_of_le hb6 aW.size
      have C := Lib.hid ((idxCol A cap x.t.cols 125 #[.pointer (some ⟨wr.heap.size, 0, none⟩)] (fun c => eqS c.name nm) W (cols_aft HAW.out HSH.out.cols) HEN.out (fun w' ha i hi => values1 _ _ _ nm wr.heap.size w' (Nat.lt_of_lt_of_le zW ha.size) (ha.cell_kept q0))).mono (fun e w' ⟨he, hw⟩ => (⟨he.trans (by rw [← hz0]; rfl), hw⟩ : e = Ending.returned (Value.int .i64 (z : Int)) ∧ Aft W w')))
      clear hz0 hnm rs aW
      go_wp2_with fail
      rw [← hW]
      clear hW
      refine C.out.mono ?_
      rintro e w4 ⟨rfl, a4⟩
      have HA4 := Lib.hid (HAW.out.trans a4)
      have O4 := Lib.hid (own_aft OW.out a4)
      have x0 := a4.cell_kept v0
      have x1 := a4.cell_kept v1
      have x2 := a4.cell_kept v2
      have x3 := Nat.lt_of_lt_of_le hb6 a4.size
      clear a4 C v0 v1 v2 r3 q0 rz
      go_wp2_with (at_builtin; refine wpList_append_own _ rfl (.tmp 25) (.tmp 30) 34 rfl w.heap.size 37 i0 (.agg #[.int .i64 0, .int .i64 0, .string ByteArray.empty]) 3 32 Tryz.underlying34 HI.out HZ0.out HZ1.out HZ2.out rfl (by decide) _ _ _ rfl (O4.out.alloc _) ⟨w4.heap.size, 0, none⟩ 1 1 [.int .i64 row[z].kind, .int .i64 row[z].int, .string row[z].text] rfl rfl ?c1 ?c2 ?c3 ?c4 ?c5 ?_)
      case c1 => intro j u hj; rw [add_mk, Nat.zero_add]; exact (World.cell?_alloc_at _ _ _ _ rfl).trans (by simpa using hj)
      case c2 => intro u hu; simp only [List.mem_cons, List.not_mem_nil, or_false] at hu; rcases hu with rfl | rfl | rfl <;> simp [Value.oneCell']
      case c3 => unfold maxLen; omega
      case c4 => omega
      case c5 => have := HA4.out.size; simp; omega
      intro v' w5 hown' hgrow _
      have HA5 := Lib.hid (aft_grown (O4.out.alloc _) (HA4.out.alloc _) hgrow)
      have HO5 := Lib.hid hown'
      clear hown' hgrow
      go_wp2_with fail
      go_roundw
      case rel => exact ⟨k + 1, by omega, by go_num, HA5.out, by rw [HS.out]; simpa [List.flatMap_append, cellsV] using HO5.out⟩
      case measure => simp [intOf]; omega
    · have e1 : names.take k = names := List.take_of_length_le (by omega)
      have e2 : k = names.length := by omega
      have ho := HO.out
      rw [e1, e2, ← ofVs_len x.t.cols names row] at ho
      obtain ⟨L, hL⟩ : ∃ L, ofVs x.t.cols names row = L := ⟨_, rfl⟩
      rw [hL] at ho
      have hL8 : L.length ≤ 8 := by rw [← hL, ofVs_len]; exact hn8
      have HLS := Lib.hid (show ∀ v ∈ L, Small v.text.size by
        rw [← hL]
        intro v hv
        obtain ⟨s', hs', rfl⟩ := List.mem_map.1 hv
        obtain ⟨j, hj, rfl⟩ := List.getElem_of_mem hs'
        obtain ⟨z, hz0, hzr⟩ := HOK.out j hj
        rw [hz0, valAt_get hzr]
        exact HRS.out _ (List.getElem_mem hzr))
      obtain ⟨G, capG, heqG, hG⟩ := own_vals ho (small8' hL8) HLS.out
      have HOW := Lib.hid ho
      have HWB := Lib.hid (show (!(L.any fun x => eqV nullV x)) = wholeV L from hasN_whole (by rw [← hL]; exact HMAY.out))
      have Cc := Lib.hid (containsV_any G capG L nullV wr hG)
      have HLL := Lib.hid hL
      subst heqG
      clear ho hG hL e1
      obtain ⟨bb, hbb⟩ : ∃ b, (L.any fun x => eqV nullV x) = b := ⟨_, rfl⟩
      rw [hbb] at Cc HWB
      clear hbb
      go_wp2_with fail
      refine Cc.out.mono ?_
      rintro e w5 ⟨rfl, a5⟩
      have HA5 := Lib.hid (HA.out.trans a5)
      have HO5 := Lib.hid (own_aft HOW.out a5)
      clear a5
      go_wp2_with fail
      go_ret2
      exact ⟨_, by rw [HLL.out, ← HWB.out]; rfl, HA5.out, by rw [HLL.out]; exact HO5.out⟩
end Go.Proofs.YtiadkchlkdaceaaGreat

namespace Go.Proofs.YtiadkchlkdaceaaGreat
open Go.RowKit
set_option linter.unusedVariables false
theorem SOk.good {S : List Shf} {ss : List Sch} (h : SOk S ss) : Good ⟨ss, S.map (·.t)⟩ := (good_iff _).1 h.ck
theorem SOk.tab {S : List Shf} {ss : List Sch} (h : SOk S ss) {x : Shf} (hx : x ∈ S) : GoodT ss (S.map (·.t)) x.t := h.good.tab _ (List.mem_map_of_mem hx)
theorem SOk.cols {S : List Shf} {ss : List Sch} (h : SOk S ss) {x : Shf} (hx : x ∈ S) {r : Rul} (hr : r ∈ x.t.rules) : OkN x.t.cols r.cols := by
  have g := h.tab hx
  have hf := g.fit r hr
  refine ⟨fits_len g.cols hf, fun a ha => ?_⟩
  obtain ⟨k, hk, rfl⟩ := List.getElem_of_mem ha
  exact fits_cols hf hk
theorem SOk.keyOf {S : List Shf} {ss : List Sch} (h : SOk S ss) {x : Shf} (hx : x ∈ S) (key : ByteArray) : OkN x.t.cols (keyOf x.t key) := by
  unfold Go.Proofs.YtiadkchlkdaceaaGreat.keyOf
  cases hf : x.t.rules.find? (isKey key) with
  | none => exact ⟨by simp, fun a ha => by simp at ha⟩
  | some r => exact h.cols hx (List.mem_of_find?_eq_some hf)
theorem SOk.far {S : List Shf} {ss : List Sch} (h : SOk S ss) {x : Shf} (hx : x ∈ S) {r : Rul} (hr : r ∈ x.t.rules) (hk : r.kind = 4) : ∃ q : Nat, shfAt S r.schema r.table = q := by
  obtain ⟨t, ht, h1, h2, _⟩ := (h.tab hx).key r hr hk
  obtain ⟨y, hy, rfl⟩ := List.mem_map.1 ht
  have : 0 ≤ shfAt S r.schema r.table := (any_iff _ _).1 (List.any_eq_true.2 ⟨y, hy, by
    rw [Bool.and_eq_true]; exact ⟨(eqS_iff9 _ _).2 h1, (eqS_iff9 _ _).2 h2⟩⟩)
  exact ⟨(shfAt S r.schema r.table).toNat, by omega⟩
end Go.Proofs.YtiadkchlkdaceaaGreat

