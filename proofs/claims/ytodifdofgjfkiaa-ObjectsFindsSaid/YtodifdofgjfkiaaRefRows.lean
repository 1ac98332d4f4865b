/- The document's rows: do schemas and tables rise? -/
import Derived.Test.YtodifdofgjfkiaaRefKey
import Derived.IntWalk
namespace Go.Proofs.Ytodifdofgjfkiaa
open Go.RowKit
set_option maxRecDepth 100000
set_option linter.unusedVariables false
def rowsB (o : Objs) : Bool := o.schemas.all (schOk o) && risesB (fun a b => cmpS a.name b.name) o.schemas && risesB (fun a b => or2 (cmpS a.schema b.schema) (cmpS a.name b.name)) o.tables && decide (o.schemas.length ≤ 8)
theorem rowsB_sch (o : Objs) (k : Nat) (hk : k < o.schemas.length) (h : schOk o o.schemas[k] = false) : rowsB o = false := by
  unfold rowsB; rw [all_false _ _ k hk h]; rfl
theorem rowsB_schr (o : Objs) (k : Nat) (hk : k < o.schemas.length) (h0 : 0 < k) (h : ltS (o.schemas[k - 1]'(by omega)).name o.schemas[k].name = false) : rowsB o = false := by
  have h1 : k - 1 + 1 < o.schemas.length := by omega
  have e : (o.schemas[k - 1 + 1]'h1) = o.schemas[k] := by congr 1; omega
  unfold rowsB
  rw [risesB_false _ _ (k - 1) h1]
  · simp
  · rw [e]
    rw [← cmpS_lt] at h
    have := of_decide_eq_false h
    omega
theorem rowsB_tabr (o : Objs) (k : Nat) (hk : k < o.tables.length) (h0 : 0 < k) (h : ¬ or2 (cmpS (o.tables[k - 1]'(by omega)).schema o.tables[k].schema) (cmpS (o.tables[k - 1]'(by omega)).name o.tables[k].name) < 0) : rowsB o = false := by
  have h1 : k - 1 + 1 < o.tables.length := by omega
  have e : (o.tables[k - 1 + 1]'h1) = o.tables[k] := by congr 1; omega
  unfold rowsB
  rw [risesB_false (fun a b : Tab => or2 (cmpS a.schema b.schema) (cmpS a.name b.name)) _ (k - 1) h1]
  · simp
  · rw [e]; omega
theorem rises_pred {α : Type} (c : α → α → Int) (l : List α) (h : ∀ k, 1 ≤ k → ∀ (hk : k < l.length), c (l[k - 1]'(by omega)) l[k] < 0) : risesB c l = true :=
  (risesB_iff c l).2 fun k hk => h (k + 1) (by omega) hk
set_option maxHeartbeats 8000000 in
theorem rrows_any (o : Objs) (As : Option Addr) (caps : Nat) (At : Option Addr) (capt : Nat) (w : World) (hsch : SlAt w 2 SchR As caps o.schemas) (htab : SlAt w 5 TabR At capt o.tables) :
    Calls Try.prog 70 #[.agg #[.slice As o.schemas.length caps, .slice At o.tables.length capt]] w
      fun e w' => e = .returned (.bool (rowsB o)) ∧ Aft w w' := by
  have hlen := hsch.len
  have hlen2 := htab.len
  go_enter Try.func70, Try.ntmps70
  go_wp2_with fail
  go_loopw [3] (fun i wr => ∃ k : Nat, k ≤ o.schemas.length ∧ i = .int .i64 k ∧ Aft (w.alloc (.cells #[.slice As o.schemas.length caps, .slice At o.tables.length capt] 25)) wr ∧ ∀ j, j < k → ∀ (hj : j < o.schemas.length), schOk o o.schemas[j] = true ∧ (0 < j → ltS (o.schemas[j - 1]'(by omega)).name o.schemas[j].name = true)) (fun i _ => o.schemas.length - (intOf i).toNat)
  case atStart => exact ⟨0, Nat.zero_le _, rfl, Aft.refl _, fun j hj => absurd hj (Nat.not_lt_zero j)⟩
  case round =>
    obtain ⟨k, hk, rfl, ha, hp⟩ := hrel
    have HP := Lib.hid hp; clear hp
    obtain ⟨hbox, hfr, hz, hzk, HA⟩ := aft_box ha
    have HAB := Lib.hid ha
    clear ha
    by_cases hlt : k < o.schemas.length
    · have hss := schs_aft HA.out hsch
      have htt := tabs_aft HA.out htab
      obtain ⟨b, off, rfl, hb, c0, c1, s0, s1⟩ := sch_at hss hlt
      obtain ⟨p, hpp⟩ : ∃ p, o.schemas[k] = p := ⟨_, rfl⟩
      rw [hpp] at c0 c1 s0 s1
      have HPP := Lib.hid hpp
      obtain ⟨n, hn⟩ : ∃ n, within o.tables p.name = n := ⟨_, rfl⟩
      have hnl : n * 16 ≤ 140737488351232 := by have := within_le o.tables p.name; omega
      have HO := Lib.hid (show schOk o o.schemas[k] = (nameB p.name && nameB p.owner && decide (n ≤ 8)) by rw [hpp]; unfold schOk; rw [hn])
      have Ct := Lib.hid (show ∀ x : Lat (wr.alloc (.cells #[.string p.name, .string p.owner] 84)), Calls Try.prog 131 #[.agg #[.slice (some ⟨b, off, none⟩) o.schemas.length caps, .slice At o.tables.length capt], .string p.name] (lat _ x) fun e w'' => e = .returned (.int .i64 n) ∧ Aft (lat _ x) w'' from
        fun x => (rtabs_any _ At capt o.tables p.name (lat _ x) (tabs_aft (((Aft.refl wr).alloc _).lat x) htt)).mono fun e w'' ⟨he, hw⟩ => ⟨he.trans (by rw [← hn]), hw⟩)
      clear hn htt
      cases hN : nameB p.name
      · have HF := Lib.hid (rowsB_sch o k hlt (by rw [HO.out, hN]; rfl))
        clear hss hpp
        go_wp2_with fail
        refine wp_region_lat (by kernel_rfl) (by kernel_rfl) ?_
        repeat (go_big_quiet_step ((first | (go_at_call 79; exact Calls.lat_same (rname_any _ _ (by first | exact s0.max | exact s1.max))) | (go_at_call 131; exact Calls.lat_of (Ct.out _)))))
        refine wpQuiet_nil ?_
        intro _ hw'
        obtain ⟨x, hw''⟩ := hw'
        subst hw''
        go_wp2_with fail
        go_ret
        exact ⟨by rw [HF.out]; rfl, (HA.out.alloc _).lat x⟩
      cases hO : nameB p.owner
      · have HF := Lib.hid (rowsB_sch o k hlt (by rw [HO.out, hN, hO]; rfl))
        clear hss hpp
        go_wp2_with fail
        refine wp_region_lat (by kernel_rfl) (by kernel_rfl) ?_
        repeat (go_big_quiet_step ((first | (go_at_call 79; exact Calls.lat_same (rname_any _ _ (by first | exact s0.max | exact s1.max))) | (go_at_call 131; exact Calls.lat_of (Ct.out _)))))
        refine wpQuiet_nil ?_
        intro _ hw'
        obtain ⟨x, hw''⟩ := hw'
        subst hw''
        go_wp2_with fail
        go_ret
        exact ⟨by rw [HF.out]; rfl, (HA.out.alloc _).lat x⟩
      have HO2 := Lib.hid (show schOk o o.schemas[k] = decide (n ≤ 8) by rw [HO.out, hN, hO]; rfl)
      by_cases h0 : 0 < k
      · have hk1 : k - 1 < o.schemas.length := by omega
        obtain ⟨b', off', hA', hb', e0, e1, _, _⟩ := sch_at hss hk1
        simp only [Option.some.injEq, Addr.mk.injEq, and_true] at hA'
        obtain ⟨rfl, rfl⟩ := hA'
        obtain ⟨p', hpp'⟩ : ∃ p', (o.schemas[k - 1]'(by omega)) = p' := ⟨_, rfl⟩
        rw [hpp'] at e0 e1
        have HPP' := Lib.hid hpp'
        have w1 : IntKind.i64.wrap ((k : Int) - 1) = (k : Int) - 1 := IntWalk.i64_in _ (by omega)
        have w2 : (0 : Int) ≤ (k : Int) - 1 := by omega
        have w3 : ((k : Int) - 1).toNat = k - 1 := by omega
        have w4 : (k : Int) - 1 < (o.schemas.length : Int) := by omega
        have w5 : decide ((0 : Int) < (k : Int)) = true := decide_eq_true (by omega)
        clear hss hpp hpp'
        cases hL : ltS p'.name p.name
        · have hL' : Op.bytesLess p'.name.toList p.name.toList = false := hL
          have HF := Lib.hid (rowsB_schr o k hlt h0 (by rw [HPP.out, HPP'.out]; exact hL))
          clear hL
          go_wp2_with fail
          refine wp_region_lat (by kernel_rfl) (by kernel_rfl) ?_
          repeat (go_big_quiet_step ((first | (go_at_call 79; exact Calls.lat_same (rname_any _ _ (by first | exact s0.max | exact s1.max))) | (go_at_call 131; exact Calls.lat_of (Ct.out _)))))
          refine wpQuiet_nil ?_
          intro _ hw'
          obtain ⟨x, hw''⟩ := hw'
          subst hw''
          go_wp2_with fail
          go_ret
          exact ⟨by rw [HF.out]; rfl, (HA.out.alloc _).lat x⟩
        have hL' : Op.bytesLess p'.name.toList p.name.toList = true := hL
        have HLT := Lib.hid (show ltS (o.schemas[k - 1]'(by omega)).name o.schemas[k].name = true by rw [HPP.out, HPP'.out]; exact hL)
        clear hL
        by_cases h8 : n ≤ 8
        · have h8' : ¬ ((8 : Int) < (n : Int)) := by omega
          have d8 : decide ((8 : Int) < (n : Int)) = false := decide_eq_false h8'
          have HN := Lib.hid (ext_lt (p := fun j => ∀ (hj : j < o.schemas.length), schOk o o.schemas[j] = true ∧ (0 < j → ltS (o.schemas[j - 1]'(by omega)).name o.schemas[j].name = true)) HP.out (fun _ => ⟨by rw [HO2.out]; exact decide_eq_true h8, fun _ => HLT.out⟩))
          go_wp2_with fail
          refine wp_region_lat (by kernel_rfl) (by kernel_rfl) ?_
          repeat (go_big_quiet_step ((first | (go_at_call 79; exact Calls.lat_same (rname_any _ _ (by first | exact s0.max | exact s1.max))) | (go_at_call 131; exact Calls.lat_of (Ct.out _)))))
          refine wpQuiet_nil ?_
          intro _ hw'
          obtain ⟨x, hw''⟩ := hw'
          subst hw''
          go_wp2_with fail
          go_roundw
          case rel => exact ⟨k + 1, by omega, by go_num, (HAB.out.alloc _).lat x, HN.out⟩
          case measure => simp [intOf]; omega
        · have h8' : (8 : Int) < (n : Int) := by omega
          have d8 : decide ((8 : Int) < (n : Int)) = true := decide_eq_true h8'
          have HF := Lib.hid (rowsB_sch o k hlt (by rw [HO2.out]; exact decide_eq_false h8))
          go_wp2_with fail
          refine wp_region_lat (by kernel_rfl) (by kernel_rfl) ?_
          repeat (go_big_quiet_step ((first | (go_at_call 79; exact Calls.lat_same (rname_any _ _ (by first | exact s0.max | exact s1.max))) | (go_at_call 131; exact Calls.lat_of (Ct.out _)))))
          refine wpQuiet_nil ?_
          intro _ hw'
          obtain ⟨x, hw''⟩ := hw'
          subst hw''
          go_wp2_with fail
          go_ret
          exact ⟨by rw [HF.out]; rfl, (HA.out.alloc _).lat x⟩
      · have w5 : decide ((0 : Int) < (k : Int)) = false := decide_eq_false (by omega)
        have w6 : (k : Int) ≤ 0 := by omega
        clear hss hpp
        by_cases h8 : n ≤ 8
        · have h8' : ¬ ((8 : Int) < (n : Int)) := by omega
          have d8 : decide ((8 : Int) < (n : Int)) = false := decide_eq_false h8'
          have HN := Lib.hid (ext_lt (p := fun j => ∀ (hj : j < o.schemas.length), schOk o o.schemas[j] = true ∧ (0 < j → ltS (o.schemas[j - 1]'(by omega)).name o.schemas[j].name = true)) HP.out (fun _ => ⟨by rw [HO2.out]; exact decide_eq_true h8, fun h => absurd h h0⟩))
          go_wp2_with fail
          refine wp_region_lat (by kernel_rfl) (by kernel_rfl) ?_
          repeat (go_big_quiet_step ((first | (go_at_call 79; exact Calls.lat_same (rname_any _ _ (by first | exact s0.max | exact s1.max))) | (go_at_call 131; exact Calls.lat_of (Ct.out _)))))
          refine wpQuiet_nil ?_
          intro _ hw'
          obtain ⟨x, hw''⟩ := hw'
          subst hw''
          go_wp2_with fail
          go_roundw
          case rel => exact ⟨k + 1, by omega, by go_num, (HAB.out.alloc _).lat x, HN.out⟩
          case measure => simp [intOf]; omega
        · have h8' : (8 : Int) < (n : Int) := by omega
          have d8 : decide ((8 : Int) < (n : Int)) = true := decide_eq_true h8'
          have HF := Lib.hid (rowsB_sch o k hlt (by rw [HO2.out]; exact decide_eq_false h8))
          go_wp2_with fail
          refine wp_region_lat (by kernel_rfl) (by kernel_rfl) ?_
          repeat (go_big_quiet_step ((first | (go_at_call 79; exact Calls.lat_same (rname_any _ _ (by first | exact s0.max | exact s1.max))) | (go_at_call 131; exact Calls.lat_of (Ct.out _)))))
          refine wpQuiet_nil ?_
          intro _ hw'
          obtain ⟨x, hw''⟩ := hw'
          subst hw''
          go_wp2_with fail
          go_ret
          exact ⟨by rw [HF.out]; rfl, (HA.out.alloc _).lat x⟩
    have HR := Lib.hid (show rowsB o = (risesB (fun a b => or2 (cmpS a.schema b.schema) (cmpS a.name b.name)) o.tables && decide (o.schemas.length ≤ 8)) by
      unfold rowsB
      rw [all_true _ _ fun j hj => (HP.out j (by omega) hj).1, rises_pred (fun a b : Sch => cmpS a.name b.name) _ fun j hj1 hj => (cmpS_lt_iff _ _).2 ((HP.out j (by omega) hj).2 (by omega))]
      rfl)
    clear HP
    go_wp2_with fail
    go_loopw [5] (fun i wr => ∃ k : Nat, 1 ≤ k ∧ (k ≤ o.tables.length ∨ k = 1) ∧ i = .int .i64 k ∧ Aft (w.alloc (.cells #[.slice As o.schemas.length caps, .slice At o.tables.length capt] 25)) wr ∧ ∀ j, j < k → 1 ≤ j → ∀ (hj : j < o.tables.length), or2 (cmpS (o.tables[j - 1]'(by omega)).schema o.tables[j].schema) (cmpS (o.tables[j - 1]'(by omega)).name o.tables[j].name) < 0) (fun i _ => o.tables.length - (intOf i).toNat)
    case atStart => exact ⟨1, by omega, .inr rfl, rfl, HAB.out, fun j hj hj1 => by omega⟩
    case round =>
      clear hbox hfr hz hzk HA HAB
      obtain ⟨k2, hk21, hk2, rfl, ha, hp⟩ := hrel
      have HP := Lib.hid hp; clear hp
      obtain ⟨hbox, hfr, hz, hzk, HA⟩ := aft_box ha
      have HAB := Lib.hid ha
      clear ha
      by_cases hlt2 : k2 < o.tables.length
      · have htt := tabs_aft HA.out htab
        have hk1 : k2 - 1 < o.tables.length := by omega
        obtain ⟨b, off, B2, capB2, B3, capB3, rfl, hb, c0, c1, c2, c3, c4, _⟩ := tab_at htt hlt2
        obtain ⟨b', off', D2, capD2, D3, capD3, hA', hb', e0, e1, e2, e3, e4, _⟩ := tab_at htt hk1
        simp only [Option.some.injEq, Addr.mk.injEq, and_true] at hA'
        obtain ⟨rfl, rfl⟩ := hA'
        obtain ⟨p, hpp⟩ : ∃ p, o.tables[k2] = p := ⟨_, rfl⟩
        obtain ⟨p', hpp'⟩ : ∃ p', (o.tables[k2 - 1]'hk1) = p' := ⟨_, rfl⟩
        rw [hpp] at c0 c1 c2 c3 c4
        rw [hpp'] at e0 e1 e2 e3 e4
        have HO := Lib.hid (show or2 (cmpS (o.tables[k2 - 1]'hk1).schema o.tables[k2].schema) (cmpS (o.tables[k2 - 1]'hk1).name o.tables[k2].name) = or2 (cmpS p'.schema p.schema) (cmpS p'.name p.name) by rw [hpp, hpp'])
        have HOL := Lib.hid (or2_lt p'.schema p.schema p'.name p.name)
        clear hpp hpp' htt
        have w1 : IntKind.i64.wrap ((k2 : Int) - 1) = (k2 : Int) - 1 := IntWalk.i64_in _ (by omega)
        have w2 : (0 : Int) ≤ (k2 : Int) - 1 := by omega
        have w3 : ((k2 : Int) - 1).toNat = k2 - 1 := by omega
        have w4 : (k2 : Int) - 1 < (o.tables.length : Int) := by omega
        cases hG : (!(ltS p'.schema p.schema || eqS p'.schema p.schema))
        · have hG' : (Op.bytesLess p'.schema.toList p.schema.toList || p'.schema.toList == p.schema.toList) = true := by have h1 := hG; rw [Bool.not_eq_false'] at h1; exact h1
          cases hE : eqS p'.schema p.schema
          · have hE' : (p'.schema.toList == p.schema.toList) = false := hE
            have hG2 : Op.bytesLess p'.schema.toList p.schema.toList = true := by rw [hE'] at hG'; simpa using hG'
            have HN := Lib.hid (ext_lt (p := fun j => 1 ≤ j → ∀ (hj : j < o.tables.length), or2 (cmpS (o.tables[j - 1]'(by omega)).schema o.tables[j].schema) (cmpS (o.tables[j - 1]'(by omega)).name o.tables[j].name) < 0) HP.out (fun _ _ => by rw [HO.out]; exact of_decide_eq_true (by rw [HOL.out, hG, hE]; rfl)))
            clear hG hE
            go_wp2_with fail
            go_roundw
            case rel => exact ⟨k2 + 1, by omega, .inl (by omega), by go_num, (HAB.out.alloc _).alloc _, HN.out⟩
            case measure => simp [intOf]; omega
          · have hE' : (p'.schema.toList == p.schema.toList) = true := hE
            cases hL : ltS p'.name p.name
            · have hL' : Op.bytesLess p'.name.toList p.name.toList = false := hL
              have HF := Lib.hid (rowsB_tabr o k2 hlt2 (by omega) (by rw [HO.out]; exact of_decide_eq_false (by rw [HOL.out, hG, hE, hL]; rfl)))
              clear hG hE hL
              go_wp2_with fail
              go_ret
              exact ⟨by rw [HF.out]; rfl, (HA.out.alloc _).alloc _⟩
            · have hL' : Op.bytesLess p'.name.toList p.name.toList = true := hL
              have HN := Lib.hid (ext_lt (p := fun j => 1 ≤ j → ∀ (hj : j < o.tables.length), or2 (cmpS (o.tables[j - 1]'(by omega)).schema o.tables[j].schema) (cmpS (o.tables[j - 1]'(by omega)).name o.tables[j].name) < 0) HP.out (fun _ _ => by rw [HO.out]; exact of_decide_eq_true (by rw [HOL.out, hG, hE, hL]; rfl)))
              clear hG hE hL
              go_wp2_with fail
              go_roundw
              case rel => exact ⟨k2 + 1, by omega, .inl (by omega), by go_num, (HAB.out.alloc _).alloc _, HN.out⟩
              case measure => simp [intOf]; omega
        · have hG' : (Op.bytesLess p'.schema.toList p.schema.toList || p'.schema.toList == p.schema.toList) = false := by have h1 := hG; rw [Bool.not_eq_true'] at h1; exact h1
          have HF := Lib.hid (rowsB_tabr o k2 hlt2 (by omega) (by rw [HO.out]; exact of_decide_eq_false (by rw [HOL.out, hG]; rfl)))
          clear hG
          go_wp2_with fail
          go_ret
          exact ⟨by rw [HF.out]; rfl, (HA.out.alloc _).alloc _⟩
      · have HF := Lib.hid (show rowsB o = decide ((o.schemas.length : Int) ≤ 8) by
          rw [HR.out, rises_pred (fun a b : Tab => or2 (cmpS a.schema b.schema) (cmpS a.name b.name)) _ fun j hj1 hj => HP.out j (by omega) hj1 hj, Bool.true_and]
          by_cases h : o.schemas.length ≤ 8
          · rw [decide_eq_true h, decide_eq_true (by omega)]
          · rw [decide_eq_false h, decide_eq_false (by omega)])
        go_wp2_with fail
        go_ret
        exact ⟨by rw [HF.out]; rfl, HA.out⟩
end Go.Proofs.Ytodifdofgjfkiaa
