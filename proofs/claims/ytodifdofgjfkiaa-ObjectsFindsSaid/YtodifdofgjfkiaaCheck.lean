/- objects.Check. -/
import Derived.Test.YtodifdofgjfkiaaRight
namespace Go.Proofs.Ytodifdofgjfkiaa
open Go.RowKit
set_option maxRecDepth 100000
set_option linter.unusedVariables false
def checkE (o : Objs) : Int := if checkO o then 0 else 63
set_option maxHeartbeats 8000000 in
theorem check_any (o : Objs) (As : Option Addr) (caps : Nat) (At : Option Addr) (capt : Nat) (w : World) (hsch : SlAt w 2 SchR As caps o.schemas) (htab : SlAt w 5 TabR At capt o.tables) :
    Calls Try.prog 17 #[.agg #[.slice As o.schemas.length caps, .slice At o.tables.length capt]] w
      fun e w' => e = .returned (.int .i64 (checkE o)) ∧ Aft w w' := by
  have hlen := hsch.len
  have hlen2 := htab.len
  by_cases d1 : 8 < o.schemas.length
  · have HF := Lib.hid (show checkE o = 63 by simp [checkE, checkO, headOk, show ¬ o.schemas.length ≤ 8 by omega])
    have e1 : ¬ ((o.schemas.length : Int) ≤ 8) := by omega
    have e1' : decide ((o.schemas.length : Int) ≤ 8) = false := decide_eq_false e1
    go_enter Try.func17, Try.ntmps17
    go_wp2_with fail
    go_loopw [3, 4] (fun ok i wr => ok = .bool false ∧ i = .int .i64 0 ∧ Aft (w.alloc (.cells #[.slice As o.schemas.length caps, .slice At o.tables.length capt] 25)) wr) (fun _ _ _ => 0)
    case atStart => exact ⟨rfl, rfl, Aft.refl _⟩
    case round =>
      obtain ⟨rfl, rfl, ha⟩ := hrel
      have HAX := Lib.hid ha
      clear ha
      go_wp2_with fail
      go_loopw [3, 6] (fun ok i wr => ok = .bool false ∧ i = .int .i64 0 ∧ Aft (w.alloc (.cells #[.slice As o.schemas.length caps, .slice At o.tables.length capt] 25)) wr) (fun _ _ _ => 0)
      case atStart => exact ⟨rfl, rfl, HAX.out⟩
      case round =>
        obtain ⟨rfl, rfl, ha⟩ := hrel
        have HAY := Lib.hid ha
        clear ha
        go_wp2_with fail
        go_ret
        exact ⟨by rw [HF.out]; rfl, ((Aft.refl w).alloc _).trans HAY.out⟩
  have e1 : (o.schemas.length : Int) ≤ 8 := by omega
  have e1' : decide ((o.schemas.length : Int) ≤ 8) = true := decide_eq_true e1
  by_cases d2 : 64 < o.tables.length
  · have HF := Lib.hid (show checkE o = 63 by simp [checkE, checkO, headOk, show ¬ o.tables.length ≤ 64 by omega])
    have e2 : ¬ ((o.tables.length : Int) ≤ 64) := by omega
    have e2' : decide ((o.tables.length : Int) ≤ 64) = false := decide_eq_false e2
    go_enter Try.func17, Try.ntmps17
    go_wp2_with fail
    go_loopw [3, 4] (fun ok i wr => ok = .bool false ∧ i = .int .i64 0 ∧ Aft (w.alloc (.cells #[.slice As o.schemas.length caps, .slice At o.tables.length capt] 25)) wr) (fun _ _ _ => 0)
    case atStart => exact ⟨rfl, rfl, Aft.refl _⟩
    case round =>
      obtain ⟨rfl, rfl, ha⟩ := hrel
      have HAX := Lib.hid ha
      clear ha
      go_wp2_with fail
      go_loopw [3, 6] (fun ok i wr => ok = .bool false ∧ i = .int .i64 0 ∧ Aft (w.alloc (.cells #[.slice As o.schemas.length caps, .slice At o.tables.length capt] 25)) wr) (fun _ _ _ => 0)
      case atStart => exact ⟨rfl, rfl, HAX.out⟩
      case round =>
        obtain ⟨rfl, rfl, ha⟩ := hrel
        have HAY := Lib.hid ha
        clear ha
        go_wp2_with fail
        go_ret
        exact ⟨by rw [HF.out]; rfl, ((Aft.refl w).alloc _).trans HAY.out⟩
  have e2 : (o.tables.length : Int) ≤ 64 := by omega
  have e2' : decide ((o.tables.length : Int) ≤ 64) = true := decide_eq_true e2
  obtain ⟨g1, hg1⟩ : ∃ g, risesB (fun a b => or2 (cmpS a.schema b.schema) (cmpS a.name b.name)) o.tables = g := ⟨_, rfl⟩
  obtain ⟨g2, hg2⟩ : ∃ g, risesB (fun a b => cmpS a.name b.name) o.schemas = g := ⟨_, rfl⟩
  have HR := Lib.hid (show checkE o = if (g1 && g2 && (o.schemas.all (schOk o) && o.tables.all (rightT o))) then 0 else 63 by simp [checkE, checkO, headOk, hg1, hg2, show o.schemas.length ≤ 8 by omega, show o.tables.length ≤ 64 by omega])
  have C1 := Lib.hid (show ∀ w', Aft w w' → Calls Try.prog 62 #[.slice At o.tables.length capt, .func (.func 63) #[] #[]] w' fun e w'' => e = .returned (.bool g1) ∧ Aft w' w'' from
    fun w' a => (tabsRise At capt o.tables w' (tabs_aft a htab)).mono fun e w'' ⟨he, hw⟩ => ⟨he.trans (by rw [← hg1]), hw⟩)
  have C2 := Lib.hid (show ∀ w', Aft w w' → Calls Try.prog 64 #[.slice As o.schemas.length caps, .func (.func 65) #[] #[]] w' fun e w'' => e = .returned (.bool g2) ∧ Aft w' w'' from
    fun w' a => (schsRise As caps o.schemas w' (schs_aft a hsch)).mono fun e w'' ⟨he, hw⟩ => ⟨he.trans (by rw [← hg2]), hw⟩)
  clear hg1 hg2
  go_enter Try.func17, Try.ntmps17
  go_wp2_with fail
  refine (C1.out _ ((Aft.refl w).alloc _)).mono ?_
  rintro e w1 ⟨rfl, a1⟩
  obtain ⟨hbox, hfr, hz, hzk, HA⟩ := aft_box a1
  have HAB := Lib.hid a1
  clear a1 C1
  cases g1
  · have HF := Lib.hid (show checkE o = 63 by rw [HR.out]; rfl)
    go_wp2_with fail
    go_loopw [3, 4] (fun ok i wr => ok = .bool false ∧ i = .int .i64 0 ∧ Aft (w.alloc (.cells #[.slice As o.schemas.length caps, .slice At o.tables.length capt] 25)) wr) (fun _ _ _ => 0)
    case atStart => exact ⟨rfl, rfl, HAB.out⟩
    case round =>
      obtain ⟨rfl, rfl, ha⟩ := hrel
      have HAX := Lib.hid ha
      clear ha
      go_wp2_with fail
      go_loopw [3, 6] (fun ok i wr => ok = .bool false ∧ i = .int .i64 0 ∧ Aft (w.alloc (.cells #[.slice As o.schemas.length caps, .slice At o.tables.length capt] 25)) wr) (fun _ _ _ => 0)
      case atStart => exact ⟨rfl, rfl, HAX.out⟩
      case round =>
        obtain ⟨rfl, rfl, ha⟩ := hrel
        have HAY := Lib.hid ha
        clear ha
        go_wp2_with fail
        go_ret
        exact ⟨by rw [HF.out]; rfl, ((Aft.refl w).alloc _).trans HAY.out⟩
  go_wp2_with fail
  refine (C2.out _ HA.out).mono ?_
  rintro e w2 ⟨rfl, a2⟩
  have HAB2 := Lib.hid (HAB.out.trans a2)
  clear a2 C2 HAB HA hbox hfr hz hzk
  obtain ⟨hbox, hfr, hz, hzk, HA⟩ := aft_box HAB2.out
  cases g2
  · have HF := Lib.hid (show checkE o = 63 by rw [HR.out]; rfl)
    go_wp2_with fail
    go_loopw [3, 4] (fun ok i wr => ok = .bool false ∧ i = .int .i64 0 ∧ Aft (w.alloc (.cells #[.slice As o.schemas.length caps, .slice At o.tables.length capt] 25)) wr) (fun _ _ _ => 0)
    case atStart => exact ⟨rfl, rfl, HAB2.out⟩
    case round =>
      obtain ⟨rfl, rfl, ha⟩ := hrel
      have HAX := Lib.hid ha
      clear ha
      go_wp2_with fail
      go_loopw [3, 6] (fun ok i wr => ok = .bool false ∧ i = .int .i64 0 ∧ Aft (w.alloc (.cells #[.slice As o.schemas.length caps, .slice At o.tables.length capt] 25)) wr) (fun _ _ _ => 0)
      case atStart => exact ⟨rfl, rfl, HAX.out⟩
      case round =>
        obtain ⟨rfl, rfl, ha⟩ := hrel
        have HAY := Lib.hid ha
        clear ha
        go_wp2_with fail
        go_ret
        exact ⟨by rw [HF.out]; rfl, ((Aft.refl w).alloc _).trans HAY.out⟩
  have HR2 := Lib.hid (show checkE o = if (o.schemas.all (schOk o) && o.tables.all (rightT o)) then 0 else 63 by rw [HR.out]; rfl)
  clear HR
  go_wp2_with fail
  go_loopw [3, 4] (fun ok i wr => ∃ (k : Nat) (b : Bool), k ≤ o.schemas.length ∧ i = .int .i64 k ∧ ok = .bool b ∧ Aft (w.alloc (.cells #[.slice As o.schemas.length caps, .slice At o.tables.length capt] 25)) wr ∧ (b = true → ∀ j, j < k → ∀ (hj : j < o.schemas.length), schOk o o.schemas[j] = true) ∧ (b = false → checkE o = 63)) (fun ok i _ => o.schemas.length - (intOf i).toNat)
  case atStart => exact ⟨0, true, Nat.zero_le _, rfl, rfl, HAB2.out, fun _ j hj => absurd hj (Nat.not_lt_zero j), fun h => by cases h⟩
  case round =>
    clear hbox hfr hz hzk HA HAB2
    obtain ⟨k, b, hk, rfl, rfl, ha, hp, hq⟩ := hrel
    obtain ⟨hbox, hfr, hz, hzk, HA⟩ := aft_box ha
    have HAB := Lib.hid ha
    clear ha
    cases b
    · have HF := Lib.hid (hq rfl)
      clear hp hq
      go_wp2_with fail
      go_loopw [3, 6] (fun ok i wr => ok = .bool false ∧ i = .int .i64 0 ∧ Aft (w.alloc (.cells #[.slice As o.schemas.length caps, .slice At o.tables.length capt] 25)) wr) (fun _ _ _ => 0)
      case atStart => exact ⟨rfl, rfl, HAB.out⟩
      case round =>
        obtain ⟨rfl, rfl, ha⟩ := hrel
        have HAY := Lib.hid ha
        clear ha
        go_wp2_with fail
        go_ret
        exact ⟨by rw [HF.out]; rfl, ((Aft.refl w).alloc _).trans HAY.out⟩
    have HP := Lib.hid (hp rfl)
    clear hp hq
    by_cases hlt : k < o.schemas.length
    · have hss := schs_aft HA.out hsch
      obtain ⟨b, off, rfl, hb, c0, c1, s0, s1⟩ := sch_at hss hlt
      obtain ⟨p, hpp⟩ : ∃ p, o.schemas[k] = p := ⟨_, rfl⟩
      rw [hpp] at c0 c1 s0 s1
      have HO := Lib.hid (show schOk o o.schemas[k] = (nameB p.name && nameB p.owner && decide (within o.tables p.name ≤ 8)) by rw [hpp]; rfl)
      clear hpp hss
      cases hN : nameB p.name
      · have HF := Lib.hid (show checkE o = 63 by rw [HR2.out, all_false _ _ k hlt (by rw [HO.out, hN]; rfl)]; rfl)
        go_wp2_with (go_at_call 67; refine (name_any _ _ (by first | exact s0.max | exact s1.max)).mono ?_; rintro e w' ⟨rfl, rfl⟩)
        go_roundw
        case rel => exact ⟨k + 1, false, by omega, by go_num, rfl, HAB.out.alloc _, (fun h => by cases h), fun _ => HF.out⟩
        case measure => simp [intOf]; omega
      cases hO : nameB p.owner
      · have HF := Lib.hid (show checkE o = 63 by rw [HR2.out, all_false _ _ k hlt (by rw [HO.out, hN, hO]; rfl)]; rfl)
        go_wp2_with (go_at_call 67; refine (name_any _ _ (by first | exact s0.max | exact s1.max)).mono ?_; rintro e w' ⟨rfl, rfl⟩)
        go_roundw
        case rel => exact ⟨k + 1, false, by omega, by go_num, rfl, HAB.out.alloc _, (fun h => by cases h), fun _ => HF.out⟩
        case measure => simp [intOf]; omega
      obtain ⟨n, hn⟩ : ∃ n, within o.tables p.name = n := ⟨_, rfl⟩
      have Cw := Lib.hid (show ∀ w', Aft w w' → Calls Try.prog 68 #[.agg #[.slice (some ⟨b, off, none⟩) o.schemas.length caps, .slice At o.tables.length capt], .string p.name] w' fun e w'' => e = .returned (.int .i64 n) ∧ Aft w' w'' from
        fun w' a => (within_any _ At capt o.tables p.name w' (tabs_aft a htab)).mono fun e w'' ⟨he, hw⟩ => ⟨he.trans (by rw [← hn]), hw⟩)
      have HO2 := Lib.hid (show schOk o o.schemas[k] = decide (n ≤ 8) by rw [HO.out, hN, hO, hn]; rfl)
      clear HO hn
      go_wp2_with (go_at_call 67; refine (name_any _ _ (by first | exact s0.max | exact s1.max)).mono ?_; rintro e w' ⟨rfl, rfl⟩)
      refine (Cw.out _ (HA.out.alloc _)).mono ?_
      rintro e w3 ⟨rfl, a3⟩
      have HAB3 := Lib.hid ((HAB.out.alloc _).trans a3)
      clear a3 Cw
      by_cases h8 : n ≤ 8
      · have h8' : (n : Int) ≤ 8 := by omega
        have HN := Lib.hid (ext_lt (p := fun j => ∀ (hj : j < o.schemas.length), schOk o o.schemas[j] = true) HP.out (fun _ => by rw [HO2.out]; exact decide_eq_true h8))
        go_wp2_with fail
        go_roundw
        case rel => exact ⟨k + 1, true, by omega, by go_num, by simp, HAB3.out, fun _ => HN.out, fun h => by cases h⟩
        case measure => simp [intOf]; omega
      · have h8' : ¬ (n : Int) ≤ 8 := by omega
        have HF := Lib.hid (show checkE o = 63 by rw [HR2.out, all_false _ _ k hlt (by rw [HO2.out]; exact decide_eq_false h8)]; rfl)
        go_wp2_with fail
        go_roundw
        case rel => exact ⟨k + 1, false, by omega, by go_num, by simp [h8'], HAB3.out, (fun h => by cases h), fun _ => HF.out⟩
        case measure => simp [intOf]; omega
    have HR3 := Lib.hid (show checkE o = if o.tables.all (rightT o) then 0 else 63 by rw [HR2.out, all_true _ _ fun j hj => HP.out j (by omega) hj]; rfl)
    clear HP HR2
    go_wp2_with fail
    go_loopw [3, 6] (fun ok i wr => ∃ (k : Nat) (b : Bool), k ≤ o.tables.length ∧ i = .int .i64 k ∧ ok = .bool b ∧ Aft (w.alloc (.cells #[.slice As o.schemas.length caps, .slice At o.tables.length capt] 25)) wr ∧ (b = true → ∀ j, j < k → ∀ (hj : j < o.tables.length), rightT o o.tables[j] = true) ∧ (b = false → checkE o = 63)) (fun ok i _ => o.tables.length - (intOf i).toNat)
    case atStart => exact ⟨0, true, Nat.zero_le _, rfl, rfl, HAB.out, fun _ j hj => absurd hj (Nat.not_lt_zero j), fun h => by cases h⟩
    case round =>
      clear hbox hfr hz hzk HA HAB
      obtain ⟨k2, b, hk2, rfl, rfl, ha, hp, hq⟩ := hrel
      obtain ⟨hbox, hfr, hz, hzk, HA⟩ := aft_box ha
      have HAB := Lib.hid ha
      clear ha
      cases b
      · have HF := Lib.hid (hq rfl)
        clear hp hq
        go_wp2_with fail
        go_ret
        exact ⟨by rw [HF.out]; rfl, HA.out⟩
      have HP := Lib.hid (hp rfl)
      clear hp hq
      by_cases hlt2 : k2 < o.tables.length
      · have htt := tabs_aft HA.out htab
        have hss := schs_aft HA.out hsch
        obtain ⟨b, off, B2, capB2, B3, capB3, rfl, hb, c0, c1, c2, c3, c4, hcols, hrules, s0, s1, s2⟩ := tab_at htt hlt2
        obtain ⟨p, hpp⟩ : ∃ p, o.tables[k2] = p := ⟨_, rfl⟩
        rw [hpp] at c0 c1 c2 c3 c4 hcols hrules s0 s1 s2
        obtain ⟨f, hf⟩ : ∃ f, rightT o p = f := ⟨_, rfl⟩
        have HO := Lib.hid (show rightT o o.tables[k2] = f by rw [hpp]; exact hf)
        have Cr := Lib.hid (show ∀ x : Lat wr, Calls Try.prog 69 #[.agg #[.slice As o.schemas.length caps, .slice (some ⟨b, off, none⟩) o.tables.length capt], .agg #[.string p.schema, .string p.name, .string p.owner, .slice B2 p.cols.length capB2, .slice B3 p.rules.length capB3]] (lat wr x) fun e w' => e = .returned (.bool f) ∧ Aft (lat wr x) w' from
          fun x => (right_any o p As caps _ capt B2 capB2 B3 capB3 (lat wr x) (schs_aft ((Aft.refl wr).lat x) hss) (tabs_aft ((Aft.refl wr).lat x) htt) (cols_aft ((Aft.refl wr).lat x) hcols) (ruls_aft ((Aft.refl wr).lat x) hrules) s1 s2).mono fun e w'' ⟨he, hw⟩ => ⟨he.trans (by rw [← hf]), hw⟩)
        clear hf hpp htt hss hcols hrules
        go_wp2_with fail
        refine wp_region_lat (by kernel_rfl) (by kernel_rfl) ?_
        repeat (go_big_quiet_step ((first | (go_at_call 69; exact Calls.lat_of (Cr.out _)))))
        refine wpQuiet_nil ?_
        intro _ hw'
        obtain ⟨x, hw''⟩ := hw'
        subst hw''
        cases f
        · have HF := Lib.hid (show checkE o = 63 by rw [HR3.out, all_false _ _ k2 hlt2 HO.out]; rfl)
          go_wp2_with fail
          go_roundw
          case rel => exact ⟨k2 + 1, false, by omega, by go_num, rfl, HAB.out.lat x, (fun h => by cases h), fun _ => HF.out⟩
          case measure => simp [intOf]; omega
        · have HN := Lib.hid (ext_lt (p := fun j => ∀ (hj : j < o.tables.length), rightT o o.tables[j] = true) HP.out (fun _ => HO.out))
          go_wp2_with fail
          go_roundw
          case rel => exact ⟨k2 + 1, true, by omega, by go_num, rfl, HAB.out.lat x, fun _ => HN.out, fun h => by cases h⟩
          case measure => simp [intOf]; omega
      · have HF := Lib.hid (show checkE o = 0 by rw [HR3.out, all_true _ _ fun j hj => HP.out j (by omega) hj]; rfl)
        go_wp2_with fail
        go_ret
        exact ⟨by rw [HF.out]; rfl, HA.out⟩
end Go.Proofs.Ytodifdofgjfkiaa
