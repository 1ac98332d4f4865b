/- Contracts of the program, part 6. -/
import Derived.Test.YtodifdofgjfkiaaPart5
import Derived.Test.YtodifdofgjfkiaaPart3
import Derived.StillTailTactics
import Derived.Deep.DeepMust
/- objects.right, and the orders by name. -/
namespace Go.Proofs.Ytodifdofgjfkiaa
open Go.RowKit
set_option maxRecDepth 100000
set_option linter.unusedVariables false
set_option maxHeartbeats 1000000 in
theorem right1_any (n1 : ByteArray) (k1 : Int) (A1 : Option Addr) (m1 c1 : Nat) (lo1 hi1 : Int) (s1 t1 y1 : ByteArray) (n2 : ByteArray) (k2 : Int) (A2 : Option Addr) (m2 c2 : Nat) (lo2 hi2 : Int) (s2 t2 y2 : ByteArray) (w : World) :
    Calls Try.prog 130 #[.agg #[.string n1, .int .i64 k1, .slice A1 m1 c1, .int .i64 lo1, .int .i64 hi1, .string s1, .string t1, .string y1], .agg #[.string n2, .int .i64 k2, .slice A2 m2 c2, .int .i64 lo2, .int .i64 hi2, .string s2, .string t2, .string y2]] w fun e w' => e = .returned (.int .i64 (cmpS n1 n2)) ∧ Aft w w' := by
  go_enter Try.func130, Try.ntmps130
  go_wp2_with fail
  refine (compare_any _ _ _).mono ?_
  rintro e w1 ⟨rfl, rfl⟩
  go_wp2_with fail
  go_ret
  exact ⟨rfl, ((Aft.refl w).alloc _).alloc _⟩
set_option maxHeartbeats 1000000 in
theorem check1_any (n1 o1 n2 o2 : ByteArray) (w : World) :
    Calls Try.prog 65 #[.agg #[.string n1, .string o1], .agg #[.string n2, .string o2]] w fun e w' => e = .returned (.int .i64 (cmpS n1 n2)) ∧ Aft w w' := by
  go_enter Try.func65, Try.ntmps65
  go_wp2_with fail
  refine (compare_any _ _ _).mono ?_
  rintro e w1 ⟨rfl, rfl⟩
  go_wp2_with fail
  go_ret
  exact ⟨rfl, ((Aft.refl w).alloc _).alloc _⟩
theorem rulesRise (A : Option Addr) (cap : Nat) (l : List Rul) (w : World) (h : SlAt w 8 RulR A cap l) :
    Calls Try.prog 129 #[.slice A l.length cap, .func (.func 130) #[] #[]] w fun e w' => e = .returned (.bool (risesB (fun a b => cmpS a.name b.name) l)) ∧ Aft w w' :=
  risesRul A cap l 130 #[] (fun a b => cmpS a.name b.name) w h (enters (P := Try.prog) Try.func130 (by kernel_rfl) rfl) fun w' ha i hi e1 e2 h1 h2 => by
    obtain ⟨A1, c1, rfl, _⟩ := h1
    obtain ⟨A2, c2, rfl, _⟩ := h2
    exact right1_any _ _ _ _ _ _ _ _ _ _ _ _ _ _ _ _ _ _ _ _ w'
theorem schsRise (A : Option Addr) (cap : Nat) (l : List Sch) (w : World) (h : SlAt w 2 SchR A cap l) :
    Calls Try.prog 64 #[.slice A l.length cap, .func (.func 65) #[] #[]] w fun e w' => e = .returned (.bool (risesB (fun a b => cmpS a.name b.name) l)) ∧ Aft w w' :=
  risesSch A cap l 65 #[] (fun a b => cmpS a.name b.name) w h (enters (P := Try.prog) Try.func65 (by kernel_rfl) rfl) fun w' ha i hi => check1_any _ _ _ _ w'
theorem tabsRise (A : Option Addr) (cap : Nat) (l : List Tab) (w : World) (h : SlAt w 5 TabR A cap l) :
    Calls Try.prog 62 #[.slice A l.length cap, .func (.func 63) #[] #[]] w fun e w' => e = .returned (.bool (risesB (fun a b => or2 (cmpS a.schema b.schema) (cmpS a.name b.name)) l)) ∧ Aft w w' :=
  risesTab A cap l 63 #[] (fun a b => or2 (cmpS a.schema b.schema) (cmpS a.name b.name)) w h (enters (P := Try.prog) Try.func63 (by kernel_rfl) rfl) fun w' ha i hi e1 e2 h1 h2 => by
    obtain ⟨A1, c1, B1, d1, rfl, _⟩ := h1
    obtain ⟨A2, c2, B2, d2, rfl, _⟩ := h2
    exact order_any _ _ _ _ _ _ _ _ _ _ w'
set_option maxHeartbeats 8000000 in
theorem right_any (o : Objs) (t : Tab) (As : Option Addr) (caps : Nat) (At : Option Addr) (capt : Nat) (A : Option Addr) (cap : Nat) (A2 : Option Addr) (cap2 : Nat) (w : World) (hsch : SlAt w 2 SchR As caps o.schemas) (htab : SlAt w 5 TabR At capt o.tables)
    (h : SlAt w 3 ColR A cap t.cols) (h2 : SlAt w 8 RulR A2 cap2 t.rules) (hn : Small t.name.size) (ho : Small t.owner.size) :
    Calls Try.prog 69 #[.agg #[.slice As o.schemas.length caps, .slice At o.tables.length capt], .agg #[.string t.schema, .string t.name, .string t.owner, .slice A t.cols.length cap, .slice A2 t.rules.length cap2]] w
      fun e w' => e = .returned (.bool (rightT o t)) ∧ Aft w w' := by
  have hlen2 := h2.len
  cases hN : nameB t.name
  · have HF := Lib.hid (show rightT o t = false by simp [rightT, hN])
    go_enter Try.func69, Try.ntmps69
    go_wp2_with (go_at_call 67; refine (name_any _ _ (by first | exact hn.max | exact ho.max)).mono ?_; rintro e w' ⟨rfl, rfl⟩)
    go_ret
    exact ⟨by rw [HF.out]; rfl, ((Aft.refl _).alloc _).alloc _⟩
  cases hO : nameB t.owner
  · have HF := Lib.hid (show rightT o t = false by simp [rightT, hO])
    go_enter Try.func69, Try.ntmps69
    go_wp2_with (go_at_call 67; refine (name_any _ _ (by first | exact hn.max | exact ho.max)).mono ?_; rintro e w' ⟨rfl, rfl⟩)
    go_ret
    exact ⟨by rw [HF.out]; rfl, ((Aft.refl _).alloc _).alloc _⟩
  have HR0 := Lib.hid (show rightT o t = (colsOk t.cols && decide (t.rules.length ≤ 8) && decide (0 ≤ schAt o.schemas t.schema) && (t.rules.all (ruleOk o.tables t.cols) && risesB (fun a b => cmpS a.name b.name) t.rules)) by simp [rightT, hN, hO])
  obtain ⟨m, hm⟩ : ∃ m, colsOk t.cols = m := ⟨_, rfl⟩
  rw [hm] at HR0
  have Cm := Lib.hid (show ∀ w', Aft w w' → Calls Try.prog 124 #[.slice A t.cols.length cap] w' fun e w'' => e = .returned (.bool m) ∧ Aft w' w'' from
    fun w' a => (mayCols_any A cap t.cols w' (cols_aft a h)).mono fun e w'' ⟨he, hw⟩ => ⟨he.trans (by rw [← hm]), hw⟩)
  clear hm
  go_enter Try.func69, Try.ntmps69
  go_wp2_with (go_at_call 67; refine (name_any _ _ (by first | exact hn.max | exact ho.max)).mono ?_; rintro e w' ⟨rfl, rfl⟩)
  refine (Cm.out _ (((Aft.refl w).alloc _).alloc _)).mono ?_
  rintro e w1 ⟨rfl, a1⟩
  obtain ⟨hbo, hbt, hz, HA⟩ := aft_box2 a1
  have HAB := Lib.hid a1
  clear a1 Cm
  cases m
  · have HF := Lib.hid (show rightT o t = false by rw [HR0.out]; rfl)
    go_wp2_with fail
    go_ret
    exact ⟨by rw [HF.out]; rfl, HA.out⟩
  by_cases h8 : 8 < t.rules.length
  · have HF := Lib.hid (show rightT o t = false by rw [HR0.out, decide_eq_false (by omega)]; rfl)
    have h8' : (8 : Int) < (t.rules.length : Int) := by omega
    go_wp2_with fail
    go_ret
    exact ⟨by rw [HF.out]; rfl, HA.out⟩
  have h8' : (t.rules.length : Int) ≤ 8 := by omega
  have d8 : decide ((8 : Int) < (t.rules.length : Int)) = false := decide_eq_false (by omega)
  have HR1 := Lib.hid (show rightT o t = (decide (0 ≤ schAt o.schemas t.schema) && (t.rules.all (ruleOk o.tables t.cols) && risesB (fun a b => cmpS a.name b.name) t.rules)) by rw [HR0.out, decide_eq_true (show t.rules.length ≤ 8 by omega)]; rfl)
  clear HR0
  obtain ⟨i, hi⟩ : ∃ i, schAt o.schemas t.schema = i := ⟨_, rfl⟩
  rw [hi] at HR1
  have Cs := Lib.hid (show ∀ w', Aft w w' → Calls Try.prog 125 #[.slice As o.schemas.length caps, .string t.schema, .func (.func 126) #[] #[]] w' fun e w'' => e = .returned (.int .i64 i) ∧ Aft w' w'' from
    fun w' a => (bySch As caps o.schemas t.schema w' (schs_aft a hsch)).mono fun e w'' ⟨he, hw⟩ => ⟨he.trans (by rw [← hi]; rfl), hw⟩)
  clear hi
  go_wp2_with fail
  refine (Cs.out _ HA.out).mono ?_
  rintro e w2 ⟨rfl, a2⟩
  have HAB2 := Lib.hid (HAB.out.trans a2)
  clear a2 Cs HA HAB hbo hbt hz
  obtain ⟨hbo, hbt, hz, HA⟩ := aft_box2 HAB2.out
  by_cases hi0 : i < 0
  · have HF := Lib.hid (show rightT o t = false by rw [HR1.out, decide_eq_false (by omega)]; rfl)
    go_wp2_with fail
    go_ret
    exact ⟨by rw [HF.out]; rfl, HA.out⟩
  have hi1 : 0 ≤ i := by omega
  have HR2 := Lib.hid (show rightT o t = (t.rules.all (ruleOk o.tables t.cols) && risesB (fun a b => cmpS a.name b.name) t.rules) by rw [HR1.out, decide_eq_true hi1]; rfl)
  clear HR1
  go_wp2_with fail
  go_loopw [40] (fun i wr => ∃ k : Nat, k ≤ t.rules.length ∧ i = .int .i64 k ∧ Aft ((w.alloc (.cells #[.slice As o.schemas.length caps, .slice At o.tables.length capt] 25)).alloc (.cells #[.string t.schema, .string t.name, .string t.owner, .slice A t.cols.length cap, .slice A2 t.rules.length cap2] 34)) wr ∧ ∀ j, j < k → ∀ (hj : j < t.rules.length), ruleOk o.tables t.cols t.rules[j] = true) (fun i _ => t.rules.length - (intOf i).toNat)
  case atStart => exact ⟨0, Nat.zero_le _, rfl, HAB2.out, fun j hj => absurd hj (Nat.not_lt_zero j)⟩
  case round =>
    clear hbo hbt hz HA HAB2
    obtain ⟨k, hk, rfl, ha, hp⟩ := hrel
    obtain ⟨hbo, hbt, hz, HA⟩ := aft_box2 ha
    have HAB := Lib.hid ha
    have HP := Lib.hid hp; clear hp ha
    by_cases hlt : k < t.rules.length
    · have hr := ruls_aft HA.out h2
      obtain ⟨b, off, D2, capD2, rfl, hb, c0, c1, c2, c3, c4, c5, c6, c7, hcs, s0, s1, s2, s3⟩ := rul_at hr hlt
      obtain ⟨p, hpp⟩ : ∃ p, t.rules[k] = p := ⟨_, rfl⟩
      rw [hpp] at c0 c1 c2 c3 c4 c5 c6 c7 hcs s0 s1 s2 s3
      have HPP := Lib.hid hpp
      obtain ⟨f, hf⟩ : ∃ f, fitsOk t.cols p = f := ⟨_, rfl⟩
      obtain ⟨z, hz'⟩ : ∃ z, keyE o.tables t.cols p = z := ⟨_, rfl⟩
      have HO := Lib.hid (show ruleOk o.tables t.cols t.rules[k] = (f && !(p.kind == 4 && z != 0)) by rw [hpp]; unfold ruleOk; rw [hf, hz'])
      have Cf := Lib.hid (show ∀ w', Aft wr w' → Calls Try.prog 127 #[.slice A t.cols.length cap, .agg #[.string p.name, .int .i64 p.kind, .slice D2 p.cols.length capD2, .int .i64 p.low, .int .i64 p.high, .string p.schema, .string p.table, .string p.key]] w' fun e w'' => e = .returned (.bool f) ∧ Aft w' w'' from
        fun w' a => (fits_any A cap t.cols p D2 capD2 w' (cols_aft (HA.out.trans a) h) (strs_aft a hcs) s0 s1 s2 s3).mono fun e w'' ⟨he, hw⟩ => ⟨he.trans (by rw [← hf]), hw⟩)
      have Ck := Lib.hid (show ∀ w', Aft wr w' → Calls Try.prog 128 #[.agg #[.slice As o.schemas.length caps, .slice At o.tables.length capt], .slice A t.cols.length cap, .agg #[.string p.name, .int .i64 p.kind, .slice D2 p.cols.length capD2, .int .i64 p.low, .int .i64 p.high, .string p.schema, .string p.table, .string p.key]] w' fun e w'' => e = .returned (.int .i64 z) ∧ Aft w' w'' from
        fun w' a => (key_any _ At capt o.tables A cap t.cols p D2 capD2 w' (tabs_aft (HA.out.trans a) htab) (cols_aft (HA.out.trans a) h) (strs_aft a hcs)).mono fun e w'' ⟨he, hw⟩ => ⟨he.trans (by rw [← hz']), hw⟩)
      clear hf hz' hpp hr hcs HPP
      go_wp2_with fail
      refine (Cf.out _ ((Aft.refl wr).alloc _)).mono ?_
      rintro e w3 ⟨rfl, a3⟩
      obtain ⟨hbr, hfr, hzr, hzkr, HA3⟩ := aft_box a3
      have hbo3 : ∀ o', w3.cell? ⟨w.heap.size, o', none⟩ = _ := fun o' => (Below.cell HA3.out (p := ⟨w.heap.size, o', none⟩) hz.1).trans (hbo o')
      have hbt3 : ∀ o', w3.cell? ⟨w.heap.size + 1, o', none⟩ = _ := fun o' => (Below.cell HA3.out (p := ⟨w.heap.size + 1, o', none⟩) hz.2).trans (hbt o')
      have hz3 : w.heap.size < w3.heap.size ∧ w.heap.size + 1 < w3.heap.size := ⟨Nat.lt_of_lt_of_le hz.1 HA3.out.size, Nat.lt_of_lt_of_le hz.2 HA3.out.size⟩
      clear a3 Cf hbo hbt c0 c1 c2 c3 c4 c5 c6 c7
      cases f
      · have HF := Lib.hid (show rightT o t = false by rw [HR2.out, all_false _ _ k hlt (by rw [HO.out]; rfl)]; rfl)
        go_wp2_with fail
        go_ret
        exact ⟨by rw [HF.out]; rfl, HA.out.trans HA3.out⟩
      cases h4 : (p.kind == 4)
      · have HN := Lib.hid (ext_lt (p := fun j => ∀ (hj : j < t.rules.length), ruleOk o.tables t.cols t.rules[j] = true) HP.out (fun _ => by rw [HO.out, h4]; rfl))
        go_wp2_with fail
        go_roundw
        case rel => exact ⟨k + 1, by omega, by go_num, HAB.out.trans HA3.out, HN.out⟩
        case measure => simp [intOf]; omega
      · go_wp2_with fail
        refine (Ck.out _ HA3.out).mono ?_
        rintro e w4 ⟨rfl, a4⟩
        have HA4 := Lib.hid (HA3.out.trans a4)
        clear a4 Ck hbo3 hbt3 hbr
        cases z0 : (z != 0)
        · have HN := Lib.hid (ext_lt (p := fun j => ∀ (hj : j < t.rules.length), ruleOk o.tables t.cols t.rules[j] = true) HP.out (fun _ => by rw [HO.out, h4, z0]; rfl))
          go_wp2_with fail
          go_roundw
          case rel => exact ⟨k + 1, by omega, by go_num, HAB.out.trans HA4.out, HN.out⟩
          case measure => simp [intOf]; omega
        · have HF := Lib.hid (show rightT o t = false by rw [HR2.out, all_false _ _ k hlt (by rw [HO.out, h4, z0]; rfl)]; rfl)
          go_wp2_with fail
          go_ret
          exact ⟨by rw [HF.out]; rfl, HA.out.trans HA4.out⟩
    · have HF := Lib.hid (show rightT o t = risesB (fun a b => cmpS a.name b.name) t.rules by rw [HR2.out, all_true _ _ fun j hj => HP.out j (by omega) hj]; rfl)
      have Cr := Lib.hid (rulesRise A2 cap2 t.rules wr (ruls_aft HA.out h2))
      go_wp2_with fail
      refine Cr.out.mono ?_
      rintro e w3 ⟨rfl, a3⟩
      have HA3 := Lib.hid (HA.out.trans a3)
      clear a3
      go_wp2_with fail
      go_ret
      exact ⟨by rw [HF.out]; rfl, HA3.out⟩
end Go.Proofs.Ytodifdofgjfkiaa
/- objects.Check. -/
namespace Go.Proofs.Ytodifdofgjfkiaa
open Go.RowKit
set_option maxRecDepth 100000
set_option linter.unusedVariables false
def checkE (o : Objs) : Int := if checkO o then 0 else 63
set_option maxHeartbeats 8000000 in
theorem check_any (o : Objs) (As : Option Addr) (caps : Nat) (At : Option Addr) (capt : Nat) (w : World) (hsch : SlAt w 2 SchR As caps o.schemas) (htab : SlAt w 5 TabR At capt o.tables) :
    Calls Try.prog 17 #[.agg #[.slice As o.schemas.length caps, .slice At o.tables.length capt]] w
      fun e w' => e = .returned (.int .i64 (checkE o)) ∧ Aft w w' := by
  have hlen := hsch.len
  have hlen2 := htab.len
  by_cases d1 : 8 < o.schemas.length
  · have HF := Lib.hid (show checkE o = 63 by simp [checkE, checkO, headOk, show ¬ o.schemas.length ≤ 8 by omega])
    have e1 : ¬ ((o.schemas.length : Int) ≤ 8) := by omega
    have e1' : decide ((o.schemas.length : Int) ≤ 8) = false := decide_eq_false e1
    go_enter Try.func17, Try.ntmps17
    go_wp2_with fail
    go_loopw [3, 4] (fun ok i wr => ok = .bool false ∧ i = .int .i64 0 ∧ Aft (w.alloc (.cells #[.slice As o.schemas.length caps, .slice At o.tables.length capt] 25)) wr) (fun _ _ _ => 0)
    case atStart => exact ⟨rfl, rfl, Aft.refl _⟩
    case round =>
      obtain ⟨rfl, rfl, ha⟩ := hrel
      have HAX := Lib.hid ha
      clear ha
      go_wp2_with fail
      go_loopw [3, 6] (fun ok i wr => ok = .bool false ∧ i = .int .i64 0 ∧ Aft (w.alloc (.cells #[.slice As o.schemas.length caps, .slice At o.tables.length capt] 25)) wr) (fun _ _ _ => 0)
      case atStart => exact ⟨rfl, rfl, HAX.out⟩
      case round =>
        obtain ⟨rfl, rfl, ha⟩ := hrel
        have HAY := Lib.hid ha
        clear ha
        go_wp2_with fail
        go_ret
        exact ⟨by rw [HF.out]; rfl, ((Aft.refl w).alloc _).trans HAY.out⟩
  have e1 : (o.schemas.length : Int) ≤ 8 := by omega
  have e1' : decide ((o.schemas.length : Int) ≤ 8) = true := decide_eq_true e1
  by_cases d2 : 64 < o.tables.length
  · have HF := Lib.hid (show checkE o = 63 by simp [checkE, checkO, headOk, show ¬ o.tables.length ≤ 64 by omega])
    have e2 : ¬ ((o.tables.length : Int) ≤ 64) := by omega
    have e2' : decide ((o.tables.length : Int) ≤ 64) = false := decide_eq_false e2
    go_enter Try.func17, Try.ntmps17
    go_wp2_with fail
    go_loopw [3, 4] (fun ok i wr => ok = .bool false ∧ i = .int .i64 0 ∧ Aft (w.alloc (.cells #[.slice As o.schemas.length caps, .slice At o.tables.length capt] 25)) wr) (fun _ _ _ => 0)
    case atStart => exact ⟨rfl, rfl, Aft.refl _⟩
    case round =>
      obtain ⟨rfl, rfl, ha⟩ := hrel
      have HAX := Lib.hid ha
      clear ha
      go_wp2_with fail
      go_loopw [3, 6] (fun ok i wr => ok = .bool false ∧ i = .int .i64 0 ∧ Aft (w.alloc (.cells #[.slice As o.schemas.length caps, .slice At o.tables.length capt] 25)) wr) (fun _ _ _ => 0)
      case atStart => exact ⟨rfl, rfl, HAX.out⟩
      case round =>
        obtain ⟨rfl, rfl, ha⟩ := hrel
        have HAY := Lib.hid ha
        clear ha
        go_wp2_with fail
        go_ret
        exact ⟨by rw [HF.out]; rfl, ((Aft.refl w).alloc _).trans HAY.out⟩
  have e2 : (o.tables.length : Int) ≤ 64 := by omega
  have e2' : decide ((o.tables.length : Int) ≤ 64) = true := decide_eq_true e2
  obtain ⟨g1, hg1⟩ : ∃ g, risesB (fun a b => or2 (cmpS a.schema b.schema) (cmpS a.name b.name)) o.tables = g := ⟨_, rfl⟩
  obtain ⟨g2, hg2⟩ : ∃ g, risesB (fun a b => cmpS a.name b.name) o.schemas = g := ⟨_, rfl⟩
  have HR := Lib.hid (show checkE o = if (g1 && g2 && (o.schemas.all (schOk o) && o.tables.all (rightT o))) then 0 else 63 by simp [checkE, checkO, headOk, hg1, hg2, show o.schemas.length ≤ 8 by omega, show o.tables.length ≤ 64 by omega])
  have C1 := Lib.hid (show ∀ w', Aft w w' → Calls Try.prog 62 #[.slice At o.tables.length capt, .func (.func 63) #[] #[]] w' fun e w'' => e = .returned (.bool g1) ∧ Aft w' w'' from
    fun w' a => (tabsRise At capt o.tables w' (tabs_aft a htab)).mono fun e w'' ⟨he, hw⟩ => ⟨he.trans (by rw [← hg1]), hw⟩)
  have C2 := Lib.hid (show ∀ w', Aft w w' → Calls Try.prog 64 #[.slice As o.schemas.length caps, .func (.func 65) #[] #[]] w' fun e w'' => e = .returned (.bool g2) ∧ Aft w' w'' from
    fun w' a => (schsRise As caps o.schemas w' (schs_aft a hsch)).mono fun e w'' ⟨he, hw⟩ => ⟨he.trans (by rw [← hg2]), hw⟩)
  clear hg1 hg2
  go_enter Try.func17, Try.ntmps17
  go_wp2_with fail
  refine (C1.out _ ((Aft.refl w).alloc _)).mono ?_
  rintro e w1 ⟨rfl, a1⟩
  obtain ⟨hbox, hfr, hz, hzk, HA⟩ := aft_box a1
  have HAB := Lib.hid a1
  clear a1 C1
  cases g1
  · have HF := Lib.hid (show checkE o = 63 by rw [HR.out]; rfl)
    go_wp2_with fail
    go_loopw [3, 4] (fun ok i wr => ok = .bool false ∧ i = .int .i64 0 ∧ Aft (w.alloc (.cells #[.slice As o.schemas.length caps, .slice At o.tables.length capt] 25)) wr) (fun _ _ _ => 0)
    case atStart => exact ⟨rfl, rfl, HAB.out⟩
    case round =>
      obtain ⟨rfl, rfl, ha⟩ := hrel
      have HAX := Lib.hid ha
      clear ha
      go_wp2_with fail
      go_loopw [3, 6] (fun ok i wr => ok = .bool false ∧ i = .int .i64 0 ∧ Aft (w.alloc (.cells #[.slice As o.schemas.length caps, .slice At o.tables.length capt] 25)) wr) (fun _ _ _ => 0)
      case atStart => exact ⟨rfl, rfl, HAX.out⟩
      case round =>
        obtain ⟨rfl, rfl, ha⟩ := hrel
        have HAY := Lib.hid ha
        clear ha
        go_wp2_with fail
        go_ret
        exact ⟨by rw [HF.out]; rfl, ((Aft.refl w).alloc _).trans HAY.out⟩
  go_wp2_with fail
  refine (C2.out _ HA.out).mono ?_
  rintro e w2 ⟨rfl, a2⟩
  have HAB2 := Lib.hid (HAB.out.trans a2)
  clear a2 C2 HAB HA hbox hfr hz hzk
  obtain ⟨hbox, hfr, hz, hzk, HA⟩ := aft_box HAB2.out
  cases g2
  · have HF := Lib.hid (show checkE o = 63 by rw [HR.out]; rfl)
    go_wp2_with fail
    go_loopw [3, 4] (fun ok i wr => ok = .bool false ∧ i = .int .i64 0 ∧ Aft (w.alloc (.cells #[.slice As o.schemas.length caps, .slice At o.tables.length capt] 25)) wr) (fun _ _ _ => 0)
    case atStart => exact ⟨rfl, rfl, HAB2.out⟩
    case round =>
      obtain ⟨rfl, rfl, ha⟩ := hrel
      have HAX := Lib.hid ha
      clear ha
      go_wp2_with fail
      go_loopw [3, 6] (fun ok i wr => ok = .bool false ∧ i = .int .i64 0 ∧ Aft (w.alloc (.cells #[.slice As o.schemas.length caps, .slice At o.tables.length capt] 25)) wr) (fun _ _ _ => 0)
      case atStart => exact ⟨rfl, rfl, HAX.out⟩
      case round =>
        obtain ⟨rfl, rfl, ha⟩ := hrel
        have HAY := Lib.hid ha
        clear ha
        go_wp2_with fail
        go_ret
        exact ⟨by rw [HF.out]; rfl, ((Aft.refl w).alloc _).trans HAY.out⟩
  have HR2 := Lib.hid (show checkE o = if (o.schemas.all (schOk o) && o.tables.all (rightT o)) then 0 else 63 by rw [HR.out]; rfl)
  clear HR
  go_wp2_with fail
  go_loopw [3, 4] (fun ok i wr => ∃ (k : Nat) (b : Bool), k ≤ o.schemas.length ∧ i = .int .i64 k ∧ ok = .bool b ∧ Aft (w.alloc (.cells #[.slice As o.schemas.length caps, .slice At o.tables.length capt] 25)) wr ∧ (b = true → ∀ j, j < k → ∀ (hj : j < o.schemas.length), schOk o o.schemas[j] = true) ∧ (b = false → checkE o = 63)) (fun ok i _ => o.schemas.length - (intOf i).toNat)
  case atStart => exact ⟨0, true, Nat.zero_le _, rfl, rfl, HAB2.out, fun _ j hj => absurd hj (Nat.not_lt_zero j), fun h => by cases h⟩
  case round =>
    clear hbox hfr hz hzk HA HAB2
    obtain ⟨k, b, hk, rfl, rfl, ha, hp, hq⟩ := hrel
    obtain ⟨hbox, hfr, hz, hzk, HA⟩ := aft_box ha
    have HAB := Lib.hid ha
    clear ha
    cases b
    · have HF := Lib.hid (hq rfl)
      clear hp hq
      go_wp2_with fail
      go_loopw [3, 6] (fun ok i wr => ok = .bool false ∧ i = .int .i64 0 ∧ Aft (w.alloc (.cells #[.slice As o.schemas.length caps, .slice At o.tables.length capt] 25)) wr) (fun _ _ _ => 0)
      case atStart => exact ⟨rfl, rfl, HAB.out⟩
      case round =>
        obtain ⟨rfl, rfl, ha⟩ := hrel
        have HAY := Lib.hid ha
        clear ha
        go_wp2_with fail
        go_ret
        exact ⟨by rw [HF.out]; rfl, ((Aft.refl w).alloc _).trans HAY.out⟩
    have HP := Lib.hid (hp rfl)
    clear hp hq
    by_cases hlt : k < o.schemas.length
    · have hss := schs_aft HA.out hsch
      obtain ⟨b, off, rfl, hb, c0, c1, s0, s1⟩ := sch_at hss hlt
      obtain ⟨p, hpp⟩ : ∃ p, o.schemas[k] = p := ⟨_, rfl⟩
      rw [hpp] at c0 c1 s0 s1
      have HO := Lib.hid (show schOk o o.schemas[k] = (nameB p.name && nameB p.owner && decide (within o.tables p.name ≤ 8)) by rw [hpp]; rfl)
      clear hpp hss
      cases hN : nameB p.name
      · have HF := Lib.hid (show checkE o = 63 by rw [HR2.out, all_false _ _ k hlt (by rw [HO.out, hN]; rfl)]; rfl)
        go_wp2_with (go_at_call 67; refine (name_any _ _ (by first | exact s0.max | exact s1.max)).mono ?_; rintro e w' ⟨rfl, rfl⟩)
        go_roundw
        case rel => exact ⟨k + 1, false, by omega, by go_num, rfl, HAB.out.alloc _, (fun h => by cases h), fun _ => HF.out⟩
        case measure => simp [intOf]; omega
      cases hO : nameB p.owner
      · have HF := Lib.hid (show checkE o = 63 by rw [HR2.out, all_false _ _ k hlt (by rw [HO.out, hN, hO]; rfl)]; rfl)
        go_wp2_with (go_at_call 67; refine (name_any _ _ (by first | exact s0.max | exact s1.max)).mono ?_; rintro e w' ⟨rfl, rfl⟩)
        go_roundw
        case rel => exact ⟨k + 1, false, by omega, by go_num, rfl, HAB.out.alloc _, (fun h => by cases h), fun _ => HF.out⟩
        case measure => simp [intOf]; omega
      obtain ⟨n, hn⟩ : ∃ n, within o.tables p.name = n := ⟨_, rfl⟩
      have Cw := Lib.hid (show ∀ w', Aft w w' → Calls Try.prog 68 #[.agg #[.slice (some ⟨b, off, none⟩) o.schemas.length caps, .slice At o.tables.length capt], .string p.name] w' fun e w'' => e = .returned (.int .i64 n) ∧ Aft w' w'' from
        fun w' a => (within_any _ At capt o.tables p.name w' (tabs_aft a htab)).mono fun e w'' ⟨he, hw⟩ => ⟨he.trans (by rw [← hn]), hw⟩)
      have HO2 := Lib.hid (show schOk o o.schemas[k] = decide (n ≤ 8) by rw [HO.out, hN, hO, hn]; rfl)
      clear HO hn
      go_wp2_with (go_at_call 67; refine (name_any _ _ (by first | exact s0.max | exact s1.max)).mono ?_; rintro e w' ⟨rfl, rfl⟩)
      refine (Cw.out _ (HA.out.alloc _)).mono ?_
      rintro e w3 ⟨rfl, a3⟩
      have HAB3 := Lib.hid ((HAB.out.alloc _).trans a3)
      clear a3 Cw
      by_cases h8 : n ≤ 8
      · have h8' : (n : Int) ≤ 8 := by omega
        have HN := Lib.hid (ext_lt (p := fun j => ∀ (hj : j < o.schemas.length), schOk o o.schemas[j] = true) HP.out (fun _ => by rw [HO2.out]; exact decide_eq_true h8))
        go_wp2_with fail
        go_roundw
        case rel => exact ⟨k + 1, true, by omega, by go_num, by simp, HAB3.out, fun _ => HN.out, fun h => by cases h⟩
        case measure => simp [intOf]; omega
      · have h8' : ¬ (n : Int) ≤ 8 := by omega
        have HF := Lib.hid (show checkE o = 63 by rw [HR2.out, all_false _ _ k hlt (by rw [HO2.out]; exact decide_eq_false h8)]; rfl)
        go_wp2_with fail
        go_roundw
        case rel => exact ⟨k + 1, false, by omega, by go_num, by simp [h8'], HAB3.out, (fun h => by cases h), fun _ => HF.out⟩
        case measure => simp [intOf]; omega
    have HR3 := Lib.hid (show checkE o = if o.tables.all (rightT o) then 0 else 63 by rw [HR2.out, all_true _ _ fun j hj => HP.out j (by omega) hj]; rfl)
    clear HP HR2
    go_wp2_with fail
    go_loopw [3, 6] (fun ok i wr => ∃ (k : Nat) (b : Bool), k ≤ o.tables.length ∧ i = .int .i64 k ∧ ok = .bool b ∧ Aft (w.alloc (.cells #[.slice As o.schemas.length caps, .slice At o.tables.length capt] 25)) wr ∧ (b = true → ∀ j, j < k → ∀ (hj : j < o.tables.length), rightT o o.tables[j] = true) ∧ (b = false → checkE o = 63)) (fun ok i _ => o.tables.length - (intOf i).toNat)
    case atStart => exact ⟨0, true, Nat.zero_le _, rfl, rfl, HAB.out, fun _ j hj => absurd hj (Nat.not_lt_zero j), fun h => by cases h⟩
    case round =>
      clear hbox hfr hz hzk HA HAB
      obtain ⟨k2, b, hk2, rfl, rfl, ha, hp, hq⟩ := hrel
      obtain ⟨hbox, hfr, hz, hzk, HA⟩ := aft_box ha
      have HAB := Lib.hid ha
      clear ha
      cases b
      · have HF := Lib.hid (hq rfl)
        clear hp hq
        go_wp2_with fail
        go_ret
        exact ⟨by rw [HF.out]; rfl, HA.out⟩
      have HP := Lib.hid (hp rfl)
      clear hp hq
      by_cases hlt2 : k2 < o.tables.length
      · have htt := tabs_aft HA.out htab
        have hss := schs_aft HA.out hsch
        obtain ⟨b, off, B2, capB2, B3, capB3, rfl, hb, c0, c1, c2, c3, c4, hcols, hrules, s0, s1, s2⟩ := tab_at htt hlt2
        obtain ⟨p, hpp⟩ : ∃ p, o.tables[k2] = p := ⟨_, rfl⟩
        rw [hpp] at c0 c1 c2 c3 c4 hcols hrules s0 s1 s2
        obtain ⟨f, hf⟩ : ∃ f, rightT o p = f := ⟨_, rfl⟩
        have HO := Lib.hid (show rightT o o.tables[k2] = f by rw [hpp]; exact hf)
        have Cr := Lib.hid (show ∀ x : Lat wr, Calls Try.prog 69 #[.agg #[.slice As o.schemas.length caps, .slice (some ⟨b, off, none⟩) o.tables.length capt], .agg #[.string p.schema, .string p.name, .string p.owner, .slice B2 p.cols.length capB2, .slice B3 p.rules.length capB3]] (lat wr x) fun e w' => e = .returned (.bool f) ∧ Aft (lat wr x) w' from
          fun x => (right_any o p As caps _ capt B2 capB2 B3 capB3 (lat wr x) (schs_aft ((Aft.refl wr).lat x) hss) (tabs_aft ((Aft.refl wr).lat x) htt) (cols_aft ((Aft.refl wr).lat x) hcols) (ruls_aft ((Aft.refl wr).lat x) hrules) s1 s2).mono fun e w'' ⟨he, hw⟩ => ⟨he.trans (by rw [← hf]), hw⟩)
        clear hf hpp htt hss hcols hrules
        go_wp2_with fail
        refine wp_region_lat (by kernel_rfl) (by kernel_rfl) ?_
        repeat (go_big_quiet_step ((first | (go_at_call 69; exact Calls.lat_of (Cr.out _)))))
        refine wpQuiet_nil ?_
        intro _ hw'
        obtain ⟨x, hw''⟩ := hw'
        subst hw''
        cases f
        · have HF := Lib.hid (show checkE o = 63 by rw [HR3.out, all_false _ _ k2 hlt2 HO.out]; rfl)
          go_wp2_with fail
          go_roundw
          case rel => exact ⟨k2 + 1, false, by omega, by go_num, rfl, HAB.out.lat x, (fun h => by cases h), fun _ => HF.out⟩
          case measure => simp [intOf]; omega
        · have HN := Lib.hid (ext_lt (p := fun j => ∀ (hj : j < o.tables.length), rightT o o.tables[j] = true) HP.out (fun _ => HO.out))
          go_wp2_with fail
          go_roundw
          case rel => exact ⟨k2 + 1, true, by omega, by go_num, rfl, HAB.out.lat x, fun _ => HN.out, fun h => by cases h⟩
          case measure => simp [intOf]; omega
      · have HF := Lib.hid (show checkE o = 0 by rw [HR3.out, all_true _ _ fun j hj => HP.out j (by omega) hj]; rfl)
        go_wp2_with fail
        go_ret
        exact ⟨by rw [HF.out]; rfl, HA.out⟩
end Go.Proofs.Ytodifdofgjfkiaa
/- objects.changed, objects.tableChanged: objects in memory of their own, changed by what is handed in. -/
namespace Go.Proofs.Ytodifdofgjfkiaa
open Go.RowKit Go.Deep
set_option maxRecDepth 100000
set_option linter.unusedVariables false
def zeroO : Objs := ⟨[], []⟩
/-- right objects are no great ones -/
theorem check_mod {o : Objs} (h : checkO o = true) : ModO o := by
  unfold checkO headOk at h
  simp only [Bool.and_eq_true, decide_eq_true_eq, List.all_eq_true] at h
  obtain ⟨⟨⟨⟨h1, h2⟩, _⟩, _⟩, _, h3⟩ := h
  refine ⟨by omega, by omega, fun t ht => ?_⟩
  have h4 := h3 t ht
  unfold rightT at h4
  simp only [Bool.and_eq_true, decide_eq_true_eq, List.all_eq_true] at h4
  obtain ⟨⟨⟨⟨_, h5⟩, h6⟩, _⟩, h7, _⟩ := h4
  have h8 : t.cols.length ≤ 8 := by unfold colsOk at h5; simp only [Bool.and_eq_true, decide_eq_true_eq] at h5; exact h5.1.2
  refine ⟨by omega, by omega, fun r hr => ?_⟩
  have h9 := h7 r hr
  unfold ruleOk at h9
  simp only [Bool.and_eq_true] at h9
  have h1 : rcOk t.cols r.cols = true := by have hf := h9.1; unfold fitsOk at hf; simp only [Bool.and_eq_true] at hf; exact hf.1.1.1
  have := rc_len t.cols r.cols h1
  omega
/-- what a change makes of our own objects: r's objects, if there is no error -/
def DoP (w : World) (B n3 : Nat) (r : Objs × Int) (e : Ending) (w' : World) : Prop :=
  e = .returned (.int .i64 r.2) ∧ Kb (fun g => B ≤ g) w w' ∧ (r.2 = 0 → ∃ hs ht L, L.map OTab.t = r.1.tables ∧ ObjIn w' B hs ht r.1.schemas L ∧ RowAt w' n3 [.slice hs.a r.1.schemas.length hs.c, .slice ht.a r.1.tables.length ht.c])
/-- what comes out: r's objects in memory of their own, and an error's number -/
def ObjP (w : World) (r : Objs × Int) (e : Ending) (w' : World) : Prop :=
  ∃ hs ht L, L.map OTab.t = r.1.tables ∧ e = .returned (.tuple #[.agg #[.slice hs.a r.1.schemas.length hs.c, .slice ht.a r.1.tables.length ht.c], .int .i64 r.2]) ∧ Aft w w' ∧ ObjIn w' w.heap.size hs ht r.1.schemas L
def chgR (o : Objs) (r : Objs × Int) : Objs × Int := if checkO o then r else (zeroO, 63)
theorem objIn_zero (w : World) (B : Nat) : ObjIn w B ⟨none, 0, 0⟩ ⟨none, 0, 0⟩ [] [] := ⟨own_nil _ _ _ _, own_nil _ _ _ _, fun x hx => by simp at hx, by simp [blk_nil]⟩
theorem objP_zero {w w' : World} {c : Int} (a : Aft w w') : ObjP w (zeroO, c) (.returned (.tuple #[.agg #[.slice none 0 0, .slice none 0 0], .int .i64 c])) w' := ⟨⟨none, 0, 0⟩, ⟨none, 0, 0⟩, [], rfl, rfl, a, objIn_zero _ _⟩
set_option maxHeartbeats 8000000 in
theorem changed_in (o : Objs) (As : Option Addr) (caps : Nat) (At : Option Addr) (capt : Nat) (g : FuncId) (cs : Array Value) (r : Objs × Int) (w : World) (hsch : SlAt w 2 SchR As caps o.schemas) (htab : SlAt w 5 TabR At capt o.tables)
    (hent : ∀ (args : Array Value) (w : World), (callFunc g args).run Try.prog w = .ok (.enter g args) w) (hr : r.2 ≠ 0 → r.1 = zeroO)
    (hdo : checkO o = true → ∀ (w' : World) (hs ht : Hd) (L : List OTab) (B n3 : Nat), Aft w w' → w.heap.size ≤ B → B ≤ n3 → L.map OTab.t = o.tables → ObjIn w' B hs ht o.schemas L → (∀ g ∈ hs.blk ++ (ht.blk ++ L.flatMap OTab.blks), g ≠ n3) →
      RowAt w' n3 [.slice hs.a o.schemas.length hs.c, .slice ht.a o.tables.length ht.c] → Calls Try.prog g (#[.pointer (some ⟨n3, 0, none⟩)] ++ cs) w' (DoP w' B n3 r)) :
    Calls Try.prog 138 #[.agg #[.slice As o.schemas.length caps, .slice At o.tables.length capt], .func (.func g) #[] cs] w (ObjP w (chgR o r)) := by
  have hlen := hsch.len
  have hlen2 := htab.len
  have l1 : w.heap.size < w.heap.size + 1 := by omega
  have l2 : w.heap.size < w.heap.size + 1 + 1 := by omega
  obtain ⟨W, hW⟩ : ∃ W, W = (w.alloc (.cells #[.slice As o.schemas.length caps, .slice At o.tables.length capt] 25)).alloc (.cells #[.slice none 0 0, .slice none 0 0] 25) := ⟨_, rfl⟩
  have aW : Aft w W := by rw [hW]; exact ((Aft.refl w).alloc _).alloc _
  have r1 : RowAt W w.heap.size [.slice As o.schemas.length caps, .slice At o.tables.length capt] := by rw [hW]; exact (box_row2 (Aft.refl _)).aft ((Aft.refl _).alloc _)
  have r2 : RowAt W (w.heap.size + 1) [.slice none 0 0, .slice none 0 0] := by
    rw [hW]
    have := (box_row2 (w := w.alloc (.cells #[.slice As o.schemas.length caps, .slice At o.tables.length capt] 25)) (c := [.slice none 0 0, .slice none 0 0]) (t := 25) (Aft.refl _))
    simpa using this
  have zW : W.heap.size = w.heap.size + 2 := by rw [hW]; simp
  obtain ⟨c, hc⟩ : ∃ c, checkO o = c := ⟨_, rfl⟩
  have CK := Lib.hid (show ∀ w', Aft w w' → Calls Try.prog 17 #[.agg #[.slice As o.schemas.length caps, .slice At o.tables.length capt]] w' fun e w'' => e = .returned (.int .i64 (if c = true then 0 else 63)) ∧ Aft w' w'' from
    fun w' a => (check_any o As caps At capt w' (schs_aft a hsch) (tabs_aft a htab)).mono fun e w'' ⟨he, hw⟩ => ⟨he.trans (by unfold checkE; rw [hc]), hw⟩)
  have CO := Lib.hid (show c = true → ∀ w', Aft w w' → _ from fun h w' a => own_in o As caps At capt w' (schs_aft a hsch) (tabs_aft a htab) (check_mod (hc.trans h)))
  have HDO := Lib.hid (fun h : c = true => hdo (hc.trans h))
  have HE := Lib.hid (show chgR o r = if c = true then r else (zeroO, 63) by unfold chgR; rw [hc])
  have HAW := Lib.hid aW
  have HR := Lib.hid hr
  have HR1 := Lib.hid r1
  have HR2 := Lib.hid r2
  have HZ := Lib.hid zW
  clear hc hdo hsch htab r1 r2 aW zW hr
  go_enter Try.func138, Try.ntmps138
  go_wp2_with fail
  rw [← hW]
  refine (CK.out W HAW.out).mono ?_
  rintro e w1 ⟨rfl, a1⟩
  have b2 := HR2.out.aft a1
  have d0 := b2.cell (j := 0) rfl
  have d1 := b2.cell (j := 1) rfl
  have f0 := b2.2.2 0 (by simp)
  have f1 := b2.2.2 1 (by simp)
  have z2 := b2.1
  have HA1 := Lib.hid (HAW.out.trans a1)
  have HB2 := Lib.hid b2
  clear hW
  cases c
  · clear a1 b2
    go_wp2_with fail
    obtain ⟨F, hF⟩ : ∃ F, F = (w1.setCell ⟨w.heap.size + 1, 0, none⟩ (.slice none 0 0)).setCell ⟨w.heap.size + 1, 1, none⟩ (.slice none 0 0) := ⟨_, rfl⟩
    have rF : RowAt F (w.heap.size + 1) [.slice none 0 0, .slice none 0 0] := by rw [hF]; exact (HB2.out.set 0 _ (by simp)).set 1 _ (by simp)
    have aF : Aft w F := by rw [hF]; exact (HA1.out.setCell _ _ (Nat.le_succ _)).setCell _ _ (Nat.le_succ _)
    rw [← hF]
    refine bodyPost_ret (results_cell_tmp (v := .agg #[.slice none 0 0, .slice none 0 0]) rfl _ rfl ?hl) rfl ?_
    case hl => exact lvObj_row rF
    rw [HE.out]
    exact objP_zero aF
  · have b1 := HR1.out.aft a1
    have c0 := b1.cell (j := 0) rfl
    have c1 := b1.cell (j := 1) rfl
    have z1 := b1.1
    have HZ1 := Lib.hid (show w.heap.size + 2 ≤ w1.heap.size by have := a1.size; have := HZ.out; omega)
    clear a1 b1 b2
    go_wp2_with fail
    refine (CO.out (by simp) w1 HA1.out).mono ?_
    rintro e w2 ⟨hs, ht, L, hL, rfl, a2, ob⟩
    obtain ⟨W3, hW3⟩ : ∃ W3, W3 = w2.alloc (.cells #[.slice hs.a o.schemas.length hs.c, .slice ht.a o.tables.length ht.c] 25) := ⟨_, rfl⟩
    have a3 : Aft w2 W3 := by rw [hW3]; exact (Aft.refl _).alloc _
    have r3 : RowAt W3 w2.heap.size [.slice hs.a o.schemas.length hs.c, .slice ht.a o.tables.length ht.c] := by rw [hW3]; exact box_row2 (Aft.refl _)
    have HD := Lib.hid (HDO.out (by simp) W3 hs ht L w1.heap.size w2.heap.size (HA1.out.trans (a2.trans a3)) HA1.out.size a2.size hL (ob.aft a3) (fun g hg e => by have := (ob.lt g hg).2; omega) r3)
    have HA3 := Lib.hid (HA1.out.trans (a2.trans a3))
    have HB3 := Lib.hid (HB2.out.aft (a2.trans a3))
    clear a2 a3 ob hL CO HDO r3 c0 c1 z1 d0 d1 f0 f1 z2 CK
    obtain ⟨r0, rc⟩ := r
    have HZ2 := Lib.hid (show w.heap.size + 1 < w1.heap.size from HB2.out.1)
    go_wp2_with fail
    rw [← hW3]
    clear hW3
    refine HD.out.mono ?_
    rintro e w4 ⟨rfl, k4, hz4⟩
    have b4 := k4.row HB3.out (by have := HZ2.out; omega)
    have d0 := b4.cell (j := 0) rfl
    have d1 := b4.cell (j := 1) rfl
    have f0 := b4.2.2 0 (by simp)
    have f1 := b4.2.2 1 (by simp)
    have z2 := b4.1
    have HB4 := Lib.hid b4
    have HA4 := Lib.hid (k4.to_aft HA3.out (fun g hg h1 => by have := HA1.out.size; omega))
    have HZ4 := Lib.hid hz4
    clear b4 k4 hz4
    by_cases hrc : rc = 0
    · subst hrc
      obtain ⟨hs', ht', L', hL', ob', r4⟩ := HZ4.out rfl
      have c0 := r4.cell (j := 0) rfl
      have c1 := r4.cell (j := 1) rfl
      have z3 := r4.1
      have HO := Lib.hid ob'
      have HL' := Lib.hid hL'
      clear ob' hL' r4
      go_wp2_with fail
      obtain ⟨F, hF⟩ : ∃ F, F = (w4.setCell ⟨w.heap.size + 1, 0, none⟩ (.slice hs'.a r0.schemas.length hs'.c)).setCell ⟨w.heap.size + 1, 1, none⟩ (.slice ht'.a r0.tables.length ht'.c) := ⟨_, rfl⟩
      have kF : Kb (fun g => g = w.heap.size + 1) w4 F := by rw [hF]; exact (Kb.set _ _ _ _).trans (Kb.set _ _ _ _)
      have rF : RowAt F (w.heap.size + 1) [.slice hs'.a r0.schemas.length hs'.c, .slice ht'.a r0.tables.length ht'.c] := by rw [hF]; exact (HB4.out.set 0 _ (by simp)).set 1 _ (by simp)
      rw [← hF]
      refine bodyPost_ret (results_cell_tmp (v := .agg #[.slice hs'.a r0.schemas.length hs'.c, .slice ht'.a r0.tables.length ht'.c]) rfl _ rfl ?hl2) rfl ?_
      case hl2 => exact lvObj_row rF
      rw [HE.out]
      refine ⟨hs', ht', L', HL'.out, rfl, kF.to_aft HA4.out (fun g hg e => by omega), ?_⟩
      refine ObjIn.down (HO.out.kb kF fun g hg e => ?_) (by have := HA1.out.size; omega)
      have := (HO.out.lt g hg).1
      have := HZ2.out
      omega
    · have t1 : (rc != 0) = true := by simpa using hrc
      have hr0 : r0 = zeroO := HR.out hrc
      have HR0 := Lib.hid hr0
      have HRC := Lib.hid hrc
      clear hrc hr0
      go_wp2_with fail
      obtain ⟨F, hF⟩ : ∃ F, F = (w4.setCell ⟨w.heap.size + 1, 0, none⟩ (.slice none 0 0)).setCell ⟨w.heap.size + 1, 1, none⟩ (.slice none 0 0) := ⟨_, rfl⟩
      have rF : RowAt F (w.heap.size + 1) [.slice none 0 0, .slice none 0 0] := by rw [hF]; exact (HB4.out.set 0 _ (by simp)).set 1 _ (by simp)
      have aF : Aft w F := by rw [hF]; exact (HA4.out.setCell _ _ (Nat.le_succ _)).setCell _ _ (Nat.le_succ _)
      rw [← hF]
      refine bodyPost_ret (results_cell_tmp (v := .agg #[.slice none 0 0, .slice none 0 0]) rfl _ rfl ?hl3) rfl ?_
      case hl3 => exact lvObj_row rF
      rw [HE.out, HR0.out]
      exact objP_zero aF
end Go.Proofs.Ytodifdofgjfkiaa
/- objects.tableChanged: a table of our own objects, changed by what is handed in. -/
namespace Go.Proofs.Ytodifdofgjfkiaa
open Go.RowKit Go.Deep
set_option maxRecDepth 100000
set_option linter.unusedVariables false
/-- a table changed -/
def tabR (o : Objs) (s n : ByteArray) (f : Tab → Tab × Int) : Objs × Int :=
  match o.tables[(tabAt o.tables s n).toNat]? with
  | some t => if tabAt o.tables s n < 0 then (zeroO, 61) else if (f t).2 = 0 then (⟨o.schemas, o.tables.set (tabAt o.tables s n).toNat (f t).1⟩, 0) else (zeroO, (f t).2)
  | none => (zeroO, 61)
theorem tabR_none {o : Objs} {s n : ByteArray} {f : Tab → Tab × Int} (h : tabAt o.tables s n < 0) : tabR o s n f = (zeroO, 61) := by
  unfold tabR; split
  · rw [if_pos h]
  · rfl
theorem tabR_some {o : Objs} {s n : ByteArray} {f : Tab → Tab × Int} {q : Nat} (h : tabAt o.tables s n = q) (hq : q < o.tables.length) : tabR o s n f = if (f o.tables[q]).2 = 0 then (⟨o.schemas, o.tables.set q (f o.tables[q]).1⟩, 0) else (zeroO, (f o.tables[q]).2) := by
  unfold tabR
  rw [h]
  simp only [Int.toNat_natCast, List.getElem?_eq_getElem hq]
  rw [if_neg (by omega)]
theorem tabR_zero {o : Objs} {s n : ByteArray} {f : Tab → Tab × Int} : (tabR o s n f).2 ≠ 0 → (tabR o s n f).1 = zeroO := by
  unfold tabR
  split
  · split
    · intro _; rfl
    · split
      · intro h; exact absurd rfl h
      · intro _; rfl
  · intro _; rfl
/-- what a change makes of the table q -/
def TDoP (w : World) (B n3 : Nat) (hs ht : Hd) (ss : List Sch) (L : List OTab) (q : Nat) (r : Tab × Int) (e : Ending) (w' : World) : Prop :=
  e = .returned (.int .i64 r.2) ∧ Kb (fun g => B ≤ g) w w' ∧ (r.2 = 0 → ∃ x : OTab, x.t = r.1 ∧ ObjIn w' B hs ht ss (L.set q x) ∧ RowAt w' n3 [.slice hs.a ss.length hs.c, .slice ht.a L.length ht.c])
set_option maxHeartbeats 8000000 in
theorem tabCh1_in (o : Objs) (s n : ByteArray) (g2 : FuncId) (cs2 : Array Value) (f : Tab → Tab × Int) (w : World) (hs ht : Hd) (L : List OTab) (B n3 bs bt bd : Nat) (hL : L.map OTab.t = o.tables) (ob : ObjIn w B hs ht o.schemas L) (sm : SmO o)
    (r3 : RowAt w n3 [.slice hs.a o.schemas.length hs.c, .slice ht.a o.tables.length ht.c]) (c1 : w.cell? ⟨bs, 0, none⟩ = some (.string s)) (c2 : w.cell? ⟨bt, 0, none⟩ = some (.string n)) (c3 : w.cell? ⟨bd, 0, none⟩ = some (.func (.func g2) #[] cs2))
    (hent : ∀ (args : Array Value) (w : World), (callFunc g2 args).run Try.prog w = .ok (.enter g2 args) w)
    (hdo : ∀ (w' : World) (q gt : Nat) (hq : q < L.length), Aft w w' → ht.a = some ⟨gt, 0, none⟩ → tabAt o.tables s n = q → Calls Try.prog g2 (#[.agg #[.slice hs.a o.schemas.length hs.c, .slice ht.a o.tables.length ht.c], .pointer (some ⟨gt, q * 5, none⟩)] ++ cs2) w' (TDoP w' B n3 hs ht o.schemas L q (f L[q].t))) :
    Calls Try.prog 139 #[.pointer (some ⟨n3, 0, none⟩), .pointer (some ⟨bs, 0, none⟩), .pointer (some ⟨bt, 0, none⟩), .pointer (some ⟨bd, 0, none⟩)] w (DoP w B n3 (tabR o s n f)) := by
  have hoo : objOf o.schemas L = o := by unfold objOf; rw [hL]
  have tabs := ob.tabs (by rw [hoo]; exact sm)
  rw [hL] at tabs
  obtain ⟨i, hi⟩ : ∃ i, tabAt o.tables s n = i := ⟨_, rfl⟩
  have hir : -1 ≤ i ∧ i < o.tables.length := by rw [← hi]; exact idxP_range _ _
  have CW := Lib.hid (show ∀ x : Lat w, Calls Try.prog 73 #[.agg #[.slice hs.a o.schemas.length hs.c, .slice ht.a o.tables.length ht.c], .string s, .string n] (lat w x) fun e w' => e = .returned (.tuple #[.int .i64 i, .bool (decide (0 ≤ i))]) ∧ Aft (lat w x) w' from
    fun x => (where_any (.slice hs.a o.schemas.length hs.c) ht.a ht.c o.tables s n (lat w x) (tabs_aft ((Aft.refl w).lat x) tabs)).mono fun e w' ⟨he, hw⟩ => ⟨he.trans (by rw [hi]), hw⟩)
  have e0 := r3.cell (j := 0) rfl
  have e1 := r3.cell (j := 1) rfl
  have z3 := r3.1
  have y1 := World.block_lt_of_cell? _ _ c1
  have y2 := World.block_lt_of_cell? _ _ c2
  have y3 := World.block_lt_of_cell? _ _ c3
  have HLL := Lib.hid (show L.length = o.tables.length by rw [← hL]; simp)
  have hlen : o.tables.length * 16 ≤ 140737488351232 := tabs.len
  have HT := Lib.hid ob.tab
  have HDO := Lib.hid hdo
  have HL := Lib.hid hL
  clear hoo tabs hdo ob hL sm r3
  by_cases h0 : 0 ≤ i
  · obtain ⟨q, rfl⟩ := Int.eq_ofNat_of_zero_le h0
    have hq : q < o.tables.length := by omega
    obtain ⟨gt, hgt, hgb, _⟩ := own_place HT.out (by have := HLL.out; omega)
    obtain ⟨At, nt, ct⟩ := ht
    have hgt' : At = some ⟨gt, 0, none⟩ := hgt
    subst hgt'
    have HI := Lib.hid hi
    have hd : decide (0 ≤ (q : Int)) = true := by simp
    clear hgt hi h0 hir HT
    go_enter Try.func139, Try.ntmps139
    go_wp2_with fail
    refine wp_region_lat (by kernel_rfl) (by kernel_rfl) ?_
    repeat (go_big_quiet_step ((go_at_call 73; exact Calls.lat_of (CW.out _))))
    refine wpQuiet_nil ?_
    intro _ hw'
    obtain ⟨x, hw''⟩ := hw'
    subst hw''
    obtain ⟨W, hW⟩ : ∃ W, W = lat w x := ⟨_, rfl⟩
    have aW : Aft w W := by rw [hW]; exact (Aft.refl w).lat x
    rw [← hW]
    have E0 := aW.cell_kept e0
    have E1 := aW.cell_kept e1
    have C3 := aW.cell_kept c3
    have Z3 := Nat.lt_of_lt_of_le z3 aW.size
    have Y3 := Nat.lt_of_lt_of_le y3 aW.size
    have HAW := Lib.hid aW
    clear hW CW e0 e1 c1 c2 c3 z3 y1 y2 y3 aW
    have hqq : (q : Int) < (o.tables.length : Int) := by omega
    have hqz : (0 : Int) ≤ (q : Int) := by omega
    go_wp2_with fail
    go_still_tail 10, (by kernel_rfl)
    go_wp2_with fail
    have hqL : q < L.length := by rw [HLL.out]; exact hq
    refine (HDO.out _ q gt hqL HAW.out.drew rfl HI.out).mono ?_
    rintro e w4 ⟨rfl, k4, hz4⟩
    have htq : L[q].t = o.tables[q] := by
      have : (L.map OTab.t)[q]'(by simpa using hqL) = o.tables[q] := by simp only [HL.out]
      simpa using this
    rw [htq] at hz4 ⊢
    have HK4 := Lib.hid ((Kb.of_aft HAW.out.drew).trans k4)
    have HZ4 := Lib.hid hz4
    clear k4 hz4 htq
    have HE := Lib.hid (tabR_some (f := f) HI.out hq)
    obtain ⟨fr, hfr⟩ : ∃ fr, f o.tables[q] = fr := ⟨_, rfl⟩
    rw [hfr] at HE HZ4 ⊢
    clear hfr
    obtain ⟨r0, rc⟩ := fr
    go_wp2_with fail
    go_ret
    rw [HE.out]
    by_cases hrc : rc = 0
    · subst hrc
      rw [if_pos rfl]
      refine ⟨rfl, HK4.out, fun _ => ?_⟩
      obtain ⟨x', hx', ob', r4⟩ := HZ4.out rfl
      refine ⟨hs, ⟨some ⟨gt, 0, none⟩, nt, ct⟩, L.set q x', ?_, ob', ?_⟩
      · rw [List.map_set, HL.out, hx']
      · have hl := HLL.out
        rw [hl] at r4
        simpa using r4
    · rw [if_neg (by simpa using hrc)]
      exact ⟨rfl, HK4.out, fun h => absurd h (by simpa using hrc)⟩
  · have HI := Lib.hid hi
    have hd : decide (0 ≤ i) = false := by simpa using h0
    clear hi
    go_enter Try.func139, Try.ntmps139
    go_wp2_with fail
    refine wp_region_lat (by kernel_rfl) (by kernel_rfl) ?_
    repeat (go_big_quiet_step ((go_at_call 73; exact Calls.lat_of (CW.out _))))
    refine wpQuiet_nil ?_
    intro _ hw'
    obtain ⟨x, hw''⟩ := hw'
    subst hw''
    go_wp2_with fail
    go_ret
    rw [tabR_none (by rw [HI.out]; omega)]
    exact ⟨rfl, Kb.of_aft ((Aft.refl w).lat x), fun h => by simp at h⟩
set_option maxHeartbeats 8000000 in
theorem tabCh_in (o : Objs) (As : Option Addr) (caps : Nat) (At : Option Addr) (capt : Nat) (s n : ByteArray) (g : FuncId) (cs : Array Value) (f : Tab → Tab × Int) (w : World) (hsch : SlAt w 2 SchR As caps o.schemas) (htab : SlAt w 5 TabR At capt o.tables)
    (hent : ∀ (args : Array Value) (w : World), (callFunc g args).run Try.prog w = .ok (.enter g args) w)
    (hdo : checkO o = true → ∀ (w' : World) (hs ht : Hd) (L : List OTab) (B n3 q gt : Nat) (hq : q < L.length), Aft w w' → w.heap.size ≤ B → B ≤ n3 → L.map OTab.t = o.tables → ObjIn w' B hs ht o.schemas L → (∀ g ∈ hs.blk ++ (ht.blk ++ L.flatMap OTab.blks), g ≠ n3) →
      RowAt w' n3 [.slice hs.a o.schemas.length hs.c, .slice ht.a o.tables.length ht.c] → ht.a = some ⟨gt, 0, none⟩ → tabAt o.tables s n = q → Calls Try.prog g (#[.agg #[.slice hs.a o.schemas.length hs.c, .slice ht.a o.tables.length ht.c], .pointer (some ⟨gt, q * 5, none⟩)] ++ cs) w' (TDoP w' B n3 hs ht o.schemas L q (f L[q].t))) :
    Calls Try.prog 76 #[.agg #[.slice As o.schemas.length caps, .slice At o.tables.length capt], .string s, .string n, .func (.func g) #[] cs] w (ObjP w (chgR o (tabR o s n f))) := by
  have hlen := hsch.len
  have hlen2 := htab.len
  have hent1 := enters (P := Try.prog) Try.func139 (by kernel_rfl) rfl
  have l1 : w.heap.size < w.heap.size + 1 := by omega
  have l2 : w.heap.size < w.heap.size + 1 + 1 := by omega
  have l3 : w.heap.size < w.heap.size + 1 + 1 + 1 := by omega
  have l4 : w.heap.size < w.heap.size + 1 + 1 + 1 + 1 := by omega
  have l5 : w.heap.size < w.heap.size + 1 + 1 + 1 + 1 + 1 := by omega
  have sm : SmO o := ⟨sm_schs hsch, sm_tabs htab⟩
  obtain ⟨W, hW⟩ : ∃ W, W = ((((w.alloc (.cells #[.slice As o.schemas.length caps, .slice At o.tables.length capt] 25)).alloc (.cells #[.string s] 9)).alloc (.cells #[.string n] 9)).alloc (.cells #[.func (.func g) #[] cs] 96)).alloc (.cells #[.slice none 0 0, .slice none 0 0] 25) := ⟨_, rfl⟩
  have aW : Aft w W := by rw [hW]; exact (((((Aft.refl w).alloc _).alloc _).alloc _).alloc _).alloc _
  have c1 : W.cell? ⟨w.heap.size + 1, 0, none⟩ = some (.string s) := by
    rw [hW]; (repeat (refine (World.cell?_alloc_past _ _ _ (by first | (simp; done) | (simp; omega))).trans ?_)); exact World.cell?_alloc_at _ _ _ _ (by simp)
  have c2 : W.cell? ⟨w.heap.size + 1 + 1, 0, none⟩ = some (.string n) := by
    rw [hW]; (repeat (refine (World.cell?_alloc_past _ _ _ (by first | (simp; done) | (simp; omega))).trans ?_)); exact World.cell?_alloc_at _ _ _ _ (by simp)
  have c3 : W.cell? ⟨w.heap.size + 1 + 1 + 1, 0, none⟩ = some (.func (.func g) #[] cs) := by
    rw [hW]; (repeat (refine (World.cell?_alloc_past _ _ _ (by first | (simp; done) | (simp; omega))).trans ?_)); exact World.cell?_alloc_at _ _ _ _ (by simp)
  have r4 : RowAt W (w.heap.size + 1 + 1 + 1 + 1) [.slice none 0 0, .slice none 0 0] := by
    rw [hW]
    have := (box_row2 (w := (((w.alloc (.cells #[.slice As o.schemas.length caps, .slice At o.tables.length capt] 25)).alloc (.cells #[.string s] 9)).alloc (.cells #[.string n] 9)).alloc (.cells #[.func (.func g) #[] cs] 96)) (c := [.slice none 0 0, .slice none 0 0]) (t := 25) (Aft.refl _))
    simpa using this
  have zW : w.heap.size ≤ W.heap.size := aW.size
  have CC := Lib.hid (changed_in o As caps At capt 139 #[.pointer (some ⟨w.heap.size + 1, 0, none⟩), .pointer (some ⟨w.heap.size + 1 + 1, 0, none⟩), .pointer (some ⟨w.heap.size + 1 + 1 + 1, 0, none⟩)] (tabR o s n f) W (schs_aft aW hsch) (tabs_aft aW htab) hent1 tabR_zero
    (fun hck w' hs ht L B n3 a' hB hn hL ob hne r3 => tabCh1_in o s n g cs f w' hs ht L B n3 _ _ _ hL ob sm r3 (a'.cell_kept c1) (a'.cell_kept c2) (a'.cell_kept c3) hent
      (fun w'' q gt hq a'' hgt hqq => hdo hck w'' hs ht L B n3 q gt hq (aW.trans (a'.trans a'')) (Nat.le_trans zW hB) hn hL (ob.aft a'') hne (r3.aft a'') hgt hqq)))
  have HAW := Lib.hid aW
  have HR4 := Lib.hid r4
  have HZW := Lib.hid (show W.heap.size = w.heap.size + 5 by rw [hW]; simp)
  obtain ⟨rr, hrr⟩ : ∃ rr, chgR o (tabR o s n f) = rr := ⟨_, rfl⟩
  rw [hrr] at CC ⊢
  clear c1 c2 c3 r4 aW hsch htab hdo zW sm hrr
  go_enter Try.func76, Try.ntmps76
  go_wp2_with fail
  rw [← hW]
  clear hW
  refine CC.out.mono ?_
  rintro e w1 ⟨hs, ht, L, hL, rfl, a1, ob⟩
  have b4 := HR4.out.aft a1
  have d0 := b4.cell (j := 0) rfl
  have d1 := b4.cell (j := 1) rfl
  have f0 := b4.2.2 0 (by simp)
  have f1 := b4.2.2 1 (by simp)
  have z2 := b4.1
  have HB4 := Lib.hid b4
  have HA1 := Lib.hid (HAW.out.trans a1)
  have HO := Lib.hid ob
  have HL := Lib.hid hL
  clear b4 a1 ob hL CC
  go_wp2_with fail
  obtain ⟨F, hF⟩ : ∃ F, F = (w1.setCell ⟨w.heap.size + 1 + 1 + 1 + 1, 0, none⟩ (.slice hs.a rr.1.schemas.length hs.c)).setCell ⟨w.heap.size + 1 + 1 + 1 + 1, 1, none⟩ (.slice ht.a rr.1.tables.length ht.c) := ⟨_, rfl⟩
  have kF : Kb (fun g => g = w.heap.size + 1 + 1 + 1 + 1) w1 F := by rw [hF]; exact (Kb.set _ _ _ _).trans (Kb.set _ _ _ _)
  have rF : RowAt F (w.heap.size + 1 + 1 + 1 + 1) [.slice hs.a rr.1.schemas.length hs.c, .slice ht.a rr.1.tables.length ht.c] := by rw [hF]; exact (HB4.out.set 0 _ (by simp)).set 1 _ (by simp)
  rw [← hF]
  refine bodyPost_ret (results_cell_tmp (v := .agg #[.slice hs.a rr.1.schemas.length hs.c, .slice ht.a rr.1.tables.length ht.c]) rfl _ rfl ?hl) rfl ?_
  case hl => exact lvObj_row rF
  refine ⟨hs, ht, L, HL.out, rfl, kF.to_aft HA1.out (fun g hg e => by omega), ?_⟩
  have hz := HZW.out
  refine ObjIn.down (HO.out.kb kF fun g hg e => ?_) (show w.heap.size ≤ W.heap.size by omega)
  have := (HO.out.lt g hg).1
  omega
end Go.Proofs.Ytodifdofgjfkiaa
/- A table of our own objects is written. -/
namespace Go.Proofs.Ytodifdofgjfkiaa
open Go.RowKit Go.Deep
set_option maxRecDepth 100000
set_option linter.unusedVariables false
theorem nodup_swap {P A X C Y : List Nat} {N : Nat} (h : (P ++ (A ++ (X ++ C))).Nodup) (hy : Y.Nodup) (hm : ∀ g ∈ Y, g ∈ X ∨ N ≤ g) (hlt : ∀ g ∈ P ++ (A ++ (X ++ C)), g < N) : (P ++ (A ++ (Y ++ C))).Nodup := by
  obtain ⟨hP, h1, d1⟩ := List.nodup_append.1 h
  obtain ⟨hA, h2, d2⟩ := List.nodup_append.1 h1
  obtain ⟨hX, hC, d3⟩ := List.nodup_append.1 h2
  refine List.nodup_append.2 ⟨hP, List.nodup_append.2 ⟨hA, List.nodup_append.2 ⟨hy, hC, ?_⟩, ?_⟩, ?_⟩
  · intro a ha b hb e
    subst e
    rcases hm a ha with h3 | h3
    · exact d3 a h3 a hb rfl
    · have := hlt a (by simp [hb]); omega
  · intro a ha b hb e
    subst e
    have hl := hlt a (by simp [ha])
    rcases List.mem_append.1 hb with h3 | h3
    · rcases hm a h3 with h4 | h4
      · exact d2 a ha a (by simp [h4]) rfl
      · omega
    · exact d2 a ha a (by simp [h3]) rfl
  · intro a ha b hb e
    subst e
    have hl := hlt a (by simp [ha])
    rcases List.mem_append.1 hb with h3 | h3
    · exact d1 a ha a (by simp [h3]) rfl
    · rcases List.mem_append.1 h3 with h3 | h3
      · rcases hm a h3 with h4 | h4
        · exact d1 a ha a (by simp [h4]) rfl
        · omega
      · exact d1 a ha a (by simp [h3]) rfl
theorem list_parts {α : Type} (L : List α) (q : Nat) (hq : q < L.length) : L = L.take q ++ (L[q] :: L.drop (q + 1)) := by
  have := List.take_append_drop q L
  rw [List.drop_eq_getElem_cons hq] at this
  exact this.symm
theorem list_set_parts {α : Type} (L : List α) (q : Nat) (hq : q < L.length) (y : α) : L.set q y = L.take q ++ (y :: L.drop (q + 1)) := by
  rw [List.set_eq_take_append_cons_drop, if_pos hq]
theorem mem_set_cases {α : Type} {L : List α} {q : Nat} {x y : α} (hq : q < L.length) (h : x ∈ L.set q y) : x = y ∨ ∃ i, ∃ hi : i < L.length, i ≠ q ∧ x = L[i] := by
  obtain ⟨i, hi, rfl⟩ := List.getElem_of_mem h
  rw [List.length_set] at hi
  by_cases e : i = q
  · subst e; exact .inl (by simp)
  · exact .inr ⟨i, hi, e, by rw [List.getElem_set_ne (fun h => e h.symm)]⟩
theorem tab_disj {P : List Nat} {L : List OTab} {q i : Nat} (h : (P ++ L.flatMap OTab.blks).Nodup) (hq : q < L.length) (hi : i < L.length) (hne : i ≠ q) {g : Nat} (h1 : g ∈ L[q].blks) (h2 : g ∈ L[i].blks) : False := by
  have h0 := (List.nodup_append.1 h).2.1
  rw [list_parts L q hq, List.flatMap_append, List.flatMap_cons] at h0
  obtain ⟨_, h3, d1⟩ := List.nodup_append.1 h0
  obtain ⟨_, _, d2⟩ := List.nodup_append.1 h3
  by_cases hlt : i < q
  · exact d1 g (List.mem_flatMap.2 ⟨L[i], by rw [List.mem_take_iff_getElem]; exact ⟨i, by omega, rfl⟩, h2⟩) g (by simp [h1]) rfl
  · refine d2 g h1 g (List.mem_flatMap.2 ⟨L[i], ?_, h2⟩) rfl
    rw [List.mem_drop_iff_getElem]
    exact ⟨i - (q + 1), by omega, by congr 1; omega⟩
theorem nodup_set {P : List Nat} {L : List OTab} {q N : Nat} {y : OTab} (h : (P ++ L.flatMap OTab.blks).Nodup) (hq : q < L.length) (hy : y.blks.Nodup) (hm : ∀ g ∈ y.blks, g ∈ L[q].blks ∨ N ≤ g) (hlt : ∀ g ∈ P ++ L.flatMap OTab.blks, g < N) : (P ++ (L.set q y).flatMap OTab.blks).Nodup := by
  rw [list_set_parts L q hq y, List.flatMap_append, List.flatMap_cons]
  have e : L.flatMap OTab.blks = (L.take q).flatMap OTab.blks ++ (L[q].blks ++ (L.drop (q + 1)).flatMap OTab.blks) := by
    conv => lhs; rw [list_parts L q hq]
    rw [List.flatMap_append, List.flatMap_cons]
  rw [e] at h hlt
  exact nodup_swap h hy hm hlt
theorem tab_nodup {P : List Nat} {L : List OTab} {q : Nat} (h : (P ++ L.flatMap OTab.blks).Nodup) (hq : q < L.length) : L[q].blks.Nodup := by
  have h1 := (List.nodup_append.1 h).2.1
  rw [list_parts L q hq, List.flatMap_append, List.flatMap_cons] at h1
  exact (List.nodup_append.1 (List.nodup_append.1 h1).2.1).1
/-- a cell of the table q is written: the table is y then -/
theorem ObjIn.put {w : World} {B gt q j : Nat} {hs ht : Hd} {ss : List Sch} {L : List OTab} {y : OTab} {u : Value} (hsch : w.ownsRow B 84 2 hs.v ss.length (ss.flatMap schC)) (htab : w.ownsRow B 34 5 ht.v L.length (L.flatMap OTab.cells))
    (hoth : ∀ i (hi : i < L.length), i ≠ q → TabIn w B L[i]) (hy : TabIn w B y) (hnd : (hs.blk ++ (ht.blk ++ (L.set q y).flatMap OTab.blks)).Nodup) (hgt : ht.a = some ⟨gt, 0, none⟩) (hq : q < L.length) (hj : j < 5) (hc : y.cells = L[q].cells.set j u) :
    ObjIn (w.setCell ⟨gt, q * 5 + j, none⟩ u) B hs ht ss (L.set q y) := by
  have hg : gt ∈ ht.blk := by rw [Hd.mem_blk]; unfold Hd.v; rw [hgt]; rfl
  have k := Kb.set w gt (q * 5 + j) u
  obtain ⟨_, n2, d1⟩ := List.nodup_append.1 hnd
  obtain ⟨_, _, d2⟩ := List.nodup_append.1 n2
  refine ⟨own_kb hsch k (fun g h1 e => d1 g (Hd.mem_blk.2 h1) g (by rw [e]; simp [hg]) rfl), ?_, fun x hx => ?_, hnd⟩
  · have := own_set htab (Hd.mem_blk.1 hg) (q * 5 + j) u
    rw [flatMap_set (size := 5) (fun _ => rfl) L q j hq hj u y hc] at this
    rw [List.length_set]; exact this
  · have hb : ∀ g ∈ x.blks, ¬ g = gt := fun g h1 e => d2 gt hg g (List.mem_flatMap.2 ⟨x, hx, h1⟩) e.symm
    rcases mem_set_cases hq hx with rfl | ⟨i, hi, hne, rfl⟩
    · exact hy.kb k hb
    · exact (hoth i hi hne).kb k hb
theorem ObjIn.nth {w : World} {B q : Nat} {hs ht : Hd} {ss : List Sch} {L : List OTab} (h : ObjIn w B hs ht ss L) (hq : q < L.length) : TabIn w B L[q] := h.each _ (List.getElem_mem hq)
theorem nd_assoc {a b c : List Nat} : (a ++ (b ++ c)).Nodup ↔ ((a ++ b) ++ c).Nodup := by rw [List.append_assoc]
/-- the cells of a table -/
theorem ObjIn.cell {w : World} {B gt q j : Nat} {hs ht : Hd} {ss : List Sch} {L : List OTab} (h : ObjIn w B hs ht ss L) (hgt : ht.a = some ⟨gt, 0, none⟩) (hq : q < L.length) (hj : j < 5) : w.cell? ⟨gt, q * 5 + j, none⟩ = L[q].cells[j]? := own_cell h.tab (fun _ => rfl) hgt hq hj
theorem ObjIn.row {w : World} {B gt q : Nat} {hs ht : Hd} {ss : List Sch} {L : List OTab} (h : ObjIn w B hs ht ss L) (hgt : ht.a = some ⟨gt, 0, none⟩) (hq : q < L.length) : gt < w.heap.size ∧ B ≤ gt ∧ ∀ j, j < 5 → w.frozen? ⟨gt, q * 5 + j, none⟩ = false := by
  obtain ⟨g, hg, hb, hr⟩ := own_place h.tab (by omega)
  rw [hgt] at hg
  simp only [Option.some.injEq, Addr.mk.injEq, and_true] at hg
  subst hg
  refine ⟨hr.1, hb, fun j hj => hr.2.2 _ ?_⟩
  rw [flatMap_len (size := 5) (fun _ => rfl)]
  have : (q + 1) * 5 ≤ L.length * 5 := Nat.mul_le_mul_right _ hq
  omega
theorem own_owner {L : List OTab} {q : Nat} (hq : q < L.length) (v : ByteArray) : (OTab.blks { L[q] with owner := v }) = L[q].blks := rfl
set_option maxHeartbeats 4000000 in
theorem setOwner1_in (v : ByteArray) (o : Objs) (w : World) (hs ht : Hd) (L : List OTab) (B n3 q gt bo : Nat) (hq : q < L.length) (hbn : B ≤ n3) (hL : L.map OTab.t = o.tables) (ob : ObjIn w B hs ht o.schemas L) (hne : ∀ g ∈ hs.blk ++ (ht.blk ++ L.flatMap OTab.blks), g ≠ n3)
    (r3 : RowAt w n3 [.slice hs.a o.schemas.length hs.c, .slice ht.a o.tables.length ht.c]) (hgt : ht.a = some ⟨gt, 0, none⟩) (c1 : w.cell? ⟨bo, 0, none⟩ = some (.string v)) :
    Calls Try.prog 77 #[.agg #[.slice hs.a o.schemas.length hs.c, .slice ht.a o.tables.length ht.c], .pointer (some ⟨gt, q * 5, none⟩), .pointer (some ⟨bo, 0, none⟩)] w (TDoP w B n3 hs ht o.schemas L q (({ L[q].t with owner := v } : Tab), 0)) := by
  obtain ⟨z1, z2, zf⟩ := ob.row hgt hq
  have f2 := zf 2 (by decide)
  have d2 : w.cell? ⟨gt, q * 5 + 2, none⟩ = some (.string L[q].owner) := ob.cell hgt hq (by decide)
  have y1 := World.block_lt_of_cell? _ _ c1
  have l1 : gt < w.heap.size + 1 := by omega
  have l2 : bo < w.heap.size + 1 := by have : bo < w.heap.size := y1; omega
  have HLL : L.length = o.tables.length := by rw [← hL]; simp
  have HGT := Lib.hid hgt
  have HP := Lib.hid (show TDoP w B n3 hs ht o.schemas L q (({ L[q].t with owner := v } : Tab), 0) (.returned (.int .i64 0)) ((w.setCell ⟨gt, q * 5 + 2, none⟩ (.string v)).alloc (.cells #[.slice hs.a o.schemas.length hs.c, .slice ht.a o.tables.length ht.c] 25)) from by
    refine ⟨rfl, ((Kb.set w gt (q * 5 + 2) (.string v)).mono (fun g _ e => by subst e; exact z2)).trans (Kb.of_aft ((Aft.refl _).alloc _)), fun _ => ⟨{ L[q] with owner := v }, rfl, ?_, ?_⟩⟩
    · refine (ObjIn.put (j := 2) (u := .string v) (y := { L[q] with owner := v }) ob.sch ob.tab (fun i hi _ => ob.nth hi) ⟨(ob.nth hq).col, (ob.nth hq).rul, (ob.nth hq).each⟩ ?_ hgt hq (by decide) rfl).aft ((Aft.refl _).alloc _)
      have h0 := ob.nd
      rw [nd_assoc] at h0 ⊢
      refine nodup_set (N := w.heap.size) h0 hq (tab_nodup h0 hq) (fun g hg => .inl hg) (fun g hg => (ob.lt g (by rw [List.append_assoc] at hg; exact hg)).2)
    · rw [HLL]
      have hg : gt ∈ ht.blk := by rw [Hd.mem_blk]; unfold Hd.v; rw [hgt]; rfl
      exact ((Kb.set w gt (q * 5 + 2) (.string v)).row r3 (fun e => hne gt (by simp [hg]) e.symm)).aft ((Aft.refl _).alloc _))
  clear ob hL hne r3 zf hgt
  go_enter Try.func77, Try.ntmps77
  go_wp2_with fail
  go_ret
  exact HP.out
end Go.Proofs.Ytodifdofgjfkiaa
/- The document's Copy: a table in memory of its own. -/
namespace Go.Proofs.Ytodifdofgjfkiaa
open Go.RowKit Go.Deep
set_option maxRecDepth 100000
set_option linter.unusedVariables false
theorem colC_len (l : List Col) : (l.flatMap colC).length = l.length * 3 := flatMap_len (size := 3) (fun _ => rfl) l
theorem nameC_len (l : List ByteArray) : (l.flatMap nameC).length = l.length * 1 := flatMap_len (size := 1) (fun _ => rfl) l
theorem schC_len (l : List Sch) : (l.flatMap schC).length = l.length * 2 := flatMap_len (size := 2) (fun _ => rfl) l
structure RCopyS (w wr : World) (t : Tab) (A : Option Addr) (cap : Nat) (A2 : Option Addr) (cap2 : Nat) (hc hr : Hd) (L : List ORul) (k : Nat) : Prop where
  aft : Aft w wr
  box : RowAt wr w.heap.size [.string t.schema, .string t.name, .string t.owner, .slice A t.cols.length cap, .slice A2 t.rules.length cap2]
  out : RowAt wr (w.heap.size + 1) [.string ⟨#[]⟩, .string ⟨#[]⟩, .string ⟨#[]⟩, .slice none 0 0, .slice none 0 0]
  col : wr.ownsRow (w.heap.size + 2) 40 3 hc.v t.cols.length (t.cols.flatMap colC)
  rul : wr.ownsRow (w.heap.size + 2) 66 8 hr.v k (L.flatMap ORul.cells)
  len : L.length = k
  is : L.map (·.r) = t.rules.take k
  each : ∀ x ∈ L, RulIn wr (w.heap.size + 2) x
  nd : (hc.blk ++ (hr.blk ++ L.flatMap (·.h.blk))).Nodup
theorem RCopyS.lt {w wr : World} {t : Tab} {A A2 : Option Addr} {cap cap2 : Nat} {hc hr : Hd} {L : List ORul} {k : Nat} (s : RCopyS w wr t A cap A2 cap2 hc hr L k) : ∀ g ∈ hc.blk ++ (hr.blk ++ L.flatMap (·.h.blk)), w.heap.size + 2 ≤ g ∧ g < wr.heap.size := by
  intro g hg
  simp only [List.mem_append, List.mem_flatMap] at hg
  rcases hg with hg | hg | ⟨r, hr, hg⟩
  · exact blk_lt s.col g hg
  · exact blk_lt s.rul g hg
  · exact blk_lt (s.each r hr).nam g hg
theorem RCopyS.step {w wr w4 w5 : World} {t : Tab} {A A2 : Option Addr} {cap cap2 : Nat} {hc hr hr' h4 : Hd} {L : List ORul} {k : Nat} (s : RCopyS w wr t A cap A2 cap2 hc hr L k) (hk : k < t.rules.length)
    (a4 : Aft wr w4) (own4 : w4.ownsRow wr.heap.size 9 1 h4.v t.rules[k].cols.length (t.rules[k].cols.flatMap nameC)) (hg : w4.grownBy w5 hr.v.ownBlock)
    (ho : w5.ownsRow (w.heap.size + 2) 66 8 hr'.v (k + 1) (L.flatMap ORul.cells ++ rulC t.rules[k] h4)) (hb : ∀ g ∈ hr'.blk, g ∈ hr.blk ∨ w4.heap.size ≤ g) : RCopyS w w5 t A cap A2 cap2 hc hr' (L ++ [⟨t.rules[k], h4⟩]) (k + 1) := by
  have hlt := s.lt
  have nd := s.nd
  have nd2 := (List.nodup_append.1 nd).2.1
  have kg : Kb (fun g => hr.v.ownBlock = some g) w4 w5 := Kb.of_grown hg
  have ka : Kb (fun g => hr.v.ownBlock = some g) wr w5 := (Kb.of_aft a4).trans kg
  have hrl : ∀ g, hr.v.ownBlock = some g → w.heap.size + 2 ≤ g ∧ g < wr.heap.size := fun g h1 => s.rul.lt g h1
  have hz := a4.size
  have hzo := s.out.1
  have hx4 : ∀ g ∈ h4.blk, wr.heap.size ≤ g ∧ g < w4.heap.size := blk_lt own4
  refine ⟨ka.to_aft s.aft (fun g hgl h1 => by have := hrl g h1; omega), ka.row s.box (fun h1 => by have := hrl _ h1; omega), ka.row s.out (fun h1 => by have := hrl _ h1; omega), own_kb s.col ka (fun g hg1 hg2 => nodup_disj nd (Hd.mem_blk.2 hg1) (by simp [Hd.mem_blk.2 hg2])), ?_, by simp [s.len], ?_, ?_, ?_⟩
  · rw [List.flatMap_append]
    simpa [ORul.cells] using ho
  · rw [List.map_append, s.is, List.take_succ_eq_append_getElem hk]; rfl
  · intro x hx
    simp only [List.mem_append, List.mem_singleton] at hx
    rcases hx with hx | rfl
    · exact (s.each x hx).kb ka fun g hg1 hg2 => nodup_disj nd2 (Hd.mem_blk.2 hg2) (List.mem_flatMap.2 ⟨x, hx, hg1⟩)
    · exact ⟨own_down (own_kb own4 kg fun g hg1 hg2 => by have := (own4.lt g hg1).1; have := (hrl g hg2).2; omega) (by omega)⟩
  · rw [List.flatMap_append]
    have e : [ORul.mk t.rules[k] h4].flatMap (·.h.blk) = h4.blk := by simp
    rw [e]
    refine List.nodup_append.2 ⟨(List.nodup_append.1 nd).1, List.nodup_append.2 ⟨blk_nodup _, nodup_more (List.nodup_append.1 nd2).2.1 (blk_nodup _) (fun g hg => (hlt g (by simp only [List.mem_append]; exact .inr (.inr hg))).2) (fun g hg => (hx4 g hg).1), ?_⟩, ?_⟩
    · intro a ha b hb2 e
      subst e
      rcases List.mem_append.1 hb2 with h1 | h1
      · rcases hb a ha with h2 | h2
        · exact nodup_disj nd2 h2 h1
        · have := (hlt a (by simp only [List.mem_append]; exact .inr (.inr h1))).2; omega
      · rcases hb a ha with h2 | h2
        · have := (hlt a (by simp [h2])).2; have := (hx4 a h1).1; omega
        · have := (hx4 a h1).2; omega
    · intro a ha b hb2 e
      subst e
      have := (hlt a (by simp [ha])).2
      rcases List.mem_append.1 hb2 with h1 | h1
      · rcases hb a h1 with h2 | h2
        · exact nodup_disj nd ha (by simp [h2])
        · omega
      · rcases List.mem_append.1 h1 with h1 | h1
        · exact nodup_disj nd ha (List.mem_append.2 (.inr h1))
        · have := (hx4 a h1).1; omega
set_option maxHeartbeats 8000000 in
theorem rCopy_in (t : Tab) (A : Option Addr) (cap : Nat) (A2 : Option Addr) (cap2 : Nat) (w : World) (h : SlAt w 3 ColR A cap t.cols) (h2 : SlAt w 8 RulR A2 cap2 t.rules) (hm : ModT t) :
    Calls Try.prog 72 #[.agg #[.string t.schema, .string t.name, .string t.owner, .slice A t.cols.length cap, .slice A2 t.rules.length cap2]] w (CopyO w t) := by
  obtain ⟨i0, hi, hz0, hz1, hz2⟩ := info_parts info2Rul2
  have HI := Lib.hid hi
  have HZ0 := Lib.hid hz0
  have HZ1 := Lib.hid hz1
  have HZ2 := Lib.hid hz2
  clear hi hz0 hz1 hz2
  obtain ⟨i1, hi, hz0, hz1, hz2⟩ := info_parts info2Col2
  have JI := Lib.hid hi
  have JZ0 := Lib.hid hz0
  have JZ1 := Lib.hid hz1
  have JZ2 := Lib.hid hz2
  clear hi hz0 hz1 hz2
  obtain ⟨i2, hi, hz0, hz1, hz2⟩ := info_parts info2Str2
  have KI := Lib.hid hi
  have KZ0 := Lib.hid hz0
  have KZ1 := Lib.hid hz1
  have KZ2 := Lib.hid hz2
  clear hi hz0 hz1 hz2
  have hlen := h.len
  have hlen2 := h2.len
  have l1 : w.heap.size < w.heap.size + 1 := by omega
  have l2 : w.heap.size < w.heap.size + 1 + 1 := by omega
  obtain ⟨W, hW⟩ : ∃ W, W = (w.alloc (.cells #[.string t.schema, .string t.name, .string t.owner, .slice A t.cols.length cap, .slice A2 t.rules.length cap2] 34)).alloc (.cells #[.string ⟨#[]⟩, .string ⟨#[]⟩, .string ⟨#[]⟩, .slice none 0 0, .slice none 0 0] 34) := ⟨_, rfl⟩
  have aW : Aft w W := by rw [hW]; exact ((Aft.refl w).alloc _).alloc _
  have r1 : RowAt W w.heap.size [.string t.schema, .string t.name, .string t.owner, .slice A t.cols.length cap, .slice A2 t.rules.length cap2] := by rw [hW]; exact (box_row2 (Aft.refl _)).aft ((Aft.refl _).alloc _)
  have r2 : RowAt W (w.heap.size + 1) [.string ⟨#[]⟩, .string ⟨#[]⟩, .string ⟨#[]⟩, .slice none 0 0, .slice none 0 0] := by
    rw [hW]
    have := (box_row2 (w := w.alloc (.cells #[.string t.schema, .string t.name, .string t.owner, .slice A t.cols.length cap, .slice A2 t.rules.length cap2] 34)) (c := [.string ⟨#[]⟩, .string ⟨#[]⟩, .string ⟨#[]⟩, .slice none 0 0, .slice none 0 0]) (t := 34) (Aft.refl _))
    simpa using this
  have zW : w.heap.size + 2 = W.heap.size := by rw [hW]; simp
  have HC := Lib.hid (sl_cells h (by decide) (fun _ _ h => h.1) aW)
  have HN := Lib.hid (sl_none h)
  have HM := Lib.hid hm
  have HT := Lib.hid h2
  have HR1 := Lib.hid r1
  have HR2 := Lib.hid r2
  have HAW := Lib.hid aW
  have hq4 : t.cols.length ≤ maxLen := by unfold maxLen; omega
  have hq5 : t.cols.length * 32 ≤ 140737488355328 := by have := hm.1; omega
  clear h h2 hm r1 r2 aW
  go_enter Try.func72, Try.ntmps72
  go_wp2_with (at_builtin; go_must (refine wpList_append_new _ rfl _ _ 31 rfl 40 i1 _ 3 32 Try.underlying31 JI.out JZ0.out JZ1.out JZ2.out rfl (by decide) rfl A t.cols.length cap (t.cols.flatMap colC) rfl (colC_len _) HN.out ?qc (oneC_cells oneC_col _) hq4 hq5 ?_); rotate_left; intro Ac cc w1 own1 a1)
  case qc => rw [← hW]; exact HC.out
  have a1 : Aft W w1 := by rw [hW]; exact a1
  have own1 : w1.ownsRow W.heap.size 40 3 (Hd.mk Ac t.cols.length cc).v t.cols.length (t.cols.flatMap colC) := by rw [hW]; exact own1
  have HS0 := Lib.hid (show RCopyS w w1 t A cap A2 cap2 ⟨Ac, t.cols.length, cc⟩ ⟨none, 0, 0⟩ [] 0 from
    ⟨HAW.out.trans a1, HR1.out.aft a1, HR2.out.aft a1, own_down own1 (by omega), own_nil _ _ _ _, rfl, rfl, fun x hx => by simp at hx, by simpa [blk_nil] using blk_nodup _⟩)
  clear hW own1 a1 HC HN zW HR1 HR2 HAW hq4 hq5 JI JZ0 JZ1 JZ2
  go_loopw [4, 5] (fun l i wr => ∃ (k : Nat) (Ar : Option Addr) (cr : Nat) (L : List ORul), k ≤ t.rules.length ∧ i = .int .i64 k ∧ l = .slice Ar k cr ∧ RCopyS w wr t A cap A2 cap2 ⟨Ac, t.cols.length, cc⟩ ⟨Ar, k, cr⟩ L k) (fun _ i _ => t.rules.length - (intOf i).toNat)
  case atStart => exact ⟨0, none, 0, [], Nat.zero_le _, rfl, rfl, HS0.out⟩
  case round =>
    clear HS0
    obtain ⟨k, Ar, cr, L, hk, rfl, rfl, hs⟩ := hrel
    have HS := Lib.hid hs
    have bz := hs.box.1
    have b4 := hs.box.cell (j := 4) rfl
    by_cases hlt : k < t.rules.length
    · obtain ⟨b, off, D, capD, rfl, hb, c0, c1, c2, c3, c4, c5, c6, c7, hcs, hss⟩ := rul_at (ruls_aft hs.aft HT.out) hlt
      obtain ⟨p, hpp⟩ : ∃ p, t.rules[k] = p := ⟨_, rfl⟩
      rw [hpp] at c0 c1 c2 c3 c4 c5 c6 c7 hcs
      have HPP := Lib.hid hpp
      have hpl := hcs.len
      have hp6 : p.cols.length ≤ 1000000 := HM.out.2.2 p (by rw [← hpp]; exact List.getElem_mem hlt)
      have hq1 : p.cols.length ≤ maxLen := by unfold maxLen; omega
      have hq2 : p.cols.length * 16 ≤ 140737488355328 := by omega
      have hq3 : k + 1 ≤ maxLen := by unfold maxLen; omega
      have hq4 : (k + 1) * 112 ≤ 140737488355328 := by have := HM.out.2.1; omega
      obtain ⟨V, hV⟩ : ∃ V, V = wr.alloc (.cells #[.string p.name, .int .i64 p.kind, .slice D p.cols.length capD, .int .i64 p.low, .int .i64 p.high, .string p.schema, .string p.table, .string p.key] 66) := ⟨_, rfl⟩
      have aV : Aft wr V := by rw [hV]; exact (Aft.refl _).alloc _
      have rV : RowAt V wr.heap.size [.string p.name, .int .i64 p.kind, .slice D p.cols.length capD, .int .i64 p.low, .int .i64 p.high, .string p.schema, .string p.table, .string p.key] := by rw [hV]; exact box_row2 (Aft.refl _)
      have zV : V.heap.size = wr.heap.size + 1 := by rw [hV]; simp
      have HC := Lib.hid (sl_cells hcs (by decide) (fun _ _ h => h.1) aV)
      have HN := Lib.hid (sl_none hcs)
      have HAV := Lib.hid aV
      have HRV := Lib.hid rV
      have HZV := Lib.hid zV
      have HOWN := Lib.hid (show wr.ownsRow (w.heap.size + 2) 66 8 (.slice Ar k cr) k (L.flatMap ORul.cells) from hs.rul)
      have HLT := Lib.hid (show w.heap.size + 2 ≤ wr.heap.size from hs.out.1)
      have l3 : wr.heap.size < wr.heap.size + 1 := by omega
      have l4 : w.heap.size < wr.heap.size + 1 := by omega
      clear hs hpp hcs aV rV zV hss
      have HAS := Lib.hid (show ∀ (w2 : World) (v : Value), Aft V w2 → RowAt w2 wr.heap.size [.string p.name, .int .i64 p.kind, .slice D p.cols.length capD, .int .i64 p.low, .int .i64 p.high, .string p.schema, .string p.table, .string p.key] ∧ Aft wr (w2.setCell ⟨wr.heap.size, 2, none⟩ v) from
        fun w2 v a => ⟨HRV.out.aft a, (HAV.out.trans a).setCell _ _ (Nat.le_refl _)⟩)
      go_wp2_with (first
        | (at_builtin; have _t := HN.out; go_must (refine wpList_append_new _ rfl _ _ 64 rfl 9 i2 _ 1 16 Try.underlying64 KI.out KZ0.out KZ1.out KZ2.out rfl (by decide) rfl D p.cols.length capD (p.cols.flatMap nameC) rfl (nameC_len _) HN.out ?qc2 (oneC_cells oneC_name _) hq1 hq2 ?_); rotate_left; intro Dn cn w2 own2 a2; have a2 : Aft V w2 := (by rw [hV]; exact a2); have r2 := (HAS.out w2 (.slice Dn p.cols.length cn) a2).1; have x0 := r2.cell (j := 0) rfl; have x1 := r2.cell (j := 1) rfl; have x2 := r2.cell (j := 2) rfl; have x3 := r2.cell (j := 3) rfl; have x4 := r2.cell (j := 4) rfl; have x5 := r2.cell (j := 5) rfl; have x6 := r2.cell (j := 6) rfl; have x7 := r2.cell (j := 7) rfl; have y2 := r2.2.2 2 (by simp); have z2 := r2.1; have HA2 := Lib.hid a2; have HO2 := Lib.hid own2; clear r2 a2 own2 HN _t)
        | (at_builtin; go_must (refine wpList_append_lies _ rfl _ _ 32 rfl (w.heap.size + 2) 66 i0 _ 8 112 Try.underlying32 HI.out HZ0.out HZ1.out HZ2.out rfl (by decide) (.slice Ar k cr) k (L.flatMap ORul.cells) rfl ((own_aft HOWN.out (HAS.out w2 _ HA2.out).2).alloc _) ⟨w2.heap.size, 0, none⟩ 1 1 [.string p.name, .int .i64 p.kind, .slice Dn p.cols.length cn, .int .i64 p.low, .int .i64 p.high, .string p.schema, .string p.table, .string p.key] rfl rfl ?qn (by simp [Value.oneCell']) (by omega) hq3 hq4 ?qb (w2.heap.size + 1) (by simp) ?_); rotate_left 2; intro gg cap' w5 hown5 hgrow hat hgl))
      case qc2 => rw [← hV]; exact HC.out
      case qn => exact World.news_of_block (cs := #[.string p.name, .int .i64 p.kind, .slice Dn p.cols.length cn, .int .i64 p.low, .int .i64 p.high, .string p.schema, .string p.table, .string p.key]) (t := 66) (fr := (0, 0)) (by have := heap_alloc_new (w2.setCell ⟨wr.heap.size, 2, none⟩ (.slice Dn p.cols.length cn)) (.cells #[.string p.name, .int .i64 p.kind, .slice Dn p.cols.length cn, .int .i64 p.low, .int .i64 p.high, .string p.schema, .string p.table, .string p.key] 66); simpa using this)
      case qb => simp; have := HLT.out; omega
      have own4 : w2.ownsRow (wr.heap.size + 1) 9 1 (Hd.mk Dn p.cols.length cn).v p.cols.length (p.cols.flatMap nameC) := own_down HO2.out (by simp)
      have own5 := (own_kb own4 (Kb.set w2 wr.heap.size 2 (.slice Dn p.cols.length cn)) (fun g hg e => by have := (own4.lt g hg).1; omega)).alloc (.cells #[.string p.name, .int .i64 p.kind, .slice Dn p.cols.length cn, .int .i64 p.low, .int .i64 p.high, .string p.schema, .string p.table, .string p.key] 66)
      have HREL := Lib.hid (HS.out.step (h4 := ⟨Dn, p.cols.length, cn⟩) (hr' := ⟨some ⟨gg, 0, none⟩, k + 1, cap'⟩) hlt ((HAS.out w2 _ HA2.out).2.alloc _) (by rw [HPP.out]; exact own_down own5 (by omega)) hgrow (by rw [HPP.out]; exact hown5)
        (fun g hg => by
          rw [blk_some, List.mem_singleton] at hg
          subst hg
          rcases hat with h1 | h1
          · exact .inl (Hd.mem_blk.2 h1)
          · refine .inr ?_
            simp
            omega))
      rw [HPP.out] at HREL
      clear own4 own5 hgrow hat hgl hown5 HO2 HA2 x0 x1 x2 x3 x4 x5 x6 x7 y2 z2
      go_wp2_with fail
      go_roundw
      case rel => exact ⟨k + 1, _, _, _, by omega, by go_num, rfl, HREL.out⟩
      case measure => simp [intOf]; omega
    · have c0 := hs.box.cell (j := 0) rfl
      have c1 := hs.box.cell (j := 1) rfl
      have c2 := hs.box.cell (j := 2) rfl
      have c3 := hs.box.cell (j := 3) rfl
      have g3 := hs.box.2.2 3 (by simp)
      have g4 := hs.box.2.2 4 (by simp)
      have d0 := hs.out.cell (j := 0) rfl
      have d1 := hs.out.cell (j := 1) rfl
      have d2 := hs.out.cell (j := 2) rfl
      have d3 := hs.out.cell (j := 3) rfl
      have d4 := hs.out.cell (j := 4) rfl
      have e0 := hs.out.2.2 0 (by simp)
      have e1 := hs.out.2.2 1 (by simp)
      have e2 := hs.out.2.2 2 (by simp)
      have e3 := hs.out.2.2 3 (by simp)
      have e4 := hs.out.2.2 4 (by simp)
      have dz := hs.out.1
      clear hs
      go_wp2_with fail
      have hs := HS.out
      obtain ⟨G, hG⟩ : ∃ G, G = (wr.setCell ⟨w.heap.size, 3, none⟩ (.slice Ac t.cols.length cc)).setCell ⟨w.heap.size, 4, none⟩ (.slice Ar k cr) := ⟨_, rfl⟩
      have kG : Kb (fun x => x = w.heap.size) wr G := by rw [hG]; exact (Kb.set _ _ _ _).trans (Kb.set _ _ _ _)
      have rG : RowAt G w.heap.size [.string t.schema, .string t.name, .string t.owner, .slice Ac t.cols.length cc, .slice Ar k cr] := by rw [hG]; exact (hs.box.set 3 _ (by simp)).set 4 _ (by simp)
      have oG := kG.row hs.out (by omega)
      rw [← hG]
      have HG := Lib.hid hG
      have HKG := Lib.hid kG
      have HOG := Lib.hid oG
      have rl : Sem.run Try.prog (lvTab ⟨w.heap.size, 0, none⟩) G = .ok (.agg #[.string t.schema, .string t.name, .string t.owner, .slice Ac t.cols.length cc, .slice Ar k cr]) G := lvTab_row rG
      rw [rl]
      clear rl hG d0 d1 d2 d3 d4 e0 e1 e2 e3 e4 dz c0 c1 c2 c3 g3 g4 hs kG rG
      have d0 := oG.cell (j := 0) rfl
      have d1 := oG.cell (j := 1) rfl
      have d2 := oG.cell (j := 2) rfl
      have d3 := oG.cell (j := 3) rfl
      have d4 := oG.cell (j := 4) rfl
      have e0 := oG.2.2 0 (by simp)
      have e1 := oG.2.2 1 (by simp)
      have e2 := oG.2.2 2 (by simp)
      have e3 := oG.2.2 3 (by simp)
      have e4 := oG.2.2 4 (by simp)
      have dz := oG.1
      clear oG
      simp only [Result.andThen]
      rw [Oper.upon_value]
      go_wp2_with fail
      (try simp only [Exit.inBlock, Exit.then])
      have hs := HS.out
      have kG := HKG.out
      obtain ⟨F, hF⟩ : ∃ F, F = ((((G.setCell ⟨w.heap.size + 1, 0, none⟩ (.string t.schema)).setCell ⟨w.heap.size + 1, 1, none⟩ (.string t.name)).setCell ⟨w.heap.size + 1, 2, none⟩ (.string t.owner)).setCell ⟨w.heap.size + 1, 3, none⟩ (.slice Ac t.cols.length cc)).setCell ⟨w.heap.size + 1, 4, none⟩ (.slice Ar k cr) := ⟨_, rfl⟩
      have kF : Kb (fun x => x = w.heap.size + 1) G F := by
        rw [hF]
        exact ((((Kb.set _ _ _ _).trans (Kb.set _ _ _ _)).trans (Kb.set _ _ _ _)).trans (Kb.set _ _ _ _)).trans (Kb.set _ _ _ _)
      have rF : RowAt F (w.heap.size + 1) [.string t.schema, .string t.name, .string t.owner, .slice Ac t.cols.length cc, .slice Ar k cr] := by
        rw [hF]
        exact ((((HOG.out.set 0 _ (by simp)).set 1 _ (by simp)).set 2 _ (by simp)).set 3 _ (by simp)).set 4 _ (by simp)
      rw [← hF]
      refine bodyPost_ret (results_cell (v := .agg #[.string t.schema, .string t.name, .string t.owner, .slice Ac t.cols.length cc, .slice Ar k cr]) rfl _ rfl ?hl) rfl ?_
      case hl => exact lvTab_row rF
      have hkn : k = t.rules.length := by omega
      subst hkn
      have his := hs.is
      rw [List.take_of_length_le (Nat.le_refl _)] at his
      have hlen' : L.length = t.rules.length := hs.len
      have hlt' := hs.lt
      have kk : Kb (fun x => x = w.heap.size ∨ x = w.heap.size + 1) wr F := (kG.mono fun _ _ h => .inl h).trans (kF.mono fun _ _ h => .inr h)
      refine ⟨⟨t.schema, t.name, t.owner, t.cols, L, ⟨Ac, t.cols.length, cc⟩, ⟨Ar, t.rules.length, cr⟩⟩, by unfold OTab.t; rw [his], rfl, kk.to_aft hs.aft (fun x hx e => by omega), ?_, hs.nd⟩
      refine TabIn.down (TabIn.kb (w := wr) (B := w.heap.size + 2) ⟨hs.col, by show wr.ownsRow _ _ 8 _ L.length _; rw [hlen']; exact hs.rul, hs.each⟩ kk fun g hg e => ?_) (by omega)
      have := hlt' g hg
      omega
end Go.Proofs.Ytodifdofgjfkiaa
/- The document's Own: objects in memory of their own. -/
namespace Go.Proofs.Ytodifdofgjfkiaa
open Go.RowKit Go.Deep
set_option maxRecDepth 100000
set_option linter.unusedVariables false
theorem OwnS.row0 {w wr w4 w5 : World} {o : Objs} {n3 : Nat} {hs ht : Hd} {L : List OTab} {k : Nat} (s : OwnS w wr o n3 hs ht L k) (a4 : Aft wr w4) (hg : w4.grownBy w5 ht.v.ownBlock) (v : Value) {xs : List Value} (hr : RowAt wr w.heap.size xs) : RowAt (w5.setCell ⟨n3, 1, none⟩ v) w.heap.size xs := by
  have k5 : Kb (fun g => g = n3) w5 (w5.setCell ⟨n3, 1, none⟩ v) := Kb.set _ _ _ _
  have kg : Kb (fun g => ht.v.ownBlock = some g) w4 w5 := Kb.of_grown hg
  have hn3 := s.n3
  exact k5.row (kg.row (hr.aft a4) (fun h1 => by have := (s.obj.tab.lt _ h1).1; omega)) (by omega)
set_option maxHeartbeats 8000000 in
theorem rOwn_in (o : Objs) (As : Option Addr) (caps : Nat) (At : Option Addr) (capt : Nat) (w : World) (hsch : SlAt w 2 SchR As caps o.schemas) (htab : SlAt w 5 TabR At capt o.tables) (hm : ModO o) :
    Calls Try.prog 19 #[.agg #[.slice As o.schemas.length caps, .slice At o.tables.length capt]] w (OwnO w o) := by
  obtain ⟨i0, hi, hz0, hz1, hz2⟩ := info_parts info2Tab
  have HI := Lib.hid hi
  have HZ0 := Lib.hid hz0
  have HZ1 := Lib.hid hz1
  have HZ2 := Lib.hid hz2
  clear hi hz0 hz1 hz2
  obtain ⟨i1, hi, hz0, hz1, hz2⟩ := info_parts info2Sch2
  have JI := Lib.hid hi
  have JZ0 := Lib.hid hz0
  have JZ1 := Lib.hid hz1
  have JZ2 := Lib.hid hz2
  clear hi hz0 hz1 hz2
  have hlen := hsch.len
  have hlen2 := htab.len
  have l1 : w.heap.size < w.heap.size + 1 := by omega
  have l2 : w.heap.size < w.heap.size + 1 + 1 := by omega
  have l3 : w.heap.size < w.heap.size + 1 + 1 + 1 := by omega
  obtain ⟨W, hW⟩ : ∃ W, W = ((w.alloc (.cells #[.slice As o.schemas.length caps, .slice At o.tables.length capt] 25)).alloc (.cells #[.slice none 0 0, .slice none 0 0] 25)).alloc (.cells #[.slice none 0 0, .slice none 0 0] 25) := ⟨_, rfl⟩
  have aW : Aft w W := by rw [hW]; exact (((Aft.refl w).alloc _).alloc _).alloc _
  have r1 : RowAt W w.heap.size [.slice As o.schemas.length caps, .slice At o.tables.length capt] := by rw [hW]; exact (box_row2 (Aft.refl _)).aft (((Aft.refl _).alloc _).alloc _)
  have r2 : RowAt W (w.heap.size + 1) [.slice none 0 0, .slice none 0 0] := by
    rw [hW]
    have := (box_row2 (w := w.alloc (.cells #[.slice As o.schemas.length caps, .slice At o.tables.length capt] 25)) (c := [.slice none 0 0, .slice none 0 0]) (t := 25) (Aft.refl _)).aft ((Aft.refl _).alloc (.cells #[.slice none 0 0, .slice none 0 0] 25))
    simpa using this
  have r3 : RowAt W (w.heap.size + 2) [.slice none 0 0, .slice none 0 0] := by
    rw [hW]
    have := (box_row2 (w := (w.alloc (.cells #[.slice As o.schemas.length caps, .slice At o.tables.length capt] 25)).alloc (.cells #[.slice none 0 0, .slice none 0 0] 25)) (c := [.slice none 0 0, .slice none 0 0]) (t := 25) (Aft.refl _))
    simpa using this
  have zW : W.heap.size = w.heap.size + 3 := by rw [hW]; simp
  have HC := Lib.hid (sl_cells hsch (by decide) (fun _ _ h => h.1) aW)
  have HN := Lib.hid (sl_none hsch)
  have HM := Lib.hid hm
  have HT := Lib.hid htab
  have HR1 := Lib.hid r1
  have HR2 := Lib.hid r2
  have HR3 := Lib.hid r3
  have HAW := Lib.hid aW
  have hq4 : o.schemas.length ≤ maxLen := by unfold maxLen; omega
  have hq5 : o.schemas.length * 32 ≤ 140737488355328 := by have := hm.1; omega
  clear hsch htab hm r1 r2 r3 aW
  go_enter Try.func19, Try.ntmps19
  go_wp2_with (at_builtin; go_must (refine wpList_append_new _ rfl _ _ 22 rfl 84 i1 _ 2 32 Try.underlying22 JI.out JZ0.out JZ1.out JZ2.out rfl (by decide) rfl As o.schemas.length caps (o.schemas.flatMap schC) rfl (schC_len _) HN.out ?qc (oneC_cells oneC_sch _) hq4 hq5 ?_); rotate_left; intro Ac cc w1 own1 a1; have a1 : Aft W w1 := (by rw [hW]; exact a1); have b3 := (HR3.out.aft a1).cell (j := 0) rfl; have f3 := (HR3.out.aft a1).2.2 0 (by simp); have z3 := (HR3.out.aft a1).1)
  case qc => rw [← hW]; exact HC.out
  have own1 : w1.ownsRow W.heap.size 84 2 (Hd.mk Ac o.schemas.length cc).v o.schemas.length (o.schemas.flatMap schC) := by rw [hW]; exact own1
  obtain ⟨n3, hn3⟩ : ∃ n, n = w.heap.size + 2 := ⟨_, rfl⟩
  obtain ⟨W1, hW1⟩ : ∃ W1, W1 = w1.setCell ⟨w.heap.size + 1 + 1, 0, none⟩ (.slice Ac o.schemas.length cc) := ⟨_, rfl⟩
  have kW1 : Kb (fun g => g = n3) w1 W1 := by rw [hW1, hn3]; exact Kb.set _ _ _ _
  have HS0 := Lib.hid (show OwnS w W1 o n3 ⟨Ac, o.schemas.length, cc⟩ ⟨none, 0, 0⟩ [] 0 ∧ RowAt W1 w.heap.size [.slice As o.schemas.length caps, .slice At o.tables.length capt] from by
    have hge : ∀ g ∈ (Hd.mk Ac o.schemas.length cc).blk, w.heap.size + 3 ≤ g := fun g hg => by have := (blk_lt own1 g hg).1; omega
    refine ⟨⟨kW1.to_aft (HAW.out.trans a1) (fun x hx e => by omega), kW1.row (HR2.out.aft a1) (by omega), ?_, ⟨own_kb (own_down own1 (by omega)) kW1 (fun g hg e => by have := hge g (Hd.mem_blk.2 hg); omega), own_nil _ _ _ _, fun x hx => by simp at hx, by simpa [blk_nil] using blk_nodup _⟩, fun g hg => ?_, rfl, by omega, rfl⟩, kW1.row (HR1.out.aft a1) (by omega)⟩
    · rw [hW1, hn3]; exact (HR3.out.aft a1).set 0 _ (by simp)
    · have hg' : g ∈ (Hd.mk Ac o.schemas.length cc).blk := by simpa [blk_nil] using hg
      have := hge g hg'
      omega)
  rw [← hW1]
  have e3 : w.heap.size + 1 + 1 = n3 := by omega
  rw [e3]
  clear hW own1 a1 HC HN zW HR1 HR2 HR3 HAW hq4 hq5 JI JZ0 JZ1 JZ2 hW1 kW1 b3 f3 z3 hn3 e3 l2 l3
  go_loopw [4] (fun i wr => ∃ (k : Nat) (ht : Hd) (L : List OTab), k ≤ o.tables.length ∧ i = .int .i64 k ∧ OwnS w wr o n3 ⟨Ac, o.schemas.length, cc⟩ ht L k ∧ RowAt wr w.heap.size [.slice As o.schemas.length caps, .slice At o.tables.length capt]) (fun i _ => o.tables.length - (intOf i).toNat)
  case atStart => exact ⟨0, _, [], Nat.zero_le _, rfl, HS0.out⟩
  case round =>
    clear HS0
    obtain ⟨k, ht, L, hk, rfl, hs, hbx⟩ := hrel
    have HBX := Lib.hid hbx
    have v1 := hbx.cell (j := 1) rfl
    have v2 := hbx.1
    clear hbx
    have HS := Lib.hid hs
    have z3 := hs.box.1
    have k1 := hs.box.cell (j := 1) rfl
    have f1 := hs.box.2.2 1 (by simp)
    by_cases hlt : k < o.tables.length
    · obtain ⟨b, off, A2, cap2, A3, cap3, rfl, hb, t0, t1, t2, t3, t4, hcols, hruls, hss⟩ := tab_at HT.out hlt
      obtain ⟨p, hpp⟩ : ∃ p, o.tables[k] = p := ⟨_, rfl⟩
      rw [hpp] at t0 t1 t2 t3 t4 hcols hruls hss
      have HPP := Lib.hid hpp
      have C := Lib.hid (show ∀ w', Aft wr w' → _ from fun w' a => rCopy_in p A2 cap2 A3 cap3 w' (cols_aft (hs.aft.trans a) hcols) (ruls_aft (hs.aft.trans a) hruls) (by have := HM.out.2.2 p (by rw [← hpp]; exact List.getElem_mem hlt); exact this))
      have hzr : w.heap.size + 2 ≤ wr.heap.size := by have := hs.n3; omega
      obtain ⟨At', nt, ct⟩ := ht
      have htab := hs.obj.tab
      rw [hs.len] at htab
      have hnt : nt = k := own_n htab
      subst hnt
      have hown : wr.ownsRow (w.heap.size + 2) 34 5 (.slice At' nt ct) nt (L.flatMap OTab.cells) := htab
      have HOWN := Lib.hid hown
      have hneb : (Value.slice At' nt ct).ownBlock ≠ some n3 := fun e => hs.ne n3 (by simp only [List.mem_append]; exact .inr (.inl (Hd.mem_blk.2 e))) rfl
      have HB := Lib.hid hs.box
      have KF := Lib.hid (show ∀ w', Kb (fun g => (Value.slice At' nt ct).ownBlock = some g) wr w' → (w'.cell? ⟨n3, 1, none⟩ = some (.slice At' nt ct) ∧ w'.cell? ⟨w.heap.size, 1, none⟩ = some (.slice (some ⟨b, off, none⟩) o.tables.length capt) ∧ w'.cell? ⟨b, off + nt * 5, none⟩ = some (.string p.schema) ∧ w'.cell? ⟨b, off + nt * 5 + 1, none⟩ = some (.string p.name) ∧ w'.cell? ⟨b, off + nt * 5 + 2, none⟩ = some (.string p.owner) ∧ w'.cell? ⟨b, off + nt * 5 + 3, none⟩ = some (.slice A2 p.cols.length cap2) ∧ w'.cell? ⟨b, off + nt * 5 + 4, none⟩ = some (.slice A3 p.rules.length cap3) ∧ w'.frozen? ⟨n3, 1, none⟩ = false ∧ n3 < w'.heap.size) from fun w' kb => by
        have hne2 : ¬ (Value.slice At' nt ct).ownBlock = some b := fun e => by have := (HOWN.out.lt _ e).1; omega
        have hne3 : ¬ (Value.slice At' nt ct).ownBlock = some w.heap.size := fun e => by have := (HOWN.out.lt _ e).1; omega
        have r3 := kb.row HB.out hneb
        exact ⟨kb.cell k1 hneb, kb.cell v1 hne3, kb.cell (hs.aft.cell_kept t0) hne2, kb.cell (hs.aft.cell_kept t1) hne2, kb.cell (hs.aft.cell_kept t2) hne2, kb.cell (hs.aft.cell_kept t3) hne2, kb.cell (hs.aft.cell_kept t4) hne2, r3.2.2 1 (by simp), r3.1⟩)
      have h63 : nt + 1 ≤ maxLen := by unfold maxLen; omega
      have hby : (nt + 1) * 96 ≤ 140737488355328 := by have := HM.out.2.1; omega
      have hb0 : (0 : Int) ≤ (nt : Int) := by omega
      have hb1 : (nt : Int) < (o.tables.length : Int) := by omega
      clear hs htab hown hpp hcols hruls hneb t0 t1 t2 t3 t4
      go_wp2_with fail
      obtain ⟨q1, q2, q3, q4, q5, q6, q7, q8, q9⟩ := KF.out _ (Kb.refl _ _)
      go_region_law ((first | (go_simp; go_at_call 72; refine (C.out _ (Aft.refl _).drew).mono ?_; rintro e w4 ⟨x, hxt, rfl, a4, tin, xnd⟩; have a5 : Aft wr w4 := (Aft.refl _).drew.trans a4; obtain ⟨p1, p2, p3, p4, p5, p6, p7, p8, p9⟩ := KF.out w4 (Kb.of_aft a5); dsimp only) | (refine step_append_lies _ (by rfl) _ _ _ (by rfl) (w.heap.size + 2) 34 i0 _ 5 96 Try.underlying23 HI.out HZ0.out HZ1.out HZ2.out rfl (by omega) (.slice At' nt ct) nt (L.flatMap OTab.cells) (by rfl) ((own_aft HOWN.out a5).alloc _) ⟨w4.heap.size, 0, none⟩ 1 1 [.string p.schema, .string p.name, .string p.owner, .slice x.hc.a p.cols.length x.hc.c, .slice x.hr.a p.rules.length x.hr.c] (by rfl) (by rfl) (World.news_of_block (cs := #[.string p.schema, .string p.name, .string p.owner, .slice x.hc.a p.cols.length x.hc.c, .slice x.hr.a p.rules.length x.hr.c]) (t := 34) (fr := (0, 0)) (heap_alloc_new w4 _)) (by simp [Value.oneCell']) (by omega) h63 hby (by simp; have := a5.size; omega) (w4.heap.size + 1) (by simp) ?_; intro gg cap' w5 hown5 hgrow hat hgl; obtain ⟨s1, s2, s3, s4, s5, s6, s7, s8, s9⟩ := KF.out _ ((Kb.of_aft (a5.alloc _)).trans (Kb.of_grown hgrow)))))
      all_goals
        have HREL0 := Lib.hid (HS.out.row0 (a5.alloc _) hgrow (.slice (some ⟨gg, 0, none⟩) (nt + 1) cap') HBX.out)
        have HREL := Lib.hid (HS.out.step (ht' := ⟨some ⟨gg, 0, none⟩, nt + 1, cap'⟩) (x := x) hlt (by rw [hxt, HPP.out]) (a5.alloc _) (tin.aft ((Aft.refl _).alloc _)) xnd hgrow (by rw [OTab.cells_of tin hxt]; exact hown5)
          (fun g hg => by
            rw [blk_some, List.mem_singleton] at hg
            subst hg
            rcases hat with h1 | h1
            · exact .inl (Hd.mem_blk.2 h1)
            · refine .inr ?_
              simp
              omega)
          (fun g hg hx => by
            rw [blk_some, List.mem_singleton] at hg
            subst hg
            have h2 := tin.lt _ hx
            have h4 : wr.heap.size ≤ g := h2.1
            rcases hat with h1 | h1
            · have := (HOWN.out.lt _ h1).2
              omega
            · omega))
        clear tin xnd hown5 hgrow hat hgl a5 a4 hxt q1 q2 q3 q4 q5 q6 q7 q8 q9 p1 p2 p3 p4 p5 p6 p7 p8 p9 s1 s2 s3 s4 s5 s6 s7 s8 s9
        go_wp2_with fail
        go_roundw
        case rel => exact ⟨nt + 1, _, _, by omega, by go_num, HREL.out, HREL0.out⟩
        case measure => simp [intOf]; omega
    · have c0 := hs.box.cell (j := 0) rfl
      have d0 := hs.out.cell (j := 0) rfl
      have d1 := hs.out.cell (j := 1) rfl
      have e0 := hs.out.2.2 0 (by simp)
      have e1 := hs.out.2.2 1 (by simp)
      have dz := hs.out.1
      clear hs
      go_wp2_with fail
      (try simp only [Exit.inBlock, Exit.then])
      have hs := HS.out
      obtain ⟨F, hF⟩ : ∃ F, F = (wr.setCell ⟨w.heap.size + 1, 0, none⟩ (.slice Ac o.schemas.length cc)).setCell ⟨w.heap.size + 1, 1, none⟩ (.slice ht.a k ht.c) := ⟨_, rfl⟩
      have kF : Kb (fun x => x = w.heap.size + 1) wr F := by
        rw [hF]
        exact (Kb.set _ _ _ _).trans (Kb.set _ _ _ _)
      have rF : RowAt F (w.heap.size + 1) [.slice Ac o.schemas.length cc, .slice ht.a k ht.c] := by
        rw [hF]
        exact (hs.out.set 0 _ (by simp)).set 1 _ (by simp)
      rw [← hF]
      refine bodyPost_ret (results_cell (v := .agg #[.slice Ac o.schemas.length cc, .slice ht.a k ht.c]) rfl _ rfl ?hl) rfl ?_
      case hl => exact lvObj_row rF
      have hkn : k = o.tables.length := by omega
      subst hkn
      have his := hs.is
      rw [List.take_of_length_le (Nat.le_refl _)] at his
      refine ⟨⟨Ac, o.schemas.length, cc⟩, ht, L, his, rfl, kF.to_aft hs.aft (fun x hx e => by omega), ?_⟩
      refine ObjIn.down (hs.obj.kb kF fun g hg e => ?_) (by omega)
      have := (hs.obj.lt g hg).1
      omega
end Go.Proofs.Ytodifdofgjfkiaa
