/- Contracts of the program, part 14. -/
import Derived.Test.YticjnndhpfdajaaGreatPart13
import Derived.Test.YticjnndhpfdajaaGreatPart9
import Derived.StillTailTactics
import Derived.Deep.DeepMust
/- objects.right, and the orders by name. -/
namespace Go.Proofs.YticjnndhpfdajaaGreat
open Go.RowKit
set_option maxRecDepth 100000
set_option linter.unusedVariables false
set_option maxHeartbeats 1000000 in
theorem right1_any (n1 : ByteArray) (k1 : Int) (A1 : Option Addr) (m1 c1 : Nat) (lo1 hi1 : Int) (s1 t1 y1 : ByteArray) (n2 : ByteArray) (k2 : Int) (A2 : Option Addr) (m2 c2 : Nat) (lo2 hi2 : Int) (s2 t2 y2 : ByteArray) (w : World) :
    Calls Tryz.prog 165 #[.agg #[.string n1, .int .i64 k1, .slice A1 m1 c1, .int .i64 lo1, .int .i64 hi1, .string s1, .string t1, .string y1], .agg #[.string n2, .int .i64 k2, .slice A2 m2 c2, .int .i64 lo2, .int .i64 hi2, .string s2, .string t2, .string y2]] w fun e w' => e = .returned (.int .i64 (cmpS n1 n2)) ∧ Aft w w' := by
  go_enter Tryz.func165, Tryz.ntmps165
  go_wp2_with fail
  refine (compare_any _ _ _).mono ?_
  rintro e w1 ⟨rfl, rfl⟩
  go_wp2_with fail
  go_ret
  exact ⟨rfl, ((Aft.refl w).alloc _).alloc _⟩
set_option maxHeartbeats 1000000 in
theorem check1_any (n1 o1 n2 o2 : ByteArray) (w : World) :
    Calls Tryz.prog 104 #[.agg #[.string n1, .string o1], .agg #[.string n2, .string o2]] w fun e w' => e = .returned (.int .i64 (cmpS n1 n2)) ∧ Aft w w' := by
  go_enter Tryz.func104, Tryz.ntmps104
  go_wp2_with fail
  refine (compare_any _ _ _).mono ?_
  rintro e w1 ⟨rfl, rfl⟩
  go_wp2_with fail
  go_ret
  exact ⟨rfl, ((Aft.refl w).alloc _).alloc _⟩
theorem rulesRise (A : Option Addr) (cap : Nat) (l : List Rul) (w : World) (h : SlAt w 8 RulR A cap l) :
    Calls Tryz.prog 164 #[.slice A l.length cap, .func (.func 165) #[] #[]] w fun e w' => e = .returned (.bool (risesB (fun a b => cmpS a.name b.name) l)) ∧ Aft w w' :=
  risesRul A cap l 165 #[] (fun a b => cmpS a.name b.name) w h (enters (P := Tryz.prog) Tryz.func165 (by kernel_rfl) rfl) fun w' ha i hi e1 e2 h1 h2 => by
    obtain ⟨A1, c1, rfl, _⟩ := h1
    obtain ⟨A2, c2, rfl, _⟩ := h2
    exact right1_any _ _ _ _ _ _ _ _ _ _ _ _ _ _ _ _ _ _ _ _ w'
theorem schsRise (A : Option Addr) (cap : Nat) (l : List Sch) (w : World) (h : SlAt w 2 SchR A cap l) :
    Calls Tryz.prog 103 #[.slice A l.length cap, .func (.func 104) #[] #[]] w fun e w' => e = .returned (.bool (risesB (fun a b => cmpS a.name b.name) l)) ∧ Aft w w' :=
  risesSch A cap l 104 #[] (fun a b => cmpS a.name b.name) w h (enters (P := Tryz.prog) Tryz.func104 (by kernel_rfl) rfl) fun w' ha i hi => check1_any _ _ _ _ w'
theorem tabsRise (A : Option Addr) (cap : Nat) (l : List Tab) (w : World) (h : SlAt w 5 TabR A cap l) :
    Calls Tryz.prog 101 #[.slice A l.length cap, .func (.func 102) #[] #[]] w fun e w' => e = .returned (.bool (risesB (fun a b => or2 (cmpS a.schema b.schema) (cmpS a.name b.name)) l)) ∧ Aft w w' :=
  risesTab A cap l 102 #[] (fun a b => or2 (cmpS a.schema b.schema) (cmpS a.name b.name)) w h (enters (P := Tryz.prog) Tryz.func102 (by kernel_rfl) rfl) fun w' ha i hi e1 e2 h1 h2 => by
    obtain ⟨A1, c1, B1, d1, rfl, _⟩ := h1
    obtain ⟨A2, c2, B2, d2, rfl, _⟩ := h2
    exact order_any _ _ _ _ _ _ _ _ _ _ w'
set_option maxHeartbeats 8000000 in
theorem right_any (o : Objs) (t : Tab) (As : Option Addr) (caps : Nat) (At : Option Addr) (capt : Nat) (A : Option Addr) (cap : Nat) (A2 : Option Addr) (cap2 : Nat) (w : World) (hsch : SlAt w 2 SchR As caps o.schemas) (htab : SlAt w 5 TabR At capt o.tables)
    (h : SlAt w 3 ColR A cap t.cols) (h2 : SlAt w 8 RulR A2 cap2 t.rules) (hn : Small t.name.size) (ho : Small t.owner.size) :
    Calls Tryz.prog 105 #[.agg #[.slice As o.schemas.length caps, .slice At o.tables.length capt], .agg #[.string t.schema, .string t.name, .string t.owner, .slice A t.cols.length cap, .slice A2 t.rules.length cap2]] w
      fun e w' => e = .returned (.bool (rightT o t)) ∧ Aft w w' := by
  have hlen2 := h2.len
  cases hN : nameB t.name
  · have HF := Lib.hid (show rightT o t = false by simp [rightT, hN])
    go_enter Tryz.func105, Tryz.ntmps105
    go_wp2_with (go_at_call 87; refine (name_any _ _ (by first | exact hn.max | exact ho.max)).mono ?_; rintro e w' ⟨rfl, rfl⟩)
    go_ret
    exact ⟨by rw [HF.out]; rfl, ((Aft.refl _).alloc _).alloc _⟩
  cases hO : nameB t.owner
  · have HF := Lib.hid (show rightT o t = false by simp [rightT, hO])
    go_enter Tryz.func105, Tryz.ntmps105
    go_wp2_with (go_at_call 87; refine (name_any _ _ (by first | exact hn.max | exact ho.max)).mono ?_; rintro e w' ⟨rfl, rfl⟩)
    go_ret
    exact ⟨by rw [HF.out]; rfl, ((Aft.refl _).alloc _).alloc _⟩
  have HR0 := Lib.hid (show rightT o t = (colsOk t.cols && decide (t.rules.length ≤ 8) && decide (0 ≤ schAt o.schemas t.schema) && (t.rules.all (ruleOk o.tables t.cols) && risesB (fun a b => cmpS a.name b.name) t.rules)) by simp [rightT, hN, hO])
  obtain ⟨m, hm⟩ : ∃ m, colsOk t.cols = m := ⟨_, rfl⟩
  rw [hm] at HR0
  have Cm := Lib.hid (show ∀ w', Aft w w' → Calls Tryz.prog 110 #[.slice A t.cols.length cap] w' fun e w'' => e = .returned (.bool m) ∧ Aft w' w'' from
    fun w' a => (mayCols_any A cap t.cols w' (cols_aft a h)).mono fun e w'' ⟨he, hw⟩ => ⟨he.trans (by rw [← hm]), hw⟩)
  clear hm
  go_enter Tryz.func105, Tryz.ntmps105
  go_wp2_with (go_at_call 87; refine (name_any _ _ (by first | exact hn.max | exact ho.max)).mono ?_; rintro e w' ⟨rfl, rfl⟩)
  refine (Cm.out _ (((Aft.refl w).alloc _).alloc _)).mono ?_
  rintro e w1 ⟨rfl, a1⟩
  obtain ⟨hbo, hbt, hz, HA⟩ := aft_box2 a1
  have HAB := Lib.hid a1
  clear a1 Cm
  cases m
  · have HF := Lib.hid (show rightT o t = false by rw [HR0.out]; rfl)
    go_wp2_with fail
    go_ret
    exact ⟨by rw [HF.out]; rfl, HA.out⟩
  by_cases h8 : 8 < t.rules.length
  · have HF := Lib.hid (show rightT o t = false by rw [HR0.out, decide_eq_false (by omega)]; rfl)
    have h8' : (8 : Int) < (t.rules.length : Int) := by omega
    go_wp2_with fail
    go_ret
    exact ⟨by rw [HF.out]; rfl, HA.out⟩
  have h8' : (t.rules.length : Int) ≤ 8 := by omega
  have d8 : decide ((8 : Int) < (t.rules.length : Int)) = false := decide_eq_false (by omega)
  have HR1 := Lib.hid (show rightT o t = (decide (0 ≤ schAt o.schemas t.schema) && (t.rules.all (ruleOk o.tables t.cols) && risesB (fun a b => cmpS a.name b.name) t.rules)) by rw [HR0.out, decide_eq_true (show t.rules.length ≤ 8 by omega)]; rfl)
  clear HR0
  obtain ⟨i, hi⟩ : ∃ i, schAt o.schemas t.schema = i := ⟨_, rfl⟩
  rw [hi] at HR1
  have Cs := Lib.hid (show ∀ w', Aft w w' → Calls Tryz.prog 88 #[.slice As o.schemas.length caps, .string t.schema, .func (.func 89) #[] #[]] w' fun e w'' => e = .returned (.int .i64 i) ∧ Aft w' w'' from
    fun w' a => (bySch As caps o.schemas t.schema w' (schs_aft a hsch)).mono fun e w'' ⟨he, hw⟩ => ⟨he.trans (by rw [← hi]; rfl), hw⟩)
  clear hi
  go_wp2_with fail
  refine (Cs.out _ HA.out).mono ?_
  rintro e w2 ⟨rfl, a2⟩
  have HAB2 := Lib.hid (HAB.out.trans a2)
  clear a2 Cs HA HAB hbo hbt hz
  obtain ⟨hbo, hbt, hz, HA⟩ := aft_box2 HAB2.out
  by_cases hi0 : i < 0
  · have HF := Lib.hid (show rightT o t = false by rw [HR1.out, decide_eq_false (by omega)]; rfl)
    go_wp2_with fail
    go_ret
    exact ⟨by rw [HF.out]; rfl, HA.out⟩
  have hi1 : 0 ≤ i := by omega
  have HR2 := Lib.hid (show rightT o t = (t.rules.all (ruleOk o.tables t.cols) && risesB (fun a b => cmpS a.name b.name) t.rules) by rw [HR1.out, decide_eq_true hi1]; rfl)
  clear HR1
  go_wp2_with fail
  go_loopw [40] (fun i wr => ∃ k : Nat, k ≤ t.rules.length ∧ i = .int .i64 k ∧ Aft ((w.alloc (.cells #[.slice As o.schemas.length caps, .slice At o.tables.length capt] 25)).alloc (.cells #[.string t.schema, .string t.name, .string t.owner, .slice A t.cols.length cap, .slice A2 t.rules.length cap2] 50)) wr ∧ ∀ j, j < k → ∀ (hj : j < t.rules.length), ruleOk o.tables t.cols t.rules[j] = true) (fun i _ => t.rules.length - (intOf i).toNat)
  case atStart => exact ⟨0, Nat.zero_le _, rfl, HAB2.out, fun j hj => absurd hj (Nat.not_lt_zero j)⟩
  case round =>
    clear hbo hbt hz HA HAB2
    obtain ⟨k, hk, rfl, ha, hp⟩ := hrel
    obtain ⟨hbo, hbt, hz, HA⟩ := aft_box2 ha
    have HAB := Lib.hid ha
    have HP := Lib.hid hp; clear hp ha
    by_cases hlt : k < t.rules.length
    · have hr := ruls_aft HA.out h2
      obtain ⟨b, off, D2, capD2, rfl, hb, c0, c1, c2, c3, c4, c5, c6, c7, hcs, s0, s1, s2, s3⟩ := rul_at hr hlt
      obtain ⟨p, hpp⟩ : ∃ p, t.rules[k] = p := ⟨_, rfl⟩
      rw [hpp] at c0 c1 c2 c3 c4 c5 c6 c7 hcs s0 s1 s2 s3
      have HPP := Lib.hid hpp
      obtain ⟨f, hf⟩ : ∃ f, fitsOk t.cols p = f := ⟨_, rfl⟩
      obtain ⟨z, hz'⟩ : ∃ z, keyE o.tables t.cols p = z := ⟨_, rfl⟩
      have HO := Lib.hid (show ruleOk o.tables t.cols t.rules[k] = (f && !(p.kind == 4 && z != 0)) by rw [hpp]; unfold ruleOk; rw [hf, hz'])
      have Cf := Lib.hid (show ∀ w', Aft wr w' → Calls Tryz.prog 62 #[.slice A t.cols.length cap, .agg #[.string p.name, .int .i64 p.kind, .slice D2 p.cols.length capD2, .int .i64 p.low, .int .i64 p.high, .string p.schema, .string p.table, .string p.key]] w' fun e w'' => e = .returned (.bool f) ∧ Aft w' w'' from
        fun w' a => (fits_any A cap t.cols p D2 capD2 w' (cols_aft (HA.out.trans a) h) (strs_aft a hcs) s0 s1 s2 s3).mono fun e w'' ⟨he, hw⟩ => ⟨he.trans (by rw [← hf]), hw⟩)
      have Ck := Lib.hid (show ∀ w', Aft wr w' → Calls Tryz.prog 65 #[.agg #[.slice As o.schemas.length caps, .slice At o.tables.length capt], .slice A t.cols.length cap, .agg #[.string p.name, .int .i64 p.kind, .slice D2 p.cols.length capD2, .int .i64 p.low, .int .i64 p.high, .string p.schema, .string p.table, .string p.key]] w' fun e w'' => e = .returned (.int .i64 z) ∧ Aft w' w'' from
        fun w' a => (key_any _ At capt o.tables A cap t.cols p D2 capD2 w' (tabs_aft (HA.out.trans a) htab) (cols_aft (HA.out.trans a) h) (strs_aft a hcs)).mono fun e w'' ⟨he, hw⟩ => ⟨he.trans (by rw [← hz']), hw⟩)
      clear hf hz' hpp hr hcs HPP
      go_wp2_with fail
      refine (Cf.out _ ((Aft.refl wr).alloc _)).mono ?_
      rintro e w3 ⟨rfl, a3⟩
      obtain ⟨hbr, hfr, hzr, hzkr, HA3⟩ := aft_box a3
      have hbo3 : ∀ o', w3.cell? ⟨w.heap.size, o', none⟩ = _ := fun o' => (Below.cell HA3.out (p := ⟨w.heap.size, o', none⟩) hz.1).trans (hbo o')
      have hbt3 : ∀ o', w3.cell? ⟨w.heap.size + 1, o', none⟩ = _ := fun o' => (Below.cell HA3.out (p := ⟨w.heap.size + 1, o', none⟩) hz.2).trans (hbt o')
      have hz3 : w.heap.size < w3.heap.size ∧ w.heap.size + 1 < w3.heap.size := ⟨Nat.lt_of_lt_of_le hz.1 HA3.out.size, Nat.lt_of_lt_of_le hz.2 HA3.out.size⟩
      clear a3 Cf hbo hbt c0 c1 c2 c3 c4 c5 c6 c7
      cases f
      · have HF := Lib.hid (show rightT o t = false by rw [HR2.out, all_false _ _ k hlt (by rw [HO.out]; rfl)]; rfl)
        go_wp2_with fail
        go_ret
        exact ⟨by rw [HF.out]; rfl, HA.out.trans HA3.out⟩
      cases h4 : (p.kind == 4)
      · have HN := Lib.hid (ext_lt (p := fun j => ∀ (hj : j < t.rules.length), ruleOk o.tables t.cols t.rules[j] = true) HP.out (fun _ => by rw [HO.out, h4]; rfl))
        go_wp2_with fail
        go_roundw
        case rel => exact ⟨k + 1, by omega, by go_num, HAB.out.trans HA3.out, HN.out⟩
        case measure => simp [intOf]; omega
      · go_wp2_with fail
        refine (Ck.out _ HA3.out).mono ?_
        rintro e w4 ⟨rfl, a4⟩
        have HA4 := Lib.hid (HA3.out.trans a4)
        clear a4 Ck hbo3 hbt3 hbr
        cases z0 : (z != 0)
        · have HN := Lib.hid (ext_lt (p := fun j => ∀ (hj : j < t.rules.length), ruleOk o.tables t.cols t.rules[j] = true) HP.out (fun _ => by rw [HO.out, h4, z0]; rfl))
          go_wp2_with fail
          go_roundw
          case rel => exact ⟨k + 1, by omega, by go_num, HAB.out.trans HA4.out, HN.out⟩
          case measure => simp [intOf]; omega
        · have HF := Lib.hid (show rightT o t = false by rw [HR2.out, all_false _ _ k hlt (by rw [HO.out, h4, z0]; rfl)]; rfl)
          go_wp2_with fail
          go_ret
          exact ⟨by rw [HF.out]; rfl, HA.out.trans HA4.out⟩
    · have HF := Lib.hid (show rightT o t = risesB (fun a b => cmpS a.name b.name) t.rules by rw [HR2.out, all_true _ _ fun j hj => HP.out j (by omega) hj]; rfl)
      have Cr := Lib.hid (rulesRise A2 cap2 t.rules wr (ruls_aft HA.out h2))
      go_wp2_with fail
      refine Cr.out.mono ?_
      rintro e w3 ⟨rfl, a3⟩
      have HA3 := Lib.hid (HA.out.trans a3)
      clear a3
      go_wp2_with fail
      go_ret
      exact ⟨by rw [HF.out]; rfl, HA3.out⟩
end Go.Proofs.YticjnndhpfdajaaGreat
/- objects.Check. -/
namespace Go.Proofs.YticjnndhpfdajaaGreat
open Go.RowKit
set_option maxRecDepth 100000
set_option linter.unusedVariables false
def checkE (o : Objs) : Int := if checkO o then 0 else 63
set_option maxHeartbeats 8000000 in
theorem check_any (o : Objs) (As : Option Addr) (caps : Nat) (At : Option Addr) (capt : Nat) (w : World) (hsch : SlAt w 2 SchR As caps o.schemas) (htab : SlAt w 5 TabR At capt o.tables) :
    Calls Tryz.prog 29 #[.agg #[.slice As o.schemas.length caps, .slice At o.tables.length capt]] w
      fun e w' => e = .returned (.int .i64 (checkE o)) ∧ Aft w w' := by
  have hlen := hsch.len
  have hlen2 := htab.len
  by_cases d1 : 8 < o.schemas.length
  · have HF := Lib.hid (show checkE o = 63 by simp [checkE, checkO, headOk, show ¬ o.schemas.length ≤ 8 by omega])
    have e1 : ¬ ((o.schemas.length : Int) ≤ 8) := by omega
    have e1' : decide ((o.schemas.length : Int) ≤ 8) = false := decide_eq_false e1
    go_enter Tryz.func29, Tryz.ntmps29
    go_wp2_with fail
    go_loopw [3, 4] (fun ok i wr => ok = .bool false ∧ i = .int .i64 0 ∧ Aft (w.alloc (.cells #[.slice As o.schemas.length caps, .slice At o.tables.length capt] 25)) wr) (fun _ _ _ => 0)
    case atStart => exact ⟨rfl, rfl, Aft.refl _⟩
    case round =>
      obtain ⟨rfl, rfl, ha⟩ := hrel
      have HAX := Lib.hid ha
      clear ha
      go_wp2_with fail
      go_loopw [3, 6] (fun ok i wr => ok = .bool false ∧ i = .int .i64 0 ∧ Aft (w.alloc (.cells #[.slice As o.schemas.length caps, .slice At o.tables.length capt] 25)) wr) (fun _ _ _ => 0)
      case atStart => exact ⟨rfl, rfl, HAX.out⟩
      case round =>
        obtain ⟨rfl, rfl, ha⟩ := hrel
        have HAY := Lib.hid ha
        clear ha
        go_wp2_with fail
        go_ret
        exact ⟨by rw [HF.out]; rfl, ((Aft.refl w).alloc _).trans HAY.out⟩
  have e1 : (o.schemas.length : Int) ≤ 8 := by omega
  have e1' : decide ((o.schemas.length : Int) ≤ 8) = true := decide_eq_true e1
  by_cases d2 : 64 < o.tables.length
  · have HF := Lib.hid (show checkE o = 63 by simp [checkE, checkO, headOk, show ¬ o.tables.length ≤ 64 by omega])
    have e2 : ¬ ((o.tables.length : Int) ≤ 64) := by omega
    have e2' : decide ((o.tables.length : Int) ≤ 64) = false := decide_eq_false e2
    go_enter Tryz.func29, Tryz.ntmps29
    go_wp2_with fail
    go_loopw [3, 4] (fun ok i wr => ok = .bool false ∧ i = .int .i64 0 ∧ Aft (w.alloc (.cells #[.slice As o.schemas.length caps, .slice At o.tables.length capt] 25)) wr) (fun _ _ _ => 0)
    case atStart => exact ⟨rfl, rfl, Aft.refl _⟩
    case round =>
      obtain ⟨rfl, rfl, ha⟩ := hrel
      have HAX := Lib.hid ha
      clear ha
      go_wp2_with fail
      go_loopw [3, 6] (fun ok i wr => ok = .bool false ∧ i = .int .i64 0 ∧ Aft (w.alloc (.cells #[.slice As o.schemas.length caps, .slice At o.tables.length capt] 25)) wr) (fun _ _ _ => 0)
      case atStart => exact ⟨rfl, rfl, HAX.out⟩
      case round =>
        obtain ⟨rfl, rfl, ha⟩ := hrel
        have HAY := Lib.hid ha
        clear ha
        go_wp2_with fail
        go_ret
        exact ⟨by rw [HF.out]; rfl, ((Aft.refl w).alloc _).trans HAY.out⟩
  have e2 : (o.tables.length : Int) ≤ 64 := by omega
  have e2' : decide ((o.tables.length : Int) ≤ 64) = true := decide_eq_true e2
  obtain ⟨g1, hg1⟩ : ∃ g, risesB (fun a b => or2 (cmpS a.schema b.schema) (cmpS a.name b.name)) o.tables = g := ⟨_, rfl⟩
  obtain ⟨g2, hg2⟩ : ∃ g, risesB (fun a b => cmpS a.name b.name) o.schemas = g := ⟨_, rfl⟩
  have HR := Lib.hid (show checkE o = if (g1 && g2 && (o.schemas.all (schOk o) && o.tables.all (rightT o))) then 0 else 63 by simp [checkE, checkO, headOk, hg1, hg2, show o.schemas.length ≤ 8 by omega, show o.tables.length ≤ 64 by omega])
  have C1 := Lib.hid (show ∀ w', Aft w w' → Calls Tryz.prog 101 #[.slice At o.tables.length capt, .func (.func 102) #[] #[]] w' fun e w'' => e = .returned (.bool g1) ∧ Aft w' w'' from
    fun w' a => (tabsRise At capt o.tables w' (tabs_aft a htab)).mono fun e w'' ⟨he, hw⟩ => ⟨he.trans (by rw [← hg1]), hw⟩)
  have C2 := Lib.hid (show ∀ w', Aft w w' → Calls Tryz.prog 103 #[.slice As o.schemas.length caps, .func (.func 104) #[] #[]] w' fun e w'' => e = .returned (.bool g2) ∧ Aft w' w'' from
    fun w' a => (schsRise As caps o.schemas w' (schs_aft a hsch)).mono fun e w'' ⟨he, hw⟩ => ⟨he.trans (by rw [← hg2]), hw⟩)
  clear hg1 hg2
  go_enter Tryz.func29, Tryz.ntmps29
  go_wp2_with fail
  refine (C1.out _ ((Aft.refl w).alloc _)).mono ?_
  rintro e w1 ⟨rfl, a1⟩
  obtain ⟨hbox, hfr, hz, hzk, HA⟩ := aft_box a1
  have HAB := Lib.hid a1
  clear a1 C1
  cases g1
  · have HF := Lib.hid (show checkE o = 63 by rw [HR.out]; rfl)
    go_wp2_with fail
    go_loopw [3, 4] (fun ok i wr => ok = .bool false ∧ i = .int .i64 0 ∧ Aft (w.alloc (.cells #[.slice As o.schemas.length caps, .slice At o.tables.length capt] 25)) wr) (fun _ _ _ => 0)
    case atStart => exact ⟨rfl, rfl, HAB.out⟩
    case round =>
      obtain ⟨rfl, rfl, ha⟩ := hrel
      have HAX := Lib.hid ha
      clear ha
      go_wp2_with fail
      go_loopw [3, 6] (fun ok i wr => ok = .bool false ∧ i = .int .i64 0 ∧ Aft (w.alloc (.cells #[.slice As o.schemas.length caps, .slice At o.tables.length capt] 25)) wr) (fun _ _ _ => 0)
      case atStart => exact ⟨rfl, rfl, HAX.out⟩
      case round =>
        obtain ⟨rfl, rfl, ha⟩ := hrel
        have HAY := Lib.hid ha
        clear ha
        go_wp2_with fail
        go_ret
        exact ⟨by rw [HF.out]; rfl, ((Aft.refl w).alloc _).trans HAY.out⟩
  go_wp2_with fail
  refine (C2.out _ HA.out).mono ?_
  rintro e w2 ⟨rfl, a2⟩
  have HAB2 := Lib.hid (HAB.out.trans a2)
  clear a2 C2 HAB HA hbox hfr hz hzk
  obtain ⟨hbox, hfr, hz, hzk, HA⟩ := aft_box HAB2.out
  cases g2
  · have HF := Lib.hid (show checkE o = 63 by rw [HR.out]; rfl)
    go_wp2_with fail
    go_loopw [3, 4] (fun ok i wr => ok = .bool false ∧ i = .int .i64 0 ∧ Aft (w.alloc (.cells #[.slice As o.schemas.length caps, .slice At o.tables.length capt] 25)) wr) (fun _ _ _ => 0)
    case atStart => exact ⟨rfl, rfl, HAB2.out⟩
    case round =>
      obtain ⟨rfl, rfl, ha⟩ := hrel
      have HAX := Lib.hid ha
      clear ha
      go_wp2_with fail
      go_loopw [3, 6] (fun ok i wr => ok = .bool false ∧ i = .int .i64 0 ∧ Aft (w.alloc (.cells #[.slice As o.schemas.length caps, .slice At o.tables.length capt] 25)) wr) (fun _ _ _ => 0)
      case atStart => exact ⟨rfl, rfl, HAX.out⟩
      case round =>
        obtain ⟨rfl, rfl, ha⟩ := hrel
        have HAY := Lib.hid ha
        clear ha
        go_wp2_with fail
        go_ret
        exact ⟨by rw [HF.out]; rfl, ((Aft.refl w).alloc _).trans HAY.out⟩
  have HR2 := Lib.hid (show checkE o = if (o.schemas.all (schOk o) && o.tables.all (rightT o)) then 0 else 63 by rw [HR.out]; rfl)
  clear HR
  go_wp2_with fail
  go_loopw [3, 4] (fun ok i wr => ∃ (k : Nat) (b : Bool), k ≤ o.schemas.length ∧ i = .int .i64 k ∧ ok = .bool b ∧ Aft (w.alloc (.cells #[.slice As o.schemas.length caps, .slice At o.tables.length capt] 25)) wr ∧ (b = true → ∀ j, j < k → ∀ (hj : j < o.schemas.length), schOk o o.schemas[j] = true) ∧ (b = false → checkE o = 63)) (fun ok i _ => o.schemas.length - (intOf i).toNat)
  case atStart => exact ⟨0, true, Nat.zero_le _, rfl, rfl, HAB2.out, fun _ j hj => absurd hj (Nat.not_lt_zero j), fun h => by cases h⟩
  case round =>
    clear hbox hfr hz hzk HA HAB2
    obtain ⟨k, b, hk, rfl, rfl, ha, hp, hq⟩ := hrel
    obtain ⟨hbox, hfr, hz, hzk, HA⟩ := aft_box ha
    have HAB := Lib.hid ha
    clear ha
    cases b
    · have HF := Lib.hid (hq rfl)
      clear hp hq
      go_wp2_with fail
      go_loopw [3, 6] (fun ok i wr => ok = .bool false ∧ i = .int .i64 0 ∧ Aft (w.alloc (.cells #[.slice As o.schemas.length caps, .slice At o.tables.length capt] 25)) wr) (fun _ _ _ => 0)
      case atStart => exact ⟨rfl, rfl, HAB.out⟩
      case round =>
        obtain ⟨rfl, rfl, ha⟩ := hrel
        have HAY := Lib.hid ha
        clear ha
        go_wp2_with fail
        go_ret
        exact ⟨by rw [HF.out]; rfl, ((Aft.refl w).alloc _).trans HAY.out⟩
    have HP := Lib.hid (hp rfl)
    clear hp hq
    by_cases hlt : k < o.schemas.length
    · have hss := schs_aft HA.out hsch
      obtain ⟨b, off, rfl, hb, c0, c1, s0, s1⟩ := sch_at hss hlt
      obtain ⟨p, hpp⟩ : ∃ p, o.schemas[k] = p := ⟨_, rfl⟩
      rw [hpp] at c0 c1 s0 s1
      have HO := Lib.hid (show schOk o o.schemas[k] = (nameB p.name && nameB p.owner && decide (within o.tables p.name ≤ 8)) by rw [hpp]; rfl)
      clear hpp hss
      cases hN : nameB p.name
      · have HF := Lib.hid (show checkE o = 63 by rw [HR2.out, all_false _ _ k hlt (by rw [HO.out, hN]; rfl)]; rfl)
        go_wp2_with (go_at_call 87; refine (name_any _ _ (by first | exact s0.max | exact s1.max)).mono ?_; rintro e w' ⟨rfl, rfl⟩)
        go_roundw
        case rel => exact ⟨k + 1, false, by omega, by go_num, rfl, HAB.out.alloc _, (fun h => by cases h), fun _ => HF.out⟩
        case measure => simp [intOf]; omega
      cases hO : nameB p.owner
      · have HF := Lib.hid (show checkE o = 63 by rw [HR2.out, all_false _ _ k hlt (by rw [HO.out, hN, hO]; rfl)]; rfl)
        go_wp2_with (go_at_call 87; refine (name_any _ _ (by first | exact s0.max | exact s1.max)).mono ?_; rintro e w' ⟨rfl, rfl⟩)
        go_roundw
        case rel => exact ⟨k + 1, false, by omega, by go_num, rfl, HAB.out.alloc _, (fun h => by cases h), fun _ => HF.out⟩
        case measure => simp [intOf]; omega
      obtain ⟨n, hn⟩ : ∃ n, within o.tables p.name = n := ⟨_, rfl⟩
      have Cw := Lib.hid (show ∀ w', Aft w w' → Calls Tryz.prog 99 #[.agg #[.slice (some ⟨b, off, none⟩) o.schemas.length caps, .slice At o.tables.length capt], .string p.name] w' fun e w'' => e = .returned (.int .i64 n) ∧ Aft w' w'' from
        fun w' a => (within_any _ At capt o.tables p.name w' (tabs_aft a htab)).mono fun e w'' ⟨he, hw⟩ => ⟨he.trans (by rw [← hn]), hw⟩)
      have HO2 := Lib.hid (show schOk o o.schemas[k] = decide (n ≤ 8) by rw [HO.out, hN, hO, hn]; rfl)
      clear HO hn
      go_wp2_with (go_at_call 87; refine (name_any _ _ (by first | exact s0.max | exact s1.max)).mono ?_; rintro e w' ⟨rfl, rfl⟩)
      refine (Cw.out _ (HA.out.alloc _)).mono ?_
      rintro e w3 ⟨rfl, a3⟩
      have HAB3 := Lib.hid ((HAB.out.alloc _).trans a3)
      clear a3 Cw
      by_cases h8 : n ≤ 8
      · have h8' : (n : Int) ≤ 8 := by omega
        have HN := Lib.hid (ext_lt (p := fun j => ∀ (hj : j < o.schemas.length), schOk o o.schemas[j] = true) HP.out (fun _ => by rw [HO2.out]; exact decide_eq_true h8))
        go_wp2_with fail
        go_roundw
        case rel => exact ⟨k + 1, true, by omega, by go_num, by simp, HAB3.out, fun _ => HN.out, fun h => by cases h⟩
        case measure => simp [intOf]; omega
      · have h8' : ¬ (n : Int) ≤ 8 := by omega
        have HF := Lib.hid (show checkE o = 63 by rw [HR2.out, all_false _ _ k hlt (by rw [HO2.out]; exact decide_eq_false h8)]; rfl)
        go_wp2_with fail
        go_roundw
        case rel => exact ⟨k + 1, false, by omega, by go_num, by simp [h8'], HAB3.out, (fun h => by cases h), fun _ => HF.out⟩
        case measure => simp [intOf]; omega
    have HR3 := Lib.hid (show checkE o = if o.tables.all (rightT o) then 0 else 63 by rw [HR2.out, all_true _ _ fun j hj => HP.out j (by omega) hj]; rfl)
    clear HP HR2
    go_wp2_with fail
    go_loopw [3, 6] (fun ok i wr => ∃ (k : Nat) (b : Bool), k ≤ o.tables.length ∧ i = .int .i64 k ∧ ok = .bool b ∧ Aft (w.alloc (.cells #[.slice As o.schemas.length caps, .slice At o.tables.length capt] 25)) wr ∧ (b = true → ∀ j, j < k → ∀ (hj : j < o.tables.length), rightT o o.tables[j] = true) ∧ (b = false → checkE o = 63)) (fun ok i _ => o.tables.length - (intOf i).toNat)
    case atStart => exact ⟨0, true, Nat.zero_le _, rfl, rfl, HAB.out, fun _ j hj => absurd hj (Nat.not_lt_zero j), fun h => by cases h⟩
    case round =>
      clear hbox hfr hz hzk HA HAB
      obtain ⟨k2, b, hk2, rfl, rfl, ha, hp, hq⟩ := hrel
      obtain ⟨hbox, hfr, hz, hzk, HA⟩ := aft_box ha
      have HAB := Lib.hid ha
      clear ha
      cases b
      · have HF := Lib.hid (hq rfl)
        clear hp hq
        go_wp2_with fail
        go_ret
        exact ⟨by rw [HF.out]; rfl, HA.out⟩
      have HP := Lib.hid (hp rfl)
      clear hp hq
      by_cases hlt2 : k2 < o.tables.length
      · have htt := tabs_aft HA.out htab
        have hss := schs_aft HA.out hsch
        obtain ⟨b, off, B2, capB2, B3, capB3, rfl, hb, c0, c1, c2, c3, c4, hcols, hrules, s0, s1, s2⟩ := tab_at htt hlt2
        obtain ⟨p, hpp⟩ : ∃ p, o.tables[k2] = p := ⟨_, rfl⟩
        rw [hpp] at c0 c1 c2 c3 c4 hcols hrules s0 s1 s2
        obtain ⟨f, hf⟩ : ∃ f, rightT o p = f := ⟨_, rfl⟩
        have HO := Lib.hid (show rightT o o.tables[k2] = f by rw [hpp]; exact hf)
        have Cr := Lib.hid (show ∀ x : Lat wr, Calls Tryz.prog 105 #[.agg #[.slice As o.schemas.length caps, .slice (some ⟨b, off, none⟩) o.tables.length capt], .agg #[.string p.schema, .string p.name, .string p.owner, .slice B2 p.cols.length capB2, .slice B3 p.rules.length capB3]] (lat wr x) fun e w' => e = .returned (.bool f) ∧ Aft (lat wr x) w' from
          fun x => (right_any o p As caps _ capt B2 capB2 B3 capB3 (lat wr x) (schs_aft ((Aft.refl wr).lat x) hss) (tabs_aft ((Aft.refl wr).lat x) htt) (cols_aft ((Aft.refl wr).lat x) hcols) (ruls_aft ((Aft.refl wr).lat x) hrules) s1 s2).mono fun e w'' ⟨he, hw⟩ => ⟨he.trans (by rw [← hf]), hw⟩)
        clear hf hpp htt hss hcols hrules
        go_wp2_with fail
        refine wp_region_lat (by kernel_rfl) (by kernel_rfl) ?_
        repeat (go_big_quiet_step ((first | (go_at_call 105; exact Calls.lat_of (Cr.out _)))))
        refine wpQuiet_nil ?_
        intro _ hw'
        obtain ⟨x, hw''⟩ := hw'
        subst hw''
        cases f
        · have HF := Lib.hid (show checkE o = 63 by rw [HR3.out, all_false _ _ k2 hlt2 HO.out]; rfl)
          go_wp2_with fail
          go_roundw
          case rel => exact ⟨k2 + 1, false, by omega, by go_num, rfl, HAB.out.lat x, (fun h => by cases h), fun _ => HF.out⟩
          case measure => simp [intOf]; omega
        · have HN := Lib.hid (ext_lt (p := fun j => ∀ (hj : j < o.tables.length), rightT o o.tables[j] = true) HP.out (fun _ => HO.out))
          go_wp2_with fail
          go_roundw
          case rel => exact ⟨k2 + 1, true, by omega, by go_num, rfl, HAB.out.lat x, fun _ => HN.out, fun h => by cases h⟩
          case measure => simp [intOf]; omega
      · have HF := Lib.hid (show checkE o = 0 by rw [HR3.out, all_true _ _ fun j hj => HP.out j (by omega) hj]; rfl)
        go_wp2_with fail
        go_ret
        exact ⟨by rw [HF.out]; rfl, HA.out⟩
end Go.Proofs.YticjnndhpfdajaaGreat
/- objects.changed, objects.tableChanged: objects in memory of their own, changed by what is handed in. -/
namespace Go.Proofs.YticjnndhpfdajaaGreat
open Go.RowKit Go.Deep
set_option maxRecDepth 100000
set_option linter.unusedVariables false
def zeroO : Objs := ⟨[], []⟩
/-- right objects are no great ones -/
theorem check_mod {o : Objs} (h : checkO o = true) : ModO o := by
  unfold checkO headOk at h
  simp only [Bool.and_eq_true, decide_eq_true_eq, List.all_eq_true] at h
  obtain ⟨⟨⟨⟨h1, h2⟩, _⟩, _⟩, _, h3⟩ := h
  refine ⟨by omega, by omega, fun t ht => ?_⟩
  have h4 := h3 t ht
  unfold rightT at h4
  simp only [Bool.and_eq_true, decide_eq_true_eq, List.all_eq_true] at h4
  obtain ⟨⟨⟨⟨_, h5⟩, h6⟩, _⟩, h7, _⟩ := h4
  have h8 : t.cols.length ≤ 8 := by unfold colsOk at h5; simp only [Bool.and_eq_true, decide_eq_true_eq] at h5; exact h5.1.2
  refine ⟨by omega, by omega, fun r hr => ?_⟩
  have h9 := h7 r hr
  unfold ruleOk at h9
  simp only [Bool.and_eq_true] at h9
  have h1 : rcOk t.cols r.cols = true := by have hf := h9.1; unfold fitsOk at hf; simp only [Bool.and_eq_true] at hf; exact hf.1.1.1
  have := rc_len t.cols r.cols h1
  omega
/-- what a change makes of our own objects: r's objects, if there is no error -/
def DoP (w : World) (B n3 : Nat) (r : Objs × Int) (e : Ending) (w' : World) : Prop :=
  e = .returned (.int .i64 r.2) ∧ Kb (fun g => B ≤ g) w w' ∧ (r.2 = 0 → ∃ hs ht L, L.map OTab.t = r.1.tables ∧ ObjIn w' B hs ht r.1.schemas L ∧ RowAt w' n3 [.slice hs.a r.1.schemas.length hs.c, .slice ht.a r.1.tables.length ht.c])
/-- what comes out: r's objects in memory of their own, and an error's number -/
def ObjP (w : World) (r : Objs × Int) (e : Ending) (w' : World) : Prop :=
  ∃ hs ht L, L.map OTab.t = r.1.tables ∧ e = .returned (.tuple #[.agg #[.slice hs.a r.1.schemas.length hs.c, .slice ht.a r.1.tables.length ht.c], .int .i64 r.2]) ∧ Aft w w' ∧ ObjIn w' w.heap.size hs ht r.1.schemas L
def chgR (o : Objs) (r : Objs × Int) : Objs × Int := if checkO o then r else (zeroO, 63)
theorem objIn_zero (w : World) (B : Nat) : ObjIn w B ⟨none, 0, 0⟩ ⟨none, 0, 0⟩ [] [] := ⟨own_nil _ _ _ _, own_nil _ _ _ _, fun x hx => by simp at hx, by simp [blk_nil]⟩
theorem objP_zero {w w' : World} {c : Int} (a : Aft w w') : ObjP w (zeroO, c) (.returned (.tuple #[.agg #[.slice none 0 0, .slice none 0 0], .int .i64 c])) w' := ⟨⟨none, 0, 0⟩, ⟨none, 0, 0⟩, [], rfl, rfl, a, objIn_zero _ _⟩
set_option maxHeartbeats 8000000 in
theorem changed_in (o : Objs) (As : Option Addr) (caps : Nat) (At : Option Addr) (capt : Nat) (g : FuncId) (cs : Array Value) (r : Objs × Int) (w : World) (hsch : SlAt w 2 SchR As caps o.schemas) (htab : SlAt w 5 TabR At capt o.tables)
    (hent : ∀ (args : Array Value) (w : World), (callFunc g args).run Tryz.prog w = .ok (.enter g args) w) (hr : r.2 ≠ 0 → r.1 = zeroO)
    (hdo : checkO o = true → ∀ (w' : World) (hs ht : Hd) (L : List OTab) (B n3 : Nat), Aft w w' → w.heap.size ≤ B → B ≤ n3 → L.map OTab.t = o.tables → ObjIn w' B hs ht o.schemas L → (∀ g ∈ hs.blk ++ (ht.blk ++ L.flatMap OTab.blks), g ≠ n3) →
      RowAt w' n3 [.slice hs.a o.schemas.length hs.c, .slice ht.a o.tables.length ht.c] → Calls Tryz.prog g (#[.pointer (some ⟨n3, 0, none⟩)] ++ cs) w' (DoP w' B n3 r)) :
    Calls Tryz.prog 85 #[.agg #[.slice As o.schemas.length caps, .slice At o.tables.length capt], .func (.func g) #[] cs] w (ObjP w (chgR o r)) := by
  have hlen := hsch.len
  have hlen2 := htab.len
  have l1 : w.heap.size < w.heap.size + 1 := by omega
  have l2 : w.heap.size < w.heap.size + 1 + 1 := by omega
  obtain ⟨W, hW⟩ : ∃ W, W = (w.alloc (.cells #[.slice As o.schemas.length caps, .slice At o.tables.length capt] 25)).alloc (.cells #[.slice none 0 0, .slice none 0 0] 25) := ⟨_, rfl⟩
  have aW : Aft w W := by rw [hW]; exact ((Aft.refl w).alloc _).alloc _
  have r1 : RowAt W w.heap.size [.slice As o.schemas.length caps, .slice At o.tables.length capt] := by rw [hW]; exact (box_row2 (Aft.refl _)).aft ((Aft.refl _).alloc _)
  have r2 : RowAt W (w.heap.size + 1) [.slice none 0 0, .slice none 0 0] := by
    rw [hW]
    have := (box_row2 (w := w.alloc (.cells #[.slice As o.schemas.length caps, .slice At o.tables.length capt] 25)) (c := [.slice none 0 0, .slice none 0 0]) (t := 25) (Aft.refl _))
    simpa using this
  have zW : W.heap.size = w.heap.size + 2 := by rw [hW]; simp
  obtain ⟨c, hc⟩ : ∃ c, checkO o = c := ⟨_, rfl⟩
  have CK := Lib.hid (show ∀ w', Aft w w' → Calls Tryz.prog 29 #[.agg #[.slice As o.schemas.length caps, .slice At o.tables.length capt]] w' fun e w'' => e = .returned (.int .i64 (if c = true then 0 else 63)) ∧ Aft w' w'' from
    fun w' a => (check_any o As caps At capt w' (schs_aft a hsch) (tabs_aft a htab)).mono fun e w'' ⟨he, hw⟩ => ⟨he.trans (by unfold checkE; rw [hc]), hw⟩)
  have CO := Lib.hid (show c = true → ∀ w', Aft w w' → _ from fun h w' a => own_in o As caps At capt w' (schs_aft a hsch) (tabs_aft a htab) (check_mod (hc.trans h)))
  have HDO := Lib.hid (fun h : c = true => hdo (hc.trans h))
  have HE := Lib.hid (show chgR o r = if c = true then r else (zeroO, 63) by unfold chgR; rw [hc])
  have HAW := Lib.hid aW
  have HR := Lib.hid hr
  have HR1 := Lib.hid r1
  have HR2 := Lib.hid r2
  have HZ := Lib.hid zW
  clear hc hdo hsch htab r1 r2 aW zW hr
  go_enter Tryz.func85, Tryz.ntmps85
  go_wp2_with fail
  rw [← hW]
  refine (CK.out W HAW.out).mono ?_
  rintro e w1 ⟨rfl, a1⟩
  have b2 := HR2.out.aft a1
  have d0 := b2.cell (j := 0) rfl
  have d1 := b2.cell (j := 1) rfl
  have f0 := b2.2.2 0 (by simp)
  have f1 := b2.2.2 1 (by simp)
  have z2 := b2.1
  have HA1 := Lib.hid (HAW.out.trans a1)
  have HB2 := Lib.hid b2
  clear hW
  cases c
  · clear a1 b2
    go_wp2_with fail
    obtain ⟨F, hF⟩ : ∃ F, F = (w1.setCell ⟨w.heap.size + 1, 0, none⟩ (.slice none 0 0)).setCell ⟨w.heap.size + 1, 1, none⟩ (.slice none 0 0) := ⟨_, rfl⟩
    have rF : RowAt F (w.heap.size + 1) [.slice none 0 0, .slice none 0 0] := by rw [hF]; exact (HB2.out.set 0 _ (by simp)).set 1 _ (by simp)
    have aF : Aft w F := by rw [hF]; exact (HA1.out.setCell _ _ (Nat.le_succ _)).setCell _ _ (Nat.le_succ _)
    rw [← hF]
    refine bodyPost_ret (results_cell_tmp (v := .agg #[.slice none 0 0, .slice none 0 0]) rfl _ rfl ?hl) rfl ?_
    case hl => exact lvObj_row rF
    rw [HE.out]
    exact objP_zero aF
  · have b1 := HR1.out.aft a1
    have c0 := b1.cell (j := 0) rfl
    have c1 := b1.cell (j := 1) rfl
    have z1 := b1.1
    have HZ1 := Lib.hid (show w.heap.size + 2 ≤ w1.heap.size by have := a1.size; have := HZ.out; omega)
    clear a1 b1 b2
    go_wp2_with fail
    refine (CO.out (by simp) w1 HA1.out).mono ?_
    rintro e w2 ⟨hs, ht, L, hL, rfl, a2, ob⟩
    obtain ⟨W3, hW3⟩ : ∃ W3, W3 = w2.alloc (.cells #[.slice hs.a o.schemas.length hs.c, .slice ht.a o.tables.length ht.c] 25) := ⟨_, rfl⟩
    have a3 : Aft w2 W3 := by rw [hW3]; exact (Aft.refl _).alloc _
    have r3 : RowAt W3 w2.heap.size [.slice hs.a o.schemas.length hs.c, .slice ht.a o.tables.length ht.c] := by rw [hW3]; exact box_row2 (Aft.refl _)
    have HD := Lib.hid (HDO.out (by simp) W3 hs ht L w1.heap.size w2.heap.size (HA1.out.trans (a2.trans a3)) HA1.out.size a2.size hL (ob.aft a3) (fun g hg e => by have := (ob.lt g hg).2; omega) r3)
    have HA3 := Lib.hid (HA1.out.trans (a2.trans a3))
    have HB3 := Lib.hid (HB2.out.aft (a2.trans a3))
    clear a2 a3 ob hL CO HDO r3 c0 c1 z1 d0 d1 f0 f1 z2 CK
    obtain ⟨r0, rc⟩ := r
    have HZ2 := Lib.hid (show w.heap.size + 1 < w1.heap.size from HB2.out.1)
    go_wp2_with fail
    rw [← hW3]
    clear hW3
    refine HD.out.mono ?_
    rintro e w4 ⟨rfl, k4, hz4⟩
    have b4 := k4.row HB3.out (by have := HZ2.out; omega)
    have d0 := b4.cell (j := 0) rfl
    have d1 := b4.cell (j := 1) rfl
    have f0 := b4.2.2 0 (by simp)
    have f1 := b4.2.2 1 (by simp)
    have z2 := b4.1
    have HB4 := Lib.hid b4
    have HA4 := Lib.hid (k4.to_aft HA3.out (fun g hg h1 => by have := HA1.out.size; omega))
    have HZ4 := Lib.hid hz4
    clear b4 k4 hz4
    by_cases hrc : rc = 0
    · subst hrc
      obtain ⟨hs', ht', L', hL', ob', r4⟩ := HZ4.out rfl
      have c0 := r4.cell (j := 0) rfl
      have c1 := r4.cell (j := 1) rfl
      have z3 := r4.1
      have HO := Lib.hid ob'
      have HL' := Lib.hid hL'
      clear ob' hL' r4
      go_wp2_with fail
      obtain ⟨F, hF⟩ : ∃ F, F = (w4.setCell ⟨w.heap.size + 1, 0, none⟩ (.slice hs'.a r0.schemas.length hs'.c)).setCell ⟨w.heap.size + 1, 1, none⟩ (.slice ht'.a r0.tables.length ht'.c) := ⟨_, rfl⟩
      have kF : Kb (fun g => g = w.heap.size + 1) w4 F := by rw [hF]; exact (Kb.set _ _ _ _).trans (Kb.set _ _ _ _)
      have rF : RowAt F (w.heap.size + 1) [.slice hs'.a r0.schemas.length hs'.c, .slice ht'.a r0.tables.length ht'.c] := by rw [hF]; exact (HB4.out.set 0 _ (by simp)).set 1 _ (by simp)
      rw [← hF]
      refine bodyPost_ret (results_cell_tmp (v := .agg #[.slice hs'.a r0.schemas.length hs'.c, .slice ht'.a r0.tables.length ht'.c]) rfl _ rfl ?hl2) rfl ?_
      case hl2 => exact lvObj_row rF
      rw [HE.out]
      refine ⟨hs', ht', L', HL'.out, rfl, kF.to_aft HA4.out (fun g hg e => by omega), ?_⟩
      refine ObjIn.down (HO.out.kb kF fun g hg e => ?_) (by have := HA1.out.size; omega)
      have := (HO.out.lt g hg).1
      have := HZ2.out
      omega
    · have t1 : (rc != 0) = true := by simpa using hrc
      have hr0 : r0 = zeroO := HR.out hrc
      have HR0 := Lib.hid hr0
      have HRC := Lib.hid hrc
      clear hrc hr0
      go_wp2_with fail
      obtain ⟨F, hF⟩ : ∃ F, F = (w4.setCell ⟨w.heap.size + 1, 0, none⟩ (.slice none 0 0)).setCell ⟨w.heap.size + 1, 1, none⟩ (.slice none 0 0) := ⟨_, rfl⟩
      have rF : RowAt F (w.heap.size + 1) [.slice none 0 0, .slice none 0 0] := by rw [hF]; exact (HB4.out.set 0 _ (by simp)).set 1 _ (by simp)
      have aF : Aft w F := by rw [hF]; exact (HA4.out.setCell _ _ (Nat.le_succ _)).setCell _ _ (Nat.le_succ _)
      rw [← hF]
      refine bodyPost_ret (results_cell_tmp (v := .agg #[.slice none 0 0, .slice none 0 0]) rfl _ rfl ?hl3) rfl ?_
      case hl3 => exact lvObj_row rF
      rw [HE.out, HR0.out]
      exact objP_zero aF
end Go.Proofs.YticjnndhpfdajaaGreat
