/- Contracts of the program, part 6. -/
import Derived.Deep.RegionHeld3
import Derived.OwnWalk
import Derived.Laws.AppendOwn
import Derived.ProofKit
import Derived.OpenShut
import Derived.Deep.Slices
import Derived.ChangeOld
import Derived.SizedLaws
import Derived.WalkKit
import Derived.WalkSpells
import Derived.WalkLawsBesides
import Derived.Lib.Hide
import Derived.Deep.QuietTactic
import Derived.BigQuiet
import Derived.Below
import Derived.Deep.Draws
import Derived.StillTailTactics
import Derived.Laws.Cells
import Derived.Laws.IdiomCopy
import Derived.Test.YtiadkchlkdaceaaRows
import Derived.Lib.Bytealg
import Derived.IntWalk
import Derived.Deep.DeepMust
import Derived.Deep.RegionLaw
import Derived.Deep.AppendLies
import Derived.Deep.Upon
import Derived.OneCell
import Derived.ShutString
import Derived.Shelf.SlSortCmp.WholeK
import Derived.Lib.SliceRun
import Derived.Test.YtiadkchlkdaceaaPartN1
import Derived.Test.YtiadkchlkdaceaaPartN2
import Derived.Test.YtiadkchlkdaceaaPartN3
import Derived.Test.YtiadkchlkdaceaaPartN4
import Derived.Test.YtiadkchlkdaceaaPartN5
namespace Go.Proofs.Ytiadkchlkdaceaa
open Go.RowKit
set_option maxRecDepth 100000
set_option linter.unusedVariables false
set_option maxHeartbeats 1000000 in
theorem right1_any (n1 : ByteArray) (k1 : Int) (A1 : Option Addr) (m1 c1 : Nat) (lo1 hi1 : Int) (s1 t1 y1 : ByteArray) (n2 : ByteArray) (k2 : Int) (A2 : Option Addr) (m2 c2 : Nat) (lo2 hi2 : Int) (s2 t2 y2 : ByteArray) (w : World) :
    Calls Try.prog 57 #[.agg #[.string n1, .int .i64 k1, .slice A1 m1 c1, .int .i64 lo1, .int .i64 hi1, .string s1, .string t1, .string y1], .agg #[.string n2, .int .i64 k2, .slice A2 m2 c2, .int .i64 lo2, .int .i64 hi2, .string s2, .string t2, .string y2]] w fun e w' => e = .returned (.int .i64 (cmpS n1 n2)) ∧ Aft w w' := by
  go_enter Try.func57, Try.ntmps57
  go_wp2_with fail
  refine (compare_any _ _ _).mono ?_
  rintro e w1 ⟨rfl, rfl⟩
  go_wp2_with fail
  go_ret
  exact ⟨rfl, ((Aft.refl w).alloc _).alloc _⟩
set_option maxHeartbeats 1000000 in
theorem check1_any (n1 o1 n2 o2 : ByteArray) (w : World) :
    Calls Try.prog 31 #[.agg #[.string n1, .string o1], .agg #[.string n2, .string o2]] w fun e w' => e = .returned (.int .i64 (cmpS n1 n2)) ∧ Aft w w' := by
  go_enter Try.func31, Try.ntmps31
  go_wp2_with fail
  refine (compare_any _ _ _).mono ?_
  rintro e w1 ⟨rfl, rfl⟩
  go_wp2_with fail
  go_ret
  exact ⟨rfl, ((Aft.refl w).alloc _).alloc _⟩
theorem rulesRise (A : Option Addr) (cap : Nat) (l : List Rul) (w : World) (h : SlAt w 8 RulR A cap l) :
    Calls Try.prog 56 #[.slice A l.length cap, .func (.func 57) #[] #[]] w fun e w' => e = .returned (.bool (risesB (fun a b => cmpS a.name b.name) l)) ∧ Aft w w' :=
  risesRul A cap l 57 #[] (fun a b => cmpS a.name b.name) w h (enters (P := Try.prog) Try.func57 (by kernel_rfl) rfl) fun w' ha i hi e1 e2 h1 h2 => by
    obtain ⟨A1, c1, rfl, _⟩ := h1
    obtain ⟨A2, c2, rfl, _⟩ := h2
    exact right1_any _ _ _ _ _ _ _ _ _ _ _ _ _ _ _ _ _ _ _ _ w'
theorem schsRise (A : Option Addr) (cap : Nat) (l : List Sch) (w : World) (h : SlAt w 2 SchR A cap l) :
    Calls Try.prog 30 #[.slice A l.length cap, .func (.func 31) #[] #[]] w fun e w' => e = .returned (.bool (risesB (fun a b => cmpS a.name b.name) l)) ∧ Aft w w' :=
  risesSch A cap l 31 #[] (fun a b => cmpS a.name b.name) w h (enters (P := Try.prog) Try.func31 (by kernel_rfl) rfl) fun w' ha i hi => check1_any _ _ _ _ w'
theorem tabsRise (A : Option Addr) (cap : Nat) (l : List Tab) (w : World) (h : SlAt w 5 TabR A cap l) :
    Calls Try.prog 28 #[.slice A l.length cap, .func (.func 29) #[] #[]] w fun e w' => e = .returned (.bool (risesB (fun a b => or2 (cmpS a.schema b.schema) (cmpS a.name b.name)) l)) ∧ Aft w w' :=
  risesTab A cap l 29 #[] (fun a b => or2 (cmpS a.schema b.schema) (cmpS a.name b.name)) w h (enters (P := Try.prog) Try.func29 (by kernel_rfl) rfl) fun w' ha i hi e1 e2 h1 h2 => by
    obtain ⟨A1, c1, B1, d1, rfl, _⟩ := h1
    obtain ⟨A2, c2, B2, d2, rfl, _⟩ := h2
    exact order_any _ _ _ _ _ _ _ _ _ _ w'
set_option maxHeartbeats 8000000 in
theorem right_any (o : Objs) (t : Tab) (As : Option Addr) (caps : Nat) (At : Option Addr) (capt : Nat) (A : Option Addr) (cap : Nat) (A2 : Option Addr) (cap2 : Nat) (w : World) (hsch : SlAt w 2 SchR As caps o.schemas) (htab : SlAt w 5 TabR At capt o.tables)
    (h : SlAt w 3 ColR A cap t.cols) (h2 : SlAt w 8 RulR A2 cap2 t.rules) (hn : Small t.name.size) (ho : Small t.owner.size) :
    Calls Try.prog 35 #[.agg #[.slice As o.schemas.length caps, .slice At o.tables.length capt], .agg #[.string t.schema, .string t.name, .string t.owner, .slice A t.cols.length cap, .slice A2 t.rules.length cap2]] w
      fun e w' => e = .returned (.bool (rightT o t)) ∧ Aft w w' := by
  have hlen2 := h2.len
  cases hN : nameB t.name
  · have HF := Lib.hid (show rightT o t = false by simp [rightT, hN])
    go_enter Try.func35, Try.ntmps35
    go_wp2_with (go_at_call 33; refine (name_any _ _ (by first | exact hn.max | exact ho.max)).mono ?_; rintro e w' ⟨rfl, rfl⟩)
    go_ret
    exact ⟨by rw [HF.out]; rfl, ((Aft.refl _).alloc _).alloc _⟩
  cases hO : nameB t.owner
  · have HF := Lib.hid (show rightT o t = false by simp [rightT, hO])
    go_enter Try.func35, Try.ntmps35
    go_wp2_with (go_at_call 33; refine (name_any _ _ (by first | exact hn.max | exact ho.max)).mono ?_; rintro e w' ⟨rfl, rfl⟩)
    go_ret
    exact ⟨by rw [HF.out]; rfl, ((Aft.refl _).alloc _).alloc _⟩
  have HR0 := Lib.hid (show rightT o t = (colsOk t.cols && decide (t.rules.length ≤ 8) && decide (0 ≤ schAt o.schemas t.schema) && (t.rules.all (ruleOk o.tables t.cols) && risesB (fun a b => cmpS a.name b.name) t.rules)) by simp [rightT, hN, hO])
  obtain ⟨m, hm⟩ : ∃ m, colsOk t.cols = m := ⟨_, rfl⟩
  rw [hm] at HR0
  have Cm := Lib.hid (show ∀ w', Aft w w' → Calls Try.prog 51 #[.slice A t.cols.length cap] w' fun e w'' => e = .returned (.bool m) ∧ Aft w' w'' from
    fun w' a => (mayCols_any A cap t.cols w' (cols_aft a h)).mono fun e w'' ⟨he, hw⟩ => ⟨he.trans (by rw [← hm]), hw⟩)
  clear hm
  go_enter Try.func35, Try.ntmps35
  go_wp2_with (go_at_call 33; refine (name_any _ _ (by first | exact hn.max | exact ho.max)).mono ?_; rintro e w' ⟨rfl, rfl⟩)
  refine (Cm.out _ (((Aft.refl w).alloc _).alloc _)).mono ?_
  rintro e w1 ⟨rfl, a1⟩
  obtain ⟨hbo, hbt, hz, HA⟩ := aft_box2 a1
  have HAB := Lib.hid a1
  clear a1 Cm
  cases m
  · have HF := Lib.hid (show rightT o t = false by rw [HR0.out]; rfl)
    go_wp2_with fail
    go_ret
    exact ⟨by rw [HF.out]; rfl, HA.out⟩
  by_cases h8 : 8 < t.rules.length
  · have HF := Lib.hid (show rightT o t = false by rw [HR0.out, decide_eq_false (by omega)]; rfl)
    have h8' : (8 : Int) < (t.rules.length : Int) := by omega
    go_wp2_with fail
    go_ret
    exact ⟨by rw [HF.out]; rfl, HA.out⟩
  have h8' : (t.rules.length : Int) ≤ 8 := by omega
  have d8 : decide ((8 : Int) < (t.rules.length : Int)) = false := decide_eq_false (by omega)
  have HR1 := Lib.hid (show rightT o t = (decide (0 ≤ schAt o.schemas t.schema) && (t.rules.all (ruleOk o.tables t.cols) && risesB (fun a b => cmpS a.name b.name) t.rules)) by rw [HR0.out, decide_eq_true (show t.rules.length ≤ 8 by omega)]; rfl)
  clear HR0
  obtain ⟨i, hi⟩ : ∃ i, schAt o.schemas t.schema = i := ⟨_, rfl⟩
  rw [hi] at HR1
  have Cs := Lib.hid (show ∀ w', Aft w w' → Calls Try.prog 52 #[.slice As o.schemas.length caps, .string t.schema, .func (.func 53) #[] #[]] w' fun e w'' => e = .returned (.int .i64 i) ∧ Aft w' w'' from
    fun w' a => (bySch As caps o.schemas t.schema w' (schs_aft a hsch)).mono fun e w'' ⟨he, hw⟩ => ⟨he.trans (by rw [← hi]; rfl), hw⟩)
  clear hi
  go_wp2_with fail
  refine (Cs.out _ HA.out).mono ?_
  rintro e w2 ⟨rfl, a2⟩
  have HAB2 := Lib.hid (HAB.out.trans a2)
  clear a2 Cs HA HAB hbo hbt hz
  obtain ⟨hbo, hbt, hz, HA⟩ := aft_box2 HAB2.out
  by_cases hi0 : i < 0
  · have HF := Lib.hid (show rightT o t = false by rw [HR1.out, decide_eq_false (by omega)]; rfl)
    go_wp2_with fail
    go_ret
    exact ⟨by rw [HF.out]; rfl, HA.out⟩
  have hi1 : 0 ≤ i := by omega
  have HR2 := Lib.hid (show rightT o t = (t.rules.all (ruleOk o.tables t.cols) && risesB (fun a b => cmpS a.name b.name) t.rules) by rw [HR1.out, decide_eq_true hi1]; rfl)
  clear HR1
  go_wp2_with fail
  go_loopw [40] (fun i wr => ∃ k : Nat, k ≤ t.rules.length ∧ i = .int .i64 k ∧ Aft ((w.alloc (.cells #[.slice As o.schemas.length caps, .slice At o.tables.length capt] 25)).alloc (.cells #[.string t.schema, .string t.name, .string t.owner, .slice A t.cols.length cap, .slice A2 t.rules.length cap2] 61)) wr ∧ ∀ j, j < k → ∀ (hj : j < t.rules.length), ruleOk o.tables t.cols t.rules[j] = true) (fun i _ => t.rules.length - (intOf i).toNat)
  case atStart => exact ⟨0, Nat.zero_le _, rfl, HAB2.out, fun j hj => absurd hj (Nat.not_lt_zero j)⟩
  case round =>
    clear hbo hbt hz HA HAB2
    obtain ⟨k, hk, rfl, ha, hp⟩ := hrel
    obtain ⟨hbo, hbt, hz, HA⟩ := aft_box2 ha
    have HAB := Lib.hid ha
    have HP := Lib.hid hp; clear hp ha
    by_cases hlt : k < t.rules.length
    · have hr := ruls_aft HA.out h2
      obtain ⟨b, off, D2, capD2, rfl, hb, c0, c1, c2, c3, c4, c5, c6, c7, hcs, s0, s1, s2, s3⟩ := rul_at hr hlt
      obtain ⟨p, hpp⟩ : ∃ p, t.rules[k] = p := ⟨_, rfl⟩
      rw [hpp] at c0 c1 c2 c3 c4 c5 c6 c7 hcs s0 s1 s2 s3
      have HPP := Lib.hid hpp
      obtain ⟨f, hf⟩ : ∃ f, fitsOk t.cols p = f := ⟨_, rfl⟩
      obtain ⟨z, hz'⟩ : ∃ z, keyE o.tables t.cols p = z := ⟨_, rfl⟩
      have HO := Lib.hid (show ruleOk o.tables t.cols t.rules[k] = (f && !(p.kind == 4 && z != 0)) by rw [hpp]; unfold ruleOk; rw [hf, hz'])
      have Cf := Lib.hid (show ∀ w', Aft wr w' → Calls Try.prog 54 #[.slice A t.cols.length cap, .agg #[.string p.name, .int .i64 p.kind, .slice D2 p.cols.length capD2, .int .i64 p.low, .int .i64 p.high, .string p.schema, .string p.table, .string p.key]] w' fun e w'' => e = .returned (.bool f) ∧ Aft w' w'' from
        fun w' a => (fits_any A cap t.cols p D2 capD2 w' (cols_aft (HA.out.trans a) h) (strs_aft a hcs) s0 s1 s2 s3).mono fun e w'' ⟨he, hw⟩ => ⟨he.trans (by rw [← hf]), hw⟩)
      have Ck := Lib.hid (show ∀ w', Aft wr w' → Calls Try.prog 55 #[.agg #[.slice As o.schemas.length caps, .slice At o.tables.length capt], .slice A t.cols.length cap, .agg #[.string p.name, .int .i64 p.kind, .slice D2 p.cols.length capD2, .int .i64 p.low, .int .i64 p.high, .string p.schema, .string p.table, .string p.key]] w' fun e w'' => e = .returned (.int .i64 z) ∧ Aft w' w'' from
        fun w' a => (key_any _ At capt o.tables A cap t.cols p D2 capD2 w' (tabs_aft (HA.out.trans a) htab) (cols_aft (HA.out.trans a) h) (strs_aft a hcs)).mono fun e w'' ⟨he, hw⟩ => ⟨he.trans (by rw [← hz']), hw⟩)
      clear hf hz' hpp hr hcs HPP
      go_wp2_with fail
      refine (Cf.out _ ((Aft.refl wr).alloc _)).mono ?_
      rintro e w3 ⟨rfl, a3⟩
      obtain ⟨hbr, hfr, hzr, hzkr, HA3⟩ := aft_box a3
      have hbo3 : ∀ o', w3.cell? ⟨w.heap.size, o', none⟩ = _ := fun o' => (Below.cell HA3.out (p := ⟨w.heap.size, o', none⟩) hz.1).trans (hbo o')
      have hbt3 : ∀ o', w3.cell? ⟨w.heap.size + 1, o', none⟩ = _ := fun o' => (Below.cell HA3.out (p := ⟨w.heap.size + 1, o', none⟩) hz.2).trans (hbt o')
      have hz3 : w.heap.size < w3.heap.size ∧ w.heap.size + 1 < w3.heap.size := ⟨Nat.lt_of_lt_of_le hz.1 HA3.out.size, Nat.lt_of_lt_of_le hz.2 HA3.out.size⟩
      clear a3 Cf hbo hbt c0 c1 c2 c3 c4 c5 c6 c7
      cases f
      · have HF := Lib.hid (show rightT o t = false by rw [HR2.out, all_false _ _ k hlt (by rw [HO.out]; rfl)]; rfl)
        go_wp2_with fail
        go_ret
        exact ⟨by rw [HF.out]; rfl, HA.out.trans HA3.out⟩
      cases h4 : (p.kind == 4)
      · have HN := Lib.hid (ext_lt (p := fun j => ∀ (hj : j < t.rules.length), ruleOk o.tables t.cols t.rules[j] = true) HP.out (fun _ => by rw [HO.out, h4]; rfl))
        go_wp2_with fail
        go_roundw
        case rel => exact ⟨k + 1, by omega, by go_num, HAB.out.trans HA3.out, HN.out⟩
        case measure => simp [intOf]; omega
      · go_wp2_with fail
        refine (Ck.out _ HA3.out).mono ?_
        rintro e w4 ⟨rfl, a4⟩
        have HA4 := Lib.hid (HA3.out.trans a4)
        clear a4 Ck hbo3 hbt3 hbr
        cases z0 : (z != 0)
        · have HN := Lib.hid (ext_lt (p := fun j => ∀ (hj : j < t.rules.length), ruleOk o.tables t.cols t.rules[j] = true) HP.out (fun _ => by rw [HO.out, h4, z0]; rfl))
          go_wp2_with fail
          go_roundw
          case rel => exact ⟨k + 1, by omega, by go_num, HAB.out.trans HA4.out, HN.out⟩
          case measure => simp [intOf]; omega
        · have HF := Lib.hid (show rightT o t = false by rw [HR2.out, all_false _ _ k hlt (by rw [HO.out, h4, z0]; rfl)]; rfl)
          go_wp2_with fail
          go_ret
          exact ⟨by rw [HF.out]; rfl, HA.out.trans HA4.out⟩
    · have HF := Lib.hid (show rightT o t = risesB (fun a b => cmpS a.name b.name) t.rules by rw [HR2.out, all_true _ _ fun j hj => HP.out j (by omega) hj]; rfl)
      have Cr := Lib.hid (rulesRise A2 cap2 t.rules wr (ruls_aft HA.out h2))
      go_wp2_with fail
      refine Cr.out.mono ?_
      rintro e w3 ⟨rfl, a3⟩
      have HA3 := Lib.hid (HA.out.trans a3)
      clear a3
      go_wp2_with fail
      go_ret
      exact ⟨by rw [HF.out]; rfl, HA3.out⟩
end Go.Proofs.Ytiadkchlkdaceaa

namespace Go.Proofs.Ytiadkchlkdaceaa
open Go.RowKit
set_option maxRecDepth 100000
set_option linter.unusedVariables false
def checkE (o : Objs) : Int := if checkO o then 0 else 63
set_option maxHeartbeats 8000000 in
theorem check_any (o : Objs) (As : Option Addr) (caps : Nat) (At : Option Addr) (capt : Nat) (w : World) (hsch : SlAt w 2 SchR As caps o.schemas) (htab : SlAt w 5 TabR At capt o.tables) :
    Calls Try.prog 13 #[.agg #[.slice As o.schemas.length caps, .slice At o.tables.length capt]] w
      fun e w' => e = .returned (.int .i64 (checkE o)) ∧ Aft w w' := by
  have hlen := hsch.len
  have hlen2 := htab.len
  by_cases d1 : 8 < o.schemas.length
  · have HF := Lib.hid (show checkE o = 63 by simp [checkE, checkO, headOk, show ¬ o.schemas.length ≤ 8 by omega])
    have e1 : ¬ ((o.schemas.length : Int) ≤ 8) := by omega
    have e1' : decide ((o.schemas.length : Int) ≤ 8) = false := decide_eq_false e1
    go_enter Try.func13, Try.ntmps13
    go_wp2_with fail
    go_loopw [3, 4] (fun ok i wr => ok = .bool false ∧ i = .int .i64 0 ∧ Aft (w.alloc (.cells #[.slice As o.schemas.length caps, .slice At o.tables.length capt] 25)) wr) (fun _ _ _ => 0)
    case atStart => exact ⟨rfl, rfl, Aft.refl _⟩
    case round =>
      obtain ⟨rfl, rfl, ha⟩ := hrel
      have HAX := Lib.hid ha
      clear ha
      go_wp2_with fail
      go_loopw [3, 6] (fun ok i wr => ok = .bool false ∧ i = .int .i64 0 ∧ Aft (w.alloc (.cells #[.slice As o.schemas.length caps, .slice At o.tables.length capt] 25)) wr) (fun _ _ _ => 0)
      case atStart => exact ⟨rfl, rfl, HAX.out⟩
      case round =>
        obtain ⟨rfl, rfl, ha⟩ := hrel
        have HAY := Lib.hid ha
        clear ha
        go_wp2_with fail
        go_ret
        exact ⟨by rw [HF.out]; rfl, ((Aft.refl w).alloc _).trans HAY.out⟩
  have e1 : (o.schemas.length : Int) ≤ 8 := by omega
  have e1' : decide ((o.schemas.length : Int) ≤ 8) = true := decide_eq_true e1
  by_cases d2 : 64 < o.tables.length
  · have HF := Lib.hid (show checkE o = 63 by simp [checkE, checkO, headOk, show ¬ o.tables.length ≤ 64 by omega])
    have e2 : ¬ ((o.tables.length : Int) ≤ 64) := by omega
    have e2' : decide ((o.tables.length : Int) ≤ 64) = false := decide_eq_false e2
    go_enter Try.func13, Try.ntmps13
    go_wp2_with fail
    go_loopw [3, 4] (fun ok i wr => ok = .bool false ∧ i = .int .i64 0 ∧ Aft (w.alloc (.cells #[.slice As o.schemas.length caps, .slice At o.tables.length capt] 25)) wr) (fun _ _ _ => 0)
    case atStart => exact ⟨rfl, rfl, Aft.refl _⟩
    case round =>
      obtain ⟨rfl, rfl, ha⟩ := hrel
      have HAX := Lib.hid ha
      clear ha
      go_wp2_with fail
      go_loopw [3, 6] (fun ok i wr => ok = .bool false ∧ i = .int .i64 0 ∧ Aft (w.alloc (.cells #[.slice As o.schemas.length caps, .slice At o.tables.length capt] 25)) wr) (fun _ _ _ => 0)
      case atStart => exact ⟨rfl, rfl, HAX.out⟩
      case round =>
        obtain ⟨rfl, rfl, ha⟩ := hrel
        have HAY := Lib.hid ha
        clear ha
        go_wp2_with fail
        go_ret
        exact ⟨by rw [HF.out]; rfl, ((Aft.refl w).alloc _).trans HAY.out⟩
  have e2 : (o.tables.length : Int) ≤ 64 := by omega
  have e2' : decide ((o.tables.length : Int) ≤ 64) = true := decide_eq_true e2
  obtain ⟨g1, hg1⟩ : ∃ g, risesB (fun a b => or2 (cmpS a.schema b.schema) (cmpS a.name b.name)) o.tables = g := ⟨_, rfl⟩
  obtain ⟨g2, hg2⟩ : ∃ g, risesB (fun a b => cmpS a.name b.name) o.schemas = g := ⟨_, rfl⟩
  have HR := Lib.hid (show checkE o = if (g1 && g2 && (o.schemas.all (schOk o) && o.tables.all (rightT o))) then 0 else 63 by simp [checkE, checkO, headOk, hg1, hg2, show o.schemas.length ≤ 8 by omega, show o.tables.length ≤ 64 by omega])
  have C1 := Lib.hid (show ∀ w', Aft w w' → Calls Try.prog 28 #[.slice At o.tables.length capt, .func (.func 29) #[] #[]] w' fun e w'' => e = .returned (.bool g1) ∧ Aft w' w'' from
    fun w' a => (tabsRise At capt o.tables w' (tabs_aft a htab)).mono fun e w'' ⟨he, hw⟩ => ⟨he.trans (by rw [← hg1]), hw⟩)
  have C2 := Lib.hid (show ∀ w', Aft w w' → Calls Try.prog 30 #[.slice As o.schemas.length caps, .func (.func 31) #[] #[]] w' fun e w'' => e = .returned (.bool g2) ∧ Aft w' w'' from
    fun w' a => (schsRise As caps o.schemas w' (schs_aft a hsch)).mono fun e w'' ⟨he, hw⟩ => ⟨he.trans (by rw [← hg2]), hw⟩)
  clear hg1 hg2
  go_enter Try.func13, Try.ntmps13
  go_wp2_with fail
  refine (C1.out _ ((Aft.refl w).alloc _)).mono ?_
  rintro e w1 ⟨rfl, a1⟩
  obtain ⟨hbox, hfr, hz, hzk, HA⟩ := aft_box a1
  have HAB := Lib.hid a1
  clear a1 C1
  cases g1
  · have HF := Lib.hid (show checkE o = 63 by rw [HR.out]; rfl)
    go_wp2_with fail
    go_loopw [3, 4] (fun ok i wr => ok = .bool false ∧ i = .int .i64 0 ∧ Aft (w.alloc (.cells #[.slice As o.schemas.length caps, .slice At o.tables.length capt] 25)) wr) (fun _ _ _ => 0)
    case atStart => exact ⟨rfl, rfl, HAB.out⟩
    case round =>
      obtain ⟨rfl, rfl, ha⟩ := hrel
      have HAX := Lib.hid ha
      clear ha
      go_wp2_with fail
      go_loopw [3, 6] (fun ok i wr => ok = .bool false ∧ i = .int .i64 0 ∧ Aft (w.alloc (.cells #[.slice As o.schemas.length caps, .slice At o.tables.length capt] 25)) wr) (fun _ _ _ => 0)
      case atStart => exact ⟨rfl, rfl, HAX.out⟩
      case round =>
        obtain ⟨rfl, rfl, ha⟩ := hrel
        have HAY := Lib.hid ha
        clear ha
        go_wp2_with fail
        go_ret
        exact ⟨by rw [HF.out]; rfl, ((Aft.refl w).alloc _).trans HAY.out⟩
  go_wp2_with fail
  refine (C2.out _ HA.out).mono ?_
  rintro e w2 ⟨rfl, a2⟩
  have HAB2 := Lib.hid (HAB.out.trans a2)
  clear a2 C2 HAB HA hbox hfr hz hzk
  obtain ⟨hbox, hfr, hz, hzk, HA⟩ := aft_box HAB2.out
  cases g2
  · have HF := Lib.hid (show checkE o = 63 by rw [HR.out]; rfl)
    go_wp2_with fail
    go_loopw [3, 4] (fun ok i wr => ok = .bool false ∧ i = .int .i64 0 ∧ Aft (w.alloc (.cells #[.slice As o.schemas.length caps, .slice At o.tables.length capt] 25)) wr) (fun _ _ _ => 0)
    case atStart => exact ⟨rfl, rfl, HAB2.out⟩
    case round =>
      obtain ⟨rfl, rfl, ha⟩ := hrel
      have HAX := Lib.hid ha
      clear ha
      go_wp2_with fail
      go_loopw [3, 6] (fun ok i wr => ok = .bool false ∧ i = .int .i64 0 ∧ Aft (w.alloc (.cells #[.slice As o.schemas.length caps, .slice At o.tables.length capt] 25)) wr) (fun _ _ _ => 0)
      case atStart => exact ⟨rfl, rfl, HAX.out⟩
      case round =>
        obtain ⟨rfl, rfl, ha⟩ := hrel
        have HAY := Lib.hid ha
        clear ha
        go_wp2_with fail
        go_ret
        exact ⟨by rw [HF.out]; rfl, ((Aft.refl w).alloc _).trans HAY.out⟩
  have HR2 := Lib.hid (show checkE o = if (o.schemas.all (schOk o) && o.tables.all (rightT o)) then 0 else 63 by rw [HR.out]; rfl)
  clear HR
  go_wp2_with fail
  go_loopw [3, 4] (fun ok i wr => ∃ (k : Nat) (b : Bool), k ≤ o.schemas.length ∧ i = .int .i64 k ∧ ok = .bool b ∧ Aft (w.alloc (.cells #[.slice As o.schemas.length caps, .slice At o.tables.length capt] 25)) wr ∧ (b = true → ∀ j, j < k → ∀ (hj : j < o.schemas.length), schOk o o.schemas[j] = true) ∧ (b = false → checkE o = 63)) (fun ok i _ => o.schemas.length - (intOf i).toNat)
  case atStart => exact ⟨0, true, Nat.zero_le _, rfl, rfl, HAB2.out, fun _ j hj => absurd hj (Nat.not_lt_zero j), fun h => by cases h⟩
  case round =>
    clear hbox hfr hz hzk HA HAB2
    obtain ⟨k, b, hk, rfl, rfl, ha, hp, hq⟩ := hrel
    obtain ⟨hbox, hfr, hz, hzk, HA⟩ := aft_box ha
    have HAB := Lib.hid ha
    clear ha
    cases b
    · have HF := Lib.hid (hq rfl)
      clear hp hq
      go_wp2_with fail
      go_loopw [3, 6] (fun ok i wr => ok = .bool false ∧ i = .int .i64 0 ∧ Aft (w.alloc (.cells #[.slice As o.schemas.length caps, .slice At o.tables.length capt] 25)) wr) (fun _ _ _ => 0)
      case atStart => exact ⟨rfl, rfl, HAB.out⟩
      case round =>
        obtain ⟨rfl, rfl, ha⟩ := hrel
        have HAY := Lib.hid ha
        clear ha
        go_wp2_with fail
        go_ret
        exact ⟨by rw [HF.out]; rfl, ((Aft.refl w).alloc _).trans HAY.out⟩
    have HP := Lib.hid (hp rfl)
    clear hp hq
    by_cases hlt : k < o.schemas.length
    · have hss := schs_aft HA.out hsch
      obtain ⟨b, off, rfl, hb, c0, c1, s0, s1⟩ := sch_at hss hlt
      obtain ⟨p, hpp⟩ : ∃ p, o.schemas[k] = p := ⟨_, rfl⟩
      rw [hpp] at c0 c1 s0 s1
      have HO := Lib.hid (show schOk o o.schemas[k] = (nameB p.name && nameB p.owner && decide (within o.tables p.name ≤ 8)) by rw [hpp]; rfl)
      clear hpp hss
      cases hN : nameB p.name
      · have HF := Lib.hid (show checkE o = 63 by rw [HR2.out, all_false _ _ k hlt (by rw [HO.out, hN]; rfl)]; rfl)
        go_wp2_with (go_at_call 33; refine (name_any _ _ (by first | exact s0.max | exact s1.max)).mono ?_; rintro e w' ⟨rfl, rfl⟩)
        go_roundw
        case rel => exact ⟨k + 1, false, by omega, by go_num, rfl, HAB.out.alloc _, (fun h => by cases h), fun _ => HF.out⟩
        case measure => simp [intOf]; omega
      cases hO : nameB p.owner
      · have HF := Lib.hid (show checkE o = 63 by rw [HR2.out, all_false _ _ k hlt (by rw [HO.out, hN, hO]; rfl)]; rfl)
        go_wp2_with (go_at_call 33; refine (name_any _ _ (by first | exact s0.max | exact s1.max)).mono ?_; rintro e w' ⟨rfl, rfl⟩)
        go_roundw
        case rel => exact ⟨k + 1, false, by omega, by go_num, rfl, HAB.out.alloc _, (fun h => by cases h), fun _ => HF.out⟩
        case measure => simp [intOf]; omega
      obtain ⟨n, hn⟩ : ∃ n, within o.tables p.name = n := ⟨_, rfl⟩
      have Cw := Lib.hid (show ∀ w', Aft w w' → Calls Try.prog 34 #[.agg #[.slice (some ⟨b, off, none⟩) o.schemas.length caps, .slice At o.tables.length capt], .string p.name] w' fun e w'' => e = .returned (.int .i64 n) ∧ Aft w' w'' from
        fun w' a => (within_any _ At capt o.tables p.name w' (tabs_aft a htab)).mono fun e w'' ⟨he, hw⟩ => ⟨he.trans (by rw [← hn]), hw⟩)
      have HO2 := Lib.hid (show schOk o o.schemas[k] = decide (n ≤ 8) by rw [HO.out, hN, hO, hn]; rfl)
      clear HO hn
      go_wp2_with (go_at_call 33; refine (name_any _ _ (by first | exact s0.max | exact s1.max)).mono ?_; rintro e w' ⟨rfl, rfl⟩)
      refine (Cw.out _ (HA.out.alloc _)).mono ?_
      rintro e w3 ⟨rfl, a3⟩
      have HAB3 := Lib.hid ((HAB.out.alloc _).trans a3)
      clear a3 Cw
      by_cases h8 : n ≤ 8
      · have h8' : (n : Int) ≤ 8 := by omega
        have HN := Lib.hid (ext_lt (p := fun j => ∀ (hj : j < o.schemas.length), schOk o o.schemas[j] = true) HP.out (fun _ => by rw [HO2.out]; exact decide_eq_true h8))
        go_wp2_with fail
        go_roundw
        case rel => exact ⟨k + 1, true, by omega, by go_num, by simp, HAB3.out, fun _ => HN.out, fun h => by cases h⟩
        case measure => simp [intOf]; omega
      · have h8' : ¬ (n : Int) ≤ 8 := by omega
        have HF := Lib.hid (show checkE o = 63 by rw [HR2.out, all_false _ _ k hlt (by rw [HO2.out]; exact decide_eq_false h8)]; rfl)
        go_wp2_with fail
        go_roundw
        case rel => exact ⟨k + 1, false, by omega, by go_num, by simp [h8'], HAB3.out, (fun h => by cases h), fun _ => HF.out⟩
        case measure => simp [intOf]; omega
    have HR3 := Lib.hid (show checkE o = if o.tables.all (rightT o) then 0 else 63 by rw [HR2.out, all_true _ _ fun j hj => HP.out j (by omega) hj]; rfl)
    clear HP HR2
    go_wp2_with fail
    go_loopw [3, 6] (fun ok i wr => ∃ (k : Nat) (b : Bool), k ≤ o.tables.length ∧ i = .int .i64 k ∧ ok = .bool b ∧ Aft (w.alloc (.cells #[.slice As o.schemas.length caps, .slice At o.tables.length capt] 25)) wr ∧ (b = true → ∀ j, j < k → ∀ (hj : j < o.tables.length), rightT o o.tables[j] = true) ∧ (b = false → checkE o = 63)) (fun ok i _ => o.tables.length - (intOf i).toNat)
    case atStart => exact ⟨0, true, Nat.zero_le _, rfl, rfl, HAB.out, fun _ j hj => absurd hj (Nat.not_lt_zero j), fun h => by cases h⟩
    case round =>
      clear hbox hfr hz hzk HA HAB
      obtain ⟨k2, b, hk2, rfl, rfl, ha, hp, hq⟩ := hrel
      obtain ⟨hbox, hfr, hz, hzk, HA⟩ := aft_box ha
      have HAB := Lib.hid ha
      clear ha
      cases b
      · have HF := Lib.hid (hq rfl)
        clear hp hq
        go_wp2_with fail
        go_ret
        exact ⟨by rw [HF.out]; rfl, HA.out⟩
      have HP := Lib.hid (hp rfl)
      clear hp hq
      by_cases hlt2 : k2 < o.tables.length
      · have htt := tabs_aft HA.out htab
        have hss := schs_aft HA.out hsch
        obtain ⟨b, off, B2, capB2, B3, capB3, rfl, hb, c0, c1, c2, c3, c4, hcols, hrules, s0, s1, s2⟩ := tab_at htt hlt2
        obtain ⟨p, hpp⟩ : ∃ p, o.tables[k2] = p := ⟨_, rfl⟩
        rw [hpp] at c0 c1 c2 c3 c4 hcols hrules s0 s1 s2
        obtain ⟨f, hf⟩ : ∃ f, rightT o p = f := ⟨_, rfl⟩
        have HO := Lib.hid (show rightT o o.tables[k2] = f by rw [hpp]; exact hf)
        have Cr := Lib.hid (show ∀ x : Lat wr, Calls Try.prog 35 #[.agg #[.slice As o.schemas.length caps, .slice (some ⟨b, off, none⟩) o.tables.length capt], .agg #[.string p.schema, .string p.name, .string p.owner, .slice B2 p.cols.length capB2, .slice B3 p.rules.length capB3]] (lat wr x) fun e w' => e = .returned (.bool f) ∧ Aft (lat wr x) w' from
          fun x => (right_any o p As caps _ capt B2 capB2 B3 capB3 (lat wr x) (schs_aft ((Aft.refl wr).lat x) hss) (tabs_aft ((Aft.refl wr).lat x) htt) (cols_aft ((Aft.refl wr).lat x) hcols) (ruls_aft ((Aft.refl wr).lat x) hrules) s1 s2).mono fun e w'' ⟨he, hw⟩ => ⟨he.trans (by rw [← hf]), hw⟩)
        clear hf hpp htt hss hcols hrules
        go_wp2_with fail
        refine wp_region_lat (by kernel_rfl) (by kernel_rfl) ?_
        repeat (go_big_quiet_step ((first | (go_at_call 35; exact Calls.lat_of (Cr.out _)))))
        refine wpQuiet_nil ?_
        intro _ hw'
        obtain ⟨x, hw''⟩ := hw'
        subst hw''
        cases f
        · have HF := Lib.hid (show checkE o = 63 by rw [HR3.out, all_false _ _ k2 hlt2 HO.out]; rfl)
          go_wp2_with fail
          go_roundw
          case rel => exact ⟨k2 + 1, false, by omega, by go_num, rfl, HAB.out.lat x, (fun h => by cases h), fun _ => HF.out⟩
          case measure => simp [intOf]; omega
        · have HN := Lib.hid (ext_lt (p := fun j => ∀ (hj : j < o.tables.length), rightT o o.tables[j] = true) HP.out (fun _ => HO.out))
          go_wp2_with fail
          go_roundw
          case rel => exact ⟨k2 + 1, true, by omega, by go_num, rfl, HAB.out.lat x, fun _ => HN.out, fun h => by cases h⟩
          case measure => simp [intOf]; omega
      · have HF := Lib.hid (show checkE o = 0 by rw [HR3.out, all_true _ _ fun j hj => HP.out j (by omega) hj]; rfl)
        go_wp2_with fail
        go_ret
        exact ⟨by rw [HF.out]; rfl, HA.out⟩
end Go.Proofs.Ytiadkchlkdaceaa

namespace Go.Proofs.Ytiadkchlkdaceaa
open Go.RowKit Go.Deep
set_option maxRecDepth 100000
set_option linter.unusedVariables false
/-- right objects are no great ones -/
theorem check_mod {o : Objs} (h : checkO o = true) : ModO o := by
  unfold checkO headOk at h
  simp only [Bool.and_eq_true, decide_eq_true_eq, List.all_eq_true] at h
  obtain ⟨⟨⟨⟨h1, h2⟩, _⟩, _⟩, _, h3⟩ := h
  refine ⟨by omega, by omega, fun t ht => ?_⟩
  have h4 := h3 t ht
  unfold rightT at h4
  simp only [Bool.and_eq_true, decide_eq_true_eq, List.all_eq_true] at h4
  obtain ⟨⟨⟨⟨_, h5⟩, h6⟩, _⟩, h7, _⟩ := h4
  have h8 : t.cols.length ≤ 8 := by unfold colsOk at h5; simp only [Bool.and_eq_true, decide_eq_true_eq] at h5; exact h5.1.2
  refine ⟨by omega, by omega, fun r hr => ?_⟩
  have h9 := h7 r hr
  unfold ruleOk at h9
  simp only [Bool.and_eq_true] at h9
  have h1 : rcOk t.cols r.cols = true := by have hf := h9.1; unfold fitsOk at hf; simp only [Bool.and_eq_true] at hf; exact hf.1.1.1
  have := rc_len t.cols r.cols h1
  omega
/-- what comes out: r's objects in memory of their own, and an error's number -/
def ObjP (w : World) (r : Objs × Int) (e : Ending) (w' : World) : Prop :=
  ∃ hs ht L, L.map OTab.t = r.1.tables ∧ e = .returned (.tuple #[.agg #[.slice hs.a r.1.schemas.length hs.c, .slice ht.a r.1.tables.length ht.c], .int .i64 r.2]) ∧ Aft w w' ∧ ObjIn w' w.heap.size hs ht r.1.schemas L
end Go.Proofs.Ytiadkchlkdaceaa

namespace Go.Proofs.Ytiadkchlkdaceaa
open Go.RowKit Go.Deep
set_option maxRecDepth 100000
set_option linter.unusedVariables false
theorem mem_set_cases {α : Type} {L : List α} {q : Nat} {x y : α} (hq : q < L.length) (h : x ∈ L.set q y) : x = y ∨ ∃ i, ∃ hi : i < L.length, i ≠ q ∧ x = L[i] := by
  obtain ⟨i, hi, rfl⟩ := List.getElem_of_mem h
  rw [List.length_set] at hi
  by_cases e : i = q
  · subst e; exact .inl (by simp)
  · exact .inr ⟨i, hi, e, by rw [List.getElem_set_ne (fun h => e h.symm)]⟩
/-- a cell of the table q is written: the table is y then -/
theorem ObjIn.put {w : World} {B gt q j : Nat} {hs ht : Hd} {ss : List Sch} {L : List OTab} {y : OTab} {u : Value} (hsch : w.ownsRow B 91 2 hs.v ss.length (ss.flatMap schC)) (htab : w.ownsRow B 61 5 ht.v L.length (L.flatMap OTab.cells))
    (hoth : ∀ i (hi : i < L.length), i ≠ q → TabIn w B L[i]) (hy : TabIn w B y) (hnd : (hs.blk ++ (ht.blk ++ (L.set q y).flatMap OTab.blks)).Nodup) (hgt : ht.a = some ⟨gt, 0, none⟩) (hq : q < L.length) (hj : j < 5) (hc : y.cells = L[q].cells.set j u) :
    ObjIn (w.setCell ⟨gt, q * 5 + j, none⟩ u) B hs ht ss (L.set q y) := by
  have hg : gt ∈ ht.blk := by rw [Hd.mem_blk]; unfold Hd.v; rw [hgt]; rfl
  have k := Kb.set w gt (q * 5 + j) u
  obtain ⟨_, n2, d1⟩ := List.nodup_append.1 hnd
  obtain ⟨_, _, d2⟩ := List.nodup_append.1 n2
  refine ⟨own_kb hsch k (fun g h1 e => d1 g (Hd.mem_blk.2 h1) g (by rw [e]; simp [hg]) rfl), ?_, fun x hx => ?_, hnd⟩
  · have := own_set htab (Hd.mem_blk.1 hg) (q * 5 + j) u
    rw [flatMap_set (size := 5) (fun _ => rfl) L q j hq hj u y hc] at this
    rw [List.length_set]; exact this
  · have hb : ∀ g ∈ x.blks, ¬ g = gt := fun g h1 e => d2 gt hg g (List.mem_flatMap.2 ⟨x, hx, h1⟩) e.symm
    rcases mem_set_cases hq hx with rfl | ⟨i, hi, hne, rfl⟩
    · exact hy.kb k hb
    · exact (hoth i hi hne).kb k hb
/-- the cells of a table -/
theorem ObjIn.cell {w : World} {B gt q j : Nat} {hs ht : Hd} {ss : List Sch} {L : List OTab} (h : ObjIn w B hs ht ss L) (hgt : ht.a = some ⟨gt, 0, none⟩) (hq : q < L.length) (hj : j < 5) : w.cell? ⟨gt, q * 5 + j, none⟩ = L[q].cells[j]? := own_cell h.tab (fun _ => rfl) hgt hq hj
theorem ObjIn.row {w : World} {B gt q : Nat} {hs ht : Hd} {ss : List Sch} {L : List OTab} (h : ObjIn w B hs ht ss L) (hgt : ht.a = some ⟨gt, 0, none⟩) (hq : q < L.length) : gt < w.heap.size ∧ B ≤ gt ∧ ∀ j, j < 5 → w.frozen? ⟨gt, q * 5 + j, none⟩ = false := by
  obtain ⟨g, hg, hb, hr⟩ := own_place h.tab (by omega)
  rw [hgt] at hg
  simp only [Option.some.injEq, Addr.mk.injEq, and_true] at hg
  subst hg
  refine ⟨hr.1, hb, fun j hj => hr.2.2 _ ?_⟩
  rw [flatMap_len (size := 5) (fun _ => rfl)]
  have : (q + 1) * 5 ≤ L.length * 5 := Nat.mul_le_mul_right _ hq
  omega
end Go.Proofs.Ytiadkchlkdaceaa

namespace Go.Proofs.Ytiadkchlkdaceaa
open Go.RowKit Go.Deep
set_option maxRecDepth 100000
set_option linter.unusedVariables false
structure RCopyS (w wr : World) (t : Tab) (A : Option Addr) (cap : Nat) (A2 : Option Addr) (cap2 : Nat) (hc hr : Hd) (L : List ORul) (k : Nat) : Prop where
  aft : Aft w wr
  box : RowAt wr w.heap.size [.string t.schema, .string t.name, .string t.owner, .slice A t.cols.length cap, .slice A2 t.rules.length cap2]
  out : RowAt wr (w.heap.size + 1) [.string ⟨#[]⟩, .string ⟨#[]⟩, .string ⟨#[]⟩, .slice none 0 0, .slice none 0 0]
  col : wr.ownsRow (w.heap.size + 2) 82 3 hc.v t.cols.length (t.cols.flatMap colC)
  rul : wr.ownsRow (w.heap.size + 2) 64 8 hr.v k (L.flatMap ORul.cells)
  len : L.length = k
  is : L.map (·.r) = t.rules.take k
  each : ∀ x ∈ L, RulIn wr (w.heap.size + 2) x
  nd : (hc.blk ++ (hr.blk ++ L.flatMap (·.h.blk))).Nodup
theorem RCopyS.lt {w wr : World} {t : Tab} {A A2 : Option Addr} {cap cap2 : Nat} {hc hr : Hd} {L : List ORul} {k : Nat} (s : RCopyS w wr t A cap A2 cap2 hc hr L k) : ∀ g ∈ hc.blk ++ (hr.blk ++ L.flatMap (·.h.blk)), w.heap.size + 2 ≤ g ∧ g < wr.heap.size := by
  intro g hg
  simp only [List.mem_append, List.mem_flatMap] at hg
  rcases hg with hg | hg | ⟨r, hr, hg⟩
  · exact blk_lt s.col g hg
  · exact blk_lt s.rul g hg
  · exact blk_lt (s.each r hr).nam g hg
theorem RCopyS.step {w wr w4 w5 : World} {t : Tab} {A A2 : Option Addr} {cap cap2 : Nat} {hc hr hr' h4 : Hd} {L : List ORul} {k : Nat} (s : RCopyS w wr t A cap A2 cap2 hc hr L k) (hk : k < t.rules.length)
    (a4 : Aft wr w4) (own4 : w4.ownsRow wr.heap.size 9 1 h4.v t.rules[k].cols.length (t.rules[k].cols.flatMap nameC)) (hg : w4.grownBy w5 hr.v.ownBlock)
    (ho : w5.ownsRow (w.heap.size + 2) 64 8 hr'.v (k + 1) (L.flatMap ORul.cells ++ rulC t.rules[k] h4)) (hb : ∀ g ∈ hr'.blk, g ∈ hr.blk ∨ w4.heap.size ≤ g) : RCopyS w w5 t A cap A2 cap2 hc hr' (L ++ [⟨t.rules[k], h4⟩]) (k + 1) := by
  have hlt := s.lt
  have nd := s.nd
  have nd2 := (List.nodup_append.1 nd).2.1
  have kg : Kb (fun g => hr.v.ownBlock = some g) w4 w5 := Kb.of_grown hg
  have ka : Kb (fun g => hr.v.ownBlock = some g) wr w5 := (Kb.of_aft a4).trans kg
  have hrl : ∀ g, hr.v.ownBlock = some g → w.heap.size + 2 ≤ g ∧ g < wr.heap.size := fun g h1 => s.rul.lt g h1
  have hz := a4.size
  have hzo := s.out.1
  have hx4 : ∀ g ∈ h4.blk, wr.heap.size ≤ g ∧ g < w4.heap.size := blk_lt own4
  refine ⟨ka.to_aft s.aft (fun g hgl h1 => by have := hrl g h1; omega), ka.row s.box (fun h1 => by have := hrl _ h1; omega), ka.row s.out (fun h1 => by have := hrl _ h1; omega), own_kb s.col ka (fun g hg1 hg2 => nodup_disj nd (Hd.mem_blk.2 hg1) (by simp [Hd.mem_blk.2 hg2])), ?_, by simp [s.len], ?_, ?_, ?_⟩
  · rw [List.flatMap_append]
    simpa [ORul.cells] using ho
  · rw [List.map_append, s.is, List.take_succ_eq_append_getElem hk]; rfl
  · intro x hx
    simp only [List.mem_append, List.mem_singleton] at hx
    rcases hx with hx | rfl
    · exact (s.each x hx).kb ka fun g hg1 hg2 => nodup_disj nd2 (Hd.mem_blk.2 hg2) (List.mem_flatMap.2 ⟨x, hx, hg1⟩)
    · exact ⟨own_down (own_kb own4 kg fun g hg1 hg2 => by have := (own4.lt g hg1).1; have := (hrl g hg2).2; omega) (by omega)⟩
  · rw [List.flatMap_append]
    have e : [ORul.mk t.rules[k] h4].flatMap (·.h.blk) = h4.blk := by simp
    rw [e]
    refine List.nodup_append.2 ⟨(List.nodup_append.1 nd).1, List.nodup_append.2 ⟨blk_nodup _, nodup_more (List.nodup_append.1 nd2).2.1 (blk_nodup _) (fun g hg => (hlt g (by simp only [List.mem_append]; exact .inr (.inr hg))).2) (fun g hg => (hx4 g hg).1), ?_⟩, ?_⟩
    · intro a ha b hb2 e
      subst e
      rcases List.mem_append.1 hb2 with h1 | h1
      · rcases hb a ha with h2 | h2
        · exact nodup_disj nd2 h2 h1
        · have := (hlt a (by simp only [List.mem_append]; exact .inr (.inr h1))).2; omega
      · rcases hb a ha with h2 | h2
        · have := (hlt a (by simp [h2])).2; have := (hx4 a h1).1; omega
        · have := (hx4 a h1).2; omega
    · intro a ha b hb2 e
      subst e
      have := (hlt a (by simp [ha])).2
      rcases List.mem_append.1 hb2 with h1 | h1
      · rcases hb a h1 with h2 | h2
        · exact nodup_disj nd ha (by simp [h2])
        · omega
      · rcases List.mem_append.1 h1 with h1 | h1
        · exact nodup_disj nd ha (List.mem_append.2 (.inr h1))
        · have := (hx4 a h1).1; omega
end Go.Proofs.Ytiadkchlkdaceaa

namespace Go.Proofs.Ytiadkchlkdaceaa
open Go.RowKit Go.Deep
set_option maxRecDepth 100000
set_option linter.unusedVariables false
def zeroT : Tab := ⟨⟨#[]⟩, ⟨#[]⟩, ⟨#[]⟩, [], []⟩
def findR (o : Objs) (s n : ByteArray) : Tab × Int :=
  if checkO o then (match o.tables[(tabAt o.tables s n).toNat]? with | some t => if tabAt o.tables s n < 0 then (zeroT, 61) else (t, 0) | none => (zeroT, 61)) else (zeroT, 63)
theorem findR_no {o : Objs} {s n : ByteArray} (h : checkO o = false) : findR o s n = (zeroT, 63) := by unfold findR; rw [h]; rfl
theorem findR_none {o : Objs} {s n : ByteArray} (h : checkO o = true) (hi : tabAt o.tables s n < 0) : findR o s n = (zeroT, 61) := by
  unfold findR; rw [h, if_pos rfl]; split
  · rw [if_pos hi]
  · rfl
theorem findR_some {o : Objs} {s n : ByteArray} {q : Nat} (h : checkO o = true) (hi : tabAt o.tables s n = q) (hq : q < o.tables.length) : findR o s n = (o.tables[q], 0) := by
  unfold findR; rw [h, if_pos rfl, hi]
  simp only [Int.toNat_natCast, List.getElem?_eq_getElem hq]
  rw [if_neg (by omega)]
def FindP (w : World) (r : Tab × Int) (e : Ending) (w' : World) : Prop :=
  ∃ x : OTab, x.t = r.1 ∧ e = .returned (.tuple #[.agg #[.string r.1.schema, .string r.1.name, .string r.1.owner, .slice x.hc.a r.1.cols.length x.hc.c, .slice x.hr.a r.1.rules.length x.hr.c], .int .i64 r.2]) ∧ Aft w w' ∧ TabIn w' w.heap.size x ∧ x.blks.Nodup
theorem findP_zero {w w' : World} {c : Int} (a : Aft w w') : FindP w (zeroT, c) (.returned (.tuple #[.agg #[.string ⟨#[]⟩, .string ⟨#[]⟩, .string ⟨#[]⟩, .slice none 0 0, .slice none 0 0], .int .i64 c])) w' :=
  ⟨⟨⟨#[]⟩, ⟨#[]⟩, ⟨#[]⟩, [], [], ⟨none, 0, 0⟩, ⟨none, 0, 0⟩⟩, rfl, rfl, a, ⟨own_nil _ _ _ _, own_nil _ _ _ _, fun x hx => by simp at hx⟩, by simp [OTab.blks, blk_nil]⟩
theorem setT_row {w : World} {b : Nat} {xs : List Value} (h : RowAt w b xs) (hl : xs.length = 5) (v0 v1 v2 v3 v4 : Value) : RowAt (((((w.setCell ⟨b, 0, none⟩ v0).setCell ⟨b, 1, none⟩ v1).setCell ⟨b, 2, none⟩ v2).setCell ⟨b, 3, none⟩ v3).setCell ⟨b, 4, none⟩ v4) b [v0, v1, v2, v3, v4] := by
  match xs, hl with
  | [a, b, c, d, e], _ => exact ((((h.set 0 _ (by simp)).set 1 _ (by simp)).set 2 _ (by simp)).set 3 _ (by simp)).set 4 _ (by simp)
theorem setT_kb (w : World) (b : Nat) (v0 v1 v2 v3 v4 : Value) : Kb (fun g => g = b) w (((((w.setCell ⟨b, 0, none⟩ v0).setCell ⟨b, 1, none⟩ v1).setCell ⟨b, 2, none⟩ v2).setCell ⟨b, 3, none⟩ v3).setCell ⟨b, 4, none⟩ v4) :=
  ((((Kb.set _ _ _ _).trans (Kb.set _ _ _ _)).trans (Kb.set _ _ _ _)).trans (Kb.set _ _ _ _)).trans (Kb.set _ _ _ _)
set_option maxHeartbeats 8000000 in
theorem find_in (o : Objs) (As : Option Addr) (caps : Nat) (At : Option Addr) (capt : Nat) (s n : ByteArray) (w : World) (hsch : SlAt w 2 SchR As caps o.schemas) (htab : SlAt w 5 TabR At capt o.tables) :
    Calls Try.prog 14 #[.agg #[.slice As o.schemas.length caps, .slice At o.tables.length capt], .string s, .string n] w (FindP w (findR o s n)) := by
  have hlen := hsch.len
  have hlen2 := htab.len
  have l1 : w.heap.size < w.heap.size + 1 := by omega
  have l2 : w.heap.size < w.heap.size + 1 + 1 := by omega
  obtain ⟨W, hW⟩ : ∃ W, W = (w.alloc (.cells #[.slice As o.schemas.length caps, .slice At o.tables.length capt] 25)).alloc (.cells #[.string ⟨#[]⟩, .string ⟨#[]⟩, .string ⟨#[]⟩, .slice none 0 0, .slice none 0 0] 61) := ⟨_, rfl⟩
  have aW : Aft w W := by rw [hW]; exact ((Aft.refl w).alloc _).alloc _
  have r1 : RowAt W w.heap.size [.slice As o.schemas.length caps, .slice At o.tables.length capt] := by rw [hW]; exact (box_row2 (Aft.refl _)).aft ((Aft.refl _).alloc _)
  have r2 : RowAt W (w.heap.size + 1) [.string ⟨#[]⟩, .string ⟨#[]⟩, .string ⟨#[]⟩, .slice none 0 0, .slice none 0 0] := by
    rw [hW]
    have := (box_row2 (w := w.alloc (.cells #[.slice As o.schemas.length caps, .slice At o.tables.length capt] 25)) (c := [.string ⟨#[]⟩, .string ⟨#[]⟩, .string ⟨#[]⟩, .slice none 0 0, .slice none 0 0]) (t := 61) (Aft.refl _))
    simpa using this
  have zW : W.heap.size = w.heap.size + 2 := by rw [hW]; simp
  obtain ⟨c, hc⟩ : ∃ c, checkO o = c := ⟨_, rfl⟩
  obtain ⟨i, hi⟩ : ∃ i, tabAt o.tables s n = i := ⟨_, rfl⟩
  have hir : -1 ≤ i ∧ i < o.tables.length := by rw [← hi]; exact idxP_range _ _
  have CK := Lib.hid (show ∀ w', Aft w w' → Calls Try.prog 13 #[.agg #[.slice As o.schemas.length caps, .slice At o.tables.length capt]] w' fun e w'' => e = .returned (.int .i64 (if c = true then 0 else 63)) ∧ Aft w' w'' from
    fun w' a => (check_any o As caps At capt w' (schs_aft a hsch) (tabs_aft a htab)).mono fun e w'' ⟨he, hw⟩ => ⟨he.trans (by unfold checkE; rw [hc]), hw⟩)
  have CW := Lib.hid (show ∀ w', Aft w w' → Calls Try.prog 36 #[.agg #[.slice As o.schemas.length caps, .slice At o.tables.length capt], .string s, .string n] w' fun e w'' => e = .returned (.tuple #[.int .i64 i, .bool (decide (0 ≤ i))]) ∧ Aft w' w'' from
    fun w' a => (where_any (.slice As o.schemas.length caps) At capt o.tables s n w' (tabs_aft a htab)).mono fun e w'' ⟨he, hw⟩ => ⟨he.trans (by rw [hi]), hw⟩)
  have HC := Lib.hid hc
  have HI := Lib.hid hi
  have HT := Lib.hid htab
  have HAW := Lib.hid aW
  have HR1 := Lib.hid r1
  have HR2 := Lib.hid r2
  have HZ := Lib.hid zW
  clear hc hi hsch htab r1 r2 aW zW
  go_enter Try.func14, Try.ntmps14
  go_wp2_with fail
  rw [← hW]
  clear hW
  refine (CK.out W HAW.out).mono ?_
  rintro e w1 ⟨rfl, a1⟩
  have b2 := HR2.out.aft a1
  have d0 := b2.cell (j := 0) rfl
  have d1 := b2.cell (j := 1) rfl
  have d2 := b2.cell (j := 2) rfl
  have d3 := b2.cell (j := 3) rfl
  have d4 := b2.cell (j := 4) rfl
  have f0 := b2.2.2 0 (by simp)
  have f1 := b2.2.2 1 (by simp)
  have f2 := b2.2.2 2 (by simp)
  have f3 := b2.2.2 3 (by simp)
  have f4 := b2.2.2 4 (by simp)
  have z2 := b2.1
  have HA1 := Lib.hid (HAW.out.trans a1)
  have HB2 := Lib.hid b2
  have b1 := HR1.out.aft a1
  have c0 := b1.cell (j := 0) rfl
  have c1 := b1.cell (j := 1) rfl
  have z1 := b1.1
  have HB1 := Lib.hid b1
  have HZ1 := Lib.hid (show w.heap.size + 2 ≤ w1.heap.size by have := a1.size; have := HZ.out; omega)
  clear a1 b2 b1
  cases c
  · go_wp2_with fail
    refine bodyPost_ret (results_cell_tmp (v := .agg #[.string ⟨#[]⟩, .string ⟨#[]⟩, .string ⟨#[]⟩, .slice none 0 0, .slice none 0 0]) rfl _ rfl ?hl) rfl ?_
    case hl => exact lvTab_row (setT_row HB2.out rfl _ _ _ _ _)
    rw [findR_no HC.out]
    exact findP_zero ((setT_kb _ _ _ _ _ _ _).to_aft HA1.out (fun g hg e => by omega))
  · go_wp2_with fail
    refine (CW.out w1 HA1.out).mono ?_
    rintro e w2 ⟨rfl, a2⟩
    have b2 := HB2.out.aft a2
    have d0 := b2.cell (j := 0) rfl
    have d1 := b2.cell (j := 1) rfl
    have d2 := b2.cell (j := 2) rfl
    have d3 := b2.cell (j := 3) rfl
    have d4 := b2.cell (j := 4) rfl
    have f0 := b2.2.2 0 (by simp)
    have f1 := b2.2.2 1 (by simp)
    have f2 := b2.2.2 2 (by simp)
    have f3 := b2.2.2 3 (by simp)
    have f4 := b2.2.2 4 (by simp)
    have z2 := b2.1
    have HA2 := Lib.hid (HA1.out.trans a2)
    have HB2' := Lib.hid b2
    have b1 := HB1.out.aft a2
    have c1 := b1.cell (j := 1) rfl
    have z1 := b1.1
    have HZ2 := Lib.hid (show w.heap.size + 2 ≤ w2.heap.size by have := a2.size; have := HZ1.out; omega)
    clear a2 b2 b1
    by_cases h0 : 0 ≤ i
    · obtain ⟨q, rfl⟩ := Int.eq_ofNat_of_zero_le h0
      have hq : q < o.tables.length := by omega
      obtain ⟨b, off, A2, cap2, A3, cap3, rfl, hb, t0, t1, t2, t3, t4, hcols, hruls, hss⟩ := tab_at (tabs_aft HA2.out HT.out) hq
      have hd : decide (0 ≤ (q : Int)) = true := by simp
      have CP := Lib.hid (copied_in o.tables[q] A2 cap2 A3 cap3 w2 hcols hruls (by have := (check_mod HC.out).2.2 o.tables[q] (List.getElem_mem hq); exact this))
      have HE := Lib.hid (findR_some HC.out HI.out hq)
      obtain ⟨p, hp⟩ : ∃ p, o.tables[q] = p := ⟨_, rfl⟩
      rw [hp] at t0 t1 t2 t3 t4 CP HE
      clear hp hcols hruls hss h0 hir
      go_wp2_with fail
      refine CP.out.mono ?_
      rintro e w3 ⟨x, hx, rfl, a3, tin, xnd⟩
      have b2 := HB2'.out.aft a3
      have d0 := b2.cell (j := 0) rfl
      have d1 := b2.cell (j := 1) rfl
      have d2 := b2.cell (j := 2) rfl
      have d3 := b2.cell (j := 3) rfl
      have d4 := b2.cell (j := 4) rfl
      have f0 := b2.2.2 0 (by simp)
      have f1 := b2.2.2 1 (by simp)
      have f2 := b2.2.2 2 (by simp)
      have f3 := b2.2.2 3 (by simp)
      have f4 := b2.2.2 4 (by simp)
      have z2 := b2.1
      have HA3 := Lib.hid (HA2.out.trans a3)
      have HB3 := Lib.hid b2
      have HTI := Lib.hid tin
      have HX := Lib.hid hx
      have HN := Lib.hid xnd
      clear a3 b2 tin hx xnd
      go_wp2_with fail
      refine bodyPost_ret (results_cell_tmp (v := .agg #[.string p.schema, .string p.name, .string p.owner, .slice x.hc.a p.cols.length x.hc.c, .slice x.hr.a p.rules.length x.hr.c]) rfl _ rfl ?hl) rfl ?_
      case hl => exact lvTab_row (setT_row HB3.out rfl _ _ _ _ _)
      rw [HE.out]
      refine ⟨x, HX.out, rfl, (setT_kb _ _ _ _ _ _ _).to_aft HA3.out (fun g hg e => by omega), ?_, HN.out⟩
      have hz2 := HZ2.out
      refine TabIn.down (HTI.out.kb (setT_kb _ _ _ _ _ _ _) fun g hg e => ?_) (show w.heap.size ≤ w2.heap.size by omega)
      have := (HTI.out.lt g hg).1
      omega
    · have hd : decide (0 ≤ i) = false := by simpa using h0
      go_wp2_with fail
      refine bodyPost_ret (results_cell_tmp (v := .agg #[.string ⟨#[]⟩, .string ⟨#[]⟩, .string ⟨#[]⟩, .slice none 0 0, .slice none 0 0]) rfl _ rfl ?hl3) rfl ?_
      case hl3 => exact lvTab_row (setT_row HB2'.out rfl _ _ _ _ _)
      rw [findR_none HC.out (by rw [HI.out]; omega)]
      exact findP_zero ((setT_kb _ _ _ _ _ _ _).to_aft HA2.out (fun g hg e => by omega))
end Go.Proofs.Ytiadkchlkdaceaa

namespace Go.Proofs.Ytiadkchlkdaceaa
open Go.RowKit
set_option linter.unusedVariables false
/-- a table and its rows -/
structure Shf where
  t : Tab
  rows : List (List Val)
structure ROp where
  kind : Int
  role : ByteArray
  schema : ByteArray
  table : ByteArray
  row : List Val
  col : ByteArray
  v : Val
def noShf : Shf := ⟨zeroT, []⟩
def shfAt (S : List Shf) (s n : ByteArray) : Int := idxP (fun x : Shf => eqS x.t.schema s && eqS x.t.name n) S
def shfN (S : List Shf) (q : Nat) : Shf := S[q]?.getD noShf
/-- has one of some rows these values in these columns? -/
def hasR12 (l : List Col) (rows : List (List Val)) (cs : List ByteArray) (want : List Val) : Bool := rows.any fun row => eqVs (ofVs l cs row) want
def isKey (key : ByteArray) (r : Rul) : Bool := r.kind == 2 && eqS r.name key
/-- the columns of a table's key -/
def keyOf (t : Tab) (key : ByteArray) : List ByteArray := ((t.rules.find? (isKey key)).map (·.cols)).getD []
def keyHit (t : Tab) (rows : List (List Val)) (row : List Val) (r : Rul) : Bool := r.kind == 2 && (wholeV (ofVs t.cols r.cols row) && hasR12 t.cols rows r.cols (ofVs t.cols r.cols row))
/-- the rows among which a foreign rule's key must be -/
def amongS (S : List Shf) (q p : Nat) (row : List Val) : List (List Val) := if p = q then (shfN S p).rows ++ [row] else (shfN S p).rows
def farHit (S : List Shf) (q : Nat) (row : List Val) (r : Rul) : Bool :=
  r.kind == 4 && (wholeV (ofVs (shfN S q).t.cols r.cols row) && !hasR12 (shfN S (shfAt S r.schema r.table).toNat).t.cols (amongS S q (shfAt S r.schema r.table).toNat row) (keyOf (shfN S (shfAt S r.schema r.table).toNat).t r.key) (ofVs (shfN S q).t.cols r.cols row))
/-- why a row may not be laid -/
def wrongS (S : List Shf) (q : Nat) (row : List Val) : Int :=
  if fitE (shfN S q).t row ≠ 0 then fitE (shfN S q).t row
  else if 64 ≤ (shfN S q).rows.length then 2
  else if (shfN S q).t.rules.any (keyHit (shfN S q).t (shfN S q).rows row) then 111
  else if (shfN S q).t.rules.any (farHit S q row) then 112
  else 0
/-- does a row need one that is gone? -/
def needS (x y : Shf) (q : Nat) (left gone : List (List Val)) (r : Rul) (row : List Val) : Bool :=
  wholeV (ofVs y.t.cols r.cols row) && (hasR12 x.t.cols gone (keyOf x.t r.key) (ofVs y.t.cols r.cols row) && !hasR12 x.t.cols left (keyOf x.t r.key) (ofVs y.t.cols r.cols row))
def needR (S : List Shf) (q : Nat) (left gone : List (List Val)) (y : Shf) (all : List (List Val)) (r : Rul) : Bool :=
  r.kind == 4 && (decide (shfAt S r.schema r.table = q) && all.any (needS (shfN S q) y q left gone r))
def heldS (S : List Shf) (q : Nat) (left gone : List (List Val)) : Bool :=
  (List.range S.length).any fun i => (shfN S i).t.rules.any (needR S q left gone (shfN S i) (if i = q then left else (shfN S i).rows))
def mayO (x : ROp) : Bool :=
  if x.kind == 1 then emp x.col && eqV x.v nilV
  else if x.kind == 2 then nameB x.col && (mayV x.v && decide (x.row.length = 0))
  else if x.kind == 3 then (nameB x.col && (mayV x.v && decide (x.row.length = 0))) || (emp x.col && (eqV x.v nilV && decide (x.row.length = 0)))
  else false
/-- is a row one whose column is a value? all are, if there is no column -/
def inS (l : List Col) (col : ByteArray) (v : Val) (row : List Val) : Bool := decide (colAt l col < 0) || eqV (valAt row (colAt l col)) v
def putS (S : List Shf) (q : Nat) (rows : List (List Val)) : List Shf := S.set q ⟨(shfN S q).t, rows⟩
def doS (S : List Shf) (x : ROp) : List Shf × List (List Val) × Int :=
  if mayO x = false then (S, [], 1)
  else if shfAt S x.schema x.table < 0 then (S, [], 110)
  else if emp x.col = false ∧ colAt (shfN S (shfAt S x.schema x.table).toNat).t.cols x.col < 0 then (S, [], 110)
  else if x.kind = 1 then
    (if wrongS S (shfAt S x.schema x.table).toNat x.row ≠ 0 then (S, [], wrongS S (shfAt S x.schema x.table).toNat x.row)
     else (putS S (shfAt S x.schema x.table).toNat ((shfN S (shfAt S x.schema x.table).toNat).rows ++ [x.row]), [x.row], 0))
  else
    let y := shfN S (shfAt S x.schema x.table).toNat
    let gone := y.rows.filter (inS y.t.cols x.col x.v)
    let left := y.rows.filter fun r => !inS y.t.cols x.col x.v r
    if x.kind = 2 then (if heldS S (shfAt S x.schema x.table).toNat left gone then (S, [], 113) else (putS S (shfAt S x.schema x.table).toNat left, gone, 0))
    else (S, gone, 0)
/-- a table's rows behind other objects -/
def turnS (S : List Shf) (t : Tab) : Shf := ⟨t, if shfAt S t.schema t.name < 0 then [] else (shfN S (shfAt S t.schema t.name).toNat).rows.map (turnVs (shfN S (shfAt S t.schema t.name).toNat).t.cols t.cols)⟩
def loadS (S : List Shf) (o : Objs) : List Shf × Int := if checkO o then (o.tables.map (turnS S), 0) else (S, 63)
/-- a store as it may be -/
structure SOk (S : List Shf) (ss : List Sch) : Prop where
  ck : checkO ⟨ss, S.map (·.t)⟩ = true
  form : ∀ x ∈ S, ∀ row ∈ x.rows, besideB formB x.t.cols row = true
  most : ∀ x ∈ S, x.rows.length ≤ 64
end Go.Proofs.Ytiadkchlkdaceaa

namespace Go.Proofs.Ytiadkchlkdaceaa
open Go.RowKit
set_option maxRecDepth 100000
set_option linter.unusedVariables false
/-- what Clone gives: a row of its own, with the same cells -/
def CloneP {α : Type} (size : Nat) (R : World → List Value → α → Prop) (w0 w : World) (l : List α) (e : Ending) (w' : World) : Prop :=
  ∃ v css, e = .returned v ∧ Aft w w' ∧ RowV w' w.heap.size v l.length css.flatten ∧ Chunks w0 size R css l
theorem infoRul : (Try.prog.info? 64).map (fun i => (i.zero, i.size, i.bytes)) = some (some (.agg #[.string ByteArray.empty, .int .i64 0, .slice none 0 0, .int .i64 0, .int .i64 0, .string ByteArray.empty, .string ByteArray.empty, .string ByteArray.empty]), 8, 112) := by kernel_rfl
set_option maxHeartbeats 2000000 in
theorem cloneRul (A : Option Addr) (cap : Nat) (l : List Rul) (w0 w : World) (ha : Aft w0 w) (h : SlAt w0 8 RulR A cap l) (hb : l.length ≤ 1000000) :
    Calls Try.prog 60 #[.slice A l.length cap] w (CloneP 8 RulR w0 w l) := by
  obtain ⟨i0, hi, hz0, hz1, hz2⟩ := info_parts infoRul
  have q22 : ∀ (w : World) (a : Option Addr) (n c n' c' : Nat), (binOp .eql 59 (.slice a n c) (.slice none n' c')).run Try.prog w = .ok (.bool a.isNone) w := fun w a n c n' c' => Lib.run_eql_slice_nil w _ _ a n c n' c' Try.underlying59
  cases A with
  | none =>
    have hl0 : l = [] := by
      cases l with
      | nil => rfl
      | cons x l => obtain ⟨b, off, cs, hA, _⟩ := h.2.2 0 (by simp); cases hA
    subst hl0
    go_enter Try.func60, Try.ntmps60
    go_wp2_with fail
    go_ret
    exact ⟨_, [], rfl, Aft.refl _, ⟨none, 0, rfl, by simp, fun h0 => by simp at h0⟩, Chunks.nil⟩
  | some ad =>
    have HC : ∃ css, Chunks w0 8 RulR css l ∧ ∀ p u, css.flatten[p]? = some u → w.cell? (ad.add p) = some u := by
      by_cases h0 : 0 < l.length
      · obtain ⟨b, off, css, hA, hb', hch, hc⟩ := h.css h0 (by decide)
        simp only [Option.some.injEq] at hA
        subst hA
        refine ⟨css, hch, fun p u hp => ?_⟩
        have hlt : p < l.length * 8 := by rw [← hch.len]; exact (List.getElem?_eq_some_iff.1 hp).1
        rw [add_mk]; exact ha.cell_kept ((hc p hlt).trans hp)
      · have hl0 : l = [] := List.eq_nil_of_length_eq_zero (by omega)
        subst hl0
        exact ⟨[], Chunks.nil, fun p u hp => by simp at hp⟩
    obtain ⟨css, hch, hcell⟩ := HC
    have H1 := Lib.hid hcell
    have H2 : Hid (∀ u ∈ css.flatten, u.oneCell' = true) := Lib.hid (by
      intro u hu
      obtain ⟨c, hc, hu⟩ := List.mem_flatten.1 hu
      obtain ⟨i, hi, rfl⟩ := List.getElem_of_mem hc
      have h3 := (hch.2 i hi (by rw [← hch.1]; exact hi)).2
      obtain ⟨A2, cap2, hcs, _⟩ := h3
      rw [hcs] at hu
      simp only [List.mem_cons, List.not_mem_nil, or_false] at hu
      rcases hu with rfl | rfl | rfl | rfl | rfl | rfl | rfl | rfl <;> simp [Value.oneCell'])
    have H3 := Lib.hid hch
    have HI := Lib.hid hi
    have HZ0 := Lib.hid hz0
    have HZ1 := Lib.hid hz1
    have HZ2 := Lib.hid hz2
    clear hcell hch hi hz0 hz1 hz2 h ha
    go_enter Try.func60, Try.ntmps60
    go_wp2_with (at_builtin; refine wpList_append_own _ rfl _ _ 59 rfl w.heap.size 64 i0 (.agg #[.string ByteArray.empty, .int .i64 0, .slice none 0 0, .int .i64 0, .int .i64 0, .string ByteArray.empty, .string ByteArray.empty, .string ByteArray.empty]) 8 112 Try.underlying59 HI.out HZ0.out HZ1.out HZ2.out rfl (by decide) _ _ _ rfl (World.ownsRow_made w #[] 0 (Nat.le_refl _) (Nat.zero_le _) rfl) ad l.length cap css.flatten rfl ?qc1 ?qc2 ?qc3 ?qc4 ?qc5 ?qc6 ?_)
    case qc1 => exact H3.out.len
    case qc2 =>
      intro j u hj
      exact Lib.cell?_alloc_some _ (H1.out j u hj)
    case qc3 => exact H2.out
    case qc4 => unfold maxLen; omega
    case qc5 => omega
    case qc6 => simp
    intro v' w1 hown hgrow hnil
    have HO := Lib.hid hown
    have HA := Lib.hid (show Aft w w1 from ((Below.refl _ w).alloc (Nat.le_refl _) _).grown hgrow (by simp) (by intro k hk; simp [Value.ownBlock] at hk; omega))
    clear hown hgrow hnil
    go_wp2_with fail
    go_ret
    refine ⟨v', css, rfl, HA.out, ?_, H3.out⟩
    have ho := own_rowV HO.out
    simpa using ho
end Go.Proofs.Ytiadkchlkdaceaa

