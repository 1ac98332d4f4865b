/- Contracts of the program, part 5. -/
import Derived.Deep.RegionHeld3
import Derived.OwnWalk
import Derived.Laws.AppendOwn
import Derived.ProofKit
import Derived.OpenShut
import Derived.Deep.Slices
import Derived.ChangeOld
import Derived.SizedLaws
import Derived.WalkKit
import Derived.WalkSpells
import Derived.WalkLawsBesides
import Derived.Lib.Hide
import Derived.Deep.QuietTactic
import Derived.BigQuiet
import Derived.Below
import Derived.Deep.Draws
import Derived.StillTailTactics
import Derived.Laws.Cells
import Derived.Laws.IdiomCopy
import Derived.Test.YtiadkchlkdaceaaGreatRows
import Derived.Lib.Bytealg
import Derived.IntWalk
import Derived.Deep.DeepMust
import Derived.Deep.RegionLaw
import Derived.Deep.AppendLies
import Derived.Deep.Upon
import Derived.OneCell
import Derived.Test.YtiadkchlkdaceaaGreatPartR1
import Derived.Test.YtiadkchlkdaceaaGreatPartR2
import Derived.Test.YtiadkchlkdaceaaGreatPartR3
import Derived.Test.YtiadkchlkdaceaaGreatPartR4
namespace Go.Proofs.YtiadkchlkdaceaaGreat
open Go.RowKit
set_option maxRecDepth 100000
set_option linter.unusedVariables false
set_option maxHeartbeats 1000000 in
theorem right1_any (n1 : ByteArray) (k1 : Int) (A1 : Option Addr) (m1 c1 : Nat) (lo1 hi1 : Int) (s1 t1 y1 : ByteArray) (n2 : ByteArray) (k2 : Int) (A2 : Option Addr) (m2 c2 : Nat) (lo2 hi2 : Int) (s2 t2 y2 : ByteArray) (w : World) :
    Calls Tryz.prog 92 #[.agg #[.string n1, .int .i64 k1, .slice A1 m1 c1, .int .i64 lo1, .int .i64 hi1, .string s1, .string t1, .string y1], .agg #[.string n2, .int .i64 k2, .slice A2 m2 c2, .int .i64 lo2, .int .i64 hi2, .string s2, .string t2, .string y2]] w fun e w' => e = .returned (.int .i64 (cmpS n1 n2)) ∧ Aft w w' := by
  go_enter Tryz.func92, Tryz.ntmps92
  go_wp2_with fail
  refine (compare_any _ _ _).mono ?_
  rintro e w1 ⟨rfl, rfl⟩
  go_wp2_with fail
  go_ret
  exact ⟨rfl, ((Aft.refl w).alloc _).alloc _⟩
set_option maxHeartbeats 1000000 in
theorem check1_any (n1 o1 n2 o2 : ByteArray) (w : World) :
    Calls Tryz.prog 54 #[.agg #[.string n1, .string o1], .agg #[.string n2, .string o2]] w fun e w' => e = .returned (.int .i64 (cmpS n1 n2)) ∧ Aft w w' := by
  go_enter Tryz.func54, Tryz.ntmps54
  go_wp2_with fail
  refine (compare_any _ _ _).mono ?_
  rintro e w1 ⟨rfl, rfl⟩
  go_wp2_with fail
  go_ret
  exact ⟨rfl, ((Aft.refl w).alloc _).alloc _⟩
theorem rulesRise (A : Option Addr) (cap : Nat) (l : List Rul) (w : World) (h : SlAt w 8 RulR A cap l) :
    Calls Tryz.prog 91 #[.slice A l.length cap, .func (.func 92) #[] #[]] w fun e w' => e = .returned (.bool (risesB (fun a b => cmpS a.name b.name) l)) ∧ Aft w w' :=
  risesRul A cap l 92 #[] (fun a b => cmpS a.name b.name) w h (enters (P := Tryz.prog) Tryz.func92 (by kernel_rfl) rfl) fun w' ha i hi e1 e2 h1 h2 => by
    obtain ⟨A1, c1, rfl, _⟩ := h1
    obtain ⟨A2, c2, rfl, _⟩ := h2
    exact right1_any _ _ _ _ _ _ _ _ _ _ _ _ _ _ _ _ _ _ _ _ w'
theorem schsRise (A : Option Addr) (cap : Nat) (l : List Sch) (w : World) (h : SlAt w 2 SchR A cap l) :
    Calls Tryz.prog 53 #[.slice A l.length cap, .func (.func 54) #[] #[]] w fun e w' => e = .returned (.bool (risesB (fun a b => cmpS a.name b.name) l)) ∧ Aft w w' :=
  risesSch A cap l 54 #[] (fun a b => cmpS a.name b.name) w h (enters (P := Tryz.prog) Tryz.func54 (by kernel_rfl) rfl) fun w' ha i hi => check1_any _ _ _ _ w'
theorem tabsRise (A : Option Addr) (cap : Nat) (l : List Tab) (w : World) (h : SlAt w 5 TabR A cap l) :
    Calls Tryz.prog 51 #[.slice A l.length cap, .func (.func 52) #[] #[]] w fun e w' => e = .returned (.bool (risesB (fun a b => or2 (cmpS a.schema b.schema) (cmpS a.name b.name)) l)) ∧ Aft w w' :=
  risesTab A cap l 52 #[] (fun a b => or2 (cmpS a.schema b.schema) (cmpS a.name b.name)) w h (enters (P := Tryz.prog) Tryz.func52 (by kernel_rfl) rfl) fun w' ha i hi e1 e2 h1 h2 => by
    obtain ⟨A1, c1, B1, d1, rfl, _⟩ := h1
    obtain ⟨A2, c2, B2, d2, rfl, _⟩ := h2
    exact order_any _ _ _ _ _ _ _ _ _ _ w'
set_option maxHeartbeats 8000000 in
theorem right_any (o : Objs) (t : Tab) (As : Option Addr) (caps : Nat) (At : Option Addr) (capt : Nat) (A : Option Addr) (cap : Nat) (A2 : Option Addr) (cap2 : Nat) (w : World) (hsch : SlAt w 2 SchR As caps o.schemas) (htab : SlAt w 5 TabR At capt o.tables)
    (h : SlAt w 3 ColR A cap t.cols) (h2 : SlAt w 8 RulR A2 cap2 t.rules) (hn : Small t.name.size) (ho : Small t.owner.size) :
    Calls Tryz.prog 58 #[.agg #[.slice As o.schemas.length caps, .slice At o.tables.length capt], .agg #[.string t.schema, .string t.name, .string t.owner, .slice A t.cols.length cap, .slice A2 t.rules.length cap2]] w
      fun e w' => e = .returned (.bool (rightT o t)) ∧ Aft w w' := by
  have hlen2 := h2.len
  cases hN : nameB t.name
  · have HF := Lib.hid (show rightT o t = false by simp [rightT, hN])
    go_enter Tryz.func58, Tryz.ntmps58
    go_wp2_with (go_at_call 56; refine (name_any _ _ (by first | exact hn.max | exact ho.max)).mono ?_; rintro e w' ⟨rfl, rfl⟩)
    go_ret
    exact ⟨by rw [HF.out]; rfl, ((Aft.refl _).alloc _).alloc _⟩
  cases hO : nameB t.owner
  · have HF := Lib.hid (show rightT o t = false by simp [rightT, hO])
    go_enter Tryz.func58, Tryz.ntmps58
    go_wp2_with (go_at_call 56; refine (name_any _ _ (by first | exact hn.max | exact ho.max)).mono ?_; rintro e w' ⟨rfl, rfl⟩)
    go_ret
    exact ⟨by rw [HF.out]; rfl, ((Aft.refl _).alloc _).alloc _⟩
  have HR0 := Lib.hid (show rightT o t = (colsOk t.cols && decide (t.rules.length ≤ 8) && decide (0 ≤ schAt o.schemas t.schema) && (t.rules.all (ruleOk o.tables t.cols) && risesB (fun a b => cmpS a.name b.name) t.rules)) by simp [rightT, hN, hO])
  obtain ⟨m, hm⟩ : ∃ m, colsOk t.cols = m := ⟨_, rfl⟩
  rw [hm] at HR0
  have Cm := Lib.hid (show ∀ w', Aft w w' → Calls Tryz.prog 86 #[.slice A t.cols.length cap] w' fun e w'' => e = .returned (.bool m) ∧ Aft w' w'' from
    fun w' a => (mayCols_any A cap t.cols w' (cols_aft a h)).mono fun e w'' ⟨he, hw⟩ => ⟨he.trans (by rw [← hm]), hw⟩)
  clear hm
  go_enter Tryz.func58, Tryz.ntmps58
  go_wp2_with (go_at_call 56; refine (name_any _ _ (by first | exact hn.max | exact ho.max)).mono ?_; rintro e w' ⟨rfl, rfl⟩)
  refine (Cm.out _ (((Aft.refl w).alloc _).alloc _)).mono ?_
  rintro e w1 ⟨rfl, a1⟩
  obtain ⟨hbo, hbt, hz, HA⟩ := aft_box2 a1
  have HAB := Lib.hid a1
  clear a1 Cm
  cases m
  · have HF := Lib.hid (show rightT o t = false by rw [HR0.out]; rfl)
    go_wp2_with fail
    go_ret
    exact ⟨by rw [HF.out]; rfl, HA.out⟩
  by_cases h8 : 8 < t.rules.length
  · have HF := Lib.hid (show rightT o t = false by rw [HR0.out, decide_eq_false (by omega)]; rfl)
    have h8' : (8 : Int) < (t.rules.length : Int) := by omega
    go_wp2_with fail
    go_ret
    exact ⟨by rw [HF.out]; rfl, HA.out⟩
  have h8' : (t.rules.length : Int) ≤ 8 := by omega
  have d8 : decide ((8 : Int) < (t.rules.length : Int)) = false := decide_eq_false (by omega)
  have HR1 := Lib.hid (show rightT o t = (decide (0 ≤ schAt o.schemas t.schema) && (t.rules.all (ruleOk o.tables t.cols) && risesB (fun a b => cmpS a.name b.name) t.rules)) by rw [HR0.out, decide_eq_true (show t.rules.length ≤ 8 by omega)]; rfl)
  clear HR0
  obtain ⟨i, hi⟩ : ∃ i, schAt o.schemas t.schema = i := ⟨_, rfl⟩
  rw [hi] at HR1
  have Cs := Lib.hid (show ∀ w', Aft w w' → Calls Tryz.prog 87 #[.slice As o.schemas.length caps, .string t.schema, .func (.func 88) #[] #[]] w' fun e w'' => e = .returned (.int .i64 i) ∧ Aft w' w'' from
    fun w' a => (bySch As caps o.schemas t.schema w' (schs_aft a hsch)).mono fun e w'' ⟨he, hw⟩ => ⟨he.trans (by rw [← hi]; rfl), hw⟩)
  clear hi
  go_wp2_with fail
  refine (Cs.out _ HA.out).mono ?_
  rintro e w2 ⟨rfl, a2⟩
  have HAB2 := Lib.hid (HAB.out.trans a2)
  clear a2 Cs HA HAB hbo hbt hz
  obtain ⟨hbo, hbt, hz, HA⟩ := aft_box2 HAB2.out
  by_cases hi0 : i < 0
  · have HF := Lib.hid (show rightT o t = false by rw [HR1.out, decide_eq_false (by omega)]; rfl)
    go_wp2_with fail
    go_ret
    exact ⟨by rw [HF.out]; rfl, HA.out⟩
  have hi1 : 0 ≤ i := by omega
  have HR2 := Lib.hid (show rightT o t = (t.rules.all (ruleOk o.tables t.cols) && risesB (fun a b => cmpS a.name b.name) t.rules) by rw [HR1.out, decide_eq_true hi1]; rfl)
  clear HR1
  go_wp2_with fail
  go_loopw [40] (fun i wr => ∃ k : Nat, k ≤ t.rules.length ∧ i = .int .i64 k ∧ Aft ((w.alloc (.cells #[.slice As o.schemas.length caps, .slice At o.tables.length capt] 29)).alloc (.cells #[.string t.schema, .string t.name, .string t.owner, .slice A t.cols.length cap, .slice A2 t.rules.length cap2] 76)) wr ∧ ∀ j, j < k → ∀ (hj : j < t.rules.length), ruleOk o.tables t.cols t.rules[j] = true) (fun i _ => t.rules.length - (intOf i).toNat)
  case atStart => exact ⟨0, Nat.zero_le _, rfl, HAB2.out, fun j hj => absurd hj (Nat.not_lt_zero j)⟩
  case round =>
    clear hbo hbt hz HA HAB2
    obtain ⟨k, hk, rfl, ha, hp⟩ := hrel
    obtain ⟨hbo, hbt, hz, HA⟩ := aft_box2 ha
    have HAB := Lib.hid ha
    have HP := Lib.hid hp; clear hp ha
    by_cases hlt : k < t.rules.length
    · have hr := ruls_aft HA.out h2
      obtain ⟨b, off, D2, capD2, rfl, hb, c0, c1, c2, c3, c4, c5, c6, c7, hcs, s0, s1, s2, s3⟩ := rul_at hr hlt
      obtain ⟨p, hpp⟩ : ∃ p, t.rules[k] = p := ⟨_, rfl⟩
      rw [hpp] at c0 c1 c2 c3 c4 c5 c6 c7 hcs s0 s1 s2 s3
      have HPP := Lib.hid hpp
      obtain ⟨f, hf⟩ : ∃ f, fitsOk t.cols p = f := ⟨_, rfl⟩
      obtain ⟨z, hz'⟩ : ∃ z, keyE o.tables t.cols p = z := ⟨_, rfl⟩
      have HO := Lib.hid (show ruleOk o.tables t.cols t.rules[k] = (f && !(p.kind == 4 && z != 0)) by rw [hpp]; unfold ruleOk; rw [hf, hz'])
      have Cf := Lib.hid (show ∀ w', Aft wr w' → Calls Tryz.prog 89 #[.slice A t.cols.length cap, .agg #[.string p.name, .int .i64 p.kind, .slice D2 p.cols.length capD2, .int .i64 p.low, .int .i64 p.high, .string p.schema, .string p.table, .string p.key]] w' fun e w'' => e = .returned (.bool f) ∧ Aft w' w'' from
        fun w' a => (fits_any A cap t.cols p D2 capD2 w' (cols_aft (HA.out.trans a) h) (strs_aft a hcs) s0 s1 s2 s3).mono fun e w'' ⟨he, hw⟩ => ⟨he.trans (by rw [← hf]), hw⟩)
      have Ck := Lib.hid (show ∀ w', Aft wr w' → Calls Tryz.prog 90 #[.agg #[.slice As o.schemas.length caps, .slice At o.tables.length capt], .slice A t.cols.length cap, .agg #[.string p.name, .int .i64 p.kind, .slice D2 p.cols.length capD2, .int .i64 p.low, .int .i64 p.high, .string p.schema, .string p.table, .string p.key]] w' fun e w'' => e = .returned (.int .i64 z) ∧ Aft w' w'' from
        fun w' a => (key_any _ At capt o.tables A cap t.cols p D2 capD2 w' (tabs_aft (HA.out.trans a) htab) (cols_aft (HA.out.trans a) h) (strs_aft a hcs)).mono fun e w'' ⟨he, hw⟩ => ⟨he.trans (by rw [← hz']), hw⟩)
      clear hf hz' hpp hr hcs HPP
      go_wp2_with fail
      refine (Cf.out _ ((Aft.refl wr).alloc _)).mono ?_
      rintro e w3 ⟨rfl, a3⟩
      obtain ⟨hbr, hfr, hzr, hzkr, HA3⟩ := aft_box a3
      have hbo3 : ∀ o', w3.cell? ⟨w.heap.size, o', none⟩ = _ := fun o' => (Below.cell HA3.out (p := ⟨w.heap.size, o', none⟩) hz.1).trans (hbo o')
      have hbt3 : ∀ o', w3.cell? ⟨w.heap.size + 1, o', none⟩ = _ := fun o' => (Below.cell HA3.out (p := ⟨w.heap.size + 1, o', none⟩) hz.2).trans (hbt o')
      have hz3 : w.heap.size < w3.heap.size ∧ w.heap.size + 1 < w3.heap.size := ⟨Nat.lt_of_lt_of_le hz.1 HA3.out.size, Nat.lt_of_lt_of_le hz.2 HA3.out.size⟩
      clear a3 Cf hbo hbt c0 c1 c2 c3 c4 c5 c6 c7
      cases f
      · have HF := Lib.hid (show rightT o t = false by rw [HR2.out, all_false _ _ k hlt (by rw [HO.out]; rfl)]; rfl)
        go_wp2_with fail
        go_ret
        exact ⟨by rw [HF.out]; rfl, HA.out.trans HA3.out⟩
      cases h4 : (p.kind == 4)
      · have HN := Lib.hid (ext_lt (p := fun j => ∀ (hj : j < t.rules.length), ruleOk o.tables t.cols t.rules[j] = true) HP.out (fun _ => by rw [HO.out, h4]; rfl))
        go_wp2_with fail
        go_roundw
        case rel => exact ⟨k + 1, by omega, by go_num, HAB.out.trans HA3.out, HN.out⟩
        case measure => simp [intOf]; omega
      · go_wp2_with fail
        refine (Ck.out _ HA3.out).mono ?_
        rintro e w4 ⟨rfl, a4⟩
        have HA4 := Lib.hid (HA3.out.trans a4)
        clear a4 Ck hbo3 hbt3 hbr
        cases z0 : (z != 0)
        · have HN := Lib.hid (ext_lt (p := fun j => ∀ (hj : j < t.rules.length), ruleOk o.tables t.cols t.rules[j] = true) HP.out (fun _ => by rw [HO.out, h4, z0]; rfl))
          go_wp2_with fail
          go_roundw
          case rel => exact ⟨k + 1, by omega, by go_num, HAB.out.trans HA4.out, HN.out⟩
          case measure => simp [intOf]; omega
        · have HF := Lib.hid (show rightT o t = false by rw [HR2.out, all_false _ _ k hlt (by rw [HO.out, h4, z0]; rfl)]; rfl)
          go_wp2_with fail
          go_ret
          exact ⟨by rw [HF.out]; rfl, HA.out.trans HA4.out⟩
    · have HF := Lib.hid (show rightT o t = risesB (fun a b => cmpS a.name b.name) t.rules by rw [HR2.out, all_true _ _ fun j hj => HP.out j (by omega) hj]; rfl)
      have Cr := Lib.hid (rulesRise A2 cap2 t.rules wr (ruls_aft HA.out h2))
      go_wp2_with fail
      refine Cr.out.mono ?_
      rintro e w3 ⟨rfl, a3⟩
      have HA3 := Lib.hid (HA.out.trans a3)
      clear a3
      go_wp2_with fail
      go_ret
      exact ⟨by rw [HF.out]; rfl, HA3.out⟩
end Go.Proofs.YtiadkchlkdaceaaGreat

namespace Go.Proofs.YtiadkchlkdaceaaGreat
open Go.RowKit
set_option maxRecDepth 100000
set_option linter.unusedVariables false
def checkE (o : Objs) : Int := if checkO o then 0 else 63
set_option maxHeartbeats 8000000 in
theorem check_any (o : Objs) (As : Option Addr) (caps : Nat) (At : Option Addr) (capt : Nat) (w : World) (hsch : SlAt w 2 SchR As caps o.schemas) (htab : SlAt w 5 TabR At capt o.tables) :
    Calls Tryz.prog 23 #[.agg #[.slice As o.schemas.length caps, .slice At o.tables.length capt]] w
      fun e w' => e = .returned (.int .i64 (checkE o)) ∧ Aft w w' := by
  have hlen := hsch.len
  have hlen2 := htab.len
  by_cases d1 : 8 < o.schemas.length
  · have HF := Lib.hid (show checkE o = 63 by simp [checkE, checkO, headOk, show ¬ o.schemas.length ≤ 8 by omega])
    have e1 : ¬ ((o.schemas.length : Int) ≤ 8) := by omega
    have e1' : decide ((o.schemas.length : Int) ≤ 8) = false := decide_eq_false e1
    go_enter Tryz.func23, Tryz.ntmps23
    go_wp2_with fail
    go_loopw [3, 4] (fun ok i wr => ok = .bool false ∧ i = .int .i64 0 ∧ Aft (w.alloc (.cells #[.slice As o.schemas.length caps, .slice At o.tables.length capt] 29)) wr) (fun _ _ _ => 0)
    case atStart => exact ⟨rfl, rfl, Aft.refl _⟩
    case round =>
      obtain ⟨rfl, rfl, ha⟩ := hrel
      have HAX := Lib.hid ha
      clear ha
      go_wp2_with fail
      go_loopw [3, 6] (fun ok i wr => ok = .bool false ∧ i = .int .i64 0 ∧ Aft (w.alloc (.cells #[.slice As o.schemas.length caps, .slice At o.tables.length capt] 29)) wr) (fun _ _ _ => 0)
      case atStart => exact ⟨rfl, rfl, HAX.out⟩
      case round =>
        obtain ⟨rfl, rfl, ha⟩ := hrel
        have HAY := Lib.hid ha
        clear ha
        go_wp2_with fail
        go_ret
        exact ⟨by rw [HF.out]; rfl, ((Aft.refl w).alloc _).trans HAY.out⟩
  have e1 : (o.schemas.length : Int) ≤ 8 := by omega
  have e1' : decide ((o.schemas.length : Int) ≤ 8) = true := decide_eq_true e1
  by_cases d2 : 64 < o.tables.length
  · have HF := Lib.hid (show checkE o = 63 by simp [checkE, checkO, headOk, show ¬ o.tables.length ≤ 64 by omega])
    have e2 : ¬ ((o.tables.length : Int) ≤ 64) := by omega
    have e2' : decide ((o.tables.length : Int) ≤ 64) = false := decide_eq_false e2
    go_enter Tryz.func23, Tryz.ntmps23
    go_wp2_with fail
    go_loopw [3, 4] (fun ok i wr => ok = .bool false ∧ i = .int .i64 0 ∧ Aft (w.alloc (.cells #[.slice As o.schemas.length caps, .slice At o.tables.length capt] 29)) wr) (fun _ _ _ => 0)
    case atStart => exact ⟨rfl, rfl, Aft.refl _⟩
    case round =>
      obtain ⟨rfl, rfl, ha⟩ := hrel
      have HAX := Lib.hid ha
      clear ha
      go_wp2_with fail
      go_loopw [3, 6] (fun ok i wr => ok = .bool false ∧ i = .int .i64 0 ∧ Aft (w.alloc (.cells #[.slice As o.schemas.length caps, .slice At o.tables.length capt] 29)) wr) (fun _ _ _ => 0)
      case atStart => exact ⟨rfl, rfl, HAX.out⟩
      case round =>
        obtain ⟨rfl, rfl, ha⟩ := hrel
        have HAY := Lib.hid ha
        clear ha
        go_wp2_with fail
        go_ret
        exact ⟨by rw [HF.out]; rfl, ((Aft.refl w).alloc _).trans HAY.out⟩
  have e2 : (o.tables.length : Int) ≤ 64 := by omega
  have e2' : decide ((o.tables.length : Int) ≤ 64) = true := decide_eq_true e2
  obtain ⟨g1, hg1⟩ : ∃ g, risesB (fun a b => or2 (cmpS a.schema b.schema) (cmpS a.name b.name)) o.tables = g := ⟨_, rfl⟩
  obtain ⟨g2, hg2⟩ : ∃ g, risesB (fun a b => cmpS a.name b.name) o.schemas = g := ⟨_, rfl⟩
  have HR := Lib.hid (show checkE o = if (g1 && g2 && (o.schemas.all (schOk o) && o.tables.all (rightT o))) then 0 else 63 by simp [checkE, checkO, headOk, hg1, hg2, show o.schemas.length ≤ 8 by omega, show o.tables.length ≤ 64 by omega])
  have C1 := Lib.hid (show ∀ w', Aft w w' → Calls Tryz.prog 51 #[.slice At o.tables.length capt, .func (.func 52) #[] #[]] w' fun e w'' => e = .returned (.bool g1) ∧ Aft w' w'' from
    fun w' a => (tabsRise At capt o.tables w' (tabs_aft a htab)).mono fun e w'' ⟨he, hw⟩ => ⟨he.trans (by rw [← hg1]), hw⟩)
  have C2 := Lib.hid (show ∀ w', Aft w w' → Calls Tryz.prog 53 #[.slice As o.schemas.length caps, .func (.func 54) #[] #[]] w' fun e w'' => e = .returned (.bool g2) ∧ Aft w' w'' from
    fun w' a => (schsRise As caps o.schemas w' (schs_aft a hsch)).mono fun e w'' ⟨he, hw⟩ => ⟨he.trans (by rw [← hg2]), hw⟩)
  clear hg1 hg2
  go_enter Tryz.func23, Tryz.ntmps23
  go_wp2_with fail
  refine (C1.out _ ((Aft.refl w).alloc _)).mono ?_
  rintro e w1 ⟨rfl, a1⟩
  obtain ⟨hbox, hfr, hz, hzk, HA⟩ := aft_box a1
  have HAB := Lib.hid a1
  clear a1 C1
  cases g1
  · have HF := Lib.hid (show checkE o = 63 by rw [HR.out]; rfl)
    go_wp2_with fail
    go_loopw [3, 4] (fun ok i wr => ok = .bool false ∧ i = .int .i64 0 ∧ Aft (w.alloc (.cells #[.slice As o.schemas.length caps, .slice At o.tables.length capt] 29)) wr) (fun _ _ _ => 0)
    case atStart => exact ⟨rfl, rfl, HAB.out⟩
    case round =>
      obtain ⟨rfl, rfl, ha⟩ := hrel
      have HAX := Lib.hid ha
      clear ha
      go_wp2_with fail
      go_loopw [3, 6] (fun ok i wr => ok = .bool false ∧ i = .int .i64 0 ∧ Aft (w.alloc (.cells #[.slice As o.schemas.length caps, .slice At o.tables.length capt] 29)) wr) (fun _ _ _ => 0)
      case atStart => exact ⟨rfl, rfl, HAX.out⟩
      case round =>
        obtain ⟨rfl, rfl, ha⟩ := hrel
        have HAY := Lib.hid ha
        clear ha
        go_wp2_with fail
        go_ret
        exact ⟨by rw [HF.out]; rfl, ((Aft.refl w).alloc _).trans HAY.out⟩
  go_wp2_with fail
  refine (C2.out _ HA.out).mono ?_
  rintro e w2 ⟨rfl, a2⟩
  have HAB2 := Lib.hid (HAB.out.trans a2)
  clear a2 C2 HAB HA hbox hfr hz hzk
  obtain ⟨hbox, hfr, hz, hzk, HA⟩ := aft_box HAB2.out
  cases g2
  · have HF := Lib.hid (show checkE o = 63 by rw [HR.out]; rfl)
    go_wp2_with fail
    go_loopw [3, 4] (fun ok i wr => ok = .bool false ∧ i = .int .i64 0 ∧ Aft (w.alloc (.cells #[.slice As o.schemas.length caps, .slice At o.tables.length capt] 29)) wr) (fun _ _ _ => 0)
    case atStart => exact ⟨rfl, rfl, HAB2.out⟩
    case round =>
      obtain ⟨rfl, rfl, ha⟩ := hrel
      have HAX := Lib.hid ha
      clear ha
      go_wp2_with fail
      go_loopw [3, 6] (fun ok i wr => ok = .bool false ∧ i = .int .i64 0 ∧ Aft (w.alloc (.cells #[.slice As o.schemas.length caps, .slice At o.tables.length capt] 29)) wr) (fun _ _ _ => 0)
      case atStart => exact ⟨rfl, rfl, HAX.out⟩
      case round =>
        obtain ⟨rfl, rfl, ha⟩ := hrel
        have HAY := Lib.hid ha
        clear ha
        go_wp2_with fail
        go_ret
        exact ⟨by rw [HF.out]; rfl, ((Aft.refl w).alloc _).trans HAY.out⟩
  have HR2 := Lib.hid (show checkE o = if (o.schemas.all (schOk o) && o.tables.all (rightT o)) then 0 else 63 by rw [HR.out]; rfl)
  clear HR
  go_wp2_with fail
  go_loopw [3, 4] (fun ok i wr => ∃ (k : Nat) (b : Bool), k ≤ o.schemas.length ∧ i = .int .i64 k ∧ ok = .bool b ∧ Aft (w.alloc (.cells #[.slice As o.schemas.length caps, .slice At o.tables.length capt] 29)) wr ∧ (b = true → ∀ j, j < k → ∀ (hj : j < o.schemas.length), schOk o o.schemas[j] = true) ∧ (b = false → checkE o = 63)) (fun ok i _ => o.schemas.length - (intOf i).toNat)
  case atStart => exact ⟨0, true, Nat.zero_le _, rfl, rfl, HAB2.out, fun _ j hj => absurd hj (Nat.not_lt_zero j), fun h => by cases h⟩
  case round =>
    clear hbox hfr hz hzk HA HAB2
    obtain ⟨k, b, hk, rfl, rfl, ha, hp, hq⟩ := hrel
    obtain ⟨hbox, hfr, hz, hzk, HA⟩ := aft_box ha
    have HAB := Lib.hid ha
    clear ha
    cases b
    · have HF := Lib.hid (hq rfl)
      clear hp hq
      go_wp2_with fail
      go_loopw [3, 6] (fun ok i wr => ok = .bool false ∧ i = .int .i64 0 ∧ Aft (w.alloc (.cells #[.slice As o.schemas.length caps, .slice At o.tables.length capt] 29)) wr) (fun _ _ _ => 0)
      case atStart => exact ⟨rfl, rfl, HAB.out⟩
      case round =>
        obtain ⟨rfl, rfl, ha⟩ := hrel
        have HAY := Lib.hid ha
        clear ha
        go_wp2_with fail
        go_ret
        exact ⟨by rw [HF.out]; rfl, ((Aft.refl w).alloc _).trans HAY.out⟩
    have HP := Lib.hid (hp rfl)
    clear hp hq
    by_cases hlt : k < o.schemas.length
    · have hss := schs_aft HA.out hsch
      obtain ⟨b, off, rfl, hb, c0, c1, s0, s1⟩ := sch_at hss hlt
      obtain ⟨p, hpp⟩ : ∃ p, o.schemas[k] = p := ⟨_, rfl⟩
      rw [hpp] at c0 c1 s0 s1
      have HO := Lib.hid (show schOk o o.schemas[k] = (nameB p.name && nameB p.owner && decide (within o.tables p.name ≤ 8)) by rw [hpp]; rfl)
      clear hpp hss
      cases hN : nameB p.name
      · have HF := Lib.hid (show checkE o = 63 by rw [HR2.out, all_false _ _ k hlt (by rw [HO.out, hN]; rfl)]; rfl)
        go_wp2_with (go_at_call 56; refine (name_any _ _ (by first | exact s0.max | exact s1.max)).mono ?_; rintro e w' ⟨rfl, rfl⟩)
        go_roundw
        case rel => exact ⟨k + 1, false, by omega, by go_num, rfl, HAB.out.alloc _, (fun h => by cases h), fun _ => HF.out⟩
        case measure => simp [intOf]; omega
      cases hO : nameB p.owner
      · have HF := Lib.hid (show checkE o = 63 by rw [HR2.out, all_false _ _ k hlt (by rw [HO.out, hN, hO]; rfl)]; rfl)
        go_wp2_with (go_at_call 56; refine (name_any _ _ (by first | exact s0.max | exact s1.max)).mono ?_; rintro e w' ⟨rfl, rfl⟩)
        go_roundw
        case rel => exact ⟨k + 1, false, by omega, by go_num, rfl, HAB.out.alloc _, (fun h => by cases h), fun _ => HF.out⟩
        case measure => simp [intOf]; omega
      obtain ⟨n, hn⟩ : ∃ n, within o.tables p.name = n := ⟨_, rfl⟩
      have Cw := Lib.hid (show ∀ w', Aft w w' → Calls Tryz.prog 57 #[.agg #[.slice (some ⟨b, off, none⟩) o.schemas.length caps, .slice At o.tables.length capt], .string p.name] w' fun e w'' => e = .returned (.int .i64 n) ∧ Aft w' w'' from
        fun w' a => (within_any _ At capt o.tables p.name w' (tabs_aft a htab)).mono fun e w'' ⟨he, hw⟩ => ⟨he.trans (by rw [← hn]), hw⟩)
      have HO2 := Lib.hid (show schOk o o.schemas[k] = decide (n ≤ 8) by rw [HO.out, hN, hO, hn]; rfl)
      clear HO hn
      go_wp2_with (go_at_call 56; refine (name_any _ _ (by first | exact s0.max | exact s1.max)).mono ?_; rintro e w' ⟨rfl, rfl⟩)
      refine (Cw.out _ (HA.out.alloc _)).mono ?_
      rintro e w3 ⟨rfl, a3⟩
      have HAB3 := Lib.hid ((HAB.out.alloc _).trans a3)
      clear a3 Cw
      by_cases h8 : n ≤ 8
      · have h8' : (n : Int) ≤ 8 := by omega
        have HN := Lib.hid (ext_lt (p := fun j => ∀ (hj : j < o.schemas.length), schOk o o.schemas[j] = true) HP.out (fun _ => by rw [HO2.out]; exact decide_eq_true h8))
        go_wp2_with fail
        go_roundw
        case rel => exact ⟨k + 1, true, by omega, by go_num, by simp, HAB3.out, fun _ => HN.out, fun h => by cases h⟩
        case measure => simp [intOf]; omega
      · have h8' : ¬ (n : Int) ≤ 8 := by omega
        have HF := Lib.hid (show checkE o = 63 by rw [HR2.out, all_false _ _ k hlt (by rw [HO2.out]; exact decide_eq_false h8)]; rfl)
        go_wp2_with fail
        go_roundw
        case rel => exact ⟨k + 1, false, by omega, by go_num, by simp [h8'], HAB3.out, (fun h => by cases h), fun _ => HF.out⟩
        case measure => simp [intOf]; omega
    have HR3 := Lib.hid (show checkE o = if o.tables.all (rightT o) then 0 else 63 by rw [HR2.out, all_true _ _ fun j hj => HP.out j (by omega) hj]; rfl)
    clear HP HR2
    go_wp2_with fail
    go_loopw [3, 6] (fun ok i wr => ∃ (k : Nat) (b : Bool), k ≤ o.tables.length ∧ i = .int .i64 k ∧ ok = .bool b ∧ Aft (w.alloc (.cells #[.slice As o.schemas.length caps, .slice At o.tables.length capt] 29)) wr ∧ (b = true → ∀ j, j < k → ∀ (hj : j < o.tables.length), rightT o o.tables[j] = true) ∧ (b = false → checkE o = 63)) (fun ok i _ => o.tables.length - (intOf i).toNat)
    case atStart => exact ⟨0, true, Nat.zero_le _, rfl, rfl, HAB.out, fun _ j hj => absurd hj (Nat.not_lt_zero j), fun h => by cases h⟩
    case round =>
      clear hbox hfr hz hzk HA HAB
      obtain ⟨k2, b, hk2, rfl, rfl, ha, hp, hq⟩ := hrel
      obtain ⟨hbox, hfr, hz, hzk, HA⟩ := aft_box ha
      have HAB := Lib.hid ha
      clear ha
      cases b
      · have HF := Lib.hid (hq rfl)
        clear hp hq
        go_wp2_with fail
        go_ret
        exact ⟨by rw [HF.out]; rfl, HA.out⟩
      have HP := Lib.hid (hp rfl)
      clear hp hq
      by_cases hlt2 : k2 < o.tables.length
      · have htt := tabs_aft HA.out htab
        have hss := schs_aft HA.out hsch
        obtain ⟨b, off, B2, capB2, B3, capB3, rfl, hb, c0, c1, c2, c3, c4, hcols, hrules, s0, s1, s2⟩ := tab_at htt hlt2
        obtain ⟨p, hpp⟩ : ∃ p, o.tables[k2] = p := ⟨_, rfl⟩
        rw [hpp] at c0 c1 c2 c3 c4 hcols hrules s0 s1 s2
        obtain ⟨f, hf⟩ : ∃ f, rightT o p = f := ⟨_, rfl⟩
        have HO := Lib.hid (show rightT o o.tables[k2] = f by rw [hpp]; exact hf)
        have Cr := Lib.hid (show ∀ x : Lat wr, Calls Tryz.prog 58 #[.agg #[.slice As o.schemas.length caps, .slice (some ⟨b, off, none⟩) o.tables.length capt], .agg #[.string p.schema, .string p.name, .string p.owner, .slice B2 p.cols.length capB2, .slice B3 p.rules.length capB3]] (lat wr x) fun e w' => e = .returned (.bool f) ∧ Aft (lat wr x) w' from
          fun x => (right_any o p As caps _ capt B2 capB2 B3 capB3 (lat wr x) (schs_aft ((Aft.refl wr).lat x) hss) (tabs_aft ((Aft.refl wr).lat x) htt) (cols_aft ((Aft.refl wr).lat x) hcols) (ruls_aft ((Aft.refl wr).lat x) hrules) s1 s2).mono fun e w'' ⟨he, hw⟩ => ⟨he.trans (by rw [← hf]), hw⟩)
        clear hf hpp htt hss hcols hrules
        go_wp2_with fail
        refine wp_region_lat (by kernel_rfl) (by kernel_rfl) ?_
        repeat (go_big_quiet_step ((first | (go_at_call 58; exact Calls.lat_of (Cr.out _)))))
        refine wpQuiet_nil ?_
        intro _ hw'
        obtain ⟨x, hw''⟩ := hw'
        subst hw''
        cases f
        · have HF := Lib.hid (show checkE o = 63 by rw [HR3.out, all_false _ _ k2 hlt2 HO.out]; rfl)
          go_wp2_with fail
          go_roundw
          case rel => exact ⟨k2 + 1, false, by omega, by go_num, rfl, HAB.out.lat x, (fun h => by cases h), fun _ => HF.out⟩
          case measure => simp [intOf]; omega
        · have HN := Lib.hid (ext_lt (p := fun j => ∀ (hj : j < o.tables.length), rightT o o.tables[j] = true) HP.out (fun _ => HO.out))
          go_wp2_with fail
          go_roundw
          case rel => exact ⟨k2 + 1, true, by omega, by go_num, rfl, HAB.out.lat x, fun _ => HN.out, fun h => by cases h⟩
          case measure => simp [intOf]; omega
      · have HF := Lib.hid (show checkE o = 0 by rw [HR3.out, all_true _ _ fun j hj => HP.out j (by omega) hj]; rfl)
        go_wp2_with fail
        go_ret
        exact ⟨by rw [HF.out]; rfl, HA.out⟩
end Go.Proofs.YtiadkchlkdaceaaGreat

namespace Go.Proofs.YtiadkchlkdaceaaGreat
open Go.RowKit Go.Deep
set_option maxRecDepth 100000
set_option linter.unusedVariables false
def zeroO : Objs := ⟨[], []⟩
/-- right objects are no great ones -/
theorem check_mod {o : Objs} (h : checkO o = true) : ModO o := by
  unfold checkO headOk at h
  simp only [Bool.and_eq_true, decide_eq_true_eq, List.all_eq_true] at h
  obtain ⟨⟨⟨⟨h1, h2⟩, _⟩, _⟩, _, h3⟩ := h
  refine ⟨by omega, by omega, fun t ht => ?_⟩
  have h4 := h3 t ht
  unfold rightT at h4
  simp only [Bool.and_eq_true, decide_eq_true_eq, List.all_eq_true] at h4
  obtain ⟨⟨⟨⟨_, h5⟩, h6⟩, _⟩, h7, _⟩ := h4
  have h8 : t.cols.length ≤ 8 := by unfold colsOk at h5; simp only [Bool.and_eq_true, decide_eq_true_eq] at h5; exact h5.1.2
  refine ⟨by omega, by omega, fun r hr => ?_⟩
  have h9 := h7 r hr
  unfold ruleOk at h9
  simp only [Bool.and_eq_true] at h9
  have h1 : rcOk t.cols r.cols = true := by have hf := h9.1; unfold fitsOk at hf; simp only [Bool.and_eq_true] at hf; exact hf.1.1.1
  have := rc_len t.cols r.cols h1
  omega
/-- what comes out: r's objects in memory of their own, and an error's number -/
def ObjP (w : World) (r : Objs × Int) (e : Ending) (w' : World) : Prop :=
  ∃ hs ht L, L.map OTab.t = r.1.tables ∧ e = .returned (.tuple #[.agg #[.slice hs.a r.1.schemas.length hs.c, .slice ht.a r.1.tables.length ht.c], .int .i64 r.2]) ∧ Aft w w' ∧ ObjIn w' w.heap.size hs ht r.1.schemas L
end Go.Proofs.YtiadkchlkdaceaaGreat

namespace Go.Proofs.YtiadkchlkdaceaaGreat
open Go.RowKit Go.Deep
set_option maxRecDepth 100000
set_option linter.unusedVariables false
/-- a table changed -/
def tabR (o : Objs) (s n : ByteArray) (f : Tab → Tab × Int) : Objs × Int :=
  match o.tables[(tabAt o.tables s n).toNat]? with
  | some t => if tabAt o.tables s n < 0 then (zeroO, 61) else if (f t).2 = 0 then (⟨o.schemas, o.tables.set (tabAt o.tables s n).toNat (f t).1⟩, 0) else (zeroO, (f t).2)
  | none => (zeroO, 61)
end Go.Proofs.YtiadkchlkdaceaaGreat

namespace Go.Proofs.YtiadkchlkdaceaaGreat
open Go.RowKit Go.Deep
set_option maxRecDepth 100000
set_option linter.unusedVariables false
theorem mem_set_cases {α : Type} {L : List α} {q : Nat} {x y : α} (hq : q < L.length) (h : x ∈ L.set q y) : x = y ∨ ∃ i, ∃ hi : i < L.length, i ≠ q ∧ x = L[i] := by
  obtain ⟨i, hi, rfl⟩ := List.getElem_of_mem h
  rw [List.length_set] at hi
  by_cases e : i = q
  · subst e; exact .inl (by simp)
  · exact .inr ⟨i, hi, e, by rw [List.getElem_set_ne (fun h => e h.symm)]⟩
/-- a cell of the table q is written: the table is y then -/
theorem ObjIn.put {w : World} {B gt q j : Nat} {hs ht : Hd} {ss : List Sch} {L : List OTab} {y : OTab} {u : Value} (hsch : w.ownsRow B 88 2 hs.v ss.length (ss.flatMap schC)) (htab : w.ownsRow B 76 5 ht.v L.length (L.flatMap OTab.cells))
    (hoth : ∀ i (hi : i < L.length), i ≠ q → TabIn w B L[i]) (hy : TabIn w B y) (hnd : (hs.blk ++ (ht.blk ++ (L.set q y).flatMap OTab.blks)).Nodup) (hgt : ht.a = some ⟨gt, 0, none⟩) (hq : q < L.length) (hj : j < 5) (hc : y.cells = L[q].cells.set j u) :
    ObjIn (w.setCell ⟨gt, q * 5 + j, none⟩ u) B hs ht ss (L.set q y) := by
  have hg : gt ∈ ht.blk := by rw [Hd.mem_blk]; unfold Hd.v; rw [hgt]; rfl
  have k := Kb.set w gt (q * 5 + j) u
  obtain ⟨_, n2, d1⟩ := List.nodup_append.1 hnd
  obtain ⟨_, _, d2⟩ := List.nodup_append.1 n2
  refine ⟨own_kb hsch k (fun g h1 e => d1 g (Hd.mem_blk.2 h1) g (by rw [e]; simp [hg]) rfl), ?_, fun x hx => ?_, hnd⟩
  · have := own_set htab (Hd.mem_blk.1 hg) (q * 5 + j) u
    rw [flatMap_set (size := 5) (fun _ => rfl) L q j hq hj u y hc] at this
    rw [List.length_set]; exact this
  · have hb : ∀ g ∈ x.blks, ¬ g = gt := fun g h1 e => d2 gt hg g (List.mem_flatMap.2 ⟨x, hx, h1⟩) e.symm
    rcases mem_set_cases hq hx with rfl | ⟨i, hi, hne, rfl⟩
    · exact hy.kb k hb
    · exact (hoth i hi hne).kb k hb
/-- the cells of a table -/
theorem ObjIn.cell {w : World} {B gt q j : Nat} {hs ht : Hd} {ss : List Sch} {L : List OTab} (h : ObjIn w B hs ht ss L) (hgt : ht.a = some ⟨gt, 0, none⟩) (hq : q < L.length) (hj : j < 5) : w.cell? ⟨gt, q * 5 + j, none⟩ = L[q].cells[j]? := own_cell h.tab (fun _ => rfl) hgt hq hj
theorem ObjIn.row {w : World} {B gt q : Nat} {hs ht : Hd} {ss : List Sch} {L : List OTab} (h : ObjIn w B hs ht ss L) (hgt : ht.a = some ⟨gt, 0, none⟩) (hq : q < L.length) : gt < w.heap.size ∧ B ≤ gt ∧ ∀ j, j < 5 → w.frozen? ⟨gt, q * 5 + j, none⟩ = false := by
  obtain ⟨g, hg, hb, hr⟩ := own_place h.tab (by omega)
  rw [hgt] at hg
  simp only [Option.some.injEq, Addr.mk.injEq, and_true] at hg
  subst hg
  refine ⟨hr.1, hb, fun j hj => hr.2.2 _ ?_⟩
  rw [flatMap_len (size := 5) (fun _ => rfl)]
  have : (q + 1) * 5 ≤ L.length * 5 := Nat.mul_le_mul_right _ hq
  omega
end Go.Proofs.YtiadkchlkdaceaaGreat

namespace Go.Proofs.YtiadkchlkdaceaaGreat
open Go.RowKit Go.Deep
set_option maxRecDepth 100000
set_option linter.unusedVariables false
theorem colC_len (l : List Col) : (l.flatMap colC).length = l.length * 3 := flatMap_len (size := 3) (fun _ => rfl) l
theorem nameC_len (l : List ByteArray) : (l.flatMap nameC).length = l.length * 1 := flatMap_len (size := 1) (fun _ => rfl) l
theorem schC_len (l : List Sch) : (l.flatMap schC).length = l.length * 2 := flatMap_len (size := 2) (fun _ => rfl) l
structure RCopyS (w wr : World) (t : Tab) (A : Option Addr) (cap : Nat) (A2 : Option Addr) (cap2 : Nat) (hc hr : Hd) (L : List ORul) (k : Nat) : Prop where
  aft : Aft w wr
  box : RowAt wr w.heap.size [.string t.schema, .string t.name, .string t.owner, .slice A t.cols.length cap, .slice A2 t.rules.length cap2]
  out : RowAt wr (w.heap.size + 1) [.string ⟨#[]⟩, .string ⟨#[]⟩, .string ⟨#[]⟩, .slice none 0 0, .slice none 0 0]
  col : wr.ownsRow (w.heap.size + 2) 93 3 hc.v t.cols.length (t.cols.flatMap colC)
  rul : wr.ownsRow (w.heap.size + 2) 108 8 hr.v k (L.flatMap ORul.cells)
  len : L.length = k
  is : L.map (·.r) = t.rules.take k
  each : ∀ x ∈ L, RulIn wr (w.heap.size + 2) x
  nd : (hc.blk ++ (hr.blk ++ L.flatMap (·.h.blk))).Nodup
theorem RCopyS.lt {w wr : World} {t : Tab} {A A2 : Option Addr} {cap cap2 : Nat} {hc hr : Hd} {L : List ORul} {k : Nat} (s : RCopyS w wr t A cap A2 cap2 hc hr L k) : ∀ g ∈ hc.blk ++ (hr.blk ++ L.flatMap (·.h.blk)), w.heap.size + 2 ≤ g ∧ g < wr.heap.size := by
  intro g hg
  simp only [List.mem_append, List.mem_flatMap] at hg
  rcases hg with hg | hg | ⟨r, hr, hg⟩
  · exact blk_lt s.col g hg
  · exact blk_lt s.rul g hg
  · exact blk_lt (s.each r hr).nam g hg
theorem RCopyS.step {w wr w4 w5 : World} {t : Tab} {A A2 : Option Addr} {cap cap2 : Nat} {hc hr hr' h4 : Hd} {L : List ORul} {k : Nat} (s : RCopyS w wr t A cap A2 cap2 hc hr L k) (hk : k < t.rules.length)
    (a4 : Aft wr w4) (own4 : w4.ownsRow wr.heap.size 9 1 h4.v t.rules[k].cols.length (t.rules[k].cols.flatMap nameC)) (hg : w4.grownBy w5 hr.v.ownBlock)
    (ho : w5.ownsRow (w.heap.size + 2) 108 8 hr'.v (k + 1) (L.flatMap ORul.cells ++ rulC t.rules[k] h4)) (hb : ∀ g ∈ hr'.blk, g ∈ hr.blk ∨ w4.heap.size ≤ g) : RCopyS w w5 t A cap A2 cap2 hc hr' (L ++ [⟨t.rules[k], h4⟩]) (k + 1) := by
  have hlt := s.lt
  have nd := s.nd
  have nd2 := (List.nodup_append.1 nd).2.1
  have kg : Kb (fun g => hr.v.ownBlock = some g) w4 w5 := Kb.of_grown hg
  have ka : Kb (fun g => hr.v.ownBlock = some g) wr w5 := (Kb.of_aft a4).trans kg
  have hrl : ∀ g, hr.v.ownBlock = some g → w.heap.size + 2 ≤ g ∧ g < wr.heap.size := fun g h1 => s.rul.lt g h1
  have hz := a4.size
  have hzo := s.out.1
  have hx4 : ∀ g ∈ h4.blk, wr.heap.size ≤ g ∧ g < w4.heap.size := blk_lt own4
  refine ⟨ka.to_aft s.aft (fun g hgl h1 => by have := hrl g h1; omega), ka.row s.box (fun h1 => by have := hrl _ h1; omega), ka.row s.out (fun h1 => by have := hrl _ h1; omega), own_kb s.col ka (fun g hg1 hg2 => nodup_disj nd (Hd.mem_blk.2 hg1) (by simp [Hd.mem_blk.2 hg2])), ?_, by simp [s.len], ?_, ?_, ?_⟩
  · rw [List.flatMap_append]
    simpa [ORul.cells] using ho
  · rw [List.map_append, s.is, List.take_succ_eq_append_getElem hk]; rfl
  · intro x hx
    simp only [List.mem_append, List.mem_singleton] at hx
    rcases hx with hx | rfl
    · exact (s.each x hx).kb ka fun g hg1 hg2 => nodup_disj nd2 (Hd.mem_blk.2 hg2) (List.mem_flatMap.2 ⟨x, hx, hg1⟩)
    · exact ⟨own_down (own_kb own4 kg fun g hg1 hg2 => by have := (own4.lt g hg1).1; have := (hrl g hg2).2; omega) (by omega)⟩
  · rw [List.flatMap_append]
    have e : [ORul.mk t.rules[k] h4].flatMap (·.h.blk) = h4.blk := by simp
    rw [e]
    refine List.nodup_append.2 ⟨(List.nodup_append.1 nd).1, List.nodup_append.2 ⟨blk_nodup _, nodup_more (List.nodup_append.1 nd2).2.1 (blk_nodup _) (fun g hg => (hlt g (by simp only [List.mem_append]; exact .inr (.inr hg))).2) (fun g hg => (hx4 g hg).1), ?_⟩, ?_⟩
    · intro a ha b hb2 e
      subst e
      rcases List.mem_append.1 hb2 with h1 | h1
      · rcases hb a ha with h2 | h2
        · exact nodup_disj nd2 h2 h1
        · have := (hlt a (by simp only [List.mem_append]; exact .inr (.inr h1))).2; omega
      · rcases hb a ha with h2 | h2
        · have := (hlt a (by simp [h2])).2; have := (hx4 a h1).1; omega
        · have := (hx4 a h1).2; omega
    · intro a ha b hb2 e
      subst e
      have := (hlt a (by simp [ha])).2
      rcases List.mem_append.1 hb2 with h1 | h1
      · rcases hb a h1 with h2 | h2
        · exact nodup_disj nd ha (by simp [h2])
        · omega
      · rcases List.mem_append.1 h1 with h1 | h1
        · exact nodup_disj nd ha (List.mem_append.2 (.inr h1))
        · have := (hx4 a h1).1; omega
set_option maxHeartbeats 8000000 in
theorem rCopy_in (t : Tab) (A : Option Addr) (cap : Nat) (A2 : Option Addr) (cap2 : Nat) (w : World) (h : SlAt w 3 ColR A cap t.cols) (h2 : SlAt w 8 RulR A2 cap2 t.rules) (hm : ModT t) :
    Calls Tryz.prog 22 #[.agg #[.string t.schema, .string t.name, .string t.owner, .slice A t.cols.length cap, .slice A2 t.rules.length cap2]] w (CopyO w t) := by
  obtain ⟨i0, hi, hz0, hz1, hz2⟩ := info_parts info2Rul2
  have HI := Lib.hid hi
  have HZ0 := Lib.hid hz0
  have HZ1 := Lib.hid hz1
  have HZ2 := Lib.hid hz2
  clear hi hz0 hz1 hz2
  obtain ⟨i1, hi, hz0, hz1, hz2⟩ := info_parts info2Col2
  have JI := Lib.hid hi
  have JZ0 := Lib.hid hz0
  have JZ1 := Lib.hid hz1
  have JZ2 := Lib.hid hz2
  clear hi hz0 hz1 hz2
  obtain ⟨i2, hi, hz0, hz1, hz2⟩ := info_parts info2Str2
  have KI := Lib.hid hi
  have KZ0 := Lib.hid hz0
  have KZ1 := Lib.hid hz1
  have KZ2 := Lib.hid hz2
  clear hi hz0 hz1 hz2
  have hlen := h.len
  have hlen2 := h2.len
  have l1 : w.heap.size < w.heap.size + 1 := by omega
  have l2 : w.heap.size < w.heap.size + 1 + 1 := by omega
  obtain ⟨W, hW⟩ : ∃ W, W = (w.alloc (.cells #[.string t.schema, .string t.name, .string t.owner, .slice A t.cols.length cap, .slice A2 t.rules.length cap2] 76)).alloc (.cells #[.string ⟨#[]⟩, .string ⟨#[]⟩, .string ⟨#[]⟩, .slice none 0 0, .slice none 0 0] 76) := ⟨_, rfl⟩
  have aW : Aft w W := by rw [hW]; exact ((Aft.refl w).alloc _).alloc _
  have r1 : RowAt W w.heap.size [.string t.schema, .string t.name, .string t.owner, .slice A t.cols.length cap, .slice A2 t.rules.length cap2] := by rw [hW]; exact (box_row2 (Aft.refl _)).aft ((Aft.refl _).alloc _)
  have r2 : RowAt W (w.heap.size + 1) [.string ⟨#[]⟩, .string ⟨#[]⟩, .string ⟨#[]⟩, .slice none 0 0, .slice none 0 0] := by
    rw [hW]
    have := (box_row2 (w := w.alloc (.cells #[.string t.schema, .string t.name, .string t.owner, .slice A t.cols.length cap, .slice A2 t.rules.length cap2] 76)) (c := [.string ⟨#[]⟩, .string ⟨#[]⟩, .string ⟨#[]⟩, .slice none 0 0, .slice none 0 0]) (t := 76) (Aft.refl _))
    simpa using this
  have zW : w.heap.size + 2 = W.heap.size := by rw [hW]; simp
  have HC := Lib.hid (sl_cells h (by decide) (fun _ _ h => h.1) aW)
  have HN := Lib.hid (sl_none h)
  have HM := Lib.hid hm
  have HT := Lib.hid h2
  have HR1 := Lib.hid r1
  have HR2 := Lib.hid r2
  have HAW := Lib.hid aW
  have hq4 : t.cols.length ≤ maxLen := by unfold maxLen; omega
  have hq5 : t.cols.length * 32 ≤ 140737488355328 := by have := hm.1; omega
  clear h h2 hm r1 r2 aW
  go_enter Tryz.func22, Tryz.ntmps22
  go_wp2_with (at_builtin; go_must (refine wpList_append_new _ rfl _ _ 73 rfl 93 i1 _ 3 32 Tryz.underlying73 JI.out JZ0.out JZ1.out JZ2.out rfl (by decide) rfl A t.cols.length cap (t.cols.flatMap colC) rfl (colC_len _) HN.out ?qc (oneC_cells oneC_col _) hq4 hq5 ?_); rotate_left; intro Ac cc w1 own1 a1)
  case qc => rw [← hW]; exact HC.out
  have a1 : Aft W w1 := by rw [hW]; exact a1
  have own1 : w1.ownsRow W.heap.size 93 3 (Hd.mk Ac t.cols.length cc).v t.cols.length (t.cols.flatMap colC) := by rw [hW]; exact own1
  have HS0 := Lib.hid (show RCopyS w w1 t A cap A2 cap2 ⟨Ac, t.cols.length, cc⟩ ⟨none, 0, 0⟩ [] 0 from
    ⟨HAW.out.trans a1, HR1.out.aft a1, HR2.out.aft a1, own_down own1 (by omega), own_nil _ _ _ _, rfl, rfl, fun x hx => by simp at hx, by simpa [blk_nil] using blk_nodup _⟩)
  clear hW own1 a1 HC HN zW HR1 HR2 HAW hq4 hq5 JI JZ0 JZ1 JZ2
  go_loopw [4, 5] (fun l i wr => ∃ (k : Nat) (Ar : Option Addr) (cr : Nat) (L : List ORul), k ≤ t.rules.length ∧ i = .int .i64 k ∧ l = .slice Ar k cr ∧ RCopyS w wr t A cap A2 cap2 ⟨Ac, t.cols.length, cc⟩ ⟨Ar, k, cr⟩ L k) (fun _ i _ => t.rules.length - (intOf i).toNat)
  case atStart => exact ⟨0, none, 0, [], Nat.zero_le _, rfl, rfl, HS0.out⟩
  case round =>
    clear HS0
    obtain ⟨k, Ar, cr, L, hk, rfl, rfl, hs⟩ := hrel
    have HS := Lib.hid hs
    have bz := hs.box.1
    have b4 := hs.box.cell (j := 4) rfl
    by_cases hlt : k < t.rules.length
    · obtain ⟨b, off, D, capD, rfl, hb, c0, c1, c2, c3, c4, c5, c6, c7, hcs, hss⟩ := rul_at (ruls_aft hs.aft HT.out) hlt
      obtain ⟨p, hpp⟩ : ∃ p, t.rules[k] = p := ⟨_, rfl⟩
      rw [hpp] at c0 c1 c2 c3 c4 c5 c6 c7 hcs
      have HPP := Lib.hid hpp
      have hpl := hcs.len
      have hp6 : p.cols.length ≤ 1000000 := HM.out.2.2 p (by rw [← hpp]; exact List.getElem_mem hlt)
      have hq1 : p.cols.length ≤ maxLen := by unfold maxLen; omega
      have hq2 : p.cols.length * 16 ≤ 140737488355328 := by omega
      have hq3 : k + 1 ≤ maxLen := by unfold maxLen; omega
      have hq4 : (k + 1) * 112 ≤ 140737488355328 := by have := HM.out.2.1; omega
      obtain ⟨V, hV⟩ : ∃ V, V = wr.alloc (.cells #[.string p.name, .int .i64 p.kind, .slice D p.cols.length capD, .int .i64 p.low, .int .i64 p.high, .string p.schema, .string p.table, .string p.key] 108) := ⟨_, rfl⟩
      have aV : Aft wr V := by rw [hV]; exact (Aft.refl _).alloc _
      have rV : RowAt V wr.heap.size [.string p.name, .int .i64 p.kind, .slice D p.cols.length capD, .int .i64 p.low, .int .i64 p.high, .string p.schema, .string p.table, .string p.key] := by rw [hV]; exact box_row2 (Aft.refl _)
      have zV : V.heap.size = wr.heap.size + 1 := by rw [hV]; simp
      have HC := Lib.hid (sl_cells hcs (by decide) (fun _ _ h => h.1) aV)
      have HN := Lib.hid (sl_none hcs)
      have HAV := Lib.hid aV
      have HRV := Lib.hid rV
      have HZV := Lib.hid zV
      have HOWN := Lib.hid (show wr.ownsRow (w.heap.size + 2) 108 8 (.slice Ar k cr) k (L.flatMap ORul.cells) from hs.rul)
      have HLT := Lib.hid (show w.heap.size + 2 ≤ wr.heap.size from hs.out.1)
      have l3 : wr.heap.size < wr.heap.size + 1 := by omega
      have l4 : w.heap.size < wr.heap.size + 1 := by omega
      clear hs hpp hcs aV rV zV hss
      have HAS := Lib.hid (show ∀ (w2 : World) (v : Value), Aft V w2 → RowAt w2 wr.heap.size [.string p.name, .int .i64 p.kind, .slice D p.cols.length capD, .int .i64 p.low, .int .i64 p.high, .string p.schema, .string p.table, .string p.key] ∧ Aft wr (w2.setCell ⟨wr.heap.size, 2, none⟩ v) from
        fun w2 v a => ⟨HRV.out.aft a, (HAV.out.trans a).setCell _ _ (Nat.le_refl _)⟩)
      go_wp2_with (first
        | (at_builtin; have _t := HN.out; go_must (refine wpList_append_new _ rfl _ _ 60 rfl 9 i2 _ 1 16 Tryz.underlying60 KI.out KZ0.out KZ1.out KZ2.out rfl (by decide) rfl D p.cols.length capD (p.cols.flatMap nameC) rfl (nameC_len _) HN.out ?qc2 (oneC_cells oneC_name _) hq1 hq2 ?_); rotate_left; intro Dn cn w2 own2 a2; have a2 : Aft V w2 := (by rw [hV]; exact a2); have r2 := (HAS.out w2 (.slice Dn p.cols.length cn) a2).1; have x0 := r2.cell (j := 0) rfl; have x1 := r2.cell (j := 1) rfl; have x2 := r2.cell (j := 2) rfl; have x3 := r2.cell (j := 3) rfl; have x4 := r2.cell (j := 4) rfl; have x5 := r2.cell (j := 5) rfl; have x6 := r2.cell (j := 6) rfl; have x7 := r2.cell (j := 7) rfl; have y2 := r2.2.2 2 (by simp); have z2 := r2.1; have HA2 := Lib.hid a2; have HO2 := Lib.hid own2; clear r2 a2 own2 HN _t)
        | (at_builtin; go_must (refine wpList_append_lies _ rfl _ _ 74 rfl (w.heap.size + 2) 108 i0 _ 8 112 Tryz.underlying74 HI.out HZ0.out HZ1.out HZ2.out rfl (by decide) (.slice Ar k cr) k (L.flatMap ORul.cells) rfl ((own_aft HOWN.out (HAS.out w2 _ HA2.out).2).alloc _) ⟨w2.heap.size, 0, none⟩ 1 1 [.string p.name, .int .i64 p.kind, .slice Dn p.cols.length cn, .int .i64 p.low, .int .i64 p.high, .string p.schema, .string p.table, .string p.key] rfl rfl ?qn (by simp [Value.oneCell']) (by omega) hq3 hq4 ?qb (w2.heap.size + 1) (by simp) ?_); rotate_left 2; intro gg cap' w5 hown5 hgrow hat hgl))
      case qc2 => rw [← hV]; exact HC.out
      case qn => exact World.news_of_block (cs := #[.string p.name, .int .i64 p.kind, .slice Dn p.cols.length cn, .int .i64 p.low, .int .i64 p.high, .string p.schema, .string p.table, .string p.key]) (t := 108) (fr := (0, 0)) (by have := heap_alloc_new (w2.setCell ⟨wr.heap.size, 2, none⟩ (.slice Dn p.cols.length cn)) (.cells #[.string p.name, .int .i64 p.kind, .slice Dn p.cols.length cn, .int .i64 p.low, .int .i64 p.high, .string p.schema, .string p.table, .string p.key] 108); simpa using this)
      case qb => simp; have := HLT.out; omega
      have own4 : w2.ownsRow (wr.heap.size + 1) 9 1 (Hd.mk Dn p.cols.length cn).v p.cols.length (p.cols.flatMap nameC) := own_down HO2.out (by simp)
      have own5 := (own_kb own4 (Kb.set w2 wr.heap.size 2 (.slice Dn p.cols.length cn)) (fun g hg e => by have := (own4.lt g hg).1; omega)).alloc (.cells #[.string p.name, .int .i64 p.kind, .slice Dn p.cols.length cn, .int .i64 p.low, .int .i64 p.high, .string p.schema, .string p.table, .string p.key] 108)
      have HREL := Lib.hid (HS.out.step (h4 := ⟨Dn, p.cols.length, cn⟩) (hr' := ⟨some ⟨gg, 0, none⟩, k + 1, cap'⟩) hlt ((HAS.out w2 _ HA2.out).2.alloc _) (by rw [HPP.out]; exact own_down own5 (by omega)) hgrow (by rw [HPP.out]; exact hown5)
        (fun g hg => by
          rw [blk_some, List.mem_singleton] at hg
          subst hg
          rcases hat with h1 | h1
          · exact .inl (Hd.mem_blk.2 h1)
          · refine .inr ?_
            simp
            omega))
      rw [HPP.out] at HREL
      clear own4 own5 hgrow hat hgl hown5 HO2 HA2 x0 x1 x2 x3 x4 x5 x6 x7 y2 z2
      go_wp2_with fail
      go_roundw
      case rel => exact ⟨k + 1, _, _, _, by omega, by go_num, rfl, HREL.out⟩
      case measure => simp [intOf]; omega
    · have c0 := hs.box.cell (j := 0) rfl
      have c1 := hs.box.cell (j := 1) rfl
      have c2 := hs.box.cell (j := 2) rfl
      have c3 := hs.box.cell (j := 3) rfl
      have g3 := hs.box.2.2 3 (by simp)
      have g4 := hs.box.2.2 4 (by simp)
      have d0 := hs.out.cell (j := 0) rfl
      have d1 := hs.out.cell (j := 1) rfl
      have d2 := hs.out.cell (j := 2) rfl
      have d3 := hs.out.cell (j := 3) rfl
      have d4 := hs.out.cell (j := 4) rfl
      have e0 := hs.out.2.2 0 (by simp)
      have e1 := hs.out.2.2 1 (by simp)
      have e2 := hs.out.2.2 2 (by simp)
      have e3 := hs.out.2.2 3 (by simp)
      have e4 := hs.out.2.2 4 (by simp)
      have dz := hs.out.1
      clear hs
      go_wp2_with fail
      have hs := HS.out
      obtain ⟨G, hG⟩ : ∃ G, G = (wr.setCell ⟨w.heap.size, 3, none⟩ (.slice Ac t.cols.length cc)).setCell ⟨w.heap.size, 4, none⟩ (.slice Ar k cr) := ⟨_, rfl⟩
      have kG : Kb (fun x => x = w.heap.size) wr G := by rw [hG]; exact (Kb.set _ _ _ _).trans (Kb.set _ _ _ _)
      have rG : RowAt G w.heap.size [.string t.schema, .string t.name, .string t.owner, .slice Ac t.cols.length cc, .slice Ar k cr] := by rw [hG]; exact (hs.box.set 3 _ (by simp)).set 4 _ (by simp)
      have oG := kG.row hs.out (by omega)
      rw [← hG]
      have HG := Lib.hid hG
      have HKG := Lib.hid kG
      have HOG := Lib.hid oG
      have rl : Sem.run Tryz.prog (lvTab ⟨w.heap.size, 0, none⟩) G = .ok (.agg #[.string t.schema, .string t.name, .string t.owner, .slice Ac t.cols.length cc, .slice Ar k cr]) G := lvTab_row rG
      rw [rl]
      clear rl hG d0 d1 d2 d3 d4 e0 e1 e2 e3 e4 dz c0 c1 c2 c3 g3 g4 hs kG rG
      have d0 := oG.cell (j := 0) rfl
      have d1 := oG.cell (j := 1) rfl
      have d2 := oG.cell (j := 2) rfl
      have d3 := oG.cell (j := 3) rfl
      have d4 := oG.cell (j := 4) rfl
      have e0 := oG.2.2 0 (by simp)
      have e1 := oG.2.2 1 (by simp)
      have e2 := oG.2.2 2 (by simp)
      have e3 := oG.2.2 3 (by simp)
      have e4 := oG.2.2 4 (by simp)
      have dz := oG.1
      clear oG
      simp only [Result.andThen]
      rw [Oper.upon_value]
      go_wp2_with fail
      (try simp only [Exit.inBlock, Exit.then])
      have hs := HS.out
      have kG := HKG.out
      obtain ⟨F, hF⟩ : ∃ F, F = ((((G.setCell ⟨w.heap.size + 1, 0, none⟩ (.string t.schema)).setCell ⟨w.heap.size + 1, 1, none⟩ (.string t.name)).setCell ⟨w.heap.size + 1, 2, none⟩ (.string t.owner)).setCell ⟨w.heap.size + 1, 3, none⟩ (.slice Ac t.cols.length cc)).setCell ⟨w.heap.size + 1, 4, none⟩ (.slice Ar k cr) := ⟨_, rfl⟩
      have kF : Kb (fun x => x = w.heap.size + 1) G F := by
        rw [hF]
        exact ((((Kb.set _ _ _ _).trans (Kb.set _ _ _ _)).trans (Kb.set _ _ _ _)).trans (Kb.set _ _ _ _)).trans (Kb.set _ _ _ _)
      have rF : RowAt F (w.heap.size + 1) [.string t.schema, .string t.name, .string t.owner, .slice Ac t.cols.length cc, .slice Ar k cr] := by
        rw [hF]
        exact ((((HOG.out.set 0 _ (by simp)).set 1 _ (by simp)).set 2 _ (by simp)).set 3 _ (by simp)).set 4 _ (by simp)
      rw [← hF]
      refine bodyPost_ret (results_cell (v := .agg #[.string t.schema, .string t.name, .string t.owner, .slice Ac t.cols.length cc, .slice Ar k cr]) rfl _ rfl ?hl) rfl ?_
      case hl => exact lvTab_row rF
      have hkn : k = t.rules.length := by omega
      subst hkn
      have his := hs.is
      rw [List.take_of_length_le (Nat.le_refl _)] at his
      have hlen' : L.length = t.rules.length := hs.len
      have hlt' := hs.lt
      have kk : Kb (fun x => x = w.heap.size ∨ x = w.heap.size + 1) wr F := (kG.mono fun _ _ h => .inl h).trans (kF.mono fun _ _ h => .inr h)
      refine ⟨⟨t.schema, t.name, t.owner, t.cols, L, ⟨Ac, t.cols.length, cc⟩, ⟨Ar, t.rules.length, cr⟩⟩, by unfold OTab.t; rw [his], rfl, kk.to_aft hs.aft (fun x hx e => by omega), ?_, hs.nd⟩
      refine TabIn.down (TabIn.kb (w := wr) (B := w.heap.size + 2) ⟨hs.col, by show wr.ownsRow _ _ 8 _ L.length _; rw [hlen']; exact hs.rul, hs.each⟩ kk fun g hg e => ?_) (by omega)
      have := hlt' g hg
      omega
end Go.Proofs.YtiadkchlkdaceaaGreat

namespace Go.Proofs.YtiadkchlkdaceaaGreat
open Go.RowKit Go.Deep
set_option maxRecDepth 100000
set_option linter.unusedVariables false
theorem OwnS.row0 {w wr w4 w5 : World} {o : Objs} {n3 : Nat} {hs ht : Hd} {L : List OTab} {k : Nat} (s : OwnS w wr o n3 hs ht L k) (a4 : Aft wr w4) (hg : w4.grownBy w5 ht.v.ownBlock) (v : Value) {xs : List Value} (hr : RowAt wr w.heap.size xs) : RowAt (w5.setCell ⟨n3, 1, none⟩ v) w.heap.size xs := by
  have k5 : Kb (fun g => g = n3) w5 (w5.setCell ⟨n3, 1, none⟩ v) := Kb.set _ _ _ _
  have kg : Kb (fun g => ht.v.ownBlock = some g) w4 w5 := Kb.of_grown hg
  have hn3 := s.n3
  exact k5.row (kg.row (hr.aft a4) (fun h1 => by have := (s.obj.tab.lt _ h1).1; omega)) (by omega)
set_option maxHeartbeats 8000000 in
theorem rOwn_in (o : Objs) (As : Option Addr) (caps : Nat) (At : Option Addr) (capt : Nat) (w : World) (hsch : SlAt w 2 SchR As caps o.schemas) (htab : SlAt w 5 TabR At capt o.tables) (hm : ModO o) :
    Calls Tryz.prog 7 #[.agg #[.slice As o.schemas.length caps, .slice At o.tables.length capt]] w (OwnO w o) := by
  obtain ⟨i0, hi, hz0, hz1, hz2⟩ := info_parts info2Tab
  have HI := Lib.hid hi
  have HZ0 := Lib.hid hz0
  have HZ1 := Lib.hid hz1
  have HZ2 := Lib.hid hz2
  clear hi hz0 hz1 hz2
  obtain ⟨i1, hi, hz0, hz1, hz2⟩ := info_parts info2Sch2
  have JI := Lib.hid hi
  have JZ0 := Lib.hid hz0
  have JZ1 := Lib.hid hz1
  have JZ2 := Lib.hid hz2
  clear hi hz0 hz1 hz2
  have hlen := hsch.len
  have hlen2 := htab.len
  have l1 : w.heap.size < w.heap.size + 1 := by omega
  have l2 : w.heap.size < w.heap.size + 1 + 1 := by omega
  have l3 : w.heap.size < w.heap.size + 1 + 1 + 1 := by omega
  obtain ⟨W, hW⟩ : ∃ W, W = ((w.alloc (.cells #[.slice As o.schemas.length caps, .slice At o.tables.length capt] 29)).alloc (.cells #[.slice none 0 0, .slice none 0 0] 29)).alloc (.cells #[.slice none 0 0, .slice none 0 0] 29) := ⟨_, rfl⟩
  have aW : Aft w W := by rw [hW]; exact (((Aft.refl w).alloc _).alloc _).alloc _
  have r1 : RowAt W w.heap.size [.slice As o.schemas.length caps, .slice At o.tables.length capt] := by rw [hW]; exact (box_row2 (Aft.refl _)).aft (((Aft.refl _).alloc _).alloc _)
  have r2 : RowAt W (w.heap.size + 1) [.slice none 0 0, .slice none 0 0] := by
    rw [hW]
    have := (box_row2 (w := w.alloc (.cells #[.slice As o.schemas.length caps, .slice At o.tables.length capt] 29)) (c := [.slice none 0 0, .slice none 0 0]) (t := 29) (Aft.refl _)).aft ((Aft.refl _).alloc (.cells #[.slice none 0 0, .slice none 0 0] 29))
    simpa using this
  have r3 : RowAt W (w.heap.size + 2) [.slice none 0 0, .slice none 0 0] := by
    rw [hW]
    have := (box_row2 (w := (w.alloc (.cells #[.slice As o.schemas.length caps, .slice At o.tables.length capt] 29)).alloc (.cells #[.slice none 0 0, .slice none 0 0] 29)) (c := [.slice none 0 0, .slice none 0 0]) (t := 29) (Aft.refl _))
    simpa using this
  have zW : W.heap.size = w.heap.size + 3 := by rw [hW]; simp
  have HC := Lib.hid (sl_cells hsch (by decide) (fun _ _ h => h.1) aW)
  have HN := Lib.hid (sl_none hsch)
  have HM := Lib.hid hm
  have HT := Lib.hid htab
  have HR1 := Lib.hid r1
  have HR2 := Lib.hid r2
  have HR3 := Lib.hid r3
  have HAW := Lib.hid aW
  have hq4 : o.schemas.length ≤ maxLen := by unfold maxLen; omega
  have hq5 : o.schemas.length * 32 ≤ 140737488355328 := by have := hm.1; omega
  clear hsch htab hm r1 r2 r3 aW
  go_enter Tryz.func7, Tryz.ntmps7
  go_wp2_with (at_builtin; go_must (refine wpList_append_new _ rfl _ _ 26 rfl 88 i1 _ 2 32 Tryz.underlying26 JI.out JZ0.out JZ1.out JZ2.out rfl (by decide) rfl As o.schemas.length caps (o.schemas.flatMap schC) rfl (schC_len _) HN.out ?qc (oneC_cells oneC_sch _) hq4 hq5 ?_); rotate_left; intro Ac cc w1 own1 a1; have a1 : Aft W w1 := (by rw [hW]; exact a1); have b3 := (HR3.out.aft a1).cell (j := 0) rfl; have f3 := (HR3.out.aft a1).2.2 0 (by simp); have z3 := (HR3.out.aft a1).1)
  case qc => rw [← hW]; exact HC.out
  have own1 : w1.ownsRow W.heap.size 88 2 (Hd.mk Ac o.schemas.length cc).v o.schemas.length (o.schemas.flatMap schC) := by rw [hW]; exact own1
  obtain ⟨n3, hn3⟩ : ∃ n, n = w.heap.size + 2 := ⟨_, rfl⟩
  obtain ⟨W1, hW1⟩ : ∃ W1, W1 = w1.setCell ⟨w.heap.size + 1 + 1, 0, none⟩ (.slice Ac o.schemas.length cc) := ⟨_, rfl⟩
  have kW1 : Kb (fun g => g = n3) w1 W1 := by rw [hW1, hn3]; exact Kb.set _ _ _ _
  have HS0 := Lib.hid (show OwnS w W1 o n3 ⟨Ac, o.schemas.length, cc⟩ ⟨none, 0, 0⟩ [] 0 ∧ RowAt W1 w.heap.size [.slice As o.schemas.length caps, .slice At o.tables.length capt] from by
    have hge : ∀ g ∈ (Hd.mk Ac o.schemas.length cc).blk, w.heap.size + 3 ≤ g := fun g hg => by have := (blk_lt own1 g hg).1; omega
    refine ⟨⟨kW1.to_aft (HAW.out.trans a1) (fun x hx e => by omega), kW1.row (HR2.out.aft a1) (by omega), ?_, ⟨own_kb (own_down own1 (by omega)) kW1 (fun g hg e => by have := hge g (Hd.mem_blk.2 hg); omega), own_nil _ _ _ _, fun x hx => by simp at hx, by simpa [blk_nil] using blk_nodup _⟩, fun g hg => ?_, rfl, by omega, rfl⟩, kW1.row (HR1.out.aft a1) (by omega)⟩
    · rw [hW1, hn3]; exact (HR3.out.aft a1).set 0 _ (by simp)
    · have hg' : g ∈ (Hd.mk Ac o.schemas.length cc).blk := by simpa [blk_nil] using hg
      have := hge g hg'
      omega)
  rw [← hW1]
  have e3 : w.heap.size + 1 + 1 = n3 := by omega
  rw [e3]
  clear hW own1 a1 HC HN zW HR1 HR2 HR3 HAW hq4 hq5 JI JZ0 JZ1 JZ2 hW1 kW1 b3 f3 z3 hn3 e3 l2 l3
  go_loopw [4] (fun i wr => ∃ (k : Nat) (ht : Hd) (L : List OTab), k ≤ o.tables.length ∧ i = .int .i64 k ∧ OwnS w wr o n3 ⟨Ac, o.schemas.length, cc⟩ ht L k ∧ RowAt wr w.heap.size [.slice As o.schemas.length caps, .slice At o.tables.length capt]) (fun i _ => o.tables.length - (intOf i).toNat)
  case atStart => exact ⟨0, _, [], Nat.zero_le _, rfl, HS0.out⟩
  case round =>
    clear HS0
    obtain ⟨k, ht, L, hk, rfl, hs, hbx⟩ := hrel
    have HBX := Lib.hid hbx
    have v1 := hbx.cell (j := 1) rfl
    have v2 := hbx.1
    clear hbx
    have HS := Lib.hid hs
    have z3 := hs.box.1
    have k1 := hs.box.cell (j := 1) rfl
    have f1 := hs.box.2.2 1 (by simp)
    by_cases hlt : k < o.tables.length
    · obtain ⟨b, off, A2, cap2, A3, cap3, rfl, hb, t0, t1, t2, t3, t4, hcols, hruls, hss⟩ := tab_at HT.out hlt
      obtain ⟨p, hpp⟩ : ∃ p, o.tables[k] = p := ⟨_, rfl⟩
      rw [hpp] at t0 t1 t2 t3 t4 hcols hruls hss
      have HPP := Lib.hid hpp
      have C := Lib.hid (show ∀ w', Aft wr w' → _ from fun w' a => rCopy_in p A2 cap2 A3 cap3 w' (cols_aft (hs.aft.trans a) hcols) (ruls_aft (hs.aft.trans a) hruls) (by have := HM.out.2.2 p (by rw [← hpp]; exact List.getElem_mem hlt); exact this))
      have hzr : w.heap.size + 2 ≤ wr.heap.size := by have := hs.n3; omega
      obtain ⟨At', nt, ct⟩ := ht
      have htab := hs.obj.tab
      rw [hs.len] at htab
      have hnt : nt = k := own_n htab
      subst hnt
      have hown : wr.ownsRow (w.heap.size + 2) 76 5 (.slice At' nt ct) nt (L.flatMap OTab.cells) := htab
      have HOWN := Lib.hid hown
      have hneb : (Value.slice At' nt ct).ownBlock ≠ some n3 := fun e => hs.ne n3 (by simp only [List.mem_append]; exact .inr (.inl (Hd.mem_blk.2 e))) rfl
      have HB := Lib.hid hs.box
      have KF := Lib.hid (show ∀ w', Kb (fun g => (Value.slice At' nt ct).ownBlock = some g) wr w' → (w'.cell? ⟨n3, 1, none⟩ = some (.slice At' nt ct) ∧ w'.cell? ⟨w.heap.size, 1, none⟩ = some (.slice (some ⟨b, off, none⟩) o.tables.length capt) ∧ w'.cell? ⟨b, off + nt * 5, none⟩ = some (.string p.schema) ∧ w'.cell? ⟨b, off + nt * 5 + 1, none⟩ = some (.string p.name) ∧ w'.cell? ⟨b, off + nt * 5 + 2, none⟩ = some (.string p.owner) ∧ w'.cell? ⟨b, off + nt * 5 + 3, none⟩ = some (.slice A2 p.cols.length cap2) ∧ w'.cell? ⟨b, off + nt * 5 + 4, none⟩ = some (.slice A3 p.rules.length cap3) ∧ w'.frozen? ⟨n3, 1, none⟩ = false ∧ n3 < w'.heap.size) from fun w' kb => by
        have hne2 : ¬ (Value.slice At' nt ct).ownBlock = some b := fun e => by have := (HOWN.out.lt _ e).1; omega
        have hne3 : ¬ (Value.slice At' nt ct).ownBlock = some w.heap.size := fun e => by have := (HOWN.out.lt _ e).1; omega
        have r3 := kb.row HB.out hneb
        exact ⟨kb.cell k1 hneb, kb.cell v1 hne3, kb.cell (hs.aft.cell_kept t0) hne2, kb.cell (hs.aft.cell_kept t1) hne2, kb.cell (hs.aft.cell_kept t2) hne2, kb.cell (hs.aft.cell_kept t3) hne2, kb.cell (hs.aft.cell_kept t4) hne2, r3.2.2 1 (by simp), r3.1⟩)
      have h63 : nt + 1 ≤ maxLen := by unfold maxLen; omega
      have hby : (nt + 1) * 96 ≤ 140737488355328 := by have := HM.out.2.1; omega
      have hb0 : (0 : Int) ≤ (nt : Int) := by omega
      have hb1 : (nt : Int) < (o.tables.length : Int) := by omega
      clear hs htab hown hpp hcols hruls hneb t0 t1 t2 t3 t4
      go_wp2_with fail
      obtain ⟨q1, q2, q3, q4, q5, q6, q7, q8, q9⟩ := KF.out _ (Kb.refl _ _)
      go_region_law ((first | (go_simp; go_at_call 22; refine (C.out _ (Aft.refl _).drew).mono ?_; rintro e w4 ⟨x, hxt, rfl, a4, tin, xnd⟩; have a5 : Aft wr w4 := (Aft.refl _).drew.trans a4; obtain ⟨p1, p2, p3, p4, p5, p6, p7, p8, p9⟩ := KF.out w4 (Kb.of_aft a5); dsimp only) | (refine step_append_lies _ (by rfl) _ _ _ (by rfl) (w.heap.size + 2) 76 i0 _ 5 96 Tryz.underlying27 HI.out HZ0.out HZ1.out HZ2.out rfl (by omega) (.slice At' nt ct) nt (L.flatMap OTab.cells) (by rfl) ((own_aft HOWN.out a5).alloc _) ⟨w4.heap.size, 0, none⟩ 1 1 [.string p.schema, .string p.name, .string p.owner, .slice x.hc.a p.cols.length x.hc.c, .slice x.hr.a p.rules.length x.hr.c] (by rfl) (by rfl) (World.news_of_block (cs := #[.string p.schema, .string p.name, .string p.owner, .slice x.hc.a p.cols.length x.hc.c, .slice x.hr.a p.rules.length x.hr.c]) (t := 76) (fr := (0, 0)) (heap_alloc_new w4 _)) (by simp [Value.oneCell']) (by omega) h63 hby (by simp; have := a5.size; omega) (w4.heap.size + 1) (by simp) ?_; intro gg cap' w5 hown5 hgrow hat hgl; obtain ⟨s1, s2, s3, s4, s5, s6, s7, s8, s9⟩ := KF.out _ ((Kb.of_aft (a5.alloc _)).trans (Kb.of_grown hgrow)))))
      all_goals
        have HREL0 := Lib.hid (HS.out.row0 (a5.alloc _) hgrow (.slice (some ⟨gg, 0, none⟩) (nt + 1) cap') HBX.out)
        have HREL := Lib.hid (HS.out.step (ht' := ⟨some ⟨gg, 0, none⟩, nt + 1, cap'⟩) (x := x) hlt (by rw [hxt, HPP.out]) (a5.alloc _) (tin.aft ((Aft.refl _).alloc _)) xnd hgrow (by rw [OTab.cells_of tin hxt]; exact hown5)
          (fun g hg => by
            rw [blk_some, List.mem_singleton] at hg
            subst hg
            rcases hat with h1 | h1
            · exact .inl (Hd.mem_blk.2 h1)
            · refine .inr ?_
              simp
              omega)
          (fun g hg hx => by
            rw [blk_some, List.mem_singleton] at hg
            subst hg
            have h2 := tin.lt _ hx
            have h4 : wr.heap.size ≤ g := h2.1
            rcases hat with h1 | h1
            · have := (HOWN.out.lt _ h1).2
              omega
            · omega))
        clear tin xnd hown5 hgrow hat hgl a5 a4 hxt q1 q2 q3 q4 q5 q6 q7 q8 q9 p1 p2 p3 p4 p5 p6 p7 p8 p9 s1 s2 s3 s4 s5 s6 s7 s8 s9
        go_wp2_with fail
        go_roundw
        case rel => exact ⟨nt + 1, _, _, by omega, by go_num, HREL.out, HREL0.out⟩
        case measure => simp [intOf]; omega
    · have c0 := hs.box.cell (j := 0) rfl
      have d0 := hs.out.cell (j := 0) rfl
      have d1 := hs.out.cell (j := 1) rfl
      have e0 := hs.out.2.2 0 (by simp)
      have e1 := hs.out.2.2 1 (by simp)
      have dz := hs.out.1
      clear hs
      go_wp2_with fail
      (try simp only [Exit.inBlock, Exit.then])
      have hs := HS.out
      obtain ⟨F, hF⟩ : ∃ F, F = (wr.setCell ⟨w.heap.size + 1, 0, none⟩ (.slice Ac o.schemas.length cc)).setCell ⟨w.heap.size + 1, 1, none⟩ (.slice ht.a k ht.c) := ⟨_, rfl⟩
      have kF : Kb (fun x => x = w.heap.size + 1) wr F := by
        rw [hF]
        exact (Kb.set _ _ _ _).trans (Kb.set _ _ _ _)
      have rF : RowAt F (w.heap.size + 1) [.slice Ac o.schemas.length cc, .slice ht.a k ht.c] := by
        rw [hF]
        exact (hs.out.set 0 _ (by simp)).set 1 _ (by simp)
      rw [← hF]
      refine bodyPost_ret (results_cell (v := .agg #[.slice Ac o.schemas.length cc, .slice ht.a k ht.c]) rfl _ rfl ?hl) rfl ?_
      case hl => exact lvObj_row rF
      have hkn : k = o.tables.length := by omega
      subst hkn
      have his := hs.is
      rw [List.take_of_length_le (Nat.le_refl _)] at his
      refine ⟨⟨Ac, o.schemas.length, cc⟩, ht, L, his, rfl, kF.to_aft hs.aft (fun x hx e => by omega), ?_⟩
      refine ObjIn.down (hs.obj.kb kF fun g hg e => ?_) (by omega)
      have := (hs.obj.lt g hg).1
      omega
end Go.Proofs.YtiadkchlkdaceaaGreat

namespace Go.Proofs.YtiadkchlkdaceaaGreat
open Go.RowKit
set_option maxRecDepth 100000
set_option linter.unusedVariables false
set_option maxHeartbeats 1000000 in
theorem rsch_any (A : Option Addr) (cap : Nat) (l : List Sch) (vt : Value) (name : ByteArray) (w : World) (h : SlAt w 2 SchR A cap l) :
    Calls Tryz.prog 78 #[.agg #[.slice A l.length cap, vt], .string name] w fun e w' => e = .returned (.int .i64 (schAt l name)) ∧ Aft w w' := by
  have hlen := h.len
  go_enter Tryz.func78, Tryz.ntmps78
  go_wp2_with fail
  go_loop [5] (fun i => ∃ k : Nat, k ≤ l.length ∧ i = .int .i64 k ∧ ∀ j, j < k → ∀ (hj : j < l.length), eqS l[j].name name = false) (fun i => l.length - (intOf i).toNat)
  case atStart => exact ⟨0, Nat.zero_le _, rfl, fun j hj => absurd hj (Nat.not_lt_zero j)⟩
  case round =>
    obtain ⟨k, hk, rfl, hp⟩ := hrel
    have HP := Lib.hid hp; clear hp
    by_cases hlt : k < l.length
    · obtain ⟨b, off, rfl, hb, c0, c1, hs⟩ := sch_at h hlt
      cases heq : eqS l[k].name name
      · have h2 : (l[k].name.toList == name.toList) = false := heq
        have HN := Lib.hid (ext_lt (p := fun j => ∀ (hj : j < l.length), eqS l[j].name name = false) HP.out (fun _ => heq))
        clear heq
        go_wp2_with fail
        go_round
        case rel => exact ⟨k + 1, by omega, by go_num, HN.out⟩
        case measure => simp [intOf]; omega
      · have h2 : (l[k].name.toList == name.toList) = true := heq
        have HQ := Lib.hid heq
        clear heq
        go_wp2_with fail
        go_ret
        have heq := HQ.out
        exact ⟨by rw [show schAt l name = k from idxP_some (fun c : Sch => eqS c.name name) l k hlt heq (fun i hi => HP.out i hi (by omega))]; rfl, (Aft.refl _).alloc _⟩
    · go_wp2_with fail
      go_ret
      exact ⟨by rw [show schAt l name = -1 from idxP_none (fun c : Sch => eqS c.name name) l (fun i hi => HP.out i (by omega) hi)]; rfl, (Aft.refl _).alloc _⟩
set_option maxHeartbeats 1000000 in
theorem rtab_any (vs : Value) (A : Option Addr) (cap : Nat) (l : List Tab) (s n : ByteArray) (w : World) (h : SlAt w 5 TabR A cap l) :
    Calls Tryz.prog 27 #[.agg #[vs, .slice A l.length cap], .string s, .string n] w fun e w' => e = .returned (.int .i64 (tabAt l s n)) ∧ Aft w w' := by
  have hlen := h.len
  go_enter Tryz.func27, Tryz.ntmps27
  go_wp2_with fail
  go_loop [7] (fun i => ∃ k : Nat, k ≤ l.length ∧ i = .int .i64 k ∧ ∀ j, j < k → ∀ (hj : j < l.length), (eqS l[j].schema s && eqS l[j].name n) = false) (fun i => l.length - (intOf i).toNat)
  case atStart => exact ⟨0, Nat.zero_le _, rfl, fun j hj => absurd hj (Nat.not_lt_zero j)⟩
  case round =>
    obtain ⟨k, hk, rfl, hp⟩ := hrel
    have HP := Lib.hid hp; clear hp
    by_cases hlt : k < l.length
    · obtain ⟨b, off, B2, capB2, B3, capB3, rfl, hb, c0, c1, c2, c3, c4, hcols, hrules, hss⟩ := tab_at h hlt
      clear hcols hrules hss
      cases heq : eqS l[k].schema s
      · have h2 : (l[k].schema.toList == s.toList) = false := heq
        have HN := Lib.hid (ext_lt (p := fun j => ∀ (hj : j < l.length), (eqS l[j].schema s && eqS l[j].name n) = false) HP.out (fun _ => by rw [heq]; rfl))
        clear heq
        go_wp2_with fail
        go_round
        case rel => exact ⟨k + 1, by omega, by go_num, HN.out⟩
        case measure => simp [intOf]; omega
      have h2 : (l[k].schema.toList == s.toList) = true := heq
      cases heq2 : eqS l[k].name n
      · have h3 : (l[k].name.toList == n.toList) = false := heq2
        have HN := Lib.hid (ext_lt (p := fun j => ∀ (hj : j < l.length), (eqS l[j].schema s && eqS l[j].name n) = false) HP.out (fun _ => by rw [heq, heq2]; rfl))
        clear heq heq2
        go_wp2_with fail
        go_round
        case rel => exact ⟨k + 1, by omega, by go_num, HN.out⟩
        case measure => simp [intOf]; omega
      · have h3 : (l[k].name.toList == n.toList) = true := heq2
        have HQ := Lib.hid (show (eqS l[k].schema s && eqS l[k].name n) = true by rw [heq, heq2]; rfl)
        clear heq heq2
        go_wp2_with fail
        go_ret
        have heq := HQ.out
        exact ⟨by rw [show tabAt l s n = k from idxP_some (fun t : Tab => eqS t.schema s && eqS t.name n) l k hlt heq (fun i hi => HP.out i hi (by omega))]; rfl, (Aft.refl _).alloc _⟩
    · go_wp2_with fail
      go_ret
      exact ⟨by rw [show tabAt l s n = -1 from idxP_none (fun t : Tab => eqS t.schema s && eqS t.name n) l (fun i hi => HP.out i (by omega) hi)]; rfl, (Aft.refl _).alloc _⟩
set_option maxHeartbeats 1000000 in
theorem rtabs_any (vs : Value) (A : Option Addr) (cap : Nat) (l : List Tab) (s : ByteArray) (w : World) (h : SlAt w 5 TabR A cap l) :
    Calls Tryz.prog 77 #[.agg #[vs, .slice A l.length cap], .string s] w fun e w' => e = .returned (.int .i64 (within l s)) ∧ Aft w w' := by
  have hlen := h.len
  go_enter Tryz.func77, Tryz.ntmps77
  go_wp2_with fail
  go_loop [5, 6] (fun n i => ∃ k : Nat, k ≤ l.length ∧ i = .int .i64 k ∧ n = .int .i64 (within (l.take k) s)) (fun _ i => l.length - (intOf i).toNat)
  case atStart => exact ⟨0, Nat.zero_le _, rfl, rfl⟩
  case round =>
    obtain ⟨k, hk, rfl, rfl⟩ := hrel
    have hw := within_le (l.take k) s
    have hw2 : (l.take k).length ≤ k := List.length_take_le _ _
    by_cases hlt : k < l.length
    · obtain ⟨b, off, A2, cap2, A3, cap3, rfl, hb, c0, c1, c2, c3, c4, hs⟩ := tab_at h hlt
      clear hs
      have HS := Lib.hid (within_succ l s k hlt)
      cases heq : eqS l[k].schema s
      · have h2 : (l[k].schema.toList == s.toList) = false := heq
        have HN := Lib.hid (show within (l.take (k + 1)) s = within (l.take k) s by rw [HS.out, heq]; simp)
        clear heq HS
        go_wp2_with fail
        go_round
        case rel => exact ⟨k + 1, by omega, by go_num, by rw [HN.out]⟩
        case measure => simp [intOf]; omega
      · have h2 : (l[k].schema.toList == s.toList) = true := heq
        have HN := Lib.hid (show within (l.take (k + 1)) s = within (l.take k) s + 1 by rw [HS.out, heq]; simp)
        clear heq HS
        go_wp2_with fail
        go_round
        case rel => exact ⟨k + 1, by omega, by go_num, by rw [HN.out]; go_num⟩
        case measure => simp [intOf]; omega
    · go_wp2_with fail
      go_ret
      exact ⟨by rw [List.take_of_length_le (by omega)]; rfl, (Aft.refl _).alloc _⟩
end Go.Proofs.YtiadkchlkdaceaaGreat

namespace Go.Proofs.YtiadkchlkdaceaaGreat
open Go.RowKit
set_option maxRecDepth 100000
set_option linter.unusedVariables false
set_option maxHeartbeats 4000000 in
theorem rkey_any (vs : Value) (At : Option Addr) (capt : Nat) (ts : List Tab) (A : Option Addr) (cap : Nat) (l : List Col) (r : Rul) (A2 : Option Addr) (cap2 : Nat) (w : World) (ht : SlAt w 5 TabR At capt ts) (h : SlAt w 3 ColR A cap l) (h2 : SlAt w 1 StrR A2 cap2 r.cols) :
    Calls Tryz.prog 80 #[.agg #[vs, .slice At ts.length capt], .slice A l.length cap, .agg #[.string r.name, .int .i64 r.kind, .slice A2 r.cols.length cap2, .int .i64 r.low, .int .i64 r.high, .string r.schema, .string r.table, .string r.key]] w
      fun e w' => e = .returned (.int .i64 (keyE ts l r)) ∧ Aft w w' := by
  obtain ⟨i, hi⟩ : ∃ i, tabAt ts r.schema r.table = i := ⟨_, rfl⟩
  have hlen := ht.len
  have hlen2 := h2.len
  have hlenl := h.len
  have Cw := Lib.hid (show ∀ w', Aft w w' → Calls Tryz.prog 27 #[.agg #[vs, .slice At ts.length capt], .string r.schema, .string r.table] w' fun e w'' => e = .returned (.int .i64 i) ∧ Aft w' w'' from
    fun w' a => (rtab_any vs At capt ts r.schema r.table w' (tabs_aft a ht)).mono fun e w'' ⟨he, hw⟩ => ⟨he.trans (by rw [← hi]), hw⟩)
  by_cases hi0 : 0 ≤ i
  · obtain ⟨q, rfl⟩ := Int.eq_ofNat_of_zero_le hi0
    have hql : q < ts.length := by have := (idxP_range (fun t => eqS t.schema r.schema && eqS t.name r.table) ts).2; unfold tabAt at hi; omega
    have HE := Lib.hid (keyE_some (l := l) hi hql)
    rw [HE.out]
    clear HE hi
    go_enter Tryz.func80, Tryz.ntmps80
    go_wp2_with fail
    refine (Cw.out _ (((Aft.refl w).alloc _).alloc _)).mono ?_
    rintro e w1 ⟨rfl, a1⟩
    obtain ⟨hbo, hbr, hz, HA⟩ := aft_box2 a1
    have ht1 := tabs_aft HA.out ht
    clear a1 Cw
    obtain ⟨b, off, B2, capB2, B3, capB3, rfl, hb, c0, c1, c2, c3, c4, hcols, hrules, hss⟩ := tab_at ht1 hql
    obtain ⟨t, ht0⟩ : ∃ t, ts[q] = t := ⟨_, rfl⟩
    rw [ht0] at c0 c1 c2 c3 c4 hcols hrules hss
    have HT := Lib.hid ht0
    clear ht0 hss
    have hlen3 := hrules.len
    have hlent := hcols.len
    obtain ⟨k, hk⟩ : ∃ k, rulAt t.rules r.key = k := ⟨_, rfl⟩
    obtain ⟨w2, hw2⟩ : ∃ w2, w2 = w1.alloc (.cells #[.string t.schema, .string t.name, .string t.owner, .slice B2 t.cols.length capB2, .slice B3 t.rules.length capB3] 76) := ⟨_, rfl⟩
    have a2 : Aft w1 w2 := by rw [hw2]; exact (Aft.refl w1).alloc _
    have hrules2 := ruls_aft a2 hrules
    have Cb := Lib.hid (show Calls Tryz.prog 50 #[.slice B3 t.rules.length capB3, .string r.key] w2 fun e w'' => e = .returned (.int .i64 k) ∧ w2 = w'' from
      (rrul_any B3 capB3 t.rules r.key w2 hrules2).mono fun e w'' ⟨he, hw⟩ => ⟨he.trans (by rw [← hk]; rfl), hw⟩)
    have hbt : ∀ o, w2.cell? ⟨w1.heap.size, o, none⟩ = (#[.string t.schema, .string t.name, .string t.owner, .slice B2 t.cols.length capB2, .slice B3 t.rules.length capB3] : Array Value)[o]? := by intro o; rw [hw2]; simp
    have hzt : w1.heap.size < w2.heap.size := by rw [hw2]; simp
    have hbr2 : ∀ o, w2.cell? ⟨w.heap.size + 1, o, none⟩ = _ := fun o => (Below.cell a2 (p := ⟨w.heap.size + 1, o, none⟩) hz.2).trans (hbr o)
    have HA02 := Lib.hid (HA.out.trans a2)
    have hcols2 := cols_aft a2 hcols
    have h02 := cols_aft HA02.out h
    have hs02 := strs_aft HA02.out h2
    have hz2 : w.heap.size + 1 < w2.heap.size := Nat.lt_of_lt_of_le hz.2 a2.size
    go_wp2_with fail
    rw [← hw2]
    clear hw2 ht1 hcols hrules
    refine Cb.out.mono ?_
    rintro e w' ⟨rfl, hw'⟩
    subst hw'
    clear Cb hbo hbr c0 c1 c2 c3 c4
    by_cases hk0 : 0 ≤ k
    · obtain ⟨m, rfl⟩ := Int.eq_ofNat_of_zero_le hk0
      have hml : m < t.rules.length := by have := (idxP_range (fun c => eqS c.name r.key) t.rules).2; unfold rulAt at hk; omega
      have HE := Lib.hid (keyT_some (l := l) hk hml)
      clear hk
      obtain ⟨b3, off3, D2, capD2, rfl, hb3, e0, e1, e2, e3, e4, e5, e6, e7, hcs, hss3⟩ := rul_at hrules2 hml
      obtain ⟨p, hp⟩ : ∃ p, t.rules[m] = p := ⟨_, rfl⟩
      rw [hp] at e0 e1 e2 e3 e4 e5 e6 e7 hcs hss3
      have HP := Lib.hid hp
      clear hp hrules2 hss3
      cases hk2 : (p.kind != 2)
      · have HV := Lib.hid (show keyT ts[q] l r = if pairsOk l t.cols r.cols p.cols then 0 else 63 by
          have hk3 : (p.kind == 2) = true := by simpa using hk2
          rw [HT.out, HE.out, HP.out, if_pos hk3])
        clear HE HT HP
        have hlen4 := hcs.len
        by_cases d1 : p.cols.length = r.cols.length
        · have f1 : ((p.cols.length : Int) != (r.cols.length : Int)) = false := by simp [d1]
          go_wp2_with fail
          clear e0 e1 e2 e3 e4 e5 e6 e7
          go_loopw [11, 12, 13] (fun i _ _ wr => ∃ k : Nat, k ≤ p.cols.length ∧ i = .int .i64 k ∧ Aft w2 wr ∧ ∀ j, j < k → ∀ (hj : j < r.cols.length) (hj2 : j < p.cols.length), pairB l t.cols r.cols[j] p.cols[j] = true) (fun i _ _ _ => p.cols.length - (intOf i).toNat)
          case atStart => exact ⟨0, Nat.zero_le _, rfl, Aft.refl _, fun j hj => absurd hj (Nat.not_lt_zero j)⟩
          case round =>
            obtain ⟨k, hk, rfl, ha, hp⟩ := hrel
            have HP := Lib.hid hp; clear hp
            have HAR := Lib.hid ha
            by_cases hlt : k < p.cols.length
            · have hltr : k < r.cols.length := by omega
              obtain ⟨b5, off5, rfl, hb5, g5, _⟩ := str_at (strs_aft ha hs02) hltr
              obtain ⟨b6, off6, rfl, hb6, g6, _⟩ := str_at (strs_aft ha hcs) hlt
              have q1 : wr.cell? ⟨w.heap.size + 1, 2, none⟩ = some (.slice (some ⟨b5, off5, none⟩) r.cols.length cap2) := ha.cell_some (hbr2 2)
              have q2 : wr.cell? ⟨w1.heap.size, 3, none⟩ = some (.slice B2 t.cols.length capB2) := ha.cell_some (hbt 3)
              have z1 : w.heap.size + 1 < wr.heap.size := Nat.lt_of_lt_of_le hz2 ha.size
              have z2 : w1.heap.size < wr.heap.size := Nat.lt_of_lt_of_le hzt ha.size
              have hcl := cols_aft ha h02
              have hct := cols_aft ha hcols2
              clear ha
              obtain ⟨x, hx⟩ : ∃ x, colAt l r.cols[k] = x := ⟨_, rfl⟩
              obtain ⟨y, hy⟩ : ∃ y, colAt t.cols p.cols[k] = y := ⟨_, rfl⟩
              have C1 := Lib.hid (show Calls Tryz.prog 37 #[.slice A l.length cap, .string r.cols[k]] wr fun e w' => e = .returned (.int .i64 x) ∧ wr = w' from
                (rcol_any A cap l r.cols[k] wr hcl).mono fun e w' ⟨he, hw⟩ => ⟨he.trans (by rw [← hx]; rfl), hw⟩)
              have C2 := Lib.hid (show ∀ z : Lat wr, Calls Tryz.prog 37 #[.slice B2 t.cols.length capB2, .string p.cols[k]] (lat wr z) fun e w' => e = .returned (.int .i64 y) ∧ lat wr z = w' from
                fun z => (rcol_any B2 capB2 t.cols p.cols[k] (lat wr z) (cols_aft ((Aft.refl wr).lat z) hct)).mono fun e w' ⟨he, hw⟩ => ⟨he.trans (by rw [← hy]; rfl), hw⟩)
              have HPB := Lib.hid (show pairB l t.cols r.cols[k] p.cols[k] = (decide (0 ≤ x) && decide (0 ≤ y) && (kindAt l x == kindAt t.cols y)) by unfold pairB; rw [hx, hy])
              have hxl : x < l.length := by have := (idxP_range (fun c => eqS c.name r.cols[k]) l).2; unfold colAt at hx; omega
              have hyl : y < t.cols.length := by have := (idxP_range (fun c => eqS c.name p.cols[k]) t.cols).2; unfold colAt at hy; omega
              clear hx hy
              go_wp2_with fail
              refine C1.out.mono ?_
              rintro e w' ⟨rfl, hw'⟩
              subst hw'
              go_wp2_with fail
              refine wp_region_lat (by kernel_rfl) (by kernel_rfl) ?_
              repeat (go_big_quiet_step ((first | (go_at_call 37; exact Calls.lat_same (C2.out _)))))
              refine wpQuiet_nil ?_
              intro _ hw'
              obtain ⟨z, hw''⟩ := hw'
              subst hw''
              by_cases hx0 : x < 0
              · have HF := Lib.hid (show keyT ts[q] l r = 63 by rw [HV.out, pairsOk_false _ _ _ _ k hltr hlt (by rw [HPB.out, decide_eq_false (by omega)]; rfl)]; rfl)
                have dx : decide (x < 0) = true := decide_eq_true hx0
                go_wp2_with fail
                refine wp_region_lat (by kernel_rfl) (by kernel_rfl) ?_
                repeat (go_big_quiet_step (fail))
                refine wpQuiet_nil ?_
                intro _ hw'
                obtain ⟨z2', hw''⟩ := hw'
                subst hw''
                go_wp2_with fail
                go_ret
                exact ⟨by rw [HF.out]; rfl, HA02.out.trans ((HAR.out.lat z).lat z2')⟩
              have dx : decide (x < 0) = false := decide_eq_false hx0
              by_cases hy0 : y < 0
              · have HF := Lib.hid (show keyT ts[q] l r = 63 by rw [HV.out, pairsOk_false _ _ _ _ k hltr hlt (by rw [HPB.out, decide_eq_false (show ¬ 0 ≤ y by omega), Bool.and_false]; rfl)]; rfl)
                have dy : decide (y < 0) = true := decide_eq_true hy0
                go_wp2_with fail
                refine wp_region_lat (by kernel_rfl) (by kernel_rfl) ?_
                repeat (go_big_quiet_step (fail))
                refine wpQuiet_nil ?_
                intro _ hw'
                obtain ⟨z2', hw''⟩ := hw'
                subst hw''
                go_wp2_with fail
                go_ret
                exact ⟨by rw [HF.out]; rfl, HA02.out.trans ((HAR.out.lat z).lat z2')⟩
              have dy : decide (y < 0) = false := decide_eq_false hy0
              obtain ⟨x', rfl⟩ := Int.eq_ofNat_of_zero_le (show 0 ≤ x by omega)
              obtain ⟨y', rfl⟩ := Int.eq_ofNat_of_zero_le (show 0 ≤ y by omega)
              have hxl' : x' < l.length := by omega
              have hyl' : y' < t.cols.length := by omega
              obtain ⟨b7, off7, rfl, hb7, d70, d71, d72, _⟩ := col_at hcl hxl'
              obtain ⟨b8, off8, rfl, hb8, d80, d81, d82, _⟩ := col_at hct hyl'
              have HPB2 := Lib.hid (show pairB l t.cols r.cols[k] p.cols[k] = (l[x'].kind == t.cols[y'].kind) by
                rw [HPB.out, decide_eq_true (show (0 : Int) ≤ (x' : Int) by omega), decide_eq_true (show (0 : Int) ≤ (y' : Int) by omega)]; simp [kindAt, List.getElem?_eq_getElem hxl', List.getElem?_eq_getElem hyl'])
              clear HPB C1 C2 hx0 hy0
              cases hkk : (l[x'].kind != t.cols[y'].kind)
              · have HN := Lib.hid (ext_lt (p := fun j => ∀ (hj : j < r.cols.length) (hj2 : j < p.cols.length), pairB l t.cols r.cols[j] p.cols[j] = true) HP.out (fun _ _ => by rw [HPB2.out]; simpa using hkk))
                go_wp2_with fail
                refine wp_region_lat (by kernel_rfl) (by kernel_rfl) ?_
                repeat (go_big_quiet_step (fail))
                refine wpQuiet_nil ?_
                intro _ hw'
                obtain ⟨z2', hw''⟩ := hw'
                subst hw''
                go_wp2_with fail
                go_roundw
                case rel => exact ⟨k + 1, by omega, by go_num, (HAR.out.lat z).lat z2', HN.out⟩
                case measure => simp [intOf]; omega
              · have HF := Lib.hid (show keyT ts[q] l r = 63 by rw [HV.out, pairsOk_false _ _ _ _ k hltr hlt (by rw [HPB2.out]; simpa using hkk)]; rfl)
                go_wp2_with fail
                refine wp_region_lat (by kernel_rfl) (by kernel_rfl) ?_
                repeat (go_big_quiet_step (fail))
                refine wpQuiet_nil ?_
                intro _ hw'
                obtain ⟨z2', hw''⟩ := hw'
                subst hw''
                go_wp2_with fail
                go_ret
                exact ⟨by rw [HF.out]; rfl, HA02.out.trans ((HAR.out.lat z).lat z2')⟩
            · have HF := Lib.hid (show keyT ts[q] l r = 0 by rw [HV.out, pairsOk_true _ _ _ _ d1 (fun j hj hj2 => HP.out j (by omega) hj hj2)]; rfl)
              clear ha
              go_wp2_with fail
              go_ret
              exact ⟨by rw [HF.out]; rfl, HA02.out.trans HAR.out⟩
        · have f1 : ((p.cols.length : Int) != (r.cols.length : Int)) = true := by simp; omega
          have HR := Lib.hid (show keyT ts[q] l r = 63 by rw [HV.out, pairsOk_len _ _ _ _ d1]; rfl)
          go_wp2_with fail
          go_ret
          exact ⟨by rw [HR.out]; rfl, HA02.out⟩
      · have HV := Lib.hid (show keyT ts[q] l r = 61 by
          have hk3 : ¬ ((p.kind == 2) = true) := by simpa using hk2
          rw [HT.out, HE.out, HP.out, if_neg hk3])
        go_wp2_with fail
        go_ret
        exact ⟨by rw [HV.out]; rfl, HA02.out⟩
    · have hk1 : k < 0 := by omega
      have HE := Lib.hid (keyT_none (l := l) (by rw [hk]; exact hk1) : keyT t l r = 61)
      clear hk
      go_wp2_with fail
      go_ret
      exact ⟨by rw [HT.out, HE.out]; rfl, HA02.out⟩
  · have hi1 : i < 0 := by omega
    have HE := Lib.hid (keyE_none (l := l) (by rw [hi]; exact hi1) : keyE ts l r = 61)
    rw [HE.out]
    clear HE hi
    go_enter Tryz.func80, Tryz.ntmps80
    go_wp2_with fail
    refine (Cw.out _ (((Aft.refl w).alloc _).alloc _)).mono ?_
    rintro e w1 ⟨rfl, a1⟩
    have HA := Lib.hid ((((Aft.refl w).alloc _).alloc _).trans a1)
    clear a1
    go_wp2_with fail
    go_ret
    exact ⟨rfl, HA.out⟩
end Go.Proofs.YtiadkchlkdaceaaGreat

namespace Go.Proofs.YtiadkchlkdaceaaGreat
open Go.RowKit
set_option maxRecDepth 100000
set_option linter.unusedVariables false
def rowsB (o : Objs) : Bool := o.schemas.all (schOk o) && risesB (fun a b => cmpS a.name b.name) o.schemas && risesB (fun a b => or2 (cmpS a.schema b.schema) (cmpS a.name b.name)) o.tables && decide (o.schemas.length ≤ 8)
theorem rowsB_sch (o : Objs) (k : Nat) (hk : k < o.schemas.length) (h : schOk o o.schemas[k] = false) : rowsB o = false := by
  unfold rowsB; rw [all_false _ _ k hk h]; rfl
theorem rowsB_schr (o : Objs) (k : Nat) (hk : k < o.schemas.length) (h0 : 0 < k) (h : ltS (o.schemas[k - 1]'(by omega)).name o.schemas[k].name = false) : rowsB o = false := by
  have h1 : k - 1 + 1 < o.schemas.length := by omega
  have e : (o.schemas[k - 1 + 1]'h1) = o.schemas[k] := by congr 1; omega
  unfold rowsB
  rw [risesB_false _ _ (k - 1) h1]
  · simp
  · rw [e]
    rw [← cmpS_lt] at h
    have := of_decide_eq_false h
    omega
theorem rowsB_tabr (o : Objs) (k : Nat) (hk : k < o.tables.length) (h0 : 0 < k) (h : ¬ or2 (cmpS (o.tables[k - 1]'(by omega)).schema o.tables[k].schema) (cmpS (o.tables[k - 1]'(by omega)).name o.tables[k].name) < 0) : rowsB o = false := by
  have h1 : k - 1 + 1 < o.tables.length := by omega
  have e : (o.tables[k - 1 + 1]'h1) = o.tables[k] := by congr 1; omega
  unfold rowsB
  rw [risesB_false (fun a b : Tab => or2 (cmpS a.schema b.schema) (cmpS a.name b.name)) _ (k - 1) h1]
  · simp
  · rw [e]; omega
theorem rises_pred {α : Type} (c : α → α → Int) (l : List α) (h : ∀ k, 1 ≤ k → ∀ (hk : k < l.length), c (l[k - 1]'(by omega)) l[k] < 0) : risesB c l = true :=
  (risesB_iff c l).2 fun k hk => h (k + 1) (by omega) hk
set_option maxHeartbeats 8000000 in
theorem rrows_any (o : Objs) (As : Option Addr) (caps : Nat) (At : Option Addr) (capt : Nat) (w : World) (hsch : SlAt w 2 SchR As caps o.schemas) (htab : SlAt w 5 TabR At capt o.tables) :
    Calls Tryz.prog 45 #[.agg #[.slice As o.schemas.length caps, .slice At o.tables.length capt]] w
      fun e w' => e = .returned (.bool (rowsB o)) ∧ Aft w w' := by
  have hlen := hsch.len
  have hlen2 := htab.len
  go_enter Tryz.func45, Tryz.ntmps45
  go_wp2_with fail
  go_loopw [3] (fun i wr => ∃ k : Nat, k ≤ o.schemas.length ∧ i = .int .i64 k ∧ Aft (w.alloc (.cells #[.slice As o.schemas.length caps, .slice At o.tables.length capt] 29)) wr ∧ ∀ j, j < k → ∀ (hj : j < o.schemas.length), schOk o o.schemas[j] = true ∧ (0 < j → ltS (o.schemas[j - 1]'(by omega)).name o.schemas[j].name = true)) (fun i _ => o.schemas.length - (intOf i).toNat)
  case atStart => exact ⟨0, Nat.zero_le _, rfl, Aft.refl _, fun j hj => absurd hj (Nat.not_lt_zero j)⟩
  case round =>
    obtain ⟨k, hk, rfl, ha, hp⟩ := hrel
    have HP := Lib.hid hp; clear hp
    obtain ⟨hbox, hfr, hz, hzk, HA⟩ := aft_box ha
    have HAB := Lib.hid ha
    clear ha
    by_cases hlt : k < o.schemas.length
    · have hss := schs_aft HA.out hsch
      have htt := tabs_aft HA.out htab
      obtain ⟨b, off, rfl, hb, c0, c1, s0, s1⟩ := sch_at hss hlt
      obtain ⟨p, hpp⟩ : ∃ p, o.schemas[k] = p := ⟨_, rfl⟩
      rw [hpp] at c0 c1 s0 s1
      have HPP := Lib.hid hpp
      obtain ⟨n, hn⟩ : ∃ n, within o.tables p.name = n := ⟨_, rfl⟩
      have hnl : n * 16 ≤ 140737488351232 := by have := within_le o.tables p.name; omega
      have HO := Lib.hid (show schOk o o.schemas[k] = (nameB p.name && nameB p.owner && decide (n ≤ 8)) by rw [hpp]; unfold schOk; rw [hn])
      have Ct := Lib.hid (show ∀ x : Lat (wr.alloc (.cells #[.string p.name, .string p.owner] 88)), Calls Tryz.prog 77 #[.agg #[.slice (some ⟨b, off, none⟩) o.schemas.length caps, .slice At o.tables.length capt], .string p.name] (lat _ x) fun e w'' => e = .returned (.int .i64 n) ∧ Aft (lat _ x) w'' from
        fun x => (rtabs_any _ At capt o.tables p.name (lat _ x) (tabs_aft (((Aft.refl wr).alloc _).lat x) htt)).mono fun e w'' ⟨he, hw⟩ => ⟨he.trans (by rw [← hn]), hw⟩)
      clear hn htt
      cases hN : nameB p.name
      · have HF := Lib.hid (rowsB_sch o k hlt (by rw [HO.out, hN]; rfl))
        clear hss hpp
        go_wp2_with fail
        refine wp_region_lat (by kernel_rfl) (by kernel_rfl) ?_
        repeat (go_big_quiet_step ((first | (go_at_call 72; exact Calls.lat_same (rname_any _ _ (by first | exact s0.max | exact s1.max))) | (go_at_call 77; exact Calls.lat_of (Ct.out _)))))
        refine wpQuiet_nil ?_
        intro _ hw'
        obtain ⟨x, hw''⟩ := hw'
        subst hw''
        go_wp2_with fail
        go_ret
        exact ⟨by rw [HF.out]; rfl, (HA.out.alloc _).lat x⟩
      cases hO : nameB p.owner
      · have HF := Lib.hid (rowsB_sch o k hlt (by rw [HO.out, hN, hO]; rfl))
        clear hss hpp
        go_wp2_with fail
        refine wp_region_lat (by kernel_rfl) (by kernel_rfl) ?_
        repeat (go_big_quiet_step ((first | (go_at_call 72; exact Calls.lat_same (rname_any _ _ (by first | exact s0.max | exact s1.max))) | (go_at_call 77; exact Calls.lat_of (Ct.out _)))))
        refine wpQuiet_nil ?_
        intro _ hw'
        obtain ⟨x, hw''⟩ := hw'
        subst hw''
        go_wp2_with fail
        go_ret
        exact ⟨by rw [HF.out]; rfl, (HA.out.alloc _).lat x⟩
      have HO2 := Lib.hid (show schOk o o.schemas[k] = decide (n ≤ 8) by rw [HO.out, hN, hO]; rfl)
      by_cases h0 : 0 < k
      · have hk1 : k - 1 < o.schemas.length := by omega
        obtain ⟨b', off', hA', hb', e0, e1, _, _⟩ := sch_at hss hk1
        simp only [Option.some.injEq, Addr.mk.injEq, and_true] at hA'
        obtain ⟨rfl, rfl⟩ := hA'
        obtain ⟨p', hpp'⟩ : ∃ p', (o.schemas[k - 1]'(by omega)) = p' := ⟨_, rfl⟩
        rw [hpp'] at e0 e1
        have HPP' := Lib.hid hpp'
        have w1 : IntKind.i64.wrap ((k : Int) - 1) = (k : Int) - 1 := IntWalk.i64_in _ (by omega)
        have w2 : (0 : Int) ≤ (k : Int) - 1 := by omega
        have w3 : ((k : Int) - 1).toNat = k - 1 := by omega
        have w4 : (k : Int) - 1 < (o.schemas.length : Int) := by omega
        have w5 : decide ((0 : Int) < (k : Int)) = true := decide_eq_true (by omega)
        clear hss hpp hpp'
        cases hL : ltS p'.name p.name
        · have hL' : Op.bytesLess p'.name.toList p.name.toList = false := hL
          have HF := Lib.hid (rowsB_schr o k hlt h0 (by rw [HPP.out, HPP'.out]; exact hL))
          clear hL
          go_wp2_with fail
          refine wp_region_lat (by kernel_rfl) (by kernel_rfl) ?_
          repeat (go_big_quiet_step ((first | (go_at_call 72; exact Calls.lat_same (rname_any _ _ (by first | exact s0.max | exact s1.max))) | (go_at_call 77; exact Calls.lat_of (Ct.out _)))))
          refine wpQuiet_nil ?_
          intro _ hw'
          obtain ⟨x, hw''⟩ := hw'
          subst hw''
          go_wp2_with fail
          go_ret
          exact ⟨by rw [HF.out]; rfl, (HA.out.alloc _).lat x⟩
        have hL' : Op.bytesLess p'.name.toList p.name.toList = true := hL
        have HLT := Lib.hid (show ltS (o.schemas[k - 1]'(by omega)).name o.schemas[k].name = true by rw [HPP.out, HPP'.out]; exact hL)
        clear hL
        by_cases h8 : n ≤ 8
        · have h8' : ¬ ((8 : Int) < (n : Int)) := by omega
          have d8 : decide ((8 : Int) < (n : Int)) = false := decide_eq_false h8'
          have HN := Lib.hid (ext_lt (p := fun j => ∀ (hj : j < o.schemas.length), schOk o o.schemas[j] = true ∧ (0 < j → ltS (o.schemas[j - 1]'(by omega)).name o.schemas[j].name = true)) HP.out (fun _ => ⟨by rw [HO2.out]; exact decide_eq_true h8, fun _ => HLT.out⟩))
          go_wp2_with fail
          refine wp_region_lat (by kernel_rfl) (by kernel_rfl) ?_
          repeat (go_big_quiet_step ((first | (go_at_call 72; exact Calls.lat_same (rname_any _ _ (by first | exact s0.max | exact s1.max))) | (go_at_call 77; exact Calls.lat_of (Ct.out _)))))
          refine wpQuiet_nil ?_
          intro _ hw'
          obtain ⟨x, hw''⟩ := hw'
          subst hw''
          go_wp2_with fail
          go_roundw
          case rel => exact ⟨k + 1, by omega, by go_num, (HAB.out.alloc _).lat x, HN.out⟩
          case measure => simp [intOf]; omega
        · have h8' : (8 : Int) < (n : Int) := by omega
          have d8 : decide ((8 : Int) < (n : Int)) = true := decide_eq_true h8'
          have HF := Lib.hid (rowsB_sch o k hlt (by rw [HO2.out]; exact decide_eq_false h8))
          go_wp2_with fail
          refine wp_region_lat (by kernel_rfl) (by kernel_rfl) ?_
          repeat (go_big_quiet_step ((first | (go_at_call 72; exact Calls.lat_same (rname_any _ _ (by first | exact s0.max | exact s1.max))) | (go_at_call 77; exact Calls.lat_of (Ct.out _)))))
          refine wpQuiet_nil ?_
          intro _ hw'
          obtain ⟨x, hw''⟩ := hw'
          subst hw''
          go_wp2_with fail
          go_ret
          exact ⟨by rw [HF.out]; rfl, (HA.out.alloc _).lat x⟩
      · have w5 : decide ((0 : Int) < (k : Int)) = false := decide_eq_false (by omega)
        have w6 : (k : Int) ≤ 0 := by omega
        clear hss hpp
        by_cases h8 : n ≤ 8
        · have h8' : ¬ ((8 : Int) < (n : Int)) := by omega
          have d8 : decide ((8 : Int) < (n : Int)) = false := decide_eq_false h8'
          have HN := Lib.hid (ext_lt (p := fun j => ∀ (hj : j < o.schemas.length), schOk o o.schemas[j] = true ∧ (0 < j → ltS (o.schemas[j - 1]'(by omega)).name o.schemas[j].name = true)) HP.out (fun _ => ⟨by rw [HO2.out]; exact decide_eq_true h8, fun h => absurd h h0⟩))
          go_wp2_with fail
          refine wp_region_lat (by kernel_rfl) (by kernel_rfl) ?_
          repeat (go_big_quiet_step ((first | (go_at_call 72; exact Calls.lat_same (rname_any _ _ (by first | exact s0.max | exact s1.max))) | (go_at_call 77; exact Calls.lat_of (Ct.out _)))))
          refine wpQuiet_nil ?_
          intro _ hw'
          obtain ⟨x, hw''⟩ := hw'
          subst hw''
          go_wp2_with fail
          go_roundw
          case rel => exact ⟨k + 1, by omega, by go_num, (HAB.out.alloc _).lat x, HN.out⟩
          case measure => simp [intOf]; omega
        · have h8' : (8 : Int) < (n : Int) := by omega
          have d8 : decide ((8 : Int) < (n : Int)) = true := decide_eq_true h8'
          have HF := Lib.hid (rowsB_sch o k hlt (by rw [HO2.out]; exact decide_eq_false h8))
          go_wp2_with fail
          refine wp_region_lat (by kernel_rfl) (by kernel_rfl) ?_
          repeat (go_big_quiet_step ((first | (go_at_call 72; exact Calls.lat_same (rname_any _ _ (by first | exact s0.max | exact s1.max))) | (go_at_call 77; exact Calls.lat_of (Ct.out _)))))
          refine wpQuiet_nil ?_
          intro _ hw'
          obtain ⟨x, hw''⟩ := hw'
          subst hw''
          go_wp2_with fail
          go_ret
          exact ⟨by rw [HF.out]; rfl, (HA.out.alloc _).lat x⟩
    have HR := Lib.hid (show rowsB o = (risesB (fun a b => or2 (cmpS a.schema b.schema) (cmpS a.name b.name)) o.tables && decide (o.schemas.length ≤ 8)) by
      unfold rowsB
      rw [all_true _ _ fun j hj => (HP.out j (by omega) hj).1, rises_pred (fun a b : Sch => cmpS a.name b.name) _ fun j hj1 hj => (cmpS_lt_iff _ _).2 ((HP.out j (by omega) hj).2 (by omega))]
      rfl)
    clear HP
    go_wp2_with fail
    go_loopw [5] (fun i wr => ∃ k : Nat, 1 ≤ k ∧ (k ≤ o.tables.length ∨ k = 1) ∧ i = .int .i64 k ∧ Aft (w.alloc (.cells #[.slice As o.schemas.length caps, .slice At o.tables.length capt] 29)) wr ∧ ∀ j, j < k → 1 ≤ j → ∀ (hj : j < o.tables.length), or2 (cmpS (o.tables[j - 1]'(by omega)).schema o.tables[j].schema) (cmpS (o.tables[j - 1]'(by omega)).name o.tables[j].name) < 0) (fun i _ => o.tables.length - (intOf i).toNat)
    case atStart => exact ⟨1, by omega, .inr rfl, rfl, HAB.out, fun j hj hj1 => by omega⟩
    case round =>
      clear hbox hfr hz hzk HA HAB
      obtain ⟨k2, hk21, hk2, rfl, ha, hp⟩ := hrel
      have HP := Lib.hid hp; clear hp
      obtain ⟨hbox, hfr, hz, hzk, HA⟩ := aft_box ha
      have HAB := Lib.hid ha
      clear ha
      by_cases hlt2 : k2 < o.tables.length
      · have htt := tabs_aft HA.out htab
        have hk1 : k2 - 1 < o.tables.length := by omega
        obtain ⟨b, off, B2, capB2, B3, capB3, rfl, hb, c0, c1, c2, c3, c4, _⟩ := tab_at htt hlt2
        obtain ⟨b', off', D2, capD2, D3, capD3, hA', hb', e0, e1, e2, e3, e4, _⟩ := tab_at htt hk1
        simp only [Option.some.injEq, Addr.mk.injEq, and_true] at hA'
        obtain ⟨rfl, rfl⟩ := hA'
        obtain ⟨p, hpp⟩ : ∃ p, o.tables[k2] = p := ⟨_, rfl⟩
        obtain ⟨p', hpp'⟩ : ∃ p', (o.tables[k2 - 1]'hk1) = p' := ⟨_, rfl⟩
        rw [hpp] at c0 c1 c2 c3 c4
        rw [hpp'] at e0 e1 e2 e3 e4
        have HO := Lib.hid (show or2 (cmpS (o.tables[k2 - 1]'hk1).schema o.tables[k2].schema) (cmpS (o.tables[k2 - 1]'hk1).name o.tables[k2].name) = or2 (cmpS p'.schema p.schema) (cmpS p'.name p.name) by rw [hpp, hpp'])
        have HOL := Lib.hid (or2_lt p'.schema p.schema p'.name p.name)
        clear hpp hpp' htt
        have w1 : IntKind.i64.wrap ((k2 : Int) - 1) = (k2 : Int) - 1 := IntWalk.i64_in _ (by omega)
        have w2 : (0 : Int) ≤ (k2 : Int) - 1 := by omega
        have w3 : ((k2 : Int) - 1).toNat = k2 - 1 := by omega
        have w4 : (k2 : Int) - 1 < (o.tables.length : Int) := by omega
        cases hG : (!(ltS p'.schema p.schema || eqS p'.schema p.schema))
        · have hG' : (Op.bytesLess p'.schema.toList p.schema.toList || p'.schema.toList == p.schema.toList) = true := by have h1 := hG; rw [Bool.not_eq_false'] at h1; exact h1
          cases hE : eqS p'.schema p.schema
          · have hE' : (p'.schema.toList == p.schema.toList) = false := hE
            have hG2 : Op.bytesLess p'.schema.toList p.schema.toList = true := by rw [hE'] at hG'; simpa using hG'
            have HN := Lib.hid (ext_lt (p := fun j => 1 ≤ j → ∀ (hj : j < o.tables.length), or2 (cmpS (o.tables[j - 1]'(by omega)).schema o.tables[j].schema) (cmpS (o.tables[j - 1]'(by omega)).name o.tables[j].name) < 0) HP.out (fun _ _ => by rw [HO.out]; exact of_decide_eq_true (by rw [HOL.out, hG, hE]; rfl)))
            clear hG hE
            go_wp2_with fail
            go_roundw
            case rel => exact ⟨k2 + 1, by omega, .inl (by omega), by go_num, (HAB.out.alloc _).alloc _, HN.out⟩
            case measure => simp [intOf]; omega
          · have hE' : (p'.schema.toList == p.schema.toList) = true := hE
            cases hL : ltS p'.name p.name
            · have hL' : Op.bytesLess p'.name.toList p.name.toList = false := hL
              have HF := Lib.hid (rowsB_tabr o k2 hlt2 (by omega) (by rw [HO.out]; exact of_decide_eq_false (by rw [HOL.out, hG, hE, hL]; rfl)))
              clear hG hE hL
              go_wp2_with fail
              go_ret
              exact ⟨by rw [HF.out]; rfl, (HA.out.alloc _).alloc _⟩
            · have hL' : Op.bytesLess p'.name.toList p.name.toList = true := hL
              have HN := Lib.hid (ext_lt (p := fun j => 1 ≤ j → ∀ (hj : j < o.tables.length), or2 (cmpS (o.tables[j - 1]'(by omega)).schema o.tables[j].schema) (cmpS (o.tables[j - 1]'(by omega)).name o.tables[j].name) < 0) HP.out (fun _ _ => by rw [HO.out]; exact of_decide_eq_true (by rw [HOL.out, hG, hE, hL]; rfl)))
              clear hG hE hL
              go_wp2_with fail
              go_roundw
              case rel => exact ⟨k2 + 1, by omega, .inl (by omega), by go_num, (HAB.out.alloc _).alloc _, HN.out⟩
              case measure => simp [intOf]; omega
        · have hG' : (Op.bytesLess p'.schema.toList p.schema.toList || p'.schema.toList == p.schema.toList) = false := by have h1 := hG; rw [Bool.not_eq_true'] at h1; exact h1
          have HF := Lib.hid (rowsB_tabr o k2 hlt2 (by omega) (by rw [HO.out]; exact of_decide_eq_false (by rw [HOL.out, hG]; rfl)))
          clear hG
          go_wp2_with fail
          go_ret
          exact ⟨by rw [HF.out]; rfl, (HA.out.alloc _).alloc _⟩
      · have HF := Lib.hid (show rowsB o = decide ((o.schemas.length : Int) ≤ 8) by
          rw [HR.out, rises_pred (fun a b : Tab => or2 (cmpS a.schema b.schema) (cmpS a.name b.name)) _ fun j hj1 hj => HP.out j (by omega) hj1 hj, Bool.true_and]
          by_cases h : o.schemas.length ≤ 8
          · rw [decide_eq_true h, decide_eq_true (by omega)]
          · rw [decide_eq_false h, decide_eq_false (by omega)])
        go_wp2_with fail
        go_ret
        exact ⟨by rw [HF.out]; rfl, HA.out⟩
end Go.Proofs.YtiadkchlkdaceaaGreat

