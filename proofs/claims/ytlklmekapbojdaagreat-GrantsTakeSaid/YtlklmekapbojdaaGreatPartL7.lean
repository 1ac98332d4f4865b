/- Contracts of the program, part 7. -/
import Derived.Deep.RegionHeld3
import Derived.OwnWalk
import Derived.Laws.AppendOwn
import Derived.ProofKit
import Derived.OpenShut
import Derived.Deep.Slices
import Derived.ChangeOld
import Derived.SizedLaws
import Derived.WalkKit
import Derived.WalkSpells
import Derived.WalkLawsBesides
import Derived.Lib.Hide
import Derived.Deep.QuietTactic
import Derived.BigQuiet
import Derived.Below
import Derived.Deep.Draws
import Derived.StillTailTactics
import Derived.Laws.Cells
import Derived.Laws.IdiomCopy
import Derived.Test.YtlklmekapbojdaaGreatRows
import Derived.Lib.Bytealg
import Derived.IntWalk
import Derived.Deep.DeepMust
import Derived.Deep.RegionLaw
import Derived.Deep.AppendLies
import Derived.Deep.Upon
import Derived.OneCell
import Derived.Shelf.SlSortCmp.WholeK
import Derived.Lib.SliceRun
import Derived.Lib.Walk
import Derived.Laws.EntriesVeiled
import Derived.Maps.Own
import Derived.Maps.Views
import Derived.OrdersHeld
import Derived.Lib.AppendZerosOnto
import Derived.Lib.Overlaps
import Derived.Test.YtlklmekapbojdaaGreatPartL1
import Derived.Test.YtlklmekapbojdaaGreatPartL2
import Derived.Test.YtlklmekapbojdaaGreatPartL3
import Derived.Test.YtlklmekapbojdaaGreatPartL4
import Derived.Test.YtlklmekapbojdaaGreatPartL5
import Derived.Test.YtlklmekapbojdaaGreatPartL6
namespace Go.Proofs.YtlklmekapbojdaaGreat
open Go.RowKit
set_option maxRecDepth 100000
set_option linter.unusedVariables false
theorem Small.mono {m n : Nat} (h : Small n) (hm : m ≤ n) : Small m := Nat.le_trans hm h
theorem kinds_small {l : List Col} {cs : List ByteArray} (h : Small (cs.length * 16)) : Small ((kindsOf l cs).length * 16) := h.mono (Nat.mul_le_mul_right _ (kindsOf_le l cs))
theorem keyE_none {ts : List Tab} {l : List Col} {r : Rul} (h : tabAt ts r.schema r.table < 0) : keyE ts l r = 61 := by
  unfold keyE; split <;> simp [h]
theorem keyE_some {ts : List Tab} {l : List Col} {r : Rul} {q : Nat} (h : tabAt ts r.schema r.table = q) (hq : q < ts.length) : keyE ts l r = keyT ts[q] l r := by
  unfold keyE; rw [h]; simp [List.getElem?_eq_getElem hq]; omega
theorem keyT_none {t : Tab} {l : List Col} {r : Rul} (h : rulAt t.rules r.key < 0) : keyT t l r = 61 := by
  unfold keyT; split <;> simp [h]
theorem keyT_some {t : Tab} {l : List Col} {r : Rul} {q : Nat} (h : rulAt t.rules r.key = q) (hq : q < t.rules.length) : keyT t l r = if t.rules[q].kind == 2 then (if pairsOk l t.cols r.cols t.rules[q].cols then 0 else 63) else 61 := by
  have h0 : ¬ ((q : Int) < 0) := by omega
  unfold keyT; rw [h]; simp [List.getElem?_eq_getElem hq, h0]
theorem Aft.cell_some {w w' : World} (h : Aft w w') {a : Addr} {v : Value} (hc : w.cell? a = some v) : w'.cell? a = some v := (Below.cell h (World.block_lt_of_cell? w a hc)).trans hc
theorem keep_aft {W w w' : World} {a b : Addr} {u v : Value} (hS : Aft W w ∧ w.cell? a = some u ∧ w.cell? b = some v) (h : Aft w w') : Aft W w' ∧ w'.cell? a = some u ∧ w'.cell? b = some v :=
  ⟨hS.1.trans h, h.cell_some hS.2.1, h.cell_some hS.2.2⟩
set_option maxHeartbeats 4000000 in
theorem key_any (vs : Value) (At : Option Addr) (capt : Nat) (ts : List Tab) (A : Option Addr) (cap : Nat) (l : List Col) (r : Rul) (A2 : Option Addr) (cap2 : Nat) (w : World) (ht : SlAt w 5 TabR At capt ts) (h : SlAt w 3 ColR A cap l) (h2 : SlAt w 1 StrR A2 cap2 r.cols) :
    Calls Tryz.prog 168 #[.agg #[vs, .slice At ts.length capt], .slice A l.length cap, .agg #[.string r.name, .int .i64 r.kind, .slice A2 r.cols.length cap2, .int .i64 r.low, .int .i64 r.high, .string r.schema, .string r.table, .string r.key]] w
      fun e w' => e = .returned (.int .i64 (keyE ts l r)) ∧ Aft w w' := by
  obtain ⟨i, hi⟩ : ∃ i, tabAt ts r.schema r.table = i := ⟨_, rfl⟩
  have hlen := ht.len
  have hlen2 := h2.len
  have Cw := Lib.hid (show ∀ w', Aft w w' → Calls Tryz.prog 111 #[.agg #[vs, .slice At ts.length capt], .string r.schema, .string r.table] w' fun e w'' => e = .returned (.tuple #[.int .i64 i, .bool (decide (0 ≤ i))]) ∧ Aft w' w'' from
    fun w' a => (where_any vs At capt ts r.schema r.table w' (tabs_aft a ht)).mono fun e w'' ⟨he, hw⟩ => ⟨he.trans (by rw [← hi]), hw⟩)
  by_cases hi0 : 0 ≤ i
  · obtain ⟨q, rfl⟩ := Int.eq_ofNat_of_zero_le hi0
    have hql : q < ts.length := by have := (idxP_range (fun t => eqS t.schema r.schema && eqS t.name r.table) ts).2; unfold tabAt at hi; omega
    have HE := Lib.hid (keyE_some (l := l) hi hql)
    have dq : decide (0 ≤ (q : Int)) = true := decide_eq_true hi0
    rw [HE.out]
    clear HE hi
    go_enter Tryz.func168, Tryz.ntmps168
    go_wp2_with fail
    refine (Cw.out _ (((Aft.refl w).alloc _).alloc _)).mono ?_
    rintro e w1 ⟨rfl, a1⟩
    obtain ⟨hbo, hbr, hz, HA⟩ := aft_box2 a1
    have ht1 := tabs_aft HA.out ht
    clear a1 Cw
    obtain ⟨b, off, B2, capB2, B3, capB3, rfl, hb, c0, c1, c2, c3, c4, hcols, hrules, hss⟩ := tab_at ht1 hql
    obtain ⟨t, ht0⟩ : ∃ t, ts[q] = t := ⟨_, rfl⟩
    rw [ht0] at c0 c1 c2 c3 c4 hcols hrules hss
    have HT := Lib.hid ht0
    clear ht0
    have hlen3 := hrules.len
    obtain ⟨k, hk⟩ : ∃ k, rulAt t.rules r.key = k := ⟨_, rfl⟩
    have Cb := Lib.hid (show ∀ w', Aft w1 w' → Calls Tryz.prog 204 #[.slice B3 t.rules.length capB3, .string r.key, .func (.func 205) #[] #[]] w' fun e w'' => e = .returned (.int .i64 k) ∧ Aft w' w'' from
      fun w' a => (byRul B3 capB3 t.rules r.key w' (ruls_aft a hrules)).mono fun e w'' ⟨he, hw⟩ => ⟨he.trans (by rw [← hk]; rfl), hw⟩)
    clear ht1
    go_wp2_with fail
    refine (Cb.out _ ((Aft.refl w1).alloc _)).mono ?_
    rintro e w2 ⟨rfl, a2⟩
    obtain ⟨hbt, hft, hzt, hzkt, HA2⟩ := aft_box a2
    have HA02 := Lib.hid (HA.out.trans HA2.out)
    have hbr2 : ∀ o, w2.cell? ⟨w.heap.size + 1, o, none⟩ = _ := fun o => (Below.cell HA2.out (p := ⟨w.heap.size + 1, o, none⟩) hz.2).trans (hbr o)
    have hz2 : w.heap.size + 1 < w2.heap.size := Nat.lt_of_lt_of_le hz.2 HA2.out.size
    have hrules2 := ruls_aft HA2.out hrules
    have hcols2 := cols_aft HA2.out hcols
    have h02 := cols_aft HA02.out h
    have hs02 := strs_aft HA02.out h2
    clear a2 Cb hbo hbr c0 c1 c2 c3 c4 hrules hcols
    by_cases hk0 : 0 ≤ k
    · obtain ⟨m, rfl⟩ := Int.eq_ofNat_of_zero_le hk0
      have hml : m < t.rules.length := by have := (idxP_range (fun c => eqS c.name r.key) t.rules).2; unfold rulAt at hk; omega
      have HE := Lib.hid (keyT_some (l := l) hk hml)
      clear hk
      obtain ⟨b3, off3, D2, capD2, rfl, hb3, e0, e1, e2, e3, e4, e5, e6, e7, hcs, hss3⟩ := rul_at hrules2 hml
      obtain ⟨p, hp⟩ : ∃ p, t.rules[m] = p := ⟨_, rfl⟩
      rw [hp] at e0 e1 e2 e3 e4 e5 e6 e7 hcs hss3
      have HP := Lib.hid hp
      clear hp hrules2
      cases hk2 : (p.kind != 2)
      · have HV := Lib.hid (show keyT ts[q] l r = if pairsOk l t.cols r.cols p.cols then 0 else 63 by
          have hk3 : (p.kind == 2) = true := by simpa using hk2
          rw [HT.out, HE.out, HP.out, if_pos hk3])
        clear HE HT HP
        have hlen4 := hcs.len
        go_wp2_with fail
        have q1 : w2.cell? ⟨w.heap.size + 1, 2, none⟩ = some (.slice A2 r.cols.length cap2) := hbr2 2
        have q2 : w2.cell? ⟨w1.heap.size, 3, none⟩ = some (.slice B2 t.cols.length capB2) := hbt 3
        go_region_held3 (fun w' => Aft w2 w' ∧ w'.cell? ⟨w.heap.size + 1, 2, none⟩ = some (.slice A2 r.cols.length cap2) ∧ w'.cell? ⟨w1.heap.size, 3, none⟩ = some (.slice B2 t.cols.length capB2))
          (first | exact ⟨(Aft.refl _).drew, q1, q2⟩ | exact keep_aft (by assumption) (by assumption))
          ((go_at_call 206; refine (kinds_any _ _ _ _ _ _ _ (cols_aft (And.left (by assumption : Aft w2 _ ∧ _)) (by assumption)) (strs_aft (And.left (by assumption : Aft w2 _ ∧ _)) (by assumption))).mono ?_; rintro e w4 ⟨v4, rfl, own4, a4⟩; try have own3 := own_aft (by assumption) a4))
        all_goals
          have HA4 := Lib.hid (HA02.out.trans (And.left (by assumption : Aft w2 w4 ∧ _)))
          have hbr4 : w4.cell? ⟨w.heap.size + 1, 2, none⟩ = some (.slice A2 r.cols.length cap2) := (And.left (by assumption : Aft w2 w4 ∧ _)).cell_some q1
          obtain ⟨G3, cap3, e3, hs3⟩ := own_ints (w := w4) (l := kindsOf l r.cols) (by assumption) (kinds_small hs02.2.1)
          obtain ⟨G4, cap4, e4, hs4⟩ := own_ints (w := w4) (l := kindsOf t.cols p.cols) (by assumption) (kinds_small hcs.2.1)
          subst e3
          subst e4
          have Ce := Lib.hid (eqK_any G3 cap3 (kindsOf l r.cols) G4 cap4 (kindsOf t.cols p.cols) w4 hs3 hs4)
          have HC := Lib.hid (pairsOk_code l t.cols r.cols p.cols)
          have hkl := kindsOf_le t.cols p.cols
          obtain ⟨bq, hbq⟩ : ∃ b, decide (kindsOf l r.cols = kindsOf t.cols p.cols) = b := ⟨_, rfl⟩
          rw [hbq] at Ce HC
          clear own3 own4 a4 hs3 hs4 hbq
          by_cases d1 : p.cols.length = r.cols.length
          · have f1 : ((p.cols.length : Int) != (r.cols.length : Int)) = false := by simp [d1]
            by_cases d2 : (kindsOf t.cols p.cols).length = p.cols.length
            · have f2 : (((kindsOf t.cols p.cols).length : Int) != (p.cols.length : Int)) = false := by simp [d2]
              have HR := Lib.hid (show keyT ts[q] l r = if bq then 0 else 63 by rw [HV.out, HC.out]; simp [d1, d2])
              clear HV HC d1 d2
              cases bq
              all_goals
                go_wp2_with fail
                refine Ce.out.mono ?_
                rintro e w5 ⟨rfl, a5⟩
                have HA5 := Lib.hid (HA4.out.trans a5)
                clear a5
                go_wp2_with fail
                go_ret
                exact ⟨by rw [HR.out]; rfl, HA5.out⟩
            · have f2 : (((kindsOf t.cols p.cols).length : Int) != (p.cols.length : Int)) = true := by simp; omega
              have HR := Lib.hid (show keyT ts[q] l r = 63 by rw [HV.out, HC.out]; simp [d2])
              clear HV HC d1 d2
              go_wp2_with fail
              go_ret
              exact ⟨by rw [HR.out]; rfl, HA4.out⟩
          · have f1 : ((p.cols.length : Int) != (r.cols.length : Int)) = true := by simp; omega
            have HR := Lib.hid (show keyT ts[q] l r = 63 by rw [HV.out, HC.out]; simp [d1])
            clear HV HC d1
            go_wp2_with fail
            go_ret
            exact ⟨by rw [HR.out]; rfl, HA4.out⟩
      · have HV := Lib.hid (show keyT ts[q] l r = 61 by
          have hk3 : ¬ ((p.kind == 2) = true) := by simpa using hk2
          rw [HT.out, HE.out, HP.out, if_neg hk3])
        go_wp2_with fail
        go_ret
        exact ⟨by rw [HV.out]; rfl, HA02.out⟩
    · have hk1 : k < 0 := by omega
      have HE := Lib.hid (keyT_none (l := l) (by rw [hk]; exact hk1) : keyT t l r = 61)
      clear hk
      go_wp2_with fail
      go_ret
      exact ⟨by rw [HT.out, HE.out]; rfl, HA02.out⟩
  · have hi1 : i < 0 := by omega
    have dq : decide (0 ≤ i) = false := decide_eq_false hi0
    have HE := Lib.hid (keyE_none (l := l) (by rw [hi]; exact hi1) : keyE ts l r = 61)
    rw [HE.out]
    clear HE hi
    go_enter Tryz.func168, Tryz.ntmps168
    go_wp2_with fail
    refine (Cw.out _ (((Aft.refl w).alloc _).alloc _)).mono ?_
    rintro e w1 ⟨rfl, a1⟩
    have HA := Lib.hid ((((Aft.refl w).alloc _).alloc _).trans a1)
    clear a1
    go_wp2_with fail
    go_ret
    exact ⟨rfl, HA.out⟩
end Go.Proofs.YtlklmekapbojdaaGreat

namespace Go.Proofs.YtlklmekapbojdaaGreat
open Go.RowKit
set_option maxRecDepth 100000
set_option linter.unusedVariables false
set_option maxHeartbeats 1000000 in
theorem right1_any (n1 : ByteArray) (k1 : Int) (A1 : Option Addr) (m1 c1 : Nat) (lo1 hi1 : Int) (s1 t1 y1 : ByteArray) (n2 : ByteArray) (k2 : Int) (A2 : Option Addr) (m2 c2 : Nat) (lo2 hi2 : Int) (s2 t2 y2 : ByteArray) (w : World) :
    Calls Tryz.prog 170 #[.agg #[.string n1, .int .i64 k1, .slice A1 m1 c1, .int .i64 lo1, .int .i64 hi1, .string s1, .string t1, .string y1], .agg #[.string n2, .int .i64 k2, .slice A2 m2 c2, .int .i64 lo2, .int .i64 hi2, .string s2, .string t2, .string y2]] w fun e w' => e = .returned (.int .i64 (cmpS n1 n2)) ∧ Aft w w' := by
  go_enter Tryz.func170, Tryz.ntmps170
  go_wp2_with fail
  refine (compare_any _ _ _).mono ?_
  rintro e w1 ⟨rfl, rfl⟩
  go_wp2_with fail
  go_ret
  exact ⟨rfl, ((Aft.refl w).alloc _).alloc _⟩
set_option maxHeartbeats 1000000 in
theorem check1_any (n1 o1 n2 o2 : ByteArray) (w : World) :
    Calls Tryz.prog 106 #[.agg #[.string n1, .string o1], .agg #[.string n2, .string o2]] w fun e w' => e = .returned (.int .i64 (cmpS n1 n2)) ∧ Aft w w' := by
  go_enter Tryz.func106, Tryz.ntmps106
  go_wp2_with fail
  refine (compare_any _ _ _).mono ?_
  rintro e w1 ⟨rfl, rfl⟩
  go_wp2_with fail
  go_ret
  exact ⟨rfl, ((Aft.refl w).alloc _).alloc _⟩
theorem rulesRise (A : Option Addr) (cap : Nat) (l : List Rul) (w : World) (h : SlAt w 8 RulR A cap l) :
    Calls Tryz.prog 169 #[.slice A l.length cap, .func (.func 170) #[] #[]] w fun e w' => e = .returned (.bool (risesB (fun a b => cmpS a.name b.name) l)) ∧ Aft w w' :=
  risesRul A cap l 170 #[] (fun a b => cmpS a.name b.name) w h (enters (P := Tryz.prog) Tryz.func170 (by kernel_rfl) rfl) fun w' ha i hi e1 e2 h1 h2 => by
    obtain ⟨A1, c1, rfl, _⟩ := h1
    obtain ⟨A2, c2, rfl, _⟩ := h2
    exact right1_any _ _ _ _ _ _ _ _ _ _ _ _ _ _ _ _ _ _ _ _ w'
theorem schsRise (A : Option Addr) (cap : Nat) (l : List Sch) (w : World) (h : SlAt w 2 SchR A cap l) :
    Calls Tryz.prog 105 #[.slice A l.length cap, .func (.func 106) #[] #[]] w fun e w' => e = .returned (.bool (risesB (fun a b => cmpS a.name b.name) l)) ∧ Aft w w' :=
  risesSch A cap l 106 #[] (fun a b => cmpS a.name b.name) w h (enters (P := Tryz.prog) Tryz.func106 (by kernel_rfl) rfl) fun w' ha i hi => check1_any _ _ _ _ w'
theorem tabsRise (A : Option Addr) (cap : Nat) (l : List Tab) (w : World) (h : SlAt w 5 TabR A cap l) :
    Calls Tryz.prog 103 #[.slice A l.length cap, .func (.func 104) #[] #[]] w fun e w' => e = .returned (.bool (risesB (fun a b => or2 (cmpS a.schema b.schema) (cmpS a.name b.name)) l)) ∧ Aft w w' :=
  risesTab A cap l 104 #[] (fun a b => or2 (cmpS a.schema b.schema) (cmpS a.name b.name)) w h (enters (P := Tryz.prog) Tryz.func104 (by kernel_rfl) rfl) fun w' ha i hi e1 e2 h1 h2 => by
    obtain ⟨A1, c1, B1, d1, rfl, _⟩ := h1
    obtain ⟨A2, c2, B2, d2, rfl, _⟩ := h2
    exact order_any _ _ _ _ _ _ _ _ _ _ w'
set_option maxHeartbeats 8000000 in
theorem right_any (o : Objs) (t : Tab) (As : Option Addr) (caps : Nat) (At : Option Addr) (capt : Nat) (A : Option Addr) (cap : Nat) (A2 : Option Addr) (cap2 : Nat) (w : World) (hsch : SlAt w 2 SchR As caps o.schemas) (htab : SlAt w 5 TabR At capt o.tables)
    (h : SlAt w 3 ColR A cap t.cols) (h2 : SlAt w 8 RulR A2 cap2 t.rules) (hn : Small t.name.size) (ho : Small t.owner.size) :
    Calls Tryz.prog 110 #[.agg #[.slice As o.schemas.length caps, .slice At o.tables.length capt], .agg #[.string t.schema, .string t.name, .string t.owner, .slice A t.cols.length cap, .slice A2 t.rules.length cap2]] w
      fun e w' => e = .returned (.bool (rightT o t)) ∧ Aft w w' := by
  have hlen2 := h2.len
  cases hN : nameB t.name
  · have HF := Lib.hid (show rightT o t = false by simp [rightT, hN])
    go_enter Tryz.func110, Tryz.ntmps110
    go_wp2_with (go_at_call 108; refine (name_any _ _ (by first | exact hn.max | exact ho.max)).mono ?_; rintro e w' ⟨rfl, rfl⟩)
    go_ret
    exact ⟨by rw [HF.out]; rfl, ((Aft.refl _).alloc _).alloc _⟩
  cases hO : nameB t.owner
  · have HF := Lib.hid (show rightT o t = false by simp [rightT, hO])
    go_enter Tryz.func110, Tryz.ntmps110
    go_wp2_with (go_at_call 108; refine (name_any _ _ (by first | exact hn.max | exact ho.max)).mono ?_; rintro e w' ⟨rfl, rfl⟩)
    go_ret
    exact ⟨by rw [HF.out]; rfl, ((Aft.refl _).alloc _).alloc _⟩
  have HR0 := Lib.hid (show rightT o t = (colsOk t.cols && decide (t.rules.length ≤ 8) && decide (0 ≤ schAt o.schemas t.schema) && (t.rules.all (ruleOk o.tables t.cols) && risesB (fun a b => cmpS a.name b.name) t.rules)) by simp [rightT, hN, hO])
  obtain ⟨m, hm⟩ : ∃ m, colsOk t.cols = m := ⟨_, rfl⟩
  rw [hm] at HR0
  have Cm := Lib.hid (show ∀ w', Aft w w' → Calls Tryz.prog 164 #[.slice A t.cols.length cap] w' fun e w'' => e = .returned (.bool m) ∧ Aft w' w'' from
    fun w' a => (mayCols_any A cap t.cols w' (cols_aft a h)).mono fun e w'' ⟨he, hw⟩ => ⟨he.trans (by rw [← hm]), hw⟩)
  clear hm
  go_enter Tryz.func110, Tryz.ntmps110
  go_wp2_with (go_at_call 108; refine (name_any _ _ (by first | exact hn.max | exact ho.max)).mono ?_; rintro e w' ⟨rfl, rfl⟩)
  refine (Cm.out _ (((Aft.refl w).alloc _).alloc _)).mono ?_
  rintro e w1 ⟨rfl, a1⟩
  obtain ⟨hbo, hbt, hz, HA⟩ := aft_box2 a1
  have HAB := Lib.hid a1
  clear a1 Cm
  cases m
  · have HF := Lib.hid (show rightT o t = false by rw [HR0.out]; rfl)
    go_wp2_with fail
    go_ret
    exact ⟨by rw [HF.out]; rfl, HA.out⟩
  by_cases h8 : 8 < t.rules.length
  · have HF := Lib.hid (show rightT o t = false by rw [HR0.out, decide_eq_false (by omega)]; rfl)
    have h8' : (8 : Int) < (t.rules.length : Int) := by omega
    go_wp2_with fail
    go_ret
    exact ⟨by rw [HF.out]; rfl, HA.out⟩
  have h8' : (t.rules.length : Int) ≤ 8 := by omega
  have d8 : decide ((8 : Int) < (t.rules.length : Int)) = false := decide_eq_false (by omega)
  have HR1 := Lib.hid (show rightT o t = (decide (0 ≤ schAt o.schemas t.schema) && (t.rules.all (ruleOk o.tables t.cols) && risesB (fun a b => cmpS a.name b.name) t.rules)) by rw [HR0.out, decide_eq_true (show t.rules.length ≤ 8 by omega)]; rfl)
  clear HR0
  obtain ⟨i, hi⟩ : ∃ i, schAt o.schemas t.schema = i := ⟨_, rfl⟩
  rw [hi] at HR1
  have Cs := Lib.hid (show ∀ w', Aft w w' → Calls Tryz.prog 165 #[.slice As o.schemas.length caps, .string t.schema, .func (.func 166) #[] #[]] w' fun e w'' => e = .returned (.int .i64 i) ∧ Aft w' w'' from
    fun w' a => (bySch As caps o.schemas t.schema w' (schs_aft a hsch)).mono fun e w'' ⟨he, hw⟩ => ⟨he.trans (by rw [← hi]; rfl), hw⟩)
  clear hi
  go_wp2_with fail
  refine (Cs.out _ HA.out).mono ?_
  rintro e w2 ⟨rfl, a2⟩
  have HAB2 := Lib.hid (HAB.out.trans a2)
  clear a2 Cs HA HAB hbo hbt hz
  obtain ⟨hbo, hbt, hz, HA⟩ := aft_box2 HAB2.out
  by_cases hi0 : i < 0
  · have HF := Lib.hid (show rightT o t = false by rw [HR1.out, decide_eq_false (by omega)]; rfl)
    go_wp2_with fail
    go_ret
    exact ⟨by rw [HF.out]; rfl, HA.out⟩
  have hi1 : 0 ≤ i := by omega
  have HR2 := Lib.hid (show rightT o t = (t.rules.all (ruleOk o.tables t.cols) && risesB (fun a b => cmpS a.name b.name) t.rules) by rw [HR1.out, decide_eq_true hi1]; rfl)
  clear HR1
  go_wp2_with fail
  go_loopw [40] (fun i wr => ∃ k : Nat, k ≤ t.rules.length ∧ i = .int .i64 k ∧ Aft ((w.alloc (.cells #[.slice As o.schemas.length caps, .slice At o.tables.length capt] 29)).alloc (.cells #[.string t.schema, .string t.name, .string t.owner, .slice A t.cols.length cap, .slice A2 t.rules.length cap2] 89)) wr ∧ ∀ j, j < k → ∀ (hj : j < t.rules.length), ruleOk o.tables t.cols t.rules[j] = true) (fun i _ => t.rules.length - (intOf i).toNat)
  case atStart => exact ⟨0, Nat.zero_le _, rfl, HAB2.out, fun j hj => absurd hj (Nat.not_lt_zero j)⟩
  case round =>
    clear hbo hbt hz HA HAB2
    obtain ⟨k, hk, rfl, ha, hp⟩ := hrel
    obtain ⟨hbo, hbt, hz, HA⟩ := aft_box2 ha
    have HAB := Lib.hid ha
    have HP := Lib.hid hp; clear hp ha
    by_cases hlt : k < t.rules.length
    · have hr := ruls_aft HA.out h2
      obtain ⟨b, off, D2, capD2, rfl, hb, c0, c1, c2, c3, c4, c5, c6, c7, hcs, s0, s1, s2, s3⟩ := rul_at hr hlt
      obtain ⟨p, hpp⟩ : ∃ p, t.rules[k] = p := ⟨_, rfl⟩
      rw [hpp] at c0 c1 c2 c3 c4 c5 c6 c7 hcs s0 s1 s2 s3
      have HPP := Lib.hid hpp
      obtain ⟨f, hf⟩ : ∃ f, fitsOk t.cols p = f := ⟨_, rfl⟩
      obtain ⟨z, hz'⟩ : ∃ z, keyE o.tables t.cols p = z := ⟨_, rfl⟩
      have HO := Lib.hid (show ruleOk o.tables t.cols t.rules[k] = (f && !(p.kind == 4 && z != 0)) by rw [hpp]; unfold ruleOk; rw [hf, hz'])
      have Cf := Lib.hid (show ∀ w', Aft wr w' → Calls Tryz.prog 167 #[.slice A t.cols.length cap, .agg #[.string p.name, .int .i64 p.kind, .slice D2 p.cols.length capD2, .int .i64 p.low, .int .i64 p.high, .string p.schema, .string p.table, .string p.key]] w' fun e w'' => e = .returned (.bool f) ∧ Aft w' w'' from
        fun w' a => (fits_any A cap t.cols p D2 capD2 w' (cols_aft (HA.out.trans a) h) (strs_aft a hcs) s0 s1 s2 s3).mono fun e w'' ⟨he, hw⟩ => ⟨he.trans (by rw [← hf]), hw⟩)
      have Ck := Lib.hid (show ∀ w', Aft wr w' → Calls Tryz.prog 168 #[.agg #[.slice As o.schemas.length caps, .slice At o.tables.length capt], .slice A t.cols.length cap, .agg #[.string p.name, .int .i64 p.kind, .slice D2 p.cols.length capD2, .int .i64 p.low, .int .i64 p.high, .string p.schema, .string p.table, .string p.key]] w' fun e w'' => e = .returned (.int .i64 z) ∧ Aft w' w'' from
        fun w' a => (key_any _ At capt o.tables A cap t.cols p D2 capD2 w' (tabs_aft (HA.out.trans a) htab) (cols_aft (HA.out.trans a) h) (strs_aft a hcs)).mono fun e w'' ⟨he, hw⟩ => ⟨he.trans (by rw [← hz']), hw⟩)
      clear hf hz' hpp hr hcs HPP
      go_wp2_with fail
      refine (Cf.out _ ((Aft.refl wr).alloc _)).mono ?_
      rintro e w3 ⟨rfl, a3⟩
      obtain ⟨hbr, hfr, hzr, hzkr, HA3⟩ := aft_box a3
      have hbo3 : ∀ o', w3.cell? ⟨w.heap.size, o', none⟩ = _ := fun o' => (Below.cell HA3.out (p := ⟨w.heap.size, o', none⟩) hz.1).trans (hbo o')
      have hbt3 : ∀ o', w3.cell? ⟨w.heap.size + 1, o', none⟩ = _ := fun o' => (Below.cell HA3.out (p := ⟨w.heap.size + 1, o', none⟩) hz.2).trans (hbt o')
      have hz3 : w.heap.size < w3.heap.size ∧ w.heap.size + 1 < w3.heap.size := ⟨Nat.lt_of_lt_of_le hz.1 HA3.out.size, Nat.lt_of_lt_of_le hz.2 HA3.out.size⟩
      clear a3 Cf hbo hbt c0 c1 c2 c3 c4 c5 c6 c7
      cases f
      · have HF := Lib.hid (show rightT o t = false by rw [HR2.out, all_false _ _ k hlt (by rw [HO.out]; rfl)]; rfl)
        go_wp2_with fail
        go_ret
        exact ⟨by rw [HF.out]; rfl, HA.out.trans HA3.out⟩
      cases h4 : (p.kind == 4)
      · have HN := Lib.hid (ext_lt (p := fun j => ∀ (hj : j < t.rules.length), ruleOk o.tables t.cols t.rules[j] = true) HP.out (fun _ => by rw [HO.out, h4]; rfl))
        go_wp2_with fail
        go_roundw
        case rel => exact ⟨k + 1, by omega, by go_num, HAB.out.trans HA3.out, HN.out⟩
        case measure => simp [intOf]; omega
      · go_wp2_with fail
        refine (Ck.out _ HA3.out).mono ?_
        rintro e w4 ⟨rfl, a4⟩
        have HA4 := Lib.hid (HA3.out.trans a4)
        clear a4 Ck hbo3 hbt3 hbr
        cases z0 : (z != 0)
        · have HN := Lib.hid (ext_lt (p := fun j => ∀ (hj : j < t.rules.length), ruleOk o.tables t.cols t.rules[j] = true) HP.out (fun _ => by rw [HO.out, h4, z0]; rfl))
          go_wp2_with fail
          go_roundw
          case rel => exact ⟨k + 1, by omega, by go_num, HAB.out.trans HA4.out, HN.out⟩
          case measure => simp [intOf]; omega
        · have HF := Lib.hid (show rightT o t = false by rw [HR2.out, all_false _ _ k hlt (by rw [HO.out, h4, z0]; rfl)]; rfl)
          go_wp2_with fail
          go_ret
          exact ⟨by rw [HF.out]; rfl, HA.out.trans HA4.out⟩
    · have HF := Lib.hid (show rightT o t = risesB (fun a b => cmpS a.name b.name) t.rules by rw [HR2.out, all_true _ _ fun j hj => HP.out j (by omega) hj]; rfl)
      have Cr := Lib.hid (rulesRise A2 cap2 t.rules wr (ruls_aft HA.out h2))
      go_wp2_with fail
      refine Cr.out.mono ?_
      rintro e w3 ⟨rfl, a3⟩
      have HA3 := Lib.hid (HA.out.trans a3)
      clear a3
      go_wp2_with fail
      go_ret
      exact ⟨by rw [HF.out]; rfl, HA3.out⟩
end Go.Proofs.YtlklmekapbojdaaGreat

namespace Go.Proofs.YtlklmekapbojdaaGreat
open Go.RowKit
set_option maxRecDepth 100000
set_option linter.unusedVariables false
def checkE (o : Objs) : Int := if checkO o then 0 else 63
set_option maxHeartbeats 8000000 in
theorem check_any (o : Objs) (As : Option Addr) (caps : Nat) (At : Option Addr) (capt : Nat) (w : World) (hsch : SlAt w 2 SchR As caps o.schemas) (htab : SlAt w 5 TabR At capt o.tables) :
    Calls Tryz.prog 46 #[.agg #[.slice As o.schemas.length caps, .slice At o.tables.length capt]] w
      fun e w' => e = .returned (.int .i64 (checkE o)) ∧ Aft w w' := by
  have hlen := hsch.len
  have hlen2 := htab.len
  by_cases d1 : 8 < o.schemas.length
  · have HF := Lib.hid (show checkE o = 63 by simp [checkE, checkO, headOk, show ¬ o.schemas.length ≤ 8 by omega])
    have e1 : ¬ ((o.schemas.length : Int) ≤ 8) := by omega
    have e1' : decide ((o.schemas.length : Int) ≤ 8) = false := decide_eq_false e1
    go_enter Tryz.func46, Tryz.ntmps46
    go_wp2_with fail
    go_loopw [3, 4] (fun ok i wr => ok = .bool false ∧ i = .int .i64 0 ∧ Aft (w.alloc (.cells #[.slice As o.schemas.length caps, .slice At o.tables.length capt] 29)) wr) (fun _ _ _ => 0)
    case atStart => exact ⟨rfl, rfl, Aft.refl _⟩
    case round =>
      obtain ⟨rfl, rfl, ha⟩ := hrel
      have HAX := Lib.hid ha
      clear ha
      go_wp2_with fail
      go_loopw [3, 6] (fun ok i wr => ok = .bool false ∧ i = .int .i64 0 ∧ Aft (w.alloc (.cells #[.slice As o.schemas.length caps, .slice At o.tables.length capt] 29)) wr) (fun _ _ _ => 0)
      case atStart => exact ⟨rfl, rfl, HAX.out⟩
      case round =>
        obtain ⟨rfl, rfl, ha⟩ := hrel
        have HAY := Lib.hid ha
        clear ha
        go_wp2_with fail
        go_ret
        exact ⟨by rw [HF.out]; rfl, ((Aft.refl w).alloc _).trans HAY.out⟩
  have e1 : (o.schemas.length : Int) ≤ 8 := by omega
  have e1' : decide ((o.schemas.length : Int) ≤ 8) = true := decide_eq_true e1
  by_cases d2 : 64 < o.tables.length
  · have HF := Lib.hid (show checkE o = 63 by simp [checkE, checkO, headOk, show ¬ o.tables.length ≤ 64 by omega])
    have e2 : ¬ ((o.tables.length : Int) ≤ 64) := by omega
    have e2' : decide ((o.tables.length : Int) ≤ 64) = false := decide_eq_false e2
    go_enter Tryz.func46, Tryz.ntmps46
    go_wp2_with fail
    go_loopw [3, 4] (fun ok i wr => ok = .bool false ∧ i = .int .i64 0 ∧ Aft (w.alloc (.cells #[.slice As o.schemas.length caps, .slice At o.tables.length capt] 29)) wr) (fun _ _ _ => 0)
    case atStart => exact ⟨rfl, rfl, Aft.refl _⟩
    case round =>
      obtain ⟨rfl, rfl, ha⟩ := hrel
      have HAX := Lib.hid ha
      clear ha
      go_wp2_with fail
      go_loopw [3, 6] (fun ok i wr => ok = .bool false ∧ i = .int .i64 0 ∧ Aft (w.alloc (.cells #[.slice As o.schemas.length caps, .slice At o.tables.length capt] 29)) wr) (fun _ _ _ => 0)
      case atStart => exact ⟨rfl, rfl, HAX.out⟩
      case round =>
        obtain ⟨rfl, rfl, ha⟩ := hrel
        have HAY := Lib.hid ha
        clear ha
        go_wp2_with fail
        go_ret
        exact ⟨by rw [HF.out]; rfl, ((Aft.refl w).alloc _).trans HAY.out⟩
  have e2 : (o.tables.length : Int) ≤ 64 := by omega
  have e2' : decide ((o.tables.length : Int) ≤ 64) = true := decide_eq_true e2
  obtain ⟨g1, hg1⟩ : ∃ g, risesB (fun a b => or2 (cmpS a.schema b.schema) (cmpS a.name b.name)) o.tables = g := ⟨_, rfl⟩
  obtain ⟨g2, hg2⟩ : ∃ g, risesB (fun a b => cmpS a.name b.name) o.schemas = g := ⟨_, rfl⟩
  have HR := Lib.hid (show checkE o = if (g1 && g2 && (o.schemas.all (schOk o) && o.tables.all (rightT o))) then 0 else 63 by simp [checkE, checkO, headOk, hg1, hg2, show o.schemas.length ≤ 8 by omega, show o.tables.length ≤ 64 by omega])
  have C1 := Lib.hid (show ∀ w', Aft w w' → Calls Tryz.prog 103 #[.slice At o.tables.length capt, .func (.func 104) #[] #[]] w' fun e w'' => e = .returned (.bool g1) ∧ Aft w' w'' from
    fun w' a => (tabsRise At capt o.tables w' (tabs_aft a htab)).mono fun e w'' ⟨he, hw⟩ => ⟨he.trans (by rw [← hg1]), hw⟩)
  have C2 := Lib.hid (show ∀ w', Aft w w' → Calls Tryz.prog 105 #[.slice As o.schemas.length caps, .func (.func 106) #[] #[]] w' fun e w'' => e = .returned (.bool g2) ∧ Aft w' w'' from
    fun w' a => (schsRise As caps o.schemas w' (schs_aft a hsch)).mono fun e w'' ⟨he, hw⟩ => ⟨he.trans (by rw [← hg2]), hw⟩)
  clear hg1 hg2
  go_enter Tryz.func46, Tryz.ntmps46
  go_wp2_with fail
  refine (C1.out _ ((Aft.refl w).alloc _)).mono ?_
  rintro e w1 ⟨rfl, a1⟩
  obtain ⟨hbox, hfr, hz, hzk, HA⟩ := aft_box a1
  have HAB := Lib.hid a1
  clear a1 C1
  cases g1
  · have HF := Lib.hid (show checkE o = 63 by rw [HR.out]; rfl)
    go_wp2_with fail
    go_loopw [3, 4] (fun ok i wr => ok = .bool false ∧ i = .int .i64 0 ∧ Aft (w.alloc (.cells #[.slice As o.schemas.length caps, .slice At o.tables.length capt] 29)) wr) (fun _ _ _ => 0)
    case atStart => exact ⟨rfl, rfl, HAB.out⟩
    case round =>
      obtain ⟨rfl, rfl, ha⟩ := hrel
      have HAX := Lib.hid ha
      clear ha
      go_wp2_with fail
      go_loopw [3, 6] (fun ok i wr => ok = .bool false ∧ i = .int .i64 0 ∧ Aft (w.alloc (.cells #[.slice As o.schemas.length caps, .slice At o.tables.length capt] 29)) wr) (fun _ _ _ => 0)
      case atStart => exact ⟨rfl, rfl, HAX.out⟩
      case round =>
        obtain ⟨rfl, rfl, ha⟩ := hrel
        have HAY := Lib.hid ha
        clear ha
        go_wp2_with fail
        go_ret
        exact ⟨by rw [HF.out]; rfl, ((Aft.refl w).alloc _).trans HAY.out⟩
  go_wp2_with fail
  refine (C2.out _ HA.out).mono ?_
  rintro e w2 ⟨rfl, a2⟩
  have HAB2 := Lib.hid (HAB.out.trans a2)
  clear a2 C2 HAB HA hbox hfr hz hzk
  obtain ⟨hbox, hfr, hz, hzk, HA⟩ := aft_box HAB2.out
  cases g2
  · have HF := Lib.hid (show checkE o = 63 by rw [HR.out]; rfl)
    go_wp2_with fail
    go_loopw [3, 4] (fun ok i wr => ok = .bool false ∧ i = .int .i64 0 ∧ Aft (w.alloc (.cells #[.slice As o.schemas.length caps, .slice At o.tables.length capt] 29)) wr) (fun _ _ _ => 0)
    case atStart => exact ⟨rfl, rfl, HAB2.out⟩
    case round =>
      obtain ⟨rfl, rfl, ha⟩ := hrel
      have HAX := Lib.hid ha
      clear ha
      go_wp2_with fail
      go_loopw [3, 6] (fun ok i wr => ok = .bool false ∧ i = .int .i64 0 ∧ Aft (w.alloc (.cells #[.slice As o.schemas.length caps, .slice At o.tables.length capt] 29)) wr) (fun _ _ _ => 0)
      case atStart => exact ⟨rfl, rfl, HAX.out⟩
      case round =>
        obtain ⟨rfl, rfl, ha⟩ := hrel
        have HAY := Lib.hid ha
        clear ha
        go_wp2_with fail
        go_ret
        exact ⟨by rw [HF.out]; rfl, ((Aft.refl w).alloc _).trans HAY.out⟩
  have HR2 := Lib.hid (show checkE o = if (o.schemas.all (schOk o) && o.tables.all (rightT o)) then 0 else 63 by rw [HR.out]; rfl)
  clear HR
  go_wp2_with fail
  go_loopw [3, 4] (fun ok i wr => ∃ (k : Nat) (b : Bool), k ≤ o.schemas.length ∧ i = .int .i64 k ∧ ok = .bool b ∧ Aft (w.alloc (.cells #[.slice As o.schemas.length caps, .slice At o.tables.length capt] 29)) wr ∧ (b = true → ∀ j, j < k → ∀ (hj : j < o.schemas.length), schOk o o.schemas[j] = true) ∧ (b = false → checkE o = 63)) (fun ok i _ => o.schemas.length - (intOf i).toNat)
  case atStart => exact ⟨0, true, Nat.zero_le _, rfl, rfl, HAB2.out, fun _ j hj => absurd hj (Nat.not_lt_zero j), fun h => by cases h⟩
  case round =>
    clear hbox hfr hz hzk HA HAB2
    obtain ⟨k, b, hk, rfl, rfl, ha, hp, hq⟩ := hrel
    obtain ⟨hbox, hfr, hz, hzk, HA⟩ := aft_box ha
    have HAB := Lib.hid ha
    clear ha
    cases b
    · have HF := Lib.hid (hq rfl)
      clear hp hq
      go_wp2_with fail
      go_loopw [3, 6] (fun ok i wr => ok = .bool false ∧ i = .int .i64 0 ∧ Aft (w.alloc (.cells #[.slice As o.schemas.length caps, .slice At o.tables.length capt] 29)) wr) (fun _ _ _ => 0)
      case atStart => exact ⟨rfl, rfl, HAB.out⟩
      case round =>
        obtain ⟨rfl, rfl, ha⟩ := hrel
        have HAY := Lib.hid ha
        clear ha
        go_wp2_with fail
        go_ret
        exact ⟨by rw [HF.out]; rfl, ((Aft.refl w).alloc _).trans HAY.out⟩
    have HP := Lib.hid (hp rfl)
    clear hp hq
    by_cases hlt : k < o.schemas.length
    · have hss := schs_aft HA.out hsch
      obtain ⟨b, off, rfl, hb, c0, c1, s0, s1⟩ := sch_at hss hlt
      obtain ⟨p, hpp⟩ : ∃ p, o.schemas[k] = p := ⟨_, rfl⟩
      rw [hpp] at c0 c1 s0 s1
      have HO := Lib.hid (show schOk o o.schemas[k] = (nameB p.name && nameB p.owner && decide (within o.tables p.name ≤ 8)) by rw [hpp]; rfl)
      clear hpp hss
      cases hN : nameB p.name
      · have HF := Lib.hid (show checkE o = 63 by rw [HR2.out, all_false _ _ k hlt (by rw [HO.out, hN]; rfl)]; rfl)
        go_wp2_with (go_at_call 108; refine (name_any _ _ (by first | exact s0.max | exact s1.max)).mono ?_; rintro e w' ⟨rfl, rfl⟩)
        go_roundw
        case rel => exact ⟨k + 1, false, by omega, by go_num, rfl, HAB.out.alloc _, (fun h => by cases h), fun _ => HF.out⟩
        case measure => simp [intOf]; omega
      cases hO : nameB p.owner
      · have HF := Lib.hid (show checkE o = 63 by rw [HR2.out, all_false _ _ k hlt (by rw [HO.out, hN, hO]; rfl)]; rfl)
        go_wp2_with (go_at_call 108; refine (name_any _ _ (by first | exact s0.max | exact s1.max)).mono ?_; rintro e w' ⟨rfl, rfl⟩)
        go_roundw
        case rel => exact ⟨k + 1, false, by omega, by go_num, rfl, HAB.out.alloc _, (fun h => by cases h), fun _ => HF.out⟩
        case measure => simp [intOf]; omega
      obtain ⟨n, hn⟩ : ∃ n, within o.tables p.name = n := ⟨_, rfl⟩
      have Cw := Lib.hid (show ∀ w', Aft w w' → Calls Tryz.prog 109 #[.agg #[.slice (some ⟨b, off, none⟩) o.schemas.length caps, .slice At o.tables.length capt], .string p.name] w' fun e w'' => e = .returned (.int .i64 n) ∧ Aft w' w'' from
        fun w' a => (within_any _ At capt o.tables p.name w' (tabs_aft a htab)).mono fun e w'' ⟨he, hw⟩ => ⟨he.trans (by rw [← hn]), hw⟩)
      have HO2 := Lib.hid (show schOk o o.schemas[k] = decide (n ≤ 8) by rw [HO.out, hN, hO, hn]; rfl)
      clear HO hn
      go_wp2_with (go_at_call 108; refine (name_any _ _ (by first | exact s0.max | exact s1.max)).mono ?_; rintro e w' ⟨rfl, rfl⟩)
      refine (Cw.out _ (HA.out.alloc _)).mono ?_
      rintro e w3 ⟨rfl, a3⟩
      have HAB3 := Lib.hid ((HAB.out.alloc _).trans a3)
      clear a3 Cw
      by_cases h8 : n ≤ 8
      · have h8' : (n : Int) ≤ 8 := by omega
        have HN := Lib.hid (ext_lt (p := fun j => ∀ (hj : j < o.schemas.length), schOk o o.schemas[j] = true) HP.out (fun _ => by rw [HO2.out]; exact decide_eq_true h8))
        go_wp2_with fail
        go_roundw
        case rel => exact ⟨k + 1, true, by omega, by go_num, by simp, HAB3.out, fun _ => HN.out, fun h => by cases h⟩
        case measure => simp [intOf]; omega
      · have h8' : ¬ (n : Int) ≤ 8 := by omega
        have HF := Lib.hid (show checkE o = 63 by rw [HR2.out, all_false _ _ k hlt (by rw [HO2.out]; exact decide_eq_false h8)]; rfl)
        go_wp2_with fail
        go_roundw
        case rel => exact ⟨k + 1, false, by omega, by go_num, by simp [h8'], HAB3.out, (fun h => by cases h), fun _ => HF.out⟩
        case measure => simp [intOf]; omega
    have HR3 := Lib.hid (show checkE o = if o.tables.all (rightT o) then 0 else 63 by rw [HR2.out, all_true _ _ fun j hj => HP.out j (by omega) hj]; rfl)
    clear HP HR2
    go_wp2_with fail
    go_loopw [3, 6] (fun ok i wr => ∃ (k : Nat) (b : Bool), k ≤ o.tables.length ∧ i = .int .i64 k ∧ ok = .bool b ∧ Aft (w.alloc (.cells #[.slice As o.schemas.length caps, .slice At o.tables.length capt] 29)) wr ∧ (b = true → ∀ j, j < k → ∀ (hj : j < o.tables.length), rightT o o.tables[j] = true) ∧ (b = false → checkE o = 63)) (fun ok i _ => o.tables.length - (intOf i).toNat)
    case atStart => exact ⟨0, true, Nat.zero_le _, rfl, rfl, HAB.out, fun _ j hj => absurd hj (Nat.not_lt_zero j), fun h => by cases h⟩
    case round =>
      clear hbox hfr hz hzk HA HAB
      obtain ⟨k2, b, hk2, rfl, rfl, ha, hp, hq⟩ := hrel
      obtain ⟨hbox, hfr, hz, hzk, HA⟩ := aft_box ha
      have HAB := Lib.hid ha
      clear ha
      cases b
      · have HF := Lib.hid (hq rfl)
        clear hp hq
        go_wp2_with fail
        go_ret
        exact ⟨by rw [HF.out]; rfl, HA.out⟩
      have HP := Lib.hid (hp rfl)
      clear hp hq
      by_cases hlt2 : k2 < o.tables.length
      · have htt := tabs_aft HA.out htab
        have hss := schs_aft HA.out hsch
        obtain ⟨b, off, B2, capB2, B3, capB3, rfl, hb, c0, c1, c2, c3, c4, hcols, hrules, s0, s1, s2⟩ := tab_at htt hlt2
        obtain ⟨p, hpp⟩ : ∃ p, o.tables[k2] = p := ⟨_, rfl⟩
        rw [hpp] at c0 c1 c2 c3 c4 hcols hrules s0 s1 s2
        obtain ⟨f, hf⟩ : ∃ f, rightT o p = f := ⟨_, rfl⟩
        have HO := Lib.hid (show rightT o o.tables[k2] = f by rw [hpp]; exact hf)
        have Cr := Lib.hid (show ∀ x : Lat wr, Calls Tryz.prog 110 #[.agg #[.slice As o.schemas.length caps, .slice (some ⟨b, off, none⟩) o.tables.length capt], .agg #[.string p.schema, .string p.name, .string p.owner, .slice B2 p.cols.length capB2, .slice B3 p.rules.length capB3]] (lat wr x) fun e w' => e = .returned (.bool f) ∧ Aft (lat wr x) w' from
          fun x => (right_any o p As caps _ capt B2 capB2 B3 capB3 (lat wr x) (schs_aft ((Aft.refl wr).lat x) hss) (tabs_aft ((Aft.refl wr).lat x) htt) (cols_aft ((Aft.refl wr).lat x) hcols) (ruls_aft ((Aft.refl wr).lat x) hrules) s1 s2).mono fun e w'' ⟨he, hw⟩ => ⟨he.trans (by rw [← hf]), hw⟩)
        clear hf hpp htt hss hcols hrules
        go_wp2_with fail
        refine wp_region_lat (by kernel_rfl) (by kernel_rfl) ?_
        repeat (go_big_quiet_step ((first | (go_at_call 110; exact Calls.lat_of (Cr.out _)))))
        refine wpQuiet_nil ?_
        intro _ hw'
        obtain ⟨x, hw''⟩ := hw'
        subst hw''
        cases f
        · have HF := Lib.hid (show checkE o = 63 by rw [HR3.out, all_false _ _ k2 hlt2 HO.out]; rfl)
          go_wp2_with fail
          go_roundw
          case rel => exact ⟨k2 + 1, false, by omega, by go_num, rfl, HAB.out.lat x, (fun h => by cases h), fun _ => HF.out⟩
          case measure => simp [intOf]; omega
        · have HN := Lib.hid (ext_lt (p := fun j => ∀ (hj : j < o.tables.length), rightT o o.tables[j] = true) HP.out (fun _ => HO.out))
          go_wp2_with fail
          go_roundw
          case rel => exact ⟨k2 + 1, true, by omega, by go_num, rfl, HAB.out.lat x, fun _ => HN.out, fun h => by cases h⟩
          case measure => simp [intOf]; omega
      · have HF := Lib.hid (show checkE o = 0 by rw [HR3.out, all_true _ _ fun j hj => HP.out j (by omega) hj]; rfl)
        go_wp2_with fail
        go_ret
        exact ⟨by rw [HF.out]; rfl, HA.out⟩
end Go.Proofs.YtlklmekapbojdaaGreat

namespace Go.Proofs.YtlklmekapbojdaaGreat
open Go.RowKit Go.Deep
set_option maxRecDepth 100000
set_option linter.unusedVariables false
def zeroO : Objs := ⟨[], []⟩
end Go.Proofs.YtlklmekapbojdaaGreat

namespace Go.Proofs.YtlklmekapbojdaaGreat
open Go.RowKit Go.Deep
set_option maxRecDepth 100000
set_option linter.unusedVariables false
/-- a table changed -/
def tabR (o : Objs) (s n : ByteArray) (f : Tab → Tab × Int) : Objs × Int :=
  match o.tables[(tabAt o.tables s n).toNat]? with
  | some t => if tabAt o.tables s n < 0 then (zeroO, 61) else if (f t).2 = 0 then (⟨o.schemas, o.tables.set (tabAt o.tables s n).toNat (f t).1⟩, 0) else (zeroO, (f t).2)
  | none => (zeroO, 61)
end Go.Proofs.YtlklmekapbojdaaGreat

namespace Go.Proofs.YtlklmekapbojdaaGreat
open Go.RowKit Go.Deep
set_option maxRecDepth 100000
set_option linter.unusedVariables false
theorem mem_set_cases {α : Type} {L : List α} {q : Nat} {x y : α} (hq : q < L.length) (h : x ∈ L.set q y) : x = y ∨ ∃ i, ∃ hi : i < L.length, i ≠ q ∧ x = L[i] := by
  obtain ⟨i, hi, rfl⟩ := List.getElem_of_mem h
  rw [List.length_set] at hi
  by_cases e : i = q
  · subst e; exact .inl (by simp)
  · exact .inr ⟨i, hi, e, by rw [List.getElem_set_ne (fun h => e h.symm)]⟩
/-- a cell of the table q is written: the table is y then -/
theorem ObjIn.put {w : World} {B gt q j : Nat} {hs ht : Hd} {ss : List Sch} {L : List OTab} {y : OTab} {u : Value} (hsch : w.ownsRow B 101 2 hs.v ss.length (ss.flatMap schC)) (htab : w.ownsRow B 89 5 ht.v L.length (L.flatMap OTab.cells))
    (hoth : ∀ i (hi : i < L.length), i ≠ q → TabIn w B L[i]) (hy : TabIn w B y) (hnd : (hs.blk ++ (ht.blk ++ (L.set q y).flatMap OTab.blks)).Nodup) (hgt : ht.a = some ⟨gt, 0, none⟩) (hq : q < L.length) (hj : j < 5) (hc : y.cells = L[q].cells.set j u) :
    ObjIn (w.setCell ⟨gt, q * 5 + j, none⟩ u) B hs ht ss (L.set q y) := by
  have hg : gt ∈ ht.blk := by rw [Hd.mem_blk]; unfold Hd.v; rw [hgt]; rfl
  have k := Kb.set w gt (q * 5 + j) u
  obtain ⟨_, n2, d1⟩ := List.nodup_append.1 hnd
  obtain ⟨_, _, d2⟩ := List.nodup_append.1 n2
  refine ⟨own_kb hsch k (fun g h1 e => d1 g (Hd.mem_blk.2 h1) g (by rw [e]; simp [hg]) rfl), ?_, fun x hx => ?_, hnd⟩
  · have := own_set htab (Hd.mem_blk.1 hg) (q * 5 + j) u
    rw [flatMap_set (size := 5) (fun _ => rfl) L q j hq hj u y hc] at this
    rw [List.length_set]; exact this
  · have hb : ∀ g ∈ x.blks, ¬ g = gt := fun g h1 e => d2 gt hg g (List.mem_flatMap.2 ⟨x, hx, h1⟩) e.symm
    rcases mem_set_cases hq hx with rfl | ⟨i, hi, hne, rfl⟩
    · exact hy.kb k hb
    · exact (hoth i hi hne).kb k hb
/-- the cells of a table -/
theorem ObjIn.cell {w : World} {B gt q j : Nat} {hs ht : Hd} {ss : List Sch} {L : List OTab} (h : ObjIn w B hs ht ss L) (hgt : ht.a = some ⟨gt, 0, none⟩) (hq : q < L.length) (hj : j < 5) : w.cell? ⟨gt, q * 5 + j, none⟩ = L[q].cells[j]? := own_cell h.tab (fun _ => rfl) hgt hq hj
theorem ObjIn.row {w : World} {B gt q : Nat} {hs ht : Hd} {ss : List Sch} {L : List OTab} (h : ObjIn w B hs ht ss L) (hgt : ht.a = some ⟨gt, 0, none⟩) (hq : q < L.length) : gt < w.heap.size ∧ B ≤ gt ∧ ∀ j, j < 5 → w.frozen? ⟨gt, q * 5 + j, none⟩ = false := by
  obtain ⟨g, hg, hb, hr⟩ := own_place h.tab (by omega)
  rw [hgt] at hg
  simp only [Option.some.injEq, Addr.mk.injEq, and_true] at hg
  subst hg
  refine ⟨hr.1, hb, fun j hj => hr.2.2 _ ?_⟩
  rw [flatMap_len (size := 5) (fun _ => rfl)]
  have : (q + 1) * 5 ≤ L.length * 5 := Nat.mul_le_mul_right _ hq
  omega
end Go.Proofs.YtlklmekapbojdaaGreat

namespace Go.Proofs.YtlklmekapbojdaaGreat
open Go.RowKit Go.Deep
set_option maxRecDepth 100000
set_option linter.unusedVariables false
structure RCopyS (w wr : World) (t : Tab) (A : Option Addr) (cap : Nat) (A2 : Option Addr) (cap2 : Nat) (hc hr : Hd) (L : List ORul) (k : Nat) : Prop where
  aft : Aft w wr
  box : RowAt wr w.heap.size [.string t.schema, .string t.name, .string t.owner, .slice A t.cols.length cap, .slice A2 t.rules.length cap2]
  out : RowAt wr (w.heap.size + 1) [.string ⟨#[]⟩, .string ⟨#[]⟩, .string ⟨#[]⟩, .slice none 0 0, .slice none 0 0]
  col : wr.ownsRow (w.heap.size + 2) 106 3 hc.v t.cols.length (t.cols.flatMap colC)
  rul : wr.ownsRow (w.heap.size + 2) 121 8 hr.v k (L.flatMap ORul.cells)
  len : L.length = k
  is : L.map (·.r) = t.rules.take k
  each : ∀ x ∈ L, RulIn wr (w.heap.size + 2) x
  nd : (hc.blk ++ (hr.blk ++ L.flatMap (·.h.blk))).Nodup
theorem RCopyS.lt {w wr : World} {t : Tab} {A A2 : Option Addr} {cap cap2 : Nat} {hc hr : Hd} {L : List ORul} {k : Nat} (s : RCopyS w wr t A cap A2 cap2 hc hr L k) : ∀ g ∈ hc.blk ++ (hr.blk ++ L.flatMap (·.h.blk)), w.heap.size + 2 ≤ g ∧ g < wr.heap.size := by
  intro g hg
  simp only [List.mem_append, List.mem_flatMap] at hg
  rcases hg with hg | hg | ⟨r, hr, hg⟩
  · exact blk_lt s.col g hg
  · exact blk_lt s.rul g hg
  · exact blk_lt (s.each r hr).nam g hg
theorem RCopyS.step {w wr w4 w5 : World} {t : Tab} {A A2 : Option Addr} {cap cap2 : Nat} {hc hr hr' h4 : Hd} {L : List ORul} {k : Nat} (s : RCopyS w wr t A cap A2 cap2 hc hr L k) (hk : k < t.rules.length)
    (a4 : Aft wr w4) (own4 : w4.ownsRow wr.heap.size 9 1 h4.v t.rules[k].cols.length (t.rules[k].cols.flatMap nameC)) (hg : w4.grownBy w5 hr.v.ownBlock)
    (ho : w5.ownsRow (w.heap.size + 2) 121 8 hr'.v (k + 1) (L.flatMap ORul.cells ++ rulC t.rules[k] h4)) (hb : ∀ g ∈ hr'.blk, g ∈ hr.blk ∨ w4.heap.size ≤ g) : RCopyS w w5 t A cap A2 cap2 hc hr' (L ++ [⟨t.rules[k], h4⟩]) (k + 1) := by
  have hlt := s.lt
  have nd := s.nd
  have nd2 := (List.nodup_append.1 nd).2.1
  have kg : Kb (fun g => hr.v.ownBlock = some g) w4 w5 := Kb.of_grown hg
  have ka : Kb (fun g => hr.v.ownBlock = some g) wr w5 := (Kb.of_aft a4).trans kg
  have hrl : ∀ g, hr.v.ownBlock = some g → w.heap.size + 2 ≤ g ∧ g < wr.heap.size := fun g h1 => s.rul.lt g h1
  have hz := a4.size
  have hzo := s.out.1
  have hx4 : ∀ g ∈ h4.blk, wr.heap.size ≤ g ∧ g < w4.heap.size := blk_lt own4
  refine ⟨ka.to_aft s.aft (fun g hgl h1 => by have := hrl g h1; omega), ka.row s.box (fun h1 => by have := hrl _ h1; omega), ka.row s.out (fun h1 => by have := hrl _ h1; omega), own_kb s.col ka (fun g hg1 hg2 => nodup_disj nd (Hd.mem_blk.2 hg1) (by simp [Hd.mem_blk.2 hg2])), ?_, by simp [s.len], ?_, ?_, ?_⟩
  · rw [List.flatMap_append]
    simpa [ORul.cells] using ho
  · rw [List.map_append, s.is, List.take_succ_eq_append_getElem hk]; rfl
  · intro x hx
    simp only [List.mem_append, List.mem_singleton] at hx
    rcases hx with hx | rfl
    · exact (s.each x hx).kb ka fun g hg1 hg2 => nodup_disj nd2 (Hd.mem_blk.2 hg2) (List.mem_flatMap.2 ⟨x, hx, hg1⟩)
    · exact ⟨own_down (own_kb own4 kg fun g hg1 hg2 => by have := (own4.lt g hg1).1; have := (hrl g hg2).2; omega) (by omega)⟩
  · rw [List.flatMap_append]
    have e : [ORul.mk t.rules[k] h4].flatMap (·.h.blk) = h4.blk := by simp
    rw [e]
    refine List.nodup_append.2 ⟨(List.nodup_append.1 nd).1, List.nodup_append.2 ⟨blk_nodup _, nodup_more (List.nodup_append.1 nd2).2.1 (blk_nodup _) (fun g hg => (hlt g (by simp only [List.mem_append]; exact .inr (.inr hg))).2) (fun g hg => (hx4 g hg).1), ?_⟩, ?_⟩
    · intro a ha b hb2 e
      subst e
      rcases List.mem_append.1 hb2 with h1 | h1
      · rcases hb a ha with h2 | h2
        · exact nodup_disj nd2 h2 h1
        · have := (hlt a (by simp only [List.mem_append]; exact .inr (.inr h1))).2; omega
      · rcases hb a ha with h2 | h2
        · have := (hlt a (by simp [h2])).2; have := (hx4 a h1).1; omega
        · have := (hx4 a h1).2; omega
    · intro a ha b hb2 e
      subst e
      have := (hlt a (by simp [ha])).2
      rcases List.mem_append.1 hb2 with h1 | h1
      · rcases hb a h1 with h2 | h2
        · exact nodup_disj nd ha (by simp [h2])
        · omega
      · rcases List.mem_append.1 h1 with h1 | h1
        · exact nodup_disj nd ha (List.mem_append.2 (.inr h1))
        · have := (hx4 a h1).1; omega
end Go.Proofs.YtlklmekapbojdaaGreat

namespace Go.Proofs.YtlklmekapbojdaaGreat
open Go.RowKit
set_option maxRecDepth 100000
set_option linter.unusedVariables false
theorem rises_pred {α : Type} (c : α → α → Int) (l : List α) (h : ∀ k, 1 ≤ k → ∀ (hk : k < l.length), c (l[k - 1]'(by omega)) l[k] < 0) : risesB c l = true :=
  (risesB_iff c l).2 fun k hk => h (k + 1) (by omega) hk
end Go.Proofs.YtlklmekapbojdaaGreat

namespace Go.Proofs.YtlklmekapbojdaaGreat
open Go.RowKit Go.Deep
set_option maxRecDepth 100000
set_option linter.unusedVariables false
def zeroT : Tab := ⟨⟨#[]⟩, ⟨#[]⟩, ⟨#[]⟩, [], []⟩
theorem setT_row {w : World} {b : Nat} {xs : List Value} (h : RowAt w b xs) (hl : xs.length = 5) (v0 v1 v2 v3 v4 : Value) : RowAt (((((w.setCell ⟨b, 0, none⟩ v0).setCell ⟨b, 1, none⟩ v1).setCell ⟨b, 2, none⟩ v2).setCell ⟨b, 3, none⟩ v3).setCell ⟨b, 4, none⟩ v4) b [v0, v1, v2, v3, v4] := by
  match xs, hl with
  | [a, b, c, d, e], _ => exact ((((h.set 0 _ (by simp)).set 1 _ (by simp)).set 2 _ (by simp)).set 3 _ (by simp)).set 4 _ (by simp)
theorem setT_kb (w : World) (b : Nat) (v0 v1 v2 v3 v4 : Value) : Kb (fun g => g = b) w (((((w.setCell ⟨b, 0, none⟩ v0).setCell ⟨b, 1, none⟩ v1).setCell ⟨b, 2, none⟩ v2).setCell ⟨b, 3, none⟩ v3).setCell ⟨b, 4, none⟩ v4) :=
  ((((Kb.set _ _ _ _).trans (Kb.set _ _ _ _)).trans (Kb.set _ _ _ _)).trans (Kb.set _ _ _ _)).trans (Kb.set _ _ _ _)
end Go.Proofs.YtlklmekapbojdaaGreat

namespace Go.Proofs.YtlklmekapbojdaaGreat
open Go.RowKit Go.Deep Go.Shelf Go.Sort
set_option linter.unusedVariables false
set_option linter.unusedSectionVars false
section
variable {α : Type} [Inhabited α]
theorem flatK_list (f : α → List Value) (k : Nat) (hk : ∀ x, (f x).length = k) (d : Array α) : (flatK f k d).toList = d.toList.flatMap f := by
  have hl : (d.toList.flatMap f).length = d.size * k := by rw [flatMap_len hk]; simp
  refine List.ext_getElem (by simp [flatK, hl]) fun t h1 h2 => ?_
  have ht : t < d.size * k := by rw [← hl]; exact h2
  have k0 : 0 < k := by
    rcases Nat.eq_zero_or_pos k with h | h
    · subst h; simp at ht
    · exact h
  have hd : t / k < d.size := Nat.div_lt_of_lt_mul (by rw [Nat.mul_comm]; exact ht)
  have hm : t % k < k := Nat.mod_lt _ k0
  have e := flat_get (size := k) (d.toList.map f) (by simp [hk]) (t / k) (t % k) (by simpa using hd) hm
  rw [← List.flatMap_def, Nat.div_add_mod' t k] at e
  rw [List.getElem?_eq_getElem h2] at e
  have e2 : (flatK f k d)[t]! = (f d[t / k]!)[t % k]! := get_flatK f k d t ht
  rw [getElem!_pos _ t (by rw [size_flatK]; exact ht), getElem!_pos d _ hd, getElem!_pos _ _ (by rw [hk]; exact hm)] at e2
  rw [Array.getElem_toList, e2]
  simp only [List.getElem_map, Array.getElem_toList] at e
  rw [List.getElem?_eq_getElem (by rw [hk]; exact hm)] at e
  exact (Option.some.inj e).symm
theorem setMany_list (F G : Array Value) (h : F.size = G.size) : setMany F 0 G.toList = G := by
  refine ext_get! (by rw [size_setMany]; exact h) fun t ht => ?_
  rw [size_setMany] at ht
  rw [get_setMany _ _ _ _ ht, if_pos ⟨Nat.zero_le _, by simpa using (by omega : t < G.size)⟩]
  simp
  rw [getElem!_pos G t (by omega)]
  simp [List.getElem!_eq_getElem?_getD, Array.getElem?_eq_getElem (show t < G.size by omega)]
theorem putRow_cells (w : World) (blk : Nat) (F G : Array Value) (h : Holds id w blk 0 F) (hs : F.size = G.size) : putRow id w blk 0 G = w.setCells blk 0 G.toList := by
  have h1 := putRow_self id w blk 0 F h
  have h2 := setCells_putRow w blk 0 G.toList 0 F (by simp [hs])
  rw [h1, setMany_list F G hs] at h2
  exact h2.symm
theorem holdsK_own {w : World} {B k cap blk : Nat} {e : TypeId} (f : α → List Value) (hk : ∀ x, (f x).length = k) (l : List α) (h0 : 0 < l.length) (ho : w.ownsRow B e k (.slice (some ⟨blk, 0, none⟩) l.length cap) l.length (l.flatMap f)) : HoldsK f k w blk 0 l.toArray := by
  obtain ⟨g, cap', hv, hB, hnc, hr⟩ := own_rowAt ho h0
  have : g = blk := by simp only [Value.slice.injEq, Option.some.injEq, Addr.mk.injEq] at hv; exact hv.1.1.symm
  subst this
  intro j hj
  rw [size_flatK] at hj
  have hj' : j < (l.flatMap f).length := by rw [flatMap_len hk]; simpa using hj
  have e1 := flatK_list f k hk l.toArray
  refine ⟨?_, by rw [Nat.zero_add]; exact hr.2.2 j hj'⟩
  rw [Nat.zero_add, hr.2.1 j hj', id, getElem!_pos _ j (by rw [size_flatK]; exact hj), ← Array.getElem_toList, List.getElem?_eq_getElem hj']
  congr 1
  exact (List.getElem_of_eq e1 _).symm
theorem aft_ahead (w : World) (n : Nat) : Aft w (Go.Sort.ahead w n) := ⟨rfl, rfl, rfl, Nat.le_refl _, fun _ _ => rfl⟩
theorem aft_grow (w : World) (os : Array Obj) : Aft w (grow w os) := ⟨rfl, rfl, rfl, by simp, fun k hk => heap_grow_old w os hk⟩
/-- what a sort leaves -/
def SortedP (e : TypeId) (k : Nat) (f : α → List Value) (cf : α → α → Int) (w : World) (B blk cap : Nat) (l : List α) (x : Ending) (w' : World) : Prop :=
  x = .returned (.tuple #[]) ∧ ∃ l' : List α, l'.Perm l ∧ (∀ i j (hi : i < l'.length) (hj : j < l'.length), i < j → ¬ cf l'[j] l'[i] < 0) ∧ w'.ownsRow B e k (.slice (some ⟨blk, 0, none⟩) l.length cap) l.length (l'.flatMap f) ∧ Kb (fun j => j = blk) w w'
theorem sort_own {P : Program} {ρ : Ren} (L : SlLaysF0.n6 P ρ) (k : Nat) (aE : ∀ w, (isAgg (ρ.t 24)).run P w = .ok true w) (zE : ∀ w, (Go.sizeOf (ρ.t 24)).run P w = .ok k w) (f : α → List Value) (hk : ∀ x, (f x).length = k) (h1 : ∀ x, ∀ v ∈ f x, v.oneCell' = true) (cf : α → α → Int) (hO : SWO (ltOf cf)) (g : Nat) (cb : Array Value)
    (e : TypeId) (B blk cap : Nat) (l : List α) (h0 : 0 < l.length) (hsz : l.length ≤ 1000000) (w : World) (ho : w.ownsRow B e k (.slice (some ⟨blk, 0, none⟩) l.length cap) l.length (l.flatMap f)) (eg : ∀ args w, (callFunc g args).run P w = .ok (.enter g args) w)
    (hc : ∀ W x y, Calls P g (#[.agg (f x).toArray, .agg (f y).toArray] ++ cb) W fun e w' => e = .returned (.int .i64 (cf x y)) ∧ ∃ q os', w' = grow (W.drewN q) os') :
    Calls P (ρ.f 6) #[.slice (some ⟨blk, 0, none⟩) l.length cap, .func (.func g) #[] cb] w (SortedP e k f cf w B blk cap l) := by
  have hH := holdsK_own f hk l h0 ho
  have hb : blk < w.heap.size := (ho.lt blk rfl).2
  refine (AnyQ.slices_SortFunc L k aE zE f hk h1 cf hO g cb blk 0 cap l.toArray w eg (fun m os dk _ x y => hc _ x y) hH hb (by simp; omega)).mono ?_
  rintro x w' ⟨rfl, d', n, os, hp, hs, rfl⟩
  have hsize : d'.size = l.length := by have := hp.1; simpa using this
  have hext : ∀ d : Array α, d.size = l.length → (d.extract 0 l.toArray.size).toList = d.toList := fun d hd => by simp [← hd]
  refine ⟨rfl, d'.toList, ?_, fun i j hi hj hij => ?_, ?_, ?_⟩
  · have := hp.2.2
    rw [hext d' hsize, hext l.toArray (by simp)] at this
    simpa using this
  · have hj2 : j < d'.size := by simpa using hj
    have := hs i j (Nat.zero_le _) hij (by simp; omega)
    rw [getElem!_pos d' j hj2, getElem!_pos d' i (by omega)] at this
    simpa [ltOf] using this
  · unfold sortWorldK putRowK
    rw [putRow_cells (Go.Sort.ahead w n) blk (flatK f k l.toArray) (flatK f k d') (holdsK_ahead f k w n blk 0 l.toArray hH) (by simp [hsize])]
    refine own_aft ?_ (aft_grow _ os)
    have h2 := own_setCells (v := .slice (some ⟨blk, 0, none⟩) l.length cap) (g := blk) rfl (flatK f k d').toList 0 (own_aft ho (aft_ahead w n))
    rw [setL_eq _ _ _ (by simp [flatMap_len hk, hsize])] at h2
    rw [flatK_list f k hk] at h2 ⊢
    have e3 : (d'.toList.flatMap f).length = (l.flatMap f).length := by rw [flatMap_len hk, flatMap_len hk]; simp [hsize]
    rw [List.take_zero, List.nil_append, Nat.zero_add, e3, List.drop_length, List.append_nil] at h2
    exact h2
  · unfold sortWorldK putRowK
    rw [putRow_cells (Go.Sort.ahead w n) blk (flatK f k l.toArray) (flatK f k d') (holdsK_ahead f k w n blk 0 l.toArray hH) (by simp [hsize])]
    exact ((Kb.of_aft (aft_ahead w n)).trans (kb_setCells blk _ _ _)).trans (Kb.of_aft (aft_grow _ os))
end
/-- two rows of the same things, one that rises and one that does not fall, are one -/
theorem perm_rises {α : Type} {c : α → α → Int} (tr : ∀ a b d, c a b < 0 → c b d < 0 → c a d < 0) (anti : ∀ a b, c a b = - c b a) {L l' : List α} (hL : ∀ i j (hi : i < L.length) (hj : j < L.length), i < j → c L[i] L[j] < 0) (hp : l'.Perm L) (hs : ∀ i j (hi : i < l'.length) (hj : j < l'.length), i < j → ¬ c l'[j] l'[i] < 0) : l' = L := by
  have hw : L.Pairwise fun a b => c a b < 0 := List.pairwise_iff_getElem.2 fun i j hi hj hij => hL i j hi hj hij
  have hne : ∀ a ∈ L, ∀ b ∈ L, c a b = 0 → a = b := fun a ha b hb e => by
    obtain ⟨i, hi, rfl⟩ := List.getElem_of_mem ha
    obtain ⟨j, hj, rfl⟩ := List.getElem_of_mem hb
    rcases Nat.lt_trichotomy i j with h | h | h
    · have := hL i j hi hj h; omega
    · subst h; rfl
    · have := hL j i hj hi h; have := anti L[j] L[i]; omega
  have hle : l'.Pairwise fun a b => c a b ≤ 0 := List.pairwise_iff_getElem.2 fun i j hi hj hij => by
    have h1 := hs i j hi hj hij
    have h2 := anti l'[i] l'[j]
    omega
  exact List.Perm.eq_of_pairwise (le := fun a b => c a b ≤ 0) (fun a b ha hb h1 h2 => hne a (hp.subset ha) b hb (by have := anti a b; omega)) hle (hw.imp fun h => Int.le_of_lt h) hp
end Go.Proofs.YtlklmekapbojdaaGreat

namespace Go.Proofs.YtlklmekapbojdaaGreat
open Go.RowKit
set_option linter.unusedVariables false
structure Gra where
  schema : ByteArray
  table : ByteArray
  right : Int
  giver : ByteArray
  to : ByteArray
  opt : Bool
def graC (g : Gra) : List Value := [.string g.schema, .string g.table, .int .i64 g.right, .string g.giver, .string g.to, .bool g.opt]
def SmG (g : Gra) : Prop := Small g.schema.size ∧ Small g.table.size ∧ Small g.giver.size ∧ Small g.to.size ∧ (Lit.int .i64 g.right).wf = true
def GraR (_ : World) (cs : List Value) (g : Gra) : Prop := cs = graC g ∧ SmG g
structure Cat where
  epoch : Int
  version : Int
  objs : Objs
  rols : Rls
  grants : List Gra
def cmpI (a b : Int) : Int := if a < b then -1 else if b < a then 1 else 0
def cmpG (a b : Gra) : Int := or2 (cmpS a.schema b.schema) (or2 (cmpS a.table b.table) (or2 (cmpI a.right b.right) (or2 (cmpS a.giver b.giver) (cmpS a.to b.to))))
def fiveE (a b : Gra) : Bool := eqS a.schema b.schema && (eqS a.table b.table && ((a.right == b.right) && (eqS a.giver b.giver && eqS a.to b.to)))
def fkey (g : Gra) : ByteArray × ByteArray × Int × ByteArray × ByteArray := (g.schema, g.table, g.right, g.giver, g.to)
/-- an order of things by what they are asked -/
structure Ord7 {α : Type} (c : α → α → Int) : Prop where
  anti : ∀ a b, c a b = - c b a
  le : ∀ a b d, c a b ≤ 0 → c b d ≤ 0 → c a d ≤ 0 ∧ (c a d = 0 → c a b = 0 ∧ c b d = 0)
theorem or2_zero (x y : Int) : or2 x y = 0 ↔ x = 0 ∧ y = 0 := by
  unfold or2
  by_cases h : x = 0
  · subst h; simp
  · have : (x == 0) = false := by simpa using h
    rw [this]; simp [h]
theorem or2_le (x y : Int) : or2 x y ≤ 0 ↔ x < 0 ∨ (x = 0 ∧ y ≤ 0) := by
  unfold or2
  by_cases h : x = 0
  · subst h; simp
  · have : (x == 0) = false := by simpa using h
    rw [this]
    simp only [Bool.false_eq_true, if_false]
    omega
theorem or2_neg (x y : Int) : or2 (-x) (-y) = - or2 x y := by
  unfold or2
  by_cases h : x = 0
  · subst h; simp
  · have h1 : (x == 0) = false := by simpa using h
    have h2 : (-x == 0) = false := by simpa using h
    rw [h1, h2]; simp
theorem Ord7.or2 {α : Type} {c d : α → α → Int} (hc : Ord7 c) (hd : Ord7 d) : Ord7 fun a b => or2 (c a b) (d a b) where
  anti a b := by
    show Go.Proofs.YtlklmekapbojdaaGreat.or2 (c a b) (d a b) = - Go.Proofs.YtlklmekapbojdaaGreat.or2 (c b a) (d b a)
    rw [hc.anti a b, hd.anti a b, or2_neg]
  le x y z h1 h2 := by
    have h1 := (or2_le _ _).1 h1
    have h2 := (or2_le _ _).1 h2
    have k := hc.le x y z (by omega) (by omega)
    rw [or2_le, or2_zero, or2_zero, or2_zero]
    by_cases e : c x z = 0
    · obtain ⟨e1, e2⟩ := k.2 e
      have m := hd.le x y z (by omega) (by omega)
      exact ⟨.inr ⟨e, m.1⟩, fun h => ⟨⟨e1, (m.2 h.2).1⟩, ⟨e2, (m.2 h.2).2⟩⟩⟩
    · exact ⟨.inl (by omega), fun h => absurd h.1 e⟩
theorem Ord7.on {α β : Type} {c : α → α → Int} (h : Ord7 c) (f : β → α) : Ord7 fun a b => c (f a) (f b) := ⟨fun a b => h.anti _ _, fun a b d => h.le _ _ _⟩
theorem Ord7.of8 {α : Type} {c : α → α → Int} (h : Ord8 c) : Ord7 c where
  anti := h.anti
  le a b d h1 h2 := by
    by_cases e1 : c a b = 0
    · have := h.eq0 _ _ e1; subst this
      exact ⟨h2, fun e => ⟨h.refl _, e⟩⟩
    · by_cases e2 : c b d = 0
      · have := h.eq0 _ _ e2; subst this
        exact ⟨h1, fun e => ⟨e, h.refl _⟩⟩
      · have := h.tr a b d (by omega) (by omega)
        exact ⟨by omega, fun e => by omega⟩
theorem Ord7.lt {α : Type} {c : α → α → Int} (h : Ord7 c) (a b d : α) (h1 : c a b < 0) (h2 : c b d < 0) : c a d < 0 := by
  have k := h.le a b d (by omega) (by omega)
  by_cases e : c a d = 0
  · have := (k.2 e).1; omega
  · omega
theorem ordI : Ord7 cmpI := ⟨fun a b => by unfold cmpI; split <;> split <;> omega, fun a b d => by unfold cmpI; split <;> split <;> split <;> (try split) <;> (try split) <;> omega⟩
theorem ordG : Ord7 cmpG := ((Ord7.of8 ordS).on Gra.schema).or2 (((Ord7.of8 ordS).on Gra.table).or2 ((ordI.on Gra.right).or2 (((Ord7.of8 ordS).on Gra.giver).or2 ((Ord7.of8 ordS).on Gra.to))))
theorem cmpI_zero (a b : Int) : cmpI a b = 0 ↔ (a == b) = true := by
  unfold cmpI
  rw [beq_iff_eq]
  split
  · constructor <;> intro h <;> omega
  · split <;> constructor <;> intro h <;> omega
theorem cmpG_zero (a b : Gra) : cmpG a b = 0 ↔ fiveE a b = true := by
  unfold cmpG fiveE
  simp only [or2_zero, Bool.and_eq_true, cmpS_eq, cmpI_zero]
theorem fiveE_iff (a b : Gra) : fiveE a b = true ↔ fkey a = fkey b := by
  unfold fiveE fkey
  simp only [Bool.and_eq_true, eqS_iff, beq_iff_eq, Prod.mk.injEq]
theorem fiveE_comm (a b : Gra) : fiveE a b = fiveE b a := by
  rw [Bool.eq_iff_iff, fiveE_iff, fiveE_iff]; exact eq_comm
def inG (l : List Gra) (g : Gra) : Bool := l.any fun x => fiveE x g
theorem inG_iff (l : List Gra) (g : Gra) : inG l g = true ↔ fkey g ∈ l.map fkey := by
  unfold inG
  rw [List.any_eq_true, List.mem_map]
  exact ⟨fun ⟨x, hx, h⟩ => ⟨x, hx, (fiveE_iff _ _).1 h⟩, fun ⟨x, hx, h⟩ => ⟨x, hx, (fiveE_iff _ _).2 h⟩⟩
def bRoot : ByteArray := ⟨#[114, 111, 111, 116]⟩
def tabF (o : Objs) (s n : ByteArray) : Tab := if tabAt o.tables s n < 0 then zeroT else (o.tables[(tabAt o.tables s n).toNat]?).getD zeroT
def overB (o : Objs) (s : ByteArray) : ByteArray := if schAt o.schemas s < 0 then ⟨#[]⟩ else ((o.schemas[(schAt o.schemas s).toNat]?).map Sch.owner).getD ⟨#[]⟩
def bossB (o : Objs) (is : List ByteArray) (t : Tab) : Bool := is.any fun r => eqS r bRoot || eqS r t.owner || eqS r (overB o t.schema)
def givesB (l : List Gra) (is : List ByteArray) (s n : ByteArray) (r : Int) (option : Bool) : Bool := l.any fun g => eqS g.schema s && eqS g.table n && (g.right == r) && (g.opt || !option) && inB is g.to
def kindB (r : Int) : Bool := r == 1 || r == 2
def graOk (c : Cat) (g : Gra) : Bool := decide (0 ≤ tabAt c.objs.tables g.schema g.table) && kindB g.right && !eqS g.giver g.to && inB c.rols.names g.giver && inB c.rols.names g.to
def ownersB (c : Cat) : Bool := c.objs.schemas.all (fun s => inB c.rols.names s.owner) && c.objs.tables.all (fun t => inB c.rols.names t.owner)
noncomputable def standsB (c : Cat) : Bool := decide (c.grants.length ≤ 64) && checkO c.objs && rightR c.rols && inB c.rols.names bRoot && ownersB c && (c.grants.all (graOk c) && risesB cmpG c.grants)
noncomputable def justB (c : Cat) (l : List Gra) (g : Gra) : Bool := bossB c.objs (allL c.rols g.giver) (tabF c.objs g.schema g.table) || givesB l (allL c.rols g.giver) g.schema g.table g.right true
/-- which grants hold: the fewest -/
inductive Held (c : Cat) : Gra → Prop
  | mk (g : Gra) (l : List Gra) : g ∈ c.grants → (∀ x ∈ l, Held c x) → justB c l g = true → Held c g
open Classical in
noncomputable def heldB (c : Cat) (g : Gra) : Bool := decide (Held c g)
open Classical in
theorem heldB_iff {c : Cat} {g : Gra} : heldB c g = true ↔ Held c g := by unfold heldB; exact decide_eq_true_iff
noncomputable def holdL (c : Cat) : List Gra := if standsB c then c.grants.filter (heldB c) else []
noncomputable def wholeB (c : Cat) : Bool := standsB c && ((holdL c).length == c.grants.length)
theorem givesB_mono {l l' : List Gra} (h : ∀ x ∈ l, x ∈ l') {is : List ByteArray} {s n : ByteArray} {r : Int} {o : Bool} (hg : givesB l is s n r o = true) : givesB l' is s n r o = true := by
  unfold givesB at hg ⊢
  rw [List.any_eq_true] at hg ⊢
  obtain ⟨x, hx, e⟩ := hg
  exact ⟨x, h x hx, e⟩
theorem justB_mono {c : Cat} {l l' : List Gra} (h : ∀ x ∈ l, x ∈ l') {g : Gra} (hg : justB c l g = true) : justB c l' g = true := by
  unfold justB at hg ⊢
  rw [Bool.or_eq_true] at hg ⊢
  exact hg.imp id (givesB_mono h)
theorem Held.mem {c : Cat} {g : Gra} (h : Held c g) : g ∈ c.grants := by cases h; assumption
/-- what is found so far -/
structure HeldL (c : Cat) (l : List Gra) : Prop where
  sub : ∀ x ∈ l, Held c x
  nd : (l.map fkey).Nodup
theorem HeldL.nil (c : Cat) : HeldL c [] := ⟨fun x hx => by simp at hx, by simp⟩
theorem HeldL.add {c : Cat} {l : List Gra} (h : HeldL c l) {g : Gra} (hg : g ∈ c.grants) (hn : inG l g = false) (hj : justB c l g = true) : HeldL c (l ++ [g]) := by
  refine ⟨fun x hx => ?_, ?_⟩
  · rcases List.mem_append.1 hx with hx | hx
    · exact h.sub x hx
    · rw [List.mem_singleton] at hx; subst hx
      exact .mk x l hg h.sub hj
  · rw [List.map_append, List.nodup_append]
    refine ⟨h.nd, by simp, fun a ha b hb e => ?_⟩
    simp at hb; subst hb; subst e
    have := (inG_iff l g).2 ha
    rw [hn] at this; cases this
theorem HeldL.len {c : Cat} {l : List Gra} (h : HeldL c l) : l.length ≤ c.grants.length := by
  have := nodup_le (l := l.map fkey) (l' := c.grants.map fkey) h.nd fun x hx => by
    obtain ⟨y, hy, rfl⟩ := List.mem_map.1 hx
    exact List.mem_map.2 ⟨y, (h.sub y hy).mem, rfl⟩
  simpa using this
theorem rises_keys {l : List Gra} (h : risesB cmpG l = true) : ∀ x ∈ l, ∀ y ∈ l, fkey x = fkey y → x = y := fun x hx y hy e => by
  obtain ⟨i, hi, rfl⟩ := List.getElem_of_mem hx
  obtain ⟨j, hj, rfl⟩ := List.getElem_of_mem hy
  have e0 : cmpG l[i] l[j] = 0 := (cmpG_zero _ _).2 ((fiveE_iff _ _).2 e)
  rcases Nat.lt_trichotomy i j with h1 | h1 | h1
  · have := rises_lt ordG.lt h i j hi hj h1; omega
  · subst h1; rfl
  · have := rises_lt ordG.lt h j i hj hi h1
    have := ordG.anti l[i] l[j]; omega
/-- closed: what is found is what holds -/
theorem HeldL.all {c : Cat} {l : List Gra} (h : HeldL c l) (hr : risesB cmpG c.grants = true) (hc : ∀ g ∈ c.grants, inG l g = false → justB c l g = false) (g : Gra) (hg : g ∈ c.grants) : inG l g = true ↔ Held c g := by
  have mem : ∀ g ∈ c.grants, inG l g = true → g ∈ l := fun g hg hi => by
    obtain ⟨y, hy, e⟩ := List.mem_map.1 ((inG_iff _ _).1 hi)
    have := rises_keys hr _ ((h.sub y hy).mem) _ hg e
    rw [← this]; exact hy
  constructor
  · exact fun hi => h.sub g (mem g hg hi)
  · intro hh
    induction hh with
    | mk g m hg _ hj ih =>
      by_cases hi : inG l g = true
      · exact hi
      · rw [Bool.not_eq_true] at hi
        have h1 := hc g hg hi
        have h2 := justB_mono (l' := l) (fun x hx => mem x (by
          have := ih x hx
          rename_i hall
          exact (hall x hx).mem) (ih x hx (by rename_i hall; exact (hall x hx).mem))) hj
        rw [h1] at h2; cases h2
theorem perm_same {α : Type} : ∀ {l L : List α}, l.Nodup → L.Nodup → (∀ x, x ∈ l ↔ x ∈ L) → l.Perm L
  | [], L, _, _, h => by
    cases L with
    | nil => exact .nil
    | cons a L => have := (h a).2 (by simp); simp at this
  | a :: l, L, hl, hL, h => by
    obtain ⟨A, B, rfl⟩ := List.append_of_mem ((h a).1 (by simp))
    have hl' := List.nodup_cons.1 hl
    have hp : (A ++ a :: B).Perm (a :: (A ++ B)) := List.perm_middle
    have hL' := List.nodup_cons.1 ((hp.nodup_iff).1 hL)
    refine (List.Perm.cons a (perm_same hl'.2 hL'.2 fun x => ?_)).trans hp.symm
    have hx := h x
    rw [hp.mem_iff, List.mem_cons, List.mem_cons] at hx
    constructor
    · intro hm
      rcases hx.1 (.inr hm) with e | e
      · subst e; exact absurd hm hl'.1
      · exact e
    · intro hm
      rcases hx.2 (.inr hm) with e | e
      · subst e; exact absurd hm hL'.1
      · exact e
theorem nodup_of_keys {l : List Gra} (h : (l.map fkey).Nodup) : l.Nodup := by
  induction l with
  | nil => simp
  | cons a l ih =>
    rw [List.map_cons, List.nodup_cons] at h
    exact List.nodup_cons.2 ⟨fun hm => h.1 (List.mem_map.2 ⟨a, hm, rfl⟩), ih h.2⟩
theorem rises_nodupG {l : List Gra} (h : risesB cmpG l = true) : l.Nodup := by
  rw [List.nodup_iff_pairwise_ne, List.pairwise_iff_getElem]
  intro i j hi hj hij e
  have := rises_lt ordG.lt h i j hi hj hij
  rw [e] at this
  have := ordG.anti l[j] l[j]; omega
/-- what is found, in order, are the grants that hold -/
theorem HeldL.sorted {c : Cat} {l l' : List Gra} (h : HeldL c l) (hr : risesB cmpG c.grants = true) (hc : ∀ g ∈ c.grants, inG l g = false → justB c l g = false) (hp : l'.Perm l) (hs : ∀ i j (hi : i < l'.length) (hj : j < l'.length), i < j → ¬ cmpG l'[j] l'[i] < 0) : l' = c.grants.filter (heldB c) := by
  have hf : ∀ i j (hi : i < (c.grants.filter (heldB c)).length) (hj : j < (c.grants.filter (heldB c)).length), i < j → cmpG (c.grants.filter (heldB c))[i] (c.grants.filter (heldB c))[j] < 0 := by
    have : c.grants.Pairwise fun a b => cmpG a b < 0 := List.pairwise_iff_getElem.2 fun i j hi hj hij => rises_lt ordG.lt hr i j hi hj hij
    exact fun i j hi hj hij => List.pairwise_iff_getElem.1 (this.filter _) i j hi hj hij
  refine perm_rises ordG.lt ordG.anti hf (hp.trans ?_) hs
  refine perm_same (nodup_of_keys h.nd) ((rises_nodupG hr).filter _) fun x => ?_
  rw [List.mem_filter]
  rw [heldB_iff]
  constructor
  · exact fun hx => ⟨(h.sub x hx).mem, h.sub x hx⟩
  · rintro ⟨hx, hh⟩
    obtain ⟨y, hy, e⟩ := List.mem_map.1 ((inG_iff _ _).1 ((h.all hr hc x hx).2 hh))
    rw [← rises_keys hr _ ((h.sub y hy).mem) _ hx e]; exact hy
end Go.Proofs.YtlklmekapbojdaaGreat

namespace Go.Proofs.YtlklmekapbojdaaGreat
open Go.RowKit Go.Deep
set_option maxRecDepth 100000
set_option linter.unusedVariables false
theorem gra_at {w : World} {A : Option Addr} {cap : Nat} {l : List Gra} (h : SlAt w 6 GraR A cap l) {k : Nat} (hk : k < l.length) :
    ∃ b off, A = some ⟨b, off, none⟩ ∧ b < w.heap.size ∧ w.cell? ⟨b, off + k * 6, none⟩ = some (.string l[k].schema) ∧ w.cell? ⟨b, off + k * 6 + 1, none⟩ = some (.string l[k].table) ∧ w.cell? ⟨b, off + k * 6 + 2, none⟩ = some (.int .i64 l[k].right) ∧
      w.cell? ⟨b, off + k * 6 + 3, none⟩ = some (.string l[k].giver) ∧ w.cell? ⟨b, off + k * 6 + 4, none⟩ = some (.string l[k].to) ∧ w.cell? ⟨b, off + k * 6 + 5, none⟩ = some (.bool l[k].opt) ∧ SmG l[k] := by
  obtain ⟨b, off, cs, hA, hb, hl, ⟨rfl, hs⟩, hc⟩ := h.2.2 k hk
  exact ⟨b, off, hA, hb, by simpa [graC] using hc 0 (by omega), by simpa [graC, Nat.add_assoc] using hc 1 (by omega), by simpa [graC, Nat.add_assoc] using hc 2 (by omega), by simpa [graC, Nat.add_assoc] using hc 3 (by omega), by simpa [graC, Nat.add_assoc] using hc 4 (by omega), by simpa [graC, Nat.add_assoc] using hc 5 (by omega), hs⟩
theorem gras_aft {w w' : World} (a : Aft w w') {A : Option Addr} {cap : Nat} {l : List Gra} (h : SlAt w 6 GraR A cap l) : SlAt w' 6 GraR A cap l := h.aft a fun _ _ h => h
theorem sm_gras {w : World} {A : Option Addr} {cap : Nat} {l : List Gra} (h : SlAt w 6 GraR A cap l) : Small (l.length * 16) ∧ ∀ g ∈ l, SmG g :=
  ⟨h.2.1, fun g hg => by
    obtain ⟨k, hk, rfl⟩ := List.getElem_of_mem hg
    obtain ⟨b, off, cs, hA, hb, hl, ⟨rfl, hs⟩, hc⟩ := h.2.2 k hk
    exact hs⟩
set_option maxHeartbeats 1000000 in
theorem idxGra (A : Option Addr) (cap : Nat) (l : List Gra) (g : FuncId) (caps : Array Value) (p : Gra → Bool) (w : World) (h : SlAt w 6 GraR A cap l) (hent : ∀ (args : Array Value) (w : World), (callFunc g args).run Tryz.prog w = .ok (.enter g args) w)
    (hp : ∀ w', Aft w w' → ∀ i (hi : i < l.length), Calls Tryz.prog g (#[.agg #[.string l[i].schema, .string l[i].table, .int .i64 l[i].right, .string l[i].giver, .string l[i].to, .bool l[i].opt]] ++ caps) w' fun e w'' => e = .returned (.bool (p l[i])) ∧ Aft w' w'') :
    Calls Tryz.prog 194 #[.slice A l.length cap, .func (.func g) #[] caps] w fun e w' => e = .returned (.int .i64 (idxP p l)) ∧ Aft w w' := by
  have hlen := h.len
  have HC := Lib.hid hp
  clear hp
  go_enter Tryz.func194, Tryz.ntmps194
  go_wp2_with fail
  go_loopw [8] (fun i wr => ∃ k : Nat, k ≤ l.length ∧ i = .int .i64 k ∧ Aft w wr ∧ ∀ j, j < k → ∀ (hj : j < l.length), p l[j] = false) (fun i _ => l.length - (intOf i).toNat)
  case atStart => exact ⟨0, Nat.zero_le _, rfl, Aft.refl _, fun j hj => absurd hj (Nat.not_lt_zero j)⟩
  case round =>
    obtain ⟨k, hk, rfl, ha, hp⟩ := hrel
    have HA := Lib.hid ha
    have HP := Lib.hid hp; clear hp
    by_cases hlt : k < l.length
    · have hsl := gras_aft ha h
      clear ha
      obtain ⟨b, off, rfl, hb, c0, c1, c2, c3, c4, c5, hs⟩ := gra_at hsl hlt
      have HK := Lib.hid (HC.out wr HA.out k hlt)
      clear hsl
      obtain ⟨q, hq⟩ : ∃ q, p l[k] = q := ⟨_, rfl⟩
      rw [hq] at HK
      have HQ := Lib.hid hq
      clear hq
      cases q
      · go_wp2_with fail
        refine HK.out.mono ?_
        rintro e w1 ⟨rfl, a1⟩
        have HA1 := Lib.hid (HA.out.trans a1)
        clear a1
        go_wp2_with fail
        go_roundw
        case rel => exact ⟨k + 1, by omega, by go_num, HA1.out, ext_lt (p := fun j => ∀ (hj : j < l.length), p l[j] = false) HP.out (fun _ => HQ.out)⟩
        case measure => simp [intOf]; omega
      · go_wp2_with fail
        refine HK.out.mono ?_
        rintro e w1 ⟨rfl, a1⟩
        have HA1 := Lib.hid (HA.out.trans a1)
        clear a1
        go_wp2_with fail
        go_ret
        exact ⟨by rw [idxP_some p l k hlt HQ.out (fun i hi => HP.out i hi (by omega))]; rfl, HA1.out⟩
    · clear ha
      go_wp2_with fail
      go_ret
      exact ⟨by rw [idxP_none p l (fun i hi => HP.out i (by omega) hi)]; rfl, HA.out⟩
set_option maxHeartbeats 1000000 in
theorem contGra (A : Option Addr) (cap : Nat) (l : List Gra) (g : FuncId) (caps : Array Value) (p : Gra → Bool) (w : World) (h : SlAt w 6 GraR A cap l) (hent : ∀ (args : Array Value) (w : World), (callFunc g args).run Tryz.prog w = .ok (.enter g args) w)
    (hp : ∀ w', Aft w w' → ∀ i (hi : i < l.length), Calls Tryz.prog g (#[.agg #[.string l[i].schema, .string l[i].table, .int .i64 l[i].right, .string l[i].giver, .string l[i].to, .bool l[i].opt]] ++ caps) w' fun e w'' => e = .returned (.bool (p l[i])) ∧ Aft w' w'') :
    Calls Tryz.prog 150 #[.slice A l.length cap, .func (.func g) #[] caps] w fun e w' => e = .returned (.bool (l.any p)) ∧ Aft w w' := by
  have C := Lib.hid (idxGra A cap l g caps p w h hent hp)
  have HE := Lib.hid (idxP_any8 p l)
  obtain ⟨i, hi⟩ : ∃ i, idxP p l = i := ⟨_, rfl⟩
  rw [hi] at C HE
  clear hi h hp
  go_enter Tryz.func150, Tryz.ntmps150
  go_wp2_with fail
  refine C.out.mono ?_
  rintro e w1 ⟨rfl, a1⟩
  have HA := Lib.hid a1
  clear a1
  go_wp2_with fail
  go_ret
  exact ⟨by rw [← HE.out]; rfl, HA.out⟩
set_option maxHeartbeats 1000000 in
theorem contStr (A : Option Addr) (cap : Nat) (l : List ByteArray) (g : FuncId) (caps : Array Value) (p : ByteArray → Bool) (w : World) (h : SlAt w 1 StrR A cap l) (hent : ∀ (args : Array Value) (w : World), (callFunc g args).run Tryz.prog w = .ok (.enter g args) w)
    (hp : ∀ w', Aft w w' → ∀ i (hi : i < l.length), Calls Tryz.prog g (#[.string l[i]] ++ caps) w' fun e w'' => e = .returned (.bool (p l[i])) ∧ Aft w' w'') :
    Calls Tryz.prog 148 #[.slice A l.length cap, .func (.func g) #[] caps] w fun e w' => e = .returned (.bool (l.any p)) ∧ Aft w w' := by
  have C := Lib.hid (idxStr A cap l g caps p w h hent hp)
  have HE := Lib.hid (idxP_any8 p l)
  obtain ⟨i, hi⟩ : ∃ i, idxP p l = i := ⟨_, rfl⟩
  rw [hi] at C HE
  clear hi h hp
  go_enter Tryz.func148, Tryz.ntmps148
  go_wp2_with fail
  refine C.out.mono ?_
  rintro e w1 ⟨rfl, a1⟩
  have HA := Lib.hid a1
  clear a1
  go_wp2_with fail
  go_ret
  exact ⟨by rw [← HE.out]; rfl, HA.out⟩
set_option maxHeartbeats 1000000 in
theorem contTab (A : Option Addr) (cap : Nat) (l : List Tab) (g : FuncId) (caps : Array Value) (p : Tab → Bool) (w : World) (h : SlAt w 5 TabR A cap l) (hent : ∀ (args : Array Value) (w : World), (callFunc g args).run Tryz.prog w = .ok (.enter g args) w)
    (hp : ∀ w', Aft w w' → ∀ i (hi : i < l.length) (e1 : List Value), TabR w' e1 l[i] → Calls Tryz.prog g (#[.agg e1.toArray] ++ caps) w' fun e w'' => e = .returned (.bool (p l[i])) ∧ Aft w' w'') :
    Calls Tryz.prog 217 #[.slice A l.length cap, .func (.func g) #[] caps] w fun e w' => e = .returned (.bool (l.any p)) ∧ Aft w w' := by
  have C := Lib.hid (idxTab A cap l g caps p w h hent hp)
  have HE := Lib.hid (idxP_any8 p l)
  obtain ⟨i, hi⟩ : ∃ i, idxP p l = i := ⟨_, rfl⟩
  rw [hi] at C HE
  clear hi h hp
  go_enter Tryz.func217, Tryz.ntmps217
  go_wp2_with fail
  refine C.out.mono ?_
  rintro e w1 ⟨rfl, a1⟩
  have HA := Lib.hid a1
  clear a1
  go_wp2_with fail
  go_ret
  exact ⟨by rw [← HE.out]; rfl, HA.out⟩
end Go.Proofs.YtlklmekapbojdaaGreat

namespace Go.Proofs.YtlklmekapbojdaaGreat
open Go.RowKit Go.Shelf Go.Sort
set_option linter.unusedVariables false
/-- an order: what is like another one stands to all as that one does -/
structure Pre8 {α : Type} (c : α → α → Int) : Prop where
  tr : ∀ a b d, c a b < 0 → c b d < 0 → c a d < 0
  anti : ∀ a b, c a b = - c b a
  con : ∀ a b d, c a b = 0 → c a d = c b d
theorem Pre8.swo {α : Type} {c : α → α → Int} (o : Pre8 c) : SWO (ltOf c) where
  irrefl x := by
    have := o.anti x x
    unfold ltOf
    exact decide_eq_false (by omega)
  trans x y z h1 h2 := by
    unfold ltOf at *
    exact decide_eq_true (o.tr _ _ _ (of_decide_eq_true h1) (of_decide_eq_true h2))
  ntrans x y z h1 h2 := by
    unfold ltOf at *
    have h1 := of_decide_eq_false h1
    have h2 := of_decide_eq_false h2
    have a1 := o.anti x y
    have a2 := o.anti y z
    have a3 := o.anti x z
    refine decide_eq_false fun h => ?_
    by_cases e1 : c y x = 0
    · have := o.con y x z e1; omega
    · by_cases e2 : c z y = 0
      · have := o.con z y x e2; omega
      · have := o.tr z y x (by omega) (by omega); omega
theorem Pre8.on {α β : Type} {c : β → β → Int} (o : Pre8 c) (f : α → β) : Pre8 fun a b : α => c (f a) (f b) := ⟨fun a b d => o.tr _ _ _, fun a b => o.anti _ _, fun a b d => o.con _ _ _⟩
instance : Inhabited Sch := ⟨⟨ByteArray.empty, ByteArray.empty⟩⟩
instance : Inhabited Rul := ⟨⟨ByteArray.empty, 0, [], 0, 0, ByteArray.empty, ByteArray.empty, ByteArray.empty⟩⟩
instance : Inhabited ORul := ⟨⟨default, ⟨none, 0, 0⟩⟩⟩
instance : Inhabited OTab := ⟨⟨ByteArray.empty, ByteArray.empty, ByteArray.empty, [], [], ⟨none, 0, 0⟩, ⟨none, 0, 0⟩⟩⟩
end Go.Proofs.YtlklmekapbojdaaGreat

