/- objects.key. -/
import Derived.Test.YtodifdofgjfkiaaEqK
import Derived.Test.YtodifdofgjfkiaaSpec
import Derived.Deep.RegionHeld3
namespace Go.Proofs.Ytodifdofgjfkiaa
open Go.RowKit
set_option maxRecDepth 100000
set_option linter.unusedVariables false
theorem Small.mono {m n : Nat} (h : Small n) (hm : m ≤ n) : Small m := Nat.le_trans hm h
theorem kinds_small {l : List Col} {cs : List ByteArray} (h : Small (cs.length * 16)) : Small ((kindsOf l cs).length * 16) := h.mono (Nat.mul_le_mul_right _ (kindsOf_le l cs))
theorem keyE_none {ts : List Tab} {l : List Col} {r : Rul} (h : tabAt ts r.schema r.table < 0) : keyE ts l r = 61 := by
  unfold keyE; split <;> simp [h]
theorem keyE_some {ts : List Tab} {l : List Col} {r : Rul} {q : Nat} (h : tabAt ts r.schema r.table = q) (hq : q < ts.length) : keyE ts l r = keyT ts[q] l r := by
  unfold keyE; rw [h]; simp [List.getElem?_eq_getElem hq]; omega
theorem keyT_none {t : Tab} {l : List Col} {r : Rul} (h : rulAt t.rules r.key < 0) : keyT t l r = 61 := by
  unfold keyT; split <;> simp [h]
theorem keyT_some {t : Tab} {l : List Col} {r : Rul} {q : Nat} (h : rulAt t.rules r.key = q) (hq : q < t.rules.length) : keyT t l r = if t.rules[q].kind == 2 then (if pairsOk l t.cols r.cols t.rules[q].cols then 0 else 63) else 61 := by
  have h0 : ¬ ((q : Int) < 0) := by omega
  unfold keyT; rw [h]; simp [List.getElem?_eq_getElem hq, h0]
theorem Aft.cell_some {w w' : World} (h : Aft w w') {a : Addr} {v : Value} (hc : w.cell? a = some v) : w'.cell? a = some v := (Below.cell h (World.block_lt_of_cell? w a hc)).trans hc
theorem keep_aft {W w w' : World} {a b : Addr} {u v : Value} (hS : Aft W w ∧ w.cell? a = some u ∧ w.cell? b = some v) (h : Aft w w') : Aft W w' ∧ w'.cell? a = some u ∧ w'.cell? b = some v :=
  ⟨hS.1.trans h, h.cell_some hS.2.1, h.cell_some hS.2.2⟩
set_option maxHeartbeats 4000000 in
theorem key_any (vs : Value) (At : Option Addr) (capt : Nat) (ts : List Tab) (A : Option Addr) (cap : Nat) (l : List Col) (r : Rul) (A2 : Option Addr) (cap2 : Nat) (w : World) (ht : SlAt w 5 TabR At capt ts) (h : SlAt w 3 ColR A cap l) (h2 : SlAt w 1 StrR A2 cap2 r.cols) :
    Calls Try.prog 128 #[.agg #[vs, .slice At ts.length capt], .slice A l.length cap, .agg #[.string r.name, .int .i64 r.kind, .slice A2 r.cols.length cap2, .int .i64 r.low, .int .i64 r.high, .string r.schema, .string r.table, .string r.key]] w
      fun e w' => e = .returned (.int .i64 (keyE ts l r)) ∧ Aft w w' := by
  obtain ⟨i, hi⟩ : ∃ i, tabAt ts r.schema r.table = i := ⟨_, rfl⟩
  have hlen := ht.len
  have hlen2 := h2.len
  have Cw := Lib.hid (show ∀ w', Aft w w' → Calls Try.prog 73 #[.agg #[vs, .slice At ts.length capt], .string r.schema, .string r.table] w' fun e w'' => e = .returned (.tuple #[.int .i64 i, .bool (decide (0 ≤ i))]) ∧ Aft w' w'' from
    fun w' a => (where_any vs At capt ts r.schema r.table w' (tabs_aft a ht)).mono fun e w'' ⟨he, hw⟩ => ⟨he.trans (by rw [← hi]), hw⟩)
  by_cases hi0 : 0 ≤ i
  · obtain ⟨q, rfl⟩ := Int.eq_ofNat_of_zero_le hi0
    have hql : q < ts.length := by have := (idxP_range (fun t => eqS t.schema r.schema && eqS t.name r.table) ts).2; unfold tabAt at hi; omega
    have HE := Lib.hid (keyE_some (l := l) hi hql)
    have dq : decide (0 ≤ (q : Int)) = true := decide_eq_true hi0
    rw [HE.out]
    clear HE hi
    go_enter Try.func128, Try.ntmps128
    go_wp2_with fail
    refine (Cw.out _ (((Aft.refl w).alloc _).alloc _)).mono ?_
    rintro e w1 ⟨rfl, a1⟩
    obtain ⟨hbo, hbr, hz, HA⟩ := aft_box2 a1
    have ht1 := tabs_aft HA.out ht
    clear a1 Cw
    obtain ⟨b, off, B2, capB2, B3, capB3, rfl, hb, c0, c1, c2, c3, c4, hcols, hrules, hss⟩ := tab_at ht1 hql
    obtain ⟨t, ht0⟩ : ∃ t, ts[q] = t := ⟨_, rfl⟩
    rw [ht0] at c0 c1 c2 c3 c4 hcols hrules hss
    have HT := Lib.hid ht0
    clear ht0
    have hlen3 := hrules.len
    obtain ⟨k, hk⟩ : ∃ k, rulAt t.rules r.key = k := ⟨_, rfl⟩
    have Cb := Lib.hid (show ∀ w', Aft w1 w' → Calls Try.prog 155 #[.slice B3 t.rules.length capB3, .string r.key, .func (.func 156) #[] #[]] w' fun e w'' => e = .returned (.int .i64 k) ∧ Aft w' w'' from
      fun w' a => (byRul B3 capB3 t.rules r.key w' (ruls_aft a hrules)).mono fun e w'' ⟨he, hw⟩ => ⟨he.trans (by rw [← hk]; rfl), hw⟩)
    clear ht1
    go_wp2_with fail
    refine (Cb.out _ ((Aft.refl w1).alloc _)).mono ?_
    rintro e w2 ⟨rfl, a2⟩
    obtain ⟨hbt, hft, hzt, hzkt, HA2⟩ := aft_box a2
    have HA02 := Lib.hid (HA.out.trans HA2.out)
    have hbr2 : ∀ o, w2.cell? ⟨w.heap.size + 1, o, none⟩ = _ := fun o => (Below.cell HA2.out (p := ⟨w.heap.size + 1, o, none⟩) hz.2).trans (hbr o)
    have hz2 : w.heap.size + 1 < w2.heap.size := Nat.lt_of_lt_of_le hz.2 HA2.out.size
    have hrules2 := ruls_aft HA2.out hrules
    have hcols2 := cols_aft HA2.out hcols
    have h02 := cols_aft HA02.out h
    have hs02 := strs_aft HA02.out h2
    clear a2 Cb hbo hbr c0 c1 c2 c3 c4 hrules hcols
    by_cases hk0 : 0 ≤ k
    · obtain ⟨m, rfl⟩ := Int.eq_ofNat_of_zero_le hk0
      have hml : m < t.rules.length := by have := (idxP_range (fun c => eqS c.name r.key) t.rules).2; unfold rulAt at hk; omega
      have HE := Lib.hid (keyT_some (l := l) hk hml)
      clear hk
      obtain ⟨b3, off3, D2, capD2, rfl, hb3, e0, e1, e2, e3, e4, e5, e6, e7, hcs, hss3⟩ := rul_at hrules2 hml
      obtain ⟨p, hp⟩ : ∃ p, t.rules[m] = p := ⟨_, rfl⟩
      rw [hp] at e0 e1 e2 e3 e4 e5 e6 e7 hcs hss3
      have HP := Lib.hid hp
      clear hp hrules2
      cases hk2 : (p.kind != 2)
      · have HV := Lib.hid (show keyT ts[q] l r = if pairsOk l t.cols r.cols p.cols then 0 else 63 by
          have hk3 : (p.kind == 2) = true := by simpa using hk2
          rw [HT.out, HE.out, HP.out, if_pos hk3])
        clear HE HT HP
        have hlen4 := hcs.len
        go_wp2_with fail
        have q1 : w2.cell? ⟨w.heap.size + 1, 2, none⟩ = some (.slice A2 r.cols.length cap2) := hbr2 2
        have q2 : w2.cell? ⟨w1.heap.size, 3, none⟩ = some (.slice B2 t.cols.length capB2) := hbt 3
        go_region_held3 (fun w' => Aft w2 w' ∧ w'.cell? ⟨w.heap.size + 1, 2, none⟩ = some (.slice A2 r.cols.length cap2) ∧ w'.cell? ⟨w1.heap.size, 3, none⟩ = some (.slice B2 t.cols.length capB2))
          (first | exact ⟨(Aft.refl _).drew, q1, q2⟩ | exact keep_aft (by assumption) (by assumption))
          ((go_at_call 157; refine (kinds_any _ _ _ _ _ _ _ (cols_aft (And.left (by assumption : Aft w2 _ ∧ _)) (by assumption)) (strs_aft (And.left (by assumption : Aft w2 _ ∧ _)) (by assumption))).mono ?_; rintro e w4 ⟨v4, rfl, own4, a4⟩; try have own3 := own_aft (by assumption) a4))
        all_goals
          have HA4 := Lib.hid (HA02.out.trans (And.left (by assumption : Aft w2 w4 ∧ _)))
          have hbr4 : w4.cell? ⟨w.heap.size + 1, 2, none⟩ = some (.slice A2 r.cols.length cap2) := (And.left (by assumption : Aft w2 w4 ∧ _)).cell_some q1
          obtain ⟨G3, cap3, e3, hs3⟩ := own_ints (w := w4) (l := kindsOf l r.cols) (by assumption) (kinds_small hs02.2.1)
          obtain ⟨G4, cap4, e4, hs4⟩ := own_ints (w := w4) (l := kindsOf t.cols p.cols) (by assumption) (kinds_small hcs.2.1)
          subst e3
          subst e4
          have Ce := Lib.hid (eqK_any G3 cap3 (kindsOf l r.cols) G4 cap4 (kindsOf t.cols p.cols) w4 hs3 hs4)
          have HC := Lib.hid (pairsOk_code l t.cols r.cols p.cols)
          have hkl := kindsOf_le t.cols p.cols
          obtain ⟨bq, hbq⟩ : ∃ b, decide (kindsOf l r.cols = kindsOf t.cols p.cols) = b := ⟨_, rfl⟩
          rw [hbq] at Ce HC
          clear own3 own4 a4 hs3 hs4 hbq
          by_cases d1 : p.cols.length = r.cols.length
          · have f1 : ((p.cols.length : Int) != (r.cols.length : Int)) = false := by simp [d1]
            by_cases d2 : (kindsOf t.cols p.cols).length = p.cols.length
            · have f2 : (((kindsOf t.cols p.cols).length : Int) != (p.cols.length : Int)) = false := by simp [d2]
              have HR := Lib.hid (show keyT ts[q] l r = if bq then 0 else 63 by rw [HV.out, HC.out]; simp [d1, d2])
              clear HV HC d1 d2
              cases bq
              all_goals
                go_wp2_with fail
                refine Ce.out.mono ?_
                rintro e w5 ⟨rfl, a5⟩
                have HA5 := Lib.hid (HA4.out.trans a5)
                clear a5
                go_wp2_with fail
                go_ret
                exact ⟨by rw [HR.out]; rfl, HA5.out⟩
            · have f2 : (((kindsOf t.cols p.cols).length : Int) != (p.cols.length : Int)) = true := by simp; omega
              have HR := Lib.hid (show keyT ts[q] l r = 63 by rw [HV.out, HC.out]; simp [d2])
              clear HV HC d1 d2
              go_wp2_with fail
              go_ret
              exact ⟨by rw [HR.out]; rfl, HA4.out⟩
          · have f1 : ((p.cols.length : Int) != (r.cols.length : Int)) = true := by simp; omega
            have HR := Lib.hid (show keyT ts[q] l r = 63 by rw [HV.out, HC.out]; simp [d1])
            clear HV HC d1
            go_wp2_with fail
            go_ret
            exact ⟨by rw [HR.out]; rfl, HA4.out⟩
      · have HV := Lib.hid (show keyT ts[q] l r = 61 by
          have hk3 : ¬ ((p.kind == 2) = true) := by simpa using hk2
          rw [HT.out, HE.out, HP.out, if_neg hk3])
        go_wp2_with fail
        go_ret
        exact ⟨by rw [HV.out]; rfl, HA02.out⟩
    · have hk1 : k < 0 := by omega
      have HE := Lib.hid (keyT_none (l := l) (by rw [hk]; exact hk1) : keyT t l r = 61)
      clear hk
      go_wp2_with fail
      go_ret
      exact ⟨by rw [HT.out, HE.out]; rfl, HA02.out⟩
  · have hi1 : i < 0 := by omega
    have dq : decide (0 ≤ i) = false := decide_eq_false hi0
    have HE := Lib.hid (keyE_none (l := l) (by rw [hi]; exact hi1) : keyE ts l r = 61)
    rw [HE.out]
    clear HE hi
    go_enter Try.func128, Try.ntmps128
    go_wp2_with fail
    refine (Cw.out _ (((Aft.refl w).alloc _).alloc _)).mono ?_
    rintro e w1 ⟨rfl, a1⟩
    have HA := Lib.hid ((((Aft.refl w).alloc _).alloc _).trans a1)
    clear a1
    go_wp2_with fail
    go_ret
    exact ⟨rfl, HA.out⟩
end Go.Proofs.Ytodifdofgjfkiaa
