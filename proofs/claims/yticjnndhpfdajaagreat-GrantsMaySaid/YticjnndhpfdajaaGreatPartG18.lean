/- Contracts of the program, part 18. -/
import Derived.Test.YticjnndhpfdajaaGreatPartG17
import Derived.Deep.RegionHeld3
import Derived.StillTailTactics
import Derived.Deep.DeepMust
/- objects.key. -/
namespace Go.Proofs.YticjnndhpfdajaaGreat
open Go.RowKit
set_option maxRecDepth 100000
set_option linter.unusedVariables false
theorem Small.mono {m n : Nat} (h : Small n) (hm : m ≤ n) : Small m := Nat.le_trans hm h
theorem kinds_small {l : List Col} {cs : List ByteArray} (h : Small (cs.length * 16)) : Small ((kindsOf l cs).length * 16) := h.mono (Nat.mul_le_mul_right _ (kindsOf_le l cs))
theorem keyE_none {ts : List Tab} {l : List Col} {r : Rul} (h : tabAt ts r.schema r.table < 0) : keyE ts l r = 61 := by
  unfold keyE; split <;> simp [h]
theorem keyE_some {ts : List Tab} {l : List Col} {r : Rul} {q : Nat} (h : tabAt ts r.schema r.table = q) (hq : q < ts.length) : keyE ts l r = keyT ts[q] l r := by
  unfold keyE; rw [h]; simp [List.getElem?_eq_getElem hq]; omega
theorem keyT_none {t : Tab} {l : List Col} {r : Rul} (h : rulAt t.rules r.key < 0) : keyT t l r = 61 := by
  unfold keyT; split <;> simp [h]
theorem keyT_some {t : Tab} {l : List Col} {r : Rul} {q : Nat} (h : rulAt t.rules r.key = q) (hq : q < t.rules.length) : keyT t l r = if t.rules[q].kind == 2 then (if pairsOk l t.cols r.cols t.rules[q].cols then 0 else 63) else 61 := by
  have h0 : ¬ ((q : Int) < 0) := by omega
  unfold keyT; rw [h]; simp [List.getElem?_eq_getElem hq, h0]
theorem Aft.cell_some {w w' : World} (h : Aft w w') {a : Addr} {v : Value} (hc : w.cell? a = some v) : w'.cell? a = some v := (Below.cell h (World.block_lt_of_cell? w a hc)).trans hc
theorem keep_aft {W w w' : World} {a b : Addr} {u v : Value} (hS : Aft W w ∧ w.cell? a = some u ∧ w.cell? b = some v) (h : Aft w w') : Aft W w' ∧ w'.cell? a = some u ∧ w'.cell? b = some v :=
  ⟨hS.1.trans h, h.cell_some hS.2.1, h.cell_some hS.2.2⟩
set_option maxHeartbeats 4000000 in
theorem key_any (vs : Value) (At : Option Addr) (capt : Nat) (ts : List Tab) (A : Option Addr) (cap : Nat) (l : List Col) (r : Rul) (A2 : Option Addr) (cap2 : Nat) (w : World) (ht : SlAt w 5 TabR At capt ts) (h : SlAt w 3 ColR A cap l) (h2 : SlAt w 1 StrR A2 cap2 r.cols) :
    Calls Tryz.prog 65 #[.agg #[vs, .slice At ts.length capt], .slice A l.length cap, .agg #[.string r.name, .int .i64 r.kind, .slice A2 r.cols.length cap2, .int .i64 r.low, .int .i64 r.high, .string r.schema, .string r.table, .string r.key]] w
      fun e w' => e = .returned (.int .i64 (keyE ts l r)) ∧ Aft w w' := by
  obtain ⟨i, hi⟩ : ∃ i, tabAt ts r.schema r.table = i := ⟨_, rfl⟩
  have hlen := ht.len
  have hlen2 := h2.len
  have Cw := Lib.hid (show ∀ w', Aft w w' → Calls Tryz.prog 107 #[.agg #[vs, .slice At ts.length capt], .string r.schema, .string r.table] w' fun e w'' => e = .returned (.tuple #[.int .i64 i, .bool (decide (0 ≤ i))]) ∧ Aft w' w'' from
    fun w' a => (where_any vs At capt ts r.schema r.table w' (tabs_aft a ht)).mono fun e w'' ⟨he, hw⟩ => ⟨he.trans (by rw [← hi]), hw⟩)
  by_cases hi0 : 0 ≤ i
  · obtain ⟨q, rfl⟩ := Int.eq_ofNat_of_zero_le hi0
    have hql : q < ts.length := by have := (idxP_range (fun t => eqS t.schema r.schema && eqS t.name r.table) ts).2; unfold tabAt at hi; omega
    have HE := Lib.hid (keyE_some (l := l) hi hql)
    have dq : decide (0 ≤ (q : Int)) = true := decide_eq_true hi0
    rw [HE.out]
    clear HE hi
    go_enter Tryz.func65, Tryz.ntmps65
    go_wp2_with fail
    refine (Cw.out _ (((Aft.refl w).alloc _).alloc _)).mono ?_
    rintro e w1 ⟨rfl, a1⟩
    obtain ⟨hbo, hbr, hz, HA⟩ := aft_box2 a1
    have ht1 := tabs_aft HA.out ht
    clear a1 Cw
    obtain ⟨b, off, B2, capB2, B3, capB3, rfl, hb, c0, c1, c2, c3, c4, hcols, hrules, hss⟩ := tab_at ht1 hql
    obtain ⟨t, ht0⟩ : ∃ t, ts[q] = t := ⟨_, rfl⟩
    rw [ht0] at c0 c1 c2 c3 c4 hcols hrules hss
    have HT := Lib.hid ht0
    clear ht0
    have hlen3 := hrules.len
    obtain ⟨k, hk⟩ : ∃ k, rulAt t.rules r.key = k := ⟨_, rfl⟩
    have Cb := Lib.hid (show ∀ w', Aft w1 w' → Calls Tryz.prog 63 #[.slice B3 t.rules.length capB3, .string r.key, .func (.func 64) #[] #[]] w' fun e w'' => e = .returned (.int .i64 k) ∧ Aft w' w'' from
      fun w' a => (byRul B3 capB3 t.rules r.key w' (ruls_aft a hrules)).mono fun e w'' ⟨he, hw⟩ => ⟨he.trans (by rw [← hk]; rfl), hw⟩)
    clear ht1
    go_wp2_with fail
    refine (Cb.out _ ((Aft.refl w1).alloc _)).mono ?_
    rintro e w2 ⟨rfl, a2⟩
    obtain ⟨hbt, hft, hzt, hzkt, HA2⟩ := aft_box a2
    have HA02 := Lib.hid (HA.out.trans HA2.out)
    have hbr2 : ∀ o, w2.cell? ⟨w.heap.size + 1, o, none⟩ = _ := fun o => (Below.cell HA2.out (p := ⟨w.heap.size + 1, o, none⟩) hz.2).trans (hbr o)
    have hz2 : w.heap.size + 1 < w2.heap.size := Nat.lt_of_lt_of_le hz.2 HA2.out.size
    have hrules2 := ruls_aft HA2.out hrules
    have hcols2 := cols_aft HA2.out hcols
    have h02 := cols_aft HA02.out h
    have hs02 := strs_aft HA02.out h2
    clear a2 Cb hbo hbr c0 c1 c2 c3 c4 hrules hcols
    by_cases hk0 : 0 ≤ k
    · obtain ⟨m, rfl⟩ := Int.eq_ofNat_of_zero_le hk0
      have hml : m < t.rules.length := by have := (idxP_range (fun c => eqS c.name r.key) t.rules).2; unfold rulAt at hk; omega
      have HE := Lib.hid (keyT_some (l := l) hk hml)
      clear hk
      obtain ⟨b3, off3, D2, capD2, rfl, hb3, e0, e1, e2, e3, e4, e5, e6, e7, hcs, hss3⟩ := rul_at hrules2 hml
      obtain ⟨p, hp⟩ : ∃ p, t.rules[m] = p := ⟨_, rfl⟩
      rw [hp] at e0 e1 e2 e3 e4 e5 e6 e7 hcs hss3
      have HP := Lib.hid hp
      clear hp hrules2
      cases hk2 : (p.kind != 2)
      · have HV := Lib.hid (show keyT ts[q] l r = if pairsOk l t.cols r.cols p.cols then 0 else 63 by
          have hk3 : (p.kind == 2) = true := by simpa using hk2
          rw [HT.out, HE.out, HP.out, if_pos hk3])
        clear HE HT HP
        have hlen4 := hcs.len
        go_wp2_with fail
        have q1 : w2.cell? ⟨w.heap.size + 1, 2, none⟩ = some (.slice A2 r.cols.length cap2) := hbr2 2
        have q2 : w2.cell? ⟨w1.heap.size, 3, none⟩ = some (.slice B2 t.cols.length capB2) := hbt 3
        go_region_held3 (fun w' => Aft w2 w' ∧ w'.cell? ⟨w.heap.size + 1, 2, none⟩ = some (.slice A2 r.cols.length cap2) ∧ w'.cell? ⟨w1.heap.size, 3, none⟩ = some (.slice B2 t.cols.length capB2))
          (first | exact ⟨(Aft.refl _).drew, q1, q2⟩ | exact keep_aft (by assumption) (by assumption))
          ((go_at_call 145; refine (kinds_any _ _ _ _ _ _ _ (cols_aft (And.left (by assumption : Aft w2 _ ∧ _)) (by assumption)) (strs_aft (And.left (by assumption : Aft w2 _ ∧ _)) (by assumption))).mono ?_; rintro e w4 ⟨v4, rfl, own4, a4⟩; try have own3 := own_aft (by assumption) a4))
        all_goals
          have HA4 := Lib.hid (HA02.out.trans (And.left (by assumption : Aft w2 w4 ∧ _)))
          have hbr4 : w4.cell? ⟨w.heap.size + 1, 2, none⟩ = some (.slice A2 r.cols.length cap2) := (And.left (by assumption : Aft w2 w4 ∧ _)).cell_some q1
          obtain ⟨G3, cap3, e3, hs3⟩ := own_ints (w := w4) (l := kindsOf l r.cols) (by assumption) (kinds_small hs02.2.1)
          obtain ⟨G4, cap4, e4, hs4⟩ := own_ints (w := w4) (l := kindsOf t.cols p.cols) (by assumption) (kinds_small hcs.2.1)
          subst e3
          subst e4
          have Ce := Lib.hid (eqK_any G3 cap3 (kindsOf l r.cols) G4 cap4 (kindsOf t.cols p.cols) w4 hs3 hs4)
          have HC := Lib.hid (pairsOk_code l t.cols r.cols p.cols)
          have hkl := kindsOf_le t.cols p.cols
          obtain ⟨bq, hbq⟩ : ∃ b, decide (kindsOf l r.cols = kindsOf t.cols p.cols) = b := ⟨_, rfl⟩
          rw [hbq] at Ce HC
          clear own3 own4 a4 hs3 hs4 hbq
          by_cases d1 : p.cols.length = r.cols.length
          · have f1 : ((p.cols.length : Int) != (r.cols.length : Int)) = false := by simp [d1]
            by_cases d2 : (kindsOf t.cols p.cols).length = p.cols.length
            · have f2 : (((kindsOf t.cols p.cols).length : Int) != (p.cols.length : Int)) = false := by simp [d2]
              have HR := Lib.hid (show keyT ts[q] l r = if bq then 0 else 63 by rw [HV.out, HC.out]; simp [d1, d2])
              clear HV HC d1 d2
              cases bq
              all_goals
                go_wp2_with fail
                refine Ce.out.mono ?_
                rintro e w5 ⟨rfl, a5⟩
                have HA5 := Lib.hid (HA4.out.trans a5)
                clear a5
                go_wp2_with fail
                go_ret
                exact ⟨by rw [HR.out]; rfl, HA5.out⟩
            · have f2 : (((kindsOf t.cols p.cols).length : Int) != (p.cols.length : Int)) = true := by simp; omega
              have HR := Lib.hid (show keyT ts[q] l r = 63 by rw [HV.out, HC.out]; simp [d2])
              clear HV HC d1 d2
              go_wp2_with fail
              go_ret
              exact ⟨by rw [HR.out]; rfl, HA4.out⟩
          · have f1 : ((p.cols.length : Int) != (r.cols.length : Int)) = true := by simp; omega
            have HR := Lib.hid (show keyT ts[q] l r = 63 by rw [HV.out, HC.out]; simp [d1])
            clear HV HC d1
            go_wp2_with fail
            go_ret
            exact ⟨by rw [HR.out]; rfl, HA4.out⟩
      · have HV := Lib.hid (show keyT ts[q] l r = 61 by
          have hk3 : ¬ ((p.kind == 2) = true) := by simpa using hk2
          rw [HT.out, HE.out, HP.out, if_neg hk3])
        go_wp2_with fail
        go_ret
        exact ⟨by rw [HV.out]; rfl, HA02.out⟩
    · have hk1 : k < 0 := by omega
      have HE := Lib.hid (keyT_none (l := l) (by rw [hk]; exact hk1) : keyT t l r = 61)
      clear hk
      go_wp2_with fail
      go_ret
      exact ⟨by rw [HT.out, HE.out]; rfl, HA02.out⟩
  · have hi1 : i < 0 := by omega
    have dq : decide (0 ≤ i) = false := decide_eq_false hi0
    have HE := Lib.hid (keyE_none (l := l) (by rw [hi]; exact hi1) : keyE ts l r = 61)
    rw [HE.out]
    clear HE hi
    go_enter Tryz.func65, Tryz.ntmps65
    go_wp2_with fail
    refine (Cw.out _ (((Aft.refl w).alloc _).alloc _)).mono ?_
    rintro e w1 ⟨rfl, a1⟩
    have HA := Lib.hid ((((Aft.refl w).alloc _).alloc _).trans a1)
    clear a1
    go_wp2_with fail
    go_ret
    exact ⟨rfl, HA.out⟩
end Go.Proofs.YticjnndhpfdajaaGreat
/- objects.right, and the orders by name. -/
namespace Go.Proofs.YticjnndhpfdajaaGreat
open Go.RowKit
set_option maxRecDepth 100000
set_option linter.unusedVariables false
set_option maxHeartbeats 1000000 in
theorem right1_any (n1 : ByteArray) (k1 : Int) (A1 : Option Addr) (m1 c1 : Nat) (lo1 hi1 : Int) (s1 t1 y1 : ByteArray) (n2 : ByteArray) (k2 : Int) (A2 : Option Addr) (m2 c2 : Nat) (lo2 hi2 : Int) (s2 t2 y2 : ByteArray) (w : World) :
    Calls Tryz.prog 165 #[.agg #[.string n1, .int .i64 k1, .slice A1 m1 c1, .int .i64 lo1, .int .i64 hi1, .string s1, .string t1, .string y1], .agg #[.string n2, .int .i64 k2, .slice A2 m2 c2, .int .i64 lo2, .int .i64 hi2, .string s2, .string t2, .string y2]] w fun e w' => e = .returned (.int .i64 (cmpS n1 n2)) ∧ Aft w w' := by
  go_enter Tryz.func165, Tryz.ntmps165
  go_wp2_with fail
  refine (compare_any _ _ _).mono ?_
  rintro e w1 ⟨rfl, rfl⟩
  go_wp2_with fail
  go_ret
  exact ⟨rfl, ((Aft.refl w).alloc _).alloc _⟩
set_option maxHeartbeats 1000000 in
theorem check1_any (n1 o1 n2 o2 : ByteArray) (w : World) :
    Calls Tryz.prog 104 #[.agg #[.string n1, .string o1], .agg #[.string n2, .string o2]] w fun e w' => e = .returned (.int .i64 (cmpS n1 n2)) ∧ Aft w w' := by
  go_enter Tryz.func104, Tryz.ntmps104
  go_wp2_with fail
  refine (compare_any _ _ _).mono ?_
  rintro e w1 ⟨rfl, rfl⟩
  go_wp2_with fail
  go_ret
  exact ⟨rfl, ((Aft.refl w).alloc _).alloc _⟩
theorem rulesRise (A : Option Addr) (cap : Nat) (l : List Rul) (w : World) (h : SlAt w 8 RulR A cap l) :
    Calls Tryz.prog 164 #[.slice A l.length cap, .func (.func 165) #[] #[]] w fun e w' => e = .returned (.bool (risesB (fun a b => cmpS a.name b.name) l)) ∧ Aft w w' :=
  risesRul A cap l 165 #[] (fun a b => cmpS a.name b.name) w h (enters (P := Tryz.prog) Tryz.func165 (by kernel_rfl) rfl) fun w' ha i hi e1 e2 h1 h2 => by
    obtain ⟨A1, c1, rfl, _⟩ := h1
    obtain ⟨A2, c2, rfl, _⟩ := h2
    exact right1_any _ _ _ _ _ _ _ _ _ _ _ _ _ _ _ _ _ _ _ _ w'
theorem schsRise (A : Option Addr) (cap : Nat) (l : List Sch) (w : World) (h : SlAt w 2 SchR A cap l) :
    Calls Tryz.prog 103 #[.slice A l.length cap, .func (.func 104) #[] #[]] w fun e w' => e = .returned (.bool (risesB (fun a b => cmpS a.name b.name) l)) ∧ Aft w w' :=
  risesSch A cap l 104 #[] (fun a b => cmpS a.name b.name) w h (enters (P := Tryz.prog) Tryz.func104 (by kernel_rfl) rfl) fun w' ha i hi => check1_any _ _ _ _ w'
theorem tabsRise (A : Option Addr) (cap : Nat) (l : List Tab) (w : World) (h : SlAt w 5 TabR A cap l) :
    Calls Tryz.prog 101 #[.slice A l.length cap, .func (.func 102) #[] #[]] w fun e w' => e = .returned (.bool (risesB (fun a b => or2 (cmpS a.schema b.schema) (cmpS a.name b.name)) l)) ∧ Aft w w' :=
  risesTab A cap l 102 #[] (fun a b => or2 (cmpS a.schema b.schema) (cmpS a.name b.name)) w h (enters (P := Tryz.prog) Tryz.func102 (by kernel_rfl) rfl) fun w' ha i hi e1 e2 h1 h2 => by
    obtain ⟨A1, c1, B1, d1, rfl, _⟩ := h1
    obtain ⟨A2, c2, B2, d2, rfl, _⟩ := h2
    exact order_any _ _ _ _ _ _ _ _ _ _ w'
set_option maxHeartbeats 8000000 in
theorem right_any (o : Objs) (t : Tab) (As : Option Addr) (caps : Nat) (At : Option Addr) (capt : Nat) (A : Option Addr) (cap : Nat) (A2 : Option Addr) (cap2 : Nat) (w : World) (hsch : SlAt w 2 SchR As caps o.schemas) (htab : SlAt w 5 TabR At capt o.tables)
    (h : SlAt w 3 ColR A cap t.cols) (h2 : SlAt w 8 RulR A2 cap2 t.rules) (hn : Small t.name.size) (ho : Small t.owner.size) :
    Calls Tryz.prog 105 #[.agg #[.slice As o.schemas.length caps, .slice At o.tables.length capt], .agg #[.string t.schema, .string t.name, .string t.owner, .slice A t.cols.length cap, .slice A2 t.rules.length cap2]] w
      fun e w' => e = .returned (.bool (rightT o t)) ∧ Aft w w' := by
  have hlen2 := h2.len
  cases hN : nameB t.name
  · have HF := Lib.hid (show rightT o t = false by simp [rightT, hN])
    go_enter Tryz.func105, Tryz.ntmps105
    go_wp2_with (go_at_call 87; refine (name_any _ _ (by first | exact hn.max | exact ho.max)).mono ?_; rintro e w' ⟨rfl, rfl⟩)
    go_ret
    exact ⟨by rw [HF.out]; rfl, ((Aft.refl _).alloc _).alloc _⟩
  cases hO : nameB t.owner
  · have HF := Lib.hid (show rightT o t = false by simp [rightT, hO])
    go_enter Tryz.func105, Tryz.ntmps105
    go_wp2_with (go_at_call 87; refine (name_any _ _ (by first | exact hn.max | exact ho.max)).mono ?_; rintro e w' ⟨rfl, rfl⟩)
    go_ret
    exact ⟨by rw [HF.out]; rfl, ((Aft.refl _).alloc _).alloc _⟩
  have HR0 := Lib.hid (show rightT o t = (colsOk t.cols && decide (t.rules.length ≤ 8) && decide (0 ≤ schAt o.schemas t.schema) && (t.rules.all (ruleOk o.tables t.cols) && risesB (fun a b => cmpS a.name b.name) t.rules)) by simp [rightT, hN, hO])
  obtain ⟨m, hm⟩ : ∃ m, colsOk t.cols = m := ⟨_, rfl⟩
  rw [hm] at HR0
  have Cm := Lib.hid (show ∀ w', Aft w w' → Calls Tryz.prog 110 #[.slice A t.cols.length cap] w' fun e w'' => e = .returned (.bool m) ∧ Aft w' w'' from
    fun w' a => (mayCols_any A cap t.cols w' (cols_aft a h)).mono fun e w'' ⟨he, hw⟩ => ⟨he.trans (by rw [← hm]), hw⟩)
  clear hm
  go_enter Tryz.func105, Tryz.ntmps105
  go_wp2_with (go_at_call 87; refine (name_any _ _ (by first | exact hn.max | exact ho.max)).mono ?_; rintro e w' ⟨rfl, rfl⟩)
  refine (Cm.out _ (((Aft.refl w).alloc _).alloc _)).mono ?_
  rintro e w1 ⟨rfl, a1⟩
  obtain ⟨hbo, hbt, hz, HA⟩ := aft_box2 a1
  have HAB := Lib.hid a1
  clear a1 Cm
  cases m
  · have HF := Lib.hid (show rightT o t = false by rw [HR0.out]; rfl)
    go_wp2_with fail
    go_ret
    exact ⟨by rw [HF.out]; rfl, HA.out⟩
  by_cases h8 : 8 < t.rules.length
  · have HF := Lib.hid (show rightT o t = false by rw [HR0.out, decide_eq_false (by omega)]; rfl)
    have h8' : (8 : Int) < (t.rules.length : Int) := by omega
    go_wp2_with fail
    go_ret
    exact ⟨by rw [HF.out]; rfl, HA.out⟩
  have h8' : (t.rules.length : Int) ≤ 8 := by omega
  have d8 : decide ((8 : Int) < (t.rules.length : Int)) = false := decide_eq_false (by omega)
  have HR1 := Lib.hid (show rightT o t = (decide (0 ≤ schAt o.schemas t.schema) && (t.rules.all (ruleOk o.tables t.cols) && risesB (fun a b => cmpS a.name b.name) t.rules)) by rw [HR0.out, decide_eq_true (show t.rules.length ≤ 8 by omega)]; rfl)
  clear HR0
  obtain ⟨i, hi⟩ : ∃ i, schAt o.schemas t.schema = i := ⟨_, rfl⟩
  rw [hi] at HR1
  have Cs := Lib.hid (show ∀ w', Aft w w' → Calls Tryz.prog 88 #[.slice As o.schemas.length caps, .string t.schema, .func (.func 89) #[] #[]] w' fun e w'' => e = .returned (.int .i64 i) ∧ Aft w' w'' from
    fun w' a => (bySch As caps o.schemas t.schema w' (schs_aft a hsch)).mono fun e w'' ⟨he, hw⟩ => ⟨he.trans (by rw [← hi]; rfl), hw⟩)
  clear hi
  go_wp2_with fail
  refine (Cs.out _ HA.out).mono ?_
  rintro e w2 ⟨rfl, a2⟩
  have HAB2 := Lib.hid (HAB.out.trans a2)
  clear a2 Cs HA HAB hbo hbt hz
  obtain ⟨hbo, hbt, hz, HA⟩ := aft_box2 HAB2.out
  by_cases hi0 : i < 0
  · have HF := Lib.hid (show rightT o t = false by rw [HR1.out, decide_eq_false (by omega)]; rfl)
    go_wp2_with fail
    go_ret
    exact ⟨by rw [HF.out]; rfl, HA.out⟩
  have hi1 : 0 ≤ i := by omega
  have HR2 := Lib.hid (show rightT o t = (t.rules.all (ruleOk o.tables t.cols) && risesB (fun a b => cmpS a.name b.name) t.rules) by rw [HR1.out, decide_eq_true hi1]; rfl)
  clear HR1
  go_wp2_with fail
  go_loopw [40] (fun i wr => ∃ k : Nat, k ≤ t.rules.length ∧ i = .int .i64 k ∧ Aft ((w.alloc (.cells #[.slice As o.schemas.length caps, .slice At o.tables.length capt] 25)).alloc (.cells #[.string t.schema, .string t.name, .string t.owner, .slice A t.cols.length cap, .slice A2 t.rules.length cap2] 50)) wr ∧ ∀ j, j < k → ∀ (hj : j < t.rules.length), ruleOk o.tables t.cols t.rules[j] = true) (fun i _ => t.rules.length - (intOf i).toNat)
  case atStart => exact ⟨0, Nat.zero_le _, rfl, HAB2.out, fun j hj => absurd hj (Nat.not_lt_zero j)⟩
  case round =>
    clear hbo hbt hz HA HAB2
    obtain ⟨k, hk, rfl, ha, hp⟩ := hrel
    obtain ⟨hbo, hbt, hz, HA⟩ := aft_box2 ha
    have HAB := Lib.hid ha
    have HP := Lib.hid hp; clear hp ha
    by_cases hlt : k < t.rules.length
    · have hr := ruls_aft HA.out h2
      obtain ⟨b, off, D2, capD2, rfl, hb, c0, c1, c2, c3, c4, c5, c6, c7, hcs, s0, s1, s2, s3⟩ := rul_at hr hlt
      obtain ⟨p, hpp⟩ : ∃ p, t.rules[k] = p := ⟨_, rfl⟩
      rw [hpp] at c0 c1 c2 c3 c4 c5 c6 c7 hcs s0 s1 s2 s3
      have HPP := Lib.hid hpp
      obtain ⟨f, hf⟩ : ∃ f, fitsOk t.cols p = f := ⟨_, rfl⟩
      obtain ⟨z, hz'⟩ : ∃ z, keyE o.tables t.cols p = z := ⟨_, rfl⟩
      have HO := Lib.hid (show ruleOk o.tables t.cols t.rules[k] = (f && !(p.kind == 4 && z != 0)) by rw [hpp]; unfold ruleOk; rw [hf, hz'])
      have Cf := Lib.hid (show ∀ w', Aft wr w' → Calls Tryz.prog 62 #[.slice A t.cols.length cap, .agg #[.string p.name, .int .i64 p.kind, .slice D2 p.cols.length capD2, .int .i64 p.low, .int .i64 p.high, .string p.schema, .string p.table, .string p.key]] w' fun e w'' => e = .returned (.bool f) ∧ Aft w' w'' from
        fun w' a => (fits_any A cap t.cols p D2 capD2 w' (cols_aft (HA.out.trans a) h) (strs_aft a hcs) s0 s1 s2 s3).mono fun e w'' ⟨he, hw⟩ => ⟨he.trans (by rw [← hf]), hw⟩)
      have Ck := Lib.hid (show ∀ w', Aft wr w' → Calls Tryz.prog 65 #[.agg #[.slice As o.schemas.length caps, .slice At o.tables.length capt], .slice A t.cols.length cap, .agg #[.string p.name, .int .i64 p.kind, .slice D2 p.cols.length capD2, .int .i64 p.low, .int .i64 p.high, .string p.schema, .string p.table, .string p.key]] w' fun e w'' => e = .returned (.int .i64 z) ∧ Aft w' w'' from
        fun w' a => (key_any _ At capt o.tables A cap t.cols p D2 capD2 w' (tabs_aft (HA.out.trans a) htab) (cols_aft (HA.out.trans a) h) (strs_aft a hcs)).mono fun e w'' ⟨he, hw⟩ => ⟨he.trans (by rw [← hz']), hw⟩)
      clear hf hz' hpp hr hcs HPP
      go_wp2_with fail
      refine (Cf.out _ ((Aft.refl wr).alloc _)).mono ?_
      rintro e w3 ⟨rfl, a3⟩
      obtain ⟨hbr, hfr, hzr, hzkr, HA3⟩ := aft_box a3
      have hbo3 : ∀ o', w3.cell? ⟨w.heap.size, o', none⟩ = _ := fun o' => (Below.cell HA3.out (p := ⟨w.heap.size, o', none⟩) hz.1).trans (hbo o')
      have hbt3 : ∀ o', w3.cell? ⟨w.heap.size + 1, o', none⟩ = _ := fun o' => (Below.cell HA3.out (p := ⟨w.heap.size + 1, o', none⟩) hz.2).trans (hbt o')
      have hz3 : w.heap.size < w3.heap.size ∧ w.heap.size + 1 < w3.heap.size := ⟨Nat.lt_of_lt_of_le hz.1 HA3.out.size, Nat.lt_of_lt_of_le hz.2 HA3.out.size⟩
      clear a3 Cf hbo hbt c0 c1 c2 c3 c4 c5 c6 c7
      cases f
      · have HF := Lib.hid (show rightT o t = false by rw [HR2.out, all_false _ _ k hlt (by rw [HO.out]; rfl)]; rfl)
        go_wp2_with fail
        go_ret
        exact ⟨by rw [HF.out]; rfl, HA.out.trans HA3.out⟩
      cases h4 : (p.kind == 4)
      · have HN := Lib.hid (ext_lt (p := fun j => ∀ (hj : j < t.rules.length), ruleOk o.tables t.cols t.rules[j] = true) HP.out (fun _ => by rw [HO.out, h4]; rfl))
        go_wp2_with fail
        go_roundw
        case rel => exact ⟨k + 1, by omega, by go_num, HAB.out.trans HA3.out, HN.out⟩
        case measure => simp [intOf]; omega
      · go_wp2_with fail
        refine (Ck.out _ HA3.out).mono ?_
        rintro e w4 ⟨rfl, a4⟩
        have HA4 := Lib.hid (HA3.out.trans a4)
        clear a4 Ck hbo3 hbt3 hbr
        cases z0 : (z != 0)
        · have HN := Lib.hid (ext_lt (p := fun j => ∀ (hj : j < t.rules.length), ruleOk o.tables t.cols t.rules[j] = true) HP.out (fun _ => by rw [HO.out, h4, z0]; rfl))
          go_wp2_with fail
          go_roundw
          case rel => exact ⟨k + 1, by omega, by go_num, HAB.out.trans HA4.out, HN.out⟩
          case measure => simp [intOf]; omega
        · have HF := Lib.hid (show rightT o t = false by rw [HR2.out, all_false _ _ k hlt (by rw [HO.out, h4, z0]; rfl)]; rfl)
          go_wp2_with fail
          go_ret
          exact ⟨by rw [HF.out]; rfl, HA.out.trans HA4.out⟩
    · have HF := Lib.hid (show rightT o t = risesB (fun a b => cmpS a.name b.name) t.rules by rw [HR2.out, all_true _ _ fun j hj => HP.out j (by omega) hj]; rfl)
      have Cr := Lib.hid (rulesRise A2 cap2 t.rules wr (ruls_aft HA.out h2))
      go_wp2_with fail
      refine Cr.out.mono ?_
      rintro e w3 ⟨rfl, a3⟩
      have HA3 := Lib.hid (HA.out.trans a3)
      clear a3
      go_wp2_with fail
      go_ret
      exact ⟨by rw [HF.out]; rfl, HA3.out⟩
end Go.Proofs.YticjnndhpfdajaaGreat
/- objects.Check. -/
namespace Go.Proofs.YticjnndhpfdajaaGreat
open Go.RowKit
set_option maxRecDepth 100000
set_option linter.unusedVariables false
def checkE (o : Objs) : Int := if checkO o then 0 else 63
set_option maxHeartbeats 8000000 in
theorem check_any (o : Objs) (As : Option Addr) (caps : Nat) (At : Option Addr) (capt : Nat) (w : World) (hsch : SlAt w 2 SchR As caps o.schemas) (htab : SlAt w 5 TabR At capt o.tables) :
    Calls Tryz.prog 29 #[.agg #[.slice As o.schemas.length caps, .slice At o.tables.length capt]] w
      fun e w' => e = .returned (.int .i64 (checkE o)) ∧ Aft w w' := by
  have hlen := hsch.len
  have hlen2 := htab.len
  by_cases d1 : 8 < o.schemas.length
  · have HF := Lib.hid (show checkE o = 63 by simp [checkE, checkO, headOk, show ¬ o.schemas.length ≤ 8 by omega])
    have e1 : ¬ ((o.schemas.length : Int) ≤ 8) := by omega
    have e1' : decide ((o.schemas.length : Int) ≤ 8) = false := decide_eq_false e1
    go_enter Tryz.func29, Tryz.ntmps29
    go_wp2_with fail
    go_loopw [3, 4] (fun ok i wr => ok = .bool false ∧ i = .int .i64 0 ∧ Aft (w.alloc (.cells #[.slice As o.schemas.length caps, .slice At o.tables.length capt] 25)) wr) (fun _ _ _ => 0)
    case atStart => exact ⟨rfl, rfl, Aft.refl _⟩
    case round =>
      obtain ⟨rfl, rfl, ha⟩ := hrel
      have HAX := Lib.hid ha
      clear ha
      go_wp2_with fail
      go_loopw [3, 6] (fun ok i wr => ok = .bool false ∧ i = .int .i64 0 ∧ Aft (w.alloc (.cells #[.slice As o.schemas.length caps, .slice At o.tables.length capt] 25)) wr) (fun _ _ _ => 0)
      case atStart => exact ⟨rfl, rfl, HAX.out⟩
      case round =>
        obtain ⟨rfl, rfl, ha⟩ := hrel
        have HAY := Lib.hid ha
        clear ha
        go_wp2_with fail
        go_ret
        exact ⟨by rw [HF.out]; rfl, ((Aft.refl w).alloc _).trans HAY.out⟩
  have e1 : (o.schemas.length : Int) ≤ 8 := by omega
  have e1' : decide ((o.schemas.length : Int) ≤ 8) = true := decide_eq_true e1
  by_cases d2 : 64 < o.tables.length
  · have HF := Lib.hid (show checkE o = 63 by simp [checkE, checkO, headOk, show ¬ o.tables.length ≤ 64 by omega])
    have e2 : ¬ ((o.tables.length : Int) ≤ 64) := by omega
    have e2' : decide ((o.tables.length : Int) ≤ 64) = false := decide_eq_false e2
    go_enter Tryz.func29, Tryz.ntmps29
    go_wp2_with fail
    go_loopw [3, 4] (fun ok i wr => ok = .bool false ∧ i = .int .i64 0 ∧ Aft (w.alloc (.cells #[.slice As o.schemas.length caps, .slice At o.tables.length capt] 25)) wr) (fun _ _ _ => 0)
    case atStart => exact ⟨rfl, rfl, Aft.refl _⟩
    case round =>
      obtain ⟨rfl, rfl, ha⟩ := hrel
      have HAX := Lib.hid ha
      clear ha
      go_wp2_with fail
      go_loopw [3, 6] (fun ok i wr => ok = .bool false ∧ i = .int .i64 0 ∧ Aft (w.alloc (.cells #[.slice As o.schemas.length caps, .slice At o.tables.length capt] 25)) wr) (fun _ _ _ => 0)
      case atStart => exact ⟨rfl, rfl, HAX.out⟩
      case round =>
        obtain ⟨rfl, rfl, ha⟩ := hrel
        have HAY := Lib.hid ha
        clear ha
        go_wp2_with fail
        go_ret
        exact ⟨by rw [HF.out]; rfl, ((Aft.refl w).alloc _).trans HAY.out⟩
  have e2 : (o.tables.length : Int) ≤ 64 := by omega
  have e2' : decide ((o.tables.length : Int) ≤ 64) = true := decide_eq_true e2
  obtain ⟨g1, hg1⟩ : ∃ g, risesB (fun a b => or2 (cmpS a.schema b.schema) (cmpS a.name b.name)) o.tables = g := ⟨_, rfl⟩
  obtain ⟨g2, hg2⟩ : ∃ g, risesB (fun a b => cmpS a.name b.name) o.schemas = g := ⟨_, rfl⟩
  have HR := Lib.hid (show checkE o = if (g1 && g2 && (o.schemas.all (schOk o) && o.tables.all (rightT o))) then 0 else 63 by simp [checkE, checkO, headOk, hg1, hg2, show o.schemas.length ≤ 8 by omega, show o.tables.length ≤ 64 by omega])
  have C1 := Lib.hid (show ∀ w', Aft w w' → Calls Tryz.prog 101 #[.slice At o.tables.length capt, .func (.func 102) #[] #[]] w' fun e w'' => e = .returned (.bool g1) ∧ Aft w' w'' from
    fun w' a => (tabsRise At capt o.tables w' (tabs_aft a htab)).mono fun e w'' ⟨he, hw⟩ => ⟨he.trans (by rw [← hg1]), hw⟩)
  have C2 := Lib.hid (show ∀ w', Aft w w' → Calls Tryz.prog 103 #[.slice As o.schemas.length caps, .func (.func 104) #[] #[]] w' fun e w'' => e = .returned (.bool g2) ∧ Aft w' w'' from
    fun w' a => (schsRise As caps o.schemas w' (schs_aft a hsch)).mono fun e w'' ⟨he, hw⟩ => ⟨he.trans (by rw [← hg2]), hw⟩)
  clear hg1 hg2
  go_enter Tryz.func29, Tryz.ntmps29
  go_wp2_with fail
  refine (C1.out _ ((Aft.refl w).alloc _)).mono ?_
  rintro e w1 ⟨rfl, a1⟩
  obtain ⟨hbox, hfr, hz, hzk, HA⟩ := aft_box a1
  have HAB := Lib.hid a1
  clear a1 C1
  cases g1
  · have HF := Lib.hid (show checkE o = 63 by rw [HR.out]; rfl)
    go_wp2_with fail
    go_loopw [3, 4] (fun ok i wr => ok = .bool false ∧ i = .int .i64 0 ∧ Aft (w.alloc (.cells #[.slice As o.schemas.length caps, .slice At o.tables.length capt] 25)) wr) (fun _ _ _ => 0)
    case atStart => exact ⟨rfl, rfl, HAB.out⟩
    case round =>
      obtain ⟨rfl, rfl, ha⟩ := hrel
      have HAX := Lib.hid ha
      clear ha
      go_wp2_with fail
      go_loopw [3, 6] (fun ok i wr => ok = .bool false ∧ i = .int .i64 0 ∧ Aft (w.alloc (.cells #[.slice As o.schemas.length caps, .slice At o.tables.length capt] 25)) wr) (fun _ _ _ => 0)
      case atStart => exact ⟨rfl, rfl, HAX.out⟩
      case round =>
        obtain ⟨rfl, rfl, ha⟩ := hrel
        have HAY := Lib.hid ha
        clear ha
        go_wp2_with fail
        go_ret
        exact ⟨by rw [HF.out]; rfl, ((Aft.refl w).alloc _).trans HAY.out⟩
  go_wp2_with fail
  refine (C2.out _ HA.out).mono ?_
  rintro e w2 ⟨rfl, a2⟩
  have HAB2 := Lib.hid (HAB.out.trans a2)
  clear a2 C2 HAB HA hbox hfr hz hzk
  obtain ⟨hbox, hfr, hz, hzk, HA⟩ := aft_box HAB2.out
  cases g2
  · have HF := Lib.hid (show checkE o = 63 by rw [HR.out]; rfl)
    go_wp2_with fail
    go_loopw [3, 4] (fun ok i wr => ok = .bool false ∧ i = .int .i64 0 ∧ Aft (w.alloc (.cells #[.slice As o.schemas.length caps, .slice At o.tables.length capt] 25)) wr) (fun _ _ _ => 0)
    case atStart => exact ⟨rfl, rfl, HAB2.out⟩
    case round =>
      obtain ⟨rfl, rfl, ha⟩ := hrel
      have HAX := Lib.hid ha
      clear ha
      go_wp2_with fail
      go_loopw [3, 6] (fun ok i wr => ok = .bool false ∧ i = .int .i64 0 ∧ Aft (w.alloc (.cells #[.slice As o.schemas.length caps, .slice At o.tables.length capt] 25)) wr) (fun _ _ _ => 0)
      case atStart => exact ⟨rfl, rfl, HAX.out⟩
      case round =>
        obtain ⟨rfl, rfl, ha⟩ := hrel
        have HAY := Lib.hid ha
        clear ha
        go_wp2_with fail
        go_ret
        exact ⟨by rw [HF.out]; rfl, ((Aft.refl w).alloc _).trans HAY.out⟩
  have HR2 := Lib.hid (show checkE o = if (o.schemas.all (schOk o) && o.tables.all (rightT o)) then 0 else 63 by rw [HR.out]; rfl)
  clear HR
  go_wp2_with fail
  go_loopw [3, 4] (fun ok i wr => ∃ (k : Nat) (b : Bool), k ≤ o.schemas.length ∧ i = .int .i64 k ∧ ok = .bool b ∧ Aft (w.alloc (.cells #[.slice As o.schemas.length caps, .slice At o.tables.length capt] 25)) wr ∧ (b = true → ∀ j, j < k → ∀ (hj : j < o.schemas.length), schOk o o.schemas[j] = true) ∧ (b = false → checkE o = 63)) (fun ok i _ => o.schemas.length - (intOf i).toNat)
  case atStart => exact ⟨0, true, Nat.zero_le _, rfl, rfl, HAB2.out, fun _ j hj => absurd hj (Nat.not_lt_zero j), fun h => by cases h⟩
  case round =>
    clear hbox hfr hz hzk HA HAB2
    obtain ⟨k, b, hk, rfl, rfl, ha, hp, hq⟩ := hrel
    obtain ⟨hbox, hfr, hz, hzk, HA⟩ := aft_box ha
    have HAB := Lib.hid ha
    clear ha
    cases b
    · have HF := Lib.hid (hq rfl)
      clear hp hq
      go_wp2_with fail
      go_loopw [3, 6] (fun ok i wr => ok = .bool false ∧ i = .int .i64 0 ∧ Aft (w.alloc (.cells #[.slice As o.schemas.length caps, .slice At o.tables.length capt] 25)) wr) (fun _ _ _ => 0)
      case atStart => exact ⟨rfl, rfl, HAB.out⟩
      case round =>
        obtain ⟨rfl, rfl, ha⟩ := hrel
        have HAY := Lib.hid ha
        clear ha
        go_wp2_with fail
        go_ret
        exact ⟨by rw [HF.out]; rfl, ((Aft.refl w).alloc _).trans HAY.out⟩
    have HP := Lib.hid (hp rfl)
    clear hp hq
    by_cases hlt : k < o.schemas.length
    · have hss := schs_aft HA.out hsch
      obtain ⟨b, off, rfl, hb, c0, c1, s0, s1⟩ := sch_at hss hlt
      obtain ⟨p, hpp⟩ : ∃ p, o.schemas[k] = p := ⟨_, rfl⟩
      rw [hpp] at c0 c1 s0 s1
      have HO := Lib.hid (show schOk o o.schemas[k] = (nameB p.name && nameB p.owner && decide (within o.tables p.name ≤ 8)) by rw [hpp]; rfl)
      clear hpp hss
      cases hN : nameB p.name
      · have HF := Lib.hid (show checkE o = 63 by rw [HR2.out, all_false _ _ k hlt (by rw [HO.out, hN]; rfl)]; rfl)
        go_wp2_with (go_at_call 87; refine (name_any _ _ (by first | exact s0.max | exact s1.max)).mono ?_; rintro e w' ⟨rfl, rfl⟩)
        go_roundw
        case rel => exact ⟨k + 1, false, by omega, by go_num, rfl, HAB.out.alloc _, (fun h => by cases h), fun _ => HF.out⟩
        case measure => simp [intOf]; omega
      cases hO : nameB p.owner
      · have HF := Lib.hid (show checkE o = 63 by rw [HR2.out, all_false _ _ k hlt (by rw [HO.out, hN, hO]; rfl)]; rfl)
        go_wp2_with (go_at_call 87; refine (name_any _ _ (by first | exact s0.max | exact s1.max)).mono ?_; rintro e w' ⟨rfl, rfl⟩)
        go_roundw
        case rel => exact ⟨k + 1, false, by omega, by go_num, rfl, HAB.out.alloc _, (fun h => by cases h), fun _ => HF.out⟩
        case measure => simp [intOf]; omega
      obtain ⟨n, hn⟩ : ∃ n, within o.tables p.name = n := ⟨_, rfl⟩
      have Cw := Lib.hid (show ∀ w', Aft w w' → Calls Tryz.prog 99 #[.agg #[.slice (some ⟨b, off, none⟩) o.schemas.length caps, .slice At o.tables.length capt], .string p.name] w' fun e w'' => e = .returned (.int .i64 n) ∧ Aft w' w'' from
        fun w' a => (within_any _ At capt o.tables p.name w' (tabs_aft a htab)).mono fun e w'' ⟨he, hw⟩ => ⟨he.trans (by rw [← hn]), hw⟩)
      have HO2 := Lib.hid (show schOk o o.schemas[k] = decide (n ≤ 8) by rw [HO.out, hN, hO, hn]; rfl)
      clear HO hn
      go_wp2_with (go_at_call 87; refine (name_any _ _ (by first | exact s0.max | exact s1.max)).mono ?_; rintro e w' ⟨rfl, rfl⟩)
      refine (Cw.out _ (HA.out.alloc _)).mono ?_
      rintro e w3 ⟨rfl, a3⟩
      have HAB3 := Lib.hid ((HAB.out.alloc _).trans a3)
      clear a3 Cw
      by_cases h8 : n ≤ 8
      · have h8' : (n : Int) ≤ 8 := by omega
        have HN := Lib.hid (ext_lt (p := fun j => ∀ (hj : j < o.schemas.length), schOk o o.schemas[j] = true) HP.out (fun _ => by rw [HO2.out]; exact decide_eq_true h8))
        go_wp2_with fail
        go_roundw
        case rel => exact ⟨k + 1, true, by omega, by go_num, by simp, HAB3.out, fun _ => HN.out, fun h => by cases h⟩
        case measure => simp [intOf]; omega
      · have h8' : ¬ (n : Int) ≤ 8 := by omega
        have HF := Lib.hid (show checkE o = 63 by rw [HR2.out, all_false _ _ k hlt (by rw [HO2.out]; exact decide_eq_false h8)]; rfl)
        go_wp2_with fail
        go_roundw
        case rel => exact ⟨k + 1, false, by omega, by go_num, by simp [h8'], HAB3.out, (fun h => by cases h), fun _ => HF.out⟩
        case measure => simp [intOf]; omega
    have HR3 := Lib.hid (show checkE o = if o.tables.all (rightT o) then 0 else 63 by rw [HR2.out, all_true _ _ fun j hj => HP.out j (by omega) hj]; rfl)
    clear HP HR2
    go_wp2_with fail
    go_loopw [3, 6] (fun ok i wr => ∃ (k : Nat) (b : Bool), k ≤ o.tables.length ∧ i = .int .i64 k ∧ ok = .bool b ∧ Aft (w.alloc (.cells #[.slice As o.schemas.length caps, .slice At o.tables.length capt] 25)) wr ∧ (b = true → ∀ j, j < k → ∀ (hj : j < o.tables.length), rightT o o.tables[j] = true) ∧ (b = false → checkE o = 63)) (fun ok i _ => o.tables.length - (intOf i).toNat)
    case atStart => exact ⟨0, true, Nat.zero_le _, rfl, rfl, HAB.out, fun _ j hj => absurd hj (Nat.not_lt_zero j), fun h => by cases h⟩
    case round =>
      clear hbox hfr hz hzk HA HAB
      obtain ⟨k2, b, hk2, rfl, rfl, ha, hp, hq⟩ := hrel
      obtain ⟨hbox, hfr, hz, hzk, HA⟩ := aft_box ha
      have HAB := Lib.hid ha
      clear ha
      cases b
      · have HF := Lib.hid (hq rfl)
        clear hp hq
        go_wp2_with fail
        go_ret
        exact ⟨by rw [HF.out]; rfl, HA.out⟩
      have HP := Lib.hid (hp rfl)
      clear hp hq
      by_cases hlt2 : k2 < o.tables.length
      · have htt := tabs_aft HA.out htab
        have hss := schs_aft HA.out hsch
        obtain ⟨b, off, B2, capB2, B3, capB3, rfl, hb, c0, c1, c2, c3, c4, hcols, hrules, s0, s1, s2⟩ := tab_at htt hlt2
        obtain ⟨p, hpp⟩ : ∃ p, o.tables[k2] = p := ⟨_, rfl⟩
        rw [hpp] at c0 c1 c2 c3 c4 hcols hrules s0 s1 s2
        obtain ⟨f, hf⟩ : ∃ f, rightT o p = f := ⟨_, rfl⟩
        have HO := Lib.hid (show rightT o o.tables[k2] = f by rw [hpp]; exact hf)
        have Cr := Lib.hid (show ∀ x : Lat wr, Calls Tryz.prog 105 #[.agg #[.slice As o.schemas.length caps, .slice (some ⟨b, off, none⟩) o.tables.length capt], .agg #[.string p.schema, .string p.name, .string p.owner, .slice B2 p.cols.length capB2, .slice B3 p.rules.length capB3]] (lat wr x) fun e w' => e = .returned (.bool f) ∧ Aft (lat wr x) w' from
          fun x => (right_any o p As caps _ capt B2 capB2 B3 capB3 (lat wr x) (schs_aft ((Aft.refl wr).lat x) hss) (tabs_aft ((Aft.refl wr).lat x) htt) (cols_aft ((Aft.refl wr).lat x) hcols) (ruls_aft ((Aft.refl wr).lat x) hrules) s1 s2).mono fun e w'' ⟨he, hw⟩ => ⟨he.trans (by rw [← hf]), hw⟩)
        clear hf hpp htt hss hcols hrules
        go_wp2_with fail
        refine wp_region_lat (by kernel_rfl) (by kernel_rfl) ?_
        repeat (go_big_quiet_step ((first | (go_at_call 105; exact Calls.lat_of (Cr.out _)))))
        refine wpQuiet_nil ?_
        intro _ hw'
        obtain ⟨x, hw''⟩ := hw'
        subst hw''
        cases f
        · have HF := Lib.hid (show checkE o = 63 by rw [HR3.out, all_false _ _ k2 hlt2 HO.out]; rfl)
          go_wp2_with fail
          go_roundw
          case rel => exact ⟨k2 + 1, false, by omega, by go_num, rfl, HAB.out.lat x, (fun h => by cases h), fun _ => HF.out⟩
          case measure => simp [intOf]; omega
        · have HN := Lib.hid (ext_lt (p := fun j => ∀ (hj : j < o.tables.length), rightT o o.tables[j] = true) HP.out (fun _ => HO.out))
          go_wp2_with fail
          go_roundw
          case rel => exact ⟨k2 + 1, true, by omega, by go_num, rfl, HAB.out.lat x, fun _ => HN.out, fun h => by cases h⟩
          case measure => simp [intOf]; omega
      · have HF := Lib.hid (show checkE o = 0 by rw [HR3.out, all_true _ _ fun j hj => HP.out j (by omega) hj]; rfl)
        go_wp2_with fail
        go_ret
        exact ⟨by rw [HF.out]; rfl, HA.out⟩
end Go.Proofs.YticjnndhpfdajaaGreat
/- objects.changed, objects.tableChanged: objects in memory of their own, changed by what is handed in. -/
namespace Go.Proofs.YticjnndhpfdajaaGreat
open Go.RowKit Go.Deep
set_option maxRecDepth 100000
set_option linter.unusedVariables false
def zeroO : Objs := ⟨[], []⟩
end Go.Proofs.YticjnndhpfdajaaGreat
