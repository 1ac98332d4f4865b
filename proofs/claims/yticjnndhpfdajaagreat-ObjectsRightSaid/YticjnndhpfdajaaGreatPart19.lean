/- Contracts of the program, part 19. -/
import Derived.Test.YticjnndhpfdajaaGreatPart13
import Derived.IntWalk
/- The document's searches in objects. -/
namespace Go.Proofs.YticjnndhpfdajaaGreat
open Go.RowKit
set_option maxRecDepth 100000
set_option linter.unusedVariables false
set_option maxHeartbeats 1000000 in
theorem rsch_any (A : Option Addr) (cap : Nat) (l : List Sch) (vt : Value) (name : ByteArray) (w : World) (h : SlAt w 2 SchR A cap l) :
    Calls Tryz.prog 206 #[.agg #[.slice A l.length cap, vt], .string name] w fun e w' => e = .returned (.int .i64 (schAt l name)) ∧ Aft w w' := by
  have hlen := h.len
  go_enter Tryz.func206, Tryz.ntmps206
  go_wp2_with fail
  go_loop [5] (fun i => ∃ k : Nat, k ≤ l.length ∧ i = .int .i64 k ∧ ∀ j, j < k → ∀ (hj : j < l.length), eqS l[j].name name = false) (fun i => l.length - (intOf i).toNat)
  case atStart => exact ⟨0, Nat.zero_le _, rfl, fun j hj => absurd hj (Nat.not_lt_zero j)⟩
  case round =>
    obtain ⟨k, hk, rfl, hp⟩ := hrel
    have HP := Lib.hid hp; clear hp
    by_cases hlt : k < l.length
    · obtain ⟨b, off, rfl, hb, c0, c1, hs⟩ := sch_at h hlt
      cases heq : eqS l[k].name name
      · have h2 : (l[k].name.toList == name.toList) = false := heq
        have HN := Lib.hid (ext_lt (p := fun j => ∀ (hj : j < l.length), eqS l[j].name name = false) HP.out (fun _ => heq))
        clear heq
        go_wp2_with fail
        go_round
        case rel => exact ⟨k + 1, by omega, by go_num, HN.out⟩
        case measure => simp [intOf]; omega
      · have h2 : (l[k].name.toList == name.toList) = true := heq
        have HQ := Lib.hid heq
        clear heq
        go_wp2_with fail
        go_ret
        have heq := HQ.out
        exact ⟨by rw [show schAt l name = k from idxP_some (fun c : Sch => eqS c.name name) l k hlt heq (fun i hi => HP.out i hi (by omega))]; rfl, (Aft.refl _).alloc _⟩
    · go_wp2_with fail
      go_ret
      exact ⟨by rw [show schAt l name = -1 from idxP_none (fun c : Sch => eqS c.name name) l (fun i hi => HP.out i (by omega) hi)]; rfl, (Aft.refl _).alloc _⟩
set_option maxHeartbeats 1000000 in
theorem rtab_any (vs : Value) (A : Option Addr) (cap : Nat) (l : List Tab) (s n : ByteArray) (w : World) (h : SlAt w 5 TabR A cap l) :
    Calls Tryz.prog 72 #[.agg #[vs, .slice A l.length cap], .string s, .string n] w fun e w' => e = .returned (.int .i64 (tabAt l s n)) ∧ Aft w w' := by
  have hlen := h.len
  go_enter Tryz.func72, Tryz.ntmps72
  go_wp2_with fail
  go_loop [7] (fun i => ∃ k : Nat, k ≤ l.length ∧ i = .int .i64 k ∧ ∀ j, j < k → ∀ (hj : j < l.length), (eqS l[j].schema s && eqS l[j].name n) = false) (fun i => l.length - (intOf i).toNat)
  case atStart => exact ⟨0, Nat.zero_le _, rfl, fun j hj => absurd hj (Nat.not_lt_zero j)⟩
  case round =>
    obtain ⟨k, hk, rfl, hp⟩ := hrel
    have HP := Lib.hid hp; clear hp
    by_cases hlt : k < l.length
    · obtain ⟨b, off, B2, capB2, B3, capB3, rfl, hb, c0, c1, c2, c3, c4, hcols, hrules, hss⟩ := tab_at h hlt
      clear hcols hrules hss
      cases heq : eqS l[k].schema s
      · have h2 : (l[k].schema.toList == s.toList) = false := heq
        have HN := Lib.hid (ext_lt (p := fun j => ∀ (hj : j < l.length), (eqS l[j].schema s && eqS l[j].name n) = false) HP.out (fun _ => by rw [heq]; rfl))
        clear heq
        go_wp2_with fail
        go_round
        case rel => exact ⟨k + 1, by omega, by go_num, HN.out⟩
        case measure => simp [intOf]; omega
      have h2 : (l[k].schema.toList == s.toList) = true := heq
      cases heq2 : eqS l[k].name n
      · have h3 : (l[k].name.toList == n.toList) = false := heq2
        have HN := Lib.hid (ext_lt (p := fun j => ∀ (hj : j < l.length), (eqS l[j].schema s && eqS l[j].name n) = false) HP.out (fun _ => by rw [heq, heq2]; rfl))
        clear heq heq2
        go_wp2_with fail
        go_round
        case rel => exact ⟨k + 1, by omega, by go_num, HN.out⟩
        case measure => simp [intOf]; omega
      · have h3 : (l[k].name.toList == n.toList) = true := heq2
        have HQ := Lib.hid (show (eqS l[k].schema s && eqS l[k].name n) = true by rw [heq, heq2]; rfl)
        clear heq heq2
        go_wp2_with fail
        go_ret
        have heq := HQ.out
        exact ⟨by rw [show tabAt l s n = k from idxP_some (fun t : Tab => eqS t.schema s && eqS t.name n) l k hlt heq (fun i hi => HP.out i hi (by omega))]; rfl, (Aft.refl _).alloc _⟩
    · go_wp2_with fail
      go_ret
      exact ⟨by rw [show tabAt l s n = -1 from idxP_none (fun t : Tab => eqS t.schema s && eqS t.name n) l (fun i hi => HP.out i (by omega) hi)]; rfl, (Aft.refl _).alloc _⟩
set_option maxHeartbeats 1000000 in
theorem rtabs_any (vs : Value) (A : Option Addr) (cap : Nat) (l : List Tab) (s : ByteArray) (w : World) (h : SlAt w 5 TabR A cap l) :
    Calls Tryz.prog 205 #[.agg #[vs, .slice A l.length cap], .string s] w fun e w' => e = .returned (.int .i64 (within l s)) ∧ Aft w w' := by
  have hlen := h.len
  go_enter Tryz.func205, Tryz.ntmps205
  go_wp2_with fail
  go_loop [5, 6] (fun n i => ∃ k : Nat, k ≤ l.length ∧ i = .int .i64 k ∧ n = .int .i64 (within (l.take k) s)) (fun _ i => l.length - (intOf i).toNat)
  case atStart => exact ⟨0, Nat.zero_le _, rfl, rfl⟩
  case round =>
    obtain ⟨k, hk, rfl, rfl⟩ := hrel
    have hw := within_le (l.take k) s
    have hw2 : (l.take k).length ≤ k := List.length_take_le _ _
    by_cases hlt : k < l.length
    · obtain ⟨b, off, A2, cap2, A3, cap3, rfl, hb, c0, c1, c2, c3, c4, hs⟩ := tab_at h hlt
      clear hs
      have HS := Lib.hid (within_succ l s k hlt)
      cases heq : eqS l[k].schema s
      · have h2 : (l[k].schema.toList == s.toList) = false := heq
        have HN := Lib.hid (show within (l.take (k + 1)) s = within (l.take k) s by rw [HS.out, heq]; simp)
        clear heq HS
        go_wp2_with fail
        go_round
        case rel => exact ⟨k + 1, by omega, by go_num, by rw [HN.out]⟩
        case measure => simp [intOf]; omega
      · have h2 : (l[k].schema.toList == s.toList) = true := heq
        have HN := Lib.hid (show within (l.take (k + 1)) s = within (l.take k) s + 1 by rw [HS.out, heq]; simp)
        clear heq HS
        go_wp2_with fail
        go_round
        case rel => exact ⟨k + 1, by omega, by go_num, by rw [HN.out]; go_num⟩
        case measure => simp [intOf]; omega
    · go_wp2_with fail
      go_ret
      exact ⟨by rw [List.take_of_length_le (by omega)]; rfl, (Aft.refl _).alloc _⟩
end Go.Proofs.YticjnndhpfdajaaGreat
/- The document's key of a foreign rule. -/
namespace Go.Proofs.YticjnndhpfdajaaGreat
open Go.RowKit
set_option maxRecDepth 100000
set_option linter.unusedVariables false
set_option maxHeartbeats 4000000 in
theorem rkey_any (vs : Value) (At : Option Addr) (capt : Nat) (ts : List Tab) (A : Option Addr) (cap : Nat) (l : List Col) (r : Rul) (A2 : Option Addr) (cap2 : Nat) (w : World) (ht : SlAt w 5 TabR At capt ts) (h : SlAt w 3 ColR A cap l) (h2 : SlAt w 1 StrR A2 cap2 r.cols) :
    Calls Tryz.prog 75 #[.agg #[vs, .slice At ts.length capt], .slice A l.length cap, .agg #[.string r.name, .int .i64 r.kind, .slice A2 r.cols.length cap2, .int .i64 r.low, .int .i64 r.high, .string r.schema, .string r.table, .string r.key]] w
      fun e w' => e = .returned (.int .i64 (keyE ts l r)) ∧ Aft w w' := by
  obtain ⟨i, hi⟩ : ∃ i, tabAt ts r.schema r.table = i := ⟨_, rfl⟩
  have hlen := ht.len
  have hlen2 := h2.len
  have hlenl := h.len
  have Cw := Lib.hid (show ∀ w', Aft w w' → Calls Tryz.prog 72 #[.agg #[vs, .slice At ts.length capt], .string r.schema, .string r.table] w' fun e w'' => e = .returned (.int .i64 i) ∧ Aft w' w'' from
    fun w' a => (rtab_any vs At capt ts r.schema r.table w' (tabs_aft a ht)).mono fun e w'' ⟨he, hw⟩ => ⟨he.trans (by rw [← hi]), hw⟩)
  by_cases hi0 : 0 ≤ i
  · obtain ⟨q, rfl⟩ := Int.eq_ofNat_of_zero_le hi0
    have hql : q < ts.length := by have := (idxP_range (fun t => eqS t.schema r.schema && eqS t.name r.table) ts).2; unfold tabAt at hi; omega
    have HE := Lib.hid (keyE_some (l := l) hi hql)
    rw [HE.out]
    clear HE hi
    go_enter Tryz.func75, Tryz.ntmps75
    go_wp2_with fail
    refine (Cw.out _ (((Aft.refl w).alloc _).alloc _)).mono ?_
    rintro e w1 ⟨rfl, a1⟩
    obtain ⟨hbo, hbr, hz, HA⟩ := aft_box2 a1
    have ht1 := tabs_aft HA.out ht
    clear a1 Cw
    obtain ⟨b, off, B2, capB2, B3, capB3, rfl, hb, c0, c1, c2, c3, c4, hcols, hrules, hss⟩ := tab_at ht1 hql
    obtain ⟨t, ht0⟩ : ∃ t, ts[q] = t := ⟨_, rfl⟩
    rw [ht0] at c0 c1 c2 c3 c4 hcols hrules hss
    have HT := Lib.hid ht0
    clear ht0 hss
    have hlen3 := hrules.len
    have hlent := hcols.len
    obtain ⟨k, hk⟩ : ∃ k, rulAt t.rules r.key = k := ⟨_, rfl⟩
    obtain ⟨w2, hw2⟩ : ∃ w2, w2 = w1.alloc (.cells #[.string t.schema, .string t.name, .string t.owner, .slice B2 t.cols.length capB2, .slice B3 t.rules.length capB3] 50) := ⟨_, rfl⟩
    have a2 : Aft w1 w2 := by rw [hw2]; exact (Aft.refl w1).alloc _
    have hrules2 := ruls_aft a2 hrules
    have Cb := Lib.hid (show Calls Tryz.prog 74 #[.slice B3 t.rules.length capB3, .string r.key] w2 fun e w'' => e = .returned (.int .i64 k) ∧ w2 = w'' from
      (rrul_any B3 capB3 t.rules r.key w2 hrules2).mono fun e w'' ⟨he, hw⟩ => ⟨he.trans (by rw [← hk]; rfl), hw⟩)
    have hbt : ∀ o, w2.cell? ⟨w1.heap.size, o, none⟩ = (#[.string t.schema, .string t.name, .string t.owner, .slice B2 t.cols.length capB2, .slice B3 t.rules.length capB3] : Array Value)[o]? := by intro o; rw [hw2]; simp
    have hzt : w1.heap.size < w2.heap.size := by rw [hw2]; simp
    have hbr2 : ∀ o, w2.cell? ⟨w.heap.size + 1, o, none⟩ = _ := fun o => (Below.cell a2 (p := ⟨w.heap.size + 1, o, none⟩) hz.2).trans (hbr o)
    have HA02 := Lib.hid (HA.out.trans a2)
    have hcols2 := cols_aft a2 hcols
    have h02 := cols_aft HA02.out h
    have hs02 := strs_aft HA02.out h2
    have hz2 : w.heap.size + 1 < w2.heap.size := Nat.lt_of_lt_of_le hz.2 a2.size
    go_wp2_with fail
    rw [← hw2]
    clear hw2 ht1 hcols hrules
    refine Cb.out.mono ?_
    rintro e w' ⟨rfl, hw'⟩
    subst hw'
    clear Cb hbo hbr c0 c1 c2 c3 c4
    by_cases hk0 : 0 ≤ k
    · obtain ⟨m, rfl⟩ := Int.eq_ofNat_of_zero_le hk0
      have hml : m < t.rules.length := by have := (idxP_range (fun c => eqS c.name r.key) t.rules).2; unfold rulAt at hk; omega
      have HE := Lib.hid (keyT_some (l := l) hk hml)
      clear hk
      obtain ⟨b3, off3, D2, capD2, rfl, hb3, e0, e1, e2, e3, e4, e5, e6, e7, hcs, hss3⟩ := rul_at hrules2 hml
      obtain ⟨p, hp⟩ : ∃ p, t.rules[m] = p := ⟨_, rfl⟩
      rw [hp] at e0 e1 e2 e3 e4 e5 e6 e7 hcs hss3
      have HP := Lib.hid hp
      clear hp hrules2 hss3
      cases hk2 : (p.kind != 2)
      · have HV := Lib.hid (show keyT ts[q] l r = if pairsOk l t.cols r.cols p.cols then 0 else 63 by
          have hk3 : (p.kind == 2) = true := by simpa using hk2
          rw [HT.out, HE.out, HP.out, if_pos hk3])
        clear HE HT HP
        have hlen4 := hcs.len
        by_cases d1 : p.cols.length = r.cols.length
        · have f1 : ((p.cols.length : Int) != (r.cols.length : Int)) = false := by simp [d1]
          go_wp2_with fail
          clear e0 e1 e2 e3 e4 e5 e6 e7
          go_loopw [11, 12, 13] (fun i _ _ wr => ∃ k : Nat, k ≤ p.cols.length ∧ i = .int .i64 k ∧ Aft w2 wr ∧ ∀ j, j < k → ∀ (hj : j < r.cols.length) (hj2 : j < p.cols.length), pairB l t.cols r.cols[j] p.cols[j] = true) (fun i _ _ _ => p.cols.length - (intOf i).toNat)
          case atStart => exact ⟨0, Nat.zero_le _, rfl, Aft.refl _, fun j hj => absurd hj (Nat.not_lt_zero j)⟩
          case round =>
            obtain ⟨k, hk, rfl, ha, hp⟩ := hrel
            have HP := Lib.hid hp; clear hp
            have HAR := Lib.hid ha
            by_cases hlt : k < p.cols.length
            · have hltr : k < r.cols.length := by omega
              obtain ⟨b5, off5, rfl, hb5, g5, _⟩ := str_at (strs_aft ha hs02) hltr
              obtain ⟨b6, off6, rfl, hb6, g6, _⟩ := str_at (strs_aft ha hcs) hlt
              have q1 : wr.cell? ⟨w.heap.size + 1, 2, none⟩ = some (.slice (some ⟨b5, off5, none⟩) r.cols.length cap2) := ha.cell_some (hbr2 2)
              have q2 : wr.cell? ⟨w1.heap.size, 3, none⟩ = some (.slice B2 t.cols.length capB2) := ha.cell_some (hbt 3)
              have z1 : w.heap.size + 1 < wr.heap.size := Nat.lt_of_lt_of_le hz2 ha.size
              have z2 : w1.heap.size < wr.heap.size := Nat.lt_of_lt_of_le hzt ha.size
              have hcl := cols_aft ha h02
              have hct := cols_aft ha hcols2
              clear ha
              obtain ⟨x, hx⟩ : ∃ x, colAt l r.cols[k] = x := ⟨_, rfl⟩
              obtain ⟨y, hy⟩ : ∃ y, colAt t.cols p.cols[k] = y := ⟨_, rfl⟩
              have C1 := Lib.hid (show Calls Tryz.prog 152 #[.slice A l.length cap, .string r.cols[k]] wr fun e w' => e = .returned (.int .i64 x) ∧ wr = w' from
                (rcol_any A cap l r.cols[k] wr hcl).mono fun e w' ⟨he, hw⟩ => ⟨he.trans (by rw [← hx]; rfl), hw⟩)
              have C2 := Lib.hid (show ∀ z : Lat wr, Calls Tryz.prog 152 #[.slice B2 t.cols.length capB2, .string p.cols[k]] (lat wr z) fun e w' => e = .returned (.int .i64 y) ∧ lat wr z = w' from
                fun z => (rcol_any B2 capB2 t.cols p.cols[k] (lat wr z) (cols_aft ((Aft.refl wr).lat z) hct)).mono fun e w' ⟨he, hw⟩ => ⟨he.trans (by rw [← hy]; rfl), hw⟩)
              have HPB := Lib.hid (show pairB l t.cols r.cols[k] p.cols[k] = (decide (0 ≤ x) && decide (0 ≤ y) && (kindAt l x == kindAt t.cols y)) by unfold pairB; rw [hx, hy])
              have hxl : x < l.length := by have := (idxP_range (fun c => eqS c.name r.cols[k]) l).2; unfold colAt at hx; omega
              have hyl : y < t.cols.length := by have := (idxP_range (fun c => eqS c.name p.cols[k]) t.cols).2; unfold colAt at hy; omega
              clear hx hy
              go_wp2_with fail
              refine C1.out.mono ?_
              rintro e w' ⟨rfl, hw'⟩
              subst hw'
              go_wp2_with fail
              refine wp_region_lat (by kernel_rfl) (by kernel_rfl) ?_
              repeat (go_big_quiet_step ((first | (go_at_call 152; exact Calls.lat_same (C2.out _)))))
              refine wpQuiet_nil ?_
              intro _ hw'
              obtain ⟨z, hw''⟩ := hw'
              subst hw''
              by_cases hx0 : x < 0
              · have HF := Lib.hid (show keyT ts[q] l r = 63 by rw [HV.out, pairsOk_false _ _ _ _ k hltr hlt (by rw [HPB.out, decide_eq_false (by omega)]; rfl)]; rfl)
                have dx : decide (x < 0) = true := decide_eq_true hx0
                go_wp2_with fail
                refine wp_region_lat (by kernel_rfl) (by kernel_rfl) ?_
                repeat (go_big_quiet_step (fail))
                refine wpQuiet_nil ?_
                intro _ hw'
                obtain ⟨z2', hw''⟩ := hw'
                subst hw''
                go_wp2_with fail
                go_ret
                exact ⟨by rw [HF.out]; rfl, HA02.out.trans ((HAR.out.lat z).lat z2')⟩
              have dx : decide (x < 0) = false := decide_eq_false hx0
              by_cases hy0 : y < 0
              · have HF := Lib.hid (show keyT ts[q] l r = 63 by rw [HV.out, pairsOk_false _ _ _ _ k hltr hlt (by rw [HPB.out, decide_eq_false (show ¬ 0 ≤ y by omega), Bool.and_false]; rfl)]; rfl)
                have dy : decide (y < 0) = true := decide_eq_true hy0
                go_wp2_with fail
                refine wp_region_lat (by kernel_rfl) (by kernel_rfl) ?_
                repeat (go_big_quiet_step (fail))
                refine wpQuiet_nil ?_
                intro _ hw'
                obtain ⟨z2', hw''⟩ := hw'
                subst hw''
                go_wp2_with fail
                go_ret
                exact ⟨by rw [HF.out]; rfl, HA02.out.trans ((HAR.out.lat z).lat z2')⟩
              have dy : decide (y < 0) = false := decide_eq_false hy0
              obtain ⟨x', rfl⟩ := Int.eq_ofNat_of_zero_le (show 0 ≤ x by omega)
              obtain ⟨y', rfl⟩ := Int.eq_ofNat_of_zero_le (show 0 ≤ y by omega)
              have hxl' : x' < l.length := by omega
              have hyl' : y' < t.cols.length := by omega
              obtain ⟨b7, off7, rfl, hb7, d70, d71, d72, _⟩ := col_at hcl hxl'
              obtain ⟨b8, off8, rfl, hb8, d80, d81, d82, _⟩ := col_at hct hyl'
              have HPB2 := Lib.hid (show pairB l t.cols r.cols[k] p.cols[k] = (l[x'].kind == t.cols[y'].kind) by
                rw [HPB.out, decide_eq_true (show (0 : Int) ≤ (x' : Int) by omega), decide_eq_true (show (0 : Int) ≤ (y' : Int) by omega)]; simp [kindAt, List.getElem?_eq_getElem hxl', List.getElem?_eq_getElem hyl'])
              clear HPB C1 C2 hx0 hy0
              cases hkk : (l[x'].kind != t.cols[y'].kind)
              · have HN := Lib.hid (ext_lt (p := fun j => ∀ (hj : j < r.cols.length) (hj2 : j < p.cols.length), pairB l t.cols r.cols[j] p.cols[j] = true) HP.out (fun _ _ => by rw [HPB2.out]; simpa using hkk))
                go_wp2_with fail
                refine wp_region_lat (by kernel_rfl) (by kernel_rfl) ?_
                repeat (go_big_quiet_step (fail))
                refine wpQuiet_nil ?_
                intro _ hw'
                obtain ⟨z2', hw''⟩ := hw'
                subst hw''
                go_wp2_with fail
                go_roundw
                case rel => exact ⟨k + 1, by omega, by go_num, (HAR.out.lat z).lat z2', HN.out⟩
                case measure => simp [intOf]; omega
              · have HF := Lib.hid (show keyT ts[q] l r = 63 by rw [HV.out, pairsOk_false _ _ _ _ k hltr hlt (by rw [HPB2.out]; simpa using hkk)]; rfl)
                go_wp2_with fail
                refine wp_region_lat (by kernel_rfl) (by kernel_rfl) ?_
                repeat (go_big_quiet_step (fail))
                refine wpQuiet_nil ?_
                intro _ hw'
                obtain ⟨z2', hw''⟩ := hw'
                subst hw''
                go_wp2_with fail
                go_ret
                exact ⟨by rw [HF.out]; rfl, HA02.out.trans ((HAR.out.lat z).lat z2')⟩
            · have HF := Lib.hid (show keyT ts[q] l r = 0 by rw [HV.out, pairsOk_true _ _ _ _ d1 (fun j hj hj2 => HP.out j (by omega) hj hj2)]; rfl)
              clear ha
              go_wp2_with fail
              go_ret
              exact ⟨by rw [HF.out]; rfl, HA02.out.trans HAR.out⟩
        · have f1 : ((p.cols.length : Int) != (r.cols.length : Int)) = true := by simp; omega
          have HR := Lib.hid (show keyT ts[q] l r = 63 by rw [HV.out, pairsOk_len _ _ _ _ d1]; rfl)
          go_wp2_with fail
          go_ret
          exact ⟨by rw [HR.out]; rfl, HA02.out⟩
      · have HV := Lib.hid (show keyT ts[q] l r = 61 by
          have hk3 : ¬ ((p.kind == 2) = true) := by simpa using hk2
          rw [HT.out, HE.out, HP.out, if_neg hk3])
        go_wp2_with fail
        go_ret
        exact ⟨by rw [HV.out]; rfl, HA02.out⟩
    · have hk1 : k < 0 := by omega
      have HE := Lib.hid (keyT_none (l := l) (by rw [hk]; exact hk1) : keyT t l r = 61)
      clear hk
      go_wp2_with fail
      go_ret
      exact ⟨by rw [HT.out, HE.out]; rfl, HA02.out⟩
  · have hi1 : i < 0 := by omega
    have HE := Lib.hid (keyE_none (l := l) (by rw [hi]; exact hi1) : keyE ts l r = 61)
    rw [HE.out]
    clear HE hi
    go_enter Tryz.func75, Tryz.ntmps75
    go_wp2_with fail
    refine (Cw.out _ (((Aft.refl w).alloc _).alloc _)).mono ?_
    rintro e w1 ⟨rfl, a1⟩
    have HA := Lib.hid ((((Aft.refl w).alloc _).alloc _).trans a1)
    clear a1
    go_wp2_with fail
    go_ret
    exact ⟨rfl, HA.out⟩
end Go.Proofs.YticjnndhpfdajaaGreat
/- The document's rows: do schemas and tables rise? -/
namespace Go.Proofs.YticjnndhpfdajaaGreat
open Go.RowKit
set_option maxRecDepth 100000
set_option linter.unusedVariables false
def rowsB (o : Objs) : Bool := o.schemas.all (schOk o) && risesB (fun a b => cmpS a.name b.name) o.schemas && risesB (fun a b => or2 (cmpS a.schema b.schema) (cmpS a.name b.name)) o.tables && decide (o.schemas.length ≤ 8)
theorem rowsB_sch (o : Objs) (k : Nat) (hk : k < o.schemas.length) (h : schOk o o.schemas[k] = false) : rowsB o = false := by
  unfold rowsB; rw [all_false _ _ k hk h]; rfl
theorem rowsB_schr (o : Objs) (k : Nat) (hk : k < o.schemas.length) (h0 : 0 < k) (h : ltS (o.schemas[k - 1]'(by omega)).name o.schemas[k].name = false) : rowsB o = false := by
  have h1 : k - 1 + 1 < o.schemas.length := by omega
  have e : (o.schemas[k - 1 + 1]'h1) = o.schemas[k] := by congr 1; omega
  unfold rowsB
  rw [risesB_false _ _ (k - 1) h1]
  · simp
  · rw [e]
    rw [← cmpS_lt] at h
    have := of_decide_eq_false h
    omega
theorem rowsB_tabr (o : Objs) (k : Nat) (hk : k < o.tables.length) (h0 : 0 < k) (h : ¬ or2 (cmpS (o.tables[k - 1]'(by omega)).schema o.tables[k].schema) (cmpS (o.tables[k - 1]'(by omega)).name o.tables[k].name) < 0) : rowsB o = false := by
  have h1 : k - 1 + 1 < o.tables.length := by omega
  have e : (o.tables[k - 1 + 1]'h1) = o.tables[k] := by congr 1; omega
  unfold rowsB
  rw [risesB_false (fun a b : Tab => or2 (cmpS a.schema b.schema) (cmpS a.name b.name)) _ (k - 1) h1]
  · simp
  · rw [e]; omega
theorem rises_pred {α : Type} (c : α → α → Int) (l : List α) (h : ∀ k, 1 ≤ k → ∀ (hk : k < l.length), c (l[k - 1]'(by omega)) l[k] < 0) : risesB c l = true :=
  (risesB_iff c l).2 fun k hk => h (k + 1) (by omega) hk
set_option maxHeartbeats 8000000 in
theorem rrows_any (o : Objs) (As : Option Addr) (caps : Nat) (At : Option Addr) (capt : Nat) (w : World) (hsch : SlAt w 2 SchR As caps o.schemas) (htab : SlAt w 5 TabR At capt o.tables) :
    Calls Tryz.prog 150 #[.agg #[.slice As o.schemas.length caps, .slice At o.tables.length capt]] w
      fun e w' => e = .returned (.bool (rowsB o)) ∧ Aft w w' := by
  have hlen := hsch.len
  have hlen2 := htab.len
  go_enter Tryz.func150, Tryz.ntmps150
  go_wp2_with fail
  go_loopw [3] (fun i wr => ∃ k : Nat, k ≤ o.schemas.length ∧ i = .int .i64 k ∧ Aft (w.alloc (.cells #[.slice As o.schemas.length caps, .slice At o.tables.length capt] 25)) wr ∧ ∀ j, j < k → ∀ (hj : j < o.schemas.length), schOk o o.schemas[j] = true ∧ (0 < j → ltS (o.schemas[j - 1]'(by omega)).name o.schemas[j].name = true)) (fun i _ => o.schemas.length - (intOf i).toNat)
  case atStart => exact ⟨0, Nat.zero_le _, rfl, Aft.refl _, fun j hj => absurd hj (Nat.not_lt_zero j)⟩
  case round =>
    obtain ⟨k, hk, rfl, ha, hp⟩ := hrel
    have HP := Lib.hid hp; clear hp
    obtain ⟨hbox, hfr, hz, hzk, HA⟩ := aft_box ha
    have HAB := Lib.hid ha
    clear ha
    by_cases hlt : k < o.schemas.length
    · have hss := schs_aft HA.out hsch
      have htt := tabs_aft HA.out htab
      obtain ⟨b, off, rfl, hb, c0, c1, s0, s1⟩ := sch_at hss hlt
      obtain ⟨p, hpp⟩ : ∃ p, o.schemas[k] = p := ⟨_, rfl⟩
      rw [hpp] at c0 c1 s0 s1
      have HPP := Lib.hid hpp
      obtain ⟨n, hn⟩ : ∃ n, within o.tables p.name = n := ⟨_, rfl⟩
      have hnl : n * 16 ≤ 140737488351232 := by have := within_le o.tables p.name; omega
      have HO := Lib.hid (show schOk o o.schemas[k] = (nameB p.name && nameB p.owner && decide (n ≤ 8)) by rw [hpp]; unfold schOk; rw [hn])
      have Ct := Lib.hid (show ∀ x : Lat (wr.alloc (.cells #[.string p.name, .string p.owner] 99)), Calls Tryz.prog 205 #[.agg #[.slice (some ⟨b, off, none⟩) o.schemas.length caps, .slice At o.tables.length capt], .string p.name] (lat _ x) fun e w'' => e = .returned (.int .i64 n) ∧ Aft (lat _ x) w'' from
        fun x => (rtabs_any _ At capt o.tables p.name (lat _ x) (tabs_aft (((Aft.refl wr).alloc _).lat x) htt)).mono fun e w'' ⟨he, hw⟩ => ⟨he.trans (by rw [← hn]), hw⟩)
      clear hn htt
      cases hN : nameB p.name
      · have HF := Lib.hid (rowsB_sch o k hlt (by rw [HO.out, hN]; rfl))
        clear hss hpp
        go_wp2_with fail
        refine wp_region_lat (by kernel_rfl) (by kernel_rfl) ?_
        repeat (go_big_quiet_step ((first | (go_at_call 153; exact Calls.lat_same (rname_any _ _ (by first | exact s0.max | exact s1.max))) | (go_at_call 205; exact Calls.lat_of (Ct.out _)))))
        refine wpQuiet_nil ?_
        intro _ hw'
        obtain ⟨x, hw''⟩ := hw'
        subst hw''
        go_wp2_with fail
        go_ret
        exact ⟨by rw [HF.out]; rfl, (HA.out.alloc _).lat x⟩
      cases hO : nameB p.owner
      · have HF := Lib.hid (rowsB_sch o k hlt (by rw [HO.out, hN, hO]; rfl))
        clear hss hpp
        go_wp2_with fail
        refine wp_region_lat (by kernel_rfl) (by kernel_rfl) ?_
        repeat (go_big_quiet_step ((first | (go_at_call 153; exact Calls.lat_same (rname_any _ _ (by first | exact s0.max | exact s1.max))) | (go_at_call 205; exact Calls.lat_of (Ct.out _)))))
        refine wpQuiet_nil ?_
        intro _ hw'
        obtain ⟨x, hw''⟩ := hw'
        subst hw''
        go_wp2_with fail
        go_ret
        exact ⟨by rw [HF.out]; rfl, (HA.out.alloc _).lat x⟩
      have HO2 := Lib.hid (show schOk o o.schemas[k] = decide (n ≤ 8) by rw [HO.out, hN, hO]; rfl)
      by_cases h0 : 0 < k
      · have hk1 : k - 1 < o.schemas.length := by omega
        obtain ⟨b', off', hA', hb', e0, e1, _, _⟩ := sch_at hss hk1
        simp only [Option.some.injEq, Addr.mk.injEq, and_true] at hA'
        obtain ⟨rfl, rfl⟩ := hA'
        obtain ⟨p', hpp'⟩ : ∃ p', (o.schemas[k - 1]'(by omega)) = p' := ⟨_, rfl⟩
        rw [hpp'] at e0 e1
        have HPP' := Lib.hid hpp'
        have w1 : IntKind.i64.wrap ((k : Int) - 1) = (k : Int) - 1 := IntWalk.i64_in _ (by omega)
        have w2 : (0 : Int) ≤ (k : Int) - 1 := by omega
        have w3 : ((k : Int) - 1).toNat = k - 1 := by omega
        have w4 : (k : Int) - 1 < (o.schemas.length : Int) := by omega
        have w5 : decide ((0 : Int) < (k : Int)) = true := decide_eq_true (by omega)
        clear hss hpp hpp'
        cases hL : ltS p'.name p.name
        · have hL' : Op.bytesLess p'.name.toList p.name.toList = false := hL
          have HF := Lib.hid (rowsB_schr o k hlt h0 (by rw [HPP.out, HPP'.out]; exact hL))
          clear hL
          go_wp2_with fail
          refine wp_region_lat (by kernel_rfl) (by kernel_rfl) ?_
          repeat (go_big_quiet_step ((first | (go_at_call 153; exact Calls.lat_same (rname_any _ _ (by first | exact s0.max | exact s1.max))) | (go_at_call 205; exact Calls.lat_of (Ct.out _)))))
          refine wpQuiet_nil ?_
          intro _ hw'
          obtain ⟨x, hw''⟩ := hw'
          subst hw''
          go_wp2_with fail
          go_ret
          exact ⟨by rw [HF.out]; rfl, (HA.out.alloc _).lat x⟩
        have hL' : Op.bytesLess p'.name.toList p.name.toList = true := hL
        have HLT := Lib.hid (show ltS (o.schemas[k - 1]'(by omega)).name o.schemas[k].name = true by rw [HPP.out, HPP'.out]; exact hL)
        clear hL
        by_cases h8 : n ≤ 8
        · have h8' : ¬ ((8 : Int) < (n : Int)) := by omega
          have d8 : decide ((8 : Int) < (n : Int)) = false := decide_eq_false h8'
          have HN := Lib.hid (ext_lt (p := fun j => ∀ (hj : j < o.schemas.length), schOk o o.schemas[j] = true ∧ (0 < j → ltS (o.schemas[j - 1]'(by omega)).name o.schemas[j].name = true)) HP.out (fun _ => ⟨by rw [HO2.out]; exact decide_eq_true h8, fun _ => HLT.out⟩))
          go_wp2_with fail
          refine wp_region_lat (by kernel_rfl) (by kernel_rfl) ?_
          repeat (go_big_quiet_step ((first | (go_at_call 153; exact Calls.lat_same (rname_any _ _ (by first | exact s0.max | exact s1.max))) | (go_at_call 205; exact Calls.lat_of (Ct.out _)))))
          refine wpQuiet_nil ?_
          intro _ hw'
          obtain ⟨x, hw''⟩ := hw'
          subst hw''
          go_wp2_with fail
          go_roundw
          case rel => exact ⟨k + 1, by omega, by go_num, (HAB.out.alloc _).lat x, HN.out⟩
          case measure => simp [intOf]; omega
        · have h8' : (8 : Int) < (n : Int) := by omega
          have d8 : decide ((8 : Int) < (n : Int)) = true := decide_eq_true h8'
          have HF := Lib.hid (rowsB_sch o k hlt (by rw [HO2.out]; exact decide_eq_false h8))
          go_wp2_with fail
          refine wp_region_lat (by kernel_rfl) (by kernel_rfl) ?_
          repeat (go_big_quiet_step ((first | (go_at_call 153; exact Calls.lat_same (rname_any _ _ (by first | exact s0.max | exact s1.max))) | (go_at_call 205; exact Calls.lat_of (Ct.out _)))))
          refine wpQuiet_nil ?_
          intro _ hw'
          obtain ⟨x, hw''⟩ := hw'
          subst hw''
          go_wp2_with fail
          go_ret
          exact ⟨by rw [HF.out]; rfl, (HA.out.alloc _).lat x⟩
      · have w5 : decide ((0 : Int) < (k : Int)) = false := decide_eq_false (by omega)
        have w6 : (k : Int) ≤ 0 := by omega
        clear hss hpp
        by_cases h8 : n ≤ 8
        · have h8' : ¬ ((8 : Int) < (n : Int)) := by omega
          have d8 : decide ((8 : Int) < (n : Int)) = false := decide_eq_false h8'
          have HN := Lib.hid (ext_lt (p := fun j => ∀ (hj : j < o.schemas.length), schOk o o.schemas[j] = true ∧ (0 < j → ltS (o.schemas[j - 1]'(by omega)).name o.schemas[j].name = true)) HP.out (fun _ => ⟨by rw [HO2.out]; exact decide_eq_true h8, fun h => absurd h h0⟩))
          go_wp2_with fail
          refine wp_region_lat (by kernel_rfl) (by kernel_rfl) ?_
          repeat (go_big_quiet_step ((first | (go_at_call 153; exact Calls.lat_same (rname_any _ _ (by first | exact s0.max | exact s1.max))) | (go_at_call 205; exact Calls.lat_of (Ct.out _)))))
          refine wpQuiet_nil ?_
          intro _ hw'
          obtain ⟨x, hw''⟩ := hw'
          subst hw''
          go_wp2_with fail
          go_roundw
          case rel => exact ⟨k + 1, by omega, by go_num, (HAB.out.alloc _).lat x, HN.out⟩
          case measure => simp [intOf]; omega
        · have h8' : (8 : Int) < (n : Int) := by omega
          have d8 : decide ((8 : Int) < (n : Int)) = true := decide_eq_true h8'
          have HF := Lib.hid (rowsB_sch o k hlt (by rw [HO2.out]; exact decide_eq_false h8))
          go_wp2_with fail
          refine wp_region_lat (by kernel_rfl) (by kernel_rfl) ?_
          repeat (go_big_quiet_step ((first | (go_at_call 153; exact Calls.lat_same (rname_any _ _ (by first | exact s0.max | exact s1.max))) | (go_at_call 205; exact Calls.lat_of (Ct.out _)))))
          refine wpQuiet_nil ?_
          intro _ hw'
          obtain ⟨x, hw''⟩ := hw'
          subst hw''
          go_wp2_with fail
          go_ret
          exact ⟨by rw [HF.out]; rfl, (HA.out.alloc _).lat x⟩
    have HR := Lib.hid (show rowsB o = (risesB (fun a b => or2 (cmpS a.schema b.schema) (cmpS a.name b.name)) o.tables && decide (o.schemas.length ≤ 8)) by
      unfold rowsB
      rw [all_true _ _ fun j hj => (HP.out j (by omega) hj).1, rises_pred (fun a b : Sch => cmpS a.name b.name) _ fun j hj1 hj => (cmpS_lt_iff _ _).2 ((HP.out j (by omega) hj).2 (by omega))]
      rfl)
    clear HP
    go_wp2_with fail
    go_loopw [5] (fun i wr => ∃ k : Nat, 1 ≤ k ∧ (k ≤ o.tables.length ∨ k = 1) ∧ i = .int .i64 k ∧ Aft (w.alloc (.cells #[.slice As o.schemas.length caps, .slice At o.tables.length capt] 25)) wr ∧ ∀ j, j < k → 1 ≤ j → ∀ (hj : j < o.tables.length), or2 (cmpS (o.tables[j - 1]'(by omega)).schema o.tables[j].schema) (cmpS (o.tables[j - 1]'(by omega)).name o.tables[j].name) < 0) (fun i _ => o.tables.length - (intOf i).toNat)
    case atStart => exact ⟨1, by omega, .inr rfl, rfl, HAB.out, fun j hj hj1 => by omega⟩
    case round =>
      clear hbox hfr hz hzk HA HAB
      obtain ⟨k2, hk21, hk2, rfl, ha, hp⟩ := hrel
      have HP := Lib.hid hp; clear hp
      obtain ⟨hbox, hfr, hz, hzk, HA⟩ := aft_box ha
      have HAB := Lib.hid ha
      clear ha
      by_cases hlt2 : k2 < o.tables.length
      · have htt := tabs_aft HA.out htab
        have hk1 : k2 - 1 < o.tables.length := by omega
        obtain ⟨b, off, B2, capB2, B3, capB3, rfl, hb, c0, c1, c2, c3, c4, _⟩ := tab_at htt hlt2
        obtain ⟨b', off', D2, capD2, D3, capD3, hA', hb', e0, e1, e2, e3, e4, _⟩ := tab_at htt hk1
        simp only [Option.some.injEq, Addr.mk.injEq, and_true] at hA'
        obtain ⟨rfl, rfl⟩ := hA'
        obtain ⟨p, hpp⟩ : ∃ p, o.tables[k2] = p := ⟨_, rfl⟩
        obtain ⟨p', hpp'⟩ : ∃ p', (o.tables[k2 - 1]'hk1) = p' := ⟨_, rfl⟩
        rw [hpp] at c0 c1 c2 c3 c4
        rw [hpp'] at e0 e1 e2 e3 e4
        have HO := Lib.hid (show or2 (cmpS (o.tables[k2 - 1]'hk1).schema o.tables[k2].schema) (cmpS (o.tables[k2 - 1]'hk1).name o.tables[k2].name) = or2 (cmpS p'.schema p.schema) (cmpS p'.name p.name) by rw [hpp, hpp'])
        have HOL := Lib.hid (or2_lt p'.schema p.schema p'.name p.name)
        clear hpp hpp' htt
        have w1 : IntKind.i64.wrap ((k2 : Int) - 1) = (k2 : Int) - 1 := IntWalk.i64_in _ (by omega)
        have w2 : (0 : Int) ≤ (k2 : Int) - 1 := by omega
        have w3 : ((k2 : Int) - 1).toNat = k2 - 1 := by omega
        have w4 : (k2 : Int) - 1 < (o.tables.length : Int) := by omega
        cases hG : (!(ltS p'.schema p.schema || eqS p'.schema p.schema))
        · have hG' : (Op.bytesLess p'.schema.toList p.schema.toList || p'.schema.toList == p.schema.toList) = true := by have h1 := hG; rw [Bool.not_eq_false'] at h1; exact h1
          cases hE : eqS p'.schema p.schema
          · have hE' : (p'.schema.toList == p.schema.toList) = false := hE
            have hG2 : Op.bytesLess p'.schema.toList p.schema.toList = true := by rw [hE'] at hG'; simpa using hG'
            have HN := Lib.hid (ext_lt (p := fun j => 1 ≤ j → ∀ (hj : j < o.tables.length), or2 (cmpS (o.tables[j - 1]'(by omega)).schema o.tables[j].schema) (cmpS (o.tables[j - 1]'(by omega)).name o.tables[j].name) < 0) HP.out (fun _ _ => by rw [HO.out]; exact of_decide_eq_true (by rw [HOL.out, hG, hE]; rfl)))
            clear hG hE
            go_wp2_with fail
            go_roundw
            case rel => exact ⟨k2 + 1, by omega, .inl (by omega), by go_num, (HAB.out.alloc _).alloc _, HN.out⟩
            case measure => simp [intOf]; omega
          · have hE' : (p'.schema.toList == p.schema.toList) = true := hE
            cases hL : ltS p'.name p.name
            · have hL' : Op.bytesLess p'.name.toList p.name.toList = false := hL
              have HF := Lib.hid (rowsB_tabr o k2 hlt2 (by omega) (by rw [HO.out]; exact of_decide_eq_false (by rw [HOL.out, hG, hE, hL]; rfl)))
              clear hG hE hL
              go_wp2_with fail
              go_ret
              exact ⟨by rw [HF.out]; rfl, (HA.out.alloc _).alloc _⟩
            · have hL' : Op.bytesLess p'.name.toList p.name.toList = true := hL
              have HN := Lib.hid (ext_lt (p := fun j => 1 ≤ j → ∀ (hj : j < o.tables.length), or2 (cmpS (o.tables[j - 1]'(by omega)).schema o.tables[j].schema) (cmpS (o.tables[j - 1]'(by omega)).name o.tables[j].name) < 0) HP.out (fun _ _ => by rw [HO.out]; exact of_decide_eq_true (by rw [HOL.out, hG, hE, hL]; rfl)))
              clear hG hE hL
              go_wp2_with fail
              go_roundw
              case rel => exact ⟨k2 + 1, by omega, .inl (by omega), by go_num, (HAB.out.alloc _).alloc _, HN.out⟩
              case measure => simp [intOf]; omega
        · have hG' : (Op.bytesLess p'.schema.toList p.schema.toList || p'.schema.toList == p.schema.toList) = false := by have h1 := hG; rw [Bool.not_eq_true'] at h1; exact h1
          have HF := Lib.hid (rowsB_tabr o k2 hlt2 (by omega) (by rw [HO.out]; exact of_decide_eq_false (by rw [HOL.out, hG]; rfl)))
          clear hG
          go_wp2_with fail
          go_ret
          exact ⟨by rw [HF.out]; rfl, (HA.out.alloc _).alloc _⟩
      · have HF := Lib.hid (show rowsB o = decide ((o.schemas.length : Int) ≤ 8) by
          rw [HR.out, rises_pred (fun a b : Tab => or2 (cmpS a.schema b.schema) (cmpS a.name b.name)) _ fun j hj1 hj => HP.out j (by omega) hj1 hj, Bool.true_and]
          by_cases h : o.schemas.length ≤ 8
          · rw [decide_eq_true h, decide_eq_true (by omega)]
          · rw [decide_eq_false h, decide_eq_false (by omega)])
        go_wp2_with fail
        go_ret
        exact ⟨by rw [HF.out]; rfl, HA.out⟩
end Go.Proofs.YticjnndhpfdajaaGreat
