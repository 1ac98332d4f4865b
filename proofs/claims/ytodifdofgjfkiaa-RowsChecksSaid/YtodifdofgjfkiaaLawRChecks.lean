/- The law RowsChecks, walked. -/
import Derived.Test.YtodifdofgjfkiaaLawRFit
namespace Go.Proofs.Ytodifdofgjfkiaa
open Go.RowKit
set_option maxRecDepth 100000
set_option linter.unusedVariables false
theorem cols_dist {l : List Col} (h : colsOk l = true) {k : Nat} (hk : k < l.length) {s : ByteArray} (hs : eqS l[k].name s = true) : colAt l s = k := by
  have h1 : (colOk l[k] && decide (idxP (fun d => eqS d.name l[k].name) (l.take k) < 0)) = true := by
    cases hc : (colOk l[k] && decide (idxP (fun d => eqS d.name l[k].name) (l.take k) < 0))
    · rw [colsOk_false l k hk hc] at h; cases h
    · rfl
  simp only [Bool.and_eq_true, decide_eq_true_eq] at h1
  have e : (fun d : Col => eqS d.name l[k].name) = fun d => eqS d.name s := by
    funext d
    unfold eqS at hs ⊢
    rw [eq_of_beq hs]
  rw [e] at h1
  exact idxP_hit (fun d => eqS d.name s) l k hk hs h1.2
theorem fitE_ok {t : Tab} {row : List Val} (h : fitE t row = 0) : tableOk t = true ∧ besideB formB t.cols row = true ∧ besideB nullB t.cols row = true ∧ t.rules.any (badR t.cols row) = false := by
  cases h1 : tableOk t
  · rw [fitE_1 h1] at h; cases h
  cases h2 : besideB formB t.cols row
  · rw [fitE_100 h1 h2] at h; cases h
  cases h3 : besideB nullB t.cols row
  · rw [fitE_101 h1 h2 h3] at h; cases h
  cases h4 : t.rules.any (badR t.cols row)
  · exact ⟨rfl, rfl, rfl, rfl⟩
  · rw [fitE_any h1 h2 h3, h4] at h; cases h
theorem table_cols {t : Tab} (h : tableOk t = true) : colsOk t.cols = true := by
  unfold tableOk at h; simp only [Bool.and_eq_true] at h; exact h.1.1
/-- what a check asks of a row that fits -/
theorem no_out {t : Tab} {row : List Val} (h : fitE t row = 0) {i k : Nat} (hi : i < row.length) (hc : i < t.cols.length) (hk : k < t.rules.length) (h3 : (t.rules[k].kind == 3) = true) (h0 : 0 < t.rules[k].cols.length) (hn : eqS t.rules[k].cols[0] t.cols[i].name = true) : outB row[i] t.rules[k] = false := by
  obtain ⟨g1, g2, g3, g4⟩ := fitE_ok h
  have hq : colAt t.cols t.rules[k].cols[0] = i := cols_dist (table_cols g1) hc ((eqS_comm _ _).trans hn)
  have hb : badR t.cols row t.rules[k] = outB row[i] t.rules[k] := badR_of h3 h0 hq hi
  rw [← hb]
  cases hx : badR t.cols row t.rules[k]
  · rfl
  · rw [any_true _ _ k hk hx] at g4; cases g4
set_option maxHeartbeats 8000000 in
theorem law_rchecks (t : Tab) (row : List Val) (A : Option Addr) (cap : Nat) (A2 : Option Addr) (cap2 : Nat) (B : Option Addr) (capB : Nat) (w : World) (h : SlAt w 3 ColR A cap t.cols) (h2 : SlAt w 8 RulR A2 cap2 t.rules) (h3 : SlAt w 3 ValR B capB row) :
    Calls Try.prog 11 #[.agg #[.string t.schema, .string t.name, .string t.owner, .slice A t.cols.length cap, .slice A2 t.rules.length cap2], .slice B row.length capB] w
      fun e w' => e = .returned (.bool true) ∧ Aft w w' := by
  have hlen := h.len
  have hlen2 := h2.len
  have hlen3 := h3.len
  have CL := Lib.hid (show ∀ w', Aft w w' → _ from fun w' x => large11_any t A cap A2 cap2 B capB row w' (cols_aft x h) (ruls_aft x h2) (vals_aft x h3))
  obtain ⟨f, hf⟩ : ∃ f, fitE t row = f := ⟨_, rfl⟩
  go_enter Try.func11, Try.ntmps11
  go_wp2_with fail
  refine (CL.out _ ((Aft.refl w).alloc _)).mono ?_
  rintro e w1 ⟨g, rfl, a1, hg⟩
  obtain ⟨hbt, hfr, hz, hzk, HA⟩ := aft_box a1
  have HAB := Lib.hid a1
  clear a1 CL
  cases g
  · have hsm : t.rules.length ≤ 1000000 := by have := hg rfl; omega
    have D1 := Lib.hid (show ∀ w', Aft w w' → Calls Try.prog 44 #[.agg #[.string t.schema, .string t.name, .string t.owner, .slice A t.cols.length cap, .slice A2 t.rules.length cap2], .slice B row.length capB] w' fun e w'' => e = .returned (.int .i64 f) ∧ Aft w' w'' from
      fun w' x => (fit_any t row A cap A2 cap2 B capB _ (cols_aft x h) (ruls_aft x h2) (vals_aft x h3) hsm).mono fun e w'' ⟨he, hw⟩ => ⟨he.trans (by rw [hf]), hw⟩)
    have HF := Lib.hid hf
    clear hf hg
    go_wp2_with fail
    refine (D1.out _ HA.out).mono ?_
    rintro e w2 ⟨rfl, a2⟩
    have HAB2 := Lib.hid (HAB.out.trans a2)
    clear a2 D1 HA HAB hbt hfr hz hzk
    obtain ⟨hbt, hfr, hz, hzk, HA⟩ := aft_box HAB2.out
    cases hf0 : (f != 0)
    · have hf1 : f = 0 := by simpa using hf0
      subst hf1
      have HOK := Lib.hid (fitE_ok HF.out)
      have HLL := Lib.hid (show t.cols.length = row.length from ((besideB_iff formB t.cols row).1 HOK.out.2.1).1)
      have e1 : ((row.length : Int) != (t.cols.length : Int)) = false := by simp [HLL.out]
      go_wp2_with fail
      go_loopw [5] (fun i wr => ∃ k : Nat, k ≤ row.length ∧ i = .int .i64 k ∧ Aft (w.alloc (.cells #[.string t.schema, .string t.name, .string t.owner, .slice A t.cols.length cap, .slice A2 t.rules.length cap2] 34)) wr) (fun i _ => row.length - (intOf i).toNat)
      case atStart => exact ⟨0, Nat.zero_le _, rfl, HAB2.out⟩
      case round =>
        clear hbt hfr hz hzk HA HAB2
        obtain ⟨i, hi, rfl, ha⟩ := hrel
        obtain ⟨hbt, hfr, hz, hzk, HA⟩ := aft_box ha
        have HAB := Lib.hid ha
        clear ha
        by_cases hlt : i < row.length
        · have hlc : i < t.cols.length := by have := HLL.out; omega
          have hform := ((besideB_iff formB t.cols row).1 HOK.out.2.1).2 i hlc hlt
          have hnull := ((besideB_iff nullB t.cols row).1 HOK.out.2.2.1).2 i hlc hlt
          obtain ⟨b, off, rfl, hb, c0, c1, c2, _⟩ := col_at (cols_aft HA.out h) hlc
          obtain ⟨b2, off2, hB, hb2, d0, d1, d2, _⟩ := val_at (vals_aft HA.out h3) hlt
          subst hB
          obtain ⟨c, hcc⟩ : ∃ c, t.cols[i] = c := ⟨_, rfl⟩
          obtain ⟨v, hvv⟩ : ∃ v, row[i] = v := ⟨_, rfl⟩
          rw [hcc] at c0 c1 c2
          rw [hvv] at d0 d1 d2
          rw [hcc, hvv] at hform hnull
          have HCC := Lib.hid hcc
          have HVV := Lib.hid hvv
          obtain ⟨W, hW⟩ : ∃ W, W = wr.alloc (.cells #[.string c.name, .int .i64 c.kind, .bool c.null] 40) := ⟨_, rfl⟩
          have aW : Aft wr W := by rw [hW]; exact (Aft.refl wr).alloc _
          have hbW : ∀ o, W.cell? ⟨wr.heap.size, o, none⟩ = (#[.string c.name, .int .i64 c.kind, .bool c.null] : Array Value)[o]? := by intro o; rw [hW]; simp
          have hzW : wr.heap.size < W.heap.size := by rw [hW]; simp
          have d0' := aW.cell_kept d0
          have d1' := aW.cell_kept d1
          have d2' := aW.cell_kept d2
          have hb2W : b2 < W.heap.size := Nat.lt_of_lt_of_le hb2 aW.size
          have HABW := Lib.hid (HAB.out.trans aW)
          have HAW := Lib.hid (HA.out.trans aW)
          -- neither a null where none may be, nor another kind
          have q1 : (v.kind == 1 && !c.null) = false := by
            unfold nullB at hnull
            cases h1 : (v.kind == 1)
            · rfl
            · have : (v.kind != 1) = false := by simpa using h1
              rw [this, Bool.or_false] at hnull; rw [hnull]; rfl
          have q2 : (v.kind != 1 && v.kind != c.kind) = false := by
            unfold formB at hform
            simp only [Bool.and_eq_true, Bool.or_eq_true, beq_iff_eq] at hform
            rcases hform.2 with h1 | h1
            · rw [h1]; simp
            · rw [h1]; simp
          clear hform hnull hcc hvv
          go_wp2_with fail
          rw [← hW]
          clear hW d0 d1 d2 c0 c1 c2 aW
          have hbW0 : W.cell? ⟨wr.heap.size, 0, none⟩ = some (.string c.name) := hbW 0
          have hbW1 : W.cell? ⟨wr.heap.size, 1, none⟩ = some (.int .i64 c.kind) := hbW 1
          have hbW2 : W.cell? ⟨wr.heap.size, 2, none⟩ = some (.bool c.null) := hbW 2
          have HTB := Lib.hid (show W.cell? ⟨w.heap.size, 4, none⟩ = some (.slice A2 t.rules.length cap2) from (HABW.out.cell_kept (by simp)))
          cases k1 : (v.kind == 1)
          · have k1' : (v.kind != 1) = true := by simpa using k1
            have k2 : (v.kind != c.kind) = false := by rw [k1'] at q2; simpa using q2
            clear q1 q2
            refine wp_region_lat (by kernel_rfl) (by kernel_rfl) ?_
            repeat (go_big_quiet_step (fail))
            refine wpQuiet_nil ?_
            intro _ hw'
            obtain ⟨x, hw''⟩ := hw'
            subst hw''
            obtain ⟨W2, hW2⟩ : ∃ W2, W2 = lat W x := ⟨_, rfl⟩
            have aW2 : Aft W W2 := by rw [hW2]; exact (Aft.refl W).lat x
            have e0 := aW2.cell_kept hbW0
            have z0 := aW2.cell_kept d0'
            have z1 := aW2.cell_kept d1'
            have tb := aW2.cell_kept HTB.out
            have HA2 := Lib.hid (HAW.out.trans aW2)
            have HAB2' := Lib.hid (HABW.out.trans aW2)
            rw [← hW2]
            clear hW2 aW2 hbW0 hbW1 hbW2 d0' d1' d2' hbW hbt hfr
            go_wp2_with fail
            go_loopw [7] (fun i wrr => ∃ k : Nat, k ≤ t.rules.length ∧ i = .int .i64 k ∧ Aft W2 wrr) (fun i _ => t.rules.length - (intOf i).toNat)
            case atStart => exact ⟨0, Nat.zero_le _, rfl, Aft.refl _⟩
            case round =>
              obtain ⟨k, hk, rfl, ha⟩ := hrel
              have HAR := Lib.hid ha
              have tb2 := ha.cell_kept tb
              by_cases hlt2 : k < t.rules.length
              · obtain ⟨b7, off7, D2, capD2, hAA, hb7, r0, r1, r2, r3, r4, r5, r6, r7, hcs, _⟩ := rul_at (ruls_aft (HA2.out.trans ha) h2) hlt2
                subst hAA
                have hno := fun (g3 : (t.rules[k].kind == 3) = true) (g0 : 0 < t.rules[k].cols.length) (gn : eqS t.rules[k].cols[0] c.name = true) => no_out HF.out hlt hlc hlt2 g3 g0 (by rw [HCC.out]; exact gn)
                obtain ⟨p, hpp⟩ : ∃ p, t.rules[k] = p := ⟨_, rfl⟩
                have HNO := Lib.hid (show (p.kind == 3) = true → ∀ g0 : 0 < p.cols.length, eqS p.cols[0] c.name = true → outB v p = false by
                  subst hpp
                  intro g3 g0 gn
                  rw [← HVV.out]
                  exact hno g3 g0 gn)
                rw [hpp] at r0 r1 r2 r3 r4 r5 r6 r7 hcs
                have hlcs := hcs.len
                clear hno hpp
                obtain ⟨V, hV⟩ : ∃ V, V = wr.alloc (.cells #[.string p.name, .int .i64 p.kind, .slice D2 p.cols.length capD2, .int .i64 p.low, .int .i64 p.high, .string p.schema, .string p.table, .string p.key] 66) := ⟨_, rfl⟩
                have aV : Aft wr V := by rw [hV]; exact (Aft.refl wr).alloc _
                have hbV : ∀ o, V.cell? ⟨wr.heap.size, o, none⟩ = (#[.string p.name, .int .i64 p.kind, .slice D2 p.cols.length capD2, .int .i64 p.low, .int .i64 p.high, .string p.schema, .string p.table, .string p.key] : Array Value)[o]? := by intro o; rw [hV]; simp
                have hzV : wr.heap.size < V.heap.size := by rw [hV]; simp
                have e0V := aV.cell_kept (ha.cell_kept e0)
                have z0V := aV.cell_kept (ha.cell_kept z0)
                have z1V := aV.cell_kept (ha.cell_kept z1)
                have l0V := World.block_lt_of_cell? _ _ e0V
                have l1V := World.block_lt_of_cell? _ _ z0V
                have HAV := Lib.hid aV
                have hcsV := strs_aft aV hcs
                go_wp2_with fail
                rw [← hV]
                clear hV r0 r1 r2 r3 r4 r5 r6 r7 ha aV hcs e0 z0 z1 tb tb2
                cases g3 : (p.kind == 3)
                · clear hcsV
                  refine wp_region_lat (by kernel_rfl) (by kernel_rfl) ?_
                  repeat (go_big_quiet_step (fail))
                  refine wpQuiet_nil ?_
                  intro _ hw'
                  obtain ⟨x2, hw''⟩ := hw'
                  subst hw''
                  go_wp2_with fail
                  go_roundw
                  case rel => exact ⟨k + 1, by omega, by go_num, (HAR.out.trans HAV.out).lat x2⟩
                  case measure => simp [intOf]; omega
                by_cases g1 : p.cols.length = 1
                · have g1' : ((p.cols.length : Int) == 1) = true := by simp [g1]
                  have g0 : 0 < p.cols.length := by omega
                  obtain ⟨b5, off5, hD, hb5, s5, _⟩ := str_at hcsV g0
                  subst hD
                  have s5' : V.cell? ⟨b5, off5, none⟩ = some (.string p.cols[0]) := by simpa using s5
                  have gI : (0 : Int) < (p.cols.length : Int) := by omega
                  have HN1 := Lib.hid (HNO.out g3 g0)
                  clear s5 hcsV g1
                  cases gn : eqS p.cols[0] c.name
                  · have gn' : (p.cols[0].toList == c.name.toList) = false := gn
                    clear gn
                    refine wp_region_lat (by kernel_rfl) (by kernel_rfl) ?_
                    repeat (go_big_quiet_step (fail))
                    refine wpQuiet_nil ?_
                    intro _ hw'
                    obtain ⟨x2, hw''⟩ := hw'
                    subst hw''
                    go_wp2_with fail
                    go_roundw
                    case rel => exact ⟨k + 1, by omega, by go_num, (HAR.out.trans HAV.out).lat x2⟩
                    case measure => simp [intOf]; omega
                  have gn' : (p.cols[0].toList == c.name.toList) = true := gn
                  have HO := Lib.hid (HN1.out gn)
                  clear gn
                  cases gv : (v.kind == 2)
                  · refine wp_region_lat (by kernel_rfl) (by kernel_rfl) ?_
                    repeat (go_big_quiet_step (fail))
                    refine wpQuiet_nil ?_
                    intro _ hw'
                    obtain ⟨x2, hw''⟩ := hw'
                    subst hw''
                    go_wp2_with fail
                    go_roundw
                    case rel => exact ⟨k + 1, by omega, by go_num, (HAR.out.trans HAV.out).lat x2⟩
                    case measure => simp [intOf]; omega
                  have dd : decide (v.int < p.low) = false ∧ decide (p.high < v.int) = false := by
                    have := HO.out
                    unfold outB at this
                    rw [gv, Bool.true_and, Bool.or_eq_false_iff] at this
                    exact this
                  have d1 : decide (v.int < p.low) = false := dd.1
                  have d2 : decide (p.high < v.int) = false := dd.2
                  have d1n : ¬ v.int < p.low := of_decide_eq_false d1
                  have d2n : ¬ p.high < v.int := of_decide_eq_false d2
                  clear dd
                  refine wp_region_lat (by kernel_rfl) (by kernel_rfl) ?_
                  repeat (go_big_quiet_step (fail))
                  refine wpQuiet_nil ?_
                  intro _ hw'
                  obtain ⟨x2, hw''⟩ := hw'
                  subst hw''
                  go_wp2_with fail
                  go_roundw
                  case rel => exact ⟨k + 1, by omega, by go_num, (HAR.out.trans HAV.out).lat x2⟩
                  case measure => simp [intOf]; omega
                · have g1' : ((p.cols.length : Int) == 1) = false := by simp; omega
                  clear hcsV
                  refine wp_region_lat (by kernel_rfl) (by kernel_rfl) ?_
                  repeat (go_big_quiet_step (fail))
                  refine wpQuiet_nil ?_
                  intro _ hw'
                  obtain ⟨x2, hw''⟩ := hw'
                  subst hw''
                  go_wp2_with fail
                  go_roundw
                  case rel => exact ⟨k + 1, by omega, by go_num, (HAR.out.trans HAV.out).lat x2⟩
                  case measure => simp [intOf]; omega
              · clear ha
                go_wp2_with fail
                go_roundw
                case rel => exact ⟨i + 1, by omega, by go_num, HAB2'.out.trans HAR.out⟩
                case measure => simp [intOf]; omega
          · have k1' : (v.kind != 1) = false := by simpa using k1
            have hbW2' : W.cell? ⟨wr.heap.size, 2, none⟩ = some (.bool true) := by
              have k2 : c.null = true := by rw [k1] at q1; simpa using q1
              rw [hbW2, k2]
            clear q1 q2 hbW hbW2
            refine wp_region_lat (by kernel_rfl) (by kernel_rfl) ?_
            repeat (go_big_quiet_step (fail))
            refine wpQuiet_nil ?_
            intro _ hw'
            obtain ⟨x, hw''⟩ := hw'
            subst hw''
            obtain ⟨W2, hW2⟩ : ∃ W2, W2 = lat W x := ⟨_, rfl⟩
            have aW2 : Aft W W2 := by rw [hW2]; exact (Aft.refl W).lat x
            have e0 := aW2.cell_kept hbW0
            have z0 := aW2.cell_kept d0'
            have z1 := aW2.cell_kept d1'
            have tb := aW2.cell_kept HTB.out
            have HA2 := Lib.hid (HAW.out.trans aW2)
            have HAB2' := Lib.hid (HABW.out.trans aW2)
            rw [← hW2]
            clear hW2 aW2 hbW0 hbW1 hbW2' d0' d1' d2' hbt hfr
            go_wp2_with fail
            go_loopw [7] (fun i wrr => ∃ k : Nat, k ≤ t.rules.length ∧ i = .int .i64 k ∧ Aft W2 wrr) (fun i _ => t.rules.length - (intOf i).toNat)
            case atStart => exact ⟨0, Nat.zero_le _, rfl, Aft.refl _⟩
            case round =>
              obtain ⟨k, hk, rfl, ha⟩ := hrel
              have HAR := Lib.hid ha
              have tb2 := ha.cell_kept tb
              by_cases hlt2 : k < t.rules.length
              · obtain ⟨b7, off7, D2, capD2, hAA, hb7, r0, r1, r2, r3, r4, r5, r6, r7, hcs, _⟩ := rul_at (ruls_aft (HA2.out.trans ha) h2) hlt2
                subst hAA
                have hno := fun (g3 : (t.rules[k].kind == 3) = true) (g0 : 0 < t.rules[k].cols.length) (gn : eqS t.rules[k].cols[0] c.name = true) => no_out HF.out hlt hlc hlt2 g3 g0 (by rw [HCC.out]; exact gn)
                obtain ⟨p, hpp⟩ : ∃ p, t.rules[k] = p := ⟨_, rfl⟩
                have HNO := Lib.hid (show (p.kind == 3) = true → ∀ g0 : 0 < p.cols.length, eqS p.cols[0] c.name = true → outB v p = false by
                  subst hpp
                  intro g3 g0 gn
                  rw [← HVV.out]
                  exact hno g3 g0 gn)
                rw [hpp] at r0 r1 r2 r3 r4 r5 r6 r7 hcs
                have hlcs := hcs.len
                clear hno hpp
                obtain ⟨V, hV⟩ : ∃ V, V = wr.alloc (.cells #[.string p.name, .int .i64 p.kind, .slice D2 p.cols.length capD2, .int .i64 p.low, .int .i64 p.high, .string p.schema, .string p.table, .string p.key] 66) := ⟨_, rfl⟩
                have aV : Aft wr V := by rw [hV]; exact (Aft.refl wr).alloc _
                have hbV : ∀ o, V.cell? ⟨wr.heap.size, o, none⟩ = (#[.string p.name, .int .i64 p.kind, .slice D2 p.cols.length capD2, .int .i64 p.low, .int .i64 p.high, .string p.schema, .string p.table, .string p.key] : Array Value)[o]? := by intro o; rw [hV]; simp
                have hzV : wr.heap.size < V.heap.size := by rw [hV]; simp
                have e0V := aV.cell_kept (ha.cell_kept e0)
                have z0V := aV.cell_kept (ha.cell_kept z0)
                have z1V := aV.cell_kept (ha.cell_kept z1)
                have l0V := World.block_lt_of_cell? _ _ e0V
                have l1V := World.block_lt_of_cell? _ _ z0V
                have HAV := Lib.hid aV
                have hcsV := strs_aft aV hcs
                go_wp2_with fail
                rw [← hV]
                clear hV r0 r1 r2 r3 r4 r5 r6 r7 ha aV hcs e0 z0 z1 tb tb2
                cases g3 : (p.kind == 3)
                · clear hcsV
                  refine wp_region_lat (by kernel_rfl) (by kernel_rfl) ?_
                  repeat (go_big_quiet_step (fail))
                  refine wpQuiet_nil ?_
                  intro _ hw'
                  obtain ⟨x2, hw''⟩ := hw'
                  subst hw''
                  go_wp2_with fail
                  go_roundw
                  case rel => exact ⟨k + 1, by omega, by go_num, (HAR.out.trans HAV.out).lat x2⟩
                  case measure => simp [intOf]; omega
                by_cases g1 : p.cols.length = 1
                · have g1' : ((p.cols.length : Int) == 1) = true := by simp [g1]
                  have g0 : 0 < p.cols.length := by omega
                  obtain ⟨b5, off5, hD, hb5, s5, _⟩ := str_at hcsV g0
                  subst hD
                  have s5' : V.cell? ⟨b5, off5, none⟩ = some (.string p.cols[0]) := by simpa using s5
                  have gI : (0 : Int) < (p.cols.length : Int) := by omega
                  have HN1 := Lib.hid (HNO.out g3 g0)
                  clear s5 hcsV g1
                  cases gn : eqS p.cols[0] c.name
                  · have gn' : (p.cols[0].toList == c.name.toList) = false := gn
                    clear gn
                    refine wp_region_lat (by kernel_rfl) (by kernel_rfl) ?_
                    repeat (go_big_quiet_step (fail))
                    refine wpQuiet_nil ?_
                    intro _ hw'
                    obtain ⟨x2, hw''⟩ := hw'
                    subst hw''
                    go_wp2_with fail
                    go_roundw
                    case rel => exact ⟨k + 1, by omega, by go_num, (HAR.out.trans HAV.out).lat x2⟩
                    case measure => simp [intOf]; omega
                  have gn' : (p.cols[0].toList == c.name.toList) = true := gn
                  have HO := Lib.hid (HN1.out gn)
                  clear gn
                  cases gv : (v.kind == 2)
                  · refine wp_region_lat (by kernel_rfl) (by kernel_rfl) ?_
                    repeat (go_big_quiet_step (fail))
                    refine wpQuiet_nil ?_
                    intro _ hw'
                    obtain ⟨x2, hw''⟩ := hw'
                    subst hw''
                    go_wp2_with fail
                    go_roundw
                    case rel => exact ⟨k + 1, by omega, by go_num, (HAR.out.trans HAV.out).lat x2⟩
                    case measure => simp [intOf]; omega
                  have dd : decide (v.int < p.low) = false ∧ decide (p.high < v.int) = false := by
                    have := HO.out
                    unfold outB at this
                    rw [gv, Bool.true_and, Bool.or_eq_false_iff] at this
                    exact this
                  have d1 : decide (v.int < p.low) = false := dd.1
                  have d2 : decide (p.high < v.int) = false := dd.2
                  have d1n : ¬ v.int < p.low := of_decide_eq_false d1
                  have d2n : ¬ p.high < v.int := of_decide_eq_false d2
                  clear dd
                  refine wp_region_lat (by kernel_rfl) (by kernel_rfl) ?_
                  repeat (go_big_quiet_step (fail))
                  refine wpQuiet_nil ?_
                  intro _ hw'
                  obtain ⟨x2, hw''⟩ := hw'
                  subst hw''
                  go_wp2_with fail
                  go_roundw
                  case rel => exact ⟨k + 1, by omega, by go_num, (HAR.out.trans HAV.out).lat x2⟩
                  case measure => simp [intOf]; omega
                · have g1' : ((p.cols.length : Int) == 1) = false := by simp; omega
                  clear hcsV
                  refine wp_region_lat (by kernel_rfl) (by kernel_rfl) ?_
                  repeat (go_big_quiet_step (fail))
                  refine wpQuiet_nil ?_
                  intro _ hw'
                  obtain ⟨x2, hw''⟩ := hw'
                  subst hw''
                  go_wp2_with fail
                  go_roundw
                  case rel => exact ⟨k + 1, by omega, by go_num, (HAR.out.trans HAV.out).lat x2⟩
                  case measure => simp [intOf]; omega
              · clear ha
                go_wp2_with fail
                go_roundw
                case rel => exact ⟨i + 1, by omega, by go_num, HAB2'.out.trans HAR.out⟩
                case measure => simp [intOf]; omega
        · go_wp2_with fail
          refine (fits11_any _).mono ?_
          rintro e w9 ⟨rfl, a9⟩
          have HA9 := Lib.hid (HA.out.trans a9)
          clear a9
          go_wp2_with fail
          go_ret
          exact ⟨rfl, HA9.out⟩
    · go_wp2_with fail
      refine (fits11_any _).mono ?_
      rintro e w9 ⟨rfl, a9⟩
      have HA9 := Lib.hid (HA.out.trans a9)
      clear a9
      go_wp2_with fail
      go_ret
      exact ⟨rfl, HA9.out⟩
  · go_wp2_with fail
    go_ret
    exact ⟨rfl, HA.out⟩
end Go.Proofs.Ytodifdofgjfkiaa
