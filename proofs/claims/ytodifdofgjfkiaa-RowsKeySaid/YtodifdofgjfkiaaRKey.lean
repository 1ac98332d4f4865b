/- rows.Key. -/
import Derived.Test.YtodifdofgjfkiaaKeyLaw
import Derived.Test.YtodifdofgjfkiaaAlone
import Derived.Deep.Onto
namespace Go.Proofs.Ytodifdofgjfkiaa
open Go.RowKit
set_option maxRecDepth 100000
set_option linter.unusedVariables false
theorem small8' {n : Nat} (h : n ≤ 8) : Small (n * 16) := by unfold Small; omega
theorem any_iff {α : Type} (p : α → Bool) (l : List α) : l.any p = true ↔ 0 ≤ idxP p l := by
  induction l with
  | nil => simp [idxP]
  | cons x l ih =>
    rw [List.any_cons, Bool.or_eq_true, ih]
    simp only [idxP]
    by_cases hx : p x = true
    · rw [if_pos hx]; simp [hx]
    · rw [if_neg hx]
      by_cases hy : idxP p l < 0
      · rw [if_pos hy]
        constructor
        · intro h; rcases h with h | h
          · exact absurd h hx
          · omega
        · intro h; omega
      · rw [if_neg hy]
        constructor
        · intro h; omega
        · intro h; right; omega
theorem any_idx {α : Type} (p : α → Bool) (l : List α) : l.any p = decide (0 ≤ idxP p l) := by
  rw [Bool.eq_iff_iff, any_iff]; simp
set_option maxHeartbeats 1000000 in
theorem key1_any (name : ByteArray) (kind : Int) (A0 : Option Addr) (n0 c0 : Nat) (lo hi : Int) (rs rt rk : ByteArray) (s : ByteArray) (b1 : Nat) (w : World) (hb1 : b1 < w.heap.size) (hc1 : w.cell? ⟨b1, 0, none⟩ = some (.string s)) :
    Calls Try.prog 108 #[.agg #[.string name, .int .i64 kind, .slice A0 n0 c0, .int .i64 lo, .int .i64 hi, .string rs, .string rt, .string rk], .pointer (some ⟨b1, 0, none⟩)] w fun e w' => e = .returned (.bool (eqS name s)) ∧ Aft w w' := by
  go_enter Try.func108, Try.ntmps108
  go_wp2_with fail
  go_ret
  exact ⟨rfl, (Aft.refl _).alloc _⟩
set_option maxHeartbeats 2000000 in
theorem index_any (A : Option Addr) (cap : Nat) (l : List Val) (v : Val) (w : World) (h : SlAt w 3 ValR A cap l) :
    Calls Try.prog 145 #[.slice A l.length cap, .agg #[.int .i64 v.kind, .int .i64 v.int, .string v.text]] w fun e w' => e = .returned (.int .i64 (idxP (fun x => eqV v x) l)) ∧ Aft w w' := by
  have hlen := h.len
  go_enter Try.func145, Try.ntmps145
  go_wp2_with fail
  go_loopw [8] (fun i wr => ∃ k : Nat, k ≤ l.length ∧ i = .int .i64 k ∧ Aft (w.alloc (.cells #[.int .i64 v.kind, .int .i64 v.int, .string v.text] 48)) wr ∧ ∀ j, j < k → ∀ (hj : j < l.length), eqV v l[j] = false) (fun i _ => l.length - (intOf i).toNat)
  case atStart => exact ⟨0, Nat.zero_le _, rfl, Aft.refl _, fun j hj => absurd hj (Nat.not_lt_zero j)⟩
  case round =>
    obtain ⟨k, hk, rfl, ha, hp⟩ := hrel
    have HP := Lib.hid hp; clear hp
    obtain ⟨hb, hfr, hz, hzk, HA⟩ := aft_box ha
    have HAB := Lib.hid ha
    clear ha
    by_cases hlt : k < l.length
    · obtain ⟨b, off, rfl, hbb, c0, c1, c2, _⟩ := val_at (vals_aft HA.out h) hlt
      cases heq : eqV v l[k]
      · have h3 : eqV3 v.kind v.int v.text l[k].kind l[k].int l[k].text = false := heq
        have HN := Lib.hid (ext_lt (p := fun j => ∀ (hj : j < l.length), eqV v l[j] = false) HP.out (fun _ => heq))
        clear heq
        go_wp2_with fail
        refine wp_region_lat (by kernel_rfl) (by kernel_rfl) ?_
        repeat (go_big_quiet_step (fail))
        refine wpQuiet_nil ?_
        intro _ hw'
        obtain ⟨x, hw''⟩ := hw'
        subst hw''
        go_wp2_with fail
        go_roundw
        case rel => exact ⟨k + 1, by omega, by go_num, HAB.out.lat x, HN.out⟩
        case measure => simp [intOf]; omega
      · have h3 : eqV3 v.kind v.int v.text l[k].kind l[k].int l[k].text = true := heq
        have HN := Lib.hid (idxP_some (fun x => eqV v x) l k hlt heq fun i hi => HP.out i hi (by omega))
        clear heq
        go_wp2_with fail
        refine wp_region_lat (by kernel_rfl) (by kernel_rfl) ?_
        repeat (go_big_quiet_step (fail))
        refine wpQuiet_nil ?_
        intro _ hw'
        obtain ⟨x, hw''⟩ := hw'
        subst hw''
        go_wp2_with fail
        go_ret
        exact ⟨by rw [HN.out]; rfl, HA.out.lat x⟩
    · have HN := Lib.hid (idxP_none (fun x => eqV v x) l fun i hi => HP.out i (by omega) hi)
      go_wp2_with fail
      go_ret
      exact ⟨by rw [HN.out]; rfl, HA.out⟩
set_option maxHeartbeats 1000000 in
theorem containsV_any (A : Option Addr) (cap : Nat) (l : List Val) (v : Val) (w : World) (h : SlAt w 3 ValR A cap l) :
    Calls Try.prog 109 #[.slice A l.length cap, .agg #[.int .i64 v.kind, .int .i64 v.int, .string v.text]] w fun e w' => e = .returned (.bool (l.any fun x => eqV v x)) ∧ Aft w w' := by
  have C := Lib.hid (show ∀ w', Aft w w' → _ from fun w' a => index_any A cap l v w' (vals_aft a h))
  have HN := Lib.hid (any_idx (fun x => eqV v x) l)
  go_enter Try.func109, Try.ntmps109
  go_wp2_with fail
  refine (C.out _ ((Aft.refl w).alloc _)).mono ?_
  rintro e w1 ⟨rfl, a1⟩
  have HA := Lib.hid (((Aft.refl w).alloc _).trans a1)
  clear a1
  go_wp2_with fail
  go_ret
  exact ⟨by rw [HN.out]; rfl, HA.out⟩
set_option maxHeartbeats 8000000 in
theorem key_row (t : Tab) (s : ByteArray) (row : List Val) (A : Option Addr) (cap : Nat) (A2 : Option Addr) (cap2 : Nat) (B : Option Addr) (capB : Nat) (w : World) (h : SlAt w 3 ColR A cap t.cols) (h2 : SlAt w 8 RulR A2 cap2 t.rules) (h3 : SlAt w 3 ValR B capB row) (hb : t.rules.length ≤ 1000000) :
    Calls Try.prog 46 #[.agg #[.string t.schema, .string t.name, .string t.owner, .slice A t.cols.length cap, .slice A2 t.rules.length cap2], .string s, .slice B row.length capB] w (KeyP w (keyVs t s row) (keyB t s row) (keyC t s row)) := by
  have hlen := h.len
  have hlen2 := h2.len
  have hlen3 := h3.len
  obtain ⟨c, hc⟩ : ∃ c, tableOk t = c := ⟨_, rfl⟩
  obtain ⟨f, hf⟩ : ∃ f, besideB formB t.cols row = f := ⟨_, rfl⟩
  obtain ⟨x, hx⟩ : ∃ x, rulAt t.rules s = x := ⟨_, rfl⟩
  have hent := enters (P := Try.prog) Try.func108 (by kernel_rfl) rfl
  have Ci := Lib.hid ((idxRul A2 cap2 t.rules 108 #[.pointer (some ⟨w.heap.size + 1, 0, none⟩)] (fun c => eqS c.name s) ((w.alloc (.cells #[.string t.schema, .string t.name, .string t.owner, .slice A t.cols.length cap, .slice A2 t.rules.length cap2] 34)).alloc (.cells #[.string s] 9)) (ruls_aft (((Aft.refl w).alloc _).alloc _) h2) hent (fun w' ha i hi e1 he => by
    obtain ⟨A2, cap2, rfl, _⟩ := he
    obtain ⟨hb1, hb2, hz, _⟩ := aft_box2 ha
    exact key1_any _ _ _ _ _ _ _ _ _ _ s (w.heap.size + 1) w' hz.2 (hb2 0))).mono (fun e w' ⟨he, hw⟩ => (⟨he.trans (by rw [← hx]; rfl), hw⟩ : e = Ending.returned (Value.int .i64 x) ∧ Aft _ w')))
  have Ck := Lib.hid (show ∀ w', Aft w w' → Calls Try.prog 33 #[.agg #[.string t.schema, .string t.name, .string t.owner, .slice A t.cols.length cap, .slice A2 t.rules.length cap2]] w' fun e w'' => e = .returned (.int .i64 (if c = true then 0 else 1)) ∧ Aft w' w'' from
    fun w' a => (rcheck_any t A cap A2 cap2 w' (cols_aft a h) (ruls_aft a h2) hb).mono fun e w'' ⟨he, hw⟩ => ⟨he.trans (by rw [hc]), hw⟩)
  have Cf := Lib.hid (show ∀ w', Aft w w' → Calls Try.prog 100 #[.slice A t.cols.length cap, .slice B row.length capB] w' fun e w'' => e = .returned (.bool f) ∧ Aft w' w'' from
    fun w' a => (formed_any A cap t.cols B capB row w' (cols_aft a h) (vals_aft a h3)).mono fun e w'' ⟨he, hw⟩ => ⟨he.trans (by rw [hf]), hw⟩)
  have HT := Lib.hid hc
  have HFo := Lib.hid hf
  have HX := Lib.hid hx
  obtain ⟨i0, hi, hz0, hz1, hz2⟩ := info_parts infoV
  have HI := Lib.hid hi
  have HZ0 := Lib.hid hz0
  have HZ1 := Lib.hid hz1
  have HZ2 := Lib.hid hz2
  clear hi hz0 hz1 hz2 hc hf hx hent
  go_enter Try.func46, Try.ntmps46
  go_wp2_with fail
  refine Ci.out.mono ?_
  rintro e w1 ⟨rfl, a1⟩
  obtain ⟨hbt, hbs, hz, HA1⟩ := aft_box2 a1
  have HAB1 := Lib.hid a1
  clear a1 Ci
  go_wp2_with fail
  refine (Ck.out _ HA1.out).mono ?_
  rintro e w2 ⟨rfl, a2⟩
  have HAB2 := Lib.hid (HAB1.out.trans a2)
  clear a2 Ck hbt hbs hz HA1 HAB1
  obtain ⟨hbt, hbs, hz, HA2⟩ := aft_box2 HAB2.out
  cases c
  · have HC := Lib.hid (keyC_1 (s := s) (row := row) HT.out)
    have HK := Lib.hid (key_no (by rw [HC.out]; decide : ¬ keyC t s row = 0))
    go_wp2_with fail
    go_ret3
    exact ⟨_, by rw [HC.out, HK.out.2]; rfl, HA2.out, by rw [HK.out.1]; exact own_nil _ _ _ _⟩
  by_cases hx0 : x < 0
  · have HC := Lib.hid (keyC_61 (row := row) HT.out (by rw [HX.out]; exact hx0))
    have HK := Lib.hid (key_no (by rw [HC.out]; decide : ¬ keyC t s row = 0))
    go_wp2_with fail
    go_ret3
    exact ⟨_, by rw [HC.out, HK.out.2]; rfl, HA2.out, by rw [HK.out.1]; exact own_nil _ _ _ _⟩
  go_wp2_with fail
  refine (Cf.out _ HA2.out).mono ?_
  rintro e w3 ⟨rfl, a3⟩
  have HAB3 := Lib.hid (HAB2.out.trans a3)
  clear a3 Cf hbt hbs hz HA2 HAB2
  obtain ⟨hbt, hbs, hz, HA3⟩ := aft_box2 HAB3.out
  cases f
  · have HC := Lib.hid (keyC_100 HT.out (by rw [HX.out]; omega) HFo.out)
    have HK := Lib.hid (key_no (by rw [HC.out]; decide : ¬ keyC t s row = 0))
    go_wp2_with fail
    go_ret3
    exact ⟨_, by rw [HC.out, HK.out.2]; rfl, HA3.out, by rw [HK.out.1]; exact own_nil _ _ _ _⟩
  obtain ⟨q, rfl⟩ := Int.eq_ofNat_of_zero_le (show 0 ≤ x by omega)
  have hql := rulAt_lt HX.out
  have HC := Lib.hid (keyC_0 HT.out (by rw [HX.out]; omega) HFo.out)
  have HK := Lib.hid (key_yes HC.out)
  have HKC := Lib.hid (keyCols_at HX.out hql)
  have HLL := Lib.hid (show t.cols.length = row.length from ((besideB_iff formB t.cols row).1 HFo.out).1)
  have htf := table_fits HT.out hql
  obtain ⟨b, off, D2, capD2, hAA, hb0, c0, c1, c2, c3, c4, c5, c6, c7, hcs, _⟩ := rul_at (ruls_aft HA3.out h2) hql
  subst hAA
  obtain ⟨p, hpp⟩ : ∃ p, t.rules[q] = p := ⟨_, rfl⟩
  rw [hpp] at c0 c1 c2 c3 c4 c5 c6 c7 hcs htf
  rw [hpp] at HKC
  have hp8 : p.cols.length ≤ 8 := fits_len (table_colsK HT.out) htf
  have HFO := Lib.hid (fits_of htf HLL.out)
  have HMAY := Lib.hid (of_may htf HFo.out)
  have HRS := Lib.hid (show ∀ v ∈ row, Small v.text.size by intro v hv; obtain ⟨i, hi, rfl⟩ := List.getElem_of_mem hv; exact val_small h3 i hi)
  clear hpp htf
  go_wp2_with fail
  clear c0 c1 c2 c3 c4 c5 c6 c7 hbt hbs hz
  go_loopw [10, 37] (fun v i wr => ∃ k : Nat, k ≤ p.cols.length ∧ i = .int .i64 k ∧ Aft w3 wr ∧ wr.ownsRow w3.heap.size 48 3 v k ((ofVs t.cols (p.cols.take k) row).flatMap cellsV)) (fun _ i _ => p.cols.length - (intOf i).toNat)
  case atStart => exact ⟨0, Nat.zero_le _, rfl, Aft.refl _, own_nil _ _ _ _⟩
  case round =>
    obtain ⟨k, hk, rfl, ha, hown⟩ := hrel
    obtain ⟨hbt, hbs, hz, HA⟩ := aft_box2 (HAB3.out.trans ha)
    have HAR := Lib.hid ha
    have HO := Lib.hid hown
    clear hown
    by_cases hlt : k < p.cols.length
    · obtain ⟨b5, off5, hD, hb5, g5, _⟩ := str_at (strs_aft ha hcs) hlt
      subst hD
      obtain ⟨z, hz0, hzr⟩ := HFO.out k hlt
      obtain ⟨b6, off6, hBB, hb6, v0, v1, v2, _⟩ := val_at (vals_aft HA.out h3) hzr
      subst hBB
      have HS := Lib.hid (show ofVs t.cols (p.cols.take (k + 1)) row = ofVs t.cols (p.cols.take k) row ++ [row[z]] by rw [ofVs_succ _ _ _ k hlt, hz0, valAt_get hzr])
      have Cp := Lib.hid (show Calls Try.prog 101 #[.slice A t.cols.length cap, .string p.cols[k]] wr fun e w'' => e = .returned (.int .i64 z) ∧ Aft wr w'' from
        (place_any A cap t.cols p.cols[k] wr (cols_aft HA.out h)).mono fun e w'' ⟨he, hw⟩ => ⟨he.trans (by rw [hz0]), hw⟩)
      clear ha hz0
      go_wp2_with fail
      refine Cp.out.mono ?_
      rintro e w4 ⟨rfl, a4⟩
      have HA4 := Lib.hid (HA.out.trans a4)
      have HAR4 := Lib.hid (HAR.out.trans a4)
      have O4 := Lib.hid (own_aft HO.out a4)
      have x0 := a4.cell_kept v0
      have x1 := a4.cell_kept v1
      have x2 := a4.cell_kept v2
      have x3 := Nat.lt_of_lt_of_le hb6 a4.size
      clear a4 Cp v0 v1 v2
      go_wp2_with (at_builtin; refine wpList_append_own _ rfl (.tmp 41) (.tmp 49) 49 rfl w3.heap.size 48 i0 (.agg #[.int .i64 0, .int .i64 0, .string ByteArray.empty]) 3 32 Try.underlying49 HI.out HZ0.out HZ1.out HZ2.out rfl (by decide) _ _ _ rfl (O4.out.alloc _) ⟨w4.heap.size, 0, none⟩ 1 1 [.int .i64 row[z].kind, .int .i64 row[z].int, .string row[z].text] rfl rfl ?c1 ?c2 ?c3 ?c4 ?c5 ?_)
      case c1 => intro j u hj; rw [add_mk, Nat.zero_add]; exact (World.cell?_alloc_at _ _ _ _ rfl).trans (by simpa using hj)
      case c2 => intro u hu; simp only [List.mem_cons, List.not_mem_nil, or_false] at hu; rcases hu with rfl | rfl | rfl <;> simp [Value.oneCell']
      case c3 => unfold maxLen; omega
      case c4 => omega
      case c5 => have := HAR4.out.size; simp; omega
      intro v' w5 hown' hgrow _
      have HA5 := Lib.hid (aft_grown (O4.out.alloc _) (HAR4.out.alloc _) hgrow)
      have HO5 := Lib.hid hown'
      clear hown' hgrow
      go_wp2_with fail
      go_roundw
      case rel => exact ⟨k + 1, by omega, by go_num, HA5.out, by rw [HS.out]; simpa [List.flatMap_append, cellsV] using HO5.out⟩
      case measure => simp [intOf]; omega
    · have e1 : p.cols.take k = p.cols := List.take_of_length_le (by omega)
      have e2 : k = p.cols.length := by omega
      have ho := HO.out
      rw [e1, e2, ← ofVs_len t.cols p.cols row] at ho
      obtain ⟨L, hL⟩ : ∃ L, ofVs t.cols p.cols row = L := ⟨_, rfl⟩
      rw [hL] at ho
      have hL8 : L.length ≤ 8 := by rw [← hL, ofVs_len]; exact hp8
      have HLS := Lib.hid (show ∀ v ∈ L, Small v.text.size by
        rw [← hL]
        intro v hv
        obtain ⟨s', hs', rfl⟩ := List.mem_map.1 hv
        obtain ⟨j, hj, rfl⟩ := List.getElem_of_mem hs'
        obtain ⟨z, hz0, hzr⟩ := HFO.out j hj
        rw [hz0, valAt_get hzr]
        exact HRS.out _ (List.getElem_mem hzr))
      obtain ⟨G, capG, heqG, hG⟩ := own_vals ho (small8' hL8) HLS.out
      have HOW := Lib.hid (World.ownsRow.mono ho HA3.out.size)
      have HWB := Lib.hid (show (!(L.any fun x => eqV nullV x)) = wholeB L from hasN_whole (by rw [← hL]; exact HMAY.out))
      have Cc := Lib.hid (containsV_any G capG L nullV wr hG)
      have HVS := Lib.hid (show keyVs t s row = L by rw [HK.out.1, HKC.out, hL])
      have HVB := Lib.hid (show keyB t s row = wholeB L by rw [HK.out.2, HKC.out, hL])
      subst heqG
      clear ha ho hG hL e1
      obtain ⟨bb, hbb⟩ : ∃ b, (L.any fun x => eqV nullV x) = b := ⟨_, rfl⟩
      rw [hbb] at Cc HWB
      clear hbb
      go_wp2_with fail
      refine Cc.out.mono ?_
      rintro e w5 ⟨rfl, a5⟩
      have HA5 := Lib.hid (HA3.out.trans (HAR.out.trans a5))
      have HO5 := Lib.hid (own_aft HOW.out a5)
      clear a5
      go_wp2_with fail
      go_ret3
      exact ⟨_, by rw [HC.out, HVB.out, ← HWB.out]; rfl, HA5.out, by rw [HVS.out]; exact HO5.out⟩
end Go.Proofs.Ytodifdofgjfkiaa
