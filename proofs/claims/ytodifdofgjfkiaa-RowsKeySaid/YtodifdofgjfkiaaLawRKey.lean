/- The law RowsKey, walked. -/
import Derived.Test.YtodifdofgjfkiaaLawRTurn
import Derived.Test.YtodifdofgjfkiaaRKey
import Derived.Test.YtodifdofgjfkiaaRefKeyR
namespace Go.Proofs.Ytodifdofgjfkiaa
open Go.RowKit
set_option maxRecDepth 100000
set_option linter.unusedVariables false
theorem key_exC : keyC oneT ⟨#[107]⟩ [v5, va] = 0 := by decide +kernel
theorem key_exB : keyB oneT ⟨#[107]⟩ [v5, va] = true := by decide +kernel
theorem key_exV : keyVs oneT ⟨#[107]⟩ [v5, va] = [va, v5] := by kernel_rfl
theorem key_exC2 : keyC oneT ⟨#[107]⟩ [v5, vn] = 0 := by decide +kernel
theorem key_exB2 : keyB oneT ⟨#[107]⟩ [v5, vn] = false := by decide +kernel
theorem key_exV2 : keyVs oneT ⟨#[107]⟩ [v5, vn] = [vn, v5] := by kernel_rfl
theorem key_one (A A2 : Option Addr) (w0 w : World) (a : Aft w0 w) (h1 : SlAt w0 3 ColR A 2 oneT.cols) (h2 : SlAt w0 8 RulR A2 2 oneT.rules) (l : List Val) (hs : ∀ v ∈ l, Small v.text.size) (h16 : Small (l.length * 16)) :
    Calls Try.prog 46 #[.agg #[.string ⟨#[]⟩, .string ⟨#[]⟩, .string ⟨#[]⟩, .slice A 2 2, .slice A2 2 2], .string ⟨#[107]⟩, .slice (some ⟨w.heap.size, 0, none⟩) l.length l.length] (w.alloc (.cells (l.flatMap valCells).toArray 48)) (KeyP (w.alloc (.cells (l.flatMap valCells).toArray 48)) (keyVs oneT ⟨#[107]⟩ l) (keyB oneT ⟨#[107]⟩ l) (keyC oneT ⟨#[107]⟩ l)) :=
  key_row oneT ⟨#[107]⟩ l A 2 A2 2 _ l.length _ (cols_aft (a.alloc _) h1) (ruls_aft (a.alloc _) h2) (vals_box l hs h16) (by decide)
set_option maxHeartbeats 4000000 in
theorem keys_any (w : World) : Calls Try.prog 48 #[] w fun e w' => e = .returned (.bool true) ∧ Aft w w' := by
  go_enter Try.func48, Try.ntmps48
  go_wp2_with fail
  refine (one11_any _).mono ?_
  rintro e w1 ⟨A, A2, rfl, a1, h1, h2⟩
  go_wp2_with fail
  refine (num_any _ _).mono ?_
  rintro e w2 ⟨rfl, a2⟩
  go_wp2_with fail
  refine (word_any _ _).mono ?_
  rintro e w3 ⟨rfl, a3⟩
  have C1 := key_one A A2 w1 w3 (a2.trans a3) h1 h2 [v5, va] (sm_two sm0 (sm1 _)) sm2
  rw [key_exC, key_exB, key_exV] at C1
  have HC1 := Lib.hid C1
  have HA1 := Lib.hid (a1.trans (a2.trans a3))
  clear a1 a2 a3 h1 h2 C1
  go_wp2_with fail
  refine HC1.out.mono ?_
  rintro e w4 ⟨lv, rfl, a4, hl⟩
  obtain ⟨E, capE, hE0, hE⟩ := own_vals hl sm2 (sm_two (sm1 _) sm0)
  subst hE0
  have HA4 := Lib.hid ((HA1.out.alloc _).trans a4)
  have HE := Lib.hid hE
  clear a4 hl hE HC1
  go_wp2_with fail
  refine (one11_any _).mono ?_
  rintro e x1 ⟨B, B2, rfl, b1, h1, h2⟩
  go_wp2_with fail
  refine (num_any _ _).mono ?_
  rintro e x2 ⟨rfl, b2⟩
  go_wp2_with fail
  refine (null_any _).mono ?_
  rintro e x3 ⟨rfl, b3⟩
  have C1 := key_one B B2 x1 x3 (b2.trans b3) h1 h2 [v5, vn] (sm_two sm0 sm0) sm2
  rw [key_exC2, key_exB2, key_exV2] at C1
  have HC1 := Lib.hid C1
  have HX3 := Lib.hid (b1.trans (b2.trans b3))
  clear b1 b2 b3 h1 h2 C1
  go_wp2_with fail
  refine HC1.out.mono ?_
  rintro e x4 ⟨kv, rfl, b4, hk⟩
  have HX4 := Lib.hid ((HX3.out.alloc _).trans b4)
  clear b4 hk HC1
  go_wp2_with fail
  refine (word_any _ _).mono ?_
  rintro e y1 ⟨rfl, d1⟩
  go_wp2_with fail
  refine (num_any _ _).mono ?_
  rintro e y2 ⟨rfl, d2⟩
  have HY := Lib.hid (HX4.out.trans (d1.trans d2))
  have C := Lib.hid (show Calls Try.prog 39 #[.slice E 2 capE, .slice (some ⟨y2.heap.size, 0, none⟩) 2 2] (y2.alloc (.cells #[.int .i64 3, .int .i64 0, .string ⟨#[97]⟩, .int .i64 2, .int .i64 5, .string ⟨#[]⟩] 48)) fun e w'' => e = .returned (.bool true) ∧ Aft (y2.alloc (.cells #[.int .i64 3, .int .i64 0, .string ⟨#[97]⟩, .int .i64 2, .int .i64 5, .string ⟨#[]⟩] 48)) w'' from
    (rsame_any E capE [va, v5] _ 2 [va, v5] _ (vals_aft (HY.out.alloc _) HE.out) (vals_box [va, v5] (sm_two (sm1 _) sm0) sm2)).mono fun e w'' ⟨he, hw⟩ => ⟨he.trans (by rw [eqVs_refl]), hw⟩)
  clear d1 d2
  go_wp2_with fail
  refine C.out.mono ?_
  rintro e w7 ⟨rfl, a7⟩
  have HA7 := Lib.hid (HA4.out.trans ((HY.out.alloc _).trans a7))
  clear a7
  go_wp2_with fail
  go_ret
  exact ⟨rfl, HA7.out⟩
theorem key_len8 {t : Tab} {s : ByteArray} {row : List Val} : (keyVs t s row).length ≤ 8 := by
  by_cases h : keyC t s row = 0
  · rw [(key_yes h).1, ofVs_len]
    have ht : tableOk t = true := by
      cases h1 : tableOk t
      · rw [keyC_1 h1] at h; cases h
      · rfl
    have hx : ¬ rulAt t.rules s < 0 := fun hx => by rw [keyC_61 ht hx] at h; cases h
    obtain ⟨q, hq⟩ := Int.eq_ofNat_of_zero_le (show 0 ≤ rulAt t.rules s by omega)
    have hql := rulAt_lt hq
    rw [keyCols_at hq hql]
    exact fits_len (table_colsK ht) (table_fits ht hql)
  · rw [(key_no h).1]; simp
theorem key_small {t : Tab} {s : ByteArray} {row : List Val} (h : ∀ v ∈ row, Small v.text.size) : ∀ v ∈ keyVs t s row, Small v.text.size := by
  intro v hv
  unfold keyVs at hv
  split at hv
  · obtain ⟨c, _, rfl⟩ := List.mem_map.1 hv
    unfold valAt
    split
    · rename_i x hx; exact h x (List.mem_of_getElem? hx)
    · exact sm0
  · simp at hv
set_option maxHeartbeats 8000000 in
theorem law_rkey (t : Tab) (s : ByteArray) (row : List Val) (A : Option Addr) (cap : Nat) (A2 : Option Addr) (cap2 : Nat) (B : Option Addr) (capB : Nat) (w : World) (h : SlAt w 3 ColR A cap t.cols) (h2 : SlAt w 8 RulR A2 cap2 t.rules) (hs : Small s.size) (h3 : SlAt w 3 ValR B capB row) :
    Calls Try.prog 9 #[.agg #[.string t.schema, .string t.name, .string t.owner, .slice A t.cols.length cap, .slice A2 t.rules.length cap2], .string s, .slice B row.length capB] w
      fun e w' => e = .returned (.bool true) ∧ Aft w w' := by
  have hlen3 := h3.len
  have CL := Lib.hid (show ∀ w', Aft w w' → _ from fun w' x => large11_any t A cap A2 cap2 B capB row w' (cols_aft x h) (ruls_aft x h2) (vals_aft x h3))
  obtain ⟨i0, hi, hz0, hz1, hz2⟩ := info_parts infoV
  have HI := Lib.hid hi
  have HZ0 := Lib.hid hz0
  have HZ1 := Lib.hid hz1
  have HZ2 := Lib.hid hz2
  clear hi hz0 hz1 hz2
  obtain ⟨X, hX⟩ : ∃ X, keyVs t s row = X := ⟨_, rfl⟩
  obtain ⟨bb, hbb⟩ : ∃ b, keyB t s row = b := ⟨_, rfl⟩
  obtain ⟨c, hc⟩ : ∃ c, keyC t s row = c := ⟨_, rfl⟩
  have hX8 : X.length ≤ 8 := by rw [← hX]; exact key_len8
  have HXS := Lib.hid (show ∀ v ∈ X, Small v.text.size by rw [← hX]; exact key_small (row_small h3))
  have H3 := Lib.hid h3
  have K2 := Lib.hid (show ∀ w' D capD, Aft w w' → SlAt w' 3 ValR D capD row → Calls Try.prog 47 #[.agg #[.string t.schema, .string t.name, .string t.owner, .slice A t.cols.length cap, .slice A2 t.rules.length cap2], .string s, .slice D row.length capD] w' (KeyP w' X bb c) from
    fun w' D capD a hD => by have h9 := rkey_row t s row A cap A2 cap2 D capD w' (cols_aft a h) (ruls_aft a h2) hD; rw [hX, hbb, hc] at h9; exact h9)
  have K10 := Lib.hid (show t.rules.length ≤ 1000000 → ∀ w', Aft w w' → Calls Try.prog 46 #[.agg #[.string t.schema, .string t.name, .string t.owner, .slice A t.cols.length cap, .slice A2 t.rules.length cap2], .string s, .slice B row.length capB] w' (KeyP w' X bb c) from
    fun hb w' a => by have h9 := key_row t s row A cap A2 cap2 B capB w' (cols_aft a h) (ruls_aft a h2) (vals_aft a h3) hb; rw [hX, hbb, hc] at h9; exact h9)
  clear hX hbb hc
  cases B with
  | none =>
    have hr0 : row = [] := by
      cases row with
      | nil => rfl
      | cons x t => obtain ⟨b, off, cs, hA, _⟩ := h3.2.2 0 (by simp); cases hA
    subst hr0
    go_enter Try.func9, Try.ntmps9
    go_wp2_with fail
    refine (CL.out _ ((Aft.refl w).alloc _)).mono ?_
    rintro e W1 ⟨g, rfl, a1, hg⟩
    obtain ⟨hbt, hfr, hz, hzk, HA⟩ := aft_box a1
    clear a1 CL
    cases g
    · have K1 := Lib.hid (K10.out (by have := hg rfl; omega))
      clear K10 hg
      go_wp2_with (at_builtin; refine wpList_append_nil _ rfl (.tmp 19) (.tmp 20) 49 rfl W1.heap.size 48 i0 3 Try.underlying49 HI.out _ _ _ rfl (own_nil W1 W1.heap.size 48 3) capB rfl ?_)
      have aW1 : Aft W1 W1 := Aft.refl W1
      have hD : SlAt W1 3 ValR none 0 ([] : List Val) := slAt_nil
      have HAW1 := Lib.hid (HA.out.trans aW1)
      have HD := Lib.hid hD
      have hb1 : ∀ o, W1.cell? ⟨w.heap.size, o, none⟩ = _ := fun o => (Below.cell aW1 (p := ⟨w.heap.size, o, none⟩) hz.1).trans (hbt o)
      have hz1' := Nat.lt_of_lt_of_le hz.1 aW1.size
      clear hbt hfr hzk
      go_wp2_with fail
      refine (K1.out _ HAW1.out).mono ?_
      rintro e W2 ⟨lv, rfl, a2, hl⟩
      have HL := Lib.hid hl
      have HA2 := Lib.hid (HAW1.out.trans a2)
      have hD2 := vals_aft a2 hD
      have HA12 := Lib.hid a2
      have hb2 : ∀ o, W2.cell? ⟨w.heap.size, o, none⟩ = _ := fun o => (Below.cell a2 (p := ⟨w.heap.size, o, none⟩) hz1').trans (hb1 o)
      have hz2' := Nat.lt_of_lt_of_le hz1' a2.size
      clear hb1
      go_wp2_with fail
      refine (K2.out _ none 0 HA2.out hD2).mono ?_
      rintro e W3 ⟨wv, rfl, a3, hwv⟩
      have hl3 := own_aft HL.out a3
      obtain ⟨E, capE, rfl, hE⟩ := own_vals hl3 (small8 hX8) HXS.out
      obtain ⟨F, capF, rfl, hF⟩ := own_vals hwv (small8 hX8) HXS.out
      have C3 := Lib.hid (show Calls Try.prog 39 #[.slice E X.length capE, .slice F X.length capF] W3 fun e w'' => e = .returned (.bool true) ∧ Aft W3 w'' from
        (rsame_any E capE X F capF X W3 hE hF).mono fun e w'' ⟨he, hw⟩ => ⟨he.trans (by rw [eqVs_refl]), hw⟩)
      have HA13 := Lib.hid (HA12.out.trans a3)
      have HLV := Lib.hid (own_rowV hl3)
      clear hl a2 hD hD2 aW1 a3 hwv hl3 hE hF HL hb2
      go_wp2_with fail
      refine C3.out.mono ?_
      rintro e W4 ⟨rfl, a4⟩
      have HA14 := Lib.hid (HA13.out.trans a4)
      have HLV4 := Lib.hid (HLV.out.aft a4)
      clear a4 C3
      go_wp2_with fail
      go_loopw [15] (fun i wr => ∃ (k : Nat) (xs : List Value), k ≤ X.length ∧ i = .int .i64 k ∧ Aft W1 wr ∧ xs.length = X.length * 3 ∧ RowV wr W1.heap.size (.slice E X.length capE) X.length xs) (fun i _ => X.length - (intOf i).toNat)
      case atStart => exact ⟨0, _, Nat.zero_le _, rfl, HA14.out, vals_len3 X, HLV4.out⟩
      case round =>
        obtain ⟨k, xs, hk, rfl, ha, hxl, hrow⟩ := hrel
        have HAR := Lib.hid ha
        by_cases hlt : k < X.length
        · obtain ⟨E', capE', heq, hcE, hg⟩ := hrow
          simp only [Value.slice.injEq, true_and] at heq
          obtain ⟨rfl, rfl⟩ := heq
          obtain ⟨g, rfl, hgb, rg⟩ := hg (by omega)
          have hj : k * 3 + 1 < xs.length := by omega
          have cx : wr.cell? ⟨g, k * 3 + 1, none⟩ = some xs[k * 3 + 1] := rg.cell (List.getElem?_eq_getElem hj)
          have fx := rg.2.2 (k * 3 + 1) hj
          have HN := Lib.hid (rg.set (k * 3 + 1) (.int .i64 77) hj)
          clear ha rg hg
          go_wp2_with fail
          go_roundw
          case rel => exact ⟨k + 1, _, by omega, by go_num, HAR.out.setCell _ _ hgb, by rw [List.length_set]; exact hxl, ⟨_, _, rfl, hcE, fun _ => ⟨g, rfl, hgb, HN.out⟩⟩⟩
          case measure => simp [intOf]; omega
        · have hAw := HAW1.out.trans ha
          have Ct := Lib.hid (keys_any wr)
          clear ha hrow
          go_wp2_with fail
          refine Ct.out.mono ?_
          rintro e W5 ⟨rfl, a5⟩
          have C6 := Lib.hid (show Calls Try.prog 39 #[.slice none 0 capB, .slice none 0 0] W5 fun e w'' => e = .returned (.bool true) ∧ Aft W5 w'' from
            (rsame_any _ capB [] none 0 [] W5 (vals_aft (hAw.trans a5) H3.out) (vals_aft (HAR.out.trans a5) HD.out)).mono fun e w'' ⟨he, hw⟩ => ⟨he.trans (by rw [eqVs_refl]), hw⟩)
          have HA5 := Lib.hid (hAw.trans a5)
          clear a5 hAw Ct
          go_wp2_with fail
          refine C6.out.mono ?_
          rintro e W6 ⟨rfl, a6⟩
          have HA6 := Lib.hid (HA5.out.trans a6)
          clear a6
          go_wp2_with fail
          go_ret
          exact ⟨rfl, HA6.out⟩
    · go_wp2_with fail
      go_ret
      exact ⟨rfl, HA.out⟩
  | some ad =>
    go_enter Try.func9, Try.ntmps9
    go_wp2_with fail
    refine (CL.out _ ((Aft.refl w).alloc _)).mono ?_
    rintro e w1 ⟨g, rfl, a1, hg⟩
    obtain ⟨hbt, hfr, hz, hzk, HA⟩ := aft_box a1
    clear a1 CL
    cases g
    · have hrl : row.length ≤ 3000 := by have := hg rfl; omega
      have K1 := Lib.hid (K10.out (by have := hg rfl; omega))
      have HVC := Lib.hid (vals_cells (vals_aft HA.out h3))
      clear K10 hg
      go_wp2_with (at_builtin; refine wpList_append_own _ rfl (.tmp 19) (.tmp 20) 49 rfl w1.heap.size 48 i0 (.agg #[.int .i64 0, .int .i64 0, .string ByteArray.empty]) 3 32 Try.underlying49 HI.out HZ0.out HZ1.out HZ2.out rfl (by decide) _ _ _ rfl (own_nil w1 w1.heap.size 48 3) ad row.length capB (row.flatMap cellsV) rfl ?q1 ?q2 ?q3 ?q4 ?q5 ?q6 ?_)
      case q1 => exact vals_len3 row
      case q2 => exact HVC.out
      case q3 => exact vals_one row
      case q4 => unfold maxLen; omega
      case q5 => omega
      case q6 => simp
      intro ov W1 hown hgrow _
      have aW1 : Aft w1 W1 := aft_grown (own_nil w1 w1.heap.size 48 3) (Aft.refl w1) hgrow
      obtain ⟨D, capD, hD0, hD⟩ := own_vals (w := W1) (l := row) (v := ov) (base := w1.heap.size) (e := 48) (by simpa using hown) (by unfold Small; omega) (row_small h3)
      subst hD0
      clear hown hgrow
      have HAW1 := Lib.hid (HA.out.trans aW1)
      have HD := Lib.hid hD
      have hb1 : ∀ o, W1.cell? ⟨w.heap.size, o, none⟩ = _ := fun o => (Below.cell aW1 (p := ⟨w.heap.size, o, none⟩) hz.1).trans (hbt o)
      have hz1' := Nat.lt_of_lt_of_le hz.1 aW1.size
      clear hbt hfr hzk
      go_wp2_with fail
      refine (K1.out _ HAW1.out).mono ?_
      rintro e W2 ⟨lv, rfl, a2, hl⟩
      have HL := Lib.hid hl
      have HA2 := Lib.hid (HAW1.out.trans a2)
      have hD2 := vals_aft a2 hD
      have HA12 := Lib.hid a2
      have hb2 : ∀ o, W2.cell? ⟨w.heap.size, o, none⟩ = _ := fun o => (Below.cell a2 (p := ⟨w.heap.size, o, none⟩) hz1').trans (hb1 o)
      have hz2' := Nat.lt_of_lt_of_le hz1' a2.size
      clear hb1
      go_wp2_with fail
      refine (K2.out _ D capD HA2.out hD2).mono ?_
      rintro e W3 ⟨wv, rfl, a3, hwv⟩
      have hl3 := own_aft HL.out a3
      obtain ⟨E, capE, rfl, hE⟩ := own_vals hl3 (small8 hX8) HXS.out
      obtain ⟨F, capF, rfl, hF⟩ := own_vals hwv (small8 hX8) HXS.out
      have C3 := Lib.hid (show Calls Try.prog 39 #[.slice E X.length capE, .slice F X.length capF] W3 fun e w'' => e = .returned (.bool true) ∧ Aft W3 w'' from
        (rsame_any E capE X F capF X W3 hE hF).mono fun e w'' ⟨he, hw⟩ => ⟨he.trans (by rw [eqVs_refl]), hw⟩)
      have HA13 := Lib.hid (HA12.out.trans a3)
      have HLV := Lib.hid (own_rowV hl3)
      clear hl a2 hD hD2 aW1 a3 hwv hl3 hE hF HL hb2
      go_wp2_with fail
      refine C3.out.mono ?_
      rintro e W4 ⟨rfl, a4⟩
      have HA14 := Lib.hid (HA13.out.trans a4)
      have HLV4 := Lib.hid (HLV.out.aft a4)
      clear a4 C3
      go_wp2_with fail
      go_loopw [15] (fun i wr => ∃ (k : Nat) (xs : List Value), k ≤ X.length ∧ i = .int .i64 k ∧ Aft W1 wr ∧ xs.length = X.length * 3 ∧ RowV wr W1.heap.size (.slice E X.length capE) X.length xs) (fun i _ => X.length - (intOf i).toNat)
      case atStart => exact ⟨0, _, Nat.zero_le _, rfl, HA14.out, vals_len3 X, HLV4.out⟩
      case round =>
        obtain ⟨k, xs, hk, rfl, ha, hxl, hrow⟩ := hrel
        have HAR := Lib.hid ha
        by_cases hlt : k < X.length
        · obtain ⟨E', capE', heq, hcE, hg⟩ := hrow
          simp only [Value.slice.injEq, true_and] at heq
          obtain ⟨rfl, rfl⟩ := heq
          obtain ⟨g, rfl, hgb, rg⟩ := hg (by omega)
          have hj : k * 3 + 1 < xs.length := by omega
          have cx : wr.cell? ⟨g, k * 3 + 1, none⟩ = some xs[k * 3 + 1] := rg.cell (List.getElem?_eq_getElem hj)
          have fx := rg.2.2 (k * 3 + 1) hj
          have HN := Lib.hid (rg.set (k * 3 + 1) (.int .i64 77) hj)
          clear ha rg hg
          go_wp2_with fail
          go_roundw
          case rel => exact ⟨k + 1, _, by omega, by go_num, HAR.out.setCell _ _ hgb, by rw [List.length_set]; exact hxl, ⟨_, _, rfl, hcE, fun _ => ⟨g, rfl, hgb, HN.out⟩⟩⟩
          case measure => simp [intOf]; omega
        · have hAw := HAW1.out.trans ha
          have Ct := Lib.hid (keys_any wr)
          clear ha hrow
          go_wp2_with fail
          refine Ct.out.mono ?_
          rintro e W5 ⟨rfl, a5⟩
          have C6 := Lib.hid (show Calls Try.prog 39 #[.slice (some ad) row.length capB, .slice D row.length capD] W5 fun e w'' => e = .returned (.bool true) ∧ Aft W5 w'' from
            (rsame_any _ capB row D capD row W5 (vals_aft (hAw.trans a5) H3.out) (vals_aft (HAR.out.trans a5) HD.out)).mono fun e w'' ⟨he, hw⟩ => ⟨he.trans (by rw [eqVs_refl]), hw⟩)
          have HA5 := Lib.hid (hAw.trans a5)
          clear a5 hAw Ct
          go_wp2_with fail
          refine C6.out.mono ?_
          rintro e W6 ⟨rfl, a6⟩
          have HA6 := Lib.hid (HA5.out.trans a6)
          clear a6
          go_wp2_with fail
          go_ret
          exact ⟨rfl, HA6.out⟩
    · go_wp2_with fail
      go_ret
      exact ⟨rfl, HA.out⟩
end Go.Proofs.Ytodifdofgjfkiaa
