/- The document's Of and Key of a row. -/
import Derived.Test.YtodifdofgjfkiaaKeyLaw
import Derived.Test.YtodifdofgjfkiaaRefForm
import Derived.Deep.RegionHeld3
import Derived.Deep.Onto
namespace Go.Proofs.Ytodifdofgjfkiaa
open Go.RowKit
set_option maxRecDepth 100000
set_option linter.unusedVariables false
set_option maxHeartbeats 4000000 in
theorem of_any (l : List Col) (cs : List ByteArray) (row : List Val) (A : Option Addr) (cap : Nat) (A2 : Option Addr) (cap2 : Nat) (B : Option Addr) (capB : Nat) (w : World) (h : SlAt w 3 ColR A cap l) (h2 : SlAt w 1 StrR A2 cap2 cs) (h3 : SlAt w 3 ValR B capB row) (h8 : cs.length ≤ 8) (hof : ∀ k (hk : k < cs.length), ∃ q : Nat, colAt l cs[k] = q ∧ q < row.length) :
    Calls Try.prog 111 #[.slice A l.length cap, .slice A2 cs.length cap2, .slice B row.length capB] w (OfP w (ofVs l cs row) (wholeB (ofVs l cs row))) := by
  have hlen := h.len
  have hlen3 := h3.len
  have HOF := Lib.hid hof
  obtain ⟨i0, hi, hz0, hz1, hz2⟩ := info_parts infoV
  have HI := Lib.hid hi
  have HZ0 := Lib.hid hz0
  have HZ1 := Lib.hid hz1
  have HZ2 := Lib.hid hz2
  clear hi hz0 hz1 hz2 hof
  go_enter Try.func111, Try.ntmps111
  go_wp2_with fail
  go_loopw [8, 9, 10] (fun v wb i wr => ∃ k : Nat, k ≤ cs.length ∧ i = .int .i64 k ∧ wb = .bool (wholeB (ofVs l (cs.take k) row)) ∧ Aft w wr ∧ wr.ownsRow w.heap.size 48 3 v k ((ofVs l (cs.take k) row).flatMap cellsV)) (fun _ _ i _ => cs.length - (intOf i).toNat)
  case atStart => exact ⟨0, Nat.zero_le _, rfl, rfl, Aft.refl _, own_nil _ _ _ _⟩
  case round =>
    obtain ⟨k, hk, rfl, rfl, ha, hown⟩ := hrel
    have HA := Lib.hid ha
    have HO := Lib.hid hown
    clear hown
    obtain ⟨wb, hwb⟩ : ∃ wb, wholeB (ofVs l (cs.take k) row) = wb := ⟨_, rfl⟩
    by_cases hlt : k < cs.length
    · obtain ⟨b5, off5, hD, hb5, g5, _⟩ := str_at (strs_aft ha h2) hlt
      subst hD
      obtain ⟨z, hz0, hzr⟩ := HOF.out k hlt
      obtain ⟨b6, off6, hBB, hb6, v0, v1, v2, _⟩ := val_at (vals_aft ha h3) hzr
      subst hBB
      have HS := Lib.hid (show ofVs l (cs.take (k + 1)) row = ofVs l (cs.take k) row ++ [row[z]] by rw [ofVs_succ _ _ _ k hlt, hz0, valAt_get hzr])
      have HW := Lib.hid (show wholeB (ofVs l (cs.take (k + 1)) row) = (wb && row[z].kind != 1) by rw [HS.out, wholeB_snoc, hwb])
      have Cp := Lib.hid (show Calls Try.prog 86 #[.slice A l.length cap, .string cs[k]] wr fun e w'' => e = .returned (.int .i64 z) ∧ wr = w'' from
        (rcol_any A cap l cs[k] wr (cols_aft ha h)).mono fun e w'' ⟨he, hw⟩ => ⟨he.trans (by rw [← hz0]; rfl), hw⟩)
      rw [hwb]
      clear ha hz0 hwb
      cases wb
      all_goals
        go_wp2_with fail
        refine Cp.out.mono ?_
        rintro e w4 ⟨rfl, hw4⟩
        subst hw4
        go_wp2_with (at_builtin; refine wpList_append_own _ rfl (.tmp 33) (.tmp 35) 49 rfl w.heap.size 48 i0 (.agg #[.int .i64 0, .int .i64 0, .string ByteArray.empty]) 3 32 Try.underlying49 HI.out HZ0.out HZ1.out HZ2.out rfl (by decide) _ _ _ rfl ((HO.out.alloc _).alloc _) ⟨wr.heap.size + 1, 0, none⟩ 1 1 [.int .i64 row[z].kind, .int .i64 row[z].int, .string row[z].text] rfl rfl ?c1 ?c2 ?c3 ?c4 ?c5 ?_)
        case c1 => intro j u hj; rw [add_mk, Nat.zero_add]; exact (World.cell?_alloc_at _ _ _ _ (by simp)).trans (by simpa using hj)
        case c2 => intro u hu; simp only [List.mem_cons, List.not_mem_nil, or_false] at hu; rcases hu with rfl | rfl | rfl <;> simp [Value.oneCell']
        case c3 => unfold maxLen; omega
        case c4 => omega
        case c5 => have := HA.out.size; simp; omega
        intro v' w5 hown' hgrow _
        have HA5 := Lib.hid (aft_grown ((HO.out.alloc _).alloc _) ((HA.out.alloc _).alloc _) hgrow)
        have HO5 := Lib.hid hown'
        clear hown' hgrow
        go_wp2_with fail
        go_roundw
        case rel => exact ⟨k + 1, by omega, by go_num, by rw [HW.out]; rfl, HA5.out, by rw [HS.out]; simpa [List.flatMap_append, cellsV] using HO5.out⟩
        case measure => simp [intOf]; omega
    · have e1 : cs.take k = cs := List.take_of_length_le (by omega)
      have e2 : k = cs.length := by omega
      have ho := HO.out
      rw [e1, e2, ← ofVs_len l cs row] at ho
      have HOO := Lib.hid ho
      have HWW := Lib.hid (show wholeB (ofVs l cs row) = wb by rw [← hwb, e1])
      rw [hwb]
      clear ha ho hwb e1
      go_wp2_with fail
      go_ret2
      exact ⟨_, by rw [HWW.out]; rfl, HA.out, HOO.out⟩
set_option maxHeartbeats 8000000 in
theorem rkey_row (t : Tab) (s : ByteArray) (row : List Val) (A : Option Addr) (cap : Nat) (A2 : Option Addr) (cap2 : Nat) (B : Option Addr) (capB : Nat) (w : World) (h : SlAt w 3 ColR A cap t.cols) (h2 : SlAt w 8 RulR A2 cap2 t.rules) (h3 : SlAt w 3 ValR B capB row) :
    Calls Try.prog 47 #[.agg #[.string t.schema, .string t.name, .string t.owner, .slice A t.cols.length cap, .slice A2 t.rules.length cap2], .string s, .slice B row.length capB] w (KeyP w (keyVs t s row) (keyB t s row) (keyC t s row)) := by
  have hlen := h.len
  have hlen2 := h2.len
  have hlen3 := h3.len
  obtain ⟨c, hc⟩ : ∃ c, tableOk t = c := ⟨_, rfl⟩
  obtain ⟨f, hf⟩ : ∃ f, besideB formB t.cols row = f := ⟨_, rfl⟩
  obtain ⟨x, hx⟩ : ∃ x, rulAt t.rules s = x := ⟨_, rfl⟩
  have Ck := Lib.hid (show ∀ w', Aft w w' → Calls Try.prog 37 #[.agg #[.string t.schema, .string t.name, .string t.owner, .slice A t.cols.length cap, .slice A2 t.rules.length cap2]] w' fun e w'' => e = .returned (.bool c) ∧ Aft w' w'' from
    fun w' a => (rtable_any t A cap A2 cap2 w' (cols_aft a h) (ruls_aft a h2)).mono fun e w'' ⟨he, hw⟩ => ⟨he.trans (by rw [hc]), hw⟩)
  have Ci := Lib.hid (show ∀ w', Aft w w' → Calls Try.prog 110 #[.slice A2 t.rules.length cap2, .string s] w' fun e w'' => e = .returned (.int .i64 x) ∧ w' = w'' from
    fun w' a => (rrul_any A2 cap2 t.rules s w' (ruls_aft a h2)).mono fun e w'' ⟨he, hw⟩ => ⟨he.trans (by rw [← hx]; rfl), hw⟩)
  have Cf := Lib.hid (show ∀ w', Aft w w' → Calls Try.prog 102 #[.slice A t.cols.length cap, .slice B row.length capB] w' fun e w'' => e = .returned (.bool f) ∧ Aft w' w'' from
    fun w' a => (rform_any A cap t.cols B capB row w' (cols_aft a h) (vals_aft a h3)).mono fun e w'' ⟨he, hw⟩ => ⟨he.trans (by rw [hf]), hw⟩)
  have HT := Lib.hid hc
  have HFo := Lib.hid hf
  have HX := Lib.hid hx
  clear hc hf hx
  go_enter Try.func47, Try.ntmps47
  go_wp2_with fail
  refine (Ck.out _ ((Aft.refl w).alloc _)).mono ?_
  rintro e w2 ⟨rfl, a2⟩
  obtain ⟨hbt, hfr, hz, hzk, HA2⟩ := aft_box a2
  have HAB2 := Lib.hid a2
  clear a2 Ck
  cases c
  · have HC := Lib.hid (keyC_1 (s := s) (row := row) HT.out)
    have HK := Lib.hid (key_no (by rw [HC.out]; decide : ¬ keyC t s row = 0))
    go_wp2_with fail
    go_ret3
    exact ⟨_, by rw [HC.out, HK.out.2]; rfl, HA2.out, by rw [HK.out.1]; exact own_nil _ _ _ _⟩
  go_wp2_with fail
  refine (Ci.out _ HA2.out).mono ?_
  rintro e w2' ⟨rfl, hw2⟩
  subst hw2
  by_cases hx0 : x < 0
  · have HC := Lib.hid (keyC_61 (row := row) HT.out (by rw [HX.out]; exact hx0))
    have HK := Lib.hid (key_no (by rw [HC.out]; decide : ¬ keyC t s row = 0))
    go_wp2_with fail
    go_ret3
    exact ⟨_, by rw [HC.out, HK.out.2]; rfl, HA2.out, by rw [HK.out.1]; exact own_nil _ _ _ _⟩
  go_wp2_with fail
  refine (Cf.out _ HA2.out).mono ?_
  rintro e w3 ⟨rfl, a3⟩
  have HAB3 := Lib.hid (HAB2.out.trans a3)
  clear a3 Cf hbt hfr hz hzk HA2 HAB2 Ci
  obtain ⟨hbt, hfr, hz, hzk, HA3⟩ := aft_box HAB3.out
  cases f
  · have HC := Lib.hid (keyC_100 HT.out (by rw [HX.out]; omega) HFo.out)
    have HK := Lib.hid (key_no (by rw [HC.out]; decide : ¬ keyC t s row = 0))
    go_wp2_with fail
    go_ret3
    exact ⟨_, by rw [HC.out, HK.out.2]; rfl, HA3.out, by rw [HK.out.1]; exact own_nil _ _ _ _⟩
  obtain ⟨q, rfl⟩ := Int.eq_ofNat_of_zero_le (show 0 ≤ x by omega)
  have hql := rulAt_lt HX.out
  have HC := Lib.hid (keyC_0 HT.out (by rw [HX.out]; omega) HFo.out)
  have HK := Lib.hid (key_yes HC.out)
  have HKC := Lib.hid (keyCols_at HX.out hql)
  have HLL := Lib.hid (show t.cols.length = row.length from ((besideB_iff formB t.cols row).1 HFo.out).1)
  have htf := table_fits HT.out hql
  obtain ⟨b, off, D2, capD2, hAA, hb0, c0, c1, c2, c3, c4, c5, c6, c7, hcs, _⟩ := rul_at (ruls_aft HA3.out h2) hql
  subst hAA
  obtain ⟨p, hpp⟩ : ∃ p, t.rules[q] = p := ⟨_, rfl⟩
  rw [hpp] at c0 c1 c2 c3 c4 c5 c6 c7 hcs htf
  rw [hpp] at HKC
  have hp8 : p.cols.length ≤ 8 := fits_len (table_colsK HT.out) htf
  have HFO := Lib.hid (fits_of htf HLL.out)
  have t3 : w3.cell? ⟨w.heap.size, 3, none⟩ = some (.slice A t.cols.length cap) := hbt 3
  have t4 : w3.cell? ⟨w.heap.size, 4, none⟩ = some (.slice (some ⟨b, off, none⟩) t.rules.length cap2) := hbt 4
  have Co := Lib.hid (show ∀ w', Aft w3 w' → Calls Try.prog 111 #[.slice A t.cols.length cap, .slice D2 p.cols.length capD2, .slice B row.length capB] w' (OfP w' (ofVs t.cols p.cols row) (wholeB (ofVs t.cols p.cols row))) from
    fun w' a => of_any t.cols p.cols row A cap D2 capD2 B capB w' (cols_aft (HA3.out.trans a) h) (strs_aft a hcs) (vals_aft (HA3.out.trans a) h3) hp8 HFO.out)
  have KF := Lib.hid (show ∀ w', Aft w3 w' → (Aft w3 w' ∧ w'.cell? ⟨w.heap.size, 3, none⟩ = some (.slice A t.cols.length cap) ∧ w'.cell? ⟨w.heap.size, 4, none⟩ = some (.slice (some ⟨b, off, none⟩) t.rules.length cap2) ∧ w'.cell? ⟨b, off + q * 8 + 2, none⟩ = some (.slice D2 p.cols.length capD2)) from fun w' a => ⟨a, a.cell_kept t3, a.cell_kept t4, a.cell_kept c2⟩)
  have HVS := Lib.hid (show keyVs t s row = ofVs t.cols p.cols row by rw [HK.out.1, HKC.out])
  have HVB := Lib.hid (show keyB t s row = wholeB (ofVs t.cols p.cols row) by rw [HK.out.2, HKC.out])
  clear hpp htf
  go_wp2_with fail
  go_region_held3 (fun w' => Aft w3 w' ∧ w'.cell? ⟨w.heap.size, 3, none⟩ = some (.slice A t.cols.length cap) ∧ w'.cell? ⟨w.heap.size, 4, none⟩ = some (.slice (some ⟨b, off, none⟩) t.rules.length cap2) ∧ w'.cell? ⟨b, off + q * 8 + 2, none⟩ = some (.slice D2 p.cols.length capD2))
    (first | exact KF.out _ (Aft.refl _).drew | exact KF.out _ ((And.left (by assumption : Aft w3 _ ∧ _)).trans (by assumption)))
    ((go_at_call 111; refine (Co.out _ (And.left (by assumption : Aft w3 _ ∧ _))).mono ?_; rintro e w4 ⟨v, rfl, a4, hown⟩))
  have HA4 := Lib.hid (HA3.out.trans ((Aft.refl _).drew.trans a4))
  have HO4 := Lib.hid (World.ownsRow.mono hown HA3.out.size)
  clear a4 hown KF Co c0 c1 c2 c3 c4 c5 c6 c7 t3 t4 hbt hfr hz hzk
  go_wp2_with fail
  go_ret3
  exact ⟨_, by rw [HC.out, HVB.out]; rfl, HA4.out, by rw [HVS.out]; exact HO4.out⟩
end Go.Proofs.Ytodifdofgjfkiaa
