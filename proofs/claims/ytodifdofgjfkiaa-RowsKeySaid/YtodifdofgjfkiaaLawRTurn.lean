/- The law RowsTurn, walked. -/
import Derived.Test.YtodifdofgjfkiaaAppend
import Derived.Test.YtodifdofgjfkiaaTurn
import Derived.Test.YtodifdofgjfkiaaRefTurn
import Derived.Test.YtodifdofgjfkiaaLawRFit
namespace Go.Proofs.Ytodifdofgjfkiaa
open Go.RowKit
set_option maxRecDepth 100000
set_option linter.unusedVariables false
def zCols : List Col := [⟨⟨#[121]⟩, 3, false⟩, ⟨⟨#[122]⟩, 2, false⟩]
theorem turn_exC : turnC oneT.cols zCols [v5, va] = 0 := by decide +kernel
theorem turn_exV : turned oneT.cols zCols [v5, va] = [va, vn] := by kernel_rfl
set_option maxHeartbeats 4000000 in
theorem turns_any (w : World) : Calls Try.prog 42 #[] w fun e w' => e = .returned (.bool true) ∧ Aft w w' := by
  go_enter Try.func42, Try.ntmps42
  go_wp2_with fail
  refine (one11_any _).mono ?_
  rintro e w1 ⟨A, A2, rfl, a1, h1, h2⟩
  obtain ⟨W, hW⟩ : ∃ W, W = (w1.alloc (.cells #[.string ⟨#[]⟩, .string ⟨#[]⟩, .string ⟨#[]⟩, .slice A 2 2, .slice A2 2 2] 34)).alloc (.cells #[.string ⟨#[121]⟩, .int .i64 3, .bool false, .string ⟨#[122]⟩, .int .i64 2, .bool false] 40) := ⟨_, rfl⟩
  have aW : Aft w1 W := by rw [hW]; exact ((Aft.refl _).alloc _).alloc _
  have t3 : W.cell? ⟨w1.heap.size, 3, none⟩ = some (.slice A 2 2) := by rw [hW]; exact (World.cell?_alloc_past _ _ _ (by simp)).trans (World.cell?_alloc_at _ _ _ _ rfl)
  have hzc : SlAt W 3 ColR (some ⟨w1.heap.size + 1, 0, none⟩) 2 zCols := by
    rw [hW]
    exact slAt_box _ (fun c => [.string c.name, .int .i64 c.kind, .bool c.null]) #[.string ⟨#[121]⟩, .int .i64 3, .bool false, .string ⟨#[122]⟩, .int .i64 2, .bool false] (by first | (simp; done) | (simp; omega)) (by intro o; exact World.cell?_alloc_at _ _ _ _ (by simp)) rfl (fun _ => rfl) (by intro x hx; refine ⟨rfl, ?_⟩; simp [zCols] at hx; rcases hx with rfl | rfl <;> exact sm1 _) sm2 (Nat.le_refl 2)
  have hoc := cols_aft aW h1
  have HA := Lib.hid (a1.trans aW)
  have KT := Lib.hid (show ∀ w0 : World, Aft W w0 → Calls Try.prog 40 #[.slice A 2 2, .slice (some ⟨w1.heap.size + 1, 0, none⟩) 2 2, .slice (some ⟨w0.heap.size, 0, none⟩) 2 2] (w0.alloc (.cells #[.int .i64 2, .int .i64 5, .string ⟨#[]⟩, .int .i64 3, .int .i64 0, .string ⟨#[97]⟩] 48)) (TurnP (w0.alloc (.cells #[.int .i64 2, .int .i64 5, .string ⟨#[]⟩, .int .i64 3, .int .i64 0, .string ⟨#[97]⟩] 48)) [va, vn] 0) from
    fun w0 a => by
      have h9 := turn_any oneT.cols zCols [v5, va] A 2 _ 2 _ 2 (w0.alloc (.cells ([v5, va].flatMap valCells).toArray 48)) (cols_aft (a.alloc _) hoc) (cols_aft (a.alloc _) hzc) (vals_box [v5, va] (sm_two sm0 (sm1 _)) sm2)
      rw [turn_exV, turn_exC] at h9
      exact h9)
  clear a1 h1 h2 hoc hzc
  go_wp2_with fail
  rw [← hW]
  clear hW
  have KF := Lib.hid (show ∀ w', Aft W w' → (Aft W w' ∧ w'.cell? ⟨w1.heap.size, 3, none⟩ = some (.slice A 2 2)) from fun w' a => ⟨a, a.cell_kept t3⟩)
  go_region_held3 (fun w' => Aft W w' ∧ w'.cell? ⟨w1.heap.size, 3, none⟩ = some (.slice A 2 2))
    (first | exact KF.out _ (Aft.refl _).drew | exact KF.out _ ((And.left (by assumption : Aft W _ ∧ _)).trans (by assumption)) | exact KF.out _ ((And.left (by assumption : Aft W _ ∧ _)).alloc _))
    ((first | (go_at_call 94; refine (num_any _ _).mono ?_; rintro e w2 ⟨rfl, a2⟩) | (go_at_call 103; refine (word_any _ _).mono ?_; rintro e w3 ⟨rfl, a3⟩) | (go_at_call 40; refine (KT.out w3 ((Aft.refl W).drew.trans (a2.trans a3))).mono ?_; rintro e w4 ⟨lv, rfl, a4, hown⟩)))
  obtain ⟨E, capE, hE0, hE⟩ := own_vals hown sm2 (sm_two (sm1 _) sm0)
  subst hE0
  have HA4 := Lib.hid (HA.out.trans ((((Aft.refl W).drew.trans (a2.trans a3)).alloc _).trans a4))
  clear hown a2 a3 a4 KT KF t3 aW
  go_wp2_with fail
  refine (word_any _ _).mono ?_
  rintro e w5 ⟨rfl, a5⟩
  go_wp2_with fail
  refine (null_any _).mono ?_
  rintro e w6 ⟨rfl, a6⟩
  have C := Lib.hid (show Calls Try.prog 39 #[.slice E 2 capE, .slice (some ⟨w6.heap.size, 0, none⟩) 2 2] (w6.alloc (.cells #[.int .i64 3, .int .i64 0, .string ⟨#[97]⟩, .int .i64 1, .int .i64 0, .string ⟨#[]⟩] 48)) fun e w'' => e = .returned (.bool true) ∧ Aft (w6.alloc (.cells #[.int .i64 3, .int .i64 0, .string ⟨#[97]⟩, .int .i64 1, .int .i64 0, .string ⟨#[]⟩] 48)) w'' from
    (rsame_any E capE [va, vn] _ 2 [va, vn] _ (vals_aft ((a5.trans a6).alloc _) hE) (vals_box [va, vn] (sm_two (sm1 _) sm0) sm2)).mono fun e w'' ⟨he, hw⟩ => ⟨he.trans (by rw [eqVs_refl]), hw⟩)
  have HA6 := Lib.hid (HA4.out.trans (a5.trans a6))
  clear a5 a6 hE
  go_wp2_with fail
  refine C.out.mono ?_
  rintro e w7 ⟨rfl, a7⟩
  have HA7 := Lib.hid ((HA6.out.alloc _).trans a7)
  clear a7
  go_wp2_with fail
  go_ret
  exact ⟨rfl, HA7.out⟩
theorem row_small {w : World} {A : Option Addr} {cap : Nat} {l : List Val} (h : SlAt w 3 ValR A cap l) : ∀ v ∈ l, Small v.text.size := by
  intro v hv
  obtain ⟨i, hi, rfl⟩ := List.getElem_of_mem hv
  exact val_small h i hi
set_option maxHeartbeats 8000000 in
theorem law_rturn (l m : List Col) (row : List Val) (A : Option Addr) (cap : Nat) (A2 : Option Addr) (cap2 : Nat) (B : Option Addr) (capB : Nat) (w : World) (h : SlAt w 3 ColR A cap l) (h2 : SlAt w 3 ColR A2 cap2 m) (h3 : SlAt w 3 ValR B capB row) :
    Calls Try.prog 7 #[.slice A l.length cap, .slice A2 m.length cap2, .slice B row.length capB] w
      fun e w' => e = .returned (.bool true) ∧ Aft w w' := by
  have hlen := h.len
  have hlen2 := h2.len
  have hlen3 := h3.len
  by_cases d1 : 3000 < l.length
  · have e1 : (3000 : Int) < (l.length : Int) := by omega
    go_enter Try.func7, Try.ntmps7
    go_wp2_with fail
    go_ret
    exact ⟨rfl, Aft.refl _⟩
  have e1 : (l.length : Int) ≤ 3000 := by omega
  by_cases d2 : 3000 < m.length
  · have e2 : (3000 : Int) < (m.length : Int) := by omega
    go_enter Try.func7, Try.ntmps7
    go_wp2_with fail
    go_ret
    exact ⟨rfl, Aft.refl _⟩
  have e2 : (m.length : Int) ≤ 3000 := by omega
  by_cases d3 : 3000 < row.length
  · have e3 : (3000 : Int) < (row.length : Int) := by omega
    go_enter Try.func7, Try.ntmps7
    go_wp2_with fail
    go_ret
    exact ⟨rfl, Aft.refl _⟩
  have e3 : (row.length : Int) ≤ 3000 := by omega
  obtain ⟨i0, hi, hz0, hz1, hz2⟩ := info_parts infoV
  have HI := Lib.hid hi
  have HZ0 := Lib.hid hz0
  have HZ1 := Lib.hid hz1
  have HZ2 := Lib.hid hz2
  clear hi hz0 hz1 hz2
  obtain ⟨X, hX⟩ : ∃ X, turned l m row = X := ⟨_, rfl⟩
  obtain ⟨c, hc⟩ : ∃ c, turnC l m row = c := ⟨_, rfl⟩
  have hX8 : X.length ≤ 8 := by rw [← hX]; exact turned_len8
  have HXS := Lib.hid (show ∀ v ∈ X, Small v.text.size by rw [← hX]; exact turn_small (row_small h3))
  have K1 := Lib.hid (show ∀ w', Aft w w' → Calls Try.prog 40 #[.slice A l.length cap, .slice A2 m.length cap2, .slice B row.length capB] w' (TurnP w' X c) from
    fun w' a => by have h9 := turn_any l m row A cap A2 cap2 B capB w' (cols_aft a h) (cols_aft a h2) (vals_aft a h3); rw [hX, hc] at h9; exact h9)
  have K2 := Lib.hid (show ∀ w' D capD, Aft w w' → SlAt w' 3 ValR D capD row → Calls Try.prog 41 #[.slice A l.length cap, .slice A2 m.length cap2, .slice D row.length capD] w' (TurnP w' X c) from
    fun w' D capD a hD => by have h9 := rturn_any l m row A cap A2 cap2 D capD w' (cols_aft a h) (cols_aft a h2) hD; rw [hX, hc] at h9; exact h9)
  clear hX hc
  have H3 := Lib.hid h3
  -- own := the row in memory of its own
  have main : ∀ ov W1, W1.ownsRow w.heap.size 48 3 ov row.length (row.flatMap cellsV) → Aft w W1 → ∃ D capD, ov = .slice D row.length capD ∧ SlAt W1 3 ValR D capD row := fun ov W1 ho _ => own_vals ho (by unfold Small; omega) (row_small h3)
  have HM := Lib.hid main
  clear main
  cases B with
  | none =>
    have hr0 : row = [] := by
      cases row with
      | nil => rfl
      | cons x t => obtain ⟨b, off, cs, hA, _⟩ := h3.2.2 0 (by simp); cases hA
    subst hr0
    go_enter Try.func7, Try.ntmps7
    go_wp2_with (at_builtin; refine wpList_append_nil _ rfl (.tmp 27) (.tmp 28) 49 rfl w.heap.size 48 i0 3 Try.underlying49 HI.out _ _ _ rfl (own_nil w w.heap.size 48 3) capB rfl ?_)
    have aW1 : Aft w w := Aft.refl w
    obtain ⟨D, capD, heqD, hD⟩ := HM.out (.slice none 0 0) w (own_nil w w.heap.size 48 3) aW1
    simp only [Value.slice.injEq, List.length_nil, true_and] at heqD
    obtain ⟨rfl, rfl⟩ := heqD
    have HAW1 := Lib.hid aW1
    have HD := Lib.hid hD
    go_wp2_with fail
    refine (K1.out _ aW1).mono ?_
    rintro e W2 ⟨lv, rfl, a2, hl⟩
    have HL := Lib.hid hl
    have HA2 := Lib.hid (aW1.trans a2)
    have hD2 := vals_aft a2 hD
    have HA12 := Lib.hid a2
    go_wp2_with fail
    refine (K2.out _ none 0 HA2.out hD2).mono ?_
    rintro e W3 ⟨wv, rfl, a3, hwv⟩
    have hl3 := own_aft HL.out a3
    obtain ⟨E, capE, rfl, hE⟩ := own_vals hl3 (small8 hX8) HXS.out
    obtain ⟨F, capF, rfl, hF⟩ := own_vals hwv (small8 hX8) HXS.out
    have C3 := Lib.hid (show Calls Try.prog 39 #[.slice E X.length capE, .slice F X.length capF] W3 fun e w'' => e = .returned (.bool true) ∧ Aft W3 w'' from
      (rsame_any E capE X F capF X W3 hE hF).mono fun e w'' ⟨he, hw⟩ => ⟨he.trans (by rw [eqVs_refl]), hw⟩)
    have HA13 := Lib.hid (HA12.out.trans a3)
    have HLV := Lib.hid (own_rowV hl3)
    clear hl a2 hD hD2 aW1 a3 hwv hl3 hE hF HL
    go_wp2_with fail
    refine C3.out.mono ?_
    rintro e W4 ⟨rfl, a4⟩
    have HA14 := Lib.hid (HA13.out.trans a4)
    have HLV4 := Lib.hid (HLV.out.aft a4)
    clear a4 C3
    go_wp2_with fail
    go_loopw [13] (fun i wr => ∃ (k : Nat) (xs : List Value), k ≤ X.length ∧ i = .int .i64 k ∧ Aft w wr ∧ xs.length = X.length * 3 ∧ RowV wr w.heap.size (.slice E X.length capE) X.length xs) (fun i _ => X.length - (intOf i).toNat)
    case atStart => exact ⟨0, _, Nat.zero_le _, rfl, HA14.out, vals_len3 X, HLV4.out⟩
    case round =>
      obtain ⟨k, xs, hk, rfl, ha, hxl, hrow⟩ := hrel
      have HAR := Lib.hid ha
      by_cases hlt : k < X.length
      · obtain ⟨E', capE', heq, hcE, hg⟩ := hrow
        simp only [Value.slice.injEq, true_and] at heq
        obtain ⟨rfl, rfl⟩ := heq
        obtain ⟨g, rfl, hgb, rg⟩ := hg (by omega)
        have hj : k * 3 + 1 < xs.length := by omega
        have cx : wr.cell? ⟨g, k * 3 + 1, none⟩ = some xs[k * 3 + 1] := rg.cell (List.getElem?_eq_getElem hj)
        have fx := rg.2.2 (k * 3 + 1) hj
        have HN := Lib.hid (rg.set (k * 3 + 1) (.int .i64 77) hj)
        clear ha rg hg
        go_wp2_with fail
        go_roundw
        case rel => exact ⟨k + 1, _, by omega, by go_num, HAR.out.setCell _ _ hgb, by rw [List.length_set]; exact hxl, ⟨_, _, rfl, hcE, fun _ => ⟨g, rfl, hgb, HN.out⟩⟩⟩
        case measure => simp [intOf]; omega
      · have hAw := HAW1.out.trans ha
        have Ct := Lib.hid (turns_any wr)
        clear ha hrow
        go_wp2_with fail
        refine Ct.out.mono ?_
        rintro e W5 ⟨rfl, a5⟩
        have C6 := Lib.hid (show Calls Try.prog 39 #[.slice none 0 capB, .slice none 0 0] W5 fun e w'' => e = .returned (.bool true) ∧ Aft W5 w'' from
          (rsame_any _ capB [] none 0 [] W5 (vals_aft (hAw.trans a5) H3.out) (vals_aft (HAR.out.trans a5) HD.out)).mono fun e w'' ⟨he, hw⟩ => ⟨he.trans (by rw [eqVs_refl]), hw⟩)
        have HA5 := Lib.hid (hAw.trans a5)
        clear a5 hAw Ct
        go_wp2_with fail
        refine C6.out.mono ?_
        rintro e W6 ⟨rfl, a6⟩
        have HA6 := Lib.hid (HA5.out.trans a6)
        clear a6
        go_wp2_with fail
        go_ret
        exact ⟨rfl, HA6.out⟩
  | some ad =>
    have HVC := Lib.hid (vals_cells h3)
    go_enter Try.func7, Try.ntmps7
    go_wp2_with (at_builtin; refine wpList_append_own _ rfl (.tmp 27) (.tmp 28) 49 rfl w.heap.size 48 i0 (.agg #[.int .i64 0, .int .i64 0, .string ByteArray.empty]) 3 32 Try.underlying49 HI.out HZ0.out HZ1.out HZ2.out rfl (by decide) _ _ _ rfl (own_nil w w.heap.size 48 3) ad row.length capB (row.flatMap cellsV) rfl ?q1 ?q2 ?q3 ?q4 ?q5 ?q6 ?_)
    case q1 => exact vals_len3 row
    case q2 => exact HVC.out
    case q3 => exact vals_one row
    case q4 => unfold maxLen; omega
    case q5 => omega
    case q6 => simp
    intro ov W1 hown hgrow _
    have aW1 : Aft w W1 := aft_grown (own_nil w w.heap.size 48 3) (Aft.refl w) hgrow
    obtain ⟨D, capD, rfl, hD⟩ := HM.out ov W1 (by simpa using hown) aW1
    clear hown hgrow
    have HAW1 := Lib.hid aW1
    have HD := Lib.hid hD
    go_wp2_with fail
    refine (K1.out _ aW1).mono ?_
    rintro e W2 ⟨lv, rfl, a2, hl⟩
    have HL := Lib.hid hl
    have HA2 := Lib.hid (aW1.trans a2)
    have hD2 := vals_aft a2 hD
    have HA12 := Lib.hid a2
    go_wp2_with fail
    refine (K2.out _ D capD HA2.out hD2).mono ?_
    rintro e W3 ⟨wv, rfl, a3, hwv⟩
    have hl3 := own_aft HL.out a3
    obtain ⟨E, capE, rfl, hE⟩ := own_vals hl3 (small8 hX8) HXS.out
    obtain ⟨F, capF, rfl, hF⟩ := own_vals hwv (small8 hX8) HXS.out
    have C3 := Lib.hid (show Calls Try.prog 39 #[.slice E X.length capE, .slice F X.length capF] W3 fun e w'' => e = .returned (.bool true) ∧ Aft W3 w'' from
      (rsame_any E capE X F capF X W3 hE hF).mono fun e w'' ⟨he, hw⟩ => ⟨he.trans (by rw [eqVs_refl]), hw⟩)
    have HA13 := Lib.hid (HA12.out.trans a3)
    have HLV := Lib.hid (own_rowV hl3)
    clear hl a2 hD hD2 aW1 a3 hwv hl3 hE hF HL
    go_wp2_with fail
    refine C3.out.mono ?_
    rintro e W4 ⟨rfl, a4⟩
    have HA14 := Lib.hid (HA13.out.trans a4)
    have HLV4 := Lib.hid (HLV.out.aft a4)
    clear a4 C3
    go_wp2_with fail
    go_loopw [13] (fun i wr => ∃ (k : Nat) (xs : List Value), k ≤ X.length ∧ i = .int .i64 k ∧ Aft W1 wr ∧ xs.length = X.length * 3 ∧ RowV wr W1.heap.size (.slice E X.length capE) X.length xs) (fun i _ => X.length - (intOf i).toNat)
    case atStart => exact ⟨0, _, Nat.zero_le _, rfl, HA14.out, vals_len3 X, HLV4.out⟩
    case round =>
      obtain ⟨k, xs, hk, rfl, ha, hxl, hrow⟩ := hrel
      have HAR := Lib.hid ha
      by_cases hlt : k < X.length
      · obtain ⟨E', capE', heq, hcE, hg⟩ := hrow
        simp only [Value.slice.injEq, true_and] at heq
        obtain ⟨rfl, rfl⟩ := heq
        obtain ⟨g, rfl, hgb, rg⟩ := hg (by omega)
        have hj : k * 3 + 1 < xs.length := by omega
        have cx : wr.cell? ⟨g, k * 3 + 1, none⟩ = some xs[k * 3 + 1] := rg.cell (List.getElem?_eq_getElem hj)
        have fx := rg.2.2 (k * 3 + 1) hj
        have HN := Lib.hid (rg.set (k * 3 + 1) (.int .i64 77) hj)
        clear ha rg hg
        go_wp2_with fail
        go_roundw
        case rel => exact ⟨k + 1, _, by omega, by go_num, HAR.out.setCell _ _ hgb, by rw [List.length_set]; exact hxl, ⟨_, _, rfl, hcE, fun _ => ⟨g, rfl, hgb, HN.out⟩⟩⟩
        case measure => simp [intOf]; omega
      · have hAw := HAW1.out.trans ha
        have Ct := Lib.hid (turns_any wr)
        clear ha hrow
        go_wp2_with fail
        refine Ct.out.mono ?_
        rintro e W5 ⟨rfl, a5⟩
        have C6 := Lib.hid (show Calls Try.prog 39 #[.slice (some ad) row.length capB, .slice D row.length capD] W5 fun e w'' => e = .returned (.bool true) ∧ Aft W5 w'' from
          (rsame_any _ capB row D capD row W5 (vals_aft (hAw.trans a5) H3.out) (vals_aft (HAR.out.trans a5) HD.out)).mono fun e w'' ⟨he, hw⟩ => ⟨he.trans (by rw [eqVs_refl]), hw⟩)
        have HA5 := Lib.hid (hAw.trans a5)
        clear a5 hAw Ct
        go_wp2_with fail
        refine C6.out.mono ?_
        rintro e W6 ⟨rfl, a6⟩
        have HA6 := Lib.hid (HA5.out.trans a6)
        clear a6
        go_wp2_with fail
        go_ret
        exact ⟨rfl, HA6.out⟩
end Go.Proofs.Ytodifdofgjfkiaa
