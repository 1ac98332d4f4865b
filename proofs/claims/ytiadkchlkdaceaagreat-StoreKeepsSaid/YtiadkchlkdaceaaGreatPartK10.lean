/- Contracts of the program, part 10. -/
import Derived.OwnWalk
import Derived.Laws.AppendOwn
import Derived.ProofKit
import Derived.OpenShut
import Derived.Deep.Slices
import Derived.ChangeOld
import Derived.SizedLaws
import Derived.WalkKit
import Derived.WalkSpells
import Derived.WalkLawsBesides
import Derived.Lib.Hide
import Derived.Deep.QuietTactic
import Derived.BigQuiet
import Derived.Below
import Derived.Deep.Draws
import Derived.StillTailTactics
import Derived.Laws.Cells
import Derived.Laws.IdiomCopy
import Derived.Test.YtiadkchlkdaceaaGreatRows
import Derived.Lib.Bytealg
import Derived.IntWalk
import Derived.ShutString
import Derived.Deep.RegionHeld3
import Derived.LaidEqlPtr
import Derived.Shelf.SlSortCmp.WholeK
import Derived.Lib.SliceRun
import Derived.Deep.AppendLies
import Derived.Deep.Upon
import Derived.OneCell
import Derived.Deep.DeepMust
import Derived.Deep.RegionLaw
import Derived.Deep.Onto
import Derived.Test.YtiadkchlkdaceaaGreatPartK1
import Derived.Test.YtiadkchlkdaceaaGreatPartK2
import Derived.Test.YtiadkchlkdaceaaGreatPartK3
import Derived.Test.YtiadkchlkdaceaaGreatPartK4
import Derived.Test.YtiadkchlkdaceaaGreatPartK5
import Derived.Test.YtiadkchlkdaceaaGreatPartK6
import Derived.Test.YtiadkchlkdaceaaGreatPartK7
import Derived.Test.YtiadkchlkdaceaaGreatPartK8
namespace Go.Proofs.YtiadkchlkdaceaaGreat
open Go.RowKit
set_option maxRecDepth 100000
set_option linter.unusedVariables false
set_option maxHeartbeats 8000000 in
theorem fit_any (t : Tab) (row : List Val) (A : Option Addr) (cap : Nat) (A2 : Option Addr) (cap2 : Nat) (B : Option Addr) (capB : Nat) (w : World) (h : SlAt w 3 ColR A cap t.cols) (h2 : SlAt w 8 RulR A2 cap2 t.rules) (h3 : SlAt w 3 ValR B capB row) (hb : t.rules.length ≤ 1000000) :
    Calls Tryz.prog 102 #[.agg #[.string t.schema, .string t.name, .string t.owner, .slice A t.cols.length cap, .slice A2 t.rules.length cap2], .slice B row.length capB] w
      fun e w' => e = .returned (.int .i64 (fitE t row)) ∧ Aft w w' := by
  obtain ⟨c, hc⟩ : ∃ c, tableOk t = c := ⟨_, rfl⟩
  obtain ⟨f, hf⟩ : ∃ f, besideB formB t.cols row = f := ⟨_, rfl⟩
  obtain ⟨n, hn⟩ : ∃ n, besideB nullB t.cols row = n := ⟨_, rfl⟩
  have Ck := Lib.hid (show ∀ w', Aft w w' → Calls Tryz.prog 97 #[.agg #[.string t.schema, .string t.name, .string t.owner, .slice A t.cols.length cap, .slice A2 t.rules.length cap2]] w' fun e w'' => e = .returned (.int .i64 (if c = true then 0 else 1)) ∧ Aft w' w'' from
    fun w' a => (rcheck_any t A cap A2 cap2 w' (cols_aft a h) (ruls_aft a h2) hb).mono fun e w'' ⟨he, hw⟩ => ⟨he.trans (by rw [hc]), hw⟩)
  have Cf := Lib.hid (show ∀ w', Aft w w' → Calls Tryz.prog 62 #[.slice A t.cols.length cap, .slice B row.length capB] w' fun e w'' => e = .returned (.bool f) ∧ Aft w' w'' from
    fun w' a => (formed_any A cap t.cols B capB row w' (cols_aft a h) (vals_aft a h3)).mono fun e w'' ⟨he, hw⟩ => ⟨he.trans (by rw [hf]), hw⟩)
  have Cn := Lib.hid (show ∀ w', Aft w w' → Calls Tryz.prog 98 #[.slice A t.cols.length cap, .slice B row.length capB, .func (.func 123) #[] #[]] w' fun e w'' => e = .returned (.bool n) ∧ Aft w' w'' from
    fun w' a => (nullC A cap t.cols B capB row w' (cols_aft a h) (vals_aft a h3)).mono fun e w'' ⟨he, hw⟩ => ⟨he.trans (by rw [hn]), hw⟩)
  have HT := Lib.hid hc
  have HFo := Lib.hid hf
  have HNu := Lib.hid hn
  have hlen2 := h2.len
  have hlen3 := h3.len
  clear hc hf hn
  go_enter Tryz.func102, Tryz.ntmps102
  go_wp2_with fail
  refine (Ck.out _ ((Aft.refl w).alloc _)).mono ?_
  rintro e w1 ⟨rfl, a1⟩
  obtain ⟨hbt, hfr, hz, hzk, HA⟩ := aft_box a1
  have HAB := Lib.hid a1
  clear a1 Ck
  cases c
  · have HR := Lib.hid (fitE_1 (row := row) HT.out)
    go_wp2_with fail
    go_ret
    exact ⟨by rw [HR.out]; rfl, HA.out⟩
  go_wp2_with fail
  refine (Cf.out _ HA.out).mono ?_
  rintro e w2 ⟨rfl, a2⟩
  have HAB2 := Lib.hid (HAB.out.trans a2)
  clear a2 Cf HA HAB hbt hfr hz hzk
  obtain ⟨hbt, hfr, hz, hzk, HA⟩ := aft_box HAB2.out
  cases f
  · have HR := Lib.hid (fitE_100 HT.out HFo.out)
    go_wp2_with fail
    go_ret
    exact ⟨by rw [HR.out]; rfl, HA.out⟩
  go_wp2_with fail
  refine (Cn.out _ HA.out).mono ?_
  rintro e w3 ⟨rfl, a3⟩
  have HAB3 := Lib.hid (HAB2.out.trans a3)
  clear a3 Cn HA HAB2 hbt hfr hz hzk
  obtain ⟨hbt, hfr, hz, hzk, HA⟩ := aft_box HAB3.out
  cases n
  · have HR := Lib.hid (fitE_101 HT.out HFo.out HNu.out)
    go_wp2_with fail
    go_ret
    exact ⟨by rw [HR.out]; rfl, HA.out⟩
  have HR := Lib.hid (fitE_any HT.out HFo.out HNu.out)
  have HLL := Lib.hid (show t.cols.length = row.length from ((besideB_iff formB t.cols row).1 HFo.out).1)
  go_wp2_with fail
  go_loopw [27] (fun i wr => ∃ k : Nat, k ≤ t.rules.length ∧ i = .int .i64 k ∧ Aft (w.alloc (.cells #[.string t.schema, .string t.name, .string t.owner, .slice A t.cols.length cap, .slice A2 t.rules.length cap2] 76)) wr ∧ ∀ j, j < k → ∀ (hj : j < t.rules.length), badR t.cols row t.rules[j] = false) (fun i _ => t.rules.length - (intOf i).toNat)
  case atStart => exact ⟨0, Nat.zero_le _, rfl, HAB3.out, fun j hj => absurd hj (Nat.not_lt_zero j)⟩
  case round =>
    clear hbt hfr hz hzk HA HAB3
    obtain ⟨k, hk, rfl, ha, hp⟩ := hrel
    obtain ⟨hbt, hfr, hz, hzk, HA⟩ := aft_box ha
    have HAB := Lib.hid ha
    have HP := Lib.hid hp; clear hp ha
    by_cases hlt : k < t.rules.length
    · have hr := ruls_aft HA.out h2
      have htf := table_fits HT.out hlt
      obtain ⟨b, off, D2, capD2, rfl, hb, c0, c1, c2, c3, c4, c5, c6, c7, hcs, _⟩ := rul_at hr hlt
      obtain ⟨p, hpp⟩ : ∃ p, t.rules[k] = p := ⟨_, rfl⟩
      rw [hpp] at c0 c1 c2 c3 c4 c5 c6 c7 hcs htf
      have HPP := Lib.hid hpp
      clear hr hpp
      cases h3k : (p.kind != 3)
      · have h3' : (p.kind == 3) = true := by simpa using h3k
        have hp0 := fits_pos htf
        have hq0 := fits_cols htf hp0
        obtain ⟨q, hq⟩ := Int.eq_ofNat_of_zero_le hq0
        have hql := colAt_lt hq
        have hqr : q < row.length := by have := HLL.out; omega
        have HBD := Lib.hid (show badR t.cols row t.rules[k] = outB row[q] p by rw [HPP.out]; exact badR_of h3' hp0 hq hqr)
        obtain ⟨W, hW⟩ : ∃ W, W = wr.alloc (.cells #[.string p.name, .int .i64 p.kind, .slice D2 p.cols.length capD2, .int .i64 p.low, .int .i64 p.high, .string p.schema, .string p.table, .string p.key] 108) := ⟨_, rfl⟩
        have aW : Aft wr W := by rw [hW]; exact (Aft.refl wr).alloc _
        have hbW : ∀ o, W.cell? ⟨wr.heap.size, o, none⟩ = (#[.string p.name, .int .i64 p.kind, .slice D2 p.cols.length capD2, .int .i64 p.low, .int .i64 p.high, .string p.schema, .string p.table, .string p.key] : Array Value)[o]? := by intro o; rw [hW]; simp
        obtain ⟨b5, off5, hD, hb5, g5, _⟩ := str_at (strs_aft aW hcs) hp0
        subst hD
        obtain ⟨b6, off6, hBB, hb6, v0, v1, v2, _⟩ := val_at (vals_aft (HA.out.trans aW) h3) hqr
        subst hBB
        have g5' : W.cell? ⟨b5, off5, none⟩ = some (.string p.cols[0]) := by simpa using g5
        have t3 : W.cell? ⟨w.heap.size, 3, none⟩ = some (.slice A t.cols.length cap) := aW.cell_kept (hbt 3)
        have r2 : W.cell? ⟨wr.heap.size, 2, none⟩ = some (.slice (some ⟨b5, off5, none⟩) p.cols.length capD2) := hbW 2
        have r3 : W.cell? ⟨wr.heap.size, 3, none⟩ = some (.int .i64 p.low) := hbW 3
        have r4 : W.cell? ⟨wr.heap.size, 4, none⟩ = some (.int .i64 p.high) := hbW 4
        have HAW := Lib.hid (HA.out.trans aW)
        have HABW := Lib.hid (HAB.out.trans aW)
        have Cp := Lib.hid (show ∀ w', Aft W w' → Calls Tryz.prog 63 #[.slice A t.cols.length cap, .string p.cols[0]] w' fun e w'' => e = .returned (.int .i64 q) ∧ Aft w' w'' from
          fun w' a => (place_any A cap t.cols p.cols[0] w' (cols_aft (HAW.out.trans a) h)).mono fun e w'' ⟨he, hw⟩ => ⟨he.trans (by rw [hq]), hw⟩)
        have hzr : wr.heap.size < W.heap.size := by rw [hW]; simp
        clear hq hq0 htf
        go_wp2_with fail
        rw [← hW]
        clear hW
        have KF := Lib.hid (show ∀ w', Aft W w' → (Aft W w' ∧ w'.cell? ⟨w.heap.size, 3, none⟩ = some (.slice A t.cols.length cap) ∧ w'.cell? ⟨wr.heap.size, 2, none⟩ = some (.slice (some ⟨b5, off5, none⟩) p.cols.length capD2) ∧ w'.cell? ⟨b5, off5, none⟩ = some (.string p.cols[0]) ∧ w'.cell? ⟨b6, off6 + q * 3, none⟩ = some (.int .i64 row[q].kind) ∧ w'.cell? ⟨b6, off6 + q * 3 + 1, none⟩ = some (.int .i64 row[q].int) ∧ w'.cell? ⟨b6, off6 + q * 3 + 2, none⟩ = some (.string row[q].text)) from fun w' a => ⟨a, a.cell_kept t3, a.cell_kept r2, a.cell_kept g5', a.cell_kept v0, a.cell_kept v1, a.cell_kept v2⟩)
        go_region_held3 (fun w' => Aft W w' ∧ w'.cell? ⟨w.heap.size, 3, none⟩ = some (.slice A t.cols.length cap) ∧ w'.cell? ⟨wr.heap.size, 2, none⟩ = some (.slice (some ⟨b5, off5, none⟩) p.cols.length capD2) ∧ w'.cell? ⟨b5, off5, none⟩ = some (.string p.cols[0]) ∧ w'.cell? ⟨b6, off6 + q * 3, none⟩ = some (.int .i64 row[q].kind) ∧ w'.cell? ⟨b6, off6 + q * 3 + 1, none⟩ = some (.int .i64 row[q].int) ∧ w'.cell? ⟨b6, off6 + q * 3 + 2, none⟩ = some (.string row[q].text))
          (first | exact KF.out _ (Aft.refl _).drew | exact KF.out _ ((And.left (by assumption : Aft W _ ∧ _)).trans (by assumption)) | exact KF.out _ ((And.left (by assumption : Aft W _ ∧ _)).alloc _) | exact KF.out _ (Aft.alloc (Aft.trans (Aft.drew (Aft.refl W)) (by assumption)) _) | exact KF.out _ (Aft.setCell (Aft.setCell (Aft.setCell (Hid.out (by assumption : Hid (Aft W _))) _ _ (Nat.le_refl _)) _ _ (Nat.le_refl _)) _ _ (Nat.le_refl _)) | exact KF.out _ (Aft.drew (Aft.alloc (Aft.refl W) _)))
          ((go_at_call 63; refine (Cp.out _ (And.left (by assumption : Aft W _ ∧ _))).mono ?_; rintro e w4 ⟨rfl, a4⟩; try (have a5 : Aft (W.alloc (.cells #[.int .i64 0, .int .i64 0, .string ⟨#[]⟩] 37)) w4 := (Aft.refl _).drew.trans a4; obtain ⟨hbn, hfn, hzn, hzkn, HAn⟩ := aft_box a5)))
        · obtain ⟨E, hE⟩ : ∃ E, E = w4.alloc (.cells #[.int .i64 row[q].kind, .int .i64 row[q].int, .string row[q].text] 37) := ⟨_, rfl⟩
          have aE : Aft W E := by rw [hE]; exact ((Aft.refl W).drew.trans a4).alloc _
          have x0 : E.cell? ⟨w4.heap.size, 0, none⟩ = some (.int .i64 row[q].kind) := by rw [hE]; simp
          have x1 : E.cell? ⟨w4.heap.size, 1, none⟩ = some (.int .i64 row[q].int) := by rw [hE]; simp
          have y3 : E.cell? ⟨wr.heap.size, 3, none⟩ = some (.int .i64 p.low) := aE.cell_kept r3
          have y4 : E.cell? ⟨wr.heap.size, 4, none⟩ = some (.int .i64 p.high) := aE.cell_kept r4
          have HAE := Lib.hid (HABW.out.trans aE)
          have HAE0 := Lib.hid (HAW.out.trans aE)
          rw [← hE]
          clear hE aE
          cases g2 : (row[q].kind == 2)
          · have HN := Lib.hid (ext_lt (p := fun j => ∀ (hj : j < t.rules.length), badR t.cols row t.rules[j] = false) HP.out (fun _ => by rw [HBD.out]; unfold outB; rw [g2]; rfl))
            go_wp2_with fail
            go_roundw
            case rel => exact ⟨k + 1, by omega, by go_num, HAE.out, HN.out⟩
            case measure => simp [intOf]; omega
          by_cases gl : row[q].int < p.low
          · have HX := Lib.hid (show fitE t row = 102 by rw [HR.out, any_true _ _ k hlt (by rw [HBD.out]; unfold outB; rw [g2, decide_eq_true gl]; rfl)]; rfl)
            have dl : decide (row[q].int < p.low) = true := decide_eq_true gl
            go_wp2_with fail
            go_ret
            exact ⟨by rw [HX.out]; rfl, HAE0.out⟩
          have dl : decide (row[q].int < p.low) = false := decide_eq_false gl
          by_cases gh : p.high < row[q].int
          · have HX := Lib.hid (show fitE t row = 102 by rw [HR.out, any_true _ _ k hlt (by rw [HBD.out]; unfold outB; rw [g2, dl, decide_eq_true gh]; rfl)]; rfl)
            have dh : decide (p.high < row[q].int) = true := decide_eq_true gh
            go_wp2_with fail
            go_ret
            exact ⟨by rw [HX.out]; rfl, HAE0.out⟩
          · have dh : decide (p.high < row[q].int) = false := decide_eq_false gh
            have HN := Lib.hid (ext_lt (p := fun j => ∀ (hj : j < t.rules.length), badR t.cols row t.rules[j] = false) HP.out (fun _ => by rw [HBD.out]; unfold outB; rw [g2, dl, dh]; rfl))
            go_wp2_with fail
            go_roundw
            case rel => exact ⟨k + 1, by omega, by go_num, HAE.out, HN.out⟩
            case measure => simp [intOf]; omega
        · have rn : RowAt w4 W.heap.size [.int .i64 0, .int .i64 0, .string ⟨#[]⟩] := box_row (c := [.int .i64 0, .int .i64 0, .string ⟨#[]⟩]) a5
          obtain ⟨E, hE⟩ : ∃ E, E = ((w4.setCell ⟨W.heap.size, 0, none⟩ (.int .i64 row[q].kind)).setCell ⟨W.heap.size, 1, none⟩ (.int .i64 row[q].int)).setCell ⟨W.heap.size, 2, none⟩ (.string row[q].text) := ⟨_, rfl⟩
          have aE : Aft W E := by rw [hE]; exact ((HAn.out.setCell _ _ (Nat.le_refl _)).setCell _ _ (Nat.le_refl _)).setCell _ _ (Nat.le_refl _)
          have x0 : E.cell? ⟨W.heap.size, 0, none⟩ = some (.int .i64 row[q].kind) := by rw [hE]; exact (RowAt.cell (xs := [.int .i64 row[q].kind, .int .i64 row[q].int, .string row[q].text]) (((rn.set 0 _ (by simp)).set 1 _ (by simp)).set 2 _ (by simp)) (j := 0) rfl)
          have x1 : E.cell? ⟨W.heap.size, 1, none⟩ = some (.int .i64 row[q].int) := by rw [hE]; exact (RowAt.cell (xs := [.int .i64 row[q].kind, .int .i64 row[q].int, .string row[q].text]) (((rn.set 0 _ (by simp)).set 1 _ (by simp)).set 2 _ (by simp)) (j := 1) rfl)
          have y3 : E.cell? ⟨wr.heap.size, 3, none⟩ = some (.int .i64 p.low) := aE.cell_kept r3
          have y4 : E.cell? ⟨wr.heap.size, 4, none⟩ = some (.int .i64 p.high) := aE.cell_kept r4
          have HAE := Lib.hid (HABW.out.trans aE)
          have HAE0 := Lib.hid (HAW.out.trans aE)
          rw [← hE]
          clear hE aE
          cases g2 : (row[q].kind == 2)
          · have HN := Lib.hid (ext_lt (p := fun j => ∀ (hj : j < t.rules.length), badR t.cols row t.rules[j] = false) HP.out (fun _ => by rw [HBD.out]; unfold outB; rw [g2]; rfl))
            go_wp2_with fail
            go_roundw
            case rel => exact ⟨k + 1, by omega, by go_num, HAE.out, HN.out⟩
            case measure => simp [intOf]; omega
          by_cases gl : row[q].int < p.low
          · have HX := Lib.hid (show fitE t row = 102 by rw [HR.out, any_true _ _ k hlt (by rw [HBD.out]; unfold outB; rw [g2, decide_eq_true gl]; rfl)]; rfl)
            have dl : decide (row[q].int < p.low) = true := decide_eq_true gl
            go_wp2_with fail
            go_ret
            exact ⟨by rw [HX.out]; rfl, HAE0.out⟩
          have dl : decide (row[q].int < p.low) = false := decide_eq_false gl
          by_cases gh : p.high < row[q].int
          · have HX := Lib.hid (show fitE t row = 102 by rw [HR.out, any_true _ _ k hlt (by rw [HBD.out]; unfold outB; rw [g2, dl, decide_eq_true gh]; rfl)]; rfl)
            have dh : decide (p.high < row[q].int) = true := decide_eq_true gh
            go_wp2_with fail
            go_ret
            exact ⟨by rw [HX.out]; rfl, HAE0.out⟩
          · have dh : decide (p.high < row[q].int) = false := decide_eq_false gh
            have HN := Lib.hid (ext_lt (p := fun j => ∀ (hj : j < t.rules.length), badR t.cols row t.rules[j] = false) HP.out (fun _ => by rw [HBD.out]; unfold outB; rw [g2, dl, dh]; rfl))
            go_wp2_with fail
            go_roundw
            case rel => exact ⟨k + 1, by omega, by go_num, HAE.out, HN.out⟩
            case measure => simp [intOf]; omega
      · have HN := Lib.hid (ext_lt (p := fun j => ∀ (hj : j < t.rules.length), badR t.cols row t.rules[j] = false) HP.out (fun _ => by rw [HPP.out]; unfold badR; rw [show (p.kind == 3) = false by simpa using h3k]; rfl))
        go_wp2_with fail
        go_roundw
        case rel => exact ⟨k + 1, by omega, by go_num, HAB.out.alloc _, HN.out⟩
        case measure => simp [intOf]; omega
    · have HF := Lib.hid (show fitE t row = 0 by rw [HR.out, any_false _ _ fun j hj => HP.out j (by omega) hj]; rfl)
      go_wp2_with fail
      go_ret
      exact ⟨by rw [HF.out]; rfl, HA.out⟩
end Go.Proofs.YtiadkchlkdaceaaGreat

namespace Go.Proofs.YtiadkchlkdaceaaGreat
open Go.RowKit
set_option maxRecDepth 100000
set_option linter.unusedVariables false
theorem info2Val : (Tryz.prog.info? 37).map (fun i => (i.zero, i.size, i.bytes)) = some (some (.agg #[.int .i64 0, .int .i64 0, .string ByteArray.empty]), 3, 32) := by kernel_rfl
set_option maxHeartbeats 2000000 in
theorem clone2Val (A : Option Addr) (cap : Nat) (l : List Val) (w0 w : World) (ha : Aft w0 w) (h : SlAt w0 3 ValR A cap l) (hb : l.length ≤ 1000000) :
    Calls Tryz.prog 69 #[.slice A l.length cap] w (CloneQ 37 3 ValR w0 w l) := by
  obtain ⟨i0, hi, hz0, hz1, hz2⟩ := info_parts info2Val
  have q22 : ∀ (w : World) (a : Option Addr) (n c n' c' : Nat), (binOp .eql 34 (.slice a n c) (.slice none n' c')).run Tryz.prog w = .ok (.bool a.isNone) w := fun w a n c n' c' => Lib.run_eql_slice_nil w _ _ a n c n' c' Tryz.underlying34
  cases A with
  | none =>
    have hl0 : l = [] := by
      cases l with
      | nil => rfl
      | cons x l => obtain ⟨b, off, cs, hA, _⟩ := h.2.2 0 (by simp); cases hA
    subst hl0
    go_enter Tryz.func69, Tryz.ntmps69
    go_wp2_with fail
    go_ret
    exact ⟨_, [], rfl, Aft.refl _, own_nil _ _ _ _, Chunks.nil⟩
  | some ad =>
    have HC : ∃ css, Chunks w0 3 ValR css l ∧ ∀ p u, css.flatten[p]? = some u → w.cell? (ad.add p) = some u := by
      by_cases h0 : 0 < l.length
      · obtain ⟨b, off, css, hA, hb', hch, hc⟩ := h.css h0 (by decide)
        simp only [Option.some.injEq] at hA
        subst hA
        refine ⟨css, hch, fun p u hp => ?_⟩
        have hlt : p < l.length * 3 := by rw [← hch.len]; exact (List.getElem?_eq_some_iff.1 hp).1
        rw [add_mk]; exact ha.cell_kept ((hc p hlt).trans hp)
      · have hl0 : l = [] := List.eq_nil_of_length_eq_zero (by omega)
        subst hl0
        exact ⟨[], Chunks.nil, fun p u hp => by simp at hp⟩
    obtain ⟨css, hch, hcell⟩ := HC
    have H1 := Lib.hid hcell
    have H2 : Hid (∀ u ∈ css.flatten, u.oneCell' = true) := Lib.hid (by
      intro u hu
      obtain ⟨c, hc, hu⟩ := List.mem_flatten.1 hu
      obtain ⟨i, hi, rfl⟩ := List.getElem_of_mem hc
      have h3 := (hch.2 i hi (by rw [← hch.1]; exact hi)).2
      obtain ⟨hcs, _⟩ := h3
      rw [hcs] at hu
      simp only [List.mem_cons, List.not_mem_nil, or_false] at hu
      rcases hu with rfl | rfl | rfl <;> simp [Value.oneCell'])
    have H3 := Lib.hid hch
    have HI := Lib.hid hi
    have HZ0 := Lib.hid hz0
    have HZ1 := Lib.hid hz1
    have HZ2 := Lib.hid hz2
    clear hcell hch hi hz0 hz1 hz2 h ha
    go_enter Tryz.func69, Tryz.ntmps69
    go_wp2_with (at_builtin; refine wpList_append_own _ rfl _ _ 34 rfl w.heap.size 37 i0 (.agg #[.int .i64 0, .int .i64 0, .string ByteArray.empty]) 3 32 Tryz.underlying34 HI.out HZ0.out HZ1.out HZ2.out rfl (by decide) _ _ _ rfl (World.ownsRow_made w #[] 0 (Nat.le_refl _) (Nat.zero_le _) rfl) ad l.length cap css.flatten rfl ?qc1 ?qc2 ?qc3 ?qc4 ?qc5 ?qc6 ?_)
    case qc1 => exact H3.out.len
    case qc2 =>
      intro j u hj
      exact Lib.cell?_alloc_some _ (H1.out j u hj)
    case qc3 => exact H2.out
    case qc4 => unfold maxLen; omega
    case qc5 => omega
    case qc6 => simp
    intro v' w1 hown hgrow hnil
    have HO := Lib.hid hown
    have HA := Lib.hid (show Aft w w1 from ((Below.refl _ w).alloc (Nat.le_refl _) _).grown hgrow (by simp) (by intro k hk; simp [Value.ownBlock] at hk; omega))
    clear hown hgrow hnil
    go_wp2_with fail
    go_ret
    refine ⟨v', css, rfl, HA.out, ?_, H3.out⟩
    simpa using HO.out
theorem info2Row : (Tryz.prog.info? 34).map (fun i => (i.zero, i.size, i.bytes)) = some (some (.slice none 0 0), 1, 24) := by kernel_rfl
set_option maxHeartbeats 2000000 in
theorem clone2Row (A : Option Addr) (cap : Nat) (l : List (List Val)) (w0 w : World) (ha : Aft w0 w) (h : SlAt w0 1 RowsR A cap l) (hb : l.length ≤ 1000000) :
    Calls Tryz.prog 107 #[.slice A l.length cap] w (CloneQ 34 1 RowsR w0 w l) := by
  obtain ⟨i0, hi, hz0, hz1, hz2⟩ := info_parts info2Row
  have q22 : ∀ (w : World) (a : Option Addr) (n c n' c' : Nat), (binOp .eql 47 (.slice a n c) (.slice none n' c')).run Tryz.prog w = .ok (.bool a.isNone) w := fun w a n c n' c' => Lib.run_eql_slice_nil w _ _ a n c n' c' Tryz.underlying47
  cases A with
  | none =>
    have hl0 : l = [] := by
      cases l with
      | nil => rfl
      | cons x l => obtain ⟨b, off, cs, hA, _⟩ := h.2.2 0 (by simp); cases hA
    subst hl0
    go_enter Tryz.func107, Tryz.ntmps107
    go_wp2_with fail
    go_ret
    exact ⟨_, [], rfl, Aft.refl _, own_nil _ _ _ _, Chunks.nil⟩
  | some ad =>
    have HC : ∃ css, Chunks w0 1 RowsR css l ∧ ∀ p u, css.flatten[p]? = some u → w.cell? (ad.add p) = some u := by
      by_cases h0 : 0 < l.length
      · obtain ⟨b, off, css, hA, hb', hch, hc⟩ := h.css h0 (by decide)
        simp only [Option.some.injEq] at hA
        subst hA
        refine ⟨css, hch, fun p u hp => ?_⟩
        have hlt : p < l.length * 1 := by rw [← hch.len]; exact (List.getElem?_eq_some_iff.1 hp).1
        rw [add_mk]; exact ha.cell_kept ((hc p hlt).trans hp)
      · have hl0 : l = [] := List.eq_nil_of_length_eq_zero (by omega)
        subst hl0
        exact ⟨[], Chunks.nil, fun p u hp => by simp at hp⟩
    obtain ⟨css, hch, hcell⟩ := HC
    have H1 := Lib.hid hcell
    have H2 : Hid (∀ u ∈ css.flatten, u.oneCell' = true) := Lib.hid (by
      intro u hu
      obtain ⟨c, hc, hu⟩ := List.mem_flatten.1 hu
      obtain ⟨i, hi, rfl⟩ := List.getElem_of_mem hc
      have h3 := (hch.2 i hi (by rw [← hch.1]; exact hi)).2
      obtain ⟨A2, cap2, hcs, _⟩ := h3
      rw [hcs] at hu
      simp only [List.mem_cons, List.not_mem_nil, or_false] at hu
      rcases hu with rfl <;> simp [Value.oneCell'])
    have H3 := Lib.hid hch
    have HI := Lib.hid hi
    have HZ0 := Lib.hid hz0
    have HZ1 := Lib.hid hz1
    have HZ2 := Lib.hid hz2
    clear hcell hch hi hz0 hz1 hz2 h ha
    go_enter Tryz.func107, Tryz.ntmps107
    go_wp2_with (at_builtin; refine wpList_append_own _ rfl _ _ 47 rfl w.heap.size 34 i0 (.slice none 0 0) 1 24 Tryz.underlying47 HI.out HZ0.out HZ1.out HZ2.out rfl (by decide) _ _ _ rfl (World.ownsRow_made w #[] 0 (Nat.le_refl _) (Nat.zero_le _) rfl) ad l.length cap css.flatten rfl ?qc1 ?qc2 ?qc3 ?qc4 ?qc5 ?qc6 ?_)
    case qc1 => exact H3.out.len
    case qc2 =>
      intro j u hj
      exact Lib.cell?_alloc_some _ (H1.out j u hj)
    case qc3 => exact H2.out
    case qc4 => unfold maxLen; omega
    case qc5 => omega
    case qc6 => simp
    intro v' w1 hown hgrow hnil
    have HO := Lib.hid hown
    have HA := Lib.hid (show Aft w w1 from ((Below.refl _ w).alloc (Nat.le_refl _) _).grown hgrow (by simp) (by intro k hk; simp [Value.ownBlock] at hk; omega))
    clear hown hgrow hnil
    go_wp2_with fail
    go_ret
    refine ⟨v', css, rfl, HA.out, ?_, H3.out⟩
    simpa using HO.out
end Go.Proofs.YtiadkchlkdaceaaGreat

