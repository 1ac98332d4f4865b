/- Contracts of the program, part 18. -/
import Derived.Deep.RegionHeld3
import Derived.Deep.AppendLies
import Derived.WalkMore
import Derived.Deep.DeepMust
import Derived.OwnWalk
import Derived.Laws.AppendOwn
import Derived.ProofKit
import Derived.OpenShut
import Derived.Deep.Slices
import Derived.ChangeOld
import Derived.SizedLaws
import Derived.WalkKit
import Derived.WalkSpells
import Derived.WalkLawsBesides
import Derived.Lib.Hide
import Derived.Deep.QuietTactic
import Derived.BigQuiet
import Derived.Below
import Derived.Deep.Draws
import Derived.StillTailTactics
import Derived.Laws.Cells
import Derived.Laws.IdiomCopy
import Derived.Test.YtlklmekapbojdaaGreatRows
import Derived.Lib.Walk
import Derived.Laws.EntriesVeiled
import Derived.Maps.Own
import Derived.Maps.Views
import Derived.Deep.Upon
import Derived.OneCell
import Derived.OrdersHeld
import Derived.IntWalk
import Derived.Lib.Bytealg
import Derived.Lib.SliceRun
import Derived.Deep.RegionLaw
import Derived.Lib.AppendZerosOnto
import Derived.Lib.Overlaps
import Derived.Shelf.SlSortCmp.WholeK
import Derived.Laws.StructEq
import Derived.WideKeyEntry
import Derived.DeepKeys3
import Derived.ChangeKeys
import Derived.Test.YtlklmekapbojdaaGreatPartL1
import Derived.Test.YtlklmekapbojdaaGreatPartL2
import Derived.Test.YtlklmekapbojdaaGreatPartL3
import Derived.Test.YtlklmekapbojdaaGreatPartL4
import Derived.Test.YtlklmekapbojdaaGreatPartL5
import Derived.Test.YtlklmekapbojdaaGreatPartL6
import Derived.Test.YtlklmekapbojdaaGreatPartL7
import Derived.Test.YtlklmekapbojdaaGreatPartL8
import Derived.Test.YtlklmekapbojdaaGreatPartL9
import Derived.Test.YtlklmekapbojdaaGreatPartL10
import Derived.Test.YtlklmekapbojdaaGreatPartL12
import Derived.Test.YtlklmekapbojdaaGreatPartL13
import Derived.Test.YtlklmekapbojdaaGreatPartL14
import Derived.Test.YtlklmekapbojdaaGreatPartL15
import Derived.Test.YtlklmekapbojdaaGreatPartL16
namespace Go.Proofs.YtlklmekapbojdaaGreat
open Go.RowKit Go.Deep
set_option maxRecDepth 100000
set_option linter.unusedVariables false
theorem give_not {c : Cat} {g : Gra} (h1 : wholeB c = true) (h2 : (kindB g.right && !eqS g.giver g.to && decide (0 ≤ tabAt c.objs.tables g.schema g.table) && inB c.rols.names g.giver && inB c.rols.names g.to) = true) (h3 : justB c c.grants g = false) : giveR c g = (noC, 91) := by
  simp only [Bool.and_eq_true, decide_eq_true_eq, Bool.not_eq_true'] at h2
  obtain ⟨⟨⟨⟨k1, k2⟩, k3⟩, k4⟩, k5⟩ := h2
  unfold giveR
  rw [h1, k1, k2, k4, k5, h3, if_neg (by simp), if_neg (by omega), if_neg (by simp), if_pos (by simp)]
theorem ex_give3 : giveR oneC (oneG bB bA) = (noC, 91) := by
  rw [give_not oneC_whole (by decide +kernel) (by unfold justB; rw [show allL oneC.rols (oneG bB bA).giver = [bA, bB, bO, bRoot].filter (eqS bB) from oneC_all bB (by decide +kernel)]; decide +kernel)]
end Go.Proofs.YtlklmekapbojdaaGreat

namespace Go.Proofs.YtlklmekapbojdaaGreat
open Go.RowKit Go.Deep
set_option maxRecDepth 100000
set_option linter.unusedVariables false
theorem giveE (l : List Gra) (p q : ByteArray) (n : Nat) (k : Int) (hn : l.length = n) (h : giveR (ExC l) (oneG p q) = (noC, k)) (hp : Small p.size) (hq : Small q.size) (As : Option Addr) (caps : Nat) (At : Option Addr) (capt : Nat) (An : Option Addr) (capn : Nat) (Am : Option Addr) (capm : Nat) (Ag : Option Addr) (capg : Nat) (V : World) (H : CatAt V (ExC l) As caps At capt An capn Am capm Ag capg) :
    Calls Tryz.prog 35 #[.agg #[.int .i64 0, .int .i64 0, .slice As 1 caps, .slice At 1 capt, .slice An 4 capn, .slice Am 0 capm, .slice Ag n capg], .agg #[.string ⟨#[115]⟩, .string ⟨#[116]⟩, .int .i64 1, .string p, .string q, .bool true]] V (NoP9 V k) := by
  subst hn
  exact (giveG (ExC l) As caps At capt An capn Am capm Ag capg (oneG p q) (sm_oneG p q hp hq) V H).mono fun e w' hh => chg_no h hh
set_option maxHeartbeats 16000000 in
theorem gives9 (w : World) : Calls Tryz.prog 37 #[] w fun e w' => e = .returned (.bool true) ∧ Aft w w' := by
  go_enter Tryz.func37, Tryz.ntmps37
  go_wp2_with fail
  refine (one9 _).mono ?_
  rintro e w1 ⟨Os, Ocs, Ot, Oct, On, Ocn, rfl, a1, H1⟩
  have A1 := Lib.hid a1
  have HO := Lib.hid H1
  have SMO := Lib.hid H1.sm
  clear a1 H1
  go_wp2_with fail
  refine (read9 ⟨#[111]⟩ ⟨#[97]⟩ w1).mono ?_
  rintro e w2 ⟨rfl, a2⟩
  have A2 := Lib.hid (A1.out.trans a2)
  have C1 := Lib.hid (giveX [] [oneG bO bA] ⟨#[111]⟩ ⟨#[97]⟩ 0 1 rfl rfl ex_give1 (small1 _) (small1 _) Os Ocs Ot Oct On Ocn none 0 none 0 w2 (HO.out.aft a2))
  clear a2
  go_wp2_with fail
  refine C1.out.mono ?_
  rintro e w3 ⟨hXs, hXt, hXn, hXm, hXg, LX, rfl, a3, ci3⟩
  obtain ⟨Xs, nXs, Xcs⟩ := hXs
  obtain ⟨Xt, nXt, Xct⟩ := hXt
  obtain ⟨Xn, nXn, Xcn⟩ := hXn
  obtain ⟨Xm, nXm, Xcm⟩ := hXm
  obtain ⟨Xg, nXg, Xcg⟩ := hXg
  dsimp only
  obtain ⟨X, hX⟩ : ∃ V, V = w3.alloc (.cells #[.int .i64 0, .int .i64 0, .slice Xs 1 Xcs, .slice Xt 1 Xct, .slice Xn 4 Xcn, .slice Xm 0 Xcm, .slice Xg 1 Xcg] 66) := ⟨_, rfl⟩
  have aX : Aft w3 X := by rw [hX]; exact (Aft.refl _).alloc _
  have RX := Lib.hid (show RowAt X w3.heap.size [.int .i64 0, .int .i64 0, .slice Xs 1 Xcs, .slice Xt 1 Xct, .slice Xn 4 Xcn, .slice Xm 0 Xcm, .slice Xg 1 Xcg] by rw [hX]; exact box_row2 (Aft.refl _))
  have KX := Lib.hid ((ci3.at (sm_exC1 SMO.out [oneG bO bA] (by decide) (by intro g hg; simp at hg; subst hg; exact sm_oneG _ _ (small1 _) (small1 _)))).aft aX)
  have AX := Lib.hid (A2.out.trans (a3.trans aX))
  have C2 := Lib.hid (fun V (a : Aft X V) => giveX [oneG bO bA] [oneG bA bB, oneG bO bA] ⟨#[97]⟩ ⟨#[98]⟩ 1 2 rfl rfl ex_give2 (small1 _) (small1 _) Xs Xcs Xt Xct Xn Xcn Xm Xcm Xg Xcg V (KX.out.aft a))
  obtain ⟨x0, x1, x2, x3, x4, x5, x6, xz⟩ := rowF7 RX.out
  clear a3 ci3 aX C1 HO
  go_wp2_with fail
  rw [← hX]
  clear hX
  have SM1 := Lib.hid (show SmC (ExC [oneG bA bB, oneG bO bA]) from (sm_exC1 SMO.out [oneG bA bB, oneG bO bA] (by decide) (by intro g hg; simp at hg; rcases hg with rfl | rfl <;> exact sm_oneG _ _ (small1 _) (small1 _))))
  have D01 := Lib.hid (show Aft X X.drew from (Aft.refl _).drew)
  have D11 := Lib.hid (show ∀ o, Aft X (X.drew.alloc o) from fun o => (Aft.refl _).drew.alloc o)
  have D21 := Lib.hid (show ∀ o, Aft X (X.alloc o).drew from fun o => ((Aft.refl _).alloc o).drew)
  have KS1 := Lib.hid (show ∀ V, Aft X V → (Aft X V ∧ V.cell? ⟨w3.heap.size, 0, none⟩ = some (.int .i64 0) ∧ V.cell? ⟨w3.heap.size, 1, none⟩ = some (.int .i64 0) ∧ V.cell? ⟨w3.heap.size, 2, none⟩ = some (.slice Xs 1 Xcs) ∧ V.cell? ⟨w3.heap.size, 3, none⟩ = some (.slice Xt 1 Xct) ∧ V.cell? ⟨w3.heap.size, 4, none⟩ = some (.slice Xn 4 Xcn) ∧ V.cell? ⟨w3.heap.size, 5, none⟩ = some (.slice Xm 0 Xcm) ∧ V.cell? ⟨w3.heap.size, 6, none⟩ = some (.slice Xg 1 Xcg)) from fun V a => ⟨a, a.cell_kept x0, a.cell_kept x1, a.cell_kept x2, a.cell_kept x3, a.cell_kept x4, a.cell_kept x5, a.cell_kept x6⟩)
  refine Code.wp_mono (Q := fun e a' w' => e = Exit.normal ∧ ∃ (bxY : Nat) (Ys : Option Addr) (Ycs : Nat) (Yt : Option Addr) (Yct : Nat) (Yn : Option Addr) (Ycn : Nat) (Ym : Option Addr) (Ycm : Nat) (Yg : Option Addr) (Ycg : Nat), XAtX X w' bxY [oneG bA bB, oneG bO bA] 2 Ys Ycs Yt Yct Yn Ycn Ym Ycm Yg Ycg ∧ a' = { tmps := #[.bool false, .pointer (some ⟨w3.heap.size, 0, none⟩), .int .i64 0, .pointer (some ⟨bxY, 0, none⟩), .int .i64 0, undef, undef, .tuple #[.agg #[.int .i64 0, .int .i64 0, .slice Xs 1 Xcs, .slice Xt 1 Xct, .slice Xn 4 Xcn, .slice Xm 0 Xcm, .slice Xg 1 Xcg], .int .i64 0], .agg #[.int .i64 0, .int .i64 0, .slice Os 1 Ocs, .slice Ot 1 Oct, .slice On 4 Ocn, .slice none 0 0, .slice none 0 0], .agg #[.string ⟨#[115]⟩, .string ⟨#[116]⟩, .int .i64 1, .string ⟨#[111]⟩, .string ⟨#[97]⟩, .bool true], .tuple #[.agg #[.int .i64 0, .int .i64 0, .slice Xs 1 Xcs, .slice Xt 1 Xct, .slice Xn 4 Xcn, .slice Xm 0 Xcm, .slice Xg 1 Xcg], .int .i64 0], .agg #[.int .i64 0, .int .i64 0, .slice Xs 1 Xcs, .slice Xt 1 Xct, .slice Xn 4 Xcn, .slice Xm 0 Xcm, .slice Xg 1 Xcg], .int .i64 0, .tuple #[.agg #[.int .i64 0, .int .i64 0, .slice Ys 1 Ycs, .slice Yt 1 Yct, .slice Yn 4 Ycn, .slice Ym 0 Ycm, .slice Yg 2 Ycg], .int .i64 0], .agg #[.int .i64 0, .int .i64 0, .slice Xs 1 Xcs, .slice Xt 1 Xct, .slice Xn 4 Xcn, .slice Xm 0 Xcm, .slice Xg 1 Xcg], .agg #[.string ⟨#[115]⟩, .string ⟨#[116]⟩, .int .i64 1, .string ⟨#[97]⟩, .string ⟨#[98]⟩, .bool true], .tuple #[.agg #[.int .i64 0, .int .i64 0, .slice Ys 1 Ycs, .slice Yt 1 Yct, .slice Yn 4 Ycn, .slice Ym 0 Ycm, .slice Yg 2 Ycg], .int .i64 0], .agg #[.int .i64 0, .int .i64 0, .slice Ys 1 Ycs, .slice Yt 1 Yct, .slice Yn 4 Ycn, .slice Ym 0 Ycm, .slice Yg 2 Ycg], .int .i64 0, undef, undef, undef, undef, undef, undef, undef, undef, undef, undef, undef, undef, undef, undef, undef, undef, undef, undef, undef, undef, undef, undef], defers := [] }) ?mono1 ?reg1
  case reg1 =>
    go_region_held3 (fun V => Aft X V ∧ V.cell? ⟨w3.heap.size, 0, none⟩ = some (.int .i64 0) ∧ V.cell? ⟨w3.heap.size, 1, none⟩ = some (.int .i64 0) ∧ V.cell? ⟨w3.heap.size, 2, none⟩ = some (.slice Xs 1 Xcs) ∧ V.cell? ⟨w3.heap.size, 3, none⟩ = some (.slice Xt 1 Xct) ∧ V.cell? ⟨w3.heap.size, 4, none⟩ = some (.slice Xn 4 Xcn) ∧ V.cell? ⟨w3.heap.size, 5, none⟩ = some (.slice Xm 0 Xcm) ∧ V.cell? ⟨w3.heap.size, 6, none⟩ = some (.slice Xg 1 Xcg))
      (((with_reducible refine KS1.out _ ?_); first | with_reducible exact D01.out | with_reducible exact D11.out _ | with_reducible exact D21.out _ | with_reducible exact b1 | with_reducible exact b1.alloc _ | with_reducible exact b2 | with_reducible exact b2.alloc _ | ((with_reducible refine set_aft b2 ?_); (first | exact b1.size | exact Nat.le_refl _))))
      ((first
        | (go_at_call 98; refine (read9 ⟨#[97]⟩ ⟨#[98]⟩ _).mono ?_; rintro e V1 ⟨rfl, a1⟩; have b1 : Aft X V1 := Aft.trans (And.left (by with_reducible assumption : Aft X _ ∧ _)) a1; first | ((with_reducible have rb := zbox ((Aft.refl _).drew.trans a1)); skip) | skip)
        | (go_at_call 35; (with_reducible refine (C2.out _ (And.left (by with_reducible assumption : Aft X _ ∧ _))).mono ?_); rintro e V2 ⟨hYs, hYt, hYn, hYm, hYg, L2, rfl, a2, ci2⟩; obtain ⟨Ys, nYs, Ycs⟩ := hYs; obtain ⟨Yt, nYt, Yct⟩ := hYt; obtain ⟨Yn, nYn, Ycn⟩ := hYn; obtain ⟨Ym, nYm, Ycm⟩ := hYm; obtain ⟨Yg, nYg, Ycg⟩ := hYg; dsimp only; have b2 : Aft X V2 := Aft.trans (And.left (by with_reducible assumption : Aft X _ ∧ _)) a2; first | ((with_reducible have rb2 := zbox a2); have y0 := rb2.cell (j := 0) rfl; have f0 := rb2.2.2 0 (by simp); have y1 := rb2.cell (j := 1) rfl; have f1 := rb2.2.2 1 (by simp); have y2 := rb2.cell (j := 2) rfl; have f2 := rb2.2.2 2 (by simp); have y3 := rb2.cell (j := 3) rfl; have f3 := rb2.2.2 3 (by simp); have y4 := rb2.cell (j := 4) rfl; have f4 := rb2.2.2 4 (by simp); have y5 := rb2.cell (j := 5) rfl; have f5 := rb2.2.2 5 (by simp); have y6 := rb2.cell (j := 6) rfl; have f6 := rb2.2.2 6 (by simp); have yz := rb2.1) | (have rb2 := rb.aft a2; have y0 := rb2.cell (j := 0) rfl; have f0 := rb2.2.2 0 (by simp); have y1 := rb2.cell (j := 1) rfl; have f1 := rb2.2.2 1 (by simp); have y2 := rb2.cell (j := 2) rfl; have f2 := rb2.2.2 2 (by simp); have y3 := rb2.cell (j := 3) rfl; have f3 := rb2.2.2 3 (by simp); have y4 := rb2.cell (j := 4) rfl; have f4 := rb2.2.2 4 (by simp); have y5 := rb2.cell (j := 5) rfl; have f5 := rb2.2.2 5 (by simp); have y6 := rb2.cell (j := 6) rfl; have f6 := rb2.2.2 6 (by simp); have yz := rb2.1) | skip)))
    all_goals
      refine ⟨rfl, _, Ys, Ycs, Yt, Yct, Yn, Ycn, Ym, Ycm, Yg, Ycg, ?_, rfl⟩
      first
        | (with_reducible exact xat_new b2 ci2 SM1.out)
        | ((with_reducible refine xat_end b2 ci2 SM1.out rb2 ?_ ?_ ?_); (exact rfl); (first | exact b1.size | exact Nat.le_refl _); (first | exact rb.1 | (simp; done) | (simp; omega)))
  case mono1 =>
    rintro e a' w4 ⟨rfl, bxY, Ys, Ycs, Yt, Yct, Yn, Ycn, Ym, Ycm, Yg, Ycg, ⟨a4, r4, k4⟩, rfl⟩
    have A4 := Lib.hid (AX.out.trans a4)
    have RY := Lib.hid r4
    clear a4 r4 k4 KS1 C2 x0 x1 x2 x3 x4 x5 x6 xz
    go_wp2_with fail
    refine (one9 _).mono ?_
    rintro e w5 ⟨Ps, Pcs, Pt, Pct, Pn, Pcn, rfl, a5, H5⟩
    have A5 := Lib.hid (A4.out.trans a5)
    have RY5 := Lib.hid (RY.out.aft a5)
    have HP := Lib.hid H5
    clear a5 H5
    go_wp2_with fail
    refine (read9 ⟨#[98]⟩ ⟨#[97]⟩ w5).mono ?_
    rintro e w6 ⟨rfl, a6⟩
    have A6 := Lib.hid (A5.out.trans a6)
    have RY6 := Lib.hid (RY5.out.aft a6)
    have C3 := Lib.hid (giveE [] ⟨#[98]⟩ ⟨#[97]⟩ 0 91 rfl ex_give3 (small1 _) (small1 _) Ps Pcs Pt Pct Pn Pcn none 0 none 0 w6 (HP.out.aft a6))
    clear a6
    go_wp2_with fail
    refine C3.out.mono ?_
    rintro e w7 ⟨hZs, hZt, hZn, hZm, hZg, rfl, a7⟩
    obtain ⟨Zs, nZs, Zcs⟩ := hZs
    obtain ⟨Zt, nZt, Zct⟩ := hZt
    obtain ⟨Zn, nZn, Zcn⟩ := hZn
    obtain ⟨Zm, nZm, Zcm⟩ := hZm
    obtain ⟨Zg, nZg, Zcg⟩ := hZg
    dsimp only
    have A7 := Lib.hid (A6.out.trans a7)
    have r7 := RY6.out.aft a7
    have q6 : w7.cell? ⟨bxY, 6, none⟩ = some (.slice Yg 2 Ycg) := r7.cell (j := 6) rfl
    have qz := r7.1
    have qz' : bxY < w7.heap.size + 1 := by omega
    clear r7 a7
    go_wp2_with fail
    go_ret
    exact ⟨rfl, A7.out.alloc _⟩
end Go.Proofs.YtlklmekapbojdaaGreat

namespace Go.Proofs.YtlklmekapbojdaaGreat
open Go.RowKit Go.Deep
set_option maxRecDepth 100000
set_option linter.unusedVariables false
theorem give_err {c : Cat} {g : Gra} (h : (giveR c g).2 ≠ 0) : (giveR c g).1 = noC := by
  unfold giveR at h ⊢
  split
  · rfl
  · next h1 =>
    rw [if_neg h1] at h
    split
    · rfl
    · next h2 =>
      rw [if_neg h2] at h
      split
      · rfl
      · next h3 =>
        rw [if_neg h3] at h
        split
        · rfl
        · next h4 =>
          rw [if_neg h4] at h
          split
          · rfl
          · next h5 => rw [if_neg h5] at h; exact absurd rfl h
theorem laid_length (l : List Gra) (g : Gra) : (laid l g).length ≤ l.length + 1 := by
  cases h : inG l g
  · rw [laid_new h, insAt_len _ _ _ (posB_le _ _ _)]; omega
  · rw [laid_old h]; simp
theorem sm_laid {l : List Gra} {g : Gra} (h : ∀ x ∈ l, SmG x) (hg : SmG g) : ∀ x ∈ laid l g, SmG x := fun x hx => by
  cases hi : inG l g
  · rw [laid_new hi] at hx
    rcases mem_insAt.1 hx with e | e
    · subst e; exact hg
    · exact h x e
  · rw [laid_old hi] at hx
    obtain ⟨y, hy, rfl⟩ := List.mem_map.1 hx
    unfold layF
    split
    · exact h y hy
    · exact h y hy
theorem sm_giveR {c : Cat} {g : Gra} (h : SmC c) (hg : SmG g) : SmC (giveR c g).1 := by
  by_cases he : (giveR c g).2 = 0
  · have k := give_ok he
    rw [k.is]
    have h64 := (stands_iff.1 (whole_iff.1 k.whole).1).1
    exact ⟨h.1, h.2.1, by have := laid_length c.grants g; unfold Small; show (laid c.grants g).length * 16 ≤ _; omega, sm_laid h.2.2.2 hg⟩
  · rw [give_err he]; exact sm_noC
end Go.Proofs.YtlklmekapbojdaaGreat

