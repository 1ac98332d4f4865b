/- Contracts of the program, part 15. -/
import Derived.Lib.ItoaLen
import Derived.Deep.DeepMust
import Derived.Lib.AppendIntMem
import Derived.Recover
import Derived.Defers
import Derived.Deep.Cut
import Derived.Lib.SplitLaws
import Derived.Lib.CountLaws
import Derived.Deep.RegionLaw
import Derived.RegionDies
import Derived.Deep.AppendLies
import Derived.Laws.EntriesVeiled
import Derived.WalkKit
import Derived.WalkSpells
import Derived.WalkLawsBesides
import Derived.Laws.Cells
import Derived.Laws.IdiomCopy
import Derived.Test.YtbdanlipghhgpaaGreatDoorRows
import Derived.Lib.Bytealg
import Derived.Lib.Hide
import Derived.ProofKit
import Derived.OpenShut
import Derived.Deep.Slices
import Derived.ChangeOld
import Derived.SizedLaws
import Derived.Deep.QuietTactic
import Derived.BigQuiet
import Derived.Below
import Derived.Deep.Draws
import Derived.StillTailTactics
import Derived.ShutString
import Derived.Lib.Atoi
import Derived.Lib.ItoaNum
import Derived.Lib.Split
import Derived.Lib.CutLaws
import Derived.Lib.Strings
import Derived.Lib.SlTrimSet
import Derived.Deep.Upon
import Derived.OwnWalk
import Derived.Laws.AppendOwn
import Derived.Shelf.Strings.Builder1
import Derived.Shelf.Strings.Builder2
import Derived.Shelf.Strings.OnBuilder
import Derived.Shelf.Strings.Trim
import Derived.Shelf.Small.Utf8
import Derived.Shelf.Small.Strs
import Derived.Shelf.Small.Wraps
import Derived.Shelf.Strconv.Atoi
import Derived.Shelf.Strconv.Itoa0
import Derived.Shelf.Strconv.Itoa1
import Derived.Shelf.LaysM
import Derived.Shelf.Strconv.Itoa2
import Derived.Shelf.Strconv.Itoa3
import Derived.Shelf.Strings.Search1
import Derived.Shelf.Strings.Search2
import Derived.Shelf.Strings.Search3
import Derived.Shelf.Strings.Cut
import Derived.Shelf.Strings.Count
import Derived.Shelf.Strings.Shaped
import Derived.Shelf.Strings.Prefix
import Derived.Shelf.Strings.Split
import Derived.Shelf.Strings.Runes
import Derived.Shelf.Strings.AsciiSet
import Derived.Shelf.Unicode.DecodeSlow
import Derived.Shelf.Slices.Equal
import Derived.Shelf.Slices.Empties2
import Derived.Shelf.Strings.SlTrimAscii
import Derived.Test.YtbdanlipghhgpaaGreatDoorProg
import Derived.Deep.DeepCutAuto
import Derived.Deep.CutRange
import Derived.Deep.RegionHeld3
import Derived.Test.YtbdanlipghhgpaaGreatDoorPartB1
import Derived.Test.YtbdanlipghhgpaaGreatDoorPartB2
import Derived.Test.YtbdanlipghhgpaaGreatDoorPartB3
import Derived.Test.YtbdanlipghhgpaaGreatDoorPartB4
import Derived.Test.YtbdanlipghhgpaaGreatDoorPartB5
import Derived.Test.YtbdanlipghhgpaaGreatDoorPartB6
import Derived.Test.YtbdanlipghhgpaaGreatDoorPartB7
import Derived.Test.YtbdanlipghhgpaaGreatDoorPartB8
import Derived.Test.YtbdanlipghhgpaaGreatDoorPartB9
import Derived.Test.YtbdanlipghhgpaaGreatDoorPartB10
import Derived.Test.YtbdanlipghhgpaaGreatDoorPartB11
import Derived.Test.YtbdanlipghhgpaaGreatDoorPartB12
import Derived.Test.YtbdanlipghhgpaaGreatDoorPartB13
import Derived.Test.YtbdanlipghhgpaaGreatDoorPartB14
namespace Go.Proofs.YtbdanlipghhgpaaGreatDoor
open Go.RowKit Go.Deep
set_option maxRecDepth 100000
set_option linter.unusedVariables false
theorem join_eq : ∀ W : List Bts, Lib.join W [32] = joinL 32 W
  | [] => rfl
  | [w] => by simp [Lib.join, joinL, List.intercalate]
  | w :: v :: r => by
    have := join_eq (v :: r)
    unfold Lib.join at this ⊢
    rw [joinL, ← this]
    simp [List.intercalate, List.intersperse]
def ShortW (n : Nat) (W : Ws) : Prop := W.length ≤ n ∧ ∀ x ∈ W, x.size ≤ 64
theorem short_and {a b : Option Ws} {W : Ws} {n m : Nat} (h : andL a b = some W) (ha : ∀ X, a = some X → ShortW n X) (hb : ∀ X, b = some X → ShortW m X) : ShortW (n + m) W := by
  cases a with
  | none => cases h
  | some X =>
    cases b with
    | none => cases h
    | some Y =>
      cases h
      obtain ⟨a1, a2⟩ := ha X rfl
      obtain ⟨b1, b2⟩ := hb Y rfl
      exact ⟨by simp; omega, fun x hx => (List.mem_append.1 hx).elim (a2 x) (b2 x)⟩
theorem ShortW.le {n m : Nat} {W : Ws} (h : ShortW n W) (hn : n ≤ m) : ShortW m W := ⟨Nat.le_trans h.1 hn, h.2⟩
theorem nameB_le {s : ByteArray} (h : nameB s = true) : s.size ≤ 16 := by
  simp only [nameB, Bool.and_eq_true, decide_eq_true_eq] at h; exact h.1.1.2
theorem nms_short {l W : Ws} (h : nmsL l = some W) : ShortW l.length W := by
  unfold nmsL at h
  split at h
  · rename_i ha
    cases h
    exact ⟨Nat.le_refl _, fun x hx => Nat.le_trans (nameB_le (List.all_eq_true.1 ha x hx)) (by decide)⟩
  · cases h
theorem itoaB_le {n : Int} (h : inN n = true) : (itoaB n).size ≤ 64 := by
  simp only [inN, Bool.and_eq_true, decide_eq_true_eq] at h
  unfold itoaB
  rw [wd_size]
  exact Nat.le_trans (Lib.itoa_length_le n (by omega) (by omega)) (by decide)
theorem nus_short {l : List Int} {W : Ws} (h : nusL l = some W) : ShortW l.length W := by
  unfold nusL at h
  split at h
  · rename_i ha
    cases h
    refine ⟨by simp, fun x hx => ?_⟩
    obtain ⟨n, hn, rfl⟩ := List.mem_map.1 hx
    exact itoaB_le (List.all_eq_true.1 ha n hn)
  · cases h
theorem catB_size (a b : ByteArray) : (catB a b).size = a.size + b.size := by
  unfold catB
  rw [wd_size, List.length_append, Lib.size_eq, Lib.size_eq]
theorem cols_short {l : List Col} {W : Ws} (h : colsL l = some W) : ShortW l.length W := by
  unfold colsL at h
  split at h
  · rename_i ha
    cases h
    refine ⟨by simp, fun x hx => ?_⟩
    obtain ⟨c, hc, rfl⟩ := List.mem_map.1 hx
    have := nameB_le (List.all_eq_true.1 ha c hc)
    have z1 : b_cint.size = 4 := rfl
    have z2 : b_ctext.size = 5 := rfl
    have z3 : b_nul.size = 1 := rfl
    unfold colT
    split <;> split <;> simp only [catB_size] <;> omega
  · cases h
theorem vals_short {l : List Val} {W : Ws} (h : valsL l = some W) : ShortW l.length W := by
  unfold valsL at h
  split at h
  · rename_i ha
    cases h
    refine ⟨by simp, fun x hx => ?_⟩
    obtain ⟨v, hv, rfl⟩ := List.mem_map.1 hx
    have ho := List.all_eq_true.1 ha v hv
    unfold okV at ho
    unfold valT
    split
    · decide
    · split
      · rename_i h2
        rw [if_pos h2] at ho
        exact itoaB_le ho
      · rename_i h2
        rw [if_neg h2] at ho
        simp only [txtB, Bool.and_eq_true, decide_eq_true_eq] at ho
        have z : b_quo.size = 1 := rfl
        rw [catB_size]; omega
  · cases h
theorem one_short {w : ByteArray} (hw : w.size ≤ 64) {X : Ws} (h : (some [w] : Option Ws) = some X) : ShortW 1 X := by
  cases h
  exact ⟨by simp, by simpa using hw⟩
theorem nil_short {X : Ws} (h : (some [] : Option Ws) = some X) : ShortW 0 X := by
  cases h
  exact ⟨by simp, by simp⟩
theorem onTab_short {w : ByteArray} (hw : w.size ≤ 64) {x : Cmd} {W : Ws} (h : onTabL w x = some W) : ShortW 4 W :=
  short_and (n := 1) (m := 3) h (fun X e => one_short hw e) (fun X e => nms_short e)
theorem right_short {x : Cmd} {W : Ws} (h : rightL x = some W) : ShortW 3 W :=
  short_and (n := 1) (m := 2) h (fun X e => one_short (by split <;> decide) e) (fun X e => short_and (n := 1) (m := 1) e (fun Y e => nms_short e) (fun Y e => by
    revert e
    split
    · exact one_short (by decide)
    · intro e; exact (nil_short e).le (by decide)))
theorem rule_short {x : Cmd} {W : Ws} (h : ruleL x = some W) : ShortW (10 + x.rule.cols.length) W := by
  have := short_and (n := 1) (m := 4 + (3 + (x.rule.cols.length + 2))) h (fun X e => by
    revert e
    split
    · exact one_short (by decide)
    · split
      · exact one_short (by decide)
      · split
        · exact one_short (by decide)
        · split
          · exact one_short (by decide)
          · intro e; cases e) (fun X e => short_and (n := 4) e (fun Y e => nms_short e) (fun Y e => short_and (n := 3) e (fun Z e => by
      revert e
      split
      · exact nms_short
      · intro e; exact (nil_short e).le (by decide)) (fun Z e => short_and (n := x.rule.cols.length) (m := 2) e (fun U e => nms_short e) (fun U e => by
        revert e
        split
        · exact nus_short
        · intro e; exact (nil_short e).le (by decide)))))
  exact this.le (by omega)
theorem cmd_short {x : Cmd} {W : Ws} (h : cmdL x = some W) (hlc : x.cols.length ≤ 4100) (hl : x.rule.cols.length ≤ 4100) : ShortW 4600 W := by
  unfold cmdL at h
  by_cases g1 : x.kind = 1
  · rw [if_pos g1] at h
    exact (short_and (n := 1) (m := 3) h (fun X e => one_short (by decide) e) (fun X e => (nms_short e).le (by simp))).le (by decide)
  rw [if_neg g1] at h
  by_cases g2 : x.kind = 2
  · rw [if_pos g2] at h
    exact (short_and (n := 1) (m := 3) h (fun X e => one_short (by decide) e) (fun X e => (nms_short e).le (by simp))).le (by decide)
  rw [if_neg g2] at h
  by_cases g3 : x.kind = 3
  · rw [if_pos g3] at h
    exact (short_and (n := 4) (m := 4100) h (fun X e => onTab_short (by decide) e) (fun X e => (cols_short e).le hlc)).le (by decide)
  rw [if_neg g3] at h
  by_cases g4 : x.kind = 4
  · rw [if_pos g4] at h
    exact (onTab_short (by decide) h).le (by decide)
  rw [if_neg g4] at h
  by_cases g5 : x.kind = 5
  · rw [if_pos g5] at h
    exact (short_and (n := 4) (m := 4100) h (fun X e => onTab_short (by decide) e) (fun X e => (cols_short e).le hlc)).le (by decide)
  rw [if_neg g5] at h
  by_cases g6 : x.kind = 6
  · rw [if_pos g6] at h
    exact (short_and (n := 4) (m := 1) h (fun X e => onTab_short (by decide) e) (fun X e => nms_short e)).le (by decide)
  rw [if_neg g6] at h
  by_cases g7 : x.kind = 7
  · rw [if_pos g7] at h
    exact (rule_short h).le (by omega)
  rw [if_neg g7] at h
  by_cases g8 : x.kind = 8
  · rw [if_pos g8] at h
    exact (short_and (n := 4) (m := 1) h (fun X e => onTab_short (by decide) e) (fun X e => nms_short e)).le (by decide)
  rw [if_neg g8] at h
  by_cases g9 : x.kind = 9
  · rw [if_pos g9] at h
    exact (short_and (n := 4) (m := 1) h (fun X e => onTab_short (by decide) e) (fun X e => nms_short e)).le (by decide)
  rw [if_neg g9] at h
  by_cases g10 : x.kind = 10
  · rw [if_pos g10] at h
    exact (short_and (n := 1) (m := 3) h (fun X e => one_short (by decide) e) (fun X e => (nms_short e).le (by simp))).le (by decide)
  rw [if_neg g10] at h
  by_cases g11 : x.kind = 11
  · rw [if_pos g11] at h
    exact (short_and (n := 1) (m := 3) h (fun X e => one_short (by decide) e) (fun X e => (nms_short e).le (by simp))).le (by decide)
  rw [if_neg g11] at h
  by_cases g12 : x.kind = 12
  · rw [if_pos g12] at h
    exact (short_and (n := 1) (m := 3) h (fun X e => one_short (by decide) e) (fun X e => (nms_short e).le (by simp))).le (by decide)
  rw [if_neg g12] at h
  by_cases g13 : x.kind = 13
  · rw [if_pos g13] at h
    exact (short_and (n := 1) (m := 3) h (fun X e => one_short (by decide) e) (fun X e => (nms_short e).le (by simp))).le (by decide)
  rw [if_neg g13] at h
  by_cases g14 : x.kind = 14
  · rw [if_pos g14] at h
    exact (short_and (n := 4) (m := 3) h (fun X e => onTab_short (by decide) e) (fun X e => right_short e)).le (by decide)
  rw [if_neg g14] at h
  by_cases g15 : x.kind = 15
  · rw [if_pos g15] at h
    exact (short_and (n := 4) (m := 3) h (fun X e => onTab_short (by decide) e) (fun X e => right_short e)).le (by decide)
  rw [if_neg g15] at h
  cases h
theorem row_short {r : ROp} {W : Ws} (h : rowL r = some W) (hlr : r.row.length ≤ 4100) : ShortW 4600 W := by
  have := short_and (n := 1) (m := 3 + (2 + r.row.length)) h (fun X e => one_short (by split <;> (try split) <;> decide) e) (fun X e => short_and (n := 3) e (fun Y e => nms_short e) (fun Y e => short_and (n := 2) e (fun Z e => by
    revert e
    split
    · intro e; exact short_and (n := 1) (m := 1) e (fun U e => nms_short e) (fun U e => vals_short e)
    · intro e; exact (nil_short e).le (by decide)) (fun Z e => vals_short e)))
  exact this.le (by omega)
theorem act_short {a : Dact} {W : Ws} (h : actM a = some W) (hlc : a.cmd.cols.length ≤ 4100) (hl : a.cmd.rule.cols.length ≤ 4100) (hlr : a.row.row.length ≤ 4100) : ShortW 9000 W := by
  unfold actM at h
  by_cases k8 : a.kind = 8
  · rw [if_pos k8] at h
    exact (short_and (n := 1) (m := 2) h (fun X e => one_short (by unfold chgX chgW; split <;> (try split) <;> (try split) <;> decide) e) (fun X e => nus_short e)).le (by decide)
  rw [if_neg k8] at h
  unfold actL at h
  by_cases g1 : a.kind = 1
  · rw [if_pos g1] at h
    exact (short_and (n := 1) (m := 3) h (fun X e => one_short (by decide) e) (fun X e => (nus_short e).le (by simp))).le (by decide)
  rw [if_neg g1] at h
  by_cases g2 : a.kind = 2
  · rw [if_pos g2] at h
    exact (one_short (by decide) h).le (by decide)
  rw [if_neg g2] at h
  by_cases g12 : a.kind = 12
  · rw [if_pos g12] at h
    exact (short_and (n := 1) (m := 3) h (fun X e => one_short (by decide) e) (fun X e => (nus_short e).le (by simp))).le (by decide)
  rw [if_neg g12] at h
  by_cases g3 : a.kind = 3
  · rw [if_pos g3] at h
    exact (short_and (n := 1) (m := 3) h (fun X e => one_short (by decide) e) (fun X e => (nus_short e).le (by simp))).le (by decide)
  rw [if_neg g3] at h
  by_cases g4 : a.kind = 4
  · rw [if_pos g4] at h
    exact (short_and (n := 1) (m := 3) h (fun X e => one_short (by decide) e) (fun X e => (nus_short e).le (by simp))).le (by decide)
  rw [if_neg g4] at h
  by_cases g5 : a.kind = 5
  · rw [if_pos g5] at h
    exact (short_and (n := 1) (m := 3) h (fun X e => one_short (by decide) e) (fun X e => (nus_short e).le (by simp))).le (by decide)
  rw [if_neg g5] at h
  by_cases g6 : a.kind = 6
  · rw [if_pos g6] at h
    exact (short_and (n := 1) (m := 3 + 4600) h (fun X e => one_short (by decide) e) (fun X e => short_and (n := 3) (m := 4600) e (fun Y e => nus_short e) (fun Y e => cmd_short e hlc hl))).le (by decide)
  rw [if_neg g6] at h
  by_cases g7 : a.kind = 7
  · rw [if_pos g7] at h
    exact (short_and (n := 1) (m := 3) h (fun X e => one_short (by decide) e) (fun X e => (nus_short e).le (by simp))).le (by decide)
  rw [if_neg g7] at h
  by_cases g8 : a.kind = 8
  · rw [if_pos g8] at h
    exact absurd g8 k8
  rw [if_neg g8] at h
  by_cases g9 : a.kind = 9
  · rw [if_pos g9] at h
    exact (short_and (n := 1) (m := 3) h (fun X e => one_short (by decide) e) (fun X e => (nus_short e).le (by simp))).le (by decide)
  rw [if_neg g9] at h
  by_cases g10 : a.kind = 10
  · rw [if_pos g10] at h
    exact (short_and (n := 1) (m := 1 + 4600) h (fun X e => one_short (by decide) e) (fun X e => short_and (n := 1) (m := 4600) e (fun Y e => nus_short e) (fun Y e => row_short e hlr))).le (by decide)
  rw [if_neg g10] at h
  by_cases g11 : a.kind = 11
  · rw [if_pos g11] at h
    exact (short_and (n := 1) (m := 3) h (fun X e => one_short (by decide) e) (fun X e => (nus_short e).le (by simp))).le (by decide)
  rw [if_neg g11] at h
  cases h
theorem act_words {a : Dact} {W : Ws} (h : actM a = some W) : W ≠ [] := by
  have one : ∀ (w : ByteArray) (o : Option Ws) (W : Ws), andL (some [w]) o = some W → W ≠ [] := by
    intro w o W e
    cases o with
    | none => cases e
    | some X => cases e; simp
  unfold actM at h
  by_cases k8 : a.kind = 8
  · rw [if_pos k8] at h
    exact one _ _ _ h
  rw [if_neg k8] at h
  unfold actL at h
  by_cases g1 : a.kind = 1
  · rw [if_pos g1] at h
    exact one _ _ _ h
  rw [if_neg g1] at h
  by_cases g2 : a.kind = 2
  · rw [if_pos g2] at h
    cases h; simp
  rw [if_neg g2] at h
  by_cases g12 : a.kind = 12
  · rw [if_pos g12] at h
    exact one _ _ _ h
  rw [if_neg g12] at h
  by_cases g3 : a.kind = 3
  · rw [if_pos g3] at h
    exact one _ _ _ h
  rw [if_neg g3] at h
  by_cases g4 : a.kind = 4
  · rw [if_pos g4] at h
    exact one _ _ _ h
  rw [if_neg g4] at h
  by_cases g5 : a.kind = 5
  · rw [if_pos g5] at h
    exact one _ _ _ h
  rw [if_neg g5] at h
  by_cases g6 : a.kind = 6
  · rw [if_pos g6] at h
    exact one _ _ _ h
  rw [if_neg g6] at h
  by_cases g7 : a.kind = 7
  · rw [if_pos g7] at h
    exact one _ _ _ h
  rw [if_neg g7] at h
  by_cases g8 : a.kind = 8
  · rw [if_pos g8] at h
    exact absurd g8 k8
  rw [if_neg g8] at h
  by_cases g9 : a.kind = 9
  · rw [if_pos g9] at h
    exact one _ _ _ h
  rw [if_neg g9] at h
  by_cases g10 : a.kind = 10
  · rw [if_pos g10] at h
    exact one _ _ _ h
  rw [if_neg g10] at h
  by_cases g11 : a.kind = 11
  · rw [if_pos g11] at h
    exact one _ _ _ h
  rw [if_neg g11] at h
  cases h
theorem line_small {W : Ws} (h : ShortW 9000 W) : (joinL 32 (W.map (·.data.toList))).length ≤ 600000 := by
  by_cases hn : W = []
  · subst hn; simp [joinL]
  have h1 := join_len 32 (W.map (·.data.toList)) (by simpa using hn)
  have h2 : ∀ l : Ws, (∀ x ∈ l, x.size ≤ 64) → ((l.map (·.data.toList)).map (·.length + 1)).sum ≤ 65 * l.length := by
    intro l
    induction l with
    | nil => intro _; simp
    | cons x l ih =>
      intro hx
      have a := ih fun y hy => hx y (List.mem_cons_of_mem _ hy)
      have b := hx x List.mem_cons_self
      rw [Lib.size_eq] at b
      simp only [List.map_cons, List.sum_cons, List.length_cons]
      omega
  have h3 := Nat.le_trans (Nat.le_of_eq h1) (h2 W h.2)
  clear h1 h2
  have := h.1
  omega
theorem line_le {a : Dact} {W : Ws} (h : actM a = some W) (hlc : a.cmd.cols.length ≤ 4100) (hl : a.cmd.rule.cols.length ≤ 4100) (hlr : a.row.row.length ≤ 4100) : Small (lineB W).size := by
  have := line_small (act_short h hlc hl hlr)
  unfold lineB
  rw [wd_size]
  unfold Small; omega
end Go.Proofs.YtbdanlipghhgpaaGreatDoor

namespace Go.Proofs.YtbdanlipghhgpaaGreatDoor
open Go.RowKit Go.Deep
set_option maxRecDepth 100000
set_option linter.unusedVariables false
theorem nmZ_small {s : ByteArray} (h : NmZ s) : Small s.size := by
  rcases h with rfl | h
  · exact small_z
  · simp only [nameB, Bool.and_eq_true, decide_eq_true_eq] at h
    have := h.1.1.2
    unfold Small; omega
def codeO (o : Option Dact) : Int := match o with
  | some _ => 0
  | none => 230
def actO (o : Option Dact) : Dact := match o with
  | some a => a
  | none => zAct
def PActQ (w : World) (o : Option Dact) (e : Ending) (w' : World) : Prop :=
  Aft w w' ∧ ∃ A k A2 k2 A3 k3, e = .returned (.tuple #[.agg (actV (actO o) A k A2 k2 A3 k3).toArray, .int .i64 (codeO o)]) ∧ ActX w' (actO o) A k A2 k2 A3 k3
theorem actX_z (w : World) : ActX w zAct none 0 none 0 none 0 := ⟨slAt_nil, slAt_nil, slAt_nil, small_z, small_z, small_z, small_z⟩
theorem sl_ownr {α : Type} {ty : TypeId} {size : Nat} {cells : α → List Value} {b B : Nat} {w : World} {A : Option Addr} {c : Nat} {l : List α} {R : World → List Value → α → Prop} (h : OwnR ty size cells b B w (.slice A l.length c) l) (hl : l.length ≤ 4098) (hf : ∀ x ∈ l, (cells x).length = size ∧ R w (cells x) x) : SlAt w size R A c l := by
  obtain ⟨hd, e, h2, _⟩ := h
  injection e with e1 _ e3
  subst e1; subst e3
  exact own_slf (h := ⟨hd.a, l.length, hd.c⟩) cells h2 hf (by unfold Small; omega)
theorem parse_act (s : ByteArray) (w : World) (hs : Small s.size) (hl : LibV w) : Calls Tryz.prog 6 #[.string s] w (PActQ w (parseB s)) := by
  obtain ⟨m, hm⟩ := hl
  refine (parse_in s w hs ⟨m, hm⟩ (World.block_lt_of_cell? _ _ hm)).mono ?_
  rintro e w' ⟨a, h⟩
  refine ⟨a, ?_⟩
  cases hp : parseB s with
  | none =>
    rw [hp] at h
    exact ⟨none, 0, none, 0, none, 0, h, actX_z w'⟩
  | some y =>
    rw [hp] at h
    obtain ⟨b, B, v, _, ⟨A, k, A2, k2, A3, k3, rfl, ⟨c1, c2, c3⟩, ⟨n1, n2, n3⟩, ⟨v1, v2, v3⟩, ok, _⟩, rfl⟩ := h
    refine ⟨A, k, A2, k2, A3, k3, rfl, sl_ownr c1 (Nat.le_trans c2 (by omega)) fun x hx => ⟨rfl, rfl, c3 x hx⟩, sl_ownr n1 (Nat.le_trans n2 (by omega)) fun x hx => ⟨rfl, rfl, ?_⟩, sl_ownr v1 (Nat.le_trans v2 (by omega)) fun x hx => ⟨rfl, rfl, v3 x hx⟩, nmZ_small ok.rname, nmZ_small ok.rs, nmZ_small ok.rt, nmZ_small ok.rk⟩
    exact nmZ_small (.inr (n3 x hx))
def b_root : ByteArray := ⟨#[114, 111, 111, 116]⟩
def b_ss : ByteArray := ⟨#[115]⟩
def b_tt : ByteArray := ⟨#[116]⟩
def exA1 : Dact := { zAct with kind := 1, node := 11 }
def exA2 : Dact := { zAct with kind := 6, node := 1, client := 2, number := 3, cmd := { zCmd with kind := 3, actor := b_root, schema := b_ss, table := b_tt, cols := [⟨⟨#[120]⟩, 2, false⟩, ⟨⟨#[121]⟩, 3, true⟩] } }
def exA3 : Dact := { zAct with kind := 10, n := 11, row := ⟨1, b_root, b_ss, b_tt, [⟨2, 5, zBy⟩, ⟨1, 0, zBy⟩, ⟨3, 0, ⟨#[97, 98]⟩⟩], zBy, zVal⟩ }
theorem exP1 : parseB ⟨#[116, 105, 99, 107, 32, 49, 49]⟩ = some exA1 := by kernel_rfl
theorem exP2 : parseB ⟨#[97, 115, 107, 32, 49, 32, 50, 32, 51, 32, 116, 97, 98, 108, 101, 32, 114, 111, 111, 116, 32, 115, 32, 116, 32, 120, 58, 105, 110, 116, 32, 121, 58, 116, 101, 120, 116, 63]⟩ = some exA2 := by kernel_rfl
theorem exP3 : parseB ⟨#[114, 111, 119, 32, 49, 49, 32, 105, 110, 115, 101, 114, 116, 32, 114, 111, 111, 116, 32, 115, 32, 116, 32, 53, 32, 110, 117, 108, 108, 32, 39, 97, 98]⟩ = some exA3 := by kernel_rfl
theorem exP4 : parseB ⟨#[116, 105, 99, 107, 32, 48, 49, 49]⟩ = none := by kernel_rfl
set_option maxHeartbeats 4000000 in
theorem parses24 (w : World) (hl : LibV w) : Calls Tryz.prog 8 #[] w fun e w' => e = .returned (.bool true) ∧ Aft w w' := by
  have HL := Lib.hid (show ∀ V, Aft w V → LibV V from fun V a => hl.kb (P := fun _ => False) (Kb.of_aft a) id)
  have G := Lib.hid (show ∀ (s : ByteArray) (V : World), Small s.size → Aft w V → Calls Tryz.prog 6 #[.string s] V (PActQ V (parseB s)) from fun s V hs a => parse_act s V hs (HL.out V a))
  have G1 := Lib.hid (show ∀ V, Aft w V → Calls Tryz.prog 6 #[.string ⟨#[116, 105, 99, 107, 32, 49, 49]⟩] V fun e w' => ∃ A k A2 k2 A3 k3, e = .returned (.tuple #[.agg #[.int .i64 1, .int .i64 11, .int .i64 0, .int .i64 0, .int .i64 0, .int .i64 0, .string ⟨#[]⟩, .string ⟨#[]⟩, .string ⟨#[]⟩, .string ⟨#[]⟩, .string ⟨#[]⟩, .slice A 0 k, .string ⟨#[]⟩, .int .i64 0, .slice A2 0 k2, .int .i64 0, .int .i64 0, .string ⟨#[]⟩, .string ⟨#[]⟩, .string ⟨#[]⟩, .int .i64 0, .bool false, .int .i64 0, .int .i64 0, .int .i64 0, .string ⟨#[]⟩, .string ⟨#[]⟩, .string ⟨#[]⟩, .slice A3 0 k3, .string ⟨#[]⟩, .int .i64 0, .int .i64 0, .string ⟨#[]⟩], .int .i64 0]) ∧ Aft V w' ∧ ActX w' (actO (some exA1)) A k A2 k2 A3 k3 from fun V a => (G.out _ V (by unfold Small; decide) a).mono fun e w' ⟨a2, A, k, A2, k2, A3, k3, he, hx⟩ => by
    rw [exP1] at he hx
    exact ⟨A, k, A2, k2, A3, k3, he, a2, hx⟩)
  have G2 := Lib.hid (show ∀ V, Aft w V → Calls Tryz.prog 6 #[.string ⟨#[97, 115, 107, 32, 49, 32, 50, 32, 51, 32, 116, 97, 98, 108, 101, 32, 114, 111, 111, 116, 32, 115, 32, 116, 32, 120, 58, 105, 110, 116, 32, 121, 58, 116, 101, 120, 116, 63]⟩] V fun e w' => ∃ A k A2 k2 A3 k3, e = .returned (.tuple #[.agg #[.int .i64 6, .int .i64 1, .int .i64 0, .int .i64 2, .int .i64 3, .int .i64 3, .string ⟨#[114, 111, 111, 116]⟩, .string ⟨#[115]⟩, .string ⟨#[116]⟩, .string ⟨#[]⟩, .string ⟨#[]⟩, .slice A 2 k, .string ⟨#[]⟩, .int .i64 0, .slice A2 0 k2, .int .i64 0, .int .i64 0, .string ⟨#[]⟩, .string ⟨#[]⟩, .string ⟨#[]⟩, .int .i64 0, .bool false, .int .i64 0, .int .i64 0, .int .i64 0, .string ⟨#[]⟩, .string ⟨#[]⟩, .string ⟨#[]⟩, .slice A3 0 k3, .string ⟨#[]⟩, .int .i64 0, .int .i64 0, .string ⟨#[]⟩], .int .i64 0]) ∧ Aft V w' ∧ ActX w' (actO (some exA2)) A k A2 k2 A3 k3 from fun V a => (G.out _ V (by unfold Small; decide) a).mono fun e w' ⟨a2, A, k, A2, k2, A3, k3, he, hx⟩ => by
    rw [exP2] at he hx
    exact ⟨A, k, A2, k2, A3, k3, he, a2, hx⟩)
  have G3 := Lib.hid (show ∀ V, Aft w V → Calls Tryz.prog 6 #[.string ⟨#[114, 111, 119, 32, 49, 49, 32, 105, 110, 115, 101, 114, 116, 32, 114, 111, 111, 116, 32, 115, 32, 116, 32, 53, 32, 110, 117, 108, 108, 32, 39, 97, 98]⟩] V fun e w' => ∃ A k A2 k2 A3 k3, e = .returned (.tuple #[.agg #[.int .i64 10, .int .i64 0, .int .i64 11, .int .i64 0, .int .i64 0, .int .i64 0, .string ⟨#[]⟩, .string ⟨#[]⟩, .string ⟨#[]⟩, .string ⟨#[]⟩, .string ⟨#[]⟩, .slice A 0 k, .string ⟨#[]⟩, .int .i64 0, .slice A2 0 k2, .int .i64 0, .int .i64 0, .string ⟨#[]⟩, .string ⟨#[]⟩, .string ⟨#[]⟩, .int .i64 0, .bool false, .int .i64 0, .int .i64 0, .int .i64 1, .string ⟨#[114, 111, 111, 116]⟩, .string ⟨#[115]⟩, .string ⟨#[116]⟩, .slice A3 3 k3, .string ⟨#[]⟩, .int .i64 0, .int .i64 0, .string ⟨#[]⟩], .int .i64 0]) ∧ Aft V w' ∧ ActX w' (actO (some exA3)) A k A2 k2 A3 k3 from fun V a => (G.out _ V (by unfold Small; decide) a).mono fun e w' ⟨a2, A, k, A2, k2, A3, k3, he, hx⟩ => by
    rw [exP3] at he hx
    exact ⟨A, k, A2, k2, A3, k3, he, a2, hx⟩)
  have G4 := Lib.hid (show ∀ V, Aft w V → Calls Tryz.prog 6 #[.string ⟨#[116, 105, 99, 107, 32, 48, 49, 49]⟩] V fun e w' => ∃ A k A2 k2 A3 k3, e = .returned (.tuple #[.agg #[.int .i64 0, .int .i64 0, .int .i64 0, .int .i64 0, .int .i64 0, .int .i64 0, .string ⟨#[]⟩, .string ⟨#[]⟩, .string ⟨#[]⟩, .string ⟨#[]⟩, .string ⟨#[]⟩, .slice A 0 k, .string ⟨#[]⟩, .int .i64 0, .slice A2 0 k2, .int .i64 0, .int .i64 0, .string ⟨#[]⟩, .string ⟨#[]⟩, .string ⟨#[]⟩, .int .i64 0, .bool false, .int .i64 0, .int .i64 0, .int .i64 0, .string ⟨#[]⟩, .string ⟨#[]⟩, .string ⟨#[]⟩, .slice A3 0 k3, .string ⟨#[]⟩, .int .i64 0, .int .i64 0, .string ⟨#[]⟩], .int .i64 230]) ∧ Aft V w' ∧ ActX w' (actO (none)) A k A2 k2 A3 k3 from fun V a => (G.out _ V (by unfold Small; decide) a).mono fun e w' ⟨a2, A, k, A2, k2, A3, k3, he, hx⟩ => by
    rw [exP4] at he hx
    exact ⟨A, k, A2, k2, A3, k3, he, a2, hx⟩)
  clear hl
  go_enter Tryz.func8, Tryz.ntmps8
  go_upto_region 5 with (first
    | (go_at_call 6; with_reducible refine (G1.out _ (Aft.refl _)).mono ?_; rintro e w1 ⟨A, k, A2, k2, A3, k3, rfl, a1, x1⟩; have HA1 := Lib.hid (a1.alloc (.cells #[.int .i64 1, .int .i64 11, .int .i64 0, .int .i64 0, .int .i64 0, .int .i64 0, .string ⟨#[]⟩, .string ⟨#[]⟩, .string ⟨#[]⟩, .string ⟨#[]⟩, .string ⟨#[]⟩, .slice A 0 k, .string ⟨#[]⟩, .int .i64 0, .slice A2 0 k2, .int .i64 0, .int .i64 0, .string ⟨#[]⟩, .string ⟨#[]⟩, .string ⟨#[]⟩, .int .i64 0, .bool false, .int .i64 0, .int .i64 0, .int .i64 0, .string ⟨#[]⟩, .string ⟨#[]⟩, .string ⟨#[]⟩, .slice A3 0 k3, .string ⟨#[]⟩, .int .i64 0, .int .i64 0, .string ⟨#[]⟩] 43)); clear a1 x1)
    | (go_at_call 6; with_reducible refine (G2.out _ HA1.out).mono ?_; rintro e w2 ⟨B, m, B2, m2, B3, m3, rfl, a2, x2⟩; have HB2 := Lib.hid a2; have HX2 := Lib.hid x2; have HA2 := Lib.hid (a2.alloc (.cells #[.int .i64 6, .int .i64 1, .int .i64 0, .int .i64 2, .int .i64 3, .int .i64 3, .string ⟨#[114, 111, 111, 116]⟩, .string ⟨#[115]⟩, .string ⟨#[116]⟩, .string ⟨#[]⟩, .string ⟨#[]⟩, .slice B 2 m, .string ⟨#[]⟩, .int .i64 0, .slice B2 0 m2, .int .i64 0, .int .i64 0, .string ⟨#[]⟩, .string ⟨#[]⟩, .string ⟨#[]⟩, .int .i64 0, .bool false, .int .i64 0, .int .i64 0, .int .i64 0, .string ⟨#[]⟩, .string ⟨#[]⟩, .string ⟨#[]⟩, .slice B3 0 m3, .string ⟨#[]⟩, .int .i64 0, .int .i64 0, .string ⟨#[]⟩] 43)); clear a2 x2)
    | (go_at_call 6; with_reducible refine (G3.out _ (HA1.out.trans HA2.out)).mono ?_; rintro e w3 ⟨C, n, C2, n2, C3, n3, rfl, a3, x3⟩; have HB3 := Lib.hid a3; have HX3 := Lib.hid x3; have HA3 := Lib.hid (a3.alloc (.cells #[.int .i64 10, .int .i64 0, .int .i64 11, .int .i64 0, .int .i64 0, .int .i64 0, .string ⟨#[]⟩, .string ⟨#[]⟩, .string ⟨#[]⟩, .string ⟨#[]⟩, .string ⟨#[]⟩, .slice C 0 n, .string ⟨#[]⟩, .int .i64 0, .slice C2 0 n2, .int .i64 0, .int .i64 0, .string ⟨#[]⟩, .string ⟨#[]⟩, .string ⟨#[]⟩, .int .i64 0, .bool false, .int .i64 0, .int .i64 0, .int .i64 1, .string ⟨#[114, 111, 111, 116]⟩, .string ⟨#[115]⟩, .string ⟨#[116]⟩, .slice C3 3 n3, .string ⟨#[]⟩, .int .i64 0, .int .i64 0, .string ⟨#[]⟩] 43)); clear a3 x3)
    | (go_at_call 6; with_reducible refine (G4.out _ ((HA1.out.trans HA2.out).trans HA3.out)).mono ?_; rintro e w4 ⟨D, p, D2, p2, D3, p3, rfl, a4, x4⟩; have HA4 := Lib.hid (a4.alloc (.cells #[.int .i64 0, .int .i64 0, .int .i64 0, .int .i64 0, .int .i64 0, .int .i64 0, .string ⟨#[]⟩, .string ⟨#[]⟩, .string ⟨#[]⟩, .string ⟨#[]⟩, .string ⟨#[]⟩, .slice D 0 p, .string ⟨#[]⟩, .int .i64 0, .slice D2 0 p2, .int .i64 0, .int .i64 0, .string ⟨#[]⟩, .string ⟨#[]⟩, .string ⟨#[]⟩, .int .i64 0, .bool false, .int .i64 0, .int .i64 0, .int .i64 0, .string ⟨#[]⟩, .string ⟨#[]⟩, .string ⟨#[]⟩, .slice D3 0 p3, .string ⟨#[]⟩, .int .i64 0, .int .i64 0, .string ⟨#[]⟩] 43)); clear a4 x4))
  have s1 := HA1.out.size
  have s2 := HA2.out.size
  have s3 := HA3.out.size
  have s4 := HA4.out.size
  have F4 := HA4.out
  have F3 := HA3.out.trans HA4.out
  have F2 := HA2.out.trans F3
  have r1 := (rowAt_newD w1 [.int .i64 1, .int .i64 11, .int .i64 0, .int .i64 0, .int .i64 0, .int .i64 0, .string ⟨#[]⟩, .string ⟨#[]⟩, .string ⟨#[]⟩, .string ⟨#[]⟩, .string ⟨#[]⟩, .slice A 0 k, .string ⟨#[]⟩, .int .i64 0, .slice A2 0 k2, .int .i64 0, .int .i64 0, .string ⟨#[]⟩, .string ⟨#[]⟩, .string ⟨#[]⟩, .int .i64 0, .bool false, .int .i64 0, .int .i64 0, .int .i64 0, .string ⟨#[]⟩, .string ⟨#[]⟩, .string ⟨#[]⟩, .slice A3 0 k3, .string ⟨#[]⟩, .int .i64 0, .int .i64 0, .string ⟨#[]⟩] 43).aft F2
  have r2 := (rowAt_newD w2 [.int .i64 6, .int .i64 1, .int .i64 0, .int .i64 2, .int .i64 3, .int .i64 3, .string ⟨#[114, 111, 111, 116]⟩, .string ⟨#[115]⟩, .string ⟨#[116]⟩, .string ⟨#[]⟩, .string ⟨#[]⟩, .slice B 2 m, .string ⟨#[]⟩, .int .i64 0, .slice B2 0 m2, .int .i64 0, .int .i64 0, .string ⟨#[]⟩, .string ⟨#[]⟩, .string ⟨#[]⟩, .int .i64 0, .bool false, .int .i64 0, .int .i64 0, .int .i64 0, .string ⟨#[]⟩, .string ⟨#[]⟩, .string ⟨#[]⟩, .slice B3 0 m3, .string ⟨#[]⟩, .int .i64 0, .int .i64 0, .string ⟨#[]⟩] 43).aft F3
  have r3 := (rowAt_newD w3 [.int .i64 10, .int .i64 0, .int .i64 11, .int .i64 0, .int .i64 0, .int .i64 0, .string ⟨#[]⟩, .string ⟨#[]⟩, .string ⟨#[]⟩, .string ⟨#[]⟩, .string ⟨#[]⟩, .slice C 0 n, .string ⟨#[]⟩, .int .i64 0, .slice C2 0 n2, .int .i64 0, .int .i64 0, .string ⟨#[]⟩, .string ⟨#[]⟩, .string ⟨#[]⟩, .int .i64 0, .bool false, .int .i64 0, .int .i64 0, .int .i64 1, .string ⟨#[114, 111, 111, 116]⟩, .string ⟨#[115]⟩, .string ⟨#[116]⟩, .slice C3 3 n3, .string ⟨#[]⟩, .int .i64 0, .int .i64 0, .string ⟨#[]⟩] 43).aft F4
  have q2 := HX2.out.aft (((Aft.refl w2).alloc (.cells #[.int .i64 6, .int .i64 1, .int .i64 0, .int .i64 2, .int .i64 3, .int .i64 3, .string ⟨#[114, 111, 111, 116]⟩, .string ⟨#[115]⟩, .string ⟨#[116]⟩, .string ⟨#[]⟩, .string ⟨#[]⟩, .slice B 2 m, .string ⟨#[]⟩, .int .i64 0, .slice B2 0 m2, .int .i64 0, .int .i64 0, .string ⟨#[]⟩, .string ⟨#[]⟩, .string ⟨#[]⟩, .int .i64 0, .bool false, .int .i64 0, .int .i64 0, .int .i64 0, .string ⟨#[]⟩, .string ⟨#[]⟩, .string ⟨#[]⟩, .slice B3 0 m3, .string ⟨#[]⟩, .int .i64 0, .int .i64 0, .string ⟨#[]⟩] 43)).trans F3)
  have q3 := HX3.out.aft (((Aft.refl w3).alloc (.cells #[.int .i64 10, .int .i64 0, .int .i64 11, .int .i64 0, .int .i64 0, .int .i64 0, .string ⟨#[]⟩, .string ⟨#[]⟩, .string ⟨#[]⟩, .string ⟨#[]⟩, .string ⟨#[]⟩, .slice C 0 n, .string ⟨#[]⟩, .int .i64 0, .slice C2 0 n2, .int .i64 0, .int .i64 0, .string ⟨#[]⟩, .string ⟨#[]⟩, .string ⟨#[]⟩, .int .i64 0, .bool false, .int .i64 0, .int .i64 0, .int .i64 1, .string ⟨#[114, 111, 111, 116]⟩, .string ⟨#[115]⟩, .string ⟨#[116]⟩, .slice C3 3 n3, .string ⟨#[]⟩, .int .i64 0, .int .i64 0, .string ⟨#[]⟩] 43)).trans F4)
  have HF := Lib.hid (HA1.out.trans F2)
  obtain ⟨g2, o2, hB, lb2, _, _, d2, _⟩ := col_at q2.cols (k := 1) (by decide)
  obtain ⟨g3, o3, hC, lb3, _, _, d3, _⟩ := val_at q3.vals (k := 2) (by decide)
  subst hB
  subst hC
  generalize World.alloc w4 _ = V at r1 r2 r3 HF lb2 lb3 d2 d3 q2 q3 ⊢
  have y0 := r1.cell (j := 0) rfl
  have y1 := r1.cell (j := 1) rfl
  have z4 := r2.cell (j := 4) rfl
  have z11 := r2.cell (j := 11) rfl
  have u28 := r3.cell (j := 28) rfl
  have d2' : V.cell? ⟨g2, o2 + 3 + 2, none⟩ = some (.bool true) := d2
  have d3' : V.cell? ⟨g3, o3 + 6 + 2, none⟩ = some (.string ⟨#[97, 98]⟩) := d3
  clear F2 F3 F4 r1 r2 r3 q2 q3 s1 s2 s3 s4 d2 d3
  go_wp2_with fail
  go_ret
  exact ⟨rfl, HF.out⟩
end Go.Proofs.YtbdanlipghhgpaaGreatDoor

namespace Go.Proofs.YtbdanlipghhgpaaGreatDoor
open Go.RowKit Go.Deep
set_option maxRecDepth 100000
set_option linter.unusedVariables false
structure ActG (w : World) (a : Dact) (A : Option Addr) (k : Nat) (A2 : Option Addr) (k2 : Nat) (A3 : Option Addr) (k3 : Nat) : Prop where
  x : ActX w a A k A2 k2 A3 k3
  sm : SmC a.cmd
  so : SmO a.row
  r1 : -9223372036854775808 ≤ a.ck
  r2 : a.ck ≤ 9223372036854775807
theorem ActG.aft {w w' : World} {a : Dact} {A : Option Addr} {k : Nat} {A2 : Option Addr} {k2 : Nat} {A3 : Option Addr} {k3 : Nat} (h : ActG w a A k A2 k2 A3 k3) (hw : Aft w w') : ActG w' a A k A2 k2 A3 k3 := ⟨h.x.aft hw, h.sm, h.so, h.r1, h.r2⟩
structure Few (a : Dact) : Prop where
  c : a.cmd.cols.length ≤ 4100
  n : a.cmd.rule.cols.length ≤ 4100
  v : a.row.row.length ≤ 4100
theorem results_tc {fn : Func} {a u : Tmp} {t : TypeId} (h : fn.results = #[.tmp u, .cell a t]) (tmps : Array Value) {P : Program} {w : World} {p : Addr} {v x : Value} (ha : tmps.getD a undef = .pointer (some p)) (hl : (loadVar t p).run P w = .ok v w) (hu : tmps.getD u undef = x) :
    (results fn tmps).run P w = .ok (.tuple #[x, v]) w := by
  rw [Array.getD_eq_getD_getElem?] at ha hu
  simp [results, h, ha, hu, asAddr, hl]
def laidDs (q : Nat) : List Deferred := [{ target := Target.fn (Fn.func 15) #[], args := #[.pointer (some ⟨q, 0, none⟩)] }]
theorem laid_dies {tmps : Array Value} {R : Ending → World → Prop} {q : Nat} {x u : Value} {V : World} (h2 : tmps.getD 2 undef = u) (h3 : tmps.getD 3 undef = .pointer (some ⟨q, 0, none⟩)) (rq : RowAt V q [x])
    (hR : ∀ w', Kb (fun g => g = q) V w' → R (.returned (.tuple #[u, .int .i64 230])) w') :
    Leaves Tryz.prog Tryz.f23 tmps R (laidDs q) (.panicking [{ v := .iface 74 (.agg #[]), recovered := false }]) V := by
  refine leaves_cons (f := 15) (args := #[.pointer (some ⟨q, 0, none⟩)]) (by simp) (by simp [go_sem]) ?_
  refine (caught_panic q x V rq).mono ?_
  rintro e u' w1 ⟨rfl, rfl, kb, r1⟩
  exact ⟨_, results_tc rfl tmps h3 (lvErrD_row r1) h2, hR _ kb⟩
theorem laid_goes {tmps : Array Value} {R : Ending → World → Prop} {q : Nat} {u : Value} {V : World} (h2 : tmps.getD 2 undef = u) (h3 : tmps.getD 3 undef = .pointer (some ⟨q, 0, none⟩)) (rq : RowAt V q [.int .i64 0])
    (hR : R (.returned (.tuple #[u, .int .i64 0])) V) :
    Leaves Tryz.prog Tryz.f23 tmps R (laidDs q) .returning V := by
  refine leaves_cons (f := 15) (args := #[.pointer (some ⟨q, 0, none⟩)]) (by simp) (by simp [go_sem]) ?_
  refine (caught_idle ⟨q, 0, none⟩ V).mono ?_
  rintro e u' w1 ⟨rfl, rfl, rfl⟩
  exact ⟨_, results_tc rfl tmps h3 (lvErrD_row rq) h2, hR⟩
def LaidQ (w : World) (o : Option Ws) (e : Ending) (w' : World) : Prop := Aft w w' ∧ match o with
  | some W => e = .returned (.tuple #[.string (lineB W), .int .i64 0])
  | none => e = .returned (.tuple #[.string ⟨#[]⟩, .int .i64 230])
theorem lys_new (w : World) : LyS w [] w.heap.size [] (w.alloc (.cells #[.slice none 0 0] 82)) :=
  ⟨⟨none, 0, rowAt_newD w [.slice none 0 0] _, ⟨by simp, .inl ⟨rfl, rfl⟩⟩, by simp [Value.ownBlock], fun x hx => (by cases hx)⟩, (Aft.refl w).alloc _, Nat.le_refl _, fun x hx => (by cases hx)⟩
theorem join_in (w0 : World) (Q : List (Nat × Obj)) (b : Nat) (W : Ws) (w : World) (h : LyS w0 Q b W w) (hne : W ≠ []) (hs : ShortW 9000 W) : ∃ g c, w.cell? ⟨b, 0, none⟩ = some (.slice (some ⟨g, 0, none⟩) W.length c) ∧ b < w.heap.size ∧
    Calls Tryz.prog 37 #[.slice (some ⟨g, 0, none⟩) W.length c, .string ⟨#[32]⟩] w fun e w' => e = .returned (.string (lineB W)) ∧ Aft w w' := by
  obtain ⟨⟨A, c, r, o, _⟩, _, _, _⟩ := h
  have o' := o
  obtain ⟨_, h | ⟨g, cap, cur, hv, hB, hg, hc, _⟩⟩ := o
  · exact absurd (List.eq_nil_of_length_eq_zero h.2) hne
  · injection hv with e1 e2 e3
    subst e1
    subst e3
    refine ⟨g, c, r.cell (j := 0) rfl, r.1, ?_⟩
    have hlt := (o'.lt g rfl).2
    refine (Tryz.strings_Join g 0 c W ⟨#[32]⟩ w (fun i x hx => ?_) hlt (by have := hs.1; omega) hc ?_).mono ?_
    · have hi : i < W.length := (List.getElem?_eq_some_iff.1 hx).1
      rw [Nat.zero_add, o'.cellAt i (by simpa using hi), List.getElem?_map, hx]; rfl
    · have := line_small hs
      rw [← join_eq] at this
      have e : (⟨#[32]⟩ : ByteArray).data.toList = [32] := rfl
      rw [e]; omega
    · rintro e w' ⟨rfl, a⟩
      refine ⟨?_, a⟩
      unfold lineB wd
      rw [← join_eq]
set_option maxHeartbeats 8000000 in
theorem laid_in (a : Dact) (A : Option Addr) (k : Nat) (A2 : Option Addr) (k2 : Nat) (A3 : Option Addr) (k3 : Nat) (w : World) (hx : ActG w a A k A2 k2 A3 k3) (hf : Few a) (ht : TabW w) :
    Calls Tryz.prog 23 #[.agg #[.int .i64 a.kind, .int .i64 a.node, .int .i64 a.n, .int .i64 a.client, .int .i64 a.number, .int .i64 a.cmd.kind, .string a.cmd.actor, .string a.cmd.schema, .string a.cmd.table, .string a.cmd.name, .string a.cmd.role, .slice A a.cmd.cols.length k, .string a.cmd.rule.name, .int .i64 a.cmd.rule.kind, .slice A2 a.cmd.rule.cols.length k2, .int .i64 a.cmd.rule.low, .int .i64 a.cmd.rule.high, .string a.cmd.rule.schema, .string a.cmd.rule.table, .string a.cmd.rule.key, .int .i64 a.cmd.right, .bool a.cmd.opt, .int .i64 a.ck, .int .i64 a.cn, .int .i64 a.row.kind, .string a.row.role, .string a.row.schema, .string a.row.table, .slice A3 a.row.row.length k3, .string a.row.col, .int .i64 a.row.v.kind, .int .i64 a.row.v.int, .string a.row.v.text]] w (LaidQ w (actM a)) := by
  obtain ⟨W, hW⟩ : ∃ W, W = (w.alloc (.cells #[.int .i64 a.kind, .int .i64 a.node, .int .i64 a.n, .int .i64 a.client, .int .i64 a.number, .int .i64 a.cmd.kind, .string a.cmd.actor, .string a.cmd.schema, .string a.cmd.table, .string a.cmd.name, .string a.cmd.role, .slice A a.cmd.cols.length k, .string a.cmd.rule.name, .int .i64 a.cmd.rule.kind, .slice A2 a.cmd.rule.cols.length k2, .int .i64 a.cmd.rule.low, .int .i64 a.cmd.rule.high, .string a.cmd.rule.schema, .string a.cmd.rule.table, .string a.cmd.rule.key, .int .i64 a.cmd.right, .bool a.cmd.opt, .int .i64 a.ck, .int .i64 a.cn, .int .i64 a.row.kind, .string a.row.role, .string a.row.schema, .string a.row.table, .slice A3 a.row.row.length k3, .string a.row.col, .int .i64 a.row.v.kind, .int .i64 a.row.v.int, .string a.row.v.text] 43)).alloc (.cells #[.int .i64 0] 44) := ⟨_, rfl⟩
  have aW : Aft w W := by rw [hW]; exact ((Aft.refl w).alloc _).alloc _
  obtain ⟨ra, rq⟩ := box2_rowsD (w := w) (W := W) (by rw [← hW]; exact Aft.refl W)
  have zW : W.heap.size = w.heap.size + 2 := by rw [hW]; simp
  have HX := Lib.hid (hx.aft aW)
  have e1 : (lvAct ⟨w.heap.size, 0, none⟩).run Tryz.prog (W.alloc (.cells #[.slice none 0 0] 82)) = .ok (.agg #[.int .i64 a.kind, .int .i64 a.node, .int .i64 a.n, .int .i64 a.client, .int .i64 a.number, .int .i64 a.cmd.kind, .string a.cmd.actor, .string a.cmd.schema, .string a.cmd.table, .string a.cmd.name, .string a.cmd.role, .slice A a.cmd.cols.length k, .string a.cmd.rule.name, .int .i64 a.cmd.rule.kind, .slice A2 a.cmd.rule.cols.length k2, .int .i64 a.cmd.rule.low, .int .i64 a.cmd.rule.high, .string a.cmd.rule.schema, .string a.cmd.rule.table, .string a.cmd.rule.key, .int .i64 a.cmd.right, .bool a.cmd.opt, .int .i64 a.ck, .int .i64 a.cn, .int .i64 a.row.kind, .string a.row.role, .string a.row.schema, .string a.row.table, .slice A3 a.row.row.length k3, .string a.row.col, .int .i64 a.row.v.kind, .int .i64 a.row.v.int, .string a.row.v.text]) (W.alloc (.cells #[.slice none 0 0] 82)) := lvAct_row (ra.aft ((Aft.refl W).alloc _)) rfl
  have HA := Lib.hid (act_in W [] W.heap.size [] a A k A2 k2 A3 k3 (W.alloc (.cells #[.slice none 0 0] 82)) (lys_new W) (ht.aft aW) HX.out.sm HX.out.so (by simp) HX.out.x.cols HX.out.x.nms HX.out.x.vals hf.c hf.n hf.v HX.out.r1 HX.out.r2)
  have HRQ := Lib.hid rq
  have HAW := Lib.hid aW
  have HZW := Lib.hid zW
  cases hact : actM a with
  | none =>
    have HA' := Lib.hid (HA.out.mono fun e w1 (h : LyQ _ _ _ _ _ _ _) => (show e = .panicked [{ v := .iface 74 (.agg #[]), recovered := false }] ∧ Aft W w1 from by rw [hact] at h; exact h))
    clear hx hf ht ra rq aW zW HA hact
    go_enter_defers Tryz.func23, Tryz.ntmps23
    go_upto_region 1 with fail
    rw [← hW]
    clear hW
    go_wp2_with (first
      | (go_at_call 36; (with_reducible refine HA'.out.mono ?_); rintro e w1 ⟨rfl, a1⟩; have H1 := Lib.hid a1; clear a1))
    refine laid_dies (q := w.heap.size + 1) rfl rfl (HRQ.out.aft H1.out) fun w' kb => ?_
    exact ⟨kb.to_aft (HAW.out.trans H1.out) (fun g hg e => by have : g = w.heap.size + 1 := e; omega), rfl⟩
  | some X =>
    have HA' := Lib.hid (HA.out.mono fun e w1 (h : LyQ _ _ _ _ _ _ _) => (show e = .returned (.tuple #[]) ∧ LyS W [] W.heap.size X w1 from by rw [hact] at h; exact h))
    have HS := Lib.hid (act_short hact hf.c hf.n hf.v)
    have HNE := Lib.hid (act_words hact)
    clear hx hf ht ra rq aW zW HA hact
    go_enter_defers Tryz.func23, Tryz.ntmps23
    go_upto_region 1 with fail
    rw [← hW]
    clear hW
    go_wp2_with (first
      | (go_at_call 36; (with_reducible refine HA'.out.mono ?_); rintro e w1 ⟨rfl, h1⟩; obtain ⟨g, c, y0, yb, hj⟩ := join_in _ _ _ _ _ h1 HNE.out HS.out; have HJ := Lib.hid hj; have H1 := Lib.hid h1.aft; clear h1 hj)
      | (go_at_call 37; (with_reducible refine HJ.out.mono ?_); rintro e w2 ⟨rfl, a2⟩; have H2 := Lib.hid a2; have r2 := HRQ.out.aft (H1.out.trans a2); have z0 := r2.cell (j := 0) rfl; have z1 := r2.2.2 0 (by simp); have R2 := Lib.hid r2; clear a2 r2))
    refine laid_goes (q := w.heap.size + 1) rfl rfl (R2.out.set 0 _ (by simp)) ?_
    exact ⟨(Kb.set w2 (w.heap.size + 1) 0 _).to_aft ((HAW.out.trans H1.out).trans H2.out) (fun g hg e => by have : g = w.heap.size + 1 := e; omega), rfl⟩
end Go.Proofs.YtbdanlipghhgpaaGreatDoor

namespace Go.Proofs.YtbdanlipghhgpaaGreatDoor
open Go.RowKit Go.Deep
set_option maxRecDepth 100000
set_option linter.unusedVariables false
def PrQ (w : World) (a : Dact) (e : Ending) (w' : World) : Prop :=
  Aft w w' ∧ ((∃ X, actM a = some X ∧ parseB (lineB X) = some a ∧ e = .returned (.tuple #[.string (lineB X), .int .i64 0])) ∨ ((∀ X, actM a = some X → parseB (lineB X) ≠ some a) ∧ e = .returned (.tuple #[.string ⟨#[]⟩, .int .i64 230])))
set_option maxHeartbeats 8000000 in
theorem print_in (a : Dact) (A : Option Addr) (k : Nat) (A2 : Option Addr) (k2 : Nat) (A3 : Option Addr) (k3 : Nat) (w : World) (hx : ActG w a A k A2 k2 A3 k3) (hf : Few a) (ht : TabW w) (hl : LibV w) :
    Calls Tryz.prog 11 #[.agg #[.int .i64 a.kind, .int .i64 a.node, .int .i64 a.n, .int .i64 a.client, .int .i64 a.number, .int .i64 a.cmd.kind, .string a.cmd.actor, .string a.cmd.schema, .string a.cmd.table, .string a.cmd.name, .string a.cmd.role, .slice A a.cmd.cols.length k, .string a.cmd.rule.name, .int .i64 a.cmd.rule.kind, .slice A2 a.cmd.rule.cols.length k2, .int .i64 a.cmd.rule.low, .int .i64 a.cmd.rule.high, .string a.cmd.rule.schema, .string a.cmd.rule.table, .string a.cmd.rule.key, .int .i64 a.cmd.right, .bool a.cmd.opt, .int .i64 a.ck, .int .i64 a.cn, .int .i64 a.row.kind, .string a.row.role, .string a.row.schema, .string a.row.table, .slice A3 a.row.row.length k3, .string a.row.col, .int .i64 a.row.v.kind, .int .i64 a.row.v.int, .string a.row.v.text]] w (PrQ w a) := by
  obtain ⟨W, hW⟩ : ∃ W, W = w.alloc (.cells #[.int .i64 a.kind, .int .i64 a.node, .int .i64 a.n, .int .i64 a.client, .int .i64 a.number, .int .i64 a.cmd.kind, .string a.cmd.actor, .string a.cmd.schema, .string a.cmd.table, .string a.cmd.name, .string a.cmd.role, .slice A a.cmd.cols.length k, .string a.cmd.rule.name, .int .i64 a.cmd.rule.kind, .slice A2 a.cmd.rule.cols.length k2, .int .i64 a.cmd.rule.low, .int .i64 a.cmd.rule.high, .string a.cmd.rule.schema, .string a.cmd.rule.table, .string a.cmd.rule.key, .int .i64 a.cmd.right, .bool a.cmd.opt, .int .i64 a.ck, .int .i64 a.cn, .int .i64 a.row.kind, .string a.row.role, .string a.row.schema, .string a.row.table, .slice A3 a.row.row.length k3, .string a.row.col, .int .i64 a.row.v.kind, .int .i64 a.row.v.int, .string a.row.v.text] 43) := ⟨_, rfl⟩
  have aW : Aft w W := by rw [hW]; exact (Aft.refl w).alloc _
  have ra : RowAt W w.heap.size [.int .i64 a.kind, .int .i64 a.node, .int .i64 a.n, .int .i64 a.client, .int .i64 a.number, .int .i64 a.cmd.kind, .string a.cmd.actor, .string a.cmd.schema, .string a.cmd.table, .string a.cmd.name, .string a.cmd.role, .slice A a.cmd.cols.length k, .string a.cmd.rule.name, .int .i64 a.cmd.rule.kind, .slice A2 a.cmd.rule.cols.length k2, .int .i64 a.cmd.rule.low, .int .i64 a.cmd.rule.high, .string a.cmd.rule.schema, .string a.cmd.rule.table, .string a.cmd.rule.key, .int .i64 a.cmd.right, .bool a.cmd.opt, .int .i64 a.ck, .int .i64 a.cn, .int .i64 a.row.kind, .string a.row.role, .string a.row.schema, .string a.row.table, .slice A3 a.row.row.length k3, .string a.row.col, .int .i64 a.row.v.kind, .int .i64 a.row.v.int, .string a.row.v.text] := by rw [hW]; exact rowAt_newD w _ _
  have HX := Lib.hid (hx.aft aW)
  have HLI := Lib.hid (laid_in a A k A2 k2 A3 k3 W (hx.aft aW) hf (ht.aft aW))
  have e1 : (lvAct ⟨w.heap.size, 0, none⟩).run Tryz.prog W = .ok (.agg #[.int .i64 a.kind, .int .i64 a.node, .int .i64 a.n, .int .i64 a.client, .int .i64 a.number, .int .i64 a.cmd.kind, .string a.cmd.actor, .string a.cmd.schema, .string a.cmd.table, .string a.cmd.name, .string a.cmd.role, .slice A a.cmd.cols.length k, .string a.cmd.rule.name, .int .i64 a.cmd.rule.kind, .slice A2 a.cmd.rule.cols.length k2, .int .i64 a.cmd.rule.low, .int .i64 a.cmd.rule.high, .string a.cmd.rule.schema, .string a.cmd.rule.table, .string a.cmd.rule.key, .int .i64 a.cmd.right, .bool a.cmd.opt, .int .i64 a.ck, .int .i64 a.cn, .int .i64 a.row.kind, .string a.row.role, .string a.row.schema, .string a.row.table, .slice A3 a.row.row.length k3, .string a.row.col, .int .i64 a.row.v.kind, .int .i64 a.row.v.int, .string a.row.v.text]) W := lvAct_row ra rfl
  have HRA := Lib.hid ra
  have HAW := Lib.hid aW
  have HLV := Lib.hid (show ∀ V, Aft W V → LibV V from fun V a => hl.kb (P := fun _ => False) (Kb.of_aft (aW.trans a)) id)
  cases hact : actM a with
  | none =>
    have HP := Lib.hid (HLI.out.mono fun e w1 (h : LaidQ _ _ _ _) => (show e = .returned (.tuple #[.string ⟨#[]⟩, .int .i64 230]) ∧ Aft W w1 from by rw [hact] at h; exact ⟨h.2, h.1⟩))
    have HN := Lib.hid (show ∀ X, actM a = some X → parseB (lineB X) ≠ some a from fun X h => by rw [hact] at h; cases h)
    clear hx hf ht hl ra aW HLI hact
    go_enter Tryz.func11, Tryz.ntmps11
    go_upto_region 1 with fail
    rw [← hW]
    clear hW
    go_wp2_with (first
      | (go_at_call 23; (with_reducible refine HP.out.mono ?_); rintro e w1 ⟨rfl, a1⟩; have H1 := Lib.hid a1; clear a1))
    go_ret2
    exact ⟨HAW.out.trans H1.out, .inr ⟨HN.out, rfl⟩⟩
  | some X =>
    obtain ⟨s, hs⟩ : ∃ s, s = lineB X := ⟨_, rfl⟩
    have HP := Lib.hid (HLI.out.mono fun e w1 (h : LaidQ _ _ _ _) => (show e = .returned (.tuple #[.string s, .int .i64 0]) ∧ Aft W w1 from by rw [hact] at h; rw [hs]; exact ⟨h.2, h.1⟩))
    have HZ := Lib.hid (show Small s.size from by rw [hs]; exact line_le hact hf.c hf.n hf.v)
    have HS := Lib.hid hs
    have HAC := Lib.hid hact
    clear hact
    cases hp : parseB s with
    | none =>
      have HQ := Lib.hid (show ∀ V, Aft W V → Calls Tryz.prog 6 #[.string s] V fun e w' => ∃ B m B2 m2 B3 m3, e = .returned (.tuple #[.agg #[.int .i64 zAct.kind, .int .i64 zAct.node, .int .i64 zAct.n, .int .i64 zAct.client, .int .i64 zAct.number, .int .i64 zAct.cmd.kind, .string zAct.cmd.actor, .string zAct.cmd.schema, .string zAct.cmd.table, .string zAct.cmd.name, .string zAct.cmd.role, .slice B zAct.cmd.cols.length m, .string zAct.cmd.rule.name, .int .i64 zAct.cmd.rule.kind, .slice B2 zAct.cmd.rule.cols.length m2, .int .i64 zAct.cmd.rule.low, .int .i64 zAct.cmd.rule.high, .string zAct.cmd.rule.schema, .string zAct.cmd.rule.table, .string zAct.cmd.rule.key, .int .i64 zAct.cmd.right, .bool zAct.cmd.opt, .int .i64 zAct.ck, .int .i64 zAct.cn, .int .i64 zAct.row.kind, .string zAct.row.role, .string zAct.row.schema, .string zAct.row.table, .slice B3 zAct.row.row.length m3, .string zAct.row.col, .int .i64 zAct.row.v.kind, .int .i64 zAct.row.v.int, .string zAct.row.v.text], .int .i64 230]) ∧ Aft V w' from fun V aV => (parse_act s V HZ.out (HLV.out V aV)).mono fun e w' ⟨a2, B, m, B2, m2, B3, m3, he, hy⟩ => by
        rw [hp] at he
        exact ⟨B, m, B2, m2, B3, m3, he, a2⟩)
      have HN := Lib.hid (show ∀ X, actM a = some X → parseB (lineB X) ≠ some a from fun Y h => by
        rw [HAC.out] at h
        cases h
        rw [← HS.out, hp]; simp)
      clear hx hf ht hl ra aW HLI hs hp
      go_enter Tryz.func11, Tryz.ntmps11
      go_upto_region 1 with fail
      rw [← hW]
      clear hW
      go_wp2_with (first
        | (go_at_call 23; (with_reducible refine HP.out.mono ?_); rintro e w1 ⟨rfl, a1⟩; have H1 := Lib.hid a1; clear a1)
        | (go_at_call 6; (with_reducible refine (HQ.out _ H1.out).mono ?_); rintro e w2 ⟨B, m, B2, m2, B3, m3, rfl, a2⟩; have H2 := Lib.hid a2; clear a2))
      go_ret2
      exact ⟨((HAW.out.trans H1.out).trans H2.out).alloc _, .inr ⟨HN.out, rfl⟩⟩
    | some y =>
      have HQ := Lib.hid (show ∀ V, Aft W V → Calls Tryz.prog 6 #[.string s] V fun e w' => ∃ B m B2 m2 B3 m3, e = .returned (.tuple #[.agg #[.int .i64 y.kind, .int .i64 y.node, .int .i64 y.n, .int .i64 y.client, .int .i64 y.number, .int .i64 y.cmd.kind, .string y.cmd.actor, .string y.cmd.schema, .string y.cmd.table, .string y.cmd.name, .string y.cmd.role, .slice B y.cmd.cols.length m, .string y.cmd.rule.name, .int .i64 y.cmd.rule.kind, .slice B2 y.cmd.rule.cols.length m2, .int .i64 y.cmd.rule.low, .int .i64 y.cmd.rule.high, .string y.cmd.rule.schema, .string y.cmd.rule.table, .string y.cmd.rule.key, .int .i64 y.cmd.right, .bool y.cmd.opt, .int .i64 y.ck, .int .i64 y.cn, .int .i64 y.row.kind, .string y.row.role, .string y.row.schema, .string y.row.table, .slice B3 y.row.row.length m3, .string y.row.col, .int .i64 y.row.v.kind, .int .i64 y.row.v.int, .string y.row.v.text], .int .i64 0]) ∧ Aft V w' ∧ ActX w' y B m B2 m2 B3 m3 from fun V aV => (parse_act s V HZ.out (HLV.out V aV)).mono fun e w' ⟨a2, B, m, B2, m2, B3, m3, he, hy⟩ => by
        rw [hp] at he hy
        exact ⟨B, m, B2, m2, B3, m3, he, a2, hy⟩)
      have HSM := Lib.hid (show ∀ (V : World) (B : Option Addr) (m : Nat) (B2 : Option Addr) (m2 : Nat) (B3 : Option Addr) (m3 : Nat), Aft W V → ActX V y B m B2 m2 B3 m3 → Calls Tryz.prog 24 #[.agg #[.int .i64 a.kind, .int .i64 a.node, .int .i64 a.n, .int .i64 a.client, .int .i64 a.number, .int .i64 a.cmd.kind, .string a.cmd.actor, .string a.cmd.schema, .string a.cmd.table, .string a.cmd.name, .string a.cmd.role, .slice A a.cmd.cols.length k, .string a.cmd.rule.name, .int .i64 a.cmd.rule.kind, .slice A2 a.cmd.rule.cols.length k2, .int .i64 a.cmd.rule.low, .int .i64 a.cmd.rule.high, .string a.cmd.rule.schema, .string a.cmd.rule.table, .string a.cmd.rule.key, .int .i64 a.cmd.right, .bool a.cmd.opt, .int .i64 a.ck, .int .i64 a.cn, .int .i64 a.row.kind, .string a.row.role, .string a.row.schema, .string a.row.table, .slice A3 a.row.row.length k3, .string a.row.col, .int .i64 a.row.v.kind, .int .i64 a.row.v.int, .string a.row.v.text], .agg #[.int .i64 y.kind, .int .i64 y.node, .int .i64 y.n, .int .i64 y.client, .int .i64 y.number, .int .i64 y.cmd.kind, .string y.cmd.actor, .string y.cmd.schema, .string y.cmd.table, .string y.cmd.name, .string y.cmd.role, .slice B y.cmd.cols.length m, .string y.cmd.rule.name, .int .i64 y.cmd.rule.kind, .slice B2 y.cmd.rule.cols.length m2, .int .i64 y.cmd.rule.low, .int .i64 y.cmd.rule.high, .string y.cmd.rule.schema, .string y.cmd.rule.table, .string y.cmd.rule.key, .int .i64 y.cmd.right, .bool y.cmd.opt, .int .i64 y.ck, .int .i64 y.cn, .int .i64 y.row.kind, .string y.row.role, .string y.row.schema, .string y.row.table, .slice B3 y.row.row.length m3, .string y.row.col, .int .i64 y.row.v.kind, .int .i64 y.row.v.int, .string y.row.v.text]] V (SameQ V (a = y)) from fun V B m B2 m2 B3 m3 aV h => dsame_in a y A k A2 k2 A3 k3 B m B2 m2 B3 m3 V (HX.out.x.aft aV) h)
      have HB := Lib.hid (show ∀ (w1 w2 : World) (B : Option Addr) (m : Nat) (B2 : Option Addr) (m2 : Nat) (B3 : Option Addr) (m3 : Nat), Aft W w1 → Aft w1 w2 → ActX w2 y B m B2 m2 B3 m3 → (lvAct ⟨w.heap.size, 0, none⟩).run Tryz.prog (w2.alloc (.cells #[.int .i64 y.kind, .int .i64 y.node, .int .i64 y.n, .int .i64 y.client, .int .i64 y.number, .int .i64 y.cmd.kind, .string y.cmd.actor, .string y.cmd.schema, .string y.cmd.table, .string y.cmd.name, .string y.cmd.role, .slice B y.cmd.cols.length m, .string y.cmd.rule.name, .int .i64 y.cmd.rule.kind, .slice B2 y.cmd.rule.cols.length m2, .int .i64 y.cmd.rule.low, .int .i64 y.cmd.rule.high, .string y.cmd.rule.schema, .string y.cmd.rule.table, .string y.cmd.rule.key, .int .i64 y.cmd.right, .bool y.cmd.opt, .int .i64 y.ck, .int .i64 y.cn, .int .i64 y.row.kind, .string y.row.role, .string y.row.schema, .string y.row.table, .slice B3 y.row.row.length m3, .string y.row.col, .int .i64 y.row.v.kind, .int .i64 y.row.v.int, .string y.row.v.text] 43)) = .ok (.agg #[.int .i64 a.kind, .int .i64 a.node, .int .i64 a.n, .int .i64 a.client, .int .i64 a.number, .int .i64 a.cmd.kind, .string a.cmd.actor, .string a.cmd.schema, .string a.cmd.table, .string a.cmd.name, .string a.cmd.role, .slice A a.cmd.cols.length k, .string a.cmd.rule.name, .int .i64 a.cmd.rule.kind, .slice A2 a.cmd.rule.cols.length k2, .int .i64 a.cmd.rule.low, .int .i64 a.cmd.rule.high, .string a.cmd.rule.schema, .string a.cmd.rule.table, .string a.cmd.rule.key, .int .i64 a.cmd.right, .bool a.cmd.opt, .int .i64 a.ck, .int .i64 a.cn, .int .i64 a.row.kind, .string a.row.role, .string a.row.schema, .string a.row.table, .slice A3 a.row.row.length k3, .string a.row.col, .int .i64 a.row.v.kind, .int .i64 a.row.v.int, .string a.row.v.text]) (w2.alloc (.cells #[.int .i64 y.kind, .int .i64 y.node, .int .i64 y.n, .int .i64 y.client, .int .i64 y.number, .int .i64 y.cmd.kind, .string y.cmd.actor, .string y.cmd.schema, .string y.cmd.table, .string y.cmd.name, .string y.cmd.role, .slice B y.cmd.cols.length m, .string y.cmd.rule.name, .int .i64 y.cmd.rule.kind, .slice B2 y.cmd.rule.cols.length m2, .int .i64 y.cmd.rule.low, .int .i64 y.cmd.rule.high, .string y.cmd.rule.schema, .string y.cmd.rule.table, .string y.cmd.rule.key, .int .i64 y.cmd.right, .bool y.cmd.opt, .int .i64 y.ck, .int .i64 y.cn, .int .i64 y.row.kind, .string y.row.role, .string y.row.schema, .string y.row.table, .slice B3 y.row.row.length m3, .string y.row.col, .int .i64 y.row.v.kind, .int .i64 y.row.v.int, .string y.row.v.text] 43)) ∧ (lvAct ⟨w2.heap.size, 0, none⟩).run Tryz.prog (w2.alloc (.cells #[.int .i64 y.kind, .int .i64 y.node, .int .i64 y.n, .int .i64 y.client, .int .i64 y.number, .int .i64 y.cmd.kind, .string y.cmd.actor, .string y.cmd.schema, .string y.cmd.table, .string y.cmd.name, .string y.cmd.role, .slice B y.cmd.cols.length m, .string y.cmd.rule.name, .int .i64 y.cmd.rule.kind, .slice B2 y.cmd.rule.cols.length m2, .int .i64 y.cmd.rule.low, .int .i64 y.cmd.rule.high, .string y.cmd.rule.schema, .string y.cmd.rule.table, .string y.cmd.rule.key, .int .i64 y.cmd.right, .bool y.cmd.opt, .int .i64 y.ck, .int .i64 y.cn, .int .i64 y.row.kind, .string y.row.role, .string y.row.schema, .string y.row.table, .slice B3 y.row.row.length m3, .string y.row.col, .int .i64 y.row.v.kind, .int .i64 y.row.v.int, .string y.row.v.text] 43)) = .ok (.agg #[.int .i64 y.kind, .int .i64 y.node, .int .i64 y.n, .int .i64 y.client, .int .i64 y.number, .int .i64 y.cmd.kind, .string y.cmd.actor, .string y.cmd.schema, .string y.cmd.table, .string y.cmd.name, .string y.cmd.role, .slice B y.cmd.cols.length m, .string y.cmd.rule.name, .int .i64 y.cmd.rule.kind, .slice B2 y.cmd.rule.cols.length m2, .int .i64 y.cmd.rule.low, .int .i64 y.cmd.rule.high, .string y.cmd.rule.schema, .string y.cmd.rule.table, .string y.cmd.rule.key, .int .i64 y.cmd.right, .bool y.cmd.opt, .int .i64 y.ck, .int .i64 y.cn, .int .i64 y.row.kind, .string y.row.role, .string y.row.schema, .string y.row.table, .slice B3 y.row.row.length m3, .string y.row.col, .int .i64 y.row.v.kind, .int .i64 y.row.v.int, .string y.row.v.text]) (w2.alloc (.cells #[.int .i64 y.kind, .int .i64 y.node, .int .i64 y.n, .int .i64 y.client, .int .i64 y.number, .int .i64 y.cmd.kind, .string y.cmd.actor, .string y.cmd.schema, .string y.cmd.table, .string y.cmd.name, .string y.cmd.role, .slice B y.cmd.cols.length m, .string y.cmd.rule.name, .int .i64 y.cmd.rule.kind, .slice B2 y.cmd.rule.cols.length m2, .int .i64 y.cmd.rule.low, .int .i64 y.cmd.rule.high, .string y.cmd.rule.schema, .string y.cmd.rule.table, .string y.cmd.rule.key, .int .i64 y.cmd.right, .bool y.cmd.opt, .int .i64 y.ck, .int .i64 y.cn, .int .i64 y.row.kind, .string y.row.role, .string y.row.schema, .string y.row.table, .slice B3 y.row.row.length m3, .string y.row.col, .int .i64 y.row.v.kind, .int .i64 y.row.v.int, .string y.row.v.text] 43)) ∧ ActX (w2.alloc (.cells #[.int .i64 y.kind, .int .i64 y.node, .int .i64 y.n, .int .i64 y.client, .int .i64 y.number, .int .i64 y.cmd.kind, .string y.cmd.actor, .string y.cmd.schema, .string y.cmd.table, .string y.cmd.name, .string y.cmd.role, .slice B y.cmd.cols.length m, .string y.cmd.rule.name, .int .i64 y.cmd.rule.kind, .slice B2 y.cmd.rule.cols.length m2, .int .i64 y.cmd.rule.low, .int .i64 y.cmd.rule.high, .string y.cmd.rule.schema, .string y.cmd.rule.table, .string y.cmd.rule.key, .int .i64 y.cmd.right, .bool y.cmd.opt, .int .i64 y.ck, .int .i64 y.cn, .int .i64 y.row.kind, .string y.row.role, .string y.row.schema, .string y.row.table, .slice B3 y.row.row.length m3, .string y.row.col, .int .i64 y.row.v.kind, .int .i64 y.row.v.int, .string y.row.v.text] 43)) y B m B2 m2 B3 m3 ∧ Aft W (w2.alloc (.cells #[.int .i64 y.kind, .int .i64 y.node, .int .i64 y.n, .int .i64 y.client, .int .i64 y.number, .int .i64 y.cmd.kind, .string y.cmd.actor, .string y.cmd.schema, .string y.cmd.table, .string y.cmd.name, .string y.cmd.role, .slice B y.cmd.cols.length m, .string y.cmd.rule.name, .int .i64 y.cmd.rule.kind, .slice B2 y.cmd.rule.cols.length m2, .int .i64 y.cmd.rule.low, .int .i64 y.cmd.rule.high, .string y.cmd.rule.schema, .string y.cmd.rule.table, .string y.cmd.rule.key, .int .i64 y.cmd.right, .bool y.cmd.opt, .int .i64 y.ck, .int .i64 y.cn, .int .i64 y.row.kind, .string y.row.role, .string y.row.schema, .string y.row.table, .slice B3 y.row.row.length m3, .string y.row.col, .int .i64 y.row.v.kind, .int .i64 y.row.v.int, .string y.row.v.text] 43)) from fun w1 w2 B m B2 m2 B3 m3 a1 a2 hy => ⟨lvAct_row (HRA.out.aft ((a1.trans a2).alloc _)) rfl, lvAct_row (rowAt_newD w2 [.int .i64 y.kind, .int .i64 y.node, .int .i64 y.n, .int .i64 y.client, .int .i64 y.number, .int .i64 y.cmd.kind, .string y.cmd.actor, .string y.cmd.schema, .string y.cmd.table, .string y.cmd.name, .string y.cmd.role, .slice B y.cmd.cols.length m, .string y.cmd.rule.name, .int .i64 y.cmd.rule.kind, .slice B2 y.cmd.rule.cols.length m2, .int .i64 y.cmd.rule.low, .int .i64 y.cmd.rule.high, .string y.cmd.rule.schema, .string y.cmd.rule.table, .string y.cmd.rule.key, .int .i64 y.cmd.right, .bool y.cmd.opt, .int .i64 y.ck, .int .i64 y.cn, .int .i64 y.row.kind, .string y.row.role, .string y.row.schema, .string y.row.table, .slice B3 y.row.row.length m3, .string y.row.col, .int .i64 y.row.v.kind, .int .i64 y.row.v.int, .string y.row.v.text] _) rfl, hy.aft ((Aft.refl w2).alloc _), (a1.trans a2).alloc _⟩)
      by_cases hab : a = y
      · have HSM' := Lib.hid (show ∀ (V : World) (B : Option Addr) (m : Nat) (B2 : Option Addr) (m2 : Nat) (B3 : Option Addr) (m3 : Nat), Aft W V → ActX V y B m B2 m2 B3 m3 → Calls Tryz.prog 24 #[.agg #[.int .i64 a.kind, .int .i64 a.node, .int .i64 a.n, .int .i64 a.client, .int .i64 a.number, .int .i64 a.cmd.kind, .string a.cmd.actor, .string a.cmd.schema, .string a.cmd.table, .string a.cmd.name, .string a.cmd.role, .slice A a.cmd.cols.length k, .string a.cmd.rule.name, .int .i64 a.cmd.rule.kind, .slice A2 a.cmd.rule.cols.length k2, .int .i64 a.cmd.rule.low, .int .i64 a.cmd.rule.high, .string a.cmd.rule.schema, .string a.cmd.rule.table, .string a.cmd.rule.key, .int .i64 a.cmd.right, .bool a.cmd.opt, .int .i64 a.ck, .int .i64 a.cn, .int .i64 a.row.kind, .string a.row.role, .string a.row.schema, .string a.row.table, .slice A3 a.row.row.length k3, .string a.row.col, .int .i64 a.row.v.kind, .int .i64 a.row.v.int, .string a.row.v.text], .agg #[.int .i64 y.kind, .int .i64 y.node, .int .i64 y.n, .int .i64 y.client, .int .i64 y.number, .int .i64 y.cmd.kind, .string y.cmd.actor, .string y.cmd.schema, .string y.cmd.table, .string y.cmd.name, .string y.cmd.role, .slice B y.cmd.cols.length m, .string y.cmd.rule.name, .int .i64 y.cmd.rule.kind, .slice B2 y.cmd.rule.cols.length m2, .int .i64 y.cmd.rule.low, .int .i64 y.cmd.rule.high, .string y.cmd.rule.schema, .string y.cmd.rule.table, .string y.cmd.rule.key, .int .i64 y.cmd.right, .bool y.cmd.opt, .int .i64 y.ck, .int .i64 y.cn, .int .i64 y.row.kind, .string y.row.role, .string y.row.schema, .string y.row.table, .slice B3 y.row.row.length m3, .string y.row.col, .int .i64 y.row.v.kind, .int .i64 y.row.v.int, .string y.row.v.text]] V fun e w' => e = .returned (.bool true) ∧ Aft V w' from fun V B m B2 m2 B3 m3 aV h => (HSM.out V B m B2 m2 B3 m3 aV h).mono fun e w' ⟨a1, r, he, hr⟩ => ⟨by rw [he, hr.2 hab], a1⟩)
        have HN := Lib.hid (show parseB (lineB X) = some a from by rw [← HS.out, hp, hab])
        clear hx hf ht hl ra aW HLI hs hp hab HSM
        go_enter Tryz.func11, Tryz.ntmps11
        go_upto_region 1 with fail
        rw [← hW]
        clear hW
        go_wp2_with (first
          | (go_at_call 23; (with_reducible refine HP.out.mono ?_); rintro e w1 ⟨rfl, a1⟩; have H1 := Lib.hid a1; clear a1)
          | (go_at_call 6; (with_reducible refine (HQ.out _ H1.out).mono ?_); rintro e w2 ⟨B, m, B2, m2, B3, m3, rfl, a2, y2⟩; obtain ⟨g1, g2, g3, g4⟩ := HB.out _ _ _ _ _ _ _ _ H1.out a2 y2; have H2 := Lib.hid (And.intro g3 g4); clear a2 y2 g3 g4)
          | (go_at_call 24; (with_reducible refine (HSM'.out _ _ _ _ _ _ _ H2.out.2 H2.out.1).mono ?_); rintro e w3 ⟨rfl, a3⟩; have H3 := Lib.hid a3; clear a3))
        go_ret2
        exact ⟨(HAW.out.trans H2.out.2).trans H3.out, .inl ⟨X, HAC.out, HN.out, by rw [← HS.out]; rfl⟩⟩
      · have HSM' := Lib.hid (show ∀ (V : World) (B : Option Addr) (m : Nat) (B2 : Option Addr) (m2 : Nat) (B3 : Option Addr) (m3 : Nat), Aft W V → ActX V y B m B2 m2 B3 m3 → Calls Tryz.prog 24 #[.agg #[.int .i64 a.kind, .int .i64 a.node, .int .i64 a.n, .int .i64 a.client, .int .i64 a.number, .int .i64 a.cmd.kind, .string a.cmd.actor, .string a.cmd.schema, .string a.cmd.table, .string a.cmd.name, .string a.cmd.role, .slice A a.cmd.cols.length k, .string a.cmd.rule.name, .int .i64 a.cmd.rule.kind, .slice A2 a.cmd.rule.cols.length k2, .int .i64 a.cmd.rule.low, .int .i64 a.cmd.rule.high, .string a.cmd.rule.schema, .string a.cmd.rule.table, .string a.cmd.rule.key, .int .i64 a.cmd.right, .bool a.cmd.opt, .int .i64 a.ck, .int .i64 a.cn, .int .i64 a.row.kind, .string a.row.role, .string a.row.schema, .string a.row.table, .slice A3 a.row.row.length k3, .string a.row.col, .int .i64 a.row.v.kind, .int .i64 a.row.v.int, .string a.row.v.text], .agg #[.int .i64 y.kind, .int .i64 y.node, .int .i64 y.n, .int .i64 y.client, .int .i64 y.number, .int .i64 y.cmd.kind, .string y.cmd.actor, .string y.cmd.schema, .string y.cmd.table, .string y.cmd.name, .string y.cmd.role, .slice B y.cmd.cols.length m, .string y.cmd.rule.name, .int .i64 y.cmd.rule.kind, .slice B2 y.cmd.rule.cols.length m2, .int .i64 y.cmd.rule.low, .int .i64 y.cmd.rule.high, .string y.cmd.rule.schema, .string y.cmd.rule.table, .string y.cmd.rule.key, .int .i64 y.cmd.right, .bool y.cmd.opt, .int .i64 y.ck, .int .i64 y.cn, .int .i64 y.row.kind, .string y.row.role, .string y.row.schema, .string y.row.table, .slice B3 y.row.row.length m3, .string y.row.col, .int .i64 y.row.v.kind, .int .i64 y.row.v.int, .string y.row.v.text]] V fun e w' => e = .returned (.bool false) ∧ Aft V w' from fun V B m B2 m2 B3 m3 aV h => (HSM.out V B m B2 m2 B3 m3 aV h).mono fun e w' ⟨a1, r, he, hr⟩ => ⟨by
          rw [he]
          cases r
          · rfl
          · exact absurd (hr.1 rfl) hab, a1⟩)
        have HN := Lib.hid (show ∀ X, actM a = some X → parseB (lineB X) ≠ some a from fun Y h => by
          rw [HAC.out] at h
          cases h
          rw [← HS.out, hp]
          intro e
          injection e with e
          exact hab e.symm)
        clear hx hf ht hl ra aW HLI hs hp hab HSM
        go_enter Tryz.func11, Tryz.ntmps11
        go_upto_region 1 with fail
        rw [← hW]
        clear hW
        go_wp2_with (first
          | (go_at_call 23; (with_reducible refine HP.out.mono ?_); rintro e w1 ⟨rfl, a1⟩; have H1 := Lib.hid a1; clear a1)
          | (go_at_call 6; (with_reducible refine (HQ.out _ H1.out).mono ?_); rintro e w2 ⟨B, m, B2, m2, B3, m3, rfl, a2, y2⟩; obtain ⟨g1, g2, g3, g4⟩ := HB.out _ _ _ _ _ _ _ _ H1.out a2 y2; have H2 := Lib.hid (And.intro g3 g4); clear a2 y2 g3 g4)
          | (go_at_call 24; (with_reducible refine (HSM'.out _ _ _ _ _ _ _ H2.out.2 H2.out.1).mono ?_); rintro e w3 ⟨rfl, a3⟩; have H3 := Lib.hid a3; clear a3))
        go_ret2
        exact ⟨(HAW.out.trans H2.out.2).trans H3.out, .inr ⟨HN.out, rfl⟩⟩
end Go.Proofs.YtbdanlipghhgpaaGreatDoor

namespace Go.Proofs.YtbdanlipghhgpaaGreatDoor
open Go.RowKit Go.Deep
set_option maxRecDepth 100000
set_option linter.unusedVariables false
def CkR (a : Dact) : Prop := 0 ≤ a.ck ∧ a.ck ≤ 3
theorem ck0 : (0 : Int) ≤ 0 ∧ (0 : Int) ≤ 3 := ⟨by decide, by decide⟩
theorem bck {α : Type} {o : Option α} {f : α → Option (Dact × Ws)} {a : Dact} {W : Ws} (h : o.bind f = some (a, W)) (hf : ∀ x, f x = some (a, W) → CkR a) : CkR a := by
  cases o with
  | none => cases h
  | some x => exact hf x h
theorem three_ck {k : Int} {W V : Ws} {a : Dact} (h : threeP k W = some (a, V)) : CkR a :=
  bck h fun ⟨n, V⟩ h => bck h fun ⟨m, V2⟩ h => bck h fun ⟨q, V3⟩ h => by cases h; exact ck0
theorem chg_ck {k : Int} (h0 : 0 ≤ k) (h3 : k ≤ 3) {W V : Ws} {a : Dact} (h : chgP k W = some (a, V)) : CkR a :=
  bck h fun ⟨n, V⟩ h => bck h fun ⟨m, V2⟩ h => by cases h; exact ⟨h0, h3⟩
theorem act_ck {W V : Ws} {a : Dact} (h : actP W = some (a, V)) : CkR a := by
  refine bck h fun y h => ?_
  obtain ⟨f, V⟩ := y
  dsimp only at h
  by_cases g_tick : eqS f b_tick = true
  · rw [if_pos g_tick] at h
    exact bck h fun ⟨n, V⟩ h => by cases h; exact ck0
  rw [if_neg g_tick] at h
  by_cases g_world : eqS f b_world = true
  · rw [if_pos g_world] at h
    cases h; exact ck0
  rw [if_neg g_world] at h
  by_cases g_start : eqS f b_start = true
  · rw [if_pos g_start] at h
    exact bck h fun ⟨n, V⟩ h => by cases h; exact ck0
  rw [if_neg g_start] at h
  by_cases g_deliver : eqS f b_deliver = true
  · rw [if_pos g_deliver] at h
    exact bck h fun ⟨n, V⟩ h => by cases h; exact ck0
  rw [if_neg g_deliver] at h
  by_cases g_drop : eqS f b_drop = true
  · rw [if_pos g_drop] at h
    exact bck h fun ⟨n, V⟩ h => by cases h; exact ck0
  rw [if_neg g_drop] at h
  by_cases g_double : eqS f b_double = true
  · rw [if_pos g_double] at h
    exact bck h fun ⟨n, V⟩ h => by cases h; exact ck0
  rw [if_neg g_double] at h
  by_cases g_ask : eqS f b_ask = true
  · rw [if_pos g_ask] at h
    cases ht : threeP 6 V with
    | none => rw [ht] at h; cases h
    | some y =>
      obtain ⟨c, V2⟩ := y
      rw [ht, Option.bind_some] at h
      have h3 := three_ck ht
      exact bck h fun ⟨m, V2⟩ h => by
        injection h with h
        injection h with h _
        rw [← h]; exact h3
  rw [if_neg g_ask] at h
  by_cases g_read : eqS f b_read = true
  · rw [if_pos g_read] at h
    exact three_ck h
  rw [if_neg g_read] at h
  by_cases g_learner : eqS f b_learner = true
  · rw [if_pos g_learner] at h
    exact chg_ck (by decide) (by decide) h
  rw [if_neg g_learner] at h
  by_cases g_voter : eqS f b_voter = true
  · rw [if_pos g_voter] at h
    exact chg_ck (by decide) (by decide) h
  rw [if_neg g_voter] at h
  by_cases g_remove : eqS f b_remove = true
  · rw [if_pos g_remove] at h
    exact chg_ck (by decide) (by decide) h
  rw [if_neg g_remove] at h
  by_cases g_lease : eqS f b_lease = true
  · rw [if_pos g_lease] at h
    exact bck h fun ⟨n, V⟩ h => bck h fun ⟨m, V2⟩ h => by cases h; exact ck0
  rw [if_neg g_lease] at h
  by_cases g_row : eqS f b_row = true
  · rw [if_pos g_row] at h
    exact bck h fun ⟨n, V⟩ h => bck h fun ⟨m, V2⟩ h => by cases h; exact ck0
  rw [if_neg g_row] at h
  by_cases g_crash : eqS f b_crash = true
  · rw [if_pos g_crash] at h
    exact bck h fun ⟨n, V⟩ h => bck h fun ⟨m, V2⟩ h => by cases h; exact ck0
  rw [if_neg g_crash] at h
  cases h
theorem parse_ck {s : ByteArray} {a : Dact} (h : parseB s = some a) : CkR a := by
  unfold parseB at h
  split at h
  · unfold parseW at h
    cases ha : actP (wordsB s) with
    | none => rw [ha] at h; cases h
    | some y =>
      obtain ⟨c, V⟩ := y
      rw [ha] at h
      have := act_ck ha
      simp only [Option.bind_some] at h
      split at h
      · cases h; exact this
      · cases h
  · cases h
theorem parse_actG (s : ByteArray) (a : Dact) (w : World) (hs : Small s.size) (hl : LibV w) (hp : parseB s = some a) : Calls Tryz.prog 6 #[.string s] w fun e w' => ∃ A k A2 k2 A3 k3, e = .returned (.tuple #[.agg (actV a A k A2 k2 A3 k3).toArray, .int .i64 0]) ∧ Aft w w' ∧ ActG w' a A k A2 k2 A3 k3 ∧ Few a := by
  have hck := parse_ck hp
  obtain ⟨m, hm⟩ := hl
  refine (parse_in s w hs ⟨m, hm⟩ (World.block_lt_of_cell? _ _ hm)).mono ?_
  rintro e w' ⟨aw, h⟩
  rw [hp] at h
  obtain ⟨b, B, v, _, ⟨A, k, A2, k2, A3, k3, rfl, ⟨c1, c2, c3⟩, ⟨n1, n2, n3⟩, ⟨v1, v2, v3⟩, ok, ro⟩, rfl⟩ := h
  exact ⟨A, k, A2, k2, A3, k3, rfl, aw, ⟨⟨sl_ownr c1 (Nat.le_trans c2 (by omega)) fun x hx => ⟨rfl, rfl, c3 x hx⟩, sl_ownr n1 (Nat.le_trans n2 (by omega)) fun x hx => ⟨rfl, rfl, nmZ_small (.inr (n3 x hx))⟩, sl_ownr v1 (Nat.le_trans v2 (by omega)) fun x hx => ⟨rfl, rfl, v3 x hx⟩, nmZ_small ok.rname, nmZ_small ok.rs, nmZ_small ok.rt, nmZ_small ok.rk⟩,
    ⟨nmZ_small ok.actor, nmZ_small ok.schema, nmZ_small ok.table, nmZ_small ok.name, nmZ_small ok.role, nmZ_small ok.rname, nmZ_small ok.rs, nmZ_small ok.rt, nmZ_small ok.rk⟩,
    ⟨nmZ_small ro.role, nmZ_small ro.schema, nmZ_small ro.table, nmZ_small ro.col, ro.text⟩, by have := hck.1; omega, by have := hck.2; omega⟩, ⟨Nat.le_trans c2 (by omega), Nat.le_trans n2 (by omega), Nat.le_trans v2 (by omega)⟩⟩
def LgQ (w : World) (a : Dact) (e : Ending) (w' : World) : Prop := Aft w w' ∧ ∃ r, e = .returned (.bool r) ∧ (r = false → Few a)
set_option maxHeartbeats 8000000 in
theorem large_in (a : Dact) (A : Option Addr) (k : Nat) (A2 : Option Addr) (k2 : Nat) (A3 : Option Addr) (k3 : Nat) (w : World) (hx : ActX w a A k A2 k2 A3 k3) :
    Calls Tryz.prog 10 #[.agg #[.int .i64 a.kind, .int .i64 a.node, .int .i64 a.n, .int .i64 a.client, .int .i64 a.number, .int .i64 a.cmd.kind, .string a.cmd.actor, .string a.cmd.schema, .string a.cmd.table, .string a.cmd.name, .string a.cmd.role, .slice A a.cmd.cols.length k, .string a.cmd.rule.name, .int .i64 a.cmd.rule.kind, .slice A2 a.cmd.rule.cols.length k2, .int .i64 a.cmd.rule.low, .int .i64 a.cmd.rule.high, .string a.cmd.rule.schema, .string a.cmd.rule.table, .string a.cmd.rule.key, .int .i64 a.cmd.right, .bool a.cmd.opt, .int .i64 a.ck, .int .i64 a.cn, .int .i64 a.row.kind, .string a.row.role, .string a.row.schema, .string a.row.table, .slice A3 a.row.row.length k3, .string a.row.col, .int .i64 a.row.v.kind, .int .i64 a.row.v.int, .string a.row.v.text]] w (LgQ w a) := by
  have l1 := hx.cols.len
  have l2 := hx.nms.len
  have l3 := hx.vals.len
  have HX := Lib.hid hx
  clear hx
  obtain ⟨W, hW⟩ : ∃ W, W = (w.alloc (.cells #[.int .i64 a.kind, .int .i64 a.node, .int .i64 a.n, .int .i64 a.client, .int .i64 a.number, .int .i64 a.cmd.kind, .string a.cmd.actor, .string a.cmd.schema, .string a.cmd.table, .string a.cmd.name, .string a.cmd.role, .slice A a.cmd.cols.length k, .string a.cmd.rule.name, .int .i64 a.cmd.rule.kind, .slice A2 a.cmd.rule.cols.length k2, .int .i64 a.cmd.rule.low, .int .i64 a.cmd.rule.high, .string a.cmd.rule.schema, .string a.cmd.rule.table, .string a.cmd.rule.key, .int .i64 a.cmd.right, .bool a.cmd.opt, .int .i64 a.ck, .int .i64 a.cn, .int .i64 a.row.kind, .string a.row.role, .string a.row.schema, .string a.row.table, .slice A3 a.row.row.length k3, .string a.row.col, .int .i64 a.row.v.kind, .int .i64 a.row.v.int, .string a.row.v.text] 43)).alloc (.cells #[.int .i64 a.cmd.kind, .string a.cmd.actor, .string a.cmd.schema, .string a.cmd.table, .string a.cmd.name, .string a.cmd.role, .slice A a.cmd.cols.length k, .string a.cmd.rule.name, .int .i64 a.cmd.rule.kind, .slice A2 a.cmd.rule.cols.length k2, .int .i64 a.cmd.rule.low, .int .i64 a.cmd.rule.high, .string a.cmd.rule.schema, .string a.cmd.rule.table, .string a.cmd.rule.key, .int .i64 a.cmd.right, .bool a.cmd.opt] 31) := ⟨_, rfl⟩
  have aW : Aft w W := by rw [hW]; exact ((Aft.refl w).alloc _).alloc _
  obtain ⟨ra, rb⟩ := box2_rowsD (w := w) (W := W) (by rw [← hW]; exact Aft.refl W)
  have HAW := Lib.hid aW
  have p28 := ra.cell (j := 28) rfl
  have q6 := rb.cell (j := 6) rfl
  have q9 := rb.cell (j := 9) rfl
  have lw := rb.1
  have hz : w.heap.size < w.heap.size + 1 := by omega
  clear aW ra rb
  by_cases f1 : 1000 < a.cmd.cols.length
  · have g1 : (1000 : Int) < (a.cmd.cols.length : Int) := by omega
    clear f1
    go_enter Tryz.func10, Tryz.ntmps10
    go_upto_region 2 with fail
    rw [← hW]
    clear hW
    go_wp2_with fail
    go_ret
    exact ⟨HAW.out, true, rfl, fun e => (by cases e)⟩
  have g1 : ¬ (1000 : Int) < (a.cmd.cols.length : Int) := by omega
  by_cases f2 : 1000 < a.cmd.rule.cols.length
  · have g2 : (1000 : Int) < (a.cmd.rule.cols.length : Int) := by omega
    clear f1 f2
    go_enter Tryz.func10, Tryz.ntmps10
    go_upto_region 2 with fail
    rw [← hW]
    clear hW
    go_wp2_with fail
    go_ret
    exact ⟨HAW.out, true, rfl, fun e => (by cases e)⟩
  have g2 : ¬ (1000 : Int) < (a.cmd.rule.cols.length : Int) := by omega
  by_cases f3 : 1000 < a.row.row.length
  · have g3 : (1000 : Int) < (a.row.row.length : Int) := by omega
    clear f1 f2 f3
    go_enter Tryz.func10, Tryz.ntmps10
    go_upto_region 2 with fail
    rw [← hW]
    clear hW
    go_wp2_with fail
    go_ret
    exact ⟨HAW.out, true, rfl, fun e => (by cases e)⟩
  have g3 : ¬ (1000 : Int) < (a.row.row.length : Int) := by omega
  have HF := Lib.hid (show Few a from ⟨by omega, by omega, by omega⟩)
  clear f1 f2 f3
  go_enter Tryz.func10, Tryz.ntmps10
  go_upto_region 2 with fail
  rw [← hW]
  clear hW
  go_wp2_with fail
  go_loopw [4, 5] (fun n i wr => ∃ (z : Int) (k : Nat), n = .int .i64 z ∧ i = .int .i64 k ∧ 0 ≤ z ∧ z ≤ 300000 ∧ k ≤ a.cmd.cols.length ∧ W = wr) (fun _ i _ => a.cmd.cols.length - (intOf i).toNat)
  case atStart => exact ⟨0, 0, rfl, rfl, by omega, by omega, Nat.zero_le _, rfl⟩
  case round =>
    obtain ⟨z, k5, rfl, rfl, z0, z1, hk, rfl⟩ := hrel
    by_cases hlt : k5 < a.cmd.cols.length
    · by_cases hz5 : z ≤ 100000
      · obtain ⟨g, off, hA, hb, c0, _, _, hsm⟩ := col_at (HX.out.aft HAW.out).cols hlt
        subst hA
        have m0 : 0 ≤ min ((a.cmd.cols[k5].name.size : Nat) : Int) 100001 := by omega
        have m1 : min ((a.cmd.cols[k5].name.size : Nat) : Int) 100001 ≤ 100001 := by omega
        go_wp2_with fail
        go_roundw
        case rel => exact ⟨_, k5 + 1, rfl, by go_num, by omega, by omega, by omega, trivial⟩
        case measure => simp [intOf]; omega
      · go_wp2_with fail
        go_loopw [4, 6] (fun n i wr => ∃ (z : Int) (k : Nat), n = .int .i64 z ∧ i = .int .i64 k ∧ 0 ≤ z ∧ z ≤ 300000 ∧ k ≤ a.cmd.rule.cols.length ∧ W = wr) (fun _ i _ => a.cmd.rule.cols.length - (intOf i).toNat)
        case atStart => exact ⟨z, 0, rfl, rfl, by omega, by omega, Nat.zero_le _, rfl⟩
        case round =>
          obtain ⟨y, k6, rfl, rfl, y0, y1, hk6, rfl⟩ := hrel
          by_cases hlt6 : k6 < a.cmd.rule.cols.length
          · by_cases hz6 : y ≤ 100000
            · obtain ⟨g, off, hA, hb, c0, hsm⟩ := str_at (HX.out.aft HAW.out).nms hlt6
              subst hA
              have m0 : 0 ≤ min ((a.cmd.rule.cols[k6].size : Nat) : Int) 100001 := by omega
              have m1 : min ((a.cmd.rule.cols[k6].size : Nat) : Int) 100001 ≤ 100001 := by omega
              go_wp2_with fail
              go_roundw
              case rel => exact ⟨_, k6 + 1, rfl, by go_num, by omega, by omega, by omega, trivial⟩
              case measure => simp [intOf]; omega
            · go_wp2_with fail
              go_ret
              exact ⟨HAW.out, _, rfl, fun _ => HF.out⟩
          · go_wp2_with fail
            go_ret
            exact ⟨HAW.out, _, rfl, fun _ => HF.out⟩
    · go_wp2_with fail
      go_loopw [4, 6] (fun n i wr => ∃ (z : Int) (k : Nat), n = .int .i64 z ∧ i = .int .i64 k ∧ 0 ≤ z ∧ z ≤ 300000 ∧ k ≤ a.cmd.rule.cols.length ∧ W = wr) (fun _ i _ => a.cmd.rule.cols.length - (intOf i).toNat)
      case atStart => exact ⟨z, 0, rfl, rfl, by omega, by omega, Nat.zero_le _, rfl⟩
      case round =>
        obtain ⟨y, k6, rfl, rfl, y0, y1, hk6, rfl⟩ := hrel
        by_cases hlt6 : k6 < a.cmd.rule.cols.length
        · by_cases hz6 : y ≤ 100000
          · obtain ⟨g, off, hA, hb, c0, hsm⟩ := str_at (HX.out.aft HAW.out).nms hlt6
            subst hA
            have m0 : 0 ≤ min ((a.cmd.rule.cols[k6].size : Nat) : Int) 100001 := by omega
            have m1 : min ((a.cmd.rule.cols[k6].size : Nat) : Int) 100001 ≤ 100001 := by omega
            go_wp2_with fail
            go_roundw
            case rel => exact ⟨_, k6 + 1, rfl, by go_num, by omega, by omega, by omega, trivial⟩
            case measure => simp [intOf]; omega
          · go_wp2_with fail
            go_ret
            exact ⟨HAW.out, _, rfl, fun _ => HF.out⟩
        · go_wp2_with fail
          go_ret
          exact ⟨HAW.out, _, rfl, fun _ => HF.out⟩
def exA5 : Dact := { zAct with kind := 11, node := 1, n := -1 }
def exA6 : Dact := { zAct with kind := 11, node := 1, client := 1 }
def exA7 : Dact := { zAct with kind := 11, node := 1 }
theorem exP5 : parseB ⟨#[99, 114, 97, 115, 104, 32, 49, 32, 45, 49]⟩ = some exA5 := by kernel_rfl
theorem exP7 : parseB ⟨#[99, 114, 97, 115, 104, 32, 49, 32, 48]⟩ = some exA7 := by kernel_rfl
theorem laid_X {a : Dact} {s : ByteArray} (h : parseB s = some a) (ha : actM a = actL a) : ∃ X, actM a = some X ∧ lineB X = s := by
  have h1 := laid_of_parse h
  unfold laidB at h1
  cases hx : actL a with
  | none => rw [hx] at h1; cases h1
  | some X =>
    rw [hx] at h1
    exact ⟨X, ha.trans hx, by simpa using h1⟩
theorem actG_z (w : World) (k n m c q : Int) : ActG w { zAct with kind := k, node := n, n := m, client := c, number := q } none 0 none 0 none 0 :=
  ⟨⟨slAt_nil, slAt_nil, slAt_nil, small_z, small_z, small_z, small_z⟩, ⟨small_z, small_z, small_z, small_z, small_z, small_z, small_z, small_z, small_z⟩, ⟨small_z, small_z, small_z, small_z, small_z⟩, by show -9223372036854775808 ≤ (0 : Int); decide, by show (0 : Int) ≤ 9223372036854775807; decide⟩
theorem few_z (k n m c q : Int) : Few { zAct with kind := k, node := n, n := m, client := c, number := q } := ⟨Nat.zero_le _, Nat.zero_le _, Nat.zero_le _⟩
theorem print5 (w : World) (ht : TabW w) (hl : LibV w) : Calls Tryz.prog 11 #[.agg #[.int .i64 11, .int .i64 1, .int .i64 (-1), .int .i64 0, .int .i64 0, .int .i64 0, .string ⟨#[]⟩, .string ⟨#[]⟩, .string ⟨#[]⟩, .string ⟨#[]⟩, .string ⟨#[]⟩, .slice none 0 0, .string ⟨#[]⟩, .int .i64 0, .slice none 0 0, .int .i64 0, .int .i64 0, .string ⟨#[]⟩, .string ⟨#[]⟩, .string ⟨#[]⟩, .int .i64 0, .bool false, .int .i64 0, .int .i64 0, .int .i64 0, .string ⟨#[]⟩, .string ⟨#[]⟩, .string ⟨#[]⟩, .slice none 0 0, .string ⟨#[]⟩, .int .i64 0, .int .i64 0, .string ⟨#[]⟩]] w fun e w' => e = .returned (.tuple #[.string ⟨#[99, 114, 97, 115, 104, 32, 49, 32, 45, 49]⟩, .int .i64 0]) ∧ Aft w w' := by
  refine (print_in exA5 none 0 none 0 none 0 w (actG_z w 11 1 (-1) 0 0) (few_z 11 1 (-1) 0 0) ht hl).mono ?_
  rintro e w' ⟨a, h⟩
  obtain ⟨Y, hY, hYl⟩ := laid_X exP5 rfl
  rcases h with ⟨X, h1, _, h3⟩ | ⟨h1, _⟩
  · have : X = Y := Option.some.inj (h1.symm.trans hY)
    subst this
    exact ⟨by rw [h3, hYl], a⟩
  · exact absurd (by rw [hYl]; exact exP5) (h1 Y hY)
theorem print6 (w : World) (ht : TabW w) (hl : LibV w) : Calls Tryz.prog 11 #[.agg #[.int .i64 11, .int .i64 1, .int .i64 0, .int .i64 1, .int .i64 0, .int .i64 0, .string ⟨#[]⟩, .string ⟨#[]⟩, .string ⟨#[]⟩, .string ⟨#[]⟩, .string ⟨#[]⟩, .slice none 0 0, .string ⟨#[]⟩, .int .i64 0, .slice none 0 0, .int .i64 0, .int .i64 0, .string ⟨#[]⟩, .string ⟨#[]⟩, .string ⟨#[]⟩, .int .i64 0, .bool false, .int .i64 0, .int .i64 0, .int .i64 0, .string ⟨#[]⟩, .string ⟨#[]⟩, .string ⟨#[]⟩, .slice none 0 0, .string ⟨#[]⟩, .int .i64 0, .int .i64 0, .string ⟨#[]⟩]] w fun e w' => e = .returned (.tuple #[.string ⟨#[]⟩, .int .i64 230]) ∧ Aft w w' := by
  refine (print_in exA6 none 0 none 0 none 0 w (actG_z w 11 1 0 1 0) (few_z 11 1 0 1 0) ht hl).mono ?_
  rintro e w' ⟨a, h⟩
  obtain ⟨Y, hY, hYl⟩ := laid_X exP7 rfl
  have e67 : actM exA6 = actM exA7 := rfl
  rcases h with ⟨X, h1, h2, _⟩ | ⟨_, h3⟩
  · have : X = Y := Option.some.inj (h1.symm.trans (e67.trans hY))
    subst this
    rw [hYl, exP7] at h2
    injection h2 with h2
    have := congrArg Dact.client h2
    simp [exA6, exA7, zAct] at this
  · exact ⟨h3, a⟩
set_option maxHeartbeats 4000000 in
theorem prints24 (w : World) (ht : TabW w) (hl : LibV w) : Calls Tryz.prog 13 #[] w fun e w' => e = .returned (.bool true) ∧ Aft w w' := by
  have H5 := Lib.hid (print5 w ht hl)
  have H6 := Lib.hid (show ∀ V, Aft w V → _ from fun V a => print6 V (ht.aft a) (hl.kb (P := fun _ => False) (Kb.of_aft a) id))
  clear ht hl
  go_enter Tryz.func13, Tryz.ntmps13
  go_wp2_with (first
    | (go_at_call 11; (with_reducible refine H5.out.mono ?_); rintro e w1 ⟨rfl, a1⟩; have G1 := Lib.hid a1; clear a1)
    | (go_at_call 11; (with_reducible refine (H6.out _ G1.out).mono ?_); rintro e w2 ⟨rfl, a2⟩; have G2 := Lib.hid a2; clear a2))
  go_ret
  exact ⟨rfl, G1.out.trans G2.out⟩
end Go.Proofs.YtbdanlipghhgpaaGreatDoor

