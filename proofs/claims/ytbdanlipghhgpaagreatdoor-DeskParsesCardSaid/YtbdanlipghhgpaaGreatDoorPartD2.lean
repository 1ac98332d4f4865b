/- Contracts of the program, part 2. -/
import Derived.OwnWalk
import Derived.Laws.AppendOwn
import Derived.ProofKit
import Derived.OpenShut
import Derived.Deep.Slices
import Derived.ChangeOld
import Derived.SizedLaws
import Derived.WalkKit
import Derived.WalkSpells
import Derived.WalkLawsBesides
import Derived.Lib.Hide
import Derived.Deep.QuietTactic
import Derived.BigQuiet
import Derived.Below
import Derived.Deep.Draws
import Derived.StillTailTactics
import Derived.Laws.Cells
import Derived.Laws.IdiomCopy
import Derived.Test.YtbdanlipghhgpaaGreatDoorRows
import Derived.Deep.Cut
import Derived.Deep.DeepCutAuto
import Derived.Lib.Bytealg
import Derived.ShutString
import Derived.Lib.Atoi
import Derived.Lib.ItoaNum
import Derived.Lib.Split
import Derived.Lib.SplitLaws
import Derived.Lib.CutLaws
import Derived.Lib.Strings
import Derived.Lib.SlTrimSet
import Derived.Deep.Upon
import Derived.Laws.EntriesVeiled
import Derived.Shelf.Strings.Builder1
import Derived.Shelf.Strings.Builder2
import Derived.Shelf.Strings.OnBuilder
import Derived.Shelf.Strings.Trim
import Derived.Shelf.Small.Utf8
import Derived.Shelf.Small.Strs
import Derived.Shelf.Small.Wraps
import Derived.Shelf.Strconv.Atoi
import Derived.Shelf.Strconv.Itoa0
import Derived.Shelf.Strconv.Itoa1
import Derived.Shelf.LaysM
import Derived.Shelf.Strconv.Itoa2
import Derived.Shelf.Strconv.Itoa3
import Derived.Shelf.Strings.Search1
import Derived.Shelf.Strings.Search2
import Derived.Shelf.Strings.Search3
import Derived.Shelf.Strings.Cut
import Derived.Shelf.Strings.Count
import Derived.Shelf.Strings.Shaped
import Derived.Shelf.Strings.Prefix
import Derived.Shelf.Strings.Split
import Derived.Shelf.Strings.Runes
import Derived.Shelf.Strings.AsciiSet
import Derived.Shelf.Unicode.DecodeSlow
import Derived.Shelf.Slices.Equal
import Derived.Shelf.Slices.Empties2
import Derived.Shelf.Strings.SlTrimAscii
import Derived.Test.YtbdanlipghhgpaaGreatDoorProg
import Derived.Test.YtbdanlipghhgpaaGreatDoorPartD1
namespace Go.Proofs.YtbdanlipghhgpaaGreatDoor
open Go.RowKit
set_option linter.unusedVariables false
theorem Aft.cell_kept {w w' : World} (h : Aft w w') {a : Addr} {v : Value} (hc : w.cell? a = some v) : w'.cell? a = some v := (Below.cell h (World.block_lt_of_cell? w a hc)).trans hc
def RowAt (w : World) (g : Nat) (xs : List Value) : Prop := g < w.heap.size ∧ (∀ j, j < xs.length → w.cell? ⟨g, j, none⟩ = xs[j]?) ∧ ∀ j, j < xs.length → w.frozen? ⟨g, j, none⟩ = false
theorem RowAt.aft {w w' : World} {g : Nat} {xs : List Value} (h : RowAt w g xs) (a : Aft w w') : RowAt w' g xs :=
  ⟨Nat.lt_of_lt_of_le h.1 a.size, fun j hj => (Below.cell a (p := ⟨g, j, none⟩) h.1).trans (h.2.1 j hj), fun j hj => (Below.frozen a (p := ⟨g, j, none⟩) h.1).trans (h.2.2 j hj)⟩
theorem RowAt.cell {w : World} {g : Nat} {xs : List Value} (h : RowAt w g xs) {j : Nat} {v : Value} (hj : xs[j]? = some v) : w.cell? ⟨g, j, none⟩ = some v :=
  (h.2.1 j (List.getElem?_eq_some_iff.1 hj).1).trans hj
theorem RowAt.set {w : World} {g : Nat} {xs : List Value} (h : RowAt w g xs) (j : Nat) (v : Value) (hj : j < xs.length) : RowAt (w.setCell ⟨g, j, none⟩ v) g (xs.set j v) := by
  have hc : w.cell? ⟨g, j, none⟩ = some xs[j] := (h.2.1 j hj).trans (List.getElem?_eq_getElem hj)
  refine ⟨by simpa using h.1, fun k hk => ?_, fun k hk => ?_⟩
  · rw [List.length_set] at hk
    by_cases e : k = j
    · subst e
      rw [World.cell?_setCell_same (h := hc), List.getElem?_set_self hj]
    · rw [World.cell?_setCell_other (h := by intro e2; injection e2 with _ e3 _; exact e e3.symm), List.getElem?_set_ne (fun e2 => e e2.symm)]
      exact h.2.1 k hk
  · rw [List.length_set] at hk
    rw [World.frozen?_setCell]; exact h.2.2 k hk
def RowV (w : World) (base : Nat) (v : Value) (n : Nat) (xs : List Value) : Prop := ∃ A cap, v = .slice A n cap ∧ n ≤ cap ∧ (0 < n → ∃ g, A = some ⟨g, 0, none⟩ ∧ base ≤ g ∧ RowAt w g xs)
theorem own_rowV {w : World} {base size n : Nat} {e : TypeId} {v : Value} {xs : List Value} (h : w.ownsRow base e size v n xs) : RowV w base v n xs := by
  rcases h.2 with ⟨rfl, hn⟩ | ⟨g, cap, cur, rfl, hb, hgg, hnc, _, hcs, htk⟩
  · exact ⟨none, 0, by rw [hn], by omega, fun h0 => by omega⟩
  · refine ⟨_, cap, rfl, hnc, fun _ => ⟨g, rfl, hb, (Array.getElem?_eq_some_iff.1 hgg).1, fun j hj => ?_, fun j _ => ?_⟩⟩
    · rw [h.1] at hj
      rw [← htk, List.getElem?_take_of_lt hj]
      simp [World.cell?, hgg]
    · simp [World.frozen?, hgg]

section
variable {α : Type} {size : Nat} {R : World → List Value → α → Prop} {w w' : World}
theorem flat_len : ∀ (css : List (List Value)), (∀ c ∈ css, c.length = size) → css.flatten.length = css.length * size
  | [], _ => by simp
  | c :: css, h => by
    rw [List.flatten_cons, List.length_append, h c (by simp), flat_len css fun x hx => h x (by simp [hx]), List.length_cons, Nat.succ_mul]; omega
theorem flat_get : ∀ (css : List (List Value)), (∀ c ∈ css, c.length = size) → ∀ i j (hi : i < css.length), j < size → css.flatten[i * size + j]? = css[i][j]?
  | [], _, i, j, hi, _ => by simp at hi
  | c :: css, h, 0, j, _, hj => by
    rw [List.flatten_cons, Nat.zero_mul, Nat.zero_add, List.getElem?_append_left (by rw [h c (by simp)]; exact hj)]; rfl
  | c :: css, h, i + 1, j, hi, hj => by
    have e : (i + 1) * size + j = size + (i * size + j) := by rw [Nat.succ_mul]; omega
    rw [List.flatten_cons, e, List.getElem?_append_right (by rw [h c (by simp)]; omega), h c (by simp), Nat.add_sub_cancel_left]
    exact flat_get css (fun x hx => h x (by simp [hx])) i j (by simpa using hi) hj
def Chunks (w : World) (size : Nat) (R : World → List Value → α → Prop) (css : List (List Value)) (l : List α) : Prop := css.length = l.length ∧ ∀ i (h : i < css.length) (h' : i < l.length), css[i].length = size ∧ R w css[i] l[i]
theorem Chunks.all {css : List (List Value)} {l : List α} (h : Chunks w size R css l) : ∀ c ∈ css, c.length = size := by
  intro c hc
  obtain ⟨i, hi, rfl⟩ := List.getElem_of_mem hc
  exact (h.2 i hi (by rw [← h.1]; exact hi)).1
theorem Chunks.len {css : List (List Value)} {l : List α} (h : Chunks w size R css l) : css.flatten.length = l.length * size := by rw [flat_len css h.all, h.1]
theorem row_slAt {g cap : Nat} {css : List (List Value)} {l : List α} (hr : RowAt w g css.flatten) (hc : Chunks w size R css l) (hcap : l.length ≤ cap) (hs : Small (l.length * 16)) : SlAt w size R (some ⟨g, 0, none⟩) cap l := by
  refine ⟨hcap, hs, fun i hi => ?_⟩
  have hi' : i < css.length := by rw [hc.1]; exact hi
  refine ⟨g, 0, css[i], rfl, hr.1, (hc.2 i hi' hi).1, (hc.2 i hi' hi).2, fun j hj => ?_⟩
  rw [Nat.zero_add, ← flat_get css hc.all i j hi' hj]
  refine hr.2.1 _ ?_
  rw [hc.len]
  have : (i + 1) * size ≤ l.length * size := Nat.mul_le_mul_right _ hi
  rw [Nat.succ_mul] at this; omega
theorem rowV_slAt {base : Nat} {v : Value} {css : List (List Value)} {l : List α} (h : RowV w base v l.length css.flatten) (hc : Chunks w size R css l) (hs : Small (l.length * 16)) : ∃ A cap, v = .slice A l.length cap ∧ SlAt w size R A cap l := by
  obtain ⟨A, cap, e, hcap, hg⟩ := h
  by_cases h0 : 0 < l.length
  · obtain ⟨g, rfl, _, hr⟩ := hg h0
    exact ⟨_, cap, e, row_slAt hr hc hcap hs⟩
  · have : l = [] := List.eq_nil_of_length_eq_zero (by omega)
    subst this
    exact ⟨A, cap, e, hcap, hs, fun i hi => by simp at hi⟩
end
end Go.Proofs.YtbdanlipghhgpaaGreatDoor

namespace Go.Proofs.YtbdanlipghhgpaaGreatDoor
open Go.RowKit
set_option maxRecDepth 100000
set_option linter.unusedVariables false
def SameQ (w : World) (p : Prop) (e : Ending) (w' : World) : Prop := Aft w w' ∧ ∃ r, e = .returned (.bool r) ∧ (r = true ↔ p)
theorem SameQ.no {w w' : World} {p : Prop} (h : ¬ p) (a : Aft w w') : SameQ w p (.returned (.bool false)) w' := ⟨a, false, rfl, fun e => (by cases e), fun e => absurd e h⟩
theorem SameQ.yes {w w' : World} {p : Prop} (h : p) (a : Aft w w') : SameQ w p (.returned (.bool true)) w' := ⟨a, true, rfl, fun _ => h, fun _ => rfl⟩
theorem eqL_iff (a b : ByteArray) : (a.toList == b.toList) = true ↔ a = b := eqS_iffD a b
theorem eqL_no {a b : ByteArray} (h : (a.toList == b.toList) = false) : ¬ a = b := fun e => by rw [(eqL_iff a b).2 e] at h; cases h
theorem eqI_no {a b : Int} (h : (a == b) = false) : ¬ a = b := fun e => by simp [e] at h
theorem eqI_yes {a b : Int} (h : (a == b) = true) : a = b := by simpa using h
theorem eqB_no {a b : Bool} (h : (a == b) = false) : ¬ a = b := fun e => by simp [e] at h
theorem eqB_yes {a b : Bool} (h : (a == b) = true) : a = b := by simpa using h
def eqC3 (n : ByteArray) (k : Int) (b : Bool) (n' : ByteArray) (k' : Int) (b' : Bool) : Bool := eqS n n' && (k == k' && b == b')
theorem run_eqCol (w : World) (n : ByteArray) (k : Int) (b : Bool) (n' : ByteArray) (k' : Int) (b' : Bool) :
    (Op.equalIn 10000 67 (.agg #[.string n, .int .i64 k, .bool b]) (.agg #[.string n', .int .i64 k', .bool b'])).run Tryz.prog w = .ok (eqC3 n k b n' k' b') w := by
  cases h1 : (k == k') <;> cases b <;> cases b' <;> cases h3 : eqS n n' <;> (have h3' := h3; unfold eqS at h3') <;> go_simp <;> simp_all [eqC3]
@[go_sem ↓] theorem run_eqlCol (w : World) (n : ByteArray) (k : Int) (b : Bool) (n' : ByteArray) (k' : Int) (b' : Bool) :
    (binOp .eql 67 (.agg #[.string n, .int .i64 k, .bool b]) (.agg #[.string n', .int .i64 k', .bool b'])).run Tryz.prog w = .ok (.bool (eqC3 n k b n' k' b')) w := by
  rw [run_eql_struct, run_eqCol]; rfl
@[go_sem ↓] theorem run_neqCol (w : World) (n : ByteArray) (k : Int) (b : Bool) (n' : ByteArray) (k' : Int) (b' : Bool) :
    (binOp .neq 67 (.agg #[.string n, .int .i64 k, .bool b]) (.agg #[.string n', .int .i64 k', .bool b'])).run Tryz.prog w = .ok (.bool (!eqC3 n k b n' k' b')) w := by
  rw [run_neq_struct, run_eqCol]; rfl
theorem eqC_iff (c d : Col) : eqC3 c.name c.kind c.null d.name d.kind d.null = true ↔ c = d := by
  obtain ⟨n, k, b⟩ := c
  obtain ⟨n', k', b'⟩ := d
  simp only [eqC3, Bool.and_eq_true, eqS_iffD, beq_iff_eq, Col.mk.injEq]
theorem eqVd_iff (c d : Val) : eqV3 c.kind c.int c.text d.kind d.int d.text = true ↔ c = d := by
  obtain ⟨n, k, b⟩ := c
  obtain ⟨n', k', b'⟩ := d
  simp only [eqV3, Bool.and_eq_true, eqS_iffD, beq_iff_eq, Val.mk.injEq]
theorem list_ne {α : Type} {l m : List α} {k : Nat} (h1 : k < l.length) (h2 : k < m.length) (h : ¬ l[k] = m[k]) : ¬ l = m := fun e => h (by subst e; rfl)
theorem list_eq {α : Type} {l m : List α} (hl : l.length = m.length) (h : ∀ j, j < l.length → ∀ (hj : j < l.length) (hj2 : j < m.length), l[j] = m[j]) : l = m := List.ext_getElem hl fun j h1 h2 => h j h1 h1 h2

set_option maxHeartbeats 8000000 in
theorem samet24 (c1 c2 : List Col) (l1 l2 : List Rul) (A : Option Addr) (cap : Nat) (A2 : Option Addr) (cap2 : Nat) (B : Option Addr) (capB : Nat) (B2 : Option Addr) (capB2 : Nat) (w : World) (h1 : SlAt w 3 ColR A cap c1) (h2 : SlAt w 8 RulR A2 cap2 l1) (h3 : SlAt w 3 ColR B capB c2) (h4 : SlAt w 8 RulR B2 capB2 l2) (hll : l1.length = l2.length) :
    Calls Tryz.prog 22 #[.agg #[.string ⟨#[]⟩, .string ⟨#[]⟩, .string ⟨#[]⟩, .slice A c1.length cap, .slice A2 l1.length cap2], .agg #[.string ⟨#[]⟩, .string ⟨#[]⟩, .string ⟨#[]⟩, .slice B c2.length capB, .slice B2 l2.length capB2]] w (SameQ w (c1 = c2 ∧ l1 = l2)) := by
  have hlen := h1.len
  have hlen2 := h2.len
  have hlen3 := h3.len
  have hlen4 := h4.len
  have hst : ((⟨#[]⟩ : ByteArray).toList == (⟨#[]⟩ : ByteArray).toList) = true := by simp
  have e2 : ((l1.length : Int) != (l2.length : Int)) = false := by simp [hll]
  obtain ⟨W, hW⟩ : ∃ W, W = (w.alloc (.cells #[.string ⟨#[]⟩, .string ⟨#[]⟩, .string ⟨#[]⟩, .slice A c1.length cap, .slice A2 l1.length cap2] 71)).alloc (.cells #[.string ⟨#[]⟩, .string ⟨#[]⟩, .string ⟨#[]⟩, .slice B c2.length capB, .slice B2 l2.length capB2] 71) := ⟨_, rfl⟩
  have aW : Aft w W := by rw [hW]; exact ((Aft.refl w).alloc _).alloc _
  have hbb := aft_box2 (w := w) (w1 := W) (by rw [← hW]; exact Aft.refl W)
  obtain ⟨ha0, hb0, hz, _⟩ := hbb
  have HAW := Lib.hid aW
  have HLL := Lib.hid hll
  by_cases hl : c1.length = c2.length
  · have e1 : ((c1.length : Int) != (c2.length : Int)) = false := by simp [hl]
    have HL := Lib.hid hl
    clear hl hll
    go_enter Tryz.func22, Tryz.ntmps22
    go_upto_region 1 with fail
    rw [← hW]
    clear hW
    have x0 : W.cell? ⟨w.heap.size, 0, none⟩ = some (.string ⟨#[]⟩) := ha0 0
    have x1 : W.cell? ⟨w.heap.size, 1, none⟩ = some (.string ⟨#[]⟩) := ha0 1
    have x2 : W.cell? ⟨w.heap.size, 2, none⟩ = some (.string ⟨#[]⟩) := ha0 2
    have x3 : W.cell? ⟨w.heap.size, 3, none⟩ = some (.slice A c1.length cap) := ha0 3
    have x4 : W.cell? ⟨w.heap.size, 4, none⟩ = some (.slice A2 l1.length cap2) := ha0 4
    have y0 : W.cell? ⟨w.heap.size + 1, 0, none⟩ = some (.string ⟨#[]⟩) := hb0 0
    have y1 : W.cell? ⟨w.heap.size + 1, 1, none⟩ = some (.string ⟨#[]⟩) := hb0 1
    have y2 : W.cell? ⟨w.heap.size + 1, 2, none⟩ = some (.string ⟨#[]⟩) := hb0 2
    have y3 : W.cell? ⟨w.heap.size + 1, 3, none⟩ = some (.slice B c2.length capB) := hb0 3
    have y4 : W.cell? ⟨w.heap.size + 1, 4, none⟩ = some (.slice B2 l2.length capB2) := hb0 4
    clear ha0 hb0
    go_wp2_with fail
    go_loopw [5] (fun i wr => ∃ k : Nat, k ≤ c1.length ∧ i = .int .i64 k ∧ Aft W wr ∧ ∀ j, j < k → ∀ (hj : j < c1.length) (hj2 : j < c2.length), c1[j] = c2[j]) (fun i _ => c1.length - (intOf i).toNat)
    case atStart => exact ⟨0, Nat.zero_le _, rfl, Aft.refl _, fun j hj => absurd hj (Nat.not_lt_zero j)⟩
    case round =>
      obtain ⟨k, hk, rfl, ha, hp⟩ := hrel
      have HP := Lib.hid hp; clear hp
      have x3' := ha.cell_kept x3
      have y3' := ha.cell_kept y3
      have HAR := Lib.hid ha
      by_cases hlt : k < c1.length
      · have hlt2 : k < c2.length := by have := HL.out; omega
        obtain ⟨b, off, hAe, hb, g0, g1, g2, _⟩ := col_at (cols_aft (HAW.out.trans ha) h1) hlt
        obtain ⟨b2, off2, hBe, hb2, d0, d1, d2, _⟩ := col_at (cols_aft (HAW.out.trans ha) h3) hlt2
        subst hAe
        subst hBe
        have lx := World.block_lt_of_cell? _ _ x3'
        have ly := World.block_lt_of_cell? _ _ y3'
        clear ha
        cases h9 : eqC3 c1[k].name c1[k].kind c1[k].null c2[k].name c2[k].kind c2[k].null
        · have HN := Lib.hid (show ¬ (c1 = c2 ∧ l1 = l2) from fun e => list_ne hlt hlt2 (fun e => by rw [(eqC_iff c1[k] c2[k]).2 e] at h9; cases h9) e.1)
          go_wp2_with fail
          refine wp_region_lat (by kernel_rfl) (by kernel_rfl) ?_
          repeat (go_big_quiet_step (fail))
          refine wpQuiet_nil ?_
          intro _ hw'
          obtain ⟨x, hw''⟩ := hw'
          subst hw''
          go_wp2_with fail
          go_ret
          exact .no HN.out (HAW.out.trans (HAR.out.lat x))
        · have HN := Lib.hid (ext_lt (p := fun j => ∀ (hj : j < c1.length) (hj2 : j < c2.length), c1[j] = c2[j]) HP.out (fun _ _ => (eqC_iff c1[k] c2[k]).1 h9))
          go_wp2_with fail
          refine wp_region_lat (by kernel_rfl) (by kernel_rfl) ?_
          repeat (go_big_quiet_step (fail))
          refine wpQuiet_nil ?_
          intro _ hw'
          obtain ⟨x, hw''⟩ := hw'
          subst hw''
          go_wp2_with fail
          go_roundw
          case rel => exact ⟨k + 1, by omega, by go_num, HAR.out.lat x, HN.out⟩
          case measure => simp [intOf]; omega
      have HC := Lib.hid (show c1 = c2 from list_eq HL.out fun j hj _ hj2 => HP.out j (by omega) hj hj2)
      go_wp2_with fail
      go_loopw [6] (fun i wrr => ∃ k : Nat, k ≤ l1.length ∧ i = .int .i64 k ∧ Aft W wrr ∧ ∀ j, j < k → ∀ (hj : j < l1.length) (hj2 : j < l2.length), l1[j] = l2[j]) (fun i _ => l1.length - (intOf i).toNat)
      case atStart => exact ⟨0, Nat.zero_le _, rfl, ha, fun j hj => absurd hj (Nat.not_lt_zero j)⟩
      case round =>
        clear ha HAR x3' y3'
        obtain ⟨k2, hk2, rfl, ha, hp2⟩ := hrel
        have HP2 := Lib.hid hp2; clear hp2
        have x4' := ha.cell_kept x4
        have y4' := ha.cell_kept y4
        have HAR := Lib.hid ha
        by_cases hlt2 : k2 < l1.length
        · have hlt5 : k2 < l2.length := by have := HLL.out; omega
          obtain ⟨b, off, D, capD, hA2, hb, g0, g1, g2, g3, g4, g5, g6, g7, hcs, _⟩ := rul_at (ruls_aft (HAW.out.trans ha) h2) hlt2
          obtain ⟨b2, off2, E, capE, hB2, hb2, d0, d1, d2, d3, d4, d5, d6, d7, hds, _⟩ := rul_at (ruls_aft (HAW.out.trans ha) h4) hlt5
          subst hA2
          subst hB2
          obtain ⟨p, hpp⟩ : ∃ p, l1[k2] = p := ⟨_, rfl⟩
          obtain ⟨q, hqq⟩ : ∃ q, l2[k2] = q := ⟨_, rfl⟩
          have hpe : l1 = l2 → p = q := fun e => by subst e; rw [← hpp, ← hqq]
          rw [hpp] at g0 g1 g2 g3 g4 g5 g6 g7 hcs
          rw [hqq] at d0 d1 d2 d3 d4 d5 d6 d7 hds
          have hlp := hcs.len
          have hlq := hds.len
          have lx : w.heap.size < wr.heap.size := World.block_lt_of_cell? _ _ x4'
          have ly : w.heap.size + 1 < wr.heap.size := World.block_lt_of_cell? _ _ y4'
          have lyy : w.heap.size + 1 < wr.heap.size + 1 := by omega
          have lb2 : b2 < wr.heap.size + 1 := by omega
          obtain ⟨V, hV⟩ : ∃ V, V = (wr.alloc (.cells #[.string p.name, .int .i64 p.kind, .slice D p.cols.length capD, .int .i64 p.low, .int .i64 p.high, .string p.schema, .string p.table, .string p.key] 28)).alloc (.cells #[.string q.name, .int .i64 q.kind, .slice E q.cols.length capE, .int .i64 q.low, .int .i64 q.high, .string q.schema, .string q.table, .string q.key] 28) := ⟨_, rfl⟩
          have aV : Aft wr V := by rw [hV]; exact ((Aft.refl wr).alloc _).alloc _
          obtain ⟨va0, vb0, vz, _⟩ := aft_box2 (w := wr) (w1 := V) (by rw [← hV]; exact Aft.refl V)
          have HRV := Lib.hid (HAR.out.trans aV)
          have HAV := Lib.hid (HAW.out.trans (HAR.out.trans aV))
          have hcsV := strs_aft aV hcs
          have hdsV := strs_aft aV hds
          obtain ⟨n1, hn1⟩ : ∃ n, n = wr.heap.size := ⟨_, rfl⟩
          have l1' : wr.heap.size < wr.heap.size + 1 := by omega
          have l2' : wr.heap.size < wr.heap.size + 1 + 1 := by omega
          clear aV
          go_upto_region 13 with fail
          rw [← hV]
          clear hV g0 g1 g2 g3 g4 g5 g6 g7 d0 d1 d2 d3 d4 d5 d6 d7 x4' y4' hcs hds
          have z0 : V.cell? ⟨wr.heap.size, 0, none⟩ = some (.string p.name) := va0 0
          have z1 : V.cell? ⟨wr.heap.size, 1, none⟩ = some (.int .i64 p.kind) := va0 1
          have z2 : V.cell? ⟨wr.heap.size, 2, none⟩ = some (.slice D p.cols.length capD) := va0 2
          have z3 : V.cell? ⟨wr.heap.size, 3, none⟩ = some (.int .i64 p.low) := va0 3
          have z4 : V.cell? ⟨wr.heap.size, 4, none⟩ = some (.int .i64 p.high) := va0 4
          have z5 : V.cell? ⟨wr.heap.size, 5, none⟩ = some (.string p.schema) := va0 5
          have z6 : V.cell? ⟨wr.heap.size, 6, none⟩ = some (.string p.table) := va0 6
          have z7 : V.cell? ⟨wr.heap.size, 7, none⟩ = some (.string p.key) := va0 7
          have u0 : V.cell? ⟨wr.heap.size + 1, 0, none⟩ = some (.string q.name) := vb0 0
          have u1 : V.cell? ⟨wr.heap.size + 1, 1, none⟩ = some (.int .i64 q.kind) := vb0 1
          have u2 : V.cell? ⟨wr.heap.size + 1, 2, none⟩ = some (.slice E q.cols.length capE) := vb0 2
          have u3 : V.cell? ⟨wr.heap.size + 1, 3, none⟩ = some (.int .i64 q.low) := vb0 3
          have u4 : V.cell? ⟨wr.heap.size + 1, 4, none⟩ = some (.int .i64 q.high) := vb0 4
          have u5 : V.cell? ⟨wr.heap.size + 1, 5, none⟩ = some (.string q.schema) := vb0 5
          have u6 : V.cell? ⟨wr.heap.size + 1, 6, none⟩ = some (.string q.table) := vb0 6
          have u7 : V.cell? ⟨wr.heap.size + 1, 7, none⟩ = some (.string q.key) := vb0 7
          rw [← hn1] at z0 z1 z2 z3 z4 z5 z6 z7 u0 u1 u2 u3 u4 u5 u6 u7 ⊢
          clear va0 vb0 vz hn1 ha
          cases b0 : (p.name.toList == q.name.toList)
          · have HN := Lib.hid (show ¬ (c1 = c2 ∧ l1 = l2) from fun e => eqL_no b0 (by rw [hpe e.2]))
            go_wp2_with fail
            go_ret
            exact .no HN.out (HAV.out)
          · cases b1 : (p.kind == q.kind)
            · have HN := Lib.hid (show ¬ (c1 = c2 ∧ l1 = l2) from fun e => eqI_no b1 (by rw [hpe e.2]))
              have b1x : (p.kind != q.kind) = true := by simp [bne, b1]
              go_wp2_with fail
              go_ret
              exact .no HN.out (HAV.out)
            · have b1x : (p.kind != q.kind) = false := by simp [bne, b1]
              cases b2 : (p.low == q.low)
              · have HN := Lib.hid (show ¬ (c1 = c2 ∧ l1 = l2) from fun e => eqI_no b2 (by rw [hpe e.2]))
                have b2x : (p.low != q.low) = true := by simp [bne, b2]
                go_wp2_with fail
                go_ret
                exact .no HN.out (HAV.out)
              · have b2x : (p.low != q.low) = false := by simp [bne, b2]
                cases b3 : (p.high == q.high)
                · have HN := Lib.hid (show ¬ (c1 = c2 ∧ l1 = l2) from fun e => eqI_no b3 (by rw [hpe e.2]))
                  have b3x : (p.high != q.high) = true := by simp [bne, b3]
                  go_wp2_with fail
                  go_ret
                  exact .no HN.out (HAV.out)
                · have b3x : (p.high != q.high) = false := by simp [bne, b3]
                  cases b4 : (p.schema.toList == q.schema.toList)
                  · have HN := Lib.hid (show ¬ (c1 = c2 ∧ l1 = l2) from fun e => eqL_no b4 (by rw [hpe e.2]))
                    go_wp2_with fail
                    go_ret
                    exact .no HN.out (HAV.out)
                  · cases b5 : (p.table.toList == q.table.toList)
                    · have HN := Lib.hid (show ¬ (c1 = c2 ∧ l1 = l2) from fun e => eqL_no b5 (by rw [hpe e.2]))
                      go_wp2_with fail
                      go_ret
                      exact .no HN.out (HAV.out)
                    · cases b6 : (p.key.toList == q.key.toList)
                      · have HN := Lib.hid (show ¬ (c1 = c2 ∧ l1 = l2) from fun e => eqL_no b6 (by rw [hpe e.2]))
                        go_wp2_with fail
                        go_ret
                        exact .no HN.out (HAV.out)
                      · by_cases hcl : p.cols.length = q.cols.length
                        · have e5 : ((p.cols.length : Int) != (q.cols.length : Int)) = false := by simp [hcl]
                          have HPQ := Lib.hid (show p.cols = q.cols → p = q from fun e => by
                            obtain ⟨pn, pk, pc, pl, ph, ps, pt, py⟩ := p
                            obtain ⟨qn, qk, qc, ql, qh, qs, qt, qy⟩ := q
                            simp only at b0 b1 b2 b3 b4 b5 b6 e
                            simp only [Rul.mk.injEq]
                            exact ⟨(eqL_iff _ _).1 b0, eqI_yes b1, e, eqI_yes b2, eqI_yes b3, (eqL_iff _ _).1 b4, (eqL_iff _ _).1 b5, (eqL_iff _ _).1 b6⟩)
                          have HCL := Lib.hid hcl
                          clear hcl
                          go_wp2_with fail
                          go_loopw [9] (fun i wrr => ∃ k : Nat, k ≤ p.cols.length ∧ i = .int .i64 k ∧ Aft V wrr ∧ ∀ j, j < k → ∀ (hj : j < p.cols.length) (hj2 : j < q.cols.length), p.cols[j] = q.cols[j]) (fun i _ => p.cols.length - (intOf i).toNat)
                          case atStart => exact ⟨0, Nat.zero_le _, rfl, Aft.refl _, fun j hj => absurd hj (Nat.not_lt_zero j)⟩
                          case round =>
                            obtain ⟨k3, hk3, rfl, ha, hp3⟩ := hrel
                            have HA3 := Lib.hid ha
                            have HP3 := Lib.hid hp3; clear hp3
                            have z2' := ha.cell_kept z2
                            have u2' := ha.cell_kept u2
                            by_cases hlt3 : k3 < p.cols.length
                            · have hlt4 : k3 < q.cols.length := by have := HCL.out; omega
                              obtain ⟨b5', off5, hD, hb5, g5, _⟩ := str_at (strs_aft ha hcsV) hlt3
                              subst hD
                              obtain ⟨b6', off6, hE, hb6, g6, _⟩ := str_at (strs_aft ha hdsV) hlt4
                              subst hE
                              have lz := World.block_lt_of_cell? _ _ z2'
                              have lu := World.block_lt_of_cell? _ _ u2'
                              clear ha
                              cases h9 : (p.cols[k3].toList == q.cols[k3].toList)
                              · have HN := Lib.hid (show ¬ (c1 = c2 ∧ l1 = l2) from fun e => list_ne hlt3 hlt4 (eqL_no h9) (by rw [hpe e.2]))
                                go_wp2_with fail
                                refine wp_region_lat (by kernel_rfl) (by kernel_rfl) ?_
                                repeat (go_big_quiet_step (fail))
                                refine wpQuiet_nil ?_
                                intro _ hw'
                                obtain ⟨x, hw''⟩ := hw'
                                subst hw''
                                go_wp2_with fail
                                go_ret
                                exact .no HN.out (HAV.out.trans (HA3.out.lat x))
                              · have HN := Lib.hid (ext_lt (p := fun j => ∀ (hj : j < p.cols.length) (hj2 : j < q.cols.length), p.cols[j] = q.cols[j]) HP3.out (fun _ _ => (eqL_iff _ _).1 h9))
                                go_wp2_with fail
                                refine wp_region_lat (by kernel_rfl) (by kernel_rfl) ?_
                                repeat (go_big_quiet_step (fail))
                                refine wpQuiet_nil ?_
                                intro _ hw'
                                obtain ⟨x, hw''⟩ := hw'
                                subst hw''
                                go_wp2_with fail
                                go_roundw
                                case rel => exact ⟨k3 + 1, by omega, by go_num, HA3.out.lat x, HN.out⟩
                                case measure => simp [intOf]; omega
                            · have HN := Lib.hid (HPQ.out (list_eq HCL.out fun j hj _ hj2 => HP3.out j (by omega) hj hj2))
                              have HE := Lib.hid (ext_lt (p := fun j => ∀ (hj : j < l1.length) (hj2 : j < l2.length), l1[j] = l2[j]) HP2.out (fun _ _ => by rw [hpp, hqq]; exact HN.out))
                              clear ha
                              go_wp2_with fail
                              go_roundw
                              case rel => exact ⟨k2 + 1, by omega, by go_num, HRV.out.trans HA3.out, HE.out⟩
                              case measure => simp [intOf]; omega
                        · have e5 : ((p.cols.length : Int) != (q.cols.length : Int)) = true := by simp; omega
                          have HN := Lib.hid (show ¬ (c1 = c2 ∧ l1 = l2) from fun e => hcl (by rw [hpe e.2]))
                          go_wp2_with fail
                          go_ret
                          exact .no HN.out HAV.out
        · have HN := Lib.hid (show c1 = c2 ∧ l1 = l2 from ⟨HC.out, list_eq HLL.out fun j hj _ hj2 => HP2.out j (by omega) hj hj2⟩)
          clear ha
          go_wp2_with fail
          go_ret
          exact .yes HN.out (HAW.out.trans HAR.out)
  · have e1 : ((c1.length : Int) != (c2.length : Int)) = true := by simp; omega
    have HN := Lib.hid (show ¬ (c1 = c2 ∧ l1 = l2) from fun e => hl (by rw [e.1]))
    clear hl hll
    go_enter Tryz.func22, Tryz.ntmps22
    go_upto_region 1 with fail
    rw [← hW]
    clear hW
    have x0 : W.cell? ⟨w.heap.size, 0, none⟩ = some (.string ⟨#[]⟩) := ha0 0
    have x1 : W.cell? ⟨w.heap.size, 1, none⟩ = some (.string ⟨#[]⟩) := ha0 1
    have x2 : W.cell? ⟨w.heap.size, 2, none⟩ = some (.string ⟨#[]⟩) := ha0 2
    have x3 : W.cell? ⟨w.heap.size, 3, none⟩ = some (.slice A c1.length cap) := ha0 3
    have y0 : W.cell? ⟨w.heap.size + 1, 0, none⟩ = some (.string ⟨#[]⟩) := hb0 0
    have y1 : W.cell? ⟨w.heap.size + 1, 1, none⟩ = some (.string ⟨#[]⟩) := hb0 1
    have y2 : W.cell? ⟨w.heap.size + 1, 2, none⟩ = some (.string ⟨#[]⟩) := hb0 2
    have y3 : W.cell? ⟨w.heap.size + 1, 3, none⟩ = some (.slice B c2.length capB) := hb0 3
    clear ha0 hb0
    go_wp2_with fail
    go_ret
    exact .no HN.out HAW.out
end Go.Proofs.YtbdanlipghhgpaaGreatDoor

namespace Go.Proofs.YtbdanlipghhgpaaGreatDoor
open Go.RowKit
def lvAct (a : Addr) : Sem Value := loadVar 43 a
@[go_sem ↓] theorem lvAct_eq (a : Addr) : loadVar 43 a = lvAct a := rfl
@[go_sem] theorem run_lvAct (w : World) (b o : Nat) (h0 : (w.cell? ⟨b, o, none⟩).isSome = true) (h1 : (w.cell? ⟨b, o + 1, none⟩).isSome = true) (h2 : (w.cell? ⟨b, o + 2, none⟩).isSome = true) (h3 : (w.cell? ⟨b, o + 3, none⟩).isSome = true) (h4 : (w.cell? ⟨b, o + 4, none⟩).isSome = true) (h5 : (w.cell? ⟨b, o + 5, none⟩).isSome = true) (h6 : (w.cell? ⟨b, o + 6, none⟩).isSome = true) (h7 : (w.cell? ⟨b, o + 7, none⟩).isSome = true) (h8 : (w.cell? ⟨b, o + 8, none⟩).isSome = true) (h9 : (w.cell? ⟨b, o + 9, none⟩).isSome = true) (h10 : (w.cell? ⟨b, o + 10, none⟩).isSome = true) (h11 : (w.cell? ⟨b, o + 11, none⟩).isSome = true) (h12 : (w.cell? ⟨b, o + 12, none⟩).isSome = true) (h13 : (w.cell? ⟨b, o + 13, none⟩).isSome = true) (h14 : (w.cell? ⟨b, o + 14, none⟩).isSome = true) (h15 : (w.cell? ⟨b, o + 15, none⟩).isSome = true) (h16 : (w.cell? ⟨b, o + 16, none⟩).isSome = true) (h17 : (w.cell? ⟨b, o + 17, none⟩).isSome = true) (h18 : (w.cell? ⟨b, o + 18, none⟩).isSome = true) (h19 : (w.cell? ⟨b, o + 19, none⟩).isSome = true) (h20 : (w.cell? ⟨b, o + 20, none⟩).isSome = true) (h21 : (w.cell? ⟨b, o + 21, none⟩).isSome = true) (h22 : (w.cell? ⟨b, o + 22, none⟩).isSome = true) (h23 : (w.cell? ⟨b, o + 23, none⟩).isSome = true) (h24 : (w.cell? ⟨b, o + 24, none⟩).isSome = true) (h25 : (w.cell? ⟨b, o + 25, none⟩).isSome = true) (h26 : (w.cell? ⟨b, o + 26, none⟩).isSome = true) (h27 : (w.cell? ⟨b, o + 27, none⟩).isSome = true) (h28 : (w.cell? ⟨b, o + 28, none⟩).isSome = true) (h29 : (w.cell? ⟨b, o + 29, none⟩).isSome = true) (h30 : (w.cell? ⟨b, o + 30, none⟩).isSome = true) (h31 : (w.cell? ⟨b, o + 31, none⟩).isSome = true) (h32 : (w.cell? ⟨b, o + 32, none⟩).isSome = true) : (lvAct ⟨b, o, none⟩).run Tryz.prog w = .ok (.agg #[(w.cell? ⟨b, o, none⟩).getD undef, (w.cell? ⟨b, o + 1, none⟩).getD undef, (w.cell? ⟨b, o + 2, none⟩).getD undef, (w.cell? ⟨b, o + 3, none⟩).getD undef, (w.cell? ⟨b, o + 4, none⟩).getD undef, (w.cell? ⟨b, o + 5, none⟩).getD undef, (w.cell? ⟨b, o + 6, none⟩).getD undef, (w.cell? ⟨b, o + 7, none⟩).getD undef, (w.cell? ⟨b, o + 8, none⟩).getD undef, (w.cell? ⟨b, o + 9, none⟩).getD undef, (w.cell? ⟨b, o + 10, none⟩).getD undef, (w.cell? ⟨b, o + 11, none⟩).getD undef, (w.cell? ⟨b, o + 12, none⟩).getD undef, (w.cell? ⟨b, o + 13, none⟩).getD undef, (w.cell? ⟨b, o + 14, none⟩).getD undef, (w.cell? ⟨b, o + 15, none⟩).getD undef, (w.cell? ⟨b, o + 16, none⟩).getD undef, (w.cell? ⟨b, o + 17, none⟩).getD undef, (w.cell? ⟨b, o + 18, none⟩).getD undef, (w.cell? ⟨b, o + 19, none⟩).getD undef, (w.cell? ⟨b, o + 20, none⟩).getD undef, (w.cell? ⟨b, o + 21, none⟩).getD undef, (w.cell? ⟨b, o + 22, none⟩).getD undef, (w.cell? ⟨b, o + 23, none⟩).getD undef, (w.cell? ⟨b, o + 24, none⟩).getD undef, (w.cell? ⟨b, o + 25, none⟩).getD undef, (w.cell? ⟨b, o + 26, none⟩).getD undef, (w.cell? ⟨b, o + 27, none⟩).getD undef, (w.cell? ⟨b, o + 28, none⟩).getD undef, (w.cell? ⟨b, o + 29, none⟩).getD undef, (w.cell? ⟨b, o + 30, none⟩).getD undef, (w.cell? ⟨b, o + 31, none⟩).getD undef, (w.cell? ⟨b, o + 32, none⟩).getD undef]) w := run_lv (P := Tryz.prog) w 43 _ 33 b o Tryz.underlying43 rfl (by kernel_rfl) (forall_lt_succ _ _ (forall_lt_succ _ _ (forall_lt_succ _ _ (forall_lt_succ _ _ (forall_lt_succ _ _ (forall_lt_succ _ _ (forall_lt_succ _ _ (forall_lt_succ _ _ (forall_lt_succ _ _ (forall_lt_succ _ _ (forall_lt_succ _ _ (forall_lt_succ _ _ (forall_lt_succ _ _ (forall_lt_succ _ _ (forall_lt_succ _ _ (forall_lt_succ _ _ (forall_lt_succ _ _ (forall_lt_succ _ _ (forall_lt_succ _ _ (forall_lt_succ _ _ (forall_lt_succ _ _ (forall_lt_succ _ _ (forall_lt_succ _ _ (forall_lt_succ _ _ (forall_lt_succ _ _ (forall_lt_succ _ _ (forall_lt_succ _ _ (forall_lt_succ _ _ (forall_lt_succ _ _ (forall_lt_succ _ _ (forall_lt_succ _ _ (forall_lt_succ _ _ (forall_lt_succ _ _ (fun j hj => absurd hj (Nat.not_lt_zero j)) h0) h1) h2) h3) h4) h5) h6) h7) h8) h9) h10) h11) h12) h13) h14) h15) h16) h17) h18) h19) h20) h21) h22) h23) h24) h25) h26) h27) h28) h29) h30) h31) h32)
def svAct (a : Addr) (v : Value) : Sem Unit := storeVar 43 a v
@[go_sem ↓] theorem svAct_eq (a : Addr) (v : Value) : storeVar 43 a v = svAct a v := rfl
@[go_sem] theorem run_svAct (w : World) (b o : Nat) (v0 v1 v2 v3 v4 v5 v6 v7 v8 v9 v10 v11 v12 v13 v14 v15 v16 v17 v18 v19 v20 v21 v22 v23 v24 v25 v26 v27 v28 v29 v30 v31 v32 : Value) (h0 : (w.cell? ⟨b, o, none⟩).isSome = true) (h1 : (w.cell? ⟨b, o + 1, none⟩).isSome = true) (h2 : (w.cell? ⟨b, o + 2, none⟩).isSome = true) (h3 : (w.cell? ⟨b, o + 3, none⟩).isSome = true) (h4 : (w.cell? ⟨b, o + 4, none⟩).isSome = true) (h5 : (w.cell? ⟨b, o + 5, none⟩).isSome = true) (h6 : (w.cell? ⟨b, o + 6, none⟩).isSome = true) (h7 : (w.cell? ⟨b, o + 7, none⟩).isSome = true) (h8 : (w.cell? ⟨b, o + 8, none⟩).isSome = true) (h9 : (w.cell? ⟨b, o + 9, none⟩).isSome = true) (h10 : (w.cell? ⟨b, o + 10, none⟩).isSome = true) (h11 : (w.cell? ⟨b, o + 11, none⟩).isSome = true) (h12 : (w.cell? ⟨b, o + 12, none⟩).isSome = true) (h13 : (w.cell? ⟨b, o + 13, none⟩).isSome = true) (h14 : (w.cell? ⟨b, o + 14, none⟩).isSome = true) (h15 : (w.cell? ⟨b, o + 15, none⟩).isSome = true) (h16 : (w.cell? ⟨b, o + 16, none⟩).isSome = true) (h17 : (w.cell? ⟨b, o + 17, none⟩).isSome = true) (h18 : (w.cell? ⟨b, o + 18, none⟩).isSome = true) (h19 : (w.cell? ⟨b, o + 19, none⟩).isSome = true) (h20 : (w.cell? ⟨b, o + 20, none⟩).isSome = true) (h21 : (w.cell? ⟨b, o + 21, none⟩).isSome = true) (h22 : (w.cell? ⟨b, o + 22, none⟩).isSome = true) (h23 : (w.cell? ⟨b, o + 23, none⟩).isSome = true) (h24 : (w.cell? ⟨b, o + 24, none⟩).isSome = true) (h25 : (w.cell? ⟨b, o + 25, none⟩).isSome = true) (h26 : (w.cell? ⟨b, o + 26, none⟩).isSome = true) (h27 : (w.cell? ⟨b, o + 27, none⟩).isSome = true) (h28 : (w.cell? ⟨b, o + 28, none⟩).isSome = true) (h29 : (w.cell? ⟨b, o + 29, none⟩).isSome = true) (h30 : (w.cell? ⟨b, o + 30, none⟩).isSome = true) (h31 : (w.cell? ⟨b, o + 31, none⟩).isSome = true) (h32 : (w.cell? ⟨b, o + 32, none⟩).isSome = true) (f0 : w.frozen? ⟨b, o, none⟩ = false) (f1 : w.frozen? ⟨b, o + 1, none⟩ = false) (f2 : w.frozen? ⟨b, o + 2, none⟩ = false) (f3 : w.frozen? ⟨b, o + 3, none⟩ = false) (f4 : w.frozen? ⟨b, o + 4, none⟩ = false) (f5 : w.frozen? ⟨b, o + 5, none⟩ = false) (f6 : w.frozen? ⟨b, o + 6, none⟩ = false) (f7 : w.frozen? ⟨b, o + 7, none⟩ = false) (f8 : w.frozen? ⟨b, o + 8, none⟩ = false) (f9 : w.frozen? ⟨b, o + 9, none⟩ = false) (f10 : w.frozen? ⟨b, o + 10, none⟩ = false) (f11 : w.frozen? ⟨b, o + 11, none⟩ = false) (f12 : w.frozen? ⟨b, o + 12, none⟩ = false) (f13 : w.frozen? ⟨b, o + 13, none⟩ = false) (f14 : w.frozen? ⟨b, o + 14, none⟩ = false) (f15 : w.frozen? ⟨b, o + 15, none⟩ = false) (f16 : w.frozen? ⟨b, o + 16, none⟩ = false) (f17 : w.frozen? ⟨b, o + 17, none⟩ = false) (f18 : w.frozen? ⟨b, o + 18, none⟩ = false) (f19 : w.frozen? ⟨b, o + 19, none⟩ = false) (f20 : w.frozen? ⟨b, o + 20, none⟩ = false) (f21 : w.frozen? ⟨b, o + 21, none⟩ = false) (f22 : w.frozen? ⟨b, o + 22, none⟩ = false) (f23 : w.frozen? ⟨b, o + 23, none⟩ = false) (f24 : w.frozen? ⟨b, o + 24, none⟩ = false) (f25 : w.frozen? ⟨b, o + 25, none⟩ = false) (f26 : w.frozen? ⟨b, o + 26, none⟩ = false) (f27 : w.frozen? ⟨b, o + 27, none⟩ = false) (f28 : w.frozen? ⟨b, o + 28, none⟩ = false) (f29 : w.frozen? ⟨b, o + 29, none⟩ = false) (f30 : w.frozen? ⟨b, o + 30, none⟩ = false) (f31 : w.frozen? ⟨b, o + 31, none⟩ = false) (f32 : w.frozen? ⟨b, o + 32, none⟩ = false) (o0 : v0.oneCell' = true) (o1 : v1.oneCell' = true) (o2 : v2.oneCell' = true) (o3 : v3.oneCell' = true) (o4 : v4.oneCell' = true) (o5 : v5.oneCell' = true) (o6 : v6.oneCell' = true) (o7 : v7.oneCell' = true) (o8 : v8.oneCell' = true) (o9 : v9.oneCell' = true) (o10 : v10.oneCell' = true) (o11 : v11.oneCell' = true) (o12 : v12.oneCell' = true) (o13 : v13.oneCell' = true) (o14 : v14.oneCell' = true) (o15 : v15.oneCell' = true) (o16 : v16.oneCell' = true) (o17 : v17.oneCell' = true) (o18 : v18.oneCell' = true) (o19 : v19.oneCell' = true) (o20 : v20.oneCell' = true) (o21 : v21.oneCell' = true) (o22 : v22.oneCell' = true) (o23 : v23.oneCell' = true) (o24 : v24.oneCell' = true) (o25 : v25.oneCell' = true) (o26 : v26.oneCell' = true) (o27 : v27.oneCell' = true) (o28 : v28.oneCell' = true) (o29 : v29.oneCell' = true) (o30 : v30.oneCell' = true) (o31 : v31.oneCell' = true) (o32 : v32.oneCell' = true) : (svAct ⟨b, o, none⟩ (.agg #[v0, v1, v2, v3, v4, v5, v6, v7, v8, v9, v10, v11, v12, v13, v14, v15, v16, v17, v18, v19, v20, v21, v22, v23, v24, v25, v26, v27, v28, v29, v30, v31, v32])).run Tryz.prog w = .ok () (((((((((((((((((((((((((((((((((w.setCell ⟨b, o, none⟩ v0).setCell ⟨b, o + 1, none⟩ v1).setCell ⟨b, o + 2, none⟩ v2).setCell ⟨b, o + 3, none⟩ v3).setCell ⟨b, o + 4, none⟩ v4).setCell ⟨b, o + 5, none⟩ v5).setCell ⟨b, o + 6, none⟩ v6).setCell ⟨b, o + 7, none⟩ v7).setCell ⟨b, o + 8, none⟩ v8).setCell ⟨b, o + 9, none⟩ v9).setCell ⟨b, o + 10, none⟩ v10).setCell ⟨b, o + 11, none⟩ v11).setCell ⟨b, o + 12, none⟩ v12).setCell ⟨b, o + 13, none⟩ v13).setCell ⟨b, o + 14, none⟩ v14).setCell ⟨b, o + 15, none⟩ v15).setCell ⟨b, o + 16, none⟩ v16).setCell ⟨b, o + 17, none⟩ v17).setCell ⟨b, o + 18, none⟩ v18).setCell ⟨b, o + 19, none⟩ v19).setCell ⟨b, o + 20, none⟩ v20).setCell ⟨b, o + 21, none⟩ v21).setCell ⟨b, o + 22, none⟩ v22).setCell ⟨b, o + 23, none⟩ v23).setCell ⟨b, o + 24, none⟩ v24).setCell ⟨b, o + 25, none⟩ v25).setCell ⟨b, o + 26, none⟩ v26).setCell ⟨b, o + 27, none⟩ v27).setCell ⟨b, o + 28, none⟩ v28).setCell ⟨b, o + 29, none⟩ v29).setCell ⟨b, o + 30, none⟩ v30).setCell ⟨b, o + 31, none⟩ v31).setCell ⟨b, o + 32, none⟩ v32) := run_sv (P := Tryz.prog) w 43 b o [v0, v1, v2, v3, v4, v5, v6, v7, v8, v9, v10, v11, v12, v13, v14, v15, v16, v17, v18, v19, v20, v21, v22, v23, v24, v25, v26, v27, v28, v29, v30, v31, v32] (by kernel_rfl) (forall_lt_succ _ _ (forall_lt_succ _ _ (forall_lt_succ _ _ (forall_lt_succ _ _ (forall_lt_succ _ _ (forall_lt_succ _ _ (forall_lt_succ _ _ (forall_lt_succ _ _ (forall_lt_succ _ _ (forall_lt_succ _ _ (forall_lt_succ _ _ (forall_lt_succ _ _ (forall_lt_succ _ _ (forall_lt_succ _ _ (forall_lt_succ _ _ (forall_lt_succ _ _ (forall_lt_succ _ _ (forall_lt_succ _ _ (forall_lt_succ _ _ (forall_lt_succ _ _ (forall_lt_succ _ _ (forall_lt_succ _ _ (forall_lt_succ _ _ (forall_lt_succ _ _ (forall_lt_succ _ _ (forall_lt_succ _ _ (forall_lt_succ _ _ (forall_lt_succ _ _ (forall_lt_succ _ _ (forall_lt_succ _ _ (forall_lt_succ _ _ (forall_lt_succ _ _ (forall_lt_succ _ _ (fun j hj => absurd hj (Nat.not_lt_zero j)) ⟨h0, f0, o0⟩) ⟨h1, f1, o1⟩) ⟨h2, f2, o2⟩) ⟨h3, f3, o3⟩) ⟨h4, f4, o4⟩) ⟨h5, f5, o5⟩) ⟨h6, f6, o6⟩) ⟨h7, f7, o7⟩) ⟨h8, f8, o8⟩) ⟨h9, f9, o9⟩) ⟨h10, f10, o10⟩) ⟨h11, f11, o11⟩) ⟨h12, f12, o12⟩) ⟨h13, f13, o13⟩) ⟨h14, f14, o14⟩) ⟨h15, f15, o15⟩) ⟨h16, f16, o16⟩) ⟨h17, f17, o17⟩) ⟨h18, f18, o18⟩) ⟨h19, f19, o19⟩) ⟨h20, f20, o20⟩) ⟨h21, f21, o21⟩) ⟨h22, f22, o22⟩) ⟨h23, f23, o23⟩) ⟨h24, f24, o24⟩) ⟨h25, f25, o25⟩) ⟨h26, f26, o26⟩) ⟨h27, f27, o27⟩) ⟨h28, f28, o28⟩) ⟨h29, f29, o29⟩) ⟨h30, f30, o30⟩) ⟨h31, f31, o31⟩) ⟨h32, f32, o32⟩)
def lvRop (a : Addr) : Sem Value := loadVar 41 a
@[go_sem ↓] theorem lvRop_eq (a : Addr) : loadVar 41 a = lvRop a := rfl
@[go_sem] theorem run_lvRop (w : World) (b o : Nat) (h0 : (w.cell? ⟨b, o, none⟩).isSome = true) (h1 : (w.cell? ⟨b, o + 1, none⟩).isSome = true) (h2 : (w.cell? ⟨b, o + 2, none⟩).isSome = true) (h3 : (w.cell? ⟨b, o + 3, none⟩).isSome = true) (h4 : (w.cell? ⟨b, o + 4, none⟩).isSome = true) (h5 : (w.cell? ⟨b, o + 5, none⟩).isSome = true) (h6 : (w.cell? ⟨b, o + 6, none⟩).isSome = true) (h7 : (w.cell? ⟨b, o + 7, none⟩).isSome = true) (h8 : (w.cell? ⟨b, o + 8, none⟩).isSome = true) : (lvRop ⟨b, o, none⟩).run Tryz.prog w = .ok (.agg #[(w.cell? ⟨b, o, none⟩).getD undef, (w.cell? ⟨b, o + 1, none⟩).getD undef, (w.cell? ⟨b, o + 2, none⟩).getD undef, (w.cell? ⟨b, o + 3, none⟩).getD undef, (w.cell? ⟨b, o + 4, none⟩).getD undef, (w.cell? ⟨b, o + 5, none⟩).getD undef, (w.cell? ⟨b, o + 6, none⟩).getD undef, (w.cell? ⟨b, o + 7, none⟩).getD undef, (w.cell? ⟨b, o + 8, none⟩).getD undef]) w := run_lv (P := Tryz.prog) w 41 _ 9 b o Tryz.underlying41 rfl (by kernel_rfl) (forall_lt_succ _ _ (forall_lt_succ _ _ (forall_lt_succ _ _ (forall_lt_succ _ _ (forall_lt_succ _ _ (forall_lt_succ _ _ (forall_lt_succ _ _ (forall_lt_succ _ _ (forall_lt_succ _ _ (fun j hj => absurd hj (Nat.not_lt_zero j)) h0) h1) h2) h3) h4) h5) h6) h7) h8)
def svRop (a : Addr) (v : Value) : Sem Unit := storeVar 41 a v
@[go_sem ↓] theorem svRop_eq (a : Addr) (v : Value) : storeVar 41 a v = svRop a v := rfl
@[go_sem] theorem run_svRop (w : World) (b o : Nat) (v0 v1 v2 v3 v4 v5 v6 v7 v8 : Value) (h0 : (w.cell? ⟨b, o, none⟩).isSome = true) (h1 : (w.cell? ⟨b, o + 1, none⟩).isSome = true) (h2 : (w.cell? ⟨b, o + 2, none⟩).isSome = true) (h3 : (w.cell? ⟨b, o + 3, none⟩).isSome = true) (h4 : (w.cell? ⟨b, o + 4, none⟩).isSome = true) (h5 : (w.cell? ⟨b, o + 5, none⟩).isSome = true) (h6 : (w.cell? ⟨b, o + 6, none⟩).isSome = true) (h7 : (w.cell? ⟨b, o + 7, none⟩).isSome = true) (h8 : (w.cell? ⟨b, o + 8, none⟩).isSome = true) (f0 : w.frozen? ⟨b, o, none⟩ = false) (f1 : w.frozen? ⟨b, o + 1, none⟩ = false) (f2 : w.frozen? ⟨b, o + 2, none⟩ = false) (f3 : w.frozen? ⟨b, o + 3, none⟩ = false) (f4 : w.frozen? ⟨b, o + 4, none⟩ = false) (f5 : w.frozen? ⟨b, o + 5, none⟩ = false) (f6 : w.frozen? ⟨b, o + 6, none⟩ = false) (f7 : w.frozen? ⟨b, o + 7, none⟩ = false) (f8 : w.frozen? ⟨b, o + 8, none⟩ = false) (o0 : v0.oneCell' = true) (o1 : v1.oneCell' = true) (o2 : v2.oneCell' = true) (o3 : v3.oneCell' = true) (o4 : v4.oneCell' = true) (o5 : v5.oneCell' = true) (o6 : v6.oneCell' = true) (o7 : v7.oneCell' = true) (o8 : v8.oneCell' = true) : (svRop ⟨b, o, none⟩ (.agg #[v0, v1, v2, v3, v4, v5, v6, v7, v8])).run Tryz.prog w = .ok () (((((((((w.setCell ⟨b, o, none⟩ v0).setCell ⟨b, o + 1, none⟩ v1).setCell ⟨b, o + 2, none⟩ v2).setCell ⟨b, o + 3, none⟩ v3).setCell ⟨b, o + 4, none⟩ v4).setCell ⟨b, o + 5, none⟩ v5).setCell ⟨b, o + 6, none⟩ v6).setCell ⟨b, o + 7, none⟩ v7).setCell ⟨b, o + 8, none⟩ v8) := run_sv (P := Tryz.prog) w 41 b o [v0, v1, v2, v3, v4, v5, v6, v7, v8] (by kernel_rfl) (forall_lt_succ _ _ (forall_lt_succ _ _ (forall_lt_succ _ _ (forall_lt_succ _ _ (forall_lt_succ _ _ (forall_lt_succ _ _ (forall_lt_succ _ _ (forall_lt_succ _ _ (forall_lt_succ _ _ (fun j hj => absurd hj (Nat.not_lt_zero j)) ⟨h0, f0, o0⟩) ⟨h1, f1, o1⟩) ⟨h2, f2, o2⟩) ⟨h3, f3, o3⟩) ⟨h4, f4, o4⟩) ⟨h5, f5, o5⟩) ⟨h6, f6, o6⟩) ⟨h7, f7, o7⟩) ⟨h8, f8, o8⟩)
def lvWds (a : Addr) : Sem Value := loadVar 59 a
@[go_sem ↓] theorem lvWds_eq (a : Addr) : loadVar 59 a = lvWds a := rfl
@[go_sem] theorem run_lvWds (w : World) (b o : Nat) (h0 : (w.cell? ⟨b, o, none⟩).isSome = true) : (lvWds ⟨b, o, none⟩).run Tryz.prog w = .ok (.agg #[(w.cell? ⟨b, o, none⟩).getD undef]) w := run_lv (P := Tryz.prog) w 59 _ 1 b o Tryz.underlying59 rfl (by kernel_rfl) (forall_lt_succ _ _ (fun j hj => absurd hj (Nat.not_lt_zero j)) h0)
def svWds (a : Addr) (v : Value) : Sem Unit := storeVar 59 a v
@[go_sem ↓] theorem svWds_eq (a : Addr) (v : Value) : storeVar 59 a v = svWds a v := rfl
@[go_sem] theorem run_svWds (w : World) (b o : Nat) (v0 : Value) (h0 : (w.cell? ⟨b, o, none⟩).isSome = true) (f0 : w.frozen? ⟨b, o, none⟩ = false) (o0 : v0.oneCell' = true) : (svWds ⟨b, o, none⟩ (.agg #[v0])).run Tryz.prog w = .ok () (w.setCell ⟨b, o, none⟩ v0) := run_sv (P := Tryz.prog) w 59 b o [v0] (by kernel_rfl) (forall_lt_succ _ _ (fun j hj => absurd hj (Nat.not_lt_zero j)) ⟨h0, f0, o0⟩)
def lvLne (a : Addr) : Sem Value := loadVar 82 a
@[go_sem ↓] theorem lvLne_eq (a : Addr) : loadVar 82 a = lvLne a := rfl
@[go_sem] theorem run_lvLne (w : World) (b o : Nat) (h0 : (w.cell? ⟨b, o, none⟩).isSome = true) : (lvLne ⟨b, o, none⟩).run Tryz.prog w = .ok (.agg #[(w.cell? ⟨b, o, none⟩).getD undef]) w := run_lv (P := Tryz.prog) w 82 _ 1 b o Tryz.underlying82 rfl (by kernel_rfl) (forall_lt_succ _ _ (fun j hj => absurd hj (Nat.not_lt_zero j)) h0)
def svLne (a : Addr) (v : Value) : Sem Unit := storeVar 82 a v
@[go_sem ↓] theorem svLne_eq (a : Addr) (v : Value) : storeVar 82 a v = svLne a v := rfl
@[go_sem] theorem run_svLne (w : World) (b o : Nat) (v0 : Value) (h0 : (w.cell? ⟨b, o, none⟩).isSome = true) (f0 : w.frozen? ⟨b, o, none⟩ = false) (o0 : v0.oneCell' = true) : (svLne ⟨b, o, none⟩ (.agg #[v0])).run Tryz.prog w = .ok () (w.setCell ⟨b, o, none⟩ v0) := run_sv (P := Tryz.prog) w 82 b o [v0] (by kernel_rfl) (forall_lt_succ _ _ (fun j hj => absurd hj (Nat.not_lt_zero j)) ⟨h0, f0, o0⟩)
def lvLin (a : Addr) : Sem Value := loadVar 65 a
@[go_sem ↓] theorem lvLin_eq (a : Addr) : loadVar 65 a = lvLin a := rfl
@[go_sem] theorem run_lvLin (w : World) (b o : Nat) (h0 : (w.cell? ⟨b, o, none⟩).isSome = true) (h1 : (w.cell? ⟨b, o + 1, none⟩).isSome = true) : (lvLin ⟨b, o, none⟩).run Tryz.prog w = .ok (.agg #[(w.cell? ⟨b, o, none⟩).getD undef, (w.cell? ⟨b, o + 1, none⟩).getD undef]) w := run_lv (P := Tryz.prog) w 65 _ 2 b o Tryz.underlying65 rfl (by kernel_rfl) (forall_lt_succ _ _ (forall_lt_succ _ _ (fun j hj => absurd hj (Nat.not_lt_zero j)) h0) h1)
def svLin (a : Addr) (v : Value) : Sem Unit := storeVar 65 a v
@[go_sem ↓] theorem svLin_eq (a : Addr) (v : Value) : storeVar 65 a v = svLin a v := rfl
@[go_sem] theorem run_svLin (w : World) (b o : Nat) (v0 v1 : Value) (h0 : (w.cell? ⟨b, o, none⟩).isSome = true) (h1 : (w.cell? ⟨b, o + 1, none⟩).isSome = true) (f0 : w.frozen? ⟨b, o, none⟩ = false) (f1 : w.frozen? ⟨b, o + 1, none⟩ = false) (o0 : v0.oneCell' = true) (o1 : v1.oneCell' = true) : (svLin ⟨b, o, none⟩ (.agg #[v0, v1])).run Tryz.prog w = .ok () ((w.setCell ⟨b, o, none⟩ v0).setCell ⟨b, o + 1, none⟩ v1) := run_sv (P := Tryz.prog) w 65 b o [v0, v1] (by kernel_rfl) (forall_lt_succ _ _ (forall_lt_succ _ _ (fun j hj => absurd hj (Nat.not_lt_zero j)) ⟨h0, f0, o0⟩) ⟨h1, f1, o1⟩)
end Go.Proofs.YtbdanlipghhgpaaGreatDoor

namespace Go.Proofs.YtbdanlipghhgpaaGreatDoor
open Go.RowKit
structure Hd where
  a : Option Addr
  n : Nat
  c : Nat
def Hd.v (h : Hd) : Value := .slice h.a h.n h.c
end Go.Proofs.YtbdanlipghhgpaaGreatDoor

namespace Go.Proofs.YtbdanlipghhgpaaGreatDoor
open Go.RowKit Go.Deep
set_option linter.unusedVariables false
structure Kb (P : Nat → Prop) (w w' : World) : Prop where
  os : w'.os = w.os
  tape : w'.tape = w.tape
  output : w'.output = w.output
  size : w.heap.size ≤ w'.heap.size
  block : ∀ k, k < w.heap.size → ¬ P k → w'.heap[k]? = w.heap[k]?
theorem Kb.refl (P : Nat → Prop) (w : World) : Kb P w w := ⟨rfl, rfl, rfl, Nat.le_refl _, fun _ _ _ => rfl⟩
theorem Kb.of_aft {P : Nat → Prop} {w w' : World} (a : Aft w w') : Kb P w w' := ⟨a.os, a.tape, a.output, a.size, fun k hk _ => a.block k hk⟩
theorem Kb.mono {P Q : Nat → Prop} {w w' : World} (h : Kb P w w') (hq : ∀ k, k < w.heap.size → P k → Q k) : Kb Q w w' := ⟨h.os, h.tape, h.output, h.size, fun k hk hn => h.block k hk fun hp => hn (hq k hk hp)⟩
theorem Kb.trans {P : Nat → Prop} {w w' w'' : World} (h : Kb P w w') (h' : Kb P w' w'') : Kb P w w'' :=
  ⟨h'.os.trans h.os, h'.tape.trans h.tape, h'.output.trans h.output, Nat.le_trans h.size h'.size, fun k hk hn => (h'.block k (Nat.lt_of_lt_of_le hk h.size) hn).trans (h.block k hk hn)⟩
theorem Kb.set (w : World) (g j : Nat) (v : Value) : Kb (fun k => k = g) w (w.setCell ⟨g, j, none⟩ v) :=
  ⟨rfl, rfl, rfl, by simp, fun k hk hn => Below.heap_setCell _ _ _ _ hn⟩
theorem Kb.to_aft {P : Nat → Prop} {W w w' : World} (h : Kb P w w') (a : Aft W w) (hP : ∀ k, k < W.heap.size → ¬ P k) : Aft W w' :=
  ⟨h.os.trans a.os, h.tape.trans a.tape, h.output.trans a.output, Nat.le_trans a.size h.size, fun k hk => (h.block k (Nat.lt_of_lt_of_le hk a.size) (hP k hk)).trans (a.block k hk)⟩
theorem Kb.cell {P : Nat → Prop} {w w' : World} (h : Kb P w w') {p : Addr} {v : Value} (hc : w.cell? p = some v) (hb : ¬ P p.block) : w'.cell? p = some v := by
  have := h.block p.block (World.block_lt_of_cell? w p hc) hb
  unfold World.cell? at hc ⊢
  rw [this]; exact hc
theorem Kb.row {P : Nat → Prop} {w w' : World} (h : Kb P w w') {g : Nat} {xs : List Value} (hr : RowAt w g xs) (hb : ¬ P g) : RowAt w' g xs := by
  have := h.block g hr.1 hb
  refine ⟨Nat.lt_of_lt_of_le hr.1 h.size, fun j hj => ?_, fun j hj => ?_⟩
  · rw [← hr.2.1 j hj]; simp [World.cell?, this]
  · rw [← hr.2.2 j hj]; simp [World.frozen?, this]
theorem own_kb {P : Nat → Prop} {w w' : World} {B size n : Nat} {e : TypeId} {v : Value} {xs : List Value} (h : w.ownsRow B e size v n xs) (k : Kb P w w') (hne : ∀ g, v.ownBlock = some g → ¬ P g) : w'.ownsRow B e size v n xs := by
  refine ⟨h.1, ?_⟩
  rcases h.2 with hn | ⟨g, cap, cur, rfl, hb, hgg, rest⟩
  · exact .inl hn
  · exact .inr ⟨g, cap, cur, rfl, hb, (k.block g (lt_of_block hgg) (hne g rfl)).trans hgg, rest⟩
theorem own_base {w : World} {B B' size n : Nat} {e : TypeId} {v : Value} {xs : List Value} (h : w.ownsRow B e size v n xs) (hb : ∀ g, v.ownBlock = some g → B' ≤ g) : w.ownsRow B' e size v n xs := by
  refine ⟨h.1, ?_⟩
  rcases h.2 with hn | ⟨g, cap, cur, rfl, hb', rest⟩
  · exact .inl hn
  · exact .inr ⟨g, cap, cur, rfl, hb g rfl, rest⟩
theorem own_down {w : World} {B B' size n : Nat} {e : TypeId} {v : Value} {xs : List Value} (h : w.ownsRow B e size v n xs) (hb : B' ≤ B) : w.ownsRow B' e size v n xs :=
  own_base h fun g hg => Nat.le_trans hb (h.lt g hg).1
theorem own_sl {α : Type} {w : World} {B size : Nat} {e : TypeId} {h : Hd} {l : List α} {css : List (List Value)} {R : World → List Value → α → Prop} (o : w.ownsRow B e size h.v l.length css.flatten) (hc : Chunks w size R css l) (hs : Small (l.length * 16)) : SlAt w size R h.a h.c l := by
  obtain ⟨A, cap, hv, sl⟩ := rowV_slAt (own_rowV o) hc hs
  unfold Hd.v at hv
  simp only [Value.slice.injEq] at hv
  rw [hv.1, hv.2.2]; exact sl
theorem chunks_map {α : Type} {w : World} {size : Nat} {R : World → List Value → α → Prop} (f : α → List Value) (l : List α) (hf : ∀ x ∈ l, (f x).length = size ∧ R w (f x) x) : Chunks w size R (l.map f) l :=
  ⟨by simp, fun i h h' => by simpa using hf l[i] (List.getElem_mem h')⟩
theorem own_slf {α : Type} {w : World} {B size : Nat} {e : TypeId} {h : Hd} {l : List α} {R : World → List Value → α → Prop} (f : α → List Value) (o : w.ownsRow B e size h.v l.length (l.flatMap f)) (hf : ∀ x ∈ l, (f x).length = size ∧ R w (f x) x) (hs : Small (l.length * 16)) : SlAt w size R h.a h.c l :=
  own_sl (css := l.map f) (by rw [← List.flatMap_def]; exact o) (chunks_map f l hf) hs

def nameC (s : ByteArray) : List Value := [.string s]
def colC (c : Col) : List Value := [.string c.name, .int .i64 c.kind, .bool c.null]
end Go.Proofs.YtbdanlipghhgpaaGreatDoor

namespace Go.Proofs.YtbdanlipghhgpaaGreatDoor
open Go.RowKit Go.Deep
set_option maxRecDepth 100000
set_option linter.unusedVariables false
def NoL : Ending := .panicked [{ v := .iface 74 (.agg #[]), recovered := false }]
theorem dis_ok (w : World) : Calls Tryz.prog 18 #[.bool true] w fun e w' => e = .returned (.tuple #[]) ∧ w = w' := by
  go_enter Tryz.func18, Tryz.ntmps18
  go_wp2_with fail
  go_end0
  exact ⟨rfl, rfl⟩
theorem dis_no (w : World) : Calls Tryz.prog 18 #[.bool false] w fun e w' => e = NoL ∧ w = w' := by
  go_enter Tryz.func18, Tryz.ntmps18
  go_wp2_with fail
  exact ⟨rfl, rfl, rfl⟩
def Pcs (w : World) (p o c : Nat) (W : Ws) : Prop := W.length ≤ c ∧ p < w.heap.size ∧ ∀ i (h : i < W.length), w.cell? ⟨p, o + i, none⟩ = some (.string W[i]) ∧ W[i].size ≤ 4096
theorem Pcs.kb {w w' : World} {p o c : Nat} {W : Ws} {P : Nat → Prop} (h : Pcs w p o c W) (k : Kb P w w') (hp : ¬ P p) : Pcs w' p o c W :=
  ⟨h.1, Nat.lt_of_lt_of_le h.2.1 k.size, fun i hi => ⟨k.cell (h.2.2 i hi).1 hp, (h.2.2 i hi).2⟩⟩
theorem Pcs.tail {w : World} {p o c : Nat} {s : ByteArray} {W : Ws} (h : Pcs w p o c (s :: W)) : Pcs w p (o + 1) (c - 1) W := by
  have h1 := h.1
  simp only [List.length_cons] at h1
  refine ⟨by omega, h.2.1, fun i hi => ?_⟩
  have := h.2.2 (i + 1) (by simpa using hi)
  rw [show o + 1 + i = o + (i + 1) by omega]
  simpa using this
def LibV (w : World) : Prop := ∃ m, w.cell? ⟨0, 0, none⟩ = some (.int .i64 m)
theorem LibV.kb {w w' : World} {P : Nat → Prop} (h : LibV w) (k : Kb P w w') (hp : ¬ P 0) : LibV w' := by
  obtain ⟨m, hm⟩ := h
  exact ⟨m, k.cell hm hp⟩
structure WdS (w : World) (b p : Nat) (W : Ws) : Prop where
  ex : ∃ o c, w.cell? ⟨b, 0, none⟩ = some (.slice (some ⟨p, o, none⟩) W.length c) ∧ Pcs w p o c W
  lt : b < w.heap.size
  free : w.frozen? ⟨b, 0, none⟩ = false
  ne : ¬ p = b
  big : W.length ≤ 4097
  lib : LibV w
  low : 0 < b
def Kw (b : Nat) (w w' : World) : Prop := Kb (fun k => k = b) w w'
theorem Kw.refl (b : Nat) (w : World) : Kw b w w := Kb.refl _ w
theorem Kw.trans {b : Nat} {w w1 w2 : World} (h : Kw b w w1) (h2 : Kw b w1 w2) : Kw b w w2 := Kb.trans h h2
theorem Kw.aft {b : Nat} {w w1 w2 : World} (h : Kw b w w1) (a : Aft w1 w2) : Kw b w w2 := Kb.trans h (Kb.of_aft a)
theorem Kw.alloc {b : Nat} {w w1 : World} (h : Kw b w w1) (o : Obj) : Kw b w (w1.alloc o) := h.aft ((Aft.refl _).alloc o)
theorem Kw.drew {b : Nat} {w w1 : World} (h : Kw b w w1) : Kw b w w1.drew := h.aft (Aft.refl _).drew
theorem Kw.set {b : Nat} {w w1 : World} (h : Kw b w w1) (g j : Nat) (v : Value) (hg : g = b ∨ w.heap.size ≤ g) : Kw b w (w1.setCell ⟨g, j, none⟩ v) :=
  ⟨h.os, h.tape, h.output, by simpa using h.size, fun k hk hn => by
    have hne : ¬ k = g := by
      rcases hg with rfl | hg
      · exact hn
      · omega
    rw [Below.heap_setCell _ _ _ _ hne]
    exact h.block k hk hn⟩
theorem WdS.kb {w w' : World} {b p : Nat} {W : Ws} {P : Nat → Prop} (h : WdS w b p W) (k : Kb P w w') (hb : ¬ P b) (hp : ¬ P p) (h0 : ¬ P 0) : WdS w' b p W := by
  obtain ⟨o, c, h1, h2⟩ := h.ex
  have := k.block b h.lt hb
  exact ⟨⟨o, c, k.cell h1 hb, h2.kb k hp⟩, Nat.lt_of_lt_of_le h.lt k.size, by simpa [World.frozen?, this] using h.free, h.ne, h.big, h.lib.kb k h0, h.low⟩
theorem WdS.aft {w w' : World} {b p : Nat} {W : Ws} (h : WdS w b p W) (a : Aft w w') : WdS w' b p W := h.kb (P := fun _ => False) (Kb.of_aft a) id id id
theorem WdS.le {w : World} {b p : Nat} {s : ByteArray} {W : Ws} (h : WdS w b p (s :: W)) : s.size ≤ 4096 := by
  obtain ⟨o, c, _, h2⟩ := h.ex
  exact (h2.2.2 0 (by simp)).2
theorem WdS.small {w : World} {b p : Nat} {s : ByteArray} {W : Ws} (h : WdS w b p (s :: W)) : Small s.size := Nat.le_trans h.le (by decide)
theorem wds_set {w : World} {b p o c : Nat} {W W0 : Ws} (h : WdS w b p W0) (hl : W.length ≤ W0.length) (hp : Pcs w p o c W) :
    WdS (w.setCell ⟨b, 0, none⟩ (.slice (some ⟨p, o, none⟩) W.length c)) b p W ∧ Kw b w (w.setCell ⟨b, 0, none⟩ (.slice (some ⟨p, o, none⟩) W.length c)) := by
  have hk : Kw b w (w.setCell ⟨b, 0, none⟩ (.slice (some ⟨p, o, none⟩) W.length c)) := (Kw.refl b w).set b 0 _ (.inl rfl)
  obtain ⟨o0, c0, h1, _⟩ := h.ex
  exact ⟨⟨⟨o, c, World.cell?_setCell_same _ _ _ h1, hp.kb hk h.ne⟩, by simpa using h.lt, by simpa using h.free, h.ne, Nat.le_trans hl h.big, h.lib.kb hk (by have := h.low; omega), h.low⟩, hk⟩
theorem more_yes (b p : Nat) (s : ByteArray) (W : Ws) (w : World) (h : WdS w b p (s :: W)) : Calls Tryz.prog 19 #[.pointer (some ⟨b, 0, none⟩)] w fun e w' => e = .returned (.bool true) ∧ w = w' := by
  obtain ⟨o, c, c0, hp⟩ := h.ex
  have hb := h.lt
  have hl := hp.1
  have hz := h.big
  rw [List.length_cons] at c0 hl hz
  generalize W.length = n at *
  clear h hp
  go_enter Tryz.func19, Tryz.ntmps19
  go_wp2_with fail
  go_ret
  refine ⟨?_, rfl⟩
  refine Eq.trans (b := .returned (.bool _)) rfl (ret_of (bool_of ?_))
  first | rfl | (simp; done) | (simp; omega)
theorem more_no (b p : Nat) (w : World) (h : WdS w b p []) : Calls Tryz.prog 19 #[.pointer (some ⟨b, 0, none⟩)] w fun e w' => e = .returned (.bool false) ∧ w = w' := by
  obtain ⟨o, c, c0, hp⟩ := h.ex
  have hb := h.lt
  rw [List.length_nil] at c0
  clear h hp
  go_enter Tryz.func19, Tryz.ntmps19
  go_wp2_with fail
  go_ret
  exact ⟨rfl, rfl⟩
theorem word_yes (b p : Nat) (s : ByteArray) (W : Ws) (w : World) (h : WdS w b p (s :: W)) : Calls Tryz.prog 27 #[.pointer (some ⟨b, 0, none⟩)] w fun e w' => e = .returned (.string s) ∧ WdS w' b p W ∧ Kw b w w' := by
  have HM := Lib.hid (more_yes b p s W w h)
  have HH := Lib.hid h
  obtain ⟨o, c, c0, hp⟩ := h.ex
  have hb := h.lt
  have hf := h.free
  have hne := h.ne
  have hl := hp.1
  have hz := h.big
  have hpl := hp.2.1
  obtain ⟨c1, -⟩ := hp.2.2 0 (by simp)
  simp only [List.getElem_cons_zero, Nat.add_zero] at c1
  have HP := Lib.hid hp.tail
  rw [List.length_cons] at c0 hl hz
  clear h hp
  go_enter Tryz.func27, Tryz.ntmps27
  go_wp2_with (first | (go_at_call 19; refine HM.out.mono ?_; rintro e w' ⟨rfl, rfl⟩) | (go_at_call 18; refine (dis_ok _).mono ?_; rintro e w' ⟨rfl, rfl⟩))
  · have hW : W = [] := List.eq_nil_of_length_eq_zero (by omega)
    go_ret
    refine ⟨rfl, wds_set HH.out (by simp) ?_⟩
    subst hW
    exact ⟨Nat.zero_le _, hpl, fun i hi => absurd hi (by simp)⟩
  · go_ret
    exact ⟨rfl, wds_set HH.out (by simp) HP.out⟩
theorem word_no (b p : Nat) (w : World) (h : WdS w b p []) : Calls Tryz.prog 27 #[.pointer (some ⟨b, 0, none⟩)] w fun e w' => e = NoL ∧ w = w' := by
  have HM := Lib.hid (more_no b p w h)
  clear h
  go_enter Tryz.func27, Tryz.ntmps27
  go_wp2_with (first | (go_at_call 19; refine HM.out.mono ?_; rintro e w' ⟨rfl, rfl⟩) | (go_at_call 18; refine (dis_no _).mono ?_; rintro e w' ⟨he, rfl⟩; unfold NoL at he; subst he))
  all_goals exact ⟨rfl, rfl, rfl⟩
def RdQ {α : Type} (b p : Nat) (w : World) (V : World → Value → α → Prop) (o : Option (α × Ws)) (e : Ending) (w' : World) : Prop :=
  Kw b w w' ∧ match o with
  | some (x, W) => ∃ v, e = .returned v ∧ V w' v x ∧ WdS w' b p W
  | none => e = NoL
theorem name_rd (b p : Nat) (W : Ws) (w : World) (h : WdS w b p W) : Calls Tryz.prog 48 #[.pointer (some ⟨b, 0, none⟩)] w (RdQ b p w (fun _ v x => v = .string x ∧ nameB x = true) (nameP W)) := by
  cases W with
  | nil =>
    have HM := Lib.hid (word_no b p w h)
    clear h
    go_enter Tryz.func48, Tryz.ntmps48
    go_wp2_with (first | (go_at_call 27; refine HM.out.mono ?_; rintro e w' ⟨he, rfl⟩; unfold NoL at he; subst he))
    exact ⟨rfl, Kw.refl _ _, rfl⟩
  | cons s W =>
    have HM := Lib.hid (word_yes b p s W w h)
    have hs := h.small
    obtain ⟨q, hq⟩ : ∃ q, nameB s = q := ⟨_, rfl⟩
    have HN := Lib.hid (show ∀ w1 : World, Calls Tryz.prog 81 #[.string s] w1 fun e w' => e = .returned (.bool q) ∧ w1 = w' from fun w1 => hq ▸ name_any s w1 hs.max)
    have HQ := Lib.hid hq
    clear h hq hs
    cases q
    · go_enter Tryz.func48, Tryz.ntmps48
      go_wp2_with (first | (go_at_call 27; refine HM.out.mono ?_; rintro e w1 ⟨rfl, d1, k1⟩; have D1 := Lib.hid d1; have K1 := Lib.hid k1; clear d1 k1) | (go_at_call 81; refine (HN.out _).mono ?_; rintro e w' ⟨rfl, rfl⟩) | (go_at_call 18; refine (dis_no _).mono ?_; rintro e w' ⟨he, rfl⟩; unfold NoL at he; subst he))
      refine ⟨rfl, K1.out, ?_⟩
      have : nameP (s :: W) = none := by simp [nameP, oneP, nameO, HQ.out]
      rw [this]; rfl
    · go_enter Tryz.func48, Tryz.ntmps48
      go_wp2_with (first | (go_at_call 27; refine HM.out.mono ?_; rintro e w1 ⟨rfl, d1, k1⟩; have D1 := Lib.hid d1; have K1 := Lib.hid k1; clear d1 k1) | (go_at_call 81; refine (HN.out _).mono ?_; rintro e w' ⟨rfl, rfl⟩) | (go_at_call 18; refine (dis_ok _).mono ?_; rintro e w' ⟨rfl, rfl⟩))
      go_ret
      have : nameP (s :: W) = some (s, W) := by simp [nameP, oneP, nameO, HQ.out]
      unfold RdQ
      rw [this]
      exact ⟨K1.out, _, rfl, ⟨rfl, HQ.out⟩, D1.out⟩
end Go.Proofs.YtbdanlipghhgpaaGreatDoor

/-
  DERIVED: THE SHELF's CONTRACTS AT THIS DUMP, IN PLAIN WORDS (tools/lay-plain.mjs out of 'TryzShelf.lean', which tools/lay-shelf.mjs wrote): THE SAME DECLARATIONS UNDER THE SAME NAMES: 'import', 'namespace', 'open', 'def', 'theorem' AND NOTHING ELSE: no command of the shelf's: FOR A HAND-IN. Each laying: the table of numbers ('.._ren') and one theorem, a field a fact of the dump's own or the kernel's comparison; each contract: ONE APPLICATION.
-/
namespace Go.Proofs
open Go.Shelf
def Tryz.lays160_ren : Go.Shelf.Ren := ⟨fun | 160 => 79 | 232 => 106 | 231 => 105 | 227 => 107 | 234 => 109 | 233 => 108 | 236 => 111 | 235 => 110 | 228 => 126 | 271 => 128 | 151 => 127 | 197 => 75 | 120 => 137 | 152 => 136 | 260 => 99 | 137 => 114 | 119 => 145 | 224 => 102 | 225 => 101 | 217 => 100 | 266 => 123 | n => n, fun | 9 => 9 | 4 => 4 | 3 => 3 | 5 => 5 | 117 => 139 | 116 => 138 | 0 => 0 | 124 => 142 | 21 => 21 | 105 => 120 | 46 => 135 | 119 => 148 | 139 => 151 | 138 => 150 | n => n, fun | 3 => 1 | 4 => 2 | n => n⟩
theorem Tryz.lays160 : Go.Proofs.Lays.n160 Tryz.prog Tryz.lays160_ren := {
  mixed := by kernel_rfl
  f119 := Tryz.func145.trans (congrArg some (by kernel_rfl))
  f120 := Tryz.func137.trans (congrArg some (by kernel_rfl))
  f137 := Tryz.func114.trans (congrArg some (by kernel_rfl))
  f151 := Tryz.func127.trans (congrArg some (by kernel_rfl))
  f152 := Tryz.func136.trans (congrArg some (by kernel_rfl))
  f160 := Tryz.func79.trans (congrArg some (by kernel_rfl))
  f197 := Tryz.func75.trans (congrArg some (by kernel_rfl))
  f217 := Tryz.func100.trans (congrArg some (by kernel_rfl))
  f224 := Tryz.func102.trans (congrArg some (by kernel_rfl))
  f225 := Tryz.func101.trans (congrArg some (by kernel_rfl))
  f227 := Tryz.func107.trans (congrArg some (by kernel_rfl))
  f228 := Tryz.func126.trans (congrArg some (by kernel_rfl))
  f231 := Tryz.func105.trans (congrArg some (by kernel_rfl))
  f232 := Tryz.func106.trans (congrArg some (by kernel_rfl))
  f233 := Tryz.func108.trans (congrArg some (by kernel_rfl))
  f234 := Tryz.func109.trans (congrArg some (by kernel_rfl))
  f235 := Tryz.func110.trans (congrArg some (by kernel_rfl))
  f236 := Tryz.func111.trans (congrArg some (by kernel_rfl))
  f260 := Tryz.func99.trans (congrArg some (by kernel_rfl))
  f266 := Tryz.func123.trans (congrArg some (by kernel_rfl))
  f271 := Tryz.func128.trans (congrArg some (by kernel_rfl))
  t0 := Tryz.underlying0
  a0 := Tryz.isAgg0
  z0 := Tryz.sizeOf0
  v0 := Tryz.zeroValue0
  t3 := Tryz.underlying3
  a3 := Tryz.isAgg3
  z3 := Tryz.sizeOf3
  v3 := Tryz.zeroValue3
  t4 := Tryz.underlying4
  a4 := Tryz.isAgg4
  z4 := Tryz.sizeOf4
  v4 := Tryz.zeroValue4
  t5 := Tryz.underlying5
  a5 := Tryz.isAgg5
  z5 := Tryz.sizeOf5
  v5 := Tryz.zeroValue5
  t9 := Tryz.underlying9
  a9 := Tryz.isAgg9
  z9 := Tryz.sizeOf9
  v9 := Tryz.zeroValue9
  t21 := Tryz.underlying21
  a21 := Tryz.isAgg21
  z21 := Tryz.sizeOf21
  v21 := Tryz.zeroValue21
  t46 := Tryz.underlying135
  a46 := Tryz.isAgg135
  z46 := Tryz.sizeOf135
  v46 := Tryz.zeroValue135
  t105 := Tryz.underlying120
  a105 := Tryz.isAgg120
  z105 := Tryz.sizeOf120
  v105 := Tryz.zeroValue120
  t116 := Tryz.underlying138
  a116 := Tryz.isAgg138
  z116 := Tryz.sizeOf138
  t117 := Tryz.underlying139
  a117 := Tryz.isAgg139
  z117 := Tryz.sizeOf139
  v117 := Tryz.zeroValue139
  t119 := Tryz.underlying148
  a119 := Tryz.isAgg148
  z119 := Tryz.sizeOf148
  t124 := Tryz.underlying142
  a124 := Tryz.isAgg142
  z124 := Tryz.sizeOf142
  v124 := Tryz.zeroValue142
  t138 := Tryz.underlying150
  a138 := Tryz.isAgg150
  z138 := Tryz.sizeOf150
  v138 := Tryz.zeroValue150
  t139 := Tryz.underlying151
  a139 := Tryz.isAgg151
  z139 := Tryz.sizeOf151
  v139 := Tryz.zeroValue151
  g3 := by kernel_rfl
  g4 := by kernel_rfl }
def Tryz.lays103_ren : Go.Shelf.Ren := ⟨fun | 103 => 85 | 210 => 118 | 206 => 125 | n => n, fun | 9 => 9 | 4 => 4 | 24 => 124 | 3 => 3 | n => n, fun | n => n⟩
theorem Tryz.lays103 : Go.Proofs.Lays.n103 Tryz.prog Tryz.lays103_ren := {
  mixed := by kernel_rfl
  f103 := Tryz.func85.trans (congrArg some (by kernel_rfl))
  f206 := Tryz.func125.trans (congrArg some (by kernel_rfl))
  f210 := Tryz.func118.trans (congrArg some (by kernel_rfl))
  t3 := Tryz.underlying3
  a3 := Tryz.isAgg3
  z3 := Tryz.sizeOf3
  v3 := Tryz.zeroValue3
  t4 := Tryz.underlying4
  a4 := Tryz.isAgg4
  z4 := Tryz.sizeOf4
  v4 := Tryz.zeroValue4
  t9 := Tryz.underlying9
  a9 := Tryz.isAgg9
  z9 := Tryz.sizeOf9
  v9 := Tryz.zeroValue9
  t24 := Tryz.underlying124
  a24 := Tryz.isAgg124
  z24 := Tryz.sizeOf124
  v24 := Tryz.zeroValue124 }
open Go.RowKit in
theorem Tryz.strings_CutPrefix (s p : ByteArray) (w : World) :
    Calls Tryz.prog 85 #[.string s, .string p] w fun e w' => e = .returned (.tuple #[.string ⟨(Lib.trimPrefix s.data.toList p.data.toList).toArray⟩, .bool (Lib.hasPrefix s.data.toList p.data.toList)]) ∧ w' = w := Any.strings_CutPrefix Tryz.lays103 s p w
def Tryz.lays104_ren : Go.Shelf.Ren := ⟨fun | 104 => 82 | 211 => 116 | 207 => 134 | n => n, fun | 9 => 9 | 4 => 4 | 24 => 124 | 3 => 3 | n => n, fun | n => n⟩
theorem Tryz.lays104 : Go.Proofs.Lays.n104 Tryz.prog Tryz.lays104_ren := {
  mixed := by kernel_rfl
  f104 := Tryz.func82.trans (congrArg some (by kernel_rfl))
  f207 := Tryz.func134.trans (congrArg some (by kernel_rfl))
  f211 := Tryz.func116.trans (congrArg some (by kernel_rfl))
  t3 := Tryz.underlying3
  a3 := Tryz.isAgg3
  z3 := Tryz.sizeOf3
  v3 := Tryz.zeroValue3
  t4 := Tryz.underlying4
  a4 := Tryz.isAgg4
  z4 := Tryz.sizeOf4
  v4 := Tryz.zeroValue4
  t9 := Tryz.underlying9
  a9 := Tryz.isAgg9
  z9 := Tryz.sizeOf9
  v9 := Tryz.zeroValue9
  t24 := Tryz.underlying124
  a24 := Tryz.isAgg124
  z24 := Tryz.sizeOf124
  v24 := Tryz.zeroValue124 }
open Go.RowKit in
theorem Tryz.strings_CutSuffix (s p : ByteArray) (w : World) (hs : s.size ≤ 9223372036854775807) :
    Calls Tryz.prog 82 #[.string s, .string p] w fun e w' => e = .returned (.tuple #[.string ⟨(Lib.trimSuffix s.data.toList p.data.toList).toArray⟩, .bool (Lib.hasSuffix s.data.toList p.data.toList)]) ∧ w' = w := Any.strings_CutSuffix Tryz.lays104 s p w hs
def Tryz.lays172_ren : Go.Shelf.Ren := ⟨fun | 172 => 80 | 244 => 112 | 245 => 113 | 247 => 129 | 279 => 130 | 280 => 131 | 281 => 132 | 282 => 133 | 287 => 138 | 316 => 139 | 171 => 90 | 205 => 140 | 321 => 146 | 322 => 147 | 243 => 119 | 246 => 135 | 283 => 141 | 284 => 142 | 285 => 143 | 286 => 144 | 129 => 149 | 317 => 148 | 318 => 150 | 319 => 151 | 320 => 152 | 337 => 153 | 338 => 154 | n => n, fun | 9 => 9 | 3 => 3 | 75 => 112 | 76 => 113 | 4 => 4 | 5 => 5 | 167 => 158 | 37 => 107 | 0 => 0 | 85 => 159 | 2 => 2 | 168 => 161 | 53 => 166 | 175 => 167 | 46 => 135 | 210 => 170 | 127 => 133 | 145 => 181 | 143 => 179 | 21 => 21 | 171 => 172 | 173 => 175 | 212 => 183 | 51 => 152 | 20 => 20 | 213 => 184 | 232 => 188 | 233 => 189 | 80 => 76 | n => n, fun | 15 => 3 | 16 => 4 | 17 => 5 | 18 => 6 | 19 => 7 | n => n⟩
theorem Tryz.lays172 : Go.Proofs.Lays.n172 Tryz.prog Tryz.lays172_ren := {
  mixed := by kernel_rfl
  f129 := Tryz.func149.trans (congrArg some (by kernel_rfl))
  f171 := Tryz.func90.trans (congrArg some (by kernel_rfl))
  f172 := Tryz.func80.trans (congrArg some (by kernel_rfl))
  f205 := Tryz.func140.trans (congrArg some (by kernel_rfl))
  f243 := Tryz.func119.trans (congrArg some (by kernel_rfl))
  f244 := Tryz.func112.trans (congrArg some (by kernel_rfl))
  f245 := Tryz.func113.trans (congrArg some (by kernel_rfl))
  f246 := Tryz.func135.trans (congrArg some (by kernel_rfl))
  f247 := Tryz.func129.trans (congrArg some (by kernel_rfl))
  f279 := Tryz.func130.trans (congrArg some (by kernel_rfl))
  f280 := Tryz.func131.trans (congrArg some (by kernel_rfl))
  f281 := Tryz.func132.trans (congrArg some (by kernel_rfl))
  f282 := Tryz.func133.trans (congrArg some (by kernel_rfl))
  f283 := Tryz.func141.trans (congrArg some (by kernel_rfl))
  f284 := Tryz.func142.trans (congrArg some (by kernel_rfl))
  f285 := Tryz.func143.trans (congrArg some (by kernel_rfl))
  f286 := Tryz.func144.trans (congrArg some (by kernel_rfl))
  f287 := Tryz.func138.trans (congrArg some (by kernel_rfl))
  f316 := Tryz.func139.trans (congrArg some (by kernel_rfl))
  f317 := Tryz.func148.trans (congrArg some (by kernel_rfl))
  f318 := Tryz.func150.trans (congrArg some (by kernel_rfl))
  f319 := Tryz.func151.trans (congrArg some (by kernel_rfl))
  f320 := Tryz.func152.trans (congrArg some (by kernel_rfl))
  f321 := Tryz.func146.trans (congrArg some (by kernel_rfl))
  f322 := Tryz.func147.trans (congrArg some (by kernel_rfl))
  f337 := Tryz.func153.trans (congrArg some (by kernel_rfl))
  f338 := Tryz.func154.trans (congrArg some (by kernel_rfl))
  t0 := Tryz.underlying0
  a0 := Tryz.isAgg0
  z0 := Tryz.sizeOf0
  v0 := Tryz.zeroValue0
  t2 := Tryz.underlying2
  a2 := Tryz.isAgg2
  z2 := Tryz.sizeOf2
  v2 := Tryz.zeroValue2
  t3 := Tryz.underlying3
  a3 := Tryz.isAgg3
  z3 := Tryz.sizeOf3
  v3 := Tryz.zeroValue3
  t4 := Tryz.underlying4
  a4 := Tryz.isAgg4
  z4 := Tryz.sizeOf4
  v4 := Tryz.zeroValue4
  t5 := Tryz.underlying5
  a5 := Tryz.isAgg5
  z5 := Tryz.sizeOf5
  v5 := Tryz.zeroValue5
  t9 := Tryz.underlying9
  a9 := Tryz.isAgg9
  z9 := Tryz.sizeOf9
  v9 := Tryz.zeroValue9
  t20 := Tryz.underlying20
  a20 := Tryz.isAgg20
  z20 := Tryz.sizeOf20
  v20 := Tryz.zeroValue20
  t21 := Tryz.underlying21
  a21 := Tryz.isAgg21
  z21 := Tryz.sizeOf21
  v21 := Tryz.zeroValue21
  t37 := Tryz.underlying107
  a37 := Tryz.isAgg107
  z37 := Tryz.sizeOf107
  v37 := Tryz.zeroValue107
  t46 := Tryz.underlying135
  a46 := Tryz.isAgg135
  z46 := Tryz.sizeOf135
  v46 := Tryz.zeroValue135
  t51 := Tryz.underlying152
  a51 := Tryz.isAgg152
  z51 := Tryz.sizeOf152
  v51 := Tryz.zeroValue152
  t53 := Tryz.underlying166
  a53 := Tryz.isAgg166
  z53 := Tryz.sizeOf166
  v53 := Tryz.zeroValue166
  t75 := Tryz.underlying112
  a75 := Tryz.isAgg112
  z75 := Tryz.sizeOf112
  v75 := Tryz.zeroValue112
  t76 := Tryz.underlying113
  a76 := Tryz.isAgg113
  z76 := Tryz.sizeOf113
  v76 := Tryz.zeroValue113
  t85 := Tryz.underlying159
  a85 := Tryz.isAgg159
  z85 := Tryz.sizeOf159
  v85 := Tryz.zeroValue159
  t127 := Tryz.underlying133
  a127 := Tryz.isAgg133
  z127 := Tryz.sizeOf133
  v127 := Tryz.zeroValue133
  t143 := Tryz.underlying179
  a143 := Tryz.isAgg179
  z143 := Tryz.sizeOf179
  v143 := Tryz.zeroValue179
  t145 := Tryz.underlying181
  a145 := Tryz.isAgg181
  z145 := Tryz.sizeOf181
  v145 := Tryz.zeroValue181
  t167 := Tryz.underlying158
  a167 := Tryz.isAgg158
  z167 := Tryz.sizeOf158
  v167 := Tryz.zeroValue158
  t168 := Tryz.underlying161
  a168 := Tryz.isAgg161
  z168 := Tryz.sizeOf161
  v168 := Tryz.zeroValue161
  t171 := Tryz.underlying172
  a171 := Tryz.isAgg172
  z171 := Tryz.sizeOf172
  v171 := Tryz.zeroValue172
  t173 := Tryz.underlying175
  a173 := Tryz.isAgg175
  z173 := Tryz.sizeOf175
  v173 := Tryz.zeroValue175
  t175 := Tryz.underlying167
  a175 := Tryz.isAgg167
  z175 := Tryz.sizeOf167
  v175 := Tryz.zeroValue167
  t210 := Tryz.underlying170
  a210 := Tryz.isAgg170
  z210 := Tryz.sizeOf170
  v210 := Tryz.zeroValue170
  t212 := Tryz.underlying183
  a212 := Tryz.isAgg183
  z212 := Tryz.sizeOf183
  v212 := Tryz.zeroValue183
  t213 := Tryz.underlying184
  a213 := Tryz.isAgg184
  z213 := Tryz.sizeOf184
  t232 := Tryz.underlying188
  a232 := Tryz.isAgg188
  z232 := Tryz.sizeOf188
  v232 := Tryz.zeroValue188
  t233 := Tryz.underlying189
  a233 := Tryz.isAgg189
  z233 := Tryz.sizeOf189
  v233 := Tryz.zeroValue189
  g15 := by kernel_rfl
  g16 := by kernel_rfl
  g17 := by kernel_rfl
  g18 := by kernel_rfl
  g19 := by kernel_rfl }
open Go.RowKit in
theorem Tryz.strconv_Atoi (s : ByteArray) (n : Int) (hl : s.size ≤ 18) (h : Lib.atoi s.data.toList = some n) (w : World) :
    Calls Tryz.prog 80 #[.string s] w fun e w' => e = .returned (.tuple #[.int .i64 n, .nilIface]) ∧ ∃ t, w' = Lib.bytesWorld w 5 t := Any.strconv_Atoi Tryz.lays172 s n hl h w
def Tryz.lays145_ren : Go.Shelf.Ren := ⟨fun | 145 => 83 | 220 => 117 | 219 => 77 | 217 => 100 | 225 => 101 | 224 => 102 | 267 => 103 | 266 => 123 | 314 => 124 | n => n, fun | 9 => 9 | 4 => 4 | 59 => 126 | 3 => 3 | 5 => 5 | 46 => 135 | 146 => 153 | 51 => 152 | n => n, fun | 1 => 0 | n => n⟩
theorem Tryz.lays145 : Go.Proofs.Lays.n145 Tryz.prog Tryz.lays145_ren := {
  mixed := by kernel_rfl
  f145 := Tryz.func83.trans (congrArg some (by kernel_rfl))
  f217 := Tryz.func100.trans (congrArg some (by kernel_rfl))
  f219 := Tryz.func77.trans (congrArg some (by kernel_rfl))
  f220 := Tryz.func117.trans (congrArg some (by kernel_rfl))
  f224 := Tryz.func102.trans (congrArg some (by kernel_rfl))
  f225 := Tryz.func101.trans (congrArg some (by kernel_rfl))
  f266 := Tryz.func123.trans (congrArg some (by kernel_rfl))
  f267 := Tryz.func103.trans (congrArg some (by kernel_rfl))
  f314 := Tryz.func124.trans (congrArg some (by kernel_rfl))
  t3 := Tryz.underlying3
  a3 := Tryz.isAgg3
  z3 := Tryz.sizeOf3
  v3 := Tryz.zeroValue3
  t4 := Tryz.underlying4
  a4 := Tryz.isAgg4
  z4 := Tryz.sizeOf4
  v4 := Tryz.zeroValue4
  t5 := Tryz.underlying5
  a5 := Tryz.isAgg5
  z5 := Tryz.sizeOf5
  v5 := Tryz.zeroValue5
  t9 := Tryz.underlying9
  a9 := Tryz.isAgg9
  z9 := Tryz.sizeOf9
  v9 := Tryz.zeroValue9
  t46 := Tryz.underlying135
  a46 := Tryz.isAgg135
  z46 := Tryz.sizeOf135
  v46 := Tryz.zeroValue135
  t51 := Tryz.underlying152
  a51 := Tryz.isAgg152
  z51 := Tryz.sizeOf152
  v51 := Tryz.zeroValue152
  t59 := Tryz.underlying126
  a59 := Tryz.isAgg126
  z59 := Tryz.sizeOf126
  v59 := Tryz.zeroValue126
  t146 := Tryz.underlying153
  a146 := Tryz.isAgg153
  z146 := Tryz.sizeOf153
  v146 := Tryz.zeroValue153
  g1 := by kernel_rfl }
open Go.RowKit Go.Lib in
theorem Tryz.strings_Cut (s sep : ByteArray) (m : Int) (w : World) (hs : s.size < 4294967281) (hm : w.cell? ⟨0, 0, none⟩ = some (.int .i64 m)) :
    Calls Tryz.prog 83 #[.string s, .string sep] w fun e w' => e = .returned (.tuple #[.string ⟨(Lib.cut s.data.toList sep.data.toList).1.toArray⟩, .string ⟨(Lib.cut s.data.toList sep.data.toList).2.1.toArray⟩, .bool (Lib.cut s.data.toList sep.data.toList).2.2]) ∧ ∃ n, w' = w.drewN n := Any.strings_Cut Tryz.lays145 s sep m w hs hm
def Tryz.lays101_ren : Go.Shelf.Ren := ⟨fun | 101 => 78 | 208 => 104 | 206 => 125 | n => n, fun | 9 => 9 | 4 => 4 | 3 => 3 | n => n, fun | n => n⟩
theorem Tryz.lays101 : Go.Proofs.Lays.n101 Tryz.prog Tryz.lays101_ren := {
  mixed := by kernel_rfl
  f101 := Tryz.func78.trans (congrArg some (by kernel_rfl))
  f206 := Tryz.func125.trans (congrArg some (by kernel_rfl))
  f208 := Tryz.func104.trans (congrArg some (by kernel_rfl))
  t3 := Tryz.underlying3
  a3 := Tryz.isAgg3
  z3 := Tryz.sizeOf3
  v3 := Tryz.zeroValue3
  t4 := Tryz.underlying4
  a4 := Tryz.isAgg4
  z4 := Tryz.sizeOf4
  v4 := Tryz.zeroValue4
  t9 := Tryz.underlying9
  a9 := Tryz.isAgg9
  z9 := Tryz.sizeOf9
  v9 := Tryz.zeroValue9 }
open Go.RowKit Go.Lib in
theorem Tryz.strings_TrimPrefix (s p : ByteArray) (w : World) :
    Calls Tryz.prog 78 #[.string s, .string p] w fun e w' => e = .returned (.string ⟨(Lib.trimPrefix s.data.toList p.data.toList).toArray⟩) ∧ w' = w := Any.strings_TrimPrefix Tryz.lays101 s p w
def Tryz.lays146_ren : Go.Shelf.Ren := ⟨fun | 146 => 16 | 221 => 26 | 268 => 44 | 138 => 45 | 143 => 46 | 195 => 74 | 197 => 75 | 218 => 76 | 219 => 77 | 260 => 99 | 217 => 100 | 225 => 101 | 224 => 102 | 267 => 103 | 266 => 123 | 314 => 124 | n => n, fun | 9 => 9 | 31 => 26 | 3 => 3 | 4 => 4 | 0 => 0 | 105 => 120 | 21 => 21 | 5 => 5 | 46 => 135 | 119 => 148 | 139 => 151 | 138 => 150 | 146 => 153 | 51 => 152 | n => n, fun | 1 => 0 | 3 => 1 | 4 => 2 | n => n⟩
theorem Tryz.lays146 : Go.Proofs.Lays.n146 Tryz.prog Tryz.lays146_ren := {
  mixed := by kernel_rfl
  f138 := Tryz.func45.trans (congrArg some (by kernel_rfl))
  f143 := Tryz.func46.trans (congrArg some (by kernel_rfl))
  f146 := Tryz.func16.trans (congrArg some (by kernel_rfl))
  f195 := Tryz.func74.trans (congrArg some (by kernel_rfl))
  f197 := Tryz.func75.trans (congrArg some (by kernel_rfl))
  f217 := Tryz.func100.trans (congrArg some (by kernel_rfl))
  f218 := Tryz.func76.trans (congrArg some (by kernel_rfl))
  f219 := Tryz.func77.trans (congrArg some (by kernel_rfl))
  f221 := Tryz.func26.trans (congrArg some (by kernel_rfl))
  f224 := Tryz.func102.trans (congrArg some (by kernel_rfl))
  f225 := Tryz.func101.trans (congrArg some (by kernel_rfl))
  f260 := Tryz.func99.trans (congrArg some (by kernel_rfl))
  f266 := Tryz.func123.trans (congrArg some (by kernel_rfl))
  f267 := Tryz.func103.trans (congrArg some (by kernel_rfl))
  f268 := Tryz.func44.trans (congrArg some (by kernel_rfl))
  f314 := Tryz.func124.trans (congrArg some (by kernel_rfl))
  t0 := Tryz.underlying0
  a0 := Tryz.isAgg0
  z0 := Tryz.sizeOf0
  v0 := Tryz.zeroValue0
  t3 := Tryz.underlying3
  a3 := Tryz.isAgg3
  z3 := Tryz.sizeOf3
  v3 := Tryz.zeroValue3
  t4 := Tryz.underlying4
  a4 := Tryz.isAgg4
  z4 := Tryz.sizeOf4
  v4 := Tryz.zeroValue4
  t5 := Tryz.underlying5
  a5 := Tryz.isAgg5
  z5 := Tryz.sizeOf5
  v5 := Tryz.zeroValue5
  t9 := Tryz.underlying9
  a9 := Tryz.isAgg9
  z9 := Tryz.sizeOf9
  v9 := Tryz.zeroValue9
  t21 := Tryz.underlying21
  a21 := Tryz.isAgg21
  z21 := Tryz.sizeOf21
  v21 := Tryz.zeroValue21
  t31 := Tryz.underlying26
  a31 := Tryz.isAgg26
  z31 := Tryz.sizeOf26
  v31 := Tryz.zeroValue26
  t46 := Tryz.underlying135
  a46 := Tryz.isAgg135
  z46 := Tryz.sizeOf135
  v46 := Tryz.zeroValue135
  t51 := Tryz.underlying152
  a51 := Tryz.isAgg152
  z51 := Tryz.sizeOf152
  v51 := Tryz.zeroValue152
  t105 := Tryz.underlying120
  a105 := Tryz.isAgg120
  z105 := Tryz.sizeOf120
  v105 := Tryz.zeroValue120
  t119 := Tryz.underlying148
  a119 := Tryz.isAgg148
  z119 := Tryz.sizeOf148
  t138 := Tryz.underlying150
  a138 := Tryz.isAgg150
  z138 := Tryz.sizeOf150
  v138 := Tryz.zeroValue150
  t139 := Tryz.underlying151
  a139 := Tryz.isAgg151
  z139 := Tryz.sizeOf151
  v139 := Tryz.zeroValue151
  t146 := Tryz.underlying153
  a146 := Tryz.isAgg153
  z146 := Tryz.sizeOf153
  v146 := Tryz.zeroValue153
  g1 := by kernel_rfl
  g3 := by kernel_rfl
  g4 := by kernel_rfl }
open Go.RowKit Go.Lib in
theorem Tryz.strings_Split (s sep : ByteArray) (m : Int) (w : World) (hs : s.size < 4294967281) (hm : w.cell? ⟨0, 0, none⟩ = some (.int .i64 m)) (h1 : 1 ≤ sep.size) :
    Calls Tryz.prog 16 #[.string s, .string sep] w fun e w' =>
      e = .returned (.slice (some ⟨w.heap.size, 0, none⟩) (Lib.countB s sep + 1) (Lib.countB s sep + 1)) ∧ w' = w.alloc (.cells ((Lib.splitB sep 0 (Lib.countB s sep) s).map Value.string).toArray 9) := Any.strings_Split Tryz.lays146 (by kernel_rfl) s sep m w hs hm h1
open Go.RowKit Go.Lib in
theorem Tryz.strings_Trim (s cutset : ByteArray) (w : World) (hs : s.size ≤ 9223372036854775807) (hcs : cutset.size < 4294967281) (hascii : ∀ (j : Nat) b, cutset.data.toList[j]? = some b → b.toNat < 128) :
    Calls Tryz.prog 79 #[.string s, .string cutset] w fun e w' => e = .returned (.string ⟨(Lib.trimS s.data.toList cutset.data.toList).toArray⟩) ∧ Below w.heap.size w w' :=
  Any.strings_Trim_laid Tryz.lays160 (by kernel_rfl) s cutset w hs hcs hascii
end Go.Proofs

