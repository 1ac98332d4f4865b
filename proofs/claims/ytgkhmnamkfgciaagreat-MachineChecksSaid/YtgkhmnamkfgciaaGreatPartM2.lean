/- Contracts of the program, part 2. -/
import Derived.OwnWalk
import Derived.Laws.AppendOwn
import Derived.ProofKit
import Derived.OpenShut
import Derived.Deep.Slices
import Derived.ChangeOld
import Derived.SizedLaws
import Derived.WalkKit
import Derived.WalkSpells
import Derived.WalkLawsBesides
import Derived.Lib.Hide
import Derived.Deep.QuietTactic
import Derived.BigQuiet
import Derived.Below
import Derived.Deep.Draws
import Derived.StillTailTactics
import Derived.Laws.Cells
import Derived.Laws.IdiomCopy
import Derived.Test.YtgkhmnamkfgciaaGreatRows
import Derived.OneCell
import Derived.Deep.Upon
import Derived.Deep.AppendLies
import Derived.Deep.RegionHeld3
import Derived.Lib.Bytealg
import Derived.Test.YtgkhmnamkfgciaaGreatPartM1
namespace Go.Proofs.YtgkhmnamkfgciaaGreat
open Go.RowKit
set_option linter.unusedVariables false
theorem Aft.cell_kept {w w' : World} (h : Aft w w') {a : Addr} {v : Value} (hc : w.cell? a = some v) : w'.cell? a = some v := (Below.cell h (World.block_lt_of_cell? w a hc)).trans hc
/-- a block that may be written and that begins with these cells -/
def RowAt (w : World) (g : Nat) (xs : List Value) : Prop := g < w.heap.size ∧ (∀ j, j < xs.length → w.cell? ⟨g, j, none⟩ = xs[j]?) ∧ ∀ j, j < xs.length → w.frozen? ⟨g, j, none⟩ = false
theorem RowAt.aft {w w' : World} {g : Nat} {xs : List Value} (h : RowAt w g xs) (a : Aft w w') : RowAt w' g xs :=
  ⟨Nat.lt_of_lt_of_le h.1 a.size, fun j hj => (Below.cell a (p := ⟨g, j, none⟩) h.1).trans (h.2.1 j hj), fun j hj => (Below.frozen a (p := ⟨g, j, none⟩) h.1).trans (h.2.2 j hj)⟩
theorem RowAt.cell {w : World} {g : Nat} {xs : List Value} (h : RowAt w g xs) {j : Nat} {v : Value} (hj : xs[j]? = some v) : w.cell? ⟨g, j, none⟩ = some v :=
  (h.2.1 j (List.getElem?_eq_some_iff.1 hj).1).trans hj
theorem RowAt.set {w : World} {g : Nat} {xs : List Value} (h : RowAt w g xs) (j : Nat) (v : Value) (hj : j < xs.length) : RowAt (w.setCell ⟨g, j, none⟩ v) g (xs.set j v) := by
  have hc : w.cell? ⟨g, j, none⟩ = some xs[j] := (h.2.1 j hj).trans (List.getElem?_eq_getElem hj)
  refine ⟨by simpa using h.1, fun k hk => ?_, fun k hk => ?_⟩
  · rw [List.length_set] at hk
    by_cases e : k = j
    · subst e
      rw [World.cell?_setCell_same (h := hc), List.getElem?_set_self hj]
    · rw [World.cell?_setCell_other (h := by intro e2; injection e2 with _ e3 _; exact e e3.symm), List.getElem?_set_ne (fun e2 => e e2.symm)]
      exact h.2.1 k hk
  · rw [List.length_set] at hk
    rw [World.frozen?_setCell]; exact h.2.2 k hk
/-- a slice value that leads to such a row -/
def RowV (w : World) (base : Nat) (v : Value) (n : Nat) (xs : List Value) : Prop := ∃ A cap, v = .slice A n cap ∧ n ≤ cap ∧ (0 < n → ∃ g, A = some ⟨g, 0, none⟩ ∧ base ≤ g ∧ RowAt w g xs)
theorem RowV.aft {w w' : World} {base n : Nat} {v : Value} {xs : List Value} (h : RowV w base v n xs) (a : Aft w w') : RowV w' base v n xs := by
  obtain ⟨A, cap, e, hc, hg⟩ := h
  exact ⟨A, cap, e, hc, fun h0 => by obtain ⟨g, hA, hb, hr⟩ := hg h0; exact ⟨g, hA, hb, hr.aft a⟩⟩
theorem own_rowV {w : World} {base size n : Nat} {e : TypeId} {v : Value} {xs : List Value} (h : w.ownsRow base e size v n xs) : RowV w base v n xs := by
  rcases h.2 with ⟨rfl, hn⟩ | ⟨g, cap, cur, rfl, hb, hgg, hnc, _, hcs, htk⟩
  · exact ⟨none, 0, by rw [hn], by omega, fun h0 => by omega⟩
  · refine ⟨_, cap, rfl, hnc, fun _ => ⟨g, rfl, hb, (Array.getElem?_eq_some_iff.1 hgg).1, fun j hj => ?_, fun j _ => ?_⟩⟩
    · rw [h.1] at hj
      rw [← htk, List.getElem?_take_of_lt hj]
      simp [World.cell?, hgg]
    · simp [World.frozen?, hgg]

section
variable {α : Type} {size : Nat} {R : World → List Value → α → Prop} {w w' : World}
theorem flat_len : ∀ (css : List (List Value)), (∀ c ∈ css, c.length = size) → css.flatten.length = css.length * size
  | [], _ => by simp
  | c :: css, h => by
    rw [List.flatten_cons, List.length_append, h c (by simp), flat_len css fun x hx => h x (by simp [hx]), List.length_cons, Nat.succ_mul]; omega
theorem flat_get : ∀ (css : List (List Value)), (∀ c ∈ css, c.length = size) → ∀ i j (hi : i < css.length), j < size → css.flatten[i * size + j]? = css[i][j]?
  | [], _, i, j, hi, _ => by simp at hi
  | c :: css, h, 0, j, _, hj => by
    rw [List.flatten_cons, Nat.zero_mul, Nat.zero_add, List.getElem?_append_left (by rw [h c (by simp)]; exact hj)]; rfl
  | c :: css, h, i + 1, j, hi, hj => by
    have e : (i + 1) * size + j = size + (i * size + j) := by rw [Nat.succ_mul]; omega
    rw [List.flatten_cons, e, List.getElem?_append_right (by rw [h c (by simp)]; omega), h c (by simp), Nat.add_sub_cancel_left]
    exact flat_get css (fun x hx => h x (by simp [hx])) i j (by simpa using hi) hj
theorem flat_set : ∀ (css : List (List Value)), (∀ c ∈ css, c.length = size) → ∀ i j (hi : i < css.length) (v : Value), j < size → css.flatten.set (i * size + j) v = (css.set i (css[i].set j v)).flatten
  | [], _, i, j, hi, _, _ => by simp at hi
  | c :: css, h, 0, j, _, v, hj => by
    rw [List.flatten_cons, Nat.zero_mul, Nat.zero_add, List.set_append_left _ _ (by rw [h c (by simp)]; exact hj)]; rfl
  | c :: css, h, i + 1, j, hi, v, hj => by
    have e : (i + 1) * size + j = size + (i * size + j) := by rw [Nat.succ_mul]; omega
    rw [List.flatten_cons, e, List.set_append_right _ _ (by rw [h c (by simp)]; omega), h c (by simp), Nat.add_sub_cancel_left, flat_set css (fun x hx => h x (by simp [hx])) i j (by simpa using hi) v hj]
    rfl
/-- the cells of each element -/
def Chunks (w : World) (size : Nat) (R : World → List Value → α → Prop) (css : List (List Value)) (l : List α) : Prop := css.length = l.length ∧ ∀ i (h : i < css.length) (h' : i < l.length), css[i].length = size ∧ R w css[i] l[i]
theorem Chunks.all {css : List (List Value)} {l : List α} (h : Chunks w size R css l) : ∀ c ∈ css, c.length = size := by
  intro c hc
  obtain ⟨i, hi, rfl⟩ := List.getElem_of_mem hc
  exact (h.2 i hi (by rw [← h.1]; exact hi)).1
theorem Chunks.len {css : List (List Value)} {l : List α} (h : Chunks w size R css l) : css.flatten.length = l.length * size := by rw [flat_len css h.all, h.1]
theorem Chunks.aft {css : List (List Value)} {l : List α} (h : Chunks w size R css l) (hR : ∀ cs x, R w cs x → R w' cs x) : Chunks w' size R css l := ⟨h.1, fun i h1 h2 => ⟨(h.2 i h1 h2).1, hR _ _ (h.2 i h1 h2).2⟩⟩
theorem Chunks.nil : Chunks w size R [] ([] : List α) := ⟨rfl, fun i h => by simp at h⟩
theorem Chunks.snoc {css : List (List Value)} {l : List α} (h : Chunks w size R css l) {c : List Value} {x : α} (hl : c.length = size) (hR : R w c x) : Chunks w size R (css ++ [c]) (l ++ [x]) := by
  refine ⟨by simp [h.1], fun i h1 h2 => ?_⟩
  by_cases hi : i < css.length
  · rw [List.getElem_append_left hi, List.getElem_append_left (by rw [← h.1]; exact hi)]
    exact h.2 i hi (by rw [← h.1]; exact hi)
  · have e : i = css.length := by simp at h1; omega
    subst e
    have e2 : l.length = css.length := h.1.symm
    simp only [List.getElem_append_right (Nat.le_refl _), Nat.sub_self, List.getElem_cons_zero]
    rw [List.getElem_append_right (by omega)]
    simp only [e2, Nat.sub_self, List.getElem_cons_zero]
    exact ⟨hl, hR⟩
theorem Chunks.set {css : List (List Value)} {l : List α} (h : Chunks w size R css l) {k : Nat} {c : List Value} {x : α} (hl : c.length = size) (hR : R w c x) : Chunks w size R (css.set k c) (l.set k x) := by
  refine ⟨by simp [h.1], fun i h1 h2 => ?_⟩
  simp only [List.length_set] at h1 h2
  by_cases e : k = i
  · subst e
    simp only [List.getElem_set_self]
    exact ⟨hl, hR⟩
  · rw [List.getElem_set_ne e, List.getElem_set_ne e]
    exact h.2 i h1 h2
theorem SlAt.css {A : Option Addr} {cap : Nat} {l : List α} (h : SlAt w size R A cap l) (h0 : 0 < l.length) (hs : 0 < size) :
    ∃ b off css, A = some ⟨b, off, none⟩ ∧ b < w.heap.size ∧ Chunks w size R css l ∧ ∀ p, p < l.length * size → w.cell? ⟨b, off + p, none⟩ = css.flatten[p]? := by
  obtain ⟨b, off, cs0, hA, hb, _⟩ := h.2.2 0 h0
  have hex : ∀ i, i < l.length → ∃ cs : List Value, ∀ hi : i < l.length, cs.length = size ∧ R w cs l[i] ∧ ∀ j, j < size → w.cell? ⟨b, off + (i * size + j), none⟩ = cs[j]? := by
    intro i hi
    obtain ⟨b', off', cs, hA', hb', hl, hR, hc⟩ := h.2.2 i hi
    rw [hA] at hA'
    simp only [Option.some.injEq, Addr.mk.injEq, and_true] at hA'
    obtain ⟨rfl, rfl⟩ := hA'
    exact ⟨cs, fun _ => ⟨hl, hR, hc⟩⟩
  obtain ⟨css, hcl, hp⟩ := choose_list l.length _ hex
  have hch : Chunks w size R css l := ⟨hcl, fun i h1 h2 => ⟨(hp i h1 h2).1, (hp i h1 h2).2.1⟩⟩
  refine ⟨b, off, css, hA, hb, hch, fun p hpl => ?_⟩
  have e : p = p / size * size + p % size := by rw [Nat.mul_comm]; exact (Nat.div_add_mod p size).symm
  have hi : p / size < l.length := Nat.div_lt_of_lt_mul (by rw [Nat.mul_comm]; exact hpl)
  have hj : p % size < size := Nat.mod_lt _ hs
  have h1 := (hp (p / size) (by rw [hcl]; exact hi) hi).2.2 (p % size) hj
  rw [← e] at h1
  rw [h1, ← flat_get css hch.all (p / size) (p % size) (by rw [hcl]; exact hi) hj, ← e]
theorem row_slAt {g cap : Nat} {css : List (List Value)} {l : List α} (hr : RowAt w g css.flatten) (hc : Chunks w size R css l) (hcap : l.length ≤ cap) (hs : Small (l.length * 16)) : SlAt w size R (some ⟨g, 0, none⟩) cap l := by
  refine ⟨hcap, hs, fun i hi => ?_⟩
  have hi' : i < css.length := by rw [hc.1]; exact hi
  refine ⟨g, 0, css[i], rfl, hr.1, (hc.2 i hi' hi).1, (hc.2 i hi' hi).2, fun j hj => ?_⟩
  rw [Nat.zero_add, ← flat_get css hc.all i j hi' hj]
  refine hr.2.1 _ ?_
  rw [hc.len]
  have : (i + 1) * size ≤ l.length * size := Nat.mul_le_mul_right _ hi
  rw [Nat.succ_mul] at this; omega
theorem rowV_slAt {base : Nat} {v : Value} {css : List (List Value)} {l : List α} (h : RowV w base v l.length css.flatten) (hc : Chunks w size R css l) (hs : Small (l.length * 16)) : ∃ A cap, v = .slice A l.length cap ∧ SlAt w size R A cap l := by
  obtain ⟨A, cap, e, hcap, hg⟩ := h
  by_cases h0 : 0 < l.length
  · obtain ⟨g, rfl, _, hr⟩ := hg h0
    exact ⟨_, cap, e, row_slAt hr hc hcap hs⟩
  · have : l = [] := List.eq_nil_of_length_eq_zero (by omega)
    subst this
    exact ⟨A, cap, e, hcap, hs, fun i hi => by simp at hi⟩
/-- one cell of one element is written -/
theorem RowAt.put {g : Nat} {css : List (List Value)} (hr : RowAt w g css.flatten) (hl : ∀ c ∈ css, c.length = size) (i j : Nat) (hi : i < css.length) (hj : j < size) (v : Value) : RowAt (w.setCell ⟨g, i * size + j, none⟩ v) g (css.set i (css[i].set j v)).flatten := by
  rw [← flat_set css hl i j hi v hj]
  refine hr.set _ v ?_
  rw [flat_len css hl]
  have : (i + 1) * size ≤ css.length * size := Nat.mul_le_mul_right _ hi
  rw [Nat.succ_mul] at this; omega
end
end Go.Proofs.YtgkhmnamkfgciaaGreat

namespace Go.Proofs.YtgkhmnamkfgciaaGreat
open Go.RowKit
set_option linter.unusedVariables false
/-- all but the blocks from B up to B' is as it was -/
structure Kp (B B' : Nat) (w w' : World) : Prop where
  os : w'.os = w.os
  tape : w'.tape = w.tape
  output : w'.output = w.output
  size : w.heap.size ≤ w'.heap.size
  block : ∀ k, k < w.heap.size → (k < B ∨ B' ≤ k) → w'.heap[k]? = w.heap[k]?
theorem Kp.refl (B B' : Nat) (w : World) : Kp B B' w w := ⟨rfl, rfl, rfl, Nat.le_refl _, fun _ _ _ => rfl⟩
theorem Kp.aft {B B' : Nat} {w w' w'' : World} (h : Kp B B' w w') (a : Aft w' w'') : Kp B B' w w'' :=
  ⟨a.os.trans h.os, a.tape.trans h.tape, a.output.trans h.output, Nat.le_trans h.size a.size, fun k hk hb => (a.block k (Nat.lt_of_lt_of_le hk h.size)).trans (h.block k hk hb)⟩
theorem Kp.trans {B B' : Nat} {w w' w'' : World} (h : Kp B B' w w') (a : Kp B B' w' w'') : Kp B B' w w'' :=
  ⟨a.os.trans h.os, a.tape.trans h.tape, a.output.trans h.output, Nat.le_trans h.size a.size, fun k hk hb => (a.block k (Nat.lt_of_lt_of_le hk h.size) hb).trans (h.block k hk hb)⟩
theorem Kp.of_aft {B B' : Nat} {w w' : World} (a : Aft w w') : Kp B B' w w' := (Kp.refl B B' w).aft a
theorem Kp.set {B B' : Nat} {w w' : World} (h : Kp B B' w w') (p : Addr) (v : Value) (h1 : B ≤ p.block) (h2 : p.block < B') : Kp B B' w (w'.setCell p v) :=
  ⟨h.os, h.tape, h.output, by simpa using h.size, fun k hk hb => by rw [Below.heap_setCell _ _ _ _ (by omega)]; exact h.block k hk hb⟩
theorem Kp.cell {B B' : Nat} {w w' : World} (h : Kp B B' w w') {p : Addr} {v : Value} (hc : w.cell? p = some v) (hb : p.block < B ∨ B' ≤ p.block) : w'.cell? p = some v := by
  have := h.block p.block (World.block_lt_of_cell? w p hc) hb
  unfold World.cell? at hc ⊢
  rw [this]; exact hc
theorem Kp.to_aft {B B' : Nat} {W0 w w' : World} (h : Kp B B' w w') (a : Aft W0 w) (hB : W0.heap.size ≤ B) : Aft W0 w' :=
  ⟨h.os.trans a.os, h.tape.trans a.tape, h.output.trans a.output, Nat.le_trans a.size h.size, fun k hk => (h.block k (Nat.lt_of_lt_of_le hk a.size) (.inl (Nat.lt_of_lt_of_le hk hB))).trans (a.block k hk)⟩
/-- a block of a kind, that may be written -/
def Blk (w : World) (B B' g : Nat) (e : TypeId) (n : Nat) : Prop := B ≤ g ∧ g < B' ∧ ∃ cur, w.heap[g]? = some (.cells cur e (0, 0)) ∧ n ≤ cur.size
theorem Blk.lt {w : World} {B B' g n : Nat} {e : TypeId} (h : Blk w B B' g e n) : g < w.heap.size := by
  obtain ⟨_, _, cur, hg, _⟩ := h; exact lt_of_block hg
theorem Blk.cell {w : World} {B B' g n : Nat} {e : TypeId} (h : Blk w B B' g e n) {j : Nat} (hj : j < n) : ∃ v, w.cell? ⟨g, j, none⟩ = some v := by
  obtain ⟨_, _, cur, hg, hn⟩ := h
  exact ⟨cur[j]'(by omega), by simp [World.cell?, hg]⟩
theorem Blk.free {w : World} {B B' g n : Nat} {e : TypeId} (h : Blk w B B' g e n) (j : Nat) : w.frozen? ⟨g, j, none⟩ = false := by
  obtain ⟨_, _, cur, hg, hn⟩ := h
  simp [World.frozen?, hg]
theorem Blk.aft {w w' : World} {B B' g n : Nat} {e : TypeId} (h : Blk w B B' g e n) (a : Aft w w') : Blk w' B B' g e n := by
  have hl := h.lt
  obtain ⟨h1, h2, cur, hg, hn⟩ := h
  exact ⟨h1, h2, cur, (a.block g hl).trans hg, hn⟩
theorem Blk.set {w : World} {B B' g n : Nat} {e : TypeId} (h : Blk w B B' g e n) (g0 j0 : Nat) (v : Value) : Blk (w.setCell ⟨g0, j0, none⟩ v) B B' g e n := by
  have hl := h.lt
  obtain ⟨h1, h2, cur, hg, hn⟩ := h
  by_cases hgg : g0 = g
  · subst hgg
    refine ⟨h1, h2, cur.setIfInBounds j0 v, ?_, by simpa using hn⟩
    have h' : w.heap[g0] = .cells cur e (0, 0) := by simpa [Array.getElem?_eq_getElem hl] using hg
    show (w.heap.modify g0 _)[g0]? = _
    rw [Array.getElem?_eq_getElem (by simpa using hl), Array.getElem_modify_self, h']
    simp
  · exact ⟨h1, h2, cur, by rw [Below.heap_setCell _ _ _ _ (by simpa using fun e => hgg e.symm)]; exact hg, hn⟩
/-- a slice's head -/
structure Hd where
  a : Option Addr
  n : Nat
  c : Nat
def Hd.v (h : Hd) : Value := .slice h.a h.n h.c
structure Lay where
  col : Nat → Hd
  rul : Nat → Hd
  nam : Nat → Nat → Hd
def ShV (w : World) (B B' : Nat) (e : TypeId) (size : Nat) (h : Hd) : Prop := h.n * 16 ≤ 140737488351232 ∧ (0 < h.n → ∃ g, h.a = some ⟨g, 0, none⟩ ∧ Blk w B B' g e (h.n * size))
theorem ShV.aft {w w' : World} {B B' size : Nat} {e : TypeId} {h : Hd} (s : ShV w B B' e size h) (a : Aft w w') : ShV w' B B' e size h :=
  ⟨s.1, fun h0 => by obtain ⟨g, hg, hb⟩ := s.2 h0; exact ⟨g, hg, hb.aft a⟩⟩
theorem ShV.set {w : World} {B B' size : Nat} {e : TypeId} {h : Hd} (s : ShV w B B' e size h) (g0 j0 : Nat) (v : Value) : ShV (w.setCell ⟨g0, j0, none⟩ v) B B' e size h :=
  ⟨s.1, fun h0 => by obtain ⟨g, hg, hb⟩ := s.2 h0; exact ⟨g, hg, hb.set g0 j0 v⟩⟩
/-- rules of our own: each has its names -/
def ShR (w : World) (B B' : Nat) (h : Hd) (nam : Nat → Hd) : Prop := h.n * 16 ≤ 140737488351232 ∧ (0 < h.n → ∃ g, h.a = some ⟨g, 0, none⟩ ∧ Blk w B B' g 42 (h.n * 8) ∧ ∀ j, j < h.n → w.cell? ⟨g, j * 8 + 2, none⟩ = some (nam j).v) ∧ ∀ j, j < h.n → ShV w B B' 9 1 (nam j)
/-- tables of our own -/
def ShT (w : World) (B B' : Nat) (h : Hd) (L : Lay) : Prop := h.n * 16 ≤ 140737488351232 ∧ (0 < h.n → ∃ g, h.a = some ⟨g, 0, none⟩ ∧ Blk w B B' g 86 (h.n * 5) ∧ ∀ i, i < h.n → w.cell? ⟨g, i * 5 + 3, none⟩ = some (L.col i).v ∧ w.cell? ⟨g, i * 5 + 4, none⟩ = some (L.rul i).v) ∧
  ∀ i, i < h.n → ShV w B B' 109 3 (L.col i) ∧ ShR w B B' (L.rul i) (L.nam i)
/-- a store that leaves the heads alone -/
def OkW (w : World) (g0 j0 : Nat) : Prop := ∃ cur e0 f, w.heap[g0]? = some (.cells cur e0 f) ∧ (e0 = 42 → j0 % 8 ≠ 2) ∧ (e0 = 86 → j0 % 5 ≠ 3 ∧ j0 % 5 ≠ 4)
theorem cell_far {w : World} {g j g0 j0 : Nat} {v u : Value} (hc : w.cell? ⟨g, j, none⟩ = some u) (hne : ¬ (g0 = g ∧ j0 = j)) : (w.setCell ⟨g0, j0, none⟩ v).cell? ⟨g, j, none⟩ = some u := by
  refine (World.cell?_setCell_other _ _ _ _ ?_).trans hc
  intro e; injection e with e1 e2 _; exact hne ⟨e1, e2⟩
theorem ok_rule {w : World} {g0 j0 g n B B' i : Nat} (ok : OkW w g0 j0) (b : Blk w B B' g 42 n) : ¬ (g0 = g ∧ j0 = i * 8 + 2) := by
  rintro ⟨rfl, rfl⟩
  obtain ⟨cur, e0, f, hg, h1, _⟩ := ok
  obtain ⟨_, _, cur', hg', _⟩ := b
  rw [hg] at hg'
  simp only [Option.some.injEq, Obj.cells.injEq] at hg'
  exact h1 hg'.2.1 (by omega)
theorem ok_tab {w : World} {g0 j0 g n B B' i : Nat} (ok : OkW w g0 j0) (b : Blk w B B' g 86 n) : ¬ (g0 = g ∧ j0 = i * 5 + 3) ∧ ¬ (g0 = g ∧ j0 = i * 5 + 4) := by
  obtain ⟨cur, e0, f, hg, _, h1⟩ := ok
  obtain ⟨_, _, cur', hg', _⟩ := b
  constructor
  · rintro ⟨rfl, rfl⟩
    rw [hg] at hg'
    simp only [Option.some.injEq, Obj.cells.injEq] at hg'
    exact (h1 hg'.2.1).1 (by omega)
  · rintro ⟨rfl, rfl⟩
    rw [hg] at hg'
    simp only [Option.some.injEq, Obj.cells.injEq] at hg'
    exact (h1 hg'.2.1).2 (by omega)
theorem ShR.set {w : World} {B B' : Nat} {h : Hd} {nam : Nat → Hd} (s : ShR w B B' h nam) {g0 j0 : Nat} (ok : OkW w g0 j0) (v : Value) : ShR (w.setCell ⟨g0, j0, none⟩ v) B B' h nam :=
  ⟨s.1, fun h0 => by obtain ⟨g, hg, hb, hc⟩ := s.2.1 h0; exact ⟨g, hg, hb.set g0 j0 v, fun j hj => cell_far (hc j hj) (ok_rule ok hb)⟩, fun j hj => (s.2.2 j hj).set g0 j0 v⟩
theorem ShT.set {w : World} {B B' : Nat} {h : Hd} {L : Lay} (s : ShT w B B' h L) {g0 j0 : Nat} (ok : OkW w g0 j0) (v : Value) : ShT (w.setCell ⟨g0, j0, none⟩ v) B B' h L :=
  ⟨s.1, fun h0 => by obtain ⟨g, hg, hb, hc⟩ := s.2.1 h0; exact ⟨g, hg, hb.set g0 j0 v, fun i hi => ⟨cell_far (hc i hi).1 (ok_tab ok hb).1, cell_far (hc i hi).2 (ok_tab ok hb).2⟩⟩, fun i hi => ⟨(s.2.2 i hi).1.set g0 j0 v, (s.2.2 i hi).2.set ok v⟩⟩
theorem ShR.aft {w w' : World} {B B' : Nat} {h : Hd} {nam : Nat → Hd} (s : ShR w B B' h nam) (a : Aft w w') : ShR w' B B' h nam :=
  ⟨s.1, fun h0 => by obtain ⟨g, hg, hb, hc⟩ := s.2.1 h0; exact ⟨g, hg, hb.aft a, fun j hj => a.cell_kept (hc j hj)⟩, fun j hj => (s.2.2 j hj).aft a⟩
theorem ShT.aft {w w' : World} {B B' : Nat} {h : Hd} {L : Lay} (s : ShT w B B' h L) (a : Aft w w') : ShT w' B B' h L :=
  ⟨s.1, fun h0 => by obtain ⟨g, hg, hb, hc⟩ := s.2.1 h0; exact ⟨g, hg, hb.aft a, fun i hi => ⟨a.cell_kept (hc i hi).1, a.cell_kept (hc i hi).2⟩⟩, fun i hi => ⟨(s.2.2 i hi).1.aft a, (s.2.2 i hi).2.aft a⟩⟩
theorem Blk.ok {w : World} {B B' g n : Nat} {e : TypeId} (h : Blk w B B' g e n) (j : Nat) (h1 : e = 42 → j % 8 ≠ 2) (h2 : e = 86 → j % 5 ≠ 3 ∧ j % 5 ≠ 4) : OkW w g j := by
  obtain ⟨_, _, cur, hg, _⟩ := h
  exact ⟨cur, e, (0, 0), hg, h1, h2⟩
/-- objects of our own -/
structure Sh (w : World) (B B' : Nat) (hs ht : Hd) (L : Lay) : Prop where
  sch : ShV w B B' 96 2 hs
  tab : ShT w B B' ht L
theorem Sh.set {w : World} {B B' : Nat} {hs ht : Hd} {L : Lay} (s : Sh w B B' hs ht L) {g0 j0 : Nat} (ok : OkW w g0 j0) (v : Value) : Sh (w.setCell ⟨g0, j0, none⟩ v) B B' hs ht L := ⟨s.sch.set g0 j0 v, s.tab.set ok v⟩
theorem Sh.aft {w w' : World} {B B' : Nat} {hs ht : Hd} {L : Lay} (s : Sh w B B' hs ht L) (a : Aft w w') : Sh w' B B' hs ht L := ⟨s.sch.aft a, s.tab.aft a⟩
end Go.Proofs.YtgkhmnamkfgciaaGreat

namespace Go.Proofs.YtgkhmnamkfgciaaGreat
open Go.RowKit
set_option maxRecDepth 100000
set_option linter.unusedVariables false
/-- what Clone gives: a row of its own, with the same cells -/
def CloneQ {α : Type} (ty : TypeId) (size : Nat) (R : World → List Value → α → Prop) (w0 w : World) (l : List α) (e : Ending) (w' : World) : Prop :=
  ∃ v css, e = .returned v ∧ Aft w w' ∧ w'.ownsRow w.heap.size ty size v l.length css.flatten ∧ Chunks w0 size R css l
theorem info2Str : (Tryz.prog.info? 9).map (fun i => (i.zero, i.size, i.bytes)) = some (some (.string ByteArray.empty), 1, 16) := by kernel_rfl
set_option maxHeartbeats 2000000 in
theorem clone2Str (A : Option Addr) (cap : Nat) (l : List ByteArray) (w0 w : World) (ha : Aft w0 w) (h : SlAt w0 1 StrR A cap l) (hb : l.length ≤ 1000000) :
    Calls Tryz.prog 97 #[.slice A l.length cap] w (CloneQ 9 1 StrR w0 w l) := by
  obtain ⟨i0, hi, hz0, hz1, hz2⟩ := info_parts info2Str
  have q22 : ∀ (w : World) (a : Option Addr) (n c n' c' : Nat), (binOp .eql 26 (.slice a n c) (.slice none n' c')).run Tryz.prog w = .ok (.bool a.isNone) w := fun w a n c n' c' => Lib.run_eql_slice_nil w _ _ a n c n' c' Tryz.underlying26
  cases A with
  | none =>
    have hl0 : l = [] := by
      cases l with
      | nil => rfl
      | cons x l => obtain ⟨b, off, cs, hA, _⟩ := h.2.2 0 (by simp); cases hA
    subst hl0
    go_enter Tryz.func97, Tryz.ntmps97
    go_wp2_with fail
    go_ret
    exact ⟨_, [], rfl, Aft.refl _, own_nil _ _ _ _, Chunks.nil⟩
  | some ad =>
    have HC : ∃ css, Chunks w0 1 StrR css l ∧ ∀ p u, css.flatten[p]? = some u → w.cell? (ad.add p) = some u := by
      by_cases h0 : 0 < l.length
      · obtain ⟨b, off, css, hA, hb', hch, hc⟩ := h.css h0 (by decide)
        simp only [Option.some.injEq] at hA
        subst hA
        refine ⟨css, hch, fun p u hp => ?_⟩
        have hlt : p < l.length * 1 := by rw [← hch.len]; exact (List.getElem?_eq_some_iff.1 hp).1
        rw [add_mk]; exact ha.cell_kept ((hc p hlt).trans hp)
      · have hl0 : l = [] := List.eq_nil_of_length_eq_zero (by omega)
        subst hl0
        exact ⟨[], Chunks.nil, fun p u hp => by simp at hp⟩
    obtain ⟨css, hch, hcell⟩ := HC
    have H1 := Lib.hid hcell
    have H2 : Hid (∀ u ∈ css.flatten, u.oneCell' = true) := Lib.hid (by
      intro u hu
      obtain ⟨c, hc, hu⟩ := List.mem_flatten.1 hu
      obtain ⟨i, hi, rfl⟩ := List.getElem_of_mem hc
      have h3 := (hch.2 i hi (by rw [← hch.1]; exact hi)).2
      obtain ⟨hcs, _⟩ := h3
      rw [hcs] at hu
      simp only [List.mem_cons, List.not_mem_nil, or_false] at hu
      rcases hu with rfl <;> simp [Value.oneCell'])
    have H3 := Lib.hid hch
    have HI := Lib.hid hi
    have HZ0 := Lib.hid hz0
    have HZ1 := Lib.hid hz1
    have HZ2 := Lib.hid hz2
    clear hcell hch hi hz0 hz1 hz2 h ha
    go_enter Tryz.func97, Tryz.ntmps97
    go_wp2_with (at_builtin; refine wpList_append_own _ rfl _ _ 26 rfl w.heap.size 9 i0 (.string ByteArray.empty) 1 16 Tryz.underlying26 HI.out HZ0.out HZ1.out HZ2.out rfl (by decide) _ _ _ rfl (World.ownsRow_made w #[] 0 (Nat.le_refl _) (Nat.zero_le _) rfl) ad l.length cap css.flatten rfl ?qc1 ?qc2 ?qc3 ?qc4 ?qc5 ?qc6 ?_)
    case qc1 => exact H3.out.len
    case qc2 =>
      intro j u hj
      exact Lib.cell?_alloc_some _ (H1.out j u hj)
    case qc3 => exact H2.out
    case qc4 => unfold maxLen; omega
    case qc5 => omega
    case qc6 => simp
    intro v' w1 hown hgrow hnil
    have HO := Lib.hid hown
    have HA := Lib.hid (show Aft w w1 from ((Below.refl _ w).alloc (Nat.le_refl _) _).grown hgrow (by simp) (by intro k hk; simp [Value.ownBlock] at hk; omega))
    clear hown hgrow hnil
    go_wp2_with fail
    go_ret
    refine ⟨v', css, rfl, HA.out, ?_, H3.out⟩
    simpa using HO.out
end Go.Proofs.YtgkhmnamkfgciaaGreat

namespace Go.Proofs.YtgkhmnamkfgciaaGreat
open Go.RowKit Go.Deep
set_option linter.unusedVariables false
def Hd.blk (h : Hd) : List Nat := match h.a with | some p => [p.block] | none => []
theorem Hd.mem_blk {h : Hd} {g : Nat} : g ∈ h.blk ↔ h.v.ownBlock = some g := by
  obtain ⟨a, n, c⟩ := h
  cases a <;> simp [Hd.blk, Hd.v, Value.ownBlock, eq_comm]
/-- all but the blocks that P names is as it was -/
structure Kb (P : Nat → Prop) (w w' : World) : Prop where
  os : w'.os = w.os
  tape : w'.tape = w.tape
  output : w'.output = w.output
  size : w.heap.size ≤ w'.heap.size
  block : ∀ k, k < w.heap.size → ¬ P k → w'.heap[k]? = w.heap[k]?
theorem Kb.refl (P : Nat → Prop) (w : World) : Kb P w w := ⟨rfl, rfl, rfl, Nat.le_refl _, fun _ _ _ => rfl⟩
theorem Kb.of_aft {P : Nat → Prop} {w w' : World} (a : Aft w w') : Kb P w w' := ⟨a.os, a.tape, a.output, a.size, fun k hk _ => a.block k hk⟩
theorem Kb.of_grown {w w' : World} {row : Option Nat} (h : w.grownBy w' row) : Kb (fun k => row = some k) w w' := ⟨h.os, h.tape, h.output, h.size, fun k hk hn => h.block k hk fun e => hn e.symm⟩
theorem Kb.mono {P Q : Nat → Prop} {w w' : World} (h : Kb P w w') (hq : ∀ k, k < w.heap.size → P k → Q k) : Kb Q w w' := ⟨h.os, h.tape, h.output, h.size, fun k hk hn => h.block k hk fun hp => hn (hq k hk hp)⟩
theorem Kb.trans {P : Nat → Prop} {w w' w'' : World} (h : Kb P w w') (h' : Kb P w' w'') : Kb P w w'' :=
  ⟨h'.os.trans h.os, h'.tape.trans h.tape, h'.output.trans h.output, Nat.le_trans h.size h'.size, fun k hk hn => (h'.block k (Nat.lt_of_lt_of_le hk h.size) hn).trans (h.block k hk hn)⟩
theorem Kb.set (w : World) (g j : Nat) (v : Value) : Kb (fun k => k = g) w (w.setCell ⟨g, j, none⟩ v) :=
  ⟨rfl, rfl, rfl, by simp, fun k hk hn => Below.heap_setCell _ _ _ _ hn⟩
theorem Kb.to_aft {P : Nat → Prop} {W w w' : World} (h : Kb P w w') (a : Aft W w) (hP : ∀ k, k < W.heap.size → ¬ P k) : Aft W w' :=
  ⟨h.os.trans a.os, h.tape.trans a.tape, h.output.trans a.output, Nat.le_trans a.size h.size, fun k hk => (h.block k (Nat.lt_of_lt_of_le hk a.size) (hP k hk)).trans (a.block k hk)⟩
theorem Kb.cell {P : Nat → Prop} {w w' : World} (h : Kb P w w') {p : Addr} {v : Value} (hc : w.cell? p = some v) (hb : ¬ P p.block) : w'.cell? p = some v := by
  have := h.block p.block (World.block_lt_of_cell? w p hc) hb
  unfold World.cell? at hc ⊢
  rw [this]; exact hc
theorem Kb.row {P : Nat → Prop} {w w' : World} (h : Kb P w w') {g : Nat} {xs : List Value} (hr : RowAt w g xs) (hb : ¬ P g) : RowAt w' g xs := by
  have := h.block g hr.1 hb
  refine ⟨Nat.lt_of_lt_of_le hr.1 h.size, fun j hj => ?_, fun j hj => ?_⟩
  · rw [← hr.2.1 j hj]; simp [World.cell?, this]
  · rw [← hr.2.2 j hj]; simp [World.frozen?, this]
theorem own_kb {P : Nat → Prop} {w w' : World} {B size n : Nat} {e : TypeId} {v : Value} {xs : List Value} (h : w.ownsRow B e size v n xs) (k : Kb P w w') (hne : ∀ g, v.ownBlock = some g → ¬ P g) : w'.ownsRow B e size v n xs := by
  refine ⟨h.1, ?_⟩
  rcases h.2 with hn | ⟨g, cap, cur, rfl, hb, hgg, rest⟩
  · exact .inl hn
  · exact .inr ⟨g, cap, cur, rfl, hb, (k.block g (lt_of_block hgg) (hne g rfl)).trans hgg, rest⟩
theorem own_n {w : World} {B size n : Nat} {e : TypeId} {h : Hd} {xs : List Value} (o : w.ownsRow B e size h.v n xs) : h.n = n := by
  rcases o.2 with ⟨hv, hn⟩ | ⟨g, cap, cur, hv, _⟩
  · unfold Hd.v at hv; simp only [Value.slice.injEq] at hv; omega
  · unfold Hd.v at hv; simp only [Value.slice.injEq] at hv; exact hv.2.1
theorem own_head {w : World} {B size n : Nat} {e : TypeId} {v : Value} {xs : List Value} (o : w.ownsRow B e size v n xs) : ∃ h : Hd, v = h.v ∧ h.n = n := by
  rcases o.2 with ⟨hv, hn⟩ | ⟨g, cap, cur, hv, _⟩
  · exact ⟨⟨none, 0, 0⟩, hv, hn.symm⟩
  · exact ⟨⟨_, n, cap⟩, hv, rfl⟩
theorem own_slice {w : World} {B size n : Nat} {e : TypeId} {h : Hd} {xs : List Value} (o : w.ownsRow B e size h.v n xs) : h.v = .slice h.a n h.c := by
  have := own_n o
  unfold Hd.v; rw [this]
theorem own_base {w : World} {B B' size n : Nat} {e : TypeId} {v : Value} {xs : List Value} (h : w.ownsRow B e size v n xs) (hb : ∀ g, v.ownBlock = some g → B' ≤ g) : w.ownsRow B' e size v n xs := by
  refine ⟨h.1, ?_⟩
  rcases h.2 with hn | ⟨g, cap, cur, rfl, hb', rest⟩
  · exact .inl hn
  · exact .inr ⟨g, cap, cur, rfl, hb g rfl, rest⟩
theorem own_down {w : World} {B B' size n : Nat} {e : TypeId} {v : Value} {xs : List Value} (h : w.ownsRow B e size v n xs) (hb : B' ≤ B) : w.ownsRow B' e size v n xs :=
  own_base h fun g hg => Nat.le_trans hb (h.lt g hg).1
/-- an owned row's cells -/
theorem own_rowAt {w : World} {B size n : Nat} {e : TypeId} {v : Value} {xs : List Value} (h : w.ownsRow B e size v n xs) (hn : 0 < n) : ∃ g cap, v = .slice (some ⟨g, 0, none⟩) n cap ∧ B ≤ g ∧ n ≤ cap ∧ RowAt w g xs := by
  obtain ⟨A, cap, e, hc, hg⟩ := own_rowV h
  obtain ⟨g, hA, hb, hr⟩ := hg hn
  exact ⟨g, cap, by rw [e, hA], hb, hc, hr⟩
theorem setCell_heap_same (w : World) (g j : Nat) (v : Value) {cur : Array Value} {e : TypeId} {f : Nat × Nat} (h : w.heap[g]? = some (.cells cur e f)) : (w.setCell ⟨g, j, none⟩ v).heap[g]? = some (.cells (cur.setIfInBounds j v) e f) := by
  have hl : g < w.heap.size := lt_of_block h
  have h' : w.heap[g] = .cells cur e f := by simpa [Array.getElem?_eq_getElem hl] using h
  show (w.heap.modify g _)[g]? = _
  rw [Array.getElem?_eq_getElem (by simpa using hl), Array.getElem_modify_self, h']
  simp
theorem own_set {w : World} {B size n : Nat} {e : TypeId} {v : Value} {xs : List Value} (h : w.ownsRow B e size v n xs) {g : Nat} (hg : v.ownBlock = some g) (j : Nat) (u : Value) : (w.setCell ⟨g, j, none⟩ u).ownsRow B e size v n (xs.set j u) := by
  refine ⟨by rw [List.length_set]; exact h.1, ?_⟩
  rcases h.2 with ⟨rfl, _⟩ | ⟨g', cap, cur, rfl, hb, hgg, hnc, hm, hcs, htk⟩
  · simp [Value.ownBlock] at hg
  · have : g' = g := by simpa [Value.ownBlock] using hg
    subst this
    refine .inr ⟨g', cap, cur.setIfInBounds j u, rfl, hb, setCell_heap_same w g' j u hgg, hnc, hm, by simpa using hcs, ?_⟩
    rw [Array.toList_setIfInBounds, List.take_set, htk]
/-- an owned row is read as a slice -/
theorem own_sl {α : Type} {w : World} {B size : Nat} {e : TypeId} {h : Hd} {l : List α} {css : List (List Value)} {R : World → List Value → α → Prop} (o : w.ownsRow B e size h.v l.length css.flatten) (hc : Chunks w size R css l) (hs : Small (l.length * 16)) : SlAt w size R h.a h.c l := by
  obtain ⟨A, cap, hv, sl⟩ := rowV_slAt (own_rowV o) hc hs
  unfold Hd.v at hv
  simp only [Value.slice.injEq] at hv
  rw [hv.1, hv.2.2]; exact sl
theorem chunks_map {α : Type} {w : World} {size : Nat} {R : World → List Value → α → Prop} (f : α → List Value) (l : List α) (hf : ∀ x ∈ l, (f x).length = size ∧ R w (f x) x) : Chunks w size R (l.map f) l :=
  ⟨by simp, fun i h h' => by simpa using hf l[i] (List.getElem_mem h')⟩
theorem own_slf {α : Type} {w : World} {B size : Nat} {e : TypeId} {h : Hd} {l : List α} {R : World → List Value → α → Prop} (f : α → List Value) (o : w.ownsRow B e size h.v l.length (l.flatMap f)) (hf : ∀ x ∈ l, (f x).length = size ∧ R w (f x) x) (hs : Small (l.length * 16)) : SlAt w size R h.a h.c l :=
  own_sl (css := l.map f) (by rw [← List.flatMap_def]; exact o) (chunks_map f l hf) hs

def nameC (s : ByteArray) : List Value := [.string s]
def colC (c : Col) : List Value := [.string c.name, .int .i64 c.kind, .bool c.null]
def schC (s : Sch) : List Value := [.string s.name, .string s.owner]
def rulC (r : Rul) (h : Hd) : List Value := [.string r.name, .int .i64 r.kind, h.v, .int .i64 r.low, .int .i64 r.high, .string r.schema, .string r.table, .string r.key]
/-- a rule, and where its names lie -/
structure ORul where
  r : Rul
  h : Hd
def ORul.cells (x : ORul) : List Value := rulC x.r x.h
/-- a table, and where its rows lie -/
structure OTab where
  schema : ByteArray
  name : ByteArray
  owner : ByteArray
  cols : List Col
  rules : List ORul
  hc : Hd
  hr : Hd
def OTab.t (x : OTab) : Tab := ⟨x.schema, x.name, x.owner, x.cols, x.rules.map (·.r)⟩
def OTab.cells (x : OTab) : List Value := [.string x.schema, .string x.name, .string x.owner, x.hc.v, x.hr.v]
def OTab.blks (x : OTab) : List Nat := x.hc.blk ++ (x.hr.blk ++ x.rules.flatMap (·.h.blk))
structure RulIn (w : World) (B : Nat) (x : ORul) : Prop where
  nam : w.ownsRow B 9 1 x.h.v x.r.cols.length (x.r.cols.flatMap nameC)
structure TabIn (w : World) (B : Nat) (x : OTab) : Prop where
  col : w.ownsRow B 109 3 x.hc.v x.cols.length (x.cols.flatMap colC)
  rul : w.ownsRow B 42 8 x.hr.v x.rules.length (x.rules.flatMap ORul.cells)
  each : ∀ r ∈ x.rules, RulIn w B r
structure ObjIn (w : World) (B : Nat) (hs ht : Hd) (ss : List Sch) (L : List OTab) : Prop where
  sch : w.ownsRow B 96 2 hs.v ss.length (ss.flatMap schC)
  tab : w.ownsRow B 86 5 ht.v L.length (L.flatMap OTab.cells)
  each : ∀ x ∈ L, TabIn w B x
  nd : (hs.blk ++ (ht.blk ++ L.flatMap OTab.blks)).Nodup
theorem RulIn.kb {P : Nat → Prop} {w w' : World} {B : Nat} {x : ORul} (h : RulIn w B x) (k : Kb P w w') (hne : ∀ g ∈ x.h.blk, ¬ P g) : RulIn w' B x := ⟨own_kb h.nam k fun g hg => hne g (Hd.mem_blk.2 hg)⟩
theorem TabIn.kb {P : Nat → Prop} {w w' : World} {B : Nat} {x : OTab} (h : TabIn w B x) (k : Kb P w w') (hne : ∀ g ∈ x.blks, ¬ P g) : TabIn w' B x :=
  ⟨own_kb h.col k fun g hg => hne g (by unfold OTab.blks; simp [Hd.mem_blk.2 hg]), own_kb h.rul k fun g hg => hne g (by unfold OTab.blks; simp [Hd.mem_blk.2 hg]),
   fun r hr => (h.each r hr).kb k fun g hg => hne g (by unfold OTab.blks; simp only [List.mem_append, List.mem_flatMap]; exact .inr (.inr ⟨r, hr, hg⟩))⟩
theorem ObjIn.kb {P : Nat → Prop} {w w' : World} {B : Nat} {hs ht : Hd} {ss : List Sch} {L : List OTab} (h : ObjIn w B hs ht ss L) (k : Kb P w w') (hne : ∀ g ∈ hs.blk ++ (ht.blk ++ L.flatMap OTab.blks), ¬ P g) : ObjIn w' B hs ht ss L :=
  ⟨own_kb h.sch k fun g hg => hne g (by simp [Hd.mem_blk.2 hg]), own_kb h.tab k fun g hg => hne g (by simp [Hd.mem_blk.2 hg]),
   fun x hx => (h.each x hx).kb k fun g hg => hne g (by simp only [List.mem_append, List.mem_flatMap]; exact .inr (.inr ⟨x, hx, hg⟩)), h.nd⟩
theorem RulIn.aft {w w' : World} {B : Nat} {x : ORul} (h : RulIn w B x) (a : Aft w w') : RulIn w' B x := h.kb (P := fun _ => False) (Kb.of_aft a) fun _ _ h => h
theorem TabIn.aft {w w' : World} {B : Nat} {x : OTab} (h : TabIn w B x) (a : Aft w w') : TabIn w' B x := h.kb (P := fun _ => False) (Kb.of_aft a) fun _ _ h => h
theorem ObjIn.aft {w w' : World} {B : Nat} {hs ht : Hd} {ss : List Sch} {L : List OTab} (h : ObjIn w B hs ht ss L) (a : Aft w w') : ObjIn w' B hs ht ss L := h.kb (P := fun _ => False) (Kb.of_aft a) fun _ _ h => h
theorem blk_lt {w : World} {B size n : Nat} {e : TypeId} {h : Hd} {xs : List Value} (o : w.ownsRow B e size h.v n xs) : ∀ g ∈ h.blk, B ≤ g ∧ g < w.heap.size := fun g hg => o.lt g (Hd.mem_blk.1 hg)
theorem TabIn.lt {w : World} {B : Nat} {x : OTab} (h : TabIn w B x) : ∀ g ∈ x.blks, B ≤ g ∧ g < w.heap.size := by
  intro g hg
  unfold OTab.blks at hg
  simp only [List.mem_append, List.mem_flatMap] at hg
  rcases hg with hg | hg | ⟨r, hr, hg⟩
  · exact blk_lt h.col g hg
  · exact blk_lt h.rul g hg
  · exact blk_lt (h.each r hr).nam g hg
theorem ObjIn.lt {w : World} {B : Nat} {hs ht : Hd} {ss : List Sch} {L : List OTab} (h : ObjIn w B hs ht ss L) : ∀ g ∈ hs.blk ++ (ht.blk ++ L.flatMap OTab.blks), B ≤ g ∧ g < w.heap.size := by
  intro g hg
  simp only [List.mem_append, List.mem_flatMap] at hg
  rcases hg with hg | hg | ⟨x, hx, hg⟩
  · exact blk_lt h.sch g hg
  · exact blk_lt h.tab g hg
  · exact (h.each x hx).lt g hg
theorem RulIn.down {w : World} {B B' : Nat} {x : ORul} (h : RulIn w B x) (hb : B' ≤ B) : RulIn w B' x := ⟨own_down h.nam hb⟩
theorem TabIn.down {w : World} {B B' : Nat} {x : OTab} (h : TabIn w B x) (hb : B' ≤ B) : TabIn w B' x := ⟨own_down h.col hb, own_down h.rul hb, fun r hr => (h.each r hr).down hb⟩
theorem ObjIn.down {w : World} {B B' : Nat} {hs ht : Hd} {ss : List Sch} {L : List OTab} (h : ObjIn w B hs ht ss L) (hb : B' ≤ B) : ObjIn w B' hs ht ss L := ⟨own_down h.sch hb, own_down h.tab hb, fun x hx => (h.each x hx).down hb, h.nd⟩

/-- all that a struct holds is short -/
def SmR (r : Rul) : Prop := Small (r.cols.length * 16) ∧ (∀ s ∈ r.cols, Small s.size) ∧ Small r.name.size ∧ Small r.schema.size ∧ Small r.table.size ∧ Small r.key.size
def SmT (t : Tab) : Prop := (Small (t.cols.length * 16) ∧ ∀ c ∈ t.cols, Small c.name.size) ∧ (Small (t.rules.length * 16) ∧ ∀ r ∈ t.rules, SmR r) ∧ Small t.schema.size ∧ Small t.name.size ∧ Small t.owner.size
def SmS (l : List Sch) : Prop := Small (l.length * 16) ∧ ∀ s ∈ l, Small s.name.size ∧ Small s.owner.size
def SmO (o : Objs) : Prop := SmS o.schemas ∧ Small (o.tables.length * 16) ∧ ∀ t ∈ o.tables, SmT t
theorem sm_mem {α : Type} {w : World} {size : Nat} {R : World → List Value → α → Prop} {A : Option Addr} {cap : Nat} {l : List α} (h : SlAt w size R A cap l) {P : α → Prop} (hp : ∀ cs x, R w cs x → P x) : Small (l.length * 16) ∧ ∀ x ∈ l, P x := by
  refine ⟨h.2.1, fun x hx => ?_⟩
  obtain ⟨i, hi, rfl⟩ := List.getElem_of_mem hx
  obtain ⟨b, off, cs, _, _, _, hR, _⟩ := h.2.2 i hi
  exact hp cs _ hR
theorem sm_names {w : World} {A : Option Addr} {cap : Nat} {l : List ByteArray} (h : SlAt w 1 StrR A cap l) : Small (l.length * 16) ∧ ∀ s ∈ l, Small s.size := sm_mem h fun _ _ h => h.2
theorem sm_cols {w : World} {A : Option Addr} {cap : Nat} {l : List Col} (h : SlAt w 3 ColR A cap l) : Small (l.length * 16) ∧ ∀ c ∈ l, Small c.name.size := sm_mem h fun _ _ h => h.2
theorem sm_schs {w : World} {A : Option Addr} {cap : Nat} {l : List Sch} (h : SlAt w 2 SchR A cap l) : SmS l := sm_mem h fun _ _ h => h.2
theorem sm_rul {w : World} {cs : List Value} {r : Rul} (h : RulR w cs r) : SmR r := by
  obtain ⟨A, cap, _, hs, h1⟩ := h
  exact ⟨(sm_names hs).1, (sm_names hs).2, h1⟩
theorem sm_ruls {w : World} {A : Option Addr} {cap : Nat} {l : List Rul} (h : SlAt w 8 RulR A cap l) : Small (l.length * 16) ∧ ∀ r ∈ l, SmR r := sm_mem h fun _ _ h => sm_rul h
theorem sm_tab {w : World} {cs : List Value} {t : Tab} (h : TabR w cs t) : SmT t := by
  obtain ⟨A, cap, A2, cap2, _, hs, hr, h1⟩ := h
  exact ⟨sm_cols hs, sm_ruls hr, h1⟩
theorem sm_tabs {w : World} {A : Option Addr} {cap : Nat} {l : List Tab} (h : SlAt w 5 TabR A cap l) : Small (l.length * 16) ∧ ∀ t ∈ l, SmT t := sm_mem h fun _ _ h => sm_tab h

/-- our own rows, read -/
theorem RulIn.rulR {w : World} {B : Nat} {x : ORul} (h : RulIn w B x) (hs : SmR x.r) : RulR w x.cells x.r :=
  ⟨x.h.a, x.h.c, by unfold ORul.cells rulC; rw [own_slice h.nam], own_slf nameC h.nam (fun s hm => ⟨rfl, rfl, hs.2.1 s hm⟩) hs.1, hs.2.2⟩
theorem TabIn.cols {w : World} {B : Nat} {x : OTab} (h : TabIn w B x) (hs : SmT x.t) : SlAt w 3 ColR x.hc.a x.hc.c x.cols :=
  own_slf colC h.col (fun c hm => ⟨rfl, rfl, hs.1.2 c hm⟩) hs.1.1
theorem chunks_over {α β : Type} {w : World} {size : Nat} {R : World → List Value → β → Prop} (f : α → List Value) (g : α → β) (l : List α) (hf : ∀ x ∈ l, (f x).length = size ∧ R w (f x) (g x)) : Chunks w size R (l.map f) (l.map g) :=
  ⟨by simp, fun i h h' => by
    have hi : i < l.length := by simpa using h
    simpa using hf l[i] (List.getElem_mem hi)⟩
theorem own_slo {α β : Type} {w : World} {B size : Nat} {e : TypeId} {h : Hd} {l : List α} {R : World → List Value → β → Prop} (f : α → List Value) (g : α → β) (o : w.ownsRow B e size h.v l.length (l.flatMap f)) (hf : ∀ x ∈ l, (f x).length = size ∧ R w (f x) (g x)) (hs : Small (l.length * 16)) : SlAt w size R h.a h.c (l.map g) :=
  own_sl (css := l.map f) (by rw [← List.flatMap_def, List.length_map]; exact o) (chunks_over f g l hf) (by simpa using hs)
theorem TabIn.ruls {w : World} {B : Nat} {x : OTab} (h : TabIn w B x) (hs : SmT x.t) : SlAt w 8 RulR x.hr.a x.hr.c (x.rules.map (·.r)) :=
  own_slo ORul.cells (·.r) h.rul (fun r hm => ⟨rfl, (h.each r hm).rulR (hs.2.1.2 r.r (List.mem_map_of_mem hm))⟩) (by simpa [OTab.t] using hs.2.1.1)
theorem TabIn.tabR {w : World} {B : Nat} {x : OTab} (h : TabIn w B x) (hs : SmT x.t) : TabR w x.cells x.t :=
  ⟨x.hc.a, x.hc.c, x.hr.a, x.hr.c, by unfold OTab.cells; rw [own_slice h.col, own_slice h.rul]; simp [OTab.t], h.cols hs, h.ruls hs, hs.2.2⟩
def objOf (ss : List Sch) (L : List OTab) : Objs := ⟨ss, L.map OTab.t⟩
theorem ObjIn.schs {w : World} {B : Nat} {hs ht : Hd} {ss : List Sch} {L : List OTab} (h : ObjIn w B hs ht ss L) (sm : SmO (objOf ss L)) : SlAt w 2 SchR hs.a hs.c ss :=
  own_slf schC h.sch (fun s hm => ⟨rfl, rfl, sm.1.2 s hm⟩) sm.1.1
theorem ObjIn.tabs {w : World} {B : Nat} {hs ht : Hd} {ss : List Sch} {L : List OTab} (h : ObjIn w B hs ht ss L) (sm : SmO (objOf ss L)) : SlAt w 5 TabR ht.a ht.c (L.map OTab.t) :=
  own_slo OTab.cells OTab.t h.tab (fun x hm => ⟨rfl, (h.each x hm).tabR (sm.2.2 _ (List.mem_map_of_mem hm))⟩) (by simpa [objOf] using sm.2.1)
theorem own_cell {α : Type} {w : World} {B size : Nat} {e : TypeId} {h : Hd} {l : List α} {f : α → List Value} (o : w.ownsRow B e size h.v l.length (l.flatMap f)) (hf : ∀ x, (f x).length = size) {g : Nat} (hg : h.a = some ⟨g, 0, none⟩) {i j : Nat} (hi : i < l.length) (hj : j < size) : w.cell? ⟨g, i * size + j, none⟩ = (f l[i])[j]? := by
  obtain ⟨g', cap, hv, _, _, hr⟩ := own_rowAt o (by omega)
  unfold Hd.v at hv
  simp only [Value.slice.injEq] at hv
  rw [hg] at hv
  simp only [Option.some.injEq, Addr.mk.injEq, and_true, true_and] at hv
  obtain ⟨rfl, _⟩ := hv
  rw [hr.2.1 _ (by rw [o.1]; have : (i + 1) * size ≤ l.length * size := Nat.mul_le_mul_right _ hi; rw [Nat.succ_mul] at this; omega)]
  exact flatMap_get f size hf l i j hi hj
end Go.Proofs.YtgkhmnamkfgciaaGreat

namespace Go.Proofs.YtgkhmnamkfgciaaGreat
open Go.RowKit Go.Deep
set_option linter.unusedVariables false
theorem own_lit {w : World} {B size n : Nat} {e : TypeId} {v : Value} {xs : List Value} (o : w.ownsRow B e size v n xs) : ∃ A cap, v = .slice A n cap := by
  obtain ⟨h, hv, hn⟩ := own_head o
  exact ⟨h.a, h.c, by rw [hv, ← hn]; rfl⟩
theorem chunks_flat {α : Type} {w : World} {size : Nat} {R : World → List Value → α → Prop} {f : α → List Value} (hf : ∀ cs x, R w cs x → cs = f x) : ∀ {css : List (List Value)} {l : List α}, Chunks w size R css l → css.flatten = l.flatMap f := by
  intro css l h
  have : css = l.map f := by
    refine List.ext_getElem (by rw [h.1]; simp) fun i h1 h2 => ?_
    have hi : i < l.length := by simpa using h2
    rw [List.getElem_map]
    exact hf _ _ (h.2 i h1 hi).2
  rw [this, List.flatMap_def]
theorem flat_names {w : World} {css : List (List Value)} {l : List ByteArray} (h : Chunks w 1 StrR css l) : css.flatten = l.flatMap nameC := chunks_flat (fun _ _ h => h.1) h
theorem flatMap_len {α : Type} {f : α → List Value} {size : Nat} (hf : ∀ x, (f x).length = size) (l : List α) : (l.flatMap f).length = l.length * size := by
  rw [List.flatMap_def, flat_len _ (by intro c hc; obtain ⟨x, _, rfl⟩ := List.mem_map.1 hc; exact hf x), List.length_map]
theorem flatMap_set {α : Type} {f : α → List Value} {size : Nat} (hf : ∀ x, (f x).length = size) (l : List α) (k j : Nat) (hk : k < l.length) (hj : j < size) (u : Value) (y : α) (hy : f y = (f l[k]).set j u) : (l.flatMap f).set (k * size + j) u = (l.set k y).flatMap f := by
  rw [List.flatMap_def, List.flatMap_def, flat_set _ (by intro c hc; obtain ⟨x, _, rfl⟩ := List.mem_map.1 hc; exact hf x) k j (by simpa using hk) u hj, List.map_set]
  congr 1
  rw [hy]; simp
theorem nodup_more {l m : List Nat} {N : Nat} (h : l.Nodup) (hm : m.Nodup) (h1 : ∀ g ∈ l, g < N) (h2 : ∀ g ∈ m, N ≤ g) : (l ++ m).Nodup :=
  List.nodup_append.2 ⟨h, hm, fun a ha b hb e => by have := h1 a ha; have := h2 b hb; omega⟩
theorem blk_nodup (h : Hd) : h.blk.Nodup := by
  obtain ⟨a, n, c⟩ := h
  cases a <;> simp [Hd.blk]
theorem blk_nil (n c : Nat) : (Hd.mk none n c).blk = [] := rfl
theorem blk_some (p : Addr) (n c : Nat) : (Hd.mk (some p) n c).blk = [p.block] := rfl
/-- where a row of our own lies -/
theorem own_place {w : World} {B size n : Nat} {e : TypeId} {h : Hd} {xs : List Value} (o : w.ownsRow B e size h.v n xs) (hn : 0 < n) : ∃ g, h.a = some ⟨g, 0, none⟩ ∧ B ≤ g ∧ RowAt w g xs := by
  obtain ⟨g, cap, hv, hb, _, hr⟩ := own_rowAt o hn
  unfold Hd.v at hv
  simp only [Value.slice.injEq] at hv
  exact ⟨g, hv.1, hb, hr⟩
theorem info2Str2 : (Tryz.prog.info? 9).map (fun i => (i.zero, i.size, i.bytes)) = some (some (.string ByteArray.empty), 1, 16) := by kernel_rfl
def ModO (o : Objs) : Prop := o.schemas.length ≤ 1000000 ∧ o.tables.length ≤ 1000000 ∧ ∀ t ∈ o.tables, t.cols.length ≤ 1000000 ∧ t.rules.length ≤ 1000000 ∧ ∀ r ∈ t.rules, r.cols.length ≤ 1000000
end Go.Proofs.YtgkhmnamkfgciaaGreat

namespace Go.Proofs.YtgkhmnamkfgciaaGreat
open Go.RowKit Go.Deep
set_option maxRecDepth 100000
set_option linter.unusedVariables false
theorem lvTab_row {W : World} {b : Nat} {a c d e f : Value} (h : RowAt W b [a, c, d, e, f]) : (loadVar 86 ⟨b, 0, none⟩).run Tryz.prog W = .ok (.agg #[a, c, d, e, f]) W := by
  have e0 := h.cell (j := 0) rfl
  have e1 := h.cell (j := 1) rfl
  have e2 := h.cell (j := 2) rfl
  have e3 := h.cell (j := 3) rfl
  have e4 := h.cell (j := 4) rfl
  have h1 := run_lvTab W b 0 (by rw [e0]; rfl) (by rw [e1]; rfl) (by rw [e2]; rfl) (by rw [e3]; rfl) (by rw [e4]; rfl)
  rw [e0, e1, e2, e3, e4] at h1
  exact h1
theorem box_row2 {w W : World} {c : List Value} {t : TypeId} (h : Aft (w.alloc (.cells c.toArray t)) W) : RowAt W w.heap.size c := by
  obtain ⟨hb, hf, hz, _, _⟩ := aft_box h
  exact ⟨hz.1, fun j hj => by rw [hb]; simp, fun j _ => hf j⟩
/-- what is true of a table that is being copied: k of its rules have names of their own -/
structure CopyS (w wr : World) (t : Tab) (hc hr : Hd) (L0 L : List ORul) (k : Nat) : Prop where
  aft : Aft w wr
  box : RowAt wr w.heap.size [.string t.schema, .string t.name, .string t.owner, .slice hc.a t.cols.length hc.c, .slice hr.a t.rules.length hr.c]
  out : RowAt wr (w.heap.size + 1) [.string ⟨#[]⟩, .string ⟨#[]⟩, .string ⟨#[]⟩, .slice none 0 0, .slice none 0 0]
  col : wr.ownsRow (w.heap.size + 2) 109 3 hc.v t.cols.length (t.cols.flatMap colC)
  rul : wr.ownsRow (w.heap.size + 2) 42 8 hr.v t.rules.length ((L ++ L0.drop k).flatMap ORul.cells)
  len : L.length = k
  is : L.map (·.r) = t.rules.take k
  each : ∀ x ∈ L, RulIn wr (w.heap.size + 2) x
  nd : (hc.blk ++ (hr.blk ++ L.flatMap (·.h.blk))).Nodup
theorem CopyS.lt {w wr : World} {t : Tab} {hc hr : Hd} {L0 L : List ORul} {k : Nat} (s : CopyS w wr t hc hr L0 L k) : ∀ g ∈ hc.blk ++ (hr.blk ++ L.flatMap (·.h.blk)), w.heap.size + 2 ≤ g ∧ g < wr.heap.size := by
  intro g hg
  simp only [List.mem_append, List.mem_flatMap] at hg
  rcases hg with hg | hg | ⟨r, hr, hg⟩
  · exact blk_lt s.col g hg
  · exact blk_lt s.rul g hg
  · exact blk_lt (s.each r hr).nam g hg
/-- one rule more -/
theorem CopyS.step {w wr w4 : World} {t : Tab} {hc hr h4 : Hd} {L0 L : List ORul} {k gr : Nat} (s : CopyS w wr t hc hr L0 L k) (h0 : L0.map (·.r) = t.rules) (hk : k < t.rules.length) (hgr : hr.a = some ⟨gr, 0, none⟩)
    (a4 : Aft wr w4) (own4 : w4.ownsRow wr.heap.size 9 1 h4.v t.rules[k].cols.length (t.rules[k].cols.flatMap nameC)) : CopyS w (w4.setCell ⟨gr, k * 8 + 2, none⟩ h4.v) t hc hr L0 (L ++ [⟨t.rules[k], h4⟩]) (k + 1) := by
  have hL0 : L0.length = t.rules.length := by rw [← h0]; simp
  have hgb : gr ∈ hr.blk := by rw [Hd.mem_blk]; unfold Hd.v; rw [hgr]; rfl
  have hlt := s.lt
  have hg := hlt gr (by simp [hgb])
  have kb := Kb.set w4 gr (k * 8 + 2) h4.v
  have ka : Kb (fun x => x = gr) wr (w4.setCell ⟨gr, k * 8 + 2, none⟩ h4.v) := (Kb.of_aft a4).trans kb
  have hnd := s.nd
  have hz : wr.heap.size ≤ w.heap.size + 2 ∨ w.heap.size + 2 ≤ wr.heap.size := by omega
  have hcg : ∀ g ∈ hc.blk, ¬ g = gr := fun g hgc e => by
    subst e
    exact (List.nodup_append.1 hnd).2.2 g hgc g (by simp [hgb]) rfl
  have hng : ∀ x ∈ L, ∀ g ∈ x.h.blk, ¬ g = gr := fun x hx g hgc e => by
    subst e
    exact (List.nodup_append.1 (List.nodup_append.1 hnd).2.1).2.2 g hgb g (by simp only [List.mem_flatMap]; exact ⟨x, hx, hgc⟩) rfl
  refine ⟨ka.to_aft s.aft (fun x hx e => by omega), ka.row s.box (by omega), ka.row s.out (by omega), own_kb s.col ka fun g hgo => hcg g (Hd.mem_blk.2 hgo), ?_, by simp [s.len], ?_, ?_, ?_⟩
  · have h1 := own_set (own_aft s.rul a4) (Hd.mem_blk.1 hgb) (k * 8 + 2) h4.v
    have hkl : k < (L ++ L0.drop k).length := by simp [s.len]; omega
    have hget : (L ++ L0.drop k)[k] = L0[k]'(by omega) := by
      rw [List.getElem_append_right (by rw [s.len]; exact Nat.le_refl _)]
      simp [s.len]
    have hrk : (L0[k]'(by omega)).r = t.rules[k] := by
      have : (L0.map (·.r))[k]'(by simpa using (by omega : k < L0.length)) = t.rules[k] := by simp only [h0]
      simpa using this
    rw [flatMap_set (size := 8) (fun _ => rfl) (L ++ L0.drop k) k 2 hkl (by decide) h4.v ⟨t.rules[k], h4⟩ (by rw [hget]; unfold ORul.cells rulC; rw [hrk]; rfl)] at h1
    have hset : (L ++ L0.drop k).set k ⟨t.rules[k], h4⟩ = (L ++ [⟨t.rules[k], h4⟩]) ++ L0.drop (k + 1) := by
      have hd : L0.drop k = L0[k]'(by omega) :: L0.drop (k + 1) := List.drop_eq_getElem_cons (by omega : k < L0.length)
      rw [List.set_append_right _ _ (by rw [s.len]; exact Nat.le_refl _), s.len, Nat.sub_self, hd]
      simp only [List.set_cons_zero, List.append_assoc, List.cons_append, List.nil_append]
    rw [hset] at h1
    exact h1
  · rw [List.map_append, s.is, List.take_succ_eq_append_getElem hk]; rfl
  · intro x hx
    simp only [List.mem_append, List.mem_singleton] at hx
    rcases hx with hx | rfl
    · exact (s.each x hx).kb ka fun g hgo => hng x hx g hgo
    · exact ⟨own_down (own_kb own4 kb fun g hgo e => by have := (own4.lt g hgo).1; omega) (by have := s.out.1; omega)⟩
  · have e : hc.blk ++ (hr.blk ++ (L ++ [ORul.mk t.rules[k] h4]).flatMap (·.h.blk)) = (hc.blk ++ (hr.blk ++ L.flatMap (·.h.blk))) ++ h4.blk := by simp [List.append_assoc]
    rw [e]
    exact nodup_more hnd (blk_nodup h4) (fun g hg => (hlt g hg).2) (fun g hg => (blk_lt own4 g hg).1)
end Go.Proofs.YtgkhmnamkfgciaaGreat

namespace Go.Proofs.YtgkhmnamkfgciaaGreat
open Go.RowKit
set_option maxRecDepth 100000

set_option maxHeartbeats 400000 in
theorem sliteIndexByte (s : ByteArray) (c : Int) (w : World) :
    Calls Tryz.prog 208 #[.string s, .int .u8 c] w fun e w' => e = .returned (.int .i64 (Lib.indexByte s.data.toList c.toNat.toUInt8)) ∧ w = w' := by
  go_enter Tryz.func208, Tryz.ntmps208
  go_wp2
  rw [run_callFunc_extern Tryz.func294 (by kernel_rfl) (by kernel_rfl) (by kernel_rfl) (e := Extern.BytealgIndexByte.indexByte) (by kernel_rfl), Lib.run_indexByteString]
  simp only [Result.andThen]
  rw [Oper.upon_value]
  go_wp2
  go_ret
  exact ⟨rfl, rfl⟩

set_option maxHeartbeats 400000 in
theorem indexByte (s : ByteArray) (c : Int) (w : World) :
    Calls Tryz.prog 138 #[.string s, .int .u8 c] w fun e w' => e = .returned (.int .i64 (Lib.indexByte s.data.toList c.toNat.toUInt8)) ∧ w = w' := by
  go_enter Tryz.func138, Tryz.ntmps138
  go_wp2_with (go_at_call 208; refine (sliteIndexByte _ _ _).mono ?_; rintro e w' ⟨rfl, rfl⟩)
  go_ret
  exact ⟨rfl, rfl⟩

end Go.Proofs.YtgkhmnamkfgciaaGreat

namespace Go.Proofs.YtgkhmnamkfgciaaGreat

def isLet (c : UInt8) : Bool := decide (97 ≤ c) && decide (c ≤ 122)
def isPl (c : UInt8) : Bool := isLet c || (decide (48 ≤ c) && decide (c ≤ 57)) || c == 95
def plB (s : ByteArray) : Bool := s.data.toList.all isPl
/-- a text is a name -/
def nameB (s : ByteArray) : Bool := decide (0 < s.size) && decide (s.size ≤ 16) && isLet (s.data.toList.headD 0) && plB s

def ltIdx (c : UInt8) : Int := Lib.indexByte [97, 98, 99, 100, 101, 102, 103, 104, 105, 106, 107, 108, 109, 110, 111, 112, 113, 114, 115, 116, 117, 118, 119, 120, 121, 122] c
def plIdx (c : UInt8) : Int := Lib.indexByte [97, 98, 99, 100, 101, 102, 103, 104, 105, 106, 107, 108, 109, 110, 111, 112, 113, 114, 115, 116, 117, 118, 119, 120, 121, 122, 48, 49, 50, 51, 52, 53, 54, 55, 56, 57, 95] c
theorem all256 {p : UInt8 → Bool} (h : ∀ n : Fin 256, p (UInt8.ofNat n.val) = true) (c : UInt8) : p c = true := by
  have := h ⟨c.toNat, c.toNat_lt⟩
  simpa using this
theorem ltIdx_neg (c : UInt8) : decide (ltIdx c < 0) = !isLet c := by
  have := all256 (p := fun c => decide (ltIdx c < 0) == !isLet c) (by decide +kernel) c
  simpa using this
theorem plIdx_neg (c : UInt8) : decide (plIdx c < 0) = !isPl c := by
  have := all256 (p := fun c => decide (plIdx c < 0) == !isPl c) (by decide +kernel) c
  simpa using this
theorem ltIdx_iff (c : UInt8) : ltIdx c < 0 ↔ isLet c = false := by
  have := ltIdx_neg c; cases h : isLet c <;> simp_all
theorem plIdx_iff (c : UInt8) : plIdx c < 0 ↔ isPl c = false := by
  have := plIdx_neg c; cases h : isPl c <;> simp_all
theorem isLet_iff (c : UInt8) : isLet c = true ↔ 97 ≤ (c.toNat : Int) ∧ (c.toNat : Int) ≤ 122 := by
  simp [isLet, UInt8.le_iff_toNat_le]; omega
theorem isPl_iff (c : UInt8) : isPl c = true ↔ (97 ≤ (c.toNat : Int) ∧ (c.toNat : Int) ≤ 122) ∨ (48 ≤ (c.toNat : Int) ∧ (c.toNat : Int) ≤ 57) ∨ (c.toNat : Int) = 95 := by
  simp [isPl, isLet, UInt8.le_iff_toNat_le, ← UInt8.toNat_inj]; omega
theorem all_take_succ {α : Type} (p : α → Bool) (l : List α) (k : Nat) (h : k < l.length) : (l.take (k + 1)).all p = ((l.take k).all p && p l[k]) := by
  rw [List.take_succ_eq_append_getElem h]; simp only [List.all_append, List.all_cons, List.all_nil, Bool.and_true]
theorem ba_length (s : ByteArray) : s.data.toList.length = s.size := by simp
theorem ba_get (s : ByteArray) (k : Nat) (h : k < s.size) : s.data.toList[k]'(by simpa using h) = s[k] := rfl
theorem pl_succ (s : ByteArray) (k : Nat) (h : k < s.size) : (s.data.toList.take (k + 1)).all isPl = ((s.data.toList.take k).all isPl && isPl s[k]) := by
  rw [all_take_succ isPl _ k (by simpa using h)]; rfl
theorem pl_false (s : ByteArray) (k : Nat) (h : k < s.size) (hp : isPl s[k] = false) : plB s = false := by
  have : s[k] ∈ s.data.toList := by rw [← ba_get s k h]; exact List.getElem_mem _
  simp only [plB, Bool.eq_false_iff, ne_eq, List.all_eq_true]
  intro hall; have := hall _ this; simp [hp] at this
theorem pl_true (s : ByteArray) (k : Nat) (h : ¬ k < s.size) (hp : (s.data.toList.take k).all isPl = true) : plB s = true := by
  rw [List.take_of_length_le (by rw [ba_length]; omega)] at hp; exact hp
theorem head_get (s : ByteArray) (h : 0 < s.size) : s.data.toList.headD 0 = s[0] := by
  have h1 : s.data.toList ≠ [] := by intro e; have := ba_length s; simp [e] at this; omega
  obtain ⟨a, l, e⟩ := List.exists_cons_of_ne_nil h1
  have : s.data.toList[0]'(by rw [ba_length]; exact h) = s[0] := rfl
  simp only [e, List.headD_cons] at this ⊢
  simpa using this
end Go.Proofs.YtgkhmnamkfgciaaGreat

namespace Go.Proofs.YtgkhmnamkfgciaaGreat
open Go.RowKit
set_option maxRecDepth 100000

theorem indexLet (c : UInt8) (w : World) :
    Calls Tryz.prog 138 #[.string { data := #[97, 98, 99, 100, 101, 102, 103, 104, 105, 106, 107, 108, 109, 110, 111, 112, 113, 114, 115, 116, 117, 118, 119, 120, 121, 122] }, .int .u8 c.toNat] w fun e w' => e = .returned (.int .i64 (ltIdx c)) ∧ w = w' := by
  refine (indexByte _ _ w).mono ?_
  rintro e w' ⟨rfl, rfl⟩
  refine ⟨?_, rfl⟩
  have : ((c.toNat : Int).toNat.toUInt8) = c := by simp
  rw [this]; rfl
theorem indexPl (c : UInt8) (w : World) :
    Calls Tryz.prog 138 #[.string { data := #[97, 98, 99, 100, 101, 102, 103, 104, 105, 106, 107, 108, 109, 110, 111, 112, 113, 114, 115, 116, 117, 118, 119, 120, 121, 122, 48, 49, 50, 51, 52, 53, 54, 55, 56, 57, 95] }, .int .u8 c.toNat] w fun e w' => e = .returned (.int .i64 (plIdx c)) ∧ w = w' := by
  refine (indexByte _ _ w).mono ?_
  rintro e w' ⟨rfl, rfl⟩
  refine ⟨?_, rfl⟩
  have : ((c.toNat : Int).toNat.toUInt8) = c := by simp
  rw [this]; rfl

set_option maxHeartbeats 400000 in
theorem plain_any (s : ByteArray) (w : World) (hs : s.size ≤ maxLen) :
    Calls Tryz.prog 139 #[.string s] w fun e w' => e = .returned (.bool (plB s)) ∧ w = w' := by
  unfold maxLen at hs
  go_enter Tryz.func139, Tryz.ntmps139
  go_wp2_with fail
  go_loop [6] (fun i => ∃ k : Nat, k ≤ s.size ∧ i = .int .i64 k ∧ (s.data.toList.take k).all isPl = true) (fun i => s.size - (intOf i).toNat)
  case atStart => exact ⟨0, Nat.zero_le _, rfl, rfl⟩
  case round =>
    obtain ⟨k, hk, rfl, ha⟩ := hrel
    have HA := Lib.hid ha; clear ha
    by_cases hlt : k < s.size
    · go_wp2_with (go_at_call 138; refine (indexPl _ _).mono ?_; rintro e w' ⟨rfl, rfl⟩)
      · have hp : isPl s[k] = false := (plIdx_iff _).1 (by assumption)
        go_ret
        exact ⟨by rw [pl_false s k hlt hp]; rfl, rfl⟩
      · have hp : isPl s[k] = true := by
          have h0 : 0 ≤ plIdx s[k] := by assumption
          have := plIdx_iff s[k]
          cases h : isPl s[k]
          · have := this.2 h; omega
          · rfl
        go_round
        case rel => exact ⟨k + 1, by omega, by go_num, by rw [pl_succ s k hlt, HA.out, hp]; rfl⟩
        case measure => simp [intOf]; omega
    · go_wp2_with fail
      go_ret
      exact ⟨by rw [pl_true s k hlt HA.out]; rfl, rfl⟩

theorem toList_nil_iff (s : ByteArray) : s.toList = [] ↔ s.size = 0 := by
  rw [ByteArray.toList_eq]
  rw [← List.length_eq_zero_iff, ba_length]
theorem isEmpty_iff (s : ByteArray) : s.toList.isEmpty = decide (s.size = 0) := by
  rw [Bool.eq_iff_iff]; simp [toList_nil_iff]
theorem nameB_of (s : ByteArray) (h : 0 < s.size) : nameB s = (decide (s.size ≤ 16) && (isLet s[0] && plB s)) := by
  unfold nameB; rw [head_get s h, decide_eq_true h, Bool.true_and, Bool.and_assoc]
set_option maxHeartbeats 400000 in
theorem name_any (s : ByteArray) (w : World) (hs : s.size ≤ maxLen) :
    Calls Tryz.prog 83 #[.string s] w fun e w' => e = .returned (.bool (nameB s)) ∧ w = w' := by
  have hs' := hs
  unfold maxLen at hs
  by_cases h0 : 0 < s.size
  · have H := Lib.hid (nameB_of s h0)
    have hl := Lib.hid (ltIdx_iff s[0])
    have he : s.toList.isEmpty = false := by rw [isEmpty_iff]; exact decide_eq_false (by omega)
    have he' : ¬ s.toList = [] := by rw [toList_nil_iff]; omega
    go_enter Tryz.func83, Tryz.ntmps83
    go_wp2_with (first | (go_at_call 138; refine (indexLet _ _).mono ?_; rintro e w' ⟨rfl, rfl⟩) | (go_at_call 139; refine (plain_any _ _ hs').mono ?_; rintro e w' ⟨rfl, rfl⟩))
    · have a1 : s.size ≤ 16 := by have : (s.size : Int) ≤ 16 := by assumption
                                  omega
      have a2 : isLet s[0] = true := by
        have h0 : 0 ≤ ltIdx s[0] := by assumption
        cases h : isLet s[0]
        · have := hl.out.2 h; omega
        · rfl
      go_ret
      exact ⟨by rw [H.out, decide_eq_true a1, a2]; rfl, rfl⟩
    · have a2 : isLet s[0] = false := hl.out.1 (by assumption)
      go_ret
      exact ⟨by rw [H.out, a2, Bool.false_and, Bool.and_false]; rfl, rfl⟩
    · have a1 : ¬ s.size ≤ 16 := by have : 16 < (s.size : Int) := by assumption
                                    omega
      go_ret
      exact ⟨by rw [H.out, decide_eq_false a1]; rfl, rfl⟩
  · have he : s.toList.isEmpty = true := by rw [isEmpty_iff]; exact decide_eq_true (by omega)
    have he' : s.toList = [] := by rw [toList_nil_iff]; omega
    have H := Lib.hid (show nameB s = false by simp [nameB, h0])
    go_enter Tryz.func83, Tryz.ntmps83
    go_wp2_with fail
    go_ret
    exact ⟨by rw [H.out]; rfl, rfl⟩

theorem isPl_false (c : UInt8) : isPl c = false ↔ ¬ ((97 ≤ (c.toNat : Int) ∧ (c.toNat : Int) ≤ 122) ∨ (48 ≤ (c.toNat : Int) ∧ (c.toNat : Int) ≤ 57) ∨ (c.toNat : Int) = 95) := by
  rw [← isPl_iff]; simp
set_option maxHeartbeats 400000 in
theorem rname_no (s : ByteArray) (w : World) (hs : s.size ≤ maxLen) (hn : nameB s = false) (hx : s.size = 0 ∨ 16 < s.size ∨ ∃ h : 0 < s.size, (s[0].toNat : Int) < 97 ∨ 122 < (s[0].toNat : Int)) :
    Calls Tryz.prog 176 #[.string s] w fun e w' => e = .returned (.bool (nameB s)) ∧ w = w' := by
  unfold maxLen at hs
  have H := Lib.hid hn
  clear hn
  rcases hx with hx | hx | ⟨h0, hx⟩
  · have hx' : (s.size : Int) < 1 := by omega
    clear hx
    go_enter Tryz.func176, Tryz.ntmps176
    go_wp2_with fail
    go_ret
    exact ⟨by rw [H.out]; rfl, rfl⟩
  · go_enter Tryz.func176, Tryz.ntmps176
    go_wp2_with fail
    go_ret
    exact ⟨by rw [H.out]; rfl, rfl⟩
  · by_cases h1 : s.size ≤ 16
    · rcases hx with hx | hx
      all_goals
        go_enter Tryz.func176, Tryz.ntmps176
        go_wp2_with fail
        go_ret
        exact ⟨by rw [H.out]; rfl, rfl⟩
    · go_enter Tryz.func176, Tryz.ntmps176
      go_wp2_with fail
      go_ret
      exact ⟨by rw [H.out]; rfl, rfl⟩
set_option maxHeartbeats 1000000 in
theorem rname_yes (s : ByteArray) (w : World) (hs : s.size ≤ maxLen) (h0 : 0 < s.size) (h1 : s.size ≤ 16) (h2 : 97 ≤ (s[0].toNat : Int)) (h3 : (s[0].toNat : Int) ≤ 122) (hn : nameB s = plB s) :
    Calls Tryz.prog 176 #[.string s] w fun e w' => e = .returned (.bool (nameB s)) ∧ w = w' := by
  unfold maxLen at hs
  have H := Lib.hid hn
  clear hn
  go_enter Tryz.func176, Tryz.ntmps176
  go_wp2_with fail
  go_loop [3] (fun i => ∃ k : Nat, k ≤ s.size ∧ i = .int .i64 k ∧ (s.data.toList.take k).all isPl = true) (fun i => s.size - (intOf i).toNat)
  case atStart => exact ⟨0, Nat.zero_le _, rfl, rfl⟩
  case round =>
    obtain ⟨k, hk, rfl, ha⟩ := hrel
    have HA := Lib.hid ha; clear ha
    by_cases hlt : k < s.size
    · have hp := isPl_false s[k]
      have hps := pl_succ s k hlt
      cases hq : isPl s[k]
      · have H2 := Lib.hid (pl_false s k hlt hq)
        have hb0 := hp.1 hq
        have hb : (s[k].toNat : Int) < 48 ∨ (58 ≤ (s[k].toNat : Int) ∧ (s[k].toNat : Int) < 95) ∨ (96 ≤ (s[k].toNat : Int) ∧ (s[k].toNat : Int) < 97) ∨ 122 < (s[k].toNat : Int) := by omega
        have hne : ((s[k].toNat : Int) != 95) = true := by rw [bne_iff_ne]; omega
        clear hp hq hps hb0
        rcases hb with hb | hb | hb | hb
        all_goals
          go_wp2_with fail
          go_ret
          exact ⟨by rw [H.out, H2.out]; rfl, rfl⟩
      · rw [hq] at hps hp
        have HS := Lib.hid hps
        have hb : ((97 ≤ (s[k].toNat : Int) ∧ (s[k].toNat : Int) ≤ 122) ∨ (48 ≤ (s[k].toNat : Int) ∧ (s[k].toNat : Int) ≤ 57) ∨ (s[k].toNat : Int) = 95) := by
          rw [← isPl_iff, hq]
        clear hp hq hps
        have fin : (List.take (k + 1) s.data.toList).all isPl = true := by rw [HS.out, HA.out]; rfl
        have FIN := Lib.hid fin
        clear fin
        rcases hb with hb | hb | hb
        all_goals
          go_wp2_with fail
          go_round
          case rel => exact ⟨k + 1, by omega, by go_num, FIN.out⟩
          case measure => simp [intOf]; omega
    · go_wp2_with fail
      go_ret
      exact ⟨by rw [H.out, pl_true s k hlt HA.out]; rfl, rfl⟩
theorem rname_any (s : ByteArray) (w : World) (hs : s.size ≤ maxLen) :
    Calls Tryz.prog 176 #[.string s] w fun e w' => e = .returned (.bool (nameB s)) ∧ w = w' := by
  by_cases h0 : 0 < s.size
  · by_cases h1 : s.size ≤ 16
    · by_cases h2 : 97 ≤ (s[0].toNat : Int)
      · by_cases h3 : (s[0].toNat : Int) ≤ 122
        · exact rname_yes s w hs h0 h1 h2 h3 (by rw [nameB_of s h0, decide_eq_true h1, (isLet_iff _).2 ⟨h2, h3⟩]; rfl)
        · refine rname_no s w hs ?_ (.inr (.inr ⟨h0, .inr (by omega)⟩))
          rw [nameB_of s h0, show isLet s[0] = false by rw [← Bool.not_eq_true, isLet_iff]; omega]; simp
      · refine rname_no s w hs ?_ (.inr (.inr ⟨h0, .inl (by omega)⟩))
        rw [nameB_of s h0, show isLet s[0] = false by rw [← Bool.not_eq_true, isLet_iff]; omega]; simp
    · exact rname_no s w hs (by rw [nameB_of s h0, decide_eq_false h1]; rfl) (.inr (.inl (by omega)))
  · exact rname_no s w hs (by simp [nameB, h0]) (.inl (by omega))
end Go.Proofs.YtgkhmnamkfgciaaGreat

namespace Go.Proofs.YtgkhmnamkfgciaaGreat
def emp (s : ByteArray) : Bool := s.toList.isEmpty
theorem cat_nil_iff (a b : ByteArray) : (a ++ b).toList = [] ↔ a.toList = [] ∧ b.toList = [] := by
  simp only [toList_nil_iff, ByteArray.size_append]; omega
end Go.Proofs.YtgkhmnamkfgciaaGreat

namespace Go.Proofs.YtgkhmnamkfgciaaGreat
open Go.RowKit
set_option maxRecDepth 100000

/-- is a rule zero? -/
def bareB (name : ByteArray) (kind : Int) (n : Nat) (low high : Int) (schema table key : ByteArray) : Bool :=
  decide (n = 0) && emp name && emp schema && emp table && emp key && (kind == 0) && (low == 0) && (high == 0)

end Go.Proofs.YtgkhmnamkfgciaaGreat

namespace Go.Proofs.YtgkhmnamkfgciaaGreat
open Go.RowKit
set_option maxRecDepth 100000
theorem ext_lt {k : Nat} {p : Nat → Prop} (h : ∀ j, j < k → p j) (hk : p k) : ∀ j, j < k + 1 → p j := forall_lt_succ k p h hk
theorem anyP_true {α : Type} (p : α → Bool) (l : List α) (k : Nat) (hk : k < l.length) (hp : p l[k] = true) : l.any p = true := List.any_eq_true.2 ⟨l[k], List.getElem_mem hk, hp⟩
theorem anyP_false {α : Type} (p : α → Bool) (l : List α) (h : ∀ i (hi : i < l.length), p l[i] = false) : l.any p = false := by
  rw [Bool.eq_false_iff]
  intro ha
  obtain ⟨x, hx, hp⟩ := List.any_eq_true.1 ha
  obtain ⟨i, hi, rfl⟩ := List.getElem_of_mem hx
  rw [h i hi] at hp; cases hp
set_option maxHeartbeats 1000000 in
theorem rcol_any (A : Option Addr) (cap : Nat) (l : List Col) (name : ByteArray) (w : World) (h : SlAt w 3 ColR A cap l) :
    Calls Tryz.prog 279 #[.slice A l.length cap, .string name] w fun e w' => e = .returned (.int .i64 (idxP (fun c => eqS c.name name) l)) ∧ w = w' := by
  have hlen := h.len
  go_enter Tryz.func279, Tryz.ntmps279
  go_wp2_with fail
  go_loop [5] (fun i => ∃ k : Nat, k ≤ l.length ∧ i = .int .i64 k ∧ ∀ j, j < k → ∀ (hj : j < l.length), eqS l[j].name name = false) (fun i => l.length - (intOf i).toNat)
  case atStart => exact ⟨0, Nat.zero_le _, rfl, fun j hj => absurd hj (Nat.not_lt_zero j)⟩
  case round =>
    obtain ⟨k, hk, rfl, hp⟩ := hrel
    have HP := Lib.hid hp; clear hp
    by_cases hlt : k < l.length
    · obtain ⟨b, off, rfl, hb, c0, c1, c2, hs⟩ := col_at h hlt
      cases heq : eqS l[k].name name
      · have h2 : (l[k].name.toList == name.toList) = false := heq
        have HN := Lib.hid (ext_lt (p := fun j => ∀ (hj : j < l.length), eqS l[j].name name = false) HP.out (fun _ => heq))
        clear heq
        go_wp2_with fail
        go_round
        case rel => exact ⟨k + 1, by omega, by go_num, HN.out⟩
        case measure => simp [intOf]; omega
      · have h2 : (l[k].name.toList == name.toList) = true := heq
        have HQ := Lib.hid heq
        clear heq
        go_wp2_with fail
        go_ret
        have heq := HQ.out
        exact ⟨by rw [idxP_some (fun c => eqS c.name name) l k hlt heq (fun i hi => HP.out i hi (by omega))]; rfl, rfl⟩
    · go_wp2_with fail
      go_ret
      exact ⟨by rw [idxP_none (fun c => eqS c.name name) l (fun i hi => HP.out i (by omega) hi)]; rfl, rfl⟩
set_option maxHeartbeats 1000000 in
theorem rrul_any (A : Option Addr) (cap : Nat) (l : List Rul) (name : ByteArray) (w : World) (h : SlAt w 8 RulR A cap l) :
    Calls Tryz.prog 281 #[.slice A l.length cap, .string name] w fun e w' => e = .returned (.int .i64 (idxP (fun c => eqS c.name name) l)) ∧ w = w' := by
  have hlen := h.len
  go_enter Tryz.func281, Tryz.ntmps281
  go_wp2_with fail
  go_loop [5] (fun i => ∃ k : Nat, k ≤ l.length ∧ i = .int .i64 k ∧ ∀ j, j < k → ∀ (hj : j < l.length), eqS l[j].name name = false) (fun i => l.length - (intOf i).toNat)
  case atStart => exact ⟨0, Nat.zero_le _, rfl, fun j hj => absurd hj (Nat.not_lt_zero j)⟩
  case round =>
    obtain ⟨k, hk, rfl, hp⟩ := hrel
    have HP := Lib.hid hp; clear hp
    by_cases hlt : k < l.length
    · obtain ⟨b, off, A2, cap2, rfl, hb, c0, c1, c2, c3, c4, c5, c6, c7, hs⟩ := rul_at h hlt
      cases heq : eqS l[k].name name
      · have h2 : (l[k].name.toList == name.toList) = false := heq
        have HN := Lib.hid (ext_lt (p := fun j => ∀ (hj : j < l.length), eqS l[j].name name = false) HP.out (fun _ => heq))
        clear heq
        go_wp2_with fail
        go_round
        case rel => exact ⟨k + 1, by omega, by go_num, HN.out⟩
        case measure => simp [intOf]; omega
      · have h2 : (l[k].name.toList == name.toList) = true := heq
        have HQ := Lib.hid heq
        clear heq
        go_wp2_with fail
        go_ret
        have heq := HQ.out
        exact ⟨by rw [idxP_some (fun c => eqS c.name name) l k hlt heq (fun i hi => HP.out i hi (by omega))]; rfl, rfl⟩
    · go_wp2_with fail
      go_ret
      exact ⟨by rw [idxP_none (fun c => eqS c.name name) l (fun i hi => HP.out i (by omega) hi)]; rfl, rfl⟩
set_option maxHeartbeats 1000000 in
theorem rin_any (A : Option Addr) (cap : Nat) (l : List ByteArray) (name : ByteArray) (w : World) (h : SlAt w 1 StrR A cap l) :
    Calls Tryz.prog 112 #[.slice A l.length cap, .string name] w fun e w' => e = .returned (.bool (l.any fun c => eqS c name)) ∧ w = w' := by
  have hlen := h.len
  go_enter Tryz.func112, Tryz.ntmps112
  go_wp2_with fail
  go_loop [5] (fun i => ∃ k : Nat, k ≤ l.length ∧ i = .int .i64 k ∧ ∀ j, j < k → ∀ (hj : j < l.length), eqS l[j] name = false) (fun i => l.length - (intOf i).toNat)
  case atStart => exact ⟨0, Nat.zero_le _, rfl, fun j hj => absurd hj (Nat.not_lt_zero j)⟩
  case round =>
    obtain ⟨k, hk, rfl, hp⟩ := hrel
    have HP := Lib.hid hp; clear hp
    by_cases hlt : k < l.length
    · obtain ⟨b, off, rfl, hb, c0, hs⟩ := str_at h hlt
      cases heq : eqS l[k] name
      · have h2 : (l[k].toList == name.toList) = false := heq
        have HN := Lib.hid (ext_lt (p := fun j => ∀ (hj : j < l.length), eqS l[j] name = false) HP.out (fun _ => heq))
        clear heq
        go_wp2_with fail
        go_round
        case rel => exact ⟨k + 1, by omega, by go_num, HN.out⟩
        case measure => simp [intOf]; omega
      · have h2 : (l[k].toList == name.toList) = true := heq
        have HQ := Lib.hid heq
        clear heq
        go_wp2_with fail
        go_ret
        have heq := HQ.out
        exact ⟨by rw [anyP_true (fun c => eqS c name) l k hlt heq]; rfl, rfl⟩
    · go_wp2_with fail
      go_ret
      exact ⟨by rw [anyP_false (fun c => eqS c name) l (fun i hi => HP.out i (by omega) hi)]; rfl, rfl⟩
end Go.Proofs.YtgkhmnamkfgciaaGreat

