/- Objects in memory of our own, by their shape: what may be written over, and what stays. -/
import Derived.Test.YtcdhljcpoopfaaaRow
import Derived.OneCell
namespace Go.Proofs.Ytcdhljcpoopfaaa
open Go.RowKit
set_option linter.unusedVariables false
/-- all but the blocks from B up to B' is as it was -/
structure Kp (B B' : Nat) (w w' : World) : Prop where
  os : w'.os = w.os
  tape : w'.tape = w.tape
  output : w'.output = w.output
  size : w.heap.size ≤ w'.heap.size
  block : ∀ k, k < w.heap.size → (k < B ∨ B' ≤ k) → w'.heap[k]? = w.heap[k]?
theorem Kp.refl (B B' : Nat) (w : World) : Kp B B' w w := ⟨rfl, rfl, rfl, Nat.le_refl _, fun _ _ _ => rfl⟩
theorem Kp.aft {B B' : Nat} {w w' w'' : World} (h : Kp B B' w w') (a : Aft w' w'') : Kp B B' w w'' :=
  ⟨a.os.trans h.os, a.tape.trans h.tape, a.output.trans h.output, Nat.le_trans h.size a.size, fun k hk hb => (a.block k (Nat.lt_of_lt_of_le hk h.size)).trans (h.block k hk hb)⟩
theorem Kp.trans {B B' : Nat} {w w' w'' : World} (h : Kp B B' w w') (a : Kp B B' w' w'') : Kp B B' w w'' :=
  ⟨a.os.trans h.os, a.tape.trans h.tape, a.output.trans h.output, Nat.le_trans h.size a.size, fun k hk hb => (a.block k (Nat.lt_of_lt_of_le hk h.size) hb).trans (h.block k hk hb)⟩
theorem Kp.of_aft {B B' : Nat} {w w' : World} (a : Aft w w') : Kp B B' w w' := (Kp.refl B B' w).aft a
theorem Kp.set {B B' : Nat} {w w' : World} (h : Kp B B' w w') (p : Addr) (v : Value) (h1 : B ≤ p.block) (h2 : p.block < B') : Kp B B' w (w'.setCell p v) :=
  ⟨h.os, h.tape, h.output, by simpa using h.size, fun k hk hb => by rw [Below.heap_setCell _ _ _ _ (by omega)]; exact h.block k hk hb⟩
theorem Kp.cell {B B' : Nat} {w w' : World} (h : Kp B B' w w') {p : Addr} {v : Value} (hc : w.cell? p = some v) (hb : p.block < B ∨ B' ≤ p.block) : w'.cell? p = some v := by
  have := h.block p.block (World.block_lt_of_cell? w p hc) hb
  unfold World.cell? at hc ⊢
  rw [this]; exact hc
theorem Kp.to_aft {B B' : Nat} {W0 w w' : World} (h : Kp B B' w w') (a : Aft W0 w) (hB : W0.heap.size ≤ B) : Aft W0 w' :=
  ⟨h.os.trans a.os, h.tape.trans a.tape, h.output.trans a.output, Nat.le_trans a.size h.size, fun k hk => (h.block k (Nat.lt_of_lt_of_le hk a.size) (.inl (Nat.lt_of_lt_of_le hk hB))).trans (a.block k hk)⟩
/-- a block of a kind, that may be written -/
def Blk (w : World) (B B' g : Nat) (e : TypeId) (n : Nat) : Prop := B ≤ g ∧ g < B' ∧ ∃ cur, w.heap[g]? = some (.cells cur e (0, 0)) ∧ n ≤ cur.size
theorem Blk.lt {w : World} {B B' g n : Nat} {e : TypeId} (h : Blk w B B' g e n) : g < w.heap.size := by
  obtain ⟨_, _, cur, hg, _⟩ := h; exact lt_of_block hg
theorem Blk.cell {w : World} {B B' g n : Nat} {e : TypeId} (h : Blk w B B' g e n) {j : Nat} (hj : j < n) : ∃ v, w.cell? ⟨g, j, none⟩ = some v := by
  obtain ⟨_, _, cur, hg, hn⟩ := h
  exact ⟨cur[j]'(by omega), by simp [World.cell?, hg]⟩
theorem Blk.free {w : World} {B B' g n : Nat} {e : TypeId} (h : Blk w B B' g e n) (j : Nat) : w.frozen? ⟨g, j, none⟩ = false := by
  obtain ⟨_, _, cur, hg, hn⟩ := h
  simp [World.frozen?, hg]
theorem Blk.aft {w w' : World} {B B' g n : Nat} {e : TypeId} (h : Blk w B B' g e n) (a : Aft w w') : Blk w' B B' g e n := by
  have hl := h.lt
  obtain ⟨h1, h2, cur, hg, hn⟩ := h
  exact ⟨h1, h2, cur, (a.block g hl).trans hg, hn⟩
theorem Blk.set {w : World} {B B' g n : Nat} {e : TypeId} (h : Blk w B B' g e n) (g0 j0 : Nat) (v : Value) : Blk (w.setCell ⟨g0, j0, none⟩ v) B B' g e n := by
  have hl := h.lt
  obtain ⟨h1, h2, cur, hg, hn⟩ := h
  by_cases hgg : g0 = g
  · subst hgg
    refine ⟨h1, h2, cur.setIfInBounds j0 v, ?_, by simpa using hn⟩
    have h' : w.heap[g0] = .cells cur e (0, 0) := by simpa [Array.getElem?_eq_getElem hl] using hg
    show (w.heap.modify g0 _)[g0]? = _
    rw [Array.getElem?_eq_getElem (by simpa using hl), Array.getElem_modify_self, h']
    simp
  · exact ⟨h1, h2, cur, by rw [Below.heap_setCell _ _ _ _ (by simpa using fun e => hgg e.symm)]; exact hg, hn⟩
/-- a slice's head -/
structure Hd where
  a : Option Addr
  n : Nat
  c : Nat
def Hd.v (h : Hd) : Value := .slice h.a h.n h.c
structure Lay where
  col : Nat → Hd
  rul : Nat → Hd
  nam : Nat → Nat → Hd
def ShV (w : World) (B B' : Nat) (e : TypeId) (size : Nat) (h : Hd) : Prop := h.n * 16 ≤ 140737488351232 ∧ (0 < h.n → ∃ g, h.a = some ⟨g, 0, none⟩ ∧ Blk w B B' g e (h.n * size))
theorem ShV.aft {w w' : World} {B B' size : Nat} {e : TypeId} {h : Hd} (s : ShV w B B' e size h) (a : Aft w w') : ShV w' B B' e size h :=
  ⟨s.1, fun h0 => by obtain ⟨g, hg, hb⟩ := s.2 h0; exact ⟨g, hg, hb.aft a⟩⟩
theorem ShV.set {w : World} {B B' size : Nat} {e : TypeId} {h : Hd} (s : ShV w B B' e size h) (g0 j0 : Nat) (v : Value) : ShV (w.setCell ⟨g0, j0, none⟩ v) B B' e size h :=
  ⟨s.1, fun h0 => by obtain ⟨g, hg, hb⟩ := s.2 h0; exact ⟨g, hg, hb.set g0 j0 v⟩⟩
/-- rules of our own: each has its names -/
def ShR (w : World) (B B' : Nat) (h : Hd) (nam : Nat → Hd) : Prop := h.n * 16 ≤ 140737488351232 ∧ (0 < h.n → ∃ g, h.a = some ⟨g, 0, none⟩ ∧ Blk w B B' g 86 (h.n * 8) ∧ ∀ j, j < h.n → w.cell? ⟨g, j * 8 + 2, none⟩ = some (nam j).v) ∧ ∀ j, j < h.n → ShV w B B' 9 1 (nam j)
/-- tables of our own -/
def ShT (w : World) (B B' : Nat) (h : Hd) (L : Lay) : Prop := h.n * 16 ≤ 140737488351232 ∧ (0 < h.n → ∃ g, h.a = some ⟨g, 0, none⟩ ∧ Blk w B B' g 56 (h.n * 5) ∧ ∀ i, i < h.n → w.cell? ⟨g, i * 5 + 3, none⟩ = some (L.col i).v ∧ w.cell? ⟨g, i * 5 + 4, none⟩ = some (L.rul i).v) ∧
  ∀ i, i < h.n → ShV w B B' 105 3 (L.col i) ∧ ShR w B B' (L.rul i) (L.nam i)
/-- a store that leaves the heads alone -/
def OkW (w : World) (g0 j0 : Nat) : Prop := ∃ cur e0 f, w.heap[g0]? = some (.cells cur e0 f) ∧ (e0 = 86 → j0 % 8 ≠ 2) ∧ (e0 = 56 → j0 % 5 ≠ 3 ∧ j0 % 5 ≠ 4)
theorem cell_far {w : World} {g j g0 j0 : Nat} {v u : Value} (hc : w.cell? ⟨g, j, none⟩ = some u) (hne : ¬ (g0 = g ∧ j0 = j)) : (w.setCell ⟨g0, j0, none⟩ v).cell? ⟨g, j, none⟩ = some u := by
  refine (World.cell?_setCell_other _ _ _ _ ?_).trans hc
  intro e; injection e with e1 e2 _; exact hne ⟨e1, e2⟩
theorem ok_rule {w : World} {g0 j0 g n B B' i : Nat} (ok : OkW w g0 j0) (b : Blk w B B' g 86 n) : ¬ (g0 = g ∧ j0 = i * 8 + 2) := by
  rintro ⟨rfl, rfl⟩
  obtain ⟨cur, e0, f, hg, h1, _⟩ := ok
  obtain ⟨_, _, cur', hg', _⟩ := b
  rw [hg] at hg'
  simp only [Option.some.injEq, Obj.cells.injEq] at hg'
  exact h1 hg'.2.1 (by omega)
theorem ok_tab {w : World} {g0 j0 g n B B' i : Nat} (ok : OkW w g0 j0) (b : Blk w B B' g 56 n) : ¬ (g0 = g ∧ j0 = i * 5 + 3) ∧ ¬ (g0 = g ∧ j0 = i * 5 + 4) := by
  obtain ⟨cur, e0, f, hg, _, h1⟩ := ok
  obtain ⟨_, _, cur', hg', _⟩ := b
  constructor
  · rintro ⟨rfl, rfl⟩
    rw [hg] at hg'
    simp only [Option.some.injEq, Obj.cells.injEq] at hg'
    exact (h1 hg'.2.1).1 (by omega)
  · rintro ⟨rfl, rfl⟩
    rw [hg] at hg'
    simp only [Option.some.injEq, Obj.cells.injEq] at hg'
    exact (h1 hg'.2.1).2 (by omega)
theorem ShR.set {w : World} {B B' : Nat} {h : Hd} {nam : Nat → Hd} (s : ShR w B B' h nam) {g0 j0 : Nat} (ok : OkW w g0 j0) (v : Value) : ShR (w.setCell ⟨g0, j0, none⟩ v) B B' h nam :=
  ⟨s.1, fun h0 => by obtain ⟨g, hg, hb, hc⟩ := s.2.1 h0; exact ⟨g, hg, hb.set g0 j0 v, fun j hj => cell_far (hc j hj) (ok_rule ok hb)⟩, fun j hj => (s.2.2 j hj).set g0 j0 v⟩
theorem ShT.set {w : World} {B B' : Nat} {h : Hd} {L : Lay} (s : ShT w B B' h L) {g0 j0 : Nat} (ok : OkW w g0 j0) (v : Value) : ShT (w.setCell ⟨g0, j0, none⟩ v) B B' h L :=
  ⟨s.1, fun h0 => by obtain ⟨g, hg, hb, hc⟩ := s.2.1 h0; exact ⟨g, hg, hb.set g0 j0 v, fun i hi => ⟨cell_far (hc i hi).1 (ok_tab ok hb).1, cell_far (hc i hi).2 (ok_tab ok hb).2⟩⟩, fun i hi => ⟨(s.2.2 i hi).1.set g0 j0 v, (s.2.2 i hi).2.set ok v⟩⟩
theorem ShR.aft {w w' : World} {B B' : Nat} {h : Hd} {nam : Nat → Hd} (s : ShR w B B' h nam) (a : Aft w w') : ShR w' B B' h nam :=
  ⟨s.1, fun h0 => by obtain ⟨g, hg, hb, hc⟩ := s.2.1 h0; exact ⟨g, hg, hb.aft a, fun j hj => a.cell_kept (hc j hj)⟩, fun j hj => (s.2.2 j hj).aft a⟩
theorem ShT.aft {w w' : World} {B B' : Nat} {h : Hd} {L : Lay} (s : ShT w B B' h L) (a : Aft w w') : ShT w' B B' h L :=
  ⟨s.1, fun h0 => by obtain ⟨g, hg, hb, hc⟩ := s.2.1 h0; exact ⟨g, hg, hb.aft a, fun i hi => ⟨a.cell_kept (hc i hi).1, a.cell_kept (hc i hi).2⟩⟩, fun i hi => ⟨(s.2.2 i hi).1.aft a, (s.2.2 i hi).2.aft a⟩⟩
theorem Blk.ok {w : World} {B B' g n : Nat} {e : TypeId} (h : Blk w B B' g e n) (j : Nat) (h1 : e = 86 → j % 8 ≠ 2) (h2 : e = 56 → j % 5 ≠ 3 ∧ j % 5 ≠ 4) : OkW w g j := by
  obtain ⟨_, _, cur, hg, _⟩ := h
  exact ⟨cur, e, (0, 0), hg, h1, h2⟩
/-- objects of our own -/
structure Sh (w : World) (B B' : Nat) (hs ht : Hd) (L : Lay) : Prop where
  sch : ShV w B B' 92 2 hs
  tab : ShT w B B' ht L
theorem Sh.set {w : World} {B B' : Nat} {hs ht : Hd} {L : Lay} (s : Sh w B B' hs ht L) {g0 j0 : Nat} (ok : OkW w g0 j0) (v : Value) : Sh (w.setCell ⟨g0, j0, none⟩ v) B B' hs ht L := ⟨s.sch.set g0 j0 v, s.tab.set ok v⟩
theorem Sh.aft {w w' : World} {B B' : Nat} {hs ht : Hd} {L : Lay} (s : Sh w B B' hs ht L) (a : Aft w w') : Sh w' B B' hs ht L := ⟨s.sch.aft a, s.tab.aft a⟩
end Go.Proofs.Ytcdhljcpoopfaaa
