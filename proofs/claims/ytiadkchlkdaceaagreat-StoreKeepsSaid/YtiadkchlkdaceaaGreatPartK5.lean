/- Contracts of the program, part 5. -/
import Derived.OwnWalk
import Derived.Laws.AppendOwn
import Derived.ProofKit
import Derived.OpenShut
import Derived.Deep.Slices
import Derived.ChangeOld
import Derived.SizedLaws
import Derived.WalkKit
import Derived.WalkSpells
import Derived.WalkLawsBesides
import Derived.Lib.Hide
import Derived.Deep.QuietTactic
import Derived.BigQuiet
import Derived.Below
import Derived.Deep.Draws
import Derived.StillTailTactics
import Derived.Laws.Cells
import Derived.Laws.IdiomCopy
import Derived.Test.YtiadkchlkdaceaaGreatRows
import Derived.Lib.Bytealg
import Derived.IntWalk
import Derived.ShutString
import Derived.OneCell
import Derived.Deep.Upon
import Derived.Deep.AppendLies
import Derived.Shelf.SlSortCmp.WholeK
import Derived.Lib.SliceRun
import Derived.Test.YtiadkchlkdaceaaGreatPartK1
import Derived.Test.YtiadkchlkdaceaaGreatPartK2
import Derived.Test.YtiadkchlkdaceaaGreatPartK3
import Derived.Test.YtiadkchlkdaceaaGreatPartK4
namespace Go.Proofs.YtiadkchlkdaceaaGreat
open Go.RowKit
set_option linter.unusedVariables false
theorem rowAt_new (w : World) (c : List Value) (t : TypeId) : RowAt (w.alloc (.cells c.toArray t)) w.heap.size c :=
  ⟨by simp, fun j hj => (World.cell?_alloc_at _ _ _ _ rfl).trans (by simp), fun j _ => World.frozen?_alloc_at _ _ _ _ rfl⟩
def cellsV (v : Val) : List Value := [.int .i64 v.kind, .int .i64 v.int, .string v.text]
def nullV : Val := ⟨1, 0, ⟨#[]⟩⟩
def turn1 (l : List Col) (row : List Val) (c : Col) : Val := if 0 ≤ colAt l c.name ∧ kindAt l (colAt l c.name) = c.kind then valAt row (colAt l c.name) else nullV
def turnVs (l m : List Col) (row : List Val) : List Val := m.map (turn1 l row)
def turnC (l m : List Col) (row : List Val) : Int := if colsOk l = false then 1 else if colsOk m = false then 1 else if besideB formB l row = false then 100 else 0
def turned (l m : List Col) (row : List Val) : List Val := if turnC l m row = 0 then turnVs l m row else []
theorem turnVs_succ (l m : List Col) (row : List Val) (k : Nat) (hk : k < m.length) : turnVs l (m.take (k + 1)) row = turnVs l (m.take k) row ++ [turn1 l row m[k]] := by
  unfold turnVs; rw [List.take_succ_eq_append_getElem hk, List.map_append]; rfl
theorem turnVs_len (l m : List Col) (row : List Val) : (turnVs l m row).length = m.length := by simp [turnVs]
theorem turn1_hit {l : List Col} {row : List Val} {c : Col} {q : Nat} (hq : colAt l c.name = q) (hl : q < l.length) (hr : q < row.length) (hk : l[q].kind = c.kind) : turn1 l row c = row[q] := by
  unfold turn1
  rw [hq, if_pos ⟨by omega, by simpa [kindAt, List.getElem?_eq_getElem hl] using hk⟩]
  exact valAt_get hr
theorem turn1_miss {l : List Col} {row : List Val} {c : Col} (h : colAt l c.name < 0) : turn1 l row c = nullV := by
  unfold turn1; rw [if_neg (by omega)]
theorem turn1_other {l : List Col} {row : List Val} {c : Col} {q : Nat} (hq : colAt l c.name = q) (hl : q < l.length) (hk : ¬ l[q].kind = c.kind) : turn1 l row c = nullV := by
  unfold turn1
  rw [hq, if_neg (by intro h; exact hk (by simpa [kindAt, List.getElem?_eq_getElem hl] using h.2))]
def TurnP (w : World) (l : List Val) (c : Int) (e : Ending) (w' : World) : Prop := ∃ v, e = .returned (.tuple #[v, .int .i64 c]) ∧ Aft w w' ∧ w'.ownsRow w.heap.size 37 3 v l.length (l.flatMap cellsV)
theorem infoV : (Tryz.prog.info? 37).map (fun i => (i.zero, i.size, i.bytes)) = some (some (.agg #[.int .i64 0, .int .i64 0, .string ByteArray.empty]), 3, 32) := by kernel_rfl
theorem own_lt {w : World} {base size n : Nat} {e : TypeId} {v : Value} {xs : List Value} (h : w.ownsRow base e size v n xs) : ∀ k, v.ownBlock = some k → k < w.heap.size := by
  intro k hk
  rcases h.2 with ⟨rfl, _⟩ | ⟨g, cap, cur, rfl, hb, hgg, _⟩
  · simp [Value.ownBlock] at hk
  · simp only [Value.ownBlock, Option.some.injEq] at hk
    have := (Array.getElem?_eq_some_iff.1 hgg).1
    omega
theorem own_vals {w : World} {base : Nat} {e : TypeId} {v : Value} {l : List Val} (h : w.ownsRow base e 3 v l.length (l.flatMap cellsV)) (hs : Small (l.length * 16)) (ht : ∀ x ∈ l, Small x.text.size) : ∃ A cap, v = .slice A l.length cap ∧ SlAt w 3 ValR A cap l :=
  own_slAt (base := base) (e := e) cellsV ValR (fun _ => rfl) h (fun x hx => ⟨rfl, ht x hx⟩) hs
theorem turnC_1 {l m : List Col} {row : List Val} (h : colsOk l = false) : turnC l m row = 1 := by unfold turnC; rw [if_pos h]
theorem turnC_1' {l m : List Col} {row : List Val} (h0 : colsOk l = true) (h : colsOk m = false) : turnC l m row = 1 := by unfold turnC; rw [if_neg (by rw [h0]; simp), if_pos h]
theorem turnC_100 {l m : List Col} {row : List Val} (h0 : colsOk l = true) (h : colsOk m = true) (h1 : besideB formB l row = false) : turnC l m row = 100 := by unfold turnC; rw [if_neg (by rw [h0]; simp), if_neg (by rw [h]; simp), if_pos h1]
theorem turnC_0 {l m : List Col} {row : List Val} (h0 : colsOk l = true) (h : colsOk m = true) (h1 : besideB formB l row = true) : turnC l m row = 0 := by unfold turnC; rw [if_neg (by rw [h0]; simp), if_neg (by rw [h]; simp), if_neg (by rw [h1]; simp)]
theorem turned_no {l m : List Col} {row : List Val} (h : ¬ turnC l m row = 0) : turned l m row = [] := by unfold turned; rw [if_neg h]
theorem turned_yes {l m : List Col} {row : List Val} (h : turnC l m row = 0) : turned l m row = turnVs l m row := by unfold turned; rw [if_pos h]
theorem cols_len {l : List Col} (h : colsOk l = true) : l.length ≤ 8 := by
  unfold colsOk at h; simp only [Bool.and_eq_true, decide_eq_true_eq] at h; exact h.1.2
theorem tableOk_cols (l : List Col) (a b c : ByteArray) : tableOk ⟨a, b, c, l, []⟩ = colsOk l := by unfold tableOk; simp [risesB]
end Go.Proofs.YtiadkchlkdaceaaGreat

namespace Go.Proofs.YtiadkchlkdaceaaGreat
open Go.RowKit
set_option linter.unusedVariables false
/-- the values of some columns -/
def ofVs (l : List Col) (cs : List ByteArray) (row : List Val) : List Val := cs.map fun s => valAt row (colAt l s)
def wholeV (l : List Val) : Bool := l.all fun v => v.kind != 1
theorem ofVs_succ (l : List Col) (cs : List ByteArray) (row : List Val) (k : Nat) (hk : k < cs.length) : ofVs l (cs.take (k + 1)) row = ofVs l (cs.take k) row ++ [valAt row (colAt l cs[k])] := by
  unfold ofVs; rw [List.take_succ_eq_append_getElem hk, List.map_append]; rfl
theorem ofVs_len (l : List Col) (cs : List ByteArray) (row : List Val) : (ofVs l cs row).length = cs.length := by simp [ofVs]
theorem wholeV_snoc (l : List Val) (v : Val) : wholeV (l ++ [v]) = (wholeV l && v.kind != 1) := by simp [wholeV]
/-- a null that may be is the null -/
theorem null_iff {v : Val} (h : mayV v = true) : eqV nullV v = (v.kind == 1) := by
  cases hk : (v.kind == 1)
  · rw [Bool.eq_false_iff]; intro he
    have := (eqV_iff _ _).1 he
    have h1 : v.kind = 1 := this.1.symm
    rw [h1] at hk; cases hk
  · have h1 : v.kind = 1 := by simpa using hk
    unfold mayV at h
    rw [hk, if_pos rfl, Bool.and_eq_true] at h
    obtain ⟨h2, h3⟩ := h
    refine (eqV_iff _ _).2 ⟨h1.symm, (by simpa using h2 : v.int = 0).symm, ?_⟩
    rw [eqS_comm, show nullV.text = ⟨#[]⟩ from rfl, eqS_nil]; exact h3
theorem val_may {l : List Col} {row : List Val} (h : besideB formB l row = true) {q : Nat} (hq : q < row.length) : mayV row[q] = true := by
  obtain ⟨hl, hf⟩ := (besideB_iff formB l row).1 h
  have := hf q (by omega) hq
  unfold formB at this; simp only [Bool.and_eq_true] at this; exact this.1
def hasN (l : List Val) : Bool := l.any fun v => eqV nullV v
theorem hasN_whole {l : List Val} (h : ∀ v ∈ l, mayV v = true) : (!hasN l) = wholeV l := by
  unfold hasN wholeV
  induction l with
  | nil => rfl
  | cons v l ih =>
    rw [List.any_cons, List.all_cons, Bool.not_or, ih fun x hx => h x (by simp [hx]), null_iff (h v (by simp))]
    rfl
def OfP (w : World) (l : List Val) (b : Bool) (e : Ending) (w' : World) : Prop := ∃ v, e = .returned (.tuple #[v, .bool b]) ∧ Aft w w' ∧ w'.ownsRow w.heap.size 37 3 v l.length (l.flatMap cellsV)
/-- a rule of a right table has at most as many columns as the table -/
theorem fits_len {l : List Col} {r : Rul} (hc : colsOk l = true) (hf : fitsOk l r = true) : r.cols.length ≤ 8 := by
  have h1 : rcOk l r.cols = true := by unfold fitsOk at hf; simp only [Bool.and_eq_true] at hf; exact hf.1.1.1
  exact Nat.le_trans (rc_len l r.cols h1) (cols_len hc)
end Go.Proofs.YtiadkchlkdaceaaGreat

namespace Go.Proofs.YtiadkchlkdaceaaGreat
set_option linter.unusedVariables false
/-- in a row that rises, what is less lies ahead -/
theorem rises_lt {α : Type} {c : α → α → Int} (tr : ∀ a b d, c a b < 0 → c b d < 0 → c a d < 0) {l : List α} (h : risesB c l = true) : ∀ (a b : Nat) (ha : a < l.length) (hb : b < l.length), a < b → c l[a] l[b] < 0 := by
  intro a b
  induction b with
  | zero => intro ha hb hab; omega
  | succ b ih =>
    intro ha hb hab
    have h1 := (risesB_iff c l).1 h b hb
    rcases Nat.lt_or_ge a b with h2 | h2
    · exact tr _ _ _ (ih ha (by omega) h2) h1
    · have : a = b := by omega
      subst this; exact h1
/-- an order: of two, just one way -/
structure Ord8 {α : Type} (c : α → α → Int) : Prop where
  tr : ∀ a b d, c a b < 0 → c b d < 0 → c a d < 0
  anti : ∀ a b, c a b = - c b a
  eq0 : ∀ a b, c a b = 0 → a = b
theorem Ord8.refl {α : Type} {c : α → α → Int} (o : Ord8 c) (a : α) : c a a = 0 := by have := o.anti a a; omega
end Go.Proofs.YtiadkchlkdaceaaGreat

namespace Go.Proofs.YtiadkchlkdaceaaGreat
open Go.RowKit
set_option linter.unusedVariables false
/-- all but the blocks from B up to B' is as it was -/
structure Kp (B B' : Nat) (w w' : World) : Prop where
  os : w'.os = w.os
  tape : w'.tape = w.tape
  output : w'.output = w.output
  size : w.heap.size ≤ w'.heap.size
  block : ∀ k, k < w.heap.size → (k < B ∨ B' ≤ k) → w'.heap[k]? = w.heap[k]?
theorem Kp.refl (B B' : Nat) (w : World) : Kp B B' w w := ⟨rfl, rfl, rfl, Nat.le_refl _, fun _ _ _ => rfl⟩
theorem Kp.aft {B B' : Nat} {w w' w'' : World} (h : Kp B B' w w') (a : Aft w' w'') : Kp B B' w w'' :=
  ⟨a.os.trans h.os, a.tape.trans h.tape, a.output.trans h.output, Nat.le_trans h.size a.size, fun k hk hb => (a.block k (Nat.lt_of_lt_of_le hk h.size)).trans (h.block k hk hb)⟩
theorem Kp.trans {B B' : Nat} {w w' w'' : World} (h : Kp B B' w w') (a : Kp B B' w' w'') : Kp B B' w w'' :=
  ⟨a.os.trans h.os, a.tape.trans h.tape, a.output.trans h.output, Nat.le_trans h.size a.size, fun k hk hb => (a.block k (Nat.lt_of_lt_of_le hk h.size) hb).trans (h.block k hk hb)⟩
theorem Kp.of_aft {B B' : Nat} {w w' : World} (a : Aft w w') : Kp B B' w w' := (Kp.refl B B' w).aft a
theorem Kp.set {B B' : Nat} {w w' : World} (h : Kp B B' w w') (p : Addr) (v : Value) (h1 : B ≤ p.block) (h2 : p.block < B') : Kp B B' w (w'.setCell p v) :=
  ⟨h.os, h.tape, h.output, by simpa using h.size, fun k hk hb => by rw [Below.heap_setCell _ _ _ _ (by omega)]; exact h.block k hk hb⟩
theorem Kp.cell {B B' : Nat} {w w' : World} (h : Kp B B' w w') {p : Addr} {v : Value} (hc : w.cell? p = some v) (hb : p.block < B ∨ B' ≤ p.block) : w'.cell? p = some v := by
  have := h.block p.block (World.block_lt_of_cell? w p hc) hb
  unfold World.cell? at hc ⊢
  rw [this]; exact hc
theorem Kp.to_aft {B B' : Nat} {W0 w w' : World} (h : Kp B B' w w') (a : Aft W0 w) (hB : W0.heap.size ≤ B) : Aft W0 w' :=
  ⟨h.os.trans a.os, h.tape.trans a.tape, h.output.trans a.output, Nat.le_trans a.size h.size, fun k hk => (h.block k (Nat.lt_of_lt_of_le hk a.size) (.inl (Nat.lt_of_lt_of_le hk hB))).trans (a.block k hk)⟩
/-- a block of a kind, that may be written -/
def Blk (w : World) (B B' g : Nat) (e : TypeId) (n : Nat) : Prop := B ≤ g ∧ g < B' ∧ ∃ cur, w.heap[g]? = some (.cells cur e (0, 0)) ∧ n ≤ cur.size
theorem Blk.lt {w : World} {B B' g n : Nat} {e : TypeId} (h : Blk w B B' g e n) : g < w.heap.size := by
  obtain ⟨_, _, cur, hg, _⟩ := h; exact lt_of_block hg
theorem Blk.cell {w : World} {B B' g n : Nat} {e : TypeId} (h : Blk w B B' g e n) {j : Nat} (hj : j < n) : ∃ v, w.cell? ⟨g, j, none⟩ = some v := by
  obtain ⟨_, _, cur, hg, hn⟩ := h
  exact ⟨cur[j]'(by omega), by simp [World.cell?, hg]⟩
theorem Blk.free {w : World} {B B' g n : Nat} {e : TypeId} (h : Blk w B B' g e n) (j : Nat) : w.frozen? ⟨g, j, none⟩ = false := by
  obtain ⟨_, _, cur, hg, hn⟩ := h
  simp [World.frozen?, hg]
theorem Blk.aft {w w' : World} {B B' g n : Nat} {e : TypeId} (h : Blk w B B' g e n) (a : Aft w w') : Blk w' B B' g e n := by
  have hl := h.lt
  obtain ⟨h1, h2, cur, hg, hn⟩ := h
  exact ⟨h1, h2, cur, (a.block g hl).trans hg, hn⟩
theorem Blk.set {w : World} {B B' g n : Nat} {e : TypeId} (h : Blk w B B' g e n) (g0 j0 : Nat) (v : Value) : Blk (w.setCell ⟨g0, j0, none⟩ v) B B' g e n := by
  have hl := h.lt
  obtain ⟨h1, h2, cur, hg, hn⟩ := h
  by_cases hgg : g0 = g
  · subst hgg
    refine ⟨h1, h2, cur.setIfInBounds j0 v, ?_, by simpa using hn⟩
    have h' : w.heap[g0] = .cells cur e (0, 0) := by simpa [Array.getElem?_eq_getElem hl] using hg
    show (w.heap.modify g0 _)[g0]? = _
    rw [Array.getElem?_eq_getElem (by simpa using hl), Array.getElem_modify_self, h']
    simp
  · exact ⟨h1, h2, cur, by rw [Below.heap_setCell _ _ _ _ (by simpa using fun e => hgg e.symm)]; exact hg, hn⟩
/-- a slice's head -/
structure Hd where
  a : Option Addr
  n : Nat
  c : Nat
def Hd.v (h : Hd) : Value := .slice h.a h.n h.c
structure Lay where
  col : Nat → Hd
  rul : Nat → Hd
  nam : Nat → Nat → Hd
def ShV (w : World) (B B' : Nat) (e : TypeId) (size : Nat) (h : Hd) : Prop := h.n * 16 ≤ 140737488351232 ∧ (0 < h.n → ∃ g, h.a = some ⟨g, 0, none⟩ ∧ Blk w B B' g e (h.n * size))
theorem ShV.aft {w w' : World} {B B' size : Nat} {e : TypeId} {h : Hd} (s : ShV w B B' e size h) (a : Aft w w') : ShV w' B B' e size h :=
  ⟨s.1, fun h0 => by obtain ⟨g, hg, hb⟩ := s.2 h0; exact ⟨g, hg, hb.aft a⟩⟩
theorem ShV.set {w : World} {B B' size : Nat} {e : TypeId} {h : Hd} (s : ShV w B B' e size h) (g0 j0 : Nat) (v : Value) : ShV (w.setCell ⟨g0, j0, none⟩ v) B B' e size h :=
  ⟨s.1, fun h0 => by obtain ⟨g, hg, hb⟩ := s.2 h0; exact ⟨g, hg, hb.set g0 j0 v⟩⟩
/-- rules of our own: each has its names -/
def ShR (w : World) (B B' : Nat) (h : Hd) (nam : Nat → Hd) : Prop := h.n * 16 ≤ 140737488351232 ∧ (0 < h.n → ∃ g, h.a = some ⟨g, 0, none⟩ ∧ Blk w B B' g 108 (h.n * 8) ∧ ∀ j, j < h.n → w.cell? ⟨g, j * 8 + 2, none⟩ = some (nam j).v) ∧ ∀ j, j < h.n → ShV w B B' 9 1 (nam j)
/-- tables of our own -/
def ShT (w : World) (B B' : Nat) (h : Hd) (L : Lay) : Prop := h.n * 16 ≤ 140737488351232 ∧ (0 < h.n → ∃ g, h.a = some ⟨g, 0, none⟩ ∧ Blk w B B' g 76 (h.n * 5) ∧ ∀ i, i < h.n → w.cell? ⟨g, i * 5 + 3, none⟩ = some (L.col i).v ∧ w.cell? ⟨g, i * 5 + 4, none⟩ = some (L.rul i).v) ∧
  ∀ i, i < h.n → ShV w B B' 93 3 (L.col i) ∧ ShR w B B' (L.rul i) (L.nam i)
/-- a store that leaves the heads alone -/
def OkW (w : World) (g0 j0 : Nat) : Prop := ∃ cur e0 f, w.heap[g0]? = some (.cells cur e0 f) ∧ (e0 = 108 → j0 % 8 ≠ 2) ∧ (e0 = 76 → j0 % 5 ≠ 3 ∧ j0 % 5 ≠ 4)
theorem cell_far {w : World} {g j g0 j0 : Nat} {v u : Value} (hc : w.cell? ⟨g, j, none⟩ = some u) (hne : ¬ (g0 = g ∧ j0 = j)) : (w.setCell ⟨g0, j0, none⟩ v).cell? ⟨g, j, none⟩ = some u := by
  refine (World.cell?_setCell_other _ _ _ _ ?_).trans hc
  intro e; injection e with e1 e2 _; exact hne ⟨e1, e2⟩
theorem ok_rule {w : World} {g0 j0 g n B B' i : Nat} (ok : OkW w g0 j0) (b : Blk w B B' g 108 n) : ¬ (g0 = g ∧ j0 = i * 8 + 2) := by
  rintro ⟨rfl, rfl⟩
  obtain ⟨cur, e0, f, hg, h1, _⟩ := ok
  obtain ⟨_, _, cur', hg', _⟩ := b
  rw [hg] at hg'
  simp only [Option.some.injEq, Obj.cells.injEq] at hg'
  exact h1 hg'.2.1 (by omega)
theorem ok_tab {w : World} {g0 j0 g n B B' i : Nat} (ok : OkW w g0 j0) (b : Blk w B B' g 76 n) : ¬ (g0 = g ∧ j0 = i * 5 + 3) ∧ ¬ (g0 = g ∧ j0 = i * 5 + 4) := by
  obtain ⟨cur, e0, f, hg, _, h1⟩ := ok
  obtain ⟨_, _, cur', hg', _⟩ := b
  constructor
  · rintro ⟨rfl, rfl⟩
    rw [hg] at hg'
    simp only [Option.some.injEq, Obj.cells.injEq] at hg'
    exact (h1 hg'.2.1).1 (by omega)
  · rintro ⟨rfl, rfl⟩
    rw [hg] at hg'
    simp only [Option.some.injEq, Obj.cells.injEq] at hg'
    exact (h1 hg'.2.1).2 (by omega)
theorem ShR.set {w : World} {B B' : Nat} {h : Hd} {nam : Nat → Hd} (s : ShR w B B' h nam) {g0 j0 : Nat} (ok : OkW w g0 j0) (v : Value) : ShR (w.setCell ⟨g0, j0, none⟩ v) B B' h nam :=
  ⟨s.1, fun h0 => by obtain ⟨g, hg, hb, hc⟩ := s.2.1 h0; exact ⟨g, hg, hb.set g0 j0 v, fun j hj => cell_far (hc j hj) (ok_rule ok hb)⟩, fun j hj => (s.2.2 j hj).set g0 j0 v⟩
theorem ShT.set {w : World} {B B' : Nat} {h : Hd} {L : Lay} (s : ShT w B B' h L) {g0 j0 : Nat} (ok : OkW w g0 j0) (v : Value) : ShT (w.setCell ⟨g0, j0, none⟩ v) B B' h L :=
  ⟨s.1, fun h0 => by obtain ⟨g, hg, hb, hc⟩ := s.2.1 h0; exact ⟨g, hg, hb.set g0 j0 v, fun i hi => ⟨cell_far (hc i hi).1 (ok_tab ok hb).1, cell_far (hc i hi).2 (ok_tab ok hb).2⟩⟩, fun i hi => ⟨(s.2.2 i hi).1.set g0 j0 v, (s.2.2 i hi).2.set ok v⟩⟩
theorem ShR.aft {w w' : World} {B B' : Nat} {h : Hd} {nam : Nat → Hd} (s : ShR w B B' h nam) (a : Aft w w') : ShR w' B B' h nam :=
  ⟨s.1, fun h0 => by obtain ⟨g, hg, hb, hc⟩ := s.2.1 h0; exact ⟨g, hg, hb.aft a, fun j hj => a.cell_kept (hc j hj)⟩, fun j hj => (s.2.2 j hj).aft a⟩
theorem ShT.aft {w w' : World} {B B' : Nat} {h : Hd} {L : Lay} (s : ShT w B B' h L) (a : Aft w w') : ShT w' B B' h L :=
  ⟨s.1, fun h0 => by obtain ⟨g, hg, hb, hc⟩ := s.2.1 h0; exact ⟨g, hg, hb.aft a, fun i hi => ⟨a.cell_kept (hc i hi).1, a.cell_kept (hc i hi).2⟩⟩, fun i hi => ⟨(s.2.2 i hi).1.aft a, (s.2.2 i hi).2.aft a⟩⟩
theorem Blk.ok {w : World} {B B' g n : Nat} {e : TypeId} (h : Blk w B B' g e n) (j : Nat) (h1 : e = 108 → j % 8 ≠ 2) (h2 : e = 76 → j % 5 ≠ 3 ∧ j % 5 ≠ 4) : OkW w g j := by
  obtain ⟨_, _, cur, hg, _⟩ := h
  exact ⟨cur, e, (0, 0), hg, h1, h2⟩
/-- objects of our own -/
structure Sh (w : World) (B B' : Nat) (hs ht : Hd) (L : Lay) : Prop where
  sch : ShV w B B' 88 2 hs
  tab : ShT w B B' ht L
theorem Sh.set {w : World} {B B' : Nat} {hs ht : Hd} {L : Lay} (s : Sh w B B' hs ht L) {g0 j0 : Nat} (ok : OkW w g0 j0) (v : Value) : Sh (w.setCell ⟨g0, j0, none⟩ v) B B' hs ht L := ⟨s.sch.set g0 j0 v, s.tab.set ok v⟩
theorem Sh.aft {w w' : World} {B B' : Nat} {hs ht : Hd} {L : Lay} (s : Sh w B B' hs ht L) (a : Aft w w') : Sh w' B B' hs ht L := ⟨s.sch.aft a, s.tab.aft a⟩
end Go.Proofs.YtiadkchlkdaceaaGreat

namespace Go.Proofs.YtiadkchlkdaceaaGreat
open Go.RowKit
set_option maxRecDepth 100000
set_option linter.unusedVariables false
/-- what Clone gives: a row of its own, with the same cells -/
def CloneQ {α : Type} (ty : TypeId) (size : Nat) (R : World → List Value → α → Prop) (w0 w : World) (l : List α) (e : Ending) (w' : World) : Prop :=
  ∃ v css, e = .returned v ∧ Aft w w' ∧ w'.ownsRow w.heap.size ty size v l.length css.flatten ∧ Chunks w0 size R css l
theorem info2Rul : (Tryz.prog.info? 108).map (fun i => (i.zero, i.size, i.bytes)) = some (some (.agg #[.string ByteArray.empty, .int .i64 0, .slice none 0 0, .int .i64 0, .int .i64 0, .string ByteArray.empty, .string ByteArray.empty, .string ByteArray.empty]), 8, 112) := by kernel_rfl
set_option maxHeartbeats 2000000 in
theorem clone2Rul (A : Option Addr) (cap : Nat) (l : List Rul) (w0 w : World) (ha : Aft w0 w) (h : SlAt w0 8 RulR A cap l) (hb : l.length ≤ 1000000) :
    Calls Tryz.prog 95 #[.slice A l.length cap] w (CloneQ 108 8 RulR w0 w l) := by
  obtain ⟨i0, hi, hz0, hz1, hz2⟩ := info_parts info2Rul
  have q22 : ∀ (w : World) (a : Option Addr) (n c n' c' : Nat), (binOp .eql 74 (.slice a n c) (.slice none n' c')).run Tryz.prog w = .ok (.bool a.isNone) w := fun w a n c n' c' => Lib.run_eql_slice_nil w _ _ a n c n' c' Tryz.underlying74
  cases A with
  | none =>
    have hl0 : l = [] := by
      cases l with
      | nil => rfl
      | cons x l => obtain ⟨b, off, cs, hA, _⟩ := h.2.2 0 (by simp); cases hA
    subst hl0
    go_enter Tryz.func95, Tryz.ntmps95
    go_wp2_with fail
    go_ret
    exact ⟨_, [], rfl, Aft.refl _, own_nil _ _ _ _, Chunks.nil⟩
  | some ad =>
    have HC : ∃ css, Chunks w0 8 RulR css l ∧ ∀ p u, css.flatten[p]? = some u → w.cell? (ad.add p) = some u := by
      by_cases h0 : 0 < l.length
      · obtain ⟨b, off, css, hA, hb', hch, hc⟩ := h.css h0 (by decide)
        simp only [Option.some.injEq] at hA
        subst hA
        refine ⟨css, hch, fun p u hp => ?_⟩
        have hlt : p < l.length * 8 := by rw [← hch.len]; exact (List.getElem?_eq_some_iff.1 hp).1
        rw [add_mk]; exact ha.cell_kept ((hc p hlt).trans hp)
      · have hl0 : l = [] := List.eq_nil_of_length_eq_zero (by omega)
        subst hl0
        exact ⟨[], Chunks.nil, fun p u hp => by simp at hp⟩
    obtain ⟨css, hch, hcell⟩ := HC
    have H1 := Lib.hid hcell
    have H2 : Hid (∀ u ∈ css.flatten, u.oneCell' = true) := Lib.hid (by
      intro u hu
      obtain ⟨c, hc, hu⟩ := List.mem_flatten.1 hu
      obtain ⟨i, hi, rfl⟩ := List.getElem_of_mem hc
      have h3 := (hch.2 i hi (by rw [← hch.1]; exact hi)).2
      obtain ⟨A2, cap2, hcs, _⟩ := h3
      rw [hcs] at hu
      simp only [List.mem_cons, List.not_mem_nil, or_false] at hu
      rcases hu with rfl | rfl | rfl | rfl | rfl | rfl | rfl | rfl <;> simp [Value.oneCell'])
    have H3 := Lib.hid hch
    have HI := Lib.hid hi
    have HZ0 := Lib.hid hz0
    have HZ1 := Lib.hid hz1
    have HZ2 := Lib.hid hz2
    clear hcell hch hi hz0 hz1 hz2 h ha
    go_enter Tryz.func95, Tryz.ntmps95
    go_wp2_with (at_builtin; refine wpList_append_own _ rfl _ _ 74 rfl w.heap.size 108 i0 (.agg #[.string ByteArray.empty, .int .i64 0, .slice none 0 0, .int .i64 0, .int .i64 0, .string ByteArray.empty, .string ByteArray.empty, .string ByteArray.empty]) 8 112 Tryz.underlying74 HI.out HZ0.out HZ1.out HZ2.out rfl (by decide) _ _ _ rfl (World.ownsRow_made w #[] 0 (Nat.le_refl _) (Nat.zero_le _) rfl) ad l.length cap css.flatten rfl ?qc1 ?qc2 ?qc3 ?qc4 ?qc5 ?qc6 ?_)
    case qc1 => exact H3.out.len
    case qc2 =>
      intro j u hj
      exact Lib.cell?_alloc_some _ (H1.out j u hj)
    case qc3 => exact H2.out
    case qc4 => unfold maxLen; omega
    case qc5 => omega
    case qc6 => simp
    intro v' w1 hown hgrow hnil
    have HO := Lib.hid hown
    have HA := Lib.hid (show Aft w w1 from ((Below.refl _ w).alloc (Nat.le_refl _) _).grown hgrow (by simp) (by intro k hk; simp [Value.ownBlock] at hk; omega))
    clear hown hgrow hnil
    go_wp2_with fail
    go_ret
    refine ⟨v', css, rfl, HA.out, ?_, H3.out⟩
    simpa using HO.out
theorem info2Col : (Tryz.prog.info? 93).map (fun i => (i.zero, i.size, i.bytes)) = some (some (.agg #[.string ByteArray.empty, .int .i64 0, .bool false]), 3, 32) := by kernel_rfl
set_option maxHeartbeats 2000000 in
theorem clone2Col (A : Option Addr) (cap : Nat) (l : List Col) (w0 w : World) (ha : Aft w0 w) (h : SlAt w0 3 ColR A cap l) (hb : l.length ≤ 1000000) :
    Calls Tryz.prog 40 #[.slice A l.length cap] w (CloneQ 93 3 ColR w0 w l) := by
  obtain ⟨i0, hi, hz0, hz1, hz2⟩ := info_parts info2Col
  have q22 : ∀ (w : World) (a : Option Addr) (n c n' c' : Nat), (binOp .eql 73 (.slice a n c) (.slice none n' c')).run Tryz.prog w = .ok (.bool a.isNone) w := fun w a n c n' c' => Lib.run_eql_slice_nil w _ _ a n c n' c' Tryz.underlying73
  cases A with
  | none =>
    have hl0 : l = [] := by
      cases l with
      | nil => rfl
      | cons x l => obtain ⟨b, off, cs, hA, _⟩ := h.2.2 0 (by simp); cases hA
    subst hl0
    go_enter Tryz.func40, Tryz.ntmps40
    go_wp2_with fail
    go_ret
    exact ⟨_, [], rfl, Aft.refl _, own_nil _ _ _ _, Chunks.nil⟩
  | some ad =>
    have HC : ∃ css, Chunks w0 3 ColR css l ∧ ∀ p u, css.flatten[p]? = some u → w.cell? (ad.add p) = some u := by
      by_cases h0 : 0 < l.length
      · obtain ⟨b, off, css, hA, hb', hch, hc⟩ := h.css h0 (by decide)
        simp only [Option.some.injEq] at hA
        subst hA
        refine ⟨css, hch, fun p u hp => ?_⟩
        have hlt : p < l.length * 3 := by rw [← hch.len]; exact (List.getElem?_eq_some_iff.1 hp).1
        rw [add_mk]; exact ha.cell_kept ((hc p hlt).trans hp)
      · have hl0 : l = [] := List.eq_nil_of_length_eq_zero (by omega)
        subst hl0
        exact ⟨[], Chunks.nil, fun p u hp => by simp at hp⟩
    obtain ⟨css, hch, hcell⟩ := HC
    have H1 := Lib.hid hcell
    have H2 : Hid (∀ u ∈ css.flatten, u.oneCell' = true) := Lib.hid (by
      intro u hu
      obtain ⟨c, hc, hu⟩ := List.mem_flatten.1 hu
      obtain ⟨i, hi, rfl⟩ := List.getElem_of_mem hc
      have h3 := (hch.2 i hi (by rw [← hch.1]; exact hi)).2
      obtain ⟨hcs, _⟩ := h3
      rw [hcs] at hu
      simp only [List.mem_cons, List.not_mem_nil, or_false] at hu
      rcases hu with rfl | rfl | rfl <;> simp [Value.oneCell'])
    have H3 := Lib.hid hch
    have HI := Lib.hid hi
    have HZ0 := Lib.hid hz0
    have HZ1 := Lib.hid hz1
    have HZ2 := Lib.hid hz2
    clear hcell hch hi hz0 hz1 hz2 h ha
    go_enter Tryz.func40, Tryz.ntmps40
    go_wp2_with (at_builtin; refine wpList_append_own _ rfl _ _ 73 rfl w.heap.size 93 i0 (.agg #[.string ByteArray.empty, .int .i64 0, .bool false]) 3 32 Tryz.underlying73 HI.out HZ0.out HZ1.out HZ2.out rfl (by decide) _ _ _ rfl (World.ownsRow_made w #[] 0 (Nat.le_refl _) (Nat.zero_le _) rfl) ad l.length cap css.flatten rfl ?qc1 ?qc2 ?qc3 ?qc4 ?qc5 ?qc6 ?_)
    case qc1 => exact H3.out.len
    case qc2 =>
      intro j u hj
      exact Lib.cell?_alloc_some _ (H1.out j u hj)
    case qc3 => exact H2.out
    case qc4 => unfold maxLen; omega
    case qc5 => omega
    case qc6 => simp
    intro v' w1 hown hgrow hnil
    have HO := Lib.hid hown
    have HA := Lib.hid (show Aft w w1 from ((Below.refl _ w).alloc (Nat.le_refl _) _).grown hgrow (by simp) (by intro k hk; simp [Value.ownBlock] at hk; omega))
    clear hown hgrow hnil
    go_wp2_with fail
    go_ret
    refine ⟨v', css, rfl, HA.out, ?_, H3.out⟩
    simpa using HO.out
theorem info2Str : (Tryz.prog.info? 9).map (fun i => (i.zero, i.size, i.bytes)) = some (some (.string ByteArray.empty), 1, 16) := by kernel_rfl
set_option maxHeartbeats 2000000 in
theorem clone2Str (A : Option Addr) (cap : Nat) (l : List ByteArray) (w0 w : World) (ha : Aft w0 w) (h : SlAt w0 1 StrR A cap l) (hb : l.length ≤ 1000000) :
    Calls Tryz.prog 96 #[.slice A l.length cap] w (CloneQ 9 1 StrR w0 w l) := by
  obtain ⟨i0, hi, hz0, hz1, hz2⟩ := info_parts info2Str
  have q22 : ∀ (w : World) (a : Option Addr) (n c n' c' : Nat), (binOp .eql 60 (.slice a n c) (.slice none n' c')).run Tryz.prog w = .ok (.bool a.isNone) w := fun w a n c n' c' => Lib.run_eql_slice_nil w _ _ a n c n' c' Tryz.underlying60
  cases A with
  | none =>
    have hl0 : l = [] := by
      cases l with
      | nil => rfl
      | cons x l => obtain ⟨b, off, cs, hA, _⟩ := h.2.2 0 (by simp); cases hA
    subst hl0
    go_enter Tryz.func96, Tryz.ntmps96
    go_wp2_with fail
    go_ret
    exact ⟨_, [], rfl, Aft.refl _, own_nil _ _ _ _, Chunks.nil⟩
  | some ad =>
    have HC : ∃ css, Chunks w0 1 StrR css l ∧ ∀ p u, css.flatten[p]? = some u → w.cell? (ad.add p) = some u := by
      by_cases h0 : 0 < l.length
      · obtain ⟨b, off, css, hA, hb', hch, hc⟩ := h.css h0 (by decide)
        simp only [Option.some.injEq] at hA
        subst hA
        refine ⟨css, hch, fun p u hp => ?_⟩
        have hlt : p < l.length * 1 := by rw [← hch.len]; exact (List.getElem?_eq_some_iff.1 hp).1
        rw [add_mk]; exact ha.cell_kept ((hc p hlt).trans hp)
      · have hl0 : l = [] := List.eq_nil_of_length_eq_zero (by omega)
        subst hl0
        exact ⟨[], Chunks.nil, fun p u hp => by simp at hp⟩
    obtain ⟨css, hch, hcell⟩ := HC
    have H1 := Lib.hid hcell
    have H2 : Hid (∀ u ∈ css.flatten, u.oneCell' = true) := Lib.hid (by
      intro u hu
      obtain ⟨c, hc, hu⟩ := List.mem_flatten.1 hu
      obtain ⟨i, hi, rfl⟩ := List.getElem_of_mem hc
      have h3 := (hch.2 i hi (by rw [← hch.1]; exact hi)).2
      obtain ⟨hcs, _⟩ := h3
      rw [hcs] at hu
      simp only [List.mem_cons, List.not_mem_nil, or_false] at hu
      rcases hu with rfl <;> simp [Value.oneCell'])
    have H3 := Lib.hid hch
    have HI := Lib.hid hi
    have HZ0 := Lib.hid hz0
    have HZ1 := Lib.hid hz1
    have HZ2 := Lib.hid hz2
    clear hcell hch hi hz0 hz1 hz2 h ha
    go_enter Tryz.func96, Tryz.ntmps96
    go_wp2_with (at_builtin; refine wpList_append_own _ rfl _ _ 60 rfl w.heap.size 9 i0 (.string ByteArray.empty) 1 16 Tryz.underlying60 HI.out HZ0.out HZ1.out HZ2.out rfl (by decide) _ _ _ rfl (World.ownsRow_made w #[] 0 (Nat.le_refl _) (Nat.zero_le _) rfl) ad l.length cap css.flatten rfl ?qc1 ?qc2 ?qc3 ?qc4 ?qc5 ?qc6 ?_)
    case qc1 => exact H3.out.len
    case qc2 =>
      intro j u hj
      exact Lib.cell?_alloc_some _ (H1.out j u hj)
    case qc3 => exact H2.out
    case qc4 => unfold maxLen; omega
    case qc5 => omega
    case qc6 => simp
    intro v' w1 hown hgrow hnil
    have HO := Lib.hid hown
    have HA := Lib.hid (show Aft w w1 from ((Below.refl _ w).alloc (Nat.le_refl _) _).grown hgrow (by simp) (by intro k hk; simp [Value.ownBlock] at hk; omega))
    clear hown hgrow hnil
    go_wp2_with fail
    go_ret
    refine ⟨v', css, rfl, HA.out, ?_, H3.out⟩
    simpa using HO.out
end Go.Proofs.YtiadkchlkdaceaaGreat

namespace Go.Proofs.YtiadkchlkdaceaaGreat
open Go.RowKit Go.Deep
set_option linter.unusedVariables false
def Hd.blk (h : Hd) : List Nat := match h.a with | some p => [p.block] | none => []
theorem Hd.mem_blk {h : Hd} {g : Nat} : g ∈ h.blk ↔ h.v.ownBlock = some g := by
  obtain ⟨a, n, c⟩ := h
  cases a <;> simp [Hd.blk, Hd.v, Value.ownBlock, eq_comm]
/-- all but the blocks that P names is as it was -/
structure Kb (P : Nat → Prop) (w w' : World) : Prop where
  os : w'.os = w.os
  tape : w'.tape = w.tape
  output : w'.output = w.output
  size : w.heap.size ≤ w'.heap.size
  block : ∀ k, k < w.heap.size → ¬ P k → w'.heap[k]? = w.heap[k]?
theorem Kb.refl (P : Nat → Prop) (w : World) : Kb P w w := ⟨rfl, rfl, rfl, Nat.le_refl _, fun _ _ _ => rfl⟩
theorem Kb.of_aft {P : Nat → Prop} {w w' : World} (a : Aft w w') : Kb P w w' := ⟨a.os, a.tape, a.output, a.size, fun k hk _ => a.block k hk⟩
theorem Kb.of_grown {w w' : World} {row : Option Nat} (h : w.grownBy w' row) : Kb (fun k => row = some k) w w' := ⟨h.os, h.tape, h.output, h.size, fun k hk hn => h.block k hk fun e => hn e.symm⟩
theorem Kb.mono {P Q : Nat → Prop} {w w' : World} (h : Kb P w w') (hq : ∀ k, k < w.heap.size → P k → Q k) : Kb Q w w' := ⟨h.os, h.tape, h.output, h.size, fun k hk hn => h.block k hk fun hp => hn (hq k hk hp)⟩
theorem Kb.trans {P : Nat → Prop} {w w' w'' : World} (h : Kb P w w') (h' : Kb P w' w'') : Kb P w w'' :=
  ⟨h'.os.trans h.os, h'.tape.trans h.tape, h'.output.trans h.output, Nat.le_trans h.size h'.size, fun k hk hn => (h'.block k (Nat.lt_of_lt_of_le hk h.size) hn).trans (h.block k hk hn)⟩
theorem Kb.set (w : World) (g j : Nat) (v : Value) : Kb (fun k => k = g) w (w.setCell ⟨g, j, none⟩ v) :=
  ⟨rfl, rfl, rfl, by simp, fun k hk hn => Below.heap_setCell _ _ _ _ hn⟩
theorem Kb.to_aft {P : Nat → Prop} {W w w' : World} (h : Kb P w w') (a : Aft W w) (hP : ∀ k, k < W.heap.size → ¬ P k) : Aft W w' :=
  ⟨h.os.trans a.os, h.tape.trans a.tape, h.output.trans a.output, Nat.le_trans a.size h.size, fun k hk => (h.block k (Nat.lt_of_lt_of_le hk a.size) (hP k hk)).trans (a.block k hk)⟩
theorem Kb.cell {P : Nat → Prop} {w w' : World} (h : Kb P w w') {p : Addr} {v : Value} (hc : w.cell? p = some v) (hb : ¬ P p.block) : w'.cell? p = some v := by
  have := h.block p.block (World.block_lt_of_cell? w p hc) hb
  unfold World.cell? at hc ⊢
  rw [this]; exact hc
theorem Kb.row {P : Nat → Prop} {w w' : World} (h : Kb P w w') {g : Nat} {xs : List Value} (hr : RowAt w g xs) (hb : ¬ P g) : RowAt w' g xs := by
  have := h.block g hr.1 hb
  refine ⟨Nat.lt_of_lt_of_le hr.1 h.size, fun j hj => ?_, fun j hj => ?_⟩
  · rw [← hr.2.1 j hj]; simp [World.cell?, this]
  · rw [← hr.2.2 j hj]; simp [World.frozen?, this]
theorem own_kb {P : Nat → Prop} {w w' : World} {B size n : Nat} {e : TypeId} {v : Value} {xs : List Value} (h : w.ownsRow B e size v n xs) (k : Kb P w w') (hne : ∀ g, v.ownBlock = some g → ¬ P g) : w'.ownsRow B e size v n xs := by
  refine ⟨h.1, ?_⟩
  rcases h.2 with hn | ⟨g, cap, cur, rfl, hb, hgg, rest⟩
  · exact .inl hn
  · exact .inr ⟨g, cap, cur, rfl, hb, (k.block g (lt_of_block hgg) (hne g rfl)).trans hgg, rest⟩
theorem own_n {w : World} {B size n : Nat} {e : TypeId} {h : Hd} {xs : List Value} (o : w.ownsRow B e size h.v n xs) : h.n = n := by
  rcases o.2 with ⟨hv, hn⟩ | ⟨g, cap, cur, hv, _⟩
  · unfold Hd.v at hv; simp only [Value.slice.injEq] at hv; omega
  · unfold Hd.v at hv; simp only [Value.slice.injEq] at hv; exact hv.2.1
theorem own_head {w : World} {B size n : Nat} {e : TypeId} {v : Value} {xs : List Value} (o : w.ownsRow B e size v n xs) : ∃ h : Hd, v = h.v ∧ h.n = n := by
  rcases o.2 with ⟨hv, hn⟩ | ⟨g, cap, cur, hv, _⟩
  · exact ⟨⟨none, 0, 0⟩, hv, hn.symm⟩
  · exact ⟨⟨_, n, cap⟩, hv, rfl⟩
theorem own_slice {w : World} {B size n : Nat} {e : TypeId} {h : Hd} {xs : List Value} (o : w.ownsRow B e size h.v n xs) : h.v = .slice h.a n h.c := by
  have := own_n o
  unfold Hd.v; rw [this]
theorem own_base {w : World} {B B' size n : Nat} {e : TypeId} {v : Value} {xs : List Value} (h : w.ownsRow B e size v n xs) (hb : ∀ g, v.ownBlock = some g → B' ≤ g) : w.ownsRow B' e size v n xs := by
  refine ⟨h.1, ?_⟩
  rcases h.2 with hn | ⟨g, cap, cur, rfl, hb', rest⟩
  · exact .inl hn
  · exact .inr ⟨g, cap, cur, rfl, hb g rfl, rest⟩
theorem own_down {w : World} {B B' size n : Nat} {e : TypeId} {v : Value} {xs : List Value} (h : w.ownsRow B e size v n xs) (hb : B' ≤ B) : w.ownsRow B' e size v n xs :=
  own_base h fun g hg => Nat.le_trans hb (h.lt g hg).1
/-- an owned row's cells -/
theorem own_rowAt {w : World} {B size n : Nat} {e : TypeId} {v : Value} {xs : List Value} (h : w.ownsRow B e size v n xs) (hn : 0 < n) : ∃ g cap, v = .slice (some ⟨g, 0, none⟩) n cap ∧ B ≤ g ∧ n ≤ cap ∧ RowAt w g xs := by
  obtain ⟨A, cap, e, hc, hg⟩ := own_rowV h
  obtain ⟨g, hA, hb, hr⟩ := hg hn
  exact ⟨g, cap, by rw [e, hA], hb, hc, hr⟩
theorem setCell_heap_same (w : World) (g j : Nat) (v : Value) {cur : Array Value} {e : TypeId} {f : Nat × Nat} (h : w.heap[g]? = some (.cells cur e f)) : (w.setCell ⟨g, j, none⟩ v).heap[g]? = some (.cells (cur.setIfInBounds j v) e f) := by
  have hl : g < w.heap.size := lt_of_block h
  have h' : w.heap[g] = .cells cur e f := by simpa [Array.getElem?_eq_getElem hl] using h
  show (w.heap.modify g _)[g]? = _
  rw [Array.getElem?_eq_getElem (by simpa using hl), Array.getElem_modify_self, h']
  simp
theorem own_set {w : World} {B size n : Nat} {e : TypeId} {v : Value} {xs : List Value} (h : w.ownsRow B e size v n xs) {g : Nat} (hg : v.ownBlock = some g) (j : Nat) (u : Value) : (w.setCell ⟨g, j, none⟩ u).ownsRow B e size v n (xs.set j u) := by
  refine ⟨by rw [List.length_set]; exact h.1, ?_⟩
  rcases h.2 with ⟨rfl, _⟩ | ⟨g', cap, cur, rfl, hb, hgg, hnc, hm, hcs, htk⟩
  · simp [Value.ownBlock] at hg
  · have : g' = g := by simpa [Value.ownBlock] using hg
    subst this
    refine .inr ⟨g', cap, cur.setIfInBounds j u, rfl, hb, setCell_heap_same w g' j u hgg, hnc, hm, by simpa using hcs, ?_⟩
    rw [Array.toList_setIfInBounds, List.take_set, htk]
/-- an owned row is read as a slice -/
theorem own_sl {α : Type} {w : World} {B size : Nat} {e : TypeId} {h : Hd} {l : List α} {css : List (List Value)} {R : World → List Value → α → Prop} (o : w.ownsRow B e size h.v l.length css.flatten) (hc : Chunks w size R css l) (hs : Small (l.length * 16)) : SlAt w size R h.a h.c l := by
  obtain ⟨A, cap, hv, sl⟩ := rowV_slAt (own_rowV o) hc hs
  unfold Hd.v at hv
  simp only [Value.slice.injEq] at hv
  rw [hv.1, hv.2.2]; exact sl
theorem chunks_map {α : Type} {w : World} {size : Nat} {R : World → List Value → α → Prop} (f : α → List Value) (l : List α) (hf : ∀ x ∈ l, (f x).length = size ∧ R w (f x) x) : Chunks w size R (l.map f) l :=
  ⟨by simp, fun i h h' => by simpa using hf l[i] (List.getElem_mem h')⟩
theorem own_slf {α : Type} {w : World} {B size : Nat} {e : TypeId} {h : Hd} {l : List α} {R : World → List Value → α → Prop} (f : α → List Value) (o : w.ownsRow B e size h.v l.length (l.flatMap f)) (hf : ∀ x ∈ l, (f x).length = size ∧ R w (f x) x) (hs : Small (l.length * 16)) : SlAt w size R h.a h.c l :=
  own_sl (css := l.map f) (by rw [← List.flatMap_def]; exact o) (chunks_map f l hf) hs

def nameC (s : ByteArray) : List Value := [.string s]
def colC (c : Col) : List Value := [.string c.name, .int .i64 c.kind, .bool c.null]
def schC (s : Sch) : List Value := [.string s.name, .string s.owner]
def rulC (r : Rul) (h : Hd) : List Value := [.string r.name, .int .i64 r.kind, h.v, .int .i64 r.low, .int .i64 r.high, .string r.schema, .string r.table, .string r.key]
/-- a rule, and where its names lie -/
structure ORul where
  r : Rul
  h : Hd
def ORul.cells (x : ORul) : List Value := rulC x.r x.h
/-- a table, and where its rows lie -/
structure OTab where
  schema : ByteArray
  name : ByteArray
  owner : ByteArray
  cols : List Col
  rules : List ORul
  hc : Hd
  hr : Hd
def OTab.t (x : OTab) : Tab := ⟨x.schema, x.name, x.owner, x.cols, x.rules.map (·.r)⟩
def OTab.cells (x : OTab) : List Value := [.string x.schema, .string x.name, .string x.owner, x.hc.v, x.hr.v]
def OTab.blks (x : OTab) : List Nat := x.hc.blk ++ (x.hr.blk ++ x.rules.flatMap (·.h.blk))
structure RulIn (w : World) (B : Nat) (x : ORul) : Prop where
  nam : w.ownsRow B 9 1 x.h.v x.r.cols.length (x.r.cols.flatMap nameC)
structure TabIn (w : World) (B : Nat) (x : OTab) : Prop where
  col : w.ownsRow B 93 3 x.hc.v x.cols.length (x.cols.flatMap colC)
  rul : w.ownsRow B 108 8 x.hr.v x.rules.length (x.rules.flatMap ORul.cells)
  each : ∀ r ∈ x.rules, RulIn w B r
structure ObjIn (w : World) (B : Nat) (hs ht : Hd) (ss : List Sch) (L : List OTab) : Prop where
  sch : w.ownsRow B 88 2 hs.v ss.length (ss.flatMap schC)
  tab : w.ownsRow B 76 5 ht.v L.length (L.flatMap OTab.cells)
  each : ∀ x ∈ L, TabIn w B x
  nd : (hs.blk ++ (ht.blk ++ L.flatMap OTab.blks)).Nodup
theorem RulIn.kb {P : Nat → Prop} {w w' : World} {B : Nat} {x : ORul} (h : RulIn w B x) (k : Kb P w w') (hne : ∀ g ∈ x.h.blk, ¬ P g) : RulIn w' B x := ⟨own_kb h.nam k fun g hg => hne g (Hd.mem_blk.2 hg)⟩
theorem TabIn.kb {P : Nat → Prop} {w w' : World} {B : Nat} {x : OTab} (h : TabIn w B x) (k : Kb P w w') (hne : ∀ g ∈ x.blks, ¬ P g) : TabIn w' B x :=
  ⟨own_kb h.col k fun g hg => hne g (by unfold OTab.blks; simp [Hd.mem_blk.2 hg]), own_kb h.rul k fun g hg => hne g (by unfold OTab.blks; simp [Hd.mem_blk.2 hg]),
   fun r hr => (h.each r hr).kb k fun g hg => hne g (by unfold OTab.blks; simp only [List.mem_append, List.mem_flatMap]; exact .inr (.inr ⟨r, hr, hg⟩))⟩
theorem ObjIn.kb {P : Nat → Prop} {w w' : World} {B : Nat} {hs ht : Hd} {ss : List Sch} {L : List OTab} (h : ObjIn w B hs ht ss L) (k : Kb P w w') (hne : ∀ g ∈ hs.blk ++ (ht.blk ++ L.flatMap OTab.blks), ¬ P g) : ObjIn w' B hs ht ss L :=
  ⟨own_kb h.sch k fun g hg => hne g (by simp [Hd.mem_blk.2 hg]), own_kb h.tab k fun g hg => hne g (by simp [Hd.mem_blk.2 hg]),
   fun x hx => (h.each x hx).kb k fun g hg => hne g (by simp only [List.mem_append, List.mem_flatMap]; exact .inr (.inr ⟨x, hx, hg⟩)), h.nd⟩
theorem RulIn.aft {w w' : World} {B : Nat} {x : ORul} (h : RulIn w B x) (a : Aft w w') : RulIn w' B x := h.kb (P := fun _ => False) (Kb.of_aft a) fun _ _ h => h
theorem TabIn.aft {w w' : World} {B : Nat} {x : OTab} (h : TabIn w B x) (a : Aft w w') : TabIn w' B x := h.kb (P := fun _ => False) (Kb.of_aft a) fun _ _ h => h
theorem ObjIn.aft {w w' : World} {B : Nat} {hs ht : Hd} {ss : List Sch} {L : List OTab} (h : ObjIn w B hs ht ss L) (a : Aft w w') : ObjIn w' B hs ht ss L := h.kb (P := fun _ => False) (Kb.of_aft a) fun _ _ h => h
theorem blk_lt {w : World} {B size n : Nat} {e : TypeId} {h : Hd} {xs : List Value} (o : w.ownsRow B e size h.v n xs) : ∀ g ∈ h.blk, B ≤ g ∧ g < w.heap.size := fun g hg => o.lt g (Hd.mem_blk.1 hg)
theorem TabIn.lt {w : World} {B : Nat} {x : OTab} (h : TabIn w B x) : ∀ g ∈ x.blks, B ≤ g ∧ g < w.heap.size := by
  intro g hg
  unfold OTab.blks at hg
  simp only [List.mem_append, List.mem_flatMap] at hg
  rcases hg with hg | hg | ⟨r, hr, hg⟩
  · exact blk_lt h.col g hg
  · exact blk_lt h.rul g hg
  · exact blk_lt (h.each r hr).nam g hg
theorem ObjIn.lt {w : World} {B : Nat} {hs ht : Hd} {ss : List Sch} {L : List OTab} (h : ObjIn w B hs ht ss L) : ∀ g ∈ hs.blk ++ (ht.blk ++ L.flatMap OTab.blks), B ≤ g ∧ g < w.heap.size := by
  intro g hg
  simp only [List.mem_append, List.mem_flatMap] at hg
  rcases hg with hg | hg | ⟨x, hx, hg⟩
  · exact blk_lt h.sch g hg
  · exact blk_lt h.tab g hg
  · exact (h.each x hx).lt g hg
theorem RulIn.down {w : World} {B B' : Nat} {x : ORul} (h : RulIn w B x) (hb : B' ≤ B) : RulIn w B' x := ⟨own_down h.nam hb⟩
theorem TabIn.down {w : World} {B B' : Nat} {x : OTab} (h : TabIn w B x) (hb : B' ≤ B) : TabIn w B' x := ⟨own_down h.col hb, own_down h.rul hb, fun r hr => (h.each r hr).down hb⟩
theorem ObjIn.down {w : World} {B B' : Nat} {hs ht : Hd} {ss : List Sch} {L : List OTab} (h : ObjIn w B hs ht ss L) (hb : B' ≤ B) : ObjIn w B' hs ht ss L := ⟨own_down h.sch hb, own_down h.tab hb, fun x hx => (h.each x hx).down hb, h.nd⟩

/-- all that a struct holds is short -/
def SmR (r : Rul) : Prop := Small (r.cols.length * 16) ∧ (∀ s ∈ r.cols, Small s.size) ∧ Small r.name.size ∧ Small r.schema.size ∧ Small r.table.size ∧ Small r.key.size
def SmT (t : Tab) : Prop := (Small (t.cols.length * 16) ∧ ∀ c ∈ t.cols, Small c.name.size) ∧ (Small (t.rules.length * 16) ∧ ∀ r ∈ t.rules, SmR r) ∧ Small t.schema.size ∧ Small t.name.size ∧ Small t.owner.size
theorem sm_mem {α : Type} {w : World} {size : Nat} {R : World → List Value → α → Prop} {A : Option Addr} {cap : Nat} {l : List α} (h : SlAt w size R A cap l) {P : α → Prop} (hp : ∀ cs x, R w cs x → P x) : Small (l.length * 16) ∧ ∀ x ∈ l, P x := by
  refine ⟨h.2.1, fun x hx => ?_⟩
  obtain ⟨i, hi, rfl⟩ := List.getElem_of_mem hx
  obtain ⟨b, off, cs, _, _, _, hR, _⟩ := h.2.2 i hi
  exact hp cs _ hR
theorem sm_names {w : World} {A : Option Addr} {cap : Nat} {l : List ByteArray} (h : SlAt w 1 StrR A cap l) : Small (l.length * 16) ∧ ∀ s ∈ l, Small s.size := sm_mem h fun _ _ h => h.2
theorem sm_cols {w : World} {A : Option Addr} {cap : Nat} {l : List Col} (h : SlAt w 3 ColR A cap l) : Small (l.length * 16) ∧ ∀ c ∈ l, Small c.name.size := sm_mem h fun _ _ h => h.2
theorem sm_rul {w : World} {cs : List Value} {r : Rul} (h : RulR w cs r) : SmR r := by
  obtain ⟨A, cap, _, hs, h1⟩ := h
  exact ⟨(sm_names hs).1, (sm_names hs).2, h1⟩
theorem sm_ruls {w : World} {A : Option Addr} {cap : Nat} {l : List Rul} (h : SlAt w 8 RulR A cap l) : Small (l.length * 16) ∧ ∀ r ∈ l, SmR r := sm_mem h fun _ _ h => sm_rul h
theorem sm_tab {w : World} {cs : List Value} {t : Tab} (h : TabR w cs t) : SmT t := by
  obtain ⟨A, cap, A2, cap2, _, hs, hr, h1⟩ := h
  exact ⟨sm_cols hs, sm_ruls hr, h1⟩
theorem sm_tabs {w : World} {A : Option Addr} {cap : Nat} {l : List Tab} (h : SlAt w 5 TabR A cap l) : Small (l.length * 16) ∧ ∀ t ∈ l, SmT t := sm_mem h fun _ _ h => sm_tab h

/-- our own rows, read -/
theorem RulIn.rulR {w : World} {B : Nat} {x : ORul} (h : RulIn w B x) (hs : SmR x.r) : RulR w x.cells x.r :=
  ⟨x.h.a, x.h.c, by unfold ORul.cells rulC; rw [own_slice h.nam], own_slf nameC h.nam (fun s hm => ⟨rfl, rfl, hs.2.1 s hm⟩) hs.1, hs.2.2⟩
theorem TabIn.cols {w : World} {B : Nat} {x : OTab} (h : TabIn w B x) (hs : SmT x.t) : SlAt w 3 ColR x.hc.a x.hc.c x.cols :=
  own_slf colC h.col (fun c hm => ⟨rfl, rfl, hs.1.2 c hm⟩) hs.1.1
theorem chunks_over {α β : Type} {w : World} {size : Nat} {R : World → List Value → β → Prop} (f : α → List Value) (g : α → β) (l : List α) (hf : ∀ x ∈ l, (f x).length = size ∧ R w (f x) (g x)) : Chunks w size R (l.map f) (l.map g) :=
  ⟨by simp, fun i h h' => by
    have hi : i < l.length := by simpa using h
    simpa using hf l[i] (List.getElem_mem hi)⟩
theorem own_slo {α β : Type} {w : World} {B size : Nat} {e : TypeId} {h : Hd} {l : List α} {R : World → List Value → β → Prop} (f : α → List Value) (g : α → β) (o : w.ownsRow B e size h.v l.length (l.flatMap f)) (hf : ∀ x ∈ l, (f x).length = size ∧ R w (f x) (g x)) (hs : Small (l.length * 16)) : SlAt w size R h.a h.c (l.map g) :=
  own_sl (css := l.map f) (by rw [← List.flatMap_def, List.length_map]; exact o) (chunks_over f g l hf) (by simpa using hs)
theorem TabIn.ruls {w : World} {B : Nat} {x : OTab} (h : TabIn w B x) (hs : SmT x.t) : SlAt w 8 RulR x.hr.a x.hr.c (x.rules.map (·.r)) :=
  own_slo ORul.cells (·.r) h.rul (fun r hm => ⟨rfl, (h.each r hm).rulR (hs.2.1.2 r.r (List.mem_map_of_mem hm))⟩) (by simpa [OTab.t] using hs.2.1.1)
theorem own_cell {α : Type} {w : World} {B size : Nat} {e : TypeId} {h : Hd} {l : List α} {f : α → List Value} (o : w.ownsRow B e size h.v l.length (l.flatMap f)) (hf : ∀ x, (f x).length = size) {g : Nat} (hg : h.a = some ⟨g, 0, none⟩) {i j : Nat} (hi : i < l.length) (hj : j < size) : w.cell? ⟨g, i * size + j, none⟩ = (f l[i])[j]? := by
  obtain ⟨g', cap, hv, _, _, hr⟩ := own_rowAt o (by omega)
  unfold Hd.v at hv
  simp only [Value.slice.injEq] at hv
  rw [hg] at hv
  simp only [Option.some.injEq, Addr.mk.injEq, and_true, true_and] at hv
  obtain ⟨rfl, _⟩ := hv
  rw [hr.2.1 _ (by rw [o.1]; have : (i + 1) * size ≤ l.length * size := Nat.mul_le_mul_right _ hi; rw [Nat.succ_mul] at this; omega)]
  exact flatMap_get f size hf l i j hi hj
/-- append, with the word on the new row's block -/
theorem run_append_own2h {P : Program} (w : World) (base : Nat) (t ty e : TypeId) (i : TypeInfo) (z : Value) (size bytes : Nat) (ht : P.underlying t = some (.slice e)) (hi : P.info? e = some i) (hz : i.zero = some z)
    (hsize : i.size = size) (hby : i.bytes = bytes) (hzs : z.cells.size = size) (hsz : 0 < size)
    (v : Value) (n : Nat) (xs : List Value) (hown : w.ownsRow base e size v n xs)
    (A : Option Addr) (m c : Nat) (news : List Value) (hl : news.length = m * size) (hA : A = none → m = 0) (hnews : ∀ a, A = some a → ∀ j u, news[j]? = some u → w.cell? (a.add j) = some u) (h1 : ∀ u ∈ news, u.oneCell' = true)
    (h63 : n + m ≤ maxLen) (hbytes : (n + m) * bytes ≤ 140737488355328) (hbase : base ≤ w.heap.size) :
    ∃ (h : Hd) (w' : World), (Builtin.append_ #[t, t] ty #[v, .slice A m c]).run P w = .ok h.v w' ∧ w'.ownsRow base e size h.v (n + m) (xs ++ news) ∧ w.grownBy w' v.ownBlock ∧ ∀ g ∈ h.blk, v.ownBlock = some g ∨ w.heap.size ≤ g := by
  cases A with
  | none =>
    obtain rfl := hA rfl
    have hn : news = [] := List.eq_nil_of_length_eq_zero (by simpa using hl)
    subst hn
    obtain ⟨h, hv, hhn⟩ := own_head hown
    refine ⟨h, w, ?_, ?_, World.grownBy.refl w _, fun g hg => .inl (by rw [hv]; exact Hd.mem_blk.1 hg)⟩
    · rw [← hv]
      rcases hown.2 with ⟨rfl, _⟩ | ⟨g, cap, cur, rfl, _, _, hnc, _⟩
      · exact run_append_nothing w t t ty e i ht hi none 0 0 (Nat.le_refl _) _ (Src.ofNil w ht c)
      · exact run_append_nothing w t t ty e i ht hi _ n cap hnc _ (Src.ofNil w ht c)
    · rw [← hv]; simpa using hown
  | some a =>
    obtain ⟨v', w', hr, h2, h3, h4⟩ := run_append_own (P := P) w base t ty e i z size bytes ht hi hz hsize hby hzs hsz v n xs hown a m c news hl (hnews a rfl) h1 h63 hbytes hbase
    obtain ⟨h, hv, hhn⟩ := own_head h2
    subst hv
    refine ⟨h, w', hr, h2, h3, fun g hg => ?_⟩
    have hg' := Hd.mem_blk.1 hg
    subst hsize
    subst hby
    rcases hown.2 with ⟨rfl, rfl⟩ | ⟨g0, cap, cur, rfl, hbg, hg0, hnc, hcm, hcs, htake⟩
    · obtain ⟨v'', w'', hr', h2', _⟩ := run_append_own (P := P) w w.heap.size t ty e i z i.size i.bytes ht hi hz rfl rfl hzs hsz (.slice none 0 0) 0 xs ⟨by simpa using hown.1, .inl ⟨rfl, rfl⟩⟩ a m c news hl (hnews a rfl) h1 h63 hbytes (Nat.le_refl _)
      rw [hr] at hr'
      simp only [Result.ok.injEq] at hr'
      rw [← hr'.1] at h2'
      exact .inr (h2'.lt g hg').1
    · by_cases hroom : n + m ≤ cap
      · have hfit : n * i.size + news.length ≤ cur.size := by rw [hl, hcs, ← Nat.add_mul]; exact Nat.mul_le_mul_right _ hroom
        have hr' := run_append_room (P := P) w t ty e i ht hi g0 n cap cur hg0 a m c news hl (hnews a rfl) h1 hroom hfit
        rw [hr] at hr'
        simp only [Result.ok.injEq] at hr'
        rw [hr'.1] at hg'
        exact .inl hg'
      · have hr' := run_append_grow (P := P) w t ty e i z ht hi hz ⟨g0, 0, none⟩ n cap xs hown.1 (hown.cells (g := g0) rfl) a m c news hl (hnews a rfl) (by omega) (by simp only [maxLen] at h63; omega) (growslice_fits (by omega) hbytes)
        rw [hr] at hr'
        simp only [Result.ok.injEq] at hr'
        rw [hr'.1] at hg'
        simp only [Value.ownBlock, Option.some.injEq] at hg'
        exact .inr (by omega)
theorem run_append_own2 {P : Program} (w : World) (base : Nat) (t ty e : TypeId) (i : TypeInfo) (z : Value) (size bytes : Nat) (ht : P.underlying t = some (.slice e)) (hi : P.info? e = some i) (hz : i.zero = some z)
    (hsize : i.size = size) (hby : i.bytes = bytes) (hzs : z.cells.size = size) (hsz : 0 < size)
    (v : Value) (n : Nat) (xs : List Value) (hown : w.ownsRow base e size v n xs)
    (A : Option Addr) (m c : Nat) (news : List Value) (hl : news.length = m * size) (hA : A = none → m = 0) (hnews : ∀ a, A = some a → ∀ j u, news[j]? = some u → w.cell? (a.add j) = some u) (h1 : ∀ u ∈ news, u.oneCell' = true)
    (h63 : n + m ≤ maxLen) (hbytes : (n + m) * bytes ≤ 140737488355328) (hbase : base ≤ w.heap.size) :
    ∃ (A' : Option Addr) (cap' : Nat) (w' : World), (Builtin.append_ #[t, t] ty #[v, .slice A m c]).run P w = .ok (.slice A' (n + m) cap') w' ∧ w'.ownsRow base e size (.slice A' (n + m) cap') (n + m) (xs ++ news) ∧ w.grownBy w' v.ownBlock ∧ ∀ g ∈ (Hd.mk A' (n + m) cap').blk, v.ownBlock = some g ∨ w.heap.size ≤ g := by
  obtain ⟨h, w', hr, h2, h3, h4⟩ := run_append_own2h w base t ty e i z size bytes ht hi hz hsize hby hzs hsz v n xs hown A m c news hl hA hnews h1 h63 hbytes hbase
  obtain ⟨A', n', cap'⟩ := h
  have hn : n' = n + m := own_n h2
  subst hn
  exact ⟨A', cap', w', hr, h2, h3, h4⟩
theorem wpList_append_own2 {P : Program} (w : World) {ops : Array Oper} {rest : List Oper} {o : Oper} {a : Act} {Q : Exit → Act → World → Prop} (hgd : o.guard = none) (s x : Operand) (t : TypeId)
    (ho : o.op = .call { callee := .builtin .append, args := #[s, x], argTypes := #[t, t] })
    (base : Nat) (e : TypeId) (i : TypeInfo) (z : Value) (size bytes : Nat) (ht : P.underlying t = some (.slice e)) (hi : P.info? e = some i) (hz : i.zero = some z)
    (hsize : i.size = size) (hby : i.bytes = bytes) (hzs : z.cells.size = size) (hsz : 0 < size)
    (v : Value) (n : Nat) (xs : List Value) (hs : a.eval s = v) (hown : w.ownsRow base e size v n xs)
    (A : Option Addr) (m c : Nat) (news : List Value) (hx : a.eval x = .slice A m c) (hl : news.length = m * size) (hA : A = none → m = 0) (hnews : ∀ ad, A = some ad → ∀ j u, news[j]? = some u → w.cell? (ad.add j) = some u) (h1 : ∀ u ∈ news, u.oneCell' = true)
    (h63 : n + m ≤ maxLen) (hbytes : (n + m) * bytes ≤ 140737488355328) (hbase : base ≤ w.heap.size)
    (h : ∀ (A' : Option Addr) (cap' : Nat) (w' : World), w'.ownsRow base e size (.slice A' (n + m) cap') (n + m) (xs ++ news) → w.grownBy w' v.ownBlock → (∀ g ∈ (Hd.mk A' (n + m) cap').blk, v.ownBlock = some g ∨ w.heap.size ≤ g) → wpList P ops Q rest (a.put o.dst (.slice A' (n + m) cap')) w') : wpList P ops Q (o :: rest) a w :=
  wpList_plain hgd fun _ hK => by
    obtain ⟨A', cap', w', hr, h2, h3, h4⟩ := run_append_own2 (P := P) w base t o.type e i z size bytes ht hi hz hsize hby hzs hsz v n xs hown A m c news hl hA hnews h1 h63 hbytes hbase
    unfold Oper.wp execOp
    simp only [ho, resolve, invoke, builtin, Sem.run_bind, Sem.run_pure, Result.andThen_ok, List.map_toArray, List.map_cons, List.map_nil, hs, hx, hr]
    exact hK _ _ (h A' cap' w' h2 h3 h4)
end Go.Proofs.YtiadkchlkdaceaaGreat

namespace Go.Proofs.YtiadkchlkdaceaaGreat
open Go.RowKit Go.Deep
set_option linter.unusedVariables false
theorem own_lit {w : World} {B size n : Nat} {e : TypeId} {v : Value} {xs : List Value} (o : w.ownsRow B e size v n xs) : ∃ A cap, v = .slice A n cap := by
  obtain ⟨h, hv, hn⟩ := own_head o
  exact ⟨h.a, h.c, by rw [hv, ← hn]; rfl⟩
theorem chunks_flat {α : Type} {w : World} {size : Nat} {R : World → List Value → α → Prop} {f : α → List Value} (hf : ∀ cs x, R w cs x → cs = f x) : ∀ {css : List (List Value)} {l : List α}, Chunks w size R css l → css.flatten = l.flatMap f := by
  intro css l h
  have : css = l.map f := by
    refine List.ext_getElem (by rw [h.1]; simp) fun i h1 h2 => ?_
    have hi : i < l.length := by simpa using h2
    rw [List.getElem_map]
    exact hf _ _ (h.2 i h1 hi).2
  rw [this, List.flatMap_def]
theorem flat_cols {w : World} {css : List (List Value)} {l : List Col} (h : Chunks w 3 ColR css l) : css.flatten = l.flatMap colC := chunks_flat (fun _ _ h => h.1) h
theorem flat_names {w : World} {css : List (List Value)} {l : List ByteArray} (h : Chunks w 1 StrR css l) : css.flatten = l.flatMap nameC := chunks_flat (fun _ _ h => h.1) h
/-- rules as they lie -/
theorem rules_lie {w : World} {css : List (List Value)} {l : List Rul} (h : Chunks w 8 RulR css l) : ∃ L : List ORul, L.map (·.r) = l ∧ css = L.map ORul.cells ∧ ∀ x ∈ L, x.h.n = x.r.cols.length ∧ SlAt w 1 StrR x.h.a x.h.c x.r.cols := by
  have hex : ∀ i, i < l.length → ∃ x : ORul, ∀ (hi : i < l.length) (hc : i < css.length), x.r = l[i] ∧ css[i] = x.cells ∧ x.h.n = x.r.cols.length ∧ SlAt w 1 StrR x.h.a x.h.c x.r.cols := by
    intro i hi
    have hc : i < css.length := by rw [h.1]; exact hi
    obtain ⟨_, A, cap, hcs, hs, _⟩ := h.2 i hc hi
    exact ⟨⟨l[i], A, l[i].cols.length, cap⟩, fun _ _ => ⟨rfl, hcs, rfl, hs⟩⟩
  obtain ⟨L, hL, hp⟩ := choose_list l.length _ hex
  refine ⟨L, ?_, ?_, ?_⟩
  · refine List.ext_getElem (by simp [hL]) fun i h1 h2 => ?_
    rw [List.getElem_map]
    exact (hp i (by simpa using h1) h2 (by rw [h.1]; exact h2)).1
  · refine List.ext_getElem (by simp [hL, h.1]) fun i h1 h2 => ?_
    rw [List.getElem_map]
    have hi : i < L.length := by simpa using h2
    exact (hp i hi (by omega) h1).2.1
  · intro x hx
    obtain ⟨i, hi, rfl⟩ := List.getElem_of_mem hx
    exact (hp i hi (by omega) (by rw [h.1]; omega)).2.2
theorem flatMap_len {α : Type} {f : α → List Value} {size : Nat} (hf : ∀ x, (f x).length = size) (l : List α) : (l.flatMap f).length = l.length * size := by
  rw [List.flatMap_def, flat_len _ (by intro c hc; obtain ⟨x, _, rfl⟩ := List.mem_map.1 hc; exact hf x), List.length_map]
theorem flatMap_set {α : Type} {f : α → List Value} {size : Nat} (hf : ∀ x, (f x).length = size) (l : List α) (k j : Nat) (hk : k < l.length) (hj : j < size) (u : Value) (y : α) (hy : f y = (f l[k]).set j u) : (l.flatMap f).set (k * size + j) u = (l.set k y).flatMap f := by
  rw [List.flatMap_def, List.flatMap_def, flat_set _ (by intro c hc; obtain ⟨x, _, rfl⟩ := List.mem_map.1 hc; exact hf x) k j (by simpa using hk) u hj, List.map_set]
  congr 1
  rw [hy]; simp
theorem nodup_more {l m : List Nat} {N : Nat} (h : l.Nodup) (hm : m.Nodup) (h1 : ∀ g ∈ l, g < N) (h2 : ∀ g ∈ m, N ≤ g) : (l ++ m).Nodup :=
  List.nodup_append.2 ⟨h, hm, fun a ha b hb e => by have := h1 a ha; have := h2 b hb; omega⟩
theorem blk_nodup (h : Hd) : h.blk.Nodup := by
  obtain ⟨a, n, c⟩ := h
  cases a <;> simp [Hd.blk]
theorem blk_nil (n c : Nat) : (Hd.mk none n c).blk = [] := rfl
theorem blk_some (p : Addr) (n c : Nat) : (Hd.mk (some p) n c).blk = [p.block] := rfl
/-- where a row of our own lies -/
theorem own_place {w : World} {B size n : Nat} {e : TypeId} {h : Hd} {xs : List Value} (o : w.ownsRow B e size h.v n xs) (hn : 0 < n) : ∃ g, h.a = some ⟨g, 0, none⟩ ∧ B ≤ g ∧ RowAt w g xs := by
  obtain ⟨g, cap, hv, hb, _, hr⟩ := own_rowAt o hn
  unfold Hd.v at hv
  simp only [Value.slice.injEq] at hv
  exact ⟨g, hv.1, hb, hr⟩
/-- a table in memory of its own -/
def CopyO (w : World) (t : Tab) (e : Ending) (w' : World) : Prop :=
  ∃ x : OTab, x.t = t ∧ e = .returned (.agg #[.string t.schema, .string t.name, .string t.owner, .slice x.hc.a t.cols.length x.hc.c, .slice x.hr.a t.rules.length x.hr.c]) ∧ Aft w w' ∧ TabIn w' w.heap.size x ∧ x.blks.Nodup
def ModO (o : Objs) : Prop := o.schemas.length ≤ 1000000 ∧ o.tables.length ≤ 1000000 ∧ ∀ t ∈ o.tables, t.cols.length ≤ 1000000 ∧ t.rules.length ≤ 1000000 ∧ ∀ r ∈ t.rules, r.cols.length ≤ 1000000
end Go.Proofs.YtiadkchlkdaceaaGreat

namespace Go.Proofs.YtiadkchlkdaceaaGreat
open Go.RowKit Go.Shelf Go.Sort
set_option linter.unusedVariables false
/-- an order: what is like another one stands to all as that one does -/
structure Pre8 {α : Type} (c : α → α → Int) : Prop where
  tr : ∀ a b d, c a b < 0 → c b d < 0 → c a d < 0
  anti : ∀ a b, c a b = - c b a
  con : ∀ a b d, c a b = 0 → c a d = c b d
theorem Pre8.con' {α : Type} {c : α → α → Int} (o : Pre8 c) (a b d : α) (h : c a b = 0) : c d a = c d b := by
  have h1 := o.con a b d h
  have h2 := o.anti d a
  have h3 := o.anti d b
  omega
theorem preS : Pre8 cmpS := ⟨fun a b d h1 h2 => cmpS_trans h1 h2, cmpS_anti, fun a b d h => by
  have : a.data.toList = b.data.toList := (cmpB_eq _ _).1 h
  unfold cmpS
  rw [this]⟩
theorem Pre8.on {α β : Type} {c : β → β → Int} (o : Pre8 c) (f : α → β) : Pre8 fun a b : α => c (f a) (f b) := ⟨fun a b d => o.tr _ _ _, fun a b => o.anti _ _, fun a b d => o.con _ _ _⟩
theorem Pre8.or {α : Type} {c d : α → α → Int} (o : Pre8 c) (p : Pre8 d) : Pre8 fun a b => or2 (c a b) (d a b) := by
  have h0 : ∀ a b, c a b = 0 → c b a = 0 := fun a b h => by have := o.anti a b; omega
  have e1 : ∀ a b, c a b = 0 → or2 (c a b) (d a b) = d a b := fun a b h => by unfold or2; simp [h]
  have e2 : ∀ a b, c a b ≠ 0 → or2 (c a b) (d a b) = c a b := fun a b h => by unfold or2; simp [h]
  refine ⟨fun a b x h1 h2 => ?_, fun a b => ?_, fun a b x h => ?_⟩
  · by_cases g1 : c a b = 0
    · rw [e1 _ _ g1] at h1
      have g3 := o.con a b x g1
      by_cases g2 : c b x = 0
      · rw [e1 _ _ g2] at h2
        rw [e1 _ _ (by omega)]; exact p.tr _ _ _ h1 h2
      · rw [e2 _ _ g2] at h2
        rw [e2 _ _ (by omega)]; omega
    · rw [e2 _ _ g1] at h1
      by_cases g2 : c b x = 0
      · have g3 := o.con' b x a g2
        rw [e2 _ _ (by omega)]; omega
      · rw [e2 _ _ g2] at h2
        have := o.tr _ _ _ h1 h2
        rw [e2 _ _ (by omega)]; exact this
  · have ha := o.anti a b
    by_cases g1 : c a b = 0
    · rw [e1 _ _ g1, e1 _ _ (h0 _ _ g1)]; exact p.anti _ _
    · rw [e2 _ _ g1, e2 _ _ (by omega)]; exact ha
  · by_cases g1 : c a b = 0
    · rw [e1 _ _ g1] at h
      have g3 := o.con a b x g1
      by_cases g2 : c a x = 0
      · rw [e1 _ _ g2, e1 _ _ (by omega)]; exact p.con _ _ _ h
      · rw [e2 _ _ g2, e2 _ _ (by omega)]; exact g3
    · rw [e2 _ _ g1] at h; exact absurd h g1
/-- schemas by name, rules by name, tables by schema and name -/
def cmpSc (a b : Sch) : Int := cmpS a.name b.name
def cmpRl (a b : Rul) : Int := cmpS a.name b.name
theorem preRl : Pre8 cmpRl := preS.on Rul.name
def cmpTb (a b : Tab) : Int := or2 (cmpS a.schema b.schema) (cmpS a.name b.name)
theorem preTb : Pre8 cmpTb := (preS.on Tab.schema).or (preS.on Tab.name)
instance : Inhabited Sch := ⟨⟨ByteArray.empty, ByteArray.empty⟩⟩
instance : Inhabited Rul := ⟨⟨ByteArray.empty, 0, [], 0, 0, ByteArray.empty, ByteArray.empty, ByteArray.empty⟩⟩
instance : Inhabited ORul := ⟨⟨default, ⟨none, 0, 0⟩⟩⟩
instance : Inhabited OTab := ⟨⟨ByteArray.empty, ByteArray.empty, ByteArray.empty, [], [], ⟨none, 0, 0⟩, ⟨none, 0, 0⟩⟩⟩
end Go.Proofs.YtiadkchlkdaceaaGreat

