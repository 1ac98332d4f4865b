/- Rows turned to other columns: in plain words. -/
import Derived.Test.YtodifdofgjfkiaaFitLaw
import Derived.Test.YtodifdofgjfkiaaRow
namespace Go.Proofs.Ytodifdofgjfkiaa
open Go.RowKit
set_option linter.unusedVariables false
theorem rowAt_new (w : World) (c : List Value) (t : TypeId) : RowAt (w.alloc (.cells c.toArray t)) w.heap.size c :=
  ⟨by simp, fun j hj => (World.cell?_alloc_at _ _ _ _ rfl).trans (by simp), fun j _ => World.frozen?_alloc_at _ _ _ _ rfl⟩
def cellsV (v : Val) : List Value := [.int .i64 v.kind, .int .i64 v.int, .string v.text]
def nullV : Val := ⟨1, 0, ⟨#[]⟩⟩
def turn1 (l : List Col) (row : List Val) (c : Col) : Val := if 0 ≤ colAt l c.name ∧ kindAt l (colAt l c.name) = c.kind then valAt row (colAt l c.name) else nullV
def turnVs (l m : List Col) (row : List Val) : List Val := m.map (turn1 l row)
def turnC (l m : List Col) (row : List Val) : Int := if colsOk l = false then 1 else if colsOk m = false then 1 else if besideB formB l row = false then 100 else 0
def turned (l m : List Col) (row : List Val) : List Val := if turnC l m row = 0 then turnVs l m row else []
theorem turnVs_succ (l m : List Col) (row : List Val) (k : Nat) (hk : k < m.length) : turnVs l (m.take (k + 1)) row = turnVs l (m.take k) row ++ [turn1 l row m[k]] := by
  unfold turnVs; rw [List.take_succ_eq_append_getElem hk, List.map_append]; rfl
theorem turnVs_len (l m : List Col) (row : List Val) : (turnVs l m row).length = m.length := by simp [turnVs]
theorem turn1_hit {l : List Col} {row : List Val} {c : Col} {q : Nat} (hq : colAt l c.name = q) (hl : q < l.length) (hr : q < row.length) (hk : l[q].kind = c.kind) : turn1 l row c = row[q] := by
  unfold turn1
  rw [hq, if_pos ⟨by omega, by simpa [kindAt, List.getElem?_eq_getElem hl] using hk⟩]
  exact valAt_get hr
theorem turn1_miss {l : List Col} {row : List Val} {c : Col} (h : colAt l c.name < 0) : turn1 l row c = nullV := by
  unfold turn1; rw [if_neg (by omega)]
theorem turn1_other {l : List Col} {row : List Val} {c : Col} {q : Nat} (hq : colAt l c.name = q) (hl : q < l.length) (hk : ¬ l[q].kind = c.kind) : turn1 l row c = nullV := by
  unfold turn1
  rw [hq, if_neg (by intro h; exact hk (by simpa [kindAt, List.getElem?_eq_getElem hl] using h.2))]
def TurnP (w : World) (l : List Val) (c : Int) (e : Ending) (w' : World) : Prop := ∃ v, e = .returned (.tuple #[v, .int .i64 c]) ∧ Aft w w' ∧ w'.ownsRow w.heap.size 48 3 v l.length (l.flatMap cellsV)
theorem infoV : (Try.prog.info? 48).map (fun i => (i.zero, i.size, i.bytes)) = some (some (.agg #[.int .i64 0, .int .i64 0, .string ByteArray.empty]), 3, 32) := by kernel_rfl
theorem own_lt {w : World} {base size n : Nat} {e : TypeId} {v : Value} {xs : List Value} (h : w.ownsRow base e size v n xs) : ∀ k, v.ownBlock = some k → k < w.heap.size := by
  intro k hk
  rcases h.2 with ⟨rfl, _⟩ | ⟨g, cap, cur, rfl, hb, hgg, _⟩
  · simp [Value.ownBlock] at hk
  · simp only [Value.ownBlock, Option.some.injEq] at hk
    have := (Array.getElem?_eq_some_iff.1 hgg).1
    omega
theorem own_vals {w : World} {base : Nat} {e : TypeId} {v : Value} {l : List Val} (h : w.ownsRow base e 3 v l.length (l.flatMap cellsV)) (hs : Small (l.length * 16)) (ht : ∀ x ∈ l, Small x.text.size) : ∃ A cap, v = .slice A l.length cap ∧ SlAt w 3 ValR A cap l :=
  own_slAt (base := base) (e := e) cellsV ValR (fun _ => rfl) h (fun x hx => ⟨rfl, ht x hx⟩) hs
theorem turnC_1 {l m : List Col} {row : List Val} (h : colsOk l = false) : turnC l m row = 1 := by unfold turnC; rw [if_pos h]
theorem turnC_1' {l m : List Col} {row : List Val} (h0 : colsOk l = true) (h : colsOk m = false) : turnC l m row = 1 := by unfold turnC; rw [if_neg (by rw [h0]; simp), if_pos h]
theorem turnC_100 {l m : List Col} {row : List Val} (h0 : colsOk l = true) (h : colsOk m = true) (h1 : besideB formB l row = false) : turnC l m row = 100 := by unfold turnC; rw [if_neg (by rw [h0]; simp), if_neg (by rw [h]; simp), if_pos h1]
theorem turnC_0 {l m : List Col} {row : List Val} (h0 : colsOk l = true) (h : colsOk m = true) (h1 : besideB formB l row = true) : turnC l m row = 0 := by unfold turnC; rw [if_neg (by rw [h0]; simp), if_neg (by rw [h]; simp), if_neg (by rw [h1]; simp)]
theorem turned_no {l m : List Col} {row : List Val} (h : ¬ turnC l m row = 0) : turned l m row = [] := by unfold turned; rw [if_neg h]
theorem turned_yes {l m : List Col} {row : List Val} (h : turnC l m row = 0) : turned l m row = turnVs l m row := by unfold turned; rw [if_pos h]
theorem cols_len {l : List Col} (h : colsOk l = true) : l.length ≤ 8 := by
  unfold colsOk at h; simp only [Bool.and_eq_true, decide_eq_true_eq] at h; exact h.1.2
theorem tableOk_cols (l : List Col) (a b c : ByteArray) : tableOk ⟨a, b, c, l, []⟩ = colsOk l := by unfold tableOk; simp [risesB]
end Go.Proofs.Ytodifdofgjfkiaa
