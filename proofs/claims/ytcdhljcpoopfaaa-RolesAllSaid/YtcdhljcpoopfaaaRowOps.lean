/- Rows of our own: many cells written at once, and a row cut short. -/
import Derived.Test.YtcdhljcpoopfaaaMine2
import Derived.Lib.SliceRun
namespace Go.Proofs.Ytcdhljcpoopfaaa
open Go.RowKit Go.Deep
set_option linter.unusedVariables false
def setL : List Value → Nat → List Value → List Value
  | xs, _, [] => xs
  | xs, o, v :: r => setL (xs.set o v) (o + 1) r
theorem setL_len : ∀ (vs xs : List Value) (o : Nat), (setL xs o vs).length = xs.length
  | [], xs, o => rfl
  | v :: r, xs, o => by rw [setL, setL_len r]; simp
theorem setL_eq : ∀ (vs xs : List Value) (o : Nat), o + vs.length ≤ xs.length → setL xs o vs = xs.take o ++ vs ++ xs.drop (o + vs.length)
  | [], xs, o, h => by simp [setL]
  | v :: r, xs, o, h => by
    simp only [List.length_cons] at h
    rw [setL, setL_eq r (xs.set o v) (o + 1) (by simp; omega)]
    have e1 : (xs.set o v).take (o + 1) = xs.take o ++ [v] := by
      rw [List.take_succ_eq_append_getElem (by simp; omega)]
      simp [List.take_set_of_le]
    have e2 : (xs.set o v).drop (o + 1 + r.length) = xs.drop (o + (r.length + 1)) := by
      rw [List.drop_set_of_lt (by omega)]
      congr 1; omega
    rw [e1, e2]
    simp
theorem own_setCells {B size n : Nat} {e : TypeId} {v : Value} {g : Nat} (hg : v.ownBlock = some g) : ∀ (vs : List Value) {w : World} {xs : List Value} (o : Nat), w.ownsRow B e size v n xs → (w.setCells g o vs).ownsRow B e size v n (setL xs o vs)
  | [], w, xs, o, h => h
  | u :: r, w, xs, o, h => own_setCells hg r (o + 1) (own_set h hg o u)
theorem kb_setCells (g : Nat) : ∀ (vs : List Value) (w : World) (o : Nat), Kb (fun k => k = g) w (w.setCells g o vs)
  | [], w, o => Kb.refl _ _
  | u :: r, w, o => (Kb.set w g o u).trans (kb_setCells g r _ (o + 1))
theorem own_cut {w : World} {B size n m cap : Nat} {e : TypeId} {A : Option Addr} {xs : List Value} (h : w.ownsRow B e size (.slice A n cap) n xs) (hm : m ≤ n) : w.ownsRow B e size (.slice A m cap) m (xs.take (m * size)) := by
  have hl : m * size ≤ n * size := Nat.mul_le_mul_right _ hm
  refine ⟨by rw [List.length_take, h.1]; omega, ?_⟩
  rcases h.2 with ⟨hv, hn⟩ | ⟨g, cap', cur, hv, hb, hgg, hnc, hcm, hcs, htk⟩
  · simp only [Value.slice.injEq] at hv
    exact .inl ⟨by rw [hv.1, hv.2.2]; congr 1; omega, by omega⟩
  · simp only [Value.slice.injEq, true_and] at hv
    refine .inr ⟨g, cap', cur, by rw [hv.1, hv.2], hb, hgg, by omega, hcm, hcs, ?_⟩
    rw [← htk, List.take_take]
    congr 1; omega
theorem zeroCells_one (z : Array Value) : (Builtin.zeroCells z 1).toList = z.toList := by
  simp only [Builtin.zeroCells, Nat.one_mul]
  apply List.ext_getElem
  · simp
  · intro i h1 h2
    have hi : i < z.size := by simpa using h2
    simp [Nat.mod_eq_of_lt hi, getElem!_pos z i hi]
/-- clear of one element -/
theorem run_clear_one {P : Program} (w : World) (t e ty : TypeId) (z : Value) (ht : P.underlying t = some (.slice e)) (hv : ∀ w, (zeroValue e).run P w = .ok z w) (h1 : ∀ u ∈ z.cells.toList, u.oneCell' = true) (b o c : Nat)
    (hc : ∀ j, j < z.cells.toList.length → (w.cell? ⟨b, o + j, none⟩).isSome = true) (hf : ∀ j, j < z.cells.toList.length → w.frozen? ⟨b, o + j, none⟩ = false) :
    (Builtin.clear_ #[t] ty #[.slice (some ⟨b, o, none⟩) 1 c]).run P w = .ok (.tuple #[]) (w.setCells b o z.cells.toList) := by
  have hst := run_storeCells_cells (P := P) b o z.cells.toList 0 w (by simpa using hc) (by simpa using hf) h1
  simp only [Nat.add_zero] at hst
  simp only [Builtin.clear_, List.getElem?_toArray, List.getElem?_cons_zero, Sem.run_bind, run_underlying ht, Result.andThen_ok, hv, zeroCells_one, hst, Sem.run_pure]
theorem flatMap_take {α : Type} {f : α → List Value} {size : Nat} (hf : ∀ x, (f x).length = size) (l : List α) (i : Nat) : (l.flatMap f).take (i * size) = (l.take i).flatMap f := by
  induction l generalizing i with
  | nil => simp
  | cons x l ih =>
    cases i with
    | zero => simp
    | succ i =>
      have e : (i + 1) * size = (f x).length + i * size := by rw [hf, Nat.succ_mul]; omega
      rw [List.flatMap_cons, e, List.take_length_add_append, ih]
      simp
theorem flatMap_drop {α : Type} {f : α → List Value} {size : Nat} (hf : ∀ x, (f x).length = size) (l : List α) (i : Nat) : (l.flatMap f).drop (i * size) = (l.drop i).flatMap f := by
  induction l generalizing i with
  | nil => simp
  | cons x l ih =>
    cases i with
    | zero => simp
    | succ i =>
      have e : (i + 1) * size = (f x).length + i * size := by rw [hf, Nat.succ_mul]; omega
      rw [List.flatMap_cons, e, List.drop_length_add_append, ih]
      simp
theorem flatMap_erase {α : Type} {f : α → List Value} {size : Nat} (hf : ∀ x, (f x).length = size) (l : List α) (i : Nat) : (l.flatMap f).take (i * size) ++ (l.flatMap f).drop ((i + 1) * size) = (l.eraseIdx i).flatMap f := by
  rw [flatMap_take hf, flatMap_drop hf, List.eraseIdx_eq_take_drop_succ, List.flatMap_append]
/-- what Delete of one element leaves -/
def DelP (ty : TypeId) (size : Nat) (w : World) (B g cap i m : Nat) (xs : List Value) (e : Ending) (w' : World) : Prop :=
  e = .returned (.slice (some ⟨g, 0, none⟩) (i + m) cap) ∧ w'.ownsRow B ty size (.slice (some ⟨g, 0, none⟩) (i + m) cap) (i + m) (xs.take (i * size) ++ xs.drop ((i + 1) * size)) ∧ Kb (fun k => k = g) w w'
/-- the row behind Delete's two writes -/
theorem del_own {w : World} {B size g cap i m : Nat} {e : TypeId} {xs z : List Value} (ho : w.ownsRow B e size (.slice (some ⟨g, 0, none⟩) (i + 1 + m) cap) (i + 1 + m) xs) (hz : z.length = size) :
    ((w.setCells g (i * size) (xs.drop ((i + 1) * size))).setCells g ((i + m) * size) z).ownsRow B e size (.slice (some ⟨g, 0, none⟩) (i + m) cap) (i + m) (xs.take (i * size) ++ xs.drop ((i + 1) * size)) := by
  have hx := ho.1
  have e0 : (i + 1 + m) * size = i * size + size + m * size := by rw [Nat.add_mul, Nat.succ_mul]
  have e1 : (i + 1) * size = i * size + size := Nat.succ_mul _ _
  have e2 : (i + m) * size = i * size + m * size := Nat.add_mul _ _ _
  have h1 := own_setCells (g := g) rfl z ((i + m) * size) (own_setCells (g := g) rfl (xs.drop ((i + 1) * size)) (i * size) ho)
  have h2 := own_cut h1 (m := i + m) (by omega)
  have hd : (xs.drop ((i + 1) * size)).length = m * size := by rw [List.length_drop, hx]; omega
  have e3 : (setL (setL xs (i * size) (xs.drop ((i + 1) * size))) ((i + m) * size) z).take ((i + m) * size) = xs.take (i * size) ++ xs.drop ((i + 1) * size) := by
    rw [setL_eq z _ _ (by rw [setL_len, hx, hz]; omega), List.append_assoc, List.take_append_of_le_length (by rw [List.length_take, setL_len, hx]; omega), List.take_take, Nat.min_self, setL_eq _ _ _ (by rw [hd, hx]; omega)]
    rw [List.take_append_of_le_length (by rw [List.length_append, hd, List.length_take, hx]; omega)]
    rw [List.take_of_length_le (by rw [List.length_append, hd, List.length_take, hx]; omega)]
  rw [e3] at h2
  exact h2
end Go.Proofs.Ytcdhljcpoopfaaa
