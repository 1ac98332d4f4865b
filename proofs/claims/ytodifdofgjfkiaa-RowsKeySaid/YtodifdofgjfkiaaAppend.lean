/- append of a whole slice onto a row of our own. -/
import Derived.Test.YtodifdofgjfkiaaTurnLaw
import Derived.Deep.Upon
namespace Go.Proofs.Ytodifdofgjfkiaa
open Go.RowKit Go.Deep
set_option linter.unusedVariables false
theorem wpList_append_nil {P : Program} (w : World) {ops : Array Oper} {rest : List Oper} {o : Oper} {a : Act} {Q : Exit → Act → World → Prop} (hgd : o.guard = none) (s x : Operand) (t : TypeId)
    (ho : o.op = .call { callee := .builtin .append, args := #[s, x], argTypes := #[t, t] }) (base : Nat) (e : TypeId) (i : TypeInfo) (size : Nat) (ht : P.underlying t = some (.slice e)) (hi : P.info? e = some i)
    (v : Value) (n : Nat) (xs : List Value) (hs : a.eval s = v) (hown : w.ownsRow base e size v n xs) (c : Nat) (hx : a.eval x = .slice none 0 c) (h : wpList P ops Q rest (a.put o.dst v) w) : wpList P ops Q (o :: rest) a w :=
  wpList_plain hgd fun _ hK => by
    have hr : (Builtin.append_ #[t, t] o.type #[v, .slice none 0 c]).run P w = .ok v w := by
      rcases hown.2 with ⟨rfl, _⟩ | ⟨g, cap, cur, rfl, _, _, hnc, _⟩
      · exact run_append_nothing w t t o.type e i ht hi none 0 0 (Nat.le_refl _) _ (Src.ofNil w ht c)
      · exact run_append_nothing w t t o.type e i ht hi _ n cap hnc _ (Src.ofNil w ht c)
    unfold Oper.wp execOp
    simp only [ho, resolve, invoke, builtin, Sem.run_bind, Sem.run_pure, Result.andThen_ok, List.map_toArray, List.map_cons, List.map_nil, hs, hx, hr]
    exact hK _ _ h
theorem flat_cells (l : List Val) : ∀ css : List (List Value), css.length = l.length → (∀ i (h : i < css.length) (h' : i < l.length), css[i] = cellsV l[i]) → css.flatten = l.flatMap cellsV := by
  induction l with
  | nil => intro css hl _; have : css = [] := List.eq_nil_of_length_eq_zero hl; subst this; rfl
  | cons x l ih =>
    intro css hl hp
    cases css with
    | nil => simp at hl
    | cons c css =>
      rw [List.flatten_cons, List.flatMap_cons, ih css (by simpa using hl) fun i h h' => hp (i + 1) (Nat.succ_lt_succ h) (Nat.succ_lt_succ h')]
      have := hp 0 (by simp) (by simp)
      simp only [List.getElem_cons_zero] at this
      rw [this]
theorem vals_cells {w : World} {ad : Addr} {cap : Nat} {l : List Val} (h : SlAt w 3 ValR (some ad) cap l) : ∀ j u, (l.flatMap cellsV)[j]? = some u → w.cell? (ad.add j) = some u := by
  intro j u hj
  by_cases h0 : 0 < l.length
  · obtain ⟨b, off, css, hA, hb, hch, hc⟩ := h.css h0 (by decide)
    simp only [Option.some.injEq] at hA
    subst hA
    have e := flat_cells l css hch.1 fun i h1 h2 => (hch.2 i h1 h2).2.1
    have hlt : j < l.length * 3 := by rw [← hch.len, e]; exact (List.getElem?_eq_some_iff.1 hj).1
    rw [add_mk, hc j hlt, e]; exact hj
  · have : l = [] := List.eq_nil_of_length_eq_zero (by omega)
    subst this; simp at hj
theorem vals_one (l : List Val) : ∀ u ∈ l.flatMap cellsV, u.oneCell' = true := by
  intro u hu
  obtain ⟨v, _, hu⟩ := List.mem_flatMap.1 hu
  simp only [cellsV, List.mem_cons, List.not_mem_nil, or_false] at hu
  rcases hu with rfl | rfl | rfl <;> simp [Value.oneCell']
theorem vals_len3 (l : List Val) : (l.flatMap cellsV).length = l.length * 3 := by
  induction l with
  | nil => rfl
  | cons x l ih => rw [List.flatMap_cons, List.length_append, ih, List.length_cons, Nat.succ_mul]; simp [cellsV]; omega
/-- each value of a turned row is short -/
theorem turn_small {l m : List Col} {row : List Val} (h : ∀ v ∈ row, Small v.text.size) : ∀ v ∈ turned l m row, Small v.text.size := by
  intro v hv
  unfold turned at hv
  split at hv
  · obtain ⟨c, _, rfl⟩ := List.mem_map.1 hv
    unfold turn1
    split
    · unfold valAt
      split
      · rename_i x hx; exact h x (List.mem_of_getElem? hx)
      · unfold Small; simp [nilV, ByteArray.size]
    · unfold Small; simp [nullV, ByteArray.size]
  · simp at hv
theorem turned_len {l m : List Col} {row : List Val} : (turned l m row).length ≤ m.length := by
  unfold turned; split
  · rw [turnVs_len]; exact Nat.le_refl _
  · simp
theorem turned_len8 {l m : List Col} {row : List Val} : (turned l m row).length ≤ 8 := by
  by_cases h : turnC l m row = 0
  · rw [turned_yes h, turnVs_len]
    apply Classical.byContradiction
    intro hn
    have : ¬ colsOk m = true := fun h2 => hn (cols_len h2)
    have h2 : colsOk m = false := by simpa using this
    cases h1 : colsOk l
    · rw [turnC_1 h1] at h; cases h
    · rw [turnC_1' h1 h2] at h; cases h
  · rw [turned_no h]; simp
theorem small8 {n : Nat} (h : n ≤ 8) : Small (n * 16) := by unfold Small; omega
end Go.Proofs.Ytodifdofgjfkiaa
