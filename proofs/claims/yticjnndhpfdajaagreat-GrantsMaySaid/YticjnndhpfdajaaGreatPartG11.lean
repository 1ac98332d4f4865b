/- Contracts of the program, part 11. -/
import Derived.Test.YticjnndhpfdajaaGreatPartG9
import Derived.Test.YticjnndhpfdajaaGreatPartG6
import Derived.IntWalk
import Derived.Test.YticjnndhpfdajaaGreatPartG7
import Derived.Deep.RegionLaw
import Derived.Lib.Walk
/- slices.IndexFunc and ContainsFunc at members; is a role used? -/
namespace Go.Proofs.YticjnndhpfdajaaGreat
open Go.RowKit Go.Deep
set_option maxRecDepth 100000
set_option linter.unusedVariables false
end Go.Proofs.YticjnndhpfdajaaGreat
/- Plain: the place in a row that rises; what goes in and out there. -/
namespace Go.Proofs.YticjnndhpfdajaaGreat
set_option linter.unusedVariables false
/-- how many are less -/
def posB {α : Type} (c : α → α → Int) (l : List α) (x : α) : Nat := l.countP fun y => decide (c y x < 0)
theorem countP_bound {α : Type} (p : α → Bool) : ∀ (l : List α) (i : Nat), i ≤ l.length → (∀ t (h : t < l.length), t < i → p l[t] = true) → (∀ t (h : t < l.length), i ≤ t → p l[t] = false) → l.countP p = i
  | [], i, hi, _, _ => by simp at hi; simp [hi]
  | a :: r, 0, _, _, h2 => by
    rw [List.countP_eq_zero]
    intro x hx
    obtain ⟨t, ht, rfl⟩ := List.getElem_of_mem hx
    rw [h2 t ht (Nat.zero_le _)]; simp
  | a :: r, i + 1, hi, h1, h2 => by
    have ha : p a = true := h1 0 (by simp) (Nat.succ_pos _)
    rw [List.countP_cons_of_pos ha, countP_bound p r i (by simpa using hi) (fun t h ht => h1 (t + 1) (by simpa using h) (by omega)) (fun t h ht => h2 (t + 1) (by simpa using h) (by omega))]
/-- in a row that rises, what is less lies ahead -/
theorem rises_lt {α : Type} {c : α → α → Int} (tr : ∀ a b d, c a b < 0 → c b d < 0 → c a d < 0) {l : List α} (h : risesB c l = true) : ∀ (a b : Nat) (ha : a < l.length) (hb : b < l.length), a < b → c l[a] l[b] < 0 := by
  intro a b
  induction b with
  | zero => intro ha hb hab; omega
  | succ b ih =>
    intro ha hb hab
    have h1 := (risesB_iff c l).1 h b hb
    rcases Nat.lt_or_ge a b with h2 | h2
    · exact tr _ _ _ (ih ha (by omega) h2) h1
    · have : a = b := by omega
      subst this; exact h1
theorem rises_mono {α : Type} {c : α → α → Int} (tr : ∀ a b d, c a b < 0 → c b d < 0 → c a d < 0) {l : List α} (h : risesB c l = true) (x : α) (a b : Nat) (ha : a < l.length) (hb : b < l.length) (hab : a ≤ b) (hx : c l[b] x < 0) : c l[a] x < 0 := by
  rcases Nat.lt_or_ge a b with h2 | h2
  · exact tr _ _ _ (rises_lt tr h a b ha hb h2) hx
  · have : a = b := by omega
    subst this; exact hx
theorem posB_le {α : Type} (c : α → α → Int) (l : List α) (x : α) : posB c l x ≤ l.length := List.countP_le_length
def insAt {α : Type} (l : List α) (p : Nat) (x : α) : List α := l.take p ++ [x] ++ l.drop p
/-- an order: of two, just one way -/
structure Ord8 {α : Type} (c : α → α → Int) : Prop where
  tr : ∀ a b d, c a b < 0 → c b d < 0 → c a d < 0
  anti : ∀ a b, c a b = - c b a
  eq0 : ∀ a b, c a b = 0 → a = b
theorem Ord8.refl {α : Type} {c : α → α → Int} (o : Ord8 c) (a : α) : c a a = 0 := by have := o.anti a a; omega
theorem split_at {α : Type} (p : α → Bool) (l : List α) (mono : ∀ a b (ha : a < l.length) (hb : b < l.length), a ≤ b → p l[b] = true → p l[a] = true) : ∀ n, n ≤ l.length → ∃ i, i ≤ n ∧ (∀ t (h : t < l.length), t < i → p l[t] = true) ∧ (∀ t (h : t < l.length), i ≤ t → t < n → p l[t] = false) := by
  intro n
  induction n with
  | zero => intro _; exact ⟨0, Nat.le_refl _, fun t _ h => absurd h (Nat.not_lt_zero t), fun t _ _ h => absurd h (Nat.not_lt_zero t)⟩
  | succ n ih =>
    intro hn
    obtain ⟨i, hi, h1, h2⟩ := ih (by omega)
    cases hp : p (l[n]'(by omega))
    · refine ⟨i, by omega, h1, fun t ht h3 h4 => ?_⟩
      rcases Nat.lt_or_ge t n with h5 | h5
      · exact h2 t ht h3 h5
      · have : t = n := by omega
        subst this; exact hp
    · refine ⟨n + 1, Nat.le_refl _, fun t ht h3 => mono t n ht (by omega) (by omega) hp, fun t ht h3 h4 => by omega⟩
theorem pos_split' {α : Type} {c : α → α → Int} (tr : ∀ a b d, c a b < 0 → c b d < 0 → c a d < 0) {l : List α} (h : risesB c l = true) (x : α) : (∀ t (h : t < l.length), t < posB c l x → c l[t] x < 0) ∧ (∀ t (h : t < l.length), posB c l x ≤ t → ¬ c l[t] x < 0) := by
  obtain ⟨i, hi, h1, h2⟩ := split_at (fun y => decide (c y x < 0)) l (fun a b ha hb hab hx => decide_eq_true (rises_mono tr h x a b ha hb hab (of_decide_eq_true hx))) l.length (Nat.le_refl _)
  have hp : posB c l x = i := countP_bound _ l i hi h1 fun t ht hit => h2 t ht hit ht
  rw [hp]
  exact ⟨fun t ht hl => of_decide_eq_true (h1 t ht hl), fun t ht hl => of_decide_eq_false (h2 t ht hl ht)⟩
/-- in a row that rises a new one stands ahead of all from its place on -/
theorem new_less' {α : Type} {c : α → α → Int} (tr : ∀ a b d, c a b < 0 → c b d < 0 → c a d < 0) (anti : ∀ a b, c a b = - c b a) {l : List α} (hr : risesB c l = true) {x : α} (hn : ∀ y ∈ l, c y x ≠ 0) (t : Nat) (ht : t < l.length) : decide (c x l[t] < 0) = decide (posB c l x ≤ t) := by
  obtain ⟨h1, h2⟩ := pos_split' tr hr x
  rcases Nat.lt_or_ge t (posB c l x) with h3 | h3
  · have h4 := h1 t ht h3
    have h5 := anti x l[t]
    rw [decide_eq_false (by omega), decide_eq_false (by omega)]
  · have h4 := h2 t ht h3
    have h5 := anti x l[t]
    have h6 := hn l[t] (List.getElem_mem ht)
    rw [decide_eq_true (by omega), decide_eq_true h3]
theorem rises_ins' {α : Type} {c : α → α → Int} (tr : ∀ a b d, c a b < 0 → c b d < 0 → c a d < 0) (anti : ∀ a b, c a b = - c b a) {l : List α} (hr : risesB c l = true) {x : α} (hn : ∀ y ∈ l, c y x ≠ 0) : risesB c (insAt l (posB c l x) x) = true := by
  have hp := posB_le c l x
  obtain ⟨h1, h2⟩ := pos_split' tr hr x
  have h3 := new_less' tr anti hr hn
  generalize posB c l x = p at *
  rw [risesB_iff]
  intro k hk
  unfold insAt at *
  have hlen : (l.take p).length = p := by simp; omega
  have g1 : ∀ t, t < p → (l.take p ++ [x] ++ l.drop p)[t]? = l[t]? := fun t ht => by
    rw [List.getElem?_append_left (by simp; omega), List.getElem?_append_left (by omega), List.getElem?_take_of_lt ht]
  have g2 : (l.take p ++ [x] ++ l.drop p)[p]? = some x := by
    rw [List.getElem?_append_left (by simp; omega), List.getElem?_append_right (by omega), hlen]; simp
  have g3 : ∀ t, p < t → (l.take p ++ [x] ++ l.drop p)[t]? = l[t - 1]? := fun t ht => by
    rw [List.getElem?_append_right (by simp; omega)]
    simp only [List.length_append, hlen, List.length_singleton, List.getElem?_drop]
    congr 1; omega
  have hl2 : (l.take p ++ [x] ++ l.drop p).length = l.length + 1 := by simp; omega
  generalize hL : l.take p ++ [x] ++ l.drop p = L at *
  rcases Nat.lt_trichotomy (k + 1) p with h5 | h5 | h5
  · have e1 := g1 k (by omega)
    have e2 := g1 (k + 1) h5
    rw [List.getElem?_eq_getElem (by omega), List.getElem?_eq_getElem (by omega)] at e1 e2
    simp only [Option.some.injEq] at e1 e2
    rw [e1, e2]
    exact (risesB_iff c l).1 hr k (by omega)
  · have e1 := g1 k (by omega)
    subst h5
    rw [List.getElem?_eq_getElem (by omega), List.getElem?_eq_getElem (by omega)] at e1
    rw [List.getElem?_eq_getElem (by omega)] at g2
    simp only [Option.some.injEq] at e1 g2
    rw [e1, g2]
    exact h1 k (by omega) (by omega)
  · rcases Nat.lt_or_ge p k with h6 | h6
    · have e1 := g3 k h6
      have e2 := g3 (k + 1) h5
      rw [List.getElem?_eq_getElem (by omega), List.getElem?_eq_getElem (by omega)] at e1 e2
      simp only [Option.some.injEq] at e1 e2
      rw [e1, e2]
      have := (risesB_iff c l).1 hr (k - 1) (by omega)
      have hk1 : k - 1 + 1 = k := by omega
      simp only [hk1] at this
      exact this
    · have : k = p := by omega
      subst this
      have e2 := g3 (k + 1) h5
      rw [List.getElem?_eq_getElem (by omega), List.getElem?_eq_getElem (by omega)] at e2
      rw [List.getElem?_eq_getElem (by omega)] at g2
      simp only [Option.some.injEq, Nat.add_sub_cancel] at e2 g2
      rw [e2, g2]
      exact of_decide_eq_true ((h3 k (by omega)).trans (decide_eq_true (Nat.le_refl _)))
theorem mem_insAt {α : Type} {l : List α} {p : Nat} {x y : α} : y ∈ insAt l p x ↔ y = x ∨ y ∈ l := by
  unfold insAt
  conv => rhs; rw [← List.take_append_drop p l]
  simp only [List.mem_append, List.mem_singleton]
  grind
theorem insAt_len {α : Type} (l : List α) (p : Nat) (x : α) (h : p ≤ l.length) : (insAt l p x).length = l.length + 1 := by unfold insAt; simp; omega
end Go.Proofs.YticjnndhpfdajaaGreat
/- slices.BinarySearch at texts, slices.BinarySearchFunc at members: the place in a row that rises. -/
namespace Go.Proofs.YticjnndhpfdajaaGreat
open Go.RowKit Go.Deep
set_option maxRecDepth 100000
set_option linter.unusedVariables false
structure BsI {α : Type} (c : α → α → Int) (l : List α) (x : α) (lo hi : Nat) : Prop where
  le : lo ≤ hi
  hl : hi ≤ l.length
  less : ∀ t (h : t < l.length), t < lo → c l[t] x < 0
  more : ∀ t (h : t < l.length), hi ≤ t → ¬ c l[t] x < 0
theorem BsI.pos {α : Type} {c : α → α → Int} {l : List α} {x : α} {lo : Nat} (h : BsI c l x lo lo) : posB c l x = lo :=
  countP_bound _ l lo h.hl (fun t ht hl => decide_eq_true (h.less t ht hl)) (fun t ht hl => decide_eq_false (h.more t ht hl))
theorem BsI.right {α : Type} {c : α → α → Int} (tr : ∀ a b d, c a b < 0 → c b d < 0 → c a d < 0) {l : List α} {x : α} {lo hi m : Nat} (h : BsI c l x lo hi) (hr : risesB c l = true) (hm : m < hi) (h1 : c (l[m]'(by have := h.hl; omega)) x < 0) : BsI c l x (m + 1) hi :=
  ⟨by omega, h.hl, fun t ht hl => rises_mono tr hr x t m ht (by have := h.hl; omega) (by omega) h1, h.more⟩
theorem BsI.left {α : Type} {c : α → α → Int} (tr : ∀ a b d, c a b < 0 → c b d < 0 → c a d < 0) {l : List α} {x : α} {lo hi m : Nat} (h : BsI c l x lo hi) (hr : risesB c l = true) (hlo : lo ≤ m) (hm : m < hi) (h1 : ¬ c (l[m]'(by have := h.hl; omega)) x < 0) : BsI c l x lo m :=
  ⟨hlo, by have := h.hl; omega, h.less, fun t ht hl h2 => h1 (rises_mono tr hr x m t (by have := h.hl; omega) ht hl h2)⟩
theorem cmpS_tr (a b d : ByteArray) (h1 : cmpS a b < 0) (h2 : cmpS b d < 0) : cmpS a d < 0 := cmpS_trans h1 h2
end Go.Proofs.YticjnndhpfdajaaGreat
/- slices.Delete of one element. -/
namespace Go.Proofs.YticjnndhpfdajaaGreat
open Go.RowKit Go.Deep
set_option maxRecDepth 100000
set_option linter.unusedVariables false
end Go.Proofs.YticjnndhpfdajaaGreat
