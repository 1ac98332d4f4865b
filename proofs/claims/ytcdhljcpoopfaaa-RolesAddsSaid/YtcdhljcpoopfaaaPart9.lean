/- Contracts of the program, part 9. -/
import Derived.Test.YtcdhljcpoopfaaaPart8
import Derived.Test.YtcdhljcpoopfaaaPart6
/- Plain: where a new one goes into a row that rises; what the document's loops lay; roles that have grown. -/
namespace Go.Proofs.Ytcdhljcpoopfaaa
set_option linter.unusedVariables false
/-- an order: of two, just one way -/
structure Ord8 {α : Type} (c : α → α → Int) : Prop where
  tr : ∀ a b d, c a b < 0 → c b d < 0 → c a d < 0
  anti : ∀ a b, c a b = - c b a
  eq0 : ∀ a b, c a b = 0 → a = b
theorem Ord8.refl {α : Type} {c : α → α → Int} (o : Ord8 c) (a : α) : c a a = 0 := by have := o.anti a a; omega
theorem split_at {α : Type} (p : α → Bool) (l : List α) (mono : ∀ a b (ha : a < l.length) (hb : b < l.length), a ≤ b → p l[b] = true → p l[a] = true) : ∀ n, n ≤ l.length → ∃ i, i ≤ n ∧ (∀ t (h : t < l.length), t < i → p l[t] = true) ∧ (∀ t (h : t < l.length), i ≤ t → t < n → p l[t] = false) := by
  intro n
  induction n with
  | zero => intro _; exact ⟨0, Nat.le_refl _, fun t _ h => absurd h (Nat.not_lt_zero t), fun t _ _ h => absurd h (Nat.not_lt_zero t)⟩
  | succ n ih =>
    intro hn
    obtain ⟨i, hi, h1, h2⟩ := ih (by omega)
    cases hp : p (l[n]'(by omega))
    · refine ⟨i, by omega, h1, fun t ht h3 h4 => ?_⟩
      rcases Nat.lt_or_ge t n with h5 | h5
      · exact h2 t ht h3 h5
      · have : t = n := by omega
        subst this; exact hp
    · refine ⟨n + 1, Nat.le_refl _, fun t ht h3 => mono t n ht (by omega) (by omega) hp, fun t ht h3 h4 => by omega⟩
theorem pos_split {α : Type} {c : α → α → Int} (o : Ord8 c) {l : List α} (h : risesB c l = true) (x : α) : (∀ t (h : t < l.length), t < posB c l x → c l[t] x < 0) ∧ (∀ t (h : t < l.length), posB c l x ≤ t → ¬ c l[t] x < 0) := by
  obtain ⟨i, hi, h1, h2⟩ := split_at (fun y => decide (c y x < 0)) l (fun a b ha hb hab hx => decide_eq_true (rises_mono o.tr h x a b ha hb hab (of_decide_eq_true hx))) l.length (Nat.le_refl _)
  have hp : posB c l x = i := countP_bound _ l i hi h1 fun t ht hit => h2 t ht hit ht
  rw [hp]
  exact ⟨fun t ht hl => of_decide_eq_true (h1 t ht hl), fun t ht hl => of_decide_eq_false (h2 t ht hl ht)⟩
theorem there_iff {α : Type} {c : α → α → Int} (o : Ord8 c) {l : List α} (h : risesB c l = true) (x : α) : thereB c l x = true ↔ x ∈ l := by
  obtain ⟨h1, h2⟩ := pos_split o h x
  unfold thereB
  constructor
  · intro ht
    split at ht
    · next y hy =>
      have := o.eq0 _ _ (of_decide_eq_true ht)
      subst this
      exact List.mem_of_getElem? hy
    · cases ht
  · intro hx
    obtain ⟨t, ht, he⟩ := List.getElem_of_mem hx
    have h3 : posB c l x ≤ t := by
      rcases Nat.lt_or_ge t (posB c l x) with h4 | h4
      · have := h1 t ht h4; rw [he, o.refl] at this; omega
      · exact h4
    have h4 : posB c l x = t := by
      rcases Nat.lt_or_ge (posB c l x) t with h5 | h5
      · have := rises_lt o.tr h _ t (by omega) ht h5
        rw [he] at this
        exact absurd this (h2 _ (by omega) (Nat.le_refl _))
      · omega
    rw [h4, List.getElem?_eq_getElem ht, he]
    exact decide_eq_true (o.refl x)
theorem there_get {α : Type} {c : α → α → Int} (o : Ord8 c) {l : List α} {x : α} (h : thereB c l x = true) : ∃ hp : posB c l x < l.length, l[posB c l x] = x := by
  unfold thereB at h
  split at h
  · next y hy =>
    obtain ⟨hp, he⟩ := List.getElem?_eq_some_iff.1 hy
    exact ⟨hp, he.trans (o.eq0 _ _ (of_decide_eq_true h))⟩
  · cases h
theorem there_only {α : Type} {c : α → α → Int} (o : Ord8 c) {l : List α} (hr : risesB c l = true) {x : α} (h : thereB c l x = true) (t : Nat) (ht : t < l.length) : l[t] = x ↔ t = posB c l x := by
  obtain ⟨hp, he⟩ := there_get o h
  constructor
  · intro e
    rcases Nat.lt_trichotomy t (posB c l x) with h5 | h5 | h5
    · have := rises_lt o.tr hr t _ ht hp h5
      rw [e, he, o.refl] at this; omega
    · exact h5
    · have := rises_lt o.tr hr _ t hp ht h5
      rw [e, he, o.refl] at this; omega
  · intro e; subst e; exact he
/-- in a row that rises a new one stands ahead of all from its place on -/
theorem new_less {α : Type} {c : α → α → Int} (o : Ord8 c) {l : List α} (hr : risesB c l = true) {x : α} (h : thereB c l x = false) (t : Nat) (ht : t < l.length) : decide (c x l[t] < 0) = decide (posB c l x ≤ t) := by
  obtain ⟨h1, h2⟩ := pos_split o hr x
  have hn : x ∉ l := fun hx => by rw [← there_iff o hr x] at hx; rw [hx] at h; cases h
  rcases Nat.lt_or_ge t (posB c l x) with h3 | h3
  · have h4 := h1 t ht h3
    have h5 := o.anti x l[t]
    rw [decide_eq_false (by omega), decide_eq_false (by omega)]
  · have h4 := h2 t ht h3
    have h5 := o.anti x l[t]
    have h6 : c x l[t] ≠ 0 := fun e => hn (by rw [o.eq0 _ _ e]; exact List.getElem_mem ht)
    rw [decide_eq_true (by omega), decide_eq_true h3]
theorem rises_ins {α : Type} {c : α → α → Int} (o : Ord8 c) {l : List α} (hr : risesB c l = true) {x : α} (h : thereB c l x = false) : risesB c (insAt l (posB c l x) x) = true := by
  have hp := posB_le c l x
  obtain ⟨h1, h2⟩ := pos_split o hr x
  have h3 := new_less o hr h
  generalize posB c l x = p at *
  rw [risesB_iff]
  intro k hk
  unfold insAt at *
  have hlen : (l.take p).length = p := by simp; omega
  have g1 : ∀ t, t < p → (l.take p ++ [x] ++ l.drop p)[t]? = l[t]? := fun t ht => by
    rw [List.getElem?_append_left (by simp; omega), List.getElem?_append_left (by omega), List.getElem?_take_of_lt ht]
  have g2 : (l.take p ++ [x] ++ l.drop p)[p]? = some x := by
    rw [List.getElem?_append_left (by simp; omega), List.getElem?_append_right (by omega), hlen]; simp
  have g3 : ∀ t, p < t → (l.take p ++ [x] ++ l.drop p)[t]? = l[t - 1]? := fun t ht => by
    rw [List.getElem?_append_right (by simp; omega)]
    simp only [List.length_append, hlen, List.length_singleton, List.getElem?_drop]
    congr 1; omega
  have hl2 : (l.take p ++ [x] ++ l.drop p).length = l.length + 1 := by simp; omega
  generalize hL : l.take p ++ [x] ++ l.drop p = L at *
  rcases Nat.lt_trichotomy (k + 1) p with h5 | h5 | h5
  · have e1 := g1 k (by omega)
    have e2 := g1 (k + 1) h5
    rw [List.getElem?_eq_getElem (by omega), List.getElem?_eq_getElem (by omega)] at e1 e2
    simp only [Option.some.injEq] at e1 e2
    rw [e1, e2]
    exact (risesB_iff c l).1 hr k (by omega)
  · have e1 := g1 k (by omega)
    subst h5
    rw [List.getElem?_eq_getElem (by omega), List.getElem?_eq_getElem (by omega)] at e1
    rw [List.getElem?_eq_getElem (by omega)] at g2
    simp only [Option.some.injEq] at e1 g2
    rw [e1, g2]
    exact h1 k (by omega) (by omega)
  · rcases Nat.lt_or_ge p k with h6 | h6
    · have e1 := g3 k h6
      have e2 := g3 (k + 1) h5
      rw [List.getElem?_eq_getElem (by omega), List.getElem?_eq_getElem (by omega)] at e1 e2
      simp only [Option.some.injEq] at e1 e2
      rw [e1, e2]
      have := (risesB_iff c l).1 hr (k - 1) (by omega)
      have hk1 : k - 1 + 1 = k := by omega
      simp only [hk1] at this
      exact this
    · have : k = p := by omega
      subst this
      have e2 := g3 (k + 1) h5
      rw [List.getElem?_eq_getElem (by omega), List.getElem?_eq_getElem (by omega)] at e2
      rw [List.getElem?_eq_getElem (by omega)] at g2
      simp only [Option.some.injEq, Nat.add_sub_cancel] at e2 g2
      rw [e2, g2]
      exact of_decide_eq_true ((h3 k (by omega)).trans (decide_eq_true (Nat.le_refl _)))
theorem mem_insAt {α : Type} {l : List α} {p : Nat} {x y : α} : y ∈ insAt l p x ↔ y = x ∨ y ∈ l := by
  unfold insAt
  conv => rhs; rw [← List.take_append_drop p l]
  simp only [List.mem_append, List.mem_singleton]
  grind
theorem insAt_len {α : Type} (l : List α) (p : Nat) (x : α) (h : p ≤ l.length) : (insAt l p x).length = l.length + 1 := by unfold insAt; simp; omega
theorem insAt_get {α : Type} {l : List α} {p : Nat} {x : α} (h : p ≤ l.length) : (insAt l p x)[p]? = some x := by
  unfold insAt
  have e : (l.take p).length = p := by simp; omega
  rw [List.getElem?_append_left (by simp; omega), List.getElem?_append_right (by omega), e]
  simp
/-- what was put in and is taken out again is as it was -/
theorem ins_erase {α : Type} (l : List α) (p : Nat) (x : α) (h : p ≤ l.length) : (insAt l p x).eraseIdx p = l := by
  unfold insAt
  rw [List.eraseIdx_append_of_lt_length (by simp; omega), List.eraseIdx_append_of_length_le (by simp; omega)]
  have : p - (l.take p).length = 0 := by simp; omega
  rw [this]
  simp
theorem ins_pos {α : Type} {c : α → α → Int} (o : Ord8 c) {l : List α} (hr : risesB c l = true) {x : α} (h : thereB c l x = false) : thereB c (insAt l (posB c l x) x) x = true ∧ posB c (insAt l (posB c l x) x) x = posB c l x := by
  have h1 := rises_ins o hr h
  have h2 : thereB c (insAt l (posB c l x) x) x = true := (there_iff o h1 x).2 (mem_insAt.2 (.inl rfl))
  refine ⟨h2, ?_⟩
  have hp := posB_le c l x
  have hl := insAt_len l (posB c l x) x hp
  have hg := insAt_get (x := x) hp
  rw [List.getElem?_eq_getElem (by omega)] at hg
  exact ((there_only o h1 h2 _ (by omega)).1 (by simpa using hg)).symm
/-- the document's row so far, with the new one when its place is behind -/
def insK {α : Type} (l : List α) (p : Nat) (x : α) (k : Nat) : List α := if p < k then insAt (l.take k) p x else l.take k
theorem insK_zero {α : Type} (l : List α) (p : Nat) (x : α) : insK l p x 0 = [] := by unfold insK; simp
theorem insK_lt {α : Type} (l : List α) (p : Nat) (x : α) (k : Nat) (hk : k < l.length) (h : k < p) : insK l p x (k + 1) = insK l p x k ++ [l[k]] := by
  unfold insK
  rw [if_neg (by omega), if_neg (by omega), List.take_succ_eq_append_getElem hk]
theorem insK_at {α : Type} (l : List α) (x : α) (k : Nat) (hk : k < l.length) : insK l k x (k + 1) = insK l k x k ++ [x] ++ [l[k]] := by
  unfold insK
  rw [if_pos (by omega), if_neg (by omega)]
  unfold insAt
  rw [List.take_take, Nat.min_eq_left (by omega), List.take_succ_eq_append_getElem hk, List.drop_append_of_le_length (by simp; omega)]
  simp
theorem insK_gt {α : Type} (l : List α) (p : Nat) (x : α) (k : Nat) (hk : k < l.length) (h : p < k) : insK l p x (k + 1) = insK l p x k ++ [l[k]] := by
  unfold insK
  rw [if_pos (by omega), if_pos h]
  unfold insAt
  rw [List.take_take, List.take_take, Nat.min_eq_left (by omega), Nat.min_eq_left (by omega), List.take_succ_eq_append_getElem hk, List.drop_append_of_le_length (by simp; omega)]
  simp
theorem insK_end {α : Type} (l : List α) (p : Nat) (x : α) (h : p < l.length) : insK l p x l.length = insAt l p x := by
  unfold insK
  rw [if_pos h, List.take_length]
theorem insK_end' {α : Type} (l : List α) (x : α) : insK l l.length x l.length ++ [x] = insAt l l.length x := by
  unfold insK insAt
  simp
theorem insK_len {α : Type} (l : List α) (p : Nat) (x : α) (k : Nat) (hk : k ≤ l.length) : (insK l p x k).length ≤ l.length + 1 := by
  unfold insK
  split
  · rw [insAt_len _ _ _ (by simp; omega)]; simp; omega
  · simp; omega
theorem insK_mem {α : Type} {l : List α} {p : Nat} {x y : α} {k : Nat} (h : y ∈ insK l p x k) : y = x ∨ y ∈ l := by
  unfold insK at h
  split at h
  · rcases mem_insAt.1 h with h | h
    · exact .inl h
    · exact .inr (List.mem_of_mem_take h)
  · exact .inr (List.mem_of_mem_take h)
/-- all but the one at a place -/
def delK {α : Type} (l : List α) (p k : Nat) : List α := (l.take k).eraseIdx p
theorem delK_zero {α : Type} (l : List α) (p : Nat) : delK l p 0 = [] := by unfold delK; simp
theorem delK_at {α : Type} (l : List α) (k : Nat) (hk : k < l.length) : delK l k (k + 1) = delK l k k := by
  unfold delK
  have e : (l.take k).length = k := by simp; omega
  rw [List.take_succ_eq_append_getElem hk, List.eraseIdx_append_of_length_le (by omega), List.eraseIdx_of_length_le (l := l.take k) (by omega), e]
  simp
theorem delK_ne {α : Type} (l : List α) (p k : Nat) (hk : k < l.length) (h : k ≠ p) : delK l p (k + 1) = delK l p k ++ [l[k]] := by
  unfold delK
  rw [List.take_succ_eq_append_getElem hk]
  rcases Nat.lt_or_ge p k with h1 | h1
  · rw [List.eraseIdx_append_of_lt_length (by simp; omega)]
  · rw [List.eraseIdx_append_of_length_le (by simp; omega), List.eraseIdx_of_length_le (l := l.take k) (by simp; omega)]
    congr 1
    rw [List.eraseIdx_of_length_le (by simp; omega)]
theorem delK_end {α : Type} (l : List α) (p : Nat) : delK l p l.length = l.eraseIdx p := by unfold delK; simp
theorem delK_len {α : Type} (l : List α) (p k : Nat) : (delK l p k).length ≤ l.length := by unfold delK; have := List.length_eraseIdx_le (l.take k) p; simp at this ⊢; omega
theorem delK_mem {α : Type} {l : List α} {p k : Nat} {y : α} (h : y ∈ delK l p k) : y ∈ l := List.mem_of_mem_take (List.mem_of_mem_eraseIdx h)
theorem txt_inj {a b : ByteArray} (h : txt a = txt b) : a = b := by
  unfold txt at h
  cases a; cases b
  simp only [Array.toList_inj] at h
  rw [h]
theorem eqS_iff (a b : ByteArray) : eqS a b = true ↔ a = b := ⟨fun h => txt_inj ((eqS_txt _ _).1 h), fun h => (eqS_txt _ _).2 (by rw [h])⟩
theorem ordS : Ord8 cmpS := ⟨cmpS_tr, cmpS_anti, fun a b h => (eqS_iff _ _).1 ((cmpS_eq _ _).1 h)⟩
theorem ordM : Ord8 cmpM := ⟨cmpM_tr, cmpM_anti, fun a b h => by
  unfold cmpM or2 at h
  obtain ⟨a1, a2⟩ := a
  obtain ⟨b1, b2⟩ := b
  simp only at h
  by_cases e : cmpS a1 b1 = 0
  · rw [if_pos (by simpa using e)] at h
    rw [ordS.eq0 _ _ e, ordS.eq0 _ _ h]
  · rw [if_neg (by simpa using e)] at h
    exact absurd h e⟩
theorem inB_mem (l : List ByteArray) (s : ByteArray) : inB l s = true ↔ s ∈ l := by
  unfold inB
  rw [List.any_eq_true]
  exact ⟨fun ⟨x, hx, h⟩ => by rw [← (eqS_iff _ _).1 h]; exact hx, fun h => ⟨s, h, (eqS_iff _ _).2 rfl⟩⟩
theorem inB_there {l : List ByteArray} (hr : risesB cmpS l = true) (s : ByteArray) : inB l s = thereB cmpS l s := by
  rw [Bool.eq_iff_iff, inB_mem, there_iff ordS hr]
theorem cmpM_ltB (x m : Mbr) : decide (cmpM x m < 0) = (ltS x.role m.role || (eqS x.role m.role && ltS x.of m.of)) := by
  unfold cmpM or2
  by_cases e : cmpS x.role m.role = 0
  · rw [if_pos (by simpa using e), (cmpS_eq _ _).1 e, ← cmpS_lt x.role, ← cmpS_lt x.of, decide_eq_false (p := cmpS x.role m.role < 0) (by omega)]
    simp
  · have e' : eqS x.role m.role = false := by
      rw [Bool.eq_false_iff]; intro h; exact e ((cmpS_eq _ _).2 h)
    rw [if_neg (by simpa using e), e', cmpS_lt]
    simp
/-- is it this one? -/
def sameM (x m : Mbr) : Bool := eqS m.role x.role && eqS m.of x.of
theorem sameM_iff (x m : Mbr) : sameM x m = true ↔ m = x := by
  unfold sameM
  rw [Bool.and_eq_true, eqS_iff, eqS_iff]
  obtain ⟨a, b⟩ := x
  obtain ⟨c, d⟩ := m
  simp
theorem idx_there {l : List Mbr} (hr : risesB cmpM l = true) (x : Mbr) : idxP (sameM x) l = if thereB cmpM l x then (posB cmpM l x : Int) else -1 := by
  cases ht : thereB cmpM l x
  · simp only [Bool.false_eq_true, if_false]
    refine idxP_none _ _ fun i hi => ?_
    rw [Bool.eq_false_iff]
    intro h
    have := (there_iff ordM hr x).2 (by rw [← (sameM_iff _ _).1 h]; exact List.getElem_mem hi)
    rw [this] at ht; cases ht
  · simp only [if_true]
    obtain ⟨hp, he⟩ := there_get ordM ht
    refine idxP_some _ _ _ hp ((sameM_iff _ _).2 he) fun i hi => ?_
    rw [Bool.eq_false_iff]
    intro h
    have := (there_only ordM hr ht i (by omega)).1 ((sameM_iff _ _).1 h)
    omega
theorem mem_succ {ms : List Mbr} {s : Txt} {y : ByteArray} : y ∈ succ ms s ↔ ∃ m ∈ ms, txt m.role = s ∧ m.of = y := by
  unfold succ
  rw [List.mem_map]
  constructor
  · rintro ⟨m, hm, rfl⟩
    obtain ⟨h1, h2⟩ := List.mem_filter.1 hm
    exact ⟨m, h1, by simpa using h2, rfl⟩
  · rintro ⟨m, hm, h1, rfl⟩
    exact ⟨m, List.mem_filter.2 ⟨hm, by simpa using h1⟩, rfl⟩
theorem Reach.mono {ms ms' : List Mbr} (hs : ∀ m ∈ ms, m ∈ ms') {s t : Txt} (h : Reach ms s t) : Reach ms' s t := by
  induction h with
  | refl => exact .refl _
  | step h1 hx he ih =>
    obtain ⟨m, hm, h2, h3⟩ := mem_succ.1 hx
    exact ih.step (mem_succ.2 ⟨m, hs m hm, h2, h3⟩) he
theorem Reach.cut {ms ms' : List Mbr} {x : Mbr} (hs : ∀ m ∈ ms', m = x ∨ m ∈ ms) {s t : Txt} (h : Reach ms' s t) : Reach ms s t ∨ (Reach ms s (txt x.role) ∧ Reach ms (txt x.of) t) := by
  induction h with
  | refl => exact .inl (.refl _)
  | step h1 hx he ih =>
    obtain ⟨m, hm, h2, h3⟩ := mem_succ.1 hx
    rcases hs m hm with e | e
    · subst e
      subst h3
      subst h2
      subst he
      rcases ih with i | i
      · exact .inr ⟨i, .refl _⟩
      · exact .inr ⟨i.1, .refl _⟩
    · rcases ih with i | i
      · exact .inl (i.step (mem_succ.2 ⟨m, e, h2, h3⟩) he)
      · exact .inr ⟨i.1, i.2.step (mem_succ.2 ⟨m, e, h2, h3⟩) he⟩
theorem rises_nodup {l : List Mbr} (hr : risesB cmpM l = true) : (l.map fun m => (m.role, m.of)).Nodup := by
  rw [List.nodup_iff_pairwise_ne, List.pairwise_map, List.pairwise_iff_getElem]
  intro i j hi hj hij e
  have h1 := rises_lt cmpM_tr hr i j hi hj hij
  have : l[i] = l[j] := by
    generalize l[i] = a at *
    generalize l[j] = b at *
    obtain ⟨a1, a2⟩ := a
    obtain ⟨b1, b2⟩ := b
    simp only [Prod.mk.injEq] at e
    rw [e.1, e.2]
  rw [this, ordM.refl] at h1
  omega
theorem pairs_len {r : Rls} (hr : risesB cmpM r.members = true) (hn : r.names.length ≤ 16) (hi : ∀ m ∈ r.members, m.role ∈ r.names ∧ m.of ∈ r.names) : r.members.length ≤ 256 := by
  have h1 := nodup_le (l := r.members.map fun m => (m.role, m.of)) (l' := r.names.flatMap fun a => r.names.map fun b => (a, b)) (rises_nodup hr) (fun y hy => by
    obtain ⟨m, hm, rfl⟩ := List.mem_map.1 hy
    exact List.mem_flatMap.2 ⟨m.role, (hi m hm).1, List.mem_map.2 ⟨m.of, (hi m hm).2, rfl⟩⟩)
  have h2 : (r.names.flatMap fun a => r.names.map fun b => (a, b)).length = r.names.length * r.names.length := by
    have h3 : ∀ (l : List ByteArray) (n : Nat), (l.map fun _ => n).sum = l.length * n := fun l n => by
      induction l with
      | nil => simp
      | cons a l ih => simp [ih, Nat.succ_mul]; omega
    rw [List.length_flatMap]
    simp only [List.length_map]
    exact h3 _ _
  rw [List.length_map, h2] at h1
  exact Nat.le_trans h1 (Nat.mul_le_mul hn hn)
theorem rightR_parts {r : Rls} : rightR r = true ↔ r.names.length ≤ 16 ∧ r.members.length ≤ 256 ∧ risesB cmpS r.names = true ∧ risesB cmpM r.members = true ∧ (∀ s ∈ r.names, nameB s = true) ∧ ∀ m ∈ r.members, m.role ∈ r.names ∧ m.of ∈ r.names ∧ ¬ Reach r.members (txt m.of) (txt m.role) := by
  unfold rightR
  simp only [Bool.and_eq_true, decide_eq_true_eq, List.all_eq_true, mbrOk, inB_mem, Bool.not_eq_true', and_assoc]
  have e : ∀ a b, reachB r.members a b = false ↔ ¬ Reach r.members (txt a) (txt b) := fun a b => by rw [← reachB_iff]; simp
  simp only [e]
/-- who joins right roles with no way back makes right roles of them -/
theorem right_join {r : Rls} {x : Mbr} (h : rightR r = true) (h1 : inB r.names x.role = true) (h2 : inB r.names x.of = true) (h3 : thereB cmpM r.members x = false) (h4 : reachB r.members x.of x.role = false) : rightR { r with members := insAt r.members (posB cmpM r.members x) x } = true := by
  have hp := rightR_parts.1 h
  obtain ⟨p1, p2, p3, p4, p5, p6⟩ := hp
  have hnr : ¬ Reach r.members (txt x.of) (txt x.role) := by rw [← reachB_iff, h4]; simp
  have hm : ∀ m ∈ insAt r.members (posB cmpM r.members x) x, m = x ∨ m ∈ r.members := fun m hm => mem_insAt.1 hm
  have hris := rises_ins ordM p4 h3
  have hin : ∀ m ∈ insAt r.members (posB cmpM r.members x) x, m.role ∈ r.names ∧ m.of ∈ r.names := fun m hm' => by
    rcases hm m hm' with e | e
    · subst e; exact ⟨(inB_mem _ _).1 h1, (inB_mem _ _).1 h2⟩
    · exact ⟨(p6 m e).1, (p6 m e).2.1⟩
  refine rightR_parts.2 ⟨p1, pairs_len (r := { r with members := insAt r.members (posB cmpM r.members x) x }) hris p1 hin, p3, hris, p5, fun m hm' => ⟨(hin m hm').1, (hin m hm').2, fun hr => ?_⟩⟩
  have hc := Reach.cut hm hr
  rcases hm m hm' with e | e
  · subst e
    rcases hc with i | i
    · exact hnr i
    · exact hnr i.1
  · rcases hc with i | i
    · exact (p6 m e).2.2 i
    · have hstep : Reach r.members (txt m.role) (txt m.of) := (Reach.refl _).step (mem_succ.2 ⟨m, e, rfl, rfl⟩) rfl
      exact hnr ((i.2.trans hstep).trans i.1)
theorem join_is {r : Rls} {x : Mbr} (h : rightR r = true) (h1 : inB r.names x.role = true) (h2 : inB r.names x.of = true) (h3 : thereB cmpM r.members x = false) (h4 : reachB r.members x.of x.role = false) (other : ByteArray) :
    (isB r x.role other = true → isB { r with members := insAt r.members (posB cmpM r.members x) x } x.role other = true) ∧ (isB r x.of other = true → isB { r with members := insAt r.members (posB cmpM r.members x) x } x.role other = true) := by
  have hr := right_join h h1 h2 h3 h4
  have hs : ∀ m ∈ r.members, m ∈ insAt r.members (posB cmpM r.members x) x := fun m hm => mem_insAt.2 (.inr hm)
  refine ⟨fun hi => ?_, fun hi => ?_⟩
  · rw [isB_iff] at *
    exact ⟨hr, h1, hi.2.2.1.mono hs, hi.2.2.2⟩
  · rw [isB_iff] at *
    exact ⟨hr, h1, Reach.head (mem_succ.2 ⟨x, mem_insAt.2 (.inl rfl), rfl, rfl⟩) (hi.2.2.1.mono hs), hi.2.2.2⟩
theorem leave_join {r : Rls} {x : Mbr} (h : rightR r = true) (h3 : thereB cmpM r.members x = false) : leaveF x { r with members := insAt r.members (posB cmpM r.members x) x } = (r, 0) := by
  have hp := rightR_parts.1 h
  obtain ⟨t, p⟩ := ins_pos ordM hp.2.2.2.1 h3
  unfold leaveF
  simp only [t, p, if_true]
  rw [ins_erase _ _ _ (posB_le _ _ _)]
end Go.Proofs.Ytcdhljcpoopfaaa
/- The document's Drop and Add of roles. -/
namespace Go.Proofs.Ytcdhljcpoopfaaa
open Go.RowKit Go.Deep
set_option maxRecDepth 100000
set_option linter.unusedVariables false
theorem rno8 (x : Int) (w : World) : Calls Try.prog 62 #[.int .i64 x] w fun e w' => e = .returned (.tuple #[.agg #[.slice none 0 0, .slice none 0 0], .int .i64 x]) ∧ Aft w w' := by
  have l1 : w.heap.size < w.heap.size + 1 := by omega
  go_enter Try.func62, Try.ntmps62
  go_wp2_with fail
  have r0 := rowAt_new8 w [.slice none 0 0, .slice none 0 0] 25
  refine bodyPost_ret (results_cell_tmp (v := .agg #[.slice none 0 0, .slice none 0 0]) rfl _ rfl (lvRol_row r0)) rfl ?_
  exact ⟨rfl, (Aft.refl w).alloc _⟩
/-- behind the boxes of r and of the answer -/
def Box8 (w : World) (v0 v1 : Value) : World := (w.alloc (.cells #[v0, v1] 25)).alloc (.cells #[.slice none 0 0, .slice none 0 0] 25)
theorem Box8.aft (w : World) (v0 v1 : Value) : Aft w (Box8 w v0 v1) := ((Aft.refl w).alloc _).alloc _
theorem Box8.size (w : World) (v0 v1 : Value) : (Box8 w v0 v1).heap.size = w.heap.size + 2 := by unfold Box8; simp
theorem Box8.row (w : World) (v0 v1 : Value) : RowAt (Box8 w v0 v1) w.heap.size [v0, v1] := (rowAt_new8 w [v0, v1] 25).aft ((Aft.refl _).alloc _)
theorem Box8.res (w : World) (v0 v1 : Value) : RowAt (Box8 w v0 v1) (w.heap.size + 1) [.slice none 0 0, .slice none 0 0] := by
  have := rowAt_new8 (w.alloc (.cells #[v0, v1] 25)) [.slice none 0 0, .slice none 0 0] 25
  unfold Box8
  simpa using this
/-- what the walk reads behind them -/
theorem Box8.read {w w' : World} {v0 v1 : Value} (a : Aft (Box8 w v0 v1) w') : w'.cell? ⟨w.heap.size, 0, none⟩ = some v0 ∧ w'.cell? ⟨w.heap.size, 1, none⟩ = some v1 ∧ w.heap.size < w'.heap.size := by
  have r := (Box8.row w v0 v1).aft a
  exact ⟨r.cell (j := 0) rfl, r.cell (j := 1) rfl, r.1⟩
theorem Box8.out {w w' : World} {v0 v1 : Value} (a : Aft (Box8 w v0 v1) w') : w'.cell? ⟨w.heap.size + 1, 0, none⟩ = some (.slice none 0 0) ∧ w'.cell? ⟨w.heap.size + 1, 1, none⟩ = some (.slice none 0 0) ∧ w'.frozen? ⟨w.heap.size + 1, 0, none⟩ = false ∧ w'.frozen? ⟨w.heap.size + 1, 1, none⟩ = false ∧ w.heap.size + 1 < w'.heap.size := by
  have r := (Box8.res w v0 v1).aft a
  exact ⟨r.cell (j := 0) rfl, r.cell (j := 1) rfl, r.2.2 0 (by simp), r.2.2 1 (by simp), r.1⟩
theorem Box8.no {w w' : World} {v0 v1 : Value} (a : Aft (Box8 w v0 v1) w') (x : Int) : ChgP8 w (noR, x) (.returned (.tuple #[.agg #[.slice none 0 0, .slice none 0 0], .int .i64 x])) ((w'.setCell ⟨w.heap.size + 1, 0, none⟩ (.slice none 0 0)).setCell ⟨w.heap.size + 1, 1, none⟩ (.slice none 0 0)) :=
  ⟨⟨none, 0, 0⟩, ⟨none, 0, 0⟩, rfl, (((Box8.aft w v0 v1).trans a).setCell _ _ (by show w.heap.size ≤ w.heap.size + 1; omega)).setCell _ _ (by show w.heap.size ≤ w.heap.size + 1; omega), rolIn_no _ _⟩
/-- the box of what comes out, with the roles laid into it -/
def Out8 (w3 : World) (v0 v1 : Value) : World := w3.alloc (.cells #[v0, v1] 25)
theorem Out8.aft (w3 : World) (v0 v1 : Value) : Aft w3 (Out8 w3 v0 v1) := (Aft.refl w3).alloc _
theorem Out8.size (w3 : World) (v0 v1 : Value) : (Out8 w3 v0 v1).heap.size = w3.heap.size + 1 := by unfold Out8; simp
theorem Out8.row (w3 : World) (v0 v1 : Value) : RowAt (Out8 w3 v0 v1) w3.heap.size [v0, v1] := rowAt_new8 w3 [v0, v1] 25
/-- the end of the document's functions: a field of the roles in our own box is changed, they are loaded and stored into the answer -/
theorem end8 {w w2 w3 wr : World} {v0 v1 : Value} {r : Rls} {hn hm : Hd} (a2 : Aft (Box8 w v0 v1) w2) (a3 : Aft w2 w3) (rin : RolIn w3 w2.heap.size hn hm r) (ar : Aft (Out8 w3 hn.v hm.v) wr) :
    (∀ (h : Hd) (l : List ByteArray), wr.ownsRow (w3.heap.size + 1) 9 1 h.v l.length (l.flatMap nameC) →
      RowAt (wr.setCell ⟨w3.heap.size, 0, none⟩ h.v) w3.heap.size [h.v, hm.v] ∧ (∀ u, RowAt ((wr.setCell ⟨w3.heap.size, 0, none⟩ h.v).setCell ⟨w.heap.size + 1, 0, none⟩ u) (w.heap.size + 1) [u, .slice none 0 0]) ∧
      RowAt (((wr.setCell ⟨w3.heap.size, 0, none⟩ h.v).setCell ⟨w.heap.size + 1, 0, none⟩ h.v).setCell ⟨w.heap.size + 1, 1, none⟩ hm.v) (w.heap.size + 1) [h.v, hm.v] ∧
      ChgP8 w ({ r with names := l }, 0) (.returned (.tuple #[.agg #[h.v, hm.v], .int .i64 0])) (((wr.setCell ⟨w3.heap.size, 0, none⟩ h.v).setCell ⟨w.heap.size + 1, 0, none⟩ h.v).setCell ⟨w.heap.size + 1, 1, none⟩ hm.v)) ∧
    (∀ (h : Hd) (l : List Mbr), wr.ownsRow (w3.heap.size + 1) 61 2 h.v l.length (l.flatMap mbrC) →
      RowAt (wr.setCell ⟨w3.heap.size, 1, none⟩ h.v) w3.heap.size [hn.v, h.v] ∧ (∀ u, RowAt ((wr.setCell ⟨w3.heap.size, 1, none⟩ h.v).setCell ⟨w.heap.size + 1, 0, none⟩ u) (w.heap.size + 1) [u, .slice none 0 0]) ∧
      RowAt (((wr.setCell ⟨w3.heap.size, 1, none⟩ h.v).setCell ⟨w.heap.size + 1, 0, none⟩ hn.v).setCell ⟨w.heap.size + 1, 1, none⟩ h.v) (w.heap.size + 1) [hn.v, h.v] ∧
      ChgP8 w ({ r with members := l }, 0) (.returned (.tuple #[.agg #[hn.v, h.v], .int .i64 0])) (((wr.setCell ⟨w3.heap.size, 1, none⟩ h.v).setCell ⟨w.heap.size + 1, 0, none⟩ hn.v).setCell ⟨w.heap.size + 1, 1, none⟩ h.v)) := by
  have z2 := a2.size
  rw [Box8.size] at z2
  have z3 := a3.size
  have zr := ar.size
  rw [Out8.size] at zr
  have aw2 := (Box8.aft w v0 v1).trans a2
  have aw := (aw2.trans a3).trans ((Out8.aft w3 hn.v hm.v).trans ar)
  have rb := (Out8.row w3 hn.v hm.v).aft ar
  have rr := ((Box8.res w v0 v1).aft a2).aft (a3.trans ((Out8.aft w3 hn.v hm.v).trans ar))
  have rinr := (rin.aft (Out8.aft w3 hn.v hm.v)).aft ar
  have gn : ∀ g, hn.v.ownBlock = some g → w.heap.size + 2 ≤ g ∧ g < w3.heap.size := fun g hg => by have := rin.nam.lt g hg; omega
  have gm : ∀ g, hm.v.ownBlock = some g → w.heap.size + 2 ≤ g ∧ g < w3.heap.size := fun g hg => by have := rin.mem.lt g hg; omega
  refine ⟨fun h l ho => ?_, fun h l ho => ?_⟩
  · have gh : ∀ g, h.v.ownBlock = some g → w3.heap.size + 1 ≤ g := fun g hg => (ho.lt g hg).1
    have k1 := Kb.set wr w3.heap.size 0 h.v
    have k2 := Kb.set (wr.setCell ⟨w3.heap.size, 0, none⟩ h.v) (w.heap.size + 1) 0 h.v
    have k3 := Kb.set ((wr.setCell ⟨w3.heap.size, 0, none⟩ h.v).setCell ⟨w.heap.size + 1, 0, none⟩ h.v) (w.heap.size + 1) 1 hm.v
    refine ⟨rb.set 0 h.v (by simp), fun u => ?_, ?_, ⟨h, hm, rfl, ?_, ⟨?_, ?_, ?_⟩⟩⟩
    · exact (k1.row rr (by omega)).set 0 u (by simp)
    · exact setR_row (k1.row rr (by omega)) rfl _ _
    · exact k3.to_aft (k2.to_aft (k1.to_aft aw (fun g hg e => by omega)) (fun g hg e => by omega)) (fun g hg e => by omega)
    · refine own_down (B := w3.heap.size + 1) ?_ (by omega)
      exact own_kb (own_kb (own_kb ho k1 (fun g hg e => by have := gh g hg; have e : g = _ := e; omega)) k2 (fun g hg e => by have := gh g hg; have e : g = _ := e; omega)) k3 (fun g hg e => by have := gh g hg; have e : g = _ := e; omega)
    · refine own_down (B := w2.heap.size) ?_ (by omega)
      exact own_kb (own_kb (own_kb rinr.mem k1 (fun g hg e => by have := gm g hg; have e : g = _ := e; omega)) k2 (fun g hg e => by have := gm g hg; have e : g = _ := e; omega)) k3 (fun g hg e => by have := gm g hg; have e : g = _ := e; omega)
    · intro g hg hg'
      have := gh g (Hd.mem_blk.1 hg)
      have := gm g (Hd.mem_blk.1 hg')
      omega
  · have gh : ∀ g, h.v.ownBlock = some g → w3.heap.size + 1 ≤ g := fun g hg => (ho.lt g hg).1
    have k1 := Kb.set wr w3.heap.size 1 h.v
    have k2 := Kb.set (wr.setCell ⟨w3.heap.size, 1, none⟩ h.v) (w.heap.size + 1) 0 hn.v
    have k3 := Kb.set ((wr.setCell ⟨w3.heap.size, 1, none⟩ h.v).setCell ⟨w.heap.size + 1, 0, none⟩ hn.v) (w.heap.size + 1) 1 h.v
    refine ⟨rb.set 1 h.v (by simp), fun u => ?_, ?_, ⟨hn, h, rfl, ?_, ⟨?_, ?_, ?_⟩⟩⟩
    · exact (k1.row rr (by omega)).set 0 u (by simp)
    · exact setR_row (k1.row rr (by omega)) rfl _ _
    · exact k3.to_aft (k2.to_aft (k1.to_aft aw (fun g hg e => by omega)) (fun g hg e => by omega)) (fun g hg e => by omega)
    · refine own_down (B := w2.heap.size) ?_ (by omega)
      exact own_kb (own_kb (own_kb rinr.nam k1 (fun g hg e => by have := gn g hg; have e : g = _ := e; omega)) k2 (fun g hg e => by have := gn g hg; have e : g = _ := e; omega)) k3 (fun g hg e => by have := gn g hg; have e : g = _ := e; omega)
    · refine own_down (B := w3.heap.size + 1) ?_ (by omega)
      exact own_kb (own_kb (own_kb ho k1 (fun g hg e => by have := gh g hg; have e : g = _ := e; omega)) k2 (fun g hg e => by have := gh g hg; have e : g = _ := e; omega)) k3 (fun g hg e => by have := gh g hg; have e : g = _ := e; omega)
    · intro g hg hg'
      have := gn g (Hd.mem_blk.1 hg)
      have := gh g (Hd.mem_blk.1 hg')
      omega
end Go.Proofs.Ytcdhljcpoopfaaa
/- The document's Drop of roles. -/
namespace Go.Proofs.Ytcdhljcpoopfaaa
open Go.RowKit Go.Deep
set_option maxRecDepth 100000
set_option linter.unusedVariables false
/-- append of one text, of one member, onto a row of our own -/
theorem app_str {ops : Array Oper} {rest : List Oper} {o : Oper} {a : Act} {w : World} {Q : Exit → Act → World → Prop} (hgd : o.guard = none) (s x : Operand)
    (ho : o.op = .call { callee := .builtin .append, args := #[s, x], argTypes := #[22, 22] }) (base : Nat) (v : Value) (n : Nat) (xs : List Value) (hs : a.eval s = v) (hown : w.ownsRow base 9 1 v n xs)
    (b : Nat) (y : ByteArray) (hx : a.eval x = .slice (some ⟨b, 0, none⟩) 1 1) (hb : w.heap[b]? = some (.cells #[.string y] 9)) (hn : n ≤ 1000000) (hbase : base ≤ w.heap.size)
    (h : ∀ g cap w', w'.ownsRow base 9 1 (.slice (some ⟨g, 0, none⟩) (n + 1) cap) (n + 1) (xs ++ [.string y]) → w.grownBy w' v.ownBlock → (v.ownBlock = some g ∨ g = w.heap.size) → wpList Try.prog ops Q rest (a.put o.dst (.slice (some ⟨g, 0, none⟩) (n + 1) cap)) w') : wpList Try.prog ops Q (o :: rest) a w := by
  obtain ⟨i0, hi0, hz0, hz1, hz2⟩ := info_parts info2Str2
  exact wpList_append_lies w hgd s x 22 ho base 9 i0 _ 1 16 Try.underlying22 hi0 hz0 hz1 hz2 rfl (by decide) v n xs hs hown ⟨b, 0, none⟩ 1 1 [.string y] hx rfl (World.news_of_block (cs := #[.string y]) (t := 9) (fr := (0, 0)) hb) (by simp [Value.oneCell']) (by omega) (by unfold maxLen; omega) (by omega) hbase _ rfl fun g cap w' h1 h2 h3 _ => h g cap w' h1 h2 h3
theorem app_mbr {ops : Array Oper} {rest : List Oper} {o : Oper} {a : Act} {w : World} {Q : Exit → Act → World → Prop} (hgd : o.guard = none) (s x : Operand)
    (ho : o.op = .call { callee := .builtin .append, args := #[s, x], argTypes := #[23, 23] }) (base : Nat) (v : Value) (n : Nat) (xs : List Value) (hs : a.eval s = v) (hown : w.ownsRow base 61 2 v n xs)
    (b : Nat) (y : Mbr) (hx : a.eval x = .slice (some ⟨b, 0, none⟩) 1 1) (hb : w.heap[b]? = some (.cells #[.string y.role, .string y.of] 61)) (hn : n ≤ 1000000) (hbase : base ≤ w.heap.size)
    (h : ∀ g cap w', w'.ownsRow base 61 2 (.slice (some ⟨g, 0, none⟩) (n + 1) cap) (n + 1) (xs ++ mbrC y) → w.grownBy w' v.ownBlock → (v.ownBlock = some g ∨ g = w.heap.size) → wpList Try.prog ops Q rest (a.put o.dst (.slice (some ⟨g, 0, none⟩) (n + 1) cap)) w') : wpList Try.prog ops Q (o :: rest) a w := by
  obtain ⟨i0, hi0, hz0, hz1, hz2⟩ := info_parts info2Mem
  exact wpList_append_lies w hgd s x 23 ho base 61 i0 _ 2 32 Try.underlying23 hi0 hz0 hz1 hz2 rfl (by decide) v n xs hs hown ⟨b, 0, none⟩ 1 1 [.string y.role, .string y.of] hx rfl (World.news_of_block (cs := #[.string y.role, .string y.of]) (t := 61) (fr := (0, 0)) hb) (by simp [Value.oneCell']) (by omega) (by unfold maxLen; omega) (by omega) hbase _ rfl fun g cap w' h1 h2 h3 _ => h g cap w' h1 h2 h3
/-- a row that grows from a world on -/
def GrS (X wr : World) (h : Hd) (l : List ByteArray) : Prop := Aft X wr ∧ wr.ownsRow X.heap.size 9 1 h.v l.length (l.flatMap nameC)
theorem GrS.start (X : World) : GrS X X ⟨none, 0, 0⟩ [] := ⟨Aft.refl X, own_nil _ _ _ _⟩
theorem GrS.own {X wr : World} {h : Hd} {l : List ByteArray} (g : GrS X wr h l) : wr.ownsRow X.heap.size 9 1 (.slice h.a l.length h.c) l.length (l.flatMap nameC) := by
  have := g.2
  rw [own_slice this] at this
  exact this
theorem GrS.grow {X wr w5 : World} {h : Hd} {l : List ByteArray} {y : ByteArray} {o : Obj} {gg cap : Nat} (g : GrS X wr h l) (ho : w5.ownsRow X.heap.size 9 1 (.slice (some ⟨gg, 0, none⟩) (l.length + 1) cap) (l.length + 1) (l.flatMap nameC ++ [.string y])) (hg : (wr.alloc o).grownBy w5 (Value.slice h.a l.length h.c).ownBlock) :
    GrS X w5 ⟨some ⟨gg, 0, none⟩, l.length + 1, cap⟩ (l ++ [y]) :=
  ⟨aft_grown (g.own.alloc _) (g.1.alloc _) hg, by rw [List.length_append, List.flatMap_append]; exact ho⟩
def GrM (X wr : World) (h : Hd) (l : List Mbr) : Prop := Aft X wr ∧ wr.ownsRow X.heap.size 61 2 h.v l.length (l.flatMap mbrC)
theorem GrM.start (X : World) : GrM X X ⟨none, 0, 0⟩ [] := ⟨Aft.refl X, own_nil _ _ _ _⟩
theorem GrM.aft {X wr w' : World} {h : Hd} {l : List Mbr} (g : GrM X wr h l) (a : Aft wr w') : GrM X w' h l := ⟨g.1.trans a, own_aft g.2 a⟩
theorem GrM.own {X wr : World} {h : Hd} {l : List Mbr} (g : GrM X wr h l) : wr.ownsRow X.heap.size 61 2 (.slice h.a l.length h.c) l.length (l.flatMap mbrC) := by
  have := g.2
  rw [own_slice this] at this
  exact this
theorem GrM.grow {X wr w5 : World} {h : Hd} {l : List Mbr} {y : Mbr} {o : Obj} {gg cap : Nat} (g : GrM X wr h l) (ho : w5.ownsRow X.heap.size 61 2 (.slice (some ⟨gg, 0, none⟩) (l.length + 1) cap) (l.length + 1) (l.flatMap mbrC ++ mbrC y)) (hg : (wr.alloc o).grownBy w5 (Value.slice h.a l.length h.c).ownBlock) :
    GrM X w5 ⟨some ⟨gg, 0, none⟩, l.length + 1, cap⟩ (l ++ [y]) :=
  ⟨aft_grown (g.own.alloc _) (g.1.alloc _) hg, by rw [List.length_append, List.flatMap_append, List.flatMap_cons, List.flatMap_nil, List.append_nil]; exact ho⟩
set_option maxHeartbeats 8000000 in
theorem rdrop8 (r : Rls) (An : Option Addr) (capn : Nat) (Am : Option Addr) (capm : Nat) (name : ByteArray) (w : World) (hn : SlAt w 1 StrR An capn r.names) (hm : SlAt w 2 MbrR Am capm r.members) :
    Calls Try.prog 32 #[.agg #[.slice An r.names.length capn, .slice Am r.members.length capm], .string name] w (ChgP8 w (chgF r (dropF name r))) := by
  have hlen := hn.len
  have hlen2 := hm.len
  have l1 : w.heap.size < w.heap.size + 1 := by omega
  have l2 : w.heap.size < w.heap.size + 1 + 1 := by omega
  obtain ⟨W, hW⟩ : ∃ W, W = Box8 w (.slice An r.names.length capn) (.slice Am r.members.length capm) := ⟨_, rfl⟩
  have HW := Lib.hid hW
  have HNM := Lib.hid (And.intro hn hm)
  have HAW := Lib.hid (show Aft w W by rw [hW]; exact Box8.aft _ _ _)
  have KR := Lib.hid (show ∀ w', Aft W w' → _ from fun w' a => by rw [hW] at a; exact Box8.read a)
  have KO := Lib.hid (show ∀ w', Aft W w' → _ from fun w' a => by rw [hW] at a; exact Box8.out a)
  have KN := Lib.hid (show ∀ w', Aft W w' → ∀ x : Int, _ from fun w' a x => by rw [hW] at a; exact Box8.no a x)
  have KB := Lib.hid (show ∀ w', Aft W w' → RowAt w' (w.heap.size + 1) [.slice none 0 0, .slice none 0 0] from fun w' a => by rw [hW] at a; exact (Box8.res w _ _).aft a)
  obtain ⟨q, hq⟩ : ∃ q, rightR r = q := ⟨_, rfl⟩
  obtain ⟨i, hi⟩ : ∃ i, inB r.names name = i := ⟨_, rfl⟩
  obtain ⟨p, hp⟩ : ∃ p, posB cmpS r.names name = p := ⟨_, rfl⟩
  have C1 := Lib.hid (show ∀ w', Aft w w' → _ from fun w' a => hq ▸ rright8 r An capn Am capm w' (strs_aft a hn) (mbrs_aft a hm))
  have C2 := Lib.hid (show ∀ w', Aft w w' → Calls Try.prog 50 #[.slice An r.names.length capn, .string name] w' fun e w'' => e = .returned (.bool i) ∧ w' = w'' from fun w' a => hi ▸ rin_any An capn r.names name w' (strs_aft a hn))
  have HB := Lib.hid (show q = true → r.names.length ≤ 16 ∧ r.members.length ≤ 256 ∧ i = thereB cmpS r.names name ∧ (i = true → ∀ t (ht : t < r.names.length), r.names[t] = name ↔ t = p) from fun h => by
    have hr := rightR_parts.1 (hq.trans h)
    have e : i = thereB cmpS r.names name := by rw [← hi]; exact inB_there hr.2.2.1 name
    exact ⟨hr.1, hr.2.1, e, fun hit t ht => by rw [← hp]; exact there_only ordS hr.2.2.1 (e.symm.trans hit) t ht⟩)
  have HF := Lib.hid (show chgF r (dropF name r) = if q then (if thereB cmpS r.names name then (if r.members.any (usedM name) then (noR, 73) else ({ r with names := r.names.eraseIdx p }, 0)) else (noR, 71)) else (noR, 1) from by
    unfold chgF dropF
    rw [hq, hp]
    cases q <;> cases thereB cmpS r.names name <;> cases r.members.any (usedM name) <;> first | rfl | simp)
  clear hq hi hn hm hp
  go_enter Try.func32, Try.ntmps32
  go_wp2_with fail
  rw [show ((w.alloc (.cells #[.slice An r.names.length capn, .slice Am r.members.length capm] 25)).alloc (.cells #[.slice none 0 0, .slice none 0 0] 25)) = W from hW.symm]
  clear hW
  refine (C1.out _ HAW.out).mono ?_
  rintro e w1 ⟨rfl, a1⟩
  obtain ⟨x0, x1, xz⟩ := KR.out w1 a1
  have HA1 := Lib.hid a1
  clear a1
  cases q
  · go_wp2_with fail
    refine (rno8 _ _).mono ?_
    rintro e w2 ⟨rfl, a2⟩
    obtain ⟨y0, y1, y2, y3, yz⟩ := KO.out w2 (HA1.out.trans a2)
    have HP := Lib.hid (KN.out w2 (HA1.out.trans a2) 1)
    have HRW := Lib.hid (KB.out w2 (HA1.out.trans a2))
    clear a2
    go_wp2_with fail
    refine bodyPost_ret (results_cell_tmp (v := .agg #[.slice none 0 0, .slice none 0 0]) rfl _ rfl (lvRol_row (setR_row HRW.out rfl _ _))) rfl ?_
    rw [HF.out]
    exact HP.out
  go_wp2_with fail
  refine (C2.out w1 (HAW.out.trans HA1.out)).mono ?_
  rintro e w2 ⟨rfl, rfl⟩
  obtain ⟨hb1, hb2, hb3, hb4⟩ := HB.out (by first | trivial | rfl)
  have HT := Lib.hid hb4
  have HI := Lib.hid hb3
  clear hb3 hb4
  cases i
  · go_wp2_with fail
    refine (rno8 _ _).mono ?_
    rintro e w2 ⟨rfl, a2⟩
    obtain ⟨y0, y1, y2, y3, yz⟩ := KO.out w2 (HA1.out.trans a2)
    have HP := Lib.hid (KN.out w2 (HA1.out.trans a2) 71)
    have HRW := Lib.hid (KB.out w2 (HA1.out.trans a2))
    clear a2
    go_wp2_with fail
    refine bodyPost_ret (results_cell_tmp (v := .agg #[.slice none 0 0, .slice none 0 0]) rfl _ rfl (lvRol_row (setR_row HRW.out rfl _ _))) rfl ?_
    rw [HF.out, ← HI.out]
    exact HP.out
  go_wp2_with fail
  go_loopw [6] (fun u6 wr => ∃ k : Nat, u6 = .int .i64 k ∧ k ≤ r.members.length ∧ w1 = wr ∧ ∀ j, j < k → ∀ (hj : j < r.members.length), usedM name r.members[j] = false) (fun u6 _ => r.members.length - (intOf u6).toNat)
  case atStart => exact ⟨0, rfl, Nat.zero_le _, rfl, fun j hj => absurd hj (Nat.not_lt_zero j)⟩
  case round =>
    obtain ⟨k, rfl, hk, rfl, hno⟩ := hrel
    have HNO := Lib.hid hno
    clear hno
    by_cases hlt : k < r.members.length
    · obtain ⟨b, off, rfl, hb, c0, c1, _, _⟩ := mbr_at (mbrs_aft (HAW.out.trans HA1.out) HNM.out.2) hlt
      obtain ⟨m, hm⟩ : ∃ m, r.members[k] = m := ⟨_, rfl⟩
      rw [hm] at c0 c1
      have HM := Lib.hid hm
      clear hm
      cases e1 : eqS m.role name
      · cases e2 : eqS m.of name
        · have HU := Lib.hid (show usedM name m = false by unfold usedM; rw [e1, e2]; rfl)
          have h1 : (m.role.toList == name.toList) = false := e1
          have h2 : (m.of.toList == name.toList) = false := e2
          clear e1 e2
          go_wp2_with fail
          go_roundw
          case rel => exact ⟨k + 1, by go_num, by omega, by first | trivial | rfl, ext_lt (p := fun j => ∀ (hj : j < r.members.length), usedM name r.members[j] = false) HNO.out (fun _ => by rw [HM.out]; exact HU.out)⟩
          case measure => simp [intOf]; omega
        · have HU := Lib.hid (show r.members.any (usedM name) = true from List.any_eq_true.2 ⟨m, by rw [← HM.out]; exact List.getElem_mem hlt, by unfold usedM; rw [e1, e2]; rfl⟩)
          have h1 : (m.role.toList == name.toList) = false := e1
          have h2 : (m.of.toList == name.toList) = true := e2
          clear e1 e2
          go_wp2_with fail
          refine (rno8 _ _).mono ?_
          rintro e w2 ⟨rfl, a2⟩
          obtain ⟨y0, y1, y2, y3, yz⟩ := KO.out w2 (HA1.out.trans a2)
          have HP := Lib.hid (KN.out w2 (HA1.out.trans a2) 73)
          have HRW := Lib.hid (KB.out w2 (HA1.out.trans a2))
          clear a2
          go_wp2_with fail
          refine bodyPost_ret (results_cell_tmp (v := .agg #[.slice none 0 0, .slice none 0 0]) rfl _ rfl (lvRol_row (setR_row HRW.out rfl _ _))) rfl ?_
          rw [HF.out, ← HI.out, HU.out]
          exact HP.out
      · have HU := Lib.hid (show r.members.any (usedM name) = true from List.any_eq_true.2 ⟨m, by rw [← HM.out]; exact List.getElem_mem hlt, by unfold usedM; rw [e1]; rfl⟩)
        have h1 : (m.role.toList == name.toList) = true := e1
        clear e1
        go_wp2_with fail
        refine (rno8 _ _).mono ?_
        rintro e w2 ⟨rfl, a2⟩
        obtain ⟨y0, y1, y2, y3, yz⟩ := KO.out w2 (HA1.out.trans a2)
        have HP := Lib.hid (KN.out w2 (HA1.out.trans a2) 73)
        have HRW := Lib.hid (KB.out w2 (HA1.out.trans a2))
        clear a2
        go_wp2_with fail
        refine bodyPost_ret (results_cell_tmp (v := .agg #[.slice none 0 0, .slice none 0 0]) rfl _ rfl (lvRol_row (setR_row HRW.out rfl _ _))) rfl ?_
        rw [HF.out, ← HI.out, HU.out]
        exact HP.out
    · have HU := Lib.hid (show r.members.any (usedM name) = false from anyP_false _ _ fun i hi => HNO.out i (by omega) hi)
      have CO := Lib.hid (own8 r An capn Am capm w1 (strs_aft (HAW.out.trans HA1.out) HNM.out.1) (mbrs_aft (HAW.out.trans HA1.out) HNM.out.2) (by omega) (by omega))
      clear HNO
      go_wp2_with fail
      refine CO.out.mono ?_
      rintro e w3 ⟨hon, hom, rfl, a3, rin⟩
      obtain ⟨X, hX⟩ : ∃ X, X = Out8 w3 (.slice hon.a r.names.length hon.c) (.slice hom.a r.members.length hom.c) := ⟨_, rfl⟩
      have HAX := Lib.hid (show Aft W X by rw [hX]; exact (HA1.out.trans a3).trans (Out8.aft _ _ _))
      have zX : X.heap.size = w3.heap.size + 1 := by rw [hX]; exact Out8.size _ _ _
      have hvn := rin.vn
      have hvm := rin.vm
      have KE := Lib.hid (show ∀ (wr : World), Aft X wr → _ from fun wr ar => (by
        have a1 := HA1.out
        rw [HW.out] at a1
        rw [hX, ← hvn, ← hvm] at ar
        exact (end8 a1 a3 rin ar).1))
      have KX := Lib.hid (show ∀ w', Aft X w' → (w'.cell? ⟨w3.heap.size, 0, none⟩ = some (.slice hon.a r.names.length hon.c) ∧ w'.cell? ⟨w3.heap.size, 1, none⟩ = some (.slice hom.a r.members.length hom.c) ∧ w'.frozen? ⟨w3.heap.size, 0, none⟩ = false ∧ w3.heap.size < w'.heap.size) from fun w' a => by
        rw [hX] at a
        have := (Out8.row w3 _ _).aft a
        exact ⟨this.cell (j := 0) rfl, this.cell (j := 1) rfl, this.2.2 0 (by simp), this.1⟩)
      rw [hvn, hvm]
      have HVM := Lib.hid hvm
      have HZ := Lib.hid (show w.heap.size + 1 < w3.heap.size from Nat.lt_of_lt_of_le (KO.out w1 HA1.out).2.2.2.2 a3.size)
      clear hvn hvm rin a3
      unfold Out8 at hX
      go_wp2_with fail
      rw [← hX]
      clear hX
      go_loopw [8, 9] (fun u8 u9 wr => ∃ (k : Nat) (h : Hd), u8 = .slice h.a (delK r.names p k).length h.c ∧ u9 = .int .i64 k ∧ k ≤ r.names.length ∧ GrS X wr h (delK r.names p k)) (fun _ u9 _ => r.names.length - (intOf u9).toNat)
      case atStart => exact ⟨0, ⟨none, 0, 0⟩, by rw [delK_zero]; rfl, rfl, Nat.zero_le _, by rw [delK_zero]; exact GrS.start X⟩
      case round =>
        obtain ⟨k2, h, rfl, rfl, hk2, hg⟩ := hrel
        have HG := Lib.hid hg
        obtain ⟨x0, x1, xz⟩ := KR.out wr (HAX.out.trans hg.1)
        have hdl := delK_len r.names p k2
        clear hg
        by_cases hlt2 : k2 < r.names.length
        · obtain ⟨b, off, rfl, hb, c0, hs⟩ := str_at (strs_aft (HAW.out.trans (HAX.out.trans HG.out.1)) HNM.out.1) hlt2
          obtain ⟨x, hx⟩ : ∃ x, r.names[k2] = x := ⟨_, rfl⟩
          rw [hx] at c0 hs
          have HX2 := Lib.hid (show x = name ↔ k2 = p from by rw [← hx]; exact HT.out (by first | trivial | rfl) k2 hlt2)
          have HX3 := Lib.hid hx
          clear hx
          cases e1 : eqS x name
          · have HN := Lib.hid (show delK r.names p (k2 + 1) = delK r.names p k2 ++ [x] from by rw [delK_ne _ _ _ hlt2 (fun e => by rw [(eqS_iff _ _).2 (HX2.out.2 e)] at e1; cases e1), HX3.out])
            have h1 : (x.toList == name.toList) = false := e1
            have l6 : b < wr.heap.size + 1 := by omega
            have l7 : w.heap.size < wr.heap.size + 1 := by omega
            clear e1
            obtain ⟨lk, hlk⟩ : ∃ lk, delK r.names p k2 = lk := ⟨_, rfl⟩
            rw [hlk] at HG HN hdl ⊢
            have hq8 : lk.length ≤ 1000000 := by omega
            go_wp2_with (at_builtin; go_must (refine app_str rfl _ _ rfl X.heap.size (.slice h.a lk.length h.c) lk.length (lk.flatMap nameC) rfl (HG.out.own.alloc _) wr.heap.size x rfl (heap_alloc_new wr _) hq8 ?qb ?_); rotate_left; intro gg cap' w5 hown5 hgrow hat; have HG5 := Lib.hid (HG.out.grow hown5 hgrow); clear hown5 hgrow hat)
            case qb => have := HG.out.1.size; simp; omega
            go_roundw
            case rel => exact ⟨k2 + 1, ⟨some ⟨gg, 0, none⟩, lk.length + 1, cap'⟩, by rw [HN.out]; simp, by go_num, by omega, by rw [HN.out]; exact HG5.out⟩
            case measure => simp [intOf]; omega
          · have HN := Lib.hid (show delK r.names p (k2 + 1) = delK r.names p k2 from by
              have := HX2.out.1 ((eqS_iff _ _).1 e1)
              subst this
              exact delK_at _ _ hlt2)
            have h1 : (x.toList == name.toList) = true := e1
            clear e1
            go_wp2_with fail
            go_roundw
            case rel => exact ⟨k2 + 1, h, by rw [HN.out], by go_num, by omega, by rw [HN.out]; exact HG.out⟩
            case measure => simp [intOf]; omega
        · have hk3 : k2 = r.names.length := by omega
          subst hk3
          rw [delK_end] at HG ⊢
          obtain ⟨A5, n5, c5⟩ := h
          have ho := HG.out.2
          rw [zX] at ho
          have hv5 := own_slice HG.out.2
          obtain ⟨e1, e2, e3, e4⟩ := KE.out wr HG.out.1 ⟨A5, n5, c5⟩ (r.names.eraseIdx p) ho
          rw [hv5] at e1 e2 e3 e4
          obtain ⟨y0, y1, y2, yz⟩ := KX.out wr HG.out.1
          rw [HVM.out] at e1 e3 e4
          have q0 := e1.cell (j := 0) rfl
          have q1 := e1.cell (j := 1) rfl
          have HE := Lib.hid (And.intro e1 (And.intro e2 (And.intro e3 e4)))
          obtain ⟨s0, s1, s2, s3, sz⟩ := KO.out wr (HAX.out.trans HG.out.1)
          have hne1 : ¬ w3.heap.size = w.heap.size + 1 := by have := HZ.out; omega
          have hne2 : ¬ w.heap.size + 1 = w3.heap.size := by omega
          clear e1 e2 e3 e4 ho hv5
          go_wp2_with fail
          refine bodyPost_ret (results_cell_tmp (v := .agg #[.slice A5 (r.names.eraseIdx p).length c5, .slice hom.a r.members.length hom.c]) rfl _ rfl (lvRol_row HE.out.2.2.1)) rfl ?_
          rw [HF.out, ← HI.out, HU.out]
          exact HE.out.2.2.2
end Go.Proofs.Ytcdhljcpoopfaaa
/- The document's Add of roles. -/
namespace Go.Proofs.Ytcdhljcpoopfaaa
open Go.RowKit Go.Deep
set_option maxRecDepth 100000
set_option linter.unusedVariables false
set_option maxHeartbeats 8000000 in
theorem radd8 (r : Rls) (An : Option Addr) (capn : Nat) (Am : Option Addr) (capm : Nat) (name : ByteArray) (w : World) (hn : SlAt w 1 StrR An capn r.names) (hm : SlAt w 2 MbrR Am capm r.members) (hns : Small name.size) :
    Calls Try.prog 30 #[.agg #[.slice An r.names.length capn, .slice Am r.members.length capm], .string name] w (ChgP8 w (chgF r (addF name r))) := by
  have hlen := hn.len
  have hlen2 := hm.len
  have l1 : w.heap.size < w.heap.size + 1 := by omega
  have l2 : w.heap.size < w.heap.size + 1 + 1 := by omega
  obtain ⟨W, hW⟩ : ∃ W, W = Box8 w (.slice An r.names.length capn) (.slice Am r.members.length capm) := ⟨_, rfl⟩
  have HW := Lib.hid hW
  have HNM := Lib.hid (And.intro hn hm)
  have HAW := Lib.hid (show Aft w W by rw [hW]; exact Box8.aft _ _ _)
  have KR := Lib.hid (show ∀ w', Aft W w' → _ from fun w' a => by rw [hW] at a; exact Box8.read a)
  have KO := Lib.hid (show ∀ w', Aft W w' → _ from fun w' a => by rw [hW] at a; exact Box8.out a)
  have KN := Lib.hid (show ∀ w', Aft W w' → ∀ x : Int, _ from fun w' a x => by rw [hW] at a; exact Box8.no a x)
  have KB := Lib.hid (show ∀ w', Aft W w' → RowAt w' (w.heap.size + 1) [.slice none 0 0, .slice none 0 0] from fun w' a => by rw [hW] at a; exact (Box8.res w _ _).aft a)
  obtain ⟨q, hq⟩ : ∃ q, rightR r = q := ⟨_, rfl⟩
  obtain ⟨i, hi⟩ : ∃ i, inB r.names name = i := ⟨_, rfl⟩
  obtain ⟨u, hu⟩ : ∃ u, nameB name = u := ⟨_, rfl⟩
  obtain ⟨p, hp⟩ : ∃ p, posB cmpS r.names name = p := ⟨_, rfl⟩
  have hpl : p ≤ r.names.length := by rw [← hp]; exact posB_le _ _ _
  have C1 := Lib.hid (show ∀ w', Aft w w' → _ from fun w' a => hq ▸ rright8 r An capn Am capm w' (strs_aft a hn) (mbrs_aft a hm))
  have C2 := Lib.hid (show ∀ w', Aft w w' → Calls Try.prog 50 #[.slice An r.names.length capn, .string name] w' fun e w'' => e = .returned (.bool i) ∧ w' = w'' from fun w' a => hi ▸ rin_any An capn r.names name w' (strs_aft a hn))
  have C3 := Lib.hid (show ∀ w', _ from fun w' => hu ▸ rname_any name w' hns.max)
  have HB := Lib.hid (show q = true → r.names.length ≤ 16 ∧ r.members.length ≤ 256 ∧ i = thereB cmpS r.names name ∧ (i = false → ∀ t (ht : t < r.names.length), decide (cmpS name r.names[t] < 0) = decide (p ≤ t)) from fun h => by
    have hr := rightR_parts.1 (hq.trans h)
    have e : i = thereB cmpS r.names name := by rw [← hi]; exact inB_there hr.2.2.1 name
    exact ⟨hr.1, hr.2.1, e, fun hit t ht => by rw [← hp]; exact new_less ordS hr.2.2.1 (e.symm.trans hit) t ht⟩)
  have HF := Lib.hid (show chgF r (addF name r) = if q then (if u then (if thereB cmpS r.names name then (noR, 70) else if 16 ≤ r.names.length then (noR, 2) else ({ r with names := insAt r.names p name }, 0)) else (noR, 1)) else (noR, 1) from by
    unfold chgF addF
    rw [hq, hp, hu]
    by_cases h16 : 16 ≤ r.names.length
    · rw [if_pos h16, if_pos h16]
      cases q <;> cases u <;> cases thereB cmpS r.names name <;> first | rfl | simp
    · rw [if_neg h16, if_neg h16]
      cases q <;> cases u <;> cases thereB cmpS r.names name <;> first | rfl | simp)
  clear hq hi hn hm hp hu
  go_enter Try.func30, Try.ntmps30
  go_wp2_with fail
  rw [show ((w.alloc (.cells #[.slice An r.names.length capn, .slice Am r.members.length capm] 25)).alloc (.cells #[.slice none 0 0, .slice none 0 0] 25)) = W from hW.symm]
  clear hW
  refine (C1.out _ HAW.out).mono ?_
  rintro e w1 ⟨rfl, a1⟩
  obtain ⟨x0, x1, xz⟩ := KR.out w1 a1
  have HA1 := Lib.hid a1
  clear a1
  cases q
  · go_wp2_with fail
    refine (rno8 _ _).mono ?_
    rintro e w2 ⟨rfl, a2⟩
    obtain ⟨y0, y1, y2, y3, yz⟩ := KO.out w2 (HA1.out.trans a2)
    have HP := Lib.hid (KN.out w2 (HA1.out.trans a2) 1)
    have HRW := Lib.hid (KB.out w2 (HA1.out.trans a2))
    clear a2
    go_wp2_with fail
    refine bodyPost_ret (results_cell_tmp (v := .agg #[.slice none 0 0, .slice none 0 0]) rfl _ rfl (lvRol_row (setR_row HRW.out rfl _ _))) rfl ?_
    rw [HF.out]
    exact HP.out
  go_wp2_with fail
  refine (C3.out w1).mono ?_
  rintro e w2 ⟨rfl, rfl⟩
  cases u
  · go_wp2_with fail
    refine (rno8 _ _).mono ?_
    rintro e w2 ⟨rfl, a2⟩
    obtain ⟨y0, y1, y2, y3, yz⟩ := KO.out w2 (HA1.out.trans a2)
    have HP := Lib.hid (KN.out w2 (HA1.out.trans a2) 1)
    have HRW := Lib.hid (KB.out w2 (HA1.out.trans a2))
    clear a2
    go_wp2_with fail
    refine bodyPost_ret (results_cell_tmp (v := .agg #[.slice none 0 0, .slice none 0 0]) rfl _ rfl (lvRol_row (setR_row HRW.out rfl _ _))) rfl ?_
    rw [HF.out]
    exact HP.out
  go_wp2_with fail
  refine (C2.out w1 (HAW.out.trans HA1.out)).mono ?_
  rintro e w2 ⟨rfl, rfl⟩
  obtain ⟨hb1, hb2, hb3, hb4⟩ := HB.out (by first | trivial | rfl)
  have HT := Lib.hid hb4
  have HI := Lib.hid hb3
  clear hb3 hb4
  cases i
  case true =>
    go_wp2_with fail
    refine (rno8 _ _).mono ?_
    rintro e w2 ⟨rfl, a2⟩
    obtain ⟨y0, y1, y2, y3, yz⟩ := KO.out w2 (HA1.out.trans a2)
    have HP := Lib.hid (KN.out w2 (HA1.out.trans a2) 70)
    have HRW := Lib.hid (KB.out w2 (HA1.out.trans a2))
    clear a2
    go_wp2_with fail
    refine bodyPost_ret (results_cell_tmp (v := .agg #[.slice none 0 0, .slice none 0 0]) rfl _ rfl (lvRol_row (setR_row HRW.out rfl _ _))) rfl ?_
    rw [HF.out, ← HI.out]
    exact HP.out
  by_cases h16 : 16 ≤ r.names.length
  · have hd : (16 : Int) ≤ (r.names.length : Int) := by omega
    have H16 := Lib.hid h16
    clear h16
    go_wp2_with fail
    refine (rno8 _ _).mono ?_
    rintro e w2 ⟨rfl, a2⟩
    obtain ⟨y0, y1, y2, y3, yz⟩ := KO.out w2 (HA1.out.trans a2)
    have HP := Lib.hid (KN.out w2 (HA1.out.trans a2) 2)
    have HRW := Lib.hid (KB.out w2 (HA1.out.trans a2))
    clear a2
    go_wp2_with fail
    refine bodyPost_ret (results_cell_tmp (v := .agg #[.slice none 0 0, .slice none 0 0]) rfl _ rfl (lvRol_row (setR_row HRW.out rfl _ _))) rfl ?_
    rw [HF.out, ← HI.out]
    simp only [if_true, Bool.false_eq_true, if_false, if_pos H16.out]
    exact HP.out
  have hd : ¬ (16 : Int) ≤ (r.names.length : Int) := by omega
  have H16 := Lib.hid h16
  clear h16
  have CO := Lib.hid (own8 r An capn Am capm w1 (strs_aft (HAW.out.trans HA1.out) HNM.out.1) (mbrs_aft (HAW.out.trans HA1.out) HNM.out.2) (by omega) (by omega))
  go_wp2_with fail
  refine CO.out.mono ?_
  rintro e w3 ⟨hon, hom, rfl, a3, rin⟩
  obtain ⟨X, hX⟩ : ∃ X, X = Out8 w3 (.slice hon.a r.names.length hon.c) (.slice hom.a r.members.length hom.c) := ⟨_, rfl⟩
  have HAX := Lib.hid (show Aft W X by rw [hX]; exact (HA1.out.trans a3).trans (Out8.aft _ _ _))
  have zX : X.heap.size = w3.heap.size + 1 := by rw [hX]; exact Out8.size _ _ _
  have hvn := rin.vn
  have hvm := rin.vm
  have KE := Lib.hid (show ∀ (wr : World), Aft X wr → _ from fun wr ar => (by
    have a1 := HA1.out
    rw [HW.out] at a1
    rw [hX, ← hvn, ← hvm] at ar
    exact (end8 a1 a3 rin ar).1))
  have KX := Lib.hid (show ∀ w', Aft X w' → (w'.cell? ⟨w3.heap.size, 0, none⟩ = some (.slice hon.a r.names.length hon.c) ∧ w'.cell? ⟨w3.heap.size, 1, none⟩ = some (.slice hom.a r.members.length hom.c) ∧ w'.frozen? ⟨w3.heap.size, 0, none⟩ = false ∧ w3.heap.size < w'.heap.size) from fun w' a => by
    rw [hX] at a
    have := (Out8.row w3 _ _).aft a
    exact ⟨this.cell (j := 0) rfl, this.cell (j := 1) rfl, this.2.2 0 (by simp), this.1⟩)
  rw [hvn, hvm]
  have HVM := Lib.hid hvm
  have HZ := Lib.hid (show w.heap.size + 1 < w3.heap.size from Nat.lt_of_lt_of_le (KO.out w1 HA1.out).2.2.2.2 a3.size)
  clear hvn hvm rin a3
  unfold Out8 at hX
  go_wp2_with fail
  rw [← hX]
  clear hX
  go_loopw [7, 8, 9] (fun u7 u8 u9 wr => ∃ (k : Nat) (h : Hd), u7 = .slice h.a (insK r.names p name k).length h.c ∧ u8 = .bool (decide (p < k)) ∧ u9 = .int .i64 k ∧ k ≤ r.names.length ∧ GrS X wr h (insK r.names p name k)) (fun _ _ u9 _ => r.names.length - (intOf u9).toNat)
  case atStart => exact ⟨0, ⟨none, 0, 0⟩, by rw [insK_zero]; rfl, by rw [decide_eq_false (Nat.not_lt_zero p)], rfl, Nat.zero_le _, by rw [insK_zero]; exact GrS.start X⟩
  case round =>
    obtain ⟨k2, h, rfl, rfl, rfl, hk2, hg⟩ := hrel
    have HG := Lib.hid hg
    obtain ⟨x0, x1, xz⟩ := KR.out wr (HAX.out.trans hg.1)
    have hdl := insK_len r.names p name k2 hk2
    clear hg
    by_cases hlt2 : k2 < r.names.length
    · obtain ⟨b, off, rfl, hb, c0, hs⟩ := str_at (strs_aft (HAW.out.trans (HAX.out.trans HG.out.1)) HNM.out.1) hlt2
      have K2 := Lib.hid (show ∀ w', Aft X w' → (w'.cell? ⟨w.heap.size, 0, none⟩ = some (.slice (some ⟨b, off, none⟩) r.names.length capn) ∧ w'.cell? ⟨b, off + k2, none⟩ = some (.string r.names[k2]) ∧ w.heap.size < w'.heap.size ∧ b < w'.heap.size ∧ b < w'.heap.size + 1 ∧ w.heap.size < w'.heap.size + 1) from fun w' a => by
        obtain ⟨x0, x1, xz⟩ := KR.out w' (HAX.out.trans a)
        obtain ⟨b', off', e, hb', c0', _⟩ := str_at (strs_aft (HAW.out.trans (HAX.out.trans a)) HNM.out.1) hlt2
        cases e
        exact ⟨x0, c0', xz, hb', by omega, by omega⟩)
      obtain ⟨x, hx⟩ : ∃ x, r.names[k2] = x := ⟨_, rfl⟩
      rw [hx] at c0 hs K2
      have HX2 := Lib.hid (show ltS name x = decide (p ≤ k2) from by rw [← hx, ← cmpS_lt]; exact HT.out (by first | trivial | rfl) k2 hlt2)
      have HX3 := Lib.hid hx
      have l6 : b < wr.heap.size + 1 := by omega
      have l7 : w.heap.size < wr.heap.size + 1 := by omega
      clear hx
      rcases Nat.lt_trichotomy k2 p with hc | hc | hc
      · have hp1 : decide (p < k2) = false := decide_eq_false (by omega)
        have h2 : ltS name x = false := HX2.out.trans (decide_eq_false (by omega))
        have h1 : Op.bytesLess name.toList x.toList = false := h2
        have HD := Lib.hid (show decide (p < k2 + 1) = false from decide_eq_false (by omega))
        have HN := Lib.hid (show insK r.names p name (k2 + 1) = insK r.names p name k2 ++ [x] from by rw [insK_lt _ _ _ _ hlt2 hc, HX3.out])
        obtain ⟨lk, hlk⟩ : ∃ lk, insK r.names p name k2 = lk := ⟨_, rfl⟩
        rw [hlk] at HG HN hdl ⊢
        rw [hp1]
        have hq8 : lk.length ≤ 1000000 := by omega
        clear h2 hp1 hc hlk
        go_wp2_with (at_builtin; go_must (refine app_str rfl _ _ rfl X.heap.size (.slice h.a lk.length h.c) lk.length (lk.flatMap nameC) rfl (HG.out.own.alloc _) wr.heap.size x rfl (heap_alloc_new wr _) hq8 ?qa ?_); rotate_left; intro gg cap' w5 hown5 hgrow hat; have HG5 := Lib.hid (HG.out.grow hown5 hgrow); clear hown5 hgrow hat)
        case qa => have := HG.out.1.size; simp; omega
        go_roundw
        case rel => exact ⟨k2 + 1, ⟨some ⟨gg, 0, none⟩, lk.length + 1, cap'⟩, by rw [HN.out]; simp, by rw [HD.out], by go_num, by omega, by rw [HN.out]; exact HG5.out⟩
        case measure => simp [intOf]; omega
      · subst hc
        have hp1 : decide (k2 < k2) = false := decide_eq_false (by omega)
        have h2 : ltS name x = true := HX2.out.trans (decide_eq_true (Nat.le_refl _))
        have h1 : Op.bytesLess name.toList x.toList = true := h2
        have HD := Lib.hid (show decide (k2 < k2 + 1) = true from decide_eq_true (by omega))
        have HN := Lib.hid (show insK r.names k2 name (k2 + 1) = insK r.names k2 name k2 ++ [name] ++ [x] from by rw [insK_at _ _ _ hlt2, HX3.out])
        obtain ⟨lk, hlk⟩ : ∃ lk, insK r.names k2 name k2 = lk := ⟨_, rfl⟩
        rw [hlk] at HG HN hdl ⊢
        rw [hp1]
        have hq8 : lk.length ≤ 1000000 := by omega
        have hq9 : (lk ++ [name]).length ≤ 1000000 := by simp; omega
        clear h2 hp1 hlk
        go_wp2_with (first
          | (at_builtin; (refine app_str rfl _ _ rfl X.heap.size (.slice h.a lk.length h.c) lk.length (lk.flatMap nameC) rfl (HG.out.own.alloc _) wr.heap.size name rfl (heap_alloc_new wr _) hq8 ?qb ?_); rotate_left; intro gg cap' w5 hown5 hgrow hat; have HG5 := Lib.hid (HG.out.grow hown5 hgrow); obtain ⟨z0, z1, z2, z3, z4, z5⟩ := K2.out w5 HG5.out.1; clear hown5 hgrow hat)
          | (at_builtin; go_must (refine app_str rfl _ _ rfl X.heap.size (.slice (some ⟨gg, 0, none⟩) (lk.length + 1) cap') (lk ++ [name]).length ((lk ++ [name]).flatMap nameC) rfl (HG5.out.2.alloc _) w5.heap.size x rfl (heap_alloc_new w5 _) hq9 ?qc ?_); rotate_left; intro gg2 cap2 w6 hown6 hgrow6 hat6; have HG6 := Lib.hid (HG5.out.grow hown6 hgrow6); clear hown6 hgrow6 hat6))
        case qb => have := HG.out.1.size; simp; omega
        case qc => have := HG5.out.1.size; simp; omega
        go_roundw
        case rel => exact ⟨k2 + 1, ⟨some ⟨gg2, 0, none⟩, (lk ++ [name]).length + 1, cap2⟩, by rw [HN.out]; simp, by rw [HD.out], by go_num, by omega, by rw [HN.out]; exact HG6.out⟩
        case measure => simp [intOf]; omega
      · have hp1 : decide (p < k2) = true := decide_eq_true (by omega)
        have HD := Lib.hid (show decide (p < k2 + 1) = true from decide_eq_true (by omega))
        have HN := Lib.hid (show insK r.names p name (k2 + 1) = insK r.names p name k2 ++ [x] from by rw [insK_gt _ _ _ _ hlt2 hc, HX3.out])
        obtain ⟨lk, hlk⟩ : ∃ lk, insK r.names p name k2 = lk := ⟨_, rfl⟩
        rw [hlk] at HG HN hdl ⊢
        rw [hp1]
        have hq8 : lk.length ≤ 1000000 := by omega
        clear hp1 hc hlk
        go_wp2_with (at_builtin; go_must (refine app_str rfl _ _ rfl X.heap.size (.slice h.a lk.length h.c) lk.length (lk.flatMap nameC) rfl (HG.out.own.alloc _) wr.heap.size x rfl (heap_alloc_new wr _) hq8 ?qd ?_); rotate_left; intro gg cap' w5 hown5 hgrow hat; have HG5 := Lib.hid (HG.out.grow hown5 hgrow); clear hown5 hgrow hat)
        case qd => have := HG.out.1.size; simp; omega
        go_roundw
        case rel => exact ⟨k2 + 1, ⟨some ⟨gg, 0, none⟩, lk.length + 1, cap'⟩, by rw [HN.out]; simp, by rw [HD.out], by go_num, by omega, by rw [HN.out]; exact HG5.out⟩
        case measure => simp [intOf]; omega
    · have hk3 : k2 = r.names.length := by omega
      subst hk3
      have hFF : chgF r (addF name r) = ({ r with names := insAt r.names p name }, 0) := by
        rw [HF.out, ← HI.out]
        simp only [if_true, Bool.false_eq_true, if_false, if_neg H16.out]
      rcases Nat.lt_or_ge p r.names.length with hc | hc
      · have hp1 : decide (p < r.names.length) = true := decide_eq_true hc
        rw [insK_end _ _ _ hc] at HG ⊢
        rw [hp1]
        obtain ⟨A5, n5, c5⟩ := h
        have ho := HG.out.2
        rw [zX] at ho
        have hv5 := own_slice HG.out.2
        obtain ⟨e1, e2, e3, e4⟩ := KE.out wr HG.out.1 ⟨A5, n5, c5⟩ (insAt r.names p name) ho
        rw [hv5] at e1 e2 e3 e4
        obtain ⟨y0, y1, y2, yz⟩ := KX.out wr HG.out.1
        rw [HVM.out] at e1 e3 e4
        have q0 := e1.cell (j := 0) rfl
        have q1 := e1.cell (j := 1) rfl
        have HE := Lib.hid (And.intro e1 (And.intro e2 (And.intro e3 e4)))
        have HFF := Lib.hid hFF
        obtain ⟨s0, s1, s2, s3, sz⟩ := KO.out wr (HAX.out.trans HG.out.1)
        have hne1 : ¬ w3.heap.size = w.heap.size + 1 := by have := HZ.out; omega
        have hne2 : ¬ w.heap.size + 1 = w3.heap.size := by omega
        clear e1 e2 e3 e4 ho hv5 hp1 hc hFF
        go_wp2_with fail
        refine bodyPost_ret (results_cell_tmp (v := .agg #[.slice A5 (insAt r.names p name).length c5, .slice hom.a r.members.length hom.c]) rfl _ rfl (lvRol_row HE.out.2.2.1)) rfl ?_
        rw [HFF.out]
        exact HE.out.2.2.2
      · have hpe : p = r.names.length := by omega
        subst hpe
        have hp1 : decide (r.names.length < r.names.length) = false := decide_eq_false (by omega)
        have HN := Lib.hid (insK_end' r.names name)
        obtain ⟨lk, hlk⟩ : ∃ lk, insK r.names r.names.length name r.names.length = lk := ⟨_, rfl⟩
        rw [hlk] at HG HN hdl ⊢
        rw [hp1]
        have hq8 : lk.length ≤ 1000000 := by omega
        have HFF := Lib.hid hFF
        have K5 := Lib.hid (show ∀ (A5 : Option Addr) (n5 c5 : Nat) (w5 : World), GrS X w5 ⟨A5, n5, c5⟩ (lk ++ [name]) → ((w5.cell? ⟨w3.heap.size, 0, none⟩ = some (.slice hon.a r.names.length hon.c) ∧ w5.frozen? ⟨w3.heap.size, 0, none⟩ = false ∧ w3.heap.size < w5.heap.size) ∧ ((w5.setCell ⟨w3.heap.size, 0, none⟩ (.slice A5 n5 c5)).cell? ⟨w3.heap.size, 0, none⟩ = some (.slice A5 n5 c5) ∧ (w5.setCell ⟨w3.heap.size, 0, none⟩ (.slice A5 n5 c5)).cell? ⟨w3.heap.size, 1, none⟩ = some (.slice hom.a r.members.length hom.c)) ∧ (w5.cell? ⟨w.heap.size + 1, 0, none⟩ = some (.slice none 0 0) ∧ w5.cell? ⟨w.heap.size + 1, 1, none⟩ = some (.slice none 0 0) ∧ w5.frozen? ⟨w.heap.size + 1, 0, none⟩ = false ∧ w5.frozen? ⟨w.heap.size + 1, 1, none⟩ = false ∧ w.heap.size + 1 < w5.heap.size) ∧
            Hid (RowAt (((w5.setCell ⟨w3.heap.size, 0, none⟩ (.slice A5 n5 c5)).setCell ⟨w.heap.size + 1, 0, none⟩ (.slice A5 n5 c5)).setCell ⟨w.heap.size + 1, 1, none⟩ (.slice hom.a r.members.length hom.c)) (w.heap.size + 1) [.slice A5 n5 c5, .slice hom.a r.members.length hom.c] ∧
              ChgP8 w (chgF r (addF name r)) (.returned (.tuple #[.agg #[.slice A5 n5 c5, .slice hom.a r.members.length hom.c], .int .i64 0])) (((w5.setCell ⟨w3.heap.size, 0, none⟩ (.slice A5 n5 c5)).setCell ⟨w.heap.size + 1, 0, none⟩ (.slice A5 n5 c5)).setCell ⟨w.heap.size + 1, 1, none⟩ (.slice hom.a r.members.length hom.c)))) from fun A5 n5 c5 w5 g5 => by
          have ho := g5.2
          rw [zX] at ho
          obtain ⟨e1, e2, e3, e4⟩ := KE.out w5 g5.1 ⟨A5, n5, c5⟩ (lk ++ [name]) ho
          obtain ⟨y0, y1, y2, yz⟩ := KX.out w5 g5.1
          rw [HVM.out] at e1 e3 e4
          rw [HFF.out, ← HN.out]
          exact ⟨⟨y0, y2, yz⟩, ⟨e1.cell (j := 0) rfl, e1.cell (j := 1) rfl⟩, KO.out w5 (HAX.out.trans g5.1), Lib.hid ⟨e3, e4⟩⟩)
        have hne1 : ¬ w3.heap.size = w.heap.size + 1 := by have := HZ.out; omega
        have hne2 : ¬ w.heap.size + 1 = w3.heap.size := by omega
        clear hp1 hlk hFF hc
        go_wp2_with (at_builtin; go_must (refine app_str rfl _ _ rfl X.heap.size (.slice h.a lk.length h.c) lk.length (lk.flatMap nameC) rfl (HG.out.own.alloc _) wr.heap.size name rfl (heap_alloc_new wr _) hq8 ?qe ?_); rotate_left; intro gg cap' w5 hown5 hgrow hat; have HG5 := Lib.hid (HG.out.grow hown5 hgrow); obtain ⟨⟨y0, y1, yz⟩, ⟨q0, q1⟩, ⟨s0, s1, s2, s3, sz⟩, HE⟩ := K5.out _ _ _ w5 HG5.out; clear hown5 hgrow hat)
        case qe => have := HG.out.1.size; simp; omega
        refine bodyPost_ret (results_cell_tmp (v := .agg #[.slice (some ⟨gg, 0, none⟩) (lk.length + 1) cap', .slice hom.a r.members.length hom.c]) rfl _ rfl (lvRol_row HE.out.1)) rfl ?_
        exact HE.out.2
end Go.Proofs.Ytcdhljcpoopfaaa
/- The document's member and Leave of roles. -/
namespace Go.Proofs.Ytcdhljcpoopfaaa
open Go.RowKit Go.Deep
set_option maxRecDepth 100000
set_option linter.unusedVariables false
set_option maxHeartbeats 4000000 in
theorem member8 (r : Rls) (An : Option Addr) (capn : Nat) (Am : Option Addr) (capm : Nat) (role of : ByteArray) (w : World) (hm : SlAt w 2 MbrR Am capm r.members) :
    Calls Try.prog 63 #[.agg #[.slice An r.names.length capn, .slice Am r.members.length capm], .string role, .string of] w fun e w' => e = .returned (.int .i64 (idxP (sameM ⟨role, of⟩) r.members)) ∧ Aft w w' := by
  have hlen := hm.len
  have l1 : w.heap.size < w.heap.size + 1 := by omega
  have HA := Lib.hid ((Aft.refl w).alloc (.cells #[.slice An r.names.length capn, .slice Am r.members.length capm] 25))
  have HM := Lib.hid hm
  clear hm
  go_enter Try.func63, Try.ntmps63
  go_wp2_with fail
  obtain ⟨W, hW⟩ : ∃ W, W = w.alloc (.cells #[.slice An r.names.length capn, .slice Am r.members.length capm] 25) := ⟨_, rfl⟩
  rw [← hW] at HA ⊢
  obtain ⟨x0, x1, xz⟩ : W.cell? ⟨w.heap.size, 0, none⟩ = some (.slice An r.names.length capn) ∧ W.cell? ⟨w.heap.size, 1, none⟩ = some (.slice Am r.members.length capm) ∧ w.heap.size < W.heap.size := by
    have := rowAt_new8 w [.slice An r.names.length capn, .slice Am r.members.length capm] 25
    rw [show w.alloc (.cells [.slice An r.names.length capn, .slice Am r.members.length capm].toArray 25) = W from hW.symm] at this
    exact ⟨this.cell (j := 0) rfl, this.cell (j := 1) rfl, this.1⟩
  clear hW
  go_loop [7] (fun i => ∃ k : Nat, k ≤ r.members.length ∧ i = .int .i64 k ∧ ∀ j, j < k → ∀ (hj : j < r.members.length), sameM ⟨role, of⟩ r.members[j] = false) (fun i => r.members.length - (intOf i).toNat)
  case atStart => exact ⟨0, Nat.zero_le _, rfl, fun j hj => absurd hj (Nat.not_lt_zero j)⟩
  case round =>
    obtain ⟨k, hk, rfl, hp⟩ := hrel
    have HP := Lib.hid hp; clear hp
    by_cases hlt : k < r.members.length
    · obtain ⟨b, off, rfl, hb, c0, c1, _, _⟩ := mbr_at (mbrs_aft HA.out HM.out) hlt
      obtain ⟨m, hm⟩ : ∃ m, r.members[k] = m := ⟨_, rfl⟩
      rw [hm] at c0 c1
      have HMM := Lib.hid hm
      clear hm
      cases e1 : eqS m.role role
      · have HU := Lib.hid (show sameM ⟨role, of⟩ m = false by unfold sameM; rw [e1]; rfl)
        have h1 : (m.role.toList == role.toList) = false := e1
        clear e1
        go_wp2_with fail
        go_round
        case rel => exact ⟨k + 1, by omega, by go_num, ext_lt (p := fun j => ∀ (hj : j < r.members.length), sameM ⟨role, of⟩ r.members[j] = false) HP.out (fun _ => by rw [HMM.out]; exact HU.out)⟩
        case measure => simp [intOf]; omega
      · cases e2 : eqS m.of of
        · have HU := Lib.hid (show sameM ⟨role, of⟩ m = false by unfold sameM; rw [e1, e2]; rfl)
          have h1 : (m.role.toList == role.toList) = true := e1
          have h2 : (m.of.toList == of.toList) = false := e2
          clear e1 e2
          go_wp2_with fail
          go_round
          case rel => exact ⟨k + 1, by omega, by go_num, ext_lt (p := fun j => ∀ (hj : j < r.members.length), sameM ⟨role, of⟩ r.members[j] = false) HP.out (fun _ => by rw [HMM.out]; exact HU.out)⟩
          case measure => simp [intOf]; omega
        · have HU := Lib.hid (show sameM ⟨role, of⟩ m = true by unfold sameM; rw [e1, e2]; rfl)
          have h1 : (m.role.toList == role.toList) = true := e1
          have h2 : (m.of.toList == of.toList) = true := e2
          clear e1 e2
          go_wp2_with fail
          go_ret
          exact ⟨by rw [idxP_some (sameM ⟨role, of⟩) r.members k hlt (by rw [HMM.out]; exact HU.out) (fun i hi => HP.out i hi (by omega))]; rfl, HA.out⟩
    · go_wp2_with fail
      go_ret
      exact ⟨by rw [idxP_none (sameM ⟨role, of⟩) r.members (fun i hi => HP.out i (by omega) hi)]; rfl, HA.out⟩
set_option maxHeartbeats 8000000 in
theorem rleave8 (r : Rls) (An : Option Addr) (capn : Nat) (Am : Option Addr) (capm : Nat) (role of : ByteArray) (w : World) (hn : SlAt w 1 StrR An capn r.names) (hm : SlAt w 2 MbrR Am capm r.members) :
    Calls Try.prog 26 #[.agg #[.slice An r.names.length capn, .slice Am r.members.length capm], .string role, .string of] w (ChgP8 w (chgF r (leaveF ⟨role, of⟩ r))) := by
  have hlen := hn.len
  have hlen2 := hm.len
  have l1 : w.heap.size < w.heap.size + 1 := by omega
  have l2 : w.heap.size < w.heap.size + 1 + 1 := by omega
  obtain ⟨W, hW⟩ : ∃ W, W = Box8 w (.slice An r.names.length capn) (.slice Am r.members.length capm) := ⟨_, rfl⟩
  have HW := Lib.hid hW
  have HNM := Lib.hid (And.intro hn hm)
  have HAW := Lib.hid (show Aft w W by rw [hW]; exact Box8.aft _ _ _)
  have KR := Lib.hid (show ∀ w', Aft W w' → _ from fun w' a => by rw [hW] at a; exact Box8.read a)
  have KO := Lib.hid (show ∀ w', Aft W w' → _ from fun w' a => by rw [hW] at a; exact Box8.out a)
  have KN := Lib.hid (show ∀ w', Aft W w' → ∀ x : Int, _ from fun w' a x => by rw [hW] at a; exact Box8.no a x)
  have KB := Lib.hid (show ∀ w', Aft W w' → RowAt w' (w.heap.size + 1) [.slice none 0 0, .slice none 0 0] from fun w' a => by rw [hW] at a; exact (Box8.res w _ _).aft a)
  obtain ⟨q, hq⟩ : ∃ q, rightR r = q := ⟨_, rfl⟩
  obtain ⟨t, ht⟩ : ∃ t, thereB cmpM r.members ⟨role, of⟩ = t := ⟨_, rfl⟩
  obtain ⟨p, hp⟩ : ∃ p, posB cmpM r.members ⟨role, of⟩ = p := ⟨_, rfl⟩
  have C1 := Lib.hid (show ∀ w', Aft w w' → _ from fun w' a => hq ▸ rright8 r An capn Am capm w' (strs_aft a hn) (mbrs_aft a hm))
  have HB := Lib.hid (show q = true → r.names.length ≤ 16 ∧ r.members.length ≤ 256 ∧ Hid (idxP (sameM ⟨role, of⟩) r.members = if t then (p : Int) else -1) from fun h => by
    have hr := rightR_parts.1 (hq.trans h)
    exact ⟨hr.1, hr.2.1, Lib.hid (by rw [← ht, ← hp]; exact idx_there hr.2.2.2.1 _)⟩)
  have C2 := Lib.hid (show ∀ w', Aft w w' → _ from fun w' a => member8 r An capn Am capm role of w' (mbrs_aft a hm))
  have HF := Lib.hid (show chgF r (leaveF ⟨role, of⟩ r) = if q then (if t then ({ r with members := r.members.eraseIdx p }, 0) else (noR, 71)) else (noR, 1) from by
    unfold chgF leaveF
    rw [hq, hp, ht]
    cases q <;> cases t <;> first | rfl | simp)
  clear hq ht hn hm hp
  go_enter Try.func26, Try.ntmps26
  go_wp2_with fail
  rw [show ((w.alloc (.cells #[.slice An r.names.length capn, .slice Am r.members.length capm] 25)).alloc (.cells #[.slice none 0 0, .slice none 0 0] 25)) = W from hW.symm]
  clear hW
  refine (C1.out _ HAW.out).mono ?_
  rintro e w1 ⟨rfl, a1⟩
  obtain ⟨x0, x1, xz⟩ := KR.out w1 a1
  have HA1 := Lib.hid a1
  clear a1
  cases q
  · go_wp2_with fail
    refine (rno8 _ _).mono ?_
    rintro e w2 ⟨rfl, a2⟩
    obtain ⟨y0, y1, y2, y3, yz⟩ := KO.out w2 (HA1.out.trans a2)
    have HP := Lib.hid (KN.out w2 (HA1.out.trans a2) 1)
    have HRW := Lib.hid (KB.out w2 (HA1.out.trans a2))
    clear a2
    go_wp2_with fail
    refine bodyPost_ret (results_cell_tmp (v := .agg #[.slice none 0 0, .slice none 0 0]) rfl _ rfl (lvRol_row (setR_row HRW.out rfl _ _))) rfl ?_
    rw [HF.out]
    exact HP.out
  obtain ⟨hb1, hb2, HI⟩ := HB.out (by first | trivial | rfl)
  have C3 := Lib.hid (HI.out ▸ C2.out w1 (HAW.out.trans HA1.out))
  clear C2 HB
  go_wp2_with fail
  refine C3.out.mono ?_
  rintro e w2 ⟨rfl, a2⟩
  obtain ⟨x0, x1, xz⟩ := KR.out w2 (HA1.out.trans a2)
  have HA2 := Lib.hid (HA1.out.trans a2)
  clear a2 C3
  cases t
  · go_wp2_with fail
    refine (rno8 _ _).mono ?_
    rintro e w3 ⟨rfl, a2⟩
    obtain ⟨y0, y1, y2, y3, yz⟩ := KO.out w3 (HA2.out.trans a2)
    have HP := Lib.hid (KN.out w3 (HA2.out.trans a2) 71)
    have HRW := Lib.hid (KB.out w3 (HA2.out.trans a2))
    clear a2
    go_wp2_with fail
    refine bodyPost_ret (results_cell_tmp (v := .agg #[.slice none 0 0, .slice none 0 0]) rfl _ rfl (lvRol_row (setR_row HRW.out rfl _ _))) rfl ?_
    rw [HF.out]
    exact HP.out
  have CO := Lib.hid (own8 r An capn Am capm w2 (strs_aft (HAW.out.trans HA2.out) HNM.out.1) (mbrs_aft (HAW.out.trans HA2.out) HNM.out.2) (by omega) (by omega))
  have hpz : ¬ (p : Int) < 0 := by omega
  simp only [if_true]
  go_wp2_with fail
  refine CO.out.mono ?_
  rintro e w3 ⟨hon, hom, rfl, a3, rin⟩
  obtain ⟨X, hX⟩ : ∃ X, X = Out8 w3 (.slice hon.a r.names.length hon.c) (.slice hom.a r.members.length hom.c) := ⟨_, rfl⟩
  have HAX := Lib.hid (show Aft W X by rw [hX]; exact (HA2.out.trans a3).trans (Out8.aft _ _ _))
  have zX : X.heap.size = w3.heap.size + 1 := by rw [hX]; exact Out8.size _ _ _
  have hvn := rin.vn
  have hvm := rin.vm
  have KE := Lib.hid (show ∀ (wr : World), Aft X wr → _ from fun wr ar => (by
    have a1 := HA2.out
    rw [HW.out] at a1
    rw [hX, ← hvn, ← hvm] at ar
    exact (end8 a1 a3 rin ar).2))
  have KX := Lib.hid (show ∀ w', Aft X w' → (w'.cell? ⟨w3.heap.size, 0, none⟩ = some (.slice hon.a r.names.length hon.c) ∧ w'.cell? ⟨w3.heap.size, 1, none⟩ = some (.slice hom.a r.members.length hom.c) ∧ w'.frozen? ⟨w3.heap.size, 1, none⟩ = false ∧ w3.heap.size < w'.heap.size) from fun w' a => by
    rw [hX] at a
    have := (Out8.row w3 _ _).aft a
    exact ⟨this.cell (j := 0) rfl, this.cell (j := 1) rfl, this.2.2 1 (by simp), this.1⟩)
  rw [hvn, hvm]
  have HVN := Lib.hid hvn
  have HZ := Lib.hid (show w.heap.size + 1 < w3.heap.size from Nat.lt_of_lt_of_le (KO.out w2 HA2.out).2.2.2.2 a3.size)
  clear hvn hvm rin a3
  unfold Out8 at hX
  go_wp2_with fail
  rw [← hX]
  clear hX
  go_loopw [10, 11] (fun u10 u11 wr => ∃ (k : Nat) (h : Hd), u10 = .slice h.a (delK r.members p k).length h.c ∧ u11 = .int .i64 k ∧ k ≤ r.members.length ∧ GrM X wr h (delK r.members p k)) (fun _ u11 _ => r.members.length - (intOf u11).toNat)
  case atStart => exact ⟨0, ⟨none, 0, 0⟩, by rw [delK_zero]; rfl, rfl, Nat.zero_le _, by rw [delK_zero]; exact GrM.start X⟩
  case round =>
    obtain ⟨k2, h, rfl, rfl, hk2, hg⟩ := hrel
    have HG := Lib.hid hg
    obtain ⟨x0, x1, xz⟩ := KR.out wr (HAX.out.trans hg.1)
    have hdl := delK_len r.members p k2
    clear hg
    by_cases hlt2 : k2 < r.members.length
    · by_cases hkp : k2 = p
      · have HN := Lib.hid (show delK r.members p (k2 + 1) = delK r.members p k2 from by
          subst hkp
          exact delK_at _ _ hlt2)
        have h1 : (((k2 : Int)) == (p : Int)) = true := by simp [hkp]
        have h2 : (k2 : Int) = (p : Int) := by omega
        clear hkp
        go_wp2_with fail
        go_roundw
        case rel => exact ⟨k2 + 1, h, by rw [HN.out], by go_num, by omega, by rw [HN.out]; exact HG.out⟩
        case measure => simp [intOf]; omega
      · obtain ⟨b, off, rfl, hb, c0, c1, _, _⟩ := mbr_at (mbrs_aft (HAW.out.trans (HAX.out.trans HG.out.1)) HNM.out.2) hlt2
        obtain ⟨m, hm⟩ : ∃ m, r.members[k2] = m := ⟨_, rfl⟩
        rw [hm] at c0 c1
        have HN := Lib.hid (show delK r.members p (k2 + 1) = delK r.members p k2 ++ [m] from by rw [delK_ne _ _ _ hlt2 hkp, hm])
        have h1 : (((k2 : Int)) == (p : Int)) = false := by simp; omega
        have h2 : ¬ (k2 : Int) = (p : Int) := by omega
        have l6 : b < wr.heap.size + 1 := by omega
        have l7 : w.heap.size < wr.heap.size + 1 := by omega
        clear hm hkp
        obtain ⟨lk, hlk⟩ : ∃ lk, delK r.members p k2 = lk := ⟨_, rfl⟩
        rw [hlk] at HG HN hdl ⊢
        have hq8 : lk.length ≤ 1000000 := by omega
        go_wp2_with (at_builtin; go_must (refine app_mbr rfl _ _ rfl X.heap.size (.slice h.a lk.length h.c) lk.length (lk.flatMap mbrC) rfl (HG.out.own.alloc _) wr.heap.size m rfl (heap_alloc_new wr _) hq8 ?qb ?_); rotate_left; intro gg cap' w5 hown5 hgrow hat; have HG5 := Lib.hid (HG.out.grow hown5 hgrow); clear hown5 hgrow hat)
        case qb => have := HG.out.1.size; simp; omega
        go_roundw
        case rel => exact ⟨k2 + 1, ⟨some ⟨gg, 0, none⟩, lk.length + 1, cap'⟩, by rw [HN.out]; simp, by go_num, by omega, by rw [HN.out]; exact HG5.out⟩
        case measure => simp [intOf]; omega
    · have hk3 : k2 = r.members.length := by omega
      subst hk3
      rw [delK_end] at HG ⊢
      obtain ⟨A5, n5, c5⟩ := h
      have ho := HG.out.2
      rw [zX] at ho
      have hv5 := own_slice HG.out.2
      obtain ⟨e1, e2, e3, e4⟩ := KE.out wr HG.out.1 ⟨A5, n5, c5⟩ (r.members.eraseIdx p) ho
      rw [hv5] at e1 e2 e3 e4
      obtain ⟨y0, y1, y2, yz⟩ := KX.out wr HG.out.1
      rw [HVN.out] at e1 e3 e4
      have q0 := e1.cell (j := 0) rfl
      have q1 := e1.cell (j := 1) rfl
      have HE := Lib.hid (And.intro e1 (And.intro e2 (And.intro e3 e4)))
      obtain ⟨s0, s1, s2, s3, sz⟩ := KO.out wr (HAX.out.trans HG.out.1)
      have hne1 : ¬ w3.heap.size = w.heap.size + 1 := by have := HZ.out; omega
      have hne2 : ¬ w.heap.size + 1 = w3.heap.size := by omega
      clear e1 e2 e3 e4 ho hv5
      go_wp2_with fail
      refine bodyPost_ret (results_cell_tmp (v := .agg #[.slice hon.a r.names.length hon.c, .slice A5 (r.members.eraseIdx p).length c5]) rfl _ rfl (lvRol_row HE.out.2.2.1)) rfl ?_
      rw [HF.out]
      exact HE.out.2.2.2
end Go.Proofs.Ytcdhljcpoopfaaa
/- The document's Join of roles. -/
namespace Go.Proofs.Ytcdhljcpoopfaaa
open Go.RowKit Go.Deep
set_option maxRecDepth 100000
set_option linter.unusedVariables false
theorem heap_alloc_new2 (w : World) (a b : Obj) : ((w.alloc a).alloc b).heap[w.heap.size + 1]? = some b := by
  have := heap_alloc_new (w.alloc a) b
  simpa using this
set_option maxHeartbeats 16000000 in
theorem rjoin8 (r : Rls) (An : Option Addr) (capn : Nat) (Am : Option Addr) (capm : Nat) (role of : ByteArray) (w : World) (hn : SlAt w 1 StrR An capn r.names) (hm : SlAt w 2 MbrR Am capm r.members) (hs1 : Small role.size) (hs2 : Small of.size) :
    Calls Try.prog 24 #[.agg #[.slice An r.names.length capn, .slice Am r.members.length capm], .string role, .string of] w (ChgP8 w (chgF r (joinF ⟨role, of⟩ r))) := by
  have hlen := hn.len
  have hlen2 := hm.len
  have l1 : w.heap.size < w.heap.size + 1 := by omega
  have l2 : w.heap.size < w.heap.size + 1 + 1 := by omega
  obtain ⟨W, hW⟩ : ∃ W, W = Box8 w (.slice An r.names.length capn) (.slice Am r.members.length capm) := ⟨_, rfl⟩
  have HW := Lib.hid hW
  have HNM := Lib.hid (And.intro hn hm)
  have HAW := Lib.hid (show Aft w W by rw [hW]; exact Box8.aft _ _ _)
  have KR := Lib.hid (show ∀ w', Aft W w' → _ from fun w' a => by rw [hW] at a; exact Box8.read a)
  have KO := Lib.hid (show ∀ w', Aft W w' → _ from fun w' a => by rw [hW] at a; exact Box8.out a)
  have KN := Lib.hid (show ∀ w', Aft W w' → ∀ x : Int, _ from fun w' a x => by rw [hW] at a; exact Box8.no a x)
  have KB := Lib.hid (show ∀ w', Aft W w' → RowAt w' (w.heap.size + 1) [.slice none 0 0, .slice none 0 0] from fun w' a => by rw [hW] at a; exact (Box8.res w _ _).aft a)
  obtain ⟨q, hq⟩ : ∃ q, rightR r = q := ⟨_, rfl⟩
  obtain ⟨i1, hi1⟩ : ∃ i, inB r.names role = i := ⟨_, rfl⟩
  obtain ⟨i2, hi2⟩ : ∃ i, inB r.names of = i := ⟨_, rfl⟩
  obtain ⟨t, ht⟩ : ∃ t, thereB cmpM r.members ⟨role, of⟩ = t := ⟨_, rfl⟩
  obtain ⟨z, hz⟩ : ∃ z, reachB r.members of role = z := ⟨_, rfl⟩
  obtain ⟨p, hp⟩ : ∃ p, posB cmpM r.members ⟨role, of⟩ = p := ⟨_, rfl⟩
  have hpl : p ≤ r.members.length := by rw [← hp]; exact posB_le _ _ _
  have C1 := Lib.hid (show ∀ w', Aft w w' → _ from fun w' a => hq ▸ rright8 r An capn Am capm w' (strs_aft a hn) (mbrs_aft a hm))
  have C2 := Lib.hid (show ∀ w', Aft w w' → Calls Try.prog 50 #[.slice An r.names.length capn, .string role] w' fun e w'' => e = .returned (.bool i1) ∧ w' = w'' from fun w' a => hi1 ▸ rin_any An capn r.names role w' (strs_aft a hn))
  have C2' := Lib.hid (show ∀ w', Aft w w' → Calls Try.prog 50 #[.slice An r.names.length capn, .string of] w' fun e w'' => e = .returned (.bool i2) ∧ w' = w'' from fun w' a => hi2 ▸ rin_any An capn r.names of w' (strs_aft a hn))
  have C4 := Lib.hid (fun w' (a : Aft w w') (h : r.members.length ≤ 256) => rreach r An capn Am capm of w' (strs_aft a hn) (mbrs_aft a hm) hs2 (by omega))
  have HSM := Lib.hid (sm_names hn)
  have HB := Lib.hid (show q = true → r.names.length ≤ 16 ∧ r.members.length ≤ 256 ∧ Hid (idxP (sameM ⟨role, of⟩) r.members = if t then (p : Int) else -1) ∧ Hid (t = false → ∀ k (hk : k < r.members.length), decide (cmpM ⟨role, of⟩ r.members[k] < 0) = decide (p ≤ k)) from fun h => by
    have hr := rightR_parts.1 (hq.trans h)
    exact ⟨hr.1, hr.2.1, Lib.hid (by rw [← ht, ← hp]; exact idx_there hr.2.2.2.1 _), Lib.hid (fun hit k hk => by rw [← hp]; exact new_less ordM hr.2.2.2.1 (ht.trans hit) k hk)⟩)
  have C3 := Lib.hid (show ∀ w', Aft w w' → _ from fun w' a => member8 r An capn Am capm role of w' (mbrs_aft a hm))
  have HIF := Lib.hid (show i1 = true → inB (r.names.filter (reachB r.members of)) role = z from fun h => by rw [inB_filter, hz, hi1, h, Bool.and_true])
  have HF := Lib.hid (show chgF r (joinF ⟨role, of⟩ r) = if q then (if i1 && i2 then (if t then (noR, 70) else if z then (noR, 72) else ({ r with members := insAt r.members p ⟨role, of⟩ }, 0)) else (noR, 71)) else (noR, 1) from by
    unfold chgF joinF
    simp only [hq, hp, ht, hi1, hi2, hz]
    cases q <;> cases t <;> cases i1 <;> cases i2 <;> cases z <;> first | rfl | simp)
  clear hq ht hn hm hp hi1 hi2 hz
  go_enter Try.func24, Try.ntmps24
  go_wp2_with fail
  rw [show ((w.alloc (.cells #[.slice An r.names.length capn, .slice Am r.members.length capm] 25)).alloc (.cells #[.slice none 0 0, .slice none 0 0] 25)) = W from hW.symm]
  clear hW
  refine (C1.out _ HAW.out).mono ?_
  rintro e w1 ⟨rfl, a1⟩
  obtain ⟨x0, x1, xz⟩ := KR.out w1 a1
  have HA1 := Lib.hid a1
  clear a1
  cases q
  · go_wp2_with fail
    refine (rno8 _ _).mono ?_
    rintro e w9 ⟨rfl, a2⟩
    obtain ⟨y0, y1, y2, y3, yz⟩ := KO.out w9 (HA1.out.trans a2)
    have HP := Lib.hid (KN.out w9 (HA1.out.trans a2) 1)
    have HRW := Lib.hid (KB.out w9 (HA1.out.trans a2))
    clear a2
    go_wp2_with fail
    refine bodyPost_ret (results_cell_tmp (v := .agg #[.slice none 0 0, .slice none 0 0]) rfl _ rfl (lvRol_row (setR_row HRW.out rfl _ _))) rfl ?_
    rw [HF.out]
    exact HP.out
  obtain ⟨hb1, hb2, HI, HT⟩ := HB.out (by first | trivial | rfl)
  have C5 := Lib.hid (show ∀ w', Aft w w' → _ from fun w' a => HI.out ▸ C3.out w' a)
  clear C3 HB
  go_wp2_with fail
  refine (C2.out w1 (HAW.out.trans HA1.out)).mono ?_
  rintro e w2 ⟨rfl, rfl⟩
  cases i1
  · go_wp2_with fail
    refine (rno8 _ _).mono ?_
    rintro e w9 ⟨rfl, a2⟩
    obtain ⟨y0, y1, y2, y3, yz⟩ := KO.out w9 (HA1.out.trans a2)
    have HP := Lib.hid (KN.out w9 (HA1.out.trans a2) 71)
    have HRW := Lib.hid (KB.out w9 (HA1.out.trans a2))
    clear a2
    go_wp2_with fail
    refine bodyPost_ret (results_cell_tmp (v := .agg #[.slice none 0 0, .slice none 0 0]) rfl _ rfl (lvRol_row (setR_row HRW.out rfl _ _))) rfl ?_
    rw [HF.out]
    exact HP.out
  have HIZ := Lib.hid (HIF.out (by first | trivial | rfl))
  clear HIF
  go_wp2_with fail
  refine (C2'.out w1 (HAW.out.trans HA1.out)).mono ?_
  rintro e w2 ⟨rfl, rfl⟩
  cases i2
  · go_wp2_with fail
    refine (rno8 _ _).mono ?_
    rintro e w9 ⟨rfl, a2⟩
    obtain ⟨y0, y1, y2, y3, yz⟩ := KO.out w9 (HA1.out.trans a2)
    have HP := Lib.hid (KN.out w9 (HA1.out.trans a2) 71)
    have HRW := Lib.hid (KB.out w9 (HA1.out.trans a2))
    clear a2
    go_wp2_with fail
    refine bodyPost_ret (results_cell_tmp (v := .agg #[.slice none 0 0, .slice none 0 0]) rfl _ rfl (lvRol_row (setR_row HRW.out rfl _ _))) rfl ?_
    rw [HF.out]
    exact HP.out
  go_wp2_with fail
  refine (C5.out w1 (HAW.out.trans HA1.out)).mono ?_
  rintro e w2 ⟨rfl, a2⟩
  obtain ⟨x0, x1, xz⟩ := KR.out w2 (HA1.out.trans a2)
  have HA2 := Lib.hid (HA1.out.trans a2)
  clear a2 C5
  have hpz : ¬ (p : Int) < 0 := by omega
  have hpz2 : (0 : Int) ≤ (p : Int) := by omega
  cases t
  case true =>
    simp only [if_true]
    go_wp2_with fail
    refine (rno8 _ _).mono ?_
    rintro e w9 ⟨rfl, a2⟩
    obtain ⟨y0, y1, y2, y3, yz⟩ := KO.out w9 (HA2.out.trans a2)
    have HP := Lib.hid (KN.out w9 (HA2.out.trans a2) 70)
    have HRW := Lib.hid (KB.out w9 (HA2.out.trans a2))
    clear a2
    go_wp2_with fail
    refine bodyPost_ret (results_cell_tmp (v := .agg #[.slice none 0 0, .slice none 0 0]) rfl _ rfl (lvRol_row (setR_row HRW.out rfl _ _))) rfl ?_
    rw [HF.out]
    exact HP.out
  simp only [Bool.false_eq_true, if_false]
  go_wp2_with fail
  refine (C4.out w2 (HAW.out.trans HA2.out) hb2).mono ?_
  rintro e w4 ⟨h4, rfl, a4, ho4⟩
  have CI := Lib.hid (show Calls Try.prog 50 #[h4.v, .string role] w4 fun e w'' => e = .returned (.bool z) ∧ w4 = w'' from by
    rw [own_slice ho4]
    refine (rin_any h4.a h4.c (r.names.filter (reachB r.members of)) role w4 (own_slf nameC ho4 (fun x hx => ⟨rfl, rfl, HSM.out.2 x ((List.mem_filter.1 hx).1)⟩) ?_)).mono fun e w'' ⟨he, hw⟩ => ⟨he.trans (by rw [← HIZ.out]; rfl), hw⟩
    have := HSM.out.1
    have := List.length_filter_le (reachB r.members of) r.names
    unfold Small at *; omega)
  obtain ⟨x0, x1, xz⟩ := KR.out w4 (HA2.out.trans a4)
  have HA4 := Lib.hid (HA2.out.trans a4)
  clear a4 ho4 C4 HIZ
  go_wp2_with fail
  refine CI.out.mono ?_
  rintro e w5 ⟨rfl, rfl⟩
  cases z
  case true =>
    go_wp2_with fail
    refine (rno8 _ _).mono ?_
    rintro e w9 ⟨rfl, a2⟩
    obtain ⟨y0, y1, y2, y3, yz⟩ := KO.out w9 (HA4.out.trans a2)
    have HP := Lib.hid (KN.out w9 (HA4.out.trans a2) 72)
    have HRW := Lib.hid (KB.out w9 (HA4.out.trans a2))
    clear a2
    go_wp2_with fail
    refine bodyPost_ret (results_cell_tmp (v := .agg #[.slice none 0 0, .slice none 0 0]) rfl _ rfl (lvRol_row (setR_row HRW.out rfl _ _))) rfl ?_
    rw [HF.out]
    exact HP.out
  have CO := Lib.hid (own8 r An capn Am capm w4 (strs_aft (HAW.out.trans HA4.out) HNM.out.1) (mbrs_aft (HAW.out.trans HA4.out) HNM.out.2) (by omega) (by omega))
  have HTT := Lib.hid (HT.out (by first | trivial | rfl))
  clear CI HT
  go_wp2_with fail
  refine CO.out.mono ?_
  rintro e w3 ⟨hon, hom, rfl, a3, rin⟩
  obtain ⟨Y, hY⟩ : ∃ Y, Y = Out8 w3 (.slice hon.a r.names.length hon.c) (.slice hom.a r.members.length hom.c) := ⟨_, rfl⟩
  obtain ⟨X, hX⟩ : ∃ X, X = Y.alloc (.cells #[.string role, .string of] 61) := ⟨_, rfl⟩
  have aYX : Aft Y X := by rw [hX]; exact (Aft.refl _).alloc _
  have HAX := Lib.hid (show Aft W X from (show Aft W Y by rw [hY]; exact (HA4.out.trans a3).trans (Out8.aft _ _ _)).trans aYX)
  have zY : Y.heap.size = w3.heap.size + 1 := by rw [hY]; exact Out8.size _ _ _
  have zX : X.heap.size = w3.heap.size + 2 := by rw [hX]; simp [zY]
  have hvn := rin.vn
  have hvm := rin.vm
  have KE := Lib.hid (show ∀ (wr : World), Aft X wr → _ from fun wr ar => (by
    have a1 := HA4.out
    rw [HW.out] at a1
    have ar := aYX.trans ar
    rw [hY, ← hvn, ← hvm] at ar
    exact (end8 a1 a3 rin ar).2))
  have KX := Lib.hid (show ∀ w', Aft X w' → (w'.cell? ⟨w3.heap.size, 0, none⟩ = some (.slice hon.a r.names.length hon.c) ∧ w'.cell? ⟨w3.heap.size, 1, none⟩ = some (.slice hom.a r.members.length hom.c) ∧ w'.frozen? ⟨w3.heap.size, 1, none⟩ = false ∧ w3.heap.size < w'.heap.size) from fun w' a => by
    have a := aYX.trans a
    rw [hY] at a
    have := (Out8.row w3 _ _).aft a
    exact ⟨this.cell (j := 0) rfl, this.cell (j := 1) rfl, this.2.2 1 (by simp), this.1⟩)
  have KM := Lib.hid (show ∀ w', Aft X w' → (w'.cell? ⟨w3.heap.size + 1, 0, none⟩ = some (.string role) ∧ w'.cell? ⟨w3.heap.size + 1, 1, none⟩ = some (.string of) ∧ w3.heap.size + 1 < w'.heap.size ∧ w3.heap.size + 1 < w'.heap.size + 1) from fun w' a => by
    have := rowAt_new8 Y [.string role, .string of] 61
    rw [show Y.alloc (.cells [.string role, .string of].toArray 61) = X from hX.symm, zY] at this
    have := this.aft a
    exact ⟨this.cell (j := 0) rfl, this.cell (j := 1) rfl, this.1, by have := this.1; omega⟩)
  rw [hvn, hvm]
  have HVN := Lib.hid hvn
  have HZ := Lib.hid (show w.heap.size + 1 < w3.heap.size from Nat.lt_of_lt_of_le (KO.out w4 HA4.out).2.2.2.2 a3.size)
  rw [hY] at hX
  clear hvn hvm rin a3 aYX hY zY
  unfold Out8 at hX
  go_wp2_with fail
  rw [← hX]
  clear hX
  go_loopw [10, 11, 12] (fun u10 u11 u12 wr => ∃ (k : Nat) (h : Hd), u10 = .slice h.a (insK r.members p ⟨role, of⟩ k).length h.c ∧ u11 = .bool (decide (p < k)) ∧ u12 = .int .i64 k ∧ k ≤ r.members.length ∧ GrM X wr h (insK r.members p ⟨role, of⟩ k)) (fun _ _ u12 _ => r.members.length - (intOf u12).toNat)
  case atStart => exact ⟨0, ⟨none, 0, 0⟩, by rw [insK_zero]; rfl, by rw [decide_eq_false (Nat.not_lt_zero p)], rfl, Nat.zero_le _, by rw [insK_zero]; exact GrM.start X⟩
  case round =>
    obtain ⟨k2, h, rfl, rfl, rfl, hk2, hg⟩ := hrel
    have HG := Lib.hid hg
    obtain ⟨x0, x1, xz⟩ := KR.out wr (HAX.out.trans hg.1)
    obtain ⟨m0, m1, mz, mz1⟩ := KM.out wr hg.1
    have hdl := insK_len r.members p ⟨role, of⟩ k2 hk2
    clear hg
    by_cases hlt2 : k2 < r.members.length
    · obtain ⟨b, off, rfl, hb, c0, c1, hs, hs'⟩ := mbr_at (mbrs_aft (HAW.out.trans (HAX.out.trans HG.out.1)) HNM.out.2) hlt2
      obtain ⟨m, hm⟩ : ∃ m, r.members[k2] = m := ⟨_, rfl⟩
      rw [hm] at c0 c1 hs hs'
      obtain ⟨b1, hb1'⟩ : ∃ b, ltS role m.role = b := ⟨_, rfl⟩
      obtain ⟨b2, hb2'⟩ : ∃ b, eqS role m.role = b := ⟨_, rfl⟩
      obtain ⟨b3, hb3'⟩ : ∃ b, ltS of m.of = b := ⟨_, rfl⟩
      have HX2 := Lib.hid (show (b1 || (b2 && b3)) = decide (p ≤ k2) from by rw [← hb1', ← hb2', ← hb3', ← HTT.out k2 hlt2, hm, cmpM_ltB])
      have HX3 := Lib.hid hm
      have h1 : Op.bytesLess role.toList m.role.toList = b1 := hb1'
      have h2 : (role.toList == m.role.toList) = b2 := hb2'
      have h3 : Op.bytesLess of.toList m.of.toList = b3 := hb3'
      have l6 : b < wr.heap.size + 1 := by omega
      have l7 : w.heap.size < wr.heap.size + 1 := by omega
      have HG1 := Lib.hid (show GrM X (wr.alloc (.cells #[.string m.role, .string m.of] 61)) h (insK r.members p ⟨role, of⟩ k2) from HG.out.aft ((Aft.refl wr).alloc _))
      clear hm hb1' hb2' hb3'
      rcases Nat.lt_trichotomy k2 p with hc | hc | hc
      · have hp1 : decide (p < k2) = false := decide_eq_false (by omega)
        have HD := Lib.hid (show decide (p < k2 + 1) = false from decide_eq_false (by omega))
        have HN := Lib.hid (show insK r.members p ⟨role, of⟩ (k2 + 1) = insK r.members p ⟨role, of⟩ k2 ++ [m] from by rw [insK_lt _ _ _ _ hlt2 hc, HX3.out])
        have hbf : (b1 || (b2 && b3)) = false := HX2.out.trans (decide_eq_false (by omega))
        obtain ⟨lk, hlk⟩ : ∃ lk, insK r.members p ⟨role, of⟩ k2 = lk := ⟨_, rfl⟩
        rw [hlk] at HG HG1 HN hdl ⊢
        rw [hp1]
        have hq8 : lk.length ≤ 1000000 := by omega
        have hcs : (b1 = false ∧ b2 = false) ∨ (b1 = false ∧ b2 = true ∧ b3 = false) := by revert hbf; cases b1 <;> cases b2 <;> cases b3 <;> simp
        clear hp1 hc hlk hbf
        rcases hcs with ⟨rfl, rfl⟩ | ⟨rfl, rfl, rfl⟩
        · go_wp2_with (at_builtin; go_must (refine app_mbr rfl _ _ rfl X.heap.size (.slice h.a lk.length h.c) lk.length (lk.flatMap mbrC) rfl (HG1.out.own.alloc _) (wr.heap.size + 1) m rfl (heap_alloc_new2 wr _ _) hq8 ?qa1 ?_); rotate_left; intro gg cap' w5 hown5 hgrow hat; have HG5 := Lib.hid (HG1.out.grow hown5 hgrow); clear hown5 hgrow hat)
          case qa1 => have := HG.out.1.size; simp; omega
          go_roundw
          case rel => exact ⟨k2 + 1, ⟨some ⟨gg, 0, none⟩, lk.length + 1, cap'⟩, by rw [HN.out]; simp, by rw [HD.out], by go_num, by omega, by rw [HN.out]; exact HG5.out⟩
          case measure => simp [intOf]; omega
        · go_wp2_with (at_builtin; go_must (refine app_mbr rfl _ _ rfl X.heap.size (.slice h.a lk.length h.c) lk.length (lk.flatMap mbrC) rfl (HG1.out.own.alloc _) (wr.heap.size + 1) m rfl (heap_alloc_new2 wr _ _) hq8 ?qa2 ?_); rotate_left; intro gg cap' w5 hown5 hgrow hat; have HG5 := Lib.hid (HG1.out.grow hown5 hgrow); clear hown5 hgrow hat)
          case qa2 => have := HG.out.1.size; simp; omega
          go_roundw
          case rel => exact ⟨k2 + 1, ⟨some ⟨gg, 0, none⟩, lk.length + 1, cap'⟩, by rw [HN.out]; simp, by rw [HD.out], by go_num, by omega, by rw [HN.out]; exact HG5.out⟩
          case measure => simp [intOf]; omega
      · subst hc
        have hp1 : decide (k2 < k2) = false := decide_eq_false (by omega)
        have HD := Lib.hid (show decide (k2 < k2 + 1) = true from decide_eq_true (by omega))
        have HN := Lib.hid (show insK r.members k2 ⟨role, of⟩ (k2 + 1) = insK r.members k2 ⟨role, of⟩ k2 ++ [⟨role, of⟩] ++ [m] from by rw [insK_at _ _ _ hlt2, HX3.out])
        have hbf : (b1 || (b2 && b3)) = true := HX2.out.trans (decide_eq_true (Nat.le_refl _))
        obtain ⟨lk, hlk⟩ : ∃ lk, insK r.members k2 ⟨role, of⟩ k2 = lk := ⟨_, rfl⟩
        rw [hlk] at HG HG1 HN hdl ⊢
        rw [hp1]
        have hq8 : lk.length ≤ 1000000 := by omega
        have hq9 : (lk ++ [(⟨role, of⟩ : Mbr)]).length ≤ 1000000 := by simp; omega
        have K5 := Lib.hid (show ∀ w5 o, ((wr.alloc (.cells #[.string m.role, .string m.of] 61)).alloc o).grownBy w5 (Value.slice h.a lk.length h.c).ownBlock → (w5.cell? ⟨wr.heap.size, 0, none⟩ = some (.string m.role) ∧ w5.cell? ⟨wr.heap.size, 1, none⟩ = some (.string m.of) ∧ wr.heap.size < w5.heap.size ∧ wr.heap.size < w5.heap.size + 1) from fun w5 o hgw => by
          have hne : some wr.heap.size ≠ (Value.slice h.a lk.length h.c).ownBlock := fun e => by have := (HG.out.own.lt _ e.symm).2; omega
          have row := ((Kb.of_grown hgw).row ((rowAt_new8 wr [.string m.role, .string m.of] 61).aft ((Aft.refl _).alloc o)) (fun e => hne e.symm))
          exact ⟨row.cell (j := 0) rfl, row.cell (j := 1) rfl, row.1, by have := row.1; omega⟩)
        have hcs : (b1 = true) ∨ (b1 = false ∧ b2 = true ∧ b3 = true) := by revert hbf; cases b1 <;> cases b2 <;> cases b3 <;> simp
        clear hp1 hlk hbf
        rcases hcs with rfl | ⟨rfl, rfl, rfl⟩
        · go_wp2_with (first
            | (at_builtin; (refine app_mbr rfl _ _ rfl X.heap.size (.slice h.a lk.length h.c) lk.length (lk.flatMap mbrC) rfl (HG1.out.own.alloc _) (wr.heap.size + 1) ⟨role, of⟩ rfl (heap_alloc_new2 wr _ _) hq8 ?qb1 ?_); rotate_left; intro gg cap' w5 hown5 hgrow hat; have HG5 := Lib.hid (HG1.out.grow hown5 hgrow); obtain ⟨z0, z1, z2, z3⟩ := K5.out w5 _ hgrow; clear hown5 hgrow hat)
            | (at_builtin; go_must (refine app_mbr rfl _ _ rfl X.heap.size (.slice (some ⟨gg, 0, none⟩) (lk.length + 1) cap') (lk ++ [(⟨role, of⟩ : Mbr)]).length ((lk ++ [(⟨role, of⟩ : Mbr)]).flatMap mbrC) rfl (HG5.out.2.alloc _) w5.heap.size m rfl (heap_alloc_new w5 _) hq9 ?qc1 ?_); rotate_left; intro gg2 cap2 w6 hown6 hgrow6 hat6; have HG6 := Lib.hid (HG5.out.grow hown6 hgrow6); clear hown6 hgrow6 hat6))
          case qb1 => have := HG.out.1.size; simp; omega
          case qc1 => have := HG5.out.1.size; simp; omega
          go_roundw
          case rel => exact ⟨k2 + 1, ⟨some ⟨gg2, 0, none⟩, (lk ++ [(⟨role, of⟩ : Mbr)]).length + 1, cap2⟩, by rw [HN.out]; simp, by rw [HD.out], by go_num, by omega, by rw [HN.out]; exact HG6.out⟩
          case measure => simp [intOf]; omega
        · go_wp2_with (first
            | (at_builtin; (refine app_mbr rfl _ _ rfl X.heap.size (.slice h.a lk.length h.c) lk.length (lk.flatMap mbrC) rfl (HG1.out.own.alloc _) (wr.heap.size + 1) ⟨role, of⟩ rfl (heap_alloc_new2 wr _ _) hq8 ?qb2 ?_); rotate_left; intro gg cap' w5 hown5 hgrow hat; have HG5 := Lib.hid (HG1.out.grow hown5 hgrow); obtain ⟨z0, z1, z2, z3⟩ := K5.out w5 _ hgrow; clear hown5 hgrow hat)
            | (at_builtin; go_must (refine app_mbr rfl _ _ rfl X.heap.size (.slice (some ⟨gg, 0, none⟩) (lk.length + 1) cap') (lk ++ [(⟨role, of⟩ : Mbr)]).length ((lk ++ [(⟨role, of⟩ : Mbr)]).flatMap mbrC) rfl (HG5.out.2.alloc _) w5.heap.size m rfl (heap_alloc_new w5 _) hq9 ?qc2 ?_); rotate_left; intro gg2 cap2 w6 hown6 hgrow6 hat6; have HG6 := Lib.hid (HG5.out.grow hown6 hgrow6); clear hown6 hgrow6 hat6))
          case qb2 => have := HG.out.1.size; simp; omega
          case qc2 => have := HG5.out.1.size; simp; omega
          go_roundw
          case rel => exact ⟨k2 + 1, ⟨some ⟨gg2, 0, none⟩, (lk ++ [(⟨role, of⟩ : Mbr)]).length + 1, cap2⟩, by rw [HN.out]; simp, by rw [HD.out], by go_num, by omega, by rw [HN.out]; exact HG6.out⟩
          case measure => simp [intOf]; omega
      · have hp1 : decide (p < k2) = true := decide_eq_true (by omega)
        have HD := Lib.hid (show decide (p < k2 + 1) = true from decide_eq_true (by omega))
        have HN := Lib.hid (show insK r.members p ⟨role, of⟩ (k2 + 1) = insK r.members p ⟨role, of⟩ k2 ++ [m] from by rw [insK_gt _ _ _ _ hlt2 hc, HX3.out])
        obtain ⟨lk, hlk⟩ : ∃ lk, insK r.members p ⟨role, of⟩ k2 = lk := ⟨_, rfl⟩
        rw [hlk] at HG HG1 HN hdl ⊢
        rw [hp1]
        have hq8 : lk.length ≤ 1000000 := by omega
        clear hp1 hc hlk
        go_wp2_with (at_builtin; go_must (refine app_mbr rfl _ _ rfl X.heap.size (.slice h.a lk.length h.c) lk.length (lk.flatMap mbrC) rfl (HG1.out.own.alloc _) (wr.heap.size + 1) m rfl (heap_alloc_new2 wr _ _) hq8 ?qd ?_); rotate_left; intro gg cap' w5 hown5 hgrow hat; have HG5 := Lib.hid (HG1.out.grow hown5 hgrow); clear hown5 hgrow hat)
        case qd => have := HG.out.1.size; simp; omega
        go_roundw
        case rel => exact ⟨k2 + 1, ⟨some ⟨gg, 0, none⟩, lk.length + 1, cap'⟩, by rw [HN.out]; simp, by rw [HD.out], by go_num, by omega, by rw [HN.out]; exact HG5.out⟩
        case measure => simp [intOf]; omega
    · have hk3 : k2 = r.members.length := by omega
      subst hk3
      have hFF : chgF r (joinF ⟨role, of⟩ r) = ({ r with members := insAt r.members p ⟨role, of⟩ }, 0) := by
        rw [HF.out]
        first | rfl | simp
      have hne1 : ¬ w3.heap.size = w.heap.size + 1 := by have := HZ.out; omega
      have hne2 : ¬ w.heap.size + 1 = w3.heap.size := by omega
      have K5 := Lib.hid (show ∀ (l : List Mbr) (A5 : Option Addr) (n5 c5 : Nat) (w5 : World), l = insAt r.members p ⟨role, of⟩ → GrM X w5 ⟨A5, n5, c5⟩ l → ((w5.cell? ⟨w3.heap.size, 1, none⟩ = some (.slice hom.a r.members.length hom.c) ∧ w5.frozen? ⟨w3.heap.size, 1, none⟩ = false ∧ w3.heap.size < w5.heap.size) ∧ ((w5.setCell ⟨w3.heap.size, 1, none⟩ (.slice A5 n5 c5)).cell? ⟨w3.heap.size, 0, none⟩ = some (.slice hon.a r.names.length hon.c) ∧ (w5.setCell ⟨w3.heap.size, 1, none⟩ (.slice A5 n5 c5)).cell? ⟨w3.heap.size, 1, none⟩ = some (.slice A5 n5 c5)) ∧ (w5.cell? ⟨w.heap.size + 1, 0, none⟩ = some (.slice none 0 0) ∧ w5.cell? ⟨w.heap.size + 1, 1, none⟩ = some (.slice none 0 0) ∧ w5.frozen? ⟨w.heap.size + 1, 0, none⟩ = false ∧ w5.frozen? ⟨w.heap.size + 1, 1, none⟩ = false ∧ w.heap.size + 1 < w5.heap.size) ∧
          Hid (RowAt (((w5.setCell ⟨w3.heap.size, 1, none⟩ (.slice A5 n5 c5)).setCell ⟨w.heap.size + 1, 0, none⟩ (.slice hon.a r.names.length hon.c)).setCell ⟨w.heap.size + 1, 1, none⟩ (.slice A5 n5 c5)) (w.heap.size + 1) [.slice hon.a r.names.length hon.c, .slice A5 n5 c5] ∧
            ChgP8 w (chgF r (joinF ⟨role, of⟩ r)) (.returned (.tuple #[.agg #[.slice hon.a r.names.length hon.c, .slice A5 n5 c5], .int .i64 0])) (((w5.setCell ⟨w3.heap.size, 1, none⟩ (.slice A5 n5 c5)).setCell ⟨w.heap.size + 1, 0, none⟩ (.slice hon.a r.names.length hon.c)).setCell ⟨w.heap.size + 1, 1, none⟩ (.slice A5 n5 c5)))) from fun l A5 n5 c5 w5 hl g5 => by
        have ho := own_down g5.2 (B' := w3.heap.size + 1) (by omega)
        obtain ⟨e1, e2, e3, e4⟩ := KE.out w5 g5.1 ⟨A5, n5, c5⟩ l ho
        obtain ⟨y0, y1, y2, yz⟩ := KX.out w5 g5.1
        rw [HVN.out] at e1 e3 e4
        rw [hFF, ← hl]
        exact ⟨⟨y1, y2, yz⟩, ⟨e1.cell (j := 0) rfl, e1.cell (j := 1) rfl⟩, KO.out w5 (HAX.out.trans g5.1), Lib.hid ⟨e3, e4⟩⟩)
      clear hFF
      rcases Nat.lt_or_ge p r.members.length with hc | hc
      · have hp1 : decide (p < r.members.length) = true := decide_eq_true hc
        rw [insK_end _ _ _ hc] at HG ⊢
        rw [hp1]
        obtain ⟨A5, n5, c5⟩ := h
        have hv5 := own_slice HG.out.2
        simp only [Hd.v, Value.slice.injEq, true_and, and_true] at hv5
        subst hv5
        obtain ⟨⟨y0, y1, yz⟩, ⟨q0, q1⟩, ⟨s0, s1, s2, s3, sz⟩, HE⟩ := K5.out _ _ _ _ wr rfl HG.out
        clear hp1 hc
        go_wp2_with fail
        refine bodyPost_ret (results_cell_tmp (v := .agg #[.slice hon.a r.names.length hon.c, .slice A5 (insAt r.members p ⟨role, of⟩).length c5]) rfl _ rfl (lvRol_row HE.out.1)) rfl ?_
        exact HE.out.2
      · have hpe : p = r.members.length := by omega
        subst hpe
        have hp1 : decide (r.members.length < r.members.length) = false := decide_eq_false (by omega)
        have HN := Lib.hid (insK_end' r.members ⟨role, of⟩)
        obtain ⟨lk, hlk⟩ : ∃ lk, insK r.members r.members.length ⟨role, of⟩ r.members.length = lk := ⟨_, rfl⟩
        rw [hlk] at HG HN hdl ⊢
        rw [hp1]
        have hq8 : lk.length ≤ 1000000 := by omega
        clear hp1 hlk hc
        go_wp2_with (at_builtin; go_must (refine app_mbr rfl _ _ rfl X.heap.size (.slice h.a lk.length h.c) lk.length (lk.flatMap mbrC) rfl (HG.out.own.alloc _) wr.heap.size ⟨role, of⟩ rfl (heap_alloc_new wr _) hq8 ?qe ?_); rotate_left; intro gg cap' w5 hown5 hgrow hat; have HG5 := Lib.hid (HG.out.grow hown5 hgrow); obtain ⟨⟨y0, y1, yz⟩, ⟨q0, q1⟩, ⟨s0, s1, s2, s3, sz⟩, HE⟩ := K5.out _ _ _ _ w5 HN.out HG5.out; clear hown5 hgrow hat)
        case qe => have := HG.out.1.size; simp; omega
        refine bodyPost_ret (results_cell_tmp (v := .agg #[.slice hon.a r.names.length hon.c, .slice (some ⟨gg, 0, none⟩) (lk.length + 1) cap']) rfl _ rfl (lvRol_row HE.out.1)) rfl ?_
        exact HE.out.2
end Go.Proofs.Ytcdhljcpoopfaaa
