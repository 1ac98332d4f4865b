/- Contracts of the program, part 5. -/
import Derived.Test.YticjnndhpfdajaaGreatPart2
import Derived.OwnWalk
import Derived.Laws.AppendOwn
/- Rows that the call owns (append), and worlds that come after. -/
namespace Go.Proofs.YticjnndhpfdajaaGreat
open Go.RowKit
set_option linter.unusedVariables false
theorem own_aft {w w' : World} {base size n : Nat} {e : TypeId} {v : Value} {xs : List Value} (h : w.ownsRow base e size v n xs) (hw : Aft w w') : w'.ownsRow base e size v n xs := by
  refine ⟨h.1, ?_⟩
  rcases h.2 with hn | ⟨g, cap, cur, rfl, hb, hgg, rest⟩
  · exact .inl hn
  · have hlt : g < w.heap.size := (Array.getElem?_eq_some_iff.1 hgg).1
    exact .inr ⟨g, cap, cur, rfl, hb, (hw.block g hlt).trans hgg, rest⟩
theorem own_block {w : World} {base size n : Nat} {e : TypeId} {v : Value} {xs : List Value} (h : w.ownsRow base e size v n xs) : ∀ g, v.ownBlock = some g → base ≤ g := by
  intro g hg
  rcases h.2 with ⟨rfl, _⟩ | ⟨g', cap, cur, rfl, hb, _⟩
  · simp [Value.ownBlock] at hg
  · have : g' = g := by simpa [Value.ownBlock] using hg
    omega
/-- behind an append onto a row of the call's own -/
theorem aft_grown {W w w' : World} {size n : Nat} {e : TypeId} {v : Value} {xs : List Value} (h : w.ownsRow W.heap.size e size v n xs) (hW : Aft W w) (hg : w.grownBy w' v.ownBlock) : Aft W w' := by
  refine ⟨hg.os.trans hW.os, hg.tape.trans hW.tape, hg.output.trans hW.output, Nat.le_trans hW.size hg.size, fun k hk => ?_⟩
  have hlt : k < w.heap.size := Nat.lt_of_lt_of_le hk hW.size
  refine (hg.block k hlt ?_).trans (hW.block k hk)
  intro he
  have := own_block h k he.symm
  omega
theorem own_nil (w : World) (base : Nat) (e : TypeId) (size : Nat) : w.ownsRow base e size (.slice none 0 0) 0 [] := ⟨by simp, .inl ⟨rfl, rfl⟩⟩
theorem flatMap_get {α : Type} (f : α → List Value) (size : Nat) (hf : ∀ x, (f x).length = size) : ∀ (l : List α) (i j : Nat) (hi : i < l.length), j < size → (l.flatMap f)[i * size + j]? = (f l[i])[j]?
  | x :: l, 0, j, _, hj => by
    rw [List.flatMap_cons, Nat.zero_mul, Nat.zero_add, List.getElem?_append_left (by rw [hf]; exact hj)]
    rfl
  | x :: l, i + 1, j, hi, hj => by
    have e : (i + 1) * size + j = size + (i * size + j) := by rw [Nat.succ_mul]; omega
    rw [List.flatMap_cons, e, List.getElem?_append_right (by rw [hf]; omega), hf, Nat.add_sub_cancel_left]
    exact flatMap_get f size hf l i j (by simpa using hi) hj
/-- an owned row is read as a slice -/
theorem own_slAt {α : Type} {w : World} {base size : Nat} {e : TypeId} {v : Value} {l : List α} (f : α → List Value) (R : World → List Value → α → Prop) (hf : ∀ x, (f x).length = size) (h : w.ownsRow base e size v l.length (l.flatMap f)) (hR : ∀ x ∈ l, R w (f x) x)
    (hs : Small (l.length * 16)) : ∃ A cap, v = .slice A l.length cap ∧ SlAt w size R A cap l := by
  rcases h.2 with ⟨rfl, hn⟩ | ⟨g, cap, cur, rfl, hb, hgg, hnc, _, hcs, htk⟩
  · have : l = [] := List.eq_nil_of_length_eq_zero hn
    subst this
    exact ⟨none, 0, rfl, slAt_nil⟩
  · have hlt : g < w.heap.size := (Array.getElem?_eq_some_iff.1 hgg).1
    refine ⟨some ⟨g, 0, none⟩, cap, rfl, hnc, hs, fun i hi => ⟨g, 0, f l[i], rfl, hlt, hf _, hR _ (List.getElem_mem hi), fun j hj => ?_⟩⟩
    rw [← flatMap_get f size hf l i j hi hj, ← htk]
    have hlt2 : i * size + j < l.length * size := by
      have : (i + 1) * size ≤ l.length * size := Nat.mul_le_mul_right _ hi
      rw [Nat.succ_mul] at this; omega
    rw [List.getElem?_take_of_lt hlt2]
    simp [World.cell?, hgg]
end Go.Proofs.YticjnndhpfdajaaGreat
/- Results that lie in variables of their own. -/
namespace Go.Proofs.YticjnndhpfdajaaGreat
open Go.RowKit
theorem results_cell {fn : Func} {a : Tmp} {t : TypeId} (h : fn.results = #[.cell a t]) (tmps : Array Value) {P : Program} {w : World} {p : Addr} {v : Value} (ha : tmps.getD a undef = .pointer (some p)) (hl : (loadVar t p).run P w = .ok v w) :
    (results fn tmps).run P w = .ok v w := by
  rw [Array.getD_eq_getD_getElem?] at ha
  simp [results, h, ha, asAddr, hl]
theorem results_cell_tmp {fn : Func} {a u : Tmp} {t : TypeId} (h : fn.results = #[.cell a t, .tmp u]) (tmps : Array Value) {P : Program} {w : World} {p : Addr} {v : Value} (ha : tmps.getD a undef = .pointer (some p)) (hl : (loadVar t p).run P w = .ok v w) :
    (results fn tmps).run P w = .ok (.tuple #[v, tmps.getD u undef]) w := by
  rw [Array.getD_eq_getD_getElem?] at ha
  simp [results, h, ha, asAddr, hl]
/-- a block whose cells are those of a list -/
theorem slAt_box {α : Type} {size : Nat} {R : World → List Value → α → Prop} {w : World} {b cap : Nat} (l : List α) (f : α → List Value) (c : Array Value) (hb : b < w.heap.size) (hc : ∀ o, w.cell? ⟨b, o, none⟩ = c[o]?) (e : c.toList = l.flatMap f) (hf : ∀ x, (f x).length = size)
    (hR : ∀ x ∈ l, R w (f x) x) (hs : Small (l.length * 16)) (hcap : l.length ≤ cap) : SlAt w size R (some ⟨b, 0, none⟩) cap l :=
  ⟨hcap, hs, fun i hi => ⟨b, 0, f l[i], rfl, hb, hf _, hR _ (List.getElem_mem hi), fun j hj => by
    rw [← flatMap_get f size hf l i j hi hj, ← e, hc]; simp⟩⟩
theorem slAt_one {α : Type} {size : Nat} {R : World → List Value → α → Prop} {w : World} {b cap : Nat} (x : α) (cs : List Value) (c : Array Value) (hb : b < w.heap.size) (hc : ∀ o, w.cell? ⟨b, o, none⟩ = c[o]?) (e : c.toList = cs) (hf : cs.length = size)
    (hR : R w cs x) (hcap : 1 ≤ cap) : SlAt w size R (some ⟨b, 0, none⟩) cap [x] :=
  ⟨hcap, by simp [Small], fun i hi => by
    have : i = 0 := by simpa using hi
    subst this
    exact ⟨b, 0, cs, rfl, hb, hf, hR, fun j hj => by rw [← e, hc]; simp⟩⟩
theorem lvObj_box {w W : World} {a b : Value} {t : TypeId} (h : Aft (w.alloc (.cells #[a, b] t)) W) : (loadVar 25 ⟨w.heap.size, 0, none⟩).run Tryz.prog W = .ok (.agg #[a, b]) W := by
  obtain ⟨hb, _⟩ := aft_box h
  have h1 := run_lvObj W w.heap.size 0 (by rw [hb]; rfl) (by rw [hb]; rfl)
  rw [hb, hb] at h1
  exact h1
end Go.Proofs.YticjnndhpfdajaaGreat
/- Rows of memory of our own, in chunks of an element's cells. -/
namespace Go.Proofs.YticjnndhpfdajaaGreat
open Go.RowKit
set_option linter.unusedVariables false
theorem Aft.cell_kept {w w' : World} (h : Aft w w') {a : Addr} {v : Value} (hc : w.cell? a = some v) : w'.cell? a = some v := (Below.cell h (World.block_lt_of_cell? w a hc)).trans hc
/-- a block that may be written and that begins with these cells -/
def RowAt (w : World) (g : Nat) (xs : List Value) : Prop := g < w.heap.size ∧ (∀ j, j < xs.length → w.cell? ⟨g, j, none⟩ = xs[j]?) ∧ ∀ j, j < xs.length → w.frozen? ⟨g, j, none⟩ = false
theorem RowAt.aft {w w' : World} {g : Nat} {xs : List Value} (h : RowAt w g xs) (a : Aft w w') : RowAt w' g xs :=
  ⟨Nat.lt_of_lt_of_le h.1 a.size, fun j hj => (Below.cell a (p := ⟨g, j, none⟩) h.1).trans (h.2.1 j hj), fun j hj => (Below.frozen a (p := ⟨g, j, none⟩) h.1).trans (h.2.2 j hj)⟩
theorem RowAt.cell {w : World} {g : Nat} {xs : List Value} (h : RowAt w g xs) {j : Nat} {v : Value} (hj : xs[j]? = some v) : w.cell? ⟨g, j, none⟩ = some v :=
  (h.2.1 j (List.getElem?_eq_some_iff.1 hj).1).trans hj
theorem RowAt.set {w : World} {g : Nat} {xs : List Value} (h : RowAt w g xs) (j : Nat) (v : Value) (hj : j < xs.length) : RowAt (w.setCell ⟨g, j, none⟩ v) g (xs.set j v) := by
  have hc : w.cell? ⟨g, j, none⟩ = some xs[j] := (h.2.1 j hj).trans (List.getElem?_eq_getElem hj)
  refine ⟨by simpa using h.1, fun k hk => ?_, fun k hk => ?_⟩
  · rw [List.length_set] at hk
    by_cases e : k = j
    · subst e
      rw [World.cell?_setCell_same (h := hc), List.getElem?_set_self hj]
    · rw [World.cell?_setCell_other (h := by intro e2; injection e2 with _ e3 _; exact e e3.symm), List.getElem?_set_ne (fun e2 => e e2.symm)]
      exact h.2.1 k hk
  · rw [List.length_set] at hk
    rw [World.frozen?_setCell]; exact h.2.2 k hk
/-- a slice value that leads to such a row -/
def RowV (w : World) (base : Nat) (v : Value) (n : Nat) (xs : List Value) : Prop := ∃ A cap, v = .slice A n cap ∧ n ≤ cap ∧ (0 < n → ∃ g, A = some ⟨g, 0, none⟩ ∧ base ≤ g ∧ RowAt w g xs)
theorem RowV.aft {w w' : World} {base n : Nat} {v : Value} {xs : List Value} (h : RowV w base v n xs) (a : Aft w w') : RowV w' base v n xs := by
  obtain ⟨A, cap, e, hc, hg⟩ := h
  exact ⟨A, cap, e, hc, fun h0 => by obtain ⟨g, hA, hb, hr⟩ := hg h0; exact ⟨g, hA, hb, hr.aft a⟩⟩
theorem own_rowV {w : World} {base size n : Nat} {e : TypeId} {v : Value} {xs : List Value} (h : w.ownsRow base e size v n xs) : RowV w base v n xs := by
  rcases h.2 with ⟨rfl, hn⟩ | ⟨g, cap, cur, rfl, hb, hgg, hnc, _, hcs, htk⟩
  · exact ⟨none, 0, by rw [hn], by omega, fun h0 => by omega⟩
  · refine ⟨_, cap, rfl, hnc, fun _ => ⟨g, rfl, hb, (Array.getElem?_eq_some_iff.1 hgg).1, fun j hj => ?_, fun j _ => ?_⟩⟩
    · rw [h.1] at hj
      rw [← htk, List.getElem?_take_of_lt hj]
      simp [World.cell?, hgg]
    · simp [World.frozen?, hgg]

section
variable {α : Type} {size : Nat} {R : World → List Value → α → Prop} {w w' : World}
theorem flat_len : ∀ (css : List (List Value)), (∀ c ∈ css, c.length = size) → css.flatten.length = css.length * size
  | [], _ => by simp
  | c :: css, h => by
    rw [List.flatten_cons, List.length_append, h c (by simp), flat_len css fun x hx => h x (by simp [hx]), List.length_cons, Nat.succ_mul]; omega
theorem flat_get : ∀ (css : List (List Value)), (∀ c ∈ css, c.length = size) → ∀ i j (hi : i < css.length), j < size → css.flatten[i * size + j]? = css[i][j]?
  | [], _, i, j, hi, _ => by simp at hi
  | c :: css, h, 0, j, _, hj => by
    rw [List.flatten_cons, Nat.zero_mul, Nat.zero_add, List.getElem?_append_left (by rw [h c (by simp)]; exact hj)]; rfl
  | c :: css, h, i + 1, j, hi, hj => by
    have e : (i + 1) * size + j = size + (i * size + j) := by rw [Nat.succ_mul]; omega
    rw [List.flatten_cons, e, List.getElem?_append_right (by rw [h c (by simp)]; omega), h c (by simp), Nat.add_sub_cancel_left]
    exact flat_get css (fun x hx => h x (by simp [hx])) i j (by simpa using hi) hj
theorem flat_set : ∀ (css : List (List Value)), (∀ c ∈ css, c.length = size) → ∀ i j (hi : i < css.length) (v : Value), j < size → css.flatten.set (i * size + j) v = (css.set i (css[i].set j v)).flatten
  | [], _, i, j, hi, _, _ => by simp at hi
  | c :: css, h, 0, j, _, v, hj => by
    rw [List.flatten_cons, Nat.zero_mul, Nat.zero_add, List.set_append_left _ _ (by rw [h c (by simp)]; exact hj)]; rfl
  | c :: css, h, i + 1, j, hi, v, hj => by
    have e : (i + 1) * size + j = size + (i * size + j) := by rw [Nat.succ_mul]; omega
    rw [List.flatten_cons, e, List.set_append_right _ _ (by rw [h c (by simp)]; omega), h c (by simp), Nat.add_sub_cancel_left, flat_set css (fun x hx => h x (by simp [hx])) i j (by simpa using hi) v hj]
    rfl
/-- the cells of each element -/
def Chunks (w : World) (size : Nat) (R : World → List Value → α → Prop) (css : List (List Value)) (l : List α) : Prop := css.length = l.length ∧ ∀ i (h : i < css.length) (h' : i < l.length), css[i].length = size ∧ R w css[i] l[i]
theorem Chunks.all {css : List (List Value)} {l : List α} (h : Chunks w size R css l) : ∀ c ∈ css, c.length = size := by
  intro c hc
  obtain ⟨i, hi, rfl⟩ := List.getElem_of_mem hc
  exact (h.2 i hi (by rw [← h.1]; exact hi)).1
theorem Chunks.len {css : List (List Value)} {l : List α} (h : Chunks w size R css l) : css.flatten.length = l.length * size := by rw [flat_len css h.all, h.1]
theorem Chunks.aft {css : List (List Value)} {l : List α} (h : Chunks w size R css l) (hR : ∀ cs x, R w cs x → R w' cs x) : Chunks w' size R css l := ⟨h.1, fun i h1 h2 => ⟨(h.2 i h1 h2).1, hR _ _ (h.2 i h1 h2).2⟩⟩
theorem Chunks.nil : Chunks w size R [] ([] : List α) := ⟨rfl, fun i h => by simp at h⟩
theorem Chunks.snoc {css : List (List Value)} {l : List α} (h : Chunks w size R css l) {c : List Value} {x : α} (hl : c.length = size) (hR : R w c x) : Chunks w size R (css ++ [c]) (l ++ [x]) := by
  refine ⟨by simp [h.1], fun i h1 h2 => ?_⟩
  by_cases hi : i < css.length
  · rw [List.getElem_append_left hi, List.getElem_append_left (by rw [← h.1]; exact hi)]
    exact h.2 i hi (by rw [← h.1]; exact hi)
  · have e : i = css.length := by simp at h1; omega
    subst e
    have e2 : l.length = css.length := h.1.symm
    simp only [List.getElem_append_right (Nat.le_refl _), Nat.sub_self, List.getElem_cons_zero]
    rw [List.getElem_append_right (by omega)]
    simp only [e2, Nat.sub_self, List.getElem_cons_zero]
    exact ⟨hl, hR⟩
theorem Chunks.set {css : List (List Value)} {l : List α} (h : Chunks w size R css l) {k : Nat} {c : List Value} {x : α} (hl : c.length = size) (hR : R w c x) : Chunks w size R (css.set k c) (l.set k x) := by
  refine ⟨by simp [h.1], fun i h1 h2 => ?_⟩
  simp only [List.length_set] at h1 h2
  by_cases e : k = i
  · subst e
    simp only [List.getElem_set_self]
    exact ⟨hl, hR⟩
  · rw [List.getElem_set_ne e, List.getElem_set_ne e]
    exact h.2 i h1 h2
theorem SlAt.css {A : Option Addr} {cap : Nat} {l : List α} (h : SlAt w size R A cap l) (h0 : 0 < l.length) (hs : 0 < size) :
    ∃ b off css, A = some ⟨b, off, none⟩ ∧ b < w.heap.size ∧ Chunks w size R css l ∧ ∀ p, p < l.length * size → w.cell? ⟨b, off + p, none⟩ = css.flatten[p]? := by
  obtain ⟨b, off, cs0, hA, hb, _⟩ := h.2.2 0 h0
  have hex : ∀ i, i < l.length → ∃ cs : List Value, ∀ hi : i < l.length, cs.length = size ∧ R w cs l[i] ∧ ∀ j, j < size → w.cell? ⟨b, off + (i * size + j), none⟩ = cs[j]? := by
    intro i hi
    obtain ⟨b', off', cs, hA', hb', hl, hR, hc⟩ := h.2.2 i hi
    rw [hA] at hA'
    simp only [Option.some.injEq, Addr.mk.injEq, and_true] at hA'
    obtain ⟨rfl, rfl⟩ := hA'
    exact ⟨cs, fun _ => ⟨hl, hR, hc⟩⟩
  obtain ⟨css, hcl, hp⟩ := choose_list l.length _ hex
  have hch : Chunks w size R css l := ⟨hcl, fun i h1 h2 => ⟨(hp i h1 h2).1, (hp i h1 h2).2.1⟩⟩
  refine ⟨b, off, css, hA, hb, hch, fun p hpl => ?_⟩
  have e : p = p / size * size + p % size := by rw [Nat.mul_comm]; exact (Nat.div_add_mod p size).symm
  have hi : p / size < l.length := Nat.div_lt_of_lt_mul (by rw [Nat.mul_comm]; exact hpl)
  have hj : p % size < size := Nat.mod_lt _ hs
  have h1 := (hp (p / size) (by rw [hcl]; exact hi) hi).2.2 (p % size) hj
  rw [← e] at h1
  rw [h1, ← flat_get css hch.all (p / size) (p % size) (by rw [hcl]; exact hi) hj, ← e]
theorem row_slAt {g cap : Nat} {css : List (List Value)} {l : List α} (hr : RowAt w g css.flatten) (hc : Chunks w size R css l) (hcap : l.length ≤ cap) (hs : Small (l.length * 16)) : SlAt w size R (some ⟨g, 0, none⟩) cap l := by
  refine ⟨hcap, hs, fun i hi => ?_⟩
  have hi' : i < css.length := by rw [hc.1]; exact hi
  refine ⟨g, 0, css[i], rfl, hr.1, (hc.2 i hi' hi).1, (hc.2 i hi' hi).2, fun j hj => ?_⟩
  rw [Nat.zero_add, ← flat_get css hc.all i j hi' hj]
  refine hr.2.1 _ ?_
  rw [hc.len]
  have : (i + 1) * size ≤ l.length * size := Nat.mul_le_mul_right _ hi
  rw [Nat.succ_mul] at this; omega
theorem rowV_slAt {base : Nat} {v : Value} {css : List (List Value)} {l : List α} (h : RowV w base v l.length css.flatten) (hc : Chunks w size R css l) (hs : Small (l.length * 16)) : ∃ A cap, v = .slice A l.length cap ∧ SlAt w size R A cap l := by
  obtain ⟨A, cap, e, hcap, hg⟩ := h
  by_cases h0 : 0 < l.length
  · obtain ⟨g, rfl, _, hr⟩ := hg h0
    exact ⟨_, cap, e, row_slAt hr hc hcap hs⟩
  · have : l = [] := List.eq_nil_of_length_eq_zero (by omega)
    subst this
    exact ⟨A, cap, e, hcap, hs, fun i hi => by simp at hi⟩
/-- one cell of one element is written -/
theorem RowAt.put {g : Nat} {css : List (List Value)} (hr : RowAt w g css.flatten) (hl : ∀ c ∈ css, c.length = size) (i j : Nat) (hi : i < css.length) (hj : j < size) (v : Value) : RowAt (w.setCell ⟨g, i * size + j, none⟩ v) g (css.set i (css[i].set j v)).flatten := by
  rw [← flat_set css hl i j hi v hj]
  refine hr.set _ v ?_
  rw [flat_len css hl]
  have : (i + 1) * size ≤ css.length * size := Nat.mul_le_mul_right _ hi
  rw [Nat.succ_mul] at this; omega
end
end Go.Proofs.YticjnndhpfdajaaGreat
