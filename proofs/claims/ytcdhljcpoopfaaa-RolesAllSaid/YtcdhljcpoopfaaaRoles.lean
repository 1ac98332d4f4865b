/- Roles: what can be reached, in plain words. -/
import Derived.Test.YtcdhljcpoopfaaaMine2
namespace Go.Proofs.Ytcdhljcpoopfaaa
open Go.RowKit
set_option linter.unusedVariables false
structure Mbr where
  role : ByteArray
  of : ByteArray
structure Rls where
  names : List ByteArray
  members : List Mbr
def MbrR (_ : World) (cs : List Value) (m : Mbr) : Prop := cs = [.string m.role, .string m.of] ∧ Small m.role.size ∧ Small m.of.size
def mbrC (m : Mbr) : List Value := [.string m.role, .string m.of]
abbrev Txt := List UInt8
def txt (s : ByteArray) : Txt := s.data.toList
/-- whom a role joins -/
def succ (ms : List Mbr) (s : Txt) : List ByteArray := (ms.filter fun m => txt m.role == s).map (·.of)
inductive Reach (ms : List Mbr) : Txt → Txt → Prop
  | refl (s : Txt) : Reach ms s s
  | step {s t u : Txt} {x : ByteArray} : Reach ms s t → x ∈ succ ms t → txt x = u → Reach ms s u
theorem Reach.trans {ms : List Mbr} {s t u : Txt} (h1 : Reach ms s t) (h2 : Reach ms t u) : Reach ms s u := by
  induction h2 with
  | refl => exact h1
  | step _ hx he ih => exact .step ih hx he
theorem Reach.head {ms : List Mbr} {s u : Txt} {x : ByteArray} (hx : x ∈ succ ms s) (h : Reach ms (txt x) u) : Reach ms s u := (Reach.step (.refl s) hx rfl).trans h
/-- a set that holds s and all that each of its own joins holds all that s reaches -/
theorem Reach.closed {ms : List Mbr} {s u : Txt} (h : Reach ms s u) (p : Txt → Prop) (h0 : p s) (hc : ∀ t, p t → ∀ x ∈ succ ms t, p (txt x)) : p u := by
  induction h with
  | refl => exact h0
  | step _ hx he ih => rw [← he]; exact hc _ ih _ hx
/-- how many edges of those not yet seen -/
def phi (ms : List Mbr) (U : List Txt) (c : Txt → Nat) : Nat := (U.map fun s => if c s = 0 then (succ ms s).length else 0).sum
def mu (U : List Txt) (c : Txt → Nat) : Nat := (U.filter fun s => c s == 0).length
theorem phi_mono {ms : List Mbr} {U : List Txt} {c c' : Txt → Nat} (h : ∀ s, c s ≤ c' s) : phi ms U c' ≤ phi ms U c := by
  induction U with
  | nil => simp [phi]
  | cons a U ih =>
    unfold phi at ih ⊢
    simp only [List.map_cons, List.sum_cons]
    have := h a
    by_cases h1 : c a = 0
    · by_cases h2 : c' a = 0 <;> simp [h1, h2] <;> omega
    · have h2 : c' a ≠ 0 := by omega
      simp [h1, h2]; omega
theorem mu_mono {U : List Txt} {c c' : Txt → Nat} (h : ∀ s, c s ≤ c' s) : mu U c' ≤ mu U c := by
  induction U with
  | nil => simp [mu]
  | cons a U ih =>
    unfold mu at ih ⊢
    have := h a
    by_cases h1 : c a = 0
    · by_cases h2 : c' a = 0 <;> simp [h1, h2] <;> omega
    · have h2 : c' a ≠ 0 := by omega
      simp [h1, h2]; omega
/-- s is seen once more -/
def bump (c : Txt → Nat) (s : Txt) : Txt → Nat := fun x => if x = s then c s + 1 else c x
theorem bump_le (c : Txt → Nat) (s x : Txt) : c x ≤ bump c s x := by unfold bump; split <;> simp_all
theorem phi_bump {ms : List Mbr} {U : List Txt} {c : Txt → Nat} {s : Txt} (hs : s ∈ U) (h0 : c s = 0) : phi ms U (bump c s) + (succ ms s).length ≤ phi ms U c := by
  induction U with
  | nil => simp at hs
  | cons a U ih =>
    unfold phi at ih ⊢
    simp only [List.map_cons, List.sum_cons]
    by_cases e : a = s
    · subst e
      have hm : phi ms U (bump c a) ≤ phi ms U c := phi_mono (bump_le c a)
      unfold phi at hm
      have hb : bump c a a ≠ 0 := by simp [bump]
      simp only [h0, if_true, if_neg hb]
      omega
    · have hs' : s ∈ U := (List.mem_cons.1 hs).resolve_left (fun h => e h.symm)
      have := ih hs'
      have hb : bump c s a = c a := by simp [bump, e]
      rw [hb]; omega
theorem mu_bump {U : List Txt} {c : Txt → Nat} {s : Txt} (hs : s ∈ U) (h0 : c s = 0) : mu U (bump c s) < mu U c := by
  induction U with
  | nil => simp at hs
  | cons a U ih =>
    unfold mu at ih ⊢
    by_cases e : a = s
    · subst e
      have hm : mu U (bump c a) ≤ mu U c := mu_mono (bump_le c a)
      unfold mu at hm
      have hb : (bump c a a == 0) = false := by simp [bump]
      simp only [List.filter_cons, h0, hb, beq_self_eq_true, if_true, Bool.false_eq_true, if_false, List.length_cons]
      omega
    · have hs' : s ∈ U := (List.mem_cons.1 hs).resolve_left (fun h => e h.symm)
      have := ih hs'
      have hb : bump c s a = c a := by simp [bump, e]
      simp only [List.filter_cons, hb]
      split <;> simp <;> omega
/-- what a call of 'walk' at r makes of the counts -/
structure Grown (ms : List Mbr) (U : List Txt) (r : Txt) (c : Txt → Nat) (n : Nat) (c' : Txt → Nat) (n' : Nat) : Prop where
  le : ∀ s, c s ≤ c' s
  has : 0 < c' r
  bd : ∀ s, c' s ≤ n'
  src : ∀ s, 0 < c' s → 0 < c s ∨ Reach ms r s
  shut : ∀ s, 0 < c' s → 0 < c s ∨ ∀ x ∈ succ ms s, 0 < c' (txt x)
  size : n' + phi ms U c' ≤ n + 1 + phi ms U c
/-- the same, after k of those that r joins -/
structure Mid (ms : List Mbr) (U : List Txt) (r : Txt) (c : Txt → Nat) (n k : Nat) (c' : Txt → Nat) (n' : Nat) : Prop where
  le : ∀ s, c s ≤ c' s
  has : 0 < c' r
  bd : ∀ s, c' s ≤ n'
  src : ∀ s, 0 < c' s → 0 < c s ∨ Reach ms r s
  did : ∀ x ∈ (succ ms r).take k, 0 < c' (txt x)
  shut : ∀ s, 0 < c' s → 0 < c s ∨ s = r ∨ ∀ x ∈ succ ms s, 0 < c' (txt x)
  size : n' + phi ms U c' + (succ ms r).length ≤ n + 1 + k + phi ms U c
  mu : mu U c' < mu U c
theorem bump_pos {c : Txt → Nat} {r s : Txt} (h : 0 < bump c r s) : 0 < c s ∨ s = r := by
  unfold bump at h
  by_cases e : s = r
  · exact .inr e
  · rw [if_neg e] at h; exact .inl h
theorem bump_self (c : Txt → Nat) (r : Txt) : bump c r r = c r + 1 := by simp [bump]
theorem bump_bd {c : Txt → Nat} {r : Txt} {n : Nat} (h : ∀ s, c s ≤ n) (s : Txt) : bump c r s ≤ n + 1 := by
  unfold bump
  have h1 := h s
  have h2 := h r
  split <;> omega
theorem Grown.again {ms : List Mbr} {U : List Txt} {r : Txt} {c : Txt → Nat} {n : Nat} (h : ∀ s, c s ≤ n) (h0 : 0 < c r) : Grown ms U r c n (bump c r) (n + 1) :=
  ⟨bump_le c r, by rw [bump_self]; omega, bump_bd h, fun s hs => by
    rcases bump_pos hs with h1 | rfl
    · exact .inl h1
    · exact .inl h0, fun s hs => by
    rcases bump_pos hs with h1 | rfl
    · exact .inl h1
    · exact .inl h0, by have := phi_mono (ms := ms) (U := U) (bump_le c r); omega⟩
theorem Mid.start {ms : List Mbr} {U : List Txt} {r : Txt} {c : Txt → Nat} {n : Nat} (h : ∀ s, c s ≤ n) (hr : r ∈ U) (h0 : c r = 0) : Mid ms U r c n 0 (bump c r) (n + 1) :=
  ⟨bump_le c r, by rw [bump_self]; omega, bump_bd h, fun s hs => by
    rcases bump_pos hs with h1 | rfl
    · exact .inl h1
    · exact .inr (.refl _), fun x hx => by simp at hx, fun s hs => by
    rcases bump_pos hs with h1 | rfl
    · exact .inl h1
    · exact .inr (.inl rfl), by have := phi_bump (ms := ms) hr h0; omega, mu_bump hr h0⟩
theorem Mid.step {ms : List Mbr} {U : List Txt} {r : Txt} {c c1 c2 : Txt → Nat} {n n1 n2 k : Nat} (h : Mid ms U r c n k c1 n1) (hk : k < (succ ms r).length) (g : Grown ms U (txt (succ ms r)[k]) c1 n1 c2 n2) : Mid ms U r c n (k + 1) c2 n2 :=
  ⟨fun s => Nat.le_trans (h.le s) (g.le s), Nat.lt_of_lt_of_le h.has (g.le r), g.bd, fun s hs => by
    rcases g.src s hs with h1 | h1
    · exact h.src s h1
    · exact .inr (.head (List.getElem_mem hk) h1), fun x hx => by
    rw [List.take_succ_eq_append_getElem hk, List.mem_append, List.mem_singleton] at hx
    rcases hx with hx | rfl
    · exact Nat.lt_of_lt_of_le (h.did x hx) (g.le _)
    · exact g.has, fun s hs => by
    rcases g.shut s hs with h1 | h1
    · rcases h.shut s h1 with h2 | h2 | h2
      · exact .inl h2
      · exact .inr (.inl h2)
      · exact .inr (.inr fun x hx => Nat.lt_of_lt_of_le (h2 x hx) (g.le _))
    · exact .inr (.inr h1), by have := h.size; have := g.size; omega, Nat.lt_of_le_of_lt (mu_mono g.le) h.mu⟩
theorem Mid.all {ms : List Mbr} {U : List Txt} {r : Txt} {c c' : Txt → Nat} {n n' k : Nat} (h : Mid ms U r c n k c' n') (hk : k = (succ ms r).length) : Grown ms U r c n c' n' :=
  ⟨h.le, h.has, h.bd, h.src, fun s hs => by
    rcases h.shut s hs with h1 | rfl | h1
    · exact .inl h1
    · exact .inr fun x hx => h.did x (by rw [hk, List.take_length]; exact hx)
    · exact .inr h1, by have := h.size; omega⟩
/-- from no counts: what is counted is what is reached -/
theorem Grown.reach {ms : List Mbr} {U : List Txt} {r : Txt} {n : Nat} {c' : Txt → Nat} {n' : Nat} (g : Grown ms U r (fun _ => 0) n c' n') (s : Txt) : 0 < c' s ↔ Reach ms r s := by
  constructor
  · intro h
    rcases g.src s h with h1 | h1
    · omega
    · exact h1
  · intro h
    refine h.closed (fun t => 0 < c' t) g.has fun t ht x hx => ?_
    rcases g.shut t ht with h1 | h1
    · omega
    · exact h1 x hx
end Go.Proofs.Ytcdhljcpoopfaaa
