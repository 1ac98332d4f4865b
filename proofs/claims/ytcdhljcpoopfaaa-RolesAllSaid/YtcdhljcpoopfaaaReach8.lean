/- What the document's Reach finds, in plain words. -/
import Derived.Test.YtcdhljcpoopfaaaRight8
namespace Go.Proofs.Ytcdhljcpoopfaaa
open Go.RowKit
set_option linter.unusedVariables false
theorem eqS_txt (a b : ByteArray) : eqS a b = true ↔ txt a = txt b := by
  unfold txt
  rw [← cmpS_eq]
  exact cmpB_eq _ _
theorem inB_iff (S : List ByteArray) (s : ByteArray) : inB S s = true ↔ txt s ∈ S.map txt := by
  unfold inB
  rw [List.any_eq_true, List.mem_map]
  exact ⟨fun ⟨x, hx, h⟩ => ⟨x, hx, (eqS_txt _ _).1 h⟩, fun ⟨x, hx, h⟩ => ⟨x, hx, (eqS_txt _ _).2 h⟩⟩
/-- what is found so far: no two alike, all reached -/
structure Fnd (ms : List Mbr) (role : ByteArray) (S : List ByteArray) : Prop where
  nd : (S.map txt).Nodup
  has : txt role ∈ S.map txt
  sub : ∀ t ∈ S.map txt, t ∈ txt role :: ms.map fun m => txt m.of
  rch : ∀ t ∈ S.map txt, Reach ms (txt role) t
theorem Fnd.start (ms : List Mbr) (role : ByteArray) : Fnd ms role [role] := ⟨by simp, by simp, by simp, fun t ht => by simp at ht; subst ht; exact .refl _⟩
theorem Fnd.add {ms : List Mbr} {role : ByteArray} {S : List ByteArray} (h : Fnd ms role S) {m : Mbr} (hm : m ∈ ms) (h1 : inB S m.role = true) (h2 : inB S m.of = false) : Fnd ms role (S ++ [m.of]) := by
  have h3 : txt m.of ∉ S.map txt := fun h => by rw [← inB_iff] at h; rw [h] at h2; cases h2
  have h4 := (inB_iff _ _).1 h1
  refine ⟨?_, ?_, ?_, ?_⟩
  · rw [List.map_append, List.nodup_append]
    exact ⟨h.nd, by simp, fun a ha b hb e => by simp at hb; subst hb; subst e; exact h3 ha⟩
  · rw [List.map_append]; exact List.mem_append.2 (.inl h.has)
  · intro t ht
    rw [List.map_append, List.mem_append] at ht
    rcases ht with ht | ht
    · exact h.sub t ht
    · simp at ht; subst ht
      exact List.mem_cons.2 (.inr (List.mem_map.2 ⟨m, hm, rfl⟩))
  · intro t ht
    rw [List.map_append, List.mem_append] at ht
    rcases ht with ht | ht
    · exact h.rch t ht
    · simp at ht; subst ht
      refine .step (x := m.of) (h.rch _ h4) ?_ rfl
      unfold succ
      exact List.mem_map.2 ⟨m, List.mem_filter.2 ⟨hm, by simp⟩, rfl⟩
/-- closed: what is found is what is reached -/
theorem Fnd.all {ms : List Mbr} {role : ByteArray} {S : List ByteArray} (h : Fnd ms role S) (hc : ∀ m ∈ ms, inB S m.role = true → inB S m.of = true) (t : ByteArray) : inB S t = reachB ms role t := by
  have key : txt t ∈ S.map txt ↔ Reach ms (txt role) (txt t) := by
    refine ⟨h.rch _, fun hr => hr.closed (fun u => u ∈ S.map txt) h.has fun u hu x hx => ?_⟩
    unfold succ at hx
    obtain ⟨m, hm, rfl⟩ := List.mem_map.1 hx
    obtain ⟨hm, he⟩ := List.mem_filter.1 hm
    have he : txt m.role = u := by simpa using he
    exact (inB_iff _ _).1 (hc m hm ((inB_iff _ _).2 (by rw [he]; exact hu)))
  unfold reachB
  by_cases hr : Reach ms (txt role) (txt t)
  · simp only [hr, decide_true]
    exact (inB_iff _ _).2 (key.2 hr)
  · simp only [hr, decide_false]
    rw [Bool.eq_false_iff]
    exact fun e => hr (key.1 ((inB_iff _ _).1 e))
theorem nodup_le {α : Type} [DecidableEq α] : ∀ {l l' : List α}, l.Nodup → (∀ x ∈ l, x ∈ l') → l.length ≤ l'.length
  | [], l', _, _ => Nat.zero_le _
  | a :: l, l', hn, hs => by
    rw [List.nodup_cons] at hn
    have h1 : a ∈ l' := hs a (by simp)
    have h2 := nodup_le (l := l) (l' := l'.erase a) hn.2 fun x hx => (List.mem_erase_of_ne (by intro e; subst e; exact hn.1 hx)).2 (hs x (by simp [hx]))
    have h3 := List.length_erase_of_mem h1
    have h4 := List.length_pos_of_mem h1
    simp only [List.length_cons]
    omega
theorem Fnd.len {ms : List Mbr} {role : ByteArray} {S : List ByteArray} (h : Fnd ms role S) : S.length ≤ ms.length + 1 := by
  have := nodup_le h.nd h.sub
  simpa using this
end Go.Proofs.Ytcdhljcpoopfaaa
