/- Rows that the call owns (append), and worlds that come after. -/
import Derived.Test.YtcdhljcpoopfaaaObj
import Derived.OwnWalk
import Derived.Laws.AppendOwn
namespace Go.Proofs.Ytcdhljcpoopfaaa
open Go.RowKit
set_option linter.unusedVariables false
theorem own_aft {w w' : World} {base size n : Nat} {e : TypeId} {v : Value} {xs : List Value} (h : w.ownsRow base e size v n xs) (hw : Aft w w') : w'.ownsRow base e size v n xs := by
  refine ⟨h.1, ?_⟩
  rcases h.2 with hn | ⟨g, cap, cur, rfl, hb, hgg, rest⟩
  · exact .inl hn
  · have hlt : g < w.heap.size := (Array.getElem?_eq_some_iff.1 hgg).1
    exact .inr ⟨g, cap, cur, rfl, hb, (hw.block g hlt).trans hgg, rest⟩
theorem own_block {w : World} {base size n : Nat} {e : TypeId} {v : Value} {xs : List Value} (h : w.ownsRow base e size v n xs) : ∀ g, v.ownBlock = some g → base ≤ g := by
  intro g hg
  rcases h.2 with ⟨rfl, _⟩ | ⟨g', cap, cur, rfl, hb, _⟩
  · simp [Value.ownBlock] at hg
  · have : g' = g := by simpa [Value.ownBlock] using hg
    omega
/-- behind an append onto a row of the call's own -/
theorem aft_grown {W w w' : World} {size n : Nat} {e : TypeId} {v : Value} {xs : List Value} (h : w.ownsRow W.heap.size e size v n xs) (hW : Aft W w) (hg : w.grownBy w' v.ownBlock) : Aft W w' := by
  refine ⟨hg.os.trans hW.os, hg.tape.trans hW.tape, hg.output.trans hW.output, Nat.le_trans hW.size hg.size, fun k hk => ?_⟩
  have hlt : k < w.heap.size := Nat.lt_of_lt_of_le hk hW.size
  refine (hg.block k hlt ?_).trans (hW.block k hk)
  intro he
  have := own_block h k he.symm
  omega
theorem own_nil (w : World) (base : Nat) (e : TypeId) (size : Nat) : w.ownsRow base e size (.slice none 0 0) 0 [] := ⟨by simp, .inl ⟨rfl, rfl⟩⟩
theorem flatMap_get {α : Type} (f : α → List Value) (size : Nat) (hf : ∀ x, (f x).length = size) : ∀ (l : List α) (i j : Nat) (hi : i < l.length), j < size → (l.flatMap f)[i * size + j]? = (f l[i])[j]?
  | x :: l, 0, j, _, hj => by
    rw [List.flatMap_cons, Nat.zero_mul, Nat.zero_add, List.getElem?_append_left (by rw [hf]; exact hj)]
    rfl
  | x :: l, i + 1, j, hi, hj => by
    have e : (i + 1) * size + j = size + (i * size + j) := by rw [Nat.succ_mul]; omega
    rw [List.flatMap_cons, e, List.getElem?_append_right (by rw [hf]; omega), hf, Nat.add_sub_cancel_left]
    exact flatMap_get f size hf l i j (by simpa using hi) hj
/-- an owned row is read as a slice -/
theorem own_slAt {α : Type} {w : World} {base size : Nat} {e : TypeId} {v : Value} {l : List α} (f : α → List Value) (R : World → List Value → α → Prop) (hf : ∀ x, (f x).length = size) (h : w.ownsRow base e size v l.length (l.flatMap f)) (hR : ∀ x ∈ l, R w (f x) x)
    (hs : Small (l.length * 16)) : ∃ A cap, v = .slice A l.length cap ∧ SlAt w size R A cap l := by
  rcases h.2 with ⟨rfl, hn⟩ | ⟨g, cap, cur, rfl, hb, hgg, hnc, _, hcs, htk⟩
  · have : l = [] := List.eq_nil_of_length_eq_zero hn
    subst this
    exact ⟨none, 0, rfl, slAt_nil⟩
  · have hlt : g < w.heap.size := (Array.getElem?_eq_some_iff.1 hgg).1
    refine ⟨some ⟨g, 0, none⟩, cap, rfl, hnc, hs, fun i hi => ⟨g, 0, f l[i], rfl, hlt, hf _, hR _ (List.getElem_mem hi), fun j hj => ?_⟩⟩
    rw [← flatMap_get f size hf l i j hi hj, ← htk]
    have hlt2 : i * size + j < l.length * size := by
      have : (i + 1) * size ≤ l.length * size := Nat.mul_le_mul_right _ hi
      rw [Nat.succ_mul] at this; omega
    rw [List.getElem?_take_of_lt hlt2]
    simp [World.cell?, hgg]
end Go.Proofs.Ytcdhljcpoopfaaa
