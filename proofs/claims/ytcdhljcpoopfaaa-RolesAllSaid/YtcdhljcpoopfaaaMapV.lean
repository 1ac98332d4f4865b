/- Maps that the call makes, keys texts: what is held at each text. -/
import Derived.Test.YtcdhljcpoopfaaaMine2
import Derived.Maps.Own
import Derived.Maps.Views
namespace Go.Proofs.Ytcdhljcpoopfaaa
open Go.RowKit Go.Deep
set_option linter.unusedVariables false
def heldR (v : Value) : Option (DataW Value × List MemPlace) := some (.held v, [])
/-- block b is a map of at most n entries; at the text s it holds f s, which is z where there is none -/
def MapF (P : Program) (k : TypeId) (w : World) (b n : Nat) (z : Value) (f : List UInt8 → Value) : Prop :=
  ∃ D : DataW Value, Maps.IsMap D ∧ w.ownsMap P k heldR b n D ∧ ∀ s, D.atKey (.string s) (.held z) = .held (f s)
section
variable {P : Program} {k : TypeId} {w w' : World} {b n : Nat} {z : Value} {f : List UInt8 → Value}
theorem MapF.lt (h : MapF P k w b n z f) : b < w.heap.size := by obtain ⟨D, _, ho, _⟩ := h; exact ho.lt
theorem MapF.kb {Q : Nat → Prop} (h : MapF P k w b n z f) (kb : Kb Q w w') (hb : ¬ Q b) : MapF P k w' b n z f := by
  obtain ⟨D, hD, ho, hf⟩ := h
  have hl := ho.lt
  obtain ⟨es, clock, hh, F, hs, he⟩ := ho
  exact ⟨D, hD, ⟨es, clock, (kb.block b hl hb).trans hh, F, hs, he⟩, hf⟩
theorem MapF.aft (h : MapF P k w b n z f) (a : Aft w w') : MapF P k w' b n z f := h.kb (Q := fun _ => False) (Kb.of_aft a) (fun h => h)
theorem MapF.mono (h : MapF P k w b n z f) {n' : Nat} (hn : n ≤ n') : MapF P k w b n' z f := by
  obtain ⟨D, hD, ho, hf⟩ := h; exact ⟨D, hD, ho.mono hn, hf⟩
theorem mapF_made (w : World) (z : Value) : MapF P k (w.alloc (.map #[] 0)) w.heap.size 0 z (fun _ => z) :=
  ⟨.map [], Maps.isMap_empty, World.ownsMap_made w P k heldR, fun s => rfl⟩
theorem key_string (hk : P.underlying k = some .string) (s : ByteArray) (hs : s.size ≤ maxLen) : keyOf P k (.string s) = some (.string s.data.toList) := by
  simp [keyOf, hk, mapKey, hs]
theorem MapF.look {t e : TypeId} (h : MapF P k w b n z f) (hk : P.underlying k = some .string) (ht : P.underlying t = some (.map k e)) (hz : (zeroValue e).run P w = .ok z w) (s : ByteArray) (hs : s.size ≤ maxLen) :
    (Instr.lookup t (.map (some b)) (.string s) false).run P w = .ok (f s.data.toList) w := by
  obtain ⟨D, hD, ho, hf⟩ := h
  obtain ⟨v, ps, hrun, hv⟩ := ho.lookup (Maps.string_keyed hk) ht hz (zd := .held z) (zp := []) rfl (key_string hk s hs)
  rw [hf] at hv
  unfold heldR at hv
  simp only [Option.some.injEq, Prod.mk.injEq, DataW.held.injEq] at hv
  rw [hrun, hv.1]
theorem MapF.put {t e : TypeId} (h : MapF P k w b n z f) (hk : P.underlying k = some .string) (ht : P.underlying t = some (.map k e)) (hn : n < maxLen) (s : ByteArray) (hs : s.size ≤ maxLen) (v : Value) :
    ∃ w', (Instr.mapUpdate t (.map (some b)) (.string s) v).run P w = .ok () w' ∧ MapF P k w' b (n + 1) z (fun x => if x = s.data.toList then v else f x) ∧ w.grownBy w' (some b) := by
  obtain ⟨D, hD, ho, hf⟩ := h
  obtain ⟨w', hrun, h1, h2⟩ := ho.update (Maps.string_keyed hk) ht hn (key_string hk s hs) (val := v) (d := .held v) (ps := []) rfl
  refine ⟨w', hrun, ⟨D.put (.string s.data.toList) (.held v), hD.put _ _, h1, fun x => ?_⟩, h2⟩
  show _ = DataW.held (if x = s.data.toList then v else f x)
  by_cases e : x = s.data.toList
  · subst e
    rw [if_pos rfl]
    exact Maps.atKey_put_same hD (by trivial) _ _
  · rw [if_neg e, Maps.atKey_put_other (by intro e2; exact e (Lit.string.inj e2))]
    exact hf x
end
end Go.Proofs.Ytcdhljcpoopfaaa
