/- Worlds in which all blocks but a row's own lie as they lay: the class for reads beside an append. -/
import Derived.Test.YtcdhljcpoopfaaaReads
import Derived.Test.YtcdhljcpoopfaaaMine2
namespace Go.Proofs.Ytcdhljcpoopfaaa
open Go.RowKit
set_option linter.unusedVariables false
def InV (v : Value) (g : Nat) : Prop := v.ownBlock = some g
structure KLat (v : Value) (w : World) where
  to : World
  kb : Kb (InV v) w to
instance (v : Value) (w : World) : Nonempty (KLat v w) := ⟨⟨w, Kb.refl _ _⟩⟩
def klat (v : Value) (w : World) (x : KLat v w) : World := x.to
@[go_sem] theorem cell?_klat (v : Value) (w : World) (x : KLat v w) (b o : Nat) (h : b < w.heap.size) (hn : ¬ InV v b) : (klat v w x).cell? ⟨b, o, none⟩ = w.cell? ⟨b, o, none⟩ := by
  have := x.kb.block b h hn
  simp [World.cell?, klat, this]
@[go_sem] theorem frozen?_klat (v : Value) (w : World) (x : KLat v w) (b o : Nat) (h : b < w.heap.size) (hn : ¬ InV v b) : (klat v w x).frozen? ⟨b, o, none⟩ = w.frozen? ⟨b, o, none⟩ := by
  have := x.kb.block b h hn
  simp [World.frozen?, klat, this]
@[go_sem] theorem lt_klat (v : Value) (w : World) (x : KLat v w) (b : Nat) (h : b < w.heap.size) : b < (klat v w x).heap.size := Nat.lt_of_lt_of_le h x.kb.size
def KL (v : Value) (w w' : World) : Prop := ∃ x : KLat v w, w' = klat v w x
theorem KL.of {v : Value} {w w' : World} (h : Kb (InV v) w w') : ∃ x : KLat v w, w' = klat v w x := ⟨⟨w', h⟩, rfl⟩
theorem KL.aft {v : Value} {w w' : World} (h : Aft w w') : ∃ x : KLat v w, w' = klat v w x := KL.of (Kb.of_aft h)
theorem kb_in {v : Value} {w w' : World} (h : w.grownBy w' v.ownBlock) : Kb (InV v) w w' := Kb.of_grown h
theorem not_in {v : Value} {w : World} {B size n : Nat} {e : TypeId} {xs : List Value} (o : w.ownsRow B e size v n xs) {g : Nat} (hg : g < B) : ¬ InV v g := fun h => by have := (o.lt g h).1; omega
end Go.Proofs.Ytcdhljcpoopfaaa
