/- Words of our own for worlds: 'lat w x' is a world in which all blocks of w lie as they lay in w; a region that draws its order and whose operations only read, or call what only reads and makes memory, is walked once. -/
import Derived.Test.YtcdhljcpoopfaaaCells
import Derived.WalkKit
import Derived.WalkSpells
import Derived.WalkLawsBesides
import Derived.Lib.Hide
import Derived.Deep.QuietTactic
import Derived.BigQuiet
import Derived.Below
import Derived.Deep.Draws
import Derived.StillTailTactics
namespace Go.Proofs.Ytcdhljcpoopfaaa
open Go.RowKit

structure Lat (w : World) where
  to : World
  below : Below w.heap.size w to
instance (w : World) : Nonempty (Lat w) := ⟨⟨w, Below.refl _ _⟩⟩
def lat (w : World) (x : Lat w) : World := x.to
theorem lat_below (w : World) (x : Lat w) : Below w.heap.size w (lat w x) := x.below
theorem lat_of {w w' : World} (h : Below w.heap.size w w') : ∃ x : Lat w, w' = lat w x := ⟨⟨w', h⟩, rfl⟩
@[go_sem] theorem cell?_lat (w : World) (x : Lat w) (b o : Nat) (h : b < w.heap.size) : (lat w x).cell? ⟨b, o, none⟩ = w.cell? ⟨b, o, none⟩ := x.below.cell (p := ⟨b, o, none⟩) h
@[go_sem] theorem frozen?_lat (w : World) (x : Lat w) (b o : Nat) (h : b < w.heap.size) : (lat w x).frozen? ⟨b, o, none⟩ = w.frozen? ⟨b, o, none⟩ := x.below.frozen (p := ⟨b, o, none⟩) h
@[go_sem] theorem lt_lat (w : World) (x : Lat w) (b : Nat) (h : b < w.heap.size) : b < (lat w x).heap.size := Nat.lt_of_lt_of_le h x.below.size
@[go_sem] theorem lt_lat_add (w : World) (x : Lat w) (b k : Nat) (h : b < w.heap.size + k) : b < (lat w x).heap.size + k := by have := x.below.size; unfold lat; omega
@[go_sem] theorem le_lat (w : World) (x : Lat w) (b : Nat) (h : b ≤ w.heap.size) : b ≤ (lat w x).heap.size := Nat.le_trans h x.below.size
@[go_sem] theorem le_lat_add (w : World) (x : Lat w) (b k : Nat) (h : b ≤ w.heap.size + k) : b ≤ (lat w x).heap.size + k := by have := x.below.size; unfold lat; omega

/-- w' holds all that W held -/
def Aft (W w : World) : Prop := Below W.heap.size W w
theorem Aft.refl (W : World) : Aft W W := Below.refl _ _
theorem Aft.lat {W w : World} (h : Aft W w) (x : Lat w) : Aft W (lat w x) := Below.trans h (x.below.mono h.size)
theorem Aft.alloc {W w : World} (h : Aft W w) (o : Obj) : Aft W (w.alloc o) := Below.alloc h h.size o
theorem Aft.drew {W w : World} (h : Aft W w) : Aft W w.drew := Below.drew h
theorem Aft.drewN {W w : World} (h : Aft W w) (n : Nat) : Aft W (w.drewN n) := ⟨h.os, h.tape, h.output, h.size, h.block⟩
theorem Aft.setCell {W w : World} (h : Aft W w) (p : Addr) (v : Value) (hp : W.heap.size ≤ p.block) : Aft W (w.setCell p v) := Below.setCell h hp v
theorem Aft.to {W w : World} (h : Aft W w) : ∃ x : Lat W, w = Go.Proofs.Ytcdhljcpoopfaaa.lat W x := lat_of h
theorem Aft.trans {W w w' : World} (h : Aft W w) (h' : Aft w w') : Aft W w' := Below.trans h (Below.mono h' h.size)

section
variable {P : Program}
/-- A region that draws its order, all of whose operations only read, or call what returns one value and keeps what was there. -/
theorem wp_region_lat {id : Nat} {Q : Exit → Act → World → Prop} {a : Act} {w : World} {l : List Oper} (hm : P.follows .mixedOrders = true) (hB : Region.lexB .any l.toArray = true)
    (h : wpQuiet P l.toArray (fun w' => ∃ x : Lat w, w' = lat w x) (fun a' => ∀ w', (∃ x : Lat w, w' = lat w x) → Q .normal a' w') l a) : (Code.region id l.toArray true).wp P Q a w :=
  wp_region_quiet (C := fun w' => ∃ x : Lat w, w' = lat w x) hm hB (lat_of (Below.drew (Below.refl _ _))) (by simpa using h)
theorem Calls.lat_of {f : FuncId} {args : Array Value} {w : World} {x : Lat w} {v : Value}
    (h : Calls P f args (lat w x) fun e w' => e = .returned v ∧ Aft (lat w x) w') : Calls P f args (lat w x) fun e w'' => e = .returned v ∧ ∃ y : Lat w, w'' = lat w y :=
  h.mono fun _ _ ⟨he, hm⟩ => ⟨he, Aft.to (((Aft.refl w).lat x).trans hm)⟩
theorem Calls.lat_same {f : FuncId} {args : Array Value} {w : World} {x : Lat w} {v : Value}
    (h : Calls P f args (lat w x) fun e w' => e = .returned v ∧ lat w x = w') : Calls P f args (lat w x) fun e w'' => e = .returned v ∧ ∃ y : Lat w, w'' = lat w y :=
  h.mono fun _ _ ⟨he, hm⟩ => ⟨he, x, hm.symm⟩
end
/-- behind a call: the box that was made ahead of it lies as it lay -/
theorem aft_box {w w1 : World} {c : Array Value} {t : TypeId} (h : Aft (w.alloc (.cells c t)) w1) :
    (∀ o, w1.cell? ⟨w.heap.size, o, none⟩ = c[o]?) ∧ (∀ o, w1.frozen? ⟨w.heap.size, o, none⟩ = false) ∧ (w.heap.size < w1.heap.size ∧ w.heap.size ≤ w1.heap.size ∧ w.heap.size < w1.heap.size + 1 ∧ w.heap.size < w1.heap.size + 1 + 1 ∧ w.heap.size < w1.heap.size + 1 + 1 + 1 ∧ w.heap.size < w1.heap.size + 1 + 1 + 1 + 1) ∧ (∀ k, w.heap.size ≤ w1.heap.size + k) ∧ Hid (Aft w w1) := by
  have hz : w.heap.size < w1.heap.size := by have := h.size; simp at this; omega
  refine ⟨fun o => ?_, fun o => ?_, ⟨hz, by omega, by omega, by omega, by omega, by omega⟩, fun k => by omega, Lib.hid (((Aft.refl w).alloc _).trans h)⟩
  · rw [Below.cell h (p := ⟨w.heap.size, o, none⟩) (by simp)]; simp
  · rw [Below.frozen h (p := ⟨w.heap.size, o, none⟩) (by simp)]; exact World.frozen?_alloc_at _ _ _ _ rfl
/-- .. and once more -/
theorem box_aft {w w1 : World} {b : Nat} {c : Array Value} (hb : ∀ o, w.cell? ⟨b, o, none⟩ = c[o]?) (hf : ∀ o, w.frozen? ⟨b, o, none⟩ = false) (hl : b < w.heap.size) (h : Aft w w1) :
    (∀ o, w1.cell? ⟨b, o, none⟩ = c[o]?) ∧ (∀ o, w1.frozen? ⟨b, o, none⟩ = false) ∧ (b < w1.heap.size ∧ b ≤ w1.heap.size ∧ b < w1.heap.size + 1 ∧ b < w1.heap.size + 1 + 1 ∧ b < w1.heap.size + 1 + 1 + 1 ∧ b < w1.heap.size + 1 + 1 + 1 + 1) ∧ (∀ k, b ≤ w1.heap.size + k) := by
  have hz : b < w1.heap.size := Nat.lt_of_lt_of_le hl h.size
  refine ⟨fun o => ?_, fun o => ?_, ⟨hz, by omega, by omega, by omega, by omega, by omega⟩, fun k => by omega⟩
  · rw [Below.cell h (p := ⟨b, o, none⟩) hl]; exact hb o
  · rw [Below.frozen h (p := ⟨b, o, none⟩) hl]; exact hf o
/-- A region that draws its order: reads and calls that leave the world alone, and a tail in one order. -/
theorem wp_region_tail {P : Program} {id : Nat} {Q : Exit → Act → World → Prop} {a : Act} {w : World} {l : List Oper} (n : Nat) (hm : P.follows .mixedOrders = true) (hB : Region.lexTailB .any l.toArray n = true)
    (h : ∀ w1, Aft w w1 → wpStill P l.toArray w1 (fun a' => wpList P l.toArray Q (l.drop n) a' w1) (l.take n) a) : (Code.region id l.toArray true).wp P Q a w :=
  wp_region_still_tail n hm hB (h _ (Aft.refl w).drew)
/-- behind two boxes -/
theorem aft_box2 {w w1 : World} {c d : Array Value} {t u : TypeId} (h : Aft ((w.alloc (.cells c t)).alloc (.cells d u)) w1) :
    (∀ o, w1.cell? ⟨w.heap.size, o, none⟩ = c[o]?) ∧ (∀ o, w1.cell? ⟨w.heap.size + 1, o, none⟩ = d[o]?) ∧ (w.heap.size < w1.heap.size ∧ w.heap.size + 1 < w1.heap.size) ∧ Hid (Aft w w1) := by
  have hz : w.heap.size + 1 < w1.heap.size := by have := h.size; simp at this; omega
  refine ⟨fun o => ?_, fun o => ?_, ⟨by omega, hz⟩, Lib.hid ((((Aft.refl w).alloc _).alloc _).trans h)⟩
  · rw [Below.cell h (p := ⟨w.heap.size, o, none⟩) (by simp; omega), World.cell?_alloc_past _ _ _ (by simp)]; simp
  · rw [Below.cell h (p := ⟨w.heap.size + 1, o, none⟩) (by simp), World.cell?_alloc_at _ _ _ _ (by simp)]
theorem ret_of {v v' : Value} (h : v = v') : Ending.returned v = .returned v' := by rw [h]
theorem bool_of {b b' : Bool} (h : b = b') : Value.bool b = .bool b' := by rw [h]
end Go.Proofs.Ytcdhljcpoopfaaa
