/- Contracts of the program, part 7. -/
import Derived.Test.YticjnndhpfdajaaPart2
import Derived.OwnWalk
import Derived.Laws.AppendOwn
/- Rows that the call owns (append), and worlds that come after. -/
namespace Go.Proofs.Yticjnndhpfdajaa
open Go.RowKit
set_option linter.unusedVariables false
theorem own_aft {w w' : World} {base size n : Nat} {e : TypeId} {v : Value} {xs : List Value} (h : w.ownsRow base e size v n xs) (hw : Aft w w') : w'.ownsRow base e size v n xs := by
  refine ⟨h.1, ?_⟩
  rcases h.2 with hn | ⟨g, cap, cur, rfl, hb, hgg, rest⟩
  · exact .inl hn
  · have hlt : g < w.heap.size := (Array.getElem?_eq_some_iff.1 hgg).1
    exact .inr ⟨g, cap, cur, rfl, hb, (hw.block g hlt).trans hgg, rest⟩
theorem own_block {w : World} {base size n : Nat} {e : TypeId} {v : Value} {xs : List Value} (h : w.ownsRow base e size v n xs) : ∀ g, v.ownBlock = some g → base ≤ g := by
  intro g hg
  rcases h.2 with ⟨rfl, _⟩ | ⟨g', cap, cur, rfl, hb, _⟩
  · simp [Value.ownBlock] at hg
  · have : g' = g := by simpa [Value.ownBlock] using hg
    omega
/-- behind an append onto a row of the call's own -/
theorem aft_grown {W w w' : World} {size n : Nat} {e : TypeId} {v : Value} {xs : List Value} (h : w.ownsRow W.heap.size e size v n xs) (hW : Aft W w) (hg : w.grownBy w' v.ownBlock) : Aft W w' := by
  refine ⟨hg.os.trans hW.os, hg.tape.trans hW.tape, hg.output.trans hW.output, Nat.le_trans hW.size hg.size, fun k hk => ?_⟩
  have hlt : k < w.heap.size := Nat.lt_of_lt_of_le hk hW.size
  refine (hg.block k hlt ?_).trans (hW.block k hk)
  intro he
  have := own_block h k he.symm
  omega
theorem own_nil (w : World) (base : Nat) (e : TypeId) (size : Nat) : w.ownsRow base e size (.slice none 0 0) 0 [] := ⟨by simp, .inl ⟨rfl, rfl⟩⟩
theorem flatMap_get {α : Type} (f : α → List Value) (size : Nat) (hf : ∀ x, (f x).length = size) : ∀ (l : List α) (i j : Nat) (hi : i < l.length), j < size → (l.flatMap f)[i * size + j]? = (f l[i])[j]?
  | x :: l, 0, j, _, hj => by
    rw [List.flatMap_cons, Nat.zero_mul, Nat.zero_add, List.getElem?_append_left (by rw [hf]; exact hj)]
    rfl
  | x :: l, i + 1, j, hi, hj => by
    have e : (i + 1) * size + j = size + (i * size + j) := by rw [Nat.succ_mul]; omega
    rw [List.flatMap_cons, e, List.getElem?_append_right (by rw [hf]; omega), hf, Nat.add_sub_cancel_left]
    exact flatMap_get f size hf l i j (by simpa using hi) hj
/-- an owned row is read as a slice -/
theorem own_slAt {α : Type} {w : World} {base size : Nat} {e : TypeId} {v : Value} {l : List α} (f : α → List Value) (R : World → List Value → α → Prop) (hf : ∀ x, (f x).length = size) (h : w.ownsRow base e size v l.length (l.flatMap f)) (hR : ∀ x ∈ l, R w (f x) x)
    (hs : Small (l.length * 16)) : ∃ A cap, v = .slice A l.length cap ∧ SlAt w size R A cap l := by
  rcases h.2 with ⟨rfl, hn⟩ | ⟨g, cap, cur, rfl, hb, hgg, hnc, _, hcs, htk⟩
  · have : l = [] := List.eq_nil_of_length_eq_zero hn
    subst this
    exact ⟨none, 0, rfl, slAt_nil⟩
  · have hlt : g < w.heap.size := (Array.getElem?_eq_some_iff.1 hgg).1
    refine ⟨some ⟨g, 0, none⟩, cap, rfl, hnc, hs, fun i hi => ⟨g, 0, f l[i], rfl, hlt, hf _, hR _ (List.getElem_mem hi), fun j hj => ?_⟩⟩
    rw [← flatMap_get f size hf l i j hi hj, ← htk]
    have hlt2 : i * size + j < l.length * size := by
      have : (i + 1) * size ≤ l.length * size := Nat.mul_le_mul_right _ hi
      rw [Nat.succ_mul] at this; omega
    rw [List.getElem?_take_of_lt hlt2]
    simp [World.cell?, hgg]
end Go.Proofs.Yticjnndhpfdajaa
/- Results that lie in variables of their own. -/
namespace Go.Proofs.Yticjnndhpfdajaa
open Go.RowKit
theorem results_cell {fn : Func} {a : Tmp} {t : TypeId} (h : fn.results = #[.cell a t]) (tmps : Array Value) {P : Program} {w : World} {p : Addr} {v : Value} (ha : tmps.getD a undef = .pointer (some p)) (hl : (loadVar t p).run P w = .ok v w) :
    (results fn tmps).run P w = .ok v w := by
  rw [Array.getD_eq_getD_getElem?] at ha
  simp [results, h, ha, asAddr, hl]
theorem results_cell_tmp {fn : Func} {a u : Tmp} {t : TypeId} (h : fn.results = #[.cell a t, .tmp u]) (tmps : Array Value) {P : Program} {w : World} {p : Addr} {v : Value} (ha : tmps.getD a undef = .pointer (some p)) (hl : (loadVar t p).run P w = .ok v w) :
    (results fn tmps).run P w = .ok (.tuple #[v, tmps.getD u undef]) w := by
  rw [Array.getD_eq_getD_getElem?] at ha
  simp [results, h, ha, asAddr, hl]
/-- a block whose cells are those of a list -/
theorem slAt_box {α : Type} {size : Nat} {R : World → List Value → α → Prop} {w : World} {b cap : Nat} (l : List α) (f : α → List Value) (c : Array Value) (hb : b < w.heap.size) (hc : ∀ o, w.cell? ⟨b, o, none⟩ = c[o]?) (e : c.toList = l.flatMap f) (hf : ∀ x, (f x).length = size)
    (hR : ∀ x ∈ l, R w (f x) x) (hs : Small (l.length * 16)) (hcap : l.length ≤ cap) : SlAt w size R (some ⟨b, 0, none⟩) cap l :=
  ⟨hcap, hs, fun i hi => ⟨b, 0, f l[i], rfl, hb, hf _, hR _ (List.getElem_mem hi), fun j hj => by
    rw [← flatMap_get f size hf l i j hi hj, ← e, hc]; simp⟩⟩
theorem slAt_one {α : Type} {size : Nat} {R : World → List Value → α → Prop} {w : World} {b cap : Nat} (x : α) (cs : List Value) (c : Array Value) (hb : b < w.heap.size) (hc : ∀ o, w.cell? ⟨b, o, none⟩ = c[o]?) (e : c.toList = cs) (hf : cs.length = size)
    (hR : R w cs x) (hcap : 1 ≤ cap) : SlAt w size R (some ⟨b, 0, none⟩) cap [x] :=
  ⟨hcap, by simp [Small], fun i hi => by
    have : i = 0 := by simpa using hi
    subst this
    exact ⟨b, 0, cs, rfl, hb, hf, hR, fun j hj => by rw [← e, hc]; simp⟩⟩
theorem lvObj_box {w W : World} {a b : Value} {t : TypeId} (h : Aft (w.alloc (.cells #[a, b] t)) W) : (loadVar 25 ⟨w.heap.size, 0, none⟩).run Try.prog W = .ok (.agg #[a, b]) W := by
  obtain ⟨hb, _⟩ := aft_box h
  have h1 := run_lvObj W w.heap.size 0 (by rw [hb]; rfl) (by rw [hb]; rfl)
  rw [hb, hb] at h1
  exact h1
end Go.Proofs.Yticjnndhpfdajaa
