/- Results that lie in variables of their own. -/
import Derived.Test.YtcdhljcpoopfaaaOwn
namespace Go.Proofs.Ytcdhljcpoopfaaa
open Go.RowKit
theorem results_cell {fn : Func} {a : Tmp} {t : TypeId} (h : fn.results = #[.cell a t]) (tmps : Array Value) {P : Program} {w : World} {p : Addr} {v : Value} (ha : tmps.getD a undef = .pointer (some p)) (hl : (loadVar t p).run P w = .ok v w) :
    (results fn tmps).run P w = .ok v w := by
  rw [Array.getD_eq_getD_getElem?] at ha
  simp [results, h, ha, asAddr, hl]
theorem results_cell_tmp {fn : Func} {a u : Tmp} {t : TypeId} (h : fn.results = #[.cell a t, .tmp u]) (tmps : Array Value) {P : Program} {w : World} {p : Addr} {v : Value} (ha : tmps.getD a undef = .pointer (some p)) (hl : (loadVar t p).run P w = .ok v w) :
    (results fn tmps).run P w = .ok (.tuple #[v, tmps.getD u undef]) w := by
  rw [Array.getD_eq_getD_getElem?] at ha
  simp [results, h, ha, asAddr, hl]
/-- a block whose cells are those of a list -/
theorem slAt_box {α : Type} {size : Nat} {R : World → List Value → α → Prop} {w : World} {b cap : Nat} (l : List α) (f : α → List Value) (c : Array Value) (hb : b < w.heap.size) (hc : ∀ o, w.cell? ⟨b, o, none⟩ = c[o]?) (e : c.toList = l.flatMap f) (hf : ∀ x, (f x).length = size)
    (hR : ∀ x ∈ l, R w (f x) x) (hs : Small (l.length * 16)) (hcap : l.length ≤ cap) : SlAt w size R (some ⟨b, 0, none⟩) cap l :=
  ⟨hcap, hs, fun i hi => ⟨b, 0, f l[i], rfl, hb, hf _, hR _ (List.getElem_mem hi), fun j hj => by
    rw [← flatMap_get f size hf l i j hi hj, ← e, hc]; simp⟩⟩
theorem slAt_one {α : Type} {size : Nat} {R : World → List Value → α → Prop} {w : World} {b cap : Nat} (x : α) (cs : List Value) (c : Array Value) (hb : b < w.heap.size) (hc : ∀ o, w.cell? ⟨b, o, none⟩ = c[o]?) (e : c.toList = cs) (hf : cs.length = size)
    (hR : R w cs x) (hcap : 1 ≤ cap) : SlAt w size R (some ⟨b, 0, none⟩) cap [x] :=
  ⟨hcap, by simp [Small], fun i hi => by
    have : i = 0 := by simpa using hi
    subst this
    exact ⟨b, 0, cs, rfl, hb, hf, hR, fun j hj => by rw [← e, hc]; simp⟩⟩
theorem lvObj_box {w W : World} {a b : Value} {t : TypeId} (h : Aft (w.alloc (.cells #[a, b] t)) W) : (loadVar 45 ⟨w.heap.size, 0, none⟩).run Try.prog W = .ok (.agg #[a, b]) W := by
  obtain ⟨hb, _⟩ := aft_box h
  have h1 := run_lvObj W w.heap.size 0 (by rw [hb]; rfl) (by rw [hb]; rfl)
  rw [hb, hb] at h1
  exact h1
end Go.Proofs.Ytcdhljcpoopfaaa
