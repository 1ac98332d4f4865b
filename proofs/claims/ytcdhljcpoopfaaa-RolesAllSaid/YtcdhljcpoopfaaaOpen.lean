/- How arguments read: a struct's cells, a slice's elements, with the form's own bound on strings and slices. -/
import Derived.Test.YtcdhljcpoopfaaaBase
import Derived.ProofKit
import Derived.OpenShut
import Derived.Deep.Slices
import Derived.ChangeOld
import Derived.SizedLaws
namespace Go.Proofs.Ytcdhljcpoopfaaa
open Go.ChangeShapes Go.WideShapes Go.RowKit Go.Deep

/-- the form's reach -/
def Small (n : Nat) : Prop := n ≤ 140737488351232
theorem Small.max {n : Nat} (h : Small n) : n ≤ maxLen := by unfold Small at h; unfold maxLen; omega
theorem Small.le {n : Nat} (h : Small n) : n ≤ 9223372036854775807 := by unfold Small at h; omega

/-- what the reach says of a datum -/
def Lt {H : Type} (P : Program) (t : TypeId) (d : DataW H) : Prop := ∀ n ∈ d.weights P t, n ≤ 140737488351232

section
variable {H : Type} {enc : TypeId × Value → H} {P : Program} {w : World}

theorem weightsEach_get : ∀ {ts : List TypeId} {ds : List (DataW H)} {i : Nat} {t : TypeId} {d : DataW H}, ts[i]? = some t → ds[i]? = some d → ∀ n ∈ d.weights P t, n ∈ DataW.weightsEach P ts ds :=
  fun ht hd n hn => DataW.weights_mem_each ht hd n hn
theorem weightsAll_get {e : TypeId} : ∀ {ds : List (DataW H)} {d : DataW H}, d ∈ ds → ∀ n ∈ d.weights P e, n ∈ DataW.weightsAll P e ds
  | x :: r, d, h, n, hn => by
    simp only [DataW.weightsAll, List.mem_append]
    rcases List.mem_cons.1 h with rfl | h
    · exact .inl hn
    · exact .inr (weightsAll_get h n hn)

/-- a struct's field -/
theorem field_lt {t : TypeId} {fs : Array Field} (ht : P.underlying t = some (.struct fs)) {xs : List (DataW H × List MemPlace)} (h : Lt P t (.agg (xs.map (·.1)) : DataW H)) {i : Nat} {f : Field} (hf : fs[i]? = some f) {x : DataW H × List MemPlace} (hx : xs[i]? = some x) : Lt P f.type x.1 := by
  intro n hn
  refine h n ?_
  simp only [DataW.weights, ht]
  refine weightsEach_get (i := i) (t := f.type) (d := x.1) ?_ ?_ n hn
  · simp [hf]
  · simp [hx]

/-- reads in the mode of the arguments -/
def Rd (enc : TypeId × Value → H) (P : Program) (w : World) (t : TypeId) (cs : List Value) : Prop :=
  ∃ (fuel : Nat) (x : DataW H × List MemPlace), DataW.trod enc P w 0 (fun _ => true) true fuel t cs = some x ∧ Lt P t x.1

theorem Rd.struct {t : TypeId} {fs : Array Field} {cs : List Value} (ht : P.underlying t = some (.struct fs)) (h : Rd enc P w t cs) :
    cs.length = P.cellsOf t ∧ ∀ (i : Nat) (f : Field), fs[i]? = some f → Rd enc P w f.type ((cs.drop f.offset).take (P.cellsOf f.type)) := by
  obtain ⟨fuel, x, hx, hl⟩ := h
  obtain ⟨xs, n, _, rfl, hlen, hsz, hf⟩ := DataW.trod_struct ht hx
  refine ⟨hlen, fun i f hi => ?_⟩
  have h1 := hf i f hi
  have hlt : i < xs.length := by rw [hsz]; exact (Array.getElem?_eq_some_iff.1 hi).1
  have hxi : xs[i]? = some xs[i] := List.getElem?_eq_getElem hlt
  exact ⟨n, xs[i], h1.trans hxi, field_lt ht hl hi hxi⟩
theorem Rd.field {t : TypeId} {fs : Array Field} {cs : List Value} (h : Rd enc P w t cs) (ht : P.underlying t = some (.struct fs)) (i : Nat) (ft off k : Nat) (hf : (fs[i]?).map (fun f => (f.type, f.offset)) = some (ft, off)) (hk : P.cellsOf ft = k) :
    Rd enc P w ft ((cs.drop off).take k) := by
  obtain ⟨_, h2⟩ := h.struct ht
  cases hq : fs[i]? with
  | none => rw [hq] at hf; cases hf
  | some f =>
    rw [hq] at hf
    simp only [Option.map_some, Option.some.injEq, Prod.mk.injEq] at hf
    have := h2 i f hq
    rw [hf.1, hf.2, hk] at this
    exact this
theorem Rd.string {t : TypeId} {cs : List Value} (ht : P.underlying t = some .string) (h : Rd enc P w t cs) : ∃ s : ByteArray, cs = [.string s] ∧ Small s.size := by
  obtain ⟨fuel, x, hx, hl⟩ := h
  obtain ⟨s, rfl, rfl, _⟩ := DataW.trod_string ht hx
  refine ⟨s, rfl, ?_⟩
  have := hl s.data.toList.length (by simp [DataW.weights])
  simpa [Small] using this
theorem Rd.int {t : TypeId} {k : IntKind} {cs : List Value} (ht : P.underlying t = some (.int k)) (h : Rd enc P w t cs) : ∃ n : Int, cs = [.int k n] ∧ (Lit.int k n).wf = true := by
  obtain ⟨fuel, x, hx, hl⟩ := h
  obtain ⟨n, rfl, _, hw⟩ := DataW.trod_int ht hx
  exact ⟨n, rfl, hw⟩
theorem Rd.bool {t : TypeId} {cs : List Value} (ht : P.underlying t = some .bool) (h : Rd enc P w t cs) : ∃ b : Bool, cs = [.bool b] := by
  obtain ⟨fuel, x, hx, hl⟩ := h
  obtain ⟨b, rfl, _⟩ := DataW.trod_bool ht hx
  exact ⟨b, rfl⟩

/-- A slice value that leads to the elements l, of 'size' cells each: R says of each element's cells what they hold. -/
def SlAt {α : Type} (w : World) (size : Nat) (R : World → List Value → α → Prop) (A : Option Addr) (cap : Nat) (l : List α) : Prop :=
  l.length ≤ cap ∧ Small (l.length * 16) ∧ ∀ i (h : i < l.length), ∃ b off cs, A = some ⟨b, off, none⟩ ∧ b < w.heap.size ∧ cs.length = size ∧ R w cs l[i] ∧ ∀ j, j < size → w.cell? ⟨b, off + (i * size + j), none⟩ = cs[j]?
def SlOf {α : Type} (w : World) (size : Nat) (R : World → List Value → α → Prop) (cs : List Value) (l : List α) : Prop :=
  ∃ A cap, cs = [.slice A l.length cap] ∧ SlAt w size R A cap l

theorem slAt_nil {α : Type} {size : Nat} {R : World → List Value → α → Prop} : SlAt w size R none 0 ([] : List α) :=
  ⟨Nat.le_refl _, Nat.zero_le _, fun i h => absurd h (by simp)⟩
theorem SlAt.aft {α : Type} {size : Nat} {R : World → List Value → α → Prop} {A : Option Addr} {cap : Nat} {l : List α} {w' : World} (h : SlAt w size R A cap l) (hw : Aft w w') (hR : ∀ cs x, R w cs x → R w' cs x) : SlAt w' size R A cap l :=
  ⟨h.1, h.2.1, fun i hi => by
    obtain ⟨b, off, cs, hA, hb, hl, hr, hc⟩ := h.2.2 i hi
    exact ⟨b, off, cs, hA, Nat.lt_of_lt_of_le hb hw.size, hl, hR _ _ hr, fun j hj => (Below.cell hw (p := ⟨b, off + (i * size + j), none⟩) hb).trans (hc j hj)⟩⟩

theorem choose_list {α : Type} (n : Nat) (p : Nat → α → Prop) (h : ∀ i, i < n → ∃ x, p i x) : ∃ l : List α, l.length = n ∧ ∀ i (hi : i < l.length), p i l[i] := by
  induction n with
  | zero => exact ⟨[], rfl, fun i hi => absurd hi (by simp)⟩
  | succ n ih =>
    obtain ⟨l, hl, hp⟩ := ih fun i hi => h i (by omega)
    obtain ⟨x, hx⟩ := h n (by omega)
    refine ⟨l ++ [x], by simp [hl], fun i hi => ?_⟩
    by_cases hin : i < l.length
    · rw [List.getElem_append_left hin]; exact hp i hin
    · have : i = l.length := by simp at hi; omega
      subst this
      simp only [List.getElem_append_right (Nat.le_refl _), Nat.sub_self, List.getElem_cons_zero]
      rw [hl]; exact hx

theorem Rd.slice {α : Type} {t e : TypeId} {cs : List Value} {size : Nat} {R : World → List Value → α → Prop} (ht : P.underlying t = some (.slice e)) (hs : P.cellsOf e = size) (hpos : 0 < size) (hby : 16 ≤ P.bytesOf e)
    (hR : ∀ cs, Rd enc P w e cs → ∃ x, R w cs x) (h : Rd enc P w t cs) : ∃ l : List α, SlOf w size R cs l := by
  obtain ⟨fuel, x, hx, hl⟩ := h
  have hlt := DataW.trod_lt fuel t cs x hx
  rcases open_slice ht hx with ⟨rfl, _⟩ | ⟨a, len, cap, m, n, D, Pl, rfl, _, hlc, hcm, hm, rfl, hi⟩
  · exact ⟨[], none, 0, rfl, slAt_nil⟩
  · simp only [if_true] at hm
    subst hm
    have hcap : Small (m * 16) := by
      have h1 := hl (((List.range len).map D).length + ((List.range (m - len)).map fun j => D (len + j)).length |> (· * P.bytesOf e)) (by simp [DataW.weights, ht])
      simp only [List.length_map, List.length_range] at h1
      have h2 : len + (m - len) = m := by omega
      rw [h2] at h1
      exact Nat.le_trans (Nat.mul_le_mul_left _ hby) h1
    have hspot : 0 < len → a.spot = none := by
      intro h0
      obtain ⟨cs', hc, _⟩ := hi 0 (by omega)
      rw [hs] at hc
      obtain ⟨_, hcl, hat⟩ := World.cells?_some hc
      have h1 := hat 0 hpos
      have h2 : w.cell? ((a.add (0 * size)).add 0) = some (cs'[0]'(by omega)) := by rw [h1]; exact List.getElem?_eq_getElem (by omega)
      have h3 := World.cell?_spot h2
      simpa [Addr.add] using h3
    have hel : ∀ i, i < len → ∃ x : α, ∃ b off cs, some a = some ⟨b, off, none⟩ ∧ b < w.heap.size ∧ cs.length = size ∧ R w cs x ∧ ∀ j, j < size → w.cell? ⟨b, off + (i * size + j), none⟩ = cs[j]? := by
      intro i hil
      obtain ⟨cs', hc, htr⟩ := hi i (by omega)
      rw [hs] at hc
      obtain ⟨_, hcl, hat⟩ := World.cells?_some hc
      have hrd : Rd enc P w e cs' := by
        refine ⟨n, _, htr, fun k hk => hl k ?_⟩
        simp only [DataW.weights, ht, List.mem_cons, List.mem_append]
        exact .inr (.inl (weightsAll_get (d := D i) (List.mem_map.2 ⟨i, List.mem_range.2 hil, rfl⟩) k hk))
      obtain ⟨y, hy⟩ := hR cs' hrd
      have hsp := hspot (by omega)
      obtain ⟨b, off, spot⟩ := a
      simp only at hsp
      subst hsp
      have hb : b < w.heap.size := hlt (.cell b off) (by
        simp only [List.mem_append]
        left
        rw [hs]
        have hpm : 0 < m * size := Nat.mul_pos (by omega) hpos
        simp only [MemPlace.row]
        exact List.mem_map.2 ⟨0, List.mem_range.2 hpm, by simp⟩)
      refine ⟨y, b, off, cs', rfl, hb, hcl, hy, fun j hj => ?_⟩
      have h1 := hat j hj
      rw [← h1, Go.Deep.add_add]
      have : (Addr.mk b off none).add (i * size + j) = ⟨b, off + (i * size + j), none⟩ := by
        unfold Addr.add; split
        · rename_i h0; rw [h0]; rfl
        · rfl
      rw [this]
    obtain ⟨l, hll, hp⟩ := choose_list len _ hel
    subst hll
    exact ⟨l, some a, m, rfl, hlc, Nat.le_trans (Nat.mul_le_mul_right _ hlc) hcap, hp⟩
end
end Go.Proofs.Ytcdhljcpoopfaaa
