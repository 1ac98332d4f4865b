/- Contracts of the program, part 2. -/
import Derived.Test.YticjnndhpfdajaaPart1
import Derived.ProofKit
import Derived.OpenShut
import Derived.Deep.Slices
import Derived.ChangeOld
import Derived.SizedLaws
/- How arguments read: a struct's cells, a slice's elements, with the form's own bound on strings and slices. -/
namespace Go.Proofs.Yticjnndhpfdajaa
open Go.ChangeShapes Go.WideShapes Go.RowKit Go.Deep

/-- the form's reach -/
def Small (n : Nat) : Prop := n ≤ 140737488351232
theorem Small.max {n : Nat} (h : Small n) : n ≤ maxLen := by unfold Small at h; unfold maxLen; omega
theorem Small.le {n : Nat} (h : Small n) : n ≤ 9223372036854775807 := by unfold Small at h; omega

/-- what the reach says of a datum -/
def Lt {H : Type} (P : Program) (t : TypeId) (d : DataW H) : Prop := ∀ n ∈ d.weights P t, n ≤ 140737488351232

section
variable {H : Type} {enc : TypeId × Value → H} {P : Program} {w : World}

theorem weightsEach_get : ∀ {ts : List TypeId} {ds : List (DataW H)} {i : Nat} {t : TypeId} {d : DataW H}, ts[i]? = some t → ds[i]? = some d → ∀ n ∈ d.weights P t, n ∈ DataW.weightsEach P ts ds :=
  fun ht hd n hn => DataW.weights_mem_each ht hd n hn
theorem weightsAll_get {e : TypeId} : ∀ {ds : List (DataW H)} {d : DataW H}, d ∈ ds → ∀ n ∈ d.weights P e, n ∈ DataW.weightsAll P e ds
  | x :: r, d, h, n, hn => by
    simp only [DataW.weightsAll, List.mem_append]
    rcases List.mem_cons.1 h with rfl | h
    · exact .inl hn
    · exact .inr (weightsAll_get h n hn)

/-- a struct's field -/
theorem field_lt {t : TypeId} {fs : Array Field} (ht : P.underlying t = some (.struct fs)) {xs : List (DataW H × List MemPlace)} (h : Lt P t (.agg (xs.map (·.1)) : DataW H)) {i : Nat} {f : Field} (hf : fs[i]? = some f) {x : DataW H × List MemPlace} (hx : xs[i]? = some x) : Lt P f.type x.1 := by
  intro n hn
  refine h n ?_
  simp only [DataW.weights, ht]
  refine weightsEach_get (i := i) (t := f.type) (d := x.1) ?_ ?_ n hn
  · simp [hf]
  · simp [hx]

/-- reads in the mode of the arguments -/
def Rd (enc : TypeId × Value → H) (P : Program) (w : World) (t : TypeId) (cs : List Value) : Prop :=
  ∃ (fuel : Nat) (x : DataW H × List MemPlace), DataW.trod enc P w 0 (fun _ => true) true fuel t cs = some x ∧ Lt P t x.1

theorem Rd.struct {t : TypeId} {fs : Array Field} {cs : List Value} (ht : P.underlying t = some (.struct fs)) (h : Rd enc P w t cs) :
    cs.length = P.cellsOf t ∧ ∀ (i : Nat) (f : Field), fs[i]? = some f → Rd enc P w f.type ((cs.drop f.offset).take (P.cellsOf f.type)) := by
  obtain ⟨fuel, x, hx, hl⟩ := h
  obtain ⟨xs, n, _, rfl, hlen, hsz, hf⟩ := DataW.trod_struct ht hx
  refine ⟨hlen, fun i f hi => ?_⟩
  have h1 := hf i f hi
  have hlt : i < xs.length := by rw [hsz]; exact (Array.getElem?_eq_some_iff.1 hi).1
  have hxi : xs[i]? = some xs[i] := List.getElem?_eq_getElem hlt
  exact ⟨n, xs[i], h1.trans hxi, field_lt ht hl hi hxi⟩
theorem Rd.field {t : TypeId} {fs : Array Field} {cs : List Value} (h : Rd enc P w t cs) (ht : P.underlying t = some (.struct fs)) (i : Nat) (ft off k : Nat) (hf : (fs[i]?).map (fun f => (f.type, f.offset)) = some (ft, off)) (hk : P.cellsOf ft = k) :
    Rd enc P w ft ((cs.drop off).take k) := by
  obtain ⟨_, h2⟩ := h.struct ht
  cases hq : fs[i]? with
  | none => rw [hq] at hf; cases hf
  | some f =>
    rw [hq] at hf
    simp only [Option.map_some, Option.some.injEq, Prod.mk.injEq] at hf
    have := h2 i f hq
    rw [hf.1, hf.2, hk] at this
    exact this
theorem Rd.string {t : TypeId} {cs : List Value} (ht : P.underlying t = some .string) (h : Rd enc P w t cs) : ∃ s : ByteArray, cs = [.string s] ∧ Small s.size := by
  obtain ⟨fuel, x, hx, hl⟩ := h
  obtain ⟨s, rfl, rfl, _⟩ := DataW.trod_string ht hx
  refine ⟨s, rfl, ?_⟩
  have := hl s.data.toList.length (by simp [DataW.weights])
  simpa [Small] using this
theorem Rd.int {t : TypeId} {k : IntKind} {cs : List Value} (ht : P.underlying t = some (.int k)) (h : Rd enc P w t cs) : ∃ n : Int, cs = [.int k n] ∧ (Lit.int k n).wf = true := by
  obtain ⟨fuel, x, hx, hl⟩ := h
  obtain ⟨n, rfl, _, hw⟩ := DataW.trod_int ht hx
  exact ⟨n, rfl, hw⟩
theorem Rd.bool {t : TypeId} {cs : List Value} (ht : P.underlying t = some .bool) (h : Rd enc P w t cs) : ∃ b : Bool, cs = [.bool b] := by
  obtain ⟨fuel, x, hx, hl⟩ := h
  obtain ⟨b, rfl, _⟩ := DataW.trod_bool ht hx
  exact ⟨b, rfl⟩

/-- A slice value that leads to the elements l, of 'size' cells each: R says of each element's cells what they hold. -/
def SlAt {α : Type} (w : World) (size : Nat) (R : World → List Value → α → Prop) (A : Option Addr) (cap : Nat) (l : List α) : Prop :=
  l.length ≤ cap ∧ Small (l.length * 16) ∧ ∀ i (h : i < l.length), ∃ b off cs, A = some ⟨b, off, none⟩ ∧ b < w.heap.size ∧ cs.length = size ∧ R w cs l[i] ∧ ∀ j, j < size → w.cell? ⟨b, off + (i * size + j), none⟩ = cs[j]?
def SlOf {α : Type} (w : World) (size : Nat) (R : World → List Value → α → Prop) (cs : List Value) (l : List α) : Prop :=
  ∃ A cap, cs = [.slice A l.length cap] ∧ SlAt w size R A cap l

theorem slAt_nil {α : Type} {size : Nat} {R : World → List Value → α → Prop} : SlAt w size R none 0 ([] : List α) :=
  ⟨Nat.le_refl _, Nat.zero_le _, fun i h => absurd h (by simp)⟩
theorem SlAt.aft {α : Type} {size : Nat} {R : World → List Value → α → Prop} {A : Option Addr} {cap : Nat} {l : List α} {w' : World} (h : SlAt w size R A cap l) (hw : Aft w w') (hR : ∀ cs x, R w cs x → R w' cs x) : SlAt w' size R A cap l :=
  ⟨h.1, h.2.1, fun i hi => by
    obtain ⟨b, off, cs, hA, hb, hl, hr, hc⟩ := h.2.2 i hi
    exact ⟨b, off, cs, hA, Nat.lt_of_lt_of_le hb hw.size, hl, hR _ _ hr, fun j hj => (Below.cell hw (p := ⟨b, off + (i * size + j), none⟩) hb).trans (hc j hj)⟩⟩

theorem choose_list {α : Type} (n : Nat) (p : Nat → α → Prop) (h : ∀ i, i < n → ∃ x, p i x) : ∃ l : List α, l.length = n ∧ ∀ i (hi : i < l.length), p i l[i] := by
  induction n with
  | zero => exact ⟨[], rfl, fun i hi => absurd hi (by simp)⟩
  | succ n ih =>
    obtain ⟨l, hl, hp⟩ := ih fun i hi => h i (by omega)
    obtain ⟨x, hx⟩ := h n (by omega)
    refine ⟨l ++ [x], by simp [hl], fun i hi => ?_⟩
    by_cases hin : i < l.length
    · rw [List.getElem_append_left hin]; exact hp i hin
    · have : i = l.length := by simp at hi; omega
      subst this
      simp only [List.getElem_append_right (Nat.le_refl _), Nat.sub_self, List.getElem_cons_zero]
      rw [hl]; exact hx

theorem Rd.slice {α : Type} {t e : TypeId} {cs : List Value} {size : Nat} {R : World → List Value → α → Prop} (ht : P.underlying t = some (.slice e)) (hs : P.cellsOf e = size) (hpos : 0 < size) (hby : 16 ≤ P.bytesOf e)
    (hR : ∀ cs, Rd enc P w e cs → ∃ x, R w cs x) (h : Rd enc P w t cs) : ∃ l : List α, SlOf w size R cs l := by
  obtain ⟨fuel, x, hx, hl⟩ := h
  have hlt := DataW.trod_lt fuel t cs x hx
  rcases open_slice ht hx with ⟨rfl, _⟩ | ⟨a, len, cap, m, n, D, Pl, rfl, _, hlc, hcm, hm, rfl, hi⟩
  · exact ⟨[], none, 0, rfl, slAt_nil⟩
  · simp only [if_true] at hm
    subst hm
    have hcap : Small (m * 16) := by
      have h1 := hl (((List.range len).map D).length + ((List.range (m - len)).map fun j => D (len + j)).length |> (· * P.bytesOf e)) (by simp [DataW.weights, ht])
      simp only [List.length_map, List.length_range] at h1
      have h2 : len + (m - len) = m := by omega
      rw [h2] at h1
      exact Nat.le_trans (Nat.mul_le_mul_left _ hby) h1
    have hspot : 0 < len → a.spot = none := by
      intro h0
      obtain ⟨cs', hc, _⟩ := hi 0 (by omega)
      rw [hs] at hc
      obtain ⟨_, hcl, hat⟩ := World.cells?_some hc
      have h1 := hat 0 hpos
      have h2 : w.cell? ((a.add (0 * size)).add 0) = some (cs'[0]'(by omega)) := by rw [h1]; exact List.getElem?_eq_getElem (by omega)
      have h3 := World.cell?_spot h2
      simpa [Addr.add] using h3
    have hel : ∀ i, i < len → ∃ x : α, ∃ b off cs, some a = some ⟨b, off, none⟩ ∧ b < w.heap.size ∧ cs.length = size ∧ R w cs x ∧ ∀ j, j < size → w.cell? ⟨b, off + (i * size + j), none⟩ = cs[j]? := by
      intro i hil
      obtain ⟨cs', hc, htr⟩ := hi i (by omega)
      rw [hs] at hc
      obtain ⟨_, hcl, hat⟩ := World.cells?_some hc
      have hrd : Rd enc P w e cs' := by
        refine ⟨n, _, htr, fun k hk => hl k ?_⟩
        simp only [DataW.weights, ht, List.mem_cons, List.mem_append]
        exact .inr (.inl (weightsAll_get (d := D i) (List.mem_map.2 ⟨i, List.mem_range.2 hil, rfl⟩) k hk))
      obtain ⟨y, hy⟩ := hR cs' hrd
      have hsp := hspot (by omega)
      obtain ⟨b, off, spot⟩ := a
      simp only at hsp
      subst hsp
      have hb : b < w.heap.size := hlt (.cell b off) (by
        simp only [List.mem_append]
        left
        rw [hs]
        have hpm : 0 < m * size := Nat.mul_pos (by omega) hpos
        simp only [MemPlace.row]
        exact List.mem_map.2 ⟨0, List.mem_range.2 hpm, by simp⟩)
      refine ⟨y, b, off, cs', rfl, hb, hcl, hy, fun j hj => ?_⟩
      have h1 := hat j hj
      rw [← h1, Go.Deep.add_add]
      have : (Addr.mk b off none).add (i * size + j) = ⟨b, off + (i * size + j), none⟩ := by
        unfold Addr.add; split
        · rename_i h0; rw [h0]; rfl
        · rfl
      rw [this]
    obtain ⟨l, hll, hp⟩ := choose_list len _ hel
    subst hll
    exact ⟨l, some a, m, rfl, hlc, Nat.le_trans (Nat.mul_le_mul_right _ hlc) hcap, hp⟩
end
end Go.Proofs.Yticjnndhpfdajaa
/- Objects as plain data, and how they lie in memory. -/
namespace Go.Proofs.Yticjnndhpfdajaa
open Go.RowKit

structure Col where
  name : ByteArray
  kind : Int
  null : Bool
structure Rul where
  name : ByteArray
  kind : Int
  cols : List ByteArray
  low : Int
  high : Int
  schema : ByteArray
  table : ByteArray
  key : ByteArray
structure Tab where
  schema : ByteArray
  name : ByteArray
  owner : ByteArray
  cols : List Col
  rules : List Rul
structure Sch where
  name : ByteArray
  owner : ByteArray
structure Objs where
  schemas : List Sch
  tables : List Tab

/-- two texts are the same, as the model asks it -/
def eqS (a b : ByteArray) : Bool := a.toList == b.toList

def StrR (_ : World) (cs : List Value) (s : ByteArray) : Prop := cs = [.string s] ∧ Small s.size
def ColR (_ : World) (cs : List Value) (c : Col) : Prop := cs = [.string c.name, .int .i64 c.kind, .bool c.null] ∧ Small c.name.size
def SchR (_ : World) (cs : List Value) (s : Sch) : Prop := cs = [.string s.name, .string s.owner] ∧ Small s.name.size ∧ Small s.owner.size
def RulR (w : World) (cs : List Value) (r : Rul) : Prop :=
  ∃ A cap, cs = [.string r.name, .int .i64 r.kind, .slice A r.cols.length cap, .int .i64 r.low, .int .i64 r.high, .string r.schema, .string r.table, .string r.key] ∧
    SlAt w 1 StrR A cap r.cols ∧ Small r.name.size ∧ Small r.schema.size ∧ Small r.table.size ∧ Small r.key.size
def TabR (w : World) (cs : List Value) (t : Tab) : Prop :=
  ∃ A cap A2 cap2, cs = [.string t.schema, .string t.name, .string t.owner, .slice A t.cols.length cap, .slice A2 t.rules.length cap2] ∧
    SlAt w 3 ColR A cap t.cols ∧ SlAt w 8 RulR A2 cap2 t.rules ∧ Small t.schema.size ∧ Small t.name.size ∧ Small t.owner.size
def ObjR (w : World) (cs : List Value) (o : Objs) : Prop :=
  ∃ A cap A2 cap2, cs = [.slice A o.schemas.length cap, .slice A2 o.tables.length cap2] ∧ SlAt w 2 SchR A cap o.schemas ∧ SlAt w 5 TabR A2 cap2 o.tables

section
variable {w w' : World}
theorem StrR.aft {cs : List Value} {s : ByteArray} (h : StrR w cs s) : StrR w' cs s := h
theorem ColR.aft {cs : List Value} {s : Col} (h : ColR w cs s) : ColR w' cs s := h
theorem SchR.aft {cs : List Value} {s : Sch} (h : SchR w cs s) : SchR w' cs s := h
theorem strs_aft {A : Option Addr} {cap : Nat} {l : List ByteArray} (hw : Aft w w') (h : SlAt w 1 StrR A cap l) : SlAt w' 1 StrR A cap l := h.aft hw fun _ _ h => h
theorem cols_aft {A : Option Addr} {cap : Nat} {l : List Col} (hw : Aft w w') (h : SlAt w 3 ColR A cap l) : SlAt w' 3 ColR A cap l := h.aft hw fun _ _ h => h
theorem schs_aft {A : Option Addr} {cap : Nat} {l : List Sch} (hw : Aft w w') (h : SlAt w 2 SchR A cap l) : SlAt w' 2 SchR A cap l := h.aft hw fun _ _ h => h
theorem RulR.aft {cs : List Value} {r : Rul} (hw : Aft w w') (h : RulR w cs r) : RulR w' cs r := by
  obtain ⟨A, cap, e, hs, h1⟩ := h
  exact ⟨A, cap, e, strs_aft hw hs, h1⟩
theorem ruls_aft {A : Option Addr} {cap : Nat} {l : List Rul} (hw : Aft w w') (h : SlAt w 8 RulR A cap l) : SlAt w' 8 RulR A cap l := h.aft hw fun _ _ h => RulR.aft hw h
theorem TabR.aft {cs : List Value} {r : Tab} (hw : Aft w w') (h : TabR w cs r) : TabR w' cs r := by
  obtain ⟨A, cap, A2, cap2, e, hs, hr, h1⟩ := h
  exact ⟨A, cap, A2, cap2, e, cols_aft hw hs, ruls_aft hw hr, h1⟩
theorem tabs_aft {A : Option Addr} {cap : Nat} {l : List Tab} (hw : Aft w w') (h : SlAt w 5 TabR A cap l) : SlAt w' 5 TabR A cap l := h.aft hw fun _ _ h => TabR.aft hw h
theorem ObjR.aft {cs : List Value} {o : Objs} (hw : Aft w w') (h : ObjR w cs o) : ObjR w' cs o := by
  obtain ⟨A, cap, A2, cap2, e, hs, ht⟩ := h
  exact ⟨A, cap, A2, cap2, e, schs_aft hw hs, tabs_aft hw ht⟩

theorem str_at {A : Option Addr} {cap : Nat} {l : List ByteArray} (h : SlAt w 1 StrR A cap l) {k : Nat} (hk : k < l.length) :
    ∃ b off, A = some ⟨b, off, none⟩ ∧ b < w.heap.size ∧ w.cell? ⟨b, off + k, none⟩ = some (.string l[k]) ∧ Small l[k].size := by
  obtain ⟨b, off, cs, hA, hb, hl, ⟨rfl, hs⟩, hc⟩ := h.2.2 k hk
  refine ⟨b, off, hA, hb, ?_, hs⟩
  have := hc 0 (by omega)
  simpa using this
theorem col_at {A : Option Addr} {cap : Nat} {l : List Col} (h : SlAt w 3 ColR A cap l) {k : Nat} (hk : k < l.length) :
    ∃ b off, A = some ⟨b, off, none⟩ ∧ b < w.heap.size ∧ w.cell? ⟨b, off + k * 3, none⟩ = some (.string l[k].name) ∧ w.cell? ⟨b, off + k * 3 + 1, none⟩ = some (.int .i64 l[k].kind) ∧ w.cell? ⟨b, off + k * 3 + 2, none⟩ = some (.bool l[k].null) ∧ Small l[k].name.size := by
  obtain ⟨b, off, cs, hA, hb, hl, ⟨rfl, hs⟩, hc⟩ := h.2.2 k hk
  exact ⟨b, off, hA, hb, by simpa using hc 0 (by omega), by simpa [Nat.add_assoc] using hc 1 (by omega), by simpa [Nat.add_assoc] using hc 2 (by omega), hs⟩
theorem sch_at {A : Option Addr} {cap : Nat} {l : List Sch} (h : SlAt w 2 SchR A cap l) {k : Nat} (hk : k < l.length) :
    ∃ b off, A = some ⟨b, off, none⟩ ∧ b < w.heap.size ∧ w.cell? ⟨b, off + k * 2, none⟩ = some (.string l[k].name) ∧ w.cell? ⟨b, off + k * 2 + 1, none⟩ = some (.string l[k].owner) ∧ Small l[k].name.size ∧ Small l[k].owner.size := by
  obtain ⟨b, off, cs, hA, hb, hl, ⟨rfl, hs, hs2⟩, hc⟩ := h.2.2 k hk
  exact ⟨b, off, hA, hb, by simpa using hc 0 (by omega), by simpa [Nat.add_assoc] using hc 1 (by omega), hs, hs2⟩
theorem rul_at {A : Option Addr} {cap : Nat} {l : List Rul} (h : SlAt w 8 RulR A cap l) {k : Nat} (hk : k < l.length) :
    ∃ b off A2 cap2, A = some ⟨b, off, none⟩ ∧ b < w.heap.size ∧ w.cell? ⟨b, off + k * 8, none⟩ = some (.string l[k].name) ∧ w.cell? ⟨b, off + k * 8 + 1, none⟩ = some (.int .i64 l[k].kind) ∧ w.cell? ⟨b, off + k * 8 + 2, none⟩ = some (.slice A2 l[k].cols.length cap2) ∧
      w.cell? ⟨b, off + k * 8 + 3, none⟩ = some (.int .i64 l[k].low) ∧ w.cell? ⟨b, off + k * 8 + 4, none⟩ = some (.int .i64 l[k].high) ∧ w.cell? ⟨b, off + k * 8 + 5, none⟩ = some (.string l[k].schema) ∧ w.cell? ⟨b, off + k * 8 + 6, none⟩ = some (.string l[k].table) ∧ w.cell? ⟨b, off + k * 8 + 7, none⟩ = some (.string l[k].key) ∧
      SlAt w 1 StrR A2 cap2 l[k].cols ∧ Small l[k].name.size ∧ Small l[k].schema.size ∧ Small l[k].table.size ∧ Small l[k].key.size := by
  obtain ⟨b, off, cs, hA, hb, hl, ⟨A2, cap2, rfl, hr⟩, hc⟩ := h.2.2 k hk
  exact ⟨b, off, A2, cap2, hA, hb, by simpa using hc 0 (by omega), by simpa [Nat.add_assoc] using hc 1 (by omega), by simpa [Nat.add_assoc] using hc 2 (by omega), by simpa [Nat.add_assoc] using hc 3 (by omega), by simpa [Nat.add_assoc] using hc 4 (by omega),
    by simpa [Nat.add_assoc] using hc 5 (by omega), by simpa [Nat.add_assoc] using hc 6 (by omega), by simpa [Nat.add_assoc] using hc 7 (by omega), hr⟩
theorem tab_at {A : Option Addr} {cap : Nat} {l : List Tab} (h : SlAt w 5 TabR A cap l) {k : Nat} (hk : k < l.length) :
    ∃ b off A2 cap2 A3 cap3, A = some ⟨b, off, none⟩ ∧ b < w.heap.size ∧ w.cell? ⟨b, off + k * 5, none⟩ = some (.string l[k].schema) ∧ w.cell? ⟨b, off + k * 5 + 1, none⟩ = some (.string l[k].name) ∧ w.cell? ⟨b, off + k * 5 + 2, none⟩ = some (.string l[k].owner) ∧
      w.cell? ⟨b, off + k * 5 + 3, none⟩ = some (.slice A2 l[k].cols.length cap2) ∧ w.cell? ⟨b, off + k * 5 + 4, none⟩ = some (.slice A3 l[k].rules.length cap3) ∧
      SlAt w 3 ColR A2 cap2 l[k].cols ∧ SlAt w 8 RulR A3 cap3 l[k].rules ∧ Small l[k].schema.size ∧ Small l[k].name.size ∧ Small l[k].owner.size := by
  obtain ⟨b, off, cs, hA, hb, hl, ⟨A2, cap2, A3, cap3, rfl, hr⟩, hc⟩ := h.2.2 k hk
  exact ⟨b, off, A2, cap2, A3, cap3, hA, hb, by simpa using hc 0 (by omega), by simpa [Nat.add_assoc] using hc 1 (by omega), by simpa [Nat.add_assoc] using hc 2 (by omega), by simpa [Nat.add_assoc] using hc 3 (by omega), by simpa [Nat.add_assoc] using hc 4 (by omega), hr⟩
theorem SlAt.len {α : Type} {size : Nat} {R : World → List Value → α → Prop} {A : Option Addr} {cap : Nat} {l : List α} (h : SlAt w size R A cap l) : l.length * 16 ≤ 140737488351232 := h.2.1
end

/-- the first place at which p holds, or -1 -/
def idxP {α : Type} (p : α → Bool) : List α → Int
  | [] => -1
  | x :: l => if p x then 0 else if idxP p l < 0 then -1 else idxP p l + 1
theorem idxP_none {α : Type} (p : α → Bool) (l : List α) (h : ∀ i (hi : i < l.length), p l[i] = false) : idxP p l = -1 := by
  induction l with
  | nil => rfl
  | cons x l ih =>
    have h0 := h 0 (by simp)
    have ih := ih fun i hi => h (i + 1) (Nat.succ_lt_succ hi)
    simp at h0
    simp [idxP, h0, ih]
theorem idxP_some {α : Type} (p : α → Bool) (l : List α) (k : Nat) (hk : k < l.length) (hp : p l[k] = true) (h : ∀ i (hi : i < k), p (l[i]'(by omega)) = false) : idxP p l = k := by
  induction l generalizing k with
  | nil => simp at hk
  | cons x l ih =>
    cases k with
    | zero => simp at hp; simp [idxP, hp]
    | succ k =>
      have h0 := h 0 (by omega)
      simp at h0 hp
      have := ih k (by simpa using hk) hp fun i hi => h (i + 1) (by omega)
      simp [idxP, h0, this]
      omega
theorem idxP_range {α : Type} (p : α → Bool) (l : List α) : -1 ≤ idxP p l ∧ idxP p l < l.length := by
  induction l with
  | nil => simp [idxP]
  | cons x l ih => simp only [idxP, List.length_cons]; (repeat' split) <;> omega
end Go.Proofs.Yticjnndhpfdajaa
