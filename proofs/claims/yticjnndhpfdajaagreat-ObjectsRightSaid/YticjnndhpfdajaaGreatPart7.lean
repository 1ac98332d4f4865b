/- Contracts of the program, part 7. -/
import Derived.Test.YticjnndhpfdajaaGreatPart6
import Derived.Deep.AppendLies
import Derived.Lib.SliceRun
import Derived.Test.YticjnndhpfdajaaGreatPart4
import Derived.Shelf.SlSortCmp.WholeK
/- More words on rows of our own. -/
namespace Go.Proofs.YticjnndhpfdajaaGreat
open Go.RowKit Go.Deep
set_option linter.unusedVariables false
theorem own_lit {w : World} {B size n : Nat} {e : TypeId} {v : Value} {xs : List Value} (o : w.ownsRow B e size v n xs) : ∃ A cap, v = .slice A n cap := by
  obtain ⟨h, hv, hn⟩ := own_head o
  exact ⟨h.a, h.c, by rw [hv, ← hn]; rfl⟩
theorem chunks_flat {α : Type} {w : World} {size : Nat} {R : World → List Value → α → Prop} {f : α → List Value} (hf : ∀ cs x, R w cs x → cs = f x) : ∀ {css : List (List Value)} {l : List α}, Chunks w size R css l → css.flatten = l.flatMap f := by
  intro css l h
  have : css = l.map f := by
    refine List.ext_getElem (by rw [h.1]; simp) fun i h1 h2 => ?_
    have hi : i < l.length := by simpa using h2
    rw [List.getElem_map]
    exact hf _ _ (h.2 i h1 hi).2
  rw [this, List.flatMap_def]
theorem flat_cols {w : World} {css : List (List Value)} {l : List Col} (h : Chunks w 3 ColR css l) : css.flatten = l.flatMap colC := chunks_flat (fun _ _ h => h.1) h
theorem flat_names {w : World} {css : List (List Value)} {l : List ByteArray} (h : Chunks w 1 StrR css l) : css.flatten = l.flatMap nameC := chunks_flat (fun _ _ h => h.1) h
theorem flat_schs {w : World} {css : List (List Value)} {l : List Sch} (h : Chunks w 2 SchR css l) : css.flatten = l.flatMap schC := chunks_flat (fun _ _ h => h.1) h
/-- rules as they lie -/
theorem rules_lie {w : World} {css : List (List Value)} {l : List Rul} (h : Chunks w 8 RulR css l) : ∃ L : List ORul, L.map (·.r) = l ∧ css = L.map ORul.cells ∧ ∀ x ∈ L, x.h.n = x.r.cols.length ∧ SlAt w 1 StrR x.h.a x.h.c x.r.cols := by
  have hex : ∀ i, i < l.length → ∃ x : ORul, ∀ (hi : i < l.length) (hc : i < css.length), x.r = l[i] ∧ css[i] = x.cells ∧ x.h.n = x.r.cols.length ∧ SlAt w 1 StrR x.h.a x.h.c x.r.cols := by
    intro i hi
    have hc : i < css.length := by rw [h.1]; exact hi
    obtain ⟨_, A, cap, hcs, hs, _⟩ := h.2 i hc hi
    exact ⟨⟨l[i], A, l[i].cols.length, cap⟩, fun _ _ => ⟨rfl, hcs, rfl, hs⟩⟩
  obtain ⟨L, hL, hp⟩ := choose_list l.length _ hex
  refine ⟨L, ?_, ?_, ?_⟩
  · refine List.ext_getElem (by simp [hL]) fun i h1 h2 => ?_
    rw [List.getElem_map]
    exact (hp i (by simpa using h1) h2 (by rw [h.1]; exact h2)).1
  · refine List.ext_getElem (by simp [hL, h.1]) fun i h1 h2 => ?_
    rw [List.getElem_map]
    have hi : i < L.length := by simpa using h2
    exact (hp i hi (by omega) h1).2.1
  · intro x hx
    obtain ⟨i, hi, rfl⟩ := List.getElem_of_mem hx
    exact (hp i hi (by omega) (by rw [h.1]; omega)).2.2
theorem flatMap_len {α : Type} {f : α → List Value} {size : Nat} (hf : ∀ x, (f x).length = size) (l : List α) : (l.flatMap f).length = l.length * size := by
  rw [List.flatMap_def, flat_len _ (by intro c hc; obtain ⟨x, _, rfl⟩ := List.mem_map.1 hc; exact hf x), List.length_map]
theorem flatMap_set {α : Type} {f : α → List Value} {size : Nat} (hf : ∀ x, (f x).length = size) (l : List α) (k j : Nat) (hk : k < l.length) (hj : j < size) (u : Value) (y : α) (hy : f y = (f l[k]).set j u) : (l.flatMap f).set (k * size + j) u = (l.set k y).flatMap f := by
  rw [List.flatMap_def, List.flatMap_def, flat_set _ (by intro c hc; obtain ⟨x, _, rfl⟩ := List.mem_map.1 hc; exact hf x) k j (by simpa using hk) u hj, List.map_set]
  congr 1
  rw [hy]; simp
theorem nodup_more {l m : List Nat} {N : Nat} (h : l.Nodup) (hm : m.Nodup) (h1 : ∀ g ∈ l, g < N) (h2 : ∀ g ∈ m, N ≤ g) : (l ++ m).Nodup :=
  List.nodup_append.2 ⟨h, hm, fun a ha b hb e => by have := h1 a ha; have := h2 b hb; omega⟩
theorem blk_nodup (h : Hd) : h.blk.Nodup := by
  obtain ⟨a, n, c⟩ := h
  cases a <;> simp [Hd.blk]
theorem blk_nil (n c : Nat) : (Hd.mk none n c).blk = [] := rfl
theorem blk_some (p : Addr) (n c : Nat) : (Hd.mk (some p) n c).blk = [p.block] := rfl
/-- where a row of our own lies -/
theorem own_place {w : World} {B size n : Nat} {e : TypeId} {h : Hd} {xs : List Value} (o : w.ownsRow B e size h.v n xs) (hn : 0 < n) : ∃ g, h.a = some ⟨g, 0, none⟩ ∧ B ≤ g ∧ RowAt w g xs := by
  obtain ⟨g, cap, hv, hb, _, hr⟩ := own_rowAt o hn
  unfold Hd.v at hv
  simp only [Value.slice.injEq] at hv
  exact ⟨g, hv.1, hb, hr⟩
theorem oneC_cells {α : Type} {f : α → List Value} (hf : ∀ x, ∀ u ∈ f x, u.oneCell' = true) (l : List α) : ∀ u ∈ l.flatMap f, u.oneCell' = true := by
  intro u hu
  obtain ⟨x, _, hu⟩ := List.mem_flatMap.1 hu
  exact hf x u hu
theorem oneC_name (s : ByteArray) : ∀ u ∈ nameC s, u.oneCell' = true := by intro u hu; simp only [nameC, List.mem_cons, List.not_mem_nil, or_false] at hu; subst hu; simp [Value.oneCell']
theorem oneC_col (s : Col) : ∀ u ∈ colC s, u.oneCell' = true := by intro u hu; simp only [colC, List.mem_cons, List.not_mem_nil, or_false] at hu; rcases hu with rfl | rfl | rfl <;> simp [Value.oneCell']
theorem oneC_sch (s : Sch) : ∀ u ∈ schC s, u.oneCell' = true := by intro u hu; simp only [schC, List.mem_cons, List.not_mem_nil, or_false] at hu; rcases hu with rfl | rfl <;> simp [Value.oneCell']
theorem oneC_rul (s : ORul) : ∀ u ∈ s.cells, u.oneCell' = true := by intro u hu; simp only [ORul.cells, rulC, Hd.v, List.mem_cons, List.not_mem_nil, or_false] at hu; rcases hu with rfl | rfl | rfl | rfl | rfl | rfl | rfl | rfl <;> simp [Value.oneCell']
theorem oneC_tab (s : OTab) : ∀ u ∈ s.cells, u.oneCell' = true := by intro u hu; simp only [OTab.cells, Hd.v, List.mem_cons, List.not_mem_nil, or_false] at hu; rcases hu with rfl | rfl | rfl | rfl | rfl <;> simp [Value.oneCell']
/-- the cells of a slice that came in -/
theorem sl_cells {α : Type} {w w' : World} {size : Nat} {R : World → List Value → α → Prop} {f : α → List Value} {A : Option Addr} {cap : Nat} {l : List α} (h : SlAt w size R A cap l) (hs : 0 < size) (hf : ∀ cs x, R w cs x → cs = f x) (a : Aft w w') : ∀ ad, A = some ad → ∀ j u, (l.flatMap f)[j]? = some u → w'.cell? (ad.add j) = some u := by
  intro ad hA j u hj
  by_cases h0 : 0 < l.length
  · obtain ⟨b, off, css, hA', hb', hch, hc⟩ := h.css h0 hs
    rw [hA] at hA'
    simp only [Option.some.injEq] at hA'
    subst hA'
    rw [← chunks_flat hf hch] at hj
    have hlt : j < l.length * size := by rw [← hch.len]; exact (List.getElem?_eq_some_iff.1 hj).1
    rw [add_mk]; exact a.cell_kept ((hc j hlt).trans hj)
  · have hl0 : l = [] := List.eq_nil_of_length_eq_zero (by omega)
    subst hl0
    simp at hj
theorem sl_none {α : Type} {w : World} {size : Nat} {R : World → List Value → α → Prop} {A : Option Addr} {cap : Nat} {l : List α} (h : SlAt w size R A cap l) : A = none → l.length = 0 := by
  intro hA
  cases l with
  | nil => rfl
  | cons x l => obtain ⟨b, off, cs, hA', _⟩ := h.2.2 0 (by simp); rw [hA] at hA'; cases hA'
theorem info2Tab : (Tryz.prog.info? 50).map (fun i => (i.zero, i.size, i.bytes)) = some (some (.agg #[.string ByteArray.empty, .string ByteArray.empty, .string ByteArray.empty, .slice none 0 0, .slice none 0 0]), 5, 96) := by kernel_rfl
theorem info2Sch2 : (Tryz.prog.info? 99).map (fun i => (i.zero, i.size, i.bytes)) = some (some (.agg #[.string ByteArray.empty, .string ByteArray.empty]), 2, 32) := by kernel_rfl
theorem info2Str2 : (Tryz.prog.info? 9).map (fun i => (i.zero, i.size, i.bytes)) = some (some (.string ByteArray.empty), 1, 16) := by kernel_rfl
theorem info2Rul2 : (Tryz.prog.info? 29).map (fun i => (i.zero, i.size, i.bytes)) = some (some (.agg #[.string ByteArray.empty, .int .i64 0, .slice none 0 0, .int .i64 0, .int .i64 0, .string ByteArray.empty, .string ByteArray.empty, .string ByteArray.empty]), 8, 112) := by kernel_rfl
theorem info2Col2 : (Tryz.prog.info? 41).map (fun i => (i.zero, i.size, i.bytes)) = some (some (.agg #[.string ByteArray.empty, .int .i64 0, .bool false]), 3, 32) := by kernel_rfl
/-- a table in memory of its own -/
def CopyO (w : World) (t : Tab) (e : Ending) (w' : World) : Prop :=
  ∃ x : OTab, x.t = t ∧ e = .returned (.agg #[.string t.schema, .string t.name, .string t.owner, .slice x.hc.a t.cols.length x.hc.c, .slice x.hr.a t.rules.length x.hr.c]) ∧ Aft w w' ∧ TabIn w' w.heap.size x ∧ x.blks.Nodup
/-- objects in memory of their own -/
def OwnO (w : World) (o : Objs) (e : Ending) (w' : World) : Prop :=
  ∃ hs ht L, L.map OTab.t = o.tables ∧ e = .returned (.agg #[.slice hs.a o.schemas.length hs.c, .slice ht.a o.tables.length ht.c]) ∧ Aft w w' ∧ ObjIn w' w.heap.size hs ht o.schemas L
def ModO (o : Objs) : Prop := o.schemas.length ≤ 1000000 ∧ o.tables.length ≤ 1000000 ∧ ∀ t ∈ o.tables, t.cols.length ≤ 1000000 ∧ t.rules.length ≤ 1000000 ∧ ∀ r ∈ t.rules, r.cols.length ≤ 1000000
end Go.Proofs.YticjnndhpfdajaaGreat
/- Rows of our own: many cells written at once, and a row cut short. -/
namespace Go.Proofs.YticjnndhpfdajaaGreat
open Go.RowKit Go.Deep
set_option linter.unusedVariables false
def setL : List Value → Nat → List Value → List Value
  | xs, _, [] => xs
  | xs, o, v :: r => setL (xs.set o v) (o + 1) r
theorem setL_len : ∀ (vs xs : List Value) (o : Nat), (setL xs o vs).length = xs.length
  | [], xs, o => rfl
  | v :: r, xs, o => by rw [setL, setL_len r]; simp
theorem setL_eq : ∀ (vs xs : List Value) (o : Nat), o + vs.length ≤ xs.length → setL xs o vs = xs.take o ++ vs ++ xs.drop (o + vs.length)
  | [], xs, o, h => by simp [setL]
  | v :: r, xs, o, h => by
    simp only [List.length_cons] at h
    rw [setL, setL_eq r (xs.set o v) (o + 1) (by simp; omega)]
    have e1 : (xs.set o v).take (o + 1) = xs.take o ++ [v] := by
      rw [List.take_succ_eq_append_getElem (by simp; omega)]
      simp [List.take_set_of_le]
    have e2 : (xs.set o v).drop (o + 1 + r.length) = xs.drop (o + (r.length + 1)) := by
      rw [List.drop_set_of_lt (by omega)]
      congr 1; omega
    rw [e1, e2]
    simp
theorem own_setCells {B size n : Nat} {e : TypeId} {v : Value} {g : Nat} (hg : v.ownBlock = some g) : ∀ (vs : List Value) {w : World} {xs : List Value} (o : Nat), w.ownsRow B e size v n xs → (w.setCells g o vs).ownsRow B e size v n (setL xs o vs)
  | [], w, xs, o, h => h
  | u :: r, w, xs, o, h => own_setCells hg r (o + 1) (own_set h hg o u)
theorem kb_setCells (g : Nat) : ∀ (vs : List Value) (w : World) (o : Nat), Kb (fun k => k = g) w (w.setCells g o vs)
  | [], w, o => Kb.refl _ _
  | u :: r, w, o => (Kb.set w g o u).trans (kb_setCells g r _ (o + 1))
theorem own_cut {w : World} {B size n m cap : Nat} {e : TypeId} {A : Option Addr} {xs : List Value} (h : w.ownsRow B e size (.slice A n cap) n xs) (hm : m ≤ n) : w.ownsRow B e size (.slice A m cap) m (xs.take (m * size)) := by
  have hl : m * size ≤ n * size := Nat.mul_le_mul_right _ hm
  refine ⟨by rw [List.length_take, h.1]; omega, ?_⟩
  rcases h.2 with ⟨hv, hn⟩ | ⟨g, cap', cur, hv, hb, hgg, hnc, hcm, hcs, htk⟩
  · simp only [Value.slice.injEq] at hv
    exact .inl ⟨by rw [hv.1, hv.2.2]; congr 1; omega, by omega⟩
  · simp only [Value.slice.injEq, true_and] at hv
    refine .inr ⟨g, cap', cur, by rw [hv.1, hv.2], hb, hgg, by omega, hcm, hcs, ?_⟩
    rw [← htk, List.take_take]
    congr 1; omega
theorem zeroCells_one (z : Array Value) : (Builtin.zeroCells z 1).toList = z.toList := by
  simp only [Builtin.zeroCells, Nat.one_mul]
  apply List.ext_getElem
  · simp
  · intro i h1 h2
    have hi : i < z.size := by simpa using h2
    simp [Nat.mod_eq_of_lt hi, getElem!_pos z i hi]
/-- clear of one element -/
theorem run_clear_one {P : Program} (w : World) (t e ty : TypeId) (z : Value) (ht : P.underlying t = some (.slice e)) (hv : ∀ w, (zeroValue e).run P w = .ok z w) (h1 : ∀ u ∈ z.cells.toList, u.oneCell' = true) (b o c : Nat)
    (hc : ∀ j, j < z.cells.toList.length → (w.cell? ⟨b, o + j, none⟩).isSome = true) (hf : ∀ j, j < z.cells.toList.length → w.frozen? ⟨b, o + j, none⟩ = false) :
    (Builtin.clear_ #[t] ty #[.slice (some ⟨b, o, none⟩) 1 c]).run P w = .ok (.tuple #[]) (w.setCells b o z.cells.toList) := by
  have hst := run_storeCells_cells (P := P) b o z.cells.toList 0 w (by simpa using hc) (by simpa using hf) h1
  simp only [Nat.add_zero] at hst
  simp only [Builtin.clear_, List.getElem?_toArray, List.getElem?_cons_zero, Sem.run_bind, run_underlying ht, Result.andThen_ok, hv, zeroCells_one, hst, Sem.run_pure]
theorem flatMap_take {α : Type} {f : α → List Value} {size : Nat} (hf : ∀ x, (f x).length = size) (l : List α) (i : Nat) : (l.flatMap f).take (i * size) = (l.take i).flatMap f := by
  induction l generalizing i with
  | nil => simp
  | cons x l ih =>
    cases i with
    | zero => simp
    | succ i =>
      have e : (i + 1) * size = (f x).length + i * size := by rw [hf, Nat.succ_mul]; omega
      rw [List.flatMap_cons, e, List.take_length_add_append, ih]
      simp
theorem flatMap_drop {α : Type} {f : α → List Value} {size : Nat} (hf : ∀ x, (f x).length = size) (l : List α) (i : Nat) : (l.flatMap f).drop (i * size) = (l.drop i).flatMap f := by
  induction l generalizing i with
  | nil => simp
  | cons x l ih =>
    cases i with
    | zero => simp
    | succ i =>
      have e : (i + 1) * size = (f x).length + i * size := by rw [hf, Nat.succ_mul]; omega
      rw [List.flatMap_cons, e, List.drop_length_add_append, ih]
      simp
theorem flatMap_erase {α : Type} {f : α → List Value} {size : Nat} (hf : ∀ x, (f x).length = size) (l : List α) (i : Nat) : (l.flatMap f).take (i * size) ++ (l.flatMap f).drop ((i + 1) * size) = (l.eraseIdx i).flatMap f := by
  rw [flatMap_take hf, flatMap_drop hf, List.eraseIdx_eq_take_drop_succ, List.flatMap_append]
/-- what Delete of one element leaves -/
def DelP (ty : TypeId) (size : Nat) (w : World) (B g cap i m : Nat) (xs : List Value) (e : Ending) (w' : World) : Prop :=
  e = .returned (.slice (some ⟨g, 0, none⟩) (i + m) cap) ∧ w'.ownsRow B ty size (.slice (some ⟨g, 0, none⟩) (i + m) cap) (i + m) (xs.take (i * size) ++ xs.drop ((i + 1) * size)) ∧ Kb (fun k => k = g) w w'
/-- the row behind Delete's two writes -/
theorem del_own {w : World} {B size g cap i m : Nat} {e : TypeId} {xs z : List Value} (ho : w.ownsRow B e size (.slice (some ⟨g, 0, none⟩) (i + 1 + m) cap) (i + 1 + m) xs) (hz : z.length = size) :
    ((w.setCells g (i * size) (xs.drop ((i + 1) * size))).setCells g ((i + m) * size) z).ownsRow B e size (.slice (some ⟨g, 0, none⟩) (i + m) cap) (i + m) (xs.take (i * size) ++ xs.drop ((i + 1) * size)) := by
  have hx := ho.1
  have e0 : (i + 1 + m) * size = i * size + size + m * size := by rw [Nat.add_mul, Nat.succ_mul]
  have e1 : (i + 1) * size = i * size + size := Nat.succ_mul _ _
  have e2 : (i + m) * size = i * size + m * size := Nat.add_mul _ _ _
  have h1 := own_setCells (g := g) rfl z ((i + m) * size) (own_setCells (g := g) rfl (xs.drop ((i + 1) * size)) (i * size) ho)
  have h2 := own_cut h1 (m := i + m) (by omega)
  have hd : (xs.drop ((i + 1) * size)).length = m * size := by rw [List.length_drop, hx]; omega
  have e3 : (setL (setL xs (i * size) (xs.drop ((i + 1) * size))) ((i + m) * size) z).take ((i + m) * size) = xs.take (i * size) ++ xs.drop ((i + 1) * size) := by
    rw [setL_eq z _ _ (by rw [setL_len, hx, hz]; omega), List.append_assoc, List.take_append_of_le_length (by rw [List.length_take, setL_len, hx]; omega), List.take_take, Nat.min_self, setL_eq _ _ _ (by rw [hd, hx]; omega)]
    rw [List.take_append_of_le_length (by rw [List.length_append, hd, List.length_take, hx]; omega)]
    rw [List.take_of_length_le (by rw [List.length_append, hd, List.length_take, hx]; omega)]
  rw [e3] at h2
  exact h2
end Go.Proofs.YticjnndhpfdajaaGreat
/- slices.SortFunc over a row of our own: it holds the same things in order; and what one new thing in a row that rises makes of it. -/
namespace Go.Proofs.YticjnndhpfdajaaGreat
open Go.RowKit Go.Deep Go.Shelf Go.Sort
set_option linter.unusedVariables false
set_option linter.unusedSectionVars false
section
variable {α : Type} [Inhabited α]
theorem flatK_list (f : α → List Value) (k : Nat) (hk : ∀ x, (f x).length = k) (d : Array α) : (flatK f k d).toList = d.toList.flatMap f := by
  have hl : (d.toList.flatMap f).length = d.size * k := by rw [flatMap_len hk]; simp
  refine List.ext_getElem (by simp [flatK, hl]) fun t h1 h2 => ?_
  have ht : t < d.size * k := by rw [← hl]; exact h2
  have k0 : 0 < k := by
    rcases Nat.eq_zero_or_pos k with h | h
    · subst h; simp at ht
    · exact h
  have hd : t / k < d.size := Nat.div_lt_of_lt_mul (by rw [Nat.mul_comm]; exact ht)
  have hm : t % k < k := Nat.mod_lt _ k0
  have e := flat_get (size := k) (d.toList.map f) (by simp [hk]) (t / k) (t % k) (by simpa using hd) hm
  rw [← List.flatMap_def, Nat.div_add_mod' t k] at e
  rw [List.getElem?_eq_getElem h2] at e
  have e2 : (flatK f k d)[t]! = (f d[t / k]!)[t % k]! := get_flatK f k d t ht
  rw [getElem!_pos _ t (by rw [size_flatK]; exact ht), getElem!_pos d _ hd, getElem!_pos _ _ (by rw [hk]; exact hm)] at e2
  rw [Array.getElem_toList, e2]
  simp only [List.getElem_map, Array.getElem_toList] at e
  rw [List.getElem?_eq_getElem (by rw [hk]; exact hm)] at e
  exact (Option.some.inj e).symm
theorem setMany_list (F G : Array Value) (h : F.size = G.size) : setMany F 0 G.toList = G := by
  refine ext_get! (by rw [size_setMany]; exact h) fun t ht => ?_
  rw [size_setMany] at ht
  rw [get_setMany _ _ _ _ ht, if_pos ⟨Nat.zero_le _, by simpa using (by omega : t < G.size)⟩]
  simp
  rw [getElem!_pos G t (by omega)]
  simp [List.getElem!_eq_getElem?_getD, Array.getElem?_eq_getElem (show t < G.size by omega)]
theorem putRow_cells (w : World) (blk : Nat) (F G : Array Value) (h : Holds id w blk 0 F) (hs : F.size = G.size) : putRow id w blk 0 G = w.setCells blk 0 G.toList := by
  have h1 := putRow_self id w blk 0 F h
  have h2 := setCells_putRow w blk 0 G.toList 0 F (by simp [hs])
  rw [h1, setMany_list F G hs] at h2
  exact h2.symm
theorem holdsK_own {w : World} {B k cap blk : Nat} {e : TypeId} (f : α → List Value) (hk : ∀ x, (f x).length = k) (l : List α) (h0 : 0 < l.length) (ho : w.ownsRow B e k (.slice (some ⟨blk, 0, none⟩) l.length cap) l.length (l.flatMap f)) : HoldsK f k w blk 0 l.toArray := by
  obtain ⟨g, cap', hv, hB, hnc, hr⟩ := own_rowAt ho h0
  have : g = blk := by simp only [Value.slice.injEq, Option.some.injEq, Addr.mk.injEq] at hv; exact hv.1.1.symm
  subst this
  intro j hj
  rw [size_flatK] at hj
  have hj' : j < (l.flatMap f).length := by rw [flatMap_len hk]; simpa using hj
  have e1 := flatK_list f k hk l.toArray
  refine ⟨?_, by rw [Nat.zero_add]; exact hr.2.2 j hj'⟩
  rw [Nat.zero_add, hr.2.1 j hj', id, getElem!_pos _ j (by rw [size_flatK]; exact hj), ← Array.getElem_toList, List.getElem?_eq_getElem hj']
  congr 1
  exact (List.getElem_of_eq e1 _).symm
theorem aft_ahead (w : World) (n : Nat) : Aft w (Go.Sort.ahead w n) := ⟨rfl, rfl, rfl, Nat.le_refl _, fun _ _ => rfl⟩
theorem aft_grow (w : World) (os : Array Obj) : Aft w (grow w os) := ⟨rfl, rfl, rfl, by simp, fun k hk => heap_grow_old w os hk⟩
/-- what a sort leaves -/
def SortedP (e : TypeId) (k : Nat) (f : α → List Value) (cf : α → α → Int) (w : World) (B blk cap : Nat) (l : List α) (x : Ending) (w' : World) : Prop :=
  x = .returned (.tuple #[]) ∧ ∃ l' : List α, l'.Perm l ∧ (∀ i j (hi : i < l'.length) (hj : j < l'.length), i < j → ¬ cf l'[j] l'[i] < 0) ∧ w'.ownsRow B e k (.slice (some ⟨blk, 0, none⟩) l.length cap) l.length (l'.flatMap f) ∧ Kb (fun j => j = blk) w w'
theorem sort_own {P : Program} {ρ : Ren} (L : SlLaysF0.n6 P ρ) (k : Nat) (aE : ∀ w, (isAgg (ρ.t 24)).run P w = .ok true w) (zE : ∀ w, (Go.sizeOf (ρ.t 24)).run P w = .ok k w) (f : α → List Value) (hk : ∀ x, (f x).length = k) (h1 : ∀ x, ∀ v ∈ f x, v.oneCell' = true) (cf : α → α → Int) (hO : SWO (ltOf cf)) (g : Nat) (cb : Array Value)
    (e : TypeId) (B blk cap : Nat) (l : List α) (h0 : 0 < l.length) (hsz : l.length ≤ 1000000) (w : World) (ho : w.ownsRow B e k (.slice (some ⟨blk, 0, none⟩) l.length cap) l.length (l.flatMap f)) (eg : ∀ args w, (callFunc g args).run P w = .ok (.enter g args) w)
    (hc : ∀ W x y, Calls P g (#[.agg (f x).toArray, .agg (f y).toArray] ++ cb) W fun e w' => e = .returned (.int .i64 (cf x y)) ∧ ∃ q os', w' = grow (W.drewN q) os') :
    Calls P (ρ.f 6) #[.slice (some ⟨blk, 0, none⟩) l.length cap, .func (.func g) #[] cb] w (SortedP e k f cf w B blk cap l) := by
  have hH := holdsK_own f hk l h0 ho
  have hb : blk < w.heap.size := (ho.lt blk rfl).2
  refine (AnyQ.slices_SortFunc L k aE zE f hk h1 cf hO g cb blk 0 cap l.toArray w eg (fun m os dk _ x y => hc _ x y) hH hb (by simp; omega)).mono ?_
  rintro x w' ⟨rfl, d', n, os, hp, hs, rfl⟩
  have hsize : d'.size = l.length := by have := hp.1; simpa using this
  have hext : ∀ d : Array α, d.size = l.length → (d.extract 0 l.toArray.size).toList = d.toList := fun d hd => by simp [← hd]
  refine ⟨rfl, d'.toList, ?_, fun i j hi hj hij => ?_, ?_, ?_⟩
  · have := hp.2.2
    rw [hext d' hsize, hext l.toArray (by simp)] at this
    simpa using this
  · have hj2 : j < d'.size := by simpa using hj
    have := hs i j (Nat.zero_le _) hij (by simp; omega)
    rw [getElem!_pos d' j hj2, getElem!_pos d' i (by omega)] at this
    simpa [ltOf] using this
  · unfold sortWorldK putRowK
    rw [putRow_cells (Go.Sort.ahead w n) blk (flatK f k l.toArray) (flatK f k d') (holdsK_ahead f k w n blk 0 l.toArray hH) (by simp [hsize])]
    refine own_aft ?_ (aft_grow _ os)
    have h2 := own_setCells (v := .slice (some ⟨blk, 0, none⟩) l.length cap) (g := blk) rfl (flatK f k d').toList 0 (own_aft ho (aft_ahead w n))
    rw [setL_eq _ _ _ (by simp [flatMap_len hk, hsize])] at h2
    rw [flatK_list f k hk] at h2 ⊢
    have e3 : (d'.toList.flatMap f).length = (l.flatMap f).length := by rw [flatMap_len hk, flatMap_len hk]; simp [hsize]
    rw [List.take_zero, List.nil_append, Nat.zero_add, e3, List.drop_length, List.append_nil] at h2
    exact h2
  · unfold sortWorldK putRowK
    rw [putRow_cells (Go.Sort.ahead w n) blk (flatK f k l.toArray) (flatK f k d') (holdsK_ahead f k w n blk 0 l.toArray hH) (by simp [hsize])]
    exact ((Kb.of_aft (aft_ahead w n)).trans (kb_setCells blk _ _ _)).trans (Kb.of_aft (aft_grow _ os))
end
/-- two rows of the same things, one that rises and one that does not fall, are one -/
theorem perm_rises {α : Type} {c : α → α → Int} (tr : ∀ a b d, c a b < 0 → c b d < 0 → c a d < 0) (anti : ∀ a b, c a b = - c b a) {L l' : List α} (hL : ∀ i j (hi : i < L.length) (hj : j < L.length), i < j → c L[i] L[j] < 0) (hp : l'.Perm L) (hs : ∀ i j (hi : i < l'.length) (hj : j < l'.length), i < j → ¬ c l'[j] l'[i] < 0) : l' = L := by
  have hw : L.Pairwise fun a b => c a b < 0 := List.pairwise_iff_getElem.2 fun i j hi hj hij => hL i j hi hj hij
  have hne : ∀ a ∈ L, ∀ b ∈ L, c a b = 0 → a = b := fun a ha b hb e => by
    obtain ⟨i, hi, rfl⟩ := List.getElem_of_mem ha
    obtain ⟨j, hj, rfl⟩ := List.getElem_of_mem hb
    rcases Nat.lt_trichotomy i j with h | h | h
    · have := hL i j hi hj h; omega
    · subst h; rfl
    · have := hL j i hj hi h; have := anti L[j] L[i]; omega
  have hle : l'.Pairwise fun a b => c a b ≤ 0 := List.pairwise_iff_getElem.2 fun i j hi hj hij => by
    have h1 := hs i j hi hj hij
    have h2 := anti l'[i] l'[j]
    omega
  exact List.Perm.eq_of_pairwise (le := fun a b => c a b ≤ 0) (fun a b ha hb h1 h2 => hne a (hp.subset ha) b hb (by have := anti a b; omega)) hle (hw.imp fun h => Int.le_of_lt h) hp
/-- one new thing behind a row that rises, in order, stands in its place -/
theorem sort_ins {α : Type} {c : α → α → Int} (tr : ∀ a b d, c a b < 0 → c b d < 0 → c a d < 0) (anti : ∀ a b, c a b = - c b a) {l l' : List α} {x : α} (hr : risesB c l = true) (hn : ∀ y ∈ l, c y x ≠ 0) (hp : l'.Perm (l ++ [x])) (hs : ∀ i j (hi : i < l'.length) (hj : j < l'.length), i < j → ¬ c l'[j] l'[i] < 0) : l' = insAt l (posB c l x) x := by
  have hi := rises_ins' tr anti hr hn
  refine perm_rises tr anti (fun i j hi' hj hij => rises_lt tr hi i j hi' hj hij) (hp.trans ?_) hs
  unfold insAt
  have h1 : (l ++ [x]).Perm ([x] ++ l) := List.perm_append_comm
  have h2 : (l.take (posB c l x) ++ [x]).Perm ([x] ++ l.take (posB c l x)) := List.perm_append_comm
  refine h1.trans (List.Perm.trans ?_ (h2.append_right _).symm)
  rw [List.append_assoc, List.take_append_drop]
end Go.Proofs.YticjnndhpfdajaaGreat
