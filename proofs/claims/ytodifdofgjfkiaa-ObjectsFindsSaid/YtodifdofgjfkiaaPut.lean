/- A table of our own objects is written. -/
import Derived.Test.YtodifdofgjfkiaaTabCh
namespace Go.Proofs.Ytodifdofgjfkiaa
open Go.RowKit Go.Deep
set_option maxRecDepth 100000
set_option linter.unusedVariables false
theorem nodup_swap {P A X C Y : List Nat} {N : Nat} (h : (P ++ (A ++ (X ++ C))).Nodup) (hy : Y.Nodup) (hm : ∀ g ∈ Y, g ∈ X ∨ N ≤ g) (hlt : ∀ g ∈ P ++ (A ++ (X ++ C)), g < N) : (P ++ (A ++ (Y ++ C))).Nodup := by
  obtain ⟨hP, h1, d1⟩ := List.nodup_append.1 h
  obtain ⟨hA, h2, d2⟩ := List.nodup_append.1 h1
  obtain ⟨hX, hC, d3⟩ := List.nodup_append.1 h2
  refine List.nodup_append.2 ⟨hP, List.nodup_append.2 ⟨hA, List.nodup_append.2 ⟨hy, hC, ?_⟩, ?_⟩, ?_⟩
  · intro a ha b hb e
    subst e
    rcases hm a ha with h3 | h3
    · exact d3 a h3 a hb rfl
    · have := hlt a (by simp [hb]); omega
  · intro a ha b hb e
    subst e
    have hl := hlt a (by simp [ha])
    rcases List.mem_append.1 hb with h3 | h3
    · rcases hm a h3 with h4 | h4
      · exact d2 a ha a (by simp [h4]) rfl
      · omega
    · exact d2 a ha a (by simp [h3]) rfl
  · intro a ha b hb e
    subst e
    have hl := hlt a (by simp [ha])
    rcases List.mem_append.1 hb with h3 | h3
    · exact d1 a ha a (by simp [h3]) rfl
    · rcases List.mem_append.1 h3 with h3 | h3
      · rcases hm a h3 with h4 | h4
        · exact d1 a ha a (by simp [h4]) rfl
        · omega
      · exact d1 a ha a (by simp [h3]) rfl
theorem list_parts {α : Type} (L : List α) (q : Nat) (hq : q < L.length) : L = L.take q ++ (L[q] :: L.drop (q + 1)) := by
  have := List.take_append_drop q L
  rw [List.drop_eq_getElem_cons hq] at this
  exact this.symm
theorem list_set_parts {α : Type} (L : List α) (q : Nat) (hq : q < L.length) (y : α) : L.set q y = L.take q ++ (y :: L.drop (q + 1)) := by
  rw [List.set_eq_take_append_cons_drop, if_pos hq]
theorem mem_set_cases {α : Type} {L : List α} {q : Nat} {x y : α} (hq : q < L.length) (h : x ∈ L.set q y) : x = y ∨ ∃ i, ∃ hi : i < L.length, i ≠ q ∧ x = L[i] := by
  obtain ⟨i, hi, rfl⟩ := List.getElem_of_mem h
  rw [List.length_set] at hi
  by_cases e : i = q
  · subst e; exact .inl (by simp)
  · exact .inr ⟨i, hi, e, by rw [List.getElem_set_ne (fun h => e h.symm)]⟩
theorem tab_disj {P : List Nat} {L : List OTab} {q i : Nat} (h : (P ++ L.flatMap OTab.blks).Nodup) (hq : q < L.length) (hi : i < L.length) (hne : i ≠ q) {g : Nat} (h1 : g ∈ L[q].blks) (h2 : g ∈ L[i].blks) : False := by
  have h0 := (List.nodup_append.1 h).2.1
  rw [list_parts L q hq, List.flatMap_append, List.flatMap_cons] at h0
  obtain ⟨_, h3, d1⟩ := List.nodup_append.1 h0
  obtain ⟨_, _, d2⟩ := List.nodup_append.1 h3
  by_cases hlt : i < q
  · exact d1 g (List.mem_flatMap.2 ⟨L[i], by rw [List.mem_take_iff_getElem]; exact ⟨i, by omega, rfl⟩, h2⟩) g (by simp [h1]) rfl
  · refine d2 g h1 g (List.mem_flatMap.2 ⟨L[i], ?_, h2⟩) rfl
    rw [List.mem_drop_iff_getElem]
    exact ⟨i - (q + 1), by omega, by congr 1; omega⟩
theorem nodup_set {P : List Nat} {L : List OTab} {q N : Nat} {y : OTab} (h : (P ++ L.flatMap OTab.blks).Nodup) (hq : q < L.length) (hy : y.blks.Nodup) (hm : ∀ g ∈ y.blks, g ∈ L[q].blks ∨ N ≤ g) (hlt : ∀ g ∈ P ++ L.flatMap OTab.blks, g < N) : (P ++ (L.set q y).flatMap OTab.blks).Nodup := by
  rw [list_set_parts L q hq y, List.flatMap_append, List.flatMap_cons]
  have e : L.flatMap OTab.blks = (L.take q).flatMap OTab.blks ++ (L[q].blks ++ (L.drop (q + 1)).flatMap OTab.blks) := by
    conv => lhs; rw [list_parts L q hq]
    rw [List.flatMap_append, List.flatMap_cons]
  rw [e] at h hlt
  exact nodup_swap h hy hm hlt
theorem tab_nodup {P : List Nat} {L : List OTab} {q : Nat} (h : (P ++ L.flatMap OTab.blks).Nodup) (hq : q < L.length) : L[q].blks.Nodup := by
  have h1 := (List.nodup_append.1 h).2.1
  rw [list_parts L q hq, List.flatMap_append, List.flatMap_cons] at h1
  exact (List.nodup_append.1 (List.nodup_append.1 h1).2.1).1
/-- a cell of the table q is written: the table is y then -/
theorem ObjIn.put {w : World} {B gt q j : Nat} {hs ht : Hd} {ss : List Sch} {L : List OTab} {y : OTab} {u : Value} (hsch : w.ownsRow B 84 2 hs.v ss.length (ss.flatMap schC)) (htab : w.ownsRow B 34 5 ht.v L.length (L.flatMap OTab.cells))
    (hoth : ∀ i (hi : i < L.length), i ≠ q → TabIn w B L[i]) (hy : TabIn w B y) (hnd : (hs.blk ++ (ht.blk ++ (L.set q y).flatMap OTab.blks)).Nodup) (hgt : ht.a = some ⟨gt, 0, none⟩) (hq : q < L.length) (hj : j < 5) (hc : y.cells = L[q].cells.set j u) :
    ObjIn (w.setCell ⟨gt, q * 5 + j, none⟩ u) B hs ht ss (L.set q y) := by
  have hg : gt ∈ ht.blk := by rw [Hd.mem_blk]; unfold Hd.v; rw [hgt]; rfl
  have k := Kb.set w gt (q * 5 + j) u
  obtain ⟨_, n2, d1⟩ := List.nodup_append.1 hnd
  obtain ⟨_, _, d2⟩ := List.nodup_append.1 n2
  refine ⟨own_kb hsch k (fun g h1 e => d1 g (Hd.mem_blk.2 h1) g (by rw [e]; simp [hg]) rfl), ?_, fun x hx => ?_, hnd⟩
  · have := own_set htab (Hd.mem_blk.1 hg) (q * 5 + j) u
    rw [flatMap_set (size := 5) (fun _ => rfl) L q j hq hj u y hc] at this
    rw [List.length_set]; exact this
  · have hb : ∀ g ∈ x.blks, ¬ g = gt := fun g h1 e => d2 gt hg g (List.mem_flatMap.2 ⟨x, hx, h1⟩) e.symm
    rcases mem_set_cases hq hx with rfl | ⟨i, hi, hne, rfl⟩
    · exact hy.kb k hb
    · exact (hoth i hi hne).kb k hb
theorem ObjIn.nth {w : World} {B q : Nat} {hs ht : Hd} {ss : List Sch} {L : List OTab} (h : ObjIn w B hs ht ss L) (hq : q < L.length) : TabIn w B L[q] := h.each _ (List.getElem_mem hq)
theorem nd_assoc {a b c : List Nat} : (a ++ (b ++ c)).Nodup ↔ ((a ++ b) ++ c).Nodup := by rw [List.append_assoc]
/-- the cells of a table -/
theorem ObjIn.cell {w : World} {B gt q j : Nat} {hs ht : Hd} {ss : List Sch} {L : List OTab} (h : ObjIn w B hs ht ss L) (hgt : ht.a = some ⟨gt, 0, none⟩) (hq : q < L.length) (hj : j < 5) : w.cell? ⟨gt, q * 5 + j, none⟩ = L[q].cells[j]? := own_cell h.tab (fun _ => rfl) hgt hq hj
theorem ObjIn.row {w : World} {B gt q : Nat} {hs ht : Hd} {ss : List Sch} {L : List OTab} (h : ObjIn w B hs ht ss L) (hgt : ht.a = some ⟨gt, 0, none⟩) (hq : q < L.length) : gt < w.heap.size ∧ B ≤ gt ∧ ∀ j, j < 5 → w.frozen? ⟨gt, q * 5 + j, none⟩ = false := by
  obtain ⟨g, hg, hb, hr⟩ := own_place h.tab (by omega)
  rw [hgt] at hg
  simp only [Option.some.injEq, Addr.mk.injEq, and_true] at hg
  subst hg
  refine ⟨hr.1, hb, fun j hj => hr.2.2 _ ?_⟩
  rw [flatMap_len (size := 5) (fun _ => rfl)]
  have : (q + 1) * 5 ≤ L.length * 5 := Nat.mul_le_mul_right _ hq
  omega
theorem own_owner {L : List OTab} {q : Nat} (hq : q < L.length) (v : ByteArray) : (OTab.blks { L[q] with owner := v }) = L[q].blks := rfl
set_option maxHeartbeats 4000000 in
theorem setOwner1_in (v : ByteArray) (o : Objs) (w : World) (hs ht : Hd) (L : List OTab) (B n3 q gt bo : Nat) (hq : q < L.length) (hbn : B ≤ n3) (hL : L.map OTab.t = o.tables) (ob : ObjIn w B hs ht o.schemas L) (hne : ∀ g ∈ hs.blk ++ (ht.blk ++ L.flatMap OTab.blks), g ≠ n3)
    (r3 : RowAt w n3 [.slice hs.a o.schemas.length hs.c, .slice ht.a o.tables.length ht.c]) (hgt : ht.a = some ⟨gt, 0, none⟩) (c1 : w.cell? ⟨bo, 0, none⟩ = some (.string v)) :
    Calls Try.prog 77 #[.agg #[.slice hs.a o.schemas.length hs.c, .slice ht.a o.tables.length ht.c], .pointer (some ⟨gt, q * 5, none⟩), .pointer (some ⟨bo, 0, none⟩)] w (TDoP w B n3 hs ht o.schemas L q (({ L[q].t with owner := v } : Tab), 0)) := by
  obtain ⟨z1, z2, zf⟩ := ob.row hgt hq
  have f2 := zf 2 (by decide)
  have d2 : w.cell? ⟨gt, q * 5 + 2, none⟩ = some (.string L[q].owner) := ob.cell hgt hq (by decide)
  have y1 := World.block_lt_of_cell? _ _ c1
  have l1 : gt < w.heap.size + 1 := by omega
  have l2 : bo < w.heap.size + 1 := by have : bo < w.heap.size := y1; omega
  have HLL : L.length = o.tables.length := by rw [← hL]; simp
  have HGT := Lib.hid hgt
  have HP := Lib.hid (show TDoP w B n3 hs ht o.schemas L q (({ L[q].t with owner := v } : Tab), 0) (.returned (.int .i64 0)) ((w.setCell ⟨gt, q * 5 + 2, none⟩ (.string v)).alloc (.cells #[.slice hs.a o.schemas.length hs.c, .slice ht.a o.tables.length ht.c] 25)) from by
    refine ⟨rfl, ((Kb.set w gt (q * 5 + 2) (.string v)).mono (fun g _ e => by subst e; exact z2)).trans (Kb.of_aft ((Aft.refl _).alloc _)), fun _ => ⟨{ L[q] with owner := v }, rfl, ?_, ?_⟩⟩
    · refine (ObjIn.put (j := 2) (u := .string v) (y := { L[q] with owner := v }) ob.sch ob.tab (fun i hi _ => ob.nth hi) ⟨(ob.nth hq).col, (ob.nth hq).rul, (ob.nth hq).each⟩ ?_ hgt hq (by decide) rfl).aft ((Aft.refl _).alloc _)
      have h0 := ob.nd
      rw [nd_assoc] at h0 ⊢
      refine nodup_set (N := w.heap.size) h0 hq (tab_nodup h0 hq) (fun g hg => .inl hg) (fun g hg => (ob.lt g (by rw [List.append_assoc] at hg; exact hg)).2)
    · rw [HLL]
      have hg : gt ∈ ht.blk := by rw [Hd.mem_blk]; unfold Hd.v; rw [hgt]; rfl
      exact ((Kb.set w gt (q * 5 + 2) (.string v)).row r3 (fun e => hne gt (by simp [hg]) e.symm)).aft ((Aft.refl _).alloc _))
  clear ob hL hne r3 zf hgt
  go_enter Try.func77, Try.ntmps77
  go_wp2_with fail
  go_ret
  exact HP.out
end Go.Proofs.Ytodifdofgjfkiaa
