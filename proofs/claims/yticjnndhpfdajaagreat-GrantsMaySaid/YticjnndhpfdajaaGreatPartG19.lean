/- Contracts of the program, part 19. -/
import Derived.Test.YticjnndhpfdajaaGreatPartG18
import Derived.Test.YticjnndhpfdajaaGreatPartG17
import Derived.Deep.DeepMust
/- objects.tableChanged: a table of our own objects, changed by what is handed in. -/
namespace Go.Proofs.YticjnndhpfdajaaGreat
open Go.RowKit Go.Deep
set_option maxRecDepth 100000
set_option linter.unusedVariables false
/-- a table changed -/
def tabR (o : Objs) (s n : ByteArray) (f : Tab → Tab × Int) : Objs × Int :=
  match o.tables[(tabAt o.tables s n).toNat]? with
  | some t => if tabAt o.tables s n < 0 then (zeroO, 61) else if (f t).2 = 0 then (⟨o.schemas, o.tables.set (tabAt o.tables s n).toNat (f t).1⟩, 0) else (zeroO, (f t).2)
  | none => (zeroO, 61)
end Go.Proofs.YticjnndhpfdajaaGreat
/- A cell of a table of our own objects is written. -/
namespace Go.Proofs.YticjnndhpfdajaaGreat
open Go.RowKit Go.Deep
set_option maxRecDepth 100000
set_option linter.unusedVariables false
theorem mem_set_cases {α : Type} {L : List α} {q : Nat} {x y : α} (hq : q < L.length) (h : x ∈ L.set q y) : x = y ∨ ∃ i, ∃ hi : i < L.length, i ≠ q ∧ x = L[i] := by
  obtain ⟨i, hi, rfl⟩ := List.getElem_of_mem h
  rw [List.length_set] at hi
  by_cases e : i = q
  · subst e; exact .inl (by simp)
  · exact .inr ⟨i, hi, e, by rw [List.getElem_set_ne (fun h => e h.symm)]⟩
/-- a cell of the table q is written: the table is y then -/
theorem ObjIn.put {w : World} {B gt q j : Nat} {hs ht : Hd} {ss : List Sch} {L : List OTab} {y : OTab} {u : Value} (hsch : w.ownsRow B 99 2 hs.v ss.length (ss.flatMap schC)) (htab : w.ownsRow B 50 5 ht.v L.length (L.flatMap OTab.cells))
    (hoth : ∀ i (hi : i < L.length), i ≠ q → TabIn w B L[i]) (hy : TabIn w B y) (hnd : (hs.blk ++ (ht.blk ++ (L.set q y).flatMap OTab.blks)).Nodup) (hgt : ht.a = some ⟨gt, 0, none⟩) (hq : q < L.length) (hj : j < 5) (hc : y.cells = L[q].cells.set j u) :
    ObjIn (w.setCell ⟨gt, q * 5 + j, none⟩ u) B hs ht ss (L.set q y) := by
  have hg : gt ∈ ht.blk := by rw [Hd.mem_blk]; unfold Hd.v; rw [hgt]; rfl
  have k := Kb.set w gt (q * 5 + j) u
  obtain ⟨_, n2, d1⟩ := List.nodup_append.1 hnd
  obtain ⟨_, _, d2⟩ := List.nodup_append.1 n2
  refine ⟨own_kb hsch k (fun g h1 e => d1 g (Hd.mem_blk.2 h1) g (by rw [e]; simp [hg]) rfl), ?_, fun x hx => ?_, hnd⟩
  · have := own_set htab (Hd.mem_blk.1 hg) (q * 5 + j) u
    rw [flatMap_set (size := 5) (fun _ => rfl) L q j hq hj u y hc] at this
    rw [List.length_set]; exact this
  · have hb : ∀ g ∈ x.blks, ¬ g = gt := fun g h1 e => d2 gt hg g (List.mem_flatMap.2 ⟨x, hx, h1⟩) e.symm
    rcases mem_set_cases hq hx with rfl | ⟨i, hi, hne, rfl⟩
    · exact hy.kb k hb
    · exact (hoth i hi hne).kb k hb
/-- the cells of a table -/
theorem ObjIn.cell {w : World} {B gt q j : Nat} {hs ht : Hd} {ss : List Sch} {L : List OTab} (h : ObjIn w B hs ht ss L) (hgt : ht.a = some ⟨gt, 0, none⟩) (hq : q < L.length) (hj : j < 5) : w.cell? ⟨gt, q * 5 + j, none⟩ = L[q].cells[j]? := own_cell h.tab (fun _ => rfl) hgt hq hj
theorem ObjIn.row {w : World} {B gt q : Nat} {hs ht : Hd} {ss : List Sch} {L : List OTab} (h : ObjIn w B hs ht ss L) (hgt : ht.a = some ⟨gt, 0, none⟩) (hq : q < L.length) : gt < w.heap.size ∧ B ≤ gt ∧ ∀ j, j < 5 → w.frozen? ⟨gt, q * 5 + j, none⟩ = false := by
  obtain ⟨g, hg, hb, hr⟩ := own_place h.tab (by omega)
  rw [hgt] at hg
  simp only [Option.some.injEq, Addr.mk.injEq, and_true] at hg
  subst hg
  refine ⟨hr.1, hb, fun j hj => hr.2.2 _ ?_⟩
  rw [flatMap_len (size := 5) (fun _ => rfl)]
  have : (q + 1) * 5 ≤ L.length * 5 := Nat.mul_le_mul_right _ hq
  omega
end Go.Proofs.YticjnndhpfdajaaGreat
/- A table of our own objects is written. -/
namespace Go.Proofs.YticjnndhpfdajaaGreat
open Go.RowKit Go.Deep
set_option maxRecDepth 100000
set_option linter.unusedVariables false
end Go.Proofs.YticjnndhpfdajaaGreat
/- The document's Copy: a table in memory of its own. -/
namespace Go.Proofs.YticjnndhpfdajaaGreat
open Go.RowKit Go.Deep
set_option maxRecDepth 100000
set_option linter.unusedVariables false
theorem colC_len (l : List Col) : (l.flatMap colC).length = l.length * 3 := flatMap_len (size := 3) (fun _ => rfl) l
theorem nameC_len (l : List ByteArray) : (l.flatMap nameC).length = l.length * 1 := flatMap_len (size := 1) (fun _ => rfl) l
theorem schC_len (l : List Sch) : (l.flatMap schC).length = l.length * 2 := flatMap_len (size := 2) (fun _ => rfl) l
structure RCopyS (w wr : World) (t : Tab) (A : Option Addr) (cap : Nat) (A2 : Option Addr) (cap2 : Nat) (hc hr : Hd) (L : List ORul) (k : Nat) : Prop where
  aft : Aft w wr
  box : RowAt wr w.heap.size [.string t.schema, .string t.name, .string t.owner, .slice A t.cols.length cap, .slice A2 t.rules.length cap2]
  out : RowAt wr (w.heap.size + 1) [.string ⟨#[]⟩, .string ⟨#[]⟩, .string ⟨#[]⟩, .slice none 0 0, .slice none 0 0]
  col : wr.ownsRow (w.heap.size + 2) 41 3 hc.v t.cols.length (t.cols.flatMap colC)
  rul : wr.ownsRow (w.heap.size + 2) 29 8 hr.v k (L.flatMap ORul.cells)
  len : L.length = k
  is : L.map (·.r) = t.rules.take k
  each : ∀ x ∈ L, RulIn wr (w.heap.size + 2) x
  nd : (hc.blk ++ (hr.blk ++ L.flatMap (·.h.blk))).Nodup
theorem RCopyS.lt {w wr : World} {t : Tab} {A A2 : Option Addr} {cap cap2 : Nat} {hc hr : Hd} {L : List ORul} {k : Nat} (s : RCopyS w wr t A cap A2 cap2 hc hr L k) : ∀ g ∈ hc.blk ++ (hr.blk ++ L.flatMap (·.h.blk)), w.heap.size + 2 ≤ g ∧ g < wr.heap.size := by
  intro g hg
  simp only [List.mem_append, List.mem_flatMap] at hg
  rcases hg with hg | hg | ⟨r, hr, hg⟩
  · exact blk_lt s.col g hg
  · exact blk_lt s.rul g hg
  · exact blk_lt (s.each r hr).nam g hg
theorem RCopyS.step {w wr w4 w5 : World} {t : Tab} {A A2 : Option Addr} {cap cap2 : Nat} {hc hr hr' h4 : Hd} {L : List ORul} {k : Nat} (s : RCopyS w wr t A cap A2 cap2 hc hr L k) (hk : k < t.rules.length)
    (a4 : Aft wr w4) (own4 : w4.ownsRow wr.heap.size 9 1 h4.v t.rules[k].cols.length (t.rules[k].cols.flatMap nameC)) (hg : w4.grownBy w5 hr.v.ownBlock)
    (ho : w5.ownsRow (w.heap.size + 2) 29 8 hr'.v (k + 1) (L.flatMap ORul.cells ++ rulC t.rules[k] h4)) (hb : ∀ g ∈ hr'.blk, g ∈ hr.blk ∨ w4.heap.size ≤ g) : RCopyS w w5 t A cap A2 cap2 hc hr' (L ++ [⟨t.rules[k], h4⟩]) (k + 1) := by
  have hlt := s.lt
  have nd := s.nd
  have nd2 := (List.nodup_append.1 nd).2.1
  have kg : Kb (fun g => hr.v.ownBlock = some g) w4 w5 := Kb.of_grown hg
  have ka : Kb (fun g => hr.v.ownBlock = some g) wr w5 := (Kb.of_aft a4).trans kg
  have hrl : ∀ g, hr.v.ownBlock = some g → w.heap.size + 2 ≤ g ∧ g < wr.heap.size := fun g h1 => s.rul.lt g h1
  have hz := a4.size
  have hzo := s.out.1
  have hx4 : ∀ g ∈ h4.blk, wr.heap.size ≤ g ∧ g < w4.heap.size := blk_lt own4
  refine ⟨ka.to_aft s.aft (fun g hgl h1 => by have := hrl g h1; omega), ka.row s.box (fun h1 => by have := hrl _ h1; omega), ka.row s.out (fun h1 => by have := hrl _ h1; omega), own_kb s.col ka (fun g hg1 hg2 => nodup_disj nd (Hd.mem_blk.2 hg1) (by simp [Hd.mem_blk.2 hg2])), ?_, by simp [s.len], ?_, ?_, ?_⟩
  · rw [List.flatMap_append]
    simpa [ORul.cells] using ho
  · rw [List.map_append, s.is, List.take_succ_eq_append_getElem hk]; rfl
  · intro x hx
    simp only [List.mem_append, List.mem_singleton] at hx
    rcases hx with hx | rfl
    · exact (s.each x hx).kb ka fun g hg1 hg2 => nodup_disj nd2 (Hd.mem_blk.2 hg2) (List.mem_flatMap.2 ⟨x, hx, hg1⟩)
    · exact ⟨own_down (own_kb own4 kg fun g hg1 hg2 => by have := (own4.lt g hg1).1; have := (hrl g hg2).2; omega) (by omega)⟩
  · rw [List.flatMap_append]
    have e : [ORul.mk t.rules[k] h4].flatMap (·.h.blk) = h4.blk := by simp
    rw [e]
    refine List.nodup_append.2 ⟨(List.nodup_append.1 nd).1, List.nodup_append.2 ⟨blk_nodup _, nodup_more (List.nodup_append.1 nd2).2.1 (blk_nodup _) (fun g hg => (hlt g (by simp only [List.mem_append]; exact .inr (.inr hg))).2) (fun g hg => (hx4 g hg).1), ?_⟩, ?_⟩
    · intro a ha b hb2 e
      subst e
      rcases List.mem_append.1 hb2 with h1 | h1
      · rcases hb a ha with h2 | h2
        · exact nodup_disj nd2 h2 h1
        · have := (hlt a (by simp only [List.mem_append]; exact .inr (.inr h1))).2; omega
      · rcases hb a ha with h2 | h2
        · have := (hlt a (by simp [h2])).2; have := (hx4 a h1).1; omega
        · have := (hx4 a h1).2; omega
    · intro a ha b hb2 e
      subst e
      have := (hlt a (by simp [ha])).2
      rcases List.mem_append.1 hb2 with h1 | h1
      · rcases hb a h1 with h2 | h2
        · exact nodup_disj nd ha (by simp [h2])
        · omega
      · rcases List.mem_append.1 h1 with h1 | h1
        · exact nodup_disj nd ha (List.mem_append.2 (.inr h1))
        · have := (hx4 a h1).1; omega
set_option maxHeartbeats 8000000 in
theorem rCopy_in (t : Tab) (A : Option Addr) (cap : Nat) (A2 : Option Addr) (cap2 : Nat) (w : World) (h : SlAt w 3 ColR A cap t.cols) (h2 : SlAt w 8 RulR A2 cap2 t.rules) (hm : ModT t) :
    Calls Tryz.prog 59 #[.agg #[.string t.schema, .string t.name, .string t.owner, .slice A t.cols.length cap, .slice A2 t.rules.length cap2]] w (CopyO w t) := by
  obtain ⟨i0, hi, hz0, hz1, hz2⟩ := info_parts info2Rul2
  have HI := Lib.hid hi
  have HZ0 := Lib.hid hz0
  have HZ1 := Lib.hid hz1
  have HZ2 := Lib.hid hz2
  clear hi hz0 hz1 hz2
  obtain ⟨i1, hi, hz0, hz1, hz2⟩ := info_parts info2Col2
  have JI := Lib.hid hi
  have JZ0 := Lib.hid hz0
  have JZ1 := Lib.hid hz1
  have JZ2 := Lib.hid hz2
  clear hi hz0 hz1 hz2
  obtain ⟨i2, hi, hz0, hz1, hz2⟩ := info_parts info2Str2
  have KI := Lib.hid hi
  have KZ0 := Lib.hid hz0
  have KZ1 := Lib.hid hz1
  have KZ2 := Lib.hid hz2
  clear hi hz0 hz1 hz2
  have hlen := h.len
  have hlen2 := h2.len
  have l1 : w.heap.size < w.heap.size + 1 := by omega
  have l2 : w.heap.size < w.heap.size + 1 + 1 := by omega
  obtain ⟨W, hW⟩ : ∃ W, W = (w.alloc (.cells #[.string t.schema, .string t.name, .string t.owner, .slice A t.cols.length cap, .slice A2 t.rules.length cap2] 50)).alloc (.cells #[.string ⟨#[]⟩, .string ⟨#[]⟩, .string ⟨#[]⟩, .slice none 0 0, .slice none 0 0] 50) := ⟨_, rfl⟩
  have aW : Aft w W := by rw [hW]; exact ((Aft.refl w).alloc _).alloc _
  have r1 : RowAt W w.heap.size [.string t.schema, .string t.name, .string t.owner, .slice A t.cols.length cap, .slice A2 t.rules.length cap2] := by rw [hW]; exact (box_row2 (Aft.refl _)).aft ((Aft.refl _).alloc _)
  have r2 : RowAt W (w.heap.size + 1) [.string ⟨#[]⟩, .string ⟨#[]⟩, .string ⟨#[]⟩, .slice none 0 0, .slice none 0 0] := by
    rw [hW]
    have := (box_row2 (w := w.alloc (.cells #[.string t.schema, .string t.name, .string t.owner, .slice A t.cols.length cap, .slice A2 t.rules.length cap2] 50)) (c := [.string ⟨#[]⟩, .string ⟨#[]⟩, .string ⟨#[]⟩, .slice none 0 0, .slice none 0 0]) (t := 50) (Aft.refl _))
    simpa using this
  have zW : w.heap.size + 2 = W.heap.size := by rw [hW]; simp
  have HC := Lib.hid (sl_cells h (by decide) (fun _ _ h => h.1) aW)
  have HN := Lib.hid (sl_none h)
  have HM := Lib.hid hm
  have HT := Lib.hid h2
  have HR1 := Lib.hid r1
  have HR2 := Lib.hid r2
  have HAW := Lib.hid aW
  have hq4 : t.cols.length ≤ maxLen := by unfold maxLen; omega
  have hq5 : t.cols.length * 32 ≤ 140737488355328 := by have := hm.1; omega
  clear h h2 hm r1 r2 aW
  go_enter Tryz.func59, Tryz.ntmps59
  go_wp2_with (at_builtin; go_must (refine wpList_append_new _ rfl _ _ 47 rfl 41 i1 _ 3 32 Tryz.underlying47 JI.out JZ0.out JZ1.out JZ2.out rfl (by decide) rfl A t.cols.length cap (t.cols.flatMap colC) rfl (colC_len _) HN.out ?qc (oneC_cells oneC_col _) hq4 hq5 ?_); rotate_left; intro Ac cc w1 own1 a1)
  case qc => rw [← hW]; exact HC.out
  have a1 : Aft W w1 := by rw [hW]; exact a1
  have own1 : w1.ownsRow W.heap.size 41 3 (Hd.mk Ac t.cols.length cc).v t.cols.length (t.cols.flatMap colC) := by rw [hW]; exact own1
  have HS0 := Lib.hid (show RCopyS w w1 t A cap A2 cap2 ⟨Ac, t.cols.length, cc⟩ ⟨none, 0, 0⟩ [] 0 from
    ⟨HAW.out.trans a1, HR1.out.aft a1, HR2.out.aft a1, own_down own1 (by omega), own_nil _ _ _ _, rfl, rfl, fun x hx => by simp at hx, by simpa [blk_nil] using blk_nodup _⟩)
  clear hW own1 a1 HC HN zW HR1 HR2 HAW hq4 hq5 JI JZ0 JZ1 JZ2
  go_loopw [4, 5] (fun l i wr => ∃ (k : Nat) (Ar : Option Addr) (cr : Nat) (L : List ORul), k ≤ t.rules.length ∧ i = .int .i64 k ∧ l = .slice Ar k cr ∧ RCopyS w wr t A cap A2 cap2 ⟨Ac, t.cols.length, cc⟩ ⟨Ar, k, cr⟩ L k) (fun _ i _ => t.rules.length - (intOf i).toNat)
  case atStart => exact ⟨0, none, 0, [], Nat.zero_le _, rfl, rfl, HS0.out⟩
  case round =>
    clear HS0
    obtain ⟨k, Ar, cr, L, hk, rfl, rfl, hs⟩ := hrel
    have HS := Lib.hid hs
    have bz := hs.box.1
    have b4 := hs.box.cell (j := 4) rfl
    by_cases hlt : k < t.rules.length
    · obtain ⟨b, off, D, capD, rfl, hb, c0, c1, c2, c3, c4, c5, c6, c7, hcs, hss⟩ := rul_at (ruls_aft hs.aft HT.out) hlt
      obtain ⟨p, hpp⟩ : ∃ p, t.rules[k] = p := ⟨_, rfl⟩
      rw [hpp] at c0 c1 c2 c3 c4 c5 c6 c7 hcs
      have HPP := Lib.hid hpp
      have hpl := hcs.len
      have hp6 : p.cols.length ≤ 1000000 := HM.out.2.2 p (by rw [← hpp]; exact List.getElem_mem hlt)
      have hq1 : p.cols.length ≤ maxLen := by unfold maxLen; omega
      have hq2 : p.cols.length * 16 ≤ 140737488355328 := by omega
      have hq3 : k + 1 ≤ maxLen := by unfold maxLen; omega
      have hq4 : (k + 1) * 112 ≤ 140737488355328 := by have := HM.out.2.1; omega
      obtain ⟨V, hV⟩ : ∃ V, V = wr.alloc (.cells #[.string p.name, .int .i64 p.kind, .slice D p.cols.length capD, .int .i64 p.low, .int .i64 p.high, .string p.schema, .string p.table, .string p.key] 29) := ⟨_, rfl⟩
      have aV : Aft wr V := by rw [hV]; exact (Aft.refl _).alloc _
      have rV : RowAt V wr.heap.size [.string p.name, .int .i64 p.kind, .slice D p.cols.length capD, .int .i64 p.low, .int .i64 p.high, .string p.schema, .string p.table, .string p.key] := by rw [hV]; exact box_row2 (Aft.refl _)
      have zV : V.heap.size = wr.heap.size + 1 := by rw [hV]; simp
      have HC := Lib.hid (sl_cells hcs (by decide) (fun _ _ h => h.1) aV)
      have HN := Lib.hid (sl_none hcs)
      have HAV := Lib.hid aV
      have HRV := Lib.hid rV
      have HZV := Lib.hid zV
      have HOWN := Lib.hid (show wr.ownsRow (w.heap.size + 2) 29 8 (.slice Ar k cr) k (L.flatMap ORul.cells) from hs.rul)
      have HLT := Lib.hid (show w.heap.size + 2 ≤ wr.heap.size from hs.out.1)
      have l3 : wr.heap.size < wr.heap.size + 1 := by omega
      have l4 : w.heap.size < wr.heap.size + 1 := by omega
      clear hs hpp hcs aV rV zV hss
      have HAS := Lib.hid (show ∀ (w2 : World) (v : Value), Aft V w2 → RowAt w2 wr.heap.size [.string p.name, .int .i64 p.kind, .slice D p.cols.length capD, .int .i64 p.low, .int .i64 p.high, .string p.schema, .string p.table, .string p.key] ∧ Aft wr (w2.setCell ⟨wr.heap.size, 2, none⟩ v) from
        fun w2 v a => ⟨HRV.out.aft a, (HAV.out.trans a).setCell _ _ (Nat.le_refl _)⟩)
      go_wp2_with (first
        | (at_builtin; have _t := HN.out; go_must (refine wpList_append_new _ rfl _ _ 27 rfl 9 i2 _ 1 16 Tryz.underlying27 KI.out KZ0.out KZ1.out KZ2.out rfl (by decide) rfl D p.cols.length capD (p.cols.flatMap nameC) rfl (nameC_len _) HN.out ?qc2 (oneC_cells oneC_name _) hq1 hq2 ?_); rotate_left; intro Dn cn w2 own2 a2; have a2 : Aft V w2 := (by rw [hV]; exact a2); have r2 := (HAS.out w2 (.slice Dn p.cols.length cn) a2).1; have x0 := r2.cell (j := 0) rfl; have x1 := r2.cell (j := 1) rfl; have x2 := r2.cell (j := 2) rfl; have x3 := r2.cell (j := 3) rfl; have x4 := r2.cell (j := 4) rfl; have x5 := r2.cell (j := 5) rfl; have x6 := r2.cell (j := 6) rfl; have x7 := r2.cell (j := 7) rfl; have y2 := r2.2.2 2 (by simp); have z2 := r2.1; have HA2 := Lib.hid a2; have HO2 := Lib.hid own2; clear r2 a2 own2 HN _t)
        | (at_builtin; go_must (refine wpList_append_lies _ rfl _ _ 48 rfl (w.heap.size + 2) 29 i0 _ 8 112 Tryz.underlying48 HI.out HZ0.out HZ1.out HZ2.out rfl (by decide) (.slice Ar k cr) k (L.flatMap ORul.cells) rfl ((own_aft HOWN.out (HAS.out w2 _ HA2.out).2).alloc _) ⟨w2.heap.size, 0, none⟩ 1 1 [.string p.name, .int .i64 p.kind, .slice Dn p.cols.length cn, .int .i64 p.low, .int .i64 p.high, .string p.schema, .string p.table, .string p.key] rfl rfl ?qn (by simp [Value.oneCell']) (by omega) hq3 hq4 ?qb (w2.heap.size + 1) (by simp) ?_); rotate_left 2; intro gg cap' w5 hown5 hgrow hat hgl))
      case qc2 => rw [← hV]; exact HC.out
      case qn => exact World.news_of_block (cs := #[.string p.name, .int .i64 p.kind, .slice Dn p.cols.length cn, .int .i64 p.low, .int .i64 p.high, .string p.schema, .string p.table, .string p.key]) (t := 29) (fr := (0, 0)) (by have := heap_alloc_new (w2.setCell ⟨wr.heap.size, 2, none⟩ (.slice Dn p.cols.length cn)) (.cells #[.string p.name, .int .i64 p.kind, .slice Dn p.cols.length cn, .int .i64 p.low, .int .i64 p.high, .string p.schema, .string p.table, .string p.key] 29); simpa using this)
      case qb => simp; have := HLT.out; omega
      have own4 : w2.ownsRow (wr.heap.size + 1) 9 1 (Hd.mk Dn p.cols.length cn).v p.cols.length (p.cols.flatMap nameC) := own_down HO2.out (by simp)
      have own5 := (own_kb own4 (Kb.set w2 wr.heap.size 2 (.slice Dn p.cols.length cn)) (fun g hg e => by have := (own4.lt g hg).1; omega)).alloc (.cells #[.string p.name, .int .i64 p.kind, .slice Dn p.cols.length cn, .int .i64 p.low, .int .i64 p.high, .string p.schema, .string p.table, .string p.key] 29)
      have HREL := Lib.hid (HS.out.step (h4 := ⟨Dn, p.cols.length, cn⟩) (hr' := ⟨some ⟨gg, 0, none⟩, k + 1, cap'⟩) hlt ((HAS.out w2 _ HA2.out).2.alloc _) (by rw [HPP.out]; exact own_down own5 (by omega)) hgrow (by rw [HPP.out]; exact hown5)
        (fun g hg => by
          rw [blk_some, List.mem_singleton] at hg
          subst hg
          rcases hat with h1 | h1
          · exact .inl (Hd.mem_blk.2 h1)
          · refine .inr ?_
            simp
            omega))
      rw [HPP.out] at HREL
      clear own4 own5 hgrow hat hgl hown5 HO2 HA2 x0 x1 x2 x3 x4 x5 x6 x7 y2 z2
      go_wp2_with fail
      go_roundw
      case rel => exact ⟨k + 1, _, _, _, by omega, by go_num, rfl, HREL.out⟩
      case measure => simp [intOf]; omega
    · have c0 := hs.box.cell (j := 0) rfl
      have c1 := hs.box.cell (j := 1) rfl
      have c2 := hs.box.cell (j := 2) rfl
      have c3 := hs.box.cell (j := 3) rfl
      have g3 := hs.box.2.2 3 (by simp)
      have g4 := hs.box.2.2 4 (by simp)
      have d0 := hs.out.cell (j := 0) rfl
      have d1 := hs.out.cell (j := 1) rfl
      have d2 := hs.out.cell (j := 2) rfl
      have d3 := hs.out.cell (j := 3) rfl
      have d4 := hs.out.cell (j := 4) rfl
      have e0 := hs.out.2.2 0 (by simp)
      have e1 := hs.out.2.2 1 (by simp)
      have e2 := hs.out.2.2 2 (by simp)
      have e3 := hs.out.2.2 3 (by simp)
      have e4 := hs.out.2.2 4 (by simp)
      have dz := hs.out.1
      clear hs
      go_wp2_with fail
      have hs := HS.out
      obtain ⟨G, hG⟩ : ∃ G, G = (wr.setCell ⟨w.heap.size, 3, none⟩ (.slice Ac t.cols.length cc)).setCell ⟨w.heap.size, 4, none⟩ (.slice Ar k cr) := ⟨_, rfl⟩
      have kG : Kb (fun x => x = w.heap.size) wr G := by rw [hG]; exact (Kb.set _ _ _ _).trans (Kb.set _ _ _ _)
      have rG : RowAt G w.heap.size [.string t.schema, .string t.name, .string t.owner, .slice Ac t.cols.length cc, .slice Ar k cr] := by rw [hG]; exact (hs.box.set 3 _ (by simp)).set 4 _ (by simp)
      have oG := kG.row hs.out (by omega)
      rw [← hG]
      have HG := Lib.hid hG
      have HKG := Lib.hid kG
      have HOG := Lib.hid oG
      have rl : Sem.run Tryz.prog (lvTab ⟨w.heap.size, 0, none⟩) G = .ok (.agg #[.string t.schema, .string t.name, .string t.owner, .slice Ac t.cols.length cc, .slice Ar k cr]) G := lvTab_row rG
      rw [rl]
      clear rl hG d0 d1 d2 d3 d4 e0 e1 e2 e3 e4 dz c0 c1 c2 c3 g3 g4 hs kG rG
      have d0 := oG.cell (j := 0) rfl
      have d1 := oG.cell (j := 1) rfl
      have d2 := oG.cell (j := 2) rfl
      have d3 := oG.cell (j := 3) rfl
      have d4 := oG.cell (j := 4) rfl
      have e0 := oG.2.2 0 (by simp)
      have e1 := oG.2.2 1 (by simp)
      have e2 := oG.2.2 2 (by simp)
      have e3 := oG.2.2 3 (by simp)
      have e4 := oG.2.2 4 (by simp)
      have dz := oG.1
      clear oG
      simp only [Result.andThen]
      rw [Oper.upon_value]
      go_wp2_with fail
      (try simp only [Exit.inBlock, Exit.then])
      have hs := HS.out
      have kG := HKG.out
      obtain ⟨F, hF⟩ : ∃ F, F = ((((G.setCell ⟨w.heap.size + 1, 0, none⟩ (.string t.schema)).setCell ⟨w.heap.size + 1, 1, none⟩ (.string t.name)).setCell ⟨w.heap.size + 1, 2, none⟩ (.string t.owner)).setCell ⟨w.heap.size + 1, 3, none⟩ (.slice Ac t.cols.length cc)).setCell ⟨w.heap.size + 1, 4, none⟩ (.slice Ar k cr) := ⟨_, rfl⟩
      have kF : Kb (fun x => x = w.heap.size + 1) G F := by
        rw [hF]
        exact ((((Kb.set _ _ _ _).trans (Kb.set _ _ _ _)).trans (Kb.set _ _ _ _)).trans (Kb.set _ _ _ _)).trans (Kb.set _ _ _ _)
      have rF : RowAt F (w.heap.size + 1) [.string t.schema, .string t.name, .string t.owner, .slice Ac t.cols.length cc, .slice Ar k cr] := by
        rw [hF]
        exact ((((HOG.out.set 0 _ (by simp)).set 1 _ (by simp)).set 2 _ (by simp)).set 3 _ (by simp)).set 4 _ (by simp)
      rw [← hF]
      refine bodyPost_ret (results_cell (v := .agg #[.string t.schema, .string t.name, .string t.owner, .slice Ac t.cols.length cc, .slice Ar k cr]) rfl _ rfl ?hl) rfl ?_
      case hl => exact lvTab_row rF
      have hkn : k = t.rules.length := by omega
      subst hkn
      have his := hs.is
      rw [List.take_of_length_le (Nat.le_refl _)] at his
      have hlen' : L.length = t.rules.length := hs.len
      have hlt' := hs.lt
      have kk : Kb (fun x => x = w.heap.size ∨ x = w.heap.size + 1) wr F := (kG.mono fun _ _ h => .inl h).trans (kF.mono fun _ _ h => .inr h)
      refine ⟨⟨t.schema, t.name, t.owner, t.cols, L, ⟨Ac, t.cols.length, cc⟩, ⟨Ar, t.rules.length, cr⟩⟩, by unfold OTab.t; rw [his], rfl, kk.to_aft hs.aft (fun x hx e => by omega), ?_, hs.nd⟩
      refine TabIn.down (TabIn.kb (w := wr) (B := w.heap.size + 2) ⟨hs.col, by show wr.ownsRow _ _ 8 _ L.length _; rw [hlen']; exact hs.rul, hs.each⟩ kk fun g hg e => ?_) (by omega)
      have := hlt' g hg
      omega
end Go.Proofs.YticjnndhpfdajaaGreat
