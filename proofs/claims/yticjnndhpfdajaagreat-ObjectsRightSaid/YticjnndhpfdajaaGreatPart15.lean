/- Contracts of the program, part 15. -/
import Derived.Test.YticjnndhpfdajaaGreatPart14
import Derived.Test.YticjnndhpfdajaaGreatPart2
import Derived.Test.YticjnndhpfdajaaGreatPart3
import Derived.Test.YticjnndhpfdajaaGreatPart5
import Derived.Test.YticjnndhpfdajaaGreatPart6
/- A cell of a table of our own objects is written. -/
namespace Go.Proofs.YticjnndhpfdajaaGreat
open Go.RowKit Go.Deep
set_option maxRecDepth 100000
set_option linter.unusedVariables false
theorem nodup_swap {P A X C Y : List Nat} {N : Nat} (h : (P ++ (A ++ (X ++ C))).Nodup) (hy : Y.Nodup) (hm : ∀ g ∈ Y, g ∈ X ∨ N ≤ g) (hlt : ∀ g ∈ P ++ (A ++ (X ++ C)), g < N) : (P ++ (A ++ (Y ++ C))).Nodup := by
  obtain ⟨hP, h1, d1⟩ := List.nodup_append.1 h
  obtain ⟨hA, h2, d2⟩ := List.nodup_append.1 h1
  obtain ⟨hX, hC, d3⟩ := List.nodup_append.1 h2
  refine List.nodup_append.2 ⟨hP, List.nodup_append.2 ⟨hA, List.nodup_append.2 ⟨hy, hC, ?_⟩, ?_⟩, ?_⟩
  · intro a ha b hb e
    subst e
    rcases hm a ha with h3 | h3
    · exact d3 a h3 a hb rfl
    · have := hlt a (by simp [hb]); omega
  · intro a ha b hb e
    subst e
    have hl := hlt a (by simp [ha])
    rcases List.mem_append.1 hb with h3 | h3
    · rcases hm a h3 with h4 | h4
      · exact d2 a ha a (by simp [h4]) rfl
      · omega
    · exact d2 a ha a (by simp [h3]) rfl
  · intro a ha b hb e
    subst e
    have hl := hlt a (by simp [ha])
    rcases List.mem_append.1 hb with h3 | h3
    · exact d1 a ha a (by simp [h3]) rfl
    · rcases List.mem_append.1 h3 with h3 | h3
      · rcases hm a h3 with h4 | h4
        · exact d1 a ha a (by simp [h4]) rfl
        · omega
      · exact d1 a ha a (by simp [h3]) rfl
theorem list_parts {α : Type} (L : List α) (q : Nat) (hq : q < L.length) : L = L.take q ++ (L[q] :: L.drop (q + 1)) := by
  have := List.take_append_drop q L
  rw [List.drop_eq_getElem_cons hq] at this
  exact this.symm
theorem list_set_parts {α : Type} (L : List α) (q : Nat) (hq : q < L.length) (y : α) : L.set q y = L.take q ++ (y :: L.drop (q + 1)) := by
  rw [List.set_eq_take_append_cons_drop, if_pos hq]
theorem mem_set_cases {α : Type} {L : List α} {q : Nat} {x y : α} (hq : q < L.length) (h : x ∈ L.set q y) : x = y ∨ ∃ i, ∃ hi : i < L.length, i ≠ q ∧ x = L[i] := by
  obtain ⟨i, hi, rfl⟩ := List.getElem_of_mem h
  rw [List.length_set] at hi
  by_cases e : i = q
  · subst e; exact .inl (by simp)
  · exact .inr ⟨i, hi, e, by rw [List.getElem_set_ne (fun h => e h.symm)]⟩
theorem tab_disj {P : List Nat} {L : List OTab} {q i : Nat} (h : (P ++ L.flatMap OTab.blks).Nodup) (hq : q < L.length) (hi : i < L.length) (hne : i ≠ q) {g : Nat} (h1 : g ∈ L[q].blks) (h2 : g ∈ L[i].blks) : False := by
  have h0 := (List.nodup_append.1 h).2.1
  rw [list_parts L q hq, List.flatMap_append, List.flatMap_cons] at h0
  obtain ⟨_, h3, d1⟩ := List.nodup_append.1 h0
  obtain ⟨_, _, d2⟩ := List.nodup_append.1 h3
  by_cases hlt : i < q
  · exact d1 g (List.mem_flatMap.2 ⟨L[i], by rw [List.mem_take_iff_getElem]; exact ⟨i, by omega, rfl⟩, h2⟩) g (by simp [h1]) rfl
  · refine d2 g h1 g (List.mem_flatMap.2 ⟨L[i], ?_, h2⟩) rfl
    rw [List.mem_drop_iff_getElem]
    exact ⟨i - (q + 1), by omega, by congr 1; omega⟩
theorem nodup_set {P : List Nat} {L : List OTab} {q N : Nat} {y : OTab} (h : (P ++ L.flatMap OTab.blks).Nodup) (hq : q < L.length) (hy : y.blks.Nodup) (hm : ∀ g ∈ y.blks, g ∈ L[q].blks ∨ N ≤ g) (hlt : ∀ g ∈ P ++ L.flatMap OTab.blks, g < N) : (P ++ (L.set q y).flatMap OTab.blks).Nodup := by
  rw [list_set_parts L q hq y, List.flatMap_append, List.flatMap_cons]
  have e : L.flatMap OTab.blks = (L.take q).flatMap OTab.blks ++ (L[q].blks ++ (L.drop (q + 1)).flatMap OTab.blks) := by
    conv => lhs; rw [list_parts L q hq]
    rw [List.flatMap_append, List.flatMap_cons]
  rw [e] at h hlt
  exact nodup_swap h hy hm hlt
theorem tab_nodup {P : List Nat} {L : List OTab} {q : Nat} (h : (P ++ L.flatMap OTab.blks).Nodup) (hq : q < L.length) : L[q].blks.Nodup := by
  have h1 := (List.nodup_append.1 h).2.1
  rw [list_parts L q hq, List.flatMap_append, List.flatMap_cons] at h1
  exact (List.nodup_append.1 (List.nodup_append.1 h1).2.1).1
/-- a cell of the table q is written: the table is y then -/
theorem ObjIn.put {w : World} {B gt q j : Nat} {hs ht : Hd} {ss : List Sch} {L : List OTab} {y : OTab} {u : Value} (hsch : w.ownsRow B 99 2 hs.v ss.length (ss.flatMap schC)) (htab : w.ownsRow B 50 5 ht.v L.length (L.flatMap OTab.cells))
    (hoth : ∀ i (hi : i < L.length), i ≠ q → TabIn w B L[i]) (hy : TabIn w B y) (hnd : (hs.blk ++ (ht.blk ++ (L.set q y).flatMap OTab.blks)).Nodup) (hgt : ht.a = some ⟨gt, 0, none⟩) (hq : q < L.length) (hj : j < 5) (hc : y.cells = L[q].cells.set j u) :
    ObjIn (w.setCell ⟨gt, q * 5 + j, none⟩ u) B hs ht ss (L.set q y) := by
  have hg : gt ∈ ht.blk := by rw [Hd.mem_blk]; unfold Hd.v; rw [hgt]; rfl
  have k := Kb.set w gt (q * 5 + j) u
  obtain ⟨_, n2, d1⟩ := List.nodup_append.1 hnd
  obtain ⟨_, _, d2⟩ := List.nodup_append.1 n2
  refine ⟨own_kb hsch k (fun g h1 e => d1 g (Hd.mem_blk.2 h1) g (by rw [e]; simp [hg]) rfl), ?_, fun x hx => ?_, hnd⟩
  · have := own_set htab (Hd.mem_blk.1 hg) (q * 5 + j) u
    rw [flatMap_set (size := 5) (fun _ => rfl) L q j hq hj u y hc] at this
    rw [List.length_set]; exact this
  · have hb : ∀ g ∈ x.blks, ¬ g = gt := fun g h1 e => d2 gt hg g (List.mem_flatMap.2 ⟨x, hx, h1⟩) e.symm
    rcases mem_set_cases hq hx with rfl | ⟨i, hi, hne, rfl⟩
    · exact hy.kb k hb
    · exact (hoth i hi hne).kb k hb
theorem ObjIn.nth {w : World} {B q : Nat} {hs ht : Hd} {ss : List Sch} {L : List OTab} (h : ObjIn w B hs ht ss L) (hq : q < L.length) : TabIn w B L[q] := h.each _ (List.getElem_mem hq)
theorem nd_assoc {a b c : List Nat} : (a ++ (b ++ c)).Nodup ↔ ((a ++ b) ++ c).Nodup := by rw [List.append_assoc]
/-- the cells of a table -/
theorem ObjIn.cell {w : World} {B gt q j : Nat} {hs ht : Hd} {ss : List Sch} {L : List OTab} (h : ObjIn w B hs ht ss L) (hgt : ht.a = some ⟨gt, 0, none⟩) (hq : q < L.length) (hj : j < 5) : w.cell? ⟨gt, q * 5 + j, none⟩ = L[q].cells[j]? := own_cell h.tab (fun _ => rfl) hgt hq hj
theorem ObjIn.row {w : World} {B gt q : Nat} {hs ht : Hd} {ss : List Sch} {L : List OTab} (h : ObjIn w B hs ht ss L) (hgt : ht.a = some ⟨gt, 0, none⟩) (hq : q < L.length) : gt < w.heap.size ∧ B ≤ gt ∧ ∀ j, j < 5 → w.frozen? ⟨gt, q * 5 + j, none⟩ = false := by
  obtain ⟨g, hg, hb, hr⟩ := own_place h.tab (by omega)
  rw [hgt] at hg
  simp only [Option.some.injEq, Addr.mk.injEq, and_true] at hg
  subst hg
  refine ⟨hr.1, hb, fun j hj => hr.2.2 _ ?_⟩
  rw [flatMap_len (size := 5) (fun _ => rfl)]
  have : (q + 1) * 5 ≤ L.length * 5 := Nat.mul_le_mul_right _ hq
  omega
theorem own_owner {L : List OTab} {q : Nat} (hq : q < L.length) (v : ByteArray) : (OTab.blks { L[q] with owner := v }) = L[q].blks := rfl
end Go.Proofs.YticjnndhpfdajaaGreat
/- The document's SameTable and Same: of two that hold the same they say yes. -/
namespace Go.Proofs.YticjnndhpfdajaaGreat
open Go.RowKit
set_option maxRecDepth 100000
set_option linter.unusedVariables false
@[go_sem ↓] theorem run_neqCol_self (w : World) (s : ByteArray) (k : Int) (b : Bool) :
    (binOp .neq 41 (.agg #[.string s, .int .i64 k, .bool b]) (.agg #[.string s, .int .i64 k, .bool b])).run Tryz.prog w = .ok (.bool false) w := by
  rw [run_neq_struct]; go_simp; try rfl
@[go_sem ↓] theorem run_neqSch_self (w : World) (s t : ByteArray) :
    (binOp .neq 99 (.agg #[.string s, .string t]) (.agg #[.string s, .string t])).run Tryz.prog w = .ok (.bool false) w := by
  rw [run_neq_struct]; go_simp; try rfl
theorem box2_rows {w W : World} {c d : List Value} {t u : TypeId} (h : Aft ((w.alloc (.cells c.toArray t)).alloc (.cells d.toArray u)) W) : RowAt W w.heap.size c ∧ RowAt W (w.heap.size + 1) d := by
  obtain ⟨h1, h2, hz, _⟩ := aft_box2 h
  refine ⟨⟨hz.1, fun j hj => by rw [h1]; simp, fun j hj => ?_⟩, ⟨hz.2, fun j hj => by rw [h2]; simp, fun j hj => ?_⟩⟩
  · exact (Below.frozen h (p := ⟨w.heap.size, j, none⟩) (by simp; omega)).trans ((World.frozen?_alloc_past _ _ _ (by simp)).trans (World.frozen?_alloc_at _ _ _ _ rfl))
  · exact (Below.frozen h (p := ⟨w.heap.size + 1, j, none⟩) (by simp)).trans (World.frozen?_alloc_at _ _ _ _ (by simp))
set_option maxHeartbeats 8000000 in
theorem sameT_any (t : Tab) (A : Option Addr) (cap : Nat) (A2 : Option Addr) (cap2 : Nat) (B : Option Addr) (capB : Nat) (B2 : Option Addr) (capB2 : Nat) (w : World) (h1 : SlAt w 3 ColR A cap t.cols) (h2 : SlAt w 8 RulR A2 cap2 t.rules) (h3 : SlAt w 3 ColR B capB t.cols) (h4 : SlAt w 8 RulR B2 capB2 t.rules) :
    Calls Tryz.prog 97 #[.agg #[.string t.schema, .string t.name, .string t.owner, .slice A t.cols.length cap, .slice A2 t.rules.length cap2], .agg #[.string t.schema, .string t.name, .string t.owner, .slice B t.cols.length capB, .slice B2 t.rules.length capB2]] w
      fun e w' => e = .returned (.bool true) ∧ Aft w w' := by
  have hlen := h1.len
  have hlen2 := h2.len
  obtain ⟨W, hW⟩ : ∃ W, W = (w.alloc (.cells #[.string t.schema, .string t.name, .string t.owner, .slice A t.cols.length cap, .slice A2 t.rules.length cap2] 50)).alloc (.cells #[.string t.schema, .string t.name, .string t.owner, .slice B t.cols.length capB, .slice B2 t.rules.length capB2] 50) := ⟨_, rfl⟩
  have aW : Aft w W := by rw [hW]; exact ((Aft.refl w).alloc _).alloc _
  have hbb := aft_box2 (w := w) (w1 := W) (by rw [← hW]; exact Aft.refl W)
  obtain ⟨ha0, hb0, hz, _⟩ := hbb
  have HAW := Lib.hid aW
  go_enter Tryz.func97, Tryz.ntmps97
  go_wp2_with fail
  rw [← hW]
  clear hW
  go_loopw [5] (fun i wr => ∃ k : Nat, k ≤ t.cols.length ∧ i = .int .i64 k ∧ Aft W wr) (fun i _ => t.cols.length - (intOf i).toNat)
  case atStart => exact ⟨0, Nat.zero_le _, rfl, Aft.refl _⟩
  case round =>
    obtain ⟨k, hk, rfl, ha⟩ := hrel
    have x3 := ha.cell_kept (show W.cell? ⟨w.heap.size, 3, none⟩ = some (.slice A t.cols.length cap) from ha0 3)
    have y3 := ha.cell_kept (show W.cell? ⟨w.heap.size + 1, 3, none⟩ = some (.slice B t.cols.length capB) from hb0 3)
    have HAR := Lib.hid ha
    by_cases hlt : k < t.cols.length
    · obtain ⟨b, off, rfl, hb, c0, c1, c2, _⟩ := col_at (cols_aft (HAW.out.trans ha) h1) hlt
      obtain ⟨b2, off2, rfl, hb2, d0, d1, d2, _⟩ := col_at (cols_aft (HAW.out.trans ha) h3) hlt
      have lx := World.block_lt_of_cell? _ _ x3
      have ly := World.block_lt_of_cell? _ _ y3
      clear ha
      go_wp2_with fail
      refine wp_region_lat (by kernel_rfl) (by kernel_rfl) ?_
      repeat (go_big_quiet_step (fail))
      refine wpQuiet_nil ?_
      intro _ hw'
      obtain ⟨x, hw''⟩ := hw'
      subst hw''
      go_wp2_with fail
      go_roundw
      case rel => exact ⟨k + 1, by omega, by go_num, HAR.out.lat x⟩
      case measure => simp [intOf]; omega
    go_wp2_with fail
    go_loopw [6] (fun i wrr => ∃ k : Nat, k ≤ t.rules.length ∧ i = .int .i64 k ∧ Aft W wrr) (fun i _ => t.rules.length - (intOf i).toNat)
    case atStart => exact ⟨0, Nat.zero_le _, rfl, ha⟩
    case round =>
      clear ha HAR x3 y3
      obtain ⟨k2, hk2, rfl, ha⟩ := hrel
      have x4 := ha.cell_kept (show W.cell? ⟨w.heap.size, 4, none⟩ = some (.slice A2 t.rules.length cap2) from ha0 4)
      have y4 := ha.cell_kept (show W.cell? ⟨w.heap.size + 1, 4, none⟩ = some (.slice B2 t.rules.length capB2) from hb0 4)
      have HAR := Lib.hid ha
      by_cases hlt2 : k2 < t.rules.length
      · obtain ⟨b, off, D, capD, rfl, hb, c0, c1, c2, c3, c4, c5, c6, c7, hcs, _⟩ := rul_at (ruls_aft (HAW.out.trans ha) h2) hlt2
        obtain ⟨b2, off2, E, capE, rfl, hb2, d0, d1, d2, d3, d4, d5, d6, d7, hds, _⟩ := rul_at (ruls_aft (HAW.out.trans ha) h4) hlt2
        obtain ⟨p, hpp⟩ : ∃ p, t.rules[k2] = p := ⟨_, rfl⟩
        rw [hpp] at c0 c1 c2 c3 c4 c5 c6 c7 hcs d0 d1 d2 d3 d4 d5 d6 d7 hds
        have hlp := hcs.len
        have lx : w.heap.size < wr.heap.size := World.block_lt_of_cell? _ _ x4
        have ly : w.heap.size + 1 < wr.heap.size := World.block_lt_of_cell? _ _ y4
        have lyy : w.heap.size + 1 < wr.heap.size + 1 := by omega
        have lb2 : b2 < wr.heap.size + 1 := by omega
        obtain ⟨V, hV⟩ : ∃ V, V = (wr.alloc (.cells #[.string p.name, .int .i64 p.kind, .slice D p.cols.length capD, .int .i64 p.low, .int .i64 p.high, .string p.schema, .string p.table, .string p.key] 29)).alloc (.cells #[.string p.name, .int .i64 p.kind, .slice E p.cols.length capE, .int .i64 p.low, .int .i64 p.high, .string p.schema, .string p.table, .string p.key] 29) := ⟨_, rfl⟩
        have aV : Aft wr V := by rw [hV]; exact ((Aft.refl wr).alloc _).alloc _
        obtain ⟨va0, vb0, vz, _⟩ := aft_box2 (w := wr) (w1 := V) (by rw [← hV]; exact Aft.refl V)
        have HAV := Lib.hid (HAR.out.trans aV)
        have hcsV := strs_aft aV hcs
        have hdsV := strs_aft aV hds
        obtain ⟨n1, hn1⟩ : ∃ n, n = wr.heap.size := ⟨_, rfl⟩
        have l1 : wr.heap.size < wr.heap.size + 1 := by omega
        have l2 : wr.heap.size < wr.heap.size + 1 + 1 := by omega
        clear hpp aV
        go_wp2_with fail
        rw [← hV]
        clear hV c0 c1 c2 c3 c4 c5 c6 c7 d0 d1 d2 d3 d4 d5 d6 d7 x4 y4 hcs hds
        have z2 : V.cell? ⟨wr.heap.size, 2, none⟩ = some (.slice D p.cols.length capD) := va0 2
        have u2 : V.cell? ⟨wr.heap.size + 1, 2, none⟩ = some (.slice E p.cols.length capE) := vb0 2
        rw [← hn1] at z2 u2 ⊢
        clear va0 vb0 vz hn1 ha
        go_wp2_with fail
        go_loopw [9] (fun i wrr => ∃ k : Nat, k ≤ p.cols.length ∧ i = .int .i64 k ∧ Aft V wrr) (fun i _ => p.cols.length - (intOf i).toNat)
        case atStart => exact ⟨0, Nat.zero_le _, rfl, Aft.refl _⟩
        case round =>
          obtain ⟨k3, hk3, rfl, ha⟩ := hrel
          have HA3 := Lib.hid ha
          have z2' := ha.cell_kept z2
          have u2' := ha.cell_kept u2
          by_cases hlt3 : k3 < p.cols.length
          · obtain ⟨b5, off5, hD, hb5, g5, _⟩ := str_at (strs_aft ha hcsV) hlt3
            subst hD
            obtain ⟨b6, off6, hE, hb6, g6, _⟩ := str_at (strs_aft ha hdsV) hlt3
            subst hE
            have lz := World.block_lt_of_cell? _ _ z2'
            have lu := World.block_lt_of_cell? _ _ u2'
            clear ha
            go_wp2_with fail
            refine wp_region_lat (by kernel_rfl) (by kernel_rfl) ?_
            repeat (go_big_quiet_step (fail))
            refine wpQuiet_nil ?_
            intro _ hw'
            obtain ⟨x, hw''⟩ := hw'
            subst hw''
            go_wp2_with fail
            go_roundw
            case rel => exact ⟨k3 + 1, by omega, by go_num, HA3.out.lat x⟩
            case measure => simp [intOf]; omega
          · clear ha
            go_wp2_with fail
            go_roundw
            case rel => exact ⟨k2 + 1, by omega, by go_num, HAV.out.trans HA3.out⟩
            case measure => simp [intOf]; omega
      · clear ha
        go_wp2_with fail
        go_ret
        exact ⟨rfl, HAW.out.trans HAR.out⟩
set_option maxHeartbeats 8000000 in
theorem sameO_any (o : Objs) (A : Option Addr) (cap : Nat) (A2 : Option Addr) (cap2 : Nat) (B : Option Addr) (capB : Nat) (B2 : Option Addr) (capB2 : Nat) (w : World) (h1 : SlAt w 2 SchR A cap o.schemas) (h2 : SlAt w 5 TabR A2 cap2 o.tables) (h3 : SlAt w 2 SchR B capB o.schemas) (h4 : SlAt w 5 TabR B2 capB2 o.tables) :
    Calls Tryz.prog 25 #[.agg #[.slice A o.schemas.length cap, .slice A2 o.tables.length cap2], .agg #[.slice B o.schemas.length capB, .slice B2 o.tables.length capB2]] w
      fun e w' => e = .returned (.bool true) ∧ Aft w w' := by
  have hlen := h1.len
  have hlen2 := h2.len
  obtain ⟨W, hW⟩ : ∃ W, W = (w.alloc (.cells #[.slice A o.schemas.length cap, .slice A2 o.tables.length cap2] 25)).alloc (.cells #[.slice B o.schemas.length capB, .slice B2 o.tables.length capB2] 25) := ⟨_, rfl⟩
  have aW : Aft w W := by rw [hW]; exact ((Aft.refl w).alloc _).alloc _
  obtain ⟨ha0, hb0, hz, _⟩ := aft_box2 (w := w) (w1 := W) (by rw [← hW]; exact Aft.refl W)
  have HAW := Lib.hid aW
  go_enter Tryz.func25, Tryz.ntmps25
  go_wp2_with fail
  rw [← hW]
  clear hW
  go_loopw [5] (fun i wr => ∃ k : Nat, k ≤ o.schemas.length ∧ i = .int .i64 k ∧ Aft W wr) (fun i _ => o.schemas.length - (intOf i).toNat)
  case atStart => exact ⟨0, Nat.zero_le _, rfl, Aft.refl _⟩
  case round =>
    obtain ⟨k, hk, rfl, ha⟩ := hrel
    have x3 := ha.cell_kept (show W.cell? ⟨w.heap.size, 0, none⟩ = some (.slice A o.schemas.length cap) from ha0 0)
    have y3 := ha.cell_kept (show W.cell? ⟨w.heap.size + 1, 0, none⟩ = some (.slice B o.schemas.length capB) from hb0 0)
    have HAR := Lib.hid ha
    by_cases hlt : k < o.schemas.length
    · obtain ⟨b, off, rfl, hb, c0, c1, _⟩ := sch_at (schs_aft (HAW.out.trans ha) h1) hlt
      obtain ⟨b2, off2, rfl, hb2, d0, d1, _⟩ := sch_at (schs_aft (HAW.out.trans ha) h3) hlt
      have lx := World.block_lt_of_cell? _ _ x3
      have ly := World.block_lt_of_cell? _ _ y3
      clear ha
      go_wp2_with fail
      refine wp_region_lat (by kernel_rfl) (by kernel_rfl) ?_
      repeat (go_big_quiet_step (fail))
      refine wpQuiet_nil ?_
      intro _ hw'
      obtain ⟨x, hw''⟩ := hw'
      subst hw''
      go_wp2_with fail
      go_roundw
      case rel => exact ⟨k + 1, by omega, by go_num, HAR.out.lat x⟩
      case measure => simp [intOf]; omega
    go_wp2_with fail
    go_loopw [6] (fun i wrr => ∃ k : Nat, k ≤ o.tables.length ∧ i = .int .i64 k ∧ Aft W wrr) (fun i _ => o.tables.length - (intOf i).toNat)
    case atStart => exact ⟨0, Nat.zero_le _, rfl, ha⟩
    case round =>
      clear ha HAR x3 y3
      obtain ⟨k2, hk2, rfl, ha⟩ := hrel
      have x4 := ha.cell_kept (show W.cell? ⟨w.heap.size, 1, none⟩ = some (.slice A2 o.tables.length cap2) from ha0 1)
      have y4 := ha.cell_kept (show W.cell? ⟨w.heap.size + 1, 1, none⟩ = some (.slice B2 o.tables.length capB2) from hb0 1)
      have HAR := Lib.hid ha
      by_cases hlt2 : k2 < o.tables.length
      · obtain ⟨b, off, D, capD, D2, capD2, rfl, hb, c0, c1, c2, c3, c4, hcc, hcr, _⟩ := tab_at (tabs_aft (HAW.out.trans ha) h2) hlt2
        obtain ⟨b2, off2, E, capE, E2, capE2, rfl, hb2, d0, d1, d2, d3, d4, hdc, hdr, _⟩ := tab_at (tabs_aft (HAW.out.trans ha) h4) hlt2
        have lx : w.heap.size < wr.heap.size := World.block_lt_of_cell? _ _ x4
        have ly : w.heap.size + 1 < wr.heap.size := World.block_lt_of_cell? _ _ y4
        have Cs := Lib.hid (show ∀ x : Lat wr, _ from fun x => sameT_any o.tables[k2] D capD D2 capD2 E capE E2 capE2 (lat wr x) (cols_aft ((Aft.refl wr).lat x) hcc) (ruls_aft ((Aft.refl wr).lat x) hcr) (cols_aft ((Aft.refl wr).lat x) hdc) (ruls_aft ((Aft.refl wr).lat x) hdr))
        clear ha hcc hcr hdc hdr
        go_wp2_with fail
        refine wp_region_lat (by kernel_rfl) (by kernel_rfl) ?_
        repeat (go_big_quiet_step ((first | (go_at_call 97; exact Calls.lat_of (Cs.out _)))))
        refine wpQuiet_nil ?_
        intro _ hw'
        obtain ⟨x, hw''⟩ := hw'
        subst hw''
        go_wp2_with fail
        go_roundw
        case rel => exact ⟨k2 + 1, by omega, by go_num, HAR.out.lat x⟩
        case measure => simp [intOf]; omega
      · clear ha
        go_wp2_with fail
        go_ret
        exact ⟨rfl, HAW.out.trans HAR.out⟩
end Go.Proofs.YticjnndhpfdajaaGreat
/- law07's told: what came out is the same as what is wanted, and may be written over; what was handed in stays. -/
namespace Go.Proofs.YticjnndhpfdajaaGreat
open Go.RowKit
set_option maxRecDepth 100000
set_option linter.unusedVariables false
section
variable {w : World} {B B' g n c i : Nat} {hs : Hd} {L : Lay}
theorem Sh.tcell (s : Sh w B B' hs ⟨some ⟨g, 0, none⟩, n, c⟩ L) (hi : i < n) : w.cell? ⟨g, i * 5 + 3, none⟩ = some (L.col i).v ∧ w.cell? ⟨g, i * 5 + 4, none⟩ = some (L.rul i).v ∧ Blk w B B' g 50 (n * 5) := by
  obtain ⟨g', hg, hb, hc⟩ := s.tab.2.1 (by show 0 < n; omega)
  simp only [Option.some.injEq, Addr.mk.injEq, and_true] at hg
  subst hg
  exact ⟨(hc i hi).1, (hc i hi).2, hb⟩
theorem Sh.ahead {A : Option Addr} (s : Sh w B B' hs ⟨A, n, c⟩ L) (hn : 0 < n) : ∃ g, A = some ⟨g, 0, none⟩ := by
  obtain ⟨g, hg, _⟩ := s.tab.2.1 hn; exact ⟨g, hg⟩
theorem Sh.shead {A : Option Addr} {ht : Hd} (s : Sh w B B' ⟨A, n, c⟩ ht L) (hn : 0 < n) : ∃ g, A = some ⟨g, 0, none⟩ ∧ Blk w B B' g 99 (n * 2) := s.sch.2 hn
theorem Sh.colv {A D : Option Addr} {nc cc : Nat} (s : Sh w B B' hs ⟨A, n, c⟩ L) (hi : i < n) (hL : L.col i = ⟨D, nc, cc⟩) : nc * 16 ≤ 140737488351232 ∧ (0 < nc → ∃ g, D = some ⟨g, 0, none⟩ ∧ Blk w B B' g 41 (nc * 3)) := by
  have := (s.tab.2.2 i hi).1; rw [hL] at this; exact this
theorem Sh.rulv {A D : Option Addr} {nc cc : Nat} (s : Sh w B B' hs ⟨A, n, c⟩ L) (hi : i < n) (hL : L.rul i = ⟨D, nc, cc⟩) : nc * 16 ≤ 140737488351232 ∧ (0 < nc → ∃ g, D = some ⟨g, 0, none⟩ ∧ Blk w B B' g 29 (nc * 8) ∧ ∀ j, j < nc → w.cell? ⟨g, j * 8 + 2, none⟩ = some (L.nam i j).v) ∧ ∀ j, j < nc → ShV w B B' 9 1 (L.nam i j) := by
  have := (s.tab.2.2 i hi).2; rw [hL] at this; exact this
end
set_option maxHeartbeats 8000000 in
theorem told_any (X o : Objs) (A : Option Addr) (cap : Nat) (A2 : Option Addr) (cap2 : Nat) (D : Option Addr) (capD : Nat) (D2 : Option Addr) (capD2 : Nat) (E : Option Addr) (capE : Nat) (E2 : Option Addr) (capE2 : Nat) (F : Option Addr) (capF : Nat) (F2 : Option Addr) (capF2 : Nat) (e : Int) (W0 w : World) (B B' : Nat) (L : Lay)
    (hB : W0.heap.size ≤ B) (hB' : B' ≤ w.heap.size) (a0 : Aft W0 w) (g1 : SlAt w 2 SchR A cap X.schemas) (g2 : SlAt w 5 TabR A2 cap2 X.tables) (d1 : SlAt w 2 SchR D capD X.schemas) (d2 : SlAt w 5 TabR D2 capD2 X.tables)
    (o1 : SlAt W0 2 SchR E capE o.schemas) (o2 : SlAt W0 5 TabR E2 capE2 o.tables) (f1 : SlAt W0 2 SchR F capF o.schemas) (f2 : SlAt W0 5 TabR F2 capF2 o.tables) (sh : Sh w B B' ⟨A, X.schemas.length, cap⟩ ⟨A2, X.tables.length, cap2⟩ L) :
    Calls Tryz.prog 21 #[.agg #[.slice A X.schemas.length cap, .slice A2 X.tables.length cap2], .int .i64 e, .agg #[.slice D X.schemas.length capD, .slice D2 X.tables.length capD2], .int .i64 e, .agg #[.slice E o.schemas.length capE, .slice E2 o.tables.length capE2], .agg #[.slice F o.schemas.length capF, .slice F2 o.tables.length capF2]] w
      fun e' w' => e' = .returned (.bool true) ∧ Kp B B' w w' := by
  have hlen := g1.len
  have hlen2 := g2.len
  have Cs := Lib.hid (show ∀ w', Aft w w' → _ from fun w' a => sameO_any X A cap A2 cap2 D capD D2 capD2 w' (schs_aft a g1) (tabs_aft a g2) (schs_aft a d1) (tabs_aft a d2))
  have Co := Lib.hid (show ∀ w', Aft W0 w' → _ from fun w' a => sameO_any o E capE E2 capE2 F capF F2 capF2 w' (schs_aft a o1) (tabs_aft a o2) (schs_aft a f1) (tabs_aft a f2))
  have HA0 := Lib.hid a0
  have HSH := Lib.hid sh
  obtain ⟨n0, hn0⟩ : ∃ n, n = w.heap.size := ⟨_, rfl⟩
  obtain ⟨W, hW⟩ : ∃ W, W = (((w.alloc (.cells #[.slice A X.schemas.length cap, .slice A2 X.tables.length cap2] 25)).alloc (.cells #[.slice D X.schemas.length capD, .slice D2 X.tables.length capD2] 25)).alloc (.cells #[.slice E o.schemas.length capE, .slice E2 o.tables.length capE2] 25)).alloc (.cells #[.slice F o.schemas.length capF, .slice F2 o.tables.length capF2] 25) := ⟨_, rfl⟩
  have aW : Aft w W := by rw [hW]; exact ((((Aft.refl w).alloc _).alloc _).alloc _).alloc _
  have bg0 : W.cell? ⟨w.heap.size, 0, none⟩ = some (.slice A X.schemas.length cap) := by
    rw [hW]; (repeat (refine (World.cell?_alloc_past _ _ _ (by first | (simp; done) | (simp; omega))).trans ?_)); exact World.cell?_alloc_at _ _ _ _ (by simp)
  have bg1 : W.cell? ⟨w.heap.size, 1, none⟩ = some (.slice A2 X.tables.length cap2) := by
    rw [hW]; (repeat (refine (World.cell?_alloc_past _ _ _ (by first | (simp; done) | (simp; omega))).trans ?_)); exact World.cell?_alloc_at _ _ _ _ (by simp)
  have bo0 : W.cell? ⟨w.heap.size + 1 + 1, 0, none⟩ = some (.slice E o.schemas.length capE) := by
    rw [hW]; (repeat (refine (World.cell?_alloc_past _ _ _ (by first | (simp; done) | (simp; omega))).trans ?_)); exact World.cell?_alloc_at _ _ _ _ (by simp)
  have bo1 : W.cell? ⟨w.heap.size + 1 + 1, 1, none⟩ = some (.slice E2 o.tables.length capE2) := by
    rw [hW]; (repeat (refine (World.cell?_alloc_past _ _ _ (by first | (simp; done) | (simp; omega))).trans ?_)); exact World.cell?_alloc_at _ _ _ _ (by simp)
  have bf0 : W.cell? ⟨w.heap.size + 1 + 1 + 1, 0, none⟩ = some (.slice F o.schemas.length capF) := by
    rw [hW]; (repeat (refine (World.cell?_alloc_past _ _ _ (by first | (simp; done) | (simp; omega))).trans ?_)); exact World.cell?_alloc_at _ _ _ _ (by simp)
  have bf1 : W.cell? ⟨w.heap.size + 1 + 1 + 1, 1, none⟩ = some (.slice F2 o.tables.length capF2) := by
    rw [hW]; (repeat (refine (World.cell?_alloc_past _ _ _ (by first | (simp; done) | (simp; omega))).trans ?_)); exact World.cell?_alloc_at _ _ _ _ (by simp)
  have bd0 : W.cell? ⟨w.heap.size + 1, 0, none⟩ = some (.slice D X.schemas.length capD) := by
    rw [hW]; (repeat (refine (World.cell?_alloc_past _ _ _ (by first | (simp; done) | (simp; omega))).trans ?_)); exact World.cell?_alloc_at _ _ _ _ (by simp)
  have bd1 : W.cell? ⟨w.heap.size + 1, 1, none⟩ = some (.slice D2 X.tables.length capD2) := by
    rw [hW]; (repeat (refine (World.cell?_alloc_past _ _ _ (by first | (simp; done) | (simp; omega))).trans ?_)); exact World.cell?_alloc_at _ _ _ _ (by simp)
  have l1 : w.heap.size < w.heap.size + 1 := by omega
  have l2 : w.heap.size < w.heap.size + 1 + 1 := by omega
  have l3 : w.heap.size < w.heap.size + 1 + 1 + 1 := by omega
  have l4 : w.heap.size < w.heap.size + 1 + 1 + 1 + 1 := by omega
  clear g1 g2 d1 d2 o1 o2 f1 f2 sh a0
  go_enter Tryz.func21, Tryz.ntmps21
  go_wp2_with fail
  rw [← hW]
  refine (Cs.out W aW).mono ?_
  rintro e' w1 ⟨rfl, a1⟩
  have HKW := Lib.hid (show Kp B B' w W from Kp.of_aft aW)
  have HK1 := Lib.hid (show Kp B B' W w1 from Kp.of_aft a1)
  have HS1 := Lib.hid (HSH.out.aft (aW.trans a1))
  rw [← hn0] at bg0 bg1 bo0 bo1 bf0 bf1 hB' ⊢
  have HG := Lib.hid (show ∀ v : World, Kp B B' W v → v.cell? ⟨n0, 0, none⟩ = some (.slice A X.schemas.length cap) ∧ v.cell? ⟨n0, 1, none⟩ = some (.slice A2 X.tables.length cap2) ∧ v.cell? ⟨n0 + 1 + 1, 0, none⟩ = some (.slice E o.schemas.length capE) ∧ v.cell? ⟨n0 + 1 + 1, 1, none⟩ = some (.slice E2 o.tables.length capE2) ∧ v.cell? ⟨n0 + 1 + 1 + 1, 0, none⟩ = some (.slice F o.schemas.length capF) ∧ v.cell? ⟨n0 + 1 + 1 + 1, 1, none⟩ = some (.slice F2 o.tables.length capF2) from
    fun v k => ⟨k.cell bg0 (.inr hB'), k.cell bg1 (.inr hB'), k.cell bo0 (.inr (by show B' ≤ n0 + 1 + 1; omega)), k.cell bo1 (.inr (by show B' ≤ n0 + 1 + 1; omega)), k.cell bf0 (.inr (by show B' ≤ n0 + 1 + 1 + 1; omega)), k.cell bf1 (.inr (by show B' ≤ n0 + 1 + 1 + 1; omega))⟩)
  clear bg0 bg1 bo0 bo1 bf0 bf1 bd0 bd1 a1 aW hW Cs hn0 l1 l2 l3 l4
  go_wp2_with fail
  go_loopw [14] (fun i wrr => ∃ k : Nat, k ≤ X.tables.length ∧ i = .int .i64 k ∧ Kp B B' W wrr ∧ Sh wrr B B' ⟨A, X.schemas.length, cap⟩ ⟨A2, X.tables.length, cap2⟩ L) (fun i _ => X.tables.length - (intOf i).toNat)
  case atStart => exact ⟨0, Nat.zero_le _, rfl, HK1.out, HS1.out⟩
  case round =>
    clear HK1 HS1
    obtain ⟨k, hk, rfl, hkp, hsh⟩ := hrel
    obtain ⟨x0, x1, x2, x3, x4, x5⟩ := HG.out _ hkp
    have lx : n0 < wr.heap.size := World.block_lt_of_cell? _ _ x0
    have HK := Lib.hid hkp
    have HS := Lib.hid hsh
    by_cases hlt : k < X.tables.length
    · obtain ⟨g, hg⟩ := hsh.ahead (by omega)
      subst hg
      obtain ⟨t3, t4, tb⟩ := hsh.tcell hlt
      obtain ⟨hc, hcc⟩ : ∃ h, L.col k = h := ⟨_, rfl⟩
      obtain ⟨Ac, nc, cc⟩ := hc
      obtain ⟨hr, hrr⟩ : ∃ h, L.rul k = h := ⟨_, rfl⟩
      obtain ⟨Ar, nr, cr⟩ := hr
      have HCC := Lib.hid hcc
      have HRR := Lib.hid hrr
      have bc := (hsh.colv hlt hcc).1
      have br := (hsh.rulv hlt hrr).1
      have HT := Lib.hid (show ∀ v : World, Sh v B B' ⟨A, X.schemas.length, cap⟩ ⟨some ⟨g, 0, none⟩, X.tables.length, cap2⟩ L → v.cell? ⟨g, k * 5 + 3, none⟩ = some (.slice Ac nc cc) ∧ v.cell? ⟨g, k * 5 + 4, none⟩ = some (.slice Ar nr cr) ∧ Blk v B B' g 50 (X.tables.length * 5) from fun v s => by
        obtain ⟨q3, q4, q5⟩ := s.tcell hlt
        rw [hcc] at q3; rw [hrr] at q4
        exact ⟨q3, q4, q5⟩)
      clear t3 t4 tb hcc hrr hkp hsh
      obtain ⟨t3, t4, tb⟩ := HT.out _ HS.out
      have lt := tb.lt
      go_wp2_with fail
      go_loopw [15] (fun i wrr => ∃ m : Nat, m ≤ nc ∧ i = .int .i64 m ∧ Kp B B' W wrr ∧ Sh wrr B B' ⟨A, X.schemas.length, cap⟩ ⟨some ⟨g, 0, none⟩, X.tables.length, cap2⟩ L) (fun i _ => nc - (intOf i).toNat)
      case atStart => exact ⟨0, Nat.zero_le _, rfl, HK.out, HS.out⟩
      case round =>
        clear x0 x1 x2 x3 x4 x5 lx t3 t4 tb lt HK HS
        obtain ⟨m, hm, rfl, hkp, hsh⟩ := hrel
        obtain ⟨x0, x1, x2, x3, x4, x5⟩ := HG.out _ hkp
        have lx : n0 < wr.heap.size := World.block_lt_of_cell? _ _ x0
        obtain ⟨t3, t4, tb⟩ := HT.out _ hsh
        have lt := tb.lt
        have HK := Lib.hid hkp
        have HS := Lib.hid hsh
        by_cases hlt2 : m < nc
        · obtain ⟨gc, hgc, bk⟩ := (hsh.colv hlt HCC.out).2 (by omega)
          subst hgc
          obtain ⟨u, hu⟩ := bk.cell (j := m * 3) (by omega)
          have fu := bk.free (m * 3)
          have lu := bk.lt
          have HN := Lib.hid (hsh.set (bk.ok (m * 3) (fun h => by cases h) (fun h => by cases h)) (.string ⟨#[111, 118, 101, 114]⟩))
          have HN2 := Lib.hid (hkp.set ⟨gc, m * 3, none⟩ (.string ⟨#[111, 118, 101, 114]⟩) bk.1 bk.2.1)
          clear hkp hsh
          go_wp2_with fail
          go_roundw
          case rel => exact ⟨m + 1, by omega, by go_num, HN2.out, HN.out⟩
          case measure => simp [intOf]; omega
        clear hkp hsh
        go_wp2_with fail
        go_loopw [16] (fun i wrr => ∃ m : Nat, m ≤ nr ∧ i = .int .i64 m ∧ Kp B B' W wrr ∧ Sh wrr B B' ⟨A, X.schemas.length, cap⟩ ⟨some ⟨g, 0, none⟩, X.tables.length, cap2⟩ L) (fun i _ => nr - (intOf i).toNat)
        case atStart => exact ⟨0, Nat.zero_le _, rfl, HK.out, HS.out⟩
        case round =>
          clear x0 x1 x2 x3 x4 x5 lx t3 t4 tb lt HK HS
          obtain ⟨m2, hm2, rfl, hkp, hsh⟩ := hrel
          obtain ⟨x0, x1, x2, x3, x4, x5⟩ := HG.out _ hkp
          have lx : n0 < wr.heap.size := World.block_lt_of_cell? _ _ x0
          obtain ⟨t3, t4, tb⟩ := HT.out _ hsh
          have lt := tb.lt
          have HK := Lib.hid hkp
          have HS := Lib.hid hsh
          by_cases hlt3 : m2 < nr
          · obtain ⟨gr, hgr, bk, hnm⟩ := (hsh.rulv hlt HRR.out).2.1 (by omega)
            subst hgr
            obtain ⟨hn, hnn⟩ : ∃ h, L.nam k m2 = h := ⟨_, rfl⟩
            obtain ⟨An, nn, cn⟩ := hn
            have bn := ((hsh.rulv hlt HRR.out).2.2 m2 hlt3).1
            rw [hnn] at bn
            have bn' : nn * 16 ≤ 140737488351232 := bn
            have HR := Lib.hid (show ∀ v : World, Sh v B B' ⟨A, X.schemas.length, cap⟩ ⟨some ⟨g, 0, none⟩, X.tables.length, cap2⟩ L → v.cell? ⟨gr, m2 * 8 + 2, none⟩ = some (.slice An nn cn) ∧ Blk v B B' gr 29 (nr * 8) ∧ (0 < nn → ∃ gn, An = some ⟨gn, 0, none⟩ ∧ Blk v B B' gn 9 (nn * 1)) from fun v s => by
              obtain ⟨gr', h1, h2, h3⟩ := (s.rulv hlt HRR.out).2.1 (by omega)
              simp only [Option.some.injEq, Addr.mk.injEq, and_true] at h1
              subst h1
              have h4 := (s.rulv hlt HRR.out).2.2 m2 hlt3
              have h5 := h3 m2 hlt3
              rw [hnn] at h4 h5
              exact ⟨h5, h2, h4.2⟩)
            clear bk hnm hnn bn hkp hsh
            obtain ⟨r2, rb, _⟩ := HR.out _ HS.out
            have lr := rb.lt
            go_wp2_with fail
            go_loopw [17] (fun i wrr => ∃ q : Nat, q ≤ nn ∧ i = .int .i64 q ∧ Kp B B' W wrr ∧ Sh wrr B B' ⟨A, X.schemas.length, cap⟩ ⟨some ⟨g, 0, none⟩, X.tables.length, cap2⟩ L) (fun i _ => nn - (intOf i).toNat)
            case atStart => exact ⟨0, Nat.zero_le _, rfl, HK.out, HS.out⟩
            case round =>
              clear x0 x1 x2 x3 x4 x5 lx t3 t4 tb lt HK HS r2 rb lr
              obtain ⟨q, hq, rfl, hkp, hsh⟩ := hrel
              obtain ⟨x0, x1, x2, x3, x4, x5⟩ := HG.out _ hkp
              have lx : n0 < wr.heap.size := World.block_lt_of_cell? _ _ x0
              obtain ⟨t3, t4, tb⟩ := HT.out _ hsh
              have lt := tb.lt
              obtain ⟨r2, rb, rn⟩ := HR.out _ hsh
              have lr := rb.lt
              have HK := Lib.hid hkp
              have HS := Lib.hid hsh
              by_cases hlt4 : q < nn
              · obtain ⟨gn, hgn, bk⟩ := rn (by omega)
                subst hgn
                obtain ⟨u, hu⟩ := bk.cell (j := q) (by omega)
                have fu := bk.free q
                have lu := bk.lt
                have HN := Lib.hid (hsh.set (bk.ok q (fun h => by cases h) (fun h => by cases h)) (.string ⟨#[111, 118, 101, 114]⟩))
                have HN2 := Lib.hid (hkp.set ⟨gn, q, none⟩ (.string ⟨#[111, 118, 101, 114]⟩) bk.1 bk.2.1)
                clear hkp hsh rn
                go_wp2_with fail
                go_roundw
                case rel => exact ⟨q + 1, by omega, by go_num, HN2.out, HN.out⟩
                case measure => simp [intOf]; omega
              · obtain ⟨u, hu⟩ := rb.cell (j := m2 * 8) (by omega)
                have fu := rb.free (m2 * 8)
                have HN := Lib.hid (hsh.set (rb.ok (m2 * 8) (fun _ => by omega) (fun h => by cases h)) (.string ⟨#[111, 118, 101, 114]⟩))
                have HN2 := Lib.hid (hkp.set ⟨gr, m2 * 8, none⟩ (.string ⟨#[111, 118, 101, 114]⟩) rb.1 rb.2.1)
                clear hkp hsh rn
                go_wp2_with fail
                go_roundw
                case rel => exact ⟨m2 + 1, by omega, by go_num, HN2.out, HN.out⟩
                case measure => simp [intOf]; omega
          · obtain ⟨u, hu⟩ := tb.cell (j := k * 5 + 1) (by omega)
            have fu := tb.free (k * 5 + 1)
            have HN := Lib.hid (hsh.set (tb.ok (k * 5 + 1) (fun h => by cases h) (fun _ => by omega)) (.string ⟨#[111, 118, 101, 114]⟩))
            have HN2 := Lib.hid (hkp.set ⟨g, k * 5 + 1, none⟩ (.string ⟨#[111, 118, 101, 114]⟩) tb.1 tb.2.1)
            clear hkp hsh
            go_wp2_with fail
            go_roundw
            case rel => exact ⟨k + 1, by omega, by go_num, HN2.out, HN.out⟩
            case measure => simp [intOf]; omega
    clear hkp hsh
    go_wp2_with fail
    go_loopw [18] (fun i wrr => ∃ m : Nat, m ≤ X.schemas.length ∧ i = .int .i64 m ∧ Kp B B' W wrr ∧ Sh wrr B B' ⟨A, X.schemas.length, cap⟩ ⟨A2, X.tables.length, cap2⟩ L) (fun i _ => X.schemas.length - (intOf i).toNat)
    case atStart => exact ⟨0, Nat.zero_le _, rfl, HK.out, HS.out⟩
    case round =>
      clear x0 x1 x2 x3 x4 x5 lx HK HS
      obtain ⟨m, hm, rfl, hkp, hsh⟩ := hrel
      obtain ⟨x0, x1, x2, x3, x4, x5⟩ := HG.out _ hkp
      have lx : n0 < wr.heap.size := World.block_lt_of_cell? _ _ x0
      have HK := Lib.hid hkp
      by_cases hlt2 : m < X.schemas.length
      · obtain ⟨gs, hgs, bk⟩ := hsh.shead (by omega)
        subst hgs
        obtain ⟨u, hu⟩ := bk.cell (j := m * 2) (by omega)
        have fu := bk.free (m * 2)
        have lu := bk.lt
        have HN := Lib.hid (hsh.set (bk.ok (m * 2) (fun h => by cases h) (fun h => by cases h)) (.string ⟨#[111, 118, 101, 114]⟩))
        have HN2 := Lib.hid (hkp.set ⟨gs, m * 2, none⟩ (.string ⟨#[111, 118, 101, 114]⟩) bk.1 bk.2.1)
        clear hkp hsh
        go_wp2_with fail
        go_roundw
        case rel => exact ⟨m + 1, by omega, by go_num, HN2.out, HN.out⟩
        case measure => simp [intOf]; omega
      · have Ce := Lib.hid (Co.out wr ((HKW.out.trans hkp).to_aft HA0.out hB))
        have lx2 : n0 + 1 + 1 < wr.heap.size := World.block_lt_of_cell? _ _ x2
        have lx3 : n0 + 1 + 1 + 1 < wr.heap.size := World.block_lt_of_cell? _ _ x4
        clear hkp hsh
        go_wp2_with fail
        refine Ce.out.mono ?_
        rintro e' w9 ⟨rfl, a9⟩
        have HK9 := Lib.hid ((HKW.out.trans HK.out).aft a9)
        clear a9
        go_wp2_with fail
        go_ret
        exact ⟨rfl, HK9.out⟩
end Go.Proofs.YticjnndhpfdajaaGreat
