/- Contracts of the program, part 22. -/
import Derived.Test.YticjnndhpfdajaaPart21
import Derived.Test.YticjnndhpfdajaaPart2
import Derived.Test.YticjnndhpfdajaaPart4
import Derived.Test.YticjnndhpfdajaaPart8
/- A cell of a table of our own objects is written. -/
namespace Go.Proofs.Yticjnndhpfdajaa
open Go.RowKit Go.Deep
set_option maxRecDepth 100000
set_option linter.unusedVariables false
theorem nodup_swap {P A X C Y : List Nat} {N : Nat} (h : (P ++ (A ++ (X ++ C))).Nodup) (hy : Y.Nodup) (hm : ∀ g ∈ Y, g ∈ X ∨ N ≤ g) (hlt : ∀ g ∈ P ++ (A ++ (X ++ C)), g < N) : (P ++ (A ++ (Y ++ C))).Nodup := by
  obtain ⟨hP, h1, d1⟩ := List.nodup_append.1 h
  obtain ⟨hA, h2, d2⟩ := List.nodup_append.1 h1
  obtain ⟨hX, hC, d3⟩ := List.nodup_append.1 h2
  refine List.nodup_append.2 ⟨hP, List.nodup_append.2 ⟨hA, List.nodup_append.2 ⟨hy, hC, ?_⟩, ?_⟩, ?_⟩
  · intro a ha b hb e
    subst e
    rcases hm a ha with h3 | h3
    · exact d3 a h3 a hb rfl
    · have := hlt a (by simp [hb]); omega
  · intro a ha b hb e
    subst e
    have hl := hlt a (by simp [ha])
    rcases List.mem_append.1 hb with h3 | h3
    · rcases hm a h3 with h4 | h4
      · exact d2 a ha a (by simp [h4]) rfl
      · omega
    · exact d2 a ha a (by simp [h3]) rfl
  · intro a ha b hb e
    subst e
    have hl := hlt a (by simp [ha])
    rcases List.mem_append.1 hb with h3 | h3
    · exact d1 a ha a (by simp [h3]) rfl
    · rcases List.mem_append.1 h3 with h3 | h3
      · rcases hm a h3 with h4 | h4
        · exact d1 a ha a (by simp [h4]) rfl
        · omega
      · exact d1 a ha a (by simp [h3]) rfl
theorem list_parts {α : Type} (L : List α) (q : Nat) (hq : q < L.length) : L = L.take q ++ (L[q] :: L.drop (q + 1)) := by
  have := List.take_append_drop q L
  rw [List.drop_eq_getElem_cons hq] at this
  exact this.symm
theorem list_set_parts {α : Type} (L : List α) (q : Nat) (hq : q < L.length) (y : α) : L.set q y = L.take q ++ (y :: L.drop (q + 1)) := by
  rw [List.set_eq_take_append_cons_drop, if_pos hq]
theorem mem_set_cases {α : Type} {L : List α} {q : Nat} {x y : α} (hq : q < L.length) (h : x ∈ L.set q y) : x = y ∨ ∃ i, ∃ hi : i < L.length, i ≠ q ∧ x = L[i] := by
  obtain ⟨i, hi, rfl⟩ := List.getElem_of_mem h
  rw [List.length_set] at hi
  by_cases e : i = q
  · subst e; exact .inl (by simp)
  · exact .inr ⟨i, hi, e, by rw [List.getElem_set_ne (fun h => e h.symm)]⟩
theorem tab_disj {P : List Nat} {L : List OTab} {q i : Nat} (h : (P ++ L.flatMap OTab.blks).Nodup) (hq : q < L.length) (hi : i < L.length) (hne : i ≠ q) {g : Nat} (h1 : g ∈ L[q].blks) (h2 : g ∈ L[i].blks) : False := by
  have h0 := (List.nodup_append.1 h).2.1
  rw [list_parts L q hq, List.flatMap_append, List.flatMap_cons] at h0
  obtain ⟨_, h3, d1⟩ := List.nodup_append.1 h0
  obtain ⟨_, _, d2⟩ := List.nodup_append.1 h3
  by_cases hlt : i < q
  · exact d1 g (List.mem_flatMap.2 ⟨L[i], by rw [List.mem_take_iff_getElem]; exact ⟨i, by omega, rfl⟩, h2⟩) g (by simp [h1]) rfl
  · refine d2 g h1 g (List.mem_flatMap.2 ⟨L[i], ?_, h2⟩) rfl
    rw [List.mem_drop_iff_getElem]
    exact ⟨i - (q + 1), by omega, by congr 1; omega⟩
theorem nodup_set {P : List Nat} {L : List OTab} {q N : Nat} {y : OTab} (h : (P ++ L.flatMap OTab.blks).Nodup) (hq : q < L.length) (hy : y.blks.Nodup) (hm : ∀ g ∈ y.blks, g ∈ L[q].blks ∨ N ≤ g) (hlt : ∀ g ∈ P ++ L.flatMap OTab.blks, g < N) : (P ++ (L.set q y).flatMap OTab.blks).Nodup := by
  rw [list_set_parts L q hq y, List.flatMap_append, List.flatMap_cons]
  have e : L.flatMap OTab.blks = (L.take q).flatMap OTab.blks ++ (L[q].blks ++ (L.drop (q + 1)).flatMap OTab.blks) := by
    conv => lhs; rw [list_parts L q hq]
    rw [List.flatMap_append, List.flatMap_cons]
  rw [e] at h hlt
  exact nodup_swap h hy hm hlt
theorem tab_nodup {P : List Nat} {L : List OTab} {q : Nat} (h : (P ++ L.flatMap OTab.blks).Nodup) (hq : q < L.length) : L[q].blks.Nodup := by
  have h1 := (List.nodup_append.1 h).2.1
  rw [list_parts L q hq, List.flatMap_append, List.flatMap_cons] at h1
  exact (List.nodup_append.1 (List.nodup_append.1 h1).2.1).1
/-- a cell of the table q is written: the table is y then -/
theorem ObjIn.put {w : World} {B gt q j : Nat} {hs ht : Hd} {ss : List Sch} {L : List OTab} {y : OTab} {u : Value} (hsch : w.ownsRow B 51 2 hs.v ss.length (ss.flatMap schC)) (htab : w.ownsRow B 29 5 ht.v L.length (L.flatMap OTab.cells))
    (hoth : ∀ i (hi : i < L.length), i ≠ q → TabIn w B L[i]) (hy : TabIn w B y) (hnd : (hs.blk ++ (ht.blk ++ (L.set q y).flatMap OTab.blks)).Nodup) (hgt : ht.a = some ⟨gt, 0, none⟩) (hq : q < L.length) (hj : j < 5) (hc : y.cells = L[q].cells.set j u) :
    ObjIn (w.setCell ⟨gt, q * 5 + j, none⟩ u) B hs ht ss (L.set q y) := by
  have hg : gt ∈ ht.blk := by rw [Hd.mem_blk]; unfold Hd.v; rw [hgt]; rfl
  have k := Kb.set w gt (q * 5 + j) u
  obtain ⟨_, n2, d1⟩ := List.nodup_append.1 hnd
  obtain ⟨_, _, d2⟩ := List.nodup_append.1 n2
  refine ⟨own_kb hsch k (fun g h1 e => d1 g (Hd.mem_blk.2 h1) g (by rw [e]; simp [hg]) rfl), ?_, fun x hx => ?_, hnd⟩
  · have := own_set htab (Hd.mem_blk.1 hg) (q * 5 + j) u
    rw [flatMap_set (size := 5) (fun _ => rfl) L q j hq hj u y hc] at this
    rw [List.length_set]; exact this
  · have hb : ∀ g ∈ x.blks, ¬ g = gt := fun g h1 e => d2 gt hg g (List.mem_flatMap.2 ⟨x, hx, h1⟩) e.symm
    rcases mem_set_cases hq hx with rfl | ⟨i, hi, hne, rfl⟩
    · exact hy.kb k hb
    · exact (hoth i hi hne).kb k hb
theorem ObjIn.nth {w : World} {B q : Nat} {hs ht : Hd} {ss : List Sch} {L : List OTab} (h : ObjIn w B hs ht ss L) (hq : q < L.length) : TabIn w B L[q] := h.each _ (List.getElem_mem hq)
theorem nd_assoc {a b c : List Nat} : (a ++ (b ++ c)).Nodup ↔ ((a ++ b) ++ c).Nodup := by rw [List.append_assoc]
/-- the cells of a table -/
theorem ObjIn.cell {w : World} {B gt q j : Nat} {hs ht : Hd} {ss : List Sch} {L : List OTab} (h : ObjIn w B hs ht ss L) (hgt : ht.a = some ⟨gt, 0, none⟩) (hq : q < L.length) (hj : j < 5) : w.cell? ⟨gt, q * 5 + j, none⟩ = L[q].cells[j]? := own_cell h.tab (fun _ => rfl) hgt hq hj
theorem ObjIn.row {w : World} {B gt q : Nat} {hs ht : Hd} {ss : List Sch} {L : List OTab} (h : ObjIn w B hs ht ss L) (hgt : ht.a = some ⟨gt, 0, none⟩) (hq : q < L.length) : gt < w.heap.size ∧ B ≤ gt ∧ ∀ j, j < 5 → w.frozen? ⟨gt, q * 5 + j, none⟩ = false := by
  obtain ⟨g, hg, hb, hr⟩ := own_place h.tab (by omega)
  rw [hgt] at hg
  simp only [Option.some.injEq, Addr.mk.injEq, and_true] at hg
  subst hg
  refine ⟨hr.1, hb, fun j hj => hr.2.2 _ ?_⟩
  rw [flatMap_len (size := 5) (fun _ => rfl)]
  have : (q + 1) * 5 ≤ L.length * 5 := Nat.mul_le_mul_right _ hq
  omega
theorem own_owner {L : List OTab} {q : Nat} (hq : q < L.length) (v : ByteArray) : (OTab.blks { L[q] with owner := v }) = L[q].blks := rfl
end Go.Proofs.Yticjnndhpfdajaa
/- The document's SameTable and Same: of two that hold the same they say yes. -/
namespace Go.Proofs.Yticjnndhpfdajaa
open Go.RowKit
set_option maxRecDepth 100000
set_option linter.unusedVariables false
@[go_sem ↓] theorem run_neqCol_self (w : World) (s : ByteArray) (k : Int) (b : Bool) :
    (binOp .neq 68 (.agg #[.string s, .int .i64 k, .bool b]) (.agg #[.string s, .int .i64 k, .bool b])).run Try.prog w = .ok (.bool false) w := by
  rw [run_neq_struct]; go_simp; try rfl
@[go_sem ↓] theorem run_neqSch_self (w : World) (s t : ByteArray) :
    (binOp .neq 51 (.agg #[.string s, .string t]) (.agg #[.string s, .string t])).run Try.prog w = .ok (.bool false) w := by
  rw [run_neq_struct]; go_simp; try rfl
theorem box2_rows {w W : World} {c d : List Value} {t u : TypeId} (h : Aft ((w.alloc (.cells c.toArray t)).alloc (.cells d.toArray u)) W) : RowAt W w.heap.size c ∧ RowAt W (w.heap.size + 1) d := by
  obtain ⟨h1, h2, hz, _⟩ := aft_box2 h
  refine ⟨⟨hz.1, fun j hj => by rw [h1]; simp, fun j hj => ?_⟩, ⟨hz.2, fun j hj => by rw [h2]; simp, fun j hj => ?_⟩⟩
  · exact (Below.frozen h (p := ⟨w.heap.size, j, none⟩) (by simp; omega)).trans ((World.frozen?_alloc_past _ _ _ (by simp)).trans (World.frozen?_alloc_at _ _ _ _ rfl))
  · exact (Below.frozen h (p := ⟨w.heap.size + 1, j, none⟩) (by simp)).trans (World.frozen?_alloc_at _ _ _ _ (by simp))
set_option maxHeartbeats 8000000 in
theorem sameT_any (t : Tab) (A : Option Addr) (cap : Nat) (A2 : Option Addr) (cap2 : Nat) (B : Option Addr) (capB : Nat) (B2 : Option Addr) (capB2 : Nat) (w : World) (h1 : SlAt w 3 ColR A cap t.cols) (h2 : SlAt w 8 RulR A2 cap2 t.rules) (h3 : SlAt w 3 ColR B capB t.cols) (h4 : SlAt w 8 RulR B2 capB2 t.rules) :
    Calls Try.prog 60 #[.agg #[.string t.schema, .string t.name, .string t.owner, .slice A t.cols.length cap, .slice A2 t.rules.length cap2], .agg #[.string t.schema, .string t.name, .string t.owner, .slice B t.cols.length capB, .slice B2 t.rules.length capB2]] w
      fun e w' => e = .returned (.bool true) ∧ Aft w w' := by
  have hlen := h1.len
  have hlen2 := h2.len
  obtain ⟨W, hW⟩ : ∃ W, W = (w.alloc (.cells #[.string t.schema, .string t.name, .string t.owner, .slice A t.cols.length cap, .slice A2 t.rules.length cap2] 29)).alloc (.cells #[.string t.schema, .string t.name, .string t.owner, .slice B t.cols.length capB, .slice B2 t.rules.length capB2] 29) := ⟨_, rfl⟩
  have aW : Aft w W := by rw [hW]; exact ((Aft.refl w).alloc _).alloc _
  have hbb := aft_box2 (w := w) (w1 := W) (by rw [← hW]; exact Aft.refl W)
  obtain ⟨ha0, hb0, hz, _⟩ := hbb
  have HAW := Lib.hid aW
  go_enter Try.func60, Try.ntmps60
  go_wp2_with fail
  rw [← hW]
  clear hW
  go_loopw [5] (fun i wr => ∃ k : Nat, k ≤ t.cols.length ∧ i = .int .i64 k ∧ Aft W wr) (fun i _ => t.cols.length - (intOf i).toNat)
  case atStart => exact ⟨0, Nat.zero_le _, rfl, Aft.refl _⟩
  case round =>
    obtain ⟨k, hk, rfl, ha⟩ := hrel
    have x3 := ha.cell_kept (show W.cell? ⟨w.heap.size, 3, none⟩ = some (.slice A t.cols.length cap) from ha0 3)
    have y3 := ha.cell_kept (show W.cell? ⟨w.heap.size + 1, 3, none⟩ = some (.slice B t.cols.length capB) from hb0 3)
    have HAR := Lib.hid ha
    by_cases hlt : k < t.cols.length
    · obtain ⟨b, off, rfl, hb, c0, c1, c2, _⟩ := col_at (cols_aft (HAW.out.trans ha) h1) hlt
      obtain ⟨b2, off2, rfl, hb2, d0, d1, d2, _⟩ := col_at (cols_aft (HAW.out.trans ha) h3) hlt
      have lx := World.block_lt_of_cell? _ _ x3
      have ly := World.block_lt_of_cell? _ _ y3
      clear ha
      go_wp2_with fail
      refine wp_region_lat (by kernel_rfl) (by kernel_rfl) ?_
      repeat (go_big_quiet_step (fail))
      refine wpQuiet_nil ?_
      intro _ hw'
      obtain ⟨x, hw''⟩ := hw'
      subst hw''
      go_wp2_with fail
      go_roundw
      case rel => exact ⟨k + 1, by omega, by go_num, HAR.out.lat x⟩
      case measure => simp [intOf]; omega
    go_wp2_with fail
    go_loopw [6] (fun i wrr => ∃ k : Nat, k ≤ t.rules.length ∧ i = .int .i64 k ∧ Aft W wrr) (fun i _ => t.rules.length - (intOf i).toNat)
    case atStart => exact ⟨0, Nat.zero_le _, rfl, ha⟩
    case round =>
      clear ha HAR x3 y3
      obtain ⟨k2, hk2, rfl, ha⟩ := hrel
      have x4 := ha.cell_kept (show W.cell? ⟨w.heap.size, 4, none⟩ = some (.slice A2 t.rules.length cap2) from ha0 4)
      have y4 := ha.cell_kept (show W.cell? ⟨w.heap.size + 1, 4, none⟩ = some (.slice B2 t.rules.length capB2) from hb0 4)
      have HAR := Lib.hid ha
      by_cases hlt2 : k2 < t.rules.length
      · obtain ⟨b, off, D, capD, rfl, hb, c0, c1, c2, c3, c4, c5, c6, c7, hcs, _⟩ := rul_at (ruls_aft (HAW.out.trans ha) h2) hlt2
        obtain ⟨b2, off2, E, capE, rfl, hb2, d0, d1, d2, d3, d4, d5, d6, d7, hds, _⟩ := rul_at (ruls_aft (HAW.out.trans ha) h4) hlt2
        obtain ⟨p, hpp⟩ : ∃ p, t.rules[k2] = p := ⟨_, rfl⟩
        rw [hpp] at c0 c1 c2 c3 c4 c5 c6 c7 hcs d0 d1 d2 d3 d4 d5 d6 d7 hds
        have hlp := hcs.len
        have lx : w.heap.size < wr.heap.size := World.block_lt_of_cell? _ _ x4
        have ly : w.heap.size + 1 < wr.heap.size := World.block_lt_of_cell? _ _ y4
        have lyy : w.heap.size + 1 < wr.heap.size + 1 := by omega
        have lb2 : b2 < wr.heap.size + 1 := by omega
        obtain ⟨V, hV⟩ : ∃ V, V = (wr.alloc (.cells #[.string p.name, .int .i64 p.kind, .slice D p.cols.length capD, .int .i64 p.low, .int .i64 p.high, .string p.schema, .string p.table, .string p.key] 42)).alloc (.cells #[.string p.name, .int .i64 p.kind, .slice E p.cols.length capE, .int .i64 p.low, .int .i64 p.high, .string p.schema, .string p.table, .string p.key] 42) := ⟨_, rfl⟩
        have aV : Aft wr V := by rw [hV]; exact ((Aft.refl wr).alloc _).alloc _
        obtain ⟨va0, vb0, vz, _⟩ := aft_box2 (w := wr) (w1 := V) (by rw [← hV]; exact Aft.refl V)
        have HAV := Lib.hid (HAR.out.trans aV)
        have hcsV := strs_aft aV hcs
        have hdsV := strs_aft aV hds
        obtain ⟨n1, hn1⟩ : ∃ n, n = wr.heap.size := ⟨_, rfl⟩
        have l1 : wr.heap.size < wr.heap.size + 1 := by omega
        have l2 : wr.heap.size < wr.heap.size + 1 + 1 := by omega
        clear hpp aV
        go_wp2_with fail
        rw [← hV]
        clear hV c0 c1 c2 c3 c4 c5 c6 c7 d0 d1 d2 d3 d4 d5 d6 d7 x4 y4 hcs hds
        have z2 : V.cell? ⟨wr.heap.size, 2, none⟩ = some (.slice D p.cols.length capD) := va0 2
        have u2 : V.cell? ⟨wr.heap.size + 1, 2, none⟩ = some (.slice E p.cols.length capE) := vb0 2
        rw [← hn1] at z2 u2 ⊢
        clear va0 vb0 vz hn1 ha
        go_wp2_with fail
        go_loopw [9] (fun i wrr => ∃ k : Nat, k ≤ p.cols.length ∧ i = .int .i64 k ∧ Aft V wrr) (fun i _ => p.cols.length - (intOf i).toNat)
        case atStart => exact ⟨0, Nat.zero_le _, rfl, Aft.refl _⟩
        case round =>
          obtain ⟨k3, hk3, rfl, ha⟩ := hrel
          have HA3 := Lib.hid ha
          have z2' := ha.cell_kept z2
          have u2' := ha.cell_kept u2
          by_cases hlt3 : k3 < p.cols.length
          · obtain ⟨b5, off5, hD, hb5, g5, _⟩ := str_at (strs_aft ha hcsV) hlt3
            subst hD
            obtain ⟨b6, off6, hE, hb6, g6, _⟩ := str_at (strs_aft ha hdsV) hlt3
            subst hE
            have lz := World.block_lt_of_cell? _ _ z2'
            have lu := World.block_lt_of_cell? _ _ u2'
            clear ha
            go_wp2_with fail
            refine wp_region_lat (by kernel_rfl) (by kernel_rfl) ?_
            repeat (go_big_quiet_step (fail))
            refine wpQuiet_nil ?_
            intro _ hw'
            obtain ⟨x, hw''⟩ := hw'
            subst hw''
            go_wp2_with fail
            go_roundw
            case rel => exact ⟨k3 + 1, by omega, by go_num, HA3.out.lat x⟩
            case measure => simp [intOf]; omega
          · clear ha
            go_wp2_with fail
            go_roundw
            case rel => exact ⟨k2 + 1, by omega, by go_num, HAV.out.trans HA3.out⟩
            case measure => simp [intOf]; omega
      · clear ha
        go_wp2_with fail
        go_ret
        exact ⟨rfl, HAW.out.trans HAR.out⟩
set_option maxHeartbeats 8000000 in
theorem sameO_any (o : Objs) (A : Option Addr) (cap : Nat) (A2 : Option Addr) (cap2 : Nat) (B : Option Addr) (capB : Nat) (B2 : Option Addr) (capB2 : Nat) (w : World) (h1 : SlAt w 2 SchR A cap o.schemas) (h2 : SlAt w 5 TabR A2 cap2 o.tables) (h3 : SlAt w 2 SchR B capB o.schemas) (h4 : SlAt w 5 TabR B2 capB2 o.tables) :
    Calls Try.prog 36 #[.agg #[.slice A o.schemas.length cap, .slice A2 o.tables.length cap2], .agg #[.slice B o.schemas.length capB, .slice B2 o.tables.length capB2]] w
      fun e w' => e = .returned (.bool true) ∧ Aft w w' := by
  have hlen := h1.len
  have hlen2 := h2.len
  obtain ⟨W, hW⟩ : ∃ W, W = (w.alloc (.cells #[.slice A o.schemas.length cap, .slice A2 o.tables.length cap2] 25)).alloc (.cells #[.slice B o.schemas.length capB, .slice B2 o.tables.length capB2] 25) := ⟨_, rfl⟩
  have aW : Aft w W := by rw [hW]; exact ((Aft.refl w).alloc _).alloc _
  obtain ⟨ha0, hb0, hz, _⟩ := aft_box2 (w := w) (w1 := W) (by rw [← hW]; exact Aft.refl W)
  have HAW := Lib.hid aW
  go_enter Try.func36, Try.ntmps36
  go_wp2_with fail
  rw [← hW]
  clear hW
  go_loopw [5] (fun i wr => ∃ k : Nat, k ≤ o.schemas.length ∧ i = .int .i64 k ∧ Aft W wr) (fun i _ => o.schemas.length - (intOf i).toNat)
  case atStart => exact ⟨0, Nat.zero_le _, rfl, Aft.refl _⟩
  case round =>
    obtain ⟨k, hk, rfl, ha⟩ := hrel
    have x3 := ha.cell_kept (show W.cell? ⟨w.heap.size, 0, none⟩ = some (.slice A o.schemas.length cap) from ha0 0)
    have y3 := ha.cell_kept (show W.cell? ⟨w.heap.size + 1, 0, none⟩ = some (.slice B o.schemas.length capB) from hb0 0)
    have HAR := Lib.hid ha
    by_cases hlt : k < o.schemas.length
    · obtain ⟨b, off, rfl, hb, c0, c1, _⟩ := sch_at (schs_aft (HAW.out.trans ha) h1) hlt
      obtain ⟨b2, off2, rfl, hb2, d0, d1, _⟩ := sch_at (schs_aft (HAW.out.trans ha) h3) hlt
      have lx := World.block_lt_of_cell? _ _ x3
      have ly := World.block_lt_of_cell? _ _ y3
      clear ha
      go_wp2_with fail
      refine wp_region_lat (by kernel_rfl) (by kernel_rfl) ?_
      repeat (go_big_quiet_step (fail))
      refine wpQuiet_nil ?_
      intro _ hw'
      obtain ⟨x, hw''⟩ := hw'
      subst hw''
      go_wp2_with fail
      go_roundw
      case rel => exact ⟨k + 1, by omega, by go_num, HAR.out.lat x⟩
      case measure => simp [intOf]; omega
    go_wp2_with fail
    go_loopw [6] (fun i wrr => ∃ k : Nat, k ≤ o.tables.length ∧ i = .int .i64 k ∧ Aft W wrr) (fun i _ => o.tables.length - (intOf i).toNat)
    case atStart => exact ⟨0, Nat.zero_le _, rfl, ha⟩
    case round =>
      clear ha HAR x3 y3
      obtain ⟨k2, hk2, rfl, ha⟩ := hrel
      have x4 := ha.cell_kept (show W.cell? ⟨w.heap.size, 1, none⟩ = some (.slice A2 o.tables.length cap2) from ha0 1)
      have y4 := ha.cell_kept (show W.cell? ⟨w.heap.size + 1, 1, none⟩ = some (.slice B2 o.tables.length capB2) from hb0 1)
      have HAR := Lib.hid ha
      by_cases hlt2 : k2 < o.tables.length
      · obtain ⟨b, off, D, capD, D2, capD2, rfl, hb, c0, c1, c2, c3, c4, hcc, hcr, _⟩ := tab_at (tabs_aft (HAW.out.trans ha) h2) hlt2
        obtain ⟨b2, off2, E, capE, E2, capE2, rfl, hb2, d0, d1, d2, d3, d4, hdc, hdr, _⟩ := tab_at (tabs_aft (HAW.out.trans ha) h4) hlt2
        have lx : w.heap.size < wr.heap.size := World.block_lt_of_cell? _ _ x4
        have ly : w.heap.size + 1 < wr.heap.size := World.block_lt_of_cell? _ _ y4
        have Cs := Lib.hid (show ∀ x : Lat wr, _ from fun x => sameT_any o.tables[k2] D capD D2 capD2 E capE E2 capE2 (lat wr x) (cols_aft ((Aft.refl wr).lat x) hcc) (ruls_aft ((Aft.refl wr).lat x) hcr) (cols_aft ((Aft.refl wr).lat x) hdc) (ruls_aft ((Aft.refl wr).lat x) hdr))
        clear ha hcc hcr hdc hdr
        go_wp2_with fail
        refine wp_region_lat (by kernel_rfl) (by kernel_rfl) ?_
        repeat (go_big_quiet_step ((first | (go_at_call 60; exact Calls.lat_of (Cs.out _)))))
        refine wpQuiet_nil ?_
        intro _ hw'
        obtain ⟨x, hw''⟩ := hw'
        subst hw''
        go_wp2_with fail
        go_roundw
        case rel => exact ⟨k2 + 1, by omega, by go_num, HAR.out.lat x⟩
        case measure => simp [intOf]; omega
      · clear ha
        go_wp2_with fail
        go_ret
        exact ⟨rfl, HAW.out.trans HAR.out⟩
end Go.Proofs.Yticjnndhpfdajaa
