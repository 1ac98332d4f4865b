/- Contracts of the program, part 12. -/
import Derived.Deep.Onto
import Derived.LaidEqlPtr
import Derived.OwnWalk
import Derived.Laws.AppendOwn
import Derived.ProofKit
import Derived.OpenShut
import Derived.Deep.Slices
import Derived.ChangeOld
import Derived.SizedLaws
import Derived.WalkKit
import Derived.WalkSpells
import Derived.WalkLawsBesides
import Derived.Lib.Hide
import Derived.Deep.QuietTactic
import Derived.BigQuiet
import Derived.Below
import Derived.Deep.Draws
import Derived.StillTailTactics
import Derived.Laws.Cells
import Derived.Laws.IdiomCopy
import Derived.Test.YtiadkchlkdaceaaRows
import Derived.Lib.Bytealg
import Derived.IntWalk
import Derived.ShutString
import Derived.Shelf.SlSortCmp.WholeK
import Derived.Lib.SliceRun
import Derived.Deep.AppendLies
import Derived.Deep.Upon
import Derived.OneCell
import Derived.Deep.DeepMust
import Derived.Deep.RegionLaw
import Derived.Deep.RegionHeld3
import Derived.Shelf.RegionOpen
import Derived.Sort.BigQuietIn
import Derived.RangeFuncNested
import Derived.RangeFuncBound
import Derived.RangeFuncCalls
import Derived.RangeFuncLeaves
import Derived.Shelf.Abstract
import Derived.OwnWalkIn
import Derived.TacticsInMore
import Derived.LoopNIn
import Derived.LoopIn
import Derived.Sort.QuietTacIn
import Derived.NoCompiler
import Derived.OrdersHeld
import Derived.Lib.Walk
import Derived.Test.YtiadkchlkdaceaaPartN1
import Derived.Test.YtiadkchlkdaceaaPartN2
import Derived.Test.YtiadkchlkdaceaaPartN3
import Derived.Test.YtiadkchlkdaceaaPartN4
import Derived.Test.YtiadkchlkdaceaaPartN5
import Derived.Test.YtiadkchlkdaceaaPartN6
import Derived.Test.YtiadkchlkdaceaaPartN7
import Derived.Test.YtiadkchlkdaceaaPartN8
import Derived.Test.YtiadkchlkdaceaaPartN9
import Derived.Test.YtiadkchlkdaceaaPartN10
import Derived.Test.YtiadkchlkdaceaaPartN11
namespace Go.Proofs.Ytiadkchlkdaceaa
open Go.RowKit Go.Deep
set_option maxRecDepth 100000
set_option linter.unusedVariables false
set_option maxHeartbeats 8000000 in
theorem insert12 (B s : Nat) (hl : Hd) (L : List OShf) (ss : List Sch) (q : Nat) (x : ROp) (A : Option Addr) (cap : Nat) (w : World) (hin : StoIn w B s hl L) (ok : SOk (storeS L) ss) (sm : ∀ y ∈ L, SmT y.x.t) (hq : q < L.length) (hrow : SlAt w 3 ValR A cap x.row) (hA : ∀ b off, A = some ⟨b, off, none⟩ → 0 < x.row.length → b ∉ stoBlks s hl L) :
    Calls Try.prog 23 #[.pointer (some ⟨s, 0, none⟩), .pointer (some ⟨L[q].p, 0, none⟩), .agg #[.int .i64 x.kind, .string x.role, .string x.schema, .string x.table, .slice A x.row.length cap, .string x.col, .int .i64 x.v.kind, .int .i64 x.v.int, .string x.v.text]] w (DoQ w B s hl L (insS (storeS L) q x.row)) := by
  obtain ⟨kd, role, schema, table, row, col, v⟩ := x
  simp only at hrow ⊢
  obtain ⟨r, hr⟩ : ∃ r, wrongS (storeS L) q row = r := ⟨_, rfl⟩
  have hqS : q < (storeS L).length := by simpa [storeS] using hq
  have hsn : shfN (storeS L) q = L[q].s := by rw [shfN_get hqS]; simp [storeS]
  obtain ⟨y, hy⟩ : ∃ y, L[q] = y := ⟨_, rfl⟩
  have hey := hin.each L[q] (List.getElem_mem hq)
  rw [hy] at hey hsn ⊢
  have HOK := Lib.hid ok
  have HQS := Lib.hid hqS
  have CW := Lib.hid (show ∀ V, Aft w V → Calls Try.prog 43 #[.pointer (some ⟨s, 0, none⟩), .pointer (some ⟨y.p, 0, none⟩), .slice A row.length cap] V fun e w' => e = .returned (.int .i64 r) ∧ Aft V w' from fun V a => by
    have := wrong12 s (L.map (·.p)) (storeS L) ss q row A cap V ((hin.aft a).is ok sm) ok (by simpa using hq) (vals_aft a hrow)
    rw [hr] at this
    simpa [hy] using this)
  obtain ⟨W, hW⟩ : ∃ W, W = w.alloc (.cells #[.int .i64 kd, .string role, .string schema, .string table, .slice A row.length cap, .string col, .int .i64 v.kind, .int .i64 v.int, .string v.text] 46) := ⟨_, rfl⟩
  have aW : Aft w W := by rw [hW]; exact (Aft.refl w).alloc _
  have rW : RowAt W w.heap.size [.int .i64 kd, .string role, .string schema, .string table, .slice A row.length cap, .string col, .int .i64 v.kind, .int .i64 v.int, .string v.text] := by rw [hW]; exact box_row2 (Aft.refl _)
  have HRW := Lib.hid rW
  have HAW := Lib.hid aW
  have HR := Lib.hid hr
  have HIN := Lib.hid hin
  have HQ := Lib.hid hq
  have HSN := Lib.hid hsn
  have HY := Lib.hid hy
  have HEY := Lib.hid hey
  have HROW := Lib.hid hrow
  have HA0 := Lib.hid hA
  have cB := (rW.cell (j := 4) rfl)
  have zB := rW.1
  clear aW rW hr hin hsn hy hey hrow hA ok sm hqS
  go_enter Try.func23, Try.ntmps23
  go_wp2_with fail
  rw [← hW]
  clear hW
  go_wp2_with fail
  refine (CW.out W HAW.out).mono ?_
  rintro e X ⟨rfl, aX⟩
  have HAX := Lib.hid (HAW.out.trans aX)
  have HRX := Lib.hid (HRW.out.aft aX)
  clear aX CW cB zB
  by_cases h0 : r = 0
  · subst h0
    obtain ⟨hb, h64⟩ := wrong_zero HR.out
    rw [HSN.out] at hb h64
    have hb8 : row.length ≤ 1000000 := by
      have h1 := ((besideB_iff formB _ _).1 hb).1
      have h2 := (HOK.out.shf (x := y.s) (by rw [← HSN.out, shfN_get HQS.out]; exact List.getElem_mem _)).2.1
      have h1 : y.s.t.cols.length = row.length := h1
      omega
    have HB8 := Lib.hid hb8
    have inX := HEY.out.aft HAX.out
    have own := inX.rows.own
    have e5 := inX.row
    unfold OShf.cells at e5
    rw [OTab.cells_of inX.tab rfl, own_slice own] at e5
    rw [own_slice own] at own
    have HOW := Lib.hid own
    have HIX := Lib.hid inX
    have HE5 := Lib.hid e5
    have x5 := e5.cell (j := 5) rfl
    have xz := e5.1
    have xf : X.frozen? ⟨y.p, 5, none⟩ = false := e5.2.2 5 (by simp)
    have c4 := HRX.out.cell (j := 4) rfl
    have cz := HRX.out.1
    have hyl : y.rows.length < 64 := by simpa [OShf.s] using h64
    have HVB := Lib.hid (show ∀ g, InV (.slice y.hr.a y.rows.length y.hr.c) g → g ∈ y.hr.blk from fun g hg => Hd.mem_blk.2 (by rw [own_slice HEY.out.rows.own]; exact hg))
    have HND := Lib.hid (show y.blks.Nodup from by
      have h1 := (List.nodup_append.1 (List.nodup_cons.1 HIN.out.nd).2).2.1
      have hm : y ∈ L := by rw [← HY.out]; exact List.getElem_mem hq
      exact nodup_of h1 hm)
    have n1 : ¬ InV (.slice y.hr.a y.rows.length y.hr.c) y.p := fun hg => by
      have h1 := HND.out
      unfold OShf.blks at h1
      exact (List.nodup_cons.1 h1).1 (by unfold OShf.rblk; simp [HVB.out _ hg])
    have n2 : ¬ InV (.slice y.hr.a y.rows.length y.hr.c) w.heap.size := fun hg => by
      have := (HEY.out.rows.lt w.heap.size (List.mem_append.2 (.inl (HVB.out _ hg)))).2
      omega
    obtain ⟨i0, hi0, hz0, hz1, hz2⟩ := info_parts info2Row
    have HI := Lib.hid hi0
    have HZ0 := Lib.hid hz0
    have HZ1 := Lib.hid hz1
    have HZ2 := Lib.hid hz2
    have HBX := Lib.hid (show B ≤ X.heap.size by have := HEY.out.ge; have := HEY.out.row.1; have := HAX.out.size; omega)
    clear hi0 hz0 hz1 hz2 own e5 inX hb h64 hb8
    go_wp2_with fail
    refine wp_region_reads 7 10 (fun w' => ∃ x : KLat (.slice y.hr.a y.rows.length y.hr.c) X, w' = klat (.slice y.hr.a y.rows.length y.hr.c) X x) (by kernel_rfl) (by kernel_rfl) (KL.aft (Aft.refl X).drew) ?_
    simp only [List.take_succ_cons, List.take_zero, List.drop_succ_cons, List.drop_zero]
    repeat (go_big_quiet_step (fail))
    refine wpQuiet_nil ?_
    refine wpChain_step (fun K hK => ?_)
    go_simp
    obtain ⟨D, hD⟩ : ∃ D, D = X.drew := ⟨_, rfl⟩
    have aD : Aft X D := by rw [hD]; exact (Aft.refl X).drew
    rw [← hD]
    go_at_call 44
    refine (cloneRow A cap row w D (HAX.out.trans aD) HROW.out HB8.out).mono ?_
    rintro e Y ⟨h4, rfl, aY, ho4⟩
    dsimp only
    refine hK _ _ (fun _ => KL.aft (aD.trans aY)) ?_
    clear hK K hD
    have HO4 := Lib.hid ho4
    have zXD := aD.size
    refine wpChain_step (fun K hK => ?_)
    go_simp
    refine hK _ _ (fun _ => KL.aft ((aD.trans aY).alloc _)) ?_
    clear hK K ho4
    have HAY := Lib.hid (aD.trans aY)
    have HDY := Lib.hid aY
    have HXD := Lib.hid aD
    have zXY := HAY.out.size
    refine wpChain_step (fun K hK => ?_)
    refine wp_append_lies _ (.tmp 21) (.tmp 25) 47 rfl B 41 i0 _ 1 24 Try.underlying47 HI.out HZ0.out HZ1.out HZ2.out rfl (by decide) (.slice y.hr.a y.rows.length y.hr.c) y.rows.length (y.rows.flatMap ORow.cells) (by rfl) ((own_aft HOW.out HAY.out).alloc _) ⟨Y.heap.size, 0, none⟩ 1 1 [.slice h4.a row.length h4.c] (by rfl) rfl (World.news_of_block (cs := #[.slice h4.a row.length h4.c]) (t := 41) (fr := (0, 0)) (heap_alloc_new Y _)) (by simp [Value.oneCell']) (by omega) (by unfold maxLen; omega) (by omega) (by have := HBX.out; simp; omega) (Y.heap.size + 1) (by simp) ?_
    intro gg cap' w5 hown5 hgrow hat hgl
    refine hK _ _ (fun _ => KL.of ((Kb.of_aft (HAY.out.alloc _)).trans (kb_in hgrow))) ?_
    clear hK K
    refine wpChain_list _ (by simp) (by decide) ?_
    have kw5 : Kb (InV (.slice y.hr.a y.rows.length y.hr.c)) X w5 := (Kb.of_aft (HAY.out.alloc _)).trans (kb_in hgrow)
    have HK5 := Lib.hid kw5
    have x5 := kw5.cell x5 n1
    have row5 := kw5.row HE5.out n1
    have xf5 : w5.frozen? ⟨y.p, 5, none⟩ = false := row5.2.2 5 (by simp)
    have z5 := row5.1
    have HR5 := Lib.hid row5
    have HRB := Lib.hid (kw5.row HRX.out n2)
    have HP := Lib.hid (show RowsIn w5 B ⟨some ⟨gg, 0, none⟩, y.rows.length + 1, cap'⟩ (y.rows ++ [⟨row, h4⟩]) ∧ (rowBlks ⟨some ⟨gg, 0, none⟩, y.rows.length + 1, cap'⟩ (y.rows ++ [⟨row, h4⟩])).Nodup from by
      have e0 : y.hr.v = .slice y.hr.a y.rows.length y.hr.c := own_slice HEY.out.rows.own
      refine rows_push (o := ⟨row, h4⟩) (h := y.hr) (wr := D) (w4 := Y) (ob := .cells #[.slice h4.a row.length h4.c] 41) (HIX.out.rows.aft HXD.out) ?_ HDY.out HO4.out (by have := HBX.out; omega) (by rw [e0]; exact hgrow) rfl (by simpa [own_slice HO4.out] using hown5) (by rw [e0]; intro g hg; rw [blk_some, List.mem_singleton] at hg; subst hg; rcases hat with h | h; exact .inl h; refine .inr ?_; have h := h; simp; omega)
      have h1 := HND.out
      unfold OShf.blks OShf.rblk at h1
      exact (List.nodup_append.1 (List.nodup_cons.1 h1).2).2.1)
    have HAT := Lib.hid (show ∀ g ∈ rowBlks ⟨some ⟨gg, 0, none⟩, y.rows.length + 1, cap'⟩ (y.rows ++ [⟨row, h4⟩]), g ∈ y.rblk ∨ X.heap.size ≤ g from fun g hg => by
      unfold rowBlks at hg
      rw [blk_some, List.flatMap_append, List.flatMap_cons, List.flatMap_nil, List.append_nil] at hg
      simp only [List.mem_append, List.mem_singleton] at hg
      unfold OShf.rblk
      rcases hg with rfl | h | h
      · rcases hat with h1 | h1
        · exact .inl (List.mem_append.2 (.inl (HVB.out _ h1)))
        · refine .inr ?_
          omega
      · exact .inl (List.mem_append.2 (.inr h))
      · have := (blk_lt HO4.out g h).1
        exact .inr (by omega))
    clear hown5 hgrow hat hgl kw5 row5 c4 cz
    go_wp2_with fail
    refine NoPanic.normal ?_
    obtain ⟨V, hV⟩ : ∃ V, V = w5.setCell ⟨y.p, 5, none⟩ (.slice (some ⟨gg, 0, none⟩) (y.rows.length + 1) cap') := ⟨_, rfl⟩
    have kV : Kb (fun g => g = y.p) w5 V := by rw [hV]; exact Kb.set _ _ _ _
    have rV : RowAt V y.p (y.x.cells ++ [(Hd.mk (some ⟨gg, 0, none⟩) (y.rows.length + 1) cap').v]) := by
      have h1 := HR5.out.set 5 (.slice (some ⟨gg, 0, none⟩) (y.rows.length + 1) cap') (by simp)
      rw [← hV] at h1
      rw [OTab.cells_of HEY.out.tab rfl]
      exact h1
    have bV : ∃ cur t, V.heap[y.p]? = some (.cells cur t (0, 0)) := by
      obtain ⟨cur, t, e⟩ := HIX.out.blk
      have e2 := (HK5.out.block y.p HIX.out.row.1 n1).trans e
      rw [hV]
      exact ⟨_, _, setCell_heap_same w5 y.p 5 _ e2⟩
    have HYB := Lib.hid (show ∀ g, g ∈ y.blks → g ∈ stoBlks s hl L from fun g hg => mem_sto hq (by rw [HY.out]; exact hg))
    have kwV : Kb (fun g => g = y.p ∨ g ∈ y.rblk) w V := ((Kb.of_aft HAX.out).trans (HK5.out.mono fun g _ h => .inr (by unfold OShf.rblk; exact List.mem_append.2 (.inl (HVB.out g h))))).trans (kV.mono fun g _ h => .inl h)
    have HKV := Lib.hid kwV
    have hnp : ∀ g ∈ rowBlks ⟨some ⟨gg, 0, none⟩, y.rows.length + 1, cap'⟩ (y.rows ++ [⟨row, h4⟩]), g ≠ y.p := fun g hg e => by
      subst e
      rcases HAT.out _ hg with h | h
      · have h1 := HND.out
        unfold OShf.blks at h1
        exact (List.nodup_cons.1 h1).1 (List.mem_append.2 (.inr h))
      · have := HIX.out.row.1; omega
    have rin : RowsIn V B ⟨some ⟨gg, 0, none⟩, y.rows.length + 1, cap'⟩ (y.rows ++ [⟨row, h4⟩]) := HP.out.1.kb kV fun g hg e => hnp g hg e
    have HAT2 := Lib.hid (show ∀ g ∈ rowBlks ⟨some ⟨gg, 0, none⟩, y.rows.length + 1, cap'⟩ (y.rows ++ [⟨row, h4⟩]), g ∈ y.rblk ∨ w.heap.size ≤ g from fun g hg => (HAT.out g hg).imp_right (Nat.le_trans HAX.out.size))
    have sin : StoIn V B s hl (L.set q ⟨L[q].p, L[q].x, y.rows ++ [⟨row, h4⟩], ⟨some ⟨gg, 0, none⟩, y.rows.length + 1, cap'⟩⟩) :=
      HIN.out.turn hq (by rw [HY.out]; exact kwV) (by rw [HY.out]; exact rV) (by rw [HY.out]; exact bV) rin (by rw [HY.out]; exact HAT2.out) HP.out.2
    have HSI := Lib.hid sin
    have rowV : SlAt V 3 ValR A cap row := SlAt.kbR HROW.out kwV (fun b off e hl0 hb => HA0.out b off e hl0 (HYB.out b (by
      rcases hb with rfl | hb
      · unfold OShf.blks; simp
      · unfold OShf.blks; simp [hb]))) fun _ _ h => h
    have HRV := Lib.hid rowV
    have c4 : V.cell? ⟨w.heap.size, 4, none⟩ = some (.slice A row.length cap) := (kV.row HRB.out (fun e => by have := HEY.out.row.1; omega)).cell (j := 4) rfl
    have cz := (kV.row HRB.out (fun e => by have := HEY.out.row.1; omega)).1
    have HVZ := Lib.hid kwV.size
    rw [← hV]
    clear hV kV rV bV kwV hnp rin sin rowV x5 xf5 z5 xf xz
    go_wp2_with fail
    refine (cloneRow A cap row V V (Aft.refl V) HRV.out HB8.out).mono ?_
    rintro e Z ⟨h7, rfl, aZ, ho7⟩
    have HAZ := Lib.hid aZ
    have HO7 := Lib.hid ho7
    clear aZ ho7 c4 cz
    go_wp2_with fail
    go_ret2
    have zz := HAZ.out.size
    have zw := HVZ.out
    have hrw : shfN (storeS L) q = ⟨y.x.t, y.rows.map (·.vals)⟩ := HSN.out
    rw [show insS (storeS L) q row = (putS (storeS L) q ((y.rows ++ [(⟨row, h4⟩ : ORow)]).map (·.vals)), [row], 0) by unfold insS; rw [HR.out, if_neg (by simp), hrw, List.map_append]; rfl]
    have kfin : Kb (fun g => g = y.p ∨ g ∈ y.rblk) w (Z.alloc (.cells #[.slice h7.a row.length h7.c] 41)) := HKV.out.trans (Kb.of_aft (HAZ.out.alloc _))
    have olt := blk_lt HO7.out
    have slt := HSI.out.lt
    have hsub := turn_sub (s := s) (hl := hl) (N := w.heap.size) (R' := y.rows ++ [⟨row, h4⟩]) (h' := ⟨some ⟨gg, 0, none⟩, y.rows.length + 1, cap'⟩) hq fun g hg => (HAT2.out g hg).imp_left fun h => HYB.out g (by unfold OShf.blks; simp [h])
    refine ⟨_, ⟨some ⟨Z.heap.size, 0, none⟩, 1, 1⟩, [⟨row, h7⟩], storeS_set hq, rfl, rfl, kfin.mono fun g _ h => HYB.out g ?_, HSI.out.aft (HAZ.out.alloc _), turn_x hq, ⟨?_, fun o ho => ?_⟩, ?_, fun g hg h => ?_, hsub⟩
    · rcases h with rfl | h
      · unfold OShf.blks; simp
      · unfold OShf.blks; simp [h]
    · have h1 := own_boxS Z B (.slice h7.a row.length h7.c) rfl (by have := HBX.out; have := HEY.out.ge; have := HEY.out.row.1; omega)
      have e1 : [(⟨row, h7⟩ : ORow)].flatMap ORow.cells = [.slice h7.a row.length h7.c] := by
        rw [List.flatMap_cons, List.flatMap_nil, List.append_nil]
        unfold ORow.cells
        rw [own_slice HO7.out]
      rw [e1]
      exact h1
    · rw [List.mem_singleton] at ho
      subst ho
      exact own_down (own_aft HO7.out ((Aft.refl Z).alloc _)) (by have := HEY.out.ge; have := HEY.out.row.1; omega)
    · unfold rowBlks
      rw [blk_some, List.flatMap_cons, List.flatMap_nil, List.append_nil]
      refine List.nodup_append.2 ⟨by simp, blk_nodup _, fun a ha b hb e => ?_⟩
      rw [List.mem_singleton] at ha
      subst ha
      have := (olt b hb).2
      simp only at e
      omega
    · have h1 := (slt g h).2
      unfold rowBlks at hg
      rw [blk_some, List.flatMap_cons, List.flatMap_nil, List.append_nil] at hg
      rcases List.mem_append.1 hg with hg | hg
      · rw [List.mem_singleton] at hg
        subst hg
        simp only at h1
        omega
      · have := (olt g hg).1
        omega
  · have h1 : (r == 0) = false := by simpa using h0
    go_wp2_with fail
    go_ret2
    rw [show insS (storeS L) q row = (storeS L, [], r) by unfold insS; rw [HR.out, if_pos h0]]
    exact doQ_no HIN.out HAX.out r
end Go.Proofs.Ytiadkchlkdaceaa

namespace Go.Proofs.Ytiadkchlkdaceaa
open Go.RowKit Go.Deep
set_option maxRecDepth 100000
set_option linter.unusedVariables false
theorem doS_is (S : List Shf) (x : ROp) : doS S x = if mayO x = false then (S, [], 1) else if shfAt S x.schema x.table < 0 then (S, [], 110) else if emp x.col = false ∧ colAt (shfN S (shfAt S x.schema x.table).toNat).t.cols x.col < 0 then (S, [], 110)
    else if x.kind = 1 then insS S (shfAt S x.schema x.table).toNat x.row else if x.kind = 2 then removeS S (shfAt S x.schema x.table).toNat x.col x.v else chooseS S (shfAt S x.schema x.table).toNat x.col x.v := rfl
theorem do1 (name : ByteArray) (kind : Int) (null : Bool) (s : ByteArray) (b1 : Nat) (w : World) (hb1 : b1 < w.heap.size) (hc1 : w.cell? ⟨b1, 5, none⟩ = some (.string s)) :
    Calls Try.prog 22 #[.agg #[.string name, .int .i64 kind, .bool null], .pointer (some ⟨b1, 0, none⟩)] w fun e w' => e = .returned (.bool (eqS name s)) ∧ Aft w w' := by
  go_enter Try.func22, Try.ntmps22
  go_wp2_with fail
  go_ret
  exact ⟨rfl, (Aft.refl _).alloc _⟩
theorem DoQ.from {w V w' : World} {B s : Nat} {hl : Hd} {L : List OShf} {r : List Shf × List (List Val) × Int} {e : Ending} (a : Aft w V) (h : DoQ V B s hl L r e w') : DoQ w B s hl L r e w' := by
  obtain ⟨L', h', R, q1, q2, q3, q4, q5, q6, q7, q8, q9, q10⟩ := h
  exact ⟨L', h', R, q1, q2, q3, (Kb.of_aft a).trans q4, q5, q6, q7, q8, q9, fun g hg => (q10 g hg).imp_right (Nat.le_trans a.size)⟩
theorem DoQ.res {w w' : World} {B s : Nat} {hl : Hd} {L : List OShf} {r : List Shf × List (List Val) × Int} {e : Ending} (h : DoQ w B s hl L r e w') : ∃ u v, e = .returned (.tuple #[u, v]) := by
  obtain ⟨L', h', R, q1, q2, q3, _⟩ := h
  exact ⟨_, _, q3⟩
set_option maxHeartbeats 8000000 in
theorem do12 (B s : Nat) (hl : Hd) (L : List OShf) (ss : List Sch) (x : ROp) (A : Option Addr) (cap : Nat) (w : World) (hin : StoIn w B s hl L) (ok : SOk (storeS L) ss) (sm : ∀ y ∈ L, SmT y.x.t) (hrow : SlAt w 3 ValR A cap x.row) (hA : ∀ b off, A = some ⟨b, off, none⟩ → 0 < x.row.length → b ∉ stoBlks s hl L) (hc : Small x.col.size) (hv : Small x.v.text.size) :
    Calls Try.prog 9 #[.pointer (some ⟨s, 0, none⟩), .agg #[.int .i64 x.kind, .string x.role, .string x.schema, .string x.table, .slice A x.row.length cap, .string x.col, .int .i64 x.v.kind, .int .i64 x.v.int, .string x.v.text]] w (DoQ w B s hl L (doS (storeS L) x)) := by
  have hdo := doS_is (storeS L) x
  have CM := Lib.hid (show ∀ V, Calls Try.prog 20 #[.agg #[.int .i64 x.kind, .string x.role, .string x.schema, .string x.table, .slice A x.row.length cap, .string x.col, .int .i64 x.v.kind, .int .i64 x.v.int, .string x.v.text]] V fun e w' => e = .returned (.bool (mayO x)) ∧ Aft V w' from fun V => may12 x A cap V hc hv)
  have CF := Lib.hid (show ∀ V, Aft w V → Calls Try.prog 15 #[.pointer (some ⟨s, 0, none⟩), .string x.schema, .string x.table] V fun e w' => e = .returned (ptrV (L.map (·.p)) (shfAt (storeS L) x.schema x.table)) ∧ V = w' from fun V a => find12 s (L.map (·.p)) (storeS L) x.schema x.table V ((hin.aft a).is ok sm))
  have HIN := Lib.hid hin
  have CI := Lib.hid (show ∀ V, Aft w V → ∀ q (hq : q < L.length), Calls Try.prog 23 #[.pointer (some ⟨s, 0, none⟩), .pointer (some ⟨L[q].p, 0, none⟩), .agg #[.int .i64 x.kind, .string x.role, .string x.schema, .string x.table, .slice A x.row.length cap, .string x.col, .int .i64 x.v.kind, .int .i64 x.v.int, .string x.v.text]] V (DoQ V B s hl L (insS (storeS L) q x.row)) from fun V a q hq => insert12 B s hl L ss q x A cap V (hin.aft a) ok sm hq (vals_aft a hrow) hA)
  have CR := Lib.hid (show ∀ V, Aft w V → ∀ q (hq : q < L.length), Calls Try.prog 24 #[.pointer (some ⟨s, 0, none⟩), .pointer (some ⟨L[q].p, 0, none⟩), .agg #[.int .i64 x.kind, .string x.role, .string x.schema, .string x.table, .slice A x.row.length cap, .string x.col, .int .i64 x.v.kind, .int .i64 x.v.int, .string x.v.text]] V (DoQ V B s hl L (removeS (storeS L) q x.col x.v)) from fun V a q hq => remove12 B s hl L ss q x A cap V (hin.aft a) ok sm hq)
  have CC := Lib.hid (show ∀ V, Aft w V → ∀ q (hq : q < L.length), Calls Try.prog 25 #[.pointer (some ⟨s, 0, none⟩), .pointer (some ⟨L[q].p, 0, none⟩), .agg #[.int .i64 x.kind, .string x.role, .string x.schema, .string x.table, .slice A x.row.length cap, .string x.col, .int .i64 x.v.kind, .int .i64 x.v.int, .string x.v.text]] V (DoQ V B s hl L (chooseS (storeS L) q x.col x.v)) from fun V a q hq => choose12 B s hl L ss q x A cap V (hin.aft a) ok sm hq)
  have PA := Lib.hid (show ∀ y ∈ L, Parted w y from fun y hy => parted hin ok sm hy)
  obtain ⟨D, hD⟩ : ∃ D, doS (storeS L) x = D := ⟨_, rfl⟩
  rw [hD] at hdo ⊢
  obtain ⟨j, hj⟩ : ∃ j, shfAt (storeS L) x.schema x.table = j := ⟨_, rfl⟩
  have hjr : -1 ≤ j ∧ j < L.length := by
    have := idxP_range (fun y : Shf => eqS y.t.schema x.schema && eqS y.t.name x.table) (storeS L)
    rw [← hj]
    unfold shfAt
    simpa [storeS] using this
  have hsn : ∀ q (h : q < L.length), shfN (storeS L) q = L[q].s := fun q h => by rw [shfN_get (by simpa [storeS] using h)]; simp [storeS]
  obtain ⟨kd, role, schema, table, row, col, v⟩ := x
  simp only at hdo CM CF CI CR CC hj hrow hc hv ⊢
  rw [hj] at hdo CF
  obtain ⟨my, hmy⟩ : ∃ my, mayO ⟨kd, role, schema, table, row, col, v⟩ = my := ⟨_, rfl⟩
  rw [hmy] at hdo CM
  have HDO := Lib.hid hdo
  have HJR := Lib.hid hjr
  have HSN := Lib.hid hsn
  obtain ⟨W, hW⟩ : ∃ W, W = w.alloc (.cells #[.int .i64 kd, .string role, .string schema, .string table, .slice A row.length cap, .string col, .int .i64 v.kind, .int .i64 v.int, .string v.text] 46) := ⟨_, rfl⟩
  have aW : Aft w W := by rw [hW]; exact (Aft.refl w).alloc _
  have rW : RowAt W w.heap.size [.int .i64 kd, .string role, .string schema, .string table, .slice A row.length cap, .string col, .int .i64 v.kind, .int .i64 v.int, .string v.text] := by rw [hW]; exact box_row2 (Aft.refl _)
  have HAW := Lib.hid aW
  have KF := Lib.hid (show ∀ V, Aft W V → (V.cell? ⟨w.heap.size, 0, none⟩ = some (.int .i64 kd) ∧ V.cell? ⟨w.heap.size, 1, none⟩ = some (.string role) ∧ V.cell? ⟨w.heap.size, 2, none⟩ = some (.string schema) ∧ V.cell? ⟨w.heap.size, 3, none⟩ = some (.string table) ∧ V.cell? ⟨w.heap.size, 4, none⟩ = some (.slice A row.length cap) ∧ V.cell? ⟨w.heap.size, 5, none⟩ = some (.string col) ∧ V.cell? ⟨w.heap.size, 6, none⟩ = some (.int .i64 v.kind) ∧ V.cell? ⟨w.heap.size, 7, none⟩ = some (.int .i64 v.int) ∧ V.cell? ⟨w.heap.size, 8, none⟩ = some (.string v.text) ∧ w.heap.size < V.heap.size) from fun V a => by
    have r := rW.aft a
    exact ⟨r.cell (j := 0) rfl, r.cell (j := 1) rfl, r.cell (j := 2) rfl, r.cell (j := 3) rfl, r.cell (j := 4) rfl, r.cell (j := 5) rfl, r.cell (j := 6) rfl, r.cell (j := 7) rfl, r.cell (j := 8) rfl, r.1⟩)
  have lw := Nat.lt_succ_self w.heap.size
  clear aW rW hdo hjr hsn hin ok sm hrow hA hc hv hD hmy hj
  go_enter Try.func9, Try.ntmps9
  go_wp2_with fail
  rw [← hW]
  clear hW
  obtain ⟨c0, c1, c2, c3, c4, c5, c6, c7, c8, cz⟩ := KF.out W (Aft.refl W)
  go_wp2_with fail
  refine (CM.out W).mono ?_
  rintro e X ⟨rfl, aX⟩
  clear c0 c1 c2 c3 c4 c5 c6 c7 c8 cz CM
  obtain ⟨c0, c1, c2, c3, c4, c5, c6, c7, c8, cz⟩ := KF.out X aX
  have HAX := Lib.hid (HAW.out.trans aX)
  have HWX := Lib.hid aX
  clear aX
  cases my
  · go_wp2_with fail
    go_ret2
    rw [HDO.out, if_pos trivial]
    exact doQ_no HIN.out HAX.out 1
  · go_wp2_with fail
    refine (CF.out X HAX.out).mono ?_
    rintro e w1 ⟨rfl, rfl⟩
    clear CF
    by_cases hj0 : j < 0
    · have ej : j = -1 := by have := HJR.out.1; omega
      subst ej
      rw [ptrV_no]
      go_wp2_with fail
      go_ret2
      rw [HDO.out]
      simp only [Bool.true_eq_false, if_false, if_pos hj0]
      exact doQ_no HIN.out HAX.out 110
    · obtain ⟨q, rfl⟩ : ∃ q : Nat, j = q := ⟨j.toNat, by omega⟩
      have hq : q < L.length := by have := HJR.out.2; omega
      have HSQ := Lib.hid (HSN.out q hq)
      have P := PA.out L[q] (List.getElem_mem hq)
      rw [ptrV_at (by simpa using hq), List.getElem_map]
      have hdo := HDO.out
      simp only [Bool.true_eq_false, if_false, if_neg hj0, Int.toNat_natCast] at hdo
      rw [HSQ.out] at hdo
      have CI1 := Lib.hid (fun V a => CI.out V a q hq)
      have CR1 := Lib.hid (fun V a => CR.out V a q hq)
      have CC1 := Lib.hid (fun V a => CC.out V a q hq)
      obtain ⟨y, hy⟩ : ∃ y, L[q] = y := ⟨_, rfl⟩
      rw [hy] at hdo P CI1 CR1 CC1 ⊢
      have HD := Lib.hid hdo
      have HP := Lib.hid P
      have r3 := (P.row.aft HAX.out).cell (j := 3) rfl
      have rz := (P.row.aft HAX.out).1
      have hent := Lib.hid (enters (P := Try.prog) Try.func22 (by kernel_rfl) rfl)
      clear hdo P CI CR CC PA hy hj0
      cases he : emp col
      · have em1 : col.toList.isEmpty = false := he
        have em2 : ¬ col.toList = [] := by intro h; rw [h] at em1; cases em1
        have C := Lib.hid (contCol12 y.x.hc.a y.x.hc.c y.x.t.cols 22 #[.pointer (some ⟨w.heap.size, 0, none⟩)] (fun c => eqS c.name col) X (cols_aft HAX.out HP.out.cols) hent.out (fun w' ha i hi => by
          obtain ⟨_, _, _, _, _, c5, _, _, _, cz⟩ := KF.out w' (HWX.out.trans ha)
          exact do1 _ _ _ col w.heap.size w' cz c5))
        have hany := (any_iff (fun c : Col => eqS c.name col) y.x.t.cols)
        obtain ⟨an, han⟩ : ∃ an, y.x.t.cols.any (fun c => eqS c.name col) = an := ⟨_, rfl⟩
        rw [han] at C hany
        have HAN := Lib.hid hany
        clear hany han
        go_wp2_with fail
        refine C.out.mono ?_
        rintro e V ⟨rfl, aV⟩
        have HAV := Lib.hid (HAX.out.trans aV)
        clear c0 c1 c2 c3 c4 c5 c6 c7 c8 cz r3 rz C
        obtain ⟨c0, c1, c2, c3, c4, c5, c6, c7, c8, cz⟩ := KF.out V (HWX.out.trans aV)
        clear aV
        cases an
        · go_wp2_with fail
          go_ret2
          rw [HD.out, if_pos ⟨he, Int.not_le.1 fun h => by have := HAN.out.2 h; cases this⟩]
          exact doQ_no HIN.out HAV.out 110
        · have hcol : ¬ (emp col = false ∧ colAt y.s.t.cols col < 0) := fun h => absurd (HAN.out.1 rfl) (Int.not_le.2 h.2)
          have HCL := Lib.hid hcol
          clear hcol
          by_cases hk1 : kd = 1
          · subst hk1
            go_wp2_with fail
            refine (CI1.out V HAV.out).mono ?_
            rintro e w4 h4
            obtain ⟨u1, u2, rfl⟩ := h4.res
            have H4 := Lib.hid h4
            clear h4 CI1 CR1 CC1
            go_wp2_with fail
            go_ret2
            rw [HD.out]
            simp only [if_neg HCL.out, if_true]
            exact H4.out.from HAV.out
          · have ek1 : (kd == 1) = false := by simpa using hk1
            by_cases hk2 : kd = 2
            · subst hk2
              go_wp2_with fail
              refine (CR1.out V HAV.out).mono ?_
              rintro e w4 h4
              obtain ⟨u1, u2, rfl⟩ := h4.res
              have H4 := Lib.hid h4
              clear h4 CI1 CR1 CC1
              go_wp2_with fail
              go_ret2
              rw [HD.out]
              simp only [if_neg HCL.out, if_neg hk1, if_true]
              exact H4.out.from HAV.out
            · have ek2 : (kd == 2) = false := by simpa using hk2
              go_wp2_with fail
              refine (CC1.out V HAV.out).mono ?_
              rintro e w4 h4
              obtain ⟨u1, u2, rfl⟩ := h4.res
              have H4 := Lib.hid h4
              clear h4 CI1 CR1 CC1
              go_wp2_with fail
              go_ret2
              rw [HD.out]
              simp only [if_neg HCL.out, if_neg hk1, if_neg hk2]
              exact H4.out.from HAV.out
      · have em1 : col.toList.isEmpty = true := he
        have em2 : col.toList = [] := by simpa using em1
        have hcol : ¬ (emp col = false ∧ colAt y.s.t.cols col < 0) := fun h => by rw [he] at h; cases h.1
        have HCL := Lib.hid hcol
        clear hcol
        by_cases hk1 : kd = 1
        · subst hk1
          go_wp2_with fail
          refine (CI1.out X HAX.out).mono ?_
          rintro e w4 h4
          obtain ⟨u1, u2, rfl⟩ := h4.res
          have H4 := Lib.hid h4
          clear h4 CI1 CR1 CC1
          go_wp2_with fail
          go_ret2
          rw [HD.out]
          simp only [if_neg HCL.out, if_true]
          exact H4.out.from HAX.out
        · have ek1 : (kd == 1) = false := by simpa using hk1
          by_cases hk2 : kd = 2
          · subst hk2
            go_wp2_with fail
            refine (CR1.out X HAX.out).mono ?_
            rintro e w4 h4
            obtain ⟨u1, u2, rfl⟩ := h4.res
            have H4 := Lib.hid h4
            clear h4 CI1 CR1 CC1
            go_wp2_with fail
            go_ret2
            rw [HD.out]
            simp only [if_neg HCL.out, if_neg hk1, if_true]
            exact H4.out.from HAX.out
          · have ek2 : (kd == 2) = false := by simpa using hk2
            go_wp2_with fail
            refine (CC1.out X HAX.out).mono ?_
            rintro e w4 h4
            obtain ⟨u1, u2, rfl⟩ := h4.res
            have H4 := Lib.hid h4
            clear h4 CI1 CR1 CC1
            go_wp2_with fail
            go_ret2
            rw [HD.out]
            simp only [if_neg HCL.out, if_neg hk1, if_neg hk2]
            exact H4.out.from HAX.out
end Go.Proofs.Ytiadkchlkdaceaa

namespace Go.Proofs.Ytiadkchlkdaceaa
open Go.RowKit Go.Deep
set_option maxRecDepth 100000
set_option linter.unusedVariables false
/-- shelves of our own -/
structure ShsIn (w : World) (B : Nat) (hl : Hd) (L : List OShf) : Prop where
  lst : w.ownsRow B 70 1 hl.v L.length (L.flatMap ptrC)
  each : ∀ y ∈ L, ShfIn w B y
  nd : (hl.blk ++ L.flatMap OShf.blks).Nodup
section
variable {w w' : World} {B s : Nat} {hl : Hd} {L : List OShf}
theorem ShsIn.lt (h : ShsIn w B hl L) : ∀ g ∈ hl.blk ++ L.flatMap OShf.blks, B ≤ g ∧ g < w.heap.size := fun g hg => by
  rcases List.mem_append.1 hg with hg | hg
  · exact blk_lt h.lst g hg
  · obtain ⟨y, hy, hg⟩ := List.mem_flatMap.1 hg
    exact (h.each y hy).lt g hg
theorem ShsIn.kb {P : Nat → Prop} (h : ShsIn w B hl L) (k : Kb P w w') (hne : ∀ g ∈ hl.blk ++ L.flatMap OShf.blks, ¬ P g) : ShsIn w' B hl L :=
  ⟨own_kb h.lst k fun g hg => hne g (List.mem_append.2 (.inl (Hd.mem_blk.2 hg))), fun y hy => (h.each y hy).kb k fun g hg => hne g (List.mem_append.2 (.inr (List.mem_flatMap.2 ⟨y, hy, hg⟩))), h.nd⟩
theorem ShsIn.aft (h : ShsIn w B hl L) (a : Aft w w') : ShsIn w' B hl L := h.kb (P := fun _ => False) (Kb.of_aft a) fun _ _ h => h
theorem ShsIn.nil (w : World) (B : Nat) : ShsIn w B ⟨none, 0, 0⟩ [] := ⟨own_nil _ _ _ _, (fun y h => by cases h), (by simp [blk_nil])⟩
theorem RowsIn.down {B2 : Nat} {h : Hd} {l : List ORow} (r : RowsIn w B h l) (hB : B2 ≤ B) : RowsIn w B2 h l := ⟨own_down r.own hB, fun o ho => own_down (r.each o ho) hB⟩
theorem ShfIn.down {B2 : Nat} {y : OShf} (h : ShfIn w B y) (hB : B2 ≤ B) : ShfIn w B2 y := ⟨Nat.le_trans hB h.ge, h.blk, h.row, h.tab.down hB, h.rows.down hB⟩
/-- one shelf more -/
theorem ShsIn.push {wr w4 w5 : World} {h : Hd} {y : OShf} {A' : Option Addr} {n cap' : Nat} {ob : Obj} (r : ShsIn wr B h L) (a4 : Aft wr w4) (hy : ShfIn w4 wr.heap.size y) (ny : y.blks.Nodup) (hB : B ≤ wr.heap.size) (hn : n = L.length + 1)
    (hg : (w4.alloc ob).grownBy w5 h.v.ownBlock) (hown : w5.ownsRow B 70 1 (.slice A' n cap') n (L.flatMap ptrC ++ ptrC y)) (hblk : ∀ g ∈ (Hd.mk A' n cap').blk, h.v.ownBlock = some g ∨ w4.heap.size + 1 ≤ g) :
    ShsIn w5 B ⟨A', n, cap'⟩ (L ++ [y]) := by
  have k := Kb.of_grown hg
  have hlt := r.lt
  have hnd := List.nodup_append.1 r.nd
  have hz := a4.size
  have hol := hy.lt
  refine ⟨?_, fun x hx => ?_, ?_⟩
  · have e : (L ++ [y]).length = n := by simp [hn]
    rw [e]
    simpa [List.flatMap_append, Hd.v] using hown
  · rcases List.mem_append.1 hx with hx | hx
    · refine ((r.each x hx).aft (a4.alloc ob)).kb k fun g hg2 e => ?_
      exact hnd.2.2 g (Hd.mem_blk.2 e) g (List.mem_flatMap.2 ⟨x, hx, hg2⟩) rfl
    · rw [List.mem_singleton] at hx
      subst hx
      refine ((hy.aft ((Aft.refl w4).alloc ob)).kb k fun g hg2 e => ?_).down hB
      have h1 := (hlt g (List.mem_append.2 (.inl (Hd.mem_blk.2 e)))).2
      have h2 := (hol g hg2).1
      omega
  · rw [List.flatMap_append, List.flatMap_cons, List.flatMap_nil, List.append_nil]
    have n2 : (L.flatMap OShf.blks ++ y.blks).Nodup := nodup_more (N := wr.heap.size) hnd.2.1 ny (fun g hg => (hlt g (List.mem_append.2 (.inr hg))).2) (fun g hg => (hol g hg).1)
    refine List.nodup_append.2 ⟨blk_nodup _, n2, fun a ha b hb e => ?_⟩
    subst e
    rcases hblk a ha with h1 | h1
    · have h2 := hlt a (List.mem_append.2 (.inl (Hd.mem_blk.2 h1)))
      rcases List.mem_append.1 hb with hb | hb
      · exact hnd.2.2 a (Hd.mem_blk.2 h1) a hb rfl
      · have := (hol a hb).1; omega
    · rcases List.mem_append.1 hb with hb | hb
      · have := (hlt a (List.mem_append.2 (.inr hb))).2; omega
      · have := (hol a hb).2; omega
/-- one row more on a shelf of our own -/
theorem ShfIn.push {wr w4 w5 : World} {y : OShf} {o : ORow} {A' : Option Addr} {n cap' : Nat} {ob : Obj} (r : ShfIn wr B y) (ny : y.blks.Nodup) (a4 : Aft wr w4) (ho : w4.ownsRow wr.heap.size 44 3 o.h.v o.vals.length (o.vals.flatMap cellsV)) (hB : B ≤ wr.heap.size) (hn : n = y.rows.length + 1)
    (hg : (w4.alloc ob).grownBy w5 y.hr.v.ownBlock) (hown : w5.ownsRow B 41 1 (.slice A' n cap') n (y.rows.flatMap ORow.cells ++ [o.h.v])) (hblk : ∀ g ∈ (Hd.mk A' n cap').blk, y.hr.v.ownBlock = some g ∨ w4.heap.size + 1 ≤ g) :
    ShfIn (w5.setCell ⟨y.p, 5, none⟩ (.slice A' n cap')) B ⟨y.p, y.x, y.rows ++ [o], ⟨A', n, cap'⟩⟩ ∧ (OShf.blks ⟨y.p, y.x, y.rows ++ [o], ⟨A', n, cap'⟩⟩).Nodup := by
  have k := Kb.of_grown hg
  have hz := a4.size
  have hlt := r.lt
  have hol := blk_lt ho
  have n1 := ny
  unfold OShf.blks OShf.rblk at n1
  obtain ⟨n2, n3⟩ := List.nodup_cons.1 n1
  obtain ⟨n4, n5, n6⟩ := List.nodup_append.1 n3
  obtain ⟨p1, p2⟩ := rows_push (o := o) r.rows n5 a4 ho hB hg hn hown hblk
  have hnew : ∀ g ∈ (Hd.mk A' n cap').blk ++ (y.rows ++ [o]).flatMap (·.h.blk), g ∈ y.rblk ∨ wr.heap.size ≤ g := fun g hg => by
    rw [List.flatMap_append, List.flatMap_cons, List.flatMap_nil, List.append_nil] at hg
    unfold OShf.rblk
    simp only [List.mem_append] at hg
    rcases hg with h | h | h
    · rcases hblk g h with h | h
      · exact .inl (List.mem_append.2 (.inl (Hd.mem_blk.2 h)))
      · exact .inr (by omega)
    · exact .inl (List.mem_append.2 (.inr h))
    · exact .inr (hol g h).1
  have ltp : y.p < wr.heap.size := r.row.1
  have nep : ∀ g ∈ (Hd.mk A' n cap').blk ++ (y.rows ++ [o]).flatMap (·.h.blk), g ≠ y.p := fun g hg e => by
    rcases hnew g hg with h | h
    · subst e; exact n2 (List.mem_append.2 (.inr h))
    · omega
  have npb : ¬ y.hr.v.ownBlock = some y.p := fun e => n2 (List.mem_append.2 (.inr (List.mem_append.2 (.inl (Hd.mem_blk.2 e)))))
  have kA : Kb (fun g => y.hr.v.ownBlock = some g) wr w5 := (Kb.of_aft (a4.alloc ob)).trans k
  have kS : Kb (fun g => g = y.p) w5 (w5.setCell ⟨y.p, 5, none⟩ (.slice A' n cap')) := Kb.set _ _ _ _
  have hc5 : y.cells.length = 6 := by unfold OShf.cells OTab.cells; rfl
  refine ⟨⟨r.ge, ?_, ?_, (r.tab.kb kA fun g hg e => ?_).kb kS fun g hg e => ?_, p1.kb kS fun g hg e => nep g hg e⟩, ?_⟩
  · obtain ⟨cur, t, e⟩ := r.blk
    exact ⟨_, _, setCell_heap_same w5 y.p 5 _ ((kA.block y.p ltp npb).trans e)⟩
  · have h1 := (kA.row r.row npb).set 5 (.slice A' n cap') (by rw [hc5]; omega)
    exact h1
  · exact n6 g hg g (List.mem_append.2 (.inl (Hd.mem_blk.2 e))) rfl
  · have e : g = y.p := e
    subst e; exact n2 (List.mem_append.2 (.inl hg))
  · unfold OShf.blks OShf.rblk
    refine List.nodup_cons.2 ⟨fun h => ?_, List.nodup_append.2 ⟨n4, p2, fun a ha b hb e => ?_⟩⟩
    · rcases List.mem_append.1 h with h | h
      · exact n2 (List.mem_append.2 (.inl h))
      · exact nep _ h rfl
    · subst e
      rcases hnew a hb with h | h
      · exact n6 a ha a h rfl
      · have := (hlt a (by unfold OShf.blks; simp [ha])).2
        omega
end
end Go.Proofs.Ytiadkchlkdaceaa

namespace Go.Proofs.Ytiadkchlkdaceaa
open Go.RowKit
section
variable {P : Program} {ops : Array Oper} {Q : Exit → Act → World → Prop} {T : World → Prop} {m : Nat}
def readM (o : Oper) : Bool := readB o || (o.guard.isNone && match o.op with | .extract .. => true | _ => false)
theorem readM_guard {o : Oper} (h : readM o = true) : o.guard = none := by
  unfold readM at h
  rw [Bool.or_eq_true] at h
  rcases h with h | h
  · unfold readB at h; simp only [Bool.and_eq_true, Option.isNone_iff_eq_none] at h; exact h.1
  · simp only [Bool.and_eq_true, Option.isNone_iff_eq_none] at h; exact h.1
theorem readM_value {o : Oper} {ev : Operand → Value} {w w' : World} {n : Next} (h : readM o = true) (hr : (execOp ev o).run P w = .ok n w') : ∃ v, n = .value v := by
  unfold readM at h
  rw [Bool.or_eq_true] at h
  rcases h with h | h
  · exact read_value h hr
  · simp only [Bool.and_eq_true] at h
    obtain ⟨_, h⟩ := h
    unfold execOp at hr
    cases ho : o.op <;> rw [ho] at h hr <;> simp only [Bool.false_eq_true] at h
    simp only [Sem.run_bind, Sem.run_pure] at hr
    first
      | (simp only [Result.ok.injEq] at hr; exact ⟨_, hr.1.symm⟩)
      | (generalize Sem.run P _ w = r at hr; cases r <;> simp [Result.andThen] at hr; exact ⟨_, hr.1.symm⟩)
      | (split at hr <;> first | (simp only [Sem.run_pure, Result.ok.injEq] at hr; exact ⟨_, hr.1.symm⟩) | (simp [unsupported] at hr))
theorem readM_yields {o : Oper} {v : Value} {a : Act} (hb : readM o = true) (h : ∀ w, T w → o.quietAt P a T w v) : YieldsIf P ops T o v a := by
  have hg := readM_guard hb
  refine .inl ⟨by simp [Region.wanted, hg], fun w hw => ?_⟩
  have h1 := h w hw
  unfold Oper.quietAt at h1
  cases hr : (execOp a.eval o).run P w with
  | ok n w' =>
    obtain ⟨u, rfl⟩ := readM_value hb hr
    rw [hr] at h1
    simp only [Oper.quietUpon] at h1
    rw [h1.1, h1.2]
  | halt x w' =>
    rw [hr] at h1
    simp only [Oper.quietUpon] at h1
/-- what is asked, in the order of the text: of a read its value in any world of the class, of another operation its own rule -/
def wpMix (P : Program) (ops : Array Oper) (Q : Exit → Act → World → Prop) (T : World → Prop) (m : Nat) (rd : List Bool) : Nat → List Oper → Act → World → Prop
  | _, [], a, w => Q .normal a w
  | k, o :: r, a, w => if rd.getD k false then ∃ v, (∀ w, T w → o.quietAt P a T w v) ∧ wpMix P ops Q T m rd (k + 1) r (a.put o.dst v) w
    else o.wp P a w (fun a' w' => (k < m → T w') ∧ wpMix P ops Q T m rd (k + 1) r a' w') Q ∨ (o.asks P a w ∧ LetsOut Q)
theorem wpMix_read {rd : List Bool} {k : Nat} {o : Oper} {r : List Oper} {a : Act} {w : World} (v : Value) (h : rd.getD k false = true) (hq : ∀ w, T w → o.quietAt P a T w v) (hn : wpMix P ops Q T m rd (k + 1) r (a.put o.dst v) w) : wpMix P ops Q T m rd k (o :: r) a w := by
  unfold wpMix; rw [if_pos h]; exact ⟨v, hq, hn⟩
theorem wpMix_step {rd : List Bool} {k : Nat} {o : Oper} {r : List Oper} {a : Act} {w : World} (h : rd.getD k false = false) (hs : ∀ K : Act → World → Prop, (∀ a' w', (k < m → T w') → wpMix P ops Q T m rd (k + 1) r a' w' → K a' w') → o.wp P a w K Q) : wpMix P ops Q T m rd k (o :: r) a w := by
  unfold wpMix; rw [if_neg (by rw [h]; simp)]; exact .inl (hs _ fun _ _ h1 h2 => ⟨h1, h2⟩)
/-- a stretch of reads -/
theorem wpMix_reads {rd : List Bool} {w : World} : ∀ (n : Nat) {k : Nat} {l : List Oper} {a : Act}, ((List.range n).all fun j => rd.getD (k + j) false) = true → ((l.take n).all fun o => o.guard.isNone) = true → wpQuiet P ops T (fun a' => wpMix P ops Q T m rd (k + n) (l.drop n) a' w) (l.take n) a → wpMix P ops Q T m rd k l a w
  | 0, k, l, a, _, _, h => by simpa [wpQuiet] using h
  | n + 1, k, [], a, _, _, h => by simpa [wpQuiet, wpMix] using h
  | n + 1, k, o :: r, a, hr, hg, h => by
    simp only [List.take_succ_cons, List.all_cons, Bool.and_eq_true, Option.isNone_iff_eq_none] at hg
    rw [List.take_succ_cons, List.drop_succ_cons] at h
    unfold wpQuiet at h
    rw [if_pos (by simp [Region.wanted, hg.1])] at h
    obtain ⟨v, hv, hn⟩ := h
    simp only [List.all_eq_true, List.mem_range] at hr
    refine wpMix_read v (hr 0 (by omega)) hv (wpMix_reads n (k := k + 1) ?_ hg.2 ?_)
    · simp only [List.all_eq_true, List.mem_range]
      intro j hj
      have := hr (j + 1) (by omega)
      rwa [show k + (j + 1) = k + 1 + j by omega] at this
    · rwa [show k + (n + 1) = k + 1 + n by omega] at hn
def mixB (ops : Array Oper) (rd : List Bool) (m : Nat) : Bool :=
  Region.noSelect ops && decide (m < ops.size) &&
  (List.range ops.size).all (fun k => match ops[k]? with
    | none => false
    | some o => if rd.getD k false then decide (k < m) && readM o && o.after.all (fun e => !Region.binds .any e || decide (e.on < k)) && Region.free .any ops (lk ops.size k) k && (match ops[m]? with | some om => om.after.any (fun e => Region.binds .any e && e.on == k) | none => false)
      else o.guard.isNone && (Region.ready .any ops (lk ops.size k) == [k])) && (Region.ready .any ops (lk ops.size ops.size) == [])
theorem mix_any {rd : List Bool} (hB : mixB ops rd m = true) (hQ : ∀ c a d v w, Q (.panic c) (Act.put a d v) w → Q (.panic c) a w) :
    ∀ (l : List Oper) (k : Nat) (a : Act) (w : World), (k ≤ m → T w) → k + l.length = ops.size → (∀ j (hj : j < l.length), ops[k + j]? = some l[j]) → wpMix P ops Q T m rd k l a w → wpAnyS P .any ops Q T m l.length (lk ops.size k) a w
  | [], k, a, w, _, hl, _, h => by
    have e : k = ops.size := by simpa using hl
    subst e
    unfold mixB at hB
    simp only [Bool.and_eq_true, beq_iff_eq] at hB
    exact ⟨hB.2, h⟩
  | o :: r, k, a, w, hT, hl, ho, h => by
    have hB2 := hB
    unfold mixB at hB2
    simp only [Bool.and_eq_true, decide_eq_true_eq, List.all_eq_true, List.mem_range, beq_iff_eq] at hB2
    obtain ⟨⟨⟨hsel, hms⟩, hall⟩, hz⟩ := hB2
    simp only [List.length_cons] at hl
    have hks : k < ops.size := by omega
    have h0 := ho 0 (by simp)
    simp only [Nat.add_zero, List.getElem_cons_zero] at h0
    have hk := hall k hks
    rw [h0] at hk
    simp only at hk
    have hto : ∀ j (hj : j < r.length), ops[k + 1 + j]? = some r[j] := fun j hj => by have := ho (j + 1) (by simpa using hj); simpa [Nat.add_assoc, Nat.add_comm 1 j] using this
    unfold wpMix at h
    by_cases hrd : rd.getD k false = true
    · rw [if_pos hrd] at h hk
      obtain ⟨v, hv, hn⟩ := h
      simp only [Bool.and_eq_true, decide_eq_true_eq] at hk
      obtain ⟨⟨⟨⟨hkm, hb⟩, h2⟩, hf⟩, h4⟩ := hk
      have hTw := hT (by omega)
      refine wpAnyS_first h0 (Region.noSelect_spec hsel) (fun c a w h => hQ c a _ _ w h) (by omega) (fun om hom => ?_) _ _ a w (Region.free_spec h0 hf) ?_ (readM_yields hb hv) hTw (by rw [lk_get hms]; simp; omega) ?_
      · rw [hom] at h4
        simp only at h4
        obtain ⟨e, he, hb⟩ := Array.any_eq_true'.1 h4
        simp only [Bool.and_eq_true, beq_iff_eq] at hb
        exact ⟨e, he, hb.1, hb.2⟩
      · rw [mem_ready]
        refine ⟨by rw [lk_get hks]; simp, o, h0, fun e hem hbd => ?_⟩
        have := Array.all_eq_true_iff_forall_mem.1 h2 e hem
        simp [hbd] at this
        rw [lk_get (by omega)]
        simpa using this
      · rw [lk_set hks]
        exact mix_any hB hQ r (k + 1) _ w (fun _ => hTw) (by omega) hto hn
    · rw [if_neg hrd] at h hk
      simp only [Bool.and_eq_true, Option.isNone_iff_eq_none, beq_iff_eq] at hk
      obtain ⟨hg, hr⟩ := hk
      refine ⟨fun e => absurd (hr.symm.trans e) (by simp), fun i hi => ?_⟩
      rw [hr, List.mem_singleton] at hi
      subst hi
      unfold wpOp
      simp only [h0]
      rw [if_pos (by simp [Region.wanted, hg])]
      rcases h with h | h
      case inr => exact .inr h
      refine .inl (Oper.wp_mono (fun a' w' h' => ?_) h)
      refine ⟨fun hm => h'.1 ?_, ?_⟩
      · rw [lk_set hks, lk_get hms] at hm
        simp at hm; omega
      · rw [lk_set hks]
        exact mix_any hB hQ r (i + 1) a' w' (fun hm => h'.1 (by omega)) (by omega) hto h'.2
theorem wp_region_mix {id : Nat} {a : Act} {w : World} {l : List Oper} (rd : List Bool) (m : Nat) (T : World → Prop) (hm : P.follows .mixedOrders = true) (hB : mixB l.toArray rd m = true) (hT : T w.drew)
    (h : wpMix P l.toArray (NoPanic Q) T m rd 0 l a w.drew) : (Code.region id l.toArray true).wp P Q a w := by
  refine wp_region_noPanic ?_
  refine wp_region_any hm (wpAny_of_S (T := T) (m := m) _ _ _ _ ?_)
  rw [← lk_zero]
  have key := mix_any hB (fun _ _ _ _ _ h => h) l 0 a w.drew (fun _ => hT) (by simp) (fun j hj => by simp at hj ⊢) h
  simpa using key
end
end Go.Proofs.Ytiadkchlkdaceaa

namespace Go.Proofs.Ytiadkchlkdaceaa
open Go.RowKit Go.Deep
set_option maxRecDepth 100000
set_option linter.unusedVariables false
theorem info2Shp : (Try.prog.info? 70).map (fun i => (i.zero, i.size, i.bytes)) = some (some (.pointer none), 1, 8) := by kernel_rfl
theorem good_own {o : Objs} (h : Good o) {k : Nat} (hk : k < o.tables.length) : tabAt o.tables o.tables[k].schema o.tables[k].name = k := by
  refine idxP_some _ _ k hk (by simp only [Bool.and_eq_true]; exact ⟨eqS_refl _, eqS_refl _⟩) fun i hi => ?_
  rw [Bool.eq_false_iff]
  intro e
  simp only [Bool.and_eq_true] at e
  have h1 := rises_lt preTb.tr h.rt i k (by omega) hk hi
  have h2 : cmpTb (o.tables[i]'(by omega)) o.tables[k] = 0 := cmpTb_zero.2 ⟨(eqS_iff9 _ _).1 e.1, (eqS_iff9 _ _).1 e.2⟩
  omega
/-- what a load leaves -/
def LoadQ (w : World) (B s : Nat) (hl : Hd) (L : List OShf) (r : List Shf × Int) (e : Ending) (w' : World) : Prop :=
  ∃ hl' L', storeS L' = r.1 ∧ e = .returned (.int .i64 r.2) ∧ Kb (fun g => g = s) w w' ∧ StoIn w' B s hl' L' ∧ ∀ g ∈ hl'.blk ++ L'.flatMap OShf.blks, g ∈ stoBlks s hl L ∨ w.heap.size ≤ g
theorem loadQ_no {w w' : World} {B s : Nat} {hl : Hd} {L : List OShf} (hin : StoIn w B s hl L) (a : Aft w w') (c : Int) : LoadQ w B s hl L (storeS L, c) (.returned (.int .i64 c)) w' :=
  ⟨hl, L, rfl, rfl, Kb.of_aft a, hin.aft a, fun g hg => .inl (List.mem_cons_of_mem _ hg)⟩
theorem loadQ_yes {w w' : World} {B s : Nat} {hl h : Hd} {L Ln : List OShf} {S : List Shf} (hin : StoIn w' B s h Ln) (e : Ln.map OShf.s = S) (k : Kb (fun g => g = s) w w') (hb : ∀ g ∈ h.blk ++ Ln.flatMap OShf.blks, g ∈ stoBlks s hl L ∨ w.heap.size ≤ g) : LoadQ w B s hl L (S, 0) (.returned (.int .i64 0)) w' :=
  ⟨h, Ln, e, rfl, k, hin, hb⟩
set_option maxHeartbeats 8000000 in
theorem load12 (B s : Nat) (hl : Hd) (L : List OShf) (ss : List Sch) (o : Objs) (As : Option Addr) (caps : Nat) (At : Option Addr) (capt : Nat) (w : World) (hin : StoIn w B s hl L) (ok : SOk (storeS L) ss) (sm : ∀ y ∈ L, SmT y.x.t) (hsch : SlAt w 2 SchR As caps o.schemas) (htab : SlAt w 5 TabR At capt o.tables) :
    Calls Try.prog 7 #[.pointer (some ⟨s, 0, none⟩), .agg #[.slice As o.schemas.length caps, .slice At o.tables.length capt]] w (LoadQ w B s hl L (loadS (storeS L) o)) := by
  obtain ⟨i0, hi, hz0, hz1, hz2⟩ := info_parts info2Shp
  obtain ⟨i1, hj, hy0, hy1, hy2⟩ := info_parts info2Row
  have HI := Lib.hid hi
  have HZ0 := Lib.hid hz0
  have HZ1 := Lib.hid hz1
  have HZ2 := Lib.hid hz2
  have HJ := Lib.hid hj
  have HY0 := Lib.hid hy0
  have HY1 := Lib.hid hy1
  have HY2 := Lib.hid hy2
  clear hi hz0 hz1 hz2 hj hy0 hy1 hy2
  obtain ⟨D, hD⟩ : ∃ D, loadS (storeS L) o = D := ⟨_, rfl⟩
  have HD := Lib.hid (show D = if checkO o then (o.tables.map (turnS (storeS L)), 0) else (storeS L, 63) from hD.symm)
  rw [hD]
  clear hD
  have HSM := Lib.hid (sm_tabs htab)
  have CK := Lib.hid (show ∀ V, Aft w V → Calls Try.prog 13 #[.agg #[.slice As o.schemas.length caps, .slice At o.tables.length capt]] V fun e w' => e = .returned (.int .i64 (checkE o)) ∧ Aft V w' from fun V a => check_any o As caps At capt V (schs_aft a hsch) (tabs_aft a htab))
  have CF := Lib.hid (show ∀ V, Aft w V → ∀ sc n, Calls Try.prog 15 #[.pointer (some ⟨s, 0, none⟩), .string sc, .string n] V fun e w' => e = .returned (ptrV (L.map (·.p)) (shfAt (storeS L) sc n)) ∧ V = w' from fun V a sc n => find12 s (L.map (·.p)) (storeS L) sc n V ((hin.aft a).is ok sm))
  have CO := Lib.hid (show ∀ V, Aft w V → ∀ sc n, Calls Try.prog 14 #[.agg #[.slice As o.schemas.length caps, .slice At o.tables.length capt], .string sc, .string n] V (FindP V (findR o sc n)) from fun V a sc n => find_in o As caps At capt sc n V (schs_aft a hsch) (tabs_aft a htab))
  have PA := Lib.hid (show ∀ y ∈ L, Parted w y from fun y hy => parted hin ok sm hy)
  have HIN := Lib.hid hin
  have HOK := Lib.hid ok
  have HT := Lib.hid htab
  have hlen2 := htab.len
  obtain ⟨W, hW⟩ : ∃ W, W = w.alloc (.cells #[.slice As o.schemas.length caps, .slice At o.tables.length capt] 25) := ⟨_, rfl⟩
  have aW : Aft w W := by rw [hW]; exact (Aft.refl w).alloc _
  have rW : RowAt W w.heap.size [.slice As o.schemas.length caps, .slice At o.tables.length capt] := by rw [hW]; exact box_row2 (Aft.refl _)
  have HAW := Lib.hid aW
  have KF := Lib.hid (show ∀ V, Aft W V → (V.cell? ⟨w.heap.size, 0, none⟩ = some (.slice As o.schemas.length caps) ∧ V.cell? ⟨w.heap.size, 1, none⟩ = some (.slice At o.tables.length capt) ∧ w.heap.size < V.heap.size) from fun V a => by
    have r := rW.aft a
    exact ⟨r.cell (j := 0) rfl, r.cell (j := 1) rfl, r.1⟩)
  obtain ⟨q0, q1, qz⟩ := KF.out W (Aft.refl W)
  clear aW rW hin ok sm hsch htab
  go_enter Try.func7, Try.ntmps7
  go_wp2_with fail
  rw [← hW]
  clear hW
  go_wp2_with fail
  refine (CK.out W HAW.out).mono ?_
  rintro e X ⟨rfl, aX⟩
  have HAX := Lib.hid (HAW.out.trans aX)
  have HWX := Lib.hid aX
  clear q0 q1 qz CK
  obtain ⟨q0, q1, qz⟩ := KF.out X aX
  clear aX
  by_cases hck : checkO o = true
  · rw [show checkE o = 0 by unfold checkE; rw [if_pos hck]]
    have HG := Lib.hid ((good_iff o).1 hck)
    have HCK := Lib.hid hck
    have HDD := Lib.hid (show D = (o.tables.map (turnS (storeS L)), 0) from HD.out.trans (if_pos hck))
    clear hck
    have hnt := HG.out.nt
    go_wp2_with fail
    go_loopw [6, 27] (fun v i wr => ∃ (k : Nat) (h : Hd) (Ln : List OShf), k ≤ o.tables.length ∧ i = .int .i64 k ∧ v = .slice h.a k h.c ∧ Ln.map OShf.s = (o.tables.take k).map (turnS (storeS L)) ∧ Aft X wr ∧ ShsIn wr X.heap.size h Ln) (fun _ i _ => o.tables.length - (intOf i).toNat)
    case atStart => exact ⟨0, ⟨none, 0, 0⟩, [], Nat.zero_le _, rfl, rfl, rfl, Aft.refl _, ShsIn.nil _ _⟩
    case round =>
      obtain ⟨k, h, Ln, hk, rfl, rfl, hLn, ha, hsn⟩ := hrel
      have HA := Lib.hid ha
      have HSN := Lib.hid hsn
      have HLN := Lib.hid hLn
      have HLL := Lib.hid (show Ln.length = k by have := congrArg List.length hLn; simpa [Nat.min_eq_left hk] using this)
      clear ha hsn hLn q0 q1 qz
      by_cases hlt : k < o.tables.length
      · obtain ⟨b, off, A2, cap2, A3, cap3, rfl, hb, t0, t1, t2, t3, t4, hcols, hruls, hss⟩ := tab_at (tabs_aft (HAX.out.trans HA.out) HT.out) hlt
        have HFR := Lib.hid (findR_some HCK.out (good_own HG.out hlt) hlt)
        have HPM := Lib.hid (show o.tables[k] ∈ o.tables from List.getElem_mem hlt)
        obtain ⟨p, hpp⟩ : ∃ p, o.tables[k] = p := ⟨_, rfl⟩
        rw [hpp] at t0 t1 t2 t3 t4 hcols hruls hss HFR HPM
        have HPP := Lib.hid hpp
        obtain ⟨V0, hV0⟩ : ∃ V0, V0 = wr := ⟨_, rfl⟩
        subst hV0
        obtain ⟨V1, hV1⟩ : ∃ V1, V1 = V0.alloc (.cells #[.string p.schema, .string p.name, .string p.owner, .slice A2 p.cols.length cap2, .slice A3 p.rules.length cap3] 61) := ⟨_, rfl⟩
        have a1 : Aft V0 V1 := by rw [hV1]; exact (Aft.refl _).alloc _
        have r1 : RowAt V1 V0.heap.size [.string p.schema, .string p.name, .string p.owner, .slice A2 p.cols.length cap2, .slice A3 p.rules.length cap3] := by rw [hV1]; exact box_row2 (Aft.refl _)
        have KT := Lib.hid (show ∀ V, Aft V1 V → (V.cell? ⟨V0.heap.size, 0, none⟩ = some (.string p.schema) ∧ V.cell? ⟨V0.heap.size, 1, none⟩ = some (.string p.name) ∧ V0.heap.size < V.heap.size) from fun V a => by
          have r := r1.aft a
          exact ⟨r.cell (j := 0) rfl, r.cell (j := 1) rfl, r.1⟩)
        have HA1 := Lib.hid a1
        have zlt : V0.heap.size < V0.heap.size + 1 := by omega
        have zw : X.heap.size ≤ V0.heap.size := HA.out.size
        obtain ⟨q0, q1, qz⟩ := KF.out V0 (HWX.out.trans HA.out)
        have CO1 := Lib.hid (CO.out V1 (HAX.out.trans (HA.out.trans a1)) p.schema p.name)
        rw [HFR.out] at CO1
        clear a1 r1 hpp hcols hruls hss
        go_wp2_with fail
        rw [← hV1]
        clear hV1
        refine CO1.out.mono ?_
        rintro e V3 ⟨x, hx, rfl, a3, tx, hxn⟩
        dsimp only
        have HA3 := Lib.hid (HA1.out.trans a3)
        have H13 := Lib.hid a3
        have HTX := Lib.hid tx
        have HXN := Lib.hid hxn
        have HX := Lib.hid (show x.t = p from hx)
        obtain ⟨u0, u1, uz⟩ := KT.out V3 a3
        clear q0 q1 qz t0 t1 t2 t3 t4 hb a3 tx hxn hx CO1
        go_wp2_with fail
        obtain ⟨V4, hV4⟩ : ∃ V4, V4 = V3.alloc (.cells #[.string p.schema, .string p.name, .string p.owner, .slice x.hc.a p.cols.length x.hc.c, .slice x.hr.a p.rules.length x.hr.c] 61) := ⟨_, rfl⟩
        have z4 : V4.heap.size = V3.heap.size + 1 := by rw [hV4]; simp
        have a4 : Aft V3 V4 := by rw [hV4]; exact (Aft.refl _).alloc _
        have r4 : RowAt V4 V3.heap.size [.string p.schema, .string p.name, .string p.owner, .slice x.hc.a p.cols.length x.hc.c, .slice x.hr.a p.rules.length x.hr.c] := by rw [hV4]; exact box_row2 (Aft.refl _)
        obtain ⟨V5, hV5⟩ : ∃ V5, V5 = V4.alloc (.cells #[.string p.schema, .string p.name, .string p.owner, .slice x.hc.a p.cols.length x.hc.c, .slice x.hr.a p.rules.length x.hr.c, .slice none 0 0] 72) := ⟨_, rfl⟩
        have a5 : Aft V4 V5 := by rw [hV5]; exact (Aft.refl _).alloc _
        have r5 : RowAt V5 V4.heap.size [.string p.schema, .string p.name, .string p.owner, .slice x.hc.a p.cols.length x.hc.c, .slice x.hr.a p.rules.length x.hr.c, .slice none 0 0] := by rw [hV5]; exact box_row2 (Aft.refl _)
        have b5 : V5.heap[V4.heap.size]? = some (.cells #[.string p.schema, .string p.name, .string p.owner, .slice x.hc.a p.cols.length x.hc.c, .slice x.hr.a p.rules.length x.hr.c, .slice none 0 0] 72 (0, 0)) := by rw [hV5]; exact heap_alloc_new V4 _
        have zV3 := H13.out.size
        have zV1 := HA1.out.size
        have HR4 := Lib.hid r4
        have H45 := Lib.hid a5
        have HA4 := Lib.hid (HA3.out.trans a4)
        have HA5 := Lib.hid (HA3.out.trans (a4.trans a5))
        have HV4 := Lib.hid z4
        have hsh : ShfIn V5 V0.heap.size ⟨V3.heap.size + 1, x, [], ⟨none, 0, 0⟩⟩ := by
          refine ⟨by show V0.heap.size ≤ V3.heap.size + 1; omega, ⟨_, _, by rw [← z4]; exact b5⟩, ?_, (HTX.out.aft (a4.trans a5)).down zV1, rowsIn_nil _ _⟩
          have e := r5
          rw [z4] at e
          unfold OShf.cells
          rw [OTab.cells_of HTX.out HX.out]
          exact e
        have hsn5 : (OShf.blks ⟨V3.heap.size + 1, x, [], ⟨none, 0, 0⟩⟩).Nodup := by
          unfold OShf.blks OShf.rblk
          rw [blk_nil, List.flatMap_nil, List.append_nil, List.append_nil]
          exact List.nodup_cons.2 ⟨fun h => by have h2 : V3.heap.size + 1 < V3.heap.size := (HTX.out.lt _ h).2; omega, HXN.out⟩
        have HSH := Lib.hid hsh
        have HSN5 := Lib.hid hsn5
        have CF5 := Lib.hid (CF.out V5 (HAX.out.trans (HA.out.trans HA5.out)) p.schema p.name)
        rw [← hV4, ← hV5]
        clear hV4 hV5 a4 a5 r4 r5 b5 z4 hsh hsn5 u0 u1 uz
        refine CF5.out.mono ?_
        rintro e V6 ⟨rfl, rfl⟩
        clear CF5
        obtain ⟨j, hj⟩ : ∃ j, shfAt (storeS L) p.schema p.name = j := ⟨_, rfl⟩
        rw [hj]
        have hjr : -1 ≤ j ∧ j < L.length := by
          have := idxP_range (fun y : Shf => eqS y.t.schema p.schema && eqS y.t.name p.name) (storeS L)
          rw [← hj]
          unfold shfAt
          simpa [storeS] using this
        by_cases hj0 : j < 0
        · have ej : j = -1 := by omega
          subst ej
          have HTS := Lib.hid (show OShf.s ⟨V3.heap.size + 1, x, [], ⟨none, 0, 0⟩⟩ = turnS (storeS L) p by unfold OShf.s turnS; rw [hj, if_pos hj0]; show Shf.mk x.t _ = _; rw [HX.out]; rfl)
          rw [ptrV_no]
          clear hj hjr hj0
          go_wp2_with (at_builtin; refine wpList_append_own2 _ rfl (.tmp 83) (.tmp 85) 65 rfl X.heap.size 70 i0 (.pointer none) 1 8 Try.underlying65 HI.out HZ0.out HZ1.out HZ2.out rfl (by decide) (.slice h.a k h.c) k (Ln.flatMap ptrC) rfl ?c6 (some ⟨V5.heap.size, 0, none⟩) 1 1 [.pointer (some ⟨V3.heap.size + 1, 0, none⟩)] rfl rfl ?c0 ?c1 ?c2 ?c3 ?c4 ?c5 ?_)
          case c6 =>
            have := own_aft HSN.out.lst (HA5.out.alloc (.cells #[.pointer (some ⟨V3.heap.size + 1, 0, none⟩)] 70))
            rw [own_slice HSN.out.lst, HLL.out] at this
            exact this
          case c0 => intro h; cases h
          case c1 =>
            intro ad had j u hj
            injection had with had; subst had
            rw [add_mk, Nat.zero_add]; exact (World.cell?_alloc_at _ _ _ _ rfl).trans (by simpa using hj)
          case c2 => intro u hu; simp only [List.mem_cons, List.not_mem_nil, or_false] at hu; subst hu; simp [Value.oneCell']
          case c3 => unfold maxLen; omega
          case c4 => omega
          case c5 => have := HA5.out.size; simp; omega
          intro A' cap' w5 hown' hgrow hblk
          have e0 : h.v = .slice h.a k h.c := by rw [own_slice HSN.out.lst, HLL.out]
          have HP := Lib.hid (show ShsIn w5 X.heap.size ⟨A', k + 1, cap'⟩ (Ln ++ [(⟨V3.heap.size + 1, x, [], ⟨none, 0, 0⟩⟩ : OShf)]) from HSN.out.push (ob := .cells #[.pointer (some ⟨V3.heap.size + 1, 0, none⟩)] 70) HA5.out HSH.out HSN5.out zw (by rw [HLL.out]) (by rw [e0]; exact hgrow) hown' (by rw [e0]; intro g hg; simpa using hblk g hg))
          have HA5 := Lib.hid (show Aft X w5 from aft_grown (by rw [← e0]; exact own_aft HSN.out.lst (HA5.out.alloc _)) ((HA.out.trans HA5.out).alloc _) hgrow)
          have HT2 := Lib.hid (show (Ln ++ [(⟨V3.heap.size + 1, x, [], ⟨none, 0, 0⟩⟩ : OShf)]).map OShf.s = (o.tables.take (k + 1)).map (turnS (storeS L)) by rw [List.map_append, HLN.out, List.take_succ_eq_append_getElem hlt, List.map_append, HPP.out, List.map_cons, List.map_nil, List.map_cons, List.map_nil, HTS.out])
          clear hown' hgrow hblk e0
          go_wp2_with fail
          go_roundw
          case rel => exact ⟨k + 1, ⟨A', k + 1, cap'⟩, _, by omega, by go_num, rfl, HT2.out, HA5.out, HP.out⟩
          case measure => simp [intOf]; omega
        · obtain ⟨q, rfl⟩ : ∃ q : Nat, j = q := ⟨j.toNat, by omega⟩
          have hq : q < L.length := by omega
          have hsq : shfN (storeS L) q = L[q].s := by rw [shfN_get (by simpa [storeS] using hq)]; simp [storeS]
          have PY := PA.out L[q] (List.getElem_mem hq)
          have hyok := HOK.out.tab (x := L[q].s) (List.mem_map_of_mem (List.getElem_mem hq))
          rw [ptrV_at (by simpa using hq), List.getElem_map]
          obtain ⟨y, hy⟩ : ∃ y, L[q] = y := ⟨_, rfl⟩
          rw [hy] at hsq PY hyok ⊢
          have HTS := Lib.hid (show turnS (storeS L) p = ⟨p, (y.rows.map (·.vals)).map (turnVs y.x.t.cols p.cols)⟩ by unfold turnS; rw [hj, if_neg hj0, Int.toNat_natCast, hsq]; rfl)
          have HPY := Lib.hid PY
          have HCY := Lib.hid (show colsOk y.x.t.cols = true from hyok.cols)
          have HCP := Lib.hid ((HG.out.tab p HPM.out).cols)
          have HSP := Lib.hid (HSM.out.2 p HPM.out)
          have ry := PY.row.aft (HAX.out.trans (HA.out.trans HA5.out))
          have y5 := ry.cell (j := 5) rfl
          have yz := ry.1
          have hyl := PY.most
          have zwY : y.p < w.heap.size := PY.row.1
          clear hj hjr hj0 hsq hyok hy ry PY
          have HTP := Lib.hid (show ∀ r ∈ y.rows, turnC y.x.t.cols p.cols r.vals = 0 from fun r hr => turnC_0 HCY.out HCP.out (HPY.out.form r hr))
          have hn2 : V3.heap.size < V5.heap.size := (HR4.out.aft H45.out).1
          go_wp2_with fail
          go_loopw [56] (fun i wr => ∃ (k2 : Nat) (R : List ORow) (h2 : Hd), k2 ≤ y.rows.length ∧ i = .int .i64 k2 ∧ (∀ g ∈ h2.blk, V4.heap.size ≤ g) ∧ Aft V4 wr ∧ ShfIn wr V0.heap.size ⟨V3.heap.size + 1, x, R, h2⟩ ∧ (OShf.blks ⟨V3.heap.size + 1, x, R, h2⟩).Nodup ∧ R.map ORow.vals = ((y.rows.take k2).map (·.vals)).map (turnVs y.x.t.cols p.cols)) (fun i _ => y.rows.length - (intOf i).toNat)
          case atStart => exact ⟨0, [], ⟨none, 0, 0⟩, Nat.zero_le _, rfl, by simp [blk_nil], H45.out, HSH.out, HSN5.out, rfl⟩
          case round =>
            obtain ⟨k2, R, h2, hk2, rfl, hb2, ha2, hs2, hn2, hR2⟩ := hrel
            have HBK := Lib.hid hb2
            have HB2 := Lib.hid ha2
            have HS2 := Lib.hid hs2
            have HN2 := Lib.hid hn2
            have HR2 := Lib.hid hR2
            have HL2 := Lib.hid (show R.length = k2 by have := congrArg List.length hR2; simpa [Nat.min_eq_left hk2] using this)
            have HAV := Lib.hid (HA4.out.trans ha2)
            clear hb2 ha2 hs2 hn2 hR2 y5 yz
            by_cases hlt2 : k2 < y.rows.length
            · obtain ⟨b8, off8, hA8, hb8, c8, hv8⟩ := orow_at (orows_aft (HAX.out.trans (HA.out.trans HAV.out)) HPY.out.rows) hlt2
              rw [hA8]
              have HTC := Lib.hid (HTP.out _ (List.getElem_mem hlt2))
              have HTV := Lib.hid (turned_yes HTC.out)
              have HRT := Lib.hid (show (y.rows.take (k2 + 1)).map (·.vals) = (y.rows.take k2).map (·.vals) ++ [y.rows[k2].vals] by rw [List.take_succ_eq_append_getElem hlt2, List.map_append]; rfl)
              obtain ⟨u, hu⟩ : ∃ u, y.rows[k2] = u := ⟨_, rfl⟩
              rw [hu] at c8 hv8 HTC HTV HRT
              have CT := Lib.hid (show ∀ V, Aft wr V → Calls Try.prog 16 #[.slice y.x.hc.a y.x.t.cols.length y.x.hc.c, .slice x.hc.a p.cols.length x.hc.c, .slice u.h.a u.vals.length u.h.c] V (TurnP V (turnVs y.x.t.cols p.cols u.vals) 0) from fun V a => by
                have hcx : SlAt V 3 ColR x.hc.a x.hc.c p.cols := by
                  have := (HS2.out.tab.aft a).cols (by rw [show OTab.t _ = p from HX.out]; exact HSP.out)
                  have e : x.cols = p.cols := by rw [← HX.out]; rfl
                  rw [← e]; exact this
                have h1 := turn_any y.x.t.cols p.cols u.vals y.x.hc.a y.x.hc.c x.hc.a x.hc.c u.h.a u.h.c V (cols_aft (HAX.out.trans (HA.out.trans (HAV.out.trans a))) HPY.out.cols) hcx (vals_aft a hv8)
                rw [HTV.out, HTC.out] at h1
                exact h1)
              have ry := HPY.out.row.aft (HAX.out.trans (HA.out.trans HAV.out))
              have y3 := ry.cell (j := 3) rfl
              have yz := ry.1
              have r9 := (HR4.out.aft HB2.out).cell (j := 3) rfl
              have rz := (HR4.out.aft HB2.out).1
              clear hA8 hu hv8 ry
              go_wp2_with fail
              refine wp_region_mix [true, true, true, true, true, true, true, true, false, true, true, true, true, false] 13 (fun w' => ∃ x : Lat wr, w' = lat wr x) (by kernel_rfl) (by kernel_rfl) ((Aft.refl wr).drew).to ?_
              refine wpMix_reads 8 rfl rfl ?_
              simp only [List.take_succ_cons, List.take_zero, List.drop_succ_cons, List.drop_zero]
              repeat (go_big_quiet_step (fail))
              refine wpQuiet_nil ?_
              refine wpMix_step rfl (fun K hK => ?_)
              go_simp
              obtain ⟨D9, hD9⟩ : ∃ D9, D9 = wr.drew := ⟨_, rfl⟩
              have aD : Aft wr D9 := by rw [hD9]; exact (Aft.refl wr).drew
              rw [← hD9]
              go_at_call 16
              refine (CT.out D9 aD).mono ?_
              rintro e Z ⟨v9, rfl, aZ, ho9⟩
              dsimp only
              refine hK _ _ (fun _ => (aD.trans aZ).to) ?_
              clear hK K hD9
              refine wpMix_reads 4 rfl rfl ?_
              simp only [List.take_succ_cons, List.take_zero, List.drop_succ_cons, List.drop_zero]
              repeat (go_big_quiet_step (fail))
              refine wpQuiet_nil ?_
              refine wpMix_step rfl (fun K hK => ?_)
              go_simp
              refine hK _ _ (fun h => absurd h (by decide)) ?_
              clear hK K
              have HZ := Lib.hid (aD.trans aZ)
              obtain ⟨h9, rfl, hn9⟩ := own_head ho9
              have HO9 := Lib.hid (own_down ho9 aD.size)
              clear ho9 aD aZ CT c8 y3 yz r9 rz hb8
              refine NoPanic.normal ?_
              obtain ⟨n9, hn9⟩ : ∃ n9, (turnVs y.x.t.cols p.cols u.vals).length = n9 := ⟨_, rfl⟩
              have e9 : h9.v = .slice h9.a n9 h9.c := by rw [← hn9]; exact own_slice HO9.out
              have HE9 := Lib.hid e9
              rw [e9]
              clear e9 hn9
              have rsh := HS2.out.row.aft HZ.out
              unfold OShf.cells at rsh
              rw [OTab.cells_of (HS2.out.tab) HX.out, own_slice HS2.out.rows.own] at rsh
              simp only [HL2.out] at rsh
              have e5 : Z.cell? ⟨V3.heap.size + 1, 5, none⟩ = some (.slice h2.a k2 h2.c) := rsh.cell (j := 5) rfl
              have ez : V3.heap.size + 1 < Z.heap.size := rsh.1
              have HRSH := Lib.hid rsh
              have e0 : h2.v = .slice h2.a k2 h2.c := by have := own_slice HS2.out.rows.own; simp only [HL2.out] at this; exact this
              have HE0 := Lib.hid e0
              have ow2 : Z.ownsRow V0.heap.size 41 1 (.slice h2.a k2 h2.c) k2 (R.flatMap ORow.cells) := by
                have := own_aft HS2.out.rows.own HZ.out
                simp only [HL2.out] at this
                rw [e0] at this
                exact this
              have HOW2 := Lib.hid ow2
              have zV := HAV.out.size
              have zZ := HZ.out.size
              clear rsh e0 ow2
              go_wp2_with (at_builtin; refine wpList_append_own2 _ rfl (.tmp 76) (.tmp 78) 47 rfl V0.heap.size 41 i1 (.slice none 0 0) 1 24 Try.underlying47 HJ.out HY0.out HY1.out HY2.out rfl (by decide) (.slice h2.a k2 h2.c) k2 (R.flatMap ORow.cells) rfl (own_aft HOW2.out ((Aft.refl _).alloc _)) (some ⟨Z.heap.size, 0, none⟩) 1 1 [.slice h9.a n9 h9.c] rfl rfl ?c0 ?c1 ?c2 ?c3 ?c4 ?c5 ?_)
              case c0 => intro h; cases h
              case c1 =>
                intro ad had j u hj
                injection had with had; subst had
                rw [add_mk, Nat.zero_add]; exact (World.cell?_alloc_at _ _ _ _ rfl).trans (by simpa using hj)
              case c2 => intro u hu; simp only [List.mem_cons, List.not_mem_nil, or_false] at hu; subst hu; simp [Value.oneCell']
              case c3 => unfold maxLen; omega
              case c4 => omega
              case c5 => simp; omega
              intro A' cap' w5 hown' hgrow hblk
              have hnp : ¬ (Value.slice h2.a k2 h2.c).ownBlock = some (V3.heap.size + 1) := fun e => by
                have h1 := HN2.out
                unfold OShf.blks OShf.rblk at h1
                refine (List.nodup_cons.1 h1).1 (List.mem_append.2 (.inr (List.mem_append.2 (.inl (Hd.mem_blk.2 ?_)))))
                rw [HE0.out]; exact e
              have r5 := (Kb.of_grown hgrow).row (HRSH.out.aft ((Aft.refl _).alloc _)) hnp
              have f5 : w5.frozen? ⟨V3.heap.size + 1, 5, none⟩ = false := r5.2.2 5 (by simp)
              have g5 : w5.cell? ⟨V3.heap.size + 1, 5, none⟩ = some (.slice h2.a k2 h2.c) := r5.cell (j := 5) rfl
              have z5 := r5.1
              have HPU := Lib.hid (HS2.out.push (o := ⟨turnVs y.x.t.cols p.cols u.vals, h9⟩) (n := k2 + 1) (A' := A') (cap' := cap') (w5 := w5) (ob := .cells #[.slice h9.a n9 h9.c] 41) HN2.out HZ.out HO9.out (by omega) (by rw [HL2.out]) (by rw [HE0.out]; exact hgrow) (by rw [HE9.out]; exact hown') (by rw [HE0.out]; intro g hg; simpa using hblk g hg))
              have aZ4 : Aft V4 Z := HB2.out.trans HZ.out
              have aw5 : Aft V4 w5 := aft_grown (own_base (own_aft HOW2.out ((Aft.refl Z).alloc (.cells #[.slice h9.a n9 h9.c] 41))) fun g hg => HBK.out g (Hd.mem_blk.2 (by rw [HE0.out]; exact hg))) (aZ4.alloc _) hgrow
              have HA9 := Lib.hid (show Aft V4 (w5.setCell ⟨V3.heap.size + 1, 5, none⟩ (.slice A' (k2 + 1) cap')) from aw5.setCell _ _ (by rw [HV4.out]; exact Nat.le_refl _))
              have z4Z := aZ4.size
              have HBK2 := Lib.hid (show ∀ g ∈ (Hd.mk A' (k2 + 1) cap').blk, V4.heap.size ≤ g from fun g hg => by
                rcases hblk g hg with h | h
                · exact HBK.out g (Hd.mem_blk.2 (by rw [HE0.out]; exact h))
                · omega)
              have HR9 := Lib.hid (show (R ++ [(⟨turnVs y.x.t.cols p.cols u.vals, h9⟩ : ORow)]).map ORow.vals = ((y.rows.take (k2 + 1)).map (·.vals)).map (turnVs y.x.t.cols p.cols) by rw [List.map_append, HR2.out, HRT.out, List.map_append]; rfl)
              clear hown' hgrow hblk hnp r5 e5 ez aZ4 aw5
              go_wp2_with fail
              go_roundw
              case rel => exact ⟨k2 + 1, _, ⟨A', k2 + 1, cap'⟩, by omega, by go_num, HBK2.out, HA9.out, HPU.out.1, HPU.out.2, HR9.out⟩
              case measure => simp [intOf]; omega
            · have e1 : y.rows.take k2 = y.rows := List.take_of_length_le (by omega)
              have HTS2 := Lib.hid (show OShf.s ⟨V3.heap.size + 1, x, R, h2⟩ = turnS (storeS L) p by
                rw [HTS.out]
                unfold OShf.s
                show Shf.mk x.t (R.map _) = _
                rw [HX.out, HR2.out, e1])
              clear e1
              go_wp2_with (at_builtin; refine wpList_append_own2 _ rfl (.tmp 83) (.tmp 85) 65 rfl X.heap.size 70 i0 (.pointer none) 1 8 Try.underlying65 HI.out HZ0.out HZ1.out HZ2.out rfl (by decide) (.slice h.a k h.c) k (Ln.flatMap ptrC) rfl ?c6 (some ⟨wr.heap.size, 0, none⟩) 1 1 [.pointer (some ⟨V3.heap.size + 1, 0, none⟩)] rfl rfl ?c0 ?c1 ?c2 ?c3 ?c4 ?c5 ?_)
              case c6 =>
                have := own_aft HSN.out.lst (HAV.out.alloc (.cells #[.pointer (some ⟨V3.heap.size + 1, 0, none⟩)] 70))
                rw [own_slice HSN.out.lst, HLL.out] at this
                exact this
              case c0 => intro h; cases h
              case c1 =>
                intro ad had j u hj
                injection had with had; subst had
                rw [add_mk, Nat.zero_add]; exact (World.cell?_alloc_at _ _ _ _ rfl).trans (by simpa using hj)
              case c2 => intro u hu; simp only [List.mem_cons, List.not_mem_nil, or_false] at hu; subst hu; simp [Value.oneCell']
              case c3 => unfold maxLen; omega
              case c4 => omega
              case c5 => have := HAV.out.size; simp; omega
              intro A' cap' w5 hown' hgrow hblk
              have e0 : h.v = .slice h.a k h.c := by rw [own_slice HSN.out.lst, HLL.out]
              have HP := Lib.hid (show ShsIn w5 X.heap.size ⟨A', k + 1, cap'⟩ (Ln ++ [(⟨V3.heap.size + 1, x, R, h2⟩ : OShf)]) from HSN.out.push (ob := .cells #[.pointer (some ⟨V3.heap.size + 1, 0, none⟩)] 70) HAV.out HS2.out HN2.out zw (by rw [HLL.out]) (by rw [e0]; exact hgrow) hown' (by rw [e0]; intro g hg; simpa using hblk g hg))
              have HA5 := Lib.hid (show Aft X w5 from aft_grown (by rw [← e0]; exact own_aft HSN.out.lst (HAV.out.alloc _)) ((HA.out.trans HAV.out).alloc _) hgrow)
              have HT2 := Lib.hid (show (Ln ++ [(⟨V3.heap.size + 1, x, R, h2⟩ : OShf)]).map OShf.s = (o.tables.take (k + 1)).map (turnS (storeS L)) by rw [List.map_append, HLN.out, List.take_succ_eq_append_getElem hlt, List.map_append, HPP.out, List.map_cons, List.map_nil, List.map_cons, List.map_nil, HTS2.out])
              clear hown' hgrow hblk e0
              go_wp2_with fail
              go_roundw
              case rel => exact ⟨k + 1, ⟨A', k + 1, cap'⟩, _, by omega, by go_num, rfl, HT2.out, HA5.out, HP.out⟩
              case measure => simp [intOf]; omega
      · have e1 : o.tables.take k = o.tables := List.take_of_length_le (by omega)
        have HFI := Lib.hid (show Ln.map OShf.s = o.tables.map (turnS (storeS L)) by rw [HLN.out, e1])
        have rs := HIN.out.row.aft (HAX.out.trans HA.out)
        have s0 := rs.cell (j := 0) rfl
        have sf : wr.frozen? ⟨s, 0, none⟩ = false := rs.2.2 0 (by simp)
        have sz := rs.1
        have HRS := Lib.hid rs
        have hsw : s < w.heap.size := HIN.out.row.1
        have hBs := HIN.out.ge
        have zX := HAX.out.size
        clear e1 rs
        go_wp2_with fail
        go_ret
        rw [HDD.out]
        have hlt := HSN.out.lt
        have e0 : h.v = .slice h.a k h.c := by rw [own_slice HSN.out.lst, HLL.out]
        rw [← e0]
        have kS : Kb (fun g => g = s) wr (wr.setCell ⟨s, 0, none⟩ h.v) := Kb.set _ _ _ _
        have hBX : B ≤ X.heap.size := by omega
        have ss2 := (HSN.out.kb kS fun g hg e => by have := (hlt g hg).1; have e : g = s := e; omega)
        have rS : RowAt (wr.setCell ⟨s, 0, none⟩ h.v) s [h.v] := HRS.out.set 0 h.v (by simp)
        have hfin : StoIn (wr.setCell ⟨s, 0, none⟩ h.v) B s h Ln := ⟨hBs, rS, own_down ss2.lst hBX, fun y hy => (ss2.each y hy).down hBX, List.nodup_cons.2 ⟨fun hg => by have := (hlt s hg).1; omega, ss2.nd⟩⟩
        exact loadQ_yes hfin HFI.out ((Kb.of_aft (HAX.out.trans HA.out)).trans kS) fun g hg => .inr (by have := (hlt g hg).1; omega)
  · rw [show checkE o = 63 by unfold checkE; rw [if_neg hck]]
    have HDD := Lib.hid (show D = (storeS L, 63) from HD.out.trans (if_neg hck))
    go_wp2_with fail
    go_ret
    rw [HDD.out]
    exact loadQ_no HIN.out HAX.out 63
end Go.Proofs.Ytiadkchlkdaceaa

namespace Go.Proofs.Ytiadkchlkdaceaa
open Go.RowKit Go.Deep
set_option maxRecDepth 100000
set_option linter.unusedVariables false
structure Dmp where
  schema : ByteArray
  name : ByteArray
  cols : List Col
  rows : List (List Val)
structure ODmp where
  schema : ByteArray
  name : ByteArray
  cols : List Col
  hc : Hd
  rows : List ORow
  hr : Hd
def ODmp.s (d : ODmp) : Dmp := ⟨d.schema, d.name, d.cols, d.rows.map (·.vals)⟩
def ODmp.cells (d : ODmp) : List Value := [.string d.schema, .string d.name, d.hc.v, d.hr.v]
def ODmp.blks (d : ODmp) : List Nat := d.hc.blk ++ (d.hr.blk ++ d.rows.flatMap (·.h.blk))
structure DmpIn (w : World) (B : Nat) (d : ODmp) : Prop where
  col : w.ownsRow B 82 3 d.hc.v d.cols.length (d.cols.flatMap colC)
  row : RowsIn w B d.hr d.rows
structure DmpsIn (w : World) (B : Nat) (hl : Hd) (L : List ODmp) : Prop where
  lst : w.ownsRow B 54 4 hl.v L.length (L.flatMap ODmp.cells)
  each : ∀ y ∈ L, DmpIn w B y
  nd : (hl.blk ++ L.flatMap ODmp.blks).Nodup
section
variable {w w' : World} {B s : Nat} {hl : Hd} {L : List ODmp}
theorem DmpIn.kb {P : Nat → Prop} {d : ODmp} (h : DmpIn w B d) (k : Kb P w w') (hne : ∀ g ∈ d.blks, ¬ P g) : DmpIn w' B d :=
  ⟨own_kb h.col k fun g hg => hne g (List.mem_append.2 (.inl (Hd.mem_blk.2 hg))), h.row.kb k fun g hg => hne g (List.mem_append.2 (.inr hg))⟩
theorem DmpIn.aft {d : ODmp} (h : DmpIn w B d) (a : Aft w w') : DmpIn w' B d := h.kb (P := fun _ => False) (Kb.of_aft a) fun _ _ h => h
theorem DmpIn.lt {d : ODmp} (h : DmpIn w B d) : ∀ g ∈ d.blks, B ≤ g ∧ g < w.heap.size := fun g hg => by
  rcases List.mem_append.1 hg with hg | hg
  · exact blk_lt h.col g hg
  · exact h.row.lt g hg
theorem DmpIn.down {B2 : Nat} {d : ODmp} (h : DmpIn w B d) (hB : B2 ≤ B) : DmpIn w B2 d := ⟨own_down h.col hB, h.row.down hB⟩
theorem DmpsIn.lt (h : DmpsIn w B hl L) : ∀ g ∈ hl.blk ++ L.flatMap ODmp.blks, B ≤ g ∧ g < w.heap.size := fun g hg => by
  rcases List.mem_append.1 hg with hg | hg
  · exact blk_lt h.lst g hg
  · obtain ⟨y, hy, hg⟩ := List.mem_flatMap.1 hg
    exact (h.each y hy).lt g hg
theorem DmpsIn.kb {P : Nat → Prop} (h : DmpsIn w B hl L) (k : Kb P w w') (hne : ∀ g ∈ hl.blk ++ L.flatMap ODmp.blks, ¬ P g) : DmpsIn w' B hl L :=
  ⟨own_kb h.lst k fun g hg => hne g (List.mem_append.2 (.inl (Hd.mem_blk.2 hg))), fun y hy => (h.each y hy).kb k fun g hg => hne g (List.mem_append.2 (.inr (List.mem_flatMap.2 ⟨y, hy, hg⟩))), h.nd⟩
theorem DmpsIn.aft (h : DmpsIn w B hl L) (a : Aft w w') : DmpsIn w' B hl L := h.kb (P := fun _ => False) (Kb.of_aft a) fun _ _ h => h
theorem DmpsIn.nil (w : World) (B : Nat) : DmpsIn w B ⟨none, 0, 0⟩ [] := ⟨own_nil _ _ _ _, (fun y h => by cases h), (by simp [blk_nil])⟩
theorem DmpsIn.push {wr w4 w5 : World} {h : Hd} {y : ODmp} {A' : Option Addr} {n cap' : Nat} {ob : Obj} (r : DmpsIn wr B h L) (a4 : Aft wr w4) (hy : DmpIn w4 wr.heap.size y) (ny : y.blks.Nodup) (hB : B ≤ wr.heap.size) (hn : n = L.length + 1)
    (hg : (w4.alloc ob).grownBy w5 h.v.ownBlock) (hown : w5.ownsRow B 54 4 (.slice A' n cap') n (L.flatMap ODmp.cells ++ y.cells)) (hblk : ∀ g ∈ (Hd.mk A' n cap').blk, h.v.ownBlock = some g ∨ w4.heap.size + 1 ≤ g) :
    DmpsIn w5 B ⟨A', n, cap'⟩ (L ++ [y]) := by
  have k := Kb.of_grown hg
  have hlt := r.lt
  have hnd := List.nodup_append.1 r.nd
  have hz := a4.size
  have hol := hy.lt
  refine ⟨?_, fun x hx => ?_, ?_⟩
  · have e : (L ++ [y]).length = n := by simp [hn]
    rw [e]
    simpa [List.flatMap_append, Hd.v] using hown
  · rcases List.mem_append.1 hx with hx | hx
    · refine ((r.each x hx).aft (a4.alloc ob)).kb k fun g hg2 e => ?_
      exact hnd.2.2 g (Hd.mem_blk.2 e) g (List.mem_flatMap.2 ⟨x, hx, hg2⟩) rfl
    · rw [List.mem_singleton] at hx
      subst hx
      refine ((hy.aft ((Aft.refl w4).alloc ob)).kb k fun g hg2 e => ?_).down hB
      have h1 := (hlt g (List.mem_append.2 (.inl (Hd.mem_blk.2 e)))).2
      have h2 := (hol g hg2).1
      omega
  · rw [List.flatMap_append, List.flatMap_cons, List.flatMap_nil, List.append_nil]
    have n2 : (L.flatMap ODmp.blks ++ y.blks).Nodup := nodup_more (N := wr.heap.size) hnd.2.1 ny (fun g hg => (hlt g (List.mem_append.2 (.inr hg))).2) (fun g hg => (hol g hg).1)
    refine List.nodup_append.2 ⟨blk_nodup _, n2, fun a ha b hb e => ?_⟩
    subst e
    rcases hblk a ha with h1 | h1
    · have h2 := hlt a (List.mem_append.2 (.inl (Hd.mem_blk.2 h1)))
      rcases List.mem_append.1 hb with hb | hb
      · exact hnd.2.2 a (Hd.mem_blk.2 h1) a hb rfl
      · have := (hol a hb).1; omega
    · rcases List.mem_append.1 hb with hb | hb
      · have := (hlt a (List.mem_append.2 (.inr hb))).2; omega
      · have := (hol a hb).2; omega
end
end Go.Proofs.Ytiadkchlkdaceaa

namespace Go.Proofs.Ytiadkchlkdaceaa
open Go.RowKit Go.Deep
set_option maxRecDepth 100000
set_option linter.unusedVariables false
theorem new12 (w : World) : Calls Try.prog 6 #[] w fun e w' => e = .returned (.pointer (some ⟨w.heap.size, 0, none⟩)) ∧ Aft w w' ∧ StoIn w' w.heap.size w.heap.size ⟨none, 0, 0⟩ [] := by
  go_enter Try.func6, Try.ntmps6
  go_wp2_with fail
  go_ret
  exact ⟨rfl, (Aft.refl _).alloc _, Nat.le_refl _, box_row2 (c := [.slice none 0 0]) (Aft.refl _), own_nil _ _ _ _, (fun y h => by cases h), by simp [blk_nil]⟩
end Go.Proofs.Ytiadkchlkdaceaa

