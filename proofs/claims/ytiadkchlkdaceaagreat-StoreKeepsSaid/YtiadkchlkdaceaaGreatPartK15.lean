/- Contracts of the program, part 15. -/
import Derived.Deep.Onto
import Derived.LaidEqlPtr
import Derived.OwnWalk
import Derived.Laws.AppendOwn
import Derived.ProofKit
import Derived.OpenShut
import Derived.Deep.Slices
import Derived.ChangeOld
import Derived.SizedLaws
import Derived.WalkKit
import Derived.WalkSpells
import Derived.WalkLawsBesides
import Derived.Lib.Hide
import Derived.Deep.QuietTactic
import Derived.BigQuiet
import Derived.Below
import Derived.Deep.Draws
import Derived.StillTailTactics
import Derived.Laws.Cells
import Derived.Laws.IdiomCopy
import Derived.Test.YtiadkchlkdaceaaGreatRows
import Derived.Lib.Bytealg
import Derived.IntWalk
import Derived.ShutString
import Derived.Shelf.SlSortCmp.WholeK
import Derived.Lib.SliceRun
import Derived.Deep.AppendLies
import Derived.Deep.Upon
import Derived.OneCell
import Derived.Deep.DeepMust
import Derived.Deep.RegionLaw
import Derived.Deep.RegionHeld3
import Derived.Shelf.RegionOpen
import Derived.Sort.BigQuietIn
import Derived.RangeFuncNested
import Derived.RangeFuncBound
import Derived.RangeFuncCalls
import Derived.RangeFuncLeaves
import Derived.Shelf.Abstract
import Derived.OwnWalkIn
import Derived.TacticsInMore
import Derived.LoopNIn
import Derived.LoopIn
import Derived.Sort.QuietTacIn
import Derived.NoCompiler
import Derived.OrdersHeld
import Derived.Lib.Walk
import Derived.Test.YtiadkchlkdaceaaGreatPartK1
import Derived.Test.YtiadkchlkdaceaaGreatPartK2
import Derived.Test.YtiadkchlkdaceaaGreatPartK3
import Derived.Test.YtiadkchlkdaceaaGreatPartK4
import Derived.Test.YtiadkchlkdaceaaGreatPartK5
import Derived.Test.YtiadkchlkdaceaaGreatPartK6
import Derived.Test.YtiadkchlkdaceaaGreatPartK7
import Derived.Test.YtiadkchlkdaceaaGreatPartK8
import Derived.Test.YtiadkchlkdaceaaGreatPartK9
import Derived.Test.YtiadkchlkdaceaaGreatPartK10
import Derived.Test.YtiadkchlkdaceaaGreatPartK11
import Derived.Test.YtiadkchlkdaceaaGreatPartK12
import Derived.Test.YtiadkchlkdaceaaGreatPartK13
import Derived.Test.YtiadkchlkdaceaaGreatPartK14
namespace Go.Proofs.YtiadkchlkdaceaaGreat
open Go.RowKit Go.Deep
set_option maxRecDepth 100000
set_option linter.unusedVariables false
set_option maxHeartbeats 8000000 in
theorem insert12 (B s : Nat) (hl : Hd) (L : List OShf) (ss : List Sch) (q : Nat) (x : ROp) (A : Option Addr) (cap : Nat) (w : World) (hin : StoIn w B s hl L) (ok : SOk (storeS L) ss) (sm : ∀ y ∈ L, SmT y.x.t) (hq : q < L.length) (hrow : SlAt w 3 ValR A cap x.row) (hA : ∀ b off, A = some ⟨b, off, none⟩ → 0 < x.row.length → b ∉ stoBlks s hl L) :
    Calls Tryz.prog 33 #[.pointer (some ⟨s, 0, none⟩), .pointer (some ⟨L[q].p, 0, none⟩), .agg #[.int .i64 x.kind, .string x.role, .string x.schema, .string x.table, .slice A x.row.length cap, .string x.col, .int .i64 x.v.kind, .int .i64 x.v.int, .string x.v.text]] w (DoQ w B s hl L (insS (storeS L) q x.row)) := by
  obtain ⟨kd, role, schema, table, row, col, v⟩ := x
  simp only at hrow ⊢
  obtain ⟨r, hr⟩ : ∃ r, wrongS (storeS L) q row = r := ⟨_, rfl⟩
  have hqS : q < (storeS L).length := by simpa [storeS] using hq
  have hsn : shfN (storeS L) q = L[q].s := by rw [shfN_get hqS]; simp [storeS]
  obtain ⟨y, hy⟩ : ∃ y, L[q] = y := ⟨_, rfl⟩
  have hey := hin.each L[q] (List.getElem_mem hq)
  rw [hy] at hey hsn ⊢
  have HOK := Lib.hid ok
  have HQS := Lib.hid hqS
  have CW := Lib.hid (show ∀ V, Aft w V → Calls Tryz.prog 68 #[.pointer (some ⟨s, 0, none⟩), .pointer (some ⟨y.p, 0, none⟩), .slice A row.length cap] V fun e w' => e = .returned (.int .i64 r) ∧ Aft V w' from fun V a => by
    have := wrong12 s (L.map (·.p)) (storeS L) ss q row A cap V ((hin.aft a).is ok sm) ok (by simpa using hq) (vals_aft a hrow)
    rw [hr] at this
    simpa [hy] using this)
  obtain ⟨W, hW⟩ : ∃ W, W = w.alloc (.cells #[.int .i64 kd, .string role, .string schema, .string table, .slice A row.length cap, .string col, .int .i64 v.kind, .int .i64 v.int, .string v.text] 39) := ⟨_, rfl⟩
  have aW : Aft w W := by rw [hW]; exact (Aft.refl w).alloc _
  have rW : RowAt W w.heap.size [.int .i64 kd, .string role, .string schema, .string table, .slice A row.length cap, .string col, .int .i64 v.kind, .int .i64 v.int, .string v.text] := by rw [hW]; exact box_row2 (Aft.refl _)
  have HRW := Lib.hid rW
  have HAW := Lib.hid aW
  have HR := Lib.hid hr
  have HIN := Lib.hid hin
  have HQ := Lib.hid hq
  have HSN := Lib.hid hsn
  have HY := Lib.hid hy
  have HEY := Lib.hid hey
  have HROW := Lib.hid hrow
  have HA0 := Lib.hid hA
  have cB := (rW.cell (j := 4) rfl)
  have zB := rW.1
  clear aW rW hr hin hsn hy hey hrow hA ok sm hqS
  go_enter Tryz.func33, Tryz.ntmps33
  go_wp2_with fail
  rw [← hW]
  clear hW
  go_wp2_with fail
  refine (CW.out W HAW.out).mono ?_
  rintro e X ⟨rfl, aX⟩
  have HAX := Lib.hid (HAW.out.trans aX)
  have HRX := Lib.hid (HRW.out.aft aX)
  clear aX CW cB zB
  by_cases h0 : r = 0
  · subst h0
    obtain ⟨hb, h64⟩ := wrong_zero HR.out
    rw [HSN.out] at hb h64
    have hb8 : row.length ≤ 1000000 := by
      have h1 := ((besideB_iff formB _ _).1 hb).1
      have h2 := (HOK.out.shf (x := y.s) (by rw [← HSN.out, shfN_get HQS.out]; exact List.getElem_mem _)).2.1
      have h1 : y.s.t.cols.length = row.length := h1
      omega
    have HB8 := Lib.hid hb8
    have inX := HEY.out.aft HAX.out
    have own := inX.rows.own
    have e5 := inX.row
    unfold OShf.cells at e5
    rw [OTab.cells_of inX.tab rfl, own_slice own] at e5
    rw [own_slice own] at own
    have HOW := Lib.hid own
    have HIX := Lib.hid inX
    have HE5 := Lib.hid e5
    have x5 := e5.cell (j := 5) rfl
    have xz := e5.1
    have xf : X.frozen? ⟨y.p, 5, none⟩ = false := e5.2.2 5 (by simp)
    have c4 := HRX.out.cell (j := 4) rfl
    have cz := HRX.out.1
    have hyl : y.rows.length < 64 := by simpa [OShf.s] using h64
    have HVB := Lib.hid (show ∀ g, InV (.slice y.hr.a y.rows.length y.hr.c) g → g ∈ y.hr.blk from fun g hg => Hd.mem_blk.2 (by rw [own_slice HEY.out.rows.own]; exact hg))
    have HND := Lib.hid (show y.blks.Nodup from by
      have h1 := (List.nodup_append.1 (List.nodup_cons.1 HIN.out.nd).2).2.1
      have hm : y ∈ L := by rw [← HY.out]; exact List.getElem_mem hq
      exact nodup_of h1 hm)
    have n1 : ¬ InV (.slice y.hr.a y.rows.length y.hr.c) y.p := fun hg => by
      have h1 := HND.out
      unfold OShf.blks at h1
      exact (List.nodup_cons.1 h1).1 (by unfold OShf.rblk; simp [HVB.out _ hg])
    have n2 : ¬ InV (.slice y.hr.a y.rows.length y.hr.c) w.heap.size := fun hg => by
      have := (HEY.out.rows.lt w.heap.size (List.mem_append.2 (.inl (HVB.out _ hg)))).2
      omega
    obtain ⟨i0, hi0, hz0, hz1, hz2⟩ := info_parts info2Row
    have HI := Lib.hid hi0
    have HZ0 := Lib.hid hz0
    have HZ1 := Lib.hid hz1
    have HZ2 := Lib.hid hz2
    have HBX := Lib.hid (show B ≤ X.heap.size by have := HEY.out.ge; have := HEY.out.row.1; have := HAX.out.size; omega)
    clear hi0 hz0 hz1 hz2 own e5 inX hb h64 hb8
    go_wp2_with fail
    refine wp_region_reads 7 10 (fun w' => ∃ x : KLat (.slice y.hr.a y.rows.length y.hr.c) X, w' = klat (.slice y.hr.a y.rows.length y.hr.c) X x) (by kernel_rfl) (by kernel_rfl) (KL.aft (Aft.refl X).drew) ?_
    simp only [List.take_succ_cons, List.take_zero, List.drop_succ_cons, List.drop_zero]
    repeat (go_big_quiet_step (fail))
    refine wpQuiet_nil ?_
    refine wpChain_step (fun K hK => ?_)
    go_simp
    obtain ⟨D, hD⟩ : ∃ D, D = X.drew := ⟨_, rfl⟩
    have aD : Aft X D := by rw [hD]; exact (Aft.refl X).drew
    rw [← hD]
    go_at_call 69
    refine (cloneRow A cap row w D (HAX.out.trans aD) HROW.out HB8.out).mono ?_
    rintro e Y ⟨h4, rfl, aY, ho4⟩
    dsimp only
    refine hK _ _ (fun _ => KL.aft (aD.trans aY)) ?_
    clear hK K hD
    have HO4 := Lib.hid ho4
    have zXD := aD.size
    refine wpChain_step (fun K hK => ?_)
    go_simp
    refine hK _ _ (fun _ => KL.aft ((aD.trans aY).alloc _)) ?_
    clear hK K ho4
    have HAY := Lib.hid (aD.trans aY)
    have HDY := Lib.hid aY
    have HXD := Lib.hid aD
    have zXY := HAY.out.size
    refine wpChain_step (fun K hK => ?_)
    refine wp_append_lies _ (.tmp 21) (.tmp 25) 47 rfl B 34 i0 _ 1 24 Tryz.underlying47 HI.out HZ0.out HZ1.out HZ2.out rfl (by decide) (.slice y.hr.a y.rows.length y.hr.c) y.rows.length (y.rows.flatMap ORow.cells) (by rfl) ((own_aft HOW.out HAY.out).alloc _) ⟨Y.heap.size, 0, none⟩ 1 1 [.slice h4.a row.length h4.c] (by rfl) rfl (World.news_of_block (cs := #[.slice h4.a row.length h4.c]) (t := 34) (fr := (0, 0)) (heap_alloc_new Y _)) (by simp [Value.oneCell']) (by omega) (by unfold maxLen; omega) (by omega) (by have := HBX.out; simp; omega) (Y.heap.size + 1) (by simp) ?_
    intro gg cap' w5 hown5 hgrow hat hgl
    refine hK _ _ (fun _ => KL.of ((Kb.of_aft (HAY.out.alloc _)).trans (kb_in hgrow))) ?_
    clear hK K
    refine wpChain_list _ (by simp) (by decide) ?_
    have kw5 : Kb (InV (.slice y.hr.a y.rows.length y.hr.c)) X w5 := (Kb.of_aft (HAY.out.alloc _)).trans (kb_in hgrow)
    have HK5 := Lib.hid kw5
    have x5 := kw5.cell x5 n1
    have row5 := kw5.row HE5.out n1
    have xf5 : w5.frozen? ⟨y.p, 5, none⟩ = false := row5.2.2 5 (by simp)
    have z5 := row5.1
    have HR5 := Lib.hid row5
    have HRB := Lib.hid (kw5.row HRX.out n2)
    have HP := Lib.hid (show RowsIn w5 B ⟨some ⟨gg, 0, none⟩, y.rows.length + 1, cap'⟩ (y.rows ++ [⟨row, h4⟩]) ∧ (rowBlks ⟨some ⟨gg, 0, none⟩, y.rows.length + 1, cap'⟩ (y.rows ++ [⟨row, h4⟩])).Nodup from by
      have e0 : y.hr.v = .slice y.hr.a y.rows.length y.hr.c := own_slice HEY.out.rows.own
      refine rows_push (o := ⟨row, h4⟩) (h := y.hr) (wr := D) (w4 := Y) (ob := .cells #[.slice h4.a row.length h4.c] 34) (HIX.out.rows.aft HXD.out) ?_ HDY.out HO4.out (by have := HBX.out; omega) (by rw [e0]; exact hgrow) rfl (by simpa [own_slice HO4.out] using hown5) (by rw [e0]; intro g hg; rw [blk_some, List.mem_singleton] at hg; subst hg; rcases hat with h | h; exact .inl h; refine .inr ?_; have h := h; simp; omega)
      have h1 := HND.out
      unfold OShf.blks OShf.rblk at h1
      exact (List.nodup_append.1 (List.nodup_cons.1 h1).2).2.1)
    have HAT := Lib.hid (show ∀ g ∈ rowBlks ⟨some ⟨gg, 0, none⟩, y.rows.length + 1, cap'⟩ (y.rows ++ [⟨row, h4⟩]), g ∈ y.rblk ∨ X.heap.size ≤ g from fun g hg => by
      unfold rowBlks at hg
      rw [blk_some, List.flatMap_append, List.flatMap_cons, List.flatMap_nil, List.append_nil] at hg
      simp only [List.mem_append, List.mem_singleton] at hg
      unfold OShf.rblk
      rcases hg with rfl | h | h
      · rcases hat with h1 | h1
        · exact .inl (List.mem_append.2 (.inl (HVB.out _ h1)))
        · refine .inr ?_
          omega
      · exact .inl (List.mem_append.2 (.inr h))
      · have := (blk_lt HO4.out g h).1
        exact .inr (by omega))
    clear hown5 hgrow hat hgl kw5 row5 c4 cz
    go_wp2_with fail
    refine NoPanic.normal ?_
    obtain ⟨V, hV⟩ : ∃ V, V = w5.setCell ⟨y.p, 5, none⟩ (.slice (some ⟨gg, 0, none⟩) (y.rows.length + 1) cap') := ⟨_, rfl⟩
    have kV : Kb (fun g => g = y.p) w5 V := by rw [hV]; exact Kb.set _ _ _ _
    have rV : RowAt V y.p (y.x.cells ++ [(Hd.mk (some ⟨gg, 0, none⟩) (y.rows.length + 1) cap').v]) := by
      have h1 := HR5.out.set 5 (.slice (some ⟨gg, 0, none⟩) (y.rows.length + 1) cap') (by simp)
      rw [← hV] at h1
      rw [OTab.cells_of HEY.out.tab rfl]
      exact h1
    have bV : ∃ cur t, V.heap[y.p]? = some (.cells cur t (0, 0)) := by
      obtain ⟨cur, t, e⟩ := HIX.out.blk
      have e2 := (HK5.out.block y.p HIX.out.row.1 n1).trans e
      rw [hV]
      exact ⟨_, _, setCell_heap_same w5 y.p 5 _ e2⟩
    have HYB := Lib.hid (show ∀ g, g ∈ y.blks → g ∈ stoBlks s hl L from fun g hg => mem_sto hq (by rw [HY.out]; exact hg))
    have kwV : Kb (fun g => g = y.p ∨ g ∈ y.rblk) w V := ((Kb.of_aft HAX.out).trans (HK5.out.mono fun g _ h => .inr (by unfold OShf.rblk; exact List.mem_append.2 (.inl (HVB.out g h))))).trans (kV.mono fun g _ h => .inl h)
    have HKV := Lib.hid kwV
    have hnp : ∀ g ∈ rowBlks ⟨some ⟨gg, 0, none⟩, y.rows.length + 1, cap'⟩ (y.rows ++ [⟨row, h4⟩]), g ≠ y.p := fun g hg e => by
      subst e
      rcases HAT.out _ hg with h | h
      · have h1 := HND.out
        unfold OShf.blks at h1
        exact (List.nodup_cons.1 h1).1 (List.mem_append.2 (.inr h))
      · have := HIX.out.row.1; omega
    have rin : RowsIn V B ⟨some ⟨gg, 0, none⟩, y.rows.length + 1, cap'⟩ (y.rows ++ [⟨row, h4⟩]) := HP.out.1.kb kV fun g hg e => hnp g hg e
    have HAT2 := Lib.hid (show ∀ g ∈ rowBlks ⟨some ⟨gg, 0, none⟩, y.rows.length + 1, cap'⟩ (y.rows ++ [⟨row, h4⟩]), g ∈ y.rblk ∨ w.heap.size ≤ g from fun g hg => (HAT.out g hg).imp_right (Nat.le_trans HAX.out.size))
    have sin : StoIn V B s hl (L.set q ⟨L[q].p, L[q].x, y.rows ++ [⟨row, h4⟩], ⟨some ⟨gg, 0, none⟩, y.rows.length + 1, cap'⟩⟩) :=
      HIN.out.turn hq (by rw [HY.out]; exact kwV) (by rw [HY.out]; exact rV) (by rw [HY.out]; exact bV) rin (by rw [HY.out]; exact HAT2.out) HP.out.2
    have HSI := Lib.hid sin
    have rowV : SlAt V 3 ValR A cap row := SlAt.kbR HROW.out kwV (fun b off e hl0 hb => HA0.out b off e hl0 (HYB.out b (by
      rcases hb with rfl | hb
      · unfold OShf.blks; simp
      · unfold OShf.blks; simp [hb]))) fun _ _ h => h
    have HRV := Lib.hid rowV
    have c4 : V.cell? ⟨w.heap.size, 4, none⟩ = some (.slice A row.length cap) := (kV.row HRB.out (fun e => by have := HEY.out.row.1; omega)).cell (j := 4) rfl
    have cz := (kV.row HRB.out (fun e => by have := HEY.out.row.1; omega)).1
    have HVZ := Lib.hid kwV.size
    rw [← hV]
    clear hV kV rV bV kwV hnp rin sin rowV x5 xf5 z5 xf xz
    go_wp2_with fail
    refine (cloneRow A cap row V V (Aft.refl V) HRV.out HB8.out).mono ?_
    rintro e Z ⟨h7, rfl, aZ, ho7⟩
    have HAZ := Lib.hid aZ
    have HO7 := Lib.hid ho7
    clear aZ ho7 c4 cz
    go_wp2_with fail
    go_ret2
    have zz := HAZ.out.size
    have zw := HVZ.out
    have hrw : shfN (storeS L) q = ⟨y.x.t, y.rows.map (·.vals)⟩ := HSN.out
    rw [show insS (storeS L) q row = (putS (storeS L) q ((y.rows ++ [(⟨row, h4⟩ : ORow)]).map (·.vals)), [row], 0) by unfold insS; rw [HR.out, if_neg (by simp), hrw, List.map_append]; rfl]
    have kfin : Kb (fun g => g = y.p ∨ g ∈ y.rblk) w (Z.alloc (.cells #[.slice h7.a row.length h7.c] 34)) := HKV.out.trans (Kb.of_aft (HAZ.out.alloc _))
    have olt := blk_lt HO7.out
    have slt := HSI.out.lt
    have hsub := turn_sub (s := s) (hl := hl) (N := w.heap.size) (R' := y.rows ++ [⟨row, h4⟩]) (h' := ⟨some ⟨gg, 0, none⟩, y.rows.length + 1, cap'⟩) hq fun g hg => (HAT2.out g hg).imp_left fun h => HYB.out g (by unfold OShf.blks; simp [h])
    refine ⟨_, ⟨some ⟨Z.heap.size, 0, none⟩, 1, 1⟩, [⟨row, h7⟩], storeS_set hq, rfl, rfl, kfin.mono fun g _ h => HYB.out g ?_, HSI.out.aft (HAZ.out.alloc _), turn_x hq, ⟨?_, fun o ho => ?_⟩, ?_, fun g hg h => ?_, hsub⟩
    · rcases h with rfl | h
      · unfold OShf.blks; simp
      · unfold OShf.blks; simp [h]
    · have h1 := own_boxS Z B (.slice h7.a row.length h7.c) rfl (by have := HBX.out; have := HEY.out.ge; have := HEY.out.row.1; omega)
      have e1 : [(⟨row, h7⟩ : ORow)].flatMap ORow.cells = [.slice h7.a row.length h7.c] := by
        rw [List.flatMap_cons, List.flatMap_nil, List.append_nil]
        unfold ORow.cells
        rw [own_slice HO7.out]
      rw [e1]
      exact h1
    · rw [List.mem_singleton] at ho
      subst ho
      exact own_down (own_aft HO7.out ((Aft.refl Z).alloc _)) (by have := HEY.out.ge; have := HEY.out.row.1; omega)
    · unfold rowBlks
      rw [blk_some, List.flatMap_cons, List.flatMap_nil, List.append_nil]
      refine List.nodup_append.2 ⟨by simp, blk_nodup _, fun a ha b hb e => ?_⟩
      rw [List.mem_singleton] at ha
      subst ha
      have := (olt b hb).2
      simp only at e
      omega
    · have h1 := (slt g h).2
      unfold rowBlks at hg
      rw [blk_some, List.flatMap_cons, List.flatMap_nil, List.append_nil] at hg
      rcases List.mem_append.1 hg with hg | hg
      · rw [List.mem_singleton] at hg
        subst hg
        simp only at h1
        omega
      · have := (olt g hg).1
        omega
  · have h1 : (r == 0) = false := by simpa using h0
    go_wp2_with fail
    go_ret2
    rw [show insS (storeS L) q row = (storeS L, [], r) by unfold insS; rw [HR.out, if_pos h0]]
    exact doQ_no HIN.out HAX.out r
end Go.Proofs.YtiadkchlkdaceaaGreat

namespace Go.Proofs.YtiadkchlkdaceaaGreat
open Go.RowKit Go.Deep
set_option maxRecDepth 100000
set_option linter.unusedVariables false
theorem doS_is (S : List Shf) (x : ROp) : doS S x = if mayO x = false then (S, [], 1) else if shfAt S x.schema x.table < 0 then (S, [], 110) else if emp x.col = false ∧ colAt (shfN S (shfAt S x.schema x.table).toNat).t.cols x.col < 0 then (S, [], 110)
    else if x.kind = 1 then insS S (shfAt S x.schema x.table).toNat x.row else if x.kind = 2 then removeS S (shfAt S x.schema x.table).toNat x.col x.v else chooseS S (shfAt S x.schema x.table).toNat x.col x.v := rfl
theorem do1 (name : ByteArray) (kind : Int) (null : Bool) (s : ByteArray) (b1 : Nat) (w : World) (hb1 : b1 < w.heap.size) (hc1 : w.cell? ⟨b1, 5, none⟩ = some (.string s)) :
    Calls Tryz.prog 32 #[.agg #[.string name, .int .i64 kind, .bool null], .pointer (some ⟨b1, 0, none⟩)] w fun e w' => e = .returned (.bool (eqS name s)) ∧ Aft w w' := by
  go_enter Tryz.func32, Tryz.ntmps32
  go_wp2_with fail
  go_ret
  exact ⟨rfl, (Aft.refl _).alloc _⟩
theorem DoQ.from {w V w' : World} {B s : Nat} {hl : Hd} {L : List OShf} {r : List Shf × List (List Val) × Int} {e : Ending} (a : Aft w V) (h : DoQ V B s hl L r e w') : DoQ w B s hl L r e w' := by
  obtain ⟨L', h', R, q1, q2, q3, q4, q5, q6, q7, q8, q9, q10⟩ := h
  exact ⟨L', h', R, q1, q2, q3, (Kb.of_aft a).trans q4, q5, q6, q7, q8, q9, fun g hg => (q10 g hg).imp_right (Nat.le_trans a.size)⟩
theorem DoQ.res {w w' : World} {B s : Nat} {hl : Hd} {L : List OShf} {r : List Shf × List (List Val) × Int} {e : Ending} (h : DoQ w B s hl L r e w') : ∃ u v, e = .returned (.tuple #[u, v]) := by
  obtain ⟨L', h', R, q1, q2, q3, _⟩ := h
  exact ⟨_, _, q3⟩
set_option maxHeartbeats 8000000 in
theorem do12 (B s : Nat) (hl : Hd) (L : List OShf) (ss : List Sch) (x : ROp) (A : Option Addr) (cap : Nat) (w : World) (hin : StoIn w B s hl L) (ok : SOk (storeS L) ss) (sm : ∀ y ∈ L, SmT y.x.t) (hrow : SlAt w 3 ValR A cap x.row) (hA : ∀ b off, A = some ⟨b, off, none⟩ → 0 < x.row.length → b ∉ stoBlks s hl L) (hc : Small x.col.size) (hv : Small x.v.text.size) :
    Calls Tryz.prog 11 #[.pointer (some ⟨s, 0, none⟩), .agg #[.int .i64 x.kind, .string x.role, .string x.schema, .string x.table, .slice A x.row.length cap, .string x.col, .int .i64 x.v.kind, .int .i64 x.v.int, .string x.v.text]] w (DoQ w B s hl L (doS (storeS L) x)) := by
  have hdo := doS_is (storeS L) x
  have CM := Lib.hid (show ∀ V, Calls Tryz.prog 30 #[.agg #[.int .i64 x.kind, .string x.role, .string x.schema, .string x.table, .slice A x.row.length cap, .string x.col, .int .i64 x.v.kind, .int .i64 x.v.int, .string x.v.text]] V fun e w' => e = .returned (.bool (mayO x)) ∧ Aft V w' from fun V => may12 x A cap V hc hv)
  have CF := Lib.hid (show ∀ V, Aft w V → Calls Tryz.prog 25 #[.pointer (some ⟨s, 0, none⟩), .string x.schema, .string x.table] V fun e w' => e = .returned (ptrV (L.map (·.p)) (shfAt (storeS L) x.schema x.table)) ∧ V = w' from fun V a => find12 s (L.map (·.p)) (storeS L) x.schema x.table V ((hin.aft a).is ok sm))
  have HIN := Lib.hid hin
  have CI := Lib.hid (show ∀ V, Aft w V → ∀ q (hq : q < L.length), Calls Tryz.prog 33 #[.pointer (some ⟨s, 0, none⟩), .pointer (some ⟨L[q].p, 0, none⟩), .agg #[.int .i64 x.kind, .string x.role, .string x.schema, .string x.table, .slice A x.row.length cap, .string x.col, .int .i64 x.v.kind, .int .i64 x.v.int, .string x.v.text]] V (DoQ V B s hl L (insS (storeS L) q x.row)) from fun V a q hq => insert12 B s hl L ss q x A cap V (hin.aft a) ok sm hq (vals_aft a hrow) hA)
  have CR := Lib.hid (show ∀ V, Aft w V → ∀ q (hq : q < L.length), Calls Tryz.prog 34 #[.pointer (some ⟨s, 0, none⟩), .pointer (some ⟨L[q].p, 0, none⟩), .agg #[.int .i64 x.kind, .string x.role, .string x.schema, .string x.table, .slice A x.row.length cap, .string x.col, .int .i64 x.v.kind, .int .i64 x.v.int, .string x.v.text]] V (DoQ V B s hl L (removeS (storeS L) q x.col x.v)) from fun V a q hq => remove12 B s hl L ss q x A cap V (hin.aft a) ok sm hq)
  have CC := Lib.hid (show ∀ V, Aft w V → ∀ q (hq : q < L.length), Calls Tryz.prog 35 #[.pointer (some ⟨s, 0, none⟩), .pointer (some ⟨L[q].p, 0, none⟩), .agg #[.int .i64 x.kind, .string x.role, .string x.schema, .string x.table, .slice A x.row.length cap, .string x.col, .int .i64 x.v.kind, .int .i64 x.v.int, .string x.v.text]] V (DoQ V B s hl L (chooseS (storeS L) q x.col x.v)) from fun V a q hq => choose12 B s hl L ss q x A cap V (hin.aft a) ok sm hq)
  have PA := Lib.hid (show ∀ y ∈ L, Parted w y from fun y hy => parted hin ok sm hy)
  obtain ⟨D, hD⟩ : ∃ D, doS (storeS L) x = D := ⟨_, rfl⟩
  rw [hD] at hdo ⊢
  obtain ⟨j, hj⟩ : ∃ j, shfAt (storeS L) x.schema x.table = j := ⟨_, rfl⟩
  have hjr : -1 ≤ j ∧ j < L.length := by
    have := idxP_range (fun y : Shf => eqS y.t.schema x.schema && eqS y.t.name x.table) (storeS L)
    rw [← hj]
    unfold shfAt
    simpa [storeS] using this
  have hsn : ∀ q (h : q < L.length), shfN (storeS L) q = L[q].s := fun q h => by rw [shfN_get (by simpa [storeS] using h)]; simp [storeS]
  obtain ⟨kd, role, schema, table, row, col, v⟩ := x
  simp only at hdo CM CF CI CR CC hj hrow hc hv ⊢
  rw [hj] at hdo CF
  obtain ⟨my, hmy⟩ : ∃ my, mayO ⟨kd, role, schema, table, row, col, v⟩ = my := ⟨_, rfl⟩
  rw [hmy] at hdo CM
  have HDO := Lib.hid hdo
  have HJR := Lib.hid hjr
  have HSN := Lib.hid hsn
  obtain ⟨W, hW⟩ : ∃ W, W = w.alloc (.cells #[.int .i64 kd, .string role, .string schema, .string table, .slice A row.length cap, .string col, .int .i64 v.kind, .int .i64 v.int, .string v.text] 39) := ⟨_, rfl⟩
  have aW : Aft w W := by rw [hW]; exact (Aft.refl w).alloc _
  have rW : RowAt W w.heap.size [.int .i64 kd, .string role, .string schema, .string table, .slice A row.length cap, .string col, .int .i64 v.kind, .int .i64 v.int, .string v.text] := by rw [hW]; exact box_row2 (Aft.refl _)
  have HAW := Lib.hid aW
  have KF := Lib.hid (show ∀ V, Aft W V → (V.cell? ⟨w.heap.size, 0, none⟩ = some (.int .i64 kd) ∧ V.cell? ⟨w.heap.size, 1, none⟩ = some (.string role) ∧ V.cell? ⟨w.heap.size, 2, none⟩ = some (.string schema) ∧ V.cell? ⟨w.heap.size, 3, none⟩ = some (.string table) ∧ V.cell? ⟨w.heap.size, 4, none⟩ = some (.slice A row.length cap) ∧ V.cell? ⟨w.heap.size, 5, none⟩ = some (.string col) ∧ V.cell? ⟨w.heap.size, 6, none⟩ = some (.int .i64 v.kind) ∧ V.cell? ⟨w.heap.size, 7, none⟩ = some (.int .i64 v.int) ∧ V.cell? ⟨w.heap.size, 8, none⟩ = some (.string v.text) ∧ w.heap.size < V.heap.size) from fun V a => by
    have r := rW.aft a
    exact ⟨r.cell (j := 0) rfl, r.cell (j := 1) rfl, r.cell (j := 2) rfl, r.cell (j := 3) rfl, r.cell (j := 4) rfl, r.cell (j := 5) rfl, r.cell (j := 6) rfl, r.cell (j := 7) rfl, r.cell (j := 8) rfl, r.1⟩)
  have lw := Nat.lt_succ_self w.heap.size
  clear aW rW hdo hjr hsn hin ok sm hrow hA hc hv hD hmy hj
  go_enter Tryz.func11, Tryz.ntmps11
  go_wp2_with fail
  rw [← hW]
  clear hW
  obtain ⟨c0, c1, c2, c3, c4, c5, c6, c7, c8, cz⟩ := KF.out W (Aft.refl W)
  go_wp2_with fail
  refine (CM.out W).mono ?_
  rintro e X ⟨rfl, aX⟩
  clear c0 c1 c2 c3 c4 c5 c6 c7 c8 cz CM
  obtain ⟨c0, c1, c2, c3, c4, c5, c6, c7, c8, cz⟩ := KF.out X aX
  have HAX := Lib.hid (HAW.out.trans aX)
  have HWX := Lib.hid aX
  clear aX
  cases my
  · go_wp2_with fail
    go_ret2
    rw [HDO.out, if_pos trivial]
    exact doQ_no HIN.out HAX.out 1
  · go_wp2_with fail
    refine (CF.out X HAX.out).mono ?_
    rintro e w1 ⟨rfl, rfl⟩
    clear CF
    by_cases hj0 : j < 0
    · have ej : j = -1 := by have := HJR.out.1; omega
      subst ej
      rw [ptrV_no]
      go_wp2_with fail
      go_ret2
      rw [HDO.out]
      simp only [Bool.true_eq_false, if_false, if_pos hj0]
      exact doQ_no HIN.out HAX.out 110
    · obtain ⟨q, rfl⟩ : ∃ q : Nat, j = q := ⟨j.toNat, by omega⟩
      have hq : q < L.length := by have := HJR.out.2; omega
      have HSQ := Lib.hid (HSN.out q hq)
      have P := PA.out L[q] (List.getElem_mem hq)
      rw [ptrV_at (by simpa using hq), List.getElem_map]
      have hdo := HDO.out
      simp only [Bool.true_eq_false, if_false, if_neg hj0, Int.toNat_natCast] at hdo
      rw [HSQ.out] at hdo
      have CI1 := Lib.hid (fun V a => CI.out V a q hq)
      have CR1 := Lib.hid (fun V a => CR.out V a q hq)
      have CC1 := Lib.hid (fun V a => CC.out V a q hq)
      obtain ⟨y, hy⟩ : ∃ y, L[q] = y := ⟨_, rfl⟩
      rw [hy] at hdo P CI1 CR1 CC1 ⊢
      have HD := Lib.hid hdo
      have HP := Lib.hid P
      have r3 := (P.row.aft HAX.out).cell (j := 3) rfl
      have rz := (P.row.aft HAX.out).1
      have hent := Lib.hid (enters (P := Tryz.prog) Tryz.func32 (by kernel_rfl) rfl)
      clear hdo P CI CR CC PA hy hj0
      cases he : emp col
      · have em1 : col.toList.isEmpty = false := he
        have em2 : ¬ col.toList = [] := by intro h; rw [h] at em1; cases em1
        have C := Lib.hid (contCol12 y.x.hc.a y.x.hc.c y.x.t.cols 32 #[.pointer (some ⟨w.heap.size, 0, none⟩)] (fun c => eqS c.name col) X (cols_aft HAX.out HP.out.cols) hent.out (fun w' ha i hi => by
          obtain ⟨_, _, _, _, _, c5, _, _, _, cz⟩ := KF.out w' (HWX.out.trans ha)
          exact do1 _ _ _ col w.heap.size w' cz c5))
        have hany := (any_iff (fun c : Col => eqS c.name col) y.x.t.cols)
        obtain ⟨an, han⟩ : ∃ an, y.x.t.cols.any (fun c => eqS c.name col) = an := ⟨_, rfl⟩
        rw [han] at C hany
        have HAN := Lib.hid hany
        clear hany han
        go_wp2_with fail
        refine C.out.mono ?_
        rintro e V ⟨rfl, aV⟩
        have HAV := Lib.hid (HAX.out.trans aV)
        clear c0 c1 c2 c3 c4 c5 c6 c7 c8 cz r3 rz C
        obtain ⟨c0, c1, c2, c3, c4, c5, c6, c7, c8, cz⟩ := KF.out V (HWX.out.trans aV)
        clear aV
        cases an
        · go_wp2_with fail
          go_ret2
          rw [HD.out, if_pos ⟨he, Int.not_le.1 fun h => by have := HAN.out.2 h; cases this⟩]
          exact doQ_no HIN.out HAV.out 110
        · have hcol : ¬ (emp col = false ∧ colAt y.s.t.cols col < 0) := fun h => absurd (HAN.out.1 rfl) (Int.not_le.2 h.2)
          have HCL := Lib.hid hcol
          clear hcol
          by_cases hk1 : kd = 1
          · subst hk1
            go_wp2_with fail
            refine (CI1.out V HAV.out).mono ?_
            rintro e w4 h4
            obtain ⟨u1, u2, rfl⟩ := h4.res
            have H4 := Lib.hid h4
            clear h4 CI1 CR1 CC1
            go_wp2_with fail
            go_ret2
            rw [HD.out]
            simp only [if_neg HCL.out, if_true]
            exact H4.out.from HAV.out
          · have ek1 : (kd == 1) = false := by simpa using hk1
            by_cases hk2 : kd = 2
            · subst hk2
              go_wp2_with fail
              refine (CR1.out V HAV.out).mono ?_
              rintro e w4 h4
              obtain ⟨u1, u2, rfl⟩ := h4.res
              have H4 := Lib.hid h4
              clear h4 CI1 CR1 CC1
              go_wp2_with fail
              go_ret2
              rw [HD.out]
              simp only [if_neg HCL.out, if_neg hk1, if_true]
              exact H4.out.from HAV.out
            · have ek2 : (kd == 2) = false := by simpa using hk2
              go_wp2_with fail
              refine (CC1.out V HAV.out).mono ?_
              rintro e w4 h4
              obtain ⟨u1, u2, rfl⟩ := h4.res
              have H4 := Lib.hid h4
              clear h4 CI1 CR1 CC1
              go_wp2_with fail
              go_ret2
              rw [HD.out]
              simp only [if_neg HCL.out, if_neg hk1, if_neg hk2]
              exact H4.out.from HAV.out
      · have em1 : col.toList.isEmpty = true := he
        have em2 : col.toList = [] := by simpa using em1
        have hcol : ¬ (emp col = false ∧ colAt y.s.t.cols col < 0) := fun h => by rw [he] at h; cases h.1
        have HCL := Lib.hid hcol
        clear hcol
        by_cases hk1 : kd = 1
        · subst hk1
          go_wp2_with fail
          refine (CI1.out X HAX.out).mono ?_
          rintro e w4 h4
          obtain ⟨u1, u2, rfl⟩ := h4.res
          have H4 := Lib.hid h4
          clear h4 CI1 CR1 CC1
          go_wp2_with fail
          go_ret2
          rw [HD.out]
          simp only [if_neg HCL.out, if_true]
          exact H4.out.from HAX.out
        · have ek1 : (kd == 1) = false := by simpa using hk1
          by_cases hk2 : kd = 2
          · subst hk2
            go_wp2_with fail
            refine (CR1.out X HAX.out).mono ?_
            rintro e w4 h4
            obtain ⟨u1, u2, rfl⟩ := h4.res
            have H4 := Lib.hid h4
            clear h4 CI1 CR1 CC1
            go_wp2_with fail
            go_ret2
            rw [HD.out]
            simp only [if_neg HCL.out, if_neg hk1, if_true]
            exact H4.out.from HAX.out
          · have ek2 : (kd == 2) = false := by simpa using hk2
            go_wp2_with fail
            refine (CC1.out X HAX.out).mono ?_
            rintro e w4 h4
            obtain ⟨u1, u2, rfl⟩ := h4.res
            have H4 := Lib.hid h4
            clear h4 CI1 CR1 CC1
            go_wp2_with fail
            go_ret2
            rw [HD.out]
            simp only [if_neg HCL.out, if_neg hk1, if_neg hk2]
            exact H4.out.from HAX.out
end Go.Proofs.YtiadkchlkdaceaaGreat

namespace Go.Proofs.YtiadkchlkdaceaaGreat
open Go.RowKit Go.Deep
set_option maxRecDepth 100000
set_option linter.unusedVariables false
structure Dmp where
  schema : ByteArray
  name : ByteArray
  cols : List Col
  rows : List (List Val)
def dumpS (S : List Shf) : List Dmp := S.map fun x => ⟨x.t.schema, x.t.name, x.t.cols, x.rows⟩
structure ODmp where
  schema : ByteArray
  name : ByteArray
  cols : List Col
  hc : Hd
  rows : List ORow
  hr : Hd
def ODmp.s (d : ODmp) : Dmp := ⟨d.schema, d.name, d.cols, d.rows.map (·.vals)⟩
def ODmp.cells (d : ODmp) : List Value := [.string d.schema, .string d.name, d.hc.v, d.hr.v]
def ODmp.blks (d : ODmp) : List Nat := d.hc.blk ++ (d.hr.blk ++ d.rows.flatMap (·.h.blk))
structure DmpIn (w : World) (B : Nat) (d : ODmp) : Prop where
  col : w.ownsRow B 93 3 d.hc.v d.cols.length (d.cols.flatMap colC)
  row : RowsIn w B d.hr d.rows
structure DmpsIn (w : World) (B : Nat) (hl : Hd) (L : List ODmp) : Prop where
  lst : w.ownsRow B 102 4 hl.v L.length (L.flatMap ODmp.cells)
  each : ∀ y ∈ L, DmpIn w B y
  nd : (hl.blk ++ L.flatMap ODmp.blks).Nodup
section
variable {w w' : World} {B s : Nat} {hl : Hd} {L : List ODmp}
theorem DmpIn.kb {P : Nat → Prop} {d : ODmp} (h : DmpIn w B d) (k : Kb P w w') (hne : ∀ g ∈ d.blks, ¬ P g) : DmpIn w' B d :=
  ⟨own_kb h.col k fun g hg => hne g (List.mem_append.2 (.inl (Hd.mem_blk.2 hg))), h.row.kb k fun g hg => hne g (List.mem_append.2 (.inr hg))⟩
theorem DmpIn.aft {d : ODmp} (h : DmpIn w B d) (a : Aft w w') : DmpIn w' B d := h.kb (P := fun _ => False) (Kb.of_aft a) fun _ _ h => h
theorem DmpIn.lt {d : ODmp} (h : DmpIn w B d) : ∀ g ∈ d.blks, B ≤ g ∧ g < w.heap.size := fun g hg => by
  rcases List.mem_append.1 hg with hg | hg
  · exact blk_lt h.col g hg
  · exact h.row.lt g hg
theorem DmpIn.down {B2 : Nat} {d : ODmp} (h : DmpIn w B d) (hB : B2 ≤ B) : DmpIn w B2 d := ⟨own_down h.col hB, h.row.down hB⟩
theorem DmpsIn.lt (h : DmpsIn w B hl L) : ∀ g ∈ hl.blk ++ L.flatMap ODmp.blks, B ≤ g ∧ g < w.heap.size := fun g hg => by
  rcases List.mem_append.1 hg with hg | hg
  · exact blk_lt h.lst g hg
  · obtain ⟨y, hy, hg⟩ := List.mem_flatMap.1 hg
    exact (h.each y hy).lt g hg
theorem DmpsIn.kb {P : Nat → Prop} (h : DmpsIn w B hl L) (k : Kb P w w') (hne : ∀ g ∈ hl.blk ++ L.flatMap ODmp.blks, ¬ P g) : DmpsIn w' B hl L :=
  ⟨own_kb h.lst k fun g hg => hne g (List.mem_append.2 (.inl (Hd.mem_blk.2 hg))), fun y hy => (h.each y hy).kb k fun g hg => hne g (List.mem_append.2 (.inr (List.mem_flatMap.2 ⟨y, hy, hg⟩))), h.nd⟩
theorem DmpsIn.aft (h : DmpsIn w B hl L) (a : Aft w w') : DmpsIn w' B hl L := h.kb (P := fun _ => False) (Kb.of_aft a) fun _ _ h => h
theorem DmpsIn.nil (w : World) (B : Nat) : DmpsIn w B ⟨none, 0, 0⟩ [] := ⟨own_nil _ _ _ _, (fun y h => by cases h), (by simp [blk_nil])⟩
theorem DmpsIn.push {wr w4 w5 : World} {h : Hd} {y : ODmp} {A' : Option Addr} {n cap' : Nat} {ob : Obj} (r : DmpsIn wr B h L) (a4 : Aft wr w4) (hy : DmpIn w4 wr.heap.size y) (ny : y.blks.Nodup) (hB : B ≤ wr.heap.size) (hn : n = L.length + 1)
    (hg : (w4.alloc ob).grownBy w5 h.v.ownBlock) (hown : w5.ownsRow B 102 4 (.slice A' n cap') n (L.flatMap ODmp.cells ++ y.cells)) (hblk : ∀ g ∈ (Hd.mk A' n cap').blk, h.v.ownBlock = some g ∨ w4.heap.size + 1 ≤ g) :
    DmpsIn w5 B ⟨A', n, cap'⟩ (L ++ [y]) := by
  have k := Kb.of_grown hg
  have hlt := r.lt
  have hnd := List.nodup_append.1 r.nd
  have hz := a4.size
  have hol := hy.lt
  refine ⟨?_, fun x hx => ?_, ?_⟩
  · have e : (L ++ [y]).length = n := by simp [hn]
    rw [e]
    simpa [List.flatMap_append, Hd.v] using hown
  · rcases List.mem_append.1 hx with hx | hx
    · refine ((r.each x hx).aft (a4.alloc ob)).kb k fun g hg2 e => ?_
      exact hnd.2.2 g (Hd.mem_blk.2 e) g (List.mem_flatMap.2 ⟨x, hx, hg2⟩) rfl
    · rw [List.mem_singleton] at hx
      subst hx
      refine ((hy.aft ((Aft.refl w4).alloc ob)).kb k fun g hg2 e => ?_).down hB
      have h1 := (hlt g (List.mem_append.2 (.inl (Hd.mem_blk.2 e)))).2
      have h2 := (hol g hg2).1
      omega
  · rw [List.flatMap_append, List.flatMap_cons, List.flatMap_nil, List.append_nil]
    have n2 : (L.flatMap ODmp.blks ++ y.blks).Nodup := nodup_more (N := wr.heap.size) hnd.2.1 ny (fun g hg => (hlt g (List.mem_append.2 (.inr hg))).2) (fun g hg => (hol g hg).1)
    refine List.nodup_append.2 ⟨blk_nodup _, n2, fun a ha b hb e => ?_⟩
    subst e
    rcases hblk a ha with h1 | h1
    · have h2 := hlt a (List.mem_append.2 (.inl (Hd.mem_blk.2 h1)))
      rcases List.mem_append.1 hb with hb | hb
      · exact hnd.2.2 a (Hd.mem_blk.2 h1) a hb rfl
      · have := (hol a hb).1; omega
    · rcases List.mem_append.1 hb with hb | hb
      · have := (hlt a (List.mem_append.2 (.inr hb))).2; omega
      · have := (hol a hb).2; omega
end
def DumpP (w : World) (l : List Dmp) (e : Ending) (w' : World) : Prop := ∃ h D, D.map ODmp.s = l ∧ e = .returned (.slice h.a l.length h.c) ∧ Aft w w' ∧ DmpsIn w' w.heap.size h D
end Go.Proofs.YtiadkchlkdaceaaGreat

namespace Go.Proofs.YtiadkchlkdaceaaGreat
open Go.RowKit Go.Deep
set_option maxRecDepth 100000
set_option linter.unusedVariables false
theorem info2Dmp : (Tryz.prog.info? 102).map (fun i => (i.zero, i.size, i.bytes)) = some (some (.agg #[.string ByteArray.empty, .string ByteArray.empty, .slice none 0 0, .slice none 0 0]), 4, 80) := by kernel_rfl
theorem new12 (w : World) : Calls Tryz.prog 5 #[] w fun e w' => e = .returned (.pointer (some ⟨w.heap.size, 0, none⟩)) ∧ Aft w w' ∧ StoIn w' w.heap.size w.heap.size ⟨none, 0, 0⟩ [] := by
  go_enter Tryz.func5, Tryz.ntmps5
  go_wp2_with fail
  go_ret
  exact ⟨rfl, (Aft.refl _).alloc _, Nat.le_refl _, box_row2 (c := [.slice none 0 0]) (Aft.refl _), own_nil _ _ _ _, (fun y h => by cases h), by simp [blk_nil]⟩
set_option maxHeartbeats 8000000 in
theorem dump12 (B s : Nat) (hl : Hd) (L : List OShf) (ss : List Sch) (w : World) (hin : StoIn w B s hl L) (ok : SOk (storeS L) ss) (sm : ∀ y ∈ L, SmT y.x.t) :
    Calls Tryz.prog 15 #[.pointer (some ⟨s, 0, none⟩)] w (DumpP w (dumpS (storeS L))) := by
  obtain ⟨i0, hi, hz0, hz1, hz2⟩ := info_parts info2Dmp
  have HI := Lib.hid hi
  have HZ0 := Lib.hid hz0
  have HZ1 := Lib.hid hz1
  have HZ2 := Lib.hid hz2
  clear hi hz0 hz1 hz2
  have PA := Lib.hid (show ∀ y ∈ L, Parted w y from fun y hy => parted hin ok sm hy)
  have HOK := Lib.hid ok
  have hpl : SlAt w 1 PtrR hl.a hl.c (L.map (·.p)) := own_slo ptrC (·.p) hin.lst (fun y hy => ⟨rfl, rfl⟩) (by have := ok.good.nt; simp [storeS] at this; unfold Small; omega)
  have HPL := Lib.hid hpl
  have hlen : L.length ≤ 64 := by have := ok.good.nt; simpa [storeS] using this
  have rs := hin.row
  rw [own_slice hin.lst] at rs
  have s0 := rs.cell (j := 0) rfl
  have sz := rs.1
  have hdd : (dumpS (storeS L)).length = L.length := by simp [dumpS, storeS]
  have HDD := Lib.hid hdd
  have HDS := Lib.hid (show dumpS (storeS L) = L.map fun y => (⟨y.x.t.schema, y.x.t.name, y.x.t.cols, y.rows.map (·.vals)⟩ : Dmp) by unfold dumpS storeS; rw [List.map_map]; rfl)
  clear hin ok sm hpl rs hdd
  go_enter Tryz.func15, Tryz.ntmps15
  go_wp2_with fail
  go_loopw [3, 13] (fun v i wr => ∃ (k : Nat) (h : Hd) (D : List ODmp), k ≤ L.length ∧ i = .int .i64 k ∧ v = .slice h.a k h.c ∧ D.map ODmp.s = (L.take k).map (fun y => (⟨y.x.t.schema, y.x.t.name, y.x.t.cols, y.rows.map (·.vals)⟩ : Dmp)) ∧ Aft w wr ∧ DmpsIn wr w.heap.size h D) (fun _ i _ => L.length - (intOf i).toNat)
  case atStart => exact ⟨0, ⟨none, 0, 0⟩, [], Nat.zero_le _, rfl, rfl, rfl, Aft.refl _, DmpsIn.nil _ _⟩
  case round =>
    obtain ⟨k, h, D, hk, rfl, rfl, hD, ha, hdn⟩ := hrel
    have HA := Lib.hid ha
    have HDN := Lib.hid hdn
    have HDM := Lib.hid hD
    have HLL := Lib.hid (show D.length = k by have := congrArg List.length hD; simpa [Nat.min_eq_left hk] using this)
    clear ha hdn hD s0 sz
    by_cases hlt : k < L.length
    · obtain ⟨b, off, hA8, hb, c0⟩ := ptr_at (ptrs_aft HA.out HPL.out) (k := k) (by simpa using hlt)
      rw [List.getElem_map] at c0
      have PY := PA.out _ (List.getElem_mem hlt)
      have HTK := Lib.hid (List.take_succ_eq_append_getElem hlt)
      have h8 : L[k].x.t.cols.length ≤ 8 := (HOK.out.shf (x := L[k].s) (List.mem_map_of_mem (List.getElem_mem hlt))).2.1
      obtain ⟨y, hy⟩ : ∃ y, L[k] = y := ⟨_, rfl⟩
      rw [hy] at c0 PY HTK h8
      have HPY := Lib.hid PY
      have ry := PY.row.aft HA.out
      have y0 := ry.cell (j := 0) rfl
      have y1 := ry.cell (j := 1) rfl
      have y3 := ry.cell (j := 3) rfl
      have y5 := ry.cell (j := 5) rfl
      have yz := ry.1
      have C1 := Lib.hid (show ∀ V, Aft wr V → _ from fun V a => clone2Col y.x.hc.a y.x.hc.c y.x.t.cols V V (Aft.refl V) (cols_aft (HA.out.trans a) HPY.out.cols) (by omega))
      have C2 := Lib.hid (show ∀ V, Aft wr V → Calls Tryz.prog 41 #[.slice y.hr.a y.rows.length y.hr.c] V (RowsP V (y.rows.map (·.vals))) from fun V a => by
        have := copied12 (y.rows.map (·.vals)) y.hr.a y.hr.c V (rows_aft (HA.out.trans a) (orows_rows HPY.out.rows)) (by simpa using HPY.out.most) (fun r hr => by
          obtain ⟨o, ho, rfl⟩ := List.mem_map.1 hr
          have h1 := ((besideB_iff formB _ _).1 (HPY.out.form o ho)).1
          omega)
        simpa using this)
      have zw := HA.out.size
      have v0 : h.v = .slice h.a k h.c := by rw [own_slice HDN.out.lst, HLL.out]
      have HV0 := Lib.hid v0
      have own := HDN.out.lst
      rw [v0, HLL.out] at own
      have HOW := Lib.hid own
      have hyw : y.p < w.heap.size := PY.row.1
      have n1 : ¬ InV (.slice h.a k h.c) y.p := fun hg => by have := (HOW.out.lt _ hg).1; omega
      rw [hA8]
      clear PY ry hy hA8 v0 own
      go_wp2_with fail
      refine wp_region_ord [0, 1, 2, 3, 4, 5, 6, 7, 8, 9, 10, 11, 12, 13, 14, 15, 17, 18, 19, 20, 16, 21, 22, 23, 24, 25] [0, 0, 0, 0, 0, 0, 0, 0, 0, 0, 0, 0, 0, 0, 0, 0, 0, 0, 0, 0, 1, 1, 1, 1, 1, 2] 25 (fun l => l.take 16 ++ ((l.drop 17).take 4 ++ ((l.drop 16).take 1 ++ l.drop 21))) (fun w' => ∃ x : KLat (.slice h.a k h.c) wr, w' = klat (.slice h.a k h.c) wr x) (by kernel_rfl) (by kernel_rfl) rfl (KL.aft (Aft.refl wr).drew) ?_
      simp only [List.take_succ_cons, List.take_zero, List.drop_succ_cons, List.drop_zero, List.cons_append, List.nil_append]
      refine wpOrd_reads 20 rfl (by decide) (by simp) rfl ?_
      simp only [List.take_succ_cons, List.take_zero, List.drop_succ_cons, List.drop_zero]
      repeat (go_big_quiet_step (fail))
      refine wpQuiet_nil ?_
      refine wpOrd_step (fun K hK => ?_)
      go_simp
      obtain ⟨D9, hD9⟩ : ∃ D9, D9 = wr.drew := ⟨_, rfl⟩
      have aD : Aft wr D9 := by rw [hD9]; exact (Aft.refl wr).drew
      rw [← hD9]
      go_at_call 40
      refine (C1.out D9 aD).mono ?_
      rintro e Z ⟨v9, css, rfl, aZ, ho9, hch⟩
      dsimp only
      rw [flat_cols hch] at ho9
      obtain ⟨h9, rfl, hn9⟩ := own_head ho9
      rw [own_slice ho9]
      refine hK _ _ (KL.aft (aD.trans aZ)) ?_
      clear hK K hD9
      refine wpOrd_step (fun K hK => ?_)
      go_simp
      go_at_call 41
      refine (C2.out Z (aD.trans aZ)).mono ?_
      rintro e Y ⟨h7, R, hR, rfl, aY, inY, nd⟩
      dsimp only
      refine hK _ _ (KL.aft ((aD.trans aZ).trans aY)) ?_
      clear hK K
      have HWY := Lib.hid ((aD.trans aZ).trans aY)
      have HO9 := Lib.hid (own_aft ho9 aY)
      have HIY := Lib.hid inY
      have HND := Lib.hid nd
      have HRR := Lib.hid hR
      have zD := aD.size
      have zZ := aZ.size
      have zY := aY.size
      have HL9 := Lib.hid (blk_lt ho9)
      clear C1 C2 ho9 hch inY nd hR aD aZ aY hn9
      simp only [List.length_map]
      refine wpOrd_step (fun K hK => ?_)
      go_simp
      refine hK _ _ (KL.aft HWY.out) ?_
      clear hK K
      refine wpOrd_step (fun K hK => ?_)
      go_simp
      refine hK _ _ (KL.aft (HWY.out.alloc _)) ?_
      clear hK K
      refine wpOrd_step (fun K hK => ?_)
      refine wp_append_lies _ (.tmp 17) (.tmp 40) 52 rfl w.heap.size 102 i0 _ 4 80 Tryz.underlying52 HI.out HZ0.out HZ1.out HZ2.out rfl (by decide) (.slice h.a k h.c) k (D.flatMap ODmp.cells) (by rfl) ((own_aft HOW.out HWY.out).alloc _) ⟨Y.heap.size, 0, none⟩ 1 1 [.string y.x.t.schema, .string y.x.t.name, .slice h9.a y.x.t.cols.length h9.c, .slice h7.a y.rows.length h7.c] (by rfl) rfl (World.news_of_block (cs := #[.string y.x.t.schema, .string y.x.t.name, .slice h9.a y.x.t.cols.length h9.c, .slice h7.a y.rows.length h7.c]) (t := 102) (fr := (0, 0)) (heap_alloc_new Y _)) (by simp [Value.oneCell']) (by omega) (by unfold maxLen; omega) (by omega) (by simp; omega) (Y.heap.size + 1) (by simp) ?_
      intro gg cap' w5 hown5 hgrow hat hgl
      refine hK _ _ (KL.of ((Kb.of_aft (HWY.out.alloc _)).trans (kb_in hgrow))) ?_
      clear hK K
      refine wpOrd_last (fun K hK => ?_)
      go_simp
      refine hK _ _ ?_
      clear hK K
      refine NoPanic.normal ?_
      have hyd : DmpIn Y wr.heap.size ⟨y.x.t.schema, y.x.t.name, y.x.t.cols, h9, R, h7⟩ := ⟨own_down HO9.out (by omega), HIY.out.down (by omega)⟩
      have hnd : (ODmp.blks ⟨y.x.t.schema, y.x.t.name, y.x.t.cols, h9, R, h7⟩).Nodup := by
        unfold ODmp.blks
        refine List.nodup_append.2 ⟨blk_nodup _, HND.out, fun a ha b hb e => ?_⟩
        have h1 := (HL9.out a ha).2
        have h2 := (HIY.out.lt b hb).1
        omega
      have hlr : R.length = y.rows.length := by have := congrArg List.length HRR.out; simpa using this
      have hcell : ODmp.cells ⟨y.x.t.schema, y.x.t.name, y.x.t.cols, h9, R, h7⟩ = [.string y.x.t.schema, .string y.x.t.name, .slice h9.a y.x.t.cols.length h9.c, .slice h7.a y.rows.length h7.c] := by
        unfold ODmp.cells
        rw [own_slice HO9.out, own_slice HIY.out.own, hlr]
      have HP := Lib.hid (show DmpsIn w5 w.heap.size ⟨some ⟨gg, 0, none⟩, k + 1, cap'⟩ (D ++ [⟨y.x.t.schema, y.x.t.name, y.x.t.cols, h9, R, h7⟩]) from HDN.out.push (ob := .cells #[.string y.x.t.schema, .string y.x.t.name, .slice h9.a y.x.t.cols.length h9.c, .slice h7.a y.rows.length h7.c] 102) HWY.out hyd hnd zw (by rw [HLL.out]) (by rw [HV0.out]; exact hgrow) (by rw [hcell]; exact hown5) (by
        rw [HV0.out]
        intro g hg
        rw [blk_some, List.mem_singleton] at hg
        subst hg
        rcases hat with h | h
        · exact .inl h
        · exact .inr (by rw [h]; exact Nat.le_refl _)))
      have HA5 := Lib.hid (show Aft w w5 from aft_grown (own_aft HOW.out (HWY.out.alloc _)) ((HA.out.trans HWY.out).alloc _) hgrow)
      have HT2 := Lib.hid (show (D ++ [(⟨y.x.t.schema, y.x.t.name, y.x.t.cols, h9, R, h7⟩ : ODmp)]).map ODmp.s = (L.take (k + 1)).map (fun y => (⟨y.x.t.schema, y.x.t.name, y.x.t.cols, y.rows.map (·.vals)⟩ : Dmp)) by
        rw [List.map_append, HDM.out, HTK.out, List.map_append, List.map_cons, List.map_nil, List.map_cons, List.map_nil]
        unfold ODmp.s
        rw [HRR.out])
      clear hown5 hgrow hat hgl hyd hnd hlr hcell
      go_wp2_with fail
      go_roundw
      case rel => exact ⟨k + 1, ⟨some ⟨gg, 0, none⟩, k + 1, cap'⟩, _, by omega, by go_num, rfl, HT2.out, HA5.out, HP.out⟩
      case measure => simp [intOf]; omega
    · have e1 : L.take k = L := List.take_of_length_le (by omega)
      have e2 : k = L.length := by omega
      have HF := Lib.hid (show D.map ODmp.s = dumpS (storeS L) by rw [HDM.out, e1, HDS.out])
      have HKL := Lib.hid (e2.trans HDD.out.symm)
      clear e1 e2
      go_wp2_with fail
      go_ret
      exact ⟨h, D, HF.out, by rw [← HKL.out]; rfl, HA.out, HDN.out⟩
end Go.Proofs.YtiadkchlkdaceaaGreat

namespace Go.Proofs.YtiadkchlkdaceaaGreat
open Go.RowKit Go.Deep
set_option maxRecDepth 100000
set_option linter.unusedVariables false
theorem aft_kb {P : Nat → Prop} {w V V' : World} (a : Aft w V) (k : Kb P V V') (h : ∀ g, P g → w.heap.size ≤ g) : Aft w V' :=
  ⟨k.os.trans a.os, k.tape.trans a.tape, k.output.trans a.output, Nat.le_trans a.size k.size, fun g hg => (k.block g (Nat.lt_of_lt_of_le hg a.size) (fun hp => by have := h g hp; omega)).trans (a.block g hg)⟩
/-- a store of our own, made behind w -/
def AwI (w W : World) (S : List Shf) : Prop := ∃ hl L, storeS L = S ∧ StoIn W w.heap.size w.heap.size hl L ∧ (∀ y ∈ L, SmT y.x.t) ∧ Aft w W
theorem AwI.aft {w W W' : World} {S : List Shf} (h : AwI w W S) (a : Aft W W') : AwI w W' S := by
  obtain ⟨hl, L, q1, q2, q3, q4⟩ := h
  exact ⟨hl, L, q1, q2.aft a, q3, q4.trans a⟩
/-- what an operation tells, and the store behind it -/
def AwP (w : World) (r : List Shf × List (List Val) × Int) (e : Ending) (w' : World) : Prop :=
  ∃ A c, e = .returned (.tuple #[.slice A r.2.1.length c, .int .i64 r.2.2]) ∧ AwI w w' r.1
theorem do_aw {w V0 V : World} {S : List Shf} {ss : List Sch} (x : ROp) (A : Option Addr) (cap : Nat) (hI : AwI w V0 S) (a0 : Aft V0 V) (ok : SOk S ss) (hrow : SlAt V 3 ValR A cap x.row) (hA : ∀ b off, A = some ⟨b, off, none⟩ → V0.heap.size ≤ b) (hc : Small x.col.size) (hv : Small x.v.text.size) :
    Calls Tryz.prog 11 #[.pointer (some ⟨w.heap.size, 0, none⟩), .agg #[.int .i64 x.kind, .string x.role, .string x.schema, .string x.table, .slice A x.row.length cap, .string x.col, .int .i64 x.v.kind, .int .i64 x.v.int, .string x.v.text]] V (AwP w (doS S x)) := by
  obtain ⟨hl, L, rfl, h2, h3, h4⟩ := hI
  refine (do12 w.heap.size w.heap.size hl L ss x A cap V (h2.aft a0) ok h3 hrow (fun b off e _ hb => by
    have h5 := hA b off e
    have h6 := (h2.lt b hb).2
    omega) hc hv).mono fun e w' ⟨L', h, R, q1, q2, q3, q4, q5, q6, q7, q8, q9, q10⟩ => ⟨h.a, h.c, q3, hl, L', q1, q5, fun y hy => ?_, aft_kb (h4.trans a0) q4 fun g hg => (h2.lt g hg).1⟩
  have : y.x ∈ L.map OShf.x := by rw [← q6]; exact List.mem_map_of_mem hy
  obtain ⟨y', hy', e⟩ := List.mem_map.1 this
  rw [← e]
  exact h3 y' hy'
theorem load_aw {w V0 V : World} {S : List Shf} {ss : List Sch} (o : Objs) (As : Option Addr) (caps : Nat) (At : Option Addr) (capt : Nat) (hI : AwI w V0 S) (a0 : Aft V0 V) (ok : SOk S ss) (hsch : SlAt V 2 SchR As caps o.schemas) (htab : SlAt V 5 TabR At capt o.tables) :
    Calls Tryz.prog 8 #[.pointer (some ⟨w.heap.size, 0, none⟩), .agg #[.slice As o.schemas.length caps, .slice At o.tables.length capt]] V fun e w' => e = .returned (.int .i64 (loadS S o).2) ∧ AwI w w' (loadS S o).1 := by
  obtain ⟨hl, L, rfl, h2, h3, h4⟩ := hI
  refine (load12 w.heap.size w.heap.size hl L ss o As caps At capt V (h2.aft a0) ok h3 hsch htab).mono fun e w' ⟨hl', L', q1, q2, q3, q4, q5⟩ => ⟨q2, hl', L', q1, q4, fun y hy => ?_, aft_kb (h4.trans a0) q3 fun g hg => by rw [hg]; exact Nat.le_refl _⟩
  have hm : y.s ∈ (loadS (storeS L) o).1 := by rw [← q1]; exact List.mem_map_of_mem hy
  unfold loadS at hm
  split at hm
  · obtain ⟨t, ht, e⟩ := List.mem_map.1 hm
    have e1 : t = y.x.t := congrArg Shf.t e
    rw [← e1]
    exact (sm_tabs htab).2 t ht
  · obtain ⟨y2, hy2, e⟩ := List.mem_map.1 hm
    have e1 : y2.x.t = y.x.t := congrArg Shf.t e
    rw [← e1]
    exact h3 y2 hy2
theorem new_aw (w : World) : Calls Tryz.prog 5 #[] w fun e w' => e = .returned (.pointer (some ⟨w.heap.size, 0, none⟩)) ∧ AwI w w' [] :=
  (new12 w).mono fun e w' ⟨q1, q2, q3⟩ => ⟨q1, _, [], rfl, q3, (fun y hy => by cases hy), q2⟩
theorem dump_aw {w V0 V : World} {S : List Shf} {ss : List Sch} (hI : AwI w V0 S) (a0 : Aft V0 V) (ok : SOk S ss) : Calls Tryz.prog 15 #[.pointer (some ⟨w.heap.size, 0, none⟩)] V (DumpP V (dumpS S)) := by
  obtain ⟨hl, L, rfl, h2, h3, h4⟩ := hI
  exact dump12 w.heap.size w.heap.size hl L ss V (h2.aft a0) ok h3
set_option maxHeartbeats 8000000 in
theorem awake12 (w : World) : Calls Tryz.prog 18 #[] w fun e w' => e = .returned (.bool true) ∧ Aft w w' := by
  have k0 : SOk aw0 sO12.schemas := loadS_ok nil_ok sO12_ok
  have k1 : SOk aw1 sO12.schemas := doS_ok _ k0
  have k2 : SOk aw2 sO12.schemas := doS_ok _ k1
  have k3 : SOk aw3 sO12.schemas := doS_ok _ k2
  have k4 : SOk aw4 sO12.schemas := doS_ok _ k3
  have k5 : SOk aw5 sO12.schemas := doS_ok _ k4
  have k6 : SOk aw6 sO12.schemas := doS_ok _ k5
  have k7 : SOk aw7 sO12.schemas := doS_ok _ k6
  have hz : Small (ByteArray.mk #[]).size := by unfold Small; decide
  have hx : Small (ByteArray.mk #[120]).size := by unfold Small; decide
  have K0 := Lib.hid k0
  have K1 := Lib.hid k1
  have K2 := Lib.hid k2
  have K3 := Lib.hid k3
  have K4 := Lib.hid k4
  have K5 := Lib.hid k5
  have K6 := Lib.hid k6
  have K7 := Lib.hid k7
  have HZ := Lib.hid hz
  have HX := Lib.hid hx
  clear k0 k1 k2 k3 k4 k5 k6 k7 hz hx
  go_enter Tryz.func18, Tryz.ntmps18
  go_wp2_with fail
  refine (new_aw w).mono ?_
  rintro e w0 ⟨rfl, hI⟩
  have I0 := Lib.hid hI
  clear hI
  go_wp2_with fail
  refine (one12 w0).mono ?_
  rintro e w1 ⟨As, caps, At, capt, rfl, a1, h1, h2⟩
  have A1 := Lib.hid a1
  have L1 := Lib.hid (load_aw sO12 As caps At capt I0.out a1 nil_ok h1 h2)
  clear a1 h1 h2
  go_wp2_with fail
  refine L1.out.mono ?_
  rintro e v0 ⟨rfl, hI⟩
  have J0 := Lib.hid (show AwI w v0 aw0 from hI)
  rw [show (loadS [] sO12).2 = 0 from by decide +kernel]
  clear hI L1
  go_wp2_with fail
  refine (lay12_is 1 0 v0).mono ?_
  rintro e w1 ⟨A, cap, rfl, a1, h1, h2⟩
  have D1 := Lib.hid (do_aw (lay12 1 0) A cap J0.out a1 K0.out h1 h2 HZ.out HZ.out)
  clear a1 h1 h2
  go_wp2_with fail
  refine D1.out.mono ?_
  rintro e v1 ⟨A1, c1, rfl, hI⟩
  have J1 := Lib.hid (show AwI w v1 aw1 from hI)
  rw [aw_1]
  clear hI D1
  go_wp2_with fail
  refine (lay12_is 1 0 v1).mono ?_
  rintro e w1 ⟨A, cap, rfl, a1, h1, h2⟩
  have D1 := Lib.hid (do_aw (lay12 1 0) A cap J1.out a1 K1.out h1 h2 HZ.out HZ.out)
  clear a1 h1 h2
  go_wp2_with fail
  refine D1.out.mono ?_
  rintro e v2 ⟨A2, c2, rfl, hI⟩
  have J2 := Lib.hid (show AwI w v2 aw2 from hI)
  rw [aw_2]
  clear hI D1
  go_wp2_with fail
  refine (lay12_is 2 3 v2).mono ?_
  rintro e w1 ⟨A, cap, rfl, a1, h1, h2⟩
  have D1 := Lib.hid (do_aw (lay12 2 3) A cap J2.out a1 K2.out h1 h2 HZ.out HZ.out)
  clear a1 h1 h2
  go_wp2_with fail
  refine D1.out.mono ?_
  rintro e v3 ⟨A3, c3, rfl, hI⟩
  have J3 := Lib.hid (show AwI w v3 aw3 from hI)
  rw [aw_3]
  clear hI D1
  go_wp2_with fail
  refine (lay12_is 2 2 v3).mono ?_
  rintro e w1 ⟨A, cap, rfl, a1, h1, h2⟩
  have D1 := Lib.hid (do_aw (lay12 2 2) A cap J3.out a1 K3.out h1 h2 HZ.out HZ.out)
  clear a1 h1 h2
  go_wp2_with fail
  refine D1.out.mono ?_
  rintro e v4 ⟨A4, c4, rfl, hI⟩
  have J4 := Lib.hid (show AwI w v4 aw4 from hI)
  rw [aw_4]
  clear hI D1
  go_wp2_with fail
  refine (lay12_is 3 2 v4).mono ?_
  rintro e w1 ⟨A, cap, rfl, a1, h1, h2⟩
  have D1 := Lib.hid (do_aw (lay12 3 2) A cap J4.out a1 K4.out h1 h2 HZ.out HZ.out)
  clear a1 h1 h2
  go_wp2_with fail
  refine D1.out.mono ?_
  rintro e v5 ⟨A5, c5, rfl, hI⟩
  have J5 := Lib.hid (show AwI w v5 aw5 from hI)
  rw [aw_5]
  clear hI D1
  go_wp2_with fail
  refine (drop12_is 2 v5).mono ?_
  rintro e w1 ⟨rfl, a1⟩
  have D1 := Lib.hid (do_aw (drop12 2) none 0 J5.out a1 K5.out slAt_nil (fun b off h => by cases h) HX.out HZ.out)
  clear a1
  go_wp2_with fail
  refine D1.out.mono ?_
  rintro e v6 ⟨A6, c6, rfl, hI⟩
  have J6 := Lib.hid (show AwI w v6 aw6 from hI)
  rw [aw_6]
  clear hI D1
  go_wp2_with fail
  refine (drop12_is 3 v6).mono ?_
  rintro e w1 ⟨rfl, a1⟩
  have D1 := Lib.hid (do_aw (drop12 3) none 0 J6.out a1 K6.out slAt_nil (fun b off h => by cases h) HX.out HZ.out)
  clear a1
  go_wp2_with fail
  refine D1.out.mono ?_
  rintro e v7 ⟨A7, c7, rfl, hI⟩
  have J7 := Lib.hid (show AwI w v7 aw7 from hI)
  rw [aw_7]
  rw [aw_7l]
  clear hI D1
  go_wp2_with fail
  refine (drop12_is 2 v7).mono ?_
  rintro e w1 ⟨rfl, a1⟩
  have D1 := Lib.hid (do_aw (drop12 2) none 0 J7.out a1 K7.out slAt_nil (fun b off h => by cases h) HX.out HZ.out)
  clear a1
  go_wp2_with fail
  refine D1.out.mono ?_
  rintro e v8 ⟨A8, c8, rfl, hI⟩
  have J8 := Lib.hid (show AwI w v8 (doS aw7 (drop12 2)).1 from hI)
  rw [aw_8]
  clear hI D1
  go_wp2_with fail
  go_ret
  obtain ⟨hl, L, q1, q2, q3, q4⟩ := J8.out
  exact ⟨rfl, q4⟩
end Go.Proofs.YtiadkchlkdaceaaGreat

namespace Go.Proofs.YtiadkchlkdaceaaGreat
open Go.ChangeShapes Go.WideShapes Go.ChangeAt Go.RowKit
set_option maxRecDepth 100000
set_option linter.unusedVariables false
section
variable {H : Type} {enc : TypeId × Value → H} {w : World}
theorem rd_str {cs : List Value} (h : Rd enc Tryz.prog w 9 cs) : ∃ x, StrR w cs x := by
  obtain ⟨s, e, z⟩ := h.string Tryz.underlying9
  exact ⟨s, e, z⟩
theorem rd_strs {cs : List Value} (h : Rd enc Tryz.prog w 60 cs) : ∃ l, SlOf w 1 StrR cs l :=
  Rd.slice Tryz.underlying60 (by kernel_rfl : Tryz.prog.cellsOf 9 = 1) (by decide) (of_decide_eq_true (by kernel_rfl)) (fun _ h => rd_str h) h
theorem rd_col {cs : List Value} (h : Rd enc Tryz.prog w 93 cs) : ∃ x, ColR w cs x := by
  obtain ⟨hl, _⟩ := h.struct Tryz.underlying93
  rw [show Tryz.prog.cellsOf 93 = 3 by kernel_rfl] at hl
  match cs, hl with
  | [c0, c1, c2], _ =>
    have f0 := h.field Tryz.underlying93 0 9 0 1 rfl (by kernel_rfl)
    have f1 := h.field Tryz.underlying93 1 35 1 1 rfl (by kernel_rfl)
    have f2 := h.field Tryz.underlying93 2 4 2 1 rfl (by kernel_rfl)
    clear h
    obtain ⟨x0, e0, z0⟩ := f0.string Tryz.underlying9
    obtain ⟨x1, e1, _⟩ := f1.int Tryz.underlying35
    obtain ⟨x2, e2⟩ := f2.bool Tryz.underlying4
    simp at e0 e1 e2
    subst e0 e1 e2
    exact ⟨⟨x0, x1, x2⟩, rfl, z0⟩
theorem rd_cols {cs : List Value} (h : Rd enc Tryz.prog w 73 cs) : ∃ l, SlOf w 3 ColR cs l :=
  Rd.slice Tryz.underlying73 (by kernel_rfl : Tryz.prog.cellsOf 93 = 3) (by decide) (of_decide_eq_true (by kernel_rfl)) (fun _ h => rd_col h) h
theorem rd_rule {cs : List Value} (h : Rd enc Tryz.prog w 108 cs) : ∃ x, RulR w cs x := by
  obtain ⟨hl, _⟩ := h.struct Tryz.underlying108
  rw [show Tryz.prog.cellsOf 108 = 8 by kernel_rfl] at hl
  match cs, hl with
  | [c0, c1, c2, c3, c4, c5, c6, c7], _ =>
    have f0 := h.field Tryz.underlying108 0 9 0 1 rfl (by kernel_rfl)
    have f1 := h.field Tryz.underlying108 1 106 1 1 rfl (by kernel_rfl)
    have f2 := h.field Tryz.underlying108 2 60 2 1 rfl (by kernel_rfl)
    have f3 := h.field Tryz.underlying108 3 3 3 1 rfl (by kernel_rfl)
    have f4 := h.field Tryz.underlying108 4 3 4 1 rfl (by kernel_rfl)
    have f5 := h.field Tryz.underlying108 5 9 5 1 rfl (by kernel_rfl)
    have f6 := h.field Tryz.underlying108 6 9 6 1 rfl (by kernel_rfl)
    have f7 := h.field Tryz.underlying108 7 9 7 1 rfl (by kernel_rfl)
    clear h
    obtain ⟨x0, e0, z0⟩ := f0.string Tryz.underlying9
    obtain ⟨x1, e1, _⟩ := f1.int Tryz.underlying106
    obtain ⟨x2, A2, cap2, e2, z2⟩ := rd_strs f2
    obtain ⟨x3, e3, _⟩ := f3.int Tryz.underlying3
    obtain ⟨x4, e4, _⟩ := f4.int Tryz.underlying3
    obtain ⟨x5, e5, z5⟩ := f5.string Tryz.underlying9
    obtain ⟨x6, e6, z6⟩ := f6.string Tryz.underlying9
    obtain ⟨x7, e7, z7⟩ := f7.string Tryz.underlying9
    simp at e0 e1 e2 e3 e4 e5 e6 e7
    subst e0 e1 e2 e3 e4 e5 e6 e7
    exact ⟨⟨x0, x1, x2, x3, x4, x5, x6, x7⟩, A2, cap2, rfl, z2, z0, z5, z6, z7⟩
theorem rd_rules {cs : List Value} (h : Rd enc Tryz.prog w 74 cs) : ∃ l, SlOf w 8 RulR cs l :=
  Rd.slice Tryz.underlying74 (by kernel_rfl : Tryz.prog.cellsOf 108 = 8) (by decide) (of_decide_eq_true (by kernel_rfl)) (fun _ h => rd_rule h) h
theorem rd_tab {cs : List Value} (h : Rd enc Tryz.prog w 76 cs) : ∃ x, TabR w cs x := by
  obtain ⟨hl, _⟩ := h.struct Tryz.underlying76
  rw [show Tryz.prog.cellsOf 76 = 5 by kernel_rfl] at hl
  match cs, hl with
  | [c0, c1, c2, c3, c4], _ =>
    have f0 := h.field Tryz.underlying76 0 9 0 1 rfl (by kernel_rfl)
    have f1 := h.field Tryz.underlying76 1 9 1 1 rfl (by kernel_rfl)
    have f2 := h.field Tryz.underlying76 2 9 2 1 rfl (by kernel_rfl)
    have f3 := h.field Tryz.underlying76 3 73 3 1 rfl (by kernel_rfl)
    have f4 := h.field Tryz.underlying76 4 74 4 1 rfl (by kernel_rfl)
    clear h
    obtain ⟨x0, e0, z0⟩ := f0.string Tryz.underlying9
    obtain ⟨x1, e1, z1⟩ := f1.string Tryz.underlying9
    obtain ⟨x2, e2, z2⟩ := f2.string Tryz.underlying9
    obtain ⟨x3, A3, cap3, e3, z3⟩ := rd_cols f3
    obtain ⟨x4, A4, cap4, e4, z4⟩ := rd_rules f4
    simp at e0 e1 e2 e3 e4
    subst e0 e1 e2 e3 e4
    exact ⟨⟨x0, x1, x2, x3, x4⟩, A3, cap3, A4, cap4, rfl, z3, z4, z0, z1, z2⟩
theorem rd_tabs {cs : List Value} (h : Rd enc Tryz.prog w 27 cs) : ∃ l, SlOf w 5 TabR cs l :=
  Rd.slice Tryz.underlying27 (by kernel_rfl : Tryz.prog.cellsOf 76 = 5) (by decide) (of_decide_eq_true (by kernel_rfl)) (fun _ h => rd_tab h) h
theorem rd_sch {cs : List Value} (h : Rd enc Tryz.prog w 88 cs) : ∃ x, SchR w cs x := by
  obtain ⟨hl, _⟩ := h.struct Tryz.underlying88
  rw [show Tryz.prog.cellsOf 88 = 2 by kernel_rfl] at hl
  match cs, hl with
  | [c0, c1], _ =>
    have f0 := h.field Tryz.underlying88 0 9 0 1 rfl (by kernel_rfl)
    have f1 := h.field Tryz.underlying88 1 9 1 1 rfl (by kernel_rfl)
    clear h
    obtain ⟨x0, e0, z0⟩ := f0.string Tryz.underlying9
    obtain ⟨x1, e1, z1⟩ := f1.string Tryz.underlying9
    simp at e0 e1
    subst e0 e1
    exact ⟨⟨x0, x1⟩, rfl, z0, z1⟩
theorem rd_schs {cs : List Value} (h : Rd enc Tryz.prog w 26 cs) : ∃ l, SlOf w 2 SchR cs l :=
  Rd.slice Tryz.underlying26 (by kernel_rfl : Tryz.prog.cellsOf 88 = 2) (by decide) (of_decide_eq_true (by kernel_rfl)) (fun _ h => rd_sch h) h
theorem rd_objs {cs : List Value} (h : Rd enc Tryz.prog w 29 cs) : ∃ x, ObjR w cs x := by
  obtain ⟨hl, _⟩ := h.struct Tryz.underlying29
  rw [show Tryz.prog.cellsOf 29 = 2 by kernel_rfl] at hl
  match cs, hl with
  | [c0, c1], _ =>
    have f0 := h.field Tryz.underlying29 0 26 0 1 rfl (by kernel_rfl)
    have f1 := h.field Tryz.underlying29 1 27 1 1 rfl (by kernel_rfl)
    clear h
    obtain ⟨x0, A0, cap0, e0, z0⟩ := rd_schs f0
    obtain ⟨x1, A1, cap1, e1, z1⟩ := rd_tabs f1
    simp at e0 e1
    subst e0 e1
    exact ⟨⟨x0, x1⟩, A0, cap0, A1, cap1, rfl, z0, z1⟩
theorem own_knob : ownKnob Tryz.prog.godebug = none := by kernel_rfl
theorem laid_out : laidOutB Tryz.prog = true := by kernel_rfl
end
end Go.Proofs.YtiadkchlkdaceaaGreat

namespace Go.Proofs.YtiadkchlkdaceaaGreat
open Go.ChangeShapes Go.WideShapes Go.ChangeAt Go.RowKit
set_option maxRecDepth 100000
set_option linter.unusedVariables false
section
variable {H : Type} {enc : TypeId × Value → H} {w : World}
theorem rd_val {cs : List Value} (h : Rd enc Tryz.prog w 37 cs) : ∃ x, ValR w cs x := by
  obtain ⟨hl, _⟩ := h.struct Tryz.underlying37
  rw [show Tryz.prog.cellsOf 37 = 3 by kernel_rfl] at hl
  match cs, hl with
  | [c0, c1, c2], _ =>
    have f0 := h.field Tryz.underlying37 0 35 0 1 rfl (by kernel_rfl)
    have f1 := h.field Tryz.underlying37 1 3 1 1 rfl (by kernel_rfl)
    have f2 := h.field Tryz.underlying37 2 9 2 1 rfl (by kernel_rfl)
    clear h
    obtain ⟨x0, e0, _⟩ := f0.int Tryz.underlying35
    obtain ⟨x1, e1, _⟩ := f1.int Tryz.underlying3
    obtain ⟨x2, e2, z2⟩ := f2.string Tryz.underlying9
    simp at e0 e1 e2
    subst e0 e1 e2
    exact ⟨⟨x0, x1, x2⟩, rfl, z2⟩
theorem rd_vals {cs : List Value} (h : Rd enc Tryz.prog w 34 cs) : ∃ l, SlOf w 3 ValR cs l :=
  Rd.slice Tryz.underlying34 (by kernel_rfl : Tryz.prog.cellsOf 37 = 3) (by decide) (of_decide_eq_true (by kernel_rfl)) (fun _ h => rd_val h) h
end
end Go.Proofs.YtiadkchlkdaceaaGreat

namespace Go.Proofs.YtiadkchlkdaceaaGreat
open Go.ChangeShapes Go.WideShapes Go.ChangeAt Go.RowKit
set_option maxRecDepth 100000
set_option linter.unusedVariables false
def RopR (w : World) (cs : List Value) (x : ROp) : Prop := ∃ A cap, cs = [.int .i64 x.kind, .string x.role, .string x.schema, .string x.table, .slice A x.row.length cap, .string x.col, .int .i64 x.v.kind, .int .i64 x.v.int, .string x.v.text] ∧
  SlAt w 3 ValR A cap x.row ∧ Small x.col.size ∧ Small x.v.text.size ∧ Small x.schema.size ∧ Small x.table.size ∧ (Lit.int .i64 x.kind).wf = true
section
variable {H : Type} {enc : TypeId × Value → H} {w : World}
theorem rd_rop {cs : List Value} (h : Rd enc Tryz.prog w 39 cs) : ∃ x, RopR w cs x := by
  obtain ⟨hl, _⟩ := h.struct Tryz.underlying39
  rw [show Tryz.prog.cellsOf 39 = 9 by kernel_rfl] at hl
  match cs, hl with
  | [c0, c1, c2, c3, c4, c5, c6, c7, c8], _ =>
    have f0 := h.field Tryz.underlying39 0 33 0 1 rfl (by kernel_rfl)
    have f1 := h.field Tryz.underlying39 1 9 1 1 rfl (by kernel_rfl)
    have f2 := h.field Tryz.underlying39 2 9 2 1 rfl (by kernel_rfl)
    have f3 := h.field Tryz.underlying39 3 9 3 1 rfl (by kernel_rfl)
    have f4 := h.field Tryz.underlying39 4 34 4 1 rfl (by kernel_rfl)
    have f5 := h.field Tryz.underlying39 5 9 5 1 rfl (by kernel_rfl)
    have f6 := h.field Tryz.underlying39 6 37 6 3 rfl (by kernel_rfl)
    clear h
    obtain ⟨x0, e0, z0⟩ := f0.int Tryz.underlying33
    obtain ⟨x1, e1, z1⟩ := rd_str f1
    obtain ⟨x2, e2, z2⟩ := rd_str f2
    obtain ⟨x3, e3, z3⟩ := rd_str f3
    obtain ⟨x4, A, cap, e4, z4⟩ := rd_vals f4
    obtain ⟨x5, e5, z5⟩ := rd_str f5
    obtain ⟨x6, e6, z6⟩ := rd_val f6
    simp at e0 e1 e2 e3 e4 e5 e6
    obtain ⟨e6, e7, e8⟩ := e6
    subst e0 e1 e2 e3 e4 e5 e6 e7 e8
    exact ⟨⟨x0, x1, x2, x3, x4, x5, x6⟩, A, cap, rfl, z4, z5, z6, z2, z3, z0⟩
end
end Go.Proofs.YtiadkchlkdaceaaGreat

namespace Go.Proofs.YtiadkchlkdaceaaGreat
open Go.RowKit Go.Deep
set_option maxRecDepth 100000
set_option linter.unusedVariables false
theorem do_awB {w V0 V : World} {S : List Shf} {ss : List Sch} (x : ROp) (A : Option Addr) (cap : Nat) (hI : AwI w V0 S) (a0 : Aft V0 V) (ok : SOk S ss) (hrow : SlAt V 3 ValR A cap x.row) (hA : ∀ b off, A = some ⟨b, off, none⟩ → 0 < x.row.length → b < w.heap.size) (hc : Small x.col.size) (hv : Small x.v.text.size) :
    Calls Tryz.prog 11 #[.pointer (some ⟨w.heap.size, 0, none⟩), .agg #[.int .i64 x.kind, .string x.role, .string x.schema, .string x.table, .slice A x.row.length cap, .string x.col, .int .i64 x.v.kind, .int .i64 x.v.int, .string x.v.text]] V (AwP w (doS S x)) := by
  obtain ⟨hl, L, rfl, h2, h3, h4⟩ := hI
  refine (do12 w.heap.size w.heap.size hl L ss x A cap V (h2.aft a0) ok h3 hrow (fun b off e h0 hb => by
    have h5 := hA b off e h0
    have h6 := (h2.lt b hb).1
    omega) hc hv).mono fun e w' ⟨L', h, R, q1, q2, q3, q4, q5, q6, q7, q8, q9, q10⟩ => ⟨h.a, h.c, q3, hl, L', q1, q5, fun y hy => ?_, aft_kb (h4.trans a0) q4 fun g hg => (h2.lt g hg).1⟩
  have : y.x ∈ L.map OShf.x := by rw [← q6]; exact List.mem_map_of_mem hy
  obtain ⟨y', hy', e⟩ := List.mem_map.1 this
  rw [← e]
  exact h3 y' hy'
theorem rop_at {w : World} {A : Option Addr} {cap : Nat} {l : List ROp} (h : SlAt w 9 RopR A cap l) {k : Nat} (hk : k < l.length) :
    ∃ b off A4 cap4, A = some ⟨b, off, none⟩ ∧ b < w.heap.size ∧ w.cell? ⟨b, off + k * 9, none⟩ = some (.int .i64 l[k].kind) ∧ w.cell? ⟨b, off + k * 9 + 1, none⟩ = some (.string l[k].role) ∧ w.cell? ⟨b, off + k * 9 + 2, none⟩ = some (.string l[k].schema) ∧ w.cell? ⟨b, off + k * 9 + 3, none⟩ = some (.string l[k].table) ∧
      w.cell? ⟨b, off + k * 9 + 4, none⟩ = some (.slice A4 l[k].row.length cap4) ∧ w.cell? ⟨b, off + k * 9 + 5, none⟩ = some (.string l[k].col) ∧ w.cell? ⟨b, off + k * 9 + 6, none⟩ = some (.int .i64 l[k].v.kind) ∧ w.cell? ⟨b, off + k * 9 + 7, none⟩ = some (.int .i64 l[k].v.int) ∧ w.cell? ⟨b, off + k * 9 + 8, none⟩ = some (.string l[k].v.text) ∧
      SlAt w 3 ValR A4 cap4 l[k].row ∧ Small l[k].col.size ∧ Small l[k].v.text.size ∧ Small l[k].schema.size ∧ Small l[k].table.size := by
  obtain ⟨b, off, cs, hA, hb, hl, ⟨A4, cap4, e, hr, s1, s2, s3, s4, _⟩, hc⟩ := h.2.2 k hk
  have g : ∀ j u, j < 9 → cs[j]? = some u → w.cell? ⟨b, off + k * 9 + j, none⟩ = some u := fun j u hj hu => by
    rw [Nat.add_assoc, hc j hj, hu]
  subst e
  exact ⟨b, off, A4, cap4, hA, hb, g 0 _ (by omega) rfl, g 1 _ (by omega) rfl, g 2 _ (by omega) rfl, g 3 _ (by omega) rfl, g 4 _ (by omega) rfl, g 5 _ (by omega) rfl, g 6 _ (by omega) rfl, g 7 _ (by omega) rfl, g 8 _ (by omega) rfl, hr, s1, s2, s3, s4⟩
end Go.Proofs.YtiadkchlkdaceaaGreat

namespace Go.Proofs.YtiadkchlkdaceaaGreat
open Go.RowKit Go.Deep
set_option maxRecDepth 100000
set_option linter.unusedVariables false
set_option maxHeartbeats 4000000 in
theorem rows11_same (l : List (List Val)) (A : Option Addr) (cap : Nat) (B : Option Addr) (capB : Nat) (w : World) (h1 : SlAt w 1 RowsR A cap l) (h2 : SlAt w 1 RowsR B capB l) :
    Calls Tryz.prog 13 #[.slice A l.length cap, .slice B l.length capB] w fun e w' => e = .returned (.bool true) ∧ Aft w w' := by
  have hlen := h1.len
  have H1 := Lib.hid h1
  have H2 := Lib.hid h2
  clear h1 h2
  go_enter Tryz.func13, Tryz.ntmps13
  go_wp2_with fail
  go_loopw [5] (fun i wr => ∃ k : Nat, k ≤ l.length ∧ i = .int .i64 k ∧ Aft w wr) (fun i _ => l.length - (intOf i).toNat)
  case atStart => exact ⟨0, Nat.zero_le _, rfl, Aft.refl _⟩
  case round =>
    obtain ⟨k, hk, rfl, ha⟩ := hrel
    have HA := Lib.hid ha
    clear ha
    by_cases hlt : k < l.length
    · obtain ⟨b, off, A2, cap2, hA, hb, c0, hv⟩ := row_at (rows_aft HA.out H1.out) hlt
      obtain ⟨b9, off9, A9, cap9, hA9, hb9, c9, hv9⟩ := row_at (rows_aft HA.out H2.out) hlt
      obtain ⟨u, hu⟩ : ∃ u, l[k] = u := ⟨_, rfl⟩
      rw [hu] at c0 hv c9 hv9
      have C := Lib.hid (show ∀ x : Lat wr, Calls Tryz.prog 14 #[.slice A2 u.length cap2, .slice A9 u.length cap9] (lat wr x) fun e w'' => e = .returned (.bool true) ∧ Aft (lat wr x) w'' from fun x => by
        have := rsame_any A2 cap2 u A9 cap9 u (lat wr x) (vals_aft ((Aft.refl wr).lat x) hv) (vals_aft ((Aft.refl wr).lat x) hv9)
        rw [eqVs_refl] at this
        exact this)
      rw [hA, hA9]
      clear hv hv9 hu hA hA9
      go_wp2_with fail
      refine wp_region_lat (by kernel_rfl) (by kernel_rfl) ?_
      repeat (go_big_quiet_step ((go_at_call 14; exact Calls.lat_of (C.out _))))
      refine wpQuiet_nil ?_
      intro _ hw'
      obtain ⟨x, hw''⟩ := hw'
      subst hw''
      have HA2 := Lib.hid (HA.out.lat x)
      go_wp2_with fail
      go_roundw
      case rel => exact ⟨k + 1, by omega, by go_num, HA2.out⟩
      case measure => simp [intOf]; omega
    · go_wp2_with fail
      go_ret
      exact ⟨rfl, HA.out⟩
end Go.Proofs.YtiadkchlkdaceaaGreat

namespace Go.Proofs.YtiadkchlkdaceaaGreat
open Go.RowKit Go.Deep
set_option maxRecDepth 100000
set_option linter.unusedVariables false
theorem dmp_at {w : World} {B : Nat} {h : Hd} {D : List ODmp} (hd : DmpsIn w B h D) {k : Nat} (hk : k < D.length) :
    ∃ g, h.a = some ⟨g, 0, none⟩ ∧ g < w.heap.size ∧ w.cell? ⟨g, k * 4, none⟩ = some (.string D[k].schema) ∧ w.cell? ⟨g, k * 4 + 1, none⟩ = some (.string D[k].name) ∧ w.cell? ⟨g, k * 4 + 3, none⟩ = some (.slice D[k].hr.a D[k].rows.length D[k].hr.c) := by
  obtain ⟨g, ha, _, hr⟩ := own_place hd.lst (by omega)
  have hl : ∀ d : ODmp, d.cells.length = 4 := fun d => rfl
  have q : ∀ j u, j < 4 → D[k].cells[j]? = some u → w.cell? ⟨g, k * 4 + j, none⟩ = some u := fun j u hj hu => by
    have e := flatMap_get ODmp.cells 4 hl D k j hk hj
    rw [hu] at e
    have hlt : k * 4 + j < (D.flatMap ODmp.cells).length := (List.getElem?_eq_some_iff.1 e).1
    rw [hr.2.1 _ hlt, e]
  refine ⟨g, ha, hr.1, q 0 _ (by omega) rfl, q 1 _ (by omega) rfl, ?_⟩
  have hrow := (hd.each _ (List.getElem_mem hk)).row.own
  exact q 3 _ (by omega) (by show some D[k].hr.v = _; rw [own_slice hrow])
theorem dmp_rows {w : World} {B : Nat} {h : Hd} {D : List ODmp} {S : List Shf} {ss : List Sch} (hd : DmpsIn w B h D) (e : D.map ODmp.s = dumpS S) (ok : SOk S ss) {k : Nat} (hk : k < D.length) :
    ∃ hS : k < S.length, D[k].schema = S[k].t.schema ∧ D[k].name = S[k].t.name ∧ D[k].rows.map (·.vals) = S[k].rows ∧ SlAt w 1 RowsR D[k].hr.a D[k].hr.c S[k].rows := by
  have hl : D.length = S.length := by have := congrArg List.length e; simpa [dumpS] using this
  have hS : k < S.length := by omega
  have ek : D[k].s = ⟨S[k].t.schema, S[k].t.name, S[k].t.cols, S[k].rows⟩ := by
    have h1 : (D.map ODmp.s)[k]? = (dumpS S)[k]? := by rw [e]
    unfold dumpS at h1
    rw [List.getElem?_map, List.getElem?_map, List.getElem?_eq_getElem hk, List.getElem?_eq_getElem hS] at h1
    simpa using h1
  have e3 : D[k].rows.map (·.vals) = S[k].rows := congrArg Dmp.rows ek
  have hok := ok.shf (List.getElem_mem hS)
  refine ⟨hS, congrArg Dmp.schema ek, congrArg Dmp.name ek, e3, ?_⟩
  rw [← e3]
  have hlen : D[k].rows.length = S[k].rows.length := by rw [← e3, List.length_map]
  refine RowsIn.at (hd.each _ (List.getElem_mem hk)).row (by omega) fun o ho => row_small hok.2.1 (hok.2.2 o.vals ?_)
  rw [← e3]
  exact List.mem_map_of_mem ho
end Go.Proofs.YtiadkchlkdaceaaGreat

