/- Contracts of the program, part 11. -/
import Derived.Deep.Onto
import Derived.LaidEqlPtr
import Derived.OwnWalk
import Derived.Laws.AppendOwn
import Derived.ProofKit
import Derived.OpenShut
import Derived.Deep.Slices
import Derived.ChangeOld
import Derived.SizedLaws
import Derived.WalkKit
import Derived.WalkSpells
import Derived.WalkLawsBesides
import Derived.Lib.Hide
import Derived.Deep.QuietTactic
import Derived.BigQuiet
import Derived.Below
import Derived.Deep.Draws
import Derived.StillTailTactics
import Derived.Laws.Cells
import Derived.Laws.IdiomCopy
import Derived.Test.YtiadkchlkdaceaaGreatRows
import Derived.Lib.Bytealg
import Derived.IntWalk
import Derived.ShutString
import Derived.Shelf.SlSortCmp.WholeK
import Derived.Lib.SliceRun
import Derived.Deep.AppendLies
import Derived.Deep.Upon
import Derived.OneCell
import Derived.Deep.DeepMust
import Derived.Deep.RegionLaw
import Derived.Deep.RegionHeld3
import Derived.Shelf.RegionOpen
import Derived.Sort.BigQuietIn
import Derived.RangeFuncNested
import Derived.RangeFuncBound
import Derived.RangeFuncCalls
import Derived.RangeFuncLeaves
import Derived.Shelf.Abstract
import Derived.OwnWalkIn
import Derived.TacticsInMore
import Derived.LoopNIn
import Derived.LoopIn
import Derived.Sort.QuietTacIn
import Derived.NoCompiler
import Derived.OrdersHeld
import Derived.Lib.Walk
import Derived.Test.YtiadkchlkdaceaaGreatPartR1
import Derived.Test.YtiadkchlkdaceaaGreatPartR2
import Derived.Test.YtiadkchlkdaceaaGreatPartR3
import Derived.Test.YtiadkchlkdaceaaGreatPartR4
import Derived.Test.YtiadkchlkdaceaaGreatPartR5
import Derived.Test.YtiadkchlkdaceaaGreatPartR6
import Derived.Test.YtiadkchlkdaceaaGreatPartR7
import Derived.Test.YtiadkchlkdaceaaGreatPartR8
import Derived.Test.YtiadkchlkdaceaaGreatPartR9
import Derived.Test.YtiadkchlkdaceaaGreatPartR10
namespace Go.Proofs.YtiadkchlkdaceaaGreat
open Go.RowKit Go.Deep
set_option maxRecDepth 100000
set_option linter.unusedVariables false
theorem info2Dmp : (Tryz.prog.info? 102).map (fun i => (i.zero, i.size, i.bytes)) = some (some (.agg #[.string ByteArray.empty, .string ByteArray.empty, .slice none 0 0, .slice none 0 0]), 4, 80) := by kernel_rfl
theorem new12 (w : World) : Calls Tryz.prog 5 #[] w fun e w' => e = .returned (.pointer (some ⟨w.heap.size, 0, none⟩)) ∧ Aft w w' ∧ StoIn w' w.heap.size w.heap.size ⟨none, 0, 0⟩ [] := by
  go_enter Tryz.func5, Tryz.ntmps5
  go_wp2_with fail
  go_ret
  exact ⟨rfl, (Aft.refl _).alloc _, Nat.le_refl _, box_row2 (c := [.slice none 0 0]) (Aft.refl _), own_nil _ _ _ _, (fun y h => by cases h), by simp [blk_nil]⟩
set_option maxHeartbeats 8000000 in
theorem dump12 (B s : Nat) (hl : Hd) (L : List OShf) (ss : List Sch) (w : World) (hin : StoIn w B s hl L) (ok : SOk (storeS L) ss) (sm : ∀ y ∈ L, SmT y.x.t) :
    Calls Tryz.prog 15 #[.pointer (some ⟨s, 0, none⟩)] w (DumpP w (dumpS (storeS L))) := by
  obtain ⟨i0, hi, hz0, hz1, hz2⟩ := info_parts info2Dmp
  have HI := Lib.hid hi
  have HZ0 := Lib.hid hz0
  have HZ1 := Lib.hid hz1
  have HZ2 := Lib.hid hz2
  clear hi hz0 hz1 hz2
  have PA := Lib.hid (show ∀ y ∈ L, Parted w y from fun y hy => parted hin ok sm hy)
  have HOK := Lib.hid ok
  have hpl : SlAt w 1 PtrR hl.a hl.c (L.map (·.p)) := own_slo ptrC (·.p) hin.lst (fun y hy => ⟨rfl, rfl⟩) (by have := ok.good.nt; simp [storeS] at this; unfold Small; omega)
  have HPL := Lib.hid hpl
  have hlen : L.length ≤ 64 := by have := ok.good.nt; simpa [storeS] using this
  have rs := hin.row
  rw [own_slice hin.lst] at rs
  have s0 := rs.cell (j := 0) rfl
  have sz := rs.1
  have hdd : (dumpS (storeS L)).length = L.length := by simp [dumpS, storeS]
  have HDD := Lib.hid hdd
  have HDS := Lib.hid (show dumpS (storeS L) = L.map fun y => (⟨y.x.t.schema, y.x.t.name, y.x.t.cols, y.rows.map (·.vals)⟩ : Dmp) by unfold dumpS storeS; rw [List.map_map]; rfl)
  clear hin ok sm hpl rs hdd
  go_enter Tryz.func15, Tryz.ntmps15
  go_wp2_with fail
  go_loopw [3, 13] (fun v i wr => ∃ (k : Nat) (h : Hd) (D : List ODmp), k ≤ L.length ∧ i = .int .i64 k ∧ v = .slice h.a k h.c ∧ D.map ODmp.s = (L.take k).map (fun y => (⟨y.x.t.schema, y.x.t.name, y.x.t.cols, y.rows.map (·.vals)⟩ : Dmp)) ∧ Aft w wr ∧ DmpsIn wr w.heap.size h D) (fun _ i _ => L.length - (intOf i).toNat)
  case atStart => exact ⟨0, ⟨none, 0, 0⟩, [], Nat.zero_le _, rfl, rfl, rfl, Aft.refl _, DmpsIn.nil _ _⟩
  case round =>
    obtain ⟨k, h, D, hk, rfl, rfl, hD, ha, hdn⟩ := hrel
    have HA := Lib.hid ha
    have HDN := Lib.hid hdn
    have HDM := Lib.hid hD
    have HLL := Lib.hid (show D.length = k by have := congrArg List.length hD; simpa [Nat.min_eq_left hk] using this)
    clear ha hdn hD s0 sz
    by_cases hlt : k < L.length
    · obtain ⟨b, off, hA8, hb, c0⟩ := ptr_at (ptrs_aft HA.out HPL.out) (k := k) (by simpa using hlt)
      rw [List.getElem_map] at c0
      have PY := PA.out _ (List.getElem_mem hlt)
      have HTK := Lib.hid (List.take_succ_eq_append_getElem hlt)
      have h8 : L[k].x.t.cols.length ≤ 8 := (HOK.out.shf (x := L[k].s) (List.mem_map_of_mem (List.getElem_mem hlt))).2.1
      obtain ⟨y, hy⟩ : ∃ y, L[k] = y := ⟨_, rfl⟩
      rw [hy] at c0 PY HTK h8
      have HPY := Lib.hid PY
      have ry := PY.row.aft HA.out
      have y0 := ry.cell (j := 0) rfl
      have y1 := ry.cell (j := 1) rfl
      have y3 := ry.cell (j := 3) rfl
      have y5 := ry.cell (j := 5) rfl
      have yz := ry.1
      have C1 := Lib.hid (show ∀ V, Aft wr V → _ from fun V a => clone2Col y.x.hc.a y.x.hc.c y.x.t.cols V V (Aft.refl V) (cols_aft (HA.out.trans a) HPY.out.cols) (by omega))
      have C2 := Lib.hid (show ∀ V, Aft wr V → Calls Tryz.prog 41 #[.slice y.hr.a y.rows.length y.hr.c] V (RowsP V (y.rows.map (·.vals))) from fun V a => by
        have := copied12 (y.rows.map (·.vals)) y.hr.a y.hr.c V (rows_aft (HA.out.trans a) (orows_rows HPY.out.rows)) (by simpa using HPY.out.most) (fun r hr => by
          obtain ⟨o, ho, rfl⟩ := List.mem_map.1 hr
          have h1 := ((besideB_iff formB _ _).1 (HPY.out.form o ho)).1
          omega)
        simpa using this)
      have zw := HA.out.size
      have v0 : h.v = .slice h.a k h.c := by rw [own_slice HDN.out.lst, HLL.out]
      have HV0 := Lib.hid v0
      have own := HDN.out.lst
      rw [v0, HLL.out] at own
      have HOW := Lib.hid own
      have hyw : y.p < w.heap.size := PY.row.1
      have n1 : ¬ InV (.slice h.a k h.c) y.p := fun hg => by have := (HOW.out.lt _ hg).1; omega
      rw [hA8]
      clear PY ry hy hA8 v0 own
      go_wp2_with fail
      refine wp_region_ord [0, 1, 2, 3, 4, 5, 6, 7, 8, 9, 10, 11, 12, 13, 14, 15, 17, 18, 19, 20, 16, 21, 22, 23, 24, 25] [0, 0, 0, 0, 0, 0, 0, 0, 0, 0, 0, 0, 0, 0, 0, 0, 0, 0, 0, 0, 1, 1, 1, 1, 1, 2] 25 (fun l => l.take 16 ++ ((l.drop 17).take 4 ++ ((l.drop 16).take 1 ++ l.drop 21))) (fun w' => ∃ x : KLat (.slice h.a k h.c) wr, w' = klat (.slice h.a k h.c) wr x) (by kernel_rfl) (by kernel_rfl) rfl (KL.aft (Aft.refl wr).drew) ?_
      simp only [List.take_succ_cons, List.take_zero, List.drop_succ_cons, List.drop_zero, List.cons_append, List.nil_append]
      refine wpOrd_reads 20 rfl (by decide) (by simp) rfl ?_
      simp only [List.take_succ_cons, List.take_zero, List.drop_succ_cons, List.drop_zero]
      repeat (go_big_quiet_step (fail))
      refine wpQuiet_nil ?_
      refine wpOrd_step (fun K hK => ?_)
      go_simp
      obtain ⟨D9, hD9⟩ : ∃ D9, D9 = wr.drew := ⟨_, rfl⟩
      have aD : Aft wr D9 := by rw [hD9]; exact (Aft.refl wr).drew
      rw [← hD9]
      go_at_call 40
      refine (C1.out D9 aD).mono ?_
      rintro e Z ⟨v9, css, rfl, aZ, ho9, hch⟩
      dsimp only
      rw [flat_cols hch] at ho9
      obtain ⟨h9, rfl, hn9⟩ := own_head ho9
      rw [own_slice ho9]
      refine hK _ _ (KL.aft (aD.trans aZ)) ?_
      clear hK K hD9
      refine wpOrd_step (fun K hK => ?_)
      go_simp
      go_at_call 41
      refine (C2.out Z (aD.trans aZ)).mono ?_
      rintro e Y ⟨h7, R, hR, rfl, aY, inY, nd⟩
      dsimp only
      refine hK _ _ (KL.aft ((aD.trans aZ).trans aY)) ?_
      clear hK K
      have HWY := Lib.hid ((aD.trans aZ).trans aY)
      have HO9 := Lib.hid (own_aft ho9 aY)
      have HIY := Lib.hid inY
      have HND := Lib.hid nd
      have HRR := Lib.hid hR
      have zD := aD.size
      have zZ := aZ.size
      have zY := aY.size
      have HL9 := Lib.hid (blk_lt ho9)
      clear C1 C2 ho9 hch inY nd hR aD aZ aY hn9
      simp only [List.length_map]
      refine wpOrd_step (fun K hK => ?_)
      go_simp
      refine hK _ _ (KL.aft HWY.out) ?_
      clear hK K
      refine wpOrd_step (fun K hK => ?_)
      go_simp
      refine hK _ _ (KL.aft (HWY.out.alloc _)) ?_
      clear hK K
      refine wpOrd_step (fun K hK => ?_)
      refine wp_append_lies _ (.tmp 17) (.tmp 40) 52 rfl w.heap.size 102 i0 _ 4 80 Tryz.underlying52 HI.out HZ0.out HZ1.out HZ2.out rfl (by decide) (.slice h.a k h.c) k (D.flatMap ODmp.cells) (by rfl) ((own_aft HOW.out HWY.out).alloc _) ⟨Y.heap.size, 0, none⟩ 1 1 [.string y.x.t.schema, .string y.x.t.name, .slice h9.a y.x.t.cols.length h9.c, .slice h7.a y.rows.length h7.c] (by rfl) rfl (World.news_of_block (cs := #[.string y.x.t.schema, .string y.x.t.name, .slice h9.a y.x.t.cols.length h9.c, .slice h7.a y.rows.length h7.c]) (t := 102) (fr := (0, 0)) (heap_alloc_new Y _)) (by simp [Value.oneCell']) (by omega) (by unfold maxLen; omega) (by omega) (by simp; omega) (Y.heap.size + 1) (by simp) ?_
      intro gg cap' w5 hown5 hgrow hat hgl
      refine hK _ _ (KL.of ((Kb.of_aft (HWY.out.alloc _)).trans (kb_in hgrow))) ?_
      clear hK K
      refine wpOrd_last (fun K hK => ?_)
      go_simp
      refine hK _ _ ?_
      clear hK K
      refine NoPanic.normal ?_
      have hyd : DmpIn Y wr.heap.size ⟨y.x.t.schema, y.x.t.name, y.x.t.cols, h9, R, h7⟩ := ⟨own_down HO9.out (by omega), HIY.out.down (by omega)⟩
      have hnd : (ODmp.blks ⟨y.x.t.schema, y.x.t.name, y.x.t.cols, h9, R, h7⟩).Nodup := by
        unfold ODmp.blks
        refine List.nodup_append.2 ⟨blk_nodup _, HND.out, fun a ha b hb e => ?_⟩
        have h1 := (HL9.out a ha).2
        have h2 := (HIY.out.lt b hb).1
        omega
      have hlr : R.length = y.rows.length := by have := congrArg List.length HRR.out; simpa using this
      have hcell : ODmp.cells ⟨y.x.t.schema, y.x.t.name, y.x.t.cols, h9, R, h7⟩ = [.string y.x.t.schema, .string y.x.t.name, .slice h9.a y.x.t.cols.length h9.c, .slice h7.a y.rows.length h7.c] := by
        unfold ODmp.cells
        rw [own_slice HO9.out, own_slice HIY.out.own, hlr]
      have HP := Lib.hid (show DmpsIn w5 w.heap.size ⟨some ⟨gg, 0, none⟩, k + 1, cap'⟩ (D ++ [⟨y.x.t.schema, y.x.t.name, y.x.t.cols, h9, R, h7⟩]) from HDN.out.push (ob := .cells #[.string y.x.t.schema, .string y.x.t.name, .slice h9.a y.x.t.cols.length h9.c, .slice h7.a y.rows.length h7.c] 102) HWY.out hyd hnd zw (by rw [HLL.out]) (by rw [HV0.out]; exact hgrow) (by rw [hcell]; exact hown5) (by
        rw [HV0.out]
        intro g hg
        rw [blk_some, List.mem_singleton] at hg
        subst hg
        rcases hat with h | h
        · exact .inl h
        · exact .inr (by rw [h]; exact Nat.le_refl _)))
      have HA5 := Lib.hid (show Aft w w5 from aft_grown (own_aft HOW.out (HWY.out.alloc _)) ((HA.out.trans HWY.out).alloc _) hgrow)
      have HT2 := Lib.hid (show (D ++ [(⟨y.x.t.schema, y.x.t.name, y.x.t.cols, h9, R, h7⟩ : ODmp)]).map ODmp.s = (L.take (k + 1)).map (fun y => (⟨y.x.t.schema, y.x.t.name, y.x.t.cols, y.rows.map (·.vals)⟩ : Dmp)) by
        rw [List.map_append, HDM.out, HTK.out, List.map_append, List.map_cons, List.map_nil, List.map_cons, List.map_nil]
        unfold ODmp.s
        rw [HRR.out])
      clear hown5 hgrow hat hgl hyd hnd hlr hcell
      go_wp2_with fail
      go_roundw
      case rel => exact ⟨k + 1, ⟨some ⟨gg, 0, none⟩, k + 1, cap'⟩, _, by omega, by go_num, rfl, HT2.out, HA5.out, HP.out⟩
      case measure => simp [intOf]; omega
    · have e1 : L.take k = L := List.take_of_length_le (by omega)
      have e2 : k = L.length := by omega
      have HF := Lib.hid (show D.map ODmp.s = dumpS (storeS L) by rw [HDM.out, e1, HDS.out])
      have HKL := Lib.hid (e2.trans HDD.out.symm)
      clear e1 e2
      go_wp2_with fail
      go_ret
      exact ⟨h, D, HF.out, by rw [← HKL.out]; rfl, HA.out, HDN.out⟩
end Go.Proofs.YtiadkchlkdaceaaGreat

namespace Go.Proofs.YtiadkchlkdaceaaGreat
open Go.RowKit Go.Deep
set_option maxRecDepth 100000
set_option linter.unusedVariables false
theorem aft_kb {P : Nat → Prop} {w V V' : World} (a : Aft w V) (k : Kb P V V') (h : ∀ g, P g → w.heap.size ≤ g) : Aft w V' :=
  ⟨k.os.trans a.os, k.tape.trans a.tape, k.output.trans a.output, Nat.le_trans a.size k.size, fun g hg => (k.block g (Nat.lt_of_lt_of_le hg a.size) (fun hp => by have := h g hp; omega)).trans (a.block g hg)⟩
/-- a store of our own, made behind w -/
def AwI (w W : World) (S : List Shf) : Prop := ∃ hl L, storeS L = S ∧ StoIn W w.heap.size w.heap.size hl L ∧ (∀ y ∈ L, SmT y.x.t) ∧ Aft w W
theorem AwI.aft {w W W' : World} {S : List Shf} (h : AwI w W S) (a : Aft W W') : AwI w W' S := by
  obtain ⟨hl, L, q1, q2, q3, q4⟩ := h
  exact ⟨hl, L, q1, q2.aft a, q3, q4.trans a⟩
/-- what an operation tells, and the store behind it -/
def AwP (w : World) (r : List Shf × List (List Val) × Int) (e : Ending) (w' : World) : Prop :=
  ∃ A c, e = .returned (.tuple #[.slice A r.2.1.length c, .int .i64 r.2.2]) ∧ AwI w w' r.1
theorem do_aw {w V0 V : World} {S : List Shf} {ss : List Sch} (x : ROp) (A : Option Addr) (cap : Nat) (hI : AwI w V0 S) (a0 : Aft V0 V) (ok : SOk S ss) (hrow : SlAt V 3 ValR A cap x.row) (hA : ∀ b off, A = some ⟨b, off, none⟩ → V0.heap.size ≤ b) (hc : Small x.col.size) (hv : Small x.v.text.size) :
    Calls Tryz.prog 11 #[.pointer (some ⟨w.heap.size, 0, none⟩), .agg #[.int .i64 x.kind, .string x.role, .string x.schema, .string x.table, .slice A x.row.length cap, .string x.col, .int .i64 x.v.kind, .int .i64 x.v.int, .string x.v.text]] V (AwP w (doS S x)) := by
  obtain ⟨hl, L, rfl, h2, h3, h4⟩ := hI
  refine (do12 w.heap.size w.heap.size hl L ss x A cap V (h2.aft a0) ok h3 hrow (fun b off e _ hb => by
    have h5 := hA b off e
    have h6 := (h2.lt b hb).2
    omega) hc hv).mono fun e w' ⟨L', h, R, q1, q2, q3, q4, q5, q6, q7, q8, q9, q10⟩ => ⟨h.a, h.c, q3, hl, L', q1, q5, fun y hy => ?_, aft_kb (h4.trans a0) q4 fun g hg => (h2.lt g hg).1⟩
  have : y.x ∈ L.map OShf.x := by rw [← q6]; exact List.mem_map_of_mem hy
  obtain ⟨y', hy', e⟩ := List.mem_map.1 this
  rw [← e]
  exact h3 y' hy'
theorem load_aw {w V0 V : World} {S : List Shf} {ss : List Sch} (o : Objs) (As : Option Addr) (caps : Nat) (At : Option Addr) (capt : Nat) (hI : AwI w V0 S) (a0 : Aft V0 V) (ok : SOk S ss) (hsch : SlAt V 2 SchR As caps o.schemas) (htab : SlAt V 5 TabR At capt o.tables) :
    Calls Tryz.prog 8 #[.pointer (some ⟨w.heap.size, 0, none⟩), .agg #[.slice As o.schemas.length caps, .slice At o.tables.length capt]] V fun e w' => e = .returned (.int .i64 (loadS S o).2) ∧ AwI w w' (loadS S o).1 := by
  obtain ⟨hl, L, rfl, h2, h3, h4⟩ := hI
  refine (load12 w.heap.size w.heap.size hl L ss o As caps At capt V (h2.aft a0) ok h3 hsch htab).mono fun e w' ⟨hl', L', q1, q2, q3, q4, q5⟩ => ⟨q2, hl', L', q1, q4, fun y hy => ?_, aft_kb (h4.trans a0) q3 fun g hg => by rw [hg]; exact Nat.le_refl _⟩
  have hm : y.s ∈ (loadS (storeS L) o).1 := by rw [← q1]; exact List.mem_map_of_mem hy
  unfold loadS at hm
  split at hm
  · obtain ⟨t, ht, e⟩ := List.mem_map.1 hm
    have e1 : t = y.x.t := congrArg Shf.t e
    rw [← e1]
    exact (sm_tabs htab).2 t ht
  · obtain ⟨y2, hy2, e⟩ := List.mem_map.1 hm
    have e1 : y2.x.t = y.x.t := congrArg Shf.t e
    rw [← e1]
    exact h3 y2 hy2
theorem new_aw (w : World) : Calls Tryz.prog 5 #[] w fun e w' => e = .returned (.pointer (some ⟨w.heap.size, 0, none⟩)) ∧ AwI w w' [] :=
  (new12 w).mono fun e w' ⟨q1, q2, q3⟩ => ⟨q1, _, [], rfl, q3, (fun y hy => by cases hy), q2⟩
set_option maxHeartbeats 8000000 in
theorem awake12 (w : World) : Calls Tryz.prog 18 #[] w fun e w' => e = .returned (.bool true) ∧ Aft w w' := by
  have k0 : SOk aw0 sO12.schemas := loadS_ok nil_ok sO12_ok
  have k1 : SOk aw1 sO12.schemas := doS_ok _ k0
  have k2 : SOk aw2 sO12.schemas := doS_ok _ k1
  have k3 : SOk aw3 sO12.schemas := doS_ok _ k2
  have k4 : SOk aw4 sO12.schemas := doS_ok _ k3
  have k5 : SOk aw5 sO12.schemas := doS_ok _ k4
  have k6 : SOk aw6 sO12.schemas := doS_ok _ k5
  have k7 : SOk aw7 sO12.schemas := doS_ok _ k6
  have hz : Small (ByteArray.mk #[]).size := by unfold Small; decide
  have hx : Small (ByteArray.mk #[120]).size := by unfold Small; decide
  have K0 := Lib.hid k0
  have K1 := Lib.hid k1
  have K2 := Lib.hid k2
  have K3 := Lib.hid k3
  have K4 := Lib.hid k4
  have K5 := Lib.hid k5
  have K6 := Lib.hid k6
  have K7 := Lib.hid k7
  have HZ := Lib.hid hz
  have HX := Lib.hid hx
  clear k0 k1 k2 k3 k4 k5 k6 k7 hz hx
  go_enter Tryz.func18, Tryz.ntmps18
  go_wp2_with fail
  refine (new_aw w).mono ?_
  rintro e w0 ⟨rfl, hI⟩
  have I0 := Lib.hid hI
  clear hI
  go_wp2_with fail
  refine (one12 w0).mono ?_
  rintro e w1 ⟨As, caps, At, capt, rfl, a1, h1, h2⟩
  have A1 := Lib.hid a1
  have L1 := Lib.hid (load_aw sO12 As caps At capt I0.out a1 nil_ok h1 h2)
  clear a1 h1 h2
  go_wp2_with fail
  refine L1.out.mono ?_
  rintro e v0 ⟨rfl, hI⟩
  have J0 := Lib.hid (show AwI w v0 aw0 from hI)
  rw [show (loadS [] sO12).2 = 0 from by decide +kernel]
  clear hI L1
  go_wp2_with fail
  refine (lay12_is 1 0 v0).mono ?_
  rintro e w1 ⟨A, cap, rfl, a1, h1, h2⟩
  have D1 := Lib.hid (do_aw (lay12 1 0) A cap J0.out a1 K0.out h1 h2 HZ.out HZ.out)
  clear a1 h1 h2
  go_wp2_with fail
  refine D1.out.mono ?_
  rintro e v1 ⟨A1, c1, rfl, hI⟩
  have J1 := Lib.hid (show AwI w v1 aw1 from hI)
  rw [aw_1]
  clear hI D1
  go_wp2_with fail
  refine (lay12_is 1 0 v1).mono ?_
  rintro e w1 ⟨A, cap, rfl, a1, h1, h2⟩
  have D1 := Lib.hid (do_aw (lay12 1 0) A cap J1.out a1 K1.out h1 h2 HZ.out HZ.out)
  clear a1 h1 h2
  go_wp2_with fail
  refine D1.out.mono ?_
  rintro e v2 ⟨A2, c2, rfl, hI⟩
  have J2 := Lib.hid (show AwI w v2 aw2 from hI)
  rw [aw_2]
  clear hI D1
  go_wp2_with fail
  refine (lay12_is 2 3 v2).mono ?_
  rintro e w1 ⟨A, cap, rfl, a1, h1, h2⟩
  have D1 := Lib.hid (do_aw (lay12 2 3) A cap J2.out a1 K2.out h1 h2 HZ.out HZ.out)
  clear a1 h1 h2
  go_wp2_with fail
  refine D1.out.mono ?_
  rintro e v3 ⟨A3, c3, rfl, hI⟩
  have J3 := Lib.hid (show AwI w v3 aw3 from hI)
  rw [aw_3]
  clear hI D1
  go_wp2_with fail
  refine (lay12_is 2 2 v3).mono ?_
  rintro e w1 ⟨A, cap, rfl, a1, h1, h2⟩
  have D1 := Lib.hid (do_aw (lay12 2 2) A cap J3.out a1 K3.out h1 h2 HZ.out HZ.out)
  clear a1 h1 h2
  go_wp2_with fail
  refine D1.out.mono ?_
  rintro e v4 ⟨A4, c4, rfl, hI⟩
  have J4 := Lib.hid (show AwI w v4 aw4 from hI)
  rw [aw_4]
  clear hI D1
  go_wp2_with fail
  refine (lay12_is 3 2 v4).mono ?_
  rintro e w1 ⟨A, cap, rfl, a1, h1, h2⟩
  have D1 := Lib.hid (do_aw (lay12 3 2) A cap J4.out a1 K4.out h1 h2 HZ.out HZ.out)
  clear a1 h1 h2
  go_wp2_with fail
  refine D1.out.mono ?_
  rintro e v5 ⟨A5, c5, rfl, hI⟩
  have J5 := Lib.hid (show AwI w v5 aw5 from hI)
  rw [aw_5]
  clear hI D1
  go_wp2_with fail
  refine (drop12_is 2 v5).mono ?_
  rintro e w1 ⟨rfl, a1⟩
  have D1 := Lib.hid (do_aw (drop12 2) none 0 J5.out a1 K5.out slAt_nil (fun b off h => by cases h) HX.out HZ.out)
  clear a1
  go_wp2_with fail
  refine D1.out.mono ?_
  rintro e v6 ⟨A6, c6, rfl, hI⟩
  have J6 := Lib.hid (show AwI w v6 aw6 from hI)
  rw [aw_6]
  clear hI D1
  go_wp2_with fail
  refine (drop12_is 3 v6).mono ?_
  rintro e w1 ⟨rfl, a1⟩
  have D1 := Lib.hid (do_aw (drop12 3) none 0 J6.out a1 K6.out slAt_nil (fun b off h => by cases h) HX.out HZ.out)
  clear a1
  go_wp2_with fail
  refine D1.out.mono ?_
  rintro e v7 ⟨A7, c7, rfl, hI⟩
  have J7 := Lib.hid (show AwI w v7 aw7 from hI)
  rw [aw_7]
  rw [aw_7l]
  clear hI D1
  go_wp2_with fail
  refine (drop12_is 2 v7).mono ?_
  rintro e w1 ⟨rfl, a1⟩
  have D1 := Lib.hid (do_aw (drop12 2) none 0 J7.out a1 K7.out slAt_nil (fun b off h => by cases h) HX.out HZ.out)
  clear a1
  go_wp2_with fail
  refine D1.out.mono ?_
  rintro e v8 ⟨A8, c8, rfl, hI⟩
  have J8 := Lib.hid (show AwI w v8 (doS aw7 (drop12 2)).1 from hI)
  rw [aw_8]
  clear hI D1
  go_wp2_with fail
  go_ret
  obtain ⟨hl, L, q1, q2, q3, q4⟩ := J8.out
  exact ⟨rfl, q4⟩
end Go.Proofs.YtiadkchlkdaceaaGreat

namespace Go.Proofs.YtiadkchlkdaceaaGreat
open Go.RowKit Go.Deep
set_option maxRecDepth 100000
set_option linter.unusedVariables false
set_option maxHeartbeats 4000000 in
theorem rows11_same (l : List (List Val)) (A : Option Addr) (cap : Nat) (B : Option Addr) (capB : Nat) (w : World) (h1 : SlAt w 1 RowsR A cap l) (h2 : SlAt w 1 RowsR B capB l) :
    Calls Tryz.prog 13 #[.slice A l.length cap, .slice B l.length capB] w fun e w' => e = .returned (.bool true) ∧ Aft w w' := by
  have hlen := h1.len
  have H1 := Lib.hid h1
  have H2 := Lib.hid h2
  clear h1 h2
  go_enter Tryz.func13, Tryz.ntmps13
  go_wp2_with fail
  go_loopw [5] (fun i wr => ∃ k : Nat, k ≤ l.length ∧ i = .int .i64 k ∧ Aft w wr) (fun i _ => l.length - (intOf i).toNat)
  case atStart => exact ⟨0, Nat.zero_le _, rfl, Aft.refl _⟩
  case round =>
    obtain ⟨k, hk, rfl, ha⟩ := hrel
    have HA := Lib.hid ha
    clear ha
    by_cases hlt : k < l.length
    · obtain ⟨b, off, A2, cap2, hA, hb, c0, hv⟩ := row_at (rows_aft HA.out H1.out) hlt
      obtain ⟨b9, off9, A9, cap9, hA9, hb9, c9, hv9⟩ := row_at (rows_aft HA.out H2.out) hlt
      obtain ⟨u, hu⟩ : ∃ u, l[k] = u := ⟨_, rfl⟩
      rw [hu] at c0 hv c9 hv9
      have C := Lib.hid (show ∀ x : Lat wr, Calls Tryz.prog 14 #[.slice A2 u.length cap2, .slice A9 u.length cap9] (lat wr x) fun e w'' => e = .returned (.bool true) ∧ Aft (lat wr x) w'' from fun x => by
        have := rsame_any A2 cap2 u A9 cap9 u (lat wr x) (vals_aft ((Aft.refl wr).lat x) hv) (vals_aft ((Aft.refl wr).lat x) hv9)
        rw [eqVs_refl] at this
        exact this)
      rw [hA, hA9]
      clear hv hv9 hu hA hA9
      go_wp2_with fail
      refine wp_region_lat (by kernel_rfl) (by kernel_rfl) ?_
      repeat (go_big_quiet_step ((go_at_call 14; exact Calls.lat_of (C.out _))))
      refine wpQuiet_nil ?_
      intro _ hw'
      obtain ⟨x, hw''⟩ := hw'
      subst hw''
      have HA2 := Lib.hid (HA.out.lat x)
      go_wp2_with fail
      go_roundw
      case rel => exact ⟨k + 1, by omega, by go_num, HA2.out⟩
      case measure => simp [intOf]; omega
    · go_wp2_with fail
      go_ret
      exact ⟨rfl, HA.out⟩
end Go.Proofs.YtiadkchlkdaceaaGreat

namespace Go.Proofs.YtiadkchlkdaceaaGreat
open Go.RowKit Go.Deep
set_option maxRecDepth 100000
set_option linter.unusedVariables false
/-- lists of rows -/
def RowsLR (w : World) (cs : List Value) (l : List (List Val)) : Prop := SlOf w 1 RowsR cs l
def DmpR (w : World) (cs : List Value) (d : Dmp) : Prop := ∃ Ac cc Ar cr, cs = [.string d.schema, .string d.name, .slice Ac d.cols.length cc, .slice Ar d.rows.length cr] ∧ SlAt w 3 ColR Ac cc d.cols ∧ SlAt w 1 RowsR Ar cr d.rows
theorem rowsl_aft {w w' : World} {A : Option Addr} {cap : Nat} {l : List (List (List Val))} (hw : Aft w w') (h : SlAt w 1 RowsLR A cap l) : SlAt w' 1 RowsLR A cap l := h.aft hw fun cs x ⟨A, cap, e, h1⟩ => ⟨A, cap, e, rows_aft hw h1⟩
theorem dmpr_aft {w w' : World} {A : Option Addr} {cap : Nat} {l : List Dmp} (hw : Aft w w') (h : SlAt w 4 DmpR A cap l) : SlAt w' 4 DmpR A cap l := h.aft hw fun cs x ⟨A, ca, B, cb, e, h1, h2⟩ => ⟨A, ca, B, cb, e, cols_aft hw h1, rows_aft hw h2⟩
theorem rowsl_at {w : World} {A : Option Addr} {cap : Nat} {l : List (List (List Val))} (h : SlAt w 1 RowsLR A cap l) {k : Nat} (hk : k < l.length) :
    ∃ b off A2 cap2, A = some ⟨b, off, none⟩ ∧ b < w.heap.size ∧ w.cell? ⟨b, off + k, none⟩ = some (.slice A2 l[k].length cap2) ∧ SlAt w 1 RowsR A2 cap2 l[k] := by
  obtain ⟨b, off, cs, hA, hb, hl, ⟨A2, cap2, rfl, hr⟩, hc⟩ := h.2.2 k hk
  refine ⟨b, off, A2, cap2, hA, hb, ?_, hr⟩
  have := hc 0 (by omega)
  simpa using this
theorem dmpr_at {w : World} {A : Option Addr} {cap : Nat} {l : List Dmp} (h : SlAt w 4 DmpR A cap l) {k : Nat} (hk : k < l.length) :
    ∃ b off Ac cc Ar cr, A = some ⟨b, off, none⟩ ∧ b < w.heap.size ∧ w.cell? ⟨b, off + k * 4, none⟩ = some (.string l[k].schema) ∧ w.cell? ⟨b, off + k * 4 + 1, none⟩ = some (.string l[k].name) ∧ w.cell? ⟨b, off + k * 4 + 2, none⟩ = some (.slice Ac l[k].cols.length cc) ∧ w.cell? ⟨b, off + k * 4 + 3, none⟩ = some (.slice Ar l[k].rows.length cr) ∧ SlAt w 3 ColR Ac cc l[k].cols ∧ SlAt w 1 RowsR Ar cr l[k].rows := by
  obtain ⟨b, off, cs, hA, hb, hl, ⟨Ac, cc, Ar, cr, e, h1, h2⟩, hc⟩ := h.2.2 k hk
  have g : ∀ j u, j < 4 → cs[j]? = some u → w.cell? ⟨b, off + k * 4 + j, none⟩ = some u := fun j u hj hu => by
    rw [Nat.add_assoc, hc j hj, hu]
  subst e
  exact ⟨b, off, Ac, cc, Ar, cr, hA, hb, g 0 _ (by omega) rfl, g 1 _ (by omega) rfl, g 2 _ (by omega) rfl, g 3 _ (by omega) rfl, h1, h2⟩
theorem nameB_small {s : ByteArray} (h : nameB s = true) : Small s.size := by
  by_cases h0 : 0 < s.size
  · rw [nameB_of s h0] at h
    simp only [Bool.and_eq_true, decide_eq_true_eq] at h
    unfold Small; omega
  · unfold Small; omega
theorem cols_small {l : List Col} (h : colsOk l = true) : Small (l.length * 16) ∧ ∀ c ∈ l, Small c.name.size := by
  refine ⟨by have := cols_len h; unfold Small; omega, fun c hc => nameB_small ?_⟩
  have h2 := ((colsOk_iff l).1 h).2.1 c hc
  unfold colOk at h2
  rw [Bool.and_eq_true] at h2
  exact h2.1
theorem DmpsIn.at {w : World} {B : Nat} {h : Hd} {D : List ODmp} {S : List Shf} {ss : List Sch} (hd : DmpsIn w B h D) (e : D.map ODmp.s = dumpS S) (ok : SOk S ss) : SlAt w 4 DmpR h.a h.c (dumpS S) := by
  have hl : D.length = S.length := by have := congrArg List.length e; simpa [dumpS] using this
  have h64 : S.length ≤ 64 := by have := ok.good.nt; simpa using this
  have hm : ∀ y ∈ D, ∃ x ∈ S, y.cols = x.t.cols ∧ y.rows.map ORow.vals = x.rows := fun y hy => by
    have h1 : y.s ∈ dumpS S := by rw [← e]; exact List.mem_map_of_mem hy
    obtain ⟨x, hx, e1⟩ := List.mem_map.1 h1
    exact ⟨x, hx, (congrArg Dmp.cols e1).symm, (congrArg Dmp.rows e1).symm⟩
  rw [← e]
  refine own_slo ODmp.cells ODmp.s hd.lst (fun y hy => ⟨rfl, y.hc.a, y.hc.c, y.hr.a, y.hr.c, ?_, ?_, ?_⟩) (by unfold Small; omega)
  · unfold ODmp.cells
    rw [own_slice (hd.each y hy).col, own_slice (hd.each y hy).row.own]
    simp [ODmp.s]
  · obtain ⟨x, hx, e1, e2⟩ := hm y hy
    have hs := cols_small (ok.tab hx).cols
    rw [← e1] at hs
    exact own_slf colC (hd.each y hy).col (fun c hc => ⟨rfl, rfl, hs.2 c hc⟩) hs.1
  · obtain ⟨x, hx, e1, e2⟩ := hm y hy
    have hok := ok.shf hx
    have hlen : y.rows.length = x.rows.length := by rw [← e2, List.length_map]
    refine RowsIn.at (hd.each y hy).row (by omega) fun o ho => row_small hok.2.1 (hok.2.2 o.vals ?_)
    rw [← e2]
    exact List.mem_map_of_mem ho
set_option maxHeartbeats 8000000 in
theorem rsame12 (S : List Shf) (s : Nat) (vs : Value) (At : Option Addr) (capt : Nat) (Rs : Option Addr) (capr : Nat) (A : Option Addr) (cap : Nat) (w : World) (hrow : RowAt w s [vs, .slice At S.length capt, .slice Rs S.length capr]) (htab : SlAt w 5 TabR At capt (S.map (·.t))) (hrows : SlAt w 1 RowsLR Rs capr (S.map (·.rows))) (hd : SlAt w 4 DmpR A cap (dumpS S)) :
    Calls Tryz.prog 16 #[.pointer (some ⟨s, 0, none⟩), .slice A S.length cap] w fun e w' => e = .returned (.bool true) ∧ Aft w w' := by
  have hlen : S.length * 16 ≤ 140737488351232 := by have := hd.len; simpa [dumpS] using this
  have HT := Lib.hid htab
  have HR := Lib.hid hrows
  have HD := Lib.hid hd
  have KS := Lib.hid (show ∀ V, Aft w V → (V.cell? ⟨s, 1, none⟩ = some (.slice At S.length capt) ∧ V.cell? ⟨s, 2, none⟩ = some (.slice Rs S.length capr) ∧ s < V.heap.size) from fun V a => by
    have r := hrow.aft a
    exact ⟨r.cell (j := 1) rfl, r.cell (j := 2) rfl, r.1⟩)
  clear htab hrows hd hrow
  obtain ⟨s1, s2, sz⟩ := KS.out w (Aft.refl w)
  go_enter Tryz.func16, Tryz.ntmps16
  go_wp2_with fail
  clear s1 s2 sz
  go_loopw [5] (fun i wr => ∃ k : Nat, k ≤ S.length ∧ i = .int .i64 k ∧ Aft w wr) (fun i _ => S.length - (intOf i).toNat)
  case atStart => exact ⟨0, Nat.zero_le _, rfl, Aft.refl _⟩
  case round =>
    obtain ⟨k, hk, rfl, ha⟩ := hrel
    have HA := Lib.hid ha
    clear ha
    obtain ⟨V0, hV0⟩ : ∃ V0, V0 = wr := ⟨_, rfl⟩
    subst hV0
    by_cases hlt : k < S.length
    · obtain ⟨b, off, A2, cap2, A3, cap3, hA, hb, c0, c1, c2, c3, c4, hcs, hrs, _⟩ := tab_at (tabs_aft HA.out HT.out) (k := k) (by simpa using hlt)
      obtain ⟨b5, off5, A5, cap5, hA5, hb5, r0, hrr⟩ := rowsl_at (rowsl_aft HA.out HR.out) (k := k) (by simpa using hlt)
      obtain ⟨b6, off6, Ac, cc, Ar, cr, hA6, hb6, d0, d1, d2, d3, hdc, hdr⟩ := dmpr_at (dmpr_aft HA.out HD.out) (k := k) (by simpa [dumpS] using hlt)
      simp only [List.getElem_map, dumpS] at c0 c1 c2 c3 c4 hcs hrs r0 hrr d0 d1 d2 d3 hdc hdr
      obtain ⟨y, hy⟩ : ∃ y, S[k] = y := ⟨_, rfl⟩
      rw [hy] at c0 c1 c2 c3 c4 hcs hrs r0 hrr d0 d1 d2 d3 hdc hdr
      obtain ⟨s1, s2, sz⟩ := KS.out V0 HA.out
      rw [hA] at s1
      rw [hA5] at s2
      rw [hA6]
      obtain ⟨W, hW⟩ : ∃ W, W = V0.alloc (.cells #[.string y.t.schema, .string y.t.name, .string y.t.owner, .slice A2 y.t.cols.length cap2, .slice A3 y.t.rules.length cap3] 76) := ⟨_, rfl⟩
      have aW : Aft V0 W := by rw [hW]; exact (Aft.refl V0).alloc _
      have rW : RowAt W V0.heap.size [.string y.t.schema, .string y.t.name, .string y.t.owner, .slice A2 y.t.cols.length cap2, .slice A3 y.t.rules.length cap3] := by rw [hW]; exact box_row2 (Aft.refl _)
      have HRW := Lib.hid rW
      have HAW := Lib.hid aW
      have C := Lib.hid (show ∀ x : Lat W, Calls Tryz.prog 13 #[.slice Ar y.rows.length cr, .slice A5 y.rows.length cap5] (lat W x) fun e w'' => e = .returned (.bool true) ∧ Aft (lat W x) w'' from fun x => rows11_same y.rows Ar cr A5 cap5 (lat W x) (rows_aft (aW.trans ((Aft.refl W).lat x)) hdr) (rows_aft (aW.trans ((Aft.refl W).lat x)) hrr))
      have KD := Lib.hid (show ∀ V, Aft V0 V → (V.cell? ⟨b6, off6 + k * 4, none⟩ = some (.string y.t.schema) ∧ V.cell? ⟨b6, off6 + k * 4 + 1, none⟩ = some (.string y.t.name) ∧ V.cell? ⟨b6, off6 + k * 4 + 2, none⟩ = some (.slice Ac y.t.cols.length cc) ∧ V.cell? ⟨b6, off6 + k * 4 + 3, none⟩ = some (.slice Ar y.rows.length cr) ∧ b6 < V.heap.size) from fun V a =>
        ⟨(Below.cell a (p := ⟨b6, _, none⟩) hb6).trans d0, (Below.cell a (p := ⟨b6, _, none⟩) hb6).trans d1, (Below.cell a (p := ⟨b6, _, none⟩) hb6).trans d2, (Below.cell a (p := ⟨b6, _, none⟩) hb6).trans d3, Nat.lt_of_lt_of_le hb6 a.size⟩)
      have HDC := Lib.hid hdc
      have HCS := Lib.hid hcs
      have x0 := rW.cell (j := 0) rfl
      have x1 := rW.cell (j := 1) rfl
      have x3 := rW.cell (j := 3) rfl
      have xz := rW.1
      obtain ⟨t1, t2, tz⟩ := KS.out W (HA.out.trans aW)
      rw [hA] at t1
      rw [hA5] at t2
      have r0W : W.cell? ⟨b5, off5 + k, none⟩ = some (.slice A5 y.rows.length cap5) := (Below.cell aW (p := ⟨b5, _, none⟩) hb5).trans r0
      have hb5W := Nat.lt_of_lt_of_le hb5 aW.size
      obtain ⟨e0, e1, e2, e3, ez⟩ := KD.out W aW
      clear aW rW hdc hcs hrs hdr hrr d0 d1 d2 d3 r0 hA hA5 hA6 hy
      go_wp2_with fail
      rw [← hW]
      clear hW c0 c1 c2 c3 c4 hb hb5 hb6 s1 s2 sz
      refine wp_region_lat (by kernel_rfl) (by kernel_rfl) ?_
      repeat (go_big_quiet_step ((go_at_call 13; exact Calls.lat_of (C.out _))))
      refine wpQuiet_nil ?_
      intro Z hw'
      have aZ : Aft W Z := by obtain ⟨x9, hw''⟩ := hw'; rw [hw'']; exact (Aft.refl W).lat x9
      have HWZ := Lib.hid aZ
      have y3 := (HRW.out.aft aZ).cell (j := 3) rfl
      have yz := (HRW.out.aft aZ).1
      clear hw' x0 x1 x3 xz t1 t2 tz r0W hb5W e0 e1 e2 e3 ez aZ C
      go_wp2_with fail
      clear y3 yz
      go_loopw [7] (fun i wr => ∃ k2 : Nat, k2 ≤ y.t.cols.length ∧ i = .int .i64 k2 ∧ Aft W wr) (fun i _ => y.t.cols.length - (intOf i).toNat)
      case atStart => exact ⟨0, Nat.zero_le _, rfl, HWZ.out⟩
      case round =>
        obtain ⟨k2, hk2, rfl, ha2⟩ := hrel
        have HW2 := Lib.hid ha2
        clear ha2
        have y3 := (HRW.out.aft HW2.out).cell (j := 3) rfl
        have yz := (HRW.out.aft HW2.out).1
        have hlen2 := HCS.out.len
        by_cases hlt2 : k2 < y.t.cols.length
        · obtain ⟨b8, off8, hA8, hb8, f0, f1, f2, _⟩ := col_at (cols_aft (HAW.out.trans HW2.out) HCS.out) hlt2
          obtain ⟨b9, off9, hA9, hb9, g0, g1, g2, _⟩ := col_at (cols_aft (HAW.out.trans HW2.out) HDC.out) hlt2
          obtain ⟨_, _, e2, _, ez⟩ := KD.out wr (HAW.out.trans HW2.out)
          obtain ⟨u, hu⟩ : ∃ u, y.t.cols[k2] = u := ⟨_, rfl⟩
          rw [hu] at f0 f1 f2 g0 g1 g2
          rw [hA8] at y3
          rw [hA9] at e2
          clear hu
          go_wp2_with fail
          refine wp_region_lat (by kernel_rfl) (by kernel_rfl) ?_
          repeat (go_big_quiet_step (fail))
          refine wpQuiet_nil ?_
          intro Z3 hw'
          have a3 : Aft wr Z3 := by obtain ⟨x9, hw''⟩ := hw'; rw [hw'']; exact (Aft.refl wr).lat x9
          have HW3 := Lib.hid (HW2.out.trans a3)
          clear hw' a3
          go_wp2_with fail
          go_roundw
          case rel => exact ⟨k2 + 1, by omega, by go_num, HW3.out⟩
          case measure => simp [intOf]; omega
        · go_wp2_with fail
          go_roundw
          case rel => exact ⟨k + 1, by omega, by go_num, HA.out.trans (HAW.out.trans HW2.out)⟩
          case measure => simp [intOf]; omega
    · go_wp2_with fail
      go_ret
      exact ⟨rfl, HA.out⟩
end Go.Proofs.YtiadkchlkdaceaaGreat

namespace Go.Proofs.YtiadkchlkdaceaaGreat
open Go.RowKit
set_option maxRecDepth 100000
set_option linter.unusedVariables false
set_option maxHeartbeats 4000000 in
theorem rform_any (A : Option Addr) (cap : Nat) (l : List Col) (A2 : Option Addr) (cap2 : Nat) (m : List Val) (w : World) (h : SlAt w 3 ColR A cap l) (h2 : SlAt w 3 ValR A2 cap2 m) :
    Calls Tryz.prog 65 #[.slice A l.length cap, .slice A2 m.length cap2] w fun e w' => e = .returned (.bool (besideB formB l m)) ∧ Aft w w' := by
  have hlen := h.len
  have hlen2 := h2.len
  by_cases hl : l.length = m.length
  · have e1 : ((m.length : Int) != (l.length : Int)) = false := by simp [hl]
    go_enter Tryz.func65, Tryz.ntmps65
    go_wp2_with fail
    go_loopw [5] (fun i wr => ∃ k : Nat, k ≤ m.length ∧ i = .int .i64 k ∧ Aft w wr ∧ ∀ j, j < k → ∀ (hj : j < l.length) (hj2 : j < m.length), formB l[j] m[j] = true) (fun i _ => m.length - (intOf i).toNat)
    case atStart => exact ⟨0, Nat.zero_le _, rfl, Aft.refl _, fun j hj => absurd hj (Nat.not_lt_zero j)⟩
    case round =>
      obtain ⟨k, hk, rfl, ha, hp⟩ := hrel
      have HA := Lib.hid ha
      have HP := Lib.hid hp; clear hp
      by_cases hlt2 : k < m.length
      · have hlt : k < l.length := by omega
        obtain ⟨b, off, rfl, hb, c0, c1, c2, _⟩ := col_at (cols_aft ha h) hlt
        obtain ⟨b2, off2, rfl, hb2, d0, d1, d2, hs⟩ := val_at (vals_aft ha h2) hlt2
        clear ha
        obtain ⟨r, hr⟩ : ∃ r, mayV m[k] = r := ⟨_, rfl⟩
        have HF := Lib.hid (show formB l[k] m[k] = (r && (m[k].kind == l[k].kind || m[k].kind == 1)) by unfold formB; rw [hr])
        have Cm := Lib.hid (show ∀ x : Lat wr, Calls Tryz.prog 73 #[.agg #[.int .i64 m[k].kind, .int .i64 m[k].int, .string m[k].text]] (lat wr x) fun e w'' => e = .returned (.bool r) ∧ Aft (lat wr x) w'' from
          fun x => (rmay_any m[k] (lat wr x) hs).mono fun e w'' ⟨he, hw⟩ => ⟨he.trans (by rw [hr]), hw⟩)
        clear hr
        cases r
        · have HN := Lib.hid (besideB_false formB l m k hlt hlt2 (by rw [HF.out]; rfl))
          go_wp2_with fail
          refine wp_region_lat (by kernel_rfl) (by kernel_rfl) ?_
          repeat (go_big_quiet_step ((first | (go_at_call 73; exact Calls.lat_of (Cm.out _)))))
          refine wpQuiet_nil ?_
          intro _ hw'
          obtain ⟨x, hw''⟩ := hw'
          subst hw''
          go_wp2_with fail
          go_ret
          exact ⟨by rw [HN.out]; rfl, HA.out.lat x⟩
        cases g1 : (m[k].kind != 1)
        · have HN := Lib.hid (ext_lt (p := fun j => ∀ (hj : j < l.length) (hj2 : j < m.length), formB l[j] m[j] = true) HP.out (fun _ _ => by rw [HF.out, show (m[k].kind == 1) = true by simpa using g1]; simp))
          go_wp2_with fail
          refine wp_region_lat (by kernel_rfl) (by kernel_rfl) ?_
          repeat (go_big_quiet_step ((first | (go_at_call 73; exact Calls.lat_of (Cm.out _)))))
          refine wpQuiet_nil ?_
          intro _ hw'
          obtain ⟨x, hw''⟩ := hw'
          subst hw''
          go_wp2_with fail
          go_roundw
          case rel => exact ⟨k + 1, by omega, by go_num, HA.out.lat x, HN.out⟩
          case measure => simp [intOf]; omega
        cases g2 : (m[k].kind != l[k].kind)
        · have HN := Lib.hid (ext_lt (p := fun j => ∀ (hj : j < l.length) (hj2 : j < m.length), formB l[j] m[j] = true) HP.out (fun _ _ => by rw [HF.out, show (m[k].kind == l[k].kind) = true by simpa using g2]; simp))
          go_wp2_with fail
          refine wp_region_lat (by kernel_rfl) (by kernel_rfl) ?_
          repeat (go_big_quiet_step ((first | (go_at_call 73; exact Calls.lat_of (Cm.out _)))))
          refine wpQuiet_nil ?_
          intro _ hw'
          obtain ⟨x, hw''⟩ := hw'
          subst hw''
          go_wp2_with fail
          go_roundw
          case rel => exact ⟨k + 1, by omega, by go_num, HA.out.lat x, HN.out⟩
          case measure => simp [intOf]; omega
        · have HN := Lib.hid (besideB_false formB l m k hlt hlt2 (by rw [HF.out, show (m[k].kind == l[k].kind) = false by simpa using g2, show (m[k].kind == 1) = false by simpa using g1]; rfl))
          go_wp2_with fail
          refine wp_region_lat (by kernel_rfl) (by kernel_rfl) ?_
          repeat (go_big_quiet_step ((first | (go_at_call 73; exact Calls.lat_of (Cm.out _)))))
          refine wpQuiet_nil ?_
          intro _ hw'
          obtain ⟨x, hw''⟩ := hw'
          subst hw''
          go_wp2_with fail
          go_ret
          exact ⟨by rw [HN.out]; rfl, HA.out.lat x⟩
      · have HN := Lib.hid (besideB_true formB l m hl fun j hj hj2 => HP.out j (by omega) hj hj2)
        clear ha
        go_wp2_with fail
        go_ret
        exact ⟨by rw [HN.out]; rfl, HA.out⟩
  · have e1 : ((m.length : Int) != (l.length : Int)) = true := by simp; omega
    have HN := Lib.hid (besideB_len formB l m hl)
    go_enter Tryz.func65, Tryz.ntmps65
    go_wp2_with fail
    go_ret
    exact ⟨by rw [HN.out]; rfl, Aft.refl _⟩
theorem tableOk_rule (t : Tab) (k : Nat) (hk : k < t.rules.length) (h : fitsOk t.cols t.rules[k] = false) : tableOk t = false := by
  unfold tableOk; rw [all_false _ _ k hk h]; simp
theorem tableOk_rise (t : Tab) (k : Nat) (hk : k < t.rules.length) (h0 : 0 < k) (h : ltS (t.rules[k - 1]'(by omega)).name t.rules[k].name = false) : tableOk t = false := by
  have h1 : k - 1 + 1 < t.rules.length := by omega
  have e : (t.rules[k - 1 + 1]'h1) = t.rules[k] := by congr 1; omega
  unfold tableOk
  rw [risesB_false (fun a b : Rul => cmpS a.name b.name) _ (k - 1) h1]
  · simp
  · rw [e]
    rw [← cmpS_lt] at h
    have := of_decide_eq_false h
    omega
theorem rises_pred' {α : Type} (c : α → α → Int) (l : List α) (h : ∀ k, 1 ≤ k → ∀ (hk : k < l.length), c (l[k - 1]'(by omega)) l[k] < 0) : risesB c l = true :=
  (risesB_iff c l).2 fun k hk => h (k + 1) (by omega) hk
set_option maxHeartbeats 8000000 in
theorem rtable_any (t : Tab) (A : Option Addr) (cap : Nat) (A2 : Option Addr) (cap2 : Nat) (w : World) (h : SlAt w 3 ColR A cap t.cols) (h2 : SlAt w 8 RulR A2 cap2 t.rules) :
    Calls Tryz.prog 81 #[.agg #[.string t.schema, .string t.name, .string t.owner, .slice A t.cols.length cap, .slice A2 t.rules.length cap2]] w
      fun e w' => e = .returned (.bool (tableOk t)) ∧ Aft w w' := by
  have hlen2 := h2.len
  obtain ⟨m, hm⟩ : ∃ m, colsOk t.cols = m := ⟨_, rfl⟩
  have HR1 := Lib.hid (show tableOk t = (m && decide (t.rules.length ≤ 8) && (t.rules.all (fitsOk t.cols) && risesB (fun a b => cmpS a.name b.name) t.rules)) by unfold tableOk; rw [hm])
  have Cm := Lib.hid (show ∀ w', Aft w w' → Calls Tryz.prog 64 #[.slice A t.cols.length cap] w' fun e w'' => e = .returned (.bool m) ∧ Aft w' w'' from
    fun w' a => (rcols_any A cap t.cols w' (cols_aft a h)).mono fun e w'' ⟨he, hw⟩ => ⟨he.trans (by rw [← hm]), hw⟩)
  clear hm
  go_enter Tryz.func81, Tryz.ntmps81
  go_wp2_with fail
  refine (Cm.out _ ((Aft.refl w).alloc _)).mono ?_
  rintro e w1 ⟨rfl, a1⟩
  obtain ⟨hbt, hfr, hz, hzk, HA⟩ := aft_box a1
  have HAB := Lib.hid a1
  clear a1 Cm
  cases m
  · have HN := Lib.hid (show tableOk t = false by rw [HR1.out]; rfl)
    go_wp2_with fail
    go_ret
    exact ⟨by rw [HN.out]; rfl, HA.out⟩
  by_cases h8 : 8 < t.rules.length
  · have HN := Lib.hid (show tableOk t = false by rw [HR1.out, decide_eq_false (show ¬ t.rules.length ≤ 8 by omega)]; rfl)
    have h8' : (8 : Int) < (t.rules.length : Int) := by omega
    go_wp2_with fail
    go_ret
    exact ⟨by rw [HN.out]; rfl, HA.out⟩
  have h8' : (t.rules.length : Int) ≤ 8 := by omega
  have d8 : decide ((8 : Int) < (t.rules.length : Int)) = false := decide_eq_false (by omega)
  have HR2 := Lib.hid (show tableOk t = (t.rules.all (fitsOk t.cols) && risesB (fun a b => cmpS a.name b.name) t.rules) by rw [HR1.out, decide_eq_true (show t.rules.length ≤ 8 by omega)]; rfl)
  clear HR1
  go_wp2_with fail
  go_loopw [3] (fun i wr => ∃ k : Nat, k ≤ t.rules.length ∧ i = .int .i64 k ∧ Aft (w.alloc (.cells #[.string t.schema, .string t.name, .string t.owner, .slice A t.cols.length cap, .slice A2 t.rules.length cap2] 76)) wr ∧ ∀ j, j < k → ∀ (hj : j < t.rules.length), fitsOk t.cols t.rules[j] = true ∧ (0 < j → ltS (t.rules[j - 1]'(by omega)).name t.rules[j].name = true)) (fun i _ => t.rules.length - (intOf i).toNat)
  case atStart => exact ⟨0, Nat.zero_le _, rfl, HAB.out, fun j hj => absurd hj (Nat.not_lt_zero j)⟩
  case round =>
    clear hbt hfr hz hzk HA HAB
    obtain ⟨k, hk, rfl, ha, hp⟩ := hrel
    obtain ⟨hbt, hfr, hz, hzk, HA⟩ := aft_box ha
    have HAB := Lib.hid ha
    have HP := Lib.hid hp; clear hp ha
    by_cases hlt : k < t.rules.length
    · have hr := ruls_aft HA.out h2
      obtain ⟨b, off, D2, capD2, rfl, hb, c0, c1, c2, c3, c4, c5, c6, c7, hcs, s0, s1, s2, s3⟩ := rul_at hr hlt
      obtain ⟨p, hpp⟩ : ∃ p, t.rules[k] = p := ⟨_, rfl⟩
      rw [hpp] at c0 c1 c2 c3 c4 c5 c6 c7 hcs s0 s1 s2 s3
      have HPP := Lib.hid hpp
      obtain ⟨f, hf⟩ : ∃ f, fitsOk t.cols p = f := ⟨_, rfl⟩
      have HO := Lib.hid (show fitsOk t.cols t.rules[k] = f by rw [hpp]; exact hf)
      have Cm := Lib.hid (show ∀ x : Lat wr, Calls Tryz.prog 79 #[.slice A t.cols.length cap, .agg #[.string p.name, .int .i64 p.kind, .slice D2 p.cols.length capD2, .int .i64 p.low, .int .i64 p.high, .string p.schema, .string p.table, .string p.key]] (lat wr x) fun e w'' => e = .returned (.bool f) ∧ Aft (lat wr x) w'' from
        fun x => (rfits_any A cap t.cols p D2 capD2 (lat wr x) (cols_aft (HA.out.lat x) h) (strs_aft ((Aft.refl wr).lat x) hcs) s0 s1 s2 s3).mono fun e w'' ⟨he, hw⟩ => ⟨he.trans (by rw [← hf]), hw⟩)
      clear hf hcs
      by_cases h0 : 0 < k
      · have hk1 : k - 1 < t.rules.length := by omega
        obtain ⟨b', off', D2', capD2', hA', hb', e0, _, _, _, _, _, _, _, _⟩ := rul_at hr hk1
        simp only [Option.some.injEq, Addr.mk.injEq, and_true] at hA'
        obtain ⟨rfl, rfl⟩ := hA'
        obtain ⟨p', hpp'⟩ : ∃ p', (t.rules[k - 1]'(by omega)) = p' := ⟨_, rfl⟩
        rw [hpp'] at e0
        have HPP' := Lib.hid hpp'
        have w1' : IntKind.i64.wrap ((k : Int) - 1) = (k : Int) - 1 := IntWalk.i64_in _ (by omega)
        have w2' : (0 : Int) ≤ (k : Int) - 1 := by omega
        have w3' : ((k : Int) - 1).toNat = k - 1 := by omega
        have w4' : (k : Int) - 1 < (t.rules.length : Int) := by omega
        have w5' : decide ((0 : Int) < (k : Int)) = true := decide_eq_true (by omega)
        clear hpp hpp' hr
        cases hL : ltS p'.name p.name
        · have hL' : Op.bytesLess p'.name.toList p.name.toList = false := hL
          have HN := Lib.hid (tableOk_rise t k hlt h0 (by rw [HPP.out, HPP'.out]; exact hL))
          clear hL
          go_wp2_with fail
          refine wp_region_lat (by kernel_rfl) (by kernel_rfl) ?_
          repeat (go_big_quiet_step ((first | (go_at_call 79; exact Calls.lat_of (Cm.out _)))))
          refine wpQuiet_nil ?_
          intro _ hw'
          obtain ⟨x, hw''⟩ := hw'
          subst hw''
          go_wp2_with fail
          go_ret
          exact ⟨by rw [HN.out]; rfl, HA.out.lat x⟩
        have hL' : Op.bytesLess p'.name.toList p.name.toList = true := hL
        have HLT := Lib.hid (show 0 < k → ltS (t.rules[k - 1]'(by omega)).name t.rules[k].name = true by intro _; rw [HPP.out, HPP'.out]; exact hL)
        clear hL
        cases f
        · have HN := Lib.hid (tableOk_rule t k hlt HO.out)
          go_wp2_with fail
          refine wp_region_lat (by kernel_rfl) (by kernel_rfl) ?_
          repeat (go_big_quiet_step ((first | (go_at_call 79; exact Calls.lat_of (Cm.out _)))))
          refine wpQuiet_nil ?_
          intro _ hw'
          obtain ⟨x, hw''⟩ := hw'
          subst hw''
          go_wp2_with fail
          go_ret
          exact ⟨by rw [HN.out]; rfl, HA.out.lat x⟩
        · have HN := Lib.hid (ext_lt (p := fun j => ∀ (hj : j < t.rules.length), fitsOk t.cols t.rules[j] = true ∧ (0 < j → ltS (t.rules[j - 1]'(by omega)).name t.rules[j].name = true)) HP.out (fun _ => ⟨HO.out, HLT.out⟩))
          go_wp2_with fail
          refine wp_region_lat (by kernel_rfl) (by kernel_rfl) ?_
          repeat (go_big_quiet_step ((first | (go_at_call 79; exact Calls.lat_of (Cm.out _)))))
          refine wpQuiet_nil ?_
          intro _ hw'
          obtain ⟨x, hw''⟩ := hw'
          subst hw''
          go_wp2_with fail
          go_roundw
          case rel => exact ⟨k + 1, by omega, by go_num, HAB.out.lat x, HN.out⟩
          case measure => simp [intOf]; omega
      · have w5' : decide ((0 : Int) < (k : Int)) = false := decide_eq_false (by omega)
        have w6' : (k : Int) ≤ 0 := by omega
        have HLT := Lib.hid (show 0 < k → ltS (t.rules[k - 1]'(by omega)).name t.rules[k].name = true from fun h => absurd h h0)
        clear hpp hr
        cases f
        · have HN := Lib.hid (tableOk_rule t k hlt HO.out)
          go_wp2_with fail
          refine wp_region_lat (by kernel_rfl) (by kernel_rfl) ?_
          repeat (go_big_quiet_step ((first | (go_at_call 79; exact Calls.lat_of (Cm.out _)))))
          refine wpQuiet_nil ?_
          intro _ hw'
          obtain ⟨x, hw''⟩ := hw'
          subst hw''
          go_wp2_with fail
          go_ret
          exact ⟨by rw [HN.out]; rfl, HA.out.lat x⟩
        · have HN := Lib.hid (ext_lt (p := fun j => ∀ (hj : j < t.rules.length), fitsOk t.cols t.rules[j] = true ∧ (0 < j → ltS (t.rules[j - 1]'(by omega)).name t.rules[j].name = true)) HP.out (fun _ => ⟨HO.out, HLT.out⟩))
          go_wp2_with fail
          refine wp_region_lat (by kernel_rfl) (by kernel_rfl) ?_
          repeat (go_big_quiet_step ((first | (go_at_call 79; exact Calls.lat_of (Cm.out _)))))
          refine wpQuiet_nil ?_
          intro _ hw'
          obtain ⟨x, hw''⟩ := hw'
          subst hw''
          go_wp2_with fail
          go_roundw
          case rel => exact ⟨k + 1, by omega, by go_num, HAB.out.lat x, HN.out⟩
          case measure => simp [intOf]; omega
    · have HN := Lib.hid (show tableOk t = true by
        rw [HR2.out, all_true _ _ fun j hj => (HP.out j (by omega) hj).1, rises_pred' (fun a b : Rul => cmpS a.name b.name) _ fun j hj1 hj => (cmpS_lt_iff _ _).2 ((HP.out j (by omega) hj).2 (by omega))]; rfl)
      go_wp2_with fail
      go_ret
      exact ⟨by rw [HN.out]; rfl, HA.out⟩
end Go.Proofs.YtiadkchlkdaceaaGreat

namespace Go.Proofs.YtiadkchlkdaceaaGreat
open Go.RowKit
set_option maxRecDepth 100000
set_option linter.unusedVariables false
set_option maxHeartbeats 4000000 in
theorem of_any (l : List Col) (cs : List ByteArray) (row : List Val) (A : Option Addr) (cap : Nat) (A2 : Option Addr) (cap2 : Nat) (B : Option Addr) (capB : Nat) (w : World) (h : SlAt w 3 ColR A cap l) (h2 : SlAt w 1 StrR A2 cap2 cs) (h3 : SlAt w 3 ValR B capB row) (h8 : cs.length ≤ 8) (hof : ∀ k (hk : k < cs.length), ∃ q : Nat, colAt l cs[k] = q ∧ q < row.length) :
    Calls Tryz.prog 48 #[.slice A l.length cap, .slice A2 cs.length cap2, .slice B row.length capB] w (OfP w (ofVs l cs row) (wholeV (ofVs l cs row))) := by
  have hlen := h.len
  have hlen3 := h3.len
  have HOF := Lib.hid hof
  obtain ⟨i0, hi, hz0, hz1, hz2⟩ := info_parts infoV
  have HI := Lib.hid hi
  have HZ0 := Lib.hid hz0
  have HZ1 := Lib.hid hz1
  have HZ2 := Lib.hid hz2
  clear hi hz0 hz1 hz2 hof
  go_enter Tryz.func48, Tryz.ntmps48
  go_wp2_with fail
  go_loopw [8, 9, 10] (fun v wb i wr => ∃ k : Nat, k ≤ cs.length ∧ i = .int .i64 k ∧ wb = .bool (wholeV (ofVs l (cs.take k) row)) ∧ Aft w wr ∧ wr.ownsRow w.heap.size 37 3 v k ((ofVs l (cs.take k) row).flatMap cellsV)) (fun _ _ i _ => cs.length - (intOf i).toNat)
  case atStart => exact ⟨0, Nat.zero_le _, rfl, rfl, Aft.refl _, own_nil _ _ _ _⟩
  case round =>
    obtain ⟨k, hk, rfl, rfl, ha, hown⟩ := hrel
    have HA := Lib.hid ha
    have HO := Lib.hid hown
    clear hown
    obtain ⟨wb, hwb⟩ : ∃ wb, wholeV (ofVs l (cs.take k) row) = wb := ⟨_, rfl⟩
    by_cases hlt : k < cs.length
    · obtain ⟨b5, off5, hD, hb5, g5, _⟩ := str_at (strs_aft ha h2) hlt
      subst hD
      obtain ⟨z, hz0, hzr⟩ := HOF.out k hlt
      obtain ⟨b6, off6, hBB, hb6, v0, v1, v2, _⟩ := val_at (vals_aft ha h3) hzr
      subst hBB
      have HS := Lib.hid (show ofVs l (cs.take (k + 1)) row = ofVs l (cs.take k) row ++ [row[z]] by rw [ofVs_succ _ _ _ k hlt, hz0, valAt_get hzr])
      have HW := Lib.hid (show wholeV (ofVs l (cs.take (k + 1)) row) = (wb && row[z].kind != 1) by rw [HS.out, wholeV_snoc, hwb])
      have Cp := Lib.hid (show Calls Tryz.prog 37 #[.slice A l.length cap, .string cs[k]] wr fun e w'' => e = .returned (.int .i64 z) ∧ wr = w'' from
        (rcol_any A cap l cs[k] wr (cols_aft ha h)).mono fun e w'' ⟨he, hw⟩ => ⟨he.trans (by rw [← hz0]; rfl), hw⟩)
      rw [hwb]
      clear ha hz0 hwb
      cases wb
      all_goals
        go_wp2_with fail
        refine Cp.out.mono ?_
        rintro e w4 ⟨rfl, hw4⟩
        subst hw4
        go_wp2_with (at_builtin; refine wpList_append_own _ rfl (.tmp 33) (.tmp 35) 34 rfl w.heap.size 37 i0 (.agg #[.int .i64 0, .int .i64 0, .string ByteArray.empty]) 3 32 Tryz.underlying34 HI.out HZ0.out HZ1.out HZ2.out rfl (by decide) _ _ _ rfl ((HO.out.alloc _).alloc _) ⟨wr.heap.size + 1, 0, none⟩ 1 1 [.int .i64 row[z].kind, .int .i64 row[z].int, .string row[z].text] rfl rfl ?c1 ?c2 ?c3 ?c4 ?c5 ?_)
        case c1 => intro j u hj; rw [add_mk, Nat.zero_add]; exact (World.cell?_alloc_at _ _ _ _ (by simp)).trans (by simpa using hj)
        case c2 => intro u hu; simp only [List.mem_cons, List.not_mem_nil, or_false] at hu; rcases hu with rfl | rfl | rfl <;> simp [Value.oneCell']
        case c3 => unfold maxLen; omega
        case c4 => omega
        case c5 => have := HA.out.size; simp; omega
        intro v' w5 hown' hgrow _
        have HA5 := Lib.hid (aft_grown ((HO.out.alloc _).alloc _) ((HA.out.alloc _).alloc _) hgrow)
        have HO5 := Lib.hid hown'
        clear hown' hgrow
        go_wp2_with fail
        go_roundw
        case rel => exact ⟨k + 1, by omega, by go_num, by rw [HW.out]; rfl, HA5.out, by rw [HS.out]; simpa [List.flatMap_append, cellsV] using HO5.out⟩
        case measure => simp [intOf]; omega
    · have e1 : cs.take k = cs := List.take_of_length_le (by omega)
      have e2 : k = cs.length := by omega
      have ho := HO.out
      rw [e1, e2, ← ofVs_len l cs row] at ho
      have HOO := Lib.hid ho
      have HWW := Lib.hid (show wholeV (ofVs l cs row) = wb by rw [← hwb, e1])
      rw [hwb]
      clear ha ho hwb e1
      go_wp2_with fail
      go_ret2
      exact ⟨_, by rw [HWW.out]; rfl, HA.out, HOO.out⟩
end Go.Proofs.YtiadkchlkdaceaaGreat

namespace Go.Proofs.YtiadkchlkdaceaaGreat
open Go.RowKit Go.Deep
set_option maxRecDepth 100000
set_option linter.unusedVariables false
def OfS (w : World) (l : List Val) (b : Bool) (e : Ending) (w' : World) : Prop := ∃ A cap, e = .returned (.tuple #[.slice A l.length cap, .bool b]) ∧ Aft w w' ∧ SlAt w' 3 ValR A cap l
theorem of12 (l : List Col) (cs : List ByteArray) (row : List Val) (A : Option Addr) (cap : Nat) (A2 : Option Addr) (cap2 : Nat) (B : Option Addr) (capB : Nat) (w : World) (h : SlAt w 3 ColR A cap l) (h2 : SlAt w 1 StrR A2 cap2 cs) (h3 : SlAt w 3 ValR B capB row) (ok : OkN l cs) (hf : besideB formB l row = true) :
    Calls Tryz.prog 48 #[.slice A l.length cap, .slice A2 cs.length cap2, .slice B row.length capB] w (OfS w (ofVs l cs row) (wholeV (ofVs l cs row))) := by
  refine (of_any l cs row A cap A2 cap2 B capB w h h2 h3 ok.1 (okN_at ok hf)).mono ?_
  rintro e w' ⟨v, rfl, a, o⟩
  obtain ⟨hd, rfl, hn⟩ := own_head o
  have hs := ofVs_small ok hf (fun v hv => by obtain ⟨i, hi, rfl⟩ := List.getElem_of_mem hv; exact val_small h3 i hi)
  exact ⟨hd.a, hd.c, by rw [own_slice o], a, own_slf cellsV o (fun v hv => ⟨rfl, rfl, hs.2 v hv⟩) hs.1⟩
end Go.Proofs.YtiadkchlkdaceaaGreat

namespace Go.Proofs.YtiadkchlkdaceaaGreat
open Go.RowKit
set_option maxRecDepth 100000
set_option linter.unusedVariables false
theorem name_eq33 {a b c : ByteArray} (h1 : eqS a c = true) (h2 : eqS b c = true) : cmpS a b = 0 := by
  rw [(eqS_iff9 _ _).1 h1, (eqS_iff9 _ _).1 h2]
  exact (cmpS_eq _ _).2 (by unfold eqS; simp)
theorem rul_one33 {l : List Rul} {name : ByteArray} (hr : ∀ (a b : Nat) (ha : a < l.length) (hb : b < l.length), a < b → cmpRl l[a] l[b] < 0) {x y : Rul} (hx : x ∈ l) (hy : y ∈ l) (h1 : eqS x.name name = true) (h2 : eqS y.name name = true) : x = y := by
  obtain ⟨i, hi, rfl⟩ := List.getElem_of_mem hx
  obtain ⟨j, hj, rfl⟩ := List.getElem_of_mem hy
  have e1 : cmpRl l[i] l[j] = 0 := name_eq33 h1 h2
  have e2 : cmpRl l[j] l[i] = 0 := name_eq33 h2 h1
  rcases Nat.lt_trichotomy i j with h | h | h
  · have := hr i j hi hj h; omega
  · subst h; rfl
  · have := hr j i hj hi h; omega
theorem tabAt_shf (S : List Shf) (s n : ByteArray) : tabAt (S.map (·.t)) s n = shfAt S s n := idxP_mapS (fun t : Tab => eqS t.schema s && eqS t.name n) Shf.t S
theorem far_key {S : List Shf} {ss : List Sch} (ok : SOk S ss) {x : Shf} (hx : x ∈ S) {r : Rul} (hr : r ∈ x.t.rules) (hk : r.kind = 4) :
    ∃ q q2 : Nat, shfAt S r.schema r.table = q ∧ ∃ hq : q < S.length, idxP (fun c : Rul => eqS c.name r.key) S[q].t.rules = q2 ∧ ∃ h2 : q2 < S[q].t.rules.length, S[q].t.rules[q2].cols = keyOf S[q].t r.key := by
  obtain ⟨t, ht, h1, h2, k, hkm, h3, h4, _⟩ := (ok.tab hx).key r hr hk
  obtain ⟨y, hy, rfl⟩ := List.mem_map.1 ht
  obtain ⟨q, hq, rfl⟩ := List.getElem_of_mem hy
  have hs := own_shf ok hq
  rw [h1, h2] at hs
  have hri : ∀ (a b : Nat) (ha : a < S[q].t.rules.length) (hb : b < S[q].t.rules.length), a < b → cmpRl S[q].t.rules[a] S[q].t.rules[b] < 0 := fun a b ha hb hab => rises_lt preRl.tr (ok.tab hy).rises a b ha hb hab
  have hkn : eqS k.name r.key = true := (eqS_iff9 _ _).2 h3
  have hi : 0 ≤ idxP (fun c : Rul => eqS c.name r.key) S[q].t.rules := (any_iff _ _).1 (List.any_eq_true.2 ⟨k, hkm, hkn⟩)
  obtain ⟨q2, hq2⟩ := Int.eq_ofNat_of_zero_le hi
  have hlt : q2 < S[q].t.rules.length := by
    have := (idxP_range (fun c : Rul => eqS c.name r.key) S[q].t.rules).2
    omega
  have hat : eqS S[q].t.rules[q2].name r.key = true := idxP_at (fun c : Rul => eqS c.name r.key) S[q].t.rules q2 hlt hq2
  have e := rul_one33 hri (List.getElem_mem hlt) hkm hat hkn
  refine ⟨q, q2, hs, hq, hq2, hlt, ?_⟩
  unfold keyOf
  rw [uniq_find (isKey r.key) S[q].t.rules S[q].t.rules[q2] (List.getElem_mem hlt) (by rw [e]; unfold isKey; rw [h4, hkn]; rfl) (fun y hy hp => by
    unfold isKey at hp
    rw [Bool.and_eq_true] at hp
    exact rul_one33 hri hy (List.getElem_mem hlt) hp.2 hat)]
  rfl
end Go.Proofs.YtiadkchlkdaceaaGreat

namespace Go.Proofs.YtiadkchlkdaceaaGreat
open Go.RowKit Go.Deep
set_option maxRecDepth 100000
set_option linter.unusedVariables false
/-- how the document's store is read: its objects, and each table's rows -/
structure RefAt (w : World) (s : Nat) (ss : List Sch) (S : List Shf) (As : Option Addr) (caps : Nat) (At : Option Addr) (capt : Nat) (Rs : Option Addr) (capr : Nat) : Prop where
  row : RowAt w s [.slice As ss.length caps, .slice At S.length capt, .slice Rs S.length capr]
  sch : SlAt w 2 SchR As caps ss
  tab : SlAt w 5 TabR At capt (S.map (·.t))
  rows : SlAt w 1 RowsLR Rs capr (S.map (·.rows))
theorem RefAt.aft {w w' : World} {s : Nat} {ss : List Sch} {S : List Shf} {As : Option Addr} {caps : Nat} {At : Option Addr} {capt : Nat} {Rs : Option Addr} {capr : Nat} (h : RefAt w s ss S As caps At capt Rs capr) (a : Aft w w') : RefAt w' s ss S As caps At capt Rs capr :=
  ⟨h.row.aft a, schs_aft a h.sch, tabs_aft a h.tab, rowsl_aft a h.rows⟩
theorem RefAt.tabAt {w : World} {s : Nat} {ss : List Sch} {S : List Shf} {As : Option Addr} {caps : Nat} {At : Option Addr} {capt : Nat} {Rs : Option Addr} {capr : Nat} (h : RefAt w s ss S As caps At capt Rs capr) {q : Nat} (hq : q < S.length) :
    ∃ b off A2 cap2 A3 cap3, At = some ⟨b, off, none⟩ ∧ b < w.heap.size ∧ w.cell? ⟨b, off + q * 5, none⟩ = some (.string S[q].t.schema) ∧ w.cell? ⟨b, off + q * 5 + 1, none⟩ = some (.string S[q].t.name) ∧ w.cell? ⟨b, off + q * 5 + 2, none⟩ = some (.string S[q].t.owner) ∧
      w.cell? ⟨b, off + q * 5 + 3, none⟩ = some (.slice A2 S[q].t.cols.length cap2) ∧ w.cell? ⟨b, off + q * 5 + 4, none⟩ = some (.slice A3 S[q].t.rules.length cap3) ∧
      SlAt w 3 ColR A2 cap2 S[q].t.cols ∧ SlAt w 8 RulR A3 cap3 S[q].t.rules := by
  obtain ⟨b, off, A2, cap2, A3, cap3, h1, h2, h3, h4, h5, h6, h7, h8, h9, _⟩ := tab_at h.tab (k := q) (by simpa using hq)
  simp only [List.getElem_map] at h3 h4 h5 h6 h7 h8 h9
  exact ⟨b, off, A2, cap2, A3, cap3, h1, h2, h3, h4, h5, h6, h7, h8, h9⟩
theorem RefAt.rowAt {w : World} {s : Nat} {ss : List Sch} {S : List Shf} {As : Option Addr} {caps : Nat} {At : Option Addr} {capt : Nat} {Rs : Option Addr} {capr : Nat} (h : RefAt w s ss S As caps At capt Rs capr) {q : Nat} (hq : q < S.length) :
    ∃ b off A2 cap2, Rs = some ⟨b, off, none⟩ ∧ b < w.heap.size ∧ w.cell? ⟨b, off + q, none⟩ = some (.slice A2 S[q].rows.length cap2) ∧ SlAt w 1 RowsR A2 cap2 S[q].rows := by
  obtain ⟨b, off, A2, cap2, h1, h2, h3, h4⟩ := rowsl_at h.rows (k := q) (by simpa using hq)
  simp only [List.getElem_map] at h3 h4
  exact ⟨b, off, A2, cap2, h1, h2, h3, h4⟩
section
variable {ss : List Sch} {S : List Shf} {s : Nat} {As : Option Addr} {caps : Nat} {At : Option Addr} {capt : Nat} {Rs : Option Addr} {capr : Nat} {w : World}
set_option maxHeartbeats 8000000 in
theorem rvalues (R : RefAt w s ss S As caps At capt Rs capr) (q : Nat) (hq : q < S.length) (names : List ByteArray) (row : List Val) (N : Option Addr) (capN : Nat) (B : Option Addr) (capB : Nat) (hn : SlAt w 1 StrR N capN names) (h3 : SlAt w 3 ValR B capB row) (okn : OkN S[q].t.cols names) (hf : besideB formB S[q].t.cols row = true) (h64 : S.length ≤ 64) :
    Calls Tryz.prog 74 #[.pointer (some ⟨s, 0, none⟩), .int .i64 q, .slice N names.length capN, .slice B row.length capB] w (OfS w (ofVs S[q].t.cols names row) (wholeV (ofVs S[q].t.cols names row))) := by
  obtain ⟨b, off, A2, cap2, A3, cap3, hA, hb, c0, c1, c2, c3, c4, hcs, hrs⟩ := R.tabAt hq
  have s1 := R.row.cell (j := 1) rfl
  have sz := R.row.1
  have C := Lib.hid (of12 S[q].t.cols names row A2 cap2 N capN B capB w hcs hn h3 okn hf)
  rw [hA] at s1
  obtain ⟨y, hy⟩ : ∃ y, S[q] = y := ⟨_, rfl⟩
  rw [hy] at c0 c1 c2 c3 c4 C ⊢
  clear hA hcs hrs hn h3 okn hf hy R
  go_enter Tryz.func74, Tryz.ntmps74
  go_wp2_with fail
  refine C.out.mono ?_
  rintro e V ⟨A9, cap9, rfl, a9, h9⟩
  have HA := Lib.hid a9
  have H9 := Lib.hid h9
  clear a9 h9 s1 sz c0 c1 c2 c3 c4 C
  go_wp2_with fail
  go_ret2
  exact ⟨A9, cap9, rfl, HA.out, H9.out⟩
set_option maxHeartbeats 8000000 in
theorem rhas (R : RefAt w s ss S As caps At capt Rs capr) (q : Nat) (hq : q < S.length) (rows : List (List Val)) (names : List ByteArray) (want : List Val) (A1 : Option Addr) (cap1 : Nat) (N : Option Addr) (capN : Nat) (B : Option Addr) (capB : Nat) (h1 : SlAt w 1 RowsR A1 cap1 rows) (hn : SlAt w 1 StrR N capN names) (h3 : SlAt w 3 ValR B capB want) (okn : OkN S[q].t.cols names) (hf : ∀ r ∈ rows, besideB formB S[q].t.cols r = true) (h64 : S.length ≤ 64) :
    Calls Tryz.prog 75 #[.pointer (some ⟨s, 0, none⟩), .int .i64 q, .slice A1 rows.length cap1, .slice N names.length capN, .slice B want.length capB] w fun e w' => e = .returned (.bool (hasR12 S[q].t.cols rows names want)) ∧ Aft w w' := by
  have hlen := h1.len
  have HR := Lib.hid R
  have H1 := Lib.hid h1
  have HN := Lib.hid hn
  have H3 := Lib.hid h3
  have HOK := Lib.hid okn
  have HF := Lib.hid hf
  have HQ := Lib.hid hq
  clear R h1 hn h3 okn hf
  go_enter Tryz.func75, Tryz.ntmps75
  go_wp2_with fail
  go_loopw [11] (fun i wr => ∃ k : Nat, k ≤ rows.length ∧ i = .int .i64 k ∧ Aft w wr ∧ ∀ j, j < k → ∀ hj : j < rows.length, eqVs (ofVs S[q].t.cols names rows[j]) want = false) (fun i _ => rows.length - (intOf i).toNat)
  case atStart => exact ⟨0, Nat.zero_le _, rfl, Aft.refl _, fun j hj => absurd hj (Nat.not_lt_zero j)⟩
  case round =>
    obtain ⟨k, hk, rfl, ha, hp⟩ := hrel
    have HA := Lib.hid ha
    have HP := Lib.hid hp
    clear ha hp
    by_cases hlt : k < rows.length
    · obtain ⟨b, off, A4, cap4, hA, hb, c0, hv⟩ := row_at (rows_aft HA.out H1.out) hlt
      have C := Lib.hid (rvalues (HR.out.aft HA.out) q HQ.out names rows[k] N capN A4 cap4 (strs_aft HA.out HN.out) hv HOK.out (HF.out _ (List.getElem_mem hlt)) h64)
      have HX := Lib.hid (fun h : eqVs (ofVs S[q].t.cols names rows[k]) want = false => ext_lt (p := fun j => ∀ hj : j < rows.length, eqVs (ofVs S[q].t.cols names rows[j]) want = false) HP.out (fun _ => h))
      have HY := Lib.hid (fun h : eqVs (ofVs S[q].t.cols names rows[k]) want = true => (show hasR12 S[q].t.cols rows names want = true from List.any_eq_true.2 ⟨rows[k], List.getElem_mem hlt, h⟩))
      obtain ⟨u, hu⟩ : ∃ u, rows[k] = u := ⟨_, rfl⟩
      rw [hu] at c0 hv C HX HY
      rw [hA]
      clear hu hv hA
      go_wp2_with fail
      refine C.out.mono ?_
      rintro e V ⟨A9, cap9, rfl, a9, h9⟩
      have HV := Lib.hid (HA.out.trans a9)
      have C2 := Lib.hid (rsame_any A9 cap9 (ofVs S[q].t.cols names u) B capB want V h9 (vals_aft (HA.out.trans a9) H3.out))
      obtain ⟨b1, hb1⟩ : ∃ b1, eqVs (ofVs S[q].t.cols names u) want = b1 := ⟨_, rfl⟩
      rw [hb1] at C2 HX HY
      clear C a9 h9 hb1 c0 hb
      go_wp2_with fail
      refine C2.out.mono ?_
      rintro e V2 ⟨rfl, a2⟩
      have HV2 := Lib.hid (HV.out.trans a2)
      clear C2 a2
      cases b1
      · have HX2 := Lib.hid (HX.out rfl)
        go_wp2_with fail
        go_roundw
        case rel => exact ⟨k + 1, by omega, by go_num, HV2.out, HX2.out⟩
        case measure => simp [intOf]; omega
      · have HY2 := Lib.hid (HY.out rfl)
        go_wp2_with fail
        go_ret
        exact ⟨Eq.trans rfl (congrArg (fun b => Ending.returned (Value.bool b)) HY2.out).symm, HV2.out⟩
    · have HZ := Lib.hid (show hasR12 S[q].t.cols rows names want = false by
        cases e : hasR12 S[q].t.cols rows names want
        · rfl
        · obtain ⟨x, hx, h⟩ := List.any_eq_true.1 e
          obtain ⟨j, hj, rfl⟩ := List.getElem_of_mem hx
          rw [HP.out j (by omega) hj] at h
          cases h)
      go_wp2_with fail
      go_ret
      exact ⟨Eq.trans rfl (congrArg (fun b => Ending.returned (Value.bool b)) HZ.out).symm, HA.out⟩
def ThereP (w : World) (S : List Shf) (q : Nat) (ks : List ByteArray) (e : Ending) (w' : World) : Prop := ∃ M capM, e = .returned (.tuple #[.int .i64 q, .slice M ks.length capM]) ∧ Aft w w' ∧ SlAt w' 1 StrR M capM ks
set_option maxHeartbeats 8000000 in
theorem rthere (ok : SOk S ss) (R : RefAt w s ss S As caps At capt Rs capr) (x : Shf) (hx : x ∈ S) (r : Rul) (hr : r ∈ x.t.rules) (hk : r.kind = 4) (C : Option Addr) (capC : Nat) (q : Nat) (hsq : shfAt S r.schema r.table = q) (hq : q < S.length) :
    Calls Tryz.prog 76 #[.pointer (some ⟨s, 0, none⟩), .agg #[.string r.name, .int .i64 r.kind, .slice C r.cols.length capC, .int .i64 r.low, .int .i64 r.high, .string r.schema, .string r.table, .string r.key]] w (ThereP w S q (keyOf S[q].t r.key)) := by
  obtain ⟨q', q2, hq1, _, hr2, h2q, hcols⟩ := far_key ok hx hr hk
  obtain rfl : q' = q := by rw [hq1] at hsq; exact Int.ofNat_inj.1 hsq
  have h64 : S.length ≤ 64 := by have := ok.good.nt; simpa using this
  obtain ⟨nm, kd, cs, lo, hi, sc, tb, ky⟩ := r
  simp only at hq1 hr2 hcols ⊢
  obtain ⟨z, hz⟩ : ∃ z, S[q'] = z := ⟨_, rfl⟩
  simp only [hz] at hr2 hcols h2q ⊢
  have HZ0 := Lib.hid hz
  clear hr hk hx hsq
  have HR := Lib.hid R
  obtain ⟨W, hW⟩ : ∃ W, W = w.alloc (.cells #[.string nm, .int .i64 kd, .slice C cs.length capC, .int .i64 lo, .int .i64 hi, .string sc, .string tb, .string ky] 108) := ⟨_, rfl⟩
  have aW : Aft w W := by rw [hW]; exact (Aft.refl w).alloc _
  have rW : RowAt W w.heap.size [.string nm, .int .i64 kd, .slice C cs.length capC, .int .i64 lo, .int .i64 hi, .string sc, .string tb, .string ky] := by rw [hW]; exact box_row2 (Aft.refl _)
  have HRW := Lib.hid rW
  have HAW := Lib.hid aW
  have CT := Lib.hid (show ∀ x9 : Lat W, Calls Tryz.prog 27 #[.agg #[.slice As ss.length caps, .slice At S.length capt], .string sc, .string tb] (lat W x9) fun e w'' => e = .returned (.int .i64 q') ∧ Aft (lat W x9) w'' from fun x9 => by
    have := rtab_any (.slice As ss.length caps) At capt (S.map (·.t)) sc tb (lat W x9) (R.aft (aW.trans ((Aft.refl W).lat x9))).tab
    rw [tabAt_shf, hq1, List.length_map] at this
    exact this)
  have x5 := rW.cell (j := 5) rfl
  have x6 := rW.cell (j := 6) rfl
  have xz := rW.1
  have s0 := (R.row.aft aW).cell (j := 0) rfl
  have s1 := (R.row.aft aW).cell (j := 1) rfl
  have sz := (R.row.aft aW).1
  have HQ := Lib.hid hq
  have HR2 := Lib.hid hr2
  have H2Q := Lib.hid h2q
  have HC := Lib.hid hcols
  clear aW rW R hq1 hr2 hcols
  go_enter Tryz.func76, Tryz.ntmps76
  go_wp2_with fail
  rw [← hW]
  clear hW
  refine wp_region_lat (by kernel_rfl) (by kernel_rfl) ?_
  repeat (go_big_quiet_step ((go_at_call 27; exact Calls.lat_of (CT.out _))))
  refine wpQuiet_nil ?_
  intro V hw'
  have aV : Aft W V := by obtain ⟨x9, hw''⟩ := hw'; rw [hw'']; exact (Aft.refl W).lat x9
  clear hw' x5 x6 xz s0 s1 sz CT
  have HAV := Lib.hid (HAW.out.trans aV)
  have HWV := Lib.hid aV
  obtain ⟨b1, off1, B2, capb2, B3, capb3, hB1, hb1, f0, f1, f2, f3, f4, gcs, grs⟩ := (HR.out.aft HAV.out).tabAt HQ.out
  have o1 := (HR.out.row.aft HAV.out).cell (j := 1) rfl
  have oz := (HR.out.row.aft HAV.out).1
  rw [hB1] at o1
  rw [HZ0.out] at f0 f1 f2 f3 f4 gcs grs
  obtain ⟨Wq, hWq⟩ : ∃ Wq, Wq = V.alloc (.cells #[.string z.t.schema, .string z.t.name, .string z.t.owner, .slice B2 z.t.cols.length capb2, .slice B3 z.t.rules.length capb3] 76) := ⟨_, rfl⟩
  have aWq : Aft V Wq := by rw [hWq]; exact (Aft.refl V).alloc _
  have rWq : RowAt Wq V.heap.size [.string z.t.schema, .string z.t.name, .string z.t.owner, .slice B2 z.t.cols.length capb2, .slice B3 z.t.rules.length capb3] := by rw [hWq]; exact box_row2 (Aft.refl _)
  obtain ⟨b2, off2, M7, capm, hB3, hb2, _, _, m2, _, _, _, _, _, hms, _⟩ := rul_at (ruls_aft aWq grs) h2q
  rw [HC.out] at m2 hms
  have CR := Lib.hid (show ∀ x9 : Lat Wq, Calls Tryz.prog 50 #[.slice B3 z.t.rules.length capb3, .string ky] (lat Wq x9) fun e w'' => e = .returned (.int .i64 q2) ∧ lat Wq x9 = w'' from fun x9 => by
    have := rrul_any B3 capb3 z.t.rules ky (lat Wq x9) (ruls_aft (aWq.trans ((Aft.refl Wq).lat x9)) grs)
    rw [HR2.out] at this
    exact this)
  have HB3 := Lib.hid hB3
  have HMS := Lib.hid hms
  have HWQ := Lib.hid (HAV.out.trans aWq)
  have x4 := rWq.cell (j := 4) rfl
  have xz := rWq.1
  have q7 := (HRW.out.aft (HWV.out.trans aWq)).cell (j := 7) rfl
  have qz := (HRW.out.aft (HWV.out.trans aWq)).1
  clear aV aWq rWq gcs grs hms hB1 hB3
  go_wp2_with fail
  rw [← hWq]
  clear hWq o1 oz f0 f1 f2 f3 f4 hb1
  rw [HB3.out] at x4
  refine wp_region_lat (by kernel_rfl) (by kernel_rfl) ?_
  repeat (go_big_quiet_step ((go_at_call 50; (try rw [← HB3.out]); exact Calls.lat_same (CR.out _))))
  refine wpQuiet_nil ?_
  intro Z8 hw'
  have a8 : Aft Wq Z8 := by obtain ⟨x9, hw''⟩ := hw'; rw [hw'']; exact (Aft.refl Wq).lat x9
  have HZ := Lib.hid (HWQ.out.trans a8)
  have HMS2 := Lib.hid (strs_aft a8 HMS.out)
  clear hw' a8 x4 xz q7 qz m2 hb2 CR
  go_wp2_with fail
  go_ret2
  exact ⟨M7, capm, rfl, HZ.out, HMS2.out⟩
end
end Go.Proofs.YtiadkchlkdaceaaGreat

namespace Go.Proofs.YtiadkchlkdaceaaGreat
open Go.RowKit Go.Deep
set_option maxRecDepth 100000
set_option linter.unusedVariables false
section
variable {ss : List Sch} {S : List Shf} {s : Nat} {As : Option Addr} {caps : Nat} {At : Option Addr} {capt : Nat} {Rs : Option Addr} {capr : Nat} {w : World}
set_option maxHeartbeats 16000000 in
theorem rheld (ok : SOk S ss) (R : RefAt w s ss S As caps At capt Rs capr) (q : Nat) (hq : q < S.length) (left gone : List (List Val)) (A1 : Option Addr) (cap1 : Nat) (A2 : Option Addr) (cap2 : Nat) (h1 : SlAt w 1 RowsR A1 cap1 left) (h2 : SlAt w 1 RowsR A2 cap2 gone) (f1 : ∀ r ∈ left, besideB formB S[q].t.cols r = true) (f2 : ∀ r ∈ gone, besideB formB S[q].t.cols r = true) :
    Calls Tryz.prog 39 #[.pointer (some ⟨s, 0, none⟩), .int .i64 q, .slice A1 left.length cap1, .slice A2 gone.length cap2] w fun e w' => e = .returned (.bool (heldS S q left gone)) ∧ Aft w w' := by
  have hlen1 := h1.len
  have h64 : S.length ≤ 64 := by have := ok.good.nt; simpa using this
  have HR := Lib.hid R
  have H1 := Lib.hid h1
  have H2 := Lib.hid h2
  have F1 := Lib.hid f1
  have F2 := Lib.hid f2
  have OK := Lib.hid ok
  have s1 := R.row.cell (j := 1) rfl
  have sz := R.row.1
  clear R h1 h2 f1 f2 ok
  go_enter Tryz.func39, Tryz.ntmps39
  go_wp2_with fail
  clear s1 sz
  go_loopw [9] (fun i wr => ∃ k : Nat, k ≤ S.length ∧ i = .int .i64 k ∧ Aft w wr ∧ ∀ j, j < k → (shfN S j).t.rules.any (needR S q left gone (shfN S j) (if j = q then left else (shfN S j).rows)) = false) (fun i _ => S.length - (intOf i).toNat)
  case atStart => exact ⟨0, Nat.zero_le _, rfl, Aft.refl _, fun j hj => absurd hj (Nat.not_lt_zero j)⟩
  case round =>
    obtain ⟨k, hk, rfl, ha, hp⟩ := hrel
    have HA := Lib.hid ha
    have HP := Lib.hid hp
    clear ha hp
    obtain ⟨V0, hV0⟩ : ∃ V0, V0 = wr := ⟨_, rfl⟩
    subst hV0
    have s1 := (HR.out.row.aft HA.out).cell (j := 1) rfl
    have sz := (HR.out.row.aft HA.out).1
    by_cases hlt : k < S.length
    · obtain ⟨b5, off5, A5, cap5, hR5, hb5, r0, hrr⟩ := (HR.out.aft HA.out).rowAt hlt
      have s2 := (HR.out.row.aft HA.out).cell (j := 2) rfl
      have hm := List.getElem_mem hlt
      have hsn : shfN S k = S[k] := shfN_get hlt
      have HX := Lib.hid (fun h : (shfN S k).t.rules.any (needR S q left gone (shfN S k) (if k = q then left else (shfN S k).rows)) = false => ext_lt (p := fun j => (shfN S j).t.rules.any (needR S q left gone (shfN S j) (if j = q then left else (shfN S j).rows)) = false) HP.out h)
      have HY := Lib.hid (fun h : (shfN S k).t.rules.any (needR S q left gone (shfN S k) (if k = q then left else (shfN S k).rows)) = true => (show heldS S q left gone = true from List.any_eq_true.2 ⟨k, List.mem_range.2 hlt, h⟩))
      obtain ⟨b, off, B2, capb2, B3, capb3, hA, hb, c0, c1, c2, c3, c4, hcs, hrs⟩ := (HR.out.aft HA.out).tabAt hlt
      have hform := OK.out.form S[k] hm
      obtain ⟨y, hy⟩ : ∃ y, S[k] = y := ⟨_, rfl⟩
      rw [hsn] at HX HY
      rw [hy] at r0 hrr hm HX HY c0 c1 c2 c3 c4 hcs hrs hform
      rw [hR5] at s2
      have HM := Lib.hid hm
      have HYK := Lib.hid hy
      have HLK := Lib.hid (show ∃ _ : k < S.length, True from ⟨hlt, trivial⟩)
      have HCS := Lib.hid hcs
      have HRS := Lib.hid hrs
      have HAT := Lib.hid hA
      have KC := Lib.hid (show ∀ V, Aft V0 V → (V.cell? ⟨b, off + k * 5 + 4, none⟩ = some (.slice B3 y.t.rules.length capb3) ∧ b < V.heap.size) from fun V a => ⟨(Below.cell a (p := ⟨b, _, none⟩) hb).trans c4, Nat.lt_of_lt_of_le hb a.size⟩)
      clear hsn hy hR5 hm hcs hrs hA c0 c1 c2 c3 c4 hb
      by_cases hkq : k = q
      · have SL := Lib.hid (show SlAt V0 1 RowsR A1 cap1 left from rows_aft HA.out H1.out)
        have FO := Lib.hid (show ∀ r ∈ left, besideB formB y.t.cols r = true from fun r hr => by have h9 := F1.out r hr; have e9 := HYK.out; subst hkq; rwa [e9] at h9)
        rw [if_pos hkq] at HX HY
        have hkd : ((k : Int) == (q : Int)) = true := by simp; omega
        have hkp : ((k : Int) = (q : Int)) = True := by simp; omega
        clear hkq
        clear hrr hform
        go_wp2_with fail
        clear r0 hb5 s1 s2 sz
        go_loopw [11] (fun i wr => ∃ n : Nat, n ≤ y.t.rules.length ∧ i = .int .i64 n ∧ Aft V0 wr ∧ ∀ j, j < n → ∀ hj : j < y.t.rules.length, needR S q left gone y left y.t.rules[j] = false) (fun i _ => y.t.rules.length - (intOf i).toNat)
        case atStart => exact ⟨0, Nat.zero_le _, rfl, Aft.refl _, fun j hj => absurd hj (Nat.not_lt_zero j)⟩
        case round =>
          obtain ⟨n, hn, rfl, ha, hp⟩ := hrel
          have HB := Lib.hid ha
          have HA1 := Lib.hid (HA.out.trans ha)
          have HP2 := Lib.hid hp
          clear ha hp
          obtain ⟨V1, hV1⟩ : ∃ V1, V1 = wr := ⟨_, rfl⟩
          subst hV1
          obtain ⟨c4, hb⟩ := KC.out V1 HB.out
          have s1 := (HR.out.row.aft HA1.out).cell (j := 1) rfl
          have sz := (HR.out.row.aft HA1.out).1
          rw [HAT.out] at s1
          have hlenU := HRS.out.len
          by_cases hltn : n < y.t.rules.length
          · obtain ⟨b7, off7, N7, cap7, hA7, hb7, u0, u1, u2, u3, u4, u5, u6, u7, hns, _⟩ := rul_at (ruls_aft HB.out HRS.out) hltn
            have hpm := List.getElem_mem hltn
            have HX2 := Lib.hid (fun h : needR S q left gone y left y.t.rules[n] = false => ext_lt (p := fun j => ∀ hj : j < y.t.rules.length, needR S q left gone y left y.t.rules[j] = false) HP2.out (fun _ => h))
            have HY2 := Lib.hid (fun h : needR S q left gone y left y.t.rules[n] = true => (show y.t.rules.any (needR S q left gone y left) = true from List.any_eq_true.2 ⟨_, hpm, h⟩))
            obtain ⟨p, hp⟩ : ∃ p, y.t.rules[n] = p := ⟨_, rfl⟩
            rw [hp] at u0 u1 u2 u3 u4 u5 u6 u7 hns hpm HX2 HY2
            have HPM := Lib.hid hpm
            rw [hA7] at c4
            obtain ⟨Wp, hWp⟩ : ∃ Wp, Wp = V1.alloc (.cells #[.string p.name, .int .i64 p.kind, .slice N7 p.cols.length cap7, .int .i64 p.low, .int .i64 p.high, .string p.schema, .string p.table, .string p.key] 108) := ⟨_, rfl⟩
            have aWp : Aft V1 Wp := by rw [hWp]; exact (Aft.refl V1).alloc _
            have rWp : RowAt Wp V1.heap.size [.string p.name, .int .i64 p.kind, .slice N7 p.cols.length cap7, .int .i64 p.low, .int .i64 p.high, .string p.schema, .string p.table, .string p.key] := by rw [hWp]; exact box_row2 (Aft.refl _)
            have HRP := Lib.hid rWp
            have HWP := Lib.hid (HA1.out.trans aWp)
            have HBP := Lib.hid (HB.out.trans aWp)
            have HNS := Lib.hid (strs_aft aWp hns)
            have q1 := rWp.cell (j := 1) rfl
            have q5 := rWp.cell (j := 5) rfl
            have q6 := rWp.cell (j := 6) rfl
            have qz := rWp.1
            have t0 := (HR.out.row.aft HWP.out).cell (j := 0) rfl
            have t1 := (HR.out.row.aft HWP.out).cell (j := 1) rfl
            have tz := (HR.out.row.aft HWP.out).1
            clear hp hns hpm aWp rWp
            go_wp2_with fail
            rw [← hWp]
            clear hWp u0 u1 u2 u3 u4 u5 u6 u7 hb7 c4 hb s1 sz hA7
            obtain ⟨kd, hkd2⟩ : ∃ kd, p.kind = kd := ⟨_, rfl⟩
            rw [hkd2] at q1
            have HKD := Lib.hid hkd2
            clear hkd2
            by_cases h4 : kd = 4
            · subst h4
              obtain ⟨sv, hsv⟩ := OK.out.far HM.out HPM.out HKD.out
              have HSV := Lib.hid hsv
              have hsl := shfAt_lt hsv
              have CC := Lib.hid (show ∀ x9 : Lat Wp, Calls Tryz.prog 27 #[.agg #[.slice As ss.length caps, .slice At S.length capt], .string p.schema, .string p.table] (lat Wp x9) fun e w'' => e = .returned (.int .i64 sv) ∧ Aft (lat Wp x9) w'' from fun x9 => by
                have := rtab_any (.slice As ss.length caps) At capt (S.map (·.t)) p.schema p.table (lat Wp x9) (HR.out.aft (HWP.out.trans ((Aft.refl Wp).lat x9))).tab
                rw [tabAt_shf, HSV.out, List.length_map] at this
                exact this)
              by_cases hsq : sv = q
              · have hds : ((sv : Int) == (q : Int)) = true := by simp; omega
                have hdt : ((sv : Int) != (q : Int)) = false := by simp; omega
                refine wp_region_lat (by kernel_rfl) (by kernel_rfl) ?_
                repeat (go_big_quiet_step ((go_at_call 27; exact Calls.lat_of (CC.out _))))
                refine wpQuiet_nil ?_
                intro Z hw'
                have aZ : Aft Wp Z := by obtain ⟨x9, hw''⟩ := hw'; rw [hw'']; exact (Aft.refl Wp).lat x9
                clear hw'
                have HZB := Lib.hid (HBP.out.trans aZ)
                have HZW := Lib.hid (HWP.out.trans aZ)
                have HPZ := Lib.hid (HRP.out.aft aZ)
                have HNZ := Lib.hid (strs_aft aZ HNS.out)
                have CTH := Lib.hid (rthere OK.out (HR.out.aft (HWP.out.trans aZ)) y HM.out p HPM.out HKD.out N7 cap7 q (by rw [HSV.out, hsq]) hq)
                have v0 := HPZ.out.cell (j := 0) rfl
                have v1 := HPZ.out.cell (j := 1) rfl
                have v2 := HPZ.out.cell (j := 2) rfl
                have v3 := HPZ.out.cell (j := 3) rfl
                have v4 := HPZ.out.cell (j := 4) rfl
                have v5 := HPZ.out.cell (j := 5) rfl
                have v6 := HPZ.out.cell (j := 6) rfl
                have v7 := HPZ.out.cell (j := 7) rfl
                have vz := HPZ.out.1
                rw [HKD.out] at v1 CTH
                clear q1 q5 q6 qz t0 t1 tz CC aZ
                go_wp2_with fail
                refine CTH.out.mono ?_
                rintro e Y ⟨M, capM, rfl, aY, hM⟩
                have HYB := Lib.hid (HZB.out.trans aY)
                have HYW := Lib.hid (HZW.out.trans aY)
                have HPY := Lib.hid (HPZ.out.aft aY)
                have HNY := Lib.hid (strs_aft aY HNZ.out)
                have HMY := Lib.hid hM
                clear v0 v1 v2 v3 v4 v5 v6 v7 vz CTH aY hM
                go_wp2_with fail
                go_loopw [15] (fun i wr => ∃ m : Nat, m ≤ left.length ∧ i = .int .i64 m ∧ Aft Y wr ∧ ∀ j, j < m → ∀ hj : j < left.length, needS (shfN S q) y q left gone p left[j] = false) (fun i _ => left.length - (intOf i).toNat)
                case atStart => exact ⟨0, Nat.zero_le _, rfl, Aft.refl _, fun j hj => absurd hj (Nat.not_lt_zero j)⟩
                case round =>
                  obtain ⟨m, hm, rfl, ha, hp⟩ := hrel
                  have HC := Lib.hid ha
                  have HP3 := Lib.hid hp
                  have HCW := Lib.hid (HYW.out.trans ha)
                  have HCB := Lib.hid (HYB.out.trans ha)
                  clear ha hp
                  obtain ⟨V2, hV2⟩ : ∃ V2, V2 = wr := ⟨_, rfl⟩
                  subst hV2
                  have hlenW := SL.out.len
                  by_cases hltm : m < left.length
                  · obtain ⟨b8, off8, A8, cap8, hA8, hb8, g0, hv⟩ := row_at (rows_aft HCB.out SL.out) hltm
                    have hrm := FO.out _ (List.getElem_mem hltm)
                    have HX3 := Lib.hid (fun h : needS (shfN S q) y q left gone p left[m] = false => ext_lt (p := fun j => ∀ hj : j < left.length, needS (shfN S q) y q left gone p left[j] = false) HP3.out (fun _ => h))
                    have HY3 := Lib.hid (fun h : needS (shfN S q) y q left gone p left[m] = true => (show left.any (needS (shfN S q) y q left gone p) = true from List.any_eq_true.2 ⟨_, List.getElem_mem hltm, h⟩))
                    obtain ⟨u, hu⟩ : ∃ u, left[m] = u := ⟨_, rfl⟩
                    rw [hu] at g0 hv hrm HX3 HY3
                    have CV := Lib.hid (show ∀ V, Aft V2 V → Calls Tryz.prog 74 #[.pointer (some ⟨s, 0, none⟩), .int .i64 k, .slice N7 p.cols.length cap7, .slice A8 u.length cap8] V (OfS V (ofVs y.t.cols p.cols u) (wholeV (ofVs y.t.cols p.cols u))) from fun V a => by
                      have := rvalues (HR.out.aft (HCW.out.trans a)) k HLK.out.1 p.cols u N7 cap7 A8 cap8 (strs_aft (HC.out.trans a) HNY.out) (vals_aft a hv) (by rw [HYK.out]; exact OK.out.cols HM.out HPM.out) (by rw [HYK.out]; exact hrm) h64
                      rwa [HYK.out] at this)
                    have v2 := (HPY.out.aft HC.out).cell (j := 2) rfl
                    have vz := (HPY.out.aft HC.out).1
                    rw [hA8]
                    clear hu hrm
                    go_wp2_with fail
                    refine wp_region_mix [true, true, true, true, true, true, true, true, false, true, true, true, true, false] 13 (fun w' => ∃ x : Lat V2, w' = lat V2 x) (by kernel_rfl) (by kernel_rfl) ((Aft.refl V2).drew).to ?_
                    refine wpMix_reads 8 rfl rfl ?_
                    simp only [List.take_succ_cons, List.take_zero, List.drop_succ_cons, List.drop_zero]
                    repeat (go_big_quiet_step (fail))
                    refine wpQuiet_nil ?_
                    refine wpMix_step rfl (fun K hK => ?_)
                    go_simp
                    obtain ⟨D9, hD9⟩ : ∃ D9, D9 = V2.drew := ⟨_, rfl⟩
                    have aD : Aft V2 D9 := by rw [hD9]; exact (Aft.refl V2).drew
                    rw [← hD9]
                    go_at_call 74
                    refine (CV.out D9 aD).mono ?_
                    rintro e X ⟨A9, cap9, rfl, aX, hX⟩
                    dsimp only
                    refine hK _ _ (fun _ => (aD.trans aX).to) ?_
                    clear hK K hD9
                    refine wpMix_reads 4 rfl rfl ?_
                    simp only [List.take_succ_cons, List.take_zero, List.drop_succ_cons, List.drop_zero]
                    repeat (go_big_quiet_step (fail))
                    refine wpQuiet_nil ?_
                    refine wpMix_step rfl (fun K hK => ?_)
                    go_simp
                    refine hK _ _ (fun h => absurd h (by decide)) ?_
                    clear hK K
                    refine NoPanic.normal ?_
                    have HC9 := Lib.hid (HC.out.trans (aD.trans aX))
                    have HCW9 := Lib.hid (HCW.out.trans (aD.trans aX))
                    have HX9 := Lib.hid hX
                    have HA8 := Lib.hid hA8
                    clear aD aX hX g0 hv hb8 v2 vz CV hA8
                    obtain ⟨L9, hL9⟩ : ∃ L9, ofVs y.t.cols p.cols u = L9 := ⟨_, rfl⟩
                    rw [hL9] at HX9
                    have hns : needS (shfN S q) y q left gone p u = (wholeV L9 && (hasR12 S[q].t.cols gone (keyOf S[q].t p.key) L9 && !hasR12 S[q].t.cols left (keyOf S[q].t p.key) L9)) := by
                      unfold needS
                      rw [hL9, shfN_get hq]
                    rw [hns] at HX3 HY3
                    rw [hL9]
                    have okk := OK.out.keyOf (x := S[q]) (List.getElem_mem hq) p.key
                    have CG := Lib.hid (show ∀ V, Aft X V → _ from fun V a => rhas (HR.out.aft (HCW9.out.trans a)) q hq gone (keyOf S[q].t p.key) L9 A2 cap2 M capM A9 cap9 (rows_aft (HCW9.out.trans a) H2.out) (strs_aft (HC9.out.trans a) HMY.out) (vals_aft a HX9.out) okk F2.out h64)
                    have CL := Lib.hid (show ∀ V, Aft X V → _ from fun V a => rhas (HR.out.aft (HCW9.out.trans a)) q hq left (keyOf S[q].t p.key) L9 A1 cap1 M capM A9 cap9 (rows_aft (HCW9.out.trans a) H1.out) (strs_aft (HC9.out.trans a) HMY.out) (vals_aft a HX9.out) okk F1.out h64)
                    rw [HA8.out] at CL
                    obtain ⟨bg, hbg⟩ : ∃ bg, hasR12 S[q].t.cols gone (keyOf S[q].t p.key) L9 = bg := ⟨_, rfl⟩
                    obtain ⟨bl, hbl⟩ : ∃ bl, hasR12 S[q].t.cols left (keyOf S[q].t p.key) L9 = bl := ⟨_, rfl⟩
                    obtain ⟨wv, hwv⟩ : ∃ wv, wholeV L9 = wv := ⟨_, rfl⟩
                    rw [hbg] at HX3 HY3 CG
                    rw [hbl] at HX3 HY3 CL
                    rw [hwv] at HX3 HY3
                    rw [hwv]
                    clear hbg hbl hwv hL9 hns okk
                    cases wv
                    · have HN := Lib.hid (HX3.out rfl)
                      go_wp2_with fail
                      go_roundw
                      case rel => exact ⟨m + 1, by omega, by go_num, HC9.out, HN.out⟩
                      case measure => simp [intOf]; omega
                    · go_wp2_with fail
                      refine (CG.out X (Aft.refl X)).mono ?_
                      rintro e X2 ⟨rfl, a2⟩
                      have HC2 := Lib.hid (HC9.out.trans a2)
                      have HX2b := Lib.hid a2
                      have HCW2 := Lib.hid (HCW9.out.trans a2)
                      clear a2 CG
                      cases bg
                      · have HN := Lib.hid (HX3.out rfl)
                        go_wp2_with fail
                        go_roundw
                        case rel => exact ⟨m + 1, by omega, by go_num, HC2.out, HN.out⟩
                        case measure => simp [intOf]; omega
                      · go_wp2_with fail
                        refine (CL.out X2 HX2b.out).mono ?_
                        rintro e X3 ⟨rfl, a3⟩
                        have HC3 := Lib.hid (HC2.out.trans a3)
                        have HCW3 := Lib.hid (HCW2.out.trans a3)
                        clear a3 CL
                        cases bl
                        · have HN := Lib.hid (HY.out (HY2.out (show needR S q left gone y left p = true by
                            unfold needR
                            rw [HKD.out, decide_eq_true (by rw [HSV.out, hsq] : shfAt S p.schema p.table = q), HY3.out rfl]
                            rfl)))
                          go_wp2_with fail
                          go_ret
                          exact ⟨Eq.trans rfl (congrArg (fun b => Ending.returned (Value.bool b)) HN.out).symm, HCW3.out⟩
                        · have HN := Lib.hid (HX3.out rfl)
                          go_wp2_with fail
                          go_roundw
                          case rel => exact ⟨m + 1, by omega, by go_num, HC3.out, HN.out⟩
                          case measure => simp [intOf]; omega
                  · have HN := Lib.hid (HX2.out (show needR S q left gone y left p = false by
                    unfold needR
                    rw [show left.any (needS (shfN S q) y q left gone p) = false from by
                      cases e : left.any (needS (shfN S q) y q left gone p)
                      · rfl
                      · obtain ⟨z, hz, h⟩ := List.any_eq_true.1 e
                        obtain ⟨j, hj, rfl⟩ := List.getElem_of_mem hz
                        rw [HP3.out j (by omega) hj] at h
                        cases h]
                    simp))
                    go_wp2_with fail
                    go_roundw
                    case rel => exact ⟨n + 1, by omega, by go_num, HCB.out, HN.out⟩
                    case measure => simp [intOf]; omega
              · have hds : ((sv : Int) == (q : Int)) = false := by simp; omega
                have hdt : ((sv : Int) != (q : Int)) = true := by simp; omega
                refine wp_region_lat (by kernel_rfl) (by kernel_rfl) ?_
                repeat (go_big_quiet_step ((go_at_call 27; exact Calls.lat_of (CC.out _))))
                refine wpQuiet_nil ?_
                intro Z hw'
                have aZ : Aft Wp Z := by obtain ⟨x9, hw''⟩ := hw'; rw [hw'']; exact (Aft.refl Wp).lat x9
                clear hw'
                have HZB := Lib.hid (HBP.out.trans aZ)
                clear q1 q5 q6 qz t0 t1 tz CC aZ
                have HN := Lib.hid (HX2.out (show needR S q left gone y left p = false by unfold needR; rw [decide_eq_false (by rw [HSV.out]; omega : ¬ shfAt S p.schema p.table = q)]; simp))
                go_wp2_with fail
                go_roundw
                case rel => exact ⟨n + 1, by omega, by go_num, HZB.out, HN.out⟩
                case measure => simp [intOf]; omega
            · have h4b : (kd == 4) = false := by simpa using h4
              have h4c : (kd != 4) = true := by simpa using h4
              refine wp_region_lat (by kernel_rfl) (by kernel_rfl) ?_
              repeat (go_big_quiet_step (fail))
              refine wpQuiet_nil ?_
              intro Z hw'
              have aZ : Aft Wp Z := by obtain ⟨x9, hw''⟩ := hw'; rw [hw'']; exact (Aft.refl Wp).lat x9
              clear hw'
              have HZB := Lib.hid (HBP.out.trans aZ)
              clear q1 q5 q6 qz t0 t1 tz aZ
              have HN := Lib.hid (HX2.out (show needR S q left gone y left p = false by unfold needR; rw [HKD.out, h4b]; rfl))
              go_wp2_with fail
              go_roundw
              case rel => exact ⟨n + 1, by omega, by go_num, HZB.out, HN.out⟩
              case measure => simp [intOf]; omega
          · have HN := Lib.hid (HX.out (by
              cases e : y.t.rules.any (needR S q left gone y left)
              · rfl
              · obtain ⟨z, hz, h⟩ := List.any_eq_true.1 e
                obtain ⟨j, hj, rfl⟩ := List.getElem_of_mem hz
                rw [HP2.out j (by omega) hj] at h
                cases h))
            go_wp2_with fail
            go_roundw
            case rel => exact ⟨k + 1, by omega, by go_num, HA1.out, HN.out⟩
            case measure => simp [intOf]; omega
      · have SL := Lib.hid (show SlAt V0 1 RowsR A5 cap5 y.rows from hrr)
        have FO := Lib.hid (show ∀ r ∈ y.rows, besideB formB y.t.cols r = true from hform)
        rw [if_neg hkq] at HX HY
        have hkd : ((k : Int) == (q : Int)) = false := by simp; omega
        clear hrr hform
        go_wp2_with fail
        clear r0 hb5 s1 s2 sz
        go_loopw [11] (fun i wr => ∃ n : Nat, n ≤ y.t.rules.length ∧ i = .int .i64 n ∧ Aft V0 wr ∧ ∀ j, j < n → ∀ hj : j < y.t.rules.length, needR S q left gone y y.rows y.t.rules[j] = false) (fun i _ => y.t.rules.length - (intOf i).toNat)
        case atStart => exact ⟨0, Nat.zero_le _, rfl, Aft.refl _, fun j hj => absurd hj (Nat.not_lt_zero j)⟩
        case round =>
          obtain ⟨n, hn, rfl, ha, hp⟩ := hrel
          have HB := Lib.hid ha
          have HA1 := Lib.hid (HA.out.trans ha)
          have HP2 := Lib.hid hp
          clear ha hp
          obtain ⟨V1, hV1⟩ : ∃ V1, V1 = wr := ⟨_, rfl⟩
          subst hV1
          obtain ⟨c4, hb⟩ := KC.out V1 HB.out
          have s1 := (HR.out.row.aft HA1.out).cell (j := 1) rfl
          have sz := (HR.out.row.aft HA1.out).1
          rw [HAT.out] at s1
          have hlenU := HRS.out.len
          by_cases hltn : n < y.t.rules.length
          · obtain ⟨b7, off7, N7, cap7, hA7, hb7, u0, u1, u2, u3, u4, u5, u6, u7, hns, _⟩ := rul_at (ruls_aft HB.out HRS.out) hltn
            have hpm := List.getElem_mem hltn
            have HX2 := Lib.hid (fun h : needR S q left gone y y.rows y.t.rules[n] = false => ext_lt (p := fun j => ∀ hj : j < y.t.rules.length, needR S q left gone y y.rows y.t.rules[j] = false) HP2.out (fun _ => h))
            have HY2 := Lib.hid (fun h : needR S q left gone y y.rows y.t.rules[n] = true => (show y.t.rules.any (needR S q left gone y y.rows) = true from List.any_eq_true.2 ⟨_, hpm, h⟩))
            obtain ⟨p, hp⟩ : ∃ p, y.t.rules[n] = p := ⟨_, rfl⟩
            rw [hp] at u0 u1 u2 u3 u4 u5 u6 u7 hns hpm HX2 HY2
            have HPM := Lib.hid hpm
            rw [hA7] at c4
            obtain ⟨Wp, hWp⟩ : ∃ Wp, Wp = V1.alloc (.cells #[.string p.name, .int .i64 p.kind, .slice N7 p.cols.length cap7, .int .i64 p.low, .int .i64 p.high, .string p.schema, .string p.table, .string p.key] 108) := ⟨_, rfl⟩
            have aWp : Aft V1 Wp := by rw [hWp]; exact (Aft.refl V1).alloc _
            have rWp : RowAt Wp V1.heap.size [.string p.name, .int .i64 p.kind, .slice N7 p.cols.length cap7, .int .i64 p.low, .int .i64 p.high, .string p.schema, .string p.table, .string p.key] := by rw [hWp]; exact box_row2 (Aft.refl _)
            have HRP := Lib.hid rWp
            have HWP := Lib.hid (HA1.out.trans aWp)
            have HBP := Lib.hid (HB.out.trans aWp)
            have HNS := Lib.hid (strs_aft aWp hns)
            have q1 := rWp.cell (j := 1) rfl
            have q5 := rWp.cell (j := 5) rfl
            have q6 := rWp.cell (j := 6) rfl
            have qz := rWp.1
            have t0 := (HR.out.row.aft HWP.out).cell (j := 0) rfl
            have t1 := (HR.out.row.aft HWP.out).cell (j := 1) rfl
            have tz := (HR.out.row.aft HWP.out).1
            clear hp hns hpm aWp rWp
            go_wp2_with fail
            rw [← hWp]
            clear hWp u0 u1 u2 u3 u4 u5 u6 u7 hb7 c4 hb s1 sz hA7
            obtain ⟨kd, hkd2⟩ : ∃ kd, p.kind = kd := ⟨_, rfl⟩
            rw [hkd2] at q1
            have HKD := Lib.hid hkd2
            clear hkd2
            by_cases h4 : kd = 4
            · subst h4
              obtain ⟨sv, hsv⟩ := OK.out.far HM.out HPM.out HKD.out
              have HSV := Lib.hid hsv
              have hsl := shfAt_lt hsv
              have CC := Lib.hid (show ∀ x9 : Lat Wp, Calls Tryz.prog 27 #[.agg #[.slice As ss.length caps, .slice At S.length capt], .string p.schema, .string p.table] (lat Wp x9) fun e w'' => e = .returned (.int .i64 sv) ∧ Aft (lat Wp x9) w'' from fun x9 => by
                have := rtab_any (.slice As ss.length caps) At capt (S.map (·.t)) p.schema p.table (lat Wp x9) (HR.out.aft (HWP.out.trans ((Aft.refl Wp).lat x9))).tab
                rw [tabAt_shf, HSV.out, List.length_map] at this
                exact this)
              by_cases hsq : sv = q
              · have hds : ((sv : Int) == (q : Int)) = true := by simp; omega
                have hdt : ((sv : Int) != (q : Int)) = false := by simp; omega
                refine wp_region_lat (by kernel_rfl) (by kernel_rfl) ?_
                repeat (go_big_quiet_step ((go_at_call 27; exact Calls.lat_of (CC.out _))))
                refine wpQuiet_nil ?_
                intro Z hw'
                have aZ : Aft Wp Z := by obtain ⟨x9, hw''⟩ := hw'; rw [hw'']; exact (Aft.refl Wp).lat x9
                clear hw'
                have HZB := Lib.hid (HBP.out.trans aZ)
                have HZW := Lib.hid (HWP.out.trans aZ)
                have HPZ := Lib.hid (HRP.out.aft aZ)
                have HNZ := Lib.hid (strs_aft aZ HNS.out)
                have CTH := Lib.hid (rthere OK.out (HR.out.aft (HWP.out.trans aZ)) y HM.out p HPM.out HKD.out N7 cap7 q (by rw [HSV.out, hsq]) hq)
                have v0 := HPZ.out.cell (j := 0) rfl
                have v1 := HPZ.out.cell (j := 1) rfl
                have v2 := HPZ.out.cell (j := 2) rfl
                have v3 := HPZ.out.cell (j := 3) rfl
                have v4 := HPZ.out.cell (j := 4) rfl
                have v5 := HPZ.out.cell (j := 5) rfl
                have v6 := HPZ.out.cell (j := 6) rfl
                have v7 := HPZ.out.cell (j := 7) rfl
                have vz := HPZ.out.1
                rw [HKD.out] at v1 CTH
                clear q1 q5 q6 qz t0 t1 tz CC aZ
                go_wp2_with fail
                refine CTH.out.mono ?_
                rintro e Y ⟨M, capM, rfl, aY, hM⟩
                have HYB := Lib.hid (HZB.out.trans aY)
                have HYW := Lib.hid (HZW.out.trans aY)
                have HPY := Lib.hid (HPZ.out.aft aY)
                have HNY := Lib.hid (strs_aft aY HNZ.out)
                have HMY := Lib.hid hM
                clear v0 v1 v2 v3 v4 v5 v6 v7 vz CTH aY hM
                go_wp2_with fail
                go_loopw [15] (fun i wr => ∃ m : Nat, m ≤ y.rows.length ∧ i = .int .i64 m ∧ Aft Y wr ∧ ∀ j, j < m → ∀ hj : j < y.rows.length, needS (shfN S q) y q left gone p y.rows[j] = false) (fun i _ => y.rows.length - (intOf i).toNat)
                case atStart => exact ⟨0, Nat.zero_le _, rfl, Aft.refl _, fun j hj => absurd hj (Nat.not_lt_zero j)⟩
                case round =>
                  obtain ⟨m, hm, rfl, ha, hp⟩ := hrel
                  have HC := Lib.hid ha
                  have HP3 := Lib.hid hp
                  have HCW := Lib.hid (HYW.out.trans ha)
                  have HCB := Lib.hid (HYB.out.trans ha)
                  clear ha hp
                  obtain ⟨V2, hV2⟩ : ∃ V2, V2 = wr := ⟨_, rfl⟩
                  subst hV2
                  have hlenW := SL.out.len
                  by_cases hltm : m < y.rows.length
                  · obtain ⟨b8, off8, A8, cap8, hA8, hb8, g0, hv⟩ := row_at (rows_aft HCB.out SL.out) hltm
                    have hrm := FO.out _ (List.getElem_mem hltm)
                    have HX3 := Lib.hid (fun h : needS (shfN S q) y q left gone p y.rows[m] = false => ext_lt (p := fun j => ∀ hj : j < y.rows.length, needS (shfN S q) y q left gone p y.rows[j] = false) HP3.out (fun _ => h))
                    have HY3 := Lib.hid (fun h : needS (shfN S q) y q left gone p y.rows[m] = true => (show y.rows.any (needS (shfN S q) y q left gone p) = true from List.any_eq_true.2 ⟨_, List.getElem_mem hltm, h⟩))
                    obtain ⟨u, hu⟩ : ∃ u, y.rows[m] = u := ⟨_, rfl⟩
                    rw [hu] at g0 hv hrm HX3 HY3
                    have CV := Lib.hid (show ∀ V, Aft V2 V → Calls Tryz.prog 74 #[.pointer (some ⟨s, 0, none⟩), .int .i64 k, .slice N7 p.cols.length cap7, .slice A8 u.length cap8] V (OfS V (ofVs y.t.cols p.cols u) (wholeV (ofVs y.t.cols p.cols u))) from fun V a => by
                      have := rvalues (HR.out.aft (HCW.out.trans a)) k HLK.out.1 p.cols u N7 cap7 A8 cap8 (strs_aft (HC.out.trans a) HNY.out) (vals_aft a hv) (by rw [HYK.out]; exact OK.out.cols HM.out HPM.out) (by rw [HYK.out]; exact hrm) h64
                      rwa [HYK.out] at this)
                    have v2 := (HPY.out.aft HC.out).cell (j := 2) rfl
                    have vz := (HPY.out.aft HC.out).1
                    rw [hA8]
                    clear hu hrm
                    go_wp2_with fail
                    refine wp_region_mix [true, true, true, true, true, true, true, true, false, true, true, true, true, false] 13 (fun w' => ∃ x : Lat V2, w' = lat V2 x) (by kernel_rfl) (by kernel_rfl) ((Aft.refl V2).drew).to ?_
                    refine wpMix_reads 8 rfl rfl ?_
                    simp only [List.take_succ_cons, List.take_zero, List.drop_succ_cons, List.drop_zero]
                    repeat (go_big_quiet_step (fail))
                    refine wpQuiet_nil ?_
                    refine wpMix_step rfl (fun K hK => ?_)
                    go_simp
                    obtain ⟨D9, hD9⟩ : ∃ D9, D9 = V2.drew := ⟨_, rfl⟩
                    have aD : Aft V2 D9 := by rw [hD9]; exact (Aft.refl V2).drew
                    rw [← hD9]
                    go_at_call 74
                    refine (CV.out D9 aD).mono ?_
                    rintro e X ⟨A9, cap9, rfl, aX, hX⟩
                    dsimp only
                    refine hK _ _ (fun _ => (aD.trans aX).to) ?_
                    clear hK K hD9
                    refine wpMix_reads 4 rfl rfl ?_
                    simp only [List.take_succ_cons, List.take_zero, List.drop_succ_cons, List.drop_zero]
                    repeat (go_big_quiet_step (fail))
                    refine wpQuiet_nil ?_
                    refine wpMix_step rfl (fun K hK => ?_)
                    go_simp
                    refine hK _ _ (fun h => absurd h (by decide)) ?_
                    clear hK K
                    refine NoPanic.normal ?_
                    have HC9 := Lib.hid (HC.out.trans (aD.trans aX))
                    have HCW9 := Lib.hid (HCW.out.trans (aD.trans aX))
                    have HX9 := Lib.hid hX
                    have HA8 := Lib.hid hA8
                    clear aD aX hX g0 hv hb8 v2 vz CV hA8
                    obtain ⟨L9, hL9⟩ : ∃ L9, ofVs y.t.cols p.cols u = L9 := ⟨_, rfl⟩
                    rw [hL9] at HX9
                    have hns : needS (shfN S q) y q left gone p u = (wholeV L9 && (hasR12 S[q].t.cols gone (keyOf S[q].t p.key) L9 && !hasR12 S[q].t.cols left (keyOf S[q].t p.key) L9)) := by
                      unfold needS
                      rw [hL9, shfN_get hq]
                    rw [hns] at HX3 HY3
                    rw [hL9]
                    have okk := OK.out.keyOf (x := S[q]) (List.getElem_mem hq) p.key
                    have CG := Lib.hid (show ∀ V, Aft X V → _ from fun V a => rhas (HR.out.aft (HCW9.out.trans a)) q hq gone (keyOf S[q].t p.key) L9 A2 cap2 M capM A9 cap9 (rows_aft (HCW9.out.trans a) H2.out) (strs_aft (HC9.out.trans a) HMY.out) (vals_aft a HX9.out) okk F2.out h64)
                    have CL := Lib.hid (show ∀ V, Aft X V → _ from fun V a => rhas (HR.out.aft (HCW9.out.trans a)) q hq left (keyOf S[q].t p.key) L9 A1 cap1 M capM A9 cap9 (rows_aft (HCW9.out.trans a) H1.out) (strs_aft (HC9.out.trans a) HMY.out) (vals_aft a HX9.out) okk F1.out h64)
                    obtain ⟨bg, hbg⟩ : ∃ bg, hasR12 S[q].t.cols gone (keyOf S[q].t p.key) L9 = bg := ⟨_, rfl⟩
                    obtain ⟨bl, hbl⟩ : ∃ bl, hasR12 S[q].t.cols left (keyOf S[q].t p.key) L9 = bl := ⟨_, rfl⟩
                    obtain ⟨wv, hwv⟩ : ∃ wv, wholeV L9 = wv := ⟨_, rfl⟩
                    rw [hbg] at HX3 HY3 CG
                    rw [hbl] at HX3 HY3 CL
                    rw [hwv] at HX3 HY3
                    rw [hwv]
                    clear hbg hbl hwv hL9 hns okk
                    cases wv
                    · have HN := Lib.hid (HX3.out rfl)
                      go_wp2_with fail
                      go_roundw
                      case rel => exact ⟨m + 1, by omega, by go_num, HC9.out, HN.out⟩
                      case measure => simp [intOf]; omega
                    · go_wp2_with fail
                      refine (CG.out X (Aft.refl X)).mono ?_
                      rintro e X2 ⟨rfl, a2⟩
                      have HC2 := Lib.hid (HC9.out.trans a2)
                      have HX2b := Lib.hid a2
                      have HCW2 := Lib.hid (HCW9.out.trans a2)
                      clear a2 CG
                      cases bg
                      · have HN := Lib.hid (HX3.out rfl)
                        go_wp2_with fail
                        go_roundw
                        case rel => exact ⟨m + 1, by omega, by go_num, HC2.out, HN.out⟩
                        case measure => simp [intOf]; omega
                      · go_wp2_with fail
                        refine (CL.out X2 HX2b.out).mono ?_
                        rintro e X3 ⟨rfl, a3⟩
                        have HC3 := Lib.hid (HC2.out.trans a3)
                        have HCW3 := Lib.hid (HCW2.out.trans a3)
                        clear a3 CL
                        cases bl
                        · have HN := Lib.hid (HY.out (HY2.out (show needR S q left gone y y.rows p = true by
                            unfold needR
                            rw [HKD.out, decide_eq_true (by rw [HSV.out, hsq] : shfAt S p.schema p.table = q), HY3.out rfl]
                            rfl)))
                          go_wp2_with fail
                          go_ret
                          exact ⟨Eq.trans rfl (congrArg (fun b => Ending.returned (Value.bool b)) HN.out).symm, HCW3.out⟩
                        · have HN := Lib.hid (HX3.out rfl)
                          go_wp2_with fail
                          go_roundw
                          case rel => exact ⟨m + 1, by omega, by go_num, HC3.out, HN.out⟩
                          case measure => simp [intOf]; omega
                  · have HN := Lib.hid (HX2.out (show needR S q left gone y y.rows p = false by
                    unfold needR
                    rw [show y.rows.any (needS (shfN S q) y q left gone p) = false from by
                      cases e : y.rows.any (needS (shfN S q) y q left gone p)
                      · rfl
                      · obtain ⟨z, hz, h⟩ := List.any_eq_true.1 e
                        obtain ⟨j, hj, rfl⟩ := List.getElem_of_mem hz
                        rw [HP3.out j (by omega) hj] at h
                        cases h]
                    simp))
                    go_wp2_with fail
                    go_roundw
                    case rel => exact ⟨n + 1, by omega, by go_num, HCB.out, HN.out⟩
                    case measure => simp [intOf]; omega
              · have hds : ((sv : Int) == (q : Int)) = false := by simp; omega
                have hdt : ((sv : Int) != (q : Int)) = true := by simp; omega
                refine wp_region_lat (by kernel_rfl) (by kernel_rfl) ?_
                repeat (go_big_quiet_step ((go_at_call 27; exact Calls.lat_of (CC.out _))))
                refine wpQuiet_nil ?_
                intro Z hw'
                have aZ : Aft Wp Z := by obtain ⟨x9, hw''⟩ := hw'; rw [hw'']; exact (Aft.refl Wp).lat x9
                clear hw'
                have HZB := Lib.hid (HBP.out.trans aZ)
                clear q1 q5 q6 qz t0 t1 tz CC aZ
                have HN := Lib.hid (HX2.out (show needR S q left gone y y.rows p = false by unfold needR; rw [decide_eq_false (by rw [HSV.out]; omega : ¬ shfAt S p.schema p.table = q)]; simp))
                go_wp2_with fail
                go_roundw
                case rel => exact ⟨n + 1, by omega, by go_num, HZB.out, HN.out⟩
                case measure => simp [intOf]; omega
            · have h4b : (kd == 4) = false := by simpa using h4
              have h4c : (kd != 4) = true := by simpa using h4
              refine wp_region_lat (by kernel_rfl) (by kernel_rfl) ?_
              repeat (go_big_quiet_step (fail))
              refine wpQuiet_nil ?_
              intro Z hw'
              have aZ : Aft Wp Z := by obtain ⟨x9, hw''⟩ := hw'; rw [hw'']; exact (Aft.refl Wp).lat x9
              clear hw'
              have HZB := Lib.hid (HBP.out.trans aZ)
              clear q1 q5 q6 qz t0 t1 tz aZ
              have HN := Lib.hid (HX2.out (show needR S q left gone y y.rows p = false by unfold needR; rw [HKD.out, h4b]; rfl))
              go_wp2_with fail
              go_roundw
              case rel => exact ⟨n + 1, by omega, by go_num, HZB.out, HN.out⟩
              case measure => simp [intOf]; omega
          · have HN := Lib.hid (HX.out (by
              cases e : y.t.rules.any (needR S q left gone y y.rows)
              · rfl
              · obtain ⟨z, hz, h⟩ := List.any_eq_true.1 e
                obtain ⟨j, hj, rfl⟩ := List.getElem_of_mem hz
                rw [HP2.out j (by omega) hj] at h
                cases h))
            go_wp2_with fail
            go_roundw
            case rel => exact ⟨k + 1, by omega, by go_num, HA1.out, HN.out⟩
            case measure => simp [intOf]; omega
    · have HZ := Lib.hid (show heldS S q left gone = false by
        cases e : heldS S q left gone
        · rfl
        · obtain ⟨j, hj, h⟩ := List.any_eq_true.1 e
          rw [HP.out j (by have := List.mem_range.1 hj; omega)] at h
          cases h)
      go_wp2_with fail
      go_ret
      exact ⟨Eq.trans rfl (congrArg (fun b => Ending.returned (Value.bool b)) HZ.out).symm, HA.out⟩
end
end Go.Proofs.YtiadkchlkdaceaaGreat

