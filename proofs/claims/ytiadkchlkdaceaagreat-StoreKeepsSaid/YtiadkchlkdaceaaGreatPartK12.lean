/- Contracts of the program, part 12. -/
import Derived.Deep.Onto
import Derived.LaidEqlPtr
import Derived.OwnWalk
import Derived.Laws.AppendOwn
import Derived.ProofKit
import Derived.OpenShut
import Derived.Deep.Slices
import Derived.ChangeOld
import Derived.SizedLaws
import Derived.WalkKit
import Derived.WalkSpells
import Derived.WalkLawsBesides
import Derived.Lib.Hide
import Derived.Deep.QuietTactic
import Derived.BigQuiet
import Derived.Below
import Derived.Deep.Draws
import Derived.StillTailTactics
import Derived.Laws.Cells
import Derived.Laws.IdiomCopy
import Derived.Test.YtiadkchlkdaceaaGreatRows
import Derived.Lib.Bytealg
import Derived.IntWalk
import Derived.ShutString
import Derived.Shelf.SlSortCmp.WholeK
import Derived.Lib.SliceRun
import Derived.Deep.AppendLies
import Derived.Deep.Upon
import Derived.OneCell
import Derived.Deep.DeepMust
import Derived.Deep.RegionLaw
import Derived.Deep.RegionHeld3
import Derived.Shelf.RegionOpen
import Derived.Sort.BigQuietIn
import Derived.RangeFuncNested
import Derived.RangeFuncBound
import Derived.RangeFuncCalls
import Derived.RangeFuncLeaves
import Derived.Shelf.Abstract
import Derived.OwnWalkIn
import Derived.TacticsInMore
import Derived.LoopNIn
import Derived.LoopIn
import Derived.Sort.QuietTacIn
import Derived.NoCompiler
import Derived.OrdersHeld
import Derived.Lib.Walk
import Derived.Test.YtiadkchlkdaceaaGreatPartK1
import Derived.Test.YtiadkchlkdaceaaGreatPartK2
import Derived.Test.YtiadkchlkdaceaaGreatPartK3
import Derived.Test.YtiadkchlkdaceaaGreatPartK4
import Derived.Test.YtiadkchlkdaceaaGreatPartK5
import Derived.Test.YtiadkchlkdaceaaGreatPartK6
import Derived.Test.YtiadkchlkdaceaaGreatPartK7
import Derived.Test.YtiadkchlkdaceaaGreatPartK8
import Derived.Test.YtiadkchlkdaceaaGreatPartK9
import Derived.Test.YtiadkchlkdaceaaGreatPartK10
import Derived.Test.YtiadkchlkdaceaaGreatPartK11
namespace Go.Proofs.YtiadkchlkdaceaaGreat
open Go.RowKit
set_option maxRecDepth 100000
set_option linter.unusedVariables false
/-- an operation, as it is handed over -/
def ROp.agg (x : ROp) (A : Option Addr) (cap : Nat) : Value := .agg #[.int .i64 x.kind, .string x.role, .string x.schema, .string x.table, .slice A x.row.length cap, .string x.col, .int .i64 x.v.kind, .int .i64 x.v.int, .string x.v.text]
set_option maxHeartbeats 4000000 in
theorem may12 (x : ROp) (A : Option Addr) (cap : Nat) (w : World) (hc : Small x.col.size) (hv : Small x.v.text.size) :
    Calls Tryz.prog 30 #[.agg #[.int .i64 x.kind, .string x.role, .string x.schema, .string x.table, .slice A x.row.length cap, .string x.col, .int .i64 x.v.kind, .int .i64 x.v.int, .string x.v.text]] w fun e w' => e = .returned (.bool (mayO x)) ∧ Aft w w' := by
  obtain ⟨kd, role, schema, table, row, col, v⟩ := x
  simp only at hc hv ⊢
  obtain ⟨nm, hnm⟩ : ∃ b, nameB col = b := ⟨_, rfl⟩
  obtain ⟨mv, hmv⟩ : ∃ b, mayV v = b := ⟨_, rfl⟩
  obtain ⟨em, hem⟩ : ∃ b, emp col = b := ⟨_, rfl⟩
  obtain ⟨ev, hev⟩ : ∃ b, eqV v nilV = b := ⟨_, rfl⟩
  obtain ⟨lz, hlz⟩ : ∃ b, decide (row.length = 0) = b := ⟨_, rfl⟩
  have hz1 : ((row.length : Int) == 0) = lz := by rw [← hlz]; by_cases h : row.length = 0 <;> simp [h]
  have HN := Lib.hid (show mayO ⟨kd, role, schema, table, row, col, v⟩ = if kd == 1 then em && ev else if kd == 2 then nm && (mv && lz) else if kd == 3 then (nm && (mv && lz)) || (em && (ev && lz)) else false by
    unfold mayO; simp only [hnm, hmv, hem, hev, hlz])
  have CN := Lib.hid (show ∀ W, Calls Tryz.prog 56 #[.string col] W fun e w' => e = .returned (.bool nm) ∧ W = w' from fun W => hnm ▸ name_any col W hc.max)
  have CM := Lib.hid (show ∀ W, Calls Tryz.prog 66 #[.agg #[.int .i64 v.kind, .int .i64 v.int, .string v.text]] W fun e w' => e = .returned (.bool mv) ∧ Aft W w' from fun W => hmv ▸ may_any v W hv)
  have e2 : eqV3 v.kind v.int v.text 0 0 ⟨#[]⟩ = ev := hev
  have HEM := Lib.hid hem
  have lw := Nat.lt_succ_self w.heap.size
  clear hnm hmv hem hev hlz
  obtain ⟨W, hW⟩ : ∃ W, W = w.alloc (.cells #[.int .i64 kd, .string role, .string schema, .string table, .slice A row.length cap, .string col, .int .i64 v.kind, .int .i64 v.int, .string v.text] 39) := ⟨_, rfl⟩
  have aW : Aft w W := by rw [hW]; exact (Aft.refl w).alloc _
  have rW : RowAt W w.heap.size [.int .i64 kd, .string role, .string schema, .string table, .slice A row.length cap, .string col, .int .i64 v.kind, .int .i64 v.int, .string v.text] := by rw [hW]; exact box_row2 (Aft.refl _)
  have KF := Lib.hid (show ∀ V, Aft W V → (V.cell? ⟨w.heap.size, 0, none⟩ = some (.int .i64 kd) ∧ V.cell? ⟨w.heap.size, 4, none⟩ = some (.slice A row.length cap) ∧ V.cell? ⟨w.heap.size, 5, none⟩ = some (.string col) ∧ V.cell? ⟨w.heap.size, 6, none⟩ = some (.int .i64 v.kind) ∧ V.cell? ⟨w.heap.size, 7, none⟩ = some (.int .i64 v.int) ∧ V.cell? ⟨w.heap.size, 8, none⟩ = some (.string v.text) ∧ w.heap.size < V.heap.size) from fun V a => by
    have r := rW.aft a
    exact ⟨r.cell (j := 0) rfl, r.cell (j := 4) rfl, r.cell (j := 5) rfl, r.cell (j := 6) rfl, r.cell (j := 7) rfl, r.cell (j := 8) rfl, r.1⟩)
  have HAW := Lib.hid aW
  clear rW aW
  cases em
  · have em1 : col.toList.isEmpty = false := HEM.out
    have em2 : ¬ col.toList = [] := by intro h; rw [h] at em1; cases em1
    go_enter Tryz.func30, Tryz.ntmps30
    go_wp2_with fail
    rw [← hW]
    clear hW
    refine (CN.out _).mono ?_
    rintro e w1 ⟨rfl, rfl⟩
    cases nm
    · obtain ⟨c0, c4, c5, c6, c7, c8, cz⟩ := KF.out W (Aft.refl W)
      go_wp2_with fail
      all_goals
        go_ret
        refine ⟨Eq.trans (b := .returned (.bool _)) rfl (ret_of (bool_of ?_)), HAW.out⟩
        rw [HN.out]
        simp_all
    · obtain ⟨c0, c4, c5, c6, c7, c8, cz⟩ := KF.out W (Aft.refl W)
      go_wp2_with fail
      refine (CM.out _).mono ?_
      rintro e w2 ⟨rfl, a2⟩
      have HA2 := Lib.hid (HAW.out.trans a2)
      clear c0 c4 c5 c6 c7 c8 cz
      obtain ⟨c0, c4, c5, c6, c7, c8, cz⟩ := KF.out w2 a2
      clear a2
      cases mv
      · skip
        go_wp2_with fail
        all_goals
          go_ret
          refine ⟨Eq.trans (b := .returned (.bool _)) rfl (ret_of (bool_of ?_)), HA2.out⟩
          rw [HN.out]
          simp_all
      · skip
        go_wp2_with fail
        all_goals
          go_ret
          refine ⟨Eq.trans (b := .returned (.bool _)) rfl (ret_of (bool_of ?_)), HA2.out⟩
          rw [HN.out]
          simp_all
  · have em1 : col.toList.isEmpty = true := HEM.out
    have em2 : col.toList = [] := by simpa using em1
    go_enter Tryz.func30, Tryz.ntmps30
    go_wp2_with fail
    rw [← hW]
    clear hW
    refine (CN.out _).mono ?_
    rintro e w1 ⟨rfl, rfl⟩
    cases nm
    · obtain ⟨c0, c4, c5, c6, c7, c8, cz⟩ := KF.out W (Aft.refl W)
      go_wp2_with fail
      all_goals
        go_ret
        refine ⟨Eq.trans (b := .returned (.bool _)) rfl (ret_of (bool_of ?_)), HAW.out⟩
        rw [HN.out]
        simp_all
    · obtain ⟨c0, c4, c5, c6, c7, c8, cz⟩ := KF.out W (Aft.refl W)
      go_wp2_with fail
      refine (CM.out _).mono ?_
      rintro e w2 ⟨rfl, a2⟩
      have HA2 := Lib.hid (HAW.out.trans a2)
      clear c0 c4 c5 c6 c7 c8 cz
      obtain ⟨c0, c4, c5, c6, c7, c8, cz⟩ := KF.out w2 a2
      clear a2
      cases mv
      · skip
        go_wp2_with fail
        all_goals
          go_ret
          refine ⟨Eq.trans (b := .returned (.bool _)) rfl (ret_of (bool_of ?_)), HA2.out⟩
          rw [HN.out]
          simp_all
      · skip
        go_wp2_with fail
        all_goals
          go_ret
          refine ⟨Eq.trans (b := .returned (.bool _)) rfl (ret_of (bool_of ?_)), HA2.out⟩
          rw [HN.out]
          simp_all
end Go.Proofs.YtiadkchlkdaceaaGreat

namespace Go.Proofs.YtiadkchlkdaceaaGreat
open Go.RowKit
set_option maxRecDepth 100000
set_option linter.unusedVariables false
/-- a row among rows, with its head -/
def ORowR (w : World) (cs : List Value) (o : ORow) : Prop := cs = [o.h.v] ∧ o.h.n = o.vals.length ∧ SlAt w 3 ValR o.h.a o.h.c o.vals
theorem ORowR.aft {w w' : World} {cs : List Value} {o : ORow} (hw : Aft w w') (h : ORowR w cs o) : ORowR w' cs o := ⟨h.1, h.2.1, vals_aft hw h.2.2⟩
theorem orows_aft {w w' : World} {A : Option Addr} {cap : Nat} {l : List ORow} (hw : Aft w w') (h : SlAt w 1 ORowR A cap l) : SlAt w' 1 ORowR A cap l := h.aft hw fun _ _ h => ORowR.aft hw h
theorem orow_at {w : World} {A : Option Addr} {cap : Nat} {l : List ORow} (h : SlAt w 1 ORowR A cap l) {k : Nat} (hk : k < l.length) :
    ∃ b off, A = some ⟨b, off, none⟩ ∧ b < w.heap.size ∧ w.cell? ⟨b, off + k, none⟩ = some (.slice l[k].h.a l[k].vals.length l[k].h.c) ∧ SlAt w 3 ValR l[k].h.a l[k].h.c l[k].vals := by
  obtain ⟨b, off, cs, hA, hb, hl, ⟨rfl, hn, hr⟩, hc⟩ := h.2.2 k hk
  have h0 : w.cell? ⟨b, off + k, none⟩ = some l[k].h.v := by simpa using hc 0 (by omega)
  unfold Hd.v at h0
  rw [hn] at h0
  exact ⟨b, off, hA, hb, h0, hr⟩
theorem orows_rows {w : World} {A : Option Addr} {cap : Nat} {l : List ORow} (h : SlAt w 1 ORowR A cap l) : SlAt w 1 RowsR A cap (l.map (·.vals)) := by
  refine ⟨by simpa using h.1, by simpa using h.2.1, fun i hi => ?_⟩
  have hi' : i < l.length := by simpa using hi
  obtain ⟨b, off, cs, hA, hb, hl, ⟨rfl, hn, hr⟩, hc⟩ := h.2.2 i hi'
  refine ⟨b, off, [l[i].h.v], hA, hb, rfl, ⟨l[i].h.a, l[i].h.c, ?_, ?_⟩, hc⟩
  · unfold Hd.v; rw [hn]; simp
  · simpa using hr
theorem RowsIn.oat {w : World} {B : Nat} {h : Hd} {l : List ORow} (r : RowsIn w B h l) (hl : l.length ≤ 1000000) (hs : ∀ o ∈ l, Small (o.vals.length * 16) ∧ ∀ v ∈ o.vals, Small v.text.size) : SlAt w 1 ORowR h.a h.c l := by
  have := own_slo ORow.cells id r.own (R := ORowR) (fun o ho => ⟨rfl, rfl, own_n (r.each o ho), RowIn.at (r.each o ho) (hs o ho)⟩) (by unfold Small; omega)
  simpa using this
def inO (l : List Col) (col : ByteArray) (v : Val) (o : ORow) : Bool := inS l col v o.vals
/-- two owned rows that share no block -/
def Apart (v1 v2 : Value) : Prop := ∀ g, v1.ownBlock = some g → v2.ownBlock ≠ some g
def PartsP (w : World) (l1 l2 : List ORow) (e : Ending) (w' : World) : Prop := ∃ v1 v2, e = .returned (.tuple #[v1, v2]) ∧ Aft w w' ∧ w'.ownsRow w.heap.size 34 1 v1 l1.length (l1.flatMap ORow.cells) ∧ w'.ownsRow w.heap.size 34 1 v2 l2.length (l2.flatMap ORow.cells) ∧ Apart v1 v2
theorem filter_succ {α : Type} (f : α → Bool) (l : List α) (k : Nat) (hk : k < l.length) : (l.take (k + 1)).filter f = (l.take k).filter f ++ (if f l[k] then [l[k]] else []) := by
  rw [List.take_succ_eq_append_getElem hk, List.filter_append]
  congr 1
  cases h : f l[k] <;> simp [h]
set_option maxHeartbeats 1000000 in
theorem parts1 (name : ByteArray) (kind : Int) (null : Bool) (s : ByteArray) (b1 : Nat) (w : World) (hb1 : b1 < w.heap.size) (hc1 : w.cell? ⟨b1, 0, none⟩ = some (.string s)) :
    Calls Tryz.prog 108 #[.agg #[.string name, .int .i64 kind, .bool null], .pointer (some ⟨b1, 0, none⟩)] w fun e w' => e = .returned (.bool (eqS name s)) ∧ Aft w w' := by
  go_enter Tryz.func108, Tryz.ntmps108
  go_wp2_with fail
  go_ret
  exact ⟨rfl, (Aft.refl _).alloc _⟩
theorem own_far {w w5 : World} {o : Obj} {b : Nat} {v u : Value} {n : Nat} {xs : List Value} (h : w.ownsRow b 34 1 u n xs) (hd : Apart v u) (hg : (w.alloc o).grownBy w5 v.ownBlock) : w5.ownsRow b 34 1 u n xs :=
  own_kb (own_aft h ((Aft.refl w).alloc o)) (Kb.of_grown hg) fun g hg2 e => hd g e hg2
theorem Apart.symm {v u : Value} (h : Apart v u) : Apart u v := fun g h1 h2 => h g h2 h1
theorem apart_grown {w : World} {b : Nat} {v u : Value} {n m c : Nat} {A' : Option Addr} {xs : List Value} (hd : Apart v u) (h : w.ownsRow b 34 1 u n xs) (hb : ∀ g ∈ (Hd.mk A' m c).blk, v.ownBlock = some g ∨ w.heap.size + 1 ≤ g) : Apart (.slice A' m c) u := fun g h1 h2 => by
  rcases hb g (Hd.mem_blk.2 h1) with h3 | h3
  · exact hd g h3 h2
  · have := (h.lt g h2).2; omega
set_option maxHeartbeats 8000000 in
theorem parts12 (p : Nat) (t : Tab) (OR : List ORow) (v2 v1 v0 : Value) (A : Option Addr) (cap : Nat) (A3 : Option Addr) (cap3 : Nat) (vr : Value) (col : ByteArray) (v : Val) (w : World)
    (hrow : RowAt w p [v0, v1, v2, .slice A t.cols.length cap, vr, .slice A3 OR.length cap3]) (hcol : SlAt w 3 ColR A cap t.cols) (hor : SlAt w 1 ORowR A3 cap3 OR) (hf : ∀ o ∈ OR, besideB formB t.cols o.vals = true) (hn : ∀ o ∈ OR, o.h.n = o.vals.length) (hl : OR.length ≤ 64) :
    Calls Tryz.prog 70 #[.pointer (some ⟨p, 0, none⟩), .string col, .agg #[.int .i64 v.kind, .int .i64 v.int, .string v.text]] w (PartsP w (OR.filter (inO t.cols col v)) (OR.filter fun o => !inO t.cols col v o)) := by
  have hent := enters (P := Tryz.prog) Tryz.func108 (by kernel_rfl) rfl
  obtain ⟨i0, hi, hz0, hz1, hz2⟩ := info_parts info2Row
  have HI := Lib.hid hi
  have HZ0 := Lib.hid hz0
  have HZ1 := Lib.hid hz1
  have HZ2 := Lib.hid hz2
  have HLE := Lib.hid (show ∀ k, ((OR.take k).filter (inO t.cols col v)).length ≤ 64 ∧ ((OR.take k).filter fun o => !inO t.cols col v o).length ≤ 64 from fun k => ⟨Nat.le_trans (List.length_filter_le _ _) (by simp; omega), Nat.le_trans (List.length_filter_le _ _) (by simp; omega)⟩)
  have HROW := Lib.hid hrow
  have HCOL := Lib.hid hcol
  have HOR := Lib.hid hor
  have HFO := Lib.hid hf
  have HNN := Lib.hid hn
  have HEN := Lib.hid hent
  obtain ⟨x, hx⟩ : ∃ x, colAt t.cols col = x := ⟨_, rfl⟩
  have HX := Lib.hid hx
  have p5 := hrow.cell (j := 5) rfl
  have pz := hrow.1
  have lw1 : w.heap.size < w.heap.size + 1 := by omega
  have lw2 : p < w.heap.size + 1 := by omega
  have lw3 : p < w.heap.size + 1 + 1 := by omega
  clear hi hz0 hz1 hz2 hrow hcol hor hf hn hent hx
  go_enter Tryz.func70, Tryz.ntmps70
  go_wp2_with fail
  obtain ⟨W, hW⟩ : ∃ W, W = (w.alloc (.cells #[.string col] 9)).alloc (.cells #[.int .i64 v.kind, .int .i64 v.int, .string v.text] 37) := ⟨_, rfl⟩
  have aW : Aft w W := by rw [hW]; exact ((Aft.refl w).alloc _).alloc _
  have k0 : RowAt W w.heap.size [.string col] := by rw [hW]; exact (box_row2 (c := [.string col]) (Aft.refl _)).aft ((Aft.refl _).alloc _)
  have k1 : RowAt W (w.heap.size + 1) [.int .i64 v.kind, .int .i64 v.int, .string v.text] := by
    rw [hW]
    have := box_row2 (w := w.alloc (.cells #[.string col] 9)) (c := [.int .i64 v.kind, .int .i64 v.int, .string v.text]) (t := 37) (Aft.refl _)
    simpa using this
  have HAW := Lib.hid aW
  have K0 := Lib.hid k0
  have K1 := Lib.hid k1
  rw [← hW]
  clear hW aW k0 k1
  go_loopw [6, 7, 16] (fun v1 v2 i wr => ∃ k : Nat, k ≤ OR.length ∧ i = .int .i64 k ∧ Aft W wr ∧ wr.ownsRow W.heap.size 34 1 v1 ((OR.take k).filter (inO t.cols col v)).length (((OR.take k).filter (inO t.cols col v)).flatMap ORow.cells) ∧ wr.ownsRow W.heap.size 34 1 v2 ((OR.take k).filter fun o => !inO t.cols col v o).length (((OR.take k).filter fun o => !inO t.cols col v o).flatMap ORow.cells) ∧ Apart v1 v2) (fun _ _ i _ => OR.length - (intOf i).toNat)
  case atStart => exact ⟨0, Nat.zero_le _, rfl, Aft.refl _, own_nil _ _ _ _, own_nil _ _ _ _, fun g h => by cases h⟩
  case round =>
    obtain ⟨k, hk, rfl, ha, ho1, ho2, hd⟩ := hrel
    have HA := Lib.hid ha
    have O1 := Lib.hid ho1
    have O2 := Lib.hid ho2
    have HD := Lib.hid hd
    clear ha ho1 ho2 hd p5 pz
    by_cases hlt : k < OR.length
    · obtain ⟨b, off, rfl, hb, c0, hv⟩ := orow_at (orows_aft (HAW.out.trans HA.out) HOR.out) hlt
      have hF := HFO.out _ (List.getElem_mem hlt)
      have HN := Lib.hid (HNN.out _ (List.getElem_mem hlt))
      have HF1 := Lib.hid (filter_succ (inO t.cols col v) OR k hlt)
      have HF2 := Lib.hid (filter_succ (fun o => !inO t.cols col v o) OR k hlt)
      have HV := Lib.hid hv
      have HLL := Lib.hid (show t.cols.length = OR[k].vals.length from ((besideB_iff formB _ _).1 hF).1)
      have rr := HROW.out.aft (HAW.out.trans HA.out)
      have r3 := rr.cell (j := 3) rfl
      have rz := rr.1
      have q0 := (K0.out.aft HA.out).cell (j := 0) rfl
      have C := Lib.hid ((idxCol A cap t.cols 108 #[.pointer (some ⟨w.heap.size, 0, none⟩)] (fun c => eqS c.name col) wr (cols_aft (HAW.out.trans HA.out) HCOL.out) HEN.out (fun w' ha i hi => parts1 _ _ _ col w.heap.size w' (World.block_lt_of_cell? _ _ (ha.cell_kept q0)) (ha.cell_kept q0))).mono (fun e w' ⟨he, hw⟩ => (⟨he.trans (by rw [← HX.out]; rfl), hw⟩ : e = Ending.returned (Value.int .i64 x) ∧ Aft wr w')))
      clear hF hv rr
      go_wp2_with fail
      refine C.out.mono ?_
      rintro e w4 ⟨rfl, a4⟩
      have HA4 := Lib.hid (HA.out.trans a4)
      have O1 := Lib.hid (own_aft O1.out a4)
      have O2 := Lib.hid (own_aft O2.out a4)
      have k10 := (K1.out.aft HA4.out).cell (j := 0) rfl
      have k11 := (K1.out.aft HA4.out).cell (j := 1) rfl
      have k12 := (K1.out.aft HA4.out).cell (j := 2) rfl
      have k1z := (K1.out.aft HA4.out).1
      have HVA := Lib.hid (vals_aft a4 HV.out)
      clear a4 C r3 rz q0 c0 hb
      by_cases hx0 : x < 0
      · have HB := Lib.hid (show inO t.cols col v OR[k] = true by unfold inO inS; rw [HX.out]; simp [hx0])
        rw [HB.out] at HF1 HF2
        have dx : decide (x < 0) = true := decide_eq_true hx0
        go_wp2_with fail
        refine wp_region_lat (by kernel_rfl) (by kernel_rfl) ?_
        repeat (go_big_quiet_step (fail))
        refine wpQuiet_nil ?_
        intro _ hw'
        obtain ⟨z, hw''⟩ := hw'
        subst hw''
        obtain ⟨W9, hW9⟩ : ∃ W9, W9 = lat w4 z := ⟨_, rfl⟩
        have a9 : Aft w4 W9 := by rw [hW9]; exact (Aft.refl w4).lat z
        have O1 := Lib.hid (own_aft O1.out a9)
        have O2 := Lib.hid (own_aft O2.out a9)
        have HAW9 := Lib.hid (HA4.out.trans a9)
        rw [← hW9]
        clear hW9 a9
        go_wp2_with (at_builtin; refine wpList_append_own2 _ rfl (.tmp 37) (.tmp 39) 47 rfl W.heap.size 34 i0 (.slice none 0 0) 1 24 Tryz.underlying47 HI.out HZ0.out HZ1.out HZ2.out rfl (by decide) _ _ _ rfl (own_aft O1.out ((Aft.refl _).alloc _)) (some ⟨W9.heap.size, 0, none⟩) 1 1 [.slice OR[k].h.a OR[k].vals.length OR[k].h.c] rfl rfl ?c0 ?c1 ?c2 ?c3 ?c4 ?c5 ?_)
        case c0 => intro h; cases h
        case c1 =>
          intro ad had j u hj
          injection had with had; subst had
          rw [add_mk, Nat.zero_add]; exact (World.cell?_alloc_at _ _ _ _ rfl).trans (by simpa using hj)
        case c2 => intro u hu; simp only [List.mem_cons, List.not_mem_nil, or_false] at hu; subst hu; simp [Value.oneCell']
        case c3 => have := HLE.out k; unfold maxLen; omega
        case c4 => have := HLE.out k; omega
        case c5 => have := HAW9.out.size; simp; omega
        intro A' cap' w5 hown' hgrow hblk
        have HA5 := Lib.hid (aft_grown (own_aft O1.out ((Aft.refl _).alloc _)) (HAW9.out.alloc _) hgrow)
        have HO5 := Lib.hid hown'
        have HO6 := Lib.hid (show w5.ownsRow W.heap.size 34 1 u7 _ _ from own_far (O2.out) HD.out hgrow)
        have HD6 := Lib.hid (apart_grown HD.out O2.out hblk)
        clear hown' hgrow hblk
        go_wp2_with fail
        go_roundw
        case rel => exact ⟨k + 1, by omega, by go_num, HA5.out, by rw [HF1.out]; simpa [List.flatMap_append, ORow.cells, Hd.v, HN.out] using HO5.out, by rw [HF2.out]; simpa [List.flatMap_append, ORow.cells, Hd.v, HN.out] using HO6.out, HD6.out⟩
        case measure => simp [intOf]; omega
      · obtain ⟨q, rfl⟩ := Int.eq_ofNat_of_zero_le (show 0 ≤ x by omega)
        have hql := colAt_lt HX.out
        have hqr : q < OR[k].vals.length := by have := HLL.out; omega
        obtain ⟨b8, off8, hB8, hb8, v0', v1', v2', _⟩ := val_at HVA.out hqr
        have dx : decide ((q : Int) < 0) = false := decide_eq_false (by omega)
        have hq0 : (0 : Int) ≤ (q : Int) := by omega
        have hq1 : (q : Int) < (OR[k].vals.length : Int) := by omega
        obtain ⟨bb, hbb⟩ : ∃ b, eqV OR[k].vals[q] v = b := ⟨_, rfl⟩
        have HB := Lib.hid (show inO t.cols col v OR[k] = bb by unfold inO inS; rw [HX.out, valAt_get hqr, hbb, dx]; rfl)
        rw [HB.out] at HF1 HF2
        have h3 : eqV3 OR[k].vals[q].kind OR[k].vals[q].int OR[k].vals[q].text v.kind v.int v.text = bb := hbb
        have HB8 := Lib.hid hB8
        rw [hB8]
        clear hx0 hbb hB8
        cases bb
        · go_wp2_with fail
          refine wp_region_lat (by kernel_rfl) (by kernel_rfl) ?_
          repeat (go_big_quiet_step (fail))
          refine wpQuiet_nil ?_
          intro _ hw'
          obtain ⟨z, hw''⟩ := hw'
          subst hw''
          obtain ⟨W9, hW9⟩ : ∃ W9, W9 = lat w4 z := ⟨_, rfl⟩
          have a9 : Aft w4 W9 := by rw [hW9]; exact (Aft.refl w4).lat z
          have O1 := Lib.hid (own_aft O1.out a9)
          have O2 := Lib.hid (own_aft O2.out a9)
          have HAW9 := Lib.hid (HA4.out.trans a9)
          rw [← hW9]
          clear hW9 a9
          go_wp2_with (at_builtin; refine wpList_append_own2 _ rfl (.tmp 41) (.tmp 43) 47 rfl W.heap.size 34 i0 (.slice none 0 0) 1 24 Tryz.underlying47 HI.out HZ0.out HZ1.out HZ2.out rfl (by decide) _ _ _ rfl (own_aft O2.out ((Aft.refl _).alloc _)) (some ⟨W9.heap.size, 0, none⟩) 1 1 [.slice (some ⟨b8, off8, none⟩) OR[k].vals.length OR[k].h.c] rfl rfl ?c0 ?c1 ?c2 ?c3 ?c4 ?c5 ?_)
          case c0 => intro h; cases h
          case c1 =>
            intro ad had j u hj
            injection had with had; subst had
            rw [add_mk, Nat.zero_add]; exact (World.cell?_alloc_at _ _ _ _ rfl).trans (by simpa using hj)
          case c2 => intro u hu; simp only [List.mem_cons, List.not_mem_nil, or_false] at hu; subst hu; simp [Value.oneCell']
          case c3 => have := HLE.out k; unfold maxLen; omega
          case c4 => have := HLE.out k; omega
          case c5 => have := HAW9.out.size; simp; omega
          intro A' cap' w5 hown' hgrow hblk
          have HA5 := Lib.hid (aft_grown (own_aft O2.out ((Aft.refl _).alloc _)) (HAW9.out.alloc _) hgrow)
          have HO5 := Lib.hid hown'
          have HO6 := Lib.hid (show w5.ownsRow W.heap.size 34 1 u6 _ _ from own_far (O1.out) HD.out.symm hgrow)
          have HD6 := Lib.hid (apart_grown HD.out.symm O1.out hblk)
          clear hown' hgrow hblk
          go_wp2_with fail
          go_roundw
          case rel => exact ⟨k + 1, by omega, by go_num, HA5.out, by rw [HF1.out]; simpa [List.flatMap_append, ORow.cells, Hd.v, HN.out, HB8.out] using HO6.out, by rw [HF2.out]; simpa [List.flatMap_append, ORow.cells, Hd.v, HN.out, HB8.out] using HO5.out, HD6.out.symm⟩
          case measure => simp [intOf]; omega
        · go_wp2_with fail
          refine wp_region_lat (by kernel_rfl) (by kernel_rfl) ?_
          repeat (go_big_quiet_step (fail))
          refine wpQuiet_nil ?_
          intro _ hw'
          obtain ⟨z, hw''⟩ := hw'
          subst hw''
          obtain ⟨W9, hW9⟩ : ∃ W9, W9 = lat w4 z := ⟨_, rfl⟩
          have a9 : Aft w4 W9 := by rw [hW9]; exact (Aft.refl w4).lat z
          have O1 := Lib.hid (own_aft O1.out a9)
          have O2 := Lib.hid (own_aft O2.out a9)
          have HAW9 := Lib.hid (HA4.out.trans a9)
          rw [← hW9]
          clear hW9 a9
          go_wp2_with (at_builtin; refine wpList_append_own2 _ rfl (.tmp 37) (.tmp 39) 47 rfl W.heap.size 34 i0 (.slice none 0 0) 1 24 Tryz.underlying47 HI.out HZ0.out HZ1.out HZ2.out rfl (by decide) _ _ _ rfl (own_aft O1.out ((Aft.refl _).alloc _)) (some ⟨W9.heap.size, 0, none⟩) 1 1 [.slice (some ⟨b8, off8, none⟩) OR[k].vals.length OR[k].h.c] rfl rfl ?c0 ?c1 ?c2 ?c3 ?c4 ?c5 ?_)
          case c0 => intro h; cases h
          case c1 =>
            intro ad had j u hj
            injection had with had; subst had
            rw [add_mk, Nat.zero_add]; exact (World.cell?_alloc_at _ _ _ _ rfl).trans (by simpa using hj)
          case c2 => intro u hu; simp only [List.mem_cons, List.not_mem_nil, or_false] at hu; subst hu; simp [Value.oneCell']
          case c3 => have := HLE.out k; unfold maxLen; omega
          case c4 => have := HLE.out k; omega
          case c5 => have := HAW9.out.size; simp; omega
          intro A' cap' w5 hown' hgrow hblk
          have HA5 := Lib.hid (aft_grown (own_aft O1.out ((Aft.refl _).alloc _)) (HAW9.out.alloc _) hgrow)
          have HO5 := Lib.hid hown'
          have HO6 := Lib.hid (show w5.ownsRow W.heap.size 34 1 u7 _ _ from own_far (O2.out) HD.out hgrow)
          have HD6 := Lib.hid (apart_grown HD.out O2.out hblk)
          clear hown' hgrow hblk
          go_wp2_with fail
          go_roundw
          case rel => exact ⟨k + 1, by omega, by go_num, HA5.out, by rw [HF1.out]; simpa [List.flatMap_append, ORow.cells, Hd.v, HN.out, HB8.out] using HO5.out, by rw [HF2.out]; simpa [List.flatMap_append, ORow.cells, Hd.v, HN.out, HB8.out] using HO6.out, HD6.out⟩
          case measure => simp [intOf]; omega
    · have e1 : OR.take k = OR := List.take_of_length_le (by omega)
      have o1 := O1.out
      have o2 := O2.out
      rw [e1] at o1 o2
      have HO1 := Lib.hid o1
      have HO2 := Lib.hid o2
      clear o1 o2 e1
      go_wp2_with fail
      go_ret2
      exact ⟨_, _, rfl, HAW.out.trans HA.out, own_down HO1.out HAW.out.size, own_down HO2.out HAW.out.size, HD.out⟩
end Go.Proofs.YtiadkchlkdaceaaGreat

namespace Go.Proofs.YtiadkchlkdaceaaGreat
open Go.RowKit
set_option maxRecDepth 100000
set_option linter.unusedVariables false
def RowsP (w : World) (l : List (List Val)) (e : Ending) (w' : World) : Prop :=
  ∃ h R, R.map ORow.vals = l ∧ e = .returned (.slice h.a l.length h.c) ∧ Aft w w' ∧ RowsIn w' w.heap.size h R ∧ (h.blk ++ R.flatMap (·.h.blk)).Nodup
theorem rows_push {wr w4 w5 : World} {B n : Nat} {h : Hd} {R : List ORow} {o : ORow} {A' : Option Addr} {cap' : Nat} {ob : Obj} (r : RowsIn wr B h R) (nd : (h.blk ++ R.flatMap (·.h.blk)).Nodup) (a4 : Aft wr w4) (ho : w4.ownsRow wr.heap.size 37 3 o.h.v o.vals.length (o.vals.flatMap cellsV)) (hB : B ≤ wr.heap.size)
    (hg : (w4.alloc ob).grownBy w5 h.v.ownBlock) (hn : n = R.length + 1) (hown : w5.ownsRow B 34 1 (.slice A' n cap') n (R.flatMap ORow.cells ++ [o.h.v])) (hblk : ∀ g ∈ (Hd.mk A' n cap').blk, h.v.ownBlock = some g ∨ w4.heap.size + 1 ≤ g) :
    RowsIn w5 B ⟨A', n, cap'⟩ (R ++ [o]) ∧ ((Hd.mk A' n cap').blk ++ (R ++ [o]).flatMap (·.h.blk)).Nodup := by
  have k := Kb.of_grown hg
  have hlt := r.lt
  have hnd := List.nodup_append.1 nd
  have hz := a4.size
  have hol := blk_lt ho
  refine ⟨⟨?_, fun x hx => ?_⟩, ?_⟩
  · have e : (R ++ [o]).length = n := by simp [hn]
    rw [e]
    simpa [List.flatMap_append, ORow.cells, Hd.v] using hown
  · rcases List.mem_append.1 hx with hx | hx
    · refine own_kb (own_aft (r.each x hx) (a4.alloc ob)) k fun g hg2 e => ?_
      exact hnd.2.2 g (Hd.mem_blk.2 e) g (List.mem_flatMap.2 ⟨x, hx, Hd.mem_blk.2 hg2⟩) rfl
    · rw [List.mem_singleton] at hx
      subst hx
      refine own_down (own_kb (own_aft ho ((Aft.refl w4).alloc ob)) k fun g hg2 e => ?_) hB
      have h1 := (hlt g (List.mem_append.2 (.inl (Hd.mem_blk.2 e)))).2
      have h2 := (hol g (Hd.mem_blk.2 hg2)).1
      omega
  · rw [List.flatMap_append, List.flatMap_cons, List.flatMap_nil, List.append_nil]
    have n2 : (R.flatMap (·.h.blk) ++ o.h.blk).Nodup := nodup_more (N := wr.heap.size) hnd.2.1 (blk_nodup _) (fun g hg => (hlt g (List.mem_append.2 (.inr hg))).2) (fun g hg => (hol g hg).1)
    refine List.nodup_append.2 ⟨blk_nodup _, n2, fun a ha b hb e => ?_⟩
    subst e
    rcases hblk a ha with h1 | h1
    · have h2 := hlt a (List.mem_append.2 (.inl (Hd.mem_blk.2 h1)))
      rcases List.mem_append.1 hb with hb | hb
      · exact hnd.2.2 a (Hd.mem_blk.2 h1) a hb rfl
      · have := (hol a hb).1; omega
    · rcases List.mem_append.1 hb with hb | hb
      · have := (hlt a (List.mem_append.2 (.inr hb))).2; omega
      · have := (hol a hb).2; omega
/-- a copied row -/
theorem cloneRow (A : Option Addr) (cap : Nat) (l : List Val) (w0 w : World) (ha : Aft w0 w) (h : SlAt w0 3 ValR A cap l) (hb : l.length ≤ 1000000) :
    Calls Tryz.prog 69 #[.slice A l.length cap] w fun e w' => ∃ h : Hd, e = .returned (.slice h.a l.length h.c) ∧ Aft w w' ∧ w'.ownsRow w.heap.size 37 3 h.v l.length (l.flatMap cellsV) :=
  (clone2Val A cap l w0 w ha h hb).mono fun e w' ⟨v, css, he, a, ho, hc⟩ => by
    rw [chunks_flat (f := cellsV) (fun cs x hx => hx.1) hc] at ho
    obtain ⟨hd, rfl, hn⟩ := own_head ho
    exact ⟨hd, he.trans (by rw [own_slice ho]), a, ho⟩
theorem rowsIn_nil (w : World) (B : Nat) : RowsIn w B ⟨none, 0, 0⟩ [] := ⟨own_nil _ _ _ _, fun o h => by cases h⟩
set_option maxHeartbeats 4000000 in
theorem copied12 (l : List (List Val)) (A : Option Addr) (cap : Nat) (w : World) (h : SlAt w 1 RowsR A cap l) (hl : l.length ≤ 64) (hr : ∀ r ∈ l, r.length ≤ 1000000) :
    Calls Tryz.prog 41 #[.slice A l.length cap] w (RowsP w l) := by
  obtain ⟨i0, hi, hz0, hz1, hz2⟩ := info_parts info2Row
  have HI := Lib.hid hi
  have HZ0 := Lib.hid hz0
  have HZ1 := Lib.hid hz1
  have HZ2 := Lib.hid hz2
  have HH := Lib.hid h
  have HR := Lib.hid hr
  clear hi hz0 hz1 hz2 h hr
  go_enter Tryz.func41, Tryz.ntmps41
  go_wp2_with fail
  go_loopw [3, 8] (fun v i wr => ∃ (k : Nat) (h : Hd) (R : List ORow), k ≤ l.length ∧ i = .int .i64 k ∧ v = .slice h.a k h.c ∧ R.map ORow.vals = l.take k ∧ Aft w wr ∧ RowsIn wr w.heap.size h R ∧ (h.blk ++ R.flatMap (·.h.blk)).Nodup) (fun _ i _ => l.length - (intOf i).toNat)
  case atStart => exact ⟨0, ⟨none, 0, 0⟩, [], Nat.zero_le _, rfl, rfl, rfl, Aft.refl _, rowsIn_nil _ _, by simp [blk_nil]⟩
  case round =>
    obtain ⟨k, h, R, hk, rfl, rfl, hR, ha, hin, nd⟩ := hrel
    have HA := Lib.hid ha
    have HIN := Lib.hid hin
    have HND := Lib.hid nd
    have HRR := Lib.hid hR
    have HL := Lib.hid (show R.length = k by have := congrArg List.length hR; simpa [Nat.min_eq_left hk] using this)
    clear ha hin nd hR
    by_cases hlt : k < l.length
    · obtain ⟨b, off, A2, cap2, rfl, hb, c0, hv⟩ := row_at (rows_aft HA.out HH.out) hlt
      have C := Lib.hid (cloneRow A2 cap2 l[k] wr wr (Aft.refl _) hv (HR.out _ (List.getElem_mem hlt)))
      clear hv
      go_wp2_with fail
      refine C.out.mono ?_
      rintro e w4 ⟨h4, rfl, a4, ho4⟩
      have HA4 := Lib.hid a4
      have HO4 := Lib.hid ho4
      clear a4 ho4 c0 hb C
      go_wp2_with (at_builtin; refine wpList_append_own2 _ rfl (.tmp 12) (.tmp 15) 47 rfl w.heap.size 34 i0 (.slice none 0 0) 1 24 Tryz.underlying47 HI.out HZ0.out HZ1.out HZ2.out rfl (by decide) (.slice h.a k h.c) k (R.flatMap ORow.cells) rfl ?c6 (some ⟨w4.heap.size, 0, none⟩) 1 1 [.slice h4.a l[k].length h4.c] rfl rfl ?c0 ?c1 ?c2 ?c3 ?c4 ?c5 ?_)
      case c6 =>
        have := own_aft HIN.out.own (HA4.out.alloc (.cells #[.slice h4.a l[k].length h4.c] 34))
        rw [own_slice HIN.out.own, HL.out] at this
        exact this
      case c0 => intro h; cases h
      case c1 =>
        intro ad had j u hj
        injection had with had; subst had
        rw [add_mk, Nat.zero_add]; exact (World.cell?_alloc_at _ _ _ _ rfl).trans (by simpa using hj)
      case c2 => intro u hu; simp only [List.mem_cons, List.not_mem_nil, or_false] at hu; subst hu; simp [Value.oneCell']
      case c3 => unfold maxLen; omega
      case c4 => omega
      case c5 => have := HA.out.size; have := HA4.out.size; simp; omega
      intro A' cap' w5 hown' hgrow hblk
      have e0 : h.v = .slice h.a k h.c := by rw [own_slice HIN.out.own, HL.out]
      have hp := rows_push (o := ⟨l[k], h4⟩) (n := k + 1) HIN.out HND.out HA4.out HO4.out HA.out.size (by rw [e0]; exact hgrow) (by rw [HL.out]) (by simpa [own_slice HO4.out] using hown') (by rw [e0]; intro g hg; simpa using hblk g hg)
      have HP := Lib.hid hp
      have HA5 := Lib.hid (show Aft w w5 from aft_grown (by rw [← e0]; exact own_aft HIN.out.own (HA4.out.alloc _)) ((HA.out.trans HA4.out).alloc _) hgrow)
      have HT := Lib.hid (show (R ++ [(⟨l[k], h4⟩ : ORow)]).map ORow.vals = l.take (k + 1) by rw [List.map_append, HRR.out, List.take_succ_eq_append_getElem hlt]; rfl)
      clear hown' hgrow hblk hp e0
      go_wp2_with fail
      go_roundw
      case rel => exact ⟨k + 1, ⟨A', k + 1, cap'⟩, _, by omega, by go_num, rfl, HT.out, HA5.out, HP.out.1, HP.out.2⟩
      case measure => simp [intOf]; omega
    · have e1 : l.take k = l := List.take_of_length_le (by omega)
      have e2 : k = l.length := by omega
      have HRE := Lib.hid (show R.map ORow.vals = l by rw [HRR.out, e1])
      have HK := Lib.hid e2
      clear e1 e2
      go_wp2_with fail
      go_ret
      exact ⟨h, R, HRE.out, by rw [← HK.out]; rfl, HA.out, HIN.out, HND.out⟩
end Go.Proofs.YtiadkchlkdaceaaGreat

namespace Go.Proofs.YtiadkchlkdaceaaGreat
open Go.RowKit Go.Deep
set_option maxRecDepth 100000
set_option linter.unusedVariables false
def stoBlks (s : Nat) (hl : Hd) (L : List OShf) : List Nat := s :: (hl.blk ++ L.flatMap OShf.blks)
def rowBlks (h : Hd) (R : List ORow) : List Nat := h.blk ++ R.flatMap (·.h.blk)
/-- what an operation leaves -/
def DoQ (w : World) (B s : Nat) (hl : Hd) (L : List OShf) (r : List Shf × List (List Val) × Int) (e : Ending) (w' : World) : Prop :=
  ∃ L' h R, storeS L' = r.1 ∧ R.map ORow.vals = r.2.1 ∧ e = .returned (.tuple #[.slice h.a r.2.1.length h.c, .int .i64 r.2.2]) ∧ Kb (fun g => g ∈ stoBlks s hl L) w w' ∧ StoIn w' B s hl L' ∧ L'.map OShf.x = L.map OShf.x ∧
    RowsIn w' B h R ∧ (rowBlks h R).Nodup ∧ (∀ g ∈ rowBlks h R, g ∉ stoBlks s hl L') ∧ ∀ g ∈ stoBlks s hl L', g ∈ stoBlks s hl L ∨ w.heap.size ≤ g
def insS (S : List Shf) (q : Nat) (row : List Val) : List Shf × List (List Val) × Int := if wrongS S q row ≠ 0 then (S, [], wrongS S q row) else (putS S q ((shfN S q).rows ++ [row]), [row], 0)
section
variable {w w' : World} {B s : Nat} {hl : Hd} {L : List OShf}
theorem doQ_no (hin : StoIn w B s hl L) (a : Aft w w') (c : Int) : DoQ w B s hl L (storeS L, [], c) (.returned (.tuple #[.slice none 0 0, .int .i64 c])) w' :=
  ⟨L, ⟨none, 0, 0⟩, [], rfl, rfl, rfl, Kb.of_aft a, hin.aft a, rfl, rowsIn_nil _ _, by simp [rowBlks, blk_nil], by simp [rowBlks, blk_nil], fun g hg => .inl hg⟩
theorem storeS_set {q : Nat} {R' : List ORow} {h' : Hd} (hq : q < L.length) : storeS (L.set q ⟨L[q].p, L[q].x, R', h'⟩) = putS (storeS L) q (R'.map (·.vals)) := by
  unfold storeS putS
  rw [List.map_set, shfN_get (by simpa using hq), List.getElem_map]
  rfl
theorem turn_x {q : Nat} {R' : List ORow} {h' : Hd} (hq : q < L.length) : (L.set q ⟨L[q].p, L[q].x, R', h'⟩).map OShf.x = L.map OShf.x := by
  rw [List.map_set]
  have : (L.map OShf.x)[q]'(by simpa using hq) = L[q].x := by simp
  rw [← this, List.set_getElem_self]
theorem turn_sub2 {q : Nat} {R' : List ORow} {h' : Hd} (hq : q < L.length) : ∀ g ∈ stoBlks s hl (L.set q ⟨L[q].p, L[q].x, R', h'⟩), g ∈ stoBlks s hl L ∨ g ∈ rowBlks h' R' := fun g hg => by
  unfold stoBlks at hg ⊢
  simp only [List.mem_cons, List.mem_append, List.mem_flatMap] at hg ⊢
  rcases hg with h | h | ⟨y, hy, h⟩
  · exact .inl (.inl h)
  · exact .inl (.inr (.inl h))
  · rcases List.mem_or_eq_of_mem_set hy with hy | rfl
    · exact .inl (.inr (.inr ⟨y, hy, h⟩))
    · unfold OShf.blks OShf.rblk at h
      simp only [List.mem_cons, List.mem_append] at h
      rcases h with h | h | h
      · exact .inl (.inr (.inr ⟨L[q], List.getElem_mem hq, by unfold OShf.blks; simp [h]⟩))
      · exact .inl (.inr (.inr ⟨L[q], List.getElem_mem hq, by unfold OShf.blks; simp [h]⟩))
      · exact .inr (by unfold rowBlks; exact List.mem_append.2 h)
theorem turn_sub {N q : Nat} {R' : List ORow} {h' : Hd} (hq : q < L.length) (hb : ∀ g ∈ rowBlks h' R', g ∈ stoBlks s hl L ∨ N ≤ g) : ∀ g ∈ stoBlks s hl (L.set q ⟨L[q].p, L[q].x, R', h'⟩), g ∈ stoBlks s hl L ∨ N ≤ g := fun g hg => by
  rcases turn_sub2 hq g hg with h | h
  · exact .inl h
  · exact hb g h
theorem mem_sto {q : Nat} (hq : q < L.length) {g : Nat} (h : g ∈ L[q].blks) : g ∈ stoBlks s hl L := by
  unfold stoBlks
  simp only [List.mem_cons, List.mem_append, List.mem_flatMap]
  exact .inr (.inr ⟨L[q], List.getElem_mem hq, h⟩)
theorem nodup_of {α : Type} {f : α → List Nat} : ∀ {l : List α} {x : α}, (l.flatMap f).Nodup → x ∈ l → (f x).Nodup
  | a :: l, x, h, hx => by
    rw [List.flatMap_cons] at h
    rcases List.mem_cons.1 hx with rfl | hx
    · exact (List.nodup_append.1 h).1
    · exact nodup_of (List.nodup_append.1 h).2.1 hx
theorem SlAt.kbR {α : Type} {P : Nat → Prop} {w w' : World} {size : Nat} {R : World → List Value → α → Prop} {A : Option Addr} {cap : Nat} {l : List α} (h : SlAt w size R A cap l) (k : Kb P w w') (hP : ∀ b off, A = some ⟨b, off, none⟩ → 0 < l.length → ¬ P b) (hR : ∀ cs x, R w cs x → R w' cs x) : SlAt w' size R A cap l :=
  ⟨h.1, h.2.1, fun i hi => by
    obtain ⟨b, off, cs, hA, hb, hl, hr, hc⟩ := h.2.2 i hi
    have e := k.block b hb (hP b off hA (by omega))
    refine ⟨b, off, cs, hA, Nat.lt_of_lt_of_le hb k.size, hl, hR _ _ hr, fun j hj => ?_⟩
    rw [← hc j hj]
    unfold World.cell?
    simp only [e]⟩
/-- a box is a row of our own of one -/
theorem own_boxS (w : World) (B : Nat) (v : Value) (hv : v.oneCell' = true) (hB : B ≤ w.heap.size) : (w.alloc (.cells #[v] 34)).ownsRow B 34 1 (.slice (some ⟨w.heap.size, 0, none⟩) 1 1) 1 [v] :=
  ⟨rfl, .inr ⟨w.heap.size, 1, #[v], rfl, hB, heap_alloc_new w _, by omega, by unfold maxLen; omega, by simp, by simp⟩⟩
end
theorem wrong_zero {S : List Shf} {q : Nat} {row : List Val} (h : wrongS S q row = 0) : besideB formB (shfN S q).t.cols row = true ∧ (shfN S q).rows.length < 64 := by
  unfold wrongS at h
  split at h
  · rename_i h1; exact absurd h h1
  · rename_i h1
    split at h
    · omega
    · rename_i h2
      exact ⟨fitE_zero (by omega), by omega⟩
end Go.Proofs.YtiadkchlkdaceaaGreat

namespace Go.Proofs.YtiadkchlkdaceaaGreat
open Go.RowKit Go.Deep
set_option maxRecDepth 100000
set_option linter.unusedVariables false
def goneS (S : List Shf) (q : Nat) (col : ByteArray) (v : Val) : List (List Val) := (shfN S q).rows.filter (inS (shfN S q).t.cols col v)
def leftS (S : List Shf) (q : Nat) (col : ByteArray) (v : Val) : List (List Val) := (shfN S q).rows.filter fun r => !inS (shfN S q).t.cols col v r
def chooseS (S : List Shf) (q : Nat) (col : ByteArray) (v : Val) : List Shf × List (List Val) × Int := (S, goneS S q col v, 0)
def removeS (S : List Shf) (q : Nat) (col : ByteArray) (v : Val) : List Shf × List (List Val) × Int := if heldS S q (leftS S q col v) (goneS S q col v) then (S, [], 113) else (putS S q (leftS S q col v), goneS S q col v, 0)
theorem filter_inO (l : List Col) (col : ByteArray) (v : Val) (R : List ORow) : (R.filter (inO l col v)).map ORow.vals = (R.map ORow.vals).filter (inS l col v) := by
  rw [List.filter_map]; rfl
theorem filter_notO (l : List Col) (col : ByteArray) (v : Val) (R : List ORow) : (R.filter fun o => !inO l col v o).map ORow.vals = (R.map ORow.vals).filter fun r => !inS l col v r := by
  rw [List.filter_map]; rfl
theorem flatMap_sub {α β : Type} {f : α → List β} : ∀ {l m : List α}, l.Sublist m → (l.flatMap f).Sublist (m.flatMap f)
  | _, _, .slnil => List.Sublist.refl _
  | _, _, .cons a h => by rw [List.flatMap_cons]; exact (flatMap_sub h).trans (List.sublist_append_right _ _)
  | _, _, .cons_cons a h => by rw [List.flatMap_cons, List.flatMap_cons]; exact (List.Sublist.refl _).append (flatMap_sub h)
theorem filter_apart {α β : Type} {f : α → List β} (p : α → Bool) : ∀ {l : List α}, (l.flatMap f).Nodup → ∀ g ∈ (l.filter p).flatMap f, g ∉ (l.filter fun x => !p x).flatMap f
  | [], _, g, h => by cases h
  | a :: l, nd, g, h => by
    rw [List.flatMap_cons] at nd
    have n1 := List.nodup_append.1 nd
    have ih := filter_apart p n1.2.1 g
    have s1 : ∀ (q : α → Bool) g, g ∈ (l.filter q).flatMap f → g ∈ l.flatMap f := fun q g h => (flatMap_sub List.filter_sublist).subset h
    by_cases hp : p a = true
    · rw [List.filter_cons_of_pos hp, List.flatMap_cons] at h
      rw [List.filter_cons_of_neg (by simp [hp])]
      rcases List.mem_append.1 h with h | h
      · exact fun h2 => n1.2.2 g h g (s1 _ g h2) rfl
      · exact ih h
    · rw [List.filter_cons_of_neg hp] at h
      rw [List.filter_cons_of_pos (by simp [hp]), List.flatMap_cons]
      intro h2
      rcases List.mem_append.1 h2 with h2 | h2
      · exact n1.2.2 g h2 g (s1 _ g h) rfl
      · exact ih h h2
section
variable {w w' : World} {B s : Nat} {hl : Hd} {L : List OShf}
theorem turn_out {q : Nat} {h' : Hd} {R' : List ORow} (h : StoIn w B s hl L) (hq : q < L.length) : ∀ g ∈ L[q].rblk, g ∈ stoBlks s hl (L.set q ⟨L[q].p, L[q].x, R', h'⟩) → g ∈ rowBlks h' R' := fun g hg hm => by
  have hnd := h.nd
  have hsplit : L = L.take q ++ L[q] :: L.drop (q + 1) := by rw [List.getElem_cons_drop, List.take_append_drop]
  have hset : L.set q ⟨L[q].p, L[q].x, R', h'⟩ = L.take q ++ (⟨L[q].p, L[q].x, R', h'⟩ : OShf) :: L.drop (q + 1) := List.set_eq_take_append_cons_drop.trans (by rw [if_pos hq])
  have hfl : L.flatMap OShf.blks = (L.take q).flatMap OShf.blks ++ (L[q].blks ++ (L.drop (q + 1)).flatMap OShf.blks) := by
    conv => lhs; rw [hsplit]
    rw [List.flatMap_append, List.flatMap_cons]
  unfold stoBlks at hm
  rw [hset, List.flatMap_append, List.flatMap_cons] at hm
  rw [hfl] at hnd
  obtain ⟨Z, hZ⟩ : ∃ Z, (L.take q).flatMap OShf.blks = Z := ⟨_, rfl⟩
  obtain ⟨C, hC⟩ : ∃ C, (L.drop (q + 1)).flatMap OShf.blks = C := ⟨_, rfl⟩
  rw [hZ, hC] at hm hnd
  have nd1 := List.nodup_cons.1 hnd
  have nd2 := List.nodup_append.1 nd1.2
  have nd3 := List.nodup_append.1 nd2.2.1
  have nd4 := List.nodup_append.1 nd3.2.1
  have hgb : g ∈ L[q].blks := by unfold OShf.blks; simp [hg]
  have n5 := nd4.1
  unfold OShf.blks at n5
  rcases List.mem_cons.1 hm with rfl | hm
  · exact absurd (List.mem_append.2 (.inr (List.mem_append.2 (.inr (List.mem_append.2 (.inl hgb)))))) nd1.1
  · rcases List.mem_append.1 hm with hm | hm
    · exact absurd rfl (nd2.2.2 g hm g (List.mem_append.2 (.inr (List.mem_append.2 (.inl hgb)))))
    · rcases List.mem_append.1 hm with hm | hm
      · exact absurd rfl (nd3.2.2 g hm g (List.mem_append.2 (.inl hgb)))
      · rcases List.mem_append.1 hm with hm | hm
        · unfold OShf.blks at hm
          rcases List.mem_cons.1 hm with rfl | hm
          · exact absurd (List.mem_append.2 (.inr hg)) (List.nodup_cons.1 n5).1
          · rcases List.mem_append.1 hm with hm | hm
            · exact absurd rfl ((List.nodup_append.1 (List.nodup_cons.1 n5).2).2.2 g hm g hg)
            · exact hm
        · exact absurd rfl (nd4.2.2 g hgb g hm)
/-- what a shelf hands to its parts -/
structure Parted (w : World) (y : OShf) : Prop where
  row : RowAt w y.p [.string y.x.t.schema, .string y.x.t.name, .string y.x.t.owner, .slice y.x.hc.a y.x.t.cols.length y.x.hc.c, .slice y.x.hr.a y.x.t.rules.length y.x.hr.c, .slice y.hr.a y.rows.length y.hr.c]
  cols : SlAt w 3 ColR y.x.hc.a y.x.hc.c y.x.t.cols
  rows : SlAt w 1 ORowR y.hr.a y.hr.c y.rows
  form : ∀ o ∈ y.rows, besideB formB y.x.t.cols o.vals = true
  heads : ∀ o ∈ y.rows, o.h.n = o.vals.length
  most : y.rows.length ≤ 64
  small : ∀ o ∈ y.rows, Small (o.vals.length * 16) ∧ ∀ v ∈ o.vals, Small v.text.size
theorem parted {ss : List Sch} (h : StoIn w B s hl L) (ok : SOk (storeS L) ss) (sm : ∀ y ∈ L, SmT y.x.t) {y : OShf} (hy : y ∈ L) : Parted w y := by
  obtain ⟨h1, h2, h3⟩ := ok.shf (x := y.s) (List.mem_map_of_mem hy)
  have hi := h.each y hy
  have hf : ∀ o ∈ y.rows, besideB formB y.x.t.cols o.vals = true := fun o ho => h3 _ (List.mem_map_of_mem ho)
  have hs : ∀ o ∈ y.rows, Small (o.vals.length * 16) ∧ ∀ v ∈ o.vals, Small v.text.size := fun o ho => row_small h2 (hf o ho)
  have hl : y.rows.length ≤ 64 := by simpa [OShf.s] using h1
  refine ⟨?_, hi.tab.cols (sm y hy), hi.rows.oat (by omega) hs, hf, fun o ho => own_n (hi.rows.each o ho), hl, hs⟩
  have e := hi.row
  unfold OShf.cells at e
  rw [OTab.cells_of hi.tab rfl, own_slice hi.rows.own] at e
  exact e
/-- rows among a shelf's rows, in a list of their own -/
theorem rows_of {y : OShf} {R : List ORow} {B2 : Nat} {h : Hd} (hi : ShfIn w B y) (hs : ∀ o ∈ R, o ∈ y.rows) (ho : w.ownsRow B2 34 1 h.v R.length (R.flatMap ORow.cells)) (hB : B ≤ B2) : RowsIn w B h R :=
  ⟨own_down ho hB, fun o h => hi.rows.each o (hs o h)⟩
end
end Go.Proofs.YtiadkchlkdaceaaGreat

namespace Go.Proofs.YtiadkchlkdaceaaGreat
open Go.RowKit Go.Deep
set_option maxRecDepth 100000
set_option linter.unusedVariables false
def sK12 : Rul := ⟨⟨#[107]⟩, 2, [⟨#[120]⟩], 0, 0, ⟨#[]⟩, ⟨#[]⟩, ⟨#[]⟩⟩
def sF12 : Rul := ⟨⟨#[102]⟩, 4, [⟨#[122]⟩], 0, 0, ⟨#[115]⟩, ⟨#[116]⟩, ⟨#[107]⟩⟩
def sT12 : Tab := ⟨⟨#[115]⟩, ⟨#[116]⟩, ⟨#[111]⟩, [⟨⟨#[120]⟩, 2, false⟩, ⟨⟨#[121]⟩, 3, true⟩, ⟨⟨#[122]⟩, 2, true⟩], [sF12, sK12]⟩
def sO12 : Objs := ⟨[⟨⟨#[115]⟩, ⟨#[111]⟩⟩], [sT12]⟩
theorem sO12_ok : checkO sO12 = true := by decide +kernel
def nul12 : Val := ⟨1, 0, ⟨#[]⟩⟩
def int12 (n : Int) : Val := ⟨2, n, ⟨#[]⟩⟩
def lay12 (a b : Int) : ROp := ⟨1, ⟨#[]⟩, ⟨#[115]⟩, ⟨#[116]⟩, [int12 a, nul12, if b = 0 then nul12 else int12 b], ⟨#[]⟩, ⟨0, 0, ⟨#[]⟩⟩⟩
def drop12 (a : Int) : ROp := ⟨2, ⟨#[]⟩, ⟨#[115]⟩, ⟨#[116]⟩, [], ⟨#[120]⟩, int12 a⟩
theorem lvRop_row {W : World} {p : Nat} {a b c d e f g h i : Value} (R : RowAt W p [a, b, c, d, e, f, g, h, i]) : (loadVar 39 ⟨p, 0, none⟩).run Tryz.prog W = .ok (.agg #[a, b, c, d, e, f, g, h, i]) W := by
  have e0 := R.cell (j := 0) rfl
  have e1 := R.cell (j := 1) rfl
  have e2 := R.cell (j := 2) rfl
  have e3 := R.cell (j := 3) rfl
  have e4 := R.cell (j := 4) rfl
  have e5 := R.cell (j := 5) rfl
  have e6 := R.cell (j := 6) rfl
  have e7 := R.cell (j := 7) rfl
  have e8 := R.cell (j := 8) rfl
  have h := run_lv (P := Tryz.prog) W 39 _ 9 p 0 Tryz.underlying39 rfl (by kernel_rfl) (fun j hj => by
    rw [Nat.zero_add, R.2.1 j (by simpa using hj)]
    simp; omega)
  rw [h]
  simp [List.range_succ, e0, e1, e2, e3, e4, e5, e6, e7, e8]
theorem RowAt.up12 {w : World} {b : Nat} {xs : List Value} {o : Obj} (h : RowAt w b xs) : RowAt (w.alloc o) b xs := h.aft ((Aft.refl _).alloc _)
theorem slAt_two12 {α : Type} {size : Nat} {R : World → List Value → α → Prop} {w : World} {b cap : Nat} (x y : α) (cs ds : List Value) (c : Array Value) (hb : b < w.heap.size) (hc : ∀ o, w.cell? ⟨b, o, none⟩ = c[o]?) (e : c.toList = cs ++ ds) (hf : cs.length = size) (hg : ds.length = size)
    (hR : R w cs x) (hS : R w ds y) (hcap : 2 ≤ cap) : SlAt w size R (some ⟨b, 0, none⟩) cap [x, y] :=
  ⟨hcap, by unfold Small; simp only [List.length_cons, List.length_nil]; decide, fun i hi => by
    have hi2 : i < 2 := hi
    rcases (by omega : i = 0 ∨ i = 1) with rfl | rfl
    · refine ⟨b, 0, cs, rfl, hb, hf, hR, fun j hj => ?_⟩
      rw [hc, ← Array.getElem?_toList, e]
      rw [List.getElem?_append_left (by omega)]
      simp
    · refine ⟨b, 0, ds, rfl, hb, hg, hS, fun j hj => ?_⟩
      rw [hc, ← Array.getElem?_toList, e]
      rw [List.getElem?_append_right (by omega)]
      congr 1
      omega⟩
def OneP12 (w : World) (e : Ending) (w' : World) : Prop := ∃ As caps At capt, e = .returned (.agg #[.slice As 1 caps, .slice At 1 capt]) ∧ Aft w w' ∧ SlAt w' 2 SchR As caps sO12.schemas ∧ SlAt w' 5 TabR At capt sO12.tables
set_option maxHeartbeats 8000000 in
theorem one12 (w : World) : Calls Tryz.prog 42 #[] w (OneP12 w) := by
  have l1 : w.heap.size < w.heap.size + 1 := by omega
  have l2 : w.heap.size < w.heap.size + 1 + 1 := by omega
  have l3 : w.heap.size < w.heap.size + 1 + 1 + 1 := by omega
  have l4 : w.heap.size < w.heap.size + 1 + 1 + 1 + 1 := by omega
  have l5 : w.heap.size < w.heap.size + 1 + 1 + 1 + 1 + 1 := by omega
  have l6 : w.heap.size < w.heap.size + 1 + 1 + 1 + 1 + 1 + 1 := by omega
  have l8 : w.heap.size < w.heap.size + 1 + 1 + 1 + 1 + 1 + 1 + 1 + 1 := by omega
  have l9 : w.heap.size < w.heap.size + 1 + 1 + 1 + 1 + 1 + 1 + 1 + 1 + 1 := by omega
  have l10 : w.heap.size < w.heap.size + 1 + 1 + 1 + 1 + 1 + 1 + 1 + 1 + 1 + 1 := by omega
  have l7 : w.heap.size < w.heap.size + 1 + 1 + 1 + 1 + 1 + 1 + 1 := by omega
  go_enter Tryz.func42, Tryz.ntmps42
  go_wp2_with fail
  refine bodyPost_ret (results_cell (v := .agg #[.slice (some ⟨w.heap.size + 1 + 1 + 1 + 1 + 1 + 1 + 1 + 1, 0, none⟩) 1 1, .slice (some ⟨w.heap.size + 1 + 1 + 1 + 1 + 1 + 1 + 1 + 1 + 1, 0, none⟩) 1 1]) rfl _ rfl ?hl) rfl ?_
  case hl => exact lvObj_row (RowAt.up12 (RowAt.up12 (RowAt.up12 (RowAt.up12 (RowAt.up12 (RowAt.up12 (RowAt.up12 (RowAt.up12 (RowAt.up12 (box_row2 (Aft.refl _)))))))))))
  refine ⟨_, _, _, _, rfl, ((((((((((Aft.refl w).alloc _).alloc _).alloc _).alloc _).alloc _).alloc _).alloc _).alloc _).alloc _).alloc _, ?s, ?t⟩
  case s => exact slAt_one _ [.string ⟨#[115]⟩, .string ⟨#[111]⟩] #[.string ⟨#[115]⟩, .string ⟨#[111]⟩] (by first | (simp; done) | (simp; omega)) (by intro o; (repeat (refine (World.cell?_alloc_past _ _ _ (by first | (simp; done) | (simp; omega))).trans ?_)); exact World.cell?_alloc_at _ _ _ _ (by simp)) rfl rfl ⟨rfl, by unfold Small; decide, by unfold Small; decide⟩ (by omega)
  case t =>
    refine slAt_one _ [.string ⟨#[115]⟩, .string ⟨#[116]⟩, .string ⟨#[111]⟩, .slice (some ⟨w.heap.size + 1 + 1 + 1 + 1 + 1, 0, none⟩) 3 3, .slice (some ⟨w.heap.size + 1 + 1 + 1 + 1 + 1 + 1, 0, none⟩) 2 2] #[.string ⟨#[115]⟩, .string ⟨#[116]⟩, .string ⟨#[111]⟩, .slice (some ⟨w.heap.size + 1 + 1 + 1 + 1 + 1, 0, none⟩) 3 3, .slice (some ⟨w.heap.size + 1 + 1 + 1 + 1 + 1 + 1, 0, none⟩) 2 2] (by first | (simp; done) | (simp; omega)) (by intro o; (repeat (refine (World.cell?_alloc_past _ _ _ (by first | (simp; done) | (simp; omega))).trans ?_)); exact World.cell?_alloc_at _ _ _ _ (by simp)) rfl rfl ⟨_, _, _, _, rfl, ?c, ?r, by unfold Small; decide, by unfold Small; decide, by unfold Small; decide⟩ (by omega)
    case c => exact slAt_box _ colC #[.string ⟨#[120]⟩, .int .i64 2, .bool false, .string ⟨#[121]⟩, .int .i64 3, .bool true, .string ⟨#[122]⟩, .int .i64 2, .bool true] (by first | (simp; done) | (simp; omega)) (by intro o; (repeat (refine (World.cell?_alloc_past _ _ _ (by first | (simp; done) | (simp; omega))).trans ?_)); exact World.cell?_alloc_at _ _ _ _ (by simp)) rfl (fun _ => rfl) (by intro x hx; refine ⟨rfl, ?_⟩; simp [sT12] at hx; rcases hx with rfl | rfl | rfl <;> (unfold Small; decide)) (by unfold Small; decide) (by decide)
    case r =>
      refine slAt_two12 _ _ [.string ⟨#[102]⟩, .int .i64 4, .slice (some ⟨w.heap.size + 1 + 1 + 1, 0, none⟩) 1 1, .int .i64 0, .int .i64 0, .string ⟨#[115]⟩, .string ⟨#[116]⟩, .string ⟨#[107]⟩] [.string ⟨#[107]⟩, .int .i64 2, .slice (some ⟨w.heap.size + 1, 0, none⟩) 1 1, .int .i64 0, .int .i64 0, .string ⟨#[]⟩, .string ⟨#[]⟩, .string ⟨#[]⟩] #[.string ⟨#[102]⟩, .int .i64 4, .slice (some ⟨w.heap.size + 1 + 1 + 1, 0, none⟩) 1 1, .int .i64 0, .int .i64 0, .string ⟨#[115]⟩, .string ⟨#[116]⟩, .string ⟨#[107]⟩, .string ⟨#[107]⟩, .int .i64 2, .slice (some ⟨w.heap.size + 1, 0, none⟩) 1 1, .int .i64 0, .int .i64 0, .string ⟨#[]⟩, .string ⟨#[]⟩, .string ⟨#[]⟩] (by first | (simp; done) | (simp; omega)) (by intro o; (repeat (refine (World.cell?_alloc_past _ _ _ (by first | (simp; done) | (simp; omega))).trans ?_)); exact World.cell?_alloc_at _ _ _ _ (by simp)) rfl rfl rfl ⟨_, _, rfl, ?c1, by unfold Small; decide, by unfold Small; decide, by unfold Small; decide, by unfold Small; decide⟩ ⟨_, _, rfl, ?c2, by unfold Small; decide, by unfold Small; decide, by unfold Small; decide, by unfold Small; decide⟩ (by omega)
      case c1 => exact slAt_one _ [.string ⟨#[122]⟩] #[.string ⟨#[122]⟩] (by first | (simp; done) | (simp; omega)) (by intro o; (repeat (refine (World.cell?_alloc_past _ _ _ (by first | (simp; done) | (simp; omega))).trans ?_)); exact World.cell?_alloc_at _ _ _ _ (by simp)) rfl rfl ⟨rfl, by unfold Small; decide⟩ (by omega)
      case c2 => exact slAt_one _ [.string ⟨#[120]⟩] #[.string ⟨#[120]⟩] (by first | (simp; done) | (simp; omega)) (by intro o; (repeat (refine (World.cell?_alloc_past _ _ _ (by first | (simp; done) | (simp; omega))).trans ?_)); exact World.cell?_alloc_at _ _ _ _ (by simp)) rfl rfl ⟨rfl, by unfold Small; decide⟩ (by omega)
theorem drop12_is (a : Int) (w : World) : Calls Tryz.prog 44 #[.int .i64 a] w fun e w' => e = .returned (.agg #[.int .i64 2, .string ⟨#[]⟩, .string ⟨#[115]⟩, .string ⟨#[116]⟩, .slice none 0 0, .string ⟨#[120]⟩, .int .i64 2, .int .i64 a, .string ⟨#[]⟩]) ∧ Aft w w' := by
  go_enter Tryz.func44, Tryz.ntmps44
  go_wp2_with fail
  refine bodyPost_ret (results_cell (v := .agg #[.int .i64 2, .string ⟨#[]⟩, .string ⟨#[115]⟩, .string ⟨#[116]⟩, .slice none 0 0, .string ⟨#[120]⟩, .int .i64 2, .int .i64 a, .string ⟨#[]⟩]) rfl _ rfl ?hl) rfl ?_
  case hl => exact lvRop_row (box_row2 (Aft.refl _))
  exact ⟨rfl, (Aft.refl _).alloc _⟩
theorem lay12_is (a b : Int) (w : World) : Calls Tryz.prog 43 #[.int .i64 a, .int .i64 b] w fun e w' => ∃ A cap, e = .returned (.agg #[.int .i64 1, .string ⟨#[]⟩, .string ⟨#[115]⟩, .string ⟨#[116]⟩, .slice A 3 cap, .string ⟨#[]⟩, .int .i64 0, .int .i64 0, .string ⟨#[]⟩]) ∧ Aft w w' ∧ SlAt w' 3 ValR A cap (lay12 a b).row ∧ ∀ b off, A = some ⟨b, off, none⟩ → w.heap.size ≤ b := by
  have l1 : w.heap.size < w.heap.size + 1 := by omega
  have l2 : w.heap.size < w.heap.size + 1 + 1 := by omega
  go_enter Tryz.func43, Tryz.ntmps43
  by_cases hb : b = 0
  · subst hb
    go_wp2_with fail
    refine bodyPost_ret (results_cell (v := .agg #[.int .i64 1, .string ⟨#[]⟩, .string ⟨#[115]⟩, .string ⟨#[116]⟩, .slice (some ⟨w.heap.size + 1 + 1 + 1, 0, none⟩) 3 3, .string ⟨#[]⟩, .int .i64 0, .int .i64 0, .string ⟨#[]⟩]) rfl _ rfl ?hl) rfl ?_
    case hl => exact lvRop_row (RowAt.up12 (RowAt.up12 (RowAt.up12 (box_row2 (Aft.refl _)))))
    refine ⟨_, _, rfl, ((((Aft.refl w).alloc _).alloc _).alloc _).alloc _, ?_, fun b off h => by injection h with h; injection h with h1 h2; omega⟩
    exact slAt_box _ cellsV #[.int .i64 2, .int .i64 a, .string ⟨#[]⟩, .int .i64 1, .int .i64 0, .string ⟨#[]⟩, .int .i64 1, .int .i64 0, .string ⟨#[]⟩] (by first | (simp; done) | (simp; omega)) (by intro o; (repeat (refine (World.cell?_alloc_past _ _ _ (by first | (simp; done) | (simp; omega))).trans ?_)); exact World.cell?_alloc_at _ _ _ _ (by simp)) (by simp [lay12, cellsV, int12, nul12]) (fun _ => rfl) (by intro x hx; refine ⟨rfl, ?_⟩; simp [lay12, int12, nul12] at hx; rcases hx with rfl | rfl <;> (unfold Small; exact (Nat.zero_le _ : 0 ≤ 140737488351232))) (by unfold Small lay12; simp only [List.length_cons, List.length_nil]; decide) (by simp [lay12])
  · have e1 : (b == 0) = false := by simpa using hb
    go_wp2_with fail
    refine bodyPost_ret (results_cell (v := .agg #[.int .i64 1, .string ⟨#[]⟩, .string ⟨#[115]⟩, .string ⟨#[116]⟩, .slice (some ⟨w.heap.size + 1 + 1 + 1, 0, none⟩) 3 3, .string ⟨#[]⟩, .int .i64 0, .int .i64 0, .string ⟨#[]⟩]) rfl _ rfl ?hl) rfl ?_
    case hl => exact lvRop_row (RowAt.up12 (RowAt.up12 (RowAt.up12 (box_row2 (Aft.refl _)))))
    refine ⟨_, _, rfl, ((((Aft.refl w).alloc _).alloc _).alloc _).alloc _, ?_, fun b off h => by injection h with h; injection h with h1 h2; omega⟩
    exact slAt_box _ cellsV #[.int .i64 2, .int .i64 a, .string ⟨#[]⟩, .int .i64 1, .int .i64 0, .string ⟨#[]⟩, .int .i64 2, .int .i64 b, .string ⟨#[]⟩] (by first | (simp; done) | (simp; omega)) (by intro o; (repeat (refine (World.cell?_alloc_past _ _ _ (by first | (simp; done) | (simp; omega))).trans ?_)); exact World.cell?_alloc_at _ _ _ _ (by simp)) (by simp [lay12, cellsV, int12, nul12, hb]) (fun _ => rfl) (by intro x hx; refine ⟨rfl, ?_⟩; simp [lay12, int12, nul12, hb] at hx; rcases hx with rfl | rfl | rfl <;> (unfold Small; exact (Nat.zero_le _ : 0 ≤ 140737488351232))) (by unfold Small lay12; simp only [List.length_cons, List.length_nil]; decide) (by simp [lay12])
end Go.Proofs.YtiadkchlkdaceaaGreat

namespace Go.Proofs.YtiadkchlkdaceaaGreat
open Go.RowKit
set_option maxRecDepth 100000
set_option linter.unusedVariables false
theorem null_form12 (c : Col) : formB c nullV = true := by simp [formB, mayV, nullV, emp_nil]
theorem turn_form12 {l m : List Col} {row : List Val} (h1 : besideB formB l row = true) : besideB formB m (turnVs l m row) = true := by
  obtain ⟨hl, hf⟩ := (besideB_iff formB l row).1 h1
  refine besideB_true _ _ _ (by rw [turnVs_len]) fun k h2 h3 => ?_
  rw [show (turnVs l m row)[k] = turn1 l row m[k] by simp [turnVs]]
  by_cases hx : colAt l m[k].name < 0
  · rw [turn1_miss hx]; exact null_form12 _
  obtain ⟨q, hq⟩ := Int.eq_ofNat_of_zero_le (show 0 ≤ colAt l m[k].name by omega)
  have hql := colAt_lt hq
  by_cases hk : l[q].kind = m[k].kind
  · rw [turn1_hit hq hql (by omega) hk]
    have := hf q hql (by omega)
    unfold formB at this ⊢
    rw [← hk]; exact this
  · rw [turn1_other hq hql hk]; exact null_form12 _
theorem putS_tabs (S : List Shf) (q : Nat) (rows : List (List Val)) : (putS S q rows).map (·.t) = S.map (·.t) := by
  unfold putS
  rw [List.map_set]
  refine List.ext_getElem? fun i => ?_
  by_cases h : i = q
  · subst h
    by_cases hl : i < S.length
    · rw [List.getElem?_set_self (by simpa using hl)]
      simp [shfN, List.getElem?_eq_getElem hl]
    · rw [List.getElem?_eq_none (by simp; omega), List.getElem?_eq_none (by simp; omega)]
  · rw [List.getElem?_set_ne (fun e => h e.symm)]
theorem putS_ok {S : List Shf} {ss : List Sch} {q : Nat} {rows : List (List Val)} (h : SOk S ss) (hf : ∀ row ∈ rows, besideB formB (shfN S q).t.cols row = true) (hl : rows.length ≤ 64) : SOk (putS S q rows) ss := by
  refine ⟨by rw [putS_tabs]; exact h.ck, fun x hx row hr => ?_, fun x hx => ?_⟩
  · unfold putS at hx
    rcases List.mem_or_eq_of_mem_set hx with hx | rfl
    · exact h.form x hx row hr
    · exact hf row hr
  · unfold putS at hx
    rcases List.mem_or_eq_of_mem_set hx with hx | rfl
    · exact h.most x hx
    · exact hl
theorem shfN_mem {S : List Shf} {q : Nat} (h : q < S.length) : shfN S q ∈ S := by rw [shfN_get h]; exact List.getElem_mem h
theorem doS_ok {S : List Shf} {ss : List Sch} (x : ROp) (h : SOk S ss) : SOk (doS S x).1 ss := by
  unfold doS
  split
  · exact h
  split
  · exact h
  rename_i hj
  have hq : (shfAt S x.schema x.table).toNat < S.length := by
    have := (idxP_range (fun y : Shf => eqS y.t.schema x.schema && eqS y.t.name x.table) S).2
    unfold shfAt at hj ⊢; omega
  obtain ⟨q, hqe⟩ : ∃ q, (shfAt S x.schema x.table).toNat = q := ⟨_, rfl⟩
  rw [hqe] at hq ⊢
  have hm := shfN_mem hq
  split
  · exact h
  split
  · split
    · exact h
    · rename_i hw
      have hw : wrongS S q x.row = 0 := by simpa using hw
      unfold wrongS at hw
      split at hw
      · rename_i h1; exact absurd hw h1
      rename_i h1
      split at hw
      · omega
      rename_i h2
      refine putS_ok h (fun row hr => ?_) (by simp; omega)
      rcases List.mem_append.1 hr with hr | hr
      · exact h.form _ hm row hr
      · rw [List.mem_singleton] at hr
        subst hr
        exact fitE_zero (by omega)
  · split
    · dsimp only
      split
      · exact h
      · exact putS_ok h (fun row hr => h.form _ hm row (List.mem_filter.1 hr).1) (Nat.le_trans (List.length_filter_le _ _) (h.most _ hm))
    · exact h
theorem loadS_ok {S : List Shf} {ss : List Sch} {o : Objs} (h : SOk S ss) (hk : checkO o = true) : SOk (loadS S o).1 o.schemas := by
  unfold loadS
  rw [if_pos hk]
  have ht : (o.tables.map (turnS S)).map (·.t) = o.tables := by rw [List.map_map]; exact (List.map_congr_left fun a _ => rfl).trans (List.map_id _)
  refine ⟨by rw [ht]; exact hk, fun x hx row hr => ?_, fun x hx => ?_⟩
  · obtain ⟨t, ht2, rfl⟩ := List.mem_map.1 hx
    unfold turnS at hr ⊢
    simp only at hr ⊢
    split at hr
    · cases hr
    · rename_i hj
      obtain ⟨r, hr2, rfl⟩ := List.mem_map.1 hr
      refine turn_form12 (h.form _ (shfN_mem ?_) r hr2)
      have := (idxP_range (fun y : Shf => eqS y.t.schema t.schema && eqS y.t.name t.name) S).2
      unfold shfAt at hj ⊢; omega
  · obtain ⟨t, ht2, rfl⟩ := List.mem_map.1 hx
    unfold turnS
    simp only
    split
    · simp
    · rename_i hj
      rw [List.length_map]
      refine h.most _ (shfN_mem ?_)
      have := (idxP_range (fun y : Shf => eqS y.t.schema t.schema && eqS y.t.name t.name) S).2
      unfold shfAt at hj ⊢; omega
theorem nil_ok : SOk [] [] := ⟨by decide +kernel, fun x hx => by (cases hx), fun x hx => by (cases hx)⟩
def aw0 : List Shf := (loadS [] sO12).1
def aw1 : List Shf := (doS aw0 (lay12 1 0)).1
def aw2 : List Shf := (doS aw1 (lay12 1 0)).1
def aw3 : List Shf := (doS aw2 (lay12 2 3)).1
def aw4 : List Shf := (doS aw3 (lay12 2 2)).1
def aw5 : List Shf := (doS aw4 (lay12 3 2)).1
def aw6 : List Shf := (doS aw5 (drop12 2)).1
def aw7 : List Shf := (doS aw6 (drop12 3)).1
theorem aw_1 : (doS aw0 (lay12 1 0)).2.2 = 0 := by decide +kernel
theorem aw_2 : (doS aw1 (lay12 1 0)).2.2 = 111 := by decide +kernel
theorem aw_3 : (doS aw2 (lay12 2 3)).2.2 = 112 := by decide +kernel
theorem aw_4 : (doS aw3 (lay12 2 2)).2.2 = 0 := by decide +kernel
theorem aw_5 : (doS aw4 (lay12 3 2)).2.2 = 0 := by decide +kernel
theorem aw_6 : (doS aw5 (drop12 2)).2.2 = 113 := by decide +kernel
theorem aw_7 : (doS aw6 (drop12 3)).2.2 = 0 := by decide +kernel
theorem aw_7l : (doS aw6 (drop12 3)).2.1.length = 1 := by decide +kernel
theorem aw_8 : (doS aw7 (drop12 2)).2.2 = 0 := by decide +kernel
end Go.Proofs.YtiadkchlkdaceaaGreat

namespace Go.Proofs.YtiadkchlkdaceaaGreat
open Go.RowKit Go.Deep
set_option maxRecDepth 100000
set_option linter.unusedVariables false
/-- shelves of our own -/
structure ShsIn (w : World) (B : Nat) (hl : Hd) (L : List OShf) : Prop where
  lst : w.ownsRow B 80 1 hl.v L.length (L.flatMap ptrC)
  each : ∀ y ∈ L, ShfIn w B y
  nd : (hl.blk ++ L.flatMap OShf.blks).Nodup
section
variable {w w' : World} {B s : Nat} {hl : Hd} {L : List OShf}
theorem ShsIn.lt (h : ShsIn w B hl L) : ∀ g ∈ hl.blk ++ L.flatMap OShf.blks, B ≤ g ∧ g < w.heap.size := fun g hg => by
  rcases List.mem_append.1 hg with hg | hg
  · exact blk_lt h.lst g hg
  · obtain ⟨y, hy, hg⟩ := List.mem_flatMap.1 hg
    exact (h.each y hy).lt g hg
theorem ShsIn.kb {P : Nat → Prop} (h : ShsIn w B hl L) (k : Kb P w w') (hne : ∀ g ∈ hl.blk ++ L.flatMap OShf.blks, ¬ P g) : ShsIn w' B hl L :=
  ⟨own_kb h.lst k fun g hg => hne g (List.mem_append.2 (.inl (Hd.mem_blk.2 hg))), fun y hy => (h.each y hy).kb k fun g hg => hne g (List.mem_append.2 (.inr (List.mem_flatMap.2 ⟨y, hy, hg⟩))), h.nd⟩
theorem ShsIn.aft (h : ShsIn w B hl L) (a : Aft w w') : ShsIn w' B hl L := h.kb (P := fun _ => False) (Kb.of_aft a) fun _ _ h => h
theorem ShsIn.nil (w : World) (B : Nat) : ShsIn w B ⟨none, 0, 0⟩ [] := ⟨own_nil _ _ _ _, (fun y h => by cases h), (by simp [blk_nil])⟩
theorem RowsIn.down {B2 : Nat} {h : Hd} {l : List ORow} (r : RowsIn w B h l) (hB : B2 ≤ B) : RowsIn w B2 h l := ⟨own_down r.own hB, fun o ho => own_down (r.each o ho) hB⟩
theorem ShfIn.down {B2 : Nat} {y : OShf} (h : ShfIn w B y) (hB : B2 ≤ B) : ShfIn w B2 y := ⟨Nat.le_trans hB h.ge, h.blk, h.row, h.tab.down hB, h.rows.down hB⟩
/-- one shelf more -/
theorem ShsIn.push {wr w4 w5 : World} {h : Hd} {y : OShf} {A' : Option Addr} {n cap' : Nat} {ob : Obj} (r : ShsIn wr B h L) (a4 : Aft wr w4) (hy : ShfIn w4 wr.heap.size y) (ny : y.blks.Nodup) (hB : B ≤ wr.heap.size) (hn : n = L.length + 1)
    (hg : (w4.alloc ob).grownBy w5 h.v.ownBlock) (hown : w5.ownsRow B 80 1 (.slice A' n cap') n (L.flatMap ptrC ++ ptrC y)) (hblk : ∀ g ∈ (Hd.mk A' n cap').blk, h.v.ownBlock = some g ∨ w4.heap.size + 1 ≤ g) :
    ShsIn w5 B ⟨A', n, cap'⟩ (L ++ [y]) := by
  have k := Kb.of_grown hg
  have hlt := r.lt
  have hnd := List.nodup_append.1 r.nd
  have hz := a4.size
  have hol := hy.lt
  refine ⟨?_, fun x hx => ?_, ?_⟩
  · have e : (L ++ [y]).length = n := by simp [hn]
    rw [e]
    simpa [List.flatMap_append, Hd.v] using hown
  · rcases List.mem_append.1 hx with hx | hx
    · refine ((r.each x hx).aft (a4.alloc ob)).kb k fun g hg2 e => ?_
      exact hnd.2.2 g (Hd.mem_blk.2 e) g (List.mem_flatMap.2 ⟨x, hx, hg2⟩) rfl
    · rw [List.mem_singleton] at hx
      subst hx
      refine ((hy.aft ((Aft.refl w4).alloc ob)).kb k fun g hg2 e => ?_).down hB
      have h1 := (hlt g (List.mem_append.2 (.inl (Hd.mem_blk.2 e)))).2
      have h2 := (hol g hg2).1
      omega
  · rw [List.flatMap_append, List.flatMap_cons, List.flatMap_nil, List.append_nil]
    have n2 : (L.flatMap OShf.blks ++ y.blks).Nodup := nodup_more (N := wr.heap.size) hnd.2.1 ny (fun g hg => (hlt g (List.mem_append.2 (.inr hg))).2) (fun g hg => (hol g hg).1)
    refine List.nodup_append.2 ⟨blk_nodup _, n2, fun a ha b hb e => ?_⟩
    subst e
    rcases hblk a ha with h1 | h1
    · have h2 := hlt a (List.mem_append.2 (.inl (Hd.mem_blk.2 h1)))
      rcases List.mem_append.1 hb with hb | hb
      · exact hnd.2.2 a (Hd.mem_blk.2 h1) a hb rfl
      · have := (hol a hb).1; omega
    · rcases List.mem_append.1 hb with hb | hb
      · have := (hlt a (List.mem_append.2 (.inr hb))).2; omega
      · have := (hol a hb).2; omega
/-- one row more on a shelf of our own -/
theorem ShfIn.push {wr w4 w5 : World} {y : OShf} {o : ORow} {A' : Option Addr} {n cap' : Nat} {ob : Obj} (r : ShfIn wr B y) (ny : y.blks.Nodup) (a4 : Aft wr w4) (ho : w4.ownsRow wr.heap.size 37 3 o.h.v o.vals.length (o.vals.flatMap cellsV)) (hB : B ≤ wr.heap.size) (hn : n = y.rows.length + 1)
    (hg : (w4.alloc ob).grownBy w5 y.hr.v.ownBlock) (hown : w5.ownsRow B 34 1 (.slice A' n cap') n (y.rows.flatMap ORow.cells ++ [o.h.v])) (hblk : ∀ g ∈ (Hd.mk A' n cap').blk, y.hr.v.ownBlock = some g ∨ w4.heap.size + 1 ≤ g) :
    ShfIn (w5.setCell ⟨y.p, 5, none⟩ (.slice A' n cap')) B ⟨y.p, y.x, y.rows ++ [o], ⟨A', n, cap'⟩⟩ ∧ (OShf.blks ⟨y.p, y.x, y.rows ++ [o], ⟨A', n, cap'⟩⟩).Nodup := by
  have k := Kb.of_grown hg
  have hz := a4.size
  have hlt := r.lt
  have hol := blk_lt ho
  have n1 := ny
  unfold OShf.blks OShf.rblk at n1
  obtain ⟨n2, n3⟩ := List.nodup_cons.1 n1
  obtain ⟨n4, n5, n6⟩ := List.nodup_append.1 n3
  obtain ⟨p1, p2⟩ := rows_push (o := o) r.rows n5 a4 ho hB hg hn hown hblk
  have hnew : ∀ g ∈ (Hd.mk A' n cap').blk ++ (y.rows ++ [o]).flatMap (·.h.blk), g ∈ y.rblk ∨ wr.heap.size ≤ g := fun g hg => by
    rw [List.flatMap_append, List.flatMap_cons, List.flatMap_nil, List.append_nil] at hg
    unfold OShf.rblk
    simp only [List.mem_append] at hg
    rcases hg with h | h | h
    · rcases hblk g h with h | h
      · exact .inl (List.mem_append.2 (.inl (Hd.mem_blk.2 h)))
      · exact .inr (by omega)
    · exact .inl (List.mem_append.2 (.inr h))
    · exact .inr (hol g h).1
  have ltp : y.p < wr.heap.size := r.row.1
  have nep : ∀ g ∈ (Hd.mk A' n cap').blk ++ (y.rows ++ [o]).flatMap (·.h.blk), g ≠ y.p := fun g hg e => by
    rcases hnew g hg with h | h
    · subst e; exact n2 (List.mem_append.2 (.inr h))
    · omega
  have npb : ¬ y.hr.v.ownBlock = some y.p := fun e => n2 (List.mem_append.2 (.inr (List.mem_append.2 (.inl (Hd.mem_blk.2 e)))))
  have kA : Kb (fun g => y.hr.v.ownBlock = some g) wr w5 := (Kb.of_aft (a4.alloc ob)).trans k
  have kS : Kb (fun g => g = y.p) w5 (w5.setCell ⟨y.p, 5, none⟩ (.slice A' n cap')) := Kb.set _ _ _ _
  have hc5 : y.cells.length = 6 := by unfold OShf.cells OTab.cells; rfl
  refine ⟨⟨r.ge, ?_, ?_, (r.tab.kb kA fun g hg e => ?_).kb kS fun g hg e => ?_, p1.kb kS fun g hg e => nep g hg e⟩, ?_⟩
  · obtain ⟨cur, t, e⟩ := r.blk
    exact ⟨_, _, setCell_heap_same w5 y.p 5 _ ((kA.block y.p ltp npb).trans e)⟩
  · have h1 := (kA.row r.row npb).set 5 (.slice A' n cap') (by rw [hc5]; omega)
    exact h1
  · exact n6 g hg g (List.mem_append.2 (.inl (Hd.mem_blk.2 e))) rfl
  · have e : g = y.p := e
    subst e; exact n2 (List.mem_append.2 (.inl hg))
  · unfold OShf.blks OShf.rblk
    refine List.nodup_cons.2 ⟨fun h => ?_, List.nodup_append.2 ⟨n4, p2, fun a ha b hb e => ?_⟩⟩
    · rcases List.mem_append.1 h with h | h
      · exact n2 (List.mem_append.2 (.inl h))
      · exact nep _ h rfl
    · subst e
      rcases hnew a hb with h | h
      · exact n6 a ha a h rfl
      · have := (hlt a (by unfold OShf.blks; simp [ha])).2
        omega
end
end Go.Proofs.YtiadkchlkdaceaaGreat

