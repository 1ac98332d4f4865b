/- Contracts of the program, part 9. -/
import Derived.Deep.Onto
import Derived.LaidEqlPtr
import Derived.OwnWalk
import Derived.Laws.AppendOwn
import Derived.ProofKit
import Derived.OpenShut
import Derived.Deep.Slices
import Derived.ChangeOld
import Derived.SizedLaws
import Derived.WalkKit
import Derived.WalkSpells
import Derived.WalkLawsBesides
import Derived.Lib.Hide
import Derived.Deep.QuietTactic
import Derived.BigQuiet
import Derived.Below
import Derived.Deep.Draws
import Derived.StillTailTactics
import Derived.Laws.Cells
import Derived.Laws.IdiomCopy
import Derived.Test.YtiadkchlkdaceaaGreatRows
import Derived.Lib.Bytealg
import Derived.IntWalk
import Derived.ShutString
import Derived.Shelf.SlSortCmp.WholeK
import Derived.Lib.SliceRun
import Derived.Deep.AppendLies
import Derived.Deep.Upon
import Derived.OneCell
import Derived.Deep.DeepMust
import Derived.Deep.RegionLaw
import Derived.Deep.RegionHeld3
import Derived.Shelf.RegionOpen
import Derived.Sort.BigQuietIn
import Derived.RangeFuncNested
import Derived.RangeFuncBound
import Derived.RangeFuncCalls
import Derived.RangeFuncLeaves
import Derived.Shelf.Abstract
import Derived.OwnWalkIn
import Derived.TacticsInMore
import Derived.LoopNIn
import Derived.LoopIn
import Derived.Sort.QuietTacIn
import Derived.NoCompiler
import Derived.OrdersHeld
import Derived.Lib.Walk
import Derived.Test.YtiadkchlkdaceaaGreatPartR1
import Derived.Test.YtiadkchlkdaceaaGreatPartR2
import Derived.Test.YtiadkchlkdaceaaGreatPartR3
import Derived.Test.YtiadkchlkdaceaaGreatPartR4
import Derived.Test.YtiadkchlkdaceaaGreatPartR5
import Derived.Test.YtiadkchlkdaceaaGreatPartR6
import Derived.Test.YtiadkchlkdaceaaGreatPartR7
import Derived.Test.YtiadkchlkdaceaaGreatPartR8
namespace Go.Proofs.YtiadkchlkdaceaaGreat
open Go.RowKit
set_option maxRecDepth 100000
set_option linter.unusedVariables false
/-- a row among rows, with its head -/
def ORowR (w : World) (cs : List Value) (o : ORow) : Prop := cs = [o.h.v] ∧ o.h.n = o.vals.length ∧ SlAt w 3 ValR o.h.a o.h.c o.vals
theorem ORowR.aft {w w' : World} {cs : List Value} {o : ORow} (hw : Aft w w') (h : ORowR w cs o) : ORowR w' cs o := ⟨h.1, h.2.1, vals_aft hw h.2.2⟩
theorem orows_aft {w w' : World} {A : Option Addr} {cap : Nat} {l : List ORow} (hw : Aft w w') (h : SlAt w 1 ORowR A cap l) : SlAt w' 1 ORowR A cap l := h.aft hw fun _ _ h => ORowR.aft hw h
theorem orow_at {w : World} {A : Option Addr} {cap : Nat} {l : List ORow} (h : SlAt w 1 ORowR A cap l) {k : Nat} (hk : k < l.length) :
    ∃ b off, A = some ⟨b, off, none⟩ ∧ b < w.heap.size ∧ w.cell? ⟨b, off + k, none⟩ = some (.slice l[k].h.a l[k].vals.length l[k].h.c) ∧ SlAt w 3 ValR l[k].h.a l[k].h.c l[k].vals := by
  obtain ⟨b, off, cs, hA, hb, hl, ⟨rfl, hn, hr⟩, hc⟩ := h.2.2 k hk
  have h0 : w.cell? ⟨b, off + k, none⟩ = some l[k].h.v := by simpa using hc 0 (by omega)
  unfold Hd.v at h0
  rw [hn] at h0
  exact ⟨b, off, hA, hb, h0, hr⟩
theorem orows_rows {w : World} {A : Option Addr} {cap : Nat} {l : List ORow} (h : SlAt w 1 ORowR A cap l) : SlAt w 1 RowsR A cap (l.map (·.vals)) := by
  refine ⟨by simpa using h.1, by simpa using h.2.1, fun i hi => ?_⟩
  have hi' : i < l.length := by simpa using hi
  obtain ⟨b, off, cs, hA, hb, hl, ⟨rfl, hn, hr⟩, hc⟩ := h.2.2 i hi'
  refine ⟨b, off, [l[i].h.v], hA, hb, rfl, ⟨l[i].h.a, l[i].h.c, ?_, ?_⟩, hc⟩
  · unfold Hd.v; rw [hn]; simp
  · simpa using hr
theorem RowsIn.oat {w : World} {B : Nat} {h : Hd} {l : List ORow} (r : RowsIn w B h l) (hl : l.length ≤ 1000000) (hs : ∀ o ∈ l, Small (o.vals.length * 16) ∧ ∀ v ∈ o.vals, Small v.text.size) : SlAt w 1 ORowR h.a h.c l := by
  have := own_slo ORow.cells id r.own (R := ORowR) (fun o ho => ⟨rfl, rfl, own_n (r.each o ho), RowIn.at (r.each o ho) (hs o ho)⟩) (by unfold Small; omega)
  simpa using this
def inO (l : List Col) (col : ByteArray) (v : Val) (o : ORow) : Bool := inS l col v o.vals
/-- two owned rows that share no block -/
def Apart (v1 v2 : Value) : Prop := ∀ g, v1.ownBlock = some g → v2.ownBlock ≠ some g
def PartsP (w : World) (l1 l2 : List ORow) (e : Ending) (w' : World) : Prop := ∃ v1 v2, e = .returned (.tuple #[v1, v2]) ∧ Aft w w' ∧ w'.ownsRow w.heap.size 34 1 v1 l1.length (l1.flatMap ORow.cells) ∧ w'.ownsRow w.heap.size 34 1 v2 l2.length (l2.flatMap ORow.cells) ∧ Apart v1 v2
theorem filter_succ {α : Type} (f : α → Bool) (l : List α) (k : Nat) (hk : k < l.length) : (l.take (k + 1)).filter f = (l.take k).filter f ++ (if f l[k] then [l[k]] else []) := by
  rw [List.take_succ_eq_append_getElem hk, List.filter_append]
  congr 1
  cases h : f l[k] <;> simp [h]
set_option maxHeartbeats 1000000 in
theorem parts1 (name : ByteArray) (kind : Int) (null : Bool) (s : ByteArray) (b1 : Nat) (w : World) (hb1 : b1 < w.heap.size) (hc1 : w.cell? ⟨b1, 0, none⟩ = some (.string s)) :
    Calls Tryz.prog 108 #[.agg #[.string name, .int .i64 kind, .bool null], .pointer (some ⟨b1, 0, none⟩)] w fun e w' => e = .returned (.bool (eqS name s)) ∧ Aft w w' := by
  go_enter Tryz.func108, Tryz.ntmps108
  go_wp2_with fail
  go_ret
  exact ⟨rfl, (Aft.refl _).alloc _⟩
theorem own_far {w w5 : World} {o : Obj} {b : Nat} {v u : Value} {n : Nat} {xs : List Value} (h : w.ownsRow b 34 1 u n xs) (hd : Apart v u) (hg : (w.alloc o).grownBy w5 v.ownBlock) : w5.ownsRow b 34 1 u n xs :=
  own_kb (own_aft h ((Aft.refl w).alloc o)) (Kb.of_grown hg) fun g hg2 e => hd g e hg2
theorem Apart.symm {v u : Value} (h : Apart v u) : Apart u v := fun g h1 h2 => h g h2 h1
theorem apart_grown {w : World} {b : Nat} {v u : Value} {n m c : Nat} {A' : Option Addr} {xs : List Value} (hd : Apart v u) (h : w.ownsRow b 34 1 u n xs) (hb : ∀ g ∈ (Hd.mk A' m c).blk, v.ownBlock = some g ∨ w.heap.size + 1 ≤ g) : Apart (.slice A' m c) u := fun g h1 h2 => by
  rcases hb g (Hd.mem_blk.2 h1) with h3 | h3
  · exact hd g h3 h2
  · have := (h.lt g h2).2; omega
set_option maxHeartbeats 8000000 in
theorem parts12 (p : Nat) (t : Tab) (OR : List ORow) (v2 v1 v0 : Value) (A : Option Addr) (cap : Nat) (A3 : Option Addr) (cap3 : Nat) (vr : Value) (col : ByteArray) (v : Val) (w : World)
    (hrow : RowAt w p [v0, v1, v2, .slice A t.cols.length cap, vr, .slice A3 OR.length cap3]) (hcol : SlAt w 3 ColR A cap t.cols) (hor : SlAt w 1 ORowR A3 cap3 OR) (hf : ∀ o ∈ OR, besideB formB t.cols o.vals = true) (hn : ∀ o ∈ OR, o.h.n = o.vals.length) (hl : OR.length ≤ 64) :
    Calls Tryz.prog 70 #[.pointer (some ⟨p, 0, none⟩), .string col, .agg #[.int .i64 v.kind, .int .i64 v.int, .string v.text]] w (PartsP w (OR.filter (inO t.cols col v)) (OR.filter fun o => !inO t.cols col v o)) := by
  have hent := enters (P := Tryz.prog) Tryz.func108 (by kernel_rfl) rfl
  obtain ⟨i0, hi, hz0, hz1, hz2⟩ := info_parts info2Row
  have HI := Lib.hid hi
  have HZ0 := Lib.hid hz0
  have HZ1 := Lib.hid hz1
  have HZ2 := Lib.hid hz2
  have HLE := Lib.hid (show ∀ k, ((OR.take k).filter (inO t.cols col v)).length ≤ 64 ∧ ((OR.take k).filter fun o => !inO t.cols col v o).length ≤ 64 from fun k => ⟨Nat.le_trans (List.length_filter_le _ _) (by simp; omega), Nat.le_trans (List.length_filter_le _ _) (by simp; omega)⟩)
  have HROW := Lib.hid hrow
  have HCOL := Lib.hid hcol
  have HOR := Lib.hid hor
  have HFO := Lib.hid hf
  have HNN := Lib.hid hn
  have HEN := Lib.hid hent
  obtain ⟨x, hx⟩ : ∃ x, colAt t.cols col = x := ⟨_, rfl⟩
  have HX := Lib.hid hx
  have p5 := hrow.cell (j := 5) rfl
  have pz := hrow.1
  have lw1 : w.heap.size < w.heap.size + 1 := by omega
  have lw2 : p < w.heap.size + 1 := by omega
  have lw3 : p < w.heap.size + 1 + 1 := by omega
  clear hi hz0 hz1 hz2 hrow hcol hor hf hn hent hx
  go_enter Tryz.func70, Tryz.ntmps70
  go_wp2_with fail
  obtain ⟨W, hW⟩ : ∃ W, W = (w.alloc (.cells #[.string col] 9)).alloc (.cells #[.int .i64 v.kind, .int .i64 v.int, .string v.text] 37) := ⟨_, rfl⟩
  have aW : Aft w W := by rw [hW]; exact ((Aft.refl w).alloc _).alloc _
  have k0 : RowAt W w.heap.size [.string col] := by rw [hW]; exact (box_row2 (c := [.string col]) (Aft.refl _)).aft ((Aft.refl _).alloc _)
  have k1 : RowAt W (w.heap.size + 1) [.int .i64 v.kind, .int .i64 v.int, .string v.text] := by
    rw [hW]
    have := box_row2 (w := w.alloc (.cells #[.string col] 9)) (c := [.int .i64 v.kind, .int .i64 v.int, .string v.text]) (t := 37) (Aft.refl _)
    simpa using this
  have HAW := Lib.hid aW
  have K0 := Lib.hid k0
  have K1 := Lib.hid k1
  rw [← hW]
  clear hW aW k0 k1
  go_loopw [6, 7, 16] (fun v1 v2 i wr => ∃ k : Nat, k ≤ OR.length ∧ i = .int .i64 k ∧ Aft W wr ∧ wr.ownsRow W.heap.size 34 1 v1 ((OR.take k).filter (inO t.cols col v)).length (((OR.take k).filter (inO t.cols col v)).flatMap ORow.cells) ∧ wr.ownsRow W.heap.size 34 1 v2 ((OR.take k).filter fun o => !inO t.cols col v o).length (((OR.take k).filter fun o => !inO t.cols col v o).flatMap ORow.cells) ∧ Apart v1 v2) (fun _ _ i _ => OR.length - (intOf i).toNat)
  case atStart => exact ⟨0, Nat.zero_le _, rfl, Aft.refl _, own_nil _ _ _ _, own_nil _ _ _ _, fun g h => by cases h⟩
  case round =>
    obtain ⟨k, hk, rfl, ha, ho1, ho2, hd⟩ := hrel
    have HA := Lib.hid ha
    have O1 := Lib.hid ho1
    have O2 := Lib.hid ho2
    have HD := Lib.hid hd
    clear ha ho1 ho2 hd p5 pz
    by_cases hlt : k < OR.length
    · obtain ⟨b, off, rfl, hb, c0, hv⟩ := orow_at (orows_aft (HAW.out.trans HA.out) HOR.out) hlt
      have hF := HFO.out _ (List.getElem_mem hlt)
      have HN := Lib.hid (HNN.out _ (List.getElem_mem hlt))
      have HF1 := Lib.hid (filter_succ (inO t.cols col v) OR k hlt)
      have HF2 := Lib.hid (filter_succ (fun o => !inO t.cols col v o) OR k hlt)
      have HV := Lib.hid hv
      have HLL := Lib.hid (show t.cols.length = OR[k].vals.length from ((besideB_iff formB _ _).1 hF).1)
      have rr := HROW.out.aft (HAW.out.trans HA.out)
      have r3 := rr.cell (j := 3) rfl
      have rz := rr.1
      have q0 := (K0.out.aft HA.out).cell (j := 0) rfl
      have C := Lib.hid ((idxCol A cap t.cols 108 #[.pointer (some ⟨w.heap.size, 0, none⟩)] (fun c => eqS c.name col) wr (cols_aft (HAW.out.trans HA.out) HCOL.out) HEN.out (fun w' ha i hi => parts1 _ _ _ col w.heap.size w' (World.block_lt_of_cell? _ _ (ha.cell_kept q0)) (ha.cell_kept q0))).mono (fun e w' ⟨he, hw⟩ => (⟨he.trans (by rw [← HX.out]; rfl), hw⟩ : e = Ending.returned (Value.int .i64 x) ∧ Aft wr w')))
      clear hF hv rr
      go_wp2_with fail
      refine C.out.mono ?_
      rintro e w4 ⟨rfl, a4⟩
      have HA4 := Lib.hid (HA.out.trans a4)
      have O1 := Lib.hid (own_aft O1.out a4)
      have O2 := Lib.hid (own_aft O2.out a4)
      have k10 := (K1.out.aft HA4.out).cell (j := 0) rfl
      have k11 := (K1.out.aft HA4.out).cell (j := 1) rfl
      have k12 := (K1.out.aft HA4.out).cell (j := 2) rfl
      have k1z := (K1.out.aft HA4.out).1
      have HVA := Lib.hid (vals_aft a4 HV.out)
      clear a4 C r3 rz q0 c0 hb
      by_cases hx0 : x < 0
      · have HB := Lib.hid (show inO t.cols col v OR[k] = true by unfold inO inS; rw [HX.out]; simp [hx0])
        rw [HB.out] at HF1 HF2
        have dx : decide (x < 0) = true := decide_eq_true hx0
        go_wp2_with fail
        refine wp_region_lat (by kernel_rfl) (by kernel_rfl) ?_
        repeat (go_big_quiet_step (fail))
        refine wpQuiet_nil ?_
        intro _ hw'
        obtain ⟨z, hw''⟩ := hw'
        subst hw''
        obtain ⟨W9, hW9⟩ : ∃ W9, W9 = lat w4 z := ⟨_, rfl⟩
        have a9 : Aft w4 W9 := by rw [hW9]; exact (Aft.refl w4).lat z
        have O1 := Lib.hid (own_aft O1.out a9)
        have O2 := Lib.hid (own_aft O2.out a9)
        have HAW9 := Lib.hid (HA4.out.trans a9)
        rw [← hW9]
        clear hW9 a9
        go_wp2_with (at_builtin; refine wpList_append_own2 _ rfl (.tmp 37) (.tmp 39) 47 rfl W.heap.size 34 i0 (.slice none 0 0) 1 24 Tryz.underlying47 HI.out HZ0.out HZ1.out HZ2.out rfl (by decide) _ _ _ rfl (own_aft O1.out ((Aft.refl _).alloc _)) (some ⟨W9.heap.size, 0, none⟩) 1 1 [.slice OR[k].h.a OR[k].vals.length OR[k].h.c] rfl rfl ?c0 ?c1 ?c2 ?c3 ?c4 ?c5 ?_)
        case c0 => intro h; cases h
        case c1 =>
          intro ad had j u hj
          injection had with had; subst had
          rw [add_mk, Nat.zero_add]; exact (World.cell?_alloc_at _ _ _ _ rfl).trans (by simpa using hj)
        case c2 => intro u hu; simp only [List.mem_cons, List.not_mem_nil, or_false] at hu; subst hu; simp [Value.oneCell']
        case c3 => have := HLE.out k; unfold maxLen; omega
        case c4 => have := HLE.out k; omega
        case c5 => have := HAW9.out.size; simp; omega
        intro A' cap' w5 hown' hgrow hblk
        have HA5 := Lib.hid (aft_grown (own_aft O1.out ((Aft.refl _).alloc _)) (HAW9.out.alloc _) hgrow)
        have HO5 := Lib.hid hown'
        have HO6 := Lib.hid (show w5.ownsRow W.heap.size 34 1 u7 _ _ from own_far (O2.out) HD.out hgrow)
        have HD6 := Lib.hid (apart_grown HD.out O2.out hblk)
        clear hown' hgrow hblk
        go_wp2_with fail
        go_roundw
        case rel => exact ⟨k + 1, by omega, by go_num, HA5.out, by rw [HF1.out]; simpa [List.flatMap_append, ORow.cells, Hd.v, HN.out] using HO5.out, by rw [HF2.out]; simpa [List.flatMap_append, ORow.cells, Hd.v, HN.out] using HO6.out, HD6.out⟩
        case measure => simp [intOf]; omega
      · obtain ⟨q, rfl⟩ := Int.eq_ofNat_of_zero_le (show 0 ≤ x by omega)
        have hql := colAt_lt HX.out
        have hqr : q < OR[k].vals.length := by have := HLL.out; omega
        obtain ⟨b8, off8, hB8, hb8, v0', v1', v2', _⟩ := val_at HVA.out hqr
        have dx : decide ((q : Int) < 0) = false := decide_eq_false (by omega)
        have hq0 : (0 : Int) ≤ (q : Int) := by omega
        have hq1 : (q : Int) < (OR[k].vals.length : Int) := by omega
        obtain ⟨bb, hbb⟩ : ∃ b, eqV OR[k].vals[q] v = b := ⟨_, rfl⟩
        have HB := Lib.hid (show inO t.cols col v OR[k] = bb by unfold inO inS; rw [HX.out, valAt_get hqr, hbb, dx]; rfl)
        rw [HB.out] at HF1 HF2
        have h3 : eqV3 OR[k].vals[q].kind OR[k].vals[q].int OR[k].vals[q].text v.kind v.int v.text = bb := hbb
        have HB8 := Lib.hid hB8
        rw [hB8]
        clear hx0 hbb hB8
        cases bb
        · go_wp2_with fail
          refine wp_region_lat (by kernel_rfl) (by kernel_rfl) ?_
          repeat (go_big_quiet_step (fail))
          refine wpQuiet_nil ?_
          intro _ hw'
          obtain ⟨z, hw''⟩ := hw'
          subst hw''
          obtain ⟨W9, hW9⟩ : ∃ W9, W9 = lat w4 z := ⟨_, rfl⟩
          have a9 : Aft w4 W9 := by rw [hW9]; exact (Aft.refl w4).lat z
          have O1 := Lib.hid (own_aft O1.out a9)
          have O2 := Lib.hid (own_aft O2.out a9)
          have HAW9 := Lib.hid (HA4.out.trans a9)
          rw [← hW9]
          clear hW9 a9
          go_wp2_with (at_builtin; refine wpList_append_own2 _ rfl (.tmp 41) (.tmp 43) 47 rfl W.heap.size 34 i0 (.slice none 0 0) 1 24 Tryz.underlying47 HI.out HZ0.out HZ1.out HZ2.out rfl (by decide) _ _ _ rfl (own_aft O2.out ((Aft.refl _).alloc _)) (some ⟨W9.heap.size, 0, none⟩) 1 1 [.slice (some ⟨b8, off8, none⟩) OR[k].vals.length OR[k].h.c] rfl rfl ?c0 ?c1 ?c2 ?c3 ?c4 ?c5 ?_)
          case c0 => intro h; cases h
          case c1 =>
            intro ad had j u hj
            injection had with had; subst had
            rw [add_mk, Nat.zero_add]; exact (World.cell?_alloc_at _ _ _ _ rfl).trans (by simpa using hj)
          case c2 => intro u hu; simp only [List.mem_cons, List.not_mem_nil, or_false] at hu; subst hu; simp [Value.oneCell']
          case c3 => have := HLE.out k; unfold maxLen; omega
          case c4 => have := HLE.out k; omega
          case c5 => have := HAW9.out.size; simp; omega
          intro A' cap' w5 hown' hgrow hblk
          have HA5 := Lib.hid (aft_grown (own_aft O2.out ((Aft.refl _).alloc _)) (HAW9.out.alloc _) hgrow)
          have HO5 := Lib.hid hown'
          have HO6 := Lib.hid (show w5.ownsRow W.heap.size 34 1 u6 _ _ from own_far (O1.out) HD.out.symm hgrow)
          have HD6 := Lib.hid (apart_grown HD.out.symm O1.out hblk)
          clear hown' hgrow hblk
          go_wp2_with fail
          go_roundw
          case rel => exact ⟨k + 1, by omega, by go_num, HA5.out, by rw [HF1.out]; simpa [List.flatMap_append, ORow.cells, Hd.v, HN.out, HB8.out] using HO6.out, by rw [HF2.out]; simpa [List.flatMap_append, ORow.cells, Hd.v, HN.out, HB8.out] using HO5.out, HD6.out.symm⟩
          case measure => simp [intOf]; omega
        · go_wp2_with fail
          refine wp_region_lat (by kernel_rfl) (by kernel_rfl) ?_
          repeat (go_big_quiet_step (fail))
          refine wpQuiet_nil ?_
          intro _ hw'
          obtain ⟨z, hw''⟩ := hw'
          subst hw''
          obtain ⟨W9, hW9⟩ : ∃ W9, W9 = lat w4 z := ⟨_, rfl⟩
          have a9 : Aft w4 W9 := by rw [hW9]; exact (Aft.refl w4).lat z
          have O1 := Lib.hid (own_aft O1.out a9)
          have O2 := Lib.hid (own_aft O2.out a9)
          have HAW9 := Lib.hid (HA4.out.trans a9)
          rw [← hW9]
          clear hW9 a9
          go_wp2_with (at_builtin; refine wpList_append_own2 _ rfl (.tmp 37) (.tmp 39) 47 rfl W.heap.size 34 i0 (.slice none 0 0) 1 24 Tryz.underlying47 HI.out HZ0.out HZ1.out HZ2.out rfl (by decide) _ _ _ rfl (own_aft O1.out ((Aft.refl _).alloc _)) (some ⟨W9.heap.size, 0, none⟩) 1 1 [.slice (some ⟨b8, off8, none⟩) OR[k].vals.length OR[k].h.c] rfl rfl ?c0 ?c1 ?c2 ?c3 ?c4 ?c5 ?_)
          case c0 => intro h; cases h
          case c1 =>
            intro ad had j u hj
            injection had with had; subst had
            rw [add_mk, Nat.zero_add]; exact (World.cell?_alloc_at _ _ _ _ rfl).trans (by simpa using hj)
          case c2 => intro u hu; simp only [List.mem_cons, List.not_mem_nil, or_false] at hu; subst hu; simp [Value.oneCell']
          case c3 => have := HLE.out k; unfold maxLen; omega
          case c4 => have := HLE.out k; omega
          case c5 => have := HAW9.out.size; simp; omega
          intro A' cap' w5 hown' hgrow hblk
          have HA5 := Lib.hid (aft_grown (own_aft O1.out ((Aft.refl _).alloc _)) (HAW9.out.alloc _) hgrow)
          have HO5 := Lib.hid hown'
          have HO6 := Lib.hid (show w5.ownsRow W.heap.size 34 1 u7 _ _ from own_far (O2.out) HD.out hgrow)
          have HD6 := Lib.hid (apart_grown HD.out O2.out hblk)
          clear hown' hgrow hblk
          go_wp2_with fail
          go_roundw
          case rel => exact ⟨k + 1, by omega, by go_num, HA5.out, by rw [HF1.out]; simpa [List.flatMap_append, ORow.cells, Hd.v, HN.out, HB8.out] using HO5.out, by rw [HF2.out]; simpa [List.flatMap_append, ORow.cells, Hd.v, HN.out, HB8.out] using HO6.out, HD6.out⟩
          case measure => simp [intOf]; omega
    · have e1 : OR.take k = OR := List.take_of_length_le (by omega)
      have o1 := O1.out
      have o2 := O2.out
      rw [e1] at o1 o2
      have HO1 := Lib.hid o1
      have HO2 := Lib.hid o2
      clear o1 o2 e1
      go_wp2_with fail
      go_ret2
      exact ⟨_, _, rfl, HAW.out.trans HA.out, own_down HO1.out HAW.out.size, own_down HO2.out HAW.out.size, HD.out⟩
end Go.Proofs.YtiadkchlkdaceaaGreat

namespace Go.Proofs.YtiadkchlkdaceaaGreat
open Go.RowKit
set_option maxRecDepth 100000
set_option linter.unusedVariables false
def RowsP (w : World) (l : List (List Val)) (e : Ending) (w' : World) : Prop :=
  ∃ h R, R.map ORow.vals = l ∧ e = .returned (.slice h.a l.length h.c) ∧ Aft w w' ∧ RowsIn w' w.heap.size h R ∧ (h.blk ++ R.flatMap (·.h.blk)).Nodup
theorem rows_push {wr w4 w5 : World} {B n : Nat} {h : Hd} {R : List ORow} {o : ORow} {A' : Option Addr} {cap' : Nat} {ob : Obj} (r : RowsIn wr B h R) (nd : (h.blk ++ R.flatMap (·.h.blk)).Nodup) (a4 : Aft wr w4) (ho : w4.ownsRow wr.heap.size 37 3 o.h.v o.vals.length (o.vals.flatMap cellsV)) (hB : B ≤ wr.heap.size)
    (hg : (w4.alloc ob).grownBy w5 h.v.ownBlock) (hn : n = R.length + 1) (hown : w5.ownsRow B 34 1 (.slice A' n cap') n (R.flatMap ORow.cells ++ [o.h.v])) (hblk : ∀ g ∈ (Hd.mk A' n cap').blk, h.v.ownBlock = some g ∨ w4.heap.size + 1 ≤ g) :
    RowsIn w5 B ⟨A', n, cap'⟩ (R ++ [o]) ∧ ((Hd.mk A' n cap').blk ++ (R ++ [o]).flatMap (·.h.blk)).Nodup := by
  have k := Kb.of_grown hg
  have hlt := r.lt
  have hnd := List.nodup_append.1 nd
  have hz := a4.size
  have hol := blk_lt ho
  refine ⟨⟨?_, fun x hx => ?_⟩, ?_⟩
  · have e : (R ++ [o]).length = n := by simp [hn]
    rw [e]
    simpa [List.flatMap_append, ORow.cells, Hd.v] using hown
  · rcases List.mem_append.1 hx with hx | hx
    · refine own_kb (own_aft (r.each x hx) (a4.alloc ob)) k fun g hg2 e => ?_
      exact hnd.2.2 g (Hd.mem_blk.2 e) g (List.mem_flatMap.2 ⟨x, hx, Hd.mem_blk.2 hg2⟩) rfl
    · rw [List.mem_singleton] at hx
      subst hx
      refine own_down (own_kb (own_aft ho ((Aft.refl w4).alloc ob)) k fun g hg2 e => ?_) hB
      have h1 := (hlt g (List.mem_append.2 (.inl (Hd.mem_blk.2 e)))).2
      have h2 := (hol g (Hd.mem_blk.2 hg2)).1
      omega
  · rw [List.flatMap_append, List.flatMap_cons, List.flatMap_nil, List.append_nil]
    have n2 : (R.flatMap (·.h.blk) ++ o.h.blk).Nodup := nodup_more (N := wr.heap.size) hnd.2.1 (blk_nodup _) (fun g hg => (hlt g (List.mem_append.2 (.inr hg))).2) (fun g hg => (hol g hg).1)
    refine List.nodup_append.2 ⟨blk_nodup _, n2, fun a ha b hb e => ?_⟩
    subst e
    rcases hblk a ha with h1 | h1
    · have h2 := hlt a (List.mem_append.2 (.inl (Hd.mem_blk.2 h1)))
      rcases List.mem_append.1 hb with hb | hb
      · exact hnd.2.2 a (Hd.mem_blk.2 h1) a hb rfl
      · have := (hol a hb).1; omega
    · rcases List.mem_append.1 hb with hb | hb
      · have := (hlt a (List.mem_append.2 (.inr hb))).2; omega
      · have := (hol a hb).2; omega
/-- a copied row -/
theorem cloneRow (A : Option Addr) (cap : Nat) (l : List Val) (w0 w : World) (ha : Aft w0 w) (h : SlAt w0 3 ValR A cap l) (hb : l.length ≤ 1000000) :
    Calls Tryz.prog 69 #[.slice A l.length cap] w fun e w' => ∃ h : Hd, e = .returned (.slice h.a l.length h.c) ∧ Aft w w' ∧ w'.ownsRow w.heap.size 37 3 h.v l.length (l.flatMap cellsV) :=
  (clone2Val A cap l w0 w ha h hb).mono fun e w' ⟨v, css, he, a, ho, hc⟩ => by
    rw [chunks_flat (f := cellsV) (fun cs x hx => hx.1) hc] at ho
    obtain ⟨hd, rfl, hn⟩ := own_head ho
    exact ⟨hd, he.trans (by rw [own_slice ho]), a, ho⟩
theorem rowsIn_nil (w : World) (B : Nat) : RowsIn w B ⟨none, 0, 0⟩ [] := ⟨own_nil _ _ _ _, fun o h => by cases h⟩
set_option maxHeartbeats 4000000 in
theorem copied12 (l : List (List Val)) (A : Option Addr) (cap : Nat) (w : World) (h : SlAt w 1 RowsR A cap l) (hl : l.length ≤ 64) (hr : ∀ r ∈ l, r.length ≤ 1000000) :
    Calls Tryz.prog 41 #[.slice A l.length cap] w (RowsP w l) := by
  obtain ⟨i0, hi, hz0, hz1, hz2⟩ := info_parts info2Row
  have HI := Lib.hid hi
  have HZ0 := Lib.hid hz0
  have HZ1 := Lib.hid hz1
  have HZ2 := Lib.hid hz2
  have HH := Lib.hid h
  have HR := Lib.hid hr
  clear hi hz0 hz1 hz2 h hr
  go_enter Tryz.func41, Tryz.ntmps41
  go_wp2_with fail
  go_loopw [3, 8] (fun v i wr => ∃ (k : Nat) (h : Hd) (R : List ORow), k ≤ l.length ∧ i = .int .i64 k ∧ v = .slice h.a k h.c ∧ R.map ORow.vals = l.take k ∧ Aft w wr ∧ RowsIn wr w.heap.size h R ∧ (h.blk ++ R.flatMap (·.h.blk)).Nodup) (fun _ i _ => l.length - (intOf i).toNat)
  case atStart => exact ⟨0, ⟨none, 0, 0⟩, [], Nat.zero_le _, rfl, rfl, rfl, Aft.refl _, rowsIn_nil _ _, by simp [blk_nil]⟩
  case round =>
    obtain ⟨k, h, R, hk, rfl, rfl, hR, ha, hin, nd⟩ := hrel
    have HA := Lib.hid ha
    have HIN := Lib.hid hin
    have HND := Lib.hid nd
    have HRR := Lib.hid hR
    have HL := Lib.hid (show R.length = k by have := congrArg List.length hR; simpa [Nat.min_eq_left hk] using this)
    clear ha hin nd hR
    by_cases hlt : k < l.length
    · obtain ⟨b, off, A2, cap2, rfl, hb, c0, hv⟩ := row_at (rows_aft HA.out HH.out) hlt
      have C := Lib.hid (cloneRow A2 cap2 l[k] wr wr (Aft.refl _) hv (HR.out _ (List.getElem_mem hlt)))
      clear hv
      go_wp2_with fail
      refine C.out.mono ?_
      rintro e w4 ⟨h4, rfl, a4, ho4⟩
      have HA4 := Lib.hid a4
      have HO4 := Lib.hid ho4
      clear a4 ho4 c0 hb C
      go_wp2_with (at_builtin; refine wpList_append_own2 _ rfl (.tmp 12) (.tmp 15) 47 rfl w.heap.size 34 i0 (.slice none 0 0) 1 24 Tryz.underlying47 HI.out HZ0.out HZ1.out HZ2.out rfl (by decide) (.slice h.a k h.c) k (R.flatMap ORow.cells) rfl ?c6 (some ⟨w4.heap.size, 0, none⟩) 1 1 [.slice h4.a l[k].length h4.c] rfl rfl ?c0 ?c1 ?c2 ?c3 ?c4 ?c5 ?_)
      case c6 =>
        have := own_aft HIN.out.own (HA4.out.alloc (.cells #[.slice h4.a l[k].length h4.c] 34))
        rw [own_slice HIN.out.own, HL.out] at this
        exact this
      case c0 => intro h; cases h
      case c1 =>
        intro ad had j u hj
        injection had with had; subst had
        rw [add_mk, Nat.zero_add]; exact (World.cell?_alloc_at _ _ _ _ rfl).trans (by simpa using hj)
      case c2 => intro u hu; simp only [List.mem_cons, List.not_mem_nil, or_false] at hu; subst hu; simp [Value.oneCell']
      case c3 => unfold maxLen; omega
      case c4 => omega
      case c5 => have := HA.out.size; have := HA4.out.size; simp; omega
      intro A' cap' w5 hown' hgrow hblk
      have e0 : h.v = .slice h.a k h.c := by rw [own_slice HIN.out.own, HL.out]
      have hp := rows_push (o := ⟨l[k], h4⟩) (n := k + 1) HIN.out HND.out HA4.out HO4.out HA.out.size (by rw [e0]; exact hgrow) (by rw [HL.out]) (by simpa [own_slice HO4.out] using hown') (by rw [e0]; intro g hg; simpa using hblk g hg)
      have HP := Lib.hid hp
      have HA5 := Lib.hid (show Aft w w5 from aft_grown (by rw [← e0]; exact own_aft HIN.out.own (HA4.out.alloc _)) ((HA.out.trans HA4.out).alloc _) hgrow)
      have HT := Lib.hid (show (R ++ [(⟨l[k], h4⟩ : ORow)]).map ORow.vals = l.take (k + 1) by rw [List.map_append, HRR.out, List.take_succ_eq_append_getElem hlt]; rfl)
      clear hown' hgrow hblk hp e0
      go_wp2_with fail
      go_roundw
      case rel => exact ⟨k + 1, ⟨A', k + 1, cap'⟩, _, by omega, by go_num, rfl, HT.out, HA5.out, HP.out.1, HP.out.2⟩
      case measure => simp [intOf]; omega
    · have e1 : l.take k = l := List.take_of_length_le (by omega)
      have e2 : k = l.length := by omega
      have HRE := Lib.hid (show R.map ORow.vals = l by rw [HRR.out, e1])
      have HK := Lib.hid e2
      clear e1 e2
      go_wp2_with fail
      go_ret
      exact ⟨h, R, HRE.out, by rw [← HK.out]; rfl, HA.out, HIN.out, HND.out⟩
end Go.Proofs.YtiadkchlkdaceaaGreat

namespace Go.Proofs.YtiadkchlkdaceaaGreat
open Go.RowKit Go.Deep
set_option maxRecDepth 100000
set_option linter.unusedVariables false
def stoBlks (s : Nat) (hl : Hd) (L : List OShf) : List Nat := s :: (hl.blk ++ L.flatMap OShf.blks)
def rowBlks (h : Hd) (R : List ORow) : List Nat := h.blk ++ R.flatMap (·.h.blk)
/-- what an operation leaves -/
def DoQ (w : World) (B s : Nat) (hl : Hd) (L : List OShf) (r : List Shf × List (List Val) × Int) (e : Ending) (w' : World) : Prop :=
  ∃ L' h R, storeS L' = r.1 ∧ R.map ORow.vals = r.2.1 ∧ e = .returned (.tuple #[.slice h.a r.2.1.length h.c, .int .i64 r.2.2]) ∧ Kb (fun g => g ∈ stoBlks s hl L) w w' ∧ StoIn w' B s hl L' ∧ L'.map OShf.x = L.map OShf.x ∧
    RowsIn w' B h R ∧ (rowBlks h R).Nodup ∧ (∀ g ∈ rowBlks h R, g ∉ stoBlks s hl L') ∧ (∀ g ∈ stoBlks s hl L', g ∈ stoBlks s hl L ∨ w.heap.size ≤ g) ∧ ∀ g ∈ rowBlks h R, g ∈ stoBlks s hl L ∨ w.heap.size ≤ g
def insS (S : List Shf) (q : Nat) (row : List Val) : List Shf × List (List Val) × Int := if wrongS S q row ≠ 0 then (S, [], wrongS S q row) else (putS S q ((shfN S q).rows ++ [row]), [row], 0)
section
variable {w w' : World} {B s : Nat} {hl : Hd} {L : List OShf}
theorem doQ_no (hin : StoIn w B s hl L) (a : Aft w w') (c : Int) : DoQ w B s hl L (storeS L, [], c) (.returned (.tuple #[.slice none 0 0, .int .i64 c])) w' :=
  ⟨L, ⟨none, 0, 0⟩, [], rfl, rfl, rfl, Kb.of_aft a, hin.aft a, rfl, rowsIn_nil _ _, by simp [rowBlks, blk_nil], by simp [rowBlks, blk_nil], fun g hg => .inl hg, by simp [rowBlks, blk_nil]⟩
theorem storeS_set {q : Nat} {R' : List ORow} {h' : Hd} (hq : q < L.length) : storeS (L.set q ⟨L[q].p, L[q].x, R', h'⟩) = putS (storeS L) q (R'.map (·.vals)) := by
  unfold storeS putS
  rw [List.map_set, shfN_get (by simpa using hq), List.getElem_map]
  rfl
theorem turn_x {q : Nat} {R' : List ORow} {h' : Hd} (hq : q < L.length) : (L.set q ⟨L[q].p, L[q].x, R', h'⟩).map OShf.x = L.map OShf.x := by
  rw [List.map_set]
  have : (L.map OShf.x)[q]'(by simpa using hq) = L[q].x := by simp
  rw [← this, List.set_getElem_self]
theorem turn_sub2 {q : Nat} {R' : List ORow} {h' : Hd} (hq : q < L.length) : ∀ g ∈ stoBlks s hl (L.set q ⟨L[q].p, L[q].x, R', h'⟩), g ∈ stoBlks s hl L ∨ g ∈ rowBlks h' R' := fun g hg => by
  unfold stoBlks at hg ⊢
  simp only [List.mem_cons, List.mem_append, List.mem_flatMap] at hg ⊢
  rcases hg with h | h | ⟨y, hy, h⟩
  · exact .inl (.inl h)
  · exact .inl (.inr (.inl h))
  · rcases List.mem_or_eq_of_mem_set hy with hy | rfl
    · exact .inl (.inr (.inr ⟨y, hy, h⟩))
    · unfold OShf.blks OShf.rblk at h
      simp only [List.mem_cons, List.mem_append] at h
      rcases h with h | h | h
      · exact .inl (.inr (.inr ⟨L[q], List.getElem_mem hq, by unfold OShf.blks; simp [h]⟩))
      · exact .inl (.inr (.inr ⟨L[q], List.getElem_mem hq, by unfold OShf.blks; simp [h]⟩))
      · exact .inr (by unfold rowBlks; exact List.mem_append.2 h)
theorem turn_sub {N q : Nat} {R' : List ORow} {h' : Hd} (hq : q < L.length) (hb : ∀ g ∈ rowBlks h' R', g ∈ stoBlks s hl L ∨ N ≤ g) : ∀ g ∈ stoBlks s hl (L.set q ⟨L[q].p, L[q].x, R', h'⟩), g ∈ stoBlks s hl L ∨ N ≤ g := fun g hg => by
  rcases turn_sub2 hq g hg with h | h
  · exact .inl h
  · exact hb g h
theorem mem_sto {q : Nat} (hq : q < L.length) {g : Nat} (h : g ∈ L[q].blks) : g ∈ stoBlks s hl L := by
  unfold stoBlks
  simp only [List.mem_cons, List.mem_append, List.mem_flatMap]
  exact .inr (.inr ⟨L[q], List.getElem_mem hq, h⟩)
theorem nodup_of {α : Type} {f : α → List Nat} : ∀ {l : List α} {x : α}, (l.flatMap f).Nodup → x ∈ l → (f x).Nodup
  | a :: l, x, h, hx => by
    rw [List.flatMap_cons] at h
    rcases List.mem_cons.1 hx with rfl | hx
    · exact (List.nodup_append.1 h).1
    · exact nodup_of (List.nodup_append.1 h).2.1 hx
theorem SlAt.kbR {α : Type} {P : Nat → Prop} {w w' : World} {size : Nat} {R : World → List Value → α → Prop} {A : Option Addr} {cap : Nat} {l : List α} (h : SlAt w size R A cap l) (k : Kb P w w') (hP : ∀ b off, A = some ⟨b, off, none⟩ → 0 < l.length → ¬ P b) (hR : ∀ cs x, R w cs x → R w' cs x) : SlAt w' size R A cap l :=
  ⟨h.1, h.2.1, fun i hi => by
    obtain ⟨b, off, cs, hA, hb, hl, hr, hc⟩ := h.2.2 i hi
    have e := k.block b hb (hP b off hA (by omega))
    refine ⟨b, off, cs, hA, Nat.lt_of_lt_of_le hb k.size, hl, hR _ _ hr, fun j hj => ?_⟩
    rw [← hc j hj]
    unfold World.cell?
    simp only [e]⟩
/-- a box is a row of our own of one -/
theorem own_boxS (w : World) (B : Nat) (v : Value) (hv : v.oneCell' = true) (hB : B ≤ w.heap.size) : (w.alloc (.cells #[v] 34)).ownsRow B 34 1 (.slice (some ⟨w.heap.size, 0, none⟩) 1 1) 1 [v] :=
  ⟨rfl, .inr ⟨w.heap.size, 1, #[v], rfl, hB, heap_alloc_new w _, by omega, by unfold maxLen; omega, by simp, by simp⟩⟩
end
theorem wrong_zero {S : List Shf} {q : Nat} {row : List Val} (h : wrongS S q row = 0) : besideB formB (shfN S q).t.cols row = true ∧ (shfN S q).rows.length < 64 := by
  unfold wrongS at h
  split at h
  · rename_i h1; exact absurd h h1
  · rename_i h1
    split at h
    · omega
    · rename_i h2
      exact ⟨fitE_zero (by omega), by omega⟩
end Go.Proofs.YtiadkchlkdaceaaGreat

namespace Go.Proofs.YtiadkchlkdaceaaGreat
open Go.RowKit Go.Deep
set_option maxRecDepth 100000
set_option linter.unusedVariables false
def goneS (S : List Shf) (q : Nat) (col : ByteArray) (v : Val) : List (List Val) := (shfN S q).rows.filter (inS (shfN S q).t.cols col v)
def leftS (S : List Shf) (q : Nat) (col : ByteArray) (v : Val) : List (List Val) := (shfN S q).rows.filter fun r => !inS (shfN S q).t.cols col v r
def chooseS (S : List Shf) (q : Nat) (col : ByteArray) (v : Val) : List Shf × List (List Val) × Int := (S, goneS S q col v, 0)
def removeS (S : List Shf) (q : Nat) (col : ByteArray) (v : Val) : List Shf × List (List Val) × Int := if heldS S q (leftS S q col v) (goneS S q col v) then (S, [], 113) else (putS S q (leftS S q col v), goneS S q col v, 0)
theorem filter_inO (l : List Col) (col : ByteArray) (v : Val) (R : List ORow) : (R.filter (inO l col v)).map ORow.vals = (R.map ORow.vals).filter (inS l col v) := by
  rw [List.filter_map]; rfl
theorem filter_notO (l : List Col) (col : ByteArray) (v : Val) (R : List ORow) : (R.filter fun o => !inO l col v o).map ORow.vals = (R.map ORow.vals).filter fun r => !inS l col v r := by
  rw [List.filter_map]; rfl
theorem flatMap_sub {α β : Type} {f : α → List β} : ∀ {l m : List α}, l.Sublist m → (l.flatMap f).Sublist (m.flatMap f)
  | _, _, .slnil => List.Sublist.refl _
  | _, _, .cons a h => by rw [List.flatMap_cons]; exact (flatMap_sub h).trans (List.sublist_append_right _ _)
  | _, _, .cons_cons a h => by rw [List.flatMap_cons, List.flatMap_cons]; exact (List.Sublist.refl _).append (flatMap_sub h)
theorem filter_apart {α β : Type} {f : α → List β} (p : α → Bool) : ∀ {l : List α}, (l.flatMap f).Nodup → ∀ g ∈ (l.filter p).flatMap f, g ∉ (l.filter fun x => !p x).flatMap f
  | [], _, g, h => by cases h
  | a :: l, nd, g, h => by
    rw [List.flatMap_cons] at nd
    have n1 := List.nodup_append.1 nd
    have ih := filter_apart p n1.2.1 g
    have s1 : ∀ (q : α → Bool) g, g ∈ (l.filter q).flatMap f → g ∈ l.flatMap f := fun q g h => (flatMap_sub List.filter_sublist).subset h
    by_cases hp : p a = true
    · rw [List.filter_cons_of_pos hp, List.flatMap_cons] at h
      rw [List.filter_cons_of_neg (by simp [hp])]
      rcases List.mem_append.1 h with h | h
      · exact fun h2 => n1.2.2 g h g (s1 _ g h2) rfl
      · exact ih h
    · rw [List.filter_cons_of_neg hp] at h
      rw [List.filter_cons_of_pos (by simp [hp]), List.flatMap_cons]
      intro h2
      rcases List.mem_append.1 h2 with h2 | h2
      · exact n1.2.2 g h2 g (s1 _ g h) rfl
      · exact ih h h2
section
variable {w w' : World} {B s : Nat} {hl : Hd} {L : List OShf}
theorem turn_out {q : Nat} {h' : Hd} {R' : List ORow} (h : StoIn w B s hl L) (hq : q < L.length) : ∀ g ∈ L[q].rblk, g ∈ stoBlks s hl (L.set q ⟨L[q].p, L[q].x, R', h'⟩) → g ∈ rowBlks h' R' := fun g hg hm => by
  have hnd := h.nd
  have hsplit : L = L.take q ++ L[q] :: L.drop (q + 1) := by rw [List.getElem_cons_drop, List.take_append_drop]
  have hset : L.set q ⟨L[q].p, L[q].x, R', h'⟩ = L.take q ++ (⟨L[q].p, L[q].x, R', h'⟩ : OShf) :: L.drop (q + 1) := List.set_eq_take_append_cons_drop.trans (by rw [if_pos hq])
  have hfl : L.flatMap OShf.blks = (L.take q).flatMap OShf.blks ++ (L[q].blks ++ (L.drop (q + 1)).flatMap OShf.blks) := by
    conv => lhs; rw [hsplit]
    rw [List.flatMap_append, List.flatMap_cons]
  unfold stoBlks at hm
  rw [hset, List.flatMap_append, List.flatMap_cons] at hm
  rw [hfl] at hnd
  obtain ⟨Z, hZ⟩ : ∃ Z, (L.take q).flatMap OShf.blks = Z := ⟨_, rfl⟩
  obtain ⟨C, hC⟩ : ∃ C, (L.drop (q + 1)).flatMap OShf.blks = C := ⟨_, rfl⟩
  rw [hZ, hC] at hm hnd
  have nd1 := List.nodup_cons.1 hnd
  have nd2 := List.nodup_append.1 nd1.2
  have nd3 := List.nodup_append.1 nd2.2.1
  have nd4 := List.nodup_append.1 nd3.2.1
  have hgb : g ∈ L[q].blks := by unfold OShf.blks; simp [hg]
  have n5 := nd4.1
  unfold OShf.blks at n5
  rcases List.mem_cons.1 hm with rfl | hm
  · exact absurd (List.mem_append.2 (.inr (List.mem_append.2 (.inr (List.mem_append.2 (.inl hgb)))))) nd1.1
  · rcases List.mem_append.1 hm with hm | hm
    · exact absurd rfl (nd2.2.2 g hm g (List.mem_append.2 (.inr (List.mem_append.2 (.inl hgb)))))
    · rcases List.mem_append.1 hm with hm | hm
      · exact absurd rfl (nd3.2.2 g hm g (List.mem_append.2 (.inl hgb)))
      · rcases List.mem_append.1 hm with hm | hm
        · unfold OShf.blks at hm
          rcases List.mem_cons.1 hm with rfl | hm
          · exact absurd (List.mem_append.2 (.inr hg)) (List.nodup_cons.1 n5).1
          · rcases List.mem_append.1 hm with hm | hm
            · exact absurd rfl ((List.nodup_append.1 (List.nodup_cons.1 n5).2).2.2 g hm g hg)
            · exact hm
        · exact absurd rfl (nd4.2.2 g hgb g hm)
/-- what a shelf hands to its parts -/
structure Parted (w : World) (y : OShf) : Prop where
  row : RowAt w y.p [.string y.x.t.schema, .string y.x.t.name, .string y.x.t.owner, .slice y.x.hc.a y.x.t.cols.length y.x.hc.c, .slice y.x.hr.a y.x.t.rules.length y.x.hr.c, .slice y.hr.a y.rows.length y.hr.c]
  cols : SlAt w 3 ColR y.x.hc.a y.x.hc.c y.x.t.cols
  rows : SlAt w 1 ORowR y.hr.a y.hr.c y.rows
  form : ∀ o ∈ y.rows, besideB formB y.x.t.cols o.vals = true
  heads : ∀ o ∈ y.rows, o.h.n = o.vals.length
  most : y.rows.length ≤ 64
  small : ∀ o ∈ y.rows, Small (o.vals.length * 16) ∧ ∀ v ∈ o.vals, Small v.text.size
theorem parted {ss : List Sch} (h : StoIn w B s hl L) (ok : SOk (storeS L) ss) (sm : ∀ y ∈ L, SmT y.x.t) {y : OShf} (hy : y ∈ L) : Parted w y := by
  obtain ⟨h1, h2, h3⟩ := ok.shf (x := y.s) (List.mem_map_of_mem hy)
  have hi := h.each y hy
  have hf : ∀ o ∈ y.rows, besideB formB y.x.t.cols o.vals = true := fun o ho => h3 _ (List.mem_map_of_mem ho)
  have hs : ∀ o ∈ y.rows, Small (o.vals.length * 16) ∧ ∀ v ∈ o.vals, Small v.text.size := fun o ho => row_small h2 (hf o ho)
  have hl : y.rows.length ≤ 64 := by simpa [OShf.s] using h1
  refine ⟨?_, hi.tab.cols (sm y hy), hi.rows.oat (by omega) hs, hf, fun o ho => own_n (hi.rows.each o ho), hl, hs⟩
  have e := hi.row
  unfold OShf.cells at e
  rw [OTab.cells_of hi.tab rfl, own_slice hi.rows.own] at e
  exact e
/-- rows among a shelf's rows, in a list of their own -/
theorem rows_of {y : OShf} {R : List ORow} {B2 : Nat} {h : Hd} (hi : ShfIn w B y) (hs : ∀ o ∈ R, o ∈ y.rows) (ho : w.ownsRow B2 34 1 h.v R.length (R.flatMap ORow.cells)) (hB : B ≤ B2) : RowsIn w B h R :=
  ⟨own_down ho hB, fun o h => hi.rows.each o (hs o h)⟩
end
end Go.Proofs.YtiadkchlkdaceaaGreat

namespace Go.Proofs.YtiadkchlkdaceaaGreat
open Go.RowKit Go.Deep
set_option maxRecDepth 100000
set_option linter.unusedVariables false
def sK12 : Rul := ⟨⟨#[107]⟩, 2, [⟨#[120]⟩], 0, 0, ⟨#[]⟩, ⟨#[]⟩, ⟨#[]⟩⟩
def sF12 : Rul := ⟨⟨#[102]⟩, 4, [⟨#[122]⟩], 0, 0, ⟨#[115]⟩, ⟨#[116]⟩, ⟨#[107]⟩⟩
def sT12 : Tab := ⟨⟨#[115]⟩, ⟨#[116]⟩, ⟨#[111]⟩, [⟨⟨#[120]⟩, 2, false⟩, ⟨⟨#[121]⟩, 3, true⟩, ⟨⟨#[122]⟩, 2, true⟩], [sF12, sK12]⟩
def sO12 : Objs := ⟨[⟨⟨#[115]⟩, ⟨#[111]⟩⟩], [sT12]⟩
theorem sO12_ok : checkO sO12 = true := by decide +kernel
def nul12 : Val := ⟨1, 0, ⟨#[]⟩⟩
def int12 (n : Int) : Val := ⟨2, n, ⟨#[]⟩⟩
def lay12 (a b : Int) : ROp := ⟨1, ⟨#[]⟩, ⟨#[115]⟩, ⟨#[116]⟩, [int12 a, nul12, if b = 0 then nul12 else int12 b], ⟨#[]⟩, ⟨0, 0, ⟨#[]⟩⟩⟩
def drop12 (a : Int) : ROp := ⟨2, ⟨#[]⟩, ⟨#[115]⟩, ⟨#[116]⟩, [], ⟨#[120]⟩, int12 a⟩
theorem lvRop_row {W : World} {p : Nat} {a b c d e f g h i : Value} (R : RowAt W p [a, b, c, d, e, f, g, h, i]) : (loadVar 39 ⟨p, 0, none⟩).run Tryz.prog W = .ok (.agg #[a, b, c, d, e, f, g, h, i]) W := by
  have e0 := R.cell (j := 0) rfl
  have e1 := R.cell (j := 1) rfl
  have e2 := R.cell (j := 2) rfl
  have e3 := R.cell (j := 3) rfl
  have e4 := R.cell (j := 4) rfl
  have e5 := R.cell (j := 5) rfl
  have e6 := R.cell (j := 6) rfl
  have e7 := R.cell (j := 7) rfl
  have e8 := R.cell (j := 8) rfl
  have h := run_lv (P := Tryz.prog) W 39 _ 9 p 0 Tryz.underlying39 rfl (by kernel_rfl) (fun j hj => by
    rw [Nat.zero_add, R.2.1 j (by simpa using hj)]
    simp; omega)
  rw [h]
  simp [List.range_succ, e0, e1, e2, e3, e4, e5, e6, e7, e8]
theorem RowAt.up12 {w : World} {b : Nat} {xs : List Value} {o : Obj} (h : RowAt w b xs) : RowAt (w.alloc o) b xs := h.aft ((Aft.refl _).alloc _)
theorem slAt_two12 {α : Type} {size : Nat} {R : World → List Value → α → Prop} {w : World} {b cap : Nat} (x y : α) (cs ds : List Value) (c : Array Value) (hb : b < w.heap.size) (hc : ∀ o, w.cell? ⟨b, o, none⟩ = c[o]?) (e : c.toList = cs ++ ds) (hf : cs.length = size) (hg : ds.length = size)
    (hR : R w cs x) (hS : R w ds y) (hcap : 2 ≤ cap) : SlAt w size R (some ⟨b, 0, none⟩) cap [x, y] :=
  ⟨hcap, by unfold Small; simp only [List.length_cons, List.length_nil]; decide, fun i hi => by
    have hi2 : i < 2 := hi
    rcases (by omega : i = 0 ∨ i = 1) with rfl | rfl
    · refine ⟨b, 0, cs, rfl, hb, hf, hR, fun j hj => ?_⟩
      rw [hc, ← Array.getElem?_toList, e]
      rw [List.getElem?_append_left (by omega)]
      simp
    · refine ⟨b, 0, ds, rfl, hb, hg, hS, fun j hj => ?_⟩
      rw [hc, ← Array.getElem?_toList, e]
      rw [List.getElem?_append_right (by omega)]
      congr 1
      omega⟩
def OneP12 (w : World) (e : Ending) (w' : World) : Prop := ∃ As caps At capt, e = .returned (.agg #[.slice As 1 caps, .slice At 1 capt]) ∧ Aft w w' ∧ SlAt w' 2 SchR As caps sO12.schemas ∧ SlAt w' 5 TabR At capt sO12.tables
set_option maxHeartbeats 8000000 in
theorem one12 (w : World) : Calls Tryz.prog 42 #[] w (OneP12 w) := by
  have l1 : w.heap.size < w.heap.size + 1 := by omega
  have l2 : w.heap.size < w.heap.size + 1 + 1 := by omega
  have l3 : w.heap.size < w.heap.size + 1 + 1 + 1 := by omega
  have l4 : w.heap.size < w.heap.size + 1 + 1 + 1 + 1 := by omega
  have l5 : w.heap.size < w.heap.size + 1 + 1 + 1 + 1 + 1 := by omega
  have l6 : w.heap.size < w.heap.size + 1 + 1 + 1 + 1 + 1 + 1 := by omega
  have l8 : w.heap.size < w.heap.size + 1 + 1 + 1 + 1 + 1 + 1 + 1 + 1 := by omega
  have l9 : w.heap.size < w.heap.size + 1 + 1 + 1 + 1 + 1 + 1 + 1 + 1 + 1 := by omega
  have l10 : w.heap.size < w.heap.size + 1 + 1 + 1 + 1 + 1 + 1 + 1 + 1 + 1 + 1 := by omega
  have l7 : w.heap.size < w.heap.size + 1 + 1 + 1 + 1 + 1 + 1 + 1 := by omega
  go_enter Tryz.func42, Tryz.ntmps42
  go_wp2_with fail
  refine bodyPost_ret (results_cell (v := .agg #[.slice (some ⟨w.heap.size + 1 + 1 + 1 + 1 + 1 + 1 + 1 + 1, 0, none⟩) 1 1, .slice (some ⟨w.heap.size + 1 + 1 + 1 + 1 + 1 + 1 + 1 + 1 + 1, 0, none⟩) 1 1]) rfl _ rfl ?hl) rfl ?_
  case hl => exact lvObj_row (RowAt.up12 (RowAt.up12 (RowAt.up12 (RowAt.up12 (RowAt.up12 (RowAt.up12 (RowAt.up12 (RowAt.up12 (RowAt.up12 (box_row2 (Aft.refl _)))))))))))
  refine ⟨_, _, _, _, rfl, ((((((((((Aft.refl w).alloc _).alloc _).alloc _).alloc _).alloc _).alloc _).alloc _).alloc _).alloc _).alloc _, ?s, ?t⟩
  case s => exact slAt_one _ [.string ⟨#[115]⟩, .string ⟨#[111]⟩] #[.string ⟨#[115]⟩, .string ⟨#[111]⟩] (by first | (simp; done) | (simp; omega)) (by intro o; (repeat (refine (World.cell?_alloc_past _ _ _ (by first | (simp; done) | (simp; omega))).trans ?_)); exact World.cell?_alloc_at _ _ _ _ (by simp)) rfl rfl ⟨rfl, by unfold Small; decide, by unfold Small; decide⟩ (by omega)
  case t =>
    refine slAt_one _ [.string ⟨#[115]⟩, .string ⟨#[116]⟩, .string ⟨#[111]⟩, .slice (some ⟨w.heap.size + 1 + 1 + 1 + 1 + 1, 0, none⟩) 3 3, .slice (some ⟨w.heap.size + 1 + 1 + 1 + 1 + 1 + 1, 0, none⟩) 2 2] #[.string ⟨#[115]⟩, .string ⟨#[116]⟩, .string ⟨#[111]⟩, .slice (some ⟨w.heap.size + 1 + 1 + 1 + 1 + 1, 0, none⟩) 3 3, .slice (some ⟨w.heap.size + 1 + 1 + 1 + 1 + 1 + 1, 0, none⟩) 2 2] (by first | (simp; done) | (simp; omega)) (by intro o; (repeat (refine (World.cell?_alloc_past _ _ _ (by first | (simp; done) | (simp; omega))).trans ?_)); exact World.cell?_alloc_at _ _ _ _ (by simp)) rfl rfl ⟨_, _, _, _, rfl, ?c, ?r, by unfold Small; decide, by unfold Small; decide, by unfold Small; decide⟩ (by omega)
    case c => exact slAt_box _ colC #[.string ⟨#[120]⟩, .int .i64 2, .bool false, .string ⟨#[121]⟩, .int .i64 3, .bool true, .string ⟨#[122]⟩, .int .i64 2, .bool true] (by first | (simp; done) | (simp; omega)) (by intro o; (repeat (refine (World.cell?_alloc_past _ _ _ (by first | (simp; done) | (simp; omega))).trans ?_)); exact World.cell?_alloc_at _ _ _ _ (by simp)) rfl (fun _ => rfl) (by intro x hx; refine ⟨rfl, ?_⟩; simp [sT12] at hx; rcases hx with rfl | rfl | rfl <;> (unfold Small; decide)) (by unfold Small; decide) (by decide)
    case r =>
      refine slAt_two12 _ _ [.string ⟨#[102]⟩, .int .i64 4, .slice (some ⟨w.heap.size + 1 + 1 + 1, 0, none⟩) 1 1, .int .i64 0, .int .i64 0, .string ⟨#[115]⟩, .string ⟨#[116]⟩, .string ⟨#[107]⟩] [.string ⟨#[107]⟩, .int .i64 2, .slice (some ⟨w.heap.size + 1, 0, none⟩) 1 1, .int .i64 0, .int .i64 0, .string ⟨#[]⟩, .string ⟨#[]⟩, .string ⟨#[]⟩] #[.string ⟨#[102]⟩, .int .i64 4, .slice (some ⟨w.heap.size + 1 + 1 + 1, 0, none⟩) 1 1, .int .i64 0, .int .i64 0, .string ⟨#[115]⟩, .string ⟨#[116]⟩, .string ⟨#[107]⟩, .string ⟨#[107]⟩, .int .i64 2, .slice (some ⟨w.heap.size + 1, 0, none⟩) 1 1, .int .i64 0, .int .i64 0, .string ⟨#[]⟩, .string ⟨#[]⟩, .string ⟨#[]⟩] (by first | (simp; done) | (simp; omega)) (by intro o; (repeat (refine (World.cell?_alloc_past _ _ _ (by first | (simp; done) | (simp; omega))).trans ?_)); exact World.cell?_alloc_at _ _ _ _ (by simp)) rfl rfl rfl ⟨_, _, rfl, ?c1, by unfold Small; decide, by unfold Small; decide, by unfold Small; decide, by unfold Small; decide⟩ ⟨_, _, rfl, ?c2, by unfold Small; decide, by unfold Small; decide, by unfold Small; decide, by unfold Small; decide⟩ (by omega)
      case c1 => exact slAt_one _ [.string ⟨#[122]⟩] #[.string ⟨#[122]⟩] (by first | (simp; done) | (simp; omega)) (by intro o; (repeat (refine (World.cell?_alloc_past _ _ _ (by first | (simp; done) | (simp; omega))).trans ?_)); exact World.cell?_alloc_at _ _ _ _ (by simp)) rfl rfl ⟨rfl, by unfold Small; decide⟩ (by omega)
      case c2 => exact slAt_one _ [.string ⟨#[120]⟩] #[.string ⟨#[120]⟩] (by first | (simp; done) | (simp; omega)) (by intro o; (repeat (refine (World.cell?_alloc_past _ _ _ (by first | (simp; done) | (simp; omega))).trans ?_)); exact World.cell?_alloc_at _ _ _ _ (by simp)) rfl rfl ⟨rfl, by unfold Small; decide⟩ (by omega)
theorem drop12_is (a : Int) (w : World) : Calls Tryz.prog 44 #[.int .i64 a] w fun e w' => e = .returned (.agg #[.int .i64 2, .string ⟨#[]⟩, .string ⟨#[115]⟩, .string ⟨#[116]⟩, .slice none 0 0, .string ⟨#[120]⟩, .int .i64 2, .int .i64 a, .string ⟨#[]⟩]) ∧ Aft w w' := by
  go_enter Tryz.func44, Tryz.ntmps44
  go_wp2_with fail
  refine bodyPost_ret (results_cell (v := .agg #[.int .i64 2, .string ⟨#[]⟩, .string ⟨#[115]⟩, .string ⟨#[116]⟩, .slice none 0 0, .string ⟨#[120]⟩, .int .i64 2, .int .i64 a, .string ⟨#[]⟩]) rfl _ rfl ?hl) rfl ?_
  case hl => exact lvRop_row (box_row2 (Aft.refl _))
  exact ⟨rfl, (Aft.refl _).alloc _⟩
theorem lay12_is (a b : Int) (w : World) : Calls Tryz.prog 43 #[.int .i64 a, .int .i64 b] w fun e w' => ∃ A cap, e = .returned (.agg #[.int .i64 1, .string ⟨#[]⟩, .string ⟨#[115]⟩, .string ⟨#[116]⟩, .slice A 3 cap, .string ⟨#[]⟩, .int .i64 0, .int .i64 0, .string ⟨#[]⟩]) ∧ Aft w w' ∧ SlAt w' 3 ValR A cap (lay12 a b).row ∧ ∀ b off, A = some ⟨b, off, none⟩ → w.heap.size ≤ b := by
  have l1 : w.heap.size < w.heap.size + 1 := by omega
  have l2 : w.heap.size < w.heap.size + 1 + 1 := by omega
  go_enter Tryz.func43, Tryz.ntmps43
  by_cases hb : b = 0
  · subst hb
    go_wp2_with fail
    refine bodyPost_ret (results_cell (v := .agg #[.int .i64 1, .string ⟨#[]⟩, .string ⟨#[115]⟩, .string ⟨#[116]⟩, .slice (some ⟨w.heap.size + 1 + 1 + 1, 0, none⟩) 3 3, .string ⟨#[]⟩, .int .i64 0, .int .i64 0, .string ⟨#[]⟩]) rfl _ rfl ?hl) rfl ?_
    case hl => exact lvRop_row (RowAt.up12 (RowAt.up12 (RowAt.up12 (box_row2 (Aft.refl _)))))
    refine ⟨_, _, rfl, ((((Aft.refl w).alloc _).alloc _).alloc _).alloc _, ?_, fun b off h => by injection h with h; injection h with h1 h2; omega⟩
    exact slAt_box _ cellsV #[.int .i64 2, .int .i64 a, .string ⟨#[]⟩, .int .i64 1, .int .i64 0, .string ⟨#[]⟩, .int .i64 1, .int .i64 0, .string ⟨#[]⟩] (by first | (simp; done) | (simp; omega)) (by intro o; (repeat (refine (World.cell?_alloc_past _ _ _ (by first | (simp; done) | (simp; omega))).trans ?_)); exact World.cell?_alloc_at _ _ _ _ (by simp)) (by simp [lay12, cellsV, int12, nul12]) (fun _ => rfl) (by intro x hx; refine ⟨rfl, ?_⟩; simp [lay12, int12, nul12] at hx; rcases hx with rfl | rfl <;> (unfold Small; exact (Nat.zero_le _ : 0 ≤ 140737488351232))) (by unfold Small lay12; simp only [List.length_cons, List.length_nil]; decide) (by simp [lay12])
  · have e1 : (b == 0) = false := by simpa using hb
    go_wp2_with fail
    refine bodyPost_ret (results_cell (v := .agg #[.int .i64 1, .string ⟨#[]⟩, .string ⟨#[115]⟩, .string ⟨#[116]⟩, .slice (some ⟨w.heap.size + 1 + 1 + 1, 0, none⟩) 3 3, .string ⟨#[]⟩, .int .i64 0, .int .i64 0, .string ⟨#[]⟩]) rfl _ rfl ?hl) rfl ?_
    case hl => exact lvRop_row (RowAt.up12 (RowAt.up12 (RowAt.up12 (box_row2 (Aft.refl _)))))
    refine ⟨_, _, rfl, ((((Aft.refl w).alloc _).alloc _).alloc _).alloc _, ?_, fun b off h => by injection h with h; injection h with h1 h2; omega⟩
    exact slAt_box _ cellsV #[.int .i64 2, .int .i64 a, .string ⟨#[]⟩, .int .i64 1, .int .i64 0, .string ⟨#[]⟩, .int .i64 2, .int .i64 b, .string ⟨#[]⟩] (by first | (simp; done) | (simp; omega)) (by intro o; (repeat (refine (World.cell?_alloc_past _ _ _ (by first | (simp; done) | (simp; omega))).trans ?_)); exact World.cell?_alloc_at _ _ _ _ (by simp)) (by simp [lay12, cellsV, int12, nul12, hb]) (fun _ => rfl) (by intro x hx; refine ⟨rfl, ?_⟩; simp [lay12, int12, nul12, hb] at hx; rcases hx with rfl | rfl | rfl <;> (unfold Small; exact (Nat.zero_le _ : 0 ≤ 140737488351232))) (by unfold Small lay12; simp only [List.length_cons, List.length_nil]; decide) (by simp [lay12])
end Go.Proofs.YtiadkchlkdaceaaGreat

namespace Go.Proofs.YtiadkchlkdaceaaGreat
open Go.RowKit
set_option maxRecDepth 100000
set_option linter.unusedVariables false
theorem null_form12 (c : Col) : formB c nullV = true := by simp [formB, mayV, nullV, emp_nil]
theorem turn_form12 {l m : List Col} {row : List Val} (h1 : besideB formB l row = true) : besideB formB m (turnVs l m row) = true := by
  obtain ⟨hl, hf⟩ := (besideB_iff formB l row).1 h1
  refine besideB_true _ _ _ (by rw [turnVs_len]) fun k h2 h3 => ?_
  rw [show (turnVs l m row)[k] = turn1 l row m[k] by simp [turnVs]]
  by_cases hx : colAt l m[k].name < 0
  · rw [turn1_miss hx]; exact null_form12 _
  obtain ⟨q, hq⟩ := Int.eq_ofNat_of_zero_le (show 0 ≤ colAt l m[k].name by omega)
  have hql := colAt_lt hq
  by_cases hk : l[q].kind = m[k].kind
  · rw [turn1_hit hq hql (by omega) hk]
    have := hf q hql (by omega)
    unfold formB at this ⊢
    rw [← hk]; exact this
  · rw [turn1_other hq hql hk]; exact null_form12 _
theorem putS_tabs (S : List Shf) (q : Nat) (rows : List (List Val)) : (putS S q rows).map (·.t) = S.map (·.t) := by
  unfold putS
  rw [List.map_set]
  refine List.ext_getElem? fun i => ?_
  by_cases h : i = q
  · subst h
    by_cases hl : i < S.length
    · rw [List.getElem?_set_self (by simpa using hl)]
      simp [shfN, List.getElem?_eq_getElem hl]
    · rw [List.getElem?_eq_none (by simp; omega), List.getElem?_eq_none (by simp; omega)]
  · rw [List.getElem?_set_ne (fun e => h e.symm)]
theorem putS_ok {S : List Shf} {ss : List Sch} {q : Nat} {rows : List (List Val)} (h : SOk S ss) (hf : ∀ row ∈ rows, besideB formB (shfN S q).t.cols row = true) (hl : rows.length ≤ 64) : SOk (putS S q rows) ss := by
  refine ⟨by rw [putS_tabs]; exact h.ck, fun x hx row hr => ?_, fun x hx => ?_⟩
  · unfold putS at hx
    rcases List.mem_or_eq_of_mem_set hx with hx | rfl
    · exact h.form x hx row hr
    · exact hf row hr
  · unfold putS at hx
    rcases List.mem_or_eq_of_mem_set hx with hx | rfl
    · exact h.most x hx
    · exact hl
theorem shfN_mem {S : List Shf} {q : Nat} (h : q < S.length) : shfN S q ∈ S := by rw [shfN_get h]; exact List.getElem_mem h
theorem doS_ok {S : List Shf} {ss : List Sch} (x : ROp) (h : SOk S ss) : SOk (doS S x).1 ss := by
  unfold doS
  split
  · exact h
  split
  · exact h
  rename_i hj
  have hq : (shfAt S x.schema x.table).toNat < S.length := by
    have := (idxP_range (fun y : Shf => eqS y.t.schema x.schema && eqS y.t.name x.table) S).2
    unfold shfAt at hj ⊢; omega
  obtain ⟨q, hqe⟩ : ∃ q, (shfAt S x.schema x.table).toNat = q := ⟨_, rfl⟩
  rw [hqe] at hq ⊢
  have hm := shfN_mem hq
  split
  · exact h
  split
  · split
    · exact h
    · rename_i hw
      have hw : wrongS S q x.row = 0 := by simpa using hw
      unfold wrongS at hw
      split at hw
      · rename_i h1; exact absurd hw h1
      rename_i h1
      split at hw
      · omega
      rename_i h2
      refine putS_ok h (fun row hr => ?_) (by simp; omega)
      rcases List.mem_append.1 hr with hr | hr
      · exact h.form _ hm row hr
      · rw [List.mem_singleton] at hr
        subst hr
        exact fitE_zero (by omega)
  · split
    · dsimp only
      split
      · exact h
      · exact putS_ok h (fun row hr => h.form _ hm row (List.mem_filter.1 hr).1) (Nat.le_trans (List.length_filter_le _ _) (h.most _ hm))
    · exact h
theorem loadS_ok {S : List Shf} {ss : List Sch} {o : Objs} (h : SOk S ss) (hk : checkO o = true) : SOk (loadS S o).1 o.schemas := by
  unfold loadS
  rw [if_pos hk]
  have ht : (o.tables.map (turnS S)).map (·.t) = o.tables := by rw [List.map_map]; exact (List.map_congr_left fun a _ => rfl).trans (List.map_id _)
  refine ⟨by rw [ht]; exact hk, fun x hx row hr => ?_, fun x hx => ?_⟩
  · obtain ⟨t, ht2, rfl⟩ := List.mem_map.1 hx
    unfold turnS at hr ⊢
    simp only at hr ⊢
    split at hr
    · cases hr
    · rename_i hj
      obtain ⟨r, hr2, rfl⟩ := List.mem_map.1 hr
      refine turn_form12 (h.form _ (shfN_mem ?_) r hr2)
      have := (idxP_range (fun y : Shf => eqS y.t.schema t.schema && eqS y.t.name t.name) S).2
      unfold shfAt at hj ⊢; omega
  · obtain ⟨t, ht2, rfl⟩ := List.mem_map.1 hx
    unfold turnS
    simp only
    split
    · simp
    · rename_i hj
      rw [List.length_map]
      refine h.most _ (shfN_mem ?_)
      have := (idxP_range (fun y : Shf => eqS y.t.schema t.schema && eqS y.t.name t.name) S).2
      unfold shfAt at hj ⊢; omega
theorem nil_ok : SOk [] [] := ⟨by decide +kernel, fun x hx => by (cases hx), fun x hx => by (cases hx)⟩
def aw0 : List Shf := (loadS [] sO12).1
def aw1 : List Shf := (doS aw0 (lay12 1 0)).1
def aw2 : List Shf := (doS aw1 (lay12 1 0)).1
def aw3 : List Shf := (doS aw2 (lay12 2 3)).1
def aw4 : List Shf := (doS aw3 (lay12 2 2)).1
def aw5 : List Shf := (doS aw4 (lay12 3 2)).1
def aw6 : List Shf := (doS aw5 (drop12 2)).1
def aw7 : List Shf := (doS aw6 (drop12 3)).1
theorem aw_1 : (doS aw0 (lay12 1 0)).2.2 = 0 := by decide +kernel
theorem aw_2 : (doS aw1 (lay12 1 0)).2.2 = 111 := by decide +kernel
theorem aw_3 : (doS aw2 (lay12 2 3)).2.2 = 112 := by decide +kernel
theorem aw_4 : (doS aw3 (lay12 2 2)).2.2 = 0 := by decide +kernel
theorem aw_5 : (doS aw4 (lay12 3 2)).2.2 = 0 := by decide +kernel
theorem aw_6 : (doS aw5 (drop12 2)).2.2 = 113 := by decide +kernel
theorem aw_7 : (doS aw6 (drop12 3)).2.2 = 0 := by decide +kernel
theorem aw_7l : (doS aw6 (drop12 3)).2.1.length = 1 := by decide +kernel
theorem aw_8 : (doS aw7 (drop12 2)).2.2 = 0 := by decide +kernel
end Go.Proofs.YtiadkchlkdaceaaGreat

namespace Go.Proofs.YtiadkchlkdaceaaGreat
open Go.RowKit Go.Deep
set_option maxRecDepth 100000
set_option linter.unusedVariables false
/-- shelves of our own -/
structure ShsIn (w : World) (B : Nat) (hl : Hd) (L : List OShf) : Prop where
  lst : w.ownsRow B 80 1 hl.v L.length (L.flatMap ptrC)
  each : ∀ y ∈ L, ShfIn w B y
  nd : (hl.blk ++ L.flatMap OShf.blks).Nodup
section
variable {w w' : World} {B s : Nat} {hl : Hd} {L : List OShf}
theorem ShsIn.lt (h : ShsIn w B hl L) : ∀ g ∈ hl.blk ++ L.flatMap OShf.blks, B ≤ g ∧ g < w.heap.size := fun g hg => by
  rcases List.mem_append.1 hg with hg | hg
  · exact blk_lt h.lst g hg
  · obtain ⟨y, hy, hg⟩ := List.mem_flatMap.1 hg
    exact (h.each y hy).lt g hg
theorem ShsIn.kb {P : Nat → Prop} (h : ShsIn w B hl L) (k : Kb P w w') (hne : ∀ g ∈ hl.blk ++ L.flatMap OShf.blks, ¬ P g) : ShsIn w' B hl L :=
  ⟨own_kb h.lst k fun g hg => hne g (List.mem_append.2 (.inl (Hd.mem_blk.2 hg))), fun y hy => (h.each y hy).kb k fun g hg => hne g (List.mem_append.2 (.inr (List.mem_flatMap.2 ⟨y, hy, hg⟩))), h.nd⟩
theorem ShsIn.aft (h : ShsIn w B hl L) (a : Aft w w') : ShsIn w' B hl L := h.kb (P := fun _ => False) (Kb.of_aft a) fun _ _ h => h
theorem ShsIn.nil (w : World) (B : Nat) : ShsIn w B ⟨none, 0, 0⟩ [] := ⟨own_nil _ _ _ _, (fun y h => by cases h), (by simp [blk_nil])⟩
theorem RowsIn.down {B2 : Nat} {h : Hd} {l : List ORow} (r : RowsIn w B h l) (hB : B2 ≤ B) : RowsIn w B2 h l := ⟨own_down r.own hB, fun o ho => own_down (r.each o ho) hB⟩
theorem ShfIn.down {B2 : Nat} {y : OShf} (h : ShfIn w B y) (hB : B2 ≤ B) : ShfIn w B2 y := ⟨Nat.le_trans hB h.ge, h.blk, h.row, h.tab.down hB, h.rows.down hB⟩
/-- one shelf more -/
theorem ShsIn.push {wr w4 w5 : World} {h : Hd} {y : OShf} {A' : Option Addr} {n cap' : Nat} {ob : Obj} (r : ShsIn wr B h L) (a4 : Aft wr w4) (hy : ShfIn w4 wr.heap.size y) (ny : y.blks.Nodup) (hB : B ≤ wr.heap.size) (hn : n = L.length + 1)
    (hg : (w4.alloc ob).grownBy w5 h.v.ownBlock) (hown : w5.ownsRow B 80 1 (.slice A' n cap') n (L.flatMap ptrC ++ ptrC y)) (hblk : ∀ g ∈ (Hd.mk A' n cap').blk, h.v.ownBlock = some g ∨ w4.heap.size + 1 ≤ g) :
    ShsIn w5 B ⟨A', n, cap'⟩ (L ++ [y]) := by
  have k := Kb.of_grown hg
  have hlt := r.lt
  have hnd := List.nodup_append.1 r.nd
  have hz := a4.size
  have hol := hy.lt
  refine ⟨?_, fun x hx => ?_, ?_⟩
  · have e : (L ++ [y]).length = n := by simp [hn]
    rw [e]
    simpa [List.flatMap_append, Hd.v] using hown
  · rcases List.mem_append.1 hx with hx | hx
    · refine ((r.each x hx).aft (a4.alloc ob)).kb k fun g hg2 e => ?_
      exact hnd.2.2 g (Hd.mem_blk.2 e) g (List.mem_flatMap.2 ⟨x, hx, hg2⟩) rfl
    · rw [List.mem_singleton] at hx
      subst hx
      refine ((hy.aft ((Aft.refl w4).alloc ob)).kb k fun g hg2 e => ?_).down hB
      have h1 := (hlt g (List.mem_append.2 (.inl (Hd.mem_blk.2 e)))).2
      have h2 := (hol g hg2).1
      omega
  · rw [List.flatMap_append, List.flatMap_cons, List.flatMap_nil, List.append_nil]
    have n2 : (L.flatMap OShf.blks ++ y.blks).Nodup := nodup_more (N := wr.heap.size) hnd.2.1 ny (fun g hg => (hlt g (List.mem_append.2 (.inr hg))).2) (fun g hg => (hol g hg).1)
    refine List.nodup_append.2 ⟨blk_nodup _, n2, fun a ha b hb e => ?_⟩
    subst e
    rcases hblk a ha with h1 | h1
    · have h2 := hlt a (List.mem_append.2 (.inl (Hd.mem_blk.2 h1)))
      rcases List.mem_append.1 hb with hb | hb
      · exact hnd.2.2 a (Hd.mem_blk.2 h1) a hb rfl
      · have := (hol a hb).1; omega
    · rcases List.mem_append.1 hb with hb | hb
      · have := (hlt a (List.mem_append.2 (.inr hb))).2; omega
      · have := (hol a hb).2; omega
/-- one row more on a shelf of our own -/
theorem ShfIn.push {wr w4 w5 : World} {y : OShf} {o : ORow} {A' : Option Addr} {n cap' : Nat} {ob : Obj} (r : ShfIn wr B y) (ny : y.blks.Nodup) (a4 : Aft wr w4) (ho : w4.ownsRow wr.heap.size 37 3 o.h.v o.vals.length (o.vals.flatMap cellsV)) (hB : B ≤ wr.heap.size) (hn : n = y.rows.length + 1)
    (hg : (w4.alloc ob).grownBy w5 y.hr.v.ownBlock) (hown : w5.ownsRow B 34 1 (.slice A' n cap') n (y.rows.flatMap ORow.cells ++ [o.h.v])) (hblk : ∀ g ∈ (Hd.mk A' n cap').blk, y.hr.v.ownBlock = some g ∨ w4.heap.size + 1 ≤ g) :
    ShfIn (w5.setCell ⟨y.p, 5, none⟩ (.slice A' n cap')) B ⟨y.p, y.x, y.rows ++ [o], ⟨A', n, cap'⟩⟩ ∧ (OShf.blks ⟨y.p, y.x, y.rows ++ [o], ⟨A', n, cap'⟩⟩).Nodup := by
  have k := Kb.of_grown hg
  have hz := a4.size
  have hlt := r.lt
  have hol := blk_lt ho
  have n1 := ny
  unfold OShf.blks OShf.rblk at n1
  obtain ⟨n2, n3⟩ := List.nodup_cons.1 n1
  obtain ⟨n4, n5, n6⟩ := List.nodup_append.1 n3
  obtain ⟨p1, p2⟩ := rows_push (o := o) r.rows n5 a4 ho hB hg hn hown hblk
  have hnew : ∀ g ∈ (Hd.mk A' n cap').blk ++ (y.rows ++ [o]).flatMap (·.h.blk), g ∈ y.rblk ∨ wr.heap.size ≤ g := fun g hg => by
    rw [List.flatMap_append, List.flatMap_cons, List.flatMap_nil, List.append_nil] at hg
    unfold OShf.rblk
    simp only [List.mem_append] at hg
    rcases hg with h | h | h
    · rcases hblk g h with h | h
      · exact .inl (List.mem_append.2 (.inl (Hd.mem_blk.2 h)))
      · exact .inr (by omega)
    · exact .inl (List.mem_append.2 (.inr h))
    · exact .inr (hol g h).1
  have ltp : y.p < wr.heap.size := r.row.1
  have nep : ∀ g ∈ (Hd.mk A' n cap').blk ++ (y.rows ++ [o]).flatMap (·.h.blk), g ≠ y.p := fun g hg e => by
    rcases hnew g hg with h | h
    · subst e; exact n2 (List.mem_append.2 (.inr h))
    · omega
  have npb : ¬ y.hr.v.ownBlock = some y.p := fun e => n2 (List.mem_append.2 (.inr (List.mem_append.2 (.inl (Hd.mem_blk.2 e)))))
  have kA : Kb (fun g => y.hr.v.ownBlock = some g) wr w5 := (Kb.of_aft (a4.alloc ob)).trans k
  have kS : Kb (fun g => g = y.p) w5 (w5.setCell ⟨y.p, 5, none⟩ (.slice A' n cap')) := Kb.set _ _ _ _
  have hc5 : y.cells.length = 6 := by unfold OShf.cells OTab.cells; rfl
  refine ⟨⟨r.ge, ?_, ?_, (r.tab.kb kA fun g hg e => ?_).kb kS fun g hg e => ?_, p1.kb kS fun g hg e => nep g hg e⟩, ?_⟩
  · obtain ⟨cur, t, e⟩ := r.blk
    exact ⟨_, _, setCell_heap_same w5 y.p 5 _ ((kA.block y.p ltp npb).trans e)⟩
  · have h1 := (kA.row r.row npb).set 5 (.slice A' n cap') (by rw [hc5]; omega)
    exact h1
  · exact n6 g hg g (List.mem_append.2 (.inl (Hd.mem_blk.2 e))) rfl
  · have e : g = y.p := e
    subst e; exact n2 (List.mem_append.2 (.inl hg))
  · unfold OShf.blks OShf.rblk
    refine List.nodup_cons.2 ⟨fun h => ?_, List.nodup_append.2 ⟨n4, p2, fun a ha b hb e => ?_⟩⟩
    · rcases List.mem_append.1 h with h | h
      · exact n2 (List.mem_append.2 (.inl h))
      · exact nep _ h rfl
    · subst e
      rcases hnew a hb with h | h
      · exact n6 a ha a h rfl
      · have := (hlt a (by unfold OShf.blks; simp [ha])).2
        omega
end
end Go.Proofs.YtiadkchlkdaceaaGreat

namespace Go.Proofs.YtiadkchlkdaceaaGreat
open Go.RowKit
section
variable {P : Program} {ops : Array Oper} {Q : Exit → Act → World → Prop} {T : World → Prop} {m : Nat}
def readM (o : Oper) : Bool := readB o || (o.guard.isNone && match o.op with | .extract .. => true | _ => false)
theorem readM_guard {o : Oper} (h : readM o = true) : o.guard = none := by
  unfold readM at h
  rw [Bool.or_eq_true] at h
  rcases h with h | h
  · unfold readB at h; simp only [Bool.and_eq_true, Option.isNone_iff_eq_none] at h; exact h.1
  · simp only [Bool.and_eq_true, Option.isNone_iff_eq_none] at h; exact h.1
theorem readM_value {o : Oper} {ev : Operand → Value} {w w' : World} {n : Next} (h : readM o = true) (hr : (execOp ev o).run P w = .ok n w') : ∃ v, n = .value v := by
  unfold readM at h
  rw [Bool.or_eq_true] at h
  rcases h with h | h
  · exact read_value h hr
  · simp only [Bool.and_eq_true] at h
    obtain ⟨_, h⟩ := h
    unfold execOp at hr
    cases ho : o.op <;> rw [ho] at h hr <;> simp only [Bool.false_eq_true] at h
    simp only [Sem.run_bind, Sem.run_pure] at hr
    first
      | (simp only [Result.ok.injEq] at hr; exact ⟨_, hr.1.symm⟩)
      | (generalize Sem.run P _ w = r at hr; cases r <;> simp [Result.andThen] at hr; exact ⟨_, hr.1.symm⟩)
      | (split at hr <;> first | (simp only [Sem.run_pure, Result.ok.injEq] at hr; exact ⟨_, hr.1.symm⟩) | (simp [unsupported] at hr))
theorem readM_yields {o : Oper} {v : Value} {a : Act} (hb : readM o = true) (h : ∀ w, T w → o.quietAt P a T w v) : YieldsIf P ops T o v a := by
  have hg := readM_guard hb
  refine .inl ⟨by simp [Region.wanted, hg], fun w hw => ?_⟩
  have h1 := h w hw
  unfold Oper.quietAt at h1
  cases hr : (execOp a.eval o).run P w with
  | ok n w' =>
    obtain ⟨u, rfl⟩ := readM_value hb hr
    rw [hr] at h1
    simp only [Oper.quietUpon] at h1
    rw [h1.1, h1.2]
  | halt x w' =>
    rw [hr] at h1
    simp only [Oper.quietUpon] at h1
/-- what is asked, in the order of the text: of a read its value in any world of the class, of another operation its own rule -/
def wpMix (P : Program) (ops : Array Oper) (Q : Exit → Act → World → Prop) (T : World → Prop) (m : Nat) (rd : List Bool) : Nat → List Oper → Act → World → Prop
  | _, [], a, w => Q .normal a w
  | k, o :: r, a, w => if rd.getD k false then ∃ v, (∀ w, T w → o.quietAt P a T w v) ∧ wpMix P ops Q T m rd (k + 1) r (a.put o.dst v) w
    else o.wp P a w (fun a' w' => (k < m → T w') ∧ wpMix P ops Q T m rd (k + 1) r a' w') Q ∨ (o.asks P a w ∧ LetsOut Q)
theorem wpMix_read {rd : List Bool} {k : Nat} {o : Oper} {r : List Oper} {a : Act} {w : World} (v : Value) (h : rd.getD k false = true) (hq : ∀ w, T w → o.quietAt P a T w v) (hn : wpMix P ops Q T m rd (k + 1) r (a.put o.dst v) w) : wpMix P ops Q T m rd k (o :: r) a w := by
  unfold wpMix; rw [if_pos h]; exact ⟨v, hq, hn⟩
theorem wpMix_step {rd : List Bool} {k : Nat} {o : Oper} {r : List Oper} {a : Act} {w : World} (h : rd.getD k false = false) (hs : ∀ K : Act → World → Prop, (∀ a' w', (k < m → T w') → wpMix P ops Q T m rd (k + 1) r a' w' → K a' w') → o.wp P a w K Q) : wpMix P ops Q T m rd k (o :: r) a w := by
  unfold wpMix; rw [if_neg (by rw [h]; simp)]; exact .inl (hs _ fun _ _ h1 h2 => ⟨h1, h2⟩)
/-- a stretch of reads -/
theorem wpMix_reads {rd : List Bool} {w : World} : ∀ (n : Nat) {k : Nat} {l : List Oper} {a : Act}, ((List.range n).all fun j => rd.getD (k + j) false) = true → ((l.take n).all fun o => o.guard.isNone) = true → wpQuiet P ops T (fun a' => wpMix P ops Q T m rd (k + n) (l.drop n) a' w) (l.take n) a → wpMix P ops Q T m rd k l a w
  | 0, k, l, a, _, _, h => by simpa [wpQuiet] using h
  | n + 1, k, [], a, _, _, h => by simpa [wpQuiet, wpMix] using h
  | n + 1, k, o :: r, a, hr, hg, h => by
    simp only [List.take_succ_cons, List.all_cons, Bool.and_eq_true, Option.isNone_iff_eq_none] at hg
    rw [List.take_succ_cons, List.drop_succ_cons] at h
    unfold wpQuiet at h
    rw [if_pos (by simp [Region.wanted, hg.1])] at h
    obtain ⟨v, hv, hn⟩ := h
    simp only [List.all_eq_true, List.mem_range] at hr
    refine wpMix_read v (hr 0 (by omega)) hv (wpMix_reads n (k := k + 1) ?_ hg.2 ?_)
    · simp only [List.all_eq_true, List.mem_range]
      intro j hj
      have := hr (j + 1) (by omega)
      rwa [show k + (j + 1) = k + 1 + j by omega] at this
    · rwa [show k + (n + 1) = k + 1 + n by omega] at hn
def mixB (ops : Array Oper) (rd : List Bool) (m : Nat) : Bool :=
  Region.noSelect ops && decide (m < ops.size) &&
  (List.range ops.size).all (fun k => match ops[k]? with
    | none => false
    | some o => if rd.getD k false then decide (k < m) && readM o && o.after.all (fun e => !Region.binds .any e || decide (e.on < k)) && Region.free .any ops (lk ops.size k) k && (match ops[m]? with | some om => om.after.any (fun e => Region.binds .any e && e.on == k) | none => false)
      else o.guard.isNone && (Region.ready .any ops (lk ops.size k) == [k])) && (Region.ready .any ops (lk ops.size ops.size) == [])
theorem mix_any {rd : List Bool} (hB : mixB ops rd m = true) (hQ : ∀ c a d v w, Q (.panic c) (Act.put a d v) w → Q (.panic c) a w) :
    ∀ (l : List Oper) (k : Nat) (a : Act) (w : World), (k ≤ m → T w) → k + l.length = ops.size → (∀ j (hj : j < l.length), ops[k + j]? = some l[j]) → wpMix P ops Q T m rd k l a w → wpAnyS P .any ops Q T m l.length (lk ops.size k) a w
  | [], k, a, w, _, hl, _, h => by
    have e : k = ops.size := by simpa using hl
    subst e
    unfold mixB at hB
    simp only [Bool.and_eq_true, beq_iff_eq] at hB
    exact ⟨hB.2, h⟩
  | o :: r, k, a, w, hT, hl, ho, h => by
    have hB2 := hB
    unfold mixB at hB2
    simp only [Bool.and_eq_true, decide_eq_true_eq, List.all_eq_true, List.mem_range, beq_iff_eq] at hB2
    obtain ⟨⟨⟨hsel, hms⟩, hall⟩, hz⟩ := hB2
    simp only [List.length_cons] at hl
    have hks : k < ops.size := by omega
    have h0 := ho 0 (by simp)
    simp only [Nat.add_zero, List.getElem_cons_zero] at h0
    have hk := hall k hks
    rw [h0] at hk
    simp only at hk
    have hto : ∀ j (hj : j < r.length), ops[k + 1 + j]? = some r[j] := fun j hj => by have := ho (j + 1) (by simpa using hj); simpa [Nat.add_assoc, Nat.add_comm 1 j] using this
    unfold wpMix at h
    by_cases hrd : rd.getD k false = true
    · rw [if_pos hrd] at h hk
      obtain ⟨v, hv, hn⟩ := h
      simp only [Bool.and_eq_true, decide_eq_true_eq] at hk
      obtain ⟨⟨⟨⟨hkm, hb⟩, h2⟩, hf⟩, h4⟩ := hk
      have hTw := hT (by omega)
      refine wpAnyS_first h0 (Region.noSelect_spec hsel) (fun c a w h => hQ c a _ _ w h) (by omega) (fun om hom => ?_) _ _ a w (Region.free_spec h0 hf) ?_ (readM_yields hb hv) hTw (by rw [lk_get hms]; simp; omega) ?_
      · rw [hom] at h4
        simp only at h4
        obtain ⟨e, he, hb⟩ := Array.any_eq_true'.1 h4
        simp only [Bool.and_eq_true, beq_iff_eq] at hb
        exact ⟨e, he, hb.1, hb.2⟩
      · rw [mem_ready]
        refine ⟨by rw [lk_get hks]; simp, o, h0, fun e hem hbd => ?_⟩
        have := Array.all_eq_true_iff_forall_mem.1 h2 e hem
        simp [hbd] at this
        rw [lk_get (by omega)]
        simpa using this
      · rw [lk_set hks]
        exact mix_any hB hQ r (k + 1) _ w (fun _ => hTw) (by omega) hto hn
    · rw [if_neg hrd] at h hk
      simp only [Bool.and_eq_true, Option.isNone_iff_eq_none, beq_iff_eq] at hk
      obtain ⟨hg, hr⟩ := hk
      refine ⟨fun e => absurd (hr.symm.trans e) (by simp), fun i hi => ?_⟩
      rw [hr, List.mem_singleton] at hi
      subst hi
      unfold wpOp
      simp only [h0]
      rw [if_pos (by simp [Region.wanted, hg])]
      rcases h with h | h
      case inr => exact .inr h
      refine .inl (Oper.wp_mono (fun a' w' h' => ?_) h)
      refine ⟨fun hm => h'.1 ?_, ?_⟩
      · rw [lk_set hks, lk_get hms] at hm
        simp at hm; omega
      · rw [lk_set hks]
        exact mix_any hB hQ r (i + 1) a' w' (fun hm => h'.1 (by omega)) (by omega) hto h'.2
theorem wp_region_mix {id : Nat} {a : Act} {w : World} {l : List Oper} (rd : List Bool) (m : Nat) (T : World → Prop) (hm : P.follows .mixedOrders = true) (hB : mixB l.toArray rd m = true) (hT : T w.drew)
    (h : wpMix P l.toArray (NoPanic Q) T m rd 0 l a w.drew) : (Code.region id l.toArray true).wp P Q a w := by
  refine wp_region_noPanic ?_
  refine wp_region_any hm (wpAny_of_S (T := T) (m := m) _ _ _ _ ?_)
  rw [← lk_zero]
  have key := mix_any hB (fun _ _ _ _ _ h => h) l 0 a w.drew (fun _ => hT) (by simp) (fun j hj => by simp at hj ⊢) h
  simpa using key
/-- in another order than the text's: 0 a read, 1 a step behind which the class is kept, 2 a step behind m -/
def wpOrd (P : Program) (ops : Array Oper) (Q : Exit → Act → World → Prop) (T : World → Prop) : List Nat → List Oper → Act → World → Prop
  | 0 :: ks, o :: r, a, w => ∃ v, (∀ w, T w → o.quietAt P a T w v) ∧ wpOrd P ops Q T ks r (a.put o.dst v) w
  | 1 :: ks, o :: r, a, w => o.wp P a w (fun a' w' => T w' ∧ wpOrd P ops Q T ks r a' w') Q ∨ (o.asks P a w ∧ LetsOut Q)
  | (_ + 2) :: ks, o :: r, a, w => o.wp P a w (fun a' w' => wpOrd P ops Q T ks r a' w') Q ∨ (o.asks P a w ∧ LetsOut Q)
  | _, _, a, w => Q .normal a w
theorem wpOrd_reads {w : World} : ∀ (n : Nat) {ks : List Nat} {l : List Oper} {a : Act}, ((ks.take n).all (· == 0)) = true → n ≤ ks.length → n ≤ l.length → ((l.take n).all fun o => o.guard.isNone) = true → wpQuiet P ops T (fun a' => wpOrd P ops Q T (ks.drop n) (l.drop n) a' w) (l.take n) a → wpOrd P ops Q T ks l a w
  | 0, ks, l, a, _, _, _, _, h => by simpa [wpQuiet] using h
  | n + 1, [], l, a, _, hk, _, _, h => by simp at hk
  | n + 1, k :: ks, [], a, _, _, hl, _, h => by simp at hl
  | n + 1, k :: ks, o :: r, a, hr, hk, hl, hg, h => by
    simp only [List.take_succ_cons, List.all_cons, Bool.and_eq_true, Option.isNone_iff_eq_none, beq_iff_eq] at hg hr
    obtain ⟨rfl, hr⟩ := hr
    rw [List.take_succ_cons, List.drop_succ_cons, List.drop_succ_cons] at h
    unfold wpQuiet at h
    rw [if_pos (by simp [Region.wanted, hg.1])] at h
    obtain ⟨v, hv, hn⟩ := h
    exact ⟨v, hv, wpOrd_reads n hr (by simpa using hk) (by simpa using hl) hg.2 hn⟩
theorem wpOrd_step {ks : List Nat} {o : Oper} {r : List Oper} {a : Act} {w : World} (hs : ∀ K : Act → World → Prop, (∀ a' w', T w' → wpOrd P ops Q T ks r a' w' → K a' w') → o.wp P a w K Q) : wpOrd P ops Q T (1 :: ks) (o :: r) a w :=
  .inl (hs _ fun _ _ h1 h2 => ⟨h1, h2⟩)
theorem wpOrd_last {ks : List Nat} {o : Oper} {r : List Oper} {a : Act} {w : World} (hs : ∀ K : Act → World → Prop, (∀ a' w', wpOrd P ops Q T ks r a' w' → K a' w') → o.wp P a w K Q) : wpOrd P ops Q T (2 :: ks) (o :: r) a w :=
  .inl (hs _ fun _ _ h => h)
def ordB (ops : Array Oper) (m : Nat) : Array Bool → List Nat → List Nat → Bool
  | ls, [], [] => Region.ready .any ops ls == []
  | ls, i :: is, k :: ks => (match ops[i]? with
    | none => false
    | some o => if k == 0 then !(i == m) && !(ls.getD m false) && readM o && (Region.ready .any ops ls).contains i && Region.free .any ops ls i && (match ops[m]? with | some om => om.after.any (fun e => Region.binds .any e && e.on == i) | none => false)
      else o.guard.isNone && (Region.ready .any ops ls == [i]) && (k == 1 || (ls.setIfInBounds i true).getD m false)) && ordB ops m (ls.setIfInBounds i true) is ks
  | _, _, _ => false
theorem ord_any (hsel : Region.noSelect ops = true) (hQ : ∀ c a d v w, Q (.panic c) (Act.put a d v) w → Q (.panic c) a w) :
    ∀ (is ks : List Nat) (ls : Array Bool) (l : List Oper) (a : Act) (w : World), ordB ops m ls is ks = true → is.map (fun i => ops[i]?) = l.map some → (ls.getD m false = false → T w) → wpOrd P ops Q T ks l a w → wpAnyS P .any ops Q T m is.length ls a w
  | [], [], ls, l, a, w, hB, hl, _, h => by
    unfold ordB at hB
    simp only [beq_iff_eq] at hB
    have : l = [] := by cases l with | nil => rfl | cons o r => simp at hl
    subst this
    exact ⟨hB, h⟩
  | [], k :: ks, ls, l, a, w, hB, hl, _, h => by unfold ordB at hB; cases hB
  | i :: is, [], ls, l, a, w, hB, hl, _, h => by unfold ordB at hB; cases hB
  | i :: is, k :: ks, ls, [], a, w, hB, hl, _, h => by simp at hl
  | i :: is, k :: ks, ls, o :: r, a, w, hB, hl, hT, h => by
    simp only [List.map_cons, List.cons.injEq] at hl
    obtain ⟨h0, hl⟩ := hl
    unfold ordB at hB
    rw [h0] at hB
    simp only [Bool.and_eq_true] at hB
    obtain ⟨hk, hB⟩ := hB
    match k, hk, h with
    | 0, hk, h =>
      simp only [beq_self_eq_true, if_true, Bool.and_eq_true, Bool.not_eq_true', beq_eq_false_iff_ne] at hk
      obtain ⟨⟨⟨⟨⟨him, hlm⟩, hb⟩, hrdy⟩, hf⟩, h4⟩ := hk
      obtain ⟨v, hv, hn⟩ := h
      refine wpAnyS_first h0 (Region.noSelect_spec hsel) (fun c a w h => hQ c a _ _ w h) him (fun om hom => ?_) _ _ a w (Region.free_spec h0 hf) (by simpa using hrdy) (readM_yields hb hv) (hT hlm) hlm ?_
      · rw [hom] at h4
        simp only at h4
        obtain ⟨e, he, hb⟩ := Array.any_eq_true'.1 h4
        simp only [Bool.and_eq_true, beq_iff_eq] at hb
        exact ⟨e, he, hb.1, hb.2⟩
      · exact ord_any hsel hQ is ks _ r _ w hB hl (fun _ => hT hlm) hn
    | 1, hk, h =>
      simp only [show ((1 : Nat) == 0) = false from rfl, Bool.false_eq_true, if_false, Bool.and_eq_true, Option.isNone_iff_eq_none, beq_iff_eq] at hk
      obtain ⟨⟨hg, hr⟩, _⟩ := hk
      refine ⟨fun e => absurd (hr.symm.trans e) (by simp), fun j hj => ?_⟩
      rw [hr, List.mem_singleton] at hj
      subst hj
      unfold wpOp
      simp only [h0]
      rw [if_pos (by simp [Region.wanted, hg])]
      rcases h with h | h
      case inr => exact .inr h
      exact .inl (Oper.wp_mono (fun a' w' h' => ⟨fun _ => h'.1, ord_any hsel hQ is ks _ r a' w' hB hl (fun _ => h'.1) h'.2⟩) h)
    | k + 2, hk, h =>
      simp only [show ((k + 2 : Nat) == 0) = false from rfl, Bool.false_eq_true, if_false, Bool.and_eq_true, Option.isNone_iff_eq_none, beq_iff_eq, Bool.or_eq_true] at hk
      obtain ⟨⟨hg, hr⟩, hm2⟩ := hk
      have hm3 : (ls.setIfInBounds i true).getD m false = true := by
        rcases hm2 with h | h
        · omega
        · exact h
      refine ⟨fun e => absurd (hr.symm.trans e) (by simp), fun j hj => ?_⟩
      rw [hr, List.mem_singleton] at hj
      subst hj
      unfold wpOp
      simp only [h0]
      rw [if_pos (by simp [Region.wanted, hg])]
      rcases h with h | h
      case inr => exact .inr h
      exact .inl (Oper.wp_mono (fun a' w' h' => ⟨fun e => absurd e (by rw [hm3]; simp), ord_any hsel hQ is ks _ r a' w' hB hl (fun e => absurd e (by rw [hm3]; simp)) h'⟩) h)
theorem wp_region_ord {id : Nat} {a : Act} {w : World} {l : List Oper} (is ks : List Nat) (m : Nat) (l' : List Oper → List Oper) (T : World → Prop) (hm : P.follows .mixedOrders = true) (hB : (Region.noSelect l.toArray && decide (is.length = l.length) && ordB l.toArray m (Array.replicate l.length false) is ks) = true) (hl : is.map (fun i => l.toArray[i]?) = (l' l).map some) (hT : T w.drew)
    (h : wpOrd P l.toArray (NoPanic Q) T ks (l' l) a w.drew) : (Code.region id l.toArray true).wp P Q a w := by
  refine wp_region_noPanic ?_
  refine wp_region_any hm (wpAny_of_S (T := T) (m := m) _ _ _ _ ?_)
  simp only [Bool.and_eq_true, decide_eq_true_eq] at hB
  obtain ⟨⟨hsel, hlen⟩, hB⟩ := hB
  have key := ord_any (Q := NoPanic Q) (T := T) hsel (fun _ _ _ _ _ h => h) is ks _ (l' l) a w.drew hB hl (fun _ => hT) h
  rw [hlen] at key
  simpa using key
end
end Go.Proofs.YtiadkchlkdaceaaGreat

namespace Go.Proofs.YtiadkchlkdaceaaGreat
open Go.RowKit Go.Deep
set_option maxRecDepth 100000
set_option linter.unusedVariables false
theorem info2Shp : (Tryz.prog.info? 80).map (fun i => (i.zero, i.size, i.bytes)) = some (some (.pointer none), 1, 8) := by kernel_rfl
theorem good_own {o : Objs} (h : Good o) {k : Nat} (hk : k < o.tables.length) : tabAt o.tables o.tables[k].schema o.tables[k].name = k := by
  refine idxP_some _ _ k hk (by simp only [Bool.and_eq_true]; exact ⟨eqS_refl _, eqS_refl _⟩) fun i hi => ?_
  rw [Bool.eq_false_iff]
  intro e
  simp only [Bool.and_eq_true] at e
  have h1 := rises_lt preTb.tr h.rt i k (by omega) hk hi
  have h2 : cmpTb (o.tables[i]'(by omega)) o.tables[k] = 0 := cmpTb_zero.2 ⟨(eqS_iff9 _ _).1 e.1, (eqS_iff9 _ _).1 e.2⟩
  omega
/-- what a load leaves -/
def LoadQ (w : World) (B s : Nat) (hl : Hd) (L : List OShf) (r : List Shf × Int) (e : Ending) (w' : World) : Prop :=
  ∃ hl' L', storeS L' = r.1 ∧ e = .returned (.int .i64 r.2) ∧ Kb (fun g => g = s) w w' ∧ StoIn w' B s hl' L' ∧ ∀ g ∈ hl'.blk ++ L'.flatMap OShf.blks, g ∈ stoBlks s hl L ∨ w.heap.size ≤ g
theorem loadQ_no {w w' : World} {B s : Nat} {hl : Hd} {L : List OShf} (hin : StoIn w B s hl L) (a : Aft w w') (c : Int) : LoadQ w B s hl L (storeS L, c) (.returned (.int .i64 c)) w' :=
  ⟨hl, L, rfl, rfl, Kb.of_aft a, hin.aft a, fun g hg => .inl (List.mem_cons_of_mem _ hg)⟩
theorem loadQ_yes {w w' : World} {B s : Nat} {hl h : Hd} {L Ln : List OShf} {S : List Shf} (hin : StoIn w' B s h Ln) (e : Ln.map OShf.s = S) (k : Kb (fun g => g = s) w w') (hb : ∀ g ∈ h.blk ++ Ln.flatMap OShf.blks, g ∈ stoBlks s hl L ∨ w.heap.size ≤ g) : LoadQ w B s hl L (S, 0) (.returned (.int .i64 0)) w' :=
  ⟨h, Ln, e, rfl, k, hin, hb⟩
set_option maxHeartbeats 8000000 in
theorem load12 (B s : Nat) (hl : Hd) (L : List OShf) (ss : List Sch) (o : Objs) (As : Option Addr) (caps : Nat) (At : Option Addr) (capt : Nat) (w : World) (hin : StoIn w B s hl L) (ok : SOk (storeS L) ss) (sm : ∀ y ∈ L, SmT y.x.t) (hsch : SlAt w 2 SchR As caps o.schemas) (htab : SlAt w 5 TabR At capt o.tables) :
    Calls Tryz.prog 8 #[.pointer (some ⟨s, 0, none⟩), .agg #[.slice As o.schemas.length caps, .slice At o.tables.length capt]] w (LoadQ w B s hl L (loadS (storeS L) o)) := by
  obtain ⟨i0, hi, hz0, hz1, hz2⟩ := info_parts info2Shp
  obtain ⟨i1, hj, hy0, hy1, hy2⟩ := info_parts info2Row
  have HI := Lib.hid hi
  have HZ0 := Lib.hid hz0
  have HZ1 := Lib.hid hz1
  have HZ2 := Lib.hid hz2
  have HJ := Lib.hid hj
  have HY0 := Lib.hid hy0
  have HY1 := Lib.hid hy1
  have HY2 := Lib.hid hy2
  clear hi hz0 hz1 hz2 hj hy0 hy1 hy2
  obtain ⟨D, hD⟩ : ∃ D, loadS (storeS L) o = D := ⟨_, rfl⟩
  have HD := Lib.hid (show D = if checkO o then (o.tables.map (turnS (storeS L)), 0) else (storeS L, 63) from hD.symm)
  rw [hD]
  clear hD
  have HSM := Lib.hid (sm_tabs htab)
  have CK := Lib.hid (show ∀ V, Aft w V → Calls Tryz.prog 23 #[.agg #[.slice As o.schemas.length caps, .slice At o.tables.length capt]] V fun e w' => e = .returned (.int .i64 (checkE o)) ∧ Aft V w' from fun V a => check_any o As caps At capt V (schs_aft a hsch) (tabs_aft a htab))
  have CF := Lib.hid (show ∀ V, Aft w V → ∀ sc n, Calls Tryz.prog 25 #[.pointer (some ⟨s, 0, none⟩), .string sc, .string n] V fun e w' => e = .returned (ptrV (L.map (·.p)) (shfAt (storeS L) sc n)) ∧ V = w' from fun V a sc n => find12 s (L.map (·.p)) (storeS L) sc n V ((hin.aft a).is ok sm))
  have CO := Lib.hid (show ∀ V, Aft w V → ∀ sc n, Calls Tryz.prog 24 #[.agg #[.slice As o.schemas.length caps, .slice At o.tables.length capt], .string sc, .string n] V (FindP V (findR o sc n)) from fun V a sc n => find_in o As caps At capt sc n V (schs_aft a hsch) (tabs_aft a htab))
  have PA := Lib.hid (show ∀ y ∈ L, Parted w y from fun y hy => parted hin ok sm hy)
  have HIN := Lib.hid hin
  have HOK := Lib.hid ok
  have HT := Lib.hid htab
  have hlen2 := htab.len
  obtain ⟨W, hW⟩ : ∃ W, W = w.alloc (.cells #[.slice As o.schemas.length caps, .slice At o.tables.length capt] 29) := ⟨_, rfl⟩
  have aW : Aft w W := by rw [hW]; exact (Aft.refl w).alloc _
  have rW : RowAt W w.heap.size [.slice As o.schemas.length caps, .slice At o.tables.length capt] := by rw [hW]; exact box_row2 (Aft.refl _)
  have HAW := Lib.hid aW
  have KF := Lib.hid (show ∀ V, Aft W V → (V.cell? ⟨w.heap.size, 0, none⟩ = some (.slice As o.schemas.length caps) ∧ V.cell? ⟨w.heap.size, 1, none⟩ = some (.slice At o.tables.length capt) ∧ w.heap.size < V.heap.size) from fun V a => by
    have r := rW.aft a
    exact ⟨r.cell (j := 0) rfl, r.cell (j := 1) rfl, r.1⟩)
  obtain ⟨q0, q1, qz⟩ := KF.out W (Aft.refl W)
  clear aW rW hin ok sm hsch htab
  go_enter Tryz.func8, Tryz.ntmps8
  go_wp2_with fail
  rw [← hW]
  clear hW
  go_wp2_with fail
  refine (CK.out W HAW.out).mono ?_
  rintro e X ⟨rfl, aX⟩
  have HAX := Lib.hid (HAW.out.trans aX)
  have HWX := Lib.hid aX
  clear q0 q1 qz CK
  obtain ⟨q0, q1, qz⟩ := KF.out X aX
  clear aX
  by_cases hck : checkO o = true
  · rw [show checkE o = 0 by unfold checkE; rw [if_pos hck]]
    have HG := Lib.hid ((good_iff o).1 hck)
    have HCK := Lib.hid hck
    have HDD := Lib.hid (show D = (o.tables.map (turnS (storeS L)), 0) from HD.out.trans (if_pos hck))
    clear hck
    have hnt := HG.out.nt
    go_wp2_with fail
    go_loopw [6, 27] (fun v i wr => ∃ (k : Nat) (h : Hd) (Ln : List OShf), k ≤ o.tables.length ∧ i = .int .i64 k ∧ v = .slice h.a k h.c ∧ Ln.map OShf.s = (o.tables.take k).map (turnS (storeS L)) ∧ Aft X wr ∧ ShsIn wr X.heap.size h Ln) (fun _ i _ => o.tables.length - (intOf i).toNat)
    case atStart => exact ⟨0, ⟨none, 0, 0⟩, [], Nat.zero_le _, rfl, rfl, rfl, Aft.refl _, ShsIn.nil _ _⟩
    case round =>
      obtain ⟨k, h, Ln, hk, rfl, rfl, hLn, ha, hsn⟩ := hrel
      have HA := Lib.hid ha
      have HSN := Lib.hid hsn
      have HLN := Lib.hid hLn
      have HLL := Lib.hid (show Ln.length = k by have := congrArg List.length hLn; simpa [Nat.min_eq_left hk] using this)
      clear ha hsn hLn q0 q1 qz
      by_cases hlt : k < o.tables.length
      · obtain ⟨b, off, A2, cap2, A3, cap3, rfl, hb, t0, t1, t2, t3, t4, hcols, hruls, hss⟩ := tab_at (tabs_aft (HAX.out.trans HA.out) HT.out) hlt
        have HFR := Lib.hid (findR_some HCK.out (good_own HG.out hlt) hlt)
        have HPM := Lib.hid (show o.tables[k] ∈ o.tables from List.getElem_mem hlt)
        obtain ⟨p, hpp⟩ : ∃ p, o.tables[k] = p := ⟨_, rfl⟩
        rw [hpp] at t0 t1 t2 t3 t4 hcols hruls hss HFR HPM
        have HPP := Lib.hid hpp
        obtain ⟨V0, hV0⟩ : ∃ V0, V0 = wr := ⟨_, rfl⟩
        subst hV0
        obtain ⟨V1, hV1⟩ : ∃ V1, V1 = V0.alloc (.cells #[.string p.schema, .string p.name, .string p.owner, .slice A2 p.cols.length cap2, .slice A3 p.rules.length cap3] 76) := ⟨_, rfl⟩
        have a1 : Aft V0 V1 := by rw [hV1]; exact (Aft.refl _).alloc _
        have r1 : RowAt V1 V0.heap.size [.string p.schema, .string p.name, .string p.owner, .slice A2 p.cols.length cap2, .slice A3 p.rules.length cap3] := by rw [hV1]; exact box_row2 (Aft.refl _)
        have KT := Lib.hid (show ∀ V, Aft V1 V → (V.cell? ⟨V0.heap.size, 0, none⟩ = some (.string p.schema) ∧ V.cell? ⟨V0.heap.size, 1, none⟩ = some (.string p.name) ∧ V0.heap.size < V.heap.size) from fun V a => by
          have r := r1.aft a
          exact ⟨r.cell (j := 0) rfl, r.cell (j := 1) rfl, r.1⟩)
        have HA1 := Lib.hid a1
        have zlt : V0.heap.size < V0.heap.size + 1 := by omega
        have zw : X.heap.size ≤ V0.heap.size := HA.out.size
        obtain ⟨q0, q1, qz⟩ := KF.out V0 (HWX.out.trans HA.out)
        have CO1 := Lib.hid (CO.out V1 (HAX.out.trans (HA.out.trans a1)) p.schema p.name)
        rw [HFR.out] at CO1
        clear a1 r1 hpp hcols hruls hss
        go_wp2_with fail
        rw [← hV1]
        clear hV1
        refine CO1.out.mono ?_
        rintro e V3 ⟨x, hx, rfl, a3, tx, hxn⟩
        dsimp only
        have HA3 := Lib.hid (HA1.out.trans a3)
        have H13 := Lib.hid a3
        have HTX := Lib.hid tx
        have HXN := Lib.hid hxn
        have HX := Lib.hid (show x.t = p from hx)
        obtain ⟨u0, u1, uz⟩ := KT.out V3 a3
        clear q0 q1 qz t0 t1 t2 t3 t4 hb a3 tx hxn hx CO1
        go_wp2_with fail
        obtain ⟨V4, hV4⟩ : ∃ V4, V4 = V3.alloc (.cells #[.string p.schema, .string p.name, .string p.owner, .slice x.hc.a p.cols.length x.hc.c, .slice x.hr.a p.rules.length x.hr.c] 76) := ⟨_, rfl⟩
        have z4 : V4.heap.size = V3.heap.size + 1 := by rw [hV4]; simp
        have a4 : Aft V3 V4 := by rw [hV4]; exact (Aft.refl _).alloc _
        have r4 : RowAt V4 V3.heap.size [.string p.schema, .string p.name, .string p.owner, .slice x.hc.a p.cols.length x.hc.c, .slice x.hr.a p.rules.length x.hr.c] := by rw [hV4]; exact box_row2 (Aft.refl _)
        obtain ⟨V5, hV5⟩ : ∃ V5, V5 = V4.alloc (.cells #[.string p.schema, .string p.name, .string p.owner, .slice x.hc.a p.cols.length x.hc.c, .slice x.hr.a p.rules.length x.hr.c, .slice none 0 0] 82) := ⟨_, rfl⟩
        have a5 : Aft V4 V5 := by rw [hV5]; exact (Aft.refl _).alloc _
        have r5 : RowAt V5 V4.heap.size [.string p.schema, .string p.name, .string p.owner, .slice x.hc.a p.cols.length x.hc.c, .slice x.hr.a p.rules.length x.hr.c, .slice none 0 0] := by rw [hV5]; exact box_row2 (Aft.refl _)
        have b5 : V5.heap[V4.heap.size]? = some (.cells #[.string p.schema, .string p.name, .string p.owner, .slice x.hc.a p.cols.length x.hc.c, .slice x.hr.a p.rules.length x.hr.c, .slice none 0 0] 82 (0, 0)) := by rw [hV5]; exact heap_alloc_new V4 _
        have zV3 := H13.out.size
        have zV1 := HA1.out.size
        have HR4 := Lib.hid r4
        have H45 := Lib.hid a5
        have HA4 := Lib.hid (HA3.out.trans a4)
        have HA5 := Lib.hid (HA3.out.trans (a4.trans a5))
        have HV4 := Lib.hid z4
        have hsh : ShfIn V5 V0.heap.size ⟨V3.heap.size + 1, x, [], ⟨none, 0, 0⟩⟩ := by
          refine ⟨by show V0.heap.size ≤ V3.heap.size + 1; omega, ⟨_, _, by rw [← z4]; exact b5⟩, ?_, (HTX.out.aft (a4.trans a5)).down zV1, rowsIn_nil _ _⟩
          have e := r5
          rw [z4] at e
          unfold OShf.cells
          rw [OTab.cells_of HTX.out HX.out]
          exact e
        have hsn5 : (OShf.blks ⟨V3.heap.size + 1, x, [], ⟨none, 0, 0⟩⟩).Nodup := by
          unfold OShf.blks OShf.rblk
          rw [blk_nil, List.flatMap_nil, List.append_nil, List.append_nil]
          exact List.nodup_cons.2 ⟨fun h => by have h2 : V3.heap.size + 1 < V3.heap.size := (HTX.out.lt _ h).2; omega, HXN.out⟩
        have HSH := Lib.hid hsh
        have HSN5 := Lib.hid hsn5
        have CF5 := Lib.hid (CF.out V5 (HAX.out.trans (HA.out.trans HA5.out)) p.schema p.name)
        rw [← hV4, ← hV5]
        clear hV4 hV5 a4 a5 r4 r5 b5 z4 hsh hsn5 u0 u1 uz
        refine CF5.out.mono ?_
        rintro e V6 ⟨rfl, rfl⟩
        clear CF5
        obtain ⟨j, hj⟩ : ∃ j, shfAt (storeS L) p.schema p.name = j := ⟨_, rfl⟩
        rw [hj]
        have hjr : -1 ≤ j ∧ j < L.length := by
          have := idxP_range (fun y : Shf => eqS y.t.schema p.schema && eqS y.t.name p.name) (storeS L)
          rw [← hj]
          unfold shfAt
          simpa [storeS] using this
        by_cases hj0 : j < 0
        · have ej : j = -1 := by omega
          subst ej
          have HTS := Lib.hid (show OShf.s ⟨V3.heap.size + 1, x, [], ⟨none, 0, 0⟩⟩ = turnS (storeS L) p by unfold OShf.s turnS; rw [hj, if_pos hj0]; show Shf.mk x.t _ = _; rw [HX.out]; rfl)
          rw [ptrV_no]
          clear hj hjr hj0
          go_wp2_with (at_builtin; refine wpList_append_own2 _ rfl (.tmp 83) (.tmp 85) 70 rfl X.heap.size 80 i0 (.pointer none) 1 8 Tryz.underlying70 HI.out HZ0.out HZ1.out HZ2.out rfl (by decide) (.slice h.a k h.c) k (Ln.flatMap ptrC) rfl ?c6 (some ⟨V5.heap.size, 0, none⟩) 1 1 [.pointer (some ⟨V3.heap.size + 1, 0, none⟩)] rfl rfl ?c0 ?c1 ?c2 ?c3 ?c4 ?c5 ?_)
          case c6 =>
            have := own_aft HSN.out.lst (HA5.out.alloc (.cells #[.pointer (some ⟨V3.heap.size + 1, 0, none⟩)] 80))
            rw [own_slice HSN.out.lst, HLL.out] at this
            exact this
          case c0 => intro h; cases h
          case c1 =>
            intro ad had j u hj
            injection had with had; subst had
            rw [add_mk, Nat.zero_add]; exact (World.cell?_alloc_at _ _ _ _ rfl).trans (by simpa using hj)
          case c2 => intro u hu; simp only [List.mem_cons, List.not_mem_nil, or_false] at hu; subst hu; simp [Value.oneCell']
          case c3 => unfold maxLen; omega
          case c4 => omega
          case c5 => have := HA5.out.size; simp; omega
          intro A' cap' w5 hown' hgrow hblk
          have e0 : h.v = .slice h.a k h.c := by rw [own_slice HSN.out.lst, HLL.out]
          have HP := Lib.hid (show ShsIn w5 X.heap.size ⟨A', k + 1, cap'⟩ (Ln ++ [(⟨V3.heap.size + 1, x, [], ⟨none, 0, 0⟩⟩ : OShf)]) from HSN.out.push (ob := .cells #[.pointer (some ⟨V3.heap.size + 1, 0, none⟩)] 80) HA5.out HSH.out HSN5.out zw (by rw [HLL.out]) (by rw [e0]; exact hgrow) hown' (by rw [e0]; intro g hg; simpa using hblk g hg))
          have HA5 := Lib.hid (show Aft X w5 from aft_grown (by rw [← e0]; exact own_aft HSN.out.lst (HA5.out.alloc _)) ((HA.out.trans HA5.out).alloc _) hgrow)
          have HT2 := Lib.hid (show (Ln ++ [(⟨V3.heap.size + 1, x, [], ⟨none, 0, 0⟩⟩ : OShf)]).map OShf.s = (o.tables.take (k + 1)).map (turnS (storeS L)) by rw [List.map_append, HLN.out, List.take_succ_eq_append_getElem hlt, List.map_append, HPP.out, List.map_cons, List.map_nil, List.map_cons, List.map_nil, HTS.out])
          clear hown' hgrow hblk e0
          go_wp2_with fail
          go_roundw
          case rel => exact ⟨k + 1, ⟨A', k + 1, cap'⟩, _, by omega, by go_num, rfl, HT2.out, HA5.out, HP.out⟩
          case measure => simp [intOf]; omega
        · obtain ⟨q, rfl⟩ : ∃ q : Nat, j = q := ⟨j.toNat, by omega⟩
          have hq : q < L.length := by omega
          have hsq : shfN (storeS L) q = L[q].s := by rw [shfN_get (by simpa [storeS] using hq)]; simp [storeS]
          have PY := PA.out L[q] (List.getElem_mem hq)
          have hyok := HOK.out.tab (x := L[q].s) (List.mem_map_of_mem (List.getElem_mem hq))
          rw [ptrV_at (by simpa using hq), List.getElem_map]
          obtain ⟨y, hy⟩ : ∃ y, L[q] = y := ⟨_, rfl⟩
          rw [hy] at hsq PY hyok ⊢
          have HTS := Lib.hid (show turnS (storeS L) p = ⟨p, (y.rows.map (·.vals)).map (turnVs y.x.t.cols p.cols)⟩ by unfold turnS; rw [hj, if_neg hj0, Int.toNat_natCast, hsq]; rfl)
          have HPY := Lib.hid PY
          have HCY := Lib.hid (show colsOk y.x.t.cols = true from hyok.cols)
          have HCP := Lib.hid ((HG.out.tab p HPM.out).cols)
          have HSP := Lib.hid (HSM.out.2 p HPM.out)
          have ry := PY.row.aft (HAX.out.trans (HA.out.trans HA5.out))
          have y5 := ry.cell (j := 5) rfl
          have yz := ry.1
          have hyl := PY.most
          have zwY : y.p < w.heap.size := PY.row.1
          clear hj hjr hj0 hsq hyok hy ry PY
          have HTP := Lib.hid (show ∀ r ∈ y.rows, turnC y.x.t.cols p.cols r.vals = 0 from fun r hr => turnC_0 HCY.out HCP.out (HPY.out.form r hr))
          have hn2 : V3.heap.size < V5.heap.size := (HR4.out.aft H45.out).1
          go_wp2_with fail
          go_loopw [56] (fun i wr => ∃ (k2 : Nat) (R : List ORow) (h2 : Hd), k2 ≤ y.rows.length ∧ i = .int .i64 k2 ∧ (∀ g ∈ h2.blk, V4.heap.size ≤ g) ∧ Aft V4 wr ∧ ShfIn wr V0.heap.size ⟨V3.heap.size + 1, x, R, h2⟩ ∧ (OShf.blks ⟨V3.heap.size + 1, x, R, h2⟩).Nodup ∧ R.map ORow.vals = ((y.rows.take k2).map (·.vals)).map (turnVs y.x.t.cols p.cols)) (fun i _ => y.rows.length - (intOf i).toNat)
          case atStart => exact ⟨0, [], ⟨none, 0, 0⟩, Nat.zero_le _, rfl, by simp [blk_nil], H45.out, HSH.out, HSN5.out, rfl⟩
          case round =>
            obtain ⟨k2, R, h2, hk2, rfl, hb2, ha2, hs2, hn2, hR2⟩ := hrel
            have HBK := Lib.hid hb2
            have HB2 := Lib.hid ha2
            have HS2 := Lib.hid hs2
            have HN2 := Lib.hid hn2
            have HR2 := Lib.hid hR2
            have HL2 := Lib.hid (show R.length = k2 by have := congrArg List.length hR2; simpa [Nat.min_eq_left hk2] using this)
            have HAV := Lib.hid (HA4.out.trans ha2)
            clear hb2 ha2 hs2 hn2 hR2 y5 yz
            by_cases hlt2 : k2 < y.rows.length
            · obtain ⟨b8, off8, hA8, hb8, c8, hv8⟩ := orow_at (orows_aft (HAX.out.trans (HA.out.trans HAV.out)) HPY.out.rows) hlt2
              rw [hA8]
              have HTC := Lib.hid (HTP.out _ (List.getElem_mem hlt2))
              have HTV := Lib.hid (turned_yes HTC.out)
              have HRT := Lib.hid (show (y.rows.take (k2 + 1)).map (·.vals) = (y.rows.take k2).map (·.vals) ++ [y.rows[k2].vals] by rw [List.take_succ_eq_append_getElem hlt2, List.map_append]; rfl)
              obtain ⟨u, hu⟩ : ∃ u, y.rows[k2] = u := ⟨_, rfl⟩
              rw [hu] at c8 hv8 HTC HTV HRT
              have CT := Lib.hid (show ∀ V, Aft wr V → Calls Tryz.prog 26 #[.slice y.x.hc.a y.x.t.cols.length y.x.hc.c, .slice x.hc.a p.cols.length x.hc.c, .slice u.h.a u.vals.length u.h.c] V (TurnP V (turnVs y.x.t.cols p.cols u.vals) 0) from fun V a => by
                have hcx : SlAt V 3 ColR x.hc.a x.hc.c p.cols := by
                  have := (HS2.out.tab.aft a).cols (by rw [show OTab.t _ = p from HX.out]; exact HSP.out)
                  have e : x.cols = p.cols := by rw [← HX.out]; rfl
                  rw [← e]; exact this
                have h1 := turn_any y.x.t.cols p.cols u.vals y.x.hc.a y.x.hc.c x.hc.a x.hc.c u.h.a u.h.c V (cols_aft (HAX.out.trans (HA.out.trans (HAV.out.trans a))) HPY.out.cols) hcx (vals_aft a hv8)
                rw [HTV.out, HTC.out] at h1
                exact h1)
              have ry := HPY.out.row.aft (HAX.out.trans (HA.out.trans HAV.out))
              have y3 := ry.cell (j := 3) rfl
              have yz := ry.1
              have r9 := (HR4.out.aft HB2.out).cell (j := 3) rfl
              have rz := (HR4.out.aft HB2.out).1
              clear hA8 hu hv8 ry
              go_wp2_with fail
              refine wp_region_mix [true, true, true, true, true, true, true, true, false, true, true, true, true, false] 13 (fun w' => ∃ x : Lat wr, w' = lat wr x) (by kernel_rfl) (by kernel_rfl) ((Aft.refl wr).drew).to ?_
              refine wpMix_reads 8 rfl rfl ?_
              simp only [List.take_succ_cons, List.take_zero, List.drop_succ_cons, List.drop_zero]
              repeat (go_big_quiet_step (fail))
              refine wpQuiet_nil ?_
              refine wpMix_step rfl (fun K hK => ?_)
              go_simp
              obtain ⟨D9, hD9⟩ : ∃ D9, D9 = wr.drew := ⟨_, rfl⟩
              have aD : Aft wr D9 := by rw [hD9]; exact (Aft.refl wr).drew
              rw [← hD9]
              go_at_call 26
              refine (CT.out D9 aD).mono ?_
              rintro e Z ⟨v9, rfl, aZ, ho9⟩
              dsimp only
              refine hK _ _ (fun _ => (aD.trans aZ).to) ?_
              clear hK K hD9
              refine wpMix_reads 4 rfl rfl ?_
              simp only [List.take_succ_cons, List.take_zero, List.drop_succ_cons, List.drop_zero]
              repeat (go_big_quiet_step (fail))
              refine wpQuiet_nil ?_
              refine wpMix_step rfl (fun K hK => ?_)
              go_simp
              refine hK _ _ (fun h => absurd h (by decide)) ?_
              clear hK K
              have HZ := Lib.hid (aD.trans aZ)
              obtain ⟨h9, rfl, hn9⟩ := own_head ho9
              have HO9 := Lib.hid (own_down ho9 aD.size)
              clear ho9 aD aZ CT c8 y3 yz r9 rz hb8
              refine NoPanic.normal ?_
              obtain ⟨n9, hn9⟩ : ∃ n9, (turnVs y.x.t.cols p.cols u.vals).length = n9 := ⟨_, rfl⟩
              have e9 : h9.v = .slice h9.a n9 h9.c := by rw [← hn9]; exact own_slice HO9.out
              have HE9 := Lib.hid e9
              rw [e9]
              clear e9 hn9
              have rsh := HS2.out.row.aft HZ.out
              unfold OShf.cells at rsh
              rw [OTab.cells_of (HS2.out.tab) HX.out, own_slice HS2.out.rows.own] at rsh
              simp only [HL2.out] at rsh
              have e5 : Z.cell? ⟨V3.heap.size + 1, 5, none⟩ = some (.slice h2.a k2 h2.c) := rsh.cell (j := 5) rfl
              have ez : V3.heap.size + 1 < Z.heap.size := rsh.1
              have HRSH := Lib.hid rsh
              have e0 : h2.v = .slice h2.a k2 h2.c := by have := own_slice HS2.out.rows.own; simp only [HL2.out] at this; exact this
              have HE0 := Lib.hid e0
              have ow2 : Z.ownsRow V0.heap.size 34 1 (.slice h2.a k2 h2.c) k2 (R.flatMap ORow.cells) := by
                have := own_aft HS2.out.rows.own HZ.out
                simp only [HL2.out] at this
                rw [e0] at this
                exact this
              have HOW2 := Lib.hid ow2
              have zV := HAV.out.size
              have zZ := HZ.out.size
              clear rsh e0 ow2
              go_wp2_with (at_builtin; refine wpList_append_own2 _ rfl (.tmp 76) (.tmp 78) 47 rfl V0.heap.size 34 i1 (.slice none 0 0) 1 24 Tryz.underlying47 HJ.out HY0.out HY1.out HY2.out rfl (by decide) (.slice h2.a k2 h2.c) k2 (R.flatMap ORow.cells) rfl (own_aft HOW2.out ((Aft.refl _).alloc _)) (some ⟨Z.heap.size, 0, none⟩) 1 1 [.slice h9.a n9 h9.c] rfl rfl ?c0 ?c1 ?c2 ?c3 ?c4 ?c5 ?_)
              case c0 => intro h; cases h
              case c1 =>
                intro ad had j u hj
                injection had with had; subst had
                rw [add_mk, Nat.zero_add]; exact (World.cell?_alloc_at _ _ _ _ rfl).trans (by simpa using hj)
              case c2 => intro u hu; simp only [List.mem_cons, List.not_mem_nil, or_false] at hu; subst hu; simp [Value.oneCell']
              case c3 => unfold maxLen; omega
              case c4 => omega
              case c5 => simp; omega
              intro A' cap' w5 hown' hgrow hblk
              have hnp : ¬ (Value.slice h2.a k2 h2.c).ownBlock = some (V3.heap.size + 1) := fun e => by
                have h1 := HN2.out
                unfold OShf.blks OShf.rblk at h1
                refine (List.nodup_cons.1 h1).1 (List.mem_append.2 (.inr (List.mem_append.2 (.inl (Hd.mem_blk.2 ?_)))))
                rw [HE0.out]; exact e
              have r5 := (Kb.of_grown hgrow).row (HRSH.out.aft ((Aft.refl _).alloc _)) hnp
              have f5 : w5.frozen? ⟨V3.heap.size + 1, 5, none⟩ = false := r5.2.2 5 (by simp)
              have g5 : w5.cell? ⟨V3.heap.size + 1, 5, none⟩ = some (.slice h2.a k2 h2.c) := r5.cell (j := 5) rfl
              have z5 := r5.1
              have HPU := Lib.hid (HS2.out.push (o := ⟨turnVs y.x.t.cols p.cols u.vals, h9⟩) (n := k2 + 1) (A' := A') (cap' := cap') (w5 := w5) (ob := .cells #[.slice h9.a n9 h9.c] 34) HN2.out HZ.out HO9.out (by omega) (by rw [HL2.out]) (by rw [HE0.out]; exact hgrow) (by rw [HE9.out]; exact hown') (by rw [HE0.out]; intro g hg; simpa using hblk g hg))
              have aZ4 : Aft V4 Z := HB2.out.trans HZ.out
              have aw5 : Aft V4 w5 := aft_grown (own_base (own_aft HOW2.out ((Aft.refl Z).alloc (.cells #[.slice h9.a n9 h9.c] 34))) fun g hg => HBK.out g (Hd.mem_blk.2 (by rw [HE0.out]; exact hg))) (aZ4.alloc _) hgrow
              have HA9 := Lib.hid (show Aft V4 (w5.setCell ⟨V3.heap.size + 1, 5, none⟩ (.slice A' (k2 + 1) cap')) from aw5.setCell _ _ (by rw [HV4.out]; exact Nat.le_refl _))
              have z4Z := aZ4.size
              have HBK2 := Lib.hid (show ∀ g ∈ (Hd.mk A' (k2 + 1) cap').blk, V4.heap.size ≤ g from fun g hg => by
                rcases hblk g hg with h | h
                · exact HBK.out g (Hd.mem_blk.2 (by rw [HE0.out]; exact h))
                · omega)
              have HR9 := Lib.hid (show (R ++ [(⟨turnVs y.x.t.cols p.cols u.vals, h9⟩ : ORow)]).map ORow.vals = ((y.rows.take (k2 + 1)).map (·.vals)).map (turnVs y.x.t.cols p.cols) by rw [List.map_append, HR2.out, HRT.out, List.map_append]; rfl)
              clear hown' hgrow hblk hnp r5 e5 ez aZ4 aw5
              go_wp2_with fail
              go_roundw
              case rel => exact ⟨k2 + 1, _, ⟨A', k2 + 1, cap'⟩, by omega, by go_num, HBK2.out, HA9.out, HPU.out.1, HPU.out.2, HR9.out⟩
              case measure => simp [intOf]; omega
            · have e1 : y.rows.take k2 = y.rows := List.take_of_length_le (by omega)
              have HTS2 := Lib.hid (show OShf.s ⟨V3.heap.size + 1, x, R, h2⟩ = turnS (storeS L) p by
                rw [HTS.out]
                unfold OShf.s
                show Shf.mk x.t (R.map _) = _
                rw [HX.out, HR2.out, e1])
              clear e1
              go_wp2_with (at_builtin; refine wpList_append_own2 _ rfl (.tmp 83) (.tmp 85) 70 rfl X.heap.size 80 i0 (.pointer none) 1 8 Tryz.underlying70 HI.out HZ0.out HZ1.out HZ2.out rfl (by decide) (.slice h.a k h.c) k (Ln.flatMap ptrC) rfl ?c6 (some ⟨wr.heap.size, 0, none⟩) 1 1 [.pointer (some ⟨V3.heap.size + 1, 0, none⟩)] rfl rfl ?c0 ?c1 ?c2 ?c3 ?c4 ?c5 ?_)
              case c6 =>
                have := own_aft HSN.out.lst (HAV.out.alloc (.cells #[.pointer (some ⟨V3.heap.size + 1, 0, none⟩)] 80))
                rw [own_slice HSN.out.lst, HLL.out] at this
                exact this
              case c0 => intro h; cases h
              case c1 =>
                intro ad had j u hj
                injection had with had; subst had
                rw [add_mk, Nat.zero_add]; exact (World.cell?_alloc_at _ _ _ _ rfl).trans (by simpa using hj)
              case c2 => intro u hu; simp only [List.mem_cons, List.not_mem_nil, or_false] at hu; subst hu; simp [Value.oneCell']
              case c3 => unfold maxLen; omega
              case c4 => omega
              case c5 => have := HAV.out.size; simp; omega
              intro A' cap' w5 hown' hgrow hblk
              have e0 : h.v = .slice h.a k h.c := by rw [own_slice HSN.out.lst, HLL.out]
              have HP := Lib.hid (show ShsIn w5 X.heap.size ⟨A', k + 1, cap'⟩ (Ln ++ [(⟨V3.heap.size + 1, x, R, h2⟩ : OShf)]) from HSN.out.push (ob := .cells #[.pointer (some ⟨V3.heap.size + 1, 0, none⟩)] 80) HAV.out HS2.out HN2.out zw (by rw [HLL.out]) (by rw [e0]; exact hgrow) hown' (by rw [e0]; intro g hg; simpa using hblk g hg))
              have HA5 := Lib.hid (show Aft X w5 from aft_grown (by rw [← e0]; exact own_aft HSN.out.lst (HAV.out.alloc _)) ((HA.out.trans HAV.out).alloc _) hgrow)
              have HT2 := Lib.hid (show (Ln ++ [(⟨V3.heap.size + 1, x, R, h2⟩ : OShf)]).map OShf.s = (o.tables.take (k + 1)).map (turnS (storeS L)) by rw [List.map_append, HLN.out, List.take_succ_eq_append_getElem hlt, List.map_append, HPP.out, List.map_cons, List.map_nil, List.map_cons, List.map_nil, HTS2.out])
              clear hown' hgrow hblk e0
              go_wp2_with fail
              go_roundw
              case rel => exact ⟨k + 1, ⟨A', k + 1, cap'⟩, _, by omega, by go_num, rfl, HT2.out, HA5.out, HP.out⟩
              case measure => simp [intOf]; omega
      · have e1 : o.tables.take k = o.tables := List.take_of_length_le (by omega)
        have HFI := Lib.hid (show Ln.map OShf.s = o.tables.map (turnS (storeS L)) by rw [HLN.out, e1])
        have rs := HIN.out.row.aft (HAX.out.trans HA.out)
        have s0 := rs.cell (j := 0) rfl
        have sf : wr.frozen? ⟨s, 0, none⟩ = false := rs.2.2 0 (by simp)
        have sz := rs.1
        have HRS := Lib.hid rs
        have hsw : s < w.heap.size := HIN.out.row.1
        have hBs := HIN.out.ge
        have zX := HAX.out.size
        clear e1 rs
        go_wp2_with fail
        go_ret
        rw [HDD.out]
        have hlt := HSN.out.lt
        have e0 : h.v = .slice h.a k h.c := by rw [own_slice HSN.out.lst, HLL.out]
        rw [← e0]
        have kS : Kb (fun g => g = s) wr (wr.setCell ⟨s, 0, none⟩ h.v) := Kb.set _ _ _ _
        have hBX : B ≤ X.heap.size := by omega
        have ss2 := (HSN.out.kb kS fun g hg e => by have := (hlt g hg).1; have e : g = s := e; omega)
        have rS : RowAt (wr.setCell ⟨s, 0, none⟩ h.v) s [h.v] := HRS.out.set 0 h.v (by simp)
        have hfin : StoIn (wr.setCell ⟨s, 0, none⟩ h.v) B s h Ln := ⟨hBs, rS, own_down ss2.lst hBX, fun y hy => (ss2.each y hy).down hBX, List.nodup_cons.2 ⟨fun hg => by have := (hlt s hg).1; omega, ss2.nd⟩⟩
        exact loadQ_yes hfin HFI.out ((Kb.of_aft (HAX.out.trans HA.out)).trans kS) fun g hg => .inr (by have := (hlt g hg).1; omega)
  · rw [show checkE o = 63 by unfold checkE; rw [if_neg hck]]
    have HDD := Lib.hid (show D = (storeS L, 63) from HD.out.trans (if_neg hck))
    go_wp2_with fail
    go_ret
    rw [HDD.out]
    exact loadQ_no HIN.out HAX.out 63
end Go.Proofs.YtiadkchlkdaceaaGreat

namespace Go.Proofs.YtiadkchlkdaceaaGreat
open Go.RowKit
set_option maxRecDepth 100000
set_option linter.unusedVariables false
theorem idxP_mapS {α β : Type} (p : β → Bool) (f : α → β) : ∀ l : List α, idxP p (l.map f) = idxP (fun a => p (f a)) l
  | [] => rfl
  | a :: l => by
    rw [List.map_cons]
    show (if p (f a) then (0 : Int) else if idxP p (l.map f) < 0 then -1 else idxP p (l.map f) + 1) = (if p (f a) then (0 : Int) else if idxP (fun a => p (f a)) l < 0 then -1 else idxP (fun a => p (f a)) l + 1)
    rw [idxP_mapS p f l]
theorem own_shf {S : List Shf} {ss : List Sch} (h : SOk S ss) {j : Nat} (hj : j < S.length) : shfAt S S[j].t.schema S[j].t.name = j := by
  have h1 := good_own (o := ⟨ss, S.map (·.t)⟩) h.good (k := j) (by simpa using hj)
  simp only [List.getElem_map] at h1
  unfold tabAt at h1
  unfold shfAt
  rw [← h1]
  exact (idxP_mapS (fun t : Tab => eqS t.schema S[j].t.schema && eqS t.name S[j].t.name) Shf.t S).symm
theorem col_none {l : List Col} (h : colsOk l = true) : colAt l ⟨#[]⟩ < 0 := by
  rcases Int.lt_or_le (colAt l ⟨#[]⟩) 0 with h1 | h1
  · exact h1
  · exfalso
    obtain ⟨c, hc, e⟩ := List.any_eq_true.1 ((any_iff (fun c : Col => eqS c.name ⟨#[]⟩) l).2 h1)
    have h2 := ((colsOk_iff l).1 h).2.1 c hc
    have e2 : c.name = ⟨#[]⟩ := (eqS_iff9 _ _).1 e
    unfold colOk at h2
    rw [e2, show nameB ⟨#[]⟩ = false by decide +kernel] at h2
    cases h2
theorem doS_is' (S : List Shf) (x : ROp) : doS S x = if mayO x = false then (S, [], 1) else if shfAt S x.schema x.table < 0 then (S, [], 110) else if emp x.col = false ∧ colAt (shfN S (shfAt S x.schema x.table).toNat).t.cols x.col < 0 then (S, [], 110)
    else if x.kind = 1 then (if wrongS S (shfAt S x.schema x.table).toNat x.row ≠ 0 then (S, [], wrongS S (shfAt S x.schema x.table).toNat x.row) else (putS S (shfAt S x.schema x.table).toNat ((shfN S (shfAt S x.schema x.table).toNat).rows ++ [x.row]), [x.row], 0)) else if x.kind = 2 then removeS S (shfAt S x.schema x.table).toNat x.col x.v else chooseS S (shfAt S x.schema x.table).toNat x.col x.v := rfl
end Go.Proofs.YtiadkchlkdaceaaGreat

