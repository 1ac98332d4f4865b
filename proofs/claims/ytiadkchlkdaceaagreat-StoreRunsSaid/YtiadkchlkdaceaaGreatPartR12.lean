/- Contracts of the program, part 12. -/
import Derived.Deep.Onto
import Derived.LaidEqlPtr
import Derived.OwnWalk
import Derived.Laws.AppendOwn
import Derived.ProofKit
import Derived.OpenShut
import Derived.Deep.Slices
import Derived.ChangeOld
import Derived.SizedLaws
import Derived.WalkKit
import Derived.WalkSpells
import Derived.WalkLawsBesides
import Derived.Lib.Hide
import Derived.Deep.QuietTactic
import Derived.BigQuiet
import Derived.Below
import Derived.Deep.Draws
import Derived.StillTailTactics
import Derived.Laws.Cells
import Derived.Laws.IdiomCopy
import Derived.Test.YtiadkchlkdaceaaGreatRows
import Derived.Lib.Bytealg
import Derived.IntWalk
import Derived.ShutString
import Derived.Shelf.SlSortCmp.WholeK
import Derived.Lib.SliceRun
import Derived.Deep.AppendLies
import Derived.Deep.Upon
import Derived.OneCell
import Derived.Deep.DeepMust
import Derived.Deep.RegionLaw
import Derived.Deep.RegionHeld3
import Derived.Shelf.RegionOpen
import Derived.Sort.BigQuietIn
import Derived.RangeFuncNested
import Derived.RangeFuncBound
import Derived.RangeFuncCalls
import Derived.RangeFuncLeaves
import Derived.Shelf.Abstract
import Derived.OwnWalkIn
import Derived.TacticsInMore
import Derived.LoopNIn
import Derived.LoopIn
import Derived.Sort.QuietTacIn
import Derived.NoCompiler
import Derived.OrdersHeld
import Derived.Lib.Walk
import Derived.Test.YtiadkchlkdaceaaGreatPartR1
import Derived.Test.YtiadkchlkdaceaaGreatPartR2
import Derived.Test.YtiadkchlkdaceaaGreatPartR3
import Derived.Test.YtiadkchlkdaceaaGreatPartR4
import Derived.Test.YtiadkchlkdaceaaGreatPartR5
import Derived.Test.YtiadkchlkdaceaaGreatPartR6
import Derived.Test.YtiadkchlkdaceaaGreatPartR7
import Derived.Test.YtiadkchlkdaceaaGreatPartR8
import Derived.Test.YtiadkchlkdaceaaGreatPartR9
import Derived.Test.YtiadkchlkdaceaaGreatPartR10
import Derived.Test.YtiadkchlkdaceaaGreatPartR11
namespace Go.Proofs.YtiadkchlkdaceaaGreat
open Go.RowKit Go.Deep
set_option maxRecDepth 100000
set_option linter.unusedVariables false
/-- a table and its rows in the document's store -/
structure RShf where
  x : OTab
  rows : List ORow
  hr : Hd
def RShf.s (y : RShf) : Shf := ⟨y.x.t, y.rows.map (·.vals)⟩
def RShf.rblk (y : RShf) : List Nat := rowBlks y.hr y.rows
def refS (L : List RShf) : List Shf := L.map RShf.s
def hrR (y : RShf) : List Value := [y.hr.v]
/-- the blocks that are never written -/
def immB (hs ht : Hd) (L : List RShf) : List Nat := (hs.blk ++ (ht.blk ++ (L.map RShf.x).flatMap OTab.blks)) ++ L.flatMap RShf.rblk
def refB (s : Nat) (hs ht hm : Hd) (L : List RShf) : List Nat := s :: (hm.blk ++ immB hs ht L)
structure RefIn (w : World) (B s : Nat) (hs ht hm : Hd) (ss : List Sch) (L : List RShf) : Prop where
  ge : B ≤ s
  row : RowAt w s [hs.v, ht.v, hm.v]
  obj : ObjIn w B hs ht ss (L.map RShf.x)
  lst : w.ownsRow B 47 1 hm.v L.length (L.flatMap hrR)
  each : ∀ y ∈ L, RowsIn w B y.hr y.rows
  fs : s ∉ hm.blk ++ immB hs ht L
  fm : ∀ g ∈ hm.blk, g ∉ immB hs ht L
section
variable {w w' : World} {B s : Nat} {hs ht hm : Hd} {ss : List Sch} {L : List RShf}
theorem mem_immO {g : Nat} (h : g ∈ hs.blk ++ (ht.blk ++ (L.map RShf.x).flatMap OTab.blks)) : g ∈ immB hs ht L := List.mem_append.2 (.inl h)
theorem mem_immR {g : Nat} {y : RShf} (hy : y ∈ L) (h : g ∈ rowBlks y.hr y.rows) : g ∈ immB hs ht L := List.mem_append.2 (.inr (List.mem_flatMap.2 ⟨y, hy, h⟩))
theorem RefIn.kb {P : Nat → Prop} (h : RefIn w B s hs ht hm ss L) (k : Kb P w w') (hne : ∀ g ∈ refB s hs ht hm L, ¬ P g) : RefIn w' B s hs ht hm ss L :=
  ⟨h.ge, k.row h.row (hne s (List.mem_cons_self ..)), h.obj.kb k fun g hg => hne g (List.mem_cons_of_mem _ (List.mem_append.2 (.inr (mem_immO hg)))), own_kb h.lst k fun g hg => hne g (List.mem_cons_of_mem _ (List.mem_append.2 (.inl (Hd.mem_blk.2 hg)))),
    fun y hy => (h.each y hy).kb k fun g hg => hne g (List.mem_cons_of_mem _ (List.mem_append.2 (.inr (mem_immR hy hg)))), h.fs, h.fm⟩
theorem RefIn.aft (h : RefIn w B s hs ht hm ss L) (a : Aft w w') : RefIn w' B s hs ht hm ss L := h.kb (P := fun _ => False) (Kb.of_aft a) fun _ _ h => h
theorem RefIn.lt (h : RefIn w B s hs ht hm ss L) : ∀ g ∈ refB s hs ht hm L, B ≤ g ∧ g < w.heap.size := fun g hg => by
  rcases List.mem_cons.1 hg with rfl | hg
  · exact ⟨h.ge, h.row.1⟩
  rcases List.mem_append.1 hg with hg | hg
  · exact blk_lt h.lst g hg
  rcases List.mem_append.1 hg with hg | hg
  · exact h.obj.lt g hg
  · obtain ⟨y, hy, hg⟩ := List.mem_flatMap.1 hg
    exact (h.each y hy).lt g hg
theorem refS_tabs (L : List RShf) : (refS L).map (·.t) = (L.map RShf.x).map OTab.t := by
  unfold refS
  rw [List.map_map, List.map_map]
  rfl
theorem RefIn.rowsAt (h : RefIn w B s hs ht hm ss L) (ok : SOk (refS L) ss) {y : RShf} (hy : y ∈ L) : SlAt w 1 RowsR y.hr.a y.hr.c (y.rows.map (·.vals)) := by
  have hx : y.s ∈ refS L := List.mem_map_of_mem hy
  have hok := ok.shf hx
  have hlen : y.rows.length ≤ 64 := by have := hok.1; simpa [RShf.s] using this
  exact RowsIn.at (h.each y hy) (by omega) fun o ho => row_small hok.2.1 (hok.2.2 o.vals (List.mem_map_of_mem ho))
theorem RefIn.at (h : RefIn w B s hs ht hm ss L) (ok : SOk (refS L) ss) (sm : SmO (objOf ss (L.map RShf.x))) : RefAt w s ss (refS L) hs.a hs.c ht.a ht.c hm.a hm.c := by
  have h64 : L.length ≤ 64 := by have := ok.good.nt; simpa [refS] using this
  refine ⟨?_, h.obj.schs sm, ?_, ?_⟩
  · have e := h.row
    rw [own_slice h.obj.sch, own_slice h.obj.tab, own_slice h.lst] at e
    simpa [refS] using e
  · rw [refS_tabs]
    exact h.obj.tabs sm
  · have e : (refS L).map (·.rows) = L.map fun y => y.rows.map (·.vals) := by unfold refS; rw [List.map_map]; rfl
    rw [e]
    exact own_slo (R := RowsLR) hrR (fun y => y.rows.map (·.vals)) h.lst (fun y hy => ⟨rfl, y.hr.a, y.hr.c, by unfold hrR; rw [own_slice (h.each y hy).own, List.length_map], h.rowsAt ok hy⟩) (by unfold Small; omega)
theorem refS_set {q : Nat} {R' : List ORow} {h' : Hd} (hq : q < L.length) : refS (L.set q (RShf.mk L[q].x R' h')) = putS (refS L) q (R'.map (·.vals)) := by
  unfold refS putS
  rw [List.map_set, shfN_get (by simpa using hq), List.getElem_map]
  rfl
theorem refS_x {q : Nat} {R' : List ORow} {h' : Hd} (hq : q < L.length) : (L.set q (RShf.mk L[q].x R' h')).map RShf.x = L.map RShf.x := by
  rw [List.map_set]
  have hq2 : q < (L.map RShf.x).length := by simpa using hq
  have : (L.map RShf.x).set q L[q].x = (L.map RShf.x).set q ((L.map RShf.x)[q]'hq2) := by rw [List.getElem_map]
  rw [this]
  exact List.set_getElem_self hq2
theorem imm_set {q : Nat} {R' : List ORow} {h' : Hd} (hq : q < L.length) {g : Nat} (hg : g ∈ immB hs ht (L.set q (RShf.mk L[q].x R' h'))) : g ∈ immB hs ht L ∨ g ∈ rowBlks h' R' := by
  unfold immB at hg
  rw [refS_x hq] at hg
  rcases List.mem_append.1 hg with hg | hg
  · exact .inl (mem_immO hg)
  · obtain ⟨y, hy, hg⟩ := List.mem_flatMap.1 hg
    rcases List.mem_or_eq_of_mem_set hy with hy | rfl
    · exact .inl (mem_immR hy hg)
    · exact .inr hg
/-- the list of a table's rows is another one now -/
theorem RefIn.turn {q gm : Nat} {h' : Hd} {R' : List ORow} (h : RefIn w B s hs ht hm ss L) (hq : q < L.length) (hgm : hm.a = some ⟨gm, 0, none⟩) (rin : RowsIn w B h' R') (hb : ∀ g ∈ rowBlks h' R', g ≠ s ∧ g ∉ hm.blk) :
    RefIn (w.setCell ⟨gm, q, none⟩ h'.v) B s hs ht hm ss (L.set q (RShf.mk L[q].x R' h')) := by
  have hob : hm.v.ownBlock = some gm := by unfold Hd.v; rw [hgm]; rfl
  have hgb : gm ∈ hm.blk := Hd.mem_blk.2 hob
  have k := Kb.set w gm q h'.v
  have hsg : s ≠ gm := fun e => h.fs (List.mem_append.2 (.inl (by rw [e]; exact hgb)))
  refine ⟨h.ge, k.row h.row hsg, ?_, ?_, fun y hy => ?_, fun hm2 => ?_, fun g hg hg2 => ?_⟩
  · rw [refS_x hq]
    exact h.obj.kb k fun g hg e => h.fm gm hgb (by rw [← e]; exact mem_immO hg)
  · have e := own_set h.lst hob q h'.v
    have e2 := flatMap_set (f := hrR) (size := 1) (fun _ => rfl) L q 0 hq (by decide) h'.v ⟨L[q].x, R', h'⟩ rfl
    rw [Nat.mul_one, Nat.add_zero] at e2
    rw [e2] at e
    simpa using e
  · rcases List.mem_or_eq_of_mem_set hy with hy | rfl
    · exact (h.each y hy).kb k fun g hg e => h.fm gm hgb (by rw [← e]; exact mem_immR hy hg)
    · exact rin.kb k fun g hg e => (hb g hg).2 (by rw [e]; exact hgb)
  · rcases List.mem_append.1 hm2 with h1 | h1
    · exact h.fs (List.mem_append.2 (.inl h1))
    · rcases imm_set hq h1 with h1 | h1
      · exact h.fs (List.mem_append.2 (.inr h1))
      · exact (hb s h1).1 rfl
  · rcases imm_set hq hg2 with h1 | h1
    · exact h.fm g hg h1
    · exact (hb g h1).2 hg
/-- what an operation on the document's store leaves -/
def RefDoQ (w : World) (B s : Nat) (hs ht hm : Hd) (ss : List Sch) (L : List RShf) (r : List Shf × List (List Val) × Int) (e : Ending) (w' : World) : Prop :=
  ∃ L' A c, refS L' = r.1 ∧ L'.map RShf.x = L.map RShf.x ∧ e = .returned (.tuple #[.slice A r.2.1.length c, .int .i64 r.2.2]) ∧ Kb (fun g => g ∈ hm.blk) w w' ∧ RefIn w' B s hs ht hm ss L' ∧ SlAt w' 1 RowsR A c r.2.1 ∧ ∀ g ∈ refB s hs ht hm L', g ∈ refB s hs ht hm L ∨ w.heap.size ≤ g
theorem refDo_no (h : RefIn w B s hs ht hm ss L) (a : Aft w w') (c : Int) : RefDoQ w B s hs ht hm ss L (refS L, [], c) (.returned (.tuple #[.slice none 0 0, .int .i64 c])) w' :=
  ⟨L, none, 0, rfl, rfl, rfl, Kb.of_aft a, h.aft a, slAt_nil, fun g hg => .inl hg⟩
end
end Go.Proofs.YtiadkchlkdaceaaGreat

namespace Go.Proofs.YtiadkchlkdaceaaGreat
open Go.RowKit
set_option maxRecDepth 100000
set_option linter.unusedVariables false
set_option maxHeartbeats 8000000 in
theorem rfit_any (t : Tab) (row : List Val) (A : Option Addr) (cap : Nat) (A2 : Option Addr) (cap2 : Nat) (B : Option Addr) (capB : Nat) (w : World) (h : SlAt w 3 ColR A cap t.cols) (h2 : SlAt w 8 RulR A2 cap2 t.rules) (h3 : SlAt w 3 ValR B capB row) :
    Calls Tryz.prog 47 #[.agg #[.string t.schema, .string t.name, .string t.owner, .slice A t.cols.length cap, .slice A2 t.rules.length cap2], .slice B row.length capB] w
      fun e w' => e = .returned (.int .i64 (fitE t row)) ∧ Aft w w' := by
  obtain ⟨c, hc⟩ : ∃ c, tableOk t = c := ⟨_, rfl⟩
  obtain ⟨f, hf⟩ : ∃ f, besideB formB t.cols row = f := ⟨_, rfl⟩
  have Ck := Lib.hid (show ∀ w', Aft w w' → Calls Tryz.prog 81 #[.agg #[.string t.schema, .string t.name, .string t.owner, .slice A t.cols.length cap, .slice A2 t.rules.length cap2]] w' fun e w'' => e = .returned (.bool c) ∧ Aft w' w'' from
    fun w' a => (rtable_any t A cap A2 cap2 w' (cols_aft a h) (ruls_aft a h2)).mono fun e w'' ⟨he, hw⟩ => ⟨he.trans (by rw [hc]), hw⟩)
  have Cf := Lib.hid (show ∀ w', Aft w w' → Calls Tryz.prog 65 #[.slice A t.cols.length cap, .slice B row.length capB] w' fun e w'' => e = .returned (.bool f) ∧ Aft w' w'' from
    fun w' a => (rform_any A cap t.cols B capB row w' (cols_aft a h) (vals_aft a h3)).mono fun e w'' ⟨he, hw⟩ => ⟨he.trans (by rw [hf]), hw⟩)
  have HT := Lib.hid hc
  have HFo := Lib.hid hf
  have hlen := h.len
  have hlen2 := h2.len
  have hlen3 := h3.len
  clear hc hf
  go_enter Tryz.func47, Tryz.ntmps47
  go_wp2_with fail
  refine (Ck.out _ ((Aft.refl w).alloc _)).mono ?_
  rintro e w1 ⟨rfl, a1⟩
  obtain ⟨hbt, hfr, hz, hzk, HA⟩ := aft_box a1
  have HAB := Lib.hid a1
  clear a1 Ck
  cases c
  · have HR := Lib.hid (fitE_1 (row := row) HT.out)
    go_wp2_with fail
    go_ret
    exact ⟨by rw [HR.out]; rfl, HA.out⟩
  go_wp2_with fail
  refine (Cf.out _ HA.out).mono ?_
  rintro e w2 ⟨rfl, a2⟩
  have HAB2 := Lib.hid (HAB.out.trans a2)
  clear a2 Cf HA HAB hbt hfr hz hzk
  obtain ⟨hbt, hfr, hz, hzk, HA⟩ := aft_box HAB2.out
  cases f
  · have HR := Lib.hid (fitE_100 HT.out HFo.out)
    go_wp2_with fail
    go_ret
    exact ⟨by rw [HR.out]; rfl, HA.out⟩
  have HLL := Lib.hid (show t.cols.length = row.length from ((besideB_iff formB t.cols row).1 HFo.out).1)
  go_wp2_with fail
  go_loop [5] (fun i => ∃ k : Nat, k ≤ row.length ∧ i = .int .i64 k ∧ ∀ j, j < k → ∀ (hj : j < t.cols.length) (hj2 : j < row.length), nullB t.cols[j] row[j] = true) (fun i => row.length - (intOf i).toNat)
  case atStart => exact ⟨0, Nat.zero_le _, rfl, fun j hj => absurd hj (Nat.not_lt_zero j)⟩
  case round =>
    obtain ⟨k0, hk0, rfl, hp⟩ := hrel
    have HP0 := Lib.hid hp; clear hp
    by_cases hlt0 : k0 < row.length
    · have hlc : k0 < t.cols.length := by have := HLL.out; omega
      obtain ⟨b, off, rfl, hb, c0, c1, c2, _⟩ := col_at (cols_aft HA.out h) hlc
      obtain ⟨b2, off2, rfl, hb2, d0, d1, d2, _⟩ := val_at (vals_aft HA.out h3) hlt0
      cases g1 : (row[k0].kind == 1)
      · have HN := Lib.hid (ext_lt (p := fun j => ∀ (hj : j < t.cols.length) (hj2 : j < row.length), nullB t.cols[j] row[j] = true) HP0.out (fun _ _ => by unfold nullB; rw [show (row[k0].kind != 1) = true by simpa using g1]; simp))
        go_wp2_with fail
        go_round
        case rel => exact ⟨k0 + 1, by omega, by go_num, HN.out⟩
        case measure => simp [intOf]; omega
      · cases g2 : t.cols[k0].null
        · have HR := Lib.hid (fitE_101 HT.out HFo.out (besideB_false nullB t.cols row k0 hlc hlt0 (by unfold nullB; rw [g2, show (row[k0].kind != 1) = false by simpa using g1]; rfl)))
          go_wp2_with fail
          go_ret
          exact ⟨by rw [HR.out]; rfl, HA.out⟩
        · have HN := Lib.hid (ext_lt (p := fun j => ∀ (hj : j < t.cols.length) (hj2 : j < row.length), nullB t.cols[j] row[j] = true) HP0.out (fun _ _ => by unfold nullB; rw [g2]; rfl))
          go_wp2_with fail
          go_round
          case rel => exact ⟨k0 + 1, by omega, by go_num, HN.out⟩
          case measure => simp [intOf]; omega
    have HNu := Lib.hid (besideB_true nullB t.cols row HLL.out fun j hj hj2 => HP0.out j (by omega) hj hj2)
    have HR := Lib.hid (fitE_any HT.out HFo.out HNu.out)
    clear HP0
    go_wp2_with fail
    go_loopw [6] (fun i wr => ∃ k : Nat, k ≤ t.rules.length ∧ i = .int .i64 k ∧ Aft (w.alloc (.cells #[.string t.schema, .string t.name, .string t.owner, .slice A t.cols.length cap, .slice A2 t.rules.length cap2] 76)) wr ∧ ∀ j, j < k → ∀ (hj : j < t.rules.length), badR t.cols row t.rules[j] = false) (fun i _ => t.rules.length - (intOf i).toNat)
    case atStart => exact ⟨0, Nat.zero_le _, rfl, HAB2.out, fun j hj => absurd hj (Nat.not_lt_zero j)⟩
    case round =>
      clear hbt hfr hz hzk HA HAB2
      obtain ⟨k, hk, rfl, ha, hp⟩ := hrel
      obtain ⟨hbt, hfr, hz, hzk, HA⟩ := aft_box ha
      have HAB := Lib.hid ha
      have HP := Lib.hid hp; clear hp ha
      by_cases hlt : k < t.rules.length
      · have hr := ruls_aft HA.out h2
        have htf := table_fits HT.out hlt
        obtain ⟨b, off, D2, capD2, rfl, hb, c0, c1, c2, c3, c4, c5, c6, c7, hcs, _⟩ := rul_at hr hlt
        obtain ⟨p, hpp⟩ : ∃ p, t.rules[k] = p := ⟨_, rfl⟩
        rw [hpp] at c0 c1 c2 c3 c4 c5 c6 c7 hcs htf
        have HPP := Lib.hid hpp
        clear hr hpp
        cases h3k : (p.kind != 3)
        · have h3' : (p.kind == 3) = true := by simpa using h3k
          have hp0 := fits_pos htf
          have hq0 := fits_cols htf hp0
          obtain ⟨q, hq⟩ := Int.eq_ofNat_of_zero_le hq0
          have hql := colAt_lt hq
          have hqr : q < row.length := by have := HLL.out; omega
          have HBD := Lib.hid (show badR t.cols row t.rules[k] = outB row[q] p by rw [HPP.out]; exact badR_of h3' hp0 hq hqr)
          obtain ⟨W, hW⟩ : ∃ W, W = wr.alloc (.cells #[.string p.name, .int .i64 p.kind, .slice D2 p.cols.length capD2, .int .i64 p.low, .int .i64 p.high, .string p.schema, .string p.table, .string p.key] 108) := ⟨_, rfl⟩
          have aW : Aft wr W := by rw [hW]; exact (Aft.refl wr).alloc _
          have hbW : ∀ o, W.cell? ⟨wr.heap.size, o, none⟩ = (#[.string p.name, .int .i64 p.kind, .slice D2 p.cols.length capD2, .int .i64 p.low, .int .i64 p.high, .string p.schema, .string p.table, .string p.key] : Array Value)[o]? := by intro o; rw [hW]; simp
          obtain ⟨b5, off5, hD, hb5, g5, _⟩ := str_at (strs_aft aW hcs) hp0
          subst hD
          obtain ⟨b6, off6, hBB, hb6, v0, v1, v2, _⟩ := val_at (vals_aft (HA.out.trans aW) h3) hqr
          subst hBB
          have g5' : W.cell? ⟨b5, off5, none⟩ = some (.string p.cols[0]) := by simpa using g5
          have t3 : W.cell? ⟨w.heap.size, 3, none⟩ = some (.slice A t.cols.length cap) := aW.cell_kept (hbt 3)
          have r2 : W.cell? ⟨wr.heap.size, 2, none⟩ = some (.slice (some ⟨b5, off5, none⟩) p.cols.length capD2) := hbW 2
          have r3 : W.cell? ⟨wr.heap.size, 3, none⟩ = some (.int .i64 p.low) := hbW 3
          have r4 : W.cell? ⟨wr.heap.size, 4, none⟩ = some (.int .i64 p.high) := hbW 4
          have HAW := Lib.hid (HA.out.trans aW)
          have HABW := Lib.hid (HAB.out.trans aW)
          have Cp := Lib.hid (show ∀ w', Aft W w' → Calls Tryz.prog 37 #[.slice A t.cols.length cap, .string p.cols[0]] w' fun e w'' => e = .returned (.int .i64 q) ∧ w' = w'' from
            fun w' a => (rcol_any A cap t.cols p.cols[0] w' (cols_aft (HAW.out.trans a) h)).mono fun e w'' ⟨he, hw⟩ => ⟨he.trans (by rw [← hq]; rfl), hw⟩)
          have hzr : wr.heap.size < W.heap.size := by rw [hW]; simp
          clear hq hq0 htf
          go_wp2_with fail
          rw [← hW]
          clear hW
          have KF := Lib.hid (show ∀ w', Aft W w' → (Aft W w' ∧ w'.cell? ⟨w.heap.size, 3, none⟩ = some (.slice A t.cols.length cap) ∧ w'.cell? ⟨wr.heap.size, 2, none⟩ = some (.slice (some ⟨b5, off5, none⟩) p.cols.length capD2) ∧ w'.cell? ⟨b5, off5, none⟩ = some (.string p.cols[0]) ∧ w'.cell? ⟨b6, off6 + q * 3, none⟩ = some (.int .i64 row[q].kind) ∧ w'.cell? ⟨b6, off6 + q * 3 + 1, none⟩ = some (.int .i64 row[q].int) ∧ w'.cell? ⟨b6, off6 + q * 3 + 2, none⟩ = some (.string row[q].text)) from fun w' a => ⟨a, a.cell_kept t3, a.cell_kept r2, a.cell_kept g5', a.cell_kept v0, a.cell_kept v1, a.cell_kept v2⟩)
          go_region_held3 (fun w' => Aft W w' ∧ w'.cell? ⟨w.heap.size, 3, none⟩ = some (.slice A t.cols.length cap) ∧ w'.cell? ⟨wr.heap.size, 2, none⟩ = some (.slice (some ⟨b5, off5, none⟩) p.cols.length capD2) ∧ w'.cell? ⟨b5, off5, none⟩ = some (.string p.cols[0]) ∧ w'.cell? ⟨b6, off6 + q * 3, none⟩ = some (.int .i64 row[q].kind) ∧ w'.cell? ⟨b6, off6 + q * 3 + 1, none⟩ = some (.int .i64 row[q].int) ∧ w'.cell? ⟨b6, off6 + q * 3 + 2, none⟩ = some (.string row[q].text))
            (first | exact KF.out _ (Aft.refl _).drew | assumption | exact KF.out _ (Aft.drew (Aft.alloc (Aft.refl W) _)))
            ((go_at_call 37; refine (Cp.out _ (And.left (by assumption : Aft W _ ∧ _))).mono ?_; rintro e w4 ⟨rfl, rfl⟩))
          all_goals
            obtain ⟨E, hE⟩ : ∃ E, E = (W.alloc (.cells #[.int .i64 row[q].kind, .int .i64 row[q].int, .string row[q].text] 37)).drew := ⟨_, rfl⟩
            have aE : Aft W E := by rw [hE]; exact ((Aft.refl W).alloc _).drew
            have x0 : E.cell? ⟨W.heap.size, 0, none⟩ = some (.int .i64 row[q].kind) := by rw [hE]; exact World.cell?_alloc_at _ _ _ _ rfl
            have x1 : E.cell? ⟨W.heap.size, 1, none⟩ = some (.int .i64 row[q].int) := by rw [hE]; exact World.cell?_alloc_at _ _ _ _ rfl
            have y3 : E.cell? ⟨wr.heap.size, 3, none⟩ = some (.int .i64 p.low) := aE.cell_kept r3
            have y4 : E.cell? ⟨wr.heap.size, 4, none⟩ = some (.int .i64 p.high) := aE.cell_kept r4
            have HAE := Lib.hid (HABW.out.trans aE)
            have HAE0 := Lib.hid (HAW.out.trans aE)
            rw [← hE]
            clear hE aE
            cases g2 : (row[q].kind == 2)
            · have HN := Lib.hid (ext_lt (p := fun j => ∀ (hj : j < t.rules.length), badR t.cols row t.rules[j] = false) HP.out (fun _ => by rw [HBD.out]; unfold outB; rw [g2]; rfl))
              go_wp2_with fail
              go_roundw
              case rel => exact ⟨k + 1, by omega, by go_num, HAE.out, HN.out⟩
              case measure => simp [intOf]; omega
            by_cases gl : row[q].int < p.low
            · have HX := Lib.hid (show fitE t row = 102 by rw [HR.out, any_true _ _ k hlt (by rw [HBD.out]; unfold outB; rw [g2, decide_eq_true gl]; rfl)]; rfl)
              have dl : decide (row[q].int < p.low) = true := decide_eq_true gl
              go_wp2_with fail
              go_ret
              exact ⟨by rw [HX.out]; rfl, HAE0.out⟩
            have dl : decide (row[q].int < p.low) = false := decide_eq_false gl
            by_cases gh : p.high < row[q].int
            · have HX := Lib.hid (show fitE t row = 102 by rw [HR.out, any_true _ _ k hlt (by rw [HBD.out]; unfold outB; rw [g2, dl, decide_eq_true gh]; rfl)]; rfl)
              have dh : decide (p.high < row[q].int) = true := decide_eq_true gh
              go_wp2_with fail
              go_ret
              exact ⟨by rw [HX.out]; rfl, HAE0.out⟩
            · have dh : decide (p.high < row[q].int) = false := decide_eq_false gh
              have HN := Lib.hid (ext_lt (p := fun j => ∀ (hj : j < t.rules.length), badR t.cols row t.rules[j] = false) HP.out (fun _ => by rw [HBD.out]; unfold outB; rw [g2, dl, dh]; rfl))
              go_wp2_with fail
              go_roundw
              case rel => exact ⟨k + 1, by omega, by go_num, HAE.out, HN.out⟩
              case measure => simp [intOf]; omega
        · have HN := Lib.hid (ext_lt (p := fun j => ∀ (hj : j < t.rules.length), badR t.cols row t.rules[j] = false) HP.out (fun _ => by rw [HPP.out]; unfold badR; rw [show (p.kind == 3) = false by simpa using h3k]; rfl))
          go_wp2_with fail
          go_roundw
          case rel => exact ⟨k + 1, by omega, by go_num, HAB.out.alloc _, HN.out⟩
          case measure => simp [intOf]; omega
      · have HF := Lib.hid (show fitE t row = 0 by rw [HR.out, any_false _ _ fun j hj => HP.out j (by omega) hj]; rfl)
        go_wp2_with fail
        go_ret
        exact ⟨by rw [HF.out]; rfl, HA.out⟩
end Go.Proofs.YtiadkchlkdaceaaGreat

namespace Go.Proofs.YtiadkchlkdaceaaGreat
open Go.RowKit Go.Deep
set_option maxRecDepth 100000
set_option linter.unusedVariables false
theorem insS_fit {S : List Shf} {q : Nat} {row : List Val} {f : Int} (h : fitE (shfN S q).t row = f) (hf : f ≠ 0) : insS S q row = (S, [], f) := by
  have : wrongS S q row = f := by unfold wrongS; rw [if_pos (by rw [h]; exact hf), h]
  unfold insS; rw [this, if_pos hf]
theorem insS_most {S : List Shf} {q : Nat} {row : List Val} (h : fitE (shfN S q).t row = 0) (h2 : 64 ≤ (shfN S q).rows.length) : insS S q row = (S, [], 2) := by
  have : wrongS S q row = 2 := by unfold wrongS; rw [if_neg (by rw [h]; simp), if_pos h2]
  unfold insS; rw [this]; rfl
theorem insS_key {S : List Shf} {q : Nat} {row : List Val} (h : fitE (shfN S q).t row = 0) (h2 : ¬ 64 ≤ (shfN S q).rows.length) (h3 : (shfN S q).t.rules.any (keyHit (shfN S q).t (shfN S q).rows row) = true) : insS S q row = (S, [], 111) := by
  have : wrongS S q row = 111 := by unfold wrongS; rw [if_neg (by rw [h]; simp), if_neg h2, if_pos h3]
  unfold insS; rw [this]; rfl
theorem insS_far {S : List Shf} {q : Nat} {row : List Val} (h : fitE (shfN S q).t row = 0) (h2 : ¬ 64 ≤ (shfN S q).rows.length) (h3 : (shfN S q).t.rules.any (keyHit (shfN S q).t (shfN S q).rows row) = false) (h4 : (shfN S q).t.rules.any (farHit S q row) = true) : insS S q row = (S, [], 112) := by
  have : wrongS S q row = 112 := by unfold wrongS; rw [if_neg (by rw [h]; simp), if_neg h2, if_neg (by rw [h3]; simp), if_pos h4]
  unfold insS; rw [this]; rfl
theorem insS_yes {S : List Shf} {q : Nat} {row : List Val} (h : fitE (shfN S q).t row = 0) (h2 : ¬ 64 ≤ (shfN S q).rows.length) (h3 : (shfN S q).t.rules.any (keyHit (shfN S q).t (shfN S q).rows row) = false) (h4 : (shfN S q).t.rules.any (farHit S q row) = false) : insS S q row = (putS S q ((shfN S q).rows ++ [row]), [row], 0) := by
  have : wrongS S q row = 0 := by unfold wrongS; rw [if_neg (by rw [h]; simp), if_neg h2, if_neg (by rw [h3]; simp), if_neg (by rw [h4]; simp)]
  unfold insS; rw [this]; rfl
theorem any_rules {rs : List Rul} {f : Rul → Bool} (h : ∀ j, j < rs.length → ∀ hj : j < rs.length, f rs[j] = false) : rs.any f = false := by
  cases e : rs.any f
  · rfl
  · obtain ⟨z, hz, h2⟩ := List.any_eq_true.1 e
    obtain ⟨j, hj, rfl⟩ := List.getElem_of_mem hz
    rw [h j hj hj] at h2
    cases h2
theorem has_more {l : List Col} {rows : List (List Val)} {row : List Val} {cs : List ByteArray} {want : List Val} : hasR12 l (rows ++ [row]) cs want = (hasR12 l rows cs want || eqVs (ofVs l cs row) want) := by
  unfold hasR12
  rw [List.any_append, List.any_cons, List.any_nil, Bool.or_false]
theorem own_news {w : World} {B size n : Nat} {e : TypeId} {h : Hd} {xs : List Value} (o : w.ownsRow B e size h.v n xs) : ∀ ad, h.a = some ad → ∀ j u, xs[j]? = some u → w.cell? (ad.add j) = some u := fun ad ha j u hu => by
  have hn : 0 < n := by
    rcases Nat.eq_zero_or_pos n with h0 | h0
    · have h1 := o.1
      rw [h0, Nat.zero_mul] at h1
      rw [List.length_eq_zero_iff.1 h1] at hu
      cases hu
    · exact h0
  obtain ⟨g, h2, _, r⟩ := own_place o hn
  rw [ha] at h2
  injection h2 with h2
  subst h2
  have hj := (List.getElem?_eq_some_iff.1 hu).1
  rw [add_mk, Nat.zero_add, r.2.1 j hj, hu]
theorem own_anone {w : World} {B size n : Nat} {e : TypeId} {h : Hd} {xs : List Value} (o : w.ownsRow B e size h.v n xs) : h.a = none → n = 0 := fun ha => by
  rcases Nat.eq_zero_or_pos n with h0 | h0
  · exact h0
  · obtain ⟨g, h2, _⟩ := own_place o h0
    rw [ha] at h2; cases h2
theorem oneC_val (v : Val) : ∀ u ∈ cellsV v, u.oneCell' = true := by intro u hu; simp only [cellsV, List.mem_cons, List.not_mem_nil, or_false] at hu; rcases hu with rfl | rfl | rfl <;> simp [Value.oneCell']
theorem oneC_orow (o : ORow) : ∀ u ∈ o.cells, u.oneCell' = true := by intro u hu; simp only [ORow.cells, Hd.v, List.mem_cons, List.not_mem_nil, or_false] at hu; subst hu; simp [Value.oneCell']
section
variable {w : World} {B s : Nat} {hs ht hm : Hd} {ss : List Sch} {L : List RShf}
theorem RefIn.rowAt (h : RefIn w B s hs ht hm ss L) (ok : SOk (refS L) ss) {q : Nat} (hq : q < L.length) :
    ∃ gm, hm.a = some ⟨gm, 0, none⟩ ∧ gm < w.heap.size ∧ B ≤ gm ∧ w.cell? ⟨gm, q, none⟩ = some (.slice L[q].hr.a L[q].rows.length L[q].hr.c) ∧ w.frozen? ⟨gm, q, none⟩ = false ∧ SlAt w 1 RowsR L[q].hr.a L[q].hr.c (L[q].rows.map (·.vals)) := by
  obtain ⟨g, ha, hB, r⟩ := own_place h.lst (by omega)
  have e := flatMap_get hrR 1 (fun _ => rfl) L q 0 hq (by decide)
  rw [Nat.mul_one, Nat.add_zero] at e
  have hlt : q < (L.flatMap hrR).length := by
    rcases Nat.lt_or_ge q (L.flatMap hrR).length with h1 | h1
    · exact h1
    · rw [List.getElem?_eq_none h1] at e; cases e
  refine ⟨g, ha, r.1, hB, ?_, r.2.2 q hlt, h.rowsAt ok (List.getElem_mem hq)⟩
  rw [r.2.1 q hlt, e]
  show some L[q].hr.v = _
  rw [own_slice (h.each L[q] (List.getElem_mem hq)).own]
set_option maxHeartbeats 16000000 in
theorem rinsert (hin : RefIn w B s hs ht hm ss L) (ok : SOk (refS L) ss) (sm : SmO (objOf ss (L.map RShf.x))) (q : Nat) (hq : q < L.length) (row : List Val) (A : Option Addr) (cap : Nat) (hrow : SlAt w 3 ValR A cap row) :
    Calls Tryz.prog 38 #[.pointer (some ⟨s, 0, none⟩), .int .i64 q, .slice A row.length cap] w (RefDoQ w B s hs ht hm ss L (insS (refS L) q row)) := by
  have HIN := Lib.hid hin
  have RA := hin.at ok sm
  have OK0 := Lib.hid ok
  obtain ⟨b5, hR5, hb5, hB5, r0, hfz, hrr⟩ := hin.rowAt ok hq
  have HFZ := Lib.hid hfz
  have HB5 := Lib.hid hB5
  obtain ⟨y9, hy9⟩ : ∃ y9, L[q] = y9 := ⟨_, rfl⟩
  rw [hy9] at r0 hrr
  have HY9 := Lib.hid (show y9 ∈ L by rw [← hy9]; exact List.getElem_mem hq)
  have HQ9 := Lib.hid hy9
  obtain ⟨A5, hA5⟩ : ∃ A5, y9.hr.a = A5 := ⟨_, rfl⟩
  obtain ⟨cap5, hc5⟩ : ∃ cap5, y9.hr.c = cap5 := ⟨_, rfl⟩
  have HA5 := Lib.hid hA5
  have HC5 := Lib.hid hc5
  obtain ⟨S, hS⟩ : ∃ S, refS L = S := ⟨_, rfl⟩
  have HSL := Lib.hid hS
  have hLS : L.length = S.length := by rw [← hS]; simp [refS]
  have hqS : q < S.length := by omega
  have HLQ := Lib.hid (show ∃ _ : q < L.length, True from ⟨hq, trivial⟩)
  rw [hS] at RA ok
  rw [hS]
  have HR := Lib.hid RA
  have OK := Lib.hid ok
  have h64 : S.length ≤ 64 := by have := ok.good.nt; simpa using this
  have hlenr := hrow.len
  have HROW := Lib.hid hrow
  obtain ⟨b, off, B2, capb2, B3, capb3, hA, hb, c0, c1, c2, c3, c4, hcs, hrs⟩ := RA.tabAt hqS
  have hmem := List.getElem_mem hqS
  have hsn : shfN S q = S[q] := shfN_get hqS
  obtain ⟨y, hy⟩ : ∃ y, S[q] = y := ⟨_, rfl⟩
  rw [hy] at c0 c1 c2 c3 c4 hcs hrs hmem hsn
  have hyr : y9.rows.map (·.vals) = y.rows := by
    rw [← hy, ← hy9]
    simp only [← hS]
    simp [refS, RShf.s]
  have hyl : y9.rows.length = y.rows.length := by rw [← hyr, List.length_map]
  have HYR := Lib.hid hyr
  rw [hyl, hA5, hc5] at r0
  rw [hyr, hA5, hc5] at hrr
  have HSN := Lib.hid hsn
  have HYE := Lib.hid hy
  have HM := Lib.hid hmem
  have HCS := Lib.hid hcs
  have HRS := Lib.hid hrs
  have HRR := Lib.hid hrr
  have hy64 := ok.most y hmem
  have s1 := RA.row.cell (j := 1) rfl
  have sz := RA.row.1
  rw [hA] at s1
  have HRs := Lib.hid hR5
  obtain ⟨Wt, hWt⟩ : ∃ Wt, Wt = w.alloc (.cells #[.string y.t.schema, .string y.t.name, .string y.t.owner, .slice B2 y.t.cols.length capb2, .slice B3 y.t.rules.length capb3] 76) := ⟨_, rfl⟩
  have aWt : Aft w Wt := by rw [hWt]; exact (Aft.refl w).alloc _
  have rWt : RowAt Wt w.heap.size [.string y.t.schema, .string y.t.name, .string y.t.owner, .slice B2 y.t.cols.length capb2, .slice B3 y.t.rules.length capb3] := by rw [hWt]; exact box_row2 (Aft.refl _)
  have HAT := Lib.hid aWt
  have HRT := Lib.hid rWt
  have KO := Lib.hid (show ∀ V, Aft w V → (V.cell? ⟨b5, q, none⟩ = some (.slice A5 y.rows.length cap5) ∧ b5 < V.heap.size) from fun V a => ⟨(Below.cell a (p := ⟨b5, _, none⟩) hb5).trans r0, Nat.lt_of_lt_of_le hb5 a.size⟩)
  have CF := Lib.hid (rfit_any y.t row B2 capb2 B3 capb3 A cap Wt (cols_aft aWt hcs) (ruls_aft aWt hrs) (vals_aft aWt hrow))
  have x0 := rWt.cell (j := 0) rfl
  have x1 := rWt.cell (j := 1) rfl
  have x2 := rWt.cell (j := 2) rfl
  have x3 := rWt.cell (j := 3) rfl
  have x4 := rWt.cell (j := 4) rfl
  have xz := rWt.1
  have HIW := Lib.hid (hin.lt s (List.mem_cons_self ..))
  clear hin RA ok hA hcs hrs hrr hmem hsn hy hy9 hR5 hB5 hfz hA5 hc5 hyr hyl aWt rWt hrow hLS hS
  obtain ⟨i0, hi, hz0, hz1, hz2⟩ := info_parts info2Row
  have HI0 := Lib.hid hi
  have HZ0 := Lib.hid hz0
  have HZ1 := Lib.hid hz1
  have HZ2 := Lib.hid hz2
  clear hi hz0 hz1 hz2
  obtain ⟨i1, hi, hz0, hz1, hz2⟩ := info_parts infoV
  have JI := Lib.hid hi
  have JZ0 := Lib.hid hz0
  have JZ1 := Lib.hid hz1
  have JZ2 := Lib.hid hz2
  clear hi hz0 hz1 hz2
  go_enter Tryz.func38, Tryz.ntmps38
  go_wp2_with fail
  rw [← hWt]
  clear hWt c0 c1 c2 c3 c4 hb s1 sz r0 hb5
  go_wp2_with fail
  refine CF.out.mono ?_
  rintro e V ⟨rfl, aV⟩
  have HV := Lib.hid (HAT.out.trans aV)
  have HTV := Lib.hid aV
  clear CF aV x0 x1 x2 x3 x4 xz
  obtain ⟨f, hf⟩ : ∃ f, fitE y.t row = f := ⟨_, rfl⟩
  rw [hf]
  have HF := Lib.hid hf
  clear hf
  by_cases hf0 : f = 0
  case neg =>
    have HI := Lib.hid (insS_fit (S := S) (q := q) (row := row) (by rw [HSN.out]; exact HF.out) hf0)
    go_wp2_with fail
    go_ret2
    rw [HI.out, ← HSL.out]
    exact refDo_no HIN.out HV.out f
  subst hf0
  have HFO := Lib.hid (fitE_zero HF.out)
  obtain ⟨o5, oz⟩ := KO.out V HV.out
  have s2 := (HR.out.row.aft HV.out).cell (j := 2) rfl
  have sz := (HR.out.row.aft HV.out).1
  rw [HRs.out] at s2
  by_cases h64r : (64 : Int) ≤ (y.rows.length : Int)
  · have HI := Lib.hid (insS_most (S := S) (q := q) (row := row) (by rw [HSN.out]; exact HF.out) (by rw [HSN.out]; omega))
    go_wp2_with fail
    go_ret2
    rw [HI.out, ← HSL.out]
    exact refDo_no HIN.out HV.out 2
  have HN64 := Lib.hid (show ¬ 64 ≤ (shfN S q).rows.length by rw [HSN.out]; omega)
  go_wp2_with fail
  clear o5 oz s2 sz
  have hlenU := HRS.out.len
  go_loopw [10] (fun i wr => ∃ k : Nat, k ≤ y.t.rules.length ∧ i = .int .i64 k ∧ Aft V wr ∧ ∀ j, j < k → ∀ hj : j < y.t.rules.length, keyHit y.t y.rows row y.t.rules[j] = false) (fun i _ => y.t.rules.length - (intOf i).toNat)
  case atStart => exact ⟨0, Nat.zero_le _, rfl, Aft.refl _, fun j hj => absurd hj (Nat.not_lt_zero j)⟩
  case round =>
    obtain ⟨k, hk, rfl, ha, hp⟩ := hrel
    have HA := Lib.hid ha
    have HAw := Lib.hid (HV.out.trans ha)
    have HP := Lib.hid hp
    clear ha hp
    obtain ⟨V1, hV1⟩ : ∃ V1, V1 = wr := ⟨_, rfl⟩
    subst hV1
    have x4 := (HRT.out.aft (HTV.out.trans HA.out)).cell (j := 4) rfl
    have xz := (HRT.out.aft (HTV.out.trans HA.out)).1
    by_cases hlt : k < y.t.rules.length
    · obtain ⟨b7, off7, N7, cap7, hA7, hb7, u0, u1, u2, u3, u4, u5, u6, u7, hns, _⟩ := rul_at (ruls_aft HAw.out HRS.out) hlt
      have hpm := List.getElem_mem hlt
      have HX := Lib.hid (fun h : keyHit y.t y.rows row y.t.rules[k] = false => ext_lt (p := fun j => ∀ hj : j < y.t.rules.length, keyHit y.t y.rows row y.t.rules[j] = false) HP.out (fun _ => h))
      have HYY := Lib.hid (fun h : keyHit y.t y.rows row y.t.rules[k] = true => (show y.t.rules.any (keyHit y.t y.rows row) = true from List.any_eq_true.2 ⟨_, hpm, h⟩))
      obtain ⟨p, hp⟩ : ∃ p, y.t.rules[k] = p := ⟨_, rfl⟩
      rw [hp] at u0 u1 u2 u3 u4 u5 u6 u7 hns hpm HX HYY
      have HPM := Lib.hid hpm
      have HNS := Lib.hid hns
      rw [hA7] at x4
      have okn := OK.out.cols HM.out hpm
      have HOKN := Lib.hid okn
      have CV := Lib.hid (show Calls Tryz.prog 74 #[.pointer (some ⟨s, 0, none⟩), .int .i64 q, .slice N7 p.cols.length cap7, .slice A row.length cap] V1 (OfS V1 (ofVs y.t.cols p.cols row) (wholeV (ofVs y.t.cols p.cols row))) from by
        have := rvalues (HR.out.aft HAw.out) q hqS p.cols row N7 cap7 A cap hns (vals_aft HAw.out HROW.out) (by rw [HYE.out]; exact okn) (by rw [HYE.out]; exact HFO.out) h64
        rw [HYE.out] at this
        exact this)
      obtain ⟨L9, hL9⟩ : ∃ L9, ofVs y.t.cols p.cols row = L9 := ⟨_, rfl⟩
      obtain ⟨wv, hwv⟩ : ∃ wv, wholeV L9 = wv := ⟨_, rfl⟩
      rw [hL9, hwv] at CV
      have HKH := Lib.hid (show keyHit y.t y.rows row p = (p.kind == 2 && (wv && hasR12 y.t.cols y.rows p.cols L9)) by unfold keyHit; rw [hL9, hwv])
      clear hp hns hpm okn hL9 hwv
      go_wp2_with fail
      refine CV.out.mono ?_
      rintro e Z ⟨A9, cap9, rfl, aZ, hZ⟩
      have HZ := Lib.hid (HA.out.trans aZ)
      have HZw := Lib.hid (HAw.out.trans aZ)
      have H9 := Lib.hid hZ
      have HNZ := Lib.hid (strs_aft aZ HNS.out)
      have u1z := (Below.cell aZ (p := ⟨b7, off7 + k * 8 + 1, none⟩) hb7).trans u1
      have u2z := (Below.cell aZ (p := ⟨b7, off7 + k * 8 + 2, none⟩) hb7).trans u2
      have hb7z := Nat.lt_of_lt_of_le hb7 aZ.size
      have x4z := (HRT.out.aft (HTV.out.trans HZ.out)).cell (j := 4) rfl
      have xzz := (HRT.out.aft (HTV.out.trans HZ.out)).1
      rw [hA7] at x4z
      obtain ⟨o5, oz⟩ := KO.out Z HZw.out
      have s2 := (HR.out.row.aft HZw.out).cell (j := 2) rfl
      have sz := (HR.out.row.aft HZw.out).1
      rw [HRs.out] at s2
      clear u0 u1 u2 u3 u4 u5 u6 u7 hb7 x4 xz CV aZ hZ hA7
      obtain ⟨kd, hkd⟩ : ∃ kd, p.kind = kd := ⟨_, rfl⟩
      rw [hkd] at u1z
      rw [hkd] at HKH
      clear hkd
      go_wp2_with fail
      by_cases h2 : kd = 2
      · subst h2
        cases wv
        · have HN := Lib.hid (HX.out (by rw [HKH.out]; rfl))
          refine wp_region_lat (by kernel_rfl) (by kernel_rfl) ?_
          repeat (go_big_quiet_step (fail))
          refine wpQuiet_nil ?_
          intro Z2 hw'
          have aZ2 : Aft Z Z2 := by obtain ⟨x9, hw''⟩ := hw'; rw [hw'']; exact (Aft.refl Z).lat x9
          clear hw'
          have HZ2 := Lib.hid (HZ.out.trans aZ2)
          clear x4z xzz u1z u2z hb7z o5 oz s2 sz aZ2
          go_wp2_with fail
          go_roundw
          case rel => exact ⟨k + 1, by omega, by go_num, HZ2.out, HN.out⟩
          case measure => simp [intOf]; omega
        · obtain ⟨bh, hbh⟩ : ∃ bh, hasR12 y.t.cols y.rows p.cols L9 = bh := ⟨_, rfl⟩
          rw [hbh] at HKH
          have CC := Lib.hid (show ∀ x9 : Lat Z, Calls Tryz.prog 75 #[.pointer (some ⟨s, 0, none⟩), .int .i64 q, .slice A5 y.rows.length cap5, .slice N7 p.cols.length cap7, .slice A9 L9.length cap9] (lat Z x9) fun e w'' => e = .returned (.bool bh) ∧ Aft (lat Z x9) w'' from fun x9 => by
            have aL := (Aft.refl Z).lat x9
            have := rhas (HR.out.aft (HZw.out.trans aL)) q hqS y.rows p.cols L9 A5 cap5 N7 cap7 A9 cap9 (rows_aft (HZw.out.trans aL) HRR.out) (strs_aft aL HNZ.out) (vals_aft aL H9.out) (by rw [HYE.out]; exact HOKN.out) (by rw [HYE.out]; exact OK.out.form y HM.out) h64
            rw [HYE.out, hbh] at this
            exact this)
          clear hbh
          refine wp_region_lat (by kernel_rfl) (by kernel_rfl) ?_
          repeat (go_big_quiet_step ((go_at_call 75; exact Calls.lat_of (CC.out _))))
          refine wpQuiet_nil ?_
          intro Z2 hw'
          have aZ2 : Aft Z Z2 := by obtain ⟨x9, hw''⟩ := hw'; rw [hw'']; exact (Aft.refl Z).lat x9
          clear hw'
          have HZ2 := Lib.hid (HZ.out.trans aZ2)
          have HZw2 := Lib.hid (HZw.out.trans aZ2)
          clear x4z xzz u1z u2z hb7z o5 oz s2 sz aZ2 CC
          cases bh
          · have HN := Lib.hid (HX.out (by rw [HKH.out]; rfl))
            go_wp2_with fail
            go_roundw
            case rel => exact ⟨k + 1, by omega, by go_num, HZ2.out, HN.out⟩
            case measure => simp [intOf]; omega
          · have HI := Lib.hid (insS_key (S := S) (q := q) (row := row) (by rw [HSN.out]; exact HF.out) HN64.out (by rw [HSN.out]; exact HYY.out (by rw [HKH.out]; rfl)))
            go_wp2_with fail
            go_ret2
            rw [HI.out, ← HSL.out]
            exact refDo_no HIN.out HZw2.out 111
      · have hd2 : (kd == 2) = false := by simpa using h2
        have HN := Lib.hid (HX.out (by rw [HKH.out, hd2]; rfl))
        refine wp_region_lat (by kernel_rfl) (by kernel_rfl) ?_
        repeat (go_big_quiet_step (fail))
        refine wpQuiet_nil ?_
        intro Z2 hw'
        have aZ2 : Aft Z Z2 := by obtain ⟨x9, hw''⟩ := hw'; rw [hw'']; exact (Aft.refl Z).lat x9
        clear hw'
        have HZ2 := Lib.hid (HZ.out.trans aZ2)
        clear x4z xzz u1z u2z hb7z o5 oz s2 sz aZ2
        go_wp2_with fail
        go_roundw
        case rel => exact ⟨k + 1, by omega, by go_num, HZ2.out, HN.out⟩
        case measure => simp [intOf]; omega
    · have HKN := Lib.hid (show (shfN S q).t.rules.any (keyHit (shfN S q).t (shfN S q).rows row) = false by rw [HSN.out]; exact any_rules fun j hj hj2 => HP.out j (by omega) hj2)
      clear HP
      go_wp2_with fail
      clear x4 xz
      go_loopw [13] (fun i wr => ∃ n : Nat, n ≤ y.t.rules.length ∧ i = .int .i64 n ∧ Aft V1 wr ∧ ∀ j, j < n → ∀ hj : j < y.t.rules.length, farHit S q row y.t.rules[j] = false) (fun i _ => y.t.rules.length - (intOf i).toNat)
      case atStart => exact ⟨0, Nat.zero_le _, rfl, Aft.refl _, fun j hj => absurd hj (Nat.not_lt_zero j)⟩
      case round =>
        obtain ⟨n, hn, rfl, ha, hp⟩ := hrel
        have HB := Lib.hid ha
        have HBw := Lib.hid (HAw.out.trans ha)
        have HP := Lib.hid hp
        clear ha hp
        obtain ⟨V2, hV2⟩ : ∃ V2, V2 = wr := ⟨_, rfl⟩
        subst hV2
        have x4 := (HRT.out.aft (HTV.out.trans (HA.out.trans HB.out))).cell (j := 4) rfl
        have xz := (HRT.out.aft (HTV.out.trans (HA.out.trans HB.out))).1
        by_cases hlt : n < y.t.rules.length
        · obtain ⟨b7, off7, N7, cap7, hA7, hb7, u0, u1, u2, u3, u4, u5, u6, u7, hns, _⟩ := rul_at (ruls_aft HBw.out HRS.out) hlt
          have hpm := List.getElem_mem hlt
          have HX := Lib.hid (fun h : farHit S q row y.t.rules[n] = false => ext_lt (p := fun j => ∀ hj : j < y.t.rules.length, farHit S q row y.t.rules[j] = false) HP.out (fun _ => h))
          have HYY := Lib.hid (fun h : farHit S q row y.t.rules[n] = true => (show y.t.rules.any (farHit S q row) = true from List.any_eq_true.2 ⟨_, hpm, h⟩))
          obtain ⟨p, hp⟩ : ∃ p, y.t.rules[n] = p := ⟨_, rfl⟩
          rw [hp] at u0 u1 u2 u3 u4 u5 u6 u7 hns hpm HX HYY
          have HPM := Lib.hid hpm
          rw [hA7] at x4
          obtain ⟨kd, hkd⟩ : ∃ kd, p.kind = kd := ⟨_, rfl⟩
          have HKD := Lib.hid hkd
          rw [hkd] at u1
          have okn := OK.out.cols HM.out hpm
          obtain ⟨Wp, hWp⟩ : ∃ Wp, Wp = V2.alloc (.cells #[.string p.name, .int .i64 kd, .slice N7 p.cols.length cap7, .int .i64 p.low, .int .i64 p.high, .string p.schema, .string p.table, .string p.key] 108) := ⟨_, rfl⟩
          have aWp : Aft V2 Wp := by rw [hWp]; exact (Aft.refl V2).alloc _
          have rWp : RowAt Wp V2.heap.size [.string p.name, .int .i64 kd, .slice N7 p.cols.length cap7, .int .i64 p.low, .int .i64 p.high, .string p.schema, .string p.table, .string p.key] := by rw [hWp]; exact box_row2 (Aft.refl _)
          have HRP := Lib.hid rWp
          have HWp := Lib.hid (HBw.out.trans aWp)
          have HBp := Lib.hid (HB.out.trans aWp)
          have HNS := Lib.hid (strs_aft aWp hns)
          have CV := Lib.hid (show Calls Tryz.prog 74 #[.pointer (some ⟨s, 0, none⟩), .int .i64 q, .slice N7 p.cols.length cap7, .slice A row.length cap] Wp (OfS Wp (ofVs y.t.cols p.cols row) (wholeV (ofVs y.t.cols p.cols row))) from by
            have := rvalues (HR.out.aft HWp.out) q hqS p.cols row N7 cap7 A cap HNS.out (vals_aft HWp.out HROW.out) (by rw [HYE.out]; exact okn) (by rw [HYE.out]; exact HFO.out) h64
            rw [HYE.out] at this
            exact this)
          obtain ⟨L9, hL9⟩ : ∃ L9, ofVs y.t.cols p.cols row = L9 := ⟨_, rfl⟩
          obtain ⟨wv, hwv⟩ : ∃ wv, wholeV L9 = wv := ⟨_, rfl⟩
          rw [hL9, hwv] at CV
          have HFH := Lib.hid (show farHit S q row p = (p.kind == 4 && (wv && !hasR12 (shfN S (shfAt S p.schema p.table).toNat).t.cols (amongS S q (shfAt S p.schema p.table).toNat row) (keyOf (shfN S (shfAt S p.schema p.table).toNat).t p.key) L9)) by unfold farHit; rw [HSN.out, hL9, hwv])
          have v1 := rWp.cell (j := 1) rfl
          have v2 := rWp.cell (j := 2) rfl
          have vz := rWp.1
          clear hp hns hpm okn hL9 hwv aWp rWp hkd hA7
          by_cases h4 : kd = 4
          case neg =>
            have hd4 : (kd == 4) = false := by simpa using h4
            have HN := Lib.hid (HX.out (by rw [HFH.out, HKD.out, hd4]; rfl))
            go_wp2_with fail
            rw [← hWp]
            clear hWp u0 u1 u2 u3 u4 u5 u6 u7 hb7 x4 xz
            go_wp2_with fail
            go_roundw
            case rel => exact ⟨n + 1, by omega, by go_num, HBp.out, HN.out⟩
            case measure => simp [intOf]; omega
          case pos =>
            subst h4
            obtain ⟨to, hto⟩ := OK.out.far HM.out HPM.out HKD.out
            have htoS := shfAt_lt hto
            have HTO := Lib.hid hto
            obtain ⟨z, hz⟩ : ∃ z, S[to] = z := ⟨_, rfl⟩
            have hzm : z ∈ S := by rw [← hz]; exact List.getElem_mem htoS
            have HZM := Lib.hid hzm
            have HZE := Lib.hid hz
            have hsz : shfN S to = z := by rw [shfN_get htoS, hz]
            obtain ⟨ks, hks⟩ : ∃ ks, keyOf z.t p.key = ks := ⟨_, rfl⟩
            have HKS := Lib.hid hks
            rw [HKD.out, hto, Int.toNat_natCast, hsz, hks] at HFH
            have HSZ := Lib.hid hsz
            clear hto hz hzm hsz hks
            go_wp2_with fail
            rw [← hWp]
            clear hWp u0 u1 u2 u3 u4 u5 u6 u7 hb7 x4 xz
            refine CV.out.mono ?_
            rintro e Z ⟨A9, cap9, rfl, aZ, hZ⟩
            have HZp := Lib.hid (HBp.out.trans aZ)
            have HZw := Lib.hid (HWp.out.trans aZ)
            have H9 := Lib.hid hZ
            have HRZ := Lib.hid (HRP.out.aft aZ)
            have CTH := Lib.hid (show Calls Tryz.prog 76 #[.pointer (some ⟨s, 0, none⟩), .agg #[.string p.name, .int .i64 4, .slice N7 p.cols.length cap7, .int .i64 p.low, .int .i64 p.high, .string p.schema, .string p.table, .string p.key]] Z (ThereP Z S to ks) from by
              have := rthere OK.out (HR.out.aft HZw.out) y HM.out p HPM.out HKD.out N7 cap7 to HTO.out htoS
              rw [HZE.out, HKS.out, HKD.out] at this
              exact this)
            have v0 := HRZ.out.cell (j := 0) rfl
            have v1' := HRZ.out.cell (j := 1) rfl
            have v2' := HRZ.out.cell (j := 2) rfl
            have v3 := HRZ.out.cell (j := 3) rfl
            have v4 := HRZ.out.cell (j := 4) rfl
            have v5 := HRZ.out.cell (j := 5) rfl
            have v6 := HRZ.out.cell (j := 6) rfl
            have v7 := HRZ.out.cell (j := 7) rfl
            have vz' := HRZ.out.1
            clear aZ hZ CV v1 v2 vz
            go_wp2_with fail
            refine CTH.out.mono ?_
            rintro e Y ⟨M, capM, rfl, aY, hM⟩
            have HYp := Lib.hid (HZp.out.trans aY)
            have HYw := Lib.hid (HZw.out.trans aY)
            have H9Y := Lib.hid (vals_aft aY H9.out)
            have HMY := Lib.hid hM
            obtain ⟨b8, off8, A8, cap8, hR8, hb8, g0, hgr⟩ := (HR.out.aft HYw.out).rowAt htoS
            rw [HZE.out] at g0 hgr
            have s2 := (HR.out.row.aft HYw.out).cell (j := 2) rfl
            have sz := (HR.out.row.aft HYw.out).1
            rw [hR8] at s2
            have CH := Lib.hid (show Calls Tryz.prog 75 #[.pointer (some ⟨s, 0, none⟩), .int .i64 to, .slice A8 z.rows.length cap8, .slice M ks.length capM, .slice A9 L9.length cap9] Y (fun e w' => e = .returned (.bool (hasR12 z.t.cols z.rows ks L9)) ∧ Aft Y w') from by
              have := rhas (HR.out.aft HYw.out) to htoS z.rows ks L9 A8 cap8 M capM A9 cap9 hgr hM (vals_aft aY H9.out) (by rw [HZE.out, ← HKS.out]; exact OK.out.keyOf HZM.out p.key) (by rw [HZE.out]; exact OK.out.form z HZM.out) h64
              rw [HZE.out] at this
              exact this)
            obtain ⟨bh, hbh⟩ : ∃ bh, hasR12 z.t.cols z.rows ks L9 = bh := ⟨_, rfl⟩
            rw [hbh] at CH
            have HBH := Lib.hid hbh
            clear aY hM CTH v0 v1' v2' v3 v4 v5 v6 v7 vz' hgr hbh hR8
            go_wp2_with fail
            refine CH.out.mono ?_
            rintro e X ⟨rfl, aX⟩
            have HXp := Lib.hid (HYp.out.trans aX)
            have HXw := Lib.hid (HYw.out.trans aX)
            have H9X := Lib.hid (vals_aft aX H9Y.out)
            have HMX := Lib.hid (strs_aft aX HMY.out)
            clear CH aX s2 sz g0 hb8
            by_cases htq : to = q
            case neg =>
              have hdq : ((to : Int) == (q : Int)) = false := by simp; omega
              have HFB := Lib.hid (show farHit S q row p = (wv && !bh) by rw [HFH.out]; unfold amongS; rw [if_neg htq, HSZ.out, HBH.out]; rfl)
              clear HFH
              cases wv
              · have HN := Lib.hid (HX.out (by rw [HFB.out]; rfl))
                go_wp2_with fail
                go_roundw
                case rel => exact ⟨n + 1, by omega, by go_num, HXp.out, HN.out⟩
                case measure => simp [intOf]; omega
              · cases bh
                · have HI := Lib.hid (insS_far (S := S) (q := q) (row := row) (by rw [HSN.out]; exact HF.out) HN64.out HKN.out (by rw [HSN.out]; exact HYY.out (by rw [HFB.out]; rfl)))
                  go_wp2_with fail
                  go_ret2
                  rw [HI.out, ← HSL.out]
                  exact refDo_no HIN.out HXw.out 112
                · have HN := Lib.hid (HX.out (by rw [HFB.out]; rfl))
                  go_wp2_with fail
                  go_roundw
                  case rel => exact ⟨n + 1, by omega, by go_num, HXp.out, HN.out⟩
                  case measure => simp [intOf]; omega
            case pos =>
              have hdq : ((to : Int) == (q : Int)) = true := by simp; omega
              have hdp : ((to : Int) = (q : Int)) = True := by simp; omega
              have HZY := Lib.hid (show z = y by have e1 := HZE.out; have e2 := HYE.out; subst htq; rw [← e1, ← e2])
              have HFB0 := Lib.hid (show farHit S q row p = (wv && !(bh || eqVs (ofVs y.t.cols ks row) L9)) by rw [HFH.out]; unfold amongS; rw [if_pos htq, HSZ.out, has_more, HBH.out, HZY.out]; rfl)
              have CV2 := Lib.hid (show Calls Tryz.prog 74 #[.pointer (some ⟨s, 0, none⟩), .int .i64 q, .slice M ks.length capM, .slice A row.length cap] X (OfS X (ofVs y.t.cols ks row) (wholeV (ofVs y.t.cols ks row))) from by
                have := rvalues (HR.out.aft HXw.out) q hqS ks row M capM A cap HMX.out (vals_aft HXw.out HROW.out) (by rw [HYE.out, ← HZY.out, ← HKS.out]; exact OK.out.keyOf HZM.out p.key) (by rw [HYE.out]; exact HFO.out) h64
                rw [HYE.out] at this
                exact this)
              clear HFH htq
              go_wp2_with fail
              refine CV2.out.mono ?_
              rintro e X2 ⟨A6, cap6, rfl, aX2, hX2⟩
              have HX2p := Lib.hid (HXp.out.trans aX2)
              have HX2w := Lib.hid (HXw.out.trans aX2)
              have CS := Lib.hid (rsame_any A6 cap6 (ofVs y.t.cols ks row) A9 cap9 L9 X2 hX2 (vals_aft aX2 H9X.out))
              obtain ⟨b8, hb8⟩ : ∃ b8, eqVs (ofVs y.t.cols ks row) L9 = b8 := ⟨_, rfl⟩
              rw [hb8] at CS HFB0
              clear CV2 aX2 hX2 hb8
              cases bh
              · go_wp2_with fail
                refine CS.out.mono ?_
                rintro e X3 ⟨rfl, aX3⟩
                have HX3p := Lib.hid (HX2p.out.trans aX3)
                have HX3w := Lib.hid (HX2w.out.trans aX3)
                have HFB := Lib.hid (show farHit S q row p = (wv && !b8) by rw [HFB0.out]; rfl)
                clear CS aX3 HFB0
                cases wv
                · have HN := Lib.hid (HX.out (by rw [HFB.out]; rfl))
                  go_wp2_with fail
                  go_roundw
                  case rel => exact ⟨n + 1, by omega, by go_num, HX3p.out, HN.out⟩
                  case measure => simp [intOf]; omega
                · cases b8
                  · have HI := Lib.hid (insS_far (S := S) (q := q) (row := row) (by rw [HSN.out]; exact HF.out) HN64.out HKN.out (by rw [HSN.out]; exact HYY.out (by rw [HFB.out]; rfl)))
                    go_wp2_with fail
                    go_ret2
                    rw [HI.out, ← HSL.out]
                    exact refDo_no HIN.out HX3w.out 112
                  · have HN := Lib.hid (HX.out (by rw [HFB.out]; rfl))
                    go_wp2_with fail
                    go_roundw
                    case rel => exact ⟨n + 1, by omega, by go_num, HX3p.out, HN.out⟩
                    case measure => simp [intOf]; omega
              · have HFB := Lib.hid (show farHit S q row p = (wv && !true) by rw [HFB0.out]; rfl)
                clear CS HFB0
                cases wv
                · have HN := Lib.hid (HX.out (by rw [HFB.out]; rfl))
                  go_wp2_with fail
                  go_roundw
                  case rel => exact ⟨n + 1, by omega, by go_num, HX2p.out, HN.out⟩
                  case measure => simp [intOf]; omega
                · have HN := Lib.hid (HX.out (by rw [HFB.out]; rfl))
                  go_wp2_with fail
                  go_roundw
                  case rel => exact ⟨n + 1, by omega, by go_num, HX2p.out, HN.out⟩
                  case measure => simp [intOf]; omega
        · have HFN := Lib.hid (show (shfN S q).t.rules.any (farHit S q row) = false by rw [HSN.out]; exact any_rules fun j hj hj2 => HP.out j (by omega) hj2)
          have HI := Lib.hid (insS_yes (S := S) (q := q) (row := row) (by rw [HSN.out]; exact HF.out) HN64.out HKN.out HFN.out)
          clear HP HFN
          have hrl8 : row.length ≤ 8 := by have h1 := ((besideB_iff formB _ _).1 HFO.out).1; have h2 := (OK.out.shf HM.out).2.1; omega
          have HSMR := Lib.hid (row_small (OK.out.shf HM.out).2.1 HFO.out)
          have HNN := Lib.hid (sl_none HROW.out)
          have HNC := Lib.hid (sl_cells (f := cellsV) HROW.out (by decide) (fun _ _ h => h.1) HBw.out)
          have hq4 : row.length ≤ maxLen := by unfold maxLen; omega
          have hq5 : row.length * 32 ≤ 140737488355328 := by omega
          have hcl := flatMap_len (f := cellsV) (size := 3) (fun _ => rfl) row
          go_wp2_with (at_builtin; refine wpList_append_new _ rfl (.tmp 160) (.tmp 161) 34 rfl 37 i1 _ 3 32 Tryz.underlying34 JI.out JZ0.out JZ1.out JZ2.out rfl (by decide) rfl A row.length cap (row.flatMap cellsV) rfl hcl HNN.out HNC.out (oneC_cells oneC_val _) hq4 hq5 ?_)
          intro A4 c4 w1 own1 a1
          have HO1 := Lib.hid (show w1.ownsRow V2.heap.size 37 3 (Hd.mk A4 row.length c4).v row.length (row.flatMap cellsV) from own1)
          have HW1 := Lib.hid (HBw.out.trans a1)
          have H21 := Lib.hid a1
          clear own1 hcl hq4 hq5 a1 x4 xz
          have HR9 := Lib.hid ((HIN.out.aft HW1.out).each y9 HY9.out)
          have hr9 := HR9.out.own
          rw [show y9.hr = ⟨A5, y9.rows.length, cap5⟩ from by rw [← HA5.out, ← HC5.out, ← own_n hr9]] at hr9
          have hyl : y9.rows.length = y.rows.length := by rw [← HYR.out, List.length_map]
          have HNN2 := Lib.hid (show A5 = none → y.rows.length = 0 from fun h => by rw [← hyl]; exact own_anone hr9 h)
          have HNC2 := Lib.hid (show ∀ ad, A5 = some ad → ∀ j u, (y9.rows.flatMap ORow.cells)[j]? = some u → w1.cell? (ad.add j) = some u from own_news hr9)
          have hcl2 : (y9.rows.flatMap ORow.cells).length = y.rows.length * 1 := by rw [← hyl]; exact flatMap_len (f := ORow.cells) (size := 1) (fun _ => rfl) y9.rows
          have hy4 : y.rows.length ≤ maxLen := by unfold maxLen; omega
          have hy5 : y.rows.length * 24 ≤ 140737488355328 := by omega
          obtain ⟨o5, oz⟩ := KO.out w1 HW1.out
          have s2 := (HR.out.row.aft HW1.out).cell (j := 2) rfl
          have sz := (HR.out.row.aft HW1.out).1
          rw [HRs.out] at s2
          clear hr9 hyl
          go_wp2_with (at_builtin; refine wpList_append_new _ rfl (.tmp 163) (.tmp 170) 47 rfl 34 i0 _ 1 24 Tryz.underlying47 HI0.out HZ0.out HZ1.out HZ2.out rfl (by decide) rfl A5 y.rows.length cap5 (y9.rows.flatMap ORow.cells) rfl hcl2 HNN2.out HNC2.out (oneC_cells oneC_orow _) hy4 hy5 ?_)
          intro A6 c6 w2 own2 a2
          have HO2 := Lib.hid own2
          have HW2 := Lib.hid (HW1.out.trans a2)
          have H12 := Lib.hid a2
          have HO12 := Lib.hid (own_aft HO1.out a2)
          clear own2 hcl2 hy4 a2 o5 oz s2 sz
          have zV2 := HBw.out.size
          have z21 := H21.out.size
          have z12 := H12.out.size
          go_wp2_with (at_builtin; refine wpList_append_own2 _ rfl (.tmp 172) (.tmp 174) 47 rfl w1.heap.size 34 i0 (.slice none 0 0) 1 24 Tryz.underlying47 HI0.out HZ0.out HZ1.out HZ2.out rfl (by decide) (.slice A6 y.rows.length c6) y.rows.length (y9.rows.flatMap ORow.cells) rfl (own_aft HO2.out ((Aft.refl _).alloc _)) (some ⟨w2.heap.size, 0, none⟩) 1 1 [.slice A4 row.length c4] rfl rfl ?c0 ?c1 ?c2 ?c3 ?c4 ?c5 ?_)
          case c0 => intro h; cases h
          case c1 =>
            intro ad had j u hj
            injection had with had; subst had
            rw [add_mk, Nat.zero_add]; exact (World.cell?_alloc_at _ _ _ _ rfl).trans (by simpa using hj)
          case c2 => intro u hu; simp only [List.mem_cons, List.not_mem_nil, or_false] at hu; subst hu; simp [Value.oneCell']
          case c3 => unfold maxLen; omega
          case c4 => omega
          case c5 => simp; omega
          intro A7 c7 w3 hown hgrow hblk
          have hlt5 := (KO.out V2 HBw.out).2
          have hB5 := HB5.out
          have hbW : b5 < w.heap.size := by
            have h1 := HIN.out.lt b5 (List.mem_cons_of_mem _ (List.mem_append.2 (.inl (Hd.mem_blk.2 (show hm.v.ownBlock = some b5 by unfold Hd.v; rw [HRs.out]; rfl)))))
            exact h1.2
          have zw := HBw.out.size
          have a3 : Aft w w3 := aft_grown (own_down (own_aft HO2.out ((Aft.refl w2).alloc (.cells #[.slice A4 row.length c4] 34))) (by omega)) (HW2.out.alloc _) hgrow
          have k3 := Kb.of_grown hgrow
          have ri : RowsIn w3 B ⟨A7, y.rows.length + 1, c7⟩ (y9.rows ++ [(⟨row, ⟨A4, row.length, c4⟩⟩ : ORow)]) := by
            have hyl : y9.rows.length = y.rows.length := by rw [← HYR.out, List.length_map]
            refine ⟨?_, fun x hx => ?_⟩
            · rw [show (y9.rows ++ [(⟨row, ⟨A4, row.length, c4⟩⟩ : ORow)]).length = y.rows.length + 1 by simp [hyl], List.flatMap_append, List.flatMap_cons, List.flatMap_nil, List.append_nil]
              exact own_down hown (by omega)
            · rcases List.mem_append.1 hx with hx | hx
              · have hr := (HIN.out.each y9 HY9.out).each x hx
                refine own_kb (own_aft hr (HW2.out.alloc (.cells #[.slice A4 row.length c4] 34))) k3 fun g hg e => ?_
                have h1 := (hr.lt g hg).2
                have h2 := (HO2.out.lt g e).1
                omega
              · rw [List.mem_singleton] at hx
                subst hx
                refine own_down (own_kb (own_aft HO12.out ((Aft.refl w2).alloc (.cells #[.slice A4 row.length c4] 34))) k3 fun g hg e => ?_) (by omega)
                have h1 := (HO1.out.lt g hg).2
                have h2 := (HO2.out.lt g e).1
                omega
          have bl : ∀ g ∈ rowBlks ⟨A7, y.rows.length + 1, c7⟩ (y9.rows ++ [(⟨row, ⟨A4, row.length, c4⟩⟩ : ORow)]), g ∈ immB hs ht L ∨ w.heap.size ≤ g := fun g hg => by
            rcases List.mem_append.1 hg with hg | hg
            · rcases hblk g hg with h1 | h1
              · have := (HO2.out.lt g h1).1
                exact .inr (by omega)
              · have h1 : w2.heap.size + 1 ≤ g := by simpa using h1
                exact .inr (by omega)
            · rw [List.flatMap_append] at hg
              rcases List.mem_append.1 hg with hg | hg
              · exact .inl (mem_immR HY9.out (List.mem_append.2 (.inr hg)))
              · have h1 : g ∈ (Hd.mk A4 row.length c4).blk := by simpa using hg
                have h2 := (blk_lt HO1.out g h1).1
                exact .inr (by omega)
          have bl2 : ∀ g ∈ rowBlks ⟨A7, y.rows.length + 1, c7⟩ (y9.rows ++ [(⟨row, ⟨A4, row.length, c4⟩⟩ : ORow)]), g ≠ s ∧ g ∉ hm.blk := fun g hg => by
            rcases bl g hg with h1 | h1
            · exact ⟨fun e => HIN.out.fs (List.mem_append.2 (.inr (by rw [← e]; exact h1))), fun h2 => HIN.out.fm g h2 h1⟩
            · refine ⟨fun e => ?_, fun h2 => ?_⟩
              · have := (HIN.out.lt s (List.mem_cons_self ..)).2; omega
              · have := (HIN.out.lt g (List.mem_cons_of_mem _ (List.mem_append.2 (.inl h2)))).2; omega
          have tn := (HIN.out.aft a3).turn hq HRs.out ri bl2
          have HTN := Lib.hid (show RefIn (w3.setCell ⟨b5, q, none⟩ (.slice A7 (y.rows.length + 1) c7)) B s hs ht hm ss (L.set q (RShf.mk L[q].x (y9.rows ++ [(⟨row, ⟨A4, row.length, c4⟩⟩ : ORow)]) ⟨A7, y.rows.length + 1, c7⟩)) from tn)
          have HKB := Lib.hid (show Kb (fun g => g ∈ hm.blk) w (w3.setCell ⟨b5, q, none⟩ (.slice A7 (y.rows.length + 1) c7)) from ((Kb.of_aft a3).trans (Kb.set _ _ _ _)).mono fun g _ e => by
            rw [e]; exact Hd.mem_blk.2 (show hm.v.ownBlock = some b5 by unfold Hd.v; rw [HRs.out]; rfl))
          have HBL := Lib.hid (show ∀ g ∈ refB s hs ht hm (L.set q (RShf.mk L[q].x (y9.rows ++ [(⟨row, ⟨A4, row.length, c4⟩⟩ : ORow)]) ⟨A7, y.rows.length + 1, c7⟩)), g ∈ refB s hs ht hm L ∨ w.heap.size ≤ g from fun g hg => by
            rcases List.mem_cons.1 hg with h1 | hg
            · exact .inl (by rw [h1]; exact List.mem_cons_self ..)
            rcases List.mem_append.1 hg with hg | hg
            · exact .inl (List.mem_cons_of_mem _ (List.mem_append.2 (.inl hg)))
            · rcases imm_set hq hg with h1 | h1
              · exact .inl (List.mem_cons_of_mem _ (List.mem_append.2 (.inr h1)))
              · rcases bl g h1 with h2 | h2
                · exact .inl (List.mem_cons_of_mem _ (List.mem_append.2 (.inr h2)))
                · exact .inr h2)
          have HRN := Lib.hid (show RowIn w3 B (⟨row, ⟨A4, row.length, c4⟩⟩ : ORow) from ri.each _ (List.mem_append.2 (.inr (List.mem_singleton.2 rfl))))
          have HRS4 := Lib.hid (show refS (L.set q (RShf.mk L[q].x (y9.rows ++ [(⟨row, ⟨A4, row.length, c4⟩⟩ : ORow)]) ⟨A7, y.rows.length + 1, c7⟩)) = putS S q ((shfN S q).rows ++ [row]) by
            rw [refS_set hq, HSL.out, HSN.out, List.map_append, HYR.out]
            rfl)
          have hA4 : ∀ g, (Hd.mk A4 row.length c4).v.ownBlock = some g → g ≠ b5 := fun g hg e => by
            have h1 := (HO1.out.lt g hg).1
            omega
          have HA4 := Lib.hid hA4
          obtain ⟨o5, oz⟩ := KO.out w3 a3
          have of : w3.frozen? ⟨b5, q, none⟩ = false := (Below.frozen a3 (p := ⟨b5, q, none⟩) hbW).trans HFZ.out
          have s2 := (HR.out.row.aft a3).cell (j := 2) rfl
          have sz := (HR.out.row.aft a3).1
          rw [HRs.out] at s2
          clear hown hgrow hblk k3 ri bl bl2 tn a3 hlt5 hB5 hA4
          go_wp2_with fail
          clear o5 oz s2 sz of
          go_wp2_with fail
          go_ret2
          rw [HI.out]
          refine ⟨_, some ⟨(w3.setCell ⟨b5, q, none⟩ (.slice A7 (y.rows.length + 1) c7)).heap.size, 0, none⟩, 1, HRS4.out, refS_x hq, ?_, HKB.out.trans (Kb.of_aft ((Aft.refl _).alloc _)), HTN.out.aft ((Aft.refl _).alloc _), ?_, HBL.out⟩
          · simp
          · refine slAt_one row [.slice A4 row.length c4] #[.slice A4 row.length c4] (by simp) (fun o => World.cell?_alloc_at _ _ _ _ rfl) rfl rfl ⟨A4, c4, rfl, ?_⟩ (by decide)
            exact RowIn.at (o := ⟨row, ⟨A4, row.length, c4⟩⟩) (B := B) (own_aft (own_kb HRN.out (Kb.set _ _ _ _) HA4.out) ((Aft.refl _).alloc _)) HSMR.out
end
end Go.Proofs.YtiadkchlkdaceaaGreat

namespace Go.Proofs.YtiadkchlkdaceaaGreat
open Go.RowKit
set_option maxRecDepth 100000
set_option linter.unusedVariables false
set_option maxHeartbeats 4000000 in
theorem rmayO12 (x : ROp) (A : Option Addr) (cap : Nat) (w : World) (hc : Small x.col.size) (hv : Small x.v.text.size) :
    Calls Tryz.prog 36 #[.agg #[.int .i64 x.kind, .string x.role, .string x.schema, .string x.table, .slice A x.row.length cap, .string x.col, .int .i64 x.v.kind, .int .i64 x.v.int, .string x.v.text]] w fun e w' => e = .returned (.bool (mayO x)) ∧ Aft w w' := by
  obtain ⟨kd, role, schema, table, row, col, v⟩ := x
  simp only at hc hv ⊢
  obtain ⟨nm, hnm⟩ : ∃ b, nameB col = b := ⟨_, rfl⟩
  obtain ⟨mv, hmv⟩ : ∃ b, mayV v = b := ⟨_, rfl⟩
  obtain ⟨em, hem⟩ : ∃ b, emp col = b := ⟨_, rfl⟩
  obtain ⟨ev, hev⟩ : ∃ b, eqV v nilV = b := ⟨_, rfl⟩
  obtain ⟨lz, hlz⟩ : ∃ b, decide (row.length = 0) = b := ⟨_, rfl⟩
  have hz1 : ((row.length : Int) == 0) = lz := by rw [← hlz]; by_cases h : row.length = 0 <;> simp [h]
  have HN := Lib.hid (show mayO ⟨kd, role, schema, table, row, col, v⟩ = if kd == 1 then em && ev else if kd == 2 then nm && (mv && lz) else if kd == 3 then (nm && (mv && lz)) || (em && (ev && lz)) else false by
    unfold mayO; simp only [hnm, hmv, hem, hev, hlz])
  have CN := Lib.hid (show ∀ W, Calls Tryz.prog 72 #[.string col] W fun e w' => e = .returned (.bool nm) ∧ W = w' from fun W => hnm ▸ rname_any col W hc.max)
  have CM := Lib.hid (show ∀ W, Calls Tryz.prog 73 #[.agg #[.int .i64 v.kind, .int .i64 v.int, .string v.text]] W fun e w' => e = .returned (.bool mv) ∧ Aft W w' from fun W => hmv ▸ rmay_any v W hv)
  have e2 : eqV3 v.kind v.int v.text 0 0 ⟨#[]⟩ = ev := hev
  have HEM := Lib.hid hem
  have lw := Nat.lt_succ_self w.heap.size
  clear hnm hmv hem hev hlz
  obtain ⟨W, hW⟩ : ∃ W, W = w.alloc (.cells #[.int .i64 kd, .string role, .string schema, .string table, .slice A row.length cap, .string col, .int .i64 v.kind, .int .i64 v.int, .string v.text] 39) := ⟨_, rfl⟩
  have aW : Aft w W := by rw [hW]; exact (Aft.refl w).alloc _
  have rW : RowAt W w.heap.size [.int .i64 kd, .string role, .string schema, .string table, .slice A row.length cap, .string col, .int .i64 v.kind, .int .i64 v.int, .string v.text] := by rw [hW]; exact box_row2 (Aft.refl _)
  have KF := Lib.hid (show ∀ V, Aft W V → (V.cell? ⟨w.heap.size, 0, none⟩ = some (.int .i64 kd) ∧ V.cell? ⟨w.heap.size, 4, none⟩ = some (.slice A row.length cap) ∧ V.cell? ⟨w.heap.size, 5, none⟩ = some (.string col) ∧ V.cell? ⟨w.heap.size, 6, none⟩ = some (.int .i64 v.kind) ∧ V.cell? ⟨w.heap.size, 7, none⟩ = some (.int .i64 v.int) ∧ V.cell? ⟨w.heap.size, 8, none⟩ = some (.string v.text) ∧ w.heap.size < V.heap.size) from fun V a => by
    have r := rW.aft a
    exact ⟨r.cell (j := 0) rfl, r.cell (j := 4) rfl, r.cell (j := 5) rfl, r.cell (j := 6) rfl, r.cell (j := 7) rfl, r.cell (j := 8) rfl, r.1⟩)
  have HAW := Lib.hid aW
  clear rW aW
  cases em
  · have em1 : col.toList.isEmpty = false := HEM.out
    have em2 : ¬ col.toList = [] := by intro h; rw [h] at em1; cases em1
    have HEM2 := Lib.hid em2
    obtain ⟨c0, c4, c5, c6, c7, c8, cz⟩ := KF.out W (Aft.refl W)
    go_enter Tryz.func36, Tryz.ntmps36
    go_wp2_with fail
    rw [← hW]
    clear hW
    go_wp2_with fail
    refine (CN.out _).mono ?_
    rintro e w1 ⟨rfl, rfl⟩
    cases nm
    · go_wp2_with fail
      all_goals
        go_ret
        refine ⟨Eq.trans (b := .returned (.bool _)) rfl (ret_of (bool_of ?_)), HAW.out⟩
        rw [HN.out]
        simp_all
    · go_wp2_with fail
      refine (CM.out _).mono ?_
      rintro e w2 ⟨rfl, a2⟩
      have HA2 := Lib.hid (HAW.out.trans a2)
      clear c0 c4 c5 c6 c7 c8 cz
      obtain ⟨c0, c4, c5, c6, c7, c8, cz⟩ := KF.out w2 a2
      clear a2
      cases mv
      · skip
        go_wp2_with fail
        all_goals
          go_ret
          refine ⟨Eq.trans (b := .returned (.bool _)) rfl (ret_of (bool_of ?_)), HA2.out⟩
          rw [HN.out]
          simp_all
      · skip
        go_wp2_with fail
        all_goals
          go_ret
          refine ⟨Eq.trans (b := .returned (.bool _)) rfl (ret_of (bool_of ?_)), HA2.out⟩
          rw [HN.out]
          simp_all
  · have em1 : col.toList.isEmpty = true := HEM.out
    have em2 : col.toList = [] := by simpa using em1
    have HEM2 := Lib.hid em2
    obtain ⟨c0, c4, c5, c6, c7, c8, cz⟩ := KF.out W (Aft.refl W)
    go_enter Tryz.func36, Tryz.ntmps36
    go_wp2_with fail
    rw [← hW]
    clear hW
    go_wp2_with fail
    refine (CN.out _).mono ?_
    rintro e w1 ⟨rfl, rfl⟩
    cases nm
    · go_wp2_with fail
      all_goals
        go_ret
        refine ⟨Eq.trans (b := .returned (.bool _)) rfl (ret_of (bool_of ?_)), HAW.out⟩
        rw [HN.out]
        simp_all
    · go_wp2_with fail
      refine (CM.out _).mono ?_
      rintro e w2 ⟨rfl, a2⟩
      have HA2 := Lib.hid (HAW.out.trans a2)
      clear c0 c4 c5 c6 c7 c8 cz
      obtain ⟨c0, c4, c5, c6, c7, c8, cz⟩ := KF.out w2 a2
      clear a2
      cases mv
      · skip
        go_wp2_with fail
        all_goals
          go_ret
          refine ⟨Eq.trans (b := .returned (.bool _)) rfl (ret_of (bool_of ?_)), HA2.out⟩
          rw [HN.out]
          simp_all
      · skip
        go_wp2_with fail
        all_goals
          go_ret
          refine ⟨Eq.trans (b := .returned (.bool _)) rfl (ret_of (bool_of ?_)), HA2.out⟩
          rw [HN.out]
          simp_all
end Go.Proofs.YtiadkchlkdaceaaGreat

