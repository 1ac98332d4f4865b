/- Contracts of the program, part 7. -/
import Derived.Deep.Onto
import Derived.LaidEqlPtr
import Derived.OwnWalk
import Derived.Laws.AppendOwn
import Derived.ProofKit
import Derived.OpenShut
import Derived.Deep.Slices
import Derived.ChangeOld
import Derived.SizedLaws
import Derived.WalkKit
import Derived.WalkSpells
import Derived.WalkLawsBesides
import Derived.Lib.Hide
import Derived.Deep.QuietTactic
import Derived.BigQuiet
import Derived.Below
import Derived.Deep.Draws
import Derived.StillTailTactics
import Derived.Laws.Cells
import Derived.Laws.IdiomCopy
import Derived.Test.YtiadkchlkdaceaaGreatRows
import Derived.Lib.Bytealg
import Derived.IntWalk
import Derived.ShutString
import Derived.Shelf.SlSortCmp.WholeK
import Derived.Lib.SliceRun
import Derived.Deep.AppendLies
import Derived.Deep.Upon
import Derived.OneCell
import Derived.Deep.DeepMust
import Derived.Deep.RegionLaw
import Derived.Deep.RegionHeld3
import Derived.RangeFuncNested
import Derived.RangeFuncBound
import Derived.RangeFuncCalls
import Derived.RangeFuncLeaves
import Derived.Shelf.Abstract
import Derived.Shelf.RegionOpen
import Derived.OwnWalkIn
import Derived.TacticsInMore
import Derived.LoopNIn
import Derived.LoopIn
import Derived.Sort.QuietTacIn
import Derived.NoCompiler
import Derived.OrdersHeld
import Derived.Lib.Walk
import Derived.Test.YtiadkchlkdaceaaGreatPartR1
import Derived.Test.YtiadkchlkdaceaaGreatPartR2
import Derived.Test.YtiadkchlkdaceaaGreatPartR3
import Derived.Test.YtiadkchlkdaceaaGreatPartR4
import Derived.Test.YtiadkchlkdaceaaGreatPartR5
import Derived.Test.YtiadkchlkdaceaaGreatPartR6
namespace Go.Proofs.YtiadkchlkdaceaaGreat
open Go.RowKit
set_option maxRecDepth 100000
set_option linter.unusedVariables false
/-- a row of our own -/
structure ORow where
  vals : List Val
  h : Hd
def ORow.cells (o : ORow) : List Value := [o.h.v]
/-- a shelf of our own, in block p -/
structure OShf where
  p : Nat
  x : OTab
  rows : List ORow
  hr : Hd
def OShf.s (y : OShf) : Shf := ⟨y.x.t, y.rows.map (·.vals)⟩
def OShf.cells (y : OShf) : List Value := y.x.cells ++ [y.hr.v]
/-- what holds a shelf's rows -/
def OShf.rblk (y : OShf) : List Nat := y.hr.blk ++ y.rows.flatMap (·.h.blk)
def OShf.blks (y : OShf) : List Nat := y.p :: (y.x.blks ++ y.rblk)
def RowIn (w : World) (B : Nat) (o : ORow) : Prop := w.ownsRow B 37 3 o.h.v o.vals.length (o.vals.flatMap cellsV)
structure RowsIn (w : World) (B : Nat) (h : Hd) (l : List ORow) : Prop where
  own : w.ownsRow B 34 1 h.v l.length (l.flatMap ORow.cells)
  each : ∀ o ∈ l, RowIn w B o
structure ShfIn (w : World) (B : Nat) (y : OShf) : Prop where
  ge : B ≤ y.p
  blk : ∃ cur t, w.heap[y.p]? = some (.cells cur t (0, 0))
  row : RowAt w y.p y.cells
  tab : TabIn w B y.x
  rows : RowsIn w B y.hr y.rows
def ptrC (y : OShf) : List Value := [.pointer (some ⟨y.p, 0, none⟩)]
structure StoIn (w : World) (B s : Nat) (hl : Hd) (L : List OShf) : Prop where
  ge : B ≤ s
  row : RowAt w s [hl.v]
  lst : w.ownsRow B 80 1 hl.v L.length (L.flatMap ptrC)
  each : ∀ y ∈ L, ShfIn w B y
  nd : (s :: (hl.blk ++ L.flatMap OShf.blks)).Nodup
section
variable {w w' : World} {B s : Nat} {hl : Hd} {L : List OShf}
theorem RowsIn.kb {P : Nat → Prop} {h : Hd} {l : List ORow} (r : RowsIn w B h l) (k : Kb P w w') (hne : ∀ g ∈ h.blk ++ l.flatMap (·.h.blk), ¬ P g) : RowsIn w' B h l :=
  ⟨own_kb r.own k fun g hg => hne g (List.mem_append.2 (.inl (Hd.mem_blk.2 hg))), fun o ho => own_kb (r.each o ho) k fun g hg => hne g (List.mem_append.2 (.inr (List.mem_flatMap.2 ⟨o, ho, Hd.mem_blk.2 hg⟩)))⟩
theorem RowsIn.aft {h : Hd} {l : List ORow} (r : RowsIn w B h l) (a : Aft w w') : RowsIn w' B h l := r.kb (P := fun _ => False) (Kb.of_aft a) fun _ _ h => h
theorem RowsIn.lt {h : Hd} {l : List ORow} (r : RowsIn w B h l) : ∀ g ∈ h.blk ++ l.flatMap (·.h.blk), B ≤ g ∧ g < w.heap.size := fun g hg => by
  rcases List.mem_append.1 hg with hg | hg
  · exact blk_lt r.own g hg
  · obtain ⟨o, ho, hg⟩ := List.mem_flatMap.1 hg
    exact blk_lt (r.each o ho) g hg
theorem ShfIn.kb {P : Nat → Prop} {y : OShf} (h : ShfIn w B y) (k : Kb P w w') (hne : ∀ g ∈ y.blks, ¬ P g) : ShfIn w' B y := by
  have hp : ¬ P y.p := hne _ (by unfold OShf.blks; simp)
  refine ⟨h.ge, ?_, k.row h.row hp, h.tab.kb k fun g hg => hne g (by unfold OShf.blks; simp [hg]), h.rows.kb k fun g hg => hne g (by unfold OShf.blks OShf.rblk; exact List.mem_cons_of_mem _ (List.mem_append.2 (.inr hg)))⟩
  obtain ⟨cur, t, e⟩ := h.blk
  exact ⟨cur, t, (k.block y.p h.row.1 hp).trans e⟩
theorem ShfIn.aft {y : OShf} (h : ShfIn w B y) (a : Aft w w') : ShfIn w' B y := h.kb (P := fun _ => False) (Kb.of_aft a) fun _ _ h => h
theorem ShfIn.lt {y : OShf} (h : ShfIn w B y) : ∀ g ∈ y.blks, B ≤ g ∧ g < w.heap.size := fun g hg => by
  unfold OShf.blks OShf.rblk at hg
  rcases List.mem_cons.1 hg with rfl | hg
  · exact ⟨h.ge, h.row.1⟩
  · rcases List.mem_append.1 hg with hg | hg
    · exact h.tab.lt g hg
    · exact h.rows.lt g hg
theorem StoIn.kb {P : Nat → Prop} (h : StoIn w B s hl L) (k : Kb P w w') (hne : ∀ g ∈ s :: (hl.blk ++ L.flatMap OShf.blks), ¬ P g) : StoIn w' B s hl L :=
  ⟨h.ge, k.row h.row (hne s (by simp)), own_kb h.lst k fun g hg => hne g (by simp [Hd.mem_blk.2 hg]), fun y hy => (h.each y hy).kb k fun g hg => hne g (by simp only [List.mem_cons, List.mem_append, List.mem_flatMap]; exact .inr (.inr ⟨y, hy, hg⟩)), h.nd⟩
theorem StoIn.aft (h : StoIn w B s hl L) (a : Aft w w') : StoIn w' B s hl L := h.kb (P := fun _ => False) (Kb.of_aft a) fun _ _ h => h
theorem StoIn.lt (h : StoIn w B s hl L) : ∀ g ∈ s :: (hl.blk ++ L.flatMap OShf.blks), B ≤ g ∧ g < w.heap.size := fun g hg => by
  rcases List.mem_cons.1 hg with rfl | hg
  · exact ⟨h.ge, h.row.1⟩
  · rcases List.mem_append.1 hg with hg | hg
    · exact blk_lt h.lst g hg
    · obtain ⟨y, hy, hg⟩ := List.mem_flatMap.1 hg
      exact (h.each y hy).lt g hg
/-- how a store is read -/
def storeS (L : List OShf) : List Shf := L.map OShf.s
theorem mayV_small {v : Val} (h : mayV v = true) : v.text.size ≤ 32 := by
  unfold mayV at h
  split at h
  · rw [Bool.and_eq_true] at h
    have := h.2
    rw [emp_size] at this
    have := of_decide_eq_true this
    omega
  · split at h
    · rw [emp_size] at h
      have := of_decide_eq_true h
      omega
    · split at h
      · rw [Bool.and_eq_true] at h
        have := of_decide_eq_true h.2
        omega
      · cases h
theorem row_small {l : List Col} {row : List Val} (hl : l.length ≤ 8) (h : besideB formB l row = true) : Small (row.length * 16) ∧ ∀ v ∈ row, Small v.text.size := by
  obtain ⟨h1, h2⟩ := (besideB_iff formB l row).1 h
  refine ⟨by unfold Small; omega, fun v hv => ?_⟩
  obtain ⟨i, hi, rfl⟩ := List.getElem_of_mem hv
  have h3 := h2 i (by omega) hi
  unfold formB at h3
  rw [Bool.and_eq_true] at h3
  have := mayV_small h3.1
  unfold Small; omega
theorem RowIn.at {o : ORow} (h : RowIn w B o) (hs : Small (o.vals.length * 16) ∧ ∀ v ∈ o.vals, Small v.text.size) : SlAt w 3 ValR o.h.a o.h.c o.vals :=
  own_slf cellsV h (fun v hv => ⟨rfl, rfl, hs.2 v hv⟩) hs.1
theorem RowsIn.at {h : Hd} {l : List ORow} (r : RowsIn w B h l) (hl : l.length ≤ 1000000) (hs : ∀ o ∈ l, Small (o.vals.length * 16) ∧ ∀ v ∈ o.vals, Small v.text.size) : SlAt w 1 RowsR h.a h.c (l.map (·.vals)) :=
  own_slo ORow.cells (·.vals) r.own (fun o ho => ⟨rfl, o.h.a, o.h.c, by unfold ORow.cells; rw [own_slice (r.each o ho)], RowIn.at (r.each o ho) (hs o ho)⟩) (by unfold Small; omega)
theorem ShfIn.at {y : OShf} (h : ShfIn w B y) (sm : SmT y.x.t) (hr : y.rows.length ≤ 64) (hc : y.x.t.cols.length ≤ 8) (hf : ∀ o ∈ y.rows, besideB formB y.x.t.cols o.vals = true) : ShfAt w y.p y.s y.x.hc.a y.x.hc.c y.x.hr.a y.x.hr.c y.hr.a y.hr.c := by
  refine ⟨?_, h.tab.cols sm, h.tab.ruls sm, RowsIn.at h.rows (by omega) fun o ho => row_small hc (hf o ho), h.blk⟩
  have e := h.row
  unfold OShf.cells at e
  rw [OTab.cells_of h.tab rfl, own_slice h.rows.own] at e
  simpa [OShf.s, OTab.t] using e
theorem SOk.shf {S : List Shf} {ss : List Sch} (h : SOk S ss) {x : Shf} (hx : x ∈ S) : x.rows.length ≤ 64 ∧ x.t.cols.length ≤ 8 ∧ ∀ r ∈ x.rows, besideB formB x.t.cols r = true := ⟨h.most x hx, cols_len (h.tab hx).cols, h.form x hx⟩
theorem StoIn.is {ss : List Sch} (h : StoIn w B s hl L) (ok : SOk (storeS L) ss) (sm : ∀ y ∈ L, SmT y.x.t) : StoIs w s (L.map (·.p)) (storeS L) := by
  have hL : L.length ≤ 64 := by have := ok.good.nt; simpa [storeS] using this
  refine ⟨by simp [storeS], ?_, ⟨hl.a, hl.c, ?_, ?_⟩, fun i h1 h2 => ?_⟩
  · have h1 := (List.nodup_append.1 (List.nodup_cons.1 h.nd).2).2.1
    refine List.Nodup.sublist ?_ h1
    clear h1 hL ok sm h
    induction L with
    | nil => exact List.Sublist.refl _
    | cons y L ih =>
      rw [List.map_cons, List.flatMap_cons]
      exact List.Sublist.append (l₁ := [y.p]) (by unfold OShf.blks; exact List.Sublist.cons_cons _ (List.nil_sublist _)) ih
  · have e := h.row
    rw [own_slice h.lst] at e
    simpa using e
  · exact own_slo ptrC (·.p) h.lst (fun y hy => ⟨rfl, rfl⟩) (by unfold Small; omega)
  · have hi : i < L.length := by simpa using h1
    have hm : L[i] ∈ L := List.getElem_mem hi
    obtain ⟨q1, q2, q3⟩ := ok.shf (x := L[i].s) (List.mem_map_of_mem hm)
    have := (h.each _ hm).at (sm _ hm) (by simpa [OShf.s] using q1) q2 (fun o ho => q3 _ (List.mem_map_of_mem ho))
    rw [List.getElem_map, show (storeS L)[i] = L[i].s by simp [storeS]]
    exact ⟨_, _, _, _, _, _, this⟩
theorem nodup_sub {X Y Y2 Z : List Nat} {N : Nat} (h : (X ++ (Y ++ Z)).Nodup) (hlt : ∀ g ∈ X ++ (Y ++ Z), g < N) (hs : ∀ g ∈ Y2, g ∈ Y ∨ N ≤ g) (h2 : Y2.Nodup) : (X ++ (Y2 ++ Z)).Nodup := by
  obtain ⟨hX, hYZ, hd⟩ := List.nodup_append.1 h
  obtain ⟨hY, hZ, hd2⟩ := List.nodup_append.1 hYZ
  refine List.nodup_append.2 ⟨hX, List.nodup_append.2 ⟨h2, hZ, fun a ha b hb e => ?_⟩, fun a ha b hb e => ?_⟩
  · rcases hs a ha with h3 | h3
    · exact hd2 a h3 b hb e
    · have := hlt b (by simp [hb]); omega
  · rcases List.mem_append.1 hb with hb | hb
    · rcases hs b hb with h3 | h3
      · exact hd a ha b (by simp [h3]) e
      · have := hlt a (by simp [ha]); omega
    · exact hd a ha b (by simp [hb]) e
/-- a shelf's rows are other ones -/
theorem StoIn.turn {q : Nat} {h' : Hd} {R' : List ORow} (h : StoIn w B s hl L) (hq : q < L.length) (k : Kb (fun g => g = L[q].p ∨ g ∈ L[q].rblk) w w') (hrow : RowAt w' L[q].p (L[q].x.cells ++ [h'.v])) (hblk : ∃ cur t, w'.heap[L[q].p]? = some (.cells cur t (0, 0)))
    (hr : RowsIn w' B h' R') (hb : ∀ g ∈ h'.blk ++ R'.flatMap (·.h.blk), g ∈ L[q].rblk ∨ w.heap.size ≤ g) (hn : (h'.blk ++ R'.flatMap (·.h.blk)).Nodup) : StoIn w' B s hl (L.set q ⟨L[q].p, L[q].x, R', h'⟩) := by
  have hall := h.lt
  have hnd := h.nd
  have hsplit : L = L.take q ++ L[q] :: L.drop (q + 1) := by rw [List.getElem_cons_drop, List.take_append_drop]
  have hset : L.set q ⟨L[q].p, L[q].x, R', h'⟩ = L.take q ++ (⟨L[q].p, L[q].x, R', h'⟩ : OShf) :: L.drop (q + 1) := List.set_eq_take_append_cons_drop.trans (by rw [if_pos hq])
  have hfl : L.flatMap OShf.blks = (L.take q).flatMap OShf.blks ++ (L[q].blks ++ (L.drop (q + 1)).flatMap OShf.blks) := by
    conv => lhs; rw [hsplit]
    rw [List.flatMap_append, List.flatMap_cons]
  have hey := h.each L[q] (List.getElem_mem hq)
  obtain ⟨A, hA⟩ : ∃ A, L.take q = A := ⟨_, rfl⟩
  obtain ⟨C, hC⟩ : ∃ C, L.drop (q + 1) = C := ⟨_, rfl⟩
  obtain ⟨y, hy⟩ : ∃ y, L[q] = y := ⟨_, rfl⟩
  have hAm : ∀ u ∈ A, u ∈ L := fun u hu => by rw [← hA] at hu; exact List.mem_of_mem_take hu
  have hCm : ∀ u ∈ C, u ∈ L := fun u hu => by rw [← hC] at hu; exact List.mem_of_mem_drop hu
  rw [hA, hC, hy] at hset hfl
  rw [hy] at k hrow hblk hb hey ⊢
  rw [hset]
  rw [hfl] at hnd hall
  have hPy : ∀ g, (g = y.p ∨ g ∈ y.rblk) → g ∈ y.blks := fun g e => by
    rcases e with rfl | e
    · unfold OShf.blks; simp
    · unfold OShf.blks; simp [e]
  have nd1 := List.nodup_cons.1 hnd
  have nd2 := List.nodup_append.1 nd1.2
  have nd3 := List.nodup_append.1 nd2.2.1
  have nd4 := List.nodup_append.1 nd3.2.1
  have hnA : ∀ g ∈ A.flatMap OShf.blks, ¬ (g = y.p ∨ g ∈ y.rblk) := fun g hg e => nd3.2.2 g hg g (List.mem_append.2 (.inl (hPy g e))) rfl
  have hnC : ∀ g ∈ C.flatMap OShf.blks, ¬ (g = y.p ∨ g ∈ y.rblk) := fun g hg e => nd4.2.2 g (hPy g e) g hg rfl
  have hsub : ∀ g ∈ OShf.blks ⟨y.p, y.x, R', h'⟩, g ∈ y.blks ∨ w.heap.size ≤ g := fun g hg => by
    unfold OShf.blks OShf.rblk at hg
    rcases List.mem_cons.1 hg with rfl | hg
    · exact .inl (by unfold OShf.blks; simp)
    · rcases List.mem_append.1 hg with hg | hg
      · exact .inl (by unfold OShf.blks; simp [hg])
      · rcases hb g hg with h3 | h3
        · exact .inl (hPy g (.inr h3))
        · exact .inr h3
  have hyn : (OShf.blks ⟨y.p, y.x, R', h'⟩).Nodup := by
    have h0 : ((y.p :: y.x.blks) ++ (y.rblk ++ [])).Nodup := by have := nd4.1; unfold OShf.blks at this; simpa using this
    have := nodup_sub (Y2 := h'.blk ++ R'.flatMap (·.h.blk)) (N := w.heap.size) h0 (fun g hg => (hey.lt g (by unfold OShf.blks; simpa using hg)).2) hb hn
    unfold OShf.blks OShf.rblk
    simpa using this
  refine ⟨h.ge, k.row h.row fun e => nd1.1 (List.mem_append.2 (.inr (List.mem_append.2 (.inr (List.mem_append.2 (.inl (hPy s e))))))), ?_, fun u hu => ?_, ?_⟩
  · have e1 : (A ++ (⟨y.p, y.x, R', h'⟩ : OShf) :: C).length = L.length := by rw [← hset, List.length_set]
    have e2 : (A ++ (⟨y.p, y.x, R', h'⟩ : OShf) :: C).flatMap ptrC = L.flatMap ptrC := by
      conv => rhs; rw [hsplit, hA, hC, hy]
      rw [List.flatMap_append, List.flatMap_cons, List.flatMap_append, List.flatMap_cons]; rfl
    rw [e1, e2]
    exact own_kb h.lst k fun g hg e => nd2.2.2 g (Hd.mem_blk.2 hg) g (List.mem_append.2 (.inr (List.mem_append.2 (.inl (hPy g e))))) rfl
  · rcases List.mem_append.1 hu with hu | hu
    · exact (h.each u (hAm u hu)).kb k fun g hg => hnA g (List.mem_flatMap.2 ⟨u, hu, hg⟩)
    · rcases List.mem_cons.1 hu with rfl | hu
      · refine ⟨hey.ge, hblk, hrow, hey.tab.kb k fun g hg e => ?_, hr⟩
        have n5 := nd4.1
        unfold OShf.blks at n5
        rcases e with rfl | e
        · exact (List.nodup_cons.1 n5).1 (by simp [hg])
        · exact (List.nodup_append.1 (List.nodup_cons.1 n5).2).2.2 g hg g e rfl
      · exact (h.each u (hCm u hu)).kb k fun g hg => hnC g (List.mem_flatMap.2 ⟨u, hu, hg⟩)
  · rw [List.flatMap_append, List.flatMap_cons]
    have := nodup_sub (X := s :: (hl.blk ++ A.flatMap OShf.blks)) (Y := y.blks) (Y2 := OShf.blks ⟨y.p, y.x, R', h'⟩) (Z := C.flatMap OShf.blks) (N := w.heap.size) (by simpa [List.append_assoc] using hnd) (fun g hg => (hall g (by simpa [List.append_assoc] using hg)).2) hsub hyn
    simpa [List.append_assoc] using this
end
end Go.Proofs.YtiadkchlkdaceaaGreat

namespace Go.Proofs.YtiadkchlkdaceaaGreat
open Go.RowKit
set_option maxRecDepth 100000
set_option linter.unusedVariables false
set_option maxHeartbeats 1000000 in
theorem idxRow (A : Option Addr) (cap : Nat) (l : List (List Val)) (g : FuncId) (caps : Array Value) (p : List Val → Bool) (w : World) (h : SlAt w 1 RowsR A cap l) (hent : ∀ (args : Array Value) (w : World), (callFunc g args).run Tryz.prog w = .ok (.enter g args) w)
    (hp : ∀ w', Aft w w' → ∀ i (hi : i < l.length) (A2 : Option Addr) (cap2 : Nat), SlAt w' 3 ValR A2 cap2 l[i] → Calls Tryz.prog g (#[.slice A2 l[i].length cap2] ++ caps) w' fun e w'' => e = .returned (.bool (p l[i])) ∧ Aft w' w'') :
    Calls Tryz.prog 135 #[.slice A l.length cap, .func (.func g) #[] caps] w fun e w' => e = .returned (.int .i64 (idxP p l)) ∧ Aft w w' := by
  have hlen := h.len
  have HC := Lib.hid hp
  clear hp
  go_enter Tryz.func135, Tryz.ntmps135
  go_wp2_with fail
  go_loopw [8] (fun i wr => ∃ k : Nat, k ≤ l.length ∧ i = .int .i64 k ∧ Aft w wr ∧ ∀ j, j < k → ∀ (hj : j < l.length), p l[j] = false) (fun i _ => l.length - (intOf i).toNat)
  case atStart => exact ⟨0, Nat.zero_le _, rfl, Aft.refl _, fun j hj => absurd hj (Nat.not_lt_zero j)⟩
  case round =>
    obtain ⟨k, hk, rfl, ha, hp⟩ := hrel
    have HA := Lib.hid ha
    have HP := Lib.hid hp; clear hp
    by_cases hlt : k < l.length
    · have hsl := rows_aft ha h
      clear ha
      obtain ⟨b, off, A2, cap2, rfl, hb, c0, hs⟩ := row_at hsl hlt
      have HK := Lib.hid (HC.out wr HA.out k hlt A2 cap2 hs)
      clear hsl hs
      obtain ⟨q, hq⟩ : ∃ q, p l[k] = q := ⟨_, rfl⟩
      rw [hq] at HK
      have HQ := Lib.hid hq
      clear hq
      cases q
      · go_wp2_with fail
        refine HK.out.mono ?_
        rintro e w1 ⟨rfl, a1⟩
        have HA1 := Lib.hid (HA.out.trans a1)
        clear a1
        go_wp2_with fail
        go_roundw
        case rel => exact ⟨k + 1, by omega, by go_num, HA1.out, ext_lt (p := fun j => ∀ (hj : j < l.length), p l[j] = false) HP.out (fun _ => HQ.out)⟩
        case measure => simp [intOf]; omega
      · go_wp2_with fail
        refine HK.out.mono ?_
        rintro e w1 ⟨rfl, a1⟩
        have HA1 := Lib.hid (HA.out.trans a1)
        clear a1
        go_wp2_with fail
        go_ret
        exact ⟨by rw [idxP_some p l k hlt HQ.out (fun i hi => HP.out i hi (by omega))]; rfl, HA1.out⟩
    · clear ha
      go_wp2_with fail
      go_ret
      exact ⟨by rw [idxP_none p l (fun i hi => HP.out i (by omega) hi)]; rfl, HA.out⟩
set_option maxHeartbeats 1000000 in
theorem contRow (A : Option Addr) (cap : Nat) (l : List (List Val)) (g : FuncId) (caps : Array Value) (p : List Val → Bool) (w : World) (h : SlAt w 1 RowsR A cap l) (hent : ∀ (args : Array Value) (w : World), (callFunc g args).run Tryz.prog w = .ok (.enter g args) w)
    (hp : ∀ w', Aft w w' → ∀ i (hi : i < l.length) (A2 : Option Addr) (cap2 : Nat), SlAt w' 3 ValR A2 cap2 l[i] → Calls Tryz.prog g (#[.slice A2 l[i].length cap2] ++ caps) w' fun e w'' => e = .returned (.bool (p l[i])) ∧ Aft w' w'') :
    Calls Tryz.prog 127 #[.slice A l.length cap, .func (.func g) #[] caps] w fun e w' => e = .returned (.bool (l.any p)) ∧ Aft w w' := by
  have C := Lib.hid (idxRow A cap l g caps p w h hent hp)
  have HE := Lib.hid (any_idx p l)
  obtain ⟨i, hi⟩ : ∃ i, idxP p l = i := ⟨_, rfl⟩
  rw [hi] at C HE
  clear hi h hp hent
  go_enter Tryz.func127, Tryz.ntmps127
  go_wp2_with fail
  refine C.out.mono ?_
  rintro e w1 ⟨rfl, a1⟩
  have HA := Lib.hid a1
  clear a1
  go_wp2_with fail
  go_ret
  exact ⟨by rw [HE.out]; rfl, HA.out⟩
set_option maxHeartbeats 1000000 in
theorem contCol12 (A : Option Addr) (cap : Nat) (l : List Col) (g : FuncId) (caps : Array Value) (p : Col → Bool) (w : World) (h : SlAt w 3 ColR A cap l) (hent : ∀ (args : Array Value) (w : World), (callFunc g args).run Tryz.prog w = .ok (.enter g args) w)
    (hp : ∀ w', Aft w w' → ∀ i (hi : i < l.length), Calls Tryz.prog g (#[.agg #[.string l[i].name, .int .i64 l[i].kind, .bool l[i].null]] ++ caps) w' fun e w'' => e = .returned (.bool (p l[i])) ∧ Aft w' w'') :
    Calls Tryz.prog 31 #[.slice A l.length cap, .func (.func g) #[] caps] w fun e w' => e = .returned (.bool (l.any p)) ∧ Aft w w' := by
  have C := Lib.hid (idxCol A cap l g caps p w h hent hp)
  have HE := Lib.hid (any_idx p l)
  obtain ⟨i, hi⟩ : ∃ i, idxP p l = i := ⟨_, rfl⟩
  rw [hi] at C HE
  clear hi h hp hent
  go_enter Tryz.func31, Tryz.ntmps31
  go_wp2_with fail
  refine C.out.mono ?_
  rintro e w1 ⟨rfl, a1⟩
  have HA := Lib.hid a1
  clear a1
  go_wp2_with fail
  go_ret
  exact ⟨by rw [HE.out]; rfl, HA.out⟩
set_option maxHeartbeats 2000000 in
theorem has1 (p : Nat) (x : Shf) (names : List ByteArray) (want row : List Val) (N : Option Addr) (capN : Nat) (D : Option Addr) (capD : Nat) (B : Option Addr) (capB : Nat) (b1 b2 b3 : Nat) (w : World) (h : ShfIs w p x) (hn : SlAt w 1 StrR N capN names) (hd : SlAt w 3 ValR D capD want) (h3 : SlAt w 3 ValR B capB row)
    (ok : OkN x.t.cols names) (hf : besideB formB x.t.cols row = true) (c1 : w.cell? ⟨b1, 0, none⟩ = some (.pointer (some ⟨p, 0, none⟩))) (c2 : w.cell? ⟨b2, 0, none⟩ = some (.slice N names.length capN)) (c3 : w.cell? ⟨b3, 0, none⟩ = some (.slice D want.length capD)) :
    Calls Tryz.prog 128 #[.slice B row.length capB, .pointer (some ⟨b1, 0, none⟩), .pointer (some ⟨b2, 0, none⟩), .pointer (some ⟨b3, 0, none⟩)] w fun e w' => e = .returned (.bool (eqVs (ofVs x.t.cols names row) want)) ∧ Aft w w' := by
  have C := Lib.hid (values12 p x names row N capN B capB w h hn h3 ok hf)
  have hLS : Small ((ofVs x.t.cols names row).length * 16) := by rw [ofVs_len]; exact small8' ok.1
  have hTS : ∀ v ∈ ofVs x.t.cols names row, Small v.text.size := by
    intro v hv
    obtain ⟨s', hs', rfl⟩ := List.mem_map.1 hv
    obtain ⟨j, hj, rfl⟩ := List.getElem_of_mem hs'
    obtain ⟨z, hz0, hzr⟩ := okN_at ok hf j hj
    rw [hz0, valAt_get hzr]
    exact val_small h3 z hzr
  obtain ⟨L, hL⟩ : ∃ L, ofVs x.t.cols names row = L := ⟨_, rfl⟩
  rw [hL] at C hLS hTS ⊢
  have E := Lib.hid (show ∀ w' v, Aft w w' → w'.ownsRow w.heap.size 37 3 v L.length (L.flatMap cellsV) → Calls Tryz.prog 129 #[v, .slice D want.length capD] w' fun e w'' => e = .returned (.bool (eqVs L want)) ∧ Aft w' w'' from fun w' v a ho => by
    obtain ⟨G, capG, rfl, hG⟩ := own_vals ho hLS hTS
    exact eqVal_any G capG L D capD want w' hG (vals_aft a hd))
  have z3 := World.block_lt_of_cell? _ _ c3
  clear h hn hd h3 ok hf hL hLS hTS
  go_enter Tryz.func128, Tryz.ntmps128
  go_wp2_with fail
  refine C.out.mono ?_
  rintro e w1 ⟨v, rfl, a1, ho⟩
  have E1 := Lib.hid (E.out w1 v a1 ho)
  have HA := Lib.hid a1
  have c3 := a1.cell_kept c3
  clear a1 ho c1 c2 C E
  go_wp2_with fail
  refine E1.out.mono ?_
  rintro e w2 ⟨rfl, a2⟩
  have HA2 := Lib.hid (HA.out.trans a2)
  clear a2
  go_wp2_with fail
  go_ret
  exact ⟨rfl, HA2.out⟩
set_option maxHeartbeats 2000000 in
theorem has12 (p : Nat) (x : Shf) (rows : List (List Val)) (names : List ByteArray) (want : List Val) (R : Option Addr) (capR : Nat) (N : Option Addr) (capN : Nat) (D : Option Addr) (capD : Nat) (w : World) (h : ShfIs w p x) (hr : SlAt w 1 RowsR R capR rows) (hn : SlAt w 1 StrR N capN names) (hd : SlAt w 3 ValR D capD want)
    (ok : OkN x.t.cols names) (hf : ∀ row ∈ rows, besideB formB x.t.cols row = true) :
    Calls Tryz.prog 105 #[.pointer (some ⟨p, 0, none⟩), .slice R rows.length capR, .slice N names.length capN, .slice D want.length capD] w fun e w' => e = .returned (.bool (hasR12 x.t.cols rows names want)) ∧ Aft w w' := by
  have hent := enters (P := Tryz.prog) Tryz.func128 (by kernel_rfl) rfl
  have C := Lib.hid (show ∀ W, Aft w W → W.cell? ⟨w.heap.size, 0, none⟩ = some (.pointer (some ⟨p, 0, none⟩)) → W.cell? ⟨w.heap.size + 1, 0, none⟩ = some (.slice N names.length capN) → W.cell? ⟨w.heap.size + 1 + 1, 0, none⟩ = some (.slice D want.length capD) →
      Calls Tryz.prog 127 #[.slice R rows.length capR, .func (.func 128) #[] #[.pointer (some ⟨w.heap.size, 0, none⟩), .pointer (some ⟨w.heap.size + 1, 0, none⟩), .pointer (some ⟨w.heap.size + 1 + 1, 0, none⟩)]] W fun e w' => e = .returned (.bool (hasR12 x.t.cols rows names want)) ∧ Aft W w' from fun W a q1 q2 q3 =>
    contRow R capR rows 128 #[.pointer (some ⟨w.heap.size, 0, none⟩), .pointer (some ⟨w.heap.size + 1, 0, none⟩), .pointer (some ⟨w.heap.size + 1 + 1, 0, none⟩)] (fun row => eqVs (ofVs x.t.cols names row) want) W (rows_aft a hr) hent fun w' a' i hi A2 cap2 h3 =>
      has1 p x names want rows[i] N capN D capD A2 cap2 w.heap.size (w.heap.size + 1) (w.heap.size + 1 + 1) w' (h.aft (a.trans a')) (strs_aft (a.trans a') hn) (vals_aft (a.trans a') hd) h3 ok (hf _ (List.getElem_mem hi)) (a'.cell_kept q1) (a'.cell_kept q2) (a'.cell_kept q3))
  clear h hr hn hd ok hf hent
  go_enter Tryz.func105, Tryz.ntmps105
  go_wp2_with fail
  obtain ⟨W, hW⟩ : ∃ W, W = ((w.alloc (.cells #[.pointer (some ⟨p, 0, none⟩)] 80)).alloc (.cells #[.slice N names.length capN] 60)).alloc (.cells #[.slice D want.length capD] 34) := ⟨_, rfl⟩
  have aW : Aft w W := by rw [hW]; exact (((Aft.refl w).alloc _).alloc _).alloc _
  have b1 : (w.alloc (.cells #[.pointer (some ⟨p, 0, none⟩)] 80)).cell? ⟨w.heap.size, 0, none⟩ = some (.pointer (some ⟨p, 0, none⟩)) := World.cell?_alloc_at _ _ _ _ rfl
  have b2 : ((w.alloc (.cells #[.pointer (some ⟨p, 0, none⟩)] 80)).alloc (.cells #[.slice N names.length capN] 60)).cell? ⟨w.heap.size + 1, 0, none⟩ = some (.slice N names.length capN) := World.cell?_alloc_at _ _ _ _ (by simp)
  have b3 : (((w.alloc (.cells #[.pointer (some ⟨p, 0, none⟩)] 80)).alloc (.cells #[.slice N names.length capN] 60)).alloc (.cells #[.slice D want.length capD] 34)).cell? ⟨w.heap.size + 1 + 1, 0, none⟩ = some (.slice D want.length capD) := World.cell?_alloc_at _ _ _ _ (by simp)
  have C1 := Lib.hid (C.out W aW (by rw [hW]; exact ((((Aft.refl _).alloc _).alloc _).cell_kept b1)) (by rw [hW]; exact (((Aft.refl _).alloc _).cell_kept b2)) (by rw [hW]; exact b3))
  have HA := Lib.hid aW
  rw [← hW]
  clear hW aW C
  refine C1.out.mono ?_
  rintro e w1 ⟨rfl, a1⟩
  have HA1 := Lib.hid (HA.out.trans a1)
  clear a1
  go_wp2_with fail
  go_ret
  exact ⟨rfl, HA1.out⟩
end Go.Proofs.YtiadkchlkdaceaaGreat

namespace Go.Proofs.YtiadkchlkdaceaaGreat
open Go.RowKit
set_option maxRecDepth 100000
set_option linter.unusedVariables false
@[go_sem ↓] theorem run_neqCol_self (w : World) (s : ByteArray) (k : Int) (b : Bool) :
    (binOp .neq 93 (.agg #[.string s, .int .i64 k, .bool b]) (.agg #[.string s, .int .i64 k, .bool b])).run Tryz.prog w = .ok (.bool false) w := by
  rw [run_neq_struct]; go_simp; try rfl
@[go_sem ↓] theorem run_neqSch_self (w : World) (s t : ByteArray) :
    (binOp .neq 88 (.agg #[.string s, .string t]) (.agg #[.string s, .string t])).run Tryz.prog w = .ok (.bool false) w := by
  rw [run_neq_struct]; go_simp; try rfl
set_option maxHeartbeats 8000000 in
theorem sameT_any (t : Tab) (A : Option Addr) (cap : Nat) (A2 : Option Addr) (cap2 : Nat) (B : Option Addr) (capB : Nat) (B2 : Option Addr) (capB2 : Nat) (w : World) (h1 : SlAt w 3 ColR A cap t.cols) (h2 : SlAt w 8 RulR A2 cap2 t.rules) (h3 : SlAt w 3 ColR B capB t.cols) (h4 : SlAt w 8 RulR B2 capB2 t.rules) :
    Calls Tryz.prog 29 #[.agg #[.string t.schema, .string t.name, .string t.owner, .slice A t.cols.length cap, .slice A2 t.rules.length cap2], .agg #[.string t.schema, .string t.name, .string t.owner, .slice B t.cols.length capB, .slice B2 t.rules.length capB2]] w
      fun e w' => e = .returned (.bool true) ∧ Aft w w' := by
  have hlen := h1.len
  have hlen2 := h2.len
  obtain ⟨W, hW⟩ : ∃ W, W = (w.alloc (.cells #[.string t.schema, .string t.name, .string t.owner, .slice A t.cols.length cap, .slice A2 t.rules.length cap2] 76)).alloc (.cells #[.string t.schema, .string t.name, .string t.owner, .slice B t.cols.length capB, .slice B2 t.rules.length capB2] 76) := ⟨_, rfl⟩
  have aW : Aft w W := by rw [hW]; exact ((Aft.refl w).alloc _).alloc _
  have hbb := aft_box2 (w := w) (w1 := W) (by rw [← hW]; exact Aft.refl W)
  obtain ⟨ha0, hb0, hz, _⟩ := hbb
  have HAW := Lib.hid aW
  go_enter Tryz.func29, Tryz.ntmps29
  go_wp2_with fail
  rw [← hW]
  clear hW
  go_loopw [5] (fun i wr => ∃ k : Nat, k ≤ t.cols.length ∧ i = .int .i64 k ∧ Aft W wr) (fun i _ => t.cols.length - (intOf i).toNat)
  case atStart => exact ⟨0, Nat.zero_le _, rfl, Aft.refl _⟩
  case round =>
    obtain ⟨k, hk, rfl, ha⟩ := hrel
    have x3 := ha.cell_kept (show W.cell? ⟨w.heap.size, 3, none⟩ = some (.slice A t.cols.length cap) from ha0 3)
    have y3 := ha.cell_kept (show W.cell? ⟨w.heap.size + 1, 3, none⟩ = some (.slice B t.cols.length capB) from hb0 3)
    have HAR := Lib.hid ha
    by_cases hlt : k < t.cols.length
    · obtain ⟨b, off, rfl, hb, c0, c1, c2, _⟩ := col_at (cols_aft (HAW.out.trans ha) h1) hlt
      obtain ⟨b2, off2, rfl, hb2, d0, d1, d2, _⟩ := col_at (cols_aft (HAW.out.trans ha) h3) hlt
      have lx := World.block_lt_of_cell? _ _ x3
      have ly := World.block_lt_of_cell? _ _ y3
      clear ha
      go_wp2_with fail
      refine wp_region_lat (by kernel_rfl) (by kernel_rfl) ?_
      repeat (go_big_quiet_step (fail))
      refine wpQuiet_nil ?_
      intro _ hw'
      obtain ⟨x, hw''⟩ := hw'
      subst hw''
      go_wp2_with fail
      go_roundw
      case rel => exact ⟨k + 1, by omega, by go_num, HAR.out.lat x⟩
      case measure => simp [intOf]; omega
    go_wp2_with fail
    go_loopw [6] (fun i wrr => ∃ k : Nat, k ≤ t.rules.length ∧ i = .int .i64 k ∧ Aft W wrr) (fun i _ => t.rules.length - (intOf i).toNat)
    case atStart => exact ⟨0, Nat.zero_le _, rfl, ha⟩
    case round =>
      clear ha HAR x3 y3
      obtain ⟨k2, hk2, rfl, ha⟩ := hrel
      have x4 := ha.cell_kept (show W.cell? ⟨w.heap.size, 4, none⟩ = some (.slice A2 t.rules.length cap2) from ha0 4)
      have y4 := ha.cell_kept (show W.cell? ⟨w.heap.size + 1, 4, none⟩ = some (.slice B2 t.rules.length capB2) from hb0 4)
      have HAR := Lib.hid ha
      by_cases hlt2 : k2 < t.rules.length
      · obtain ⟨b, off, D, capD, rfl, hb, c0, c1, c2, c3, c4, c5, c6, c7, hcs, _⟩ := rul_at (ruls_aft (HAW.out.trans ha) h2) hlt2
        obtain ⟨b2, off2, E, capE, rfl, hb2, d0, d1, d2, d3, d4, d5, d6, d7, hds, _⟩ := rul_at (ruls_aft (HAW.out.trans ha) h4) hlt2
        obtain ⟨p, hpp⟩ : ∃ p, t.rules[k2] = p := ⟨_, rfl⟩
        rw [hpp] at c0 c1 c2 c3 c4 c5 c6 c7 hcs d0 d1 d2 d3 d4 d5 d6 d7 hds
        have hlp := hcs.len
        have lx : w.heap.size < wr.heap.size := World.block_lt_of_cell? _ _ x4
        have ly : w.heap.size + 1 < wr.heap.size := World.block_lt_of_cell? _ _ y4
        have lyy : w.heap.size + 1 < wr.heap.size + 1 := by omega
        have lb2 : b2 < wr.heap.size + 1 := by omega
        obtain ⟨V, hV⟩ : ∃ V, V = (wr.alloc (.cells #[.string p.name, .int .i64 p.kind, .slice D p.cols.length capD, .int .i64 p.low, .int .i64 p.high, .string p.schema, .string p.table, .string p.key] 108)).alloc (.cells #[.string p.name, .int .i64 p.kind, .slice E p.cols.length capE, .int .i64 p.low, .int .i64 p.high, .string p.schema, .string p.table, .string p.key] 108) := ⟨_, rfl⟩
        have aV : Aft wr V := by rw [hV]; exact ((Aft.refl wr).alloc _).alloc _
        obtain ⟨va0, vb0, vz, _⟩ := aft_box2 (w := wr) (w1 := V) (by rw [← hV]; exact Aft.refl V)
        have HAV := Lib.hid (HAR.out.trans aV)
        have hcsV := strs_aft aV hcs
        have hdsV := strs_aft aV hds
        obtain ⟨n1, hn1⟩ : ∃ n, n = wr.heap.size := ⟨_, rfl⟩
        have l1 : wr.heap.size < wr.heap.size + 1 := by omega
        have l2 : wr.heap.size < wr.heap.size + 1 + 1 := by omega
        clear hpp aV
        go_wp2_with fail
        rw [← hV]
        clear hV c0 c1 c2 c3 c4 c5 c6 c7 d0 d1 d2 d3 d4 d5 d6 d7 x4 y4 hcs hds
        have z2 : V.cell? ⟨wr.heap.size, 2, none⟩ = some (.slice D p.cols.length capD) := va0 2
        have u2 : V.cell? ⟨wr.heap.size + 1, 2, none⟩ = some (.slice E p.cols.length capE) := vb0 2
        rw [← hn1] at z2 u2 ⊢
        clear va0 vb0 vz hn1 ha
        go_wp2_with fail
        go_loopw [9] (fun i wrr => ∃ k : Nat, k ≤ p.cols.length ∧ i = .int .i64 k ∧ Aft V wrr) (fun i _ => p.cols.length - (intOf i).toNat)
        case atStart => exact ⟨0, Nat.zero_le _, rfl, Aft.refl _⟩
        case round =>
          obtain ⟨k3, hk3, rfl, ha⟩ := hrel
          have HA3 := Lib.hid ha
          have z2' := ha.cell_kept z2
          have u2' := ha.cell_kept u2
          by_cases hlt3 : k3 < p.cols.length
          · obtain ⟨b5, off5, hD, hb5, g5, _⟩ := str_at (strs_aft ha hcsV) hlt3
            subst hD
            obtain ⟨b6, off6, hE, hb6, g6, _⟩ := str_at (strs_aft ha hdsV) hlt3
            subst hE
            have lz := World.block_lt_of_cell? _ _ z2'
            have lu := World.block_lt_of_cell? _ _ u2'
            clear ha
            go_wp2_with fail
            refine wp_region_lat (by kernel_rfl) (by kernel_rfl) ?_
            repeat (go_big_quiet_step (fail))
            refine wpQuiet_nil ?_
            intro _ hw'
            obtain ⟨x, hw''⟩ := hw'
            subst hw''
            go_wp2_with fail
            go_roundw
            case rel => exact ⟨k3 + 1, by omega, by go_num, HA3.out.lat x⟩
            case measure => simp [intOf]; omega
          · clear ha
            go_wp2_with fail
            go_roundw
            case rel => exact ⟨k2 + 1, by omega, by go_num, HAV.out.trans HA3.out⟩
            case measure => simp [intOf]; omega
      · clear ha
        go_wp2_with fail
        go_ret
        exact ⟨rfl, HAW.out.trans HAR.out⟩
set_option maxHeartbeats 8000000 in
theorem sameO_any (o : Objs) (A : Option Addr) (cap : Nat) (A2 : Option Addr) (cap2 : Nat) (B : Option Addr) (capB : Nat) (B2 : Option Addr) (capB2 : Nat) (w : World) (h1 : SlAt w 2 SchR A cap o.schemas) (h2 : SlAt w 5 TabR A2 cap2 o.tables) (h3 : SlAt w 2 SchR B capB o.schemas) (h4 : SlAt w 5 TabR B2 capB2 o.tables) :
    Calls Tryz.prog 10 #[.agg #[.slice A o.schemas.length cap, .slice A2 o.tables.length cap2], .agg #[.slice B o.schemas.length capB, .slice B2 o.tables.length capB2]] w
      fun e w' => e = .returned (.bool true) ∧ Aft w w' := by
  have hlen := h1.len
  have hlen2 := h2.len
  obtain ⟨W, hW⟩ : ∃ W, W = (w.alloc (.cells #[.slice A o.schemas.length cap, .slice A2 o.tables.length cap2] 29)).alloc (.cells #[.slice B o.schemas.length capB, .slice B2 o.tables.length capB2] 29) := ⟨_, rfl⟩
  have aW : Aft w W := by rw [hW]; exact ((Aft.refl w).alloc _).alloc _
  obtain ⟨ha0, hb0, hz, _⟩ := aft_box2 (w := w) (w1 := W) (by rw [← hW]; exact Aft.refl W)
  have HAW := Lib.hid aW
  go_enter Tryz.func10, Tryz.ntmps10
  go_wp2_with fail
  rw [← hW]
  clear hW
  go_loopw [5] (fun i wr => ∃ k : Nat, k ≤ o.schemas.length ∧ i = .int .i64 k ∧ Aft W wr) (fun i _ => o.schemas.length - (intOf i).toNat)
  case atStart => exact ⟨0, Nat.zero_le _, rfl, Aft.refl _⟩
  case round =>
    obtain ⟨k, hk, rfl, ha⟩ := hrel
    have x3 := ha.cell_kept (show W.cell? ⟨w.heap.size, 0, none⟩ = some (.slice A o.schemas.length cap) from ha0 0)
    have y3 := ha.cell_kept (show W.cell? ⟨w.heap.size + 1, 0, none⟩ = some (.slice B o.schemas.length capB) from hb0 0)
    have HAR := Lib.hid ha
    by_cases hlt : k < o.schemas.length
    · obtain ⟨b, off, rfl, hb, c0, c1, _⟩ := sch_at (schs_aft (HAW.out.trans ha) h1) hlt
      obtain ⟨b2, off2, rfl, hb2, d0, d1, _⟩ := sch_at (schs_aft (HAW.out.trans ha) h3) hlt
      have lx := World.block_lt_of_cell? _ _ x3
      have ly := World.block_lt_of_cell? _ _ y3
      clear ha
      go_wp2_with fail
      refine wp_region_lat (by kernel_rfl) (by kernel_rfl) ?_
      repeat (go_big_quiet_step (fail))
      refine wpQuiet_nil ?_
      intro _ hw'
      obtain ⟨x, hw''⟩ := hw'
      subst hw''
      go_wp2_with fail
      go_roundw
      case rel => exact ⟨k + 1, by omega, by go_num, HAR.out.lat x⟩
      case measure => simp [intOf]; omega
    go_wp2_with fail
    go_loopw [6] (fun i wrr => ∃ k : Nat, k ≤ o.tables.length ∧ i = .int .i64 k ∧ Aft W wrr) (fun i _ => o.tables.length - (intOf i).toNat)
    case atStart => exact ⟨0, Nat.zero_le _, rfl, ha⟩
    case round =>
      clear ha HAR x3 y3
      obtain ⟨k2, hk2, rfl, ha⟩ := hrel
      have x4 := ha.cell_kept (show W.cell? ⟨w.heap.size, 1, none⟩ = some (.slice A2 o.tables.length cap2) from ha0 1)
      have y4 := ha.cell_kept (show W.cell? ⟨w.heap.size + 1, 1, none⟩ = some (.slice B2 o.tables.length capB2) from hb0 1)
      have HAR := Lib.hid ha
      by_cases hlt2 : k2 < o.tables.length
      · obtain ⟨b, off, D, capD, D2, capD2, rfl, hb, c0, c1, c2, c3, c4, hcc, hcr, _⟩ := tab_at (tabs_aft (HAW.out.trans ha) h2) hlt2
        obtain ⟨b2, off2, E, capE, E2, capE2, rfl, hb2, d0, d1, d2, d3, d4, hdc, hdr, _⟩ := tab_at (tabs_aft (HAW.out.trans ha) h4) hlt2
        have lx : w.heap.size < wr.heap.size := World.block_lt_of_cell? _ _ x4
        have ly : w.heap.size + 1 < wr.heap.size := World.block_lt_of_cell? _ _ y4
        have Cs := Lib.hid (show ∀ x : Lat wr, _ from fun x => sameT_any o.tables[k2] D capD D2 capD2 E capE E2 capE2 (lat wr x) (cols_aft ((Aft.refl wr).lat x) hcc) (ruls_aft ((Aft.refl wr).lat x) hcr) (cols_aft ((Aft.refl wr).lat x) hdc) (ruls_aft ((Aft.refl wr).lat x) hdr))
        clear ha hcc hcr hdc hdr
        go_wp2_with fail
        refine wp_region_lat (by kernel_rfl) (by kernel_rfl) ?_
        repeat (go_big_quiet_step ((first | (go_at_call 29; exact Calls.lat_of (Cs.out _)))))
        refine wpQuiet_nil ?_
        intro _ hw'
        obtain ⟨x, hw''⟩ := hw'
        subst hw''
        go_wp2_with fail
        go_roundw
        case rel => exact ⟨k2 + 1, by omega, by go_num, HAR.out.lat x⟩
        case measure => simp [intOf]; omega
      · clear ha
        go_wp2_with fail
        go_ret
        exact ⟨rfl, HAW.out.trans HAR.out⟩
end Go.Proofs.YtiadkchlkdaceaaGreat

namespace Go.Proofs.YtiadkchlkdaceaaGreat
open Go.RowKit Go.Deep
set_option maxRecDepth 100000
set_option linter.unusedVariables false
theorem ObjP.aft {w w' w'' : World} {r : Objs × Int} {e : Ending} (h : ObjP w r e w') (a : Aft w' w'') : ObjP w r e w'' := by
  obtain ⟨hs, ht, L, hL, he, ha, ob⟩ := h
  exact ⟨hs, ht, L, hL, he, ha.trans a, ob.aft a⟩
theorem Kp.kb {B B' : Nat} {w w' : World} (h : Kp B B' w w') : Kb (fun k => B ≤ k ∧ k < B') w w' := ⟨h.os, h.tape, h.output, h.size, fun k hk hn => h.block k hk (by omega)⟩
end Go.Proofs.YtiadkchlkdaceaaGreat

namespace Go.Proofs.YtiadkchlkdaceaaGreat
open Go.RowKit Go.Deep Go.Shelf
set_option maxRecDepth 100000
set_option linter.unusedVariables false
@[go_sem] theorem semAt_round (l : Nat) (ρ : Operand → Value) (o : Oper) (h : ∀ c, o.op ≠ .defer c) : Oper.semAt (some l) ρ o = execOp ρ o := Oper.semAt_some l ρ o h
/-- all cells lie as they lay -/
structure Kc (W W' : World) : Prop where
  size : W.heap.size ≤ W'.heap.size
  cells : ∀ (k : Nat) (o : Obj), W.heap[k]? = some o → o.isCells = true → W'.heap[k]? = some o
theorem Kc.refl (W : World) : Kc W W := ⟨Nat.le_refl _, fun _ _ h _ => h⟩
theorem Kc.trans {A B C : World} (h : Kc A B) (k : Kc B C) : Kc A C := ⟨Nat.le_trans h.size k.size, fun j o hj ho => k.cells j o (h.cells j o hj ho) ho⟩
theorem Kc.of_aft {W W' : World} (a : Aft W W') : Kc W W' := ⟨a.size, fun k o hk _ => (a.block k (Array.getElem?_eq_some_iff.1 hk).1).trans hk⟩
theorem Kc.put {W : World} {l : Nat} {o o' : Obj} (hl : W.heap[l]? = some o) (ho : o.isCells = false) : Kc W (W.putObj l o') := by
  refine ⟨by simp [World.putObj], fun k o2 hk hc => ?_⟩
  have hne : k ≠ l := fun e => by
    subst e
    rw [hl] at hk
    cases hk
    rw [ho] at hc; cases hc
  exact (World.putObj_heap_other hne).trans hk
theorem Kc.block {W W' : World} (h : Kc W W') {p : Addr} {v : Value} (hc : W.cell? p = some v) : W'.heap[p.block]? = W.heap[p.block]? := by
  unfold World.cell? at hc
  cases hh : W.heap[p.block]? with
  | none => rw [hh] at hc; cases hc
  | some o =>
    rw [h.cells _ o hh ?_]
    rw [hh] at hc
    cases o <;> first | rfl | cases hc
theorem Kc.cell {W W' : World} (h : Kc W W') {p : Addr} {v : Value} (hc : W.cell? p = some v) : W'.cell? p = some v := by
  have := h.block hc
  unfold World.cell? at hc ⊢
  rw [this]; exact hc
theorem Kc.row {W W' : World} (h : Kc W W') {g : Nat} {xs : List Value} (hr : RowAt W g xs) (h0 : 0 < xs.length) : RowAt W' g xs := by
  have hb : W'.heap[g]? = W.heap[g]? := h.block (p := ⟨g, 0, none⟩) (v := xs[0]) (by rw [hr.2.1 0 h0, List.getElem?_eq_getElem h0])
  refine ⟨Nat.lt_of_lt_of_le hr.1 h.size, fun j hj => ?_, fun j hj => ?_⟩
  · rw [← hr.2.1 j hj]; simp [World.cell?, hb]
  · rw [← hr.2.2 j hj]; simp [World.frozen?, hb]
/-- a table and one of its rules, as they are handed over -/
structure FP where
  t : Tab
  r : Rul
  a1 : Option Addr
  c1 : Nat
  a2 : Option Addr
  c2 : Nat
  a3 : Option Addr
  c3 : Nat
def FP.enc (x : FP) : Array Value := #[.agg #[.string x.t.schema, .string x.t.name, .string x.t.owner, .slice x.a1 x.t.cols.length x.c1, .slice x.a2 x.t.rules.length x.c2],
  .agg #[.string x.r.name, .int .i64 x.r.kind, .slice x.a3 x.r.cols.length x.c3, .int .i64 x.r.low, .int .i64 x.r.high, .string x.r.schema, .string x.r.table, .string x.r.key]]
def FP.key (x : FP) : Tab × Rul := (x.t, x.r)
end Go.Proofs.YtiadkchlkdaceaaGreat

namespace Go.Proofs.YtiadkchlkdaceaaGreat
set_option linter.unusedVariables false
section
variable {F : Fence} {n : Nat} {P : Program} {ops : Array Oper} {C : World → Prop} {md : Region.Mode}
/-- no deferred call is laid -/
def plainO (o : Oper) : Bool := match o.op with | .defer _ => false | _ => true
theorem plainO.sem {o : Oper} (h : plainO o = true) (r : Option Nat) (ρ : Operand → Value) : Oper.semAt r ρ o = execOp ρ o := by
  cases r with
  | none => exact Oper.semAt_none ρ o
  | some l => exact Oper.semAt_some l ρ o (fun c e => by unfold plainO at h; rw [e] at h; cases h)
theorem quiet_wp9 {o : Oper} {a : Act} {K : Act → Prop} {K' : Act → World → Prop} {Q' : Exit → Act → World → Prop} {w : World} (hp : plainO o = true) (hw : C w) (h : ∀ a w', C w' → K a → K' a w')
    (ha : o.askedIn F P a C) (hh : o.quietIn F n P a C K) : o.wpIn F n P a w K' Q' := by
  obtain ⟨v, h1, h2⟩ := hh
  refine ⟨ha w hw, ?_⟩
  rw [plainO.sem hp]
  have h3 := h1 w hw
  unfold Oper.quietAtIn at h3
  revert h3
  generalize (execOp a.eval o).run P w = r
  intro h3
  cases r with
  | halt x w' => simp only [Oper.quietUponIn] at h3
  | ok x w' =>
    cases x <;> simp only [Oper.quietUponIn] at h3 <;> simp only [Oper.uponIn]
    case value u => rw [h3.1, h3.2]; exact h _ _ hw h2
    case skip => rw [h3.1, ← h3.2]; exact h _ _ hw h2
    case enter f args =>
      rw [h3.1]
      exact ⟨h3.2.1, h3.2.2.mono fun e w'' he => by rw [he.1]; exact h _ _ he.2 h2⟩
theorem quiet_any9 {Q : Act → Prop} {Q' : Exit → Act → World → Prop} (hp : ∀ (i : Nat) (o : Oper), ops[i]? = some o → plainO o = true) (hQ : ∀ a w, C w → Q a → Q' .normal a w) :
    ∀ (fuel : Nat) (listed : Array Bool) (a : Act) (w : World), C w → wpAnyQIn F n P md ops C Q fuel listed a → wpAnyIn F n P md ops Q' fuel listed a w
  | 0, _, _, _, hw, h => ⟨h.1, hQ _ _ hw h.2⟩
  | fuel + 1, _, a, w, hw, h => ⟨fun h0 => hQ _ _ hw (h.1 h0), fun i hi => by
    have h1 := h.2 i hi
    unfold qOpIn at h1
    unfold wpOpIn
    cases ho : ops[i]? with
    | none => rw [ho] at h1; exact quiet_any9 hp hQ fuel _ a w hw h1
    | some o =>
      rw [ho] at h1
      simp only at h1 ⊢
      by_cases hwn : Region.wanted o (yielded ops a.tmps) = true
      · rw [if_pos hwn] at h1 ⊢
        exact quiet_wp9 (hp i o ho) hw (fun a' w' hw' => quiet_any9 hp hQ fuel _ a' w' hw') h1.1 h1.2
      · rw [if_neg hwn] at h1 ⊢
        exact ⟨h1.1 w hw, quiet_any9 hp hQ fuel _ _ w hw h1.2⟩⟩
end
end Go.Proofs.YtiadkchlkdaceaaGreat

namespace Go.Proofs.YtiadkchlkdaceaaGreat
open Go.RowKit Go.Deep Go.Shelf
set_option maxRecDepth 100000
set_option linter.unusedVariables false
/-- a rule, as it is handed over -/
structure RP where
  r : Rul
  a : Option Addr
  c : Nat
def RP.enc (x : RP) : Array Value := #[.agg #[.string x.r.name, .int .i64 x.r.kind, .slice x.a x.r.cols.length x.c, .int .i64 x.r.low, .int .i64 x.r.high, .string x.r.schema, .string x.r.table, .string x.r.key]]
/-- .. in a world in which its columns' names lie -/
abbrev RPx (X : World) (x : Shf) (kd : Int) : Type := { y : RP // SlAt X 1 StrR y.a y.c y.r.cols ∧ y.r ∈ x.t.rules ∧ (y.r.kind == kd) = true }
def RPx.of {X : World} {x : Shf} {kd : Int} (y : RP) (h1 : SlAt X 1 StrR y.a y.c y.r.cols) (h2 : y.r ∈ x.t.rules) (h3 : (y.r.kind == kd) = true) : RPx X x kd := ⟨y, h1, h2, h3⟩
def RPx.enc {X : World} {x : Shf} {kd : Int} (y : RPx X x kd) : Array Value := RP.enc y.1
def RPx.r {X : World} {x : Shf} {kd : Int} (y : RPx X x kd) : Rul := y.1.r
def ofK (kd : Int) (rs : List Rul) : List Rul := rs.filter fun r => r.kind == kd
theorem ofK_succ (kd : Int) (rs : List Rul) (k : Nat) (hk : k < rs.length) : ofK kd (rs.take (k + 1)) = ofK kd (rs.take k) ++ (if rs[k].kind == kd then [rs[k]] else []) := by
  unfold ofK
  rw [List.take_succ_eq_append_getElem hk, List.filter_append]
  congr 1
  cases h : rs[k].kind == kd <;> simp [h]
theorem ofK_pre (kd : Int) (rs : List Rul) (m : Nat) : ofK kd (rs.take m) <+: ofK kd rs := by
  unfold ofK
  refine ⟨(rs.drop m).filter fun r => r.kind == kd, ?_⟩
  rw [← List.filter_append, List.take_append_drop]
set_option maxHeartbeats 8000000 in
theorem rules1_in (m : Nat) (hm : 1 ≤ m) (p : Nat) (x : Shf) (A : Option Addr) (cap : Nat) (A2 : Option Addr) (cap2 : Nat) (A3 : Option Addr) (cap3 : Nat) (kd : Int) (bx bk l : Nat) (V X W : World) (aV : Aft V X) (aW : Aft X W) (hs : ShfAt V p x A cap A2 cap2 A3 cap3)
    (c0 : X.cell? ⟨bx, 0, none⟩ = some (.pointer (some ⟨p, 0, none⟩))) (c1 : X.cell? ⟨bk, 0, none⟩ = some (.int .i64 kd)) (J Jx : List (RPx V x kd) → World → Prop) (hJ : AbidesFrom W.heap.size J)
    (hY : ∀ pre y W1, J pre W1 → pre.length < (ofK kd x.t.rules).length → YieldAt Fence.wide (m - 1) Tryz.prog l (RPx.enc y) W1 fun e W' => (e = .returned (.bool true) ∧ J (pre ++ [y]) W' ∧ (Kc W1 W' ∧ Below X.heap.size W1 W')) ∨ (e = .returned (.bool false) ∧ Jx (pre ++ [y]) W'))
    (h0 : J [] W) :
    CallsIn Fence.wide m Tryz.prog 124 #[.func (.yield l) #[] #[], .pointer (some ⟨bx, 0, none⟩), .pointer (some ⟨bk, 0, none⟩)] W fun e W' => (∃ v, e = .returned v) ∧ ((∃ xs, xs.map RPx.r = ofK kd x.t.rules ∧ J xs W') ∨ (∃ pre, (pre.map RPx.r <+: ofK kd x.t.rules) ∧ Jx pre W')) := by
  have hlen := hs.ruls.len
  have HS := Lib.hid hs
  have HA := Lib.hid aW
  have HV := Lib.hid aV
  have HJ := Lib.hid hJ
  have HC := Lib.hid (show ∀ w', Aft X w' → (w'.cell? ⟨bx, 0, none⟩ = some (.pointer (some ⟨p, 0, none⟩)) ∧ w'.cell? ⟨bk, 0, none⟩ = some (.int .i64 kd) ∧ w'.cell? ⟨p, 4, none⟩ = some (.slice A2 x.t.rules.length cap2) ∧ bx < w'.heap.size ∧ bk < w'.heap.size ∧ p < w'.heap.size) from fun w' a => ⟨a.cell_kept c0, a.cell_kept c1, (hs.row.aft (aV.trans a)).cell (j := 4) rfl, World.block_lt_of_cell? _ _ (a.cell_kept c0), World.block_lt_of_cell? _ _ (a.cell_kept c1), (hs.row.aft (aV.trans a)).1⟩)
  have HYY := Lib.hid hY
  have H0 := Lib.hid h0
  obtain ⟨x0, x1, x2, x3, x4, x5⟩ := HC.out W aW
  clear hs aW aV hJ hY h0 c0 c1
  refine callsIn_of_wp Tryz.func124 rfl trivial ?_ rfl
  simp only [Tryz.ntmps124, List.size_toArray, List.length_cons, List.length_nil, Nat.reduceAdd, Nat.reduceSub, Array.replicate_succ, Array.replicate_zero, List.push_toArray, List.append_toArray, List.nil_append, List.cons_append]
  gi_wp2
  gi_loopw [12] (fun i wr => ∃ (k : Nat) (pre : List (RPx V x kd)), k ≤ x.t.rules.length ∧ i = .int .i64 k ∧ Aft X wr ∧ J pre wr ∧ W.heap.size ≤ wr.heap.size ∧ pre.map RPx.r = ofK kd (x.t.rules.take k)) (fun i _ => x.t.rules.length - (intOf i).toNat)
  case atStart => exact ⟨0, [], Nat.zero_le _, rfl, HA.out, H0.out, Nat.le_refl _, rfl⟩
  case round =>
    obtain ⟨k, pre, hk, rfl, ha, hj, hz, hpk⟩ := hrel
    have HAR := Lib.hid ha
    have HJR := Lib.hid hj
    have HPK := Lib.hid hpk
    have HZR := Lib.hid hz
    clear ha hj hpk hz
    by_cases hlt : k < x.t.rules.length
    · obtain ⟨b3, off3, A4, cap4, rfl, hb3, r0, r1, r2, r3, r4, r5, r6, r7, hcs, _⟩ := rul_at HS.out.ruls hlt
      have hf := ofK_succ kd x.t.rules k hlt
      replace r0 := (HV.out.trans HAR.out).cell_kept r0
      replace r1 := (HV.out.trans HAR.out).cell_kept r1
      replace r2 := (HV.out.trans HAR.out).cell_kept r2
      replace r3 := (HV.out.trans HAR.out).cell_kept r3
      replace r4 := (HV.out.trans HAR.out).cell_kept r4
      replace r5 := (HV.out.trans HAR.out).cell_kept r5
      replace r6 := (HV.out.trans HAR.out).cell_kept r6
      replace r7 := (HV.out.trans HAR.out).cell_kept r7
      replace hb3 := Nat.lt_of_lt_of_le hb3 (HV.out.trans HAR.out).size
      have hmem := List.getElem_mem hlt
      obtain ⟨r, hr⟩ : ∃ r, x.t.rules[k] = r := ⟨_, rfl⟩
      rw [hr] at r0 r1 r2 r3 r4 r5 r6 r7 hf hcs hmem
      obtain ⟨y1, y2, y3, y4, y5, y6⟩ := HC.out wr HAR.out
      have HF := Lib.hid hf
      have HCS := Lib.hid hcs
      have HME := Lib.hid hmem
      have lw2 := Nat.lt_succ_self wr.heap.size
      have m1 : b3 < wr.heap.size + 1 := by omega
      have m2 : bk < wr.heap.size + 1 := by omega
      have HA1 := Lib.hid ((Aft.refl wr).alloc (.cells #[.string r.name, .int .i64 r.kind, .slice A4 r.cols.length cap4, .int .i64 r.low, .int .i64 r.high, .string r.schema, .string r.table, .string r.key] 108))
      have HJ3 := Lib.hid (HJ.out pre wr _ none HJR.out (World.grownBy_alloc wr (.cells #[.string r.name, .int .i64 r.kind, .slice A4 r.cols.length cap4, .int .i64 r.low, .int .i64 r.high, .string r.schema, .string r.table, .string r.key] 108) none) (fun r e => by cases e))
      clear hr hf hcs hmem
      by_cases g1 : (r.kind == kd) = true
      · have G1 := Lib.hid g1
        have hx1 : (pre ++ [RPx.of (x := x) ⟨r, A4, cap4⟩ HCS.out HME.out G1.out]).map RPx.r = ofK kd (x.t.rules.take (k + 1)) := by
          rw [List.map_append, HPK.out, HF.out, if_pos G1.out]; rfl
        have HX1 := Lib.hid hx1
        have hlenp : pre.length < (ofK kd x.t.rules).length := by
          have h1 := (ofK_pre kd x.t.rules (k + 1)).length_le
          rw [← hx1, List.length_map, List.length_append] at h1
          simp at h1
          omega
        obtain ⟨fn, tmps, assign, body, hy, hR⟩ := HYY.out pre (RPx.of ⟨r, A4, cap4⟩ HCS.out HME.out G1.out) _ HJ3.out hlenp
        dsimp only [RPx.enc, RPx.of, RP.enc] at hy
        have HR := Lib.hid hR
        clear hx1 hR hlenp
        gi_wp2
        refine HR.out.mono ?_
        rintro e W3 (⟨rfl, hJ5, hk5⟩ | ⟨rfl, hJx5⟩)
        · have HA5 := Lib.hid (show Aft X W3 from Below.trans (HAR.out.trans HA1.out) hk5.2)
          have HZ5 := Lib.hid (show W.heap.size ≤ W3.heap.size from Nat.le_trans HZR.out (Nat.le_trans HA1.out.size hk5.2.size))
          have HJ5 := Lib.hid hJ5
          clear hJ5 hk5
          gi_wp2
          go_roundw
          case rel => exact ⟨k + 1, _, by omega, by go_num, HA5.out, HJ5.out, HZ5.out, HX1.out⟩
          case measure => simp [intOf]; omega
        · have HJ5 := Lib.hid hJx5
          clear hJx5
          gi_wp2
          refine bodyPost_ret (results_none rfl _ _ _) rfl ?_
          exact ⟨⟨_, rfl⟩, .inr ⟨_, by rw [HX1.out]; exact ofK_pre kd x.t.rules (k + 1), HJ5.out⟩⟩
      · have e1 : (r.kind == kd) = false := by simpa using g1
        have HN := Lib.hid (show ofK kd (x.t.rules.take (k + 1)) = ofK kd (x.t.rules.take k) by rw [HF.out, e1]; simp)
        clear g1
        gi_wp2
        refine ⟨fun _ h => (by cases h), ?_⟩
        gi_wp2
        go_roundw
        case rel => exact ⟨k + 1, pre, by omega, by go_num, HAR.out.trans HA1.out, HJ3.out, Nat.le_trans HZR.out HA1.out.size, by rw [HN.out, HPK.out]⟩
        case measure => simp [intOf]; omega
    · have hkk : k = x.t.rules.length := by omega
      have HP := Lib.hid (show pre.map RPx.r = ofK kd x.t.rules by rw [HPK.out, hkk, List.take_length])
      gi_wp2
      go_end0
      exact ⟨⟨_, rfl⟩, .inl ⟨pre, HP.out, HJR.out⟩⟩
theorem rules12 (p : Nat) (kd : Int) (w : World) :
    Calls Tryz.prog 103 #[.pointer (some ⟨p, 0, none⟩), .int .i64 kd] w fun e w' => e = .returned (.func (.func 124) #[] #[.pointer (some ⟨w.heap.size, 0, none⟩), .pointer (some ⟨w.heap.size + 1, 0, none⟩)]) ∧ w' = (w.alloc (.cells #[.pointer (some ⟨p, 0, none⟩)] 80)).alloc (.cells #[.int .i64 kd] 106) := by
  go_enter Tryz.func103, Tryz.ntmps103
  go_wp2_with fail
  go_ret
  exact ⟨rfl, rfl⟩
theorem rules_stops (m : Nat) (hm : 1 ≤ m) (p : Nat) (x : Shf) (A : Option Addr) (cap : Nat) (A2 : Option Addr) (cap2 : Nat) (A3 : Option Addr) (cap3 : Nat) (kd : Int) (bx bk : Nat) (V X : World) (aV : Aft V X) (hs : ShfAt V p x A cap A2 cap2 A3 cap3)
    (c0 : X.cell? ⟨bx, 0, none⟩ = some (.pointer (some ⟨p, 0, none⟩))) (c1 : X.cell? ⟨bk, 0, none⟩ = some (.int .i64 kd)) :
    SeqStopsK Fence.wide m Tryz.prog 124 #[.pointer (some ⟨bx, 0, none⟩), .pointer (some ⟨bk, 0, none⟩)] (RPx.enc (X := V) (x := x) (kd := kd)) (fun W W' => Kc W W' ∧ Below X.heap.size W W') (fun xs => xs.map RPx.r = ofK kd x.t.rules) (fun pre => pre.map RPx.r <+: ofK kd x.t.rules) (ofK kd x.t.rules).length X := fun l J Jx W hW hJ hJx hY h0 =>
  rules1_in m hm p x A cap A2 cap2 A3 cap3 kd bx bk l V X W aV hW hs c0 c1 J Jx hJ hY h0
end Go.Proofs.YtiadkchlkdaceaaGreat

namespace Go.Proofs.YtiadkchlkdaceaaGreat
open Go.RowKit
section
variable {P : Program} {ops : Array Oper} {Q : Exit → Act → World → Prop} {md : Region.Mode} {T : World → Prop} {m : Nat}
def wpAnyS (P : Program) (md : Region.Mode) (ops : Array Oper) (Q : Exit → Act → World → Prop) (T : World → Prop) (m : Nat) : Nat → Array Bool → Act → World → Prop
  | 0, listed, a, w => Region.ready md ops listed = [] ∧ Q .normal a w
  | fuel + 1, listed, a, w =>
    (Region.ready md ops listed = [] → Q .normal a w) ∧
    ∀ i ∈ Region.ready md ops listed, wpOp P ops Q i (fun a' w' => ((listed.setIfInBounds i true).getD m false = false → T w') ∧ wpAnyS P md ops Q T m fuel (listed.setIfInBounds i true) a' w') a w
theorem wpAny_of_S : ∀ (fuel : Nat) (listed : Array Bool) (a : Act) (w : World), wpAnyS P md ops Q T m fuel listed a w → wpAny P md ops Q fuel listed a w
  | 0, _, _, _, h => h
  | fuel + 1, _, _, _, h => ⟨h.1, fun i hi => wpOp_mono (fun a' w' h' => wpAny_of_S fuel _ a' w' h'.2) (h.2 i hi)⟩
theorem getD_set_other {listed : Array Bool} {i j : Nat} (d : Bool) (h : i ≠ j) : (listed.setIfInBounds i true).getD j d = listed.getD j d := by
  simp [Array.getElem?_setIfInBounds_ne h]
theorem wpAnyS_first {i : Nat} {oi : Oper} {v : Value} (hi : ops[i]? = some oi) (hsel : ∀ (j : Nat) (o : Oper) cs b, ops[j]? = some o → o.op ≠ .select cs b)
    (hQ : ∀ c a w, Q (.panic c) (a.put oi.dst v) w → Q (.panic c) a w) (hne : i ≠ m) (hm : ∀ om, ops[m]? = some om → ∃ e ∈ om.after, Region.binds md e = true ∧ e.on = i) :
    ∀ (fuel : Nat) (listed : Array Bool) (a : Act) (w : World),
      (∀ j oj, ops[j]? = some oj → j ≠ i → listed.getD j true = false → (∀ e ∈ oj.after, Region.binds md e = true → e.on ≠ i) → oi.apart ops oj = true) →
      i ∈ Region.ready md ops listed → YieldsIf P ops T oi v a → T w → listed.getD m false = false →
      wpAnyS P md ops Q T m fuel (listed.setIfInBounds i true) (a.put oi.dst v) w → wpAnyS P md ops Q T m (fuel + 1) listed a w := by
  intro fuel
  induction fuel with
  | zero =>
    intro listed a w _ hr hy hS hlm H
    refine ⟨fun h => (by rw [h] at hr; cases hr), fun j hj => ?_⟩
    by_cases hji : j = i
    · subst hji; exact hy.wpOp hi hS ⟨fun _ => hS, H⟩
    · have := ready_mono hj hji
      rw [H.1] at this
      cases this
  | succ fuel ih =>
    intro listed a w hfree hr hy hS hlm H
    refine ⟨fun h => (by rw [h] at hr; cases hr), fun j hj => ?_⟩
    by_cases hji : j = i
    · subst hji; exact hy.wpOp hi hS ⟨fun _ => hS, H⟩
    · have h1 := H.2 j (ready_mono hj hji)
      obtain ⟨hjun, oj, hoj, hall⟩ := mem_ready.1 hj
      have hnot : ∀ e ∈ oj.after, Region.binds md e = true → e.on ≠ i := fun e he hb heq => by
        have h1 := hall e he hb
        have h0 := (mem_ready.1 hr).1
        rw [heq] at h1
        rcases Nat.lt_or_ge i listed.size with h' | h'
        · simp [h'] at h0 h1; rw [h0] at h1; cases h1
        · simp [Array.getElem?_eq_none h'] at h1
      have hjm : j ≠ m := fun e => by
        subst e
        obtain ⟨e, he, hb, hei⟩ := hm oj hoj
        exact hnot e he hb hei
      have h2 := wpOp_putIf hoj (hfree j oj hoj hji hjun hnot) (fun cs b => hsel i oi cs b hi) (fun cs b => hsel j oj cs b hoj) hQ hy h1
      have hfree' : ∀ k ok, ops[k]? = some ok → k ≠ i → (listed.setIfInBounds j true).getD k true = false →
          (∀ e ∈ ok.after, Region.binds md e = true → e.on ≠ i) → oi.apart ops ok = true := fun k ok hk hki hun hno => by
        refine hfree k ok hk hki ?_ hno
        by_cases hjk : j = k
        · subst hjk; exact hjun
        · rw [getD_set_ne true hjk] at hun; exact hun
      have hlm' : (listed.setIfInBounds j true).getD m false = false := by rw [getD_set_other false hjm]; exact hlm
      have hlm2 : ((listed.setIfInBounds i true).setIfInBounds j true).getD m false = false := by rw [getD_set_other false hjm, getD_set_other false hne]; exact hlm
      refine wpOp_mono (fun a' w' h3 => ⟨fun _ => h3.2.1 hlm2, ih (listed.setIfInBounds j true) a' w' hfree' (ready_mono hr (Ne.symm hji)) h3.1 (h3.2.1 hlm2) hlm' ?_⟩) h2
      rw [Array.setIfInBounds_comm _ _ hji]
      exact h3.2.2
theorem andThen_inv {α β : Type} {r : Result α} {f : α → World → Result β} {n : β} {w' : World} (h : r.andThen f = .ok n w') : ∃ a w1, r = .ok a w1 ∧ f a w1 = .ok n w' := by
  cases r with
  | ok a w1 => exact ⟨a, w1, rfl, h⟩
  | halt x w1 => simp [Result.andThen] at h
/-- an operation that reads -/
def readB (o : Oper) : Bool := o.guard.isNone && match o.op with | .load .. | .fieldAddr .. | .indexAddr .. | .move .. | .nilCheck .. | .assign .. | .lookup .. => true | _ => false
theorem read_value {o : Oper} {ev : Operand → Value} {w w' : World} {n : Next} (h : readB o = true) (hr : (execOp ev o).run P w = .ok n w') : ∃ v, n = .value v := by
  unfold readB at h
  simp only [Bool.and_eq_true] at h
  obtain ⟨_, h⟩ := h
  unfold execOp at hr
  cases ho : o.op <;> rw [ho] at h hr <;> simp only [Bool.false_eq_true] at h
  case nilCheck x =>
    simp only at hr
    split at hr
    · simp [runtimePanic] at hr
    · simp [runtimePanic] at hr
    · simp [runtimePanic] at hr
    · split at hr
      · simp [runtimePanic] at hr
      · simp only [Sem.run_bind] at hr
        obtain ⟨p, w1, _, h1⟩ := andThen_inv hr
        obtain ⟨q, w2, _, h2⟩ := andThen_inv h1
        split at h2
        · rw [Sem.run_bind] at h2
          obtain ⟨r, w3, h3, _⟩ := andThen_inv h2
          simp [unsupported] at h3
        · simp only [Sem.run_pure, Result.ok.injEq] at h2; exact ⟨_, h2.1.symm⟩
      · simp only [Sem.run_pure, Result.ok.injEq] at hr; exact ⟨_, hr.1.symm⟩
    · simp only [Sem.run_pure, Result.ok.injEq] at hr; exact ⟨_, hr.1.symm⟩
  all_goals
    simp only [Sem.run_bind, Sem.run_pure] at hr
    first
      | (simp only [Result.ok.injEq] at hr; exact ⟨_, hr.1.symm⟩)
      | (generalize Sem.run P _ w = r at hr; cases r <;> simp [Result.andThen] at hr; exact ⟨_, hr.1.symm⟩)
theorem read_yields {o : Oper} {v : Value} {a : Act} (hb : readB o = true) (h : ∀ w, T w → o.quietAt P a T w v) : YieldsIf P ops T o v a := by
  have hg : o.guard = none := by unfold readB at hb; simp only [Bool.and_eq_true, Option.isNone_iff_eq_none] at hb; exact hb.1
  refine .inl ⟨by simp [Region.wanted, hg], fun w hw => ?_⟩
  have h1 := h w hw
  unfold Oper.quietAt at h1
  cases hr : (execOp a.eval o).run P w with
  | ok n w' =>
    obtain ⟨u, rfl⟩ := read_value hb hr
    rw [hr] at h1
    simp only [Oper.quietUpon] at h1
    rw [h1.1, h1.2]
  | halt x w' =>
    rw [hr] at h1
    simp only [Oper.quietUpon] at h1
/-- the first k are done -/
def lk (n k : Nat) : Array Bool := (Array.range n).map fun j => decide (j < k)
theorem lk_get {n k j : Nat} (hj : j < n) (d : Bool) : (lk n k).getD j d = decide (j < k) := by
  simp [lk, hj]
theorem lk_zero (n : Nat) : lk n 0 = Array.replicate n false := by
  apply Array.ext
  · simp [lk]
  · intro i h1 h2; simp [lk]
theorem lk_set {n k : Nat} (hk : k < n) : (lk n k).setIfInBounds k true = lk n (k + 1) := by
  apply Array.ext
  · simp [lk]
  · intro i h1 h2
    by_cases e : k = i
    · subst e; simp [lk]
    · rw [Array.getElem_setIfInBounds_ne (by simpa using h1) e]
      simp only [lk, Array.getElem_map, Array.getElem_range]
      have : (i < k) = (i < k + 1) := by
        apply propext; omega
      simp [this]
/-- the chain: what is asked of the world behind each operation ahead of m -/
def wpChain (P : Program) (ops : Array Oper) (Q : Exit → Act → World → Prop) (T : World → Prop) (m : Nat) : Nat → List Oper → Act → World → Prop
  | _, [], a, w => Q .normal a w
  | k, o :: r, a, w => o.wp P a w (fun a' w' => (k < m → T w') ∧ wpChain P ops Q T m (k + 1) r a' w') Q ∨ (o.asks P a w ∧ LetsOut Q)
theorem wpChain_step {k : Nat} {o : Oper} {r : List Oper} {a : Act} {w : World} (h : ∀ K : Act → World → Prop, (∀ a' w', (k < m → T w') → wpChain P ops Q T m (k + 1) r a' w' → K a' w') → o.wp P a w K Q) : wpChain P ops Q T m k (o :: r) a w :=
  .inl (h _ fun _ _ h1 h2 => ⟨h1, h2⟩)
/-- behind m the chain is a list like any other -/
theorem wpChain_list : ∀ (l : List Oper) {k : Nat} {a : Act} {w : World}, (∀ o ∈ l, o.guard = none) → m ≤ k → wpList P ops Q l a w → wpChain P ops Q T m k l a w
  | [], k, a, w, _, _, h => h
  | o :: r, k, a, w, hg, hk, h => by
    unfold wpList at h
    rw [if_pos (by simp [Region.wanted, hg o (by simp)])] at h
    rcases h with h | h
    · exact .inl (Oper.wp_mono (fun a' w' h' => ⟨fun hlt => absurd hlt (by omega), wpChain_list r (fun o ho => hg o (by simp [ho])) (by omega) h'⟩) h)
    · exact .inr h
def readsB (ops : Array Oper) (n m : Nat) : Bool :=
  Region.noSelect ops && decide (n ≤ m) && decide (m < ops.size) &&
  (List.range ops.size).all (fun k => match ops[k]? with
    | none => false
    | some o => if k < n then readB o && o.after.all (fun e => !Region.binds .any e || decide (e.on < k)) && Region.free .any ops (lk ops.size k) k && (match ops[m]? with | some om => om.after.any (fun e => Region.binds .any e && e.on == k) | none => false)
      else o.guard.isNone && (Region.ready .any ops (lk ops.size k) == [k])) && (Region.ready .any ops (lk ops.size ops.size) == [])
theorem chain_any {n : Nat} (hnm : n ≤ m) (hms : m < ops.size) (hc : ∀ k, n ≤ k → k < ops.size → ∃ o, ops[k]? = some o ∧ o.guard = none ∧ Region.ready .any ops (lk ops.size k) = [k]) (hz : Region.ready .any ops (lk ops.size ops.size) = []) :
    ∀ (l : List Oper) (k : Nat) (a : Act) (w : World), n ≤ k → k + l.length = ops.size → (∀ j (hj : j < l.length), ops[k + j]? = some l[j]) → wpChain P ops Q T m k l a w → wpAnyS P .any ops Q T m l.length (lk ops.size k) a w
  | [], k, a, w, _, hl, _, h => by
    have e : k = ops.size := by simpa using hl
    subst e
    exact ⟨hz, h⟩
  | o :: r, k, a, w, hk, hl, ho, h => by
    simp only [List.length_cons] at hl
    have hks : k < ops.size := by omega
    obtain ⟨o', ho', hg, hr⟩ := hc k hk hks
    have h0 := ho 0 (by simp)
    simp only [Nat.add_zero, List.getElem_cons_zero] at h0
    rw [h0] at ho'
    simp only [Option.some.injEq] at ho'
    subst ho'
    refine ⟨fun e => absurd (hr.symm.trans e) (by simp), fun i hi => ?_⟩
    rw [hr, List.mem_singleton] at hi
    subst hi
    unfold wpOp
    simp only [h0]
    rw [if_pos (by simp [Region.wanted, hg])]
    rcases h with h | h
    case inr => exact .inr h
    refine .inl (Oper.wp_mono (fun a' w' h' => ?_) h)
    refine ⟨fun hm => h'.1 ?_, ?_⟩
    · rw [lk_set hks, lk_get hms] at hm
      simp at hm; omega
    · rw [lk_set hks]
      exact chain_any hnm hms hc hz r (i + 1) a' w' (by omega) (by omega) (fun j hj => by have := ho (j + 1) (by simpa using hj); simpa [Nat.add_assoc, Nat.add_comm 1 j] using this) h'.2
theorem reads_any {n : Nat} (hsel : Region.noSelect ops = true) (hnm : n ≤ m) (hms : m < ops.size) (hQ : ∀ c a d v w, Q (.panic c) (Act.put a d v) w → Q (.panic c) a w)
    (hr : ∀ k, k < n → ∃ o, ops[k]? = some o ∧ readB o = true ∧ (∀ e ∈ o.after, Region.binds .any e = true → e.on < k) ∧ Region.free .any ops (lk ops.size k) k = true ∧ ∀ om, ops[m]? = some om → ∃ e ∈ om.after, Region.binds .any e = true ∧ e.on = k)
    (hc : ∀ k, n ≤ k → k < ops.size → ∃ o, ops[k]? = some o ∧ o.guard = none ∧ Region.ready .any ops (lk ops.size k) = [k]) (hz : Region.ready .any ops (lk ops.size ops.size) = []) (tl : List Oper) (htl : n + tl.length = ops.size) (hto : ∀ j (hj : j < tl.length), ops[n + j]? = some tl[j]) (w : World) (hT : T w) :
    ∀ (l : List Oper) (k : Nat) (a : Act), k + l.length = n → (∀ j (hj : j < l.length), ops[k + j]? = some l[j]) → wpQuiet P ops T (fun a' => wpChain P ops Q T m n tl a' w) l a → wpAnyS P .any ops Q T m (l.length + tl.length) (lk ops.size k) a w
  | [], k, a, hl, _, h => by
    have e : k = n := by simpa using hl
    subst e
    simp only [List.length_nil, Nat.zero_add]
    exact chain_any hnm hms hc hz tl k a w (Nat.le_refl _) htl hto h
  | o :: r, k, a, hl, ho, h => by
    simp only [List.length_cons] at hl
    have hkn : k < n := by omega
    have hks : k < ops.size := by omega
    obtain ⟨o', ho', hb, he, hf, hm⟩ := hr k hkn
    have h0 := ho 0 (by simp)
    simp only [Nat.add_zero, List.getElem_cons_zero] at h0
    rw [h0] at ho'
    simp only [Option.some.injEq] at ho'
    subst ho'
    have hg : o.guard = none := by unfold readB at hb; simp only [Bool.and_eq_true, Option.isNone_iff_eq_none] at hb; exact hb.1
    unfold wpQuiet at h
    rw [if_pos (by simp [Region.wanted, hg])] at h
    obtain ⟨v, hv, hn⟩ := h
    have e1 : (o :: r).length + tl.length = (r.length + tl.length) + 1 := by simp; omega
    rw [e1]
    refine wpAnyS_first h0 (Region.noSelect_spec hsel) (fun c a w h => hQ c a _ _ w h) (by omega) hm _ _ a w (Region.free_spec h0 hf) ?_ (read_yields hb hv) hT (by rw [lk_get hms]; simp; omega) ?_
    · rw [mem_ready]
      refine ⟨by rw [lk_get hks]; simp, o, h0, fun e hem hbd => ?_⟩
      have := he e hem hbd
      rw [lk_get (by omega)]
      simpa using this
    · rw [lk_set hks]
      exact reads_any hsel hnm hms hQ hr hc hz tl htl hto w hT r (k + 1) _ (by omega) (fun j hj => by have := ho (j + 1) (by simpa using hj); simpa [Nat.add_assoc, Nat.add_comm 1 j] using this) hn
theorem wp_region_reads0 {id : Nat} {a : Act} {w : World} {l : List Oper} (n m : Nat) (T : World → Prop) (hm : P.follows .mixedOrders = true) (hB : readsB l.toArray n m = true) (hQ : ∀ c a d v w, Q (.panic c) (Act.put a d v) w → Q (.panic c) a w) (hT : T w.drew)
    (h : wpQuiet P l.toArray T (fun a' => wpChain P l.toArray Q T m n (l.drop n) a' w.drew) (l.take n) a) : (Code.region id l.toArray true).wp P Q a w := by
  unfold readsB at hB
  simp only [Bool.and_eq_true, decide_eq_true_eq, List.all_eq_true, List.mem_range, beq_iff_eq] at hB
  obtain ⟨⟨⟨⟨hsel, hnm⟩, hms⟩, hall⟩, hz⟩ := hB
  have hml : m < l.length := by simpa using hms
  have hnl : n ≤ l.length := by omega
  refine wp_region_any hm (wpAny_of_S (T := T) (m := m) _ _ _ _ ?_)
  rw [← lk_zero]
  have htake : (l.take n).length = n := by rw [List.length_take]; omega
  have hsz : l.toArray.size = (l.take n).length + (l.drop n).length := by simp; omega
  have hopt : ∀ k (hk : k < l.length), l.toArray[k]? = some l[k] := fun k hk => by simp
  have key := reads_any (P := P) (ops := l.toArray) (Q := Q) (T := T) (m := m) (n := n) hsel hnm hms hQ ?_ ?_ hz (l.drop n) (by simp; omega) (fun j hj => by simp at hj ⊢) w.drew hT (l.take n) 0 a (by simpa using htake) (fun j hj => by simp only [List.length_take] at hj; simp) h
  · have e : (l.take n).length + (l.drop n).length = l.toArray.size := hsz.symm
    rw [e] at key
    exact key
  · intro k hk
    have hkl : k < l.length := by omega
    have := hall k (by simpa using hkl)
    rw [hopt k hkl] at this
    simp only [if_pos hk, Bool.and_eq_true] at this
    obtain ⟨⟨⟨h1, h2⟩, h3⟩, h4⟩ := this
    refine ⟨l[k], hopt k hkl, h1, fun e he hb => ?_, h3, fun om hom => ?_⟩
    · have := Array.all_eq_true_iff_forall_mem.1 h2 e he
      simp [hb] at this
      exact this
    · rw [hom] at h4
      simp only at h4
      obtain ⟨e, he, hb⟩ := Array.any_eq_true'.1 h4
      simp only [Bool.and_eq_true, beq_iff_eq] at hb
      exact ⟨e, he, hb.1, hb.2⟩
  · intro k hk hks
    have hkl : k < l.length := by simpa using hks
    have := hall k hks
    rw [hopt k hkl] at this
    simp only [if_neg (by omega : ¬ k < n), Bool.and_eq_true, Option.isNone_iff_eq_none, beq_iff_eq] at this
    exact ⟨l[k], hopt k hkl, this.1, this.2⟩
theorem wp_region_reads {id : Nat} {a : Act} {w : World} {l : List Oper} (n m : Nat) (T : World → Prop) (hm : P.follows .mixedOrders = true) (hB : readsB l.toArray n m = true) (hT : T w.drew)
    (h : wpQuiet P l.toArray T (fun a' => wpChain P l.toArray (NoPanic Q) T m n (l.drop n) a' w.drew) (l.take n) a) : (Code.region id l.toArray true).wp P Q a w :=
  wp_region_noPanic (wp_region_reads0 n m T hm hB (fun _ _ _ _ _ h => h) hT h)
end
end Go.Proofs.YtiadkchlkdaceaaGreat

namespace Go.Proofs.YtiadkchlkdaceaaGreat
open Go.RowKit
set_option linter.unusedVariables false
def InV (v : Value) (g : Nat) : Prop := v.ownBlock = some g
structure KLat (v : Value) (w : World) where
  to : World
  kb : Kb (InV v) w to
instance (v : Value) (w : World) : Nonempty (KLat v w) := ⟨⟨w, Kb.refl _ _⟩⟩
def klat (v : Value) (w : World) (x : KLat v w) : World := x.to
@[go_sem] theorem cell?_klat (v : Value) (w : World) (x : KLat v w) (b o : Nat) (h : b < w.heap.size) (hn : ¬ InV v b) : (klat v w x).cell? ⟨b, o, none⟩ = w.cell? ⟨b, o, none⟩ := by
  have := x.kb.block b h hn
  simp [World.cell?, klat, this]
@[go_sem] theorem frozen?_klat (v : Value) (w : World) (x : KLat v w) (b o : Nat) (h : b < w.heap.size) (hn : ¬ InV v b) : (klat v w x).frozen? ⟨b, o, none⟩ = w.frozen? ⟨b, o, none⟩ := by
  have := x.kb.block b h hn
  simp [World.frozen?, klat, this]
@[go_sem] theorem lt_klat (v : Value) (w : World) (x : KLat v w) (b : Nat) (h : b < w.heap.size) : b < (klat v w x).heap.size := Nat.lt_of_lt_of_le h x.kb.size
def KL (v : Value) (w w' : World) : Prop := ∃ x : KLat v w, w' = klat v w x
theorem KL.of {v : Value} {w w' : World} (h : Kb (InV v) w w') : ∃ x : KLat v w, w' = klat v w x := ⟨⟨w', h⟩, rfl⟩
theorem KL.aft {v : Value} {w w' : World} (h : Aft w w') : ∃ x : KLat v w, w' = klat v w x := KL.of (Kb.of_aft h)
theorem kb_in {v : Value} {w w' : World} (h : w.grownBy w' v.ownBlock) : Kb (InV v) w w' := Kb.of_grown h
end Go.Proofs.YtiadkchlkdaceaaGreat

namespace Go.Proofs.YtiadkchlkdaceaaGreat
open Go.RowKit Go.Deep Go.Shelf
set_option maxRecDepth 100000
set_option linter.unusedVariables false
theorem lvErr {W : World} {b : Nat} {v : Int} (h : W.cell? ⟨b, 0, none⟩ = some (.int .i64 v)) : (loadVar 44 ⟨b, 0, none⟩).run Tryz.prog W = .ok (.int .i64 v) W := by
  go_simp
theorem Kb.put {W : World} {D : Nat} {o : Obj} : Kb (fun g => g = D) W (W.putObj D o) :=
  ⟨rfl, rfl, rfl, by simp [World.putObj], fun k hk hn => World.putObj_heap_other hn⟩
theorem own_kbFrom {B X : Nat} {β : Type} {P : Nat → Prop} {w : World} (hX : w.heap.size ≤ X) : OwnFrom X (fun (_ : β) W => Kb P w W) := fun s W W' row h hg hr =>
  ⟨hg.os.trans h.os, hg.tape.trans h.tape, hg.output.trans h.output, Nat.le_trans h.size hg.size, fun k hk hn => (hg.block k (Nat.lt_of_lt_of_le hk h.size) (fun e => by have := (hr k e.symm).1; omega)).trans (h.block k hk hn)⟩
theorem own_cellFrom {β : Type} {X b o : Nat} {v : Value} (hb : b < X) : OwnFrom X (fun (_ : β) W => W.cell? ⟨b, o, none⟩ = some v) := fun s W W' row h hg hr => by
  have hlt := World.block_lt_of_cell? _ _ h
  have := hg.block b hlt (fun e => by have := (hr b e.symm).1; omega)
  show W'.cell? ⟨b, o, none⟩ = some v
  have h2 : W.cell? ⟨b, o, none⟩ = some v := h
  unfold World.cell? at h2 ⊢
  rw [this]; exact h2
theorem own_rowFrom {β : Type} {X b : Nat} {xs : List Value} (h0 : 0 < xs.length) : OwnFrom X (fun (_ : β) W => RowAt W b xs) := fun s W W' row h hg hr => by
  have hc : W.cell? ⟨b, 0, none⟩ = some xs[0] := by rw [h.2.1 0 h0, List.getElem?_eq_getElem h0]
  have hne : some b ≠ row := fun e => by
    obtain ⟨_, o, ho, hco⟩ := hr b e.symm
    unfold World.cell? at hc
    rw [ho] at hc
    cases o <;> first | cases hc | cases hco
  have hb := hg.block b h.1 hne
  refine ⟨Nat.lt_of_lt_of_le h.1 hg.size, fun j hj => ?_, fun j hj => ?_⟩
  · rw [← h.2.1 j hj]; simp [World.cell?, hb]
  · rw [← h.2.2 j hj]; simp [World.frozen?, hb]
end Go.Proofs.YtiadkchlkdaceaaGreat

namespace Go.Proofs.YtiadkchlkdaceaaGreat
open Go.RowKit Go.Deep Go.Shelf
set_option maxRecDepth 100000
set_option linter.unusedVariables false
theorem keyOf_find (t : Tab) (key : ByteArray) : keyOf t key = (((ofK 2 t.rules).find? fun r => eqS r.name key).map (·.cols)).getD [] := by
  unfold keyOf ofK
  rw [List.find?_filter]
  congr 3
  funext a
  simp [isKey, Bool.beq_eq_decide_eq]
theorem keyOf_hit {t : Tab} {key : ByteArray} {pre : List Rul} {y : Rul} (h : (pre ++ [y]) <+: ofK 2 t.rules) (hn : ∀ z ∈ pre, eqS z.name key = false) (hy : eqS y.name key = true) : keyOf t key = y.cols := by
  obtain ⟨m, hm⟩ := h
  rw [keyOf_find, ← hm, List.append_assoc, List.find?_append, List.find?_eq_none.2 (fun z hz => by simp [hn z hz])]
  simp [hy]
theorem keyOf_miss {t : Tab} {key : ByteArray} (h : ∀ z ∈ ofK 2 t.rules, eqS z.name key = false) : keyOf t key = [] := by
  rw [keyOf_find, List.find?_eq_none.2 (fun z hz => by simp [h z hz])]; rfl
def NamedP (w : World) (p : Nat) (names : List ByteArray) (e : Ending) (w' : World) : Prop :=
  ∃ K c, e = .returned (.tuple #[.pointer (some ⟨p, 0, none⟩), .slice K names.length c]) ∧ Aft w w' ∧ SlAt w' 1 StrR K c names
theorem keepsO_aft {W W' : World} (a : Aft W W') : KeepsOthers W W' := ⟨a.size, fun k o hk _ => (a.block k (Array.getElem?_eq_some_iff.1 hk).1).trans hk⟩
theorem own_aftFrom {β : Type} {X : World} : OwnFrom X.heap.size (fun (_ : β) W => Aft X W) := fun s W W' row h hg hr =>
  ⟨hg.os.trans h.os, hg.tape.trans h.tape, hg.output.trans h.output, Nat.le_trans h.size hg.size, fun k hk => (hg.block k (Nat.lt_of_lt_of_le hk h.size) (fun e => by have := (hr k e.symm).1; omega)).trans (h.block k hk)⟩
/-- the cells of a rule that is handed over -/
def RP.row (y : RP) : List Value := [.string y.r.name, .int .i64 y.r.kind, .slice y.a y.r.cols.length y.c, .int .i64 y.r.low, .int .i64 y.r.high, .string y.r.schema, .string y.r.table, .string y.r.key]
/-- a range over a shelf's rules: the loop's variable lies in a box -/
theorem range_rules {p : Nat} {x : Shf} {A : Option Addr} {cap : Nat} {A2 : Option Addr} {cap2 : Nat} {A3 : Option Addr} {cap3 : Nat} {kd : Int} {bx bk : Nat} {V X : World} (aV : Aft V X) (hs : ShfAt V p x A cap A2 cap2 A3 cap3)
    (c0 : X.cell? ⟨bx, 0, none⟩ = some (.pointer (some ⟨p, 0, none⟩))) (c1 : X.cell? ⟨bk, 0, none⟩ = some (.int .i64 kd))
    {g : Operand} {ps : Array Tmp} {assign body : Code} {Q : Exit → Act → World → Prop} {a : Act} (hg : a.eval g = .func (.func 124) #[] #[.pointer (some ⟨bx, 0, none⟩), .pointer (some ⟨bk, 0, none⟩)]) (hps : ps.size = 1)
    (I : List (RPx V x kd) → World → Prop) (Ix : Code → List (RPx V x kd) → World → Prop) (hI : OwnFrom X.heap.size I) (hIx : ∀ c, OwnFrom X.heap.size (Ix c)) (h0 : I [] X) (hIa : ∀ pre W V', I pre W → Aft W V' → I pre V') (hIX : ∀ pre W, I pre W → Aft X W) (F : RPx V x kd → Nat → Act)
    (hassign : ∀ (l : Nat) (pre : List (RPx V x kd)) (y : RPx V x kd) (W : World) (K : Act → World → Prop), I pre W → (∀ Bx V', Aft W V' → RowAt V' Bx y.1.row → K (F y Bx) V') →
      assign.wpIn (Fence.wide.inRound l) 6 Tryz.prog (Exit.then K (fun _ _ _ => False)) { tmps := (ps.zip (RPx.enc y)).foldl (fun t (p, v) => t.setIfInBounds p v) a.tmps, defers := [] } W)
    (hbody : ∀ (l : Nat) (pre : List (RPx V x kd)) (y : RPx V x kd) (Bx : Nat) (W : World), I pre W → RowAt W Bx y.1.row → body.wpIn (Fence.wide.inRound l) 6 Tryz.prog (ownPostG X.heap.size (fun W W' => Kc W W' ∧ Below X.heap.size W W') I Ix (pre ++ [y]) W) (F y Bx) W)
    (hdone : ∀ (D : Nat) (xs : List (RPx V x kd)) (W : World), X.heap.size ≤ D → xs.map RPx.r = ofK kd x.t.rules → I xs W → W.heap[D]? = some (.deferred (some [])) → Q .normal { a with defers := { target := .collected D, args := #[] } :: a.defers } W)
    (hstop : ∀ (D : Nat) (c : Code) (pre : List (RPx V x kd)) (W : World), X.heap.size ≤ D → pre.map RPx.r <+: ofK kd x.t.rules → Ix c pre W → W.heap[D]? = some (.deferred (some [])) → c.wpIn Fence.wide 8 Tryz.prog Q { a with defers := { target := .collected D, args := #[] } :: a.defers } W) :
    (Code.rangeFunc g ps assign body).wp Tryz.prog Q a X :=
  (wpIn_wide (n := 8)).1 (wpIn_rangeFunc_ownH (α := RPx V x kd) rfl (by omega) hg trivial (enters_of Tryz.func124 (by kernel_rfl) rfl) (rules_stops 7 (by omega) p x A cap A2 cap2 A3 cap3 kd bx bk V X aV hs c0 c1)
    (fun h k => ⟨h.1.trans k.1, h.2.trans k.2⟩) (fun W l o o' hl h ho hw => ⟨Kc.put h ho, belowK_b (Nat.le_refl _) W l o o' hl h ho hw⟩) (Below.refl _ _) (fun _ => hps.symm) I Ix hI hIx h0
    (fun y a' W' => ∃ Bx, RowAt W' Bx y.1.row ∧ a' = F y Bx)
    (fun x a' s' W W' row h hg hr => by
      obtain ⟨Bx, hrow, ha⟩ := h
      exact ⟨Bx, own_rowFrom (β := Unit) (by simp [RP.row]) () W W' row hrow hg hr, ha⟩)
    (fun l pre y W K hi hK => hassign l pre y W K hi fun Bx V' aV' hV => hK _ _ ((keepsO_aft aV').from _) ⟨Kc.of_aft aV', Below.mono aV' (hIX _ _ hi).size⟩ (hIa _ _ _ hi aV') ⟨Bx, hV, rfl⟩)
    (fun l pre y a' W hl hr hi hx hlt => by
      obtain ⟨Bx, hrow, rfl⟩ := hx
      exact hbody l pre y Bx W hi hrow)
    hdone hstop)
/-- a round has found the key's columns -/
def NamX (V X : World) (x : Shf) (key : ByteArray) (b1 b2 p : Nat) (c : Code) (pre : List (RPx V x 2)) (W' : World) : Prop :=
  (c = Code.ret ∧ ∃ pre0 y, pre = pre0 ++ [y] ∧ (∀ z ∈ pre0, eqS (RPx.r z).name key = false) ∧ eqS (RPx.r y).name key = true ∧ W'.cell? ⟨b2, 0, none⟩ = some (.slice y.1.a y.1.r.cols.length y.1.c)) ∧ (Kb (fun g => g = b1 ∨ g = b2) X W' ∧ W'.cell? ⟨b1, 0, none⟩ = some (.pointer (some ⟨p, 0, none⟩)))
theorem results_cell2 {fn : Func} {a b : Tmp} {t u : TypeId} (h : fn.results = #[.cell a t, .cell b u]) (tmps : Array Value) {P : Program} {w : World} {p q : Addr} {v v' : Value} (ha : tmps.getD a undef = .pointer (some p)) (hl : (loadVar t p).run P w = .ok v w) (hb : tmps.getD b undef = .pointer (some q)) (hm : (loadVar u q).run P w = .ok v' w) :
    (results fn tmps).run P w = .ok (.tuple #[v, v']) w := by
  rw [Array.getD_eq_getD_getElem?] at ha hb
  simp [results, h, ha, hb, asAddr, hl, hm]
theorem lvShf {W : World} {b : Nat} {v : Option Addr} (h : W.cell? ⟨b, 0, none⟩ = some (.pointer v)) : (loadVar 80 ⟨b, 0, none⟩).run Tryz.prog W = .ok (.pointer v) W := by
  go_simp
theorem lvStrs {W : World} {b : Nat} {A : Option Addr} {n c : Nat} (h : W.cell? ⟨b, 0, none⟩ = some (.slice A n c)) : (loadVar 60 ⟨b, 0, none⟩).run Tryz.prog W = .ok (.slice A n c) W := by
  go_simp
set_option maxHeartbeats 16000000 in
theorem named12 (s : Nat) (ps : List Nat) (S : List Shf) (r : Rul) (vc : Value) (q : Nat) (w : World) (h : StoIs w s ps S) (hq : shfAt S r.schema r.table = q) :
    Calls Tryz.prog 106 #[.pointer (some ⟨s, 0, none⟩), .agg #[.string r.name, .int .i64 r.kind, vc, .int .i64 r.low, .int .i64 r.high, .string r.schema, .string r.table, .string r.key]] w (NamedP w (ps.getD q 0) (keyOf (shfN S q).t r.key)) := by
  have hql := shfAt_lt hq
  have hqp : q < ps.length := by have := h.len; omega
  obtain ⟨A, cap, A2, cap2, A3, cap3, hsh⟩ := h.each q hqp hql
  have hgd : ps.getD q 0 = ps[q] := by rw [List.getD_eq_getElem?_getD, List.getElem?_eq_getElem hqp]; rfl
  rw [shfN_get hql, hgd]
  obtain ⟨p, hp⟩ : ∃ p, ps[q] = p := ⟨_, rfl⟩
  obtain ⟨x, hx⟩ : ∃ x, S[q] = x := ⟨_, rfl⟩
  rw [hp, hx] at hsh
  rw [hp, hx]
  have C0 := Lib.hid (show ∀ W, Aft w W → Calls Tryz.prog 25 #[.pointer (some ⟨s, 0, none⟩), .string r.schema, .string r.table] W fun e w' => e = .returned (.pointer (some ⟨p, 0, none⟩)) ∧ W = w' from
    fun W a => (find12 s ps S r.schema r.table W (h.aft a)).mono fun e w' ⟨he, hw⟩ => ⟨he.trans (by rw [hq, ptrV_at hqp, hp]), hw⟩)
  have HSH := Lib.hid hsh
  have C1 := Lib.hid (fun W => rules12 p 2 W)
  clear h hq hql hqp hgd hp hx hsh
  refine (callsIn_wide (n := 8)).1 ?_
  refine callsIn_of_wp_marks Tryz.func106 rfl trivial ?_ rfl
  simp only [Tryz.ntmps106, List.size_toArray, List.length_cons, List.length_nil, Nat.reduceAdd, Nat.reduceSub, Array.replicate_succ, Array.replicate_zero, List.push_toArray, List.append_toArray, List.nil_append, List.cons_append]
  refine wpIn_wide.2 ?_
  go_wp2_with fail
  obtain ⟨W, hW⟩ : ∃ W, W = ((w.alloc (.cells #[.string r.name, .int .i64 r.kind, vc, .int .i64 r.low, .int .i64 r.high, .string r.schema, .string r.table, .string r.key] 108)).alloc (.cells #[.pointer none] 80)).alloc (.cells #[.slice none 0 0] 60) := ⟨_, rfl⟩
  have aW : Aft w W := by rw [hW]; exact (((Aft.refl w).alloc _).alloc _).alloc _
  have zW := Lib.hid (show W.heap.size = w.heap.size + 3 by rw [hW]; simp)
  have k0 : RowAt W w.heap.size [.string r.name, .int .i64 r.kind, vc, .int .i64 r.low, .int .i64 r.high, .string r.schema, .string r.table, .string r.key] := by
    rw [hW]; exact ((box_row2 (c := [.string r.name, .int .i64 r.kind, vc, .int .i64 r.low, .int .i64 r.high, .string r.schema, .string r.table, .string r.key]) (Aft.refl _)).aft (((Aft.refl _).alloc _).alloc _))
  have k1 : RowAt W (w.heap.size + 1) [.pointer none] := by
    rw [hW]
    have := (box_row2 (w := w.alloc (.cells #[.string r.name, .int .i64 r.kind, vc, .int .i64 r.low, .int .i64 r.high, .string r.schema, .string r.table, .string r.key] 108)) (c := [.pointer none]) (t := 80) (Aft.refl _)).aft ((Aft.refl _).alloc (.cells #[.slice none 0 0] 60))
    simpa using this
  have k2 : RowAt W (w.heap.size + 1 + 1) [.slice none 0 0] := by
    rw [hW]
    have := box_row2 (w := (w.alloc (.cells #[.string r.name, .int .i64 r.kind, vc, .int .i64 r.low, .int .i64 r.high, .string r.schema, .string r.table, .string r.key] 108)).alloc (.cells #[.pointer none] 80)) (c := [.slice none 0 0]) (t := 60) (Aft.refl _)
    simpa using this
  rw [← hW]
  clear hW
  refine (C0.out W aW).mono ?_
  rintro e w1 ⟨rfl, rfl⟩
  have x5 := k0.cell (j := 5) rfl
  go_wp2_with fail
  refine (C1.out _).mono ?_
  rintro e X ⟨rfl, hX⟩
  have aX : Aft W X := by rw [hX]; exact (((Aft.refl _).alloc _).alloc _).alloc _
  have zX := Lib.hid (show X.heap.size = W.heap.size + 3 by rw [hX]; simp)
  have q0 : RowAt X W.heap.size [.pointer (some ⟨p, 0, none⟩)] := by rw [hX]; exact (box_row2 (c := [.pointer (some ⟨p, 0, none⟩)]) (Aft.refl _)).aft (((Aft.refl _).alloc _).alloc _)
  have q1 : X.cell? ⟨W.heap.size + 1, 0, none⟩ = some (.pointer (some ⟨p, 0, none⟩)) := by
    rw [hX]
    refine (Aft.cell_kept ((Aft.refl _).alloc _) (?_ : ((W.alloc (.cells #[.pointer (some ⟨p, 0, none⟩)] 80)).alloc (.cells #[.pointer (some ⟨p, 0, none⟩)] 80)).cell? ⟨W.heap.size + 1, 0, none⟩ = _))
    exact World.cell?_alloc_at _ _ _ _ (by simp)
  have q2 : X.cell? ⟨W.heap.size + 1 + 1, 0, none⟩ = some (.int .i64 2) := by rw [hX]; exact World.cell?_alloc_at _ _ _ _ (by simp)
  simp only [World.size_alloc]
  clear hX
  go_wp2_with fail
  have QX := Lib.hid (And.intro q1 q2)
  have HAX := Lib.hid (aW.trans aX)
  have K0 := Lib.hid (k0.aft aX)
  have K1 := Lib.hid (k1.aft aX)
  have K2 := Lib.hid (k2.aft aX)
  have Q0 := Lib.hid q0
  have z0 : w.heap.size < X.heap.size := by have := zX.out; have := zW.out; omega
  have z1 : w.heap.size + 1 < X.heap.size := by have := zX.out; have := zW.out; omega
  have z2 : w.heap.size + 1 + 1 < X.heap.size := by have := zX.out; have := zW.out; omega
  have z3 : W.heap.size < X.heap.size := by have := zX.out; omega
  clear k0 k1 k2 q0 q1 q2 aX aW x5
  refine range_rules HAX.out HSH.out QX.out.1 QX.out.2 rfl rfl
    (fun pre W' => Aft X W' ∧ ∀ y ∈ pre, eqS (RPx.r y).name r.key = false)
    (NamX w X x r.key (w.heap.size + 1) (w.heap.size + 1 + 1) p)
    (OwnFrom.and own_aftFrom (ownFrom_pure _ _)) (fun c s' W W' row h hg hr => by
      obtain ⟨⟨hc, pre0, y, h1, h2, h3, hcell⟩, hk, hp⟩ := h
      exact ⟨⟨hc, pre0, y, h1, h2, h3, own_cellFrom (β := Unit) z2 () W W' row hcell hg hr⟩, own_kbFrom (β := Unit) (B := 0) (Nat.le_refl _) () W W' row hk hg hr, own_cellFrom (β := Unit) z1 () W W' row hp hg hr⟩)
    ⟨Aft.refl _, fun y hy => by cases hy⟩
    (fun pre W V' h a => ⟨h.1.trans a, h.2⟩) (fun pre W h => h.1) ?F
    ?assign ?body ?done ?stop
  case assign =>
    intro l pre y W' K hi hK
    dsimp only [RPx.enc, RP.enc]
    have lw := Nat.lt_succ_self W'.heap.size
    gi_wp2
    obtain ⟨V, hV⟩ : ∃ V, V = W'.alloc (.cells y.1.row.toArray 108) := ⟨_, rfl⟩
    have aV : Aft W' V := by rw [hV]; exact (Aft.refl W').alloc _
    have rV : RowAt V W'.heap.size y.1.row := by rw [hV]; exact box_row2 (Aft.refl _)
    unfold RP.row at hV
    try dsimp only at hV
    rw [← hV]
    clear hV
    obtain ⟨Bx, hBx⟩ : ∃ Bx, Bx = W'.heap.size := ⟨_, rfl⟩
    rw [← hBx] at rV ⊢
    exact hK _ _ aV rV
  case body =>
    rintro l pre y Bx W' ⟨ha, hall⟩ hrow
    unfold RP.row at hrow
    have x7 := (K0.out.aft ha).cell (j := 7) rfl
    have xz := (K0.out.aft ha).1
    have t0 := hrow.cell (j := 0) rfl
    have t2 := hrow.cell (j := 2) rfl
    have tz := hrow.1
    have u0 := (Q0.out.aft ha).cell (j := 0) rfl
    have uz := (Q0.out.aft ha).1
    have v1 := (K1.out.aft ha).cell (j := 0) rfl
    have f1 := (K1.out.aft ha).2.2 0 (by simp)
    have v2 := (K2.out.aft ha).cell (j := 0) rfl
    have f2 := (K2.out.aft ha).2.2 0 (by simp)
    have HA := Lib.hid ha
    have HAL := Lib.hid hall
    clear ha hall hrow
    cases g : eqS y.1.r.name r.key
    · have e1 : (y.1.r.name.toList == r.key.toList) = false := g
      have HG := Lib.hid g
      clear g
      gi_wp2
      exact ⟨KeepsFrom.refl _ _, ⟨Kc.refl _, Below.refl _ _⟩, HA.out, fun z hz => by
        rcases List.mem_append.1 hz with h | h
        · exact HAL.out z h
        · rw [List.mem_singleton] at h; rw [h]; exact HG.out⟩
    · have e1 : (y.1.r.name.toList == r.key.toList) = true := g
      have HG := Lib.hid g
      clear g
      have hn1 : ¬ W.heap.size = w.heap.size + 1 := by have := zW.out; omega
      have hn2 : ¬ W.heap.size = w.heap.size + 1 + 1 := by have := zW.out; omega
      have hn3 : ¬ w.heap.size + 1 = W.heap.size := by have := zW.out; omega
      have hn4 : ¬ w.heap.size + 1 + 1 = W.heap.size := by have := zW.out; omega
      have FIN := Lib.hid (show NamX w X x r.key (w.heap.size + 1) (w.heap.size + 1 + 1) p Code.ret (pre ++ [y]) ((W'.setCell ⟨w.heap.size + 1, 0, none⟩ (.pointer (some ⟨p, 0, none⟩))).setCell ⟨w.heap.size + 1 + 1, 0, none⟩ (.slice y.1.a y.1.r.cols.length y.1.c)).drew from by
        have ks := Kb.set W' (w.heap.size + 1) 0 (.pointer (some ⟨p, 0, none⟩))
        have kr := Kb.set (W'.setCell ⟨w.heap.size + 1, 0, none⟩ (.pointer (some ⟨p, 0, none⟩))) (w.heap.size + 1 + 1) 0 (.slice y.1.a y.1.r.cols.length y.1.c)
        refine ⟨⟨rfl, pre, y, rfl, HAL.out, HG.out, ?_⟩, ?_, ?_⟩
        · refine (World.cell?_setCell_same' _ _ _ ?_ : World.cell? (World.setCell _ _ _) _ = _)
          rw [ks.cell v2 (fun e => by have e : w.heap.size + 1 + 1 = w.heap.size + 1 := e; omega)]
          rfl
        · exact (((Kb.of_aft HA.out).trans (ks.mono fun g _ e => .inl e)).trans (kr.mono fun g _ e => .inr e)).trans (Kb.of_aft (Aft.refl _).drew)
        · show World.cell? (World.setCell _ _ _) _ = _
          rw [World.cell?_setCell_other (h := by simp)]
          exact World.cell?_setCell_same' _ _ _ (by rw [v1]; rfl))
      have hmx : Tryz.prog.follows .mixedOrders = true := by kernel_rfl
      gi_wp2
      gi_region_with_o (fail)
      all_goals
        gi_wp2
        exact ⟨(((KeepsOthers.setCell _ _ _).trans (KeepsOthers.setCell _ _ _)).trans (KeepsOthers.drew _)).from _, FIN.out⟩
  case done =>
    rintro D xs W' hD hS ⟨ha, hall⟩ hK
    have HN := Lib.hid (show keyOf x.t r.key = [] from keyOf_miss fun z hz => by
      rw [← hS] at hz
      obtain ⟨y, hy, rfl⟩ := List.mem_map.1 hz
      exact hall y hy)
    have u0 := (Q0.out.aft ha).cell (j := 0) rfl
    have uz := (Q0.out.aft ha).1
    have v1 := (K1.out.aft ha).cell (j := 0) rfl
    have f1 := (K1.out.aft ha).2.2 0 (by simp)
    have vz1 := (K1.out.aft ha).1
    have v2 := (K2.out.aft ha).cell (j := 0) rfl
    have f2 := (K2.out.aft ha).2.2 0 (by simp)
    have vz2 := (K2.out.aft ha).1
    have HA := Lib.hid ha
    have HFI := Lib.hid (show ((((W'.setCell ⟨w.heap.size + 1, 0, none⟩ (.pointer (some ⟨p, 0, none⟩))).setCell ⟨w.heap.size + 1 + 1, 0, none⟩ (.slice none 0 0)).heap[D]? = some (.deferred (some []))) ∧
        (((W'.setCell ⟨w.heap.size + 1, 0, none⟩ (.pointer (some ⟨p, 0, none⟩))).setCell ⟨w.heap.size + 1 + 1, 0, none⟩ (.slice none 0 0)).putObj D (.deferred none)).cell? ⟨w.heap.size + 1, 0, none⟩ = some (.pointer (some ⟨p, 0, none⟩)) ∧
        (((W'.setCell ⟨w.heap.size + 1, 0, none⟩ (.pointer (some ⟨p, 0, none⟩))).setCell ⟨w.heap.size + 1 + 1, 0, none⟩ (.slice none 0 0)).putObj D (.deferred none)).cell? ⟨w.heap.size + 1 + 1, 0, none⟩ = some (.slice none 0 0) ∧
        Aft w (((W'.setCell ⟨w.heap.size + 1, 0, none⟩ (.pointer (some ⟨p, 0, none⟩))).setCell ⟨w.heap.size + 1 + 1, 0, none⟩ (.slice none 0 0)).putObj D (.deferred none))) from by
      have ks := Kb.set W' (w.heap.size + 1) 0 (.pointer (some ⟨p, 0, none⟩))
      have kr := Kb.set (W'.setCell ⟨w.heap.size + 1, 0, none⟩ (.pointer (some ⟨p, 0, none⟩))) (w.heap.size + 1 + 1) 0 (.slice none 0 0)
      have hDlt : D < W'.heap.size := (Array.getElem?_eq_some_iff.1 hK).1
      refine ⟨?_, ?_, ?_, ?_⟩
      · rw [kr.block D (by simp; omega) (fun e => by have e : D = w.heap.size + 1 + 1 := e; omega), ks.block D hDlt (fun e => by have e : D = w.heap.size + 1 := e; omega)]
        exact hK
      · refine (World.cell?_of_block (World.putObj_heap_other (k := w.heap.size + 1) (by omega))).trans ?_
        rw [World.cell?_setCell_other (h := by simp)]
        exact World.cell?_setCell_same' _ _ _ (by rw [v1]; rfl)
      · refine (World.cell?_of_block (World.putObj_heap_other (k := w.heap.size + 1 + 1) (by omega))).trans (World.cell?_setCell_same' _ _ _ ?_)
        rw [ks.cell v2 (fun e => by have e : w.heap.size + 1 + 1 = w.heap.size + 1 := e; omega)]
        rfl
      · have a1 := HAX.out.trans ha
        have z9 := HAX.out.size
        exact Kb.to_aft (P := fun g => w.heap.size ≤ g) (((ks.mono fun g _ e => by have e : g = w.heap.size + 1 := e; show w.heap.size ≤ g; omega).trans (kr.mono fun g _ e => by have e : g = w.heap.size + 1 + 1 := e; show w.heap.size ≤ g; omega)).trans (Kb.put.mono fun g _ e => by have e : g = D := e; show w.heap.size ≤ g; omega)) a1 (fun k hk e => by have e : w.heap.size ≤ k := e; omega))
    clear ha hall hS
    go_wp2_with fail
    refine ⟨by simp, .inl ⟨_, _, rfl, run_takeDeferred HFI.out.1, ?_⟩⟩
    refine ⟨_, results_cell2 rfl _ rfl (lvShf HFI.out.2.1) rfl (lvStrs HFI.out.2.2.1), ?_⟩
    rw [HN.out]
    exact ⟨none, 0, rfl, HFI.out.2.2.2, slAt_nil⟩
  case stop =>
    rintro D c pre W' hD hSp ⟨⟨rfl, pre0, y, rfl, hno, hyes, hcell⟩, hk, hp⟩ hK
    have HN := Lib.hid (show keyOf x.t r.key = y.1.r.cols from keyOf_hit (pre := pre0.map RPx.r) (y := RPx.r y) (by rw [List.map_append] at hSp; exact hSp) (fun z hz => by obtain ⟨u, hu, rfl⟩ := List.mem_map.1 hz; exact hno u hu) hyes)
    have HFI := Lib.hid (show (W'.putObj D (.deferred none)).cell? ⟨w.heap.size + 1, 0, none⟩ = some (.pointer (some ⟨p, 0, none⟩)) ∧ (W'.putObj D (.deferred none)).cell? ⟨w.heap.size + 1 + 1, 0, none⟩ = some (.slice y.1.a y.1.r.cols.length y.1.c) ∧ Aft w (W'.putObj D (.deferred none)) ∧ SlAt (W'.putObj D (.deferred none)) 1 StrR y.1.a y.1.c y.1.r.cols from by
      have z9 := HAX.out.size
      have a1 : Kb (fun g => w.heap.size + 1 = g ∨ w.heap.size + 1 + 1 = g ∨ g = D) X (W'.putObj D (.deferred none)) := (hk.mono fun g _ e => by omega).trans (Kb.put.mono fun g _ e => by have e : g = D := e; exact .inr (.inr e))
      refine ⟨(World.cell?_of_block (World.putObj_heap_other (k := w.heap.size + 1) (by omega))).trans hp, (World.cell?_of_block (World.putObj_heap_other (k := w.heap.size + 1 + 1) (by omega))).trans hcell, ?_, ?_⟩
      · exact Kb.to_aft (P := fun g => w.heap.size ≤ g) (a1.mono fun g _ e => by show w.heap.size ≤ g; omega) HAX.out (fun k hk e => by have e : w.heap.size ≤ k := e; omega)
      · exact strs_aft (Kb.to_aft (P := fun g => w.heap.size ≤ g) (a1.mono fun g _ e => by show w.heap.size ≤ g; omega) HAX.out (fun k hk e => by have e : w.heap.size ≤ k := e; omega)) y.2.1)
    clear hk hcell hSp hno hyes hp
    gi_wp2
    refine ⟨by simp, .inl ⟨_, _, rfl, run_takeDeferred hK, ?_⟩⟩
    refine ⟨_, results_cell2 rfl _ rfl (lvShf HFI.out.1) rfl (lvStrs HFI.out.2.1), ?_⟩
    rw [HN.out]
    exact ⟨_, _, rfl, HFI.out.2.2.1, HFI.out.2.2.2⟩
end Go.Proofs.YtiadkchlkdaceaaGreat

namespace Go.Proofs.YtiadkchlkdaceaaGreat
open Go.RowKit
set_option maxRecDepth 100000
set_option linter.unusedVariables false
set_option maxHeartbeats 8000000 in
theorem fit_any (t : Tab) (row : List Val) (A : Option Addr) (cap : Nat) (A2 : Option Addr) (cap2 : Nat) (B : Option Addr) (capB : Nat) (w : World) (h : SlAt w 3 ColR A cap t.cols) (h2 : SlAt w 8 RulR A2 cap2 t.rules) (h3 : SlAt w 3 ValR B capB row) (hb : t.rules.length ≤ 1000000) :
    Calls Tryz.prog 102 #[.agg #[.string t.schema, .string t.name, .string t.owner, .slice A t.cols.length cap, .slice A2 t.rules.length cap2], .slice B row.length capB] w
      fun e w' => e = .returned (.int .i64 (fitE t row)) ∧ Aft w w' := by
  obtain ⟨c, hc⟩ : ∃ c, tableOk t = c := ⟨_, rfl⟩
  obtain ⟨f, hf⟩ : ∃ f, besideB formB t.cols row = f := ⟨_, rfl⟩
  obtain ⟨n, hn⟩ : ∃ n, besideB nullB t.cols row = n := ⟨_, rfl⟩
  have Ck := Lib.hid (show ∀ w', Aft w w' → Calls Tryz.prog 97 #[.agg #[.string t.schema, .string t.name, .string t.owner, .slice A t.cols.length cap, .slice A2 t.rules.length cap2]] w' fun e w'' => e = .returned (.int .i64 (if c = true then 0 else 1)) ∧ Aft w' w'' from
    fun w' a => (rcheck_any t A cap A2 cap2 w' (cols_aft a h) (ruls_aft a h2) hb).mono fun e w'' ⟨he, hw⟩ => ⟨he.trans (by rw [hc]), hw⟩)
  have Cf := Lib.hid (show ∀ w', Aft w w' → Calls Tryz.prog 62 #[.slice A t.cols.length cap, .slice B row.length capB] w' fun e w'' => e = .returned (.bool f) ∧ Aft w' w'' from
    fun w' a => (formed_any A cap t.cols B capB row w' (cols_aft a h) (vals_aft a h3)).mono fun e w'' ⟨he, hw⟩ => ⟨he.trans (by rw [hf]), hw⟩)
  have Cn := Lib.hid (show ∀ w', Aft w w' → Calls Tryz.prog 98 #[.slice A t.cols.length cap, .slice B row.length capB, .func (.func 123) #[] #[]] w' fun e w'' => e = .returned (.bool n) ∧ Aft w' w'' from
    fun w' a => (nullC A cap t.cols B capB row w' (cols_aft a h) (vals_aft a h3)).mono fun e w'' ⟨he, hw⟩ => ⟨he.trans (by rw [hn]), hw⟩)
  have HT := Lib.hid hc
  have HFo := Lib.hid hf
  have HNu := Lib.hid hn
  have hlen2 := h2.len
  have hlen3 := h3.len
  clear hc hf hn
  go_enter Tryz.func102, Tryz.ntmps102
  go_wp2_with fail
  refine (Ck.out _ ((Aft.refl w).alloc _)).mono ?_
  rintro e w1 ⟨rfl, a1⟩
  obtain ⟨hbt, hfr, hz, hzk, HA⟩ := aft_box a1
  have HAB := Lib.hid a1
  clear a1 Ck
  cases c
  · have HR := Lib.hid (fitE_1 (row := row) HT.out)
    go_wp2_with fail
    go_ret
    exact ⟨by rw [HR.out]; rfl, HA.out⟩
  go_wp2_with fail
  refine (Cf.out _ HA.out).mono ?_
  rintro e w2 ⟨rfl, a2⟩
  have HAB2 := Lib.hid (HAB.out.trans a2)
  clear a2 Cf HA HAB hbt hfr hz hzk
  obtain ⟨hbt, hfr, hz, hzk, HA⟩ := aft_box HAB2.out
  cases f
  · have HR := Lib.hid (fitE_100 HT.out HFo.out)
    go_wp2_with fail
    go_ret
    exact ⟨by rw [HR.out]; rfl, HA.out⟩
  go_wp2_with fail
  refine (Cn.out _ HA.out).mono ?_
  rintro e w3 ⟨rfl, a3⟩
  have HAB3 := Lib.hid (HAB2.out.trans a3)
  clear a3 Cn HA HAB2 hbt hfr hz hzk
  obtain ⟨hbt, hfr, hz, hzk, HA⟩ := aft_box HAB3.out
  cases n
  · have HR := Lib.hid (fitE_101 HT.out HFo.out HNu.out)
    go_wp2_with fail
    go_ret
    exact ⟨by rw [HR.out]; rfl, HA.out⟩
  have HR := Lib.hid (fitE_any HT.out HFo.out HNu.out)
  have HLL := Lib.hid (show t.cols.length = row.length from ((besideB_iff formB t.cols row).1 HFo.out).1)
  go_wp2_with fail
  go_loopw [27] (fun i wr => ∃ k : Nat, k ≤ t.rules.length ∧ i = .int .i64 k ∧ Aft (w.alloc (.cells #[.string t.schema, .string t.name, .string t.owner, .slice A t.cols.length cap, .slice A2 t.rules.length cap2] 76)) wr ∧ ∀ j, j < k → ∀ (hj : j < t.rules.length), badR t.cols row t.rules[j] = false) (fun i _ => t.rules.length - (intOf i).toNat)
  case atStart => exact ⟨0, Nat.zero_le _, rfl, HAB3.out, fun j hj => absurd hj (Nat.not_lt_zero j)⟩
  case round =>
    clear hbt hfr hz hzk HA HAB3
    obtain ⟨k, hk, rfl, ha, hp⟩ := hrel
    obtain ⟨hbt, hfr, hz, hzk, HA⟩ := aft_box ha
    have HAB := Lib.hid ha
    have HP := Lib.hid hp; clear hp ha
    by_cases hlt : k < t.rules.length
    · have hr := ruls_aft HA.out h2
      have htf := table_fits HT.out hlt
      obtain ⟨b, off, D2, capD2, rfl, hb, c0, c1, c2, c3, c4, c5, c6, c7, hcs, _⟩ := rul_at hr hlt
      obtain ⟨p, hpp⟩ : ∃ p, t.rules[k] = p := ⟨_, rfl⟩
      rw [hpp] at c0 c1 c2 c3 c4 c5 c6 c7 hcs htf
      have HPP := Lib.hid hpp
      clear hr hpp
      cases h3k : (p.kind != 3)
      · have h3' : (p.kind == 3) = true := by simpa using h3k
        have hp0 := fits_pos htf
        have hq0 := fits_cols htf hp0
        obtain ⟨q, hq⟩ := Int.eq_ofNat_of_zero_le hq0
        have hql := colAt_lt hq
        have hqr : q < row.length := by have := HLL.out; omega
        have HBD := Lib.hid (show badR t.cols row t.rules[k] = outB row[q] p by rw [HPP.out]; exact badR_of h3' hp0 hq hqr)
        obtain ⟨W, hW⟩ : ∃ W, W = wr.alloc (.cells #[.string p.name, .int .i64 p.kind, .slice D2 p.cols.length capD2, .int .i64 p.low, .int .i64 p.high, .string p.schema, .string p.table, .string p.key] 108) := ⟨_, rfl⟩
        have aW : Aft wr W := by rw [hW]; exact (Aft.refl wr).alloc _
        have hbW : ∀ o, W.cell? ⟨wr.heap.size, o, none⟩ = (#[.string p.name, .int .i64 p.kind, .slice D2 p.cols.length capD2, .int .i64 p.low, .int .i64 p.high, .string p.schema, .string p.table, .string p.key] : Array Value)[o]? := by intro o; rw [hW]; simp
        obtain ⟨b5, off5, hD, hb5, g5, _⟩ := str_at (strs_aft aW hcs) hp0
        subst hD
        obtain ⟨b6, off6, hBB, hb6, v0, v1, v2, _⟩ := val_at (vals_aft (HA.out.trans aW) h3) hqr
        subst hBB
        have g5' : W.cell? ⟨b5, off5, none⟩ = some (.string p.cols[0]) := by simpa using g5
        have t3 : W.cell? ⟨w.heap.size, 3, none⟩ = some (.slice A t.cols.length cap) := aW.cell_kept (hbt 3)
        have r2 : W.cell? ⟨wr.heap.size, 2, none⟩ = some (.slice (some ⟨b5, off5, none⟩) p.cols.length capD2) := hbW 2
        have r3 : W.cell? ⟨wr.heap.size, 3, none⟩ = some (.int .i64 p.low) := hbW 3
        have r4 : W.cell? ⟨wr.heap.size, 4, none⟩ = some (.int .i64 p.high) := hbW 4
        have HAW := Lib.hid (HA.out.trans aW)
        have HABW := Lib.hid (HAB.out.trans aW)
        have Cp := Lib.hid (show ∀ w', Aft W w' → Calls Tryz.prog 63 #[.slice A t.cols.length cap, .string p.cols[0]] w' fun e w'' => e = .returned (.int .i64 q) ∧ Aft w' w'' from
          fun w' a => (place_any A cap t.cols p.cols[0] w' (cols_aft (HAW.out.trans a) h)).mono fun e w'' ⟨he, hw⟩ => ⟨he.trans (by rw [hq]), hw⟩)
        have hzr : wr.heap.size < W.heap.size := by rw [hW]; simp
        clear hq hq0 htf
        go_wp2_with fail
        rw [← hW]
        clear hW
        have KF := Lib.hid (show ∀ w', Aft W w' → (Aft W w' ∧ w'.cell? ⟨w.heap.size, 3, none⟩ = some (.slice A t.cols.length cap) ∧ w'.cell? ⟨wr.heap.size, 2, none⟩ = some (.slice (some ⟨b5, off5, none⟩) p.cols.length capD2) ∧ w'.cell? ⟨b5, off5, none⟩ = some (.string p.cols[0]) ∧ w'.cell? ⟨b6, off6 + q * 3, none⟩ = some (.int .i64 row[q].kind) ∧ w'.cell? ⟨b6, off6 + q * 3 + 1, none⟩ = some (.int .i64 row[q].int) ∧ w'.cell? ⟨b6, off6 + q * 3 + 2, none⟩ = some (.string row[q].text)) from fun w' a => ⟨a, a.cell_kept t3, a.cell_kept r2, a.cell_kept g5', a.cell_kept v0, a.cell_kept v1, a.cell_kept v2⟩)
        go_region_held3 (fun w' => Aft W w' ∧ w'.cell? ⟨w.heap.size, 3, none⟩ = some (.slice A t.cols.length cap) ∧ w'.cell? ⟨wr.heap.size, 2, none⟩ = some (.slice (some ⟨b5, off5, none⟩) p.cols.length capD2) ∧ w'.cell? ⟨b5, off5, none⟩ = some (.string p.cols[0]) ∧ w'.cell? ⟨b6, off6 + q * 3, none⟩ = some (.int .i64 row[q].kind) ∧ w'.cell? ⟨b6, off6 + q * 3 + 1, none⟩ = some (.int .i64 row[q].int) ∧ w'.cell? ⟨b6, off6 + q * 3 + 2, none⟩ = some (.string row[q].text))
          (first | exact KF.out _ (Aft.refl _).drew | exact KF.out _ ((And.left (by assumption : Aft W _ ∧ _)).trans (by assumption)) | exact KF.out _ ((And.left (by assumption : Aft W _ ∧ _)).alloc _) | exact KF.out _ (Aft.alloc (Aft.trans (Aft.drew (Aft.refl W)) (by assumption)) _) | exact KF.out _ (Aft.setCell (Aft.setCell (Aft.setCell (Hid.out (by assumption : Hid (Aft W _))) _ _ (Nat.le_refl _)) _ _ (Nat.le_refl _)) _ _ (Nat.le_refl _)) | exact KF.out _ (Aft.drew (Aft.alloc (Aft.refl W) _)))
          ((go_at_call 63; refine (Cp.out _ (And.left (by assumption : Aft W _ ∧ _))).mono ?_; rintro e w4 ⟨rfl, a4⟩; try (have a5 : Aft (W.alloc (.cells #[.int .i64 0, .int .i64 0, .string ⟨#[]⟩] 37)) w4 := (Aft.refl _).drew.trans a4; obtain ⟨hbn, hfn, hzn, hzkn, HAn⟩ := aft_box a5)))
        · obtain ⟨E, hE⟩ : ∃ E, E = w4.alloc (.cells #[.int .i64 row[q].kind, .int .i64 row[q].int, .string row[q].text] 37) := ⟨_, rfl⟩
          have aE : Aft W E := by rw [hE]; exact ((Aft.refl W).drew.trans a4).alloc _
          have x0 : E.cell? ⟨w4.heap.size, 0, none⟩ = some (.int .i64 row[q].kind) := by rw [hE]; simp
          have x1 : E.cell? ⟨w4.heap.size, 1, none⟩ = some (.int .i64 row[q].int) := by rw [hE]; simp
          have y3 : E.cell? ⟨wr.heap.size, 3, none⟩ = some (.int .i64 p.low) := aE.cell_kept r3
          have y4 : E.cell? ⟨wr.heap.size, 4, none⟩ = some (.int .i64 p.high) := aE.cell_kept r4
          have HAE := Lib.hid (HABW.out.trans aE)
          have HAE0 := Lib.hid (HAW.out.trans aE)
          rw [← hE]
          clear hE aE
          cases g2 : (row[q].kind == 2)
          · have HN := Lib.hid (ext_lt (p := fun j => ∀ (hj : j < t.rules.length), badR t.cols row t.rules[j] = false) HP.out (fun _ => by rw [HBD.out]; unfold outB; rw [g2]; rfl))
            go_wp2_with fail
            go_roundw
            case rel => exact ⟨k + 1, by omega, by go_num, HAE.out, HN.out⟩
            case measure => simp [intOf]; omega
          by_cases gl : row[q].int < p.low
          · have HX := Lib.hid (show fitE t row = 102 by rw [HR.out, any_true _ _ k hlt (by rw [HBD.out]; unfold outB; rw [g2, decide_eq_true gl]; rfl)]; rfl)
            have dl : decide (row[q].int < p.low) = true := decide_eq_true gl
            go_wp2_with fail
            go_ret
            exact ⟨by rw [HX.out]; rfl, HAE0.out⟩
          have dl : decide (row[q].int < p.low) = false := decide_eq_false gl
          by_cases gh : p.high < row[q].int
          · have HX := Lib.hid (show fitE t row = 102 by rw [HR.out, any_true _ _ k hlt (by rw [HBD.out]; unfold outB; rw [g2, dl, decide_eq_true gh]; rfl)]; rfl)
            have dh : decide (p.high < row[q].int) = true := decide_eq_true gh
            go_wp2_with fail
            go_ret
            exact ⟨by rw [HX.out]; rfl, HAE0.out⟩
          · have dh : decide (p.high < row[q].int) = false := decide_eq_false gh
            have HN := Lib.hid (ext_lt (p := fun j => ∀ (hj : j < t.rules.length), badR t.cols row t.rules[j] = false) HP.out (fun _ => by rw [HBD.out]; unfold outB; rw [g2, dl, dh]; rfl))
            go_wp2_with fail
            go_roundw
            case rel => exact ⟨k + 1, by omega, by go_num, HAE.out, HN.out⟩
            case measure => simp [intOf]; omega
        · have rn : RowAt w4 W.heap.size [.int .i64 0, .int .i64 0, .string ⟨#[]⟩] := box_row (c := [.int .i64 0, .int .i64 0, .string ⟨#[]⟩]) a5
          obtain ⟨E, hE⟩ : ∃ E, E = ((w4.setCell ⟨W.heap.size, 0, none⟩ (.int .i64 row[q].kind)).setCell ⟨W.heap.size, 1, none⟩ (.int .i64 row[q].int)).setCell ⟨W.heap.size, 2, none⟩ (.string row[q].text) := ⟨_, rfl⟩
          have aE : Aft W E := by rw [hE]; exact ((HAn.out.setCell _ _ (Nat.le_refl _)).setCell _ _ (Nat.le_refl _)).setCell _ _ (Nat.le_refl _)
          have x0 : E.cell? ⟨W.heap.size, 0, none⟩ = some (.int .i64 row[q].kind) := by rw [hE]; exact (RowAt.cell (xs := [.int .i64 row[q].kind, .int .i64 row[q].int, .string row[q].text]) (((rn.set 0 _ (by simp)).set 1 _ (by simp)).set 2 _ (by simp)) (j := 0) rfl)
          have x1 : E.cell? ⟨W.heap.size, 1, none⟩ = some (.int .i64 row[q].int) := by rw [hE]; exact (RowAt.cell (xs := [.int .i64 row[q].kind, .int .i64 row[q].int, .string row[q].text]) (((rn.set 0 _ (by simp)).set 1 _ (by simp)).set 2 _ (by simp)) (j := 1) rfl)
          have y3 : E.cell? ⟨wr.heap.size, 3, none⟩ = some (.int .i64 p.low) := aE.cell_kept r3
          have y4 : E.cell? ⟨wr.heap.size, 4, none⟩ = some (.int .i64 p.high) := aE.cell_kept r4
          have HAE := Lib.hid (HABW.out.trans aE)
          have HAE0 := Lib.hid (HAW.out.trans aE)
          rw [← hE]
          clear hE aE
          cases g2 : (row[q].kind == 2)
          · have HN := Lib.hid (ext_lt (p := fun j => ∀ (hj : j < t.rules.length), badR t.cols row t.rules[j] = false) HP.out (fun _ => by rw [HBD.out]; unfold outB; rw [g2]; rfl))
            go_wp2_with fail
            go_roundw
            case rel => exact ⟨k + 1, by omega, by go_num, HAE.out, HN.out⟩
            case measure => simp [intOf]; omega
          by_cases gl : row[q].int < p.low
          · have HX := Lib.hid (show fitE t row = 102 by rw [HR.out, any_true _ _ k hlt (by rw [HBD.out]; unfold outB; rw [g2, decide_eq_true gl]; rfl)]; rfl)
            have dl : decide (row[q].int < p.low) = true := decide_eq_true gl
            go_wp2_with fail
            go_ret
            exact ⟨by rw [HX.out]; rfl, HAE0.out⟩
          have dl : decide (row[q].int < p.low) = false := decide_eq_false gl
          by_cases gh : p.high < row[q].int
          · have HX := Lib.hid (show fitE t row = 102 by rw [HR.out, any_true _ _ k hlt (by rw [HBD.out]; unfold outB; rw [g2, dl, decide_eq_true gh]; rfl)]; rfl)
            have dh : decide (p.high < row[q].int) = true := decide_eq_true gh
            go_wp2_with fail
            go_ret
            exact ⟨by rw [HX.out]; rfl, HAE0.out⟩
          · have dh : decide (p.high < row[q].int) = false := decide_eq_false gh
            have HN := Lib.hid (ext_lt (p := fun j => ∀ (hj : j < t.rules.length), badR t.cols row t.rules[j] = false) HP.out (fun _ => by rw [HBD.out]; unfold outB; rw [g2, dl, dh]; rfl))
            go_wp2_with fail
            go_roundw
            case rel => exact ⟨k + 1, by omega, by go_num, HAE.out, HN.out⟩
            case measure => simp [intOf]; omega
      · have HN := Lib.hid (ext_lt (p := fun j => ∀ (hj : j < t.rules.length), badR t.cols row t.rules[j] = false) HP.out (fun _ => by rw [HPP.out]; unfold badR; rw [show (p.kind == 3) = false by simpa using h3k]; rfl))
        go_wp2_with fail
        go_roundw
        case rel => exact ⟨k + 1, by omega, by go_num, HAB.out.alloc _, HN.out⟩
        case measure => simp [intOf]; omega
    · have HF := Lib.hid (show fitE t row = 0 by rw [HR.out, any_false _ _ fun j hj => HP.out j (by omega) hj]; rfl)
      go_wp2_with fail
      go_ret
      exact ⟨by rw [HF.out]; rfl, HA.out⟩
end Go.Proofs.YtiadkchlkdaceaaGreat

