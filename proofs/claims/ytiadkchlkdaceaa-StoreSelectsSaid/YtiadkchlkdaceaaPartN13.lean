/- Contracts of the program, part 13. -/
import Derived.Deep.Onto
import Derived.LaidEqlPtr
import Derived.OwnWalk
import Derived.Laws.AppendOwn
import Derived.ProofKit
import Derived.OpenShut
import Derived.Deep.Slices
import Derived.ChangeOld
import Derived.SizedLaws
import Derived.WalkKit
import Derived.WalkSpells
import Derived.WalkLawsBesides
import Derived.Lib.Hide
import Derived.Deep.QuietTactic
import Derived.BigQuiet
import Derived.Below
import Derived.Deep.Draws
import Derived.StillTailTactics
import Derived.Laws.Cells
import Derived.Laws.IdiomCopy
import Derived.Test.YtiadkchlkdaceaaRows
import Derived.Lib.Bytealg
import Derived.IntWalk
import Derived.ShutString
import Derived.Shelf.SlSortCmp.WholeK
import Derived.Lib.SliceRun
import Derived.Deep.AppendLies
import Derived.Deep.Upon
import Derived.OneCell
import Derived.Deep.DeepMust
import Derived.Deep.RegionLaw
import Derived.Deep.RegionHeld3
import Derived.Shelf.RegionOpen
import Derived.Sort.BigQuietIn
import Derived.RangeFuncNested
import Derived.RangeFuncBound
import Derived.RangeFuncCalls
import Derived.RangeFuncLeaves
import Derived.Shelf.Abstract
import Derived.OwnWalkIn
import Derived.TacticsInMore
import Derived.LoopNIn
import Derived.LoopIn
import Derived.Sort.QuietTacIn
import Derived.NoCompiler
import Derived.OrdersHeld
import Derived.Lib.Walk
import Derived.Test.YtiadkchlkdaceaaPartN1
import Derived.Test.YtiadkchlkdaceaaPartN2
import Derived.Test.YtiadkchlkdaceaaPartN3
import Derived.Test.YtiadkchlkdaceaaPartN4
import Derived.Test.YtiadkchlkdaceaaPartN5
import Derived.Test.YtiadkchlkdaceaaPartN6
import Derived.Test.YtiadkchlkdaceaaPartN7
import Derived.Test.YtiadkchlkdaceaaPartN8
import Derived.Test.YtiadkchlkdaceaaPartN9
import Derived.Test.YtiadkchlkdaceaaPartN10
import Derived.Test.YtiadkchlkdaceaaPartN11
import Derived.Test.YtiadkchlkdaceaaPartN12
namespace Go.Proofs.Ytiadkchlkdaceaa
open Go.RowKit Go.Deep
set_option maxRecDepth 100000
set_option linter.unusedVariables false
def sK12 : Rul := ⟨⟨#[107]⟩, 2, [⟨#[120]⟩], 0, 0, ⟨#[]⟩, ⟨#[]⟩, ⟨#[]⟩⟩
def sF12 : Rul := ⟨⟨#[102]⟩, 4, [⟨#[122]⟩], 0, 0, ⟨#[115]⟩, ⟨#[116]⟩, ⟨#[107]⟩⟩
def sT12 : Tab := ⟨⟨#[115]⟩, ⟨#[116]⟩, ⟨#[111]⟩, [⟨⟨#[120]⟩, 2, false⟩, ⟨⟨#[121]⟩, 3, true⟩, ⟨⟨#[122]⟩, 2, true⟩], [sF12, sK12]⟩
def sO12 : Objs := ⟨[⟨⟨#[115]⟩, ⟨#[111]⟩⟩], [sT12]⟩
theorem sO12_ok : checkO sO12 = true := by decide +kernel
def nul12 : Val := ⟨1, 0, ⟨#[]⟩⟩
def int12 (n : Int) : Val := ⟨2, n, ⟨#[]⟩⟩
def lay12 (a b : Int) : ROp := ⟨1, ⟨#[]⟩, ⟨#[115]⟩, ⟨#[116]⟩, [int12 a, nul12, if b = 0 then nul12 else int12 b], ⟨#[]⟩, ⟨0, 0, ⟨#[]⟩⟩⟩
def drop12 (a : Int) : ROp := ⟨2, ⟨#[]⟩, ⟨#[115]⟩, ⟨#[116]⟩, [], ⟨#[120]⟩, int12 a⟩
theorem lvRop_row {W : World} {p : Nat} {a b c d e f g h i : Value} (R : RowAt W p [a, b, c, d, e, f, g, h, i]) : (loadVar 46 ⟨p, 0, none⟩).run Try.prog W = .ok (.agg #[a, b, c, d, e, f, g, h, i]) W := by
  have e0 := R.cell (j := 0) rfl
  have e1 := R.cell (j := 1) rfl
  have e2 := R.cell (j := 2) rfl
  have e3 := R.cell (j := 3) rfl
  have e4 := R.cell (j := 4) rfl
  have e5 := R.cell (j := 5) rfl
  have e6 := R.cell (j := 6) rfl
  have e7 := R.cell (j := 7) rfl
  have e8 := R.cell (j := 8) rfl
  have h := run_lv (P := Try.prog) W 46 _ 9 p 0 Try.underlying46 rfl (by kernel_rfl) (fun j hj => by
    rw [Nat.zero_add, R.2.1 j (by simpa using hj)]
    simp; omega)
  rw [h]
  simp [List.range_succ, e0, e1, e2, e3, e4, e5, e6, e7, e8]
theorem RowAt.up12 {w : World} {b : Nat} {xs : List Value} {o : Obj} (h : RowAt w b xs) : RowAt (w.alloc o) b xs := h.aft ((Aft.refl _).alloc _)
theorem slAt_two12 {α : Type} {size : Nat} {R : World → List Value → α → Prop} {w : World} {b cap : Nat} (x y : α) (cs ds : List Value) (c : Array Value) (hb : b < w.heap.size) (hc : ∀ o, w.cell? ⟨b, o, none⟩ = c[o]?) (e : c.toList = cs ++ ds) (hf : cs.length = size) (hg : ds.length = size)
    (hR : R w cs x) (hS : R w ds y) (hcap : 2 ≤ cap) : SlAt w size R (some ⟨b, 0, none⟩) cap [x, y] :=
  ⟨hcap, by unfold Small; simp only [List.length_cons, List.length_nil]; decide, fun i hi => by
    have hi2 : i < 2 := hi
    rcases (by omega : i = 0 ∨ i = 1) with rfl | rfl
    · refine ⟨b, 0, cs, rfl, hb, hf, hR, fun j hj => ?_⟩
      rw [hc, ← Array.getElem?_toList, e]
      rw [List.getElem?_append_left (by omega)]
      simp
    · refine ⟨b, 0, ds, rfl, hb, hg, hS, fun j hj => ?_⟩
      rw [hc, ← Array.getElem?_toList, e]
      rw [List.getElem?_append_right (by omega)]
      congr 1
      omega⟩
def OneP12 (w : World) (e : Ending) (w' : World) : Prop := ∃ As caps At capt, e = .returned (.agg #[.slice As 1 caps, .slice At 1 capt]) ∧ Aft w w' ∧ SlAt w' 2 SchR As caps sO12.schemas ∧ SlAt w' 5 TabR At capt sO12.tables
set_option maxHeartbeats 8000000 in
theorem one12 (w : World) : Calls Try.prog 17 #[] w (OneP12 w) := by
  have l1 : w.heap.size < w.heap.size + 1 := by omega
  have l2 : w.heap.size < w.heap.size + 1 + 1 := by omega
  have l3 : w.heap.size < w.heap.size + 1 + 1 + 1 := by omega
  have l4 : w.heap.size < w.heap.size + 1 + 1 + 1 + 1 := by omega
  have l5 : w.heap.size < w.heap.size + 1 + 1 + 1 + 1 + 1 := by omega
  have l6 : w.heap.size < w.heap.size + 1 + 1 + 1 + 1 + 1 + 1 := by omega
  have l8 : w.heap.size < w.heap.size + 1 + 1 + 1 + 1 + 1 + 1 + 1 + 1 := by omega
  have l9 : w.heap.size < w.heap.size + 1 + 1 + 1 + 1 + 1 + 1 + 1 + 1 + 1 := by omega
  have l10 : w.heap.size < w.heap.size + 1 + 1 + 1 + 1 + 1 + 1 + 1 + 1 + 1 + 1 := by omega
  have l7 : w.heap.size < w.heap.size + 1 + 1 + 1 + 1 + 1 + 1 + 1 := by omega
  go_enter Try.func17, Try.ntmps17
  go_wp2_with fail
  refine bodyPost_ret (results_cell (v := .agg #[.slice (some ⟨w.heap.size + 1 + 1 + 1 + 1 + 1 + 1 + 1 + 1, 0, none⟩) 1 1, .slice (some ⟨w.heap.size + 1 + 1 + 1 + 1 + 1 + 1 + 1 + 1 + 1, 0, none⟩) 1 1]) rfl _ rfl ?hl) rfl ?_
  case hl => exact lvObj_row (RowAt.up12 (RowAt.up12 (RowAt.up12 (RowAt.up12 (RowAt.up12 (RowAt.up12 (RowAt.up12 (RowAt.up12 (RowAt.up12 (box_row2 (Aft.refl _)))))))))))
  refine ⟨_, _, _, _, rfl, ((((((((((Aft.refl w).alloc _).alloc _).alloc _).alloc _).alloc _).alloc _).alloc _).alloc _).alloc _).alloc _, ?s, ?t⟩
  case s => exact slAt_one _ [.string ⟨#[115]⟩, .string ⟨#[111]⟩] #[.string ⟨#[115]⟩, .string ⟨#[111]⟩] (by first | (simp; done) | (simp; omega)) (by intro o; (repeat (refine (World.cell?_alloc_past _ _ _ (by first | (simp; done) | (simp; omega))).trans ?_)); exact World.cell?_alloc_at _ _ _ _ (by simp)) rfl rfl ⟨rfl, by unfold Small; decide, by unfold Small; decide⟩ (by omega)
  case t =>
    refine slAt_one _ [.string ⟨#[115]⟩, .string ⟨#[116]⟩, .string ⟨#[111]⟩, .slice (some ⟨w.heap.size + 1 + 1 + 1 + 1 + 1, 0, none⟩) 3 3, .slice (some ⟨w.heap.size + 1 + 1 + 1 + 1 + 1 + 1, 0, none⟩) 2 2] #[.string ⟨#[115]⟩, .string ⟨#[116]⟩, .string ⟨#[111]⟩, .slice (some ⟨w.heap.size + 1 + 1 + 1 + 1 + 1, 0, none⟩) 3 3, .slice (some ⟨w.heap.size + 1 + 1 + 1 + 1 + 1 + 1, 0, none⟩) 2 2] (by first | (simp; done) | (simp; omega)) (by intro o; (repeat (refine (World.cell?_alloc_past _ _ _ (by first | (simp; done) | (simp; omega))).trans ?_)); exact World.cell?_alloc_at _ _ _ _ (by simp)) rfl rfl ⟨_, _, _, _, rfl, ?c, ?r, by unfold Small; decide, by unfold Small; decide, by unfold Small; decide⟩ (by omega)
    case c => exact slAt_box _ colC #[.string ⟨#[120]⟩, .int .i64 2, .bool false, .string ⟨#[121]⟩, .int .i64 3, .bool true, .string ⟨#[122]⟩, .int .i64 2, .bool true] (by first | (simp; done) | (simp; omega)) (by intro o; (repeat (refine (World.cell?_alloc_past _ _ _ (by first | (simp; done) | (simp; omega))).trans ?_)); exact World.cell?_alloc_at _ _ _ _ (by simp)) rfl (fun _ => rfl) (by intro x hx; refine ⟨rfl, ?_⟩; simp [sT12] at hx; rcases hx with rfl | rfl | rfl <;> (unfold Small; decide)) (by unfold Small; decide) (by decide)
    case r =>
      refine slAt_two12 _ _ [.string ⟨#[102]⟩, .int .i64 4, .slice (some ⟨w.heap.size + 1 + 1 + 1, 0, none⟩) 1 1, .int .i64 0, .int .i64 0, .string ⟨#[115]⟩, .string ⟨#[116]⟩, .string ⟨#[107]⟩] [.string ⟨#[107]⟩, .int .i64 2, .slice (some ⟨w.heap.size + 1, 0, none⟩) 1 1, .int .i64 0, .int .i64 0, .string ⟨#[]⟩, .string ⟨#[]⟩, .string ⟨#[]⟩] #[.string ⟨#[102]⟩, .int .i64 4, .slice (some ⟨w.heap.size + 1 + 1 + 1, 0, none⟩) 1 1, .int .i64 0, .int .i64 0, .string ⟨#[115]⟩, .string ⟨#[116]⟩, .string ⟨#[107]⟩, .string ⟨#[107]⟩, .int .i64 2, .slice (some ⟨w.heap.size + 1, 0, none⟩) 1 1, .int .i64 0, .int .i64 0, .string ⟨#[]⟩, .string ⟨#[]⟩, .string ⟨#[]⟩] (by first | (simp; done) | (simp; omega)) (by intro o; (repeat (refine (World.cell?_alloc_past _ _ _ (by first | (simp; done) | (simp; omega))).trans ?_)); exact World.cell?_alloc_at _ _ _ _ (by simp)) rfl rfl rfl ⟨_, _, rfl, ?c1, by unfold Small; decide, by unfold Small; decide, by unfold Small; decide, by unfold Small; decide⟩ ⟨_, _, rfl, ?c2, by unfold Small; decide, by unfold Small; decide, by unfold Small; decide, by unfold Small; decide⟩ (by omega)
      case c1 => exact slAt_one _ [.string ⟨#[122]⟩] #[.string ⟨#[122]⟩] (by first | (simp; done) | (simp; omega)) (by intro o; (repeat (refine (World.cell?_alloc_past _ _ _ (by first | (simp; done) | (simp; omega))).trans ?_)); exact World.cell?_alloc_at _ _ _ _ (by simp)) rfl rfl ⟨rfl, by unfold Small; decide⟩ (by omega)
      case c2 => exact slAt_one _ [.string ⟨#[120]⟩] #[.string ⟨#[120]⟩] (by first | (simp; done) | (simp; omega)) (by intro o; (repeat (refine (World.cell?_alloc_past _ _ _ (by first | (simp; done) | (simp; omega))).trans ?_)); exact World.cell?_alloc_at _ _ _ _ (by simp)) rfl rfl ⟨rfl, by unfold Small; decide⟩ (by omega)
theorem drop12_is (a : Int) (w : World) : Calls Try.prog 19 #[.int .i64 a] w fun e w' => e = .returned (.agg #[.int .i64 2, .string ⟨#[]⟩, .string ⟨#[115]⟩, .string ⟨#[116]⟩, .slice none 0 0, .string ⟨#[120]⟩, .int .i64 2, .int .i64 a, .string ⟨#[]⟩]) ∧ Aft w w' := by
  go_enter Try.func19, Try.ntmps19
  go_wp2_with fail
  refine bodyPost_ret (results_cell (v := .agg #[.int .i64 2, .string ⟨#[]⟩, .string ⟨#[115]⟩, .string ⟨#[116]⟩, .slice none 0 0, .string ⟨#[120]⟩, .int .i64 2, .int .i64 a, .string ⟨#[]⟩]) rfl _ rfl ?hl) rfl ?_
  case hl => exact lvRop_row (box_row2 (Aft.refl _))
  exact ⟨rfl, (Aft.refl _).alloc _⟩
theorem lay12_is (a b : Int) (w : World) : Calls Try.prog 18 #[.int .i64 a, .int .i64 b] w fun e w' => ∃ A cap, e = .returned (.agg #[.int .i64 1, .string ⟨#[]⟩, .string ⟨#[115]⟩, .string ⟨#[116]⟩, .slice A 3 cap, .string ⟨#[]⟩, .int .i64 0, .int .i64 0, .string ⟨#[]⟩]) ∧ Aft w w' ∧ SlAt w' 3 ValR A cap (lay12 a b).row ∧ ∀ b off, A = some ⟨b, off, none⟩ → w.heap.size ≤ b := by
  have l1 : w.heap.size < w.heap.size + 1 := by omega
  have l2 : w.heap.size < w.heap.size + 1 + 1 := by omega
  go_enter Try.func18, Try.ntmps18
  by_cases hb : b = 0
  · subst hb
    go_wp2_with fail
    refine bodyPost_ret (results_cell (v := .agg #[.int .i64 1, .string ⟨#[]⟩, .string ⟨#[115]⟩, .string ⟨#[116]⟩, .slice (some ⟨w.heap.size + 1 + 1 + 1, 0, none⟩) 3 3, .string ⟨#[]⟩, .int .i64 0, .int .i64 0, .string ⟨#[]⟩]) rfl _ rfl ?hl) rfl ?_
    case hl => exact lvRop_row (RowAt.up12 (RowAt.up12 (RowAt.up12 (box_row2 (Aft.refl _)))))
    refine ⟨_, _, rfl, ((((Aft.refl w).alloc _).alloc _).alloc _).alloc _, ?_, fun b off h => by injection h with h; injection h with h1 h2; omega⟩
    exact slAt_box _ cellsV #[.int .i64 2, .int .i64 a, .string ⟨#[]⟩, .int .i64 1, .int .i64 0, .string ⟨#[]⟩, .int .i64 1, .int .i64 0, .string ⟨#[]⟩] (by first | (simp; done) | (simp; omega)) (by intro o; (repeat (refine (World.cell?_alloc_past _ _ _ (by first | (simp; done) | (simp; omega))).trans ?_)); exact World.cell?_alloc_at _ _ _ _ (by simp)) (by simp [lay12, cellsV, int12, nul12]) (fun _ => rfl) (by intro x hx; refine ⟨rfl, ?_⟩; simp [lay12, int12, nul12] at hx; rcases hx with rfl | rfl <;> (unfold Small; exact (Nat.zero_le _ : 0 ≤ 140737488351232))) (by unfold Small lay12; simp only [List.length_cons, List.length_nil]; decide) (by simp [lay12])
  · have e1 : (b == 0) = false := by simpa using hb
    go_wp2_with fail
    refine bodyPost_ret (results_cell (v := .agg #[.int .i64 1, .string ⟨#[]⟩, .string ⟨#[115]⟩, .string ⟨#[116]⟩, .slice (some ⟨w.heap.size + 1 + 1 + 1, 0, none⟩) 3 3, .string ⟨#[]⟩, .int .i64 0, .int .i64 0, .string ⟨#[]⟩]) rfl _ rfl ?hl) rfl ?_
    case hl => exact lvRop_row (RowAt.up12 (RowAt.up12 (RowAt.up12 (box_row2 (Aft.refl _)))))
    refine ⟨_, _, rfl, ((((Aft.refl w).alloc _).alloc _).alloc _).alloc _, ?_, fun b off h => by injection h with h; injection h with h1 h2; omega⟩
    exact slAt_box _ cellsV #[.int .i64 2, .int .i64 a, .string ⟨#[]⟩, .int .i64 1, .int .i64 0, .string ⟨#[]⟩, .int .i64 2, .int .i64 b, .string ⟨#[]⟩] (by first | (simp; done) | (simp; omega)) (by intro o; (repeat (refine (World.cell?_alloc_past _ _ _ (by first | (simp; done) | (simp; omega))).trans ?_)); exact World.cell?_alloc_at _ _ _ _ (by simp)) (by simp [lay12, cellsV, int12, nul12, hb]) (fun _ => rfl) (by intro x hx; refine ⟨rfl, ?_⟩; simp [lay12, int12, nul12, hb] at hx; rcases hx with rfl | rfl | rfl <;> (unfold Small; exact (Nat.zero_le _ : 0 ≤ 140737488351232))) (by unfold Small lay12; simp only [List.length_cons, List.length_nil]; decide) (by simp [lay12])
end Go.Proofs.Ytiadkchlkdaceaa

namespace Go.Proofs.Ytiadkchlkdaceaa
open Go.RowKit
set_option maxRecDepth 100000
set_option linter.unusedVariables false
theorem null_form12 (c : Col) : formB c nullV = true := by simp [formB, mayV, nullV, emp_nil]
theorem turn_form12 {l m : List Col} {row : List Val} (h1 : besideB formB l row = true) : besideB formB m (turnVs l m row) = true := by
  obtain ⟨hl, hf⟩ := (besideB_iff formB l row).1 h1
  refine besideB_true _ _ _ (by rw [turnVs_len]) fun k h2 h3 => ?_
  rw [show (turnVs l m row)[k] = turn1 l row m[k] by simp [turnVs]]
  by_cases hx : colAt l m[k].name < 0
  · rw [turn1_miss hx]; exact null_form12 _
  obtain ⟨q, hq⟩ := Int.eq_ofNat_of_zero_le (show 0 ≤ colAt l m[k].name by omega)
  have hql := colAt_lt hq
  by_cases hk : l[q].kind = m[k].kind
  · rw [turn1_hit hq hql (by omega) hk]
    have := hf q hql (by omega)
    unfold formB at this ⊢
    rw [← hk]; exact this
  · rw [turn1_other hq hql hk]; exact null_form12 _
theorem putS_tabs (S : List Shf) (q : Nat) (rows : List (List Val)) : (putS S q rows).map (·.t) = S.map (·.t) := by
  unfold putS
  rw [List.map_set]
  refine List.ext_getElem? fun i => ?_
  by_cases h : i = q
  · subst h
    by_cases hl : i < S.length
    · rw [List.getElem?_set_self (by simpa using hl)]
      simp [shfN, List.getElem?_eq_getElem hl]
    · rw [List.getElem?_eq_none (by simp; omega), List.getElem?_eq_none (by simp; omega)]
  · rw [List.getElem?_set_ne (fun e => h e.symm)]
theorem putS_ok {S : List Shf} {ss : List Sch} {q : Nat} {rows : List (List Val)} (h : SOk S ss) (hf : ∀ row ∈ rows, besideB formB (shfN S q).t.cols row = true) (hl : rows.length ≤ 64) : SOk (putS S q rows) ss := by
  refine ⟨by rw [putS_tabs]; exact h.ck, fun x hx row hr => ?_, fun x hx => ?_⟩
  · unfold putS at hx
    rcases List.mem_or_eq_of_mem_set hx with hx | rfl
    · exact h.form x hx row hr
    · exact hf row hr
  · unfold putS at hx
    rcases List.mem_or_eq_of_mem_set hx with hx | rfl
    · exact h.most x hx
    · exact hl
theorem shfN_mem {S : List Shf} {q : Nat} (h : q < S.length) : shfN S q ∈ S := by rw [shfN_get h]; exact List.getElem_mem h
theorem doS_ok {S : List Shf} {ss : List Sch} (x : ROp) (h : SOk S ss) : SOk (doS S x).1 ss := by
  unfold doS
  split
  · exact h
  split
  · exact h
  rename_i hj
  have hq : (shfAt S x.schema x.table).toNat < S.length := by
    have := (idxP_range (fun y : Shf => eqS y.t.schema x.schema && eqS y.t.name x.table) S).2
    unfold shfAt at hj ⊢; omega
  obtain ⟨q, hqe⟩ : ∃ q, (shfAt S x.schema x.table).toNat = q := ⟨_, rfl⟩
  rw [hqe] at hq ⊢
  have hm := shfN_mem hq
  split
  · exact h
  split
  · split
    · exact h
    · rename_i hw
      have hw : wrongS S q x.row = 0 := by simpa using hw
      unfold wrongS at hw
      split at hw
      · rename_i h1; exact absurd hw h1
      rename_i h1
      split at hw
      · omega
      rename_i h2
      refine putS_ok h (fun row hr => ?_) (by simp; omega)
      rcases List.mem_append.1 hr with hr | hr
      · exact h.form _ hm row hr
      · rw [List.mem_singleton] at hr
        subst hr
        exact fitE_zero (by omega)
  · split
    · dsimp only
      split
      · exact h
      · exact putS_ok h (fun row hr => h.form _ hm row (List.mem_filter.1 hr).1) (Nat.le_trans (List.length_filter_le _ _) (h.most _ hm))
    · exact h
theorem loadS_ok {S : List Shf} {ss : List Sch} {o : Objs} (h : SOk S ss) (hk : checkO o = true) : SOk (loadS S o).1 o.schemas := by
  unfold loadS
  rw [if_pos hk]
  have ht : (o.tables.map (turnS S)).map (·.t) = o.tables := by rw [List.map_map]; exact (List.map_congr_left fun a _ => rfl).trans (List.map_id _)
  refine ⟨by rw [ht]; exact hk, fun x hx row hr => ?_, fun x hx => ?_⟩
  · obtain ⟨t, ht2, rfl⟩ := List.mem_map.1 hx
    unfold turnS at hr ⊢
    simp only at hr ⊢
    split at hr
    · cases hr
    · rename_i hj
      obtain ⟨r, hr2, rfl⟩ := List.mem_map.1 hr
      refine turn_form12 (h.form _ (shfN_mem ?_) r hr2)
      have := (idxP_range (fun y : Shf => eqS y.t.schema t.schema && eqS y.t.name t.name) S).2
      unfold shfAt at hj ⊢; omega
  · obtain ⟨t, ht2, rfl⟩ := List.mem_map.1 hx
    unfold turnS
    simp only
    split
    · simp
    · rename_i hj
      rw [List.length_map]
      refine h.most _ (shfN_mem ?_)
      have := (idxP_range (fun y : Shf => eqS y.t.schema t.schema && eqS y.t.name t.name) S).2
      unfold shfAt at hj ⊢; omega
theorem nil_ok : SOk [] [] := ⟨by decide +kernel, fun x hx => by (cases hx), fun x hx => by (cases hx)⟩
def aw0 : List Shf := (loadS [] sO12).1
def aw1 : List Shf := (doS aw0 (lay12 1 0)).1
def aw2 : List Shf := (doS aw1 (lay12 1 0)).1
def aw3 : List Shf := (doS aw2 (lay12 2 3)).1
def aw4 : List Shf := (doS aw3 (lay12 2 2)).1
def aw5 : List Shf := (doS aw4 (lay12 3 2)).1
def aw6 : List Shf := (doS aw5 (drop12 2)).1
def aw7 : List Shf := (doS aw6 (drop12 3)).1
theorem aw_1 : (doS aw0 (lay12 1 0)).2.2 = 0 := by decide +kernel
theorem aw_2 : (doS aw1 (lay12 1 0)).2.2 = 111 := by decide +kernel
theorem aw_3 : (doS aw2 (lay12 2 3)).2.2 = 112 := by decide +kernel
theorem aw_4 : (doS aw3 (lay12 2 2)).2.2 = 0 := by decide +kernel
theorem aw_5 : (doS aw4 (lay12 3 2)).2.2 = 0 := by decide +kernel
theorem aw_6 : (doS aw5 (drop12 2)).2.2 = 113 := by decide +kernel
theorem aw_7 : (doS aw6 (drop12 3)).2.2 = 0 := by decide +kernel
theorem aw_7l : (doS aw6 (drop12 3)).2.1.length = 1 := by decide +kernel
theorem aw_8 : (doS aw7 (drop12 2)).2.2 = 0 := by decide +kernel
end Go.Proofs.Ytiadkchlkdaceaa

namespace Go.Proofs.Ytiadkchlkdaceaa
open Go.RowKit Go.Deep
set_option maxRecDepth 100000
set_option linter.unusedVariables false
theorem aft_kb {P : Nat → Prop} {w V V' : World} (a : Aft w V) (k : Kb P V V') (h : ∀ g, P g → w.heap.size ≤ g) : Aft w V' :=
  ⟨k.os.trans a.os, k.tape.trans a.tape, k.output.trans a.output, Nat.le_trans a.size k.size, fun g hg => (k.block g (Nat.lt_of_lt_of_le hg a.size) (fun hp => by have := h g hp; omega)).trans (a.block g hg)⟩
/-- a store of our own, made behind w -/
def AwI (w W : World) (S : List Shf) : Prop := ∃ hl L, storeS L = S ∧ StoIn W w.heap.size w.heap.size hl L ∧ (∀ y ∈ L, SmT y.x.t) ∧ Aft w W
theorem AwI.aft {w W W' : World} {S : List Shf} (h : AwI w W S) (a : Aft W W') : AwI w W' S := by
  obtain ⟨hl, L, q1, q2, q3, q4⟩ := h
  exact ⟨hl, L, q1, q2.aft a, q3, q4.trans a⟩
/-- what an operation tells, and the store behind it -/
def AwP (w : World) (r : List Shf × List (List Val) × Int) (e : Ending) (w' : World) : Prop :=
  ∃ A c, e = .returned (.tuple #[.slice A r.2.1.length c, .int .i64 r.2.2]) ∧ AwI w w' r.1
theorem do_aw {w V0 V : World} {S : List Shf} {ss : List Sch} (x : ROp) (A : Option Addr) (cap : Nat) (hI : AwI w V0 S) (a0 : Aft V0 V) (ok : SOk S ss) (hrow : SlAt V 3 ValR A cap x.row) (hA : ∀ b off, A = some ⟨b, off, none⟩ → V0.heap.size ≤ b) (hc : Small x.col.size) (hv : Small x.v.text.size) :
    Calls Try.prog 9 #[.pointer (some ⟨w.heap.size, 0, none⟩), .agg #[.int .i64 x.kind, .string x.role, .string x.schema, .string x.table, .slice A x.row.length cap, .string x.col, .int .i64 x.v.kind, .int .i64 x.v.int, .string x.v.text]] V (AwP w (doS S x)) := by
  obtain ⟨hl, L, rfl, h2, h3, h4⟩ := hI
  refine (do12 w.heap.size w.heap.size hl L ss x A cap V (h2.aft a0) ok h3 hrow (fun b off e _ hb => by
    have h5 := hA b off e
    have h6 := (h2.lt b hb).2
    omega) hc hv).mono fun e w' ⟨L', h, R, q1, q2, q3, q4, q5, q6, q7, q8, q9, q10⟩ => ⟨h.a, h.c, q3, hl, L', q1, q5, fun y hy => ?_, aft_kb (h4.trans a0) q4 fun g hg => (h2.lt g hg).1⟩
  have : y.x ∈ L.map OShf.x := by rw [← q6]; exact List.mem_map_of_mem hy
  obtain ⟨y', hy', e⟩ := List.mem_map.1 this
  rw [← e]
  exact h3 y' hy'
theorem load_aw {w V0 V : World} {S : List Shf} {ss : List Sch} (o : Objs) (As : Option Addr) (caps : Nat) (At : Option Addr) (capt : Nat) (hI : AwI w V0 S) (a0 : Aft V0 V) (ok : SOk S ss) (hsch : SlAt V 2 SchR As caps o.schemas) (htab : SlAt V 5 TabR At capt o.tables) :
    Calls Try.prog 7 #[.pointer (some ⟨w.heap.size, 0, none⟩), .agg #[.slice As o.schemas.length caps, .slice At o.tables.length capt]] V fun e w' => e = .returned (.int .i64 (loadS S o).2) ∧ AwI w w' (loadS S o).1 := by
  obtain ⟨hl, L, rfl, h2, h3, h4⟩ := hI
  refine (load12 w.heap.size w.heap.size hl L ss o As caps At capt V (h2.aft a0) ok h3 hsch htab).mono fun e w' ⟨hl', L', q1, q2, q3, q4, q5⟩ => ⟨q2, hl', L', q1, q4, fun y hy => ?_, aft_kb (h4.trans a0) q3 fun g hg => by rw [hg]; exact Nat.le_refl _⟩
  have hm : y.s ∈ (loadS (storeS L) o).1 := by rw [← q1]; exact List.mem_map_of_mem hy
  unfold loadS at hm
  split at hm
  · obtain ⟨t, ht, e⟩ := List.mem_map.1 hm
    have e1 : t = y.x.t := congrArg Shf.t e
    rw [← e1]
    exact (sm_tabs htab).2 t ht
  · obtain ⟨y2, hy2, e⟩ := List.mem_map.1 hm
    have e1 : y2.x.t = y.x.t := congrArg Shf.t e
    rw [← e1]
    exact h3 y2 hy2
theorem new_aw (w : World) : Calls Try.prog 6 #[] w fun e w' => e = .returned (.pointer (some ⟨w.heap.size, 0, none⟩)) ∧ AwI w w' [] :=
  (new12 w).mono fun e w' ⟨q1, q2, q3⟩ => ⟨q1, _, [], rfl, q3, (fun y hy => by cases hy), q2⟩
set_option maxHeartbeats 8000000 in
theorem awake12 (w : World) : Calls Try.prog 8 #[] w fun e w' => e = .returned (.bool true) ∧ Aft w w' := by
  have k0 : SOk aw0 sO12.schemas := loadS_ok nil_ok sO12_ok
  have k1 : SOk aw1 sO12.schemas := doS_ok _ k0
  have k2 : SOk aw2 sO12.schemas := doS_ok _ k1
  have k3 : SOk aw3 sO12.schemas := doS_ok _ k2
  have k4 : SOk aw4 sO12.schemas := doS_ok _ k3
  have k5 : SOk aw5 sO12.schemas := doS_ok _ k4
  have k6 : SOk aw6 sO12.schemas := doS_ok _ k5
  have k7 : SOk aw7 sO12.schemas := doS_ok _ k6
  have hz : Small (ByteArray.mk #[]).size := by unfold Small; decide
  have hx : Small (ByteArray.mk #[120]).size := by unfold Small; decide
  have K0 := Lib.hid k0
  have K1 := Lib.hid k1
  have K2 := Lib.hid k2
  have K3 := Lib.hid k3
  have K4 := Lib.hid k4
  have K5 := Lib.hid k5
  have K6 := Lib.hid k6
  have K7 := Lib.hid k7
  have HZ := Lib.hid hz
  have HX := Lib.hid hx
  clear k0 k1 k2 k3 k4 k5 k6 k7 hz hx
  go_enter Try.func8, Try.ntmps8
  go_wp2_with fail
  refine (new_aw w).mono ?_
  rintro e w0 ⟨rfl, hI⟩
  have I0 := Lib.hid hI
  clear hI
  go_wp2_with fail
  refine (one12 w0).mono ?_
  rintro e w1 ⟨As, caps, At, capt, rfl, a1, h1, h2⟩
  have A1 := Lib.hid a1
  have L1 := Lib.hid (load_aw sO12 As caps At capt I0.out a1 nil_ok h1 h2)
  clear a1 h1 h2
  go_wp2_with fail
  refine L1.out.mono ?_
  rintro e v0 ⟨rfl, hI⟩
  have J0 := Lib.hid (show AwI w v0 aw0 from hI)
  rw [show (loadS [] sO12).2 = 0 from by decide +kernel]
  clear hI L1
  go_wp2_with fail
  refine (lay12_is 1 0 v0).mono ?_
  rintro e w1 ⟨A, cap, rfl, a1, h1, h2⟩
  have D1 := Lib.hid (do_aw (lay12 1 0) A cap J0.out a1 K0.out h1 h2 HZ.out HZ.out)
  clear a1 h1 h2
  go_wp2_with fail
  refine D1.out.mono ?_
  rintro e v1 ⟨A1, c1, rfl, hI⟩
  have J1 := Lib.hid (show AwI w v1 aw1 from hI)
  rw [aw_1]
  clear hI D1
  go_wp2_with fail
  refine (lay12_is 1 0 v1).mono ?_
  rintro e w1 ⟨A, cap, rfl, a1, h1, h2⟩
  have D1 := Lib.hid (do_aw (lay12 1 0) A cap J1.out a1 K1.out h1 h2 HZ.out HZ.out)
  clear a1 h1 h2
  go_wp2_with fail
  refine D1.out.mono ?_
  rintro e v2 ⟨A2, c2, rfl, hI⟩
  have J2 := Lib.hid (show AwI w v2 aw2 from hI)
  rw [aw_2]
  clear hI D1
  go_wp2_with fail
  refine (lay12_is 2 3 v2).mono ?_
  rintro e w1 ⟨A, cap, rfl, a1, h1, h2⟩
  have D1 := Lib.hid (do_aw (lay12 2 3) A cap J2.out a1 K2.out h1 h2 HZ.out HZ.out)
  clear a1 h1 h2
  go_wp2_with fail
  refine D1.out.mono ?_
  rintro e v3 ⟨A3, c3, rfl, hI⟩
  have J3 := Lib.hid (show AwI w v3 aw3 from hI)
  rw [aw_3]
  clear hI D1
  go_wp2_with fail
  refine (lay12_is 2 2 v3).mono ?_
  rintro e w1 ⟨A, cap, rfl, a1, h1, h2⟩
  have D1 := Lib.hid (do_aw (lay12 2 2) A cap J3.out a1 K3.out h1 h2 HZ.out HZ.out)
  clear a1 h1 h2
  go_wp2_with fail
  refine D1.out.mono ?_
  rintro e v4 ⟨A4, c4, rfl, hI⟩
  have J4 := Lib.hid (show AwI w v4 aw4 from hI)
  rw [aw_4]
  clear hI D1
  go_wp2_with fail
  refine (lay12_is 3 2 v4).mono ?_
  rintro e w1 ⟨A, cap, rfl, a1, h1, h2⟩
  have D1 := Lib.hid (do_aw (lay12 3 2) A cap J4.out a1 K4.out h1 h2 HZ.out HZ.out)
  clear a1 h1 h2
  go_wp2_with fail
  refine D1.out.mono ?_
  rintro e v5 ⟨A5, c5, rfl, hI⟩
  have J5 := Lib.hid (show AwI w v5 aw5 from hI)
  rw [aw_5]
  clear hI D1
  go_wp2_with fail
  refine (drop12_is 2 v5).mono ?_
  rintro e w1 ⟨rfl, a1⟩
  have D1 := Lib.hid (do_aw (drop12 2) none 0 J5.out a1 K5.out slAt_nil (fun b off h => by cases h) HX.out HZ.out)
  clear a1
  go_wp2_with fail
  refine D1.out.mono ?_
  rintro e v6 ⟨A6, c6, rfl, hI⟩
  have J6 := Lib.hid (show AwI w v6 aw6 from hI)
  rw [aw_6]
  clear hI D1
  go_wp2_with fail
  refine (drop12_is 3 v6).mono ?_
  rintro e w1 ⟨rfl, a1⟩
  have D1 := Lib.hid (do_aw (drop12 3) none 0 J6.out a1 K6.out slAt_nil (fun b off h => by cases h) HX.out HZ.out)
  clear a1
  go_wp2_with fail
  refine D1.out.mono ?_
  rintro e v7 ⟨A7, c7, rfl, hI⟩
  have J7 := Lib.hid (show AwI w v7 aw7 from hI)
  rw [aw_7]
  rw [aw_7l]
  clear hI D1
  go_wp2_with fail
  refine (drop12_is 2 v7).mono ?_
  rintro e w1 ⟨rfl, a1⟩
  have D1 := Lib.hid (do_aw (drop12 2) none 0 J7.out a1 K7.out slAt_nil (fun b off h => by cases h) HX.out HZ.out)
  clear a1
  go_wp2_with fail
  refine D1.out.mono ?_
  rintro e v8 ⟨A8, c8, rfl, hI⟩
  have J8 := Lib.hid (show AwI w v8 (doS aw7 (drop12 2)).1 from hI)
  rw [aw_8]
  clear hI D1
  go_wp2_with fail
  go_ret
  obtain ⟨hl, L, q1, q2, q3, q4⟩ := J8.out
  exact ⟨rfl, q4⟩
end Go.Proofs.Ytiadkchlkdaceaa

namespace Go.Proofs.Ytiadkchlkdaceaa
open Go.RowKit
set_option maxRecDepth 100000
set_option linter.unusedVariables false
set_option maxHeartbeats 8000000 in
theorem large12 (o : Objs) (As : Option Addr) (caps : Nat) (At : Option Addr) (capt : Nat) (w : World) (hsch : SlAt w 2 SchR As caps o.schemas) (htab : SlAt w 5 TabR At capt o.tables) :
    Calls Try.prog 5 #[.agg #[.int .i64 0, .int .i64 0, .slice As o.schemas.length caps, .slice At o.tables.length capt, .slice none 0 0, .slice none 0 0, .slice none 0 0]] w (LargeP w o) := by
  have hlen := hsch.len
  have hlen2 := htab.len
  obtain ⟨W, hW⟩ : ∃ W, W = (w.alloc (.cells #[.int .i64 0, .int .i64 0, .slice As o.schemas.length caps, .slice At o.tables.length capt, .slice none 0 0, .slice none 0 0, .slice none 0 0] 34)).alloc (.cells #[.slice As o.schemas.length caps, .slice At o.tables.length capt] 25) := ⟨_, rfl⟩
  have aW : Aft w W := by rw [hW]; exact ((Aft.refl w).alloc _).alloc _
  have r0 : RowAt W (w.heap.size) [.int .i64 0, .int .i64 0, .slice As o.schemas.length caps, .slice At o.tables.length capt, .slice none 0 0, .slice none 0 0, .slice none 0 0] := by rw [hW]; exact (box_row2 (Aft.refl _)).aft ((Aft.refl _).alloc _)
  have r1 : RowAt W (w.heap.size + 1) [.slice As o.schemas.length caps, .slice At o.tables.length capt] := by
    rw [hW]
    have := box_row2 (w := w.alloc (.cells #[.int .i64 0, .int .i64 0, .slice As o.schemas.length caps, .slice At o.tables.length capt, .slice none 0 0, .slice none 0 0, .slice none 0 0] 34)) (c := [.slice As o.schemas.length caps, .slice At o.tables.length capt]) (t := 25) (Aft.refl _)
    simpa using this
  have HR := Lib.hid r1
  have HAW := Lib.hid aW
  have HT := Lib.hid htab
  clear hsch htab r0 r1 aW
  go_enter Try.func5, Try.ntmps5
  go_wp2_with fail
  rw [← hW]
  go_loopw [4, 5] (fun n i wr => ∃ (k : Nat) (z : Int), k ≤ o.tables.length ∧ n = .int .i64 z ∧ i = .int .i64 k ∧ 0 ≤ z ∧ z ≤ 140737488351232 ∧ (z ≤ 3000 → (o.schemas.length ≤ 3000 ∧ o.tables.length ≤ 3000) ∧ ModTs (o.tables.take k)) ∧ Aft W wr) (fun _ i _ => o.tables.length - (intOf i).toNat)
  case atStart => exact ⟨0, _, Nat.zero_le _, rfl, rfl, by omega, by omega, fun h => ⟨⟨by omega, by omega⟩, fun t ht => by simp at ht⟩, Aft.refl _⟩
  case round =>
    clear hW
    obtain ⟨k, z, hk, rfl, rfl, hz1, hz2, hmod, ha⟩ := hrel
    have HA := Lib.hid ha
    have p0 := HR.out.aft ha
    have x1 := p0.cell (j := 1) rfl
    have xz := p0.1
    have HM := Lib.hid hmod
    clear hmod p0
    by_cases hlt : k < o.tables.length
    · by_cases hz0 : z ≤ 3000
      · obtain ⟨b, off, B2, capB2, B3, capB3, rfl, hb, c0, c1, c2, c3, c4, hcols, hrules, hss⟩ := tab_at (tabs_aft (HAW.out.trans ha) HT.out) hlt
        obtain ⟨t, ht0⟩ : ∃ t, o.tables[k] = t := ⟨_, rfl⟩
        rw [ht0] at c0 c1 c2 c3 c4 hcols hrules
        have HTT := Lib.hid ht0
        clear ht0 hss ha
        have hl2 := hcols.len
        have hl3 := hrules.len
        go_wp2_with fail
        go_loop [4, 7] (fun n i => ∃ (m : Nat) (z : Int), m ≤ t.rules.length ∧ n = .int .i64 z ∧ i = .int .i64 m ∧ 0 ≤ z ∧ z ≤ 140737488351232 ∧ (z ≤ 3000 → (t.cols.length ≤ 3000 ∧ t.rules.length ≤ 3000) ∧ ∀ r ∈ t.rules.take m, r.cols.length ≤ 3000)) (fun _ i => t.rules.length - (intOf i).toNat)
        case atStart => exact ⟨0, _, Nat.zero_le _, rfl, rfl, by omega, by omega, fun h => ⟨⟨by omega, by omega⟩, fun r hr => by simp at hr⟩⟩
        case round =>
          obtain ⟨m, z2, hm, rfl, rfl, hy1, hy2, hmod⟩ := hrel
          have HN := Lib.hid hmod
          clear hmod
          by_cases hlt2 : m < t.rules.length
          · by_cases hz2 : z2 ≤ 3000
            · obtain ⟨b3, off3, D2, capD2, rfl, hb3, e0, e1, e2, e3, e4, e5, e6, e7, hcs, hss3⟩ := rul_at hrules hlt2
              have hl4 := hcs.len
              go_wp2_with fail
              go_round
              case rel => exact ⟨m + 1, _, by omega, rfl, by go_num, by omega, by omega, fun h => ⟨(HN.out hz2).1, mem_snoc_all (P := fun r : Rul => r.cols.length ≤ 3000) hlt2 (HN.out hz2).2 (by omega)⟩⟩
              case measure => simp [intOf]; omega
            · go_wp2_with fail
              go_roundw
              case rel => exact ⟨k + 1, _, by omega, rfl, by go_num, hy1, hy2, fun h => absurd h hz2, HA.out.alloc _⟩
              case measure => simp [intOf]; omega
          · go_wp2_with fail
            go_roundw
            case rel =>
              refine ⟨k + 1, _, by omega, rfl, by go_num, hy1, hy2, fun h => ⟨(HM.out hz0).1, ?_⟩, HA.out.alloc _⟩
              have hn := HN.out h
              rw [List.take_of_length_le (by omega)] at hn
              exact (HM.out hz0).2.snoc hlt (by rw [HTT.out]; exact hn.1.1) (by rw [HTT.out]; exact hn.1.2) (by rw [HTT.out]; exact hn.2)
            case measure => simp [intOf]; omega
      · clear ha
        go_wp2_with fail
        go_ret
        exact ⟨_, rfl, fun h => absurd h (by first | (simp; done) | (simp; omega)), HAW.out.trans HA.out⟩
    · clear ha
      go_wp2_with fail
      go_ret
      refine ⟨_, rfl, fun h => ?_, HAW.out.trans HA.out⟩
      have h3 : z ≤ 3000 := by simpa using h
      obtain ⟨h1, h2⟩ := HM.out h3
      rw [List.take_of_length_le (by omega)] at h2
      exact ⟨by omega, by omega, fun t ht => ⟨by have := (h2 t ht).1; omega, by have := (h2 t ht).2.1; omega, fun r hr => by have := (h2 t ht).2.2 r hr; omega⟩⟩
end Go.Proofs.Ytiadkchlkdaceaa

namespace Go.Proofs.Ytiadkchlkdaceaa
open Go.ChangeShapes Go.WideShapes Go.ChangeAt Go.RowKit
set_option maxRecDepth 100000
set_option linter.unusedVariables false
section
variable {H : Type} {enc : TypeId × Value → H} {w : World}
theorem rd_str {cs : List Value} (h : Rd enc Try.prog w 9 cs) : ∃ x, StrR w cs x := by
  obtain ⟨s, e, z⟩ := h.string Try.underlying9
  exact ⟨s, e, z⟩
theorem rd_strs {cs : List Value} (h : Rd enc Try.prog w 28 cs) : ∃ l, SlOf w 1 StrR cs l :=
  Rd.slice Try.underlying28 (by kernel_rfl : Try.prog.cellsOf 9 = 1) (by decide) (of_decide_eq_true (by kernel_rfl)) (fun _ h => rd_str h) h
theorem rd_col {cs : List Value} (h : Rd enc Try.prog w 82 cs) : ∃ x, ColR w cs x := by
  obtain ⟨hl, _⟩ := h.struct Try.underlying82
  rw [show Try.prog.cellsOf 82 = 3 by kernel_rfl] at hl
  match cs, hl with
  | [c0, c1, c2], _ =>
    have f0 := h.field Try.underlying82 0 9 0 1 rfl (by kernel_rfl)
    have f1 := h.field Try.underlying82 1 42 1 1 rfl (by kernel_rfl)
    have f2 := h.field Try.underlying82 2 4 2 1 rfl (by kernel_rfl)
    clear h
    obtain ⟨x0, e0, z0⟩ := f0.string Try.underlying9
    obtain ⟨x1, e1, _⟩ := f1.int Try.underlying42
    obtain ⟨x2, e2⟩ := f2.bool Try.underlying4
    simp at e0 e1 e2
    subst e0 e1 e2
    exact ⟨⟨x0, x1, x2⟩, rfl, z0⟩
theorem rd_cols {cs : List Value} (h : Rd enc Try.prog w 52 cs) : ∃ l, SlOf w 3 ColR cs l :=
  Rd.slice Try.underlying52 (by kernel_rfl : Try.prog.cellsOf 82 = 3) (by decide) (of_decide_eq_true (by kernel_rfl)) (fun _ h => rd_col h) h
theorem rd_rule {cs : List Value} (h : Rd enc Try.prog w 64 cs) : ∃ x, RulR w cs x := by
  obtain ⟨hl, _⟩ := h.struct Try.underlying64
  rw [show Try.prog.cellsOf 64 = 8 by kernel_rfl] at hl
  match cs, hl with
  | [c0, c1, c2, c3, c4, c5, c6, c7], _ =>
    have f0 := h.field Try.underlying64 0 9 0 1 rfl (by kernel_rfl)
    have f1 := h.field Try.underlying64 1 62 1 1 rfl (by kernel_rfl)
    have f2 := h.field Try.underlying64 2 28 2 1 rfl (by kernel_rfl)
    have f3 := h.field Try.underlying64 3 3 3 1 rfl (by kernel_rfl)
    have f4 := h.field Try.underlying64 4 3 4 1 rfl (by kernel_rfl)
    have f5 := h.field Try.underlying64 5 9 5 1 rfl (by kernel_rfl)
    have f6 := h.field Try.underlying64 6 9 6 1 rfl (by kernel_rfl)
    have f7 := h.field Try.underlying64 7 9 7 1 rfl (by kernel_rfl)
    clear h
    obtain ⟨x0, e0, z0⟩ := f0.string Try.underlying9
    obtain ⟨x1, e1, _⟩ := f1.int Try.underlying62
    obtain ⟨x2, A2, cap2, e2, z2⟩ := rd_strs f2
    obtain ⟨x3, e3, _⟩ := f3.int Try.underlying3
    obtain ⟨x4, e4, _⟩ := f4.int Try.underlying3
    obtain ⟨x5, e5, z5⟩ := f5.string Try.underlying9
    obtain ⟨x6, e6, z6⟩ := f6.string Try.underlying9
    obtain ⟨x7, e7, z7⟩ := f7.string Try.underlying9
    simp at e0 e1 e2 e3 e4 e5 e6 e7
    subst e0 e1 e2 e3 e4 e5 e6 e7
    exact ⟨⟨x0, x1, x2, x3, x4, x5, x6, x7⟩, A2, cap2, rfl, z2, z0, z5, z6, z7⟩
theorem rd_rules {cs : List Value} (h : Rd enc Try.prog w 59 cs) : ∃ l, SlOf w 8 RulR cs l :=
  Rd.slice Try.underlying59 (by kernel_rfl : Try.prog.cellsOf 64 = 8) (by decide) (of_decide_eq_true (by kernel_rfl)) (fun _ h => rd_rule h) h
theorem rd_tab {cs : List Value} (h : Rd enc Try.prog w 61 cs) : ∃ x, TabR w cs x := by
  obtain ⟨hl, _⟩ := h.struct Try.underlying61
  rw [show Try.prog.cellsOf 61 = 5 by kernel_rfl] at hl
  match cs, hl with
  | [c0, c1, c2, c3, c4], _ =>
    have f0 := h.field Try.underlying61 0 9 0 1 rfl (by kernel_rfl)
    have f1 := h.field Try.underlying61 1 9 1 1 rfl (by kernel_rfl)
    have f2 := h.field Try.underlying61 2 9 2 1 rfl (by kernel_rfl)
    have f3 := h.field Try.underlying61 3 52 3 1 rfl (by kernel_rfl)
    have f4 := h.field Try.underlying61 4 59 4 1 rfl (by kernel_rfl)
    clear h
    obtain ⟨x0, e0, z0⟩ := f0.string Try.underlying9
    obtain ⟨x1, e1, z1⟩ := f1.string Try.underlying9
    obtain ⟨x2, e2, z2⟩ := f2.string Try.underlying9
    obtain ⟨x3, A3, cap3, e3, z3⟩ := rd_cols f3
    obtain ⟨x4, A4, cap4, e4, z4⟩ := rd_rules f4
    simp at e0 e1 e2 e3 e4
    subst e0 e1 e2 e3 e4
    exact ⟨⟨x0, x1, x2, x3, x4⟩, A3, cap3, A4, cap4, rfl, z3, z4, z0, z1, z2⟩
theorem rd_tabs {cs : List Value} (h : Rd enc Try.prog w 23 cs) : ∃ l, SlOf w 5 TabR cs l :=
  Rd.slice Try.underlying23 (by kernel_rfl : Try.prog.cellsOf 61 = 5) (by decide) (of_decide_eq_true (by kernel_rfl)) (fun _ h => rd_tab h) h
theorem rd_sch {cs : List Value} (h : Rd enc Try.prog w 91 cs) : ∃ x, SchR w cs x := by
  obtain ⟨hl, _⟩ := h.struct Try.underlying91
  rw [show Try.prog.cellsOf 91 = 2 by kernel_rfl] at hl
  match cs, hl with
  | [c0, c1], _ =>
    have f0 := h.field Try.underlying91 0 9 0 1 rfl (by kernel_rfl)
    have f1 := h.field Try.underlying91 1 9 1 1 rfl (by kernel_rfl)
    clear h
    obtain ⟨x0, e0, z0⟩ := f0.string Try.underlying9
    obtain ⟨x1, e1, z1⟩ := f1.string Try.underlying9
    simp at e0 e1
    subst e0 e1
    exact ⟨⟨x0, x1⟩, rfl, z0, z1⟩
theorem rd_schs {cs : List Value} (h : Rd enc Try.prog w 22 cs) : ∃ l, SlOf w 2 SchR cs l :=
  Rd.slice Try.underlying22 (by kernel_rfl : Try.prog.cellsOf 91 = 2) (by decide) (of_decide_eq_true (by kernel_rfl)) (fun _ h => rd_sch h) h
theorem rd_objs {cs : List Value} (h : Rd enc Try.prog w 25 cs) : ∃ x, ObjR w cs x := by
  obtain ⟨hl, _⟩ := h.struct Try.underlying25
  rw [show Try.prog.cellsOf 25 = 2 by kernel_rfl] at hl
  match cs, hl with
  | [c0, c1], _ =>
    have f0 := h.field Try.underlying25 0 22 0 1 rfl (by kernel_rfl)
    have f1 := h.field Try.underlying25 1 23 1 1 rfl (by kernel_rfl)
    clear h
    obtain ⟨x0, A0, cap0, e0, z0⟩ := rd_schs f0
    obtain ⟨x1, A1, cap1, e1, z1⟩ := rd_tabs f1
    simp at e0 e1
    subst e0 e1
    exact ⟨⟨x0, x1⟩, A0, cap0, A1, cap1, rfl, z0, z1⟩
theorem own_knob : ownKnob Try.prog.godebug = none := by kernel_rfl
theorem laid_out : laidOutB Try.prog = true := by kernel_rfl
end
end Go.Proofs.Ytiadkchlkdaceaa

namespace Go.Proofs.Ytiadkchlkdaceaa
open Go.ChangeShapes Go.WideShapes Go.ChangeAt Go.RowKit
set_option maxRecDepth 100000
set_option linter.unusedVariables false
section
variable {H : Type} {enc : TypeId × Value → H} {w : World}
theorem rd_val {cs : List Value} (h : Rd enc Try.prog w 44 cs) : ∃ x, ValR w cs x := by
  obtain ⟨hl, _⟩ := h.struct Try.underlying44
  rw [show Try.prog.cellsOf 44 = 3 by kernel_rfl] at hl
  match cs, hl with
  | [c0, c1, c2], _ =>
    have f0 := h.field Try.underlying44 0 42 0 1 rfl (by kernel_rfl)
    have f1 := h.field Try.underlying44 1 3 1 1 rfl (by kernel_rfl)
    have f2 := h.field Try.underlying44 2 9 2 1 rfl (by kernel_rfl)
    clear h
    obtain ⟨x0, e0, _⟩ := f0.int Try.underlying42
    obtain ⟨x1, e1, _⟩ := f1.int Try.underlying3
    obtain ⟨x2, e2, z2⟩ := f2.string Try.underlying9
    simp at e0 e1 e2
    subst e0 e1 e2
    exact ⟨⟨x0, x1, x2⟩, rfl, z2⟩
theorem rd_vals {cs : List Value} (h : Rd enc Try.prog w 41 cs) : ∃ l, SlOf w 3 ValR cs l :=
  Rd.slice Try.underlying41 (by kernel_rfl : Try.prog.cellsOf 44 = 3) (by decide) (of_decide_eq_true (by kernel_rfl)) (fun _ h => rd_val h) h
end
end Go.Proofs.Ytiadkchlkdaceaa

namespace Go.Proofs.Ytiadkchlkdaceaa
open Go.ChangeShapes Go.WideShapes Go.ChangeAt Go.RowKit
set_option maxRecDepth 100000
set_option linter.unusedVariables false
def RopR (w : World) (cs : List Value) (x : ROp) : Prop := ∃ A cap, cs = [.int .i64 x.kind, .string x.role, .string x.schema, .string x.table, .slice A x.row.length cap, .string x.col, .int .i64 x.v.kind, .int .i64 x.v.int, .string x.v.text] ∧
  SlAt w 3 ValR A cap x.row ∧ Small x.col.size ∧ Small x.v.text.size ∧ Small x.schema.size ∧ Small x.table.size ∧ (Lit.int .i64 x.kind).wf = true
section
variable {H : Type} {enc : TypeId × Value → H} {w : World}
theorem rd_rop {cs : List Value} (h : Rd enc Try.prog w 46 cs) : ∃ x, RopR w cs x := by
  obtain ⟨hl, _⟩ := h.struct Try.underlying46
  rw [show Try.prog.cellsOf 46 = 9 by kernel_rfl] at hl
  match cs, hl with
  | [c0, c1, c2, c3, c4, c5, c6, c7, c8], _ =>
    have f0 := h.field Try.underlying46 0 40 0 1 rfl (by kernel_rfl)
    have f1 := h.field Try.underlying46 1 9 1 1 rfl (by kernel_rfl)
    have f2 := h.field Try.underlying46 2 9 2 1 rfl (by kernel_rfl)
    have f3 := h.field Try.underlying46 3 9 3 1 rfl (by kernel_rfl)
    have f4 := h.field Try.underlying46 4 41 4 1 rfl (by kernel_rfl)
    have f5 := h.field Try.underlying46 5 9 5 1 rfl (by kernel_rfl)
    have f6 := h.field Try.underlying46 6 44 6 3 rfl (by kernel_rfl)
    clear h
    obtain ⟨x0, e0, z0⟩ := f0.int Try.underlying40
    obtain ⟨x1, e1, z1⟩ := rd_str f1
    obtain ⟨x2, e2, z2⟩ := rd_str f2
    obtain ⟨x3, e3, z3⟩ := rd_str f3
    obtain ⟨x4, A, cap, e4, z4⟩ := rd_vals f4
    obtain ⟨x5, e5, z5⟩ := rd_str f5
    obtain ⟨x6, e6, z6⟩ := rd_val f6
    simp at e0 e1 e2 e3 e4 e5 e6
    obtain ⟨e6, e7, e8⟩ := e6
    subst e0 e1 e2 e3 e4 e5 e6 e7 e8
    exact ⟨⟨x0, x1, x2, x3, x4, x5, x6⟩, A, cap, rfl, z4, z5, z6, z2, z3, z0⟩
end
end Go.Proofs.Ytiadkchlkdaceaa

