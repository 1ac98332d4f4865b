/- Contracts of the program, part 10. -/
import Derived.Shelf.RegionOpen
import Derived.Sort.BigQuietIn
import Derived.Deep.Onto
import Derived.LaidEqlPtr
import Derived.OwnWalk
import Derived.Laws.AppendOwn
import Derived.ProofKit
import Derived.OpenShut
import Derived.Deep.Slices
import Derived.ChangeOld
import Derived.SizedLaws
import Derived.WalkKit
import Derived.WalkSpells
import Derived.WalkLawsBesides
import Derived.Lib.Hide
import Derived.Deep.QuietTactic
import Derived.BigQuiet
import Derived.Below
import Derived.Deep.Draws
import Derived.StillTailTactics
import Derived.Laws.Cells
import Derived.Laws.IdiomCopy
import Derived.Test.YtiadkchlkdaceaaGreatRows
import Derived.Lib.Bytealg
import Derived.IntWalk
import Derived.ShutString
import Derived.Shelf.SlSortCmp.WholeK
import Derived.Lib.SliceRun
import Derived.Deep.AppendLies
import Derived.Deep.Upon
import Derived.OneCell
import Derived.Deep.DeepMust
import Derived.Deep.RegionLaw
import Derived.Deep.RegionHeld3
import Derived.RangeFuncNested
import Derived.RangeFuncBound
import Derived.RangeFuncCalls
import Derived.RangeFuncLeaves
import Derived.Shelf.Abstract
import Derived.OwnWalkIn
import Derived.TacticsInMore
import Derived.LoopNIn
import Derived.LoopIn
import Derived.Sort.QuietTacIn
import Derived.NoCompiler
import Derived.OrdersHeld
import Derived.Lib.Walk
import Derived.Test.YtiadkchlkdaceaaGreatPartR1
import Derived.Test.YtiadkchlkdaceaaGreatPartR2
import Derived.Test.YtiadkchlkdaceaaGreatPartR3
import Derived.Test.YtiadkchlkdaceaaGreatPartR4
import Derived.Test.YtiadkchlkdaceaaGreatPartR5
import Derived.Test.YtiadkchlkdaceaaGreatPartR6
import Derived.Test.YtiadkchlkdaceaaGreatPartR7
import Derived.Test.YtiadkchlkdaceaaGreatPartR8
import Derived.Test.YtiadkchlkdaceaaGreatPartR9
namespace Go.Proofs.YtiadkchlkdaceaaGreat
open Go.RowKit Go.Deep Go.Shelf
set_option maxRecDepth 100000
set_option linter.unusedVariables false
theorem neqPtr_same (w : World) (p : Nat) : (binOp .neq 80 (.pointer (some ⟨p, 0, none⟩)) (.pointer (some ⟨p, 0, none⟩))).run Tryz.prog w = .ok (.bool false) w := by
  have h := eqPtr_same w p
  simp only [binOp] at h ⊢
  revert h
  cases he : (Op.equal 80 (.pointer (some ⟨p, 0, none⟩)) (.pointer (some ⟨p, 0, none⟩))).run Tryz.prog w <;> intro h <;> simp_all [Result.andThen]
theorem neqPtr_other {w : World} {p q : Nat} (hne : ¬ p = q) (hp : ∃ cur t, w.heap[p]? = some (.cells cur t (0, 0))) (hq : ∃ cur t, w.heap[q]? = some (.cells cur t (0, 0))) : (binOp .neq 80 (.pointer (some ⟨p, 0, none⟩)) (.pointer (some ⟨q, 0, none⟩))).run Tryz.prog w = .ok (.bool true) w := by
  have h := eqPtr_other hne hp hq
  simp only [binOp] at h ⊢
  revert h
  cases he : (Op.equal 80 (.pointer (some ⟨p, 0, none⟩)) (.pointer (some ⟨q, 0, none⟩))).run Tryz.prog w <;> intro h <;> simp_all [Result.andThen]
/-- the mark of a loop over a function -/
def markD (D : Nat) : Deferred := { target := .collected D, args := #[] }
/-- the marks' blocks -/
def Marks (w : World) (n : Nat) (Ds : List Nat) : Prop := Ds.Nodup ∧ ∀ D ∈ Ds, n ≤ D ∧ w.heap[D]? = some (.deferred (some []))
theorem Marks.lt {w : World} {n : Nat} {Ds : List Nat} (h : Marks w n Ds) : ∀ D ∈ Ds, D < w.heap.size := fun D hD => (Array.getElem?_eq_some_iff.1 (h.2 D hD).2).1
theorem Marks.kb {P : Nat → Prop} {w w' : World} {n : Nat} {Ds : List Nat} (h : Marks w n Ds) (k : Kb P w w') (hP : ∀ g, n ≤ g → ¬ P g) : Marks w' n Ds :=
  ⟨h.1, fun D hD => ⟨(h.2 D hD).1, (k.block D (h.lt D hD) (hP D (h.2 D hD).1)).trans (h.2 D hD).2⟩⟩
theorem Marks.aft {w w' : World} {n : Nat} {Ds : List Nat} (h : Marks w n Ds) (a : Aft w w') : Marks w' n Ds := h.kb (P := fun _ => False) (Kb.of_aft a) fun _ _ h => h
theorem Marks.cons {w : World} {n D : Nat} {Ds : List Nat} (h : Marks w n Ds) (hn : n ≤ D) (hD : w.heap[D]? = some (.deferred (some []))) (hne : D ∉ Ds) : Marks w n (D :: Ds) :=
  ⟨List.nodup_cons.2 ⟨hne, h.1⟩, fun E hE => by
    rcases List.mem_cons.1 hE with rfl | hE
    · exact ⟨hn, hD⟩
    · exact h.2 E hE⟩
def offM (w : World) (Ds : List Nat) : World := Ds.foldl (fun w D => w.putObj D (.deferred none)) w
theorem offM_kb {n : Nat} : ∀ (Ds : List Nat) (w : World), (∀ D ∈ Ds, n ≤ D) → Kb (fun g => n ≤ g) w (offM w Ds)
  | [], w, _ => Kb.refl _ _
  | D :: Ds, w, h => ((Kb.put (W := w) (D := D) (o := .deferred none)).mono fun g _ e => by have e : g = D := e; have := h D (by simp); show n ≤ g; omega).trans (offM_kb Ds _ fun E hE => h E (by simp [hE]))
/-- all marks are taken -/
theorem leaves_marks {F : Fence} {n m : Nat} {P : Program} {fn : Func} {tmps : Array Value} {R : Ending → World → Prop} : ∀ (Ds : List Nat) (w : World), Marks w m Ds → LeavesInM F n P fn tmps R [] .returning (offM w Ds) → LeavesInM F n P fn tmps R (Ds.map markD) .returning w
  | [], w, _, h => h
  | D :: Ds, w, hm, h => by
    refine ⟨by simp, .inl ⟨D, _, rfl, run_takeDeferred (hm.2 D (by simp)).2, ?_⟩⟩
    refine leaves_marks (m := m) Ds _ ⟨(List.nodup_cons.1 hm.1).2, fun E hE => ⟨(hm.2 E (by simp [hE])).1, ?_⟩⟩ h
    exact (World.putObj_heap_other (fun e => (List.nodup_cons.1 hm.1).1 (by rw [← e]; exact hE))).trans (hm.2 E (by simp [hE])).2
theorem blk_keep {w w' : World} {p : Nat} (h : ∃ cur t, w.heap[p]? = some (.cells cur t (0, 0))) (a : Aft w w') : ∃ cur t, w'.heap[p]? = some (.cells cur t (0, 0)) := by
  obtain ⟨cur, t, e⟩ := h
  exact ⟨cur, t, (a.block p (Array.getElem?_eq_some_iff.1 e).1).trans e⟩
def hitH (S : List Shf) (q : Nat) (left gone : List (List Val)) (i : Nat) : Bool := (shfN S i).t.rules.any (needR S q left gone (shfN S i) (if i = q then left else (shfN S i).rows))
theorem heldS_no {S : List Shf} {q : Nat} {left gone : List (List Val)} (h : ∀ i, i < S.length → hitH S q left gone i = false) : heldS S q left gone = false := by
  rw [Bool.eq_false_iff]
  intro h2
  obtain ⟨i, hi, h3⟩ := List.any_eq_true.1 h2
  have h4 := h i (List.mem_range.1 hi)
  unfold hitH at h4
  rw [h4] at h3; cases h3
theorem heldS_yes {S : List Shf} {q : Nat} {left gone : List (List Val)} {i : Nat} (hi : i < S.length) (h : hitH S q left gone i = true) : heldS S q left gone = true :=
  List.any_eq_true.2 ⟨i, List.mem_range.2 hi, h⟩
theorem need_any12 (S : List Shf) (q : Nat) (left gone : List (List Val)) (y : Shf) (all : List (List Val)) (rs : List Rul) : rs.any (needR S q left gone y all) = (ofK 4 rs).any (needR S q left gone y all) := by
  unfold ofK
  rw [List.any_filter]
  congr 1
  funext r
  unfold needR
  cases r.kind == 4 <;> rfl
theorem lvBool {W : World} {b : Nat} {v : Bool} (h : W.cell? ⟨b, 0, none⟩ = some (.bool v)) : (loadVar 4 ⟨b, 0, none⟩).run Tryz.prog W = .ok (.bool v) W := by
  go_simp
set_option maxHeartbeats 64000000 in
theorem held12 (s : Nat) (ps : List Nat) (S : List Shf) (ss : List Sch) (q : Nat) (left gone : List (List Val)) (Rl : Option Addr) (cl : Nat) (Rg : Option Addr) (cg : Nat) (w : World) (h : StoIs w s ps S) (sok : SOk S ss) (hqp : q < ps.length) (hql : q < S.length) (hL : SlAt w 1 RowsR Rl cl left) (hG : SlAt w 1 RowsR Rg cg gone)
    (hfl : ∀ r ∈ left, besideB formB S[q].t.cols r = true) (hfg : ∀ r ∈ gone, besideB formB S[q].t.cols r = true) :
    Calls Tryz.prog 71 #[.pointer (some ⟨s, 0, none⟩), .pointer (some ⟨ps[q], 0, none⟩), .slice Rl left.length cl, .slice Rg gone.length cg] w fun e w' => e = .returned (.bool (heldS S q left gone)) ∧ Aft w w' := by
  have hxm : S[q] ∈ S := List.getElem_mem hql
  have hsn := shfN_get hql
  have hlp : ps.length ≤ 64 := by have := h.len; have := sok.good.nt; simp at this; omega
  obtain ⟨A, cap, hrs, hps⟩ := h.ex
  obtain ⟨px, hpx⟩ : ∃ p, ps[q] = p := ⟨_, rfl⟩
  obtain ⟨x, hx⟩ : ∃ x, S[q] = x := ⟨_, rfl⟩
  have hxi := h.each q hqp hql
  rw [hx] at hxm hsn hfl hfg hxi
  rw [hpx] at hxi ⊢
  have HSN := Lib.hid hsn
  have HST := Lib.hid h
  have HXM := Lib.hid hxm
  have HXI := Lib.hid hxi
  have HOK := Lib.hid sok
  have HLL := Lib.hid hL
  have HGG := Lib.hid hG
  have HFL := Lib.hid hfl
  have HFG := Lib.hid hfg
  have HPX := Lib.hid hpx
  have HXE := Lib.hid hx
  have HRS := Lib.hid hrs
  have HPS := Lib.hid hps
  have HLN := Lib.hid h.len
  have m0 := hrs.cell (j := 0) rfl
  have mz := hrs.1
  have mz1 : s < w.heap.size + 1 := by omega
  have mz2 : s < w.heap.size + 1 + 1 := by omega
  have mz3 : s < w.heap.size + 1 + 1 + 1 := by omega
  have mz4 : s < w.heap.size + 1 + 1 + 1 + 1 := by omega
  have hlen1 := hL.len
  have hlen2 := hG.len
  clear h sok hxm hsn hpx hx hxi hL hG hfl hfg hrs hps
  refine (callsIn_wide (n := 8)).1 ?_
  refine callsIn_of_wp_marks Tryz.func71 rfl trivial ?_ rfl
  simp only [Tryz.ntmps71, List.size_toArray, List.length_cons, List.length_nil, Nat.reduceAdd, Nat.reduceSub, Array.replicate_succ, Array.replicate_zero, List.push_toArray, List.append_toArray, List.nil_append, List.cons_append]
  refine wpIn_wide.2 ?_
  go_wp2_with fail
  obtain ⟨W, hW⟩ : ∃ W, W = (((((w.alloc (.cells #[.pointer (some ⟨s, 0, none⟩)] 23)).alloc (.cells #[.pointer (some ⟨px, 0, none⟩)] 80)).alloc (.cells #[.slice Rl left.length cl] 47)).alloc (.cells #[.slice Rg gone.length cg] 47)).alloc (.cells #[.bool false] 4)) := ⟨_, rfl⟩
  have aW : Aft w W := by rw [hW]; exact (((((Aft.refl w).alloc _).alloc _).alloc _).alloc _).alloc _
  have zW := Lib.hid (show W.heap.size = w.heap.size + 5 by rw [hW]; simp)
  have k0 : RowAt W (w.heap.size) [.pointer (some ⟨s, 0, none⟩)] := by
    rw [hW]
    have := (box_row2 (w := w) (c := [.pointer (some ⟨s, 0, none⟩)]) (t := 23) (Aft.refl _)).aft (((((Aft.refl _).alloc (.cells #[.pointer (some ⟨px, 0, none⟩)] 80)).alloc (.cells #[.slice Rl left.length cl] 47)).alloc (.cells #[.slice Rg gone.length cg] 47)).alloc (.cells #[.bool false] 4))
    simpa using this
  have k1 : RowAt W (w.heap.size + 1) [.pointer (some ⟨px, 0, none⟩)] := by
    rw [hW]
    have := (box_row2 (w := (w.alloc (.cells #[.pointer (some ⟨s, 0, none⟩)] 23))) (c := [.pointer (some ⟨px, 0, none⟩)]) (t := 80) (Aft.refl _)).aft ((((Aft.refl _).alloc (.cells #[.slice Rl left.length cl] 47)).alloc (.cells #[.slice Rg gone.length cg] 47)).alloc (.cells #[.bool false] 4))
    simpa using this
  have k2 : RowAt W (w.heap.size + 1 + 1) [.slice Rl left.length cl] := by
    rw [hW]
    have := (box_row2 (w := ((w.alloc (.cells #[.pointer (some ⟨s, 0, none⟩)] 23)).alloc (.cells #[.pointer (some ⟨px, 0, none⟩)] 80))) (c := [.slice Rl left.length cl]) (t := 47) (Aft.refl _)).aft (((Aft.refl _).alloc (.cells #[.slice Rg gone.length cg] 47)).alloc (.cells #[.bool false] 4))
    simpa using this
  have k3 : RowAt W (w.heap.size + 1 + 1 + 1) [.slice Rg gone.length cg] := by
    rw [hW]
    have := (box_row2 (w := (((w.alloc (.cells #[.pointer (some ⟨s, 0, none⟩)] 23)).alloc (.cells #[.pointer (some ⟨px, 0, none⟩)] 80)).alloc (.cells #[.slice Rl left.length cl] 47))) (c := [.slice Rg gone.length cg]) (t := 47) (Aft.refl _)).aft ((Aft.refl _).alloc (.cells #[.bool false] 4))
    simpa using this
  have k4 : RowAt W (w.heap.size + 1 + 1 + 1 + 1) [.bool false] := by
    rw [hW]
    have := (box_row2 (w := ((((w.alloc (.cells #[.pointer (some ⟨s, 0, none⟩)] 23)).alloc (.cells #[.pointer (some ⟨px, 0, none⟩)] 80)).alloc (.cells #[.slice Rl left.length cl] 47)).alloc (.cells #[.slice Rg gone.length cg] 47))) (c := [.bool false]) (t := 4) (Aft.refl _)).aft (Aft.refl _)
    simpa using this
  have KF := Lib.hid (show ∀ V, Aft W V → (V.cell? ⟨w.heap.size, 0, none⟩ = some (.pointer (some ⟨s, 0, none⟩)) ∧ V.cell? ⟨w.heap.size + 1, 0, none⟩ = some (.pointer (some ⟨px, 0, none⟩)) ∧ V.cell? ⟨w.heap.size + 1 + 1, 0, none⟩ = some (.slice Rl left.length cl) ∧ V.cell? ⟨w.heap.size + 1 + 1 + 1, 0, none⟩ = some (.slice Rg gone.length cg) ∧ V.cell? ⟨w.heap.size + 1 + 1 + 1 + 1, 0, none⟩ = some (.bool false) ∧ V.frozen? ⟨w.heap.size + 1 + 1 + 1 + 1, 0, none⟩ = false) ∧ (w.heap.size < V.heap.size ∧ w.heap.size + 1 < V.heap.size ∧ w.heap.size + 1 + 1 < V.heap.size ∧ w.heap.size + 1 + 1 + 1 < V.heap.size ∧ w.heap.size + 1 + 1 + 1 + 1 < V.heap.size) from fun V a =>
    ⟨⟨(k0.aft a).cell (j := 0) rfl, (k1.aft a).cell (j := 0) rfl, (k2.aft a).cell (j := 0) rfl, (k3.aft a).cell (j := 0) rfl, (k4.aft a).cell (j := 0) rfl, (k4.aft a).2.2 0 (by simp)⟩, ⟨(k0.aft a).1, (k1.aft a).1, (k2.aft a).1, (k3.aft a).1, (k4.aft a).1⟩⟩)
  obtain ⟨⟨c0, c1, c2, c3, c4, c5⟩, ⟨z0, z1, z2, z3, z4⟩⟩ := KF.out W (Aft.refl W)
  have HAW := Lib.hid aW
  have s0 := (HRS.out.aft aW).cell (j := 0) rfl
  have sz := (HRS.out.aft aW).1
  rw [← hW]
  clear hW k0 k1 k2 k3 k4 aW m0 mz mz1 mz2 mz3 mz4
  refine wp_loop (fun a' w' => ∃ (k : Nat) (Ds : List Nat), (k ≤ ps.length ∧ Aft W w' ∧ Marks w' W.heap.size Ds ∧ ∀ i, i < k → hitH S q left gone i = false) ∧ ∃ u10 u11 u12 u13 u14 u16 u17 u18 u25 u26 u27 u28 u29 u30 u31 u32 u33 u34 u35 u36 u37 u38 u39 u40 u41 u42 u43 u44 u45 u46 u47 u48 u49 u50 u51 u52 u53 u54 u55 u56 u57 u58 u59 u60 u61 u62 u63 u64 u65 u66 u67 u68 u69 u70 u71 u72 u73 u74 u75 u76 u77 u78 u79 : Value, a' = ⟨#[.pointer (some ⟨s, 0, none⟩), .pointer (some ⟨px, 0, none⟩), .slice Rl left.length cl, .slice Rg gone.length cg, .pointer (some ⟨w.heap.size, 0, none⟩), .pointer (some ⟨w.heap.size + 1, 0, none⟩), .pointer (some ⟨w.heap.size + 1 + 1, 0, none⟩), .pointer (some ⟨w.heap.size + 1 + 1 + 1, 0, none⟩), .pointer (some ⟨w.heap.size + 1 + 1 + 1 + 1, 0, none⟩), undef, u10, u11, u12, u13, u14, undef, u16, u17, u18, .pointer (some ⟨s, 0, none⟩), .pointer (some ⟨s, 0, none⟩), .pointer (some ⟨s, 0, none⟩), .slice A ps.length cap, .int .i64 ps.length, .int .i64 k, u25, u26, u27, u28, u29, u30, u31, u32, u33, u34, u35, u36, u37, u38, u39, u40, u41, u42, u43, u44, u45, u46, u47, u48, u49, u50, u51, u52, u53, u54, u55, u56, u57, u58, u59, u60, u61, u62, u63, u64, u65, u66, u67, u68, u69, u70, u71, u72, u73, u74, u75, u76, u77, u78, u79], Ds.map markD⟩) (fun a' _ => ps.length - (intOf (a'.tmps.getD 24 undef)).toNat) ⟨0, [], ⟨Nat.zero_le _, Aft.refl _, ⟨List.nodup_nil, fun D h => by cases h⟩, fun i h => absurd h (Nat.not_lt_zero i)⟩, undef, undef, undef, undef, undef, undef, undef, undef, undef, undef, undef, undef, undef, undef, undef, undef, undef, undef, undef, undef, undef, undef, undef, undef, undef, undef, undef, undef, undef, undef, undef, undef, undef, undef, undef, undef, undef, undef, undef, undef, undef, undef, undef, undef, undef, undef, undef, undef, undef, undef, undef, undef, undef, undef, undef, undef, undef, undef, undef, undef, undef, undef, undef, rfl⟩ ?_
  rintro _ wr ⟨k, Ds, ⟨hk, ha, hm, hp⟩, u10, u11, u12, u13, u14, u16, u17, u18, u25, u26, u27, u28, u29, u30, u31, u32, u33, u34, u35, u36, u37, u38, u39, u40, u41, u42, u43, u44, u45, u46, u47, u48, u49, u50, u51, u52, u53, u54, u55, u56, u57, u58, u59, u60, u61, u62, u63, u64, u65, u66, u67, u68, u69, u70, u71, u72, u73, u74, u75, u76, u77, u78, u79, rfl⟩
  have HA := Lib.hid ha
  have HM := Lib.hid hm
  have HP := Lib.hid hp
  clear hm hp c0 c1 c2 c3 c4 c5 z0 z1 z2 z3 z4 s0 sz
  obtain ⟨⟨c0, c1, c2, c3, c4, c5⟩, ⟨z0, z1, z2, z3, z4⟩⟩ := KF.out wr ha
  by_cases hlt : k < ps.length
  case neg =>
    have hkk : k = ps.length := by omega
    have HN := Lib.hid (show heldS S q left gone = false from heldS_no fun i hi => HP.out i (by have := HLN.out; omega))
    have HFI := Lib.hid (show (Marks (wr.setCell ⟨w.heap.size + 1 + 1 + 1 + 1, 0, none⟩ (.bool false)) W.heap.size Ds) ∧ (offM (wr.setCell ⟨w.heap.size + 1 + 1 + 1 + 1, 0, none⟩ (.bool false)) Ds).cell? ⟨w.heap.size + 1 + 1 + 1 + 1, 0, none⟩ = some (.bool false) ∧ Aft w (offM (wr.setCell ⟨w.heap.size + 1 + 1 + 1 + 1, 0, none⟩ (.bool false)) Ds) from by
      have ks := Kb.set wr (w.heap.size + 1 + 1 + 1 + 1) 0 (.bool false)
      have hm2 := HM.out.kb ks (fun g hg e => by have e : g = w.heap.size + 1 + 1 + 1 + 1 := e; have := zW.out; omega)
      have ko := offM_kb (n := W.heap.size) Ds (wr.setCell ⟨w.heap.size + 1 + 1 + 1 + 1, 0, none⟩ (.bool false)) (fun D hD => (HM.out.2 D hD).1)
      refine ⟨hm2, ?_, ?_⟩
      · exact ko.cell (World.cell?_setCell_same' _ _ _ (by rw [c4]; rfl)) (fun e => by have e : W.heap.size ≤ w.heap.size + 1 + 1 + 1 + 1 := e; have := zW.out; omega)
      · exact Kb.to_aft (P := fun g => w.heap.size ≤ g) ((ks.mono fun g _ e => by have e : g = w.heap.size + 1 + 1 + 1 + 1 := e; show w.heap.size ≤ g; omega).trans (ko.mono fun g _ e => by have e : W.heap.size ≤ g := e; have := zW.out; show w.heap.size ≤ g; omega)) (HAW.out.trans HA.out) (fun k hk e => by have e : w.heap.size ≤ k := e; omega))
    subst hkk
    clear ha
    go_wp2_with fail
    refine leaves_marks Ds _ HFI.out.1 ⟨_, results_cell (v := .bool false) rfl _ rfl (lvBool HFI.out.2.1), ?_⟩
    rw [HN.out]
    exact ⟨rfl, HFI.out.2.2⟩
  have hkS : k < S.length := by have := HLN.out; omega
  obtain ⟨b, off, rfl, hb, d0⟩ := ptr_at (ptrs_aft (HAW.out.trans HA.out) HPS.out) hlt
  obtain ⟨B1, v1, B2, v2, B3, v3, hy⟩ := HST.out.each k hlt hkS
  have hym : S[k] ∈ S := List.getElem_mem hkS
  have hpp : ps[k] = px ↔ k = q := by
    rw [← HPX.out]
    exact ⟨fun e => (List.getElem_inj HST.out.nd).1 e, fun e => by subst e; rfl⟩
  have hys := shfN_get hkS
  have HYE := Lib.hid (show k = q → S[k] = x from fun e => by subst e; exact HXE.out)
  obtain ⟨py, hpy⟩ : ∃ p, ps[k] = p := ⟨_, rfl⟩
  obtain ⟨y, hye⟩ : ∃ y, S[k] = y := ⟨_, rfl⟩
  rw [hye] at hy hym hys HYE
  rw [hpy] at hy d0 hpp
  have HY := Lib.hid hy
  have HYM := Lib.hid hym
  have HPP := Lib.hid hpp
  have HHI := Lib.hid (show hitH S q left gone k = (ofK 4 y.t.rules).any (needR S q left gone y (if k = q then left else y.rows)) by unfold hitH; rw [hys, need_any12])
  have y5 := (hy.row.aft (HAW.out.trans HA.out)).cell (j := 5) rfl
  have yz := (hy.row.aft (HAW.out.trans HA.out)).1
  have l1 : wr.heap.size < wr.heap.size + 1 := by omega
  have l2 : wr.heap.size < wr.heap.size + 1 + 1 := by omega
  have l3 : py < wr.heap.size + 1 := by omega
  have HBY := Lib.hid (hy.aft (HAW.out.trans HA.out)).hb
  have HBX : Hid (∃ cur t, wr.heap[px]? = some (.cells cur t (0, 0))) := Lib.hid (by obtain ⟨_, _, _, _, _, _, hh⟩ := HXI.out; exact (hh.aft (HAW.out.trans HA.out)).hb)
  clear hy hym hpp hys hpy hye ha
  obtain ⟨Y0, hY0⟩ : ∃ Y0, Y0 = (wr.alloc (.cells #[.pointer (some ⟨py, 0, none⟩)] 80)).alloc (.cells #[.slice B3 y.rows.length v3] 47) := ⟨_, rfl⟩
  have a0 : Aft wr Y0 := by rw [hY0]; exact ((Aft.refl wr).alloc _).alloc _
  have r0 : RowAt Y0 wr.heap.size [.pointer (some ⟨py, 0, none⟩)] := by rw [hY0]; exact (box_row2 (c := [.pointer (some ⟨py, 0, none⟩)]) (Aft.refl _)).aft ((Aft.refl _).alloc _)
  have r1 : RowAt Y0 (wr.heap.size + 1) [.slice B3 y.rows.length v3] := by
    rw [hY0]
    have := box_row2 (w := wr.alloc (.cells #[.pointer (some ⟨py, 0, none⟩)] 80)) (c := [.slice B3 y.rows.length v3]) (t := 47) (Aft.refl _)
    simpa using this
  by_cases hkq : k = q
  · subst hkq
    have hpe := HPP.out.2 rfl
    subst hpe
    have hpq := fun W' => eqPtr_same W' py
    obtain ⟨Y, hYY⟩ : ∃ Y, Y = (wr.alloc (.cells #[.pointer (some ⟨py, 0, none⟩)] 80)).alloc (.cells #[.slice Rl left.length cl] 47) := ⟨_, rfl⟩
    have HAY := Lib.hid (show Aft wr Y by rw [hYY]; exact ((Aft.refl wr).alloc _).alloc _)
    have R0 := Lib.hid (show RowAt Y wr.heap.size [.pointer (some ⟨py, 0, none⟩)] by rw [hYY]; exact (box_row2 (c := [.pointer (some ⟨py, 0, none⟩)]) (Aft.refl _)).aft ((Aft.refl _).alloc _))
    obtain ⟨all, hall⟩ : ∃ l, left = l := ⟨_, rfl⟩
    have R1 := Lib.hid (show RowAt Y (wr.heap.size + 1) [.slice Rl all.length cl] by
      rw [hYY, ← hall]
      have := box_row2 (w := wr.alloc (.cells #[.pointer (some ⟨py, 0, none⟩)] 80)) (c := [.slice Rl left.length cl]) (t := 47) (Aft.refl _)
      simpa using this)
    have HALL := Lib.hid (show (if k = k then left else y.rows) = all by rw [if_pos rfl, hall])
    have HSA := Lib.hid (show SlAt w 1 RowsR Rl cl all by rw [← hall]; exact HLL.out)
    have HFA := Lib.hid (show ∀ r ∈ all, besideB formB y.t.cols r = true by rw [← hall, HYE.out rfl]; exact HFL.out)
    clear hall a0 r0 r1 hY0
    go_wp2_with fail
    rw [← hYY]
    clear hYY c0 c1 c2 c3 c4 c5 z0 z1 z2 z3 z4
    refine (rules12 py 4 Y).mono ?_
    rintro e X ⟨rfl, hX⟩
    have aX : Aft Y X := by rw [hX]; exact ((Aft.refl _).alloc _).alloc _
    have q1 : X.cell? ⟨Y.heap.size, 0, none⟩ = some (.pointer (some ⟨py, 0, none⟩)) := by
      rw [hX]
      refine (Aft.cell_kept ((Aft.refl _).alloc _) (?_ : (Y.alloc (.cells #[.pointer (some ⟨py, 0, none⟩)] 80)).cell? ⟨Y.heap.size, 0, none⟩ = _))
      exact World.cell?_alloc_at _ _ _ _ (by simp)
    have q2 : X.cell? ⟨Y.heap.size + 1, 0, none⟩ = some (.int .i64 4) := by rw [hX]; exact World.cell?_alloc_at _ _ _ _ (by simp)
    have QX := Lib.hid (And.intro q1 q2)
    have HAX := Lib.hid (HAY.out.trans aX)
    have HAXW := Lib.hid (HA.out.trans (HAY.out.trans aX))
    have R0X := Lib.hid (R0.out.aft aX)
    have R1X := Lib.hid (R1.out.aft aX)
    clear hX q1 q2 aX
    obtain ⟨⟨c0, c1, c2, c3, c4, c5⟩, ⟨z0, z1, z2, z3, z4⟩⟩ := KF.out X HAXW.out
    have HMX := Lib.hid (HM.out.aft HAX.out)
    go_wp2_with fail
    refine range_rules (HAW.out.trans HAXW.out) HY.out QX.out.1 QX.out.2 rfl rfl
      (fun pre W' => Aft X W' ∧ ∀ u ∈ pre, needR S k left gone y all (RPx.r u) = false)
      (HitX w X y 4 (needR S k left gone y all) (w.heap.size + 1 + 1 + 1 + 1) (.bool true))
      (OwnFrom.and own_aftFrom (ownFrom_pure _ _)) (own_hit z4)
      ⟨Aft.refl _, fun y hy => by cases hy⟩
      (fun pre W V' h a => ⟨h.1.trans a, h.2⟩) (fun pre W h => h.1) ?F
      ?assign ?body ?done ?stop
    case assign =>
      intro l pre u W' K hi hK
      dsimp only [RPx.enc, RP.enc]
      have lw := Nat.lt_succ_self W'.heap.size
      gi_wp2
      obtain ⟨V', hV⟩ : ∃ V', V' = W'.alloc (.cells u.1.row.toArray 108) := ⟨_, rfl⟩
      have aV : Aft W' V' := by rw [hV]; exact (Aft.refl W').alloc _
      have rV : RowAt V' W'.heap.size u.1.row := by rw [hV]; exact box_row2 (Aft.refl _)
      unfold RP.row at hV
      rw [← hV]
      clear hV
      obtain ⟨Bx, hBx⟩ : ∃ Bx, Bx = W'.heap.size := ⟨_, rfl⟩
      rw [← hBx] at rV ⊢
      exact hK _ _ aV rV
    case body =>
      rintro l pre u Bx W' ⟨ha, hall⟩ hrow
      unfold RP.row at hrow
      obtain ⟨q2, hq2⟩ := HOK.out.far HYM.out u.2.2.1 (by simpa using u.2.2.2)
      have hq2l := shfAt_lt hq2
      have hq2p : q2 < ps.length := by have := HLN.out; omega
      have hsn2 := shfN_get hq2l
      have hgd2 : ps.getD q2 0 = ps[q2] := by rw [List.getD_eq_getElem?_getD, List.getElem?_eq_getElem hq2p]; rfl
      obtain ⟨kn, hkn⟩ : ∃ k, keyOf S[q2].t u.1.r.key = k := ⟨_, rfl⟩
      have N1 := Lib.hid (named12 s ps S u.1.r (.slice u.1.a u.1.r.cols.length u.1.c) q2 W' (HST.out.aft (HAW.out.trans (HAXW.out.trans ha))) hq2)
      rw [hsn2, hgd2, hkn] at N1
      have HNR := Lib.hid (show needR S k left gone y all (RPx.r u) = (decide (q2 = k) && all.any (needS x y k left gone u.1.r)) from by
        show needR S k left gone y all u.1.r = _
        unfold needR
        rw [u.2.2.2, hq2, HSN.out]
        simp only [Bool.true_and, Int.ofNat_inj])
      have HKN := Lib.hid (show OkN S[q2].t.cols kn by rw [← hkn]; exact HOK.out.keyOf (List.getElem_mem hq2l) _)
      have HKX := Lib.hid (show q2 = k → keyOf x.t u.1.r.key = kn from fun e => by subst e; rw [← HXE.out]; exact hkn)
      have HKO := Lib.hid (show q2 = k → OkN x.t.cols kn from fun e => by subst e; rw [← HXE.out]; exact HKN.out)
      have HB2 : Hid (∃ cur t, w.heap[ps[q2]]? = some (.cells cur t (0, 0))) := Lib.hid (by obtain ⟨_, _, _, _, _, _, hh⟩ := HST.out.each q2 hq2p hq2l; exact hh.hb)
      have HBXw : Hid (∃ cur t, w.heap[py]? = some (.cells cur t (0, 0))) := Lib.hid (by obtain ⟨_, _, _, _, _, _, hh⟩ := HXI.out; exact hh.hb)
      have hp2q : ps[q2] = py ↔ q2 = k := by
        rw [← HPX.out]
        exact ⟨fun e => (List.getElem_inj HST.out.nd).1 e, fun e => by subst e; rfl⟩
      obtain ⟨p2, hp2⟩ : ∃ p2, ps[q2] = p2 := ⟨_, rfl⟩
      rw [hp2] at N1 HB2 hp2q
      have HP2 := Lib.hid hp2q
      have HAx := Lib.hid ha
      have HAL := Lib.hid hall
      have HRO := Lib.hid hrow
      clear c0 c1 c2 c3 c4 c5 z0 z1 z2 z3 z4
      obtain ⟨⟨c0, c1, c2, c3, c4, c5⟩, ⟨z0, z1, z2, z3, z4⟩⟩ := KF.out W' (HAXW.out.trans ha)
      have t0 := hrow.cell (j := 0) rfl
      have t1 := hrow.cell (j := 1) rfl
      have t2 := hrow.cell (j := 2) rfl
      have t3 := hrow.cell (j := 3) rfl
      have t4 := hrow.cell (j := 4) rfl
      have t5 := hrow.cell (j := 5) rfl
      have t6 := hrow.cell (j := 6) rfl
      have t7 := hrow.cell (j := 7) rfl
      have tz := hrow.1
      clear ha hall hrow hq2 hsn2 hgd2 hkn hp2 hp2q
      gi_wp2
      refine ⟨trivial, (CallsIn.inRound l (callsIn_wide.2 N1.out)).mono ?_⟩
      rintro e w2 ⟨K2, k2, rfl, a2, hks⟩
      have HA2 := Lib.hid a2
      have HAw2 := Lib.hid (HAW.out.trans (HAXW.out.trans (HAx.out.trans a2)))
      have HKS := Lib.hid hks
      have HRO2 := Lib.hid (HRO.out.aft a2)
      have R02 := Lib.hid (R0X.out.aft (HAx.out.trans a2))
      have R12 := Lib.hid (R1X.out.aft (HAx.out.trans a2))
      clear c0 c1 c2 c3 c4 c5 z0 z1 z2 z3 z4 t0 t1 t2 t3 t4 t5 t6 t7 tz N1 hks
      obtain ⟨⟨c0, c1, c2, c3, c4, c5⟩, ⟨z0, z1, z2, z3, z4⟩⟩ := KF.out w2 (HAXW.out.trans (HAx.out.trans a2))
      have y10 := R02.out.cell (j := 0) rfl
      have y11 := R12.out.cell (j := 0) rfl
      have y10z := R02.out.1
      have y11z := R12.out.1
      clear a2
      by_cases hqq : q2 = k
      case neg =>
        have hn1 : ¬ p2 = py := fun e => hqq (HP2.out.1 e)
        have hpn := neqPtr_other hn1 (blk_keep HB2.out HAw2.out) (blk_keep HBXw.out HAw2.out)
        have HNF := Lib.hid (show needR S k left gone y all (RPx.r u) = false by rw [HNR.out, decide_eq_false hqq]; rfl)
        clear hqq hn1
        gi_wp2
        exact ⟨(keepsO_aft HA2.out).from _, ⟨Kc.of_aft HA2.out, Below.mono HA2.out HAx.out.size⟩, HAx.out.trans HA2.out, all_snoc HAL.out HNF.out⟩
      have hpe := HP2.out.2 hqq
      have HNR2 := Lib.hid (show needR S k left gone y all (RPx.r u) = all.any (needS x y k left gone u.1.r) by rw [HNR.out, decide_eq_true hqq]; rfl)
      have HKX2 := Lib.hid (HKX.out hqq)
      have HKO2 := Lib.hid (HKO.out hqq)
      have hpn := neqPtr_same w2 py
      rw [hpe]
      clear hqq hpe
      have hal := HSA.out.len
      gi_wp2
      clear c0 c1 c2 c3 c4 c5 z0 z1 z2 z3 z4 y10 y11 y10z y11z hpn
      gi_loopw [50] (fun i wv => ∃ j : Nat, j ≤ all.length ∧ i = .int .i64 j ∧ Aft w2 wv ∧ ∀ i, i < j → ∀ (hi : i < all.length), needS x y k left gone u.1.r all[i] = false) (fun i _ => all.length - (intOf i).toNat)
      case atStart => exact ⟨0, Nat.zero_le _, rfl, Aft.refl _, fun i h => absurd h (Nat.not_lt_zero i)⟩
      case round =>
        obtain ⟨j, hj, rfl, hav, hpj⟩ := hrel
        have HAV := Lib.hid hav
        have HPJ := Lib.hid hpj
        obtain ⟨⟨c0, c1, c2, c3, c4, c5⟩, ⟨z0, z1, z2, z3, z4⟩⟩ := KF.out wr (HAXW.out.trans (HAx.out.trans (HA2.out.trans hav)))
        have y10 := (R02.out.aft hav).cell (j := 0) rfl
        have y10z := (R02.out.aft hav).1
        have t2 := (HRO2.out.aft hav).cell (j := 2) rfl
        have tz := (HRO2.out.aft hav).1
        have HAwv := Lib.hid (HAw2.out.trans hav)
        clear hav hpj
        by_cases hjl : j < all.length
        · obtain ⟨b9, off9, A9, c9, hRa, hb9, d9, hvr⟩ := row_at (rows_aft HAwv.out HSA.out) hjl
          subst hRa
          have hfr := HFA.out _ (List.getElem_mem hjl)
          obtain ⟨row, hrw⟩ : ∃ r, all[j] = r := ⟨_, rfl⟩
          rw [hrw] at d9 hvr hfr
          have hok := HOK.out.cols HYM.out u.2.2.1
          have V1 := Lib.hid (values12 py y u.1.r.cols row u.1.a u.1.c A9 c9 wr ⟨_, _, _, _, _, _, HY.out.aft HAwv.out⟩ (strs_aft HAwv.out u.2.1) hvr hok hfr)
          have HLS := Lib.hid (ofVs_small hok hfr (fun v hv => by obtain ⟨i, hi, rfl⟩ := List.getElem_of_mem hv; exact val_small hvr i hi))
          obtain ⟨L, hLe⟩ : ∃ L, ofVs y.t.cols u.1.r.cols row = L := ⟨_, rfl⟩
          obtain ⟨wh, hwh⟩ : ∃ b, wholeV L = b := ⟨_, rfl⟩
          obtain ⟨g1, hg1⟩ : ∃ b, hasR12 x.t.cols gone kn L = b := ⟨_, rfl⟩
          obtain ⟨g2, hg2⟩ : ∃ b, hasR12 x.t.cols left kn L = b := ⟨_, rfl⟩
          have HNS := Lib.hid (show needS x y k left gone u.1.r all[j] = (wh && (g1 && !g2)) by unfold needS; rw [hrw, HKX2.out, hLe, hwh, hg1, hg2])
          rw [hLe] at V1 HLS
          rw [hwh] at V1
          have HNX := Lib.hid (show ∀ b, (wh && (g1 && !g2)) = b → b = false → ∀ i, i < j + 1 → ∀ (hi : i < all.length), needS x y k left gone u.1.r all[i] = false from fun b e eb => ext_lt (p := fun i => ∀ (hi : i < all.length), needS x y k left gone u.1.r all[i] = false) HPJ.out (fun _ => by rw [HNS.out, e, eb]))
          have CH := Lib.hid (show ∀ (rows : List (List Val)) (R : Option Addr) (cR : Nat) (w3 w4 : World) (v : Value) (bs : Nat), Aft wr w3 → w3.ownsRow bs 37 3 v L.length (L.flatMap cellsV) → Aft w3 w4 → SlAt w 1 RowsR R cR rows → (∀ r ∈ rows, besideB formB x.t.cols r = true) →
              Calls Tryz.prog 105 #[.pointer (some ⟨py, 0, none⟩), .slice R rows.length cR, .slice K2 kn.length k2, v] w4 fun e w' => e = .returned (.bool (hasR12 x.t.cols rows kn L)) ∧ Aft w4 w' from fun rows R cR w3 w4 v bs a3 ho a4 hr hf => by
            obtain ⟨G, capG, rfl, hG⟩ := own_vals ho HLS.out.1 HLS.out.2
            have a9 := HAwv.out.trans (a3.trans a4)
            exact has12 py x rows kn L R cR K2 k2 G capG w4 (HXI.out.aft a9) (rows_aft a9 hr) (strs_aft (HAV.out.trans (a3.trans a4)) HKS.out) (vals_aft a4 hG) HKO2.out hf)
          clear hvr hfr hok hLe hwh
          gi_wp2
          refine ⟨trivial, (CallsIn.inRound l (callsIn_wide.2 V1.out)).mono ?_⟩
          rintro e w3 ⟨v, rfl, a3, ho⟩
          have HA3 := Lib.hid a3
          have HO3 := Lib.hid ho
          have C1 := Lib.hid (CH.out gone _ _ w3 w3 v _ a3 ho (Aft.refl _) HGG.out HFG.out)
          rw [hg1] at C1
          clear c0 c1 c2 c3 c4 c5 z0 z1 z2 z3 z4 y10 y10z t2 tz d9 hb9 V1
          obtain ⟨⟨c0, c1, c2, c3, c4, c5⟩, ⟨z0, z1, z2, z3, z4⟩⟩ := KF.out w3 (HAXW.out.trans (HAx.out.trans (HA2.out.trans (HAV.out.trans a3))))
          clear a3 ho
          have HG2 := Lib.hid hg2
          clear hg1 hg2
          cases wh
          · gi_wp2
            repeat (refine ⟨trivial, ?_⟩; gi_wp2)
            go_roundw
            case rel => exact ⟨j + 1, by omega, by go_num, HAV.out.trans HA3.out, HNX.out false rfl rfl⟩
            case measure => simp [intOf]; omega
          · gi_wp2
            refine ⟨trivial, (CallsIn.inRound l (callsIn_wide.2 C1.out)).mono ?_⟩
            rintro e w4 ⟨rfl, a4⟩
            have HA4 := Lib.hid (HA3.out.trans a4)
            have C2 := Lib.hid (CH.out left _ _ w3 w4 v _ HA3.out HO3.out a4 HLL.out HFL.out)
            rw [HG2.out] at C2
            clear c0 c1 c2 c3 c4 c5 z0 z1 z2 z3 z4
            obtain ⟨⟨c0, c1, c2, c3, c4, c5⟩, ⟨z0, z1, z2, z3, z4⟩⟩ := KF.out w4 (HAXW.out.trans (HAx.out.trans (HA2.out.trans (HAV.out.trans HA4.out))))
            clear a4
            cases g1
            · gi_wp2
              repeat (refine ⟨trivial, ?_⟩; gi_wp2)
              go_roundw
              case rel => exact ⟨j + 1, by omega, by go_num, HAV.out.trans HA4.out, HNX.out false rfl rfl⟩
              case measure => simp [intOf]; omega
            · gi_wp2
              refine ⟨trivial, (CallsIn.inRound l (callsIn_wide.2 C2.out)).mono ?_⟩
              rintro e w5 ⟨rfl, a5⟩
              have HA5 := Lib.hid (HA4.out.trans a5)
              clear c0 c1 c2 c3 c4 c5 z0 z1 z2 z3 z4
              obtain ⟨⟨c0, c1, c2, c3, c4, c5⟩, ⟨z0, z1, z2, z3, z4⟩⟩ := KF.out w5 (HAXW.out.trans (HAx.out.trans (HA2.out.trans (HAV.out.trans HA5.out))))
              clear a5
              cases g2
              · have FIN := Lib.hid (show HitX w X y 4 (needR S k left gone y all) (w.heap.size + 1 + 1 + 1 + 1) (.bool true) Code.ret (pre ++ [u]) (w5.setCell ⟨w.heap.size + 1 + 1 + 1 + 1, 0, none⟩ (.bool true)) ∧ KeepsFrom X.heap.size W' (w5.setCell ⟨w.heap.size + 1 + 1 + 1 + 1, 0, none⟩ (.bool true)) from by
                  have a9 := HA2.out.trans (HAV.out.trans HA5.out)
                  exact ⟨⟨⟨rfl, u, by simp, by rw [HNR2.out]; exact List.any_eq_true.2 ⟨all[j], List.getElem_mem hjl, by rw [HNS.out]; rfl⟩⟩, (Kb.of_aft (HAx.out.trans a9)).trans (Kb.set _ _ _ _), World.cell?_setCell_same' _ _ _ (by rw [c4]; rfl)⟩, ((keepsO_aft a9).trans (KeepsOthers.setCell _ _ _)).from _⟩)
                gi_wp2
                exact ⟨FIN.out.2, FIN.out.1⟩
              · gi_wp2
                go_roundw
                case rel => exact ⟨j + 1, by omega, by go_num, HAV.out.trans HA5.out, HNX.out false rfl rfl⟩
                case measure => simp [intOf]; omega
        · have HNF := Lib.hid (show needR S k left gone y all (RPx.r u) = false by
            rw [HNR2.out, Bool.eq_false_iff]
            intro h2
            obtain ⟨r, hr, h3⟩ := List.any_eq_true.1 h2
            obtain ⟨i, hi, rfl⟩ := List.getElem_of_mem hr
            rw [HPJ.out i (by omega) hi] at h3; cases h3)
          gi_wp2
          have a9 := HA2.out.trans HAV.out
          exact ⟨(keepsO_aft a9).from _, ⟨Kc.of_aft a9, Below.mono a9 HAx.out.size⟩, HAx.out.trans a9, all_snoc HAL.out HNF.out⟩
    case stop =>
      rintro D c pre W' hD hSp ⟨⟨rfl, hyy⟩, hk2, hcell⟩ hK
      have HN := Lib.hid (show heldS S k left gone = true from heldS_yes hkS (by rw [HHI.out, HALL.out]; exact hit_any hSp hyy))
      have HFI := Lib.hid (show Marks W' W.heap.size (D :: Ds) ∧ (offM W' (D :: Ds)).cell? ⟨w.heap.size + 1 + 1 + 1 + 1, 0, none⟩ = some (.bool true) ∧ Aft w (offM W' (D :: Ds)) from by
        have hm2 : Marks W' W.heap.size (D :: Ds) := (HMX.out.kb hk2 (fun g hg e => by have e : g = w.heap.size + 1 + 1 + 1 + 1 := e; have := zW.out; omega)).cons (Nat.le_trans HAXW.out.size hD) hK (fun h => by have := HMX.out.lt D h; omega)
        have ko := offM_kb (n := W.heap.size) (D :: Ds) W' (fun E hE => (hm2.2 E hE).1)
        refine ⟨hm2, ko.cell hcell (fun e => by have e : W.heap.size ≤ w.heap.size + 1 + 1 + 1 + 1 := e; have := zW.out; omega), ?_⟩
        exact Kb.to_aft (P := fun g => w.heap.size ≤ g) ((hk2.mono fun g _ e => by have e : g = w.heap.size + 1 + 1 + 1 + 1 := e; show w.heap.size ≤ g; omega).trans (ko.mono fun g _ e => by have e : W.heap.size ≤ g := e; have := zW.out; show w.heap.size ≤ g; omega)) (HAW.out.trans HAXW.out) (fun k hk e => by have e : w.heap.size ≤ k := e; omega))
      clear hk2 hcell hSp hyy
      gi_wp2
      refine leaves_marks (D :: Ds) _ HFI.out.1 ⟨_, results_cell (v := .bool true) rfl _ rfl (lvBool HFI.out.2.1), ?_⟩
      rw [HN.out]
      exact ⟨rfl, HFI.out.2.2⟩
    case done =>
      rintro D xs W' hD hS ⟨hax, hall⟩ hK
      have HR := Lib.hid (show hitH S k left gone k = false by rw [HHI.out, HALL.out]; exact miss_any hS hall)
      have HMW := Lib.hid (show Marks W' W.heap.size (D :: Ds) from (HMX.out.aft hax).cons (Nat.le_trans HAXW.out.size hD) hK (fun h => by have := HMX.out.lt D h; omega))
      have HAW2 := Lib.hid (HAXW.out.trans hax)
      clear hax hall hS hK c0 c1 c2 c3 c4 c5 z0 z1 z2 z3 z4
      go_wp2_with fail
      refine ⟨⟨k + 1, D :: Ds, ⟨by omega, HAW2.out, HMW.out, ?_⟩, ?_⟩, ?_⟩
      · intro i hi
        by_cases e : i = k
        · rw [e]; exact HR.out
        · exact HP.out i (by omega)
      · (repeat apply Exists.intro)
        rfl
      · simp [intOf]; omega
  · have hn1 : ¬ py = px := fun e => hkq (HPP.out.1 e)
    obtain ⟨Y, hYY⟩ : ∃ Y, Y = (wr.alloc (.cells #[.pointer (some ⟨py, 0, none⟩)] 80)).alloc (.cells #[.slice B3 y.rows.length v3] 47) := ⟨_, rfl⟩
    have hpq := eqPtr_other (w := (wr.alloc (.cells #[.pointer (some ⟨py, 0, none⟩)] 80)).alloc (.cells #[.slice B3 y.rows.length v3] 47)) hn1 (blk_keep HBY.out (((Aft.refl _).alloc _).alloc _)) (blk_keep HBX.out (((Aft.refl _).alloc _).alloc _))
    have HAY := Lib.hid (show Aft wr Y by rw [hYY, ← hY0]; exact a0)
    have R0 := Lib.hid (show RowAt Y wr.heap.size [.pointer (some ⟨py, 0, none⟩)] by rw [hYY, ← hY0]; exact r0)
    obtain ⟨all, hall⟩ : ∃ l, y.rows = l := ⟨_, rfl⟩
    have R1 := Lib.hid (show RowAt Y (wr.heap.size + 1) [.slice B3 all.length v3] by rw [hYY, ← hY0, ← hall]; exact r1)
    have HALL := Lib.hid (show (if k = q then left else y.rows) = all by rw [if_neg hkq, hall])
    have HSA := Lib.hid (show SlAt w 1 RowsR B3 v3 all by rw [← hall]; exact HY.out.rows)
    have HFA := Lib.hid (show ∀ r ∈ all, besideB formB y.t.cols r = true by rw [← hall]; exact HOK.out.form y HYM.out)
    have HKQ := Lib.hid hkq
    clear hall a0 r0 r1 hY0 hkq hn1
    go_wp2_with fail
    rw [← hYY]
    clear hYY c0 c1 c2 c3 c4 c5 z0 z1 z2 z3 z4
    refine (rules12 py 4 Y).mono ?_
    rintro e X ⟨rfl, hX⟩
    have aX : Aft Y X := by rw [hX]; exact ((Aft.refl _).alloc _).alloc _
    have q1 : X.cell? ⟨Y.heap.size, 0, none⟩ = some (.pointer (some ⟨py, 0, none⟩)) := by
      rw [hX]
      refine (Aft.cell_kept ((Aft.refl _).alloc _) (?_ : (Y.alloc (.cells #[.pointer (some ⟨py, 0, none⟩)] 80)).cell? ⟨Y.heap.size, 0, none⟩ = _))
      exact World.cell?_alloc_at _ _ _ _ (by simp)
    have q2 : X.cell? ⟨Y.heap.size + 1, 0, none⟩ = some (.int .i64 4) := by rw [hX]; exact World.cell?_alloc_at _ _ _ _ (by simp)
    have QX := Lib.hid (And.intro q1 q2)
    have HAX := Lib.hid (HAY.out.trans aX)
    have HAXW := Lib.hid (HA.out.trans (HAY.out.trans aX))
    have R0X := Lib.hid (R0.out.aft aX)
    have R1X := Lib.hid (R1.out.aft aX)
    clear hX q1 q2 aX
    obtain ⟨⟨c0, c1, c2, c3, c4, c5⟩, ⟨z0, z1, z2, z3, z4⟩⟩ := KF.out X HAXW.out
    have HMX := Lib.hid (HM.out.aft HAX.out)
    go_wp2_with fail
    refine range_rules (HAW.out.trans HAXW.out) HY.out QX.out.1 QX.out.2 rfl rfl
      (fun pre W' => Aft X W' ∧ ∀ u ∈ pre, needR S q left gone y all (RPx.r u) = false)
      (HitX w X y 4 (needR S q left gone y all) (w.heap.size + 1 + 1 + 1 + 1) (.bool true))
      (OwnFrom.and own_aftFrom (ownFrom_pure _ _)) (own_hit z4)
      ⟨Aft.refl _, fun y hy => by cases hy⟩
      (fun pre W V' h a => ⟨h.1.trans a, h.2⟩) (fun pre W h => h.1) ?F2
      ?assign2 ?body2 ?done2 ?stop2
    case assign2 =>
      intro l pre u W' K hi hK
      dsimp only [RPx.enc, RP.enc]
      have lw := Nat.lt_succ_self W'.heap.size
      gi_wp2
      obtain ⟨V', hV⟩ : ∃ V', V' = W'.alloc (.cells u.1.row.toArray 108) := ⟨_, rfl⟩
      have aV : Aft W' V' := by rw [hV]; exact (Aft.refl W').alloc _
      have rV : RowAt V' W'.heap.size u.1.row := by rw [hV]; exact box_row2 (Aft.refl _)
      unfold RP.row at hV
      rw [← hV]
      clear hV
      obtain ⟨Bx, hBx⟩ : ∃ Bx, Bx = W'.heap.size := ⟨_, rfl⟩
      rw [← hBx] at rV ⊢
      exact hK _ _ aV rV
    case body2 =>
      rintro l pre u Bx W' ⟨ha, hall⟩ hrow
      unfold RP.row at hrow
      obtain ⟨q2, hq2⟩ := HOK.out.far HYM.out u.2.2.1 (by simpa using u.2.2.2)
      have hq2l := shfAt_lt hq2
      have hq2p : q2 < ps.length := by have := HLN.out; omega
      have hsn2 := shfN_get hq2l
      have hgd2 : ps.getD q2 0 = ps[q2] := by rw [List.getD_eq_getElem?_getD, List.getElem?_eq_getElem hq2p]; rfl
      obtain ⟨kn, hkn⟩ : ∃ k, keyOf S[q2].t u.1.r.key = k := ⟨_, rfl⟩
      have N1 := Lib.hid (named12 s ps S u.1.r (.slice u.1.a u.1.r.cols.length u.1.c) q2 W' (HST.out.aft (HAW.out.trans (HAXW.out.trans ha))) hq2)
      rw [hsn2, hgd2, hkn] at N1
      have HNR := Lib.hid (show needR S q left gone y all (RPx.r u) = (decide (q2 = q) && all.any (needS x y q left gone u.1.r)) from by
        show needR S q left gone y all u.1.r = _
        unfold needR
        rw [u.2.2.2, hq2, HSN.out]
        simp only [Bool.true_and, Int.ofNat_inj])
      have HKN := Lib.hid (show OkN S[q2].t.cols kn by rw [← hkn]; exact HOK.out.keyOf (List.getElem_mem hq2l) _)
      have HKX := Lib.hid (show q2 = q → keyOf x.t u.1.r.key = kn from fun e => by subst e; rw [← HXE.out]; exact hkn)
      have HKO := Lib.hid (show q2 = q → OkN x.t.cols kn from fun e => by subst e; rw [← HXE.out]; exact HKN.out)
      have HB2 : Hid (∃ cur t, w.heap[ps[q2]]? = some (.cells cur t (0, 0))) := Lib.hid (by obtain ⟨_, _, _, _, _, _, hh⟩ := HST.out.each q2 hq2p hq2l; exact hh.hb)
      have HBXw : Hid (∃ cur t, w.heap[px]? = some (.cells cur t (0, 0))) := Lib.hid (by obtain ⟨_, _, _, _, _, _, hh⟩ := HXI.out; exact hh.hb)
      have hp2q : ps[q2] = px ↔ q2 = q := by
        rw [← HPX.out]
        exact ⟨fun e => (List.getElem_inj HST.out.nd).1 e, fun e => by subst e; rfl⟩
      obtain ⟨p2, hp2⟩ : ∃ p2, ps[q2] = p2 := ⟨_, rfl⟩
      rw [hp2] at N1 HB2 hp2q
      have HP2 := Lib.hid hp2q
      have HAx := Lib.hid ha
      have HAL := Lib.hid hall
      have HRO := Lib.hid hrow
      clear c0 c1 c2 c3 c4 c5 z0 z1 z2 z3 z4
      obtain ⟨⟨c0, c1, c2, c3, c4, c5⟩, ⟨z0, z1, z2, z3, z4⟩⟩ := KF.out W' (HAXW.out.trans ha)
      have t0 := hrow.cell (j := 0) rfl
      have t1 := hrow.cell (j := 1) rfl
      have t2 := hrow.cell (j := 2) rfl
      have t3 := hrow.cell (j := 3) rfl
      have t4 := hrow.cell (j := 4) rfl
      have t5 := hrow.cell (j := 5) rfl
      have t6 := hrow.cell (j := 6) rfl
      have t7 := hrow.cell (j := 7) rfl
      have tz := hrow.1
      clear ha hall hrow hq2 hsn2 hgd2 hkn hp2 hp2q
      gi_wp2
      refine ⟨trivial, (CallsIn.inRound l (callsIn_wide.2 N1.out)).mono ?_⟩
      rintro e w2 ⟨K2, k2, rfl, a2, hks⟩
      have HA2 := Lib.hid a2
      have HAw2 := Lib.hid (HAW.out.trans (HAXW.out.trans (HAx.out.trans a2)))
      have HKS := Lib.hid hks
      have HRO2 := Lib.hid (HRO.out.aft a2)
      have R02 := Lib.hid (R0X.out.aft (HAx.out.trans a2))
      have R12 := Lib.hid (R1X.out.aft (HAx.out.trans a2))
      clear c0 c1 c2 c3 c4 c5 z0 z1 z2 z3 z4 t0 t1 t2 t3 t4 t5 t6 t7 tz N1 hks
      obtain ⟨⟨c0, c1, c2, c3, c4, c5⟩, ⟨z0, z1, z2, z3, z4⟩⟩ := KF.out w2 (HAXW.out.trans (HAx.out.trans a2))
      have y10 := R02.out.cell (j := 0) rfl
      have y11 := R12.out.cell (j := 0) rfl
      have y10z := R02.out.1
      have y11z := R12.out.1
      clear a2
      by_cases hqq : q2 = q
      case neg =>
        have hn1 : ¬ p2 = px := fun e => hqq (HP2.out.1 e)
        have hpn := neqPtr_other hn1 (blk_keep HB2.out HAw2.out) (blk_keep HBXw.out HAw2.out)
        have HNF := Lib.hid (show needR S q left gone y all (RPx.r u) = false by rw [HNR.out, decide_eq_false hqq]; rfl)
        clear hqq hn1
        gi_wp2
        exact ⟨(keepsO_aft HA2.out).from _, ⟨Kc.of_aft HA2.out, Below.mono HA2.out HAx.out.size⟩, HAx.out.trans HA2.out, all_snoc HAL.out HNF.out⟩
      have hpe := HP2.out.2 hqq
      have HNR2 := Lib.hid (show needR S q left gone y all (RPx.r u) = all.any (needS x y q left gone u.1.r) by rw [HNR.out, decide_eq_true hqq]; rfl)
      have HKX2 := Lib.hid (HKX.out hqq)
      have HKO2 := Lib.hid (HKO.out hqq)
      have hpn := neqPtr_same w2 px
      rw [hpe]
      clear hqq hpe
      have hal := HSA.out.len
      gi_wp2
      clear c0 c1 c2 c3 c4 c5 z0 z1 z2 z3 z4 y10 y11 y10z y11z hpn
      gi_loopw [50] (fun i wv => ∃ j : Nat, j ≤ all.length ∧ i = .int .i64 j ∧ Aft w2 wv ∧ ∀ i, i < j → ∀ (hi : i < all.length), needS x y q left gone u.1.r all[i] = false) (fun i _ => all.length - (intOf i).toNat)
      case atStart => exact ⟨0, Nat.zero_le _, rfl, Aft.refl _, fun i h => absurd h (Nat.not_lt_zero i)⟩
      case round =>
        obtain ⟨j, hj, rfl, hav, hpj⟩ := hrel
        have HAV := Lib.hid hav
        have HPJ := Lib.hid hpj
        obtain ⟨⟨c0, c1, c2, c3, c4, c5⟩, ⟨z0, z1, z2, z3, z4⟩⟩ := KF.out wr (HAXW.out.trans (HAx.out.trans (HA2.out.trans hav)))
        have y10 := (R02.out.aft hav).cell (j := 0) rfl
        have y10z := (R02.out.aft hav).1
        have t2 := (HRO2.out.aft hav).cell (j := 2) rfl
        have tz := (HRO2.out.aft hav).1
        have HAwv := Lib.hid (HAw2.out.trans hav)
        clear hav hpj
        by_cases hjl : j < all.length
        · obtain ⟨b9, off9, A9, c9, hRa, hb9, d9, hvr⟩ := row_at (rows_aft HAwv.out HSA.out) hjl
          subst hRa
          have hfr := HFA.out _ (List.getElem_mem hjl)
          obtain ⟨row, hrw⟩ : ∃ r, all[j] = r := ⟨_, rfl⟩
          rw [hrw] at d9 hvr hfr
          have hok := HOK.out.cols HYM.out u.2.2.1
          have V1 := Lib.hid (values12 py y u.1.r.cols row u.1.a u.1.c A9 c9 wr ⟨_, _, _, _, _, _, HY.out.aft HAwv.out⟩ (strs_aft HAwv.out u.2.1) hvr hok hfr)
          have HLS := Lib.hid (ofVs_small hok hfr (fun v hv => by obtain ⟨i, hi, rfl⟩ := List.getElem_of_mem hv; exact val_small hvr i hi))
          obtain ⟨L, hLe⟩ : ∃ L, ofVs y.t.cols u.1.r.cols row = L := ⟨_, rfl⟩
          obtain ⟨wh, hwh⟩ : ∃ b, wholeV L = b := ⟨_, rfl⟩
          obtain ⟨g1, hg1⟩ : ∃ b, hasR12 x.t.cols gone kn L = b := ⟨_, rfl⟩
          obtain ⟨g2, hg2⟩ : ∃ b, hasR12 x.t.cols left kn L = b := ⟨_, rfl⟩
          have HNS := Lib.hid (show needS x y q left gone u.1.r all[j] = (wh && (g1 && !g2)) by unfold needS; rw [hrw, HKX2.out, hLe, hwh, hg1, hg2])
          rw [hLe] at V1 HLS
          rw [hwh] at V1
          have HNX := Lib.hid (show ∀ b, (wh && (g1 && !g2)) = b → b = false → ∀ i, i < j + 1 → ∀ (hi : i < all.length), needS x y q left gone u.1.r all[i] = false from fun b e eb => ext_lt (p := fun i => ∀ (hi : i < all.length), needS x y q left gone u.1.r all[i] = false) HPJ.out (fun _ => by rw [HNS.out, e, eb]))
          have CH := Lib.hid (show ∀ (rows : List (List Val)) (R : Option Addr) (cR : Nat) (w3 w4 : World) (v : Value) (bs : Nat), Aft wr w3 → w3.ownsRow bs 37 3 v L.length (L.flatMap cellsV) → Aft w3 w4 → SlAt w 1 RowsR R cR rows → (∀ r ∈ rows, besideB formB x.t.cols r = true) →
              Calls Tryz.prog 105 #[.pointer (some ⟨px, 0, none⟩), .slice R rows.length cR, .slice K2 kn.length k2, v] w4 fun e w' => e = .returned (.bool (hasR12 x.t.cols rows kn L)) ∧ Aft w4 w' from fun rows R cR w3 w4 v bs a3 ho a4 hr hf => by
            obtain ⟨G, capG, rfl, hG⟩ := own_vals ho HLS.out.1 HLS.out.2
            have a9 := HAwv.out.trans (a3.trans a4)
            exact has12 px x rows kn L R cR K2 k2 G capG w4 (HXI.out.aft a9) (rows_aft a9 hr) (strs_aft (HAV.out.trans (a3.trans a4)) HKS.out) (vals_aft a4 hG) HKO2.out hf)
          clear hvr hfr hok hLe hwh
          gi_wp2
          refine ⟨trivial, (CallsIn.inRound l (callsIn_wide.2 V1.out)).mono ?_⟩
          rintro e w3 ⟨v, rfl, a3, ho⟩
          have HA3 := Lib.hid a3
          have HO3 := Lib.hid ho
          have C1 := Lib.hid (CH.out gone _ _ w3 w3 v _ a3 ho (Aft.refl _) HGG.out HFG.out)
          rw [hg1] at C1
          clear c0 c1 c2 c3 c4 c5 z0 z1 z2 z3 z4 y10 y10z t2 tz d9 hb9 V1
          obtain ⟨⟨c0, c1, c2, c3, c4, c5⟩, ⟨z0, z1, z2, z3, z4⟩⟩ := KF.out w3 (HAXW.out.trans (HAx.out.trans (HA2.out.trans (HAV.out.trans a3))))
          clear a3 ho
          have HG2 := Lib.hid hg2
          clear hg1 hg2
          cases wh
          · gi_wp2
            repeat (refine ⟨trivial, ?_⟩; gi_wp2)
            go_roundw
            case rel => exact ⟨j + 1, by omega, by go_num, HAV.out.trans HA3.out, HNX.out false rfl rfl⟩
            case measure => simp [intOf]; omega
          · gi_wp2
            refine ⟨trivial, (CallsIn.inRound l (callsIn_wide.2 C1.out)).mono ?_⟩
            rintro e w4 ⟨rfl, a4⟩
            have HA4 := Lib.hid (HA3.out.trans a4)
            have C2 := Lib.hid (CH.out left _ _ w3 w4 v _ HA3.out HO3.out a4 HLL.out HFL.out)
            rw [HG2.out] at C2
            clear c0 c1 c2 c3 c4 c5 z0 z1 z2 z3 z4
            obtain ⟨⟨c0, c1, c2, c3, c4, c5⟩, ⟨z0, z1, z2, z3, z4⟩⟩ := KF.out w4 (HAXW.out.trans (HAx.out.trans (HA2.out.trans (HAV.out.trans HA4.out))))
            clear a4
            cases g1
            · gi_wp2
              repeat (refine ⟨trivial, ?_⟩; gi_wp2)
              go_roundw
              case rel => exact ⟨j + 1, by omega, by go_num, HAV.out.trans HA4.out, HNX.out false rfl rfl⟩
              case measure => simp [intOf]; omega
            · gi_wp2
              refine ⟨trivial, (CallsIn.inRound l (callsIn_wide.2 C2.out)).mono ?_⟩
              rintro e w5 ⟨rfl, a5⟩
              have HA5 := Lib.hid (HA4.out.trans a5)
              clear c0 c1 c2 c3 c4 c5 z0 z1 z2 z3 z4
              obtain ⟨⟨c0, c1, c2, c3, c4, c5⟩, ⟨z0, z1, z2, z3, z4⟩⟩ := KF.out w5 (HAXW.out.trans (HAx.out.trans (HA2.out.trans (HAV.out.trans HA5.out))))
              clear a5
              cases g2
              · have FIN := Lib.hid (show HitX w X y 4 (needR S q left gone y all) (w.heap.size + 1 + 1 + 1 + 1) (.bool true) Code.ret (pre ++ [u]) (w5.setCell ⟨w.heap.size + 1 + 1 + 1 + 1, 0, none⟩ (.bool true)) ∧ KeepsFrom X.heap.size W' (w5.setCell ⟨w.heap.size + 1 + 1 + 1 + 1, 0, none⟩ (.bool true)) from by
                  have a9 := HA2.out.trans (HAV.out.trans HA5.out)
                  exact ⟨⟨⟨rfl, u, by simp, by rw [HNR2.out]; exact List.any_eq_true.2 ⟨all[j], List.getElem_mem hjl, by rw [HNS.out]; rfl⟩⟩, (Kb.of_aft (HAx.out.trans a9)).trans (Kb.set _ _ _ _), World.cell?_setCell_same' _ _ _ (by rw [c4]; rfl)⟩, ((keepsO_aft a9).trans (KeepsOthers.setCell _ _ _)).from _⟩)
                gi_wp2
                exact ⟨FIN.out.2, FIN.out.1⟩
              · gi_wp2
                go_roundw
                case rel => exact ⟨j + 1, by omega, by go_num, HAV.out.trans HA5.out, HNX.out false rfl rfl⟩
                case measure => simp [intOf]; omega
        · have HNF := Lib.hid (show needR S q left gone y all (RPx.r u) = false by
            rw [HNR2.out, Bool.eq_false_iff]
            intro h2
            obtain ⟨r, hr, h3⟩ := List.any_eq_true.1 h2
            obtain ⟨i, hi, rfl⟩ := List.getElem_of_mem hr
            rw [HPJ.out i (by omega) hi] at h3; cases h3)
          gi_wp2
          have a9 := HA2.out.trans HAV.out
          exact ⟨(keepsO_aft a9).from _, ⟨Kc.of_aft a9, Below.mono a9 HAx.out.size⟩, HAx.out.trans a9, all_snoc HAL.out HNF.out⟩
    case stop2 =>
      rintro D c pre W' hD hSp ⟨⟨rfl, hyy⟩, hk2, hcell⟩ hK
      have HN := Lib.hid (show heldS S q left gone = true from heldS_yes hkS (by rw [HHI.out, HALL.out]; exact hit_any hSp hyy))
      have HFI := Lib.hid (show Marks W' W.heap.size (D :: Ds) ∧ (offM W' (D :: Ds)).cell? ⟨w.heap.size + 1 + 1 + 1 + 1, 0, none⟩ = some (.bool true) ∧ Aft w (offM W' (D :: Ds)) from by
        have hm2 : Marks W' W.heap.size (D :: Ds) := (HMX.out.kb hk2 (fun g hg e => by have e : g = w.heap.size + 1 + 1 + 1 + 1 := e; have := zW.out; omega)).cons (Nat.le_trans HAXW.out.size hD) hK (fun h => by have := HMX.out.lt D h; omega)
        have ko := offM_kb (n := W.heap.size) (D :: Ds) W' (fun E hE => (hm2.2 E hE).1)
        refine ⟨hm2, ko.cell hcell (fun e => by have e : W.heap.size ≤ w.heap.size + 1 + 1 + 1 + 1 := e; have := zW.out; omega), ?_⟩
        exact Kb.to_aft (P := fun g => w.heap.size ≤ g) ((hk2.mono fun g _ e => by have e : g = w.heap.size + 1 + 1 + 1 + 1 := e; show w.heap.size ≤ g; omega).trans (ko.mono fun g _ e => by have e : W.heap.size ≤ g := e; have := zW.out; show w.heap.size ≤ g; omega)) (HAW.out.trans HAXW.out) (fun k hk e => by have e : w.heap.size ≤ k := e; omega))
      clear hk2 hcell hSp hyy
      gi_wp2
      refine leaves_marks (D :: Ds) _ HFI.out.1 ⟨_, results_cell (v := .bool true) rfl _ rfl (lvBool HFI.out.2.1), ?_⟩
      rw [HN.out]
      exact ⟨rfl, HFI.out.2.2⟩
    case done2 =>
      rintro D xs W' hD hS ⟨hax, hall⟩ hK
      have HR := Lib.hid (show hitH S q left gone k = false by rw [HHI.out, HALL.out]; exact miss_any hS hall)
      have HMW := Lib.hid (show Marks W' W.heap.size (D :: Ds) from (HMX.out.aft hax).cons (Nat.le_trans HAXW.out.size hD) hK (fun h => by have := HMX.out.lt D h; omega))
      have HAW2 := Lib.hid (HAXW.out.trans hax)
      clear hax hall hS hK c0 c1 c2 c3 c4 c5 z0 z1 z2 z3 z4
      go_wp2_with fail
      refine ⟨⟨k + 1, D :: Ds, ⟨by omega, HAW2.out, HMW.out, ?_⟩, ?_⟩, ?_⟩
      · intro i hi
        by_cases e : i = k
        · rw [e]; exact HR.out
        · exact HP.out i (by omega)
      · (repeat apply Exists.intro)
        rfl
      · simp [intOf]; omega
end Go.Proofs.YtiadkchlkdaceaaGreat

namespace Go.Proofs.YtiadkchlkdaceaaGreat
open Go.RowKit Go.Deep
set_option maxRecDepth 100000
set_option linter.unusedVariables false
set_option maxHeartbeats 8000000 in
theorem choose12 (B s : Nat) (hl : Hd) (L : List OShf) (ss : List Sch) (q : Nat) (x : ROp) (A : Option Addr) (cap : Nat) (w : World) (hin : StoIn w B s hl L) (ok : SOk (storeS L) ss) (sm : ∀ y ∈ L, SmT y.x.t) (hq : q < L.length) :
    Calls Tryz.prog 35 #[.pointer (some ⟨s, 0, none⟩), .pointer (some ⟨L[q].p, 0, none⟩), .agg #[.int .i64 x.kind, .string x.role, .string x.schema, .string x.table, .slice A x.row.length cap, .string x.col, .int .i64 x.v.kind, .int .i64 x.v.int, .string x.v.text]] w (DoQ w B s hl L (chooseS (storeS L) q x.col x.v)) := by
  obtain ⟨kd, role, schema, table, row, col, v⟩ := x
  simp only
  have hqS : q < (storeS L).length := by simpa [storeS] using hq
  have hsn : shfN (storeS L) q = L[q].s := by rw [shfN_get hqS]; simp [storeS]
  obtain ⟨y, hy⟩ : ∃ y, L[q] = y := ⟨_, rfl⟩
  have hym : y ∈ L := by rw [← hy]; exact List.getElem_mem hq
  rw [hy] at hsn ⊢
  have CP := Lib.hid (show ∀ V, Aft w V → Calls Tryz.prog 70 #[.pointer (some ⟨y.p, 0, none⟩), .string col, .agg #[.int .i64 v.kind, .int .i64 v.int, .string v.text]] V (PartsP V (y.rows.filter (inO y.x.t.cols col v)) (y.rows.filter fun o => !inO y.x.t.cols col v o)) from fun V a => by
    have P := parted (hin.aft a) ok sm hym
    exact parts12 y.p y.x.t y.rows _ _ _ y.x.hc.a y.x.hc.c y.hr.a y.hr.c _ col v V P.row P.cols P.rows P.form P.heads P.most)
  have HG := Lib.hid (show goneS (storeS L) q col v = (y.rows.filter (inO y.x.t.cols col v)).map ORow.vals by unfold goneS; rw [hsn, filter_inO]; rfl)
  have P0 := parted hin ok sm hym
  have HGS := Lib.hid (show ∀ o ∈ y.rows.filter (inO y.x.t.cols col v), o ∈ y.rows from fun o ho => (List.mem_filter.1 ho).1)
  have HGL := Lib.hid (show (y.rows.filter (inO y.x.t.cols col v)).length ≤ 64 from Nat.le_trans (List.length_filter_le _ _) P0.most)
  have HSM := Lib.hid P0.small
  have hc8 : ∀ o ∈ y.rows, o.vals.length ≤ 1000000 := fun o ho => by
    have h1 := ((besideB_iff formB _ _).1 (P0.form o ho)).1
    have h2 := (ok.shf (x := y.s) (List.mem_map_of_mem hym)).2.1
    have h2 : y.x.t.cols.length ≤ 8 := h2
    omega
  have HC8 := Lib.hid hc8
  have HEY := Lib.hid (hin.each y hym)
  obtain ⟨W, hW⟩ : ∃ W, W = w.alloc (.cells #[.int .i64 kd, .string role, .string schema, .string table, .slice A row.length cap, .string col, .int .i64 v.kind, .int .i64 v.int, .string v.text] 39) := ⟨_, rfl⟩
  have aW : Aft w W := by rw [hW]; exact (Aft.refl w).alloc _
  have rW : RowAt W w.heap.size [.int .i64 kd, .string role, .string schema, .string table, .slice A row.length cap, .string col, .int .i64 v.kind, .int .i64 v.int, .string v.text] := by rw [hW]; exact box_row2 (Aft.refl _)
  have HAW := Lib.hid aW
  have HIN := Lib.hid hin
  have c5 := rW.cell (j := 5) rfl
  have c6 := rW.cell (j := 6) rfl
  have c7 := rW.cell (j := 7) rfl
  have c8 := rW.cell (j := 8) rfl
  have zB := rW.1
  clear aW rW hin hsn hy ok sm hqS hq P0 hc8
  obtain ⟨G, hG⟩ : ∃ G, y.rows.filter (inO y.x.t.cols col v) = G := ⟨_, rfl⟩
  rw [hG] at HG HGS HGL
  rw [hG] at CP
  clear hG
  go_enter Tryz.func35, Tryz.ntmps35
  go_wp2_with fail
  rw [← hW]
  clear hW
  go_wp2_with fail
  refine (CP.out W HAW.out).mono ?_
  rintro e X ⟨v1, v2, rfl, aX, o1, o2, hd⟩
  obtain ⟨h1, rfl, hn1⟩ := own_head o1
  have HO1 := Lib.hid (show X.ownsRow W.heap.size 34 1 (.slice h1.a G.length h1.c) G.length (G.flatMap ORow.cells) by have := o1; rwa [own_slice o1] at this)
  have e1 : h1.v = .slice h1.a G.length h1.c := own_slice o1
  rw [e1]
  have inX := HEY.out.aft (HAW.out.trans aX)
  have HS1 := Lib.hid (show SlAt X 1 RowsR h1.a h1.c (G.map ORow.vals) from RowsIn.at (rows_of inX HGS.out o1 (B2 := W.heap.size) (by have := HEY.out.ge; have := HEY.out.row.1; have := HAW.out.size; omega)) (by have := HGL.out; omega) fun o ho => HSM.out o (HGS.out o ho))
  have HAX := Lib.hid (HAW.out.trans aX)
  have CC := Lib.hid (copied12 (G.map ORow.vals) h1.a h1.c X HS1.out (by simpa using HGL.out) fun r hr => by
    obtain ⟨o, ho, rfl⟩ := List.mem_map.1 hr
    exact HC8.out o (HGS.out o ho))
  have CC2 := Lib.hid (show Calls Tryz.prog 41 #[.slice h1.a G.length h1.c] X (RowsP X (G.map ORow.vals)) by simpa using CC.out)
  clear aX o1 o2 hd CP c5 c6 c7 c8 zB inX CC e1
  go_wp2_with fail
  refine CC2.out.mono ?_
  rintro e Z ⟨h7, R, hR, rfl, aZ, inZ, nd⟩
  have HAZ := Lib.hid aZ
  have HIZ := Lib.hid inZ
  have HND := Lib.hid nd
  have HRR := Lib.hid hR
  clear aZ inZ nd hR CC2
  go_wp2_with fail
  go_ret2
  rw [show chooseS (storeS L) q col v = (storeS L, G.map ORow.vals, 0) by unfold chooseS; rw [HG.out]]
  have aa := HAX.out.trans HAZ.out
  have olt := HIZ.out.lt
  have slt := HIN.out.lt
  have zz := HAX.out.size
  refine ⟨L, h7, R, rfl, HRR.out, by simp only [List.length_map]; rfl, Kb.of_aft aa, HIN.out.aft aa, rfl, ⟨own_down HIZ.out.own ?_, fun o ho => own_down (HIZ.out.each o ho) ?_⟩, HND.out, fun g hg h => ?_, fun g hg => .inl hg, fun g hg => .inr (Nat.le_trans zz (olt g hg).1)⟩
  · have := HEY.out.ge; have := HEY.out.row.1; omega
  · have := HEY.out.ge; have := HEY.out.row.1; omega
  · have := (olt g hg).1
    have := (slt g h).2
    omega
set_option maxHeartbeats 8000000 in
theorem remove12 (B s : Nat) (hl : Hd) (L : List OShf) (ss : List Sch) (q : Nat) (x : ROp) (A : Option Addr) (cap : Nat) (w : World) (hin : StoIn w B s hl L) (ok : SOk (storeS L) ss) (sm : ∀ y ∈ L, SmT y.x.t) (hq : q < L.length) :
    Calls Tryz.prog 34 #[.pointer (some ⟨s, 0, none⟩), .pointer (some ⟨L[q].p, 0, none⟩), .agg #[.int .i64 x.kind, .string x.role, .string x.schema, .string x.table, .slice A x.row.length cap, .string x.col, .int .i64 x.v.kind, .int .i64 x.v.int, .string x.v.text]] w (DoQ w B s hl L (removeS (storeS L) q x.col x.v)) := by
  obtain ⟨kd, role, schema, table, row, col, v⟩ := x
  simp only
  have hqS : q < (storeS L).length := by simpa [storeS] using hq
  have hsn : shfN (storeS L) q = L[q].s := by rw [shfN_get hqS]; simp [storeS]
  obtain ⟨y, hy⟩ : ∃ y, L[q] = y := ⟨_, rfl⟩
  have hym : y ∈ L := by rw [← hy]; exact List.getElem_mem hq
  rw [hy] at hsn ⊢
  have CP := Lib.hid (show ∀ V, Aft w V → Calls Tryz.prog 70 #[.pointer (some ⟨y.p, 0, none⟩), .string col, .agg #[.int .i64 v.kind, .int .i64 v.int, .string v.text]] V (PartsP V (y.rows.filter (inO y.x.t.cols col v)) (y.rows.filter fun o => !inO y.x.t.cols col v o)) from fun V a => by
    have P := parted (hin.aft a) ok sm hym
    exact parts12 y.p y.x.t y.rows _ _ _ y.x.hc.a y.x.hc.c y.hr.a y.hr.c _ col v V P.row P.cols P.rows P.form P.heads P.most)
  have HG := Lib.hid (show goneS (storeS L) q col v = (y.rows.filter (inO y.x.t.cols col v)).map ORow.vals by unfold goneS; rw [hsn, filter_inO]; rfl)
  have HL := Lib.hid (show leftS (storeS L) q col v = (y.rows.filter fun o => !inO y.x.t.cols col v o).map ORow.vals by unfold leftS; rw [hsn, filter_notO]; rfl)
  have P0 := parted hin ok sm hym
  have HGS := Lib.hid (show (y.rows.filter (inO y.x.t.cols col v)).Sublist y.rows from List.filter_sublist)
  have HLS := Lib.hid (show (y.rows.filter fun o => !inO y.x.t.cols col v o).Sublist y.rows from List.filter_sublist)
  have HYN := Lib.hid (show y.blks.Nodup from nodup_of (List.nodup_append.1 (List.nodup_cons.1 hin.nd).2).2.1 hym)
  have hrn : (y.rows.flatMap (·.h.blk)).Nodup := by
    have h1 := HYN.out
    unfold OShf.blks OShf.rblk at h1
    exact (List.nodup_append.1 (List.nodup_append.1 (List.nodup_cons.1 h1).2).2.1).2.1
  have HRN := Lib.hid hrn
  have HAP := Lib.hid (filter_apart (inO y.x.t.cols col v) hrn)
  have HMO := Lib.hid P0.most
  have HSM := Lib.hid P0.small
  have HFO := Lib.hid P0.form
  have HEY := Lib.hid (hin.each y hym)
  have hSq : (storeS L)[q] = y.s := by rw [← hsn, shfN_get hqS]
  have CH := Lib.hid (show ∀ V, Aft w V → ∀ Rl cl Rg cg, SlAt V 1 RowsR Rl cl (leftS (storeS L) q col v) → SlAt V 1 RowsR Rg cg (goneS (storeS L) q col v) → Calls Tryz.prog 71 #[.pointer (some ⟨s, 0, none⟩), .pointer (some ⟨y.p, 0, none⟩), .slice Rl (leftS (storeS L) q col v).length cl, .slice Rg (goneS (storeS L) q col v).length cg] V fun e w' => e = .returned (.bool (heldS (storeS L) q (leftS (storeS L) q col v) (goneS (storeS L) q col v))) ∧ Aft V w' from fun V a Rl cl Rg cg h1 h2 => by
    have := held12 s (L.map (·.p)) (storeS L) ss q (leftS (storeS L) q col v) (goneS (storeS L) q col v) Rl cl Rg cg V ((hin.aft a).is ok sm) ok (by simpa using hq) hqS h1 h2
      (fun r hr => by
        rw [hSq]
        unfold leftS at hr
        rw [hsn] at hr
        obtain ⟨o, ho, rfl⟩ := List.mem_map.1 (List.mem_filter.1 hr).1
        exact HFO.out o ho)
      (fun r hr => by
        rw [hSq]
        unfold goneS at hr
        rw [hsn] at hr
        obtain ⟨o, ho, rfl⟩ := List.mem_map.1 (List.mem_filter.1 hr).1
        exact HFO.out o ho)
    simpa [hy] using this)
  obtain ⟨W, hW⟩ : ∃ W, W = w.alloc (.cells #[.int .i64 kd, .string role, .string schema, .string table, .slice A row.length cap, .string col, .int .i64 v.kind, .int .i64 v.int, .string v.text] 39) := ⟨_, rfl⟩
  have aW : Aft w W := by rw [hW]; exact (Aft.refl w).alloc _
  have rW : RowAt W w.heap.size [.int .i64 kd, .string role, .string schema, .string table, .slice A row.length cap, .string col, .int .i64 v.kind, .int .i64 v.int, .string v.text] := by rw [hW]; exact box_row2 (Aft.refl _)
  have HAW := Lib.hid aW
  have HIN := Lib.hid hin
  have HY := Lib.hid hy
  have HROW := Lib.hid P0.row
  have c5 := rW.cell (j := 5) rfl
  have c6 := rW.cell (j := 6) rfl
  have c7 := rW.cell (j := 7) rfl
  have c8 := rW.cell (j := 8) rfl
  have zB := rW.1
  clear aW rW hin hsn hy ok sm hSq hqS P0 hrn
  obtain ⟨G, hG⟩ : ∃ G, y.rows.filter (inO y.x.t.cols col v) = G := ⟨_, rfl⟩
  obtain ⟨F, hF⟩ : ∃ F, (y.rows.filter fun o => !inO y.x.t.cols col v o) = F := ⟨_, rfl⟩
  rw [hG] at HG HGS
  rw [hF] at HL HLS
  rw [hG, hF] at CP HAP
  rw [HL.out, HG.out] at CH
  have hrem : removeS (storeS L) q col v = if heldS (storeS L) q (F.map ORow.vals) (G.map ORow.vals) then (storeS L, [], 113) else (putS (storeS L) q (F.map ORow.vals), G.map ORow.vals, 0) := by unfold removeS; rw [HL.out, HG.out]
  obtain ⟨hb, hhb⟩ : ∃ hb, heldS (storeS L) q (F.map ORow.vals) (G.map ORow.vals) = hb := ⟨_, rfl⟩
  rw [hhb] at CH hrem
  have HREM := Lib.hid hrem
  simp only [List.length_map] at CH
  clear hG hF hrem hhb
  go_enter Tryz.func34, Tryz.ntmps34
  go_wp2_with fail
  rw [← hW]
  clear hW
  go_wp2_with fail
  refine (CP.out W HAW.out).mono ?_
  rintro e X ⟨v1, v2, rfl, aX, o1, o2, hd⟩
  obtain ⟨h1, rfl, hn1⟩ := own_head o1
  obtain ⟨h2, rfl, hn2⟩ := own_head o2
  have e1 : h1.v = .slice h1.a G.length h1.c := own_slice o1
  have e2 : h2.v = .slice h2.a F.length h2.c := own_slice o2
  have HO1 := Lib.hid o1
  have HO2 := Lib.hid o2
  have HD := Lib.hid hd
  rw [e1, e2]
  have inX := HEY.out.aft (HAW.out.trans aX)
  have hBW : B ≤ W.heap.size := by have := HEY.out.ge; have := HEY.out.row.1; have := HAW.out.size; omega
  have HR1 := Lib.hid (rows_of inX (fun o ho => HGS.out.subset ho) o1 hBW)
  have HR2 := Lib.hid (rows_of inX (fun o ho => HLS.out.subset ho) o2 hBW)
  have HS1 := Lib.hid (RowsIn.at HR1.out (by have := HGS.out.length_le; have := HMO.out; omega) fun o ho => HSM.out o (HGS.out.subset ho))
  have HS2 := Lib.hid (RowsIn.at HR2.out (by have := HLS.out.length_le; have := HMO.out; omega) fun o ho => HSM.out o (HLS.out.subset ho))
  have HAX := Lib.hid (HAW.out.trans aX)
  have HWX := Lib.hid aX
  have HIX := Lib.hid inX
  have CC := Lib.hid (CH.out X HAX.out h2.a h2.c h1.a h1.c HS2.out HS1.out)
  clear aX o1 o2 hd CP c5 c6 c7 c8 zB inX CH e1 e2 hn1 hn2 hBW
  go_wp2_with fail
  refine CC.out.mono ?_
  rintro e Z ⟨rfl, aZ⟩
  have HAZ := Lib.hid aZ
  have rz := HROW.out.aft (HAX.out.trans aZ)
  have f5 : Z.frozen? ⟨y.p, 5, none⟩ = false := rz.2.2 5 (by simp)
  have x5 := rz.cell (j := 5) rfl
  have z5 := rz.1
  have HRZ := Lib.hid rz
  clear aZ CC rz
  cases hb
  · go_wp2_with fail
    go_ret2
    rw [HREM.out, if_neg (by simp)]
    have aa := HAX.out.trans HAZ.out
    obtain ⟨V, hV⟩ : ∃ V, V = Z.setCell ⟨y.p, 5, none⟩ (.slice h2.a F.length h2.c) := ⟨_, rfl⟩
    have kV : Kb (fun g => g = y.p) Z V := by rw [hV]; exact Kb.set _ _ _ _
    have kwV : Kb (fun g => g = y.p ∨ g ∈ y.rblk) w V := (Kb.of_aft aa).trans (kV.mono fun g _ h => .inl h)
    have rV : RowAt V y.p (y.x.cells ++ [h2.v]) := by
      have h3 := HRZ.out.set 5 (.slice h2.a F.length h2.c) (by simp)
      rw [← hV] at h3
      rw [OTab.cells_of HEY.out.tab rfl, own_slice HO2.out]
      exact h3
    have bV : ∃ cur t, V.heap[y.p]? = some (.cells cur t (0, 0)) := by
      obtain ⟨cur, t, e⟩ := (HEY.out.aft aa).blk
      rw [hV]
      exact ⟨_, _, setCell_heap_same Z y.p 5 _ e⟩
    have hnr : ∀ g ∈ y.rblk, g ≠ y.p := fun g hg e => by
      subst e
      have h3 := HYN.out
      unfold OShf.blks at h3
      exact (List.nodup_cons.1 h3).1 (List.mem_append.2 (.inr hg))
    have yp := HEY.out.row.1
    have zW := HAW.out.size
    have l1 := blk_lt HO1.out
    have l2 := blk_lt HO2.out
    have subG : ∀ g ∈ G.flatMap (·.h.blk), g ∈ y.rblk := fun g hg => List.mem_append.2 (.inr ((flatMap_sub HGS.out).subset hg))
    have subF : ∀ g ∈ F.flatMap (·.h.blk), g ∈ y.rblk := fun g hg => List.mem_append.2 (.inr ((flatMap_sub HLS.out).subset hg))
    have ltR : ∀ g ∈ y.rblk, g < w.heap.size := fun g hg => (HEY.out.lt g (by unfold OShf.blks; simp [hg])).2
    have hn1 : ∀ g ∈ rowBlks h1 G, g ∈ y.rblk ∨ W.heap.size ≤ g := fun g hg => by
      rcases List.mem_append.1 hg with hg | hg
      · exact .inr (l1 g hg).1
      · exact .inl (subG g hg)
    have hn2 : ∀ g ∈ rowBlks h2 F, g ∈ y.rblk ∨ W.heap.size ≤ g := fun g hg => by
      rcases List.mem_append.1 hg with hg | hg
      · exact .inr (l2 g hg).1
      · exact .inl (subF g hg)
    have ne1 : ∀ g ∈ rowBlks h1 G, g ≠ y.p := fun g hg e => by
      rcases hn1 g hg with h | h
      · exact hnr g h e
      · omega
    have ne2 : ∀ g ∈ rowBlks h2 F, g ≠ y.p := fun g hg e => by
      rcases hn2 g hg with h | h
      · exact hnr g h e
      · omega
    have nd1 : (rowBlks h1 G).Nodup := List.nodup_append.2 ⟨blk_nodup _, HRN.out.sublist (flatMap_sub HGS.out), fun a ha b hb e => by
      have := (l1 a ha).1
      have := ltR b (subG b hb)
      omega⟩
    have nd2 : (rowBlks h2 F).Nodup := List.nodup_append.2 ⟨blk_nodup _, HRN.out.sublist (flatMap_sub HLS.out), fun a ha b hb e => by
      have := (l2 a ha).1
      have := ltR b (subF b hb)
      omega⟩
    have r1 : RowsIn V B h1 G := (HR1.out.aft HAZ.out).kb kV fun g hg e => ne1 g hg e
    have r2 : RowsIn V B h2 F := (HR2.out.aft HAZ.out).kb kV fun g hg e => ne2 g hg e
    have sin : StoIn V B s hl (L.set q ⟨L[q].p, L[q].x, F, h2⟩) :=
      HIN.out.turn hq (by rw [HY.out]; exact kwV) (by rw [HY.out]; exact rV) (by rw [HY.out]; exact bV) r2 (by rw [HY.out]; exact fun g hg => (hn2 g hg).imp_right (Nat.le_trans zW)) nd2
    have HYB : ∀ g, g ∈ y.blks → g ∈ stoBlks s hl L := fun g hg => mem_sto hq (by rw [HY.out]; exact hg)
    have hsub := turn_sub (s := s) (hl := hl) (N := w.heap.size) (R' := F) (h' := h2) hq fun g hg => (hn2 g hg).imp (fun h => HYB g (by unfold OShf.blks; simp [h])) (Nat.le_trans zW)
    have hsub2 : ∀ g, g ∈ stoBlks s hl (L.set q ⟨L[q].p, L[q].x, F, h2⟩) → g ∈ stoBlks s hl L ∨ g ∈ h2.blk := fun g hg => by
      have h3 := turn_sub2 (s := s) (hl := hl) (L := L) (q := q) (R' := F) (h' := h2) hq g hg
      rcases h3 with h | h
      · exact .inl h
      · rcases List.mem_append.1 h with h | h
        · exact .inr h
        · exact .inl (HYB g (by unfold OShf.blks; simp [subF g h]))
    rw [← hV]
    refine ⟨_, h1, G, storeS_set hq, rfl, by simp only [List.length_map]; rfl, kwV.mono fun g _ h => HYB g ?_, sin, turn_x hq, r1, nd1, fun g hg h => ?_, hsub, fun g hg => (hn1 g hg).imp (fun h => HYB g (by unfold OShf.blks; simp [h])) (Nat.le_trans zW)⟩
    · rcases h with rfl | h
      · unfold OShf.blks; simp
      · unfold OShf.blks; simp [h]
    · rcases List.mem_append.1 hg with hg | hg
      · rcases hsub2 g h with h | h
        · have := (l1 g hg).1
          have := (HIN.out.lt g h).2
          omega
        · have h3 := Hd.mem_blk.1 h
          exact HD.out g (Hd.mem_blk.1 hg) h3
      · have h3 := turn_out (R' := F) (h' := h2) HIN.out hq g (by rw [HY.out]; exact subG g hg) h
        rcases List.mem_append.1 h3 with h3 | h3
        · have := (l2 g h3).1
          have := ltR g (subG g hg)
          omega
        · exact HAP.out g hg h3
  · go_wp2_with fail
    go_ret2
    rw [HREM.out]
    exact doQ_no HIN.out (HAX.out.trans HAZ.out) 113
end Go.Proofs.YtiadkchlkdaceaaGreat

namespace Go.Proofs.YtiadkchlkdaceaaGreat
open Go.RowKit Go.Deep
set_option maxRecDepth 100000
set_option linter.unusedVariables false
set_option maxHeartbeats 8000000 in
theorem insert12 (B s : Nat) (hl : Hd) (L : List OShf) (ss : List Sch) (q : Nat) (x : ROp) (A : Option Addr) (cap : Nat) (w : World) (hin : StoIn w B s hl L) (ok : SOk (storeS L) ss) (sm : ∀ y ∈ L, SmT y.x.t) (hq : q < L.length) (hrow : SlAt w 3 ValR A cap x.row) (hA : ∀ b off, A = some ⟨b, off, none⟩ → 0 < x.row.length → b ∉ stoBlks s hl L) :
    Calls Tryz.prog 33 #[.pointer (some ⟨s, 0, none⟩), .pointer (some ⟨L[q].p, 0, none⟩), .agg #[.int .i64 x.kind, .string x.role, .string x.schema, .string x.table, .slice A x.row.length cap, .string x.col, .int .i64 x.v.kind, .int .i64 x.v.int, .string x.v.text]] w (DoQ w B s hl L (insS (storeS L) q x.row)) := by
  obtain ⟨kd, role, schema, table, row, col, v⟩ := x
  simp only at hrow ⊢
  obtain ⟨r, hr⟩ : ∃ r, wrongS (storeS L) q row = r := ⟨_, rfl⟩
  have hqS : q < (storeS L).length := by simpa [storeS] using hq
  have hsn : shfN (storeS L) q = L[q].s := by rw [shfN_get hqS]; simp [storeS]
  obtain ⟨y, hy⟩ : ∃ y, L[q] = y := ⟨_, rfl⟩
  have hey := hin.each L[q] (List.getElem_mem hq)
  rw [hy] at hey hsn ⊢
  have HOK := Lib.hid ok
  have HQS := Lib.hid hqS
  have CW := Lib.hid (show ∀ V, Aft w V → Calls Tryz.prog 68 #[.pointer (some ⟨s, 0, none⟩), .pointer (some ⟨y.p, 0, none⟩), .slice A row.length cap] V fun e w' => e = .returned (.int .i64 r) ∧ Aft V w' from fun V a => by
    have := wrong12 s (L.map (·.p)) (storeS L) ss q row A cap V ((hin.aft a).is ok sm) ok (by simpa using hq) (vals_aft a hrow)
    rw [hr] at this
    simpa [hy] using this)
  obtain ⟨W, hW⟩ : ∃ W, W = w.alloc (.cells #[.int .i64 kd, .string role, .string schema, .string table, .slice A row.length cap, .string col, .int .i64 v.kind, .int .i64 v.int, .string v.text] 39) := ⟨_, rfl⟩
  have aW : Aft w W := by rw [hW]; exact (Aft.refl w).alloc _
  have rW : RowAt W w.heap.size [.int .i64 kd, .string role, .string schema, .string table, .slice A row.length cap, .string col, .int .i64 v.kind, .int .i64 v.int, .string v.text] := by rw [hW]; exact box_row2 (Aft.refl _)
  have HRW := Lib.hid rW
  have HAW := Lib.hid aW
  have HR := Lib.hid hr
  have HIN := Lib.hid hin
  have HQ := Lib.hid hq
  have HSN := Lib.hid hsn
  have HY := Lib.hid hy
  have HEY := Lib.hid hey
  have HROW := Lib.hid hrow
  have HA0 := Lib.hid hA
  have cB := (rW.cell (j := 4) rfl)
  have zB := rW.1
  clear aW rW hr hin hsn hy hey hrow hA ok sm hqS
  go_enter Tryz.func33, Tryz.ntmps33
  go_wp2_with fail
  rw [← hW]
  clear hW
  go_wp2_with fail
  refine (CW.out W HAW.out).mono ?_
  rintro e X ⟨rfl, aX⟩
  have HAX := Lib.hid (HAW.out.trans aX)
  have HRX := Lib.hid (HRW.out.aft aX)
  clear aX CW cB zB
  by_cases h0 : r = 0
  · subst h0
    obtain ⟨hb, h64⟩ := wrong_zero HR.out
    rw [HSN.out] at hb h64
    have hb8 : row.length ≤ 1000000 := by
      have h1 := ((besideB_iff formB _ _).1 hb).1
      have h2 := (HOK.out.shf (x := y.s) (by rw [← HSN.out, shfN_get HQS.out]; exact List.getElem_mem _)).2.1
      have h1 : y.s.t.cols.length = row.length := h1
      omega
    have HB8 := Lib.hid hb8
    have inX := HEY.out.aft HAX.out
    have own := inX.rows.own
    have e5 := inX.row
    unfold OShf.cells at e5
    rw [OTab.cells_of inX.tab rfl, own_slice own] at e5
    rw [own_slice own] at own
    have HOW := Lib.hid own
    have HIX := Lib.hid inX
    have HE5 := Lib.hid e5
    have x5 := e5.cell (j := 5) rfl
    have xz := e5.1
    have xf : X.frozen? ⟨y.p, 5, none⟩ = false := e5.2.2 5 (by simp)
    have c4 := HRX.out.cell (j := 4) rfl
    have cz := HRX.out.1
    have hyl : y.rows.length < 64 := by simpa [OShf.s] using h64
    have HVB := Lib.hid (show ∀ g, InV (.slice y.hr.a y.rows.length y.hr.c) g → g ∈ y.hr.blk from fun g hg => Hd.mem_blk.2 (by rw [own_slice HEY.out.rows.own]; exact hg))
    have HND := Lib.hid (show y.blks.Nodup from by
      have h1 := (List.nodup_append.1 (List.nodup_cons.1 HIN.out.nd).2).2.1
      have hm : y ∈ L := by rw [← HY.out]; exact List.getElem_mem hq
      exact nodup_of h1 hm)
    have n1 : ¬ InV (.slice y.hr.a y.rows.length y.hr.c) y.p := fun hg => by
      have h1 := HND.out
      unfold OShf.blks at h1
      exact (List.nodup_cons.1 h1).1 (by unfold OShf.rblk; simp [HVB.out _ hg])
    have n2 : ¬ InV (.slice y.hr.a y.rows.length y.hr.c) w.heap.size := fun hg => by
      have := (HEY.out.rows.lt w.heap.size (List.mem_append.2 (.inl (HVB.out _ hg)))).2
      omega
    obtain ⟨i0, hi0, hz0, hz1, hz2⟩ := info_parts info2Row
    have HI := Lib.hid hi0
    have HZ0 := Lib.hid hz0
    have HZ1 := Lib.hid hz1
    have HZ2 := Lib.hid hz2
    have HBX := Lib.hid (show B ≤ X.heap.size by have := HEY.out.ge; have := HEY.out.row.1; have := HAX.out.size; omega)
    clear hi0 hz0 hz1 hz2 own e5 inX hb h64 hb8
    go_wp2_with fail
    refine wp_region_reads 7 10 (fun w' => ∃ x : KLat (.slice y.hr.a y.rows.length y.hr.c) X, w' = klat (.slice y.hr.a y.rows.length y.hr.c) X x) (by kernel_rfl) (by kernel_rfl) (KL.aft (Aft.refl X).drew) ?_
    simp only [List.take_succ_cons, List.take_zero, List.drop_succ_cons, List.drop_zero]
    repeat (go_big_quiet_step (fail))
    refine wpQuiet_nil ?_
    refine wpChain_step (fun K hK => ?_)
    go_simp
    obtain ⟨D, hD⟩ : ∃ D, D = X.drew := ⟨_, rfl⟩
    have aD : Aft X D := by rw [hD]; exact (Aft.refl X).drew
    rw [← hD]
    go_at_call 69
    refine (cloneRow A cap row w D (HAX.out.trans aD) HROW.out HB8.out).mono ?_
    rintro e Y ⟨h4, rfl, aY, ho4⟩
    dsimp only
    refine hK _ _ (fun _ => KL.aft (aD.trans aY)) ?_
    clear hK K hD
    have HO4 := Lib.hid ho4
    have zXD := aD.size
    refine wpChain_step (fun K hK => ?_)
    go_simp
    refine hK _ _ (fun _ => KL.aft ((aD.trans aY).alloc _)) ?_
    clear hK K ho4
    have HAY := Lib.hid (aD.trans aY)
    have HDY := Lib.hid aY
    have HXD := Lib.hid aD
    have zXY := HAY.out.size
    refine wpChain_step (fun K hK => ?_)
    refine wp_append_lies _ (.tmp 21) (.tmp 25) 47 rfl B 34 i0 _ 1 24 Tryz.underlying47 HI.out HZ0.out HZ1.out HZ2.out rfl (by decide) (.slice y.hr.a y.rows.length y.hr.c) y.rows.length (y.rows.flatMap ORow.cells) (by rfl) ((own_aft HOW.out HAY.out).alloc _) ⟨Y.heap.size, 0, none⟩ 1 1 [.slice h4.a row.length h4.c] (by rfl) rfl (World.news_of_block (cs := #[.slice h4.a row.length h4.c]) (t := 34) (fr := (0, 0)) (heap_alloc_new Y _)) (by simp [Value.oneCell']) (by omega) (by unfold maxLen; omega) (by omega) (by have := HBX.out; simp; omega) (Y.heap.size + 1) (by simp) ?_
    intro gg cap' w5 hown5 hgrow hat hgl
    refine hK _ _ (fun _ => KL.of ((Kb.of_aft (HAY.out.alloc _)).trans (kb_in hgrow))) ?_
    clear hK K
    refine wpChain_list _ (by simp) (by decide) ?_
    have kw5 : Kb (InV (.slice y.hr.a y.rows.length y.hr.c)) X w5 := (Kb.of_aft (HAY.out.alloc _)).trans (kb_in hgrow)
    have HK5 := Lib.hid kw5
    have x5 := kw5.cell x5 n1
    have row5 := kw5.row HE5.out n1
    have xf5 : w5.frozen? ⟨y.p, 5, none⟩ = false := row5.2.2 5 (by simp)
    have z5 := row5.1
    have HR5 := Lib.hid row5
    have HRB := Lib.hid (kw5.row HRX.out n2)
    have HP := Lib.hid (show RowsIn w5 B ⟨some ⟨gg, 0, none⟩, y.rows.length + 1, cap'⟩ (y.rows ++ [⟨row, h4⟩]) ∧ (rowBlks ⟨some ⟨gg, 0, none⟩, y.rows.length + 1, cap'⟩ (y.rows ++ [⟨row, h4⟩])).Nodup from by
      have e0 : y.hr.v = .slice y.hr.a y.rows.length y.hr.c := own_slice HEY.out.rows.own
      refine rows_push (o := ⟨row, h4⟩) (h := y.hr) (wr := D) (w4 := Y) (ob := .cells #[.slice h4.a row.length h4.c] 34) (HIX.out.rows.aft HXD.out) ?_ HDY.out HO4.out (by have := HBX.out; omega) (by rw [e0]; exact hgrow) rfl (by simpa [own_slice HO4.out] using hown5) (by rw [e0]; intro g hg; rw [blk_some, List.mem_singleton] at hg; subst hg; rcases hat with h | h; exact .inl h; refine .inr ?_; have h := h; simp; omega)
      have h1 := HND.out
      unfold OShf.blks OShf.rblk at h1
      exact (List.nodup_append.1 (List.nodup_cons.1 h1).2).2.1)
    have HAT := Lib.hid (show ∀ g ∈ rowBlks ⟨some ⟨gg, 0, none⟩, y.rows.length + 1, cap'⟩ (y.rows ++ [⟨row, h4⟩]), g ∈ y.rblk ∨ X.heap.size ≤ g from fun g hg => by
      unfold rowBlks at hg
      rw [blk_some, List.flatMap_append, List.flatMap_cons, List.flatMap_nil, List.append_nil] at hg
      simp only [List.mem_append, List.mem_singleton] at hg
      unfold OShf.rblk
      rcases hg with rfl | h | h
      · rcases hat with h1 | h1
        · exact .inl (List.mem_append.2 (.inl (HVB.out _ h1)))
        · refine .inr ?_
          omega
      · exact .inl (List.mem_append.2 (.inr h))
      · have := (blk_lt HO4.out g h).1
        exact .inr (by omega))
    clear hown5 hgrow hat hgl kw5 row5 c4 cz
    go_wp2_with fail
    refine NoPanic.normal ?_
    obtain ⟨V, hV⟩ : ∃ V, V = w5.setCell ⟨y.p, 5, none⟩ (.slice (some ⟨gg, 0, none⟩) (y.rows.length + 1) cap') := ⟨_, rfl⟩
    have kV : Kb (fun g => g = y.p) w5 V := by rw [hV]; exact Kb.set _ _ _ _
    have rV : RowAt V y.p (y.x.cells ++ [(Hd.mk (some ⟨gg, 0, none⟩) (y.rows.length + 1) cap').v]) := by
      have h1 := HR5.out.set 5 (.slice (some ⟨gg, 0, none⟩) (y.rows.length + 1) cap') (by simp)
      rw [← hV] at h1
      rw [OTab.cells_of HEY.out.tab rfl]
      exact h1
    have bV : ∃ cur t, V.heap[y.p]? = some (.cells cur t (0, 0)) := by
      obtain ⟨cur, t, e⟩ := HIX.out.blk
      have e2 := (HK5.out.block y.p HIX.out.row.1 n1).trans e
      rw [hV]
      exact ⟨_, _, setCell_heap_same w5 y.p 5 _ e2⟩
    have HYB := Lib.hid (show ∀ g, g ∈ y.blks → g ∈ stoBlks s hl L from fun g hg => mem_sto hq (by rw [HY.out]; exact hg))
    have kwV : Kb (fun g => g = y.p ∨ g ∈ y.rblk) w V := ((Kb.of_aft HAX.out).trans (HK5.out.mono fun g _ h => .inr (by unfold OShf.rblk; exact List.mem_append.2 (.inl (HVB.out g h))))).trans (kV.mono fun g _ h => .inl h)
    have HKV := Lib.hid kwV
    have hnp : ∀ g ∈ rowBlks ⟨some ⟨gg, 0, none⟩, y.rows.length + 1, cap'⟩ (y.rows ++ [⟨row, h4⟩]), g ≠ y.p := fun g hg e => by
      subst e
      rcases HAT.out _ hg with h | h
      · have h1 := HND.out
        unfold OShf.blks at h1
        exact (List.nodup_cons.1 h1).1 (List.mem_append.2 (.inr h))
      · have := HIX.out.row.1; omega
    have rin : RowsIn V B ⟨some ⟨gg, 0, none⟩, y.rows.length + 1, cap'⟩ (y.rows ++ [⟨row, h4⟩]) := HP.out.1.kb kV fun g hg e => hnp g hg e
    have HAT2 := Lib.hid (show ∀ g ∈ rowBlks ⟨some ⟨gg, 0, none⟩, y.rows.length + 1, cap'⟩ (y.rows ++ [⟨row, h4⟩]), g ∈ y.rblk ∨ w.heap.size ≤ g from fun g hg => (HAT.out g hg).imp_right (Nat.le_trans HAX.out.size))
    have sin : StoIn V B s hl (L.set q ⟨L[q].p, L[q].x, y.rows ++ [⟨row, h4⟩], ⟨some ⟨gg, 0, none⟩, y.rows.length + 1, cap'⟩⟩) :=
      HIN.out.turn hq (by rw [HY.out]; exact kwV) (by rw [HY.out]; exact rV) (by rw [HY.out]; exact bV) rin (by rw [HY.out]; exact HAT2.out) HP.out.2
    have HSI := Lib.hid sin
    have rowV : SlAt V 3 ValR A cap row := SlAt.kbR HROW.out kwV (fun b off e hl0 hb => HA0.out b off e hl0 (HYB.out b (by
      rcases hb with rfl | hb
      · unfold OShf.blks; simp
      · unfold OShf.blks; simp [hb]))) fun _ _ h => h
    have HRV := Lib.hid rowV
    have c4 : V.cell? ⟨w.heap.size, 4, none⟩ = some (.slice A row.length cap) := (kV.row HRB.out (fun e => by have := HEY.out.row.1; omega)).cell (j := 4) rfl
    have cz := (kV.row HRB.out (fun e => by have := HEY.out.row.1; omega)).1
    have HVZ := Lib.hid kwV.size
    rw [← hV]
    clear hV kV rV bV kwV hnp rin sin rowV x5 xf5 z5 xf xz
    go_wp2_with fail
    refine (cloneRow A cap row V V (Aft.refl V) HRV.out HB8.out).mono ?_
    rintro e Z ⟨h7, rfl, aZ, ho7⟩
    have HAZ := Lib.hid aZ
    have HO7 := Lib.hid ho7
    clear aZ ho7 c4 cz
    go_wp2_with fail
    go_ret2
    have zz := HAZ.out.size
    have zw := HVZ.out
    have hrw : shfN (storeS L) q = ⟨y.x.t, y.rows.map (·.vals)⟩ := HSN.out
    rw [show insS (storeS L) q row = (putS (storeS L) q ((y.rows ++ [(⟨row, h4⟩ : ORow)]).map (·.vals)), [row], 0) by unfold insS; rw [HR.out, if_neg (by simp), hrw, List.map_append]; rfl]
    have kfin : Kb (fun g => g = y.p ∨ g ∈ y.rblk) w (Z.alloc (.cells #[.slice h7.a row.length h7.c] 34)) := HKV.out.trans (Kb.of_aft (HAZ.out.alloc _))
    have olt := blk_lt HO7.out
    have slt := HSI.out.lt
    have hsub := turn_sub (s := s) (hl := hl) (N := w.heap.size) (R' := y.rows ++ [⟨row, h4⟩]) (h' := ⟨some ⟨gg, 0, none⟩, y.rows.length + 1, cap'⟩) hq fun g hg => (HAT2.out g hg).imp_left fun h => HYB.out g (by unfold OShf.blks; simp [h])
    refine ⟨_, ⟨some ⟨Z.heap.size, 0, none⟩, 1, 1⟩, [⟨row, h7⟩], storeS_set hq, rfl, rfl, kfin.mono fun g _ h => HYB.out g ?_, HSI.out.aft (HAZ.out.alloc _), turn_x hq, ⟨?_, fun o ho => ?_⟩, ?_, fun g hg h => ?_, hsub, fun g hg => .inr ?_⟩
    · rcases h with rfl | h
      · unfold OShf.blks; simp
      · unfold OShf.blks; simp [h]
    · have h1 := own_boxS Z B (.slice h7.a row.length h7.c) rfl (by have := HBX.out; have := HEY.out.ge; have := HEY.out.row.1; omega)
      have e1 : [(⟨row, h7⟩ : ORow)].flatMap ORow.cells = [.slice h7.a row.length h7.c] := by
        rw [List.flatMap_cons, List.flatMap_nil, List.append_nil]
        unfold ORow.cells
        rw [own_slice HO7.out]
      rw [e1]
      exact h1
    · rw [List.mem_singleton] at ho
      subst ho
      exact own_down (own_aft HO7.out ((Aft.refl Z).alloc _)) (by have := HEY.out.ge; have := HEY.out.row.1; omega)
    · unfold rowBlks
      rw [blk_some, List.flatMap_cons, List.flatMap_nil, List.append_nil]
      refine List.nodup_append.2 ⟨by simp, blk_nodup _, fun a ha b hb e => ?_⟩
      rw [List.mem_singleton] at ha
      subst ha
      have := (olt b hb).2
      simp only at e
      omega
    · have h1 := (slt g h).2
      unfold rowBlks at hg
      rw [blk_some, List.flatMap_cons, List.flatMap_nil, List.append_nil] at hg
      rcases List.mem_append.1 hg with hg | hg
      · rw [List.mem_singleton] at hg
        subst hg
        simp only at h1
        omega
      · have := (olt g hg).1
        omega
    · have z1 := HVZ.out
      have z2 := HAZ.out.size
      unfold rowBlks at hg
      rw [blk_some, List.flatMap_cons, List.flatMap_nil, List.append_nil] at hg
      rcases List.mem_append.1 hg with hg | hg
      · rw [List.mem_singleton] at hg
        subst hg
        simp only
        omega
      · have := (olt g hg).1
        omega
  · have h1 : (r == 0) = false := by simpa using h0
    go_wp2_with fail
    go_ret2
    rw [show insS (storeS L) q row = (storeS L, [], r) by unfold insS; rw [HR.out, if_pos h0]]
    exact doQ_no HIN.out HAX.out r
end Go.Proofs.YtiadkchlkdaceaaGreat

namespace Go.Proofs.YtiadkchlkdaceaaGreat
open Go.RowKit Go.Deep
set_option maxRecDepth 100000
set_option linter.unusedVariables false
theorem doS_is (S : List Shf) (x : ROp) : doS S x = if mayO x = false then (S, [], 1) else if shfAt S x.schema x.table < 0 then (S, [], 110) else if emp x.col = false ∧ colAt (shfN S (shfAt S x.schema x.table).toNat).t.cols x.col < 0 then (S, [], 110)
    else if x.kind = 1 then insS S (shfAt S x.schema x.table).toNat x.row else if x.kind = 2 then removeS S (shfAt S x.schema x.table).toNat x.col x.v else chooseS S (shfAt S x.schema x.table).toNat x.col x.v := rfl
theorem do1 (name : ByteArray) (kind : Int) (null : Bool) (s : ByteArray) (b1 : Nat) (w : World) (hb1 : b1 < w.heap.size) (hc1 : w.cell? ⟨b1, 5, none⟩ = some (.string s)) :
    Calls Tryz.prog 32 #[.agg #[.string name, .int .i64 kind, .bool null], .pointer (some ⟨b1, 0, none⟩)] w fun e w' => e = .returned (.bool (eqS name s)) ∧ Aft w w' := by
  go_enter Tryz.func32, Tryz.ntmps32
  go_wp2_with fail
  go_ret
  exact ⟨rfl, (Aft.refl _).alloc _⟩
theorem DoQ.from {w V w' : World} {B s : Nat} {hl : Hd} {L : List OShf} {r : List Shf × List (List Val) × Int} {e : Ending} (a : Aft w V) (h : DoQ V B s hl L r e w') : DoQ w B s hl L r e w' := by
  obtain ⟨L', h', R, q1, q2, q3, q4, q5, q6, q7, q8, q9, q10, q11⟩ := h
  exact ⟨L', h', R, q1, q2, q3, (Kb.of_aft a).trans q4, q5, q6, q7, q8, q9, fun g hg => (q10 g hg).imp_right (Nat.le_trans a.size), fun g hg => (q11 g hg).imp_right (Nat.le_trans a.size)⟩
theorem DoQ.res {w w' : World} {B s : Nat} {hl : Hd} {L : List OShf} {r : List Shf × List (List Val) × Int} {e : Ending} (h : DoQ w B s hl L r e w') : ∃ u v, e = .returned (.tuple #[u, v]) := by
  obtain ⟨L', h', R, q1, q2, q3, _⟩ := h
  exact ⟨_, _, q3⟩
set_option maxHeartbeats 8000000 in
theorem do12 (B s : Nat) (hl : Hd) (L : List OShf) (ss : List Sch) (x : ROp) (A : Option Addr) (cap : Nat) (w : World) (hin : StoIn w B s hl L) (ok : SOk (storeS L) ss) (sm : ∀ y ∈ L, SmT y.x.t) (hrow : SlAt w 3 ValR A cap x.row) (hA : ∀ b off, A = some ⟨b, off, none⟩ → 0 < x.row.length → b ∉ stoBlks s hl L) (hc : Small x.col.size) (hv : Small x.v.text.size) :
    Calls Tryz.prog 11 #[.pointer (some ⟨s, 0, none⟩), .agg #[.int .i64 x.kind, .string x.role, .string x.schema, .string x.table, .slice A x.row.length cap, .string x.col, .int .i64 x.v.kind, .int .i64 x.v.int, .string x.v.text]] w (DoQ w B s hl L (doS (storeS L) x)) := by
  have hdo := doS_is (storeS L) x
  have CM := Lib.hid (show ∀ V, Calls Tryz.prog 30 #[.agg #[.int .i64 x.kind, .string x.role, .string x.schema, .string x.table, .slice A x.row.length cap, .string x.col, .int .i64 x.v.kind, .int .i64 x.v.int, .string x.v.text]] V fun e w' => e = .returned (.bool (mayO x)) ∧ Aft V w' from fun V => may12 x A cap V hc hv)
  have CF := Lib.hid (show ∀ V, Aft w V → Calls Tryz.prog 25 #[.pointer (some ⟨s, 0, none⟩), .string x.schema, .string x.table] V fun e w' => e = .returned (ptrV (L.map (·.p)) (shfAt (storeS L) x.schema x.table)) ∧ V = w' from fun V a => find12 s (L.map (·.p)) (storeS L) x.schema x.table V ((hin.aft a).is ok sm))
  have HIN := Lib.hid hin
  have CI := Lib.hid (show ∀ V, Aft w V → ∀ q (hq : q < L.length), Calls Tryz.prog 33 #[.pointer (some ⟨s, 0, none⟩), .pointer (some ⟨L[q].p, 0, none⟩), .agg #[.int .i64 x.kind, .string x.role, .string x.schema, .string x.table, .slice A x.row.length cap, .string x.col, .int .i64 x.v.kind, .int .i64 x.v.int, .string x.v.text]] V (DoQ V B s hl L (insS (storeS L) q x.row)) from fun V a q hq => insert12 B s hl L ss q x A cap V (hin.aft a) ok sm hq (vals_aft a hrow) hA)
  have CR := Lib.hid (show ∀ V, Aft w V → ∀ q (hq : q < L.length), Calls Tryz.prog 34 #[.pointer (some ⟨s, 0, none⟩), .pointer (some ⟨L[q].p, 0, none⟩), .agg #[.int .i64 x.kind, .string x.role, .string x.schema, .string x.table, .slice A x.row.length cap, .string x.col, .int .i64 x.v.kind, .int .i64 x.v.int, .string x.v.text]] V (DoQ V B s hl L (removeS (storeS L) q x.col x.v)) from fun V a q hq => remove12 B s hl L ss q x A cap V (hin.aft a) ok sm hq)
  have CC := Lib.hid (show ∀ V, Aft w V → ∀ q (hq : q < L.length), Calls Tryz.prog 35 #[.pointer (some ⟨s, 0, none⟩), .pointer (some ⟨L[q].p, 0, none⟩), .agg #[.int .i64 x.kind, .string x.role, .string x.schema, .string x.table, .slice A x.row.length cap, .string x.col, .int .i64 x.v.kind, .int .i64 x.v.int, .string x.v.text]] V (DoQ V B s hl L (chooseS (storeS L) q x.col x.v)) from fun V a q hq => choose12 B s hl L ss q x A cap V (hin.aft a) ok sm hq)
  have PA := Lib.hid (show ∀ y ∈ L, Parted w y from fun y hy => parted hin ok sm hy)
  obtain ⟨D, hD⟩ : ∃ D, doS (storeS L) x = D := ⟨_, rfl⟩
  rw [hD] at hdo ⊢
  obtain ⟨j, hj⟩ : ∃ j, shfAt (storeS L) x.schema x.table = j := ⟨_, rfl⟩
  have hjr : -1 ≤ j ∧ j < L.length := by
    have := idxP_range (fun y : Shf => eqS y.t.schema x.schema && eqS y.t.name x.table) (storeS L)
    rw [← hj]
    unfold shfAt
    simpa [storeS] using this
  have hsn : ∀ q (h : q < L.length), shfN (storeS L) q = L[q].s := fun q h => by rw [shfN_get (by simpa [storeS] using h)]; simp [storeS]
  obtain ⟨kd, role, schema, table, row, col, v⟩ := x
  simp only at hdo CM CF CI CR CC hj hrow hc hv ⊢
  rw [hj] at hdo CF
  obtain ⟨my, hmy⟩ : ∃ my, mayO ⟨kd, role, schema, table, row, col, v⟩ = my := ⟨_, rfl⟩
  rw [hmy] at hdo CM
  have HDO := Lib.hid hdo
  have HJR := Lib.hid hjr
  have HSN := Lib.hid hsn
  obtain ⟨W, hW⟩ : ∃ W, W = w.alloc (.cells #[.int .i64 kd, .string role, .string schema, .string table, .slice A row.length cap, .string col, .int .i64 v.kind, .int .i64 v.int, .string v.text] 39) := ⟨_, rfl⟩
  have aW : Aft w W := by rw [hW]; exact (Aft.refl w).alloc _
  have rW : RowAt W w.heap.size [.int .i64 kd, .string role, .string schema, .string table, .slice A row.length cap, .string col, .int .i64 v.kind, .int .i64 v.int, .string v.text] := by rw [hW]; exact box_row2 (Aft.refl _)
  have HAW := Lib.hid aW
  have KF := Lib.hid (show ∀ V, Aft W V → (V.cell? ⟨w.heap.size, 0, none⟩ = some (.int .i64 kd) ∧ V.cell? ⟨w.heap.size, 1, none⟩ = some (.string role) ∧ V.cell? ⟨w.heap.size, 2, none⟩ = some (.string schema) ∧ V.cell? ⟨w.heap.size, 3, none⟩ = some (.string table) ∧ V.cell? ⟨w.heap.size, 4, none⟩ = some (.slice A row.length cap) ∧ V.cell? ⟨w.heap.size, 5, none⟩ = some (.string col) ∧ V.cell? ⟨w.heap.size, 6, none⟩ = some (.int .i64 v.kind) ∧ V.cell? ⟨w.heap.size, 7, none⟩ = some (.int .i64 v.int) ∧ V.cell? ⟨w.heap.size, 8, none⟩ = some (.string v.text) ∧ w.heap.size < V.heap.size) from fun V a => by
    have r := rW.aft a
    exact ⟨r.cell (j := 0) rfl, r.cell (j := 1) rfl, r.cell (j := 2) rfl, r.cell (j := 3) rfl, r.cell (j := 4) rfl, r.cell (j := 5) rfl, r.cell (j := 6) rfl, r.cell (j := 7) rfl, r.cell (j := 8) rfl, r.1⟩)
  have lw := Nat.lt_succ_self w.heap.size
  clear aW rW hdo hjr hsn hin ok sm hrow hA hc hv hD hmy hj
  go_enter Tryz.func11, Tryz.ntmps11
  go_wp2_with fail
  rw [← hW]
  clear hW
  obtain ⟨c0, c1, c2, c3, c4, c5, c6, c7, c8, cz⟩ := KF.out W (Aft.refl W)
  go_wp2_with fail
  refine (CM.out W).mono ?_
  rintro e X ⟨rfl, aX⟩
  clear c0 c1 c2 c3 c4 c5 c6 c7 c8 cz CM
  obtain ⟨c0, c1, c2, c3, c4, c5, c6, c7, c8, cz⟩ := KF.out X aX
  have HAX := Lib.hid (HAW.out.trans aX)
  have HWX := Lib.hid aX
  clear aX
  cases my
  · go_wp2_with fail
    go_ret2
    rw [HDO.out, if_pos trivial]
    exact doQ_no HIN.out HAX.out 1
  · go_wp2_with fail
    refine (CF.out X HAX.out).mono ?_
    rintro e w1 ⟨rfl, rfl⟩
    clear CF
    by_cases hj0 : j < 0
    · have ej : j = -1 := by have := HJR.out.1; omega
      subst ej
      rw [ptrV_no]
      go_wp2_with fail
      go_ret2
      rw [HDO.out]
      simp only [Bool.true_eq_false, if_false, if_pos hj0]
      exact doQ_no HIN.out HAX.out 110
    · obtain ⟨q, rfl⟩ : ∃ q : Nat, j = q := ⟨j.toNat, by omega⟩
      have hq : q < L.length := by have := HJR.out.2; omega
      have HSQ := Lib.hid (HSN.out q hq)
      have P := PA.out L[q] (List.getElem_mem hq)
      rw [ptrV_at (by simpa using hq), List.getElem_map]
      have hdo := HDO.out
      simp only [Bool.true_eq_false, if_false, if_neg hj0, Int.toNat_natCast] at hdo
      rw [HSQ.out] at hdo
      have CI1 := Lib.hid (fun V a => CI.out V a q hq)
      have CR1 := Lib.hid (fun V a => CR.out V a q hq)
      have CC1 := Lib.hid (fun V a => CC.out V a q hq)
      obtain ⟨y, hy⟩ : ∃ y, L[q] = y := ⟨_, rfl⟩
      rw [hy] at hdo P CI1 CR1 CC1 ⊢
      have HD := Lib.hid hdo
      have HP := Lib.hid P
      have r3 := (P.row.aft HAX.out).cell (j := 3) rfl
      have rz := (P.row.aft HAX.out).1
      have hent := Lib.hid (enters (P := Tryz.prog) Tryz.func32 (by kernel_rfl) rfl)
      clear hdo P CI CR CC PA hy hj0
      cases he : emp col
      · have em1 : col.toList.isEmpty = false := he
        have em2 : ¬ col.toList = [] := by intro h; rw [h] at em1; cases em1
        have C := Lib.hid (contCol12 y.x.hc.a y.x.hc.c y.x.t.cols 32 #[.pointer (some ⟨w.heap.size, 0, none⟩)] (fun c => eqS c.name col) X (cols_aft HAX.out HP.out.cols) hent.out (fun w' ha i hi => by
          obtain ⟨_, _, _, _, _, c5, _, _, _, cz⟩ := KF.out w' (HWX.out.trans ha)
          exact do1 _ _ _ col w.heap.size w' cz c5))
        have hany := (any_iff (fun c : Col => eqS c.name col) y.x.t.cols)
        obtain ⟨an, han⟩ : ∃ an, y.x.t.cols.any (fun c => eqS c.name col) = an := ⟨_, rfl⟩
        rw [han] at C hany
        have HAN := Lib.hid hany
        clear hany han
        go_wp2_with fail
        refine C.out.mono ?_
        rintro e V ⟨rfl, aV⟩
        have HAV := Lib.hid (HAX.out.trans aV)
        clear c0 c1 c2 c3 c4 c5 c6 c7 c8 cz r3 rz C
        obtain ⟨c0, c1, c2, c3, c4, c5, c6, c7, c8, cz⟩ := KF.out V (HWX.out.trans aV)
        clear aV
        cases an
        · go_wp2_with fail
          go_ret2
          rw [HD.out, if_pos ⟨he, Int.not_le.1 fun h => by have := HAN.out.2 h; cases this⟩]
          exact doQ_no HIN.out HAV.out 110
        · have hcol : ¬ (emp col = false ∧ colAt y.s.t.cols col < 0) := fun h => absurd (HAN.out.1 rfl) (Int.not_le.2 h.2)
          have HCL := Lib.hid hcol
          clear hcol
          by_cases hk1 : kd = 1
          · subst hk1
            go_wp2_with fail
            refine (CI1.out V HAV.out).mono ?_
            rintro e w4 h4
            obtain ⟨u1, u2, rfl⟩ := h4.res
            have H4 := Lib.hid h4
            clear h4 CI1 CR1 CC1
            go_wp2_with fail
            go_ret2
            rw [HD.out]
            simp only [if_neg HCL.out, if_true]
            exact H4.out.from HAV.out
          · have ek1 : (kd == 1) = false := by simpa using hk1
            by_cases hk2 : kd = 2
            · subst hk2
              go_wp2_with fail
              refine (CR1.out V HAV.out).mono ?_
              rintro e w4 h4
              obtain ⟨u1, u2, rfl⟩ := h4.res
              have H4 := Lib.hid h4
              clear h4 CI1 CR1 CC1
              go_wp2_with fail
              go_ret2
              rw [HD.out]
              simp only [if_neg HCL.out, if_neg hk1, if_true]
              exact H4.out.from HAV.out
            · have ek2 : (kd == 2) = false := by simpa using hk2
              go_wp2_with fail
              refine (CC1.out V HAV.out).mono ?_
              rintro e w4 h4
              obtain ⟨u1, u2, rfl⟩ := h4.res
              have H4 := Lib.hid h4
              clear h4 CI1 CR1 CC1
              go_wp2_with fail
              go_ret2
              rw [HD.out]
              simp only [if_neg HCL.out, if_neg hk1, if_neg hk2]
              exact H4.out.from HAV.out
      · have em1 : col.toList.isEmpty = true := he
        have em2 : col.toList = [] := by simpa using em1
        have hcol : ¬ (emp col = false ∧ colAt y.s.t.cols col < 0) := fun h => by rw [he] at h; cases h.1
        have HCL := Lib.hid hcol
        clear hcol
        by_cases hk1 : kd = 1
        · subst hk1
          go_wp2_with fail
          refine (CI1.out X HAX.out).mono ?_
          rintro e w4 h4
          obtain ⟨u1, u2, rfl⟩ := h4.res
          have H4 := Lib.hid h4
          clear h4 CI1 CR1 CC1
          go_wp2_with fail
          go_ret2
          rw [HD.out]
          simp only [if_neg HCL.out, if_true]
          exact H4.out.from HAX.out
        · have ek1 : (kd == 1) = false := by simpa using hk1
          by_cases hk2 : kd = 2
          · subst hk2
            go_wp2_with fail
            refine (CR1.out X HAX.out).mono ?_
            rintro e w4 h4
            obtain ⟨u1, u2, rfl⟩ := h4.res
            have H4 := Lib.hid h4
            clear h4 CI1 CR1 CC1
            go_wp2_with fail
            go_ret2
            rw [HD.out]
            simp only [if_neg HCL.out, if_neg hk1, if_true]
            exact H4.out.from HAX.out
          · have ek2 : (kd == 2) = false := by simpa using hk2
            go_wp2_with fail
            refine (CC1.out X HAX.out).mono ?_
            rintro e w4 h4
            obtain ⟨u1, u2, rfl⟩ := h4.res
            have H4 := Lib.hid h4
            clear h4 CI1 CR1 CC1
            go_wp2_with fail
            go_ret2
            rw [HD.out]
            simp only [if_neg HCL.out, if_neg hk1, if_neg hk2]
            exact H4.out.from HAX.out
end Go.Proofs.YtiadkchlkdaceaaGreat

namespace Go.Proofs.YtiadkchlkdaceaaGreat
open Go.RowKit Go.Deep
set_option maxRecDepth 100000
set_option linter.unusedVariables false
structure Dmp where
  schema : ByteArray
  name : ByteArray
  cols : List Col
  rows : List (List Val)
def dumpS (S : List Shf) : List Dmp := S.map fun x => ⟨x.t.schema, x.t.name, x.t.cols, x.rows⟩
structure ODmp where
  schema : ByteArray
  name : ByteArray
  cols : List Col
  hc : Hd
  rows : List ORow
  hr : Hd
def ODmp.s (d : ODmp) : Dmp := ⟨d.schema, d.name, d.cols, d.rows.map (·.vals)⟩
def ODmp.cells (d : ODmp) : List Value := [.string d.schema, .string d.name, d.hc.v, d.hr.v]
def ODmp.blks (d : ODmp) : List Nat := d.hc.blk ++ (d.hr.blk ++ d.rows.flatMap (·.h.blk))
structure DmpIn (w : World) (B : Nat) (d : ODmp) : Prop where
  col : w.ownsRow B 93 3 d.hc.v d.cols.length (d.cols.flatMap colC)
  row : RowsIn w B d.hr d.rows
structure DmpsIn (w : World) (B : Nat) (hl : Hd) (L : List ODmp) : Prop where
  lst : w.ownsRow B 102 4 hl.v L.length (L.flatMap ODmp.cells)
  each : ∀ y ∈ L, DmpIn w B y
  nd : (hl.blk ++ L.flatMap ODmp.blks).Nodup
section
variable {w w' : World} {B s : Nat} {hl : Hd} {L : List ODmp}
theorem DmpIn.kb {P : Nat → Prop} {d : ODmp} (h : DmpIn w B d) (k : Kb P w w') (hne : ∀ g ∈ d.blks, ¬ P g) : DmpIn w' B d :=
  ⟨own_kb h.col k fun g hg => hne g (List.mem_append.2 (.inl (Hd.mem_blk.2 hg))), h.row.kb k fun g hg => hne g (List.mem_append.2 (.inr hg))⟩
theorem DmpIn.aft {d : ODmp} (h : DmpIn w B d) (a : Aft w w') : DmpIn w' B d := h.kb (P := fun _ => False) (Kb.of_aft a) fun _ _ h => h
theorem DmpIn.lt {d : ODmp} (h : DmpIn w B d) : ∀ g ∈ d.blks, B ≤ g ∧ g < w.heap.size := fun g hg => by
  rcases List.mem_append.1 hg with hg | hg
  · exact blk_lt h.col g hg
  · exact h.row.lt g hg
theorem DmpIn.down {B2 : Nat} {d : ODmp} (h : DmpIn w B d) (hB : B2 ≤ B) : DmpIn w B2 d := ⟨own_down h.col hB, h.row.down hB⟩
theorem DmpsIn.lt (h : DmpsIn w B hl L) : ∀ g ∈ hl.blk ++ L.flatMap ODmp.blks, B ≤ g ∧ g < w.heap.size := fun g hg => by
  rcases List.mem_append.1 hg with hg | hg
  · exact blk_lt h.lst g hg
  · obtain ⟨y, hy, hg⟩ := List.mem_flatMap.1 hg
    exact (h.each y hy).lt g hg
theorem DmpsIn.kb {P : Nat → Prop} (h : DmpsIn w B hl L) (k : Kb P w w') (hne : ∀ g ∈ hl.blk ++ L.flatMap ODmp.blks, ¬ P g) : DmpsIn w' B hl L :=
  ⟨own_kb h.lst k fun g hg => hne g (List.mem_append.2 (.inl (Hd.mem_blk.2 hg))), fun y hy => (h.each y hy).kb k fun g hg => hne g (List.mem_append.2 (.inr (List.mem_flatMap.2 ⟨y, hy, hg⟩))), h.nd⟩
theorem DmpsIn.aft (h : DmpsIn w B hl L) (a : Aft w w') : DmpsIn w' B hl L := h.kb (P := fun _ => False) (Kb.of_aft a) fun _ _ h => h
theorem DmpsIn.nil (w : World) (B : Nat) : DmpsIn w B ⟨none, 0, 0⟩ [] := ⟨own_nil _ _ _ _, (fun y h => by cases h), (by simp [blk_nil])⟩
theorem DmpsIn.push {wr w4 w5 : World} {h : Hd} {y : ODmp} {A' : Option Addr} {n cap' : Nat} {ob : Obj} (r : DmpsIn wr B h L) (a4 : Aft wr w4) (hy : DmpIn w4 wr.heap.size y) (ny : y.blks.Nodup) (hB : B ≤ wr.heap.size) (hn : n = L.length + 1)
    (hg : (w4.alloc ob).grownBy w5 h.v.ownBlock) (hown : w5.ownsRow B 102 4 (.slice A' n cap') n (L.flatMap ODmp.cells ++ y.cells)) (hblk : ∀ g ∈ (Hd.mk A' n cap').blk, h.v.ownBlock = some g ∨ w4.heap.size + 1 ≤ g) :
    DmpsIn w5 B ⟨A', n, cap'⟩ (L ++ [y]) := by
  have k := Kb.of_grown hg
  have hlt := r.lt
  have hnd := List.nodup_append.1 r.nd
  have hz := a4.size
  have hol := hy.lt
  refine ⟨?_, fun x hx => ?_, ?_⟩
  · have e : (L ++ [y]).length = n := by simp [hn]
    rw [e]
    simpa [List.flatMap_append, Hd.v] using hown
  · rcases List.mem_append.1 hx with hx | hx
    · refine ((r.each x hx).aft (a4.alloc ob)).kb k fun g hg2 e => ?_
      exact hnd.2.2 g (Hd.mem_blk.2 e) g (List.mem_flatMap.2 ⟨x, hx, hg2⟩) rfl
    · rw [List.mem_singleton] at hx
      subst hx
      refine ((hy.aft ((Aft.refl w4).alloc ob)).kb k fun g hg2 e => ?_).down hB
      have h1 := (hlt g (List.mem_append.2 (.inl (Hd.mem_blk.2 e)))).2
      have h2 := (hol g hg2).1
      omega
  · rw [List.flatMap_append, List.flatMap_cons, List.flatMap_nil, List.append_nil]
    have n2 : (L.flatMap ODmp.blks ++ y.blks).Nodup := nodup_more (N := wr.heap.size) hnd.2.1 ny (fun g hg => (hlt g (List.mem_append.2 (.inr hg))).2) (fun g hg => (hol g hg).1)
    refine List.nodup_append.2 ⟨blk_nodup _, n2, fun a ha b hb e => ?_⟩
    subst e
    rcases hblk a ha with h1 | h1
    · have h2 := hlt a (List.mem_append.2 (.inl (Hd.mem_blk.2 h1)))
      rcases List.mem_append.1 hb with hb | hb
      · exact hnd.2.2 a (Hd.mem_blk.2 h1) a hb rfl
      · have := (hol a hb).1; omega
    · rcases List.mem_append.1 hb with hb | hb
      · have := (hlt a (List.mem_append.2 (.inr hb))).2; omega
      · have := (hol a hb).2; omega
end
def DumpP (w : World) (l : List Dmp) (e : Ending) (w' : World) : Prop := ∃ h D, D.map ODmp.s = l ∧ e = .returned (.slice h.a l.length h.c) ∧ Aft w w' ∧ DmpsIn w' w.heap.size h D
end Go.Proofs.YtiadkchlkdaceaaGreat

