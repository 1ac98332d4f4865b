/- Contracts of the program, part 4. -/
import Derived.OwnWalk
import Derived.Laws.AppendOwn
import Derived.ProofKit
import Derived.OpenShut
import Derived.Deep.Slices
import Derived.ChangeOld
import Derived.SizedLaws
import Derived.WalkKit
import Derived.WalkSpells
import Derived.WalkLawsBesides
import Derived.Lib.Hide
import Derived.Deep.QuietTactic
import Derived.BigQuiet
import Derived.Below
import Derived.Deep.Draws
import Derived.StillTailTactics
import Derived.Laws.Cells
import Derived.Laws.IdiomCopy
import Derived.Test.YtiadkchlkdaceaaGreatRows
import Derived.Deep.Upon
import Derived.OneCell
import Derived.Deep.AppendLies
import Derived.Shelf.SlSortCmp.WholeK
import Derived.IntWalk
import Derived.Lib.Bytealg
import Derived.Lib.SliceRun
import Derived.Deep.RegionHeld3
import Derived.Deep.RegionLaw
import Derived.Test.YtiadkchlkdaceaaGreatPartR1
import Derived.Test.YtiadkchlkdaceaaGreatPartR2
import Derived.Test.YtiadkchlkdaceaaGreatPartR3
namespace Go.Proofs.YtiadkchlkdaceaaGreat
open Go.RowKit
set_option maxRecDepth 100000
set_option linter.unusedVariables false
/-- what Clone gives: a row of its own, with the same cells -/
def CloneQ {α : Type} (ty : TypeId) (size : Nat) (R : World → List Value → α → Prop) (w0 w : World) (l : List α) (e : Ending) (w' : World) : Prop :=
  ∃ v css, e = .returned v ∧ Aft w w' ∧ w'.ownsRow w.heap.size ty size v l.length css.flatten ∧ Chunks w0 size R css l
theorem info2Rul : (Tryz.prog.info? 108).map (fun i => (i.zero, i.size, i.bytes)) = some (some (.agg #[.string ByteArray.empty, .int .i64 0, .slice none 0 0, .int .i64 0, .int .i64 0, .string ByteArray.empty, .string ByteArray.empty, .string ByteArray.empty]), 8, 112) := by kernel_rfl
set_option maxHeartbeats 2000000 in
theorem clone2Rul (A : Option Addr) (cap : Nat) (l : List Rul) (w0 w : World) (ha : Aft w0 w) (h : SlAt w0 8 RulR A cap l) (hb : l.length ≤ 1000000) :
    Calls Tryz.prog 95 #[.slice A l.length cap] w (CloneQ 108 8 RulR w0 w l) := by
  obtain ⟨i0, hi, hz0, hz1, hz2⟩ := info_parts info2Rul
  have q22 : ∀ (w : World) (a : Option Addr) (n c n' c' : Nat), (binOp .eql 74 (.slice a n c) (.slice none n' c')).run Tryz.prog w = .ok (.bool a.isNone) w := fun w a n c n' c' => Lib.run_eql_slice_nil w _ _ a n c n' c' Tryz.underlying74
  cases A with
  | none =>
    have hl0 : l = [] := by
      cases l with
      | nil => rfl
      | cons x l => obtain ⟨b, off, cs, hA, _⟩ := h.2.2 0 (by simp); cases hA
    subst hl0
    go_enter Tryz.func95, Tryz.ntmps95
    go_wp2_with fail
    go_ret
    exact ⟨_, [], rfl, Aft.refl _, own_nil _ _ _ _, Chunks.nil⟩
  | some ad =>
    have HC : ∃ css, Chunks w0 8 RulR css l ∧ ∀ p u, css.flatten[p]? = some u → w.cell? (ad.add p) = some u := by
      by_cases h0 : 0 < l.length
      · obtain ⟨b, off, css, hA, hb', hch, hc⟩ := h.css h0 (by decide)
        simp only [Option.some.injEq] at hA
        subst hA
        refine ⟨css, hch, fun p u hp => ?_⟩
        have hlt : p < l.length * 8 := by rw [← hch.len]; exact (List.getElem?_eq_some_iff.1 hp).1
        rw [add_mk]; exact ha.cell_kept ((hc p hlt).trans hp)
      · have hl0 : l = [] := List.eq_nil_of_length_eq_zero (by omega)
        subst hl0
        exact ⟨[], Chunks.nil, fun p u hp => by simp at hp⟩
    obtain ⟨css, hch, hcell⟩ := HC
    have H1 := Lib.hid hcell
    have H2 : Hid (∀ u ∈ css.flatten, u.oneCell' = true) := Lib.hid (by
      intro u hu
      obtain ⟨c, hc, hu⟩ := List.mem_flatten.1 hu
      obtain ⟨i, hi, rfl⟩ := List.getElem_of_mem hc
      have h3 := (hch.2 i hi (by rw [← hch.1]; exact hi)).2
      obtain ⟨A2, cap2, hcs, _⟩ := h3
      rw [hcs] at hu
      simp only [List.mem_cons, List.not_mem_nil, or_false] at hu
      rcases hu with rfl | rfl | rfl | rfl | rfl | rfl | rfl | rfl <;> simp [Value.oneCell'])
    have H3 := Lib.hid hch
    have HI := Lib.hid hi
    have HZ0 := Lib.hid hz0
    have HZ1 := Lib.hid hz1
    have HZ2 := Lib.hid hz2
    clear hcell hch hi hz0 hz1 hz2 h ha
    go_enter Tryz.func95, Tryz.ntmps95
    go_wp2_with (at_builtin; refine wpList_append_own _ rfl _ _ 74 rfl w.heap.size 108 i0 (.agg #[.string ByteArray.empty, .int .i64 0, .slice none 0 0, .int .i64 0, .int .i64 0, .string ByteArray.empty, .string ByteArray.empty, .string ByteArray.empty]) 8 112 Tryz.underlying74 HI.out HZ0.out HZ1.out HZ2.out rfl (by decide) _ _ _ rfl (World.ownsRow_made w #[] 0 (Nat.le_refl _) (Nat.zero_le _) rfl) ad l.length cap css.flatten rfl ?qc1 ?qc2 ?qc3 ?qc4 ?qc5 ?qc6 ?_)
    case qc1 => exact H3.out.len
    case qc2 =>
      intro j u hj
      exact Lib.cell?_alloc_some _ (H1.out j u hj)
    case qc3 => exact H2.out
    case qc4 => unfold maxLen; omega
    case qc5 => omega
    case qc6 => simp
    intro v' w1 hown hgrow hnil
    have HO := Lib.hid hown
    have HA := Lib.hid (show Aft w w1 from ((Below.refl _ w).alloc (Nat.le_refl _) _).grown hgrow (by simp) (by intro k hk; simp [Value.ownBlock] at hk; omega))
    clear hown hgrow hnil
    go_wp2_with fail
    go_ret
    refine ⟨v', css, rfl, HA.out, ?_, H3.out⟩
    simpa using HO.out
theorem info2Col : (Tryz.prog.info? 93).map (fun i => (i.zero, i.size, i.bytes)) = some (some (.agg #[.string ByteArray.empty, .int .i64 0, .bool false]), 3, 32) := by kernel_rfl
set_option maxHeartbeats 2000000 in
theorem clone2Col (A : Option Addr) (cap : Nat) (l : List Col) (w0 w : World) (ha : Aft w0 w) (h : SlAt w0 3 ColR A cap l) (hb : l.length ≤ 1000000) :
    Calls Tryz.prog 40 #[.slice A l.length cap] w (CloneQ 93 3 ColR w0 w l) := by
  obtain ⟨i0, hi, hz0, hz1, hz2⟩ := info_parts info2Col
  have q22 : ∀ (w : World) (a : Option Addr) (n c n' c' : Nat), (binOp .eql 73 (.slice a n c) (.slice none n' c')).run Tryz.prog w = .ok (.bool a.isNone) w := fun w a n c n' c' => Lib.run_eql_slice_nil w _ _ a n c n' c' Tryz.underlying73
  cases A with
  | none =>
    have hl0 : l = [] := by
      cases l with
      | nil => rfl
      | cons x l => obtain ⟨b, off, cs, hA, _⟩ := h.2.2 0 (by simp); cases hA
    subst hl0
    go_enter Tryz.func40, Tryz.ntmps40
    go_wp2_with fail
    go_ret
    exact ⟨_, [], rfl, Aft.refl _, own_nil _ _ _ _, Chunks.nil⟩
  | some ad =>
    have HC : ∃ css, Chunks w0 3 ColR css l ∧ ∀ p u, css.flatten[p]? = some u → w.cell? (ad.add p) = some u := by
      by_cases h0 : 0 < l.length
      · obtain ⟨b, off, css, hA, hb', hch, hc⟩ := h.css h0 (by decide)
        simp only [Option.some.injEq] at hA
        subst hA
        refine ⟨css, hch, fun p u hp => ?_⟩
        have hlt : p < l.length * 3 := by rw [← hch.len]; exact (List.getElem?_eq_some_iff.1 hp).1
        rw [add_mk]; exact ha.cell_kept ((hc p hlt).trans hp)
      · have hl0 : l = [] := List.eq_nil_of_length_eq_zero (by omega)
        subst hl0
        exact ⟨[], Chunks.nil, fun p u hp => by simp at hp⟩
    obtain ⟨css, hch, hcell⟩ := HC
    have H1 := Lib.hid hcell
    have H2 : Hid (∀ u ∈ css.flatten, u.oneCell' = true) := Lib.hid (by
      intro u hu
      obtain ⟨c, hc, hu⟩ := List.mem_flatten.1 hu
      obtain ⟨i, hi, rfl⟩ := List.getElem_of_mem hc
      have h3 := (hch.2 i hi (by rw [← hch.1]; exact hi)).2
      obtain ⟨hcs, _⟩ := h3
      rw [hcs] at hu
      simp only [List.mem_cons, List.not_mem_nil, or_false] at hu
      rcases hu with rfl | rfl | rfl <;> simp [Value.oneCell'])
    have H3 := Lib.hid hch
    have HI := Lib.hid hi
    have HZ0 := Lib.hid hz0
    have HZ1 := Lib.hid hz1
    have HZ2 := Lib.hid hz2
    clear hcell hch hi hz0 hz1 hz2 h ha
    go_enter Tryz.func40, Tryz.ntmps40
    go_wp2_with (at_builtin; refine wpList_append_own _ rfl _ _ 73 rfl w.heap.size 93 i0 (.agg #[.string ByteArray.empty, .int .i64 0, .bool false]) 3 32 Tryz.underlying73 HI.out HZ0.out HZ1.out HZ2.out rfl (by decide) _ _ _ rfl (World.ownsRow_made w #[] 0 (Nat.le_refl _) (Nat.zero_le _) rfl) ad l.length cap css.flatten rfl ?qc1 ?qc2 ?qc3 ?qc4 ?qc5 ?qc6 ?_)
    case qc1 => exact H3.out.len
    case qc2 =>
      intro j u hj
      exact Lib.cell?_alloc_some _ (H1.out j u hj)
    case qc3 => exact H2.out
    case qc4 => unfold maxLen; omega
    case qc5 => omega
    case qc6 => simp
    intro v' w1 hown hgrow hnil
    have HO := Lib.hid hown
    have HA := Lib.hid (show Aft w w1 from ((Below.refl _ w).alloc (Nat.le_refl _) _).grown hgrow (by simp) (by intro k hk; simp [Value.ownBlock] at hk; omega))
    clear hown hgrow hnil
    go_wp2_with fail
    go_ret
    refine ⟨v', css, rfl, HA.out, ?_, H3.out⟩
    simpa using HO.out
theorem info2Str : (Tryz.prog.info? 9).map (fun i => (i.zero, i.size, i.bytes)) = some (some (.string ByteArray.empty), 1, 16) := by kernel_rfl
set_option maxHeartbeats 2000000 in
theorem clone2Str (A : Option Addr) (cap : Nat) (l : List ByteArray) (w0 w : World) (ha : Aft w0 w) (h : SlAt w0 1 StrR A cap l) (hb : l.length ≤ 1000000) :
    Calls Tryz.prog 96 #[.slice A l.length cap] w (CloneQ 9 1 StrR w0 w l) := by
  obtain ⟨i0, hi, hz0, hz1, hz2⟩ := info_parts info2Str
  have q22 : ∀ (w : World) (a : Option Addr) (n c n' c' : Nat), (binOp .eql 60 (.slice a n c) (.slice none n' c')).run Tryz.prog w = .ok (.bool a.isNone) w := fun w a n c n' c' => Lib.run_eql_slice_nil w _ _ a n c n' c' Tryz.underlying60
  cases A with
  | none =>
    have hl0 : l = [] := by
      cases l with
      | nil => rfl
      | cons x l => obtain ⟨b, off, cs, hA, _⟩ := h.2.2 0 (by simp); cases hA
    subst hl0
    go_enter Tryz.func96, Tryz.ntmps96
    go_wp2_with fail
    go_ret
    exact ⟨_, [], rfl, Aft.refl _, own_nil _ _ _ _, Chunks.nil⟩
  | some ad =>
    have HC : ∃ css, Chunks w0 1 StrR css l ∧ ∀ p u, css.flatten[p]? = some u → w.cell? (ad.add p) = some u := by
      by_cases h0 : 0 < l.length
      · obtain ⟨b, off, css, hA, hb', hch, hc⟩ := h.css h0 (by decide)
        simp only [Option.some.injEq] at hA
        subst hA
        refine ⟨css, hch, fun p u hp => ?_⟩
        have hlt : p < l.length * 1 := by rw [← hch.len]; exact (List.getElem?_eq_some_iff.1 hp).1
        rw [add_mk]; exact ha.cell_kept ((hc p hlt).trans hp)
      · have hl0 : l = [] := List.eq_nil_of_length_eq_zero (by omega)
        subst hl0
        exact ⟨[], Chunks.nil, fun p u hp => by simp at hp⟩
    obtain ⟨css, hch, hcell⟩ := HC
    have H1 := Lib.hid hcell
    have H2 : Hid (∀ u ∈ css.flatten, u.oneCell' = true) := Lib.hid (by
      intro u hu
      obtain ⟨c, hc, hu⟩ := List.mem_flatten.1 hu
      obtain ⟨i, hi, rfl⟩ := List.getElem_of_mem hc
      have h3 := (hch.2 i hi (by rw [← hch.1]; exact hi)).2
      obtain ⟨hcs, _⟩ := h3
      rw [hcs] at hu
      simp only [List.mem_cons, List.not_mem_nil, or_false] at hu
      rcases hu with rfl <;> simp [Value.oneCell'])
    have H3 := Lib.hid hch
    have HI := Lib.hid hi
    have HZ0 := Lib.hid hz0
    have HZ1 := Lib.hid hz1
    have HZ2 := Lib.hid hz2
    clear hcell hch hi hz0 hz1 hz2 h ha
    go_enter Tryz.func96, Tryz.ntmps96
    go_wp2_with (at_builtin; refine wpList_append_own _ rfl _ _ 60 rfl w.heap.size 9 i0 (.string ByteArray.empty) 1 16 Tryz.underlying60 HI.out HZ0.out HZ1.out HZ2.out rfl (by decide) _ _ _ rfl (World.ownsRow_made w #[] 0 (Nat.le_refl _) (Nat.zero_le _) rfl) ad l.length cap css.flatten rfl ?qc1 ?qc2 ?qc3 ?qc4 ?qc5 ?qc6 ?_)
    case qc1 => exact H3.out.len
    case qc2 =>
      intro j u hj
      exact Lib.cell?_alloc_some _ (H1.out j u hj)
    case qc3 => exact H2.out
    case qc4 => unfold maxLen; omega
    case qc5 => omega
    case qc6 => simp
    intro v' w1 hown hgrow hnil
    have HO := Lib.hid hown
    have HA := Lib.hid (show Aft w w1 from ((Below.refl _ w).alloc (Nat.le_refl _) _).grown hgrow (by simp) (by intro k hk; simp [Value.ownBlock] at hk; omega))
    clear hown hgrow hnil
    go_wp2_with fail
    go_ret
    refine ⟨v', css, rfl, HA.out, ?_, H3.out⟩
    simpa using HO.out
end Go.Proofs.YtiadkchlkdaceaaGreat

namespace Go.Proofs.YtiadkchlkdaceaaGreat
open Go.RowKit Go.Deep
set_option linter.unusedVariables false
def Hd.blk (h : Hd) : List Nat := match h.a with | some p => [p.block] | none => []
theorem Hd.mem_blk {h : Hd} {g : Nat} : g ∈ h.blk ↔ h.v.ownBlock = some g := by
  obtain ⟨a, n, c⟩ := h
  cases a <;> simp [Hd.blk, Hd.v, Value.ownBlock, eq_comm]
/-- all but the blocks that P names is as it was -/
structure Kb (P : Nat → Prop) (w w' : World) : Prop where
  os : w'.os = w.os
  tape : w'.tape = w.tape
  output : w'.output = w.output
  size : w.heap.size ≤ w'.heap.size
  block : ∀ k, k < w.heap.size → ¬ P k → w'.heap[k]? = w.heap[k]?
theorem Kb.refl (P : Nat → Prop) (w : World) : Kb P w w := ⟨rfl, rfl, rfl, Nat.le_refl _, fun _ _ _ => rfl⟩
theorem Kb.of_aft {P : Nat → Prop} {w w' : World} (a : Aft w w') : Kb P w w' := ⟨a.os, a.tape, a.output, a.size, fun k hk _ => a.block k hk⟩
theorem Kb.of_grown {w w' : World} {row : Option Nat} (h : w.grownBy w' row) : Kb (fun k => row = some k) w w' := ⟨h.os, h.tape, h.output, h.size, fun k hk hn => h.block k hk fun e => hn e.symm⟩
theorem Kb.mono {P Q : Nat → Prop} {w w' : World} (h : Kb P w w') (hq : ∀ k, k < w.heap.size → P k → Q k) : Kb Q w w' := ⟨h.os, h.tape, h.output, h.size, fun k hk hn => h.block k hk fun hp => hn (hq k hk hp)⟩
theorem Kb.trans {P : Nat → Prop} {w w' w'' : World} (h : Kb P w w') (h' : Kb P w' w'') : Kb P w w'' :=
  ⟨h'.os.trans h.os, h'.tape.trans h.tape, h'.output.trans h.output, Nat.le_trans h.size h'.size, fun k hk hn => (h'.block k (Nat.lt_of_lt_of_le hk h.size) hn).trans (h.block k hk hn)⟩
theorem Kb.set (w : World) (g j : Nat) (v : Value) : Kb (fun k => k = g) w (w.setCell ⟨g, j, none⟩ v) :=
  ⟨rfl, rfl, rfl, by simp, fun k hk hn => Below.heap_setCell _ _ _ _ hn⟩
theorem Kb.to_aft {P : Nat → Prop} {W w w' : World} (h : Kb P w w') (a : Aft W w) (hP : ∀ k, k < W.heap.size → ¬ P k) : Aft W w' :=
  ⟨h.os.trans a.os, h.tape.trans a.tape, h.output.trans a.output, Nat.le_trans a.size h.size, fun k hk => (h.block k (Nat.lt_of_lt_of_le hk a.size) (hP k hk)).trans (a.block k hk)⟩
theorem Kb.cell {P : Nat → Prop} {w w' : World} (h : Kb P w w') {p : Addr} {v : Value} (hc : w.cell? p = some v) (hb : ¬ P p.block) : w'.cell? p = some v := by
  have := h.block p.block (World.block_lt_of_cell? w p hc) hb
  unfold World.cell? at hc ⊢
  rw [this]; exact hc
theorem Kb.row {P : Nat → Prop} {w w' : World} (h : Kb P w w') {g : Nat} {xs : List Value} (hr : RowAt w g xs) (hb : ¬ P g) : RowAt w' g xs := by
  have := h.block g hr.1 hb
  refine ⟨Nat.lt_of_lt_of_le hr.1 h.size, fun j hj => ?_, fun j hj => ?_⟩
  · rw [← hr.2.1 j hj]; simp [World.cell?, this]
  · rw [← hr.2.2 j hj]; simp [World.frozen?, this]
theorem own_kb {P : Nat → Prop} {w w' : World} {B size n : Nat} {e : TypeId} {v : Value} {xs : List Value} (h : w.ownsRow B e size v n xs) (k : Kb P w w') (hne : ∀ g, v.ownBlock = some g → ¬ P g) : w'.ownsRow B e size v n xs := by
  refine ⟨h.1, ?_⟩
  rcases h.2 with hn | ⟨g, cap, cur, rfl, hb, hgg, rest⟩
  · exact .inl hn
  · exact .inr ⟨g, cap, cur, rfl, hb, (k.block g (lt_of_block hgg) (hne g rfl)).trans hgg, rest⟩
theorem own_n {w : World} {B size n : Nat} {e : TypeId} {h : Hd} {xs : List Value} (o : w.ownsRow B e size h.v n xs) : h.n = n := by
  rcases o.2 with ⟨hv, hn⟩ | ⟨g, cap, cur, hv, _⟩
  · unfold Hd.v at hv; simp only [Value.slice.injEq] at hv; omega
  · unfold Hd.v at hv; simp only [Value.slice.injEq] at hv; exact hv.2.1
theorem own_head {w : World} {B size n : Nat} {e : TypeId} {v : Value} {xs : List Value} (o : w.ownsRow B e size v n xs) : ∃ h : Hd, v = h.v ∧ h.n = n := by
  rcases o.2 with ⟨hv, hn⟩ | ⟨g, cap, cur, hv, _⟩
  · exact ⟨⟨none, 0, 0⟩, hv, hn.symm⟩
  · exact ⟨⟨_, n, cap⟩, hv, rfl⟩
theorem own_slice {w : World} {B size n : Nat} {e : TypeId} {h : Hd} {xs : List Value} (o : w.ownsRow B e size h.v n xs) : h.v = .slice h.a n h.c := by
  have := own_n o
  unfold Hd.v; rw [this]
theorem own_base {w : World} {B B' size n : Nat} {e : TypeId} {v : Value} {xs : List Value} (h : w.ownsRow B e size v n xs) (hb : ∀ g, v.ownBlock = some g → B' ≤ g) : w.ownsRow B' e size v n xs := by
  refine ⟨h.1, ?_⟩
  rcases h.2 with hn | ⟨g, cap, cur, rfl, hb', rest⟩
  · exact .inl hn
  · exact .inr ⟨g, cap, cur, rfl, hb g rfl, rest⟩
theorem own_down {w : World} {B B' size n : Nat} {e : TypeId} {v : Value} {xs : List Value} (h : w.ownsRow B e size v n xs) (hb : B' ≤ B) : w.ownsRow B' e size v n xs :=
  own_base h fun g hg => Nat.le_trans hb (h.lt g hg).1
/-- an owned row's cells -/
theorem own_rowAt {w : World} {B size n : Nat} {e : TypeId} {v : Value} {xs : List Value} (h : w.ownsRow B e size v n xs) (hn : 0 < n) : ∃ g cap, v = .slice (some ⟨g, 0, none⟩) n cap ∧ B ≤ g ∧ n ≤ cap ∧ RowAt w g xs := by
  obtain ⟨A, cap, e, hc, hg⟩ := own_rowV h
  obtain ⟨g, hA, hb, hr⟩ := hg hn
  exact ⟨g, cap, by rw [e, hA], hb, hc, hr⟩
theorem setCell_heap_same (w : World) (g j : Nat) (v : Value) {cur : Array Value} {e : TypeId} {f : Nat × Nat} (h : w.heap[g]? = some (.cells cur e f)) : (w.setCell ⟨g, j, none⟩ v).heap[g]? = some (.cells (cur.setIfInBounds j v) e f) := by
  have hl : g < w.heap.size := lt_of_block h
  have h' : w.heap[g] = .cells cur e f := by simpa [Array.getElem?_eq_getElem hl] using h
  show (w.heap.modify g _)[g]? = _
  rw [Array.getElem?_eq_getElem (by simpa using hl), Array.getElem_modify_self, h']
  simp
theorem own_set {w : World} {B size n : Nat} {e : TypeId} {v : Value} {xs : List Value} (h : w.ownsRow B e size v n xs) {g : Nat} (hg : v.ownBlock = some g) (j : Nat) (u : Value) : (w.setCell ⟨g, j, none⟩ u).ownsRow B e size v n (xs.set j u) := by
  refine ⟨by rw [List.length_set]; exact h.1, ?_⟩
  rcases h.2 with ⟨rfl, _⟩ | ⟨g', cap, cur, rfl, hb, hgg, hnc, hm, hcs, htk⟩
  · simp [Value.ownBlock] at hg
  · have : g' = g := by simpa [Value.ownBlock] using hg
    subst this
    refine .inr ⟨g', cap, cur.setIfInBounds j u, rfl, hb, setCell_heap_same w g' j u hgg, hnc, hm, by simpa using hcs, ?_⟩
    rw [Array.toList_setIfInBounds, List.take_set, htk]
/-- an owned row is read as a slice -/
theorem own_sl {α : Type} {w : World} {B size : Nat} {e : TypeId} {h : Hd} {l : List α} {css : List (List Value)} {R : World → List Value → α → Prop} (o : w.ownsRow B e size h.v l.length css.flatten) (hc : Chunks w size R css l) (hs : Small (l.length * 16)) : SlAt w size R h.a h.c l := by
  obtain ⟨A, cap, hv, sl⟩ := rowV_slAt (own_rowV o) hc hs
  unfold Hd.v at hv
  simp only [Value.slice.injEq] at hv
  rw [hv.1, hv.2.2]; exact sl
theorem chunks_map {α : Type} {w : World} {size : Nat} {R : World → List Value → α → Prop} (f : α → List Value) (l : List α) (hf : ∀ x ∈ l, (f x).length = size ∧ R w (f x) x) : Chunks w size R (l.map f) l :=
  ⟨by simp, fun i h h' => by simpa using hf l[i] (List.getElem_mem h')⟩
theorem own_slf {α : Type} {w : World} {B size : Nat} {e : TypeId} {h : Hd} {l : List α} {R : World → List Value → α → Prop} (f : α → List Value) (o : w.ownsRow B e size h.v l.length (l.flatMap f)) (hf : ∀ x ∈ l, (f x).length = size ∧ R w (f x) x) (hs : Small (l.length * 16)) : SlAt w size R h.a h.c l :=
  own_sl (css := l.map f) (by rw [← List.flatMap_def]; exact o) (chunks_map f l hf) hs

def nameC (s : ByteArray) : List Value := [.string s]
def colC (c : Col) : List Value := [.string c.name, .int .i64 c.kind, .bool c.null]
def schC (s : Sch) : List Value := [.string s.name, .string s.owner]
def rulC (r : Rul) (h : Hd) : List Value := [.string r.name, .int .i64 r.kind, h.v, .int .i64 r.low, .int .i64 r.high, .string r.schema, .string r.table, .string r.key]
/-- a rule, and where its names lie -/
structure ORul where
  r : Rul
  h : Hd
def ORul.cells (x : ORul) : List Value := rulC x.r x.h
/-- a table, and where its rows lie -/
structure OTab where
  schema : ByteArray
  name : ByteArray
  owner : ByteArray
  cols : List Col
  rules : List ORul
  hc : Hd
  hr : Hd
def OTab.t (x : OTab) : Tab := ⟨x.schema, x.name, x.owner, x.cols, x.rules.map (·.r)⟩
def OTab.cells (x : OTab) : List Value := [.string x.schema, .string x.name, .string x.owner, x.hc.v, x.hr.v]
def OTab.blks (x : OTab) : List Nat := x.hc.blk ++ (x.hr.blk ++ x.rules.flatMap (·.h.blk))
structure RulIn (w : World) (B : Nat) (x : ORul) : Prop where
  nam : w.ownsRow B 9 1 x.h.v x.r.cols.length (x.r.cols.flatMap nameC)
structure TabIn (w : World) (B : Nat) (x : OTab) : Prop where
  col : w.ownsRow B 93 3 x.hc.v x.cols.length (x.cols.flatMap colC)
  rul : w.ownsRow B 108 8 x.hr.v x.rules.length (x.rules.flatMap ORul.cells)
  each : ∀ r ∈ x.rules, RulIn w B r
structure ObjIn (w : World) (B : Nat) (hs ht : Hd) (ss : List Sch) (L : List OTab) : Prop where
  sch : w.ownsRow B 88 2 hs.v ss.length (ss.flatMap schC)
  tab : w.ownsRow B 76 5 ht.v L.length (L.flatMap OTab.cells)
  each : ∀ x ∈ L, TabIn w B x
  nd : (hs.blk ++ (ht.blk ++ L.flatMap OTab.blks)).Nodup
theorem RulIn.kb {P : Nat → Prop} {w w' : World} {B : Nat} {x : ORul} (h : RulIn w B x) (k : Kb P w w') (hne : ∀ g ∈ x.h.blk, ¬ P g) : RulIn w' B x := ⟨own_kb h.nam k fun g hg => hne g (Hd.mem_blk.2 hg)⟩
theorem TabIn.kb {P : Nat → Prop} {w w' : World} {B : Nat} {x : OTab} (h : TabIn w B x) (k : Kb P w w') (hne : ∀ g ∈ x.blks, ¬ P g) : TabIn w' B x :=
  ⟨own_kb h.col k fun g hg => hne g (by unfold OTab.blks; simp [Hd.mem_blk.2 hg]), own_kb h.rul k fun g hg => hne g (by unfold OTab.blks; simp [Hd.mem_blk.2 hg]),
   fun r hr => (h.each r hr).kb k fun g hg => hne g (by unfold OTab.blks; simp only [List.mem_append, List.mem_flatMap]; exact .inr (.inr ⟨r, hr, hg⟩))⟩
theorem ObjIn.kb {P : Nat → Prop} {w w' : World} {B : Nat} {hs ht : Hd} {ss : List Sch} {L : List OTab} (h : ObjIn w B hs ht ss L) (k : Kb P w w') (hne : ∀ g ∈ hs.blk ++ (ht.blk ++ L.flatMap OTab.blks), ¬ P g) : ObjIn w' B hs ht ss L :=
  ⟨own_kb h.sch k fun g hg => hne g (by simp [Hd.mem_blk.2 hg]), own_kb h.tab k fun g hg => hne g (by simp [Hd.mem_blk.2 hg]),
   fun x hx => (h.each x hx).kb k fun g hg => hne g (by simp only [List.mem_append, List.mem_flatMap]; exact .inr (.inr ⟨x, hx, hg⟩)), h.nd⟩
theorem RulIn.aft {w w' : World} {B : Nat} {x : ORul} (h : RulIn w B x) (a : Aft w w') : RulIn w' B x := h.kb (P := fun _ => False) (Kb.of_aft a) fun _ _ h => h
theorem TabIn.aft {w w' : World} {B : Nat} {x : OTab} (h : TabIn w B x) (a : Aft w w') : TabIn w' B x := h.kb (P := fun _ => False) (Kb.of_aft a) fun _ _ h => h
theorem ObjIn.aft {w w' : World} {B : Nat} {hs ht : Hd} {ss : List Sch} {L : List OTab} (h : ObjIn w B hs ht ss L) (a : Aft w w') : ObjIn w' B hs ht ss L := h.kb (P := fun _ => False) (Kb.of_aft a) fun _ _ h => h
theorem blk_lt {w : World} {B size n : Nat} {e : TypeId} {h : Hd} {xs : List Value} (o : w.ownsRow B e size h.v n xs) : ∀ g ∈ h.blk, B ≤ g ∧ g < w.heap.size := fun g hg => o.lt g (Hd.mem_blk.1 hg)
theorem TabIn.lt {w : World} {B : Nat} {x : OTab} (h : TabIn w B x) : ∀ g ∈ x.blks, B ≤ g ∧ g < w.heap.size := by
  intro g hg
  unfold OTab.blks at hg
  simp only [List.mem_append, List.mem_flatMap] at hg
  rcases hg with hg | hg | ⟨r, hr, hg⟩
  · exact blk_lt h.col g hg
  · exact blk_lt h.rul g hg
  · exact blk_lt (h.each r hr).nam g hg
theorem ObjIn.lt {w : World} {B : Nat} {hs ht : Hd} {ss : List Sch} {L : List OTab} (h : ObjIn w B hs ht ss L) : ∀ g ∈ hs.blk ++ (ht.blk ++ L.flatMap OTab.blks), B ≤ g ∧ g < w.heap.size := by
  intro g hg
  simp only [List.mem_append, List.mem_flatMap] at hg
  rcases hg with hg | hg | ⟨x, hx, hg⟩
  · exact blk_lt h.sch g hg
  · exact blk_lt h.tab g hg
  · exact (h.each x hx).lt g hg
theorem RulIn.down {w : World} {B B' : Nat} {x : ORul} (h : RulIn w B x) (hb : B' ≤ B) : RulIn w B' x := ⟨own_down h.nam hb⟩
theorem TabIn.down {w : World} {B B' : Nat} {x : OTab} (h : TabIn w B x) (hb : B' ≤ B) : TabIn w B' x := ⟨own_down h.col hb, own_down h.rul hb, fun r hr => (h.each r hr).down hb⟩
theorem ObjIn.down {w : World} {B B' : Nat} {hs ht : Hd} {ss : List Sch} {L : List OTab} (h : ObjIn w B hs ht ss L) (hb : B' ≤ B) : ObjIn w B' hs ht ss L := ⟨own_down h.sch hb, own_down h.tab hb, fun x hx => (h.each x hx).down hb, h.nd⟩

/-- all that a struct holds is short -/
def SmR (r : Rul) : Prop := Small (r.cols.length * 16) ∧ (∀ s ∈ r.cols, Small s.size) ∧ Small r.name.size ∧ Small r.schema.size ∧ Small r.table.size ∧ Small r.key.size
def SmT (t : Tab) : Prop := (Small (t.cols.length * 16) ∧ ∀ c ∈ t.cols, Small c.name.size) ∧ (Small (t.rules.length * 16) ∧ ∀ r ∈ t.rules, SmR r) ∧ Small t.schema.size ∧ Small t.name.size ∧ Small t.owner.size
def SmS (l : List Sch) : Prop := Small (l.length * 16) ∧ ∀ s ∈ l, Small s.name.size ∧ Small s.owner.size
def SmO (o : Objs) : Prop := SmS o.schemas ∧ Small (o.tables.length * 16) ∧ ∀ t ∈ o.tables, SmT t
theorem sm_mem {α : Type} {w : World} {size : Nat} {R : World → List Value → α → Prop} {A : Option Addr} {cap : Nat} {l : List α} (h : SlAt w size R A cap l) {P : α → Prop} (hp : ∀ cs x, R w cs x → P x) : Small (l.length * 16) ∧ ∀ x ∈ l, P x := by
  refine ⟨h.2.1, fun x hx => ?_⟩
  obtain ⟨i, hi, rfl⟩ := List.getElem_of_mem hx
  obtain ⟨b, off, cs, _, _, _, hR, _⟩ := h.2.2 i hi
  exact hp cs _ hR
theorem sm_names {w : World} {A : Option Addr} {cap : Nat} {l : List ByteArray} (h : SlAt w 1 StrR A cap l) : Small (l.length * 16) ∧ ∀ s ∈ l, Small s.size := sm_mem h fun _ _ h => h.2
theorem sm_cols {w : World} {A : Option Addr} {cap : Nat} {l : List Col} (h : SlAt w 3 ColR A cap l) : Small (l.length * 16) ∧ ∀ c ∈ l, Small c.name.size := sm_mem h fun _ _ h => h.2
theorem sm_schs {w : World} {A : Option Addr} {cap : Nat} {l : List Sch} (h : SlAt w 2 SchR A cap l) : SmS l := sm_mem h fun _ _ h => h.2
theorem sm_rul {w : World} {cs : List Value} {r : Rul} (h : RulR w cs r) : SmR r := by
  obtain ⟨A, cap, _, hs, h1⟩ := h
  exact ⟨(sm_names hs).1, (sm_names hs).2, h1⟩
theorem sm_ruls {w : World} {A : Option Addr} {cap : Nat} {l : List Rul} (h : SlAt w 8 RulR A cap l) : Small (l.length * 16) ∧ ∀ r ∈ l, SmR r := sm_mem h fun _ _ h => sm_rul h
theorem sm_tab {w : World} {cs : List Value} {t : Tab} (h : TabR w cs t) : SmT t := by
  obtain ⟨A, cap, A2, cap2, _, hs, hr, h1⟩ := h
  exact ⟨sm_cols hs, sm_ruls hr, h1⟩
theorem sm_tabs {w : World} {A : Option Addr} {cap : Nat} {l : List Tab} (h : SlAt w 5 TabR A cap l) : Small (l.length * 16) ∧ ∀ t ∈ l, SmT t := sm_mem h fun _ _ h => sm_tab h

/-- our own rows, read -/
theorem RulIn.rulR {w : World} {B : Nat} {x : ORul} (h : RulIn w B x) (hs : SmR x.r) : RulR w x.cells x.r :=
  ⟨x.h.a, x.h.c, by unfold ORul.cells rulC; rw [own_slice h.nam], own_slf nameC h.nam (fun s hm => ⟨rfl, rfl, hs.2.1 s hm⟩) hs.1, hs.2.2⟩
theorem TabIn.cols {w : World} {B : Nat} {x : OTab} (h : TabIn w B x) (hs : SmT x.t) : SlAt w 3 ColR x.hc.a x.hc.c x.cols :=
  own_slf colC h.col (fun c hm => ⟨rfl, rfl, hs.1.2 c hm⟩) hs.1.1
theorem chunks_over {α β : Type} {w : World} {size : Nat} {R : World → List Value → β → Prop} (f : α → List Value) (g : α → β) (l : List α) (hf : ∀ x ∈ l, (f x).length = size ∧ R w (f x) (g x)) : Chunks w size R (l.map f) (l.map g) :=
  ⟨by simp, fun i h h' => by
    have hi : i < l.length := by simpa using h
    simpa using hf l[i] (List.getElem_mem hi)⟩
theorem own_slo {α β : Type} {w : World} {B size : Nat} {e : TypeId} {h : Hd} {l : List α} {R : World → List Value → β → Prop} (f : α → List Value) (g : α → β) (o : w.ownsRow B e size h.v l.length (l.flatMap f)) (hf : ∀ x ∈ l, (f x).length = size ∧ R w (f x) (g x)) (hs : Small (l.length * 16)) : SlAt w size R h.a h.c (l.map g) :=
  own_sl (css := l.map f) (by rw [← List.flatMap_def, List.length_map]; exact o) (chunks_over f g l hf) (by simpa using hs)
theorem TabIn.ruls {w : World} {B : Nat} {x : OTab} (h : TabIn w B x) (hs : SmT x.t) : SlAt w 8 RulR x.hr.a x.hr.c (x.rules.map (·.r)) :=
  own_slo ORul.cells (·.r) h.rul (fun r hm => ⟨rfl, (h.each r hm).rulR (hs.2.1.2 r.r (List.mem_map_of_mem hm))⟩) (by simpa [OTab.t] using hs.2.1.1)
theorem TabIn.tabR {w : World} {B : Nat} {x : OTab} (h : TabIn w B x) (hs : SmT x.t) : TabR w x.cells x.t :=
  ⟨x.hc.a, x.hc.c, x.hr.a, x.hr.c, by unfold OTab.cells; rw [own_slice h.col, own_slice h.rul]; simp [OTab.t], h.cols hs, h.ruls hs, hs.2.2⟩
def objOf (ss : List Sch) (L : List OTab) : Objs := ⟨ss, L.map OTab.t⟩
theorem ObjIn.schs {w : World} {B : Nat} {hs ht : Hd} {ss : List Sch} {L : List OTab} (h : ObjIn w B hs ht ss L) (sm : SmO (objOf ss L)) : SlAt w 2 SchR hs.a hs.c ss :=
  own_slf schC h.sch (fun s hm => ⟨rfl, rfl, sm.1.2 s hm⟩) sm.1.1
theorem ObjIn.tabs {w : World} {B : Nat} {hs ht : Hd} {ss : List Sch} {L : List OTab} (h : ObjIn w B hs ht ss L) (sm : SmO (objOf ss L)) : SlAt w 5 TabR ht.a ht.c (L.map OTab.t) :=
  own_slo OTab.cells OTab.t h.tab (fun x hm => ⟨rfl, (h.each x hm).tabR (sm.2.2 _ (List.mem_map_of_mem hm))⟩) (by simpa [objOf] using sm.2.1)
theorem own_cell {α : Type} {w : World} {B size : Nat} {e : TypeId} {h : Hd} {l : List α} {f : α → List Value} (o : w.ownsRow B e size h.v l.length (l.flatMap f)) (hf : ∀ x, (f x).length = size) {g : Nat} (hg : h.a = some ⟨g, 0, none⟩) {i j : Nat} (hi : i < l.length) (hj : j < size) : w.cell? ⟨g, i * size + j, none⟩ = (f l[i])[j]? := by
  obtain ⟨g', cap, hv, _, _, hr⟩ := own_rowAt o (by omega)
  unfold Hd.v at hv
  simp only [Value.slice.injEq] at hv
  rw [hg] at hv
  simp only [Option.some.injEq, Addr.mk.injEq, and_true, true_and] at hv
  obtain ⟨rfl, _⟩ := hv
  rw [hr.2.1 _ (by rw [o.1]; have : (i + 1) * size ≤ l.length * size := Nat.mul_le_mul_right _ hi; rw [Nat.succ_mul] at this; omega)]
  exact flatMap_get f size hf l i j hi hj
/-- append, with the word on the new row's block -/
theorem run_append_own2h {P : Program} (w : World) (base : Nat) (t ty e : TypeId) (i : TypeInfo) (z : Value) (size bytes : Nat) (ht : P.underlying t = some (.slice e)) (hi : P.info? e = some i) (hz : i.zero = some z)
    (hsize : i.size = size) (hby : i.bytes = bytes) (hzs : z.cells.size = size) (hsz : 0 < size)
    (v : Value) (n : Nat) (xs : List Value) (hown : w.ownsRow base e size v n xs)
    (A : Option Addr) (m c : Nat) (news : List Value) (hl : news.length = m * size) (hA : A = none → m = 0) (hnews : ∀ a, A = some a → ∀ j u, news[j]? = some u → w.cell? (a.add j) = some u) (h1 : ∀ u ∈ news, u.oneCell' = true)
    (h63 : n + m ≤ maxLen) (hbytes : (n + m) * bytes ≤ 140737488355328) (hbase : base ≤ w.heap.size) :
    ∃ (h : Hd) (w' : World), (Builtin.append_ #[t, t] ty #[v, .slice A m c]).run P w = .ok h.v w' ∧ w'.ownsRow base e size h.v (n + m) (xs ++ news) ∧ w.grownBy w' v.ownBlock ∧ ∀ g ∈ h.blk, v.ownBlock = some g ∨ w.heap.size ≤ g := by
  cases A with
  | none =>
    obtain rfl := hA rfl
    have hn : news = [] := List.eq_nil_of_length_eq_zero (by simpa using hl)
    subst hn
    obtain ⟨h, hv, hhn⟩ := own_head hown
    refine ⟨h, w, ?_, ?_, World.grownBy.refl w _, fun g hg => .inl (by rw [hv]; exact Hd.mem_blk.1 hg)⟩
    · rw [← hv]
      rcases hown.2 with ⟨rfl, _⟩ | ⟨g, cap, cur, rfl, _, _, hnc, _⟩
      · exact run_append_nothing w t t ty e i ht hi none 0 0 (Nat.le_refl _) _ (Src.ofNil w ht c)
      · exact run_append_nothing w t t ty e i ht hi _ n cap hnc _ (Src.ofNil w ht c)
    · rw [← hv]; simpa using hown
  | some a =>
    obtain ⟨v', w', hr, h2, h3, h4⟩ := run_append_own (P := P) w base t ty e i z size bytes ht hi hz hsize hby hzs hsz v n xs hown a m c news hl (hnews a rfl) h1 h63 hbytes hbase
    obtain ⟨h, hv, hhn⟩ := own_head h2
    subst hv
    refine ⟨h, w', hr, h2, h3, fun g hg => ?_⟩
    have hg' := Hd.mem_blk.1 hg
    subst hsize
    subst hby
    rcases hown.2 with ⟨rfl, rfl⟩ | ⟨g0, cap, cur, rfl, hbg, hg0, hnc, hcm, hcs, htake⟩
    · obtain ⟨v'', w'', hr', h2', _⟩ := run_append_own (P := P) w w.heap.size t ty e i z i.size i.bytes ht hi hz rfl rfl hzs hsz (.slice none 0 0) 0 xs ⟨by simpa using hown.1, .inl ⟨rfl, rfl⟩⟩ a m c news hl (hnews a rfl) h1 h63 hbytes (Nat.le_refl _)
      rw [hr] at hr'
      simp only [Result.ok.injEq] at hr'
      rw [← hr'.1] at h2'
      exact .inr (h2'.lt g hg').1
    · by_cases hroom : n + m ≤ cap
      · have hfit : n * i.size + news.length ≤ cur.size := by rw [hl, hcs, ← Nat.add_mul]; exact Nat.mul_le_mul_right _ hroom
        have hr' := run_append_room (P := P) w t ty e i ht hi g0 n cap cur hg0 a m c news hl (hnews a rfl) h1 hroom hfit
        rw [hr] at hr'
        simp only [Result.ok.injEq] at hr'
        rw [hr'.1] at hg'
        exact .inl hg'
      · have hr' := run_append_grow (P := P) w t ty e i z ht hi hz ⟨g0, 0, none⟩ n cap xs hown.1 (hown.cells (g := g0) rfl) a m c news hl (hnews a rfl) (by omega) (by simp only [maxLen] at h63; omega) (growslice_fits (by omega) hbytes)
        rw [hr] at hr'
        simp only [Result.ok.injEq] at hr'
        rw [hr'.1] at hg'
        simp only [Value.ownBlock, Option.some.injEq] at hg'
        exact .inr (by omega)
theorem run_append_own2 {P : Program} (w : World) (base : Nat) (t ty e : TypeId) (i : TypeInfo) (z : Value) (size bytes : Nat) (ht : P.underlying t = some (.slice e)) (hi : P.info? e = some i) (hz : i.zero = some z)
    (hsize : i.size = size) (hby : i.bytes = bytes) (hzs : z.cells.size = size) (hsz : 0 < size)
    (v : Value) (n : Nat) (xs : List Value) (hown : w.ownsRow base e size v n xs)
    (A : Option Addr) (m c : Nat) (news : List Value) (hl : news.length = m * size) (hA : A = none → m = 0) (hnews : ∀ a, A = some a → ∀ j u, news[j]? = some u → w.cell? (a.add j) = some u) (h1 : ∀ u ∈ news, u.oneCell' = true)
    (h63 : n + m ≤ maxLen) (hbytes : (n + m) * bytes ≤ 140737488355328) (hbase : base ≤ w.heap.size) :
    ∃ (A' : Option Addr) (cap' : Nat) (w' : World), (Builtin.append_ #[t, t] ty #[v, .slice A m c]).run P w = .ok (.slice A' (n + m) cap') w' ∧ w'.ownsRow base e size (.slice A' (n + m) cap') (n + m) (xs ++ news) ∧ w.grownBy w' v.ownBlock ∧ ∀ g ∈ (Hd.mk A' (n + m) cap').blk, v.ownBlock = some g ∨ w.heap.size ≤ g := by
  obtain ⟨h, w', hr, h2, h3, h4⟩ := run_append_own2h w base t ty e i z size bytes ht hi hz hsize hby hzs hsz v n xs hown A m c news hl hA hnews h1 h63 hbytes hbase
  obtain ⟨A', n', cap'⟩ := h
  have hn : n' = n + m := own_n h2
  subst hn
  exact ⟨A', cap', w', hr, h2, h3, h4⟩
theorem wpList_append_own2 {P : Program} (w : World) {ops : Array Oper} {rest : List Oper} {o : Oper} {a : Act} {Q : Exit → Act → World → Prop} (hgd : o.guard = none) (s x : Operand) (t : TypeId)
    (ho : o.op = .call { callee := .builtin .append, args := #[s, x], argTypes := #[t, t] })
    (base : Nat) (e : TypeId) (i : TypeInfo) (z : Value) (size bytes : Nat) (ht : P.underlying t = some (.slice e)) (hi : P.info? e = some i) (hz : i.zero = some z)
    (hsize : i.size = size) (hby : i.bytes = bytes) (hzs : z.cells.size = size) (hsz : 0 < size)
    (v : Value) (n : Nat) (xs : List Value) (hs : a.eval s = v) (hown : w.ownsRow base e size v n xs)
    (A : Option Addr) (m c : Nat) (news : List Value) (hx : a.eval x = .slice A m c) (hl : news.length = m * size) (hA : A = none → m = 0) (hnews : ∀ ad, A = some ad → ∀ j u, news[j]? = some u → w.cell? (ad.add j) = some u) (h1 : ∀ u ∈ news, u.oneCell' = true)
    (h63 : n + m ≤ maxLen) (hbytes : (n + m) * bytes ≤ 140737488355328) (hbase : base ≤ w.heap.size)
    (h : ∀ (A' : Option Addr) (cap' : Nat) (w' : World), w'.ownsRow base e size (.slice A' (n + m) cap') (n + m) (xs ++ news) → w.grownBy w' v.ownBlock → (∀ g ∈ (Hd.mk A' (n + m) cap').blk, v.ownBlock = some g ∨ w.heap.size ≤ g) → wpList P ops Q rest (a.put o.dst (.slice A' (n + m) cap')) w') : wpList P ops Q (o :: rest) a w :=
  wpList_plain hgd fun _ hK => by
    obtain ⟨A', cap', w', hr, h2, h3, h4⟩ := run_append_own2 (P := P) w base t o.type e i z size bytes ht hi hz hsize hby hzs hsz v n xs hown A m c news hl hA hnews h1 h63 hbytes hbase
    unfold Oper.wp execOp
    simp only [ho, resolve, invoke, builtin, Sem.run_bind, Sem.run_pure, Result.andThen_ok, List.map_toArray, List.map_cons, List.map_nil, hs, hx, hr]
    exact hK _ _ (h A' cap' w' h2 h3 h4)
/-- append onto nil: a row all new -/
theorem wpList_append_new {P : Program} (w : World) {ops : Array Oper} {rest : List Oper} {o : Oper} {a : Act} {Q : Exit → Act → World → Prop} (hgd : o.guard = none) (s x : Operand) (t : TypeId)
    (ho : o.op = .call { callee := .builtin .append, args := #[s, x], argTypes := #[t, t] })
    (e : TypeId) (i : TypeInfo) (z : Value) (size bytes : Nat) (ht : P.underlying t = some (.slice e)) (hi : P.info? e = some i) (hz : i.zero = some z)
    (hsize : i.size = size) (hby : i.bytes = bytes) (hzs : z.cells.size = size) (hsz : 0 < size)
    (hs : a.eval s = .slice none 0 0)
    (A : Option Addr) (m c : Nat) (news : List Value) (hx : a.eval x = .slice A m c) (hl : news.length = m * size) (hA : A = none → m = 0) (hnews : ∀ ad, A = some ad → ∀ j u, news[j]? = some u → w.cell? (ad.add j) = some u) (h1 : ∀ u ∈ news, u.oneCell' = true)
    (h63 : m ≤ maxLen) (hbytes : m * bytes ≤ 140737488355328)
    (h : ∀ (A' : Option Addr) (cap' : Nat) (w' : World), w'.ownsRow w.heap.size e size (.slice A' m cap') m news → Aft w w' → wpList P ops Q rest (a.put o.dst (.slice A' m cap')) w') : wpList P ops Q (o :: rest) a w := by
  refine wpList_append_own2 w hgd s x t ho w.heap.size e i z size bytes ht hi hz hsize hby hzs hsz _ 0 [] hs (own_nil w _ _ _) A m c news hx hl hA hnews h1 (by rw [Nat.zero_add]; exact h63) (by rw [Nat.zero_add]; exact hbytes) (Nat.le_refl _) ?_
  intro A' cap' w' o2 g2 b2
  simp only [Nat.zero_add, List.nil_append] at o2 b2 ⊢
  exact h A' cap' w' o2 ⟨g2.os, g2.tape, g2.output, g2.size, fun k hk => g2.block k hk (by simp [Value.ownBlock])⟩
end Go.Proofs.YtiadkchlkdaceaaGreat

namespace Go.Proofs.YtiadkchlkdaceaaGreat
open Go.RowKit Go.Deep
set_option linter.unusedVariables false
theorem own_lit {w : World} {B size n : Nat} {e : TypeId} {v : Value} {xs : List Value} (o : w.ownsRow B e size v n xs) : ∃ A cap, v = .slice A n cap := by
  obtain ⟨h, hv, hn⟩ := own_head o
  exact ⟨h.a, h.c, by rw [hv, ← hn]; rfl⟩
theorem chunks_flat {α : Type} {w : World} {size : Nat} {R : World → List Value → α → Prop} {f : α → List Value} (hf : ∀ cs x, R w cs x → cs = f x) : ∀ {css : List (List Value)} {l : List α}, Chunks w size R css l → css.flatten = l.flatMap f := by
  intro css l h
  have : css = l.map f := by
    refine List.ext_getElem (by rw [h.1]; simp) fun i h1 h2 => ?_
    have hi : i < l.length := by simpa using h2
    rw [List.getElem_map]
    exact hf _ _ (h.2 i h1 hi).2
  rw [this, List.flatMap_def]
theorem flat_cols {w : World} {css : List (List Value)} {l : List Col} (h : Chunks w 3 ColR css l) : css.flatten = l.flatMap colC := chunks_flat (fun _ _ h => h.1) h
theorem flat_names {w : World} {css : List (List Value)} {l : List ByteArray} (h : Chunks w 1 StrR css l) : css.flatten = l.flatMap nameC := chunks_flat (fun _ _ h => h.1) h
/-- rules as they lie -/
theorem rules_lie {w : World} {css : List (List Value)} {l : List Rul} (h : Chunks w 8 RulR css l) : ∃ L : List ORul, L.map (·.r) = l ∧ css = L.map ORul.cells ∧ ∀ x ∈ L, x.h.n = x.r.cols.length ∧ SlAt w 1 StrR x.h.a x.h.c x.r.cols := by
  have hex : ∀ i, i < l.length → ∃ x : ORul, ∀ (hi : i < l.length) (hc : i < css.length), x.r = l[i] ∧ css[i] = x.cells ∧ x.h.n = x.r.cols.length ∧ SlAt w 1 StrR x.h.a x.h.c x.r.cols := by
    intro i hi
    have hc : i < css.length := by rw [h.1]; exact hi
    obtain ⟨_, A, cap, hcs, hs, _⟩ := h.2 i hc hi
    exact ⟨⟨l[i], A, l[i].cols.length, cap⟩, fun _ _ => ⟨rfl, hcs, rfl, hs⟩⟩
  obtain ⟨L, hL, hp⟩ := choose_list l.length _ hex
  refine ⟨L, ?_, ?_, ?_⟩
  · refine List.ext_getElem (by simp [hL]) fun i h1 h2 => ?_
    rw [List.getElem_map]
    exact (hp i (by simpa using h1) h2 (by rw [h.1]; exact h2)).1
  · refine List.ext_getElem (by simp [hL, h.1]) fun i h1 h2 => ?_
    rw [List.getElem_map]
    have hi : i < L.length := by simpa using h2
    exact (hp i hi (by omega) h1).2.1
  · intro x hx
    obtain ⟨i, hi, rfl⟩ := List.getElem_of_mem hx
    exact (hp i hi (by omega) (by rw [h.1]; omega)).2.2
theorem flatMap_len {α : Type} {f : α → List Value} {size : Nat} (hf : ∀ x, (f x).length = size) (l : List α) : (l.flatMap f).length = l.length * size := by
  rw [List.flatMap_def, flat_len _ (by intro c hc; obtain ⟨x, _, rfl⟩ := List.mem_map.1 hc; exact hf x), List.length_map]
theorem flatMap_set {α : Type} {f : α → List Value} {size : Nat} (hf : ∀ x, (f x).length = size) (l : List α) (k j : Nat) (hk : k < l.length) (hj : j < size) (u : Value) (y : α) (hy : f y = (f l[k]).set j u) : (l.flatMap f).set (k * size + j) u = (l.set k y).flatMap f := by
  rw [List.flatMap_def, List.flatMap_def, flat_set _ (by intro c hc; obtain ⟨x, _, rfl⟩ := List.mem_map.1 hc; exact hf x) k j (by simpa using hk) u hj, List.map_set]
  congr 1
  rw [hy]; simp
theorem nodup_more {l m : List Nat} {N : Nat} (h : l.Nodup) (hm : m.Nodup) (h1 : ∀ g ∈ l, g < N) (h2 : ∀ g ∈ m, N ≤ g) : (l ++ m).Nodup :=
  List.nodup_append.2 ⟨h, hm, fun a ha b hb e => by have := h1 a ha; have := h2 b hb; omega⟩
theorem blk_nodup (h : Hd) : h.blk.Nodup := by
  obtain ⟨a, n, c⟩ := h
  cases a <;> simp [Hd.blk]
theorem blk_nil (n c : Nat) : (Hd.mk none n c).blk = [] := rfl
theorem blk_some (p : Addr) (n c : Nat) : (Hd.mk (some p) n c).blk = [p.block] := rfl
/-- where a row of our own lies -/
theorem own_place {w : World} {B size n : Nat} {e : TypeId} {h : Hd} {xs : List Value} (o : w.ownsRow B e size h.v n xs) (hn : 0 < n) : ∃ g, h.a = some ⟨g, 0, none⟩ ∧ B ≤ g ∧ RowAt w g xs := by
  obtain ⟨g, cap, hv, hb, _, hr⟩ := own_rowAt o hn
  unfold Hd.v at hv
  simp only [Value.slice.injEq] at hv
  exact ⟨g, hv.1, hb, hr⟩
theorem oneC_cells {α : Type} {f : α → List Value} (hf : ∀ x, ∀ u ∈ f x, u.oneCell' = true) (l : List α) : ∀ u ∈ l.flatMap f, u.oneCell' = true := by
  intro u hu
  obtain ⟨x, _, hu⟩ := List.mem_flatMap.1 hu
  exact hf x u hu
theorem oneC_name (s : ByteArray) : ∀ u ∈ nameC s, u.oneCell' = true := by intro u hu; simp only [nameC, List.mem_cons, List.not_mem_nil, or_false] at hu; subst hu; simp [Value.oneCell']
theorem oneC_col (s : Col) : ∀ u ∈ colC s, u.oneCell' = true := by intro u hu; simp only [colC, List.mem_cons, List.not_mem_nil, or_false] at hu; rcases hu with rfl | rfl | rfl <;> simp [Value.oneCell']
theorem oneC_sch (s : Sch) : ∀ u ∈ schC s, u.oneCell' = true := by intro u hu; simp only [schC, List.mem_cons, List.not_mem_nil, or_false] at hu; rcases hu with rfl | rfl <;> simp [Value.oneCell']
/-- the cells of a slice that came in -/
theorem sl_cells {α : Type} {w w' : World} {size : Nat} {R : World → List Value → α → Prop} {f : α → List Value} {A : Option Addr} {cap : Nat} {l : List α} (h : SlAt w size R A cap l) (hs : 0 < size) (hf : ∀ cs x, R w cs x → cs = f x) (a : Aft w w') : ∀ ad, A = some ad → ∀ j u, (l.flatMap f)[j]? = some u → w'.cell? (ad.add j) = some u := by
  intro ad hA j u hj
  by_cases h0 : 0 < l.length
  · obtain ⟨b, off, css, hA', hb', hch, hc⟩ := h.css h0 hs
    rw [hA] at hA'
    simp only [Option.some.injEq] at hA'
    subst hA'
    rw [← chunks_flat hf hch] at hj
    have hlt : j < l.length * size := by rw [← hch.len]; exact (List.getElem?_eq_some_iff.1 hj).1
    rw [add_mk]; exact a.cell_kept ((hc j hlt).trans hj)
  · have hl0 : l = [] := List.eq_nil_of_length_eq_zero (by omega)
    subst hl0
    simp at hj
theorem sl_none {α : Type} {w : World} {size : Nat} {R : World → List Value → α → Prop} {A : Option Addr} {cap : Nat} {l : List α} (h : SlAt w size R A cap l) : A = none → l.length = 0 := by
  intro hA
  cases l with
  | nil => rfl
  | cons x l => obtain ⟨b, off, cs, hA', _⟩ := h.2.2 0 (by simp); rw [hA] at hA'; cases hA'
theorem info2Tab : (Tryz.prog.info? 76).map (fun i => (i.zero, i.size, i.bytes)) = some (some (.agg #[.string ByteArray.empty, .string ByteArray.empty, .string ByteArray.empty, .slice none 0 0, .slice none 0 0]), 5, 96) := by kernel_rfl
theorem info2Sch2 : (Tryz.prog.info? 88).map (fun i => (i.zero, i.size, i.bytes)) = some (some (.agg #[.string ByteArray.empty, .string ByteArray.empty]), 2, 32) := by kernel_rfl
theorem info2Str2 : (Tryz.prog.info? 9).map (fun i => (i.zero, i.size, i.bytes)) = some (some (.string ByteArray.empty), 1, 16) := by kernel_rfl
theorem info2Rul2 : (Tryz.prog.info? 108).map (fun i => (i.zero, i.size, i.bytes)) = some (some (.agg #[.string ByteArray.empty, .int .i64 0, .slice none 0 0, .int .i64 0, .int .i64 0, .string ByteArray.empty, .string ByteArray.empty, .string ByteArray.empty]), 8, 112) := by kernel_rfl
theorem info2Col2 : (Tryz.prog.info? 93).map (fun i => (i.zero, i.size, i.bytes)) = some (some (.agg #[.string ByteArray.empty, .int .i64 0, .bool false]), 3, 32) := by kernel_rfl
/-- a table in memory of its own -/
def CopyO (w : World) (t : Tab) (e : Ending) (w' : World) : Prop :=
  ∃ x : OTab, x.t = t ∧ e = .returned (.agg #[.string t.schema, .string t.name, .string t.owner, .slice x.hc.a t.cols.length x.hc.c, .slice x.hr.a t.rules.length x.hr.c]) ∧ Aft w w' ∧ TabIn w' w.heap.size x ∧ x.blks.Nodup
/-- objects in memory of their own -/
def OwnO (w : World) (o : Objs) (e : Ending) (w' : World) : Prop :=
  ∃ hs ht L, L.map OTab.t = o.tables ∧ e = .returned (.agg #[.slice hs.a o.schemas.length hs.c, .slice ht.a o.tables.length ht.c]) ∧ Aft w w' ∧ ObjIn w' w.heap.size hs ht o.schemas L
def ModO (o : Objs) : Prop := o.schemas.length ≤ 1000000 ∧ o.tables.length ≤ 1000000 ∧ ∀ t ∈ o.tables, t.cols.length ≤ 1000000 ∧ t.rules.length ≤ 1000000 ∧ ∀ r ∈ t.rules, r.cols.length ≤ 1000000
end Go.Proofs.YtiadkchlkdaceaaGreat

namespace Go.Proofs.YtiadkchlkdaceaaGreat
open Go.RowKit Go.Shelf Go.Sort
set_option linter.unusedVariables false
/-- an order: what is like another one stands to all as that one does -/
structure Pre8 {α : Type} (c : α → α → Int) : Prop where
  tr : ∀ a b d, c a b < 0 → c b d < 0 → c a d < 0
  anti : ∀ a b, c a b = - c b a
  con : ∀ a b d, c a b = 0 → c a d = c b d
theorem Pre8.con' {α : Type} {c : α → α → Int} (o : Pre8 c) (a b d : α) (h : c a b = 0) : c d a = c d b := by
  have h1 := o.con a b d h
  have h2 := o.anti d a
  have h3 := o.anti d b
  omega
theorem preS : Pre8 cmpS := ⟨fun a b d h1 h2 => cmpS_trans h1 h2, cmpS_anti, fun a b d h => by
  have : a.data.toList = b.data.toList := (cmpB_eq _ _).1 h
  unfold cmpS
  rw [this]⟩
theorem Pre8.on {α β : Type} {c : β → β → Int} (o : Pre8 c) (f : α → β) : Pre8 fun a b : α => c (f a) (f b) := ⟨fun a b d => o.tr _ _ _, fun a b => o.anti _ _, fun a b d => o.con _ _ _⟩
theorem Pre8.or {α : Type} {c d : α → α → Int} (o : Pre8 c) (p : Pre8 d) : Pre8 fun a b => or2 (c a b) (d a b) := by
  have h0 : ∀ a b, c a b = 0 → c b a = 0 := fun a b h => by have := o.anti a b; omega
  have e1 : ∀ a b, c a b = 0 → or2 (c a b) (d a b) = d a b := fun a b h => by unfold or2; simp [h]
  have e2 : ∀ a b, c a b ≠ 0 → or2 (c a b) (d a b) = c a b := fun a b h => by unfold or2; simp [h]
  refine ⟨fun a b x h1 h2 => ?_, fun a b => ?_, fun a b x h => ?_⟩
  · by_cases g1 : c a b = 0
    · rw [e1 _ _ g1] at h1
      have g3 := o.con a b x g1
      by_cases g2 : c b x = 0
      · rw [e1 _ _ g2] at h2
        rw [e1 _ _ (by omega)]; exact p.tr _ _ _ h1 h2
      · rw [e2 _ _ g2] at h2
        rw [e2 _ _ (by omega)]; omega
    · rw [e2 _ _ g1] at h1
      by_cases g2 : c b x = 0
      · have g3 := o.con' b x a g2
        rw [e2 _ _ (by omega)]; omega
      · rw [e2 _ _ g2] at h2
        have := o.tr _ _ _ h1 h2
        rw [e2 _ _ (by omega)]; exact this
  · have ha := o.anti a b
    by_cases g1 : c a b = 0
    · rw [e1 _ _ g1, e1 _ _ (h0 _ _ g1)]; exact p.anti _ _
    · rw [e2 _ _ g1, e2 _ _ (by omega)]; exact ha
  · by_cases g1 : c a b = 0
    · rw [e1 _ _ g1] at h
      have g3 := o.con a b x g1
      by_cases g2 : c a x = 0
      · rw [e1 _ _ g2, e1 _ _ (by omega)]; exact p.con _ _ _ h
      · rw [e2 _ _ g2, e2 _ _ (by omega)]; exact g3
    · rw [e2 _ _ g1] at h; exact absurd h g1
/-- schemas by name, rules by name, tables by schema and name -/
def cmpSc (a b : Sch) : Int := cmpS a.name b.name
def cmpRl (a b : Rul) : Int := cmpS a.name b.name
theorem preRl : Pre8 cmpRl := preS.on Rul.name
def cmpTb (a b : Tab) : Int := or2 (cmpS a.schema b.schema) (cmpS a.name b.name)
theorem preTb : Pre8 cmpTb := (preS.on Tab.schema).or (preS.on Tab.name)
instance : Inhabited Sch := ⟨⟨ByteArray.empty, ByteArray.empty⟩⟩
instance : Inhabited Rul := ⟨⟨ByteArray.empty, 0, [], 0, 0, ByteArray.empty, ByteArray.empty, ByteArray.empty⟩⟩
instance : Inhabited ORul := ⟨⟨default, ⟨none, 0, 0⟩⟩⟩
instance : Inhabited OTab := ⟨⟨ByteArray.empty, ByteArray.empty, ByteArray.empty, [], [], ⟨none, 0, 0⟩, ⟨none, 0, 0⟩⟩⟩
end Go.Proofs.YtiadkchlkdaceaaGreat

namespace Go.Proofs.YtiadkchlkdaceaaGreat
set_option linter.unusedVariables false
theorem eqS_iff9 (a b : ByteArray) : eqS a b = true ↔ a = b := ⟨fun h => by
  have h1 : a.data.toList = b.data.toList := (cmpB_eq _ _).1 ((cmpS_eq a b).2 h)
  obtain ⟨a⟩ := a
  obtain ⟨b⟩ := b
  have h2 : a = b := Array.toList_inj.1 h1
  rw [h2], fun h => by rw [h]; exact eqS_refl b⟩
theorem cmpS_zero9 (a b : ByteArray) : cmpS a b = 0 ↔ a = b := (cmpS_eq a b).trans (eqS_iff9 a b)
theorem cmpTb_zero {x y : Tab} : cmpTb x y = 0 ↔ x.schema = y.schema ∧ x.name = y.name := by
  unfold cmpTb or2
  by_cases e1 : cmpS x.schema y.schema = 0
  · rw [if_pos (by simpa using e1), cmpS_zero9]
    exact ⟨fun h => ⟨(cmpS_zero9 _ _).1 e1, h⟩, fun h => h.2⟩
  · rw [if_neg (by simpa using e1)]
    exact ⟨fun h => absurd h e1, fun h => absurd ((cmpS_zero9 _ _).2 h.1) e1⟩
theorem idxP_find {α : Type} (p : α → Bool) : ∀ l : List α, l.find? p = if idxP p l < 0 then none else l[(idxP p l).toNat]?
  | [] => by simp [idxP]
  | x :: l => by
    have ih := idxP_find p l
    have hr := idxP_range p l
    rw [List.find?_cons]
    show _ = if (if p x then (0 : Int) else if idxP p l < 0 then -1 else idxP p l + 1) < 0 then none else (x :: l)[(if p x then (0 : Int) else if idxP p l < 0 then -1 else idxP p l + 1).toNat]?
    cases h : p x
    · simp only [Bool.false_eq_true, if_false]
      rw [ih]
      by_cases h1 : idxP p l < 0
      · rw [if_pos h1, if_pos h1, if_pos (by omega)]
      · rw [if_neg h1, if_neg h1, if_neg (by omega), show (idxP p l + 1).toNat = (idxP p l).toNat + 1 by omega, List.getElem?_cons_succ]
    · simp
theorem uniq_find {α : Type} (p : α → Bool) (l : List α) (x : α) (hx : x ∈ l) (hp : p x = true) (hu : ∀ y ∈ l, p y = true → y = x) : l.find? p = some x := by
  cases h : l.find? p with
  | none =>
    have := List.find?_eq_none.1 h x hx
    rw [hp] at this
    exact absurd rfl this
  | some y => rw [hu y (List.mem_of_find?_eq_some h) (List.find?_some h)]
theorem rises_uniq {α : Type} {c : α → α → Int} (P : Pre8 c) {l : List α} (h : risesB c l = true) {x y : α} (hx : x ∈ l) (hy : y ∈ l) (e : c x y = 0) : x = y := by
  obtain ⟨i, hi, rfl⟩ := List.getElem_of_mem hx
  obtain ⟨j, hj, rfl⟩ := List.getElem_of_mem hy
  rcases Nat.lt_trichotomy i j with h1 | h1 | h1
  · have := rises_lt P.tr h i j hi hj h1; omega
  · subst h1; rfl
  · have := rises_lt P.tr h j i hj hi h1; have := P.anti l[i] l[j]; omega
theorem colsOk_iff (l : List Col) : colsOk l = true ↔ (1 ≤ l.length ∧ l.length ≤ 8) ∧ (∀ c ∈ l, colOk c = true) ∧ l.Pairwise fun a b => a.name ≠ b.name := by
  unfold colsOk
  simp only [Bool.and_eq_true, decide_eq_true_eq, List.all_eq_true, List.mem_range]
  have key : ∀ (i : Nat) (hi : i < l.length), idxP (fun d : Col => eqS d.name l[i].name) (l.take i) < 0 ↔ ∀ j (hj : j < i), (l[j]'(by omega)).name ≠ l[i].name := fun i hi => by
    constructor
    · intro h j hj e
      have h1 := idxP_find (fun d : Col => eqS d.name l[i].name) (l.take i)
      rw [if_pos h] at h1
      have := List.find?_eq_none.1 h1 (l[j]'(by omega)) (by rw [List.mem_take_iff_getElem]; exact ⟨j, by omega, rfl⟩)
      exact this ((eqS_iff9 _ _).2 e)
    · intro h
      have : idxP (fun d : Col => eqS d.name l[i].name) (l.take i) = -1 := idxP_none _ _ fun j hj => by
        rw [Bool.eq_false_iff]
        intro e
        have hj' : j < i := by simp at hj; omega
        rw [List.getElem_take] at e
        exact h j hj' ((eqS_iff9 _ _).1 e)
      omega
  constructor
  · rintro ⟨h1, h2⟩
    refine ⟨h1, fun c hc => ?_, List.pairwise_iff_getElem.2 fun i j hi hj hij => ?_⟩
    · obtain ⟨i, hi, rfl⟩ := List.getElem_of_mem hc
      have := h2 i hi
      rw [List.getElem?_eq_getElem hi] at this
      simp only [Bool.and_eq_true, decide_eq_true_eq] at this
      exact this.1
    · have := h2 j hj
      rw [List.getElem?_eq_getElem hj] at this
      simp only [Bool.and_eq_true, decide_eq_true_eq] at this
      exact (key j hj).1 this.2 i hij
  · rintro ⟨h1, h2, h3⟩
    refine ⟨h1, fun i hi => ?_⟩
    rw [List.getElem?_eq_getElem hi]
    simp only [Bool.and_eq_true, decide_eq_true_eq]
    exact ⟨h2 _ (List.getElem_mem hi), (key i hi).2 fun j hj => List.pairwise_iff_getElem.1 h3 j i (by omega) hi hj⟩
/-- a foreign rule's key is there and goes with it -/
def HasKey (ts : List Tab) (l : List Col) (r : Rul) : Prop := ∃ t ∈ ts, t.schema = r.schema ∧ t.name = r.table ∧ ∃ q ∈ t.rules, q.name = r.key ∧ q.kind = 2 ∧ pairsOk l t.cols r.cols q.cols = true
theorem keyE_find (ts : List Tab) (l : List Col) (r : Rul) : keyE ts l r = match ts.find? (fun t => eqS t.schema r.schema && eqS t.name r.table) with
    | none => 61
    | some t => match t.rules.find? (fun q => eqS q.name r.key) with
      | none => 61
      | some q => if q.kind == 2 then (if pairsOk l t.cols r.cols q.cols then 0 else 63) else 61 := by
  have h2 : ∀ t : Tab, keyT t l r = match t.rules.find? (fun q => eqS q.name r.key) with | none => 61 | some q => if q.kind == 2 then (if pairsOk l t.cols r.cols q.cols then 0 else 63) else 61 := fun t => by
    unfold keyT
    rw [idxP_find]
    have e : rulAt t.rules r.key = idxP (fun q : Rul => eqS q.name r.key) t.rules := rfl
    rw [e]
    by_cases h : idxP (fun q : Rul => eqS q.name r.key) t.rules < 0
    · rw [if_pos h]
      split
      · rw [if_pos h]
      · rfl
    · rw [if_neg h]
      cases hg : t.rules[(idxP (fun q : Rul => eqS q.name r.key) t.rules).toNat]? with
      | none => rfl
      | some q => simp only; rw [if_neg h]
  unfold keyE
  rw [idxP_find]
  have e : tabAt ts r.schema r.table = idxP (fun t : Tab => eqS t.schema r.schema && eqS t.name r.table) ts := rfl
  rw [e]
  by_cases h : idxP (fun t : Tab => eqS t.schema r.schema && eqS t.name r.table) ts < 0
  · rw [if_pos h]
    split
    · rw [if_pos h]
    · rfl
  · rw [if_neg h]
    cases hg : ts[(idxP (fun t : Tab => eqS t.schema r.schema && eqS t.name r.table) ts).toNat]? with
    | none => rfl
    | some t => simp only; rw [if_neg h, h2]
theorem has_of_key {ts : List Tab} {l : List Col} {r : Rul} (h : keyE ts l r = 0) : HasKey ts l r := by
  rw [keyE_find] at h
  cases h1 : ts.find? (fun t => eqS t.schema r.schema && eqS t.name r.table) with
  | none => rw [h1] at h; simp at h
  | some t =>
    rw [h1] at h
    simp only at h
    have p1 := List.find?_some (p := fun t : Tab => eqS t.schema r.schema && eqS t.name r.table) h1
    simp only [Bool.and_eq_true, eqS_iff9] at p1
    cases h2 : t.rules.find? (fun q => eqS q.name r.key) with
    | none => rw [h2] at h; simp at h
    | some q =>
      rw [h2] at h
      simp only at h
      have p2 := List.find?_some (p := fun q : Rul => eqS q.name r.key) h2
      by_cases k : (q.kind == 2) = true
      · rw [if_pos k] at h
        by_cases k2 : pairsOk l t.cols r.cols q.cols = true
        · exact ⟨t, List.mem_of_find?_eq_some h1, p1.1, p1.2, q, List.mem_of_find?_eq_some h2, (eqS_iff9 _ _).1 p2, by simpa using k, k2⟩
        · rw [if_neg k2] at h; exact absurd h (by decide)
      · rw [if_neg k] at h; exact absurd h (by decide)
theorem key_of_has {ts : List Tab} {l : List Col} {r : Rul} (hts : risesB cmpTb ts = true) (hrs : ∀ t ∈ ts, risesB cmpRl t.rules = true) (h : HasKey ts l r) : keyE ts l r = 0 := by
  obtain ⟨t, ht, e1, e2, q, hq, e3, e4, e5⟩ := h
  rw [keyE_find, uniq_find _ ts t ht (by rw [e1, e2, eqS_refl, eqS_refl]; rfl) (fun y hy hp => by
    simp only [Bool.and_eq_true, eqS_iff9] at hp
    exact rises_uniq preTb hts hy ht (cmpTb_zero.2 ⟨hp.1.trans e1.symm, hp.2.trans e2.symm⟩))]
  simp only
  rw [uniq_find _ t.rules q hq (by rw [e3, eqS_refl]) (fun y hy hp => rises_uniq preRl (hrs t ht) hy hq ((cmpS_zero9 _ _).2 (((eqS_iff9 _ _).1 hp).trans e3.symm)))]
  simp only
  rw [if_pos (by simp [e4]), if_pos e5]
structure GoodT (ss : List Sch) (ts : List Tab) (t : Tab) : Prop where
  nm : nameB t.name = true
  ow : nameB t.owner = true
  cols : colsOk t.cols = true
  nr : t.rules.length ≤ 8
  sch : ∃ s ∈ ss, s.name = t.schema
  rises : risesB cmpRl t.rules = true
  fit : ∀ r ∈ t.rules, fitsOk t.cols r = true
  key : ∀ r ∈ t.rules, r.kind = 4 → HasKey ts t.cols r
structure Good (o : Objs) : Prop where
  ns : o.schemas.length ≤ 8
  nt : o.tables.length ≤ 64
  rt : risesB cmpTb o.tables = true
  rs : risesB cmpSc o.schemas = true
  sch : ∀ s ∈ o.schemas, nameB s.name = true ∧ nameB s.owner = true ∧ within o.tables s.name ≤ 8
  tab : ∀ t ∈ o.tables, GoodT o.schemas o.tables t
theorem schAt_iff (l : List Sch) (s : ByteArray) : 0 ≤ schAt l s ↔ ∃ x ∈ l, x.name = s := by
  have h := idxP_find (fun c : Sch => eqS c.name s) l
  have hr := idxP_range (fun c : Sch => eqS c.name s) l
  have e : schAt l s = idxP (fun c : Sch => eqS c.name s) l := rfl
  rw [e]
  constructor
  · intro h0
    rw [if_neg (by omega), List.getElem?_eq_getElem (by omega)] at h
    exact ⟨_, List.mem_of_find?_eq_some h, (eqS_iff9 _ _).1 (List.find?_some (p := fun c : Sch => eqS c.name s) h)⟩
  · rintro ⟨x, hx, rfl⟩
    rcases Int.lt_or_le (idxP (fun c : Sch => eqS c.name x.name) l) 0 with h0 | h0
    · rw [if_pos h0] at h
      exact absurd (eqS_refl x.name) (List.find?_eq_none.1 h x hx)
    · exact h0
theorem good_iff (o : Objs) : checkO o = true ↔ Good o := by
  unfold checkO headOk
  simp only [Bool.and_eq_true, decide_eq_true_eq, List.all_eq_true]
  constructor
  · rintro ⟨⟨⟨⟨h1, h2⟩, h3⟩, h4⟩, h5, h6⟩
    refine ⟨h1, h2, h3, h4, fun s hs => ?_, fun t ht => ?_⟩
    · have := h5 s hs
      unfold schOk at this
      simp only [Bool.and_eq_true, decide_eq_true_eq] at this
      exact ⟨this.1.1, this.1.2, this.2⟩
    · have := h6 t ht
      unfold rightT at this
      simp only [Bool.and_eq_true, decide_eq_true_eq, List.all_eq_true] at this
      obtain ⟨⟨⟨⟨⟨a1, a2⟩, a3⟩, a4⟩, a5⟩, a6, a7⟩ := this
      refine ⟨a1, a2, a3, a4, (schAt_iff _ _).1 a5, a7, fun r hr => ?_, fun r hr hk => ?_⟩
      · have := a6 r hr
        unfold ruleOk at this
        simp only [Bool.and_eq_true] at this
        exact this.1
      · have := a6 r hr
        unfold ruleOk at this
        simp only [Bool.and_eq_true, Bool.not_eq_true', Bool.and_eq_false_iff, beq_eq_false_iff_ne, bne_eq_false_iff_eq] at this
        exact has_of_key (this.2.resolve_left fun h => h hk)
  · intro g
    have hrs : ∀ t ∈ o.tables, risesB cmpRl t.rules = true := fun t ht => (g.tab t ht).rises
    refine ⟨⟨⟨⟨g.ns, g.nt⟩, g.rt⟩, g.rs⟩, fun s hs => ?_, fun t ht => ?_⟩
    · have := g.sch s hs
      unfold schOk
      simp only [Bool.and_eq_true, decide_eq_true_eq]
      exact ⟨⟨this.1, this.2.1⟩, this.2.2⟩
    · have a := g.tab t ht
      unfold rightT
      simp only [Bool.and_eq_true, decide_eq_true_eq, List.all_eq_true]
      refine ⟨⟨⟨⟨⟨a.nm, a.ow⟩, a.cols⟩, a.nr⟩, (schAt_iff _ _).2 a.sch⟩, fun r hr => ?_, a.rises⟩
      unfold ruleOk
      simp only [Bool.and_eq_true, Bool.not_eq_true', Bool.and_eq_false_iff, beq_eq_false_iff_ne, bne_eq_false_iff_eq]
      refine ⟨a.fit r hr, ?_⟩
      by_cases hk : r.kind = 4
      · exact .inr (key_of_has g.rt hrs (a.key r hr hk))
      · exact .inl hk
end Go.Proofs.YtiadkchlkdaceaaGreat

namespace Go.Proofs.YtiadkchlkdaceaaGreat
open Go.RowKit Go.Deep
set_option maxRecDepth 100000
set_option linter.unusedVariables false
def ModT (t : Tab) : Prop := t.cols.length ≤ 1000000 ∧ t.rules.length ≤ 1000000 ∧ ∀ r ∈ t.rules, r.cols.length ≤ 1000000
theorem lvTab_row {W : World} {b : Nat} {a c d e f : Value} (h : RowAt W b [a, c, d, e, f]) : (loadVar 76 ⟨b, 0, none⟩).run Tryz.prog W = .ok (.agg #[a, c, d, e, f]) W := by
  have e0 := h.cell (j := 0) rfl
  have e1 := h.cell (j := 1) rfl
  have e2 := h.cell (j := 2) rfl
  have e3 := h.cell (j := 3) rfl
  have e4 := h.cell (j := 4) rfl
  have h1 := run_lvTab W b 0 (by rw [e0]; rfl) (by rw [e1]; rfl) (by rw [e2]; rfl) (by rw [e3]; rfl) (by rw [e4]; rfl)
  rw [e0, e1, e2, e3, e4] at h1
  exact h1
theorem box_row2 {w W : World} {c : List Value} {t : TypeId} (h : Aft (w.alloc (.cells c.toArray t)) W) : RowAt W w.heap.size c := by
  obtain ⟨hb, hf, hz, _, _⟩ := aft_box h
  exact ⟨hz.1, fun j hj => by rw [hb]; simp, fun j _ => hf j⟩
/-- what is true of a table that is being copied: k of its rules have names of their own -/
structure CopyS (w wr : World) (t : Tab) (hc hr : Hd) (L0 L : List ORul) (k : Nat) : Prop where
  aft : Aft w wr
  box : RowAt wr w.heap.size [.string t.schema, .string t.name, .string t.owner, .slice hc.a t.cols.length hc.c, .slice hr.a t.rules.length hr.c]
  out : RowAt wr (w.heap.size + 1) [.string ⟨#[]⟩, .string ⟨#[]⟩, .string ⟨#[]⟩, .slice none 0 0, .slice none 0 0]
  col : wr.ownsRow (w.heap.size + 2) 93 3 hc.v t.cols.length (t.cols.flatMap colC)
  rul : wr.ownsRow (w.heap.size + 2) 108 8 hr.v t.rules.length ((L ++ L0.drop k).flatMap ORul.cells)
  len : L.length = k
  is : L.map (·.r) = t.rules.take k
  each : ∀ x ∈ L, RulIn wr (w.heap.size + 2) x
  nd : (hc.blk ++ (hr.blk ++ L.flatMap (·.h.blk))).Nodup
theorem CopyS.lt {w wr : World} {t : Tab} {hc hr : Hd} {L0 L : List ORul} {k : Nat} (s : CopyS w wr t hc hr L0 L k) : ∀ g ∈ hc.blk ++ (hr.blk ++ L.flatMap (·.h.blk)), w.heap.size + 2 ≤ g ∧ g < wr.heap.size := by
  intro g hg
  simp only [List.mem_append, List.mem_flatMap] at hg
  rcases hg with hg | hg | ⟨r, hr, hg⟩
  · exact blk_lt s.col g hg
  · exact blk_lt s.rul g hg
  · exact blk_lt (s.each r hr).nam g hg
/-- one rule more -/
theorem CopyS.step {w wr w4 : World} {t : Tab} {hc hr h4 : Hd} {L0 L : List ORul} {k gr : Nat} (s : CopyS w wr t hc hr L0 L k) (h0 : L0.map (·.r) = t.rules) (hk : k < t.rules.length) (hgr : hr.a = some ⟨gr, 0, none⟩)
    (a4 : Aft wr w4) (own4 : w4.ownsRow wr.heap.size 9 1 h4.v t.rules[k].cols.length (t.rules[k].cols.flatMap nameC)) : CopyS w (w4.setCell ⟨gr, k * 8 + 2, none⟩ h4.v) t hc hr L0 (L ++ [⟨t.rules[k], h4⟩]) (k + 1) := by
  have hL0 : L0.length = t.rules.length := by rw [← h0]; simp
  have hgb : gr ∈ hr.blk := by rw [Hd.mem_blk]; unfold Hd.v; rw [hgr]; rfl
  have hlt := s.lt
  have hg := hlt gr (by simp [hgb])
  have kb := Kb.set w4 gr (k * 8 + 2) h4.v
  have ka : Kb (fun x => x = gr) wr (w4.setCell ⟨gr, k * 8 + 2, none⟩ h4.v) := (Kb.of_aft a4).trans kb
  have hnd := s.nd
  have hz : wr.heap.size ≤ w.heap.size + 2 ∨ w.heap.size + 2 ≤ wr.heap.size := by omega
  have hcg : ∀ g ∈ hc.blk, ¬ g = gr := fun g hgc e => by
    subst e
    exact (List.nodup_append.1 hnd).2.2 g hgc g (by simp [hgb]) rfl
  have hng : ∀ x ∈ L, ∀ g ∈ x.h.blk, ¬ g = gr := fun x hx g hgc e => by
    subst e
    exact (List.nodup_append.1 (List.nodup_append.1 hnd).2.1).2.2 g hgb g (by simp only [List.mem_flatMap]; exact ⟨x, hx, hgc⟩) rfl
  refine ⟨ka.to_aft s.aft (fun x hx e => by omega), ka.row s.box (by omega), ka.row s.out (by omega), own_kb s.col ka fun g hgo => hcg g (Hd.mem_blk.2 hgo), ?_, by simp [s.len], ?_, ?_, ?_⟩
  · have h1 := own_set (own_aft s.rul a4) (Hd.mem_blk.1 hgb) (k * 8 + 2) h4.v
    have hkl : k < (L ++ L0.drop k).length := by simp [s.len]; omega
    have hget : (L ++ L0.drop k)[k] = L0[k]'(by omega) := by
      rw [List.getElem_append_right (by rw [s.len]; exact Nat.le_refl _)]
      simp [s.len]
    have hrk : (L0[k]'(by omega)).r = t.rules[k] := by
      have : (L0.map (·.r))[k]'(by simpa using (by omega : k < L0.length)) = t.rules[k] := by simp only [h0]
      simpa using this
    rw [flatMap_set (size := 8) (fun _ => rfl) (L ++ L0.drop k) k 2 hkl (by decide) h4.v ⟨t.rules[k], h4⟩ (by rw [hget]; unfold ORul.cells rulC; rw [hrk]; rfl)] at h1
    have hset : (L ++ L0.drop k).set k ⟨t.rules[k], h4⟩ = (L ++ [⟨t.rules[k], h4⟩]) ++ L0.drop (k + 1) := by
      have hd : L0.drop k = L0[k]'(by omega) :: L0.drop (k + 1) := List.drop_eq_getElem_cons (by omega : k < L0.length)
      rw [List.set_append_right _ _ (by rw [s.len]; exact Nat.le_refl _), s.len, Nat.sub_self, hd]
      simp only [List.set_cons_zero, List.append_assoc, List.cons_append, List.nil_append]
    rw [hset] at h1
    exact h1
  · rw [List.map_append, s.is, List.take_succ_eq_append_getElem hk]; rfl
  · intro x hx
    simp only [List.mem_append, List.mem_singleton] at hx
    rcases hx with hx | rfl
    · exact (s.each x hx).kb ka fun g hgo => hng x hx g hgo
    · exact ⟨own_down (own_kb own4 kb fun g hgo e => by have := (own4.lt g hgo).1; omega) (by have := s.out.1; omega)⟩
  · have e : hc.blk ++ (hr.blk ++ (L ++ [ORul.mk t.rules[k] h4]).flatMap (·.h.blk)) = (hc.blk ++ (hr.blk ++ L.flatMap (·.h.blk))) ++ h4.blk := by simp [List.append_assoc]
    rw [e]
    exact nodup_more hnd (blk_nodup h4) (fun g hg => (hlt g hg).2) (fun g hg => (blk_lt own4 g hg).1)
set_option maxHeartbeats 8000000 in
theorem copied_in (t : Tab) (A : Option Addr) (cap : Nat) (A2 : Option Addr) (cap2 : Nat) (w : World) (h : SlAt w 3 ColR A cap t.cols) (h2 : SlAt w 8 RulR A2 cap2 t.rules) (hm : ModT t) :
    Calls Tryz.prog 60 #[.agg #[.string t.schema, .string t.name, .string t.owner, .slice A t.cols.length cap, .slice A2 t.rules.length cap2]] w (CopyO w t) := by
  have hlen := h.len
  have hlen2 := h2.len
  have C1 := Lib.hid (show ∀ w', Aft w w' → _ from fun w' a => clone2Col A cap t.cols w w' a h hm.1)
  have C2 := Lib.hid (show ∀ w', Aft w w' → _ from fun w' a => clone2Rul A2 cap2 t.rules w w' a h2 hm.2.1)
  have l1 : w.heap.size < w.heap.size + 1 := by omega
  have l2 : w.heap.size < w.heap.size + 1 + 1 := by omega
  go_enter Tryz.func60, Tryz.ntmps60
  go_wp2_with fail
  refine (C1.out _ (((Aft.refl w).alloc _).alloc _)).mono ?_
  rintro e w1 ⟨v1, css1, rfl, a1, own1, ch1⟩
  have r1 : RowAt w1 w.heap.size [.string t.schema, .string t.name, .string t.owner, .slice A t.cols.length cap, .slice A2 t.rules.length cap2] := (box_row2 (Aft.refl _)).aft (((Aft.refl _).alloc _).trans a1)
  have r2 : RowAt w1 (w.heap.size + 1) [.string ⟨#[]⟩, .string ⟨#[]⟩, .string ⟨#[]⟩, .slice none 0 0, .slice none 0 0] := by
    have := (box_row2 (w := w.alloc (.cells #[.string t.schema, .string t.name, .string t.owner, .slice A t.cols.length cap, .slice A2 t.rules.length cap2] 76)) (c := [.string ⟨#[]⟩, .string ⟨#[]⟩, .string ⟨#[]⟩, .slice none 0 0, .slice none 0 0]) (t := 76) (Aft.refl _)).aft a1
    simpa using this
  have HA1 := Lib.hid ((((Aft.refl w).alloc _).alloc _).trans a1)
  obtain ⟨Ac, cc, hv1⟩ := own_lit own1
  subst hv1
  rw [flat_cols ch1] at own1
  have own1 : w1.ownsRow (w.heap.size + 2) 93 3 (Hd.mk Ac t.cols.length cc).v t.cols.length (t.cols.flatMap colC) := own_down own1 (by simp)
  have hz1 : w.heap.size + 2 ≤ w1.heap.size := by have := a1.size; simp at this; omega
  obtain ⟨W1, hW1⟩ : ∃ W1, W1 = w1.setCell ⟨w.heap.size, 3, none⟩ (.slice Ac t.cols.length cc) := ⟨_, rfl⟩
  have kW1 : Kb (fun x => x = w.heap.size) w1 W1 := by rw [hW1]; exact Kb.set _ _ _ _
  have s1 : RowAt W1 w.heap.size [.string t.schema, .string t.name, .string t.owner, .slice Ac t.cols.length cc, .slice A2 t.rules.length cap2] := by rw [hW1]; exact r1.set 3 _ (by simp)
  have s2 := kW1.row r2 (by omega)
  have aW1 : Aft w W1 := by rw [hW1]; exact HA1.out.setCell _ _ (Nat.le_refl _)
  have zW1 : W1.heap.size = w1.heap.size := by rw [hW1]; simp
  have own1' := own_kb own1 kW1 (fun g hg e => by have := (own1.lt g hg).1; omega)
  have b0 := r1.cell (j := 3) rfl
  have b1 := r1.cell (j := 4) rfl
  have f3 := r1.2.2 3 (by simp)
  have z0 := r1.1
  have q4 := s1.cell (j := 4) rfl
  have qz := s1.1
  have HO1 := Lib.hid own1'
  have HR1 := Lib.hid s1
  have HR2 := Lib.hid s2
  clear r1 r2 a1 own1 ch1 C1 kW1 own1' s1 s2
  go_wp2_with fail
  rw [← hW1]
  refine (C2.out W1 aW1).mono ?_
  rintro e w2 ⟨v2, css2, rfl, a2, own2, ch2⟩
  clear C2 hW1 b0 b1 f3 q4 qz
  obtain ⟨Ar, cr, hv2⟩ := own_lit own2
  subst hv2
  obtain ⟨L0, hL0, hcss, hlie⟩ := rules_lie ch2
  rw [hcss, ← List.flatMap_def] at own2
  have s1' := HR1.out.aft a2
  have s2' := HR2.out.aft a2
  have b0 := s1'.cell (j := 3) rfl
  have b1 := s1'.cell (j := 4) rfl
  have f4 := s1'.2.2 4 (by simp)
  have z0 := s1'.1
  obtain ⟨W2, hW2⟩ : ∃ W2, W2 = w2.setCell ⟨w.heap.size, 4, none⟩ (.slice Ar t.rules.length cr) := ⟨_, rfl⟩
  have kW2 : Kb (fun x => x = w.heap.size) w2 W2 := by rw [hW2]; exact Kb.set _ _ _ _
  have u1 : RowAt W2 w.heap.size [.string t.schema, .string t.name, .string t.owner, .slice Ac t.cols.length cc, .slice Ar t.rules.length cr] := by rw [hW2]; exact s1'.set 4 _ (by simp)
  have hS0 : CopyS w W2 t ⟨Ac, t.cols.length, cc⟩ ⟨Ar, t.rules.length, cr⟩ L0 [] 0 := by
    have hz2 : w.heap.size + 2 ≤ W1.heap.size := by omega
    have own1'' := own_aft HO1.out a2
    have own2' : w2.ownsRow W1.heap.size 108 8 (Hd.mk Ar t.rules.length cr).v t.rules.length (L0.flatMap ORul.cells) := own2
    refine ⟨kW2.to_aft (aW1.trans a2) (fun x hx e => by omega), u1, kW2.row s2' (by omega), own_kb own1'' kW2 (fun g hg e => by have := (own1''.lt g hg).1; omega),
      own_down (own_kb own2' kW2 (fun g hg e => by have := (own2.lt g hg).1; omega)) hz2, rfl, rfl, fun x hx => by simp at hx, ?_⟩
    simp only [List.flatMap_nil, List.append_nil]
    exact nodup_more (blk_nodup _) (blk_nodup _) (fun g hg => (blk_lt HO1.out g hg).2) (fun g hg => (blk_lt own2' g hg).1)
  have HS0 := Lib.hid hS0
  have HL0 := Lib.hid hL0
  have HLIE := Lib.hid (show ∀ x ∈ L0, ∀ w', Aft w w' → x.h.n = x.r.cols.length ∧ SlAt w' 1 StrR x.h.a x.h.c x.r.cols from fun x hx w' a => ⟨(hlie x hx).1, strs_aft a (hlie x hx).2⟩)
  have HM := Lib.hid hm
  have x3 := u1.cell (j := 4) rfl
  have xz := u1.1
  clear s1' s2' own2 ch2 hS0 hL0 hlie hm kW2 u1 aW1 hcss
  go_wp2_with fail
  rw [← hW2]
  clear hW2 b0 b1 f4 z0
  go_loopw [15] (fun i wr => ∃ (k : Nat) (L : List ORul), k ≤ t.rules.length ∧ i = .int .i64 k ∧ CopyS w wr t ⟨Ac, t.cols.length, cc⟩ ⟨Ar, t.rules.length, cr⟩ L0 L k) (fun i _ => t.rules.length - (intOf i).toNat)
  case atStart => exact ⟨0, [], Nat.zero_le _, rfl, HS0.out⟩
  case round =>
    clear HS0 x3 xz
    obtain ⟨k, L, hk, rfl, hs⟩ := hrel
    have b4 := hs.box.cell (j := 4) rfl
    have bz := hs.box.1
    have HS := Lib.hid hs
    by_cases hlt : k < t.rules.length
    · have hL0l : L0.length = t.rules.length := by rw [← HL0.out]; simp
      obtain ⟨gr, hAr, hgrb, rg⟩ := own_place hs.rul (by omega)
      have hAr' : Ar = some ⟨gr, 0, none⟩ := hAr
      subst hAr'
      have hkl : k < L0.length := by omega
      have hget : (L ++ L0.drop k)[k]'(by simp [hs.len]; omega) = L0[k] := by
        rw [List.getElem_append_right (by rw [hs.len]; exact Nat.le_refl _)]
        simp [hs.len]
      have hrk : L0[k].r = t.rules[k] := by
        have : (L0.map (·.r))[k]'(by simpa using hkl) = t.rules[k] := by simp only [HL0.out]
        simpa using this
      obtain ⟨hn, hD⟩ := HLIE.out L0[k] (List.getElem_mem hkl) wr hs.aft
      obtain ⟨p, hpp⟩ : ∃ p, t.rules[k] = p := ⟨_, rfl⟩
      obtain ⟨D, nD, capD⟩ : Hd := L0[k].h
      have x2 : wr.cell? ⟨gr, k * 8 + 2, none⟩ = some (.slice L0[k].h.a p.cols.length L0[k].h.c) := by
        refine rg.cell ?_
        rw [flatMap_get ORul.cells 8 (fun _ => rfl) _ k 2 (by simp [hs.len]; omega) (by decide), hget]
        unfold ORul.cells rulC Hd.v
        rw [hn, hrk, hpp]; rfl
      rw [hrk, hpp] at hD
      obtain ⟨D2, hD2⟩ : ∃ D, L0[k].h.a = D := ⟨_, rfl⟩
      obtain ⟨c2, hc2⟩ : ∃ c, L0[k].h.c = c := ⟨_, rfl⟩
      rw [hD2, hc2] at x2 hD
      have HPP := Lib.hid hpp
      have f2 := rg.2.2 (k * 8 + 2) (by rw [flatMap_len (size := 8) (fun _ => rfl)]; simp [hs.len]; omega)
      have gz := rg.1
      have hp6 : p.cols.length ≤ 1000000 := HM.out.2.2 p (by rw [← hpp]; exact List.getElem_mem hlt)
      have hpl := hD.len
      have C3 := Lib.hid (show ∀ w', Aft wr w' → _ from fun w' a => clone2Str D2 c2 p.cols wr w' a hD hp6)
      have hgn : gr ≠ w.heap.size := by omega
      clear hpp hget hrk hn hD hD2 hc2 hs rg hAr hL0l
      go_wp2_with fail
      go_region_with ((go_at_call 96; refine (C3.out _ (Aft.refl _).drew).mono ?_; rintro e w4 ⟨v4, css4, rfl, a4, own4, ch4⟩; have x4 := a4.cell_kept x2; have b44 := a4.cell_kept b4; have f4 := (Below.frozen a4 (p := ⟨gr, k * 8 + 2, none⟩) gz).trans f2; obtain ⟨Dn, cn, hv4⟩ := own_lit own4; subst hv4))
      all_goals
        have aw4 : Aft wr w4 := (Aft.refl _).drew.trans a4
        have HREL := Lib.hid (HS.out.step (h4 := ⟨Dn, p.cols.length, cn⟩) HL0.out hlt rfl aw4 (by rw [flat_names ch4] at own4; rw [HPP.out]; exact own4))
        rw [HPP.out] at HREL
        clear own4 ch4 a4 aw4 x4 b44 f4
        go_wp2_with fail
        go_roundw
        case rel => exact ⟨k + 1, _, by omega, by go_num, HREL.out⟩
        case measure => simp [intOf]; omega
    · have c0 := hs.box.cell (j := 0) rfl
      have c1 := hs.box.cell (j := 1) rfl
      have c2 := hs.box.cell (j := 2) rfl
      have c3 := hs.box.cell (j := 3) rfl
      have d0 := hs.out.cell (j := 0) rfl
      have d1 := hs.out.cell (j := 1) rfl
      have d2 := hs.out.cell (j := 2) rfl
      have d3 := hs.out.cell (j := 3) rfl
      have d4 := hs.out.cell (j := 4) rfl
      have e0 := hs.out.2.2 0 (by simp)
      have e1 := hs.out.2.2 1 (by simp)
      have e2 := hs.out.2.2 2 (by simp)
      have e3 := hs.out.2.2 3 (by simp)
      have e4 := hs.out.2.2 4 (by simp)
      have dz := hs.out.1
      clear hs
      go_wp2_with fail
      (try simp only [Exit.inBlock, Exit.then])
      have hs := HS.out
      obtain ⟨F, hF⟩ : ∃ F, F = ((((wr.setCell ⟨w.heap.size + 1, 0, none⟩ (.string t.schema)).setCell ⟨w.heap.size + 1, 1, none⟩ (.string t.name)).setCell ⟨w.heap.size + 1, 2, none⟩ (.string t.owner)).setCell ⟨w.heap.size + 1, 3, none⟩ (.slice Ac t.cols.length cc)).setCell ⟨w.heap.size + 1, 4, none⟩ (.slice Ar t.rules.length cr) := ⟨_, rfl⟩
      have kF : Kb (fun x => x = w.heap.size + 1) wr F := by
        rw [hF]
        exact ((((Kb.set _ _ _ _).trans (Kb.set _ _ _ _)).trans (Kb.set _ _ _ _)).trans (Kb.set _ _ _ _)).trans (Kb.set _ _ _ _)
      have rF : RowAt F (w.heap.size + 1) [.string t.schema, .string t.name, .string t.owner, .slice Ac t.cols.length cc, .slice Ar t.rules.length cr] := by
        rw [hF]
        exact ((((hs.out.set 0 _ (by simp)).set 1 _ (by simp)).set 2 _ (by simp)).set 3 _ (by simp)).set 4 _ (by simp)
      rw [← hF]
      refine bodyPost_ret (results_cell (v := .agg #[.string t.schema, .string t.name, .string t.owner, .slice Ac t.cols.length cc, .slice Ar t.rules.length cr]) rfl _ rfl ?hl) rfl ?_
      case hl => exact lvTab_row rF
      have hkn : k = t.rules.length := by omega
      subst hkn
      have his := hs.is
      rw [List.take_of_length_le (Nat.le_refl _)] at his
      have hL0l : L0.length = t.rules.length := by rw [← HL0.out]; simp
      have hrul := hs.rul
      rw [List.drop_of_length_le (by omega), List.append_nil] at hrul
      have hlen' : L.length = t.rules.length := hs.len
      refine ⟨⟨t.schema, t.name, t.owner, t.cols, L, ⟨Ac, t.cols.length, cc⟩, ⟨Ar, t.rules.length, cr⟩⟩, by unfold OTab.t; rw [his], rfl, kF.to_aft hs.aft (fun x hx e => by omega), ?_, hs.nd⟩
      have hlt' := hs.lt
      refine TabIn.down (TabIn.kb (w := wr) (B := w.heap.size + 2) ⟨hs.col, by show wr.ownsRow _ _ 8 _ L.length _; rw [hlen']; exact hrul, hs.each⟩ kF fun g hg e => ?_) (by omega)
      have := hlt' g hg
      omega
end Go.Proofs.YtiadkchlkdaceaaGreat

namespace Go.Proofs.YtiadkchlkdaceaaGreat
open Go.RowKit Go.Deep
set_option maxRecDepth 100000
set_option linter.unusedVariables false
theorem nodup_disj {l m : List Nat} (h : (l ++ m).Nodup) {g : Nat} (h1 : g ∈ l) (h2 : g ∈ m) : False := (List.nodup_append.1 h).2.2 g h1 g h2 rfl
/-- one table more -/
theorem ObjIn.push {wr w4 w5 : World} {B : Nat} {hs ht ht' : Hd} {ss : List Sch} {L : List OTab} {x : OTab} (h : ObjIn wr B hs ht ss L) (a4 : Aft wr w4) (hx : TabIn w4 wr.heap.size x) (nx : x.blks.Nodup) (hB : B ≤ wr.heap.size)
    (hg : w4.grownBy w5 ht.v.ownBlock) (ho : w5.ownsRow B 76 5 ht'.v (L.length + 1) (L.flatMap OTab.cells ++ x.cells)) (hb : ∀ g ∈ ht'.blk, g ∈ ht.blk ∨ w4.heap.size ≤ g) (hn : ∀ g ∈ ht'.blk, g ∉ x.blks) : ObjIn w5 B hs ht' ss (L ++ [x]) := by
  have k1 : Kb (fun g => ht.v.ownBlock = some g) w4 w5 := Kb.of_grown hg
  have k2 : Kb (fun g => ht.v.ownBlock = some g) wr w5 := (Kb.of_aft a4).trans k1
  have hlt := h.lt
  have nd := h.nd
  have nd2 := (List.nodup_append.1 nd).2.1
  have hsl : ∀ g ∈ hs.blk, g < wr.heap.size := fun g hg => (hlt g (by simp [hg])).2
  have htl : ∀ g ∈ ht.blk, g < wr.heap.size := fun g hg => (hlt g (by simp [hg])).2
  have hLl : ∀ g ∈ L.flatMap OTab.blks, g < wr.heap.size := fun g hg => (hlt g (by simp only [List.mem_append]; exact .inr (.inr hg))).2
  have hxl := hx.lt
  have hz := a4.size
  refine ⟨own_kb h.sch k2 fun g hg1 hg2 => nodup_disj nd (Hd.mem_blk.2 hg1) (by simp [Hd.mem_blk.2 hg2]), ?_, ?_, ?_⟩
  · rw [List.length_append, List.flatMap_append]
    simpa using ho
  · intro y hy
    simp only [List.mem_append, List.mem_singleton] at hy
    rcases hy with hy | rfl
    · exact (h.each y hy).kb k2 fun g hg1 hg2 => nodup_disj nd2 (Hd.mem_blk.2 hg2) (List.mem_flatMap.2 ⟨y, hy, hg1⟩)
    · exact (hx.kb k1 fun g hg1 hg2 => by have := (hxl g hg1).1; have := htl g (Hd.mem_blk.2 hg2); omega).down hB
  · rw [List.flatMap_append]
    have hz2 : wr.heap.size ≤ w4.heap.size := a4.size
    have e : [x].flatMap OTab.blks = x.blks := by simp
    rw [e]
    refine List.nodup_append.2 ⟨(List.nodup_append.1 nd).1, List.nodup_append.2 ⟨blk_nodup _, nodup_more (List.nodup_append.1 nd2).2.1 nx hLl (fun g hg => (hxl g hg).1), ?_⟩, ?_⟩
    · intro a ha b hb2 e
      subst e
      rcases List.mem_append.1 hb2 with h1 | h1
      · rcases hb a ha with h2 | h2
        · exact nodup_disj nd2 h2 h1
        · have := hLl a h1; omega
      · exact hn a ha h1
    · intro a ha b hb2 e
      subst e
      have := hsl a ha
      rcases List.mem_append.1 hb2 with h1 | h1
      · rcases hb a h1 with h2 | h2
        · exact nodup_disj nd ha (by simp [h2])
        · omega
      · rcases List.mem_append.1 h1 with h1 | h1
        · exact nodup_disj nd ha (List.mem_append.2 (.inr h1))
        · have := (hxl a h1).1; omega
theorem OTab.cells_of {w : World} {B : Nat} {x : OTab} {p : Tab} (h : TabIn w B x) (ht : x.t = p) : x.cells = [.string p.schema, .string p.name, .string p.owner, .slice x.hc.a p.cols.length x.hc.c, .slice x.hr.a p.rules.length x.hr.c] := by
  subst ht
  unfold OTab.cells
  rw [own_slice h.col, own_slice h.rul]
  simp [OTab.t]
theorem lvObj_row {W : World} {b : Nat} {a c : Value} (h : RowAt W b [a, c]) : (loadVar 29 ⟨b, 0, none⟩).run Tryz.prog W = .ok (.agg #[a, c]) W := by
  have e0 := h.cell (j := 0) rfl
  have e1 := h.cell (j := 1) rfl
  have h1 := run_lvObj W b 0 (by rw [e0]; rfl) (by rw [e1]; rfl)
  rw [e0, e1] at h1
  exact h1
structure OwnS (w wr : World) (o : Objs) (n3 : Nat) (hs ht : Hd) (L : List OTab) (k : Nat) : Prop where
  aft : Aft w wr
  out : RowAt wr (w.heap.size + 1) [.slice none 0 0, .slice none 0 0]
  box : RowAt wr n3 [.slice hs.a o.schemas.length hs.c, .slice ht.a k ht.c]
  obj : ObjIn wr (w.heap.size + 2) hs ht o.schemas L
  ne : ∀ g ∈ hs.blk ++ (ht.blk ++ L.flatMap OTab.blks), g ≠ n3
  is : L.map OTab.t = o.tables.take k
  n3 : w.heap.size + 2 ≤ n3
  len : L.length = k
theorem OwnS.step {w wr w4 w5 : World} {o : Objs} {n3 : Nat} {hs ht ht' : Hd} {L : List OTab} {x : OTab} {k : Nat} (s : OwnS w wr o n3 hs ht L k) (hk : k < o.tables.length) (hxt : x.t = o.tables[k]) (a4 : Aft wr w4) (hx : TabIn w4 wr.heap.size x) (nx : x.blks.Nodup)
    (hg : w4.grownBy w5 ht.v.ownBlock) (ho : w5.ownsRow (w.heap.size + 2) 76 5 ht'.v (k + 1) (L.flatMap OTab.cells ++ x.cells)) (hb : ∀ g ∈ ht'.blk, g ∈ ht.blk ∨ w4.heap.size ≤ g) (hn : ∀ g ∈ ht'.blk, g ∉ x.blks) :
    OwnS w (w5.setCell ⟨n3, 1, none⟩ (.slice ht'.a (k + 1) ht'.c)) o n3 hs ht' (L ++ [x]) (k + 1) := by
  have hz := a4.size
  have hz5 := hg.size
  have hn3 := s.n3
  have hb3 := s.box.1
  have hzz : w.heap.size + 2 ≤ wr.heap.size := by omega
  have ob := s.obj.push a4 hx nx hzz hg (by rw [s.len]; exact ho) hb hn
  have hne : ∀ g ∈ hs.blk ++ (ht'.blk ++ (L ++ [x]).flatMap OTab.blks), g ≠ n3 := by
    intro g hgm e
    subst e
    simp only [List.mem_append, List.flatMap_append] at hgm
    rcases hgm with h1 | h1 | h1 | h1
    · exact s.ne g (by simp [h1]) rfl
    · rcases hb g h1 with h2 | h2
      · exact s.ne g (by simp [h2]) rfl
      · omega
    · exact s.ne g (by simp only [List.mem_append]; exact .inr (.inr h1)) rfl
    · have := (hx.lt g (by simpa using h1)).1; omega
  have k5 : Kb (fun g => g = n3) w5 (w5.setCell ⟨n3, 1, none⟩ (.slice ht'.a (k + 1) ht'.c)) := Kb.set _ _ _ _
  have kg : Kb (fun g => ht.v.ownBlock = some g) w4 w5 := Kb.of_grown hg
  have htge : ∀ g, ht.v.ownBlock = some g → w.heap.size + 2 ≤ g := fun g h1 => (s.obj.tab.lt g h1).1
  refine ⟨k5.to_aft (kg.to_aft (s.aft.trans a4) (fun g hgl h1 => by have := htge g h1; omega)) (fun g hgl e => by omega), k5.row (kg.row (s.out.aft a4) (fun h1 => by have := htge _ h1; omega)) (by omega), ?_, ob.kb k5 (fun g hgm e => hne g hgm e), hne, ?_, hn3, by simp [s.len]⟩
  · have := (kg.row (s.box.aft a4) (fun h1 => s.ne n3 (by simp [Hd.mem_blk.2 h1]) rfl)).set 1 (.slice ht'.a (k + 1) ht'.c) (by simp)
    exact this
  · rw [List.map_append, s.is, List.take_succ_eq_append_getElem hk, ← hxt]; rfl
end Go.Proofs.YtiadkchlkdaceaaGreat

namespace Go.Proofs.YtiadkchlkdaceaaGreat
open Go.RowKit
set_option maxRecDepth 100000
set_option linter.unusedVariables false
def IntR (_ : World) (cs : List Value) (n : Int) : Prop := cs = [.int .i64 n]
theorem ints_aft {w w' : World} {A : Option Addr} {cap : Nat} {l : List Int} (hw : Aft w w') (h : SlAt w 1 IntR A cap l) : SlAt w' 1 IntR A cap l := h.aft hw fun _ _ h => h
theorem int_at {w : World} {A : Option Addr} {cap : Nat} {l : List Int} (h : SlAt w 1 IntR A cap l) {k : Nat} (hk : k < l.length) :
    ∃ b off, A = some ⟨b, off, none⟩ ∧ b < w.heap.size ∧ w.cell? ⟨b, off + k, none⟩ = some (.int .i64 l[k]) := by
  obtain ⟨b, off, cs, hA, hb, hl, rfl, hc⟩ := h.2.2 k hk
  refine ⟨b, off, hA, hb, ?_⟩
  have := hc 0 (by omega)
  simpa using this
theorem own_ints {w : World} {base : Nat} {e : TypeId} {v : Value} {l : List Int} (h : w.ownsRow base e 1 v l.length (l.map (Value.int .i64))) (hs : Small (l.length * 16)) : ∃ A cap, v = .slice A l.length cap ∧ SlAt w 1 IntR A cap l := by
  refine own_slAt (base := base) (e := e) (fun n => [Value.int .i64 n]) IntR (fun _ => rfl) ?_ (fun _ _ => rfl) hs
  have e1 : l.flatMap (fun n => [Value.int .i64 n]) = l.map (Value.int .i64) := by
    clear h hs
    induction l with
    | nil => rfl
    | cons x l ih => simp [List.flatMap_cons, ih]
  rw [e1]; exact h
theorem ne_of_at {α : Type} (l l2 : List α) (k : Nat) (h : k < l.length) (h2 : k < l2.length) (hn : ¬ l[k] = l2[k]) : ¬ l = l2 := by
  intro e; subst e; exact hn rfl
theorem eq_of_all {α : Type} (l l2 : List α) (hl : l.length = l2.length) (hp : ∀ k (h : k < l.length) (h2 : k < l2.length), l[k] = l2[k]) : l = l2 := List.ext_getElem hl hp
set_option maxHeartbeats 1000000 in
theorem eqK_any (A : Option Addr) (cap : Nat) (l : List Int) (A2 : Option Addr) (cap2 : Nat) (l2 : List Int) (w : World) (h : SlAt w 1 IntR A cap l) (h2 : SlAt w 1 IntR A2 cap2 l2) :
    Calls Tryz.prog 121 #[.slice A l.length cap, .slice A2 l2.length cap2] w fun e w' => e = .returned (.bool (decide (l = l2))) ∧ Aft w w' := by
  have hlen := h.len
  have hlen2 := h2.len
  by_cases hl : l.length = l2.length
  · have e1 : ((l.length : Int) != (l2.length : Int)) = false := by simp [hl]
    go_enter Tryz.func121, Tryz.ntmps121
    go_wp2_with fail
    go_loopw [13] (fun i wr => ∃ k : Nat, k ≤ l.length ∧ i = .int .i64 k ∧ Aft w wr ∧ ∀ j, j < k → ∀ (hj : j < l.length) (hj2 : j < l2.length), l[j] = l2[j]) (fun i _ => l.length - (intOf i).toNat)
    case atStart => exact ⟨0, Nat.zero_le _, rfl, Aft.refl _, fun j hj => absurd hj (Nat.not_lt_zero j)⟩
    case round =>
      obtain ⟨k, hk, rfl, ha, hp⟩ := hrel
      have HA := Lib.hid ha
      have HP := Lib.hid hp; clear hp
      by_cases hlt : k < l.length
      · have hlt2 : k < l2.length := by omega
        obtain ⟨b, off, rfl, hb, c0⟩ := int_at (ints_aft ha h) hlt
        obtain ⟨b2, off2, rfl, hb2, d0⟩ := int_at (ints_aft ha h2) hlt2
        clear ha
        cases heq : (l[k] != l2[k])
        · have HN := Lib.hid (ext_lt (p := fun j => ∀ (hj : j < l.length) (hj2 : j < l2.length), l[j] = l2[j]) HP.out (fun _ _ => by simpa using heq))
          go_wp2_with fail
          refine wp_region_lat (by kernel_rfl) (by kernel_rfl) ?_
          repeat (go_big_quiet_step (fail))
          refine wpQuiet_nil ?_
          intro _ hw'
          obtain ⟨x, hw''⟩ := hw'
          subst hw''
          go_wp2_with fail
          go_roundw
          case rel => exact ⟨k + 1, by omega, by go_num, HA.out.lat x, HN.out⟩
          case measure => simp [intOf]; omega
        · have HN := Lib.hid (show ¬ l = l2 from ne_of_at l l2 k hlt hlt2 (by simpa using heq))
          go_wp2_with fail
          refine wp_region_lat (by kernel_rfl) (by kernel_rfl) ?_
          repeat (go_big_quiet_step (fail))
          refine wpQuiet_nil ?_
          intro _ hw'
          obtain ⟨x, hw''⟩ := hw'
          subst hw''
          go_wp2_with fail
          go_ret
          exact ⟨by rw [decide_eq_false HN.out]; rfl, HA.out.lat x⟩
      · have HN := Lib.hid (show l = l2 from eq_of_all l l2 hl fun j hj hj2 => HP.out j (by omega) hj hj2)
        clear ha
        go_wp2_with fail
        go_ret
        exact ⟨by rw [decide_eq_true HN.out]; rfl, HA.out⟩
  · have e1 : ((l.length : Int) != (l2.length : Int)) = true := by simp; omega
    have HN := Lib.hid (show ¬ l = l2 from fun e => hl (by rw [e]))
    go_enter Tryz.func121, Tryz.ntmps121
    go_wp2_with fail
    go_ret
    exact ⟨by rw [decide_eq_false HN.out]; rfl, Aft.refl _⟩
end Go.Proofs.YtiadkchlkdaceaaGreat

namespace Go.Proofs.YtiadkchlkdaceaaGreat
open Go.RowKit
set_option maxRecDepth 100000
set_option linter.unusedVariables false
theorem Small.mono {m n : Nat} (h : Small n) (hm : m ≤ n) : Small m := Nat.le_trans hm h
theorem kinds_small {l : List Col} {cs : List ByteArray} (h : Small (cs.length * 16)) : Small ((kindsOf l cs).length * 16) := h.mono (Nat.mul_le_mul_right _ (kindsOf_le l cs))
theorem keyE_none {ts : List Tab} {l : List Col} {r : Rul} (h : tabAt ts r.schema r.table < 0) : keyE ts l r = 61 := by
  unfold keyE; split <;> simp [h]
theorem keyE_some {ts : List Tab} {l : List Col} {r : Rul} {q : Nat} (h : tabAt ts r.schema r.table = q) (hq : q < ts.length) : keyE ts l r = keyT ts[q] l r := by
  unfold keyE; rw [h]; simp [List.getElem?_eq_getElem hq]; omega
theorem keyT_none {t : Tab} {l : List Col} {r : Rul} (h : rulAt t.rules r.key < 0) : keyT t l r = 61 := by
  unfold keyT; split <;> simp [h]
theorem keyT_some {t : Tab} {l : List Col} {r : Rul} {q : Nat} (h : rulAt t.rules r.key = q) (hq : q < t.rules.length) : keyT t l r = if t.rules[q].kind == 2 then (if pairsOk l t.cols r.cols t.rules[q].cols then 0 else 63) else 61 := by
  have h0 : ¬ ((q : Int) < 0) := by omega
  unfold keyT; rw [h]; simp [List.getElem?_eq_getElem hq, h0]
theorem Aft.cell_some {w w' : World} (h : Aft w w') {a : Addr} {v : Value} (hc : w.cell? a = some v) : w'.cell? a = some v := (Below.cell h (World.block_lt_of_cell? w a hc)).trans hc
theorem keep_aft {W w w' : World} {a b : Addr} {u v : Value} (hS : Aft W w ∧ w.cell? a = some u ∧ w.cell? b = some v) (h : Aft w w') : Aft W w' ∧ w'.cell? a = some u ∧ w'.cell? b = some v :=
  ⟨hS.1.trans h, h.cell_some hS.2.1, h.cell_some hS.2.2⟩
set_option maxHeartbeats 4000000 in
theorem key_any (vs : Value) (At : Option Addr) (capt : Nat) (ts : List Tab) (A : Option Addr) (cap : Nat) (l : List Col) (r : Rul) (A2 : Option Addr) (cap2 : Nat) (w : World) (ht : SlAt w 5 TabR At capt ts) (h : SlAt w 3 ColR A cap l) (h2 : SlAt w 1 StrR A2 cap2 r.cols) :
    Calls Tryz.prog 90 #[.agg #[vs, .slice At ts.length capt], .slice A l.length cap, .agg #[.string r.name, .int .i64 r.kind, .slice A2 r.cols.length cap2, .int .i64 r.low, .int .i64 r.high, .string r.schema, .string r.table, .string r.key]] w
      fun e w' => e = .returned (.int .i64 (keyE ts l r)) ∧ Aft w w' := by
  obtain ⟨i, hi⟩ : ∃ i, tabAt ts r.schema r.table = i := ⟨_, rfl⟩
  have hlen := ht.len
  have hlen2 := h2.len
  have Cw := Lib.hid (show ∀ w', Aft w w' → Calls Tryz.prog 59 #[.agg #[vs, .slice At ts.length capt], .string r.schema, .string r.table] w' fun e w'' => e = .returned (.tuple #[.int .i64 i, .bool (decide (0 ≤ i))]) ∧ Aft w' w'' from
    fun w' a => (where_any vs At capt ts r.schema r.table w' (tabs_aft a ht)).mono fun e w'' ⟨he, hw⟩ => ⟨he.trans (by rw [← hi]), hw⟩)
  by_cases hi0 : 0 ≤ i
  · obtain ⟨q, rfl⟩ := Int.eq_ofNat_of_zero_le hi0
    have hql : q < ts.length := by have := (idxP_range (fun t => eqS t.schema r.schema && eqS t.name r.table) ts).2; unfold tabAt at hi; omega
    have HE := Lib.hid (keyE_some (l := l) hi hql)
    have dq : decide (0 ≤ (q : Int)) = true := decide_eq_true hi0
    rw [HE.out]
    clear HE hi
    go_enter Tryz.func90, Tryz.ntmps90
    go_wp2_with fail
    refine (Cw.out _ (((Aft.refl w).alloc _).alloc _)).mono ?_
    rintro e w1 ⟨rfl, a1⟩
    obtain ⟨hbo, hbr, hz, HA⟩ := aft_box2 a1
    have ht1 := tabs_aft HA.out ht
    clear a1 Cw
    obtain ⟨b, off, B2, capB2, B3, capB3, rfl, hb, c0, c1, c2, c3, c4, hcols, hrules, hss⟩ := tab_at ht1 hql
    obtain ⟨t, ht0⟩ : ∃ t, ts[q] = t := ⟨_, rfl⟩
    rw [ht0] at c0 c1 c2 c3 c4 hcols hrules hss
    have HT := Lib.hid ht0
    clear ht0
    have hlen3 := hrules.len
    obtain ⟨k, hk⟩ : ∃ k, rulAt t.rules r.key = k := ⟨_, rfl⟩
    have Cb := Lib.hid (show ∀ w', Aft w1 w' → Calls Tryz.prog 118 #[.slice B3 t.rules.length capB3, .string r.key, .func (.func 119) #[] #[]] w' fun e w'' => e = .returned (.int .i64 k) ∧ Aft w' w'' from
      fun w' a => (byRul B3 capB3 t.rules r.key w' (ruls_aft a hrules)).mono fun e w'' ⟨he, hw⟩ => ⟨he.trans (by rw [← hk]; rfl), hw⟩)
    clear ht1
    go_wp2_with fail
    refine (Cb.out _ ((Aft.refl w1).alloc _)).mono ?_
    rintro e w2 ⟨rfl, a2⟩
    obtain ⟨hbt, hft, hzt, hzkt, HA2⟩ := aft_box a2
    have HA02 := Lib.hid (HA.out.trans HA2.out)
    have hbr2 : ∀ o, w2.cell? ⟨w.heap.size + 1, o, none⟩ = _ := fun o => (Below.cell HA2.out (p := ⟨w.heap.size + 1, o, none⟩) hz.2).trans (hbr o)
    have hz2 : w.heap.size + 1 < w2.heap.size := Nat.lt_of_lt_of_le hz.2 HA2.out.size
    have hrules2 := ruls_aft HA2.out hrules
    have hcols2 := cols_aft HA2.out hcols
    have h02 := cols_aft HA02.out h
    have hs02 := strs_aft HA02.out h2
    clear a2 Cb hbo hbr c0 c1 c2 c3 c4 hrules hcols
    by_cases hk0 : 0 ≤ k
    · obtain ⟨m, rfl⟩ := Int.eq_ofNat_of_zero_le hk0
      have hml : m < t.rules.length := by have := (idxP_range (fun c => eqS c.name r.key) t.rules).2; unfold rulAt at hk; omega
      have HE := Lib.hid (keyT_some (l := l) hk hml)
      clear hk
      obtain ⟨b3, off3, D2, capD2, rfl, hb3, e0, e1, e2, e3, e4, e5, e6, e7, hcs, hss3⟩ := rul_at hrules2 hml
      obtain ⟨p, hp⟩ : ∃ p, t.rules[m] = p := ⟨_, rfl⟩
      rw [hp] at e0 e1 e2 e3 e4 e5 e6 e7 hcs hss3
      have HP := Lib.hid hp
      clear hp hrules2
      cases hk2 : (p.kind != 2)
      · have HV := Lib.hid (show keyT ts[q] l r = if pairsOk l t.cols r.cols p.cols then 0 else 63 by
          have hk3 : (p.kind == 2) = true := by simpa using hk2
          rw [HT.out, HE.out, HP.out, if_pos hk3])
        clear HE HT HP
        have hlen4 := hcs.len
        go_wp2_with fail
        have q1 : w2.cell? ⟨w.heap.size + 1, 2, none⟩ = some (.slice A2 r.cols.length cap2) := hbr2 2
        have q2 : w2.cell? ⟨w1.heap.size, 3, none⟩ = some (.slice B2 t.cols.length capB2) := hbt 3
        go_region_held3 (fun w' => Aft w2 w' ∧ w'.cell? ⟨w.heap.size + 1, 2, none⟩ = some (.slice A2 r.cols.length cap2) ∧ w'.cell? ⟨w1.heap.size, 3, none⟩ = some (.slice B2 t.cols.length capB2))
          (first | exact ⟨(Aft.refl _).drew, q1, q2⟩ | exact keep_aft (by assumption) (by assumption))
          ((go_at_call 120; refine (kinds_any _ _ _ _ _ _ _ (cols_aft (And.left (by assumption : Aft w2 _ ∧ _)) (by assumption)) (strs_aft (And.left (by assumption : Aft w2 _ ∧ _)) (by assumption))).mono ?_; rintro e w4 ⟨v4, rfl, own4, a4⟩; try have own3 := own_aft (by assumption) a4))
        all_goals
          have HA4 := Lib.hid (HA02.out.trans (And.left (by assumption : Aft w2 w4 ∧ _)))
          have hbr4 : w4.cell? ⟨w.heap.size + 1, 2, none⟩ = some (.slice A2 r.cols.length cap2) := (And.left (by assumption : Aft w2 w4 ∧ _)).cell_some q1
          obtain ⟨G3, cap3, e3, hs3⟩ := own_ints (w := w4) (l := kindsOf l r.cols) (by assumption) (kinds_small hs02.2.1)
          obtain ⟨G4, cap4, e4, hs4⟩ := own_ints (w := w4) (l := kindsOf t.cols p.cols) (by assumption) (kinds_small hcs.2.1)
          subst e3
          subst e4
          have Ce := Lib.hid (eqK_any G3 cap3 (kindsOf l r.cols) G4 cap4 (kindsOf t.cols p.cols) w4 hs3 hs4)
          have HC := Lib.hid (pairsOk_code l t.cols r.cols p.cols)
          have hkl := kindsOf_le t.cols p.cols
          obtain ⟨bq, hbq⟩ : ∃ b, decide (kindsOf l r.cols = kindsOf t.cols p.cols) = b := ⟨_, rfl⟩
          rw [hbq] at Ce HC
          clear own3 own4 a4 hs3 hs4 hbq
          by_cases d1 : p.cols.length = r.cols.length
          · have f1 : ((p.cols.length : Int) != (r.cols.length : Int)) = false := by simp [d1]
            by_cases d2 : (kindsOf t.cols p.cols).length = p.cols.length
            · have f2 : (((kindsOf t.cols p.cols).length : Int) != (p.cols.length : Int)) = false := by simp [d2]
              have HR := Lib.hid (show keyT ts[q] l r = if bq then 0 else 63 by rw [HV.out, HC.out]; simp [d1, d2])
              clear HV HC d1 d2
              cases bq
              all_goals
                go_wp2_with fail
                refine Ce.out.mono ?_
                rintro e w5 ⟨rfl, a5⟩
                have HA5 := Lib.hid (HA4.out.trans a5)
                clear a5
                go_wp2_with fail
                go_ret
                exact ⟨by rw [HR.out]; rfl, HA5.out⟩
            · have f2 : (((kindsOf t.cols p.cols).length : Int) != (p.cols.length : Int)) = true := by simp; omega
              have HR := Lib.hid (show keyT ts[q] l r = 63 by rw [HV.out, HC.out]; simp [d2])
              clear HV HC d1 d2
              go_wp2_with fail
              go_ret
              exact ⟨by rw [HR.out]; rfl, HA4.out⟩
          · have f1 : ((p.cols.length : Int) != (r.cols.length : Int)) = true := by simp; omega
            have HR := Lib.hid (show keyT ts[q] l r = 63 by rw [HV.out, HC.out]; simp [d1])
            clear HV HC d1
            go_wp2_with fail
            go_ret
            exact ⟨by rw [HR.out]; rfl, HA4.out⟩
      · have HV := Lib.hid (show keyT ts[q] l r = 61 by
          have hk3 : ¬ ((p.kind == 2) = true) := by simpa using hk2
          rw [HT.out, HE.out, HP.out, if_neg hk3])
        go_wp2_with fail
        go_ret
        exact ⟨by rw [HV.out]; rfl, HA02.out⟩
    · have hk1 : k < 0 := by omega
      have HE := Lib.hid (keyT_none (l := l) (by rw [hk]; exact hk1) : keyT t l r = 61)
      clear hk
      go_wp2_with fail
      go_ret
      exact ⟨by rw [HT.out, HE.out]; rfl, HA02.out⟩
  · have hi1 : i < 0 := by omega
    have dq : decide (0 ≤ i) = false := decide_eq_false hi0
    have HE := Lib.hid (keyE_none (l := l) (by rw [hi]; exact hi1) : keyE ts l r = 61)
    rw [HE.out]
    clear HE hi
    go_enter Tryz.func90, Tryz.ntmps90
    go_wp2_with fail
    refine (Cw.out _ (((Aft.refl w).alloc _).alloc _)).mono ?_
    rintro e w1 ⟨rfl, a1⟩
    have HA := Lib.hid ((((Aft.refl w).alloc _).alloc _).trans a1)
    clear a1
    go_wp2_with fail
    go_ret
    exact ⟨rfl, HA.out⟩
end Go.Proofs.YtiadkchlkdaceaaGreat

