/- Contracts of the program, part 12. -/
import Derived.OwnWalk
import Derived.Laws.AppendOwn
import Derived.ProofKit
import Derived.OpenShut
import Derived.Deep.Slices
import Derived.ChangeOld
import Derived.SizedLaws
import Derived.WalkKit
import Derived.WalkSpells
import Derived.WalkLawsBesides
import Derived.Lib.Hide
import Derived.Deep.QuietTactic
import Derived.BigQuiet
import Derived.Below
import Derived.Deep.Draws
import Derived.StillTailTactics
import Derived.Laws.Cells
import Derived.Laws.IdiomCopy
import Derived.Test.YtlklmekapbojdaaGreatRows
import Derived.Deep.AppendLies
import Derived.Deep.Upon
import Derived.OneCell
import Derived.Lib.SliceRun
import Derived.Deep.DeepMust
import Derived.Lib.Walk
import Derived.Laws.EntriesVeiled
import Derived.Maps.Own
import Derived.Maps.Views
import Derived.OrdersHeld
import Derived.Deep.RegionHeld3
import Derived.IntWalk
import Derived.Lib.Bytealg
import Derived.Lib.AppendZerosOnto
import Derived.Lib.Overlaps
import Derived.Deep.RegionLaw
import Derived.Shelf.SlSortCmp.WholeK
import Derived.WalkMore
import Derived.Laws.StructEq
import Derived.WideKeyEntry
import Derived.DeepKeys3
import Derived.ChangeKeys
import Derived.Test.YtlklmekapbojdaaGreatPartL1
import Derived.Test.YtlklmekapbojdaaGreatPartL2
import Derived.Test.YtlklmekapbojdaaGreatPartL3
import Derived.Test.YtlklmekapbojdaaGreatPartL4
import Derived.Test.YtlklmekapbojdaaGreatPartL5
import Derived.Test.YtlklmekapbojdaaGreatPartL6
import Derived.Test.YtlklmekapbojdaaGreatPartL7
import Derived.Test.YtlklmekapbojdaaGreatPartL8
import Derived.Test.YtlklmekapbojdaaGreatPartL9
import Derived.Test.YtlklmekapbojdaaGreatPartL10
namespace Go.Proofs.YtlklmekapbojdaaGreat
open Go.RowKit
/-- a block whose cells are those of a list -/
theorem slAt_box {α : Type} {size : Nat} {R : World → List Value → α → Prop} {w : World} {b cap : Nat} (l : List α) (f : α → List Value) (c : Array Value) (hb : b < w.heap.size) (hc : ∀ o, w.cell? ⟨b, o, none⟩ = c[o]?) (e : c.toList = l.flatMap f) (hf : ∀ x, (f x).length = size)
    (hR : ∀ x ∈ l, R w (f x) x) (hs : Small (l.length * 16)) (hcap : l.length ≤ cap) : SlAt w size R (some ⟨b, 0, none⟩) cap l :=
  ⟨hcap, hs, fun i hi => ⟨b, 0, f l[i], rfl, hb, hf _, hR _ (List.getElem_mem hi), fun j hj => by
    rw [← flatMap_get f size hf l i j hi hj, ← e, hc]; simp⟩⟩
end Go.Proofs.YtlklmekapbojdaaGreat

namespace Go.Proofs.YtlklmekapbojdaaGreat
open Go.RowKit
set_option maxRecDepth 100000
set_option linter.unusedVariables false
theorem info2Rul : (Tryz.prog.info? 121).map (fun i => (i.zero, i.size, i.bytes)) = some (some (.agg #[.string ByteArray.empty, .int .i64 0, .slice none 0 0, .int .i64 0, .int .i64 0, .string ByteArray.empty, .string ByteArray.empty, .string ByteArray.empty]), 8, 112) := by kernel_rfl
set_option maxHeartbeats 2000000 in
theorem clone2Rul (A : Option Addr) (cap : Nat) (l : List Rul) (w0 w : World) (ha : Aft w0 w) (h : SlAt w0 8 RulR A cap l) (hb : l.length ≤ 1000000) :
    Calls Tryz.prog 172 #[.slice A l.length cap] w (CloneQ 121 8 RulR w0 w l) := by
  obtain ⟨i0, hi, hz0, hz1, hz2⟩ := info_parts info2Rul
  have q22 : ∀ (w : World) (a : Option Addr) (n c n' c' : Nat), (binOp .eql 87 (.slice a n c) (.slice none n' c')).run Tryz.prog w = .ok (.bool a.isNone) w := fun w a n c n' c' => Lib.run_eql_slice_nil w _ _ a n c n' c' Tryz.underlying87
  cases A with
  | none =>
    have hl0 : l = [] := by
      cases l with
      | nil => rfl
      | cons x l => obtain ⟨b, off, cs, hA, _⟩ := h.2.2 0 (by simp); cases hA
    subst hl0
    go_enter Tryz.func172, Tryz.ntmps172
    go_wp2_with fail
    go_ret
    exact ⟨_, [], rfl, Aft.refl _, own_nil _ _ _ _, Chunks.nil⟩
  | some ad =>
    have HC : ∃ css, Chunks w0 8 RulR css l ∧ ∀ p u, css.flatten[p]? = some u → w.cell? (ad.add p) = some u := by
      by_cases h0 : 0 < l.length
      · obtain ⟨b, off, css, hA, hb', hch, hc⟩ := h.css h0 (by decide)
        simp only [Option.some.injEq] at hA
        subst hA
        refine ⟨css, hch, fun p u hp => ?_⟩
        have hlt : p < l.length * 8 := by rw [← hch.len]; exact (List.getElem?_eq_some_iff.1 hp).1
        rw [add_mk]; exact ha.cell_kept ((hc p hlt).trans hp)
      · have hl0 : l = [] := List.eq_nil_of_length_eq_zero (by omega)
        subst hl0
        exact ⟨[], Chunks.nil, fun p u hp => by simp at hp⟩
    obtain ⟨css, hch, hcell⟩ := HC
    have H1 := Lib.hid hcell
    have H2 : Hid (∀ u ∈ css.flatten, u.oneCell' = true) := Lib.hid (by
      intro u hu
      obtain ⟨c, hc, hu⟩ := List.mem_flatten.1 hu
      obtain ⟨i, hi, rfl⟩ := List.getElem_of_mem hc
      have h3 := (hch.2 i hi (by rw [← hch.1]; exact hi)).2
      obtain ⟨A2, cap2, hcs, _⟩ := h3
      rw [hcs] at hu
      simp only [List.mem_cons, List.not_mem_nil, or_false] at hu
      rcases hu with rfl | rfl | rfl | rfl | rfl | rfl | rfl | rfl <;> simp [Value.oneCell'])
    have H3 := Lib.hid hch
    have HI := Lib.hid hi
    have HZ0 := Lib.hid hz0
    have HZ1 := Lib.hid hz1
    have HZ2 := Lib.hid hz2
    clear hcell hch hi hz0 hz1 hz2 h ha
    go_enter Tryz.func172, Tryz.ntmps172
    go_wp2_with (at_builtin; refine wpList_append_own _ rfl _ _ 87 rfl w.heap.size 121 i0 (.agg #[.string ByteArray.empty, .int .i64 0, .slice none 0 0, .int .i64 0, .int .i64 0, .string ByteArray.empty, .string ByteArray.empty, .string ByteArray.empty]) 8 112 Tryz.underlying87 HI.out HZ0.out HZ1.out HZ2.out rfl (by decide) _ _ _ rfl (World.ownsRow_made w #[] 0 (Nat.le_refl _) (Nat.zero_le _) rfl) ad l.length cap css.flatten rfl ?qc1 ?qc2 ?qc3 ?qc4 ?qc5 ?qc6 ?_)
    case qc1 => exact H3.out.len
    case qc2 =>
      intro j u hj
      exact Lib.cell?_alloc_some _ (H1.out j u hj)
    case qc3 => exact H2.out
    case qc4 => unfold maxLen; omega
    case qc5 => omega
    case qc6 => simp
    intro v' w1 hown hgrow hnil
    have HO := Lib.hid hown
    have HA := Lib.hid (show Aft w w1 from ((Below.refl _ w).alloc (Nat.le_refl _) _).grown hgrow (by simp) (by intro k hk; simp [Value.ownBlock] at hk; omega))
    clear hown hgrow hnil
    go_wp2_with fail
    go_ret
    refine ⟨v', css, rfl, HA.out, ?_, H3.out⟩
    simpa using HO.out
theorem info2Col : (Tryz.prog.info? 106).map (fun i => (i.zero, i.size, i.bytes)) = some (some (.agg #[.string ByteArray.empty, .int .i64 0, .bool false]), 3, 32) := by kernel_rfl
set_option maxHeartbeats 2000000 in
theorem clone2Col (A : Option Addr) (cap : Nat) (l : List Col) (w0 w : World) (ha : Aft w0 w) (h : SlAt w0 3 ColR A cap l) (hb : l.length ≤ 1000000) :
    Calls Tryz.prog 63 #[.slice A l.length cap] w (CloneQ 106 3 ColR w0 w l) := by
  obtain ⟨i0, hi, hz0, hz1, hz2⟩ := info_parts info2Col
  have q22 : ∀ (w : World) (a : Option Addr) (n c n' c' : Nat), (binOp .eql 86 (.slice a n c) (.slice none n' c')).run Tryz.prog w = .ok (.bool a.isNone) w := fun w a n c n' c' => Lib.run_eql_slice_nil w _ _ a n c n' c' Tryz.underlying86
  cases A with
  | none =>
    have hl0 : l = [] := by
      cases l with
      | nil => rfl
      | cons x l => obtain ⟨b, off, cs, hA, _⟩ := h.2.2 0 (by simp); cases hA
    subst hl0
    go_enter Tryz.func63, Tryz.ntmps63
    go_wp2_with fail
    go_ret
    exact ⟨_, [], rfl, Aft.refl _, own_nil _ _ _ _, Chunks.nil⟩
  | some ad =>
    have HC : ∃ css, Chunks w0 3 ColR css l ∧ ∀ p u, css.flatten[p]? = some u → w.cell? (ad.add p) = some u := by
      by_cases h0 : 0 < l.length
      · obtain ⟨b, off, css, hA, hb', hch, hc⟩ := h.css h0 (by decide)
        simp only [Option.some.injEq] at hA
        subst hA
        refine ⟨css, hch, fun p u hp => ?_⟩
        have hlt : p < l.length * 3 := by rw [← hch.len]; exact (List.getElem?_eq_some_iff.1 hp).1
        rw [add_mk]; exact ha.cell_kept ((hc p hlt).trans hp)
      · have hl0 : l = [] := List.eq_nil_of_length_eq_zero (by omega)
        subst hl0
        exact ⟨[], Chunks.nil, fun p u hp => by simp at hp⟩
    obtain ⟨css, hch, hcell⟩ := HC
    have H1 := Lib.hid hcell
    have H2 : Hid (∀ u ∈ css.flatten, u.oneCell' = true) := Lib.hid (by
      intro u hu
      obtain ⟨c, hc, hu⟩ := List.mem_flatten.1 hu
      obtain ⟨i, hi, rfl⟩ := List.getElem_of_mem hc
      have h3 := (hch.2 i hi (by rw [← hch.1]; exact hi)).2
      obtain ⟨hcs, _⟩ := h3
      rw [hcs] at hu
      simp only [List.mem_cons, List.not_mem_nil, or_false] at hu
      rcases hu with rfl | rfl | rfl <;> simp [Value.oneCell'])
    have H3 := Lib.hid hch
    have HI := Lib.hid hi
    have HZ0 := Lib.hid hz0
    have HZ1 := Lib.hid hz1
    have HZ2 := Lib.hid hz2
    clear hcell hch hi hz0 hz1 hz2 h ha
    go_enter Tryz.func63, Tryz.ntmps63
    go_wp2_with (at_builtin; refine wpList_append_own _ rfl _ _ 86 rfl w.heap.size 106 i0 (.agg #[.string ByteArray.empty, .int .i64 0, .bool false]) 3 32 Tryz.underlying86 HI.out HZ0.out HZ1.out HZ2.out rfl (by decide) _ _ _ rfl (World.ownsRow_made w #[] 0 (Nat.le_refl _) (Nat.zero_le _) rfl) ad l.length cap css.flatten rfl ?qc1 ?qc2 ?qc3 ?qc4 ?qc5 ?qc6 ?_)
    case qc1 => exact H3.out.len
    case qc2 =>
      intro j u hj
      exact Lib.cell?_alloc_some _ (H1.out j u hj)
    case qc3 => exact H2.out
    case qc4 => unfold maxLen; omega
    case qc5 => omega
    case qc6 => simp
    intro v' w1 hown hgrow hnil
    have HO := Lib.hid hown
    have HA := Lib.hid (show Aft w w1 from ((Below.refl _ w).alloc (Nat.le_refl _) _).grown hgrow (by simp) (by intro k hk; simp [Value.ownBlock] at hk; omega))
    clear hown hgrow hnil
    go_wp2_with fail
    go_ret
    refine ⟨v', css, rfl, HA.out, ?_, H3.out⟩
    simpa using HO.out
theorem info2Sch : (Tryz.prog.info? 101).map (fun i => (i.zero, i.size, i.bytes)) = some (some (.agg #[.string ByteArray.empty, .string ByteArray.empty]), 2, 32) := by kernel_rfl
set_option maxHeartbeats 2000000 in
theorem clone2Sch (A : Option Addr) (cap : Nat) (l : List Sch) (w0 w : World) (ha : Aft w0 w) (h : SlAt w0 2 SchR A cap l) (hb : l.length ≤ 1000000) :
    Calls Tryz.prog 152 #[.slice A l.length cap] w (CloneQ 101 2 SchR w0 w l) := by
  obtain ⟨i0, hi, hz0, hz1, hz2⟩ := info_parts info2Sch
  have q22 : ∀ (w : World) (a : Option Addr) (n c n' c' : Nat), (binOp .eql 26 (.slice a n c) (.slice none n' c')).run Tryz.prog w = .ok (.bool a.isNone) w := fun w a n c n' c' => Lib.run_eql_slice_nil w _ _ a n c n' c' Tryz.underlying26
  cases A with
  | none =>
    have hl0 : l = [] := by
      cases l with
      | nil => rfl
      | cons x l => obtain ⟨b, off, cs, hA, _⟩ := h.2.2 0 (by simp); cases hA
    subst hl0
    go_enter Tryz.func152, Tryz.ntmps152
    go_wp2_with fail
    go_ret
    exact ⟨_, [], rfl, Aft.refl _, own_nil _ _ _ _, Chunks.nil⟩
  | some ad =>
    have HC : ∃ css, Chunks w0 2 SchR css l ∧ ∀ p u, css.flatten[p]? = some u → w.cell? (ad.add p) = some u := by
      by_cases h0 : 0 < l.length
      · obtain ⟨b, off, css, hA, hb', hch, hc⟩ := h.css h0 (by decide)
        simp only [Option.some.injEq] at hA
        subst hA
        refine ⟨css, hch, fun p u hp => ?_⟩
        have hlt : p < l.length * 2 := by rw [← hch.len]; exact (List.getElem?_eq_some_iff.1 hp).1
        rw [add_mk]; exact ha.cell_kept ((hc p hlt).trans hp)
      · have hl0 : l = [] := List.eq_nil_of_length_eq_zero (by omega)
        subst hl0
        exact ⟨[], Chunks.nil, fun p u hp => by simp at hp⟩
    obtain ⟨css, hch, hcell⟩ := HC
    have H1 := Lib.hid hcell
    have H2 : Hid (∀ u ∈ css.flatten, u.oneCell' = true) := Lib.hid (by
      intro u hu
      obtain ⟨c, hc, hu⟩ := List.mem_flatten.1 hu
      obtain ⟨i, hi, rfl⟩ := List.getElem_of_mem hc
      have h3 := (hch.2 i hi (by rw [← hch.1]; exact hi)).2
      obtain ⟨hcs, _⟩ := h3
      rw [hcs] at hu
      simp only [List.mem_cons, List.not_mem_nil, or_false] at hu
      rcases hu with rfl | rfl <;> simp [Value.oneCell'])
    have H3 := Lib.hid hch
    have HI := Lib.hid hi
    have HZ0 := Lib.hid hz0
    have HZ1 := Lib.hid hz1
    have HZ2 := Lib.hid hz2
    clear hcell hch hi hz0 hz1 hz2 h ha
    go_enter Tryz.func152, Tryz.ntmps152
    go_wp2_with (at_builtin; refine wpList_append_own _ rfl _ _ 26 rfl w.heap.size 101 i0 (.agg #[.string ByteArray.empty, .string ByteArray.empty]) 2 32 Tryz.underlying26 HI.out HZ0.out HZ1.out HZ2.out rfl (by decide) _ _ _ rfl (World.ownsRow_made w #[] 0 (Nat.le_refl _) (Nat.zero_le _) rfl) ad l.length cap css.flatten rfl ?qc1 ?qc2 ?qc3 ?qc4 ?qc5 ?qc6 ?_)
    case qc1 => exact H3.out.len
    case qc2 =>
      intro j u hj
      exact Lib.cell?_alloc_some _ (H1.out j u hj)
    case qc3 => exact H2.out
    case qc4 => unfold maxLen; omega
    case qc5 => omega
    case qc6 => simp
    intro v' w1 hown hgrow hnil
    have HO := Lib.hid hown
    have HA := Lib.hid (show Aft w w1 from ((Below.refl _ w).alloc (Nat.le_refl _) _).grown hgrow (by simp) (by intro k hk; simp [Value.ownBlock] at hk; omega))
    clear hown hgrow hnil
    go_wp2_with fail
    go_ret
    refine ⟨v', css, rfl, HA.out, ?_, H3.out⟩
    simpa using HO.out
end Go.Proofs.YtlklmekapbojdaaGreat

namespace Go.Proofs.YtlklmekapbojdaaGreat
open Go.RowKit Go.Deep
set_option linter.unusedVariables false
theorem flat_cols {w : World} {css : List (List Value)} {l : List Col} (h : Chunks w 3 ColR css l) : css.flatten = l.flatMap colC := chunks_flat (fun _ _ h => h.1) h
theorem flat_schs {w : World} {css : List (List Value)} {l : List Sch} (h : Chunks w 2 SchR css l) : css.flatten = l.flatMap schC := chunks_flat (fun _ _ h => h.1) h
/-- rules as they lie -/
theorem rules_lie {w : World} {css : List (List Value)} {l : List Rul} (h : Chunks w 8 RulR css l) : ∃ L : List ORul, L.map (·.r) = l ∧ css = L.map ORul.cells ∧ ∀ x ∈ L, x.h.n = x.r.cols.length ∧ SlAt w 1 StrR x.h.a x.h.c x.r.cols := by
  have hex : ∀ i, i < l.length → ∃ x : ORul, ∀ (hi : i < l.length) (hc : i < css.length), x.r = l[i] ∧ css[i] = x.cells ∧ x.h.n = x.r.cols.length ∧ SlAt w 1 StrR x.h.a x.h.c x.r.cols := by
    intro i hi
    have hc : i < css.length := by rw [h.1]; exact hi
    obtain ⟨_, A, cap, hcs, hs, _⟩ := h.2 i hc hi
    exact ⟨⟨l[i], A, l[i].cols.length, cap⟩, fun _ _ => ⟨rfl, hcs, rfl, hs⟩⟩
  obtain ⟨L, hL, hp⟩ := choose_list l.length _ hex
  refine ⟨L, ?_, ?_, ?_⟩
  · refine List.ext_getElem (by simp [hL]) fun i h1 h2 => ?_
    rw [List.getElem_map]
    exact (hp i (by simpa using h1) h2 (by rw [h.1]; exact h2)).1
  · refine List.ext_getElem (by simp [hL, h.1]) fun i h1 h2 => ?_
    rw [List.getElem_map]
    have hi : i < L.length := by simpa using h2
    exact (hp i hi (by omega) h1).2.1
  · intro x hx
    obtain ⟨i, hi, rfl⟩ := List.getElem_of_mem hx
    exact (hp i hi (by omega) (by rw [h.1]; omega)).2.2
end Go.Proofs.YtlklmekapbojdaaGreat

namespace Go.Proofs.YtlklmekapbojdaaGreat
open Go.RowKit Go.Deep
set_option linter.unusedVariables false
theorem flatMap_drop {α : Type} {f : α → List Value} {size : Nat} (hf : ∀ x, (f x).length = size) (l : List α) (i : Nat) : (l.flatMap f).drop (i * size) = (l.drop i).flatMap f := by
  induction l generalizing i with
  | nil => simp
  | cons x l ih =>
    cases i with
    | zero => simp
    | succ i =>
      have e : (i + 1) * size = (f x).length + i * size := by rw [hf, Nat.succ_mul]; omega
      rw [List.flatMap_cons, e, List.drop_length_add_append, ih]
      simp
end Go.Proofs.YtlklmekapbojdaaGreat

namespace Go.Proofs.YtlklmekapbojdaaGreat
open Go.RowKit Go.Deep
set_option maxRecDepth 100000
set_option linter.unusedVariables false
def bA : ByteArray := ⟨#[97]⟩
def bB : ByteArray := ⟨#[98]⟩
end Go.Proofs.YtlklmekapbojdaaGreat

namespace Go.Proofs.YtlklmekapbojdaaGreat
set_option linter.unusedVariables false
/-- is it there? -/
def thereB {α : Type} (c : α → α → Int) (l : List α) (x : α) : Bool := match l[posB c l x]? with | some y => decide (c y x = 0) | none => false
theorem there_lt {α : Type} {c : α → α → Int} {l : List α} {x : α} (h : thereB c l x = true) : posB c l x < l.length := by
  unfold thereB at h
  rcases Nat.lt_or_ge (posB c l x) l.length with h1 | h1
  · exact h1
  · rw [List.getElem?_eq_none h1] at h; cases h
end Go.Proofs.YtlklmekapbojdaaGreat

namespace Go.Proofs.YtlklmekapbojdaaGreat
open Go.RowKit Go.Lib
set_option linter.unusedVariables false
theorem run_copy_n {P : Program} (w : World) (dT sT ty elem : TypeId) (size b o dLen dCap : Nat) (a : Addr) (sLen sCap m : Nat) (cs : List Value)
    (hu : P.underlying dT = some (.slice elem)) (hs : (P.info? elem).map (·.size) = some size) (hm : Nat.min sLen dLen = m) (hn : cs.length = m * size)
    (hsrc : ∀ j v, cs[j]? = some v → w.cell? (a.add j) = some v) (hc : ∀ j, j < cs.length → (w.cell? ⟨b, o + j, none⟩).isSome = true) (hf : ∀ j, j < cs.length → w.frozen? ⟨b, o + j, none⟩ = false) (h1 : ∀ v ∈ cs, v.oneCell' = true) :
    (Builtin.copy_ #[dT, sT] ty #[.slice (some ⟨b, o, none⟩) dLen dCap, .slice (some a) sLen sCap]).run P w = .ok (goInt m) (w.setCells b o cs) := by
  have hl := run_loadCells_list (P := P) w a cs hsrc
  have hst := run_storeCells_cells (P := P) b o cs 0 w (by simpa using hc) (by simpa using hf) h1
  rw [hn] at hl
  cases hq : P.info? elem with
  | none => simp [hq] at hs
  | some i =>
    have hi : i.size = size := by simpa [hq] using hs
    simp [Builtin.copy_, run_underlying hu, Builtin.lenOf, Builtin.firstCells, sizeOf, typeInfo, hq, hi, hm, hl, hst]
theorem append_zeros {P : Program} (w : World) (B : Nat) (t tn ty e : TypeId) (i : TypeInfo) (z : Value) (size bytes : Nat) (kn : IntKind) (ht : P.underlying t = some (.slice e)) (htn : P.underlying tn = some (.int kn)) (hi : P.info? e = some i) (hz : i.zero = some z)
    (hsize : i.size = size) (hby : i.bytes = bytes) (hzs : z.cells.size = size) (hsz : 0 < size) (g n cap k m : Nat) (xs : List Value) (ho : w.ownsRow B e size (.slice (some ⟨g, 0, none⟩) n cap) n xs) (hk : k ≤ n) (hm : 0 < m) (hg : cap < k + m) (hb : (k + m) * bytes ≤ 140737488355328) (h63 : k + m ≤ maxLen) (hcap : cap ≤ n) :
    ∃ c2 w', (Builtin.append_ #[t, tn] ty #[.slice (some ⟨g, 0, none⟩) k cap, .int .i64 m]).run P w = .ok (.slice (some ⟨w.heap.size, 0, none⟩) (k + m) c2) w' ∧ w'.ownsRow w.heap.size e size (.slice (some ⟨w.heap.size, 0, none⟩) (k + m) c2) (k + m) (xs.take (k * size) ++ (Builtin.zeroCells z.cells m).toList) ∧ Aft w w' ∧ w'.heap.size = w.heap.size + 1 ∧ k + m ≤ c2 ∧ c2 ≤ maxLen := by
  subst hsize
  subst hby
  have hx := ho.1
  have hkn : k * i.size ≤ n * i.size := Nat.mul_le_mul_right _ hk
  have htl : (xs.take (k * i.size)).length = k * i.size := by rw [List.length_take, hx]; omega
  have hge := grownCap_ge w (k + m) cap e
  have hcm := grownCap_le_maxLen w (k + m) cap e h63
  have hold : (Builtin.firstCells i.size k (.slice (some ⟨g, 0, none⟩) k cap)).run P w.drew = .ok (xs.take (k * i.size)).toArray w.drew := by
    have hl := run_loadCells_list (P := P) w.drew ⟨g, 0, none⟩ (xs.take (k * i.size)) (fun j v hj => by
      have hj' : xs[j]? = some v := by
        rw [List.getElem?_take] at hj
        split at hj
        · exact hj
        · cases hj
      have := ho.cells (g := g) rfl j v hj'
      simpa using this)
    rw [htl] at hl
    simpa [Builtin.firstCells] using hl
  have hnb : m * i.bytes ≤ 281474976710656 := by
    have : m * i.bytes ≤ (k + m) * i.bytes := Nat.mul_le_mul_right _ (by omega)
    omega
  have hr := run_append_grow_zeros (P := P) w t tn ty e i z .i64 kn ht htn hi hz (some ⟨g, 0, none⟩) k cap (xs.take (k * i.size)) hold m hm hsz hg (by simp only [maxLen] at h63; omega) hnb (growslice_fits (by omega) hb)
  refine ⟨_, _, hr, ⟨?_, .inr ⟨w.heap.size, _, _, rfl, Nat.le_refl _, heap_alloc_new w.drew _, hge, hcm, ?_, ?_⟩⟩, ((Aft.refl w).drew).alloc _, by simp, hge, hcm⟩
  · rw [List.length_append, htl, zeroCells_len, hzs, Nat.add_mul]
  · simp only [Array.size_append, List.size_toArray, size_zeroCells, hzs, htl, ← Nat.add_mul]
    congr 1
    omega
  · simp only [Array.toList_append, List.append_assoc]
    rw [← List.append_assoc]
    have hl2 : (k + m) * i.size = (xs.take (k * i.size) ++ (Builtin.zeroCells z.cells m).toList).length := by rw [List.length_append, htl, zeroCells_len, hzs, Nat.add_mul]
    rw [hl2]
    exact List.take_left
theorem setL_mid (A v R vs : List Value) (h : vs.length = v.length) : setL (A ++ v ++ R) A.length vs = A ++ vs ++ R := by
  rw [setL_eq _ _ _ (by simp only [List.length_append]; omega), List.append_assoc A v R, List.take_left, h]
  congr 1
  rw [← List.append_assoc, ← List.length_append, List.drop_left]
/-- the cells behind Insert, into a new row -/
theorem ins_new (xs ne zs : List Value) (a s d : Nat) (hx : xs.length = a + d) (hn : ne.length = s) (hz : zs.length = s + d) : setL (setL (xs.take a ++ zs) a ne) (a + s) (xs.drop a) = xs.take a ++ ne ++ xs.drop a := by
  obtain ⟨A, hA⟩ : ∃ A, xs.take a = A := ⟨_, rfl⟩
  obtain ⟨D, hD⟩ : ∃ D, xs.drop a = D := ⟨_, rfl⟩
  have la : A.length = a := by rw [← hA, List.length_take, hx]; omega
  have ld : D.length = d := by rw [← hD, List.length_drop, hx]; omega
  rw [hA, hD]
  have e1 : A ++ zs = A ++ zs.take s ++ zs.drop s := by rw [List.append_assoc, List.take_append_drop]
  have h1 := setL_mid A (zs.take s) (zs.drop s) ne (by rw [List.length_take, hz, hn]; omega)
  rw [la] at h1
  have h2 := setL_mid (A ++ ne) (zs.drop s) [] D (by rw [List.length_drop, hz, ld]; omega)
  rw [List.length_append, la, hn, List.append_nil, List.append_nil] at h2
  rw [e1, h1, h2]
/-- the cells behind Insert, in the same row -/
theorem ins_same (xs ne ts : List Value) (a s d : Nat) (hx : xs.length = a + d) (hn : ne.length = s) (ht : ts.length = s) : setL (setL (xs ++ ts) (a + s) (xs.drop a)) a ne = xs.take a ++ ne ++ xs.drop a := by
  obtain ⟨A, hA⟩ : ∃ A, xs.take a = A := ⟨_, rfl⟩
  obtain ⟨D, hD⟩ : ∃ D, xs.drop a = D := ⟨_, rfl⟩
  have la : A.length = a := by rw [← hA, List.length_take, hx]; omega
  have ld : D.length = d := by rw [← hD, List.length_drop, hx]; omega
  have hxs : xs = A ++ D := by rw [← hA, ← hD, List.take_append_drop]
  rw [hD, hA]
  have lP : ((D ++ ts).take s).length = s := by rw [List.length_take, List.length_append, ld, ht]; omega
  have e1 : xs ++ ts = (A ++ (D ++ ts).take s) ++ (D ++ ts).drop s ++ [] := by rw [hxs, List.append_nil, List.append_assoc, List.append_assoc, List.take_append_drop]
  have h1 := setL_mid (A ++ (D ++ ts).take s) ((D ++ ts).drop s) [] D (by rw [List.length_drop, List.length_append, ld, ht]; omega)
  rw [List.length_append, la, lP] at h1
  have h2 := setL_mid A ((D ++ ts).take s) D ne (by rw [lP, hn])
  rw [la] at h2
  rw [e1, h1, List.append_nil, h2]
theorem wpList_copy_run8 {P : Program} (w : World) {ops : Array Oper} {rest : List Oper} {o : Oper} {a : Act} {Q : Exit → Act → World → Prop} (hgd : o.guard = none) (d s : Operand) (t t' : TypeId)
    (ho : o.op = .call { callee := .builtin .copy, args := #[d, s], argTypes := #[t, t'] }) (v u : Value) (hd : a.eval d = v) (hs : a.eval s = u) {v' : Value} {w' : World}
    (hr : (Builtin.copy_ #[t, t'] o.type #[v, u]).run P w = .ok v' w') (h : wpList P ops Q rest (a.put o.dst v') w') : wpList P ops Q (o :: rest) a w :=
  wpList_plain hgd fun _ hK => by
    unfold Oper.wp execOp
    simp only [ho, resolve, invoke, builtin, Sem.run_bind, Sem.run_pure, Result.andThen_ok, List.map_toArray, List.map_cons, List.map_nil, hd, hs, hr]
    exact hK _ _ h
theorem wpList_append_run8 {P : Program} (w : World) {ops : Array Oper} {rest : List Oper} {o : Oper} {a : Act} {Q : Exit → Act → World → Prop} (hgd : o.guard = none) (d s : Operand) (t t' : TypeId)
    (ho : o.op = .call { callee := .builtin .append, args := #[d, s], argTypes := #[t, t'] }) (v u : Value) (hd : a.eval d = v) (hs : a.eval s = u) {v' : Value} {w' : World}
    (hr : (Builtin.append_ #[t, t'] o.type #[v, u]).run P w = .ok v' w') (h : wpList P ops Q rest (a.put o.dst v') w') : wpList P ops Q (o :: rest) a w :=
  wpList_plain hgd fun _ hK => by
    unfold Oper.wp execOp
    simp only [ho, resolve, invoke, builtin, Sem.run_bind, Sem.run_pure, Result.andThen_ok, List.map_toArray, List.map_cons, List.map_nil, hd, hs, hr]
    exact hK _ _ h
theorem step_copy_run8 {P : Program} {ops : Array Oper} {o : Oper} {a : Act} {w : World} {K : Act → World → Prop} {Q : Exit → Act → World → Prop} {E : Prop}
    (hg : o.guard = none) (d x : Operand) (dT sT : TypeId) (hop : o.op = Op.call { callee := Callee.builtin Builtin.copy, args := #[d, x], argTypes := #[dT, sT] })
    (v u : Value) (hd : a.eval d = v) (hx : a.eval x = u) {v' : Value} {w' : World} (hr : (Builtin.copy_ #[dT, sT] o.type #[v, u]).run P w = .ok v' w') (hK : K (a.put o.dst v') w') :
    if Region.wanted o (yielded ops a.tmps) = true then Oper.wp P o a w K Q else E := by
  have hw : Region.wanted o (yielded ops a.tmps) = true := by simp [Region.wanted, hg]
  rw [if_pos hw]
  unfold Oper.wp
  simp [execOp, hop, resolve, invoke, builtin, hd, hx, hr, Result.andThen]
  exact hK
def InsP (ty : TypeId) (size : Nat) (w : World) (B : Nat) (v : Value) (n k : Nat) (xs ne : List Value) (e : Ending) (w' : World) : Prop :=
  ∃ h : Hd, e = .returned h.v ∧ w'.ownsRow B ty size h.v (n + 1) (xs.take (k * size) ++ ne ++ xs.drop (k * size)) ∧ Kb (InV v) w w' ∧ ∀ g ∈ h.blk, v.ownBlock = some g ∨ w.heap.size ≤ g
end Go.Proofs.YtlklmekapbojdaaGreat

namespace Go.Proofs.YtlklmekapbojdaaGreat
open Go.RowKit Go.Deep
set_option maxRecDepth 100000
set_option linter.unusedVariables false
theorem reachB_iff (ms : List Mbr) (a b : ByteArray) : reachB ms a b = true ↔ Reach ms (txt a) (txt b) := by
  unfold reachB
  simp only [decide_eq_true_eq]
end Go.Proofs.YtlklmekapbojdaaGreat

namespace Go.Proofs.YtlklmekapbojdaaGreat
set_option linter.unusedVariables false
theorem rightR_parts {r : Rls} : rightR r = true ↔ r.names.length ≤ 16 ∧ r.members.length ≤ 256 ∧ risesB cmpS r.names = true ∧ risesB cmpM r.members = true ∧ (∀ s ∈ r.names, nameB s = true) ∧ ∀ m ∈ r.members, m.role ∈ r.names ∧ m.of ∈ r.names ∧ ¬ Reach r.members (txt m.of) (txt m.role) := by
  unfold rightR
  simp only [Bool.and_eq_true, decide_eq_true_eq, List.all_eq_true, mbrOk, inB_mem, Bool.not_eq_true', and_assoc]
  have e : ∀ a b, reachB r.members a b = false ↔ ¬ Reach r.members (txt a) (txt b) := fun a b => by rw [← reachB_iff]; simp
  simp only [e]
end Go.Proofs.YtlklmekapbojdaaGreat

namespace Go.Proofs.YtlklmekapbojdaaGreat
open Go.RowKit Go.Deep
set_option maxRecDepth 100000
set_option linter.unusedVariables false
set_option maxHeartbeats 8000000 in
theorem copied_in (t : Tab) (A : Option Addr) (cap : Nat) (A2 : Option Addr) (cap2 : Nat) (w : World) (h : SlAt w 3 ColR A cap t.cols) (h2 : SlAt w 8 RulR A2 cap2 t.rules) (hm : ModT t) :
    Calls Tryz.prog 112 #[.agg #[.string t.schema, .string t.name, .string t.owner, .slice A t.cols.length cap, .slice A2 t.rules.length cap2]] w (CopyO w t) := by
  have hlen := h.len
  have hlen2 := h2.len
  have C1 := Lib.hid (show ∀ w', Aft w w' → _ from fun w' a => clone2Col A cap t.cols w w' a h hm.1)
  have C2 := Lib.hid (show ∀ w', Aft w w' → _ from fun w' a => clone2Rul A2 cap2 t.rules w w' a h2 hm.2.1)
  have l1 : w.heap.size < w.heap.size + 1 := by omega
  have l2 : w.heap.size < w.heap.size + 1 + 1 := by omega
  go_enter Tryz.func112, Tryz.ntmps112
  go_wp2_with fail
  refine (C1.out _ (((Aft.refl w).alloc _).alloc _)).mono ?_
  rintro e w1 ⟨v1, css1, rfl, a1, own1, ch1⟩
  have r1 : RowAt w1 w.heap.size [.string t.schema, .string t.name, .string t.owner, .slice A t.cols.length cap, .slice A2 t.rules.length cap2] := (box_row2 (Aft.refl _)).aft (((Aft.refl _).alloc _).trans a1)
  have r2 : RowAt w1 (w.heap.size + 1) [.string ⟨#[]⟩, .string ⟨#[]⟩, .string ⟨#[]⟩, .slice none 0 0, .slice none 0 0] := by
    have := (box_row2 (w := w.alloc (.cells #[.string t.schema, .string t.name, .string t.owner, .slice A t.cols.length cap, .slice A2 t.rules.length cap2] 89)) (c := [.string ⟨#[]⟩, .string ⟨#[]⟩, .string ⟨#[]⟩, .slice none 0 0, .slice none 0 0]) (t := 89) (Aft.refl _)).aft a1
    simpa using this
  have HA1 := Lib.hid ((((Aft.refl w).alloc _).alloc _).trans a1)
  obtain ⟨Ac, cc, hv1⟩ := own_lit own1
  subst hv1
  rw [flat_cols ch1] at own1
  have own1 : w1.ownsRow (w.heap.size + 2) 106 3 (Hd.mk Ac t.cols.length cc).v t.cols.length (t.cols.flatMap colC) := own_down own1 (by simp)
  have hz1 : w.heap.size + 2 ≤ w1.heap.size := by have := a1.size; simp at this; omega
  obtain ⟨W1, hW1⟩ : ∃ W1, W1 = w1.setCell ⟨w.heap.size, 3, none⟩ (.slice Ac t.cols.length cc) := ⟨_, rfl⟩
  have kW1 : Kb (fun x => x = w.heap.size) w1 W1 := by rw [hW1]; exact Kb.set _ _ _ _
  have s1 : RowAt W1 w.heap.size [.string t.schema, .string t.name, .string t.owner, .slice Ac t.cols.length cc, .slice A2 t.rules.length cap2] := by rw [hW1]; exact r1.set 3 _ (by simp)
  have s2 := kW1.row r2 (by omega)
  have aW1 : Aft w W1 := by rw [hW1]; exact HA1.out.setCell _ _ (Nat.le_refl _)
  have zW1 : W1.heap.size = w1.heap.size := by rw [hW1]; simp
  have own1' := own_kb own1 kW1 (fun g hg e => by have := (own1.lt g hg).1; omega)
  have b0 := r1.cell (j := 3) rfl
  have b1 := r1.cell (j := 4) rfl
  have f3 := r1.2.2 3 (by simp)
  have z0 := r1.1
  have q4 := s1.cell (j := 4) rfl
  have qz := s1.1
  have HO1 := Lib.hid own1'
  have HR1 := Lib.hid s1
  have HR2 := Lib.hid s2
  clear r1 r2 a1 own1 ch1 C1 kW1 own1' s1 s2
  go_wp2_with fail
  rw [← hW1]
  refine (C2.out W1 aW1).mono ?_
  rintro e w2 ⟨v2, css2, rfl, a2, own2, ch2⟩
  clear C2 hW1 b0 b1 f3 q4 qz
  obtain ⟨Ar, cr, hv2⟩ := own_lit own2
  subst hv2
  obtain ⟨L0, hL0, hcss, hlie⟩ := rules_lie ch2
  rw [hcss, ← List.flatMap_def] at own2
  have s1' := HR1.out.aft a2
  have s2' := HR2.out.aft a2
  have b0 := s1'.cell (j := 3) rfl
  have b1 := s1'.cell (j := 4) rfl
  have f4 := s1'.2.2 4 (by simp)
  have z0 := s1'.1
  obtain ⟨W2, hW2⟩ : ∃ W2, W2 = w2.setCell ⟨w.heap.size, 4, none⟩ (.slice Ar t.rules.length cr) := ⟨_, rfl⟩
  have kW2 : Kb (fun x => x = w.heap.size) w2 W2 := by rw [hW2]; exact Kb.set _ _ _ _
  have u1 : RowAt W2 w.heap.size [.string t.schema, .string t.name, .string t.owner, .slice Ac t.cols.length cc, .slice Ar t.rules.length cr] := by rw [hW2]; exact s1'.set 4 _ (by simp)
  have hS0 : CopyS w W2 t ⟨Ac, t.cols.length, cc⟩ ⟨Ar, t.rules.length, cr⟩ L0 [] 0 := by
    have hz2 : w.heap.size + 2 ≤ W1.heap.size := by omega
    have own1'' := own_aft HO1.out a2
    have own2' : w2.ownsRow W1.heap.size 121 8 (Hd.mk Ar t.rules.length cr).v t.rules.length (L0.flatMap ORul.cells) := own2
    refine ⟨kW2.to_aft (aW1.trans a2) (fun x hx e => by omega), u1, kW2.row s2' (by omega), own_kb own1'' kW2 (fun g hg e => by have := (own1''.lt g hg).1; omega),
      own_down (own_kb own2' kW2 (fun g hg e => by have := (own2.lt g hg).1; omega)) hz2, rfl, rfl, fun x hx => by simp at hx, ?_⟩
    simp only [List.flatMap_nil, List.append_nil]
    exact nodup_more (blk_nodup _) (blk_nodup _) (fun g hg => (blk_lt HO1.out g hg).2) (fun g hg => (blk_lt own2' g hg).1)
  have HS0 := Lib.hid hS0
  have HL0 := Lib.hid hL0
  have HLIE := Lib.hid (show ∀ x ∈ L0, ∀ w', Aft w w' → x.h.n = x.r.cols.length ∧ SlAt w' 1 StrR x.h.a x.h.c x.r.cols from fun x hx w' a => ⟨(hlie x hx).1, strs_aft a (hlie x hx).2⟩)
  have HM := Lib.hid hm
  have x3 := u1.cell (j := 4) rfl
  have xz := u1.1
  clear s1' s2' own2 ch2 hS0 hL0 hlie hm kW2 u1 aW1 hcss
  go_wp2_with fail
  rw [← hW2]
  clear hW2 b0 b1 f4 z0
  go_loopw [15] (fun i wr => ∃ (k : Nat) (L : List ORul), k ≤ t.rules.length ∧ i = .int .i64 k ∧ CopyS w wr t ⟨Ac, t.cols.length, cc⟩ ⟨Ar, t.rules.length, cr⟩ L0 L k) (fun i _ => t.rules.length - (intOf i).toNat)
  case atStart => exact ⟨0, [], Nat.zero_le _, rfl, HS0.out⟩
  case round =>
    clear HS0 x3 xz
    obtain ⟨k, L, hk, rfl, hs⟩ := hrel
    have b4 := hs.box.cell (j := 4) rfl
    have bz := hs.box.1
    have HS := Lib.hid hs
    by_cases hlt : k < t.rules.length
    · have hL0l : L0.length = t.rules.length := by rw [← HL0.out]; simp
      obtain ⟨gr, hAr, hgrb, rg⟩ := own_place hs.rul (by omega)
      have hAr' : Ar = some ⟨gr, 0, none⟩ := hAr
      subst hAr'
      have hkl : k < L0.length := by omega
      have hget : (L ++ L0.drop k)[k]'(by simp [hs.len]; omega) = L0[k] := by
        rw [List.getElem_append_right (by rw [hs.len]; exact Nat.le_refl _)]
        simp [hs.len]
      have hrk : L0[k].r = t.rules[k] := by
        have : (L0.map (·.r))[k]'(by simpa using hkl) = t.rules[k] := by simp only [HL0.out]
        simpa using this
      obtain ⟨hn, hD⟩ := HLIE.out L0[k] (List.getElem_mem hkl) wr hs.aft
      obtain ⟨p, hpp⟩ : ∃ p, t.rules[k] = p := ⟨_, rfl⟩
      obtain ⟨D, nD, capD⟩ : Hd := L0[k].h
      have x2 : wr.cell? ⟨gr, k * 8 + 2, none⟩ = some (.slice L0[k].h.a p.cols.length L0[k].h.c) := by
        refine rg.cell ?_
        rw [flatMap_get ORul.cells 8 (fun _ => rfl) _ k 2 (by simp [hs.len]; omega) (by decide), hget]
        unfold ORul.cells rulC Hd.v
        rw [hn, hrk, hpp]; rfl
      rw [hrk, hpp] at hD
      obtain ⟨D2, hD2⟩ : ∃ D, L0[k].h.a = D := ⟨_, rfl⟩
      obtain ⟨c2, hc2⟩ : ∃ c, L0[k].h.c = c := ⟨_, rfl⟩
      rw [hD2, hc2] at x2 hD
      have HPP := Lib.hid hpp
      have f2 := rg.2.2 (k * 8 + 2) (by rw [flatMap_len (size := 8) (fun _ => rfl)]; simp [hs.len]; omega)
      have gz := rg.1
      have hp6 : p.cols.length ≤ 1000000 := HM.out.2.2 p (by rw [← hpp]; exact List.getElem_mem hlt)
      have hpl := hD.len
      have C3 := Lib.hid (show ∀ w', Aft wr w' → _ from fun w' a => clone2Str D2 c2 p.cols wr w' a hD hp6)
      have hgn : gr ≠ w.heap.size := by omega
      clear hpp hget hrk hn hD hD2 hc2 hs rg hAr hL0l
      go_wp2_with fail
      go_region_with ((go_at_call 143; refine (C3.out _ (Aft.refl _).drew).mono ?_; rintro e w4 ⟨v4, css4, rfl, a4, own4, ch4⟩; have x4 := a4.cell_kept x2; have b44 := a4.cell_kept b4; have f4 := (Below.frozen a4 (p := ⟨gr, k * 8 + 2, none⟩) gz).trans f2; obtain ⟨Dn, cn, hv4⟩ := own_lit own4; subst hv4))
      all_goals
        have aw4 : Aft wr w4 := (Aft.refl _).drew.trans a4
        have HREL := Lib.hid (HS.out.step (h4 := ⟨Dn, p.cols.length, cn⟩) HL0.out hlt rfl aw4 (by rw [flat_names ch4] at own4; rw [HPP.out]; exact own4))
        rw [HPP.out] at HREL
        clear own4 ch4 a4 aw4 x4 b44 f4
        go_wp2_with fail
        go_roundw
        case rel => exact ⟨k + 1, _, by omega, by go_num, HREL.out⟩
        case measure => simp [intOf]; omega
    · have c0 := hs.box.cell (j := 0) rfl
      have c1 := hs.box.cell (j := 1) rfl
      have c2 := hs.box.cell (j := 2) rfl
      have c3 := hs.box.cell (j := 3) rfl
      have d0 := hs.out.cell (j := 0) rfl
      have d1 := hs.out.cell (j := 1) rfl
      have d2 := hs.out.cell (j := 2) rfl
      have d3 := hs.out.cell (j := 3) rfl
      have d4 := hs.out.cell (j := 4) rfl
      have e0 := hs.out.2.2 0 (by simp)
      have e1 := hs.out.2.2 1 (by simp)
      have e2 := hs.out.2.2 2 (by simp)
      have e3 := hs.out.2.2 3 (by simp)
      have e4 := hs.out.2.2 4 (by simp)
      have dz := hs.out.1
      clear hs
      go_wp2_with fail
      (try simp only [Exit.inBlock, Exit.then])
      have hs := HS.out
      obtain ⟨F, hF⟩ : ∃ F, F = ((((wr.setCell ⟨w.heap.size + 1, 0, none⟩ (.string t.schema)).setCell ⟨w.heap.size + 1, 1, none⟩ (.string t.name)).setCell ⟨w.heap.size + 1, 2, none⟩ (.string t.owner)).setCell ⟨w.heap.size + 1, 3, none⟩ (.slice Ac t.cols.length cc)).setCell ⟨w.heap.size + 1, 4, none⟩ (.slice Ar t.rules.length cr) := ⟨_, rfl⟩
      have kF : Kb (fun x => x = w.heap.size + 1) wr F := by
        rw [hF]
        exact ((((Kb.set _ _ _ _).trans (Kb.set _ _ _ _)).trans (Kb.set _ _ _ _)).trans (Kb.set _ _ _ _)).trans (Kb.set _ _ _ _)
      have rF : RowAt F (w.heap.size + 1) [.string t.schema, .string t.name, .string t.owner, .slice Ac t.cols.length cc, .slice Ar t.rules.length cr] := by
        rw [hF]
        exact ((((hs.out.set 0 _ (by simp)).set 1 _ (by simp)).set 2 _ (by simp)).set 3 _ (by simp)).set 4 _ (by simp)
      rw [← hF]
      refine bodyPost_ret (results_cell (v := .agg #[.string t.schema, .string t.name, .string t.owner, .slice Ac t.cols.length cc, .slice Ar t.rules.length cr]) rfl _ rfl ?hl) rfl ?_
      case hl => exact lvTab_row rF
      have hkn : k = t.rules.length := by omega
      subst hkn
      have his := hs.is
      rw [List.take_of_length_le (Nat.le_refl _)] at his
      have hL0l : L0.length = t.rules.length := by rw [← HL0.out]; simp
      have hrul := hs.rul
      rw [List.drop_of_length_le (by omega), List.append_nil] at hrul
      have hlen' : L.length = t.rules.length := hs.len
      refine ⟨⟨t.schema, t.name, t.owner, t.cols, L, ⟨Ac, t.cols.length, cc⟩, ⟨Ar, t.rules.length, cr⟩⟩, by unfold OTab.t; rw [his], rfl, kF.to_aft hs.aft (fun x hx e => by omega), ?_, hs.nd⟩
      have hlt' := hs.lt
      refine TabIn.down (TabIn.kb (w := wr) (B := w.heap.size + 2) ⟨hs.col, by show wr.ownsRow _ _ 8 _ L.length _; rw [hlen']; exact hrul, hs.each⟩ kF fun g hg e => ?_) (by omega)
      have := hlt' g hg
      omega
end Go.Proofs.YtlklmekapbojdaaGreat

namespace Go.Proofs.YtlklmekapbojdaaGreat
open Go.RowKit Go.Deep
set_option maxRecDepth 100000
set_option linter.unusedVariables false
/-- right objects are no great ones -/
theorem check_mod {o : Objs} (h : checkO o = true) : ModO o := by
  unfold checkO headOk at h
  simp only [Bool.and_eq_true, decide_eq_true_eq, List.all_eq_true] at h
  obtain ⟨⟨⟨⟨h1, h2⟩, _⟩, _⟩, _, h3⟩ := h
  refine ⟨by omega, by omega, fun t ht => ?_⟩
  have h4 := h3 t ht
  unfold rightT at h4
  simp only [Bool.and_eq_true, decide_eq_true_eq, List.all_eq_true] at h4
  obtain ⟨⟨⟨⟨_, h5⟩, h6⟩, _⟩, h7, _⟩ := h4
  have h8 : t.cols.length ≤ 8 := by unfold colsOk at h5; simp only [Bool.and_eq_true, decide_eq_true_eq] at h5; exact h5.1.2
  refine ⟨by omega, by omega, fun r hr => ?_⟩
  have h9 := h7 r hr
  unfold ruleOk at h9
  simp only [Bool.and_eq_true] at h9
  have h1 : rcOk t.cols r.cols = true := by have hf := h9.1; unfold fitsOk at hf; simp only [Bool.and_eq_true] at hf; exact hf.1.1.1
  have := rc_len t.cols r.cols h1
  omega
/-- what comes out: r's objects in memory of their own, and an error's number -/
def ObjP (w : World) (r : Objs × Int) (e : Ending) (w' : World) : Prop :=
  ∃ hs ht L, L.map OTab.t = r.1.tables ∧ e = .returned (.tuple #[.agg #[.slice hs.a r.1.schemas.length hs.c, .slice ht.a r.1.tables.length ht.c], .int .i64 r.2]) ∧ Aft w w' ∧ ObjIn w' w.heap.size hs ht r.1.schemas L
end Go.Proofs.YtlklmekapbojdaaGreat

namespace Go.Proofs.YtlklmekapbojdaaGreat
open Go.RowKit Go.Deep
set_option maxRecDepth 100000
set_option linter.unusedVariables false
def findR (o : Objs) (s n : ByteArray) : Tab × Int :=
  if checkO o then (match o.tables[(tabAt o.tables s n).toNat]? with | some t => if tabAt o.tables s n < 0 then (zeroT, 61) else (t, 0) | none => (zeroT, 61)) else (zeroT, 63)
theorem findR_no {o : Objs} {s n : ByteArray} (h : checkO o = false) : findR o s n = (zeroT, 63) := by unfold findR; rw [h]; rfl
theorem findR_none {o : Objs} {s n : ByteArray} (h : checkO o = true) (hi : tabAt o.tables s n < 0) : findR o s n = (zeroT, 61) := by
  unfold findR; rw [h, if_pos rfl]; split
  · rw [if_pos hi]
  · rfl
theorem findR_some {o : Objs} {s n : ByteArray} {q : Nat} (h : checkO o = true) (hi : tabAt o.tables s n = q) (hq : q < o.tables.length) : findR o s n = (o.tables[q], 0) := by
  unfold findR; rw [h, if_pos rfl, hi]
  simp only [Int.toNat_natCast, List.getElem?_eq_getElem hq]
  rw [if_neg (by omega)]
def FindP (w : World) (r : Tab × Int) (e : Ending) (w' : World) : Prop :=
  ∃ x : OTab, x.t = r.1 ∧ e = .returned (.tuple #[.agg #[.string r.1.schema, .string r.1.name, .string r.1.owner, .slice x.hc.a r.1.cols.length x.hc.c, .slice x.hr.a r.1.rules.length x.hr.c], .int .i64 r.2]) ∧ Aft w w' ∧ TabIn w' w.heap.size x ∧ x.blks.Nodup
theorem findP_zero {w w' : World} {c : Int} (a : Aft w w') : FindP w (zeroT, c) (.returned (.tuple #[.agg #[.string ⟨#[]⟩, .string ⟨#[]⟩, .string ⟨#[]⟩, .slice none 0 0, .slice none 0 0], .int .i64 c])) w' :=
  ⟨⟨⟨#[]⟩, ⟨#[]⟩, ⟨#[]⟩, [], [], ⟨none, 0, 0⟩, ⟨none, 0, 0⟩⟩, rfl, rfl, a, ⟨own_nil _ _ _ _, own_nil _ _ _ _, fun x hx => by simp at hx⟩, by simp [OTab.blks, blk_nil]⟩
set_option maxHeartbeats 8000000 in
theorem find_in (o : Objs) (As : Option Addr) (caps : Nat) (At : Option Addr) (capt : Nat) (s n : ByteArray) (w : World) (hsch : SlAt w 2 SchR As caps o.schemas) (htab : SlAt w 5 TabR At capt o.tables) :
    Calls Tryz.prog 47 #[.agg #[.slice As o.schemas.length caps, .slice At o.tables.length capt], .string s, .string n] w (FindP w (findR o s n)) := by
  have hlen := hsch.len
  have hlen2 := htab.len
  have l1 : w.heap.size < w.heap.size + 1 := by omega
  have l2 : w.heap.size < w.heap.size + 1 + 1 := by omega
  obtain ⟨W, hW⟩ : ∃ W, W = (w.alloc (.cells #[.slice As o.schemas.length caps, .slice At o.tables.length capt] 29)).alloc (.cells #[.string ⟨#[]⟩, .string ⟨#[]⟩, .string ⟨#[]⟩, .slice none 0 0, .slice none 0 0] 89) := ⟨_, rfl⟩
  have aW : Aft w W := by rw [hW]; exact ((Aft.refl w).alloc _).alloc _
  have r1 : RowAt W w.heap.size [.slice As o.schemas.length caps, .slice At o.tables.length capt] := by rw [hW]; exact (box_row2 (Aft.refl _)).aft ((Aft.refl _).alloc _)
  have r2 : RowAt W (w.heap.size + 1) [.string ⟨#[]⟩, .string ⟨#[]⟩, .string ⟨#[]⟩, .slice none 0 0, .slice none 0 0] := by
    rw [hW]
    have := (box_row2 (w := w.alloc (.cells #[.slice As o.schemas.length caps, .slice At o.tables.length capt] 29)) (c := [.string ⟨#[]⟩, .string ⟨#[]⟩, .string ⟨#[]⟩, .slice none 0 0, .slice none 0 0]) (t := 89) (Aft.refl _))
    simpa using this
  have zW : W.heap.size = w.heap.size + 2 := by rw [hW]; simp
  obtain ⟨c, hc⟩ : ∃ c, checkO o = c := ⟨_, rfl⟩
  obtain ⟨i, hi⟩ : ∃ i, tabAt o.tables s n = i := ⟨_, rfl⟩
  have hir : -1 ≤ i ∧ i < o.tables.length := by rw [← hi]; exact idxP_range _ _
  have CK := Lib.hid (show ∀ w', Aft w w' → Calls Tryz.prog 46 #[.agg #[.slice As o.schemas.length caps, .slice At o.tables.length capt]] w' fun e w'' => e = .returned (.int .i64 (if c = true then 0 else 63)) ∧ Aft w' w'' from
    fun w' a => (check_any o As caps At capt w' (schs_aft a hsch) (tabs_aft a htab)).mono fun e w'' ⟨he, hw⟩ => ⟨he.trans (by unfold checkE; rw [hc]), hw⟩)
  have CW := Lib.hid (show ∀ w', Aft w w' → Calls Tryz.prog 111 #[.agg #[.slice As o.schemas.length caps, .slice At o.tables.length capt], .string s, .string n] w' fun e w'' => e = .returned (.tuple #[.int .i64 i, .bool (decide (0 ≤ i))]) ∧ Aft w' w'' from
    fun w' a => (where_any (.slice As o.schemas.length caps) At capt o.tables s n w' (tabs_aft a htab)).mono fun e w'' ⟨he, hw⟩ => ⟨he.trans (by rw [hi]), hw⟩)
  have HC := Lib.hid hc
  have HI := Lib.hid hi
  have HT := Lib.hid htab
  have HAW := Lib.hid aW
  have HR1 := Lib.hid r1
  have HR2 := Lib.hid r2
  have HZ := Lib.hid zW
  clear hc hi hsch htab r1 r2 aW zW
  go_enter Tryz.func47, Tryz.ntmps47
  go_wp2_with fail
  rw [← hW]
  clear hW
  refine (CK.out W HAW.out).mono ?_
  rintro e w1 ⟨rfl, a1⟩
  have b2 := HR2.out.aft a1
  have d0 := b2.cell (j := 0) rfl
  have d1 := b2.cell (j := 1) rfl
  have d2 := b2.cell (j := 2) rfl
  have d3 := b2.cell (j := 3) rfl
  have d4 := b2.cell (j := 4) rfl
  have f0 := b2.2.2 0 (by simp)
  have f1 := b2.2.2 1 (by simp)
  have f2 := b2.2.2 2 (by simp)
  have f3 := b2.2.2 3 (by simp)
  have f4 := b2.2.2 4 (by simp)
  have z2 := b2.1
  have HA1 := Lib.hid (HAW.out.trans a1)
  have HB2 := Lib.hid b2
  have b1 := HR1.out.aft a1
  have c0 := b1.cell (j := 0) rfl
  have c1 := b1.cell (j := 1) rfl
  have z1 := b1.1
  have HB1 := Lib.hid b1
  have HZ1 := Lib.hid (show w.heap.size + 2 ≤ w1.heap.size by have := a1.size; have := HZ.out; omega)
  clear a1 b2 b1
  cases c
  · go_wp2_with fail
    refine bodyPost_ret (results_cell_tmp (v := .agg #[.string ⟨#[]⟩, .string ⟨#[]⟩, .string ⟨#[]⟩, .slice none 0 0, .slice none 0 0]) rfl _ rfl ?hl) rfl ?_
    case hl => exact lvTab_row (setT_row HB2.out rfl _ _ _ _ _)
    rw [findR_no HC.out]
    exact findP_zero ((setT_kb _ _ _ _ _ _ _).to_aft HA1.out (fun g hg e => by omega))
  · go_wp2_with fail
    refine (CW.out w1 HA1.out).mono ?_
    rintro e w2 ⟨rfl, a2⟩
    have b2 := HB2.out.aft a2
    have d0 := b2.cell (j := 0) rfl
    have d1 := b2.cell (j := 1) rfl
    have d2 := b2.cell (j := 2) rfl
    have d3 := b2.cell (j := 3) rfl
    have d4 := b2.cell (j := 4) rfl
    have f0 := b2.2.2 0 (by simp)
    have f1 := b2.2.2 1 (by simp)
    have f2 := b2.2.2 2 (by simp)
    have f3 := b2.2.2 3 (by simp)
    have f4 := b2.2.2 4 (by simp)
    have z2 := b2.1
    have HA2 := Lib.hid (HA1.out.trans a2)
    have HB2' := Lib.hid b2
    have b1 := HB1.out.aft a2
    have c1 := b1.cell (j := 1) rfl
    have z1 := b1.1
    have HZ2 := Lib.hid (show w.heap.size + 2 ≤ w2.heap.size by have := a2.size; have := HZ1.out; omega)
    clear a2 b2 b1
    by_cases h0 : 0 ≤ i
    · obtain ⟨q, rfl⟩ := Int.eq_ofNat_of_zero_le h0
      have hq : q < o.tables.length := by omega
      obtain ⟨b, off, A2, cap2, A3, cap3, rfl, hb, t0, t1, t2, t3, t4, hcols, hruls, hss⟩ := tab_at (tabs_aft HA2.out HT.out) hq
      have hd : decide (0 ≤ (q : Int)) = true := by simp
      have CP := Lib.hid (copied_in o.tables[q] A2 cap2 A3 cap3 w2 hcols hruls (by have := (check_mod HC.out).2.2 o.tables[q] (List.getElem_mem hq); exact this))
      have HE := Lib.hid (findR_some HC.out HI.out hq)
      obtain ⟨p, hp⟩ : ∃ p, o.tables[q] = p := ⟨_, rfl⟩
      rw [hp] at t0 t1 t2 t3 t4 CP HE
      clear hp hcols hruls hss h0 hir
      go_wp2_with fail
      refine CP.out.mono ?_
      rintro e w3 ⟨x, hx, rfl, a3, tin, xnd⟩
      have b2 := HB2'.out.aft a3
      have d0 := b2.cell (j := 0) rfl
      have d1 := b2.cell (j := 1) rfl
      have d2 := b2.cell (j := 2) rfl
      have d3 := b2.cell (j := 3) rfl
      have d4 := b2.cell (j := 4) rfl
      have f0 := b2.2.2 0 (by simp)
      have f1 := b2.2.2 1 (by simp)
      have f2 := b2.2.2 2 (by simp)
      have f3 := b2.2.2 3 (by simp)
      have f4 := b2.2.2 4 (by simp)
      have z2 := b2.1
      have HA3 := Lib.hid (HA2.out.trans a3)
      have HB3 := Lib.hid b2
      have HTI := Lib.hid tin
      have HX := Lib.hid hx
      have HN := Lib.hid xnd
      clear a3 b2 tin hx xnd
      go_wp2_with fail
      refine bodyPost_ret (results_cell_tmp (v := .agg #[.string p.schema, .string p.name, .string p.owner, .slice x.hc.a p.cols.length x.hc.c, .slice x.hr.a p.rules.length x.hr.c]) rfl _ rfl ?hl) rfl ?_
      case hl => exact lvTab_row (setT_row HB3.out rfl _ _ _ _ _)
      rw [HE.out]
      refine ⟨x, HX.out, rfl, (setT_kb _ _ _ _ _ _ _).to_aft HA3.out (fun g hg e => by omega), ?_, HN.out⟩
      have hz2 := HZ2.out
      refine TabIn.down (HTI.out.kb (setT_kb _ _ _ _ _ _ _) fun g hg e => ?_) (show w.heap.size ≤ w2.heap.size by omega)
      have := (HTI.out.lt g hg).1
      omega
    · have hd : decide (0 ≤ i) = false := by simpa using h0
      go_wp2_with fail
      refine bodyPost_ret (results_cell_tmp (v := .agg #[.string ⟨#[]⟩, .string ⟨#[]⟩, .string ⟨#[]⟩, .slice none 0 0, .slice none 0 0]) rfl _ rfl ?hl3) rfl ?_
      case hl3 => exact lvTab_row (setT_row HB2'.out rfl _ _ _ _ _)
      rw [findR_none HC.out (by rw [HI.out]; omega)]
      exact findP_zero ((setT_kb _ _ _ _ _ _ _).to_aft HA2.out (fun g hg e => by omega))
end Go.Proofs.YtlklmekapbojdaaGreat

namespace Go.Proofs.YtlklmekapbojdaaGreat
open Go.RowKit Go.Shelf Go.Sort
set_option linter.unusedVariables false
theorem Pre8.con' {α : Type} {c : α → α → Int} (o : Pre8 c) (a b d : α) (h : c a b = 0) : c d a = c d b := by
  have h1 := o.con a b d h
  have h2 := o.anti d a
  have h3 := o.anti d b
  omega
theorem preS : Pre8 cmpS := ⟨fun a b d h1 h2 => cmpS_trans h1 h2, cmpS_anti, fun a b d h => by
  have : a.data.toList = b.data.toList := (cmpB_eq _ _).1 h
  unfold cmpS
  rw [this]⟩
theorem Pre8.or {α : Type} {c d : α → α → Int} (o : Pre8 c) (p : Pre8 d) : Pre8 fun a b => or2 (c a b) (d a b) := by
  have h0 : ∀ a b, c a b = 0 → c b a = 0 := fun a b h => by have := o.anti a b; omega
  have e1 : ∀ a b, c a b = 0 → or2 (c a b) (d a b) = d a b := fun a b h => by unfold or2; simp [h]
  have e2 : ∀ a b, c a b ≠ 0 → or2 (c a b) (d a b) = c a b := fun a b h => by unfold or2; simp [h]
  refine ⟨fun a b x h1 h2 => ?_, fun a b => ?_, fun a b x h => ?_⟩
  · by_cases g1 : c a b = 0
    · rw [e1 _ _ g1] at h1
      have g3 := o.con a b x g1
      by_cases g2 : c b x = 0
      · rw [e1 _ _ g2] at h2
        rw [e1 _ _ (by omega)]; exact p.tr _ _ _ h1 h2
      · rw [e2 _ _ g2] at h2
        rw [e2 _ _ (by omega)]; omega
    · rw [e2 _ _ g1] at h1
      by_cases g2 : c b x = 0
      · have g3 := o.con' b x a g2
        rw [e2 _ _ (by omega)]; omega
      · rw [e2 _ _ g2] at h2
        have := o.tr _ _ _ h1 h2
        rw [e2 _ _ (by omega)]; exact this
  · have ha := o.anti a b
    by_cases g1 : c a b = 0
    · rw [e1 _ _ g1, e1 _ _ (h0 _ _ g1)]; exact p.anti _ _
    · rw [e2 _ _ g1, e2 _ _ (by omega)]; exact ha
  · by_cases g1 : c a b = 0
    · rw [e1 _ _ g1] at h
      have g3 := o.con a b x g1
      by_cases g2 : c a x = 0
      · rw [e1 _ _ g2, e1 _ _ (by omega)]; exact p.con _ _ _ h
      · rw [e2 _ _ g2, e2 _ _ (by omega)]; exact g3
    · rw [e2 _ _ g1] at h; exact absurd h g1
/-- schemas by name, rules by name, tables by schema and name -/
def cmpSc (a b : Sch) : Int := cmpS a.name b.name
def cmpTb (a b : Tab) : Int := or2 (cmpS a.schema b.schema) (cmpS a.name b.name)
theorem preTb : Pre8 cmpTb := (preS.on Tab.schema).or (preS.on Tab.name)
instance : Inhabited Sch := ⟨⟨ByteArray.empty, ByteArray.empty⟩⟩
instance : Inhabited Rul := ⟨⟨ByteArray.empty, 0, [], 0, 0, ByteArray.empty, ByteArray.empty, ByteArray.empty⟩⟩
instance : Inhabited ORul := ⟨⟨default, ⟨none, 0, 0⟩⟩⟩
instance : Inhabited OTab := ⟨⟨ByteArray.empty, ByteArray.empty, ByteArray.empty, [], [], ⟨none, 0, 0⟩, ⟨none, 0, 0⟩⟩⟩
end Go.Proofs.YtlklmekapbojdaaGreat

namespace Go.Proofs.YtlklmekapbojdaaGreat
open Go.RowKit
set_option linter.unusedVariables false
def noC : Cat := ⟨0, 0, ⟨[], []⟩, ⟨[], []⟩, []⟩
noncomputable def giveR (c : Cat) (g : Gra) : Cat × Int :=
  if !wholeB c || !kindB g.right || eqS g.giver g.to then (noC, 1)
  else if tabAt c.objs.tables g.schema g.table < 0 then (noC, 61)
  else if !inB c.rols.names g.giver || !inB c.rols.names g.to then (noC, 71)
  else if !justB c c.grants g then (noC, 91)
  else if decide (64 ≤ c.grants.length) && !inG c.grants g then (noC, 2)
  else ({ c with grants := laid c.grants g }, 0)
theorem give_ok {c : Cat} {g : Gra} (h : (giveR c g).2 = 0) : Gave c g (giveR c g).1 := by
  unfold giveR at h ⊢
  by_cases h1 : (!wholeB c || !kindB g.right || eqS g.giver g.to) = true
  · rw [if_pos h1] at h; exact absurd h (by decide)
  rw [if_neg h1] at h ⊢
  by_cases h2 : tabAt c.objs.tables g.schema g.table < 0
  · rw [if_pos h2] at h; exact absurd h (by decide)
  rw [if_neg h2] at h ⊢
  by_cases h3 : (!inB c.rols.names g.giver || !inB c.rols.names g.to) = true
  · rw [if_pos h3] at h; exact absurd h (by decide)
  rw [if_neg h3] at h ⊢
  by_cases h4 : (!justB c c.grants g) = true
  · rw [if_pos h4] at h; exact absurd h (by decide)
  rw [if_neg h4] at h ⊢
  by_cases h5 : (decide (64 ≤ c.grants.length) && !inG c.grants g) = true
  · rw [if_pos h5] at h; exact absurd h (by decide)
  rw [if_neg h5]
  simp only [Bool.or_eq_true, not_or, Bool.not_eq_true, Bool.not_eq_false', Bool.and_eq_true, not_and, decide_eq_true_eq, Bool.not_eq_true', Bool.not_eq_false] at h1 h3 h4 h5
  refine ⟨h1.1.1, ?_, h4, fun ⟨a, b⟩ => (by have := h5 a; rw [b] at this; cases this), rfl⟩
  unfold graOk
  rw [h1.1.2, h1.2, h3.1, h3.2, decide_eq_true (show 0 ≤ tabAt c.objs.tables g.schema g.table by omega)]
  rfl
end Go.Proofs.YtlklmekapbojdaaGreat

namespace Go.Proofs.YtlklmekapbojdaaGreat
open Go.RowKit Go.Deep
set_option maxRecDepth 100000
set_option linter.unusedVariables false
def bS : ByteArray := ⟨#[115]⟩
def bT : ByteArray := ⟨#[116]⟩
def bO : ByteArray := ⟨#[111]⟩
def bX : ByteArray := ⟨#[120]⟩
def oneT : Tab := ⟨bS, bT, bO, [⟨bX, 2, false⟩], []⟩
def oneC : Cat := ⟨0, 0, ⟨[⟨bS, bO⟩], [oneT]⟩, ⟨[bA, bB, bO, bRoot], []⟩, []⟩
def oneG (p q : ByteArray) : Gra := ⟨bS, bT, 1, p, q, true⟩
theorem reach_nil {s t : Txt} (h : Reach [] s t) : s = t := by
  cases h with
  | refl => rfl
  | step h1 h2 h3 => simp [succ] at h2
theorem reachB_nil (s t : ByteArray) : reachB [] s t = eqS s t := by
  unfold reachB
  by_cases hr : Reach [] (txt s) (txt t)
  · simp only [hr, decide_true]
    exact ((eqS_txt _ _).2 (reach_nil hr)).symm
  · simp only [hr, decide_false]
    symm
    rw [Bool.eq_false_iff]
    exact fun e => hr (by rw [(eqS_txt _ _).1 e]; exact .refl _)
theorem oneC_right : rightR oneC.rols = true := by
  unfold rightR oneC
  simp only [List.all_nil, Bool.and_true]
  decide +kernel
theorem oneC_stands : standsB oneC = true := by
  refine stands_iff.2 ⟨by decide, ⟨by decide +kernel, oneC_right, by decide +kernel, by decide +kernel⟩, fun g hg => by simp [oneC] at hg, rfl⟩
theorem oneC_whole : wholeB oneC = true := whole_iff.2 ⟨oneC_stands, fun g hg => by simp [oneC] at hg⟩
theorem oneC_all (s : ByteArray) (h : inB oneC.rols.names s = true) : allL oneC.rols s = [bA, bB, bO, bRoot].filter (eqS s) := by
  unfold allL
  rw [oneC_right, h]
  show oneC.rols.names.filter (reachB oneC.rols.members s) = _
  have : reachB oneC.rols.members s = eqS s := by funext t; exact reachB_nil s t
  rw [this]; rfl
def OneP9 (w : World) (e : Ending) (w' : World) : Prop := ∃ As caps At capt An capn, e = .returned (.agg #[.int .i64 0, .int .i64 0, .slice As 1 caps, .slice At 1 capt, .slice An 4 capn, .slice none 0 0, .slice none 0 0]) ∧ Aft w w' ∧ CatAt w' oneC As caps At capt An capn none 0 none 0
set_option maxHeartbeats 8000000 in
theorem one9 (w : World) : Calls Tryz.prog 97 #[] w (OneP9 w) := by
  have l1 : w.heap.size < w.heap.size + 1 := by omega
  have l2 : w.heap.size < w.heap.size + 1 + 1 := by omega
  have l3 : w.heap.size < w.heap.size + 1 + 1 + 1 := by omega
  have l4 : w.heap.size < w.heap.size + 1 + 1 + 1 + 1 := by omega
  have l5 : w.heap.size < w.heap.size + 1 + 1 + 1 + 1 + 1 := by omega
  have l6 : w.heap.size < w.heap.size + 1 + 1 + 1 + 1 + 1 + 1 := by omega
  have l7 : w.heap.size < w.heap.size + 1 + 1 + 1 + 1 + 1 + 1 + 1 := by omega
  go_enter Tryz.func97, Tryz.ntmps97
  go_wp2_with fail
  (try simp only [Exit.inBlock, Exit.then])
  have a6 := ((((((Aft.refl w).alloc (.cells #[.int .i64 0, .int .i64 0, .slice (some ⟨w.heap.size + 1 + 1 + 1, 0, none⟩) 1 1, .slice (some ⟨w.heap.size + 1 + 1 + 1 + 1, 0, none⟩) 1 1, .slice (some ⟨w.heap.size + 1 + 1 + 1 + 1 + 1, 0, none⟩) 4 4, .slice none 0 0, .slice none 0 0] 66)).alloc (.cells #[.string ⟨#[120]⟩, .int .i64 2, .bool false] 106)).alloc (.cells #[.string ⟨#[115]⟩, .string ⟨#[116]⟩, .string ⟨#[111]⟩, .slice (some ⟨w.heap.size + 1, 0, none⟩) 1 1, .slice none 0 0] 89)).alloc (.cells #[.string ⟨#[115]⟩, .string ⟨#[111]⟩] 101)).alloc (.cells #[.string ⟨#[115]⟩, .string ⟨#[116]⟩, .string ⟨#[111]⟩, .slice (some ⟨w.heap.size + 1, 0, none⟩) 1 1, .slice none 0 0] 89)).alloc (.cells #[.string ⟨#[97]⟩, .string ⟨#[98]⟩, .string ⟨#[111]⟩, .string ⟨#[114, 111, 111, 116]⟩] 9)
  refine bodyPost_ret (results_cell (v := .agg #[.int .i64 0, .int .i64 0, .slice (some ⟨w.heap.size + 1 + 1 + 1, 0, none⟩) 1 1, .slice (some ⟨w.heap.size + 1 + 1 + 1 + 1, 0, none⟩) 1 1, .slice (some ⟨w.heap.size + 1 + 1 + 1 + 1 + 1, 0, none⟩) 4 4, .slice none 0 0, .slice none 0 0]) rfl _ rfl ?hl) rfl ?_
  case hl => exact lvCat_row (RowAt.up (RowAt.up (RowAt.up (RowAt.up (RowAt.up (box_at (Aft.refl _) rfl))))))
  refine ⟨_, _, _, _, _, _, rfl, a6, ?s, ?t, ?n, slAt_nil, slAt_nil⟩
  case s => exact slAt_one _ [.string ⟨#[115]⟩, .string ⟨#[111]⟩] #[.string ⟨#[115]⟩, .string ⟨#[111]⟩] (by first | (simp; done) | (simp; omega)) (by intro o; (repeat (refine (World.cell?_alloc_past _ _ _ (by first | (simp; done) | (simp; omega))).trans ?_)); exact World.cell?_alloc_at _ _ _ _ (by simp)) rfl rfl ⟨rfl, by unfold Small; decide, by unfold Small; decide⟩ (by omega)
  case n => exact slAt_box _ nameC #[.string ⟨#[97]⟩, .string ⟨#[98]⟩, .string ⟨#[111]⟩, .string ⟨#[114, 111, 111, 116]⟩] (by first | (simp; done) | (simp; omega)) (by intro o; (repeat (refine (World.cell?_alloc_past _ _ _ (by first | (simp; done) | (simp; omega))).trans ?_)); exact World.cell?_alloc_at _ _ _ _ (by simp)) rfl (fun _ => rfl) (by intro x hx; refine ⟨rfl, ?_⟩; simp [oneC] at hx; rcases hx with rfl | rfl | rfl | rfl <;> (unfold Small; decide)) (by unfold Small; decide) (by decide)
  case t =>
    refine slAt_one _ [.string ⟨#[115]⟩, .string ⟨#[116]⟩, .string ⟨#[111]⟩, .slice (some ⟨w.heap.size + 1, 0, none⟩) 1 1, .slice none 0 0] #[.string ⟨#[115]⟩, .string ⟨#[116]⟩, .string ⟨#[111]⟩, .slice (some ⟨w.heap.size + 1, 0, none⟩) 1 1, .slice none 0 0] (by first | (simp; done) | (simp; omega)) (by intro o; (repeat (refine (World.cell?_alloc_past _ _ _ (by first | (simp; done) | (simp; omega))).trans ?_)); exact World.cell?_alloc_at _ _ _ _ (by simp)) rfl rfl ⟨_, _, _, _, rfl, ?c, slAt_nil, by unfold Small; decide, by unfold Small; decide, by unfold Small; decide⟩ (by omega)
    case c => exact slAt_one _ [.string ⟨#[120]⟩, .int .i64 2, .bool false] #[.string ⟨#[120]⟩, .int .i64 2, .bool false] (by first | (simp; done) | (simp; omega)) (by intro o; (repeat (refine (World.cell?_alloc_past _ _ _ (by first | (simp; done) | (simp; omega))).trans ?_)); exact World.cell?_alloc_at _ _ _ _ (by simp)) rfl rfl ⟨rfl, by unfold Small; decide⟩ (by omega)
theorem lvGra_row {W : World} {p : Nat} {a c d e f g : Value} (h : RowAt W p [a, c, d, e, f, g]) : (loadVar 76 ⟨p, 0, none⟩).run Tryz.prog W = .ok (.agg #[a, c, d, e, f, g]) W := by
  have e0 := h.cell (j := 0) rfl
  have e1 := h.cell (j := 1) rfl
  have e2 := h.cell (j := 2) rfl
  have e3 := h.cell (j := 3) rfl
  have e4 := h.cell (j := 4) rfl
  have e5 := h.cell (j := 5) rfl
  have h1 := run_lvGra W p 0 (by rw [e0]; rfl) (by rw [e1]; rfl) (by rw [e2]; rfl) (by rw [e3]; rfl) (by rw [e4]; rfl) (by rw [e5]; rfl)
  rw [e0, e1, e2, e3, e4, e5] at h1
  exact h1
theorem read9 (p q : ByteArray) (w : World) : Calls Tryz.prog 98 #[.string p, .string q] w fun e w' => e = .returned (.agg #[.string ⟨#[115]⟩, .string ⟨#[116]⟩, .int .i64 1, .string p, .string q, .bool true]) ∧ Aft w w' := by
  go_enter Tryz.func98, Tryz.ntmps98
  go_wp2_with fail
  refine bodyPost_ret (results_cell (v := .agg #[.string ⟨#[115]⟩, .string ⟨#[116]⟩, .int .i64 1, .string p, .string q, .bool true]) rfl _ rfl ?hl) rfl ?_
  case hl => exact lvGra_row (box_at (Aft.refl _) rfl)
  exact ⟨rfl, (Aft.refl _).alloc _⟩
end Go.Proofs.YtlklmekapbojdaaGreat

namespace Go.Proofs.YtlklmekapbojdaaGreat
set_option maxRecDepth 100000
set_option linter.unusedVariables false
theorem pos_only {l : List Gra} {g : Gra} (hr : risesB cmpG l = true) (t : Nat) (ht : t < l.length) : fiveE l[t] g = true ↔ (t = posB cmpG l g ∧ thereB cmpG l g = true) := by
  obtain ⟨h1, h2⟩ := pos_split' ordG.lt hr g
  constructor
  · intro e
    have hz : cmpG l[t] g = 0 := (cmpG_zero _ _).2 e
    have hp : posB cmpG l g ≤ t := by
      by_cases h : t < posB cmpG l g
      · have := h1 t ht h; omega
      · omega
    have ht' : t = posB cmpG l g := by
      by_cases h : t = posB cmpG l g
      · exact h
      · have hlt : posB cmpG l g < t := by omega
        have h3 := rises_lt ordG.lt hr _ t (by omega) ht hlt
        have h4 : cmpG (l[posB cmpG l g]'(by omega)) g < 0 := by
          rw [cmpG_keys rfl ((fiveE_iff _ _).1 e).symm]; exact h3
        exact absurd h4 (h2 _ (by omega) (Nat.le_refl _))
    refine ⟨ht', ?_⟩
    unfold thereB
    rw [← ht', List.getElem?_eq_getElem ht]
    exact decide_eq_true hz
  · rintro ⟨rfl, h⟩
    unfold thereB at h
    rw [List.getElem?_eq_getElem ht] at h
    exact (cmpG_zero _ _).1 (of_decide_eq_true h)
theorem there_inG {l : List Gra} {g : Gra} (hr : risesB cmpG l = true) : thereB cmpG l g = inG l g := by
  cases h : thereB cmpG l g
  · symm
    unfold inG
    rw [List.any_eq_false]
    intro x hx e
    obtain ⟨t, ht, rfl⟩ := List.getElem_of_mem hx
    have := ((pos_only hr t ht).1 e).2
    rw [h] at this
    cases this
  · symm
    unfold inG
    rw [List.any_eq_true]
    exact ⟨_, List.getElem_mem (there_lt h), (pos_only hr _ (there_lt h)).2 ⟨rfl, h⟩⟩
theorem map_set1 {α : Type} (f : α → α) (l : List α) (q : Nat) (hq : q < l.length) (h : ∀ t (ht : t < l.length), t ≠ q → f l[t] = l[t]) : l.map f = l.set q (f l[q]) := by
  refine List.ext_getElem (by simp) fun t h1 h2 => ?_
  rw [List.getElem_map, List.getElem_set]
  split
  · next e => subst e; rfl
  · next e => exact h t (by simpa using h1) fun x => e x.symm
theorem laid_set {l : List Gra} {g : Gra} (hr : risesB cmpG l = true) (h : thereB cmpG l g = true) : laid l g = l.set (posB cmpG l g) { l[posB cmpG l g]'(there_lt h) with opt := (l[posB cmpG l g]'(there_lt h)).opt || g.opt } := by
  rw [laid_old (by rw [← there_inG hr]; exact h), map_set1 (layF g) l _ (there_lt h) fun t ht hne => ?_]
  · have : fiveE (l[posB cmpG l g]'(there_lt h)) g = true := (pos_only hr _ (there_lt h)).2 ⟨rfl, h⟩
    unfold layF
    rw [if_pos this]
  · have : ¬ fiveE l[t] g = true := fun e => hne ((pos_only hr t ht).1 e).1
    unfold layF
    rw [if_neg this]
end Go.Proofs.YtlklmekapbojdaaGreat

namespace Go.Proofs.YtlklmekapbojdaaGreat
open Go.RowKit Go.Deep
set_option maxRecDepth 100000
set_option linter.unusedVariables false
theorem give_if {c : Cat} {g : Gra} (h1 : wholeB c = true) (h2 : (kindB g.right && !eqS g.giver g.to && decide (0 ≤ tabAt c.objs.tables g.schema g.table) && inB c.rols.names g.giver && inB c.rols.names g.to) = true) (h3 : justB c c.grants g = true) (h4 : c.grants.length < 64) : giveR c g = ({ c with grants := laid c.grants g }, 0) := by
  simp only [Bool.and_eq_true, decide_eq_true_eq, Bool.not_eq_true'] at h2
  obtain ⟨⟨⟨⟨k1, k2⟩, k3⟩, k4⟩, k5⟩ := h2
  unfold giveR
  rw [h1, k1, k2, k4, k5, h3, if_neg (by simp), if_neg (by omega), if_neg (by simp), if_neg (by simp), if_neg (by simp; omega)]
def exC1 : Cat := { oneC with grants := [oneG bO bA] }
def exC2 : Cat := { oneC with grants := [oneG bA bB, oneG bO bA] }
theorem ex_give1 : giveR oneC (oneG bO bA) = (exC1, 0) := by
  rw [give_if oneC_whole (by decide +kernel) (by unfold justB; rw [show allL oneC.rols (oneG bO bA).giver = [bA, bB, bO, bRoot].filter (eqS bO) from oneC_all bO (by decide +kernel)]; decide +kernel) (by decide)]
  rw [laid_new (by decide +kernel), show posB cmpG oneC.grants (oneG bO bA) = 0 by decide +kernel]
  rfl
theorem exC1_whole : wholeB exC1 = true := by
  have h := (give_ok (c := oneC) (g := oneG bO bA) (by rw [ex_give1])).wholeX
  rw [ex_give1] at h
  exact h
theorem ex_give2 : giveR exC1 (oneG bA bB) = (exC2, 0) := by
  rw [give_if exC1_whole (by decide +kernel) (by unfold justB; rw [show allL exC1.rols (oneG bA bB).giver = [bA, bB, bO, bRoot].filter (eqS bA) from oneC_all bA (by decide +kernel)]; decide +kernel) (by decide)]
  rw [laid_new (by decide +kernel), show posB cmpG exC1.grants (oneG bA bB) = 0 by decide +kernel]
  rfl
theorem sm_oneG (p q : ByteArray) (h1 : Small p.size) (h2 : Small q.size) : SmG (oneG p q) := ⟨(by unfold Small; decide : Small bS.size), (by unfold Small; decide : Small bT.size), h1, h2, rfl⟩
theorem sm_exC1 {c : Cat} (h : SmC c) (l : List Gra) (hl : l.length ≤ 3) (hg : ∀ g ∈ l, SmG g) : SmC { c with grants := l } := ⟨h.1, h.2.1, by unfold Small; show l.length * 16 ≤ _; omega, hg⟩
end Go.Proofs.YtlklmekapbojdaaGreat

