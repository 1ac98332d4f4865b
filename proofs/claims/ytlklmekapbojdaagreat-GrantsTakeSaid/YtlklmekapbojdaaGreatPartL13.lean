/- Contracts of the program, part 13. -/
import Derived.OwnWalk
import Derived.Laws.AppendOwn
import Derived.ProofKit
import Derived.OpenShut
import Derived.Deep.Slices
import Derived.ChangeOld
import Derived.SizedLaws
import Derived.WalkKit
import Derived.WalkSpells
import Derived.WalkLawsBesides
import Derived.Lib.Hide
import Derived.Deep.QuietTactic
import Derived.BigQuiet
import Derived.Below
import Derived.Deep.Draws
import Derived.StillTailTactics
import Derived.Laws.Cells
import Derived.Laws.IdiomCopy
import Derived.Test.YtlklmekapbojdaaGreatRows
import Derived.Deep.AppendLies
import Derived.Deep.DeepMust
import Derived.Lib.Walk
import Derived.Laws.EntriesVeiled
import Derived.Maps.Own
import Derived.Maps.Views
import Derived.Deep.Upon
import Derived.OneCell
import Derived.OrdersHeld
import Derived.Deep.RegionHeld3
import Derived.IntWalk
import Derived.Lib.Bytealg
import Derived.Lib.SliceRun
import Derived.Deep.RegionLaw
import Derived.Lib.AppendZerosOnto
import Derived.Lib.Overlaps
import Derived.Shelf.SlSortCmp.WholeK
import Derived.WalkMore
import Derived.Laws.StructEq
import Derived.WideKeyEntry
import Derived.DeepKeys3
import Derived.ChangeKeys
import Derived.Test.YtlklmekapbojdaaGreatPartL1
import Derived.Test.YtlklmekapbojdaaGreatPartL2
import Derived.Test.YtlklmekapbojdaaGreatPartL3
import Derived.Test.YtlklmekapbojdaaGreatPartL4
import Derived.Test.YtlklmekapbojdaaGreatPartL5
import Derived.Test.YtlklmekapbojdaaGreatPartL6
import Derived.Test.YtlklmekapbojdaaGreatPartL7
import Derived.Test.YtlklmekapbojdaaGreatPartL8
import Derived.Test.YtlklmekapbojdaaGreatPartL9
import Derived.Test.YtlklmekapbojdaaGreatPartL10
import Derived.Test.YtlklmekapbojdaaGreatPartL12
namespace Go.Proofs.YtlklmekapbojdaaGreat
open Go.RowKit Go.Deep
set_option maxRecDepth 100000
set_option linter.unusedVariables false
theorem info2GraK : (Tryz.prog.info? 76).map (fun i => (i.zero, i.size, i.bytes)) = some (some (.agg #[.string ByteArray.empty, .string ByteArray.empty, .int .i64 0, .string ByteArray.empty, .string ByteArray.empty, .bool false]), 6, 80) := by kernel_rfl
set_option maxHeartbeats 2000000 in
theorem clone2GraK (A : Option Addr) (cap : Nat) (l : List Gra) (w0 w : World) (ha : Aft w0 w) (h : SlAt w0 6 GraR A cap l) (hb : l.length ≤ 1000000) :
    Calls Tryz.prog 155 #[.slice A l.length cap] w (CloneQ 76 6 GraR w0 w l) := by
  obtain ⟨i0, hi, hz0, hz1, hz2⟩ := info_parts info2GraK
  have q22 : ∀ (w : World) (a : Option Addr) (n c n' c' : Nat), (binOp .eql 64 (.slice a n c) (.slice none n' c')).run Tryz.prog w = .ok (.bool a.isNone) w := fun w a n c n' c' => Lib.run_eql_slice_nil w _ _ a n c n' c' Tryz.underlying64
  cases A with
  | none =>
    have hl0 : l = [] := by
      cases l with
      | nil => rfl
      | cons x l => obtain ⟨b, off, cs, hA, _⟩ := h.2.2 0 (by simp); cases hA
    subst hl0
    go_enter Tryz.func155, Tryz.ntmps155
    go_wp2_with fail
    go_ret
    exact ⟨_, [], rfl, Aft.refl _, own_nil _ _ _ _, Chunks.nil⟩
  | some ad =>
    have HC : ∃ css, Chunks w0 6 GraR css l ∧ ∀ p u, css.flatten[p]? = some u → w.cell? (ad.add p) = some u := by
      by_cases h0 : 0 < l.length
      · obtain ⟨b, off, css, hA, hb', hch, hc⟩ := h.css h0 (by decide)
        simp only [Option.some.injEq] at hA
        subst hA
        refine ⟨css, hch, fun p u hp => ?_⟩
        have hlt : p < l.length * 6 := by rw [← hch.len]; exact (List.getElem?_eq_some_iff.1 hp).1
        rw [add_mk]; exact ha.cell_kept ((hc p hlt).trans hp)
      · have hl0 : l = [] := List.eq_nil_of_length_eq_zero (by omega)
        subst hl0
        exact ⟨[], Chunks.nil, fun p u hp => by simp at hp⟩
    obtain ⟨css, hch, hcell⟩ := HC
    have H1 := Lib.hid hcell
    have H2 : Hid (∀ u ∈ css.flatten, u.oneCell' = true) := Lib.hid (by
      intro u hu
      obtain ⟨c, hc, hu⟩ := List.mem_flatten.1 hu
      obtain ⟨i, hi, rfl⟩ := List.getElem_of_mem hc
      have h3 := (hch.2 i hi (by rw [← hch.1]; exact hi)).2
      obtain ⟨hcs, _⟩ := h3; unfold graC at hcs
      rw [hcs] at hu
      simp only [List.mem_cons, List.not_mem_nil, or_false] at hu
      rcases hu with rfl | rfl | rfl | rfl | rfl | rfl <;> simp [Value.oneCell'])
    have H3 := Lib.hid hch
    have HI := Lib.hid hi
    have HZ0 := Lib.hid hz0
    have HZ1 := Lib.hid hz1
    have HZ2 := Lib.hid hz2
    clear hcell hch hi hz0 hz1 hz2 h ha
    go_enter Tryz.func155, Tryz.ntmps155
    go_wp2_with (at_builtin; refine wpList_append_own _ rfl _ _ 64 rfl w.heap.size 76 i0 (.agg #[.string ByteArray.empty, .string ByteArray.empty, .int .i64 0, .string ByteArray.empty, .string ByteArray.empty, .bool false]) 6 80 Tryz.underlying64 HI.out HZ0.out HZ1.out HZ2.out rfl (by decide) _ _ _ rfl (World.ownsRow_made w #[] 0 (Nat.le_refl _) (Nat.zero_le _) rfl) ad l.length cap css.flatten rfl ?qc1 ?qc2 ?qc3 ?qc4 ?qc5 ?qc6 ?_)
    case qc1 => exact H3.out.len
    case qc2 =>
      intro j u hj
      exact Lib.cell?_alloc_some _ (H1.out j u hj)
    case qc3 => exact H2.out
    case qc4 => unfold maxLen; omega
    case qc5 => omega
    case qc6 => simp
    intro v' w1 hown hgrow hnil
    have HO := Lib.hid hown
    have HA := Lib.hid (show Aft w w1 from ((Below.refl _ w).alloc (Nat.le_refl _) _).grown hgrow (by simp) (by intro k hk; simp [Value.ownBlock] at hk; omega))
    clear hown hgrow hnil
    go_wp2_with fail
    go_ret
    refine ⟨v', css, rfl, HA.out, ?_, H3.out⟩
    simpa using HO.out
theorem info2TabK : (Tryz.prog.info? 89).map (fun i => (i.zero, i.size, i.bytes)) = some (some (.agg #[.string ByteArray.empty, .string ByteArray.empty, .string ByteArray.empty, .slice none 0 0, .slice none 0 0]), 5, 96) := by kernel_rfl
set_option maxHeartbeats 2000000 in
theorem clone2TabK (A : Option Addr) (cap : Nat) (l : List Tab) (w0 w : World) (ha : Aft w0 w) (h : SlAt w0 5 TabR A cap l) (hb : l.length ≤ 1000000) :
    Calls Tryz.prog 153 #[.slice A l.length cap] w (CloneQ 89 5 TabR w0 w l) := by
  obtain ⟨i0, hi, hz0, hz1, hz2⟩ := info_parts info2TabK
  have q22 : ∀ (w : World) (a : Option Addr) (n c n' c' : Nat), (binOp .eql 27 (.slice a n c) (.slice none n' c')).run Tryz.prog w = .ok (.bool a.isNone) w := fun w a n c n' c' => Lib.run_eql_slice_nil w _ _ a n c n' c' Tryz.underlying27
  cases A with
  | none =>
    have hl0 : l = [] := by
      cases l with
      | nil => rfl
      | cons x l => obtain ⟨b, off, cs, hA, _⟩ := h.2.2 0 (by simp); cases hA
    subst hl0
    go_enter Tryz.func153, Tryz.ntmps153
    go_wp2_with fail
    go_ret
    exact ⟨_, [], rfl, Aft.refl _, own_nil _ _ _ _, Chunks.nil⟩
  | some ad =>
    have HC : ∃ css, Chunks w0 5 TabR css l ∧ ∀ p u, css.flatten[p]? = some u → w.cell? (ad.add p) = some u := by
      by_cases h0 : 0 < l.length
      · obtain ⟨b, off, css, hA, hb', hch, hc⟩ := h.css h0 (by decide)
        simp only [Option.some.injEq] at hA
        subst hA
        refine ⟨css, hch, fun p u hp => ?_⟩
        have hlt : p < l.length * 5 := by rw [← hch.len]; exact (List.getElem?_eq_some_iff.1 hp).1
        rw [add_mk]; exact ha.cell_kept ((hc p hlt).trans hp)
      · have hl0 : l = [] := List.eq_nil_of_length_eq_zero (by omega)
        subst hl0
        exact ⟨[], Chunks.nil, fun p u hp => by simp at hp⟩
    obtain ⟨css, hch, hcell⟩ := HC
    have H1 := Lib.hid hcell
    have H2 : Hid (∀ u ∈ css.flatten, u.oneCell' = true) := Lib.hid (by
      intro u hu
      obtain ⟨c, hc, hu⟩ := List.mem_flatten.1 hu
      obtain ⟨i, hi, rfl⟩ := List.getElem_of_mem hc
      have h3 := (hch.2 i hi (by rw [← hch.1]; exact hi)).2
      obtain ⟨_, _, _, _, hcs, _⟩ := h3
      rw [hcs] at hu
      simp only [List.mem_cons, List.not_mem_nil, or_false] at hu
      rcases hu with rfl | rfl | rfl | rfl | rfl <;> simp [Value.oneCell'])
    have H3 := Lib.hid hch
    have HI := Lib.hid hi
    have HZ0 := Lib.hid hz0
    have HZ1 := Lib.hid hz1
    have HZ2 := Lib.hid hz2
    clear hcell hch hi hz0 hz1 hz2 h ha
    go_enter Tryz.func153, Tryz.ntmps153
    go_wp2_with (at_builtin; refine wpList_append_own _ rfl _ _ 27 rfl w.heap.size 89 i0 (.agg #[.string ByteArray.empty, .string ByteArray.empty, .string ByteArray.empty, .slice none 0 0, .slice none 0 0]) 5 96 Tryz.underlying27 HI.out HZ0.out HZ1.out HZ2.out rfl (by decide) _ _ _ rfl (World.ownsRow_made w #[] 0 (Nat.le_refl _) (Nat.zero_le _) rfl) ad l.length cap css.flatten rfl ?qc1 ?qc2 ?qc3 ?qc4 ?qc5 ?qc6 ?_)
    case qc1 => exact H3.out.len
    case qc2 =>
      intro j u hj
      exact Lib.cell?_alloc_some _ (H1.out j u hj)
    case qc3 => exact H2.out
    case qc4 => unfold maxLen; omega
    case qc5 => omega
    case qc6 => simp
    intro v' w1 hown hgrow hnil
    have HO := Lib.hid hown
    have HA := Lib.hid (show Aft w w1 from ((Below.refl _ w).alloc (Nat.le_refl _) _).grown hgrow (by simp) (by intro k hk; simp [Value.ownBlock] at hk; omega))
    clear hown hgrow hnil
    go_wp2_with fail
    go_ret
    refine ⟨v', css, rfl, HA.out, ?_, H3.out⟩
    simpa using HO.out
end Go.Proofs.YtlklmekapbojdaaGreat

namespace Go.Proofs.YtlklmekapbojdaaGreat
open Go.RowKit
set_option maxRecDepth 100000
set_option linter.unusedVariables false
section
variable {w : World} {B B' g n c i : Nat} {hs : Hd} {L : Lay}
theorem Sh.ahead {A : Option Addr} (s : Sh w B B' hs ⟨A, n, c⟩ L) (hn : 0 < n) : ∃ g, A = some ⟨g, 0, none⟩ := by
  obtain ⟨g, hg, _⟩ := s.tab.2.1 hn; exact ⟨g, hg⟩
end
end Go.Proofs.YtlklmekapbojdaaGreat

namespace Go.Proofs.YtlklmekapbojdaaGreat
open Go.RowKit Go.Deep
set_option maxRecDepth 100000
set_option linter.unusedVariables false
theorem ObjP.aft {w w' w'' : World} {r : Objs × Int} {e : Ending} (h : ObjP w r e w') (a : Aft w' w'') : ObjP w r e w'' := by
  obtain ⟨hs, ht, L, hL, he, ha, ob⟩ := h
  exact ⟨hs, ht, L, hL, he, ha.trans a, ob.aft a⟩
theorem Kp.kb {B B' : Nat} {w w' : World} (h : Kp B B' w w') : Kb (fun k => B ≤ k ∧ k < B') w w' := ⟨h.os, h.tape, h.output, h.size, fun k hk hn => h.block k hk (by omega)⟩
end Go.Proofs.YtlklmekapbojdaaGreat

namespace Go.Proofs.YtlklmekapbojdaaGreat
open Go.RowKit Go.Deep Go.Sort
set_option maxRecDepth 100000
set_option linter.unusedVariables false
theorem checkO_rises {o : Objs} (h : checkO o = true) : risesB cmpTb o.tables = true ∧ risesB cmpSc o.schemas = true ∧ o.schemas.length ≤ 8 ∧ o.tables.length ≤ 64 := by
  unfold checkO headOk at h
  simp only [Bool.and_eq_true, decide_eq_true_eq] at h
  exact ⟨h.1.1.2, h.1.2, h.1.1.1.1, h.1.1.1.2⟩
end Go.Proofs.YtlklmekapbojdaaGreat

namespace Go.Proofs.YtlklmekapbojdaaGreat
set_option linter.unusedVariables false
theorem eqS_iff9 (a b : ByteArray) : eqS a b = true ↔ a = b := ⟨fun h => by
  have h1 : a.data.toList = b.data.toList := (cmpB_eq _ _).1 ((cmpS_eq a b).2 h)
  obtain ⟨a⟩ := a
  obtain ⟨b⟩ := b
  have h2 : a = b := Array.toList_inj.1 h1
  rw [h2], fun h => by rw [h]; exact eqS_refl b⟩
theorem cmpS_zero9 (a b : ByteArray) : cmpS a b = 0 ↔ a = b := (cmpS_eq a b).trans (eqS_iff9 a b)
theorem cmpTb_zero {x y : Tab} : cmpTb x y = 0 ↔ x.schema = y.schema ∧ x.name = y.name := by
  unfold cmpTb or2
  by_cases e1 : cmpS x.schema y.schema = 0
  · rw [if_pos (by simpa using e1), cmpS_zero9]
    exact ⟨fun h => ⟨(cmpS_zero9 _ _).1 e1, h⟩, fun h => h.2⟩
  · rw [if_neg (by simpa using e1)]
    exact ⟨fun h => absurd h e1, fun h => absurd ((cmpS_zero9 _ _).2 h.1) e1⟩
end Go.Proofs.YtlklmekapbojdaaGreat

namespace Go.Proofs.YtlklmekapbojdaaGreat
open Go.RowKit Go.Deep
set_option maxRecDepth 100000
set_option linter.unusedVariables false
theorem Kb.or {P Q : Nat → Prop} {w w' w'' : World} (h : Kb P w w') (h' : Kb Q w' w'') : Kb (fun g => P g ∨ Q g) w w'' := (h.mono fun _ _ => .inl).trans (h'.mono fun _ _ => .inr)
/-- where a table's rows lie that are not our own -/
def LieT (w : World) (x : OTab) : Prop := x.hc.n = x.cols.length ∧ x.hr.n = x.rules.length ∧ SlAt w 3 ColR x.hc.a x.hc.c x.cols ∧ SlAt w 8 RulR x.hr.a x.hr.c (x.rules.map (·.r)) ∧ Small x.schema.size ∧ Small x.name.size ∧ Small x.owner.size
theorem LieT.aft {w w' : World} {x : OTab} (h : LieT w x) (a : Aft w w') : LieT w' x := ⟨h.1, h.2.1, cols_aft a h.2.2.1, ruls_aft a h.2.2.2.1, h.2.2.2.2⟩
theorem LieT.tabR {w : World} {x : OTab} (h : LieT w x) : TabR w x.cells x.t :=
  ⟨x.hc.a, x.hc.c, x.hr.a, x.hr.c, by unfold OTab.cells Hd.v; rw [h.1, h.2.1]; simp [OTab.t], h.2.2.1, h.2.2.2.1, h.2.2.2.2⟩
theorem tabs_lie {w : World} {css : List (List Value)} {l : List Tab} (h : Chunks w 5 TabR css l) : ∃ L : List OTab, L.map OTab.t = l ∧ css = L.map OTab.cells ∧ ∀ x ∈ L, LieT w x := by
  have hex : ∀ i, i < l.length → ∃ x : OTab, ∀ (hi : i < l.length) (hc : i < css.length), x.t = l[i] ∧ css[i] = x.cells ∧ LieT w x := by
    intro i hi
    have hc : i < css.length := by rw [h.1]; exact hi
    obtain ⟨_, A, cap, A2, cap2, hcs, hs, hr, h1, h2, h3⟩ := h.2 i hc hi
    have e : (l[i].rules.map (fun r => (⟨r, ⟨none, 0, 0⟩⟩ : ORul))).map (·.r) = l[i].rules := by rw [List.map_map]; exact List.map_id _
    exact ⟨⟨l[i].schema, l[i].name, l[i].owner, l[i].cols, l[i].rules.map (fun r => ⟨r, ⟨none, 0, 0⟩⟩), ⟨A, l[i].cols.length, cap⟩, ⟨A2, l[i].rules.length, cap2⟩⟩, fun _ _ => ⟨by unfold OTab.t; rw [e], hcs, rfl, by simp, hs, by rw [e]; exact hr, h1, h2, h3⟩⟩
  obtain ⟨L, hL, hp⟩ := choose_list l.length _ hex
  refine ⟨L, ?_, ?_, ?_⟩
  · refine List.ext_getElem (by simp [hL]) fun i h1 h2 => ?_
    rw [List.getElem_map]
    exact (hp i (by simpa using h1) h2 (by rw [h.1]; exact h2)).1
  · refine List.ext_getElem (by simp [hL, h.1]) fun i h1 h2 => ?_
    rw [List.getElem_map]
    have hi : i < L.length := by simpa using h2
    exact (hp i hi (by omega) h1).2.1
  · intro x hx
    obtain ⟨i, hi, rfl⟩ := List.getElem_of_mem hx
    exact (hp i hi (by omega) (by rw [h.1]; omega)).2.2
theorem flat_tabs {css : List (List Value)} {L : List OTab} (h : css = L.map OTab.cells) : css.flatten = L.flatMap OTab.cells := by rw [h, ← List.flatMap_def]
/-- all five cells of the table k are written: the table is x then -/
theorem own_put5 {w : World} {B n gt ct k : Nat} {L : List OTab} (ho : w.ownsRow B 89 5 (.slice (some ⟨gt, 0, none⟩) n ct) n (L.flatMap OTab.cells)) (hk : k < L.length) (x : OTab) {v0 v1 v2 v3 v4 : Value} (hx : x.cells = [v0, v1, v2, v3, v4]) :
    (((((w.setCell ⟨gt, k * 5, none⟩ v0).setCell ⟨gt, k * 5 + 1, none⟩ v1).setCell ⟨gt, k * 5 + 2, none⟩ v2).setCell ⟨gt, k * 5 + 3, none⟩ v3).setCell ⟨gt, k * 5 + 4, none⟩ v4).ownsRow B 89 5 (.slice (some ⟨gt, 0, none⟩) n ct) n ((L.set k x).flatMap OTab.cells) := by
  unfold OTab.cells at hx
  simp only [List.cons.injEq, and_true] at hx
  obtain ⟨rfl, rfl, rfl, rfl, rfl⟩ := hx
  have hl : ∀ y : OTab, y.cells.length = 5 := fun _ => rfl
  have h0 := own_set ho (g := gt) rfl (k * 5 + 0) (.string x.schema)
  rw [flatMap_set (f := OTab.cells) hl L k 0 hk (by decide) _ { L[k] with schema := x.schema } rfl] at h0
  have h1 := own_set h0 (g := gt) rfl (k * 5 + 1) (.string x.name)
  rw [flatMap_set (f := OTab.cells) hl _ k 1 (by simpa using hk) (by decide) _ { L[k] with schema := x.schema, name := x.name } (by simp [OTab.cells]), List.set_set] at h1
  have h2 := own_set h1 (g := gt) rfl (k * 5 + 2) (.string x.owner)
  rw [flatMap_set (f := OTab.cells) hl _ k 2 (by simpa using hk) (by decide) _ { L[k] with schema := x.schema, name := x.name, owner := x.owner } (by simp [OTab.cells]), List.set_set] at h2
  have h3 := own_set h2 (g := gt) rfl (k * 5 + 3) x.hc.v
  rw [flatMap_set (f := OTab.cells) hl _ k 3 (by simpa using hk) (by decide) _ { L[k] with schema := x.schema, name := x.name, owner := x.owner, hc := x.hc } (by simp [OTab.cells]), List.set_set] at h3
  have h4 := own_set h3 (g := gt) rfl (k * 5 + 4) x.hr.v
  rw [flatMap_set (f := OTab.cells) hl _ k 4 (by simpa using hk) (by decide) _ x (by simp [OTab.cells]), List.set_set] at h4
  exact h4
theorem put5_kb (w : World) (g o : Nat) (v0 v1 v2 v3 v4 : Value) : Kb (fun k => k = g) w (((((w.setCell ⟨g, o, none⟩ v0).setCell ⟨g, o + 1, none⟩ v1).setCell ⟨g, o + 2, none⟩ v2).setCell ⟨g, o + 3, none⟩ v3).setCell ⟨g, o + 4, none⟩ v4) :=
  ((((Kb.set _ _ _ _).trans (Kb.set _ _ _ _)).trans (Kb.set _ _ _ _)).trans (Kb.set _ _ _ _)).trans (Kb.set _ _ _ _)
theorem tabAt_own {o : Objs} (h : checkO o = true) {k : Nat} (hk : k < o.tables.length) : tabAt o.tables o.tables[k].schema o.tables[k].name = k := by
  refine idxP_some _ _ k hk (by simp only [Bool.and_eq_true]; exact ⟨(eqS_txt _ _).2 rfl, (eqS_txt _ _).2 rfl⟩) fun i hi => ?_
  rw [Bool.eq_false_iff]
  intro e
  simp only [Bool.and_eq_true] at e
  have h1 := rises_lt preTb.tr (checkO_rises h).1 i k (by omega) hk hi
  have h2 : cmpTb (o.tables[i]'(by omega)) o.tables[k] = 0 := cmpTb_zero.2 ⟨(eqS_iff _ _).1 e.1, (eqS_iff _ _).1 e.2⟩
  omega
/-- the loop of grants.own: the first k tables are our own, the others lie where they lay -/
structure OwnT (w wr : World) (B X : Nat) (A : Option Addr) (ct : Nat) (c : Cat) (L : List OTab) (k : Nat) : Prop where
  aft : Aft w wr
  row : wr.ownsRow B 89 5 (.slice A c.objs.tables.length ct) c.objs.tables.length (L.flatMap OTab.cells)
  is : L.map OTab.t = c.objs.tables
  own : ∀ j (h : j < L.length), j < k → TabIn wr X L[j]
  raw : ∀ j (h : j < L.length), k ≤ j → LieT w L[j]
  nd : ((L.take k).flatMap OTab.blks).Nodup
  lo : ∀ g, A = some ⟨g, 0, none⟩ → g < X
  szX : X ≤ wr.heap.size
theorem OwnT.len {w wr : World} {B X ct : Nat} {A : Option Addr} {c : Cat} {L : List OTab} {k : Nat} (h : OwnT w wr B X A ct c L k) : L.length = c.objs.tables.length := by rw [← h.is, List.length_map]
theorem OwnT.tabs {w wr : World} {B X ct : Nat} {A : Option Addr} {c : Cat} {L : List OTab} {k : Nat} (h : OwnT w wr B X A ct c L k) (sm : Small (c.objs.tables.length * 16) ∧ ∀ t ∈ c.objs.tables, SmT t) : SlAt wr 5 TabR A ct c.objs.tables := by
  have := own_slo (h := ⟨A, L.length, ct⟩) (B := B) (R := TabR) OTab.cells OTab.t (by have := h.row; rw [← h.len] at this; exact this) (fun x hx => ⟨rfl, by
    obtain ⟨i, hi, rfl⟩ := List.getElem_of_mem hx
    by_cases hk : i < k
    · exact (h.own i hi hk).tabR (sm.2 _ (by rw [← h.is]; exact List.mem_map_of_mem hx))
    · exact ((h.raw i hi (by omega)).aft h.aft).tabR⟩) (by rw [h.len]; exact sm.1)
  rw [h.is] at this
  exact this
theorem OwnT.step {w wr w4 : World} {B X gt ct k b4 : Nat} {c : Cat} {L : List OTab} {x : OTab} (h : OwnT w wr B X (some ⟨gt, 0, none⟩) ct c L k) (hk : k < c.objs.tables.length) (a4 : Aft wr w4) (tin : TabIn w4 wr.heap.size x) (xnd : x.blks.Nodup) (hx : x.t = c.objs.tables[k]) (hB : w.heap.size ≤ B) {v0 v1 v2 v3 v4 : Value} (hv : x.cells = [v0, v1, v2, v3, v4]) {w5 : World} (kb : Kb (fun g => g = b4) w4 w5) (hb4 : wr.heap.size ≤ b4) (hb5 : b4 ∉ x.blks) :
    OwnT w (((((w5.setCell ⟨gt, k * 5, none⟩ v0).setCell ⟨gt, k * 5 + 1, none⟩ v1).setCell ⟨gt, k * 5 + 2, none⟩ v2).setCell ⟨gt, k * 5 + 3, none⟩ v3).setCell ⟨gt, k * 5 + 4, none⟩ v4) B X (some ⟨gt, 0, none⟩) ct c (L.set k x) (k + 1) := by
  have hl := h.len
  have hszX := h.szX
  have hlo := h.lo gt rfl
  have hgB : B ≤ gt := (h.row.lt gt rfl).1
  have k2 := put5_kb w5 gt (k * 5) v0 v1 v2 v3 v4
  have s4 := a4.size
  have hrow : w5.ownsRow B 89 5 (.slice (some ⟨gt, 0, none⟩) c.objs.tables.length ct) c.objs.tables.length (L.flatMap OTab.cells) := own_kb (own_aft h.row a4) kb (fun g hg e => by
    have : gt = g := by simpa [Value.ownBlock] using hg
    have e : g = b4 := e
    omega)
  have hlt : ∀ g ∈ (L.take k).flatMap OTab.blks, X ≤ g ∧ g < wr.heap.size := fun g hg => by
    obtain ⟨y, hy, hgy⟩ := List.mem_flatMap.1 hg
    obtain ⟨i, hi, rfl⟩ := List.getElem_of_mem hy
    rw [List.length_take] at hi
    rw [List.getElem_take] at hgy
    exact (h.own i (by omega) (by omega)).lt g hgy
  refine ⟨k2.to_aft (kb.to_aft (h.aft.trans a4) (fun g hg e => by have e : g = b4 := e; have := h.aft.size; omega)) (fun g hg e => by have e : g = gt := e; omega), own_put5 hrow (by omega) x hv, ?_, ?_, ?_, ?_, h.lo, ?_⟩
  · rw [List.map_set, h.is, hx]
    exact List.set_getElem_self hk
  · intro j hj hjk
    rw [List.length_set] at hj
    by_cases e : j = k
    · subst e
      rw [List.getElem_set_self]
      refine ((tin.kb kb (fun g hg e => by have e : g = b4 := e; exact hb5 (e ▸ hg))).kb k2 (fun g hg e => by have e : g = gt := e; have := (tin.lt g hg).1; omega)).down hszX
    · rw [List.getElem_set_ne (by omega)]
      have hj' := h.own j hj (by omega)
      exact ((hj'.aft a4).kb kb (fun g hg e => by have e : g = b4 := e; have := (hj'.lt g hg).2; omega)).kb k2 (fun g hg e => by have e : g = gt := e; have := (hj'.lt g hg).1; omega)
  · intro j hj hjk
    rw [List.length_set] at hj
    rw [List.getElem_set_ne (by omega)]
    exact h.raw j hj (by omega)
  · have e : (L.set k x).take (k + 1) = L.take k ++ [x] := by
      rw [List.take_succ_eq_append_getElem (by rw [List.length_set]; omega), List.getElem_set_self, List.take_set_of_le (Nat.le_refl _)]
    rw [e, List.flatMap_append]
    exact nodup_more h.nd (by simpa using xnd) (fun g hg => (hlt g hg).2) (fun g hg => (tin.lt g (by simpa using hg)).1)
  · have := kb.size
    have := k2.size
    omega
end Go.Proofs.YtlklmekapbojdaaGreat

namespace Go.Proofs.YtlklmekapbojdaaGreat
open Go.RowKit Go.Deep
set_option maxRecDepth 100000
set_option linter.unusedVariables false
theorem findO {o : Objs} {As : Option Addr} {caps : Nat} {At : Option Addr} {capt : Nat} {w : World} {k : Nat} {s n : ByteArray} (hck : checkO o = true) (hk : k < o.tables.length) (hs : s = o.tables[k].schema) (hn : n = o.tables[k].name) (hsch : SlAt w 2 SchR As caps o.schemas) (htab : SlAt w 5 TabR At capt o.tables) :
    Calls Tryz.prog 47 #[.agg #[.slice As o.schemas.length caps, .slice At o.tables.length capt], .string s, .string n] w fun e w' => ∃ x : OTab, x.t = o.tables[k] ∧ e = .returned (.tuple #[.agg #[.string x.schema, .string x.name, .string x.owner, .slice x.hc.a x.hc.n x.hc.c, .slice x.hr.a x.hr.n x.hr.c], .int .i64 0]) ∧ Aft w w' ∧ TabIn w' w.heap.size x ∧ x.blks.Nodup := by
  subst hs hn
  refine (find_in o As caps At capt _ _ w hsch htab).mono ?_
  rintro e w' ⟨x, hx, rfl, a, tin, nd⟩
  rw [findR_some hck (tabAt_own hck hk) hk] at hx ⊢
  have hx : x.t = o.tables[k] := hx
  refine ⟨x, hx, ?_, a, tin, nd⟩
  show Ending.returned (.tuple #[.agg #[.string o.tables[k].schema, .string o.tables[k].name, .string o.tables[k].owner, .slice x.hc.a o.tables[k].cols.length x.hc.c, .slice x.hr.a o.tables[k].rules.length x.hr.c], .int .i64 0]) = _
  rw [← hx, own_n tin.col, own_n tin.rul]
  simp [OTab.t]
set_option maxHeartbeats 16000000 in
theorem ownG (c : Cat) (As : Option Addr) (caps : Nat) (At : Option Addr) (capt : Nat) (An : Option Addr) (capn : Nat) (Am : Option Addr) (capm : Nat) (Ag : Option Addr) (capg : Nat) (w : World) (H : CatAt w c As caps At capt An capn Am capm Ag capg) (hck : checkO c.objs = true) (hln : c.rols.names.length ≤ 1000000) (hlm : c.rols.members.length ≤ 1000000) (hlg : c.grants.length ≤ 1000000) :
    Calls Tryz.prog 87 #[.agg #[.int .i64 c.epoch, .int .i64 c.version, .slice As c.objs.schemas.length caps, .slice At c.objs.tables.length capt, .slice An c.rols.names.length capn, .slice Am c.rols.members.length capm, .slice Ag c.grants.length capg]] w (OwnP9 c w) := by
  have l1 : w.heap.size < w.heap.size + 1 := by omega
  have l2 : w.heap.size < w.heap.size + 1 + 1 := by omega
  obtain ⟨W, hW⟩ : ∃ W, W = (w.alloc (.cells #[.int .i64 c.epoch, .int .i64 c.version, .slice As c.objs.schemas.length caps, .slice At c.objs.tables.length capt, .slice An c.rols.names.length capn, .slice Am c.rols.members.length capm, .slice Ag c.grants.length capg] 66)).alloc (.cells #[.int .i64 0, .int .i64 0, .slice none 0 0, .slice none 0 0, .slice none 0 0, .slice none 0 0, .slice none 0 0] 66) := ⟨_, rfl⟩
  have aW : Aft w W := by rw [hW]; exact ((Aft.refl w).alloc _).alloc _
  have r0 : RowAt W (w.heap.size) [.int .i64 c.epoch, .int .i64 c.version, .slice As c.objs.schemas.length caps, .slice At c.objs.tables.length capt, .slice An c.rols.names.length capn, .slice Am c.rols.members.length capm, .slice Ag c.grants.length capg] := by rw [hW]; exact RowAt.up (box_at (Aft.refl _) (by simp))
  have r1 : RowAt W (w.heap.size + 1) [.int .i64 0, .int .i64 0, .slice none 0 0, .slice none 0 0, .slice none 0 0, .slice none 0 0, .slice none 0 0] := by rw [hW]; exact box_at (Aft.refl _) (by simp)
  have zW : W.heap.size = w.heap.size + 2 := by rw [hW]; simp
  have HR := Lib.hid (And.intro r0 r1)
  have HAW := Lib.hid aW
  have HZW := Lib.hid zW
  have HH := Lib.hid H
  have HSM := Lib.hid H.sm
  have HCK := Lib.hid hck
  have hlt := H.tab.len
  have hmod := check_mod hck
  have C1 := Lib.hid (clone2Sch As caps c.objs.schemas W W (Aft.refl _) (schs_aft aW H.sch) hmod.1)
  have HML := Lib.hid hmod.2.1
  have x2 := r0.cell (j := 2) rfl
  have f2 := r0.2.2 2 (by simp)
  have xz := r0.1
  clear H r0 r1 aW hmod hck
  go_enter Tryz.func87, Tryz.ntmps87
  go_wp2_with fail
  rw [← hW]
  go_wp2_with fail
  clear x2 xz f2
  refine C1.out.mono ?_
  rintro e w1 ⟨v1, css1, rfl, a1, own1, ch1⟩
  obtain ⟨Bs, bcs, rfl⟩ := own_lit own1
  rw [flat_schs ch1] at own1
  have p0 := HR.out.1.aft a1
  have p1 := HR.out.2.aft a1
  have xz := p0.1
  have x2 := p0.cell (j := 2) rfl
  have f2 := p0.2.2 2 (by simp)
  obtain ⟨X, hX⟩ : ∃ V, V = w1.setCell ⟨w.heap.size, 2, none⟩ (.slice Bs c.objs.schemas.length bcs) := ⟨_, rfl⟩
  have kX : Kb (fun g => g = w.heap.size) w1 X := by rw [hX]; exact Kb.set _ _ _ _
  have zX : X.heap.size = w1.heap.size := by rw [hX]; simp
  have RX := Lib.hid (show RowAt X (w.heap.size) [.int .i64 c.epoch, .int .i64 c.version, .slice Bs c.objs.schemas.length bcs, .slice At c.objs.tables.length capt, .slice An c.rols.names.length capn, .slice Am c.rols.members.length capm, .slice Ag c.grants.length capg] by rw [hX]; exact p0.set 2 _ (by simp))
  have RY := Lib.hid (kX.row p1 (by omega))
  have HAX := Lib.hid (kX.to_aft (HAW.out.trans a1) (fun g hg e => by omega))
  have OS := Lib.hid (show X.ownsRow W.heap.size 101 2 (Hd.mk Bs c.objs.schemas.length bcs).v c.objs.schemas.length (c.objs.schemas.flatMap schC) from own_kb own1 kX (fun g hg e => by have := (own1.lt g hg).1; have := HZW.out; have e : g = w.heap.size := e; omega))
  have SZ1 := Lib.hid (show W.heap.size ≤ X.heap.size by rw [zX]; exact a1.size)
  have C2 := Lib.hid (clone2TabK At capt c.objs.tables w X HAX.out HH.out.tab HML.out)
  have y3 := RX.out.cell (j := 3) rfl
  have yz := RX.out.1
  rw [hX] at y3 yz
  clear a1 own1 ch1 p0 p1 kX zX C1
  go_wp2_with fail
  rw [← hX]
  clear hX x2 f2 xz y3 yz
  refine C2.out.mono ?_
  rintro e w2 ⟨v2, css2, rfl, a2, own2, ch2⟩
  obtain ⟨Bt, bct, rfl⟩ := own_lit own2
  obtain ⟨L0, hL0, hcs0, hlie0⟩ := tabs_lie ch2
  rw [flat_tabs hcs0] at own2
  have p0 := RX.out.aft a2
  have p1 := RY.out.aft a2
  have xz := p0.1
  have x3 := p0.cell (j := 3) rfl
  have f3 := p0.2.2 3 (by simp)
  obtain ⟨Y, hY⟩ : ∃ V, V = w2.setCell ⟨w.heap.size, 3, none⟩ (.slice Bt c.objs.tables.length bct) := ⟨_, rfl⟩
  have kY : Kb (fun g => g = w.heap.size) w2 Y := by rw [hY]; exact Kb.set _ _ _ _
  have zY : Y.heap.size = w2.heap.size := by rw [hY]; simp
  have sX2 := a2.size
  have QX := Lib.hid (show RowAt Y (w.heap.size) [.int .i64 c.epoch, .int .i64 c.version, .slice Bs c.objs.schemas.length bcs, .slice Bt c.objs.tables.length bct, .slice An c.rols.names.length capn, .slice Am c.rols.members.length capm, .slice Ag c.grants.length capg] by rw [hY]; exact p0.set 3 _ (by simp))
  have QY := Lib.hid (kY.row p1 (by omega))
  have HAY := Lib.hid (kY.to_aft (HAX.out.trans a2) (fun g hg e => by omega))
  have OT := Lib.hid (show Y.ownsRow X.heap.size 89 5 (.slice Bt c.objs.tables.length bct) c.objs.tables.length (L0.flatMap OTab.cells) from own_kb own2 kY (fun g hg e => by have := (own2.lt g hg).1; have := HZW.out; have := SZ1.out; have e : g = w.heap.size := e; omega))
  have OSY := Lib.hid (own_kb (own_aft OS.out a2) kY (fun g hg e => by have := (OS.out.lt g hg).1; have := HZW.out; have e : g = w.heap.size := e; omega))
  have SZ2 := Lib.hid (show X.heap.size ≤ Y.heap.size by rw [zY]; exact a2.size)
  have HLIE := Lib.hid (show ∀ x ∈ L0, LieT w x from hlie0)
  have BTL := Lib.hid (show ∀ g, Bt = some ⟨g, 0, none⟩ → g < Y.heap.size from fun g hg => by rw [zY]; exact (own2.lt g (by rw [hg]; rfl)).2)
  have HL0 := Lib.hid hL0
  have y3 := QX.out.cell (j := 3) rfl
  have yz := QX.out.1
  rw [hY] at y3 yz
  clear a2 own2 ch2 p0 p1 kY zY hL0 hcs0 hlie0 C2 sX2
  go_wp2_with fail
  rw [← hY]
  have LOOP := Lib.hid (show OwnT w Y X.heap.size Y.heap.size Bt bct c L0 0 from ⟨HAY.out, OT.out, HL0.out, fun j _ h => absurd h (Nat.not_lt_zero j), fun j h _ => HLIE.out _ (List.getElem_mem h), by simp, BTL.out, Nat.le_refl _⟩)
  clear y3 yz hY
  go_loopw [21] (fun i wr => ∃ (k : Nat) (L : List OTab), k ≤ c.objs.tables.length ∧ i = .int .i64 k ∧ OwnT w wr X.heap.size Y.heap.size Bt bct c L k ∧ RowAt wr (w.heap.size) [.int .i64 c.epoch, .int .i64 c.version, .slice Bs c.objs.schemas.length bcs, .slice Bt c.objs.tables.length bct, .slice An c.rols.names.length capn, .slice Am c.rols.members.length capm, .slice Ag c.grants.length capg] ∧ RowAt wr (w.heap.size + 1) [.int .i64 0, .int .i64 0, .slice none 0 0, .slice none 0 0, .slice none 0 0, .slice none 0 0, .slice none 0 0] ∧ wr.ownsRow W.heap.size 101 2 (Hd.mk Bs c.objs.schemas.length bcs).v c.objs.schemas.length (c.objs.schemas.flatMap schC)) (fun i _ => c.objs.tables.length - (intOf i).toNat)
  case atStart => exact ⟨0, L0, Nat.zero_le _, rfl, LOOP.out, QX.out, QY.out, OSY.out⟩
  case round =>
    obtain ⟨k, L, hk, rfl, hs, hb0, hb1, hsch⟩ := hrel
    have HS := Lib.hid hs
    have HB0 := Lib.hid hb0
    have HB1 := Lib.hid hb1
    have HSC := Lib.hid hsch
    clear hs hb0 hb1 hsch
    by_cases hlt2 : k < c.objs.tables.length
    · obtain ⟨gt, ct', hv, hgB, hnc, hrw⟩ := own_rowAt HS.out.row (by omega)
      simp only [Value.slice.injEq, true_and] at hv
      obtain ⟨rfl, rfl⟩ := hv
      have hkL : k < L.length := by rw [HS.out.len]; exact hlt2
      have hrow := HS.out.row
      obtain ⟨y, hy⟩ : ∃ y, L[k] = y := ⟨_, rfl⟩
      have hcell : ∀ j, j < 5 → wr.cell? ⟨gt, k * 5 + j, none⟩ = y.cells[j]? := fun j hj => by
        have := own_cell (f := OTab.cells) (h := ⟨some ⟨gt, 0, none⟩, L.length, bct⟩) (by have := hrow; rw [← HS.out.len] at this; exact this) (fun _ => rfl) rfl hkL hj
        rw [hy] at this; exact this
      have g0 : wr.cell? ⟨gt, k * 5, none⟩ = some (.string y.schema) := hcell 0 (by decide)
      have g1 : wr.cell? ⟨gt, k * 5 + 1, none⟩ = some (.string y.name) := hcell 1 (by decide)
      have g2 : wr.cell? ⟨gt, k * 5 + 2, none⟩ = some (.string y.owner) := hcell 2 (by decide)
      have g3 : wr.cell? ⟨gt, k * 5 + 3, none⟩ = some (.slice y.hc.a y.hc.n y.hc.c) := hcell 3 (by decide)
      have g4 : wr.cell? ⟨gt, k * 5 + 4, none⟩ = some (.slice y.hr.a y.hr.n y.hr.c) := hcell 4 (by decide)
      have gz := hrw.1
      have hyt : y.t = c.objs.tables[k] := by
        have e := HS.out.is
        have : (L.map OTab.t)[k]? = c.objs.tables[k]? := by rw [e]
        rw [List.getElem?_map, List.getElem?_eq_getElem hkL, List.getElem?_eq_getElem hlt2, hy] at this
        simpa using this
      have hfl : (L.flatMap OTab.cells).length = L.length * 5 := flatMap_len (f := OTab.cells) (size := 5) (fun _ => rfl) L
      have hfr : ∀ j, j < 5 → wr.frozen? ⟨gt, k * 5 + j, none⟩ = false := fun j hj => hrw.2.2 _ (by rw [hfl]; omega)
      obtain ⟨V, hV⟩ : ∃ V, V = wr.alloc (.cells #[.string y.schema, .string y.name, .string y.owner, .slice y.hc.a y.hc.n y.hc.c, .slice y.hr.a y.hr.n y.hr.c] 89) := ⟨_, rfl⟩
      have aV : Aft wr V := by rw [hV]; exact (Aft.refl _).alloc _
      have zV : V.heap.size = wr.heap.size + 1 := by rw [hV]; simp
      have RV := Lib.hid (show RowAt V wr.heap.size [.string y.schema, .string y.name, .string y.owner, .slice y.hc.a y.hc.n y.hc.c, .slice y.hr.a y.hr.n y.hr.c] by rw [hV]; exact box_row2 (Aft.refl _))
      have CF := Lib.hid (findO (s := y.schema) (n := y.name) HCK.out hlt2 (by rw [← hyt]; rfl) (by rw [← hyt]; rfl) (schs_aft aV (own_slf (h := ⟨Bs, c.objs.schemas.length, bcs⟩) schC HSC.out (fun s hm => ⟨rfl, rfl, HSM.out.1.1.2 s hm⟩) HSM.out.1.1.1)) (tabs_aft aV (HS.out.tabs HSM.out.1.2)))
      have HAV := Lib.hid aV
      have HZV := Lib.hid zV
      have HFZ := Lib.hid hfr
      have s0 := RV.out.cell (j := 0) rfl
      have s1 := RV.out.cell (j := 1) rfl
      have sz := RV.out.1
      have b0 := HB0.out.aft aV
      have t2 := b0.cell (j := 2) rfl
      have t3 := b0.cell (j := 3) rfl
      have tz := b0.1
      rw [hV] at s0 s1 sz t2 t3 tz
      clear hcell hrow hyt hfr aV zV b0 hy
      go_wp2_with fail
      rw [← hV]
      clear hV s0 s1 sz t2 t3 tz
      refine CF.out.mono ?_
      rintro e w4 ⟨x, hx, rfl, a4, tin, xnd⟩
      have HX := Lib.hid (And.intro hx xnd)
      have HTI := Lib.hid tin
      have HA4 := Lib.hid a4
      have q := RV.out.aft a4
      have v0 := q.cell (j := 0) rfl
      have v1 := q.cell (j := 1) rfl
      have v2 := q.cell (j := 2) rfl
      have v3 := q.cell (j := 3) rfl
      have v4 := q.cell (j := 4) rfl
      have f0 := q.2.2 0 (by simp)
      have f1 := q.2.2 1 (by simp)
      have f2 := q.2.2 2 (by simp)
      have f3 := q.2.2 3 (by simp)
      have f4 := q.2.2 4 (by simp)
      have vz := q.1
      have av4 := HAV.out.trans a4
      have b0 := HB0.out.aft av4
      obtain ⟨Z, hZ⟩ : ∃ Z, Z = ((((w4.setCell ⟨wr.heap.size, 0, none⟩ (.string x.schema)).setCell ⟨wr.heap.size, 1, none⟩ (.string x.name)).setCell ⟨wr.heap.size, 2, none⟩ (.string x.owner)).setCell ⟨wr.heap.size, 3, none⟩ (.slice x.hc.a x.hc.n x.hc.c)).setCell ⟨wr.heap.size, 4, none⟩ (.slice x.hr.a x.hr.n x.hr.c) := ⟨_, rfl⟩
      have kZ : Kb (fun g => g = wr.heap.size) w4 Z := by rw [hZ]; exact put5_kb w4 wr.heap.size 0 _ _ _ _ _
      have rz := kZ.row b0 (by have := HB0.out.1; omega)
      have rz1 := kZ.row (HB1.out.aft av4) (by have := HB1.out.1; omega)
      have rg := kZ.row (hrw.aft av4) (by omega)
      have ry : RowAt Z wr.heap.size [.string x.schema, .string x.name, .string x.owner, .slice x.hc.a x.hc.n x.hc.c, .slice x.hr.a x.hr.n x.hr.c] := by rw [hZ]; exact setT_row q rfl _ _ _ _ _
      have RZ := Lib.hid (And.intro rz rz1)
      have RG := Lib.hid rg
      have KZ := Lib.hid kZ
      have t3 := rz.cell (j := 3) rfl
      have tz := rz.1
      obtain ⟨y0, y1, y2, y3, y4, yz⟩ := rowF5 ry
      have m0 : ∃ u, Z.cell? ⟨gt, k * 5, none⟩ = some u := ⟨_, by rw [rg.2.1 _ (by rw [hfl]; omega), List.getElem?_eq_getElem (by rw [hfl]; omega)]⟩
      obtain ⟨u0, m0⟩ := m0
      have n0 : Z.frozen? ⟨gt, k * 5, none⟩ = false := rg.2.2 _ (by rw [hfl]; omega)
      have m1 : ∃ u, Z.cell? ⟨gt, k * 5 + 1, none⟩ = some u := ⟨_, by rw [rg.2.1 _ (by rw [hfl]; omega), List.getElem?_eq_getElem (by rw [hfl]; omega)]⟩
      obtain ⟨u1, m1⟩ := m1
      have n1 : Z.frozen? ⟨gt, k * 5 + 1, none⟩ = false := rg.2.2 _ (by rw [hfl]; omega)
      have m2 : ∃ u, Z.cell? ⟨gt, k * 5 + 2, none⟩ = some u := ⟨_, by rw [rg.2.1 _ (by rw [hfl]; omega), List.getElem?_eq_getElem (by rw [hfl]; omega)]⟩
      obtain ⟨u2, m2⟩ := m2
      have n2 : Z.frozen? ⟨gt, k * 5 + 2, none⟩ = false := rg.2.2 _ (by rw [hfl]; omega)
      have m3 : ∃ u, Z.cell? ⟨gt, k * 5 + 3, none⟩ = some u := ⟨_, by rw [rg.2.1 _ (by rw [hfl]; omega), List.getElem?_eq_getElem (by rw [hfl]; omega)]⟩
      obtain ⟨u3, m3⟩ := m3
      have n3 : Z.frozen? ⟨gt, k * 5 + 3, none⟩ = false := rg.2.2 _ (by rw [hfl]; omega)
      have m4 : ∃ u, Z.cell? ⟨gt, k * 5 + 4, none⟩ = some u := ⟨_, by rw [rg.2.1 _ (by rw [hfl]; omega), List.getElem?_eq_getElem (by rw [hfl]; omega)]⟩
      obtain ⟨u4, m4⟩ := m4
      have n4 : Z.frozen? ⟨gt, k * 5 + 4, none⟩ = false := rg.2.2 _ (by rw [hfl]; omega)
      have gz' := rg.1
      rw [hZ] at t3 tz y0 y1 y2 y3 y4 yz m0 m1 m2 m3 m4 n0 n1 n2 n3 n4 gz'
      clear rz rz1 rg ry kZ
      clear hx tin xnd a4 q av4 b0 g0 g1 g2 g3 g4 hrw hfl
      go_wp2_with fail
      rw [← hZ]
      clear hZ t3 tz y0 y1 y2 y3 y4 yz m0 m1 m2 m3 m4 n0 n1 n2 n3 n4 gz' v0 v1 v2 v3 v4 f0 f1 f2 f3 f4 vz
      have tin := HTI.out
      have hzv := HZV.out
      have k2 := put5_kb Z gt (k * 5) (.string x.schema) (.string x.name) (.string x.owner) (.slice x.hc.a x.hc.n x.hc.c) (.slice x.hr.a x.hr.n x.hr.c)
      have hXw : w.heap.size ≤ X.heap.size := HAX.out.size
      have hgw : w.heap.size + 1 < X.heap.size := by have := RY.out.1; omega
      have hREL := HS.out.step (x := x) (b4 := wr.heap.size) hlt2 (HAV.out.trans HA4.out) (tin.down (by omega)) HX.out.2 HX.out.1 hXw rfl KZ.out (Nat.le_refl _) (fun h => by have := (tin.lt _ h).1; omega)
      have hA := k2.row RZ.out.1 (by omega)
      have hB := k2.row RZ.out.2 (by omega)
      have hS := own_kb (own_kb (own_aft HSC.out (HAV.out.trans HA4.out)) KZ.out (fun g hg e => by have := (HSC.out.lt g hg).2; have e : g = wr.heap.size := e; omega)) k2 (fun g hg e => by have := (OS.out.lt g hg).2; have e : g = gt := e; omega)
      go_roundw
      case rel => exact ⟨k + 1, L.set k x, by omega, by go_num, hREL, hA, hB, hS⟩
      case measure => simp [intOf]; omega
    · have hkn : k = c.objs.tables.length := by omega
      have p0 := HB0.out
      have t4 := p0.cell (j := 4) rfl
      have t5 := p0.cell (j := 5) rfl
      have f4 := p0.2.2 4 (by simp)
      have f5 := p0.2.2 5 (by simp)
      have tz := p0.1
      have D1 := Lib.hid (fun w' (a : Aft wr w') => clone2Str An capn c.rols.names w' w' (Aft.refl _) (strs_aft (HS.out.aft.trans a) HH.out.nam) hln)
      have D2 := Lib.hid (fun w' (a : Aft wr w') => clone2Mem Am capm c.rols.members w' w' (Aft.refl _) (mbrs_aft (HS.out.aft.trans a) HH.out.mem) hlm)
      have KF := Lib.hid (show ∀ w', Aft wr w' → (w'.cell? ⟨w.heap.size, 4, none⟩ = some (.slice An c.rols.names.length capn) ∧ w'.cell? ⟨w.heap.size, 5, none⟩ = some (.slice Am c.rols.members.length capm) ∧ w'.frozen? ⟨w.heap.size, 4, none⟩ = false ∧ w'.frozen? ⟨w.heap.size, 5, none⟩ = false ∧ w.heap.size < w'.heap.size) from fun w' a => ⟨a.cell_kept t4, a.cell_kept t5, (p0.aft a).2.2 4 (by simp), (p0.aft a).2.2 5 (by simp), (p0.aft a).1⟩)
      have haw := HS.out.aft
      clear p0
      go_wp2_with fail
      go_region_law (first
        | (go_simp; go_at_call 143; (first | refine (D1.out _ ((Aft.refl wr).drew)).mono ?_ | refine (D1.out _ (Aft.refl wr)).mono ?_); rintro e w4 ⟨v4, css4, rfl, a4, o4, h4⟩; have q4 : Aft wr w4 := (by first | exact (Aft.refl wr).drew.trans a4 | exact a4); obtain ⟨k4, k5, k6, k7, k8⟩ := KF.out w4 q4; rw [flat_names h4] at o4; clear h4; obtain ⟨A4, c4, hv4⟩ := own_lit o4; subst hv4)
        | (go_simp; go_at_call 154; refine (D2.out _ q4).mono ?_; rintro e w5 ⟨v5, css5, rfl, a5, o5, h5⟩; have q5 : Aft wr w5 := q4.trans a5; obtain ⟨k4', k5', k6', k7', k8'⟩ := KF.out w5 q5; rw [flat_mbrs h5] at o5; clear h5; obtain ⟨A5, c5, hv5⟩ := own_lit o5; subst hv5))
      all_goals
        have s4 := q4.size
        have s5 := a5.size
        obtain ⟨Z, hZ⟩ : ∃ Z, Z = (w5.setCell ⟨w.heap.size, 4, none⟩ (.slice A4 c.rols.names.length c4)).setCell ⟨w.heap.size, 5, none⟩ (.slice A5 c.rols.members.length c5) := ⟨_, rfl⟩
        have kZ : Kb (fun g => g = w.heap.size) w5 Z := by rw [hZ]; exact (Kb.set _ _ _ _).trans (Kb.set _ _ _ _)
        have zZ : Z.heap.size = w5.heap.size := by rw [hZ]; simp
        have hwx : w.heap.size ≤ X.heap.size := HAX.out.size
        have hwX : w.heap.size + 1 < X.heap.size := RY.out.1
        have hwr : Y.heap.size ≤ wr.heap.size := HS.out.szX
        have hxy := SZ2.out
        have hwX2 : X.heap.size ≤ wr.heap.size := by omega
        have RZ := Lib.hid (show RowAt Z (w.heap.size) [.int .i64 c.epoch, .int .i64 c.version, .slice Bs c.objs.schemas.length bcs, .slice Bt c.objs.tables.length bct, .slice A4 c.rols.names.length c4, .slice A5 c.rols.members.length c5, .slice Ag c.grants.length capg] by rw [hZ]; exact ((HB0.out.aft q5).set 4 _ (by simp)).set 5 _ (by simp))
        have RZ1 := Lib.hid (kZ.row (HB1.out.aft q5) (by omega))
        have HAZ := Lib.hid (kZ.to_aft (HS.out.aft.trans q5) (fun g hg e => by have e : g = _ := e; omega))
        have NL := Lib.hid (show ∀ g, (Hd.mk A4 c.rols.names.length c4).v.ownBlock = some g → wr.heap.size ≤ g ∧ g < w4.heap.size from fun g hg => by have := o4.lt g hg; (try simp at this); omega)
        have ML := Lib.hid (show ∀ g, (Hd.mk A5 c.rols.members.length c5).v.ownBlock = some g → w4.heap.size ≤ g ∧ g < w5.heap.size from fun g hg => by have := o5.lt g hg; (try simp at this); omega)
        have ON := Lib.hid (show Z.ownsRow wr.heap.size 9 1 (Hd.mk A4 c.rols.names.length c4).v c.rols.names.length (c.rols.names.flatMap nameC) from own_base (own_kb (own_aft o4 a5) kZ (fun g hg e => by have := (NL.out g hg).1; have e : g = _ := e; omega)) (fun g hg => (NL.out g hg).1))
        have OM := Lib.hid (show Z.ownsRow w4.heap.size 176 2 (Hd.mk A5 c.rols.members.length c5).v c.rols.members.length (c.rols.members.flatMap mbrC) from own_base (own_kb o5 kZ (fun g hg e => by have := (ML.out g hg).1; have e : g = _ := e; omega)) (fun g hg => (ML.out g hg).1))
        have KZ := Lib.hid (show Kb (fun g => g = w.heap.size) wr Z from (Kb.of_aft q5).trans kZ)
        have SZZ := Lib.hid (show wr.heap.size ≤ w4.heap.size ∧ w4.heap.size ≤ w5.heap.size ∧ Z.heap.size = w5.heap.size ∧ X.heap.size ≤ wr.heap.size ∧ w.heap.size + 1 < X.heap.size ∧ W.heap.size ≤ X.heap.size from ⟨s4, s5, zZ, hwX2, hwX, SZ1.out⟩)
        have CG := Lib.hid (clone2GraK Ag capg c.grants Z Z (Aft.refl _) (gras_aft HAZ.out HH.out.gra) hlg)
        have y6 := RZ.out.cell (j := 6) rfl
        have yz := RZ.out.1
        rw [hZ] at y6 yz
        clear q4 q5 a4 a5 o4 o5 s4 s5 kZ zZ hwx hwX hwr hxy hwX2 k4 k5 k6 k7 k8 k4' k5' k6' k7' k8' t4 t5 f4 f5 tz D1 D2 KF haw
        go_wp2_with fail
        rw [← hZ]
        clear hZ y6 yz
        refine CG.out.mono ?_
        rintro e w6 ⟨v6, css6, rfl, a6, own6, ch6⟩
        obtain ⟨Ad, cd, rfl⟩ := own_lit own6
        rw [chunks_flat (f := graC) (fun _ _ h => h.1) ch6] at own6
        have HO6 := Lib.hid own6
        have HA6 := Lib.hid a6
        have p0 := RZ.out.aft a6
        have p1 := RZ1.out.aft a6
        have z0 := p0.cell (j := 0) rfl
        have u0 := p1.cell (j := 0) rfl
        have v0 := p1.2.2 0 (by simp)
        have z1 := p0.cell (j := 1) rfl
        have u1 := p1.cell (j := 1) rfl
        have v1 := p1.2.2 1 (by simp)
        have z2 := p0.cell (j := 2) rfl
        have u2 := p1.cell (j := 2) rfl
        have v2 := p1.2.2 2 (by simp)
        have z3 := p0.cell (j := 3) rfl
        have u3 := p1.cell (j := 3) rfl
        have v3 := p1.2.2 3 (by simp)
        have z4 := p0.cell (j := 4) rfl
        have u4 := p1.cell (j := 4) rfl
        have v4 := p1.2.2 4 (by simp)
        have z5 := p0.cell (j := 5) rfl
        have u5 := p1.cell (j := 5) rfl
        have v5 := p1.2.2 5 (by simp)
        have z6 := p0.cell (j := 6) rfl
        have u6 := p1.cell (j := 6) rfl
        have v6 := p1.2.2 6 (by simp)
        have zf := p0.2.2 6 (by simp)
        have zz := p0.1
        have vz := p1.1
        have ne : w.heap.size + 1 ≠ w.heap.size := (by omega)
        clear own6 a6 p0 p1 ch6
        go_wp2_with fail
        (try simp only [Exit.inBlock, Exit.then])
        have k3 := Kb.set w6 (w.heap.size) 6 (.slice Ad c.grants.length cd)
        have q1 := k3.row (RZ1.out.aft HA6.out) (by omega)
        have k4 := setC_kb (w6.setCell ⟨w.heap.size, 6, none⟩ (.slice Ad c.grants.length cd)) (w.heap.size + 1) (.int .i64 c.epoch) (.int .i64 c.version) (.slice Bs c.objs.schemas.length bcs) (.slice Bt c.objs.tables.length bct) (.slice A4 c.rols.names.length c4) (.slice A5 c.rols.members.length c5) (.slice Ad c.grants.length cd)
        refine bodyPost_ret (results_cell (v := .agg #[.int .i64 c.epoch, .int .i64 c.version, .slice Bs c.objs.schemas.length bcs, .slice Bt c.objs.tables.length bct, .slice A4 c.rols.names.length c4, .slice A5 c.rols.members.length c5, .slice Ad c.grants.length cd]) rfl _ rfl (lvCat_row (setC_row q1 rfl _ _ _ _ _ _ _))) rfl ?_
        obtain ⟨e1, e2, e3, e4, e5, e6⟩ := SZZ.out
        have kC := k3.or k4
        have KB := (Kb.of_aft (P := fun _ => False) HA6.out).or kC
        have KA := KZ.out.or KB
        have g6 : ∀ g, (Hd.mk Ad c.grants.length cd).v.ownBlock = some g → Z.heap.size ≤ g := fun g hg => (HO6.out.lt g hg).1
        refine ⟨⟨Bs, c.objs.schemas.length, bcs⟩, ⟨Bt, c.objs.tables.length, bct⟩, ⟨A4, c.rols.names.length, c4⟩, ⟨A5, c.rols.members.length, c5⟩, ⟨Ad, c.grants.length, cd⟩, L, rfl, KA.to_aft HS.out.aft (fun g hg e => by rcases e with e | e | e | e <;> first | exact e | (have e : g = _ := e; omega)), ?_⟩
        have hfull : L.take k = L := List.take_of_length_le (by rw [HS.out.len]; omega)
        have hsl : ∀ g ∈ (Hd.mk Bs c.objs.schemas.length bcs).blk, W.heap.size ≤ g ∧ g < X.heap.size := fun g hg => OS.out.lt g (Hd.mem_blk.1 hg)
        have htl : ∀ g ∈ (Hd.mk Bt c.objs.tables.length bct).blk, X.heap.size ≤ g ∧ g < Y.heap.size := fun g hg => OT.out.lt g (Hd.mem_blk.1 hg)
        have hLl : ∀ g ∈ L.flatMap OTab.blks, Y.heap.size ≤ g ∧ g < wr.heap.size := fun g hg => by
          obtain ⟨y, hy, hgy⟩ := List.mem_flatMap.1 hg
          obtain ⟨i, hi, rfl⟩ := List.getElem_of_mem hy
          exact (HS.out.own i hi (by have := HS.out.len; omega)).lt g hgy
        have hall : ∀ g ∈ (Hd.mk Bs c.objs.schemas.length bcs).blk ++ ((Hd.mk Bt c.objs.tables.length bct).blk ++ L.flatMap OTab.blks), W.heap.size ≤ g ∧ g < wr.heap.size := fun g hg => by
          have hxy := SZ2.out
          have hyr := HS.out.szX
          rcases List.mem_append.1 hg with h1 | h1
          · have := hsl g h1; omega
          · rcases List.mem_append.1 h1 with h1 | h1
            · have := htl g h1; omega
            · have := hLl g h1; omega
        have hzw := HZW.out
        have hNb : ∀ g, g ∈ (Hd.mk A4 c.rols.names.length c4).blk ∨ g ∈ (Hd.mk A5 c.rols.members.length c5).blk → wr.heap.size ≤ g ∧ g < w5.heap.size := fun g hg => by
          rcases hg with h1 | h1
          · have := NL.out g (Hd.mem_blk.1 h1); omega
          · have := ML.out g (Hd.mem_blk.1 h1); omega
        refine ⟨⟨?_, ?_, ?_, ?_⟩, HS.out.is, ⟨?_, ?_, ?_⟩, ?_, ?_, ?_⟩
        · exact own_down (own_kb HSC.out KA (fun g hg e => by have := hsl g (Hd.mem_blk.2 hg); rcases e with e | e | e | e <;> first | exact e | (have e : g = _ := e; omega))) (by omega)
        · rw [HS.out.len]
          exact own_down (own_kb HS.out.row KA (fun g hg e => by have := (HS.out.row.lt g hg).1; rcases e with e | e | e | e <;> first | exact e | (have e : g = _ := e; omega))) (by omega)
        · intro y hy
          obtain ⟨i, hi, rfl⟩ := List.getElem_of_mem hy
          have hti := HS.out.own i hi (by have := HS.out.len; omega)
          have hxy := SZ2.out
          exact (hti.kb KA (fun g hg e => by have := (hti.lt g hg).1; rcases e with e | e | e | e <;> first | exact e | (have e : g = _ := e; omega))).down (by omega)
        · refine nodup_more (blk_nodup _) (nodup_more (blk_nodup _) (by have := HS.out.nd; rw [hfull] at this; exact this) (fun g hg => (htl g hg).2) (fun g hg => (hLl g hg).1)) (fun g hg => (hsl g hg).2) (fun g hg => ?_)
          have hxy := SZ2.out
          rcases List.mem_append.1 hg with h1 | h1
          · exact (htl g h1).1
          · have := (hLl g h1).1; omega
        · exact own_down (own_kb ON.out KB (fun g hg e => by have := (NL.out g hg).1; rcases e with e | e | e <;> first | exact e | (have e : g = _ := e; omega))) (by omega)
        · exact own_down (own_kb OM.out KB (fun g hg e => by have := (ML.out g hg).1; rcases e with e | e | e <;> first | exact e | (have e : g = _ := e; omega))) (by omega)
        · intro g hg hg'
          have h8 := (NL.out g (Hd.mem_blk.1 hg)).2
          have h9 := (ML.out g (Hd.mem_blk.1 hg')).1
          omega
        · exact own_down (own_kb HO6.out kC (fun g hg e => by have := g6 g hg; rcases e with e | e <;> (have e : g = _ := e; omega))) (by omega)
        · intro g hg
          have h1 := hall g hg
          exact ⟨fun h2 => by have := (hNb g h2).1; omega, fun h2 => by have := g6 g (Hd.mem_blk.1 h2); omega⟩
        · intro g hg h2
          have h1 := (hNb g hg).2
          have := g6 g (Hd.mem_blk.1 h2)
          omega
end Go.Proofs.YtlklmekapbojdaaGreat

namespace Go.Proofs.YtlklmekapbojdaaGreat
open Go.RowKit Go.Deep
set_option maxRecDepth 100000
set_option linter.unusedVariables false
set_option maxHeartbeats 8000000 in
theorem bsG (A : Option Addr) (cap : Nat) (l : List Gra) (x : Gra) (w : World) (h : SlAt w 6 GraR A cap l) (hr : risesB cmpG l = true) :
    Calls Tryz.prog 81 #[.slice A l.length cap, .agg #[.string x.schema, .string x.table, .int .i64 x.right, .string x.giver, .string x.to, .bool x.opt], .func (.func 82) #[] #[]] w fun e w' => e = .returned (.tuple #[.int .i64 (posB cmpG l x), .bool (thereB cmpG l x)]) ∧ Aft w w' := by
  have hlen := h.len
  have HR := Lib.hid hr
  have HH := Lib.hid h
  clear hr h
  go_enter Tryz.func81, Tryz.ntmps81
  go_wp2_with fail
  go_loopw [9, 10] (fun u7 u8 wr => ∃ lo hi : Nat, u7 = .int .i64 lo ∧ u8 = .int .i64 hi ∧ BsI cmpG l x lo hi ∧ Aft (w.alloc (.cells #[.string x.schema, .string x.table, .int .i64 x.right, .string x.giver, .string x.to, .bool x.opt] 76)) wr) (fun u7 u8 _ => (intOf u8).toNat - (intOf u7).toNat)
  case atStart => exact ⟨0, l.length, rfl, rfl, ⟨Nat.zero_le _, Nat.le_refl _, fun t _ h => absurd h (Nat.not_lt_zero t), fun t h1 h2 => by omega⟩, Aft.refl _⟩
  case round =>
    obtain ⟨lo, hi, rfl, rfl, hI, ha⟩ := hrel
    have HI := Lib.hid hI
    have hle := hI.le
    have hhl := hI.hl
    obtain ⟨hbox, hfr, hz, hzk, HA⟩ := aft_box ha
    have HAB := Lib.hid ha
    have y0 := hbox 0
    have y1 := hbox 1
    have y2 := hbox 2
    have y3 := hbox 3
    have y4 := hbox 4
    have y5 := hbox 5
    simp only [List.getElem?_toArray, List.getElem?_cons_succ, List.getElem?_cons_zero] at y0 y1 y2 y3 y4 y5
    have yz := hz.1
    clear hI ha hbox hfr hz hzk
    by_cases hlt : lo < hi
    · have hm : (lo + hi) / 2 < l.length := by omega
      obtain ⟨b, off, rfl, hb, c0, c1, c2, c3, c4, c5, hs⟩ := gra_at (gras_aft HA.out HH.out) hm
      obtain ⟨y, hy⟩ : ∃ y, l[(lo + hi) / 2] = y := ⟨_, rfl⟩
      rw [hy] at c0 c1 c2 c3 c4 c5 hs
      obtain ⟨q, hq⟩ : ∃ q, cmpG y x = q := ⟨_, rfl⟩
      have C := Lib.hid (show ∀ z : Lat wr, _ from fun z => hq ▸ orderG y x (lat wr z))
      have HY := Lib.hid (show cmpG (l[(lo + hi) / 2]'hm) x = q by rw [hy]; exact hq)
      clear hy hq
      have w1 : IntKind.i64.wrap ((lo : Int) + (hi : Int)) = (lo : Int) + (hi : Int) := IntWalk.i64_in _ (by omega)
      by_cases hq0 : q < 0
      · have HN := Lib.hid (HI.out.right ordG.lt HR.out (m := (lo + hi) / 2) (by omega) (by rw [HY.out]; exact hq0))
        have hqd : decide (q < 0) = true := decide_eq_true hq0
        go_wp2_with fail
        refine wp_region_lat (by kernel_rfl) (by kernel_rfl) ?_
        repeat (go_big_quiet_step ((exact Calls.lat_of (C.out _))))
        refine wpQuiet_nil ?_
        intro _ hw'
        obtain ⟨z, hw''⟩ := hw'
        subst hw''
        go_wp2_with fail
        go_roundw
        case rel => exact ⟨(lo + hi) / 2 + 1, hi, by rw [show ((lo : Int) + (hi : Int)) / 2 + 1 = (((lo + hi) / 2 + 1 : Nat) : Int) by omega], rfl, HN.out, HAB.out.lat z⟩
        case measure => simp [intOf]; omega
      · have HN := Lib.hid (HI.out.left ordG.lt HR.out (m := (lo + hi) / 2) (by omega) (by omega) (by rw [HY.out]; exact hq0))
        have hqd : decide (q < 0) = false := decide_eq_false hq0
        go_wp2_with fail
        refine wp_region_lat (by kernel_rfl) (by kernel_rfl) ?_
        repeat (go_big_quiet_step ((exact Calls.lat_of (C.out _))))
        refine wpQuiet_nil ?_
        intro _ hw'
        obtain ⟨z, hw''⟩ := hw'
        subst hw''
        go_wp2_with fail
        go_roundw
        case rel => exact ⟨lo, (lo + hi) / 2, rfl, by rw [show ((lo : Int) + (hi : Int)) / 2 = (((lo + hi) / 2 : Nat) : Int) by omega], HN.out, HAB.out.lat z⟩
        case measure => simp [intOf]; omega
    · have hhi : hi = lo := by omega
      subst hhi
      have HP := Lib.hid (HI.out.pos)
      by_cases hn : hi < l.length
      · have hnd : decide ((hi : Int) < (l.length : Int)) = true := decide_eq_true (by omega)
        obtain ⟨b, off, rfl, hb, c0, c1, c2, c3, c4, c5, hs⟩ := gra_at (gras_aft HA.out HH.out) hn
        obtain ⟨y, hy⟩ : ∃ y, l[hi] = y := ⟨_, rfl⟩
        rw [hy] at c0 c1 c2 c3 c4 c5 hs
        obtain ⟨q, hq⟩ : ∃ q, cmpG y x = q := ⟨_, rfl⟩
        have C := Lib.hid (show ∀ z : Lat wr, _ from fun z => hq ▸ orderG y x (lat wr z))
        have HT := Lib.hid (show thereB cmpG l x = (q == 0) by
          unfold thereB
          rw [HP.out, List.getElem?_eq_getElem hn, hy]
          show decide (cmpG y x = 0) = _
          rw [hq]; rfl)
        clear hy hq
        go_wp2_with fail
        refine wp_region_lat (by kernel_rfl) (by kernel_rfl) ?_
        repeat (go_big_quiet_step ((exact Calls.lat_of (C.out _))))
        refine wpQuiet_nil ?_
        intro _ hw'
        obtain ⟨z, hw''⟩ := hw'
        subst hw''
        go_wp2_with fail
        go_ret2
        exact ⟨by rw [HP.out, HT.out]; rfl, HA.out.lat z⟩
      · have hnd : decide ((hi : Int) < (l.length : Int)) = false := decide_eq_false (by omega)
        have HT := Lib.hid (show thereB cmpG l x = false by
          unfold thereB
          rw [HP.out, List.getElem?_eq_none (by omega)])
        go_wp2_with fail
        refine wp_region_lat (by kernel_rfl) (by kernel_rfl) ?_
        repeat (go_big_quiet_step (fail))
        refine wpQuiet_nil ?_
        intro _ hw'
        obtain ⟨z, hw''⟩ := hw'
        subst hw''
        go_wp2_with fail
        go_ret2
        exact ⟨by rw [HP.out, HT.out]; rfl, HA.out.lat z⟩
end Go.Proofs.YtlklmekapbojdaaGreat

namespace Go.Proofs.YtlklmekapbojdaaGreat
open Go.RowKit Go.Deep
set_option maxRecDepth 100000
set_option linter.unusedVariables false
def ChgC (w : World) (r : Cat × Int) (e : Ending) (w' : World) : Prop := ∃ hs ht hn hm hg L, e = .returned (.tuple #[CatV r.1 hs ht hn hm hg, .int .i64 r.2]) ∧ Aft w w' ∧ CatIn w' w.heap.size r.1 hs ht hn hm hg L
theorem catIn_no (w : World) (B : Nat) : CatIn w B noC ⟨none, 0, 0⟩ ⟨none, 0, 0⟩ ⟨none, 0, 0⟩ ⟨none, 0, 0⟩ ⟨none, 0, 0⟩ [] :=
  ⟨⟨own_nil _ _ _ _, own_nil _ _ _ _, fun x hx => by simp at hx, by simp [blk_nil]⟩, rfl, ⟨own_nil _ _ _ _, own_nil _ _ _ _, fun g hg => by simp [blk_nil] at hg⟩, own_nil _ _ _ _, fun g hg => by simp [blk_nil] at hg, fun g hg => by simp [blk_nil] at hg⟩
theorem chgC_no {w w' : World} {k : Int} (a : Aft w w') : ChgC w (noC, k) (.returned (.tuple #[.agg #[.int .i64 0, .int .i64 0, .slice none 0 0, .slice none 0 0, .slice none 0 0, .slice none 0 0, .slice none 0 0], .int .i64 k])) w' :=
  ⟨⟨none, 0, 0⟩, ⟨none, 0, 0⟩, ⟨none, 0, 0⟩, ⟨none, 0, 0⟩, ⟨none, 0, 0⟩, [], rfl, a, catIn_no _ _⟩
def CatBlk (hs ht hn hm : Hd) (L : List OTab) (g : Nat) : Prop := g ∈ hs.blk ++ (ht.blk ++ L.flatMap OTab.blks) ∨ (g ∈ hn.blk ∨ g ∈ hm.blk)
theorem CatIn.lt {w : World} {B : Nat} {c : Cat} {hs ht hn hm hg : Hd} {L : List OTab} (h : CatIn w B c hs ht hn hm hg L) {g : Nat} (hg' : CatBlk hs ht hn hm L g ∨ g ∈ hg.blk) : B ≤ g ∧ g < w.heap.size := by
  rcases hg' with (h1 | h1) | h1
  · exact h.obj.lt g h1
  · exact h.rol.lt g h1
  · exact h.gra.lt g (Hd.mem_blk.1 h1)
/-- the grants are others then -/
theorem CatIn.newG {P : Nat → Prop} {w w' : World} {B : Nat} {c : Cat} {hs ht hn hm hg hg' : Hd} {L : List OTab} {l : List Gra} (h : CatIn w B c hs ht hn hm hg L) (kb : Kb P w w') (hP : ∀ g, CatBlk hs ht hn hm L g → ¬ P g)
    (ho : w'.ownsRow B 76 6 hg'.v l.length (l.flatMap graC)) (hb : ∀ g ∈ hg'.blk, g ∈ hg.blk ∨ w.heap.size ≤ g) : CatIn w' B { c with grants := l } hs ht hn hm hg' L :=
  ⟨h.obj.kb kb (fun g hg => hP g (.inl hg)), h.tbs, h.rol.kb kb (fun g hg => hP g (.inr hg)), ho,
   fun g hg => ⟨(h.dis g hg).1, fun h2 => by
     rcases hb g h2 with h3 | h3
     · exact (h.dis g hg).2 h3
     · have := (h.obj.lt g hg).2; omega⟩,
   fun g hg h2 => by
     rcases hb g h2 with h3 | h3
     · exact h.dis2 g hg h3
     · have := (h.rol.lt g hg).2; omega⟩
theorem CatIn.kb {P : Nat → Prop} {w w' : World} {B : Nat} {c : Cat} {hs ht hn hm hg : Hd} {L : List OTab} (h : CatIn w B c hs ht hn hm hg L) (kb : Kb P w w') (hP : ∀ g, CatBlk hs ht hn hm L g ∨ g ∈ hg.blk → ¬ P g) : CatIn w' B c hs ht hn hm hg L :=
  ⟨h.obj.kb kb (fun g hg => hP g (.inl (.inl hg))), h.tbs, h.rol.kb kb (fun g hg => hP g (.inl (.inr hg))), own_kb h.gra kb (fun g hg => hP g (.inr (Hd.mem_blk.2 hg))), h.dis, h.dis2⟩
theorem CatIn.down {w : World} {B B' : Nat} {c : Cat} {hs ht hn hm hg : Hd} {L : List OTab} (h : CatIn w B c hs ht hn hm hg L) (hb : B' ≤ B) : CatIn w B' c hs ht hn hm hg L := ⟨h.obj.down hb, h.tbs, h.rol.down hb, own_down h.gra hb, h.dis, h.dis2⟩
theorem catV_gra (c : Cat) (l : List Gra) (hs ht hn hm hg : Hd) : CatV { c with grants := l } hs ht hn hm hg = .agg #[.int .i64 c.epoch, .int .i64 c.version, .slice hs.a c.objs.schemas.length hs.c, .slice ht.a c.objs.tables.length ht.c, .slice hn.a c.rols.names.length hn.c, .slice hm.a c.rols.members.length hm.c, .slice hg.a l.length hg.c] := rfl
end Go.Proofs.YtlklmekapbojdaaGreat

namespace Go.Proofs.YtlklmekapbojdaaGreat
open Go.RowKit Go.Deep
set_option maxRecDepth 100000
set_option linter.unusedVariables false
theorem setC_drew (V : World) (r : Nat) (v0 v1 v2 v3 v4 v5 v6 : Value) : (((((((V.setCell ⟨r, 0, none⟩ v0).setCell ⟨r, 1, none⟩ v1).setCell ⟨r, 2, none⟩ v2).setCell ⟨r, 3, none⟩ v3).setCell ⟨r, 4, none⟩ v4).setCell ⟨r, 5, none⟩ v5).setCell ⟨r, 6, none⟩ v6).drew = ((((((V.drew.setCell ⟨r, 0, none⟩ v0).setCell ⟨r, 1, none⟩ v1).setCell ⟨r, 2, none⟩ v2).setCell ⟨r, 3, none⟩ v3).setCell ⟨r, 4, none⟩ v4).setCell ⟨r, 5, none⟩ v5).setCell ⟨r, 6, none⟩ v6 := by simp only [World.setCell_drew]
def CatL (c : Cat) (hs ht hn hm hg : Hd) : List Value := [.int .i64 c.epoch, .int .i64 c.version, .slice hs.a c.objs.schemas.length hs.c, .slice ht.a c.objs.tables.length ht.c, .slice hn.a c.rols.names.length hn.c, .slice hm.a c.rols.members.length hm.c, .slice hg.a c.grants.length hg.c]
structure OutAt (V : World) (B q : Nat) (c : Cat) (hs ht hn hm hg : Hd) (L : List OTab) : Prop where
  row : RowAt V q (CatL c hs ht hn hm hg)
  cat : CatIn V B c hs ht hn hm hg L
  no : ∀ g, CatBlk hs ht hn hm L g ∨ g ∈ hg.blk → g ≠ q
theorem OutAt.aft {V V' : World} {B q : Nat} {c : Cat} {hs ht hn hm hg : Hd} {L : List OTab} (o : OutAt V B q c hs ht hn hm hg L) (a : Aft V V') : OutAt V' B q c hs ht hn hm hg L := ⟨o.row.aft a, o.cat.aft a, o.no⟩
theorem OutAt.lt {V : World} {B q : Nat} {c : Cat} {hs ht hn hm hg : Hd} {L : List OTab} (o : OutAt V B q c hs ht hn hm hg L) {g : Nat} (h : CatBlk hs ht hn hm L g ∨ g ∈ hg.blk) : B ≤ g ∧ g < V.heap.size := o.cat.lt h
/-- its grants are others then -/
theorem OutAt.store {P : Nat → Prop} {V V' : World} {B q : Nat} {c : Cat} {hs ht hn hm hg h : Hd} {L : List OTab} {l : List Gra} (o : OutAt V B q c hs ht hn hm hg L) (k : Kb P V V') (hq : ¬ P q) (hP : ∀ g, CatBlk hs ht hn hm L g → ¬ P g)
    (ho : V'.ownsRow B 76 6 h.v l.length (l.flatMap graC)) (hb : ∀ g ∈ h.blk, g ∈ hg.blk ∨ V.heap.size ≤ g) : OutAt (V'.setCell ⟨q, 6, none⟩ (.slice h.a l.length h.c)) B q { c with grants := l } hs ht hn hm h L := by
  have hnq : ∀ g, CatBlk hs ht hn hm L g ∨ g ∈ h.blk → g ≠ q := fun g hg => by
    rcases hg with h1 | h1
    · exact o.no g (.inl h1)
    · rcases hb g h1 with h2 | h2
      · exact o.no g (.inr h2)
      · have := o.row.1; omega
  exact ⟨(k.row o.row hq).set 6 _ (by simp [CatL]), (o.cat.newG k hP ho hb).kb (Kb.set _ _ _ _) (fun g hg e => hnq g hg e), hnq⟩
/-- it is handed back -/
theorem OutAt.done {V w : World} {B q r : Nat} {c : Cat} {hs ht hn hm hg : Hd} {L : List OTab} {zs : List Value} (o : OutAt V B q c hs ht hn hm hg L) (hr : RowAt V r zs) (hl : zs.length = 7) (a : Aft w V) (hwr : w.heap.size ≤ r) (hrB : r < B) :
    RowAt (((((((V.setCell ⟨r, 0, none⟩ (.int .i64 c.epoch)).setCell ⟨r, 1, none⟩ (.int .i64 c.version)).setCell ⟨r, 2, none⟩ (.slice hs.a c.objs.schemas.length hs.c)).setCell ⟨r, 3, none⟩ (.slice ht.a c.objs.tables.length ht.c)).setCell ⟨r, 4, none⟩ (.slice hn.a c.rols.names.length hn.c)).setCell ⟨r, 5, none⟩ (.slice hm.a c.rols.members.length hm.c)).setCell ⟨r, 6, none⟩ (.slice hg.a c.grants.length hg.c)) r (CatL c hs ht hn hm hg) ∧
    ChgC w (c, 0) (.returned (.tuple #[.agg (CatL c hs ht hn hm hg).toArray, .int .i64 0])) (((((((V.setCell ⟨r, 0, none⟩ (.int .i64 c.epoch)).setCell ⟨r, 1, none⟩ (.int .i64 c.version)).setCell ⟨r, 2, none⟩ (.slice hs.a c.objs.schemas.length hs.c)).setCell ⟨r, 3, none⟩ (.slice ht.a c.objs.tables.length ht.c)).setCell ⟨r, 4, none⟩ (.slice hn.a c.rols.names.length hn.c)).setCell ⟨r, 5, none⟩ (.slice hm.a c.rols.members.length hm.c)).setCell ⟨r, 6, none⟩ (.slice hg.a c.grants.length hg.c)) := by
  have kF := setC_kb V r (.int .i64 c.epoch) (.int .i64 c.version) (.slice hs.a c.objs.schemas.length hs.c) (.slice ht.a c.objs.tables.length ht.c) (.slice hn.a c.rols.names.length hn.c) (.slice hm.a c.rols.members.length hm.c) (.slice hg.a c.grants.length hg.c)
  refine ⟨setC_row hr hl _ _ _ _ _ _ _, hs, ht, hn, hm, hg, L, rfl, kF.to_aft a (fun k hk e => by have e : k = r := e; omega), (o.cat.kb kF (fun g h1 e => ?_)).down (by omega)⟩
  have e : g = r := e
  have := (o.cat.lt h1).1
  omega
end Go.Proofs.YtlklmekapbojdaaGreat

