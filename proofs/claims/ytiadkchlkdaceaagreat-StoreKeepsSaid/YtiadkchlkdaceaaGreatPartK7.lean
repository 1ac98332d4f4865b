/- Contracts of the program, part 7. -/
import Derived.StillTailTactics
import Derived.Deep.DeepMust
import Derived.Deep.RegionLaw
import Derived.Deep.RegionHeld3
import Derived.Deep.AppendLies
import Derived.Deep.Upon
import Derived.OneCell
import Derived.OwnWalk
import Derived.Laws.AppendOwn
import Derived.ProofKit
import Derived.OpenShut
import Derived.Deep.Slices
import Derived.ChangeOld
import Derived.SizedLaws
import Derived.WalkKit
import Derived.WalkSpells
import Derived.WalkLawsBesides
import Derived.Lib.Hide
import Derived.Deep.QuietTactic
import Derived.BigQuiet
import Derived.Below
import Derived.Deep.Draws
import Derived.Laws.Cells
import Derived.Laws.IdiomCopy
import Derived.Test.YtiadkchlkdaceaaGreatRows
import Derived.Lib.Bytealg
import Derived.IntWalk
import Derived.Test.YtiadkchlkdaceaaGreatPartK1
import Derived.Test.YtiadkchlkdaceaaGreatPartK2
import Derived.Test.YtiadkchlkdaceaaGreatPartK3
import Derived.Test.YtiadkchlkdaceaaGreatPartK4
import Derived.Test.YtiadkchlkdaceaaGreatPartK5
import Derived.Test.YtiadkchlkdaceaaGreatPartK6
namespace Go.Proofs.YtiadkchlkdaceaaGreat
open Go.RowKit Go.Deep
set_option maxRecDepth 100000
set_option linter.unusedVariables false
theorem mem_set_cases {α : Type} {L : List α} {q : Nat} {x y : α} (hq : q < L.length) (h : x ∈ L.set q y) : x = y ∨ ∃ i, ∃ hi : i < L.length, i ≠ q ∧ x = L[i] := by
  obtain ⟨i, hi, rfl⟩ := List.getElem_of_mem h
  rw [List.length_set] at hi
  by_cases e : i = q
  · subst e; exact .inl (by simp)
  · exact .inr ⟨i, hi, e, by rw [List.getElem_set_ne (fun h => e h.symm)]⟩
/-- a cell of the table q is written: the table is y then -/
theorem ObjIn.put {w : World} {B gt q j : Nat} {hs ht : Hd} {ss : List Sch} {L : List OTab} {y : OTab} {u : Value} (hsch : w.ownsRow B 88 2 hs.v ss.length (ss.flatMap schC)) (htab : w.ownsRow B 76 5 ht.v L.length (L.flatMap OTab.cells))
    (hoth : ∀ i (hi : i < L.length), i ≠ q → TabIn w B L[i]) (hy : TabIn w B y) (hnd : (hs.blk ++ (ht.blk ++ (L.set q y).flatMap OTab.blks)).Nodup) (hgt : ht.a = some ⟨gt, 0, none⟩) (hq : q < L.length) (hj : j < 5) (hc : y.cells = L[q].cells.set j u) :
    ObjIn (w.setCell ⟨gt, q * 5 + j, none⟩ u) B hs ht ss (L.set q y) := by
  have hg : gt ∈ ht.blk := by rw [Hd.mem_blk]; unfold Hd.v; rw [hgt]; rfl
  have k := Kb.set w gt (q * 5 + j) u
  obtain ⟨_, n2, d1⟩ := List.nodup_append.1 hnd
  obtain ⟨_, _, d2⟩ := List.nodup_append.1 n2
  refine ⟨own_kb hsch k (fun g h1 e => d1 g (Hd.mem_blk.2 h1) g (by rw [e]; simp [hg]) rfl), ?_, fun x hx => ?_, hnd⟩
  · have := own_set htab (Hd.mem_blk.1 hg) (q * 5 + j) u
    rw [flatMap_set (size := 5) (fun _ => rfl) L q j hq hj u y hc] at this
    rw [List.length_set]; exact this
  · have hb : ∀ g ∈ x.blks, ¬ g = gt := fun g h1 e => d2 gt hg g (List.mem_flatMap.2 ⟨x, hx, h1⟩) e.symm
    rcases mem_set_cases hq hx with rfl | ⟨i, hi, hne, rfl⟩
    · exact hy.kb k hb
    · exact (hoth i hi hne).kb k hb
/-- the cells of a table -/
theorem ObjIn.cell {w : World} {B gt q j : Nat} {hs ht : Hd} {ss : List Sch} {L : List OTab} (h : ObjIn w B hs ht ss L) (hgt : ht.a = some ⟨gt, 0, none⟩) (hq : q < L.length) (hj : j < 5) : w.cell? ⟨gt, q * 5 + j, none⟩ = L[q].cells[j]? := own_cell h.tab (fun _ => rfl) hgt hq hj
theorem ObjIn.row {w : World} {B gt q : Nat} {hs ht : Hd} {ss : List Sch} {L : List OTab} (h : ObjIn w B hs ht ss L) (hgt : ht.a = some ⟨gt, 0, none⟩) (hq : q < L.length) : gt < w.heap.size ∧ B ≤ gt ∧ ∀ j, j < 5 → w.frozen? ⟨gt, q * 5 + j, none⟩ = false := by
  obtain ⟨g, hg, hb, hr⟩ := own_place h.tab (by omega)
  rw [hgt] at hg
  simp only [Option.some.injEq, Addr.mk.injEq, and_true] at hg
  subst hg
  refine ⟨hr.1, hb, fun j hj => hr.2.2 _ ?_⟩
  rw [flatMap_len (size := 5) (fun _ => rfl)]
  have : (q + 1) * 5 ≤ L.length * 5 := Nat.mul_le_mul_right _ hq
  omega
end Go.Proofs.YtiadkchlkdaceaaGreat

namespace Go.Proofs.YtiadkchlkdaceaaGreat
open Go.RowKit Go.Deep
set_option maxRecDepth 100000
set_option linter.unusedVariables false
structure RCopyS (w wr : World) (t : Tab) (A : Option Addr) (cap : Nat) (A2 : Option Addr) (cap2 : Nat) (hc hr : Hd) (L : List ORul) (k : Nat) : Prop where
  aft : Aft w wr
  box : RowAt wr w.heap.size [.string t.schema, .string t.name, .string t.owner, .slice A t.cols.length cap, .slice A2 t.rules.length cap2]
  out : RowAt wr (w.heap.size + 1) [.string ⟨#[]⟩, .string ⟨#[]⟩, .string ⟨#[]⟩, .slice none 0 0, .slice none 0 0]
  col : wr.ownsRow (w.heap.size + 2) 93 3 hc.v t.cols.length (t.cols.flatMap colC)
  rul : wr.ownsRow (w.heap.size + 2) 108 8 hr.v k (L.flatMap ORul.cells)
  len : L.length = k
  is : L.map (·.r) = t.rules.take k
  each : ∀ x ∈ L, RulIn wr (w.heap.size + 2) x
  nd : (hc.blk ++ (hr.blk ++ L.flatMap (·.h.blk))).Nodup
theorem RCopyS.lt {w wr : World} {t : Tab} {A A2 : Option Addr} {cap cap2 : Nat} {hc hr : Hd} {L : List ORul} {k : Nat} (s : RCopyS w wr t A cap A2 cap2 hc hr L k) : ∀ g ∈ hc.blk ++ (hr.blk ++ L.flatMap (·.h.blk)), w.heap.size + 2 ≤ g ∧ g < wr.heap.size := by
  intro g hg
  simp only [List.mem_append, List.mem_flatMap] at hg
  rcases hg with hg | hg | ⟨r, hr, hg⟩
  · exact blk_lt s.col g hg
  · exact blk_lt s.rul g hg
  · exact blk_lt (s.each r hr).nam g hg
theorem RCopyS.step {w wr w4 w5 : World} {t : Tab} {A A2 : Option Addr} {cap cap2 : Nat} {hc hr hr' h4 : Hd} {L : List ORul} {k : Nat} (s : RCopyS w wr t A cap A2 cap2 hc hr L k) (hk : k < t.rules.length)
    (a4 : Aft wr w4) (own4 : w4.ownsRow wr.heap.size 9 1 h4.v t.rules[k].cols.length (t.rules[k].cols.flatMap nameC)) (hg : w4.grownBy w5 hr.v.ownBlock)
    (ho : w5.ownsRow (w.heap.size + 2) 108 8 hr'.v (k + 1) (L.flatMap ORul.cells ++ rulC t.rules[k] h4)) (hb : ∀ g ∈ hr'.blk, g ∈ hr.blk ∨ w4.heap.size ≤ g) : RCopyS w w5 t A cap A2 cap2 hc hr' (L ++ [⟨t.rules[k], h4⟩]) (k + 1) := by
  have hlt := s.lt
  have nd := s.nd
  have nd2 := (List.nodup_append.1 nd).2.1
  have kg : Kb (fun g => hr.v.ownBlock = some g) w4 w5 := Kb.of_grown hg
  have ka : Kb (fun g => hr.v.ownBlock = some g) wr w5 := (Kb.of_aft a4).trans kg
  have hrl : ∀ g, hr.v.ownBlock = some g → w.heap.size + 2 ≤ g ∧ g < wr.heap.size := fun g h1 => s.rul.lt g h1
  have hz := a4.size
  have hzo := s.out.1
  have hx4 : ∀ g ∈ h4.blk, wr.heap.size ≤ g ∧ g < w4.heap.size := blk_lt own4
  refine ⟨ka.to_aft s.aft (fun g hgl h1 => by have := hrl g h1; omega), ka.row s.box (fun h1 => by have := hrl _ h1; omega), ka.row s.out (fun h1 => by have := hrl _ h1; omega), own_kb s.col ka (fun g hg1 hg2 => nodup_disj nd (Hd.mem_blk.2 hg1) (by simp [Hd.mem_blk.2 hg2])), ?_, by simp [s.len], ?_, ?_, ?_⟩
  · rw [List.flatMap_append]
    simpa [ORul.cells] using ho
  · rw [List.map_append, s.is, List.take_succ_eq_append_getElem hk]; rfl
  · intro x hx
    simp only [List.mem_append, List.mem_singleton] at hx
    rcases hx with hx | rfl
    · exact (s.each x hx).kb ka fun g hg1 hg2 => nodup_disj nd2 (Hd.mem_blk.2 hg2) (List.mem_flatMap.2 ⟨x, hx, hg1⟩)
    · exact ⟨own_down (own_kb own4 kg fun g hg1 hg2 => by have := (own4.lt g hg1).1; have := (hrl g hg2).2; omega) (by omega)⟩
  · rw [List.flatMap_append]
    have e : [ORul.mk t.rules[k] h4].flatMap (·.h.blk) = h4.blk := by simp
    rw [e]
    refine List.nodup_append.2 ⟨(List.nodup_append.1 nd).1, List.nodup_append.2 ⟨blk_nodup _, nodup_more (List.nodup_append.1 nd2).2.1 (blk_nodup _) (fun g hg => (hlt g (by simp only [List.mem_append]; exact .inr (.inr hg))).2) (fun g hg => (hx4 g hg).1), ?_⟩, ?_⟩
    · intro a ha b hb2 e
      subst e
      rcases List.mem_append.1 hb2 with h1 | h1
      · rcases hb a ha with h2 | h2
        · exact nodup_disj nd2 h2 h1
        · have := (hlt a (by simp only [List.mem_append]; exact .inr (.inr h1))).2; omega
      · rcases hb a ha with h2 | h2
        · have := (hlt a (by simp [h2])).2; have := (hx4 a h1).1; omega
        · have := (hx4 a h1).2; omega
    · intro a ha b hb2 e
      subst e
      have := (hlt a (by simp [ha])).2
      rcases List.mem_append.1 hb2 with h1 | h1
      · rcases hb a h1 with h2 | h2
        · exact nodup_disj nd ha (by simp [h2])
        · omega
      · rcases List.mem_append.1 h1 with h1 | h1
        · exact nodup_disj nd ha (List.mem_append.2 (.inr h1))
        · have := (hx4 a h1).1; omega
end Go.Proofs.YtiadkchlkdaceaaGreat

namespace Go.Proofs.YtiadkchlkdaceaaGreat
open Go.RowKit
set_option maxRecDepth 100000
set_option linter.unusedVariables false
set_option maxHeartbeats 1000000 in
theorem rsch_any (A : Option Addr) (cap : Nat) (l : List Sch) (vt : Value) (name : ByteArray) (w : World) (h : SlAt w 2 SchR A cap l) :
    Calls Tryz.prog 78 #[.agg #[.slice A l.length cap, vt], .string name] w fun e w' => e = .returned (.int .i64 (schAt l name)) ∧ Aft w w' := by
  have hlen := h.len
  go_enter Tryz.func78, Tryz.ntmps78
  go_wp2_with fail
  go_loop [5] (fun i => ∃ k : Nat, k ≤ l.length ∧ i = .int .i64 k ∧ ∀ j, j < k → ∀ (hj : j < l.length), eqS l[j].name name = false) (fun i => l.length - (intOf i).toNat)
  case atStart => exact ⟨0, Nat.zero_le _, rfl, fun j hj => absurd hj (Nat.not_lt_zero j)⟩
  case round =>
    obtain ⟨k, hk, rfl, hp⟩ := hrel
    have HP := Lib.hid hp; clear hp
    by_cases hlt : k < l.length
    · obtain ⟨b, off, rfl, hb, c0, c1, hs⟩ := sch_at h hlt
      cases heq : eqS l[k].name name
      · have h2 : (l[k].name.toList == name.toList) = false := heq
        have HN := Lib.hid (ext_lt (p := fun j => ∀ (hj : j < l.length), eqS l[j].name name = false) HP.out (fun _ => heq))
        clear heq
        go_wp2_with fail
        go_round
        case rel => exact ⟨k + 1, by omega, by go_num, HN.out⟩
        case measure => simp [intOf]; omega
      · have h2 : (l[k].name.toList == name.toList) = true := heq
        have HQ := Lib.hid heq
        clear heq
        go_wp2_with fail
        go_ret
        have heq := HQ.out
        exact ⟨by rw [show schAt l name = k from idxP_some (fun c : Sch => eqS c.name name) l k hlt heq (fun i hi => HP.out i hi (by omega))]; rfl, (Aft.refl _).alloc _⟩
    · go_wp2_with fail
      go_ret
      exact ⟨by rw [show schAt l name = -1 from idxP_none (fun c : Sch => eqS c.name name) l (fun i hi => HP.out i (by omega) hi)]; rfl, (Aft.refl _).alloc _⟩
set_option maxHeartbeats 1000000 in
theorem rtab_any (vs : Value) (A : Option Addr) (cap : Nat) (l : List Tab) (s n : ByteArray) (w : World) (h : SlAt w 5 TabR A cap l) :
    Calls Tryz.prog 27 #[.agg #[vs, .slice A l.length cap], .string s, .string n] w fun e w' => e = .returned (.int .i64 (tabAt l s n)) ∧ Aft w w' := by
  have hlen := h.len
  go_enter Tryz.func27, Tryz.ntmps27
  go_wp2_with fail
  go_loop [7] (fun i => ∃ k : Nat, k ≤ l.length ∧ i = .int .i64 k ∧ ∀ j, j < k → ∀ (hj : j < l.length), (eqS l[j].schema s && eqS l[j].name n) = false) (fun i => l.length - (intOf i).toNat)
  case atStart => exact ⟨0, Nat.zero_le _, rfl, fun j hj => absurd hj (Nat.not_lt_zero j)⟩
  case round =>
    obtain ⟨k, hk, rfl, hp⟩ := hrel
    have HP := Lib.hid hp; clear hp
    by_cases hlt : k < l.length
    · obtain ⟨b, off, B2, capB2, B3, capB3, rfl, hb, c0, c1, c2, c3, c4, hcols, hrules, hss⟩ := tab_at h hlt
      clear hcols hrules hss
      cases heq : eqS l[k].schema s
      · have h2 : (l[k].schema.toList == s.toList) = false := heq
        have HN := Lib.hid (ext_lt (p := fun j => ∀ (hj : j < l.length), (eqS l[j].schema s && eqS l[j].name n) = false) HP.out (fun _ => by rw [heq]; rfl))
        clear heq
        go_wp2_with fail
        go_round
        case rel => exact ⟨k + 1, by omega, by go_num, HN.out⟩
        case measure => simp [intOf]; omega
      have h2 : (l[k].schema.toList == s.toList) = true := heq
      cases heq2 : eqS l[k].name n
      · have h3 : (l[k].name.toList == n.toList) = false := heq2
        have HN := Lib.hid (ext_lt (p := fun j => ∀ (hj : j < l.length), (eqS l[j].schema s && eqS l[j].name n) = false) HP.out (fun _ => by rw [heq, heq2]; rfl))
        clear heq heq2
        go_wp2_with fail
        go_round
        case rel => exact ⟨k + 1, by omega, by go_num, HN.out⟩
        case measure => simp [intOf]; omega
      · have h3 : (l[k].name.toList == n.toList) = true := heq2
        have HQ := Lib.hid (show (eqS l[k].schema s && eqS l[k].name n) = true by rw [heq, heq2]; rfl)
        clear heq heq2
        go_wp2_with fail
        go_ret
        have heq := HQ.out
        exact ⟨by rw [show tabAt l s n = k from idxP_some (fun t : Tab => eqS t.schema s && eqS t.name n) l k hlt heq (fun i hi => HP.out i hi (by omega))]; rfl, (Aft.refl _).alloc _⟩
    · go_wp2_with fail
      go_ret
      exact ⟨by rw [show tabAt l s n = -1 from idxP_none (fun t : Tab => eqS t.schema s && eqS t.name n) l (fun i hi => HP.out i (by omega) hi)]; rfl, (Aft.refl _).alloc _⟩
set_option maxHeartbeats 1000000 in
theorem rtabs_any (vs : Value) (A : Option Addr) (cap : Nat) (l : List Tab) (s : ByteArray) (w : World) (h : SlAt w 5 TabR A cap l) :
    Calls Tryz.prog 77 #[.agg #[vs, .slice A l.length cap], .string s] w fun e w' => e = .returned (.int .i64 (within l s)) ∧ Aft w w' := by
  have hlen := h.len
  go_enter Tryz.func77, Tryz.ntmps77
  go_wp2_with fail
  go_loop [5, 6] (fun n i => ∃ k : Nat, k ≤ l.length ∧ i = .int .i64 k ∧ n = .int .i64 (within (l.take k) s)) (fun _ i => l.length - (intOf i).toNat)
  case atStart => exact ⟨0, Nat.zero_le _, rfl, rfl⟩
  case round =>
    obtain ⟨k, hk, rfl, rfl⟩ := hrel
    have hw := within_le (l.take k) s
    have hw2 : (l.take k).length ≤ k := List.length_take_le _ _
    by_cases hlt : k < l.length
    · obtain ⟨b, off, A2, cap2, A3, cap3, rfl, hb, c0, c1, c2, c3, c4, hs⟩ := tab_at h hlt
      clear hs
      have HS := Lib.hid (within_succ l s k hlt)
      cases heq : eqS l[k].schema s
      · have h2 : (l[k].schema.toList == s.toList) = false := heq
        have HN := Lib.hid (show within (l.take (k + 1)) s = within (l.take k) s by rw [HS.out, heq]; simp)
        clear heq HS
        go_wp2_with fail
        go_round
        case rel => exact ⟨k + 1, by omega, by go_num, by rw [HN.out]⟩
        case measure => simp [intOf]; omega
      · have h2 : (l[k].schema.toList == s.toList) = true := heq
        have HN := Lib.hid (show within (l.take (k + 1)) s = within (l.take k) s + 1 by rw [HS.out, heq]; simp)
        clear heq HS
        go_wp2_with fail
        go_round
        case rel => exact ⟨k + 1, by omega, by go_num, by rw [HN.out]; go_num⟩
        case measure => simp [intOf]; omega
    · go_wp2_with fail
      go_ret
      exact ⟨by rw [List.take_of_length_le (by omega)]; rfl, (Aft.refl _).alloc _⟩
end Go.Proofs.YtiadkchlkdaceaaGreat

namespace Go.Proofs.YtiadkchlkdaceaaGreat
open Go.RowKit
set_option maxRecDepth 100000
set_option linter.unusedVariables false
set_option maxHeartbeats 4000000 in
theorem rkey_any (vs : Value) (At : Option Addr) (capt : Nat) (ts : List Tab) (A : Option Addr) (cap : Nat) (l : List Col) (r : Rul) (A2 : Option Addr) (cap2 : Nat) (w : World) (ht : SlAt w 5 TabR At capt ts) (h : SlAt w 3 ColR A cap l) (h2 : SlAt w 1 StrR A2 cap2 r.cols) :
    Calls Tryz.prog 80 #[.agg #[vs, .slice At ts.length capt], .slice A l.length cap, .agg #[.string r.name, .int .i64 r.kind, .slice A2 r.cols.length cap2, .int .i64 r.low, .int .i64 r.high, .string r.schema, .string r.table, .string r.key]] w
      fun e w' => e = .returned (.int .i64 (keyE ts l r)) ∧ Aft w w' := by
  obtain ⟨i, hi⟩ : ∃ i, tabAt ts r.schema r.table = i := ⟨_, rfl⟩
  have hlen := ht.len
  have hlen2 := h2.len
  have hlenl := h.len
  have Cw := Lib.hid (show ∀ w', Aft w w' → Calls Tryz.prog 27 #[.agg #[vs, .slice At ts.length capt], .string r.schema, .string r.table] w' fun e w'' => e = .returned (.int .i64 i) ∧ Aft w' w'' from
    fun w' a => (rtab_any vs At capt ts r.schema r.table w' (tabs_aft a ht)).mono fun e w'' ⟨he, hw⟩ => ⟨he.trans (by rw [← hi]), hw⟩)
  by_cases hi0 : 0 ≤ i
  · obtain ⟨q, rfl⟩ := Int.eq_ofNat_of_zero_le hi0
    have hql : q < ts.length := by have := (idxP_range (fun t => eqS t.schema r.schema && eqS t.name r.table) ts).2; unfold tabAt at hi; omega
    have HE := Lib.hid (keyE_some (l := l) hi hql)
    rw [HE.out]
    clear HE hi
    go_enter Tryz.func80, Tryz.ntmps80
    go_wp2_with fail
    refine (Cw.out _ (((Aft.refl w).alloc _).alloc _)).mono ?_
    rintro e w1 ⟨rfl, a1⟩
    obtain ⟨hbo, hbr, hz, HA⟩ := aft_box2 a1
    have ht1 := tabs_aft HA.out ht
    clear a1 Cw
    obtain ⟨b, off, B2, capB2, B3, capB3, rfl, hb, c0, c1, c2, c3, c4, hcols, hrules, hss⟩ := tab_at ht1 hql
    obtain ⟨t, ht0⟩ : ∃ t, ts[q] = t := ⟨_, rfl⟩
    rw [ht0] at c0 c1 c2 c3 c4 hcols hrules hss
    have HT := Lib.hid ht0
    clear ht0 hss
    have hlen3 := hrules.len
    have hlent := hcols.len
    obtain ⟨k, hk⟩ : ∃ k, rulAt t.rules r.key = k := ⟨_, rfl⟩
    obtain ⟨w2, hw2⟩ : ∃ w2, w2 = w1.alloc (.cells #[.string t.schema, .string t.name, .string t.owner, .slice B2 t.cols.length capB2, .slice B3 t.rules.length capB3] 76) := ⟨_, rfl⟩
    have a2 : Aft w1 w2 := by rw [hw2]; exact (Aft.refl w1).alloc _
    have hrules2 := ruls_aft a2 hrules
    have Cb := Lib.hid (show Calls Tryz.prog 50 #[.slice B3 t.rules.length capB3, .string r.key] w2 fun e w'' => e = .returned (.int .i64 k) ∧ w2 = w'' from
      (rrul_any B3 capB3 t.rules r.key w2 hrules2).mono fun e w'' ⟨he, hw⟩ => ⟨he.trans (by rw [← hk]; rfl), hw⟩)
    have hbt : ∀ o, w2.cell? ⟨w1.heap.size, o, none⟩ = (#[.string t.schema, .string t.name, .string t.owner, .slice B2 t.cols.length capB2, .slice B3 t.rules.length capB3] : Array Value)[o]? := by intro o; rw [hw2]; simp
    have hzt : w1.heap.size < w2.heap.size := by rw [hw2]; simp
    have hbr2 : ∀ o, w2.cell? ⟨w.heap.size + 1, o, none⟩ = _ := fun o => (Below.cell a2 (p := ⟨w.heap.size + 1, o, none⟩) hz.2).trans (hbr o)
    have HA02 := Lib.hid (HA.out.trans a2)
    have hcols2 := cols_aft a2 hcols
    have h02 := cols_aft HA02.out h
    have hs02 := strs_aft HA02.out h2
    have hz2 : w.heap.size + 1 < w2.heap.size := Nat.lt_of_lt_of_le hz.2 a2.size
    go_wp2_with fail
    rw [← hw2]
    clear hw2 ht1 hcols hrules
    refine Cb.out.mono ?_
    rintro e w' ⟨rfl, hw'⟩
    subst hw'
    clear Cb hbo hbr c0 c1 c2 c3 c4
    by_cases hk0 : 0 ≤ k
    · obtain ⟨m, rfl⟩ := Int.eq_ofNat_of_zero_le hk0
      have hml : m < t.rules.length := by have := (idxP_range (fun c => eqS c.name r.key) t.rules).2; unfold rulAt at hk; omega
      have HE := Lib.hid (keyT_some (l := l) hk hml)
      clear hk
      obtain ⟨b3, off3, D2, capD2, rfl, hb3, e0, e1, e2, e3, e4, e5, e6, e7, hcs, hss3⟩ := rul_at hrules2 hml
      obtain ⟨p, hp⟩ : ∃ p, t.rules[m] = p := ⟨_, rfl⟩
      rw [hp] at e0 e1 e2 e3 e4 e5 e6 e7 hcs hss3
      have HP := Lib.hid hp
      clear hp hrules2 hss3
      cases hk2 : (p.kind != 2)
      · have HV := Lib.hid (show keyT ts[q] l r = if pairsOk l t.cols r.cols p.cols then 0 else 63 by
          have hk3 : (p.kind == 2) = true := by simpa using hk2
          rw [HT.out, HE.out, HP.out, if_pos hk3])
        clear HE HT HP
        have hlen4 := hcs.len
        by_cases d1 : p.cols.length = r.cols.length
        · have f1 : ((p.cols.length : Int) != (r.cols.length : Int)) = false := by simp [d1]
          go_wp2_with fail
          clear e0 e1 e2 e3 e4 e5 e6 e7
          go_loopw [11, 12, 13] (fun i _ _ wr => ∃ k : Nat, k ≤ p.cols.length ∧ i = .int .i64 k ∧ Aft w2 wr ∧ ∀ j, j < k → ∀ (hj : j < r.cols.length) (hj2 : j < p.cols.length), pairB l t.cols r.cols[j] p.cols[j] = true) (fun i _ _ _ => p.cols.length - (intOf i).toNat)
          case atStart => exact ⟨0, Nat.zero_le _, rfl, Aft.refl _, fun j hj => absurd hj (Nat.not_lt_zero j)⟩
          case round =>
            obtain ⟨k, hk, rfl, ha, hp⟩ := hrel
            have HP := Lib.hid hp; clear hp
            have HAR := Lib.hid ha
            by_cases hlt : k < p.cols.length
            · have hltr : k < r.cols.length := by omega
              obtain ⟨b5, off5, rfl, hb5, g5, _⟩ := str_at (strs_aft ha hs02) hltr
              obtain ⟨b6, off6, rfl, hb6, g6, _⟩ := str_at (strs_aft ha hcs) hlt
              have q1 : wr.cell? ⟨w.heap.size + 1, 2, none⟩ = some (.slice (some ⟨b5, off5, none⟩) r.cols.length cap2) := ha.cell_some (hbr2 2)
              have q2 : wr.cell? ⟨w1.heap.size, 3, none⟩ = some (.slice B2 t.cols.length capB2) := ha.cell_some (hbt 3)
              have z1 : w.heap.size + 1 < wr.heap.size := Nat.lt_of_lt_of_le hz2 ha.size
              have z2 : w1.heap.size < wr.heap.size := Nat.lt_of_lt_of_le hzt ha.size
              have hcl := cols_aft ha h02
              have hct := cols_aft ha hcols2
              clear ha
              obtain ⟨x, hx⟩ : ∃ x, colAt l r.cols[k] = x := ⟨_, rfl⟩
              obtain ⟨y, hy⟩ : ∃ y, colAt t.cols p.cols[k] = y := ⟨_, rfl⟩
              have C1 := Lib.hid (show Calls Tryz.prog 37 #[.slice A l.length cap, .string r.cols[k]] wr fun e w' => e = .returned (.int .i64 x) ∧ wr = w' from
                (rcol_any A cap l r.cols[k] wr hcl).mono fun e w' ⟨he, hw⟩ => ⟨he.trans (by rw [← hx]; rfl), hw⟩)
              have C2 := Lib.hid (show ∀ z : Lat wr, Calls Tryz.prog 37 #[.slice B2 t.cols.length capB2, .string p.cols[k]] (lat wr z) fun e w' => e = .returned (.int .i64 y) ∧ lat wr z = w' from
                fun z => (rcol_any B2 capB2 t.cols p.cols[k] (lat wr z) (cols_aft ((Aft.refl wr).lat z) hct)).mono fun e w' ⟨he, hw⟩ => ⟨he.trans (by rw [← hy]; rfl), hw⟩)
              have HPB := Lib.hid (show pairB l t.cols r.cols[k] p.cols[k] = (decide (0 ≤ x) && decide (0 ≤ y) && (kindAt l x == kindAt t.cols y)) by unfold pairB; rw [hx, hy])
              have hxl : x < l.length := by have := (idxP_range (fun c => eqS c.name r.cols[k]) l).2; unfold colAt at hx; omega
              have hyl : y < t.cols.length := by have := (idxP_range (fun c => eqS c.name p.cols[k]) t.cols).2; unfold colAt at hy; omega
              clear hx hy
              go_wp2_with fail
              refine C1.out.mono ?_
              rintro e w' ⟨rfl, hw'⟩
              subst hw'
              go_wp2_with fail
              refine wp_region_lat (by kernel_rfl) (by kernel_rfl) ?_
              repeat (go_big_quiet_step ((first | (go_at_call 37; exact Calls.lat_same (C2.out _)))))
              refine wpQuiet_nil ?_
              intro _ hw'
              obtain ⟨z, hw''⟩ := hw'
              subst hw''
              by_cases hx0 : x < 0
              · have HF := Lib.hid (show keyT ts[q] l r = 63 by rw [HV.out, pairsOk_false _ _ _ _ k hltr hlt (by rw [HPB.out, decide_eq_false (by omega)]; rfl)]; rfl)
                have dx : decide (x < 0) = true := decide_eq_true hx0
                go_wp2_with fail
                refine wp_region_lat (by kernel_rfl) (by kernel_rfl) ?_
                repeat (go_big_quiet_step (fail))
                refine wpQuiet_nil ?_
                intro _ hw'
                obtain ⟨z2', hw''⟩ := hw'
                subst hw''
                go_wp2_with fail
                go_ret
                exact ⟨by rw [HF.out]; rfl, HA02.out.trans ((HAR.out.lat z).lat z2')⟩
              have dx : decide (x < 0) = false := decide_eq_false hx0
              by_cases hy0 : y < 0
              · have HF := Lib.hid (show keyT ts[q] l r = 63 by rw [HV.out, pairsOk_false _ _ _ _ k hltr hlt (by rw [HPB.out, decide_eq_false (show ¬ 0 ≤ y by omega), Bool.and_false]; rfl)]; rfl)
                have dy : decide (y < 0) = true := decide_eq_true hy0
                go_wp2_with fail
                refine wp_region_lat (by kernel_rfl) (by kernel_rfl) ?_
                repeat (go_big_quiet_step (fail))
                refine wpQuiet_nil ?_
                intro _ hw'
                obtain ⟨z2', hw''⟩ := hw'
                subst hw''
                go_wp2_with fail
                go_ret
                exact ⟨by rw [HF.out]; rfl, HA02.out.trans ((HAR.out.lat z).lat z2')⟩
              have dy : decide (y < 0) = false := decide_eq_false hy0
              obtain ⟨x', rfl⟩ := Int.eq_ofNat_of_zero_le (show 0 ≤ x by omega)
              obtain ⟨y', rfl⟩ := Int.eq_ofNat_of_zero_le (show 0 ≤ y by omega)
              have hxl' : x' < l.length := by omega
              have hyl' : y' < t.cols.length := by omega
              obtain ⟨b7, off7, rfl, hb7, d70, d71, d72, _⟩ := col_at hcl hxl'
              obtain ⟨b8, off8, rfl, hb8, d80, d81, d82, _⟩ := col_at hct hyl'
              have HPB2 := Lib.hid (show pairB l t.cols r.cols[k] p.cols[k] = (l[x'].kind == t.cols[y'].kind) by
                rw [HPB.out, decide_eq_true (show (0 : Int) ≤ (x' : Int) by omega), decide_eq_true (show (0 : Int) ≤ (y' : Int) by omega)]; simp [kindAt, List.getElem?_eq_getElem hxl', List.getElem?_eq_getElem hyl'])
              clear HPB C1 C2 hx0 hy0
              cases hkk : (l[x'].kind != t.cols[y'].kind)
              · have HN := Lib.hid (ext_lt (p := fun j => ∀ (hj : j < r.cols.length) (hj2 : j < p.cols.length), pairB l t.cols r.cols[j] p.cols[j] = true) HP.out (fun _ _ => by rw [HPB2.out]; simpa using hkk))
                go_wp2_with fail
                refine wp_region_lat (by kernel_rfl) (by kernel_rfl) ?_
                repeat (go_big_quiet_step (fail))
                refine wpQuiet_nil ?_
                intro _ hw'
                obtain ⟨z2', hw''⟩ := hw'
                subst hw''
                go_wp2_with fail
                go_roundw
                case rel => exact ⟨k + 1, by omega, by go_num, (HAR.out.lat z).lat z2', HN.out⟩
                case measure => simp [intOf]; omega
              · have HF := Lib.hid (show keyT ts[q] l r = 63 by rw [HV.out, pairsOk_false _ _ _ _ k hltr hlt (by rw [HPB2.out]; simpa using hkk)]; rfl)
                go_wp2_with fail
                refine wp_region_lat (by kernel_rfl) (by kernel_rfl) ?_
                repeat (go_big_quiet_step (fail))
                refine wpQuiet_nil ?_
                intro _ hw'
                obtain ⟨z2', hw''⟩ := hw'
                subst hw''
                go_wp2_with fail
                go_ret
                exact ⟨by rw [HF.out]; rfl, HA02.out.trans ((HAR.out.lat z).lat z2')⟩
            · have HF := Lib.hid (show keyT ts[q] l r = 0 by rw [HV.out, pairsOk_true _ _ _ _ d1 (fun j hj hj2 => HP.out j (by omega) hj hj2)]; rfl)
              clear ha
              go_wp2_with fail
              go_ret
              exact ⟨by rw [HF.out]; rfl, HA02.out.trans HAR.out⟩
        · have f1 : ((p.cols.length : Int) != (r.cols.length : Int)) = true := by simp; omega
          have HR := Lib.hid (show keyT ts[q] l r = 63 by rw [HV.out, pairsOk_len _ _ _ _ d1]; rfl)
          go_wp2_with fail
          go_ret
          exact ⟨by rw [HR.out]; rfl, HA02.out⟩
      · have HV := Lib.hid (show keyT ts[q] l r = 61 by
          have hk3 : ¬ ((p.kind == 2) = true) := by simpa using hk2
          rw [HT.out, HE.out, HP.out, if_neg hk3])
        go_wp2_with fail
        go_ret
        exact ⟨by rw [HV.out]; rfl, HA02.out⟩
    · have hk1 : k < 0 := by omega
      have HE := Lib.hid (keyT_none (l := l) (by rw [hk]; exact hk1) : keyT t l r = 61)
      clear hk
      go_wp2_with fail
      go_ret
      exact ⟨by rw [HT.out, HE.out]; rfl, HA02.out⟩
  · have hi1 : i < 0 := by omega
    have HE := Lib.hid (keyE_none (l := l) (by rw [hi]; exact hi1) : keyE ts l r = 61)
    rw [HE.out]
    clear HE hi
    go_enter Tryz.func80, Tryz.ntmps80
    go_wp2_with fail
    refine (Cw.out _ (((Aft.refl w).alloc _).alloc _)).mono ?_
    rintro e w1 ⟨rfl, a1⟩
    have HA := Lib.hid ((((Aft.refl w).alloc _).alloc _).trans a1)
    clear a1
    go_wp2_with fail
    go_ret
    exact ⟨rfl, HA.out⟩
end Go.Proofs.YtiadkchlkdaceaaGreat

namespace Go.Proofs.YtiadkchlkdaceaaGreat
open Go.RowKit
set_option maxRecDepth 100000
set_option linter.unusedVariables false
def rowsB (o : Objs) : Bool := o.schemas.all (schOk o) && risesB (fun a b => cmpS a.name b.name) o.schemas && risesB (fun a b => or2 (cmpS a.schema b.schema) (cmpS a.name b.name)) o.tables && decide (o.schemas.length ≤ 8)
theorem rowsB_sch (o : Objs) (k : Nat) (hk : k < o.schemas.length) (h : schOk o o.schemas[k] = false) : rowsB o = false := by
  unfold rowsB; rw [all_false _ _ k hk h]; rfl
theorem rowsB_schr (o : Objs) (k : Nat) (hk : k < o.schemas.length) (h0 : 0 < k) (h : ltS (o.schemas[k - 1]'(by omega)).name o.schemas[k].name = false) : rowsB o = false := by
  have h1 : k - 1 + 1 < o.schemas.length := by omega
  have e : (o.schemas[k - 1 + 1]'h1) = o.schemas[k] := by congr 1; omega
  unfold rowsB
  rw [risesB_false _ _ (k - 1) h1]
  · simp
  · rw [e]
    rw [← cmpS_lt] at h
    have := of_decide_eq_false h
    omega
theorem rowsB_tabr (o : Objs) (k : Nat) (hk : k < o.tables.length) (h0 : 0 < k) (h : ¬ or2 (cmpS (o.tables[k - 1]'(by omega)).schema o.tables[k].schema) (cmpS (o.tables[k - 1]'(by omega)).name o.tables[k].name) < 0) : rowsB o = false := by
  have h1 : k - 1 + 1 < o.tables.length := by omega
  have e : (o.tables[k - 1 + 1]'h1) = o.tables[k] := by congr 1; omega
  unfold rowsB
  rw [risesB_false (fun a b : Tab => or2 (cmpS a.schema b.schema) (cmpS a.name b.name)) _ (k - 1) h1]
  · simp
  · rw [e]; omega
theorem rises_pred {α : Type} (c : α → α → Int) (l : List α) (h : ∀ k, 1 ≤ k → ∀ (hk : k < l.length), c (l[k - 1]'(by omega)) l[k] < 0) : risesB c l = true :=
  (risesB_iff c l).2 fun k hk => h (k + 1) (by omega) hk
set_option maxHeartbeats 8000000 in
theorem rrows_any (o : Objs) (As : Option Addr) (caps : Nat) (At : Option Addr) (capt : Nat) (w : World) (hsch : SlAt w 2 SchR As caps o.schemas) (htab : SlAt w 5 TabR At capt o.tables) :
    Calls Tryz.prog 45 #[.agg #[.slice As o.schemas.length caps, .slice At o.tables.length capt]] w
      fun e w' => e = .returned (.bool (rowsB o)) ∧ Aft w w' := by
  have hlen := hsch.len
  have hlen2 := htab.len
  go_enter Tryz.func45, Tryz.ntmps45
  go_wp2_with fail
  go_loopw [3] (fun i wr => ∃ k : Nat, k ≤ o.schemas.length ∧ i = .int .i64 k ∧ Aft (w.alloc (.cells #[.slice As o.schemas.length caps, .slice At o.tables.length capt] 29)) wr ∧ ∀ j, j < k → ∀ (hj : j < o.schemas.length), schOk o o.schemas[j] = true ∧ (0 < j → ltS (o.schemas[j - 1]'(by omega)).name o.schemas[j].name = true)) (fun i _ => o.schemas.length - (intOf i).toNat)
  case atStart => exact ⟨0, Nat.zero_le _, rfl, Aft.refl _, fun j hj => absurd hj (Nat.not_lt_zero j)⟩
  case round =>
    obtain ⟨k, hk, rfl, ha, hp⟩ := hrel
    have HP := Lib.hid hp; clear hp
    obtain ⟨hbox, hfr, hz, hzk, HA⟩ := aft_box ha
    have HAB := Lib.hid ha
    clear ha
    by_cases hlt : k < o.schemas.length
    · have hss := schs_aft HA.out hsch
      have htt := tabs_aft HA.out htab
      obtain ⟨b, off, rfl, hb, c0, c1, s0, s1⟩ := sch_at hss hlt
      obtain ⟨p, hpp⟩ : ∃ p, o.schemas[k] = p := ⟨_, rfl⟩
      rw [hpp] at c0 c1 s0 s1
      have HPP := Lib.hid hpp
      obtain ⟨n, hn⟩ : ∃ n, within o.tables p.name = n := ⟨_, rfl⟩
      have hnl : n * 16 ≤ 140737488351232 := by have := within_le o.tables p.name; omega
      have HO := Lib.hid (show schOk o o.schemas[k] = (nameB p.name && nameB p.owner && decide (n ≤ 8)) by rw [hpp]; unfold schOk; rw [hn])
      have Ct := Lib.hid (show ∀ x : Lat (wr.alloc (.cells #[.string p.name, .string p.owner] 88)), Calls Tryz.prog 77 #[.agg #[.slice (some ⟨b, off, none⟩) o.schemas.length caps, .slice At o.tables.length capt], .string p.name] (lat _ x) fun e w'' => e = .returned (.int .i64 n) ∧ Aft (lat _ x) w'' from
        fun x => (rtabs_any _ At capt o.tables p.name (lat _ x) (tabs_aft (((Aft.refl wr).alloc _).lat x) htt)).mono fun e w'' ⟨he, hw⟩ => ⟨he.trans (by rw [← hn]), hw⟩)
      clear hn htt
      cases hN : nameB p.name
      · have HF := Lib.hid (rowsB_sch o k hlt (by rw [HO.out, hN]; rfl))
        clear hss hpp
        go_wp2_with fail
        refine wp_region_lat (by kernel_rfl) (by kernel_rfl) ?_
        repeat (go_big_quiet_step ((first | (go_at_call 72; exact Calls.lat_same (rname_any _ _ (by first | exact s0.max | exact s1.max))) | (go_at_call 77; exact Calls.lat_of (Ct.out _)))))
        refine wpQuiet_nil ?_
        intro _ hw'
        obtain ⟨x, hw''⟩ := hw'
        subst hw''
        go_wp2_with fail
        go_ret
        exact ⟨by rw [HF.out]; rfl, (HA.out.alloc _).lat x⟩
      cases hO : nameB p.owner
      · have HF := Lib.hid (rowsB_sch o k hlt (by rw [HO.out, hN, hO]; rfl))
        clear hss hpp
        go_wp2_with fail
        refine wp_region_lat (by kernel_rfl) (by kernel_rfl) ?_
        repeat (go_big_quiet_step ((first | (go_at_call 72; exact Calls.lat_same (rname_any _ _ (by first | exact s0.max | exact s1.max))) | (go_at_call 77; exact Calls.lat_of (Ct.out _)))))
        refine wpQuiet_nil ?_
        intro _ hw'
        obtain ⟨x, hw''⟩ := hw'
        subst hw''
        go_wp2_with fail
        go_ret
        exact ⟨by rw [HF.out]; rfl, (HA.out.alloc _).lat x⟩
      have HO2 := Lib.hid (show schOk o o.schemas[k] = decide (n ≤ 8) by rw [HO.out, hN, hO]; rfl)
      by_cases h0 : 0 < k
      · have hk1 : k - 1 < o.schemas.length := by omega
        obtain ⟨b', off', hA', hb', e0, e1, _, _⟩ := sch_at hss hk1
        simp only [Option.some.injEq, Addr.mk.injEq, and_true] at hA'
        obtain ⟨rfl, rfl⟩ := hA'
        obtain ⟨p', hpp'⟩ : ∃ p', (o.schemas[k - 1]'(by omega)) = p' := ⟨_, rfl⟩
        rw [hpp'] at e0 e1
        have HPP' := Lib.hid hpp'
        have w1 : IntKind.i64.wrap ((k : Int) - 1) = (k : Int) - 1 := IntWalk.i64_in _ (by omega)
        have w2 : (0 : Int) ≤ (k : Int) - 1 := by omega
        have w3 : ((k : Int) - 1).toNat = k - 1 := by omega
        have w4 : (k : Int) - 1 < (o.schemas.length : Int) := by omega
        have w5 : decide ((0 : Int) < (k : Int)) = true := decide_eq_true (by omega)
        clear hss hpp hpp'
        cases hL : ltS p'.name p.name
        · have hL' : Op.bytesLess p'.name.toList p.name.toList = false := hL
          have HF := Lib.hid (rowsB_schr o k hlt h0 (by rw [HPP.out, HPP'.out]; exact hL))
          clear hL
          go_wp2_with fail
          refine wp_region_lat (by kernel_rfl) (by kernel_rfl) ?_
          repeat (go_big_quiet_step ((first | (go_at_call 72; exact Calls.lat_same (rname_any _ _ (by first | exact s0.max | exact s1.max))) | (go_at_call 77; exact Calls.lat_of (Ct.out _)))))
          refine wpQuiet_nil ?_
          intro _ hw'
          obtain ⟨x, hw''⟩ := hw'
          subst hw''
          go_wp2_with fail
          go_ret
          exact ⟨by rw [HF.out]; rfl, (HA.out.alloc _).lat x⟩
        have hL' : Op.bytesLess p'.name.toList p.name.toList = true := hL
        have HLT := Lib.hid (show ltS (o.schemas[k - 1]'(by omega)).name o.schemas[k].name = true by rw [HPP.out, HPP'.out]; exact hL)
        clear hL
        by_cases h8 : n ≤ 8
        · have h8' : ¬ ((8 : Int) < (n : Int)) := by omega
          have d8 : decide ((8 : Int) < (n : Int)) = false := decide_eq_false h8'
          have HN := Lib.hid (ext_lt (p := fun j => ∀ (hj : j < o.schemas.length), schOk o o.schemas[j] = true ∧ (0 < j → ltS (o.schemas[j - 1]'(by omega)).name o.schemas[j].name = true)) HP.out (fun _ => ⟨by rw [HO2.out]; exact decide_eq_true h8, fun _ => HLT.out⟩))
          go_wp2_with fail
          refine wp_region_lat (by kernel_rfl) (by kernel_rfl) ?_
          repeat (go_big_quiet_step ((first | (go_at_call 72; exact Calls.lat_same (rname_any _ _ (by first | exact s0.max | exact s1.max))) | (go_at_call 77; exact Calls.lat_of (Ct.out _)))))
          refine wpQuiet_nil ?_
          intro _ hw'
          obtain ⟨x, hw''⟩ := hw'
          subst hw''
          go_wp2_with fail
          go_roundw
          case rel => exact ⟨k + 1, by omega, by go_num, (HAB.out.alloc _).lat x, HN.out⟩
          case measure => simp [intOf]; omega
        · have h8' : (8 : Int) < (n : Int) := by omega
          have d8 : decide ((8 : Int) < (n : Int)) = true := decide_eq_true h8'
          have HF := Lib.hid (rowsB_sch o k hlt (by rw [HO2.out]; exact decide_eq_false h8))
          go_wp2_with fail
          refine wp_region_lat (by kernel_rfl) (by kernel_rfl) ?_
          repeat (go_big_quiet_step ((first | (go_at_call 72; exact Calls.lat_same (rname_any _ _ (by first | exact s0.max | exact s1.max))) | (go_at_call 77; exact Calls.lat_of (Ct.out _)))))
          refine wpQuiet_nil ?_
          intro _ hw'
          obtain ⟨x, hw''⟩ := hw'
          subst hw''
          go_wp2_with fail
          go_ret
          exact ⟨by rw [HF.out]; rfl, (HA.out.alloc _).lat x⟩
      · have w5 : decide ((0 : Int) < (k : Int)) = false := decide_eq_false (by omega)
        have w6 : (k : Int) ≤ 0 := by omega
        clear hss hpp
        by_cases h8 : n ≤ 8
        · have h8' : ¬ ((8 : Int) < (n : Int)) := by omega
          have d8 : decide ((8 : Int) < (n : Int)) = false := decide_eq_false h8'
          have HN := Lib.hid (ext_lt (p := fun j => ∀ (hj : j < o.schemas.length), schOk o o.schemas[j] = true ∧ (0 < j → ltS (o.schemas[j - 1]'(by omega)).name o.schemas[j].name = true)) HP.out (fun _ => ⟨by rw [HO2.out]; exact decide_eq_true h8, fun h => absurd h h0⟩))
          go_wp2_with fail
          refine wp_region_lat (by kernel_rfl) (by kernel_rfl) ?_
          repeat (go_big_quiet_step ((first | (go_at_call 72; exact Calls.lat_same (rname_any _ _ (by first | exact s0.max | exact s1.max))) | (go_at_call 77; exact Calls.lat_of (Ct.out _)))))
          refine wpQuiet_nil ?_
          intro _ hw'
          obtain ⟨x, hw''⟩ := hw'
          subst hw''
          go_wp2_with fail
          go_roundw
          case rel => exact ⟨k + 1, by omega, by go_num, (HAB.out.alloc _).lat x, HN.out⟩
          case measure => simp [intOf]; omega
        · have h8' : (8 : Int) < (n : Int) := by omega
          have d8 : decide ((8 : Int) < (n : Int)) = true := decide_eq_true h8'
          have HF := Lib.hid (rowsB_sch o k hlt (by rw [HO2.out]; exact decide_eq_false h8))
          go_wp2_with fail
          refine wp_region_lat (by kernel_rfl) (by kernel_rfl) ?_
          repeat (go_big_quiet_step ((first | (go_at_call 72; exact Calls.lat_same (rname_any _ _ (by first | exact s0.max | exact s1.max))) | (go_at_call 77; exact Calls.lat_of (Ct.out _)))))
          refine wpQuiet_nil ?_
          intro _ hw'
          obtain ⟨x, hw''⟩ := hw'
          subst hw''
          go_wp2_with fail
          go_ret
          exact ⟨by rw [HF.out]; rfl, (HA.out.alloc _).lat x⟩
    have HR := Lib.hid (show rowsB o = (risesB (fun a b => or2 (cmpS a.schema b.schema) (cmpS a.name b.name)) o.tables && decide (o.schemas.length ≤ 8)) by
      unfold rowsB
      rw [all_true _ _ fun j hj => (HP.out j (by omega) hj).1, rises_pred (fun a b : Sch => cmpS a.name b.name) _ fun j hj1 hj => (cmpS_lt_iff _ _).2 ((HP.out j (by omega) hj).2 (by omega))]
      rfl)
    clear HP
    go_wp2_with fail
    go_loopw [5] (fun i wr => ∃ k : Nat, 1 ≤ k ∧ (k ≤ o.tables.length ∨ k = 1) ∧ i = .int .i64 k ∧ Aft (w.alloc (.cells #[.slice As o.schemas.length caps, .slice At o.tables.length capt] 29)) wr ∧ ∀ j, j < k → 1 ≤ j → ∀ (hj : j < o.tables.length), or2 (cmpS (o.tables[j - 1]'(by omega)).schema o.tables[j].schema) (cmpS (o.tables[j - 1]'(by omega)).name o.tables[j].name) < 0) (fun i _ => o.tables.length - (intOf i).toNat)
    case atStart => exact ⟨1, by omega, .inr rfl, rfl, HAB.out, fun j hj hj1 => by omega⟩
    case round =>
      clear hbox hfr hz hzk HA HAB
      obtain ⟨k2, hk21, hk2, rfl, ha, hp⟩ := hrel
      have HP := Lib.hid hp; clear hp
      obtain ⟨hbox, hfr, hz, hzk, HA⟩ := aft_box ha
      have HAB := Lib.hid ha
      clear ha
      by_cases hlt2 : k2 < o.tables.length
      · have htt := tabs_aft HA.out htab
        have hk1 : k2 - 1 < o.tables.length := by omega
        obtain ⟨b, off, B2, capB2, B3, capB3, rfl, hb, c0, c1, c2, c3, c4, _⟩ := tab_at htt hlt2
        obtain ⟨b', off', D2, capD2, D3, capD3, hA', hb', e0, e1, e2, e3, e4, _⟩ := tab_at htt hk1
        simp only [Option.some.injEq, Addr.mk.injEq, and_true] at hA'
        obtain ⟨rfl, rfl⟩ := hA'
        obtain ⟨p, hpp⟩ : ∃ p, o.tables[k2] = p := ⟨_, rfl⟩
        obtain ⟨p', hpp'⟩ : ∃ p', (o.tables[k2 - 1]'hk1) = p' := ⟨_, rfl⟩
        rw [hpp] at c0 c1 c2 c3 c4
        rw [hpp'] at e0 e1 e2 e3 e4
        have HO := Lib.hid (show or2 (cmpS (o.tables[k2 - 1]'hk1).schema o.tables[k2].schema) (cmpS (o.tables[k2 - 1]'hk1).name o.tables[k2].name) = or2 (cmpS p'.schema p.schema) (cmpS p'.name p.name) by rw [hpp, hpp'])
        have HOL := Lib.hid (or2_lt p'.schema p.schema p'.name p.name)
        clear hpp hpp' htt
        have w1 : IntKind.i64.wrap ((k2 : Int) - 1) = (k2 : Int) - 1 := IntWalk.i64_in _ (by omega)
        have w2 : (0 : Int) ≤ (k2 : Int) - 1 := by omega
        have w3 : ((k2 : Int) - 1).toNat = k2 - 1 := by omega
        have w4 : (k2 : Int) - 1 < (o.tables.length : Int) := by omega
        cases hG : (!(ltS p'.schema p.schema || eqS p'.schema p.schema))
        · have hG' : (Op.bytesLess p'.schema.toList p.schema.toList || p'.schema.toList == p.schema.toList) = true := by have h1 := hG; rw [Bool.not_eq_false'] at h1; exact h1
          cases hE : eqS p'.schema p.schema
          · have hE' : (p'.schema.toList == p.schema.toList) = false := hE
            have hG2 : Op.bytesLess p'.schema.toList p.schema.toList = true := by rw [hE'] at hG'; simpa using hG'
            have HN := Lib.hid (ext_lt (p := fun j => 1 ≤ j → ∀ (hj : j < o.tables.length), or2 (cmpS (o.tables[j - 1]'(by omega)).schema o.tables[j].schema) (cmpS (o.tables[j - 1]'(by omega)).name o.tables[j].name) < 0) HP.out (fun _ _ => by rw [HO.out]; exact of_decide_eq_true (by rw [HOL.out, hG, hE]; rfl)))
            clear hG hE
            go_wp2_with fail
            go_roundw
            case rel => exact ⟨k2 + 1, by omega, .inl (by omega), by go_num, (HAB.out.alloc _).alloc _, HN.out⟩
            case measure => simp [intOf]; omega
          · have hE' : (p'.schema.toList == p.schema.toList) = true := hE
            cases hL : ltS p'.name p.name
            · have hL' : Op.bytesLess p'.name.toList p.name.toList = false := hL
              have HF := Lib.hid (rowsB_tabr o k2 hlt2 (by omega) (by rw [HO.out]; exact of_decide_eq_false (by rw [HOL.out, hG, hE, hL]; rfl)))
              clear hG hE hL
              go_wp2_with fail
              go_ret
              exact ⟨by rw [HF.out]; rfl, (HA.out.alloc _).alloc _⟩
            · have hL' : Op.bytesLess p'.name.toList p.name.toList = true := hL
              have HN := Lib.hid (ext_lt (p := fun j => 1 ≤ j → ∀ (hj : j < o.tables.length), or2 (cmpS (o.tables[j - 1]'(by omega)).schema o.tables[j].schema) (cmpS (o.tables[j - 1]'(by omega)).name o.tables[j].name) < 0) HP.out (fun _ _ => by rw [HO.out]; exact of_decide_eq_true (by rw [HOL.out, hG, hE, hL]; rfl)))
              clear hG hE hL
              go_wp2_with fail
              go_roundw
              case rel => exact ⟨k2 + 1, by omega, .inl (by omega), by go_num, (HAB.out.alloc _).alloc _, HN.out⟩
              case measure => simp [intOf]; omega
        · have hG' : (Op.bytesLess p'.schema.toList p.schema.toList || p'.schema.toList == p.schema.toList) = false := by have h1 := hG; rw [Bool.not_eq_true'] at h1; exact h1
          have HF := Lib.hid (rowsB_tabr o k2 hlt2 (by omega) (by rw [HO.out]; exact of_decide_eq_false (by rw [HOL.out, hG]; rfl)))
          clear hG
          go_wp2_with fail
          go_ret
          exact ⟨by rw [HF.out]; rfl, (HA.out.alloc _).alloc _⟩
      · have HF := Lib.hid (show rowsB o = decide ((o.schemas.length : Int) ≤ 8) by
          rw [HR.out, rises_pred (fun a b : Tab => or2 (cmpS a.schema b.schema) (cmpS a.name b.name)) _ fun j hj1 hj => HP.out j (by omega) hj1 hj, Bool.true_and]
          by_cases h : o.schemas.length ≤ 8
          · rw [decide_eq_true h, decide_eq_true (by omega)]
          · rw [decide_eq_false h, decide_eq_false (by omega)])
        go_wp2_with fail
        go_ret
        exact ⟨by rw [HF.out]; rfl, HA.out⟩
end Go.Proofs.YtiadkchlkdaceaaGreat

namespace Go.Proofs.YtiadkchlkdaceaaGreat
open Go.RowKit
set_option maxRecDepth 100000
set_option linter.unusedVariables false
theorem rightT_rule (o : Objs) (t : Tab) (k : Nat) (hk : k < t.rules.length) (h : ruleOk o.tables t.cols t.rules[k] = false) : rightT o t = false := by
  unfold rightT; rw [all_false _ _ k hk h]; simp
theorem rightT_rise (o : Objs) (t : Tab) (k : Nat) (hk : k < t.rules.length) (h0 : 0 < k) (h : ltS (t.rules[k - 1]'(by omega)).name t.rules[k].name = false) : rightT o t = false := by
  have h1 : k - 1 + 1 < t.rules.length := by omega
  have e : (t.rules[k - 1 + 1]'h1) = t.rules[k] := by congr 1; omega
  unfold rightT
  rw [risesB_false (fun a b : Rul => cmpS a.name b.name) _ (k - 1) h1]
  · simp
  · rw [e]
    rw [← cmpS_lt] at h
    have := of_decide_eq_false h
    omega
set_option maxHeartbeats 8000000 in
theorem rright_any (o : Objs) (t : Tab) (As : Option Addr) (caps : Nat) (At : Option Addr) (capt : Nat) (A : Option Addr) (cap : Nat) (A2 : Option Addr) (cap2 : Nat) (w : World) (hsch : SlAt w 2 SchR As caps o.schemas) (htab : SlAt w 5 TabR At capt o.tables)
    (h : SlAt w 3 ColR A cap t.cols) (h2 : SlAt w 8 RulR A2 cap2 t.rules) (hn : Small t.name.size) (ho : Small t.owner.size) :
    Calls Tryz.prog 46 #[.agg #[.slice As o.schemas.length caps, .slice At o.tables.length capt], .agg #[.string t.schema, .string t.name, .string t.owner, .slice A t.cols.length cap, .slice A2 t.rules.length cap2]] w
      fun e w' => e = .returned (.bool (rightT o t)) ∧ Aft w w' := by
  have hlen2 := h2.len
  obtain ⟨i, hi⟩ : ∃ i, schAt o.schemas t.schema = i := ⟨_, rfl⟩
  obtain ⟨m, hm⟩ : ∃ m, colsOk t.cols = m := ⟨_, rfl⟩
  have HR0 := Lib.hid (show rightT o t = (nameB t.name && nameB t.owner && m && decide (t.rules.length ≤ 8) && decide (0 ≤ i) && (t.rules.all (ruleOk o.tables t.cols) && risesB (fun a b => cmpS a.name b.name) t.rules)) by unfold rightT; rw [hi, hm])
  have Cs := Lib.hid (show ∀ w', Aft w w' → Calls Tryz.prog 78 #[.agg #[.slice As o.schemas.length caps, .slice At o.tables.length capt], .string t.schema] w' fun e w'' => e = .returned (.int .i64 i) ∧ Aft w' w'' from
    fun w' a => (rsch_any As caps o.schemas _ t.schema w' (schs_aft a hsch)).mono fun e w'' ⟨he, hw⟩ => ⟨he.trans (by rw [← hi]), hw⟩)
  have Cm := Lib.hid (show ∀ w', Aft w w' → Calls Tryz.prog 64 #[.slice A t.cols.length cap] w' fun e w'' => e = .returned (.bool m) ∧ Aft w' w'' from
    fun w' a => (rcols_any A cap t.cols w' (cols_aft a h)).mono fun e w'' ⟨he, hw⟩ => ⟨he.trans (by rw [← hm]), hw⟩)
  clear hi hm
  go_enter Tryz.func46, Tryz.ntmps46
  go_wp2_with fail
  refine (Cs.out _ (((Aft.refl w).alloc _).alloc _)).mono ?_
  rintro e w1 ⟨rfl, a1⟩
  obtain ⟨hbo, hbt, hz, HA⟩ := aft_box2 a1
  have HAB := Lib.hid a1
  clear a1 Cs
  by_cases hi0 : i < 0
  · have HF := Lib.hid (show rightT o t = false by rw [HR0.out, decide_eq_false (show ¬ 0 ≤ i by omega), Bool.and_false]; rfl)
    go_wp2_with fail
    go_ret
    exact ⟨by rw [HF.out]; rfl, HA.out⟩
  have hi1 : 0 ≤ i := by omega
  cases hN : nameB t.name
  · have HF := Lib.hid (show rightT o t = false by rw [HR0.out, hN]; rfl)
    go_wp2_with (go_at_call 72; refine (rname_any _ _ (by first | exact hn.max | exact ho.max)).mono ?_; rintro e w' ⟨rfl, rfl⟩)
    go_ret
    exact ⟨by rw [HF.out]; rfl, HA.out⟩
  cases hO : nameB t.owner
  · have HF := Lib.hid (show rightT o t = false by rw [HR0.out, hN, hO]; rfl)
    go_wp2_with (go_at_call 72; refine (rname_any _ _ (by first | exact hn.max | exact ho.max)).mono ?_; rintro e w' ⟨rfl, rfl⟩)
    go_ret
    exact ⟨by rw [HF.out]; rfl, HA.out⟩
  have HR1 := Lib.hid (show rightT o t = (m && decide (t.rules.length ≤ 8) && (t.rules.all (ruleOk o.tables t.cols) && risesB (fun a b => cmpS a.name b.name) t.rules)) by rw [HR0.out, hN, hO, decide_eq_true hi1]; simp)
  clear HR0
  go_wp2_with (go_at_call 72; refine (rname_any _ _ (by first | exact hn.max | exact ho.max)).mono ?_; rintro e w' ⟨rfl, rfl⟩)
  refine (Cm.out _ HA.out).mono ?_
  rintro e w2 ⟨rfl, a2⟩
  have HAB2 := Lib.hid (HAB.out.trans a2)
  clear a2 Cm HA HAB hbo hbt hz
  obtain ⟨hbo, hbt, hz, HA⟩ := aft_box2 HAB2.out
  cases m
  · have HF := Lib.hid (show rightT o t = false by rw [HR1.out]; rfl)
    go_wp2_with fail
    go_ret
    exact ⟨by rw [HF.out]; rfl, HA.out⟩
  by_cases h8 : 8 < t.rules.length
  · have HF := Lib.hid (show rightT o t = false by rw [HR1.out, decide_eq_false (show ¬ t.rules.length ≤ 8 by omega)]; rfl)
    have h8' : (8 : Int) < (t.rules.length : Int) := by omega
    go_wp2_with fail
    go_ret
    exact ⟨by rw [HF.out]; rfl, HA.out⟩
  have h8' : (t.rules.length : Int) ≤ 8 := by omega
  have d8 : decide ((8 : Int) < (t.rules.length : Int)) = false := decide_eq_false (by omega)
  have HR2 := Lib.hid (show rightT o t = (t.rules.all (ruleOk o.tables t.cols) && risesB (fun a b => cmpS a.name b.name) t.rules) by rw [HR1.out, decide_eq_true (show t.rules.length ≤ 8 by omega)]; rfl)
  clear HR1
  go_wp2_with fail
  go_loopw [5] (fun i wr => ∃ k : Nat, k ≤ t.rules.length ∧ i = .int .i64 k ∧ Aft ((w.alloc (.cells #[.slice As o.schemas.length caps, .slice At o.tables.length capt] 29)).alloc (.cells #[.string t.schema, .string t.name, .string t.owner, .slice A t.cols.length cap, .slice A2 t.rules.length cap2] 76)) wr ∧ ∀ j, j < k → ∀ (hj : j < t.rules.length), ruleOk o.tables t.cols t.rules[j] = true ∧ (0 < j → ltS (t.rules[j - 1]'(by omega)).name t.rules[j].name = true)) (fun i _ => t.rules.length - (intOf i).toNat)
  case atStart => exact ⟨0, Nat.zero_le _, rfl, HAB2.out, fun j hj => absurd hj (Nat.not_lt_zero j)⟩
  case round =>
    clear hbo hbt hz HA HAB2
    obtain ⟨k, hk, rfl, ha, hp⟩ := hrel
    obtain ⟨hbo, hbt, hz, HA⟩ := aft_box2 ha
    have HAB := Lib.hid ha
    have HP := Lib.hid hp; clear hp ha
    by_cases hlt : k < t.rules.length
    · have hr := ruls_aft HA.out h2
      obtain ⟨b, off, D2, capD2, rfl, hb, c0, c1, c2, c3, c4, c5, c6, c7, hcs, s0, s1, s2, s3⟩ := rul_at hr hlt
      obtain ⟨p, hpp⟩ : ∃ p, t.rules[k] = p := ⟨_, rfl⟩
      rw [hpp] at c0 c1 c2 c3 c4 c5 c6 c7 hcs s0 s1 s2 s3
      have HPP := Lib.hid hpp
      obtain ⟨f, hf⟩ : ∃ f, fitsOk t.cols p = f := ⟨_, rfl⟩
      obtain ⟨z, hz'⟩ : ∃ z, keyE o.tables t.cols p = z := ⟨_, rfl⟩
      have HO := Lib.hid (show ruleOk o.tables t.cols t.rules[k] = (f && !(p.kind == 4 && z != 0)) by rw [hpp]; unfold ruleOk; rw [hf, hz'])
      obtain ⟨w3, hw3⟩ : ∃ w3, w3 = wr.alloc (.cells #[.string p.name, .int .i64 p.kind, .slice D2 p.cols.length capD2, .int .i64 p.low, .int .i64 p.high, .string p.schema, .string p.table, .string p.key] 108) := ⟨_, rfl⟩
      have a3 : Aft wr w3 := by rw [hw3]; exact (Aft.refl wr).alloc _
      have hbr : ∀ o', w3.cell? ⟨wr.heap.size, o', none⟩ = (#[.string p.name, .int .i64 p.kind, .slice D2 p.cols.length capD2, .int .i64 p.low, .int .i64 p.high, .string p.schema, .string p.table, .string p.key] : Array Value)[o']? := by intro o'; rw [hw3]; simp
      have hzr : wr.heap.size < w3.heap.size := by rw [hw3]; simp
      have hbo3 : ∀ o', w3.cell? ⟨w.heap.size, o', none⟩ = _ := fun o' => (Below.cell a3 (p := ⟨w.heap.size, o', none⟩) hz.1).trans (hbo o')
      have hbt3 : ∀ o', w3.cell? ⟨w.heap.size + 1, o', none⟩ = _ := fun o' => (Below.cell a3 (p := ⟨w.heap.size + 1, o', none⟩) hz.2).trans (hbt o')
      have hz3 : w.heap.size < w3.heap.size ∧ w.heap.size + 1 < w3.heap.size := ⟨Nat.lt_of_lt_of_le hz.1 a3.size, Nat.lt_of_lt_of_le hz.2 a3.size⟩
      have Cf := Lib.hid (show ∀ x : Lat w3, Calls Tryz.prog 79 #[.slice A t.cols.length cap, .agg #[.string p.name, .int .i64 p.kind, .slice D2 p.cols.length capD2, .int .i64 p.low, .int .i64 p.high, .string p.schema, .string p.table, .string p.key]] (lat w3 x) fun e w'' => e = .returned (.bool f) ∧ Aft (lat w3 x) w'' from
        fun x => (rfits_any A cap t.cols p D2 capD2 (lat w3 x) (cols_aft ((HA.out.trans a3).lat x) h) (strs_aft (a3.lat x) hcs) s0 s1 s2 s3).mono fun e w'' ⟨he, hw⟩ => ⟨he.trans (by rw [← hf]), hw⟩)
      have Ck := Lib.hid (show ∀ w', Aft w3 w' → Calls Tryz.prog 80 #[.agg #[.slice As o.schemas.length caps, .slice At o.tables.length capt], .slice A t.cols.length cap, .agg #[.string p.name, .int .i64 p.kind, .slice D2 p.cols.length capD2, .int .i64 p.low, .int .i64 p.high, .string p.schema, .string p.table, .string p.key]] w' fun e w'' => e = .returned (.int .i64 z) ∧ Aft w' w'' from
        fun w' a => (rkey_any _ At capt o.tables A cap t.cols p D2 capD2 w' (tabs_aft (HA.out.trans (a3.trans a)) htab) (cols_aft (HA.out.trans (a3.trans a)) h) (strs_aft (a3.trans a) hcs)).mono fun e w'' ⟨he, hw⟩ => ⟨he.trans (by rw [← hz']), hw⟩)
      have HA3 := Lib.hid a3
      clear hf hz' hcs
      go_wp2_with fail
      rw [← hw3]
      clear hw3 c0 c1 c2 c3 c4 c5 c6 c7
      by_cases h0 : 0 < k
      · have hk1 : k - 1 < t.rules.length := by omega
        obtain ⟨b', off', D2', capD2', hA', hb', e0, _, _, _, _, _, _, _, _⟩ := rul_at (ruls_aft a3 hr) hk1
        simp only [Option.some.injEq, Addr.mk.injEq, and_true] at hA'
        obtain ⟨rfl, rfl⟩ := hA'
        obtain ⟨p', hpp'⟩ : ∃ p', (t.rules[k - 1]'(by omega)) = p' := ⟨_, rfl⟩
        rw [hpp'] at e0
        have HPP' := Lib.hid hpp'
        have w1' : IntKind.i64.wrap ((k : Int) - 1) = (k : Int) - 1 := IntWalk.i64_in _ (by omega)
        have w2' : (0 : Int) ≤ (k : Int) - 1 := by omega
        have w3' : ((k : Int) - 1).toNat = k - 1 := by omega
        have w4' : (k : Int) - 1 < (t.rules.length : Int) := by omega
        have w5' : decide ((0 : Int) < (k : Int)) = true := decide_eq_true (by omega)
        clear hpp hpp' hr a3
        cases hL : ltS p'.name p.name
        · have hL' : Op.bytesLess p'.name.toList p.name.toList = false := hL
          have HF := Lib.hid (rightT_rise o t k hlt h0 (by rw [HPP.out, HPP'.out]; exact hL))
          clear hL
          refine wp_region_lat (by kernel_rfl) (by kernel_rfl) ?_
          repeat (go_big_quiet_step ((first | (go_at_call 79; exact Calls.lat_of (Cf.out _)))))
          refine wpQuiet_nil ?_
          intro _ hw'
          obtain ⟨x, hw''⟩ := hw'
          subst hw''
          go_wp2_with fail
          go_ret
          exact ⟨by rw [HF.out]; rfl, (HA.out.trans HA3.out).lat x⟩
        have hL' : Op.bytesLess p'.name.toList p.name.toList = true := hL
        have HLT := Lib.hid (show 0 < k → ltS (t.rules[k - 1]'(by omega)).name t.rules[k].name = true by intro _; rw [HPP.out, HPP'.out]; exact hL)
        clear hL
        cases f
        · have HF := Lib.hid (rightT_rule o t k hlt (by rw [HO.out]; rfl))
          refine wp_region_lat (by kernel_rfl) (by kernel_rfl) ?_
          repeat (go_big_quiet_step ((first | (go_at_call 79; exact Calls.lat_of (Cf.out _)))))
          refine wpQuiet_nil ?_
          intro _ hw'
          obtain ⟨x, hw''⟩ := hw'
          subst hw''
          go_wp2_with fail
          go_ret
          exact ⟨by rw [HF.out]; rfl, (HA.out.trans HA3.out).lat x⟩
        refine wp_region_lat (by kernel_rfl) (by kernel_rfl) ?_
        repeat (go_big_quiet_step ((first | (go_at_call 79; exact Calls.lat_of (Cf.out _)))))
        refine wpQuiet_nil ?_
        intro _ hw'
        obtain ⟨x, hw''⟩ := hw'
        subst hw''
        cases h4 : (p.kind == 4)
        · have HN := Lib.hid (ext_lt (p := fun j => ∀ (hj : j < t.rules.length), ruleOk o.tables t.cols t.rules[j] = true ∧ (0 < j → ltS (t.rules[j - 1]'(by omega)).name t.rules[j].name = true)) HP.out (fun _ => ⟨by rw [HO.out, h4]; rfl, HLT.out⟩))
          go_wp2_with fail
          go_roundw
          case rel => exact ⟨k + 1, by omega, by go_num, (HAB.out.trans HA3.out).lat x, HN.out⟩
          case measure => simp [intOf]; omega
        · go_wp2_with fail
          refine (Ck.out _ ((Aft.refl w3).lat x)).mono ?_
          rintro e w4 ⟨rfl, a4⟩
          have HA4 := Lib.hid ((HA3.out.lat x).trans a4)
          clear a4 Ck hbo3 hbt3 hbr
          cases z0 : (z != 0)
          · have HN := Lib.hid (ext_lt (p := fun j => ∀ (hj : j < t.rules.length), ruleOk o.tables t.cols t.rules[j] = true ∧ (0 < j → ltS (t.rules[j - 1]'(by omega)).name t.rules[j].name = true)) HP.out (fun _ => ⟨by rw [HO.out, h4, z0]; rfl, HLT.out⟩))
            go_wp2_with fail
            go_roundw
            case rel => exact ⟨k + 1, by omega, by go_num, HAB.out.trans HA4.out, HN.out⟩
            case measure => simp [intOf]; omega
          · have HF := Lib.hid (rightT_rule o t k hlt (by rw [HO.out, h4, z0]; rfl))
            go_wp2_with fail
            go_ret
            exact ⟨by rw [HF.out]; rfl, HA.out.trans HA4.out⟩
      · have w5' : decide ((0 : Int) < (k : Int)) = false := decide_eq_false (by omega)
        have w6' : (k : Int) ≤ 0 := by omega
        have HLT := Lib.hid (show 0 < k → ltS (t.rules[k - 1]'(by omega)).name t.rules[k].name = true from fun h => absurd h h0)
        clear hpp hr a3
        cases f
        · have HF := Lib.hid (rightT_rule o t k hlt (by rw [HO.out]; rfl))
          refine wp_region_lat (by kernel_rfl) (by kernel_rfl) ?_
          repeat (go_big_quiet_step ((first | (go_at_call 79; exact Calls.lat_of (Cf.out _)))))
          refine wpQuiet_nil ?_
          intro _ hw'
          obtain ⟨x, hw''⟩ := hw'
          subst hw''
          go_wp2_with fail
          go_ret
          exact ⟨by rw [HF.out]; rfl, (HA.out.trans HA3.out).lat x⟩
        refine wp_region_lat (by kernel_rfl) (by kernel_rfl) ?_
        repeat (go_big_quiet_step ((first | (go_at_call 79; exact Calls.lat_of (Cf.out _)))))
        refine wpQuiet_nil ?_
        intro _ hw'
        obtain ⟨x, hw''⟩ := hw'
        subst hw''
        cases h4 : (p.kind == 4)
        · have HN := Lib.hid (ext_lt (p := fun j => ∀ (hj : j < t.rules.length), ruleOk o.tables t.cols t.rules[j] = true ∧ (0 < j → ltS (t.rules[j - 1]'(by omega)).name t.rules[j].name = true)) HP.out (fun _ => ⟨by rw [HO.out, h4]; rfl, HLT.out⟩))
          go_wp2_with fail
          go_roundw
          case rel => exact ⟨k + 1, by omega, by go_num, (HAB.out.trans HA3.out).lat x, HN.out⟩
          case measure => simp [intOf]; omega
        · go_wp2_with fail
          refine (Ck.out _ ((Aft.refl w3).lat x)).mono ?_
          rintro e w4 ⟨rfl, a4⟩
          have HA4 := Lib.hid ((HA3.out.lat x).trans a4)
          clear a4 Ck hbo3 hbt3 hbr
          cases z0 : (z != 0)
          · have HN := Lib.hid (ext_lt (p := fun j => ∀ (hj : j < t.rules.length), ruleOk o.tables t.cols t.rules[j] = true ∧ (0 < j → ltS (t.rules[j - 1]'(by omega)).name t.rules[j].name = true)) HP.out (fun _ => ⟨by rw [HO.out, h4, z0]; rfl, HLT.out⟩))
            go_wp2_with fail
            go_roundw
            case rel => exact ⟨k + 1, by omega, by go_num, HAB.out.trans HA4.out, HN.out⟩
            case measure => simp [intOf]; omega
          · have HF := Lib.hid (rightT_rule o t k hlt (by rw [HO.out, h4, z0]; rfl))
            go_wp2_with fail
            go_ret
            exact ⟨by rw [HF.out]; rfl, HA.out.trans HA4.out⟩
    · have HF := Lib.hid (show rightT o t = true by
        rw [HR2.out, all_true _ _ fun j hj => (HP.out j (by omega) hj).1, rises_pred (fun a b : Rul => cmpS a.name b.name) _ fun j hj1 hj => (cmpS_lt_iff _ _).2 ((HP.out j (by omega) hj).2 (by omega))]; rfl)
      go_wp2_with fail
      go_ret
      exact ⟨by rw [HF.out]; rfl, HA.out⟩
theorem checkO_rows (o : Objs) : checkO o = (decide (o.schemas.length ≤ 8) && decide (o.tables.length ≤ 64) && rowsB o && o.tables.all (rightT o)) := by
  unfold checkO headOk rowsB
  cases decide (o.schemas.length ≤ 8) <;> cases decide (o.tables.length ≤ 64) <;> cases o.schemas.all (schOk o) <;> simp [Bool.and_comm]
set_option maxHeartbeats 8000000 in
theorem rRight_any (o : Objs) (As : Option Addr) (caps : Nat) (At : Option Addr) (capt : Nat) (w : World) (hsch : SlAt w 2 SchR As caps o.schemas) (htab : SlAt w 5 TabR At capt o.tables) :
    Calls Tryz.prog 20 #[.agg #[.slice As o.schemas.length caps, .slice At o.tables.length capt]] w
      fun e w' => e = .returned (.bool (checkO o)) ∧ Aft w w' := by
  have hlen := hsch.len
  have hlen2 := htab.len
  have HR0 := Lib.hid (checkO_rows o)
  by_cases d1 : 8 < o.schemas.length
  · have HF := Lib.hid (show checkO o = false by rw [HR0.out, decide_eq_false (show ¬ o.schemas.length ≤ 8 by omega)]; rfl)
    have e1 : (8 : Int) < (o.schemas.length : Int) := by omega
    go_enter Tryz.func20, Tryz.ntmps20
    go_wp2_with fail
    go_ret
    exact ⟨by rw [HF.out]; rfl, (Aft.refl _).alloc _⟩
  have e1 : (o.schemas.length : Int) ≤ 8 := by omega
  by_cases d2 : 64 < o.tables.length
  · have HF := Lib.hid (show checkO o = false by rw [HR0.out, decide_eq_false (show ¬ o.tables.length ≤ 64 by omega), Bool.and_false]; rfl)
    have e2 : (64 : Int) < (o.tables.length : Int) := by omega
    go_enter Tryz.func20, Tryz.ntmps20
    go_wp2_with fail
    go_ret
    exact ⟨by rw [HF.out]; rfl, (Aft.refl _).alloc _⟩
  have e2 : (o.tables.length : Int) ≤ 64 := by omega
  obtain ⟨g, hg⟩ : ∃ g, rowsB o = g := ⟨_, rfl⟩
  have HR := Lib.hid (show checkO o = (g && o.tables.all (rightT o)) by rw [HR0.out, decide_eq_true (show o.schemas.length ≤ 8 by omega), decide_eq_true (show o.tables.length ≤ 64 by omega), hg]; rfl)
  have C1 := Lib.hid (show ∀ w', Aft w w' → Calls Tryz.prog 45 #[.agg #[.slice As o.schemas.length caps, .slice At o.tables.length capt]] w' fun e w'' => e = .returned (.bool g) ∧ Aft w' w'' from
    fun w' a => (rrows_any o As caps At capt w' (schs_aft a hsch) (tabs_aft a htab)).mono fun e w'' ⟨he, hw⟩ => ⟨he.trans (by rw [← hg]), hw⟩)
  clear hg HR0
  go_enter Tryz.func20, Tryz.ntmps20
  go_wp2_with fail
  refine (C1.out _ ((Aft.refl w).alloc _)).mono ?_
  rintro e w1 ⟨rfl, a1⟩
  obtain ⟨hbox, hfr, hz, hzk, HA⟩ := aft_box a1
  have HAB := Lib.hid a1
  clear a1 C1
  cases g
  · have HF := Lib.hid (show checkO o = false by rw [HR.out]; rfl)
    go_wp2_with fail
    go_ret
    exact ⟨by rw [HF.out]; rfl, HA.out⟩
  have HR2 := Lib.hid (show checkO o = o.tables.all (rightT o) by rw [HR.out]; rfl)
  clear HR
  go_wp2_with fail
  go_loopw [3] (fun i wr => ∃ k : Nat, k ≤ o.tables.length ∧ i = .int .i64 k ∧ Aft (w.alloc (.cells #[.slice As o.schemas.length caps, .slice At o.tables.length capt] 29)) wr ∧ ∀ j, j < k → ∀ (hj : j < o.tables.length), rightT o o.tables[j] = true) (fun i _ => o.tables.length - (intOf i).toNat)
  case atStart => exact ⟨0, Nat.zero_le _, rfl, HAB.out, fun j hj => absurd hj (Nat.not_lt_zero j)⟩
  case round =>
    clear hbox hfr hz hzk HA HAB
    obtain ⟨k2, hk2, rfl, ha, hp⟩ := hrel
    obtain ⟨hbox, hfr, hz, hzk, HA⟩ := aft_box ha
    have HAB := Lib.hid ha
    have HP := Lib.hid hp
    clear ha hp
    by_cases hlt2 : k2 < o.tables.length
    · have htt := tabs_aft HA.out htab
      have hss := schs_aft HA.out hsch
      obtain ⟨b, off, B2, capB2, B3, capB3, rfl, hb, c0, c1, c2, c3, c4, hcols, hrules, s0, s1, s2⟩ := tab_at htt hlt2
      obtain ⟨p, hpp⟩ : ∃ p, o.tables[k2] = p := ⟨_, rfl⟩
      rw [hpp] at c0 c1 c2 c3 c4 hcols hrules s0 s1 s2
      obtain ⟨f, hf⟩ : ∃ f, rightT o p = f := ⟨_, rfl⟩
      have HO := Lib.hid (show rightT o o.tables[k2] = f by rw [hpp]; exact hf)
      have Cr := Lib.hid (show ∀ x : Lat wr, Calls Tryz.prog 46 #[.agg #[.slice As o.schemas.length caps, .slice (some ⟨b, off, none⟩) o.tables.length capt], .agg #[.string p.schema, .string p.name, .string p.owner, .slice B2 p.cols.length capB2, .slice B3 p.rules.length capB3]] (lat wr x) fun e w' => e = .returned (.bool f) ∧ Aft (lat wr x) w' from
        fun x => (rright_any o p As caps _ capt B2 capB2 B3 capB3 (lat wr x) (schs_aft ((Aft.refl wr).lat x) hss) (tabs_aft ((Aft.refl wr).lat x) htt) (cols_aft ((Aft.refl wr).lat x) hcols) (ruls_aft ((Aft.refl wr).lat x) hrules) s1 s2).mono fun e w'' ⟨he, hw⟩ => ⟨he.trans (by rw [← hf]), hw⟩)
      clear hf hpp htt hss hcols hrules
      go_wp2_with fail
      refine wp_region_lat (by kernel_rfl) (by kernel_rfl) ?_
      repeat (go_big_quiet_step ((first | (go_at_call 46; exact Calls.lat_of (Cr.out _)))))
      refine wpQuiet_nil ?_
      intro _ hw'
      obtain ⟨x, hw''⟩ := hw'
      subst hw''
      cases f
      · have HF := Lib.hid (show checkO o = false by rw [HR2.out, all_false _ _ k2 hlt2 HO.out])
        go_wp2_with fail
        go_ret
        exact ⟨by rw [HF.out]; rfl, HA.out.lat x⟩
      · have HN := Lib.hid (ext_lt (p := fun j => ∀ (hj : j < o.tables.length), rightT o o.tables[j] = true) HP.out (fun _ => HO.out))
        go_wp2_with fail
        go_roundw
        case rel => exact ⟨k2 + 1, by omega, by go_num, HAB.out.lat x, HN.out⟩
        case measure => simp [intOf]; omega
    · have HF := Lib.hid (show checkO o = true by rw [HR2.out, all_true _ _ fun j hj => HP.out j (by omega) hj])
      go_wp2_with fail
      go_ret
      exact ⟨by rw [HF.out]; rfl, HA.out⟩
end Go.Proofs.YtiadkchlkdaceaaGreat

namespace Go.Proofs.YtiadkchlkdaceaaGreat
open Go.RowKit Go.Deep
set_option maxRecDepth 100000
set_option linter.unusedVariables false
def zeroT : Tab := ⟨⟨#[]⟩, ⟨#[]⟩, ⟨#[]⟩, [], []⟩
def findR (o : Objs) (s n : ByteArray) : Tab × Int :=
  if checkO o then (match o.tables[(tabAt o.tables s n).toNat]? with | some t => if tabAt o.tables s n < 0 then (zeroT, 61) else (t, 0) | none => (zeroT, 61)) else (zeroT, 63)
theorem findR_no {o : Objs} {s n : ByteArray} (h : checkO o = false) : findR o s n = (zeroT, 63) := by unfold findR; rw [h]; rfl
theorem findR_none {o : Objs} {s n : ByteArray} (h : checkO o = true) (hi : tabAt o.tables s n < 0) : findR o s n = (zeroT, 61) := by
  unfold findR; rw [h, if_pos rfl]; split
  · rw [if_pos hi]
  · rfl
theorem findR_some {o : Objs} {s n : ByteArray} {q : Nat} (h : checkO o = true) (hi : tabAt o.tables s n = q) (hq : q < o.tables.length) : findR o s n = (o.tables[q], 0) := by
  unfold findR; rw [h, if_pos rfl, hi]
  simp only [Int.toNat_natCast, List.getElem?_eq_getElem hq]
  rw [if_neg (by omega)]
def FindP (w : World) (r : Tab × Int) (e : Ending) (w' : World) : Prop :=
  ∃ x : OTab, x.t = r.1 ∧ e = .returned (.tuple #[.agg #[.string r.1.schema, .string r.1.name, .string r.1.owner, .slice x.hc.a r.1.cols.length x.hc.c, .slice x.hr.a r.1.rules.length x.hr.c], .int .i64 r.2]) ∧ Aft w w' ∧ TabIn w' w.heap.size x ∧ x.blks.Nodup
theorem findP_zero {w w' : World} {c : Int} (a : Aft w w') : FindP w (zeroT, c) (.returned (.tuple #[.agg #[.string ⟨#[]⟩, .string ⟨#[]⟩, .string ⟨#[]⟩, .slice none 0 0, .slice none 0 0], .int .i64 c])) w' :=
  ⟨⟨⟨#[]⟩, ⟨#[]⟩, ⟨#[]⟩, [], [], ⟨none, 0, 0⟩, ⟨none, 0, 0⟩⟩, rfl, rfl, a, ⟨own_nil _ _ _ _, own_nil _ _ _ _, fun x hx => by simp at hx⟩, by simp [OTab.blks, blk_nil]⟩
theorem setT_row {w : World} {b : Nat} {xs : List Value} (h : RowAt w b xs) (hl : xs.length = 5) (v0 v1 v2 v3 v4 : Value) : RowAt (((((w.setCell ⟨b, 0, none⟩ v0).setCell ⟨b, 1, none⟩ v1).setCell ⟨b, 2, none⟩ v2).setCell ⟨b, 3, none⟩ v3).setCell ⟨b, 4, none⟩ v4) b [v0, v1, v2, v3, v4] := by
  match xs, hl with
  | [a, b, c, d, e], _ => exact ((((h.set 0 _ (by simp)).set 1 _ (by simp)).set 2 _ (by simp)).set 3 _ (by simp)).set 4 _ (by simp)
theorem setT_kb (w : World) (b : Nat) (v0 v1 v2 v3 v4 : Value) : Kb (fun g => g = b) w (((((w.setCell ⟨b, 0, none⟩ v0).setCell ⟨b, 1, none⟩ v1).setCell ⟨b, 2, none⟩ v2).setCell ⟨b, 3, none⟩ v3).setCell ⟨b, 4, none⟩ v4) :=
  ((((Kb.set _ _ _ _).trans (Kb.set _ _ _ _)).trans (Kb.set _ _ _ _)).trans (Kb.set _ _ _ _)).trans (Kb.set _ _ _ _)
set_option maxHeartbeats 8000000 in
theorem find_in (o : Objs) (As : Option Addr) (caps : Nat) (At : Option Addr) (capt : Nat) (s n : ByteArray) (w : World) (hsch : SlAt w 2 SchR As caps o.schemas) (htab : SlAt w 5 TabR At capt o.tables) :
    Calls Tryz.prog 24 #[.agg #[.slice As o.schemas.length caps, .slice At o.tables.length capt], .string s, .string n] w (FindP w (findR o s n)) := by
  have hlen := hsch.len
  have hlen2 := htab.len
  have l1 : w.heap.size < w.heap.size + 1 := by omega
  have l2 : w.heap.size < w.heap.size + 1 + 1 := by omega
  obtain ⟨W, hW⟩ : ∃ W, W = (w.alloc (.cells #[.slice As o.schemas.length caps, .slice At o.tables.length capt] 29)).alloc (.cells #[.string ⟨#[]⟩, .string ⟨#[]⟩, .string ⟨#[]⟩, .slice none 0 0, .slice none 0 0] 76) := ⟨_, rfl⟩
  have aW : Aft w W := by rw [hW]; exact ((Aft.refl w).alloc _).alloc _
  have r1 : RowAt W w.heap.size [.slice As o.schemas.length caps, .slice At o.tables.length capt] := by rw [hW]; exact (box_row2 (Aft.refl _)).aft ((Aft.refl _).alloc _)
  have r2 : RowAt W (w.heap.size + 1) [.string ⟨#[]⟩, .string ⟨#[]⟩, .string ⟨#[]⟩, .slice none 0 0, .slice none 0 0] := by
    rw [hW]
    have := (box_row2 (w := w.alloc (.cells #[.slice As o.schemas.length caps, .slice At o.tables.length capt] 29)) (c := [.string ⟨#[]⟩, .string ⟨#[]⟩, .string ⟨#[]⟩, .slice none 0 0, .slice none 0 0]) (t := 76) (Aft.refl _))
    simpa using this
  have zW : W.heap.size = w.heap.size + 2 := by rw [hW]; simp
  obtain ⟨c, hc⟩ : ∃ c, checkO o = c := ⟨_, rfl⟩
  obtain ⟨i, hi⟩ : ∃ i, tabAt o.tables s n = i := ⟨_, rfl⟩
  have hir : -1 ≤ i ∧ i < o.tables.length := by rw [← hi]; exact idxP_range _ _
  have CK := Lib.hid (show ∀ w', Aft w w' → Calls Tryz.prog 23 #[.agg #[.slice As o.schemas.length caps, .slice At o.tables.length capt]] w' fun e w'' => e = .returned (.int .i64 (if c = true then 0 else 63)) ∧ Aft w' w'' from
    fun w' a => (check_any o As caps At capt w' (schs_aft a hsch) (tabs_aft a htab)).mono fun e w'' ⟨he, hw⟩ => ⟨he.trans (by unfold checkE; rw [hc]), hw⟩)
  have CW := Lib.hid (show ∀ w', Aft w w' → Calls Tryz.prog 59 #[.agg #[.slice As o.schemas.length caps, .slice At o.tables.length capt], .string s, .string n] w' fun e w'' => e = .returned (.tuple #[.int .i64 i, .bool (decide (0 ≤ i))]) ∧ Aft w' w'' from
    fun w' a => (where_any (.slice As o.schemas.length caps) At capt o.tables s n w' (tabs_aft a htab)).mono fun e w'' ⟨he, hw⟩ => ⟨he.trans (by rw [hi]), hw⟩)
  have HC := Lib.hid hc
  have HI := Lib.hid hi
  have HT := Lib.hid htab
  have HAW := Lib.hid aW
  have HR1 := Lib.hid r1
  have HR2 := Lib.hid r2
  have HZ := Lib.hid zW
  clear hc hi hsch htab r1 r2 aW zW
  go_enter Tryz.func24, Tryz.ntmps24
  go_wp2_with fail
  rw [← hW]
  clear hW
  refine (CK.out W HAW.out).mono ?_
  rintro e w1 ⟨rfl, a1⟩
  have b2 := HR2.out.aft a1
  have d0 := b2.cell (j := 0) rfl
  have d1 := b2.cell (j := 1) rfl
  have d2 := b2.cell (j := 2) rfl
  have d3 := b2.cell (j := 3) rfl
  have d4 := b2.cell (j := 4) rfl
  have f0 := b2.2.2 0 (by simp)
  have f1 := b2.2.2 1 (by simp)
  have f2 := b2.2.2 2 (by simp)
  have f3 := b2.2.2 3 (by simp)
  have f4 := b2.2.2 4 (by simp)
  have z2 := b2.1
  have HA1 := Lib.hid (HAW.out.trans a1)
  have HB2 := Lib.hid b2
  have b1 := HR1.out.aft a1
  have c0 := b1.cell (j := 0) rfl
  have c1 := b1.cell (j := 1) rfl
  have z1 := b1.1
  have HB1 := Lib.hid b1
  have HZ1 := Lib.hid (show w.heap.size + 2 ≤ w1.heap.size by have := a1.size; have := HZ.out; omega)
  clear a1 b2 b1
  cases c
  · go_wp2_with fail
    refine bodyPost_ret (results_cell_tmp (v := .agg #[.string ⟨#[]⟩, .string ⟨#[]⟩, .string ⟨#[]⟩, .slice none 0 0, .slice none 0 0]) rfl _ rfl ?hl) rfl ?_
    case hl => exact lvTab_row (setT_row HB2.out rfl _ _ _ _ _)
    rw [findR_no HC.out]
    exact findP_zero ((setT_kb _ _ _ _ _ _ _).to_aft HA1.out (fun g hg e => by omega))
  · go_wp2_with fail
    refine (CW.out w1 HA1.out).mono ?_
    rintro e w2 ⟨rfl, a2⟩
    have b2 := HB2.out.aft a2
    have d0 := b2.cell (j := 0) rfl
    have d1 := b2.cell (j := 1) rfl
    have d2 := b2.cell (j := 2) rfl
    have d3 := b2.cell (j := 3) rfl
    have d4 := b2.cell (j := 4) rfl
    have f0 := b2.2.2 0 (by simp)
    have f1 := b2.2.2 1 (by simp)
    have f2 := b2.2.2 2 (by simp)
    have f3 := b2.2.2 3 (by simp)
    have f4 := b2.2.2 4 (by simp)
    have z2 := b2.1
    have HA2 := Lib.hid (HA1.out.trans a2)
    have HB2' := Lib.hid b2
    have b1 := HB1.out.aft a2
    have c1 := b1.cell (j := 1) rfl
    have z1 := b1.1
    have HZ2 := Lib.hid (show w.heap.size + 2 ≤ w2.heap.size by have := a2.size; have := HZ1.out; omega)
    clear a2 b2 b1
    by_cases h0 : 0 ≤ i
    · obtain ⟨q, rfl⟩ := Int.eq_ofNat_of_zero_le h0
      have hq : q < o.tables.length := by omega
      obtain ⟨b, off, A2, cap2, A3, cap3, rfl, hb, t0, t1, t2, t3, t4, hcols, hruls, hss⟩ := tab_at (tabs_aft HA2.out HT.out) hq
      have hd : decide (0 ≤ (q : Int)) = true := by simp
      have CP := Lib.hid (copied_in o.tables[q] A2 cap2 A3 cap3 w2 hcols hruls (by have := (check_mod HC.out).2.2 o.tables[q] (List.getElem_mem hq); exact this))
      have HE := Lib.hid (findR_some HC.out HI.out hq)
      obtain ⟨p, hp⟩ : ∃ p, o.tables[q] = p := ⟨_, rfl⟩
      rw [hp] at t0 t1 t2 t3 t4 CP HE
      clear hp hcols hruls hss h0 hir
      go_wp2_with fail
      refine CP.out.mono ?_
      rintro e w3 ⟨x, hx, rfl, a3, tin, xnd⟩
      have b2 := HB2'.out.aft a3
      have d0 := b2.cell (j := 0) rfl
      have d1 := b2.cell (j := 1) rfl
      have d2 := b2.cell (j := 2) rfl
      have d3 := b2.cell (j := 3) rfl
      have d4 := b2.cell (j := 4) rfl
      have f0 := b2.2.2 0 (by simp)
      have f1 := b2.2.2 1 (by simp)
      have f2 := b2.2.2 2 (by simp)
      have f3 := b2.2.2 3 (by simp)
      have f4 := b2.2.2 4 (by simp)
      have z2 := b2.1
      have HA3 := Lib.hid (HA2.out.trans a3)
      have HB3 := Lib.hid b2
      have HTI := Lib.hid tin
      have HX := Lib.hid hx
      have HN := Lib.hid xnd
      clear a3 b2 tin hx xnd
      go_wp2_with fail
      refine bodyPost_ret (results_cell_tmp (v := .agg #[.string p.schema, .string p.name, .string p.owner, .slice x.hc.a p.cols.length x.hc.c, .slice x.hr.a p.rules.length x.hr.c]) rfl _ rfl ?hl) rfl ?_
      case hl => exact lvTab_row (setT_row HB3.out rfl _ _ _ _ _)
      rw [HE.out]
      refine ⟨x, HX.out, rfl, (setT_kb _ _ _ _ _ _ _).to_aft HA3.out (fun g hg e => by omega), ?_, HN.out⟩
      have hz2 := HZ2.out
      refine TabIn.down (HTI.out.kb (setT_kb _ _ _ _ _ _ _) fun g hg e => ?_) (show w.heap.size ≤ w2.heap.size by omega)
      have := (HTI.out.lt g hg).1
      omega
    · have hd : decide (0 ≤ i) = false := by simpa using h0
      go_wp2_with fail
      refine bodyPost_ret (results_cell_tmp (v := .agg #[.string ⟨#[]⟩, .string ⟨#[]⟩, .string ⟨#[]⟩, .slice none 0 0, .slice none 0 0]) rfl _ rfl ?hl3) rfl ?_
      case hl3 => exact lvTab_row (setT_row HB2'.out rfl _ _ _ _ _)
      rw [findR_none HC.out (by rw [HI.out]; omega)]
      exact findP_zero ((setT_kb _ _ _ _ _ _ _).to_aft HA2.out (fun g hg e => by omega))
end Go.Proofs.YtiadkchlkdaceaaGreat

