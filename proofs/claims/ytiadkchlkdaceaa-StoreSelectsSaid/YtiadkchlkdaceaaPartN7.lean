/- Contracts of the program, part 7. -/
import Derived.Deep.RegionHeld3
import Derived.OwnWalk
import Derived.Laws.AppendOwn
import Derived.ProofKit
import Derived.OpenShut
import Derived.Deep.Slices
import Derived.ChangeOld
import Derived.SizedLaws
import Derived.WalkKit
import Derived.WalkSpells
import Derived.WalkLawsBesides
import Derived.Lib.Hide
import Derived.Deep.QuietTactic
import Derived.BigQuiet
import Derived.Below
import Derived.Deep.Draws
import Derived.StillTailTactics
import Derived.Laws.Cells
import Derived.Laws.IdiomCopy
import Derived.Test.YtiadkchlkdaceaaRows
import Derived.Lib.Bytealg
import Derived.IntWalk
import Derived.Deep.Onto
import Derived.ShutString
import Derived.LaidEqlPtr
import Derived.Shelf.SlSortCmp.WholeK
import Derived.Lib.SliceRun
import Derived.Deep.AppendLies
import Derived.Deep.Upon
import Derived.OneCell
import Derived.Deep.DeepMust
import Derived.Deep.RegionLaw
import Derived.RangeFuncNested
import Derived.RangeFuncBound
import Derived.RangeFuncCalls
import Derived.RangeFuncLeaves
import Derived.Shelf.Abstract
import Derived.Shelf.RegionOpen
import Derived.OwnWalkIn
import Derived.TacticsInMore
import Derived.LoopNIn
import Derived.LoopIn
import Derived.Sort.QuietTacIn
import Derived.NoCompiler
import Derived.Test.YtiadkchlkdaceaaPartN1
import Derived.Test.YtiadkchlkdaceaaPartN2
import Derived.Test.YtiadkchlkdaceaaPartN3
import Derived.Test.YtiadkchlkdaceaaPartN4
import Derived.Test.YtiadkchlkdaceaaPartN5
import Derived.Test.YtiadkchlkdaceaaPartN6
namespace Go.Proofs.Ytiadkchlkdaceaa
open Go.RowKit
set_option maxRecDepth 100000
set_option linter.unusedVariables false
theorem RowAt.far {w : World} {b : Nat} {xs : List Value} (h : RowAt w b xs) {g : Nat} (hne : g ≠ b) (j : Nat) (v : Value) : RowAt (w.setCell ⟨g, j, none⟩ v) b xs :=
  ⟨by simpa using h.1, fun k hk => by refine (World.cell?_setCell_other _ _ _ _ ?_).trans (h.2.1 k hk); intro e; injection e with e1; exact hne e1, fun k hk => by rw [World.frozen?_setCell]; exact h.2.2 k hk⟩
theorem box_row {w W : World} {c : List Value} {t : TypeId} (h : Aft (w.alloc (.cells c.toArray t)) W) : RowAt W w.heap.size c := by
  obtain ⟨hb, hf, hz, _, _⟩ := aft_box h
  exact ⟨hz.1, fun j hj => by rw [hb]; simp, fun j _ => hf j⟩
theorem some_set {w : World} {q : Addr} (h : (w.cell? q).isSome = true) (p : Addr) (v : Value) : ((w.setCell p v).cell? q).isSome = true := by
  obtain ⟨u, hu⟩ := Option.isSome_iff_exists.1 h
  by_cases e : p = q
  · subst e; rw [World.cell?_setCell_same (h := hu)]; rfl
  · rw [World.cell?_setCell_other (h := e)]; exact h
theorem keep_row {w : World} {n a b c d g : Nat} {V : Value} (hS : w.cell? ⟨n, 4, none⟩ = some V ∧ (w.cell? ⟨g, a, none⟩).isSome = true ∧ (w.cell? ⟨g, b, none⟩).isSome = true ∧ (w.cell? ⟨g, c, none⟩).isSome = true ∧ (w.cell? ⟨g, d, none⟩).isSome = true ∧ w.frozen? ⟨g, a, none⟩ = false ∧ w.frozen? ⟨g, b, none⟩ = false ∧ w.frozen? ⟨g, c, none⟩ = false ∧ w.frozen? ⟨g, d, none⟩ = false) (hne : g ≠ n) (j : Nat) (v : Value) :
    (w.setCell ⟨g, j, none⟩ v).cell? ⟨n, 4, none⟩ = some V ∧ ((w.setCell ⟨g, j, none⟩ v).cell? ⟨g, a, none⟩).isSome = true ∧ ((w.setCell ⟨g, j, none⟩ v).cell? ⟨g, b, none⟩).isSome = true ∧ ((w.setCell ⟨g, j, none⟩ v).cell? ⟨g, c, none⟩).isSome = true ∧ ((w.setCell ⟨g, j, none⟩ v).cell? ⟨g, d, none⟩).isSome = true ∧ (w.setCell ⟨g, j, none⟩ v).frozen? ⟨g, a, none⟩ = false ∧ (w.setCell ⟨g, j, none⟩ v).frozen? ⟨g, b, none⟩ = false ∧ (w.setCell ⟨g, j, none⟩ v).frozen? ⟨g, c, none⟩ = false ∧ (w.setCell ⟨g, j, none⟩ v).frozen? ⟨g, d, none⟩ = false := by
  obtain ⟨h1, h2, h3, h4, h5, h6⟩ := hS
  refine ⟨?_, some_set h2 _ _, some_set h3 _ _, some_set h4 _ _, some_set h5 _ _, by simpa using h6⟩
  refine (World.cell?_setCell_other _ _ _ _ ?_).trans h1
  intro e; injection e with e1; exact hne e1
theorem RowAt.put4 {w : World} {g : Nat} {cs : List (List Value)} (hr : RowAt w g cs.flatten) (hl : ∀ c ∈ cs, c.length = 8) (k : Nat) (hk : k < cs.length) {a b c d e f x y : Value} (hcs : cs[k] = [a, b, c, d, e, f, x, y]) (b' f' x' y' : Value) :
    RowAt ((((w.setCell ⟨g, k * 8 + 1, none⟩ b').setCell ⟨g, k * 8 + 5, none⟩ f').setCell ⟨g, k * 8 + 6, none⟩ x').setCell ⟨g, k * 8 + 7, none⟩ y') g (cs.set k [a, b', c, d, e, f', x', y']).flatten := by
  have hset : ∀ (n : List Value), n.length = 8 → ∀ z ∈ cs.set k n, z.length = 8 := by
    intro n hn z hz
    rcases List.mem_or_eq_of_mem_set hz with h | h
    · exact hl z h
    · rw [h]; exact hn
  have p1 := hr.put hl k 1 hk (by decide) b'
  rw [hcs] at p1
  simp only [List.set_cons_succ, List.set_cons_zero] at p1
  have p2 := p1.put (hset _ rfl) k 5 (by simpa using hk) (by decide) f'
  rw [List.set_set, List.getElem_set_self] at p2
  simp only [List.set_cons_succ, List.set_cons_zero] at p2
  have p3 := p2.put (hset _ rfl) k 6 (by simpa using hk) (by decide) x'
  rw [List.set_set, List.getElem_set_self] at p3
  simp only [List.set_cons_succ, List.set_cons_zero] at p3
  have p4 := p3.put (hset _ rfl) k 7 (by simpa using hk) (by decide) y'
  rw [List.set_set, List.getElem_set_self] at p4
  simp only [List.set_cons_succ, List.set_cons_zero] at p4
  exact p4
theorem lvObj_rowA {W : World} {b : Nat} {a c : Value} (h : RowAt W b [a, c]) : (loadVar 25 ⟨b, 0, none⟩).run Try.prog W = .ok (.agg #[a, c]) W := by
  have e0 := h.cell (j := 0) rfl
  have e1 := h.cell (j := 1) rfl
  have h1 := run_lvObj W b 0 (by rw [e0]; rfl) (by rw [e1]; rfl)
  rw [e0, e1] at h1
  exact h1
theorem small0 : Small (ByteArray.size ⟨#[]⟩) := by unfold Small; simp [ByteArray.size]
theorem small1 (c : UInt8) : Small (ByteArray.size ⟨#[c]⟩) := by unfold Small; simp [ByteArray.size]
def AloneP (w : World) (t : Tab) (e : Ending) (w' : World) : Prop := ∃ As At, e = .returned (.agg #[.slice As 1 1, .slice At 1 1]) ∧ Aft w w' ∧ SlAt w' 2 SchR As 1 (aloneO t).schemas ∧ SlAt w' 5 TabR At 1 (aloneO t).tables
set_option maxHeartbeats 8000000 in
theorem alone_any (t : Tab) (A : Option Addr) (cap : Nat) (A2 : Option Addr) (cap2 : Nat) (w : World) (h : SlAt w 3 ColR A cap t.cols) (h2 : SlAt w 8 RulR A2 cap2 t.rules) (hb : t.rules.length ≤ 1000000) :
    Calls Try.prog 85 #[.agg #[.string t.schema, .string t.name, .string t.owner, .slice A t.cols.length cap, .slice A2 t.rules.length cap2]] w (AloneP w t) := by
  have hlen := h.len
  have l1 : w.heap.size < w.heap.size + 1 := by omega
  have l2 : w.heap.size < w.heap.size + 1 + 1 := by omega
  have Cc := Lib.hid (show ∀ w', Aft w w' → _ from fun w' a => cloneRul A2 cap2 t.rules w w' a h2 hb)
  go_enter Try.func85, Try.ntmps85
  go_wp2_with fail
  refine (Cc.out _ (((Aft.refl w).alloc _).alloc _)).mono ?_
  rintro e w1 ⟨v, css, rfl, a1, hrow, hch⟩
  have r1 : RowAt w1 w.heap.size [.string ⟨#[115]⟩, .string ⟨#[116]⟩, .string ⟨#[111]⟩, .slice A t.cols.length cap, .slice A2 t.rules.length cap2] := (box_row (Aft.refl _)).aft (((Aft.refl _).alloc _).trans a1)
  have r2 : RowAt w1 (w.heap.size + 1) [.slice none 0 0, .slice none 0 0] := by
    have := (box_row (w := w.alloc (.cells #[.string ⟨#[115]⟩, .string ⟨#[116]⟩, .string ⟨#[111]⟩, .slice A t.cols.length cap, .slice A2 t.rules.length cap2] 61)) (c := [.slice none 0 0, .slice none 0 0]) (t := 25) (Aft.refl _)).aft a1
    simpa using this
  have HC := Lib.hid hch
  have HA1 := Lib.hid ((((Aft.refl w).alloc _).alloc _).trans a1)
  obtain ⟨G, capG, rfl, hcapG, hG⟩ := hrow
  have hlr := h2.len
  have b0 := r1.cell (j := 0) rfl
  have b1 := r1.cell (j := 1) rfl
  have b2 := r1.cell (j := 2) rfl
  have b3 := r1.cell (j := 3) rfl
  have b4 := r1.cell (j := 4) rfl
  have f4 := r1.2.2 4 (by simp)
  have z1 := r1.1
  have HR1 := Lib.hid (show RowAt (w1.setCell ⟨w.heap.size, 4, none⟩ (.slice G t.rules.length capG)) w.heap.size [.string ⟨#[115]⟩, .string ⟨#[116]⟩, .string ⟨#[111]⟩, .slice A t.cols.length cap, .slice G t.rules.length capG] from r1.set 4 (.slice G t.rules.length capG) (by simp))
  have HR2 := Lib.hid (r2.far (g := w.heap.size) (by omega) 4 (.slice G t.rules.length capG))
  have HRG := Lib.hid (show 0 < t.rules.length → ∃ g, G = some ⟨g, 0, none⟩ ∧ w.heap.size + 2 ≤ g ∧ RowAt (w1.setCell ⟨w.heap.size, 4, none⟩ (.slice G t.rules.length capG)) g css.flatten by
    intro h0
    obtain ⟨g, e, hb, hr⟩ := hG h0
    have hb' : w.heap.size + 2 ≤ g := by simpa using hb
    exact ⟨g, e, hb', hr.far (by omega) _ _⟩)
  have HAS := Lib.hid (HA1.out.setCell ⟨w.heap.size, 4, none⟩ (.slice G t.rules.length capG) (Nat.le_refl _))
  clear hch a1 hG r1 r2 HA1
  go_wp2_with fail
  go_loopw [15] (fun i wr => ∃ (k : Nat) (cs : List (List Value)), k ≤ t.rules.length ∧ i = .int .i64 k ∧ Aft w wr ∧ RowAt wr w.heap.size [.string ⟨#[115]⟩, .string ⟨#[116]⟩, .string ⟨#[111]⟩, .slice A t.cols.length cap, .slice G t.rules.length capG] ∧ RowAt wr (w.heap.size + 1) [.slice none 0 0, .slice none 0 0] ∧ Chunks w 8 RulR cs ((t.rules.take k).map bareR ++ t.rules.drop k) ∧ (0 < t.rules.length → ∃ g, G = some ⟨g, 0, none⟩ ∧ w.heap.size + 2 ≤ g ∧ RowAt wr g cs.flatten)) (fun i _ => t.rules.length - (intOf i).toNat)
  case atStart => exact ⟨0, css, Nat.zero_le _, rfl, HAS.out, HR1.out, HR2.out, by simpa using HC.out, HRG.out⟩
  case round =>
    clear HAS HR1 HR2 HRG HC b0 b1 b2 b3 b4 f4 z1
    obtain ⟨k, cs, hk, rfl, ha, r1, r2, hch, hrg⟩ := hrel
    have HA := Lib.hid ha
    have HR1 := Lib.hid r1
    have HR2 := Lib.hid r2
    have HC := Lib.hid hch
    have b0 := r1.cell (j := 0) rfl
    have b1 := r1.cell (j := 1) rfl
    have b2 := r1.cell (j := 2) rfl
    have b3 := r1.cell (j := 3) rfl
    have b4 := r1.cell (j := 4) rfl
    have z1 := r1.1
    by_cases hlt : k < t.rules.length
    · obtain ⟨g, rfl, hg2, rg⟩ := hrg (by omega)
      have HRG := Lib.hid rg
      have hmix := mixed_len bareR t.rules k (by omega)
      have hkc : k < cs.length := by rw [hch.1, hmix]; exact hlt
      obtain ⟨hc8, A3, cap3, hcs, hcols, s0, s1, s2, s3⟩ := hch.2 k hkc (by rw [hmix]; exact hlt)
      rw [mixed_get bareR t.rules k hlt] at hcs hcols s0 s1 s2 s3
      obtain ⟨p, hpp⟩ : ∃ p, t.rules[k] = p := ⟨_, rfl⟩
      rw [hpp] at hcs hcols s0 s1 s2 s3
      have cell : ∀ j u, j < 8 → cs[k][j]? = some u → wr.cell? ⟨g, k * 8 + j, none⟩ = some u := fun j u hj hu => rg.cell ((flat_get cs hch.all k j hkc hj).trans hu)
      have c0 := cell 0 _ (by omega) (by rw [hcs]; rfl)
      have c1 := cell 1 _ (by omega) (by rw [hcs]; rfl)
      have c2 := cell 2 _ (by omega) (by rw [hcs]; rfl)
      have c3 := cell 3 _ (by omega) (by rw [hcs]; rfl)
      have c4 := cell 4 _ (by omega) (by rw [hcs]; rfl)
      have c5 := cell 5 _ (by omega) (by rw [hcs]; rfl)
      have c6 := cell 6 _ (by omega) (by rw [hcs]; rfl)
      have c7 := cell 7 _ (by omega) (by rw [hcs]; rfl)
      rw [Nat.add_zero] at c0
      have hgl : g < wr.heap.size := rg.1
      have HB := Lib.hid (show bareR t.rules[k] = if (p.kind == 4 && nameB p.schema && nameB p.table && nameB p.key) = true then { p with kind := 1, schema := ⟨#[]⟩, table := ⟨#[]⟩, key := ⟨#[]⟩ } else p by rw [hpp]; rfl)
      have HPP := Lib.hid hpp
      have HCS := Lib.hid hcs
      have HCO := Lib.hid hcols
      have HNB := Lib.hid (fun hn : bareR t.rules[k] = t.rules[k] => (show Chunks w 8 RulR cs ((t.rules.take (k + 1)).map bareR ++ t.rules.drop (k + 1)) from mixed_same bareR t.rules k hlt hn ▸ hch))
      have RGA := Lib.hid (show ∀ c : Obj, 0 < t.rules.length → ∃ g', some (⟨g, 0, none⟩ : Addr) = some ⟨g', 0, none⟩ ∧ w.heap.size + 2 ≤ g' ∧ RowAt (wr.alloc c) g' cs.flatten from fun c _ => ⟨g, rfl, hg2, rg.aft ((Aft.refl _).alloc _)⟩)
      clear ha r1 r2 hch hrg rg hcs hcols cell hmix hpp
      cases h4 : (p.kind == 4)
      · have HN := Lib.hid (HNB.out (by rw [HB.out, h4, HPP.out]; rfl))
        go_wp2_with (go_at_call 33; refine (name_any _ _ (by first | exact s1.max | exact s2.max | exact s3.max)).mono ?_; rintro e w' ⟨rfl, rfl⟩)
        go_roundw
        case rel => exact ⟨k + 1, cs, by omega, by go_num, HA.out.alloc _, HR1.out.aft ((Aft.refl _).alloc _), HR2.out.aft ((Aft.refl _).alloc _), HN.out, RGA.out _⟩
        case measure => simp [intOf]; omega
      cases n1 : nameB p.schema
      · have HN := Lib.hid (HNB.out (by rw [HB.out, h4, n1, HPP.out]; rfl))
        go_wp2_with (go_at_call 33; refine (name_any _ _ (by first | exact s1.max | exact s2.max | exact s3.max)).mono ?_; rintro e w' ⟨rfl, rfl⟩)
        go_roundw
        case rel => exact ⟨k + 1, cs, by omega, by go_num, HA.out.alloc _, HR1.out.aft ((Aft.refl _).alloc _), HR2.out.aft ((Aft.refl _).alloc _), HN.out, RGA.out _⟩
        case measure => simp [intOf]; omega
      cases n2 : nameB p.table
      · have HN := Lib.hid (HNB.out (by rw [HB.out, h4, n1, n2, HPP.out]; rfl))
        go_wp2_with (go_at_call 33; refine (name_any _ _ (by first | exact s1.max | exact s2.max | exact s3.max)).mono ?_; rintro e w' ⟨rfl, rfl⟩)
        go_roundw
        case rel => exact ⟨k + 1, cs, by omega, by go_num, HA.out.alloc _, HR1.out.aft ((Aft.refl _).alloc _), HR2.out.aft ((Aft.refl _).alloc _), HN.out, RGA.out _⟩
        case measure => simp [intOf]; omega
      cases n3 : nameB p.key
      · have HN := Lib.hid (HNB.out (by rw [HB.out, h4, n1, n2, n3, HPP.out]; rfl))
        go_wp2_with (go_at_call 33; refine (name_any _ _ (by first | exact s1.max | exact s2.max | exact s3.max)).mono ?_; rintro e w' ⟨rfl, rfl⟩)
        go_roundw
        case rel => exact ⟨k + 1, cs, by omega, by go_num, HA.out.alloc _, HR1.out.aft ((Aft.refl _).alloc _), HR2.out.aft ((Aft.refl _).alloc _), HN.out, RGA.out _⟩
        case measure => simp [intOf]; omega
      · have HB2 := Lib.hid (show bareR t.rules[k] = { p with kind := 1, schema := ⟨#[]⟩, table := ⟨#[]⟩, key := ⟨#[]⟩ } by rw [HB.out, h4, n1, n2, n3]; rfl)
        go_wp2_with (go_at_call 33; refine (name_any _ _ (by first | exact s1.max | exact s2.max | exact s3.max)).mono ?_; rintro e w' ⟨rfl, rfl⟩)
        obtain ⟨W, hW⟩ : ∃ W, W = wr.alloc (.cells #[.string p.name, .int .i64 p.kind, .slice A3 p.cols.length cap3, .int .i64 p.low, .int .i64 p.high, .string p.schema, .string p.table, .string p.key] 64) := ⟨_, rfl⟩
        rw [← hW]
        have a8 : Aft wr W := by rw [hW]; exact (Aft.refl wr).alloc _
        have rg := HRG.out.aft a8
        have HRW := Lib.hid rg
        have hl8 : k * 8 + 7 < cs.flatten.length := by rw [flat_len cs HC.out.all]; have : (k + 1) * 8 ≤ cs.length * 8 := Nat.mul_le_mul_right _ hkc; omega
        have hgn : g ≠ w.heap.size := by omega
        have hgn1 : g ≠ w.heap.size + 1 := by omega
        have K0 := Lib.hid (show W.cell? ⟨w.heap.size, 4, none⟩ = some (.slice (some ⟨g, 0, none⟩) t.rules.length capG) ∧ (W.cell? ⟨g, k * 8 + 1, none⟩).isSome = true ∧ (W.cell? ⟨g, k * 8 + 5, none⟩).isSome = true ∧ (W.cell? ⟨g, k * 8 + 6, none⟩).isSome = true ∧ (W.cell? ⟨g, k * 8 + 7, none⟩).isSome = true ∧ W.frozen? ⟨g, k * 8 + 1, none⟩ = false ∧ W.frozen? ⟨g, k * 8 + 5, none⟩ = false ∧ W.frozen? ⟨g, k * 8 + 6, none⟩ = false ∧ W.frozen? ⟨g, k * 8 + 7, none⟩ = false from ⟨a8.cell_kept b4, congrArg Option.isSome (a8.cell_kept c1), congrArg Option.isSome (a8.cell_kept c5), congrArg Option.isSome (a8.cell_kept c6), congrArg Option.isSome (a8.cell_kept c7), rg.2.2 (k * 8 + 1) (by omega), rg.2.2 (k * 8 + 5) (by omega), rg.2.2 (k * 8 + 6) (by omega), rg.2.2 (k * 8 + 7) (by omega)⟩)
        have K1 := Lib.hid (keep_row K0.out hgn (k * 8 + 1) (.int .i64 1))
        have K2 := Lib.hid (keep_row K1.out hgn (k * 8 + 5) (.string ⟨#[]⟩))
        have K3 := Lib.hid (keep_row K2.out hgn (k * 8 + 6) (.string ⟨#[]⟩))
        have K4 := Lib.hid (keep_row K3.out hgn (k * 8 + 7) (.string ⟨#[]⟩))
        have HAW := Lib.hid (HA.out.trans a8)
        have HR1W := Lib.hid (HR1.out.aft a8)
        have HR2W := Lib.hid (HR2.out.aft a8)
        have x1 := a8.cell_kept c1
        have x5 := a8.cell_kept c5
        have x6 := a8.cell_kept c6
        have x7 := a8.cell_kept c7
        have y1 := rg.2.2 (k * 8 + 1) (by omega)
        have y5 := rg.2.2 (k * 8 + 5) (by omega)
        have y6 := rg.2.2 (k * 8 + 6) (by omega)
        have y7 := rg.2.2 (k * 8 + 7) (by omega)
        clear hW b0 b1 b2 b3 b4 c0 c1 c2 c3 c4 c5 c6 c7 a8 rg
        go_region_held3 (fun w' => w'.cell? ⟨w.heap.size, 4, none⟩ = some (.slice (some ⟨g, 0, none⟩) t.rules.length capG)) (first | exact K0.out.1 | exact K1.out.1 | exact K2.out.1 | exact K3.out.1 | exact K4.out.1) (fail)
        have HP4 := Lib.hid (HRW.out.put4 HC.out.all k hkc HCS.out (.int .i64 1) (.string ⟨#[]⟩) (.string ⟨#[]⟩) (.string ⟨#[]⟩))
        have HCH := Lib.hid (show Chunks w 8 RulR (cs.set k [.string p.name, .int .i64 1, .slice A3 p.cols.length cap3, .int .i64 p.low, .int .i64 p.high, .string ⟨#[]⟩, .string ⟨#[]⟩, .string ⟨#[]⟩]) ((t.rules.take (k + 1)).map bareR ++ t.rules.drop (k + 1)) from
          mixed_step bareR t.rules k hlt ▸ HC.out.set rfl (by rw [HB2.out]; exact ⟨A3, cap3, rfl, HCO.out, s0, small0, small0, small0⟩))
        go_wp2_with fail
        go_roundw
        case rel => exact ⟨k + 1, _, by omega, by go_num, ((((HAW.out.setCell _ _ (by simp; omega)).setCell _ _ (by simp; omega)).setCell _ _ (by simp; omega)).setCell _ _ (by simp; omega)).drew, ((((HR1W.out.far hgn _ _).far hgn _ _).far hgn _ _).far hgn _ _).aft (Aft.refl _).drew, ((((HR2W.out.far hgn1 _ _).far hgn1 _ _).far hgn1 _ _).far hgn1 _ _).aft (Aft.refl _).drew, HCH.out, fun _ => ⟨g, rfl, hg2, HP4.out.aft (Aft.refl _).drew⟩⟩
        case measure => simp [intOf]; omega
    · have c20 := r2.cell (j := 0) rfl
      have c21 := r2.cell (j := 1) rfl
      have f20 := r2.2.2 0 (by simp)
      have f21 := r2.2.2 1 (by simp)
      have z2 := r2.1
      have z3 : w.heap.size + 1 < wr.heap.size + 1 := by omega
      have z4 : w.heap.size + 1 < wr.heap.size + 1 + 1 := by omega
      have z5 : w.heap.size < wr.heap.size + 1 := by omega
      have z6 : w.heap.size < wr.heap.size + 1 + 1 := by omega
      have ek : (t.rules.take k).map bareR ++ t.rules.drop k = t.rules.map bareR := by rw [List.take_of_length_le (by omega), List.drop_eq_nil_of_le (by omega), List.append_nil]
      rw [ek] at hch
      have HC2 := Lib.hid hch
      have HRG := Lib.hid hrg
      clear ha r1 r2 hch hrg ek HC
      go_wp2_with fail
      (try simp only [Exit.inBlock, Exit.then])
      have HRF := Lib.hid (show RowAt ((wr.setCell ⟨w.heap.size + 1, 0, none⟩ (.slice (some ⟨wr.heap.size, 0, none⟩) 1 1)).setCell ⟨w.heap.size + 1, 1, none⟩ (.slice (some ⟨wr.heap.size + 1, 0, none⟩) 1 1)) (w.heap.size + 1) [.slice (some ⟨wr.heap.size, 0, none⟩) 1 1, .slice (some ⟨wr.heap.size + 1, 0, none⟩) 1 1] from
        (HR2.out.set 0 (.slice (some ⟨wr.heap.size, 0, none⟩) 1 1) (by simp)).set 1 (.slice (some ⟨wr.heap.size + 1, 0, none⟩) 1 1) (by simp))
      refine bodyPost_ret (results_cell (v := .agg #[.slice (some ⟨wr.heap.size, 0, none⟩) 1 1, .slice (some ⟨wr.heap.size + 1, 0, none⟩) 1 1]) rfl _ rfl ?hl) rfl ?_
      case hl => exact lvObj_rowA (HRF.out.aft (((Aft.refl _).alloc _).alloc _))
      have HF := (((HA.out.setCell ⟨w.heap.size + 1, 0, none⟩ (.slice (some ⟨wr.heap.size, 0, none⟩) 1 1) (by simp)).setCell ⟨w.heap.size + 1, 1, none⟩ (.slice (some ⟨wr.heap.size + 1, 0, none⟩) 1 1) (by simp)).alloc (.cells #[.string ⟨#[115]⟩, .string ⟨#[111]⟩] 91)).alloc (.cells #[.string ⟨#[115]⟩, .string ⟨#[116]⟩, .string ⟨#[111]⟩, .slice A t.cols.length cap, .slice G t.rules.length capG] 61)
      refine ⟨_, _, rfl, HF, ?s, ?t⟩
      case s => exact slAt_one _ [.string ⟨#[115]⟩, .string ⟨#[111]⟩] #[.string ⟨#[115]⟩, .string ⟨#[111]⟩] (by first | (simp; done) | (simp; omega)) (by intro o; (repeat (refine (World.cell?_alloc_past _ _ _ (by first | (simp; done) | (simp; omega))).trans ?_)); exact World.cell?_alloc_at _ _ _ _ (by simp)) rfl rfl ⟨rfl, small1 _, small1 _⟩ (by omega)
      case t =>
        refine slAt_one _ [.string ⟨#[115]⟩, .string ⟨#[116]⟩, .string ⟨#[111]⟩, .slice A t.cols.length cap, .slice G t.rules.length capG] #[.string ⟨#[115]⟩, .string ⟨#[116]⟩, .string ⟨#[111]⟩, .slice A t.cols.length cap, .slice G t.rules.length capG] (by first | (simp; done) | (simp; omega)) (by intro o; exact World.cell?_alloc_at _ _ _ _ (by simp)) rfl rfl ⟨A, cap, G, capG, by simp, cols_aft HF h, ?r, small1 _, small1 _, small1 _⟩ (by omega)
        case r =>
          by_cases h0 : 0 < t.rules.length
          · obtain ⟨g, rfl, hg2, rg⟩ := HRG.out h0
            exact row_slAt (((rg.far (g := w.heap.size + 1) (by omega) _ _).far (g := w.heap.size + 1) (by omega) _ _).aft (((Aft.refl _).alloc _).alloc _)) (HC2.out.aft fun _ _ h => RulR.aft HF h) (by simpa using hcapG) (by unfold Small; simp; omega)
          · exact ⟨by simp; omega, by unfold Small; simp; omega, fun i hi => by simp at hi; omega⟩
set_option maxHeartbeats 2000000 in
theorem rcheck_any (t : Tab) (A : Option Addr) (cap : Nat) (A2 : Option Addr) (cap2 : Nat) (w : World) (h : SlAt w 3 ColR A cap t.cols) (h2 : SlAt w 8 RulR A2 cap2 t.rules) (hb : t.rules.length ≤ 1000000) :
    Calls Try.prog 62 #[.agg #[.string t.schema, .string t.name, .string t.owner, .slice A t.cols.length cap, .slice A2 t.rules.length cap2]] w fun e w' => e = .returned (.int .i64 (if tableOk t then 0 else 1)) ∧ Aft w w' := by
  have Ca := Lib.hid (show ∀ w', Aft w w' → _ from fun w' a => alone_any t A cap A2 cap2 w' (cols_aft a h) (ruls_aft a h2) hb)
  obtain ⟨c, hc⟩ : ∃ c, tableOk t = c := ⟨_, rfl⟩
  rw [hc]
  have HC := Lib.hid ((alone_ok t).trans hc)
  clear hc
  go_enter Try.func62, Try.ntmps62
  go_wp2_with fail
  refine (Ca.out _ ((Aft.refl _).alloc _)).mono ?_
  rintro e w1 ⟨As, At, rfl, a1, h1, h3⟩
  have HA := Lib.hid (((Aft.refl w).alloc _).trans a1)
  have Ck := Lib.hid (show Calls Try.prog 13 #[.agg #[.slice As 1 1, .slice At 1 1]] w1 fun e w'' => e = .returned (.int .i64 (if c = true then 0 else 63)) ∧ Aft w1 w'' from
    (check_any (aloneO t) As 1 At 1 w1 h1 h3).mono fun e w'' ⟨he, hw⟩ => ⟨he.trans (by unfold checkE; rw [HC.out]), hw⟩)
  clear a1 h1 h3 Ca
  go_wp2_with fail
  refine Ck.out.mono ?_
  rintro e w2 ⟨rfl, a2⟩
  have HA2 := Lib.hid (HA.out.trans a2)
  clear a2
  cases c
  · go_wp2_with fail
    go_ret
    exact ⟨rfl, HA2.out⟩
  · go_wp2_with fail
    go_ret
    exact ⟨rfl, HA2.out⟩
end Go.Proofs.Ytiadkchlkdaceaa

namespace Go.Proofs.Ytiadkchlkdaceaa
open Go.RowKit
set_option maxRecDepth 100000
set_option linter.unusedVariables false
theorem small8' {n : Nat} (h : n ≤ 8) : Small (n * 16) := by unfold Small; omega
theorem any_iff {α : Type} (p : α → Bool) (l : List α) : l.any p = true ↔ 0 ≤ idxP p l := by
  induction l with
  | nil => simp [idxP]
  | cons x l ih =>
    rw [List.any_cons, Bool.or_eq_true, ih]
    simp only [idxP]
    by_cases hx : p x = true
    · rw [if_pos hx]; simp [hx]
    · rw [if_neg hx]
      by_cases hy : idxP p l < 0
      · rw [if_pos hy]
        constructor
        · intro h; rcases h with h | h
          · exact absurd h hx
          · omega
        · intro h; omega
      · rw [if_neg hy]
        constructor
        · intro h; omega
        · intro h; right; omega
theorem any_idx {α : Type} (p : α → Bool) (l : List α) : l.any p = decide (0 ≤ idxP p l) := by
  rw [Bool.eq_iff_iff, any_iff]; simp
set_option maxHeartbeats 2000000 in
theorem index_any (A : Option Addr) (cap : Nat) (l : List Val) (v : Val) (w : World) (h : SlAt w 3 ValR A cap l) :
    Calls Try.prog 97 #[.slice A l.length cap, .agg #[.int .i64 v.kind, .int .i64 v.int, .string v.text]] w fun e w' => e = .returned (.int .i64 (idxP (fun x => eqV v x) l)) ∧ Aft w w' := by
  have hlen := h.len
  go_enter Try.func97, Try.ntmps97
  go_wp2_with fail
  go_loopw [8] (fun i wr => ∃ k : Nat, k ≤ l.length ∧ i = .int .i64 k ∧ Aft (w.alloc (.cells #[.int .i64 v.kind, .int .i64 v.int, .string v.text] 44)) wr ∧ ∀ j, j < k → ∀ (hj : j < l.length), eqV v l[j] = false) (fun i _ => l.length - (intOf i).toNat)
  case atStart => exact ⟨0, Nat.zero_le _, rfl, Aft.refl _, fun j hj => absurd hj (Nat.not_lt_zero j)⟩
  case round =>
    obtain ⟨k, hk, rfl, ha, hp⟩ := hrel
    have HP := Lib.hid hp; clear hp
    obtain ⟨hb, hfr, hz, hzk, HA⟩ := aft_box ha
    have HAB := Lib.hid ha
    clear ha
    by_cases hlt : k < l.length
    · obtain ⟨b, off, rfl, hbb, c0, c1, c2, _⟩ := val_at (vals_aft HA.out h) hlt
      cases heq : eqV v l[k]
      · have h3 : eqV3 v.kind v.int v.text l[k].kind l[k].int l[k].text = false := heq
        have HN := Lib.hid (ext_lt (p := fun j => ∀ (hj : j < l.length), eqV v l[j] = false) HP.out (fun _ => heq))
        clear heq
        go_wp2_with fail
        refine wp_region_lat (by kernel_rfl) (by kernel_rfl) ?_
        repeat (go_big_quiet_step (fail))
        refine wpQuiet_nil ?_
        intro _ hw'
        obtain ⟨x, hw''⟩ := hw'
        subst hw''
        go_wp2_with fail
        go_roundw
        case rel => exact ⟨k + 1, by omega, by go_num, HAB.out.lat x, HN.out⟩
        case measure => simp [intOf]; omega
      · have h3 : eqV3 v.kind v.int v.text l[k].kind l[k].int l[k].text = true := heq
        have HN := Lib.hid (idxP_some (fun x => eqV v x) l k hlt heq fun i hi => HP.out i hi (by omega))
        clear heq
        go_wp2_with fail
        refine wp_region_lat (by kernel_rfl) (by kernel_rfl) ?_
        repeat (go_big_quiet_step (fail))
        refine wpQuiet_nil ?_
        intro _ hw'
        obtain ⟨x, hw''⟩ := hw'
        subst hw''
        go_wp2_with fail
        go_ret
        exact ⟨by rw [HN.out]; rfl, HA.out.lat x⟩
    · have HN := Lib.hid (idxP_none (fun x => eqV v x) l fun i hi => HP.out i (by omega) hi)
      go_wp2_with fail
      go_ret
      exact ⟨by rw [HN.out]; rfl, HA.out⟩
set_option maxHeartbeats 1000000 in
theorem containsV_any (A : Option Addr) (cap : Nat) (l : List Val) (v : Val) (w : World) (h : SlAt w 3 ValR A cap l) :
    Calls Try.prog 89 #[.slice A l.length cap, .agg #[.int .i64 v.kind, .int .i64 v.int, .string v.text]] w fun e w' => e = .returned (.bool (l.any fun x => eqV v x)) ∧ Aft w w' := by
  have C := Lib.hid (show ∀ w', Aft w w' → _ from fun w' a => index_any A cap l v w' (vals_aft a h))
  have HN := Lib.hid (any_idx (fun x => eqV v x) l)
  go_enter Try.func89, Try.ntmps89
  go_wp2_with fail
  refine (C.out _ ((Aft.refl w).alloc _)).mono ?_
  rintro e w1 ⟨rfl, a1⟩
  have HA := Lib.hid (((Aft.refl w).alloc _).trans a1)
  clear a1
  go_wp2_with fail
  go_ret
  exact ⟨by rw [HN.out]; rfl, HA.out⟩
end Go.Proofs.Ytiadkchlkdaceaa

namespace Go.Proofs.Ytiadkchlkdaceaa
open Go.RowKit
set_option maxRecDepth 100000
set_option linter.unusedVariables false
/-- a row among rows -/
def RowsR (w : World) (cs : List Value) (row : List Val) : Prop := SlOf w 3 ValR cs row
/-- a pointer to a block's head -/
def PtrR (_ : World) (cs : List Value) (p : Nat) : Prop := cs = [.pointer (some ⟨p, 0, none⟩)]
section
variable {w w' : World}
theorem RowsR.aft {cs : List Value} {r : List Val} (hw : Aft w w') (h : RowsR w cs r) : RowsR w' cs r := by
  obtain ⟨A, cap, e, hs⟩ := h
  exact ⟨A, cap, e, vals_aft hw hs⟩
theorem rows_aft {A : Option Addr} {cap : Nat} {l : List (List Val)} (hw : Aft w w') (h : SlAt w 1 RowsR A cap l) : SlAt w' 1 RowsR A cap l := h.aft hw fun _ _ h => RowsR.aft hw h
theorem ptrs_aft {A : Option Addr} {cap : Nat} {l : List Nat} (hw : Aft w w') (h : SlAt w 1 PtrR A cap l) : SlAt w' 1 PtrR A cap l := h.aft hw fun _ _ h => h
theorem row_at {A : Option Addr} {cap : Nat} {l : List (List Val)} (h : SlAt w 1 RowsR A cap l) {k : Nat} (hk : k < l.length) :
    ∃ b off A2 cap2, A = some ⟨b, off, none⟩ ∧ b < w.heap.size ∧ w.cell? ⟨b, off + k, none⟩ = some (.slice A2 l[k].length cap2) ∧ SlAt w 3 ValR A2 cap2 l[k] := by
  obtain ⟨b, off, cs, hA, hb, hl, ⟨A2, cap2, rfl, hr⟩, hc⟩ := h.2.2 k hk
  exact ⟨b, off, A2, cap2, hA, hb, by simpa using hc 0 (by omega), hr⟩
theorem ptr_at {A : Option Addr} {cap : Nat} {l : List Nat} (h : SlAt w 1 PtrR A cap l) {k : Nat} (hk : k < l.length) :
    ∃ b off, A = some ⟨b, off, none⟩ ∧ b < w.heap.size ∧ w.cell? ⟨b, off + k, none⟩ = some (.pointer (some ⟨l[k], 0, none⟩)) := by
  obtain ⟨b, off, cs, hA, hb, hl, rfl, hc⟩ := h.2.2 k hk
  exact ⟨b, off, hA, hb, by simpa using hc 0 (by omega)⟩
/-- a shelf in block p -/
structure ShfAt (w : World) (p : Nat) (x : Shf) (A : Option Addr) (cap : Nat) (A2 : Option Addr) (cap2 : Nat) (A3 : Option Addr) (cap3 : Nat) : Prop where
  row : RowAt w p [.string x.t.schema, .string x.t.name, .string x.t.owner, .slice A x.t.cols.length cap, .slice A2 x.t.rules.length cap2, .slice A3 x.rows.length cap3]
  cols : SlAt w 3 ColR A cap x.t.cols
  ruls : SlAt w 8 RulR A2 cap2 x.t.rules
  rows : SlAt w 1 RowsR A3 cap3 x.rows
  hb : ∃ cur t, w.heap[p]? = some (.cells cur t (0, 0))
theorem ShfAt.aft {p : Nat} {x : Shf} {A : Option Addr} {cap : Nat} {A2 : Option Addr} {cap2 : Nat} {A3 : Option Addr} {cap3 : Nat} (h : ShfAt w p x A cap A2 cap2 A3 cap3) (a : Aft w w') : ShfAt w' p x A cap A2 cap2 A3 cap3 :=
  ⟨h.row.aft a, cols_aft a h.cols, ruls_aft a h.ruls, rows_aft a h.rows, by obtain ⟨cur, t, e⟩ := h.hb; exact ⟨cur, t, (a.block p h.row.1).trans e⟩⟩
def ShfIs (w : World) (p : Nat) (x : Shf) : Prop := ∃ A cap A2 cap2 A3 cap3, ShfAt w p x A cap A2 cap2 A3 cap3
theorem ShfIs.aft {p : Nat} {x : Shf} (h : ShfIs w p x) (a : Aft w w') : ShfIs w' p x := by
  obtain ⟨A, cap, A2, cap2, A3, cap3, h⟩ := h
  exact ⟨A, cap, A2, cap2, A3, cap3, h.aft a⟩
/-- a store in block s, whose shelves lie in the blocks ps -/
structure StoIs (w : World) (s : Nat) (ps : List Nat) (S : List Shf) : Prop where
  len : ps.length = S.length
  nd : ps.Nodup
  ex : ∃ A cap, RowAt w s [.slice A ps.length cap] ∧ SlAt w 1 PtrR A cap ps
  each : ∀ i (h : i < ps.length) (h' : i < S.length), ShfIs w ps[i] S[i]
theorem StoIs.aft {s : Nat} {ps : List Nat} {S : List Shf} (h : StoIs w s ps S) (a : Aft w w') : StoIs w' s ps S := by
  obtain ⟨A, cap, h1, h2⟩ := h.ex
  exact ⟨h.len, h.nd, ⟨A, cap, h1.aft a, ptrs_aft a h2⟩, fun i h1 h2 => (h.each i h1 h2).aft a⟩
end
theorem infoShf : ∃ j, Try.prog.info? 72 = some j ∧ j.size = 6 := by
  have h : (Try.prog.info? 72).map (fun i => i.size) = some 6 := by kernel_rfl
  obtain ⟨j, hj, e⟩ := Option.map_eq_some_iff.1 h
  exact ⟨j, hj, e⟩
theorem eqPtr_same (w : World) (p : Nat) : (binOp .eql 70 (.pointer (some ⟨p, 0, none⟩)) (.pointer (some ⟨p, 0, none⟩))).run Try.prog w = .ok (.bool true) w := by
  obtain ⟨j, hj, _⟩ := infoShf
  exact run_eql_ptr_same w _ (te := 72) (by kernel_rfl) hj
theorem eqPtr_other {w : World} {p q : Nat} (hne : ¬ p = q) (hp : ∃ cur t, w.heap[p]? = some (.cells cur t (0, 0))) (hq : ∃ cur t, w.heap[q]? = some (.cells cur t (0, 0))) : (binOp .eql 70 (.pointer (some ⟨p, 0, none⟩)) (.pointer (some ⟨q, 0, none⟩))).run Try.prog w = .ok (.bool false) w := by
  obtain ⟨ca, ta, ea⟩ := hp
  obtain ⟨cb, tb, eb⟩ := hq
  obtain ⟨j, hj, hs⟩ := infoShf
  exact run_eql_ptr_other w (te := 72) (by kernel_rfl) hj (by rw [hs]; decide) (fun e => hne (by injection e)) ea eb
theorem shfAt_of {S : List Shf} {s n : ByteArray} {k : Nat} (hk : k < S.length) (hp : (eqS S[k].t.schema s && eqS S[k].t.name n) = true) (hb : ∀ i, i < k → ∀ hi : i < S.length, (eqS S[i].t.schema s && eqS S[i].t.name n) = false) : shfAt S s n = k :=
  idxP_some _ S k hk hp fun i hi => hb i hi (by omega)
theorem shfAt_none {S : List Shf} {s n : ByteArray} (hb : ∀ i (hi : i < S.length), (eqS S[i].t.schema s && eqS S[i].t.name n) = false) : shfAt S s n = -1 := idxP_none _ S hb
theorem shfAt_lt {S : List Shf} {s n : ByteArray} {q : Nat} (h : shfAt S s n = q) : q < S.length := by
  have := (idxP_range (fun x : Shf => eqS x.t.schema s && eqS x.t.name n) S).2
  unfold shfAt at h; omega
theorem shfN_get {S : List Shf} {q : Nat} (h : q < S.length) : shfN S q = S[q] := by unfold shfN; rw [List.getElem?_eq_getElem h]; rfl
end Go.Proofs.Ytiadkchlkdaceaa

namespace Go.Proofs.Ytiadkchlkdaceaa
open Go.RowKit
set_option maxRecDepth 100000
set_option linter.unusedVariables false
def ptrV (ps : List Nat) (i : Int) : Value := if i < 0 then .pointer none else .pointer (some ⟨ps.getD i.toNat 0, 0, none⟩)
theorem ptrV_at {ps : List Nat} {q : Nat} (h : q < ps.length) : ptrV ps (q : Int) = .pointer (some ⟨ps[q], 0, none⟩) := by
  unfold ptrV
  rw [if_neg (by omega), Int.toNat_natCast, List.getD_eq_getElem?_getD, List.getElem?_eq_getElem h]; rfl
theorem ptrV_no (ps : List Nat) : ptrV ps (-1) = .pointer none := rfl
def nmB (sc n : ByteArray) (x : Shf) : Bool := eqS x.t.schema sc && eqS x.t.name n
set_option maxHeartbeats 4000000 in
theorem find12 (s : Nat) (ps : List Nat) (S : List Shf) (sc n : ByteArray) (w : World) (h : StoIs w s ps S) :
    Calls Try.prog 15 #[.pointer (some ⟨s, 0, none⟩), .string sc, .string n] w fun e w' => e = .returned (ptrV ps (shfAt S sc n)) ∧ w = w' := by
  obtain ⟨A, cap, hr, hp⟩ := h.ex
  have hlen := hp.len
  have HS := Lib.hid h
  have c0 := hr.cell (j := 0) rfl
  have HP := Lib.hid hp
  have HL := Lib.hid h.len
  clear h hr hp
  go_enter Try.func15, Try.ntmps15
  go_wp2_with fail
  go_loop [14] (fun i => ∃ k : Nat, k ≤ ps.length ∧ i = .int .i64 k ∧ ∀ j, j < k → ∀ (hj : j < S.length), nmB sc n S[j] = false) (fun i => ps.length - (intOf i).toNat)
  case atStart => exact ⟨0, Nat.zero_le _, rfl, fun j hj => absurd hj (Nat.not_lt_zero j)⟩
  case round =>
    obtain ⟨k, hk, rfl, hp⟩ := hrel
    have HB := Lib.hid hp
    clear hp
    by_cases hlt : k < ps.length
    · obtain ⟨b, off, rfl, hb, d0⟩ := ptr_at HP.out hlt
      have hk2 : k < S.length := by have := HL.out; omega
      obtain ⟨B1, u1, B2, u2, B3, u3, hs⟩ := HS.out.each k hlt hk2
      have r0 := hs.row.cell (j := 0) rfl
      have r1 := hs.row.cell (j := 1) rfl
      clear hs
      cases g1 : eqS S[k].t.schema sc
      · have HN := Lib.hid (ext_lt (p := fun j => ∀ (hj : j < S.length), nmB sc n S[j] = false) HB.out (fun _ => by unfold nmB; rw [g1]; rfl))
        have e1 : (S[k].t.schema.toList == sc.toList) = false := g1
        clear g1
        go_wp2_with fail
        go_round
        case rel => exact ⟨k + 1, by omega, by go_num, HN.out⟩
        case measure => simp [intOf]; omega
      · cases g2 : eqS S[k].t.name n
        · have HN := Lib.hid (ext_lt (p := fun j => ∀ (hj : j < S.length), nmB sc n S[j] = false) HB.out (fun _ => by unfold nmB; rw [g1, g2]; rfl))
          have e1 : (S[k].t.schema.toList == sc.toList) = true := g1
          have e2 : (S[k].t.name.toList == n.toList) = false := g2
          clear g1 g2
          go_wp2_with fail
          go_round
          case rel => exact ⟨k + 1, by omega, by go_num, HN.out⟩
          case measure => simp [intOf]; omega
        · have HN := Lib.hid (show shfAt S sc n = (k : Int) from shfAt_of hk2 (by rw [g1, g2]; rfl) (fun i hi hi2 => HB.out i hi hi2))
          have e1 : (S[k].t.schema.toList == sc.toList) = true := g1
          have e2 : (S[k].t.name.toList == n.toList) = true := g2
          clear g1 g2
          go_wp2_with fail
          go_ret
          exact ⟨by rw [HN.out, ptrV_at hlt]; rfl, rfl⟩
    · have HN := Lib.hid (show shfAt S sc n = -1 from shfAt_none (fun i hi => HB.out i (by have := HL.out; omega) hi))
      go_wp2_with fail
      go_ret
      exact ⟨by rw [HN.out]; rfl, rfl⟩
end Go.Proofs.Ytiadkchlkdaceaa

namespace Go.Proofs.Ytiadkchlkdaceaa
open Go.RowKit
set_option maxRecDepth 100000
set_option linter.unusedVariables false
/-- are these columns there? -/
def OkN (l : List Col) (names : List ByteArray) : Prop := names.length ≤ 8 ∧ ∀ a ∈ names, 0 ≤ colAt l a
theorem okN_at {l : List Col} {names : List ByteArray} {row : List Val} (h : OkN l names) (hf : besideB formB l row = true) : ∀ k (hk : k < names.length), ∃ q : Nat, colAt l names[k] = q ∧ q < row.length := by
  intro k hk
  obtain ⟨q, hq⟩ := Int.eq_ofNat_of_zero_le (h.2 _ (List.getElem_mem hk))
  have h1 := colAt_lt hq
  have h2 := ((besideB_iff formB l row).1 hf).1
  exact ⟨q, hq, by omega⟩
theorem ofVs_may {l : List Col} {names : List ByteArray} {row : List Val} (h : OkN l names) (hf : besideB formB l row = true) : ∀ v ∈ ofVs l names row, mayV v = true := by
  intro v hv
  obtain ⟨a, ha, rfl⟩ := List.mem_map.1 hv
  obtain ⟨k, hk, rfl⟩ := List.getElem_of_mem ha
  obtain ⟨q, hq, hr⟩ := okN_at h hf k hk
  rw [hq, valAt_get hr]
  exact val_may hf hr
set_option maxHeartbeats 1000000 in
theorem values1 (name : ByteArray) (kind : Int) (null : Bool) (s : ByteArray) (b1 : Nat) (w : World) (hb1 : b1 < w.heap.size) (hc1 : w.cell? ⟨b1, 0, none⟩ = some (.string s)) :
    Calls Try.prog 88 #[.agg #[.string name, .int .i64 kind, .bool null], .pointer (some ⟨b1, 0, none⟩)] w fun e w' => e = .returned (.bool (eqS name s)) ∧ Aft w w' := by
  go_enter Try.func88, Try.ntmps88
  go_wp2_with fail
  go_ret
  exact ⟨rfl, (Aft.refl _).alloc _⟩
set_option maxHeartbeats 8000000 in
theorem values12 (p : Nat) (x : Shf) (names : List ByteArray) (row : List Val) (N : Option Addr) (capN : Nat) (B : Option Addr) (capB : Nat) (w : World) (h : ShfIs w p x) (hn : SlAt w 1 StrR N capN names) (h3 : SlAt w 3 ValR B capB row)
    (ok : OkN x.t.cols names) (hf : besideB formB x.t.cols row = true) :
    Calls Try.prog 68 #[.pointer (some ⟨p, 0, none⟩), .slice N names.length capN, .slice B row.length capB] w (OfP w (ofVs x.t.cols names row) (wholeV (ofVs x.t.cols names row))) := by
  have hlen := hn.len
  have hlen3 := h3.len
  have hn8 := ok.1
  have HOK := Lib.hid (okN_at ok hf)
  have HMAY := Lib.hid (ofVs_may ok hf)
  have hent := enters (P := Try.prog) Try.func88 (by kernel_rfl) rfl
  obtain ⟨A, cap, A2, cap2, A3, cap3, hs⟩ := h
  have HSH := Lib.hid hs
  have HRS := Lib.hid (show ∀ v ∈ row, Small v.text.size by intro v hv; obtain ⟨i, hi, rfl⟩ := List.getElem_of_mem hv; exact val_small h3 i hi)
  obtain ⟨i0, hi, hz0, hz1, hz2⟩ := info_parts infoV
  have HI := Lib.hid hi
  have HZ0 := Lib.hid hz0
  have HZ1 := Lib.hid hz1
  have HZ2 := Lib.hid hz2
  have HEN := Lib.hid hent
  have HNM := Lib.hid hn
  have HRW := Lib.hid h3
  clear hi hz0 hz1 hz2 ok hf hs hent hn h3
  go_enter Try.func68, Try.ntmps68
  go_wp2_with fail
  go_loopw [8, 14] (fun v i wr => ∃ k : Nat, k ≤ names.length ∧ i = .int .i64 k ∧ Aft w wr ∧ wr.ownsRow w.heap.size 44 3 v k ((ofVs x.t.cols (names.take k) row).flatMap cellsV)) (fun _ i _ => names.length - (intOf i).toNat)
  case atStart => exact ⟨0, Nat.zero_le _, rfl, Aft.refl _, own_nil _ _ _ _⟩
  case round =>
    obtain ⟨k, hk, rfl, ha, hown⟩ := hrel
    have HA := Lib.hid ha
    have HO := Lib.hid hown
    clear ha hown
    by_cases hlt : k < names.length
    · obtain ⟨b5, off5, hD, hb5, g5, _⟩ := str_at (strs_aft HA.out HNM.out) hlt
      subst hD
      obtain ⟨z, hz0, hzr⟩ := HOK.out k hlt
      obtain ⟨b6, off6, hBB, hb6, v0, v1, v2, _⟩ := val_at (vals_aft HA.out HRW.out) hzr
      subst hBB
      have HS := Lib.hid (show ofVs x.t.cols (names.take (k + 1)) row = ofVs x.t.cols (names.take k) row ++ [row[z]] by rw [ofVs_succ _ _ _ k hlt, hz0, valAt_get hzr])
      obtain ⟨nm, hnm⟩ : ∃ nm, names[k] = nm := ⟨_, rfl⟩
      rw [hnm] at g5 hz0
      obtain ⟨W, hW⟩ : ∃ W, W = wr.alloc (.cells #[.string nm] 9) := ⟨_, rfl⟩
      have aW : Aft wr W := by rw [hW]; exact (Aft.refl wr).alloc _
      have rs := HSH.out.row.aft HA.out
      have r3 := rs.cell (j := 3) rfl
      have rz := rs.1
      have q0 : W.cell? ⟨wr.heap.size, 0, none⟩ = some (.string nm) := by rw [hW]; exact World.cell?_alloc_at _ _ _ _ rfl
      have lw := Nat.lt_succ_self wr.heap.size
      have zW : wr.heap.size < W.heap.size := by rw [hW]; simp
      have HAW := Lib.hid (HA.out.trans aW)
      have OW := Lib.hid (own_aft HO.out aW)
      have v0 := aW.cell_kept v0
      have v1 := aW.cell_kept v1
      have v2 := aW.cell_kept v2
      have hb6 := Nat.lt_of_lt_of_le hb6 aW.size
      have C := Lib.hid ((idxCol A cap x.t.cols 88 #[.pointer (some ⟨wr.heap.size, 0, none⟩)] (fun c => eqS c.name nm) W (cols_aft HAW.out HSH.out.cols) HEN.out (fun w' ha i hi => values1 _ _ _ nm wr.heap.size w' (Nat.lt_of_lt_of_le zW ha.size) (ha.cell_kept q0))).mono (fun e w' ⟨he, hw⟩ => (⟨he.trans (by rw [← hz0]; rfl), hw⟩ : e = Ending.returned (Value.int .i64 (z : Int)) ∧ Aft W w')))
      clear hz0 hnm rs aW
      go_wp2_with fail
      rw [← hW]
      clear hW
      refine C.out.mono ?_
      rintro e w4 ⟨rfl, a4⟩
      have HA4 := Lib.hid (HAW.out.trans a4)
      have O4 := Lib.hid (own_aft OW.out a4)
      have x0 := a4.cell_kept v0
      have x1 := a4.cell_kept v1
      have x2 := a4.cell_kept v2
      have x3 := Nat.lt_of_lt_of_le hb6 a4.size
      clear a4 C v0 v1 v2 r3 q0 rz
      go_wp2_with (at_builtin; refine wpList_append_own _ rfl (.tmp 25) (.tmp 30) 41 rfl w.heap.size 44 i0 (.agg #[.int .i64 0, .int .i64 0, .string ByteArray.empty]) 3 32 Try.underlying41 HI.out HZ0.out HZ1.out HZ2.out rfl (by decide) _ _ _ rfl (O4.out.alloc _) ⟨w4.heap.size, 0, none⟩ 1 1 [.int .i64 row[z].kind, .int .i64 row[z].int, .string row[z].text] rfl rfl ?c1 ?c2 ?c3 ?c4 ?c5 ?_)
      case c1 => intro j u hj; rw [add_mk, Nat.zero_add]; exact (World.cell?_alloc_at _ _ _ _ rfl).trans (by simpa using hj)
      case c2 => intro u hu; simp only [List.mem_cons, List.not_mem_nil, or_false] at hu; rcases hu with rfl | rfl | rfl <;> simp [Value.oneCell']
      case c3 => unfold maxLen; omega
      case c4 => omega
      case c5 => have := HA4.out.size; simp; omega
      intro v' w5 hown' hgrow _
      have HA5 := Lib.hid (aft_grown (O4.out.alloc _) (HA4.out.alloc _) hgrow)
      have HO5 := Lib.hid hown'
      clear hown' hgrow
      go_wp2_with fail
      go_roundw
      case rel => exact ⟨k + 1, by omega, by go_num, HA5.out, by rw [HS.out]; simpa [List.flatMap_append, cellsV] using HO5.out⟩
      case measure => simp [intOf]; omega
    · have e1 : names.take k = names := List.take_of_length_le (by omega)
      have e2 : k = names.length := by omega
      have ho := HO.out
      rw [e1, e2, ← ofVs_len x.t.cols names row] at ho
      obtain ⟨L, hL⟩ : ∃ L, ofVs x.t.cols names row = L := ⟨_, rfl⟩
      rw [hL] at ho
      have hL8 : L.length ≤ 8 := by rw [← hL, ofVs_len]; exact hn8
      have HLS := Lib.hid (show ∀ v ∈ L, Small v.text.size by
        rw [← hL]
        intro v hv
        obtain ⟨s', hs', rfl⟩ := List.mem_map.1 hv
        obtain ⟨j, hj, rfl⟩ := List.getElem_of_mem hs'
        obtain ⟨z, hz0, hzr⟩ := HOK.out j hj
        rw [hz0, valAt_get hzr]
        exact HRS.out _ (List.getElem_mem hzr))
      obtain ⟨G, capG, heqG, hG⟩ := own_vals ho (small8' hL8) HLS.out
      have HOW := Lib.hid ho
      have HWB := Lib.hid (show (!(L.any fun x => eqV nullV x)) = wholeV L from hasN_whole (by rw [← hL]; exact HMAY.out))
      have Cc := Lib.hid (containsV_any G capG L nullV wr hG)
      have HLL := Lib.hid hL
      subst heqG
      clear ho hG hL e1
      obtain ⟨bb, hbb⟩ : ∃ b, (L.any fun x => eqV nullV x) = b := ⟨_, rfl⟩
      rw [hbb] at Cc HWB
      clear hbb
      go_wp2_with fail
      refine Cc.out.mono ?_
      rintro e w5 ⟨rfl, a5⟩
      have HA5 := Lib.hid (HA.out.trans a5)
      have HO5 := Lib.hid (own_aft HOW.out a5)
      clear a5
      go_wp2_with fail
      go_ret2
      exact ⟨_, by rw [HLL.out, ← HWB.out]; rfl, HA5.out, by rw [HLL.out]; exact HO5.out⟩
end Go.Proofs.Ytiadkchlkdaceaa

namespace Go.Proofs.Ytiadkchlkdaceaa
open Go.RowKit
set_option linter.unusedVariables false
theorem SOk.good {S : List Shf} {ss : List Sch} (h : SOk S ss) : Good ⟨ss, S.map (·.t)⟩ := (good_iff _).1 h.ck
theorem SOk.tab {S : List Shf} {ss : List Sch} (h : SOk S ss) {x : Shf} (hx : x ∈ S) : GoodT ss (S.map (·.t)) x.t := h.good.tab _ (List.mem_map_of_mem hx)
theorem SOk.cols {S : List Shf} {ss : List Sch} (h : SOk S ss) {x : Shf} (hx : x ∈ S) {r : Rul} (hr : r ∈ x.t.rules) : OkN x.t.cols r.cols := by
  have g := h.tab hx
  have hf := g.fit r hr
  refine ⟨fits_len g.cols hf, fun a ha => ?_⟩
  obtain ⟨k, hk, rfl⟩ := List.getElem_of_mem ha
  exact fits_cols hf hk
theorem SOk.keyOf {S : List Shf} {ss : List Sch} (h : SOk S ss) {x : Shf} (hx : x ∈ S) (key : ByteArray) : OkN x.t.cols (keyOf x.t key) := by
  unfold Go.Proofs.Ytiadkchlkdaceaa.keyOf
  cases hf : x.t.rules.find? (isKey key) with
  | none => exact ⟨by simp, fun a ha => by simp at ha⟩
  | some r => exact h.cols hx (List.mem_of_find?_eq_some hf)
theorem SOk.far {S : List Shf} {ss : List Sch} (h : SOk S ss) {x : Shf} (hx : x ∈ S) {r : Rul} (hr : r ∈ x.t.rules) (hk : r.kind = 4) : ∃ q : Nat, shfAt S r.schema r.table = q := by
  obtain ⟨t, ht, h1, h2, _⟩ := (h.tab hx).key r hr hk
  obtain ⟨y, hy, rfl⟩ := List.mem_map.1 ht
  have : 0 ≤ shfAt S r.schema r.table := (any_iff _ _).1 (List.any_eq_true.2 ⟨y, hy, by
    rw [Bool.and_eq_true]; exact ⟨(eqS_iff9 _ _).2 h1, (eqS_iff9 _ _).2 h2⟩⟩)
  exact ⟨(shfAt S r.schema r.table).toNat, by omega⟩
end Go.Proofs.Ytiadkchlkdaceaa

namespace Go.Proofs.Ytiadkchlkdaceaa
open Go.RowKit
set_option maxRecDepth 100000
set_option linter.unusedVariables false
/-- a row of our own -/
structure ORow where
  vals : List Val
  h : Hd
def ORow.cells (o : ORow) : List Value := [o.h.v]
/-- a shelf of our own, in block p -/
structure OShf where
  p : Nat
  x : OTab
  rows : List ORow
  hr : Hd
def OShf.s (y : OShf) : Shf := ⟨y.x.t, y.rows.map (·.vals)⟩
def OShf.cells (y : OShf) : List Value := y.x.cells ++ [y.hr.v]
/-- what holds a shelf's rows -/
def OShf.rblk (y : OShf) : List Nat := y.hr.blk ++ y.rows.flatMap (·.h.blk)
def OShf.blks (y : OShf) : List Nat := y.p :: (y.x.blks ++ y.rblk)
def RowIn (w : World) (B : Nat) (o : ORow) : Prop := w.ownsRow B 44 3 o.h.v o.vals.length (o.vals.flatMap cellsV)
structure RowsIn (w : World) (B : Nat) (h : Hd) (l : List ORow) : Prop where
  own : w.ownsRow B 41 1 h.v l.length (l.flatMap ORow.cells)
  each : ∀ o ∈ l, RowIn w B o
structure ShfIn (w : World) (B : Nat) (y : OShf) : Prop where
  ge : B ≤ y.p
  blk : ∃ cur t, w.heap[y.p]? = some (.cells cur t (0, 0))
  row : RowAt w y.p y.cells
  tab : TabIn w B y.x
  rows : RowsIn w B y.hr y.rows
def ptrC (y : OShf) : List Value := [.pointer (some ⟨y.p, 0, none⟩)]
structure StoIn (w : World) (B s : Nat) (hl : Hd) (L : List OShf) : Prop where
  ge : B ≤ s
  row : RowAt w s [hl.v]
  lst : w.ownsRow B 70 1 hl.v L.length (L.flatMap ptrC)
  each : ∀ y ∈ L, ShfIn w B y
  nd : (s :: (hl.blk ++ L.flatMap OShf.blks)).Nodup
section
variable {w w' : World} {B s : Nat} {hl : Hd} {L : List OShf}
theorem RowsIn.kb {P : Nat → Prop} {h : Hd} {l : List ORow} (r : RowsIn w B h l) (k : Kb P w w') (hne : ∀ g ∈ h.blk ++ l.flatMap (·.h.blk), ¬ P g) : RowsIn w' B h l :=
  ⟨own_kb r.own k fun g hg => hne g (List.mem_append.2 (.inl (Hd.mem_blk.2 hg))), fun o ho => own_kb (r.each o ho) k fun g hg => hne g (List.mem_append.2 (.inr (List.mem_flatMap.2 ⟨o, ho, Hd.mem_blk.2 hg⟩)))⟩
theorem RowsIn.aft {h : Hd} {l : List ORow} (r : RowsIn w B h l) (a : Aft w w') : RowsIn w' B h l := r.kb (P := fun _ => False) (Kb.of_aft a) fun _ _ h => h
theorem RowsIn.lt {h : Hd} {l : List ORow} (r : RowsIn w B h l) : ∀ g ∈ h.blk ++ l.flatMap (·.h.blk), B ≤ g ∧ g < w.heap.size := fun g hg => by
  rcases List.mem_append.1 hg with hg | hg
  · exact blk_lt r.own g hg
  · obtain ⟨o, ho, hg⟩ := List.mem_flatMap.1 hg
    exact blk_lt (r.each o ho) g hg
theorem ShfIn.kb {P : Nat → Prop} {y : OShf} (h : ShfIn w B y) (k : Kb P w w') (hne : ∀ g ∈ y.blks, ¬ P g) : ShfIn w' B y := by
  have hp : ¬ P y.p := hne _ (by unfold OShf.blks; simp)
  refine ⟨h.ge, ?_, k.row h.row hp, h.tab.kb k fun g hg => hne g (by unfold OShf.blks; simp [hg]), h.rows.kb k fun g hg => hne g (by unfold OShf.blks OShf.rblk; exact List.mem_cons_of_mem _ (List.mem_append.2 (.inr hg)))⟩
  obtain ⟨cur, t, e⟩ := h.blk
  exact ⟨cur, t, (k.block y.p h.row.1 hp).trans e⟩
theorem ShfIn.aft {y : OShf} (h : ShfIn w B y) (a : Aft w w') : ShfIn w' B y := h.kb (P := fun _ => False) (Kb.of_aft a) fun _ _ h => h
theorem ShfIn.lt {y : OShf} (h : ShfIn w B y) : ∀ g ∈ y.blks, B ≤ g ∧ g < w.heap.size := fun g hg => by
  unfold OShf.blks OShf.rblk at hg
  rcases List.mem_cons.1 hg with rfl | hg
  · exact ⟨h.ge, h.row.1⟩
  · rcases List.mem_append.1 hg with hg | hg
    · exact h.tab.lt g hg
    · exact h.rows.lt g hg
theorem StoIn.kb {P : Nat → Prop} (h : StoIn w B s hl L) (k : Kb P w w') (hne : ∀ g ∈ s :: (hl.blk ++ L.flatMap OShf.blks), ¬ P g) : StoIn w' B s hl L :=
  ⟨h.ge, k.row h.row (hne s (by simp)), own_kb h.lst k fun g hg => hne g (by simp [Hd.mem_blk.2 hg]), fun y hy => (h.each y hy).kb k fun g hg => hne g (by simp only [List.mem_cons, List.mem_append, List.mem_flatMap]; exact .inr (.inr ⟨y, hy, hg⟩)), h.nd⟩
theorem StoIn.aft (h : StoIn w B s hl L) (a : Aft w w') : StoIn w' B s hl L := h.kb (P := fun _ => False) (Kb.of_aft a) fun _ _ h => h
theorem StoIn.lt (h : StoIn w B s hl L) : ∀ g ∈ s :: (hl.blk ++ L.flatMap OShf.blks), B ≤ g ∧ g < w.heap.size := fun g hg => by
  rcases List.mem_cons.1 hg with rfl | hg
  · exact ⟨h.ge, h.row.1⟩
  · rcases List.mem_append.1 hg with hg | hg
    · exact blk_lt h.lst g hg
    · obtain ⟨y, hy, hg⟩ := List.mem_flatMap.1 hg
      exact (h.each y hy).lt g hg
/-- how a store is read -/
def storeS (L : List OShf) : List Shf := L.map OShf.s
theorem mayV_small {v : Val} (h : mayV v = true) : v.text.size ≤ 32 := by
  unfold mayV at h
  split at h
  · rw [Bool.and_eq_true] at h
    have := h.2
    rw [emp_size] at this
    have := of_decide_eq_true this
    omega
  · split at h
    · rw [emp_size] at h
      have := of_decide_eq_true h
      omega
    · split at h
      · rw [Bool.and_eq_true] at h
        have := of_decide_eq_true h.2
        omega
      · cases h
theorem row_small {l : List Col} {row : List Val} (hl : l.length ≤ 8) (h : besideB formB l row = true) : Small (row.length * 16) ∧ ∀ v ∈ row, Small v.text.size := by
  obtain ⟨h1, h2⟩ := (besideB_iff formB l row).1 h
  refine ⟨by unfold Small; omega, fun v hv => ?_⟩
  obtain ⟨i, hi, rfl⟩ := List.getElem_of_mem hv
  have h3 := h2 i (by omega) hi
  unfold formB at h3
  rw [Bool.and_eq_true] at h3
  have := mayV_small h3.1
  unfold Small; omega
theorem RowIn.at {o : ORow} (h : RowIn w B o) (hs : Small (o.vals.length * 16) ∧ ∀ v ∈ o.vals, Small v.text.size) : SlAt w 3 ValR o.h.a o.h.c o.vals :=
  own_slf cellsV h (fun v hv => ⟨rfl, rfl, hs.2 v hv⟩) hs.1
theorem RowsIn.at {h : Hd} {l : List ORow} (r : RowsIn w B h l) (hl : l.length ≤ 1000000) (hs : ∀ o ∈ l, Small (o.vals.length * 16) ∧ ∀ v ∈ o.vals, Small v.text.size) : SlAt w 1 RowsR h.a h.c (l.map (·.vals)) :=
  own_slo ORow.cells (·.vals) r.own (fun o ho => ⟨rfl, o.h.a, o.h.c, by unfold ORow.cells; rw [own_slice (r.each o ho)], RowIn.at (r.each o ho) (hs o ho)⟩) (by unfold Small; omega)
theorem ShfIn.at {y : OShf} (h : ShfIn w B y) (sm : SmT y.x.t) (hr : y.rows.length ≤ 64) (hc : y.x.t.cols.length ≤ 8) (hf : ∀ o ∈ y.rows, besideB formB y.x.t.cols o.vals = true) : ShfAt w y.p y.s y.x.hc.a y.x.hc.c y.x.hr.a y.x.hr.c y.hr.a y.hr.c := by
  refine ⟨?_, h.tab.cols sm, h.tab.ruls sm, RowsIn.at h.rows (by omega) fun o ho => row_small hc (hf o ho), h.blk⟩
  have e := h.row
  unfold OShf.cells at e
  rw [OTab.cells_of h.tab rfl, own_slice h.rows.own] at e
  simpa [OShf.s, OTab.t] using e
theorem SOk.shf {S : List Shf} {ss : List Sch} (h : SOk S ss) {x : Shf} (hx : x ∈ S) : x.rows.length ≤ 64 ∧ x.t.cols.length ≤ 8 ∧ ∀ r ∈ x.rows, besideB formB x.t.cols r = true := ⟨h.most x hx, cols_len (h.tab hx).cols, h.form x hx⟩
theorem StoIn.is {ss : List Sch} (h : StoIn w B s hl L) (ok : SOk (storeS L) ss) (sm : ∀ y ∈ L, SmT y.x.t) : StoIs w s (L.map (·.p)) (storeS L) := by
  have hL : L.length ≤ 64 := by have := ok.good.nt; simpa [storeS] using this
  refine ⟨by simp [storeS], ?_, ⟨hl.a, hl.c, ?_, ?_⟩, fun i h1 h2 => ?_⟩
  · have h1 := (List.nodup_append.1 (List.nodup_cons.1 h.nd).2).2.1
    refine List.Nodup.sublist ?_ h1
    clear h1 hL ok sm h
    induction L with
    | nil => exact List.Sublist.refl _
    | cons y L ih =>
      rw [List.map_cons, List.flatMap_cons]
      exact List.Sublist.append (l₁ := [y.p]) (by unfold OShf.blks; exact List.Sublist.cons_cons _ (List.nil_sublist _)) ih
  · have e := h.row
    rw [own_slice h.lst] at e
    simpa using e
  · exact own_slo ptrC (·.p) h.lst (fun y hy => ⟨rfl, rfl⟩) (by unfold Small; omega)
  · have hi : i < L.length := by simpa using h1
    have hm : L[i] ∈ L := List.getElem_mem hi
    obtain ⟨q1, q2, q3⟩ := ok.shf (x := L[i].s) (List.mem_map_of_mem hm)
    have := (h.each _ hm).at (sm _ hm) (by simpa [OShf.s] using q1) q2 (fun o ho => q3 _ (List.mem_map_of_mem ho))
    rw [List.getElem_map, show (storeS L)[i] = L[i].s by simp [storeS]]
    exact ⟨_, _, _, _, _, _, this⟩
theorem nodup_sub {X Y Y2 Z : List Nat} {N : Nat} (h : (X ++ (Y ++ Z)).Nodup) (hlt : ∀ g ∈ X ++ (Y ++ Z), g < N) (hs : ∀ g ∈ Y2, g ∈ Y ∨ N ≤ g) (h2 : Y2.Nodup) : (X ++ (Y2 ++ Z)).Nodup := by
  obtain ⟨hX, hYZ, hd⟩ := List.nodup_append.1 h
  obtain ⟨hY, hZ, hd2⟩ := List.nodup_append.1 hYZ
  refine List.nodup_append.2 ⟨hX, List.nodup_append.2 ⟨h2, hZ, fun a ha b hb e => ?_⟩, fun a ha b hb e => ?_⟩
  · rcases hs a ha with h3 | h3
    · exact hd2 a h3 b hb e
    · have := hlt b (by simp [hb]); omega
  · rcases List.mem_append.1 hb with hb | hb
    · rcases hs b hb with h3 | h3
      · exact hd a ha b (by simp [h3]) e
      · have := hlt a (by simp [ha]); omega
    · exact hd a ha b (by simp [hb]) e
/-- a shelf's rows are other ones -/
theorem StoIn.turn {q : Nat} {h' : Hd} {R' : List ORow} (h : StoIn w B s hl L) (hq : q < L.length) (k : Kb (fun g => g = L[q].p ∨ g ∈ L[q].rblk) w w') (hrow : RowAt w' L[q].p (L[q].x.cells ++ [h'.v])) (hblk : ∃ cur t, w'.heap[L[q].p]? = some (.cells cur t (0, 0)))
    (hr : RowsIn w' B h' R') (hb : ∀ g ∈ h'.blk ++ R'.flatMap (·.h.blk), g ∈ L[q].rblk ∨ w.heap.size ≤ g) (hn : (h'.blk ++ R'.flatMap (·.h.blk)).Nodup) : StoIn w' B s hl (L.set q ⟨L[q].p, L[q].x, R', h'⟩) := by
  have hall := h.lt
  have hnd := h.nd
  have hsplit : L = L.take q ++ L[q] :: L.drop (q + 1) := by rw [List.getElem_cons_drop, List.take_append_drop]
  have hset : L.set q ⟨L[q].p, L[q].x, R', h'⟩ = L.take q ++ (⟨L[q].p, L[q].x, R', h'⟩ : OShf) :: L.drop (q + 1) := List.set_eq_take_append_cons_drop.trans (by rw [if_pos hq])
  have hfl : L.flatMap OShf.blks = (L.take q).flatMap OShf.blks ++ (L[q].blks ++ (L.drop (q + 1)).flatMap OShf.blks) := by
    conv => lhs; rw [hsplit]
    rw [List.flatMap_append, List.flatMap_cons]
  have hey := h.each L[q] (List.getElem_mem hq)
  obtain ⟨A, hA⟩ : ∃ A, L.take q = A := ⟨_, rfl⟩
  obtain ⟨C, hC⟩ : ∃ C, L.drop (q + 1) = C := ⟨_, rfl⟩
  obtain ⟨y, hy⟩ : ∃ y, L[q] = y := ⟨_, rfl⟩
  have hAm : ∀ u ∈ A, u ∈ L := fun u hu => by rw [← hA] at hu; exact List.mem_of_mem_take hu
  have hCm : ∀ u ∈ C, u ∈ L := fun u hu => by rw [← hC] at hu; exact List.mem_of_mem_drop hu
  rw [hA, hC, hy] at hset hfl
  rw [hy] at k hrow hblk hb hey ⊢
  rw [hset]
  rw [hfl] at hnd hall
  have hPy : ∀ g, (g = y.p ∨ g ∈ y.rblk) → g ∈ y.blks := fun g e => by
    rcases e with rfl | e
    · unfold OShf.blks; simp
    · unfold OShf.blks; simp [e]
  have nd1 := List.nodup_cons.1 hnd
  have nd2 := List.nodup_append.1 nd1.2
  have nd3 := List.nodup_append.1 nd2.2.1
  have nd4 := List.nodup_append.1 nd3.2.1
  have hnA : ∀ g ∈ A.flatMap OShf.blks, ¬ (g = y.p ∨ g ∈ y.rblk) := fun g hg e => nd3.2.2 g hg g (List.mem_append.2 (.inl (hPy g e))) rfl
  have hnC : ∀ g ∈ C.flatMap OShf.blks, ¬ (g = y.p ∨ g ∈ y.rblk) := fun g hg e => nd4.2.2 g (hPy g e) g hg rfl
  have hsub : ∀ g ∈ OShf.blks ⟨y.p, y.x, R', h'⟩, g ∈ y.blks ∨ w.heap.size ≤ g := fun g hg => by
    unfold OShf.blks OShf.rblk at hg
    rcases List.mem_cons.1 hg with rfl | hg
    · exact .inl (by unfold OShf.blks; simp)
    · rcases List.mem_append.1 hg with hg | hg
      · exact .inl (by unfold OShf.blks; simp [hg])
      · rcases hb g hg with h3 | h3
        · exact .inl (hPy g (.inr h3))
        · exact .inr h3
  have hyn : (OShf.blks ⟨y.p, y.x, R', h'⟩).Nodup := by
    have h0 : ((y.p :: y.x.blks) ++ (y.rblk ++ [])).Nodup := by have := nd4.1; unfold OShf.blks at this; simpa using this
    have := nodup_sub (Y2 := h'.blk ++ R'.flatMap (·.h.blk)) (N := w.heap.size) h0 (fun g hg => (hey.lt g (by unfold OShf.blks; simpa using hg)).2) hb hn
    unfold OShf.blks OShf.rblk
    simpa using this
  refine ⟨h.ge, k.row h.row fun e => nd1.1 (List.mem_append.2 (.inr (List.mem_append.2 (.inr (List.mem_append.2 (.inl (hPy s e))))))), ?_, fun u hu => ?_, ?_⟩
  · have e1 : (A ++ (⟨y.p, y.x, R', h'⟩ : OShf) :: C).length = L.length := by rw [← hset, List.length_set]
    have e2 : (A ++ (⟨y.p, y.x, R', h'⟩ : OShf) :: C).flatMap ptrC = L.flatMap ptrC := by
      conv => rhs; rw [hsplit, hA, hC, hy]
      rw [List.flatMap_append, List.flatMap_cons, List.flatMap_append, List.flatMap_cons]; rfl
    rw [e1, e2]
    exact own_kb h.lst k fun g hg e => nd2.2.2 g (Hd.mem_blk.2 hg) g (List.mem_append.2 (.inr (List.mem_append.2 (.inl (hPy g e))))) rfl
  · rcases List.mem_append.1 hu with hu | hu
    · exact (h.each u (hAm u hu)).kb k fun g hg => hnA g (List.mem_flatMap.2 ⟨u, hu, hg⟩)
    · rcases List.mem_cons.1 hu with rfl | hu
      · refine ⟨hey.ge, hblk, hrow, hey.tab.kb k fun g hg e => ?_, hr⟩
        have n5 := nd4.1
        unfold OShf.blks at n5
        rcases e with rfl | e
        · exact (List.nodup_cons.1 n5).1 (by simp [hg])
        · exact (List.nodup_append.1 (List.nodup_cons.1 n5).2).2.2 g hg g e rfl
      · exact (h.each u (hCm u hu)).kb k fun g hg => hnC g (List.mem_flatMap.2 ⟨u, hu, hg⟩)
  · rw [List.flatMap_append, List.flatMap_cons]
    have := nodup_sub (X := s :: (hl.blk ++ A.flatMap OShf.blks)) (Y := y.blks) (Y2 := OShf.blks ⟨y.p, y.x, R', h'⟩) (Z := C.flatMap OShf.blks) (N := w.heap.size) (by simpa [List.append_assoc] using hnd) (fun g hg => (hall g (by simpa [List.append_assoc] using hg)).2) hsub hyn
    simpa [List.append_assoc] using this
end
end Go.Proofs.Ytiadkchlkdaceaa

namespace Go.Proofs.Ytiadkchlkdaceaa
open Go.RowKit
set_option maxRecDepth 100000
set_option linter.unusedVariables false
set_option maxHeartbeats 1000000 in
theorem idxRow (A : Option Addr) (cap : Nat) (l : List (List Val)) (g : FuncId) (caps : Array Value) (p : List Val → Bool) (w : World) (h : SlAt w 1 RowsR A cap l) (hent : ∀ (args : Array Value) (w : World), (callFunc g args).run Try.prog w = .ok (.enter g args) w)
    (hp : ∀ w', Aft w w' → ∀ i (hi : i < l.length) (A2 : Option Addr) (cap2 : Nat), SlAt w' 3 ValR A2 cap2 l[i] → Calls Try.prog g (#[.slice A2 l[i].length cap2] ++ caps) w' fun e w'' => e = .returned (.bool (p l[i])) ∧ Aft w' w'') :
    Calls Try.prog 98 #[.slice A l.length cap, .func (.func g) #[] caps] w fun e w' => e = .returned (.int .i64 (idxP p l)) ∧ Aft w w' := by
  have hlen := h.len
  have HC := Lib.hid hp
  clear hp
  go_enter Try.func98, Try.ntmps98
  go_wp2_with fail
  go_loopw [8] (fun i wr => ∃ k : Nat, k ≤ l.length ∧ i = .int .i64 k ∧ Aft w wr ∧ ∀ j, j < k → ∀ (hj : j < l.length), p l[j] = false) (fun i _ => l.length - (intOf i).toNat)
  case atStart => exact ⟨0, Nat.zero_le _, rfl, Aft.refl _, fun j hj => absurd hj (Nat.not_lt_zero j)⟩
  case round =>
    obtain ⟨k, hk, rfl, ha, hp⟩ := hrel
    have HA := Lib.hid ha
    have HP := Lib.hid hp; clear hp
    by_cases hlt : k < l.length
    · have hsl := rows_aft ha h
      clear ha
      obtain ⟨b, off, A2, cap2, rfl, hb, c0, hs⟩ := row_at hsl hlt
      have HK := Lib.hid (HC.out wr HA.out k hlt A2 cap2 hs)
      clear hsl hs
      obtain ⟨q, hq⟩ : ∃ q, p l[k] = q := ⟨_, rfl⟩
      rw [hq] at HK
      have HQ := Lib.hid hq
      clear hq
      cases q
      · go_wp2_with fail
        refine HK.out.mono ?_
        rintro e w1 ⟨rfl, a1⟩
        have HA1 := Lib.hid (HA.out.trans a1)
        clear a1
        go_wp2_with fail
        go_roundw
        case rel => exact ⟨k + 1, by omega, by go_num, HA1.out, ext_lt (p := fun j => ∀ (hj : j < l.length), p l[j] = false) HP.out (fun _ => HQ.out)⟩
        case measure => simp [intOf]; omega
      · go_wp2_with fail
        refine HK.out.mono ?_
        rintro e w1 ⟨rfl, a1⟩
        have HA1 := Lib.hid (HA.out.trans a1)
        clear a1
        go_wp2_with fail
        go_ret
        exact ⟨by rw [idxP_some p l k hlt HQ.out (fun i hi => HP.out i hi (by omega))]; rfl, HA1.out⟩
    · clear ha
      go_wp2_with fail
      go_ret
      exact ⟨by rw [idxP_none p l (fun i hi => HP.out i (by omega) hi)]; rfl, HA.out⟩
set_option maxHeartbeats 1000000 in
theorem contRow (A : Option Addr) (cap : Nat) (l : List (List Val)) (g : FuncId) (caps : Array Value) (p : List Val → Bool) (w : World) (h : SlAt w 1 RowsR A cap l) (hent : ∀ (args : Array Value) (w : World), (callFunc g args).run Try.prog w = .ok (.enter g args) w)
    (hp : ∀ w', Aft w w' → ∀ i (hi : i < l.length) (A2 : Option Addr) (cap2 : Nat), SlAt w' 3 ValR A2 cap2 l[i] → Calls Try.prog g (#[.slice A2 l[i].length cap2] ++ caps) w' fun e w'' => e = .returned (.bool (p l[i])) ∧ Aft w' w'') :
    Calls Try.prog 90 #[.slice A l.length cap, .func (.func g) #[] caps] w fun e w' => e = .returned (.bool (l.any p)) ∧ Aft w w' := by
  have C := Lib.hid (idxRow A cap l g caps p w h hent hp)
  have HE := Lib.hid (any_idx p l)
  obtain ⟨i, hi⟩ : ∃ i, idxP p l = i := ⟨_, rfl⟩
  rw [hi] at C HE
  clear hi h hp hent
  go_enter Try.func90, Try.ntmps90
  go_wp2_with fail
  refine C.out.mono ?_
  rintro e w1 ⟨rfl, a1⟩
  have HA := Lib.hid a1
  clear a1
  go_wp2_with fail
  go_ret
  exact ⟨by rw [HE.out]; rfl, HA.out⟩
set_option maxHeartbeats 1000000 in
theorem contCol12 (A : Option Addr) (cap : Nat) (l : List Col) (g : FuncId) (caps : Array Value) (p : Col → Bool) (w : World) (h : SlAt w 3 ColR A cap l) (hent : ∀ (args : Array Value) (w : World), (callFunc g args).run Try.prog w = .ok (.enter g args) w)
    (hp : ∀ w', Aft w w' → ∀ i (hi : i < l.length), Calls Try.prog g (#[.agg #[.string l[i].name, .int .i64 l[i].kind, .bool l[i].null]] ++ caps) w' fun e w'' => e = .returned (.bool (p l[i])) ∧ Aft w' w'') :
    Calls Try.prog 21 #[.slice A l.length cap, .func (.func g) #[] caps] w fun e w' => e = .returned (.bool (l.any p)) ∧ Aft w w' := by
  have C := Lib.hid (idxCol A cap l g caps p w h hent hp)
  have HE := Lib.hid (any_idx p l)
  obtain ⟨i, hi⟩ : ∃ i, idxP p l = i := ⟨_, rfl⟩
  rw [hi] at C HE
  clear hi h hp hent
  go_enter Try.func21, Try.ntmps21
  go_wp2_with fail
  refine C.out.mono ?_
  rintro e w1 ⟨rfl, a1⟩
  have HA := Lib.hid a1
  clear a1
  go_wp2_with fail
  go_ret
  exact ⟨by rw [HE.out]; rfl, HA.out⟩
set_option maxHeartbeats 2000000 in
theorem has1 (p : Nat) (x : Shf) (names : List ByteArray) (want row : List Val) (N : Option Addr) (capN : Nat) (D : Option Addr) (capD : Nat) (B : Option Addr) (capB : Nat) (b1 b2 b3 : Nat) (w : World) (h : ShfIs w p x) (hn : SlAt w 1 StrR N capN names) (hd : SlAt w 3 ValR D capD want) (h3 : SlAt w 3 ValR B capB row)
    (ok : OkN x.t.cols names) (hf : besideB formB x.t.cols row = true) (c1 : w.cell? ⟨b1, 0, none⟩ = some (.pointer (some ⟨p, 0, none⟩))) (c2 : w.cell? ⟨b2, 0, none⟩ = some (.slice N names.length capN)) (c3 : w.cell? ⟨b3, 0, none⟩ = some (.slice D want.length capD)) :
    Calls Try.prog 91 #[.slice B row.length capB, .pointer (some ⟨b1, 0, none⟩), .pointer (some ⟨b2, 0, none⟩), .pointer (some ⟨b3, 0, none⟩)] w fun e w' => e = .returned (.bool (eqVs (ofVs x.t.cols names row) want)) ∧ Aft w w' := by
  have C := Lib.hid (values12 p x names row N capN B capB w h hn h3 ok hf)
  have hLS : Small ((ofVs x.t.cols names row).length * 16) := by rw [ofVs_len]; exact small8' ok.1
  have hTS : ∀ v ∈ ofVs x.t.cols names row, Small v.text.size := by
    intro v hv
    obtain ⟨s', hs', rfl⟩ := List.mem_map.1 hv
    obtain ⟨j, hj, rfl⟩ := List.getElem_of_mem hs'
    obtain ⟨z, hz0, hzr⟩ := okN_at ok hf j hj
    rw [hz0, valAt_get hzr]
    exact val_small h3 z hzr
  obtain ⟨L, hL⟩ : ∃ L, ofVs x.t.cols names row = L := ⟨_, rfl⟩
  rw [hL] at C hLS hTS ⊢
  have E := Lib.hid (show ∀ w' v, Aft w w' → w'.ownsRow w.heap.size 44 3 v L.length (L.flatMap cellsV) → Calls Try.prog 92 #[v, .slice D want.length capD] w' fun e w'' => e = .returned (.bool (eqVs L want)) ∧ Aft w' w'' from fun w' v a ho => by
    obtain ⟨G, capG, rfl, hG⟩ := own_vals ho hLS hTS
    exact eqVal_any G capG L D capD want w' hG (vals_aft a hd))
  have z3 := World.block_lt_of_cell? _ _ c3
  clear h hn hd h3 ok hf hL hLS hTS
  go_enter Try.func91, Try.ntmps91
  go_wp2_with fail
  refine C.out.mono ?_
  rintro e w1 ⟨v, rfl, a1, ho⟩
  have E1 := Lib.hid (E.out w1 v a1 ho)
  have HA := Lib.hid a1
  have c3 := a1.cell_kept c3
  clear a1 ho c1 c2 C E
  go_wp2_with fail
  refine E1.out.mono ?_
  rintro e w2 ⟨rfl, a2⟩
  have HA2 := Lib.hid (HA.out.trans a2)
  clear a2
  go_wp2_with fail
  go_ret
  exact ⟨rfl, HA2.out⟩
set_option maxHeartbeats 2000000 in
theorem has12 (p : Nat) (x : Shf) (rows : List (List Val)) (names : List ByteArray) (want : List Val) (R : Option Addr) (capR : Nat) (N : Option Addr) (capN : Nat) (D : Option Addr) (capD : Nat) (w : World) (h : ShfIs w p x) (hr : SlAt w 1 RowsR R capR rows) (hn : SlAt w 1 StrR N capN names) (hd : SlAt w 3 ValR D capD want)
    (ok : OkN x.t.cols names) (hf : ∀ row ∈ rows, besideB formB x.t.cols row = true) :
    Calls Try.prog 69 #[.pointer (some ⟨p, 0, none⟩), .slice R rows.length capR, .slice N names.length capN, .slice D want.length capD] w fun e w' => e = .returned (.bool (hasR12 x.t.cols rows names want)) ∧ Aft w w' := by
  have hent := enters (P := Try.prog) Try.func91 (by kernel_rfl) rfl
  have C := Lib.hid (show ∀ W, Aft w W → W.cell? ⟨w.heap.size, 0, none⟩ = some (.pointer (some ⟨p, 0, none⟩)) → W.cell? ⟨w.heap.size + 1, 0, none⟩ = some (.slice N names.length capN) → W.cell? ⟨w.heap.size + 1 + 1, 0, none⟩ = some (.slice D want.length capD) →
      Calls Try.prog 90 #[.slice R rows.length capR, .func (.func 91) #[] #[.pointer (some ⟨w.heap.size, 0, none⟩), .pointer (some ⟨w.heap.size + 1, 0, none⟩), .pointer (some ⟨w.heap.size + 1 + 1, 0, none⟩)]] W fun e w' => e = .returned (.bool (hasR12 x.t.cols rows names want)) ∧ Aft W w' from fun W a q1 q2 q3 =>
    contRow R capR rows 91 #[.pointer (some ⟨w.heap.size, 0, none⟩), .pointer (some ⟨w.heap.size + 1, 0, none⟩), .pointer (some ⟨w.heap.size + 1 + 1, 0, none⟩)] (fun row => eqVs (ofVs x.t.cols names row) want) W (rows_aft a hr) hent fun w' a' i hi A2 cap2 h3 =>
      has1 p x names want rows[i] N capN D capD A2 cap2 w.heap.size (w.heap.size + 1) (w.heap.size + 1 + 1) w' (h.aft (a.trans a')) (strs_aft (a.trans a') hn) (vals_aft (a.trans a') hd) h3 ok (hf _ (List.getElem_mem hi)) (a'.cell_kept q1) (a'.cell_kept q2) (a'.cell_kept q3))
  clear h hr hn hd ok hf hent
  go_enter Try.func69, Try.ntmps69
  go_wp2_with fail
  obtain ⟨W, hW⟩ : ∃ W, W = ((w.alloc (.cells #[.pointer (some ⟨p, 0, none⟩)] 70)).alloc (.cells #[.slice N names.length capN] 28)).alloc (.cells #[.slice D want.length capD] 41) := ⟨_, rfl⟩
  have aW : Aft w W := by rw [hW]; exact (((Aft.refl w).alloc _).alloc _).alloc _
  have b1 : (w.alloc (.cells #[.pointer (some ⟨p, 0, none⟩)] 70)).cell? ⟨w.heap.size, 0, none⟩ = some (.pointer (some ⟨p, 0, none⟩)) := World.cell?_alloc_at _ _ _ _ rfl
  have b2 : ((w.alloc (.cells #[.pointer (some ⟨p, 0, none⟩)] 70)).alloc (.cells #[.slice N names.length capN] 28)).cell? ⟨w.heap.size + 1, 0, none⟩ = some (.slice N names.length capN) := World.cell?_alloc_at _ _ _ _ (by simp)
  have b3 : (((w.alloc (.cells #[.pointer (some ⟨p, 0, none⟩)] 70)).alloc (.cells #[.slice N names.length capN] 28)).alloc (.cells #[.slice D want.length capD] 41)).cell? ⟨w.heap.size + 1 + 1, 0, none⟩ = some (.slice D want.length capD) := World.cell?_alloc_at _ _ _ _ (by simp)
  have C1 := Lib.hid (C.out W aW (by rw [hW]; exact ((((Aft.refl _).alloc _).alloc _).cell_kept b1)) (by rw [hW]; exact (((Aft.refl _).alloc _).cell_kept b2)) (by rw [hW]; exact b3))
  have HA := Lib.hid aW
  rw [← hW]
  clear hW aW C
  refine C1.out.mono ?_
  rintro e w1 ⟨rfl, a1⟩
  have HA1 := Lib.hid (HA.out.trans a1)
  clear a1
  go_wp2_with fail
  go_ret
  exact ⟨rfl, HA1.out⟩
end Go.Proofs.Ytiadkchlkdaceaa

namespace Go.Proofs.Ytiadkchlkdaceaa
open Go.RowKit
set_option maxRecDepth 100000
set_option linter.unusedVariables false
@[go_sem ↓] theorem run_neqCol_self (w : World) (s : ByteArray) (k : Int) (b : Bool) :
    (binOp .neq 82 (.agg #[.string s, .int .i64 k, .bool b]) (.agg #[.string s, .int .i64 k, .bool b])).run Try.prog w = .ok (.bool false) w := by
  rw [run_neq_struct]; go_simp; try rfl
@[go_sem ↓] theorem run_neqSch_self (w : World) (s t : ByteArray) :
    (binOp .neq 91 (.agg #[.string s, .string t]) (.agg #[.string s, .string t])).run Try.prog w = .ok (.bool false) w := by
  rw [run_neq_struct]; go_simp; try rfl
end Go.Proofs.Ytiadkchlkdaceaa

namespace Go.Proofs.Ytiadkchlkdaceaa
open Go.RowKit
set_option maxRecDepth 100000
set_option linter.unusedVariables false
def LargeP (w : World) (o : Objs) (e : Ending) (w' : World) : Prop := ∃ b : Bool, e = .returned (.bool b) ∧ (b = false → ModO o) ∧ Aft w w'
def ModTs (l : List Tab) : Prop := ∀ t ∈ l, t.cols.length ≤ 3000 ∧ t.rules.length ≤ 3000 ∧ ∀ r ∈ t.rules, r.cols.length ≤ 3000
theorem ModTs.snoc {l : List Tab} {k : Nat} (hk : k < l.length) (h : ModTs (l.take k)) (h1 : l[k].cols.length ≤ 3000) (h2 : l[k].rules.length ≤ 3000) (h3 : ∀ r ∈ l[k].rules, r.cols.length ≤ 3000) : ModTs (l.take (k + 1)) := by
  intro t ht
  rw [List.take_succ_eq_append_getElem hk, List.mem_append, List.mem_singleton] at ht
  rcases ht with ht | rfl
  · exact h t ht
  · exact ⟨h1, h2, h3⟩
theorem mem_snoc_all {α : Type} {l : List α} {k : Nat} (hk : k < l.length) {P : α → Prop} (h : ∀ r ∈ l.take k, P r) (h1 : P l[k]) : ∀ r ∈ l.take (k + 1), P r := by
  intro r hr
  rw [List.take_succ_eq_append_getElem hk, List.mem_append, List.mem_singleton] at hr
  rcases hr with hr | rfl
  · exact h r hr
  · exact h1
end Go.Proofs.Ytiadkchlkdaceaa

namespace Go.Proofs.Ytiadkchlkdaceaa
open Go.RowKit Go.Deep
set_option maxRecDepth 100000
set_option linter.unusedVariables false
theorem ObjP.aft {w w' w'' : World} {r : Objs × Int} {e : Ending} (h : ObjP w r e w') (a : Aft w' w'') : ObjP w r e w'' := by
  obtain ⟨hs, ht, L, hL, he, ha, ob⟩ := h
  exact ⟨hs, ht, L, hL, he, ha.trans a, ob.aft a⟩
theorem Kp.kb {B B' : Nat} {w w' : World} (h : Kp B B' w w') : Kb (fun k => B ≤ k ∧ k < B') w w' := ⟨h.os, h.tape, h.output, h.size, fun k hk hn => h.block k hk (by omega)⟩
end Go.Proofs.Ytiadkchlkdaceaa

namespace Go.Proofs.Ytiadkchlkdaceaa
open Go.RowKit Go.Deep Go.Shelf
set_option maxRecDepth 100000
set_option linter.unusedVariables false
@[go_sem] theorem semAt_round (l : Nat) (ρ : Operand → Value) (o : Oper) (h : ∀ c, o.op ≠ .defer c) : Oper.semAt (some l) ρ o = execOp ρ o := Oper.semAt_some l ρ o h
/-- all cells lie as they lay -/
structure Kc (W W' : World) : Prop where
  size : W.heap.size ≤ W'.heap.size
  cells : ∀ (k : Nat) (o : Obj), W.heap[k]? = some o → o.isCells = true → W'.heap[k]? = some o
theorem Kc.refl (W : World) : Kc W W := ⟨Nat.le_refl _, fun _ _ h _ => h⟩
theorem Kc.trans {A B C : World} (h : Kc A B) (k : Kc B C) : Kc A C := ⟨Nat.le_trans h.size k.size, fun j o hj ho => k.cells j o (h.cells j o hj ho) ho⟩
theorem Kc.of_aft {W W' : World} (a : Aft W W') : Kc W W' := ⟨a.size, fun k o hk _ => (a.block k (Array.getElem?_eq_some_iff.1 hk).1).trans hk⟩
theorem Kc.put {W : World} {l : Nat} {o o' : Obj} (hl : W.heap[l]? = some o) (ho : o.isCells = false) : Kc W (W.putObj l o') := by
  refine ⟨by simp [World.putObj], fun k o2 hk hc => ?_⟩
  have hne : k ≠ l := fun e => by
    subst e
    rw [hl] at hk
    cases hk
    rw [ho] at hc; cases hc
  exact (World.putObj_heap_other hne).trans hk
theorem Kc.block {W W' : World} (h : Kc W W') {p : Addr} {v : Value} (hc : W.cell? p = some v) : W'.heap[p.block]? = W.heap[p.block]? := by
  unfold World.cell? at hc
  cases hh : W.heap[p.block]? with
  | none => rw [hh] at hc; cases hc
  | some o =>
    rw [h.cells _ o hh ?_]
    rw [hh] at hc
    cases o <;> first | rfl | cases hc
theorem Kc.cell {W W' : World} (h : Kc W W') {p : Addr} {v : Value} (hc : W.cell? p = some v) : W'.cell? p = some v := by
  have := h.block hc
  unfold World.cell? at hc ⊢
  rw [this]; exact hc
theorem Kc.row {W W' : World} (h : Kc W W') {g : Nat} {xs : List Value} (hr : RowAt W g xs) (h0 : 0 < xs.length) : RowAt W' g xs := by
  have hb : W'.heap[g]? = W.heap[g]? := h.block (p := ⟨g, 0, none⟩) (v := xs[0]) (by rw [hr.2.1 0 h0, List.getElem?_eq_getElem h0])
  refine ⟨Nat.lt_of_lt_of_le hr.1 h.size, fun j hj => ?_, fun j hj => ?_⟩
  · rw [← hr.2.1 j hj]; simp [World.cell?, hb]
  · rw [← hr.2.2 j hj]; simp [World.frozen?, hb]
/-- a table and one of its rules, as they are handed over -/
structure FP where
  t : Tab
  r : Rul
  a1 : Option Addr
  c1 : Nat
  a2 : Option Addr
  c2 : Nat
  a3 : Option Addr
  c3 : Nat
def FP.enc (x : FP) : Array Value := #[.agg #[.string x.t.schema, .string x.t.name, .string x.t.owner, .slice x.a1 x.t.cols.length x.c1, .slice x.a2 x.t.rules.length x.c2],
  .agg #[.string x.r.name, .int .i64 x.r.kind, .slice x.a3 x.r.cols.length x.c3, .int .i64 x.r.low, .int .i64 x.r.high, .string x.r.schema, .string x.r.table, .string x.r.key]]
def FP.key (x : FP) : Tab × Rul := (x.t, x.r)
end Go.Proofs.Ytiadkchlkdaceaa

namespace Go.Proofs.Ytiadkchlkdaceaa
set_option linter.unusedVariables false
section
variable {F : Fence} {n : Nat} {P : Program} {ops : Array Oper} {C : World → Prop} {md : Region.Mode}
/-- no deferred call is laid -/
def plainO (o : Oper) : Bool := match o.op with | .defer _ => false | _ => true
theorem plainO.sem {o : Oper} (h : plainO o = true) (r : Option Nat) (ρ : Operand → Value) : Oper.semAt r ρ o = execOp ρ o := by
  cases r with
  | none => exact Oper.semAt_none ρ o
  | some l => exact Oper.semAt_some l ρ o (fun c e => by unfold plainO at h; rw [e] at h; cases h)
theorem quiet_wp9 {o : Oper} {a : Act} {K : Act → Prop} {K' : Act → World → Prop} {Q' : Exit → Act → World → Prop} {w : World} (hp : plainO o = true) (hw : C w) (h : ∀ a w', C w' → K a → K' a w')
    (ha : o.askedIn F P a C) (hh : o.quietIn F n P a C K) : o.wpIn F n P a w K' Q' := by
  obtain ⟨v, h1, h2⟩ := hh
  refine ⟨ha w hw, ?_⟩
  rw [plainO.sem hp]
  have h3 := h1 w hw
  unfold Oper.quietAtIn at h3
  revert h3
  generalize (execOp a.eval o).run P w = r
  intro h3
  cases r with
  | halt x w' => simp only [Oper.quietUponIn] at h3
  | ok x w' =>
    cases x <;> simp only [Oper.quietUponIn] at h3 <;> simp only [Oper.uponIn]
    case value u => rw [h3.1, h3.2]; exact h _ _ hw h2
    case skip => rw [h3.1, ← h3.2]; exact h _ _ hw h2
    case enter f args =>
      rw [h3.1]
      exact ⟨h3.2.1, h3.2.2.mono fun e w'' he => by rw [he.1]; exact h _ _ he.2 h2⟩
theorem quiet_any9 {Q : Act → Prop} {Q' : Exit → Act → World → Prop} (hp : ∀ (i : Nat) (o : Oper), ops[i]? = some o → plainO o = true) (hQ : ∀ a w, C w → Q a → Q' .normal a w) :
    ∀ (fuel : Nat) (listed : Array Bool) (a : Act) (w : World), C w → wpAnyQIn F n P md ops C Q fuel listed a → wpAnyIn F n P md ops Q' fuel listed a w
  | 0, _, _, _, hw, h => ⟨h.1, hQ _ _ hw h.2⟩
  | fuel + 1, _, a, w, hw, h => ⟨fun h0 => hQ _ _ hw (h.1 h0), fun i hi => by
    have h1 := h.2 i hi
    unfold qOpIn at h1
    unfold wpOpIn
    cases ho : ops[i]? with
    | none => rw [ho] at h1; exact quiet_any9 hp hQ fuel _ a w hw h1
    | some o =>
      rw [ho] at h1
      simp only at h1 ⊢
      by_cases hwn : Region.wanted o (yielded ops a.tmps) = true
      · rw [if_pos hwn] at h1 ⊢
        exact quiet_wp9 (hp i o ho) hw (fun a' w' hw' => quiet_any9 hp hQ fuel _ a' w' hw') h1.1 h1.2
      · rw [if_neg hwn] at h1 ⊢
        exact ⟨h1.1 w hw, quiet_any9 hp hQ fuel _ _ w hw h1.2⟩⟩
end
end Go.Proofs.Ytiadkchlkdaceaa

