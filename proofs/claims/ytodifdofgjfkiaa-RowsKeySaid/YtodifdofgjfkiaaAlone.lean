/- rows.alone, rows.Check. -/
import Derived.Test.YtodifdofgjfkiaaAloneLaw
import Derived.Test.YtodifdofgjfkiaaClone
import Derived.Test.YtodifdofgjfkiaaCheck
import Derived.Deep.RegionHeld3
namespace Go.Proofs.Ytodifdofgjfkiaa
open Go.RowKit
set_option maxRecDepth 100000
set_option linter.unusedVariables false
theorem RowAt.far {w : World} {b : Nat} {xs : List Value} (h : RowAt w b xs) {g : Nat} (hne : g ≠ b) (j : Nat) (v : Value) : RowAt (w.setCell ⟨g, j, none⟩ v) b xs :=
  ⟨by simpa using h.1, fun k hk => by refine (World.cell?_setCell_other _ _ _ _ ?_).trans (h.2.1 k hk); intro e; injection e with e1; exact hne e1, fun k hk => by rw [World.frozen?_setCell]; exact h.2.2 k hk⟩
theorem box_row {w W : World} {c : List Value} {t : TypeId} (h : Aft (w.alloc (.cells c.toArray t)) W) : RowAt W w.heap.size c := by
  obtain ⟨hb, hf, hz, _, _⟩ := aft_box h
  exact ⟨hz.1, fun j hj => by rw [hb]; simp, fun j _ => hf j⟩
theorem some_set {w : World} {q : Addr} (h : (w.cell? q).isSome = true) (p : Addr) (v : Value) : ((w.setCell p v).cell? q).isSome = true := by
  obtain ⟨u, hu⟩ := Option.isSome_iff_exists.1 h
  by_cases e : p = q
  · subst e; rw [World.cell?_setCell_same (h := hu)]; rfl
  · rw [World.cell?_setCell_other (h := e)]; exact h
theorem keep_row {w : World} {n a b c d g : Nat} {V : Value} (hS : w.cell? ⟨n, 4, none⟩ = some V ∧ (w.cell? ⟨g, a, none⟩).isSome = true ∧ (w.cell? ⟨g, b, none⟩).isSome = true ∧ (w.cell? ⟨g, c, none⟩).isSome = true ∧ (w.cell? ⟨g, d, none⟩).isSome = true ∧ w.frozen? ⟨g, a, none⟩ = false ∧ w.frozen? ⟨g, b, none⟩ = false ∧ w.frozen? ⟨g, c, none⟩ = false ∧ w.frozen? ⟨g, d, none⟩ = false) (hne : g ≠ n) (j : Nat) (v : Value) :
    (w.setCell ⟨g, j, none⟩ v).cell? ⟨n, 4, none⟩ = some V ∧ ((w.setCell ⟨g, j, none⟩ v).cell? ⟨g, a, none⟩).isSome = true ∧ ((w.setCell ⟨g, j, none⟩ v).cell? ⟨g, b, none⟩).isSome = true ∧ ((w.setCell ⟨g, j, none⟩ v).cell? ⟨g, c, none⟩).isSome = true ∧ ((w.setCell ⟨g, j, none⟩ v).cell? ⟨g, d, none⟩).isSome = true ∧ (w.setCell ⟨g, j, none⟩ v).frozen? ⟨g, a, none⟩ = false ∧ (w.setCell ⟨g, j, none⟩ v).frozen? ⟨g, b, none⟩ = false ∧ (w.setCell ⟨g, j, none⟩ v).frozen? ⟨g, c, none⟩ = false ∧ (w.setCell ⟨g, j, none⟩ v).frozen? ⟨g, d, none⟩ = false := by
  obtain ⟨h1, h2, h3, h4, h5, h6⟩ := hS
  refine ⟨?_, some_set h2 _ _, some_set h3 _ _, some_set h4 _ _, some_set h5 _ _, by simpa using h6⟩
  refine (World.cell?_setCell_other _ _ _ _ ?_).trans h1
  intro e; injection e with e1; exact hne e1
theorem RowAt.put4 {w : World} {g : Nat} {cs : List (List Value)} (hr : RowAt w g cs.flatten) (hl : ∀ c ∈ cs, c.length = 8) (k : Nat) (hk : k < cs.length) {a b c d e f x y : Value} (hcs : cs[k] = [a, b, c, d, e, f, x, y]) (b' f' x' y' : Value) :
    RowAt ((((w.setCell ⟨g, k * 8 + 1, none⟩ b').setCell ⟨g, k * 8 + 5, none⟩ f').setCell ⟨g, k * 8 + 6, none⟩ x').setCell ⟨g, k * 8 + 7, none⟩ y') g (cs.set k [a, b', c, d, e, f', x', y']).flatten := by
  have hset : ∀ (n : List Value), n.length = 8 → ∀ z ∈ cs.set k n, z.length = 8 := by
    intro n hn z hz
    rcases List.mem_or_eq_of_mem_set hz with h | h
    · exact hl z h
    · rw [h]; exact hn
  have p1 := hr.put hl k 1 hk (by decide) b'
  rw [hcs] at p1
  simp only [List.set_cons_succ, List.set_cons_zero] at p1
  have p2 := p1.put (hset _ rfl) k 5 (by simpa using hk) (by decide) f'
  rw [List.set_set, List.getElem_set_self] at p2
  simp only [List.set_cons_succ, List.set_cons_zero] at p2
  have p3 := p2.put (hset _ rfl) k 6 (by simpa using hk) (by decide) x'
  rw [List.set_set, List.getElem_set_self] at p3
  simp only [List.set_cons_succ, List.set_cons_zero] at p3
  have p4 := p3.put (hset _ rfl) k 7 (by simpa using hk) (by decide) y'
  rw [List.set_set, List.getElem_set_self] at p4
  simp only [List.set_cons_succ, List.set_cons_zero] at p4
  exact p4
theorem lvObj_row {W : World} {b : Nat} {a c : Value} (h : RowAt W b [a, c]) : (loadVar 25 ⟨b, 0, none⟩).run Try.prog W = .ok (.agg #[a, c]) W := by
  have e0 := h.cell (j := 0) rfl
  have e1 := h.cell (j := 1) rfl
  have h1 := run_lvObj W b 0 (by rw [e0]; rfl) (by rw [e1]; rfl)
  rw [e0, e1] at h1
  exact h1
theorem small0 : Small (ByteArray.size ⟨#[]⟩) := by unfold Small; simp [ByteArray.size]
theorem small1 (c : UInt8) : Small (ByteArray.size ⟨#[c]⟩) := by unfold Small; simp [ByteArray.size]
def AloneP (w : World) (t : Tab) (e : Ending) (w' : World) : Prop := ∃ As At, e = .returned (.agg #[.slice As 1 1, .slice At 1 1]) ∧ Aft w w' ∧ SlAt w' 2 SchR As 1 (aloneO t).schemas ∧ SlAt w' 5 TabR At 1 (aloneO t).tables
set_option maxHeartbeats 8000000 in
theorem alone_any (t : Tab) (A : Option Addr) (cap : Nat) (A2 : Option Addr) (cap2 : Nat) (w : World) (h : SlAt w 3 ColR A cap t.cols) (h2 : SlAt w 8 RulR A2 cap2 t.rules) (hb : t.rules.length ≤ 1000000) :
    Calls Try.prog 93 #[.agg #[.string t.schema, .string t.name, .string t.owner, .slice A t.cols.length cap, .slice A2 t.rules.length cap2]] w (AloneP w t) := by
  have hlen := h.len
  have l1 : w.heap.size < w.heap.size + 1 := by omega
  have l2 : w.heap.size < w.heap.size + 1 + 1 := by omega
  have Cc := Lib.hid (show ∀ w', Aft w w' → _ from fun w' a => cloneRul A2 cap2 t.rules w w' a h2 hb)
  go_enter Try.func93, Try.ntmps93
  go_wp2_with fail
  refine (Cc.out _ (((Aft.refl w).alloc _).alloc _)).mono ?_
  rintro e w1 ⟨v, css, rfl, a1, hrow, hch⟩
  have r1 : RowAt w1 w.heap.size [.string ⟨#[115]⟩, .string ⟨#[116]⟩, .string ⟨#[111]⟩, .slice A t.cols.length cap, .slice A2 t.rules.length cap2] := (box_row (Aft.refl _)).aft (((Aft.refl _).alloc _).trans a1)
  have r2 : RowAt w1 (w.heap.size + 1) [.slice none 0 0, .slice none 0 0] := by
    have := (box_row (w := w.alloc (.cells #[.string ⟨#[115]⟩, .string ⟨#[116]⟩, .string ⟨#[111]⟩, .slice A t.cols.length cap, .slice A2 t.rules.length cap2] 34)) (c := [.slice none 0 0, .slice none 0 0]) (t := 25) (Aft.refl _)).aft a1
    simpa using this
  have HC := Lib.hid hch
  have HA1 := Lib.hid ((((Aft.refl w).alloc _).alloc _).trans a1)
  obtain ⟨G, capG, rfl, hcapG, hG⟩ := hrow
  have hlr := h2.len
  have b0 := r1.cell (j := 0) rfl
  have b1 := r1.cell (j := 1) rfl
  have b2 := r1.cell (j := 2) rfl
  have b3 := r1.cell (j := 3) rfl
  have b4 := r1.cell (j := 4) rfl
  have f4 := r1.2.2 4 (by simp)
  have z1 := r1.1
  have HR1 := Lib.hid (show RowAt (w1.setCell ⟨w.heap.size, 4, none⟩ (.slice G t.rules.length capG)) w.heap.size [.string ⟨#[115]⟩, .string ⟨#[116]⟩, .string ⟨#[111]⟩, .slice A t.cols.length cap, .slice G t.rules.length capG] from r1.set 4 (.slice G t.rules.length capG) (by simp))
  have HR2 := Lib.hid (r2.far (g := w.heap.size) (by omega) 4 (.slice G t.rules.length capG))
  have HRG := Lib.hid (show 0 < t.rules.length → ∃ g, G = some ⟨g, 0, none⟩ ∧ w.heap.size + 2 ≤ g ∧ RowAt (w1.setCell ⟨w.heap.size, 4, none⟩ (.slice G t.rules.length capG)) g css.flatten by
    intro h0
    obtain ⟨g, e, hb, hr⟩ := hG h0
    have hb' : w.heap.size + 2 ≤ g := by simpa using hb
    exact ⟨g, e, hb', hr.far (by omega) _ _⟩)
  have HAS := Lib.hid (HA1.out.setCell ⟨w.heap.size, 4, none⟩ (.slice G t.rules.length capG) (Nat.le_refl _))
  clear hch a1 hG r1 r2 HA1
  go_wp2_with fail
  go_loopw [15] (fun i wr => ∃ (k : Nat) (cs : List (List Value)), k ≤ t.rules.length ∧ i = .int .i64 k ∧ Aft w wr ∧ RowAt wr w.heap.size [.string ⟨#[115]⟩, .string ⟨#[116]⟩, .string ⟨#[111]⟩, .slice A t.cols.length cap, .slice G t.rules.length capG] ∧ RowAt wr (w.heap.size + 1) [.slice none 0 0, .slice none 0 0] ∧ Chunks w 8 RulR cs ((t.rules.take k).map bareR ++ t.rules.drop k) ∧ (0 < t.rules.length → ∃ g, G = some ⟨g, 0, none⟩ ∧ w.heap.size + 2 ≤ g ∧ RowAt wr g cs.flatten)) (fun i _ => t.rules.length - (intOf i).toNat)
  case atStart => exact ⟨0, css, Nat.zero_le _, rfl, HAS.out, HR1.out, HR2.out, by simpa using HC.out, HRG.out⟩
  case round =>
    clear HAS HR1 HR2 HRG HC b0 b1 b2 b3 b4 f4 z1
    obtain ⟨k, cs, hk, rfl, ha, r1, r2, hch, hrg⟩ := hrel
    have HA := Lib.hid ha
    have HR1 := Lib.hid r1
    have HR2 := Lib.hid r2
    have HC := Lib.hid hch
    have b0 := r1.cell (j := 0) rfl
    have b1 := r1.cell (j := 1) rfl
    have b2 := r1.cell (j := 2) rfl
    have b3 := r1.cell (j := 3) rfl
    have b4 := r1.cell (j := 4) rfl
    have z1 := r1.1
    by_cases hlt : k < t.rules.length
    · obtain ⟨g, rfl, hg2, rg⟩ := hrg (by omega)
      have HRG := Lib.hid rg
      have hmix := mixed_len bareR t.rules k (by omega)
      have hkc : k < cs.length := by rw [hch.1, hmix]; exact hlt
      obtain ⟨hc8, A3, cap3, hcs, hcols, s0, s1, s2, s3⟩ := hch.2 k hkc (by rw [hmix]; exact hlt)
      rw [mixed_get bareR t.rules k hlt] at hcs hcols s0 s1 s2 s3
      obtain ⟨p, hpp⟩ : ∃ p, t.rules[k] = p := ⟨_, rfl⟩
      rw [hpp] at hcs hcols s0 s1 s2 s3
      have cell : ∀ j u, j < 8 → cs[k][j]? = some u → wr.cell? ⟨g, k * 8 + j, none⟩ = some u := fun j u hj hu => rg.cell ((flat_get cs hch.all k j hkc hj).trans hu)
      have c0 := cell 0 _ (by omega) (by rw [hcs]; rfl)
      have c1 := cell 1 _ (by omega) (by rw [hcs]; rfl)
      have c2 := cell 2 _ (by omega) (by rw [hcs]; rfl)
      have c3 := cell 3 _ (by omega) (by rw [hcs]; rfl)
      have c4 := cell 4 _ (by omega) (by rw [hcs]; rfl)
      have c5 := cell 5 _ (by omega) (by rw [hcs]; rfl)
      have c6 := cell 6 _ (by omega) (by rw [hcs]; rfl)
      have c7 := cell 7 _ (by omega) (by rw [hcs]; rfl)
      rw [Nat.add_zero] at c0
      have hgl : g < wr.heap.size := rg.1
      have HB := Lib.hid (show bareR t.rules[k] = if (p.kind == 4 && nameB p.schema && nameB p.table && nameB p.key) = true then { p with kind := 1, schema := ⟨#[]⟩, table := ⟨#[]⟩, key := ⟨#[]⟩ } else p by rw [hpp]; rfl)
      have HPP := Lib.hid hpp
      have HCS := Lib.hid hcs
      have HCO := Lib.hid hcols
      have HNB := Lib.hid (fun hn : bareR t.rules[k] = t.rules[k] => (show Chunks w 8 RulR cs ((t.rules.take (k + 1)).map bareR ++ t.rules.drop (k + 1)) from mixed_same bareR t.rules k hlt hn ▸ hch))
      have RGA := Lib.hid (show ∀ c : Obj, 0 < t.rules.length → ∃ g', some (⟨g, 0, none⟩ : Addr) = some ⟨g', 0, none⟩ ∧ w.heap.size + 2 ≤ g' ∧ RowAt (wr.alloc c) g' cs.flatten from fun c _ => ⟨g, rfl, hg2, rg.aft ((Aft.refl _).alloc _)⟩)
      clear ha r1 r2 hch hrg rg hcs hcols cell hmix hpp
      cases h4 : (p.kind == 4)
      · have HN := Lib.hid (HNB.out (by rw [HB.out, h4, HPP.out]; rfl))
        go_wp2_with (go_at_call 67; refine (name_any _ _ (by first | exact s1.max | exact s2.max | exact s3.max)).mono ?_; rintro e w' ⟨rfl, rfl⟩)
        go_roundw
        case rel => exact ⟨k + 1, cs, by omega, by go_num, HA.out.alloc _, HR1.out.aft ((Aft.refl _).alloc _), HR2.out.aft ((Aft.refl _).alloc _), HN.out, RGA.out _⟩
        case measure => simp [intOf]; omega
      cases n1 : nameB p.schema
      · have HN := Lib.hid (HNB.out (by rw [HB.out, h4, n1, HPP.out]; rfl))
        go_wp2_with (go_at_call 67; refine (name_any _ _ (by first | exact s1.max | exact s2.max | exact s3.max)).mono ?_; rintro e w' ⟨rfl, rfl⟩)
        go_roundw
        case rel => exact ⟨k + 1, cs, by omega, by go_num, HA.out.alloc _, HR1.out.aft ((Aft.refl _).alloc _), HR2.out.aft ((Aft.refl _).alloc _), HN.out, RGA.out _⟩
        case measure => simp [intOf]; omega
      cases n2 : nameB p.table
      · have HN := Lib.hid (HNB.out (by rw [HB.out, h4, n1, n2, HPP.out]; rfl))
        go_wp2_with (go_at_call 67; refine (name_any _ _ (by first | exact s1.max | exact s2.max | exact s3.max)).mono ?_; rintro e w' ⟨rfl, rfl⟩)
        go_roundw
        case rel => exact ⟨k + 1, cs, by omega, by go_num, HA.out.alloc _, HR1.out.aft ((Aft.refl _).alloc _), HR2.out.aft ((Aft.refl _).alloc _), HN.out, RGA.out _⟩
        case measure => simp [intOf]; omega
      cases n3 : nameB p.key
      · have HN := Lib.hid (HNB.out (by rw [HB.out, h4, n1, n2, n3, HPP.out]; rfl))
        go_wp2_with (go_at_call 67; refine (name_any _ _ (by first | exact s1.max | exact s2.max | exact s3.max)).mono ?_; rintro e w' ⟨rfl, rfl⟩)
        go_roundw
        case rel => exact ⟨k + 1, cs, by omega, by go_num, HA.out.alloc _, HR1.out.aft ((Aft.refl _).alloc _), HR2.out.aft ((Aft.refl _).alloc _), HN.out, RGA.out _⟩
        case measure => simp [intOf]; omega
      · have HB2 := Lib.hid (show bareR t.rules[k] = { p with kind := 1, schema := ⟨#[]⟩, table := ⟨#[]⟩, key := ⟨#[]⟩ } by rw [HB.out, h4, n1, n2, n3]; rfl)
        go_wp2_with (go_at_call 67; refine (name_any _ _ (by first | exact s1.max | exact s2.max | exact s3.max)).mono ?_; rintro e w' ⟨rfl, rfl⟩)
        obtain ⟨W, hW⟩ : ∃ W, W = wr.alloc (.cells #[.string p.name, .int .i64 p.kind, .slice A3 p.cols.length cap3, .int .i64 p.low, .int .i64 p.high, .string p.schema, .string p.table, .string p.key] 66) := ⟨_, rfl⟩
        rw [← hW]
        have a8 : Aft wr W := by rw [hW]; exact (Aft.refl wr).alloc _
        have rg := HRG.out.aft a8
        have HRW := Lib.hid rg
        have hl8 : k * 8 + 7 < cs.flatten.length := by rw [flat_len cs HC.out.all]; have : (k + 1) * 8 ≤ cs.length * 8 := Nat.mul_le_mul_right _ hkc; omega
        have hgn : g ≠ w.heap.size := by omega
        have hgn1 : g ≠ w.heap.size + 1 := by omega
        have K0 := Lib.hid (show W.cell? ⟨w.heap.size, 4, none⟩ = some (.slice (some ⟨g, 0, none⟩) t.rules.length capG) ∧ (W.cell? ⟨g, k * 8 + 1, none⟩).isSome = true ∧ (W.cell? ⟨g, k * 8 + 5, none⟩).isSome = true ∧ (W.cell? ⟨g, k * 8 + 6, none⟩).isSome = true ∧ (W.cell? ⟨g, k * 8 + 7, none⟩).isSome = true ∧ W.frozen? ⟨g, k * 8 + 1, none⟩ = false ∧ W.frozen? ⟨g, k * 8 + 5, none⟩ = false ∧ W.frozen? ⟨g, k * 8 + 6, none⟩ = false ∧ W.frozen? ⟨g, k * 8 + 7, none⟩ = false from ⟨a8.cell_kept b4, congrArg Option.isSome (a8.cell_kept c1), congrArg Option.isSome (a8.cell_kept c5), congrArg Option.isSome (a8.cell_kept c6), congrArg Option.isSome (a8.cell_kept c7), rg.2.2 (k * 8 + 1) (by omega), rg.2.2 (k * 8 + 5) (by omega), rg.2.2 (k * 8 + 6) (by omega), rg.2.2 (k * 8 + 7) (by omega)⟩)
        have K1 := Lib.hid (keep_row K0.out hgn (k * 8 + 1) (.int .i64 1))
        have K2 := Lib.hid (keep_row K1.out hgn (k * 8 + 5) (.string ⟨#[]⟩))
        have K3 := Lib.hid (keep_row K2.out hgn (k * 8 + 6) (.string ⟨#[]⟩))
        have K4 := Lib.hid (keep_row K3.out hgn (k * 8 + 7) (.string ⟨#[]⟩))
        have HAW := Lib.hid (HA.out.trans a8)
        have HR1W := Lib.hid (HR1.out.aft a8)
        have HR2W := Lib.hid (HR2.out.aft a8)
        have x1 := a8.cell_kept c1
        have x5 := a8.cell_kept c5
        have x6 := a8.cell_kept c6
        have x7 := a8.cell_kept c7
        have y1 := rg.2.2 (k * 8 + 1) (by omega)
        have y5 := rg.2.2 (k * 8 + 5) (by omega)
        have y6 := rg.2.2 (k * 8 + 6) (by omega)
        have y7 := rg.2.2 (k * 8 + 7) (by omega)
        clear hW b0 b1 b2 b3 b4 c0 c1 c2 c3 c4 c5 c6 c7 a8 rg
        go_region_held3 (fun w' => w'.cell? ⟨w.heap.size, 4, none⟩ = some (.slice (some ⟨g, 0, none⟩) t.rules.length capG)) (first | exact K0.out.1 | exact K1.out.1 | exact K2.out.1 | exact K3.out.1 | exact K4.out.1) (fail)
        have HP4 := Lib.hid (HRW.out.put4 HC.out.all k hkc HCS.out (.int .i64 1) (.string ⟨#[]⟩) (.string ⟨#[]⟩) (.string ⟨#[]⟩))
        have HCH := Lib.hid (show Chunks w 8 RulR (cs.set k [.string p.name, .int .i64 1, .slice A3 p.cols.length cap3, .int .i64 p.low, .int .i64 p.high, .string ⟨#[]⟩, .string ⟨#[]⟩, .string ⟨#[]⟩]) ((t.rules.take (k + 1)).map bareR ++ t.rules.drop (k + 1)) from
          mixed_step bareR t.rules k hlt ▸ HC.out.set rfl (by rw [HB2.out]; exact ⟨A3, cap3, rfl, HCO.out, s0, small0, small0, small0⟩))
        go_wp2_with fail
        go_roundw
        case rel => exact ⟨k + 1, _, by omega, by go_num, ((((HAW.out.setCell _ _ (by simp; omega)).setCell _ _ (by simp; omega)).setCell _ _ (by simp; omega)).setCell _ _ (by simp; omega)).drew, ((((HR1W.out.far hgn _ _).far hgn _ _).far hgn _ _).far hgn _ _).aft (Aft.refl _).drew, ((((HR2W.out.far hgn1 _ _).far hgn1 _ _).far hgn1 _ _).far hgn1 _ _).aft (Aft.refl _).drew, HCH.out, fun _ => ⟨g, rfl, hg2, HP4.out.aft (Aft.refl _).drew⟩⟩
        case measure => simp [intOf]; omega
    · have c20 := r2.cell (j := 0) rfl
      have c21 := r2.cell (j := 1) rfl
      have f20 := r2.2.2 0 (by simp)
      have f21 := r2.2.2 1 (by simp)
      have z2 := r2.1
      have z3 : w.heap.size + 1 < wr.heap.size + 1 := by omega
      have z4 : w.heap.size + 1 < wr.heap.size + 1 + 1 := by omega
      have z5 : w.heap.size < wr.heap.size + 1 := by omega
      have z6 : w.heap.size < wr.heap.size + 1 + 1 := by omega
      have ek : (t.rules.take k).map bareR ++ t.rules.drop k = t.rules.map bareR := by rw [List.take_of_length_le (by omega), List.drop_eq_nil_of_le (by omega), List.append_nil]
      rw [ek] at hch
      have HC2 := Lib.hid hch
      have HRG := Lib.hid hrg
      clear ha r1 r2 hch hrg ek HC
      go_wp2_with fail
      (try simp only [Exit.inBlock, Exit.then])
      have HRF := Lib.hid (show RowAt ((wr.setCell ⟨w.heap.size + 1, 0, none⟩ (.slice (some ⟨wr.heap.size, 0, none⟩) 1 1)).setCell ⟨w.heap.size + 1, 1, none⟩ (.slice (some ⟨wr.heap.size + 1, 0, none⟩) 1 1)) (w.heap.size + 1) [.slice (some ⟨wr.heap.size, 0, none⟩) 1 1, .slice (some ⟨wr.heap.size + 1, 0, none⟩) 1 1] from
        (HR2.out.set 0 (.slice (some ⟨wr.heap.size, 0, none⟩) 1 1) (by simp)).set 1 (.slice (some ⟨wr.heap.size + 1, 0, none⟩) 1 1) (by simp))
      refine bodyPost_ret (results_cell (v := .agg #[.slice (some ⟨wr.heap.size, 0, none⟩) 1 1, .slice (some ⟨wr.heap.size + 1, 0, none⟩) 1 1]) rfl _ rfl ?hl) rfl ?_
      case hl => exact lvObj_row (HRF.out.aft (((Aft.refl _).alloc _).alloc _))
      have HF := (((HA.out.setCell ⟨w.heap.size + 1, 0, none⟩ (.slice (some ⟨wr.heap.size, 0, none⟩) 1 1) (by simp)).setCell ⟨w.heap.size + 1, 1, none⟩ (.slice (some ⟨wr.heap.size + 1, 0, none⟩) 1 1) (by simp)).alloc (.cells #[.string ⟨#[115]⟩, .string ⟨#[111]⟩] 84)).alloc (.cells #[.string ⟨#[115]⟩, .string ⟨#[116]⟩, .string ⟨#[111]⟩, .slice A t.cols.length cap, .slice G t.rules.length capG] 34)
      refine ⟨_, _, rfl, HF, ?s, ?t⟩
      case s => exact slAt_one _ [.string ⟨#[115]⟩, .string ⟨#[111]⟩] #[.string ⟨#[115]⟩, .string ⟨#[111]⟩] (by first | (simp; done) | (simp; omega)) (by intro o; (repeat (refine (World.cell?_alloc_past _ _ _ (by first | (simp; done) | (simp; omega))).trans ?_)); exact World.cell?_alloc_at _ _ _ _ (by simp)) rfl rfl ⟨rfl, small1 _, small1 _⟩ (by omega)
      case t =>
        refine slAt_one _ [.string ⟨#[115]⟩, .string ⟨#[116]⟩, .string ⟨#[111]⟩, .slice A t.cols.length cap, .slice G t.rules.length capG] #[.string ⟨#[115]⟩, .string ⟨#[116]⟩, .string ⟨#[111]⟩, .slice A t.cols.length cap, .slice G t.rules.length capG] (by first | (simp; done) | (simp; omega)) (by intro o; exact World.cell?_alloc_at _ _ _ _ (by simp)) rfl rfl ⟨A, cap, G, capG, by simp, cols_aft HF h, ?r, small1 _, small1 _, small1 _⟩ (by omega)
        case r =>
          by_cases h0 : 0 < t.rules.length
          · obtain ⟨g, rfl, hg2, rg⟩ := HRG.out h0
            exact row_slAt (((rg.far (g := w.heap.size + 1) (by omega) _ _).far (g := w.heap.size + 1) (by omega) _ _).aft (((Aft.refl _).alloc _).alloc _)) (HC2.out.aft fun _ _ h => RulR.aft HF h) (by simpa using hcapG) (by unfold Small; simp; omega)
          · exact ⟨by simp; omega, by unfold Small; simp; omega, fun i hi => by simp at hi; omega⟩
set_option maxHeartbeats 2000000 in
theorem rcheck_any (t : Tab) (A : Option Addr) (cap : Nat) (A2 : Option Addr) (cap2 : Nat) (w : World) (h : SlAt w 3 ColR A cap t.cols) (h2 : SlAt w 8 RulR A2 cap2 t.rules) (hb : t.rules.length ≤ 1000000) :
    Calls Try.prog 33 #[.agg #[.string t.schema, .string t.name, .string t.owner, .slice A t.cols.length cap, .slice A2 t.rules.length cap2]] w fun e w' => e = .returned (.int .i64 (if tableOk t then 0 else 1)) ∧ Aft w w' := by
  have Ca := Lib.hid (show ∀ w', Aft w w' → _ from fun w' a => alone_any t A cap A2 cap2 w' (cols_aft a h) (ruls_aft a h2) hb)
  obtain ⟨c, hc⟩ : ∃ c, tableOk t = c := ⟨_, rfl⟩
  rw [hc]
  have HC := Lib.hid ((alone_ok t).trans hc)
  clear hc
  go_enter Try.func33, Try.ntmps33
  go_wp2_with fail
  refine (Ca.out _ ((Aft.refl _).alloc _)).mono ?_
  rintro e w1 ⟨As, At, rfl, a1, h1, h3⟩
  have HA := Lib.hid (((Aft.refl w).alloc _).trans a1)
  have Ck := Lib.hid (show Calls Try.prog 17 #[.agg #[.slice As 1 1, .slice At 1 1]] w1 fun e w'' => e = .returned (.int .i64 (if c = true then 0 else 63)) ∧ Aft w1 w'' from
    (check_any (aloneO t) As 1 At 1 w1 h1 h3).mono fun e w'' ⟨he, hw⟩ => ⟨he.trans (by unfold checkE; rw [HC.out]), hw⟩)
  clear a1 h1 h3 Ca
  go_wp2_with fail
  refine Ck.out.mono ?_
  rintro e w2 ⟨rfl, a2⟩
  have HA2 := Lib.hid (HA.out.trans a2)
  clear a2
  cases c
  · go_wp2_with fail
    go_ret
    exact ⟨rfl, HA2.out⟩
  · go_wp2_with fail
    go_ret
    exact ⟨rfl, HA2.out⟩
end Go.Proofs.Ytodifdofgjfkiaa
