/- Contracts of the program, part 9. -/
import Derived.Test.YticjnndhpfdajaaGreatPart7
import Derived.Deep.RegionHeld3
import Derived.Deep.RegionLaw
import Derived.Test.YticjnndhpfdajaaGreatPart3
/- objects.copied: a table in memory of its own. -/
namespace Go.Proofs.YticjnndhpfdajaaGreat
open Go.RowKit Go.Deep
set_option maxRecDepth 100000
set_option linter.unusedVariables false
def ModT (t : Tab) : Prop := t.cols.length ≤ 1000000 ∧ t.rules.length ≤ 1000000 ∧ ∀ r ∈ t.rules, r.cols.length ≤ 1000000
theorem lvTab_row {W : World} {b : Nat} {a c d e f : Value} (h : RowAt W b [a, c, d, e, f]) : (loadVar 50 ⟨b, 0, none⟩).run Tryz.prog W = .ok (.agg #[a, c, d, e, f]) W := by
  have e0 := h.cell (j := 0) rfl
  have e1 := h.cell (j := 1) rfl
  have e2 := h.cell (j := 2) rfl
  have e3 := h.cell (j := 3) rfl
  have e4 := h.cell (j := 4) rfl
  have h1 := run_lvTab W b 0 (by rw [e0]; rfl) (by rw [e1]; rfl) (by rw [e2]; rfl) (by rw [e3]; rfl) (by rw [e4]; rfl)
  rw [e0, e1, e2, e3, e4] at h1
  exact h1
theorem box_row2 {w W : World} {c : List Value} {t : TypeId} (h : Aft (w.alloc (.cells c.toArray t)) W) : RowAt W w.heap.size c := by
  obtain ⟨hb, hf, hz, _, _⟩ := aft_box h
  exact ⟨hz.1, fun j hj => by rw [hb]; simp, fun j _ => hf j⟩
theorem RowAt.far2 {w : World} {b : Nat} {xs : List Value} (h : RowAt w b xs) {g : Nat} (hne : g ≠ b) (j : Nat) (v : Value) : RowAt (w.setCell ⟨g, j, none⟩ v) b xs := (Kb.set w g j v).row h (fun e => hne e.symm)
/-- what is true of a table that is being copied: k of its rules have names of their own -/
structure CopyS (w wr : World) (t : Tab) (hc hr : Hd) (L0 L : List ORul) (k : Nat) : Prop where
  aft : Aft w wr
  box : RowAt wr w.heap.size [.string t.schema, .string t.name, .string t.owner, .slice hc.a t.cols.length hc.c, .slice hr.a t.rules.length hr.c]
  out : RowAt wr (w.heap.size + 1) [.string ⟨#[]⟩, .string ⟨#[]⟩, .string ⟨#[]⟩, .slice none 0 0, .slice none 0 0]
  col : wr.ownsRow (w.heap.size + 2) 41 3 hc.v t.cols.length (t.cols.flatMap colC)
  rul : wr.ownsRow (w.heap.size + 2) 29 8 hr.v t.rules.length ((L ++ L0.drop k).flatMap ORul.cells)
  len : L.length = k
  is : L.map (·.r) = t.rules.take k
  each : ∀ x ∈ L, RulIn wr (w.heap.size + 2) x
  nd : (hc.blk ++ (hr.blk ++ L.flatMap (·.h.blk))).Nodup
theorem CopyS.lt {w wr : World} {t : Tab} {hc hr : Hd} {L0 L : List ORul} {k : Nat} (s : CopyS w wr t hc hr L0 L k) : ∀ g ∈ hc.blk ++ (hr.blk ++ L.flatMap (·.h.blk)), w.heap.size + 2 ≤ g ∧ g < wr.heap.size := by
  intro g hg
  simp only [List.mem_append, List.mem_flatMap] at hg
  rcases hg with hg | hg | ⟨r, hr, hg⟩
  · exact blk_lt s.col g hg
  · exact blk_lt s.rul g hg
  · exact blk_lt (s.each r hr).nam g hg
/-- one rule more -/
theorem CopyS.step {w wr w4 : World} {t : Tab} {hc hr h4 : Hd} {L0 L : List ORul} {k gr : Nat} (s : CopyS w wr t hc hr L0 L k) (h0 : L0.map (·.r) = t.rules) (hk : k < t.rules.length) (hgr : hr.a = some ⟨gr, 0, none⟩)
    (a4 : Aft wr w4) (own4 : w4.ownsRow wr.heap.size 9 1 h4.v t.rules[k].cols.length (t.rules[k].cols.flatMap nameC)) : CopyS w (w4.setCell ⟨gr, k * 8 + 2, none⟩ h4.v) t hc hr L0 (L ++ [⟨t.rules[k], h4⟩]) (k + 1) := by
  have hL0 : L0.length = t.rules.length := by rw [← h0]; simp
  have hgb : gr ∈ hr.blk := by rw [Hd.mem_blk]; unfold Hd.v; rw [hgr]; rfl
  have hlt := s.lt
  have hg := hlt gr (by simp [hgb])
  have kb := Kb.set w4 gr (k * 8 + 2) h4.v
  have ka : Kb (fun x => x = gr) wr (w4.setCell ⟨gr, k * 8 + 2, none⟩ h4.v) := (Kb.of_aft a4).trans kb
  have hnd := s.nd
  have hz : wr.heap.size ≤ w.heap.size + 2 ∨ w.heap.size + 2 ≤ wr.heap.size := by omega
  have hcg : ∀ g ∈ hc.blk, ¬ g = gr := fun g hgc e => by
    subst e
    exact (List.nodup_append.1 hnd).2.2 g hgc g (by simp [hgb]) rfl
  have hng : ∀ x ∈ L, ∀ g ∈ x.h.blk, ¬ g = gr := fun x hx g hgc e => by
    subst e
    exact (List.nodup_append.1 (List.nodup_append.1 hnd).2.1).2.2 g hgb g (by simp only [List.mem_flatMap]; exact ⟨x, hx, hgc⟩) rfl
  refine ⟨ka.to_aft s.aft (fun x hx e => by omega), ka.row s.box (by omega), ka.row s.out (by omega), own_kb s.col ka fun g hgo => hcg g (Hd.mem_blk.2 hgo), ?_, by simp [s.len], ?_, ?_, ?_⟩
  · have h1 := own_set (own_aft s.rul a4) (Hd.mem_blk.1 hgb) (k * 8 + 2) h4.v
    have hkl : k < (L ++ L0.drop k).length := by simp [s.len]; omega
    have hget : (L ++ L0.drop k)[k] = L0[k]'(by omega) := by
      rw [List.getElem_append_right (by rw [s.len]; exact Nat.le_refl _)]
      simp [s.len]
    have hrk : (L0[k]'(by omega)).r = t.rules[k] := by
      have : (L0.map (·.r))[k]'(by simpa using (by omega : k < L0.length)) = t.rules[k] := by simp only [h0]
      simpa using this
    rw [flatMap_set (size := 8) (fun _ => rfl) (L ++ L0.drop k) k 2 hkl (by decide) h4.v ⟨t.rules[k], h4⟩ (by rw [hget]; unfold ORul.cells rulC; rw [hrk]; rfl)] at h1
    have hset : (L ++ L0.drop k).set k ⟨t.rules[k], h4⟩ = (L ++ [⟨t.rules[k], h4⟩]) ++ L0.drop (k + 1) := by
      have hd : L0.drop k = L0[k]'(by omega) :: L0.drop (k + 1) := List.drop_eq_getElem_cons (by omega : k < L0.length)
      rw [List.set_append_right _ _ (by rw [s.len]; exact Nat.le_refl _), s.len, Nat.sub_self, hd]
      simp only [List.set_cons_zero, List.append_assoc, List.cons_append, List.nil_append]
    rw [hset] at h1
    exact h1
  · rw [List.map_append, s.is, List.take_succ_eq_append_getElem hk]; rfl
  · intro x hx
    simp only [List.mem_append, List.mem_singleton] at hx
    rcases hx with hx | rfl
    · exact (s.each x hx).kb ka fun g hgo => hng x hx g hgo
    · exact ⟨own_down (own_kb own4 kb fun g hgo e => by have := (own4.lt g hgo).1; omega) (by have := s.out.1; omega)⟩
  · have e : hc.blk ++ (hr.blk ++ (L ++ [ORul.mk t.rules[k] h4]).flatMap (·.h.blk)) = (hc.blk ++ (hr.blk ++ L.flatMap (·.h.blk))) ++ h4.blk := by simp [List.append_assoc]
    rw [e]
    exact nodup_more hnd (blk_nodup h4) (fun g hg => (hlt g hg).2) (fun g hg => (blk_lt own4 g hg).1)
set_option maxHeartbeats 8000000 in
theorem copied_in (t : Tab) (A : Option Addr) (cap : Nat) (A2 : Option Addr) (cap2 : Nat) (w : World) (h : SlAt w 3 ColR A cap t.cols) (h2 : SlAt w 8 RulR A2 cap2 t.rules) (hm : ModT t) :
    Calls Tryz.prog 111 #[.agg #[.string t.schema, .string t.name, .string t.owner, .slice A t.cols.length cap, .slice A2 t.rules.length cap2]] w (CopyO w t) := by
  have hlen := h.len
  have hlen2 := h2.len
  have C1 := Lib.hid (show ∀ w', Aft w w' → _ from fun w' a => clone2Col A cap t.cols w w' a h hm.1)
  have C2 := Lib.hid (show ∀ w', Aft w w' → _ from fun w' a => clone2Rul A2 cap2 t.rules w w' a h2 hm.2.1)
  have l1 : w.heap.size < w.heap.size + 1 := by omega
  have l2 : w.heap.size < w.heap.size + 1 + 1 := by omega
  go_enter Tryz.func111, Tryz.ntmps111
  go_wp2_with fail
  refine (C1.out _ (((Aft.refl w).alloc _).alloc _)).mono ?_
  rintro e w1 ⟨v1, css1, rfl, a1, own1, ch1⟩
  have r1 : RowAt w1 w.heap.size [.string t.schema, .string t.name, .string t.owner, .slice A t.cols.length cap, .slice A2 t.rules.length cap2] := (box_row2 (Aft.refl _)).aft (((Aft.refl _).alloc _).trans a1)
  have r2 : RowAt w1 (w.heap.size + 1) [.string ⟨#[]⟩, .string ⟨#[]⟩, .string ⟨#[]⟩, .slice none 0 0, .slice none 0 0] := by
    have := (box_row2 (w := w.alloc (.cells #[.string t.schema, .string t.name, .string t.owner, .slice A t.cols.length cap, .slice A2 t.rules.length cap2] 50)) (c := [.string ⟨#[]⟩, .string ⟨#[]⟩, .string ⟨#[]⟩, .slice none 0 0, .slice none 0 0]) (t := 50) (Aft.refl _)).aft a1
    simpa using this
  have HA1 := Lib.hid ((((Aft.refl w).alloc _).alloc _).trans a1)
  obtain ⟨Ac, cc, hv1⟩ := own_lit own1
  subst hv1
  rw [flat_cols ch1] at own1
  have own1 : w1.ownsRow (w.heap.size + 2) 41 3 (Hd.mk Ac t.cols.length cc).v t.cols.length (t.cols.flatMap colC) := own_down own1 (by simp)
  have hz1 : w.heap.size + 2 ≤ w1.heap.size := by have := a1.size; simp at this; omega
  obtain ⟨W1, hW1⟩ : ∃ W1, W1 = w1.setCell ⟨w.heap.size, 3, none⟩ (.slice Ac t.cols.length cc) := ⟨_, rfl⟩
  have kW1 : Kb (fun x => x = w.heap.size) w1 W1 := by rw [hW1]; exact Kb.set _ _ _ _
  have s1 : RowAt W1 w.heap.size [.string t.schema, .string t.name, .string t.owner, .slice Ac t.cols.length cc, .slice A2 t.rules.length cap2] := by rw [hW1]; exact r1.set 3 _ (by simp)
  have s2 := kW1.row r2 (by omega)
  have aW1 : Aft w W1 := by rw [hW1]; exact HA1.out.setCell _ _ (Nat.le_refl _)
  have zW1 : W1.heap.size = w1.heap.size := by rw [hW1]; simp
  have own1' := own_kb own1 kW1 (fun g hg e => by have := (own1.lt g hg).1; omega)
  have b0 := r1.cell (j := 3) rfl
  have b1 := r1.cell (j := 4) rfl
  have f3 := r1.2.2 3 (by simp)
  have z0 := r1.1
  have q4 := s1.cell (j := 4) rfl
  have qz := s1.1
  have HO1 := Lib.hid own1'
  have HR1 := Lib.hid s1
  have HR2 := Lib.hid s2
  clear r1 r2 a1 own1 ch1 C1 kW1 own1' s1 s2
  go_wp2_with fail
  rw [← hW1]
  refine (C2.out W1 aW1).mono ?_
  rintro e w2 ⟨v2, css2, rfl, a2, own2, ch2⟩
  clear C2 hW1 b0 b1 f3 q4 qz
  obtain ⟨Ar, cr, hv2⟩ := own_lit own2
  subst hv2
  obtain ⟨L0, hL0, hcss, hlie⟩ := rules_lie ch2
  rw [hcss, ← List.flatMap_def] at own2
  have s1' := HR1.out.aft a2
  have s2' := HR2.out.aft a2
  have b0 := s1'.cell (j := 3) rfl
  have b1 := s1'.cell (j := 4) rfl
  have f4 := s1'.2.2 4 (by simp)
  have z0 := s1'.1
  obtain ⟨W2, hW2⟩ : ∃ W2, W2 = w2.setCell ⟨w.heap.size, 4, none⟩ (.slice Ar t.rules.length cr) := ⟨_, rfl⟩
  have kW2 : Kb (fun x => x = w.heap.size) w2 W2 := by rw [hW2]; exact Kb.set _ _ _ _
  have u1 : RowAt W2 w.heap.size [.string t.schema, .string t.name, .string t.owner, .slice Ac t.cols.length cc, .slice Ar t.rules.length cr] := by rw [hW2]; exact s1'.set 4 _ (by simp)
  have hS0 : CopyS w W2 t ⟨Ac, t.cols.length, cc⟩ ⟨Ar, t.rules.length, cr⟩ L0 [] 0 := by
    have hz2 : w.heap.size + 2 ≤ W1.heap.size := by omega
    have own1'' := own_aft HO1.out a2
    have own2' : w2.ownsRow W1.heap.size 29 8 (Hd.mk Ar t.rules.length cr).v t.rules.length (L0.flatMap ORul.cells) := own2
    refine ⟨kW2.to_aft (aW1.trans a2) (fun x hx e => by omega), u1, kW2.row s2' (by omega), own_kb own1'' kW2 (fun g hg e => by have := (own1''.lt g hg).1; omega),
      own_down (own_kb own2' kW2 (fun g hg e => by have := (own2.lt g hg).1; omega)) hz2, rfl, rfl, fun x hx => by simp at hx, ?_⟩
    simp only [List.flatMap_nil, List.append_nil]
    exact nodup_more (blk_nodup _) (blk_nodup _) (fun g hg => (blk_lt HO1.out g hg).2) (fun g hg => (blk_lt own2' g hg).1)
  have HS0 := Lib.hid hS0
  have HL0 := Lib.hid hL0
  have HLIE := Lib.hid (show ∀ x ∈ L0, ∀ w', Aft w w' → x.h.n = x.r.cols.length ∧ SlAt w' 1 StrR x.h.a x.h.c x.r.cols from fun x hx w' a => ⟨(hlie x hx).1, strs_aft a (hlie x hx).2⟩)
  have HM := Lib.hid hm
  have x3 := u1.cell (j := 4) rfl
  have xz := u1.1
  clear s1' s2' own2 ch2 hS0 hL0 hlie hm kW2 u1 aW1 hcss
  go_wp2_with fail
  rw [← hW2]
  clear hW2 b0 b1 f4 z0
  go_loopw [15] (fun i wr => ∃ (k : Nat) (L : List ORul), k ≤ t.rules.length ∧ i = .int .i64 k ∧ CopyS w wr t ⟨Ac, t.cols.length, cc⟩ ⟨Ar, t.rules.length, cr⟩ L0 L k) (fun i _ => t.rules.length - (intOf i).toNat)
  case atStart => exact ⟨0, [], Nat.zero_le _, rfl, HS0.out⟩
  case round =>
    clear HS0 x3 xz
    obtain ⟨k, L, hk, rfl, hs⟩ := hrel
    have b4 := hs.box.cell (j := 4) rfl
    have bz := hs.box.1
    have HS := Lib.hid hs
    by_cases hlt : k < t.rules.length
    · have hL0l : L0.length = t.rules.length := by rw [← HL0.out]; simp
      obtain ⟨gr, hAr, hgrb, rg⟩ := own_place hs.rul (by omega)
      have hAr' : Ar = some ⟨gr, 0, none⟩ := hAr
      subst hAr'
      have hkl : k < L0.length := by omega
      have hget : (L ++ L0.drop k)[k]'(by simp [hs.len]; omega) = L0[k] := by
        rw [List.getElem_append_right (by rw [hs.len]; exact Nat.le_refl _)]
        simp [hs.len]
      have hrk : L0[k].r = t.rules[k] := by
        have : (L0.map (·.r))[k]'(by simpa using hkl) = t.rules[k] := by simp only [HL0.out]
        simpa using this
      obtain ⟨hn, hD⟩ := HLIE.out L0[k] (List.getElem_mem hkl) wr hs.aft
      obtain ⟨p, hpp⟩ : ∃ p, t.rules[k] = p := ⟨_, rfl⟩
      obtain ⟨D, nD, capD⟩ : Hd := L0[k].h
      have x2 : wr.cell? ⟨gr, k * 8 + 2, none⟩ = some (.slice L0[k].h.a p.cols.length L0[k].h.c) := by
        refine rg.cell ?_
        rw [flatMap_get ORul.cells 8 (fun _ => rfl) _ k 2 (by simp [hs.len]; omega) (by decide), hget]
        unfold ORul.cells rulC Hd.v
        rw [hn, hrk, hpp]; rfl
      rw [hrk, hpp] at hD
      obtain ⟨D2, hD2⟩ : ∃ D, L0[k].h.a = D := ⟨_, rfl⟩
      obtain ⟨c2, hc2⟩ : ∃ c, L0[k].h.c = c := ⟨_, rfl⟩
      rw [hD2, hc2] at x2 hD
      have HPP := Lib.hid hpp
      have f2 := rg.2.2 (k * 8 + 2) (by rw [flatMap_len (size := 8) (fun _ => rfl)]; simp [hs.len]; omega)
      have gz := rg.1
      have hp6 : p.cols.length ≤ 1000000 := HM.out.2.2 p (by rw [← hpp]; exact List.getElem_mem hlt)
      have hpl := hD.len
      have C3 := Lib.hid (show ∀ w', Aft wr w' → _ from fun w' a => clone2Str D2 c2 p.cols wr w' a hD hp6)
      have hgn : gr ≠ w.heap.size := by omega
      clear hpp hget hrk hn hD hD2 hc2 hs rg hAr hL0l
      go_wp2_with fail
      go_region_with ((go_at_call 66; refine (C3.out _ (Aft.refl _).drew).mono ?_; rintro e w4 ⟨v4, css4, rfl, a4, own4, ch4⟩; have x4 := a4.cell_kept x2; have b44 := a4.cell_kept b4; have f4 := (Below.frozen a4 (p := ⟨gr, k * 8 + 2, none⟩) gz).trans f2; obtain ⟨Dn, cn, hv4⟩ := own_lit own4; subst hv4))
      all_goals
        have aw4 : Aft wr w4 := (Aft.refl _).drew.trans a4
        have HREL := Lib.hid (HS.out.step (h4 := ⟨Dn, p.cols.length, cn⟩) HL0.out hlt rfl aw4 (by rw [flat_names ch4] at own4; rw [HPP.out]; exact own4))
        rw [HPP.out] at HREL
        clear own4 ch4 a4 aw4 x4 b44 f4
        go_wp2_with fail
        go_roundw
        case rel => exact ⟨k + 1, _, by omega, by go_num, HREL.out⟩
        case measure => simp [intOf]; omega
    · have c0 := hs.box.cell (j := 0) rfl
      have c1 := hs.box.cell (j := 1) rfl
      have c2 := hs.box.cell (j := 2) rfl
      have c3 := hs.box.cell (j := 3) rfl
      have d0 := hs.out.cell (j := 0) rfl
      have d1 := hs.out.cell (j := 1) rfl
      have d2 := hs.out.cell (j := 2) rfl
      have d3 := hs.out.cell (j := 3) rfl
      have d4 := hs.out.cell (j := 4) rfl
      have e0 := hs.out.2.2 0 (by simp)
      have e1 := hs.out.2.2 1 (by simp)
      have e2 := hs.out.2.2 2 (by simp)
      have e3 := hs.out.2.2 3 (by simp)
      have e4 := hs.out.2.2 4 (by simp)
      have dz := hs.out.1
      clear hs
      go_wp2_with fail
      (try simp only [Exit.inBlock, Exit.then])
      have hs := HS.out
      obtain ⟨F, hF⟩ : ∃ F, F = ((((wr.setCell ⟨w.heap.size + 1, 0, none⟩ (.string t.schema)).setCell ⟨w.heap.size + 1, 1, none⟩ (.string t.name)).setCell ⟨w.heap.size + 1, 2, none⟩ (.string t.owner)).setCell ⟨w.heap.size + 1, 3, none⟩ (.slice Ac t.cols.length cc)).setCell ⟨w.heap.size + 1, 4, none⟩ (.slice Ar t.rules.length cr) := ⟨_, rfl⟩
      have kF : Kb (fun x => x = w.heap.size + 1) wr F := by
        rw [hF]
        exact ((((Kb.set _ _ _ _).trans (Kb.set _ _ _ _)).trans (Kb.set _ _ _ _)).trans (Kb.set _ _ _ _)).trans (Kb.set _ _ _ _)
      have rF : RowAt F (w.heap.size + 1) [.string t.schema, .string t.name, .string t.owner, .slice Ac t.cols.length cc, .slice Ar t.rules.length cr] := by
        rw [hF]
        exact ((((hs.out.set 0 _ (by simp)).set 1 _ (by simp)).set 2 _ (by simp)).set 3 _ (by simp)).set 4 _ (by simp)
      rw [← hF]
      refine bodyPost_ret (results_cell (v := .agg #[.string t.schema, .string t.name, .string t.owner, .slice Ac t.cols.length cc, .slice Ar t.rules.length cr]) rfl _ rfl ?hl) rfl ?_
      case hl => exact lvTab_row rF
      have hkn : k = t.rules.length := by omega
      subst hkn
      have his := hs.is
      rw [List.take_of_length_le (Nat.le_refl _)] at his
      have hL0l : L0.length = t.rules.length := by rw [← HL0.out]; simp
      have hrul := hs.rul
      rw [List.drop_of_length_le (by omega), List.append_nil] at hrul
      have hlen' : L.length = t.rules.length := hs.len
      refine ⟨⟨t.schema, t.name, t.owner, t.cols, L, ⟨Ac, t.cols.length, cc⟩, ⟨Ar, t.rules.length, cr⟩⟩, by unfold OTab.t; rw [his], rfl, kF.to_aft hs.aft (fun x hx e => by omega), ?_, hs.nd⟩
      have hlt' := hs.lt
      refine TabIn.down (TabIn.kb (w := wr) (B := w.heap.size + 2) ⟨hs.col, by show wr.ownsRow _ _ 8 _ L.length _; rw [hlen']; exact hrul, hs.each⟩ kF fun g hg e => ?_) (by omega)
      have := hlt' g hg
      omega
end Go.Proofs.YticjnndhpfdajaaGreat
/- objects.own: objects in memory of their own. -/
namespace Go.Proofs.YticjnndhpfdajaaGreat
open Go.RowKit Go.Deep
set_option maxRecDepth 100000
set_option linter.unusedVariables false
theorem nodup_disj {l m : List Nat} (h : (l ++ m).Nodup) {g : Nat} (h1 : g ∈ l) (h2 : g ∈ m) : False := (List.nodup_append.1 h).2.2 g h1 g h2 rfl
/-- one table more -/
theorem ObjIn.push {wr w4 w5 : World} {B : Nat} {hs ht ht' : Hd} {ss : List Sch} {L : List OTab} {x : OTab} (h : ObjIn wr B hs ht ss L) (a4 : Aft wr w4) (hx : TabIn w4 wr.heap.size x) (nx : x.blks.Nodup) (hB : B ≤ wr.heap.size)
    (hg : w4.grownBy w5 ht.v.ownBlock) (ho : w5.ownsRow B 50 5 ht'.v (L.length + 1) (L.flatMap OTab.cells ++ x.cells)) (hb : ∀ g ∈ ht'.blk, g ∈ ht.blk ∨ w4.heap.size ≤ g) (hn : ∀ g ∈ ht'.blk, g ∉ x.blks) : ObjIn w5 B hs ht' ss (L ++ [x]) := by
  have k1 : Kb (fun g => ht.v.ownBlock = some g) w4 w5 := Kb.of_grown hg
  have k2 : Kb (fun g => ht.v.ownBlock = some g) wr w5 := (Kb.of_aft a4).trans k1
  have hlt := h.lt
  have nd := h.nd
  have nd2 := (List.nodup_append.1 nd).2.1
  have hsl : ∀ g ∈ hs.blk, g < wr.heap.size := fun g hg => (hlt g (by simp [hg])).2
  have htl : ∀ g ∈ ht.blk, g < wr.heap.size := fun g hg => (hlt g (by simp [hg])).2
  have hLl : ∀ g ∈ L.flatMap OTab.blks, g < wr.heap.size := fun g hg => (hlt g (by simp only [List.mem_append]; exact .inr (.inr hg))).2
  have hxl := hx.lt
  have hz := a4.size
  refine ⟨own_kb h.sch k2 fun g hg1 hg2 => nodup_disj nd (Hd.mem_blk.2 hg1) (by simp [Hd.mem_blk.2 hg2]), ?_, ?_, ?_⟩
  · rw [List.length_append, List.flatMap_append]
    simpa using ho
  · intro y hy
    simp only [List.mem_append, List.mem_singleton] at hy
    rcases hy with hy | rfl
    · exact (h.each y hy).kb k2 fun g hg1 hg2 => nodup_disj nd2 (Hd.mem_blk.2 hg2) (List.mem_flatMap.2 ⟨y, hy, hg1⟩)
    · exact (hx.kb k1 fun g hg1 hg2 => by have := (hxl g hg1).1; have := htl g (Hd.mem_blk.2 hg2); omega).down hB
  · rw [List.flatMap_append]
    have hz2 : wr.heap.size ≤ w4.heap.size := a4.size
    have e : [x].flatMap OTab.blks = x.blks := by simp
    rw [e]
    refine List.nodup_append.2 ⟨(List.nodup_append.1 nd).1, List.nodup_append.2 ⟨blk_nodup _, nodup_more (List.nodup_append.1 nd2).2.1 nx hLl (fun g hg => (hxl g hg).1), ?_⟩, ?_⟩
    · intro a ha b hb2 e
      subst e
      rcases List.mem_append.1 hb2 with h1 | h1
      · rcases hb a ha with h2 | h2
        · exact nodup_disj nd2 h2 h1
        · have := hLl a h1; omega
      · exact hn a ha h1
    · intro a ha b hb2 e
      subst e
      have := hsl a ha
      rcases List.mem_append.1 hb2 with h1 | h1
      · rcases hb a h1 with h2 | h2
        · exact nodup_disj nd ha (by simp [h2])
        · omega
      · rcases List.mem_append.1 h1 with h1 | h1
        · exact nodup_disj nd ha (List.mem_append.2 (.inr h1))
        · have := (hxl a h1).1; omega
theorem OTab.cells_of {w : World} {B : Nat} {x : OTab} {p : Tab} (h : TabIn w B x) (ht : x.t = p) : x.cells = [.string p.schema, .string p.name, .string p.owner, .slice x.hc.a p.cols.length x.hc.c, .slice x.hr.a p.rules.length x.hr.c] := by
  subst ht
  unfold OTab.cells
  rw [own_slice h.col, own_slice h.rul]
  simp [OTab.t]
theorem lvObj_row {W : World} {b : Nat} {a c : Value} (h : RowAt W b [a, c]) : (loadVar 25 ⟨b, 0, none⟩).run Tryz.prog W = .ok (.agg #[a, c]) W := by
  have e0 := h.cell (j := 0) rfl
  have e1 := h.cell (j := 1) rfl
  have h1 := run_lvObj W b 0 (by rw [e0]; rfl) (by rw [e1]; rfl)
  rw [e0, e1] at h1
  exact h1
structure OwnS (w wr : World) (o : Objs) (n3 : Nat) (hs ht : Hd) (L : List OTab) (k : Nat) : Prop where
  aft : Aft w wr
  out : RowAt wr (w.heap.size + 1) [.slice none 0 0, .slice none 0 0]
  box : RowAt wr n3 [.slice hs.a o.schemas.length hs.c, .slice ht.a k ht.c]
  obj : ObjIn wr (w.heap.size + 2) hs ht o.schemas L
  ne : ∀ g ∈ hs.blk ++ (ht.blk ++ L.flatMap OTab.blks), g ≠ n3
  is : L.map OTab.t = o.tables.take k
  n3 : w.heap.size + 2 ≤ n3
  len : L.length = k
theorem OwnS.step {w wr w4 w5 : World} {o : Objs} {n3 : Nat} {hs ht ht' : Hd} {L : List OTab} {x : OTab} {k : Nat} (s : OwnS w wr o n3 hs ht L k) (hk : k < o.tables.length) (hxt : x.t = o.tables[k]) (a4 : Aft wr w4) (hx : TabIn w4 wr.heap.size x) (nx : x.blks.Nodup)
    (hg : w4.grownBy w5 ht.v.ownBlock) (ho : w5.ownsRow (w.heap.size + 2) 50 5 ht'.v (k + 1) (L.flatMap OTab.cells ++ x.cells)) (hb : ∀ g ∈ ht'.blk, g ∈ ht.blk ∨ w4.heap.size ≤ g) (hn : ∀ g ∈ ht'.blk, g ∉ x.blks) :
    OwnS w (w5.setCell ⟨n3, 1, none⟩ (.slice ht'.a (k + 1) ht'.c)) o n3 hs ht' (L ++ [x]) (k + 1) := by
  have hz := a4.size
  have hz5 := hg.size
  have hn3 := s.n3
  have hb3 := s.box.1
  have hzz : w.heap.size + 2 ≤ wr.heap.size := by omega
  have ob := s.obj.push a4 hx nx hzz hg (by rw [s.len]; exact ho) hb hn
  have hne : ∀ g ∈ hs.blk ++ (ht'.blk ++ (L ++ [x]).flatMap OTab.blks), g ≠ n3 := by
    intro g hgm e
    subst e
    simp only [List.mem_append, List.flatMap_append] at hgm
    rcases hgm with h1 | h1 | h1 | h1
    · exact s.ne g (by simp [h1]) rfl
    · rcases hb g h1 with h2 | h2
      · exact s.ne g (by simp [h2]) rfl
      · omega
    · exact s.ne g (by simp only [List.mem_append]; exact .inr (.inr h1)) rfl
    · have := (hx.lt g (by simpa using h1)).1; omega
  have k5 : Kb (fun g => g = n3) w5 (w5.setCell ⟨n3, 1, none⟩ (.slice ht'.a (k + 1) ht'.c)) := Kb.set _ _ _ _
  have kg : Kb (fun g => ht.v.ownBlock = some g) w4 w5 := Kb.of_grown hg
  have htge : ∀ g, ht.v.ownBlock = some g → w.heap.size + 2 ≤ g := fun g h1 => (s.obj.tab.lt g h1).1
  refine ⟨k5.to_aft (kg.to_aft (s.aft.trans a4) (fun g hgl h1 => by have := htge g h1; omega)) (fun g hgl e => by omega), k5.row (kg.row (s.out.aft a4) (fun h1 => by have := htge _ h1; omega)) (by omega), ?_, ob.kb k5 (fun g hgm e => hne g hgm e), hne, ?_, hn3, by simp [s.len]⟩
  · have := (kg.row (s.box.aft a4) (fun h1 => s.ne n3 (by simp [Hd.mem_blk.2 h1]) rfl)).set 1 (.slice ht'.a (k + 1) ht'.c) (by simp)
    exact this
  · rw [List.map_append, s.is, List.take_succ_eq_append_getElem hk, ← hxt]; rfl
set_option maxHeartbeats 8000000 in
theorem own_in (o : Objs) (As : Option Addr) (caps : Nat) (At : Option Addr) (capt : Nat) (w : World) (hsch : SlAt w 2 SchR As caps o.schemas) (htab : SlAt w 5 TabR At capt o.tables) (hm : ModO o) :
    Calls Tryz.prog 157 #[.agg #[.slice As o.schemas.length caps, .slice At o.tables.length capt]] w (OwnO w o) := by
  obtain ⟨i0, hi, hz0, hz1, hz2⟩ := info_parts info2Tab
  have HI := Lib.hid hi
  have HZ0 := Lib.hid hz0
  have HZ1 := Lib.hid hz1
  have HZ2 := Lib.hid hz2
  clear hi hz0 hz1 hz2
  have hlen := hsch.len
  have hlen2 := htab.len
  have C1 := Lib.hid (show ∀ w', Aft w w' → _ from fun w' a => clone2Sch As caps o.schemas w w' a hsch hm.1)
  have l1 : w.heap.size < w.heap.size + 1 := by omega
  have l2 : w.heap.size < w.heap.size + 1 + 1 := by omega
  go_enter Tryz.func157, Tryz.ntmps157
  go_wp2_with fail
  refine (C1.out _ (((Aft.refl w).alloc _).alloc _)).mono ?_
  rintro e w1 ⟨v1, css1, rfl, a1, own1, ch1⟩
  have r1 : RowAt w1 w.heap.size [.slice As o.schemas.length caps, .slice At o.tables.length capt] := (box_row2 (Aft.refl _)).aft (((Aft.refl _).alloc _).trans a1)
  have r2 : RowAt w1 (w.heap.size + 1) [.slice none 0 0, .slice none 0 0] := by
    have := (box_row2 (w := w.alloc (.cells #[.slice As o.schemas.length caps, .slice At o.tables.length capt] 25)) (c := [.slice none 0 0, .slice none 0 0]) (t := 25) (Aft.refl _)).aft a1
    simpa using this
  have HA1 := Lib.hid ((((Aft.refl w).alloc _).alloc _).trans a1)
  obtain ⟨Ac, cc, hv1⟩ := own_lit own1
  subst hv1
  rw [flat_schs ch1] at own1
  have own1 : w1.ownsRow (w.heap.size + 2) 99 2 (Hd.mk Ac o.schemas.length cc).v o.schemas.length (o.schemas.flatMap schC) := own_down own1 (by simp)
  have hz1 : w.heap.size + 2 ≤ w1.heap.size := by have := a1.size; simp at this; omega
  have z0 : w.heap.size < w1.heap.size + 1 := by omega
  have b1 := r1.cell (j := 1) rfl
  have zz := r1.1
  obtain ⟨W1, hW1⟩ : ∃ W1, W1 = w1.alloc (.cells #[.slice Ac o.schemas.length cc, .slice none 0 0] 25) := ⟨_, rfl⟩
  have aW1 : Aft w1 W1 := by rw [hW1]; exact (Aft.refl _).alloc _
  have hS0 : OwnS w W1 o w1.heap.size ⟨Ac, o.schemas.length, cc⟩ ⟨none, 0, 0⟩ [] 0 := by
    have own1' := own_aft own1 aW1
    refine ⟨HA1.out.trans aW1, r2.aft aW1, ?_, ⟨own1', own_nil _ _ _ _, fun x hx => by simp at hx, by simpa [blk_nil] using blk_nodup _⟩, fun g hg => ?_, rfl, hz1, rfl⟩
    · rw [hW1]; exact box_row2 (c := [.slice Ac o.schemas.length cc, .slice none 0 0]) (Aft.refl _)
    · have hg' : g ∈ (Hd.mk Ac o.schemas.length cc).blk := by simpa [blk_nil] using hg
      have := (blk_lt own1 g hg').2
      omega
  have HS0 := Lib.hid hS0
  have HT := Lib.hid htab
  have HM := Lib.hid hm
  have q1 := aW1.cell_kept b1
  have qz : w.heap.size < W1.heap.size := Nat.lt_of_lt_of_le zz aW1.size
  clear own1 ch1 a1 r1 r2 hS0 htab hsch hm C1
  go_wp2_with fail
  rw [← hW1]
  obtain ⟨n3, hn3⟩ : ∃ n, n = w1.heap.size := ⟨_, rfl⟩
  rw [← hn3] at HS0 ⊢
  clear hW1 hn3 b1 zz z0 hz1 q1 qz aW1 HA1
  go_loopw [13] (fun i wr => ∃ (k : Nat) (ht : Hd) (L : List OTab), k ≤ o.tables.length ∧ i = .int .i64 k ∧ OwnS w wr o n3 ⟨Ac, o.schemas.length, cc⟩ ht L k) (fun i _ => o.tables.length - (intOf i).toNat)
  case atStart => exact ⟨0, _, [], Nat.zero_le _, rfl, HS0.out⟩
  case round =>
    clear HS0
    obtain ⟨k, ht, L, hk, rfl, hs⟩ := hrel
    have HS := Lib.hid hs
    have z3 := hs.box.1
    have k1 := hs.box.cell (j := 1) rfl
    have f1 := hs.box.2.2 1 (by simp)
    by_cases hlt : k < o.tables.length
    · obtain ⟨b, off, A2, cap2, A3, cap3, rfl, hb, t0, t1, t2, t3, t4, hcols, hruls, hss⟩ := tab_at (tabs_aft hs.aft HT.out) hlt
      obtain ⟨p, hpp⟩ : ∃ p, o.tables[k] = p := ⟨_, rfl⟩
      rw [hpp] at t0 t1 t2 t3 t4 hcols hruls hss
      have HPP := Lib.hid hpp
      have C := Lib.hid (show ∀ w', Aft wr w' → _ from fun w' a => copied_in p A2 cap2 A3 cap3 w' (cols_aft a hcols) (ruls_aft a hruls) (by have := HM.out.2.2 p (by rw [← hpp]; exact List.getElem_mem hlt); exact this))
      have hzr : w.heap.size + 2 ≤ wr.heap.size := by have := hs.n3; omega
      obtain ⟨At', nt, ct⟩ := ht
      have htab := hs.obj.tab
      rw [hs.len] at htab
      have hnt : nt = k := own_n htab
      subst hnt
      have hown : wr.ownsRow (w.heap.size + 2) 50 5 (.slice At' nt ct) nt (L.flatMap OTab.cells) := htab
      have HOWN := Lib.hid hown
      have hneb : (Value.slice At' nt ct).ownBlock ≠ some n3 := fun e => hs.ne n3 (by simp only [List.mem_append]; exact .inr (.inl (Hd.mem_blk.2 e))) rfl
      have HB := Lib.hid hs.box
      clear hs htab hown hpp hcols hruls
      obtain ⟨W, hW⟩ : ∃ W, W = wr.alloc (.cells #[.string p.schema, .string p.name, .string p.owner, .slice A2 p.cols.length cap2, .slice A3 p.rules.length cap3] 50) := ⟨_, rfl⟩
      have zr3 : n3 < wr.heap.size + 1 := by omega
      have aW : Aft wr W := by rw [hW]; exact (Aft.refl _).alloc _
      have rW : RowAt W wr.heap.size [.string p.schema, .string p.name, .string p.owner, .slice A2 p.cols.length cap2, .slice A3 p.rules.length cap3] := by rw [hW]; exact box_row2 (Aft.refl _)
      have KF := Lib.hid (show ∀ w', Kb (fun g => (Value.slice At' nt ct).ownBlock = some g) W w' → (w'.cell? ⟨n3, 1, none⟩ = some (.slice At' nt ct) ∧ w'.cell? ⟨wr.heap.size, 0, none⟩ = some (.string p.schema) ∧ w'.cell? ⟨wr.heap.size, 1, none⟩ = some (.string p.name) ∧ w'.cell? ⟨wr.heap.size, 2, none⟩ = some (.string p.owner) ∧ w'.cell? ⟨wr.heap.size, 3, none⟩ = some (.slice A2 p.cols.length cap2) ∧ w'.cell? ⟨wr.heap.size, 4, none⟩ = some (.slice A3 p.rules.length cap3) ∧ w'.frozen? ⟨n3, 1, none⟩ = false ∧ n3 < w'.heap.size) from fun w' kb => by
        have hne2 : ¬ (Value.slice At' nt ct).ownBlock = some wr.heap.size := fun e => by have := (HOWN.out.lt _ e).2; omega
        have r' := kb.row rW hne2
        have r3 := kb.row (HB.out.aft aW) hneb
        exact ⟨kb.cell (aW.cell_kept k1) hneb, r'.cell (j := 0) rfl, r'.cell (j := 1) rfl, r'.cell (j := 2) rfl, r'.cell (j := 3) rfl, r'.cell (j := 4) rfl, r3.2.2 1 (by simp), r3.1⟩)
      have HAW := Lib.hid aW
      have h63 : nt + 1 ≤ maxLen := by unfold maxLen; omega
      have hby : (nt + 1) * 96 ≤ 140737488355328 := by have := HM.out.2.1; omega
      have wz : n3 < W.heap.size := Nat.lt_of_lt_of_le z3 aW.size
      clear hneb rW aW
      go_wp2_with fail
      rw [← hW]
      clear hW
      obtain ⟨q1, q2, q3, q4, q5, q6, q7, q8⟩ := KF.out _ (Kb.refl _ _)
      go_region_law ((first | (go_simp; go_at_call 111; refine (C.out _ HAW.out.drew).mono ?_; rintro e w4 ⟨x, hxt, rfl, a4, tin, xnd⟩; have a5 : Aft W w4 := (Aft.refl _).drew.trans a4; obtain ⟨p1, p2, p3, p4, p5, p6, p7, p8⟩ := KF.out w4 (Kb.of_aft a5); dsimp only) | (refine step_append_lies _ (by rfl) _ _ _ (by rfl) (w.heap.size + 2) 50 i0 _ 5 96 Tryz.underlying23 HI.out HZ0.out HZ1.out HZ2.out rfl (by omega) (.slice At' nt ct) nt (L.flatMap OTab.cells) (by rfl) ((own_aft HOWN.out (HAW.out.trans a5)).alloc _) ⟨w4.heap.size, 0, none⟩ 1 1 [.string p.schema, .string p.name, .string p.owner, .slice x.hc.a p.cols.length x.hc.c, .slice x.hr.a p.rules.length x.hr.c] (by rfl) (by rfl) (World.news_of_block (cs := #[.string p.schema, .string p.name, .string p.owner, .slice x.hc.a p.cols.length x.hc.c, .slice x.hr.a p.rules.length x.hr.c]) (t := 50) (fr := (0, 0)) (heap_alloc_new w4 _)) (by simp [Value.oneCell']) (by omega) h63 hby (by simp; have := (HAW.out.trans a5).size; omega) (w4.heap.size + 1) (by simp) ?_; intro gg cap' w5 hown5 hgrow hat hgl; obtain ⟨s1, s2, s3, s4, s5, s6, s7, s8⟩ := KF.out _ ((Kb.of_aft (a5.alloc _)).trans (Kb.of_grown hgrow)))))
      all_goals
        have HREL := Lib.hid (HS.out.step (ht' := ⟨some ⟨gg, 0, none⟩, nt + 1, cap'⟩) (x := x) hlt (by rw [hxt, HPP.out]) ((HAW.out.trans a5).alloc _) ((tin.down (by show wr.heap.size ≤ W.heap.size; exact HAW.out.size)).aft ((Aft.refl _).alloc _)) xnd hgrow (by rw [OTab.cells_of tin hxt]; exact hown5)
          (fun g hg => by
            rw [blk_some, List.mem_singleton] at hg
            subst hg
            rcases hat with h1 | h1
            · exact .inl (Hd.mem_blk.2 h1)
            · refine .inr ?_
              simp
              omega)
          (fun g hg hx => by
            rw [blk_some, List.mem_singleton] at hg
            subst hg
            have h2 := tin.lt _ hx
            have h3 := HAW.out.size
            have h4 : W.heap.size ≤ g := h2.1
            rcases hat with h1 | h1
            · have := (HOWN.out.lt _ h1).2
              omega
            · omega))
        clear tin xnd hown5 hgrow hat hgl a5 a4 hxt q1 q2 q3 q4 q5 q6 q7 q8 p1 p2 p3 p4 p5 p6 p7 p8 s1 s2 s3 s4 s5 s6 s7 s8
        go_wp2_with fail
        go_roundw
        case rel => exact ⟨nt + 1, _, _, by omega, by go_num, HREL.out⟩
        case measure => simp [intOf]; omega
    · have c0 := hs.box.cell (j := 0) rfl
      have d0 := hs.out.cell (j := 0) rfl
      have d1 := hs.out.cell (j := 1) rfl
      have e0 := hs.out.2.2 0 (by simp)
      have e1 := hs.out.2.2 1 (by simp)
      have dz := hs.out.1
      clear hs
      go_wp2_with fail
      (try simp only [Exit.inBlock, Exit.then])
      have hs := HS.out
      obtain ⟨F, hF⟩ : ∃ F, F = (wr.setCell ⟨w.heap.size + 1, 0, none⟩ (.slice Ac o.schemas.length cc)).setCell ⟨w.heap.size + 1, 1, none⟩ (.slice ht.a k ht.c) := ⟨_, rfl⟩
      have kF : Kb (fun x => x = w.heap.size + 1) wr F := by
        rw [hF]
        exact (Kb.set _ _ _ _).trans (Kb.set _ _ _ _)
      have rF : RowAt F (w.heap.size + 1) [.slice Ac o.schemas.length cc, .slice ht.a k ht.c] := by
        rw [hF]
        exact (hs.out.set 0 _ (by simp)).set 1 _ (by simp)
      rw [← hF]
      refine bodyPost_ret (results_cell (v := .agg #[.slice Ac o.schemas.length cc, .slice ht.a k ht.c]) rfl _ rfl ?hl) rfl ?_
      case hl => exact lvObj_row rF
      have hkn : k = o.tables.length := by omega
      subst hkn
      have his := hs.is
      rw [List.take_of_length_le (Nat.le_refl _)] at his
      refine ⟨⟨Ac, o.schemas.length, cc⟩, ht, L, his, rfl, kF.to_aft hs.aft (fun x hx e => by omega), ?_⟩
      refine ObjIn.down (hs.obj.kb kF fun g hg e => ?_) (by omega)
      have := (hs.obj.lt g hg).1
      omega
end Go.Proofs.YticjnndhpfdajaaGreat
/- slices.Index at texts; all and none, in plain words. -/
namespace Go.Proofs.YticjnndhpfdajaaGreat
open Go.RowKit
set_option maxRecDepth 100000
set_option linter.unusedVariables false
theorem eqS_comm (a b : ByteArray) : eqS a b = eqS b a := by
  unfold eqS; rw [Bool.eq_iff_iff]; simp; exact eq_comm
theorem eqS_trans {a b c : ByteArray} (h : eqS a b = true) (h2 : eqS b c = true) : eqS a c = true := by
  unfold eqS at *; simp at *; rw [h, h2]
set_option maxHeartbeats 1000000 in
theorem sidx_any (A : Option Addr) (cap : Nat) (l : List ByteArray) (name : ByteArray) (w : World) (h : SlAt w 1 StrR A cap l) :
    Calls Tryz.prog 142 #[.slice A l.length cap, .string name] w fun e w' => e = .returned (.int .i64 (idxP (fun c => eqS c name) l)) ∧ w = w' := by
  have hlen := h.len
  go_enter Tryz.func142, Tryz.ntmps142
  go_wp2_with fail
  go_loop [8] (fun i => ∃ k : Nat, k ≤ l.length ∧ i = .int .i64 k ∧ ∀ j, j < k → ∀ (hj : j < l.length), eqS l[j] name = false) (fun i => l.length - (intOf i).toNat)
  case atStart => exact ⟨0, Nat.zero_le _, rfl, fun j hj => absurd hj (Nat.not_lt_zero j)⟩
  case round =>
    obtain ⟨k, hk, rfl, hp⟩ := hrel
    have HP := Lib.hid hp; clear hp
    by_cases hlt : k < l.length
    · obtain ⟨b, off, rfl, hb, c0, hs⟩ := str_at h hlt
      cases heq : eqS l[k] name
      · have h2 : (name.toList == l[k].toList) = false := (eqS_comm _ _).trans heq
        have HN := Lib.hid (ext_lt (p := fun j => ∀ (hj : j < l.length), eqS l[j] name = false) HP.out (fun _ => heq))
        clear heq
        go_wp2_with fail
        go_round
        case rel => exact ⟨k + 1, by omega, by go_num, HN.out⟩
        case measure => simp [intOf]; omega
      · have h2 : (name.toList == l[k].toList) = true := (eqS_comm _ _).trans heq
        have HQ := Lib.hid heq
        clear heq
        go_wp2_with fail
        go_ret
        have heq := HQ.out
        exact ⟨by rw [idxP_some (fun c => eqS c name) l k hlt heq (fun i hi => HP.out i hi (by omega))]; rfl, rfl⟩
    · go_wp2_with fail
      go_ret
      exact ⟨by rw [idxP_none (fun c => eqS c name) l (fun i hi => HP.out i (by omega) hi)]; rfl, rfl⟩

theorem idxP_at {α : Type} (p : α → Bool) (l : List α) (q : Nat) (hq : q < l.length) (h : idxP p l = q) : p l[q] = true := by
  induction l generalizing q with
  | nil => simp at hq
  | cons x l ih =>
    simp only [idxP] at h
    by_cases hx : p x = true
    · rw [if_pos hx] at h
      have : q = 0 := by omega
      subst this; simpa using hx
    · rw [if_neg hx] at h
      by_cases hy : idxP p l < 0
      · rw [if_pos hy] at h; omega
      · rw [if_neg hy] at h
        cases q with
        | zero => omega
        | succ q => simpa using ih q (by simpa using hq) (by omega)
theorem all_false {α : Type} (p : α → Bool) (l : List α) (k : Nat) (hk : k < l.length) (h : p l[k] = false) : l.all p = false := by
  rw [Bool.eq_false_iff]; intro ha
  have := List.all_eq_true.1 ha l[k] (List.getElem_mem hk)
  rw [h] at this; cases this
theorem all_true {α : Type} (p : α → Bool) (l : List α) (h : ∀ k (hk : k < l.length), p l[k] = true) : l.all p = true := by
  rw [List.all_eq_true]; intro x hx
  obtain ⟨i, hi, rfl⟩ := List.getElem_of_mem hx
  exact h i hi
end Go.Proofs.YticjnndhpfdajaaGreat
