/- objects.copied: a table in memory of its own. -/
import Derived.Test.YtodifdofgjfkiaaMine2
import Derived.Deep.RegionHeld3
namespace Go.Proofs.Ytodifdofgjfkiaa
open Go.RowKit Go.Deep
set_option maxRecDepth 100000
set_option linter.unusedVariables false
def ModT (t : Tab) : Prop := t.cols.length ≤ 1000000 ∧ t.rules.length ≤ 1000000 ∧ ∀ r ∈ t.rules, r.cols.length ≤ 1000000
theorem lvTab_row {W : World} {b : Nat} {a c d e f : Value} (h : RowAt W b [a, c, d, e, f]) : (loadVar 34 ⟨b, 0, none⟩).run Try.prog W = .ok (.agg #[a, c, d, e, f]) W := by
  have e0 := h.cell (j := 0) rfl
  have e1 := h.cell (j := 1) rfl
  have e2 := h.cell (j := 2) rfl
  have e3 := h.cell (j := 3) rfl
  have e4 := h.cell (j := 4) rfl
  have h1 := run_lvTab W b 0 (by rw [e0]; rfl) (by rw [e1]; rfl) (by rw [e2]; rfl) (by rw [e3]; rfl) (by rw [e4]; rfl)
  rw [e0, e1, e2, e3, e4] at h1
  exact h1
theorem box_row2 {w W : World} {c : List Value} {t : TypeId} (h : Aft (w.alloc (.cells c.toArray t)) W) : RowAt W w.heap.size c := by
  obtain ⟨hb, hf, hz, _, _⟩ := aft_box h
  exact ⟨hz.1, fun j hj => by rw [hb]; simp, fun j _ => hf j⟩
theorem RowAt.far2 {w : World} {b : Nat} {xs : List Value} (h : RowAt w b xs) {g : Nat} (hne : g ≠ b) (j : Nat) (v : Value) : RowAt (w.setCell ⟨g, j, none⟩ v) b xs := (Kb.set w g j v).row h (fun e => hne e.symm)
/-- what is true of a table that is being copied: k of its rules have names of their own -/
structure CopyS (w wr : World) (t : Tab) (hc hr : Hd) (L0 L : List ORul) (k : Nat) : Prop where
  aft : Aft w wr
  box : RowAt wr w.heap.size [.string t.schema, .string t.name, .string t.owner, .slice hc.a t.cols.length hc.c, .slice hr.a t.rules.length hr.c]
  out : RowAt wr (w.heap.size + 1) [.string ⟨#[]⟩, .string ⟨#[]⟩, .string ⟨#[]⟩, .slice none 0 0, .slice none 0 0]
  col : wr.ownsRow (w.heap.size + 2) 40 3 hc.v t.cols.length (t.cols.flatMap colC)
  rul : wr.ownsRow (w.heap.size + 2) 66 8 hr.v t.rules.length ((L ++ L0.drop k).flatMap ORul.cells)
  len : L.length = k
  is : L.map (·.r) = t.rules.take k
  each : ∀ x ∈ L, RulIn wr (w.heap.size + 2) x
  nd : (hc.blk ++ (hr.blk ++ L.flatMap (·.h.blk))).Nodup
theorem CopyS.lt {w wr : World} {t : Tab} {hc hr : Hd} {L0 L : List ORul} {k : Nat} (s : CopyS w wr t hc hr L0 L k) : ∀ g ∈ hc.blk ++ (hr.blk ++ L.flatMap (·.h.blk)), w.heap.size + 2 ≤ g ∧ g < wr.heap.size := by
  intro g hg
  simp only [List.mem_append, List.mem_flatMap] at hg
  rcases hg with hg | hg | ⟨r, hr, hg⟩
  · exact blk_lt s.col g hg
  · exact blk_lt s.rul g hg
  · exact blk_lt (s.each r hr).nam g hg
/-- one rule more -/
theorem CopyS.step {w wr w4 : World} {t : Tab} {hc hr h4 : Hd} {L0 L : List ORul} {k gr : Nat} (s : CopyS w wr t hc hr L0 L k) (h0 : L0.map (·.r) = t.rules) (hk : k < t.rules.length) (hgr : hr.a = some ⟨gr, 0, none⟩)
    (a4 : Aft wr w4) (own4 : w4.ownsRow wr.heap.size 9 1 h4.v t.rules[k].cols.length (t.rules[k].cols.flatMap nameC)) : CopyS w (w4.setCell ⟨gr, k * 8 + 2, none⟩ h4.v) t hc hr L0 (L ++ [⟨t.rules[k], h4⟩]) (k + 1) := by
  have hL0 : L0.length = t.rules.length := by rw [← h0]; simp
  have hgb : gr ∈ hr.blk := by rw [Hd.mem_blk]; unfold Hd.v; rw [hgr]; rfl
  have hlt := s.lt
  have hg := hlt gr (by simp [hgb])
  have kb := Kb.set w4 gr (k * 8 + 2) h4.v
  have ka : Kb (fun x => x = gr) wr (w4.setCell ⟨gr, k * 8 + 2, none⟩ h4.v) := (Kb.of_aft a4).trans kb
  have hnd := s.nd
  have hz : wr.heap.size ≤ w.heap.size + 2 ∨ w.heap.size + 2 ≤ wr.heap.size := by omega
  have hcg : ∀ g ∈ hc.blk, ¬ g = gr := fun g hgc e => by
    subst e
    exact (List.nodup_append.1 hnd).2.2 g hgc g (by simp [hgb]) rfl
  have hng : ∀ x ∈ L, ∀ g ∈ x.h.blk, ¬ g = gr := fun x hx g hgc e => by
    subst e
    exact (List.nodup_append.1 (List.nodup_append.1 hnd).2.1).2.2 g hgb g (by simp only [List.mem_flatMap]; exact ⟨x, hx, hgc⟩) rfl
  refine ⟨ka.to_aft s.aft (fun x hx e => by omega), ka.row s.box (by omega), ka.row s.out (by omega), own_kb s.col ka fun g hgo => hcg g (Hd.mem_blk.2 hgo), ?_, by simp [s.len], ?_, ?_, ?_⟩
  · have h1 := own_set (own_aft s.rul a4) (Hd.mem_blk.1 hgb) (k * 8 + 2) h4.v
    have hkl : k < (L ++ L0.drop k).length := by simp [s.len]; omega
    have hget : (L ++ L0.drop k)[k] = L0[k]'(by omega) := by
      rw [List.getElem_append_right (by rw [s.len]; exact Nat.le_refl _)]
      simp [s.len]
    have hrk : (L0[k]'(by omega)).r = t.rules[k] := by
      have : (L0.map (·.r))[k]'(by simpa using (by omega : k < L0.length)) = t.rules[k] := by simp only [h0]
      simpa using this
    rw [flatMap_set (size := 8) (fun _ => rfl) (L ++ L0.drop k) k 2 hkl (by decide) h4.v ⟨t.rules[k], h4⟩ (by rw [hget]; unfold ORul.cells rulC; rw [hrk]; rfl)] at h1
    have hset : (L ++ L0.drop k).set k ⟨t.rules[k], h4⟩ = (L ++ [⟨t.rules[k], h4⟩]) ++ L0.drop (k + 1) := by
      have hd : L0.drop k = L0[k]'(by omega) :: L0.drop (k + 1) := List.drop_eq_getElem_cons (by omega : k < L0.length)
      rw [List.set_append_right _ _ (by rw [s.len]; exact Nat.le_refl _), s.len, Nat.sub_self, hd]
      simp only [List.set_cons_zero, List.append_assoc, List.cons_append, List.nil_append]
    rw [hset] at h1
    exact h1
  · rw [List.map_append, s.is, List.take_succ_eq_append_getElem hk]; rfl
  · intro x hx
    simp only [List.mem_append, List.mem_singleton] at hx
    rcases hx with hx | rfl
    · exact (s.each x hx).kb ka fun g hgo => hng x hx g hgo
    · exact ⟨own_down (own_kb own4 kb fun g hgo e => by have := (own4.lt g hgo).1; omega) (by have := s.out.1; omega)⟩
  · have e : hc.blk ++ (hr.blk ++ (L ++ [ORul.mk t.rules[k] h4]).flatMap (·.h.blk)) = (hc.blk ++ (hr.blk ++ L.flatMap (·.h.blk))) ++ h4.blk := by simp [List.append_assoc]
    rw [e]
    exact nodup_more hnd (blk_nodup h4) (fun g hg => (hlt g hg).2) (fun g hg => (blk_lt own4 g hg).1)
set_option maxHeartbeats 8000000 in
theorem copied_in (t : Tab) (A : Option Addr) (cap : Nat) (A2 : Option Addr) (cap2 : Nat) (w : World) (h : SlAt w 3 ColR A cap t.cols) (h2 : SlAt w 8 RulR A2 cap2 t.rules) (hm : ModT t) :
    Calls Try.prog 74 #[.agg #[.string t.schema, .string t.name, .string t.owner, .slice A t.cols.length cap, .slice A2 t.rules.length cap2]] w (CopyO w t) := by
  have hlen := h.len
  have hlen2 := h2.len
  have C1 := Lib.hid (show ∀ w', Aft w w' → _ from fun w' a => clone2Col A cap t.cols w w' a h hm.1)
  have C2 := Lib.hid (show ∀ w', Aft w w' → _ from fun w' a => clone2Rul A2 cap2 t.rules w w' a h2 hm.2.1)
  have l1 : w.heap.size < w.heap.size + 1 := by omega
  have l2 : w.heap.size < w.heap.size + 1 + 1 := by omega
  go_enter Try.func74, Try.ntmps74
  go_wp2_with fail
  refine (C1.out _ (((Aft.refl w).alloc _).alloc _)).mono ?_
  rintro e w1 ⟨v1, css1, rfl, a1, own1, ch1⟩
  have r1 : RowAt w1 w.heap.size [.string t.schema, .string t.name, .string t.owner, .slice A t.cols.length cap, .slice A2 t.rules.length cap2] := (box_row2 (Aft.refl _)).aft (((Aft.refl _).alloc _).trans a1)
  have r2 : RowAt w1 (w.heap.size + 1) [.string ⟨#[]⟩, .string ⟨#[]⟩, .string ⟨#[]⟩, .slice none 0 0, .slice none 0 0] := by
    have := (box_row2 (w := w.alloc (.cells #[.string t.schema, .string t.name, .string t.owner, .slice A t.cols.length cap, .slice A2 t.rules.length cap2] 34)) (c := [.string ⟨#[]⟩, .string ⟨#[]⟩, .string ⟨#[]⟩, .slice none 0 0, .slice none 0 0]) (t := 34) (Aft.refl _)).aft a1
    simpa using this
  have HA1 := Lib.hid ((((Aft.refl w).alloc _).alloc _).trans a1)
  obtain ⟨Ac, cc, hv1⟩ := own_lit own1
  subst hv1
  rw [flat_cols ch1] at own1
  have own1 : w1.ownsRow (w.heap.size + 2) 40 3 (Hd.mk Ac t.cols.length cc).v t.cols.length (t.cols.flatMap colC) := own_down own1 (by simp)
  have hz1 : w.heap.size + 2 ≤ w1.heap.size := by have := a1.size; simp at this; omega
  obtain ⟨W1, hW1⟩ : ∃ W1, W1 = w1.setCell ⟨w.heap.size, 3, none⟩ (.slice Ac t.cols.length cc) := ⟨_, rfl⟩
  have kW1 : Kb (fun x => x = w.heap.size) w1 W1 := by rw [hW1]; exact Kb.set _ _ _ _
  have s1 : RowAt W1 w.heap.size [.string t.schema, .string t.name, .string t.owner, .slice Ac t.cols.length cc, .slice A2 t.rules.length cap2] := by rw [hW1]; exact r1.set 3 _ (by simp)
  have s2 := kW1.row r2 (by omega)
  have aW1 : Aft w W1 := by rw [hW1]; exact HA1.out.setCell _ _ (Nat.le_refl _)
  have zW1 : W1.heap.size = w1.heap.size := by rw [hW1]; simp
  have own1' := own_kb own1 kW1 (fun g hg e => by have := (own1.lt g hg).1; omega)
  have b0 := r1.cell (j := 3) rfl
  have b1 := r1.cell (j := 4) rfl
  have f3 := r1.2.2 3 (by simp)
  have z0 := r1.1
  have q4 := s1.cell (j := 4) rfl
  have qz := s1.1
  have HO1 := Lib.hid own1'
  have HR1 := Lib.hid s1
  have HR2 := Lib.hid s2
  clear r1 r2 a1 own1 ch1 C1 kW1 own1' s1 s2
  go_wp2_with fail
  rw [← hW1]
  refine (C2.out W1 aW1).mono ?_
  rintro e w2 ⟨v2, css2, rfl, a2, own2, ch2⟩
  clear C2 hW1 b0 b1 f3 q4 qz
  obtain ⟨Ar, cr, hv2⟩ := own_lit own2
  subst hv2
  obtain ⟨L0, hL0, hcss, hlie⟩ := rules_lie ch2
  rw [hcss, ← List.flatMap_def] at own2
  have s1' := HR1.out.aft a2
  have s2' := HR2.out.aft a2
  have b0 := s1'.cell (j := 3) rfl
  have b1 := s1'.cell (j := 4) rfl
  have f4 := s1'.2.2 4 (by simp)
  have z0 := s1'.1
  obtain ⟨W2, hW2⟩ : ∃ W2, W2 = w2.setCell ⟨w.heap.size, 4, none⟩ (.slice Ar t.rules.length cr) := ⟨_, rfl⟩
  have kW2 : Kb (fun x => x = w.heap.size) w2 W2 := by rw [hW2]; exact Kb.set _ _ _ _
  have u1 : RowAt W2 w.heap.size [.string t.schema, .string t.name, .string t.owner, .slice Ac t.cols.length cc, .slice Ar t.rules.length cr] := by rw [hW2]; exact s1'.set 4 _ (by simp)
  have hS0 : CopyS w W2 t ⟨Ac, t.cols.length, cc⟩ ⟨Ar, t.rules.length, cr⟩ L0 [] 0 := by
    have hz2 : w.heap.size + 2 ≤ W1.heap.size := by omega
    have own1'' := own_aft HO1.out a2
    have own2' : w2.ownsRow W1.heap.size 66 8 (Hd.mk Ar t.rules.length cr).v t.rules.length (L0.flatMap ORul.cells) := own2
    refine ⟨kW2.to_aft (aW1.trans a2) (fun x hx e => by omega), u1, kW2.row s2' (by omega), own_kb own1'' kW2 (fun g hg e => by have := (own1''.lt g hg).1; omega),
      own_down (own_kb own2' kW2 (fun g hg e => by have := (own2.lt g hg).1; omega)) hz2, rfl, rfl, fun x hx => by simp at hx, ?_⟩
    simp only [List.flatMap_nil, List.append_nil]
    exact nodup_more (blk_nodup _) (blk_nodup _) (fun g hg => (blk_lt HO1.out g hg).2) (fun g hg => (blk_lt own2' g hg).1)
  have HS0 := Lib.hid hS0
  have HL0 := Lib.hid hL0
  have HLIE := Lib.hid (show ∀ x ∈ L0, ∀ w', Aft w w' → x.h.n = x.r.cols.length ∧ SlAt w' 1 StrR x.h.a x.h.c x.r.cols from fun x hx w' a => ⟨(hlie x hx).1, strs_aft a (hlie x hx).2⟩)
  have HM := Lib.hid hm
  have x3 := u1.cell (j := 4) rfl
  have xz := u1.1
  clear s1' s2' own2 ch2 hS0 hL0 hlie hm kW2 u1 aW1 hcss
  go_wp2_with fail
  rw [← hW2]
  clear hW2 b0 b1 f4 z0
  go_loopw [15] (fun i wr => ∃ (k : Nat) (L : List ORul), k ≤ t.rules.length ∧ i = .int .i64 k ∧ CopyS w wr t ⟨Ac, t.cols.length, cc⟩ ⟨Ar, t.rules.length, cr⟩ L0 L k) (fun i _ => t.rules.length - (intOf i).toNat)
  case atStart => exact ⟨0, [], Nat.zero_le _, rfl, HS0.out⟩
  case round =>
    clear HS0 x3 xz
    obtain ⟨k, L, hk, rfl, hs⟩ := hrel
    have b4 := hs.box.cell (j := 4) rfl
    have bz := hs.box.1
    have HS := Lib.hid hs
    by_cases hlt : k < t.rules.length
    · have hL0l : L0.length = t.rules.length := by rw [← HL0.out]; simp
      obtain ⟨gr, hAr, hgrb, rg⟩ := own_place hs.rul (by omega)
      have hAr' : Ar = some ⟨gr, 0, none⟩ := hAr
      subst hAr'
      have hkl : k < L0.length := by omega
      have hget : (L ++ L0.drop k)[k]'(by simp [hs.len]; omega) = L0[k] := by
        rw [List.getElem_append_right (by rw [hs.len]; exact Nat.le_refl _)]
        simp [hs.len]
      have hrk : L0[k].r = t.rules[k] := by
        have : (L0.map (·.r))[k]'(by simpa using hkl) = t.rules[k] := by simp only [HL0.out]
        simpa using this
      obtain ⟨hn, hD⟩ := HLIE.out L0[k] (List.getElem_mem hkl) wr hs.aft
      obtain ⟨p, hpp⟩ : ∃ p, t.rules[k] = p := ⟨_, rfl⟩
      obtain ⟨D, nD, capD⟩ : Hd := L0[k].h
      have x2 : wr.cell? ⟨gr, k * 8 + 2, none⟩ = some (.slice L0[k].h.a p.cols.length L0[k].h.c) := by
        refine rg.cell ?_
        rw [flatMap_get ORul.cells 8 (fun _ => rfl) _ k 2 (by simp [hs.len]; omega) (by decide), hget]
        unfold ORul.cells rulC Hd.v
        rw [hn, hrk, hpp]; rfl
      rw [hrk, hpp] at hD
      obtain ⟨D2, hD2⟩ : ∃ D, L0[k].h.a = D := ⟨_, rfl⟩
      obtain ⟨c2, hc2⟩ : ∃ c, L0[k].h.c = c := ⟨_, rfl⟩
      rw [hD2, hc2] at x2 hD
      have HPP := Lib.hid hpp
      have f2 := rg.2.2 (k * 8 + 2) (by rw [flatMap_len (size := 8) (fun _ => rfl)]; simp [hs.len]; omega)
      have gz := rg.1
      have hp6 : p.cols.length ≤ 1000000 := HM.out.2.2 p (by rw [← hpp]; exact List.getElem_mem hlt)
      have hpl := hD.len
      have C3 := Lib.hid (show ∀ w', Aft wr w' → _ from fun w' a => clone2Str D2 c2 p.cols wr w' a hD hp6)
      have hgn : gr ≠ w.heap.size := by omega
      clear hpp hget hrk hn hD hD2 hc2 hs rg hAr hL0l
      go_wp2_with fail
      go_region_with ((go_at_call 118; refine (C3.out _ (Aft.refl _).drew).mono ?_; rintro e w4 ⟨v4, css4, rfl, a4, own4, ch4⟩; have x4 := a4.cell_kept x2; have b44 := a4.cell_kept b4; have f4 := (Below.frozen a4 (p := ⟨gr, k * 8 + 2, none⟩) gz).trans f2; obtain ⟨Dn, cn, hv4⟩ := own_lit own4; subst hv4))
      all_goals
        have aw4 : Aft wr w4 := (Aft.refl _).drew.trans a4
        have HREL := Lib.hid (HS.out.step (h4 := ⟨Dn, p.cols.length, cn⟩) HL0.out hlt rfl aw4 (by rw [flat_names ch4] at own4; rw [HPP.out]; exact own4))
        rw [HPP.out] at HREL
        clear own4 ch4 a4 aw4 x4 b44 f4
        go_wp2_with fail
        go_roundw
        case rel => exact ⟨k + 1, _, by omega, by go_num, HREL.out⟩
        case measure => simp [intOf]; omega
    · have c0 := hs.box.cell (j := 0) rfl
      have c1 := hs.box.cell (j := 1) rfl
      have c2 := hs.box.cell (j := 2) rfl
      have c3 := hs.box.cell (j := 3) rfl
      have d0 := hs.out.cell (j := 0) rfl
      have d1 := hs.out.cell (j := 1) rfl
      have d2 := hs.out.cell (j := 2) rfl
      have d3 := hs.out.cell (j := 3) rfl
      have d4 := hs.out.cell (j := 4) rfl
      have e0 := hs.out.2.2 0 (by simp)
      have e1 := hs.out.2.2 1 (by simp)
      have e2 := hs.out.2.2 2 (by simp)
      have e3 := hs.out.2.2 3 (by simp)
      have e4 := hs.out.2.2 4 (by simp)
      have dz := hs.out.1
      clear hs
      go_wp2_with fail
      (try simp only [Exit.inBlock, Exit.then])
      have hs := HS.out
      obtain ⟨F, hF⟩ : ∃ F, F = ((((wr.setCell ⟨w.heap.size + 1, 0, none⟩ (.string t.schema)).setCell ⟨w.heap.size + 1, 1, none⟩ (.string t.name)).setCell ⟨w.heap.size + 1, 2, none⟩ (.string t.owner)).setCell ⟨w.heap.size + 1, 3, none⟩ (.slice Ac t.cols.length cc)).setCell ⟨w.heap.size + 1, 4, none⟩ (.slice Ar t.rules.length cr) := ⟨_, rfl⟩
      have kF : Kb (fun x => x = w.heap.size + 1) wr F := by
        rw [hF]
        exact ((((Kb.set _ _ _ _).trans (Kb.set _ _ _ _)).trans (Kb.set _ _ _ _)).trans (Kb.set _ _ _ _)).trans (Kb.set _ _ _ _)
      have rF : RowAt F (w.heap.size + 1) [.string t.schema, .string t.name, .string t.owner, .slice Ac t.cols.length cc, .slice Ar t.rules.length cr] := by
        rw [hF]
        exact ((((hs.out.set 0 _ (by simp)).set 1 _ (by simp)).set 2 _ (by simp)).set 3 _ (by simp)).set 4 _ (by simp)
      rw [← hF]
      refine bodyPost_ret (results_cell (v := .agg #[.string t.schema, .string t.name, .string t.owner, .slice Ac t.cols.length cc, .slice Ar t.rules.length cr]) rfl _ rfl ?hl) rfl ?_
      case hl => exact lvTab_row rF
      have hkn : k = t.rules.length := by omega
      subst hkn
      have his := hs.is
      rw [List.take_of_length_le (Nat.le_refl _)] at his
      have hL0l : L0.length = t.rules.length := by rw [← HL0.out]; simp
      have hrul := hs.rul
      rw [List.drop_of_length_le (by omega), List.append_nil] at hrul
      have hlen' : L.length = t.rules.length := hs.len
      refine ⟨⟨t.schema, t.name, t.owner, t.cols, L, ⟨Ac, t.cols.length, cc⟩, ⟨Ar, t.rules.length, cr⟩⟩, by unfold OTab.t; rw [his], rfl, kF.to_aft hs.aft (fun x hx e => by omega), ?_, hs.nd⟩
      have hlt' := hs.lt
      refine TabIn.down (TabIn.kb (w := wr) (B := w.heap.size + 2) ⟨hs.col, by show wr.ownsRow _ _ 8 _ L.length _; rw [hlen']; exact hrul, hs.each⟩ kF fun g hg e => ?_) (by omega)
      have := hlt' g hg
      omega
end Go.Proofs.Ytodifdofgjfkiaa
