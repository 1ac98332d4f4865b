/- The document's Find. -/
import Derived.Test.YtodifdofgjfkiaaFind07
namespace Go.Proofs.Ytodifdofgjfkiaa
open Go.RowKit Go.Deep
set_option maxRecDepth 100000
set_option linter.unusedVariables false
set_option maxHeartbeats 8000000 in
theorem rFind_in (o : Objs) (As : Option Addr) (caps : Nat) (At : Option Addr) (capt : Nat) (s n : ByteArray) (w : World) (hsch : SlAt w 2 SchR As caps o.schemas) (htab : SlAt w 5 TabR At capt o.tables) :
    Calls Try.prog 21 #[.agg #[.slice As o.schemas.length caps, .slice At o.tables.length capt], .string s, .string n] w (FindP w (findR o s n)) := by
  have hlen := hsch.len
  have hlen2 := htab.len
  have l1 : w.heap.size < w.heap.size + 1 := by omega
  have l2 : w.heap.size < w.heap.size + 1 + 1 := by omega
  obtain ⟨W, hW⟩ : ∃ W, W = (w.alloc (.cells #[.slice As o.schemas.length caps, .slice At o.tables.length capt] 25)).alloc (.cells #[.string ⟨#[]⟩, .string ⟨#[]⟩, .string ⟨#[]⟩, .slice none 0 0, .slice none 0 0] 34) := ⟨_, rfl⟩
  have aW : Aft w W := by rw [hW]; exact ((Aft.refl w).alloc _).alloc _
  have r1 : RowAt W w.heap.size [.slice As o.schemas.length caps, .slice At o.tables.length capt] := by rw [hW]; exact (box_row2 (Aft.refl _)).aft ((Aft.refl _).alloc _)
  have r2 : RowAt W (w.heap.size + 1) [.string ⟨#[]⟩, .string ⟨#[]⟩, .string ⟨#[]⟩, .slice none 0 0, .slice none 0 0] := by
    rw [hW]
    have := (box_row2 (w := w.alloc (.cells #[.slice As o.schemas.length caps, .slice At o.tables.length capt] 25)) (c := [.string ⟨#[]⟩, .string ⟨#[]⟩, .string ⟨#[]⟩, .slice none 0 0, .slice none 0 0]) (t := 34) (Aft.refl _))
    simpa using this
  have zW : W.heap.size = w.heap.size + 2 := by rw [hW]; simp
  obtain ⟨c, hc⟩ : ∃ c, checkO o = c := ⟨_, rfl⟩
  obtain ⟨i, hi⟩ : ∃ i, tabAt o.tables s n = i := ⟨_, rfl⟩
  have hir : -1 ≤ i ∧ i < o.tables.length := by rw [← hi]; exact idxP_range _ _
  have CK := Lib.hid (show ∀ w', Aft w w' → Calls Try.prog 18 #[.agg #[.slice As o.schemas.length caps, .slice At o.tables.length capt]] w' fun e w'' => e = .returned (.bool c) ∧ Aft w' w'' from
    fun w' a => (rRight_any o As caps At capt w' (schs_aft a hsch) (tabs_aft a htab)).mono fun e w'' ⟨he, hw⟩ => ⟨he.trans (by rw [hc]), hw⟩)
  have CW := Lib.hid (show ∀ w', Aft w w' → Calls Try.prog 75 #[.agg #[.slice As o.schemas.length caps, .slice At o.tables.length capt], .string s, .string n] w' fun e w'' => e = .returned (.int .i64 i) ∧ Aft w' w'' from
    fun w' a => (rtab_any (.slice As o.schemas.length caps) At capt o.tables s n w' (tabs_aft a htab)).mono fun e w'' ⟨he, hw⟩ => ⟨he.trans (by rw [hi]), hw⟩)
  have HC := Lib.hid hc
  have HI := Lib.hid hi
  have HT := Lib.hid htab
  have HAW := Lib.hid aW
  have HR1 := Lib.hid r1
  have HR2 := Lib.hid r2
  have HZ := Lib.hid zW
  clear hc hi hsch htab r1 r2 aW zW
  go_enter Try.func21, Try.ntmps21
  go_wp2_with fail
  rw [← hW]
  clear hW
  refine (CK.out W HAW.out).mono ?_
  rintro e w1 ⟨rfl, a1⟩
  have b2 := HR2.out.aft a1
  have d0 := b2.cell (j := 0) rfl
  have d1 := b2.cell (j := 1) rfl
  have d2 := b2.cell (j := 2) rfl
  have d3 := b2.cell (j := 3) rfl
  have d4 := b2.cell (j := 4) rfl
  have f0 := b2.2.2 0 (by simp)
  have f1 := b2.2.2 1 (by simp)
  have f2 := b2.2.2 2 (by simp)
  have f3 := b2.2.2 3 (by simp)
  have f4 := b2.2.2 4 (by simp)
  have z2 := b2.1
  have HA1 := Lib.hid (HAW.out.trans a1)
  have HB2 := Lib.hid b2
  have b1 := HR1.out.aft a1
  have c0 := b1.cell (j := 0) rfl
  have c1 := b1.cell (j := 1) rfl
  have z1 := b1.1
  have HB1 := Lib.hid b1
  have HZ1 := Lib.hid (show w.heap.size + 2 ≤ w1.heap.size by have := a1.size; have := HZ.out; omega)
  clear a1 b2 b1
  cases c
  · go_wp2_with fail
    refine bodyPost_ret (results_cell_tmp (v := .agg #[.string ⟨#[]⟩, .string ⟨#[]⟩, .string ⟨#[]⟩, .slice none 0 0, .slice none 0 0]) rfl _ rfl ?hl) rfl ?_
    case hl => exact lvTab_row (setT_row HB2.out rfl _ _ _ _ _)
    rw [findR_no HC.out]
    exact findP_zero ((setT_kb _ _ _ _ _ _ _).to_aft HA1.out (fun g hg e => by omega))
  · go_wp2_with fail
    refine (CW.out w1 HA1.out).mono ?_
    rintro e w2 ⟨rfl, a2⟩
    have b2 := HB2.out.aft a2
    have d0 := b2.cell (j := 0) rfl
    have d1 := b2.cell (j := 1) rfl
    have d2 := b2.cell (j := 2) rfl
    have d3 := b2.cell (j := 3) rfl
    have d4 := b2.cell (j := 4) rfl
    have f0 := b2.2.2 0 (by simp)
    have f1 := b2.2.2 1 (by simp)
    have f2 := b2.2.2 2 (by simp)
    have f3 := b2.2.2 3 (by simp)
    have f4 := b2.2.2 4 (by simp)
    have z2 := b2.1
    have HA2 := Lib.hid (HA1.out.trans a2)
    have HB2' := Lib.hid b2
    have b1 := HB1.out.aft a2
    have c1 := b1.cell (j := 1) rfl
    have z1 := b1.1
    have HZ2 := Lib.hid (show w.heap.size + 2 ≤ w2.heap.size by have := a2.size; have := HZ1.out; omega)
    clear a2 b2 b1
    by_cases h0 : 0 ≤ i
    · obtain ⟨q, rfl⟩ := Int.eq_ofNat_of_zero_le h0
      have hq : q < o.tables.length := by omega
      obtain ⟨b, off, A2, cap2, A3, cap3, rfl, hb, t0, t1, t2, t3, t4, hcols, hruls, hss⟩ := tab_at (tabs_aft HA2.out HT.out) hq
      have hd : decide ((q : Int) < 0) = false := by simp
      have CP := Lib.hid (rCopy_in o.tables[q] A2 cap2 A3 cap3 w2 hcols hruls (by have := (check_mod HC.out).2.2 o.tables[q] (List.getElem_mem hq); exact this))
      have HE := Lib.hid (findR_some HC.out HI.out hq)
      obtain ⟨p, hp⟩ : ∃ p, o.tables[q] = p := ⟨_, rfl⟩
      rw [hp] at t0 t1 t2 t3 t4 CP HE
      clear hp hcols hruls hss h0 hir
      go_wp2_with fail
      refine CP.out.mono ?_
      rintro e w3 ⟨x, hx, rfl, a3, tin, xnd⟩
      have b2 := HB2'.out.aft a3
      have d0 := b2.cell (j := 0) rfl
      have d1 := b2.cell (j := 1) rfl
      have d2 := b2.cell (j := 2) rfl
      have d3 := b2.cell (j := 3) rfl
      have d4 := b2.cell (j := 4) rfl
      have f0 := b2.2.2 0 (by simp)
      have f1 := b2.2.2 1 (by simp)
      have f2 := b2.2.2 2 (by simp)
      have f3 := b2.2.2 3 (by simp)
      have f4 := b2.2.2 4 (by simp)
      have z2 := b2.1
      have HA3 := Lib.hid (HA2.out.trans a3)
      have HB3 := Lib.hid b2
      have HTI := Lib.hid tin
      have HX := Lib.hid hx
      have HN := Lib.hid xnd
      clear a3 b2 tin hx xnd
      go_wp2_with fail
      refine bodyPost_ret (results_cell_tmp (v := .agg #[.string p.schema, .string p.name, .string p.owner, .slice x.hc.a p.cols.length x.hc.c, .slice x.hr.a p.rules.length x.hr.c]) rfl _ rfl ?hl) rfl ?_
      case hl => exact lvTab_row (setT_row HB3.out rfl _ _ _ _ _)
      rw [HE.out]
      refine ⟨x, HX.out, rfl, (setT_kb _ _ _ _ _ _ _).to_aft HA3.out (fun g hg e => by omega), ?_, HN.out⟩
      have hz2 := HZ2.out
      refine TabIn.down (HTI.out.kb (setT_kb _ _ _ _ _ _ _) fun g hg e => ?_) (show w.heap.size ≤ w2.heap.size by omega)
      have := (HTI.out.lt g hg).1
      omega
    · have hd : decide (i < 0) = true := by simp; omega
      go_wp2_with fail
      refine bodyPost_ret (results_cell_tmp (v := .agg #[.string ⟨#[]⟩, .string ⟨#[]⟩, .string ⟨#[]⟩, .slice none 0 0, .slice none 0 0]) rfl _ rfl ?hl3) rfl ?_
      case hl3 => exact lvTab_row (setT_row HB2'.out rfl _ _ _ _ _)
      rw [findR_none HC.out (by rw [HI.out]; omega)]
      exact findP_zero ((setT_kb _ _ _ _ _ _ _).to_aft HA2.out (fun g hg e => by omega))
end Go.Proofs.Ytodifdofgjfkiaa
