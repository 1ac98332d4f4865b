/- The document's SetOwner. -/
import Derived.Test.YtodifdofgjfkiaaSetOwn
namespace Go.Proofs.Ytodifdofgjfkiaa
open Go.RowKit Go.Deep
set_option maxRecDepth 100000
set_option linter.unusedVariables false
theorem ObjP.aft {w w' w'' : World} {r : Objs × Int} {e : Ending} (h : ObjP w r e w') (a : Aft w' w'') : ObjP w r e w'' := by
  obtain ⟨hs, ht, L, hL, he, ha, ob⟩ := h
  exact ⟨hs, ht, L, hL, he, ha.trans a, ob.aft a⟩
set_option maxHeartbeats 1000000 in
theorem rNo_in (c : Int) (w : World) : Calls Try.prog 78 #[.int .i64 c] w fun e w' => e = .returned (.tuple #[.agg #[.slice none 0 0, .slice none 0 0], .int .i64 c]) ∧ Aft w w' := by
  have HA := Lib.hid (show Aft w (w.alloc (.cells #[.slice none 0 0, .slice none 0 0] 25)) from (Aft.refl w).alloc _)
  go_enter Try.func78, Try.ntmps78
  go_wp2_with fail
  refine bodyPost_ret (results_cell_tmp (v := .agg #[.slice none 0 0, .slice none 0 0]) rfl _ rfl (lvObj_box (Aft.refl _))) rfl ⟨rfl, HA.out⟩
/-- the owner of the table q is written -/
theorem ObjIn.owner {w : World} {B gt q : Nat} {hs ht : Hd} {ss : List Sch} {L : List OTab} (ob : ObjIn w B hs ht ss L) (hgt : ht.a = some ⟨gt, 0, none⟩) (hq : q < L.length) (v : ByteArray) : ObjIn (w.setCell ⟨gt, q * 5 + 2, none⟩ (.string v)) B hs ht ss (L.set q { L[q] with owner := v }) := by
  refine ObjIn.put (j := 2) (u := .string v) (y := { L[q] with owner := v }) ob.sch ob.tab (fun i hi _ => ob.nth hi) ⟨(ob.nth hq).col, (ob.nth hq).rul, (ob.nth hq).each⟩ ?_ hgt hq (by decide) rfl
  have h0 := ob.nd
  rw [nd_assoc] at h0 ⊢
  exact nodup_set (N := w.heap.size) h0 hq (tab_nodup h0 hq) (fun g hg => .inl hg) (fun g hg => (ob.lt g (by rw [List.append_assoc] at hg; exact hg)).2)
set_option maxHeartbeats 8000000 in
theorem rSetOwner_in (o : Objs) (As : Option Addr) (caps : Nat) (At : Option Addr) (capt : Nat) (s n v : ByteArray) (w : World) (hsch : SlAt w 2 SchR As caps o.schemas) (htab : SlAt w 5 TabR At capt o.tables) (hv : v.size ≤ maxLen) :
    Calls Try.prog 24 #[.agg #[.slice As o.schemas.length caps, .slice At o.tables.length capt], .string s, .string n, .string v] w (ObjP w (setOwnR o s n v)) := by
  have hlen := hsch.len
  have hlen2 := htab.len
  have l1 : w.heap.size < w.heap.size + 1 := by omega
  have l2 : w.heap.size < w.heap.size + 1 + 1 := by omega
  obtain ⟨W, hW⟩ : ∃ W, W = (w.alloc (.cells #[.slice As o.schemas.length caps, .slice At o.tables.length capt] 25)).alloc (.cells #[.slice none 0 0, .slice none 0 0] 25) := ⟨_, rfl⟩
  have aW : Aft w W := by rw [hW]; exact ((Aft.refl w).alloc _).alloc _
  have r1 : RowAt W w.heap.size [.slice As o.schemas.length caps, .slice At o.tables.length capt] := by rw [hW]; exact (box_row2 (Aft.refl _)).aft ((Aft.refl _).alloc _)
  have r2 : RowAt W (w.heap.size + 1) [.slice none 0 0, .slice none 0 0] := by
    rw [hW]
    have := (box_row2 (w := w.alloc (.cells #[.slice As o.schemas.length caps, .slice At o.tables.length capt] 25)) (c := [.slice none 0 0, .slice none 0 0]) (t := 25) (Aft.refl _))
    simpa using this
  have zW : W.heap.size = w.heap.size + 2 := by rw [hW]; simp
  obtain ⟨c, hc⟩ : ∃ c, checkO o = c := ⟨_, rfl⟩
  obtain ⟨m, hm⟩ : ∃ m, nameB v = m := ⟨_, rfl⟩
  obtain ⟨i, hi⟩ : ∃ i, tabAt o.tables s n = i := ⟨_, rfl⟩
  have hir : -1 ≤ i ∧ i < o.tables.length := by rw [← hi]; exact idxP_range _ _
  have CK := Lib.hid (show ∀ w', Aft w w' → Calls Try.prog 18 #[.agg #[.slice As o.schemas.length caps, .slice At o.tables.length capt]] w' fun e w'' => e = .returned (.bool c) ∧ Aft w' w'' from
    fun w' a => (rRight_any o As caps At capt w' (schs_aft a hsch) (tabs_aft a htab)).mono fun e w'' ⟨he, hw⟩ => ⟨he.trans (by rw [hc]), hw⟩)
  have CN := Lib.hid (show ∀ w', Calls Try.prog 79 #[.string v] w' fun e w'' => e = .returned (.bool m) ∧ w' = w'' from fun w' => (rname_any v w' hv).mono fun e w'' ⟨he, hw⟩ => ⟨he.trans (by rw [hm]), hw⟩)
  have CW := Lib.hid (show ∀ w', Aft w w' → Calls Try.prog 75 #[.agg #[.slice As o.schemas.length caps, .slice At o.tables.length capt], .string s, .string n] w' fun e w'' => e = .returned (.int .i64 i) ∧ Aft w' w'' from
    fun w' a => (rtab_any (.slice As o.schemas.length caps) At capt o.tables s n w' (tabs_aft a htab)).mono fun e w'' ⟨he, hw⟩ => ⟨he.trans (by rw [hi]), hw⟩)
  have CO := Lib.hid (show c = true → ∀ w', Aft w w' → _ from fun h w' a => rOwn_in o As caps At capt w' (schs_aft a hsch) (tabs_aft a htab) (check_mod (hc.trans h)))
  have HE := Lib.hid (show setOwnR o s n v = if c = true then (if m = true then tabR o s n (ownF v) else (zeroO, 1)) else (zeroO, 63) by unfold setOwnR; rw [hc, hm])
  have HI := Lib.hid hi
  have HAW := Lib.hid aW
  have HR1 := Lib.hid r1
  have HR2 := Lib.hid r2
  have HZ := Lib.hid zW
  clear hc hm hi hsch htab r1 r2 aW zW hv
  go_enter Try.func24, Try.ntmps24
  go_wp2_with fail
  rw [← hW]
  clear hW
  refine (CK.out W HAW.out).mono ?_
  rintro e w1 ⟨rfl, a1⟩
  have HB1 := Lib.hid (HR1.out.aft a1)
  have HB2 := Lib.hid (HR2.out.aft a1)
  have c0 := HB1.out.cell (j := 0) rfl
  have c1 := HB1.out.cell (j := 1) rfl
  have z1 := HB1.out.1
  have HA1 := Lib.hid (HAW.out.trans a1)
  have HZ1 := Lib.hid (show w.heap.size + 2 ≤ w1.heap.size by have := a1.size; have := HZ.out; omega)
  clear a1
  have NO := Lib.hid (show ∀ (c : Int) (w2 : World), Aft w1 w2 → Calls Try.prog 78 #[.int .i64 c] w2 fun e w' => e = .returned (.tuple #[.agg #[.slice none 0 0, .slice none 0 0], .int .i64 c]) ∧ Aft w w' ∧ RowAt w' (w.heap.size + 1) [.slice none 0 0, .slice none 0 0] from
    fun c w2 a => (rNo_in c w2).mono fun e w' ⟨he, hw⟩ => ⟨he, HA1.out.trans (a.trans hw), HB2.out.aft (a.trans hw)⟩)
  cases c
  · go_wp2_with fail
    refine (NO.out 63 w1 (Aft.refl _)).mono ?_
    rintro e w2 ⟨rfl, a2, b2⟩
    have d0 := b2.cell (j := 0) rfl
    have d1 := b2.cell (j := 1) rfl
    have f0 := b2.2.2 0 (by simp)
    have f1 := b2.2.2 1 (by simp)
    have z2 := b2.1
    have HA2 := Lib.hid a2
    have HB := Lib.hid b2
    clear a2 b2
    go_wp2_with fail
    refine bodyPost_ret (results_cell_tmp (v := .agg #[.slice none 0 0, .slice none 0 0]) rfl _ rfl (lvObj_row (setO_row HB.out rfl _ _))) rfl ?_
    rw [HE.out]
    exact objP_zset HA2.out (by omega)
  cases m
  · go_wp2_with (go_at_call 79; refine (CN.out _).mono ?_; rintro e w2 ⟨rfl, rfl⟩)
    refine (NO.out 1 w1 (Aft.refl _)).mono ?_
    rintro e w2 ⟨rfl, a2, b2⟩
    have d0 := b2.cell (j := 0) rfl
    have d1 := b2.cell (j := 1) rfl
    have f0 := b2.2.2 0 (by simp)
    have f1 := b2.2.2 1 (by simp)
    have z2 := b2.1
    have HA2 := Lib.hid a2
    have HB := Lib.hid b2
    clear a2 b2
    go_wp2_with fail
    refine bodyPost_ret (results_cell_tmp (v := .agg #[.slice none 0 0, .slice none 0 0]) rfl _ rfl (lvObj_row (setO_row HB.out rfl _ _))) rfl ?_
    rw [HE.out]
    exact objP_zset HA2.out (by omega)
  go_wp2_with (go_at_call 79; refine (CN.out _).mono ?_; rintro e w2 ⟨rfl, rfl⟩)
  refine (CW.out w1 HA1.out).mono ?_
  rintro e w2 ⟨rfl, a2⟩
  have HB1' := Lib.hid (HB1.out.aft a2)
  have HB2' := Lib.hid (HB2.out.aft a2)
  have c0 := HB1'.out.cell (j := 0) rfl
  have c1 := HB1'.out.cell (j := 1) rfl
  have z1 := HB1'.out.1
  have HA2 := Lib.hid (HA1.out.trans a2)
  have HA2' := Lib.hid a2
  clear a2
  by_cases h0 : 0 ≤ i
  · obtain ⟨q, rfl⟩ := Int.eq_ofNat_of_zero_le h0
    have hq : q < o.tables.length := by omega
    have hd : decide ((q : Int) < 0) = false := by simp
    have HE2 := Lib.hid (tabR_some (f := ownF v) HI.out hq)
    clear h0 hir
    go_wp2_with fail
    refine (CO.out (by simp) w2 HA2.out).mono ?_
    rintro e w3 ⟨hs, ht, L, hL, rfl, a3, ob⟩
    have hLL : L.length = o.tables.length := by rw [← hL]; simp
    have hqL : q < L.length := by omega
    obtain ⟨gt, hgt, hgb, _⟩ := own_place ob.tab (by omega)
    obtain ⟨At', nt, ct⟩ := ht
    have hgt' : At' = some ⟨gt, 0, none⟩ := hgt
    subst hgt'
    obtain ⟨y1, y2, yf⟩ := ob.row rfl hqL
    have f2 := yf 2 (by decide)
    have e2 : w3.cell? ⟨gt, q * 5 + 2, none⟩ = some (.string L[q].owner) := ob.cell rfl hqL (by decide)
    have b2 := HB2'.out.aft a3
    have d0 := b2.cell (j := 0) rfl
    have d1 := b2.cell (j := 1) rfl
    have f0 := b2.2.2 0 (by simp)
    have f1 := b2.2.2 1 (by simp)
    have z2 := b2.1
    have hz2 : w.heap.size + 2 ≤ w2.heap.size := by have := HA2'.out.size; have := HZ1.out; omega
    have hz3 := a3.size
    have HO := Lib.hid (ob.owner rfl hqL v)
    have htq : L[q].t = o.tables[q] := by
      have : (L.map OTab.t)[q]'(by simpa using hqL) = o.tables[q] := by simp only [hL]
      simpa using this
    have HL := Lib.hid (show (L.set q { L[q] with owner := v }).map OTab.t = o.tables.set q { o.tables[q] with owner := v } by rw [List.map_set, hL, ← htq]; rfl)
    have hne : gt ≠ w.heap.size + 1 := by omega
    have hne2 : gt ≠ w3.heap.size := by omega
    have l3 : gt < w3.heap.size + 1 := by omega
    have l4 : w.heap.size + 1 < w3.heap.size + 1 := by omega
    have HA3 := Lib.hid (HA2.out.trans a3)
    have HB3 := Lib.hid b2
    have HHG := Lib.hid hgb
    clear b2 ob hL htq yf hgt a3
    have hq0 : (0 : Int) ≤ (q : Int) := by omega
    have hq1 : (q : Int) < (o.tables.length : Int) := by omega
    go_wp2_with fail
    have HB4 := (Kb.set w3 gt (q * 5 + 2) (.string v)).row HB3.out (by omega)
    have HA4 : Aft w (w3.setCell ⟨gt, q * 5 + 2, none⟩ (.string v)) := HA3.out.setCell _ _ (show w.heap.size ≤ gt by omega)
    refine bodyPost_ret (results_cell_tmp (v := .agg #[.slice hs.a o.schemas.length hs.c, .slice (some ⟨gt, 0, none⟩) o.tables.length ct]) rfl _ rfl (lvObj_row ((setO_row HB4 rfl _ _).aft ((Aft.refl _).alloc _)))) rfl ?_
    rw [HE.out]
    simp only [if_true]
    rw [HE2.out, if_pos (show (ownF v o.tables[q]).2 = 0 from rfl)]
    exact (objP_set HA4 HL.out HO.out (by omega) (by omega) (by simp)).aft ((Aft.refl _).alloc _)
  · have hd : decide (i < 0) = true := by simp; omega
    go_wp2_with fail
    refine (NO.out 61 w2 HA2'.out).mono ?_
    rintro e w3 ⟨rfl, a3, b2⟩
    have d0 := b2.cell (j := 0) rfl
    have d1 := b2.cell (j := 1) rfl
    have f0 := b2.2.2 0 (by simp)
    have f1 := b2.2.2 1 (by simp)
    have z2 := b2.1
    have HA3 := Lib.hid a3
    have HB := Lib.hid b2
    clear a3 b2
    go_wp2_with fail
    refine bodyPost_ret (results_cell_tmp (v := .agg #[.slice none 0 0, .slice none 0 0]) rfl _ rfl (lvObj_row (setO_row HB.out rfl _ _))) rfl ?_
    rw [HE.out]
    simp only [if_true]
    rw [tabR_none (by rw [HI.out]; omega)]
    exact objP_zset HA3.out (by omega)
end Go.Proofs.Ytodifdofgjfkiaa
