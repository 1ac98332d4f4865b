/- Contracts of the program, part 8. -/
import Derived.Test.YtodifdofgjfkiaaPart7
import Derived.Test.YtodifdofgjfkiaaPart6
import Derived.Test.YtodifdofgjfkiaaPart1
import Derived.Test.YtodifdofgjfkiaaPart2
import Derived.Test.YtodifdofgjfkiaaPart3
/- The document's SetOwner. -/
namespace Go.Proofs.Ytodifdofgjfkiaa
open Go.RowKit Go.Deep
set_option maxRecDepth 100000
set_option linter.unusedVariables false
theorem ObjP.aft {w w' w'' : World} {r : Objs × Int} {e : Ending} (h : ObjP w r e w') (a : Aft w' w'') : ObjP w r e w'' := by
  obtain ⟨hs, ht, L, hL, he, ha, ob⟩ := h
  exact ⟨hs, ht, L, hL, he, ha.trans a, ob.aft a⟩
set_option maxHeartbeats 1000000 in
theorem rNo_in (c : Int) (w : World) : Calls Try.prog 78 #[.int .i64 c] w fun e w' => e = .returned (.tuple #[.agg #[.slice none 0 0, .slice none 0 0], .int .i64 c]) ∧ Aft w w' := by
  have HA := Lib.hid (show Aft w (w.alloc (.cells #[.slice none 0 0, .slice none 0 0] 25)) from (Aft.refl w).alloc _)
  go_enter Try.func78, Try.ntmps78
  go_wp2_with fail
  refine bodyPost_ret (results_cell_tmp (v := .agg #[.slice none 0 0, .slice none 0 0]) rfl _ rfl (lvObj_box (Aft.refl _))) rfl ⟨rfl, HA.out⟩
/-- the owner of the table q is written -/
theorem ObjIn.owner {w : World} {B gt q : Nat} {hs ht : Hd} {ss : List Sch} {L : List OTab} (ob : ObjIn w B hs ht ss L) (hgt : ht.a = some ⟨gt, 0, none⟩) (hq : q < L.length) (v : ByteArray) : ObjIn (w.setCell ⟨gt, q * 5 + 2, none⟩ (.string v)) B hs ht ss (L.set q { L[q] with owner := v }) := by
  refine ObjIn.put (j := 2) (u := .string v) (y := { L[q] with owner := v }) ob.sch ob.tab (fun i hi _ => ob.nth hi) ⟨(ob.nth hq).col, (ob.nth hq).rul, (ob.nth hq).each⟩ ?_ hgt hq (by decide) rfl
  have h0 := ob.nd
  rw [nd_assoc] at h0 ⊢
  exact nodup_set (N := w.heap.size) h0 hq (tab_nodup h0 hq) (fun g hg => .inl hg) (fun g hg => (ob.lt g (by rw [List.append_assoc] at hg; exact hg)).2)
set_option maxHeartbeats 8000000 in
theorem rSetOwner_in (o : Objs) (As : Option Addr) (caps : Nat) (At : Option Addr) (capt : Nat) (s n v : ByteArray) (w : World) (hsch : SlAt w 2 SchR As caps o.schemas) (htab : SlAt w 5 TabR At capt o.tables) (hv : v.size ≤ maxLen) :
    Calls Try.prog 24 #[.agg #[.slice As o.schemas.length caps, .slice At o.tables.length capt], .string s, .string n, .string v] w (ObjP w (setOwnR o s n v)) := by
  have hlen := hsch.len
  have hlen2 := htab.len
  have l1 : w.heap.size < w.heap.size + 1 := by omega
  have l2 : w.heap.size < w.heap.size + 1 + 1 := by omega
  obtain ⟨W, hW⟩ : ∃ W, W = (w.alloc (.cells #[.slice As o.schemas.length caps, .slice At o.tables.length capt] 25)).alloc (.cells #[.slice none 0 0, .slice none 0 0] 25) := ⟨_, rfl⟩
  have aW : Aft w W := by rw [hW]; exact ((Aft.refl w).alloc _).alloc _
  have r1 : RowAt W w.heap.size [.slice As o.schemas.length caps, .slice At o.tables.length capt] := by rw [hW]; exact (box_row2 (Aft.refl _)).aft ((Aft.refl _).alloc _)
  have r2 : RowAt W (w.heap.size + 1) [.slice none 0 0, .slice none 0 0] := by
    rw [hW]
    have := (box_row2 (w := w.alloc (.cells #[.slice As o.schemas.length caps, .slice At o.tables.length capt] 25)) (c := [.slice none 0 0, .slice none 0 0]) (t := 25) (Aft.refl _))
    simpa using this
  have zW : W.heap.size = w.heap.size + 2 := by rw [hW]; simp
  obtain ⟨c, hc⟩ : ∃ c, checkO o = c := ⟨_, rfl⟩
  obtain ⟨m, hm⟩ : ∃ m, nameB v = m := ⟨_, rfl⟩
  obtain ⟨i, hi⟩ : ∃ i, tabAt o.tables s n = i := ⟨_, rfl⟩
  have hir : -1 ≤ i ∧ i < o.tables.length := by rw [← hi]; exact idxP_range _ _
  have CK := Lib.hid (show ∀ w', Aft w w' → Calls Try.prog 18 #[.agg #[.slice As o.schemas.length caps, .slice At o.tables.length capt]] w' fun e w'' => e = .returned (.bool c) ∧ Aft w' w'' from
    fun w' a => (rRight_any o As caps At capt w' (schs_aft a hsch) (tabs_aft a htab)).mono fun e w'' ⟨he, hw⟩ => ⟨he.trans (by rw [hc]), hw⟩)
  have CN := Lib.hid (show ∀ w', Calls Try.prog 79 #[.string v] w' fun e w'' => e = .returned (.bool m) ∧ w' = w'' from fun w' => (rname_any v w' hv).mono fun e w'' ⟨he, hw⟩ => ⟨he.trans (by rw [hm]), hw⟩)
  have CW := Lib.hid (show ∀ w', Aft w w' → Calls Try.prog 75 #[.agg #[.slice As o.schemas.length caps, .slice At o.tables.length capt], .string s, .string n] w' fun e w'' => e = .returned (.int .i64 i) ∧ Aft w' w'' from
    fun w' a => (rtab_any (.slice As o.schemas.length caps) At capt o.tables s n w' (tabs_aft a htab)).mono fun e w'' ⟨he, hw⟩ => ⟨he.trans (by rw [hi]), hw⟩)
  have CO := Lib.hid (show c = true → ∀ w', Aft w w' → _ from fun h w' a => rOwn_in o As caps At capt w' (schs_aft a hsch) (tabs_aft a htab) (check_mod (hc.trans h)))
  have HE := Lib.hid (show setOwnR o s n v = if c = true then (if m = true then tabR o s n (ownF v) else (zeroO, 1)) else (zeroO, 63) by unfold setOwnR; rw [hc, hm])
  have HI := Lib.hid hi
  have HAW := Lib.hid aW
  have HR1 := Lib.hid r1
  have HR2 := Lib.hid r2
  have HZ := Lib.hid zW
  clear hc hm hi hsch htab r1 r2 aW zW hv
  go_enter Try.func24, Try.ntmps24
  go_wp2_with fail
  rw [← hW]
  clear hW
  refine (CK.out W HAW.out).mono ?_
  rintro e w1 ⟨rfl, a1⟩
  have HB1 := Lib.hid (HR1.out.aft a1)
  have HB2 := Lib.hid (HR2.out.aft a1)
  have c0 := HB1.out.cell (j := 0) rfl
  have c1 := HB1.out.cell (j := 1) rfl
  have z1 := HB1.out.1
  have HA1 := Lib.hid (HAW.out.trans a1)
  have HZ1 := Lib.hid (show w.heap.size + 2 ≤ w1.heap.size by have := a1.size; have := HZ.out; omega)
  clear a1
  have NO := Lib.hid (show ∀ (c : Int) (w2 : World), Aft w1 w2 → Calls Try.prog 78 #[.int .i64 c] w2 fun e w' => e = .returned (.tuple #[.agg #[.slice none 0 0, .slice none 0 0], .int .i64 c]) ∧ Aft w w' ∧ RowAt w' (w.heap.size + 1) [.slice none 0 0, .slice none 0 0] from
    fun c w2 a => (rNo_in c w2).mono fun e w' ⟨he, hw⟩ => ⟨he, HA1.out.trans (a.trans hw), HB2.out.aft (a.trans hw)⟩)
  cases c
  · go_wp2_with fail
    refine (NO.out 63 w1 (Aft.refl _)).mono ?_
    rintro e w2 ⟨rfl, a2, b2⟩
    have d0 := b2.cell (j := 0) rfl
    have d1 := b2.cell (j := 1) rfl
    have f0 := b2.2.2 0 (by simp)
    have f1 := b2.2.2 1 (by simp)
    have z2 := b2.1
    have HA2 := Lib.hid a2
    have HB := Lib.hid b2
    clear a2 b2
    go_wp2_with fail
    refine bodyPost_ret (results_cell_tmp (v := .agg #[.slice none 0 0, .slice none 0 0]) rfl _ rfl (lvObj_row (setO_row HB.out rfl _ _))) rfl ?_
    rw [HE.out]
    exact objP_zset HA2.out (by omega)
  cases m
  · go_wp2_with (go_at_call 79; refine (CN.out _).mono ?_; rintro e w2 ⟨rfl, rfl⟩)
    refine (NO.out 1 w1 (Aft.refl _)).mono ?_
    rintro e w2 ⟨rfl, a2, b2⟩
    have d0 := b2.cell (j := 0) rfl
    have d1 := b2.cell (j := 1) rfl
    have f0 := b2.2.2 0 (by simp)
    have f1 := b2.2.2 1 (by simp)
    have z2 := b2.1
    have HA2 := Lib.hid a2
    have HB := Lib.hid b2
    clear a2 b2
    go_wp2_with fail
    refine bodyPost_ret (results_cell_tmp (v := .agg #[.slice none 0 0, .slice none 0 0]) rfl _ rfl (lvObj_row (setO_row HB.out rfl _ _))) rfl ?_
    rw [HE.out]
    exact objP_zset HA2.out (by omega)
  go_wp2_with (go_at_call 79; refine (CN.out _).mono ?_; rintro e w2 ⟨rfl, rfl⟩)
  refine (CW.out w1 HA1.out).mono ?_
  rintro e w2 ⟨rfl, a2⟩
  have HB1' := Lib.hid (HB1.out.aft a2)
  have HB2' := Lib.hid (HB2.out.aft a2)
  have c0 := HB1'.out.cell (j := 0) rfl
  have c1 := HB1'.out.cell (j := 1) rfl
  have z1 := HB1'.out.1
  have HA2 := Lib.hid (HA1.out.trans a2)
  have HA2' := Lib.hid a2
  clear a2
  by_cases h0 : 0 ≤ i
  · obtain ⟨q, rfl⟩ := Int.eq_ofNat_of_zero_le h0
    have hq : q < o.tables.length := by omega
    have hd : decide ((q : Int) < 0) = false := by simp
    have HE2 := Lib.hid (tabR_some (f := ownF v) HI.out hq)
    clear h0 hir
    go_wp2_with fail
    refine (CO.out (by simp) w2 HA2.out).mono ?_
    rintro e w3 ⟨hs, ht, L, hL, rfl, a3, ob⟩
    have hLL : L.length = o.tables.length := by rw [← hL]; simp
    have hqL : q < L.length := by omega
    obtain ⟨gt, hgt, hgb, _⟩ := own_place ob.tab (by omega)
    obtain ⟨At', nt, ct⟩ := ht
    have hgt' : At' = some ⟨gt, 0, none⟩ := hgt
    subst hgt'
    obtain ⟨y1, y2, yf⟩ := ob.row rfl hqL
    have f2 := yf 2 (by decide)
    have e2 : w3.cell? ⟨gt, q * 5 + 2, none⟩ = some (.string L[q].owner) := ob.cell rfl hqL (by decide)
    have b2 := HB2'.out.aft a3
    have d0 := b2.cell (j := 0) rfl
    have d1 := b2.cell (j := 1) rfl
    have f0 := b2.2.2 0 (by simp)
    have f1 := b2.2.2 1 (by simp)
    have z2 := b2.1
    have hz2 : w.heap.size + 2 ≤ w2.heap.size := by have := HA2'.out.size; have := HZ1.out; omega
    have hz3 := a3.size
    have HO := Lib.hid (ob.owner rfl hqL v)
    have htq : L[q].t = o.tables[q] := by
      have : (L.map OTab.t)[q]'(by simpa using hqL) = o.tables[q] := by simp only [hL]
      simpa using this
    have HL := Lib.hid (show (L.set q { L[q] with owner := v }).map OTab.t = o.tables.set q { o.tables[q] with owner := v } by rw [List.map_set, hL, ← htq]; rfl)
    have hne : gt ≠ w.heap.size + 1 := by omega
    have hne2 : gt ≠ w3.heap.size := by omega
    have l3 : gt < w3.heap.size + 1 := by omega
    have l4 : w.heap.size + 1 < w3.heap.size + 1 := by omega
    have HA3 := Lib.hid (HA2.out.trans a3)
    have HB3 := Lib.hid b2
    have HHG := Lib.hid hgb
    clear b2 ob hL htq yf hgt a3
    have hq0 : (0 : Int) ≤ (q : Int) := by omega
    have hq1 : (q : Int) < (o.tables.length : Int) := by omega
    go_wp2_with fail
    have HB4 := (Kb.set w3 gt (q * 5 + 2) (.string v)).row HB3.out (by omega)
    have HA4 : Aft w (w3.setCell ⟨gt, q * 5 + 2, none⟩ (.string v)) := HA3.out.setCell _ _ (show w.heap.size ≤ gt by omega)
    refine bodyPost_ret (results_cell_tmp (v := .agg #[.slice hs.a o.schemas.length hs.c, .slice (some ⟨gt, 0, none⟩) o.tables.length ct]) rfl _ rfl (lvObj_row ((setO_row HB4 rfl _ _).aft ((Aft.refl _).alloc _)))) rfl ?_
    rw [HE.out]
    simp only [if_true]
    rw [HE2.out, if_pos (show (ownF v o.tables[q]).2 = 0 from rfl)]
    exact (objP_set HA4 HL.out HO.out (by omega) (by omega) (by simp)).aft ((Aft.refl _).alloc _)
  · have hd : decide (i < 0) = true := by simp; omega
    go_wp2_with fail
    refine (NO.out 61 w2 HA2'.out).mono ?_
    rintro e w3 ⟨rfl, a3, b2⟩
    have d0 := b2.cell (j := 0) rfl
    have d1 := b2.cell (j := 1) rfl
    have f0 := b2.2.2 0 (by simp)
    have f1 := b2.2.2 1 (by simp)
    have z2 := b2.1
    have HA3 := Lib.hid a3
    have HB := Lib.hid b2
    clear a3 b2
    go_wp2_with fail
    refine bodyPost_ret (results_cell_tmp (v := .agg #[.slice none 0 0, .slice none 0 0]) rfl _ rfl (lvObj_row (setO_row HB.out rfl _ _))) rfl ?_
    rw [HE.out]
    simp only [if_true]
    rw [tabR_none (by rw [HI.out]; omega)]
    exact objP_zset HA3.out (by omega)
end Go.Proofs.Ytodifdofgjfkiaa
/- law07's large: it says yes or no; and the document's O. -/
namespace Go.Proofs.Ytodifdofgjfkiaa
open Go.RowKit
set_option maxRecDepth 100000
set_option linter.unusedVariables false
def AnyBool (w : World) (e : Ending) (w' : World) : Prop := ∃ b : Bool, e = .returned (.bool b) ∧ Aft w w'
set_option maxHeartbeats 4000000 in
theorem large_any (o : Objs) (As : Option Addr) (caps : Nat) (At : Option Addr) (capt : Nat) (w : World) (hsch : SlAt w 2 SchR As caps o.schemas) (htab : SlAt w 5 TabR At capt o.tables) :
    Calls Try.prog 15 #[.agg #[.slice As o.schemas.length caps, .slice At o.tables.length capt]] w
      (AnyBool w) := by
  have hlen := hsch.len
  have hlen2 := htab.len
  go_enter Try.func15, Try.ntmps15
  go_wp2_with fail
  go_loopw [3, 4] (fun n i wr => ∃ (k : Nat) (z : Int), k ≤ o.tables.length ∧ n = .int .i64 z ∧ i = .int .i64 k ∧ Aft (w.alloc (.cells #[.slice As o.schemas.length caps, .slice At o.tables.length capt] 25)) wr) (fun _ i _ => o.tables.length - (intOf i).toNat)
  case atStart => exact ⟨0, _, Nat.zero_le _, rfl, rfl, Aft.refl _⟩
  case round =>
    obtain ⟨k, z, hk, rfl, rfl, ha⟩ := hrel
    obtain ⟨hbox, hfr, hz, hzk, HA⟩ := aft_box ha
    have HAB := Lib.hid ha
    clear ha
    by_cases hlt : k < o.tables.length
    · by_cases hz0 : z ≤ 3000
      · obtain ⟨b, off, B2, capB2, B3, capB3, rfl, hb, c0, c1, c2, c3, c4, hcols, hrules, hss⟩ := tab_at (tabs_aft HA.out htab) hlt
        obtain ⟨t, ht0⟩ : ∃ t, o.tables[k] = t := ⟨_, rfl⟩
        rw [ht0] at c0 c1 c2 c3 c4 hcols hrules
        clear ht0 hss
        have hl3 := hrules.len
        go_wp2_with fail
        go_loop [3, 6] (fun n i => ∃ (m : Nat) (z : Int), m ≤ t.rules.length ∧ n = .int .i64 z ∧ i = .int .i64 m) (fun _ i => t.rules.length - (intOf i).toNat)
        case atStart => exact ⟨0, _, Nat.zero_le _, rfl, rfl⟩
        case round =>
          obtain ⟨m, z2, hm, rfl, rfl⟩ := hrel
          by_cases hlt2 : m < t.rules.length
          · by_cases hz2 : z2 ≤ 3000
            · obtain ⟨b3, off3, D2, capD2, rfl, hb3, e0, e1, e2, e3, e4, e5, e6, e7, hcs, hss3⟩ := rul_at hrules hlt2
              go_wp2_with fail
              go_round
              case rel => exact ⟨m + 1, _, by omega, rfl, by go_num⟩
              case measure => simp [intOf]; omega
            · go_wp2_with fail
              go_roundw
              case rel => exact ⟨k + 1, _, by omega, rfl, by go_num, HAB.out.alloc _⟩
              case measure => simp [intOf]; omega
          · go_wp2_with fail
            go_roundw
            case rel => exact ⟨k + 1, _, by omega, rfl, by go_num, HAB.out.alloc _⟩
            case measure => simp [intOf]; omega
      · go_wp2_with fail
        go_ret
        exact ⟨_, rfl, HA.out⟩
    · go_wp2_with fail
      go_ret
      exact ⟨_, rfl, HA.out⟩
def oneO : Objs := ⟨[⟨⟨#[115]⟩, ⟨#[111]⟩⟩], [⟨⟨#[115]⟩, ⟨#[116]⟩, ⟨#[111]⟩, [⟨⟨#[120]⟩, 2, false⟩, ⟨⟨#[121]⟩, 3, true⟩], [⟨⟨#[107]⟩, 2, [⟨#[120]⟩], 0, 0, ByteArray.empty, ByteArray.empty, ByteArray.empty⟩]⟩]⟩
theorem oneO_ok : checkO oneO = true := by decide +kernel
theorem oneO_no : checkO ⟨[], oneO.tables⟩ = false := by decide +kernel
def OnePost (w : World) (e : Ending) (w' : World) : Prop := ∃ As caps At capt, e = .returned (.agg #[.slice As 1 caps, .slice At 1 capt]) ∧ Aft w w' ∧ SlAt w' 2 SchR As caps oneO.schemas ∧ SlAt w' 5 TabR At capt oneO.tables
set_option maxHeartbeats 4000000 in
theorem one_any (w : World) :
    Calls Try.prog 61 #[] w (OnePost w) := by
  have l1 : w.heap.size < w.heap.size + 1 := by omega
  have l2 : w.heap.size < w.heap.size + 1 + 1 := by omega
  have l3 : w.heap.size < w.heap.size + 1 + 1 + 1 := by omega
  have l4 : w.heap.size < w.heap.size + 1 + 1 + 1 + 1 := by omega
  have l5 : w.heap.size < w.heap.size + 1 + 1 + 1 + 1 + 1 := by omega
  have l6 : w.heap.size < w.heap.size + 1 + 1 + 1 + 1 + 1 + 1 := by omega
  have l7 : w.heap.size < w.heap.size + 1 + 1 + 1 + 1 + 1 + 1 + 1 := by omega
  have l8 : w.heap.size < w.heap.size + 1 + 1 + 1 + 1 + 1 + 1 + 1 + 1 := by omega
  go_enter Try.func61, Try.ntmps61
  go_wp2_with fail
  (try simp only [Exit.inBlock, Exit.then])
  refine bodyPost_ret (results_cell (v := .agg #[.slice (some ⟨w.heap.size + 1 + 1 + 1 + 1 + 1 + 1, 0, none⟩) 1 1, .slice (some ⟨w.heap.size + 1 + 1 + 1 + 1 + 1 + 1 + 1, 0, none⟩) 1 1]) rfl _ rfl ?hl) rfl ?_
  case hl => exact lvObj_box ((((((((Aft.refl _).alloc _).alloc _).alloc _).alloc _).alloc _).alloc _).alloc _)
  refine ⟨_, _, _, _, rfl, ((((((((Aft.refl _).alloc _).alloc _).alloc _).alloc _).alloc _).alloc _).alloc _).alloc _, ?s, ?t⟩
  case s => exact slAt_one _ [.string ⟨#[115]⟩, .string ⟨#[111]⟩] #[.string ⟨#[115]⟩, .string ⟨#[111]⟩] (by first | (simp; done) | (simp; omega)) (by intro o; (repeat (refine (World.cell?_alloc_past _ _ _ (by first | (simp; done) | (simp; omega))).trans ?_)); exact World.cell?_alloc_at _ _ _ _ (by simp)) rfl rfl ⟨rfl, by unfold Small; decide, by unfold Small; decide⟩ (by omega)
  case t =>
    refine slAt_one _ [.string ⟨#[115]⟩, .string ⟨#[116]⟩, .string ⟨#[111]⟩, .slice (some ⟨w.heap.size + 1 + 1 + 1, 0, none⟩) 2 2, .slice (some ⟨w.heap.size + 1 + 1 + 1 + 1, 0, none⟩) 1 1] #[.string ⟨#[115]⟩, .string ⟨#[116]⟩, .string ⟨#[111]⟩, .slice (some ⟨w.heap.size + 1 + 1 + 1, 0, none⟩) 2 2, .slice (some ⟨w.heap.size + 1 + 1 + 1 + 1, 0, none⟩) 1 1] (by first | (simp; done) | (simp; omega)) (by intro o; (repeat (refine (World.cell?_alloc_past _ _ _ (by first | (simp; done) | (simp; omega))).trans ?_)); exact World.cell?_alloc_at _ _ _ _ (by simp)) rfl rfl ⟨_, _, _, _, rfl, ?c, ?r, by unfold Small; decide, by unfold Small; decide, by unfold Small; decide⟩ (by omega)
    case c => exact slAt_box _ (fun c => [.string c.name, .int .i64 c.kind, .bool c.null]) #[.string ⟨#[120]⟩, .int .i64 2, .bool false, .string ⟨#[121]⟩, .int .i64 3, .bool true] (by first | (simp; done) | (simp; omega)) (by intro o; (repeat (refine (World.cell?_alloc_past _ _ _ (by first | (simp; done) | (simp; omega))).trans ?_)); exact World.cell?_alloc_at _ _ _ _ (by simp)) rfl (fun _ => rfl) (by intro x hx; refine ⟨rfl, ?_⟩; simp [oneO] at hx; rcases hx with rfl | rfl <;> (unfold Small; decide)) (by unfold Small; decide) (by decide)
    case r =>
      refine slAt_one _ [.string ⟨#[107]⟩, .int .i64 2, .slice (some ⟨w.heap.size + 1, 0, none⟩) 1 1, .int .i64 0, .int .i64 0, .string ⟨#[]⟩, .string ⟨#[]⟩, .string ⟨#[]⟩] #[.string ⟨#[107]⟩, .int .i64 2, .slice (some ⟨w.heap.size + 1, 0, none⟩) 1 1, .int .i64 0, .int .i64 0, .string ⟨#[]⟩, .string ⟨#[]⟩, .string ⟨#[]⟩] (by first | (simp; done) | (simp; omega)) (by intro o; (repeat (refine (World.cell?_alloc_past _ _ _ (by first | (simp; done) | (simp; omega))).trans ?_)); exact World.cell?_alloc_at _ _ _ _ (by simp)) rfl rfl ⟨_, _, rfl, ?n, by unfold Small; decide, by unfold Small; decide, by unfold Small; decide, by unfold Small; decide⟩ (by omega)
      case n => exact slAt_one _ [.string ⟨#[120]⟩] #[.string ⟨#[120]⟩] (by first | (simp; done) | (simp; omega)) (by intro o; (repeat (refine (World.cell?_alloc_past _ _ _ (by first | (simp; done) | (simp; omega))).trans ?_)); exact World.cell?_alloc_at _ _ _ _ (by simp)) rfl rfl ⟨rfl, by unfold Small; decide⟩ (by omega)
end Go.Proofs.Ytodifdofgjfkiaa
/- law07's large: what it lets by is no great thing. -/
namespace Go.Proofs.Ytodifdofgjfkiaa
open Go.RowKit
set_option maxRecDepth 100000
set_option linter.unusedVariables false
def LargeP (w : World) (o : Objs) (e : Ending) (w' : World) : Prop := ∃ b : Bool, e = .returned (.bool b) ∧ (b = false → ModO o) ∧ Aft w w'
def ModTs (l : List Tab) : Prop := ∀ t ∈ l, t.cols.length ≤ 3000 ∧ t.rules.length ≤ 3000 ∧ ∀ r ∈ t.rules, r.cols.length ≤ 3000
theorem ModTs.snoc {l : List Tab} {k : Nat} (hk : k < l.length) (h : ModTs (l.take k)) (h1 : l[k].cols.length ≤ 3000) (h2 : l[k].rules.length ≤ 3000) (h3 : ∀ r ∈ l[k].rules, r.cols.length ≤ 3000) : ModTs (l.take (k + 1)) := by
  intro t ht
  rw [List.take_succ_eq_append_getElem hk, List.mem_append, List.mem_singleton] at ht
  rcases ht with ht | rfl
  · exact h t ht
  · exact ⟨h1, h2, h3⟩
theorem mem_snoc_all {α : Type} {l : List α} {k : Nat} (hk : k < l.length) {P : α → Prop} (h : ∀ r ∈ l.take k, P r) (h1 : P l[k]) : ∀ r ∈ l.take (k + 1), P r := by
  intro r hr
  rw [List.take_succ_eq_append_getElem hk, List.mem_append, List.mem_singleton] at hr
  rcases hr with hr | rfl
  · exact h r hr
  · exact h1
set_option maxHeartbeats 4000000 in
theorem large_mod (o : Objs) (As : Option Addr) (caps : Nat) (At : Option Addr) (capt : Nat) (w : World) (hsch : SlAt w 2 SchR As caps o.schemas) (htab : SlAt w 5 TabR At capt o.tables) :
    Calls Try.prog 15 #[.agg #[.slice As o.schemas.length caps, .slice At o.tables.length capt]] w
      (LargeP w o) := by
  have hlen := hsch.len
  have hlen2 := htab.len
  go_enter Try.func15, Try.ntmps15
  go_wp2_with fail
  go_loopw [3, 4] (fun n i wr => ∃ (k : Nat) (z : Int), k ≤ o.tables.length ∧ n = .int .i64 z ∧ i = .int .i64 k ∧ 0 ≤ z ∧ z ≤ 140737488351232 ∧ (z ≤ 3000 → (o.schemas.length ≤ 3000 ∧ o.tables.length ≤ 3000) ∧ ModTs (o.tables.take k)) ∧ Aft (w.alloc (.cells #[.slice As o.schemas.length caps, .slice At o.tables.length capt] 25)) wr) (fun _ i _ => o.tables.length - (intOf i).toNat)
  case atStart => exact ⟨0, _, Nat.zero_le _, rfl, rfl, by omega, by omega, fun h => ⟨⟨by omega, by omega⟩, fun t ht => by simp at ht⟩, Aft.refl _⟩
  case round =>
    obtain ⟨k, z, hk, rfl, rfl, hz1, hz2, hmod, ha⟩ := hrel
    obtain ⟨hbox, hfr, hz, hzk, HA⟩ := aft_box ha
    have HAB := Lib.hid ha
    have HM := Lib.hid hmod
    clear ha hmod
    by_cases hlt : k < o.tables.length
    · by_cases hz0 : z ≤ 3000
      · obtain ⟨b, off, B2, capB2, B3, capB3, rfl, hb, c0, c1, c2, c3, c4, hcols, hrules, hss⟩ := tab_at (tabs_aft HA.out htab) hlt
        obtain ⟨t, ht0⟩ : ∃ t, o.tables[k] = t := ⟨_, rfl⟩
        rw [ht0] at c0 c1 c2 c3 c4 hcols hrules
        have HT := Lib.hid ht0
        clear ht0 hss
        have hl2 := hcols.len
        have hl3 := hrules.len
        go_wp2_with fail
        go_loop [3, 6] (fun n i => ∃ (m : Nat) (z : Int), m ≤ t.rules.length ∧ n = .int .i64 z ∧ i = .int .i64 m ∧ 0 ≤ z ∧ z ≤ 140737488351232 ∧ (z ≤ 3000 → (t.cols.length ≤ 3000 ∧ t.rules.length ≤ 3000) ∧ ∀ r ∈ t.rules.take m, r.cols.length ≤ 3000)) (fun _ i => t.rules.length - (intOf i).toNat)
        case atStart => exact ⟨0, _, Nat.zero_le _, rfl, rfl, by omega, by omega, fun h => ⟨⟨by omega, by omega⟩, fun r hr => by simp at hr⟩⟩
        case round =>
          obtain ⟨m, z2, hm, rfl, rfl, hy1, hy2, hmod⟩ := hrel
          have HN := Lib.hid hmod
          clear hmod
          by_cases hlt2 : m < t.rules.length
          · by_cases hz2 : z2 ≤ 3000
            · obtain ⟨b3, off3, D2, capD2, rfl, hb3, e0, e1, e2, e3, e4, e5, e6, e7, hcs, hss3⟩ := rul_at hrules hlt2
              have hl4 := hcs.len
              go_wp2_with fail
              go_round
              case rel => exact ⟨m + 1, _, by omega, rfl, by go_num, by omega, by omega, fun h => ⟨(HN.out hz2).1, mem_snoc_all (P := fun r : Rul => r.cols.length ≤ 3000) hlt2 (HN.out hz2).2 (by omega)⟩⟩
              case measure => simp [intOf]; omega
            · go_wp2_with fail
              go_roundw
              case rel => exact ⟨k + 1, _, by omega, rfl, by go_num, hy1, hy2, fun h => absurd h hz2, HAB.out.alloc _⟩
              case measure => simp [intOf]; omega
          · go_wp2_with fail
            go_roundw
            case rel =>
              refine ⟨k + 1, _, by omega, rfl, by go_num, hy1, hy2, fun h => ⟨(HM.out hz0).1, ?_⟩, HAB.out.alloc _⟩
              have hn := HN.out h
              rw [List.take_of_length_le (by omega)] at hn
              exact (HM.out hz0).2.snoc hlt (by rw [HT.out]; exact hn.1.1) (by rw [HT.out]; exact hn.1.2) (by rw [HT.out]; exact hn.2)
            case measure => simp [intOf]; omega
      · go_wp2_with fail
        go_ret
        exact ⟨_, rfl, fun h => absurd h (by first | (simp; done) | (simp; omega)), HA.out⟩
    · go_wp2_with fail
      go_ret
      refine ⟨_, rfl, fun h => ?_, HA.out⟩
      have h3 : z ≤ 3000 := by simpa using h
      obtain ⟨h1, h2⟩ := HM.out h3
      rw [List.take_of_length_le (by omega)] at h2
      exact ⟨by omega, by omega, fun t ht => ⟨by have := (h2 t ht).1; omega, by have := (h2 t ht).2.1; omega, fun r hr => by have := (h2 t ht).2.2 r hr; omega⟩⟩
end Go.Proofs.Ytodifdofgjfkiaa
/- The document's SameTable and Same: of two that hold the same they say yes. -/
namespace Go.Proofs.Ytodifdofgjfkiaa
open Go.RowKit
set_option maxRecDepth 100000
set_option linter.unusedVariables false
@[go_sem ↓] theorem run_neqCol_self (w : World) (s : ByteArray) (k : Int) (b : Bool) :
    (binOp .neq 40 (.agg #[.string s, .int .i64 k, .bool b]) (.agg #[.string s, .int .i64 k, .bool b])).run Try.prog w = .ok (.bool false) w := by
  rw [run_neq_struct]; go_simp; try rfl
@[go_sem ↓] theorem run_neqSch_self (w : World) (s t : ByteArray) :
    (binOp .neq 84 (.agg #[.string s, .string t]) (.agg #[.string s, .string t])).run Try.prog w = .ok (.bool false) w := by
  rw [run_neq_struct]; go_simp; try rfl
theorem box2_rows {w W : World} {c d : List Value} {t u : TypeId} (h : Aft ((w.alloc (.cells c.toArray t)).alloc (.cells d.toArray u)) W) : RowAt W w.heap.size c ∧ RowAt W (w.heap.size + 1) d := by
  obtain ⟨h1, h2, hz, _⟩ := aft_box2 h
  refine ⟨⟨hz.1, fun j hj => by rw [h1]; simp, fun j hj => ?_⟩, ⟨hz.2, fun j hj => by rw [h2]; simp, fun j hj => ?_⟩⟩
  · exact (Below.frozen h (p := ⟨w.heap.size, j, none⟩) (by simp; omega)).trans ((World.frozen?_alloc_past _ _ _ (by simp)).trans (World.frozen?_alloc_at _ _ _ _ rfl))
  · exact (Below.frozen h (p := ⟨w.heap.size + 1, j, none⟩) (by simp)).trans (World.frozen?_alloc_at _ _ _ _ (by simp))
set_option maxHeartbeats 8000000 in
theorem sameT_any (t : Tab) (A : Option Addr) (cap : Nat) (A2 : Option Addr) (cap2 : Nat) (B : Option Addr) (capB : Nat) (B2 : Option Addr) (capB2 : Nat) (w : World) (h1 : SlAt w 3 ColR A cap t.cols) (h2 : SlAt w 8 RulR A2 cap2 t.rules) (h3 : SlAt w 3 ColR B capB t.cols) (h4 : SlAt w 8 RulR B2 capB2 t.rules) :
    Calls Try.prog 22 #[.agg #[.string t.schema, .string t.name, .string t.owner, .slice A t.cols.length cap, .slice A2 t.rules.length cap2], .agg #[.string t.schema, .string t.name, .string t.owner, .slice B t.cols.length capB, .slice B2 t.rules.length capB2]] w
      fun e w' => e = .returned (.bool true) ∧ Aft w w' := by
  have hlen := h1.len
  have hlen2 := h2.len
  obtain ⟨W, hW⟩ : ∃ W, W = (w.alloc (.cells #[.string t.schema, .string t.name, .string t.owner, .slice A t.cols.length cap, .slice A2 t.rules.length cap2] 34)).alloc (.cells #[.string t.schema, .string t.name, .string t.owner, .slice B t.cols.length capB, .slice B2 t.rules.length capB2] 34) := ⟨_, rfl⟩
  have aW : Aft w W := by rw [hW]; exact ((Aft.refl w).alloc _).alloc _
  have hbb := aft_box2 (w := w) (w1 := W) (by rw [← hW]; exact Aft.refl W)
  obtain ⟨ha0, hb0, hz, _⟩ := hbb
  have HAW := Lib.hid aW
  go_enter Try.func22, Try.ntmps22
  go_wp2_with fail
  rw [← hW]
  clear hW
  go_loopw [5] (fun i wr => ∃ k : Nat, k ≤ t.cols.length ∧ i = .int .i64 k ∧ Aft W wr) (fun i _ => t.cols.length - (intOf i).toNat)
  case atStart => exact ⟨0, Nat.zero_le _, rfl, Aft.refl _⟩
  case round =>
    obtain ⟨k, hk, rfl, ha⟩ := hrel
    have x3 := ha.cell_kept (show W.cell? ⟨w.heap.size, 3, none⟩ = some (.slice A t.cols.length cap) from ha0 3)
    have y3 := ha.cell_kept (show W.cell? ⟨w.heap.size + 1, 3, none⟩ = some (.slice B t.cols.length capB) from hb0 3)
    have HAR := Lib.hid ha
    by_cases hlt : k < t.cols.length
    · obtain ⟨b, off, rfl, hb, c0, c1, c2, _⟩ := col_at (cols_aft (HAW.out.trans ha) h1) hlt
      obtain ⟨b2, off2, rfl, hb2, d0, d1, d2, _⟩ := col_at (cols_aft (HAW.out.trans ha) h3) hlt
      have lx := World.block_lt_of_cell? _ _ x3
      have ly := World.block_lt_of_cell? _ _ y3
      clear ha
      go_wp2_with fail
      refine wp_region_lat (by kernel_rfl) (by kernel_rfl) ?_
      repeat (go_big_quiet_step (fail))
      refine wpQuiet_nil ?_
      intro _ hw'
      obtain ⟨x, hw''⟩ := hw'
      subst hw''
      go_wp2_with fail
      go_roundw
      case rel => exact ⟨k + 1, by omega, by go_num, HAR.out.lat x⟩
      case measure => simp [intOf]; omega
    go_wp2_with fail
    go_loopw [6] (fun i wrr => ∃ k : Nat, k ≤ t.rules.length ∧ i = .int .i64 k ∧ Aft W wrr) (fun i _ => t.rules.length - (intOf i).toNat)
    case atStart => exact ⟨0, Nat.zero_le _, rfl, ha⟩
    case round =>
      clear ha HAR x3 y3
      obtain ⟨k2, hk2, rfl, ha⟩ := hrel
      have x4 := ha.cell_kept (show W.cell? ⟨w.heap.size, 4, none⟩ = some (.slice A2 t.rules.length cap2) from ha0 4)
      have y4 := ha.cell_kept (show W.cell? ⟨w.heap.size + 1, 4, none⟩ = some (.slice B2 t.rules.length capB2) from hb0 4)
      have HAR := Lib.hid ha
      by_cases hlt2 : k2 < t.rules.length
      · obtain ⟨b, off, D, capD, rfl, hb, c0, c1, c2, c3, c4, c5, c6, c7, hcs, _⟩ := rul_at (ruls_aft (HAW.out.trans ha) h2) hlt2
        obtain ⟨b2, off2, E, capE, rfl, hb2, d0, d1, d2, d3, d4, d5, d6, d7, hds, _⟩ := rul_at (ruls_aft (HAW.out.trans ha) h4) hlt2
        obtain ⟨p, hpp⟩ : ∃ p, t.rules[k2] = p := ⟨_, rfl⟩
        rw [hpp] at c0 c1 c2 c3 c4 c5 c6 c7 hcs d0 d1 d2 d3 d4 d5 d6 d7 hds
        have hlp := hcs.len
        have lx : w.heap.size < wr.heap.size := World.block_lt_of_cell? _ _ x4
        have ly : w.heap.size + 1 < wr.heap.size := World.block_lt_of_cell? _ _ y4
        have lyy : w.heap.size + 1 < wr.heap.size + 1 := by omega
        have lb2 : b2 < wr.heap.size + 1 := by omega
        obtain ⟨V, hV⟩ : ∃ V, V = (wr.alloc (.cells #[.string p.name, .int .i64 p.kind, .slice D p.cols.length capD, .int .i64 p.low, .int .i64 p.high, .string p.schema, .string p.table, .string p.key] 66)).alloc (.cells #[.string p.name, .int .i64 p.kind, .slice E p.cols.length capE, .int .i64 p.low, .int .i64 p.high, .string p.schema, .string p.table, .string p.key] 66) := ⟨_, rfl⟩
        have aV : Aft wr V := by rw [hV]; exact ((Aft.refl wr).alloc _).alloc _
        obtain ⟨va0, vb0, vz, _⟩ := aft_box2 (w := wr) (w1 := V) (by rw [← hV]; exact Aft.refl V)
        have HAV := Lib.hid (HAR.out.trans aV)
        have hcsV := strs_aft aV hcs
        have hdsV := strs_aft aV hds
        obtain ⟨n1, hn1⟩ : ∃ n, n = wr.heap.size := ⟨_, rfl⟩
        have l1 : wr.heap.size < wr.heap.size + 1 := by omega
        have l2 : wr.heap.size < wr.heap.size + 1 + 1 := by omega
        clear hpp aV
        go_wp2_with fail
        rw [← hV]
        clear hV c0 c1 c2 c3 c4 c5 c6 c7 d0 d1 d2 d3 d4 d5 d6 d7 x4 y4 hcs hds
        have z2 : V.cell? ⟨wr.heap.size, 2, none⟩ = some (.slice D p.cols.length capD) := va0 2
        have u2 : V.cell? ⟨wr.heap.size + 1, 2, none⟩ = some (.slice E p.cols.length capE) := vb0 2
        rw [← hn1] at z2 u2 ⊢
        clear va0 vb0 vz hn1 ha
        go_wp2_with fail
        go_loopw [9] (fun i wrr => ∃ k : Nat, k ≤ p.cols.length ∧ i = .int .i64 k ∧ Aft V wrr) (fun i _ => p.cols.length - (intOf i).toNat)
        case atStart => exact ⟨0, Nat.zero_le _, rfl, Aft.refl _⟩
        case round =>
          obtain ⟨k3, hk3, rfl, ha⟩ := hrel
          have HA3 := Lib.hid ha
          have z2' := ha.cell_kept z2
          have u2' := ha.cell_kept u2
          by_cases hlt3 : k3 < p.cols.length
          · obtain ⟨b5, off5, hD, hb5, g5, _⟩ := str_at (strs_aft ha hcsV) hlt3
            subst hD
            obtain ⟨b6, off6, hE, hb6, g6, _⟩ := str_at (strs_aft ha hdsV) hlt3
            subst hE
            have lz := World.block_lt_of_cell? _ _ z2'
            have lu := World.block_lt_of_cell? _ _ u2'
            clear ha
            go_wp2_with fail
            refine wp_region_lat (by kernel_rfl) (by kernel_rfl) ?_
            repeat (go_big_quiet_step (fail))
            refine wpQuiet_nil ?_
            intro _ hw'
            obtain ⟨x, hw''⟩ := hw'
            subst hw''
            go_wp2_with fail
            go_roundw
            case rel => exact ⟨k3 + 1, by omega, by go_num, HA3.out.lat x⟩
            case measure => simp [intOf]; omega
          · clear ha
            go_wp2_with fail
            go_roundw
            case rel => exact ⟨k2 + 1, by omega, by go_num, HAV.out.trans HA3.out⟩
            case measure => simp [intOf]; omega
      · clear ha
        go_wp2_with fail
        go_ret
        exact ⟨rfl, HAW.out.trans HAR.out⟩
set_option maxHeartbeats 8000000 in
theorem sameO_any (o : Objs) (A : Option Addr) (cap : Nat) (A2 : Option Addr) (cap2 : Nat) (B : Option Addr) (capB : Nat) (B2 : Option Addr) (capB2 : Nat) (w : World) (h1 : SlAt w 2 SchR A cap o.schemas) (h2 : SlAt w 5 TabR A2 cap2 o.tables) (h3 : SlAt w 2 SchR B capB o.schemas) (h4 : SlAt w 5 TabR B2 capB2 o.tables) :
    Calls Try.prog 80 #[.agg #[.slice A o.schemas.length cap, .slice A2 o.tables.length cap2], .agg #[.slice B o.schemas.length capB, .slice B2 o.tables.length capB2]] w
      fun e w' => e = .returned (.bool true) ∧ Aft w w' := by
  have hlen := h1.len
  have hlen2 := h2.len
  obtain ⟨W, hW⟩ : ∃ W, W = (w.alloc (.cells #[.slice A o.schemas.length cap, .slice A2 o.tables.length cap2] 25)).alloc (.cells #[.slice B o.schemas.length capB, .slice B2 o.tables.length capB2] 25) := ⟨_, rfl⟩
  have aW : Aft w W := by rw [hW]; exact ((Aft.refl w).alloc _).alloc _
  obtain ⟨ha0, hb0, hz, _⟩ := aft_box2 (w := w) (w1 := W) (by rw [← hW]; exact Aft.refl W)
  have HAW := Lib.hid aW
  go_enter Try.func80, Try.ntmps80
  go_wp2_with fail
  rw [← hW]
  clear hW
  go_loopw [5] (fun i wr => ∃ k : Nat, k ≤ o.schemas.length ∧ i = .int .i64 k ∧ Aft W wr) (fun i _ => o.schemas.length - (intOf i).toNat)
  case atStart => exact ⟨0, Nat.zero_le _, rfl, Aft.refl _⟩
  case round =>
    obtain ⟨k, hk, rfl, ha⟩ := hrel
    have x3 := ha.cell_kept (show W.cell? ⟨w.heap.size, 0, none⟩ = some (.slice A o.schemas.length cap) from ha0 0)
    have y3 := ha.cell_kept (show W.cell? ⟨w.heap.size + 1, 0, none⟩ = some (.slice B o.schemas.length capB) from hb0 0)
    have HAR := Lib.hid ha
    by_cases hlt : k < o.schemas.length
    · obtain ⟨b, off, rfl, hb, c0, c1, _⟩ := sch_at (schs_aft (HAW.out.trans ha) h1) hlt
      obtain ⟨b2, off2, rfl, hb2, d0, d1, _⟩ := sch_at (schs_aft (HAW.out.trans ha) h3) hlt
      have lx := World.block_lt_of_cell? _ _ x3
      have ly := World.block_lt_of_cell? _ _ y3
      clear ha
      go_wp2_with fail
      refine wp_region_lat (by kernel_rfl) (by kernel_rfl) ?_
      repeat (go_big_quiet_step (fail))
      refine wpQuiet_nil ?_
      intro _ hw'
      obtain ⟨x, hw''⟩ := hw'
      subst hw''
      go_wp2_with fail
      go_roundw
      case rel => exact ⟨k + 1, by omega, by go_num, HAR.out.lat x⟩
      case measure => simp [intOf]; omega
    go_wp2_with fail
    go_loopw [6] (fun i wrr => ∃ k : Nat, k ≤ o.tables.length ∧ i = .int .i64 k ∧ Aft W wrr) (fun i _ => o.tables.length - (intOf i).toNat)
    case atStart => exact ⟨0, Nat.zero_le _, rfl, ha⟩
    case round =>
      clear ha HAR x3 y3
      obtain ⟨k2, hk2, rfl, ha⟩ := hrel
      have x4 := ha.cell_kept (show W.cell? ⟨w.heap.size, 1, none⟩ = some (.slice A2 o.tables.length cap2) from ha0 1)
      have y4 := ha.cell_kept (show W.cell? ⟨w.heap.size + 1, 1, none⟩ = some (.slice B2 o.tables.length capB2) from hb0 1)
      have HAR := Lib.hid ha
      by_cases hlt2 : k2 < o.tables.length
      · obtain ⟨b, off, D, capD, D2, capD2, rfl, hb, c0, c1, c2, c3, c4, hcc, hcr, _⟩ := tab_at (tabs_aft (HAW.out.trans ha) h2) hlt2
        obtain ⟨b2, off2, E, capE, E2, capE2, rfl, hb2, d0, d1, d2, d3, d4, hdc, hdr, _⟩ := tab_at (tabs_aft (HAW.out.trans ha) h4) hlt2
        have lx : w.heap.size < wr.heap.size := World.block_lt_of_cell? _ _ x4
        have ly : w.heap.size + 1 < wr.heap.size := World.block_lt_of_cell? _ _ y4
        have Cs := Lib.hid (show ∀ x : Lat wr, _ from fun x => sameT_any o.tables[k2] D capD D2 capD2 E capE E2 capE2 (lat wr x) (cols_aft ((Aft.refl wr).lat x) hcc) (ruls_aft ((Aft.refl wr).lat x) hcr) (cols_aft ((Aft.refl wr).lat x) hdc) (ruls_aft ((Aft.refl wr).lat x) hdr))
        clear ha hcc hcr hdc hdr
        go_wp2_with fail
        refine wp_region_lat (by kernel_rfl) (by kernel_rfl) ?_
        repeat (go_big_quiet_step ((first | (go_at_call 22; exact Calls.lat_of (Cs.out _)))))
        refine wpQuiet_nil ?_
        intro _ hw'
        obtain ⟨x, hw''⟩ := hw'
        subst hw''
        go_wp2_with fail
        go_roundw
        case rel => exact ⟨k2 + 1, by omega, by go_num, HAR.out.lat x⟩
        case measure => simp [intOf]; omega
      · clear ha
        go_wp2_with fail
        go_ret
        exact ⟨rfl, HAW.out.trans HAR.out⟩
end Go.Proofs.Ytodifdofgjfkiaa
/- law07's told: what came out is the same as what is wanted, and may be written over; what was handed in stays. -/
namespace Go.Proofs.Ytodifdofgjfkiaa
open Go.RowKit
set_option maxRecDepth 100000
set_option linter.unusedVariables false
section
variable {w : World} {B B' g n c i : Nat} {hs : Hd} {L : Lay}
theorem Sh.tcell (s : Sh w B B' hs ⟨some ⟨g, 0, none⟩, n, c⟩ L) (hi : i < n) : w.cell? ⟨g, i * 5 + 3, none⟩ = some (L.col i).v ∧ w.cell? ⟨g, i * 5 + 4, none⟩ = some (L.rul i).v ∧ Blk w B B' g 34 (n * 5) := by
  obtain ⟨g', hg, hb, hc⟩ := s.tab.2.1 (by show 0 < n; omega)
  simp only [Option.some.injEq, Addr.mk.injEq, and_true] at hg
  subst hg
  exact ⟨(hc i hi).1, (hc i hi).2, hb⟩
theorem Sh.ahead {A : Option Addr} (s : Sh w B B' hs ⟨A, n, c⟩ L) (hn : 0 < n) : ∃ g, A = some ⟨g, 0, none⟩ := by
  obtain ⟨g, hg, _⟩ := s.tab.2.1 hn; exact ⟨g, hg⟩
theorem Sh.shead {A : Option Addr} {ht : Hd} (s : Sh w B B' ⟨A, n, c⟩ ht L) (hn : 0 < n) : ∃ g, A = some ⟨g, 0, none⟩ ∧ Blk w B B' g 84 (n * 2) := s.sch.2 hn
theorem Sh.colv {A D : Option Addr} {nc cc : Nat} (s : Sh w B B' hs ⟨A, n, c⟩ L) (hi : i < n) (hL : L.col i = ⟨D, nc, cc⟩) : nc * 16 ≤ 140737488351232 ∧ (0 < nc → ∃ g, D = some ⟨g, 0, none⟩ ∧ Blk w B B' g 40 (nc * 3)) := by
  have := (s.tab.2.2 i hi).1; rw [hL] at this; exact this
theorem Sh.rulv {A D : Option Addr} {nc cc : Nat} (s : Sh w B B' hs ⟨A, n, c⟩ L) (hi : i < n) (hL : L.rul i = ⟨D, nc, cc⟩) : nc * 16 ≤ 140737488351232 ∧ (0 < nc → ∃ g, D = some ⟨g, 0, none⟩ ∧ Blk w B B' g 66 (nc * 8) ∧ ∀ j, j < nc → w.cell? ⟨g, j * 8 + 2, none⟩ = some (L.nam i j).v) ∧ ∀ j, j < nc → ShV w B B' 9 1 (L.nam i j) := by
  have := (s.tab.2.2 i hi).2; rw [hL] at this; exact this
end
set_option maxHeartbeats 8000000 in
theorem told_any (X o : Objs) (A : Option Addr) (cap : Nat) (A2 : Option Addr) (cap2 : Nat) (D : Option Addr) (capD : Nat) (D2 : Option Addr) (capD2 : Nat) (E : Option Addr) (capE : Nat) (E2 : Option Addr) (capE2 : Nat) (F : Option Addr) (capF : Nat) (F2 : Option Addr) (capF2 : Nat) (e : Int) (W0 w : World) (B B' : Nat) (L : Lay)
    (hB : W0.heap.size ≤ B) (hB' : B' ≤ w.heap.size) (a0 : Aft W0 w) (g1 : SlAt w 2 SchR A cap X.schemas) (g2 : SlAt w 5 TabR A2 cap2 X.tables) (d1 : SlAt w 2 SchR D capD X.schemas) (d2 : SlAt w 5 TabR D2 capD2 X.tables)
    (o1 : SlAt W0 2 SchR E capE o.schemas) (o2 : SlAt W0 5 TabR E2 capE2 o.tables) (f1 : SlAt W0 2 SchR F capF o.schemas) (f2 : SlAt W0 5 TabR F2 capF2 o.tables) (sh : Sh w B B' ⟨A, X.schemas.length, cap⟩ ⟨A2, X.tables.length, cap2⟩ L) :
    Calls Try.prog 26 #[.agg #[.slice A X.schemas.length cap, .slice A2 X.tables.length cap2], .int .i64 e, .agg #[.slice D X.schemas.length capD, .slice D2 X.tables.length capD2], .int .i64 e, .agg #[.slice E o.schemas.length capE, .slice E2 o.tables.length capE2], .agg #[.slice F o.schemas.length capF, .slice F2 o.tables.length capF2]] w
      fun e' w' => e' = .returned (.bool true) ∧ Kp B B' w w' := by
  have hlen := g1.len
  have hlen2 := g2.len
  have Cs := Lib.hid (show ∀ w', Aft w w' → _ from fun w' a => sameO_any X A cap A2 cap2 D capD D2 capD2 w' (schs_aft a g1) (tabs_aft a g2) (schs_aft a d1) (tabs_aft a d2))
  have Co := Lib.hid (show ∀ w', Aft W0 w' → _ from fun w' a => sameO_any o E capE E2 capE2 F capF F2 capF2 w' (schs_aft a o1) (tabs_aft a o2) (schs_aft a f1) (tabs_aft a f2))
  have HA0 := Lib.hid a0
  have HSH := Lib.hid sh
  obtain ⟨n0, hn0⟩ : ∃ n, n = w.heap.size := ⟨_, rfl⟩
  obtain ⟨W, hW⟩ : ∃ W, W = (((w.alloc (.cells #[.slice A X.schemas.length cap, .slice A2 X.tables.length cap2] 25)).alloc (.cells #[.slice D X.schemas.length capD, .slice D2 X.tables.length capD2] 25)).alloc (.cells #[.slice E o.schemas.length capE, .slice E2 o.tables.length capE2] 25)).alloc (.cells #[.slice F o.schemas.length capF, .slice F2 o.tables.length capF2] 25) := ⟨_, rfl⟩
  have aW : Aft w W := by rw [hW]; exact ((((Aft.refl w).alloc _).alloc _).alloc _).alloc _
  have bg0 : W.cell? ⟨w.heap.size, 0, none⟩ = some (.slice A X.schemas.length cap) := by
    rw [hW]; (repeat (refine (World.cell?_alloc_past _ _ _ (by first | (simp; done) | (simp; omega))).trans ?_)); exact World.cell?_alloc_at _ _ _ _ (by simp)
  have bg1 : W.cell? ⟨w.heap.size, 1, none⟩ = some (.slice A2 X.tables.length cap2) := by
    rw [hW]; (repeat (refine (World.cell?_alloc_past _ _ _ (by first | (simp; done) | (simp; omega))).trans ?_)); exact World.cell?_alloc_at _ _ _ _ (by simp)
  have bo0 : W.cell? ⟨w.heap.size + 1 + 1, 0, none⟩ = some (.slice E o.schemas.length capE) := by
    rw [hW]; (repeat (refine (World.cell?_alloc_past _ _ _ (by first | (simp; done) | (simp; omega))).trans ?_)); exact World.cell?_alloc_at _ _ _ _ (by simp)
  have bo1 : W.cell? ⟨w.heap.size + 1 + 1, 1, none⟩ = some (.slice E2 o.tables.length capE2) := by
    rw [hW]; (repeat (refine (World.cell?_alloc_past _ _ _ (by first | (simp; done) | (simp; omega))).trans ?_)); exact World.cell?_alloc_at _ _ _ _ (by simp)
  have bf0 : W.cell? ⟨w.heap.size + 1 + 1 + 1, 0, none⟩ = some (.slice F o.schemas.length capF) := by
    rw [hW]; (repeat (refine (World.cell?_alloc_past _ _ _ (by first | (simp; done) | (simp; omega))).trans ?_)); exact World.cell?_alloc_at _ _ _ _ (by simp)
  have bf1 : W.cell? ⟨w.heap.size + 1 + 1 + 1, 1, none⟩ = some (.slice F2 o.tables.length capF2) := by
    rw [hW]; (repeat (refine (World.cell?_alloc_past _ _ _ (by first | (simp; done) | (simp; omega))).trans ?_)); exact World.cell?_alloc_at _ _ _ _ (by simp)
  have bd0 : W.cell? ⟨w.heap.size + 1, 0, none⟩ = some (.slice D X.schemas.length capD) := by
    rw [hW]; (repeat (refine (World.cell?_alloc_past _ _ _ (by first | (simp; done) | (simp; omega))).trans ?_)); exact World.cell?_alloc_at _ _ _ _ (by simp)
  have bd1 : W.cell? ⟨w.heap.size + 1, 1, none⟩ = some (.slice D2 X.tables.length capD2) := by
    rw [hW]; (repeat (refine (World.cell?_alloc_past _ _ _ (by first | (simp; done) | (simp; omega))).trans ?_)); exact World.cell?_alloc_at _ _ _ _ (by simp)
  have l1 : w.heap.size < w.heap.size + 1 := by omega
  have l2 : w.heap.size < w.heap.size + 1 + 1 := by omega
  have l3 : w.heap.size < w.heap.size + 1 + 1 + 1 := by omega
  have l4 : w.heap.size < w.heap.size + 1 + 1 + 1 + 1 := by omega
  clear g1 g2 d1 d2 o1 o2 f1 f2 sh a0
  go_enter Try.func26, Try.ntmps26
  go_wp2_with fail
  rw [← hW]
  refine (Cs.out W aW).mono ?_
  rintro e' w1 ⟨rfl, a1⟩
  have HKW := Lib.hid (show Kp B B' w W from Kp.of_aft aW)
  have HK1 := Lib.hid (show Kp B B' W w1 from Kp.of_aft a1)
  have HS1 := Lib.hid (HSH.out.aft (aW.trans a1))
  rw [← hn0] at bg0 bg1 bo0 bo1 bf0 bf1 hB' ⊢
  have HG := Lib.hid (show ∀ v : World, Kp B B' W v → v.cell? ⟨n0, 0, none⟩ = some (.slice A X.schemas.length cap) ∧ v.cell? ⟨n0, 1, none⟩ = some (.slice A2 X.tables.length cap2) ∧ v.cell? ⟨n0 + 1 + 1, 0, none⟩ = some (.slice E o.schemas.length capE) ∧ v.cell? ⟨n0 + 1 + 1, 1, none⟩ = some (.slice E2 o.tables.length capE2) ∧ v.cell? ⟨n0 + 1 + 1 + 1, 0, none⟩ = some (.slice F o.schemas.length capF) ∧ v.cell? ⟨n0 + 1 + 1 + 1, 1, none⟩ = some (.slice F2 o.tables.length capF2) from
    fun v k => ⟨k.cell bg0 (.inr hB'), k.cell bg1 (.inr hB'), k.cell bo0 (.inr (by show B' ≤ n0 + 1 + 1; omega)), k.cell bo1 (.inr (by show B' ≤ n0 + 1 + 1; omega)), k.cell bf0 (.inr (by show B' ≤ n0 + 1 + 1 + 1; omega)), k.cell bf1 (.inr (by show B' ≤ n0 + 1 + 1 + 1; omega))⟩)
  clear bg0 bg1 bo0 bo1 bf0 bf1 bd0 bd1 a1 aW hW Cs hn0 l1 l2 l3 l4
  go_wp2_with fail
  go_loopw [14] (fun i wrr => ∃ k : Nat, k ≤ X.tables.length ∧ i = .int .i64 k ∧ Kp B B' W wrr ∧ Sh wrr B B' ⟨A, X.schemas.length, cap⟩ ⟨A2, X.tables.length, cap2⟩ L) (fun i _ => X.tables.length - (intOf i).toNat)
  case atStart => exact ⟨0, Nat.zero_le _, rfl, HK1.out, HS1.out⟩
  case round =>
    clear HK1 HS1
    obtain ⟨k, hk, rfl, hkp, hsh⟩ := hrel
    obtain ⟨x0, x1, x2, x3, x4, x5⟩ := HG.out _ hkp
    have lx : n0 < wr.heap.size := World.block_lt_of_cell? _ _ x0
    have HK := Lib.hid hkp
    have HS := Lib.hid hsh
    by_cases hlt : k < X.tables.length
    · obtain ⟨g, hg⟩ := hsh.ahead (by omega)
      subst hg
      obtain ⟨t3, t4, tb⟩ := hsh.tcell hlt
      obtain ⟨hc, hcc⟩ : ∃ h, L.col k = h := ⟨_, rfl⟩
      obtain ⟨Ac, nc, cc⟩ := hc
      obtain ⟨hr, hrr⟩ : ∃ h, L.rul k = h := ⟨_, rfl⟩
      obtain ⟨Ar, nr, cr⟩ := hr
      have HCC := Lib.hid hcc
      have HRR := Lib.hid hrr
      have bc := (hsh.colv hlt hcc).1
      have br := (hsh.rulv hlt hrr).1
      have HT := Lib.hid (show ∀ v : World, Sh v B B' ⟨A, X.schemas.length, cap⟩ ⟨some ⟨g, 0, none⟩, X.tables.length, cap2⟩ L → v.cell? ⟨g, k * 5 + 3, none⟩ = some (.slice Ac nc cc) ∧ v.cell? ⟨g, k * 5 + 4, none⟩ = some (.slice Ar nr cr) ∧ Blk v B B' g 34 (X.tables.length * 5) from fun v s => by
        obtain ⟨q3, q4, q5⟩ := s.tcell hlt
        rw [hcc] at q3; rw [hrr] at q4
        exact ⟨q3, q4, q5⟩)
      clear t3 t4 tb hcc hrr hkp hsh
      obtain ⟨t3, t4, tb⟩ := HT.out _ HS.out
      have lt := tb.lt
      go_wp2_with fail
      go_loopw [15] (fun i wrr => ∃ m : Nat, m ≤ nc ∧ i = .int .i64 m ∧ Kp B B' W wrr ∧ Sh wrr B B' ⟨A, X.schemas.length, cap⟩ ⟨some ⟨g, 0, none⟩, X.tables.length, cap2⟩ L) (fun i _ => nc - (intOf i).toNat)
      case atStart => exact ⟨0, Nat.zero_le _, rfl, HK.out, HS.out⟩
      case round =>
        clear x0 x1 x2 x3 x4 x5 lx t3 t4 tb lt HK HS
        obtain ⟨m, hm, rfl, hkp, hsh⟩ := hrel
        obtain ⟨x0, x1, x2, x3, x4, x5⟩ := HG.out _ hkp
        have lx : n0 < wr.heap.size := World.block_lt_of_cell? _ _ x0
        obtain ⟨t3, t4, tb⟩ := HT.out _ hsh
        have lt := tb.lt
        have HK := Lib.hid hkp
        have HS := Lib.hid hsh
        by_cases hlt2 : m < nc
        · obtain ⟨gc, hgc, bk⟩ := (hsh.colv hlt HCC.out).2 (by omega)
          subst hgc
          obtain ⟨u, hu⟩ := bk.cell (j := m * 3) (by omega)
          have fu := bk.free (m * 3)
          have lu := bk.lt
          have HN := Lib.hid (hsh.set (bk.ok (m * 3) (fun h => by cases h) (fun h => by cases h)) (.string ⟨#[111, 118, 101, 114]⟩))
          have HN2 := Lib.hid (hkp.set ⟨gc, m * 3, none⟩ (.string ⟨#[111, 118, 101, 114]⟩) bk.1 bk.2.1)
          clear hkp hsh
          go_wp2_with fail
          go_roundw
          case rel => exact ⟨m + 1, by omega, by go_num, HN2.out, HN.out⟩
          case measure => simp [intOf]; omega
        clear hkp hsh
        go_wp2_with fail
        go_loopw [16] (fun i wrr => ∃ m : Nat, m ≤ nr ∧ i = .int .i64 m ∧ Kp B B' W wrr ∧ Sh wrr B B' ⟨A, X.schemas.length, cap⟩ ⟨some ⟨g, 0, none⟩, X.tables.length, cap2⟩ L) (fun i _ => nr - (intOf i).toNat)
        case atStart => exact ⟨0, Nat.zero_le _, rfl, HK.out, HS.out⟩
        case round =>
          clear x0 x1 x2 x3 x4 x5 lx t3 t4 tb lt HK HS
          obtain ⟨m2, hm2, rfl, hkp, hsh⟩ := hrel
          obtain ⟨x0, x1, x2, x3, x4, x5⟩ := HG.out _ hkp
          have lx : n0 < wr.heap.size := World.block_lt_of_cell? _ _ x0
          obtain ⟨t3, t4, tb⟩ := HT.out _ hsh
          have lt := tb.lt
          have HK := Lib.hid hkp
          have HS := Lib.hid hsh
          by_cases hlt3 : m2 < nr
          · obtain ⟨gr, hgr, bk, hnm⟩ := (hsh.rulv hlt HRR.out).2.1 (by omega)
            subst hgr
            obtain ⟨hn, hnn⟩ : ∃ h, L.nam k m2 = h := ⟨_, rfl⟩
            obtain ⟨An, nn, cn⟩ := hn
            have bn := ((hsh.rulv hlt HRR.out).2.2 m2 hlt3).1
            rw [hnn] at bn
            have bn' : nn * 16 ≤ 140737488351232 := bn
            have HR := Lib.hid (show ∀ v : World, Sh v B B' ⟨A, X.schemas.length, cap⟩ ⟨some ⟨g, 0, none⟩, X.tables.length, cap2⟩ L → v.cell? ⟨gr, m2 * 8 + 2, none⟩ = some (.slice An nn cn) ∧ Blk v B B' gr 66 (nr * 8) ∧ (0 < nn → ∃ gn, An = some ⟨gn, 0, none⟩ ∧ Blk v B B' gn 9 (nn * 1)) from fun v s => by
              obtain ⟨gr', h1, h2, h3⟩ := (s.rulv hlt HRR.out).2.1 (by omega)
              simp only [Option.some.injEq, Addr.mk.injEq, and_true] at h1
              subst h1
              have h4 := (s.rulv hlt HRR.out).2.2 m2 hlt3
              have h5 := h3 m2 hlt3
              rw [hnn] at h4 h5
              exact ⟨h5, h2, h4.2⟩)
            clear bk hnm hnn bn hkp hsh
            obtain ⟨r2, rb, _⟩ := HR.out _ HS.out
            have lr := rb.lt
            go_wp2_with fail
            go_loopw [17] (fun i wrr => ∃ q : Nat, q ≤ nn ∧ i = .int .i64 q ∧ Kp B B' W wrr ∧ Sh wrr B B' ⟨A, X.schemas.length, cap⟩ ⟨some ⟨g, 0, none⟩, X.tables.length, cap2⟩ L) (fun i _ => nn - (intOf i).toNat)
            case atStart => exact ⟨0, Nat.zero_le _, rfl, HK.out, HS.out⟩
            case round =>
              clear x0 x1 x2 x3 x4 x5 lx t3 t4 tb lt HK HS r2 rb lr
              obtain ⟨q, hq, rfl, hkp, hsh⟩ := hrel
              obtain ⟨x0, x1, x2, x3, x4, x5⟩ := HG.out _ hkp
              have lx : n0 < wr.heap.size := World.block_lt_of_cell? _ _ x0
              obtain ⟨t3, t4, tb⟩ := HT.out _ hsh
              have lt := tb.lt
              obtain ⟨r2, rb, rn⟩ := HR.out _ hsh
              have lr := rb.lt
              have HK := Lib.hid hkp
              have HS := Lib.hid hsh
              by_cases hlt4 : q < nn
              · obtain ⟨gn, hgn, bk⟩ := rn (by omega)
                subst hgn
                obtain ⟨u, hu⟩ := bk.cell (j := q) (by omega)
                have fu := bk.free q
                have lu := bk.lt
                have HN := Lib.hid (hsh.set (bk.ok q (fun h => by cases h) (fun h => by cases h)) (.string ⟨#[111, 118, 101, 114]⟩))
                have HN2 := Lib.hid (hkp.set ⟨gn, q, none⟩ (.string ⟨#[111, 118, 101, 114]⟩) bk.1 bk.2.1)
                clear hkp hsh rn
                go_wp2_with fail
                go_roundw
                case rel => exact ⟨q + 1, by omega, by go_num, HN2.out, HN.out⟩
                case measure => simp [intOf]; omega
              · obtain ⟨u, hu⟩ := rb.cell (j := m2 * 8) (by omega)
                have fu := rb.free (m2 * 8)
                have HN := Lib.hid (hsh.set (rb.ok (m2 * 8) (fun _ => by omega) (fun h => by cases h)) (.string ⟨#[111, 118, 101, 114]⟩))
                have HN2 := Lib.hid (hkp.set ⟨gr, m2 * 8, none⟩ (.string ⟨#[111, 118, 101, 114]⟩) rb.1 rb.2.1)
                clear hkp hsh rn
                go_wp2_with fail
                go_roundw
                case rel => exact ⟨m2 + 1, by omega, by go_num, HN2.out, HN.out⟩
                case measure => simp [intOf]; omega
          · obtain ⟨u, hu⟩ := tb.cell (j := k * 5 + 1) (by omega)
            have fu := tb.free (k * 5 + 1)
            have HN := Lib.hid (hsh.set (tb.ok (k * 5 + 1) (fun h => by cases h) (fun _ => by omega)) (.string ⟨#[111, 118, 101, 114]⟩))
            have HN2 := Lib.hid (hkp.set ⟨g, k * 5 + 1, none⟩ (.string ⟨#[111, 118, 101, 114]⟩) tb.1 tb.2.1)
            clear hkp hsh
            go_wp2_with fail
            go_roundw
            case rel => exact ⟨k + 1, by omega, by go_num, HN2.out, HN.out⟩
            case measure => simp [intOf]; omega
    clear hkp hsh
    go_wp2_with fail
    go_loopw [18] (fun i wrr => ∃ m : Nat, m ≤ X.schemas.length ∧ i = .int .i64 m ∧ Kp B B' W wrr ∧ Sh wrr B B' ⟨A, X.schemas.length, cap⟩ ⟨A2, X.tables.length, cap2⟩ L) (fun i _ => X.schemas.length - (intOf i).toNat)
    case atStart => exact ⟨0, Nat.zero_le _, rfl, HK.out, HS.out⟩
    case round =>
      clear x0 x1 x2 x3 x4 x5 lx HK HS
      obtain ⟨m, hm, rfl, hkp, hsh⟩ := hrel
      obtain ⟨x0, x1, x2, x3, x4, x5⟩ := HG.out _ hkp
      have lx : n0 < wr.heap.size := World.block_lt_of_cell? _ _ x0
      have HK := Lib.hid hkp
      by_cases hlt2 : m < X.schemas.length
      · obtain ⟨gs, hgs, bk⟩ := hsh.shead (by omega)
        subst hgs
        obtain ⟨u, hu⟩ := bk.cell (j := m * 2) (by omega)
        have fu := bk.free (m * 2)
        have lu := bk.lt
        have HN := Lib.hid (hsh.set (bk.ok (m * 2) (fun h => by cases h) (fun h => by cases h)) (.string ⟨#[111, 118, 101, 114]⟩))
        have HN2 := Lib.hid (hkp.set ⟨gs, m * 2, none⟩ (.string ⟨#[111, 118, 101, 114]⟩) bk.1 bk.2.1)
        clear hkp hsh
        go_wp2_with fail
        go_roundw
        case rel => exact ⟨m + 1, by omega, by go_num, HN2.out, HN.out⟩
        case measure => simp [intOf]; omega
      · have Ce := Lib.hid (Co.out wr ((HKW.out.trans hkp).to_aft HA0.out hB))
        have lx2 : n0 + 1 + 1 < wr.heap.size := World.block_lt_of_cell? _ _ x2
        have lx3 : n0 + 1 + 1 + 1 < wr.heap.size := World.block_lt_of_cell? _ _ x4
        clear hkp hsh
        go_wp2_with fail
        refine Ce.out.mono ?_
        rintro e' w9 ⟨rfl, a9⟩
        have HK9 := Lib.hid ((HKW.out.trans HK.out).aft a9)
        clear a9
        go_wp2_with fail
        go_ret
        exact ⟨rfl, HK9.out⟩
end Go.Proofs.Ytodifdofgjfkiaa
/- The law ObjectsFinds, walked. -/
namespace Go.Proofs.Ytodifdofgjfkiaa
open Go.RowKit Go.Deep
set_option maxRecDepth 100000
set_option linter.unusedVariables false
theorem one_s : findR oneO ⟨#[115]⟩ ⟨#[116]⟩ = (oneO.tables[0]'(by decide), 0) := findR_some (q := 0) oneO_ok (by decide +kernel) (by decide)
theorem one_u : findR oneO ⟨#[115]⟩ ⟨#[117]⟩ = (zeroT, 61) := findR_none oneO_ok (by decide +kernel)
def FoundOne (w : World) (e : Ending) (w' : World) : Prop := ∃ A c A2 c2, e = .returned (.tuple #[.agg #[.string ⟨#[115]⟩, .string ⟨#[116]⟩, .string ⟨#[111]⟩, .slice A 2 c, .slice A2 1 c2], .int .i64 0]) ∧ Aft w w'
def FoundNo (w : World) (e : Ending) (w' : World) : Prop := ∃ A c A2 c2, e = .returned (.tuple #[.agg #[.string ⟨#[]⟩, .string ⟨#[]⟩, .string ⟨#[]⟩, .slice A 0 c, .slice A2 0 c2], .int .i64 61]) ∧ Aft w w'
theorem find_one (As : Option Addr) (caps : Nat) (At : Option Addr) (capt : Nat) (w : World) (h1 : SlAt w 2 SchR As caps oneO.schemas) (h2 : SlAt w 5 TabR At capt oneO.tables) : Calls Try.prog 20 #[.agg #[.slice As 1 caps, .slice At 1 capt], .string ⟨#[115]⟩, .string ⟨#[116]⟩] w (FoundOne w) :=
  (find_in oneO As caps At capt ⟨#[115]⟩ ⟨#[116]⟩ w h1 h2).mono fun e w' ⟨x, hx, he, a, _⟩ => ⟨_, _, _, _, he.trans (by rw [one_s]; rfl), a⟩
theorem find_no (As : Option Addr) (caps : Nat) (At : Option Addr) (capt : Nat) (w : World) (h1 : SlAt w 2 SchR As caps oneO.schemas) (h2 : SlAt w 5 TabR At capt oneO.tables) : Calls Try.prog 20 #[.agg #[.slice As 1 caps, .slice At 1 capt], .string ⟨#[115]⟩, .string ⟨#[117]⟩] w (FoundNo w) :=
  (find_in oneO As caps At capt ⟨#[115]⟩ ⟨#[117]⟩ w h1 h2).mono fun e w' ⟨x, hx, he, a, _⟩ => ⟨_, _, _, _, he.trans (by rw [one_u]; rfl), a⟩
set_option maxHeartbeats 4000000 in
theorem finds_any (w : World) : Calls Try.prog 25 #[] w fun e w' => e = .returned (.bool true) ∧ Aft w w' := by
  go_enter Try.func25, Try.ntmps25
  go_wp2_with fail
  refine (one_any _).mono ?_
  rintro e w1 ⟨As, caps, At, capt, rfl, a1, h1, h2⟩
  have C1 := Lib.hid (find_one As caps At capt w1 h1 h2)
  have HA1 := Lib.hid a1
  clear a1 h1 h2
  go_wp2_with fail
  refine C1.out.mono ?_
  rintro e w2 ⟨A, c, A2, c2, rfl, a2⟩
  have HA2 := Lib.hid (HA1.out.trans a2)
  clear a2 C1
  go_wp2_with fail
  refine (one_any _).mono ?_
  rintro e w3 ⟨As, caps, At, capt, rfl, a3, h1, h2⟩
  obtain ⟨hbox, hfr, hz, hzk, HA3⟩ := aft_box a3
  have C2 := Lib.hid (find_no As caps At capt w3 h1 h2)
  clear a3 h1 h2
  go_wp2_with fail
  refine C2.out.mono ?_
  rintro e w4 ⟨B, d, B2, d2, rfl, a4⟩
  obtain ⟨hbox4, hfr4, hz4, _⟩ := box_aft hbox hfr hz.1 a4
  have HA4 := Lib.hid (HA2.out.trans (HA3.out.trans a4))
  clear a4 C2 hbox hfr hz hzk
  go_wp2_with fail
  go_ret
  exact ⟨rfl, HA4.out.alloc _⟩
theorem smT_owner {t : Tab} {v : ByteArray} (h : SmT t) (hv : Small v.size) : SmT { t with owner := v } := ⟨h.1, h.2.1, h.2.2.1, h.2.2.2.1, hv⟩
theorem smO_zero : SmO zeroO := ⟨⟨by simp [zeroO, Small], fun s hs => by simp [zeroO] at hs⟩, by simp [zeroO, Small], fun t ht => by simp [zeroO] at ht⟩
theorem smO_set {o : Objs} {q : Nat} {t : Tab} (h : SmO o) (ht : SmT t) : SmO ⟨o.schemas, o.tables.set q t⟩ := by
  refine ⟨h.1, by rw [List.length_set]; exact h.2.1, fun x hx => ?_⟩
  by_cases hq : q < o.tables.length
  · rcases mem_set_cases hq hx with rfl | ⟨i, hi, _, rfl⟩
    · exact ht
    · exact h.2.2 _ (List.getElem_mem hi)
  · have hx' : x ∈ o.tables.set q t := hx
    rw [List.set_eq_of_length_le (by omega)] at hx'
    exact h.2.2 x hx'
theorem smO_tabR {o : Objs} {s n : ByteArray} {f : Tab → Tab × Int} (h : SmO o) (hf : ∀ t ∈ o.tables, (f t).2 = 0 → SmT (f t).1) : SmO (tabR o s n f).1 := by
  unfold tabR
  split
  · rename_i t ht
    split
    · exact smO_zero
    · split
      · rename_i hz; exact smO_set h (hf t (List.mem_of_getElem? ht) hz)
      · exact smO_zero
  · exact smO_zero
theorem smO_chg {o : Objs} {r : Objs × Int} (h : SmO r.1) : SmO (chgR o r).1 := by
  unfold chgR; split
  · exact h
  · exact smO_zero
theorem smO_setOwn {o : Objs} {s n v : ByteArray} (h : SmO o) (hv : Small v.size) : SmO (setOwnR o s n v).1 := by
  unfold setOwnR
  split
  · split
    · exact smO_tabR h fun t ht _ => smT_owner (h.2.2 t ht) hv
    · exact smO_zero
  · exact smO_zero
theorem smT_zero : SmT zeroT := by
  refine ⟨⟨by simp [zeroT, Small], fun c hc => by simp [zeroT] at hc⟩, ⟨by simp [zeroT, Small], fun c hc => by simp [zeroT] at hc⟩, ?_, ?_, ?_⟩ <;> simp [zeroT, Small, ByteArray.size]
theorem smT_find {o : Objs} {s n : ByteArray} (h : SmO o) : SmT (findR o s n).1 := by
  unfold findR
  split
  · split
    · rename_i t ht
      split
      · exact smT_zero
      · exact h.2.2 t (List.mem_of_getElem? ht)
    · exact smT_zero
  · exact smT_zero
/-- told, of what came out of both -/
theorem told_in (r : Objs × Int) (o : Objs) (E : Option Addr) (capE : Nat) (E2 : Option Addr) (capE2 : Nat) (F : Option Addr) (capF : Nat) (F2 : Option Addr) (capF2 : Nat) (hs ht hs2 ht2 : Hd) (L L2 : List OTab) (W0 w : World) (B B2 : Nat) (sm : SmO r.1)
    (hL : L.map OTab.t = r.1.tables) (ob : ObjIn w B hs ht r.1.schemas L) (hL2 : L2.map OTab.t = r.1.tables) (ob2 : ObjIn w B2 hs2 ht2 r.1.schemas L2) (hB : W0.heap.size ≤ B) (a0 : Aft W0 w)
    (o1 : SlAt W0 2 SchR E capE o.schemas) (o2 : SlAt W0 5 TabR E2 capE2 o.tables) (f1 : SlAt W0 2 SchR F capF o.schemas) (f2 : SlAt W0 5 TabR F2 capF2 o.tables) :
    Calls Try.prog 26 #[.agg #[.slice hs.a r.1.schemas.length hs.c, .slice ht.a r.1.tables.length ht.c], .int .i64 r.2, .agg #[.slice hs2.a r.1.schemas.length hs2.c, .slice ht2.a r.1.tables.length ht2.c], .int .i64 r.2, .agg #[.slice E o.schemas.length capE, .slice E2 o.tables.length capE2], .agg #[.slice F o.schemas.length capF, .slice F2 o.tables.length capF2]] w
      fun e' w' => e' = .returned (.bool true) ∧ Kp B w.heap.size w w' ∧ Aft W0 w' := by
  have e1 : objOf r.1.schemas L = r.1 := by unfold objOf; rw [hL]
  have e2 : objOf r.1.schemas L2 = r.1 := by unfold objOf; rw [hL2]
  have g1 := ob.schs (by rw [e1]; exact sm)
  have g2 := ob.tabs (by rw [e1]; exact sm)
  have d1 := ob2.schs (by rw [e2]; exact sm)
  have d2 := ob2.tabs (by rw [e2]; exact sm)
  rw [hL] at g2
  rw [hL2] at d2
  have n1 : hs.n = r.1.schemas.length := own_n ob.sch
  have n2 : ht.n = r.1.tables.length := by rw [own_n ob.tab, ← hL]; simp
  have sh := ob.sh (by rw [e1]; exact sm)
  obtain ⟨ha, hn, hc⟩ := hs
  obtain ⟨ta, tn, tc⟩ := ht
  have n1' : hn = r.1.schemas.length := n1
  have n2' : tn = r.1.tables.length := n2
  subst n1' n2'
  exact (told_any r.1 o _ _ _ _ _ _ _ _ E capE E2 capE2 F capF F2 capF2 r.2 W0 w B w.heap.size (layOf L) hB (Nat.le_refl _) a0 g1 g2 d1 d2 o1 o2 f1 f2 sh).mono fun e w' ⟨he, hk⟩ => ⟨he, hk, hk.to_aft a0 hB⟩
set_option maxHeartbeats 16000000 in
theorem law_finds (o : Objs) (s n v : ByteArray) (As : Option Addr) (caps : Nat) (At : Option Addr) (capt : Nat) (w : World) (hsch : SlAt w 2 SchR As caps o.schemas) (htab : SlAt w 5 TabR At capt o.tables) (hv : Small v.size) :
    Calls Try.prog 4 #[.agg #[.slice As o.schemas.length caps, .slice At o.tables.length capt], .string s, .string n, .string v] w
      fun e w' => e = .returned (.bool true) ∧ Aft w w' := by
  have sm : SmO o := ⟨sm_schs hsch, sm_tabs htab⟩
  have CL := Lib.hid (show ∀ w', Aft w w' → _ from fun w' a => large_mod o As caps At capt w' (schs_aft a hsch) (tabs_aft a htab))
  obtain ⟨⟨p, c⟩, hfr⟩ : ∃ fr, findR o s n = fr := ⟨_, rfl⟩
  obtain ⟨⟨X, g⟩, hXr⟩ : ∃ fr, setOwnR o s n v = fr := ⟨_, rfl⟩
  have HSP := Lib.hid (show SmT p by have := smT_find (s := s) (n := n) sm; rw [hfr] at this; exact this)
  have HSX := Lib.hid (show SmO X by have := smO_setOwn (s := s) (n := n) sm hv; rw [hXr] at this; exact this)
  have CF := Lib.hid (show ∀ w', Aft w w' → Calls Try.prog 20 #[.agg #[.slice As o.schemas.length caps, .slice At o.tables.length capt], .string s, .string n] w' (FindP w' (p, c)) from fun w' a => hfr ▸ find_in o As caps At capt s n w' (schs_aft a hsch) (tabs_aft a htab))
  have CF2 := Lib.hid (show ∀ (A : Option Addr) (ca : Nat) (A2 : Option Addr) (ca2 : Nat) (w' : World), SlAt w' 2 SchR A ca o.schemas → SlAt w' 5 TabR A2 ca2 o.tables → Calls Try.prog 21 #[.agg #[.slice A o.schemas.length ca, .slice A2 o.tables.length ca2], .string s, .string n] w' (FindP w' (p, c)) from fun A ca A2 ca2 w' h1 h2 => hfr ▸ rFind_in o A ca A2 ca2 s n w' h1 h2)
  have CS := Lib.hid (show ∀ w', Aft w w' → Calls Try.prog 23 #[.agg #[.slice As o.schemas.length caps, .slice At o.tables.length capt], .string s, .string n, .string v] w' (ObjP w' (X, g)) from fun w' a => hXr ▸ setOwner_in o As caps At capt s n v w' (schs_aft a hsch) (tabs_aft a htab) hv.max)
  have CS2 := Lib.hid (show ∀ (A : Option Addr) (ca : Nat) (A2 : Option Addr) (ca2 : Nat) (w' : World), SlAt w' 2 SchR A ca o.schemas → SlAt w' 5 TabR A2 ca2 o.tables → Calls Try.prog 24 #[.agg #[.slice A o.schemas.length ca, .slice A2 o.tables.length ca2], .string s, .string n, .string v] w' (ObjP w' (X, g)) from fun A ca A2 ca2 w' h1 h2 => hXr ▸ rSetOwner_in o A ca A2 ca2 s n v w' h1 h2 hv.max)
  clear hfr hXr
  have HSM := Lib.hid sm
  have HS := Lib.hid hsch
  have HT := Lib.hid htab
  have HV := Lib.hid hv
  clear sm hsch htab hv
  go_enter Try.func4, Try.ntmps4
  go_wp2_with fail
  refine (CL.out _ ((Aft.refl _).alloc _)).mono ?_
  rintro e w1 ⟨b, rfl, hmod, a1⟩
  have HB1 := Lib.hid (show RowAt w1 w.heap.size [.slice As o.schemas.length caps, .slice At o.tables.length capt] from box_row2 a1)
  have HA1 := Lib.hid (((Aft.refl w).alloc _).trans a1)
  clear a1 CL
  cases b
  · have HM := Lib.hid (hmod rfl)
    have c0 := HB1.out.cell (j := 0) rfl
    have c1 := HB1.out.cell (j := 1) rfl
    have z1 := HB1.out.1
    clear hmod
    go_wp2_with fail
    refine (rOwn_in o As caps At capt w1 (schs_aft HA1.out HS.out) (tabs_aft HA1.out HT.out) HM.out).mono ?_
    rintro e w2 ⟨hs, ht, L, hL, rfl, a2, ob⟩
    have e1 : objOf o.schemas L = o := by unfold objOf; rw [hL]
    have HF1 := Lib.hid (ob.schs (by rw [e1]; exact HSM.out))
    have HF2 := Lib.hid (show SlAt w2 5 TabR ht.a ht.c o.tables by have := ob.tabs (by rw [e1]; exact HSM.out); rw [hL] at this; exact this)
    obtain ⟨hsa, hsn, hsc⟩ := hs
    obtain ⟨hta, htn, htc⟩ := ht
    obtain ⟨W2, hW2⟩ : ∃ W2, W2 = w2.alloc (.cells #[.slice hsa o.schemas.length hsc, .slice hta o.tables.length htc] 25) := ⟨_, rfl⟩
    have aW2 : Aft w2 W2 := by rw [hW2]; exact (Aft.refl _).alloc _
    have HBO := Lib.hid (show RowAt W2 w2.heap.size [.slice hsa o.schemas.length hsc, .slice hta o.tables.length htc] by rw [hW2]; exact box_row2 (Aft.refl _))
    have HA2 := Lib.hid (HA1.out.trans (a2.trans aW2))
    have HB2 := Lib.hid (HB1.out.aft (a2.trans aW2))
    have HG1 := Lib.hid (schs_aft aW2 HF1.out)
    have HG2 := Lib.hid (tabs_aft aW2 HF2.out)
    have c0 := (HB1.out.aft a2).cell (j := 0) rfl
    have c1 := (HB1.out.aft a2).cell (j := 1) rfl
    have z1 := (HB1.out.aft a2).1
    clear a2 ob hL e1 HF1 HF2 aW2
    have z1' : w.heap.size < w2.heap.size + 1 := by omega
    go_wp2_with fail
    rw [← hW2]
    clear hW2
    refine (CF.out W2 HA2.out).mono ?_
    rintro e w3 ⟨x, hx, rfl, a3, tin, _⟩
    have hx : x.t = p := hx
    (try dsimp only)
    have tc := tin.cols (by rw [hx]; exact HSP.out)
    have tr := tin.ruls (by rw [hx]; exact HSP.out)
    have ec : x.cols = p.cols := by rw [← hx]; rfl
    have er : x.rules.map (·.r) = p.rules := by rw [← hx]; rfl
    rw [ec] at tc
    rw [er] at tr
    have own3 := tin.col
    rw [ec, own_slice tin.col, ec] at own3
    obtain ⟨A, hA⟩ : ∃ A, x.hc.a = A := ⟨_, rfl⟩
    obtain ⟨ca, hca⟩ : ∃ A, x.hc.c = A := ⟨_, rfl⟩
    obtain ⟨A2, hA2⟩ : ∃ A, x.hr.a = A := ⟨_, rfl⟩
    obtain ⟨ca2, hca2⟩ : ∃ A, x.hr.c = A := ⟨_, rfl⟩
    rw [hA, hca] at tc own3
    rw [hA2, hca2] at tr
    rw [hA, hca, hA2, hca2]
    obtain ⟨W3, hW3⟩ : ∃ W3, W3 = w3.alloc (.cells #[.string p.schema, .string p.name, .string p.owner, .slice A p.cols.length ca, .slice A2 p.rules.length ca2] 34) := ⟨_, rfl⟩
    have aW3 : Aft w3 W3 := by rw [hW3]; exact (Aft.refl _).alloc _
    have HBT := Lib.hid (show RowAt W3 w3.heap.size [.string p.schema, .string p.name, .string p.owner, .slice A p.cols.length ca, .slice A2 p.rules.length ca2] by rw [hW3]; exact box_row2 (Aft.refl _))
    have HA3 := Lib.hid (a3.trans aW3)
    have HTC := Lib.hid (cols_aft aW3 tc)
    have HTR := Lib.hid (ruls_aft aW3 tr)
    have HO3 := Lib.hid (own_aft own3 aW3)
    have HLT3 := Lib.hid (show ∀ g, (Value.slice A p.cols.length ca).ownBlock = some g → W2.heap.size ≤ g ∧ g < w3.heap.size from own3.lt)
    have bo := HBO.out.aft a3
    have c0 := bo.cell (j := 0) rfl
    have c1 := bo.cell (j := 1) rfl
    have z2 := bo.1
    have z2' : w2.heap.size < w3.heap.size + 1 := by omega
    have HZ23 := Lib.hid z2
    clear hx tin tc tr ec er own3 hA hca hA2 hca2 a3 aW3 bo
    go_wp2_with fail
    rw [← hW3]
    clear hW3
    refine (CF2.out _ _ _ _ W3 (schs_aft HA3.out HG1.out) (tabs_aft HA3.out HG2.out)).mono ?_
    rintro e w4 ⟨x, hx, rfl, a4, tin, _⟩
    have hx : x.t = p := hx
    (try dsimp only)
    have tc := tin.cols (by rw [hx]; exact HSP.out)
    have tr := tin.ruls (by rw [hx]; exact HSP.out)
    have ec : x.cols = p.cols := by rw [← hx]; rfl
    have er : x.rules.map (·.r) = p.rules := by rw [← hx]; rfl
    rw [ec] at tc
    rw [er] at tr
    obtain ⟨D, hD⟩ : ∃ A, x.hc.a = A := ⟨_, rfl⟩
    obtain ⟨cd, hcd⟩ : ∃ A, x.hc.c = A := ⟨_, rfl⟩
    obtain ⟨D2, hD2⟩ : ∃ A, x.hr.a = A := ⟨_, rfl⟩
    obtain ⟨cd2, hcd2⟩ : ∃ A, x.hr.c = A := ⟨_, rfl⟩
    rw [hD, hcd] at tc
    rw [hD2, hcd2] at tr
    rw [hD, hcd, hD2, hcd2]
    have HA4 := Lib.hid a4
    obtain ⟨W4, hW4⟩ : ∃ W4, W4 = w4.alloc (.cells #[.string p.schema, .string p.name, .string p.owner, .slice D p.cols.length cd, .slice D2 p.rules.length cd2] 34) := ⟨_, rfl⟩
    have aW4 : Aft w4 W4 := by rw [hW4]; exact (Aft.refl _).alloc _
    have CSame := Lib.hid (sameT_any p A ca A2 ca2 D cd D2 cd2 W4 (cols_aft (a4.trans aW4) HTC.out) (ruls_aft (a4.trans aW4) HTR.out) (cols_aft aW4 tc) (ruls_aft aW4 tr))
    have HA4' := Lib.hid (a4.trans aW4)
    have bt := HBT.out.aft a4
    have y0 := bt.cell (j := 0) rfl
    have y1 := bt.cell (j := 1) rfl
    have y2 := bt.cell (j := 2) rfl
    have y3 := bt.cell (j := 3) rfl
    have y4 := bt.cell (j := 4) rfl
    have z3 := bt.1
    have z3' : w3.heap.size < w4.heap.size + 1 := by omega
    clear hx tin tc tr ec er hD hcd hD2 hcd2 a4 aW4 bt
    have he : (c == c) = true := by simp
    go_wp2_with fail
    rw [← hW4]
    clear hW4
    refine CSame.out.mono ?_
    rintro e w5 ⟨rfl, a5⟩
    have HA5 := Lib.hid (HA4'.out.trans a5)
    clear CSame a5 y0 y1 y2 y3 y4
    go_wp2_with fail
    have hlenc := HTC.out.len
    go_loopw [15] (fun i wr => ∃ (k : Nat) (xs : List Value), k ≤ p.cols.length ∧ i = .int .i64 k ∧ wr.ownsRow W2.heap.size 40 3 (.slice A p.cols.length ca) p.cols.length xs ∧ Kb (fun g => (Value.slice A p.cols.length ca).ownBlock = some g) w5 wr) (fun i _ => p.cols.length - (intOf i).toNat)
    case atStart => exact ⟨0, _, Nat.zero_le _, rfl, own_aft HO3.out HA5.out, Kb.refl _ _⟩
    case round =>
      obtain ⟨k, xs, hk, rfl, ho, hkb⟩ := hrel
      have hne : ¬ (Value.slice A p.cols.length ca).ownBlock = some w3.heap.size := fun e => by have := (HLT3.out _ e).2; omega
      have bt := hkb.row (HBT.out.aft HA5.out) hne
      have y3 := bt.cell (j := 3) rfl
      have z3 := bt.1
      have HKB := Lib.hid hkb
      have HO := Lib.hid ho
      by_cases hlt : k < p.cols.length
      · obtain ⟨gc, cap', hv', hgb, _, hr⟩ := own_rowAt ho (by omega)
        simp only [Value.slice.injEq, true_and] at hv'
        obtain ⟨rfl, rfl⟩ := hv'
        have hxl : k * 3 < xs.length := by rw [ho.1]; omega
        have u0 := hr.cell (List.getElem?_eq_getElem hxl)
        have u1 := hr.2.2 (k * 3) hxl
        have u2 := hr.1
        have HN := Lib.hid (own_set ho (g := gc) rfl (k * 3) (.string ⟨#[111, 118, 101, 114]⟩))
        have HK := Lib.hid (hkb.trans ((Kb.set wr gc (k * 3) (.string ⟨#[111, 118, 101, 114]⟩)).mono (fun g _ e => by subst e; rfl)))
        clear ho hkb hr bt hne
        go_wp2_with fail
        go_roundw
        case rel => exact ⟨k + 1, _, by omega, by go_num, HN.out, HK.out⟩
        case measure => simp [intOf]; omega
      · have HAW2 := Lib.hid (show Aft W2 wr from hkb.to_aft (HA3.out.trans HA5.out) (fun g hg h1 => by have := (HLT3.out g h1).1; omega))
        have b1 := HB2.out.aft HAW2.out
        have c0 := b1.cell (j := 0) rfl
        have c1 := b1.cell (j := 1) rfl
        have z1 := b1.1
        clear ho hkb bt hne b1
        go_wp2_with fail
        refine (CS.out wr (HA2.out.trans HAW2.out)).mono ?_
        rintro e w7 ⟨hs7, ht7, L7, hL7, rfl, a7, ob7⟩
        (try dsimp only)
        obtain ⟨W7, hW7⟩ : ∃ W7, W7 = w7.alloc (.cells #[.slice hs7.a X.schemas.length hs7.c, .slice ht7.a X.tables.length ht7.c] 25) := ⟨_, rfl⟩
        have aW7 : Aft w7 W7 := by rw [hW7]; exact (Aft.refl _).alloc _
        have HB7 := Lib.hid (show RowAt W7 w7.heap.size [.slice hs7.a X.schemas.length hs7.c, .slice ht7.a X.tables.length ht7.c] by rw [hW7]; exact box_row2 (Aft.refl _))
        have HA7 := Lib.hid (HAW2.out.trans (a7.trans aW7))
        have HO7 := Lib.hid (ob7.aft aW7)
        have HL7 := Lib.hid (show L7.map OTab.t = X.tables from hL7)
        have bo := HBO.out.aft (HAW2.out.trans a7)
        have c0 := bo.cell (j := 0) rfl
        have c1 := bo.cell (j := 1) rfl
        have z2 := bo.1
        have z2' : w2.heap.size < w7.heap.size + 1 := by omega
        clear a7 aW7 ob7 hL7 bo
        go_wp2_with fail
        rw [← hW7]
        clear hW7
        refine (CS2.out _ _ _ _ W7 (schs_aft HA7.out HG1.out) (tabs_aft HA7.out HG2.out)).mono ?_
        rintro e w8 ⟨hs8, ht8, L8, hL8, rfl, a8, ob8⟩
        (try dsimp only)
        obtain ⟨W8, hW8⟩ : ∃ W8, W8 = w8.alloc (.cells #[.slice hs8.a X.schemas.length hs8.c, .slice ht8.a X.tables.length ht8.c] 25) := ⟨_, rfl⟩
        have aW8 : Aft w8 W8 := by rw [hW8]; exact (Aft.refl _).alloc _
        have HB8 := Lib.hid (show RowAt W8 w8.heap.size [.slice hs8.a X.schemas.length hs8.c, .slice ht8.a X.tables.length ht8.c] by rw [hW8]; exact box_row2 (Aft.refl _))
        have HA8 := Lib.hid (a8.trans aW8)
        have HO8 := Lib.hid (ob8.aft aW8)
        have HL8 := Lib.hid (show L8.map OTab.t = X.tables from hL8)
        clear a8 aW8 ob8 hL8
        go_wp2_with fail
        rw [← hW8]
        clear hW8
        refine (finds_any W8).mono ?_
        rintro e w9 ⟨rfl, a9⟩
        have HA9 := Lib.hid (HA7.out.trans (HA8.out.trans a9))
        have b7 := HB7.out.aft (HA8.out.trans a9)
        have b8 := HB8.out.aft a9
        have bo := HBO.out.aft HA9.out
        have b0 := HB2.out.aft HA9.out
        have p0 := b7.cell (j := 0) rfl
        have p1 := b7.cell (j := 1) rfl
        have p2 := b7.1
        have q0 := b8.cell (j := 0) rfl
        have q1 := b8.cell (j := 1) rfl
        have q2 := b8.1
        have r0 := bo.cell (j := 0) rfl
        have r1 := bo.cell (j := 1) rfl
        have r2 := bo.1
        have s0 := b0.cell (j := 0) rfl
        have s1 := b0.cell (j := 1) rfl
        have s2 := b0.1
        have HTD := Lib.hid (told_in (X, g) o As caps At capt hsa hsc hta htc hs7 ht7 hs8 ht8 L7 L8 W2 w9 wr.heap.size W7.heap.size HSX.out HL7.out (HO7.out.aft (HA8.out.trans a9)) HL8.out (HO8.out.aft a9) HAW2.out.size HA9.out (schs_aft HA2.out HS.out) (tabs_aft HA2.out HT.out) HG1.out HG2.out)
        clear a9 b7 b8 bo b0
        go_wp2_with fail
        refine HTD.out.mono ?_
        rintro e w10 ⟨rfl, _, a10⟩
        have HA10 := Lib.hid (HA2.out.trans a10)
        clear a10 HTD
        go_wp2_with fail
        go_ret
        exact ⟨rfl, HA10.out⟩
  · go_wp2_with fail
    go_ret
    exact ⟨rfl, HA1.out⟩
end Go.Proofs.Ytodifdofgjfkiaa
/- told, of what came out of both, twice; what the document's O makes. -/
namespace Go.Proofs.Ytodifdofgjfkiaa
open Go.RowKit Go.Deep
set_option maxRecDepth 100000
set_option linter.unusedVariables false
theorem Kp.kb {B B' : Nat} {w w' : World} (h : Kp B B' w w') : Kb (fun k => B ≤ k ∧ k < B') w w' := ⟨h.os, h.tape, h.output, h.size, fun k hk hn => h.block k hk (by omega)⟩
theorem own_shv2 {w : World} {B B' size n : Nat} {e : TypeId} {h : Hd} {xs : List Value} (o : w.ownsRow B e size h.v n xs) (hb : n * 16 ≤ 140737488351232) (hl : ∀ g ∈ h.blk, g < B') : ShV w B B' e size h := by
  obtain ⟨s1, s2⟩ := own_shv o hb
  refine ⟨s1, fun h0 => ?_⟩
  obtain ⟨g, hg, hk⟩ := s2 h0
  exact ⟨g, hg, hk.1, hl g (by unfold Hd.blk; rw [hg]; simp), hk.2.2⟩
theorem TabIn.shR2 {w : World} {B B' : Nat} {x : OTab} (h : TabIn w B x) (hs : SmT x.t) (hl : ∀ g ∈ x.blks, g < B') : ShR w B B' x.hr (fun j => (x.rules[j]?.map (·.h)).getD ⟨none, 0, 0⟩) := by
  obtain ⟨s1, s2, s3⟩ := h.shR hs
  have hn := own_n h.rul
  refine ⟨s1, fun h0 => ?_, fun j hj => ?_⟩
  · obtain ⟨g, hg, hk, hc⟩ := s2 h0
    exact ⟨g, hg, ⟨hk.1, hl g (by unfold OTab.blks Hd.blk; rw [hg]; simp), hk.2.2⟩, hc⟩
  · have hj' : j < x.rules.length := by omega
    have hm := List.getElem_mem hj'
    simp only [List.getElem?_eq_getElem hj', Option.map_some, Option.getD_some]
    refine own_shv2 (h.each _ hm).nam ?_ (fun g hg => hl g (by unfold OTab.blks; simp only [List.mem_append, List.mem_flatMap]; exact .inr (.inr ⟨_, hm, hg⟩)))
    have := (hs.2.1.2 _ (List.mem_map_of_mem (f := ORul.r) hm)).1
    simpa [Small] using this
theorem ObjIn.sh2 {w : World} {B B' : Nat} {hs ht : Hd} {ss : List Sch} {L : List OTab} (h : ObjIn w B hs ht ss L) (sm : SmO (objOf ss L)) (hl : ∀ g ∈ hs.blk ++ (ht.blk ++ L.flatMap OTab.blks), g < B') : Sh w B B' hs ht (layOf L) := by
  obtain ⟨s0, t1, t2, t3⟩ := h.sh sm
  have hn := own_n h.tab
  have hb1 : ss.length * 16 ≤ 140737488351232 := by simpa [objOf, Small] using sm.1.1
  refine ⟨own_shv2 h.sch hb1 (fun g hg => hl g (by simp [hg])), t1, fun h0 => ?_, fun i hi => ?_⟩
  · obtain ⟨g, hg, hk, hc⟩ := t2 h0
    exact ⟨g, hg, ⟨hk.1, hl g (by unfold Hd.blk; rw [hg]; simp), hk.2.2⟩, hc⟩
  · have hi' : i < L.length := by omega
    have hm := List.getElem_mem hi'
    have smx := sm.2.2 _ (List.mem_map_of_mem (f := OTab.t) hm)
    have hlx : ∀ g ∈ L[i].blks, g < B' := fun g hg => hl g (by simp only [List.mem_append, List.mem_flatMap]; exact .inr (.inr ⟨_, hm, hg⟩))
    unfold layOf
    simp only [List.getElem?_eq_getElem hi', Option.map_some, Option.getD_some]
    exact ⟨own_shv2 (h.each _ hm).col (by simpa [OTab.t, Small] using smx.1.1) (fun g hg => hlx g (by unfold OTab.blks; simp [hg])), (h.each _ hm).shR2 smx hlx⟩
theorem told2_in (r : Objs × Int) (o : Objs) (E : Option Addr) (capE : Nat) (E2 : Option Addr) (capE2 : Nat) (F : Option Addr) (capF : Nat) (F2 : Option Addr) (capF2 : Nat) (hs ht hs2 ht2 : Hd) (L L2 : List OTab) (W0 w : World) (B B' B2 : Nat) (sm : SmO r.1)
    (hL : L.map OTab.t = r.1.tables) (ob : ObjIn w B hs ht r.1.schemas L) (hl : ∀ g ∈ hs.blk ++ (ht.blk ++ L.flatMap OTab.blks), g < B') (hB' : B' ≤ w.heap.size) (hL2 : L2.map OTab.t = r.1.tables) (ob2 : ObjIn w B2 hs2 ht2 r.1.schemas L2) (hB : W0.heap.size ≤ B) (a0 : Aft W0 w)
    (o1 : SlAt W0 2 SchR E capE o.schemas) (o2 : SlAt W0 5 TabR E2 capE2 o.tables) (f1 : SlAt W0 2 SchR F capF o.schemas) (f2 : SlAt W0 5 TabR F2 capF2 o.tables) :
    Calls Try.prog 26 #[.agg #[.slice hs.a r.1.schemas.length hs.c, .slice ht.a r.1.tables.length ht.c], .int .i64 r.2, .agg #[.slice hs2.a r.1.schemas.length hs2.c, .slice ht2.a r.1.tables.length ht2.c], .int .i64 r.2, .agg #[.slice E o.schemas.length capE, .slice E2 o.tables.length capE2], .agg #[.slice F o.schemas.length capF, .slice F2 o.tables.length capF2]] w
      fun e' w' => e' = .returned (.bool true) ∧ Kb (fun k => B ≤ k ∧ k < B') w w' ∧ Aft W0 w' := by
  have e1 : objOf r.1.schemas L = r.1 := by unfold objOf; rw [hL]
  have e2 : objOf r.1.schemas L2 = r.1 := by unfold objOf; rw [hL2]
  have g1 := ob.schs (by rw [e1]; exact sm)
  have g2 := ob.tabs (by rw [e1]; exact sm)
  have d1 := ob2.schs (by rw [e2]; exact sm)
  have d2 := ob2.tabs (by rw [e2]; exact sm)
  rw [hL] at g2
  rw [hL2] at d2
  have n1 : hs.n = r.1.schemas.length := own_n ob.sch
  have n2 : ht.n = r.1.tables.length := by rw [own_n ob.tab, ← hL]; simp
  have sh := ob.sh2 (by rw [e1]; exact sm) hl
  obtain ⟨ha, hn, hc⟩ := hs
  obtain ⟨ta, tn, tc⟩ := ht
  have n1' : hn = r.1.schemas.length := n1
  have n2' : tn = r.1.tables.length := n2
  subst n1' n2'
  exact (told_any r.1 o _ _ _ _ _ _ _ _ E capE E2 capE2 F capF F2 capF2 r.2 W0 w B B' (layOf L) hB hB' a0 g1 g2 d1 d2 o1 o2 f1 f2 sh).mono fun e w' ⟨he, hk⟩ => ⟨he, hk.kb, hk.to_aft a0 hB⟩
/-- objects of one table, as they lie -/
def OneP (w : World) (ns : Nat) (t : Tab) (c : Int) (e : Ending) (w' : World) : Prop :=
  ∃ S cS gt ct A cA A2 cA2, e = .returned (.tuple #[.agg #[.slice S ns cS, .slice (some ⟨gt, 0, none⟩) 1 ct], .int .i64 c]) ∧ Aft w w' ∧ gt < w'.heap.size ∧ w'.cell? ⟨gt, 0, none⟩ = some (.string t.schema) ∧ w'.cell? ⟨gt, 1, none⟩ = some (.string t.name) ∧ w'.cell? ⟨gt, 3, none⟩ = some (.slice A t.cols.length cA) ∧ w'.cell? ⟨gt, 4, none⟩ = some (.slice A2 t.rules.length cA2)
theorem objP_one {w w' : World} {X : Objs} {t : Tab} {c : Int} {e : Ending} (h : ObjP w (X, c) e w') (ht : X.tables = [t]) : OneP w X.schemas.length t c e w' := by
  obtain ⟨hs, hT, L, hL, he, a, ob⟩ := h
  have hL : L.map OTab.t = X.tables := hL
  rw [ht] at hL
  match L, hL with
  | [x], hL =>
    have hx : x.t = t := by simpa using hL
    obtain ⟨gt, hgt, _, hr⟩ := own_place ob.tab (by simp)
    obtain ⟨At, nt, ct⟩ := hT
    have hgt' : At = some ⟨gt, 0, none⟩ := hgt
    subst hgt'
    have tq := ob.nth (q := 0) (by simp)
    have e0 := ob.cell (q := 0) (j := 0) rfl (by simp) (by decide)
    have e1 := ob.cell (q := 0) (j := 1) rfl (by simp) (by decide)
    have e3 := ob.cell (q := 0) (j := 3) rfl (by simp) (by decide)
    have e4 := ob.cell (q := 0) (j := 4) rfl (by simp) (by decide)
    have hcv : x.hc.v = .slice x.hc.a x.cols.length x.hc.c := own_slice tq.col
    have hrv : x.hr.v = .slice x.hr.a x.rules.length x.hr.c := own_slice tq.rul
    refine ⟨hs.a, hs.c, gt, ct, x.hc.a, x.hc.c, x.hr.a, x.hr.c, ?_, a, hr.1, ?_, ?_, ?_, ?_⟩
    · rw [he]; simp only [ht, List.length_singleton]
    · rw [← hx]; simpa [OTab.cells, OTab.t] using e0
    · rw [← hx]; simpa [OTab.cells, OTab.t] using e1
    · rw [← hx]; simp only [Nat.zero_mul, Nat.zero_add] at e3; rw [e3]; show some x.hc.v = _; rw [hcv]; rfl
    · rw [← hx]; simp only [Nat.zero_mul, Nat.zero_add] at e4; rw [e4]; show some x.hr.v = _; rw [hrv]; simp [OTab.t]
/-- nothing but an error -/
def ErrP (w : World) (c : Int) (e : Ending) (w' : World) : Prop := ∃ S cS T cT, e = .returned (.tuple #[.agg #[.slice S 0 cS, .slice T 0 cT], .int .i64 c]) ∧ Aft w w'
theorem objP_err {w w' : World} {c : Int} {e : Ending} (h : ObjP w (zeroO, c) e w') : ErrP w c e w' := by
  obtain ⟨hs, hT, L, hL, he, a, ob⟩ := h
  exact ⟨hs.a, hs.c, hT.a, hT.c, he, a⟩
theorem one_at : tabAt oneO.tables ⟨#[115]⟩ ⟨#[116]⟩ = (0 : Nat) := by decide +kernel
theorem chg_one (f : Tab → Tab × Int) : chgR oneO (tabR oneO ⟨#[115]⟩ ⟨#[116]⟩ f) = if (f (oneO.tables[0]'(by decide))).2 = 0 then ((⟨oneO.schemas, oneO.tables.set 0 (f (oneO.tables[0]'(by decide))).1⟩ : Objs), (0 : Int)) else (zeroO, (f (oneO.tables[0]'(by decide))).2) := by
  unfold chgR
  rw [oneO_ok, if_pos rfl, tabR_some one_at (by decide)]
end Go.Proofs.Ytodifdofgjfkiaa
