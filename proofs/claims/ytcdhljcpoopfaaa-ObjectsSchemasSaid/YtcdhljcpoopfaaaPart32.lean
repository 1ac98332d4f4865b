/- Contracts of the program, part 32. -/
import Derived.Test.YtcdhljcpoopfaaaPart31
import Derived.Test.YtcdhljcpoopfaaaPart2
import Derived.ShutString
/- The law ObjectsSchemas. -/
namespace Go.Proofs.Ytcdhljcpoopfaaa
open Go.RowKit Go.Deep
set_option maxRecDepth 100000
set_option linter.unusedVariables false
theorem smO_addSch {o : Objs} {nm ow : ByteArray} (h : SmO o) (h1 : Small nm.size) (h2 : Small ow.size) : SmO (addSchR nm ow o).1 := by
  unfold addSchR
  split
  · exact smO_zero
  · split
    · exact smO_zero
    · split
      · exact smO_zero
      · rename_i h3 h4 h5
        refine ⟨⟨?_, fun s hs => ?_⟩, h.2⟩
        · show Small ((insAt _ _ _).length * 16)
          rw [insAt_len _ _ _ (posB_le _ _ _)]; unfold Small; omega
        · rcases mem_insAt.1 hs with e | e
          · rw [e]; exact ⟨h1, h2⟩
          · exact h.1.2 s e
theorem smO_dropSch {o : Objs} {nm : ByteArray} (h : SmO o) : SmO (dropSchR nm o).1 := by
  unfold dropSchR
  split
  · exact smO_zero
  · split
    · exact smO_zero
    · exact ⟨⟨Nat.le_trans (Nat.mul_le_mul_right _ (List.length_eraseIdx_le _ _)) h.1.1, fun s hs => h.1.2 s (List.mem_of_mem_eraseIdx hs)⟩, h.2⟩
theorem small7 (b : UInt8) : Small (ByteArray.size ⟨#[b]⟩) := by simp [Small, ByteArray.size]
theorem ex_addSch : chgR oneO (addSchR ⟨#[97]⟩ ⟨#[111]⟩ oneO) = (⟨[⟨⟨#[97]⟩, ⟨#[111]⟩⟩, ⟨⟨#[115]⟩, ⟨#[111]⟩⟩], oneO.tables⟩, 0) := by
  unfold chgR addSchR
  rw [oneO_ok, show nameB ⟨#[97]⟩ = true by decide +kernel, show nameB ⟨#[111]⟩ = true by decide +kernel, show schAt oneO.schemas ⟨#[97]⟩ = -1 by decide +kernel, show posB cmpSc oneO.schemas ⟨⟨#[97]⟩, ⟨#[111]⟩⟩ = 0 by decide +kernel]
  rfl
theorem ex_dropSch : chgR oneO (dropSchR ⟨#[115]⟩ oneO) = (zeroO, 62) := by
  unfold chgR dropSchR
  rw [oneO_ok, show schAt oneO.schemas ⟨#[115]⟩ = 0 by decide +kernel, show within oneO.tables ⟨#[115]⟩ = 1 by decide +kernel]
  rfl
/-- objects of two schemas, as they lie -/
def TwoP (w : World) (e : Ending) (w' : World) : Prop :=
  ∃ gs cs T cT, e = .returned (.tuple #[.agg #[.slice (some ⟨gs, 0, none⟩) 2 cs, .slice T 1 cT], .int .i64 0]) ∧ Aft w w' ∧ gs < w'.heap.size ∧ w'.cell? ⟨gs, 0, none⟩ = some (.string ⟨#[97]⟩)
theorem add_one (As : Option Addr) (caps : Nat) (At : Option Addr) (capt : Nat) (w : World) (h1 : SlAt w 2 SchR As caps oneO.schemas) (h2 : SlAt w 5 TabR At capt oneO.tables) :
    Calls Try.prog 36 #[.agg #[.slice As 1 caps, .slice At 1 capt], .string ⟨#[97]⟩, .string ⟨#[111]⟩] w (TwoP w) := by
  refine (addSchema_in oneO As caps At capt ⟨#[97]⟩ ⟨#[111]⟩ w h1 h2 (small7 _) (small7 _)).mono fun e w' h => ?_
  rw [ex_addSch] at h
  obtain ⟨hs, ht, L, hL, he, a, ob⟩ := h
  obtain ⟨gs, hgs, _, hr⟩ := own_place ob.sch (by simp)
  refine ⟨gs, hs.c, ht.a, ht.c, ?_, a, hr.1, hr.cell (j := 0) rfl⟩
  rw [he, hgs]; rfl
theorem drop_one (As : Option Addr) (caps : Nat) (At : Option Addr) (capt : Nat) (w : World) (h1 : SlAt w 2 SchR As caps oneO.schemas) (h2 : SlAt w 5 TabR At capt oneO.tables) :
    Calls Try.prog 38 #[.agg #[.slice As 1 caps, .slice At 1 capt], .string ⟨#[115]⟩] w (ErrP w 62) :=
  (dropSchema_in oneO As caps At capt ⟨#[115]⟩ w h1 h2).mono fun e w' h => objP_err (by rw [ex_dropSch] at h; exact h)
set_option maxHeartbeats 4000000 in
theorem schemas_any (w : World) : Calls Try.prog 40 #[] w fun e w' => e = .returned (.bool true) ∧ Aft w w' := by
  go_enter Try.func40, Try.ntmps40
  go_wp2_with fail
  refine (one_any _).mono ?_
  rintro e w1 ⟨As, caps, At, capt, rfl, a1, h1, h2⟩
  have C1 := Lib.hid (add_one As caps At capt w1 h1 h2)
  have HA1 := Lib.hid a1
  clear a1 h1 h2
  go_wp2_with fail
  refine C1.out.mono ?_
  rintro e w2 ⟨gs, cs, T, cT, rfl, a2, z1, x0⟩
  have HA2 := Lib.hid (HA1.out.trans a2)
  clear a2 C1
  go_wp2_with fail
  refine (one_any _).mono ?_
  rintro e w3 ⟨As, caps, At, capt, rfl, a3, h1, h2⟩
  have rb := box_row2 (c := [.slice (some ⟨gs, 0, none⟩) 2 cs, .slice T 1 cT]) a3
  have a23 := ((Aft.refl w2).alloc _).trans a3
  have x0 := a23.cell_kept x0
  have z1 := Nat.lt_of_lt_of_le z1 a23.size
  have C2 := Lib.hid (drop_one As caps At capt w3 h1 h2)
  have HA3 := Lib.hid (HA2.out.trans a23)
  have HB := Lib.hid rb
  clear a3 h1 h2 rb a23
  go_wp2_with fail
  refine C2.out.mono ?_
  rintro e w4 ⟨S2, cS2, T2, cT2, rfl, a4⟩
  have x0 := a4.cell_kept x0
  have z1 := Nat.lt_of_lt_of_le z1 a4.size
  have rb := HB.out.aft a4
  have b0 := rb.cell (j := 0) rfl
  have bz := rb.1
  have HA4 := Lib.hid (HA3.out.trans a4)
  have zz1 : gs < w4.heap.size + 1 := by omega
  have zz2 : w2.heap.size < w4.heap.size + 1 := by omega
  clear a4 C2 rb
  go_wp2_with fail
  go_ret
  exact ⟨rfl, HA4.out.alloc _⟩
set_option maxHeartbeats 16000000 in
theorem law_schemas (o : Objs) (nm ow : ByteArray) (As : Option Addr) (caps : Nat) (At : Option Addr) (capt : Nat) (w : World) (hsch : SlAt w 2 SchR As caps o.schemas) (htab : SlAt w 5 TabR At capt o.tables) (hs1 : Small nm.size) (hs2 : Small ow.size) :
    Calls Try.prog 9 #[.agg #[.slice As o.schemas.length caps, .slice At o.tables.length capt], .string nm, .string ow] w
      fun e w' => e = .returned (.bool true) ∧ Aft w w' := by
  have sm : SmO o := ⟨sm_schs hsch, sm_tabs htab⟩
  have CL := Lib.hid (show ∀ w', Aft w w' → _ from fun w' a => large_mod o As caps At capt w' (schs_aft a hsch) (tabs_aft a htab))
  obtain ⟨⟨X, g⟩, hXr⟩ : ∃ fr, chgR o (addSchR nm ow o) = fr := ⟨_, rfl⟩
  obtain ⟨⟨Y, h⟩, hYr⟩ : ∃ fr, chgR o (dropSchR nm o) = fr := ⟨_, rfl⟩
  have HSX := Lib.hid (show SmO X by have : SmO (chgR o (addSchR nm ow o)).1 := smO_chg (smO_addSch sm hs1 hs2); rw [hXr] at this; exact this)
  have HSY := Lib.hid (show SmO Y by have : SmO (chgR o (dropSchR nm o)).1 := smO_chg (smO_dropSch sm); rw [hYr] at this; exact this)
  have C1 := Lib.hid (show ∀ w', Aft w w' → Calls Try.prog 36 #[.agg #[.slice As o.schemas.length caps, .slice At o.tables.length capt], .string nm, .string ow] w' (ObjP w' (X, g)) from fun w' a => hXr ▸ addSchema_in o As caps At capt nm ow w' (schs_aft a hsch) (tabs_aft a htab) hs1 hs2)
  have D1 := Lib.hid (show ∀ (A : Option Addr) (ca : Nat) (A2 : Option Addr) (ca2 : Nat) (w' : World), Aft w w' → SlAt w' 2 SchR A ca o.schemas → SlAt w' 5 TabR A2 ca2 o.tables → Calls Try.prog 37 #[.agg #[.slice A o.schemas.length ca, .slice A2 o.tables.length ca2], .string nm, .string ow] w' (ObjP w' (X, g)) from fun A ca A2 ca2 w' a h1 h2 => hXr ▸ rAddSchema_in o A ca A2 ca2 nm ow w' h1 h2 hs1 hs2)
  have C2 := Lib.hid (show ∀ w', Aft w w' → Calls Try.prog 38 #[.agg #[.slice As o.schemas.length caps, .slice At o.tables.length capt], .string nm] w' (ObjP w' (Y, h)) from fun w' a => hYr ▸ dropSchema_in o As caps At capt nm w' (schs_aft a hsch) (tabs_aft a htab))
  have D2 := Lib.hid (show ∀ (A : Option Addr) (ca : Nat) (A2 : Option Addr) (ca2 : Nat) (w' : World), Aft w w' → SlAt w' 2 SchR A ca o.schemas → SlAt w' 5 TabR A2 ca2 o.tables → Calls Try.prog 39 #[.agg #[.slice A o.schemas.length ca, .slice A2 o.tables.length ca2], .string nm] w' (ObjP w' (Y, h)) from fun A ca A2 ca2 w' a h1 h2 => hYr ▸ rDropSchema_in o A ca A2 ca2 nm w' h1 h2)
  have HS := Lib.hid hsch
  have HT := Lib.hid htab
  obtain ⟨W, hW⟩ : ∃ W, W = w.alloc (.cells #[.slice As o.schemas.length caps, .slice At o.tables.length capt] 45) := ⟨_, rfl⟩
  have aW : Aft w W := by rw [hW]; exact (Aft.refl w).alloc _
  have HRO := Lib.hid (show RowAt W w.heap.size [.slice As o.schemas.length caps, .slice At o.tables.length capt] by rw [hW]; exact (box_row2 (Aft.refl _)).aft (Aft.refl _))
  have l1 : w.heap.size < w.heap.size + 1 := by omega
  have l2 : w.heap.size < w.heap.size + 1 + 1 := by omega
  have HAW := Lib.hid aW
  clear sm hsch htab hXr hYr aW hs1 hs2
  go_enter Try.func9, Try.ntmps9
  go_wp2_with fail
  rw [← hW]
  clear hW
  refine (CL.out W HAW.out).mono ?_
  rintro e w1 ⟨b, rfl, hmod, a1⟩
  have HA1 := Lib.hid a1
  clear a1 CL
  cases b
  case true =>
    go_wp2_with fail
    go_ret
    exact ⟨rfl, HAW.out.trans HA1.out⟩
  have HM := Lib.hid (hmod rfl)
  clear hmod
  have c0 := (HRO.out.aft HA1.out).cell (j := 0) rfl
  have c1 := (HRO.out.aft HA1.out).cell (j := 1) rfl
  have cz := (HRO.out.aft HA1.out).1
  go_wp2_with fail
  refine (rOwn_in o As caps At capt w1 (schs_aft (HAW.out.trans HA1.out) HS.out) (tabs_aft (HAW.out.trans HA1.out) HT.out) HM.out).mono ?_
  rintro e w2 ⟨hs, ht, L, hL, rfl, a2, ob⟩
  have e1 : objOf o.schemas L = o := by unfold objOf; rw [hL]
  have HF1 := Lib.hid (ob.schs (by rw [e1]; exact ⟨sm_schs HS.out, sm_tabs HT.out⟩))
  have HF2 := Lib.hid (show SlAt w2 5 TabR ht.a ht.c o.tables by have := ob.tabs (by rw [e1]; exact ⟨sm_schs HS.out, sm_tabs HT.out⟩); rw [hL] at this; exact this)
  obtain ⟨hsa, hsn, hsc⟩ := hs
  obtain ⟨hta, htn, htc⟩ := ht
  obtain ⟨W2, hW2⟩ : ∃ W2, W2 = w2.alloc (.cells #[.slice hsa o.schemas.length hsc, .slice hta o.tables.length htc] 45) := ⟨_, rfl⟩
  have aW2 : Aft w2 W2 := by rw [hW2]; exact (Aft.refl _).alloc _
  have HBO := Lib.hid (show RowAt W2 w2.heap.size [.slice hsa o.schemas.length hsc, .slice hta o.tables.length htc] by rw [hW2]; exact box_row2 (Aft.refl _))
  have HA2 := Lib.hid (HA1.out.trans (a2.trans aW2))
  have HG1 := Lib.hid (schs_aft aW2 HF1.out)
  have HG2 := Lib.hid (tabs_aft aW2 HF2.out)
  have HAw2 := Lib.hid (HA1.out.trans a2)
  have c0 := (HRO.out.aft HAw2.out).cell (j := 0) rfl
  have c1 := (HRO.out.aft HAw2.out).cell (j := 1) rfl
  have cz := (HRO.out.aft HAw2.out).1
  clear a2 ob hL e1 HF1 HF2 aW2
  have cp : w.heap.size < w2.heap.size + 1 := by omega
  go_wp2_with fail
  rw [← hW2]
  clear hW2
  refine (C1.out W2 (HAW.out.trans HA2.out)).mono ?_
  rintro e w3 ⟨hs3, ht3, L3, hL3, rfl, a3, ob3⟩
  (try dsimp only)
  obtain ⟨W3, hW3⟩ : ∃ W3, W3 = w3.alloc (.cells #[.slice hs3.a X.schemas.length hs3.c, .slice ht3.a X.tables.length ht3.c] 45) := ⟨_, rfl⟩
  have aW3 : Aft w3 W3 := by rw [hW3]; exact (Aft.refl _).alloc _
  have HB3 := Lib.hid (show RowAt W3 w3.heap.size [.slice hs3.a X.schemas.length hs3.c, .slice ht3.a X.tables.length ht3.c] by rw [hW3]; exact box_row2 (Aft.refl _))
  have HA3 := Lib.hid (a3.trans aW3)
  have HO3 := Lib.hid (ob3.aft aW3)
  have HL3 := Lib.hid (show L3.map OTab.t = X.tables from hL3)
  have HLT3 := Lib.hid ob3.lt
  have HZ3 := Lib.hid aW3.size
  have HAA3 := Lib.hid ((Aft.refl W2).trans a3)
  have bo := HBO.out.aft HAA3.out
  have o0 := bo.cell (j := 0) rfl
  have o1 := bo.cell (j := 1) rfl
  have oz := bo.1
  have oz' : w2.heap.size < w3.heap.size + 1 := by omega
  have HAC := Lib.hid (HA2.out.trans HAA3.out)
  have c0 := (HRO.out.aft HAC.out).cell (j := 0) rfl
  have c1 := (HRO.out.aft HAC.out).cell (j := 1) rfl
  have cz := (HRO.out.aft HAC.out).1
  have cp : w.heap.size < w3.heap.size + 1 := by omega
  clear a3 aW3 ob3 hL3 bo
  go_wp2_with fail
  rw [← hW3]
  clear hW3
  refine (D1.out _ _ _ _ W3 (HAW.out.trans (HA2.out.trans HA3.out)) (schs_aft HA3.out HG1.out) (tabs_aft HA3.out HG2.out)).mono ?_
  rintro e w4 ⟨hs4, ht4, L4, hL4, rfl, a4, ob4⟩
  (try dsimp only)
  obtain ⟨W4, hW4⟩ : ∃ W4, W4 = w4.alloc (.cells #[.slice hs4.a X.schemas.length hs4.c, .slice ht4.a X.tables.length ht4.c] 45) := ⟨_, rfl⟩
  have aW4 : Aft w4 W4 := by rw [hW4]; exact (Aft.refl _).alloc _
  have HB4 := Lib.hid (show RowAt W4 w4.heap.size [.slice hs4.a X.schemas.length hs4.c, .slice ht4.a X.tables.length ht4.c] by rw [hW4]; exact box_row2 (Aft.refl _))
  have HA4 := Lib.hid (a4.trans aW4)
  have HO4 := Lib.hid (ob4.aft aW4)
  have HL4 := Lib.hid (show L4.map OTab.t = X.tables from hL4)
  have HLT4 := Lib.hid ob4.lt
  have HZ4 := Lib.hid aW4.size
  have HAA4 := Lib.hid (HA3.out.trans a4)
  clear HAC
  have HAC := Lib.hid (HA2.out.trans HAA4.out)
  have c0 := (HRO.out.aft HAC.out).cell (j := 0) rfl
  have c1 := (HRO.out.aft HAC.out).cell (j := 1) rfl
  have cz := (HRO.out.aft HAC.out).1
  have cp : w.heap.size < w4.heap.size + 1 := by omega
  clear a4 aW4 ob4 hL4
  go_wp2_with fail
  rw [← hW4]
  clear hW4
  refine (C2.out W4 (HAW.out.trans (HA2.out.trans (HA3.out.trans HA4.out)))).mono ?_
  rintro e w5 ⟨hs5, ht5, L5, hL5, rfl, a5, ob5⟩
  (try dsimp only)
  obtain ⟨W5, hW5⟩ : ∃ W5, W5 = w5.alloc (.cells #[.slice hs5.a Y.schemas.length hs5.c, .slice ht5.a Y.tables.length ht5.c] 45) := ⟨_, rfl⟩
  have aW5 : Aft w5 W5 := by rw [hW5]; exact (Aft.refl _).alloc _
  have HB5 := Lib.hid (show RowAt W5 w5.heap.size [.slice hs5.a Y.schemas.length hs5.c, .slice ht5.a Y.tables.length ht5.c] by rw [hW5]; exact box_row2 (Aft.refl _))
  have HA5 := Lib.hid (a5.trans aW5)
  have HO5 := Lib.hid (ob5.aft aW5)
  have HL5 := Lib.hid (show L5.map OTab.t = Y.tables from hL5)
  have HLT5 := Lib.hid ob5.lt
  have HZ5 := Lib.hid aW5.size
  have HAA5 := Lib.hid ((HA3.out.trans HA4.out).trans a5)
  have bo := HBO.out.aft HAA5.out
  have o0 := bo.cell (j := 0) rfl
  have o1 := bo.cell (j := 1) rfl
  have oz := bo.1
  have oz' : w2.heap.size < w5.heap.size + 1 := by omega
  clear HAC
  have HAC := Lib.hid (HA2.out.trans HAA5.out)
  have c0 := (HRO.out.aft HAC.out).cell (j := 0) rfl
  have c1 := (HRO.out.aft HAC.out).cell (j := 1) rfl
  have cz := (HRO.out.aft HAC.out).1
  have cp : w.heap.size < w5.heap.size + 1 := by omega
  have HZW45 := Lib.hid a5.size
  clear a5 aW5 ob5 hL5 bo
  go_wp2_with fail
  rw [← hW5]
  clear hW5
  refine (D2.out _ _ _ _ W5 (HAW.out.trans (HA2.out.trans (HA3.out.trans (HA4.out.trans HA5.out)))) (schs_aft (HA3.out.trans (HA4.out.trans HA5.out)) HG1.out) (tabs_aft (HA3.out.trans (HA4.out.trans HA5.out)) HG2.out)).mono ?_
  rintro e w6 ⟨hs6, ht6, L6, hL6, rfl, a6, ob6⟩
  (try dsimp only)
  obtain ⟨W6, hW6⟩ : ∃ W6, W6 = w6.alloc (.cells #[.slice hs6.a Y.schemas.length hs6.c, .slice ht6.a Y.tables.length ht6.c] 45) := ⟨_, rfl⟩
  have aW6 : Aft w6 W6 := by rw [hW6]; exact (Aft.refl _).alloc _
  have HB6 := Lib.hid (show RowAt W6 w6.heap.size [.slice hs6.a Y.schemas.length hs6.c, .slice ht6.a Y.tables.length ht6.c] by rw [hW6]; exact box_row2 (Aft.refl _))
  have HA6 := Lib.hid (a6.trans aW6)
  have HO6 := Lib.hid (ob6.aft aW6)
  have HL6 := Lib.hid (show L6.map OTab.t = Y.tables from hL6)
  have HLT6 := Lib.hid ob6.lt
  have HZ6 := Lib.hid aW6.size
  have HAA6 := Lib.hid ((HA3.out.trans (HA4.out.trans HA5.out)).trans a6)
  have HZW56 := Lib.hid (show W5.heap.size ≤ w6.heap.size from a6.size)
  clear a6 aW6 ob6 hL6 HAC
  go_wp2_with fail
  rw [← hW6]
  clear hW6
  refine (schemas_any W6).mono ?_
  rintro e w7 ⟨rfl, a7⟩
  have A67 := HA6.out.trans a7
  have A57 := HA5.out.trans A67
  have A47 := HA4.out.trans A57
  have A37 := HA3.out.trans A47
  have O3 := HO3.out.aft A47
  have O4 := HO4.out.aft A57
  have O5 := HO5.out.aft A67
  have O6 := HO6.out.aft a7
  have zz3 : W2.heap.size ≤ w3.heap.size := HAA3.out.size
  have zz4 : w3.heap.size ≤ W3.heap.size := HZ3.out
  have zz5 : W3.heap.size ≤ W4.heap.size := HA4.out.size
  have zz6 : W4.heap.size ≤ W5.heap.size := HA5.out.size
  have zz7 : w5.heap.size ≤ W5.heap.size := HZ5.out
  have zz8 : W5.heap.size ≤ w7.heap.size := A67.size
  have zz9 : W4.heap.size ≤ w5.heap.size := HZW45.out
  have HT1 := Lib.hid (told2_in (X, g) o As caps At capt hsa hsc hta htc hs3 ht3 hs4 ht4 L3 L4 W2 w7 W2.heap.size w3.heap.size W3.heap.size HSX.out HL3.out O3 (fun g hg => (HLT3.out g hg).2) (by omega) HL4.out O4 (Nat.le_refl _) A37 (schs_aft (HAW.out.trans HA2.out) HS.out) (tabs_aft (HAW.out.trans HA2.out) HT.out) HG1.out HG2.out)
  have b3 := HB3.out.aft A47
  have b4 := HB4.out.aft A57
  have b5 := HB5.out.aft A67
  have b6 := HB6.out.aft a7
  have bo := HBO.out.aft A37
  have br := HRO.out.aft (HA2.out.trans A37)
  have HALL := Lib.hid (show ∀ v : World, Kb (fun k => W2.heap.size ≤ k ∧ k < w3.heap.size) w7 v → Aft W2 v → RowAt v w5.heap.size [.slice hs5.a Y.schemas.length hs5.c, .slice ht5.a Y.tables.length ht5.c] ∧ RowAt v w6.heap.size [.slice hs6.a Y.schemas.length hs6.c, .slice ht6.a Y.tables.length ht6.c] ∧ RowAt v w2.heap.size [.slice hsa o.schemas.length hsc, .slice hta o.tables.length htc] ∧ RowAt v w.heap.size [.slice As o.schemas.length caps, .slice At o.tables.length capt] ∧ Calls Try.prog 41 #[.agg #[.slice hs5.a Y.schemas.length hs5.c, .slice ht5.a Y.tables.length ht5.c], .int .i64 h, .agg #[.slice hs6.a Y.schemas.length hs6.c, .slice ht6.a Y.tables.length ht6.c], .int .i64 h, .agg #[.slice As o.schemas.length caps, .slice At o.tables.length capt], .agg #[.slice hsa o.schemas.length hsc, .slice hta o.tables.length htc]] v fun e' w' => e' = .returned (.bool true) ∧ Kb (fun k => W4.heap.size ≤ k ∧ k < w5.heap.size) v w' ∧ Aft W2 w' from fun v kb av => by
    have O5v := O5.kb kb (fun g hg hk => by have := (O5.lt g hg).1; omega)
    have O6v := O6.kb kb (fun g hg hk => by have := (O6.lt g hg).1; omega)
    refine ⟨kb.row b5 (by omega), kb.row b6 (by have := HZW56.out; omega), HBO.out.aft av, HRO.out.aft (HA2.out.trans av), ?_⟩
    exact told2_in (Y, h) o As caps At capt hsa hsc hta htc hs5 ht5 hs6 ht6 L5 L6 W2 v W4.heap.size w5.heap.size W5.heap.size HSY.out HL5.out O5v (fun g hg => (HLT5.out g hg).2) (by have := kb.size; omega) HL6.out O6v (by omega) av (schs_aft (HAW.out.trans HA2.out) HS.out) (tabs_aft (HAW.out.trans HA2.out) HT.out) HG1.out HG2.out)
  have p0 := b3.cell (j := 0) rfl
  have p1 := b3.cell (j := 1) rfl
  have p2 := b3.1
  have p3 := b4.cell (j := 0) rfl
  have p4 := b4.cell (j := 1) rfl
  have p5 := b4.1
  have o0 := bo.cell (j := 0) rfl
  have o1 := bo.cell (j := 1) rfl
  have oz := bo.1
  have c0 := br.cell (j := 0) rfl
  have c1 := br.cell (j := 1) rfl
  have cz := br.1
  clear a7 A67 A57 A47 A37 O3 O4 O5 O6 b3 b4 b5 b6 bo br
  go_wp2_with fail
  refine HT1.out.mono ?_
  rintro e w8 ⟨rfl, k8, a8⟩
  obtain ⟨r5, r6, ro, rr, ct⟩ := HALL.out w8 k8 a8
  have CT := Lib.hid ct
  have p0 := r5.cell (j := 0) rfl
  have p1 := r5.cell (j := 1) rfl
  have p2 := r5.1
  have p3 := r6.cell (j := 0) rfl
  have p4 := r6.cell (j := 1) rfl
  have p5 := r6.1
  have o0 := ro.cell (j := 0) rfl
  have o1 := ro.cell (j := 1) rfl
  have oz := ro.1
  have c0 := rr.cell (j := 0) rfl
  have c1 := rr.cell (j := 1) rfl
  have cz := rr.1
  clear k8 a8 r5 r6 ro rr ct HT1 HALL
  go_wp2_with fail
  refine CT.out.mono ?_
  rintro e w9 ⟨rfl, _, a9⟩
  have HA9 := Lib.hid (HAW.out.trans (HA2.out.trans a9))
  clear a9 CT
  go_wp2_with fail
  go_ret
  exact ⟨rfl, HA9.out⟩
end Go.Proofs.Ytcdhljcpoopfaaa
/- From a walk of a law (it returns true and keeps what was there, whatever its arguments read as) to the law's row. -/
namespace Go.Proofs.Ytcdhljcpoopfaaa
open Go.ChangeShapes Go.WideShapes Go.ChangeAt Go.RowKit

section
variable {H : Type} {enc : TypeId × Value → H} {P : Program} {w : World}

/-- an argument that reads -/
def RdV (enc : TypeId × Value → H) (P : Program) (w : World) (t : TypeId) (v : Value) : Prop :=
  Rd enc P w t v.cells.toList ∧ ∃ base, Value.okWide P w .any base t v

theorem RdV.struct {t : TypeId} {fs : Array Field} {v : Value} (ht : P.underlying t = some (.struct fs)) (h : RdV enc P w t v) : ∃ cs : List Value, v = .agg cs.toArray ∧ Rd enc P w t cs := by
  obtain ⟨h1, base, h2⟩ := h
  obtain ⟨cs, rfl, _⟩ := okWide_struct ht h2
  exact ⟨cs.toList, by simp, h1⟩
theorem cell_of_cells {v x : Value} (h : v.cells.toList = [x]) (hn : ∀ cs, v ≠ .agg cs) : v = x := by
  cases v <;> simp [Value.cells] at h <;> first | exact h | exact absurd rfl (hn _)
theorem okWide_not_agg {t : TypeId} {v : Value} {base : Nat} {d : TypeDesc} (ht : P.underlying t = some d) (hd : (∀ fs, d ≠ .struct fs) ∧ (∀ n e, d ≠ .array n e)) (h : Value.okWide P w .any base t v) : ∀ cs, v ≠ .agg cs := by
  intro cs e
  subst e
  unfold Value.okWide at h
  rw [ht] at h
  cases d <;> simp_all [Cell.okWide, Cell.ok]
theorem RdV.string {t : TypeId} {v : Value} (ht : P.underlying t = some .string) (h : RdV enc P w t v) : ∃ s : ByteArray, v = .string s ∧ Small s.size := by
  obtain ⟨h1, base, h2⟩ := h
  obtain ⟨s, hc, hs⟩ := h1.string ht
  exact ⟨s, cell_of_cells hc (okWide_not_agg ht (by simp) h2), hs⟩
theorem RdV.int {t : TypeId} {k : IntKind} {v : Value} (ht : P.underlying t = some (.int k)) (h : RdV enc P w t v) : ∃ n : Int, v = .int k n ∧ (Lit.int k n).wf = true := by
  obtain ⟨h1, base, h2⟩ := h
  obtain ⟨s, hc, hs⟩ := h1.int ht
  exact ⟨s, cell_of_cells hc (okWide_not_agg ht (by simp) h2), hs⟩
theorem RdV.slice {t e : TypeId} {v : Value} (ht : P.underlying t = some (.slice e)) (h : RdV enc P w t v) : Rd enc P w t [v] := by
  obtain ⟨h1, base, h2⟩ := h
  have hn := okWide_not_agg ht (by simp) h2
  have : v.cells.toList = [v] := by cases v <;> first | rfl | exact absurd rfl (hn _)
  rwa [this] at h1

theorem trodAll_rd : ∀ {ts : List TypeId} {vs : List Value} {ds : List (DataW H)} {p : List MemPlace}, DataW.TrodAll enc P w 0 (fun _ => true) true ts vs ds p → (∀ n ∈ DataW.weightsEach P ts ds, n ≤ 140737488351232) →
    vs.length = ts.length ∧ ds.length = ts.length ∧ ∀ (j : Nat) (t : TypeId) (v : Value), ts[j]? = some t → vs[j]? = some v → Rd enc P w t v.cells.toList
  | [], vs, ds, p, h, _ => by
    cases vs <;> cases ds <;> simp [DataW.TrodAll] at h
    exact ⟨rfl, rfl, fun j t v ht => by simp at ht⟩
  | t :: ts, vs, ds, p, h, hw => by
    obtain ⟨v, vs', d, ds', p1, q1, rfl, rfl, rfl, ⟨fuel, h1⟩, h2⟩ := trodAll_cons h
    simp only [DataW.weightsEach, List.mem_append] at hw
    obtain ⟨l1, l2, ih⟩ := trodAll_rd h2 (fun n hn => hw n (.inr hn))
    refine ⟨by simp [l1], by simp [l2], fun j t' v' ht hv => ?_⟩
    cases j with
    | zero =>
      simp at ht hv
      subst ht; subst hv
      exact ⟨fuel, _, h1, fun n hn => hw n (.inl hn)⟩
    | succ j => exact ih j t' v' (by simpa using ht) (by simpa using hv)
theorem trodAll_below {W W' : World} (hl : laidOutB P = true) (hb : Below W.heap.size W W') : ∀ {ts : List TypeId} {vs : List Value} {ds : List (DataW H)} {p : List MemPlace}, (∀ t ∈ ts, P.readableRec t = true ∧ t < P.types.size) →
    DataW.TrodAll enc P W 0 (fun _ => true) true ts vs ds p → DataW.TrodAll enc P W' 0 (fun b => decide (b < W.heap.size)) true ts vs ds p
  | [], vs, ds, p, _, h => by
    cases vs <;> cases ds <;> simp [DataW.TrodAll] at h ⊢
    exact h
  | t :: ts, vs, ds, p, ht, h => by
    obtain ⟨v, vs', d, ds', p1, q1, rfl, rfl, rfl, h1, h2⟩ := trodAll_cons h
    have lt0 : ∀ x ∈ p1, x.block < W.heap.size := by obtain ⟨m, hm⟩ := h1; exact DataW.trod_lt m _ _ _ hm
    exact trodAll_cons_mk (Below.trod hl (ht t (by simp)).1 (ht t (by simp)).2 h1 hb lt0) (trodAll_below hl hb (fun x hx => ht x (by simp [hx])) h2)
end

theorem law_lifted {C : Checked} {os : Os} {f : FuncId} {fn : Func} {s : ChangeSpec} {tb : TypeId} (H : Type) (enc : TypeId × Value → H)
    (own : ownKnob C.prog.godebug = none) (started : os.Started) (noInit : C.prog.inits.idxOf? f = none) (hfn : C.prog.funcs[f]? = some fn)
    (witness : ∃ (w : World) (tape : Tape) (i : Input), w.os = os ∧ (w.forCall tape i).Shaped C.prog ∧ i.vars = [] ∧ Input.okWide C.prog (w.forCall tape i) .any w.heap.size f i ∧
      s.pre6 enc C.prog fn [] false (w.forCall tape i).memory i.args ∧ ({} : Assume).holds C.prog (lone (Frame.enter C.prog f i.args .normal) [] (w.forCall tape i)))
    (hvars : s.vars = []) (hres : fn.resultTypes = #[tb]) (htb : C.prog.underlying tb = some .bool)
    (hspec : ∀ ds : List (DataW H), ds.length = fn.params.size → s.fn H ds = { results := [.lit (.bool true)], args := ds })
    (laid : laidOutB C.prog = true) (hty : ∀ t ∈ fn.params.toList, C.prog.readableRec t = true ∧ t < C.prog.types.size)
    (walk : ∀ (W : World) (vs : List Value), vs.length = fn.params.size → (∀ (j : Nat) (t : TypeId) (v : Value), fn.params[j]? = some t → vs[j]? = some v → RdV enc C.prog W t v) → Calls C.prog f vs.toArray W fun e w' => e = .returned (.bool true) ∧ Aft W w') :
    ReturnsInHanded {} C os f .any (s.pre6 enc C.prog fn [] false) (s.post enc C.prog fn false true false false) := by
  refine returnsInHanded_of_change_sized own started noInit hfn witness ?_
  intro W base args ds gs before hval hW _ hsz _
  have hW' := hW
  obtain ⟨p, q, hA, hV, rfl, _, _⟩ := hW
  rw [hvars] at hV
  obtain ⟨rfl, rfl⟩ := trodVars_none hV
  have hw : ∀ n ∈ DataW.weightsEach C.prog fn.params.toList ds, n ≤ 140737488351232 := by
    have e : s.plain.varTypes C.prog = [] := by
      simp [ChangeSpec.plain, hvars, DataSpec.varTypes]
    rw [e, List.append_nil, List.append_nil] at hsz
    intro n hn
    have := List.all_eq_true.1 hsz n hn
    have h2 : n ≤ reachBytes := by simpa using this
    exact h2
  obtain ⟨l1, l2, hrd⟩ := trodAll_rd hA hw
  have hlen : args.toList.length = fn.params.size := by simpa using l1
  refine ((walk W args.toList hlen fun j t v ht hv => ⟨hrd j t v (by simpa using ht) hv, base, hval j t v ht (by simpa using hv)⟩)).mono fun e W' ⟨he, haft⟩ => ?_
  subst he
  have hs := hspec ds (by simpa using l2)
  refine ⟨_, rfl, ds, [], p ++ [], [], p, [], hW', ?_, ?_, ?_, ?_, fun h => by cases h⟩
  · rw [List.append_nil, hs, hres]
    exact trodAll_mk1 (shut_bool htb _)
  · rw [List.append_nil, hs]
    exact trodAll_below laid haft hty hA
  · rw [List.append_nil, hs, hvars]
    rfl
  · exact haft.frame _
end Go.Proofs.Ytcdhljcpoopfaaa
