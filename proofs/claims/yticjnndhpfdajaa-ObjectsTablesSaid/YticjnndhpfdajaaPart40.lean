/- Contracts of the program, part 40. -/
import Derived.Test.YticjnndhpfdajaaPart39
/- The law ObjectsTables. -/
namespace Go.Proofs.Yticjnndhpfdajaa
open Go.RowKit Go.Deep
set_option maxRecDepth 100000
set_option linter.unusedVariables false
set_option maxHeartbeats 16000000 in
theorem law_tables (o : Objs) (t : Tab) (Ac : Option Addr) (cc : Nat) (Ar : Option Addr) (cr : Nat) (s n : ByteArray) (As : Option Addr) (caps : Nat) (At : Option Addr) (capt : Nat) (w : World) (hsch : SlAt w 2 SchR As caps o.schemas) (htab : SlAt w 5 TabR At capt o.tables) (hcs : SlAt w 3 ColR Ac cc t.cols) (hrs : SlAt w 8 RulR Ar cr t.rules) (s1 : Small t.schema.size) (s2 : Small t.name.size) (s3 : Small t.owner.size) :
    Calls Try.prog 3 #[.agg #[.slice As o.schemas.length caps, .slice At o.tables.length capt], .agg #[.string t.schema, .string t.name, .string t.owner, .slice Ac t.cols.length cc, .slice Ar t.rules.length cr], .string s, .string n] w
      fun e w' => e = .returned (.bool true) ∧ Aft w w' := by
  have sm : SmO o := ⟨sm_schs hsch, sm_tabs htab⟩
  have CL := Lib.hid (show ∀ w', Aft w w' → _ from fun w' a => large_mod o As caps At capt w' (schs_aft a hsch) (tabs_aft a htab))
  obtain ⟨⟨X, g⟩, hXr⟩ : ∃ fr, chgR o (addTabR t o) = fr := ⟨_, rfl⟩
  obtain ⟨⟨Y, h⟩, hYr⟩ : ∃ fr, chgR o (dropTabR s n o) = fr := ⟨_, rfl⟩
  have HSX := Lib.hid (show SmO X by have : SmO (chgR o (addTabR t o)).1 := smO_addTab sm ⟨sm_cols hcs, sm_ruls hrs, s1, s2, s3⟩; rw [hXr] at this; exact this)
  have HSY := Lib.hid (show SmO Y by have : SmO (chgR o (dropTabR s n o)).1 := smO_chg (smO_dropTab sm); rw [hYr] at this; exact this)
  have C1 := Lib.hid (show ∀ w', Aft w w' → Calls Try.prog 6 #[.agg #[.slice As o.schemas.length caps, .slice At o.tables.length capt], .agg #[.string t.schema, .string t.name, .string t.owner, .slice Ac t.cols.length cc, .slice Ar t.rules.length cr]] w' (ObjP w' (X, g)) from fun w' a => hXr ▸ addTable_in o As caps At capt t Ac cc Ar cr w' (schs_aft a hsch) (tabs_aft a htab) (cols_aft a hcs) (ruls_aft a hrs) s1 s2 s3)
  have D1 := Lib.hid (show ∀ (A : Option Addr) (ca : Nat) (A2 : Option Addr) (ca2 : Nat) (w' : World), Aft w w' → SlAt w' 2 SchR A ca o.schemas → SlAt w' 5 TabR A2 ca2 o.tables → Calls Try.prog 7 #[.agg #[.slice A o.schemas.length ca, .slice A2 o.tables.length ca2], .agg #[.string t.schema, .string t.name, .string t.owner, .slice Ac t.cols.length cc, .slice Ar t.rules.length cr]] w' (ObjP w' (X, g)) from fun A ca A2 ca2 w' a h1 h2 => hXr ▸ rAddTable_in o A ca A2 ca2 t Ac cc Ar cr w' h1 h2 (cols_aft a hcs) (ruls_aft a hrs) s1 s2 s3)
  have C2 := Lib.hid (show ∀ w', Aft w w' → Calls Try.prog 8 #[.agg #[.slice As o.schemas.length caps, .slice At o.tables.length capt], .string s, .string n] w' (ObjP w' (Y, h)) from fun w' a => hYr ▸ dropTable_in o As caps At capt s n w' (schs_aft a hsch) (tabs_aft a htab))
  have D2 := Lib.hid (show ∀ (A : Option Addr) (ca : Nat) (A2 : Option Addr) (ca2 : Nat) (w' : World), Aft w w' → SlAt w' 2 SchR A ca o.schemas → SlAt w' 5 TabR A2 ca2 o.tables → Calls Try.prog 9 #[.agg #[.slice A o.schemas.length ca, .slice A2 o.tables.length ca2], .string s, .string n] w' (ObjP w' (Y, h)) from fun A ca A2 ca2 w' a h1 h2 => hYr ▸ rDropTable_in o A ca A2 ca2 s n w' h1 h2)
  have HS := Lib.hid hsch
  have HT := Lib.hid htab
  obtain ⟨W, hW⟩ : ∃ W, W = (w.alloc (.cells #[.slice As o.schemas.length caps, .slice At o.tables.length capt] 25)).alloc (.cells #[.string t.schema, .string t.name, .string t.owner, .slice Ac t.cols.length cc, .slice Ar t.rules.length cr] 29) := ⟨_, rfl⟩
  have aW : Aft w W := by rw [hW]; exact ((Aft.refl w).alloc _).alloc _
  have HRO := Lib.hid (show RowAt W w.heap.size [.slice As o.schemas.length caps, .slice At o.tables.length capt] by rw [hW]; exact (box_row2 (Aft.refl _)).aft ((Aft.refl _).alloc _))
  have HR0 := Lib.hid (show RowAt W (w.heap.size + 1) [.string t.schema, .string t.name, .string t.owner, .slice Ac t.cols.length cc, .slice Ar t.rules.length cr] by
    rw [hW]
    have := (box_row2 (w := w.alloc (.cells #[.slice As o.schemas.length caps, .slice At o.tables.length capt] 25)) (c := [.string t.schema, .string t.name, .string t.owner, .slice Ac t.cols.length cc, .slice Ar t.rules.length cr]) (t := 29) (Aft.refl _)).aft (Aft.refl _)
    simpa using this)
  have l1 : w.heap.size < w.heap.size + 1 := by omega
  have l2 : w.heap.size < w.heap.size + 1 + 1 := by omega
  have l3 : w.heap.size < w.heap.size + 1 + 1 + 1 := by omega
  have HAW := Lib.hid aW
  clear sm hsch htab hXr hYr aW hcs hrs s1 s2 s3
  go_enter Try.func3, Try.ntmps3
  go_wp2_with fail
  rw [← hW]
  clear hW
  refine (CL.out W HAW.out).mono ?_
  rintro e w1 ⟨b, rfl, hmod, a1⟩
  have HA1 := Lib.hid a1
  clear a1 CL
  cases b
  case true =>
    go_wp2_with fail
    go_ret
    exact ⟨rfl, HAW.out.trans HA1.out⟩
  have HM := Lib.hid (hmod rfl)
  clear hmod
  have q00 := (HR0.out.aft HA1.out).cell (j := 0) rfl
  have q01 := (HR0.out.aft HA1.out).cell (j := 1) rfl
  have q02 := (HR0.out.aft HA1.out).cell (j := 2) rfl
  have q03 := (HR0.out.aft HA1.out).cell (j := 3) rfl
  have q04 := (HR0.out.aft HA1.out).cell (j := 4) rfl
  have q0z := (HR0.out.aft HA1.out).1
  have c0 := (HRO.out.aft HA1.out).cell (j := 0) rfl
  have c1 := (HRO.out.aft HA1.out).cell (j := 1) rfl
  have cz := (HRO.out.aft HA1.out).1
  by_cases m1 : 3000 < t.cols.length
  · have m1' : (3000 : Int) < (t.cols.length : Int) := by omega
    go_wp2_with fail
    go_ret
    exact ⟨rfl, HAW.out.trans HA1.out⟩
  have m1' : ¬ (3000 : Int) < (t.cols.length : Int) := by omega
  by_cases m2 : 3000 < t.rules.length
  · have m2' : (3000 : Int) < (t.rules.length : Int) := by omega
    clear m1
    go_wp2_with fail
    go_ret
    exact ⟨rfl, HAW.out.trans HA1.out⟩
  have m2' : ¬ (3000 : Int) < (t.rules.length : Int) := by omega
  clear m1 m2
  go_wp2_with fail
  refine (rOwn_in o As caps At capt w1 (schs_aft (HAW.out.trans HA1.out) HS.out) (tabs_aft (HAW.out.trans HA1.out) HT.out) HM.out).mono ?_
  rintro e w2 ⟨hs, ht, L, hL, rfl, a2, ob⟩
  have e1 : objOf o.schemas L = o := by unfold objOf; rw [hL]
  have HF1 := Lib.hid (ob.schs (by rw [e1]; exact ⟨sm_schs HS.out, sm_tabs HT.out⟩))
  have HF2 := Lib.hid (show SlAt w2 5 TabR ht.a ht.c o.tables by have := ob.tabs (by rw [e1]; exact ⟨sm_schs HS.out, sm_tabs HT.out⟩); rw [hL] at this; exact this)
  obtain ⟨hsa, hsn, hsc⟩ := hs
  obtain ⟨hta, htn, htc⟩ := ht
  obtain ⟨W2, hW2⟩ : ∃ W2, W2 = w2.alloc (.cells #[.slice hsa o.schemas.length hsc, .slice hta o.tables.length htc] 25) := ⟨_, rfl⟩
  have aW2 : Aft w2 W2 := by rw [hW2]; exact (Aft.refl _).alloc _
  have HBO := Lib.hid (show RowAt W2 w2.heap.size [.slice hsa o.schemas.length hsc, .slice hta o.tables.length htc] by rw [hW2]; exact box_row2 (Aft.refl _))
  have HA2 := Lib.hid (HA1.out.trans (a2.trans aW2))
  have HG1 := Lib.hid (schs_aft aW2 HF1.out)
  have HG2 := Lib.hid (tabs_aft aW2 HF2.out)
  have HAw2 := Lib.hid (HA1.out.trans a2)
  have q00 := (HR0.out.aft HAw2.out).cell (j := 0) rfl
  have q01 := (HR0.out.aft HAw2.out).cell (j := 1) rfl
  have q02 := (HR0.out.aft HAw2.out).cell (j := 2) rfl
  have q03 := (HR0.out.aft HAw2.out).cell (j := 3) rfl
  have q04 := (HR0.out.aft HAw2.out).cell (j := 4) rfl
  have q0z := (HR0.out.aft HAw2.out).1
  have c0 := (HRO.out.aft HAw2.out).cell (j := 0) rfl
  have c1 := (HRO.out.aft HAw2.out).cell (j := 1) rfl
  have cz := (HRO.out.aft HAw2.out).1
  clear a2 ob hL e1 HF1 HF2 aW2
  have cp : w.heap.size < w2.heap.size + 1 := by omega
  have q0p : w.heap.size + 1 < w2.heap.size + 1 := by omega
  go_wp2_with fail
  rw [← hW2]
  clear hW2
  refine (C1.out W2 (HAW.out.trans HA2.out)).mono ?_
  rintro e w3 ⟨hs3, ht3, L3, hL3, rfl, a3, ob3⟩
  (try dsimp only)
  obtain ⟨W3, hW3⟩ : ∃ W3, W3 = w3.alloc (.cells #[.slice hs3.a X.schemas.length hs3.c, .slice ht3.a X.tables.length ht3.c] 25) := ⟨_, rfl⟩
  have aW3 : Aft w3 W3 := by rw [hW3]; exact (Aft.refl _).alloc _
  have HB3 := Lib.hid (show RowAt W3 w3.heap.size [.slice hs3.a X.schemas.length hs3.c, .slice ht3.a X.tables.length ht3.c] by rw [hW3]; exact box_row2 (Aft.refl _))
  have HA3 := Lib.hid (a3.trans aW3)
  have HO3 := Lib.hid (ob3.aft aW3)
  have HL3 := Lib.hid (show L3.map OTab.t = X.tables from hL3)
  have HLT3 := Lib.hid ob3.lt
  have HZ3 := Lib.hid aW3.size
  have HAA3 := Lib.hid ((Aft.refl W2).trans a3)
  have bo := HBO.out.aft HAA3.out
  have o0 := bo.cell (j := 0) rfl
  have o1 := bo.cell (j := 1) rfl
  have oz := bo.1
  have oz' : w2.heap.size < w3.heap.size + 1 := by omega
  have HAC := Lib.hid (HA2.out.trans HAA3.out)
  have q00 := (HR0.out.aft HAC.out).cell (j := 0) rfl
  have q01 := (HR0.out.aft HAC.out).cell (j := 1) rfl
  have q02 := (HR0.out.aft HAC.out).cell (j := 2) rfl
  have q03 := (HR0.out.aft HAC.out).cell (j := 3) rfl
  have q04 := (HR0.out.aft HAC.out).cell (j := 4) rfl
  have q0z := (HR0.out.aft HAC.out).1
  have c0 := (HRO.out.aft HAC.out).cell (j := 0) rfl
  have c1 := (HRO.out.aft HAC.out).cell (j := 1) rfl
  have cz := (HRO.out.aft HAC.out).1
  have cp : w.heap.size < w3.heap.size + 1 := by omega
  have q0p : w.heap.size + 1 < w3.heap.size + 1 := by omega
  clear a3 aW3 ob3 hL3 bo
  go_wp2_with fail
  rw [← hW3]
  clear hW3
  refine (D1.out _ _ _ _ W3 (HAW.out.trans (HA2.out.trans HA3.out)) (schs_aft HA3.out HG1.out) (tabs_aft HA3.out HG2.out)).mono ?_
  rintro e w4 ⟨hs4, ht4, L4, hL4, rfl, a4, ob4⟩
  (try dsimp only)
  obtain ⟨W4, hW4⟩ : ∃ W4, W4 = w4.alloc (.cells #[.slice hs4.a X.schemas.length hs4.c, .slice ht4.a X.tables.length ht4.c] 25) := ⟨_, rfl⟩
  have aW4 : Aft w4 W4 := by rw [hW4]; exact (Aft.refl _).alloc _
  have HB4 := Lib.hid (show RowAt W4 w4.heap.size [.slice hs4.a X.schemas.length hs4.c, .slice ht4.a X.tables.length ht4.c] by rw [hW4]; exact box_row2 (Aft.refl _))
  have HA4 := Lib.hid (a4.trans aW4)
  have HO4 := Lib.hid (ob4.aft aW4)
  have HL4 := Lib.hid (show L4.map OTab.t = X.tables from hL4)
  have HLT4 := Lib.hid ob4.lt
  have HZ4 := Lib.hid aW4.size
  have HAA4 := Lib.hid (HA3.out.trans a4)
  clear HAC
  have HAC := Lib.hid (HA2.out.trans HAA4.out)
  have q00 := (HR0.out.aft HAC.out).cell (j := 0) rfl
  have q01 := (HR0.out.aft HAC.out).cell (j := 1) rfl
  have q02 := (HR0.out.aft HAC.out).cell (j := 2) rfl
  have q03 := (HR0.out.aft HAC.out).cell (j := 3) rfl
  have q04 := (HR0.out.aft HAC.out).cell (j := 4) rfl
  have q0z := (HR0.out.aft HAC.out).1
  have c0 := (HRO.out.aft HAC.out).cell (j := 0) rfl
  have c1 := (HRO.out.aft HAC.out).cell (j := 1) rfl
  have cz := (HRO.out.aft HAC.out).1
  have cp : w.heap.size < w4.heap.size + 1 := by omega
  have q0p : w.heap.size + 1 < w4.heap.size + 1 := by omega
  clear a4 aW4 ob4 hL4
  go_wp2_with fail
  rw [← hW4]
  clear hW4
  refine (C2.out W4 (HAW.out.trans (HA2.out.trans (HA3.out.trans HA4.out)))).mono ?_
  rintro e w5 ⟨hs5, ht5, L5, hL5, rfl, a5, ob5⟩
  (try dsimp only)
  obtain ⟨W5, hW5⟩ : ∃ W5, W5 = w5.alloc (.cells #[.slice hs5.a Y.schemas.length hs5.c, .slice ht5.a Y.tables.length ht5.c] 25) := ⟨_, rfl⟩
  have aW5 : Aft w5 W5 := by rw [hW5]; exact (Aft.refl _).alloc _
  have HB5 := Lib.hid (show RowAt W5 w5.heap.size [.slice hs5.a Y.schemas.length hs5.c, .slice ht5.a Y.tables.length ht5.c] by rw [hW5]; exact box_row2 (Aft.refl _))
  have HA5 := Lib.hid (a5.trans aW5)
  have HO5 := Lib.hid (ob5.aft aW5)
  have HL5 := Lib.hid (show L5.map OTab.t = Y.tables from hL5)
  have HLT5 := Lib.hid ob5.lt
  have HZ5 := Lib.hid aW5.size
  have HAA5 := Lib.hid ((HA3.out.trans HA4.out).trans a5)
  have bo := HBO.out.aft HAA5.out
  have o0 := bo.cell (j := 0) rfl
  have o1 := bo.cell (j := 1) rfl
  have oz := bo.1
  have oz' : w2.heap.size < w5.heap.size + 1 := by omega
  clear HAC
  have HAC := Lib.hid (HA2.out.trans HAA5.out)
  have q00 := (HR0.out.aft HAC.out).cell (j := 0) rfl
  have q01 := (HR0.out.aft HAC.out).cell (j := 1) rfl
  have q02 := (HR0.out.aft HAC.out).cell (j := 2) rfl
  have q03 := (HR0.out.aft HAC.out).cell (j := 3) rfl
  have q04 := (HR0.out.aft HAC.out).cell (j := 4) rfl
  have q0z := (HR0.out.aft HAC.out).1
  have c0 := (HRO.out.aft HAC.out).cell (j := 0) rfl
  have c1 := (HRO.out.aft HAC.out).cell (j := 1) rfl
  have cz := (HRO.out.aft HAC.out).1
  have cp : w.heap.size < w5.heap.size + 1 := by omega
  have q0p : w.heap.size + 1 < w5.heap.size + 1 := by omega
  have HZW45 := Lib.hid a5.size
  clear a5 aW5 ob5 hL5 bo
  go_wp2_with fail
  rw [← hW5]
  clear hW5
  refine (D2.out _ _ _ _ W5 (HAW.out.trans (HA2.out.trans (HA3.out.trans (HA4.out.trans HA5.out)))) (schs_aft (HA3.out.trans (HA4.out.trans HA5.out)) HG1.out) (tabs_aft (HA3.out.trans (HA4.out.trans HA5.out)) HG2.out)).mono ?_
  rintro e w6 ⟨hs6, ht6, L6, hL6, rfl, a6, ob6⟩
  (try dsimp only)
  obtain ⟨W6, hW6⟩ : ∃ W6, W6 = w6.alloc (.cells #[.slice hs6.a Y.schemas.length hs6.c, .slice ht6.a Y.tables.length ht6.c] 25) := ⟨_, rfl⟩
  have aW6 : Aft w6 W6 := by rw [hW6]; exact (Aft.refl _).alloc _
  have HB6 := Lib.hid (show RowAt W6 w6.heap.size [.slice hs6.a Y.schemas.length hs6.c, .slice ht6.a Y.tables.length ht6.c] by rw [hW6]; exact box_row2 (Aft.refl _))
  have HA6 := Lib.hid (a6.trans aW6)
  have HO6 := Lib.hid (ob6.aft aW6)
  have HL6 := Lib.hid (show L6.map OTab.t = Y.tables from hL6)
  have HLT6 := Lib.hid ob6.lt
  have HZ6 := Lib.hid aW6.size
  have HAA6 := Lib.hid ((HA3.out.trans (HA4.out.trans HA5.out)).trans a6)
  have HZW56 := Lib.hid (show W5.heap.size ≤ w6.heap.size from a6.size)
  clear a6 aW6 ob6 hL6 HAC
  go_wp2_with fail
  rw [← hW6]
  clear hW6
  refine (tables_any W6).mono ?_
  rintro e w7 ⟨rfl, a7⟩
  have A67 := HA6.out.trans a7
  have A57 := HA5.out.trans A67
  have A47 := HA4.out.trans A57
  have A37 := HA3.out.trans A47
  have O3 := HO3.out.aft A47
  have O4 := HO4.out.aft A57
  have O5 := HO5.out.aft A67
  have O6 := HO6.out.aft a7
  have zz3 : W2.heap.size ≤ w3.heap.size := HAA3.out.size
  have zz4 : w3.heap.size ≤ W3.heap.size := HZ3.out
  have zz5 : W3.heap.size ≤ W4.heap.size := HA4.out.size
  have zz6 : W4.heap.size ≤ W5.heap.size := HA5.out.size
  have zz7 : w5.heap.size ≤ W5.heap.size := HZ5.out
  have zz8 : W5.heap.size ≤ w7.heap.size := A67.size
  have zz9 : W4.heap.size ≤ w5.heap.size := HZW45.out
  have HT1 := Lib.hid (told2_in (X, g) o As caps At capt hsa hsc hta htc hs3 ht3 hs4 ht4 L3 L4 W2 w7 W2.heap.size w3.heap.size W3.heap.size HSX.out HL3.out O3 (fun g hg => (HLT3.out g hg).2) (by omega) HL4.out O4 (Nat.le_refl _) A37 (schs_aft (HAW.out.trans HA2.out) HS.out) (tabs_aft (HAW.out.trans HA2.out) HT.out) HG1.out HG2.out)
  have b3 := HB3.out.aft A47
  have b4 := HB4.out.aft A57
  have b5 := HB5.out.aft A67
  have b6 := HB6.out.aft a7
  have bo := HBO.out.aft A37
  have br := HRO.out.aft (HA2.out.trans A37)
  have HALL := Lib.hid (show ∀ v : World, Kb (fun k => W2.heap.size ≤ k ∧ k < w3.heap.size) w7 v → Aft W2 v → RowAt v w5.heap.size [.slice hs5.a Y.schemas.length hs5.c, .slice ht5.a Y.tables.length ht5.c] ∧ RowAt v w6.heap.size [.slice hs6.a Y.schemas.length hs6.c, .slice ht6.a Y.tables.length ht6.c] ∧ RowAt v w2.heap.size [.slice hsa o.schemas.length hsc, .slice hta o.tables.length htc] ∧ RowAt v w.heap.size [.slice As o.schemas.length caps, .slice At o.tables.length capt] ∧ Calls Try.prog 11 #[.agg #[.slice hs5.a Y.schemas.length hs5.c, .slice ht5.a Y.tables.length ht5.c], .int .i64 h, .agg #[.slice hs6.a Y.schemas.length hs6.c, .slice ht6.a Y.tables.length ht6.c], .int .i64 h, .agg #[.slice As o.schemas.length caps, .slice At o.tables.length capt], .agg #[.slice hsa o.schemas.length hsc, .slice hta o.tables.length htc]] v fun e' w' => e' = .returned (.bool true) ∧ Kb (fun k => W4.heap.size ≤ k ∧ k < w5.heap.size) v w' ∧ Aft W2 w' from fun v kb av => by
    have O5v := O5.kb kb (fun g hg hk => by have := (O5.lt g hg).1; omega)
    have O6v := O6.kb kb (fun g hg hk => by have := (O6.lt g hg).1; omega)
    refine ⟨kb.row b5 (by omega), kb.row b6 (by have := HZW56.out; omega), HBO.out.aft av, HRO.out.aft (HA2.out.trans av), ?_⟩
    exact told2_in (Y, h) o As caps At capt hsa hsc hta htc hs5 ht5 hs6 ht6 L5 L6 W2 v W4.heap.size w5.heap.size W5.heap.size HSY.out HL5.out O5v (fun g hg => (HLT5.out g hg).2) (by have := kb.size; omega) HL6.out O6v (by omega) av (schs_aft (HAW.out.trans HA2.out) HS.out) (tabs_aft (HAW.out.trans HA2.out) HT.out) HG1.out HG2.out)
  have p0 := b3.cell (j := 0) rfl
  have p1 := b3.cell (j := 1) rfl
  have p2 := b3.1
  have p3 := b4.cell (j := 0) rfl
  have p4 := b4.cell (j := 1) rfl
  have p5 := b4.1
  have o0 := bo.cell (j := 0) rfl
  have o1 := bo.cell (j := 1) rfl
  have oz := bo.1
  have c0 := br.cell (j := 0) rfl
  have c1 := br.cell (j := 1) rfl
  have cz := br.1
  clear a7 A67 A57 A47 A37 O3 O4 O5 O6 b3 b4 b5 b6 bo br
  go_wp2_with fail
  refine HT1.out.mono ?_
  rintro e w8 ⟨rfl, k8, a8⟩
  obtain ⟨r5, r6, ro, rr, ct⟩ := HALL.out w8 k8 a8
  have CT := Lib.hid ct
  have p0 := r5.cell (j := 0) rfl
  have p1 := r5.cell (j := 1) rfl
  have p2 := r5.1
  have p3 := r6.cell (j := 0) rfl
  have p4 := r6.cell (j := 1) rfl
  have p5 := r6.1
  have o0 := ro.cell (j := 0) rfl
  have o1 := ro.cell (j := 1) rfl
  have oz := ro.1
  have c0 := rr.cell (j := 0) rfl
  have c1 := rr.cell (j := 1) rfl
  have cz := rr.1
  clear k8 a8 r5 r6 ro rr ct HT1 HALL
  go_wp2_with fail
  refine CT.out.mono ?_
  rintro e w9 ⟨rfl, _, a9⟩
  have HA9 := Lib.hid (HAW.out.trans (HA2.out.trans a9))
  clear a9 CT
  go_wp2_with fail
  go_ret
  exact ⟨rfl, HA9.out⟩
end Go.Proofs.Yticjnndhpfdajaa
