/- Contracts of the program, part 38. -/
import Derived.Test.YticjnndhpfdajaaGreatPart32
import Derived.Test.YticjnndhpfdajaaGreatPart37
import Derived.Test.YticjnndhpfdajaaGreatPart25
import Derived.Test.YticjnndhpfdajaaGreatPart27
/- The law ObjectsRight. -/
namespace Go.Proofs.YticjnndhpfdajaaGreat
open Go.RowKit Go.Deep
set_option maxRecDepth 100000
set_option linter.unusedVariables false
theorem chk_chg {o : Objs} {x : Objs × Int} (hc : checkO o = true → x.2 = 0 → checkO x.1 = true) (hz : (chgR o x).2 = 0) : checkO (chgR o x).1 = true := by
  unfold chgR at hz ⊢
  split
  · rename_i h1
    rw [if_pos h1] at hz
    exact hc h1 hz
  · rename_i h1
    rw [if_neg h1] at hz
    exact absurd hz (by decide)
theorem smT_dropC {t : Tab} {s : ByteArray} (h : SmT t) : SmT (dropColF s t).1 := by
  unfold dropColF
  split
  · exact h
  · split
    · exact h
    · exact ⟨⟨Nat.le_trans (Nat.mul_le_mul_right _ (List.length_eraseIdx_le _ _)) h.1.1, fun c hc => h.1.2 c (List.mem_of_mem_eraseIdx hc)⟩, h.2.1, h.2.2.1, h.2.2.2.1, h.2.2.2.2⟩
set_option maxHeartbeats 16000000 in
theorem law_right (o : Objs) (t : Tab) (Ac : Option Addr) (cc : Nat) (Ar : Option Addr) (cr : Nat) (r : Rul) (An : Option Addr) (cn : Nat) (s nm : ByteArray) (As : Option Addr) (caps : Nat) (At : Option Addr) (capt : Nat) (w : World) (hsch : SlAt w 2 SchR As caps o.schemas) (htab : SlAt w 5 TabR At capt o.tables)
    (hcs : SlAt w 3 ColR Ac cc t.cols) (hrs : SlAt w 8 RulR Ar cr t.rules) (st : Small t.schema.size ∧ Small t.name.size ∧ Small t.owner.size) (hns : SlAt w 1 StrR An cn r.cols) (sr : Small r.name.size ∧ Small r.schema.size ∧ Small r.table.size ∧ Small r.key.size) (s1 : Small nm.size) :
    Calls Tryz.prog 5 #[.agg #[.slice As o.schemas.length caps, .slice At o.tables.length capt], .agg #[.string t.schema, .string t.name, .string t.owner, .slice Ac t.cols.length cc, .slice Ar t.rules.length cr], .agg #[.string r.name, .int .i64 r.kind, .slice An r.cols.length cn, .int .i64 r.low, .int .i64 r.high, .string r.schema, .string r.table, .string r.key], .string s, .string nm] w
      fun e w' => e = .returned (.bool true) ∧ Aft w w' := by
  have sm : SmO o := ⟨sm_schs hsch, sm_tabs htab⟩
  have hlen := hcs.len
  have hlen2 := hrs.len
  have hlen3 := hns.len
  have l1 : w.heap.size < w.heap.size + 1 := by omega
  have l2 : w.heap.size < w.heap.size + 1 + 1 := by omega
  have l3 : w.heap.size < w.heap.size + 1 + 1 + 1 := by omega
  obtain ⟨W, hW⟩ : ∃ W, W = ((w.alloc (.cells #[.slice As o.schemas.length caps, .slice At o.tables.length capt] 25)).alloc (.cells #[.string t.schema, .string t.name, .string t.owner, .slice Ac t.cols.length cc, .slice Ar t.rules.length cr] 50)).alloc (.cells #[.string r.name, .int .i64 r.kind, .slice An r.cols.length cn, .int .i64 r.low, .int .i64 r.high, .string r.schema, .string r.table, .string r.key] 29) := ⟨_, rfl⟩
  have aW : Aft w W := by rw [hW]; exact (((Aft.refl w).alloc _).alloc _).alloc _
  have r0 : RowAt W (w.heap.size) [.slice As o.schemas.length caps, .slice At o.tables.length capt] := by rw [hW]; exact (box_row2 (Aft.refl _)).aft (((Aft.refl _).alloc _).alloc _)
  have r1 : RowAt W (w.heap.size + 1) [.string t.schema, .string t.name, .string t.owner, .slice Ac t.cols.length cc, .slice Ar t.rules.length cr] := by
    rw [hW]
    have := (box_row2 (w := w.alloc (.cells #[.slice As o.schemas.length caps, .slice At o.tables.length capt] 25)) (c := [.string t.schema, .string t.name, .string t.owner, .slice Ac t.cols.length cc, .slice Ar t.rules.length cr]) (t := 50) (Aft.refl _)).aft ((Aft.refl _).alloc (.cells #[.string r.name, .int .i64 r.kind, .slice An r.cols.length cn, .int .i64 r.low, .int .i64 r.high, .string r.schema, .string r.table, .string r.key] 29))
    simpa using this
  have r2 : RowAt W (w.heap.size + 1 + 1) [.string r.name, .int .i64 r.kind, .slice An r.cols.length cn, .int .i64 r.low, .int .i64 r.high, .string r.schema, .string r.table, .string r.key] := by
    rw [hW]
    have := (box_row2 (w := (w.alloc (.cells #[.slice As o.schemas.length caps, .slice At o.tables.length capt] 25)).alloc (.cells #[.string t.schema, .string t.name, .string t.owner, .slice Ac t.cols.length cc, .slice Ar t.rules.length cr] 50)) (c := [.string r.name, .int .i64 r.kind, .slice An r.cols.length cn, .int .i64 r.low, .int .i64 r.high, .string r.schema, .string r.table, .string r.key]) (t := 29) (Aft.refl _))
    simpa using this
  have KF := Lib.hid (show ∀ V, Aft W V → (V.cell? ⟨w.heap.size, 0, none⟩ = some (.slice As o.schemas.length caps) ∧ V.cell? ⟨w.heap.size, 1, none⟩ = some (.slice At o.tables.length capt) ∧ w.heap.size < V.heap.size) ∧ (V.cell? ⟨w.heap.size + 1, 0, none⟩ = some (.string t.schema) ∧ V.cell? ⟨w.heap.size + 1, 1, none⟩ = some (.string t.name) ∧ V.cell? ⟨w.heap.size + 1, 2, none⟩ = some (.string t.owner) ∧ V.cell? ⟨w.heap.size + 1, 3, none⟩ = some (.slice Ac t.cols.length cc) ∧ V.cell? ⟨w.heap.size + 1, 4, none⟩ = some (.slice Ar t.rules.length cr) ∧ w.heap.size + 1 < V.heap.size) ∧ (V.cell? ⟨w.heap.size + 1 + 1, 0, none⟩ = some (.string r.name) ∧ V.cell? ⟨w.heap.size + 1 + 1, 1, none⟩ = some (.int .i64 r.kind) ∧ V.cell? ⟨w.heap.size + 1 + 1, 2, none⟩ = some (.slice An r.cols.length cn) ∧ V.cell? ⟨w.heap.size + 1 + 1, 3, none⟩ = some (.int .i64 r.low) ∧ V.cell? ⟨w.heap.size + 1 + 1, 4, none⟩ = some (.int .i64 r.high) ∧ V.cell? ⟨w.heap.size + 1 + 1, 5, none⟩ = some (.string r.schema) ∧ V.cell? ⟨w.heap.size + 1 + 1, 6, none⟩ = some (.string r.table) ∧ V.cell? ⟨w.heap.size + 1 + 1, 7, none⟩ = some (.string r.key) ∧ w.heap.size + 1 + 1 < V.heap.size) from fun V a => by
    have p0 := r0.aft a
    have p1 := r1.aft a
    have p2 := r2.aft a
    exact ⟨⟨p0.cell (j := 0) rfl, p0.cell (j := 1) rfl, p0.1⟩, ⟨p1.cell (j := 0) rfl, p1.cell (j := 1) rfl, p1.cell (j := 2) rfl, p1.cell (j := 3) rfl, p1.cell (j := 4) rfl, p1.1⟩, ⟨p2.cell (j := 0) rfl, p2.cell (j := 1) rfl, p2.cell (j := 2) rfl, p2.cell (j := 3) rfl, p2.cell (j := 4) rfl, p2.cell (j := 5) rfl, p2.cell (j := 6) rfl, p2.cell (j := 7) rfl, p2.1⟩⟩)
  have CL := Lib.hid (show ∀ V, Aft W V → _ from fun V a => large_mod o As caps At capt V (schs_aft (aW.trans a) hsch) (tabs_aft (aW.trans a) htab))
  obtain ⟨ck, hck⟩ : ∃ c, checkO o = c := ⟨_, rfl⟩
  have CK := Lib.hid (show ∀ V, Aft W V → Calls Tryz.prog 29 #[.agg #[.slice As o.schemas.length caps, .slice At o.tables.length capt]] V fun e w'' => e = .returned (.int .i64 (if ck = true then 0 else 63)) ∧ Aft V w'' from
    fun V a => (check_any o As caps At capt V (schs_aft (aW.trans a) hsch) (tabs_aft (aW.trans a) htab)).mono fun e w'' ⟨he, hw⟩ => ⟨he.trans (by unfold checkE; rw [hck]), hw⟩)
  have CKK := Lib.hid (show ∀ (X : Objs) (hs ht : Hd) (L : List OTab) (B : Nat) (V : World), SmO X → L.map OTab.t = X.tables → ObjIn V B hs ht X.schemas L → checkO X = true → Calls Tryz.prog 29 #[.agg #[.slice hs.a X.schemas.length hs.c, .slice ht.a X.tables.length ht.c]] V fun e w'' => e = .returned (.int .i64 0) ∧ Aft V w'' from
    fun X hs ht L B V smX hL ob hX => by
      have e1 : objOf X.schemas L = X := by unfold objOf; rw [hL]
      have g1 := ob.schs (by rw [e1]; exact smX)
      have g2 := ob.tabs (by rw [e1]; exact smX)
      rw [hL] at g2
      exact (check_any X hs.a hs.c ht.a ht.c V g1 g2).mono fun e w'' ⟨he, hw⟩ => ⟨he.trans (by unfold checkE; rw [hX]; rfl), hw⟩)
  obtain ⟨⟨X1, g1⟩, hX1⟩ : ∃ fr, chgR o (addSchR nm nm o) = fr := ⟨_, rfl⟩
  have HS1 := Lib.hid (show SmO X1 from by have : SmO (chgR o (addSchR nm nm o)).1 := smO_chg (smO_addSch sm s1 s1); rw [hX1] at this; exact this)
  have HK1 := Lib.hid (show g1 = 0 → checkO X1 = true from fun hz9 => by
    have := chk_chg (o := o) (x := addSchR nm nm o) (fun h hz => chk_addSch h hz) (by rw [hX1]; exact hz9)
    rw [hX1] at this
    exact this)
  have HN1 := Lib.hid (show ck = false → g1 = 63 from fun h => by have : (chgR o (addSchR nm nm o)).2 = 63 := (by unfold chgR; rw [hck, h]; rfl); rw [hX1] at this; exact this)
  have C1 := Lib.hid (show ∀ V, Aft W V → Calls Tryz.prog 23 #[.agg #[.slice As o.schemas.length caps, .slice At o.tables.length capt], .string nm, .string nm] V (ObjP V (X1, g1)) from fun V a => hX1 ▸ addSchema_in o As caps At capt nm nm V (schs_aft (aW.trans a) hsch) (tabs_aft (aW.trans a) htab) s1 s1)
  obtain ⟨⟨X2, g2⟩, hX2⟩ : ∃ fr, chgR o (addTabR t o) = fr := ⟨_, rfl⟩
  have HS2 := Lib.hid (show SmO X2 from by have : SmO (chgR o (addTabR t o)).1 := smO_addTab sm ⟨sm_cols hcs, sm_ruls hrs, st.1, st.2.1, st.2.2⟩; rw [hX2] at this; exact this)
  have HK2 := Lib.hid (show g2 = 0 → checkO X2 = true from fun hz9 => by
    have := chk_chg (o := o) (x := addTabR t o) (fun h hz => chk_addTab h hz) (by rw [hX2]; exact hz9)
    rw [hX2] at this
    exact this)
  have HN2 := Lib.hid (show ck = false → g2 = 63 from fun h => by have : (chgR o (addTabR t o)).2 = 63 := (by unfold chgR; rw [hck, h]; rfl); rw [hX2] at this; exact this)
  have C2 := Lib.hid (show ∀ V, Aft W V → Calls Tryz.prog 32 #[.agg #[.slice As o.schemas.length caps, .slice At o.tables.length capt], .agg #[.string t.schema, .string t.name, .string t.owner, .slice Ac t.cols.length cc, .slice Ar t.rules.length cr]] V (ObjP V (X2, g2)) from fun V a => hX2 ▸ addTable_in o As caps At capt t Ac cc Ar cr V (schs_aft (aW.trans a) hsch) (tabs_aft (aW.trans a) htab) (cols_aft (aW.trans a) hcs) (ruls_aft (aW.trans a) hrs) st.1 st.2.1 st.2.2)
  obtain ⟨⟨X3, g3⟩, hX3⟩ : ∃ fr, chgR o (tabR o s t.name (addRulF o.tables r)) = fr := ⟨_, rfl⟩
  have HS3 := Lib.hid (show SmO X3 from by have : SmO (chgR o (tabR o s t.name (addRulF o.tables r))).1 := smO_chgX fun _ => smO_tabX sm fun t ht hz => smT_addRul (sm.2.2 t ht) ⟨(sm_names hns).1, (sm_names hns).2, sr.1, sr.2.1, sr.2.2.1, sr.2.2.2⟩ hz; rw [hX3] at this; exact this)
  have HK3 := Lib.hid (show g3 = 0 → checkO X3 = true from fun hz9 => by
    have := chk_chg (o := o) (x := tabR o s t.name (addRulF o.tables r)) (fun h hz => chk_addRul h hz) (by rw [hX3]; exact hz9)
    rw [hX3] at this
    exact this)
  have HN3 := Lib.hid (show ck = false → g3 = 63 from fun h => by have : (chgR o (tabR o s t.name (addRulF o.tables r))).2 = 63 := (by unfold chgR; rw [hck, h]; rfl); rw [hX3] at this; exact this)
  have C3 := Lib.hid (show ∀ V, Aft W V → Calls Tryz.prog 16 #[.agg #[.slice As o.schemas.length caps, .slice At o.tables.length capt], .string s, .string t.name, .agg #[.string r.name, .int .i64 r.kind, .slice An r.cols.length cn, .int .i64 r.low, .int .i64 r.high, .string r.schema, .string r.table, .string r.key]] V (ObjP V (X3, g3)) from fun V a => hX3 ▸ addRule_in o As caps At capt r An cn s t.name V (schs_aft (aW.trans a) hsch) (tabs_aft (aW.trans a) htab) (strs_aft (aW.trans a) hns) sr.1 sr.2.1 sr.2.2.1 sr.2.2.2)
  obtain ⟨⟨X4, g4⟩, hX4⟩ : ∃ fr, chgR o (tabR o s t.name (dropRulF o.tables s t.name r.name)) = fr := ⟨_, rfl⟩
  have HS4 := Lib.hid (show SmO X4 from by have : SmO (chgR o (tabR o s t.name (dropRulF o.tables s t.name r.name))).1 := smO_chgX fun _ => smO_tabX sm fun t ht _ => smT_dropRul (sm.2.2 t ht); rw [hX4] at this; exact this)
  have HK4 := Lib.hid (show g4 = 0 → checkO X4 = true from fun hz9 => by
    have := chk_chg (o := o) (x := tabR o s t.name (dropRulF o.tables s t.name r.name)) (fun h hz => chk_dropRul h hz) (by rw [hX4]; exact hz9)
    rw [hX4] at this
    exact this)
  have HN4 := Lib.hid (show ck = false → g4 = 63 from fun h => by have : (chgR o (tabR o s t.name (dropRulF o.tables s t.name r.name))).2 = 63 := (by unfold chgR; rw [hck, h]; rfl); rw [hX4] at this; exact this)
  have C4 := Lib.hid (show ∀ V, Aft W V → Calls Tryz.prog 18 #[.agg #[.slice As o.schemas.length caps, .slice At o.tables.length capt], .string s, .string t.name, .string r.name] V (ObjP V (X4, g4)) from fun V a => hX4 ▸ dropRule_in o As caps At capt s t.name r.name V (schs_aft (aW.trans a) hsch) (tabs_aft (aW.trans a) htab))
  obtain ⟨⟨X5, g5⟩, hX5⟩ : ∃ fr, chgR o (dropTabR s t.name o) = fr := ⟨_, rfl⟩
  have HS5 := Lib.hid (show SmO X5 from by have : SmO (chgR o (dropTabR s t.name o)).1 := smO_chg (smO_dropTab sm); rw [hX5] at this; exact this)
  have HK5 := Lib.hid (show g5 = 0 → checkO X5 = true from fun hz9 => by
    have := chk_chg (o := o) (x := dropTabR s t.name o) (fun h hz => chk_dropTab h hz) (by rw [hX5]; exact hz9)
    rw [hX5] at this
    exact this)
  have HN5 := Lib.hid (show ck = false → g5 = 63 from fun h => by have : (chgR o (dropTabR s t.name o)).2 = 63 := (by unfold chgR; rw [hck, h]; rfl); rw [hX5] at this; exact this)
  have C5 := Lib.hid (show ∀ V, Aft W V → Calls Tryz.prog 30 #[.agg #[.slice As o.schemas.length caps, .slice At o.tables.length capt], .string s, .string t.name] V (ObjP V (X5, g5)) from fun V a => hX5 ▸ dropTable_in o As caps At capt s t.name V (schs_aft (aW.trans a) hsch) (tabs_aft (aW.trans a) htab))
  obtain ⟨⟨X6, g6⟩, hX6⟩ : ∃ fr, chgR o (tabR o s t.name (dropColF nm)) = fr := ⟨_, rfl⟩
  have HS6 := Lib.hid (show SmO X6 from by have : SmO (chgR o (tabR o s t.name (dropColF nm))).1 := smO_chgX fun _ => smO_tabX sm fun t ht _ => smT_dropC (sm.2.2 t ht); rw [hX6] at this; exact this)
  have HK6 := Lib.hid (show g6 = 0 → checkO X6 = true from fun hz9 => by
    have := chk_chg (o := o) (x := tabR o s t.name (dropColF nm)) (fun h hz => chk_dropCol h hz) (by rw [hX6]; exact hz9)
    rw [hX6] at this
    exact this)
  have HN6 := Lib.hid (show ck = false → g6 = 63 from fun h => by have : (chgR o (tabR o s t.name (dropColF nm))).2 = 63 := (by unfold chgR; rw [hck, h]; rfl); rw [hX6] at this; exact this)
  have C6 := Lib.hid (show ∀ V, Aft W V → Calls Tryz.prog 24 #[.agg #[.slice As o.schemas.length caps, .slice At o.tables.length capt], .string s, .string t.name, .string nm] V (ObjP V (X6, g6)) from fun V a => hX6 ▸ dropColumn_in nm o As caps At capt s t.name V (schs_aft (aW.trans a) hsch) (tabs_aft (aW.trans a) htab))
  have HAW := Lib.hid aW
  clear sm hsch htab hcs hrs hns st sr s1 aW r0 r1 r2 hck hX1 hX2 hX3 hX4 hX5 hX6
  go_enter Tryz.func5, Tryz.ntmps5
  go_wp2_with fail
  rw [← hW]
  clear hW
  refine (CL.out W (Aft.refl W)).mono ?_
  rintro e w1 ⟨b, rfl, hmod, a1⟩
  have HA1 := Lib.hid a1
  obtain ⟨⟨q00, q01, q0z⟩, ⟨q10, q11, q12, q13, q14, q1z⟩, ⟨q20, q21, q22, q23, q24, q25, q26, q27, q2z⟩⟩ := KF.out w1 a1
  clear a1 CL hmod
  cases b
  case true =>
    go_wp2_with fail
    go_ret
    exact ⟨rfl, HAW.out.trans HA1.out⟩
  by_cases m1 : 3000 < t.cols.length
  · have m1' : (3000 : Int) < (t.cols.length : Int) := by omega
    go_wp2_with fail
    go_ret
    exact ⟨rfl, HAW.out.trans HA1.out⟩
  have m1' : ¬ (3000 : Int) < (t.cols.length : Int) := by omega
  by_cases m2 : 3000 < t.rules.length
  · have m2' : (3000 : Int) < (t.rules.length : Int) := by omega
    clear m1
    go_wp2_with fail
    go_ret
    exact ⟨rfl, HAW.out.trans HA1.out⟩
  have m2' : ¬ (3000 : Int) < (t.rules.length : Int) := by omega
  by_cases m3 : 3000 < r.cols.length
  · have m3' : (3000 : Int) < (r.cols.length : Int) := by omega
    clear m1 m2
    go_wp2_with fail
    go_ret
    exact ⟨rfl, HAW.out.trans HA1.out⟩
  have m3' : ¬ (3000 : Int) < (r.cols.length : Int) := by omega
  clear m1 m2 m3
  go_wp2_with fail
  refine (CK.out w1 HA1.out).mono ?_
  rintro e w2 ⟨rfl, a2⟩
  have HA2 := Lib.hid (HA1.out.trans a2)
  obtain ⟨⟨q00, q01, q0z⟩, ⟨q10, q11, q12, q13, q14, q1z⟩, ⟨q20, q21, q22, q23, q24, q25, q26, q27, q2z⟩⟩ := KF.out w2 (HA1.out.trans a2)
  clear a2 CK
  cases ck
  case false =>
    have e1 : g1 = 63 := HN1.out (by first | trivial | rfl)
    have e5 : g5 = 63 := HN5.out (by first | trivial | rfl)
    subst e1 e5
    go_wp2_with fail
    refine (C1.out w2 HA2.out).mono ?_
    rintro e w3 ⟨hs3, ht3, L3, hL3, rfl, a3, ob3⟩
    have a3' := a3.alloc (.cells #[.slice hs3.a X1.schemas.length hs3.c, .slice ht3.a X1.tables.length ht3.c] 25)
    have HA3 := Lib.hid (HA2.out.trans a3')
    obtain ⟨⟨q00, q01, q0z⟩, ⟨q10, q11, q12, q13, q14, q1z⟩, ⟨q20, q21, q22, q23, q24, q25, q26, q27, q2z⟩⟩ := KF.out w3 (HA2.out.trans a3)
    have zz0 : w.heap.size < w3.heap.size + 1 := by omega
    have zz1 : w.heap.size + 1 < w3.heap.size + 1 := by omega
    clear a3 a3' ob3 hL3
    go_wp2_with fail
    refine (C5.out _ HA3.out).mono ?_
    rintro e w4 ⟨hs4, ht4, L4, hL4, rfl, a4, ob4⟩
    have HA4 := Lib.hid ((HA3.out.trans a4).alloc (.cells #[.slice hs4.a X5.schemas.length hs4.c, .slice ht4.a X5.tables.length ht4.c] 25))
    clear a4 ob4 hL4
    go_wp2_with fail
    refine (checks_any _).mono ?_
    rintro e w5 ⟨rfl, a5⟩
    have HA5 := Lib.hid (HAW.out.trans (HA4.out.trans a5))
    clear a5
    go_wp2_with fail
    go_ret
    exact ⟨rfl, HA5.out⟩
  go_wp2_with fail
  refine (C1.out w2 HA2.out).mono ?_
  rintro e w3 ⟨hs3, ht3, L3, hL3, rfl, a3, ob3⟩
  (try dsimp only)
  obtain ⟨W3, hW3⟩ : ∃ V, V = w3.alloc (.cells #[.slice hs3.a X1.schemas.length hs3.c, .slice ht3.a X1.tables.length ht3.c] 25) := ⟨_, rfl⟩
  have aW3 : Aft w3 W3 := by rw [hW3]; exact (Aft.refl _).alloc _
  have HB3 := Lib.hid (show RowAt W3 w3.heap.size [.slice hs3.a X1.schemas.length hs3.c, .slice ht3.a X1.tables.length ht3.c] by rw [hW3]; exact box_row2 (Aft.refl _))
  have HO3 := Lib.hid (ob3.aft aW3)
  have HL3 := Lib.hid (show L3.map OTab.t = X1.tables from hL3)
  have HA3 := Lib.hid (HA2.out.trans (a3.trans aW3))
  have HD3 := Lib.hid (a3.trans aW3)
  obtain ⟨⟨q00, q01, q0z⟩, ⟨q10, q11, q12, q13, q14, q1z⟩, ⟨q20, q21, q22, q23, q24, q25, q26, q27, q2z⟩⟩ := KF.out w3 (HA2.out.trans a3)
  have zz0 : w.heap.size < w3.heap.size + 1 := by omega
  have zz1 : w.heap.size + 1 < w3.heap.size + 1 := by omega
  have zz2 : w.heap.size + 1 + 1 < w3.heap.size + 1 := by omega
  clear a3 aW3 ob3 hL3
  go_wp2_with fail
  rw [← hW3]
  clear hW3
  refine (C2.out W3 HA3.out).mono ?_
  rintro e w4 ⟨hs4, ht4, L4, hL4, rfl, a4, ob4⟩
  (try dsimp only)
  obtain ⟨W4, hW4⟩ : ∃ V, V = w4.alloc (.cells #[.slice hs4.a X2.schemas.length hs4.c, .slice ht4.a X2.tables.length ht4.c] 25) := ⟨_, rfl⟩
  have aW4 : Aft w4 W4 := by rw [hW4]; exact (Aft.refl _).alloc _
  have HB4 := Lib.hid (show RowAt W4 w4.heap.size [.slice hs4.a X2.schemas.length hs4.c, .slice ht4.a X2.tables.length ht4.c] by rw [hW4]; exact box_row2 (Aft.refl _))
  have HO4 := Lib.hid (ob4.aft aW4)
  have HL4 := Lib.hid (show L4.map OTab.t = X2.tables from hL4)
  have HA4 := Lib.hid (HA3.out.trans (a4.trans aW4))
  have HD4 := Lib.hid (a4.trans aW4)
  obtain ⟨⟨q00, q01, q0z⟩, ⟨q10, q11, q12, q13, q14, q1z⟩, ⟨q20, q21, q22, q23, q24, q25, q26, q27, q2z⟩⟩ := KF.out w4 (HA3.out.trans a4)
  have zz0 : w.heap.size < w4.heap.size + 1 := by omega
  have zz1 : w.heap.size + 1 < w4.heap.size + 1 := by omega
  have zz2 : w.heap.size + 1 + 1 < w4.heap.size + 1 := by omega
  clear a4 aW4 ob4 hL4
  go_wp2_with fail
  rw [← hW4]
  clear hW4
  refine (C3.out W4 HA4.out).mono ?_
  rintro e w5 ⟨hs5, ht5, L5, hL5, rfl, a5, ob5⟩
  (try dsimp only)
  obtain ⟨W5, hW5⟩ : ∃ V, V = w5.alloc (.cells #[.slice hs5.a X3.schemas.length hs5.c, .slice ht5.a X3.tables.length ht5.c] 25) := ⟨_, rfl⟩
  have aW5 : Aft w5 W5 := by rw [hW5]; exact (Aft.refl _).alloc _
  have HB5 := Lib.hid (show RowAt W5 w5.heap.size [.slice hs5.a X3.schemas.length hs5.c, .slice ht5.a X3.tables.length ht5.c] by rw [hW5]; exact box_row2 (Aft.refl _))
  have HO5 := Lib.hid (ob5.aft aW5)
  have HL5 := Lib.hid (show L5.map OTab.t = X3.tables from hL5)
  have HA5 := Lib.hid (HA4.out.trans (a5.trans aW5))
  have HD5 := Lib.hid (a5.trans aW5)
  obtain ⟨⟨q00, q01, q0z⟩, ⟨q10, q11, q12, q13, q14, q1z⟩, ⟨q20, q21, q22, q23, q24, q25, q26, q27, q2z⟩⟩ := KF.out w5 (HA4.out.trans a5)
  have zz0 : w.heap.size < w5.heap.size + 1 := by omega
  have zz1 : w.heap.size + 1 < w5.heap.size + 1 := by omega
  have zz2 : w.heap.size + 1 + 1 < w5.heap.size + 1 := by omega
  clear a5 aW5 ob5 hL5
  go_wp2_with fail
  rw [← hW5]
  clear hW5
  refine (C4.out W5 HA5.out).mono ?_
  rintro e w6 ⟨hs6, ht6, L6, hL6, rfl, a6, ob6⟩
  (try dsimp only)
  obtain ⟨W6, hW6⟩ : ∃ V, V = w6.alloc (.cells #[.slice hs6.a X4.schemas.length hs6.c, .slice ht6.a X4.tables.length ht6.c] 25) := ⟨_, rfl⟩
  have aW6 : Aft w6 W6 := by rw [hW6]; exact (Aft.refl _).alloc _
  have HB6 := Lib.hid (show RowAt W6 w6.heap.size [.slice hs6.a X4.schemas.length hs6.c, .slice ht6.a X4.tables.length ht6.c] by rw [hW6]; exact box_row2 (Aft.refl _))
  have HO6 := Lib.hid (ob6.aft aW6)
  have HL6 := Lib.hid (show L6.map OTab.t = X4.tables from hL6)
  have HA6 := Lib.hid (HA5.out.trans (a6.trans aW6))
  have HD6 := Lib.hid (a6.trans aW6)
  obtain ⟨⟨q00, q01, q0z⟩, ⟨q10, q11, q12, q13, q14, q1z⟩, ⟨q20, q21, q22, q23, q24, q25, q26, q27, q2z⟩⟩ := KF.out w6 (HA5.out.trans a6)
  have zz0 : w.heap.size < w6.heap.size + 1 := by omega
  have zz1 : w.heap.size + 1 < w6.heap.size + 1 := by omega
  have zz2 : w.heap.size + 1 + 1 < w6.heap.size + 1 := by omega
  clear a6 aW6 ob6 hL6
  go_wp2_with fail
  rw [← hW6]
  clear hW6
  refine (C5.out W6 HA6.out).mono ?_
  rintro e w7 ⟨hs7, ht7, L7, hL7, rfl, a7, ob7⟩
  (try dsimp only)
  obtain ⟨W7, hW7⟩ : ∃ V, V = w7.alloc (.cells #[.slice hs7.a X5.schemas.length hs7.c, .slice ht7.a X5.tables.length ht7.c] 25) := ⟨_, rfl⟩
  have aW7 : Aft w7 W7 := by rw [hW7]; exact (Aft.refl _).alloc _
  have HB7 := Lib.hid (show RowAt W7 w7.heap.size [.slice hs7.a X5.schemas.length hs7.c, .slice ht7.a X5.tables.length ht7.c] by rw [hW7]; exact box_row2 (Aft.refl _))
  have HO7 := Lib.hid (ob7.aft aW7)
  have HL7 := Lib.hid (show L7.map OTab.t = X5.tables from hL7)
  have HA7 := Lib.hid (HA6.out.trans (a7.trans aW7))
  have HD7 := Lib.hid (a7.trans aW7)
  obtain ⟨⟨q00, q01, q0z⟩, ⟨q10, q11, q12, q13, q14, q1z⟩, ⟨q20, q21, q22, q23, q24, q25, q26, q27, q2z⟩⟩ := KF.out w7 (HA6.out.trans a7)
  have zz0 : w.heap.size < w7.heap.size + 1 := by omega
  have zz1 : w.heap.size + 1 < w7.heap.size + 1 := by omega
  have zz2 : w.heap.size + 1 + 1 < w7.heap.size + 1 := by omega
  clear a7 aW7 ob7 hL7
  go_wp2_with fail
  rw [← hW7]
  clear hW7
  refine (C6.out W7 HA7.out).mono ?_
  rintro e w8 ⟨hs8, ht8, L8, hL8, rfl, a8, ob8⟩
  (try dsimp only)
  obtain ⟨W8, hW8⟩ : ∃ V, V = w8.alloc (.cells #[.slice hs8.a X6.schemas.length hs8.c, .slice ht8.a X6.tables.length ht8.c] 25) := ⟨_, rfl⟩
  have aW8 : Aft w8 W8 := by rw [hW8]; exact (Aft.refl _).alloc _
  have HB8 := Lib.hid (show RowAt W8 w8.heap.size [.slice hs8.a X6.schemas.length hs8.c, .slice ht8.a X6.tables.length ht8.c] by rw [hW8]; exact box_row2 (Aft.refl _))
  have HO8 := Lib.hid (ob8.aft aW8)
  have HL8 := Lib.hid (show L8.map OTab.t = X6.tables from hL8)
  have HA8 := Lib.hid (HA7.out.trans (a8.trans aW8))
  have HD8 := Lib.hid (a8.trans aW8)
  obtain ⟨⟨q00, q01, q0z⟩, ⟨q10, q11, q12, q13, q14, q1z⟩, ⟨q20, q21, q22, q23, q24, q25, q26, q27, q2z⟩⟩ := KF.out w8 (HA7.out.trans a8)
  have zz0 : w.heap.size < w8.heap.size + 1 := by omega
  have zz1 : w.heap.size + 1 < w8.heap.size + 1 := by omega
  have zz2 : w.heap.size + 1 + 1 < w8.heap.size + 1 := by omega
  clear a8 aW8 ob8 hL8
  rename_i K1 hK1 K2 hK2
  have HKR := Lib.hid hK1
  clear hK1
  go_wp2_with fail
  rw [← hW8]
  clear hW8
  refine HKR.out _ _ ?_
  clear HKR
  have KC13 := Lib.hid (show ∀ V, Aft W8 V → (V.cell? ⟨w3.heap.size, 0, none⟩ = some (.slice hs3.a X1.schemas.length hs3.c) ∧ V.cell? ⟨w3.heap.size, 1, none⟩ = some (.slice ht3.a X1.tables.length ht3.c) ∧ w3.heap.size < V.heap.size) ∧ (V.cell? ⟨w4.heap.size, 0, none⟩ = some (.slice hs4.a X2.schemas.length hs4.c) ∧ V.cell? ⟨w4.heap.size, 1, none⟩ = some (.slice ht4.a X2.tables.length ht4.c) ∧ w4.heap.size < V.heap.size) ∧ (V.cell? ⟨w5.heap.size, 0, none⟩ = some (.slice hs5.a X3.schemas.length hs5.c) ∧ V.cell? ⟨w5.heap.size, 1, none⟩ = some (.slice ht5.a X3.tables.length ht5.c) ∧ w5.heap.size < V.heap.size) from fun V a => ⟨⟨((HB3.out.aft (HD4.out.trans (HD5.out.trans (HD6.out.trans (HD7.out.trans HD8.out))))).aft a).cell (j := 0) rfl, ((HB3.out.aft (HD4.out.trans (HD5.out.trans (HD6.out.trans (HD7.out.trans HD8.out))))).aft a).cell (j := 1) rfl, ((HB3.out.aft (HD4.out.trans (HD5.out.trans (HD6.out.trans (HD7.out.trans HD8.out))))).aft a).1⟩, ⟨((HB4.out.aft (HD5.out.trans (HD6.out.trans (HD7.out.trans HD8.out)))).aft a).cell (j := 0) rfl, ((HB4.out.aft (HD5.out.trans (HD6.out.trans (HD7.out.trans HD8.out)))).aft a).cell (j := 1) rfl, ((HB4.out.aft (HD5.out.trans (HD6.out.trans (HD7.out.trans HD8.out)))).aft a).1⟩, ⟨((HB5.out.aft (HD6.out.trans (HD7.out.trans HD8.out))).aft a).cell (j := 0) rfl, ((HB5.out.aft (HD6.out.trans (HD7.out.trans HD8.out))).aft a).cell (j := 1) rfl, ((HB5.out.aft (HD6.out.trans (HD7.out.trans HD8.out))).aft a).1⟩⟩)
  have KC14 := Lib.hid (show ∀ V, Aft W8 V → (V.cell? ⟨w6.heap.size, 0, none⟩ = some (.slice hs6.a X4.schemas.length hs6.c) ∧ V.cell? ⟨w6.heap.size, 1, none⟩ = some (.slice ht6.a X4.tables.length ht6.c) ∧ w6.heap.size < V.heap.size) ∧ (V.cell? ⟨w7.heap.size, 0, none⟩ = some (.slice hs7.a X5.schemas.length hs7.c) ∧ V.cell? ⟨w7.heap.size, 1, none⟩ = some (.slice ht7.a X5.tables.length ht7.c) ∧ w7.heap.size < V.heap.size) ∧ (V.cell? ⟨w8.heap.size, 0, none⟩ = some (.slice hs8.a X6.schemas.length hs8.c) ∧ V.cell? ⟨w8.heap.size, 1, none⟩ = some (.slice ht8.a X6.tables.length ht8.c) ∧ w8.heap.size < V.heap.size) from fun V a => ⟨⟨((HB6.out.aft (HD7.out.trans HD8.out)).aft a).cell (j := 0) rfl, ((HB6.out.aft (HD7.out.trans HD8.out)).aft a).cell (j := 1) rfl, ((HB6.out.aft (HD7.out.trans HD8.out)).aft a).1⟩, ⟨((HB7.out.aft (HD8.out)).aft a).cell (j := 0) rfl, ((HB7.out.aft (HD8.out)).aft a).cell (j := 1) rfl, ((HB7.out.aft (HD8.out)).aft a).1⟩, ⟨((HB8.out.aft (Aft.refl _)).aft a).cell (j := 0) rfl, ((HB8.out.aft (Aft.refl _)).aft a).cell (j := 1) rfl, ((HB8.out.aft (Aft.refl _)).aft a).1⟩⟩)
  have CZ1 := Lib.hid (show g1 = 0 → ∀ V, Aft W8 V → Calls Tryz.prog 29 #[.agg #[.slice hs3.a X1.schemas.length hs3.c, .slice ht3.a X1.tables.length ht3.c]] V fun e w'' => e = .returned (.int .i64 0) ∧ Aft V w'' from fun h V a => CKK.out X1 hs3 ht3 L3 _ V HS1.out HL3.out (HO3.out.aft (Aft.trans (HD4.out.trans (HD5.out.trans (HD6.out.trans (HD7.out.trans HD8.out)))) a)) (HK1.out h))
  have CZ2 := Lib.hid (show g2 = 0 → ∀ V, Aft W8 V → Calls Tryz.prog 29 #[.agg #[.slice hs4.a X2.schemas.length hs4.c, .slice ht4.a X2.tables.length ht4.c]] V fun e w'' => e = .returned (.int .i64 0) ∧ Aft V w'' from fun h V a => CKK.out X2 hs4 ht4 L4 _ V HS2.out HL4.out (HO4.out.aft (Aft.trans (HD5.out.trans (HD6.out.trans (HD7.out.trans HD8.out))) a)) (HK2.out h))
  have CZ3 := Lib.hid (show g3 = 0 → ∀ V, Aft W8 V → Calls Tryz.prog 29 #[.agg #[.slice hs5.a X3.schemas.length hs5.c, .slice ht5.a X3.tables.length ht5.c]] V fun e w'' => e = .returned (.int .i64 0) ∧ Aft V w'' from fun h V a => CKK.out X3 hs5 ht5 L5 _ V HS3.out HL5.out (HO5.out.aft (Aft.trans (HD6.out.trans (HD7.out.trans HD8.out)) a)) (HK3.out h))
  have CZ4 := Lib.hid (show g4 = 0 → ∀ V, Aft W8 V → Calls Tryz.prog 29 #[.agg #[.slice hs6.a X4.schemas.length hs6.c, .slice ht6.a X4.tables.length ht6.c]] V fun e w'' => e = .returned (.int .i64 0) ∧ Aft V w'' from fun h V a => CKK.out X4 hs6 ht6 L6 _ V HS4.out HL6.out (HO6.out.aft (Aft.trans (HD7.out.trans HD8.out) a)) (HK4.out h))
  have CZ5 := Lib.hid (show g5 = 0 → ∀ V, Aft W8 V → Calls Tryz.prog 29 #[.agg #[.slice hs7.a X5.schemas.length hs7.c, .slice ht7.a X5.tables.length ht7.c]] V fun e w'' => e = .returned (.int .i64 0) ∧ Aft V w'' from fun h V a => CKK.out X5 hs7 ht7 L7 _ V HS5.out HL7.out (HO7.out.aft (Aft.trans (HD8.out) a)) (HK5.out h))
  have CZ6 := Lib.hid (show g6 = 0 → ∀ V, Aft W8 V → Calls Tryz.prog 29 #[.agg #[.slice hs8.a X6.schemas.length hs8.c, .slice ht8.a X6.tables.length ht8.c]] V fun e w'' => e = .returned (.int .i64 0) ∧ Aft V w'' from fun h V a => CKK.out X6 hs8 ht8 L8 _ V HS6.out HL8.out (HO8.out.aft (Aft.trans (Aft.refl _) a)) (HK6.out h))
  refine wp_seq ?_
  refine Code.wp_mono (Q := fun e a' w' => e = Exit.normal ∧ ∃ (v125 v126 v127 v128 v129 v130 v131 v132 v133 v134 v135 v136 v137 v138 v139 v140 v141 v142 v143 v144 v145 v146 v147 v148 v149 : Value), Aft W8 w' ∧ a' = { tmps := #[.agg #[.slice As o.schemas.length caps, .slice At o.tables.length capt], .agg #[.string t.schema, .string t.name, .string t.owner, .slice Ac t.cols.length cc, .slice Ar t.rules.length cr], .agg #[.string r.name, .int .i64 r.kind, .slice An r.cols.length cn, .int .i64 r.low, .int .i64 r.high, .string r.schema, .string r.table, .string r.key], .string s, .string nm, .pointer (some ⟨w.heap.size, 0, none⟩), .pointer (some ⟨w.heap.size + 1, 0, none⟩), .pointer (some ⟨w.heap.size + 1 + 1, 0, none⟩), undef, undef, .bool false, undef, undef, undef, undef, .pointer (some ⟨w3.heap.size, 0, none⟩), .int .i64 g1, .pointer (some ⟨w4.heap.size, 0, none⟩), .int .i64 g2, .pointer (some ⟨w5.heap.size, 0, none⟩), .int .i64 g3, .pointer (some ⟨w6.heap.size, 0, none⟩), .int .i64 g4, .pointer (some ⟨w7.heap.size, 0, none⟩), .int .i64 g5, .pointer (some ⟨w8.heap.size, 0, none⟩), .int .i64 g6, .bool true, undef, .agg #[.slice As o.schemas.length caps, .slice At o.tables.length capt], .bool false, .bool false, .pointer (some ⟨w.heap.size + 1, 3, none⟩), .slice Ac t.cols.length cc, .int .i64 (t.cols.length : Int), .bool (decide ((3000 : Int) < (t.cols.length : Int))), .bool (decide ((3000 : Int) < (t.cols.length : Int))), .bool (decide ((3000 : Int) < (t.cols.length : Int))), .pointer (some ⟨w.heap.size + 1, 4, none⟩), .slice Ar t.rules.length cr, .int .i64 (t.rules.length : Int), .bool (decide ((3000 : Int) < (t.rules.length : Int))), .bool (decide ((3000 : Int) < (t.cols.length : Int)) || decide ((3000 : Int) < (t.rules.length : Int))), .bool (decide ((3000 : Int) < (t.cols.length : Int)) || decide ((3000 : Int) < (t.rules.length : Int))), .pointer (some ⟨w.heap.size + 1 + 1, 2, none⟩), .slice An r.cols.length cn, .int .i64 (r.cols.length : Int), .bool (decide ((3000 : Int) < (r.cols.length : Int))), .bool (decide ((3000 : Int) < (t.cols.length : Int)) || decide ((3000 : Int) < (t.rules.length : Int)) || decide ((3000 : Int) < (r.cols.length : Int))), .agg #[.slice As o.schemas.length caps, .slice At o.tables.length capt], .int .i64 0, .bool false, undef, undef, undef, undef, undef, undef, undef, undef, undef, undef, undef, undef, undef, undef, undef, undef, undef, undef, undef, undef, undef, undef, undef, undef, .tuple #[.agg #[.slice hs3.a X1.schemas.length hs3.c, .slice ht3.a X1.tables.length ht3.c], .int .i64 g1], .agg #[.slice As o.schemas.length caps, .slice At o.tables.length capt], .string nm, .string nm, .tuple #[.agg #[.slice hs3.a X1.schemas.length hs3.c, .slice ht3.a X1.tables.length ht3.c], .int .i64 g1], .agg #[.slice hs3.a X1.schemas.length hs3.c, .slice ht3.a X1.tables.length ht3.c], .int .i64 g1, .tuple #[.agg #[.slice hs4.a X2.schemas.length hs4.c, .slice ht4.a X2.tables.length ht4.c], .int .i64 g2], .agg #[.slice As o.schemas.length caps, .slice At o.tables.length capt], .agg #[.string t.schema, .string t.name, .string t.owner, .slice Ac t.cols.length cc, .slice Ar t.rules.length cr], .tuple #[.agg #[.slice hs4.a X2.schemas.length hs4.c, .slice ht4.a X2.tables.length ht4.c], .int .i64 g2], .agg #[.slice hs4.a X2.schemas.length hs4.c, .slice ht4.a X2.tables.length ht4.c], .int .i64 g2, .tuple #[.agg #[.slice hs5.a X3.schemas.length hs5.c, .slice ht5.a X3.tables.length ht5.c], .int .i64 g3], .agg #[.slice As o.schemas.length caps, .slice At o.tables.length capt], .string s, .pointer (some ⟨w.heap.size + 1, 1, none⟩), .string t.name, .agg #[.string r.name, .int .i64 r.kind, .slice An r.cols.length cn, .int .i64 r.low, .int .i64 r.high, .string r.schema, .string r.table, .string r.key], .tuple #[.agg #[.slice hs5.a X3.schemas.length hs5.c, .slice ht5.a X3.tables.length ht5.c], .int .i64 g3], .agg #[.slice hs5.a X3.schemas.length hs5.c, .slice ht5.a X3.tables.length ht5.c], .int .i64 g3, .tuple #[.agg #[.slice hs6.a X4.schemas.length hs6.c, .slice ht6.a X4.tables.length ht6.c], .int .i64 g4], .agg #[.slice As o.schemas.length caps, .slice At o.tables.length capt], .string s, .pointer (some ⟨w.heap.size + 1, 1, none⟩), .string t.name, .pointer (some ⟨w.heap.size + 1 + 1, 0, none⟩), .string r.name, .tuple #[.agg #[.slice hs6.a X4.schemas.length hs6.c, .slice ht6.a X4.tables.length ht6.c], .int .i64 g4], .agg #[.slice hs6.a X4.schemas.length hs6.c, .slice ht6.a X4.tables.length ht6.c], .int .i64 g4, .tuple #[.agg #[.slice hs7.a X5.schemas.length hs7.c, .slice ht7.a X5.tables.length ht7.c], .int .i64 g5], .agg #[.slice As o.schemas.length caps, .slice At o.tables.length capt], .string s, .pointer (some ⟨w.heap.size + 1, 1, none⟩), .string t.name, .tuple #[.agg #[.slice hs7.a X5.schemas.length hs7.c, .slice ht7.a X5.tables.length ht7.c], .int .i64 g5], .agg #[.slice hs7.a X5.schemas.length hs7.c, .slice ht7.a X5.tables.length ht7.c], .int .i64 g5, .tuple #[.agg #[.slice hs8.a X6.schemas.length hs8.c, .slice ht8.a X6.tables.length ht8.c], .int .i64 g6], .agg #[.slice As o.schemas.length caps, .slice At o.tables.length capt], .string s, .pointer (some ⟨w.heap.size + 1, 1, none⟩), .string t.name, .string nm, .tuple #[.agg #[.slice hs8.a X6.schemas.length hs8.c, .slice ht8.a X6.tables.length ht8.c], .int .i64 g6], .agg #[.slice hs8.a X6.schemas.length hs8.c, .slice ht8.a X6.tables.length ht8.c], .int .i64 g6, v125, v126, v127, v128, v129, v130, v131, v132, v133, v134, v135, v136, v137, v138, v139, v140, v141, v142, v143, v144, v145, v146, v147, v148, v149, undef, undef, undef, undef, undef, undef, undef, undef, undef, undef, undef, undef, undef, undef, undef, undef, undef, undef, undef, undef, undef, undef, undef, undef, undef, undef, undef, undef, undef, undef, undef, undef, undef, undef, undef], defers := [] }) ?m13 ?r13
  case r13 =>
    obtain ⟨⟨x1a, x1b, x1z⟩, ⟨x2a, x2b, x2z⟩, ⟨x3a, x3b, x3z⟩⟩ := KC13.out W8 (Aft.refl _)
    have b0 : Aft W8 W8 := Aft.refl _
    go_wp2_with (first | (go_at_call 29; with_reducible refine (CZ1.out (by assumption) _ (Aft.refl _)).mono ?_; rintro e V1 ⟨rfl, c1⟩; have b1 : Aft W8 V1 := Aft.trans (Aft.refl _) c1; obtain ⟨⟨x1a, x1b, x1z⟩, ⟨x2a, x2b, x2z⟩, ⟨x3a, x3b, x3z⟩⟩ := KC13.out V1 b1; clear c1) | (go_at_call 29; with_reducible refine (CZ2.out (by assumption) _ (b1)).mono ?_; rintro e V2 ⟨rfl, c2⟩; have b2 : Aft W8 V2 := Aft.trans (b1) c2; obtain ⟨⟨x1a, x1b, x1z⟩, ⟨x2a, x2b, x2z⟩, ⟨x3a, x3b, x3z⟩⟩ := KC13.out V2 b2; clear c2) | (go_at_call 29; with_reducible refine (CZ2.out (by assumption) _ (Aft.refl _)).mono ?_; rintro e V2 ⟨rfl, c2⟩; have b2 : Aft W8 V2 := Aft.trans (Aft.refl _) c2; obtain ⟨⟨x1a, x1b, x1z⟩, ⟨x2a, x2b, x2z⟩, ⟨x3a, x3b, x3z⟩⟩ := KC13.out V2 b2; clear c2) | (go_at_call 29; with_reducible refine (CZ3.out (by assumption) _ (b2)).mono ?_; rintro e V3 ⟨rfl, c3⟩; have b3 : Aft W8 V3 := Aft.trans (b2) c3; obtain ⟨⟨x1a, x1b, x1z⟩, ⟨x2a, x2b, x2z⟩, ⟨x3a, x3b, x3z⟩⟩ := KC13.out V3 b3; clear c3) | (go_at_call 29; with_reducible refine (CZ3.out (by assumption) _ (b1)).mono ?_; rintro e V3 ⟨rfl, c3⟩; have b3 : Aft W8 V3 := Aft.trans (b1) c3; obtain ⟨⟨x1a, x1b, x1z⟩, ⟨x2a, x2b, x2z⟩, ⟨x3a, x3b, x3z⟩⟩ := KC13.out V3 b3; clear c3) | (go_at_call 29; with_reducible refine (CZ3.out (by assumption) _ (Aft.refl _)).mono ?_; rintro e V3 ⟨rfl, c3⟩; have b3 : Aft W8 V3 := Aft.trans (Aft.refl _) c3; obtain ⟨⟨x1a, x1b, x1z⟩, ⟨x2a, x2b, x2z⟩, ⟨x3a, x3b, x3z⟩⟩ := KC13.out V3 b3; clear c3))
    all_goals (first | exact b3 | exact b2 | exact b1 | exact b0)
  case m13 =>
    rintro e a' w9 ⟨rfl, v125, v126, v127, v128, v129, v130, v131, v132, v133, v134, v135, v136, v137, v138, v139, v140, v141, v142, v143, v144, v145, v146, v147, v148, v149, a9, rfl⟩
    have H9 := Lib.hid a9
    simp only [Exit.then]
    have KC14' := Lib.hid (show ∀ V, Aft w9 V → _ from fun V a => KC14.out V (a9.trans a))
    have CZ4' := Lib.hid (show g4 = 0 → ∀ V, Aft w9 V → _ from fun h V a => CZ4.out h V (a9.trans a))
    have CZ5' := Lib.hid (show g5 = 0 → ∀ V, Aft w9 V → _ from fun h V a => CZ5.out h V (a9.trans a))
    have CZ6' := Lib.hid (show g6 = 0 → ∀ V, Aft w9 V → _ from fun h V a => CZ6.out h V (a9.trans a))
    clear a9
    refine wp_seq ?_
    refine Code.wp_mono (Q := fun e a' w' => e = Exit.normal ∧ ∃ (v150 v151 v152 v153 v154 v155 v156 v157 v158 v159 v160 v161 v162 v163 v164 v165 v166 v167 v168 v169 v170 v171 v172 v173 v174 : Value), Aft w9 w' ∧ a' = { tmps := #[.agg #[.slice As o.schemas.length caps, .slice At o.tables.length capt], .agg #[.string t.schema, .string t.name, .string t.owner, .slice Ac t.cols.length cc, .slice Ar t.rules.length cr], .agg #[.string r.name, .int .i64 r.kind, .slice An r.cols.length cn, .int .i64 r.low, .int .i64 r.high, .string r.schema, .string r.table, .string r.key], .string s, .string nm, .pointer (some ⟨w.heap.size, 0, none⟩), .pointer (some ⟨w.heap.size + 1, 0, none⟩), .pointer (some ⟨w.heap.size + 1 + 1, 0, none⟩), undef, undef, .bool false, undef, undef, undef, undef, .pointer (some ⟨w3.heap.size, 0, none⟩), .int .i64 g1, .pointer (some ⟨w4.heap.size, 0, none⟩), .int .i64 g2, .pointer (some ⟨w5.heap.size, 0, none⟩), .int .i64 g3, .pointer (some ⟨w6.heap.size, 0, none⟩), .int .i64 g4, .pointer (some ⟨w7.heap.size, 0, none⟩), .int .i64 g5, .pointer (some ⟨w8.heap.size, 0, none⟩), .int .i64 g6, .bool true, .bool true, .agg #[.slice As o.schemas.length caps, .slice At o.tables.length capt], .bool false, .bool false, .pointer (some ⟨w.heap.size + 1, 3, none⟩), .slice Ac t.cols.length cc, .int .i64 (t.cols.length : Int), .bool (decide ((3000 : Int) < (t.cols.length : Int))), .bool (decide ((3000 : Int) < (t.cols.length : Int))), .bool (decide ((3000 : Int) < (t.cols.length : Int))), .pointer (some ⟨w.heap.size + 1, 4, none⟩), .slice Ar t.rules.length cr, .int .i64 (t.rules.length : Int), .bool (decide ((3000 : Int) < (t.rules.length : Int))), .bool (decide ((3000 : Int) < (t.cols.length : Int)) || decide ((3000 : Int) < (t.rules.length : Int))), .bool (decide ((3000 : Int) < (t.cols.length : Int)) || decide ((3000 : Int) < (t.rules.length : Int))), .pointer (some ⟨w.heap.size + 1 + 1, 2, none⟩), .slice An r.cols.length cn, .int .i64 (r.cols.length : Int), .bool (decide ((3000 : Int) < (r.cols.length : Int))), .bool (decide ((3000 : Int) < (t.cols.length : Int)) || decide ((3000 : Int) < (t.rules.length : Int)) || decide ((3000 : Int) < (r.cols.length : Int))), .agg #[.slice As o.schemas.length caps, .slice At o.tables.length capt], .int .i64 0, .bool false, undef, undef, undef, undef, undef, undef, undef, undef, undef, undef, undef, undef, undef, undef, undef, undef, undef, undef, undef, undef, undef, undef, undef, undef, .tuple #[.agg #[.slice hs3.a X1.schemas.length hs3.c, .slice ht3.a X1.tables.length ht3.c], .int .i64 g1], .agg #[.slice As o.schemas.length caps, .slice At o.tables.length capt], .string nm, .string nm, .tuple #[.agg #[.slice hs3.a X1.schemas.length hs3.c, .slice ht3.a X1.tables.length ht3.c], .int .i64 g1], .agg #[.slice hs3.a X1.schemas.length hs3.c, .slice ht3.a X1.tables.length ht3.c], .int .i64 g1, .tuple #[.agg #[.slice hs4.a X2.schemas.length hs4.c, .slice ht4.a X2.tables.length ht4.c], .int .i64 g2], .agg #[.slice As o.schemas.length caps, .slice At o.tables.length capt], .agg #[.string t.schema, .string t.name, .string t.owner, .slice Ac t.cols.length cc, .slice Ar t.rules.length cr], .tuple #[.agg #[.slice hs4.a X2.schemas.length hs4.c, .slice ht4.a X2.tables.length ht4.c], .int .i64 g2], .agg #[.slice hs4.a X2.schemas.length hs4.c, .slice ht4.a X2.tables.length ht4.c], .int .i64 g2, .tuple #[.agg #[.slice hs5.a X3.schemas.length hs5.c, .slice ht5.a X3.tables.length ht5.c], .int .i64 g3], .agg #[.slice As o.schemas.length caps, .slice At o.tables.length capt], .string s, .pointer (some ⟨w.heap.size + 1, 1, none⟩), .string t.name, .agg #[.string r.name, .int .i64 r.kind, .slice An r.cols.length cn, .int .i64 r.low, .int .i64 r.high, .string r.schema, .string r.table, .string r.key], .tuple #[.agg #[.slice hs5.a X3.schemas.length hs5.c, .slice ht5.a X3.tables.length ht5.c], .int .i64 g3], .agg #[.slice hs5.a X3.schemas.length hs5.c, .slice ht5.a X3.tables.length ht5.c], .int .i64 g3, .tuple #[.agg #[.slice hs6.a X4.schemas.length hs6.c, .slice ht6.a X4.tables.length ht6.c], .int .i64 g4], .agg #[.slice As o.schemas.length caps, .slice At o.tables.length capt], .string s, .pointer (some ⟨w.heap.size + 1, 1, none⟩), .string t.name, .pointer (some ⟨w.heap.size + 1 + 1, 0, none⟩), .string r.name, .tuple #[.agg #[.slice hs6.a X4.schemas.length hs6.c, .slice ht6.a X4.tables.length ht6.c], .int .i64 g4], .agg #[.slice hs6.a X4.schemas.length hs6.c, .slice ht6.a X4.tables.length ht6.c], .int .i64 g4, .tuple #[.agg #[.slice hs7.a X5.schemas.length hs7.c, .slice ht7.a X5.tables.length ht7.c], .int .i64 g5], .agg #[.slice As o.schemas.length caps, .slice At o.tables.length capt], .string s, .pointer (some ⟨w.heap.size + 1, 1, none⟩), .string t.name, .tuple #[.agg #[.slice hs7.a X5.schemas.length hs7.c, .slice ht7.a X5.tables.length ht7.c], .int .i64 g5], .agg #[.slice hs7.a X5.schemas.length hs7.c, .slice ht7.a X5.tables.length ht7.c], .int .i64 g5, .tuple #[.agg #[.slice hs8.a X6.schemas.length hs8.c, .slice ht8.a X6.tables.length ht8.c], .int .i64 g6], .agg #[.slice As o.schemas.length caps, .slice At o.tables.length capt], .string s, .pointer (some ⟨w.heap.size + 1, 1, none⟩), .string t.name, .string nm, .tuple #[.agg #[.slice hs8.a X6.schemas.length hs8.c, .slice ht8.a X6.tables.length ht8.c], .int .i64 g6], .agg #[.slice hs8.a X6.schemas.length hs8.c, .slice ht8.a X6.tables.length ht8.c], .int .i64 g6, v125, v126, v127, v128, v129, v130, v131, v132, v133, v134, v135, v136, v137, v138, v139, v140, v141, v142, v143, v144, v145, v146, v147, v148, v149, v150, v151, v152, v153, v154, v155, v156, v157, v158, v159, v160, v161, v162, v163, v164, v165, v166, v167, v168, v169, v170, v171, v172, v173, v174, undef, undef, undef, undef, undef, undef, undef, undef, undef, undef], defers := [] }) ?m14 ?r14
    case r14 =>
      obtain ⟨⟨x4a, x4b, x4z⟩, ⟨x5a, x5b, x5z⟩, ⟨x6a, x6b, x6z⟩⟩ := KC14'.out w9 (Aft.refl _)
      have b0 : Aft w9 w9 := Aft.refl _
      go_wp2_with (first | (go_at_call 29; with_reducible refine (CZ4'.out (by assumption) _ (Aft.refl _)).mono ?_; rintro e V4 ⟨rfl, c4⟩; have b4 : Aft w9 V4 := Aft.trans (Aft.refl _) c4; obtain ⟨⟨x4a, x4b, x4z⟩, ⟨x5a, x5b, x5z⟩, ⟨x6a, x6b, x6z⟩⟩ := KC14'.out V4 b4; clear c4) | (go_at_call 29; with_reducible refine (CZ5'.out (by assumption) _ (b4)).mono ?_; rintro e V5 ⟨rfl, c5⟩; have b5 : Aft w9 V5 := Aft.trans (b4) c5; obtain ⟨⟨x4a, x4b, x4z⟩, ⟨x5a, x5b, x5z⟩, ⟨x6a, x6b, x6z⟩⟩ := KC14'.out V5 b5; clear c5) | (go_at_call 29; with_reducible refine (CZ5'.out (by assumption) _ (Aft.refl _)).mono ?_; rintro e V5 ⟨rfl, c5⟩; have b5 : Aft w9 V5 := Aft.trans (Aft.refl _) c5; obtain ⟨⟨x4a, x4b, x4z⟩, ⟨x5a, x5b, x5z⟩, ⟨x6a, x6b, x6z⟩⟩ := KC14'.out V5 b5; clear c5) | (go_at_call 29; with_reducible refine (CZ6'.out (by assumption) _ (b5)).mono ?_; rintro e V6 ⟨rfl, c6⟩; have b6 : Aft w9 V6 := Aft.trans (b5) c6; obtain ⟨⟨x4a, x4b, x4z⟩, ⟨x5a, x5b, x5z⟩, ⟨x6a, x6b, x6z⟩⟩ := KC14'.out V6 b6; clear c6) | (go_at_call 29; with_reducible refine (CZ6'.out (by assumption) _ (b4)).mono ?_; rintro e V6 ⟨rfl, c6⟩; have b6 : Aft w9 V6 := Aft.trans (b4) c6; obtain ⟨⟨x4a, x4b, x4z⟩, ⟨x5a, x5b, x5z⟩, ⟨x6a, x6b, x6z⟩⟩ := KC14'.out V6 b6; clear c6) | (go_at_call 29; with_reducible refine (CZ6'.out (by assumption) _ (Aft.refl _)).mono ?_; rintro e V6 ⟨rfl, c6⟩; have b6 : Aft w9 V6 := Aft.trans (Aft.refl _) c6; obtain ⟨⟨x4a, x4b, x4z⟩, ⟨x5a, x5b, x5z⟩, ⟨x6a, x6b, x6z⟩⟩ := KC14'.out V6 b6; clear c6))
      all_goals (first | exact b6 | exact b5 | exact b4 | exact b0)
    case m14 =>
      rintro e a' w10 ⟨rfl, v150, v151, v152, v153, v154, v155, v156, v157, v158, v159, v160, v161, v162, v163, v164, v165, v166, v167, v168, v169, v170, v171, v172, v173, v174, a10, rfl⟩
      have H10 := Lib.hid (HAW.out.trans (HA8.out.trans (H9.out.trans a10)))
      clear a10
      simp only [Exit.then]
      go_wp2_with fail
      refine (checks_any _).mono ?_
      rintro e w11 ⟨rfl, a11⟩
      have H11 := Lib.hid (H10.out.trans a11)
      clear a11
      go_wp2_with fail
      refine (schemas_any _).mono ?_
      rintro e w12 ⟨rfl, a12⟩
      have H12 := Lib.hid (H11.out.trans a12)
      clear a12
      go_wp2_with fail
      go_ret
      exact ⟨rfl, H12.out⟩
end Go.Proofs.YticjnndhpfdajaaGreat
