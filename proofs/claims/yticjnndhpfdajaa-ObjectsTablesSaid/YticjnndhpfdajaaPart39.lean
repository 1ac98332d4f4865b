/- Contracts of the program, part 39. -/
import Derived.Test.YticjnndhpfdajaaPart34
import Derived.Test.YticjnndhpfdajaaPart38
/- objects.AddTable, whole. -/
namespace Go.Proofs.Yticjnndhpfdajaa
open Go.RowKit Go.Deep
set_option maxRecDepth 100000
set_option linter.unusedVariables false
set_option maxHeartbeats 8000000 in
theorem addTable_in (o : Objs) (As : Option Addr) (caps : Nat) (At : Option Addr) (capt : Nat) (t : Tab) (Ac : Option Addr) (cc : Nat) (Ar : Option Addr) (cr : Nat) (w : World) (hsch : SlAt w 2 SchR As caps o.schemas) (htab : SlAt w 5 TabR At capt o.tables) (hcs : SlAt w 3 ColR Ac cc t.cols) (hrs : SlAt w 8 RulR Ar cr t.rules) (h1 : Small t.schema.size) (h2 : Small t.name.size) (h3 : Small t.owner.size) :
    Calls Try.prog 6 #[.agg #[.slice As o.schemas.length caps, .slice At o.tables.length capt], .agg #[.string t.schema, .string t.name, .string t.owner, .slice Ac t.cols.length cc, .slice Ar t.rules.length cr]] w (ObjP w (chgR o (addTabR t o))) := by
  have hlen := hsch.len
  have hlen2 := htab.len
  have sm : SmO o := ⟨sm_schs hsch, sm_tabs htab⟩
  have hent := enters (P := Try.prog) Try.func14 (by kernel_rfl) rfl
  have l1 : w.heap.size < w.heap.size + 1 := by omega
  have l2 : w.heap.size < w.heap.size + 1 + 1 := by omega
  obtain ⟨W, hW⟩ : ∃ W, W = ((w.alloc (.cells #[.slice As o.schemas.length caps, .slice At o.tables.length capt] 25)).alloc (.cells #[.string t.schema, .string t.name, .string t.owner, .slice Ac t.cols.length cc, .slice Ar t.rules.length cr] 29)).alloc (.cells #[.slice none 0 0, .slice none 0 0] 25) := ⟨_, rfl⟩
  have aW : Aft w W := by rw [hW]; exact (((Aft.refl w).alloc _).alloc _).alloc _
  have rs0 : RowAt W (w.heap.size + 1) [.string t.schema, .string t.name, .string t.owner, .slice Ac t.cols.length cc, .slice Ar t.rules.length cr] := by
    rw [hW]
    have := (box_row2 (w := (w.alloc (.cells #[.slice As o.schemas.length caps, .slice At o.tables.length capt] 25))) (c := [.string t.schema, .string t.name, .string t.owner, .slice Ac t.cols.length cc, .slice Ar t.rules.length cr]) (t := 29) (Aft.refl _)).aft ((Aft.refl _).alloc (.cells #[.slice none 0 0, .slice none 0 0] 25))
    simpa using this
  have r2 : RowAt W (w.heap.size + 1 + 1) [.slice none 0 0, .slice none 0 0] := by
    rw [hW]
    have := (box_row2 (w := ((w.alloc (.cells #[.slice As o.schemas.length caps, .slice At o.tables.length capt] 25)).alloc (.cells #[.string t.schema, .string t.name, .string t.owner, .slice Ac t.cols.length cc, .slice Ar t.rules.length cr] 29))) (c := [.slice none 0 0, .slice none 0 0]) (t := 25) (Aft.refl _))
    simpa using this
  have zW : W.heap.size = w.heap.size + 3 := by rw [hW]; simp
  have CT := Lib.hid (changed_in o As caps At capt 14 #[.pointer (some ⟨w.heap.size + 1, 0, none⟩)] (addTabR t o) W (schs_aft aW hsch) (tabs_aft aW htab) hent
    addTabR_zero (fun hck w1 hs ht L B n3 a hB hn hL ob hne r3 => addTab1_in t Ac cc Ar cr o w1 hs ht L B n3 (w.heap.size + 1) hck hn hL ob hne r3 (rs0.aft a) (by omega) (cols_aft (aW.trans a) hcs) (ruls_aft (aW.trans a) hrs) sm h1 h2 h3))
  obtain ⟨rr, hrr⟩ : ∃ rr, chgR o (addTabR t o) = rr := ⟨_, rfl⟩
  rw [hrr] at CT ⊢
  have HAW := Lib.hid aW
  have HR2 := Lib.hid r2
  have HZ := Lib.hid zW
  clear hrr hsch htab r2 aW zW rs0 sm
  go_enter Try.func6, Try.ntmps6
  go_wp2_with fail
  rw [← hW]
  clear hW
  refine CT.out.mono ?_
  rintro e w3 ⟨hs, ht, L, hL, rfl, a3, ob⟩
  have b2 := HR2.out.aft a3
  have d0 := b2.cell (j := 0) rfl
  have d1 := b2.cell (j := 1) rfl
  have f0 := b2.2.2 0 (by simp)
  have f1 := b2.2.2 1 (by simp)
  have z2 := b2.1
  have HB3 := Lib.hid b2
  have HA3 := Lib.hid (HAW.out.trans a3)
  have HO := Lib.hid ob
  have HL := Lib.hid hL
  clear b2 a3 ob hL
  go_wp2_with fail
  refine bodyPost_ret (results_cell_tmp (v := .agg #[.slice hs.a rr.1.schemas.length hs.c, .slice ht.a rr.1.tables.length ht.c]) rfl _ rfl (lvObj_row (setO_row HB3.out rfl _ _))) rfl ?_
  exact objP_set HA3.out HL.out HO.out (by omega) (by have := HZ.out; omega) rfl
end Go.Proofs.Yticjnndhpfdajaa
/- ObjectsTables: the example of the law. -/
namespace Go.Proofs.Yticjnndhpfdajaa
open Go.RowKit Go.Deep
set_option maxRecDepth 100000
set_option linter.unusedVariables false
def Two7 (w : World) (e : Ending) (w' : World) : Prop :=
  ∃ gt ct S cS, e = .returned (.tuple #[.agg #[.slice S 1 cS, .slice (some ⟨gt, 0, none⟩) 2 ct], .int .i64 0]) ∧ Aft w w' ∧ gt < w'.heap.size ∧ w'.cell? ⟨gt, 6, none⟩ = some (.string ⟨#[117]⟩)
theorem addT_one (As : Option Addr) (caps : Nat) (At : Option Addr) (capt : Nat) (Ac : Option Addr) (w : World) (h1 : SlAt w 2 SchR As caps oneO.schemas) (h2 : SlAt w 5 TabR At capt oneO.tables) (h3 : SlAt w 3 ColR Ac 1 newT.cols) :
    Calls Try.prog 6 #[.agg #[.slice As 1 caps, .slice At 1 capt], .agg #[.string ⟨#[115]⟩, .string ⟨#[117]⟩, .string ⟨#[111]⟩, .slice Ac 1 1, .slice none 0 0]] w (Two7 w) := by
  refine (addTable_in oneO As caps At capt newT Ac 1 none 0 w h1 h2 h3 slAt_nil (small7 _) (small7 _) (small7 _)).mono fun e w' h => ?_
  rw [ex_addTab] at h
  obtain ⟨hs, ht, L, hL, he, a, ob⟩ := h
  have hL : L.map OTab.t = oneO.tables ++ [newT] := hL
  have hlen : L.length = 2 := by have := congrArg List.length hL; simpa [oneO] using this
  obtain ⟨gt, hgt, _, hr⟩ := own_place ob.tab (by omega)
  have hq : 1 < L.length := by omega
  have hn : (L[1]'hq).name = ⟨#[117]⟩ := by
    have h9 : (L.map OTab.t)[1]? = (oneO.tables ++ [newT])[1]? := by rw [hL]
    rw [List.getElem?_map, List.getElem?_eq_getElem hq] at h9
    have h8 : (L[1]'hq).t = newT := Option.some.inj h9
    have := congrArg Tab.name h8
    exact this
  refine ⟨gt, ht.c, hs.a, hs.c, ?_, a, hr.1, ?_⟩
  · rw [he, hgt]; rfl
  · have := ob.cell (j := 1) hgt hq (by decide)
    rw [show (L[1]'hq).cells[1]? = some (.string (L[1]'hq).name) from rfl, hn] at this
    exact this
def NoT (w : World) (e : Ending) (w' : World) : Prop := ∃ S cS T cT, e = .returned (.tuple #[.agg #[.slice S 1 cS, .slice T 0 cT], .int .i64 0]) ∧ Aft w w'
theorem dropT_one (As : Option Addr) (caps : Nat) (At : Option Addr) (capt : Nat) (w : World) (h1 : SlAt w 2 SchR As caps oneO.schemas) (h2 : SlAt w 5 TabR At capt oneO.tables) :
    Calls Try.prog 8 #[.agg #[.slice As 1 caps, .slice At 1 capt], .string ⟨#[115]⟩, .string ⟨#[116]⟩] w (NoT w) := by
  refine (dropTable_in oneO As caps At capt ⟨#[115]⟩ ⟨#[116]⟩ w h1 h2).mono fun e w' h => ?_
  rw [ex_dropTab] at h
  obtain ⟨hs, ht, L, hL, he, a, ob⟩ := h
  exact ⟨hs.a, hs.c, ht.a, ht.c, by rw [he]; rfl, a⟩
set_option maxHeartbeats 4000000 in
theorem tables_any (w : World) : Calls Try.prog 10 #[] w fun e w' => e = .returned (.bool true) ∧ Aft w w' := by
  go_enter Try.func10, Try.ntmps10
  go_wp2_with fail
  refine (one_any _).mono ?_
  rintro e w1 ⟨As, caps, At, capt, rfl, a1, h1, h2⟩
  have ab : Aft w1 (w1.alloc (.cells #[.string ⟨#[120]⟩, .int .i64 2, .bool false] 68)) := (Aft.refl w1).alloc _
  have C1 := Lib.hid (addT_one As caps At capt (some ⟨w1.heap.size, 0, none⟩) _ (schs_aft ab h1) (tabs_aft ab h2) (slAt_one _ [.string ⟨#[120]⟩, .int .i64 2, .bool false] #[.string ⟨#[120]⟩, .int .i64 2, .bool false] (by simp) (by intro o; exact World.cell?_alloc_at _ _ _ _ (by simp)) rfl rfl ⟨rfl, by unfold Small; decide⟩ (by omega)))
  have HA1 := Lib.hid (a1.trans ab)
  clear a1 h1 h2 ab
  go_wp2_with fail
  refine C1.out.mono ?_
  rintro e w2 ⟨gt, ct, S, cS, rfl, a2, z1, x0⟩
  have HA2 := Lib.hid (HA1.out.trans a2)
  clear a2 C1
  go_wp2_with fail
  refine (one_any _).mono ?_
  rintro e w3 ⟨As, caps, At, capt, rfl, a3, h1, h2⟩
  have rb := box_row2 (c := [.slice S 1 cS, .slice (some ⟨gt, 0, none⟩) 2 ct]) a3
  have a23 := ((Aft.refl w2).alloc _).trans a3
  have x0 := a23.cell_kept x0
  have z1 := Nat.lt_of_lt_of_le z1 a23.size
  have C2 := Lib.hid (dropT_one As caps At capt w3 h1 h2)
  have HA3 := Lib.hid (HA2.out.trans a23)
  have HB := Lib.hid rb
  clear a3 h1 h2 rb a23
  go_wp2_with fail
  refine C2.out.mono ?_
  rintro e w4 ⟨S2, cS2, T2, cT2, rfl, a4⟩
  have x0 := a4.cell_kept x0
  have z1 := Nat.lt_of_lt_of_le z1 a4.size
  have rb := HB.out.aft a4
  have b0 := rb.cell (j := 0) rfl
  have b1 := rb.cell (j := 1) rfl
  have bz := rb.1
  have HA4 := Lib.hid (HA3.out.trans a4)
  have zz1 : gt < w4.heap.size + 1 := by omega
  have zz2 : w2.heap.size < w4.heap.size + 1 := by omega
  clear a4 C2 rb
  go_wp2_with fail
  go_ret
  exact ⟨rfl, HA4.out.alloc _⟩
end Go.Proofs.Yticjnndhpfdajaa
