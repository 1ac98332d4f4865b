/- Contracts of the program, part 37. -/
import Derived.Test.YticjnndhpfdajaaGreatPart16
import Derived.Test.YticjnndhpfdajaaGreatPart20
import Derived.Test.YticjnndhpfdajaaGreatPart22
import Derived.Test.YticjnndhpfdajaaGreatPart31
import Derived.Test.YticjnndhpfdajaaGreatPart25
import Derived.Test.YticjnndhpfdajaaGreatPart21
/- The law ObjectsChecks, walked. -/
namespace Go.Proofs.YticjnndhpfdajaaGreat
open Go.RowKit
set_option maxRecDepth 100000
set_option linter.unusedVariables false
set_option maxHeartbeats 4000000 in
theorem checks_any (w : World) : Calls Tryz.prog 31 #[] w fun e w' => e = .returned (.bool true) ∧ Aft w w' := by
  go_enter Tryz.func31, Tryz.ntmps31
  go_wp2_with fail
  refine (one_any _).mono ?_
  rintro e w1 ⟨As, caps, At, capt, rfl, a1, h1, h2⟩
  have C1 := Lib.hid (show ∀ w', Aft w1 w' → Calls Tryz.prog 29 #[.agg #[.slice As 1 caps, .slice At 1 capt]] w' fun e w'' => e = .returned (.int .i64 0) ∧ Aft w' w'' from
    fun w' a => (check_any oneO As caps At capt w' (schs_aft a h1) (tabs_aft a h2)).mono fun e w'' ⟨he, hw⟩ => ⟨he.trans (by unfold checkE; rw [oneO_ok]; rfl), hw⟩)
  have C2 := Lib.hid (show ∀ w', Aft w1 w' → Calls Tryz.prog 29 #[.agg #[.slice none 0 0, .slice At 1 capt]] w' fun e w'' => e = .returned (.int .i64 63) ∧ Aft w' w'' from
    fun w' a => (check_any ⟨[], oneO.tables⟩ none 0 At capt w' slAt_nil (tabs_aft a h2)).mono fun e w'' ⟨he, hw⟩ => ⟨he.trans (by unfold checkE; rw [oneO_no]; rfl), hw⟩)
  have HA1 := Lib.hid a1
  clear a1 h1 h2
  go_wp2_with fail
  refine (C1.out _ ((Aft.refl _).alloc _)).mono ?_
  rintro e w2 ⟨rfl, a2⟩
  obtain ⟨hbox, hfr, hz, hzk, HA2⟩ := aft_box a2
  clear a2
  go_wp2_with fail
  refine (C2.out _ HA2.out).mono ?_
  rintro e w3 ⟨rfl, a3⟩
  have HA3 := Lib.hid (HA1.out.trans (HA2.out.trans a3))
  clear a3
  go_wp2_with fail
  go_ret
  exact ⟨rfl, HA3.out⟩
end Go.Proofs.YticjnndhpfdajaaGreat
/- ObjectsTables: plain facts for the law. -/
namespace Go.Proofs.YticjnndhpfdajaaGreat
open Go.RowKit Go.Deep
set_option maxRecDepth 100000
set_option linter.unusedVariables false
theorem smO_chg' {o : Objs} {r : Objs × Int} (h : checkO o = true → SmO r.1) : SmO (chgR o r).1 := by
  unfold chgR
  split
  · rename_i h1; exact h h1
  · exact smO_zero
theorem smO_addTab {o : Objs} {t : Tab} (h : SmO o) (ht : SmT t) : SmO (chgR o (addTabR t o)).1 := by
  refine smO_chg' fun hc => ?_
  have hl := (checkO_rises hc).2.2.2
  unfold addTabR
  split
  · exact smO_zero
  · split
    · exact smO_zero
    · split
      · exact smO_zero
      · split
        · exact smO_zero
        · split
          · exact smO_zero
          · refine ⟨h.1, ?_, fun y hy => ?_⟩
            · show Small ((insAt _ _ _).length * 16)
              rw [insAt_len _ _ _ (posB_le _ _ _)]; unfold Small; omega
            · rcases mem_insAt.1 hy with e | e
              · rw [e]; exact ht
              · exact h.2.2 y e
theorem smO_dropTab {o : Objs} {s n : ByteArray} (h : SmO o) : SmO (dropTabR s n o).1 := by
  unfold dropTabR
  split
  · exact smO_zero
  · split
    · exact smO_zero
    · exact ⟨h.1, Nat.le_trans (Nat.mul_le_mul_right _ (List.length_eraseIdx_le _ _)) h.2.1, fun s hs => h.2.2 s (List.mem_of_mem_eraseIdx hs)⟩
def newT : Tab := ⟨⟨#[115]⟩, ⟨#[117]⟩, ⟨#[111]⟩, [⟨⟨#[120]⟩, 2, false⟩], []⟩
theorem ex_addTab : chgR oneO (addTabR newT oneO) = (⟨oneO.schemas, oneO.tables ++ [newT]⟩, 0) := by
  unfold chgR addTabR
  rw [oneO_ok, show nameB newT.name = true by decide +kernel, show nameB newT.owner = true by decide +kernel, show schAt oneO.schemas newT.schema = 0 by decide +kernel, show tabAt oneO.tables newT.schema newT.name = -1 by decide +kernel, show within oneO.tables newT.schema = 1 by decide +kernel, show colsOk newT.cols = true by decide +kernel, show posB cmpTb oneO.tables newT = 1 by decide +kernel]
  rfl
theorem ex_dropTab : chgR oneO (dropTabR ⟨#[115]⟩ ⟨#[116]⟩ oneO) = (⟨oneO.schemas, []⟩, 0) := by
  unfold chgR dropTabR
  rw [oneO_ok, show tabAt oneO.tables ⟨#[115]⟩ ⟨#[116]⟩ = 0 by decide +kernel, usedT_eq, show (oneO.tables.any fun t => !selfP ⟨#[115]⟩ ⟨#[116]⟩ t && t.rules.any (namesR ⟨#[115]⟩ ⟨#[116]⟩)) = false by decide +kernel]
  rfl
end Go.Proofs.YticjnndhpfdajaaGreat
/- objects.AddTable, whole. -/
namespace Go.Proofs.YticjnndhpfdajaaGreat
open Go.RowKit Go.Deep
set_option maxRecDepth 100000
set_option linter.unusedVariables false
set_option maxHeartbeats 8000000 in
theorem addTable_in (o : Objs) (As : Option Addr) (caps : Nat) (At : Option Addr) (capt : Nat) (t : Tab) (Ac : Option Addr) (cc : Nat) (Ar : Option Addr) (cr : Nat) (w : World) (hsch : SlAt w 2 SchR As caps o.schemas) (htab : SlAt w 5 TabR At capt o.tables) (hcs : SlAt w 3 ColR Ac cc t.cols) (hrs : SlAt w 8 RulR Ar cr t.rules) (h1 : Small t.schema.size) (h2 : Small t.name.size) (h3 : Small t.owner.size) :
    Calls Tryz.prog 32 #[.agg #[.slice As o.schemas.length caps, .slice At o.tables.length capt], .agg #[.string t.schema, .string t.name, .string t.owner, .slice Ac t.cols.length cc, .slice Ar t.rules.length cr]] w (ObjP w (chgR o (addTabR t o))) := by
  have hlen := hsch.len
  have hlen2 := htab.len
  have sm : SmO o := ⟨sm_schs hsch, sm_tabs htab⟩
  have hent := enters (P := Tryz.prog) Tryz.func109 (by kernel_rfl) rfl
  have l1 : w.heap.size < w.heap.size + 1 := by omega
  have l2 : w.heap.size < w.heap.size + 1 + 1 := by omega
  obtain ⟨W, hW⟩ : ∃ W, W = ((w.alloc (.cells #[.slice As o.schemas.length caps, .slice At o.tables.length capt] 25)).alloc (.cells #[.string t.schema, .string t.name, .string t.owner, .slice Ac t.cols.length cc, .slice Ar t.rules.length cr] 50)).alloc (.cells #[.slice none 0 0, .slice none 0 0] 25) := ⟨_, rfl⟩
  have aW : Aft w W := by rw [hW]; exact (((Aft.refl w).alloc _).alloc _).alloc _
  have rs0 : RowAt W (w.heap.size + 1) [.string t.schema, .string t.name, .string t.owner, .slice Ac t.cols.length cc, .slice Ar t.rules.length cr] := by
    rw [hW]
    have := (box_row2 (w := (w.alloc (.cells #[.slice As o.schemas.length caps, .slice At o.tables.length capt] 25))) (c := [.string t.schema, .string t.name, .string t.owner, .slice Ac t.cols.length cc, .slice Ar t.rules.length cr]) (t := 50) (Aft.refl _)).aft ((Aft.refl _).alloc (.cells #[.slice none 0 0, .slice none 0 0] 25))
    simpa using this
  have r2 : RowAt W (w.heap.size + 1 + 1) [.slice none 0 0, .slice none 0 0] := by
    rw [hW]
    have := (box_row2 (w := ((w.alloc (.cells #[.slice As o.schemas.length caps, .slice At o.tables.length capt] 25)).alloc (.cells #[.string t.schema, .string t.name, .string t.owner, .slice Ac t.cols.length cc, .slice Ar t.rules.length cr] 50))) (c := [.slice none 0 0, .slice none 0 0]) (t := 25) (Aft.refl _))
    simpa using this
  have zW : W.heap.size = w.heap.size + 3 := by rw [hW]; simp
  have CT := Lib.hid (changed_in o As caps At capt 109 #[.pointer (some ⟨w.heap.size + 1, 0, none⟩)] (addTabR t o) W (schs_aft aW hsch) (tabs_aft aW htab) hent
    addTabR_zero (fun hck w1 hs ht L B n3 a hB hn hL ob hne r3 => addTab1_in t Ac cc Ar cr o w1 hs ht L B n3 (w.heap.size + 1) hck hn hL ob hne r3 (rs0.aft a) (by omega) (cols_aft (aW.trans a) hcs) (ruls_aft (aW.trans a) hrs) sm h1 h2 h3))
  obtain ⟨rr, hrr⟩ : ∃ rr, chgR o (addTabR t o) = rr := ⟨_, rfl⟩
  rw [hrr] at CT ⊢
  have HAW := Lib.hid aW
  have HR2 := Lib.hid r2
  have HZ := Lib.hid zW
  clear hrr hsch htab r2 aW zW rs0 sm
  go_enter Tryz.func32, Tryz.ntmps32
  go_wp2_with fail
  rw [← hW]
  clear hW
  refine CT.out.mono ?_
  rintro e w3 ⟨hs, ht, L, hL, rfl, a3, ob⟩
  have b2 := HR2.out.aft a3
  have d0 := b2.cell (j := 0) rfl
  have d1 := b2.cell (j := 1) rfl
  have f0 := b2.2.2 0 (by simp)
  have f1 := b2.2.2 1 (by simp)
  have z2 := b2.1
  have HB3 := Lib.hid b2
  have HA3 := Lib.hid (HAW.out.trans a3)
  have HO := Lib.hid ob
  have HL := Lib.hid hL
  clear b2 a3 ob hL
  go_wp2_with fail
  refine bodyPost_ret (results_cell_tmp (v := .agg #[.slice hs.a rr.1.schemas.length hs.c, .slice ht.a rr.1.tables.length ht.c]) rfl _ rfl (lvObj_row (setO_row HB3.out rfl _ _))) rfl ?_
  exact objP_set HA3.out HL.out HO.out (by omega) (by have := HZ.out; omega) rfl
end Go.Proofs.YticjnndhpfdajaaGreat
