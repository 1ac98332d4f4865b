/- Contracts of the program, part 27. -/
import Derived.Test.YticjnndhpfdajaaGreatPart26
import Derived.Test.YticjnndhpfdajaaGreatPart25
import Derived.Test.YticjnndhpfdajaaGreatPart24
/- objects.AddRule, objects.DropRule, whole. -/
namespace Go.Proofs.YticjnndhpfdajaaGreat
open Go.RowKit Go.Deep
set_option maxRecDepth 100000
set_option linter.unusedVariables false
set_option maxHeartbeats 8000000 in
theorem addRule_in (o : Objs) (As : Option Addr) (caps : Nat) (At : Option Addr) (capt : Nat) (r : Rul) (Ac : Option Addr) (cc : Nat) (s n : ByteArray) (w : World) (hsch : SlAt w 2 SchR As caps o.schemas) (htab : SlAt w 5 TabR At capt o.tables) (hns : SlAt w 1 StrR Ac cc r.cols) (h1 : Small r.name.size) (h2 : Small r.schema.size) (h3 : Small r.table.size) (h4 : Small r.key.size) :
    Calls Tryz.prog 16 #[.agg #[.slice As o.schemas.length caps, .slice At o.tables.length capt], .string s, .string n, .agg #[.string r.name, .int .i64 r.kind, .slice Ac r.cols.length cc, .int .i64 r.low, .int .i64 r.high, .string r.schema, .string r.table, .string r.key]] w (ObjP w (chgR o (tabR o s n (addRulF o.tables r)))) := by
  have hlen := hsch.len
  have hlen2 := htab.len
  have sm : SmO o := ⟨sm_schs hsch, sm_tabs htab⟩
  have hent := enters (P := Tryz.prog) Tryz.func61 (by kernel_rfl) rfl
  have l1 : w.heap.size < w.heap.size + 1 := by omega
  have l2 : w.heap.size < w.heap.size + 1 + 1 := by omega
  obtain ⟨W, hW⟩ : ∃ W, W = ((w.alloc (.cells #[.slice As o.schemas.length caps, .slice At o.tables.length capt] 25)).alloc (.cells #[.string r.name, .int .i64 r.kind, .slice Ac r.cols.length cc, .int .i64 r.low, .int .i64 r.high, .string r.schema, .string r.table, .string r.key] 29)).alloc (.cells #[.slice none 0 0, .slice none 0 0] 25) := ⟨_, rfl⟩
  have aW : Aft w W := by rw [hW]; exact (((Aft.refl w).alloc _).alloc _).alloc _
  have rs0 : RowAt W (w.heap.size + 1) [.string r.name, .int .i64 r.kind, .slice Ac r.cols.length cc, .int .i64 r.low, .int .i64 r.high, .string r.schema, .string r.table, .string r.key] := by
    rw [hW]
    have := (box_row2 (w := (w.alloc (.cells #[.slice As o.schemas.length caps, .slice At o.tables.length capt] 25))) (c := [.string r.name, .int .i64 r.kind, .slice Ac r.cols.length cc, .int .i64 r.low, .int .i64 r.high, .string r.schema, .string r.table, .string r.key]) (t := 29) (Aft.refl _)).aft ((Aft.refl _).alloc (.cells #[.slice none 0 0, .slice none 0 0] 25))
    simpa using this
  have r2 : RowAt W (w.heap.size + 1 + 1) [.slice none 0 0, .slice none 0 0] := by
    rw [hW]
    have := (box_row2 (w := ((w.alloc (.cells #[.slice As o.schemas.length caps, .slice At o.tables.length capt] 25)).alloc (.cells #[.string r.name, .int .i64 r.kind, .slice Ac r.cols.length cc, .int .i64 r.low, .int .i64 r.high, .string r.schema, .string r.table, .string r.key] 29))) (c := [.slice none 0 0, .slice none 0 0]) (t := 25) (Aft.refl _))
    simpa using this
  have zW : W.heap.size = w.heap.size + 3 := by rw [hW]; simp
  have CT := Lib.hid (tabChX_in (fun g => g = w.heap.size + 1) o As caps At capt s n 61 #[.pointer (some ⟨w.heap.size + 1, 0, none⟩)] (addRulF o.tables r) W (schs_aft aW hsch) (tabs_aft aW htab) hent (fun g e => by have e : g = w.heap.size + 1 := e; omega)
    (fun hck w'' hs ht L B n3 q gt hq a'' hB hn hL ob hne r3 hgt hqq => addRul1_in r Ac cc o w'' hs ht L B n3 q gt (w.heap.size + 1) hck hq hn hL ob hne r3 hgt (rs0.aft a'') (by omega) (strs_aft (aW.trans a'') hns) sm h1 h2 h3 h4))
  obtain ⟨rr, hrr⟩ : ∃ rr, chgR o (tabR o s n (addRulF o.tables r)) = rr := ⟨_, rfl⟩
  rw [hrr] at CT ⊢
  have HAW := Lib.hid aW
  have HR2 := Lib.hid r2
  have HZ := Lib.hid zW
  clear hrr hsch htab r2 aW zW rs0 sm
  go_enter Tryz.func16, Tryz.ntmps16
  go_wp2_with fail
  rw [← hW]
  clear hW
  refine CT.out.mono ?_
  rintro e w3 ⟨hs, ht, L, hL, rfl, a3, ob⟩
  have b2 := a3.row HR2.out (fun e => by have e : w.heap.size + 1 + 1 = w.heap.size + 1 := e; omega)
  have d0 := b2.cell (j := 0) rfl
  have d1 := b2.cell (j := 1) rfl
  have f0 := b2.2.2 0 (by simp)
  have f1 := b2.2.2 1 (by simp)
  have z2 := b2.1
  have HB3 := Lib.hid b2
  have HA3 := Lib.hid (a3.to_aft HAW.out (fun g hg e => by omega))
  have HO := Lib.hid ob
  have HL := Lib.hid hL
  clear b2 a3 ob hL
  go_wp2_with fail
  refine bodyPost_ret (results_cell_tmp (v := .agg #[.slice hs.a rr.1.schemas.length hs.c, .slice ht.a rr.1.tables.length ht.c]) rfl _ rfl (lvObj_row (setO_row HB3.out rfl _ _))) rfl ?_
  exact objP_set HA3.out HL.out HO.out (by omega) (by have := HZ.out; omega) rfl
set_option maxHeartbeats 8000000 in
theorem dropRule_in (o : Objs) (As : Option Addr) (caps : Nat) (At : Option Addr) (capt : Nat) (s n name : ByteArray) (w : World) (hsch : SlAt w 2 SchR As caps o.schemas) (htab : SlAt w 5 TabR At capt o.tables) :
    Calls Tryz.prog 18 #[.agg #[.slice As o.schemas.length caps, .slice At o.tables.length capt], .string s, .string n, .string name] w (ObjP w (chgR o (tabR o s n (dropRulF o.tables s n name)))) := by
  have hlen := hsch.len
  have hlen2 := htab.len
  have sm : SmO o := ⟨sm_schs hsch, sm_tabs htab⟩
  have hent := enters (P := Tryz.prog) Tryz.func76 (by kernel_rfl) rfl
  have l1 : w.heap.size < w.heap.size + 1 := by omega
  have l2 : w.heap.size < w.heap.size + 1 + 1 := by omega
  have l3 : w.heap.size < w.heap.size + 1 + 1 + 1 := by omega
  have l4 : w.heap.size < w.heap.size + 1 + 1 + 1 + 1 := by omega
  obtain ⟨W, hW⟩ : ∃ W, W = ((((w.alloc (.cells #[.slice As o.schemas.length caps, .slice At o.tables.length capt] 25)).alloc (.cells #[.string s] 9)).alloc (.cells #[.string n] 9)).alloc (.cells #[.string name] 9)).alloc (.cells #[.slice none 0 0, .slice none 0 0] 25) := ⟨_, rfl⟩
  have aW : Aft w W := by rw [hW]; exact (((((Aft.refl w).alloc _).alloc _).alloc _).alloc _).alloc _
  have rs0 : RowAt W (w.heap.size + 1) [.string s] := by
    rw [hW]
    have := (box_row2 (w := (w.alloc (.cells #[.slice As o.schemas.length caps, .slice At o.tables.length capt] 25))) (c := [.string s]) (t := 9) (Aft.refl _)).aft ((((Aft.refl _).alloc (.cells #[.string n] 9)).alloc (.cells #[.string name] 9)).alloc (.cells #[.slice none 0 0, .slice none 0 0] 25))
    simpa using this
  have rs1 : RowAt W (w.heap.size + 1 + 1) [.string n] := by
    rw [hW]
    have := (box_row2 (w := ((w.alloc (.cells #[.slice As o.schemas.length caps, .slice At o.tables.length capt] 25)).alloc (.cells #[.string s] 9))) (c := [.string n]) (t := 9) (Aft.refl _)).aft (((Aft.refl _).alloc (.cells #[.string name] 9)).alloc (.cells #[.slice none 0 0, .slice none 0 0] 25))
    simpa using this
  have rs2 : RowAt W (w.heap.size + 1 + 1 + 1) [.string name] := by
    rw [hW]
    have := (box_row2 (w := (((w.alloc (.cells #[.slice As o.schemas.length caps, .slice At o.tables.length capt] 25)).alloc (.cells #[.string s] 9)).alloc (.cells #[.string n] 9))) (c := [.string name]) (t := 9) (Aft.refl _)).aft ((Aft.refl _).alloc (.cells #[.slice none 0 0, .slice none 0 0] 25))
    simpa using this
  have r2 : RowAt W (w.heap.size + 1 + 1 + 1 + 1) [.slice none 0 0, .slice none 0 0] := by
    rw [hW]
    have := (box_row2 (w := ((((w.alloc (.cells #[.slice As o.schemas.length caps, .slice At o.tables.length capt] 25)).alloc (.cells #[.string s] 9)).alloc (.cells #[.string n] 9)).alloc (.cells #[.string name] 9))) (c := [.slice none 0 0, .slice none 0 0]) (t := 25) (Aft.refl _))
    simpa using this
  have zW : W.heap.size = w.heap.size + 5 := by rw [hW]; simp
  have CT := Lib.hid (tabCh_in o As caps At capt s n 76 #[.pointer (some ⟨w.heap.size + 1 + 1 + 1, 0, none⟩), .pointer (some ⟨w.heap.size + 1, 0, none⟩), .pointer (some ⟨w.heap.size + 1 + 1, 0, none⟩)] (dropRulF o.tables s n name) W (schs_aft aW hsch) (tabs_aft aW htab) hent
    (fun hck w'' hs ht L B n3 q gt hq a'' hB hn hL ob hne r3 hgt hqq => dropRul1_in s n name o w'' hs ht L B n3 q gt (w.heap.size + 1 + 1 + 1) (w.heap.size + 1) (w.heap.size + 1 + 1) hq hn hL ob hne r3 hgt ((rs2.aft a'').cell (j := 0) rfl) ((rs0.aft a'').cell (j := 0) rfl) ((rs1.aft a'').cell (j := 0) rfl) sm))
  obtain ⟨rr, hrr⟩ : ∃ rr, chgR o (tabR o s n (dropRulF o.tables s n name)) = rr := ⟨_, rfl⟩
  rw [hrr] at CT ⊢
  have HAW := Lib.hid aW
  have HR2 := Lib.hid r2
  have HZ := Lib.hid zW
  clear hrr hsch htab r2 aW zW rs0 rs1 rs2 sm
  go_enter Tryz.func18, Tryz.ntmps18
  go_wp2_with fail
  rw [← hW]
  clear hW
  refine CT.out.mono ?_
  rintro e w3 ⟨hs, ht, L, hL, rfl, a3, ob⟩
  have b2 := HR2.out.aft a3
  have d0 := b2.cell (j := 0) rfl
  have d1 := b2.cell (j := 1) rfl
  have f0 := b2.2.2 0 (by simp)
  have f1 := b2.2.2 1 (by simp)
  have z2 := b2.1
  have HB3 := Lib.hid b2
  have HA3 := Lib.hid (HAW.out.trans a3)
  have HO := Lib.hid ob
  have HL := Lib.hid hL
  clear b2 a3 ob hL
  go_wp2_with fail
  refine bodyPost_ret (results_cell_tmp (v := .agg #[.slice hs.a rr.1.schemas.length hs.c, .slice ht.a rr.1.tables.length ht.c]) rfl _ rfl (lvObj_row (setO_row HB3.out rfl _ _))) rfl ?_
  exact objP_set HA3.out HL.out HO.out (by omega) (by have := HZ.out; omega) rfl
end Go.Proofs.YticjnndhpfdajaaGreat
/- ObjectsRules: the example of the law. -/
namespace Go.Proofs.YticjnndhpfdajaaGreat
open Go.RowKit Go.Deep
set_option maxRecDepth 100000
set_option linter.unusedVariables false
/-- the example's first change, in a box of its own -/
def FirstP (W1 : World) (bx : Nat) (hs ht : Hd) (w' : World) : Prop :=
  Aft W1 w' ∧ RowAt w' bx [.slice hs.a 1 hs.c, .slice ht.a 1 ht.c] ∧ ∃ L, L.map OTab.t = oneF.tables ∧ ObjIn w' W1.heap.size hs ht oneF.schemas L
theorem first_end {W1 V2 : World} {hs ht : Hd} {L : List OTab} (a : Aft W1 V2) (hL : L.map OTab.t = oneF.tables) (ob : ObjIn V2 W1.heap.size hs ht oneF.schemas L) (b : Nat) (hb : W1.heap.size ≤ b) (hn : ∀ g ∈ hs.blk ++ (ht.blk ++ L.flatMap OTab.blks), g ≠ b) (hr : RowAt V2 b [.slice none 0 0, .slice none 0 0]) :
    FirstP W1 b hs ht ((V2.setCell ⟨b, 0, none⟩ (.slice hs.a oneF.schemas.length hs.c)).setCell ⟨b, 1, none⟩ (.slice ht.a oneF.tables.length ht.c)) :=
  ⟨(setO_kb V2 b _ _).to_aft a (fun g hg e => by have e : g = b := e; omega), setO_row hr rfl _ _, L, hL, ob.kb (setO_kb V2 b _ _) fun g hg e => hn g hg e⟩
theorem first_new {W1 V2 : World} {hs ht : Hd} {L : List OTab} (a : Aft W1 V2) (hL : L.map OTab.t = oneF.tables) (ob : ObjIn V2 W1.heap.size hs ht oneF.schemas L) :
    FirstP W1 V2.heap.size hs ht (V2.alloc (.cells #[.slice hs.a oneF.schemas.length hs.c, .slice ht.a oneF.tables.length ht.c] 25)) :=
  ⟨a.alloc _, box_row2 (Aft.refl _), L, hL, ob.aft ((Aft.refl _).alloc _)⟩
theorem smO_one : SmO oneO := by
  refine ⟨⟨by simp [oneO, Small], fun s hs => ?_⟩, by simp [oneO, Small], fun t ht => ?_⟩
  · simp only [oneO, List.mem_singleton] at hs
    subst hs
    exact ⟨small7 _, small7 _⟩
  · simp only [oneO, List.mem_singleton] at ht
    subst ht
    refine ⟨⟨by simp [Small], fun c hc => ?_⟩, ⟨by simp [Small], fun r hr => ?_⟩, small7 _, small7 _, small7 _⟩
    · simp only [List.mem_cons, List.not_mem_nil, or_false] at hc
      rcases hc with rfl | rfl <;> exact small7 _
    · simp only [List.mem_singleton] at hr
      subst hr
      refine ⟨by simp [Small], fun s hs => ?_, small7 _, by unfold Small; decide, by unfold Small; decide, by unfold Small; decide⟩
      simp only [List.mem_singleton] at hs
      subst hs
      exact small7 _
theorem smR_ruF (b : UInt8) : SmR (ruF ⟨#[b]⟩) := by
  refine ⟨by simp [ruF, Small], fun s hs => ?_, small7 _, small7 _, small7 _, small7 _⟩
  simp only [ruF, List.mem_singleton] at hs
  subst hs
  exact small7 _
set_option maxHeartbeats 8000000 in
theorem rules_any (w : World) : Calls Tryz.prog 20 #[] w fun e w' => e = .returned (.bool true) ∧ Aft w w' := by
  obtain ⟨W1, hW1⟩ : ∃ W, W = (w.alloc (.cells #[.string ⟨#[120]⟩] 9)).alloc (.cells #[.string ⟨#[102]⟩, .int .i64 4, .slice (some ⟨w.heap.size, 0, none⟩) 1 1, .int .i64 0, .int .i64 0, .string ⟨#[115]⟩, .string ⟨#[116]⟩, .string ⟨#[107]⟩] 29) := ⟨_, rfl⟩
  have aW1 : Aft w W1 := by rw [hW1]; exact ((Aft.refl w).alloc _).alloc _
  have rR : RowAt W1 (w.heap.size + 1) [.string ⟨#[102]⟩, .int .i64 4, .slice (some ⟨w.heap.size, 0, none⟩) 1 1, .int .i64 0, .int .i64 0, .string ⟨#[115]⟩, .string ⟨#[116]⟩, .string ⟨#[107]⟩] := by
    rw [hW1]
    have := box_row2 (w := w.alloc (.cells #[.string ⟨#[120]⟩] 9)) (c := [.string ⟨#[102]⟩, .int .i64 4, .slice (some ⟨w.heap.size, 0, none⟩) 1 1, .int .i64 0, .int .i64 0, .string ⟨#[115]⟩, .string ⟨#[116]⟩, .string ⟨#[107]⟩]) (t := 29) (Aft.refl _)
    simpa using this
  have rN : RowAt W1 w.heap.size [.string ⟨#[120]⟩] := by rw [hW1]; exact (box_row2 (w := w) (c := [.string ⟨#[120]⟩]) (t := 9) (Aft.refl _)).aft ((Aft.refl _).alloc _)
  have hns : SlAt W1 1 StrR (some ⟨w.heap.size, 0, none⟩) 1 [(⟨#[120]⟩ : ByteArray)] := by
    rw [hW1]
    exact slAt_one _ [.string ⟨#[120]⟩] #[.string ⟨#[120]⟩] (by simp; omega) (fun o => (World.cell?_alloc_past _ _ _ (by simp)).trans (World.cell?_alloc_at _ _ _ _ (by simp))) rfl rfl ⟨rfl, small7 _⟩ (Nat.le_refl _)
  have HNS := Lib.hid hns
  have z1 : W1.heap.size = w.heap.size + 2 := by rw [hW1]; simp
  have HA1 := Lib.hid aW1
  have HRR := Lib.hid rR
  have HRN := Lib.hid rN
  have HZ1 := Lib.hid z1
  clear aW1 rR rN z1 hns
  go_enter Tryz.func20, Tryz.ntmps20
  go_wp2_with fail
  rw [← hW1]
  clear hW1
  have g0 := HRR.out.cell (j := 0) rfl
  have g1 := HRR.out.cell (j := 1) rfl
  have g2 := HRR.out.cell (j := 2) rfl
  have g3 := HRR.out.cell (j := 3) rfl
  have g4 := HRR.out.cell (j := 4) rfl
  have g5 := HRR.out.cell (j := 5) rfl
  have g6 := HRR.out.cell (j := 6) rfl
  have g7 := HRR.out.cell (j := 7) rfl
  have gz := HRR.out.1
  have C1 := Lib.hid (show ∀ V, Aft W1 V → ∀ (As : Option Addr) (caps : Nat) (At : Option Addr) (capt : Nat), SlAt V 2 SchR As caps oneO.schemas → SlAt V 5 TabR At capt oneO.tables → Calls Tryz.prog 16 #[.agg #[.slice As 1 caps, .slice At 1 capt], .string ⟨#[115]⟩, .string ⟨#[116]⟩, .agg #[.string ⟨#[102]⟩, .int .i64 4, .slice (some ⟨w.heap.size, 0, none⟩) 1 1, .int .i64 0, .int .i64 0, .string ⟨#[115]⟩, .string ⟨#[116]⟩, .string ⟨#[107]⟩]] V (ObjP V (oneF, 0)) from fun V a As caps At capt h1 h2 => by
    have hns : SlAt V 1 StrR (some ⟨w.heap.size, 0, none⟩) 1 (ruF ⟨#[120]⟩).cols := strs_aft a HNS.out
    have := addRule_in oneO As caps At capt (ruF ⟨#[120]⟩) (some ⟨w.heap.size, 0, none⟩) 1 ⟨#[115]⟩ ⟨#[116]⟩ V h1 h2 hns (small7 _) (small7 _) (small7 _) (small7 _)
    rw [ex_addRul] at this
    exact this)
  have KS := Lib.hid (show ∀ V, Aft W1 V → (Aft W1 V ∧ V.cell? ⟨w.heap.size + 1, 0, none⟩ = some (.string ⟨#[102]⟩) ∧ V.cell? ⟨w.heap.size + 1, 1, none⟩ = some (.int .i64 4) ∧ V.cell? ⟨w.heap.size + 1, 2, none⟩ = some (.slice (some ⟨w.heap.size, 0, none⟩) 1 1) ∧ V.cell? ⟨w.heap.size + 1, 3, none⟩ = some (.int .i64 0) ∧ V.cell? ⟨w.heap.size + 1, 4, none⟩ = some (.int .i64 0) ∧ V.cell? ⟨w.heap.size + 1, 5, none⟩ = some (.string ⟨#[115]⟩) ∧ V.cell? ⟨w.heap.size + 1, 6, none⟩ = some (.string ⟨#[116]⟩) ∧ V.cell? ⟨w.heap.size + 1, 7, none⟩ = some (.string ⟨#[107]⟩)) from fun V a => ⟨a, a.cell_kept g0, a.cell_kept g1, a.cell_kept g2, a.cell_kept g3, a.cell_kept g4, a.cell_kept g5, a.cell_kept g6, a.cell_kept g7⟩)
  refine Code.wp_mono (Q := fun e a' w' => e = Exit.normal ∧ ∃ (bx : Nat) (hs ht : Hd) (As : Option Addr) (caps : Nat) (At : Option Addr) (capt : Nat), FirstP W1 bx hs ht w' ∧ W1.heap.size ≤ bx ∧ a' = { tmps := #[.bool false, .pointer (some ⟨w.heap.size + 1, 0, none⟩), .pointer (some ⟨bx, 0, none⟩), .int .i64 0, undef, undef, undef, undef, .slice (some ⟨w.heap.size, 0, none⟩) 1 1, .agg #[.string ⟨#[102]⟩, .int .i64 4, .slice (some ⟨w.heap.size, 0, none⟩) 1 1, .int .i64 0, .int .i64 0, .string ⟨#[115]⟩, .string ⟨#[116]⟩, .string ⟨#[107]⟩], .tuple #[.agg #[.slice hs.a 1 hs.c, .slice ht.a 1 ht.c], .int .i64 0], .agg #[.slice As 1 caps, .slice At 1 capt], .agg #[.string ⟨#[102]⟩, .int .i64 4, .slice (some ⟨w.heap.size, 0, none⟩) 1 1, .int .i64 0, .int .i64 0, .string ⟨#[115]⟩, .string ⟨#[116]⟩, .string ⟨#[107]⟩], .tuple #[.agg #[.slice hs.a 1 hs.c, .slice ht.a 1 ht.c], .int .i64 0], .agg #[.slice hs.a 1 hs.c, .slice ht.a 1 ht.c], .int .i64 0, undef, undef, undef, undef, undef, undef, undef, undef, undef, undef, undef, undef, undef, undef, undef, undef, undef, undef, undef, undef, undef, undef, undef, undef, undef, undef, undef, undef, undef, undef, undef, undef, undef, undef, undef, undef, undef, undef, undef, undef, undef, undef, undef, undef, undef, undef, undef, undef, undef], defers := [] }) ?mono ?reg
  case reg =>
    go_region_held3 (fun V => Aft W1 V ∧ V.cell? ⟨w.heap.size + 1, 0, none⟩ = some (.string ⟨#[102]⟩) ∧ V.cell? ⟨w.heap.size + 1, 1, none⟩ = some (.int .i64 4) ∧ V.cell? ⟨w.heap.size + 1, 2, none⟩ = some (.slice (some ⟨w.heap.size, 0, none⟩) 1 1) ∧ V.cell? ⟨w.heap.size + 1, 3, none⟩ = some (.int .i64 0) ∧ V.cell? ⟨w.heap.size + 1, 4, none⟩ = some (.int .i64 0) ∧ V.cell? ⟨w.heap.size + 1, 5, none⟩ = some (.string ⟨#[115]⟩) ∧ V.cell? ⟨w.heap.size + 1, 6, none⟩ = some (.string ⟨#[116]⟩) ∧ V.cell? ⟨w.heap.size + 1, 7, none⟩ = some (.string ⟨#[107]⟩))
      (first | exact KS.out _ (Aft.refl _).drew | exact KS.out _ ((Aft.refl _).drew.alloc _) | exact KS.out _ ((Aft.refl _).alloc _).drew | exact KS.out _ b1 | exact KS.out _ (b1.alloc _) | exact KS.out _ b2 | exact KS.out _ (b2.alloc _) | exact KS.out _ ((b2.setCell _ _ (show W1.heap.size ≤ _ from Nat.le_refl _)).setCell _ _ (show W1.heap.size ≤ _ from Nat.le_refl _)) | exact KS.out _ ((b2.setCell _ _ (show W1.heap.size ≤ _ from b1.size)).setCell _ _ (show W1.heap.size ≤ _ from b1.size)))
      ((first
        | (go_at_call 80; refine (one_any _).mono ?_; rintro e V1 ⟨As, caps, At, capt, rfl, a1, h1, h2⟩; have b1 : Aft W1 V1 := Aft.trans (And.left (by assumption : Aft W1 _ ∧ _)) a1; first | (have rb : RowAt V1 W1.heap.size [.slice none 0 0, .slice none 0 0] := (box_row2 (w := W1) (c := [.slice none 0 0, .slice none 0 0]) (t := 25) (Aft.refl _)).aft ((Aft.refl _).drew.trans a1)) | skip)
        | (go_at_call 16; refine (C1.out _ (And.left (by assumption : Aft W1 _ ∧ _)) _ _ _ _ (by first | exact h1 | exact schs_aft ((Aft.refl _).alloc _) h1) (by first | exact h2 | exact tabs_aft ((Aft.refl _).alloc _) h2)).mono ?_; rintro e V2 ⟨hs, ht, L, hL, rfl, a2, ob⟩; have b2 : Aft W1 V2 := Aft.trans (And.left (by assumption : Aft W1 _ ∧ _)) a2; have obd : ObjIn V2 W1.heap.size hs ht oneF.schemas L := ob.down (And.left (by assumption : Aft W1 _ ∧ _)).size; have hlt9 := ob.lt; first | (have rb2 := (box_row2 (w := V1) (c := [.slice none 0 0, .slice none 0 0]) (t := 25) (Aft.refl _)).aft a2; have y0 := rb2.cell (j := 0) rfl; have y1 := rb2.cell (j := 1) rfl; have f0 := rb2.2.2 0 (by simp); have f1 := rb2.2.2 1 (by simp); have yz := rb2.1) | (have rb2 := rb.aft a2; have y0 := rb2.cell (j := 0) rfl; have y1 := rb2.cell (j := 1) rfl; have f0 := rb2.2.2 0 (by simp); have f1 := rb2.2.2 1 (by simp); have yz := rb2.1) | skip)))
    all_goals
      refine ⟨rfl, _, hs, ht, As, caps, At, capt, ?_, ?_, rfl⟩
      · first
          | (with_reducible refine first_new ?_ hL obd; exact b2)
          | (with_reducible refine first_end ?_ hL obd _ ?_ ?_ rb2
             · exact b2
             · first | exact b1.size | exact Nat.le_refl _
             · first | exact (fun g hg e => by have := (hlt9 g hg).1; simp at this; omega) | exact (fun g hg e => by have := (hlt9 g hg).1; have := rb.1; simp at *; omega))
      · first
          | exact b2.size
          | exact b1.size
          | exact Nat.le_refl _
  case mono =>
    rintro e a' w2 ⟨rfl, bx, hs, ht, As, caps, At, capt, hF, hbx, rfl⟩
    obtain ⟨aF, rF, L, hL, ob⟩ := hF
    have hlen : L.length = 1 := by have := congrArg List.length hL; simpa [oneF] using this
    obtain ⟨gt, hgt, hgB, _⟩ := own_place ob.tab (by omega)
    obtain ⟨Ta, nt, ct⟩ := ht
    have hgt' : Ta = some ⟨gt, 0, none⟩ := hgt
    subst hgt'
    simp only at rF
    have hoo : objOf oneF.schemas L = oneF := by unfold objOf; rw [hL]
    have smF : SmO oneF := by
      have := smO_chgX (o := oneO) (r := tabR oneO ⟨#[115]⟩ ⟨#[116]⟩ (addRulF oneO.tables (ruF ⟨#[120]⟩))) (fun _ => smO_tabX smO_one fun t ht hz => smT_addRul (smO_one.2.2 t ht) (smR_ruF _) hz)
      rw [ex_addRul] at this
      exact this
    have h1 := ob.schs (by rw [hoo]; exact smF)
    have h2 := ob.tabs (by rw [hoo]; exact smF)
    rw [hL] at h2
    have C2 := Lib.hid (show Calls Tryz.prog 18 #[.agg #[.slice hs.a 1 hs.c, .slice (some ⟨gt, 0, none⟩) 1 ct], .string ⟨#[115]⟩, .string ⟨#[116]⟩, .string ⟨#[107]⟩] w2 (ErrP w2 62) from (dropRule_in oneF hs.a hs.c (some ⟨gt, 0, none⟩) ct ⟨#[115]⟩ ⟨#[116]⟩ ⟨#[107]⟩ w2 h1 h2).mono fun e w' h => by
      rw [ex_dropRul] at h
      exact objP_err h)
    -- what the answer holds
    have hq : 0 < L.length := by omega
    have tq := ob.nth hq
    have htt : (L[0]'hq).t = oneF.tables[0]'(by decide) := by
      have : (L.map OTab.t)[0]'(by simpa using hq) = oneF.tables[0]'(by decide) := by simp only [hL]
      simpa using this
    have hrr : (L[0]'hq).rules.map (·.r) = ruF ⟨#[120]⟩ :: (oneO.tables[0]'(by decide)).rules := by
      have := congrArg Tab.rules htt
      exact this
    have hrl : (L[0]'hq).rules.length = 2 := by have := congrArg List.length hrr; simpa [oneO] using this
    obtain ⟨gr, hgr, hgrB, _⟩ := own_place tq.rul (by omega)
    have hn0 : ((L[0]'hq).rules[0]'(by omega)).r = ruF ⟨#[120]⟩ := by
      have : ((L[0]'hq).rules.map (·.r))[0]? = some (ruF ⟨#[120]⟩) := by rw [hrr]; rfl
      rw [List.getElem?_map, List.getElem?_eq_getElem (by omega)] at this
      exact Option.some.inj this
    have q4 : w2.cell? ⟨gt, 4, none⟩ = some (.slice (some ⟨gr, 0, none⟩) 2 (L[0]'hq).hr.c) := by
      have h9 := ob.cell (j := 4) rfl hq (by decide)
      have h8 : (L[0]'hq).hr.v = .slice (some ⟨gr, 0, none⟩) 2 (L[0]'hq).hr.c := by rw [own_slice tq.rul, hgr, hrl]
      rw [show (L[0]'hq).cells[4]? = some (L[0]'hq).hr.v from rfl, h8] at h9
      simpa using h9
    have q0 : w2.cell? ⟨gr, 0, none⟩ = some (.string ⟨#[102]⟩) := by
      have h9 := own_cell tq.rul (f := ORul.cells) ORul.cells_len hgr (i := 0) (j := 0) (by omega) (by decide)
      rw [show ((L[0]'hq).rules[0]'(by omega)).cells[0]? = some (.string ((L[0]'hq).rules[0]'(by omega)).r.name) from rfl, hn0] at h9
      simpa [ruF] using h9
    have HQ := Lib.hid (show ∀ V, Kb (fun g => g = w.heap.size + 1) w2 V → ((V.cell? ⟨bx, 0, none⟩ = some (.slice hs.a 1 hs.c) ∧ V.cell? ⟨bx, 1, none⟩ = some (.slice (some ⟨gt, 0, none⟩) 1 ct) ∧ bx < V.heap.size) ∧ (V.cell? ⟨gt, 4, none⟩ = some (.slice (some ⟨gr, 0, none⟩) 2 (L[0]'hq).hr.c) ∧ gt < V.heap.size) ∧ (V.cell? ⟨gr, 0, none⟩ = some (.string ⟨#[102]⟩) ∧ gr < V.heap.size)) from fun V k => by
      have z1 := HZ1.out
      have r9 := k.row rF (fun e => by have e : bx = w.heap.size + 1 := e; omega)
      have x1 := r9.cell (j := 1) rfl
      exact ⟨⟨r9.cell (j := 0) rfl, x1, r9.1⟩, ⟨k.cell q4 (fun e => by have e : gt = w.heap.size + 1 := e; omega), Nat.lt_of_lt_of_le (World.block_lt_of_cell? _ _ q4) k.size⟩, ⟨k.cell q0 (fun e => by have e : gr = w.heap.size + 1 := e; omega), Nat.lt_of_lt_of_le (World.block_lt_of_cell? _ _ q0) k.size⟩⟩)
    obtain ⟨⟨x0, x1, xz⟩, _⟩ := HQ.out w2 (Kb.refl _ _)
    have HAF := Lib.hid aF
    have HR2 := Lib.hid (HRR.out.aft aF)
    have HZ2 := Lib.hid aF.size
    clear aF rF ob hoo smF h1 h2 hlen hgB hgt tq htt hrr hrl hgrB hn0 q4 q0 g0 g1 g2 g3 g4 g5 g6 g7 gz KS C1 hL
    go_wp2_with fail
    refine C2.out.mono ?_
    rintro e w3 ⟨S2, cS2, T2, cT2, rfl, a3⟩
    have HA3 := Lib.hid a3
    have r4 := (HR2.out.aft a3)
    have g2 := r4.cell (j := 2) rfl
    have f2 := r4.2.2 2 (by simp)
    have gz := r4.1
    have gz1 : w.heap.size + 1 < w3.heap.size + 1 := by omega
    have gz2 : w.heap.size + 1 < w3.heap.size + 1 + 1 := by omega
    clear a3 r4 C2
    go_wp2_with fail
    obtain ⟨W5, hW5⟩ : ∃ W, W = (((w3.setCell ⟨w.heap.size + 1, 2, none⟩ (.slice (some ⟨w3.heap.size + 1, 0, none⟩) 1 1)).alloc (.cells #[.slice S2 0 cS2, .slice T2 0 cT2] 25)).alloc (.cells #[.string ⟨#[121]⟩] 9)) := ⟨_, rfl⟩
    have zz1 := HZ1.out
    have zz2 := HZ2.out
    have zz3 := HA3.out.size
    have k5 : Kb (fun g => g = w.heap.size + 1) w3 W5 := by rw [hW5]; exact (Kb.set _ _ _ _).trans (Kb.of_aft (((Aft.refl _).alloc _).alloc _))
    have r5 : RowAt W5 (w.heap.size + 1) [.string ⟨#[102]⟩, .int .i64 4, .slice (some ⟨w3.heap.size + 1, 0, none⟩) 1 1, .int .i64 0, .int .i64 0, .string ⟨#[115]⟩, .string ⟨#[116]⟩, .string ⟨#[107]⟩] := by rw [hW5]; exact (((HR2.out.aft HA3.out).set 2 _ (by simp)).aft (((Aft.refl _).alloc _).alloc _))
    have n5 : SlAt W5 1 StrR (some ⟨w3.heap.size + 1, 0, none⟩) 1 [(⟨#[121]⟩ : ByteArray)] := by
      rw [hW5]
      exact slAt_one _ [.string ⟨#[121]⟩] #[.string ⟨#[121]⟩] (by simp) (fun o => World.cell?_alloc_at _ _ _ _ (by simp)) rfl rfl ⟨rfl, small7 _⟩ (Nat.le_refl _)
    have HN5 := Lib.hid n5
    have HK5 := Lib.hid ((Kb.of_aft (P := fun g => g = w.heap.size + 1) HA3.out).trans k5)
    have HA5 := Lib.hid (show Aft w W5 from k5.to_aft (HA1.out.trans (HAF.out.trans HA3.out)) (fun g hg e => by have e : g = w.heap.size + 1 := e; omega))
    have HR5 := Lib.hid r5
    have g0 := r5.cell (j := 0) rfl
    have g1 := r5.cell (j := 1) rfl
    have g2 := r5.cell (j := 2) rfl
    have g3 := r5.cell (j := 3) rfl
    have g4 := r5.cell (j := 4) rfl
    have g5 := r5.cell (j := 5) rfl
    have g6 := r5.cell (j := 6) rfl
    have g7 := r5.cell (j := 7) rfl
    have gz := r5.1
    have C5 := Lib.hid (show ∀ V, Aft W5 V → ∀ (As : Option Addr) (caps : Nat) (At : Option Addr) (capt : Nat), SlAt V 2 SchR As caps oneO.schemas → SlAt V 5 TabR At capt oneO.tables → Calls Tryz.prog 16 #[.agg #[.slice As 1 caps, .slice At 1 capt], .string ⟨#[115]⟩, .string ⟨#[116]⟩, .agg #[.string ⟨#[102]⟩, .int .i64 4, .slice (some ⟨w3.heap.size + 1, 0, none⟩) 1 1, .int .i64 0, .int .i64 0, .string ⟨#[115]⟩, .string ⟨#[116]⟩, .string ⟨#[107]⟩]] V (ErrP V 63) from fun V a As caps At capt h1 h2 => by
      have hns : SlAt V 1 StrR (some ⟨w3.heap.size + 1, 0, none⟩) 1 (ruF ⟨#[121]⟩).cols := strs_aft a HN5.out
      have := addRule_in oneO As caps At capt (ruF ⟨#[121]⟩) (some ⟨w3.heap.size + 1, 0, none⟩) 1 ⟨#[115]⟩ ⟨#[116]⟩ V h1 h2 hns (small7 _) (small7 _) (small7 _) (small7 _)
      rw [ex_addRul2] at this
      exact this.mono fun e w' h => objP_err h)
    have KS := Lib.hid (show ∀ V, Aft W5 V → (Aft W5 V ∧ V.cell? ⟨w.heap.size + 1, 0, none⟩ = some (.string ⟨#[102]⟩) ∧ V.cell? ⟨w.heap.size + 1, 1, none⟩ = some (.int .i64 4) ∧ V.cell? ⟨w.heap.size + 1, 2, none⟩ = some (.slice (some ⟨w3.heap.size + 1, 0, none⟩) 1 1) ∧ V.cell? ⟨w.heap.size + 1, 3, none⟩ = some (.int .i64 0) ∧ V.cell? ⟨w.heap.size + 1, 4, none⟩ = some (.int .i64 0) ∧ V.cell? ⟨w.heap.size + 1, 5, none⟩ = some (.string ⟨#[115]⟩) ∧ V.cell? ⟨w.heap.size + 1, 6, none⟩ = some (.string ⟨#[116]⟩) ∧ V.cell? ⟨w.heap.size + 1, 7, none⟩ = some (.string ⟨#[107]⟩)) from fun V a => ⟨a, a.cell_kept g0, a.cell_kept g1, a.cell_kept g2, a.cell_kept g3, a.cell_kept g4, a.cell_kept g5, a.cell_kept g6, a.cell_kept g7⟩)
    rw [← hW5]
    clear hW5 k5 r5 n5 zz1 zz2 zz3 f2 x0 x1 xz
    refine Code.wp_mono (Q := fun e a' w' => e = Exit.normal ∧ ∃ (b5 : Nat) (S3 : Option Addr) (cS3 : Nat) (T3 : Option Addr) (cT3 : Nat) (As5 : Option Addr) (caps5 : Nat) (At5 : Option Addr) (capt5 : Nat), Aft W5 w' ∧ a' = { tmps := #[.bool false, .pointer (some ⟨w.heap.size + 1, 0, none⟩), .pointer (some ⟨bx, 0, none⟩), .int .i64 0, .pointer (some ⟨w3.heap.size, 0, none⟩), .int .i64 62, .pointer (some ⟨b5, 0, none⟩), .int .i64 63, .slice (some ⟨w.heap.size, 0, none⟩) 1 1, .agg #[.string ⟨#[102]⟩, .int .i64 4, .slice (some ⟨w.heap.size, 0, none⟩) 1 1, .int .i64 0, .int .i64 0, .string ⟨#[115]⟩, .string ⟨#[116]⟩, .string ⟨#[107]⟩], .tuple #[.agg #[.slice hs.a 1 hs.c, .slice (some ⟨gt, 0, none⟩) 1 ct], .int .i64 0], .agg #[.slice As 1 caps, .slice At 1 capt], .agg #[.string ⟨#[102]⟩, .int .i64 4, .slice (some ⟨w.heap.size, 0, none⟩) 1 1, .int .i64 0, .int .i64 0, .string ⟨#[115]⟩, .string ⟨#[116]⟩, .string ⟨#[107]⟩], .tuple #[.agg #[.slice hs.a 1 hs.c, .slice (some ⟨gt, 0, none⟩) 1 ct], .int .i64 0], .agg #[.slice hs.a 1 hs.c, .slice (some ⟨gt, 0, none⟩) 1 ct], .int .i64 0, .tuple #[.agg #[.slice S2 0 cS2, .slice T2 0 cT2], .int .i64 62], .agg #[.slice hs.a 1 hs.c, .slice (some ⟨gt, 0, none⟩) 1 ct], .tuple #[.agg #[.slice S2 0 cS2, .slice T2 0 cT2], .int .i64 62], .agg #[.slice S2 0 cS2, .slice T2 0 cT2], .int .i64 62, .slice (some ⟨w3.heap.size + 1, 0, none⟩) 1 1, .pointer (some ⟨w.heap.size + 1, 2, none⟩), .tuple #[.agg #[.slice S3 0 cS3, .slice T3 0 cT3], .int .i64 63], .agg #[.slice As5 1 caps5, .slice At5 1 capt5], .agg #[.string ⟨#[102]⟩, .int .i64 4, .slice (some ⟨w3.heap.size + 1, 0, none⟩) 1 1, .int .i64 0, .int .i64 0, .string ⟨#[115]⟩, .string ⟨#[116]⟩, .string ⟨#[107]⟩], .tuple #[.agg #[.slice S3 0 cS3, .slice T3 0 cT3], .int .i64 63], .agg #[.slice S3 0 cS3, .slice T3 0 cT3], .int .i64 63, undef, undef, undef, undef, undef, undef, undef, undef, undef, undef, undef, undef, undef, undef, undef, undef, undef, undef, undef, undef, undef, undef, undef, undef, undef, undef, undef, undef, undef, undef, undef, undef, undef, undef, undef, undef], defers := [] }) ?mono2 ?reg2
    case reg2 =>
      go_region_held3 (fun V => Aft W5 V ∧ V.cell? ⟨w.heap.size + 1, 0, none⟩ = some (.string ⟨#[102]⟩) ∧ V.cell? ⟨w.heap.size + 1, 1, none⟩ = some (.int .i64 4) ∧ V.cell? ⟨w.heap.size + 1, 2, none⟩ = some (.slice (some ⟨w3.heap.size + 1, 0, none⟩) 1 1) ∧ V.cell? ⟨w.heap.size + 1, 3, none⟩ = some (.int .i64 0) ∧ V.cell? ⟨w.heap.size + 1, 4, none⟩ = some (.int .i64 0) ∧ V.cell? ⟨w.heap.size + 1, 5, none⟩ = some (.string ⟨#[115]⟩) ∧ V.cell? ⟨w.heap.size + 1, 6, none⟩ = some (.string ⟨#[116]⟩) ∧ V.cell? ⟨w.heap.size + 1, 7, none⟩ = some (.string ⟨#[107]⟩))
        (first | exact KS.out _ (Aft.refl _).drew | exact KS.out _ ((Aft.refl _).drew.alloc _) | exact KS.out _ ((Aft.refl _).alloc _).drew | exact KS.out _ b1 | exact KS.out _ (b1.alloc _) | exact KS.out _ b2 | exact KS.out _ (b2.alloc _) | exact KS.out _ ((b2.setCell _ _ (show W5.heap.size ≤ _ from Nat.le_refl _)).setCell _ _ (show W5.heap.size ≤ _ from Nat.le_refl _)) | exact KS.out _ ((b2.setCell _ _ (show W5.heap.size ≤ _ from b1.size)).setCell _ _ (show W5.heap.size ≤ _ from b1.size)))
        ((first
          | (go_at_call 80; refine (one_any _).mono ?_; rintro e V1 ⟨As5, caps5, At5, capt5, rfl, a1, h1, h2⟩; have b1 : Aft W5 V1 := Aft.trans (And.left (by assumption : Aft W5 _ ∧ _)) a1; first | (have rb : RowAt V1 W5.heap.size [.slice none 0 0, .slice none 0 0] := (box_row2 (w := W5) (c := [.slice none 0 0, .slice none 0 0]) (t := 25) (Aft.refl _)).aft ((Aft.refl _).drew.trans a1)) | skip)
          | (go_at_call 16; refine (C5.out _ (And.left (by assumption : Aft W5 _ ∧ _)) _ _ _ _ (by first | exact h1 | exact schs_aft ((Aft.refl _).alloc _) h1) (by first | exact h2 | exact tabs_aft ((Aft.refl _).alloc _) h2)).mono ?_; rintro e V2 ⟨S3, cS3, T3, cT3, rfl, a2⟩; have b2 : Aft W5 V2 := Aft.trans (And.left (by assumption : Aft W5 _ ∧ _)) a2; first | (have rb2 := (box_row2 (w := V1) (c := [.slice none 0 0, .slice none 0 0]) (t := 25) (Aft.refl _)).aft a2; have y0 := rb2.cell (j := 0) rfl; have y1 := rb2.cell (j := 1) rfl; have f0 := rb2.2.2 0 (by simp); have f1 := rb2.2.2 1 (by simp); have yz := rb2.1) | (have rb2 := rb.aft a2; have y0 := rb2.cell (j := 0) rfl; have y1 := rb2.cell (j := 1) rfl; have f0 := rb2.2.2 0 (by simp); have f1 := rb2.2.2 1 (by simp); have yz := rb2.1) | skip)))
      all_goals
        refine ⟨rfl, _, S3, cS3, T3, cT3, As5, caps5, At5, capt5, ?_, rfl⟩
        exact And.left (by assumption : Aft W5 _ ∧ _)
    case mono2 =>
      rintro e a' w6 ⟨rfl, b5, S3, cS3, T3, cT3, As5, caps5, At5, capt5, aF5, rfl⟩
      have HEND := Lib.hid (HA5.out.trans aF5)
      obtain ⟨⟨x0, x1, xz⟩, ⟨q4, qz⟩, ⟨q0, qz0⟩⟩ := HQ.out w6 (HK5.out.trans (Kb.of_aft aF5))
      clear aF5 g0 g1 g2 g3 g4 g5 g6 g7 gz KS C5
      go_wp2_with fail
      go_ret
      exact ⟨rfl, HEND.out⟩
end Go.Proofs.YticjnndhpfdajaaGreat
/- The document's AddRule. -/
namespace Go.Proofs.YticjnndhpfdajaaGreat
open Go.RowKit Go.Deep
set_option maxRecDepth 100000
set_option linter.unusedVariables false
set_option maxHeartbeats 16000000 in
theorem rAddRule_in (o : Objs) (As : Option Addr) (caps : Nat) (At : Option Addr) (capt : Nat) (r : Rul) (Ac : Option Addr) (cc : Nat) (s n : ByteArray) (w : World) (hsch : SlAt w 2 SchR As caps o.schemas) (htab : SlAt w 5 TabR At capt o.tables) (hns : SlAt w 1 StrR Ac cc r.cols) (h1 : Small r.name.size) (h2 : Small r.schema.size) (h3 : Small r.table.size) (h4 : Small r.key.size) :
    Calls Tryz.prog 17 #[.agg #[.slice As o.schemas.length caps, .slice At o.tables.length capt], .string s, .string n, .agg #[.string r.name, .int .i64 r.kind, .slice Ac r.cols.length cc, .int .i64 r.low, .int .i64 r.high, .string r.schema, .string r.table, .string r.key]] w (ObjP w (chgR o (tabR o s n (addRulF o.tables r)))) := by
  have hlen := hsch.len
  have hlen2 := htab.len
  have hlen3 := hns.len
  have l1 : w.heap.size < w.heap.size + 1 := by omega
  have l2 : w.heap.size < w.heap.size + 1 + 1 := by omega
  obtain ⟨W, hW⟩ : ∃ W, W = ((w.alloc (.cells #[.slice As o.schemas.length caps, .slice At o.tables.length capt] 25)).alloc (.cells #[.string r.name, .int .i64 r.kind, .slice Ac r.cols.length cc, .int .i64 r.low, .int .i64 r.high, .string r.schema, .string r.table, .string r.key] 29)).alloc (.cells #[.slice none 0 0, .slice none 0 0] 25) := ⟨_, rfl⟩
  have aW : Aft w W := by rw [hW]; exact (((Aft.refl w).alloc _).alloc _).alloc _
  have zW : W.heap.size = w.heap.size + 3 := by rw [hW]; simp
  have r0 : RowAt W w.heap.size [.slice As o.schemas.length caps, .slice At o.tables.length capt] := by rw [hW]; exact (box_row2 (Aft.refl _)).aft (((Aft.refl _).alloc _).alloc _)
  have r1 : RowAt W (w.heap.size + 1) [.string r.name, .int .i64 r.kind, .slice Ac r.cols.length cc, .int .i64 r.low, .int .i64 r.high, .string r.schema, .string r.table, .string r.key] := by
    rw [hW]
    have := (box_row2 (w := w.alloc (.cells #[.slice As o.schemas.length caps, .slice At o.tables.length capt] 25)) (c := [.string r.name, .int .i64 r.kind, .slice Ac r.cols.length cc, .int .i64 r.low, .int .i64 r.high, .string r.schema, .string r.table, .string r.key]) (t := 29) (Aft.refl _)).aft ((Aft.refl _).alloc (.cells #[.slice none 0 0, .slice none 0 0] 25))
    simpa using this
  have r2 : RowAt W (w.heap.size + 1 + 1) [.slice none 0 0, .slice none 0 0] := by
    rw [hW]
    have := (box_row2 (w := (w.alloc (.cells #[.slice As o.schemas.length caps, .slice At o.tables.length capt] 25)).alloc (.cells #[.string r.name, .int .i64 r.kind, .slice Ac r.cols.length cc, .int .i64 r.low, .int .i64 r.high, .string r.schema, .string r.table, .string r.key] 29)) (c := [.slice none 0 0, .slice none 0 0]) (t := 25) (Aft.refl _))
    simpa using this
  have KF := Lib.hid (show ∀ V, Aft W V → (V.cell? ⟨w.heap.size, 0, none⟩ = some (.slice As o.schemas.length caps) ∧ V.cell? ⟨w.heap.size, 1, none⟩ = some (.slice At o.tables.length capt) ∧ w.heap.size < V.heap.size) ∧ (V.cell? ⟨w.heap.size + 1, 0, none⟩ = some (.string r.name) ∧ V.cell? ⟨w.heap.size + 1, 1, none⟩ = some (.int .i64 r.kind) ∧ V.cell? ⟨w.heap.size + 1, 2, none⟩ = some (.slice Ac r.cols.length cc) ∧ V.cell? ⟨w.heap.size + 1, 3, none⟩ = some (.int .i64 r.low) ∧ V.cell? ⟨w.heap.size + 1, 4, none⟩ = some (.int .i64 r.high) ∧ V.cell? ⟨w.heap.size + 1, 5, none⟩ = some (.string r.schema) ∧ V.cell? ⟨w.heap.size + 1, 6, none⟩ = some (.string r.table) ∧ V.cell? ⟨w.heap.size + 1, 7, none⟩ = some (.string r.key) ∧ w.heap.size + 1 < V.heap.size) ∧ (V.cell? ⟨w.heap.size + 1 + 1, 0, none⟩ = some (.slice none 0 0) ∧ V.cell? ⟨w.heap.size + 1 + 1, 1, none⟩ = some (.slice none 0 0) ∧ V.frozen? ⟨w.heap.size + 1 + 1, 0, none⟩ = false ∧ V.frozen? ⟨w.heap.size + 1 + 1, 1, none⟩ = false ∧ w.heap.size + 1 + 1 < V.heap.size) from fun V a => by
    have q := r0.aft a
    have p := r1.aft a
    have z := r2.aft a
    exact ⟨⟨q.cell (j := 0) rfl, q.cell (j := 1) rfl, q.1⟩, ⟨p.cell (j := 0) rfl, p.cell (j := 1) rfl, p.cell (j := 2) rfl, p.cell (j := 3) rfl, p.cell (j := 4) rfl, p.cell (j := 5) rfl, p.cell (j := 6) rfl, p.cell (j := 7) rfl, p.1⟩, ⟨z.cell (j := 0) rfl, z.cell (j := 1) rfl, z.2.2 0 (by simp), z.2.2 1 (by simp), z.1⟩⟩)
  have KN := Lib.hid (show ∀ V, Aft W V → ∀ x : Int, ObjP w (zeroO, x) (.returned (.tuple #[.agg #[.slice none 0 0, .slice none 0 0], .int .i64 x])) ((V.setCell ⟨w.heap.size + 1 + 1, 0, none⟩ (.slice none 0 0)).setCell ⟨w.heap.size + 1 + 1, 1, none⟩ (.slice none 0 0)) from fun V a x => objP_zset (aW.trans a) (by omega))
  have KB := Lib.hid (show ∀ V, Aft W V → RowAt V (w.heap.size + 1 + 1) [.slice none 0 0, .slice none 0 0] from fun V a => r2.aft a)
  have KR1 := Lib.hid (show ∀ V, Aft W V → RowAt V (w.heap.size + 1) [.string r.name, .int .i64 r.kind, .slice Ac r.cols.length cc, .int .i64 r.low, .int .i64 r.high, .string r.schema, .string r.table, .string r.key] from fun V a => r1.aft a)
  obtain ⟨c, hc⟩ : ∃ c, checkO o = c := ⟨_, rfl⟩
  obtain ⟨i, hi⟩ : ∃ i, tabAt o.tables s n = i := ⟨_, rfl⟩
  have hir : -1 ≤ i ∧ i < o.tables.length := by rw [← hi]; exact idxP_range _ _
  have C1 := Lib.hid (show ∀ V, Aft W V → _ from fun V a => hc ▸ rRight_any o As caps At capt V (schs_aft (aW.trans a) hsch) (tabs_aft (aW.trans a) htab))
  have C2 := Lib.hid (show ∀ V, Aft W V → _ from fun V a => hi ▸ rtab_any (.slice As o.schemas.length caps) At capt o.tables s n V (tabs_aft (aW.trans a) htab))
  have CO := Lib.hid (show c = true → ∀ V, Aft W V → _ from fun h V a => rOwn_in o As caps At capt V (schs_aft (aW.trans a) hsch) (tabs_aft (aW.trans a) htab) (check_mod (hc.trans h)))
  have HE := Lib.hid (show chgR o (tabR o s n (addRulF o.tables r)) = if c = true then tabR o s n (addRulF o.tables r) else (zeroO, 63) by unfold chgR; rw [hc])
  have HC := Lib.hid hc
  have HI := Lib.hid hi
  have HAW := Lib.hid aW
  have HT := Lib.hid htab
  have HNS := Lib.hid hns
  have HZW := Lib.hid zW
  clear hc hi hsch htab hns aW r0 r1 r2 zW
  go_enter Tryz.func17, Tryz.ntmps17
  go_wp2_with fail
  rw [← hW]
  clear hW
  refine (C1.out _ (Aft.refl W)).mono ?_
  rintro e w1 ⟨rfl, a1⟩
  obtain ⟨⟨x0, x1, xz⟩, ⟨t0, t1, t2, t3, t4, t5, t6, t7, tz⟩, ⟨y0, y1, y2, y3, yz⟩⟩ := KF.out w1 a1
  have HA1 := Lib.hid a1
  clear a1
  cases c
  · go_wp2_with fail
    refine (rNo_in _ _).mono ?_
    rintro e w9 ⟨rfl, a2⟩
    obtain ⟨_, _, ⟨y0, y1, y2, y3, yz⟩⟩ := KF.out w9 (HA1.out.trans a2)
    have HP := Lib.hid (KN.out w9 (HA1.out.trans a2) 63)
    have HRW := Lib.hid (KB.out w9 (HA1.out.trans a2))
    clear a2
    go_wp2_with fail
    refine bodyPost_ret (results_cell_tmp (v := .agg #[.slice none 0 0, .slice none 0 0]) rfl _ rfl (lvObj_row (setO_row HRW.out rfl _ _))) rfl ?_
    rw [HE.out]
    exact HP.out
  go_wp2_with fail
  refine (C2.out w1 HA1.out).mono ?_
  rintro e w2 ⟨rfl, a2⟩
  obtain ⟨⟨x0, x1, xz⟩, ⟨t0, t1, t2, t3, t4, t5, t6, t7, tz⟩, ⟨y0, y1, y2, y3, yz⟩⟩ := KF.out w2 (HA1.out.trans a2)
  have HA2 := Lib.hid (HA1.out.trans a2)
  clear a2
  by_cases h0 : 0 ≤ i
  case neg =>
    have hd : decide (i < 0) = true := decide_eq_true (by omega)
    have HH0 := Lib.hid h0
    go_wp2_with fail
    refine (rNo_in _ _).mono ?_
    rintro e w9 ⟨rfl, a2⟩
    obtain ⟨_, _, ⟨y0, y1, y2, y3, yz⟩⟩ := KF.out w9 (HA2.out.trans a2)
    have HP := Lib.hid (KN.out w9 (HA2.out.trans a2) 61)
    have HRW := Lib.hid (KB.out w9 (HA2.out.trans a2))
    clear a2
    go_wp2_with fail
    refine bodyPost_ret (results_cell_tmp (v := .agg #[.slice none 0 0, .slice none 0 0]) rfl _ rfl (lvObj_row (setO_row HRW.out rfl _ _))) rfl ?_
    rw [HE.out]
    simp only [if_true]
    rw [tabR_none (by rw [HI.out]; have := HH0.out; omega)]
    exact HP.out
  obtain ⟨q, rfl⟩ := Int.eq_ofNat_of_zero_le h0
  have hq : q < o.tables.length := by omega
  have hd : decide ((q : Int) < 0) = false := by simp
  have HE2 := Lib.hid (tabR_some (f := addRulF o.tables r) HI.out hq)
  obtain ⟨b, off, A2, cap2, A3, cap3, rfl, hb, d0, d1, d2, d3, d4, hcols, hruls, _⟩ := tab_at (tabs_aft (HAW.out.trans HA2.out) HT.out) hq
  have HMQ := Lib.hid (List.getElem_mem hq)
  obtain ⟨p, hp⟩ : ∃ p, o.tables[q] = p := ⟨_, rfl⟩
  rw [hp] at d0 d1 d2 d3 d4 hcols hruls HE2 HMQ
  have HP := Lib.hid hp
  have hmod := (check_mod HC.out).2.2 p HMQ.out
  obtain ⟨u, hu⟩ : ∃ u, fitsOk p.cols r = u := ⟨_, rfl⟩
  obtain ⟨j, hj⟩ : ∃ j, rulAt p.rules r.name = j := ⟨_, rfl⟩
  obtain ⟨kk, hkk⟩ : ∃ k, keyE o.tables p.cols r = k := ⟨_, rfl⟩
  obtain ⟨pp, hpp⟩ : ∃ x, posB cmpRl p.rules r = x := ⟨_, rfl⟩
  have hjr : -1 ≤ j ∧ j < p.rules.length := by rw [← hj]; exact idxP_range _ _
  have hppl : pp ≤ p.rules.length := by rw [← hpp]; exact posB_le _ _ _
  have HEF := Lib.hid (show addRulF o.tables r p = if !u then (p, 63) else if 0 ≤ j then (p, 60) else if 8 ≤ p.rules.length then (p, 2) else if (r.kind == 4 && kk != 0) then (p, kk) else ({ p with rules := insAt p.rules pp r }, 0) by
    unfold addRulF; rw [hu, hj, hkk, hpp])
  have HU8 := Lib.hid (show 8 < r.cols.length → u = false from fun h => hu ▸ fits_len8 HC.out HMQ.out h)
  have HRS := Lib.hid (show risesB cmpRl p.rules = true by
    have h9 := HC.out
    unfold checkO at h9
    simp only [Bool.and_eq_true, List.all_eq_true] at h9
    have h8 := h9.2.2 _ HMQ.out
    unfold rightT at h8
    simp only [Bool.and_eq_true] at h8
    exact h8.2.2)
  have HTL := Lib.hid (show j < 0 → ∀ k (hk : k < p.rules.length), ltS r.name p.rules[k].name = decide (pp ≤ k) from fun h k hk => by
    have := new_less' preRl.tr preRl.anti HRS.out (x := r) (fun y hy => rul_none (hj ▸ h) y hy) k hk
    rw [hpp] at this
    rw [← this, ← cmpS_lt]; rfl)
  have C3 := Lib.hid (show ∀ V, Aft w2 V → Calls Tryz.prog 73 #[.slice A2 p.cols.length cap2, .agg #[.string r.name, .int .i64 r.kind, .slice Ac r.cols.length cc, .int .i64 r.low, .int .i64 r.high, .string r.schema, .string r.table, .string r.key]] V fun e w'' => e = .returned (.bool u) ∧ Aft V w'' from
    fun V a => hu ▸ rfits_any A2 cap2 p.cols r Ac cc V (cols_aft a hcols) (strs_aft (HAW.out.trans (HA2.out.trans a)) HNS.out) h1 h2 h3 h4)
  have C4 := Lib.hid (show ∀ V, Aft w2 V → Calls Tryz.prog 74 #[.slice A3 p.rules.length cap3, .string r.name] V fun e w'' => e = .returned (.int .i64 j) ∧ V = w'' from
    fun V a => (rrul_any A3 cap3 p.rules r.name V (ruls_aft a hruls)).mono fun e w'' ⟨he, hw⟩ => ⟨he.trans (by rw [← hj]; rfl), hw⟩)
  have C5 := Lib.hid (show ∀ V, Aft w2 V → Calls Tryz.prog 75 #[.agg #[.slice As o.schemas.length caps, .slice (some ⟨b, off, none⟩) o.tables.length capt], .slice A2 p.cols.length cap2, .agg #[.string r.name, .int .i64 r.kind, .slice Ac r.cols.length cc, .int .i64 r.low, .int .i64 r.high, .string r.schema, .string r.table, .string r.key]] V fun e w'' => e = .returned (.int .i64 kk) ∧ Aft V w'' from
    fun V a => hkk ▸ rkey_any (.slice As o.schemas.length caps) (some ⟨b, off, none⟩) capt o.tables A2 cap2 p.cols r Ac cc V (tabs_aft (HAW.out.trans (HA2.out.trans a)) HT.out) (cols_aft a hcols) (strs_aft (HAW.out.trans (HA2.out.trans a)) HNS.out))
  have hrl := hruls.len
  have hcl := hcols.len
  clear hp hu hj hkk hpp hcols hruls h0 hir
  have hq0 : (0 : Int) ≤ (q : Int) := by omega
  have hq1 : (q : Int) < (o.tables.length : Int) := by omega
  obtain ⟨T, hT⟩ : ∃ T, T = w2.alloc (.cells #[.string p.schema, .string p.name, .string p.owner, .slice A2 p.cols.length cap2, .slice A3 p.rules.length cap3] 50) := ⟨_, rfl⟩
  have aT : Aft w2 T := by rw [hT]; exact (Aft.refl _).alloc _
  have rT : RowAt T w2.heap.size [.string p.schema, .string p.name, .string p.owner, .slice A2 p.cols.length cap2, .slice A3 p.rules.length cap3] := by rw [hT]; exact box_row2 (Aft.refl _)
  have KT := Lib.hid (show ∀ V, Aft T V → (V.cell? ⟨w2.heap.size, 3, none⟩ = some (.slice A2 p.cols.length cap2) ∧ V.cell? ⟨w2.heap.size, 4, none⟩ = some (.slice A3 p.rules.length cap3) ∧ w2.heap.size < V.heap.size) from fun V a => ⟨(rT.aft a).cell (j := 3) rfl, (rT.aft a).cell (j := 4) rfl, (rT.aft a).1⟩)
  have HAT := Lib.hid aT
  have zT : T.heap.size = w2.heap.size + 1 := by rw [hT]; simp
  have l3 : w.heap.size + 1 < w2.heap.size + 1 := by omega
  have l4 : w.heap.size + 1 + 1 < w2.heap.size + 1 := by omega
  have l5 : w.heap.size < w2.heap.size + 1 := by omega
  clear rT aT
  by_cases g8 : 8 < r.cols.length
  · have g8' : (8 : Int) < (r.cols.length : Int) := by omega
    have HU := Lib.hid (HU8.out g8)
    clear g8
    have HA3 := Lib.hid (HA2.out.trans HAT.out)
    go_wp2_with fail
    rw [← hT]
    clear hT
    go_wp2_with fail
    refine (rNo_in _ _).mono ?_
    rintro e w9 ⟨rfl, a2⟩
    obtain ⟨_, _, ⟨y0, y1, y2, y3, yz⟩⟩ := KF.out w9 (HA3.out.trans a2)
    have HP := Lib.hid (KN.out w9 (HA3.out.trans a2) 63)
    have HRW := Lib.hid (KB.out w9 (HA3.out.trans a2))
    clear a2
    go_wp2_with fail
    refine bodyPost_ret (results_cell_tmp (v := .agg #[.slice none 0 0, .slice none 0 0]) rfl _ rfl (lvObj_row (setO_row HRW.out rfl _ _))) rfl ?_
    rw [HE.out]
    simp only [if_true]
    rw [HE2.out, HEF.out, if_pos (show (!u) = true by rw [HU.out]; rfl)]
    rw [if_neg (show ¬ (63 : Int) = 0 by decide)]
    exact HP.out
  have g8' : ¬ (8 : Int) < (r.cols.length : Int) := by omega
  go_wp2_with fail
  rw [← hT]
  clear hT
  obtain ⟨⟨x0, x1, xz⟩, ⟨t0, t1, t2, t3, t4, t5, t6, t7, tz⟩, ⟨y0, y1, y2, y3, yz⟩⟩ := KF.out T (HA2.out.trans HAT.out)
  obtain ⟨k3, k4, kz⟩ := KT.out T (Aft.refl T)
  refine (C3.out T HAT.out).mono ?_
  rintro e w3 ⟨rfl, a3⟩
  obtain ⟨⟨x0, x1, xz⟩, ⟨t0, t1, t2, t3, t4, t5, t6, t7, tz⟩, ⟨y0, y1, y2, y3, yz⟩⟩ := KF.out w3 (HA2.out.trans (HAT.out.trans a3))
  obtain ⟨k3, k4, kz⟩ := KT.out w3 a3
  have HA3 := Lib.hid (HA2.out.trans (HAT.out.trans a3))
  have HT3 := Lib.hid a3
  clear a3
  cases u
  · go_wp2_with fail
    refine (rNo_in _ _).mono ?_
    rintro e w9 ⟨rfl, a2⟩
    obtain ⟨_, _, ⟨y0, y1, y2, y3, yz⟩⟩ := KF.out w9 (HA3.out.trans a2)
    have HP := Lib.hid (KN.out w9 (HA3.out.trans a2) 63)
    have HRW := Lib.hid (KB.out w9 (HA3.out.trans a2))
    clear a2
    go_wp2_with fail
    refine bodyPost_ret (results_cell_tmp (v := .agg #[.slice none 0 0, .slice none 0 0]) rfl _ rfl (lvObj_row (setO_row HRW.out rfl _ _))) rfl ?_
    rw [HE.out]
    simp only [if_true]
    rw [HE2.out, HEF.out]
    simp only [Bool.not_true, Bool.not_false, Bool.or_self, Bool.or_false, Bool.false_or, Bool.true_or, Bool.or_true, Bool.false_eq_true, if_false, if_true, Bool.not_eq_true]
    rw [if_neg (show ¬ (63 : Int) = 0 by decide)]
    exact HP.out
  go_wp2_with fail
  refine (C4.out w3 (HAT.out.trans HT3.out)).mono ?_
  rintro e w4 ⟨rfl, rfl⟩
  by_cases hj0 : 0 ≤ j
  · have hd5 : decide (0 ≤ j) = true := decide_eq_true hj0
    have HJ := Lib.hid hj0
    go_wp2_with fail
    refine (rNo_in _ _).mono ?_
    rintro e w9 ⟨rfl, a2⟩
    obtain ⟨_, _, ⟨y0, y1, y2, y3, yz⟩⟩ := KF.out w9 (HA3.out.trans a2)
    have HP := Lib.hid (KN.out w9 (HA3.out.trans a2) 60)
    have HRW := Lib.hid (KB.out w9 (HA3.out.trans a2))
    clear a2
    go_wp2_with fail
    refine bodyPost_ret (results_cell_tmp (v := .agg #[.slice none 0 0, .slice none 0 0]) rfl _ rfl (lvObj_row (setO_row HRW.out rfl _ _))) rfl ?_
    rw [HE.out]
    simp only [if_true]
    rw [HE2.out, HEF.out]
    simp only [Bool.not_true, Bool.not_false, Bool.or_self, Bool.or_false, Bool.false_or, Bool.true_or, Bool.or_true, Bool.false_eq_true, if_false, if_true, if_pos HJ.out]
    rw [if_neg (show ¬ (60 : Int) = 0 by decide)]
    exact HP.out
  have hd5 : decide (0 ≤ j) = false := decide_eq_false hj0
  have HJ := Lib.hid hj0
  have HTT := Lib.hid (HTL.out (by omega))
  clear hj0
  by_cases h8 : 8 ≤ p.rules.length
  · have hd8 : (8 : Int) ≤ (p.rules.length : Int) := by omega
    have H8 := Lib.hid h8
    clear h8
    go_wp2_with fail
    refine (rNo_in _ _).mono ?_
    rintro e w9 ⟨rfl, a2⟩
    obtain ⟨_, _, ⟨y0, y1, y2, y3, yz⟩⟩ := KF.out w9 (HA3.out.trans a2)
    have HP := Lib.hid (KN.out w9 (HA3.out.trans a2) 2)
    have HRW := Lib.hid (KB.out w9 (HA3.out.trans a2))
    clear a2
    go_wp2_with fail
    refine bodyPost_ret (results_cell_tmp (v := .agg #[.slice none 0 0, .slice none 0 0]) rfl _ rfl (lvObj_row (setO_row HRW.out rfl _ _))) rfl ?_
    rw [HE.out]
    simp only [if_true]
    rw [HE2.out, HEF.out]
    simp only [Bool.not_true, Bool.not_false, Bool.or_self, Bool.or_false, Bool.false_or, Bool.true_or, Bool.or_true, Bool.false_eq_true, if_false, if_true, if_neg (show ¬ 0 ≤ j by have := HJ.out; omega), if_pos H8.out]
    rw [if_neg (show ¬ (2 : Int) = 0 by decide)]
    exact HP.out
  have hd8 : ¬ (8 : Int) ≤ (p.rules.length : Int) := by omega
  have H8 := Lib.hid h8
  have h8' : p.rules.length < 8 := by omega
  clear h8
  by_cases hk4 : r.kind = 4
  · rw [hk4] at t1
    have HK4 := Lib.hid hk4
    have C5' := Lib.hid (show ∀ V, Aft w2 V → Calls Tryz.prog 75 #[.agg #[.slice As o.schemas.length caps, .slice (some ⟨b, off, none⟩) o.tables.length capt], .slice A2 p.cols.length cap2, .agg #[.string r.name, .int .i64 4, .slice Ac r.cols.length cc, .int .i64 r.low, .int .i64 r.high, .string r.schema, .string r.table, .string r.key]] V fun e w'' => e = .returned (.int .i64 kk) ∧ Aft V w'' from fun V a => by have := C5.out V a; rw [hk4] at this; exact this)
    clear hk4
    go_wp2_with fail
    refine (C5'.out w3 (HAT.out.trans HT3.out)).mono ?_
    rintro e w5 ⟨rfl, a5⟩
    obtain ⟨⟨x0, x1, xz⟩, ⟨t0, t1, t2, t3, t4, t5, t6, t7, tz⟩, ⟨y0, y1, y2, y3, yz⟩⟩ := KF.out w5 (HA3.out.trans a5)
    obtain ⟨k3, k4, kz⟩ := KT.out w5 (HT3.out.trans a5)
    have HA5 := Lib.hid (HA3.out.trans a5)
    clear a5 C5'
    by_cases hk0 : kk = 0
    · have HK0 := Lib.hid hk0
      have hk0' : (kk != 0) = false := by simpa using hk0
      clear hk0
      have CO' := Lib.hid (CO.out (by first | trivial | rfl) _ HA5.out)
      clear CO C5 C4 C3 KT
      have KY := Lib.hid (show (r.kind == 4 && kk != 0) = false from by rw [HK0.out]; simp)
      go_wp2_with fail
      refine CO'.out.mono ?_
      rintro e w6 ⟨hs, ht, L, hL, rfl, a6, ob⟩
      have hLL : L.length = o.tables.length := by rw [← hL]; simp
      have hqL : q < L.length := by omega
      obtain ⟨gt, hgt, hgb, _⟩ := own_place ob.tab (by omega)
      obtain ⟨At', nt, ct⟩ := ht
      have hgt' : At' = some ⟨gt, 0, none⟩ := hgt
      subst hgt'
      have htq : L[q].t = p := by
        have : (L.map OTab.t)[q]'(by simpa using hqL) = o.tables[q] := by simp only [hL]
        rw [← HP.out]; simpa using this
      have hrq : L[q].rules.map (·.r) = p.rules := by rw [← htq]; rfl
      have hrn : L[q].rules.length = p.rules.length := by rw [← hrq]; simp
      have hrv : L[q].hr.v = .slice L[q].hr.a L[q].rules.length L[q].hr.c := own_slice (ob.nth hqL).rul
      obtain ⟨X0, hX⟩ : ∃ X, X = w6.alloc (.cells #[.slice hs.a o.schemas.length hs.c, .slice (some ⟨gt, 0, none⟩) o.tables.length ct] 25) := ⟨_, rfl⟩
      have a60 : Aft w6 X0 := by rw [hX]; exact (Aft.refl _).alloc _
      have rX : RowAt X0 w6.heap.size [.slice hs.a o.schemas.length hs.c, .slice (some ⟨gt, 0, none⟩) o.tables.length ct] := by rw [hX]; exact box_row2 (Aft.refl _)
      have zX : X0.heap.size = w6.heap.size + 1 := by rw [hX]; simp
      have HAX := Lib.hid ((HA5.out.trans a6).trans a60)
      have z6 := a6.size
      have zV : w.heap.size + 1 + 1 < w5.heap.size := (KF.out _ HA5.out).2.2.2.2.2.2
      obtain ⟨⟨x0, x1, xz⟩, ⟨t0, t1, t2, t3, t4, t5, t6, t7, tz⟩, ⟨y0, y1, y2, y3, yz⟩⟩ := KF.out X0 HAX.out
      obtain ⟨i2, hi2, hz0, hz1, hz2⟩ := info_parts info2Str2
      have KI := Lib.hid hi2
      have KZ0 := Lib.hid hz0
      have KZ1 := Lib.hid hz1
      have KZ2 := Lib.hid hz2
      have hq1 : r.cols.length ≤ maxLen := by unfold maxLen; omega
      have hq2 : r.cols.length * 16 ≤ 140737488355328 := by omega
      have HNC := Lib.hid (sl_cells HNS.out (by decide) (fun _ _ h => h.1) (HAW.out.trans HAX.out))
      have HNN := Lib.hid (sl_none HNS.out)
      have gtl := (ob.row rfl hqL).1
      have ob0 := ob.aft a60
      have HOB := Lib.hid ob
      have HL := Lib.hid hL
      have HRQ := Lib.hid hrq
      have HTQ := Lib.hid htq
      -- the end, from any world behind
      have KE := Lib.hid (show ∀ (xh : Hd) (w7 Z wr : World) (h : Hd), Aft X0 w7 → w7.ownsRow X0.heap.size 9 1 xh.v r.cols.length (r.cols.flatMap nameC) → Kb (fun g => g = w.heap.size + 1) w7 Z → GrR Z wr h (insAt L[q].rules pp ⟨r, xh⟩) →
          Aft w (wr.setCell ⟨gt, q * 5 + 4, none⟩ h.v) ∧ ObjIn (wr.setCell ⟨gt, q * 5 + 4, none⟩ h.v) w5.heap.size hs ⟨some ⟨gt, 0, none⟩, nt, ct⟩ o.schemas (L.set q { L[q] with rules := insAt L[q].rules pp ⟨r, xh⟩, hr := h }) ∧ RowAt (wr.setCell ⟨gt, q * 5 + 4, none⟩ h.v) w6.heap.size [.slice hs.a o.schemas.length hs.c, .slice (some ⟨gt, 0, none⟩) o.tables.length ct] ∧ RowAt (wr.setCell ⟨gt, q * 5 + 4, none⟩ h.v) (w.heap.size + 1 + 1) [.slice none 0 0, .slice none 0 0] from fun xh w7 Z wr h a7 o7 kZ g => by
        have z7 := a7.size
        have zZ := kZ.size
        have zr := g.1.size
        have k67 : Kb (fun g => g = w.heap.size + 1) w6 wr := ((Kb.of_aft (a60.trans a7)).trans kZ).trans (Kb.of_aft g.1)
        have k0 : Kb (fun g => g = w.heap.size + 1) X0 wr := ((Kb.of_aft a7).trans kZ).trans (Kb.of_aft g.1)
        have ks := Kb.set wr gt (q * 5 + 4) h.v
        have hxl : ∀ c ∈ xh.blk, X0.heap.size ≤ c ∧ c < w7.heap.size := blk_lt o7
        have hhl : ∀ c ∈ h.blk, Z.heap.size ≤ c ∧ c < wr.heap.size := fun c hc => blk_lt g.2 c hc
        have hp9 := perm_insAt L[q].rules pp (⟨r, xh⟩ : ORul)
        have hfl : ((insAt L[q].rules pp (⟨r, xh⟩ : ORul)).flatMap (·.h.blk)).Perm (L[q].rules.flatMap (·.h.blk) ++ xh.blk) := by
          have := hp9.flatMap_right (fun x : ORul => x.h.blk)
          rwa [List.flatMap_append, List.flatMap_cons, List.flatMap_nil, List.append_nil] at this
        have ndq := tab_nodup (nd_assoc.1 ob.nd) hqL
        have ndr : (L[q].rules.flatMap (·.h.blk)).Nodup := (List.nodup_append.1 (List.nodup_append.1 ndq).2.1).2.1
        have oend := endR (Y := fun g => g = w.heap.size + 1) (wr := wr) (h := h) (l := insAt L[q].rules pp ⟨r, xh⟩) ob hqL rfl (fun g e => by have e : g = w.heap.size + 1 := e; omega) k67 g.2 (show w6.heap.size ≤ Z.heap.size by omega) z6 (fun y hy => by
            rcases mem_insAt.1 hy with e | e
            · refine .inr ⟨?_, fun c hc hc2 => ?_⟩
              · rw [e]
                exact ⟨own_aft (own_kb (own_down o7 (show w6.heap.size ≤ X0.heap.size by omega)) kZ fun c hc e => by have := (hxl c (Hd.mem_blk.2 hc)).1; have e : c = w.heap.size + 1 := e; omega) g.1⟩
              · rw [e] at hc
                have := hxl c hc
                have := hhl c hc2
                omega
            · exact .inl e) (hfl.nodup_iff.2 (List.nodup_append.2 ⟨ndr, blk_nodup _, fun a ha b hb e => by
              subst e
              have h9 := hxl a hb
              have h8 := ((ob.nth hqL).lt a (by unfold OTab.blks; exact List.mem_append.2 (.inr (List.mem_append.2 (.inr ha))))).2
              omega⟩))
        have aw : Aft w wr := k0.to_aft (HAW.out.trans HAX.out) (fun g hg e => by omega)
        refine ⟨ks.to_aft aw (fun g hg e => by have e : g = gt := e; omega), oend, ?_, ?_⟩
        · exact ks.row (k0.row rX (fun e => by have e : w6.heap.size = w.heap.size + 1 := e; omega)) (fun e => by have e : w6.heap.size = gt := e; omega)
        · exact ks.row (k0.row (KB.out X0 HAX.out) (fun e => by have e : w.heap.size + 1 + 1 = w.heap.size + 1 := e; omega)) (fun e => by have e : w.heap.size + 1 + 1 = gt := e; omega))
      have KX := Lib.hid (show ∀ V, Kb (fun g => g = w.heap.size + 1) X0 V → (V.cell? ⟨w6.heap.size, 0, none⟩ = some (.slice hs.a o.schemas.length hs.c) ∧ V.cell? ⟨w6.heap.size, 1, none⟩ = some (.slice (some ⟨gt, 0, none⟩) o.tables.length ct) ∧ w6.heap.size < V.heap.size) ∧ (V.cell? ⟨gt, q * 5 + 4, none⟩ = some (.slice L[q].hr.a L[q].rules.length L[q].hr.c) ∧ V.frozen? ⟨gt, q * 5 + 4, none⟩ = false ∧ gt < V.heap.size) from fun V k => by
        have r9 := k.row rX (fun e => by have e : w6.heap.size = w.heap.size + 1 := e; omega)
        have hgb : ¬ gt = w.heap.size + 1 := by omega
        have d4 : X0.cell? ⟨gt, q * 5 + 4, none⟩ = some (.slice L[q].hr.a L[q].rules.length L[q].hr.c) := by rw [← hrv]; exact ob0.cell rfl hqL (by decide)
        have g0 := ob0.row rfl hqL
        refine ⟨⟨r9.cell (j := 0) rfl, r9.cell (j := 1) rfl, r9.1⟩, k.cell d4 hgb, ?_, Nat.lt_of_lt_of_le g0.1 k.size⟩
        have := k.block gt g0.1 hgb
        rw [← g0.2.2 4 (by decide)]; simp [World.frozen?, this])
      have KL := Lib.hid (show ∀ k (hk : k < L[q].rules.length), ∃ g, L[q].hr.a = some ⟨g, 0, none⟩ ∧ L[q].rules[k].cells = [.string L[q].rules[k].r.name, .int .i64 L[q].rules[k].r.kind, .slice L[q].rules[k].h.a L[q].rules[k].r.cols.length L[q].rules[k].h.c, .int .i64 L[q].rules[k].r.low, .int .i64 L[q].rules[k].r.high, .string L[q].rules[k].r.schema, .string L[q].rules[k].r.table, .string L[q].rules[k].r.key] ∧
          ∀ V, Kb (fun g => g = w.heap.size + 1) X0 V → (V.cell? ⟨g, k * 8, none⟩ = some (.string L[q].rules[k].r.name) ∧ V.cell? ⟨g, k * 8 + 1, none⟩ = some (.int .i64 L[q].rules[k].r.kind) ∧ V.cell? ⟨g, k * 8 + 2, none⟩ = some (.slice L[q].rules[k].h.a L[q].rules[k].r.cols.length L[q].rules[k].h.c) ∧ V.cell? ⟨g, k * 8 + 3, none⟩ = some (.int .i64 L[q].rules[k].r.low) ∧ V.cell? ⟨g, k * 8 + 4, none⟩ = some (.int .i64 L[q].rules[k].r.high) ∧ V.cell? ⟨g, k * 8 + 5, none⟩ = some (.string L[q].rules[k].r.schema) ∧ V.cell? ⟨g, k * 8 + 6, none⟩ = some (.string L[q].rules[k].r.table) ∧ V.cell? ⟨g, k * 8 + 7, none⟩ = some (.string L[q].rules[k].r.key) ∧ g < V.heap.size) from fun k hk => by
        have tq := (ob0.nth hqL).rul
        obtain ⟨g, hga, hgb2, hgr⟩ := own_place tq (by omega)
        have hce := ORul.cells_of ((ob0.nth hqL).each _ (List.getElem_mem hk))
        refine ⟨g, hga, hce, fun V kv => ?_⟩
        have hg6 : w5.heap.size ≤ g := hgb2
        have hgn : ¬ g = w.heap.size + 1 := by omega
        have c := fun (j : Nat) (hj : j < 8) => own_cell tq (f := ORul.cells) ORul.cells_len hga hk (j := j) hj
        rw [hce] at c
        exact ⟨kv.cell (c 0 (by decide)) hgn, kv.cell (c 1 (by decide)) hgn, kv.cell (c 2 (by decide)) hgn, kv.cell (c 3 (by decide)) hgn, kv.cell (c 4 (by decide)) hgn, kv.cell (c 5 (by decide)) hgn, kv.cell (c 6 (by decide)) hgn, kv.cell (c 7 (by decide)) hgn, Nat.lt_of_lt_of_le hgr.1 kv.size⟩)
      have HTK := Lib.hid (show ∀ k (hk : k < L[q].rules.length), ltS r.name L[q].rules[k].r.name = decide (pp ≤ k) from fun k hk => by
        have := HTT.out k (by omega)
        rw [(List.getElem_of_eq hrq.symm (by omega)).trans (List.getElem_map _)] at this
        exact this)
      have ze6 : w.heap.size + 1 < w6.heap.size := by omega
      have ze7 : w.heap.size + 1 + 1 < w6.heap.size := by omega
      have gtne : ¬ gt = w6.heap.size := by omega
      have gt1 : ¬ gt = w.heap.size + 1 := by omega
      have gt2 : ¬ gt = w.heap.size + 1 + 1 := by omega
      have HRN := Lib.hid hrn
      have HBZ := Lib.hid (show w5.heap.size ≤ w6.heap.size ∧ w5.heap.size ≤ gt ∧ gt < w6.heap.size ∧ w.heap.size + 1 + 1 < w5.heap.size from ⟨z6, hgb, gtl, zV⟩)
      have KS := Lib.hid (show ∀ V, Aft X0 V → (V.cell? ⟨w.heap.size + 1, 2, none⟩ = some (.slice Ac r.cols.length cc) ∧ V.frozen? ⟨w.heap.size + 1, 2, none⟩ = false ∧ w.heap.size + 1 < V.heap.size) from fun V a => ⟨((KR1.out X0 HAX.out).aft a).cell (j := 2) rfl, ((KR1.out X0 HAX.out).aft a).2.2 2 (by simp), ((KR1.out X0 HAX.out).aft a).1⟩)
      have KY2 := Lib.hid (show ∀ V, Kb (fun g => g = w.heap.size + 1) X0 V → (V.cell? ⟨w.heap.size + 1 + 1, 0, none⟩ = some (.slice none 0 0) ∧ V.cell? ⟨w.heap.size + 1 + 1, 1, none⟩ = some (.slice none 0 0) ∧ V.frozen? ⟨w.heap.size + 1 + 1, 0, none⟩ = false ∧ V.frozen? ⟨w.heap.size + 1 + 1, 1, none⟩ = false ∧ w.heap.size + 1 + 1 < V.heap.size) from fun V k => by
        have z := k.row (KB.out X0 HAX.out) (fun e => by have e : w.heap.size + 1 + 1 = w.heap.size + 1 := e; omega)
        exact ⟨z.cell (j := 0) rfl, z.cell (j := 1) rfl, z.2.2 0 (by simp), z.2.2 1 (by simp), z.1⟩)
      have t2 := (KF.out _ (HA5.out.trans a6)).2.1.2.2.1
      have tz := (KF.out _ (HA5.out.trans a6)).2.1.2.2.2.2.2.2.2.2
      clear ob ob0 hL htq hrq hrn hrv a6 a60 rX hi2 hz0 hz1 hz2 hgt HTT hgb gtl
      go_wp2_with (at_builtin; go_must (refine wpList_append_new _ rfl _ _ 27 rfl 9 i2 _ 1 16 Tryz.underlying27 KI.out KZ0.out KZ1.out KZ2.out rfl (by decide) rfl Ac r.cols.length cc (r.cols.flatMap nameC) rfl (nameC_len _) HNN.out ?qc (oneC_cells oneC_name _) hq1 hq2 ?_); rotate_left; intro Dn cn w7 own7 a7; have a7 : Aft X0 w7 := (by rw [hX]; exact a7); have own7 : w7.ownsRow X0.heap.size 9 1 (Hd.mk Dn r.cols.length cn).v r.cols.length (r.cols.flatMap nameC) := (by rw [hX]; exact own7); obtain ⟨s2, sf, sz⟩ := KS.out w7 a7; have HA7 := Lib.hid a7; have HO7 := Lib.hid own7; clear a7 own7)
      case qc => rw [← hX]; exact HNC.out
      obtain ⟨Z, hZ⟩ : ∃ Z, Z = w7.setCell ⟨w.heap.size + 1, 2, none⟩ (.slice Dn r.cols.length cn) := ⟨_, rfl⟩
      have HKZ := Lib.hid (show Kb (fun g => g = w.heap.size + 1) w7 Z by rw [hZ]; exact Kb.set _ _ _ _)
      have rZ : RowAt Z (w.heap.size + 1) [.string r.name, .int .i64 r.kind, .slice Dn r.cols.length cn, .int .i64 r.low, .int .i64 r.high, .string r.schema, .string r.table, .string r.key] := by rw [hZ]; exact ((KR1.out X0 HAX.out).aft HA7.out).set 2 _ (by simp)
      have KRZ := Lib.hid (show ∀ V, Aft Z V → (V.cell? ⟨w.heap.size + 1, 0, none⟩ = some (.string r.name) ∧ V.cell? ⟨w.heap.size + 1, 1, none⟩ = some (.int .i64 r.kind) ∧ V.cell? ⟨w.heap.size + 1, 2, none⟩ = some (.slice Dn r.cols.length cn) ∧ V.cell? ⟨w.heap.size + 1, 3, none⟩ = some (.int .i64 r.low) ∧ V.cell? ⟨w.heap.size + 1, 4, none⟩ = some (.int .i64 r.high) ∧ V.cell? ⟨w.heap.size + 1, 5, none⟩ = some (.string r.schema) ∧ V.cell? ⟨w.heap.size + 1, 6, none⟩ = some (.string r.table) ∧ V.cell? ⟨w.heap.size + 1, 7, none⟩ = some (.string r.key) ∧ w.heap.size + 1 < V.heap.size) from fun V a => by
        have p := rZ.aft a
        exact ⟨p.cell (j := 0) rfl, p.cell (j := 1) rfl, p.cell (j := 2) rfl, p.cell (j := 3) rfl, p.cell (j := 4) rfl, p.cell (j := 5) rfl, p.cell (j := 6) rfl, p.cell (j := 7) rfl, p.1⟩)
      have KZ := Lib.hid (show ∀ V, Aft Z V → Kb (fun g => g = w.heap.size + 1) X0 V from fun V a => ((Kb.of_aft HA7.out).trans HKZ.out).trans (Kb.of_aft a))
      have KEND := Lib.hid (show ∀ wr h, GrR Z wr h (insAt L[q].rules pp ⟨r, ⟨Dn, r.cols.length, cn⟩⟩) → _ from fun wr h g => KE.out ⟨Dn, r.cols.length, cn⟩ w7 Z wr h HA7.out HO7.out HKZ.out g)
      clear rZ s2 sf sz KE HNC HNN t2 tz
      rw [← hZ]
      clear hZ hX
      go_loopw [15, 16, 17] (fun u15 u16 u17 wr => ∃ (k : Nat) (h : Hd), u15 = .slice h.a (insK L[q].rules pp ⟨r, ⟨Dn, r.cols.length, cn⟩⟩ k).length h.c ∧ u16 = .bool (decide (pp < k)) ∧ u17 = .int .i64 k ∧ k ≤ L[q].rules.length ∧ GrR Z wr h (insK L[q].rules pp ⟨r, ⟨Dn, r.cols.length, cn⟩⟩ k)) (fun _ _ u17 _ => L[q].rules.length - (intOf u17).toNat)
      case atStart => exact ⟨0, ⟨none, 0, 0⟩, by rw [insK_zero]; rfl, by rw [decide_eq_false (Nat.not_lt_zero pp)], rfl, Nat.zero_le _, by rw [insK_zero]; exact GrR.start Z⟩
      case round =>
        obtain ⟨k, h, rfl, rfl, rfl, hk, hg⟩ := hrel
        have HG := Lib.hid hg
        have hdl := insK_len L[q].rules pp ⟨r, ⟨Dn, r.cols.length, cn⟩⟩ k hk
        have hrn := HRN.out
        obtain ⟨⟨q0, q1, qz⟩, ⟨d4, f4, dz⟩⟩ := KX.out wr (KZ.out wr hg.1)
        obtain ⟨e0, e1, e2, e3, e4, e5, e6, e7, ez⟩ := KRZ.out wr hg.1
        clear hg
        by_cases hlt : k < L[q].rules.length
        · obtain ⟨g, hga, hce, kl⟩ := KL.out k hlt
          obtain ⟨x, hx⟩ : ∃ x, L[q].rules[k] = x := ⟨_, rfl⟩
          have HLE := HTK.out k hlt
          rw [hx] at hce kl HLE
          have HX3 := Lib.hid hx
          have HCE := Lib.hid hce
          have HKL := Lib.hid kl
          rw [hga] at d4
          obtain ⟨m0, m1, m2, m3, m4, m5, m6, m7, mz⟩ := kl wr (KZ.out wr HG.out.1)
          have hb0 : (0 : Int) ≤ (k : Int) := by omega
          have hb1 : (k : Int) < (L[q].rules.length : Int) := by omega
          have zz1 : w.heap.size + 1 < wr.heap.size + 1 := by omega
          have zz2 : g < wr.heap.size + 1 := by omega
          clear hx hce kl hga
          rcases Nat.lt_trichotomy k pp with hc | hc | hc
          · have hp1 : decide (pp < k) = false := decide_eq_false (by omega)
            have h2' : ltS r.name x.r.name = false := HLE.trans (decide_eq_false (by omega))
            have h1' : Op.bytesLess r.name.toList x.r.name.toList = false := h2'
            have HD := Lib.hid (show decide (pp < k + 1) = false from decide_eq_false (by omega))
            have HN := Lib.hid (show insK L[q].rules pp ⟨r, ⟨Dn, r.cols.length, cn⟩⟩ (k + 1) = insK L[q].rules pp ⟨r, ⟨Dn, r.cols.length, cn⟩⟩ k ++ [x] from by rw [insK_lt _ _ _ _ hlt hc, HX3.out])
            obtain ⟨lk, hlk⟩ : ∃ lk, insK L[q].rules pp ⟨r, ⟨Dn, r.cols.length, cn⟩⟩ k = lk := ⟨_, rfl⟩
            rw [hlk] at HG HN hdl ⊢
            rw [hp1]
            have hq8 : lk.length ≤ 1000000 := by omega
            clear h2' hp1 hc hlk HLE
            go_wp2_with (at_builtin; go_must (refine app_rul rfl _ _ rfl Z.heap.size (.slice h.a lk.length h.c) lk.length (lk.flatMap ORul.cells) rfl (own_aft HG.out.own (((Aft.refl wr).alloc _).alloc _)) _ x x.h.a x.r.cols.length x.h.c HCE.out rfl ?qh hq8 ?qa ?_); rotate_left 2; intro gg cap' w5 hown5 hgrow; have HG5 := Lib.hid (HG.out.grow (((Aft.refl wr).alloc _).alloc _) hown5 hgrow); clear hown5 hgrow)
            case qh => first | exact heap_alloc_new _ _ | simpa using heap_alloc_new (wr.alloc (.cells #[.string x.r.name, .int .i64 x.r.kind, .slice x.h.a x.r.cols.length x.h.c, .int .i64 x.r.low, .int .i64 x.r.high, .string x.r.schema, .string x.r.table, .string x.r.key] 29)) _
            case qa => have := HG.out.1.size; simp; omega
            go_roundw
            case rel => exact ⟨k + 1, ⟨some ⟨gg, 0, none⟩, lk.length + 1, cap'⟩, by rw [HN.out]; simp, by rw [HD.out], by go_num, by omega, by rw [HN.out]; exact HG5.out⟩
            case measure => simp [intOf]; omega
          · subst hc
            have hp1 : decide (k < k) = false := decide_eq_false (by omega)
            have h2' : ltS r.name x.r.name = true := HLE.trans (decide_eq_true (Nat.le_refl _))
            have h1' : Op.bytesLess r.name.toList x.r.name.toList = true := h2'
            have HD := Lib.hid (show decide (k < k + 1) = true from decide_eq_true (by omega))
            have HN := Lib.hid (show insK L[q].rules k ⟨r, ⟨Dn, r.cols.length, cn⟩⟩ (k + 1) = insK L[q].rules k ⟨r, ⟨Dn, r.cols.length, cn⟩⟩ k ++ [⟨r, ⟨Dn, r.cols.length, cn⟩⟩] ++ [x] from by rw [insK_at _ _ _ hlt, HX3.out])
            obtain ⟨lk, hlk⟩ : ∃ lk, insK L[q].rules k ⟨r, ⟨Dn, r.cols.length, cn⟩⟩ k = lk := ⟨_, rfl⟩
            rw [hlk] at HG HN hdl ⊢
            rw [hp1]
            have hq8 : lk.length ≤ 1000000 := by omega
            have hq9 : (lk ++ [(⟨r, ⟨Dn, r.cols.length, cn⟩⟩ : ORul)]).length ≤ 1000000 := by simp; omega
            have KB10 := Lib.hid (show ∀ V V', Aft (wr.alloc (.cells #[.string x.r.name, .int .i64 x.r.kind, .slice x.h.a x.r.cols.length x.h.c, .int .i64 x.r.low, .int .i64 x.r.high, .string x.r.schema, .string x.r.table, .string x.r.key] 29)) V → V.grownBy V' (Value.slice h.a lk.length h.c).ownBlock → RowAt V' wr.heap.size [.string x.r.name, .int .i64 x.r.kind, .slice x.h.a x.r.cols.length x.h.c, .int .i64 x.r.low, .int .i64 x.r.high, .string x.r.schema, .string x.r.table, .string x.r.key] from fun V V' a hg => by
              have r9 := (box_row2 (w := wr) (c := [.string x.r.name, .int .i64 x.r.kind, .slice x.h.a x.r.cols.length x.h.c, .int .i64 x.r.low, .int .i64 x.r.high, .string x.r.schema, .string x.r.table, .string x.r.key]) (t := 29) (Aft.refl _)).aft a
              exact (Kb.of_grown hg).row r9 (fun e => by have := (HG.out.own.lt _ e).2; omega))
            clear h2' hp1 hlk HLE
            go_wp2_with (first
              | (at_builtin; (refine app_rul rfl _ _ rfl Z.heap.size (.slice h.a lk.length h.c) lk.length (lk.flatMap ORul.cells) rfl (own_aft HG.out.own (((Aft.refl wr).alloc _).alloc _)) _ ⟨r, ⟨Dn, r.cols.length, cn⟩⟩ Dn r.cols.length cn rfl rfl ?qi hq8 ?qb ?_); rotate_left 2; intro gg cap' w5 hown5 hgrow; have HG5 := Lib.hid (HG.out.grow (((Aft.refl wr).alloc _).alloc _) hown5 hgrow); have r8 := KB10.out _ _ ((Aft.refl _).alloc _) hgrow; have v0 := r8.cell (j := 0) rfl; have v1 := r8.cell (j := 1) rfl; have v2 := r8.cell (j := 2) rfl; have v3 := r8.cell (j := 3) rfl; have v4 := r8.cell (j := 4) rfl; have v5 := r8.cell (j := 5) rfl; have v6 := r8.cell (j := 6) rfl; have v7 := r8.cell (j := 7) rfl; have vz := r8.1; clear hown5 hgrow r8)
              | (at_builtin; go_must (refine app_rul rfl _ _ rfl Z.heap.size (.slice (some ⟨gg, 0, none⟩) (lk.length + 1) cap') (lk ++ [(⟨r, ⟨Dn, r.cols.length, cn⟩⟩ : ORul)]).length ((lk ++ [(⟨r, ⟨Dn, r.cols.length, cn⟩⟩ : ORul)]).flatMap ORul.cells) rfl (own_aft HG5.out.2 ((Aft.refl w5).alloc _)) _ x x.h.a x.r.cols.length x.h.c HCE.out rfl ?qj hq9 ?qd ?_); rotate_left 2; intro gg2 cap2' w6' hown6 hgrow6; have HG6 := Lib.hid (HG5.out.grow ((Aft.refl w5).alloc _) hown6 hgrow6); clear hown6 hgrow6))
            case qi => first | exact heap_alloc_new _ _ | simpa using heap_alloc_new (wr.alloc (.cells #[.string x.r.name, .int .i64 x.r.kind, .slice x.h.a x.r.cols.length x.h.c, .int .i64 x.r.low, .int .i64 x.r.high, .string x.r.schema, .string x.r.table, .string x.r.key] 29)) _
            case qj => exact heap_alloc_new _ _
            case qb => have := HG.out.1.size; simp; omega
            case qd => have := HG5.out.1.size; simp; omega
            go_roundw
            case rel => exact ⟨k + 1, ⟨some ⟨gg2, 0, none⟩, (lk ++ [(⟨r, ⟨Dn, r.cols.length, cn⟩⟩ : ORul)]).length + 1, cap2'⟩, by rw [HN.out]; simp, by rw [HD.out], by go_num, by omega, by rw [HN.out]; exact HG6.out⟩
            case measure => simp [intOf]; omega
          · have hp1 : decide (pp < k) = true := decide_eq_true (by omega)
            have HD := Lib.hid (show decide (pp < k + 1) = true from decide_eq_true (by omega))
            have HN := Lib.hid (show insK L[q].rules pp ⟨r, ⟨Dn, r.cols.length, cn⟩⟩ (k + 1) = insK L[q].rules pp ⟨r, ⟨Dn, r.cols.length, cn⟩⟩ k ++ [x] from by rw [insK_gt _ _ _ _ hlt hc, HX3.out])
            obtain ⟨lk, hlk⟩ : ∃ lk, insK L[q].rules pp ⟨r, ⟨Dn, r.cols.length, cn⟩⟩ k = lk := ⟨_, rfl⟩
            rw [hlk] at HG HN hdl ⊢
            rw [hp1]
            have hq8 : lk.length ≤ 1000000 := by omega
            clear hp1 hc hlk HLE
            go_wp2_with (at_builtin; go_must (refine app_rul rfl _ _ rfl Z.heap.size (.slice h.a lk.length h.c) lk.length (lk.flatMap ORul.cells) rfl (own_aft HG.out.own (((Aft.refl wr).alloc _).alloc _)) _ x x.h.a x.r.cols.length x.h.c HCE.out rfl ?qk hq8 ?qe ?_); rotate_left 2; intro gg cap' w5 hown5 hgrow; have HG5 := Lib.hid (HG.out.grow (((Aft.refl wr).alloc _).alloc _) hown5 hgrow); clear hown5 hgrow)
            case qk => first | exact heap_alloc_new _ _ | simpa using heap_alloc_new (wr.alloc (.cells #[.string x.r.name, .int .i64 x.r.kind, .slice x.h.a x.r.cols.length x.h.c, .int .i64 x.r.low, .int .i64 x.r.high, .string x.r.schema, .string x.r.table, .string x.r.key] 29)) _
            case qe => have := HG.out.1.size; simp; omega
            go_roundw
            case rel => exact ⟨k + 1, ⟨some ⟨gg, 0, none⟩, lk.length + 1, cap'⟩, by rw [HN.out]; simp, by rw [HD.out], by go_num, by omega, by rw [HN.out]; exact HG5.out⟩
            case measure => simp [intOf]; omega
        · have hk3 : k = L[q].rules.length := by omega
          subst hk3
          have hFF : chgR o (tabR o s n (addRulF o.tables r)) = (⟨o.schemas, o.tables.set q { p with rules := insAt p.rules pp r }⟩, 0) := by
            rw [HE.out]
            simp only [if_true]
            rw [HE2.out, HEF.out]
            simp only [Bool.not_true, Bool.not_false, Bool.or_self, Bool.or_false, Bool.false_or, Bool.true_or, Bool.or_true, Bool.false_eq_true, if_false, if_true, if_neg (show ¬ 0 ≤ j by have := HJ.out; omega), if_neg H8.out]
            rw [KY.out]
            simp
          have K5 := Lib.hid (show ∀ (V : World) (h5 : Hd) (n5 : Nat), GrR Z V h5 (insAt L[q].rules pp ⟨r, ⟨Dn, r.cols.length, cn⟩⟩) → n5 = h5.n → ((V.cell? ⟨w6.heap.size, 0, none⟩ = some (.slice hs.a o.schemas.length hs.c) ∧ V.cell? ⟨w6.heap.size, 1, none⟩ = some (.slice (some ⟨gt, 0, none⟩) o.tables.length ct) ∧ w6.heap.size < V.heap.size) ∧ (V.cell? ⟨gt, q * 5 + 4, none⟩ = some (.slice L[q].hr.a L[q].rules.length L[q].hr.c) ∧ V.frozen? ⟨gt, q * 5 + 4, none⟩ = false ∧ gt < V.heap.size)) ∧ (V.cell? ⟨w.heap.size + 1 + 1, 0, none⟩ = some (.slice none 0 0) ∧ V.cell? ⟨w.heap.size + 1 + 1, 1, none⟩ = some (.slice none 0 0) ∧ V.frozen? ⟨w.heap.size + 1 + 1, 0, none⟩ = false ∧ V.frozen? ⟨w.heap.size + 1 + 1, 1, none⟩ = false ∧ w.heap.size + 1 + 1 < V.heap.size) ∧
            Hid (RowAt (V.setCell ⟨gt, q * 5 + 4, none⟩ (.slice h5.a n5 h5.c)) (w.heap.size + 1 + 1) [.slice none 0 0, .slice none 0 0] ∧ ObjP w (chgR o (tabR o s n (addRulF o.tables r))) (.returned (.tuple #[.agg #[.slice hs.a o.schemas.length hs.c, .slice (some ⟨gt, 0, none⟩) o.tables.length ct], .int .i64 0])) (((V.setCell ⟨gt, q * 5 + 4, none⟩ (.slice h5.a n5 h5.c)).setCell ⟨w.heap.size + 1 + 1, 0, none⟩ (.slice hs.a o.schemas.length hs.c)).setCell ⟨w.heap.size + 1 + 1, 1, none⟩ (.slice (some ⟨gt, 0, none⟩) o.tables.length ct))) from fun V h5 n5 g hn5 => by
            subst hn5
            obtain ⟨c1, c2, c3, c4⟩ := KEND.out V h5 g
            refine ⟨KX.out V (KZ.out V g.1), KY2.out V (KZ.out V g.1), Lib.hid ⟨c4, ?_⟩⟩
            rw [hFF]
            refine objP_set (W := w5) c1 (L := L.set q { L[q] with rules := insAt L[q].rules pp ⟨r, ⟨Dn, r.cols.length, cn⟩⟩, hr := h5 }) ?_ c2 (by omega) HBZ.out.2.2.2 (by simp)
            rw [List.map_set, HL.out, ← HTQ.out]
            congr 1
            unfold OTab.t
            simp only
            rw [map_insAt])
          clear hFF
          rcases Nat.lt_or_ge pp L[q].rules.length with hc | hc
          · have hp1 : decide (pp < L[q].rules.length) = true := decide_eq_true hc
            rw [insK_end _ _ _ hc] at HG ⊢
            rw [hp1]
            obtain ⟨A5, n5, c5⟩ := h
            have hv5 := own_slice HG.out.2
            simp only [Hd.v, Value.slice.injEq, true_and, and_true] at hv5
            subst hv5
            obtain ⟨⟨⟨q0, q1, qz⟩, ⟨d4, f4, dz⟩⟩, ⟨y0, y1, y2, y3, yz⟩, HX9⟩ := K5.out wr ⟨A5, _, c5⟩ _ HG.out rfl
            clear hp1 hc
            go_wp2_with fail
            refine bodyPost_ret (results_cell_tmp (v := .agg #[.slice hs.a o.schemas.length hs.c, .slice (some ⟨gt, 0, none⟩) o.tables.length ct]) rfl _ rfl (lvObj_row (setO_row HX9.out.1 rfl _ _))) rfl ?_
            exact HX9.out.2
          · have hpe : pp = L[q].rules.length := by omega
            subst hpe
            have hp1 : decide (L[q].rules.length < L[q].rules.length) = false := decide_eq_false (by omega)
            have HN := Lib.hid (insK_end' L[q].rules (⟨r, ⟨Dn, r.cols.length, cn⟩⟩ : ORul))
            obtain ⟨lk, hlk⟩ : ∃ lk, insK L[q].rules L[q].rules.length ⟨r, ⟨Dn, r.cols.length, cn⟩⟩ L[q].rules.length = lk := ⟨_, rfl⟩
            rw [hlk] at HG HN hdl ⊢
            rw [hp1]
            have hq8 : lk.length ≤ 1000000 := by omega
            clear hp1 hlk hc
            go_wp2_with (at_builtin; go_must (refine app_rul rfl _ _ rfl Z.heap.size (.slice h.a lk.length h.c) lk.length (lk.flatMap ORul.cells) rfl (own_aft HG.out.own ((Aft.refl wr).alloc _)) _ ⟨r, ⟨Dn, r.cols.length, cn⟩⟩ Dn r.cols.length cn rfl rfl ?ql hq8 ?qf ?_); rotate_left 2; intro gg cap' w5 hown5 hgrow; have HG5 := Lib.hid (HG.out.grow ((Aft.refl wr).alloc _) hown5 hgrow); obtain ⟨⟨⟨q0, q1, qz⟩, ⟨d4, f4, dz⟩⟩, ⟨y0, y1, y2, y3, yz⟩, HX9⟩ := K5.out w5 ⟨some ⟨gg, 0, none⟩, lk.length + 1, cap'⟩ (lk.length + 1) (HN.out ▸ HG5.out) rfl; clear hown5 hgrow)
            case ql => first | exact heap_alloc_new _ _ | exact (Array.getElem?_eq_some_iff.1 (heap_alloc_new _ _)).2
            case qf => have := HG.out.1.size; simp; omega
            refine bodyPost_ret (results_cell_tmp (v := .agg #[.slice hs.a o.schemas.length hs.c, .slice (some ⟨gt, 0, none⟩) o.tables.length ct]) rfl _ rfl (lvObj_row (setO_row HX9.out.1 rfl _ _))) rfl ?_
            exact HX9.out.2
    · have hk0' : (kk != 0) = true := by simpa using hk0
      have HK0 := Lib.hid hk0
      clear hk0
      go_wp2_with fail
      refine (rNo_in _ _).mono ?_
      rintro e w9 ⟨rfl, a2⟩
      obtain ⟨_, _, ⟨y0, y1, y2, y3, yz⟩⟩ := KF.out w9 (HA5.out.trans a2)
      have HP := Lib.hid (KN.out w9 (HA5.out.trans a2) kk)
      have HRW := Lib.hid (KB.out w9 (HA5.out.trans a2))
      clear a2
      go_wp2_with fail
      refine bodyPost_ret (results_cell_tmp (v := .agg #[.slice none 0 0, .slice none 0 0]) rfl _ rfl (lvObj_row (setO_row HRW.out rfl _ _))) rfl ?_
      rw [HE.out]
      simp only [if_true]
      rw [HE2.out, HEF.out]
      simp only [Bool.not_true, Bool.not_false, Bool.or_self, Bool.or_false, Bool.false_or, Bool.true_or, Bool.or_true, Bool.false_eq_true, if_false, if_true, if_neg (show ¬ 0 ≤ j by have := HJ.out; omega), if_neg H8.out]
      rw [if_pos (show (r.kind == 4 && kk != 0) = true by rw [HK4.out]; simpa using HK0.out)]
      rw [if_neg (show ¬ kk = 0 from HK0.out)]
      exact HP.out
  · have hk4' : (r.kind == 4) = false := by simpa using hk4
    have HK4 := Lib.hid hk4
    clear hk4
    have CO' := Lib.hid (CO.out (by first | trivial | rfl) _ HA3.out)
    clear CO C5 C4 C3 KT
    have KY := Lib.hid (show (r.kind == 4 && kk != 0) = false from by rw [show (r.kind == 4) = false by simpa using HK4.out]; rfl)
    go_wp2_with fail
    refine CO'.out.mono ?_
    rintro e w6 ⟨hs, ht, L, hL, rfl, a6, ob⟩
    have hLL : L.length = o.tables.length := by rw [← hL]; simp
    have hqL : q < L.length := by omega
    obtain ⟨gt, hgt, hgb, _⟩ := own_place ob.tab (by omega)
    obtain ⟨At', nt, ct⟩ := ht
    have hgt' : At' = some ⟨gt, 0, none⟩ := hgt
    subst hgt'
    have htq : L[q].t = p := by
      have : (L.map OTab.t)[q]'(by simpa using hqL) = o.tables[q] := by simp only [hL]
      rw [← HP.out]; simpa using this
    have hrq : L[q].rules.map (·.r) = p.rules := by rw [← htq]; rfl
    have hrn : L[q].rules.length = p.rules.length := by rw [← hrq]; simp
    have hrv : L[q].hr.v = .slice L[q].hr.a L[q].rules.length L[q].hr.c := own_slice (ob.nth hqL).rul
    obtain ⟨X0, hX⟩ : ∃ X, X = w6.alloc (.cells #[.slice hs.a o.schemas.length hs.c, .slice (some ⟨gt, 0, none⟩) o.tables.length ct] 25) := ⟨_, rfl⟩
    have a60 : Aft w6 X0 := by rw [hX]; exact (Aft.refl _).alloc _
    have rX : RowAt X0 w6.heap.size [.slice hs.a o.schemas.length hs.c, .slice (some ⟨gt, 0, none⟩) o.tables.length ct] := by rw [hX]; exact box_row2 (Aft.refl _)
    have zX : X0.heap.size = w6.heap.size + 1 := by rw [hX]; simp
    have HAX := Lib.hid ((HA3.out.trans a6).trans a60)
    have z6 := a6.size
    have zV : w.heap.size + 1 + 1 < w3.heap.size := (KF.out _ HA3.out).2.2.2.2.2.2
    obtain ⟨⟨x0, x1, xz⟩, ⟨t0, t1, t2, t3, t4, t5, t6, t7, tz⟩, ⟨y0, y1, y2, y3, yz⟩⟩ := KF.out X0 HAX.out
    obtain ⟨i2, hi2, hz0, hz1, hz2⟩ := info_parts info2Str2
    have KI := Lib.hid hi2
    have KZ0 := Lib.hid hz0
    have KZ1 := Lib.hid hz1
    have KZ2 := Lib.hid hz2
    have hq1 : r.cols.length ≤ maxLen := by unfold maxLen; omega
    have hq2 : r.cols.length * 16 ≤ 140737488355328 := by omega
    have HNC := Lib.hid (sl_cells HNS.out (by decide) (fun _ _ h => h.1) (HAW.out.trans HAX.out))
    have HNN := Lib.hid (sl_none HNS.out)
    have gtl := (ob.row rfl hqL).1
    have ob0 := ob.aft a60
    have HOB := Lib.hid ob
    have HL := Lib.hid hL
    have HRQ := Lib.hid hrq
    have HTQ := Lib.hid htq
    -- the end, from any world behind
    have KE := Lib.hid (show ∀ (xh : Hd) (w7 Z wr : World) (h : Hd), Aft X0 w7 → w7.ownsRow X0.heap.size 9 1 xh.v r.cols.length (r.cols.flatMap nameC) → Kb (fun g => g = w.heap.size + 1) w7 Z → GrR Z wr h (insAt L[q].rules pp ⟨r, xh⟩) →
        Aft w (wr.setCell ⟨gt, q * 5 + 4, none⟩ h.v) ∧ ObjIn (wr.setCell ⟨gt, q * 5 + 4, none⟩ h.v) w3.heap.size hs ⟨some ⟨gt, 0, none⟩, nt, ct⟩ o.schemas (L.set q { L[q] with rules := insAt L[q].rules pp ⟨r, xh⟩, hr := h }) ∧ RowAt (wr.setCell ⟨gt, q * 5 + 4, none⟩ h.v) w6.heap.size [.slice hs.a o.schemas.length hs.c, .slice (some ⟨gt, 0, none⟩) o.tables.length ct] ∧ RowAt (wr.setCell ⟨gt, q * 5 + 4, none⟩ h.v) (w.heap.size + 1 + 1) [.slice none 0 0, .slice none 0 0] from fun xh w7 Z wr h a7 o7 kZ g => by
      have z7 := a7.size
      have zZ := kZ.size
      have zr := g.1.size
      have k67 : Kb (fun g => g = w.heap.size + 1) w6 wr := ((Kb.of_aft (a60.trans a7)).trans kZ).trans (Kb.of_aft g.1)
      have k0 : Kb (fun g => g = w.heap.size + 1) X0 wr := ((Kb.of_aft a7).trans kZ).trans (Kb.of_aft g.1)
      have ks := Kb.set wr gt (q * 5 + 4) h.v
      have hxl : ∀ c ∈ xh.blk, X0.heap.size ≤ c ∧ c < w7.heap.size := blk_lt o7
      have hhl : ∀ c ∈ h.blk, Z.heap.size ≤ c ∧ c < wr.heap.size := fun c hc => blk_lt g.2 c hc
      have hp9 := perm_insAt L[q].rules pp (⟨r, xh⟩ : ORul)
      have hfl : ((insAt L[q].rules pp (⟨r, xh⟩ : ORul)).flatMap (·.h.blk)).Perm (L[q].rules.flatMap (·.h.blk) ++ xh.blk) := by
        have := hp9.flatMap_right (fun x : ORul => x.h.blk)
        rwa [List.flatMap_append, List.flatMap_cons, List.flatMap_nil, List.append_nil] at this
      have ndq := tab_nodup (nd_assoc.1 ob.nd) hqL
      have ndr : (L[q].rules.flatMap (·.h.blk)).Nodup := (List.nodup_append.1 (List.nodup_append.1 ndq).2.1).2.1
      have oend := endR (Y := fun g => g = w.heap.size + 1) (wr := wr) (h := h) (l := insAt L[q].rules pp ⟨r, xh⟩) ob hqL rfl (fun g e => by have e : g = w.heap.size + 1 := e; omega) k67 g.2 (show w6.heap.size ≤ Z.heap.size by omega) z6 (fun y hy => by
          rcases mem_insAt.1 hy with e | e
          · refine .inr ⟨?_, fun c hc hc2 => ?_⟩
            · rw [e]
              exact ⟨own_aft (own_kb (own_down o7 (show w6.heap.size ≤ X0.heap.size by omega)) kZ fun c hc e => by have := (hxl c (Hd.mem_blk.2 hc)).1; have e : c = w.heap.size + 1 := e; omega) g.1⟩
            · rw [e] at hc
              have := hxl c hc
              have := hhl c hc2
              omega
          · exact .inl e) (hfl.nodup_iff.2 (List.nodup_append.2 ⟨ndr, blk_nodup _, fun a ha b hb e => by
            subst e
            have h9 := hxl a hb
            have h8 := ((ob.nth hqL).lt a (by unfold OTab.blks; exact List.mem_append.2 (.inr (List.mem_append.2 (.inr ha))))).2
            omega⟩))
      have aw : Aft w wr := k0.to_aft (HAW.out.trans HAX.out) (fun g hg e => by omega)
      refine ⟨ks.to_aft aw (fun g hg e => by have e : g = gt := e; omega), oend, ?_, ?_⟩
      · exact ks.row (k0.row rX (fun e => by have e : w6.heap.size = w.heap.size + 1 := e; omega)) (fun e => by have e : w6.heap.size = gt := e; omega)
      · exact ks.row (k0.row (KB.out X0 HAX.out) (fun e => by have e : w.heap.size + 1 + 1 = w.heap.size + 1 := e; omega)) (fun e => by have e : w.heap.size + 1 + 1 = gt := e; omega))
    have KX := Lib.hid (show ∀ V, Kb (fun g => g = w.heap.size + 1) X0 V → (V.cell? ⟨w6.heap.size, 0, none⟩ = some (.slice hs.a o.schemas.length hs.c) ∧ V.cell? ⟨w6.heap.size, 1, none⟩ = some (.slice (some ⟨gt, 0, none⟩) o.tables.length ct) ∧ w6.heap.size < V.heap.size) ∧ (V.cell? ⟨gt, q * 5 + 4, none⟩ = some (.slice L[q].hr.a L[q].rules.length L[q].hr.c) ∧ V.frozen? ⟨gt, q * 5 + 4, none⟩ = false ∧ gt < V.heap.size) from fun V k => by
      have r9 := k.row rX (fun e => by have e : w6.heap.size = w.heap.size + 1 := e; omega)
      have hgb : ¬ gt = w.heap.size + 1 := by omega
      have d4 : X0.cell? ⟨gt, q * 5 + 4, none⟩ = some (.slice L[q].hr.a L[q].rules.length L[q].hr.c) := by rw [← hrv]; exact ob0.cell rfl hqL (by decide)
      have g0 := ob0.row rfl hqL
      refine ⟨⟨r9.cell (j := 0) rfl, r9.cell (j := 1) rfl, r9.1⟩, k.cell d4 hgb, ?_, Nat.lt_of_lt_of_le g0.1 k.size⟩
      have := k.block gt g0.1 hgb
      rw [← g0.2.2 4 (by decide)]; simp [World.frozen?, this])
    have KL := Lib.hid (show ∀ k (hk : k < L[q].rules.length), ∃ g, L[q].hr.a = some ⟨g, 0, none⟩ ∧ L[q].rules[k].cells = [.string L[q].rules[k].r.name, .int .i64 L[q].rules[k].r.kind, .slice L[q].rules[k].h.a L[q].rules[k].r.cols.length L[q].rules[k].h.c, .int .i64 L[q].rules[k].r.low, .int .i64 L[q].rules[k].r.high, .string L[q].rules[k].r.schema, .string L[q].rules[k].r.table, .string L[q].rules[k].r.key] ∧
        ∀ V, Kb (fun g => g = w.heap.size + 1) X0 V → (V.cell? ⟨g, k * 8, none⟩ = some (.string L[q].rules[k].r.name) ∧ V.cell? ⟨g, k * 8 + 1, none⟩ = some (.int .i64 L[q].rules[k].r.kind) ∧ V.cell? ⟨g, k * 8 + 2, none⟩ = some (.slice L[q].rules[k].h.a L[q].rules[k].r.cols.length L[q].rules[k].h.c) ∧ V.cell? ⟨g, k * 8 + 3, none⟩ = some (.int .i64 L[q].rules[k].r.low) ∧ V.cell? ⟨g, k * 8 + 4, none⟩ = some (.int .i64 L[q].rules[k].r.high) ∧ V.cell? ⟨g, k * 8 + 5, none⟩ = some (.string L[q].rules[k].r.schema) ∧ V.cell? ⟨g, k * 8 + 6, none⟩ = some (.string L[q].rules[k].r.table) ∧ V.cell? ⟨g, k * 8 + 7, none⟩ = some (.string L[q].rules[k].r.key) ∧ g < V.heap.size) from fun k hk => by
      have tq := (ob0.nth hqL).rul
      obtain ⟨g, hga, hgb2, hgr⟩ := own_place tq (by omega)
      have hce := ORul.cells_of ((ob0.nth hqL).each _ (List.getElem_mem hk))
      refine ⟨g, hga, hce, fun V kv => ?_⟩
      have hg6 : w3.heap.size ≤ g := hgb2
      have hgn : ¬ g = w.heap.size + 1 := by omega
      have c := fun (j : Nat) (hj : j < 8) => own_cell tq (f := ORul.cells) ORul.cells_len hga hk (j := j) hj
      rw [hce] at c
      exact ⟨kv.cell (c 0 (by decide)) hgn, kv.cell (c 1 (by decide)) hgn, kv.cell (c 2 (by decide)) hgn, kv.cell (c 3 (by decide)) hgn, kv.cell (c 4 (by decide)) hgn, kv.cell (c 5 (by decide)) hgn, kv.cell (c 6 (by decide)) hgn, kv.cell (c 7 (by decide)) hgn, Nat.lt_of_lt_of_le hgr.1 kv.size⟩)
    have HTK := Lib.hid (show ∀ k (hk : k < L[q].rules.length), ltS r.name L[q].rules[k].r.name = decide (pp ≤ k) from fun k hk => by
      have := HTT.out k (by omega)
      rw [(List.getElem_of_eq hrq.symm (by omega)).trans (List.getElem_map _)] at this
      exact this)
    have ze6 : w.heap.size + 1 < w6.heap.size := by omega
    have ze7 : w.heap.size + 1 + 1 < w6.heap.size := by omega
    have gtne : ¬ gt = w6.heap.size := by omega
    have gt1 : ¬ gt = w.heap.size + 1 := by omega
    have gt2 : ¬ gt = w.heap.size + 1 + 1 := by omega
    have HRN := Lib.hid hrn
    have HBZ := Lib.hid (show w3.heap.size ≤ w6.heap.size ∧ w3.heap.size ≤ gt ∧ gt < w6.heap.size ∧ w.heap.size + 1 + 1 < w3.heap.size from ⟨z6, hgb, gtl, zV⟩)
    have KS := Lib.hid (show ∀ V, Aft X0 V → (V.cell? ⟨w.heap.size + 1, 2, none⟩ = some (.slice Ac r.cols.length cc) ∧ V.frozen? ⟨w.heap.size + 1, 2, none⟩ = false ∧ w.heap.size + 1 < V.heap.size) from fun V a => ⟨((KR1.out X0 HAX.out).aft a).cell (j := 2) rfl, ((KR1.out X0 HAX.out).aft a).2.2 2 (by simp), ((KR1.out X0 HAX.out).aft a).1⟩)
    have KY2 := Lib.hid (show ∀ V, Kb (fun g => g = w.heap.size + 1) X0 V → (V.cell? ⟨w.heap.size + 1 + 1, 0, none⟩ = some (.slice none 0 0) ∧ V.cell? ⟨w.heap.size + 1 + 1, 1, none⟩ = some (.slice none 0 0) ∧ V.frozen? ⟨w.heap.size + 1 + 1, 0, none⟩ = false ∧ V.frozen? ⟨w.heap.size + 1 + 1, 1, none⟩ = false ∧ w.heap.size + 1 + 1 < V.heap.size) from fun V k => by
      have z := k.row (KB.out X0 HAX.out) (fun e => by have e : w.heap.size + 1 + 1 = w.heap.size + 1 := e; omega)
      exact ⟨z.cell (j := 0) rfl, z.cell (j := 1) rfl, z.2.2 0 (by simp), z.2.2 1 (by simp), z.1⟩)
    have t2 := (KF.out _ (HA3.out.trans a6)).2.1.2.2.1
    have tz := (KF.out _ (HA3.out.trans a6)).2.1.2.2.2.2.2.2.2.2
    clear ob ob0 hL htq hrq hrn hrv a6 a60 rX hi2 hz0 hz1 hz2 hgt HTT hgb gtl
    go_wp2_with (at_builtin; go_must (refine wpList_append_new _ rfl _ _ 27 rfl 9 i2 _ 1 16 Tryz.underlying27 KI.out KZ0.out KZ1.out KZ2.out rfl (by decide) rfl Ac r.cols.length cc (r.cols.flatMap nameC) rfl (nameC_len _) HNN.out ?qc (oneC_cells oneC_name _) hq1 hq2 ?_); rotate_left; intro Dn cn w7 own7 a7; have a7 : Aft X0 w7 := (by rw [hX]; exact a7); have own7 : w7.ownsRow X0.heap.size 9 1 (Hd.mk Dn r.cols.length cn).v r.cols.length (r.cols.flatMap nameC) := (by rw [hX]; exact own7); obtain ⟨s2, sf, sz⟩ := KS.out w7 a7; have HA7 := Lib.hid a7; have HO7 := Lib.hid own7; clear a7 own7)
    case qc => rw [← hX]; exact HNC.out
    obtain ⟨Z, hZ⟩ : ∃ Z, Z = w7.setCell ⟨w.heap.size + 1, 2, none⟩ (.slice Dn r.cols.length cn) := ⟨_, rfl⟩
    have HKZ := Lib.hid (show Kb (fun g => g = w.heap.size + 1) w7 Z by rw [hZ]; exact Kb.set _ _ _ _)
    have rZ : RowAt Z (w.heap.size + 1) [.string r.name, .int .i64 r.kind, .slice Dn r.cols.length cn, .int .i64 r.low, .int .i64 r.high, .string r.schema, .string r.table, .string r.key] := by rw [hZ]; exact ((KR1.out X0 HAX.out).aft HA7.out).set 2 _ (by simp)
    have KRZ := Lib.hid (show ∀ V, Aft Z V → (V.cell? ⟨w.heap.size + 1, 0, none⟩ = some (.string r.name) ∧ V.cell? ⟨w.heap.size + 1, 1, none⟩ = some (.int .i64 r.kind) ∧ V.cell? ⟨w.heap.size + 1, 2, none⟩ = some (.slice Dn r.cols.length cn) ∧ V.cell? ⟨w.heap.size + 1, 3, none⟩ = some (.int .i64 r.low) ∧ V.cell? ⟨w.heap.size + 1, 4, none⟩ = some (.int .i64 r.high) ∧ V.cell? ⟨w.heap.size + 1, 5, none⟩ = some (.string r.schema) ∧ V.cell? ⟨w.heap.size + 1, 6, none⟩ = some (.string r.table) ∧ V.cell? ⟨w.heap.size + 1, 7, none⟩ = some (.string r.key) ∧ w.heap.size + 1 < V.heap.size) from fun V a => by
      have p := rZ.aft a
      exact ⟨p.cell (j := 0) rfl, p.cell (j := 1) rfl, p.cell (j := 2) rfl, p.cell (j := 3) rfl, p.cell (j := 4) rfl, p.cell (j := 5) rfl, p.cell (j := 6) rfl, p.cell (j := 7) rfl, p.1⟩)
    have KZ := Lib.hid (show ∀ V, Aft Z V → Kb (fun g => g = w.heap.size + 1) X0 V from fun V a => ((Kb.of_aft HA7.out).trans HKZ.out).trans (Kb.of_aft a))
    have KEND := Lib.hid (show ∀ wr h, GrR Z wr h (insAt L[q].rules pp ⟨r, ⟨Dn, r.cols.length, cn⟩⟩) → _ from fun wr h g => KE.out ⟨Dn, r.cols.length, cn⟩ w7 Z wr h HA7.out HO7.out HKZ.out g)
    clear rZ s2 sf sz KE HNC HNN t2 tz
    rw [← hZ]
    clear hZ hX
    go_loopw [15, 16, 17] (fun u15 u16 u17 wr => ∃ (k : Nat) (h : Hd), u15 = .slice h.a (insK L[q].rules pp ⟨r, ⟨Dn, r.cols.length, cn⟩⟩ k).length h.c ∧ u16 = .bool (decide (pp < k)) ∧ u17 = .int .i64 k ∧ k ≤ L[q].rules.length ∧ GrR Z wr h (insK L[q].rules pp ⟨r, ⟨Dn, r.cols.length, cn⟩⟩ k)) (fun _ _ u17 _ => L[q].rules.length - (intOf u17).toNat)
    case atStart => exact ⟨0, ⟨none, 0, 0⟩, by rw [insK_zero]; rfl, by rw [decide_eq_false (Nat.not_lt_zero pp)], rfl, Nat.zero_le _, by rw [insK_zero]; exact GrR.start Z⟩
    case round =>
      obtain ⟨k, h, rfl, rfl, rfl, hk, hg⟩ := hrel
      have HG := Lib.hid hg
      have hdl := insK_len L[q].rules pp ⟨r, ⟨Dn, r.cols.length, cn⟩⟩ k hk
      have hrn := HRN.out
      obtain ⟨⟨q0, q1, qz⟩, ⟨d4, f4, dz⟩⟩ := KX.out wr (KZ.out wr hg.1)
      obtain ⟨e0, e1, e2, e3, e4, e5, e6, e7, ez⟩ := KRZ.out wr hg.1
      clear hg
      by_cases hlt : k < L[q].rules.length
      · obtain ⟨g, hga, hce, kl⟩ := KL.out k hlt
        obtain ⟨x, hx⟩ : ∃ x, L[q].rules[k] = x := ⟨_, rfl⟩
        have HLE := HTK.out k hlt
        rw [hx] at hce kl HLE
        have HX3 := Lib.hid hx
        have HCE := Lib.hid hce
        have HKL := Lib.hid kl
        rw [hga] at d4
        obtain ⟨m0, m1, m2, m3, m4, m5, m6, m7, mz⟩ := kl wr (KZ.out wr HG.out.1)
        have hb0 : (0 : Int) ≤ (k : Int) := by omega
        have hb1 : (k : Int) < (L[q].rules.length : Int) := by omega
        have zz1 : w.heap.size + 1 < wr.heap.size + 1 := by omega
        have zz2 : g < wr.heap.size + 1 := by omega
        clear hx hce kl hga
        rcases Nat.lt_trichotomy k pp with hc | hc | hc
        · have hp1 : decide (pp < k) = false := decide_eq_false (by omega)
          have h2' : ltS r.name x.r.name = false := HLE.trans (decide_eq_false (by omega))
          have h1' : Op.bytesLess r.name.toList x.r.name.toList = false := h2'
          have HD := Lib.hid (show decide (pp < k + 1) = false from decide_eq_false (by omega))
          have HN := Lib.hid (show insK L[q].rules pp ⟨r, ⟨Dn, r.cols.length, cn⟩⟩ (k + 1) = insK L[q].rules pp ⟨r, ⟨Dn, r.cols.length, cn⟩⟩ k ++ [x] from by rw [insK_lt _ _ _ _ hlt hc, HX3.out])
          obtain ⟨lk, hlk⟩ : ∃ lk, insK L[q].rules pp ⟨r, ⟨Dn, r.cols.length, cn⟩⟩ k = lk := ⟨_, rfl⟩
          rw [hlk] at HG HN hdl ⊢
          rw [hp1]
          have hq8 : lk.length ≤ 1000000 := by omega
          clear h2' hp1 hc hlk HLE
          go_wp2_with (at_builtin; go_must (refine app_rul rfl _ _ rfl Z.heap.size (.slice h.a lk.length h.c) lk.length (lk.flatMap ORul.cells) rfl (own_aft HG.out.own (((Aft.refl wr).alloc _).alloc _)) _ x x.h.a x.r.cols.length x.h.c HCE.out rfl ?qh hq8 ?qa ?_); rotate_left 2; intro gg cap' w5 hown5 hgrow; have HG5 := Lib.hid (HG.out.grow (((Aft.refl wr).alloc _).alloc _) hown5 hgrow); clear hown5 hgrow)
          case qh => first | exact heap_alloc_new _ _ | simpa using heap_alloc_new (wr.alloc (.cells #[.string x.r.name, .int .i64 x.r.kind, .slice x.h.a x.r.cols.length x.h.c, .int .i64 x.r.low, .int .i64 x.r.high, .string x.r.schema, .string x.r.table, .string x.r.key] 29)) _
          case qa => have := HG.out.1.size; simp; omega
          go_roundw
          case rel => exact ⟨k + 1, ⟨some ⟨gg, 0, none⟩, lk.length + 1, cap'⟩, by rw [HN.out]; simp, by rw [HD.out], by go_num, by omega, by rw [HN.out]; exact HG5.out⟩
          case measure => simp [intOf]; omega
        · subst hc
          have hp1 : decide (k < k) = false := decide_eq_false (by omega)
          have h2' : ltS r.name x.r.name = true := HLE.trans (decide_eq_true (Nat.le_refl _))
          have h1' : Op.bytesLess r.name.toList x.r.name.toList = true := h2'
          have HD := Lib.hid (show decide (k < k + 1) = true from decide_eq_true (by omega))
          have HN := Lib.hid (show insK L[q].rules k ⟨r, ⟨Dn, r.cols.length, cn⟩⟩ (k + 1) = insK L[q].rules k ⟨r, ⟨Dn, r.cols.length, cn⟩⟩ k ++ [⟨r, ⟨Dn, r.cols.length, cn⟩⟩] ++ [x] from by rw [insK_at _ _ _ hlt, HX3.out])
          obtain ⟨lk, hlk⟩ : ∃ lk, insK L[q].rules k ⟨r, ⟨Dn, r.cols.length, cn⟩⟩ k = lk := ⟨_, rfl⟩
          rw [hlk] at HG HN hdl ⊢
          rw [hp1]
          have hq8 : lk.length ≤ 1000000 := by omega
          have hq9 : (lk ++ [(⟨r, ⟨Dn, r.cols.length, cn⟩⟩ : ORul)]).length ≤ 1000000 := by simp; omega
          have KB10 := Lib.hid (show ∀ V V', Aft (wr.alloc (.cells #[.string x.r.name, .int .i64 x.r.kind, .slice x.h.a x.r.cols.length x.h.c, .int .i64 x.r.low, .int .i64 x.r.high, .string x.r.schema, .string x.r.table, .string x.r.key] 29)) V → V.grownBy V' (Value.slice h.a lk.length h.c).ownBlock → RowAt V' wr.heap.size [.string x.r.name, .int .i64 x.r.kind, .slice x.h.a x.r.cols.length x.h.c, .int .i64 x.r.low, .int .i64 x.r.high, .string x.r.schema, .string x.r.table, .string x.r.key] from fun V V' a hg => by
            have r9 := (box_row2 (w := wr) (c := [.string x.r.name, .int .i64 x.r.kind, .slice x.h.a x.r.cols.length x.h.c, .int .i64 x.r.low, .int .i64 x.r.high, .string x.r.schema, .string x.r.table, .string x.r.key]) (t := 29) (Aft.refl _)).aft a
            exact (Kb.of_grown hg).row r9 (fun e => by have := (HG.out.own.lt _ e).2; omega))
          clear h2' hp1 hlk HLE
          go_wp2_with (first
            | (at_builtin; (refine app_rul rfl _ _ rfl Z.heap.size (.slice h.a lk.length h.c) lk.length (lk.flatMap ORul.cells) rfl (own_aft HG.out.own (((Aft.refl wr).alloc _).alloc _)) _ ⟨r, ⟨Dn, r.cols.length, cn⟩⟩ Dn r.cols.length cn rfl rfl ?qi hq8 ?qb ?_); rotate_left 2; intro gg cap' w5 hown5 hgrow; have HG5 := Lib.hid (HG.out.grow (((Aft.refl wr).alloc _).alloc _) hown5 hgrow); have r8 := KB10.out _ _ ((Aft.refl _).alloc _) hgrow; have v0 := r8.cell (j := 0) rfl; have v1 := r8.cell (j := 1) rfl; have v2 := r8.cell (j := 2) rfl; have v3 := r8.cell (j := 3) rfl; have v4 := r8.cell (j := 4) rfl; have v5 := r8.cell (j := 5) rfl; have v6 := r8.cell (j := 6) rfl; have v7 := r8.cell (j := 7) rfl; have vz := r8.1; clear hown5 hgrow r8)
            | (at_builtin; go_must (refine app_rul rfl _ _ rfl Z.heap.size (.slice (some ⟨gg, 0, none⟩) (lk.length + 1) cap') (lk ++ [(⟨r, ⟨Dn, r.cols.length, cn⟩⟩ : ORul)]).length ((lk ++ [(⟨r, ⟨Dn, r.cols.length, cn⟩⟩ : ORul)]).flatMap ORul.cells) rfl (own_aft HG5.out.2 ((Aft.refl w5).alloc _)) _ x x.h.a x.r.cols.length x.h.c HCE.out rfl ?qj hq9 ?qd ?_); rotate_left 2; intro gg2 cap2' w6' hown6 hgrow6; have HG6 := Lib.hid (HG5.out.grow ((Aft.refl w5).alloc _) hown6 hgrow6); clear hown6 hgrow6))
          case qi => first | exact heap_alloc_new _ _ | simpa using heap_alloc_new (wr.alloc (.cells #[.string x.r.name, .int .i64 x.r.kind, .slice x.h.a x.r.cols.length x.h.c, .int .i64 x.r.low, .int .i64 x.r.high, .string x.r.schema, .string x.r.table, .string x.r.key] 29)) _
          case qj => exact heap_alloc_new _ _
          case qb => have := HG.out.1.size; simp; omega
          case qd => have := HG5.out.1.size; simp; omega
          go_roundw
          case rel => exact ⟨k + 1, ⟨some ⟨gg2, 0, none⟩, (lk ++ [(⟨r, ⟨Dn, r.cols.length, cn⟩⟩ : ORul)]).length + 1, cap2'⟩, by rw [HN.out]; simp, by rw [HD.out], by go_num, by omega, by rw [HN.out]; exact HG6.out⟩
          case measure => simp [intOf]; omega
        · have hp1 : decide (pp < k) = true := decide_eq_true (by omega)
          have HD := Lib.hid (show decide (pp < k + 1) = true from decide_eq_true (by omega))
          have HN := Lib.hid (show insK L[q].rules pp ⟨r, ⟨Dn, r.cols.length, cn⟩⟩ (k + 1) = insK L[q].rules pp ⟨r, ⟨Dn, r.cols.length, cn⟩⟩ k ++ [x] from by rw [insK_gt _ _ _ _ hlt hc, HX3.out])
          obtain ⟨lk, hlk⟩ : ∃ lk, insK L[q].rules pp ⟨r, ⟨Dn, r.cols.length, cn⟩⟩ k = lk := ⟨_, rfl⟩
          rw [hlk] at HG HN hdl ⊢
          rw [hp1]
          have hq8 : lk.length ≤ 1000000 := by omega
          clear hp1 hc hlk HLE
          go_wp2_with (at_builtin; go_must (refine app_rul rfl _ _ rfl Z.heap.size (.slice h.a lk.length h.c) lk.length (lk.flatMap ORul.cells) rfl (own_aft HG.out.own (((Aft.refl wr).alloc _).alloc _)) _ x x.h.a x.r.cols.length x.h.c HCE.out rfl ?qk hq8 ?qe ?_); rotate_left 2; intro gg cap' w5 hown5 hgrow; have HG5 := Lib.hid (HG.out.grow (((Aft.refl wr).alloc _).alloc _) hown5 hgrow); clear hown5 hgrow)
          case qk => first | exact heap_alloc_new _ _ | simpa using heap_alloc_new (wr.alloc (.cells #[.string x.r.name, .int .i64 x.r.kind, .slice x.h.a x.r.cols.length x.h.c, .int .i64 x.r.low, .int .i64 x.r.high, .string x.r.schema, .string x.r.table, .string x.r.key] 29)) _
          case qe => have := HG.out.1.size; simp; omega
          go_roundw
          case rel => exact ⟨k + 1, ⟨some ⟨gg, 0, none⟩, lk.length + 1, cap'⟩, by rw [HN.out]; simp, by rw [HD.out], by go_num, by omega, by rw [HN.out]; exact HG5.out⟩
          case measure => simp [intOf]; omega
      · have hk3 : k = L[q].rules.length := by omega
        subst hk3
        have hFF : chgR o (tabR o s n (addRulF o.tables r)) = (⟨o.schemas, o.tables.set q { p with rules := insAt p.rules pp r }⟩, 0) := by
          rw [HE.out]
          simp only [if_true]
          rw [HE2.out, HEF.out]
          simp only [Bool.not_true, Bool.not_false, Bool.or_self, Bool.or_false, Bool.false_or, Bool.true_or, Bool.or_true, Bool.false_eq_true, if_false, if_true, if_neg (show ¬ 0 ≤ j by have := HJ.out; omega), if_neg H8.out]
          rw [KY.out]
          simp
        have K5 := Lib.hid (show ∀ (V : World) (h5 : Hd) (n5 : Nat), GrR Z V h5 (insAt L[q].rules pp ⟨r, ⟨Dn, r.cols.length, cn⟩⟩) → n5 = h5.n → ((V.cell? ⟨w6.heap.size, 0, none⟩ = some (.slice hs.a o.schemas.length hs.c) ∧ V.cell? ⟨w6.heap.size, 1, none⟩ = some (.slice (some ⟨gt, 0, none⟩) o.tables.length ct) ∧ w6.heap.size < V.heap.size) ∧ (V.cell? ⟨gt, q * 5 + 4, none⟩ = some (.slice L[q].hr.a L[q].rules.length L[q].hr.c) ∧ V.frozen? ⟨gt, q * 5 + 4, none⟩ = false ∧ gt < V.heap.size)) ∧ (V.cell? ⟨w.heap.size + 1 + 1, 0, none⟩ = some (.slice none 0 0) ∧ V.cell? ⟨w.heap.size + 1 + 1, 1, none⟩ = some (.slice none 0 0) ∧ V.frozen? ⟨w.heap.size + 1 + 1, 0, none⟩ = false ∧ V.frozen? ⟨w.heap.size + 1 + 1, 1, none⟩ = false ∧ w.heap.size + 1 + 1 < V.heap.size) ∧
          Hid (RowAt (V.setCell ⟨gt, q * 5 + 4, none⟩ (.slice h5.a n5 h5.c)) (w.heap.size + 1 + 1) [.slice none 0 0, .slice none 0 0] ∧ ObjP w (chgR o (tabR o s n (addRulF o.tables r))) (.returned (.tuple #[.agg #[.slice hs.a o.schemas.length hs.c, .slice (some ⟨gt, 0, none⟩) o.tables.length ct], .int .i64 0])) (((V.setCell ⟨gt, q * 5 + 4, none⟩ (.slice h5.a n5 h5.c)).setCell ⟨w.heap.size + 1 + 1, 0, none⟩ (.slice hs.a o.schemas.length hs.c)).setCell ⟨w.heap.size + 1 + 1, 1, none⟩ (.slice (some ⟨gt, 0, none⟩) o.tables.length ct))) from fun V h5 n5 g hn5 => by
          subst hn5
          obtain ⟨c1, c2, c3, c4⟩ := KEND.out V h5 g
          refine ⟨KX.out V (KZ.out V g.1), KY2.out V (KZ.out V g.1), Lib.hid ⟨c4, ?_⟩⟩
          rw [hFF]
          refine objP_set (W := w3) c1 (L := L.set q { L[q] with rules := insAt L[q].rules pp ⟨r, ⟨Dn, r.cols.length, cn⟩⟩, hr := h5 }) ?_ c2 (by omega) HBZ.out.2.2.2 (by simp)
          rw [List.map_set, HL.out, ← HTQ.out]
          congr 1
          unfold OTab.t
          simp only
          rw [map_insAt])
        clear hFF
        rcases Nat.lt_or_ge pp L[q].rules.length with hc | hc
        · have hp1 : decide (pp < L[q].rules.length) = true := decide_eq_true hc
          rw [insK_end _ _ _ hc] at HG ⊢
          rw [hp1]
          obtain ⟨A5, n5, c5⟩ := h
          have hv5 := own_slice HG.out.2
          simp only [Hd.v, Value.slice.injEq, true_and, and_true] at hv5
          subst hv5
          obtain ⟨⟨⟨q0, q1, qz⟩, ⟨d4, f4, dz⟩⟩, ⟨y0, y1, y2, y3, yz⟩, HX9⟩ := K5.out wr ⟨A5, _, c5⟩ _ HG.out rfl
          clear hp1 hc
          go_wp2_with fail
          refine bodyPost_ret (results_cell_tmp (v := .agg #[.slice hs.a o.schemas.length hs.c, .slice (some ⟨gt, 0, none⟩) o.tables.length ct]) rfl _ rfl (lvObj_row (setO_row HX9.out.1 rfl _ _))) rfl ?_
          exact HX9.out.2
        · have hpe : pp = L[q].rules.length := by omega
          subst hpe
          have hp1 : decide (L[q].rules.length < L[q].rules.length) = false := decide_eq_false (by omega)
          have HN := Lib.hid (insK_end' L[q].rules (⟨r, ⟨Dn, r.cols.length, cn⟩⟩ : ORul))
          obtain ⟨lk, hlk⟩ : ∃ lk, insK L[q].rules L[q].rules.length ⟨r, ⟨Dn, r.cols.length, cn⟩⟩ L[q].rules.length = lk := ⟨_, rfl⟩
          rw [hlk] at HG HN hdl ⊢
          rw [hp1]
          have hq8 : lk.length ≤ 1000000 := by omega
          clear hp1 hlk hc
          go_wp2_with (at_builtin; go_must (refine app_rul rfl _ _ rfl Z.heap.size (.slice h.a lk.length h.c) lk.length (lk.flatMap ORul.cells) rfl (own_aft HG.out.own ((Aft.refl wr).alloc _)) _ ⟨r, ⟨Dn, r.cols.length, cn⟩⟩ Dn r.cols.length cn rfl rfl ?ql hq8 ?qf ?_); rotate_left 2; intro gg cap' w5 hown5 hgrow; have HG5 := Lib.hid (HG.out.grow ((Aft.refl wr).alloc _) hown5 hgrow); obtain ⟨⟨⟨q0, q1, qz⟩, ⟨d4, f4, dz⟩⟩, ⟨y0, y1, y2, y3, yz⟩, HX9⟩ := K5.out w5 ⟨some ⟨gg, 0, none⟩, lk.length + 1, cap'⟩ (lk.length + 1) (HN.out ▸ HG5.out) rfl; clear hown5 hgrow)
          case ql => first | exact heap_alloc_new _ _ | exact (Array.getElem?_eq_some_iff.1 (heap_alloc_new _ _)).2
          case qf => have := HG.out.1.size; simp; omega
          refine bodyPost_ret (results_cell_tmp (v := .agg #[.slice hs.a o.schemas.length hs.c, .slice (some ⟨gt, 0, none⟩) o.tables.length ct]) rfl _ rfl (lvObj_row (setO_row HX9.out.1 rfl _ _))) rfl ?_
          exact HX9.out.2
end Go.Proofs.YticjnndhpfdajaaGreat
