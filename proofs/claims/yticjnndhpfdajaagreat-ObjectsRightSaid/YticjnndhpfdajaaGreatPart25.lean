/- Contracts of the program, part 25. -/
import Derived.Test.YticjnndhpfdajaaGreatPart22
import Derived.Test.YticjnndhpfdajaaGreatPart24
import Derived.Test.YticjnndhpfdajaaGreatPart23
/- The law ObjectsSchemas. -/
namespace Go.Proofs.YticjnndhpfdajaaGreat
open Go.RowKit Go.Deep
set_option maxRecDepth 100000
set_option linter.unusedVariables false
theorem smO_addSch {o : Objs} {nm ow : ByteArray} (h : SmO o) (h1 : Small nm.size) (h2 : Small ow.size) : SmO (addSchR nm ow o).1 := by
  unfold addSchR
  split
  · exact smO_zero
  · split
    · exact smO_zero
    · split
      · exact smO_zero
      · rename_i h3 h4 h5
        refine ⟨⟨?_, fun s hs => ?_⟩, h.2⟩
        · show Small ((insAt _ _ _).length * 16)
          rw [insAt_len _ _ _ (posB_le _ _ _)]; unfold Small; omega
        · rcases mem_insAt.1 hs with e | e
          · rw [e]; exact ⟨h1, h2⟩
          · exact h.1.2 s e
theorem smO_dropSch {o : Objs} {nm : ByteArray} (h : SmO o) : SmO (dropSchR nm o).1 := by
  unfold dropSchR
  split
  · exact smO_zero
  · split
    · exact smO_zero
    · exact ⟨⟨Nat.le_trans (Nat.mul_le_mul_right _ (List.length_eraseIdx_le _ _)) h.1.1, fun s hs => h.1.2 s (List.mem_of_mem_eraseIdx hs)⟩, h.2⟩
theorem small7 (b : UInt8) : Small (ByteArray.size ⟨#[b]⟩) := by simp [Small, ByteArray.size]
theorem ex_addSch : chgR oneO (addSchR ⟨#[97]⟩ ⟨#[111]⟩ oneO) = (⟨[⟨⟨#[97]⟩, ⟨#[111]⟩⟩, ⟨⟨#[115]⟩, ⟨#[111]⟩⟩], oneO.tables⟩, 0) := by
  unfold chgR addSchR
  rw [oneO_ok, show nameB ⟨#[97]⟩ = true by decide +kernel, show nameB ⟨#[111]⟩ = true by decide +kernel, show schAt oneO.schemas ⟨#[97]⟩ = -1 by decide +kernel, show posB cmpSc oneO.schemas ⟨⟨#[97]⟩, ⟨#[111]⟩⟩ = 0 by decide +kernel]
  rfl
theorem ex_dropSch : chgR oneO (dropSchR ⟨#[115]⟩ oneO) = (zeroO, 62) := by
  unfold chgR dropSchR
  rw [oneO_ok, show schAt oneO.schemas ⟨#[115]⟩ = 0 by decide +kernel, show within oneO.tables ⟨#[115]⟩ = 1 by decide +kernel]
  rfl
/-- objects of two schemas, as they lie -/
def TwoP (w : World) (e : Ending) (w' : World) : Prop :=
  ∃ gs cs T cT, e = .returned (.tuple #[.agg #[.slice (some ⟨gs, 0, none⟩) 2 cs, .slice T 1 cT], .int .i64 0]) ∧ Aft w w' ∧ gs < w'.heap.size ∧ w'.cell? ⟨gs, 0, none⟩ = some (.string ⟨#[97]⟩)
theorem add_one (As : Option Addr) (caps : Nat) (At : Option Addr) (capt : Nat) (w : World) (h1 : SlAt w 2 SchR As caps oneO.schemas) (h2 : SlAt w 5 TabR At capt oneO.tables) :
    Calls Tryz.prog 23 #[.agg #[.slice As 1 caps, .slice At 1 capt], .string ⟨#[97]⟩, .string ⟨#[111]⟩] w (TwoP w) := by
  refine (addSchema_in oneO As caps At capt ⟨#[97]⟩ ⟨#[111]⟩ w h1 h2 (small7 _) (small7 _)).mono fun e w' h => ?_
  rw [ex_addSch] at h
  obtain ⟨hs, ht, L, hL, he, a, ob⟩ := h
  obtain ⟨gs, hgs, _, hr⟩ := own_place ob.sch (by simp)
  refine ⟨gs, hs.c, ht.a, ht.c, ?_, a, hr.1, hr.cell (j := 0) rfl⟩
  rw [he, hgs]; rfl
theorem drop_one (As : Option Addr) (caps : Nat) (At : Option Addr) (capt : Nat) (w : World) (h1 : SlAt w 2 SchR As caps oneO.schemas) (h2 : SlAt w 5 TabR At capt oneO.tables) :
    Calls Tryz.prog 26 #[.agg #[.slice As 1 caps, .slice At 1 capt], .string ⟨#[115]⟩] w (ErrP w 62) :=
  (dropSchema_in oneO As caps At capt ⟨#[115]⟩ w h1 h2).mono fun e w' h => objP_err (by rw [ex_dropSch] at h; exact h)
set_option maxHeartbeats 4000000 in
theorem schemas_any (w : World) : Calls Tryz.prog 28 #[] w fun e w' => e = .returned (.bool true) ∧ Aft w w' := by
  go_enter Tryz.func28, Tryz.ntmps28
  go_wp2_with fail
  refine (one_any _).mono ?_
  rintro e w1 ⟨As, caps, At, capt, rfl, a1, h1, h2⟩
  have C1 := Lib.hid (add_one As caps At capt w1 h1 h2)
  have HA1 := Lib.hid a1
  clear a1 h1 h2
  go_wp2_with fail
  refine C1.out.mono ?_
  rintro e w2 ⟨gs, cs, T, cT, rfl, a2, z1, x0⟩
  have HA2 := Lib.hid (HA1.out.trans a2)
  clear a2 C1
  go_wp2_with fail
  refine (one_any _).mono ?_
  rintro e w3 ⟨As, caps, At, capt, rfl, a3, h1, h2⟩
  have rb := box_row2 (c := [.slice (some ⟨gs, 0, none⟩) 2 cs, .slice T 1 cT]) a3
  have a23 := ((Aft.refl w2).alloc _).trans a3
  have x0 := a23.cell_kept x0
  have z1 := Nat.lt_of_lt_of_le z1 a23.size
  have C2 := Lib.hid (drop_one As caps At capt w3 h1 h2)
  have HA3 := Lib.hid (HA2.out.trans a23)
  have HB := Lib.hid rb
  clear a3 h1 h2 rb a23
  go_wp2_with fail
  refine C2.out.mono ?_
  rintro e w4 ⟨S2, cS2, T2, cT2, rfl, a4⟩
  have x0 := a4.cell_kept x0
  have z1 := Nat.lt_of_lt_of_le z1 a4.size
  have rb := HB.out.aft a4
  have b0 := rb.cell (j := 0) rfl
  have bz := rb.1
  have HA4 := Lib.hid (HA3.out.trans a4)
  have zz1 : gs < w4.heap.size + 1 := by omega
  have zz2 : w2.heap.size < w4.heap.size + 1 := by omega
  clear a4 C2 rb
  go_wp2_with fail
  go_ret
  exact ⟨rfl, HA4.out.alloc _⟩
end Go.Proofs.YticjnndhpfdajaaGreat
/- ObjectsRules: plain facts for the law. -/
namespace Go.Proofs.YticjnndhpfdajaaGreat
open Go.RowKit Go.Deep
set_option maxRecDepth 100000
set_option linter.unusedVariables false
theorem smO_chgX {o : Objs} {r : Objs × Int} (h : checkO o = true → SmO r.1) : SmO (chgR o r).1 := by
  unfold chgR
  split
  · rename_i h1; exact h h1
  · exact smO_zero
theorem smO_tabX {o : Objs} {s n : ByteArray} {f : Tab → Tab × Int} (h : SmO o) (hf : ∀ t ∈ o.tables, (f t).2 = 0 → SmT (f t).1) : SmO (tabR o s n f).1 := by
  unfold tabR
  split
  · rename_i t ht
    split
    · exact smO_zero
    · split
      · rename_i h0
        exact smO_set h (hf t (List.mem_of_getElem? ht) h0)
      · exact smO_zero
  · exact smO_zero
theorem smT_rules {t : Tab} {l : List Rul} (h : SmT t) (h1 : Small (l.length * 16)) (h2 : ∀ r ∈ l, SmR r) : SmT { t with rules := l } := ⟨h.1, ⟨h1, h2⟩, h.2.2.1, h.2.2.2.1, h.2.2.2.2⟩
theorem smT_addRul {ts : List Tab} {r : Rul} {t : Tab} (h : SmT t) (hr : SmR r) (hz : (addRulF ts r t).2 = 0) : SmT (addRulF ts r t).1 := by
  unfold addRulF at hz ⊢
  split
  · exact h
  · split
    · exact h
    · split
      · exact h
      · rename_i h8
        split
        · exact h
        · refine smT_rules h ?_ fun y hy => ?_
          · show Small ((insAt _ _ _).length * 16)
            rw [insAt_len _ _ _ (posB_le _ _ _)]; unfold Small; omega
          · rcases mem_insAt.1 hy with e | e
            · rw [e]; exact hr
            · exact h.2.1.2 y e
theorem smT_dropRul {ts : List Tab} {s n name : ByteArray} {t : Tab} (h : SmT t) : SmT (dropRulF ts s n name t).1 := by
  unfold dropRulF
  split
  · exact h
  · split
    · exact h
    · exact smT_rules h (Nat.le_trans (Nat.mul_le_mul_right _ (List.length_eraseIdx_le _ _)) h.2.1.1) fun y hy => h.2.1.2 y (List.mem_of_mem_eraseIdx hy)
/-- the rule f of the example; the one that does not go with the key -/
def ruF (c : ByteArray) : Rul := ⟨⟨#[102]⟩, 4, [c], 0, 0, ⟨#[115]⟩, ⟨#[116]⟩, ⟨#[107]⟩⟩
def oneF : Objs := ⟨oneO.schemas, [{ (oneO.tables[0]'(by decide)) with rules := ruF ⟨#[120]⟩ :: (oneO.tables[0]'(by decide)).rules }]⟩
theorem one_tab : tabAt oneO.tables ⟨#[115]⟩ ⟨#[116]⟩ = ((0 : Nat) : Int) := by decide +kernel
theorem oneF_tab : tabAt oneF.tables ⟨#[115]⟩ ⟨#[116]⟩ = ((0 : Nat) : Int) := by decide +kernel
theorem ex_addRul : chgR oneO (tabR oneO ⟨#[115]⟩ ⟨#[116]⟩ (addRulF oneO.tables (ruF ⟨#[120]⟩))) = (oneF, 0) := by
  have h : addRulF oneO.tables (ruF ⟨#[120]⟩) (oneO.tables[0]'(by decide)) = ({ (oneO.tables[0]'(by decide)) with rules := ruF ⟨#[120]⟩ :: (oneO.tables[0]'(by decide)).rules }, 0) := by
    have hp : posB cmpRl (oneO.tables[0]'(by decide)).rules (ruF ⟨#[120]⟩) = 0 := by decide +kernel
    unfold addRulF
    rw [if_neg (by decide +kernel), if_neg (by decide +kernel), if_neg (by decide +kernel), if_neg (by decide +kernel), hp]
    rfl
  unfold chgR
  rw [oneO_ok, if_pos rfl, tabR_some one_tab (by decide), h]
  rfl
theorem ex_addRul2 : chgR oneO (tabR oneO ⟨#[115]⟩ ⟨#[116]⟩ (addRulF oneO.tables (ruF ⟨#[121]⟩))) = (zeroO, (63 : Int)) := by
  have h : addRulF oneO.tables (ruF ⟨#[121]⟩) (oneO.tables[0]'(by decide)) = ((oneO.tables[0]'(by decide)), 63) := by
    have hk : keyE oneO.tables (oneO.tables[0]'(by decide)).cols (ruF ⟨#[121]⟩) = 63 := by decide +kernel
    unfold addRulF
    rw [if_neg (by decide +kernel), if_neg (by decide +kernel), if_neg (by decide +kernel), if_pos (by decide +kernel), hk]
  unfold chgR
  rw [oneO_ok, if_pos rfl, tabR_some one_tab (by decide), h]
  rfl
theorem oneF_ok : checkO oneF = true := by decide +kernel
theorem ex_dropRul : chgR oneF (tabR oneF ⟨#[115]⟩ ⟨#[116]⟩ (dropRulF oneF.tables ⟨#[115]⟩ ⟨#[116]⟩ ⟨#[107]⟩)) = (zeroO, (62 : Int)) := by
  have h : dropRulF oneF.tables ⟨#[115]⟩ ⟨#[116]⟩ ⟨#[107]⟩ (oneF.tables[0]'(by decide)) = ((oneF.tables[0]'(by decide)), 62) := by
    unfold dropRulF
    rw [if_neg (by decide +kernel), if_pos (by decide +kernel)]
  unfold chgR
  rw [oneF_ok, if_pos rfl, tabR_some oneF_tab (by decide), h]
  rfl
end Go.Proofs.YticjnndhpfdajaaGreat
/- objects.changed, objects.tableChanged, where the closure may write boxes that were made ahead. -/
namespace Go.Proofs.YticjnndhpfdajaaGreat
open Go.RowKit Go.Deep
set_option maxRecDepth 100000
set_option linter.unusedVariables false
theorem Kb.onto {P X : Nat → Prop} {W w w' : World} (h : Kb P w w') (a : Kb X W w) (hP : ∀ k, k < W.heap.size → P k → X k) : Kb X W w' :=
  ⟨h.os.trans a.os, h.tape.trans a.tape, h.output.trans a.output, Nat.le_trans a.size h.size, fun k hk hn => (h.block k (Nat.lt_of_lt_of_le hk a.size) (fun p => hn (hP k hk p))).trans (a.block k hk hn)⟩
/-- what a change makes of our own objects, and of the boxes that X names -/
def DoPX (X : Nat → Prop) (w : World) (B n3 : Nat) (r : Objs × Int) (e : Ending) (w' : World) : Prop :=
  e = .returned (.int .i64 r.2) ∧ Kb (fun g => B ≤ g ∨ X g) w w' ∧ (r.2 = 0 → ∃ hs ht L, L.map OTab.t = r.1.tables ∧ ObjIn w' B hs ht r.1.schemas L ∧ RowAt w' n3 [.slice hs.a r.1.schemas.length hs.c, .slice ht.a r.1.tables.length ht.c])
def ObjPX (X : Nat → Prop) (w : World) (r : Objs × Int) (e : Ending) (w' : World) : Prop :=
  ∃ hs ht L, L.map OTab.t = r.1.tables ∧ e = .returned (.tuple #[.agg #[.slice hs.a r.1.schemas.length hs.c, .slice ht.a r.1.tables.length ht.c], .int .i64 r.2]) ∧ Kb X w w' ∧ ObjIn w' w.heap.size hs ht r.1.schemas L
def TDoPX (X : Nat → Prop) (w : World) (B n3 : Nat) (hs ht : Hd) (ss : List Sch) (L : List OTab) (q : Nat) (r : Tab × Int) (e : Ending) (w' : World) : Prop :=
  e = .returned (.int .i64 r.2) ∧ Kb (fun g => B ≤ g ∨ X g) w w' ∧ (r.2 = 0 → ∃ x : OTab, x.t = r.1 ∧ ObjIn w' B hs ht ss (L.set q x) ∧ RowAt w' n3 [.slice hs.a ss.length hs.c, .slice ht.a L.length ht.c])
theorem objPX_zero {X : Nat → Prop} {w w' : World} {c : Int} (a : Kb X w w') : ObjPX X w (zeroO, c) (.returned (.tuple #[.agg #[.slice none 0 0, .slice none 0 0], .int .i64 c])) w' := ⟨⟨none, 0, 0⟩, ⟨none, 0, 0⟩, [], rfl, rfl, a, objIn_zero _ _⟩
set_option maxHeartbeats 8000000 in
theorem changedX_in (X : Nat → Prop) (o : Objs) (As : Option Addr) (caps : Nat) (At : Option Addr) (capt : Nat) (g : FuncId) (cs : Array Value) (r : Objs × Int) (w : World) (hsch : SlAt w 2 SchR As caps o.schemas) (htab : SlAt w 5 TabR At capt o.tables)
    (hent : ∀ (args : Array Value) (w : World), (callFunc g args).run Tryz.prog w = .ok (.enter g args) w) (hr : r.2 ≠ 0 → r.1 = zeroO) (hX : ∀ g, X g → g < w.heap.size)
    (hdo : checkO o = true → ∀ (w' : World) (hs ht : Hd) (L : List OTab) (B n3 : Nat), Aft w w' → w.heap.size ≤ B → B ≤ n3 → L.map OTab.t = o.tables → ObjIn w' B hs ht o.schemas L → (∀ g ∈ hs.blk ++ (ht.blk ++ L.flatMap OTab.blks), g ≠ n3) →
      RowAt w' n3 [.slice hs.a o.schemas.length hs.c, .slice ht.a o.tables.length ht.c] → Calls Tryz.prog g (#[.pointer (some ⟨n3, 0, none⟩)] ++ cs) w' (DoPX X w' B n3 r)) :
    Calls Tryz.prog 85 #[.agg #[.slice As o.schemas.length caps, .slice At o.tables.length capt], .func (.func g) #[] cs] w (ObjPX X w (chgR o r)) := by
  have hlen := hsch.len
  have hlen2 := htab.len
  have l1 : w.heap.size < w.heap.size + 1 := by omega
  have l2 : w.heap.size < w.heap.size + 1 + 1 := by omega
  obtain ⟨W, hW⟩ : ∃ W, W = (w.alloc (.cells #[.slice As o.schemas.length caps, .slice At o.tables.length capt] 25)).alloc (.cells #[.slice none 0 0, .slice none 0 0] 25) := ⟨_, rfl⟩
  have aW : Aft w W := by rw [hW]; exact ((Aft.refl w).alloc _).alloc _
  have r1 : RowAt W w.heap.size [.slice As o.schemas.length caps, .slice At o.tables.length capt] := by rw [hW]; exact (box_row2 (Aft.refl _)).aft ((Aft.refl _).alloc _)
  have r2 : RowAt W (w.heap.size + 1) [.slice none 0 0, .slice none 0 0] := by
    rw [hW]
    have := (box_row2 (w := w.alloc (.cells #[.slice As o.schemas.length caps, .slice At o.tables.length capt] 25)) (c := [.slice none 0 0, .slice none 0 0]) (t := 25) (Aft.refl _))
    simpa using this
  have zW : W.heap.size = w.heap.size + 2 := by rw [hW]; simp
  obtain ⟨c, hc⟩ : ∃ c, checkO o = c := ⟨_, rfl⟩
  have CK := Lib.hid (show ∀ w', Aft w w' → Calls Tryz.prog 29 #[.agg #[.slice As o.schemas.length caps, .slice At o.tables.length capt]] w' fun e w'' => e = .returned (.int .i64 (if c = true then 0 else 63)) ∧ Aft w' w'' from
    fun w' a => (check_any o As caps At capt w' (schs_aft a hsch) (tabs_aft a htab)).mono fun e w'' ⟨he, hw⟩ => ⟨he.trans (by unfold checkE; rw [hc]), hw⟩)
  have CO := Lib.hid (show c = true → ∀ w', Aft w w' → _ from fun h w' a => own_in o As caps At capt w' (schs_aft a hsch) (tabs_aft a htab) (check_mod (hc.trans h)))
  have HDO := Lib.hid (fun h : c = true => hdo (hc.trans h))
  have HE := Lib.hid (show chgR o r = if c = true then r else (zeroO, 63) by unfold chgR; rw [hc])
  have HAW := Lib.hid aW
  have HR := Lib.hid hr
  have HX := Lib.hid hX
  have HR1 := Lib.hid r1
  have HR2 := Lib.hid r2
  have HZ := Lib.hid zW
  clear hc hdo hsch htab r1 r2 aW zW hr hX
  go_enter Tryz.func85, Tryz.ntmps85
  go_wp2_with fail
  rw [← hW]
  refine (CK.out W HAW.out).mono ?_
  rintro e w1 ⟨rfl, a1⟩
  have b2 := HR2.out.aft a1
  have d0 := b2.cell (j := 0) rfl
  have d1 := b2.cell (j := 1) rfl
  have f0 := b2.2.2 0 (by simp)
  have f1 := b2.2.2 1 (by simp)
  have z2 := b2.1
  have HA1 := Lib.hid (HAW.out.trans a1)
  have HB2 := Lib.hid b2
  clear hW
  cases c
  · clear a1 b2
    go_wp2_with fail
    obtain ⟨F, hF⟩ : ∃ F, F = (w1.setCell ⟨w.heap.size + 1, 0, none⟩ (.slice none 0 0)).setCell ⟨w.heap.size + 1, 1, none⟩ (.slice none 0 0) := ⟨_, rfl⟩
    have rF : RowAt F (w.heap.size + 1) [.slice none 0 0, .slice none 0 0] := by rw [hF]; exact (HB2.out.set 0 _ (by simp)).set 1 _ (by simp)
    have aF : Aft w F := by rw [hF]; exact (HA1.out.setCell _ _ (Nat.le_succ _)).setCell _ _ (Nat.le_succ _)
    rw [← hF]
    refine bodyPost_ret (results_cell_tmp (v := .agg #[.slice none 0 0, .slice none 0 0]) rfl _ rfl ?hl) rfl ?_
    case hl => exact lvObj_row rF
    rw [HE.out]
    exact objPX_zero (Kb.of_aft aF)
  · have b1 := HR1.out.aft a1
    have c0 := b1.cell (j := 0) rfl
    have c1 := b1.cell (j := 1) rfl
    have z1 := b1.1
    have HZ1 := Lib.hid (show w.heap.size + 2 ≤ w1.heap.size by have := a1.size; have := HZ.out; omega)
    clear a1 b1 b2
    go_wp2_with fail
    refine (CO.out (by simp) w1 HA1.out).mono ?_
    rintro e w2 ⟨hs, ht, L, hL, rfl, a2, ob⟩
    obtain ⟨W3, hW3⟩ : ∃ W3, W3 = w2.alloc (.cells #[.slice hs.a o.schemas.length hs.c, .slice ht.a o.tables.length ht.c] 25) := ⟨_, rfl⟩
    have a3 : Aft w2 W3 := by rw [hW3]; exact (Aft.refl _).alloc _
    have r3 : RowAt W3 w2.heap.size [.slice hs.a o.schemas.length hs.c, .slice ht.a o.tables.length ht.c] := by rw [hW3]; exact box_row2 (Aft.refl _)
    have HD := Lib.hid (HDO.out (by simp) W3 hs ht L w1.heap.size w2.heap.size (HA1.out.trans (a2.trans a3)) HA1.out.size a2.size hL (ob.aft a3) (fun g hg e => by have := (ob.lt g hg).2; omega) r3)
    have HA3 := Lib.hid (HA1.out.trans (a2.trans a3))
    have HB3 := Lib.hid (HB2.out.aft (a2.trans a3))
    clear a2 a3 ob hL CO HDO r3 c0 c1 z1 d0 d1 f0 f1 z2 CK
    obtain ⟨r0, rc⟩ := r
    have HZ2 := Lib.hid (show w.heap.size + 1 < w1.heap.size from HB2.out.1)
    go_wp2_with fail
    rw [← hW3]
    clear hW3
    refine HD.out.mono ?_
    rintro e w4 ⟨rfl, k4, hz4⟩
    have b4 := k4.row HB3.out (fun h => h.elim (fun h => by have := HZ2.out; omega) (fun h => by have := HX.out _ h; omega))
    have d0 := b4.cell (j := 0) rfl
    have d1 := b4.cell (j := 1) rfl
    have f0 := b4.2.2 0 (by simp)
    have f1 := b4.2.2 1 (by simp)
    have z2 := b4.1
    have HB4 := Lib.hid b4
    have HA4 := Lib.hid (k4.onto (Kb.of_aft HA3.out) (fun g hg h1 => h1.resolve_left (by have := HA1.out.size; omega)))
    have HZ4 := Lib.hid hz4
    clear b4 k4 hz4
    by_cases hrc : rc = 0
    · subst hrc
      obtain ⟨hs', ht', L', hL', ob', r4⟩ := HZ4.out rfl
      have c0 := r4.cell (j := 0) rfl
      have c1 := r4.cell (j := 1) rfl
      have z3 := r4.1
      have HO := Lib.hid ob'
      have HL' := Lib.hid hL'
      clear ob' hL' r4
      go_wp2_with fail
      obtain ⟨F, hF⟩ : ∃ F, F = (w4.setCell ⟨w.heap.size + 1, 0, none⟩ (.slice hs'.a r0.schemas.length hs'.c)).setCell ⟨w.heap.size + 1, 1, none⟩ (.slice ht'.a r0.tables.length ht'.c) := ⟨_, rfl⟩
      have kF : Kb (fun g => g = w.heap.size + 1) w4 F := by rw [hF]; exact (Kb.set _ _ _ _).trans (Kb.set _ _ _ _)
      have rF : RowAt F (w.heap.size + 1) [.slice hs'.a r0.schemas.length hs'.c, .slice ht'.a r0.tables.length ht'.c] := by rw [hF]; exact (HB4.out.set 0 _ (by simp)).set 1 _ (by simp)
      rw [← hF]
      refine bodyPost_ret (results_cell_tmp (v := .agg #[.slice hs'.a r0.schemas.length hs'.c, .slice ht'.a r0.tables.length ht'.c]) rfl _ rfl ?hl2) rfl ?_
      case hl2 => exact lvObj_row rF
      rw [HE.out]
      refine ⟨hs', ht', L', HL'.out, rfl, kF.onto HA4.out (fun g hg e => by omega), ?_⟩
      refine ObjIn.down (HO.out.kb kF fun g hg e => ?_) (by have := HA1.out.size; omega)
      have := (HO.out.lt g hg).1
      have := HZ2.out
      omega
    · have t1 : (rc != 0) = true := by simpa using hrc
      have hr0 : r0 = zeroO := HR.out hrc
      have HR0 := Lib.hid hr0
      have HRC := Lib.hid hrc
      clear hrc hr0
      go_wp2_with fail
      obtain ⟨F, hF⟩ : ∃ F, F = (w4.setCell ⟨w.heap.size + 1, 0, none⟩ (.slice none 0 0)).setCell ⟨w.heap.size + 1, 1, none⟩ (.slice none 0 0) := ⟨_, rfl⟩
      have rF : RowAt F (w.heap.size + 1) [.slice none 0 0, .slice none 0 0] := by rw [hF]; exact (HB4.out.set 0 _ (by simp)).set 1 _ (by simp)
      have aF : Kb X w F := by rw [hF]; exact (show Kb (fun g => g = w.heap.size + 1) w4 _ from (Kb.set _ _ _ _).trans (Kb.set _ _ _ _)).onto HA4.out (fun g hg e => by omega)
      rw [← hF]
      refine bodyPost_ret (results_cell_tmp (v := .agg #[.slice none 0 0, .slice none 0 0]) rfl _ rfl ?hl3) rfl ?_
      case hl3 => exact lvObj_row rF
      rw [HE.out, HR0.out]
      exact objPX_zero aF
set_option maxHeartbeats 8000000 in
theorem tabChX1_in (X : Nat → Prop) (o : Objs) (s n : ByteArray) (g2 : FuncId) (cs2 : Array Value) (f : Tab → Tab × Int) (w : World) (hs ht : Hd) (L : List OTab) (B n3 bs bt bd : Nat) (hL : L.map OTab.t = o.tables) (ob : ObjIn w B hs ht o.schemas L) (sm : SmO o)
    (r3 : RowAt w n3 [.slice hs.a o.schemas.length hs.c, .slice ht.a o.tables.length ht.c]) (c1 : w.cell? ⟨bs, 0, none⟩ = some (.string s)) (c2 : w.cell? ⟨bt, 0, none⟩ = some (.string n)) (c3 : w.cell? ⟨bd, 0, none⟩ = some (.func (.func g2) #[] cs2))
    (hent : ∀ (args : Array Value) (w : World), (callFunc g2 args).run Tryz.prog w = .ok (.enter g2 args) w)
    (hdo : ∀ (w' : World) (q gt : Nat) (hq : q < L.length), Aft w w' → ht.a = some ⟨gt, 0, none⟩ → tabAt o.tables s n = q → Calls Tryz.prog g2 (#[.agg #[.slice hs.a o.schemas.length hs.c, .slice ht.a o.tables.length ht.c], .pointer (some ⟨gt, q * 5, none⟩)] ++ cs2) w' (TDoPX X w' B n3 hs ht o.schemas L q (f L[q].t))) :
    Calls Tryz.prog 141 #[.pointer (some ⟨n3, 0, none⟩), .pointer (some ⟨bs, 0, none⟩), .pointer (some ⟨bt, 0, none⟩), .pointer (some ⟨bd, 0, none⟩)] w (DoPX X w B n3 (tabR o s n f)) := by
  have hoo : objOf o.schemas L = o := by unfold objOf; rw [hL]
  have tabs := ob.tabs (by rw [hoo]; exact sm)
  rw [hL] at tabs
  obtain ⟨i, hi⟩ : ∃ i, tabAt o.tables s n = i := ⟨_, rfl⟩
  have hir : -1 ≤ i ∧ i < o.tables.length := by rw [← hi]; exact idxP_range _ _
  have CW := Lib.hid (show ∀ x : Lat w, Calls Tryz.prog 107 #[.agg #[.slice hs.a o.schemas.length hs.c, .slice ht.a o.tables.length ht.c], .string s, .string n] (lat w x) fun e w' => e = .returned (.tuple #[.int .i64 i, .bool (decide (0 ≤ i))]) ∧ Aft (lat w x) w' from
    fun x => (where_any (.slice hs.a o.schemas.length hs.c) ht.a ht.c o.tables s n (lat w x) (tabs_aft ((Aft.refl w).lat x) tabs)).mono fun e w' ⟨he, hw⟩ => ⟨he.trans (by rw [hi]), hw⟩)
  have e0 := r3.cell (j := 0) rfl
  have e1 := r3.cell (j := 1) rfl
  have z3 := r3.1
  have y1 := World.block_lt_of_cell? _ _ c1
  have y2 := World.block_lt_of_cell? _ _ c2
  have y3 := World.block_lt_of_cell? _ _ c3
  have HLL := Lib.hid (show L.length = o.tables.length by rw [← hL]; simp)
  have hlen : o.tables.length * 16 ≤ 140737488351232 := tabs.len
  have HT := Lib.hid ob.tab
  have HDO := Lib.hid hdo
  have HL := Lib.hid hL
  clear hoo tabs hdo ob hL sm r3
  by_cases h0 : 0 ≤ i
  · obtain ⟨q, rfl⟩ := Int.eq_ofNat_of_zero_le h0
    have hq : q < o.tables.length := by omega
    obtain ⟨gt, hgt, hgb, _⟩ := own_place HT.out (by have := HLL.out; omega)
    obtain ⟨At, nt, ct⟩ := ht
    have hgt' : At = some ⟨gt, 0, none⟩ := hgt
    subst hgt'
    have HI := Lib.hid hi
    have hd : decide (0 ≤ (q : Int)) = true := by simp
    clear hgt hi h0 hir HT
    go_enter Tryz.func141, Tryz.ntmps141
    go_wp2_with fail
    refine wp_region_lat (by kernel_rfl) (by kernel_rfl) ?_
    repeat (go_big_quiet_step ((go_at_call 107; exact Calls.lat_of (CW.out _))))
    refine wpQuiet_nil ?_
    intro _ hw'
    obtain ⟨x, hw''⟩ := hw'
    subst hw''
    obtain ⟨W, hW⟩ : ∃ W, W = lat w x := ⟨_, rfl⟩
    have aW : Aft w W := by rw [hW]; exact (Aft.refl w).lat x
    rw [← hW]
    have E0 := aW.cell_kept e0
    have E1 := aW.cell_kept e1
    have C3 := aW.cell_kept c3
    have Z3 := Nat.lt_of_lt_of_le z3 aW.size
    have Y3 := Nat.lt_of_lt_of_le y3 aW.size
    have HAW := Lib.hid aW
    clear hW CW e0 e1 c1 c2 c3 z3 y1 y2 y3 aW
    have hqq : (q : Int) < (o.tables.length : Int) := by omega
    have hqz : (0 : Int) ≤ (q : Int) := by omega
    go_wp2_with fail
    go_still_tail 10, (by kernel_rfl)
    go_wp2_with fail
    have hqL : q < L.length := by rw [HLL.out]; exact hq
    refine (HDO.out _ q gt hqL HAW.out.drew rfl HI.out).mono ?_
    rintro e w4 ⟨rfl, k4, hz4⟩
    have htq : L[q].t = o.tables[q] := by
      have : (L.map OTab.t)[q]'(by simpa using hqL) = o.tables[q] := by simp only [HL.out]
      simpa using this
    rw [htq] at hz4 ⊢
    have HK4 := Lib.hid ((Kb.of_aft HAW.out.drew).trans k4)
    have HZ4 := Lib.hid hz4
    clear k4 hz4 htq
    have HE := Lib.hid (tabR_some (f := f) HI.out hq)
    obtain ⟨fr, hfr⟩ : ∃ fr, f o.tables[q] = fr := ⟨_, rfl⟩
    rw [hfr] at HE HZ4 ⊢
    clear hfr
    obtain ⟨r0, rc⟩ := fr
    go_wp2_with fail
    go_ret
    rw [HE.out]
    by_cases hrc : rc = 0
    · subst hrc
      rw [if_pos rfl]
      refine ⟨rfl, HK4.out, fun _ => ?_⟩
      obtain ⟨x', hx', ob', r4⟩ := HZ4.out rfl
      refine ⟨hs, ⟨some ⟨gt, 0, none⟩, nt, ct⟩, L.set q x', ?_, ob', ?_⟩
      · rw [List.map_set, HL.out, hx']
      · have hl := HLL.out
        rw [hl] at r4
        simpa using r4
    · rw [if_neg (by simpa using hrc)]
      exact ⟨rfl, HK4.out, fun h => absurd h (by simpa using hrc)⟩
  · have HI := Lib.hid hi
    have hd : decide (0 ≤ i) = false := by simpa using h0
    clear hi
    go_enter Tryz.func141, Tryz.ntmps141
    go_wp2_with fail
    refine wp_region_lat (by kernel_rfl) (by kernel_rfl) ?_
    repeat (go_big_quiet_step ((go_at_call 107; exact Calls.lat_of (CW.out _))))
    refine wpQuiet_nil ?_
    intro _ hw'
    obtain ⟨x, hw''⟩ := hw'
    subst hw''
    go_wp2_with fail
    go_ret
    rw [tabR_none (by rw [HI.out]; omega)]
    exact ⟨rfl, Kb.of_aft ((Aft.refl w).lat x), fun h => by simp at h⟩
set_option maxHeartbeats 8000000 in
theorem tabChX_in (X : Nat → Prop) (o : Objs) (As : Option Addr) (caps : Nat) (At : Option Addr) (capt : Nat) (s n : ByteArray) (g : FuncId) (cs : Array Value) (f : Tab → Tab × Int) (w : World) (hsch : SlAt w 2 SchR As caps o.schemas) (htab : SlAt w 5 TabR At capt o.tables)
    (hent : ∀ (args : Array Value) (w : World), (callFunc g args).run Tryz.prog w = .ok (.enter g args) w)
    (hX : ∀ g, X g → g < w.heap.size) (hdo : checkO o = true → ∀ (w' : World) (hs ht : Hd) (L : List OTab) (B n3 q gt : Nat) (hq : q < L.length), Aft w w' → w.heap.size ≤ B → B ≤ n3 → L.map OTab.t = o.tables → ObjIn w' B hs ht o.schemas L → (∀ g ∈ hs.blk ++ (ht.blk ++ L.flatMap OTab.blks), g ≠ n3) →
      RowAt w' n3 [.slice hs.a o.schemas.length hs.c, .slice ht.a o.tables.length ht.c] → ht.a = some ⟨gt, 0, none⟩ → tabAt o.tables s n = q → Calls Tryz.prog g (#[.agg #[.slice hs.a o.schemas.length hs.c, .slice ht.a o.tables.length ht.c], .pointer (some ⟨gt, q * 5, none⟩)] ++ cs) w' (TDoPX X w' B n3 hs ht o.schemas L q (f L[q].t))) :
    Calls Tryz.prog 60 #[.agg #[.slice As o.schemas.length caps, .slice At o.tables.length capt], .string s, .string n, .func (.func g) #[] cs] w (ObjPX X w (chgR o (tabR o s n f))) := by
  have hlen := hsch.len
  have hlen2 := htab.len
  have hent1 := enters (P := Tryz.prog) Tryz.func141 (by kernel_rfl) rfl
  have l1 : w.heap.size < w.heap.size + 1 := by omega
  have l2 : w.heap.size < w.heap.size + 1 + 1 := by omega
  have l3 : w.heap.size < w.heap.size + 1 + 1 + 1 := by omega
  have l4 : w.heap.size < w.heap.size + 1 + 1 + 1 + 1 := by omega
  have l5 : w.heap.size < w.heap.size + 1 + 1 + 1 + 1 + 1 := by omega
  have sm : SmO o := ⟨sm_schs hsch, sm_tabs htab⟩
  obtain ⟨W, hW⟩ : ∃ W, W = ((((w.alloc (.cells #[.slice As o.schemas.length caps, .slice At o.tables.length capt] 25)).alloc (.cells #[.string s] 9)).alloc (.cells #[.string n] 9)).alloc (.cells #[.func (.func g) #[] cs] 88)).alloc (.cells #[.slice none 0 0, .slice none 0 0] 25) := ⟨_, rfl⟩
  have aW : Aft w W := by rw [hW]; exact (((((Aft.refl w).alloc _).alloc _).alloc _).alloc _).alloc _
  have c1 : W.cell? ⟨w.heap.size + 1, 0, none⟩ = some (.string s) := by
    rw [hW]; (repeat (refine (World.cell?_alloc_past _ _ _ (by first | (simp; done) | (simp; omega))).trans ?_)); exact World.cell?_alloc_at _ _ _ _ (by simp)
  have c2 : W.cell? ⟨w.heap.size + 1 + 1, 0, none⟩ = some (.string n) := by
    rw [hW]; (repeat (refine (World.cell?_alloc_past _ _ _ (by first | (simp; done) | (simp; omega))).trans ?_)); exact World.cell?_alloc_at _ _ _ _ (by simp)
  have c3 : W.cell? ⟨w.heap.size + 1 + 1 + 1, 0, none⟩ = some (.func (.func g) #[] cs) := by
    rw [hW]; (repeat (refine (World.cell?_alloc_past _ _ _ (by first | (simp; done) | (simp; omega))).trans ?_)); exact World.cell?_alloc_at _ _ _ _ (by simp)
  have r4 : RowAt W (w.heap.size + 1 + 1 + 1 + 1) [.slice none 0 0, .slice none 0 0] := by
    rw [hW]
    have := (box_row2 (w := (((w.alloc (.cells #[.slice As o.schemas.length caps, .slice At o.tables.length capt] 25)).alloc (.cells #[.string s] 9)).alloc (.cells #[.string n] 9)).alloc (.cells #[.func (.func g) #[] cs] 88)) (c := [.slice none 0 0, .slice none 0 0]) (t := 25) (Aft.refl _))
    simpa using this
  have zW : w.heap.size ≤ W.heap.size := aW.size
  have CC := Lib.hid (changedX_in X o As caps At capt 141 #[.pointer (some ⟨w.heap.size + 1, 0, none⟩), .pointer (some ⟨w.heap.size + 1 + 1, 0, none⟩), .pointer (some ⟨w.heap.size + 1 + 1 + 1, 0, none⟩)] (tabR o s n f) W (schs_aft aW hsch) (tabs_aft aW htab) hent1 tabR_zero (fun g hg => Nat.lt_of_lt_of_le (hX g hg) aW.size)
    (fun hck w' hs ht L B n3 a' hB hn hL ob hne r3 => tabChX1_in X o s n g cs f w' hs ht L B n3 _ _ _ hL ob sm r3 (a'.cell_kept c1) (a'.cell_kept c2) (a'.cell_kept c3) hent
      (fun w'' q gt hq a'' hgt hqq => hdo hck w'' hs ht L B n3 q gt hq (aW.trans (a'.trans a'')) (Nat.le_trans zW hB) hn hL (ob.aft a'') hne (r3.aft a'') hgt hqq)))
  have HX := Lib.hid hX
  have HAW := Lib.hid aW
  have HR4 := Lib.hid r4
  have HZW := Lib.hid (show W.heap.size = w.heap.size + 5 by rw [hW]; simp)
  obtain ⟨rr, hrr⟩ : ∃ rr, chgR o (tabR o s n f) = rr := ⟨_, rfl⟩
  rw [hrr] at CC ⊢
  clear c1 c2 c3 r4 aW hsch htab hdo zW sm hrr hX
  go_enter Tryz.func60, Tryz.ntmps60
  go_wp2_with fail
  rw [← hW]
  clear hW
  refine CC.out.mono ?_
  rintro e w1 ⟨hs, ht, L, hL, rfl, a1, ob⟩
  have b4 := a1.row HR4.out (fun h => by have := HX.out _ h; omega)
  have d0 := b4.cell (j := 0) rfl
  have d1 := b4.cell (j := 1) rfl
  have f0 := b4.2.2 0 (by simp)
  have f1 := b4.2.2 1 (by simp)
  have z2 := b4.1
  have HB4 := Lib.hid b4
  have HA1 := Lib.hid (a1.onto (Kb.of_aft HAW.out) (fun _ _ h => h))
  have HO := Lib.hid ob
  have HL := Lib.hid hL
  clear b4 a1 ob hL CC
  go_wp2_with fail
  obtain ⟨F, hF⟩ : ∃ F, F = (w1.setCell ⟨w.heap.size + 1 + 1 + 1 + 1, 0, none⟩ (.slice hs.a rr.1.schemas.length hs.c)).setCell ⟨w.heap.size + 1 + 1 + 1 + 1, 1, none⟩ (.slice ht.a rr.1.tables.length ht.c) := ⟨_, rfl⟩
  have kF : Kb (fun g => g = w.heap.size + 1 + 1 + 1 + 1) w1 F := by rw [hF]; exact (Kb.set _ _ _ _).trans (Kb.set _ _ _ _)
  have rF : RowAt F (w.heap.size + 1 + 1 + 1 + 1) [.slice hs.a rr.1.schemas.length hs.c, .slice ht.a rr.1.tables.length ht.c] := by rw [hF]; exact (HB4.out.set 0 _ (by simp)).set 1 _ (by simp)
  rw [← hF]
  refine bodyPost_ret (results_cell_tmp (v := .agg #[.slice hs.a rr.1.schemas.length hs.c, .slice ht.a rr.1.tables.length ht.c]) rfl _ rfl ?hl) rfl ?_
  case hl => exact lvObj_row rF
  refine ⟨hs, ht, L, HL.out, rfl, kF.onto HA1.out (fun g hg e => by omega), ?_⟩
  have hz := HZW.out
  refine ObjIn.down (HO.out.kb kF fun g hg e => ?_) (show w.heap.size ≤ W.heap.size by omega)
  have := (HO.out.lt g hg).1
  omega
end Go.Proofs.YticjnndhpfdajaaGreat
