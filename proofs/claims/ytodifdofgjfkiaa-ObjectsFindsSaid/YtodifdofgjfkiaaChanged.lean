/- objects.changed, objects.tableChanged: objects in memory of their own, changed by what is handed in. -/
import Derived.Test.YtodifdofgjfkiaaOwn07
import Derived.Test.YtodifdofgjfkiaaCheck
import Derived.StillTailTactics
import Derived.Deep.DeepMust
namespace Go.Proofs.Ytodifdofgjfkiaa
open Go.RowKit Go.Deep
set_option maxRecDepth 100000
set_option linter.unusedVariables false
def zeroO : Objs := ⟨[], []⟩
/-- right objects are no great ones -/
theorem check_mod {o : Objs} (h : checkO o = true) : ModO o := by
  unfold checkO headOk at h
  simp only [Bool.and_eq_true, decide_eq_true_eq, List.all_eq_true] at h
  obtain ⟨⟨⟨⟨h1, h2⟩, _⟩, _⟩, _, h3⟩ := h
  refine ⟨by omega, by omega, fun t ht => ?_⟩
  have h4 := h3 t ht
  unfold rightT at h4
  simp only [Bool.and_eq_true, decide_eq_true_eq, List.all_eq_true] at h4
  obtain ⟨⟨⟨⟨_, h5⟩, h6⟩, _⟩, h7, _⟩ := h4
  have h8 : t.cols.length ≤ 8 := by unfold colsOk at h5; simp only [Bool.and_eq_true, decide_eq_true_eq] at h5; exact h5.1.2
  refine ⟨by omega, by omega, fun r hr => ?_⟩
  have h9 := h7 r hr
  unfold ruleOk at h9
  simp only [Bool.and_eq_true] at h9
  have h1 : rcOk t.cols r.cols = true := by have hf := h9.1; unfold fitsOk at hf; simp only [Bool.and_eq_true] at hf; exact hf.1.1.1
  have := rc_len t.cols r.cols h1
  omega
/-- what a change makes of our own objects: r's objects, if there is no error -/
def DoP (w : World) (B n3 : Nat) (r : Objs × Int) (e : Ending) (w' : World) : Prop :=
  e = .returned (.int .i64 r.2) ∧ Kb (fun g => B ≤ g) w w' ∧ (r.2 = 0 → ∃ hs ht L, L.map OTab.t = r.1.tables ∧ ObjIn w' B hs ht r.1.schemas L ∧ RowAt w' n3 [.slice hs.a r.1.schemas.length hs.c, .slice ht.a r.1.tables.length ht.c])
/-- what comes out: r's objects in memory of their own, and an error's number -/
def ObjP (w : World) (r : Objs × Int) (e : Ending) (w' : World) : Prop :=
  ∃ hs ht L, L.map OTab.t = r.1.tables ∧ e = .returned (.tuple #[.agg #[.slice hs.a r.1.schemas.length hs.c, .slice ht.a r.1.tables.length ht.c], .int .i64 r.2]) ∧ Aft w w' ∧ ObjIn w' w.heap.size hs ht r.1.schemas L
def chgR (o : Objs) (r : Objs × Int) : Objs × Int := if checkO o then r else (zeroO, 63)
theorem objIn_zero (w : World) (B : Nat) : ObjIn w B ⟨none, 0, 0⟩ ⟨none, 0, 0⟩ [] [] := ⟨own_nil _ _ _ _, own_nil _ _ _ _, fun x hx => by simp at hx, by simp [blk_nil]⟩
theorem objP_zero {w w' : World} {c : Int} (a : Aft w w') : ObjP w (zeroO, c) (.returned (.tuple #[.agg #[.slice none 0 0, .slice none 0 0], .int .i64 c])) w' := ⟨⟨none, 0, 0⟩, ⟨none, 0, 0⟩, [], rfl, rfl, a, objIn_zero _ _⟩
set_option maxHeartbeats 8000000 in
theorem changed_in (o : Objs) (As : Option Addr) (caps : Nat) (At : Option Addr) (capt : Nat) (g : FuncId) (cs : Array Value) (r : Objs × Int) (w : World) (hsch : SlAt w 2 SchR As caps o.schemas) (htab : SlAt w 5 TabR At capt o.tables)
    (hent : ∀ (args : Array Value) (w : World), (callFunc g args).run Try.prog w = .ok (.enter g args) w) (hr : r.2 ≠ 0 → r.1 = zeroO)
    (hdo : checkO o = true → ∀ (w' : World) (hs ht : Hd) (L : List OTab) (B n3 : Nat), Aft w w' → w.heap.size ≤ B → B ≤ n3 → L.map OTab.t = o.tables → ObjIn w' B hs ht o.schemas L → (∀ g ∈ hs.blk ++ (ht.blk ++ L.flatMap OTab.blks), g ≠ n3) →
      RowAt w' n3 [.slice hs.a o.schemas.length hs.c, .slice ht.a o.tables.length ht.c] → Calls Try.prog g (#[.pointer (some ⟨n3, 0, none⟩)] ++ cs) w' (DoP w' B n3 r)) :
    Calls Try.prog 138 #[.agg #[.slice As o.schemas.length caps, .slice At o.tables.length capt], .func (.func g) #[] cs] w (ObjP w (chgR o r)) := by
  have hlen := hsch.len
  have hlen2 := htab.len
  have l1 : w.heap.size < w.heap.size + 1 := by omega
  have l2 : w.heap.size < w.heap.size + 1 + 1 := by omega
  obtain ⟨W, hW⟩ : ∃ W, W = (w.alloc (.cells #[.slice As o.schemas.length caps, .slice At o.tables.length capt] 25)).alloc (.cells #[.slice none 0 0, .slice none 0 0] 25) := ⟨_, rfl⟩
  have aW : Aft w W := by rw [hW]; exact ((Aft.refl w).alloc _).alloc _
  have r1 : RowAt W w.heap.size [.slice As o.schemas.length caps, .slice At o.tables.length capt] := by rw [hW]; exact (box_row2 (Aft.refl _)).aft ((Aft.refl _).alloc _)
  have r2 : RowAt W (w.heap.size + 1) [.slice none 0 0, .slice none 0 0] := by
    rw [hW]
    have := (box_row2 (w := w.alloc (.cells #[.slice As o.schemas.length caps, .slice At o.tables.length capt] 25)) (c := [.slice none 0 0, .slice none 0 0]) (t := 25) (Aft.refl _))
    simpa using this
  have zW : W.heap.size = w.heap.size + 2 := by rw [hW]; simp
  obtain ⟨c, hc⟩ : ∃ c, checkO o = c := ⟨_, rfl⟩
  have CK := Lib.hid (show ∀ w', Aft w w' → Calls Try.prog 17 #[.agg #[.slice As o.schemas.length caps, .slice At o.tables.length capt]] w' fun e w'' => e = .returned (.int .i64 (if c = true then 0 else 63)) ∧ Aft w' w'' from
    fun w' a => (check_any o As caps At capt w' (schs_aft a hsch) (tabs_aft a htab)).mono fun e w'' ⟨he, hw⟩ => ⟨he.trans (by unfold checkE; rw [hc]), hw⟩)
  have CO := Lib.hid (show c = true → ∀ w', Aft w w' → _ from fun h w' a => own_in o As caps At capt w' (schs_aft a hsch) (tabs_aft a htab) (check_mod (hc.trans h)))
  have HDO := Lib.hid (fun h : c = true => hdo (hc.trans h))
  have HE := Lib.hid (show chgR o r = if c = true then r else (zeroO, 63) by unfold chgR; rw [hc])
  have HAW := Lib.hid aW
  have HR := Lib.hid hr
  have HR1 := Lib.hid r1
  have HR2 := Lib.hid r2
  have HZ := Lib.hid zW
  clear hc hdo hsch htab r1 r2 aW zW hr
  go_enter Try.func138, Try.ntmps138
  go_wp2_with fail
  rw [← hW]
  refine (CK.out W HAW.out).mono ?_
  rintro e w1 ⟨rfl, a1⟩
  have b2 := HR2.out.aft a1
  have d0 := b2.cell (j := 0) rfl
  have d1 := b2.cell (j := 1) rfl
  have f0 := b2.2.2 0 (by simp)
  have f1 := b2.2.2 1 (by simp)
  have z2 := b2.1
  have HA1 := Lib.hid (HAW.out.trans a1)
  have HB2 := Lib.hid b2
  clear hW
  cases c
  · clear a1 b2
    go_wp2_with fail
    obtain ⟨F, hF⟩ : ∃ F, F = (w1.setCell ⟨w.heap.size + 1, 0, none⟩ (.slice none 0 0)).setCell ⟨w.heap.size + 1, 1, none⟩ (.slice none 0 0) := ⟨_, rfl⟩
    have rF : RowAt F (w.heap.size + 1) [.slice none 0 0, .slice none 0 0] := by rw [hF]; exact (HB2.out.set 0 _ (by simp)).set 1 _ (by simp)
    have aF : Aft w F := by rw [hF]; exact (HA1.out.setCell _ _ (Nat.le_succ _)).setCell _ _ (Nat.le_succ _)
    rw [← hF]
    refine bodyPost_ret (results_cell_tmp (v := .agg #[.slice none 0 0, .slice none 0 0]) rfl _ rfl ?hl) rfl ?_
    case hl => exact lvObj_row rF
    rw [HE.out]
    exact objP_zero aF
  · have b1 := HR1.out.aft a1
    have c0 := b1.cell (j := 0) rfl
    have c1 := b1.cell (j := 1) rfl
    have z1 := b1.1
    have HZ1 := Lib.hid (show w.heap.size + 2 ≤ w1.heap.size by have := a1.size; have := HZ.out; omega)
    clear a1 b1 b2
    go_wp2_with fail
    refine (CO.out (by simp) w1 HA1.out).mono ?_
    rintro e w2 ⟨hs, ht, L, hL, rfl, a2, ob⟩
    obtain ⟨W3, hW3⟩ : ∃ W3, W3 = w2.alloc (.cells #[.slice hs.a o.schemas.length hs.c, .slice ht.a o.tables.length ht.c] 25) := ⟨_, rfl⟩
    have a3 : Aft w2 W3 := by rw [hW3]; exact (Aft.refl _).alloc _
    have r3 : RowAt W3 w2.heap.size [.slice hs.a o.schemas.length hs.c, .slice ht.a o.tables.length ht.c] := by rw [hW3]; exact box_row2 (Aft.refl _)
    have HD := Lib.hid (HDO.out (by simp) W3 hs ht L w1.heap.size w2.heap.size (HA1.out.trans (a2.trans a3)) HA1.out.size a2.size hL (ob.aft a3) (fun g hg e => by have := (ob.lt g hg).2; omega) r3)
    have HA3 := Lib.hid (HA1.out.trans (a2.trans a3))
    have HB3 := Lib.hid (HB2.out.aft (a2.trans a3))
    clear a2 a3 ob hL CO HDO r3 c0 c1 z1 d0 d1 f0 f1 z2 CK
    obtain ⟨r0, rc⟩ := r
    have HZ2 := Lib.hid (show w.heap.size + 1 < w1.heap.size from HB2.out.1)
    go_wp2_with fail
    rw [← hW3]
    clear hW3
    refine HD.out.mono ?_
    rintro e w4 ⟨rfl, k4, hz4⟩
    have b4 := k4.row HB3.out (by have := HZ2.out; omega)
    have d0 := b4.cell (j := 0) rfl
    have d1 := b4.cell (j := 1) rfl
    have f0 := b4.2.2 0 (by simp)
    have f1 := b4.2.2 1 (by simp)
    have z2 := b4.1
    have HB4 := Lib.hid b4
    have HA4 := Lib.hid (k4.to_aft HA3.out (fun g hg h1 => by have := HA1.out.size; omega))
    have HZ4 := Lib.hid hz4
    clear b4 k4 hz4
    by_cases hrc : rc = 0
    · subst hrc
      obtain ⟨hs', ht', L', hL', ob', r4⟩ := HZ4.out rfl
      have c0 := r4.cell (j := 0) rfl
      have c1 := r4.cell (j := 1) rfl
      have z3 := r4.1
      have HO := Lib.hid ob'
      have HL' := Lib.hid hL'
      clear ob' hL' r4
      go_wp2_with fail
      obtain ⟨F, hF⟩ : ∃ F, F = (w4.setCell ⟨w.heap.size + 1, 0, none⟩ (.slice hs'.a r0.schemas.length hs'.c)).setCell ⟨w.heap.size + 1, 1, none⟩ (.slice ht'.a r0.tables.length ht'.c) := ⟨_, rfl⟩
      have kF : Kb (fun g => g = w.heap.size + 1) w4 F := by rw [hF]; exact (Kb.set _ _ _ _).trans (Kb.set _ _ _ _)
      have rF : RowAt F (w.heap.size + 1) [.slice hs'.a r0.schemas.length hs'.c, .slice ht'.a r0.tables.length ht'.c] := by rw [hF]; exact (HB4.out.set 0 _ (by simp)).set 1 _ (by simp)
      rw [← hF]
      refine bodyPost_ret (results_cell_tmp (v := .agg #[.slice hs'.a r0.schemas.length hs'.c, .slice ht'.a r0.tables.length ht'.c]) rfl _ rfl ?hl2) rfl ?_
      case hl2 => exact lvObj_row rF
      rw [HE.out]
      refine ⟨hs', ht', L', HL'.out, rfl, kF.to_aft HA4.out (fun g hg e => by omega), ?_⟩
      refine ObjIn.down (HO.out.kb kF fun g hg e => ?_) (by have := HA1.out.size; omega)
      have := (HO.out.lt g hg).1
      have := HZ2.out
      omega
    · have t1 : (rc != 0) = true := by simpa using hrc
      have hr0 : r0 = zeroO := HR.out hrc
      have HR0 := Lib.hid hr0
      have HRC := Lib.hid hrc
      clear hrc hr0
      go_wp2_with fail
      obtain ⟨F, hF⟩ : ∃ F, F = (w4.setCell ⟨w.heap.size + 1, 0, none⟩ (.slice none 0 0)).setCell ⟨w.heap.size + 1, 1, none⟩ (.slice none 0 0) := ⟨_, rfl⟩
      have rF : RowAt F (w.heap.size + 1) [.slice none 0 0, .slice none 0 0] := by rw [hF]; exact (HB4.out.set 0 _ (by simp)).set 1 _ (by simp)
      have aF : Aft w F := by rw [hF]; exact (HA4.out.setCell _ _ (Nat.le_succ _)).setCell _ _ (Nat.le_succ _)
      rw [← hF]
      refine bodyPost_ret (results_cell_tmp (v := .agg #[.slice none 0 0, .slice none 0 0]) rfl _ rfl ?hl3) rfl ?_
      case hl3 => exact lvObj_row rF
      rw [HE.out, HR0.out]
      exact objP_zero aF
end Go.Proofs.Ytodifdofgjfkiaa
