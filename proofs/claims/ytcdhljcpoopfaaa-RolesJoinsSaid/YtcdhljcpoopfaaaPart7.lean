/- Contracts of the program, part 7. -/
import Derived.Test.YtcdhljcpoopfaaaPart6
import Derived.Deep.RegionHeld3
import Derived.Test.YtcdhljcpoopfaaaPart5
import Derived.IntWalk
import Derived.Test.YtcdhljcpoopfaaaPart4
import Derived.Deep.RegionLaw
import Derived.Lib.Walk
/- roles.changed: something is done to right roles in memory of their own. -/
namespace Go.Proofs.Ytcdhljcpoopfaaa
open Go.RowKit Go.Deep
set_option maxRecDepth 100000
set_option linter.unusedVariables false
def noR : Rls := ⟨[], []⟩
/-- what 'do' does: f says what comes of the roles, and the error -/
def DoP8 (w : World) (B b : Nat) (f : Rls × Int) (e : Ending) (w' : World) : Prop :=
  e = .returned (.int .i64 f.2) ∧ Kb (fun g => B ≤ g) w w' ∧ (f.2 = 0 → ∃ hn hm : Hd, RolIn w' B hn hm f.1 ∧ RowAt w' b [hn.v, hm.v])
noncomputable def chgF (r : Rls) (f : Rls × Int) : Rls × Int := if rightR r then (if f.2 = 0 then (f.1, 0) else (noR, f.2)) else (noR, 1)
def ChgP8 (w : World) (f : Rls × Int) (e : Ending) (w' : World) : Prop :=
  ∃ hn hm : Hd, e = .returned (.tuple #[.agg #[hn.v, hm.v], .int .i64 f.2]) ∧ Aft w w' ∧ RolIn w' w.heap.size hn hm f.1
theorem rolIn_no (w : World) (B : Nat) : RolIn w B ⟨none, 0, 0⟩ ⟨none, 0, 0⟩ noR := ⟨own_nil _ _ _ _, own_nil _ _ _ _, fun g hg => by simp [Hd.blk] at hg⟩
set_option maxHeartbeats 8000000 in
theorem changed8 (r : Rls) (An : Option Addr) (capn : Nat) (Am : Option Addr) (capm : Nat) (g : FuncId) (caps : Array Value) (f : Rls × Int) (w : World) (hn : SlAt w 1 StrR An capn r.names) (hm : SlAt w 2 MbrR Am capm r.members)
    (hent : ∀ (args : Array Value) (w : World), (callFunc g args).run Try.prog w = .ok (.enter g args) w)
    (hdo : rightR r = true → ∀ (w1 : World) (B b : Nat) (hn hm : Hd), Aft w w1 → w.heap.size ≤ B → RolIn w1 B hn hm r → RowAt w1 b [hn.v, hm.v] → B ≤ b → b ∉ hn.blk → b ∉ hm.blk → Calls Try.prog g (#[.pointer (some ⟨b, 0, none⟩)] ++ caps) w1 (DoP8 w1 B b f)) :
    Calls Try.prog 57 #[.agg #[.slice An r.names.length capn, .slice Am r.members.length capm], .func (.func g) #[] caps] w (ChgP8 w (chgF r f)) := by
  have l1 : w.heap.size < w.heap.size + 1 := by omega
  have l2 : w.heap.size < w.heap.size + 1 + 1 := by omega
  obtain ⟨W, hW⟩ : ∃ W, W = (w.alloc (.cells #[.slice An r.names.length capn, .slice Am r.members.length capm] 25)).alloc (.cells #[.slice none 0 0, .slice none 0 0] 25) := ⟨_, rfl⟩
  have aW : Aft w W := by rw [hW]; exact ((Aft.refl w).alloc _).alloc _
  have r1 : RowAt W w.heap.size [.slice An r.names.length capn, .slice Am r.members.length capm] := by rw [hW]; exact (rowAt_new8 w [.slice An r.names.length capn, .slice Am r.members.length capm] 25).aft ((Aft.refl _).alloc _)
  have r2 : RowAt W (w.heap.size + 1) [.slice none 0 0, .slice none 0 0] := by
    rw [hW]
    have := rowAt_new8 (w.alloc (.cells #[.slice An r.names.length capn, .slice Am r.members.length capm] 25)) [.slice none 0 0, .slice none 0 0] 25
    simpa using this
  have zW : W.heap.size = w.heap.size + 2 := by rw [hW]; simp
  obtain ⟨q, hq⟩ : ∃ q, rightR r = q := ⟨_, rfl⟩
  have C1 := Lib.hid (fun w' (a : Aft w w') => hq ▸ check8 r An capn Am capm w' (strs_aft a hn) (mbrs_aft a hm))
  have HB := Lib.hid (show q = true → r.names.length ≤ 16 ∧ r.members.length ≤ 256 from fun h => by
    have h2 : rightR r = true := by rw [hq]; exact h
    unfold rightR at h2
    simp only [Bool.and_eq_true, decide_eq_true_eq] at h2
    exact ⟨h2.1.1.1.1, h2.1.1.1.2⟩)
  have HE := Lib.hid (show chgF r f = if q then (if f.2 = 0 then (f.1, 0) else (noR, f.2)) else (noR, 1) by unfold chgF; rw [hq])
  have HDO := Lib.hid (fun (h : q = true) => hdo (by rw [hq]; exact h))
  have HNM := Lib.hid (And.intro hn hm)
  have HAW := Lib.hid aW
  have HR := Lib.hid (And.intro r1 r2)
  have HZW := Lib.hid zW
  have K1 := Lib.hid (show ∀ w', Aft W w' → (w'.cell? ⟨w.heap.size, 0, none⟩ = some (.slice An r.names.length capn) ∧ w'.cell? ⟨w.heap.size, 1, none⟩ = some (.slice Am r.members.length capm) ∧ w'.cell? ⟨w.heap.size + 1, 0, none⟩ = some (.slice none 0 0) ∧ w'.cell? ⟨w.heap.size + 1, 1, none⟩ = some (.slice none 0 0) ∧ w'.frozen? ⟨w.heap.size + 1, 0, none⟩ = false ∧ w'.frozen? ⟨w.heap.size + 1, 1, none⟩ = false ∧ w.heap.size < w'.heap.size ∧ w.heap.size + 1 < w'.heap.size) from fun w' a => by
    have q1 := r1.aft a
    have q2 := r2.aft a
    exact ⟨q1.cell (j := 0) rfl, q1.cell (j := 1) rfl, q2.cell (j := 0) rfl, q2.cell (j := 1) rfl, q2.2.2 0 (by simp), q2.2.2 1 (by simp), q1.1, q2.1⟩)
  clear hq hn hm aW r1 r2 zW hdo
  go_enter Try.func57, Try.ntmps57
  go_wp2_with fail
  rw [← hW]
  clear hW
  refine (C1.out W HAW.out).mono ?_
  rintro e w1 ⟨rfl, a1⟩
  have HA1 := Lib.hid a1
  obtain ⟨k1, k2, k3, k4, k5, k6, k7, k8⟩ := K1.out w1 a1
  clear a1
  cases q
  · have HP := Lib.hid (show ChgP8 w (chgF r f) (.returned (.tuple #[.agg #[.slice none 0 0, .slice none 0 0], .int .i64 1])) ((w1.setCell ⟨w.heap.size + 1, 0, none⟩ (.slice none 0 0)).setCell ⟨w.heap.size + 1, 1, none⟩ (.slice none 0 0)) from by
      rw [HE.out]
      exact ⟨⟨none, 0, 0⟩, ⟨none, 0, 0⟩, rfl, ((HAW.out.trans HA1.out).setCell _ _ (by show w.heap.size ≤ w.heap.size + 1; omega)).setCell _ _ (by show w.heap.size ≤ w.heap.size + 1; omega), rolIn_no _ _⟩)
    go_wp2_with fail
    refine bodyPost_ret (results_cell_tmp (v := .agg #[.slice none 0 0, .slice none 0 0]) rfl _ rfl (lvRol_row (setR_row (HR.out.2.aft HA1.out) rfl _ _))) rfl ?_
    exact HP.out
  have hb := HB.out (by first | trivial | rfl)
  have D1 := Lib.hid (fun w' (a : Aft w1 w') => clone2Str An capn r.names w' w' (Aft.refl _) (strs_aft ((HAW.out.trans HA1.out).trans a) HNM.out.1) (by have := hb.1; omega))
  have D2 := Lib.hid (fun w' (a : Aft w1 w') => clone2Mem Am capm r.members w' w' (Aft.refl _) (mbrs_aft ((HAW.out.trans HA1.out).trans a) HNM.out.2) (by have := hb.2; omega))
  have KS := Lib.hid (show ∀ w', Aft w1 w' → (Aft w1 w' ∧ w'.cell? ⟨w.heap.size, 0, none⟩ = some (.slice An r.names.length capn) ∧ w'.cell? ⟨w.heap.size, 1, none⟩ = some (.slice Am r.members.length capm)) from fun w' a => ⟨a, a.cell_kept k1, a.cell_kept k2⟩)
  clear hb
  go_wp2_with fail
  go_region_held3 (fun w' => Aft w1 w' ∧ w'.cell? ⟨w.heap.size, 0, none⟩ = some (.slice An r.names.length capn) ∧ w'.cell? ⟨w.heap.size, 1, none⟩ = some (.slice Am r.members.length capm))
    ((refine KS.out _ ?_; first
      | exact (Aft.refl _).drew
      | exact ((Aft.refl _).alloc _).drew
      | exact q5
      | exact q5.alloc _
      | exact (q5.setCell ⟨w4.heap.size, 0, none⟩ _ q4.size).setCell ⟨w4.heap.size, 1, none⟩ _ q4.size
      | exact (q5.setCell ⟨w1.heap.size, 0, none⟩ _ (Nat.le_refl _)).setCell ⟨w1.heap.size, 1, none⟩ _ (Nat.le_refl _)
      | exact q4
      | exact q4.alloc _))
    ((first | (go_at_call 55; refine (D1.out _ (And.left (by assumption : Aft w1 _ ∧ _))).mono ?_; rintro e w4 ⟨v4, css4, rfl, a4, o4, h4⟩; have q4 : Aft w1 w4 := (by first | exact (Aft.refl w1).drew.trans a4 | exact ((Aft.refl w1).alloc _).drew.trans a4); (try ((with_reducible have hx4 := aft_box ((Aft.refl _).drew.trans a4)); obtain ⟨hb4, hf4, hz4, hy4, HH4⟩ := hx4)); rw [flat_names h4] at o4; clear h4; obtain ⟨A4, c4, hv4⟩ := own_lit o4; subst hv4) | (go_at_call 109; refine (D2.out _ (And.left (by assumption : Aft w1 _ ∧ _))).mono ?_; rintro e w5 ⟨v5, css5, rfl, a5, o5, h5⟩; have q5 : Aft w1 w5 := (by first | exact q4.trans a5 | exact (q4.alloc _).trans a5); (try (have hx6 := box_aft hb4 hf4 hz4.1 a5; obtain ⟨hb6, hf6, hz6, hy6⟩ := hx6)); (try ((with_reducible have hx5 := aft_box a5); obtain ⟨hb5, hf5, hz5, hy5, HH5⟩ := hx5)); rw [flat_mbrs h5] at o5; clear h5; obtain ⟨A5, c5, hv5⟩ := own_lit o5; subst hv5)))
  · obtain ⟨Wn, hWn⟩ : ∃ Wn, Wn = w5.alloc (.cells #[.slice A4 r.names.length c4, .slice A5 r.members.length c5] 25) := ⟨_, rfl⟩
    obtain ⟨b, hb⟩ : ∃ b, b = w5.heap.size := ⟨_, rfl⟩
    have FB : RowAt Wn b [.slice A4 r.names.length c4, .slice A5 r.members.length c5] := by rw [hWn, hb]; exact rowAt_new8 w5 [.slice A4 r.names.length c4, .slice A5 r.members.length c5] 25
    have FK : Kb (fun g => g = b) w5 Wn := by rw [hWn]; exact Kb.of_aft ((Aft.refl w5).alloc _)
    have FS : w1.heap.size ≤ b := by rw [hb]; exact q5.size
    have c45 : Aft w4 w5 := a5
    have s45 := c45.size
    have s4 := a4.size
    (try simp at s4)
    have L4 : ∀ g, (Hd.mk A4 r.names.length c4).v.ownBlock = some g → w1.heap.size ≤ g ∧ g < w4.heap.size ∧ g ≠ b := fun g hg => by
      have h8 := o4.lt g hg
      (try simp at h8)
      omega
    have L5 : ∀ g, (Hd.mk A5 r.members.length c5).v.ownBlock = some g → w4.heap.size ≤ g ∧ g < w5.heap.size ∧ g ≠ b := fun g hg => by
      have h8 := o5.lt g hg
      (try simp at h8)
      omega
    have FA : Aft w1 Wn := FK.to_aft q5 (fun g hg e => by have e : g = b := e; omega)
    have p4 : w5.ownsRow w1.heap.size 9 1 (Hd.mk A4 r.names.length c4).v r.names.length (r.names.flatMap nameC) := own_base (own_aft o4 c45) (fun g hg => (L4 g hg).1)
    have p5 : w5.ownsRow w1.heap.size 61 2 (Hd.mk A5 r.members.length c5).v r.members.length (r.members.flatMap mbrC) := own_base o5 (fun g hg => by have := (L5 g hg).1; have := q4.size; omega)
    have FR : RolIn Wn w1.heap.size ⟨A4, r.names.length, c4⟩ ⟨A5, r.members.length, c5⟩ r := ⟨own_kb p4 FK (fun g hg => (L4 g hg).2.2), own_kb p5 FK (fun g hg => (L5 g hg).2.2), fun g hg hg' => by
      have h8 := (L4 g (Hd.mem_blk.1 hg)).2.1
      have h9 := (L5 g (Hd.mem_blk.1 hg')).1
      omega⟩
    have CD := Lib.hid (HDO.out (by first | trivial | rfl) Wn w1.heap.size b ⟨A4, r.names.length, c4⟩ ⟨A5, r.members.length, c5⟩ ((HAW.out.trans HA1.out).trans FA) (HAW.out.trans HA1.out).size FR FB FS (fun h => (L4 b (Hd.mem_blk.1 h)).2.2 rfl) (fun h => (L5 b (Hd.mem_blk.1 h)).2.2 rfl))
    have K6 := Lib.hid (show ∀ w6, Kb (fun g => w1.heap.size ≤ g) Wn w6 → Aft w1 w6 from fun w6 kb => kb.to_aft FA (fun g hg h => by omega))
    have HS1 := Lib.hid (show w.heap.size + 2 ≤ w1.heap.size by have := HZW.out; have := HA1.out.size; omega)
    rw [← hWn]
    (try rw [← hb])
    clear hWn hb FB FK FS c45 s45 s4 L4 L5 FA p4 p5 FR a4 a5 o4 o5 q4 q5 k1 k2 k3 k4 k5 k6 k7 k8
    go_wp2_with fail
    refine CD.out.mono ?_
    rintro e w6 ⟨rfl, kb, hok⟩
    have a6 := K6.out w6 kb
    have HA6 := Lib.hid (HA1.out.trans a6)
    obtain ⟨k1, k2, k3, k4, k5, k6, k7, k8⟩ := K1.out w6 HA6.out
    clear a6 kb
    obtain ⟨f1, f2⟩ := f
    by_cases h0 : f2 = 0
    · subst h0
      obtain ⟨⟨An', nn', cn'⟩, ⟨Am', nm', cm'⟩, rin, row⟩ := hok rfl
      have z0 := row.cell (j := 0) rfl
      have z1 := row.cell (j := 1) rfl
      have zz := row.1
      have HP := Lib.hid (show ChgP8 w (chgF r (f1, 0)) (.returned (.tuple #[.agg #[(Hd.mk An' nn' cn').v, (Hd.mk Am' nm' cm').v], .int .i64 0])) ((w6.setCell ⟨w.heap.size + 1, 0, none⟩ (Hd.mk An' nn' cn').v).setCell ⟨w.heap.size + 1, 1, none⟩ (Hd.mk Am' nm' cm').v) from by
        rw [HE.out]
        have k9 := (Kb.set w6 (w.heap.size + 1) 0 (Hd.mk An' nn' cn').v).trans (Kb.set _ (w.heap.size + 1) 1 (Hd.mk Am' nm' cm').v)
        refine ⟨⟨An', nn', cn'⟩, ⟨Am', nm', cm'⟩, rfl, ((HAW.out.trans HA6.out).setCell _ _ (by show w.heap.size ≤ w.heap.size + 1; omega)).setCell _ _ (by show w.heap.size ≤ w.heap.size + 1; omega), ?_⟩
        have r9 := rin.down (B' := w.heap.size) (by have := HS1.out; omega)
        exact ⟨own_kb r9.nam k9 (fun g hg e => by have e : g = w.heap.size + 1 := e; have := (rin.nam.lt g hg).1; have := HS1.out; omega), own_kb r9.mem k9 (fun g hg e => by have e : g = w.heap.size + 1 := e; have := (rin.mem.lt g hg).1; have := HS1.out; omega), rin.dis⟩)
      simp only [Hd.v] at z0 z1 HP
      clear hok rin row
      go_wp2_with fail
      refine bodyPost_ret (results_cell_tmp (v := .agg #[.slice An' nn' cn', .slice Am' nm' cm']) rfl _ rfl (lvRol_row (setR_row (HR.out.2.aft HA6.out) rfl _ _))) rfl ?_
      exact HP.out
    · have HP := Lib.hid (show ChgP8 w (chgF r (f1, f2)) (.returned (.tuple #[.agg #[.slice none 0 0, .slice none 0 0], .int .i64 f2])) ((w6.setCell ⟨w.heap.size + 1, 0, none⟩ (.slice none 0 0)).setCell ⟨w.heap.size + 1, 1, none⟩ (.slice none 0 0)) from by
        rw [HE.out]
        simp only [if_true, if_neg h0]
        exact ⟨⟨none, 0, 0⟩, ⟨none, 0, 0⟩, rfl, ((HAW.out.trans HA6.out).setCell _ _ (by show w.heap.size ≤ w.heap.size + 1; omega)).setCell _ _ (by show w.heap.size ≤ w.heap.size + 1; omega), rolIn_no _ _⟩)
      have h0b : (f2 == 0) = false := by simpa using h0
      clear hok
      go_wp2_with fail
      refine bodyPost_ret (results_cell_tmp (v := .agg #[.slice none 0 0, .slice none 0 0]) rfl _ rfl (lvRol_row (setR_row (HR.out.2.aft HA6.out) rfl _ _))) rfl ?_
      exact HP.out
  · obtain ⟨Wn, hWn⟩ : ∃ Wn, Wn = (w5.setCell ⟨w4.heap.size, 0, none⟩ (.slice A4 r.names.length c4)).setCell ⟨w4.heap.size, 1, none⟩ (.slice A5 r.members.length c5) := ⟨_, rfl⟩
    obtain ⟨b, hb⟩ : ∃ b, b = w4.heap.size := ⟨_, rfl⟩
    have FB0 : RowAt w5 b [.slice none 0 0, .slice none 0 0] := by rw [hb]; exact ⟨hz5.1, fun j hj => by rw [hb5]; simp, fun j hj => hf5 j⟩
    have FB : RowAt Wn b [.slice A4 r.names.length c4, .slice A5 r.members.length c5] := by rw [hWn, ← hb]; exact setR_row FB0 rfl _ _
    have FK : Kb (fun g => g = b) w5 Wn := by rw [hWn, ← hb]; exact (Kb.set _ _ _ _).trans (Kb.set _ _ _ _)
    have FS : w1.heap.size ≤ b := by rw [hb]; exact q4.size
    have c45 : Aft w4 w5 := ((Aft.refl w4).alloc _).trans a5
    have s45 := c45.size
    have s4 := a4.size
    (try simp at s4)
    have L4 : ∀ g, (Hd.mk A4 r.names.length c4).v.ownBlock = some g → w1.heap.size ≤ g ∧ g < w4.heap.size ∧ g ≠ b := fun g hg => by
      have h8 := o4.lt g hg
      (try simp at h8)
      omega
    have L5 : ∀ g, (Hd.mk A5 r.members.length c5).v.ownBlock = some g → w4.heap.size ≤ g ∧ g < w5.heap.size ∧ g ≠ b := fun g hg => by
      have h8 := o5.lt g hg
      (try simp at h8)
      omega
    have FA : Aft w1 Wn := FK.to_aft q5 (fun g hg e => by have e : g = b := e; omega)
    have p4 : w5.ownsRow w1.heap.size 9 1 (Hd.mk A4 r.names.length c4).v r.names.length (r.names.flatMap nameC) := own_base (own_aft o4 c45) (fun g hg => (L4 g hg).1)
    have p5 : w5.ownsRow w1.heap.size 61 2 (Hd.mk A5 r.members.length c5).v r.members.length (r.members.flatMap mbrC) := own_base o5 (fun g hg => by have := (L5 g hg).1; have := q4.size; omega)
    have FR : RolIn Wn w1.heap.size ⟨A4, r.names.length, c4⟩ ⟨A5, r.members.length, c5⟩ r := ⟨own_kb p4 FK (fun g hg => (L4 g hg).2.2), own_kb p5 FK (fun g hg => (L5 g hg).2.2), fun g hg hg' => by
      have h8 := (L4 g (Hd.mem_blk.1 hg)).2.1
      have h9 := (L5 g (Hd.mem_blk.1 hg')).1
      omega⟩
    have CD := Lib.hid (HDO.out (by first | trivial | rfl) Wn w1.heap.size b ⟨A4, r.names.length, c4⟩ ⟨A5, r.members.length, c5⟩ ((HAW.out.trans HA1.out).trans FA) (HAW.out.trans HA1.out).size FR FB FS (fun h => (L4 b (Hd.mem_blk.1 h)).2.2 rfl) (fun h => (L5 b (Hd.mem_blk.1 h)).2.2 rfl))
    have K6 := Lib.hid (show ∀ w6, Kb (fun g => w1.heap.size ≤ g) Wn w6 → Aft w1 w6 from fun w6 kb => kb.to_aft FA (fun g hg h => by omega))
    have HS1 := Lib.hid (show w.heap.size + 2 ≤ w1.heap.size by have := HZW.out; have := HA1.out.size; omega)
    rw [← hWn]
    (try rw [← hb])
    clear hWn hb FB FK FS c45 s45 s4 L4 L5 FA p4 p5 FR a4 a5 o4 o5 q4 q5 k1 k2 k3 k4 k5 k6 k7 k8
    go_wp2_with fail
    refine CD.out.mono ?_
    rintro e w6 ⟨rfl, kb, hok⟩
    have a6 := K6.out w6 kb
    have HA6 := Lib.hid (HA1.out.trans a6)
    obtain ⟨k1, k2, k3, k4, k5, k6, k7, k8⟩ := K1.out w6 HA6.out
    clear a6 kb
    obtain ⟨f1, f2⟩ := f
    by_cases h0 : f2 = 0
    · subst h0
      obtain ⟨⟨An', nn', cn'⟩, ⟨Am', nm', cm'⟩, rin, row⟩ := hok rfl
      have z0 := row.cell (j := 0) rfl
      have z1 := row.cell (j := 1) rfl
      have zz := row.1
      have HP := Lib.hid (show ChgP8 w (chgF r (f1, 0)) (.returned (.tuple #[.agg #[(Hd.mk An' nn' cn').v, (Hd.mk Am' nm' cm').v], .int .i64 0])) ((w6.setCell ⟨w.heap.size + 1, 0, none⟩ (Hd.mk An' nn' cn').v).setCell ⟨w.heap.size + 1, 1, none⟩ (Hd.mk Am' nm' cm').v) from by
        rw [HE.out]
        have k9 := (Kb.set w6 (w.heap.size + 1) 0 (Hd.mk An' nn' cn').v).trans (Kb.set _ (w.heap.size + 1) 1 (Hd.mk Am' nm' cm').v)
        refine ⟨⟨An', nn', cn'⟩, ⟨Am', nm', cm'⟩, rfl, ((HAW.out.trans HA6.out).setCell _ _ (by show w.heap.size ≤ w.heap.size + 1; omega)).setCell _ _ (by show w.heap.size ≤ w.heap.size + 1; omega), ?_⟩
        have r9 := rin.down (B' := w.heap.size) (by have := HS1.out; omega)
        exact ⟨own_kb r9.nam k9 (fun g hg e => by have e : g = w.heap.size + 1 := e; have := (rin.nam.lt g hg).1; have := HS1.out; omega), own_kb r9.mem k9 (fun g hg e => by have e : g = w.heap.size + 1 := e; have := (rin.mem.lt g hg).1; have := HS1.out; omega), rin.dis⟩)
      simp only [Hd.v] at z0 z1 HP
      clear hok rin row
      go_wp2_with fail
      refine bodyPost_ret (results_cell_tmp (v := .agg #[.slice An' nn' cn', .slice Am' nm' cm']) rfl _ rfl (lvRol_row (setR_row (HR.out.2.aft HA6.out) rfl _ _))) rfl ?_
      exact HP.out
    · have HP := Lib.hid (show ChgP8 w (chgF r (f1, f2)) (.returned (.tuple #[.agg #[.slice none 0 0, .slice none 0 0], .int .i64 f2])) ((w6.setCell ⟨w.heap.size + 1, 0, none⟩ (.slice none 0 0)).setCell ⟨w.heap.size + 1, 1, none⟩ (.slice none 0 0)) from by
        rw [HE.out]
        simp only [if_true, if_neg h0]
        exact ⟨⟨none, 0, 0⟩, ⟨none, 0, 0⟩, rfl, ((HAW.out.trans HA6.out).setCell _ _ (by show w.heap.size ≤ w.heap.size + 1; omega)).setCell _ _ (by show w.heap.size ≤ w.heap.size + 1; omega), rolIn_no _ _⟩)
      have h0b : (f2 == 0) = false := by simpa using h0
      clear hok
      go_wp2_with fail
      refine bodyPost_ret (results_cell_tmp (v := .agg #[.slice none 0 0, .slice none 0 0]) rfl _ rfl (lvRol_row (setR_row (HR.out.2.aft HA6.out) rfl _ _))) rfl ?_
      exact HP.out
  · obtain ⟨Wn, hWn⟩ : ∃ Wn, Wn = (w5.setCell ⟨w1.heap.size, 0, none⟩ (.slice A4 r.names.length c4)).setCell ⟨w1.heap.size, 1, none⟩ (.slice A5 r.members.length c5) := ⟨_, rfl⟩
    obtain ⟨b, hb⟩ : ∃ b, b = w1.heap.size := ⟨_, rfl⟩
    have FB0 : RowAt w5 b [.slice none 0 0, .slice none 0 0] := by rw [hb]; exact ⟨hz6.1, fun j hj => by rw [hb6]; simp, fun j hj => hf6 j⟩
    have FB : RowAt Wn b [.slice A4 r.names.length c4, .slice A5 r.members.length c5] := by rw [hWn, ← hb]; exact setR_row FB0 rfl _ _
    have FK : Kb (fun g => g = b) w5 Wn := by rw [hWn, ← hb]; exact (Kb.set _ _ _ _).trans (Kb.set _ _ _ _)
    have FS : w1.heap.size ≤ b := by rw [hb]; exact Nat.le_refl _
    have c45 : Aft w4 w5 := a5
    have s45 := c45.size
    have s4 := a4.size
    (try simp at s4)
    have L4 : ∀ g, (Hd.mk A4 r.names.length c4).v.ownBlock = some g → w1.heap.size ≤ g ∧ g < w4.heap.size ∧ g ≠ b := fun g hg => by
      have h8 := o4.lt g hg
      (try simp at h8)
      omega
    have L5 : ∀ g, (Hd.mk A5 r.members.length c5).v.ownBlock = some g → w4.heap.size ≤ g ∧ g < w5.heap.size ∧ g ≠ b := fun g hg => by
      have h8 := o5.lt g hg
      (try simp at h8)
      omega
    have FA : Aft w1 Wn := FK.to_aft q5 (fun g hg e => by have e : g = b := e; omega)
    have p4 : w5.ownsRow w1.heap.size 9 1 (Hd.mk A4 r.names.length c4).v r.names.length (r.names.flatMap nameC) := own_base (own_aft o4 c45) (fun g hg => (L4 g hg).1)
    have p5 : w5.ownsRow w1.heap.size 61 2 (Hd.mk A5 r.members.length c5).v r.members.length (r.members.flatMap mbrC) := own_base o5 (fun g hg => by have := (L5 g hg).1; have := q4.size; omega)
    have FR : RolIn Wn w1.heap.size ⟨A4, r.names.length, c4⟩ ⟨A5, r.members.length, c5⟩ r := ⟨own_kb p4 FK (fun g hg => (L4 g hg).2.2), own_kb p5 FK (fun g hg => (L5 g hg).2.2), fun g hg hg' => by
      have h8 := (L4 g (Hd.mem_blk.1 hg)).2.1
      have h9 := (L5 g (Hd.mem_blk.1 hg')).1
      omega⟩
    have CD := Lib.hid (HDO.out (by first | trivial | rfl) Wn w1.heap.size b ⟨A4, r.names.length, c4⟩ ⟨A5, r.members.length, c5⟩ ((HAW.out.trans HA1.out).trans FA) (HAW.out.trans HA1.out).size FR FB FS (fun h => (L4 b (Hd.mem_blk.1 h)).2.2 rfl) (fun h => (L5 b (Hd.mem_blk.1 h)).2.2 rfl))
    have K6 := Lib.hid (show ∀ w6, Kb (fun g => w1.heap.size ≤ g) Wn w6 → Aft w1 w6 from fun w6 kb => kb.to_aft FA (fun g hg h => by omega))
    have HS1 := Lib.hid (show w.heap.size + 2 ≤ w1.heap.size by have := HZW.out; have := HA1.out.size; omega)
    rw [← hWn]
    (try rw [← hb])
    clear hWn hb FB FK FS c45 s45 s4 L4 L5 FA p4 p5 FR a4 a5 o4 o5 q4 q5 k1 k2 k3 k4 k5 k6 k7 k8
    go_wp2_with fail
    refine CD.out.mono ?_
    rintro e w6 ⟨rfl, kb, hok⟩
    have a6 := K6.out w6 kb
    have HA6 := Lib.hid (HA1.out.trans a6)
    obtain ⟨k1, k2, k3, k4, k5, k6, k7, k8⟩ := K1.out w6 HA6.out
    clear a6 kb
    obtain ⟨f1, f2⟩ := f
    by_cases h0 : f2 = 0
    · subst h0
      obtain ⟨⟨An', nn', cn'⟩, ⟨Am', nm', cm'⟩, rin, row⟩ := hok rfl
      have z0 := row.cell (j := 0) rfl
      have z1 := row.cell (j := 1) rfl
      have zz := row.1
      have HP := Lib.hid (show ChgP8 w (chgF r (f1, 0)) (.returned (.tuple #[.agg #[(Hd.mk An' nn' cn').v, (Hd.mk Am' nm' cm').v], .int .i64 0])) ((w6.setCell ⟨w.heap.size + 1, 0, none⟩ (Hd.mk An' nn' cn').v).setCell ⟨w.heap.size + 1, 1, none⟩ (Hd.mk Am' nm' cm').v) from by
        rw [HE.out]
        have k9 := (Kb.set w6 (w.heap.size + 1) 0 (Hd.mk An' nn' cn').v).trans (Kb.set _ (w.heap.size + 1) 1 (Hd.mk Am' nm' cm').v)
        refine ⟨⟨An', nn', cn'⟩, ⟨Am', nm', cm'⟩, rfl, ((HAW.out.trans HA6.out).setCell _ _ (by show w.heap.size ≤ w.heap.size + 1; omega)).setCell _ _ (by show w.heap.size ≤ w.heap.size + 1; omega), ?_⟩
        have r9 := rin.down (B' := w.heap.size) (by have := HS1.out; omega)
        exact ⟨own_kb r9.nam k9 (fun g hg e => by have e : g = w.heap.size + 1 := e; have := (rin.nam.lt g hg).1; have := HS1.out; omega), own_kb r9.mem k9 (fun g hg e => by have e : g = w.heap.size + 1 := e; have := (rin.mem.lt g hg).1; have := HS1.out; omega), rin.dis⟩)
      simp only [Hd.v] at z0 z1 HP
      clear hok rin row
      go_wp2_with fail
      refine bodyPost_ret (results_cell_tmp (v := .agg #[.slice An' nn' cn', .slice Am' nm' cm']) rfl _ rfl (lvRol_row (setR_row (HR.out.2.aft HA6.out) rfl _ _))) rfl ?_
      exact HP.out
    · have HP := Lib.hid (show ChgP8 w (chgF r (f1, f2)) (.returned (.tuple #[.agg #[.slice none 0 0, .slice none 0 0], .int .i64 f2])) ((w6.setCell ⟨w.heap.size + 1, 0, none⟩ (.slice none 0 0)).setCell ⟨w.heap.size + 1, 1, none⟩ (.slice none 0 0)) from by
        rw [HE.out]
        simp only [if_true, if_neg h0]
        exact ⟨⟨none, 0, 0⟩, ⟨none, 0, 0⟩, rfl, ((HAW.out.trans HA6.out).setCell _ _ (by show w.heap.size ≤ w.heap.size + 1; omega)).setCell _ _ (by show w.heap.size ≤ w.heap.size + 1; omega), rolIn_no _ _⟩)
      have h0b : (f2 == 0) = false := by simpa using h0
      clear hok
      go_wp2_with fail
      refine bodyPost_ret (results_cell_tmp (v := .agg #[.slice none 0 0, .slice none 0 0]) rfl _ rfl (lvRol_row (setR_row (HR.out.2.aft HA6.out) rfl _ _))) rfl ?_
      exact HP.out
end Go.Proofs.Ytcdhljcpoopfaaa
/- slices.IndexFunc and ContainsFunc at members; is a role used? -/
namespace Go.Proofs.Ytcdhljcpoopfaaa
open Go.RowKit Go.Deep
set_option maxRecDepth 100000
set_option linter.unusedVariables false
set_option maxHeartbeats 1000000 in
theorem idxMem (A : Option Addr) (cap : Nat) (l : List Mbr) (g : FuncId) (caps : Array Value) (p : Mbr → Bool) (w : World) (h : SlAt w 2 MbrR A cap l) (hent : ∀ (args : Array Value) (w : World), (callFunc g args).run Try.prog w = .ok (.enter g args) w)
    (hp : ∀ w', Aft w w' → ∀ i (hi : i < l.length), Calls Try.prog g (#[.agg #[.string l[i].role, .string l[i].of]] ++ caps) w' fun e w'' => e = .returned (.bool (p l[i])) ∧ Aft w' w'') :
    Calls Try.prog 119 #[.slice A l.length cap, .func (.func g) #[] caps] w fun e w' => e = .returned (.int .i64 (idxP p l)) ∧ Aft w w' := by
  have hlen := h.len
  have HC := Lib.hid hp
  clear hp
  go_enter Try.func119, Try.ntmps119
  go_wp2_with fail
  go_loopw [8] (fun i wr => ∃ k : Nat, k ≤ l.length ∧ i = .int .i64 k ∧ Aft w wr ∧ ∀ j, j < k → ∀ (hj : j < l.length), p l[j] = false) (fun i _ => l.length - (intOf i).toNat)
  case atStart => exact ⟨0, Nat.zero_le _, rfl, Aft.refl _, fun j hj => absurd hj (Nat.not_lt_zero j)⟩
  case round =>
    obtain ⟨k, hk, rfl, ha, hp⟩ := hrel
    have HA := Lib.hid ha
    have HP := Lib.hid hp; clear hp
    by_cases hlt : k < l.length
    · have hsl := mbrs_aft ha h
      clear ha
      obtain ⟨b, off, rfl, hb, c0, c1, hs, hs2⟩ := mbr_at hsl hlt
      have HK := Lib.hid (HC.out wr HA.out k hlt)
      clear hsl
      obtain ⟨q, hq⟩ : ∃ q, p l[k] = q := ⟨_, rfl⟩
      rw [hq] at HK
      have HQ := Lib.hid hq
      clear hq
      cases q
      · go_wp2_with fail
        refine HK.out.mono ?_
        rintro e w1 ⟨rfl, a1⟩
        have HA1 := Lib.hid (HA.out.trans a1)
        clear a1
        go_wp2_with fail
        go_roundw
        case rel => exact ⟨k + 1, by omega, by go_num, HA1.out, ext_lt (p := fun j => ∀ (hj : j < l.length), p l[j] = false) HP.out (fun _ => HQ.out)⟩
        case measure => simp [intOf]; omega
      · go_wp2_with fail
        refine HK.out.mono ?_
        rintro e w1 ⟨rfl, a1⟩
        have HA1 := Lib.hid (HA.out.trans a1)
        clear a1
        go_wp2_with fail
        go_ret
        exact ⟨by rw [idxP_some p l k hlt HQ.out (fun i hi => HP.out i hi (by omega))]; rfl, HA1.out⟩
    · clear ha
      go_wp2_with fail
      go_ret
      exact ⟨by rw [idxP_none p l (fun i hi => HP.out i (by omega) hi)]; rfl, HA.out⟩
set_option maxHeartbeats 1000000 in
theorem contMem (A : Option Addr) (cap : Nat) (l : List Mbr) (g : FuncId) (caps : Array Value) (p : Mbr → Bool) (w : World) (h : SlAt w 2 MbrR A cap l) (hent : ∀ (args : Array Value) (w : World), (callFunc g args).run Try.prog w = .ok (.enter g args) w)
    (hp : ∀ w', Aft w w' → ∀ i (hi : i < l.length), Calls Try.prog g (#[.agg #[.string l[i].role, .string l[i].of]] ++ caps) w' fun e w'' => e = .returned (.bool (p l[i])) ∧ Aft w' w'') :
    Calls Try.prog 72 #[.slice A l.length cap, .func (.func g) #[] caps] w fun e w' => e = .returned (.bool (l.any p)) ∧ Aft w w' := by
  have C := Lib.hid (idxMem A cap l g caps p w h hent hp)
  have HE := Lib.hid (idxP_any8 p l)
  obtain ⟨i, hi⟩ : ∃ i, idxP p l = i := ⟨_, rfl⟩
  rw [hi] at C HE
  clear hi hp
  go_enter Try.func72, Try.ntmps72
  go_wp2_with fail
  refine C.out.mono ?_
  rintro e w1 ⟨rfl, a1⟩
  have HA := Lib.hid a1
  clear a1
  go_wp2_with fail
  go_ret
  exact ⟨by rw [← HE.out]; rfl, HA.out⟩
/-- is a member of this name, or another one's? -/
def usedM (name : ByteArray) (m : Mbr) : Bool := eqS m.role name || eqS m.of name
set_option maxHeartbeats 1000000 in
theorem drop11 (m : Mbr) (name : ByteArray) (bn : Nat) (w : World) (hc : w.cell? ⟨bn, 0, none⟩ = some (.string name)) :
    Calls Try.prog 73 (#[.agg #[.string m.role, .string m.of]] ++ #[.pointer (some ⟨bn, 0, none⟩)]) w fun e w' => e = .returned (.bool (usedM name m)) ∧ Aft w w' := by
  have hz : bn < w.heap.size := World.block_lt_of_cell? w ⟨bn, 0, none⟩ hc
  have hz1 : bn < w.heap.size + 1 := by omega
  obtain ⟨p, hp⟩ : ∃ p, eqS m.role name = p := ⟨_, rfl⟩
  obtain ⟨q, hq⟩ : ∃ q, eqS m.of name = q := ⟨_, rfl⟩
  have hp2 : (m.role.toList == name.toList) = p := hp
  have hq2 : (m.of.toList == name.toList) = q := hq
  have HU := Lib.hid (show usedM name m = (p || q) by unfold usedM; rw [hp, hq])
  clear hp hq
  show Calls Try.prog 73 #[.agg #[.string m.role, .string m.of], .pointer (some ⟨bn, 0, none⟩)] w _
  cases p
  all_goals
    cases q
    all_goals
      go_enter Try.func73, Try.ntmps73
      go_wp2_with fail
      go_ret
      exact ⟨by rw [HU.out]; rfl, (Aft.refl _).alloc _⟩
end Go.Proofs.Ytcdhljcpoopfaaa
/- slices.BinarySearch at texts, slices.BinarySearchFunc at members: the place in a row that rises. -/
namespace Go.Proofs.Ytcdhljcpoopfaaa
open Go.RowKit Go.Deep
set_option maxRecDepth 100000
set_option linter.unusedVariables false
/-- how many are less -/
def posB {α : Type} (c : α → α → Int) (l : List α) (x : α) : Nat := l.countP fun y => decide (c y x < 0)
theorem countP_bound {α : Type} (p : α → Bool) : ∀ (l : List α) (i : Nat), i ≤ l.length → (∀ t (h : t < l.length), t < i → p l[t] = true) → (∀ t (h : t < l.length), i ≤ t → p l[t] = false) → l.countP p = i
  | [], i, hi, _, _ => by simp at hi; simp [hi]
  | a :: r, 0, _, _, h2 => by
    rw [List.countP_eq_zero]
    intro x hx
    obtain ⟨t, ht, rfl⟩ := List.getElem_of_mem hx
    rw [h2 t ht (Nat.zero_le _)]; simp
  | a :: r, i + 1, hi, h1, h2 => by
    have ha : p a = true := h1 0 (by simp) (Nat.succ_pos _)
    rw [List.countP_cons_of_pos ha, countP_bound p r i (by simpa using hi) (fun t h ht => h1 (t + 1) (by simpa using h) (by omega)) (fun t h ht => h2 (t + 1) (by simpa using h) (by omega))]
/-- in a row that rises, what is less lies ahead -/
theorem rises_lt {α : Type} {c : α → α → Int} (tr : ∀ a b d, c a b < 0 → c b d < 0 → c a d < 0) {l : List α} (h : risesB c l = true) : ∀ (a b : Nat) (ha : a < l.length) (hb : b < l.length), a < b → c l[a] l[b] < 0 := by
  intro a b
  induction b with
  | zero => intro ha hb hab; omega
  | succ b ih =>
    intro ha hb hab
    have h1 := (risesB_iff c l).1 h b hb
    rcases Nat.lt_or_ge a b with h2 | h2
    · exact tr _ _ _ (ih ha (by omega) h2) h1
    · have : a = b := by omega
      subst this; exact h1
theorem rises_mono {α : Type} {c : α → α → Int} (tr : ∀ a b d, c a b < 0 → c b d < 0 → c a d < 0) {l : List α} (h : risesB c l = true) (x : α) (a b : Nat) (ha : a < l.length) (hb : b < l.length) (hab : a ≤ b) (hx : c l[b] x < 0) : c l[a] x < 0 := by
  rcases Nat.lt_or_ge a b with h2 | h2
  · exact tr _ _ _ (rises_lt tr h a b ha hb h2) hx
  · have : a = b := by omega
    subst this; exact hx
theorem posB_le {α : Type} (c : α → α → Int) (l : List α) (x : α) : posB c l x ≤ l.length := List.countP_le_length
/-- is it there? -/
def thereB {α : Type} (c : α → α → Int) (l : List α) (x : α) : Bool := match l[posB c l x]? with | some y => decide (c y x = 0) | none => false
structure BsI {α : Type} (c : α → α → Int) (l : List α) (x : α) (lo hi : Nat) : Prop where
  le : lo ≤ hi
  hl : hi ≤ l.length
  less : ∀ t (h : t < l.length), t < lo → c l[t] x < 0
  more : ∀ t (h : t < l.length), hi ≤ t → ¬ c l[t] x < 0
theorem BsI.pos {α : Type} {c : α → α → Int} {l : List α} {x : α} {lo : Nat} (h : BsI c l x lo lo) : posB c l x = lo :=
  countP_bound _ l lo h.hl (fun t ht hl => decide_eq_true (h.less t ht hl)) (fun t ht hl => decide_eq_false (h.more t ht hl))
theorem BsI.right {α : Type} {c : α → α → Int} (tr : ∀ a b d, c a b < 0 → c b d < 0 → c a d < 0) {l : List α} {x : α} {lo hi m : Nat} (h : BsI c l x lo hi) (hr : risesB c l = true) (hm : m < hi) (h1 : c (l[m]'(by have := h.hl; omega)) x < 0) : BsI c l x (m + 1) hi :=
  ⟨by omega, h.hl, fun t ht hl => rises_mono tr hr x t m ht (by have := h.hl; omega) (by omega) h1, h.more⟩
theorem BsI.left {α : Type} {c : α → α → Int} (tr : ∀ a b d, c a b < 0 → c b d < 0 → c a d < 0) {l : List α} {x : α} {lo hi m : Nat} (h : BsI c l x lo hi) (hr : risesB c l = true) (hlo : lo ≤ m) (hm : m < hi) (h1 : ¬ c (l[m]'(by have := h.hl; omega)) x < 0) : BsI c l x lo m :=
  ⟨hlo, by have := h.hl; omega, h.less, fun t ht hl h2 => h1 (rises_mono tr hr x m t (by have := h.hl; omega) ht hl h2)⟩
theorem cmpS_tr (a b d : ByteArray) (h1 : cmpS a b < 0) (h2 : cmpS b d < 0) : cmpS a d < 0 := cmpS_trans h1 h2
set_option maxHeartbeats 1000000 in
theorem cisnan8 (s : ByteArray) (w : World) : Calls Try.prog 148 #[.string s] w fun e w' => e = .returned (.bool false) ∧ w = w' := by
  go_enter Try.func148, Try.ntmps148
  go_wp2_with fail
  go_ret
  exact ⟨rfl, rfl⟩
set_option maxHeartbeats 1000000 in
theorem sisnan8 (s : ByteArray) (w : World) : Calls Try.prog 114 #[.string s] w fun e w' => e = .returned (.bool false) ∧ w = w' := by
  go_enter Try.func114, Try.ntmps114
  go_wp2_with fail
  go_ret
  exact ⟨rfl, rfl⟩
set_option maxHeartbeats 1000000 in
theorem less8 (a b : ByteArray) (w : World) : Calls Try.prog 113 #[.string a, .string b] w fun e w' => e = .returned (.bool (ltS a b)) ∧ w = w' := by
  go_enter Try.func113, Try.ntmps113
  go_wp2_with (go_at_call 148; refine (cisnan8 _ _).mono ?_; rintro e w4 ⟨rfl, rfl⟩)
  go_ret
  exact ⟨rfl, rfl⟩
set_option maxHeartbeats 4000000 in
theorem bsS (A : Option Addr) (cap : Nat) (l : List ByteArray) (x : ByteArray) (w : World) (h : SlAt w 1 StrR A cap l) (hr : risesB cmpS l = true) :
    Calls Try.prog 67 #[.slice A l.length cap, .string x] w fun e w' => e = .returned (.tuple #[.int .i64 (posB cmpS l x), .bool (thereB cmpS l x)]) ∧ w = w' := by
  have hlen := h.len
  have HR := Lib.hid hr
  have HH := Lib.hid h
  clear hr h
  go_enter Try.func67, Try.ntmps67
  go_wp2_with fail
  go_loop [7, 8] (fun u7 u8 => ∃ lo hi : Nat, u7 = .int .i64 lo ∧ u8 = .int .i64 hi ∧ BsI cmpS l x lo hi) (fun u7 u8 => (intOf u8).toNat - (intOf u7).toNat)
  case atStart => exact ⟨0, l.length, rfl, rfl, ⟨Nat.zero_le _, Nat.le_refl _, fun t _ h => absurd h (Nat.not_lt_zero t), fun t h1 h2 => by omega⟩⟩
  case round =>
    obtain ⟨lo, hi, rfl, rfl, hI⟩ := hrel
    have HI := Lib.hid hI
    have hle := hI.le
    have hhl := hI.hl
    clear hI
    by_cases hlt : lo < hi
    · have hm : (lo + hi) / 2 < l.length := by omega
      obtain ⟨b, off, rfl, hb, c0, hs⟩ := str_at HH.out hm
      obtain ⟨y, hy⟩ : ∃ y, l[(lo + hi) / 2] = y := ⟨_, rfl⟩
      rw [hy] at c0 hs
      obtain ⟨q, hq⟩ : ∃ q, ltS y x = q := ⟨_, rfl⟩
      have C := Lib.hid (hq ▸ less8 y x w)
      have HY := Lib.hid (show decide (cmpS (l[(lo + hi) / 2]'hm) x < 0) = q by rw [hy, cmpS_lt]; exact hq)
      clear hy hq
      cases q
      · have HN := Lib.hid (HI.out.left cmpS_tr HR.out (m := (lo + hi) / 2) (by omega) (by omega) (of_decide_eq_false HY.out))
        go_wp2_with (go_at_call 113; refine C.out.mono ?_; rintro e w4 ⟨rfl, rfl⟩)
        go_round
        case rel => exact ⟨lo, (lo + hi) / 2, rfl, by rw [show ((lo : Int) + (hi : Int)) / 2 = (((lo + hi) / 2 : Nat) : Int) by omega], HN.out⟩
        case measure => simp [intOf]; omega
      · have HN := Lib.hid (HI.out.right cmpS_tr HR.out (m := (lo + hi) / 2) (by omega) (of_decide_eq_true HY.out))
        go_wp2_with (go_at_call 113; refine C.out.mono ?_; rintro e w4 ⟨rfl, rfl⟩)
        go_round
        case rel => exact ⟨(lo + hi) / 2 + 1, hi, by rw [show ((lo : Int) + (hi : Int)) / 2 + 1 = (((lo + hi) / 2 + 1 : Nat) : Int) by omega], rfl, HN.out⟩
        case measure => simp [intOf]; omega
    · have hhi : hi = lo := by omega
      subst hhi
      have HP := Lib.hid (HI.out.pos)
      by_cases hn : hi < l.length
      · obtain ⟨b, off, rfl, hb, c0, hs⟩ := str_at HH.out hn
        obtain ⟨y, hy⟩ : ∃ y, l[hi] = y := ⟨_, rfl⟩
        rw [hy] at c0 hs
        obtain ⟨q, hq⟩ : ∃ q, eqS y x = q := ⟨_, rfl⟩
        have hq2 : (y.toList == x.toList) = q := hq
        have HT := Lib.hid (show thereB cmpS l x = q by
          unfold thereB
          rw [HP.out, List.getElem?_eq_getElem hn, hy, ← hq]
          show decide (cmpS y x = 0) = eqS y x
          have := cmpS_eq y x
          cases h2 : eqS y x
          · rw [h2] at this; exact decide_eq_false (fun h3 => by have := this.1 h3; cases this)
          · exact decide_eq_true (this.2 h2))
        clear hy hq
        cases q
        · go_wp2_with (go_at_call 114; refine (sisnan8 _ _).mono ?_; rintro e w4 ⟨rfl, rfl⟩)
          go_ret2
          exact ⟨by rw [HP.out, HT.out]; rfl, rfl⟩
        · go_wp2_with (go_at_call 114; refine (sisnan8 _ _).mono ?_; rintro e w4 ⟨rfl, rfl⟩)
          go_ret2
          exact ⟨by rw [HP.out, HT.out]; rfl, rfl⟩
      · have HT := Lib.hid (show thereB cmpS l x = false by
          unfold thereB
          rw [HP.out, List.getElem?_eq_none (by omega)])
        go_wp2_with fail
        go_ret2
        exact ⟨by rw [HP.out, HT.out]; rfl, rfl⟩
theorem cmpM_tr (a b d : Mbr) (h1 : cmpM a b < 0) (h2 : cmpM b d < 0) : cmpM a d < 0 := by
  unfold cmpM or2 at *
  by_cases e1 : cmpS a.role b.role = 0
  · have q1 : txt a.role = txt b.role := (eqS_txt _ _).1 ((cmpS_eq _ _).1 e1)
    have f1 : cmpS a.role d.role = cmpS b.role d.role := by unfold cmpS; unfold txt at q1; rw [q1]
    simp only [e1, beq_self_eq_true, if_true] at h1
    by_cases e2 : cmpS b.role d.role = 0
    · simp only [e2, beq_self_eq_true, if_true] at h2
      simp only [f1, e2, beq_self_eq_true, if_true]
      exact cmpS_trans h1 h2
    · have e2' : (cmpS b.role d.role == 0) = false := by simpa using e2
      simp only [e2', Bool.false_eq_true, if_false] at h2
      simp only [f1, e2', Bool.false_eq_true, if_false]
      exact h2
  · have e1' : (cmpS a.role b.role == 0) = false := by simpa using e1
    simp only [e1', Bool.false_eq_true, if_false] at h1
    by_cases e2 : cmpS b.role d.role = 0
    · have q1 : txt b.role = txt d.role := (eqS_txt _ _).1 ((cmpS_eq _ _).1 e2)
      have f1 : cmpS a.role d.role = cmpS a.role b.role := by unfold cmpS; unfold txt at q1; rw [q1]
      simp only [f1, e1', Bool.false_eq_true, if_false]
      exact h1
    · have e2' : (cmpS b.role d.role == 0) = false := by simpa using e2
      simp only [e2', Bool.false_eq_true, if_false] at h2
      have h3 := cmpS_trans h1 h2
      have e3' : (cmpS a.role d.role == 0) = false := by simp; omega
      simp only [e3', Bool.false_eq_true, if_false]
      exact h3
set_option maxHeartbeats 8000000 in
theorem bsM (A : Option Addr) (cap : Nat) (l : List Mbr) (x : Mbr) (w : World) (h : SlAt w 2 MbrR A cap l) (hr : risesB cmpM l = true) :
    Calls Try.prog 59 #[.slice A l.length cap, .agg #[.string x.role, .string x.of], .func (.func 60) #[] #[]] w fun e w' => e = .returned (.tuple #[.int .i64 (posB cmpM l x), .bool (thereB cmpM l x)]) ∧ Aft w w' := by
  have hlen := h.len
  have HR := Lib.hid hr
  have HH := Lib.hid h
  clear hr h
  go_enter Try.func59, Try.ntmps59
  go_wp2_with fail
  go_loopw [9, 10] (fun u7 u8 wr => ∃ lo hi : Nat, u7 = .int .i64 lo ∧ u8 = .int .i64 hi ∧ BsI cmpM l x lo hi ∧ Aft (w.alloc (.cells #[.string x.role, .string x.of] 61)) wr) (fun u7 u8 _ => (intOf u8).toNat - (intOf u7).toNat)
  case atStart => exact ⟨0, l.length, rfl, rfl, ⟨Nat.zero_le _, Nat.le_refl _, fun t _ h => absurd h (Nat.not_lt_zero t), fun t h1 h2 => by omega⟩, Aft.refl _⟩
  case round =>
    obtain ⟨lo, hi, rfl, rfl, hI, ha⟩ := hrel
    have HI := Lib.hid hI
    have hle := hI.le
    have hhl := hI.hl
    obtain ⟨hbox, hfr, hz, hzk, HA⟩ := aft_box ha
    have HAB := Lib.hid ha
    have y0 := hbox 0
    have y1 := hbox 1
    simp only [List.getElem?_toArray, List.getElem?_cons_succ, List.getElem?_cons_zero] at y0 y1
    have yz := hz.1
    clear hI ha hbox hfr hz hzk
    by_cases hlt : lo < hi
    · have hm : (lo + hi) / 2 < l.length := by omega
      obtain ⟨b, off, rfl, hb, c0, c1, hs1, hs2⟩ := mbr_at (mbrs_aft HA.out HH.out) hm
      obtain ⟨y, hy⟩ : ∃ y, l[(lo + hi) / 2] = y := ⟨_, rfl⟩
      rw [hy] at c0 c1 hs1 hs2
      obtain ⟨q, hq⟩ : ∃ q, cmpM y x = q := ⟨_, rfl⟩
      have C := Lib.hid (show ∀ z : Lat wr, _ from fun z => hq ▸ order8 y x (lat wr z))
      have HY := Lib.hid (show cmpM (l[(lo + hi) / 2]'hm) x = q by rw [hy]; exact hq)
      clear hy hq
      have w1 : IntKind.i64.wrap ((lo : Int) + (hi : Int)) = (lo : Int) + (hi : Int) := IntWalk.i64_in _ (by omega)
      by_cases hq0 : q < 0
      · have HN := Lib.hid (HI.out.right cmpM_tr HR.out (m := (lo + hi) / 2) (by omega) (by rw [HY.out]; exact hq0))
        have hqd : decide (q < 0) = true := decide_eq_true hq0
        go_wp2_with fail
        refine wp_region_lat (by kernel_rfl) (by kernel_rfl) ?_
        repeat (go_big_quiet_step ((exact Calls.lat_of (C.out _))))
        refine wpQuiet_nil ?_
        intro _ hw'
        obtain ⟨z, hw''⟩ := hw'
        subst hw''
        go_wp2_with fail
        go_roundw
        case rel => exact ⟨(lo + hi) / 2 + 1, hi, by rw [show ((lo : Int) + (hi : Int)) / 2 + 1 = (((lo + hi) / 2 + 1 : Nat) : Int) by omega], rfl, HN.out, HAB.out.lat z⟩
        case measure => simp [intOf]; omega
      · have HN := Lib.hid (HI.out.left cmpM_tr HR.out (m := (lo + hi) / 2) (by omega) (by omega) (by rw [HY.out]; exact hq0))
        have hqd : decide (q < 0) = false := decide_eq_false hq0
        go_wp2_with fail
        refine wp_region_lat (by kernel_rfl) (by kernel_rfl) ?_
        repeat (go_big_quiet_step ((exact Calls.lat_of (C.out _))))
        refine wpQuiet_nil ?_
        intro _ hw'
        obtain ⟨z, hw''⟩ := hw'
        subst hw''
        go_wp2_with fail
        go_roundw
        case rel => exact ⟨lo, (lo + hi) / 2, rfl, by rw [show ((lo : Int) + (hi : Int)) / 2 = (((lo + hi) / 2 : Nat) : Int) by omega], HN.out, HAB.out.lat z⟩
        case measure => simp [intOf]; omega
    · have hhi : hi = lo := by omega
      subst hhi
      have HP := Lib.hid (HI.out.pos)
      by_cases hn : hi < l.length
      · have hnd : decide ((hi : Int) < (l.length : Int)) = true := decide_eq_true (by omega)
        obtain ⟨b, off, rfl, hb, c0, c1, hs1, hs2⟩ := mbr_at (mbrs_aft HA.out HH.out) hn
        obtain ⟨y, hy⟩ : ∃ y, l[hi] = y := ⟨_, rfl⟩
        rw [hy] at c0 c1 hs1 hs2
        obtain ⟨q, hq⟩ : ∃ q, cmpM y x = q := ⟨_, rfl⟩
        have C := Lib.hid (show ∀ z : Lat wr, _ from fun z => hq ▸ order8 y x (lat wr z))
        have HT := Lib.hid (show thereB cmpM l x = (q == 0) by
          unfold thereB
          rw [HP.out, List.getElem?_eq_getElem hn, hy]
          show decide (cmpM y x = 0) = _
          rw [hq]; rfl)
        clear hy hq
        go_wp2_with fail
        refine wp_region_lat (by kernel_rfl) (by kernel_rfl) ?_
        repeat (go_big_quiet_step ((exact Calls.lat_of (C.out _))))
        refine wpQuiet_nil ?_
        intro _ hw'
        obtain ⟨z, hw''⟩ := hw'
        subst hw''
        go_wp2_with fail
        go_ret2
        exact ⟨by rw [HP.out, HT.out]; rfl, HA.out.lat z⟩
      · have hnd : decide ((hi : Int) < (l.length : Int)) = false := decide_eq_false (by omega)
        have HT := Lib.hid (show thereB cmpM l x = false by
          unfold thereB
          rw [HP.out, List.getElem?_eq_none (by omega)])
        go_wp2_with fail
        refine wp_region_lat (by kernel_rfl) (by kernel_rfl) ?_
        repeat (go_big_quiet_step (fail))
        refine wpQuiet_nil ?_
        intro _ hw'
        obtain ⟨z, hw''⟩ := hw'
        subst hw''
        go_wp2_with fail
        go_ret2
        exact ⟨by rw [HP.out, HT.out]; rfl, HA.out.lat z⟩
end Go.Proofs.Ytcdhljcpoopfaaa
/- slices.Delete of one element. -/
namespace Go.Proofs.Ytcdhljcpoopfaaa
open Go.RowKit Go.Deep
set_option maxRecDepth 100000
set_option linter.unusedVariables false
theorem infoDSch : (Try.prog.info? 92).map (fun i => (i.zero, i.size, i.bytes)) = some (some (.agg #[.string ByteArray.empty, .string ByteArray.empty]), 2, 32) := by kernel_rfl
set_option maxHeartbeats 8000000 in
theorem delSch (g cap i m B : Nat) (xs : List Value) (w : World) (ho : w.ownsRow B 92 2 (.slice (some ⟨g, 0, none⟩) (i + 1 + m) cap) (i + 1 + m) xs) (h1 : ∀ u ∈ xs, u.oneCell' = true) (hb : cap ≤ 9223372036854775807) :
    Calls Try.prog 88 #[.slice (some ⟨g, 0, none⟩) (i + 1 + m) cap, .int .i64 i, .int .i64 ((i : Int) + 1)] w (DelP 92 2 w B g cap i m xs) := by
  obtain ⟨i0, hi0, hz0, hz1, hz2⟩ := info_parts infoDSch
  obtain ⟨g', cap', hv', hgb, hnc, hr⟩ := own_rowAt ho (by omega)
  simp only [Value.slice.injEq, true_and, Option.some.injEq, Addr.mk.injEq, and_true] at hv'
  obtain ⟨rfl, rfl⟩ := hv'
  have hx := ho.1
  have hzr : ∀ w : World, (zeroValue 92).run Try.prog w = .ok (.agg #[.string ByteArray.empty, .string ByteArray.empty]) w := fun w => by kernel_rfl
  obtain ⟨news, hnews⟩ : ∃ news, news = xs.drop ((i + 1) * 2) := ⟨_, rfl⟩
  have hlen : news.length = m * 2 := by rw [hnews, List.length_drop, hx]; omega
  have hsrc : ∃ A : Addr, (if cap = i + 1 then some (⟨g, 0, none⟩ : Addr) else some ⟨g, (i + 1) * 2, none⟩) = some A ∧ Hid (∀ t u, news[t]? = some u → w.drew.cell? (A.add t) = some u) := by
    by_cases h : cap = i + 1
    · refine ⟨⟨g, 0, none⟩, by simp [h], Lib.hid fun t u hu => ?_⟩
      have h0 : news.length = 0 := by rw [hlen]; omega
      rw [List.length_eq_zero_iff.1 h0] at hu
      simp at hu
    · refine ⟨⟨g, (i + 1) * 2, none⟩, by simp [h], Lib.hid fun t u hu => ?_⟩
      rw [hnews, List.getElem?_drop] at hu
      rw [Addr.add_lit]
      exact hr.cell hu
  obtain ⟨A, hA, hsrc⟩ := hsrc
  have s1 := Lib.hid hlen
  have s2 := Lib.hid (show ∀ u ∈ news, u.oneCell' = true from fun u hu => h1 u (by rw [hnews] at hu; exact List.mem_of_mem_drop hu))
  have s3 := Lib.hid (show ∀ t, t < news.length → (w.drew.cell? ⟨g, 0 + i * 2 + t, none⟩).isSome = true ∧ w.drew.frozen? ⟨g, 0 + i * 2 + t, none⟩ = false from fun t ht => by
    rw [hlen] at ht
    have hl : 0 + i * 2 + t < xs.length := by rw [hx]; omega
    exact ⟨by show (w.cell? _).isSome = true; rw [hr.2.1 _ hl, List.getElem?_eq_getElem hl]; rfl, hr.2.2 _ hl⟩)
  obtain ⟨W1, hW1⟩ : ∃ W1, W1 = w.drew.setCells g (0 + i * 2) news := ⟨_, rfl⟩
  have ho1 : W1.ownsRow B 92 2 (.slice (some ⟨g, 0, none⟩) (i + 1 + m) cap) (i + 1 + m) (setL xs (0 + i * 2) news) := by rw [hW1]; exact own_setCells (g := g) rfl news _ (own_aft ho (Aft.refl w).drew)
  obtain ⟨_, _, hv1, _, _, hr1⟩ := own_rowAt ho1 (by omega)
  simp only [Value.slice.injEq, true_and, Option.some.injEq, Addr.mk.injEq, and_true] at hv1
  obtain ⟨rfl, rfl⟩ := hv1
  have hcl : ∀ ty, (Builtin.clear_ #[42] ty #[.slice (some ⟨g, (i + m) * 2, none⟩) 1 (cap - (i + m))]).run Try.prog W1 = .ok (.tuple #[]) (W1.setCells g ((i + m) * 2) [.string ByteArray.empty, .string ByteArray.empty]) := fun ty => by
    refine run_clear_one W1 _ _ ty _ Try.underlying42 hzr (by intro u hu; have hu : u ∈ ([.string ByteArray.empty, .string ByteArray.empty] : List Value) := hu; simp only [List.mem_cons, List.not_mem_nil, or_false] at hu; rcases hu with rfl | rfl <;> rfl) g ((i + m) * 2) (cap - (i + m)) (fun j hj => ?_) (fun j hj => ?_)
    · have hj' : j < 2 := hj
      have hl : (i + m) * 2 + j < (setL xs (0 + i * 2) news).length := by rw [setL_len, hx]; omega
      rw [hr1.2.1 _ hl, List.getElem?_eq_getElem hl]; rfl
    · have hj' : j < 2 := hj
      exact hr1.2.2 _ (by rw [setL_len, hx]; omega)
  have HF := Lib.hid (show DelP 92 2 w B g cap i m xs (.returned (.slice (some ⟨g, 0, none⟩) (i + m) cap)) (W1.setCells g ((i + m) * 2) [.string ByteArray.empty, .string ByteArray.empty]) from by
    refine ⟨rfl, ?_, ?_⟩
    · rw [hW1, hnews, Nat.zero_add]
      exact del_own (own_aft ho (Aft.refl w).drew) rfl
    · rw [hW1]
      exact (Kb.of_aft (Aft.refl w).drew).trans ((kb_setCells g news _ _).trans (kb_setCells g _ _ _)))
  have hW := Lib.hid hW1
  (try simp only [Nat.mul_one] at hA)
  have hic : i ≤ cap := by omega
  have hjc : i + 1 ≤ cap := by omega
  have hne : ((i : Int) == (i : Int) + 1) = false := by simp; omega
  clear hW1 ho1 hr1 hr ho hnews hlen h1 hx
  go_enter Try.func88, Try.ntmps88
  have k0 : (0 : Int) ≤ (i : Int) + 1 := by omega
  have k1 : (i : Int) + 1 ≤ (i : Int) + 1 + (m : Int) := by omega
  go_wp2_with fail
  go_region_law (refine step_append_room rfl (.tmp 22) (.tmp 25) 42 rfl 92 i0 2 Try.underlying42 hi0 hz1 g 0 i cap (by simp [Act.eval, Act.put]) A m (cap - (i + 1)) news (by simp [Act.eval, Act.put]) s1.out hsrc.out s2.out (by omega) s3.out ?_; rw [← hW.out])
  have hcl2 : ∀ ty, (Builtin.clear_ #[42] ty #[.slice (some ⟨g, (i + m) * 2, none⟩) (i + 1 + m - (i + m)) (cap - (i + m))]).run Try.prog W1 = .ok (.tuple #[]) (W1.setCells g ((i + m) * 2) [.string ByteArray.empty, .string ByteArray.empty]) := fun ty => by
    have e1 : i + 1 + m - (i + m) = 1 := by omega
    rw [e1]; exact hcl ty
  (try simp only [Nat.mul_one] at hcl2)
  have hcm : ¬ cap = i + m := by omega
  have k3 : (i : Int) + (m : Int) ≤ (i : Int) + 1 + (m : Int) := by omega
  have k4 : (0 : Int) ≤ (i : Int) + (m : Int) := by omega
  have k5 : (i : Int) + 1 + (m : Int) ≤ (cap : Int) := by omega
  go_wp2_with fail
  go_ret
  first | exact HF.out | (have h9 := HF.out; simp only [Nat.mul_one] at h9; exact h9)
theorem infoDTab : (Try.prog.info? 56).map (fun i => (i.zero, i.size, i.bytes)) = some (some (.agg #[.string ByteArray.empty, .string ByteArray.empty, .string ByteArray.empty, .slice none 0 0, .slice none 0 0]), 5, 96) := by kernel_rfl
set_option maxHeartbeats 8000000 in
theorem delTab (g cap i m B : Nat) (xs : List Value) (w : World) (ho : w.ownsRow B 56 5 (.slice (some ⟨g, 0, none⟩) (i + 1 + m) cap) (i + 1 + m) xs) (h1 : ∀ u ∈ xs, u.oneCell' = true) (hb : cap ≤ 9223372036854775807) :
    Calls Try.prog 102 #[.slice (some ⟨g, 0, none⟩) (i + 1 + m) cap, .int .i64 i, .int .i64 ((i : Int) + 1)] w (DelP 56 5 w B g cap i m xs) := by
  obtain ⟨i0, hi0, hz0, hz1, hz2⟩ := info_parts infoDTab
  obtain ⟨g', cap', hv', hgb, hnc, hr⟩ := own_rowAt ho (by omega)
  simp only [Value.slice.injEq, true_and, Option.some.injEq, Addr.mk.injEq, and_true] at hv'
  obtain ⟨rfl, rfl⟩ := hv'
  have hx := ho.1
  have hzr : ∀ w : World, (zeroValue 56).run Try.prog w = .ok (.agg #[.string ByteArray.empty, .string ByteArray.empty, .string ByteArray.empty, .slice none 0 0, .slice none 0 0]) w := fun w => by kernel_rfl
  obtain ⟨news, hnews⟩ : ∃ news, news = xs.drop ((i + 1) * 5) := ⟨_, rfl⟩
  have hlen : news.length = m * 5 := by rw [hnews, List.length_drop, hx]; omega
  have hsrc : ∃ A : Addr, (if cap = i + 1 then some (⟨g, 0, none⟩ : Addr) else some ⟨g, (i + 1) * 5, none⟩) = some A ∧ Hid (∀ t u, news[t]? = some u → w.drew.cell? (A.add t) = some u) := by
    by_cases h : cap = i + 1
    · refine ⟨⟨g, 0, none⟩, by simp [h], Lib.hid fun t u hu => ?_⟩
      have h0 : news.length = 0 := by rw [hlen]; omega
      rw [List.length_eq_zero_iff.1 h0] at hu
      simp at hu
    · refine ⟨⟨g, (i + 1) * 5, none⟩, by simp [h], Lib.hid fun t u hu => ?_⟩
      rw [hnews, List.getElem?_drop] at hu
      rw [Addr.add_lit]
      exact hr.cell hu
  obtain ⟨A, hA, hsrc⟩ := hsrc
  have s1 := Lib.hid hlen
  have s2 := Lib.hid (show ∀ u ∈ news, u.oneCell' = true from fun u hu => h1 u (by rw [hnews] at hu; exact List.mem_of_mem_drop hu))
  have s3 := Lib.hid (show ∀ t, t < news.length → (w.drew.cell? ⟨g, 0 + i * 5 + t, none⟩).isSome = true ∧ w.drew.frozen? ⟨g, 0 + i * 5 + t, none⟩ = false from fun t ht => by
    rw [hlen] at ht
    have hl : 0 + i * 5 + t < xs.length := by rw [hx]; omega
    exact ⟨by show (w.cell? _).isSome = true; rw [hr.2.1 _ hl, List.getElem?_eq_getElem hl]; rfl, hr.2.2 _ hl⟩)
  obtain ⟨W1, hW1⟩ : ∃ W1, W1 = w.drew.setCells g (0 + i * 5) news := ⟨_, rfl⟩
  have ho1 : W1.ownsRow B 56 5 (.slice (some ⟨g, 0, none⟩) (i + 1 + m) cap) (i + 1 + m) (setL xs (0 + i * 5) news) := by rw [hW1]; exact own_setCells (g := g) rfl news _ (own_aft ho (Aft.refl w).drew)
  obtain ⟨_, _, hv1, _, _, hr1⟩ := own_rowAt ho1 (by omega)
  simp only [Value.slice.injEq, true_and, Option.some.injEq, Addr.mk.injEq, and_true] at hv1
  obtain ⟨rfl, rfl⟩ := hv1
  have hcl : ∀ ty, (Builtin.clear_ #[43] ty #[.slice (some ⟨g, (i + m) * 5, none⟩) 1 (cap - (i + m))]).run Try.prog W1 = .ok (.tuple #[]) (W1.setCells g ((i + m) * 5) [.string ByteArray.empty, .string ByteArray.empty, .string ByteArray.empty, .slice none 0 0, .slice none 0 0]) := fun ty => by
    refine run_clear_one W1 _ _ ty _ Try.underlying43 hzr (by intro u hu; have hu : u ∈ ([.string ByteArray.empty, .string ByteArray.empty, .string ByteArray.empty, .slice none 0 0, .slice none 0 0] : List Value) := hu; simp only [List.mem_cons, List.not_mem_nil, or_false] at hu; rcases hu with rfl | rfl | rfl | rfl | rfl <;> rfl) g ((i + m) * 5) (cap - (i + m)) (fun j hj => ?_) (fun j hj => ?_)
    · have hj' : j < 5 := hj
      have hl : (i + m) * 5 + j < (setL xs (0 + i * 5) news).length := by rw [setL_len, hx]; omega
      rw [hr1.2.1 _ hl, List.getElem?_eq_getElem hl]; rfl
    · have hj' : j < 5 := hj
      exact hr1.2.2 _ (by rw [setL_len, hx]; omega)
  have HF := Lib.hid (show DelP 56 5 w B g cap i m xs (.returned (.slice (some ⟨g, 0, none⟩) (i + m) cap)) (W1.setCells g ((i + m) * 5) [.string ByteArray.empty, .string ByteArray.empty, .string ByteArray.empty, .slice none 0 0, .slice none 0 0]) from by
    refine ⟨rfl, ?_, ?_⟩
    · rw [hW1, hnews, Nat.zero_add]
      exact del_own (own_aft ho (Aft.refl w).drew) rfl
    · rw [hW1]
      exact (Kb.of_aft (Aft.refl w).drew).trans ((kb_setCells g news _ _).trans (kb_setCells g _ _ _)))
  have hW := Lib.hid hW1
  (try simp only [Nat.mul_one] at hA)
  have hic : i ≤ cap := by omega
  have hjc : i + 1 ≤ cap := by omega
  have hne : ((i : Int) == (i : Int) + 1) = false := by simp; omega
  clear hW1 ho1 hr1 hr ho hnews hlen h1 hx
  go_enter Try.func102, Try.ntmps102
  have k0 : (0 : Int) ≤ (i : Int) + 1 := by omega
  have k1 : (i : Int) + 1 ≤ (i : Int) + 1 + (m : Int) := by omega
  go_wp2_with fail
  go_region_law (refine step_append_room rfl (.tmp 22) (.tmp 25) 43 rfl 56 i0 5 Try.underlying43 hi0 hz1 g 0 i cap (by simp [Act.eval, Act.put]) A m (cap - (i + 1)) news (by simp [Act.eval, Act.put]) s1.out hsrc.out s2.out (by omega) s3.out ?_; rw [← hW.out])
  have hcl2 : ∀ ty, (Builtin.clear_ #[43] ty #[.slice (some ⟨g, (i + m) * 5, none⟩) (i + 1 + m - (i + m)) (cap - (i + m))]).run Try.prog W1 = .ok (.tuple #[]) (W1.setCells g ((i + m) * 5) [.string ByteArray.empty, .string ByteArray.empty, .string ByteArray.empty, .slice none 0 0, .slice none 0 0]) := fun ty => by
    have e1 : i + 1 + m - (i + m) = 1 := by omega
    rw [e1]; exact hcl ty
  (try simp only [Nat.mul_one] at hcl2)
  have hcm : ¬ cap = i + m := by omega
  have k3 : (i : Int) + (m : Int) ≤ (i : Int) + 1 + (m : Int) := by omega
  have k4 : (0 : Int) ≤ (i : Int) + (m : Int) := by omega
  have k5 : (i : Int) + 1 + (m : Int) ≤ (cap : Int) := by omega
  go_wp2_with fail
  go_ret
  first | exact HF.out | (have h9 := HF.out; simp only [Nat.mul_one] at h9; exact h9)
theorem infoDMem : (Try.prog.info? 61).map (fun i => (i.zero, i.size, i.bytes)) = some (some (.agg #[.string ByteArray.empty, .string ByteArray.empty]), 2, 32) := by kernel_rfl
set_option maxHeartbeats 8000000 in
theorem delMem (g cap i m B : Nat) (xs : List Value) (w : World) (ho : w.ownsRow B 61 2 (.slice (some ⟨g, 0, none⟩) (i + 1 + m) cap) (i + 1 + m) xs) (h1 : ∀ u ∈ xs, u.oneCell' = true) (hb : cap ≤ 9223372036854775807) :
    Calls Try.prog 65 #[.slice (some ⟨g, 0, none⟩) (i + 1 + m) cap, .int .i64 i, .int .i64 ((i : Int) + 1)] w (DelP 61 2 w B g cap i m xs) := by
  obtain ⟨i0, hi0, hz0, hz1, hz2⟩ := info_parts infoDMem
  obtain ⟨g', cap', hv', hgb, hnc, hr⟩ := own_rowAt ho (by omega)
  simp only [Value.slice.injEq, true_and, Option.some.injEq, Addr.mk.injEq, and_true] at hv'
  obtain ⟨rfl, rfl⟩ := hv'
  have hx := ho.1
  have hzr : ∀ w : World, (zeroValue 61).run Try.prog w = .ok (.agg #[.string ByteArray.empty, .string ByteArray.empty]) w := fun w => by kernel_rfl
  obtain ⟨news, hnews⟩ : ∃ news, news = xs.drop ((i + 1) * 2) := ⟨_, rfl⟩
  have hlen : news.length = m * 2 := by rw [hnews, List.length_drop, hx]; omega
  have hsrc : ∃ A : Addr, (if cap = i + 1 then some (⟨g, 0, none⟩ : Addr) else some ⟨g, (i + 1) * 2, none⟩) = some A ∧ Hid (∀ t u, news[t]? = some u → w.drew.cell? (A.add t) = some u) := by
    by_cases h : cap = i + 1
    · refine ⟨⟨g, 0, none⟩, by simp [h], Lib.hid fun t u hu => ?_⟩
      have h0 : news.length = 0 := by rw [hlen]; omega
      rw [List.length_eq_zero_iff.1 h0] at hu
      simp at hu
    · refine ⟨⟨g, (i + 1) * 2, none⟩, by simp [h], Lib.hid fun t u hu => ?_⟩
      rw [hnews, List.getElem?_drop] at hu
      rw [Addr.add_lit]
      exact hr.cell hu
  obtain ⟨A, hA, hsrc⟩ := hsrc
  have s1 := Lib.hid hlen
  have s2 := Lib.hid (show ∀ u ∈ news, u.oneCell' = true from fun u hu => h1 u (by rw [hnews] at hu; exact List.mem_of_mem_drop hu))
  have s3 := Lib.hid (show ∀ t, t < news.length → (w.drew.cell? ⟨g, 0 + i * 2 + t, none⟩).isSome = true ∧ w.drew.frozen? ⟨g, 0 + i * 2 + t, none⟩ = false from fun t ht => by
    rw [hlen] at ht
    have hl : 0 + i * 2 + t < xs.length := by rw [hx]; omega
    exact ⟨by show (w.cell? _).isSome = true; rw [hr.2.1 _ hl, List.getElem?_eq_getElem hl]; rfl, hr.2.2 _ hl⟩)
  obtain ⟨W1, hW1⟩ : ∃ W1, W1 = w.drew.setCells g (0 + i * 2) news := ⟨_, rfl⟩
  have ho1 : W1.ownsRow B 61 2 (.slice (some ⟨g, 0, none⟩) (i + 1 + m) cap) (i + 1 + m) (setL xs (0 + i * 2) news) := by rw [hW1]; exact own_setCells (g := g) rfl news _ (own_aft ho (Aft.refl w).drew)
  obtain ⟨_, _, hv1, _, _, hr1⟩ := own_rowAt ho1 (by omega)
  simp only [Value.slice.injEq, true_and, Option.some.injEq, Addr.mk.injEq, and_true] at hv1
  obtain ⟨rfl, rfl⟩ := hv1
  have hcl : ∀ ty, (Builtin.clear_ #[23] ty #[.slice (some ⟨g, (i + m) * 2, none⟩) 1 (cap - (i + m))]).run Try.prog W1 = .ok (.tuple #[]) (W1.setCells g ((i + m) * 2) [.string ByteArray.empty, .string ByteArray.empty]) := fun ty => by
    refine run_clear_one W1 _ _ ty _ Try.underlying23 hzr (by intro u hu; have hu : u ∈ ([.string ByteArray.empty, .string ByteArray.empty] : List Value) := hu; simp only [List.mem_cons, List.not_mem_nil, or_false] at hu; rcases hu with rfl | rfl <;> rfl) g ((i + m) * 2) (cap - (i + m)) (fun j hj => ?_) (fun j hj => ?_)
    · have hj' : j < 2 := hj
      have hl : (i + m) * 2 + j < (setL xs (0 + i * 2) news).length := by rw [setL_len, hx]; omega
      rw [hr1.2.1 _ hl, List.getElem?_eq_getElem hl]; rfl
    · have hj' : j < 2 := hj
      exact hr1.2.2 _ (by rw [setL_len, hx]; omega)
  have HF := Lib.hid (show DelP 61 2 w B g cap i m xs (.returned (.slice (some ⟨g, 0, none⟩) (i + m) cap)) (W1.setCells g ((i + m) * 2) [.string ByteArray.empty, .string ByteArray.empty]) from by
    refine ⟨rfl, ?_, ?_⟩
    · rw [hW1, hnews, Nat.zero_add]
      exact del_own (own_aft ho (Aft.refl w).drew) rfl
    · rw [hW1]
      exact (Kb.of_aft (Aft.refl w).drew).trans ((kb_setCells g news _ _).trans (kb_setCells g _ _ _)))
  have hW := Lib.hid hW1
  (try simp only [Nat.mul_one] at hA)
  have hic : i ≤ cap := by omega
  have hjc : i + 1 ≤ cap := by omega
  have hne : ((i : Int) == (i : Int) + 1) = false := by simp; omega
  clear hW1 ho1 hr1 hr ho hnews hlen h1 hx
  go_enter Try.func65, Try.ntmps65
  have k0 : (0 : Int) ≤ (i : Int) + 1 := by omega
  have k1 : (i : Int) + 1 ≤ (i : Int) + 1 + (m : Int) := by omega
  go_wp2_with fail
  go_region_law (refine step_append_room rfl (.tmp 22) (.tmp 25) 23 rfl 61 i0 2 Try.underlying23 hi0 hz1 g 0 i cap (by simp [Act.eval, Act.put]) A m (cap - (i + 1)) news (by simp [Act.eval, Act.put]) s1.out hsrc.out s2.out (by omega) s3.out ?_; rw [← hW.out])
  have hcl2 : ∀ ty, (Builtin.clear_ #[23] ty #[.slice (some ⟨g, (i + m) * 2, none⟩) (i + 1 + m - (i + m)) (cap - (i + m))]).run Try.prog W1 = .ok (.tuple #[]) (W1.setCells g ((i + m) * 2) [.string ByteArray.empty, .string ByteArray.empty]) := fun ty => by
    have e1 : i + 1 + m - (i + m) = 1 := by omega
    rw [e1]; exact hcl ty
  (try simp only [Nat.mul_one] at hcl2)
  have hcm : ¬ cap = i + m := by omega
  have k3 : (i : Int) + (m : Int) ≤ (i : Int) + 1 + (m : Int) := by omega
  have k4 : (0 : Int) ≤ (i : Int) + (m : Int) := by omega
  have k5 : (i : Int) + 1 + (m : Int) ≤ (cap : Int) := by omega
  go_wp2_with fail
  go_ret
  first | exact HF.out | (have h9 := HF.out; simp only [Nat.mul_one] at h9; exact h9)
theorem infoDStr : (Try.prog.info? 9).map (fun i => (i.zero, i.size, i.bytes)) = some (some (.string ByteArray.empty), 1, 16) := by kernel_rfl
set_option maxHeartbeats 8000000 in
theorem delStr (g cap i m B : Nat) (xs : List Value) (w : World) (ho : w.ownsRow B 9 1 (.slice (some ⟨g, 0, none⟩) (i + 1 + m) cap) (i + 1 + m) xs) (h1 : ∀ u ∈ xs, u.oneCell' = true) (hb : cap ≤ 9223372036854775807) :
    Calls Try.prog 74 #[.slice (some ⟨g, 0, none⟩) (i + 1 + m) cap, .int .i64 i, .int .i64 ((i : Int) + 1)] w (DelP 9 1 w B g cap i m xs) := by
  obtain ⟨i0, hi0, hz0, hz1, hz2⟩ := info_parts infoDStr
  obtain ⟨g', cap', hv', hgb, hnc, hr⟩ := own_rowAt ho (by omega)
  simp only [Value.slice.injEq, true_and, Option.some.injEq, Addr.mk.injEq, and_true] at hv'
  obtain ⟨rfl, rfl⟩ := hv'
  have hx := ho.1
  have hzr : ∀ w : World, (zeroValue 9).run Try.prog w = .ok (.string ByteArray.empty) w := fun w => by kernel_rfl
  obtain ⟨news, hnews⟩ : ∃ news, news = xs.drop ((i + 1) * 1) := ⟨_, rfl⟩
  have hlen : news.length = m * 1 := by rw [hnews, List.length_drop, hx]; omega
  have hsrc : ∃ A : Addr, (if cap = i + 1 then some (⟨g, 0, none⟩ : Addr) else some ⟨g, (i + 1) * 1, none⟩) = some A ∧ Hid (∀ t u, news[t]? = some u → w.drew.cell? (A.add t) = some u) := by
    by_cases h : cap = i + 1
    · refine ⟨⟨g, 0, none⟩, by simp [h], Lib.hid fun t u hu => ?_⟩
      have h0 : news.length = 0 := by rw [hlen]; omega
      rw [List.length_eq_zero_iff.1 h0] at hu
      simp at hu
    · refine ⟨⟨g, (i + 1) * 1, none⟩, by simp [h], Lib.hid fun t u hu => ?_⟩
      rw [hnews, List.getElem?_drop] at hu
      rw [Addr.add_lit]
      exact hr.cell hu
  obtain ⟨A, hA, hsrc⟩ := hsrc
  have s1 := Lib.hid hlen
  have s2 := Lib.hid (show ∀ u ∈ news, u.oneCell' = true from fun u hu => h1 u (by rw [hnews] at hu; exact List.mem_of_mem_drop hu))
  have s3 := Lib.hid (show ∀ t, t < news.length → (w.drew.cell? ⟨g, 0 + i * 1 + t, none⟩).isSome = true ∧ w.drew.frozen? ⟨g, 0 + i * 1 + t, none⟩ = false from fun t ht => by
    rw [hlen] at ht
    have hl : 0 + i * 1 + t < xs.length := by rw [hx]; omega
    exact ⟨by show (w.cell? _).isSome = true; rw [hr.2.1 _ hl, List.getElem?_eq_getElem hl]; rfl, hr.2.2 _ hl⟩)
  obtain ⟨W1, hW1⟩ : ∃ W1, W1 = w.drew.setCells g (0 + i * 1) news := ⟨_, rfl⟩
  have ho1 : W1.ownsRow B 9 1 (.slice (some ⟨g, 0, none⟩) (i + 1 + m) cap) (i + 1 + m) (setL xs (0 + i * 1) news) := by rw [hW1]; exact own_setCells (g := g) rfl news _ (own_aft ho (Aft.refl w).drew)
  obtain ⟨_, _, hv1, _, _, hr1⟩ := own_rowAt ho1 (by omega)
  simp only [Value.slice.injEq, true_and, Option.some.injEq, Addr.mk.injEq, and_true] at hv1
  obtain ⟨rfl, rfl⟩ := hv1
  have hcl : ∀ ty, (Builtin.clear_ #[22] ty #[.slice (some ⟨g, (i + m) * 1, none⟩) 1 (cap - (i + m))]).run Try.prog W1 = .ok (.tuple #[]) (W1.setCells g ((i + m) * 1) [.string ByteArray.empty]) := fun ty => by
    refine run_clear_one W1 _ _ ty _ Try.underlying22 hzr (by intro u hu; have hu : u ∈ ([.string ByteArray.empty] : List Value) := hu; simp only [List.mem_cons, List.not_mem_nil, or_false] at hu; subst hu; rfl) g ((i + m) * 1) (cap - (i + m)) (fun j hj => ?_) (fun j hj => ?_)
    · have hj' : j < 1 := hj
      have hl : (i + m) * 1 + j < (setL xs (0 + i * 1) news).length := by rw [setL_len, hx]; omega
      rw [hr1.2.1 _ hl, List.getElem?_eq_getElem hl]; rfl
    · have hj' : j < 1 := hj
      exact hr1.2.2 _ (by rw [setL_len, hx]; omega)
  have HF := Lib.hid (show DelP 9 1 w B g cap i m xs (.returned (.slice (some ⟨g, 0, none⟩) (i + m) cap)) (W1.setCells g ((i + m) * 1) [.string ByteArray.empty]) from by
    refine ⟨rfl, ?_, ?_⟩
    · rw [hW1, hnews, Nat.zero_add]
      exact del_own (own_aft ho (Aft.refl w).drew) rfl
    · rw [hW1]
      exact (Kb.of_aft (Aft.refl w).drew).trans ((kb_setCells g news _ _).trans (kb_setCells g _ _ _)))
  have hW := Lib.hid hW1
  (try simp only [Nat.mul_one] at hA)
  have hic : i ≤ cap := by omega
  have hjc : i + 1 ≤ cap := by omega
  have hne : ((i : Int) == (i : Int) + 1) = false := by simp; omega
  clear hW1 ho1 hr1 hr ho hnews hlen h1 hx
  go_enter Try.func74, Try.ntmps74
  have k0 : (0 : Int) ≤ (i : Int) + 1 := by omega
  have k1 : (i : Int) + 1 ≤ (i : Int) + 1 + (m : Int) := by omega
  go_wp2_with fail
  go_region_law (refine step_append_room rfl (.tmp 22) (.tmp 25) 22 rfl 9 i0 1 Try.underlying22 hi0 hz1 g 0 i cap (by simp [Act.eval, Act.put]) A m (cap - (i + 1)) news (by simp [Act.eval, Act.put]) s1.out hsrc.out s2.out (by omega) s3.out ?_; rw [← hW.out])
  have hcl2 : ∀ ty, (Builtin.clear_ #[22] ty #[.slice (some ⟨g, (i + m) * 1, none⟩) (i + 1 + m - (i + m)) (cap - (i + m))]).run Try.prog W1 = .ok (.tuple #[]) (W1.setCells g ((i + m) * 1) [.string ByteArray.empty]) := fun ty => by
    have e1 : i + 1 + m - (i + m) = 1 := by omega
    rw [e1]; exact hcl ty
  (try simp only [Nat.mul_one] at hcl2)
  have hcm : ¬ cap = i + m := by omega
  have k3 : (i : Int) + (m : Int) ≤ (i : Int) + 1 + (m : Int) := by omega
  have k4 : (0 : Int) ≤ (i : Int) + (m : Int) := by omega
  have k5 : (i : Int) + 1 + (m : Int) ≤ (cap : Int) := by omega
  go_wp2_with fail
  go_ret
  first | exact HF.out | (have h9 := HF.out; simp only [Nat.mul_one] at h9; exact h9)
end Go.Proofs.Ytcdhljcpoopfaaa
