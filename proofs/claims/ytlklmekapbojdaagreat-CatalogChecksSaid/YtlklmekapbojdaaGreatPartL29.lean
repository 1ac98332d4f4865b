/- Contracts of the program, part 29. -/
import Derived.Deep.RegionHeld3
import Derived.Deep.AppendLies
import Derived.WalkMore
import Derived.Deep.DeepMust
import Derived.OwnWalk
import Derived.Laws.AppendOwn
import Derived.ProofKit
import Derived.OpenShut
import Derived.Deep.Slices
import Derived.ChangeOld
import Derived.SizedLaws
import Derived.WalkKit
import Derived.WalkSpells
import Derived.WalkLawsBesides
import Derived.Lib.Hide
import Derived.Deep.QuietTactic
import Derived.BigQuiet
import Derived.Below
import Derived.Deep.Draws
import Derived.StillTailTactics
import Derived.Laws.Cells
import Derived.Laws.IdiomCopy
import Derived.Test.YtlklmekapbojdaaGreatRows
import Derived.Lib.Walk
import Derived.Laws.EntriesVeiled
import Derived.Maps.Own
import Derived.Maps.Views
import Derived.Deep.Upon
import Derived.OneCell
import Derived.OrdersHeld
import Derived.IntWalk
import Derived.Lib.Bytealg
import Derived.Lib.SliceRun
import Derived.Deep.RegionLaw
import Derived.Lib.AppendZerosOnto
import Derived.Lib.Overlaps
import Derived.Shelf.SlSortCmp.WholeK
import Derived.Laws.StructEq
import Derived.WideKeyEntry
import Derived.DeepKeys3
import Derived.ChangeKeys
import Derived.Test.YtlklmekapbojdaaGreatPartL1
import Derived.Test.YtlklmekapbojdaaGreatPartL2
import Derived.Test.YtlklmekapbojdaaGreatPartL3
import Derived.Test.YtlklmekapbojdaaGreatPartL4
import Derived.Test.YtlklmekapbojdaaGreatPartL5
import Derived.Test.YtlklmekapbojdaaGreatPartL6
import Derived.Test.YtlklmekapbojdaaGreatPartL7
import Derived.Test.YtlklmekapbojdaaGreatPartL8
import Derived.Test.YtlklmekapbojdaaGreatPartL9
import Derived.Test.YtlklmekapbojdaaGreatPartL10
import Derived.Test.YtlklmekapbojdaaGreatPartL17
import Derived.Test.YtlklmekapbojdaaGreatPartL20
import Derived.Test.YtlklmekapbojdaaGreatPartL21
import Derived.Test.YtlklmekapbojdaaGreatPartL22
import Derived.Test.YtlklmekapbojdaaGreatPartL23
import Derived.Test.YtlklmekapbojdaaGreatPartL25
namespace Go.Proofs.YtlklmekapbojdaaGreat
open Go.RowKit Go.Deep
set_option maxRecDepth 100000
set_option linter.unusedVariables false
noncomputable def rightC (c : Cat) : Bool := decide (0 ≤ c.epoch) && decide (c.epoch ≤ 1000) && decide (0 ≤ c.version) && decide (c.version ≤ 1000000000) && wholeB c
def newC : Cat := ⟨0, 0, ⟨[], []⟩, ⟨[bRoot], []⟩, []⟩
theorem newC_right0 : rightR newC.rols = true := by
  unfold rightR newC
  simp only [List.all_nil, Bool.and_true]
  decide +kernel
theorem newC_whole : wholeB newC = true := whole_iff.2 ⟨stands_iff.2 ⟨by decide, ⟨by decide +kernel, newC_right0, by decide +kernel, by decide +kernel⟩, fun g hg => by simp [newC] at hg, rfl⟩, fun g hg => by simp [newC] at hg⟩
theorem newC_right : rightC newC = true := by unfold rightC; rw [newC_whole]; rfl
def NewP (w : World) (e : Ending) (w' : World) : Prop := ∃ b, e = .returned (.agg #[.int .i64 0, .int .i64 0, .slice none 0 0, .slice none 0 0, .slice (some ⟨b, 0, none⟩) 1 1, .slice none 0 0, .slice none 0 0]) ∧ Aft w w' ∧ CatAt w' newC none 0 none 0 (some ⟨b, 0, none⟩) 1 none 0 none 0
set_option maxHeartbeats 4000000 in
theorem new10 (w : World) : Calls Tryz.prog 32 #[] w (NewP w) := by
  have l1 : w.heap.size < w.heap.size + 1 := by omega
  have l2 : w.heap.size < w.heap.size + 1 + 1 := by omega
  go_enter Tryz.func32, Tryz.ntmps32
  go_wp2_with fail
  (try simp only [Exit.inBlock, Exit.then])
  have a6 := ((Aft.refl w).alloc (.cells #[.int .i64 0, .int .i64 0, .slice none 0 0, .slice none 0 0, .slice (some ⟨w.heap.size + 1, 0, none⟩) 1 1, .slice none 0 0, .slice none 0 0] 66)).alloc (.cells #[.string ⟨#[114, 111, 111, 116]⟩] 9)
  refine bodyPost_ret (results_cell (v := .agg #[.int .i64 0, .int .i64 0, .slice none 0 0, .slice none 0 0, .slice (some ⟨w.heap.size + 1, 0, none⟩) 1 1, .slice none 0 0, .slice none 0 0]) rfl _ rfl ?hl) rfl ?_
  case hl => exact lvCat_row (RowAt.up (box_at (Aft.refl _) rfl))
  refine ⟨_, rfl, a6, slAt_nil, slAt_nil, ?n, slAt_nil, slAt_nil⟩
  case n => exact slAt_one _ [.string ⟨#[114, 111, 111, 116]⟩] #[.string ⟨#[114, 111, 111, 116]⟩] (by first | (simp; done) | (simp; omega)) (by intro o; (repeat (refine (World.cell?_alloc_past _ _ _ (by first | (simp; done) | (simp; omega))).trans ?_)); exact World.cell?_alloc_at _ _ _ _ (by simp)) rfl rfl ⟨rfl, by unfold Small; decide⟩ (by omega)
set_option maxHeartbeats 4000000 in
theorem rnew10 (w : World) : Calls Tryz.prog 33 #[] w (NewP w) := by
  have l1 : w.heap.size < w.heap.size + 1 := by omega
  have l2 : w.heap.size < w.heap.size + 1 + 1 := by omega
  go_enter Tryz.func33, Tryz.ntmps33
  go_wp2_with fail
  (try simp only [Exit.inBlock, Exit.then])
  have a6 := ((Aft.refl w).alloc (.cells #[.int .i64 0, .int .i64 0, .slice none 0 0, .slice none 0 0, .slice (some ⟨w.heap.size + 1, 0, none⟩) 1 1, .slice none 0 0, .slice none 0 0] 66)).alloc (.cells #[.string ⟨#[114, 111, 111, 116]⟩] 9)
  refine bodyPost_ret (results_cell (v := .agg #[.int .i64 0, .int .i64 0, .slice none 0 0, .slice none 0 0, .slice (some ⟨w.heap.size + 1, 0, none⟩) 1 1, .slice none 0 0, .slice none 0 0]) rfl _ rfl ?hl) rfl ?_
  case hl => exact lvCat_row (RowAt.up (box_at (Aft.refl _) rfl))
  refine ⟨_, rfl, a6, slAt_nil, slAt_nil, ?n, slAt_nil, slAt_nil⟩
  case n => exact slAt_one _ [.string ⟨#[114, 111, 111, 116]⟩] #[.string ⟨#[114, 111, 111, 116]⟩] (by first | (simp; done) | (simp; omega)) (by intro o; (repeat (refine (World.cell?_alloc_past _ _ _ (by first | (simp; done) | (simp; omega))).trans ?_)); exact World.cell?_alloc_at _ _ _ _ (by simp)) rfl rfl ⟨rfl, by unfold Small; decide⟩ (by omega)
set_option maxHeartbeats 8000000 in
theorem check10 (c : Cat) (As : Option Addr) (caps : Nat) (At : Option Addr) (capt : Nat) (An : Option Addr) (capn : Nat) (Am : Option Addr) (capm : Nat) (Ag : Option Addr) (capg : Nat) (w : World) (H : CatAt w c As caps At capt An capn Am capm Ag capg) :
    Calls Tryz.prog 29 #[.agg #[.int .i64 c.epoch, .int .i64 c.version, .slice As c.objs.schemas.length caps, .slice At c.objs.tables.length capt, .slice An c.rols.names.length capn, .slice Am c.rols.members.length capm, .slice Ag c.grants.length capg]] w fun e w' => e = .returned (.int .i64 (if rightC c = true then 0 else 1)) ∧ Aft w w' := by
  obtain ⟨W, hW⟩ : ∃ W, W = w.alloc (.cells #[.int .i64 c.epoch, .int .i64 c.version, .slice As c.objs.schemas.length caps, .slice At c.objs.tables.length capt, .slice An c.rols.names.length capn, .slice Am c.rols.members.length capm, .slice Ag c.grants.length capg] 66) := ⟨_, rfl⟩
  have aW : Aft w W := by rw [hW]; exact (Aft.refl w).alloc _
  have r0 : RowAt W (w.heap.size) [.int .i64 c.epoch, .int .i64 c.version, .slice As c.objs.schemas.length caps, .slice At c.objs.tables.length capt, .slice An c.rols.names.length capn, .slice Am c.rols.members.length capm, .slice Ag c.grants.length capg] := by rw [hW]; exact box_at (Aft.refl _) (by simp)
  obtain ⟨b, hb⟩ : ∃ b, wholeB c = b := ⟨_, rfl⟩
  obtain ⟨rc, hrc⟩ : ∃ b, rightC c = b := ⟨_, rfl⟩
  obtain ⟨zz, hzz⟩ : ∃ z : Int, (if rightC c = true then (0 : Int) else 1) = z := ⟨_, rfl⟩
  obtain ⟨z, hz⟩ : ∃ z : Int, (if wholeB c = true then (0 : Int) else 1) = z := ⟨_, rfl⟩
  have C1 := Lib.hid (show Calls Tryz.prog 44 #[.agg #[.int .i64 c.epoch, .int .i64 c.version, .slice As c.objs.schemas.length caps, .slice At c.objs.tables.length capt, .slice An c.rols.names.length capn, .slice Am c.rols.members.length capm, .slice Ag c.grants.length capg]] W fun e w'' => e = .returned (.int .i64 z) ∧ Aft W w'' from (checkG c As caps At capt An capn Am capm Ag capg W (H.aft aW)).mono fun e w'' ⟨he, hw⟩ => ⟨he.trans (by rw [hz]), hw⟩)
  have HRES := Lib.hid (show rc = (decide (0 ≤ c.epoch) && decide (c.epoch ≤ 1000) && decide (0 ≤ c.version) && decide (c.version ≤ 1000000000) && b) by rw [← hrc]; unfold rightC; rw [hb])
  have HZ := Lib.hid (show z = if b = true then (0 : Int) else 1 from by rw [← hz, hb])
  have HZZ := Lib.hid (show zz = if rc = true then (0 : Int) else 1 from by rw [← hzz, hrc])
  have HAW := Lib.hid aW
  obtain ⟨ep, hep⟩ : ∃ e, c.epoch = e := ⟨_, rfl⟩
  obtain ⟨ve, hve⟩ : ∃ e, c.version = e := ⟨_, rfl⟩
  obtain ⟨x0, x1, x2, x3, x4, x5, x6, xz⟩ := rowF7 r0
  rw [hzz]
  rw [hep, hve] at HRES C1
  rw [hep] at x0
  rw [hve] at x1
  rw [hep, hve] at hW
  rw [hep, hve]
  clear H aW r0 hb hep hve hrc hz hzz
  by_cases h0 : 0 ≤ ep
  case neg =>
    have g0 : ep < 0 := by omega
    have HR := Lib.hid (show rc = false from by rw [HRES.out, decide_eq_false h0]; simp)
    have HW := Lib.hid hW
    clear h0 hW
    go_enter Tryz.func29, Tryz.ntmps29
    go_wp2_with fail
    go_ret
    exact ⟨by rw [HZZ.out, HR.out]; rfl, by rw [← HW.out]; exact HAW.out⟩
  have g0 : ¬ ep < 0 := by omega
  by_cases h1 : ep ≤ 1000
  case neg =>
    have g1 : 1000 < ep := by omega
    have HR := Lib.hid (show rc = false from by rw [HRES.out, decide_eq_false h1]; simp)
    have HW := Lib.hid hW
    clear h1 hW
    go_enter Tryz.func29, Tryz.ntmps29
    go_wp2_with fail
    go_ret
    exact ⟨by rw [HZZ.out, HR.out]; rfl, by rw [← HW.out]; exact HAW.out⟩
  have g1 : ¬ 1000 < ep := by omega
  by_cases h2 : 0 ≤ ve
  case neg =>
    have g2 : ve < 0 := by omega
    have HR := Lib.hid (show rc = false from by rw [HRES.out, decide_eq_false h2]; simp)
    have HW := Lib.hid hW
    clear h2 hW
    go_enter Tryz.func29, Tryz.ntmps29
    go_wp2_with fail
    go_ret
    exact ⟨by rw [HZZ.out, HR.out]; rfl, by rw [← HW.out]; exact HAW.out⟩
  have g2 : ¬ ve < 0 := by omega
  by_cases h3 : ve ≤ 1000000000
  case neg =>
    have g3 : 1000000000 < ve := by omega
    have HR := Lib.hid (show rc = false from by rw [HRES.out, decide_eq_false h3]; simp)
    have HW := Lib.hid hW
    clear h3 hW
    go_enter Tryz.func29, Tryz.ntmps29
    go_wp2_with fail
    go_ret
    exact ⟨by rw [HZZ.out, HR.out]; rfl, by rw [← HW.out]; exact HAW.out⟩
  have g3 : ¬ 1000000000 < ve := by omega
  have HR := Lib.hid (show rc = b from by rw [HRES.out, decide_eq_true h0, decide_eq_true h1, decide_eq_true h2, decide_eq_true h3]; rfl)
  clear HRES
  go_enter Tryz.func29, Tryz.ntmps29
  go_wp2_with fail
  rw [← hW]
  clear hW
  refine C1.out.mono ?_
  rintro e w1 ⟨rfl, a1⟩
  have A1 := Lib.hid (HAW.out.trans a1)
  clear a1
  go_wp2_with fail
  go_ret
  exact ⟨by rw [HZZ.out, HR.out, HZ.out]; rfl, A1.out⟩
set_option maxHeartbeats 8000000 in
theorem rright10 (c : Cat) (As : Option Addr) (caps : Nat) (At : Option Addr) (capt : Nat) (An : Option Addr) (capn : Nat) (Am : Option Addr) (capm : Nat) (Ag : Option Addr) (capg : Nat) (w : World) (H : CatAt w c As caps At capt An capn Am capm Ag capg) :
    Calls Tryz.prog 34 #[.agg #[.int .i64 c.epoch, .int .i64 c.version, .slice As c.objs.schemas.length caps, .slice At c.objs.tables.length capt, .slice An c.rols.names.length capn, .slice Am c.rols.members.length capm, .slice Ag c.grants.length capg]] w fun e w' => e = .returned (.bool (rightC c)) ∧ Aft w w' := by
  obtain ⟨W, hW⟩ : ∃ W, W = w.alloc (.cells #[.int .i64 c.epoch, .int .i64 c.version, .slice As c.objs.schemas.length caps, .slice At c.objs.tables.length capt, .slice An c.rols.names.length capn, .slice Am c.rols.members.length capm, .slice Ag c.grants.length capg] 66) := ⟨_, rfl⟩
  have aW : Aft w W := by rw [hW]; exact (Aft.refl w).alloc _
  have r0 : RowAt W (w.heap.size) [.int .i64 c.epoch, .int .i64 c.version, .slice As c.objs.schemas.length caps, .slice At c.objs.tables.length capt, .slice An c.rols.names.length capn, .slice Am c.rols.members.length capm, .slice Ag c.grants.length capg] := by rw [hW]; exact box_at (Aft.refl _) (by simp)
  obtain ⟨b, hb⟩ : ∃ b, wholeB c = b := ⟨_, rfl⟩
  obtain ⟨rc, hrc⟩ : ∃ b, rightC c = b := ⟨_, rfl⟩


  have C1 := Lib.hid (show Calls Tryz.prog 77 #[.agg #[.int .i64 c.epoch, .int .i64 c.version, .slice As c.objs.schemas.length caps, .slice At c.objs.tables.length capt, .slice An c.rols.names.length capn, .slice Am c.rols.members.length capm, .slice Ag c.grants.length capg]] W fun e w'' => e = .returned (.bool b) ∧ Aft W w'' from (rwhole c As caps At capt An capn Am capm Ag capg W (H.aft aW)).mono fun e w'' ⟨he, hw⟩ => ⟨he.trans (by rw [hb]), hw⟩)
  have HRES := Lib.hid (show rc = (decide (0 ≤ c.epoch) && decide (c.epoch ≤ 1000) && decide (0 ≤ c.version) && decide (c.version ≤ 1000000000) && b) by rw [← hrc]; unfold rightC; rw [hb])


  have HAW := Lib.hid aW
  obtain ⟨ep, hep⟩ : ∃ e, c.epoch = e := ⟨_, rfl⟩
  obtain ⟨ve, hve⟩ : ∃ e, c.version = e := ⟨_, rfl⟩
  obtain ⟨x0, x1, x2, x3, x4, x5, x6, xz⟩ := rowF7 r0
  rw [hrc]
  rw [hep, hve] at HRES C1
  rw [hep] at x0
  rw [hve] at x1
  rw [hep, hve] at hW
  rw [hep, hve]
  clear H aW r0 hb hep hve hrc 
  by_cases h0 : 0 ≤ ep
  case neg =>
    have g0 : ep < 0 := by omega
    have HR := Lib.hid (show rc = false from by rw [HRES.out, decide_eq_false h0]; simp)
    have HW := Lib.hid hW
    clear h0 hW
    go_enter Tryz.func34, Tryz.ntmps34
    go_wp2_with fail
    go_ret
    exact ⟨by rw [HR.out]; rfl, by rw [← HW.out]; exact HAW.out⟩
  have g0 : ¬ ep < 0 := by omega
  by_cases h1 : ep ≤ 1000
  case neg =>
    have g1 : 1000 < ep := by omega
    have HR := Lib.hid (show rc = false from by rw [HRES.out, decide_eq_false h1]; simp)
    have HW := Lib.hid hW
    clear h1 hW
    go_enter Tryz.func34, Tryz.ntmps34
    go_wp2_with fail
    go_ret
    exact ⟨by rw [HR.out]; rfl, by rw [← HW.out]; exact HAW.out⟩
  have g1 : ¬ 1000 < ep := by omega
  by_cases h2 : 0 ≤ ve
  case neg =>
    have g2 : ve < 0 := by omega
    have HR := Lib.hid (show rc = false from by rw [HRES.out, decide_eq_false h2]; simp)
    have HW := Lib.hid hW
    clear h2 hW
    go_enter Tryz.func34, Tryz.ntmps34
    go_wp2_with fail
    go_ret
    exact ⟨by rw [HR.out]; rfl, by rw [← HW.out]; exact HAW.out⟩
  have g2 : ¬ ve < 0 := by omega
  by_cases h3 : ve ≤ 1000000000
  case neg =>
    have g3 : 1000000000 < ve := by omega
    have HR := Lib.hid (show rc = false from by rw [HRES.out, decide_eq_false h3]; simp)
    have HW := Lib.hid hW
    clear h3 hW
    go_enter Tryz.func34, Tryz.ntmps34
    go_wp2_with fail
    go_ret
    exact ⟨by rw [HR.out]; rfl, by rw [← HW.out]; exact HAW.out⟩
  have g3 : ¬ 1000000000 < ve := by omega
  have HR := Lib.hid (show rc = b from by rw [HRES.out, decide_eq_true h0, decide_eq_true h1, decide_eq_true h2, decide_eq_true h3]; rfl)
  clear HRES
  go_enter Tryz.func34, Tryz.ntmps34
  go_wp2_with fail
  rw [← hW]
  clear hW
  refine C1.out.mono ?_
  rintro e w1 ⟨rfl, a1⟩
  have A1 := Lib.hid (HAW.out.trans a1)
  clear a1
  cases b
  all_goals
    go_wp2_with fail
    go_ret
    exact ⟨by rw [HR.out]; rfl, A1.out⟩
set_option maxHeartbeats 8000000 in
theorem fresh10 (w : World) : Calls Tryz.prog 30 #[] w fun e w' => e = .returned (.bool true) ∧ Aft w w' := by
  go_enter Tryz.func30, Tryz.ntmps30
  go_wp2_with fail
  refine (new10 _).mono ?_
  rintro e w1 ⟨b, rfl, a1, H1⟩
  obtain ⟨X, hX⟩ : ∃ V, V = w1.alloc (.cells #[.int .i64 0, .int .i64 0, .slice none 0 0, .slice none 0 0, .slice (some ⟨b, 0, none⟩) 1 1, .slice none 0 0, .slice none 0 0] 66) := ⟨_, rfl⟩
  have aX : Aft w1 X := by rw [hX]; exact (Aft.refl _).alloc _
  have RX : RowAt X w1.heap.size [.int .i64 0, .int .i64 0, .slice none 0 0, .slice none 0 0, .slice (some ⟨b, 0, none⟩) 1 1, .slice none 0 0, .slice none 0 0] := by rw [hX]; exact box_row2 (Aft.refl _)
  have C1 := Lib.hid (show Calls Tryz.prog 29 #[.agg #[.int .i64 0, .int .i64 0, .slice none 0 0, .slice none 0 0, .slice (some ⟨b, 0, none⟩) 1 1, .slice none 0 0, .slice none 0 0]] X fun e w'' => e = .returned (.int .i64 0) ∧ Aft X w'' from (check10 newC none 0 none 0 (some ⟨b, 0, none⟩) 1 none 0 none 0 X (H1.aft aX)).mono fun e w'' ⟨he, hw⟩ => ⟨he.trans (by rw [newC_right]; rfl), hw⟩)
  have AX := Lib.hid (a1.trans aX)
  obtain ⟨b', off', hA', hbb, c0, hs⟩ := str_at (H1.aft aX).nam (show 0 < newC.rols.names.length by decide)
  simp only [Option.some.injEq, Addr.mk.injEq, and_true] at hA'
  obtain ⟨rfl, rfl⟩ := hA'
  have c0 : X.cell? ⟨b, 0, none⟩ = some (.string ⟨#[114, 111, 111, 116]⟩) := c0
  obtain ⟨x0, x1, x2, x3, x4, x5, x6, xz⟩ := rowF7 RX
  have HX := Lib.hid hX
  rw [hX] at c0 hbb x0 x1 x2 x3 x4 x5 x6 xz
  clear a1 H1 aX RX hs hX
  go_wp2_with fail
  rw [← HX.out]
  refine C1.out.mono ?_
  rintro e w2 ⟨rfl, a2⟩
  have A2 := Lib.hid (AX.out.trans a2)
  clear a2
  go_wp2_with fail
  go_ret
  exact ⟨rfl, A2.out⟩
set_option maxHeartbeats 16000000 in
theorem law_checks10 (c : Cat) (As : Option Addr) (caps : Nat) (At : Option Addr) (capt : Nat) (An : Option Addr) (capn : Nat) (Am : Option Addr) (capm : Nat) (Ag : Option Addr) (capg : Nat) (w : World) (H : CatAt w c As caps At capt An capn Am capm Ag capg) :
    Calls Tryz.prog 5 #[.agg #[.int .i64 c.epoch, .int .i64 c.version, .slice As c.objs.schemas.length caps, .slice At c.objs.tables.length capt, .slice An c.rols.names.length capn, .slice Am c.rols.members.length capm, .slice Ag c.grants.length capg]] w fun e w' => e = .returned (.bool true) ∧ Aft w w' := by
  obtain ⟨W, hW⟩ : ∃ W, W = w.alloc (.cells #[.int .i64 c.epoch, .int .i64 c.version, .slice As c.objs.schemas.length caps, .slice At c.objs.tables.length capt, .slice An c.rols.names.length capn, .slice Am c.rols.members.length capm, .slice Ag c.grants.length capg] 66) := ⟨_, rfl⟩
  have aW : Aft w W := by rw [hW]; exact (Aft.refl w).alloc _
  have r0 : RowAt W (w.heap.size) [.int .i64 c.epoch, .int .i64 c.version, .slice As c.objs.schemas.length caps, .slice At c.objs.tables.length capt, .slice An c.rols.names.length capn, .slice Am c.rols.members.length capm, .slice Ag c.grants.length capg] := by rw [hW]; exact box_at (Aft.refl _) (by simp)
  have l1 : w.heap.size < w.heap.size + 1 := by omega
  obtain ⟨r, hr⟩ : ∃ b, rightC c = b := ⟨_, rfl⟩
  obtain ⟨z, hz⟩ : ∃ z : Int, (if rightC c = true then (0 : Int) else 1) = z := ⟨_, rfl⟩
  have HZ := Lib.hid (show (r = true ∧ z = 0) ∨ (r = false ∧ z = 1) from by rw [← hz, hr]; cases r <;> simp)
  have C1 := Lib.hid (show ∀ V, CatAt V c As caps At capt An capn Am capm Ag capg → Calls Tryz.prog 29 #[.agg #[.int .i64 c.epoch, .int .i64 c.version, .slice As c.objs.schemas.length caps, .slice At c.objs.tables.length capt, .slice An c.rols.names.length capn, .slice Am c.rols.members.length capm, .slice Ag c.grants.length capg]] V fun e w'' => e = .returned (.int .i64 z) ∧ Aft V w'' from fun V a => (check10 c As caps At capt An capn Am capm Ag capg V a).mono fun e w'' ⟨he, hw⟩ => ⟨he.trans (by rw [hz]), hw⟩)
  have C2 := Lib.hid (show ∀ V Os Ocs Ot Oct On Ocn Om Ocm Og Ocg, CatAt V c Os Ocs Ot Oct On Ocn Om Ocm Og Ocg → Calls Tryz.prog 34 #[.agg #[.int .i64 c.epoch, .int .i64 c.version, .slice Os c.objs.schemas.length Ocs, .slice Ot c.objs.tables.length Oct, .slice On c.rols.names.length Ocn, .slice Om c.rols.members.length Ocm, .slice Og c.grants.length Ocg]] V fun e w'' => e = .returned (.bool r) ∧ Aft V w'' from fun V Os Ocs Ot Oct On Ocn Om Ocm Og Ocg a => (rright10 c Os Ocs Ot Oct On Ocn Om Ocm Og Ocg V a).mono fun e w'' ⟨he, hw⟩ => ⟨he.trans (by rw [hr]), hw⟩)
  have C3 := Lib.hid (show ∀ V Os Ocs Ot Oct On Ocn Om Ocm Og Ocg, CatAt V c As caps At capt An capn Am capm Ag capg → CatAt V c Os Ocs Ot Oct On Ocn Om Ocm Og Ocg → Calls Tryz.prog 31 #[.agg #[.int .i64 c.epoch, .int .i64 c.version, .slice As c.objs.schemas.length caps, .slice At c.objs.tables.length capt, .slice An c.rols.names.length capn, .slice Am c.rols.members.length capm, .slice Ag c.grants.length capg], .agg #[.int .i64 c.epoch, .int .i64 c.version, .slice Os c.objs.schemas.length Ocs, .slice Ot c.objs.tables.length Oct, .slice On c.rols.names.length Ocn, .slice Om c.rols.members.length Ocm, .slice Og c.grants.length Ocg]] V fun e w'' => e = .returned (.bool true) ∧ Aft V w'' from fun V Os Ocs Ot Oct On Ocn Om Ocm Og Ocg a b => same9 c As caps At capt An capn Am capm Ag capg Os Ocs Ot Oct On Ocn Om Ocm Og Ocg V a b)
  have C4 := Lib.hid (show ∀ V a b, CatAt V newC none 0 none 0 (some ⟨a, 0, none⟩) 1 none 0 none 0 → CatAt V newC none 0 none 0 (some ⟨b, 0, none⟩) 1 none 0 none 0 → Calls Tryz.prog 31 #[.agg #[.int .i64 0, .int .i64 0, .slice none 0 0, .slice none 0 0, .slice (some ⟨a, 0, none⟩) 1 1, .slice none 0 0, .slice none 0 0], .agg #[.int .i64 0, .int .i64 0, .slice none 0 0, .slice none 0 0, .slice (some ⟨b, 0, none⟩) 1 1, .slice none 0 0, .slice none 0 0]] V fun e w'' => e = .returned (.bool true) ∧ Aft V w'' from fun V a b h1 h2 => same9 newC none 0 none 0 (some ⟨a, 0, none⟩) 1 none 0 none 0 none 0 none 0 (some ⟨b, 0, none⟩) 1 none 0 none 0 V h1 h2)
  clear hr hz
  have HAW := Lib.hid aW
  have Bx0 := Lib.hid r0
  have Kc0 := Lib.hid (H.aft aW)
  have HSM := Lib.hid H.sm
  have CL := Lib.hid (large9 c As caps At capt An capn Am capm Ag capg W (H.aft aW))
  clear H
  obtain ⟨x0, x1, x2, x3, x4, x5, x6, xz⟩ := rowF7 Bx0.out
  clear r0 aW
  go_enter Tryz.func5, Tryz.ntmps5
  go_wp2_with fail
  rw [← hW]
  clear hW
  go_wp2_with fail
  refine CL.out.mono ?_
  rintro e w1 ⟨bg, rfl, hmod, a1⟩
  have HM := Lib.hid hmod
  clear x0 x1 x2 x3 x4 x5 x6 xz 
  have Bx1 := Lib.hid (Bx0.out.aft a1)
  have Kc1 := Lib.hid (Kc0.out.aft a1)
  have AT1 := Lib.hid (HAW.out.trans a1)
  clear a1 CL hmod
  obtain ⟨x0, x1, x2, x3, x4, x5, x6, xz⟩ := rowF7 Bx1.out
  cases bg
  case true =>
    go_wp2_with fail
    go_ret
    exact ⟨rfl, AT1.out⟩
  have hmo := HM.out rfl
  have CO := Lib.hid (own9 c As caps At capt An capn Am capm Ag capg w1 Kc1.out hmo.obj (by have := hmo.nam; omega) (by have := hmo.mem; omega) (by have := hmo.gra; omega))
  clear hmo HM
  go_wp2_with fail
  refine CO.out.mono ?_
  rintro e w2 ⟨hOs, hOt, hOn, hOm, hOg, LO, rfl, a2, ciO⟩
  obtain ⟨Os, nOs, Ocs⟩ := hOs
  obtain ⟨Ot, nOt, Oct⟩ := hOt
  obtain ⟨On, nOn, Ocn⟩ := hOn
  obtain ⟨Om, nOm, Ocm⟩ := hOm
  obtain ⟨Og, nOg, Ocg⟩ := hOg
  simp only [CatV]
  have KO0 := Lib.hid (show CatAt w2 c Os Ocs Ot Oct On Ocn Om Ocm Og Ocg from ciO.at HSM.out)
  clear x0 x1 x2 x3 x4 x5 x6 xz 
  have Bx2 := Lib.hid (Bx1.out.aft a2)
  have Kc2 := Lib.hid (Kc1.out.aft a2)
  have AT2 := Lib.hid (AT1.out.trans a2)
  clear a2 ciO CO
  obtain ⟨x0, x1, x2, x3, x4, x5, x6, xz⟩ := rowF7 Bx2.out
  clear x0 x1 x2 x3 x4 x5 x6 xz 
  obtain ⟨X2, hX2⟩ : ∃ V, V = w2.alloc (.cells #[.int .i64 c.epoch, .int .i64 c.version, .slice Os c.objs.schemas.length Ocs, .slice Ot c.objs.tables.length Oct, .slice On c.rols.names.length Ocn, .slice Om c.rols.members.length Ocm, .slice Og c.grants.length Ocg] 66) := ⟨_, rfl⟩
  have aX2 : Aft w2 X2 := by rw [hX2]; exact (Aft.refl _).alloc _
  have RX2 := Lib.hid (show RowAt X2 w2.heap.size [.int .i64 c.epoch, .int .i64 c.version, .slice Os c.objs.schemas.length Ocs, .slice Ot c.objs.tables.length Oct, .slice On c.rols.names.length Ocn, .slice Om c.rols.members.length Ocm, .slice Og c.grants.length Ocg] by rw [hX2]; exact box_row2 (Aft.refl _))
  have Bx3 := Lib.hid (Bx2.out.aft aX2)
  have Kc3 := Lib.hid (Kc2.out.aft aX2)
  have KO3 := Lib.hid (KO0.out.aft aX2)
  have AT3 := Lib.hid (AT2.out.trans aX2)
  obtain ⟨x0, x1, x2, x3, x4, x5, x6, xz⟩ := rowF7 Bx3.out
  obtain ⟨o0, o1, o2, o3, o4, o5, o6, oz⟩ := rowF7 RX2.out
  rw [hX2] at x0 x1 x2 x3 x4 x5 x6 xz o0 o1 o2 o3 o4 o5 o6 oz
  go_wp2_with fail
  rw [← hX2]
  clear x0 x1 x2 x3 x4 x5 x6 xz o0 o1 o2 o3 o4 o5 o6 oz hX2 aX2
  obtain ⟨x0, x1, x2, x3, x4, x5, x6, xz⟩ := rowF7 Bx3.out
  obtain ⟨o0, o1, o2, o3, o4, o5, o6, oz⟩ := rowF7 RX2.out
  refine (C1.out _ Kc3.out).mono ?_
  rintro e w3 ⟨rfl, a3⟩
  clear x0 x1 x2 x3 x4 x5 x6 xz o0 o1 o2 o3 o4 o5 o6 oz 
  have Bx4 := Lib.hid (Bx3.out.aft a3)
  have Bo4 := Lib.hid (RX2.out.aft a3)
  have Kc4 := Lib.hid (Kc3.out.aft a3)
  have KO4 := Lib.hid (KO3.out.aft a3)
  have AT4 := Lib.hid (AT3.out.trans a3)
  clear a3 
  obtain ⟨x0, x1, x2, x3, x4, x5, x6, xz⟩ := rowF7 Bx4.out
  obtain ⟨o0, o1, o2, o3, o4, o5, o6, oz⟩ := rowF7 Bo4.out
  go_wp2_with fail
  refine (fresh10 _).mono ?_
  rintro e w4 ⟨rfl, a4⟩
  clear x0 x1 x2 x3 x4 x5 x6 xz o0 o1 o2 o3 o4 o5 o6 oz 
  have Bx5 := Lib.hid (Bx4.out.aft a4)
  have Bo5 := Lib.hid (Bo4.out.aft a4)
  have Kc5 := Lib.hid (Kc4.out.aft a4)
  have KO5 := Lib.hid (KO4.out.aft a4)
  have AT5 := Lib.hid (AT4.out.trans a4)
  clear a4 
  obtain ⟨x0, x1, x2, x3, x4, x5, x6, xz⟩ := rowF7 Bx5.out
  obtain ⟨o0, o1, o2, o3, o4, o5, o6, oz⟩ := rowF7 Bo5.out
  go_wp2_with fail
  refine (new10 _).mono ?_
  rintro e w5 ⟨b1, rfl, a5, N1⟩
  have KN0 := Lib.hid N1
  clear N1
  clear x0 x1 x2 x3 x4 x5 x6 xz o0 o1 o2 o3 o4 o5 o6 oz 
  have Bx6 := Lib.hid (Bx5.out.aft a5)
  have Bo6 := Lib.hid (Bo5.out.aft a5)
  have Kc6 := Lib.hid (Kc5.out.aft a5)
  have KO6 := Lib.hid (KO5.out.aft a5)
  have AT6 := Lib.hid (AT5.out.trans a5)
  clear a5 
  obtain ⟨x0, x1, x2, x3, x4, x5, x6, xz⟩ := rowF7 Bx6.out
  obtain ⟨o0, o1, o2, o3, o4, o5, o6, oz⟩ := rowF7 Bo6.out
  go_wp2_with fail
  refine (rnew10 _).mono ?_
  rintro e w6 ⟨b2, rfl, a6, N2⟩
  have KM0 := Lib.hid N2
  clear N2
  clear x0 x1 x2 x3 x4 x5 x6 xz o0 o1 o2 o3 o4 o5 o6 oz 
  have Bx7 := Lib.hid (Bx6.out.aft a6)
  have Bo7 := Lib.hid (Bo6.out.aft a6)
  have Kc7 := Lib.hid (Kc6.out.aft a6)
  have KO7 := Lib.hid (KO6.out.aft a6)
  have Kn7 := Lib.hid (KN0.out.aft a6)
  have AT7 := Lib.hid (AT6.out.trans a6)
  clear a6 
  obtain ⟨x0, x1, x2, x3, x4, x5, x6, xz⟩ := rowF7 Bx7.out
  obtain ⟨o0, o1, o2, o3, o4, o5, o6, oz⟩ := rowF7 Bo7.out
  go_wp2_with fail
  refine (C4.out _ _ _ Kn7.out KM0.out).mono ?_
  rintro e w7 ⟨rfl, a7⟩
  clear x0 x1 x2 x3 x4 x5 x6 xz o0 o1 o2 o3 o4 o5 o6 oz 
  have Bx8 := Lib.hid (Bx7.out.aft a7)
  have Bo8 := Lib.hid (Bo7.out.aft a7)
  have Kc8 := Lib.hid (Kc7.out.aft a7)
  have KO8 := Lib.hid (KO7.out.aft a7)
  have Kn8 := Lib.hid (Kn7.out.aft a7)
  have Km8 := Lib.hid (KM0.out.aft a7)
  have AT8 := Lib.hid (AT7.out.trans a7)
  clear a7 
  obtain ⟨x0, x1, x2, x3, x4, x5, x6, xz⟩ := rowF7 Bx8.out
  obtain ⟨o0, o1, o2, o3, o4, o5, o6, oz⟩ := rowF7 Bo8.out
  go_wp2_with fail
  refine (C2.out _ _ _ _ _ _ _ _ _ _ _ KO8.out).mono ?_
  rintro e w8 ⟨rfl, a8⟩
  clear x0 x1 x2 x3 x4 x5 x6 xz o0 o1 o2 o3 o4 o5 o6 oz 
  have Bx9 := Lib.hid (Bx8.out.aft a8)
  have Bo9 := Lib.hid (Bo8.out.aft a8)
  have Kc9 := Lib.hid (Kc8.out.aft a8)
  have KO9 := Lib.hid (KO8.out.aft a8)
  have Kn9 := Lib.hid (Kn8.out.aft a8)
  have Km9 := Lib.hid (Km8.out.aft a8)
  have AT9 := Lib.hid (AT8.out.trans a8)
  clear a8 
  obtain ⟨x0, x1, x2, x3, x4, x5, x6, xz⟩ := rowF7 Bx9.out
  obtain ⟨o0, o1, o2, o3, o4, o5, o6, oz⟩ := rowF7 Bo9.out
  rcases HZ.out with ⟨rfl, rfl⟩ | ⟨rfl, rfl⟩
  all_goals
    go_wp2_with fail
    refine (C3.out _ _ _ _ _ _ _ _ _ _ _ Kc9.out KO9.out).mono ?_
    rintro e w9 ⟨rfl, a9⟩
    have A9 := Lib.hid (AT9.out.trans a9)
    clear a9
    go_wp2_with fail
    go_ret
    exact ⟨rfl, A9.out⟩
end Go.Proofs.YtlklmekapbojdaaGreat

