/- Contracts of the program, part 15. -/
import Derived.Deep.RegionHeld3
import Derived.Deep.AppendLies
import Derived.WalkMore
import Derived.Deep.DeepMust
import Derived.OwnWalk
import Derived.Laws.AppendOwn
import Derived.ProofKit
import Derived.OpenShut
import Derived.Deep.Slices
import Derived.ChangeOld
import Derived.SizedLaws
import Derived.WalkKit
import Derived.WalkSpells
import Derived.WalkLawsBesides
import Derived.Lib.Hide
import Derived.Deep.QuietTactic
import Derived.BigQuiet
import Derived.Below
import Derived.Deep.Draws
import Derived.StillTailTactics
import Derived.Laws.Cells
import Derived.Laws.IdiomCopy
import Derived.Test.YtgkhmnamkfgciaaGreatRows
import Derived.Lib.Walk
import Derived.Laws.EntriesVeiled
import Derived.Maps.Own
import Derived.Maps.Views
import Derived.Deep.Upon
import Derived.OneCell
import Derived.OrdersHeld
import Derived.IntWalk
import Derived.Lib.Bytealg
import Derived.Lib.SliceRun
import Derived.Deep.RegionLaw
import Derived.Lib.AppendZerosOnto
import Derived.Lib.Overlaps
import Derived.Shelf.SlSortCmp.WholeK
import Derived.Laws.StructEq
import Derived.WideKeyEntry
import Derived.DeepKeys3
import Derived.ChangeKeys
import Derived.Test.YtgkhmnamkfgciaaGreatPartM1
import Derived.Test.YtgkhmnamkfgciaaGreatPartM2
import Derived.Test.YtgkhmnamkfgciaaGreatPartM3
import Derived.Test.YtgkhmnamkfgciaaGreatPartM4
import Derived.Test.YtgkhmnamkfgciaaGreatPartM5
import Derived.Test.YtgkhmnamkfgciaaGreatPartM6
import Derived.Test.YtgkhmnamkfgciaaGreatPartM7
import Derived.Test.YtgkhmnamkfgciaaGreatPartM8
import Derived.Test.YtgkhmnamkfgciaaGreatPartM9
import Derived.Test.YtgkhmnamkfgciaaGreatPartM10
import Derived.Test.YtgkhmnamkfgciaaGreatPartM11
import Derived.Test.YtgkhmnamkfgciaaGreatPartM12
import Derived.Test.YtgkhmnamkfgciaaGreatPartM13
import Derived.Test.YtgkhmnamkfgciaaGreatPartM14
namespace Go.Proofs.YtgkhmnamkfgciaaGreat
open Go.RowKit Go.Deep
set_option maxRecDepth 100000
set_option linter.unusedVariables false
noncomputable def rightC (c : Cat) : Bool := decide (0 ≤ c.epoch) && decide (c.epoch ≤ 1000) && decide (0 ≤ c.version) && decide (c.version ≤ 1000000000) && wholeB c
def newC : Cat := ⟨0, 0, ⟨[], []⟩, ⟨[bRoot], []⟩, []⟩
theorem newC_right0 : rightR newC.rols = true := by
  unfold rightR newC
  simp only [List.all_nil, Bool.and_true]
  decide +kernel
theorem newC_whole : wholeB newC = true := whole_iff.2 ⟨stands_iff.2 ⟨by decide, ⟨by decide +kernel, newC_right0, by decide +kernel, by decide +kernel⟩, fun g hg => by simp [newC] at hg, rfl⟩, fun g hg => by simp [newC] at hg⟩
theorem newC_right : rightC newC = true := by unfold rightC; rw [newC_whole]; rfl
def NewP (w : World) (e : Ending) (w' : World) : Prop := ∃ b, e = .returned (.agg #[.int .i64 0, .int .i64 0, .slice none 0 0, .slice none 0 0, .slice (some ⟨b, 0, none⟩) 1 1, .slice none 0 0, .slice none 0 0]) ∧ Aft w w' ∧ CatAt w' newC none 0 none 0 (some ⟨b, 0, none⟩) 1 none 0 none 0
set_option maxHeartbeats 4000000 in
theorem new10 (w : World) : Calls Tryz.prog 25 #[] w (NewP w) := by
  have l1 : w.heap.size < w.heap.size + 1 := by omega
  have l2 : w.heap.size < w.heap.size + 1 + 1 := by omega
  go_enter Tryz.func25, Tryz.ntmps25
  go_wp2_with fail
  (try simp only [Exit.inBlock, Exit.then])
  have a6 := ((Aft.refl w).alloc (.cells #[.int .i64 0, .int .i64 0, .slice none 0 0, .slice none 0 0, .slice (some ⟨w.heap.size + 1, 0, none⟩) 1 1, .slice none 0 0, .slice none 0 0] 32)).alloc (.cells #[.string ⟨#[114, 111, 111, 116]⟩] 9)
  refine bodyPost_ret (results_cell (v := .agg #[.int .i64 0, .int .i64 0, .slice none 0 0, .slice none 0 0, .slice (some ⟨w.heap.size + 1, 0, none⟩) 1 1, .slice none 0 0, .slice none 0 0]) rfl _ rfl ?hl) rfl ?_
  case hl => exact lvCat_row (RowAt.up (box_at (Aft.refl _) rfl))
  refine ⟨_, rfl, a6, slAt_nil, slAt_nil, ?n, slAt_nil, slAt_nil⟩
  case n => exact slAt_one _ [.string ⟨#[114, 111, 111, 116]⟩] #[.string ⟨#[114, 111, 111, 116]⟩] (by first | (simp; done) | (simp; omega)) (by intro o; (repeat (refine (World.cell?_alloc_past _ _ _ (by first | (simp; done) | (simp; omega))).trans ?_)); exact World.cell?_alloc_at _ _ _ _ (by simp)) rfl rfl ⟨rfl, by unfold Small; decide⟩ (by omega)
set_option maxHeartbeats 4000000 in
theorem rnew10 (w : World) : Calls Tryz.prog 26 #[] w (NewP w) := by
  have l1 : w.heap.size < w.heap.size + 1 := by omega
  have l2 : w.heap.size < w.heap.size + 1 + 1 := by omega
  go_enter Tryz.func26, Tryz.ntmps26
  go_wp2_with fail
  (try simp only [Exit.inBlock, Exit.then])
  have a6 := ((Aft.refl w).alloc (.cells #[.int .i64 0, .int .i64 0, .slice none 0 0, .slice none 0 0, .slice (some ⟨w.heap.size + 1, 0, none⟩) 1 1, .slice none 0 0, .slice none 0 0] 32)).alloc (.cells #[.string ⟨#[114, 111, 111, 116]⟩] 9)
  refine bodyPost_ret (results_cell (v := .agg #[.int .i64 0, .int .i64 0, .slice none 0 0, .slice none 0 0, .slice (some ⟨w.heap.size + 1, 0, none⟩) 1 1, .slice none 0 0, .slice none 0 0]) rfl _ rfl ?hl) rfl ?_
  case hl => exact lvCat_row (RowAt.up (box_at (Aft.refl _) rfl))
  refine ⟨_, rfl, a6, slAt_nil, slAt_nil, ?n, slAt_nil, slAt_nil⟩
  case n => exact slAt_one _ [.string ⟨#[114, 111, 111, 116]⟩] #[.string ⟨#[114, 111, 111, 116]⟩] (by first | (simp; done) | (simp; omega)) (by intro o; (repeat (refine (World.cell?_alloc_past _ _ _ (by first | (simp; done) | (simp; omega))).trans ?_)); exact World.cell?_alloc_at _ _ _ _ (by simp)) rfl rfl ⟨rfl, by unfold Small; decide⟩ (by omega)
set_option maxHeartbeats 8000000 in
theorem check10 (c : Cat) (As : Option Addr) (caps : Nat) (At : Option Addr) (capt : Nat) (An : Option Addr) (capn : Nat) (Am : Option Addr) (capm : Nat) (Ag : Option Addr) (capg : Nat) (w : World) (H : CatAt w c As caps At capt An capn Am capm Ag capg) :
    Calls Tryz.prog 30 #[.agg #[.int .i64 c.epoch, .int .i64 c.version, .slice As c.objs.schemas.length caps, .slice At c.objs.tables.length capt, .slice An c.rols.names.length capn, .slice Am c.rols.members.length capm, .slice Ag c.grants.length capg]] w fun e w' => e = .returned (.int .i64 (if rightC c = true then 0 else 1)) ∧ Aft w w' := by
  obtain ⟨W, hW⟩ : ∃ W, W = w.alloc (.cells #[.int .i64 c.epoch, .int .i64 c.version, .slice As c.objs.schemas.length caps, .slice At c.objs.tables.length capt, .slice An c.rols.names.length capn, .slice Am c.rols.members.length capm, .slice Ag c.grants.length capg] 32) := ⟨_, rfl⟩
  have aW : Aft w W := by rw [hW]; exact (Aft.refl w).alloc _
  have r0 : RowAt W (w.heap.size) [.int .i64 c.epoch, .int .i64 c.version, .slice As c.objs.schemas.length caps, .slice At c.objs.tables.length capt, .slice An c.rols.names.length capn, .slice Am c.rols.members.length capm, .slice Ag c.grants.length capg] := by rw [hW]; exact box_at (Aft.refl _) (by simp)
  obtain ⟨b, hb⟩ : ∃ b, wholeB c = b := ⟨_, rfl⟩
  obtain ⟨rc, hrc⟩ : ∃ b, rightC c = b := ⟨_, rfl⟩
  obtain ⟨zz, hzz⟩ : ∃ z : Int, (if rightC c = true then (0 : Int) else 1) = z := ⟨_, rfl⟩
  obtain ⟨z, hz⟩ : ∃ z : Int, (if wholeB c = true then (0 : Int) else 1) = z := ⟨_, rfl⟩
  have C1 := Lib.hid (show Calls Tryz.prog 72 #[.agg #[.int .i64 c.epoch, .int .i64 c.version, .slice As c.objs.schemas.length caps, .slice At c.objs.tables.length capt, .slice An c.rols.names.length capn, .slice Am c.rols.members.length capm, .slice Ag c.grants.length capg]] W fun e w'' => e = .returned (.int .i64 z) ∧ Aft W w'' from (checkG c As caps At capt An capn Am capm Ag capg W (H.aft aW)).mono fun e w'' ⟨he, hw⟩ => ⟨he.trans (by rw [hz]), hw⟩)
  have HRES := Lib.hid (show rc = (decide (0 ≤ c.epoch) && decide (c.epoch ≤ 1000) && decide (0 ≤ c.version) && decide (c.version ≤ 1000000000) && b) by rw [← hrc]; unfold rightC; rw [hb])
  have HZ := Lib.hid (show z = if b = true then (0 : Int) else 1 from by rw [← hz, hb])
  have HZZ := Lib.hid (show zz = if rc = true then (0 : Int) else 1 from by rw [← hzz, hrc])
  have HAW := Lib.hid aW
  obtain ⟨ep, hep⟩ : ∃ e, c.epoch = e := ⟨_, rfl⟩
  obtain ⟨ve, hve⟩ : ∃ e, c.version = e := ⟨_, rfl⟩
  obtain ⟨x0, x1, x2, x3, x4, x5, x6, xz⟩ := rowF7 r0
  rw [hzz]
  rw [hep, hve] at HRES C1
  rw [hep] at x0
  rw [hve] at x1
  rw [hep, hve] at hW
  rw [hep, hve]
  clear H aW r0 hb hep hve hrc hz hzz
  by_cases h0 : 0 ≤ ep
  case neg =>
    have g0 : ep < 0 := by omega
    have HR := Lib.hid (show rc = false from by rw [HRES.out, decide_eq_false h0]; simp)
    have HW := Lib.hid hW
    clear h0 hW
    go_enter Tryz.func30, Tryz.ntmps30
    go_wp2_with fail
    go_ret
    exact ⟨by rw [HZZ.out, HR.out]; rfl, by rw [← HW.out]; exact HAW.out⟩
  have g0 : ¬ ep < 0 := by omega
  by_cases h1 : ep ≤ 1000
  case neg =>
    have g1 : 1000 < ep := by omega
    have HR := Lib.hid (show rc = false from by rw [HRES.out, decide_eq_false h1]; simp)
    have HW := Lib.hid hW
    clear h1 hW
    go_enter Tryz.func30, Tryz.ntmps30
    go_wp2_with fail
    go_ret
    exact ⟨by rw [HZZ.out, HR.out]; rfl, by rw [← HW.out]; exact HAW.out⟩
  have g1 : ¬ 1000 < ep := by omega
  by_cases h2 : 0 ≤ ve
  case neg =>
    have g2 : ve < 0 := by omega
    have HR := Lib.hid (show rc = false from by rw [HRES.out, decide_eq_false h2]; simp)
    have HW := Lib.hid hW
    clear h2 hW
    go_enter Tryz.func30, Tryz.ntmps30
    go_wp2_with fail
    go_ret
    exact ⟨by rw [HZZ.out, HR.out]; rfl, by rw [← HW.out]; exact HAW.out⟩
  have g2 : ¬ ve < 0 := by omega
  by_cases h3 : ve ≤ 1000000000
  case neg =>
    have g3 : 1000000000 < ve := by omega
    have HR := Lib.hid (show rc = false from by rw [HRES.out, decide_eq_false h3]; simp)
    have HW := Lib.hid hW
    clear h3 hW
    go_enter Tryz.func30, Tryz.ntmps30
    go_wp2_with fail
    go_ret
    exact ⟨by rw [HZZ.out, HR.out]; rfl, by rw [← HW.out]; exact HAW.out⟩
  have g3 : ¬ 1000000000 < ve := by omega
  have HR := Lib.hid (show rc = b from by rw [HRES.out, decide_eq_true h0, decide_eq_true h1, decide_eq_true h2, decide_eq_true h3]; rfl)
  clear HRES
  go_enter Tryz.func30, Tryz.ntmps30
  go_wp2_with fail
  rw [← hW]
  clear hW
  refine C1.out.mono ?_
  rintro e w1 ⟨rfl, a1⟩
  have A1 := Lib.hid (HAW.out.trans a1)
  clear a1
  go_wp2_with fail
  go_ret
  exact ⟨by rw [HZZ.out, HR.out, HZ.out]; rfl, A1.out⟩
set_option maxHeartbeats 8000000 in
theorem rright10 (c : Cat) (As : Option Addr) (caps : Nat) (At : Option Addr) (capt : Nat) (An : Option Addr) (capn : Nat) (Am : Option Addr) (capm : Nat) (Ag : Option Addr) (capg : Nat) (w : World) (H : CatAt w c As caps At capt An capn Am capm Ag capg) :
    Calls Tryz.prog 43 #[.agg #[.int .i64 c.epoch, .int .i64 c.version, .slice As c.objs.schemas.length caps, .slice At c.objs.tables.length capt, .slice An c.rols.names.length capn, .slice Am c.rols.members.length capm, .slice Ag c.grants.length capg]] w fun e w' => e = .returned (.bool (rightC c)) ∧ Aft w w' := by
  obtain ⟨W, hW⟩ : ∃ W, W = w.alloc (.cells #[.int .i64 c.epoch, .int .i64 c.version, .slice As c.objs.schemas.length caps, .slice At c.objs.tables.length capt, .slice An c.rols.names.length capn, .slice Am c.rols.members.length capm, .slice Ag c.grants.length capg] 32) := ⟨_, rfl⟩
  have aW : Aft w W := by rw [hW]; exact (Aft.refl w).alloc _
  have r0 : RowAt W (w.heap.size) [.int .i64 c.epoch, .int .i64 c.version, .slice As c.objs.schemas.length caps, .slice At c.objs.tables.length capt, .slice An c.rols.names.length capn, .slice Am c.rols.members.length capm, .slice Ag c.grants.length capg] := by rw [hW]; exact box_at (Aft.refl _) (by simp)
  obtain ⟨b, hb⟩ : ∃ b, wholeB c = b := ⟨_, rfl⟩
  obtain ⟨rc, hrc⟩ : ∃ b, rightC c = b := ⟨_, rfl⟩


  have C1 := Lib.hid (show Calls Tryz.prog 79 #[.agg #[.int .i64 c.epoch, .int .i64 c.version, .slice As c.objs.schemas.length caps, .slice At c.objs.tables.length capt, .slice An c.rols.names.length capn, .slice Am c.rols.members.length capm, .slice Ag c.grants.length capg]] W fun e w'' => e = .returned (.bool b) ∧ Aft W w'' from (rwhole c As caps At capt An capn Am capm Ag capg W (H.aft aW)).mono fun e w'' ⟨he, hw⟩ => ⟨he.trans (by rw [hb]), hw⟩)
  have HRES := Lib.hid (show rc = (decide (0 ≤ c.epoch) && decide (c.epoch ≤ 1000) && decide (0 ≤ c.version) && decide (c.version ≤ 1000000000) && b) by rw [← hrc]; unfold rightC; rw [hb])


  have HAW := Lib.hid aW
  obtain ⟨ep, hep⟩ : ∃ e, c.epoch = e := ⟨_, rfl⟩
  obtain ⟨ve, hve⟩ : ∃ e, c.version = e := ⟨_, rfl⟩
  obtain ⟨x0, x1, x2, x3, x4, x5, x6, xz⟩ := rowF7 r0
  rw [hrc]
  rw [hep, hve] at HRES C1
  rw [hep] at x0
  rw [hve] at x1
  rw [hep, hve] at hW
  rw [hep, hve]
  clear H aW r0 hb hep hve hrc 
  by_cases h0 : 0 ≤ ep
  case neg =>
    have g0 : ep < 0 := by omega
    have HR := Lib.hid (show rc = false from by rw [HRES.out, decide_eq_false h0]; simp)
    have HW := Lib.hid hW
    clear h0 hW
    go_enter Tryz.func43, Tryz.ntmps43
    go_wp2_with fail
    go_ret
    exact ⟨by rw [HR.out]; rfl, by rw [← HW.out]; exact HAW.out⟩
  have g0 : ¬ ep < 0 := by omega
  by_cases h1 : ep ≤ 1000
  case neg =>
    have g1 : 1000 < ep := by omega
    have HR := Lib.hid (show rc = false from by rw [HRES.out, decide_eq_false h1]; simp)
    have HW := Lib.hid hW
    clear h1 hW
    go_enter Tryz.func43, Tryz.ntmps43
    go_wp2_with fail
    go_ret
    exact ⟨by rw [HR.out]; rfl, by rw [← HW.out]; exact HAW.out⟩
  have g1 : ¬ 1000 < ep := by omega
  by_cases h2 : 0 ≤ ve
  case neg =>
    have g2 : ve < 0 := by omega
    have HR := Lib.hid (show rc = false from by rw [HRES.out, decide_eq_false h2]; simp)
    have HW := Lib.hid hW
    clear h2 hW
    go_enter Tryz.func43, Tryz.ntmps43
    go_wp2_with fail
    go_ret
    exact ⟨by rw [HR.out]; rfl, by rw [← HW.out]; exact HAW.out⟩
  have g2 : ¬ ve < 0 := by omega
  by_cases h3 : ve ≤ 1000000000
  case neg =>
    have g3 : 1000000000 < ve := by omega
    have HR := Lib.hid (show rc = false from by rw [HRES.out, decide_eq_false h3]; simp)
    have HW := Lib.hid hW
    clear h3 hW
    go_enter Tryz.func43, Tryz.ntmps43
    go_wp2_with fail
    go_ret
    exact ⟨by rw [HR.out]; rfl, by rw [← HW.out]; exact HAW.out⟩
  have g3 : ¬ 1000000000 < ve := by omega
  have HR := Lib.hid (show rc = b from by rw [HRES.out, decide_eq_true h0, decide_eq_true h1, decide_eq_true h2, decide_eq_true h3]; rfl)
  clear HRES
  go_enter Tryz.func43, Tryz.ntmps43
  go_wp2_with fail
  rw [← hW]
  clear hW
  refine C1.out.mono ?_
  rintro e w1 ⟨rfl, a1⟩
  have A1 := Lib.hid (HAW.out.trans a1)
  clear a1
  cases b
  all_goals
    go_wp2_with fail
    go_ret
    exact ⟨by rw [HR.out]; rfl, A1.out⟩
end Go.Proofs.YtgkhmnamkfgciaaGreat

namespace Go.Proofs.YtgkhmnamkfgciaaGreat
open Go.RowKit Go.Deep
set_option maxRecDepth 100000
set_option linter.unusedVariables false
structure Mac where
  cat : Cat
  dones : List Don
  leas : List Lea
  last : Int
theorem SlAt.kb {α : Type} {P : Nat → Prop} {w w' : World} {size : Nat} {R : World → List Value → α → Prop} {A : Option Addr} {cap : Nat} {l : List α} (h : SlAt w size R A cap l) (k : Kb P w w') (hP : ∀ b off, A = some ⟨b, off, none⟩ → 0 < l.length → ¬ P b) (hR : ∀ cs x, R w cs x → R w' cs x) : SlAt w' size R A cap l :=
  ⟨h.1, h.2.1, fun i hi => by
    obtain ⟨b, off, cs, hA, hb, hl, hr, hc⟩ := h.2.2 i hi
    have e := k.block b hb (hP b off hA (by omega))
    refine ⟨b, off, cs, hA, Nat.lt_of_lt_of_le hb k.size, hl, hR _ _ hr, fun j hj => ?_⟩
    rw [← hc j hj]
    unfold World.cell?
    simp only [e]⟩
noncomputable def machB (m : Mac) : Bool := decide (m.dones.length ≤ 4) && decide (m.leas.length ≤ 64) && wiB m.last 0 1000000000 && rightC m.cat && ordB Don.client (donP m.cat.epoch m.cat.version) m.dones && ordB Lea.seq (leaP m.cat.epoch m.last) m.leas
structure MacAt (w : World) (m : Mac) (As : Option Addr) (caps : Nat) (At : Option Addr) (capt : Nat) (An : Option Addr) (capn : Nat) (Am : Option Addr) (capm : Nat) (Ag : Option Addr) (capg : Nat) (Ad : Option Addr) (capd : Nat) (Al : Option Addr) (capl : Nat) : Prop where
  cat : CatAt w m.cat As caps At capt An capn Am capm Ag capg
  don : SlAt w 5 DonR Ad capd m.dones
  lea : SlAt w 4 LeaR Al capl m.leas
theorem MacAt.aft {w w' : World} {m : Mac} {As : Option Addr} {caps : Nat} {At : Option Addr} {capt : Nat} {An : Option Addr} {capn : Nat} {Am : Option Addr} {capm : Nat} {Ag : Option Addr} {capg : Nat} {Ad : Option Addr} {capd : Nat} {Al : Option Addr} {capl : Nat} (h : MacAt w m As caps At capt An capn Am capm Ag capg Ad capd Al capl) (a : Aft w w') : MacAt w' m As caps At capt An capn Am capm Ag capg Ad capd Al capl := ⟨h.cat.aft a, dons_aft a h.don, leas_aft a h.lea⟩
theorem rowF10 {w : World} {p : Nat} {a b c d e f g h i j : Value} (R : RowAt w p [a, b, c, d, e, f, g, h, i, j]) : w.cell? ⟨p, 0, none⟩ = some a ∧ w.cell? ⟨p, 1, none⟩ = some b ∧ w.cell? ⟨p, 2, none⟩ = some c ∧ w.cell? ⟨p, 3, none⟩ = some d ∧ w.cell? ⟨p, 4, none⟩ = some e ∧ w.cell? ⟨p, 5, none⟩ = some f ∧ w.cell? ⟨p, 6, none⟩ = some g ∧ w.cell? ⟨p, 7, none⟩ = some h ∧ w.cell? ⟨p, 8, none⟩ = some i ∧ w.cell? ⟨p, 9, none⟩ = some j ∧ p < w.heap.size := ⟨R.cell (j := 0) rfl, R.cell (j := 1) rfl, R.cell (j := 2) rfl, R.cell (j := 3) rfl, R.cell (j := 4) rfl, R.cell (j := 5) rfl, R.cell (j := 6) rfl, R.cell (j := 7) rfl, R.cell (j := 8) rfl, R.cell (j := 9) rfl, R.1⟩
theorem lvMac_row {W : World} {p : Nat} {a b c d e f g h i j : Value} (R : RowAt W p [a, b, c, d, e, f, g, h, i, j]) : (loadVar 36 ⟨p, 0, none⟩).run Tryz.prog W = .ok (.agg #[a, b, c, d, e, f, g, h, i, j]) W := by
  obtain ⟨e0, e1, e2, e3, e4, e5, e6, e7, e8, e9, _⟩ := rowF10 R
  have h1 := run_lvMac W p 0 (by rw [e0]; rfl) (by rw [e1]; rfl) (by rw [e2]; rfl) (by rw [e3]; rfl) (by rw [e4]; rfl) (by rw [e5]; rfl) (by rw [e6]; rfl) (by rw [e7]; rfl) (by rw [e8]; rfl) (by rw [e9]; rfl)
  rw [e0, e1, e2, e3, e4, e5, e6, e7, e8, e9] at h1
  exact h1
def newM : Mac := ⟨newC, [], [], 0⟩
theorem newM_right : machB newM = true := by unfold machB; rw [show newM.cat = newC from rfl, newC_right]; rfl
def NewMP (w : World) (e : Ending) (w' : World) : Prop := ∃ b, e = .returned (.agg #[.int .i64 0, .int .i64 0, .slice none 0 0, .slice none 0 0, .slice (some ⟨b, 0, none⟩) 1 1, .slice none 0 0, .slice none 0 0, .slice none 0 0, .slice none 0 0, .int .i64 0]) ∧ Aft w w' ∧ MacAt w' newM none 0 none 0 (some ⟨b, 0, none⟩) 1 none 0 none 0 none 0 none 0
set_option maxHeartbeats 4000000 in
theorem mnew (w : World) : Calls Tryz.prog 12 #[] w (NewMP w) := by
  obtain ⟨W, hW⟩ : ∃ W, W = w.alloc (.cells #[.int .i64 0, .int .i64 0, .slice none 0 0, .slice none 0 0, .slice none 0 0, .slice none 0 0, .slice none 0 0, .slice none 0 0, .slice none 0 0, .int .i64 0] 36) := ⟨_, rfl⟩
  have aW : Aft w W := by rw [hW]; exact (Aft.refl w).alloc _
  have r0 : RowAt W w.heap.size [.int .i64 0, .int .i64 0, .slice none 0 0, .slice none 0 0, .slice none 0 0, .slice none 0 0, .slice none 0 0, .slice none 0 0, .slice none 0 0, .int .i64 0] := by rw [hW]; exact box_row2 (Aft.refl _)
  have HR := Lib.hid r0
  have HAW := Lib.hid aW
  clear r0 aW
  go_enter Tryz.func12, Tryz.ntmps12
  go_wp2_with fail
  rw [← hW]
  clear hW
  refine (new10 _).mono ?_
  rintro e w1 ⟨b, rfl, a1, H1⟩
  have R1 := HR.out.aft a1
  obtain ⟨x0, x1, x2, x3, x4, x5, x6, x7, x8, x9, xz⟩ := rowF10 R1
  have f0 := R1.2.2 0 (by simp)
  have f1 := R1.2.2 1 (by simp)
  have f2 := R1.2.2 2 (by simp)
  have f3 := R1.2.2 3 (by simp)
  have f4 := R1.2.2 4 (by simp)
  have f5 := R1.2.2 5 (by simp)
  have f6 := R1.2.2 6 (by simp)
  have f7 := R1.2.2 7 (by simp)
  have f8 := R1.2.2 8 (by simp)
  have f9 := R1.2.2 9 (by simp)
  have HH := Lib.hid H1
  have HA := Lib.hid (HAW.out.trans a1)
  have HR1 := Lib.hid R1
  clear a1 H1 R1
  go_wp2_with fail
  obtain ⟨F, hF⟩ : ∃ F, F = (((((((((w1.setCell ⟨w.heap.size, 0, none⟩ (.int .i64 0)).setCell ⟨w.heap.size, 1, none⟩ (.int .i64 0)).setCell ⟨w.heap.size, 2, none⟩ (.slice none 0 0)).setCell ⟨w.heap.size, 3, none⟩ (.slice none 0 0)).setCell ⟨w.heap.size, 4, none⟩ (.slice (some ⟨b, 0, none⟩) 1 1)).setCell ⟨w.heap.size, 5, none⟩ (.slice none 0 0)).setCell ⟨w.heap.size, 6, none⟩ (.slice none 0 0)).setCell ⟨w.heap.size, 7, none⟩ (.slice none 0 0)).setCell ⟨w.heap.size, 8, none⟩ (.slice none 0 0)).setCell ⟨w.heap.size, 9, none⟩ (.int .i64 0) := ⟨_, rfl⟩
  have kF : Kb (fun g => g = w.heap.size) w1 F := by rw [hF]; exact (((((((((Kb.set _ _ _ _).trans (Kb.set _ _ _ _)).trans (Kb.set _ _ _ _)).trans (Kb.set _ _ _ _)).trans (Kb.set _ _ _ _)).trans (Kb.set _ _ _ _)).trans (Kb.set _ _ _ _)).trans (Kb.set _ _ _ _)).trans (Kb.set _ _ _ _)).trans (Kb.set _ _ _ _)
  have rF : RowAt F w.heap.size [.int .i64 0, .int .i64 0, .slice none 0 0, .slice none 0 0, .slice (some ⟨b, 0, none⟩) 1 1, .slice none 0 0, .slice none 0 0, .slice none 0 0, .slice none 0 0, .int .i64 0] := by rw [hF]; exact (((((((((HR1.out.set 0 _ (by simp)).set 1 _ (by simp)).set 2 _ (by simp)).set 3 _ (by simp)).set 4 _ (by simp)).set 5 _ (by simp)).set 6 _ (by simp)).set 7 _ (by simp)).set 8 _ (by simp)).set 9 _ (by simp)
  rw [← hF]
  refine bodyPost_ret (results_cell (v := .agg #[.int .i64 0, .int .i64 0, .slice none 0 0, .slice none 0 0, .slice (some ⟨b, 0, none⟩) 1 1, .slice none 0 0, .slice none 0 0, .slice none 0 0, .slice none 0 0, .int .i64 0]) rfl _ rfl (lvMac_row rF)) rfl ?_
  refine ⟨b, rfl, kF.to_aft HA.out (fun g hg e => by have e : g = w.heap.size := e; omega), ⟨⟨slAt_nil, slAt_nil, HH.out.nam.kb kF (fun b' off e _ h => ?_) (fun _ _ h => h), slAt_nil, slAt_nil⟩, slAt_nil, slAt_nil⟩⟩
  simp only [Option.some.injEq, Addr.mk.injEq, and_true] at e
  obtain ⟨rfl, rfl⟩ := e
  have h : b = w.heap.size := h
  obtain ⟨b', off', hA', _, c0, _⟩ := str_at HH.out.nam (show 0 < newM.cat.rols.names.length by decide)
  simp only [Option.some.injEq, Addr.mk.injEq, and_true] at hA'
  obtain ⟨rfl, rfl⟩ := hA'
  subst h
  have c1 := HR1.out.cell (j := 0) rfl
  rw [Nat.add_zero, c1] at c0
  cases c0
set_option maxHeartbeats 4000000 in
theorem rnew19 (w : World) : Calls Tryz.prog 13 #[] w (NewMP w) := by
  obtain ⟨W, hW⟩ : ∃ W, W = w.alloc (.cells #[.int .i64 0, .int .i64 0, .slice none 0 0, .slice none 0 0, .slice none 0 0, .slice none 0 0, .slice none 0 0, .slice none 0 0, .slice none 0 0, .int .i64 0] 36) := ⟨_, rfl⟩
  have aW : Aft w W := by rw [hW]; exact (Aft.refl w).alloc _
  have r0 : RowAt W w.heap.size [.int .i64 0, .int .i64 0, .slice none 0 0, .slice none 0 0, .slice none 0 0, .slice none 0 0, .slice none 0 0, .slice none 0 0, .slice none 0 0, .int .i64 0] := by rw [hW]; exact box_row2 (Aft.refl _)
  have HR := Lib.hid r0
  have HAW := Lib.hid aW
  clear r0 aW
  go_enter Tryz.func13, Tryz.ntmps13
  go_wp2_with fail
  rw [← hW]
  clear hW
  refine (rnew10 _).mono ?_
  rintro e w1 ⟨b, rfl, a1, H1⟩
  have R1 := HR.out.aft a1
  obtain ⟨x0, x1, x2, x3, x4, x5, x6, x7, x8, x9, xz⟩ := rowF10 R1
  have f0 := R1.2.2 0 (by simp)
  have f1 := R1.2.2 1 (by simp)
  have f2 := R1.2.2 2 (by simp)
  have f3 := R1.2.2 3 (by simp)
  have f4 := R1.2.2 4 (by simp)
  have f5 := R1.2.2 5 (by simp)
  have f6 := R1.2.2 6 (by simp)
  have f7 := R1.2.2 7 (by simp)
  have f8 := R1.2.2 8 (by simp)
  have f9 := R1.2.2 9 (by simp)
  have HH := Lib.hid H1
  have HA := Lib.hid (HAW.out.trans a1)
  have HR1 := Lib.hid R1
  clear a1 H1 R1
  go_wp2_with fail
  obtain ⟨F, hF⟩ : ∃ F, F = (((((((((w1.setCell ⟨w.heap.size, 0, none⟩ (.int .i64 0)).setCell ⟨w.heap.size, 1, none⟩ (.int .i64 0)).setCell ⟨w.heap.size, 2, none⟩ (.slice none 0 0)).setCell ⟨w.heap.size, 3, none⟩ (.slice none 0 0)).setCell ⟨w.heap.size, 4, none⟩ (.slice (some ⟨b, 0, none⟩) 1 1)).setCell ⟨w.heap.size, 5, none⟩ (.slice none 0 0)).setCell ⟨w.heap.size, 6, none⟩ (.slice none 0 0)).setCell ⟨w.heap.size, 7, none⟩ (.slice none 0 0)).setCell ⟨w.heap.size, 8, none⟩ (.slice none 0 0)).setCell ⟨w.heap.size, 9, none⟩ (.int .i64 0) := ⟨_, rfl⟩
  have kF : Kb (fun g => g = w.heap.size) w1 F := by rw [hF]; exact (((((((((Kb.set _ _ _ _).trans (Kb.set _ _ _ _)).trans (Kb.set _ _ _ _)).trans (Kb.set _ _ _ _)).trans (Kb.set _ _ _ _)).trans (Kb.set _ _ _ _)).trans (Kb.set _ _ _ _)).trans (Kb.set _ _ _ _)).trans (Kb.set _ _ _ _)).trans (Kb.set _ _ _ _)
  have rF : RowAt F w.heap.size [.int .i64 0, .int .i64 0, .slice none 0 0, .slice none 0 0, .slice (some ⟨b, 0, none⟩) 1 1, .slice none 0 0, .slice none 0 0, .slice none 0 0, .slice none 0 0, .int .i64 0] := by rw [hF]; exact (((((((((HR1.out.set 0 _ (by simp)).set 1 _ (by simp)).set 2 _ (by simp)).set 3 _ (by simp)).set 4 _ (by simp)).set 5 _ (by simp)).set 6 _ (by simp)).set 7 _ (by simp)).set 8 _ (by simp)).set 9 _ (by simp)
  rw [← hF]
  refine bodyPost_ret (results_cell (v := .agg #[.int .i64 0, .int .i64 0, .slice none 0 0, .slice none 0 0, .slice (some ⟨b, 0, none⟩) 1 1, .slice none 0 0, .slice none 0 0, .slice none 0 0, .slice none 0 0, .int .i64 0]) rfl _ rfl (lvMac_row rF)) rfl ?_
  refine ⟨b, rfl, kF.to_aft HA.out (fun g hg e => by have e : g = w.heap.size := e; omega), ⟨⟨slAt_nil, slAt_nil, HH.out.nam.kb kF (fun b' off e _ h => ?_) (fun _ _ h => h), slAt_nil, slAt_nil⟩, slAt_nil, slAt_nil⟩⟩
  simp only [Option.some.injEq, Addr.mk.injEq, and_true] at e
  obtain ⟨rfl, rfl⟩ := e
  have h : b = w.heap.size := h
  obtain ⟨b', off', hA', _, c0, _⟩ := str_at HH.out.nam (show 0 < newM.cat.rols.names.length by decide)
  simp only [Option.some.injEq, Addr.mk.injEq, and_true] at hA'
  obtain ⟨rfl, rfl⟩ := hA'
  subst h
  have c1 := HR1.out.cell (j := 0) rfl
  rw [Nat.add_zero, c1] at c0
  cases c0
set_option maxHeartbeats 16000000 in
theorem mcheck (m : Mac) (As : Option Addr) (caps : Nat) (At : Option Addr) (capt : Nat) (An : Option Addr) (capn : Nat) (Am : Option Addr) (capm : Nat) (Ag : Option Addr) (capg : Nat) (Ad : Option Addr) (capd : Nat) (Al : Option Addr) (capl : Nat) (w : World) (H : MacAt w m As caps At capt An capn Am capm Ag capg Ad capd Al capl) :
    Calls Tryz.prog 9 #[.agg #[.int .i64 m.cat.epoch, .int .i64 m.cat.version, .slice As m.cat.objs.schemas.length caps, .slice At m.cat.objs.tables.length capt, .slice An m.cat.rols.names.length capn, .slice Am m.cat.rols.members.length capm, .slice Ag m.cat.grants.length capg, .slice Ad m.dones.length capd, .slice Al m.leas.length capl, .int .i64 m.last]] w fun e w' => e = .returned (.int .i64 (if machB m = true then 0 else 1)) ∧ Aft w w' := by
  obtain ⟨W, hW⟩ : ∃ W, W = (w.alloc (.cells #[.int .i64 m.cat.epoch, .int .i64 m.cat.version, .slice As m.cat.objs.schemas.length caps, .slice At m.cat.objs.tables.length capt, .slice An m.cat.rols.names.length capn, .slice Am m.cat.rols.members.length capm, .slice Ag m.cat.grants.length capg, .slice Ad m.dones.length capd, .slice Al m.leas.length capl, .int .i64 m.last] 36)).alloc (.cells #[.int .i64 m.cat.epoch, .int .i64 m.cat.version, .slice As m.cat.objs.schemas.length caps, .slice At m.cat.objs.tables.length capt, .slice An m.cat.rols.names.length capn, .slice Am m.cat.rols.members.length capm, .slice Ag m.cat.grants.length capg] 32) := ⟨_, rfl⟩
  have aW : Aft w W := by rw [hW]; exact ((Aft.refl w).alloc _).alloc _
  have r0 : RowAt W (w.heap.size) [.int .i64 m.cat.epoch, .int .i64 m.cat.version, .slice As m.cat.objs.schemas.length caps, .slice At m.cat.objs.tables.length capt, .slice An m.cat.rols.names.length capn, .slice Am m.cat.rols.members.length capm, .slice Ag m.cat.grants.length capg, .slice Ad m.dones.length capd, .slice Al m.leas.length capl, .int .i64 m.last] := by rw [hW]; exact RowAt.up (box_at (Aft.refl _) (by simp))
  have r1 : RowAt W (w.heap.size + 1) [.int .i64 m.cat.epoch, .int .i64 m.cat.version, .slice As m.cat.objs.schemas.length caps, .slice At m.cat.objs.tables.length capt, .slice An m.cat.rols.names.length capn, .slice Am m.cat.rols.members.length capm, .slice Ag m.cat.grants.length capg] := by rw [hW]; exact box_at (Aft.refl _) (by simp)
  have hlen := H.don.len
  have hlen2 := H.lea.len
  have hent1 := enters (P := Tryz.prog) Tryz.func35 (by kernel_rfl) rfl
  have hent2 := enters (P := Tryz.prog) Tryz.func39 (by kernel_rfl) rfl
  obtain ⟨b2, hb2⟩ : ∃ b, wiB m.last 0 1000000000 = b := ⟨_, rfl⟩
  obtain ⟨b3, hb3⟩ : ∃ b, rightC m.cat = b := ⟨_, rfl⟩
  obtain ⟨o1, ho1⟩ : ∃ b, ordB Don.client (donP m.cat.epoch m.cat.version) m.dones = b := ⟨_, rfl⟩
  obtain ⟨o2, ho2⟩ : ∃ b, ordB Lea.seq (leaP m.cat.epoch m.last) m.leas = b := ⟨_, rfl⟩
  have HR := Lib.hid (show machB m = (decide (m.dones.length ≤ 4) && decide (m.leas.length ≤ 64) && b2 && b3 && o1 && o2) by unfold machB; rw [hb2, hb3, ho1, ho2])
  have C2 := Lib.hid (fun V => hb2 ▸ mwithin m.last 0 1000000000 V)
  obtain ⟨z3, hz3⟩ : ∃ z : Int, (if rightC m.cat = true then (0 : Int) else 1) = z := ⟨_, rfl⟩
  have HZ3 := Lib.hid (show (b3 = true ∧ z3 = 0) ∨ (b3 = false ∧ z3 = 1) from by rw [← hz3, hb3]; cases b3 <;> simp)
  have C3 := Lib.hid (show Calls Tryz.prog 30 #[.agg #[.int .i64 m.cat.epoch, .int .i64 m.cat.version, .slice As m.cat.objs.schemas.length caps, .slice At m.cat.objs.tables.length capt, .slice An m.cat.rols.names.length capn, .slice Am m.cat.rols.members.length capm, .slice Ag m.cat.grants.length capg]] W fun e w'' => e = .returned (.int .i64 z3) ∧ Aft W w'' from (check10 m.cat As caps At capt An capn Am capm Ag capg W (H.cat.aft aW)).mono fun e w'' ⟨he, hw⟩ => ⟨he.trans (by rw [hz3]), hw⟩)
  have C4 := Lib.hid (show ∀ V, Aft W V → Calls Tryz.prog 33 #[.slice Ad m.dones.length capd, .func (.func 34) #[] #[], .func (.func 35) #[] #[.pointer (some ⟨w.heap.size + 1, 0, none⟩)]] V fun e w'' => e = .returned (.bool o1) ∧ Aft V w'' from fun V a =>
    ho1 ▸ orderedDon Ad capd m.dones 35 #[.pointer (some ⟨w.heap.size + 1, 0, none⟩)] (donP m.cat.epoch m.cat.version) V (dons_aft (aW.trans a) H.don) hent1 (fun V' a' d => by
      have r := r1.aft (a.trans a')
      exact mchk1 d (w.heap.size + 1) m.cat.epoch m.cat.version V' r.1 (Nat.lt_succ_of_lt r.1) (r.cell (j := 0) rfl) (r.cell (j := 1) rfl)))
  have C5 := Lib.hid (show ∀ V, Aft W V → Calls Tryz.prog 37 #[.slice Al m.leas.length capl, .func (.func 38) #[] #[], .func (.func 39) #[] #[.pointer (some ⟨w.heap.size, 0, none⟩), .pointer (some ⟨w.heap.size + 1, 0, none⟩)]] V fun e w'' => e = .returned (.bool o2) ∧ Aft V w'' from fun V a =>
    ho2 ▸ orderedLea Al capl m.leas 39 #[.pointer (some ⟨w.heap.size, 0, none⟩), .pointer (some ⟨w.heap.size + 1, 0, none⟩)] (leaP m.cat.epoch m.last) V (leas_aft (aW.trans a) H.lea) hent2 (fun V' a' d => by
      have r := r1.aft (a.trans a')
      have s := r0.aft (a.trans a')
      exact mchk2 d w.heap.size (w.heap.size + 1) m.cat.epoch m.last V' r.1 (Nat.lt_succ_of_lt r.1) s.1 (Nat.lt_succ_of_lt s.1) (r.cell (j := 0) rfl) (s.cell (j := 9) rfl)))
  have HAW := Lib.hid aW
  have Bx0 := Lib.hid r0
  have By0 := Lib.hid r1
  clear hb2 hb3 ho1 ho2 hz3 H r0 r1 aW hent1 hent2
  have x0 := Bx0.out.cell (j := 0) rfl
  have x1 := Bx0.out.cell (j := 1) rfl
  have x2 := Bx0.out.cell (j := 2) rfl
  have x3 := Bx0.out.cell (j := 3) rfl
  have x4 := Bx0.out.cell (j := 4) rfl
  have x5 := Bx0.out.cell (j := 5) rfl
  have x6 := Bx0.out.cell (j := 6) rfl
  have x7 := Bx0.out.cell (j := 7) rfl
  have x8 := Bx0.out.cell (j := 8) rfl
  have x9 := Bx0.out.cell (j := 9) rfl
  have xz := Bx0.out.1
  obtain ⟨y0, y1, y2, y3, y4, y5, y6, yz⟩ := rowF7 By0.out
  by_cases h0 : m.dones.length ≤ 4
  case neg =>
    have HV := Lib.hid (show (if machB m = true then (0 : Int) else 1) = 1 by rw [HR.out, decide_eq_false h0]; rfl)
    have g0 : ¬ (m.dones.length : Int) ≤ 4 := by omega
    rw [HV.out]
    clear h0
    go_enter Tryz.func9, Tryz.ntmps9
    go_wp2_with fail
    rw [← hW]
    clear hW
    go_wp2_with fail
    go_ret
    exact ⟨rfl, HAW.out⟩
  have g0 : (m.dones.length : Int) ≤ 4 := by omega
  by_cases h1 : m.leas.length ≤ 64
  case neg =>
    have HV := Lib.hid (show (if machB m = true then (0 : Int) else 1) = 1 by rw [HR.out, decide_eq_true h0, decide_eq_false h1]; rfl)
    have g1 : ¬ (m.leas.length : Int) ≤ 64 := by omega
    rw [HV.out]
    clear h0 h1
    go_enter Tryz.func9, Tryz.ntmps9
    go_wp2_with fail
    rw [← hW]
    clear hW
    go_wp2_with fail
    go_ret
    exact ⟨rfl, HAW.out⟩
  have g1 : (m.leas.length : Int) ≤ 64 := by omega
  have HE := Lib.hid (show machB m = (b2 && b3 && o1 && o2) by rw [HR.out, decide_eq_true h0, decide_eq_true h1]; rfl)
  clear h0 h1 HR
  obtain ⟨zz, hzz⟩ : ∃ z : Int, (if machB m = true then (0 : Int) else 1) = z := ⟨_, rfl⟩
  have HZ := Lib.hid (show zz = if (b2 && b3 && o1 && o2) = true then 0 else 1 from by rw [← hzz, HE.out])
  rw [hzz]
  clear hzz
  go_enter Tryz.func9, Tryz.ntmps9
  go_wp2_with fail
  rw [← hW]
  clear hW
  go_wp2_with fail
  refine (C2.out _).mono ?_
  rintro e w9 ⟨rfl, rfl⟩
  cases b2
  case false =>
    go_wp2_with fail
    go_ret
    exact ⟨by rw [HZ.out]; rfl, HAW.out⟩
  go_wp2_with fail
  refine C3.out.mono ?_
  rintro e w1 ⟨rfl, a1⟩
  clear C3
  have AX1 := Lib.hid a1
  clear x0 x1 x2 x3 x4 x5 x6 x7 x8 x9 xz y0 y1 y2 y3 y4 y5 y6 yz 
  have Bx1 := Lib.hid (Bx0.out.aft a1)
  have By1 := Lib.hid (By0.out.aft a1)
  have AT1 := Lib.hid (HAW.out.trans a1)
  clear a1 
  have x0 := Bx1.out.cell (j := 0) rfl
  have x1 := Bx1.out.cell (j := 1) rfl
  have x2 := Bx1.out.cell (j := 2) rfl
  have x3 := Bx1.out.cell (j := 3) rfl
  have x4 := Bx1.out.cell (j := 4) rfl
  have x5 := Bx1.out.cell (j := 5) rfl
  have x6 := Bx1.out.cell (j := 6) rfl
  have x7 := Bx1.out.cell (j := 7) rfl
  have x8 := Bx1.out.cell (j := 8) rfl
  have x9 := Bx1.out.cell (j := 9) rfl
  have xz := Bx1.out.1
  obtain ⟨y0, y1, y2, y3, y4, y5, y6, yz⟩ := rowF7 By1.out
  rcases HZ3.out with ⟨rfl, rfl⟩ | ⟨rfl, rfl⟩
  case inr =>
    go_wp2_with fail
    go_ret
    exact ⟨by rw [HZ.out]; rfl, AT1.out⟩
  go_wp2_with fail
  refine (C4.out _ AX1.out).mono ?_
  rintro e w2 ⟨rfl, a2⟩
  have AX2 := Lib.hid (AX1.out.trans a2)
  clear x0 x1 x2 x3 x4 x5 x6 x7 x8 x9 xz y0 y1 y2 y3 y4 y5 y6 yz 
  have Bx2 := Lib.hid (Bx1.out.aft a2)
  have By2 := Lib.hid (By1.out.aft a2)
  have AT2 := Lib.hid (AT1.out.trans a2)
  clear a2 
  have x0 := Bx2.out.cell (j := 0) rfl
  have x1 := Bx2.out.cell (j := 1) rfl
  have x2 := Bx2.out.cell (j := 2) rfl
  have x3 := Bx2.out.cell (j := 3) rfl
  have x4 := Bx2.out.cell (j := 4) rfl
  have x5 := Bx2.out.cell (j := 5) rfl
  have x6 := Bx2.out.cell (j := 6) rfl
  have x7 := Bx2.out.cell (j := 7) rfl
  have x8 := Bx2.out.cell (j := 8) rfl
  have x9 := Bx2.out.cell (j := 9) rfl
  have xz := Bx2.out.1
  obtain ⟨y0, y1, y2, y3, y4, y5, y6, yz⟩ := rowF7 By2.out
  cases o1
  case false =>
    go_wp2_with fail
    go_ret
    exact ⟨by rw [HZ.out]; rfl, AT2.out⟩
  go_wp2_with fail
  refine (C5.out _ AX2.out).mono ?_
  rintro e w3 ⟨rfl, a3⟩
  have A3 := Lib.hid (AT2.out.trans a3)
  clear a3
  cases o2
  all_goals
    go_wp2_with fail
    go_ret
    exact ⟨by rw [HZ.out]; rfl, A3.out⟩
end Go.Proofs.YtgkhmnamkfgciaaGreat

namespace Go.Proofs.YtgkhmnamkfgciaaGreat
open Go.RowKit Go.Deep
set_option maxRecDepth 100000
set_option linter.unusedVariables false
set_option maxHeartbeats 32000000 in
theorem rright19 (m : Mac) (As : Option Addr) (caps : Nat) (At : Option Addr) (capt : Nat) (An : Option Addr) (capn : Nat) (Am : Option Addr) (capm : Nat) (Ag : Option Addr) (capg : Nat) (Ad : Option Addr) (capd : Nat) (Al : Option Addr) (capl : Nat) (w : World) (H : MacAt w m As caps At capt An capn Am capm Ag capg Ad capd Al capl) :
    Calls Tryz.prog 14 #[.agg #[.int .i64 m.cat.epoch, .int .i64 m.cat.version, .slice As m.cat.objs.schemas.length caps, .slice At m.cat.objs.tables.length capt, .slice An m.cat.rols.names.length capn, .slice Am m.cat.rols.members.length capm, .slice Ag m.cat.grants.length capg, .slice Ad m.dones.length capd, .slice Al m.leas.length capl, .int .i64 m.last]] w fun e w' => e = .returned (.bool (machB m)) ∧ Aft w w' := by
  obtain ⟨W, hW⟩ : ∃ W, W = w.alloc (.cells #[.int .i64 m.cat.epoch, .int .i64 m.cat.version, .slice As m.cat.objs.schemas.length caps, .slice At m.cat.objs.tables.length capt, .slice An m.cat.rols.names.length capn, .slice Am m.cat.rols.members.length capm, .slice Ag m.cat.grants.length capg, .slice Ad m.dones.length capd, .slice Al m.leas.length capl, .int .i64 m.last] 36) := ⟨_, rfl⟩
  have aW : Aft w W := by rw [hW]; exact (Aft.refl w).alloc _
  have r0 : RowAt W (w.heap.size) [.int .i64 m.cat.epoch, .int .i64 m.cat.version, .slice As m.cat.objs.schemas.length caps, .slice At m.cat.objs.tables.length capt, .slice An m.cat.rols.names.length capn, .slice Am m.cat.rols.members.length capm, .slice Ag m.cat.grants.length capg, .slice Ad m.dones.length capd, .slice Al m.leas.length capl, .int .i64 m.last] := by rw [hW]; exact box_at (Aft.refl _) (by simp)
  have hlen := H.don.len
  have hlen2 := H.lea.len
  obtain ⟨b2, hb2⟩ : ∃ b, wiB m.last 0 1000000000 = b := ⟨_, rfl⟩
  obtain ⟨b3, hb3⟩ : ∃ b, rightC m.cat = b := ⟨_, rfl⟩
  obtain ⟨r, hr⟩ : ∃ b, machB m = b := ⟨_, rfl⟩
  have HR := Lib.hid (show r = (decide (m.dones.length ≤ 4) && decide (m.leas.length ≤ 64) && b2 && b3 && ordB Don.client (donP m.cat.epoch m.cat.version) m.dones && ordB Lea.seq (leaP m.cat.epoch m.last) m.leas) by rw [← hr]; unfold machB; rw [hb2, hb3])
  have C2 := Lib.hid (fun V => hb2 ▸ rwithin m.last 0 1000000000 V)
  have C3 := Lib.hid (show Calls Tryz.prog 43 #[.agg #[.int .i64 m.cat.epoch, .int .i64 m.cat.version, .slice As m.cat.objs.schemas.length caps, .slice At m.cat.objs.tables.length capt, .slice An m.cat.rols.names.length capn, .slice Am m.cat.rols.members.length capm, .slice Ag m.cat.grants.length capg]] W fun e w'' => e = .returned (.bool b3) ∧ Aft W w'' from hb3 ▸ rright10 m.cat As caps At capt An capn Am capm Ag capg W (H.cat.aft aW))
  have HDN := Lib.hid (H.don.aft aW fun _ _ h => h)
  have HLE := Lib.hid (H.lea.aft aW fun _ _ h => h)
  have HAW := Lib.hid aW
  have Bx0 := Lib.hid r0
  rw [hr]
  clear hb2 hb3 hr H r0 aW
  have x0 := Bx0.out.cell (j := 0) rfl
  have x1 := Bx0.out.cell (j := 1) rfl
  have x2 := Bx0.out.cell (j := 2) rfl
  have x3 := Bx0.out.cell (j := 3) rfl
  have x4 := Bx0.out.cell (j := 4) rfl
  have x5 := Bx0.out.cell (j := 5) rfl
  have x6 := Bx0.out.cell (j := 6) rfl
  have x7 := Bx0.out.cell (j := 7) rfl
  have x8 := Bx0.out.cell (j := 8) rfl
  have x9 := Bx0.out.cell (j := 9) rfl
  have xz := Bx0.out.1
  by_cases h0 : m.dones.length ≤ 4
  case neg =>
    have HV := Lib.hid (show r = false by rw [HR.out, decide_eq_false h0]; rfl)
    have g0 : (4 : Int) < (m.dones.length : Int) := by omega
    clear h0 HR
    go_enter Tryz.func14, Tryz.ntmps14
    go_wp2_with fail
    rw [← hW]
    clear hW
    go_wp2_with fail
    go_ret
    exact ⟨by rw [HV.out]; first | rfl | simp, HAW.out⟩
  have g0 : ¬ (4 : Int) < (m.dones.length : Int) := by omega
  by_cases h1 : m.leas.length ≤ 64
  case neg =>
    have HV := Lib.hid (show r = false by rw [HR.out, decide_eq_true h0, decide_eq_false h1]; rfl)
    have g1 : (64 : Int) < (m.leas.length : Int) := by omega
    clear h0 h1 HR
    go_enter Tryz.func14, Tryz.ntmps14
    go_wp2_with fail
    rw [← hW]
    clear hW
    go_wp2_with fail
    go_ret
    exact ⟨by rw [HV.out]; first | rfl | simp, HAW.out⟩
  have g1 : ¬ (64 : Int) < (m.leas.length : Int) := by omega
  have HV := Lib.hid (show r = (b2 && b3 && ordB Don.client (donP m.cat.epoch m.cat.version) m.dones && ordB Lea.seq (leaP m.cat.epoch m.last) m.leas) by rw [HR.out, decide_eq_true h0, decide_eq_true h1]; rfl)
  clear h0 h1 HR
  go_enter Tryz.func14, Tryz.ntmps14
  go_wp2_with fail
  rw [← hW]
  clear hW
  go_wp2_with fail
  refine (C2.out _).mono ?_
  rintro e w9 ⟨rfl, rfl⟩
  cases b2
  case false =>
    go_wp2_with fail
    go_ret
    exact ⟨by rw [HV.out]; first | rfl | simp, HAW.out⟩
  go_wp2_with fail
  refine C3.out.mono ?_
  rintro e w1 ⟨rfl, a1⟩
  have HA1 := Lib.hid a1
  clear x0 x1 x2 x3 x4 x5 x6 x7 x8 x9 xz 
  have Bx1 := Lib.hid (Bx0.out.aft a1)
  have AT1 := Lib.hid (HAW.out.trans a1)
  clear a1 
  have x0 := Bx1.out.cell (j := 0) rfl
  have x1 := Bx1.out.cell (j := 1) rfl
  have x2 := Bx1.out.cell (j := 2) rfl
  have x3 := Bx1.out.cell (j := 3) rfl
  have x4 := Bx1.out.cell (j := 4) rfl
  have x5 := Bx1.out.cell (j := 5) rfl
  have x6 := Bx1.out.cell (j := 6) rfl
  have x7 := Bx1.out.cell (j := 7) rfl
  have x8 := Bx1.out.cell (j := 8) rfl
  have x9 := Bx1.out.cell (j := 9) rfl
  have xz := Bx1.out.1
  cases b3
  case false =>
    go_wp2_with fail
    go_ret
    exact ⟨by rw [HV.out]; first | rfl | simp, AT1.out⟩
  have HV2 := Lib.hid (show r = (ordB Don.client (donP m.cat.epoch m.cat.version) m.dones && ordB Lea.seq (leaP m.cat.epoch m.last) m.leas) from HV.out)
  clear HV
  go_wp2_with fail
  go_loopw [3] (fun i wr => ∃ k : Nat, k ≤ m.dones.length ∧ i = .int .i64 k ∧ Aft w1 wr ∧ ∀ j, j < k → ordAt Don.client (donP m.cat.epoch m.cat.version) m.dones j = true) (fun i _ => m.dones.length - (intOf i).toNat)
  case atStart => exact ⟨0, Nat.zero_le _, rfl, Aft.refl _, fun j hj => absurd hj (Nat.not_lt_zero j)⟩
  case round =>
    obtain ⟨k, hk, rfl, ha, hp⟩ := hrel
    have HA := Lib.hid ha
    have HP := Lib.hid hp
    have Rk := Bx1.out.aft ha
    clear hp x0 x1 x2 x3 x4 x5 x6 x7 x8 x9 xz
    obtain ⟨x0, x1, x2, x3, x4, x5, x6, x7, x8, x9, xz⟩ := rowF10 Rk
    by_cases hlt : k < m.dones.length
    case neg =>
      have HO := Lib.hid (show ordB Don.client (donP m.cat.epoch m.cat.version) m.dones = true from ordB_yes fun j hj => HP.out j (by omega))
      have HAE := Lib.hid (AT1.out.trans ha)
      have HBE := Lib.hid Rk
      clear ha Rk
      have HV3 := Lib.hid (show r = ordB Lea.seq (leaP m.cat.epoch m.last) m.leas by rw [HV2.out, HO.out]; rfl)
      have HWM := Lib.hid (HA1.out.trans HA.out)
      obtain ⟨wM, hwM⟩ : ∃ U, U = wr := ⟨_, rfl⟩
      subst hwM
      have HBM := Lib.hid HBE.out
      have HAM := Lib.hid HAE.out
      clear HBE HAE HO HA HP HV2
      go_wp2_with fail
      go_loopw [5] (fun i wr => ∃ k : Nat, k ≤ m.leas.length ∧ i = .int .i64 k ∧ Aft wM wr ∧ ∀ j, j < k → ordAt Lea.seq (leaP m.cat.epoch m.last) m.leas j = true) (fun i _ => m.leas.length - (intOf i).toNat)
      case atStart => exact ⟨0, Nat.zero_le _, rfl, Aft.refl _, fun j hj => absurd hj (Nat.not_lt_zero j)⟩
      case round =>
        obtain ⟨k, hk, rfl, ha, hp⟩ := hrel
        have HA := Lib.hid ha
        have HP := Lib.hid hp
        have Rk := HBM.out.aft ha
        clear hp x0 x1 x2 x3 x4 x5 x6 x7 x8 x9 xz
        obtain ⟨x0, x1, x2, x3, x4, x5, x6, x7, x8, x9, xz⟩ := rowF10 Rk
        by_cases hlt : k < m.leas.length
        case neg =>
          have HO := Lib.hid (show ordB Lea.seq (leaP m.cat.epoch m.last) m.leas = true from ordB_yes fun j hj => HP.out j (by omega))
          have HAE := Lib.hid (HAM.out.trans ha)
          have HBE := Lib.hid Rk
          clear ha Rk
          go_wp2_with fail
          go_ret
          exact ⟨by rw [HV3.out, HO.out]; rfl, HAE.out⟩
        have hsl := leas_aft (HWM.out.trans ha) HLE.out
        clear ha Rk
        obtain ⟨b, off, e0, hb, c0, c1, c2, c3⟩ := lea_at hsl hlt
        rw [e0] at x8
        obtain ⟨x, hx⟩ : ∃ x, m.leas[k] = x := ⟨_, rfl⟩
        rw [hx] at c0 c1 c2 c3
        obtain ⟨V, hV⟩ : ∃ W, W = wr.alloc (.cells #[.int .i64 x.seq, .int .i64 x.node, .int .i64 x.ask, .int .i64 x.epoch] 80) := ⟨_, rfl⟩
        have aV : Aft wr V := by rw [hV]; exact (Aft.refl _).alloc _
        have rV : RowAt V wr.heap.size [.int .i64 x.seq, .int .i64 x.node, .int .i64 x.ask, .int .i64 x.epoch] := by rw [hV]; exact box_row2 (Aft.refl _)
        obtain ⟨b1, hb1⟩ : ∃ b, wiB x.seq 1 m.last = b := ⟨_, rfl⟩
        have K1 := Lib.hid (fun U => hb1 ▸ rwithin x.seq 1 m.last U)
        obtain ⟨b2, hb2⟩ : ∃ b, nodB x.node = b := ⟨_, rfl⟩
        have K2 := Lib.hid (fun U => hb2 ▸ rnode x.node U)
        obtain ⟨b3, hb3⟩ : ∃ b, numB x.ask = b := ⟨_, rfl⟩
        have K3 := Lib.hid (fun U => hb3 ▸ rnumber x.ask U)
        obtain ⟨b4, hb4⟩ : ∃ b, wiB x.epoch 0 m.cat.epoch = b := ⟨_, rfl⟩
        have K4 := Lib.hid (fun U => hb4 ▸ rwithin x.epoch 0 m.cat.epoch U)
        have HQ := Lib.hid (show (leaP m.cat.epoch m.last) x = (b1 && b2 && b3 && b4) by show leaP m.cat.epoch m.last x = _; unfold leaP; rw [hb1, hb2, hb3, hb4])
        clear hb1 hb2 hb3 hb4
        have HX := Lib.hid hx
        have HE0 := Lib.hid e0
        have HAV := Lib.hid (HA.out.trans aV)
        have HSL := Lib.hid (leas_aft aV hsl)
        have Rx := Lib.hid (HBM.out.aft HAV.out)
        clear hx hsl e0
        cases k with
        | zero =>
          simp only [Nat.zero_mul, Nat.add_zero] at c0 c1 c2 c3
          go_wp2_with fail
          rw [← hV]
          clear hV c0 c1 c2 c3 aV hb x0 x1 x2 x3 x4 x5 x6 x7 x8 x9 xz
          have y0 := rV.cell (j := 0) rfl
          have y1 := rV.cell (j := 1) rfl
          have y2 := rV.cell (j := 2) rfl
          have y3 := rV.cell (j := 3) rfl
          have yz := rV.1
          obtain ⟨x0, x1, x2, x3, x4, x5, x6, x7, x8, x9, xz⟩ := rowF10 Rx.out
          rw [HE0.out] at x8
          clear rV
          have HC := Lib.hid (show ((b1 = false) ∨ (b1 = true ∧ b2 = false) ∨ (b1 = true ∧ b2 = true ∧ b3 = false) ∨ (b1 = true ∧ b2 = true ∧ b3 = true ∧ b4 = false)) ∨ (b1 = true ∧ b2 = true ∧ b3 = true ∧ b4 = true) from by cases b1 <;> cases b2 <;> cases b3 <;> cases b4 <;> simp)
          rcases HC.out with h1 | h1
          · have HF := Lib.hid (show (leaP m.cat.epoch m.last) x = false by rw [HQ.out]; rcases h1 with h1 | h1 | h1 | h1 <;> simp [h1])
            rcases h1 with rfl | ⟨rfl, rfl⟩ | ⟨rfl, rfl, rfl⟩ | ⟨rfl, rfl, rfl, rfl⟩
            all_goals
              refine wp_region_lat (by kernel_rfl) (by kernel_rfl) ?_
              repeat (go_big_quiet_step ((first | (with_reducible exact Calls.lat_same (K1.out _)) | (with_reducible exact Calls.lat_same (K2.out _)) | (with_reducible exact Calls.lat_same (K3.out _)) | (with_reducible exact Calls.lat_same (K4.out _)))))
              refine wpQuiet_nil ?_
              intro _ hw'
              obtain ⟨V', hw''⟩ := hw'
              subst hw''
              go_wp2_with fail
              go_ret
              exact ⟨by rw [HV3.out, ordB_no hlt (by rw [ordAt_zero hlt, HX.out]; exact HF.out)]; first | rfl | simp, (HAM.out.trans HAV.out).lat V'⟩
          · have HF := Lib.hid (show (leaP m.cat.epoch m.last) x = true by rw [HQ.out]; simp [h1])
            obtain ⟨rfl, rfl, rfl, rfl⟩ := h1
            refine wp_region_lat (by kernel_rfl) (by kernel_rfl) ?_
            repeat (go_big_quiet_step ((first | (with_reducible exact Calls.lat_same (K1.out _)) | (with_reducible exact Calls.lat_same (K2.out _)) | (with_reducible exact Calls.lat_same (K3.out _)) | (with_reducible exact Calls.lat_same (K4.out _)))))
            refine wpQuiet_nil ?_
            intro _ hw'
            obtain ⟨V', hw''⟩ := hw'
            subst hw''
            go_wp2_with fail
            go_roundw
            case rel => exact ⟨0 + 1, by omega, by go_num, HAV.out.lat V', fun j hj => by
              rcases Nat.lt_or_ge j (0 + 1 - 1) with h1 | h1
              · exact HP.out j (by omega)
              · have : j = 0 + 1 - 1 := by omega
                subst this
                show ordAt _ _ _ 0 = true; rw [ordAt_zero hlt, HX.out]; exact HF.out⟩
            case measure => simp [intOf]; omega
        | succ k =>
          have hl0 : k < m.leas.length := by omega
          obtain ⟨b', off', hA', hb', d0, d1, d2, d3⟩ := lea_at HSL.out hl0
          rw [HE0.out] at hA'
          simp only [Option.some.injEq, Addr.mk.injEq, and_true] at hA'
          obtain ⟨rfl, rfl⟩ := hA'
          obtain ⟨y, hy⟩ : ∃ y, m.leas[k] = y := ⟨_, rfl⟩
          rw [hy] at d0 d1 d2 d3
          have HY := Lib.hid hy
          clear hy
          have v2 : IntKind.i64.wrap (((k + 1 : Nat) : Int) - 1) = (k : Int) := by rw [show ((k + 1 : Nat) : Int) - 1 = (k : Int) by omega]; exact IntWalk.i64_in _ (by omega)
          have v3 : IntKind.i64.wrap ((k : Int) + 1 - 1) = (k : Int) := by rw [show (k : Int) + 1 - 1 = (k : Int) by omega]; exact IntWalk.i64_in _ (by omega)
          have v4 : (0 : Int) < (k : Int) + 1 := by omega
          have v5 : (k : Int) < (m.leas.length : Int) := by omega
          have v6 : (0 : Int) ≤ (k : Int) := by omega
          go_wp2_with fail
          rw [← hV]
          clear hV c0 c1 c2 c3 aV hb x0 x1 x2 x3 x4 x5 x6 x7 x8 x9 xz
          have y0 := rV.cell (j := 0) rfl
          have y1 := rV.cell (j := 1) rfl
          have y2 := rV.cell (j := 2) rfl
          have y3 := rV.cell (j := 3) rfl
          have yz := rV.1
          obtain ⟨x0, x1, x2, x3, x4, x5, x6, x7, x8, x9, xz⟩ := rowF10 Rx.out
          rw [HE0.out] at x8
          clear rV
          by_cases hge : x.seq ≤ y.seq
          · refine wp_region_lat (by kernel_rfl) (by kernel_rfl) ?_
            repeat (go_big_quiet_step ((first | (with_reducible exact Calls.lat_same (K1.out _)) | (with_reducible exact Calls.lat_same (K2.out _)) | (with_reducible exact Calls.lat_same (K3.out _)) | (with_reducible exact Calls.lat_same (K4.out _)))))
            refine wpQuiet_nil ?_
            intro _ hw'
            obtain ⟨V', hw''⟩ := hw'
            subst hw''
            go_wp2_with fail
            go_ret
            exact ⟨by rw [HV3.out, ordB_no hlt (by rw [ordAt_succ hlt, HX.out, HY.out, decide_eq_false (by omega)]; rfl)]; first | rfl | simp, (HAM.out.trans HAV.out).lat V'⟩
          · have HC := Lib.hid (show ((b1 = false) ∨ (b1 = true ∧ b2 = false) ∨ (b1 = true ∧ b2 = true ∧ b3 = false) ∨ (b1 = true ∧ b2 = true ∧ b3 = true ∧ b4 = false)) ∨ (b1 = true ∧ b2 = true ∧ b3 = true ∧ b4 = true) from by cases b1 <;> cases b2 <;> cases b3 <;> cases b4 <;> simp)
            rcases HC.out with h1 | h1
            · have HF := Lib.hid (show (leaP m.cat.epoch m.last) x = false by rw [HQ.out]; rcases h1 with h1 | h1 | h1 | h1 <;> simp [h1])
              rcases h1 with rfl | ⟨rfl, rfl⟩ | ⟨rfl, rfl, rfl⟩ | ⟨rfl, rfl, rfl, rfl⟩
              all_goals
                refine wp_region_lat (by kernel_rfl) (by kernel_rfl) ?_
                repeat (go_big_quiet_step ((first | (with_reducible exact Calls.lat_same (K1.out _)) | (with_reducible exact Calls.lat_same (K2.out _)) | (with_reducible exact Calls.lat_same (K3.out _)) | (with_reducible exact Calls.lat_same (K4.out _)))))
                refine wpQuiet_nil ?_
                intro _ hw'
                obtain ⟨V', hw''⟩ := hw'
                subst hw''
                go_wp2_with fail
                go_ret
                exact ⟨by rw [HV3.out, ordB_no hlt (by rw [ordAt_succ hlt, HX.out]; simp only [HF.out, Bool.and_false])]; first | rfl | simp, (HAM.out.trans HAV.out).lat V'⟩
            · have HF := Lib.hid (show (leaP m.cat.epoch m.last) x = true by rw [HQ.out]; simp [h1])
              obtain ⟨rfl, rfl, rfl, rfl⟩ := h1
              refine wp_region_lat (by kernel_rfl) (by kernel_rfl) ?_
              repeat (go_big_quiet_step ((first | (with_reducible exact Calls.lat_same (K1.out _)) | (with_reducible exact Calls.lat_same (K2.out _)) | (with_reducible exact Calls.lat_same (K3.out _)) | (with_reducible exact Calls.lat_same (K4.out _)))))
              refine wpQuiet_nil ?_
              intro _ hw'
              obtain ⟨V', hw''⟩ := hw'
              subst hw''
              go_wp2_with fail
              clear v2 v3 v4 v5 v6
              go_roundw
              case rel => exact ⟨k + 1 + 1, by omega, by go_num, HAV.out.lat V', fun j hj => by
                rcases Nat.lt_or_ge j (k + 1 + 1 - 1) with h1 | h1
                · exact HP.out j (by omega)
                · have : j = k + 1 + 1 - 1 := by omega
                  subst this
                  show ordAt _ _ _ (k + 1) = true; rw [ordAt_succ hlt, HX.out, HY.out]; simp only [HF.out, Bool.and_true, decide_eq_true_eq]; omega⟩
              case measure => simp [intOf]; omega
    have hsl := dons_aft (HA1.out.trans ha) HDN.out
    clear ha Rk
    obtain ⟨b, off, e0, hb, c0, c1, c2, c3, c4⟩ := don_at hsl hlt
    rw [e0] at x7
    obtain ⟨x, hx⟩ : ∃ x, m.dones[k] = x := ⟨_, rfl⟩
    rw [hx] at c0 c1 c2 c3 c4
    obtain ⟨V, hV⟩ : ∃ W, W = wr.alloc (.cells #[.int .i64 x.client, .int .i64 x.number, .int .i64 x.code, .int .i64 x.fence, .int .i64 x.version] 74) := ⟨_, rfl⟩
    have aV : Aft wr V := by rw [hV]; exact (Aft.refl _).alloc _
    have rV : RowAt V wr.heap.size [.int .i64 x.client, .int .i64 x.number, .int .i64 x.code, .int .i64 x.fence, .int .i64 x.version] := by rw [hV]; exact box_row2 (Aft.refl _)
    obtain ⟨b1, hb1⟩ : ∃ b, wiB x.client 1 4 = b := ⟨_, rfl⟩
    have K1 := Lib.hid (fun U => hb1 ▸ rwithin x.client 1 4 U)
    obtain ⟨b2, hb2⟩ : ∃ b, numB x.number = b := ⟨_, rfl⟩
    have K2 := Lib.hid (fun U => hb2 ▸ rnumber x.number U)
    obtain ⟨b3, hb3⟩ : ∃ b, wiB x.code 0 65535 = b := ⟨_, rfl⟩
    have K3 := Lib.hid (fun U => hb3 ▸ rwithin x.code 0 65535 U)
    obtain ⟨b4, hb4⟩ : ∃ b, wiB x.fence 0 m.cat.epoch = b := ⟨_, rfl⟩
    have K4 := Lib.hid (fun U => hb4 ▸ rwithin x.fence 0 m.cat.epoch U)
    obtain ⟨b5, hb5⟩ : ∃ b, wiB x.version 0 m.cat.version = b := ⟨_, rfl⟩
    have K5 := Lib.hid (fun U => hb5 ▸ rwithin x.version 0 m.cat.version U)
    have HQ := Lib.hid (show (donP m.cat.epoch m.cat.version) x = (b1 && b2 && b3 && b4 && b5) by show donP m.cat.epoch m.cat.version x = _; unfold donP; rw [hb1, hb2, hb3, hb4, hb5])
    clear hb1 hb2 hb3 hb4 hb5
    have HX := Lib.hid hx
    have HE0 := Lib.hid e0
    have HAV := Lib.hid (HA.out.trans aV)
    have HSL := Lib.hid (dons_aft aV hsl)
    have Rx := Lib.hid (Bx1.out.aft HAV.out)
    clear hx hsl e0
    cases k with
    | zero =>
      simp only [Nat.zero_mul, Nat.add_zero] at c0 c1 c2 c3 c4
      go_wp2_with fail
      rw [← hV]
      clear hV c0 c1 c2 c3 c4 aV hb x0 x1 x2 x3 x4 x5 x6 x7 x8 x9 xz
      obtain ⟨y0, y1, y2, y3, y4, yz⟩ := rowF5 rV
      obtain ⟨x0, x1, x2, x3, x4, x5, x6, x7, x8, x9, xz⟩ := rowF10 Rx.out
      rw [HE0.out] at x7
      clear rV
      have HC := Lib.hid (show ((b1 = false) ∨ (b1 = true ∧ b2 = false) ∨ (b1 = true ∧ b2 = true ∧ b3 = false) ∨ (b1 = true ∧ b2 = true ∧ b3 = true ∧ b4 = false) ∨ (b1 = true ∧ b2 = true ∧ b3 = true ∧ b4 = true ∧ b5 = false)) ∨ (b1 = true ∧ b2 = true ∧ b3 = true ∧ b4 = true ∧ b5 = true) from by cases b1 <;> cases b2 <;> cases b3 <;> cases b4 <;> cases b5 <;> simp)
      rcases HC.out with h1 | h1
      · have HF := Lib.hid (show (donP m.cat.epoch m.cat.version) x = false by rw [HQ.out]; rcases h1 with h1 | h1 | h1 | h1 | h1 <;> simp [h1])
        rcases h1 with rfl | ⟨rfl, rfl⟩ | ⟨rfl, rfl, rfl⟩ | ⟨rfl, rfl, rfl, rfl⟩ | ⟨rfl, rfl, rfl, rfl, rfl⟩
        all_goals
          refine wp_region_lat (by kernel_rfl) (by kernel_rfl) ?_
          repeat (go_big_quiet_step ((first | (with_reducible exact Calls.lat_same (K1.out _)) | (with_reducible exact Calls.lat_same (K2.out _)) | (with_reducible exact Calls.lat_same (K3.out _)) | (with_reducible exact Calls.lat_same (K4.out _)) | (with_reducible exact Calls.lat_same (K5.out _)))))
          refine wpQuiet_nil ?_
          intro _ hw'
          obtain ⟨V', hw''⟩ := hw'
          subst hw''
          go_wp2_with fail
          go_ret
          exact ⟨by rw [HV2.out, ordB_no hlt (by rw [ordAt_zero hlt, HX.out]; exact HF.out)]; first | rfl | simp, (AT1.out.trans HAV.out).lat V'⟩
      · have HF := Lib.hid (show (donP m.cat.epoch m.cat.version) x = true by rw [HQ.out]; simp [h1])
        obtain ⟨rfl, rfl, rfl, rfl, rfl⟩ := h1
        refine wp_region_lat (by kernel_rfl) (by kernel_rfl) ?_
        repeat (go_big_quiet_step ((first | (with_reducible exact Calls.lat_same (K1.out _)) | (with_reducible exact Calls.lat_same (K2.out _)) | (with_reducible exact Calls.lat_same (K3.out _)) | (with_reducible exact Calls.lat_same (K4.out _)) | (with_reducible exact Calls.lat_same (K5.out _)))))
        refine wpQuiet_nil ?_
        intro _ hw'
        obtain ⟨V', hw''⟩ := hw'
        subst hw''
        go_wp2_with fail
        go_roundw
        case rel => exact ⟨0 + 1, by omega, by go_num, HAV.out.lat V', fun j hj => by
          rcases Nat.lt_or_ge j (0 + 1 - 1) with h1 | h1
          · exact HP.out j (by omega)
          · have : j = 0 + 1 - 1 := by omega
            subst this
            show ordAt _ _ _ 0 = true; rw [ordAt_zero hlt, HX.out]; exact HF.out⟩
        case measure => simp [intOf]; omega
    | succ k =>
      have hl0 : k < m.dones.length := by omega
      obtain ⟨b', off', hA', hb', d0, d1, d2, d3, d4⟩ := don_at HSL.out hl0
      rw [HE0.out] at hA'
      simp only [Option.some.injEq, Addr.mk.injEq, and_true] at hA'
      obtain ⟨rfl, rfl⟩ := hA'
      obtain ⟨y, hy⟩ : ∃ y, m.dones[k] = y := ⟨_, rfl⟩
      rw [hy] at d0 d1 d2 d3 d4
      have HY := Lib.hid hy
      clear hy
      have v2 : IntKind.i64.wrap (((k + 1 : Nat) : Int) - 1) = (k : Int) := by rw [show ((k + 1 : Nat) : Int) - 1 = (k : Int) by omega]; exact IntWalk.i64_in _ (by omega)
      have v3 : IntKind.i64.wrap ((k : Int) + 1 - 1) = (k : Int) := by rw [show (k : Int) + 1 - 1 = (k : Int) by omega]; exact IntWalk.i64_in _ (by omega)
      have v4 : (0 : Int) < (k : Int) + 1 := by omega
      have v5 : (k : Int) < (m.dones.length : Int) := by omega
      have v6 : (0 : Int) ≤ (k : Int) := by omega
      go_wp2_with fail
      rw [← hV]
      clear hV c0 c1 c2 c3 c4 aV hb x0 x1 x2 x3 x4 x5 x6 x7 x8 x9 xz
      obtain ⟨y0, y1, y2, y3, y4, yz⟩ := rowF5 rV
      obtain ⟨x0, x1, x2, x3, x4, x5, x6, x7, x8, x9, xz⟩ := rowF10 Rx.out
      rw [HE0.out] at x7
      clear rV
      by_cases hge : x.client ≤ y.client
      · refine wp_region_lat (by kernel_rfl) (by kernel_rfl) ?_
        repeat (go_big_quiet_step ((first | (with_reducible exact Calls.lat_same (K1.out _)) | (with_reducible exact Calls.lat_same (K2.out _)) | (with_reducible exact Calls.lat_same (K3.out _)) | (with_reducible exact Calls.lat_same (K4.out _)) | (with_reducible exact Calls.lat_same (K5.out _)))))
        refine wpQuiet_nil ?_
        intro _ hw'
        obtain ⟨V', hw''⟩ := hw'
        subst hw''
        go_wp2_with fail
        go_ret
        exact ⟨by rw [HV2.out, ordB_no hlt (by rw [ordAt_succ hlt, HX.out, HY.out, decide_eq_false (by omega)]; rfl)]; first | rfl | simp, (AT1.out.trans HAV.out).lat V'⟩
      · have HC := Lib.hid (show ((b1 = false) ∨ (b1 = true ∧ b2 = false) ∨ (b1 = true ∧ b2 = true ∧ b3 = false) ∨ (b1 = true ∧ b2 = true ∧ b3 = true ∧ b4 = false) ∨ (b1 = true ∧ b2 = true ∧ b3 = true ∧ b4 = true ∧ b5 = false)) ∨ (b1 = true ∧ b2 = true ∧ b3 = true ∧ b4 = true ∧ b5 = true) from by cases b1 <;> cases b2 <;> cases b3 <;> cases b4 <;> cases b5 <;> simp)
        rcases HC.out with h1 | h1
        · have HF := Lib.hid (show (donP m.cat.epoch m.cat.version) x = false by rw [HQ.out]; rcases h1 with h1 | h1 | h1 | h1 | h1 <;> simp [h1])
          rcases h1 with rfl | ⟨rfl, rfl⟩ | ⟨rfl, rfl, rfl⟩ | ⟨rfl, rfl, rfl, rfl⟩ | ⟨rfl, rfl, rfl, rfl, rfl⟩
          all_goals
            refine wp_region_lat (by kernel_rfl) (by kernel_rfl) ?_
            repeat (go_big_quiet_step ((first | (with_reducible exact Calls.lat_same (K1.out _)) | (with_reducible exact Calls.lat_same (K2.out _)) | (with_reducible exact Calls.lat_same (K3.out _)) | (with_reducible exact Calls.lat_same (K4.out _)) | (with_reducible exact Calls.lat_same (K5.out _)))))
            refine wpQuiet_nil ?_
            intro _ hw'
            obtain ⟨V', hw''⟩ := hw'
            subst hw''
            go_wp2_with fail
            go_ret
            exact ⟨by rw [HV2.out, ordB_no hlt (by rw [ordAt_succ hlt, HX.out]; simp only [HF.out, Bool.and_false])]; first | rfl | simp, (AT1.out.trans HAV.out).lat V'⟩
        · have HF := Lib.hid (show (donP m.cat.epoch m.cat.version) x = true by rw [HQ.out]; simp [h1])
          obtain ⟨rfl, rfl, rfl, rfl, rfl⟩ := h1
          refine wp_region_lat (by kernel_rfl) (by kernel_rfl) ?_
          repeat (go_big_quiet_step ((first | (with_reducible exact Calls.lat_same (K1.out _)) | (with_reducible exact Calls.lat_same (K2.out _)) | (with_reducible exact Calls.lat_same (K3.out _)) | (with_reducible exact Calls.lat_same (K4.out _)) | (with_reducible exact Calls.lat_same (K5.out _)))))
          refine wpQuiet_nil ?_
          intro _ hw'
          obtain ⟨V', hw''⟩ := hw'
          subst hw''
          go_wp2_with fail
          clear v2 v3 v4 v5 v6
          go_roundw
          case rel => exact ⟨k + 1 + 1, by omega, by go_num, HAV.out.lat V', fun j hj => by
            rcases Nat.lt_or_ge j (k + 1 + 1 - 1) with h1 | h1
            · exact HP.out j (by omega)
            · have : j = k + 1 + 1 - 1 := by omega
              subst this
              show ordAt _ _ _ (k + 1) = true; rw [ordAt_succ hlt, HX.out, HY.out]; simp only [HF.out, Bool.and_true, decide_eq_true_eq]; omega⟩
          case measure => simp [intOf]; omega
end Go.Proofs.YtgkhmnamkfgciaaGreat

