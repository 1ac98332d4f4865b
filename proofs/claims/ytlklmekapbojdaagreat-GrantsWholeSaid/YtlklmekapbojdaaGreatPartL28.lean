/- Contracts of the program, part 28. -/
import Derived.Deep.AppendLies
import Derived.Deep.DeepMust
import Derived.OwnWalk
import Derived.Laws.AppendOwn
import Derived.ProofKit
import Derived.OpenShut
import Derived.Deep.Slices
import Derived.ChangeOld
import Derived.SizedLaws
import Derived.WalkKit
import Derived.WalkSpells
import Derived.WalkLawsBesides
import Derived.Lib.Hide
import Derived.Deep.QuietTactic
import Derived.BigQuiet
import Derived.Below
import Derived.Deep.Draws
import Derived.StillTailTactics
import Derived.Laws.Cells
import Derived.Laws.IdiomCopy
import Derived.Test.YtlklmekapbojdaaGreatRows
import Derived.Lib.Walk
import Derived.Laws.EntriesVeiled
import Derived.Maps.Own
import Derived.Maps.Views
import Derived.Deep.Upon
import Derived.OneCell
import Derived.OrdersHeld
import Derived.Deep.RegionHeld3
import Derived.IntWalk
import Derived.Lib.Bytealg
import Derived.Lib.SliceRun
import Derived.Deep.RegionLaw
import Derived.Lib.AppendZerosOnto
import Derived.Lib.Overlaps
import Derived.Shelf.SlSortCmp.WholeK
import Derived.WalkMore
import Derived.Laws.StructEq
import Derived.WideKeyEntry
import Derived.DeepKeys3
import Derived.ChangeKeys
import Derived.Test.YtlklmekapbojdaaGreatPartL1
import Derived.Test.YtlklmekapbojdaaGreatPartL2
import Derived.Test.YtlklmekapbojdaaGreatPartL3
import Derived.Test.YtlklmekapbojdaaGreatPartL4
import Derived.Test.YtlklmekapbojdaaGreatPartL5
import Derived.Test.YtlklmekapbojdaaGreatPartL6
import Derived.Test.YtlklmekapbojdaaGreatPartL7
import Derived.Test.YtlklmekapbojdaaGreatPartL8
import Derived.Test.YtlklmekapbojdaaGreatPartL9
import Derived.Test.YtlklmekapbojdaaGreatPartL10
import Derived.Test.YtlklmekapbojdaaGreatPartL12
import Derived.Test.YtlklmekapbojdaaGreatPartL19
import Derived.Test.YtlklmekapbojdaaGreatPartL24
namespace Go.Proofs.YtlklmekapbojdaaGreat
open Go.RowKit
set_option linter.unusedVariables false
noncomputable def bossR (c : Cat) (role s n : ByteArray) : Bool := wholeB c && (decide (0 ≤ tabAt c.objs.tables s n) && inB c.rols.names role) && bossB c.objs (allL c.rols role) (tabF c.objs s n)
theorem stands_sub {c : Cat} (h : standsB c = true) {l : List Gra} (hl : l.Sublist c.grants) : standsB { c with grants := l } = true := by
  obtain ⟨h1, h2, h3, h4⟩ := stands_iff.1 h
  exact stands_iff.2 ⟨Nat.le_trans hl.length_le h1, h2, fun g hg => h3 g (hl.subset hg), rises_pairG.2 ((rises_pairG.1 h4).sublist hl)⟩
/-- what holds, alone, is whole -/
theorem hold_again {c : Cat} (h : standsB c = true) : wholeB { c with grants := holdL c } = true := by
  have hs : holdL c = c.grants.filter (heldB c) := by unfold holdL; rw [if_pos h]
  refine whole_iff.2 ⟨stands_sub h (by rw [hs]; exact List.filter_sublist), fun g hg9 => ?_⟩
  have hg8 : g ∈ c.grants.filter (heldB c) := by rw [← hs]; exact hg9
  have hh := heldB_iff.1 (List.mem_filter.1 hg8).2
  clear hg8 hg9
  induction hh with
  | mk g l hg hl hj ih =>
    refine .mk g l ?_ ih hj
    show g ∈ holdL c
    rw [hs]
    exact List.mem_filter.2 ⟨hg, heldB_iff.2 (.mk g l hg hl hj)⟩
theorem take_stands {c : Cat} (g : Gra) (h : wholeB c = true) : standsB { c with grants := lessG c.grants g } = true := stands_sub (whole_iff.1 h).1 (lessG_sub _ _)
theorem take_whole {c : Cat} (g : Gra) (h : wholeB c = true) : wholeB { c with grants := holdL { c with grants := lessG c.grants g } } = true := hold_again (c := { c with grants := lessG c.grants g }) (take_stands g h)
end Go.Proofs.YtlklmekapbojdaaGreat

namespace Go.Proofs.YtlklmekapbojdaaGreat
open Go.RowKit Go.Deep
set_option maxRecDepth 100000
set_option linter.unusedVariables false
set_option maxHeartbeats 8000000 in
theorem bossT (c : Cat) (As : Option Addr) (caps : Nat) (At : Option Addr) (capt : Nat) (An : Option Addr) (capn : Nat) (Am : Option Addr) (capm : Nat) (Ag : Option Addr) (capg : Nat) (role s n : ByteArray) (hrs : Small role.size) (w : World) (H : CatAt w c As caps At capt An capn Am capm Ag capg) :
    Calls Tryz.prog 102 #[.agg #[.int .i64 c.epoch, .int .i64 c.version, .slice As c.objs.schemas.length caps, .slice At c.objs.tables.length capt, .slice An c.rols.names.length capn, .slice Am c.rols.members.length capm, .slice Ag c.grants.length capg], .string role, .string s, .string n] w fun e w' => e = .returned (.bool (bossR c role s n)) ∧ Aft w w' := by
  obtain ⟨W, hW⟩ : ∃ W, W = w.alloc (.cells #[.int .i64 c.epoch, .int .i64 c.version, .slice As c.objs.schemas.length caps, .slice At c.objs.tables.length capt, .slice An c.rols.names.length capn, .slice Am c.rols.members.length capm, .slice Ag c.grants.length capg] 66) := ⟨_, rfl⟩
  have aW : Aft w W := by rw [hW]; exact (Aft.refl w).alloc _
  have r0 : RowAt W (w.heap.size) [.int .i64 c.epoch, .int .i64 c.version, .slice As c.objs.schemas.length caps, .slice At c.objs.tables.length capt, .slice An c.rols.names.length capn, .slice Am c.rols.members.length capm, .slice Ag c.grants.length capg] := by rw [hW]; exact box_at (Aft.refl _) (by simp)
  obtain ⟨tb, htb⟩ : ∃ b, decide (0 ≤ tabAt c.objs.tables s n) = b := ⟨_, rfl⟩
  obtain ⟨wb, hwb⟩ : ∃ b, wholeB c = b := ⟨_, rfl⟩
  obtain ⟨cb, hcb⟩ : ∃ b, inB c.rols.names role = b := ⟨_, rfl⟩
  obtain ⟨T, hT⟩ : ∃ T, tabF c.objs s n = T := ⟨_, rfl⟩
  obtain ⟨bb, hbb⟩ : ∃ b, bossB c.objs (allL c.rols role) T = b := ⟨_, rfl⟩
  have HRES := Lib.hid (show bossR c role s n = (wb && (tb && cb) && bb) by unfold bossR; rw [htb, hwb, hcb, hT, hbb])
  have CT := Lib.hid (show Calls Tryz.prog 80 #[.agg #[.int .i64 c.epoch, .int .i64 c.version, .slice As c.objs.schemas.length caps, .slice At c.objs.tables.length capt, .slice An c.rols.names.length capn, .slice Am c.rols.members.length capm, .slice Ag c.grants.length capg], .string s, .string n] W fun e w'' => ∃ (A2 : Option Addr) (c2 : Nat) (A3 : Option Addr) (c3 : Nat), e = .returned (.tuple #[.agg #[.string T.schema, .string T.name, .string T.owner, .slice A2 T.cols.length c2, .slice A3 T.rules.length c3], .bool tb]) ∧ Aft W w'' from by
    have := tableG c As caps At capt An capn Am capm Ag capg s n W (tabs_aft aW H.tab)
    unfold TabP at this
    rw [hT, htb] at this
    exact this)
  have CA := Lib.hid (show ∀ V, Aft W V → Calls Tryz.prog 83 #[.agg #[.slice An c.rols.names.length capn, .slice Am c.rols.members.length capm], .string role] V (AllP c.rols role V) from fun V a => all8 c.rols An capn Am capm role V (strs_aft (aW.trans a) H.nam) (mbrs_aft (aW.trans a) H.mem) hrs)
  have CW := Lib.hid (show ∀ V, Aft W V → Calls Tryz.prog 78 #[.agg #[.int .i64 c.epoch, .int .i64 c.version, .slice As c.objs.schemas.length caps, .slice At c.objs.tables.length capt, .slice An c.rols.names.length capn, .slice Am c.rols.members.length capm, .slice Ag c.grants.length capg]] V fun e w'' => e = .returned (.bool wb) ∧ Aft V w'' from fun V a => (wholeG c As caps At capt An capn Am capm Ag capg V (H.aft (aW.trans a))).mono fun e w'' ⟨he, hw⟩ => ⟨he.trans (by rw [hwb]), hw⟩)
  have CN := Lib.hid (show ∀ V, Aft W V → Calls Tryz.prog 84 #[.slice An c.rols.names.length capn, .string role] V fun e w'' => e = .returned (.bool cb) ∧ V = w'' from fun V a => hcb ▸ scont8 An capn c.rols.names role V (strs_aft (aW.trans a) H.nam))
  have HTS := Lib.hid (show wb = true → tb = true → T.schema = s ∧ T.name = n ∧ 0 ≤ schAt c.objs.schemas s from fun h1 h2 => by
    rw [← hT]
    exact stands_tab2 (whole_iff.1 (hwb.trans h1)).1 (of_decide_eq_true (htb.trans h2)))
  have HH := Lib.hid H
  have HAW := Lib.hid aW
  have HR0 := Lib.hid r0
  have HBB := Lib.hid hbb
  obtain ⟨x0, x1, x2, x3, x4, x5, x6, xz⟩ := rowF7 r0
  clear htb hwb hcb hT hbb H aW r0
  go_enter Tryz.func102, Tryz.ntmps102
  go_wp2_with fail
  rw [← hW]
  clear hW
  refine CT.out.mono ?_
  rintro e w1 ⟨A2, c2, A3, c3, rfl, a1⟩
  obtain ⟨Y, hY⟩ : ∃ V, V = w1.alloc (.cells #[.string T.schema, .string T.name, .string T.owner, .slice A2 T.cols.length c2, .slice A3 T.rules.length c3] 89) := ⟨_, rfl⟩
  have aY : Aft w1 Y := by rw [hY]; exact (Aft.refl w1).alloc _
  have RY := Lib.hid (show RowAt Y w1.heap.size [.string T.schema, .string T.name, .string T.owner, .slice A2 T.cols.length c2, .slice A3 T.rules.length c3] by rw [hY]; exact box_row2 (Aft.refl _))
  have AY := Lib.hid (a1.trans aY)
  have p1 := HR0.out.aft a1
  clear x0 x1 x2 x3 x4 x5 x6 xz CT
  have x4 := p1.cell (j := 4) rfl
  have x5 := p1.cell (j := 5) rfl
  have xz := p1.1
  clear a1 aY p1
  go_wp2_with fail
  rw [← hY]
  clear hY
  refine (CA.out Y AY.out).mono ?_
  rintro e w2 ⟨h, rfl, a2, ho⟩
  have A2' := Lib.hid (AY.out.trans a2)
  have RY2 := Lib.hid (RY.out.aft a2)
  have HO := Lib.hid ho
  have hsl := own_slice ho
  rw [hsl]
  have p1 := HR0.out.aft A2'.out
  clear x4 x5 xz a2 ho hsl CA
  obtain ⟨x0, x1, x2, x3, x4, x5, x6, xz⟩ := rowF7 p1
  clear p1
  cases tb
  case false =>
    go_wp2_with fail
    go_ret
    exact ⟨by rw [HRES.out]; cases wb <;> rfl, HAW.out.trans A2'.out⟩
  go_wp2_with fail
  refine (CW.out w2 A2'.out).mono ?_
  rintro e w3 ⟨rfl, a3⟩
  have A3' := Lib.hid (A2'.out.trans a3)
  have RY3 := Lib.hid (RY2.out.aft a3)
  have HO3 := Lib.hid (own_aft HO.out a3)
  have p1 := HR0.out.aft A3'.out
  clear x0 x1 x2 x3 x4 x5 x6 xz a3 HO RY2
  obtain ⟨x0, x1, x2, x3, x4, x5, x6, xz⟩ := rowF7 p1
  clear p1
  cases wb
  case false =>
    go_wp2_with fail
    go_ret
    exact ⟨by rw [HRES.out]; rfl, HAW.out.trans A3'.out⟩
  go_wp2_with fail
  refine (CN.out w3 A3'.out).mono ?_
  rintro e w9 ⟨rfl, rfl⟩
  cases cb
  case false =>
    go_wp2_with fail
    go_ret
    exact ⟨by rw [HRES.out]; rfl, HAW.out.trans A3'.out⟩
  obtain ⟨ts, tn, hsc⟩ := HTS.out (by first | trivial | rfl) (by first | trivial | rfl)
  have sn := sm_names (strs_aft (HAW.out.trans A3'.out) HH.out.nam)
  have hal := allL_len c.rols role
  have sl := own_slf (R := StrR) nameC HO3.out (fun x hx => ⟨rfl, rfl, sn.2 x (allL_mem hx)⟩) (by have := sn.1; unfold Small at *; omega)
  have CB := Lib.hid (show Calls Tryz.prog 85 #[.agg #[.int .i64 c.epoch, .int .i64 c.version, .slice As c.objs.schemas.length caps, .slice At c.objs.tables.length capt, .slice An c.rols.names.length capn, .slice Am c.rols.members.length capm, .slice Ag c.grants.length capg], .slice h.a (allL c.rols role).length h.c, .agg #[.string T.schema, .string T.name, .string T.owner, .slice A2 T.cols.length c2, .slice A3 T.rules.length c3]] w3 fun e w'' => e = .returned (.bool bb) ∧ Aft w3 w'' from
    HBB.out ▸ bossG c As caps At capt An capn Am capm Ag capg (allL c.rols role) h.a h.c T.schema T.name T.owner A2 _ c2 A3 _ c3 T ⟨rfl, rfl⟩ w3 (HH.out.aft (HAW.out.trans A3'.out)) sl (by rw [ts]; exact hsc))
  obtain ⟨v0, v1, v2, v3, v4, vz⟩ := rowF5 RY3.out
  clear ts tn hsc sn hal sl
  go_wp2_with fail
  refine CB.out.mono ?_
  rintro e w4 ⟨rfl, a4⟩
  have A4 := Lib.hid (A3'.out.trans a4)
  clear a4
  go_wp2_with fail
  go_ret
  exact ⟨by rw [HRES.out]; rfl, HAW.out.trans A4.out⟩
set_option maxHeartbeats 8000000 in
theorem mayT (c : Cat) (As : Option Addr) (caps : Nat) (At : Option Addr) (capt : Nat) (An : Option Addr) (capn : Nat) (Am : Option Addr) (capm : Nat) (Ag : Option Addr) (capg : Nat) (role s n : ByteArray) (rt : Int) (hrs : Small role.size) (w : World) (H : CatAt w c As caps At capt An capn Am capm Ag capg) :
    Calls Tryz.prog 42 #[.agg #[.int .i64 c.epoch, .int .i64 c.version, .slice As c.objs.schemas.length caps, .slice At c.objs.tables.length capt, .slice An c.rols.names.length capn, .slice Am c.rols.members.length capm, .slice Ag c.grants.length capg], .string role, .string s, .string n, .int .i64 rt] w fun e w' => e = .returned (.bool (mayR c role s n rt)) ∧ Aft w w' := by
  obtain ⟨W, hW⟩ : ∃ W, W = w.alloc (.cells #[.int .i64 c.epoch, .int .i64 c.version, .slice As c.objs.schemas.length caps, .slice At c.objs.tables.length capt, .slice An c.rols.names.length capn, .slice Am c.rols.members.length capm, .slice Ag c.grants.length capg] 66) := ⟨_, rfl⟩
  have aW : Aft w W := by rw [hW]; exact (Aft.refl w).alloc _
  have r0 : RowAt W (w.heap.size) [.int .i64 c.epoch, .int .i64 c.version, .slice As c.objs.schemas.length caps, .slice At c.objs.tables.length capt, .slice An c.rols.names.length capn, .slice Am c.rols.members.length capm, .slice Ag c.grants.length capg] := by rw [hW]; exact box_at (Aft.refl _) (by simp)
  obtain ⟨tb, htb⟩ : ∃ b, decide (0 ≤ tabAt c.objs.tables s n) = b := ⟨_, rfl⟩
  obtain ⟨wb, hwb⟩ : ∃ b, wholeB c = b := ⟨_, rfl⟩
  obtain ⟨cb, hcb⟩ : ∃ b, inB c.rols.names role = b := ⟨_, rfl⟩
  obtain ⟨T, hT⟩ : ∃ T, tabF c.objs s n = T := ⟨_, rfl⟩
  obtain ⟨bb, hbb⟩ : ∃ b, bossB c.objs (allL c.rols role) T = b := ⟨_, rfl⟩
  obtain ⟨kb, hkb⟩ : ∃ b, kindB rt = b := ⟨_, rfl⟩
  obtain ⟨gb, hgb⟩ : ∃ b, givesB c.grants (allL c.rols role) s n rt false = b := ⟨_, rfl⟩
  have CK := Lib.hid (show ∀ V, Calls Tryz.prog 79 #[.int .i64 rt] V fun e w'' => e = .returned (.bool kb) ∧ V = w'' from fun V => hkb ▸ kindG rt V)
  have HRES := Lib.hid (show mayR c role s n rt = (wb && (tb && cb) && kb && (bb || gb)) by unfold mayR; rw [htb, hwb, hcb, hT, hbb, hkb, hgb])
  have CT := Lib.hid (show Calls Tryz.prog 80 #[.agg #[.int .i64 c.epoch, .int .i64 c.version, .slice As c.objs.schemas.length caps, .slice At c.objs.tables.length capt, .slice An c.rols.names.length capn, .slice Am c.rols.members.length capm, .slice Ag c.grants.length capg], .string s, .string n] W fun e w'' => ∃ (A2 : Option Addr) (c2 : Nat) (A3 : Option Addr) (c3 : Nat), e = .returned (.tuple #[.agg #[.string T.schema, .string T.name, .string T.owner, .slice A2 T.cols.length c2, .slice A3 T.rules.length c3], .bool tb]) ∧ Aft W w'' from by
    have := tableG c As caps At capt An capn Am capm Ag capg s n W (tabs_aft aW H.tab)
    unfold TabP at this
    rw [hT, htb] at this
    exact this)
  have CA := Lib.hid (show ∀ V, Aft W V → Calls Tryz.prog 83 #[.agg #[.slice An c.rols.names.length capn, .slice Am c.rols.members.length capm], .string role] V (AllP c.rols role V) from fun V a => all8 c.rols An capn Am capm role V (strs_aft (aW.trans a) H.nam) (mbrs_aft (aW.trans a) H.mem) hrs)
  have CW := Lib.hid (show ∀ V, Aft W V → Calls Tryz.prog 78 #[.agg #[.int .i64 c.epoch, .int .i64 c.version, .slice As c.objs.schemas.length caps, .slice At c.objs.tables.length capt, .slice An c.rols.names.length capn, .slice Am c.rols.members.length capm, .slice Ag c.grants.length capg]] V fun e w'' => e = .returned (.bool wb) ∧ Aft V w'' from fun V a => (wholeG c As caps At capt An capn Am capm Ag capg V (H.aft (aW.trans a))).mono fun e w'' ⟨he, hw⟩ => ⟨he.trans (by rw [hwb]), hw⟩)
  have CN := Lib.hid (show ∀ V, Aft W V → Calls Tryz.prog 84 #[.slice An c.rols.names.length capn, .string role] V fun e w'' => e = .returned (.bool cb) ∧ V = w'' from fun V a => hcb ▸ scont8 An capn c.rols.names role V (strs_aft (aW.trans a) H.nam))
  have HTS := Lib.hid (show wb = true → tb = true → T.schema = s ∧ T.name = n ∧ 0 ≤ schAt c.objs.schemas s from fun h1 h2 => by
    rw [← hT]
    exact stands_tab2 (whole_iff.1 (hwb.trans h1)).1 (of_decide_eq_true (htb.trans h2)))
  have HH := Lib.hid H
  have HAW := Lib.hid aW
  have HR0 := Lib.hid r0
  have HBB := Lib.hid hbb
  have HGB := Lib.hid hgb
  obtain ⟨x0, x1, x2, x3, x4, x5, x6, xz⟩ := rowF7 r0
  clear htb hwb hcb hT hbb H aW r0 hkb hgb
  go_enter Tryz.func42, Tryz.ntmps42
  go_wp2_with fail
  rw [← hW]
  clear hW
  refine CT.out.mono ?_
  rintro e w1 ⟨A2, c2, A3, c3, rfl, a1⟩
  obtain ⟨Y, hY⟩ : ∃ V, V = w1.alloc (.cells #[.string T.schema, .string T.name, .string T.owner, .slice A2 T.cols.length c2, .slice A3 T.rules.length c3] 89) := ⟨_, rfl⟩
  have aY : Aft w1 Y := by rw [hY]; exact (Aft.refl w1).alloc _
  have RY := Lib.hid (show RowAt Y w1.heap.size [.string T.schema, .string T.name, .string T.owner, .slice A2 T.cols.length c2, .slice A3 T.rules.length c3] by rw [hY]; exact box_row2 (Aft.refl _))
  have AY := Lib.hid (a1.trans aY)
  have p1 := HR0.out.aft a1
  clear x0 x1 x2 x3 x4 x5 x6 xz CT
  have x4 := p1.cell (j := 4) rfl
  have x5 := p1.cell (j := 5) rfl
  have xz := p1.1
  clear a1 aY p1
  go_wp2_with fail
  rw [← hY]
  clear hY
  refine (CA.out Y AY.out).mono ?_
  rintro e w2 ⟨h, rfl, a2, ho⟩
  have A2' := Lib.hid (AY.out.trans a2)
  have RY2 := Lib.hid (RY.out.aft a2)
  have HO := Lib.hid ho
  have hsl := own_slice ho
  rw [hsl]
  have p1 := HR0.out.aft A2'.out
  clear x4 x5 xz a2 ho hsl CA
  obtain ⟨x0, x1, x2, x3, x4, x5, x6, xz⟩ := rowF7 p1
  clear p1
  cases tb
  case false =>
    go_wp2_with fail
    go_ret
    exact ⟨by rw [HRES.out]; cases wb <;> rfl, HAW.out.trans A2'.out⟩
  go_wp2_with fail
  refine (CK.out w2).mono ?_
  rintro e w9 ⟨rfl, rfl⟩
  cases kb
  case false =>
    go_wp2_with fail
    go_ret
    exact ⟨by rw [HRES.out]; cases wb <;> cases cb <;> rfl, HAW.out.trans A2'.out⟩
  go_wp2_with fail
  refine (CW.out w2 A2'.out).mono ?_
  rintro e w3 ⟨rfl, a3⟩
  have A3' := Lib.hid (A2'.out.trans a3)
  have RY3 := Lib.hid (RY2.out.aft a3)
  have HO3 := Lib.hid (own_aft HO.out a3)
  have p1 := HR0.out.aft A3'.out
  clear x0 x1 x2 x3 x4 x5 x6 xz a3 HO RY2
  obtain ⟨x0, x1, x2, x3, x4, x5, x6, xz⟩ := rowF7 p1
  clear p1
  cases wb
  case false =>
    go_wp2_with fail
    go_ret
    exact ⟨by rw [HRES.out]; rfl, HAW.out.trans A3'.out⟩
  go_wp2_with fail
  refine (CN.out w3 A3'.out).mono ?_
  rintro e w9 ⟨rfl, rfl⟩
  cases cb
  case false =>
    go_wp2_with fail
    go_ret
    exact ⟨by rw [HRES.out]; rfl, HAW.out.trans A3'.out⟩
  obtain ⟨ts, tn, hsc⟩ := HTS.out (by first | trivial | rfl) (by first | trivial | rfl)
  have sn := sm_names (strs_aft (HAW.out.trans A3'.out) HH.out.nam)
  have hal := allL_len c.rols role
  have sl := own_slf (R := StrR) nameC HO3.out (fun x hx => ⟨rfl, rfl, sn.2 x (allL_mem hx)⟩) (by have := sn.1; unfold Small at *; omega)
  have CB := Lib.hid (show Calls Tryz.prog 85 #[.agg #[.int .i64 c.epoch, .int .i64 c.version, .slice As c.objs.schemas.length caps, .slice At c.objs.tables.length capt, .slice An c.rols.names.length capn, .slice Am c.rols.members.length capm, .slice Ag c.grants.length capg], .slice h.a (allL c.rols role).length h.c, .agg #[.string T.schema, .string T.name, .string T.owner, .slice A2 T.cols.length c2, .slice A3 T.rules.length c3]] w3 fun e w'' => e = .returned (.bool bb) ∧ Aft w3 w'' from
    HBB.out ▸ bossG c As caps At capt An capn Am capm Ag capg (allL c.rols role) h.a h.c T.schema T.name T.owner A2 _ c2 A3 _ c3 T ⟨rfl, rfl⟩ w3 (HH.out.aft (HAW.out.trans A3'.out)) sl (by rw [ts]; exact hsc))
  obtain ⟨v0, v1, v2, v3, v4, vz⟩ := rowF5 RY3.out
  have HSL := Lib.hid sl
  have HTN := Lib.hid (And.intro ts tn)
  clear ts tn hsc sn hal sl
  go_wp2_with fail
  refine CB.out.mono ?_
  rintro e w4 ⟨rfl, a4⟩
  have A4 := Lib.hid (A3'.out.trans a4)
  have p1 := HR0.out.aft A4.out
  have RY4 := RY3.out.aft a4
  clear x0 x1 x2 x3 x4 x5 x6 xz v0 v1 v2 v3 v4 vz
  have x6 := p1.cell (j := 6) rfl
  have xz := p1.1
  obtain ⟨v0, v1, v2, v3, v4, vz⟩ := rowF5 RY4
  have sl4 := strs_aft a4 HSL.out
  have CG := Lib.hid (show Calls Tryz.prog 86 #[.slice Ag c.grants.length capg, .slice h.a (allL c.rols role).length h.c, .agg #[.string T.schema, .string T.name, .string T.owner, .slice A2 T.cols.length c2, .slice A3 T.rules.length c3], .int .i64 rt, .bool false] w4 fun e w'' => e = .returned (.bool gb) ∧ Aft w4 w'' from
    HGB.out ▸ (givenG c.grants Ag capg (allL c.rols role) h.a h.c T.schema T.name T.owner A2 _ c2 A3 _ c3 rt false w4 (gras_aft (HAW.out.trans A4.out) HH.out.gra) sl4).mono fun e w'' ⟨he, hw⟩ => ⟨he.trans (by rw [HTN.out.1, HTN.out.2]), hw⟩)
  clear p1 RY4 sl4 a4
  cases bb
  case true =>
    go_wp2_with fail
    go_ret
    exact ⟨by rw [HRES.out]; rfl, HAW.out.trans A4.out⟩
  go_wp2_with fail
  refine CG.out.mono ?_
  rintro e w5 ⟨rfl, a5⟩
  have A5 := Lib.hid (A4.out.trans a5)
  clear a5
  go_wp2_with fail
  go_ret
  exact ⟨by rw [HRES.out]; rfl, HAW.out.trans A5.out⟩
end Go.Proofs.YtlklmekapbojdaaGreat

namespace Go.Proofs.YtlklmekapbojdaaGreat
open Go.RowKit Go.Deep
set_option maxRecDepth 100000
set_option linter.unusedVariables false
theorem oneC_boss : bossR oneC bO bS bT = true := by
  unfold bossR
  rw [oneC_whole, oneC_all bO (by decide +kernel)]
  decide +kernel
theorem oneC_may1 : mayR oneC bRoot bS bT 2 = true := by
  unfold mayR
  rw [oneC_whole, oneC_all bRoot (by decide +kernel)]
  decide +kernel
theorem oneC_may2 : mayR oneC bA bS bT 2 = false := by
  unfold mayR
  rw [oneC_whole, oneC_all bA (by decide +kernel)]
  decide +kernel
set_option maxHeartbeats 8000000 in
theorem may9 (w : World) : Calls Tryz.prog 43 #[] w fun e w' => e = .returned (.bool true) ∧ Aft w w' := by
  go_enter Tryz.func43, Tryz.ntmps43
  go_wp2_with fail
  refine (one9 _).mono ?_
  rintro e w1 ⟨As, caps, At, capt, An, capn, rfl, a1, H1⟩
  obtain ⟨W1, hW1⟩ : ∃ V, V = w1.alloc (.cells #[.int .i64 0, .int .i64 0, .slice As 1 caps, .slice At 1 capt, .slice An 4 capn, .slice none 0 0, .slice none 0 0] 66) := ⟨_, rfl⟩
  have aW1 : Aft w1 W1 := by rw [hW1]; exact (Aft.refl w1).alloc _
  have R1 := Lib.hid (show RowAt W1 w1.heap.size [.int .i64 0, .int .i64 0, .slice As 1 caps, .slice At 1 capt, .slice An 4 capn, .slice none 0 0, .slice none 0 0] by rw [hW1]; exact box_row2 (Aft.refl _))
  have A1 := Lib.hid (a1.trans aW1)
  have HH := Lib.hid (H1.aft aW1)
  have C1 := Lib.hid (show ∀ V, Aft W1 V → Calls Tryz.prog 102 #[.agg #[.int .i64 0, .int .i64 0, .slice As 1 caps, .slice At 1 capt, .slice An 4 capn, .slice none 0 0, .slice none 0 0], .string ⟨#[111]⟩, .string ⟨#[115]⟩, .string ⟨#[116]⟩] V fun e w'' => e = .returned (.bool true) ∧ Aft V w'' from fun V a => (bossT oneC As caps At capt An capn none 0 none 0 bO bS bT (by unfold Small; decide) V (HH.out.aft a)).mono fun e w'' ⟨he, hw⟩ => ⟨he.trans (by rw [oneC_boss]), hw⟩)
  have C2 := Lib.hid (show ∀ V, Aft W1 V → Calls Tryz.prog 42 #[.agg #[.int .i64 0, .int .i64 0, .slice As 1 caps, .slice At 1 capt, .slice An 4 capn, .slice none 0 0, .slice none 0 0], .string ⟨#[114, 111, 111, 116]⟩, .string ⟨#[115]⟩, .string ⟨#[116]⟩, .int .i64 2] V fun e w'' => e = .returned (.bool true) ∧ Aft V w'' from fun V a => (mayT oneC As caps At capt An capn none 0 none 0 bRoot bS bT 2 (by unfold Small; decide) V (HH.out.aft a)).mono fun e w'' ⟨he, hw⟩ => ⟨he.trans (by rw [oneC_may1]), hw⟩)
  have C3 := Lib.hid (show ∀ V, Aft W1 V → Calls Tryz.prog 42 #[.agg #[.int .i64 0, .int .i64 0, .slice As 1 caps, .slice At 1 capt, .slice An 4 capn, .slice none 0 0, .slice none 0 0], .string ⟨#[97]⟩, .string ⟨#[115]⟩, .string ⟨#[116]⟩, .int .i64 2] V fun e w'' => e = .returned (.bool false) ∧ Aft V w'' from fun V a => (mayT oneC As caps At capt An capn none 0 none 0 bA bS bT 2 (by unfold Small; decide) V (HH.out.aft a)).mono fun e w'' ⟨he, hw⟩ => ⟨he.trans (by rw [oneC_may2]), hw⟩)
  have p0 := R1.out
  obtain ⟨x0, x1, x2, x3, x4, x5, x6, xz⟩ := rowF7 p0
  clear a1 H1 aW1 p0
  go_wp2_with fail
  rw [← hW1]
  clear hW1
  go_wp2_with fail
  refine (C1.out W1 (Aft.refl _)).mono ?_
  rintro e w2 ⟨rfl, a2⟩
  have A2 := Lib.hid a2
  have p0 := R1.out.aft a2
  clear a2 C1 x0 x1 x2 x3 x4 x5 x6 xz
  obtain ⟨x0, x1, x2, x3, x4, x5, x6, xz⟩ := rowF7 p0
  clear p0
  go_wp2_with fail
  refine (C2.out w2 A2.out).mono ?_
  rintro e w3 ⟨rfl, a3⟩
  have A3 := Lib.hid (A2.out.trans a3)
  have p0 := R1.out.aft A3.out
  clear a3 C2 x0 x1 x2 x3 x4 x5 x6 xz
  obtain ⟨x0, x1, x2, x3, x4, x5, x6, xz⟩ := rowF7 p0
  clear p0
  go_wp2_with fail
  refine (C3.out w3 A3.out).mono ?_
  rintro e w4 ⟨rfl, a4⟩
  have A4 := Lib.hid (A1.out.trans (A3.out.trans a4))
  clear a4
  go_wp2_with fail
  go_ret
  exact ⟨rfl, A4.out⟩
end Go.Proofs.YtlklmekapbojdaaGreat

