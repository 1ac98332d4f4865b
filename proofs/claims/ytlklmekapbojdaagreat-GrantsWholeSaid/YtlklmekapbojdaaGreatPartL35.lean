/- Contracts of the program, part 35. -/
import Derived.Deep.AppendLies
import Derived.Deep.DeepMust
import Derived.OwnWalk
import Derived.Laws.AppendOwn
import Derived.ProofKit
import Derived.OpenShut
import Derived.Deep.Slices
import Derived.ChangeOld
import Derived.SizedLaws
import Derived.WalkKit
import Derived.WalkSpells
import Derived.WalkLawsBesides
import Derived.Lib.Hide
import Derived.Deep.QuietTactic
import Derived.BigQuiet
import Derived.Below
import Derived.Deep.Draws
import Derived.StillTailTactics
import Derived.Laws.Cells
import Derived.Laws.IdiomCopy
import Derived.Test.YtlklmekapbojdaaGreatRows
import Derived.Lib.Walk
import Derived.Laws.EntriesVeiled
import Derived.Maps.Own
import Derived.Maps.Views
import Derived.Deep.Upon
import Derived.OneCell
import Derived.OrdersHeld
import Derived.Deep.RegionHeld3
import Derived.IntWalk
import Derived.Lib.Bytealg
import Derived.Lib.SliceRun
import Derived.Deep.RegionLaw
import Derived.Lib.AppendZerosOnto
import Derived.Lib.Overlaps
import Derived.Shelf.SlSortCmp.WholeK
import Derived.WalkMore
import Derived.Laws.StructEq
import Derived.WideKeyEntry
import Derived.DeepKeys3
import Derived.ChangeKeys
import Derived.Test.YtlklmekapbojdaaGreatPartL1
import Derived.Test.YtlklmekapbojdaaGreatPartL2
import Derived.Test.YtlklmekapbojdaaGreatPartL3
import Derived.Test.YtlklmekapbojdaaGreatPartL4
import Derived.Test.YtlklmekapbojdaaGreatPartL5
import Derived.Test.YtlklmekapbojdaaGreatPartL6
import Derived.Test.YtlklmekapbojdaaGreatPartL7
import Derived.Test.YtlklmekapbojdaaGreatPartL8
import Derived.Test.YtlklmekapbojdaaGreatPartL9
import Derived.Test.YtlklmekapbojdaaGreatPartL10
import Derived.Test.YtlklmekapbojdaaGreatPartL12
import Derived.Test.YtlklmekapbojdaaGreatPartL13
import Derived.Test.YtlklmekapbojdaaGreatPartL14
import Derived.Test.YtlklmekapbojdaaGreatPartL15
import Derived.Test.YtlklmekapbojdaaGreatPartL16
import Derived.Test.YtlklmekapbojdaaGreatPartL18
import Derived.Test.YtlklmekapbojdaaGreatPartL19
import Derived.Test.YtlklmekapbojdaaGreatPartL24
import Derived.Test.YtlklmekapbojdaaGreatPartL25
import Derived.Test.YtlklmekapbojdaaGreatPartL26
import Derived.Test.YtlklmekapbojdaaGreatPartL28
namespace Go.Proofs.YtlklmekapbojdaaGreat
open Go.RowKit
set_option linter.unusedVariables false
/-- who was given a right may use it -/
theorem Gave.may {c : Cat} {g : Gra} {x : Cat} (h : Gave c g x) : mayR x g.to g.schema g.table g.right = true := by
  obtain ⟨k1, k2, k3, k4, k5⟩ := ok_parts h.ok
  have hw := h.wholeX
  have hR := (stands_iff.1 (whole_iff.1 hw).1).2.1.2.1
  have ho : x.objs = c.objs := by rw [h.is]
  have hr : x.rols = c.rols := by rw [h.is]
  unfold mayR
  rw [hw, ho, hr, decide_eq_true k1, k5, k2]
  rw [hr] at hR
  have hall : inB (allL c.rols g.to) g.to = true := by
    unfold allL
    rw [hR, k5]
    exact (inB_mem _ _).2 (List.mem_filter.2 ⟨(inB_mem _ _).1 k5, reachB_refl _ _⟩)
  have hg : givesB x.grants (allL c.rols g.to) g.schema g.table g.right false = true := by
    unfold givesB
    rw [List.any_eq_true]
    obtain ⟨y, hy, e⟩ := laid_has c.grants g
    unfold fkey at e
    simp only [Prod.mk.injEq] at e
    obtain ⟨e1, e2, e3, e4, e5⟩ := e
    refine ⟨y, by rw [h.is]; exact hy, ?_⟩
    rw [e1, e2, e3, e5, hall, (eqS_iff _ _).2 rfl, (eqS_iff _ _).2 rfl]
    simp
  rw [hg]
  simp
end Go.Proofs.YtlklmekapbojdaaGreat

namespace Go.Proofs.YtlklmekapbojdaaGreat
open Go.RowKit Go.Deep
set_option maxRecDepth 100000
set_option linter.unusedVariables false
set_option maxHeartbeats 16000000 in
theorem law_whole9 (c : Cat) (As : Option Addr) (caps : Nat) (At : Option Addr) (capt : Nat) (An : Option Addr) (capn : Nat) (Am : Option Addr) (capm : Nat) (Ag : Option Addr) (capg : Nat) (g : Gra) (sg : SmG g) (w : World) (H : CatAt w c As caps At capt An capn Am capm Ag capg) :
    Calls Tryz.prog 10 #[.agg #[.int .i64 c.epoch, .int .i64 c.version, .slice As c.objs.schemas.length caps, .slice At c.objs.tables.length capt, .slice An c.rols.names.length capn, .slice Am c.rols.members.length capm, .slice Ag c.grants.length capg], .agg #[.string g.schema, .string g.table, .int .i64 g.right, .string g.giver, .string g.to, .bool g.opt]] w fun e w' => e = .returned (.bool true) ∧ Aft w w' := by
  obtain ⟨⟨X, ge⟩, hX0⟩ : ∃ F, giveR c g = F := ⟨_, rfl⟩
  obtain ⟨⟨Y, te⟩, hY0⟩ : ∃ F, takeR X g = F := ⟨_, rfl⟩
  have SMX := Lib.hid (show SmC X from by have := sm_giveR (c := c) (g := g) H.sm sg; rw [hX0] at this; exact this)
  have SMY := Lib.hid (show SmC Y from by have := sm_takeR (c := X) (g := g) SMX.out; rw [hY0] at this; exact this)
  have HG := Lib.hid (show ge = 0 → te = 0 ∧ wholeB X = true ∧ mayR X g.to g.schema g.table g.right = true ∧ wholeB Y = true ∧ (∀ y ∈ Y.grants, fiveE y g = false) from fun h1 => by
    have k := give_ok (c := c) (g := g) (by rw [hX0]; exact h1)
    rw [hX0] at k
    have hw := k.wholeX
    have ht := take_is hw k.inX
    rw [hY0, Prod.mk.injEq] at ht
    obtain ⟨rfl, rfl⟩ := ht
    exact ⟨rfl, hw, k.may, take_whole g hw, fun y hy => (take_none (c := X) g y hy).1⟩)
  have C1 := Lib.hid (show ∀ V, CatAt V c As caps At capt An capn Am capm Ag capg → Calls Tryz.prog 35 #[.agg #[.int .i64 c.epoch, .int .i64 c.version, .slice As c.objs.schemas.length caps, .slice At c.objs.tables.length capt, .slice An c.rols.names.length capn, .slice Am c.rols.members.length capm, .slice Ag c.grants.length capg], .agg #[.string g.schema, .string g.table, .int .i64 g.right, .string g.giver, .string g.to, .bool g.opt]] V (ChgC V (X, ge)) from fun V a => hX0 ▸ giveG c As caps At capt An capn Am capm Ag capg g sg V a)
  have C2 := Lib.hid (show ∀ V As caps At capt An capn Am capm Ag capg, CatAt V X As caps At capt An capn Am capm Ag capg → Calls Tryz.prog 39 #[.agg #[.int .i64 X.epoch, .int .i64 X.version, .slice As X.objs.schemas.length caps, .slice At X.objs.tables.length capt, .slice An X.rols.names.length capn, .slice Am X.rols.members.length capm, .slice Ag X.grants.length capg], .agg #[.string g.schema, .string g.table, .int .i64 g.right, .string g.giver, .string g.to, .bool g.opt]] V (ChgC V (Y, te)) from fun V As caps At capt An capn Am capm Ag capg a => hY0 ▸ takeG X As caps At capt An capn Am capm Ag capg g V a)
  have K1 := Lib.hid (show ∀ V (Z : Cat) As caps At capt An capn Am capm Ag capg, wholeB Z = true → CatAt V Z As caps At capt An capn Am capm Ag capg → Calls Tryz.prog 44 #[.agg #[.int .i64 Z.epoch, .int .i64 Z.version, .slice As Z.objs.schemas.length caps, .slice At Z.objs.tables.length capt, .slice An Z.rols.names.length capn, .slice Am Z.rols.members.length capm, .slice Ag Z.grants.length capg]] V fun e w' => e = .returned (.int .i64 0) ∧ Aft V w' from fun V Z As caps At capt An capn Am capm Ag capg hz a => (checkG Z As caps At capt An capn Am capm Ag capg V a).mono fun e w'' ⟨he, hw⟩ => ⟨he.trans (by rw [hz]; rfl), hw⟩)
  have M1 := Lib.hid (show ∀ V As caps At capt An capn Am capm Ag capg, mayR X g.to g.schema g.table g.right = true → CatAt V X As caps At capt An capn Am capm Ag capg → Calls Tryz.prog 42 #[.agg #[.int .i64 X.epoch, .int .i64 X.version, .slice As X.objs.schemas.length caps, .slice At X.objs.tables.length capt, .slice An X.rols.names.length capn, .slice Am X.rols.members.length capm, .slice Ag X.grants.length capg], .string g.to, .string g.schema, .string g.table, .int .i64 g.right] V fun e w' => e = .returned (.bool true) ∧ Aft V w' from fun V As caps At capt An capn Am capm Ag capg hm a => hm ▸ mayT X As caps At capt An capn Am capm Ag capg g.to g.schema g.table g.right sg.2.2.2.1 V a)
  clear hX0 hY0
  obtain ⟨W, hW⟩ : ∃ W, W = (w.alloc (.cells #[.int .i64 c.epoch, .int .i64 c.version, .slice As c.objs.schemas.length caps, .slice At c.objs.tables.length capt, .slice An c.rols.names.length capn, .slice Am c.rols.members.length capm, .slice Ag c.grants.length capg] 66)).alloc (.cells #[.string g.schema, .string g.table, .int .i64 g.right, .string g.giver, .string g.to, .bool g.opt] 76) := ⟨_, rfl⟩
  have aW : Aft w W := by rw [hW]; exact ((Aft.refl w).alloc _).alloc _
  have r0 : RowAt W (w.heap.size) [.int .i64 c.epoch, .int .i64 c.version, .slice As c.objs.schemas.length caps, .slice At c.objs.tables.length capt, .slice An c.rols.names.length capn, .slice Am c.rols.members.length capm, .slice Ag c.grants.length capg] := by rw [hW]; exact RowAt.up (box_at (Aft.refl _) (by simp))
  have r1 : RowAt W (w.heap.size + 1) [.string g.schema, .string g.table, .int .i64 g.right, .string g.giver, .string g.to, .bool g.opt] := by rw [hW]; exact box_at (Aft.refl _) (by simp)
  have l1 : w.heap.size < w.heap.size + 1 := by omega
  have l2 : w.heap.size < w.heap.size + 1 + 1 := by omega
  have l3 : w.heap.size + 1 < w.heap.size + 1 + 1 := by omega
  have HAW := Lib.hid aW
  have Bx0 := Lib.hid r0
  have By0 := Lib.hid r1
  have Kc0 := Lib.hid (H.aft aW)
  have HSM := Lib.hid H.sm
  have HSG := Lib.hid sg
  have CL := Lib.hid (large9 c As caps At capt An capn Am capm Ag capg W (H.aft aW))
  clear H sg
  obtain ⟨x0, x1, x2, x3, x4, x5, x6, xz⟩ := rowF7 Bx0.out
  obtain ⟨y0, y1, y2, y3, y4, y5, yz⟩ := rowF6 By0.out
  clear r0 r1 aW
  go_enter Tryz.func10, Tryz.ntmps10
  go_wp2_with fail
  rw [← hW]
  clear hW
  go_wp2_with fail
  refine CL.out.mono ?_
  rintro e w1 ⟨bg, rfl, _, a1⟩
  clear x0 x1 x2 x3 x4 x5 x6 xz y0 y1 y2 y3 y4 y5 yz 
  have Bx1 := Lib.hid (Bx0.out.aft a1)
  have By1 := Lib.hid (By0.out.aft a1)
  have Kc1 := Lib.hid (Kc0.out.aft a1)
  have AT1 := Lib.hid (HAW.out.trans a1)
  clear a1 CL
  obtain ⟨x0, x1, x2, x3, x4, x5, x6, xz⟩ := rowF7 Bx1.out
  obtain ⟨y0, y1, y2, y3, y4, y5, yz⟩ := rowF6 By1.out
  cases bg
  case true =>
    go_wp2_with fail
    go_ret
    exact ⟨rfl, AT1.out⟩
  go_wp2_with fail
  refine (C1.out _ Kc1.out).mono ?_
  rintro e w2 ⟨hPs, hPt, hPn, hPm, hPg, LP, rfl, aw2, ciP⟩
  obtain ⟨Ps, nPs, Pcs⟩ := hPs
  obtain ⟨Pt, nPt, Pct⟩ := hPt
  obtain ⟨Pn, nPn, Pcn⟩ := hPn
  obtain ⟨Pm, nPm, Pcm⟩ := hPm
  obtain ⟨Pg, nPg, Pcg⟩ := hPg
  simp only [CatV]
  have KP0 := Lib.hid (show CatAt w2 X Ps Pcs Pt Pct Pn Pcn Pm Pcm Pg Pcg from ciP.at SMX.out)
  clear x0 x1 x2 x3 x4 x5 x6 xz y0 y1 y2 y3 y4 y5 yz 
  have Bx2 := Lib.hid (Bx1.out.aft aw2)
  have By2 := Lib.hid (By1.out.aft aw2)
  have Kc2 := Lib.hid (Kc1.out.aft aw2)
  have AT2 := Lib.hid (AT1.out.trans aw2)
  clear aw2 ciP
  obtain ⟨x0, x1, x2, x3, x4, x5, x6, xz⟩ := rowF7 Bx2.out
  obtain ⟨y0, y1, y2, y3, y4, y5, yz⟩ := rowF6 By2.out
  clear x0 x1 x2 x3 x4 x5 x6 xz y0 y1 y2 y3 y4 y5 yz 
  obtain ⟨X2, hX2⟩ : ∃ V, V = w2.alloc (.cells #[.int .i64 X.epoch, .int .i64 X.version, .slice Ps X.objs.schemas.length Pcs, .slice Pt X.objs.tables.length Pct, .slice Pn X.rols.names.length Pcn, .slice Pm X.rols.members.length Pcm, .slice Pg X.grants.length Pcg] 66) := ⟨_, rfl⟩
  have aX2 : Aft w2 X2 := by rw [hX2]; exact (Aft.refl _).alloc _
  have RX2 := Lib.hid (show RowAt X2 w2.heap.size [.int .i64 X.epoch, .int .i64 X.version, .slice Ps X.objs.schemas.length Pcs, .slice Pt X.objs.tables.length Pct, .slice Pn X.rols.names.length Pcn, .slice Pm X.rols.members.length Pcm, .slice Pg X.grants.length Pcg] by rw [hX2]; exact box_row2 (Aft.refl _))
  have Bx3 := Lib.hid (Bx2.out.aft aX2)
  have By3 := Lib.hid (By2.out.aft aX2)
  have Kc3 := Lib.hid (Kc2.out.aft aX2)
  have KP3 := Lib.hid (KP0.out.aft aX2)
  have AT3 := Lib.hid (AT2.out.trans aX2)
  obtain ⟨x0, x1, x2, x3, x4, x5, x6, xz⟩ := rowF7 Bx3.out
  obtain ⟨y0, y1, y2, y3, y4, y5, yz⟩ := rowF6 By3.out
  obtain ⟨p0, p1, p2, p3, p4, p5, p6, pz⟩ := rowF7 RX2.out
  rw [hX2] at x0 x1 x2 x3 x4 x5 x6 xz y0 y1 y2 y3 y4 y5 yz p0 p1 p2 p3 p4 p5 p6 pz
  by_cases hge : ge = 0
  case neg =>
    have hge2 : (ge == 0) = false := by simpa using hge
    have hge3 : (ge != 0) = true := by simp [hge]
    go_wp2_with fail
    rw [← hX2]
    clear x0 x1 x2 x3 x4 x5 x6 xz y0 y1 y2 y3 y4 y5 yz p0 p1 p2 p3 p4 p5 p6 pz hX2 aX2
    obtain ⟨x0, x1, x2, x3, x4, x5, x6, xz⟩ := rowF7 Bx3.out
    obtain ⟨y0, y1, y2, y3, y4, y5, yz⟩ := rowF6 By3.out
    obtain ⟨p0, p1, p2, p3, p4, p5, p6, pz⟩ := rowF7 RX2.out
    refine (gives9 X2).mono ?_
    rintro e v1 ⟨rfl, av1⟩
    clear x0 x1 x2 x3 x4 x5 x6 xz y0 y1 y2 y3 y4 y5 yz p0 p1 p2 p3 p4 p5 p6 pz 
    have Bx4 := Lib.hid (Bx3.out.aft av1)
    have By4 := Lib.hid (By3.out.aft av1)
    have Bp4 := Lib.hid (RX2.out.aft av1)
    have Kc4 := Lib.hid (Kc3.out.aft av1)
    have KP4 := Lib.hid (KP3.out.aft av1)
    have AT4 := Lib.hid (AT3.out.trans av1)
    clear av1 
    obtain ⟨x0, x1, x2, x3, x4, x5, x6, xz⟩ := rowF7 Bx4.out
    obtain ⟨y0, y1, y2, y3, y4, y5, yz⟩ := rowF6 By4.out
    obtain ⟨p0, p1, p2, p3, p4, p5, p6, pz⟩ := rowF7 Bp4.out
    go_wp2_with fail
    refine (may9 v1).mono ?_
    rintro e v2 ⟨rfl, av2⟩
    clear x0 x1 x2 x3 x4 x5 x6 xz y0 y1 y2 y3 y4 y5 yz p0 p1 p2 p3 p4 p5 p6 pz 
    have Bx5 := Lib.hid (Bx4.out.aft av2)
    have By5 := Lib.hid (By4.out.aft av2)
    have Bp5 := Lib.hid (Bp4.out.aft av2)
    have Kc5 := Lib.hid (Kc4.out.aft av2)
    have KP5 := Lib.hid (KP4.out.aft av2)
    have AT5 := Lib.hid (AT4.out.trans av2)
    clear av2 
    obtain ⟨x0, x1, x2, x3, x4, x5, x6, xz⟩ := rowF7 Bx5.out
    obtain ⟨y0, y1, y2, y3, y4, y5, yz⟩ := rowF6 By5.out
    obtain ⟨p0, p1, p2, p3, p4, p5, p6, pz⟩ := rowF7 Bp5.out
    go_wp2_with fail
    go_ret
    exact ⟨rfl, AT5.out⟩
  subst hge
  obtain ⟨rfl, hwx, hmx, hwy, hny⟩ := HG.out rfl
  have HWX := Lib.hid hwx
  have HMX := Lib.hid hmx
  have HWY := Lib.hid hwy
  have HNY := Lib.hid hny
  clear hwx hmx hwy hny HG
  go_wp2_with fail
  rw [← hX2]
  clear x0 x1 x2 x3 x4 x5 x6 xz y0 y1 y2 y3 y4 y5 yz p0 p1 p2 p3 p4 p5 p6 pz hX2 aX2
  obtain ⟨x0, x1, x2, x3, x4, x5, x6, xz⟩ := rowF7 Bx3.out
  obtain ⟨y0, y1, y2, y3, y4, y5, yz⟩ := rowF6 By3.out
  obtain ⟨p0, p1, p2, p3, p4, p5, p6, pz⟩ := rowF7 RX2.out
  have HY4 := Lib.hid (C2.out _ _ _ _ _ _ _ _ _ _ _ KP3.out)
  clear C2
  go_wp2_with fail
  refine HY4.out.mono ?_
  rintro e w3 ⟨hQs, hQt, hQn, hQm, hQg, LQ, rfl, aw3, ciQ⟩
  obtain ⟨Qs, nQs, Qcs⟩ := hQs
  obtain ⟨Qt, nQt, Qct⟩ := hQt
  obtain ⟨Qn, nQn, Qcn⟩ := hQn
  obtain ⟨Qm, nQm, Qcm⟩ := hQm
  obtain ⟨Qg, nQg, Qcg⟩ := hQg
  simp only [CatV]
  have KQ0 := Lib.hid (show CatAt w3 Y Qs Qcs Qt Qct Qn Qcn Qm Qcm Qg Qcg from ciQ.at SMY.out)
  clear x0 x1 x2 x3 x4 x5 x6 xz y0 y1 y2 y3 y4 y5 yz p0 p1 p2 p3 p4 p5 p6 pz 
  have Bx4 := Lib.hid (Bx3.out.aft aw3)
  have By4 := Lib.hid (By3.out.aft aw3)
  have Bp4 := Lib.hid (RX2.out.aft aw3)
  have Kc4 := Lib.hid (Kc3.out.aft aw3)
  have KP4 := Lib.hid (KP3.out.aft aw3)
  have AT4 := Lib.hid (AT3.out.trans aw3)
  clear aw3 ciQ
  obtain ⟨x0, x1, x2, x3, x4, x5, x6, xz⟩ := rowF7 Bx4.out
  obtain ⟨y0, y1, y2, y3, y4, y5, yz⟩ := rowF6 By4.out
  obtain ⟨p0, p1, p2, p3, p4, p5, p6, pz⟩ := rowF7 Bp4.out
  clear x0 x1 x2 x3 x4 x5 x6 xz y0 y1 y2 y3 y4 y5 yz p0 p1 p2 p3 p4 p5 p6 pz 
  obtain ⟨X3, hX3⟩ : ∃ V, V = w3.alloc (.cells #[.int .i64 Y.epoch, .int .i64 Y.version, .slice Qs Y.objs.schemas.length Qcs, .slice Qt Y.objs.tables.length Qct, .slice Qn Y.rols.names.length Qcn, .slice Qm Y.rols.members.length Qcm, .slice Qg Y.grants.length Qcg] 66) := ⟨_, rfl⟩
  have aX3 : Aft w3 X3 := by rw [hX3]; exact (Aft.refl _).alloc _
  have RX3 := Lib.hid (show RowAt X3 w3.heap.size [.int .i64 Y.epoch, .int .i64 Y.version, .slice Qs Y.objs.schemas.length Qcs, .slice Qt Y.objs.tables.length Qct, .slice Qn Y.rols.names.length Qcn, .slice Qm Y.rols.members.length Qcm, .slice Qg Y.grants.length Qcg] by rw [hX3]; exact box_row2 (Aft.refl _))
  have Bx5 := Lib.hid (Bx4.out.aft aX3)
  have By5 := Lib.hid (By4.out.aft aX3)
  have Bp5 := Lib.hid (Bp4.out.aft aX3)
  have Kc5 := Lib.hid (Kc4.out.aft aX3)
  have KP5 := Lib.hid (KP4.out.aft aX3)
  have KQ5 := Lib.hid (KQ0.out.aft aX3)
  have AT5 := Lib.hid (AT4.out.trans aX3)
  obtain ⟨x0, x1, x2, x3, x4, x5, x6, xz⟩ := rowF7 Bx5.out
  obtain ⟨y0, y1, y2, y3, y4, y5, yz⟩ := rowF6 By5.out
  obtain ⟨p0, p1, p2, p3, p4, p5, p6, pz⟩ := rowF7 Bp5.out
  obtain ⟨q0, q1, q2, q3, q4, q5, q6, qz⟩ := rowF7 RX3.out
  rw [hX3] at x0 x1 x2 x3 x4 x5 x6 xz y0 y1 y2 y3 y4 y5 yz p0 p1 p2 p3 p4 p5 p6 pz q0 q1 q2 q3 q4 q5 q6 qz
  go_wp2_with fail
  rw [← hX3]
  clear x0 x1 x2 x3 x4 x5 x6 xz y0 y1 y2 y3 y4 y5 yz p0 p1 p2 p3 p4 p5 p6 pz q0 q1 q2 q3 q4 q5 q6 qz hX3 aX3
  obtain ⟨x0, x1, x2, x3, x4, x5, x6, xz⟩ := rowF7 Bx5.out
  obtain ⟨y0, y1, y2, y3, y4, y5, yz⟩ := rowF6 By5.out
  obtain ⟨p0, p1, p2, p3, p4, p5, p6, pz⟩ := rowF7 Bp5.out
  obtain ⟨q0, q1, q2, q3, q4, q5, q6, qz⟩ := rowF7 RX3.out
  clear x0 x1 x2 x3 x4 x5 x6 xz y0 y1 y2 y3 y4 y5 yz p0 p1 p2 p3 p4 p5 p6 pz q0 q1 q2 q3 q4 q5 q6 qz
  have HLQ := Lib.hid KQ5.out.gra.len
  have hlq := HLQ.out
  go_loopw [9] (fun u9 wr => ∃ k : Nat, u9 = .int .i64 k ∧ k ≤ Y.grants.length ∧ Aft X3 wr) (fun u9 _ => Y.grants.length - (intOf u9).toNat)
  case atStart => exact ⟨0, rfl, Nat.zero_le _, Aft.refl X3⟩
  case round =>
    obtain ⟨k, rfl, hk, ax⟩ := hrel
    have AX9 := Lib.hid ax
    have Rx9 := Lib.hid (Bx5.out.aft ax)
    have Ry9 := Lib.hid (By5.out.aft ax)
    have Rp9 := Lib.hid (Bp5.out.aft ax)
    have Rq9 := Lib.hid (RX3.out.aft ax)
    have Sc9 := Lib.hid (Kc5.out.aft ax)
    have SP9 := Lib.hid (KP5.out.aft ax)
    have SQ9 := Lib.hid (KQ5.out.aft ax)
    have AT9 := Lib.hid (AT5.out.trans ax)
    obtain ⟨x0, x1, x2, x3, x4, x5, x6, xz⟩ := rowF7 Rx9.out
    obtain ⟨y0, y1, y2, y3, y4, y5, yz⟩ := rowF6 Ry9.out
    obtain ⟨p0, p1, p2, p3, p4, p5, p6, pz⟩ := rowF7 Rp9.out
    obtain ⟨q0, q1, q2, q3, q4, q5, q6, qz⟩ := rowF7 Rq9.out
    by_cases hlt : k < Y.grants.length
    case neg =>
      clear ax
      go_wp2_with fail
      refine (gives9 wr).mono ?_
      rintro e v1 ⟨rfl, av1⟩
      clear x0 x1 x2 x3 x4 x5 x6 xz y0 y1 y2 y3 y4 y5 yz p0 p1 p2 p3 p4 p5 p6 pz q0 q1 q2 q3 q4 q5 q6 qz 
      have Bx6 := Lib.hid (Rx9.out.aft av1)
      have By6 := Lib.hid (Ry9.out.aft av1)
      have Bp6 := Lib.hid (Rp9.out.aft av1)
      have Bq6 := Lib.hid (Rq9.out.aft av1)
      have Kc6 := Lib.hid (Sc9.out.aft av1)
      have KP6 := Lib.hid (SP9.out.aft av1)
      have KQ6 := Lib.hid (SQ9.out.aft av1)
      have AT6 := Lib.hid (AT9.out.trans av1)
      clear av1 
      obtain ⟨x0, x1, x2, x3, x4, x5, x6, xz⟩ := rowF7 Bx6.out
      obtain ⟨y0, y1, y2, y3, y4, y5, yz⟩ := rowF6 By6.out
      obtain ⟨p0, p1, p2, p3, p4, p5, p6, pz⟩ := rowF7 Bp6.out
      obtain ⟨q0, q1, q2, q3, q4, q5, q6, qz⟩ := rowF7 Bq6.out
      go_wp2_with fail
      refine (takes9 v1).mono ?_
      rintro e v2 ⟨rfl, av2⟩
      clear x0 x1 x2 x3 x4 x5 x6 xz y0 y1 y2 y3 y4 y5 yz p0 p1 p2 p3 p4 p5 p6 pz q0 q1 q2 q3 q4 q5 q6 qz 
      have Bx7 := Lib.hid (Bx6.out.aft av2)
      have By7 := Lib.hid (By6.out.aft av2)
      have Bp7 := Lib.hid (Bp6.out.aft av2)
      have Bq7 := Lib.hid (Bq6.out.aft av2)
      have Kc7 := Lib.hid (Kc6.out.aft av2)
      have KP7 := Lib.hid (KP6.out.aft av2)
      have KQ7 := Lib.hid (KQ6.out.aft av2)
      have AT7 := Lib.hid (AT6.out.trans av2)
      clear av2 
      obtain ⟨x0, x1, x2, x3, x4, x5, x6, xz⟩ := rowF7 Bx7.out
      obtain ⟨y0, y1, y2, y3, y4, y5, yz⟩ := rowF6 By7.out
      obtain ⟨p0, p1, p2, p3, p4, p5, p6, pz⟩ := rowF7 Bp7.out
      obtain ⟨q0, q1, q2, q3, q4, q5, q6, qz⟩ := rowF7 Bq7.out
      go_wp2_with fail
      refine (K1.out _ _ _ _ _ _ _ _ _ _ _ _ HWX.out KP7.out).mono ?_
      rintro e v3 ⟨rfl, av3⟩
      clear x0 x1 x2 x3 x4 x5 x6 xz y0 y1 y2 y3 y4 y5 yz p0 p1 p2 p3 p4 p5 p6 pz q0 q1 q2 q3 q4 q5 q6 qz 
      have Bx8 := Lib.hid (Bx7.out.aft av3)
      have By8 := Lib.hid (By7.out.aft av3)
      have Bp8 := Lib.hid (Bp7.out.aft av3)
      have Bq8 := Lib.hid (Bq7.out.aft av3)
      have Kc8 := Lib.hid (Kc7.out.aft av3)
      have KP8 := Lib.hid (KP7.out.aft av3)
      have KQ8 := Lib.hid (KQ7.out.aft av3)
      have AT8 := Lib.hid (AT7.out.trans av3)
      clear av3 
      obtain ⟨x0, x1, x2, x3, x4, x5, x6, xz⟩ := rowF7 Bx8.out
      obtain ⟨y0, y1, y2, y3, y4, y5, yz⟩ := rowF6 By8.out
      obtain ⟨p0, p1, p2, p3, p4, p5, p6, pz⟩ := rowF7 Bp8.out
      obtain ⟨q0, q1, q2, q3, q4, q5, q6, qz⟩ := rowF7 Bq8.out
      go_wp2_with fail
      refine (M1.out _ _ _ _ _ _ _ _ _ _ _ HMX.out KP8.out).mono ?_
      rintro e v4 ⟨rfl, av4⟩
      clear x0 x1 x2 x3 x4 x5 x6 xz y0 y1 y2 y3 y4 y5 yz p0 p1 p2 p3 p4 p5 p6 pz q0 q1 q2 q3 q4 q5 q6 qz 
      have Bx9 := Lib.hid (Bx8.out.aft av4)
      have By9 := Lib.hid (By8.out.aft av4)
      have Bp9 := Lib.hid (Bp8.out.aft av4)
      have Bq9 := Lib.hid (Bq8.out.aft av4)
      have Kc9 := Lib.hid (Kc8.out.aft av4)
      have KP9 := Lib.hid (KP8.out.aft av4)
      have KQ9 := Lib.hid (KQ8.out.aft av4)
      have AT9 := Lib.hid (AT8.out.trans av4)
      clear av4 
      obtain ⟨x0, x1, x2, x3, x4, x5, x6, xz⟩ := rowF7 Bx9.out
      obtain ⟨y0, y1, y2, y3, y4, y5, yz⟩ := rowF6 By9.out
      obtain ⟨p0, p1, p2, p3, p4, p5, p6, pz⟩ := rowF7 Bp9.out
      obtain ⟨q0, q1, q2, q3, q4, q5, q6, qz⟩ := rowF7 Bq9.out
      go_wp2_with fail
      refine (K1.out _ _ _ _ _ _ _ _ _ _ _ _ HWY.out KQ9.out).mono ?_
      rintro e v5 ⟨rfl, av5⟩
      clear x0 x1 x2 x3 x4 x5 x6 xz y0 y1 y2 y3 y4 y5 yz p0 p1 p2 p3 p4 p5 p6 pz q0 q1 q2 q3 q4 q5 q6 qz 
      have Bx10 := Lib.hid (Bx9.out.aft av5)
      have By10 := Lib.hid (By9.out.aft av5)
      have Bp10 := Lib.hid (Bp9.out.aft av5)
      have Bq10 := Lib.hid (Bq9.out.aft av5)
      have Kc10 := Lib.hid (Kc9.out.aft av5)
      have KP10 := Lib.hid (KP9.out.aft av5)
      have KQ10 := Lib.hid (KQ9.out.aft av5)
      have AT10 := Lib.hid (AT9.out.trans av5)
      clear av5 
      obtain ⟨x0, x1, x2, x3, x4, x5, x6, xz⟩ := rowF7 Bx10.out
      obtain ⟨y0, y1, y2, y3, y4, y5, yz⟩ := rowF6 By10.out
      obtain ⟨p0, p1, p2, p3, p4, p5, p6, pz⟩ := rowF7 Bp10.out
      obtain ⟨q0, q1, q2, q3, q4, q5, q6, qz⟩ := rowF7 Bq10.out
      go_wp2_with fail
      go_ret
      exact ⟨rfl, AT10.out⟩
    obtain ⟨b, off, hb0, hb, t0, t1, t2, t3, t4, t5, _⟩ := gra_at SQ9.out.gra hlt
    subst hb0
    obtain ⟨y, hy⟩ : ∃ y, Y.grants[k] = y := ⟨_, rfl⟩
    rw [hy] at t0 t1 t2 t3 t4 t5
    have hfv := five_no (a := y) (b := g) (by rw [← hy]; exact HNY.out _ (List.getElem_mem hlt))
    clear hy
    rcases hfv with e0 | ⟨e0, e1⟩ | ⟨e0, e1, e2⟩ | ⟨e0, e1, e2, e3⟩ | ⟨e0, e1, e2, e3, e4⟩
    all_goals
      go_wp2_with fail
      go_roundw
      case rel => exact ⟨k + 1, by go_num, by omega, AX9.out.alloc _⟩
      case measure => simp [intOf]; omega
end Go.Proofs.YtlklmekapbojdaaGreat

