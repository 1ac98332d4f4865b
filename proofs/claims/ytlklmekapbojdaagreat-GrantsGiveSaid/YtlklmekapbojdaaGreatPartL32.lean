/- Contracts of the program, part 32. -/
import Derived.Deep.RegionHeld3
import Derived.Deep.AppendLies
import Derived.WalkMore
import Derived.Deep.DeepMust
import Derived.OwnWalk
import Derived.Laws.AppendOwn
import Derived.ProofKit
import Derived.OpenShut
import Derived.Deep.Slices
import Derived.ChangeOld
import Derived.SizedLaws
import Derived.WalkKit
import Derived.WalkSpells
import Derived.WalkLawsBesides
import Derived.Lib.Hide
import Derived.Deep.QuietTactic
import Derived.BigQuiet
import Derived.Below
import Derived.Deep.Draws
import Derived.StillTailTactics
import Derived.Laws.Cells
import Derived.Laws.IdiomCopy
import Derived.Test.YtlklmekapbojdaaGreatRows
import Derived.Lib.Walk
import Derived.Laws.EntriesVeiled
import Derived.Maps.Own
import Derived.Maps.Views
import Derived.Deep.Upon
import Derived.OneCell
import Derived.OrdersHeld
import Derived.IntWalk
import Derived.Lib.Bytealg
import Derived.Lib.SliceRun
import Derived.Deep.RegionLaw
import Derived.Lib.AppendZerosOnto
import Derived.Lib.Overlaps
import Derived.Shelf.SlSortCmp.WholeK
import Derived.Laws.StructEq
import Derived.WideKeyEntry
import Derived.DeepKeys3
import Derived.ChangeKeys
import Derived.Test.YtlklmekapbojdaaGreatPartL1
import Derived.Test.YtlklmekapbojdaaGreatPartL2
import Derived.Test.YtlklmekapbojdaaGreatPartL3
import Derived.Test.YtlklmekapbojdaaGreatPartL4
import Derived.Test.YtlklmekapbojdaaGreatPartL5
import Derived.Test.YtlklmekapbojdaaGreatPartL6
import Derived.Test.YtlklmekapbojdaaGreatPartL7
import Derived.Test.YtlklmekapbojdaaGreatPartL8
import Derived.Test.YtlklmekapbojdaaGreatPartL9
import Derived.Test.YtlklmekapbojdaaGreatPartL10
import Derived.Test.YtlklmekapbojdaaGreatPartL12
import Derived.Test.YtlklmekapbojdaaGreatPartL13
import Derived.Test.YtlklmekapbojdaaGreatPartL14
import Derived.Test.YtlklmekapbojdaaGreatPartL15
import Derived.Test.YtlklmekapbojdaaGreatPartL16
import Derived.Test.YtlklmekapbojdaaGreatPartL17
import Derived.Test.YtlklmekapbojdaaGreatPartL18
import Derived.Test.YtlklmekapbojdaaGreatPartL20
import Derived.Test.YtlklmekapbojdaaGreatPartL21
import Derived.Test.YtlklmekapbojdaaGreatPartL22
import Derived.Test.YtlklmekapbojdaaGreatPartL23
import Derived.Test.YtlklmekapbojdaaGreatPartL27
import Derived.Test.YtlklmekapbojdaaGreatPartL31
namespace Go.Proofs.YtlklmekapbojdaaGreat
open Go.RowKit Go.Deep
set_option maxRecDepth 100000
set_option linter.unusedVariables false
set_option maxHeartbeats 16000000 in
theorem law_give9 (c : Cat) (As : Option Addr) (caps : Nat) (At : Option Addr) (capt : Nat) (An : Option Addr) (capn : Nat) (Am : Option Addr) (capm : Nat) (Ag : Option Addr) (capg : Nat) (g : Gra) (sg : SmG g) (w : World) (H : CatAt w c As caps At capt An capn Am capm Ag capg) :
    Calls Tryz.prog 6 #[.agg #[.int .i64 c.epoch, .int .i64 c.version, .slice As c.objs.schemas.length caps, .slice At c.objs.tables.length capt, .slice An c.rols.names.length capn, .slice Am c.rols.members.length capm, .slice Ag c.grants.length capg], .agg #[.string g.schema, .string g.table, .int .i64 g.right, .string g.giver, .string g.to, .bool g.opt]] w fun e w' => e = .returned (.bool true) ∧ Aft w w' := by
  obtain ⟨⟨X, ge⟩, hX0⟩ : ∃ F, giveR c g = F := ⟨_, rfl⟩
  have SMX := Lib.hid (show SmC X from by have := sm_giveR (c := c) (g := g) H.sm sg; rw [hX0] at this; exact this)
  have C1 := Lib.hid (show ∀ V, CatAt V c As caps At capt An capn Am capm Ag capg → Calls Tryz.prog 35 #[.agg #[.int .i64 c.epoch, .int .i64 c.version, .slice As c.objs.schemas.length caps, .slice At c.objs.tables.length capt, .slice An c.rols.names.length capn, .slice Am c.rols.members.length capm, .slice Ag c.grants.length capg], .agg #[.string g.schema, .string g.table, .int .i64 g.right, .string g.giver, .string g.to, .bool g.opt]] V (ChgC V (X, ge)) from fun V a => hX0 ▸ giveG c As caps At capt An capn Am capm Ag capg g sg V a)
  have C2 := Lib.hid (show ∀ V Os Ocs Ot Oct On Ocn Om Ocm Og Ocg, CatAt V c Os Ocs Ot Oct On Ocn Om Ocm Og Ocg → Calls Tryz.prog 36 #[.agg #[.int .i64 c.epoch, .int .i64 c.version, .slice Os c.objs.schemas.length Ocs, .slice Ot c.objs.tables.length Oct, .slice On c.rols.names.length Ocn, .slice Om c.rols.members.length Ocm, .slice Og c.grants.length Ocg], .agg #[.string g.schema, .string g.table, .int .i64 g.right, .string g.giver, .string g.to, .bool g.opt]] V (ChgC V (X, ge)) from fun V Os Ocs Ot Oct On Ocn Om Ocm Og Ocg a => hX0 ▸ rgive9 c Os Ocs Ot Oct On Ocn Om Ocm Og Ocg g sg V a)
  clear hX0
  obtain ⟨W, hW⟩ : ∃ W, W = (w.alloc (.cells #[.int .i64 c.epoch, .int .i64 c.version, .slice As c.objs.schemas.length caps, .slice At c.objs.tables.length capt, .slice An c.rols.names.length capn, .slice Am c.rols.members.length capm, .slice Ag c.grants.length capg] 66)).alloc (.cells #[.string g.schema, .string g.table, .int .i64 g.right, .string g.giver, .string g.to, .bool g.opt] 76) := ⟨_, rfl⟩
  have aW : Aft w W := by rw [hW]; exact ((Aft.refl w).alloc _).alloc _
  have r0 : RowAt W (w.heap.size) [.int .i64 c.epoch, .int .i64 c.version, .slice As c.objs.schemas.length caps, .slice At c.objs.tables.length capt, .slice An c.rols.names.length capn, .slice Am c.rols.members.length capm, .slice Ag c.grants.length capg] := by rw [hW]; exact RowAt.up (box_at (Aft.refl _) (by simp))
  have r1 : RowAt W (w.heap.size + 1) [.string g.schema, .string g.table, .int .i64 g.right, .string g.giver, .string g.to, .bool g.opt] := by rw [hW]; exact box_at (Aft.refl _) (by simp)
  have l1 : w.heap.size < w.heap.size + 1 := by omega
  have l2 : w.heap.size < w.heap.size + 1 + 1 := by omega
  have l3 : w.heap.size + 1 < w.heap.size + 1 + 1 := by omega
  have HAW := Lib.hid aW
  have Bx0 := Lib.hid r0
  have By0 := Lib.hid r1
  have Kc0 := Lib.hid (H.aft aW)
  have HSM := Lib.hid H.sm
  have HSG := Lib.hid sg
  have CL := Lib.hid (large9 c As caps At capt An capn Am capm Ag capg W (H.aft aW))
  clear H sg
  obtain ⟨x0, x1, x2, x3, x4, x5, x6, xz⟩ := rowF7 Bx0.out
  obtain ⟨y0, y1, y2, y3, y4, y5, yz⟩ := rowF6 By0.out
  clear r0 r1 aW
  go_enter Tryz.func6, Tryz.ntmps6
  go_wp2_with fail
  rw [← hW]
  clear hW
  go_wp2_with fail
  refine CL.out.mono ?_
  rintro e w1 ⟨bg, rfl, hmod, a1⟩
  have HM := Lib.hid hmod
  clear x0 x1 x2 x3 x4 x5 x6 xz y0 y1 y2 y3 y4 y5 yz 
  have Bx1 := Lib.hid (Bx0.out.aft a1)
  have By1 := Lib.hid (By0.out.aft a1)
  have Kc1 := Lib.hid (Kc0.out.aft a1)
  have AT1 := Lib.hid (HAW.out.trans a1)
  clear a1 CL hmod
  obtain ⟨x0, x1, x2, x3, x4, x5, x6, xz⟩ := rowF7 Bx1.out
  obtain ⟨y0, y1, y2, y3, y4, y5, yz⟩ := rowF6 By1.out
  cases bg
  case true =>
    go_wp2_with fail
    go_ret
    exact ⟨rfl, AT1.out⟩
  have hmo := HM.out rfl
  have CO := Lib.hid (own9 c As caps At capt An capn Am capm Ag capg w1 Kc1.out hmo.obj (by have := hmo.nam; omega) (by have := hmo.mem; omega) (by have := hmo.gra; omega))
  clear hmo HM
  go_wp2_with fail
  refine CO.out.mono ?_
  rintro e w2 ⟨hOs, hOt, hOn, hOm, hOg, LO, rfl, aw2, ciO⟩
  obtain ⟨Os, nOs, Ocs⟩ := hOs
  obtain ⟨Ot, nOt, Oct⟩ := hOt
  obtain ⟨On, nOn, Ocn⟩ := hOn
  obtain ⟨Om, nOm, Ocm⟩ := hOm
  obtain ⟨Og, nOg, Ocg⟩ := hOg
  simp only [CatV]
  have KO0 := Lib.hid (show CatAt w2 c Os Ocs Ot Oct On Ocn Om Ocm Og Ocg from ciO.at HSM.out)
  have IO0 := Lib.hid ciO
  have ZO := Lib.hid (show w1.heap.size ≤ w2.heap.size from aw2.size)
  clear x0 x1 x2 x3 x4 x5 x6 xz y0 y1 y2 y3 y4 y5 yz 
  have Bx2 := Lib.hid (Bx1.out.aft aw2)
  have By2 := Lib.hid (By1.out.aft aw2)
  have Kc2 := Lib.hid (Kc1.out.aft aw2)
  have AT2 := Lib.hid (AT1.out.trans aw2)
  clear aw2 ciO
  obtain ⟨x0, x1, x2, x3, x4, x5, x6, xz⟩ := rowF7 Bx2.out
  obtain ⟨y0, y1, y2, y3, y4, y5, yz⟩ := rowF6 By2.out
  clear x0 x1 x2 x3 x4 x5 x6 xz y0 y1 y2 y3 y4 y5 yz 
  obtain ⟨X2, hX2⟩ : ∃ V, V = w2.alloc (.cells #[.int .i64 c.epoch, .int .i64 c.version, .slice Os c.objs.schemas.length Ocs, .slice Ot c.objs.tables.length Oct, .slice On c.rols.names.length Ocn, .slice Om c.rols.members.length Ocm, .slice Og c.grants.length Ocg] 66) := ⟨_, rfl⟩
  have aX2 : Aft w2 X2 := by rw [hX2]; exact (Aft.refl _).alloc _
  have RX2 := Lib.hid (show RowAt X2 w2.heap.size [.int .i64 c.epoch, .int .i64 c.version, .slice Os c.objs.schemas.length Ocs, .slice Ot c.objs.tables.length Oct, .slice On c.rols.names.length Ocn, .slice Om c.rols.members.length Ocm, .slice Og c.grants.length Ocg] by rw [hX2]; exact box_row2 (Aft.refl _))
  have Bx3 := Lib.hid (Bx2.out.aft aX2)
  have By3 := Lib.hid (By2.out.aft aX2)
  have Kc3 := Lib.hid (Kc2.out.aft aX2)
  have KO3 := Lib.hid (KO0.out.aft aX2)
  have KIO3 := Lib.hid (IO0.out.aft aX2)
  have AT3 := Lib.hid (AT2.out.trans aX2)
  obtain ⟨x0, x1, x2, x3, x4, x5, x6, xz⟩ := rowF7 Bx3.out
  obtain ⟨y0, y1, y2, y3, y4, y5, yz⟩ := rowF6 By3.out
  obtain ⟨o0, o1, o2, o3, o4, o5, o6, oz⟩ := rowF7 RX2.out
  rw [hX2] at x0 x1 x2 x3 x4 x5 x6 xz y0 y1 y2 y3 y4 y5 yz o0 o1 o2 o3 o4 o5 o6 oz
  go_wp2_with fail
  rw [← hX2]
  clear x0 x1 x2 x3 x4 x5 x6 xz y0 y1 y2 y3 y4 y5 yz o0 o1 o2 o3 o4 o5 o6 oz hX2 aX2
  obtain ⟨x0, x1, x2, x3, x4, x5, x6, xz⟩ := rowF7 Bx3.out
  obtain ⟨y0, y1, y2, y3, y4, y5, yz⟩ := rowF6 By3.out
  obtain ⟨o0, o1, o2, o3, o4, o5, o6, oz⟩ := rowF7 RX2.out
  have ZB := Lib.hid (Aft.refl X2)
  have KC2 := Lib.hid Kc3.out
  have KO2 := Lib.hid KO3.out
  have ATX2 := Lib.hid AT3.out
  have C1b := Lib.hid (C1.out X2 KC2.out)
  go_wp2_with fail
  refine C1b.out.mono ?_
  rintro e w3 ⟨hPs, hPt, hPn, hPm, hPg, LP, rfl, aw3, ciP⟩
  obtain ⟨Ps, nPs, Pcs⟩ := hPs
  obtain ⟨Pt, nPt, Pct⟩ := hPt
  obtain ⟨Pn, nPn, Pcn⟩ := hPn
  obtain ⟨Pm, nPm, Pcm⟩ := hPm
  obtain ⟨Pg, nPg, Pcg⟩ := hPg
  simp only [CatV]
  have KP0 := Lib.hid (show CatAt w3 X Ps Pcs Pt Pct Pn Pcn Pm Pcm Pg Pcg from ciP.at SMX.out)
  have IP0 := Lib.hid ciP
  have ZP := Lib.hid (show X2.heap.size ≤ w3.heap.size from aw3.size)
  clear x0 x1 x2 x3 x4 x5 x6 xz y0 y1 y2 y3 y4 y5 yz o0 o1 o2 o3 o4 o5 o6 oz 
  have Bx4 := Lib.hid (Bx3.out.aft aw3)
  have By4 := Lib.hid (By3.out.aft aw3)
  have Bo4 := Lib.hid (RX2.out.aft aw3)
  have Kc4 := Lib.hid (Kc3.out.aft aw3)
  have KO4 := Lib.hid (KO3.out.aft aw3)
  have KIO4 := Lib.hid (KIO3.out.aft aw3)
  have AT4 := Lib.hid (ZB.out.trans aw3)
  clear aw3 ciP
  obtain ⟨x0, x1, x2, x3, x4, x5, x6, xz⟩ := rowF7 Bx4.out
  obtain ⟨y0, y1, y2, y3, y4, y5, yz⟩ := rowF6 By4.out
  obtain ⟨o0, o1, o2, o3, o4, o5, o6, oz⟩ := rowF7 Bo4.out
  clear x0 x1 x2 x3 x4 x5 x6 xz y0 y1 y2 y3 y4 y5 yz o0 o1 o2 o3 o4 o5 o6 oz 
  obtain ⟨X3, hX3⟩ : ∃ V, V = w3.alloc (.cells #[.int .i64 X.epoch, .int .i64 X.version, .slice Ps X.objs.schemas.length Pcs, .slice Pt X.objs.tables.length Pct, .slice Pn X.rols.names.length Pcn, .slice Pm X.rols.members.length Pcm, .slice Pg X.grants.length Pcg] 66) := ⟨_, rfl⟩
  have aX3 : Aft w3 X3 := by rw [hX3]; exact (Aft.refl _).alloc _
  have RX3 := Lib.hid (show RowAt X3 w3.heap.size [.int .i64 X.epoch, .int .i64 X.version, .slice Ps X.objs.schemas.length Pcs, .slice Pt X.objs.tables.length Pct, .slice Pn X.rols.names.length Pcn, .slice Pm X.rols.members.length Pcm, .slice Pg X.grants.length Pcg] by rw [hX3]; exact box_row2 (Aft.refl _))
  have Bx5 := Lib.hid (Bx4.out.aft aX3)
  have By5 := Lib.hid (By4.out.aft aX3)
  have Bo5 := Lib.hid (Bo4.out.aft aX3)
  have Kc5 := Lib.hid (Kc4.out.aft aX3)
  have KO5 := Lib.hid (KO4.out.aft aX3)
  have KIO5 := Lib.hid (KIO4.out.aft aX3)
  have KP5 := Lib.hid (KP0.out.aft aX3)
  have KIP5 := Lib.hid (IP0.out.aft aX3)
  have AT5 := Lib.hid (AT4.out.trans aX3)
  obtain ⟨x0, x1, x2, x3, x4, x5, x6, xz⟩ := rowF7 Bx5.out
  obtain ⟨y0, y1, y2, y3, y4, y5, yz⟩ := rowF6 By5.out
  obtain ⟨o0, o1, o2, o3, o4, o5, o6, oz⟩ := rowF7 Bo5.out
  obtain ⟨p0, p1, p2, p3, p4, p5, p6, pz⟩ := rowF7 RX3.out
  rw [hX3] at x0 x1 x2 x3 x4 x5 x6 xz y0 y1 y2 y3 y4 y5 yz o0 o1 o2 o3 o4 o5 o6 oz p0 p1 p2 p3 p4 p5 p6 pz
  go_wp2_with fail
  rw [← hX3]
  clear x0 x1 x2 x3 x4 x5 x6 xz y0 y1 y2 y3 y4 y5 yz o0 o1 o2 o3 o4 o5 o6 oz p0 p1 p2 p3 p4 p5 p6 pz hX3 aX3
  obtain ⟨x0, x1, x2, x3, x4, x5, x6, xz⟩ := rowF7 Bx5.out
  obtain ⟨y0, y1, y2, y3, y4, y5, yz⟩ := rowF6 By5.out
  obtain ⟨o0, o1, o2, o3, o4, o5, o6, oz⟩ := rowF7 Bo5.out
  obtain ⟨p0, p1, p2, p3, p4, p5, p6, pz⟩ := rowF7 RX3.out
  have C2b := Lib.hid (C2.out _ _ _ _ _ _ _ _ _ _ _ KO5.out)
  go_wp2_with fail
  refine C2b.out.mono ?_
  rintro e w4 ⟨hQs, hQt, hQn, hQm, hQg, LQ, rfl, aw4, ciQ⟩
  obtain ⟨Qs, nQs, Qcs⟩ := hQs
  obtain ⟨Qt, nQt, Qct⟩ := hQt
  obtain ⟨Qn, nQn, Qcn⟩ := hQn
  obtain ⟨Qm, nQm, Qcm⟩ := hQm
  obtain ⟨Qg, nQg, Qcg⟩ := hQg
  simp only [CatV]
  have KQ0 := Lib.hid (show CatAt w4 X Qs Qcs Qt Qct Qn Qcn Qm Qcm Qg Qcg from ciQ.at SMX.out)
  have IQ0 := Lib.hid ciQ
  have ZQ := Lib.hid (show X3.heap.size ≤ w4.heap.size from aw4.size)
  clear x0 x1 x2 x3 x4 x5 x6 xz y0 y1 y2 y3 y4 y5 yz o0 o1 o2 o3 o4 o5 o6 oz p0 p1 p2 p3 p4 p5 p6 pz 
  have Bx6 := Lib.hid (Bx5.out.aft aw4)
  have By6 := Lib.hid (By5.out.aft aw4)
  have Bo6 := Lib.hid (Bo5.out.aft aw4)
  have Bp6 := Lib.hid (RX3.out.aft aw4)
  have Kc6 := Lib.hid (Kc5.out.aft aw4)
  have KO6 := Lib.hid (KO5.out.aft aw4)
  have KIO6 := Lib.hid (KIO5.out.aft aw4)
  have KP6 := Lib.hid (KP5.out.aft aw4)
  have KIP6 := Lib.hid (KIP5.out.aft aw4)
  have AT6 := Lib.hid (AT5.out.trans aw4)
  clear aw4 ciQ
  obtain ⟨x0, x1, x2, x3, x4, x5, x6, xz⟩ := rowF7 Bx6.out
  obtain ⟨y0, y1, y2, y3, y4, y5, yz⟩ := rowF6 By6.out
  obtain ⟨o0, o1, o2, o3, o4, o5, o6, oz⟩ := rowF7 Bo6.out
  obtain ⟨p0, p1, p2, p3, p4, p5, p6, pz⟩ := rowF7 Bp6.out
  clear x0 x1 x2 x3 x4 x5 x6 xz y0 y1 y2 y3 y4 y5 yz o0 o1 o2 o3 o4 o5 o6 oz p0 p1 p2 p3 p4 p5 p6 pz 
  obtain ⟨X4, hX4⟩ : ∃ V, V = w4.alloc (.cells #[.int .i64 X.epoch, .int .i64 X.version, .slice Qs X.objs.schemas.length Qcs, .slice Qt X.objs.tables.length Qct, .slice Qn X.rols.names.length Qcn, .slice Qm X.rols.members.length Qcm, .slice Qg X.grants.length Qcg] 66) := ⟨_, rfl⟩
  have aX4 : Aft w4 X4 := by rw [hX4]; exact (Aft.refl _).alloc _
  have RX4 := Lib.hid (show RowAt X4 w4.heap.size [.int .i64 X.epoch, .int .i64 X.version, .slice Qs X.objs.schemas.length Qcs, .slice Qt X.objs.tables.length Qct, .slice Qn X.rols.names.length Qcn, .slice Qm X.rols.members.length Qcm, .slice Qg X.grants.length Qcg] by rw [hX4]; exact box_row2 (Aft.refl _))
  have Bx7 := Lib.hid (Bx6.out.aft aX4)
  have By7 := Lib.hid (By6.out.aft aX4)
  have Bo7 := Lib.hid (Bo6.out.aft aX4)
  have Bp7 := Lib.hid (Bp6.out.aft aX4)
  have Kc7 := Lib.hid (Kc6.out.aft aX4)
  have KO7 := Lib.hid (KO6.out.aft aX4)
  have KIO7 := Lib.hid (KIO6.out.aft aX4)
  have KP7 := Lib.hid (KP6.out.aft aX4)
  have KIP7 := Lib.hid (KIP6.out.aft aX4)
  have KQ7 := Lib.hid (KQ0.out.aft aX4)
  have KIQ7 := Lib.hid (IQ0.out.aft aX4)
  have AT7 := Lib.hid (AT6.out.trans aX4)
  obtain ⟨x0, x1, x2, x3, x4, x5, x6, xz⟩ := rowF7 Bx7.out
  obtain ⟨y0, y1, y2, y3, y4, y5, yz⟩ := rowF6 By7.out
  obtain ⟨o0, o1, o2, o3, o4, o5, o6, oz⟩ := rowF7 Bo7.out
  obtain ⟨p0, p1, p2, p3, p4, p5, p6, pz⟩ := rowF7 Bp7.out
  obtain ⟨q0, q1, q2, q3, q4, q5, q6, qz⟩ := rowF7 RX4.out
  rw [hX4] at x0 x1 x2 x3 x4 x5 x6 xz y0 y1 y2 y3 y4 y5 yz o0 o1 o2 o3 o4 o5 o6 oz p0 p1 p2 p3 p4 p5 p6 pz q0 q1 q2 q3 q4 q5 q6 qz
  go_wp2_with fail
  rw [← hX4]
  clear x0 x1 x2 x3 x4 x5 x6 xz y0 y1 y2 y3 y4 y5 yz o0 o1 o2 o3 o4 o5 o6 oz p0 p1 p2 p3 p4 p5 p6 pz q0 q1 q2 q3 q4 q5 q6 qz hX4 aX4
  obtain ⟨x0, x1, x2, x3, x4, x5, x6, xz⟩ := rowF7 Bx7.out
  obtain ⟨y0, y1, y2, y3, y4, y5, yz⟩ := rowF6 By7.out
  obtain ⟨o0, o1, o2, o3, o4, o5, o6, oz⟩ := rowF7 Bo7.out
  obtain ⟨p0, p1, p2, p3, p4, p5, p6, pz⟩ := rowF7 Bp7.out
  obtain ⟨q0, q1, q2, q3, q4, q5, q6, qz⟩ := rowF7 RX4.out
  refine (gives9 X4).mono ?_
  rintro e v1 ⟨rfl, av1⟩
  clear x0 x1 x2 x3 x4 x5 x6 xz y0 y1 y2 y3 y4 y5 yz o0 o1 o2 o3 o4 o5 o6 oz p0 p1 p2 p3 p4 p5 p6 pz q0 q1 q2 q3 q4 q5 q6 qz 
  have Bx8 := Lib.hid (Bx7.out.aft av1)
  have By8 := Lib.hid (By7.out.aft av1)
  have Bo8 := Lib.hid (Bo7.out.aft av1)
  have Bp8 := Lib.hid (Bp7.out.aft av1)
  have Bq8 := Lib.hid (RX4.out.aft av1)
  have Kc8 := Lib.hid (Kc7.out.aft av1)
  have KO8 := Lib.hid (KO7.out.aft av1)
  have KIO8 := Lib.hid (KIO7.out.aft av1)
  have KP8 := Lib.hid (KP7.out.aft av1)
  have KIP8 := Lib.hid (KIP7.out.aft av1)
  have KQ8 := Lib.hid (KQ7.out.aft av1)
  have KIQ8 := Lib.hid (KIQ7.out.aft av1)
  have AT8 := Lib.hid (AT7.out.trans av1)
  clear av1 
  obtain ⟨x0, x1, x2, x3, x4, x5, x6, xz⟩ := rowF7 Bx8.out
  obtain ⟨y0, y1, y2, y3, y4, y5, yz⟩ := rowF6 By8.out
  obtain ⟨o0, o1, o2, o3, o4, o5, o6, oz⟩ := rowF7 Bo8.out
  obtain ⟨p0, p1, p2, p3, p4, p5, p6, pz⟩ := rowF7 Bp8.out
  obtain ⟨q0, q1, q2, q3, q4, q5, q6, qz⟩ := rowF7 Bq8.out
  have HT := Lib.hid (told9 X c Ps Pcs Pt Pct Pn Pcn Pm Pcm Pg Pcg nPs nPt nPn nPm nPg LP Qs Qcs Qt Qct Qn Qcn Qm Qcm Qg Qcg As caps At capt An capn Am capm Ag capg Os Ocs Ot Oct On Ocn Om Ocm Og Ocg X2.heap.size ge X2 v1 KIP8.out SMX.out KQ8.out AT8.out (Nat.le_refl _) KC2.out KO2.out)
  have HLT := Lib.hid (show ∀ k, P3 ⟨Pg, nPg, Pcg⟩ ⟨Pn, nPn, Pcn⟩ ⟨Pt, nPt, Pct⟩ k → X2.heap.size ≤ k from fun k hk => by
    rcases hk with h | h | h
    · exact (KIP8.out.lt (.inr h)).1
    · exact (KIP8.out.lt (.inl (.inr (.inl h)))).1
    · exact (KIP8.out.lt (.inl (.inl (by simp [h])))).1)
  go_wp2_with fail
  refine HT.out.mono ?_
  rintro e v2 ⟨rfl, kv2⟩
  have HEND := Lib.hid (ATX2.out.trans (kv2.to_aft AT8.out (fun k hk hp => by have := HLT.out k hp; omega)))
  clear kv2
  go_wp2_with fail
  go_ret
  exact ⟨rfl, HEND.out⟩
end Go.Proofs.YtlklmekapbojdaaGreat

