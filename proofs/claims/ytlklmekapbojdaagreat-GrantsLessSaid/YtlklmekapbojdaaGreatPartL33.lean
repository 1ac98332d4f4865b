/- Contracts of the program, part 33. -/
import Derived.Deep.AppendLies
import Derived.Deep.DeepMust
import Derived.OwnWalk
import Derived.Laws.AppendOwn
import Derived.ProofKit
import Derived.OpenShut
import Derived.Deep.Slices
import Derived.ChangeOld
import Derived.SizedLaws
import Derived.WalkKit
import Derived.WalkSpells
import Derived.WalkLawsBesides
import Derived.Lib.Hide
import Derived.Deep.QuietTactic
import Derived.BigQuiet
import Derived.Below
import Derived.Deep.Draws
import Derived.StillTailTactics
import Derived.Laws.Cells
import Derived.Laws.IdiomCopy
import Derived.Test.YtlklmekapbojdaaGreatRows
import Derived.Lib.Walk
import Derived.Laws.EntriesVeiled
import Derived.Maps.Own
import Derived.Maps.Views
import Derived.Deep.Upon
import Derived.OneCell
import Derived.OrdersHeld
import Derived.Deep.RegionHeld3
import Derived.IntWalk
import Derived.Lib.Bytealg
import Derived.Lib.SliceRun
import Derived.Deep.RegionLaw
import Derived.Lib.AppendZerosOnto
import Derived.Lib.Overlaps
import Derived.Shelf.SlSortCmp.WholeK
import Derived.WalkMore
import Derived.Laws.StructEq
import Derived.WideKeyEntry
import Derived.DeepKeys3
import Derived.ChangeKeys
import Derived.Test.YtlklmekapbojdaaGreatPartL1
import Derived.Test.YtlklmekapbojdaaGreatPartL2
import Derived.Test.YtlklmekapbojdaaGreatPartL3
import Derived.Test.YtlklmekapbojdaaGreatPartL4
import Derived.Test.YtlklmekapbojdaaGreatPartL5
import Derived.Test.YtlklmekapbojdaaGreatPartL6
import Derived.Test.YtlklmekapbojdaaGreatPartL7
import Derived.Test.YtlklmekapbojdaaGreatPartL8
import Derived.Test.YtlklmekapbojdaaGreatPartL9
import Derived.Test.YtlklmekapbojdaaGreatPartL10
import Derived.Test.YtlklmekapbojdaaGreatPartL12
import Derived.Test.YtlklmekapbojdaaGreatPartL13
import Derived.Test.YtlklmekapbojdaaGreatPartL14
import Derived.Test.YtlklmekapbojdaaGreatPartL15
import Derived.Test.YtlklmekapbojdaaGreatPartL16
import Derived.Test.YtlklmekapbojdaaGreatPartL18
import Derived.Test.YtlklmekapbojdaaGreatPartL19
import Derived.Test.YtlklmekapbojdaaGreatPartL24
import Derived.Test.YtlklmekapbojdaaGreatPartL28
namespace Go.Proofs.YtlklmekapbojdaaGreat
open Go.RowKit
set_option linter.unusedVariables false
/-- what is taken gives nobody anything -/
theorem take_less {c : Cat} {g : Gra} (h : (takeR c g).2 = 0) {role s n : ByteArray} {r : Int} (hm : mayR (takeR c g).1 role s n r = true) : mayR c role s n r = true := by
  obtain ⟨h1, h2⟩ := take_ok h
  rw [h2] at hm
  unfold mayR at hm ⊢
  rw [take_whole g h1] at hm
  rw [h1]
  simp only [Bool.and_eq_true, Bool.or_eq_true] at hm ⊢
  exact ⟨hm.1, hm.2.imp id fun hg => givesB_mono (fun x hx => (take_none g x hx).2) hg⟩
end Go.Proofs.YtlklmekapbojdaaGreat

namespace Go.Proofs.YtlklmekapbojdaaGreat
open Go.RowKit Go.Deep
set_option maxRecDepth 100000
set_option linter.unusedVariables false
set_option maxHeartbeats 16000000 in
theorem law_less9 (c : Cat) (As : Option Addr) (caps : Nat) (At : Option Addr) (capt : Nat) (An : Option Addr) (capn : Nat) (Am : Option Addr) (capm : Nat) (Ag : Option Addr) (capg : Nat) (g : Gra) (sg : SmG g) (role s n : ByteArray) (rt : Int) (hrs : Small role.size) (w : World) (H : CatAt w c As caps At capt An capn Am capm Ag capg) :
    Calls Tryz.prog 9 #[.agg #[.int .i64 c.epoch, .int .i64 c.version, .slice As c.objs.schemas.length caps, .slice At c.objs.tables.length capt, .slice An c.rols.names.length capn, .slice Am c.rols.members.length capm, .slice Ag c.grants.length capg], .agg #[.string g.schema, .string g.table, .int .i64 g.right, .string g.giver, .string g.to, .bool g.opt], .string role, .string s, .string n, .int .i64 rt] w fun e w' => e = .returned (.bool true) ∧ Aft w w' := by
  obtain ⟨⟨X, ge⟩, hX0⟩ : ∃ F, giveR c g = F := ⟨_, rfl⟩
  obtain ⟨⟨Y, te⟩, hY0⟩ : ∃ F, takeR c g = F := ⟨_, rfl⟩
  obtain ⟨m0, hm0⟩ : ∃ b, mayR c role s n rt = b := ⟨_, rfl⟩
  obtain ⟨m1, hm1⟩ : ∃ b, mayR X role s n rt = b := ⟨_, rfl⟩
  obtain ⟨m2, hm2⟩ : ∃ b, mayR Y role s n rt = b := ⟨_, rfl⟩
  have SMX := Lib.hid (show SmC X from by have := sm_giveR (c := c) (g := g) H.sm sg; rw [hX0] at this; exact this)
  have SMY := Lib.hid (show SmC Y from by have := sm_takeR (c := c) (g := g) H.sm; rw [hY0] at this; exact this)
  have HM1 := Lib.hid (show ge = 0 → m0 = true → m1 = true from fun h1 h2 => by
    have k := give_ok (c := c) (g := g) (by rw [hX0]; exact h1)
    rw [hX0] at k
    exact hm1 ▸ k.more (hm0.trans h2))
  have HM2 := Lib.hid (show te = 0 → m0 = false → m2 = false from fun h1 h2 => by
    cases hq : m2
    · rfl
    · have k := take_less (c := c) (g := g) (role := role) (s := s) (n := n) (r := rt) (by rw [hY0]; exact h1) (by rw [hY0]; exact hm2.trans hq)
      rw [hm0, h2] at k; cases k)
  have C1 := Lib.hid (show ∀ V, CatAt V c As caps At capt An capn Am capm Ag capg → Calls Tryz.prog 35 #[.agg #[.int .i64 c.epoch, .int .i64 c.version, .slice As c.objs.schemas.length caps, .slice At c.objs.tables.length capt, .slice An c.rols.names.length capn, .slice Am c.rols.members.length capm, .slice Ag c.grants.length capg], .agg #[.string g.schema, .string g.table, .int .i64 g.right, .string g.giver, .string g.to, .bool g.opt]] V (ChgC V (X, ge)) from fun V a => hX0 ▸ giveG c As caps At capt An capn Am capm Ag capg g sg V a)
  have C2 := Lib.hid (show ∀ V, CatAt V c As caps At capt An capn Am capm Ag capg → Calls Tryz.prog 39 #[.agg #[.int .i64 c.epoch, .int .i64 c.version, .slice As c.objs.schemas.length caps, .slice At c.objs.tables.length capt, .slice An c.rols.names.length capn, .slice Am c.rols.members.length capm, .slice Ag c.grants.length capg], .agg #[.string g.schema, .string g.table, .int .i64 g.right, .string g.giver, .string g.to, .bool g.opt]] V (ChgC V (Y, te)) from fun V a => hY0 ▸ takeG c As caps At capt An capn Am capm Ag capg g V a)
  have M0 := Lib.hid (show ∀ V, CatAt V c As caps At capt An capn Am capm Ag capg → Calls Tryz.prog 42 #[.agg #[.int .i64 c.epoch, .int .i64 c.version, .slice As c.objs.schemas.length caps, .slice At c.objs.tables.length capt, .slice An c.rols.names.length capn, .slice Am c.rols.members.length capm, .slice Ag c.grants.length capg], .string role, .string s, .string n, .int .i64 rt] V fun e w' => e = .returned (.bool m0) ∧ Aft V w' from fun V a => hm0 ▸ mayT c As caps At capt An capn Am capm Ag capg role s n rt hrs V a)
  have M1 := Lib.hid (show ∀ V As caps At capt An capn Am capm Ag capg, CatAt V X As caps At capt An capn Am capm Ag capg → Calls Tryz.prog 42 #[.agg #[.int .i64 X.epoch, .int .i64 X.version, .slice As X.objs.schemas.length caps, .slice At X.objs.tables.length capt, .slice An X.rols.names.length capn, .slice Am X.rols.members.length capm, .slice Ag X.grants.length capg], .string role, .string s, .string n, .int .i64 rt] V fun e w' => e = .returned (.bool m1) ∧ Aft V w' from fun V As caps At capt An capn Am capm Ag capg a => hm1 ▸ mayT X As caps At capt An capn Am capm Ag capg role s n rt hrs V a)
  have M2 := Lib.hid (show ∀ V As caps At capt An capn Am capm Ag capg, CatAt V Y As caps At capt An capn Am capm Ag capg → Calls Tryz.prog 42 #[.agg #[.int .i64 Y.epoch, .int .i64 Y.version, .slice As Y.objs.schemas.length caps, .slice At Y.objs.tables.length capt, .slice An Y.rols.names.length capn, .slice Am Y.rols.members.length capm, .slice Ag Y.grants.length capg], .string role, .string s, .string n, .int .i64 rt] V fun e w' => e = .returned (.bool m2) ∧ Aft V w' from fun V As caps At capt An capn Am capm Ag capg a => hm2 ▸ mayT Y As caps At capt An capn Am capm Ag capg role s n rt hrs V a)
  clear hX0 hY0 hm0 hm1 hm2 hrs
  obtain ⟨W, hW⟩ : ∃ W, W = (w.alloc (.cells #[.int .i64 c.epoch, .int .i64 c.version, .slice As c.objs.schemas.length caps, .slice At c.objs.tables.length capt, .slice An c.rols.names.length capn, .slice Am c.rols.members.length capm, .slice Ag c.grants.length capg] 66)).alloc (.cells #[.string g.schema, .string g.table, .int .i64 g.right, .string g.giver, .string g.to, .bool g.opt] 76) := ⟨_, rfl⟩
  have aW : Aft w W := by rw [hW]; exact ((Aft.refl w).alloc _).alloc _
  have r0 : RowAt W (w.heap.size) [.int .i64 c.epoch, .int .i64 c.version, .slice As c.objs.schemas.length caps, .slice At c.objs.tables.length capt, .slice An c.rols.names.length capn, .slice Am c.rols.members.length capm, .slice Ag c.grants.length capg] := by rw [hW]; exact RowAt.up (box_at (Aft.refl _) (by simp))
  have r1 : RowAt W (w.heap.size + 1) [.string g.schema, .string g.table, .int .i64 g.right, .string g.giver, .string g.to, .bool g.opt] := by rw [hW]; exact box_at (Aft.refl _) (by simp)
  have l1 : w.heap.size < w.heap.size + 1 := by omega
  have l2 : w.heap.size < w.heap.size + 1 + 1 := by omega
  have l3 : w.heap.size + 1 < w.heap.size + 1 + 1 := by omega
  have HAW := Lib.hid aW
  have Bx0 := Lib.hid r0
  have By0 := Lib.hid r1
  have Kc0 := Lib.hid (H.aft aW)
  have HSM := Lib.hid H.sm
  have HSG := Lib.hid sg
  have CL := Lib.hid (large9 c As caps At capt An capn Am capm Ag capg W (H.aft aW))
  clear H sg
  obtain ⟨x0, x1, x2, x3, x4, x5, x6, xz⟩ := rowF7 Bx0.out
  obtain ⟨y0, y1, y2, y3, y4, y5, yz⟩ := rowF6 By0.out
  clear r0 r1 aW
  go_enter Tryz.func9, Tryz.ntmps9
  go_wp2_with fail
  rw [← hW]
  clear hW
  go_wp2_with fail
  refine CL.out.mono ?_
  rintro e w1 ⟨bg, rfl, _, a1⟩
  clear x0 x1 x2 x3 x4 x5 x6 xz y0 y1 y2 y3 y4 y5 yz 
  have Bx1 := Lib.hid (Bx0.out.aft a1)
  have By1 := Lib.hid (By0.out.aft a1)
  have Kc1 := Lib.hid (Kc0.out.aft a1)
  have AT1 := Lib.hid (HAW.out.trans a1)
  clear a1 CL
  obtain ⟨x0, x1, x2, x3, x4, x5, x6, xz⟩ := rowF7 Bx1.out
  obtain ⟨y0, y1, y2, y3, y4, y5, yz⟩ := rowF6 By1.out
  cases bg
  case true =>
    go_wp2_with fail
    go_ret
    exact ⟨rfl, AT1.out⟩
  go_wp2_with fail
  refine (C1.out _ Kc1.out).mono ?_
  rintro e w2 ⟨hPs, hPt, hPn, hPm, hPg, LP, rfl, aw2, ciP⟩
  obtain ⟨Ps, nPs, Pcs⟩ := hPs
  obtain ⟨Pt, nPt, Pct⟩ := hPt
  obtain ⟨Pn, nPn, Pcn⟩ := hPn
  obtain ⟨Pm, nPm, Pcm⟩ := hPm
  obtain ⟨Pg, nPg, Pcg⟩ := hPg
  simp only [CatV]
  have KP0 := Lib.hid (show CatAt w2 X Ps Pcs Pt Pct Pn Pcn Pm Pcm Pg Pcg from ciP.at SMX.out)
  clear x0 x1 x2 x3 x4 x5 x6 xz y0 y1 y2 y3 y4 y5 yz 
  have Bx2 := Lib.hid (Bx1.out.aft aw2)
  have By2 := Lib.hid (By1.out.aft aw2)
  have Kc2 := Lib.hid (Kc1.out.aft aw2)
  have AT2 := Lib.hid (AT1.out.trans aw2)
  clear aw2 ciP
  obtain ⟨x0, x1, x2, x3, x4, x5, x6, xz⟩ := rowF7 Bx2.out
  obtain ⟨y0, y1, y2, y3, y4, y5, yz⟩ := rowF6 By2.out
  clear x0 x1 x2 x3 x4 x5 x6 xz y0 y1 y2 y3 y4 y5 yz 
  obtain ⟨X2, hX2⟩ : ∃ V, V = w2.alloc (.cells #[.int .i64 X.epoch, .int .i64 X.version, .slice Ps X.objs.schemas.length Pcs, .slice Pt X.objs.tables.length Pct, .slice Pn X.rols.names.length Pcn, .slice Pm X.rols.members.length Pcm, .slice Pg X.grants.length Pcg] 66) := ⟨_, rfl⟩
  have aX2 : Aft w2 X2 := by rw [hX2]; exact (Aft.refl _).alloc _
  have RX2 := Lib.hid (show RowAt X2 w2.heap.size [.int .i64 X.epoch, .int .i64 X.version, .slice Ps X.objs.schemas.length Pcs, .slice Pt X.objs.tables.length Pct, .slice Pn X.rols.names.length Pcn, .slice Pm X.rols.members.length Pcm, .slice Pg X.grants.length Pcg] by rw [hX2]; exact box_row2 (Aft.refl _))
  have Bx3 := Lib.hid (Bx2.out.aft aX2)
  have By3 := Lib.hid (By2.out.aft aX2)
  have Kc3 := Lib.hid (Kc2.out.aft aX2)
  have KP3 := Lib.hid (KP0.out.aft aX2)
  have AT3 := Lib.hid (AT2.out.trans aX2)
  obtain ⟨x0, x1, x2, x3, x4, x5, x6, xz⟩ := rowF7 Bx3.out
  obtain ⟨y0, y1, y2, y3, y4, y5, yz⟩ := rowF6 By3.out
  obtain ⟨p0, p1, p2, p3, p4, p5, p6, pz⟩ := rowF7 RX2.out
  rw [hX2] at x0 x1 x2 x3 x4 x5 x6 xz y0 y1 y2 y3 y4 y5 yz p0 p1 p2 p3 p4 p5 p6 pz
  go_wp2_with fail
  rw [← hX2]
  clear x0 x1 x2 x3 x4 x5 x6 xz y0 y1 y2 y3 y4 y5 yz p0 p1 p2 p3 p4 p5 p6 pz hX2 aX2
  obtain ⟨x0, x1, x2, x3, x4, x5, x6, xz⟩ := rowF7 Bx3.out
  obtain ⟨y0, y1, y2, y3, y4, y5, yz⟩ := rowF6 By3.out
  obtain ⟨p0, p1, p2, p3, p4, p5, p6, pz⟩ := rowF7 RX2.out
  go_wp2_with fail
  refine (C2.out _ Kc3.out).mono ?_
  rintro e w3 ⟨hQs, hQt, hQn, hQm, hQg, LQ, rfl, aw3, ciQ⟩
  obtain ⟨Qs, nQs, Qcs⟩ := hQs
  obtain ⟨Qt, nQt, Qct⟩ := hQt
  obtain ⟨Qn, nQn, Qcn⟩ := hQn
  obtain ⟨Qm, nQm, Qcm⟩ := hQm
  obtain ⟨Qg, nQg, Qcg⟩ := hQg
  simp only [CatV]
  have KQ0 := Lib.hid (show CatAt w3 Y Qs Qcs Qt Qct Qn Qcn Qm Qcm Qg Qcg from ciQ.at SMY.out)
  clear x0 x1 x2 x3 x4 x5 x6 xz y0 y1 y2 y3 y4 y5 yz p0 p1 p2 p3 p4 p5 p6 pz 
  have Bx4 := Lib.hid (Bx3.out.aft aw3)
  have By4 := Lib.hid (By3.out.aft aw3)
  have Bp4 := Lib.hid (RX2.out.aft aw3)
  have Kc4 := Lib.hid (Kc3.out.aft aw3)
  have KP4 := Lib.hid (KP3.out.aft aw3)
  have AT4 := Lib.hid (AT3.out.trans aw3)
  clear aw3 ciQ
  obtain ⟨x0, x1, x2, x3, x4, x5, x6, xz⟩ := rowF7 Bx4.out
  obtain ⟨y0, y1, y2, y3, y4, y5, yz⟩ := rowF6 By4.out
  obtain ⟨p0, p1, p2, p3, p4, p5, p6, pz⟩ := rowF7 Bp4.out
  clear x0 x1 x2 x3 x4 x5 x6 xz y0 y1 y2 y3 y4 y5 yz p0 p1 p2 p3 p4 p5 p6 pz 
  obtain ⟨X3, hX3⟩ : ∃ V, V = w3.alloc (.cells #[.int .i64 Y.epoch, .int .i64 Y.version, .slice Qs Y.objs.schemas.length Qcs, .slice Qt Y.objs.tables.length Qct, .slice Qn Y.rols.names.length Qcn, .slice Qm Y.rols.members.length Qcm, .slice Qg Y.grants.length Qcg] 66) := ⟨_, rfl⟩
  have aX3 : Aft w3 X3 := by rw [hX3]; exact (Aft.refl _).alloc _
  have RX3 := Lib.hid (show RowAt X3 w3.heap.size [.int .i64 Y.epoch, .int .i64 Y.version, .slice Qs Y.objs.schemas.length Qcs, .slice Qt Y.objs.tables.length Qct, .slice Qn Y.rols.names.length Qcn, .slice Qm Y.rols.members.length Qcm, .slice Qg Y.grants.length Qcg] by rw [hX3]; exact box_row2 (Aft.refl _))
  have Bx5 := Lib.hid (Bx4.out.aft aX3)
  have By5 := Lib.hid (By4.out.aft aX3)
  have Bp5 := Lib.hid (Bp4.out.aft aX3)
  have Kc5 := Lib.hid (Kc4.out.aft aX3)
  have KP5 := Lib.hid (KP4.out.aft aX3)
  have KQ5 := Lib.hid (KQ0.out.aft aX3)
  have AT5 := Lib.hid (AT4.out.trans aX3)
  obtain ⟨x0, x1, x2, x3, x4, x5, x6, xz⟩ := rowF7 Bx5.out
  obtain ⟨y0, y1, y2, y3, y4, y5, yz⟩ := rowF6 By5.out
  obtain ⟨p0, p1, p2, p3, p4, p5, p6, pz⟩ := rowF7 Bp5.out
  obtain ⟨q0, q1, q2, q3, q4, q5, q6, qz⟩ := rowF7 RX3.out
  rw [hX3] at x0 x1 x2 x3 x4 x5 x6 xz y0 y1 y2 y3 y4 y5 yz p0 p1 p2 p3 p4 p5 p6 pz q0 q1 q2 q3 q4 q5 q6 qz
  go_wp2_with fail
  rw [← hX3]
  clear x0 x1 x2 x3 x4 x5 x6 xz y0 y1 y2 y3 y4 y5 yz p0 p1 p2 p3 p4 p5 p6 pz q0 q1 q2 q3 q4 q5 q6 qz hX3 aX3
  obtain ⟨x0, x1, x2, x3, x4, x5, x6, xz⟩ := rowF7 Bx5.out
  obtain ⟨y0, y1, y2, y3, y4, y5, yz⟩ := rowF6 By5.out
  obtain ⟨p0, p1, p2, p3, p4, p5, p6, pz⟩ := rowF7 Bp5.out
  obtain ⟨q0, q1, q2, q3, q4, q5, q6, qz⟩ := rowF7 RX3.out
  go_wp2_with fail
  refine (M0.out _ Kc5.out).mono ?_
  rintro e w4 ⟨rfl, aw4⟩
  clear x0 x1 x2 x3 x4 x5 x6 xz y0 y1 y2 y3 y4 y5 yz p0 p1 p2 p3 p4 p5 p6 pz q0 q1 q2 q3 q4 q5 q6 qz 
  have Bx6 := Lib.hid (Bx5.out.aft aw4)
  have By6 := Lib.hid (By5.out.aft aw4)
  have Bp6 := Lib.hid (Bp5.out.aft aw4)
  have Bq6 := Lib.hid (RX3.out.aft aw4)
  have Kc6 := Lib.hid (Kc5.out.aft aw4)
  have KP6 := Lib.hid (KP5.out.aft aw4)
  have KQ6 := Lib.hid (KQ5.out.aft aw4)
  have AT6 := Lib.hid (AT5.out.trans aw4)
  clear aw4 
  obtain ⟨x0, x1, x2, x3, x4, x5, x6, xz⟩ := rowF7 Bx6.out
  obtain ⟨y0, y1, y2, y3, y4, y5, yz⟩ := rowF6 By6.out
  obtain ⟨p0, p1, p2, p3, p4, p5, p6, pz⟩ := rowF7 Bp6.out
  obtain ⟨q0, q1, q2, q3, q4, q5, q6, qz⟩ := rowF7 Bq6.out
  by_cases hge : ge = 0
  case pos =>
    subst hge
    by_cases hte : te = 0
    case pos =>
      subst hte
      cases m0
      case false =>
        have hm2 : m2 = false := HM2.out (by simp) (by simp)
        subst hm2
        go_wp2_with fail
        refine (M2.out _ _ _ _ _ _ _ _ _ _ _ KQ6.out).mono ?_
        rintro e v7 ⟨rfl, av7⟩
        clear x0 x1 x2 x3 x4 x5 x6 xz y0 y1 y2 y3 y4 y5 yz p0 p1 p2 p3 p4 p5 p6 pz q0 q1 q2 q3 q4 q5 q6 qz 
        have Bx7 := Lib.hid (Bx6.out.aft av7)
        have By7 := Lib.hid (By6.out.aft av7)
        have Bp7 := Lib.hid (Bp6.out.aft av7)
        have Bq7 := Lib.hid (Bq6.out.aft av7)
        have Kc7 := Lib.hid (Kc6.out.aft av7)
        have KP7 := Lib.hid (KP6.out.aft av7)
        have KQ7 := Lib.hid (KQ6.out.aft av7)
        have AT7 := Lib.hid (AT6.out.trans av7)
        clear av7 
        obtain ⟨x0, x1, x2, x3, x4, x5, x6, xz⟩ := rowF7 Bx7.out
        obtain ⟨y0, y1, y2, y3, y4, y5, yz⟩ := rowF6 By7.out
        obtain ⟨p0, p1, p2, p3, p4, p5, p6, pz⟩ := rowF7 Bp7.out
        obtain ⟨q0, q1, q2, q3, q4, q5, q6, qz⟩ := rowF7 Bq7.out
        go_wp2_with fail
        refine (gives9 v7).mono ?_
        rintro e v8 ⟨rfl, av8⟩
        clear x0 x1 x2 x3 x4 x5 x6 xz y0 y1 y2 y3 y4 y5 yz p0 p1 p2 p3 p4 p5 p6 pz q0 q1 q2 q3 q4 q5 q6 qz 
        have Bx8 := Lib.hid (Bx7.out.aft av8)
        have By8 := Lib.hid (By7.out.aft av8)
        have Bp8 := Lib.hid (Bp7.out.aft av8)
        have Bq8 := Lib.hid (Bq7.out.aft av8)
        have Kc8 := Lib.hid (Kc7.out.aft av8)
        have KP8 := Lib.hid (KP7.out.aft av8)
        have KQ8 := Lib.hid (KQ7.out.aft av8)
        have AT8 := Lib.hid (AT7.out.trans av8)
        clear av8 
        obtain ⟨x0, x1, x2, x3, x4, x5, x6, xz⟩ := rowF7 Bx8.out
        obtain ⟨y0, y1, y2, y3, y4, y5, yz⟩ := rowF6 By8.out
        obtain ⟨p0, p1, p2, p3, p4, p5, p6, pz⟩ := rowF7 Bp8.out
        obtain ⟨q0, q1, q2, q3, q4, q5, q6, qz⟩ := rowF7 Bq8.out
        go_wp2_with fail
        refine (takes9 v8).mono ?_
        rintro e v9 ⟨rfl, av9⟩
        clear x0 x1 x2 x3 x4 x5 x6 xz y0 y1 y2 y3 y4 y5 yz p0 p1 p2 p3 p4 p5 p6 pz q0 q1 q2 q3 q4 q5 q6 qz 
        have Bx9 := Lib.hid (Bx8.out.aft av9)
        have By9 := Lib.hid (By8.out.aft av9)
        have Bp9 := Lib.hid (Bp8.out.aft av9)
        have Bq9 := Lib.hid (Bq8.out.aft av9)
        have Kc9 := Lib.hid (Kc8.out.aft av9)
        have KP9 := Lib.hid (KP8.out.aft av9)
        have KQ9 := Lib.hid (KQ8.out.aft av9)
        have AT9 := Lib.hid (AT8.out.trans av9)
        clear av9 
        obtain ⟨x0, x1, x2, x3, x4, x5, x6, xz⟩ := rowF7 Bx9.out
        obtain ⟨y0, y1, y2, y3, y4, y5, yz⟩ := rowF6 By9.out
        obtain ⟨p0, p1, p2, p3, p4, p5, p6, pz⟩ := rowF7 Bp9.out
        obtain ⟨q0, q1, q2, q3, q4, q5, q6, qz⟩ := rowF7 Bq9.out
        go_wp2_with fail
        refine (may9 v9).mono ?_
        rintro e v10 ⟨rfl, av10⟩
        clear x0 x1 x2 x3 x4 x5 x6 xz y0 y1 y2 y3 y4 y5 yz p0 p1 p2 p3 p4 p5 p6 pz q0 q1 q2 q3 q4 q5 q6 qz 
        have Bx10 := Lib.hid (Bx9.out.aft av10)
        have By10 := Lib.hid (By9.out.aft av10)
        have Bp10 := Lib.hid (Bp9.out.aft av10)
        have Bq10 := Lib.hid (Bq9.out.aft av10)
        have Kc10 := Lib.hid (Kc9.out.aft av10)
        have KP10 := Lib.hid (KP9.out.aft av10)
        have KQ10 := Lib.hid (KQ9.out.aft av10)
        have AT10 := Lib.hid (AT9.out.trans av10)
        clear av10 
        obtain ⟨x0, x1, x2, x3, x4, x5, x6, xz⟩ := rowF7 Bx10.out
        obtain ⟨y0, y1, y2, y3, y4, y5, yz⟩ := rowF6 By10.out
        obtain ⟨p0, p1, p2, p3, p4, p5, p6, pz⟩ := rowF7 Bp10.out
        obtain ⟨q0, q1, q2, q3, q4, q5, q6, qz⟩ := rowF7 Bq10.out
        go_wp2_with fail
        go_ret
        exact ⟨rfl, AT10.out⟩
      case true =>
        have hm1 : m1 = true := HM1.out (by simp) (by simp)
        subst hm1
        go_wp2_with fail
        refine (M1.out _ _ _ _ _ _ _ _ _ _ _ KP6.out).mono ?_
        rintro e v7 ⟨rfl, av7⟩
        clear x0 x1 x2 x3 x4 x5 x6 xz y0 y1 y2 y3 y4 y5 yz p0 p1 p2 p3 p4 p5 p6 pz q0 q1 q2 q3 q4 q5 q6 qz 
        have Bx7 := Lib.hid (Bx6.out.aft av7)
        have By7 := Lib.hid (By6.out.aft av7)
        have Bp7 := Lib.hid (Bp6.out.aft av7)
        have Bq7 := Lib.hid (Bq6.out.aft av7)
        have Kc7 := Lib.hid (Kc6.out.aft av7)
        have KP7 := Lib.hid (KP6.out.aft av7)
        have KQ7 := Lib.hid (KQ6.out.aft av7)
        have AT7 := Lib.hid (AT6.out.trans av7)
        clear av7 
        obtain ⟨x0, x1, x2, x3, x4, x5, x6, xz⟩ := rowF7 Bx7.out
        obtain ⟨y0, y1, y2, y3, y4, y5, yz⟩ := rowF6 By7.out
        obtain ⟨p0, p1, p2, p3, p4, p5, p6, pz⟩ := rowF7 Bp7.out
        obtain ⟨q0, q1, q2, q3, q4, q5, q6, qz⟩ := rowF7 Bq7.out
        go_wp2_with fail
        refine (gives9 v7).mono ?_
        rintro e v8 ⟨rfl, av8⟩
        clear x0 x1 x2 x3 x4 x5 x6 xz y0 y1 y2 y3 y4 y5 yz p0 p1 p2 p3 p4 p5 p6 pz q0 q1 q2 q3 q4 q5 q6 qz 
        have Bx8 := Lib.hid (Bx7.out.aft av8)
        have By8 := Lib.hid (By7.out.aft av8)
        have Bp8 := Lib.hid (Bp7.out.aft av8)
        have Bq8 := Lib.hid (Bq7.out.aft av8)
        have Kc8 := Lib.hid (Kc7.out.aft av8)
        have KP8 := Lib.hid (KP7.out.aft av8)
        have KQ8 := Lib.hid (KQ7.out.aft av8)
        have AT8 := Lib.hid (AT7.out.trans av8)
        clear av8 
        obtain ⟨x0, x1, x2, x3, x4, x5, x6, xz⟩ := rowF7 Bx8.out
        obtain ⟨y0, y1, y2, y3, y4, y5, yz⟩ := rowF6 By8.out
        obtain ⟨p0, p1, p2, p3, p4, p5, p6, pz⟩ := rowF7 Bp8.out
        obtain ⟨q0, q1, q2, q3, q4, q5, q6, qz⟩ := rowF7 Bq8.out
        go_wp2_with fail
        refine (takes9 v8).mono ?_
        rintro e v9 ⟨rfl, av9⟩
        clear x0 x1 x2 x3 x4 x5 x6 xz y0 y1 y2 y3 y4 y5 yz p0 p1 p2 p3 p4 p5 p6 pz q0 q1 q2 q3 q4 q5 q6 qz 
        have Bx9 := Lib.hid (Bx8.out.aft av9)
        have By9 := Lib.hid (By8.out.aft av9)
        have Bp9 := Lib.hid (Bp8.out.aft av9)
        have Bq9 := Lib.hid (Bq8.out.aft av9)
        have Kc9 := Lib.hid (Kc8.out.aft av9)
        have KP9 := Lib.hid (KP8.out.aft av9)
        have KQ9 := Lib.hid (KQ8.out.aft av9)
        have AT9 := Lib.hid (AT8.out.trans av9)
        clear av9 
        obtain ⟨x0, x1, x2, x3, x4, x5, x6, xz⟩ := rowF7 Bx9.out
        obtain ⟨y0, y1, y2, y3, y4, y5, yz⟩ := rowF6 By9.out
        obtain ⟨p0, p1, p2, p3, p4, p5, p6, pz⟩ := rowF7 Bp9.out
        obtain ⟨q0, q1, q2, q3, q4, q5, q6, qz⟩ := rowF7 Bq9.out
        go_wp2_with fail
        refine (may9 v9).mono ?_
        rintro e v10 ⟨rfl, av10⟩
        clear x0 x1 x2 x3 x4 x5 x6 xz y0 y1 y2 y3 y4 y5 yz p0 p1 p2 p3 p4 p5 p6 pz q0 q1 q2 q3 q4 q5 q6 qz 
        have Bx10 := Lib.hid (Bx9.out.aft av10)
        have By10 := Lib.hid (By9.out.aft av10)
        have Bp10 := Lib.hid (Bp9.out.aft av10)
        have Bq10 := Lib.hid (Bq9.out.aft av10)
        have Kc10 := Lib.hid (Kc9.out.aft av10)
        have KP10 := Lib.hid (KP9.out.aft av10)
        have KQ10 := Lib.hid (KQ9.out.aft av10)
        have AT10 := Lib.hid (AT9.out.trans av10)
        clear av10 
        obtain ⟨x0, x1, x2, x3, x4, x5, x6, xz⟩ := rowF7 Bx10.out
        obtain ⟨y0, y1, y2, y3, y4, y5, yz⟩ := rowF6 By10.out
        obtain ⟨p0, p1, p2, p3, p4, p5, p6, pz⟩ := rowF7 Bp10.out
        obtain ⟨q0, q1, q2, q3, q4, q5, q6, qz⟩ := rowF7 Bq10.out
        go_wp2_with fail
        go_ret
        exact ⟨rfl, AT10.out⟩
    case neg =>
      have hte2 : (te == 0) = false := by simpa using hte
      have hte3 : (te != 0) = true := by simp [hte]
      cases m0
      case false =>
        go_wp2_with fail
        refine (gives9 w4).mono ?_
        rintro e v7 ⟨rfl, av7⟩
        clear x0 x1 x2 x3 x4 x5 x6 xz y0 y1 y2 y3 y4 y5 yz p0 p1 p2 p3 p4 p5 p6 pz q0 q1 q2 q3 q4 q5 q6 qz 
        have Bx7 := Lib.hid (Bx6.out.aft av7)
        have By7 := Lib.hid (By6.out.aft av7)
        have Bp7 := Lib.hid (Bp6.out.aft av7)
        have Bq7 := Lib.hid (Bq6.out.aft av7)
        have Kc7 := Lib.hid (Kc6.out.aft av7)
        have KP7 := Lib.hid (KP6.out.aft av7)
        have KQ7 := Lib.hid (KQ6.out.aft av7)
        have AT7 := Lib.hid (AT6.out.trans av7)
        clear av7 
        obtain ⟨x0, x1, x2, x3, x4, x5, x6, xz⟩ := rowF7 Bx7.out
        obtain ⟨y0, y1, y2, y3, y4, y5, yz⟩ := rowF6 By7.out
        obtain ⟨p0, p1, p2, p3, p4, p5, p6, pz⟩ := rowF7 Bp7.out
        obtain ⟨q0, q1, q2, q3, q4, q5, q6, qz⟩ := rowF7 Bq7.out
        go_wp2_with fail
        refine (takes9 v7).mono ?_
        rintro e v8 ⟨rfl, av8⟩
        clear x0 x1 x2 x3 x4 x5 x6 xz y0 y1 y2 y3 y4 y5 yz p0 p1 p2 p3 p4 p5 p6 pz q0 q1 q2 q3 q4 q5 q6 qz 
        have Bx8 := Lib.hid (Bx7.out.aft av8)
        have By8 := Lib.hid (By7.out.aft av8)
        have Bp8 := Lib.hid (Bp7.out.aft av8)
        have Bq8 := Lib.hid (Bq7.out.aft av8)
        have Kc8 := Lib.hid (Kc7.out.aft av8)
        have KP8 := Lib.hid (KP7.out.aft av8)
        have KQ8 := Lib.hid (KQ7.out.aft av8)
        have AT8 := Lib.hid (AT7.out.trans av8)
        clear av8 
        obtain ⟨x0, x1, x2, x3, x4, x5, x6, xz⟩ := rowF7 Bx8.out
        obtain ⟨y0, y1, y2, y3, y4, y5, yz⟩ := rowF6 By8.out
        obtain ⟨p0, p1, p2, p3, p4, p5, p6, pz⟩ := rowF7 Bp8.out
        obtain ⟨q0, q1, q2, q3, q4, q5, q6, qz⟩ := rowF7 Bq8.out
        go_wp2_with fail
        refine (may9 v8).mono ?_
        rintro e v9 ⟨rfl, av9⟩
        clear x0 x1 x2 x3 x4 x5 x6 xz y0 y1 y2 y3 y4 y5 yz p0 p1 p2 p3 p4 p5 p6 pz q0 q1 q2 q3 q4 q5 q6 qz 
        have Bx9 := Lib.hid (Bx8.out.aft av9)
        have By9 := Lib.hid (By8.out.aft av9)
        have Bp9 := Lib.hid (Bp8.out.aft av9)
        have Bq9 := Lib.hid (Bq8.out.aft av9)
        have Kc9 := Lib.hid (Kc8.out.aft av9)
        have KP9 := Lib.hid (KP8.out.aft av9)
        have KQ9 := Lib.hid (KQ8.out.aft av9)
        have AT9 := Lib.hid (AT8.out.trans av9)
        clear av9 
        obtain ⟨x0, x1, x2, x3, x4, x5, x6, xz⟩ := rowF7 Bx9.out
        obtain ⟨y0, y1, y2, y3, y4, y5, yz⟩ := rowF6 By9.out
        obtain ⟨p0, p1, p2, p3, p4, p5, p6, pz⟩ := rowF7 Bp9.out
        obtain ⟨q0, q1, q2, q3, q4, q5, q6, qz⟩ := rowF7 Bq9.out
        go_wp2_with fail
        go_ret
        exact ⟨rfl, AT9.out⟩
      case true =>
        have hm1 : m1 = true := HM1.out (by simp) (by simp)
        subst hm1
        go_wp2_with fail
        refine (M1.out _ _ _ _ _ _ _ _ _ _ _ KP6.out).mono ?_
        rintro e v7 ⟨rfl, av7⟩
        clear x0 x1 x2 x3 x4 x5 x6 xz y0 y1 y2 y3 y4 y5 yz p0 p1 p2 p3 p4 p5 p6 pz q0 q1 q2 q3 q4 q5 q6 qz 
        have Bx7 := Lib.hid (Bx6.out.aft av7)
        have By7 := Lib.hid (By6.out.aft av7)
        have Bp7 := Lib.hid (Bp6.out.aft av7)
        have Bq7 := Lib.hid (Bq6.out.aft av7)
        have Kc7 := Lib.hid (Kc6.out.aft av7)
        have KP7 := Lib.hid (KP6.out.aft av7)
        have KQ7 := Lib.hid (KQ6.out.aft av7)
        have AT7 := Lib.hid (AT6.out.trans av7)
        clear av7 
        obtain ⟨x0, x1, x2, x3, x4, x5, x6, xz⟩ := rowF7 Bx7.out
        obtain ⟨y0, y1, y2, y3, y4, y5, yz⟩ := rowF6 By7.out
        obtain ⟨p0, p1, p2, p3, p4, p5, p6, pz⟩ := rowF7 Bp7.out
        obtain ⟨q0, q1, q2, q3, q4, q5, q6, qz⟩ := rowF7 Bq7.out
        go_wp2_with fail
        refine (gives9 v7).mono ?_
        rintro e v8 ⟨rfl, av8⟩
        clear x0 x1 x2 x3 x4 x5 x6 xz y0 y1 y2 y3 y4 y5 yz p0 p1 p2 p3 p4 p5 p6 pz q0 q1 q2 q3 q4 q5 q6 qz 
        have Bx8 := Lib.hid (Bx7.out.aft av8)
        have By8 := Lib.hid (By7.out.aft av8)
        have Bp8 := Lib.hid (Bp7.out.aft av8)
        have Bq8 := Lib.hid (Bq7.out.aft av8)
        have Kc8 := Lib.hid (Kc7.out.aft av8)
        have KP8 := Lib.hid (KP7.out.aft av8)
        have KQ8 := Lib.hid (KQ7.out.aft av8)
        have AT8 := Lib.hid (AT7.out.trans av8)
        clear av8 
        obtain ⟨x0, x1, x2, x3, x4, x5, x6, xz⟩ := rowF7 Bx8.out
        obtain ⟨y0, y1, y2, y3, y4, y5, yz⟩ := rowF6 By8.out
        obtain ⟨p0, p1, p2, p3, p4, p5, p6, pz⟩ := rowF7 Bp8.out
        obtain ⟨q0, q1, q2, q3, q4, q5, q6, qz⟩ := rowF7 Bq8.out
        go_wp2_with fail
        refine (takes9 v8).mono ?_
        rintro e v9 ⟨rfl, av9⟩
        clear x0 x1 x2 x3 x4 x5 x6 xz y0 y1 y2 y3 y4 y5 yz p0 p1 p2 p3 p4 p5 p6 pz q0 q1 q2 q3 q4 q5 q6 qz 
        have Bx9 := Lib.hid (Bx8.out.aft av9)
        have By9 := Lib.hid (By8.out.aft av9)
        have Bp9 := Lib.hid (Bp8.out.aft av9)
        have Bq9 := Lib.hid (Bq8.out.aft av9)
        have Kc9 := Lib.hid (Kc8.out.aft av9)
        have KP9 := Lib.hid (KP8.out.aft av9)
        have KQ9 := Lib.hid (KQ8.out.aft av9)
        have AT9 := Lib.hid (AT8.out.trans av9)
        clear av9 
        obtain ⟨x0, x1, x2, x3, x4, x5, x6, xz⟩ := rowF7 Bx9.out
        obtain ⟨y0, y1, y2, y3, y4, y5, yz⟩ := rowF6 By9.out
        obtain ⟨p0, p1, p2, p3, p4, p5, p6, pz⟩ := rowF7 Bp9.out
        obtain ⟨q0, q1, q2, q3, q4, q5, q6, qz⟩ := rowF7 Bq9.out
        go_wp2_with fail
        refine (may9 v9).mono ?_
        rintro e v10 ⟨rfl, av10⟩
        clear x0 x1 x2 x3 x4 x5 x6 xz y0 y1 y2 y3 y4 y5 yz p0 p1 p2 p3 p4 p5 p6 pz q0 q1 q2 q3 q4 q5 q6 qz 
        have Bx10 := Lib.hid (Bx9.out.aft av10)
        have By10 := Lib.hid (By9.out.aft av10)
        have Bp10 := Lib.hid (Bp9.out.aft av10)
        have Bq10 := Lib.hid (Bq9.out.aft av10)
        have Kc10 := Lib.hid (Kc9.out.aft av10)
        have KP10 := Lib.hid (KP9.out.aft av10)
        have KQ10 := Lib.hid (KQ9.out.aft av10)
        have AT10 := Lib.hid (AT9.out.trans av10)
        clear av10 
        obtain ⟨x0, x1, x2, x3, x4, x5, x6, xz⟩ := rowF7 Bx10.out
        obtain ⟨y0, y1, y2, y3, y4, y5, yz⟩ := rowF6 By10.out
        obtain ⟨p0, p1, p2, p3, p4, p5, p6, pz⟩ := rowF7 Bp10.out
        obtain ⟨q0, q1, q2, q3, q4, q5, q6, qz⟩ := rowF7 Bq10.out
        go_wp2_with fail
        go_ret
        exact ⟨rfl, AT10.out⟩
  case neg =>
    have hge2 : (ge == 0) = false := by simpa using hge
    have hge3 : (ge != 0) = true := by simp [hge]
    by_cases hte : te = 0
    case pos =>
      subst hte
      cases m0
      case false =>
        have hm2 : m2 = false := HM2.out (by simp) (by simp)
        subst hm2
        go_wp2_with fail
        refine (M2.out _ _ _ _ _ _ _ _ _ _ _ KQ6.out).mono ?_
        rintro e v7 ⟨rfl, av7⟩
        clear x0 x1 x2 x3 x4 x5 x6 xz y0 y1 y2 y3 y4 y5 yz p0 p1 p2 p3 p4 p5 p6 pz q0 q1 q2 q3 q4 q5 q6 qz 
        have Bx7 := Lib.hid (Bx6.out.aft av7)
        have By7 := Lib.hid (By6.out.aft av7)
        have Bp7 := Lib.hid (Bp6.out.aft av7)
        have Bq7 := Lib.hid (Bq6.out.aft av7)
        have Kc7 := Lib.hid (Kc6.out.aft av7)
        have KP7 := Lib.hid (KP6.out.aft av7)
        have KQ7 := Lib.hid (KQ6.out.aft av7)
        have AT7 := Lib.hid (AT6.out.trans av7)
        clear av7 
        obtain ⟨x0, x1, x2, x3, x4, x5, x6, xz⟩ := rowF7 Bx7.out
        obtain ⟨y0, y1, y2, y3, y4, y5, yz⟩ := rowF6 By7.out
        obtain ⟨p0, p1, p2, p3, p4, p5, p6, pz⟩ := rowF7 Bp7.out
        obtain ⟨q0, q1, q2, q3, q4, q5, q6, qz⟩ := rowF7 Bq7.out
        go_wp2_with fail
        refine (gives9 v7).mono ?_
        rintro e v8 ⟨rfl, av8⟩
        clear x0 x1 x2 x3 x4 x5 x6 xz y0 y1 y2 y3 y4 y5 yz p0 p1 p2 p3 p4 p5 p6 pz q0 q1 q2 q3 q4 q5 q6 qz 
        have Bx8 := Lib.hid (Bx7.out.aft av8)
        have By8 := Lib.hid (By7.out.aft av8)
        have Bp8 := Lib.hid (Bp7.out.aft av8)
        have Bq8 := Lib.hid (Bq7.out.aft av8)
        have Kc8 := Lib.hid (Kc7.out.aft av8)
        have KP8 := Lib.hid (KP7.out.aft av8)
        have KQ8 := Lib.hid (KQ7.out.aft av8)
        have AT8 := Lib.hid (AT7.out.trans av8)
        clear av8 
        obtain ⟨x0, x1, x2, x3, x4, x5, x6, xz⟩ := rowF7 Bx8.out
        obtain ⟨y0, y1, y2, y3, y4, y5, yz⟩ := rowF6 By8.out
        obtain ⟨p0, p1, p2, p3, p4, p5, p6, pz⟩ := rowF7 Bp8.out
        obtain ⟨q0, q1, q2, q3, q4, q5, q6, qz⟩ := rowF7 Bq8.out
        go_wp2_with fail
        refine (takes9 v8).mono ?_
        rintro e v9 ⟨rfl, av9⟩
        clear x0 x1 x2 x3 x4 x5 x6 xz y0 y1 y2 y3 y4 y5 yz p0 p1 p2 p3 p4 p5 p6 pz q0 q1 q2 q3 q4 q5 q6 qz 
        have Bx9 := Lib.hid (Bx8.out.aft av9)
        have By9 := Lib.hid (By8.out.aft av9)
        have Bp9 := Lib.hid (Bp8.out.aft av9)
        have Bq9 := Lib.hid (Bq8.out.aft av9)
        have Kc9 := Lib.hid (Kc8.out.aft av9)
        have KP9 := Lib.hid (KP8.out.aft av9)
        have KQ9 := Lib.hid (KQ8.out.aft av9)
        have AT9 := Lib.hid (AT8.out.trans av9)
        clear av9 
        obtain ⟨x0, x1, x2, x3, x4, x5, x6, xz⟩ := rowF7 Bx9.out
        obtain ⟨y0, y1, y2, y3, y4, y5, yz⟩ := rowF6 By9.out
        obtain ⟨p0, p1, p2, p3, p4, p5, p6, pz⟩ := rowF7 Bp9.out
        obtain ⟨q0, q1, q2, q3, q4, q5, q6, qz⟩ := rowF7 Bq9.out
        go_wp2_with fail
        refine (may9 v9).mono ?_
        rintro e v10 ⟨rfl, av10⟩
        clear x0 x1 x2 x3 x4 x5 x6 xz y0 y1 y2 y3 y4 y5 yz p0 p1 p2 p3 p4 p5 p6 pz q0 q1 q2 q3 q4 q5 q6 qz 
        have Bx10 := Lib.hid (Bx9.out.aft av10)
        have By10 := Lib.hid (By9.out.aft av10)
        have Bp10 := Lib.hid (Bp9.out.aft av10)
        have Bq10 := Lib.hid (Bq9.out.aft av10)
        have Kc10 := Lib.hid (Kc9.out.aft av10)
        have KP10 := Lib.hid (KP9.out.aft av10)
        have KQ10 := Lib.hid (KQ9.out.aft av10)
        have AT10 := Lib.hid (AT9.out.trans av10)
        clear av10 
        obtain ⟨x0, x1, x2, x3, x4, x5, x6, xz⟩ := rowF7 Bx10.out
        obtain ⟨y0, y1, y2, y3, y4, y5, yz⟩ := rowF6 By10.out
        obtain ⟨p0, p1, p2, p3, p4, p5, p6, pz⟩ := rowF7 Bp10.out
        obtain ⟨q0, q1, q2, q3, q4, q5, q6, qz⟩ := rowF7 Bq10.out
        go_wp2_with fail
        go_ret
        exact ⟨rfl, AT10.out⟩
      case true =>
        go_wp2_with fail
        refine (gives9 w4).mono ?_
        rintro e v7 ⟨rfl, av7⟩
        clear x0 x1 x2 x3 x4 x5 x6 xz y0 y1 y2 y3 y4 y5 yz p0 p1 p2 p3 p4 p5 p6 pz q0 q1 q2 q3 q4 q5 q6 qz 
        have Bx7 := Lib.hid (Bx6.out.aft av7)
        have By7 := Lib.hid (By6.out.aft av7)
        have Bp7 := Lib.hid (Bp6.out.aft av7)
        have Bq7 := Lib.hid (Bq6.out.aft av7)
        have Kc7 := Lib.hid (Kc6.out.aft av7)
        have KP7 := Lib.hid (KP6.out.aft av7)
        have KQ7 := Lib.hid (KQ6.out.aft av7)
        have AT7 := Lib.hid (AT6.out.trans av7)
        clear av7 
        obtain ⟨x0, x1, x2, x3, x4, x5, x6, xz⟩ := rowF7 Bx7.out
        obtain ⟨y0, y1, y2, y3, y4, y5, yz⟩ := rowF6 By7.out
        obtain ⟨p0, p1, p2, p3, p4, p5, p6, pz⟩ := rowF7 Bp7.out
        obtain ⟨q0, q1, q2, q3, q4, q5, q6, qz⟩ := rowF7 Bq7.out
        go_wp2_with fail
        refine (takes9 v7).mono ?_
        rintro e v8 ⟨rfl, av8⟩
        clear x0 x1 x2 x3 x4 x5 x6 xz y0 y1 y2 y3 y4 y5 yz p0 p1 p2 p3 p4 p5 p6 pz q0 q1 q2 q3 q4 q5 q6 qz 
        have Bx8 := Lib.hid (Bx7.out.aft av8)
        have By8 := Lib.hid (By7.out.aft av8)
        have Bp8 := Lib.hid (Bp7.out.aft av8)
        have Bq8 := Lib.hid (Bq7.out.aft av8)
        have Kc8 := Lib.hid (Kc7.out.aft av8)
        have KP8 := Lib.hid (KP7.out.aft av8)
        have KQ8 := Lib.hid (KQ7.out.aft av8)
        have AT8 := Lib.hid (AT7.out.trans av8)
        clear av8 
        obtain ⟨x0, x1, x2, x3, x4, x5, x6, xz⟩ := rowF7 Bx8.out
        obtain ⟨y0, y1, y2, y3, y4, y5, yz⟩ := rowF6 By8.out
        obtain ⟨p0, p1, p2, p3, p4, p5, p6, pz⟩ := rowF7 Bp8.out
        obtain ⟨q0, q1, q2, q3, q4, q5, q6, qz⟩ := rowF7 Bq8.out
        go_wp2_with fail
        refine (may9 v8).mono ?_
        rintro e v9 ⟨rfl, av9⟩
        clear x0 x1 x2 x3 x4 x5 x6 xz y0 y1 y2 y3 y4 y5 yz p0 p1 p2 p3 p4 p5 p6 pz q0 q1 q2 q3 q4 q5 q6 qz 
        have Bx9 := Lib.hid (Bx8.out.aft av9)
        have By9 := Lib.hid (By8.out.aft av9)
        have Bp9 := Lib.hid (Bp8.out.aft av9)
        have Bq9 := Lib.hid (Bq8.out.aft av9)
        have Kc9 := Lib.hid (Kc8.out.aft av9)
        have KP9 := Lib.hid (KP8.out.aft av9)
        have KQ9 := Lib.hid (KQ8.out.aft av9)
        have AT9 := Lib.hid (AT8.out.trans av9)
        clear av9 
        obtain ⟨x0, x1, x2, x3, x4, x5, x6, xz⟩ := rowF7 Bx9.out
        obtain ⟨y0, y1, y2, y3, y4, y5, yz⟩ := rowF6 By9.out
        obtain ⟨p0, p1, p2, p3, p4, p5, p6, pz⟩ := rowF7 Bp9.out
        obtain ⟨q0, q1, q2, q3, q4, q5, q6, qz⟩ := rowF7 Bq9.out
        go_wp2_with fail
        go_ret
        exact ⟨rfl, AT9.out⟩
    case neg =>
      have hte2 : (te == 0) = false := by simpa using hte
      have hte3 : (te != 0) = true := by simp [hte]
      cases m0
      case false =>
        go_wp2_with fail
        refine (gives9 w4).mono ?_
        rintro e v7 ⟨rfl, av7⟩
        clear x0 x1 x2 x3 x4 x5 x6 xz y0 y1 y2 y3 y4 y5 yz p0 p1 p2 p3 p4 p5 p6 pz q0 q1 q2 q3 q4 q5 q6 qz 
        have Bx7 := Lib.hid (Bx6.out.aft av7)
        have By7 := Lib.hid (By6.out.aft av7)
        have Bp7 := Lib.hid (Bp6.out.aft av7)
        have Bq7 := Lib.hid (Bq6.out.aft av7)
        have Kc7 := Lib.hid (Kc6.out.aft av7)
        have KP7 := Lib.hid (KP6.out.aft av7)
        have KQ7 := Lib.hid (KQ6.out.aft av7)
        have AT7 := Lib.hid (AT6.out.trans av7)
        clear av7 
        obtain ⟨x0, x1, x2, x3, x4, x5, x6, xz⟩ := rowF7 Bx7.out
        obtain ⟨y0, y1, y2, y3, y4, y5, yz⟩ := rowF6 By7.out
        obtain ⟨p0, p1, p2, p3, p4, p5, p6, pz⟩ := rowF7 Bp7.out
        obtain ⟨q0, q1, q2, q3, q4, q5, q6, qz⟩ := rowF7 Bq7.out
        go_wp2_with fail
        refine (takes9 v7).mono ?_
        rintro e v8 ⟨rfl, av8⟩
        clear x0 x1 x2 x3 x4 x5 x6 xz y0 y1 y2 y3 y4 y5 yz p0 p1 p2 p3 p4 p5 p6 pz q0 q1 q2 q3 q4 q5 q6 qz 
        have Bx8 := Lib.hid (Bx7.out.aft av8)
        have By8 := Lib.hid (By7.out.aft av8)
        have Bp8 := Lib.hid (Bp7.out.aft av8)
        have Bq8 := Lib.hid (Bq7.out.aft av8)
        have Kc8 := Lib.hid (Kc7.out.aft av8)
        have KP8 := Lib.hid (KP7.out.aft av8)
        have KQ8 := Lib.hid (KQ7.out.aft av8)
        have AT8 := Lib.hid (AT7.out.trans av8)
        clear av8 
        obtain ⟨x0, x1, x2, x3, x4, x5, x6, xz⟩ := rowF7 Bx8.out
        obtain ⟨y0, y1, y2, y3, y4, y5, yz⟩ := rowF6 By8.out
        obtain ⟨p0, p1, p2, p3, p4, p5, p6, pz⟩ := rowF7 Bp8.out
        obtain ⟨q0, q1, q2, q3, q4, q5, q6, qz⟩ := rowF7 Bq8.out
        go_wp2_with fail
        refine (may9 v8).mono ?_
        rintro e v9 ⟨rfl, av9⟩
        clear x0 x1 x2 x3 x4 x5 x6 xz y0 y1 y2 y3 y4 y5 yz p0 p1 p2 p3 p4 p5 p6 pz q0 q1 q2 q3 q4 q5 q6 qz 
        have Bx9 := Lib.hid (Bx8.out.aft av9)
        have By9 := Lib.hid (By8.out.aft av9)
        have Bp9 := Lib.hid (Bp8.out.aft av9)
        have Bq9 := Lib.hid (Bq8.out.aft av9)
        have Kc9 := Lib.hid (Kc8.out.aft av9)
        have KP9 := Lib.hid (KP8.out.aft av9)
        have KQ9 := Lib.hid (KQ8.out.aft av9)
        have AT9 := Lib.hid (AT8.out.trans av9)
        clear av9 
        obtain ⟨x0, x1, x2, x3, x4, x5, x6, xz⟩ := rowF7 Bx9.out
        obtain ⟨y0, y1, y2, y3, y4, y5, yz⟩ := rowF6 By9.out
        obtain ⟨p0, p1, p2, p3, p4, p5, p6, pz⟩ := rowF7 Bp9.out
        obtain ⟨q0, q1, q2, q3, q4, q5, q6, qz⟩ := rowF7 Bq9.out
        go_wp2_with fail
        go_ret
        exact ⟨rfl, AT9.out⟩
      case true =>
        go_wp2_with fail
        refine (gives9 w4).mono ?_
        rintro e v7 ⟨rfl, av7⟩
        clear x0 x1 x2 x3 x4 x5 x6 xz y0 y1 y2 y3 y4 y5 yz p0 p1 p2 p3 p4 p5 p6 pz q0 q1 q2 q3 q4 q5 q6 qz 
        have Bx7 := Lib.hid (Bx6.out.aft av7)
        have By7 := Lib.hid (By6.out.aft av7)
        have Bp7 := Lib.hid (Bp6.out.aft av7)
        have Bq7 := Lib.hid (Bq6.out.aft av7)
        have Kc7 := Lib.hid (Kc6.out.aft av7)
        have KP7 := Lib.hid (KP6.out.aft av7)
        have KQ7 := Lib.hid (KQ6.out.aft av7)
        have AT7 := Lib.hid (AT6.out.trans av7)
        clear av7 
        obtain ⟨x0, x1, x2, x3, x4, x5, x6, xz⟩ := rowF7 Bx7.out
        obtain ⟨y0, y1, y2, y3, y4, y5, yz⟩ := rowF6 By7.out
        obtain ⟨p0, p1, p2, p3, p4, p5, p6, pz⟩ := rowF7 Bp7.out
        obtain ⟨q0, q1, q2, q3, q4, q5, q6, qz⟩ := rowF7 Bq7.out
        go_wp2_with fail
        refine (takes9 v7).mono ?_
        rintro e v8 ⟨rfl, av8⟩
        clear x0 x1 x2 x3 x4 x5 x6 xz y0 y1 y2 y3 y4 y5 yz p0 p1 p2 p3 p4 p5 p6 pz q0 q1 q2 q3 q4 q5 q6 qz 
        have Bx8 := Lib.hid (Bx7.out.aft av8)
        have By8 := Lib.hid (By7.out.aft av8)
        have Bp8 := Lib.hid (Bp7.out.aft av8)
        have Bq8 := Lib.hid (Bq7.out.aft av8)
        have Kc8 := Lib.hid (Kc7.out.aft av8)
        have KP8 := Lib.hid (KP7.out.aft av8)
        have KQ8 := Lib.hid (KQ7.out.aft av8)
        have AT8 := Lib.hid (AT7.out.trans av8)
        clear av8 
        obtain ⟨x0, x1, x2, x3, x4, x5, x6, xz⟩ := rowF7 Bx8.out
        obtain ⟨y0, y1, y2, y3, y4, y5, yz⟩ := rowF6 By8.out
        obtain ⟨p0, p1, p2, p3, p4, p5, p6, pz⟩ := rowF7 Bp8.out
        obtain ⟨q0, q1, q2, q3, q4, q5, q6, qz⟩ := rowF7 Bq8.out
        go_wp2_with fail
        refine (may9 v8).mono ?_
        rintro e v9 ⟨rfl, av9⟩
        clear x0 x1 x2 x3 x4 x5 x6 xz y0 y1 y2 y3 y4 y5 yz p0 p1 p2 p3 p4 p5 p6 pz q0 q1 q2 q3 q4 q5 q6 qz 
        have Bx9 := Lib.hid (Bx8.out.aft av9)
        have By9 := Lib.hid (By8.out.aft av9)
        have Bp9 := Lib.hid (Bp8.out.aft av9)
        have Bq9 := Lib.hid (Bq8.out.aft av9)
        have Kc9 := Lib.hid (Kc8.out.aft av9)
        have KP9 := Lib.hid (KP8.out.aft av9)
        have KQ9 := Lib.hid (KQ8.out.aft av9)
        have AT9 := Lib.hid (AT8.out.trans av9)
        clear av9 
        obtain ⟨x0, x1, x2, x3, x4, x5, x6, xz⟩ := rowF7 Bx9.out
        obtain ⟨y0, y1, y2, y3, y4, y5, yz⟩ := rowF6 By9.out
        obtain ⟨p0, p1, p2, p3, p4, p5, p6, pz⟩ := rowF7 Bp9.out
        obtain ⟨q0, q1, q2, q3, q4, q5, q6, qz⟩ := rowF7 Bq9.out
        go_wp2_with fail
        go_ret
        exact ⟨rfl, AT9.out⟩
end Go.Proofs.YtlklmekapbojdaaGreat

