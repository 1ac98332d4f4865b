/- Contracts of the program, part 30. -/
import Derived.Deep.AppendLies
import Derived.Deep.DeepMust
import Derived.OwnWalk
import Derived.Laws.AppendOwn
import Derived.ProofKit
import Derived.OpenShut
import Derived.Deep.Slices
import Derived.ChangeOld
import Derived.SizedLaws
import Derived.WalkKit
import Derived.WalkSpells
import Derived.WalkLawsBesides
import Derived.Lib.Hide
import Derived.Deep.QuietTactic
import Derived.BigQuiet
import Derived.Below
import Derived.Deep.Draws
import Derived.StillTailTactics
import Derived.Laws.Cells
import Derived.Laws.IdiomCopy
import Derived.Test.YtlklmekapbojdaaGreatRows
import Derived.Lib.Walk
import Derived.Laws.EntriesVeiled
import Derived.Maps.Own
import Derived.Maps.Views
import Derived.Deep.Upon
import Derived.OneCell
import Derived.OrdersHeld
import Derived.Deep.RegionHeld3
import Derived.IntWalk
import Derived.Lib.Bytealg
import Derived.Lib.SliceRun
import Derived.Deep.RegionLaw
import Derived.Lib.AppendZerosOnto
import Derived.Lib.Overlaps
import Derived.Shelf.SlSortCmp.WholeK
import Derived.WalkMore
import Derived.Laws.StructEq
import Derived.WideKeyEntry
import Derived.DeepKeys3
import Derived.ChangeKeys
import Derived.Test.YtlklmekapbojdaaGreatPartL1
import Derived.Test.YtlklmekapbojdaaGreatPartL2
import Derived.Test.YtlklmekapbojdaaGreatPartL3
import Derived.Test.YtlklmekapbojdaaGreatPartL4
import Derived.Test.YtlklmekapbojdaaGreatPartL5
import Derived.Test.YtlklmekapbojdaaGreatPartL6
import Derived.Test.YtlklmekapbojdaaGreatPartL7
import Derived.Test.YtlklmekapbojdaaGreatPartL8
import Derived.Test.YtlklmekapbojdaaGreatPartL9
import Derived.Test.YtlklmekapbojdaaGreatPartL10
import Derived.Test.YtlklmekapbojdaaGreatPartL12
import Derived.Test.YtlklmekapbojdaaGreatPartL13
import Derived.Test.YtlklmekapbojdaaGreatPartL14
import Derived.Test.YtlklmekapbojdaaGreatPartL15
import Derived.Test.YtlklmekapbojdaaGreatPartL16
import Derived.Test.YtlklmekapbojdaaGreatPartL17
import Derived.Test.YtlklmekapbojdaaGreatPartL18
import Derived.Test.YtlklmekapbojdaaGreatPartL19
import Derived.Test.YtlklmekapbojdaaGreatPartL26
namespace Go.Proofs.YtlklmekapbojdaaGreat
open Go.RowKit
set_option linter.unusedVariables false
theorem hold_whole {c : Cat} (h : wholeB c = true) : holdL c = c.grants := by
  obtain ⟨h1, h2⟩ := whole_iff.1 h
  unfold holdL
  rw [if_pos h1]
  exact List.filter_eq_self.2 fun g hg => heldB_iff.2 (h2 g hg)
/-- what is given, and was not there ahead, and is taken, leaves what was -/
theorem Gave.back {c : Cat} {g : Gra} {x : Cat} (h : Gave c g x) (hn : inG c.grants g = false) : takeR x g = (c, 0) := by
  rw [take_is h.wholeX h.inX]
  have e : lessG x.grants g = c.grants := by
    rw [h.is]
    show lessG (laid c.grants g) g = c.grants
    rw [laid_new hn]
    unfold lessG insAt
    have hf : (!fiveE g g) = false := by rw [(fiveE_iff g g).2 rfl]; rfl
    rw [List.filter_append, List.filter_append, List.filter_cons, hf]
    simp only [Bool.false_eq_true, if_false, List.filter_nil, List.append_nil]
    rw [← List.filter_append, List.take_append_drop]
    exact List.filter_eq_self.2 fun y hy => by rw [inG_false hn y hy]; rfl
  rw [e, h.is]
  show (({ c with grants := holdL c } : Cat), (0 : Int)) = (c, 0)
  rw [hold_whole h.whole]
end Go.Proofs.YtlklmekapbojdaaGreat

namespace Go.Proofs.YtlklmekapbojdaaGreat
open Go.RowKit Go.Deep
set_option maxRecDepth 100000
set_option linter.unusedVariables false
theorem five_yes {a b : Gra} (h : fiveE a b = true) : (a.schema.toList == b.schema.toList) = true ∧ (a.table.toList == b.table.toList) = true ∧ (a.right == b.right) = true ∧ (a.giver.toList == b.giver.toList) = true ∧ (a.to.toList == b.to.toList) = true := by
  have h' : ((a.schema.toList == b.schema.toList) && ((a.table.toList == b.table.toList) && ((a.right == b.right) && ((a.giver.toList == b.giver.toList) && (a.to.toList == b.to.toList))))) = true := h
  simp only [Bool.and_eq_true] at h'
  exact h'
end Go.Proofs.YtlklmekapbojdaaGreat

namespace Go.Proofs.YtlklmekapbojdaaGreat
open Go.RowKit Go.Deep
set_option maxRecDepth 100000
set_option linter.unusedVariables false
set_option maxHeartbeats 16000000 in
theorem law_back9 (c : Cat) (As : Option Addr) (caps : Nat) (At : Option Addr) (capt : Nat) (An : Option Addr) (capn : Nat) (Am : Option Addr) (capm : Nat) (Ag : Option Addr) (capg : Nat) (g : Gra) (sg : SmG g) (w : World) (H : CatAt w c As caps At capt An capn Am capm Ag capg) :
    Calls Tryz.prog 8 #[.agg #[.int .i64 c.epoch, .int .i64 c.version, .slice As c.objs.schemas.length caps, .slice At c.objs.tables.length capt, .slice An c.rols.names.length capn, .slice Am c.rols.members.length capm, .slice Ag c.grants.length capg], .agg #[.string g.schema, .string g.table, .int .i64 g.right, .string g.giver, .string g.to, .bool g.opt]] w fun e w' => e = .returned (.bool true) ∧ Aft w w' := by
  obtain ⟨⟨X, ge⟩, hX0⟩ : ∃ F, giveR c g = F := ⟨_, rfl⟩
  have SMX := Lib.hid (show SmC X from by have := sm_giveR (c := c) (g := g) H.sm sg; rw [hX0] at this; exact this)
  have HG := Lib.hid (show ge = 0 → inG c.grants g = false → takeR X g = (c, 0) from fun h1 h2 => by
    have k := give_ok (c := c) (g := g) (by rw [hX0]; exact h1)
    rw [hX0] at k
    exact k.back h2)
  have C1 := Lib.hid (show ∀ V, CatAt V c As caps At capt An capn Am capm Ag capg → Calls Tryz.prog 35 #[.agg #[.int .i64 c.epoch, .int .i64 c.version, .slice As c.objs.schemas.length caps, .slice At c.objs.tables.length capt, .slice An c.rols.names.length capn, .slice Am c.rols.members.length capm, .slice Ag c.grants.length capg], .agg #[.string g.schema, .string g.table, .int .i64 g.right, .string g.giver, .string g.to, .bool g.opt]] V (ChgC V (X, ge)) from fun V a => hX0 ▸ giveG c As caps At capt An capn Am capm Ag capg g sg V a)
  have C2 := Lib.hid (show ∀ V As caps At capt An capn Am capm Ag capg, takeR X g = (c, 0) → CatAt V X As caps At capt An capn Am capm Ag capg → Calls Tryz.prog 39 #[.agg #[.int .i64 X.epoch, .int .i64 X.version, .slice As X.objs.schemas.length caps, .slice At X.objs.tables.length capt, .slice An X.rols.names.length capn, .slice Am X.rols.members.length capm, .slice Ag X.grants.length capg], .agg #[.string g.schema, .string g.table, .int .i64 g.right, .string g.giver, .string g.to, .bool g.opt]] V (ChgC V (c, 0)) from fun V As caps At capt An capn Am capm Ag capg he a => he ▸ takeG X As caps At capt An capn Am capm Ag capg g V a)
  have SM9 := Lib.hid (show ∀ V Bs bcs Bt bct Bn bcn Bm bcm Bg bcg, CatAt V c As caps At capt An capn Am capm Ag capg → CatAt V c Bs bcs Bt bct Bn bcn Bm bcm Bg bcg → Calls Tryz.prog 31 #[.agg #[.int .i64 c.epoch, .int .i64 c.version, .slice Bs c.objs.schemas.length bcs, .slice Bt c.objs.tables.length bct, .slice Bn c.rols.names.length bcn, .slice Bm c.rols.members.length bcm, .slice Bg c.grants.length bcg], .agg #[.int .i64 c.epoch, .int .i64 c.version, .slice As c.objs.schemas.length caps, .slice At c.objs.tables.length capt, .slice An c.rols.names.length capn, .slice Am c.rols.members.length capm, .slice Ag c.grants.length capg]] V fun e w' => e = .returned (.bool true) ∧ Aft V w' from fun V Bs bcs Bt bct Bn bcn Bm bcm Bg bcg a b => same9 c Bs bcs Bt bct Bn bcn Bm bcm Bg bcg As caps At capt An capn Am capm Ag capg V b a)
  clear hX0
  obtain ⟨W, hW⟩ : ∃ W, W = (w.alloc (.cells #[.int .i64 c.epoch, .int .i64 c.version, .slice As c.objs.schemas.length caps, .slice At c.objs.tables.length capt, .slice An c.rols.names.length capn, .slice Am c.rols.members.length capm, .slice Ag c.grants.length capg] 66)).alloc (.cells #[.string g.schema, .string g.table, .int .i64 g.right, .string g.giver, .string g.to, .bool g.opt] 76) := ⟨_, rfl⟩
  have aW : Aft w W := by rw [hW]; exact ((Aft.refl w).alloc _).alloc _
  have r0 : RowAt W (w.heap.size) [.int .i64 c.epoch, .int .i64 c.version, .slice As c.objs.schemas.length caps, .slice At c.objs.tables.length capt, .slice An c.rols.names.length capn, .slice Am c.rols.members.length capm, .slice Ag c.grants.length capg] := by rw [hW]; exact RowAt.up (box_at (Aft.refl _) (by simp))
  have r1 : RowAt W (w.heap.size + 1) [.string g.schema, .string g.table, .int .i64 g.right, .string g.giver, .string g.to, .bool g.opt] := by rw [hW]; exact box_at (Aft.refl _) (by simp)
  have l1 : w.heap.size < w.heap.size + 1 := by omega
  have l2 : w.heap.size < w.heap.size + 1 + 1 := by omega
  have l3 : w.heap.size + 1 < w.heap.size + 1 + 1 := by omega
  have HAW := Lib.hid aW
  have Bx0 := Lib.hid r0
  have By0 := Lib.hid r1
  have Kc0 := Lib.hid (H.aft aW)
  have HSM := Lib.hid H.sm
  have HSG := Lib.hid sg
  have CL := Lib.hid (large9 c As caps At capt An capn Am capm Ag capg W (H.aft aW))
  clear H sg
  obtain ⟨x0, x1, x2, x3, x4, x5, x6, xz⟩ := rowF7 Bx0.out
  obtain ⟨y0, y1, y2, y3, y4, y5, yz⟩ := rowF6 By0.out
  clear r0 r1 aW
  go_enter Tryz.func8, Tryz.ntmps8
  go_wp2_with fail
  rw [← hW]
  clear hW
  go_wp2_with fail
  refine CL.out.mono ?_
  rintro e w1 ⟨bg, rfl, _, a1⟩
  clear x0 x1 x2 x3 x4 x5 x6 xz y0 y1 y2 y3 y4 y5 yz 
  have Bx1 := Lib.hid (Bx0.out.aft a1)
  have By1 := Lib.hid (By0.out.aft a1)
  have Kc1 := Lib.hid (Kc0.out.aft a1)
  have AT1 := Lib.hid (HAW.out.trans a1)
  clear a1 CL
  obtain ⟨x0, x1, x2, x3, x4, x5, x6, xz⟩ := rowF7 Bx1.out
  obtain ⟨y0, y1, y2, y3, y4, y5, yz⟩ := rowF6 By1.out
  cases bg
  case true =>
    go_wp2_with fail
    go_ret
    exact ⟨rfl, AT1.out⟩
  clear x0 x1 x2 x3 x4 x5 x6 xz y0 y1 y2 y3 y4 y5 yz
  have HLQ := Lib.hid Kc1.out.gra.len
  have hlq := HLQ.out
  have AR := Lib.hid (Aft.refl w1)
  go_wp2_with fail
  go_loopw [5] (fun u5 wr => ∃ k : Nat, u5 = .int .i64 k ∧ k ≤ c.grants.length ∧ (∀ j (hj : j < c.grants.length), j < k → fiveE c.grants[j] g = false) ∧ Aft w1 wr) (fun u5 _ => c.grants.length - (intOf u5).toNat)
  case atStart => exact ⟨0, rfl, Nat.zero_le _, fun j _ h => absurd h (Nat.not_lt_zero j), AR.out⟩
  case round =>
    obtain ⟨k, rfl, hk, hnk, ax⟩ := hrel
    have HNK := Lib.hid hnk
    have AX9 := Lib.hid ax
    clear hnk
    have Rx9 := Lib.hid (Bx1.out.aft ax)
    have Ry9 := Lib.hid (By1.out.aft ax)
    have Sc9 := Lib.hid (Kc1.out.aft ax)
    have AT9 := Lib.hid (AT1.out.trans ax)
    clear ax
    obtain ⟨x0, x1, x2, x3, x4, x5, x6, xz⟩ := rowF7 Rx9.out
    obtain ⟨y0, y1, y2, y3, y4, y5, yz⟩ := rowF6 Ry9.out
    by_cases hlt : k < c.grants.length
    case neg =>
      have HIN := Lib.hid (show inG c.grants g = false from by
        unfold inG
        rw [List.any_eq_false]
        intro x hx
        obtain ⟨j, hj, rfl⟩ := List.getElem_of_mem hx
        rw [HNK.out j hj (by omega)]; simp)
      go_wp2_with fail
      refine (C1.out _ Sc9.out).mono ?_
      rintro e w2 ⟨hPs, hPt, hPn, hPm, hPg, LP, rfl, aw2, ciP⟩
      obtain ⟨Ps, nPs, Pcs⟩ := hPs
      obtain ⟨Pt, nPt, Pct⟩ := hPt
      obtain ⟨Pn, nPn, Pcn⟩ := hPn
      obtain ⟨Pm, nPm, Pcm⟩ := hPm
      obtain ⟨Pg, nPg, Pcg⟩ := hPg
      simp only [CatV]
      have KP0 := Lib.hid (show CatAt w2 X Ps Pcs Pt Pct Pn Pcn Pm Pcm Pg Pcg from ciP.at SMX.out)
      clear x0 x1 x2 x3 x4 x5 x6 xz y0 y1 y2 y3 y4 y5 yz 
      have Bx2 := Lib.hid (Rx9.out.aft aw2)
      have By2 := Lib.hid (Ry9.out.aft aw2)
      have Kc2 := Lib.hid (Sc9.out.aft aw2)
      have AT2 := Lib.hid (AT9.out.trans aw2)
      clear aw2 ciP
      obtain ⟨x0, x1, x2, x3, x4, x5, x6, xz⟩ := rowF7 Bx2.out
      obtain ⟨y0, y1, y2, y3, y4, y5, yz⟩ := rowF6 By2.out
      clear x0 x1 x2 x3 x4 x5 x6 xz y0 y1 y2 y3 y4 y5 yz 
      obtain ⟨X2, hX2⟩ : ∃ V, V = w2.alloc (.cells #[.int .i64 X.epoch, .int .i64 X.version, .slice Ps X.objs.schemas.length Pcs, .slice Pt X.objs.tables.length Pct, .slice Pn X.rols.names.length Pcn, .slice Pm X.rols.members.length Pcm, .slice Pg X.grants.length Pcg] 66) := ⟨_, rfl⟩
      have aX2 : Aft w2 X2 := by rw [hX2]; exact (Aft.refl _).alloc _
      have RX2 := Lib.hid (show RowAt X2 w2.heap.size [.int .i64 X.epoch, .int .i64 X.version, .slice Ps X.objs.schemas.length Pcs, .slice Pt X.objs.tables.length Pct, .slice Pn X.rols.names.length Pcn, .slice Pm X.rols.members.length Pcm, .slice Pg X.grants.length Pcg] by rw [hX2]; exact box_row2 (Aft.refl _))
      have Bx3 := Lib.hid (Bx2.out.aft aX2)
      have By3 := Lib.hid (By2.out.aft aX2)
      have Kc3 := Lib.hid (Kc2.out.aft aX2)
      have KP3 := Lib.hid (KP0.out.aft aX2)
      have AT3 := Lib.hid (AT2.out.trans aX2)
      obtain ⟨x0, x1, x2, x3, x4, x5, x6, xz⟩ := rowF7 Bx3.out
      obtain ⟨y0, y1, y2, y3, y4, y5, yz⟩ := rowF6 By3.out
      obtain ⟨p0, p1, p2, p3, p4, p5, p6, pz⟩ := rowF7 RX2.out
      rw [hX2] at x0 x1 x2 x3 x4 x5 x6 xz y0 y1 y2 y3 y4 y5 yz p0 p1 p2 p3 p4 p5 p6 pz
      by_cases hge : ge = 0
      case neg =>
        have hge2 : (ge == 0) = false := by simpa using hge
        have hge3 : (ge != 0) = true := by simp [hge]
        go_wp2_with fail
        rw [← hX2]
        clear x0 x1 x2 x3 x4 x5 x6 xz y0 y1 y2 y3 y4 y5 yz p0 p1 p2 p3 p4 p5 p6 pz hX2 aX2
        obtain ⟨x0, x1, x2, x3, x4, x5, x6, xz⟩ := rowF7 Bx3.out
        obtain ⟨y0, y1, y2, y3, y4, y5, yz⟩ := rowF6 By3.out
        obtain ⟨p0, p1, p2, p3, p4, p5, p6, pz⟩ := rowF7 RX2.out
        refine (gives9 X2).mono ?_
        rintro e v1 ⟨rfl, av1⟩
        clear x0 x1 x2 x3 x4 x5 x6 xz y0 y1 y2 y3 y4 y5 yz p0 p1 p2 p3 p4 p5 p6 pz 
        have Bx4 := Lib.hid (Bx3.out.aft av1)
        have By4 := Lib.hid (By3.out.aft av1)
        have Bp4 := Lib.hid (RX2.out.aft av1)
        have Kc4 := Lib.hid (Kc3.out.aft av1)
        have KP4 := Lib.hid (KP3.out.aft av1)
        have AT4 := Lib.hid (AT3.out.trans av1)
        clear av1 
        obtain ⟨x0, x1, x2, x3, x4, x5, x6, xz⟩ := rowF7 Bx4.out
        obtain ⟨y0, y1, y2, y3, y4, y5, yz⟩ := rowF6 By4.out
        obtain ⟨p0, p1, p2, p3, p4, p5, p6, pz⟩ := rowF7 Bp4.out
        go_wp2_with fail
        refine (takes9 v1).mono ?_
        rintro e v2 ⟨rfl, av2⟩
        clear x0 x1 x2 x3 x4 x5 x6 xz y0 y1 y2 y3 y4 y5 yz p0 p1 p2 p3 p4 p5 p6 pz 
        have Bx5 := Lib.hid (Bx4.out.aft av2)
        have By5 := Lib.hid (By4.out.aft av2)
        have Bp5 := Lib.hid (Bp4.out.aft av2)
        have Kc5 := Lib.hid (Kc4.out.aft av2)
        have KP5 := Lib.hid (KP4.out.aft av2)
        have AT5 := Lib.hid (AT4.out.trans av2)
        clear av2 
        obtain ⟨x0, x1, x2, x3, x4, x5, x6, xz⟩ := rowF7 Bx5.out
        obtain ⟨y0, y1, y2, y3, y4, y5, yz⟩ := rowF6 By5.out
        obtain ⟨p0, p1, p2, p3, p4, p5, p6, pz⟩ := rowF7 Bp5.out
        go_wp2_with fail
        go_ret
        exact ⟨rfl, AT5.out⟩
      subst hge
      have HE := Lib.hid (HG.out rfl HIN.out)
      go_wp2_with fail
      rw [← hX2]
      clear x0 x1 x2 x3 x4 x5 x6 xz y0 y1 y2 y3 y4 y5 yz p0 p1 p2 p3 p4 p5 p6 pz hX2 aX2
      obtain ⟨x0, x1, x2, x3, x4, x5, x6, xz⟩ := rowF7 Bx3.out
      obtain ⟨y0, y1, y2, y3, y4, y5, yz⟩ := rowF6 By3.out
      obtain ⟨p0, p1, p2, p3, p4, p5, p6, pz⟩ := rowF7 RX2.out
      go_wp2_with fail
      refine (C2.out _ _ _ _ _ _ _ _ _ _ _ HE.out KP3.out).mono ?_
      rintro e w3 ⟨hQs, hQt, hQn, hQm, hQg, LQ, rfl, aw3, ciQ⟩
      obtain ⟨Qs, nQs, Qcs⟩ := hQs
      obtain ⟨Qt, nQt, Qct⟩ := hQt
      obtain ⟨Qn, nQn, Qcn⟩ := hQn
      obtain ⟨Qm, nQm, Qcm⟩ := hQm
      obtain ⟨Qg, nQg, Qcg⟩ := hQg
      simp only [CatV]
      have KQ0 := Lib.hid (show CatAt w3 c Qs Qcs Qt Qct Qn Qcn Qm Qcm Qg Qcg from ciQ.at HSM.out)
      clear x0 x1 x2 x3 x4 x5 x6 xz y0 y1 y2 y3 y4 y5 yz p0 p1 p2 p3 p4 p5 p6 pz 
      have Bx4 := Lib.hid (Bx3.out.aft aw3)
      have By4 := Lib.hid (By3.out.aft aw3)
      have Bp4 := Lib.hid (RX2.out.aft aw3)
      have Kc4 := Lib.hid (Kc3.out.aft aw3)
      have KP4 := Lib.hid (KP3.out.aft aw3)
      have AT4 := Lib.hid (AT3.out.trans aw3)
      clear aw3 ciQ
      obtain ⟨x0, x1, x2, x3, x4, x5, x6, xz⟩ := rowF7 Bx4.out
      obtain ⟨y0, y1, y2, y3, y4, y5, yz⟩ := rowF6 By4.out
      obtain ⟨p0, p1, p2, p3, p4, p5, p6, pz⟩ := rowF7 Bp4.out
      clear x0 x1 x2 x3 x4 x5 x6 xz y0 y1 y2 y3 y4 y5 yz p0 p1 p2 p3 p4 p5 p6 pz 
      obtain ⟨X3, hX3⟩ : ∃ V, V = w3.alloc (.cells #[.int .i64 c.epoch, .int .i64 c.version, .slice Qs c.objs.schemas.length Qcs, .slice Qt c.objs.tables.length Qct, .slice Qn c.rols.names.length Qcn, .slice Qm c.rols.members.length Qcm, .slice Qg c.grants.length Qcg] 66) := ⟨_, rfl⟩
      have aX3 : Aft w3 X3 := by rw [hX3]; exact (Aft.refl _).alloc _
      have RX3 := Lib.hid (show RowAt X3 w3.heap.size [.int .i64 c.epoch, .int .i64 c.version, .slice Qs c.objs.schemas.length Qcs, .slice Qt c.objs.tables.length Qct, .slice Qn c.rols.names.length Qcn, .slice Qm c.rols.members.length Qcm, .slice Qg c.grants.length Qcg] by rw [hX3]; exact box_row2 (Aft.refl _))
      have Bx5 := Lib.hid (Bx4.out.aft aX3)
      have By5 := Lib.hid (By4.out.aft aX3)
      have Bp5 := Lib.hid (Bp4.out.aft aX3)
      have Kc5 := Lib.hid (Kc4.out.aft aX3)
      have KP5 := Lib.hid (KP4.out.aft aX3)
      have KQ5 := Lib.hid (KQ0.out.aft aX3)
      have AT5 := Lib.hid (AT4.out.trans aX3)
      obtain ⟨x0, x1, x2, x3, x4, x5, x6, xz⟩ := rowF7 Bx5.out
      obtain ⟨y0, y1, y2, y3, y4, y5, yz⟩ := rowF6 By5.out
      obtain ⟨p0, p1, p2, p3, p4, p5, p6, pz⟩ := rowF7 Bp5.out
      obtain ⟨q0, q1, q2, q3, q4, q5, q6, qz⟩ := rowF7 RX3.out
      rw [hX3] at x0 x1 x2 x3 x4 x5 x6 xz y0 y1 y2 y3 y4 y5 yz p0 p1 p2 p3 p4 p5 p6 pz q0 q1 q2 q3 q4 q5 q6 qz
      go_wp2_with fail
      rw [← hX3]
      clear x0 x1 x2 x3 x4 x5 x6 xz y0 y1 y2 y3 y4 y5 yz p0 p1 p2 p3 p4 p5 p6 pz q0 q1 q2 q3 q4 q5 q6 qz hX3 aX3
      obtain ⟨x0, x1, x2, x3, x4, x5, x6, xz⟩ := rowF7 Bx5.out
      obtain ⟨y0, y1, y2, y3, y4, y5, yz⟩ := rowF6 By5.out
      obtain ⟨p0, p1, p2, p3, p4, p5, p6, pz⟩ := rowF7 Bp5.out
      obtain ⟨q0, q1, q2, q3, q4, q5, q6, qz⟩ := rowF7 RX3.out
      refine (gives9 X3).mono ?_
      rintro e v1 ⟨rfl, av1⟩
      clear x0 x1 x2 x3 x4 x5 x6 xz y0 y1 y2 y3 y4 y5 yz p0 p1 p2 p3 p4 p5 p6 pz q0 q1 q2 q3 q4 q5 q6 qz 
      have Bx6 := Lib.hid (Bx5.out.aft av1)
      have By6 := Lib.hid (By5.out.aft av1)
      have Bp6 := Lib.hid (Bp5.out.aft av1)
      have Bq6 := Lib.hid (RX3.out.aft av1)
      have Kc6 := Lib.hid (Kc5.out.aft av1)
      have KP6 := Lib.hid (KP5.out.aft av1)
      have KQ6 := Lib.hid (KQ5.out.aft av1)
      have AT6 := Lib.hid (AT5.out.trans av1)
      clear av1 
      obtain ⟨x0, x1, x2, x3, x4, x5, x6, xz⟩ := rowF7 Bx6.out
      obtain ⟨y0, y1, y2, y3, y4, y5, yz⟩ := rowF6 By6.out
      obtain ⟨p0, p1, p2, p3, p4, p5, p6, pz⟩ := rowF7 Bp6.out
      obtain ⟨q0, q1, q2, q3, q4, q5, q6, qz⟩ := rowF7 Bq6.out
      go_wp2_with fail
      refine (takes9 v1).mono ?_
      rintro e v2 ⟨rfl, av2⟩
      clear x0 x1 x2 x3 x4 x5 x6 xz y0 y1 y2 y3 y4 y5 yz p0 p1 p2 p3 p4 p5 p6 pz q0 q1 q2 q3 q4 q5 q6 qz 
      have Bx7 := Lib.hid (Bx6.out.aft av2)
      have By7 := Lib.hid (By6.out.aft av2)
      have Bp7 := Lib.hid (Bp6.out.aft av2)
      have Bq7 := Lib.hid (Bq6.out.aft av2)
      have Kc7 := Lib.hid (Kc6.out.aft av2)
      have KP7 := Lib.hid (KP6.out.aft av2)
      have KQ7 := Lib.hid (KQ6.out.aft av2)
      have AT7 := Lib.hid (AT6.out.trans av2)
      clear av2 
      obtain ⟨x0, x1, x2, x3, x4, x5, x6, xz⟩ := rowF7 Bx7.out
      obtain ⟨y0, y1, y2, y3, y4, y5, yz⟩ := rowF6 By7.out
      obtain ⟨p0, p1, p2, p3, p4, p5, p6, pz⟩ := rowF7 Bp7.out
      obtain ⟨q0, q1, q2, q3, q4, q5, q6, qz⟩ := rowF7 Bq7.out
      go_wp2_with fail
      refine (SM9.out _ _ _ _ _ _ _ _ _ _ _ Kc7.out KQ7.out).mono ?_
      rintro e v3 ⟨rfl, av3⟩
      clear x0 x1 x2 x3 x4 x5 x6 xz y0 y1 y2 y3 y4 y5 yz p0 p1 p2 p3 p4 p5 p6 pz q0 q1 q2 q3 q4 q5 q6 qz 
      have Bx8 := Lib.hid (Bx7.out.aft av3)
      have By8 := Lib.hid (By7.out.aft av3)
      have Bp8 := Lib.hid (Bp7.out.aft av3)
      have Bq8 := Lib.hid (Bq7.out.aft av3)
      have Kc8 := Lib.hid (Kc7.out.aft av3)
      have KP8 := Lib.hid (KP7.out.aft av3)
      have KQ8 := Lib.hid (KQ7.out.aft av3)
      have AT8 := Lib.hid (AT7.out.trans av3)
      clear av3 
      obtain ⟨x0, x1, x2, x3, x4, x5, x6, xz⟩ := rowF7 Bx8.out
      obtain ⟨y0, y1, y2, y3, y4, y5, yz⟩ := rowF6 By8.out
      obtain ⟨p0, p1, p2, p3, p4, p5, p6, pz⟩ := rowF7 Bp8.out
      obtain ⟨q0, q1, q2, q3, q4, q5, q6, qz⟩ := rowF7 Bq8.out
      go_wp2_with fail
      go_ret
      exact ⟨rfl, AT8.out⟩
    obtain ⟨b, off, hb0, hb, t0, t1, t2, t3, t4, t5, _⟩ := gra_at Sc9.out.gra hlt
    subst hb0
    obtain ⟨y, hy⟩ : ∃ y, c.grants[k] = y := ⟨_, rfl⟩
    rw [hy] at t0 t1 t2 t3 t4 t5
    have HY := Lib.hid hy
    clear hy
    cases hff : fiveE y g
    case false =>
      have hfv := five_no hff
      have HNX := Lib.hid (show ∀ j (hj : j < c.grants.length), j < k + 1 → fiveE c.grants[j] g = false from fun j hj h => by
        rcases Nat.lt_or_ge j k with h1 | h1
        · exact HNK.out j hj h1
        · have : j = k := by omega
          subst this
          rw [HY.out]; exact hff)
      clear hff
      rcases hfv with e0 | ⟨e0, e1⟩ | ⟨e0, e1, e2⟩ | ⟨e0, e1, e2, e3⟩ | ⟨e0, e1, e2, e3, e4⟩
      all_goals
        go_wp2_with fail
        go_roundw
        case rel => exact ⟨k + 1, by go_num, by omega, HNX.out, AX9.out.alloc _⟩
        case measure => simp [intOf]; omega
    case true =>
      obtain ⟨e0, e1, e2, e3, e4⟩ := five_yes hff
      clear hff
      go_wp2_with fail
      refine (gives9 _).mono ?_
      rintro e v1 ⟨rfl, av1⟩
      have AV1 := Lib.hid ((AT9.out.alloc _).trans av1)
      clear av1
      go_wp2_with fail
      go_ret
      exact ⟨rfl, AV1.out⟩
end Go.Proofs.YtlklmekapbojdaaGreat

