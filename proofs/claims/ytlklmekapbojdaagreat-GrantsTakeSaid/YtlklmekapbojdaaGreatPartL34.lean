/- Contracts of the program, part 34. -/
import Derived.Deep.RegionLaw
import Derived.Deep.RegionHeld3
import Derived.Deep.AppendLies
import Derived.WalkMore
import Derived.Deep.DeepMust
import Derived.OwnWalk
import Derived.Laws.AppendOwn
import Derived.ProofKit
import Derived.OpenShut
import Derived.Deep.Slices
import Derived.ChangeOld
import Derived.SizedLaws
import Derived.WalkKit
import Derived.WalkSpells
import Derived.WalkLawsBesides
import Derived.Lib.Hide
import Derived.Deep.QuietTactic
import Derived.BigQuiet
import Derived.Below
import Derived.Deep.Draws
import Derived.StillTailTactics
import Derived.Laws.Cells
import Derived.Laws.IdiomCopy
import Derived.Test.YtlklmekapbojdaaGreatRows
import Derived.Lib.Walk
import Derived.Laws.EntriesVeiled
import Derived.Maps.Own
import Derived.Maps.Views
import Derived.Deep.Upon
import Derived.OneCell
import Derived.OrdersHeld
import Derived.IntWalk
import Derived.Lib.Bytealg
import Derived.Lib.SliceRun
import Derived.Lib.AppendZerosOnto
import Derived.Lib.Overlaps
import Derived.Shelf.SlSortCmp.WholeK
import Derived.Laws.StructEq
import Derived.WideKeyEntry
import Derived.DeepKeys3
import Derived.ChangeKeys
import Derived.Test.YtlklmekapbojdaaGreatPartL1
import Derived.Test.YtlklmekapbojdaaGreatPartL2
import Derived.Test.YtlklmekapbojdaaGreatPartL3
import Derived.Test.YtlklmekapbojdaaGreatPartL4
import Derived.Test.YtlklmekapbojdaaGreatPartL5
import Derived.Test.YtlklmekapbojdaaGreatPartL6
import Derived.Test.YtlklmekapbojdaaGreatPartL7
import Derived.Test.YtlklmekapbojdaaGreatPartL8
import Derived.Test.YtlklmekapbojdaaGreatPartL9
import Derived.Test.YtlklmekapbojdaaGreatPartL10
import Derived.Test.YtlklmekapbojdaaGreatPartL12
import Derived.Test.YtlklmekapbojdaaGreatPartL13
import Derived.Test.YtlklmekapbojdaaGreatPartL14
import Derived.Test.YtlklmekapbojdaaGreatPartL15
import Derived.Test.YtlklmekapbojdaaGreatPartL16
import Derived.Test.YtlklmekapbojdaaGreatPartL17
import Derived.Test.YtlklmekapbojdaaGreatPartL19
import Derived.Test.YtlklmekapbojdaaGreatPartL20
import Derived.Test.YtlklmekapbojdaaGreatPartL21
import Derived.Test.YtlklmekapbojdaaGreatPartL22
import Derived.Test.YtlklmekapbojdaaGreatPartL23
import Derived.Test.YtlklmekapbojdaaGreatPartL24
import Derived.Test.YtlklmekapbojdaaGreatPartL27
namespace Go.Proofs.YtlklmekapbojdaaGreat
open Go.RowKit Go.Deep
set_option maxRecDepth 100000
set_option linter.unusedVariables false
theorem sm_less {c : Cat} (h : SmC c) (g : Gra) : SmC { c with grants := lessG c.grants g } := ⟨h.1, h.2.1, by have := h.2.2.1; have := (lessG_sub c.grants g).length_le; unfold Small at *; show (lessG c.grants g).length * 16 ≤ _; omega, fun x hx => h.2.2.2 x ((lessG_sub c.grants g).subset hx)⟩
theorem lessG_snoc {l : List Gra} {g : Gra} {k : Nat} (hk : k < l.length) : lessG (l.take (k + 1)) g = lessG (l.take k) g ++ (if fiveE l[k] g then [] else [l[k]]) := by
  unfold lessG
  rw [filter_snoc8 hk]
  cases fiveE l[k] g <;> rfl
set_option maxHeartbeats 16000000 in
theorem rtake9 (c : Cat) (As : Option Addr) (caps : Nat) (At : Option Addr) (capt : Nat) (An : Option Addr) (capn : Nat) (Am : Option Addr) (capm : Nat) (Ag : Option Addr) (capg : Nat) (g : Gra) (sg : SmG g) (w : World) (H : CatAt w c As caps At capt An capn Am capm Ag capg) :
    Calls Tryz.prog 40 #[.agg #[.int .i64 c.epoch, .int .i64 c.version, .slice As c.objs.schemas.length caps, .slice At c.objs.tables.length capt, .slice An c.rols.names.length capn, .slice Am c.rols.members.length capm, .slice Ag c.grants.length capg], .agg #[.string g.schema, .string g.table, .int .i64 g.right, .string g.giver, .string g.to, .bool g.opt]] w (ChgC w (takeR c g)) := by
  have l1 : w.heap.size < w.heap.size + 1 := by omega
  have l2 : w.heap.size < w.heap.size + 1 + 1 := by omega
  have l3 : w.heap.size < w.heap.size + 1 + 1 + 1 := by omega
  have l4 : w.heap.size + 1 < w.heap.size + 1 + 1 + 1 := by omega
  obtain ⟨W, hW⟩ : ∃ W, W = ((w.alloc (.cells #[.int .i64 c.epoch, .int .i64 c.version, .slice As c.objs.schemas.length caps, .slice At c.objs.tables.length capt, .slice An c.rols.names.length capn, .slice Am c.rols.members.length capm, .slice Ag c.grants.length capg] 66)).alloc (.cells #[.string g.schema, .string g.table, .int .i64 g.right, .string g.giver, .string g.to, .bool g.opt] 76)).alloc (.cells #[.int .i64 0, .int .i64 0, .slice none 0 0, .slice none 0 0, .slice none 0 0, .slice none 0 0, .slice none 0 0] 66) := ⟨_, rfl⟩
  have aW : Aft w W := by rw [hW]; exact (((Aft.refl w).alloc _).alloc _).alloc _
  have r0 : RowAt W (w.heap.size) [.int .i64 c.epoch, .int .i64 c.version, .slice As c.objs.schemas.length caps, .slice At c.objs.tables.length capt, .slice An c.rols.names.length capn, .slice Am c.rols.members.length capm, .slice Ag c.grants.length capg] := by rw [hW]; exact RowAt.up (RowAt.up (box_at (Aft.refl _) (by simp)))
  have r1 : RowAt W (w.heap.size + 1) [.string g.schema, .string g.table, .int .i64 g.right, .string g.giver, .string g.to, .bool g.opt] := by rw [hW]; exact RowAt.up (box_at (Aft.refl _) (by simp))
  have r2 : RowAt W (w.heap.size + 1 + 1) [.int .i64 0, .int .i64 0, .slice none 0 0, .slice none 0 0, .slice none 0 0, .slice none 0 0, .slice none 0 0] := by rw [hW]; exact box_at (Aft.refl _) (by simp)
  have HAW := Lib.hid aW
  have HZW := Lib.hid (show W.heap.size = w.heap.size + 3 by rw [hW]; simp)
  have Bx0 := Lib.hid r0
  have By0 := Lib.hid r1
  have Bu0 := Lib.hid r2
  have Kc0 := Lib.hid (H.aft aW)
  have HSM := Lib.hid H.sm
  have HSG := Lib.hid sg
  obtain ⟨p, hp⟩ : ∃ p, wholeB c = p := ⟨_, rfl⟩
  obtain ⟨q, hq⟩ : ∃ q, inG c.grants g = q := ⟨_, rfl⟩
  have HRES := Lib.hid (show takeR c g = if !p then (noC, 1) else if !q then (noC, 80) else ({ c with grants := holdL { c with grants := lessG c.grants g } }, 0) from by unfold takeR; rw [hp, hq])
  have HPW := Lib.hid hp
  have C1 := Lib.hid (show Calls Tryz.prog 77 #[.agg #[.int .i64 c.epoch, .int .i64 c.version, .slice As c.objs.schemas.length caps, .slice At c.objs.tables.length capt, .slice An c.rols.names.length capn, .slice Am c.rols.members.length capm, .slice Ag c.grants.length capg]] W fun e w'' => e = .returned (.bool p) ∧ Aft W w'' from (rwhole c As caps At capt An capn Am capm Ag capg W (H.aft aW)).mono fun e w'' ⟨he, hw⟩ => ⟨he.trans (by rw [hp]), hw⟩)
  have C2 := Lib.hid (show ∀ V, Aft W V → Calls Tryz.prog 94 #[.slice Ag c.grants.length capg, .agg #[.string g.schema, .string g.table, .int .i64 g.right, .string g.giver, .string g.to, .bool g.opt]] V fun e w'' => e = .returned (.bool q) ∧ Aft V w'' from fun V a => hq ▸ rin9 c.grants Ag capg g V (gras_aft (aW.trans a) H.gra))
  have C3 := Lib.hid (show ∀ V, Aft W V → p = true → Calls Tryz.prog 28 #[.agg #[.int .i64 c.epoch, .int .i64 c.version, .slice As c.objs.schemas.length caps, .slice At c.objs.tables.length capt, .slice An c.rols.names.length capn, .slice Am c.rols.members.length capm, .slice Ag c.grants.length capg]] V (OwnP9 c V) from fun V a h => by
    obtain ⟨h64, ⟨hck, hrr, _, _⟩, _, _⟩ := stands_iff.1 (whole_iff.1 (hp.trans h)).1
    have hrl := rightR_len hrr
    exact own9 c As caps At capt An capn Am capm Ag capg V (H.aft (aW.trans a)) (check_mod hck) (by omega) (by omega) (by omega))
  have HAR := Lib.hid (Aft.refl W)
  clear H sg hp hq
  obtain ⟨x0, x1, x2, x3, x4, x5, x6, xz⟩ := rowF7 Bx0.out
  obtain ⟨y0, y1, y2, y3, y4, y5, yz⟩ := rowF6 By0.out
  have u0 := Bu0.out.cell (j := 0) rfl
  have uf0 := Bu0.out.2.2 0 (by simp)
  have u1 := Bu0.out.cell (j := 1) rfl
  have uf1 := Bu0.out.2.2 1 (by simp)
  have u2 := Bu0.out.cell (j := 2) rfl
  have uf2 := Bu0.out.2.2 2 (by simp)
  have u3 := Bu0.out.cell (j := 3) rfl
  have uf3 := Bu0.out.2.2 3 (by simp)
  have u4 := Bu0.out.cell (j := 4) rfl
  have uf4 := Bu0.out.2.2 4 (by simp)
  have u5 := Bu0.out.cell (j := 5) rfl
  have uf5 := Bu0.out.2.2 5 (by simp)
  have u6 := Bu0.out.cell (j := 6) rfl
  have uf6 := Bu0.out.2.2 6 (by simp)
  have uz := Bu0.out.1
  clear r0 r1 r2 aW
  go_enter Tryz.func40, Tryz.ntmps40
  go_wp2_with fail
  rw [← hW]
  clear hW
  go_wp2_with fail
  refine C1.out.mono ?_
  rintro e w1 ⟨rfl, a1⟩
  have A1 := Lib.hid a1
  clear x0 x1 x2 x3 x4 x5 x6 xz y0 y1 y2 y3 y4 y5 yz u0 uf0 u1 uf1 u2 uf2 u3 uf3 u4 uf4 u5 uf5 u6 uf6 uz 
  have Bx1 := Lib.hid (Bx0.out.aft a1)
  have By1 := Lib.hid (By0.out.aft a1)
  have Bu1 := Lib.hid (Bu0.out.aft a1)
  have Kc1 := Lib.hid (Kc0.out.aft a1)
  have AT1 := Lib.hid (HAW.out.trans a1)
  clear a1 C1
  obtain ⟨x0, x1, x2, x3, x4, x5, x6, xz⟩ := rowF7 Bx1.out
  obtain ⟨y0, y1, y2, y3, y4, y5, yz⟩ := rowF6 By1.out
  cases p
  case false =>
    go_wp2_with fail
    refine (rno9 _ _).mono ?_
    rintro e v9 ⟨rfl, b9⟩
    have HV9 := Lib.hid (AT1.out.trans b9)
    have HU9 := Lib.hid (Bu1.out.aft b9)
    have u0 : v9.cell? ⟨w.heap.size + 1 + 1, 0, none⟩ = some (.int .i64 0) := HU9.out.cell (j := 0) rfl
    have uf0 : v9.frozen? ⟨w.heap.size + 1 + 1, 0, none⟩ = false := HU9.out.2.2 0 (by simp [CatL])
    have u1 : v9.cell? ⟨w.heap.size + 1 + 1, 1, none⟩ = some (.int .i64 0) := HU9.out.cell (j := 1) rfl
    have uf1 : v9.frozen? ⟨w.heap.size + 1 + 1, 1, none⟩ = false := HU9.out.2.2 1 (by simp [CatL])
    have u2 : v9.cell? ⟨w.heap.size + 1 + 1, 2, none⟩ = some (.slice none 0 0) := HU9.out.cell (j := 2) rfl
    have uf2 : v9.frozen? ⟨w.heap.size + 1 + 1, 2, none⟩ = false := HU9.out.2.2 2 (by simp [CatL])
    have u3 : v9.cell? ⟨w.heap.size + 1 + 1, 3, none⟩ = some (.slice none 0 0) := HU9.out.cell (j := 3) rfl
    have uf3 : v9.frozen? ⟨w.heap.size + 1 + 1, 3, none⟩ = false := HU9.out.2.2 3 (by simp [CatL])
    have u4 : v9.cell? ⟨w.heap.size + 1 + 1, 4, none⟩ = some (.slice none 0 0) := HU9.out.cell (j := 4) rfl
    have uf4 : v9.frozen? ⟨w.heap.size + 1 + 1, 4, none⟩ = false := HU9.out.2.2 4 (by simp [CatL])
    have u5 : v9.cell? ⟨w.heap.size + 1 + 1, 5, none⟩ = some (.slice none 0 0) := HU9.out.cell (j := 5) rfl
    have uf5 : v9.frozen? ⟨w.heap.size + 1 + 1, 5, none⟩ = false := HU9.out.2.2 5 (by simp [CatL])
    have u6 : v9.cell? ⟨w.heap.size + 1 + 1, 6, none⟩ = some (.slice none 0 0) := HU9.out.cell (j := 6) rfl
    have uf6 : v9.frozen? ⟨w.heap.size + 1 + 1, 6, none⟩ = false := HU9.out.2.2 6 (by simp [CatL])
    have uz : w.heap.size + 1 + 1 < v9.heap.size := HU9.out.1
    clear b9
    go_wp2_with fail
    refine bodyPost_ret (results_cell_tmp (v := .agg #[.int .i64 0, .int .i64 0, .slice none 0 0, .slice none 0 0, .slice none 0 0, .slice none 0 0, .slice none 0 0]) rfl _ rfl (lvCat_row (setC_row HU9.out rfl _ _ _ _ _ _ _))) rfl ?_
    rw [show takeR c g = (noC, 1) from by rw [HRES.out]; simp [*]]
    exact chgC_no ((setC_kb _ _ _ _ _ _ _ _ _).to_aft HV9.out (fun g hg e => by omega))
  go_wp2_with fail
  refine (C2.out w1 A1.out).mono ?_
  rintro e w2 ⟨rfl, a2⟩
  have A2 := Lib.hid (A1.out.trans a2)
  clear x0 x1 x2 x3 x4 x5 x6 xz y0 y1 y2 y3 y4 y5 yz 
  have Bx2 := Lib.hid (Bx1.out.aft a2)
  have By2 := Lib.hid (By1.out.aft a2)
  have Bu2 := Lib.hid (Bu1.out.aft a2)
  have Kc2 := Lib.hid (Kc1.out.aft a2)
  have AT2 := Lib.hid (AT1.out.trans a2)
  clear a2 C2
  obtain ⟨x0, x1, x2, x3, x4, x5, x6, xz⟩ := rowF7 Bx2.out
  obtain ⟨y0, y1, y2, y3, y4, y5, yz⟩ := rowF6 By2.out
  cases q
  case false =>
    go_wp2_with fail
    refine (rno9 _ _).mono ?_
    rintro e v9 ⟨rfl, b9⟩
    have HV9 := Lib.hid (AT2.out.trans b9)
    have HU9 := Lib.hid (Bu2.out.aft b9)
    have u0 : v9.cell? ⟨w.heap.size + 1 + 1, 0, none⟩ = some (.int .i64 0) := HU9.out.cell (j := 0) rfl
    have uf0 : v9.frozen? ⟨w.heap.size + 1 + 1, 0, none⟩ = false := HU9.out.2.2 0 (by simp [CatL])
    have u1 : v9.cell? ⟨w.heap.size + 1 + 1, 1, none⟩ = some (.int .i64 0) := HU9.out.cell (j := 1) rfl
    have uf1 : v9.frozen? ⟨w.heap.size + 1 + 1, 1, none⟩ = false := HU9.out.2.2 1 (by simp [CatL])
    have u2 : v9.cell? ⟨w.heap.size + 1 + 1, 2, none⟩ = some (.slice none 0 0) := HU9.out.cell (j := 2) rfl
    have uf2 : v9.frozen? ⟨w.heap.size + 1 + 1, 2, none⟩ = false := HU9.out.2.2 2 (by simp [CatL])
    have u3 : v9.cell? ⟨w.heap.size + 1 + 1, 3, none⟩ = some (.slice none 0 0) := HU9.out.cell (j := 3) rfl
    have uf3 : v9.frozen? ⟨w.heap.size + 1 + 1, 3, none⟩ = false := HU9.out.2.2 3 (by simp [CatL])
    have u4 : v9.cell? ⟨w.heap.size + 1 + 1, 4, none⟩ = some (.slice none 0 0) := HU9.out.cell (j := 4) rfl
    have uf4 : v9.frozen? ⟨w.heap.size + 1 + 1, 4, none⟩ = false := HU9.out.2.2 4 (by simp [CatL])
    have u5 : v9.cell? ⟨w.heap.size + 1 + 1, 5, none⟩ = some (.slice none 0 0) := HU9.out.cell (j := 5) rfl
    have uf5 : v9.frozen? ⟨w.heap.size + 1 + 1, 5, none⟩ = false := HU9.out.2.2 5 (by simp [CatL])
    have u6 : v9.cell? ⟨w.heap.size + 1 + 1, 6, none⟩ = some (.slice none 0 0) := HU9.out.cell (j := 6) rfl
    have uf6 : v9.frozen? ⟨w.heap.size + 1 + 1, 6, none⟩ = false := HU9.out.2.2 6 (by simp [CatL])
    have uz : w.heap.size + 1 + 1 < v9.heap.size := HU9.out.1
    clear b9
    go_wp2_with fail
    refine bodyPost_ret (results_cell_tmp (v := .agg #[.int .i64 0, .int .i64 0, .slice none 0 0, .slice none 0 0, .slice none 0 0, .slice none 0 0, .slice none 0 0]) rfl _ rfl (lvCat_row (setC_row HU9.out rfl _ _ _ _ _ _ _))) rfl ?_
    rw [show takeR c g = (noC, 80) from by rw [HRES.out]; simp [*]]
    exact chgC_no ((setC_kb _ _ _ _ _ _ _ _ _).to_aft HV9.out (fun g hg e => by omega))
  have HT := Lib.hid (show takeR c g = ({ c with grants := holdL { c with grants := lessG c.grants g } }, 0) from HRES.out)
  have CO := Lib.hid (C3.out w2 A2.out (by simp))
  have hg64 : c.grants.length ≤ 64 := (stands_iff.1 (whole_iff.1 HPW.out).1).1
  clear HRES C3
  go_wp2_with fail
  refine CO.out.mono ?_
  rintro e w3 ⟨hs, ht, hn, hm, hg, L, rfl, a3, ci⟩
  obtain ⟨Bs, nBs, bcs⟩ := hs
  obtain ⟨Bt, nBt, bct⟩ := ht
  obtain ⟨Bn, nBn, bcn⟩ := hn
  obtain ⟨Bm, nBm, bcm⟩ := hm
  obtain ⟨Bg, nBg, bcg⟩ := hg
  simp only [CatV]
  have CI3 := Lib.hid ci
  have S23 := Lib.hid a3.size
  have HU2 := Lib.hid Bu2.out
  have S3W := Lib.hid (show w.heap.size + 1 + 1 < w3.heap.size from Nat.lt_of_lt_of_le Bu2.out.1 a3.size)
  clear x0 x1 x2 x3 x4 x5 x6 xz y0 y1 y2 y3 y4 y5 yz 
  have Bx3 := Lib.hid (Bx2.out.aft a3)
  have By3 := Lib.hid (By2.out.aft a3)
  have Bu3 := Lib.hid (Bu2.out.aft a3)
  have Kc3 := Lib.hid (Kc2.out.aft a3)
  have AT3 := Lib.hid (AT2.out.trans a3)
  clear a3 CO ci
  obtain ⟨x0, x1, x2, x3, x4, x5, x6, xz⟩ := rowF7 Bx3.out
  obtain ⟨y0, y1, y2, y3, y4, y5, yz⟩ := rowF6 By3.out

  clear x0 x1 x2 x3 x4 x5 x6 xz y0 y1 y2 y3 y4 y5 yz 
  obtain ⟨X, hX⟩ : ∃ V, V = w3.alloc (.cells #[.int .i64 c.epoch, .int .i64 c.version, .slice Bs c.objs.schemas.length bcs, .slice Bt c.objs.tables.length bct, .slice Bn c.rols.names.length bcn, .slice Bm c.rols.members.length bcm, .slice Bg c.grants.length bcg] 66) := ⟨_, rfl⟩
  have aX : Aft w3 X := by rw [hX]; exact (Aft.refl _).alloc _
  have RX := Lib.hid (show RowAt X w3.heap.size [.int .i64 c.epoch, .int .i64 c.version, .slice Bs c.objs.schemas.length bcs, .slice Bt c.objs.tables.length bct, .slice Bn c.rols.names.length bcn, .slice Bm c.rols.members.length bcm, .slice Bg c.grants.length bcg] by rw [hX]; exact box_row2 (Aft.refl _))
  have Bx4 := Lib.hid (Bx3.out.aft aX)
  have By4 := Lib.hid (By3.out.aft aX)
  have Bu4 := Lib.hid (Bu3.out.aft aX)
  have Kc4 := Lib.hid (Kc3.out.aft aX)
  have AT4 := Lib.hid (AT3.out.trans aX)
  obtain ⟨x0, x1, x2, x3, x4, x5, x6, xz⟩ := rowF7 Bx4.out
  obtain ⟨y0, y1, y2, y3, y4, y5, yz⟩ := rowF6 By4.out
  rw [hX] at x0 x1 x2 x3 x4 x5 x6 xz y0 y1 y2 y3 y4 y5 yz
  have OX := Lib.hid (show OutAt X w2.heap.size w3.heap.size c ⟨Bs, nBs, bcs⟩ ⟨Bt, nBt, bct⟩ ⟨Bn, nBn, bcn⟩ ⟨Bm, nBm, bcm⟩ ⟨Bg, nBg, bcg⟩ L from OutAt.new CI3.out hX)
  have SX := Lib.hid (show w2.heap.size ≤ X.heap.size ∧ w.heap.size + 1 + 1 < w2.heap.size from ⟨by rw [hX]; simp; have := S23.out; omega, HU2.out.1⟩)
  go_wp2_with fail
  rw [← hX]
  clear hX aX x0 x1 x2 x3 x4 x5 x6 xz y0 y1 y2 y3 y4 y5 yz
  go_loopw [7, 8] (fun u7 u8 wr => ∃ (k : Nat) (hd : Hd), u7 = .slice hd.a (lessG (c.grants.take k) g).length hd.c ∧ u8 = .int .i64 k ∧ k ≤ c.grants.length ∧ GrG X wr hd (lessG (c.grants.take k) g)) (fun _ u8 _ => c.grants.length - (intOf u8).toNat)
  case atStart => exact ⟨0, ⟨none, 0, 0⟩, rfl, rfl, Nat.zero_le _, GrG.start X⟩
  case round =>
    obtain ⟨k, hd, rfl, rfl, hk, hgr⟩ := hrel
    have HG := Lib.hid hgr
    have ax := hgr.1
    obtain ⟨x0, x1, x2, x3, x4, x5, x6, xz⟩ := rowF7 (Bx4.out.aft ax)
    obtain ⟨y0, y1, y2, y3, y4, y5, yz⟩ := rowF6 (By4.out.aft ax)
    by_cases hlt : k < c.grants.length
    case neg =>
      have hkl : c.grants.take k = c.grants := List.take_of_length_le (by omega)
      rw [hkl] at HG ⊢
      obtain ⟨l', hl'⟩ : ∃ l', lessG c.grants g = l' := ⟨_, rfl⟩
      obtain ⟨D, nD, dc⟩ := hd
      have HTL := Lib.hid (show takeR c g = ({ c with grants := holdL { c with grants := l' } }, 0) from by rw [← hl']; exact HT.out)
      have SM2 := Lib.hid (show SmC { c with grants := l' } from by rw [← hl']; exact sm_less HSM.out g)
      rw [hl'] at HG ⊢
      obtain ⟨Y, hY⟩ : ∃ V, V = wr.setCell ⟨w3.heap.size, 6, none⟩ (.slice D l'.length dc) := ⟨_, rfl⟩
      have OY := Lib.hid (show OutAt Y w2.heap.size w3.heap.size { c with grants := l' } ⟨Bs, nBs, bcs⟩ ⟨Bt, nBt, bct⟩ ⟨Bn, nBn, bcn⟩ ⟨Bm, nBm, bcm⟩ ⟨D, nD, dc⟩ L from by rw [hY]; exact OX.out.new_row SX.out.1 HG.out.1 HG.out.2)
      have kY : Kb (fun g => g = w3.heap.size) wr Y := by rw [hY]; exact Kb.set _ _ _ _
      have AY := Lib.hid (kY.to_aft (AT4.out.trans HG.out.1) (fun k hk e => by have e : k = _ := e; have := S3W.out; omega))
      have UY := Lib.hid (kY.row (Bu4.out.aft HG.out.1) (by have := S3W.out; omega))
      have CH := Lib.hid (show Calls Tryz.prog 101 #[.agg #[.int .i64 c.epoch, .int .i64 c.version, .slice Bs c.objs.schemas.length bcs, .slice Bt c.objs.tables.length bct, .slice Bn c.rols.names.length bcn, .slice Bm c.rols.members.length bcm, .slice D l'.length dc]] Y (HoldP Y { c with grants := l' }) from rhold { c with grants := l' } Bs bcs Bt bct Bn bcn Bm bcm D dc Y (OY.out.cat.at SM2.out))
      have oz := (OX.out.aft HG.out.1).row
      have s0 : wr.cell? ⟨w3.heap.size, 0, none⟩ = some (.int .i64 c.epoch) := oz.cell (j := 0) rfl
      have sf0 : wr.frozen? ⟨w3.heap.size, 0, none⟩ = false := oz.2.2 0 (by simp [CatL])
      have s1 : wr.cell? ⟨w3.heap.size, 1, none⟩ = some (.int .i64 c.version) := oz.cell (j := 1) rfl
      have sf1 : wr.frozen? ⟨w3.heap.size, 1, none⟩ = false := oz.2.2 1 (by simp [CatL])
      have s2 : wr.cell? ⟨w3.heap.size, 2, none⟩ = some (.slice Bs c.objs.schemas.length bcs) := oz.cell (j := 2) rfl
      have sf2 : wr.frozen? ⟨w3.heap.size, 2, none⟩ = false := oz.2.2 2 (by simp [CatL])
      have s3 : wr.cell? ⟨w3.heap.size, 3, none⟩ = some (.slice Bt c.objs.tables.length bct) := oz.cell (j := 3) rfl
      have sf3 : wr.frozen? ⟨w3.heap.size, 3, none⟩ = false := oz.2.2 3 (by simp [CatL])
      have s4 : wr.cell? ⟨w3.heap.size, 4, none⟩ = some (.slice Bn c.rols.names.length bcn) := oz.cell (j := 4) rfl
      have sf4 : wr.frozen? ⟨w3.heap.size, 4, none⟩ = false := oz.2.2 4 (by simp [CatL])
      have s5 : wr.cell? ⟨w3.heap.size, 5, none⟩ = some (.slice Bm c.rols.members.length bcm) := oz.cell (j := 5) rfl
      have sf5 : wr.frozen? ⟨w3.heap.size, 5, none⟩ = false := oz.2.2 5 (by simp [CatL])
      have s6 : wr.cell? ⟨w3.heap.size, 6, none⟩ = some (.slice Bg c.grants.length bcg) := oz.cell (j := 6) rfl
      have sf6 : wr.frozen? ⟨w3.heap.size, 6, none⟩ = false := oz.2.2 6 (by simp [CatL])
      have sz : w3.heap.size < wr.heap.size := oz.1
      have q0 : Y.cell? ⟨w3.heap.size, 0, none⟩ = some (.int .i64 c.epoch) := OY.out.row.cell (j := 0) rfl
      have q1 : Y.cell? ⟨w3.heap.size, 1, none⟩ = some (.int .i64 c.version) := OY.out.row.cell (j := 1) rfl
      have q2 : Y.cell? ⟨w3.heap.size, 2, none⟩ = some (.slice Bs c.objs.schemas.length bcs) := OY.out.row.cell (j := 2) rfl
      have q3 : Y.cell? ⟨w3.heap.size, 3, none⟩ = some (.slice Bt c.objs.tables.length bct) := OY.out.row.cell (j := 3) rfl
      have q4 : Y.cell? ⟨w3.heap.size, 4, none⟩ = some (.slice Bn c.rols.names.length bcn) := OY.out.row.cell (j := 4) rfl
      have q5 : Y.cell? ⟨w3.heap.size, 5, none⟩ = some (.slice Bm c.rols.members.length bcm) := OY.out.row.cell (j := 5) rfl
      have q6 : Y.cell? ⟨w3.heap.size, 6, none⟩ = some (.slice D l'.length dc) := OY.out.row.cell (j := 6) rfl
      have qz : w3.heap.size < Y.heap.size := OY.out.row.1
      rw [hY] at q0 q1 q2 q3 q4 q5 q6 qz
      clear hgr ax hkl hl' kY oz
      go_wp2_with fail
      rw [← hY]
      clear hY q0 q1 q2 q3 q4 q5 q6 qz s0 sf0 s1 sf1 s2 sf2 s3 sf3 s4 sf4 s5 sf5 s6 sf6 sz
      obtain ⟨l2, hl2⟩ : ∃ l2, holdL { c with grants := l' } = l2 := ⟨_, rfl⟩
      have HT3 := Lib.hid (show takeR c g = ({ c with grants := l2 }, 0) from by rw [← hl2]; exact HTL.out)
      have CH2 := Lib.hid (show Calls Tryz.prog 101 #[.agg #[.int .i64 c.epoch, .int .i64 c.version, .slice Bs c.objs.schemas.length bcs, .slice Bt c.objs.tables.length bct, .slice Bn c.rols.names.length bcn, .slice Bm c.rols.members.length bcm, .slice D l'.length dc]] Y (fun e w'' => ∃ h : Hd, e = .returned h.v ∧ Aft Y w'' ∧ w''.ownsRow Y.heap.size 76 6 h.v l2.length (l2.flatMap graC)) from hl2 ▸ CH.out)
      clear CH hl2 HTL
      refine CH2.out.mono ?_
      rintro e w5 ⟨⟨Ba, nBa, bca⟩, rfl, a5, o5⟩
      obtain rfl : nBa = l2.length := own_n o5
      obtain ⟨Z, hZ⟩ : ∃ V, V = w5.setCell ⟨w3.heap.size, 6, none⟩ (.slice Ba l2.length bca) := ⟨_, rfl⟩
      have OZ := Lib.hid (show OutAt Z w2.heap.size w3.heap.size { c with grants := l2 } ⟨Bs, nBs, bcs⟩ ⟨Bt, nBt, bct⟩ ⟨Bn, nBn, bcn⟩ ⟨Bm, nBm, bcm⟩ ⟨Ba, l2.length, bca⟩ L from by rw [hZ]; exact OY.out.new_row (by have := OY.out.row.1; have := S3W.out; have := S23.out; omega) a5 o5)
      have kZ : Kb (fun g => g = w3.heap.size) w5 Z := by rw [hZ]; exact Kb.set _ _ _ _
      have AZ := Lib.hid (kZ.to_aft (AY.out.trans a5) (fun k hk e => by have e : k = _ := e; have := S3W.out; omega))
      have UZ := Lib.hid (kZ.row (UY.out.aft a5) (by have := S3W.out; omega))
      have oz := OY.out.row.aft a5
      have ne9 : ¬ w.heap.size + 1 + 1 = w3.heap.size := by have := S3W.out; omega
      have ne8 : ¬ w3.heap.size = w.heap.size + 1 + 1 := by have := S3W.out; omega
      have s0 : w5.cell? ⟨w3.heap.size, 0, none⟩ = some (.int .i64 c.epoch) := oz.cell (j := 0) rfl
      have sf0 : w5.frozen? ⟨w3.heap.size, 0, none⟩ = false := oz.2.2 0 (by simp [CatL])
      have s1 : w5.cell? ⟨w3.heap.size, 1, none⟩ = some (.int .i64 c.version) := oz.cell (j := 1) rfl
      have sf1 : w5.frozen? ⟨w3.heap.size, 1, none⟩ = false := oz.2.2 1 (by simp [CatL])
      have s2 : w5.cell? ⟨w3.heap.size, 2, none⟩ = some (.slice Bs c.objs.schemas.length bcs) := oz.cell (j := 2) rfl
      have sf2 : w5.frozen? ⟨w3.heap.size, 2, none⟩ = false := oz.2.2 2 (by simp [CatL])
      have s3 : w5.cell? ⟨w3.heap.size, 3, none⟩ = some (.slice Bt c.objs.tables.length bct) := oz.cell (j := 3) rfl
      have sf3 : w5.frozen? ⟨w3.heap.size, 3, none⟩ = false := oz.2.2 3 (by simp [CatL])
      have s4 : w5.cell? ⟨w3.heap.size, 4, none⟩ = some (.slice Bn c.rols.names.length bcn) := oz.cell (j := 4) rfl
      have sf4 : w5.frozen? ⟨w3.heap.size, 4, none⟩ = false := oz.2.2 4 (by simp [CatL])
      have s5 : w5.cell? ⟨w3.heap.size, 5, none⟩ = some (.slice Bm c.rols.members.length bcm) := oz.cell (j := 5) rfl
      have sf5 : w5.frozen? ⟨w3.heap.size, 5, none⟩ = false := oz.2.2 5 (by simp [CatL])
      have s6 : w5.cell? ⟨w3.heap.size, 6, none⟩ = some (.slice D l'.length dc) := oz.cell (j := 6) rfl
      have sf6 : w5.frozen? ⟨w3.heap.size, 6, none⟩ = false := oz.2.2 6 (by simp [CatL])
      have sz : w3.heap.size < w5.heap.size := oz.1
      have q0 : Z.cell? ⟨w3.heap.size, 0, none⟩ = some (.int .i64 c.epoch) := OZ.out.row.cell (j := 0) rfl
      have q1 : Z.cell? ⟨w3.heap.size, 1, none⟩ = some (.int .i64 c.version) := OZ.out.row.cell (j := 1) rfl
      have q2 : Z.cell? ⟨w3.heap.size, 2, none⟩ = some (.slice Bs c.objs.schemas.length bcs) := OZ.out.row.cell (j := 2) rfl
      have q3 : Z.cell? ⟨w3.heap.size, 3, none⟩ = some (.slice Bt c.objs.tables.length bct) := OZ.out.row.cell (j := 3) rfl
      have q4 : Z.cell? ⟨w3.heap.size, 4, none⟩ = some (.slice Bn c.rols.names.length bcn) := OZ.out.row.cell (j := 4) rfl
      have q5 : Z.cell? ⟨w3.heap.size, 5, none⟩ = some (.slice Bm c.rols.members.length bcm) := OZ.out.row.cell (j := 5) rfl
      have q6 : Z.cell? ⟨w3.heap.size, 6, none⟩ = some (.slice Ba l2.length bca) := OZ.out.row.cell (j := 6) rfl
      have qz : w3.heap.size < Z.heap.size := OZ.out.row.1
      have u0 : Z.cell? ⟨w.heap.size + 1 + 1, 0, none⟩ = some (.int .i64 0) := UZ.out.cell (j := 0) rfl
      have uf0 : Z.frozen? ⟨w.heap.size + 1 + 1, 0, none⟩ = false := UZ.out.2.2 0 (by simp [CatL])
      have u1 : Z.cell? ⟨w.heap.size + 1 + 1, 1, none⟩ = some (.int .i64 0) := UZ.out.cell (j := 1) rfl
      have uf1 : Z.frozen? ⟨w.heap.size + 1 + 1, 1, none⟩ = false := UZ.out.2.2 1 (by simp [CatL])
      have u2 : Z.cell? ⟨w.heap.size + 1 + 1, 2, none⟩ = some (.slice none 0 0) := UZ.out.cell (j := 2) rfl
      have uf2 : Z.frozen? ⟨w.heap.size + 1 + 1, 2, none⟩ = false := UZ.out.2.2 2 (by simp [CatL])
      have u3 : Z.cell? ⟨w.heap.size + 1 + 1, 3, none⟩ = some (.slice none 0 0) := UZ.out.cell (j := 3) rfl
      have uf3 : Z.frozen? ⟨w.heap.size + 1 + 1, 3, none⟩ = false := UZ.out.2.2 3 (by simp [CatL])
      have u4 : Z.cell? ⟨w.heap.size + 1 + 1, 4, none⟩ = some (.slice none 0 0) := UZ.out.cell (j := 4) rfl
      have uf4 : Z.frozen? ⟨w.heap.size + 1 + 1, 4, none⟩ = false := UZ.out.2.2 4 (by simp [CatL])
      have u5 : Z.cell? ⟨w.heap.size + 1 + 1, 5, none⟩ = some (.slice none 0 0) := UZ.out.cell (j := 5) rfl
      have uf5 : Z.frozen? ⟨w.heap.size + 1 + 1, 5, none⟩ = false := UZ.out.2.2 5 (by simp [CatL])
      have u6 : Z.cell? ⟨w.heap.size + 1 + 1, 6, none⟩ = some (.slice none 0 0) := UZ.out.cell (j := 6) rfl
      have uf6 : Z.frozen? ⟨w.heap.size + 1 + 1, 6, none⟩ = false := UZ.out.2.2 6 (by simp [CatL])
      have uz : w.heap.size + 1 + 1 < Z.heap.size := UZ.out.1
      rw [hZ] at q0 q1 q2 q3 q4 q5 q6 qz u0 uf0 u1 uf1 u2 uf2 u3 uf3 u4 uf4 u5 uf5 u6 uf6 uz
      clear a5 o5 kZ oz
      simp only [Hd.v]
      go_wp2_with fail
      (try simp only [Exit.inBlock, Exit.then])
      rw [← hZ]
      have hd := OZ.out.done UZ.out rfl AZ.out (by omega) SX.out.2
      refine bodyPost_ret (results_cell_tmp (v := .agg #[.int .i64 c.epoch, .int .i64 c.version, .slice Bs c.objs.schemas.length bcs, .slice Bt c.objs.tables.length bct, .slice Bn c.rols.names.length bcn, .slice Bm c.rols.members.length bcm, .slice Ba l2.length bca]) rfl _ rfl (lvCat_row hd.1)) rfl ?_
      rw [HT3.out]
      exact hd.2
    obtain ⟨b, off, rfl, hb, t0, t1, t2, t3, t4, t5, sgk⟩ := gra_at (gras_aft ax Kc4.out.gra) hlt
    obtain ⟨y, hy⟩ : ∃ y, c.grants[k] = y := ⟨_, rfl⟩
    rw [hy] at t0 t1 t2 t3 t4 t5 sgk
    obtain ⟨ff, hff⟩ : ∃ b, fiveE y g = b := ⟨_, rfl⟩
    have CF := Lib.hid (show ∀ V, Calls Tryz.prog 95 #[.agg #[.string y.schema, .string y.table, .int .i64 y.right, .string y.giver, .string y.to, .bool y.opt], .agg #[.string g.schema, .string g.table, .int .i64 g.right, .string g.giver, .string g.to, .bool g.opt]] V fun e w'' => e = .returned (.bool ff) ∧ Aft V w'' from fun V => hff ▸ rfive y g V)
    have HN := Lib.hid (show lessG (c.grants.take (k + 1)) g = lessG (c.grants.take k) g ++ (if ff then [] else [y]) from by rw [lessG_snoc hlt, hy, hff])
    have hll : (lessG (c.grants.take k) g).length ≤ k := Nat.le_trans (lessG_sub _ g).length_le (by rw [List.length_take]; omega)
    obtain ⟨m, hm⟩ : ∃ m, lessG (c.grants.take k) g = m := ⟨_, rfl⟩
    rw [hm] at HG HN hll ⊢
    have HY := Lib.hid hy
    clear hgr hff hm sgk hy
    cases ff
    all_goals
      go_wp2_with fail
      refine wp_region_lat (by kernel_rfl) (by kernel_rfl) ?_
      repeat (go_big_quiet_step ((go_at_call 95; exact Calls.lat_of (CF.out _))))
      refine wpQuiet_nil ?_
      intro _ hw'
      obtain ⟨yy, hw''⟩ := hw'
      subst hw''
      obtain ⟨W5, hW5⟩ : ∃ V, V = lat wr yy := ⟨_, rfl⟩
      rw [← hW5]
      have G5 := Lib.hid (show GrG X W5 hd m by rw [hW5]; exact HG.out.aft ((Aft.refl wr).lat yy))
      clear hW5 ax x0 x1 x2 x3 x4 x5 x6 xz y0 y1 y2 y3 y4 y5 yz t0 t1 t2 t3 t4 t5 hb
    · have ax := G5.out.1
      obtain ⟨x0, x1, x2, x3, x4, x5, x6, xz⟩ := rowF7 (Bx4.out.aft ax)
      obtain ⟨b', off', hA', hb, t0, t1, t2, t3, t4, t5, _⟩ := gra_at (gras_aft ax Kc4.out.gra) hlt
      simp only [Option.some.injEq, Addr.mk.injEq, and_true] at hA'
      obtain ⟨rfl, rfl⟩ := hA'
      rw [HY.out] at t0 t1 t2 t3 t4 t5
      have hq8 : m.length ≤ 1000000 := by omega
      have zw1 : X.heap.size ≤ W5.heap.size := ax.size
      clear ax
      go_wp2_with (at_builtin; go_must (refine app_gra rfl _ _ rfl X.heap.size (.slice hd.a m.length hd.c) m.length (m.flatMap graC) rfl (own_aft G5.out.own ((Aft.refl W5).alloc _)) W5.heap.size y rfl (heap_alloc_new W5 _) hq8 (by simp; omega) ?_); intro gg cap' u8 hown8 hgrow hat; have HG8 := Lib.hid (And.intro hown8 hgrow); clear hown8 hgrow hat)
      have G8 := Lib.hid (G5.out.grow ((Aft.refl W5).alloc _) HG8.out.1 HG8.out.2)
      go_wp2_with fail
      go_roundw
      case rel => exact ⟨k + 1, ⟨some ⟨gg, 0, none⟩, m.length + 1, cap'⟩, by rw [HN.out]; simp, by go_num, by omega, by rw [HN.out]; simpa using G8.out⟩
      case measure => simp [intOf]; omega
    · go_wp2_with fail
      go_roundw
      case rel => exact ⟨k + 1, hd, by rw [HN.out]; simp, by go_num, by omega, by rw [HN.out]; simpa using G5.out⟩
      case measure => simp [intOf]; omega
end Go.Proofs.YtlklmekapbojdaaGreat

namespace Go.Proofs.YtlklmekapbojdaaGreat
open Go.RowKit Go.Deep
set_option maxRecDepth 100000
set_option linter.unusedVariables false
set_option maxHeartbeats 16000000 in
theorem law_take9 (c : Cat) (As : Option Addr) (caps : Nat) (At : Option Addr) (capt : Nat) (An : Option Addr) (capn : Nat) (Am : Option Addr) (capm : Nat) (Ag : Option Addr) (capg : Nat) (g : Gra) (sg : SmG g) (w : World) (H : CatAt w c As caps At capt An capn Am capm Ag capg) :
    Calls Tryz.prog 7 #[.agg #[.int .i64 c.epoch, .int .i64 c.version, .slice As c.objs.schemas.length caps, .slice At c.objs.tables.length capt, .slice An c.rols.names.length capn, .slice Am c.rols.members.length capm, .slice Ag c.grants.length capg], .agg #[.string g.schema, .string g.table, .int .i64 g.right, .string g.giver, .string g.to, .bool g.opt]] w fun e w' => e = .returned (.bool true) ∧ Aft w w' := by
  obtain ⟨⟨X, ge⟩, hX0⟩ : ∃ F, takeR c g = F := ⟨_, rfl⟩
  have SMX := Lib.hid (show SmC X from by have := sm_takeR (c := c) (g := g) H.sm; rw [hX0] at this; exact this)
  have C1 := Lib.hid (show ∀ V, CatAt V c As caps At capt An capn Am capm Ag capg → Calls Tryz.prog 39 #[.agg #[.int .i64 c.epoch, .int .i64 c.version, .slice As c.objs.schemas.length caps, .slice At c.objs.tables.length capt, .slice An c.rols.names.length capn, .slice Am c.rols.members.length capm, .slice Ag c.grants.length capg], .agg #[.string g.schema, .string g.table, .int .i64 g.right, .string g.giver, .string g.to, .bool g.opt]] V (ChgC V (X, ge)) from fun V a => hX0 ▸ takeG c As caps At capt An capn Am capm Ag capg g V a)
  have C2 := Lib.hid (show ∀ V Os Ocs Ot Oct On Ocn Om Ocm Og Ocg, CatAt V c Os Ocs Ot Oct On Ocn Om Ocm Og Ocg → Calls Tryz.prog 40 #[.agg #[.int .i64 c.epoch, .int .i64 c.version, .slice Os c.objs.schemas.length Ocs, .slice Ot c.objs.tables.length Oct, .slice On c.rols.names.length Ocn, .slice Om c.rols.members.length Ocm, .slice Og c.grants.length Ocg], .agg #[.string g.schema, .string g.table, .int .i64 g.right, .string g.giver, .string g.to, .bool g.opt]] V (ChgC V (X, ge)) from fun V Os Ocs Ot Oct On Ocn Om Ocm Og Ocg a => hX0 ▸ rtake9 c Os Ocs Ot Oct On Ocn Om Ocm Og Ocg g sg V a)
  clear hX0
  obtain ⟨W, hW⟩ : ∃ W, W = (w.alloc (.cells #[.int .i64 c.epoch, .int .i64 c.version, .slice As c.objs.schemas.length caps, .slice At c.objs.tables.length capt, .slice An c.rols.names.length capn, .slice Am c.rols.members.length capm, .slice Ag c.grants.length capg] 66)).alloc (.cells #[.string g.schema, .string g.table, .int .i64 g.right, .string g.giver, .string g.to, .bool g.opt] 76) := ⟨_, rfl⟩
  have aW : Aft w W := by rw [hW]; exact ((Aft.refl w).alloc _).alloc _
  have r0 : RowAt W (w.heap.size) [.int .i64 c.epoch, .int .i64 c.version, .slice As c.objs.schemas.length caps, .slice At c.objs.tables.length capt, .slice An c.rols.names.length capn, .slice Am c.rols.members.length capm, .slice Ag c.grants.length capg] := by rw [hW]; exact RowAt.up (box_at (Aft.refl _) (by simp))
  have r1 : RowAt W (w.heap.size + 1) [.string g.schema, .string g.table, .int .i64 g.right, .string g.giver, .string g.to, .bool g.opt] := by rw [hW]; exact box_at (Aft.refl _) (by simp)
  have l1 : w.heap.size < w.heap.size + 1 := by omega
  have l2 : w.heap.size < w.heap.size + 1 + 1 := by omega
  have l3 : w.heap.size + 1 < w.heap.size + 1 + 1 := by omega
  have HAW := Lib.hid aW
  have Bx0 := Lib.hid r0
  have By0 := Lib.hid r1
  have Kc0 := Lib.hid (H.aft aW)
  have HSM := Lib.hid H.sm
  have HSG := Lib.hid sg
  have CL := Lib.hid (large9 c As caps At capt An capn Am capm Ag capg W (H.aft aW))
  clear H sg
  obtain ⟨x0, x1, x2, x3, x4, x5, x6, xz⟩ := rowF7 Bx0.out
  obtain ⟨y0, y1, y2, y3, y4, y5, yz⟩ := rowF6 By0.out
  clear r0 r1 aW
  go_enter Tryz.func7, Tryz.ntmps7
  go_wp2_with fail
  rw [← hW]
  clear hW
  go_wp2_with fail
  refine CL.out.mono ?_
  rintro e w1 ⟨bg, rfl, hmod, a1⟩
  have HM := Lib.hid hmod
  clear x0 x1 x2 x3 x4 x5 x6 xz y0 y1 y2 y3 y4 y5 yz 
  have Bx1 := Lib.hid (Bx0.out.aft a1)
  have By1 := Lib.hid (By0.out.aft a1)
  have Kc1 := Lib.hid (Kc0.out.aft a1)
  have AT1 := Lib.hid (HAW.out.trans a1)
  clear a1 CL hmod
  obtain ⟨x0, x1, x2, x3, x4, x5, x6, xz⟩ := rowF7 Bx1.out
  obtain ⟨y0, y1, y2, y3, y4, y5, yz⟩ := rowF6 By1.out
  cases bg
  case true =>
    go_wp2_with fail
    go_ret
    exact ⟨rfl, AT1.out⟩
  have hmo := HM.out rfl
  have CO := Lib.hid (own9 c As caps At capt An capn Am capm Ag capg w1 Kc1.out hmo.obj (by have := hmo.nam; omega) (by have := hmo.mem; omega) (by have := hmo.gra; omega))
  clear hmo HM
  go_wp2_with fail
  refine CO.out.mono ?_
  rintro e w2 ⟨hOs, hOt, hOn, hOm, hOg, LO, rfl, aw2, ciO⟩
  obtain ⟨Os, nOs, Ocs⟩ := hOs
  obtain ⟨Ot, nOt, Oct⟩ := hOt
  obtain ⟨On, nOn, Ocn⟩ := hOn
  obtain ⟨Om, nOm, Ocm⟩ := hOm
  obtain ⟨Og, nOg, Ocg⟩ := hOg
  simp only [CatV]
  have KO0 := Lib.hid (show CatAt w2 c Os Ocs Ot Oct On Ocn Om Ocm Og Ocg from ciO.at HSM.out)
  have IO0 := Lib.hid ciO
  have ZO := Lib.hid (show w1.heap.size ≤ w2.heap.size from aw2.size)
  clear x0 x1 x2 x3 x4 x5 x6 xz y0 y1 y2 y3 y4 y5 yz 
  have Bx2 := Lib.hid (Bx1.out.aft aw2)
  have By2 := Lib.hid (By1.out.aft aw2)
  have Kc2 := Lib.hid (Kc1.out.aft aw2)
  have AT2 := Lib.hid (AT1.out.trans aw2)
  clear aw2 ciO
  obtain ⟨x0, x1, x2, x3, x4, x5, x6, xz⟩ := rowF7 Bx2.out
  obtain ⟨y0, y1, y2, y3, y4, y5, yz⟩ := rowF6 By2.out
  clear x0 x1 x2 x3 x4 x5 x6 xz y0 y1 y2 y3 y4 y5 yz 
  obtain ⟨X2, hX2⟩ : ∃ V, V = w2.alloc (.cells #[.int .i64 c.epoch, .int .i64 c.version, .slice Os c.objs.schemas.length Ocs, .slice Ot c.objs.tables.length Oct, .slice On c.rols.names.length Ocn, .slice Om c.rols.members.length Ocm, .slice Og c.grants.length Ocg] 66) := ⟨_, rfl⟩
  have aX2 : Aft w2 X2 := by rw [hX2]; exact (Aft.refl _).alloc _
  have RX2 := Lib.hid (show RowAt X2 w2.heap.size [.int .i64 c.epoch, .int .i64 c.version, .slice Os c.objs.schemas.length Ocs, .slice Ot c.objs.tables.length Oct, .slice On c.rols.names.length Ocn, .slice Om c.rols.members.length Ocm, .slice Og c.grants.length Ocg] by rw [hX2]; exact box_row2 (Aft.refl _))
  have Bx3 := Lib.hid (Bx2.out.aft aX2)
  have By3 := Lib.hid (By2.out.aft aX2)
  have Kc3 := Lib.hid (Kc2.out.aft aX2)
  have KO3 := Lib.hid (KO0.out.aft aX2)
  have KIO3 := Lib.hid (IO0.out.aft aX2)
  have AT3 := Lib.hid (AT2.out.trans aX2)
  obtain ⟨x0, x1, x2, x3, x4, x5, x6, xz⟩ := rowF7 Bx3.out
  obtain ⟨y0, y1, y2, y3, y4, y5, yz⟩ := rowF6 By3.out
  obtain ⟨o0, o1, o2, o3, o4, o5, o6, oz⟩ := rowF7 RX2.out
  rw [hX2] at x0 x1 x2 x3 x4 x5 x6 xz y0 y1 y2 y3 y4 y5 yz o0 o1 o2 o3 o4 o5 o6 oz
  go_wp2_with fail
  rw [← hX2]
  clear x0 x1 x2 x3 x4 x5 x6 xz y0 y1 y2 y3 y4 y5 yz o0 o1 o2 o3 o4 o5 o6 oz hX2 aX2
  obtain ⟨x0, x1, x2, x3, x4, x5, x6, xz⟩ := rowF7 Bx3.out
  obtain ⟨y0, y1, y2, y3, y4, y5, yz⟩ := rowF6 By3.out
  obtain ⟨o0, o1, o2, o3, o4, o5, o6, oz⟩ := rowF7 RX2.out
  have ZB := Lib.hid (Aft.refl X2)
  have KC2 := Lib.hid Kc3.out
  have KO2 := Lib.hid KO3.out
  have ATX2 := Lib.hid AT3.out
  have C1b := Lib.hid (C1.out X2 KC2.out)
  go_wp2_with fail
  refine C1b.out.mono ?_
  rintro e w3 ⟨hPs, hPt, hPn, hPm, hPg, LP, rfl, aw3, ciP⟩
  obtain ⟨Ps, nPs, Pcs⟩ := hPs
  obtain ⟨Pt, nPt, Pct⟩ := hPt
  obtain ⟨Pn, nPn, Pcn⟩ := hPn
  obtain ⟨Pm, nPm, Pcm⟩ := hPm
  obtain ⟨Pg, nPg, Pcg⟩ := hPg
  simp only [CatV]
  have KP0 := Lib.hid (show CatAt w3 X Ps Pcs Pt Pct Pn Pcn Pm Pcm Pg Pcg from ciP.at SMX.out)
  have IP0 := Lib.hid ciP
  have ZP := Lib.hid (show X2.heap.size ≤ w3.heap.size from aw3.size)
  clear x0 x1 x2 x3 x4 x5 x6 xz y0 y1 y2 y3 y4 y5 yz o0 o1 o2 o3 o4 o5 o6 oz 
  have Bx4 := Lib.hid (Bx3.out.aft aw3)
  have By4 := Lib.hid (By3.out.aft aw3)
  have Bo4 := Lib.hid (RX2.out.aft aw3)
  have Kc4 := Lib.hid (Kc3.out.aft aw3)
  have KO4 := Lib.hid (KO3.out.aft aw3)
  have KIO4 := Lib.hid (KIO3.out.aft aw3)
  have AT4 := Lib.hid (ZB.out.trans aw3)
  clear aw3 ciP
  obtain ⟨x0, x1, x2, x3, x4, x5, x6, xz⟩ := rowF7 Bx4.out
  obtain ⟨y0, y1, y2, y3, y4, y5, yz⟩ := rowF6 By4.out
  obtain ⟨o0, o1, o2, o3, o4, o5, o6, oz⟩ := rowF7 Bo4.out
  clear x0 x1 x2 x3 x4 x5 x6 xz y0 y1 y2 y3 y4 y5 yz o0 o1 o2 o3 o4 o5 o6 oz 
  obtain ⟨X3, hX3⟩ : ∃ V, V = w3.alloc (.cells #[.int .i64 X.epoch, .int .i64 X.version, .slice Ps X.objs.schemas.length Pcs, .slice Pt X.objs.tables.length Pct, .slice Pn X.rols.names.length Pcn, .slice Pm X.rols.members.length Pcm, .slice Pg X.grants.length Pcg] 66) := ⟨_, rfl⟩
  have aX3 : Aft w3 X3 := by rw [hX3]; exact (Aft.refl _).alloc _
  have RX3 := Lib.hid (show RowAt X3 w3.heap.size [.int .i64 X.epoch, .int .i64 X.version, .slice Ps X.objs.schemas.length Pcs, .slice Pt X.objs.tables.length Pct, .slice Pn X.rols.names.length Pcn, .slice Pm X.rols.members.length Pcm, .slice Pg X.grants.length Pcg] by rw [hX3]; exact box_row2 (Aft.refl _))
  have Bx5 := Lib.hid (Bx4.out.aft aX3)
  have By5 := Lib.hid (By4.out.aft aX3)
  have Bo5 := Lib.hid (Bo4.out.aft aX3)
  have Kc5 := Lib.hid (Kc4.out.aft aX3)
  have KO5 := Lib.hid (KO4.out.aft aX3)
  have KIO5 := Lib.hid (KIO4.out.aft aX3)
  have KP5 := Lib.hid (KP0.out.aft aX3)
  have KIP5 := Lib.hid (IP0.out.aft aX3)
  have AT5 := Lib.hid (AT4.out.trans aX3)
  obtain ⟨x0, x1, x2, x3, x4, x5, x6, xz⟩ := rowF7 Bx5.out
  obtain ⟨y0, y1, y2, y3, y4, y5, yz⟩ := rowF6 By5.out
  obtain ⟨o0, o1, o2, o3, o4, o5, o6, oz⟩ := rowF7 Bo5.out
  obtain ⟨p0, p1, p2, p3, p4, p5, p6, pz⟩ := rowF7 RX3.out
  rw [hX3] at x0 x1 x2 x3 x4 x5 x6 xz y0 y1 y2 y3 y4 y5 yz o0 o1 o2 o3 o4 o5 o6 oz p0 p1 p2 p3 p4 p5 p6 pz
  go_wp2_with fail
  rw [← hX3]
  clear x0 x1 x2 x3 x4 x5 x6 xz y0 y1 y2 y3 y4 y5 yz o0 o1 o2 o3 o4 o5 o6 oz p0 p1 p2 p3 p4 p5 p6 pz hX3 aX3
  obtain ⟨x0, x1, x2, x3, x4, x5, x6, xz⟩ := rowF7 Bx5.out
  obtain ⟨y0, y1, y2, y3, y4, y5, yz⟩ := rowF6 By5.out
  obtain ⟨o0, o1, o2, o3, o4, o5, o6, oz⟩ := rowF7 Bo5.out
  obtain ⟨p0, p1, p2, p3, p4, p5, p6, pz⟩ := rowF7 RX3.out
  have C2b := Lib.hid (C2.out _ _ _ _ _ _ _ _ _ _ _ KO5.out)
  go_wp2_with fail
  refine C2b.out.mono ?_
  rintro e w4 ⟨hQs, hQt, hQn, hQm, hQg, LQ, rfl, aw4, ciQ⟩
  obtain ⟨Qs, nQs, Qcs⟩ := hQs
  obtain ⟨Qt, nQt, Qct⟩ := hQt
  obtain ⟨Qn, nQn, Qcn⟩ := hQn
  obtain ⟨Qm, nQm, Qcm⟩ := hQm
  obtain ⟨Qg, nQg, Qcg⟩ := hQg
  simp only [CatV]
  have KQ0 := Lib.hid (show CatAt w4 X Qs Qcs Qt Qct Qn Qcn Qm Qcm Qg Qcg from ciQ.at SMX.out)
  have IQ0 := Lib.hid ciQ
  have ZQ := Lib.hid (show X3.heap.size ≤ w4.heap.size from aw4.size)
  clear x0 x1 x2 x3 x4 x5 x6 xz y0 y1 y2 y3 y4 y5 yz o0 o1 o2 o3 o4 o5 o6 oz p0 p1 p2 p3 p4 p5 p6 pz 
  have Bx6 := Lib.hid (Bx5.out.aft aw4)
  have By6 := Lib.hid (By5.out.aft aw4)
  have Bo6 := Lib.hid (Bo5.out.aft aw4)
  have Bp6 := Lib.hid (RX3.out.aft aw4)
  have Kc6 := Lib.hid (Kc5.out.aft aw4)
  have KO6 := Lib.hid (KO5.out.aft aw4)
  have KIO6 := Lib.hid (KIO5.out.aft aw4)
  have KP6 := Lib.hid (KP5.out.aft aw4)
  have KIP6 := Lib.hid (KIP5.out.aft aw4)
  have AT6 := Lib.hid (AT5.out.trans aw4)
  clear aw4 ciQ
  obtain ⟨x0, x1, x2, x3, x4, x5, x6, xz⟩ := rowF7 Bx6.out
  obtain ⟨y0, y1, y2, y3, y4, y5, yz⟩ := rowF6 By6.out
  obtain ⟨o0, o1, o2, o3, o4, o5, o6, oz⟩ := rowF7 Bo6.out
  obtain ⟨p0, p1, p2, p3, p4, p5, p6, pz⟩ := rowF7 Bp6.out
  clear x0 x1 x2 x3 x4 x5 x6 xz y0 y1 y2 y3 y4 y5 yz o0 o1 o2 o3 o4 o5 o6 oz p0 p1 p2 p3 p4 p5 p6 pz 
  obtain ⟨X4, hX4⟩ : ∃ V, V = w4.alloc (.cells #[.int .i64 X.epoch, .int .i64 X.version, .slice Qs X.objs.schemas.length Qcs, .slice Qt X.objs.tables.length Qct, .slice Qn X.rols.names.length Qcn, .slice Qm X.rols.members.length Qcm, .slice Qg X.grants.length Qcg] 66) := ⟨_, rfl⟩
  have aX4 : Aft w4 X4 := by rw [hX4]; exact (Aft.refl _).alloc _
  have RX4 := Lib.hid (show RowAt X4 w4.heap.size [.int .i64 X.epoch, .int .i64 X.version, .slice Qs X.objs.schemas.length Qcs, .slice Qt X.objs.tables.length Qct, .slice Qn X.rols.names.length Qcn, .slice Qm X.rols.members.length Qcm, .slice Qg X.grants.length Qcg] by rw [hX4]; exact box_row2 (Aft.refl _))
  have Bx7 := Lib.hid (Bx6.out.aft aX4)
  have By7 := Lib.hid (By6.out.aft aX4)
  have Bo7 := Lib.hid (Bo6.out.aft aX4)
  have Bp7 := Lib.hid (Bp6.out.aft aX4)
  have Kc7 := Lib.hid (Kc6.out.aft aX4)
  have KO7 := Lib.hid (KO6.out.aft aX4)
  have KIO7 := Lib.hid (KIO6.out.aft aX4)
  have KP7 := Lib.hid (KP6.out.aft aX4)
  have KIP7 := Lib.hid (KIP6.out.aft aX4)
  have KQ7 := Lib.hid (KQ0.out.aft aX4)
  have KIQ7 := Lib.hid (IQ0.out.aft aX4)
  have AT7 := Lib.hid (AT6.out.trans aX4)
  obtain ⟨x0, x1, x2, x3, x4, x5, x6, xz⟩ := rowF7 Bx7.out
  obtain ⟨y0, y1, y2, y3, y4, y5, yz⟩ := rowF6 By7.out
  obtain ⟨o0, o1, o2, o3, o4, o5, o6, oz⟩ := rowF7 Bo7.out
  obtain ⟨p0, p1, p2, p3, p4, p5, p6, pz⟩ := rowF7 Bp7.out
  obtain ⟨q0, q1, q2, q3, q4, q5, q6, qz⟩ := rowF7 RX4.out
  rw [hX4] at x0 x1 x2 x3 x4 x5 x6 xz y0 y1 y2 y3 y4 y5 yz o0 o1 o2 o3 o4 o5 o6 oz p0 p1 p2 p3 p4 p5 p6 pz q0 q1 q2 q3 q4 q5 q6 qz
  go_wp2_with fail
  rw [← hX4]
  clear x0 x1 x2 x3 x4 x5 x6 xz y0 y1 y2 y3 y4 y5 yz o0 o1 o2 o3 o4 o5 o6 oz p0 p1 p2 p3 p4 p5 p6 pz q0 q1 q2 q3 q4 q5 q6 qz hX4 aX4
  obtain ⟨x0, x1, x2, x3, x4, x5, x6, xz⟩ := rowF7 Bx7.out
  obtain ⟨y0, y1, y2, y3, y4, y5, yz⟩ := rowF6 By7.out
  obtain ⟨o0, o1, o2, o3, o4, o5, o6, oz⟩ := rowF7 Bo7.out
  obtain ⟨p0, p1, p2, p3, p4, p5, p6, pz⟩ := rowF7 Bp7.out
  obtain ⟨q0, q1, q2, q3, q4, q5, q6, qz⟩ := rowF7 RX4.out
  refine (takes9 X4).mono ?_
  rintro e v1 ⟨rfl, av1⟩
  clear x0 x1 x2 x3 x4 x5 x6 xz y0 y1 y2 y3 y4 y5 yz o0 o1 o2 o3 o4 o5 o6 oz p0 p1 p2 p3 p4 p5 p6 pz q0 q1 q2 q3 q4 q5 q6 qz 
  have Bx8 := Lib.hid (Bx7.out.aft av1)
  have By8 := Lib.hid (By7.out.aft av1)
  have Bo8 := Lib.hid (Bo7.out.aft av1)
  have Bp8 := Lib.hid (Bp7.out.aft av1)
  have Bq8 := Lib.hid (RX4.out.aft av1)
  have Kc8 := Lib.hid (Kc7.out.aft av1)
  have KO8 := Lib.hid (KO7.out.aft av1)
  have KIO8 := Lib.hid (KIO7.out.aft av1)
  have KP8 := Lib.hid (KP7.out.aft av1)
  have KIP8 := Lib.hid (KIP7.out.aft av1)
  have KQ8 := Lib.hid (KQ7.out.aft av1)
  have KIQ8 := Lib.hid (KIQ7.out.aft av1)
  have AT8 := Lib.hid (AT7.out.trans av1)
  clear av1 
  obtain ⟨x0, x1, x2, x3, x4, x5, x6, xz⟩ := rowF7 Bx8.out
  obtain ⟨y0, y1, y2, y3, y4, y5, yz⟩ := rowF6 By8.out
  obtain ⟨o0, o1, o2, o3, o4, o5, o6, oz⟩ := rowF7 Bo8.out
  obtain ⟨p0, p1, p2, p3, p4, p5, p6, pz⟩ := rowF7 Bp8.out
  obtain ⟨q0, q1, q2, q3, q4, q5, q6, qz⟩ := rowF7 Bq8.out
  have HT := Lib.hid (told9 X c Ps Pcs Pt Pct Pn Pcn Pm Pcm Pg Pcg nPs nPt nPn nPm nPg LP Qs Qcs Qt Qct Qn Qcn Qm Qcm Qg Qcg As caps At capt An capn Am capm Ag capg Os Ocs Ot Oct On Ocn Om Ocm Og Ocg X2.heap.size ge X2 v1 KIP8.out SMX.out KQ8.out AT8.out (Nat.le_refl _) KC2.out KO2.out)
  have HLT := Lib.hid (show ∀ k, P3 ⟨Pg, nPg, Pcg⟩ ⟨Pn, nPn, Pcn⟩ ⟨Pt, nPt, Pct⟩ k → X2.heap.size ≤ k from fun k hk => by
    rcases hk with h | h | h
    · exact (KIP8.out.lt (.inr h)).1
    · exact (KIP8.out.lt (.inl (.inr (.inl h)))).1
    · exact (KIP8.out.lt (.inl (.inl (by simp [h])))).1)
  go_wp2_with fail
  refine HT.out.mono ?_
  rintro e v2 ⟨rfl, kv2⟩
  have HEND := Lib.hid (ATX2.out.trans (kv2.to_aft AT8.out (fun k hk hp => by have := HLT.out k hp; omega)))
  clear kv2
  go_wp2_with fail
  go_ret
  exact ⟨rfl, HEND.out⟩
end Go.Proofs.YtlklmekapbojdaaGreat

