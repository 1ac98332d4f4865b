/- Contracts of the program, part 15. -/
import Derived.Deep.RegionLaw
import Derived.Deep.RegionHeld3
import Derived.Deep.AppendLies
import Derived.WalkMore
import Derived.Deep.DeepMust
import Derived.OwnWalk
import Derived.Laws.AppendOwn
import Derived.ProofKit
import Derived.OpenShut
import Derived.Deep.Slices
import Derived.ChangeOld
import Derived.SizedLaws
import Derived.WalkKit
import Derived.WalkSpells
import Derived.WalkLawsBesides
import Derived.Lib.Hide
import Derived.Deep.QuietTactic
import Derived.BigQuiet
import Derived.Below
import Derived.Deep.Draws
import Derived.StillTailTactics
import Derived.Laws.Cells
import Derived.Laws.IdiomCopy
import Derived.Test.YtlklmekapbojdaaGreatRows
import Derived.Lib.Walk
import Derived.Laws.EntriesVeiled
import Derived.Maps.Own
import Derived.Maps.Views
import Derived.Deep.Upon
import Derived.OneCell
import Derived.OrdersHeld
import Derived.IntWalk
import Derived.Lib.Bytealg
import Derived.Lib.SliceRun
import Derived.Lib.AppendZerosOnto
import Derived.Lib.Overlaps
import Derived.Shelf.SlSortCmp.WholeK
import Derived.Laws.StructEq
import Derived.WideKeyEntry
import Derived.DeepKeys3
import Derived.ChangeKeys
import Derived.Test.YtlklmekapbojdaaGreatPartL1
import Derived.Test.YtlklmekapbojdaaGreatPartL2
import Derived.Test.YtlklmekapbojdaaGreatPartL3
import Derived.Test.YtlklmekapbojdaaGreatPartL4
import Derived.Test.YtlklmekapbojdaaGreatPartL5
import Derived.Test.YtlklmekapbojdaaGreatPartL6
import Derived.Test.YtlklmekapbojdaaGreatPartL7
import Derived.Test.YtlklmekapbojdaaGreatPartL8
import Derived.Test.YtlklmekapbojdaaGreatPartL9
import Derived.Test.YtlklmekapbojdaaGreatPartL10
import Derived.Test.YtlklmekapbojdaaGreatPartL12
import Derived.Test.YtlklmekapbojdaaGreatPartL13
import Derived.Test.YtlklmekapbojdaaGreatPartL14
namespace Go.Proofs.YtlklmekapbojdaaGreat
open Go.RowKit Go.Deep
set_option maxRecDepth 100000
set_option linter.unusedVariables false
set_option maxHeartbeats 16000000 in
theorem giveG (c : Cat) (As : Option Addr) (caps : Nat) (At : Option Addr) (capt : Nat) (An : Option Addr) (capn : Nat) (Am : Option Addr) (capm : Nat) (Ag : Option Addr) (capg : Nat) (g : Gra) (sg : SmG g) (w : World) (H : CatAt w c As caps At capt An capn Am capm Ag capg) :
    Calls Tryz.prog 35 #[.agg #[.int .i64 c.epoch, .int .i64 c.version, .slice As c.objs.schemas.length caps, .slice At c.objs.tables.length capt, .slice An c.rols.names.length capn, .slice Am c.rols.members.length capm, .slice Ag c.grants.length capg], .agg #[.string g.schema, .string g.table, .int .i64 g.right, .string g.giver, .string g.to, .bool g.opt]] w (ChgC w (giveR c g)) := by
  have l1 : w.heap.size < w.heap.size + 1 := by omega
  have l2 : w.heap.size < w.heap.size + 1 + 1 := by omega
  have l3 : w.heap.size < w.heap.size + 1 + 1 + 1 := by omega
  have l4 : w.heap.size + 1 < w.heap.size + 1 + 1 + 1 := by omega
  obtain ⟨W, hW⟩ : ∃ W, W = ((w.alloc (.cells #[.int .i64 c.epoch, .int .i64 c.version, .slice As c.objs.schemas.length caps, .slice At c.objs.tables.length capt, .slice An c.rols.names.length capn, .slice Am c.rols.members.length capm, .slice Ag c.grants.length capg] 66)).alloc (.cells #[.string g.schema, .string g.table, .int .i64 g.right, .string g.giver, .string g.to, .bool g.opt] 76)).alloc (.cells #[.int .i64 0, .int .i64 0, .slice none 0 0, .slice none 0 0, .slice none 0 0, .slice none 0 0, .slice none 0 0] 66) := ⟨_, rfl⟩
  have aW : Aft w W := by rw [hW]; exact (((Aft.refl w).alloc _).alloc _).alloc _
  have r0 : RowAt W (w.heap.size) [.int .i64 c.epoch, .int .i64 c.version, .slice As c.objs.schemas.length caps, .slice At c.objs.tables.length capt, .slice An c.rols.names.length capn, .slice Am c.rols.members.length capm, .slice Ag c.grants.length capg] := by rw [hW]; exact RowAt.up (RowAt.up (box_at (Aft.refl _) (by simp)))
  have r1 : RowAt W (w.heap.size + 1) [.string g.schema, .string g.table, .int .i64 g.right, .string g.giver, .string g.to, .bool g.opt] := by rw [hW]; exact RowAt.up (box_at (Aft.refl _) (by simp))
  have r2 : RowAt W (w.heap.size + 1 + 1) [.int .i64 0, .int .i64 0, .slice none 0 0, .slice none 0 0, .slice none 0 0, .slice none 0 0, .slice none 0 0] := by rw [hW]; exact box_at (Aft.refl _) (by simp)
  have HR := Lib.hid (And.intro r0 (And.intro r1 r2))
  have HAW := Lib.hid aW
  have HH := Lib.hid (H.aft aW)
  have HSM := Lib.hid H.sm
  obtain ⟨p, hp⟩ : ∃ p, wholeB c = p := ⟨_, rfl⟩
  obtain ⟨kd, hkd⟩ : ∃ p, kindB g.right = p := ⟨_, rfl⟩
  obtain ⟨e0, he0⟩ : ∃ p, eqS g.giver g.to = p := ⟨_, rfl⟩
  obtain ⟨tb, htb⟩ : ∃ b, decide (0 ≤ tabAt c.objs.tables g.schema g.table) = b := ⟨_, rfl⟩
  obtain ⟨n1, hn1⟩ : ∃ b, inB c.rols.names g.giver = b := ⟨_, rfl⟩
  obtain ⟨n2, hn2⟩ : ∃ b, inB c.rols.names g.to = b := ⟨_, rfl⟩
  obtain ⟨T, hT⟩ : ∃ T, tabF c.objs g.schema g.table = T := ⟨_, rfl⟩
  obtain ⟨bb, hbb⟩ : ∃ b, bossB c.objs (allL c.rols g.giver) T = b := ⟨_, rfl⟩
  obtain ⟨gb, hgb⟩ : ∃ b, givesB c.grants (allL c.rols g.giver) g.schema g.table g.right true = b := ⟨_, rfl⟩
  obtain ⟨q, hq⟩ : ∃ q, inG c.grants g = q := ⟨_, rfl⟩
  obtain ⟨ps, hps⟩ : ∃ p, posB cmpG c.grants g = p := ⟨_, rfl⟩
  have HPS := Lib.hid hps
  have he2 : (g.giver.toList == g.to.toList) = e0 := he0
  have hj : justB c c.grants g = (bb || gb) := by unfold justB; rw [hT, hbb, hgb]
  have htn : decide (tabAt c.objs.tables g.schema g.table < 0) = !tb := by rw [← htb]; by_cases h : 0 ≤ tabAt c.objs.tables g.schema g.table <;> simp [h] <;> omega
  have HE1 := Lib.hid (show (p = false ∨ kd = false ∨ e0 = true) → giveR c g = (noC, 1) from fun h => by
    unfold giveR; rw [hp, hkd, he0]
    rcases h with rfl | rfl | rfl <;> simp)
  have HE61 := Lib.hid (show p = true → kd = true → e0 = false → tb = false → giveR c g = (noC, 61) from fun h1 h2 h3 h4 => by
    subst h1 h2 h3 h4
    unfold giveR; rw [hp, hkd, he0, if_neg (by simp), if_pos (of_decide_eq_true (htn.trans rfl))])
  have HE71 := Lib.hid (show p = true → kd = true → e0 = false → tb = true → (n1 = false ∨ n2 = false) → giveR c g = (noC, 71) from fun h1 h2 h3 h4 h5 => by
    subst h1 h2 h3 h4
    unfold giveR; rw [hp, hkd, he0, hn1, hn2, if_neg (by simp), if_neg (of_decide_eq_false (htn.trans rfl)), if_pos (by rcases h5 with rfl | rfl <;> simp)])
  have HE91 := Lib.hid (show p = true → kd = true → e0 = false → tb = true → n1 = true → n2 = true → (bb || gb) = false → giveR c g = (noC, 91) from fun h1 h2 h3 h4 h5 h6 h7 => by
    subst h1 h2 h3 h4 h5 h6
    unfold giveR; rw [hp, hkd, he0, hn1, hn2, hj, h7, if_neg (by simp), if_neg (of_decide_eq_false (htn.trans rfl)), if_neg (by simp), if_pos (by simp)])
  have HE2 := Lib.hid (show p = true → kd = true → e0 = false → tb = true → n1 = true → n2 = true → (bb || gb) = true → 64 ≤ c.grants.length → q = false → giveR c g = (noC, 2) from fun h1 h2 h3 h4 h5 h6 h7 h8 h9 => by
    subst h1 h2 h3 h4 h5 h6 h9
    unfold giveR; rw [hp, hkd, he0, hn1, hn2, hj, h7, hq, if_neg (by simp), if_neg (of_decide_eq_false (htn.trans rfl)), if_neg (by simp), if_neg (by simp), if_pos (by simpa using h8)])
  have HE0 := Lib.hid (show p = true → kd = true → e0 = false → tb = true → n1 = true → n2 = true → (bb || gb) = true → (c.grants.length < 64 ∨ q = true) → giveR c g = ({ c with grants := laid c.grants g }, 0) from fun h1 h2 h3 h4 h5 h6 h7 h8 => by
    subst h1 h2 h3 h4 h5 h6
    unfold giveR; rw [hp, hkd, he0, hn1, hn2, hj, h7, hq, if_neg (by simp), if_neg (of_decide_eq_false (htn.trans rfl)), if_neg (by simp), if_neg (by simp), if_neg (by
      rcases h8 with h8 | rfl
      · simp; omega
      · simp)])
  have HPW := Lib.hid (show p = true → wholeB c = true from fun h => hp.trans h)
  have HQ := Lib.hid hq
  have C1 := Lib.hid (hp ▸ wholeG c As caps At capt An capn Am capm Ag capg W (H.aft aW))
  have CK := Lib.hid (show ∀ V, Calls Tryz.prog 79 #[.int .i64 g.right] V fun e w'' => e = .returned (.bool kd) ∧ V = w'' from fun V => hkd ▸ kindG g.right V)
  have CT := Lib.hid (show ∀ V, Aft W V → Calls Tryz.prog 80 #[.agg #[.int .i64 c.epoch, .int .i64 c.version, .slice As c.objs.schemas.length caps, .slice At c.objs.tables.length capt, .slice An c.rols.names.length capn, .slice Am c.rols.members.length capm, .slice Ag c.grants.length capg], .string g.schema, .string g.table] V fun e w'' => ∃ (A2 : Option Addr) (c2 : Nat) (A3 : Option Addr) (c3 : Nat), e = .returned (.tuple #[.agg #[.string T.schema, .string T.name, .string T.owner, .slice A2 T.cols.length c2, .slice A3 T.rules.length c3], .bool tb]) ∧ Aft V w'' from fun V a => by
    have := tableG c As caps At capt An capn Am capm Ag capg g.schema g.table V (tabs_aft (aW.trans a) H.tab)
    unfold TabP at this
    rw [hT, htb] at this
    exact this)
  have CA := Lib.hid (show ∀ V, Aft W V → Calls Tryz.prog 83 #[.agg #[.slice An c.rols.names.length capn, .slice Am c.rols.members.length capm], .string g.giver] V (AllP c.rols g.giver V) from fun V a => all8 c.rols An capn Am capm g.giver V (strs_aft (aW.trans a) H.nam) (mbrs_aft (aW.trans a) H.mem) sg.2.2.1)
  have CN1 := Lib.hid (show ∀ V, Aft W V → Calls Tryz.prog 84 #[.slice An c.rols.names.length capn, .string g.giver] V fun e w'' => e = .returned (.bool n1) ∧ V = w'' from fun V a => hn1 ▸ scont8 An capn c.rols.names g.giver V (strs_aft (aW.trans a) H.nam))
  have CN2 := Lib.hid (show ∀ V, Aft W V → Calls Tryz.prog 84 #[.slice An c.rols.names.length capn, .string g.to] V fun e w'' => e = .returned (.bool n2) ∧ V = w'' from fun V a => hn2 ▸ scont8 An capn c.rols.names g.to V (strs_aft (aW.trans a) H.nam))
  have HTS := Lib.hid (show p = true → tb = true → T.schema = g.schema ∧ T.name = g.table ∧ 0 ≤ schAt c.objs.schemas g.schema from fun h1 h2 => by
    rw [← hT]
    exact stands_tab2 (whole_iff.1 (hp.trans h1)).1 (of_decide_eq_true (htb.trans h2)))
  have HBB := Lib.hid hbb
  have HGB := Lib.hid hgb
  obtain ⟨x0, x1, x2, x3, x4, x5, x6, xz⟩ := rowF7 r0
  obtain ⟨y0, y1, y2, y3, y4, y5, yz⟩ := rowF6 r1
  obtain ⟨u0, u1, u2, u3, u4, u5, u6, uz⟩ := rowF7 r2
  have v0 := r2.2.2 0 (by simp)
  have v1 := r2.2.2 1 (by simp)
  have v2 := r2.2.2 2 (by simp)
  have v3 := r2.2.2 3 (by simp)
  have v4 := r2.2.2 4 (by simp)
  have v5 := r2.2.2 5 (by simp)
  have v6 := r2.2.2 6 (by simp)
  clear H r0 r1 r2 aW hp hkd he0 htb hn1 hn2 hT hbb hgb hq hj htn hps
  go_enter Tryz.func35, Tryz.ntmps35
  go_wp2_with fail
  rw [← hW]
  clear hW
  go_wp2_with fail
  refine C1.out.mono ?_
  rintro e w1 ⟨rfl, a1⟩
  have HA1 := Lib.hid a1
  clear a1 C1
  clear x0 x1 x2 x3 x4 x5 x6 xz y0 y1 y2 y3 y4 y5 yz u0 u1 u2 u3 u4 u5 u6 uz v0 v1 v2 v3 v4 v5 v6
  have p0 := HR.out.1.aft (HA1.out)
  have p1 := HR.out.2.1.aft (HA1.out)
  have p2 := HR.out.2.2.aft (HA1.out)
  obtain ⟨x0, x1, x2, x3, x4, x5, x6, xz⟩ := rowF7 p0
  obtain ⟨y0, y1, y2, y3, y4, y5, yz⟩ := rowF6 p1
  obtain ⟨u0, u1, u2, u3, u4, u5, u6, uz⟩ := rowF7 p2
  have v0 := p2.2.2 0 (by simp)
  have v1 := p2.2.2 1 (by simp)
  have v2 := p2.2.2 2 (by simp)
  have v3 := p2.2.2 3 (by simp)
  have v4 := p2.2.2 4 (by simp)
  have v5 := p2.2.2 5 (by simp)
  have v6 := p2.2.2 6 (by simp)
  clear p0 p1 p2
  cases p
  · go_wp2_with fail
    refine bodyPost_ret (results_cell_tmp (v := .agg #[.int .i64 0, .int .i64 0, .slice none 0 0, .slice none 0 0, .slice none 0 0, .slice none 0 0, .slice none 0 0]) rfl _ rfl (lvCat_row (setC_row (HR.out.2.2.aft HA1.out) rfl _ _ _ _ _ _ _))) rfl ?_
    rw [HE1.out (by simp)]
    exact chgC_no ((setC_kb _ _ _ _ _ _ _ _ _).to_aft (HAW.out.trans HA1.out) (fun g hg e => by omega))
  go_wp2_with fail
  refine (CK.out w1).mono ?_
  rintro e w9 ⟨rfl, rfl⟩
  cases kd
  · go_wp2_with fail
    refine bodyPost_ret (results_cell_tmp (v := .agg #[.int .i64 0, .int .i64 0, .slice none 0 0, .slice none 0 0, .slice none 0 0, .slice none 0 0, .slice none 0 0]) rfl _ rfl (lvCat_row (setC_row (HR.out.2.2.aft HA1.out) rfl _ _ _ _ _ _ _))) rfl ?_
    rw [HE1.out (by simp)]
    exact chgC_no ((setC_kb _ _ _ _ _ _ _ _ _).to_aft (HAW.out.trans HA1.out) (fun g hg e => by omega))
  cases e0
  case true =>
    go_wp2_with fail
    refine bodyPost_ret (results_cell_tmp (v := .agg #[.int .i64 0, .int .i64 0, .slice none 0 0, .slice none 0 0, .slice none 0 0, .slice none 0 0, .slice none 0 0]) rfl _ rfl (lvCat_row (setC_row (HR.out.2.2.aft HA1.out) rfl _ _ _ _ _ _ _))) rfl ?_
    rw [HE1.out (by simp)]
    exact chgC_no ((setC_kb _ _ _ _ _ _ _ _ _).to_aft (HAW.out.trans HA1.out) (fun g hg e => by omega))
  obtain ⟨hg64, ⟨hck, hrr, _, _⟩, _, hri⟩ := stands_iff.1 (whole_iff.1 (HPW.out (by simp))).1
  have hrp := rightR_parts.1 hrr
  have C2 := Lib.hid (fun V (a : Aft W V) => HPS.out ▸ bsG Ag capg c.grants g V (HH.out.aft a).gra hri)
  have C3 := Lib.hid (fun V (a : Aft W V) => ownG c As caps At capt An capn Am capm Ag capg V (HH.out.aft a) hck (by omega) (by omega) (by omega))
  have HRI := Lib.hid (And.intro hri hg64)
  have HPL := Lib.hid (show ps ≤ c.grants.length by rw [← HPS.out]; exact posB_le _ _ _)
  have HLT := Lib.hid (show q = true → ∃ hl : ps < c.grants.length, laid c.grants g = c.grants.set ps { c.grants[ps] with opt := c.grants[ps].opt || g.opt } from fun h => by
    have ht : thereB cmpG c.grants g = true := by rw [there_inG hri, HQ.out]; exact h
    have hps := HPS.out
    subst hps
    exact ⟨there_lt ht, laid_set hri ht⟩)
  have HLF := Lib.hid (show q = false → laid c.grants g = insAt c.grants ps g from fun h => by rw [laid_new (HQ.out.trans h), HPS.out])
  clear hck hrr hri hrp hg64
  go_wp2_with fail
  refine (CT.out w1 HA1.out).mono ?_
  rintro e w2 ⟨A2, c2, A3, c3, rfl, a2⟩
  obtain ⟨Y, hY⟩ : ∃ V, V = w2.alloc (.cells #[.string T.schema, .string T.name, .string T.owner, .slice A2 T.cols.length c2, .slice A3 T.rules.length c3] 89) := ⟨_, rfl⟩
  have aY : Aft w2 Y := by rw [hY]; exact (Aft.refl _).alloc _
  have RY := Lib.hid (show RowAt Y w2.heap.size [.string T.schema, .string T.name, .string T.owner, .slice A2 T.cols.length c2, .slice A3 T.rules.length c3] by rw [hY]; exact box_row2 (Aft.refl _))
  have HAY := Lib.hid (HA1.out.trans (a2.trans aY))
  have S2 := Lib.hid (show w.heap.size + 1 + 1 < w2.heap.size from (HR.out.2.2.aft (HA1.out.trans a2)).1)
  clear x0 x1 x2 x3 x4 x5 x6 xz y0 y1 y2 y3 y4 y5 yz u0 u1 u2 u3 u4 u5 u6 uz v0 v1 v2 v3 v4 v5 v6
  have p0 := HR.out.1.aft (HAY.out)
  have p1 := HR.out.2.1.aft (HAY.out)
  have p2 := HR.out.2.2.aft (HAY.out)
  obtain ⟨x0, x1, x2, x3, x4, x5, x6, xz⟩ := rowF7 p0
  obtain ⟨y0, y1, y2, y3, y4, y5, yz⟩ := rowF6 p1
  obtain ⟨u0, u1, u2, u3, u4, u5, u6, uz⟩ := rowF7 p2
  have v0 := p2.2.2 0 (by simp)
  have v1 := p2.2.2 1 (by simp)
  have v2 := p2.2.2 2 (by simp)
  have v3 := p2.2.2 3 (by simp)
  have v4 := p2.2.2 4 (by simp)
  have v5 := p2.2.2 5 (by simp)
  have v6 := p2.2.2 6 (by simp)
  clear p0 p1 p2
  rw [hY] at x0 x1 x2 x3 x4 x5 x6 xz y0 y1 y2 y3 y4 y5 yz u0 u1 u2 u3 u4 u5 u6 uz v0 v1 v2 v3 v4 v5 v6
  clear a2 aY CT
  go_wp2_with fail
  rw [← hY]
  clear hY
  clear x0 x1 x2 x3 x4 x5 x6 xz y0 y1 y2 y3 y4 y5 yz u0 u1 u2 u3 u4 u5 u6 uz v0 v1 v2 v3 v4 v5 v6
  have p0 := HR.out.1.aft (HAY.out)
  have p1 := HR.out.2.1.aft (HAY.out)
  have p2 := HR.out.2.2.aft (HAY.out)
  obtain ⟨x0, x1, x2, x3, x4, x5, x6, xz⟩ := rowF7 p0
  obtain ⟨y0, y1, y2, y3, y4, y5, yz⟩ := rowF6 p1
  obtain ⟨u0, u1, u2, u3, u4, u5, u6, uz⟩ := rowF7 p2
  have v0 := p2.2.2 0 (by simp)
  have v1 := p2.2.2 1 (by simp)
  have v2 := p2.2.2 2 (by simp)
  have v3 := p2.2.2 3 (by simp)
  have v4 := p2.2.2 4 (by simp)
  have v5 := p2.2.2 5 (by simp)
  have v6 := p2.2.2 6 (by simp)
  clear p0 p1 p2
  refine (C2.out Y HAY.out).mono ?_
  rintro e w3 ⟨rfl, a3⟩
  have HA3 := Lib.hid (HAY.out.trans a3)
  have RY3 := Lib.hid (RY.out.aft a3)
  rw [there_inG HRI.out.1, HQ.out]
  clear x0 x1 x2 x3 x4 x5 x6 xz y0 y1 y2 y3 y4 y5 yz u0 u1 u2 u3 u4 u5 u6 uz v0 v1 v2 v3 v4 v5 v6
  have p0 := HR.out.1.aft (HA3.out)
  have p1 := HR.out.2.1.aft (HA3.out)
  have p2 := HR.out.2.2.aft (HA3.out)
  obtain ⟨x0, x1, x2, x3, x4, x5, x6, xz⟩ := rowF7 p0
  obtain ⟨y0, y1, y2, y3, y4, y5, yz⟩ := rowF6 p1
  obtain ⟨u0, u1, u2, u3, u4, u5, u6, uz⟩ := rowF7 p2
  have v0 := p2.2.2 0 (by simp)
  have v1 := p2.2.2 1 (by simp)
  have v2 := p2.2.2 2 (by simp)
  have v3 := p2.2.2 3 (by simp)
  have v4 := p2.2.2 4 (by simp)
  have v5 := p2.2.2 5 (by simp)
  have v6 := p2.2.2 6 (by simp)
  clear p0 p1 p2
  clear a3 C2
  go_wp2_with fail
  refine (CA.out w3 HA3.out).mono ?_
  rintro e w4 ⟨h, rfl, a4, ho⟩
  have HA4 := Lib.hid (HA3.out.trans a4)
  have RY4 := Lib.hid (RY3.out.aft a4)
  have HO := Lib.hid ho
  rw [own_slice ho]
  clear x0 x1 x2 x3 x4 x5 x6 xz y0 y1 y2 y3 y4 y5 yz u0 u1 u2 u3 u4 u5 u6 uz v0 v1 v2 v3 v4 v5 v6
  have p0 := HR.out.1.aft (HA4.out)
  have p1 := HR.out.2.1.aft (HA4.out)
  have p2 := HR.out.2.2.aft (HA4.out)
  obtain ⟨x0, x1, x2, x3, x4, x5, x6, xz⟩ := rowF7 p0
  obtain ⟨y0, y1, y2, y3, y4, y5, yz⟩ := rowF6 p1
  obtain ⟨u0, u1, u2, u3, u4, u5, u6, uz⟩ := rowF7 p2
  have v0 := p2.2.2 0 (by simp)
  have v1 := p2.2.2 1 (by simp)
  have v2 := p2.2.2 2 (by simp)
  have v3 := p2.2.2 3 (by simp)
  have v4 := p2.2.2 4 (by simp)
  have v5 := p2.2.2 5 (by simp)
  have v6 := p2.2.2 6 (by simp)
  clear p0 p1 p2
  clear a4 ho CA
  cases tb
  case false =>
    go_wp2_with fail
    refine bodyPost_ret (results_cell_tmp (v := .agg #[.int .i64 0, .int .i64 0, .slice none 0 0, .slice none 0 0, .slice none 0 0, .slice none 0 0, .slice none 0 0]) rfl _ rfl (lvCat_row (setC_row (HR.out.2.2.aft HA4.out) rfl _ _ _ _ _ _ _))) rfl ?_
    rw [HE61.out (by simp) (by simp) (by simp) (by simp)]
    exact chgC_no ((setC_kb _ _ _ _ _ _ _ _ _).to_aft (HAW.out.trans HA4.out) (fun g hg e => by omega))
  go_wp2_with fail
  refine (CN1.out w4 HA4.out).mono ?_
  rintro e w9 ⟨rfl, rfl⟩
  cases n1
  case false =>
    go_wp2_with fail
    refine bodyPost_ret (results_cell_tmp (v := .agg #[.int .i64 0, .int .i64 0, .slice none 0 0, .slice none 0 0, .slice none 0 0, .slice none 0 0, .slice none 0 0]) rfl _ rfl (lvCat_row (setC_row (HR.out.2.2.aft HA4.out) rfl _ _ _ _ _ _ _))) rfl ?_
    rw [HE71.out (by simp) (by simp) (by simp) (by simp) (by simp)]
    exact chgC_no ((setC_kb _ _ _ _ _ _ _ _ _).to_aft (HAW.out.trans HA4.out) (fun g hg e => by omega))
  go_wp2_with fail
  refine (CN2.out w4 HA4.out).mono ?_
  rintro e w9 ⟨rfl, rfl⟩
  cases n2
  case false =>
    go_wp2_with fail
    refine bodyPost_ret (results_cell_tmp (v := .agg #[.int .i64 0, .int .i64 0, .slice none 0 0, .slice none 0 0, .slice none 0 0, .slice none 0 0, .slice none 0 0]) rfl _ rfl (lvCat_row (setC_row (HR.out.2.2.aft HA4.out) rfl _ _ _ _ _ _ _))) rfl ?_
    rw [HE71.out (by simp) (by simp) (by simp) (by simp) (by simp)]
    exact chgC_no ((setC_kb _ _ _ _ _ _ _ _ _).to_aft (HAW.out.trans HA4.out) (fun g hg e => by omega))
  obtain ⟨ts, tn, hsc⟩ := HTS.out (by simp) (by simp)
  have sn := sm_names (strs_aft (HA4.out) HH.out.nam)
  have hal := allL_len c.rols g.giver
  have sl := own_slf (R := StrR) nameC HO.out (fun x hx => ⟨rfl, rfl, sn.2 x (allL_mem hx)⟩) (by have := sn.1; unfold Small at *; omega)
  have CB := Lib.hid (show Calls Tryz.prog 85 #[.agg #[.int .i64 c.epoch, .int .i64 c.version, .slice As c.objs.schemas.length caps, .slice At c.objs.tables.length capt, .slice An c.rols.names.length capn, .slice Am c.rols.members.length capm, .slice Ag c.grants.length capg], .slice h.a (allL c.rols g.giver).length h.c, .agg #[.string T.schema, .string T.name, .string T.owner, .slice A2 T.cols.length c2, .slice A3 T.rules.length c3]] w4 fun e w'' => e = .returned (.bool bb) ∧ Aft w4 w'' from
    HBB.out ▸ bossG c As caps At capt An capn Am capm Ag capg (allL c.rols g.giver) h.a h.c T.schema T.name T.owner A2 _ c2 A3 _ c3 T ⟨rfl, rfl⟩ w4 (HH.out.aft HA4.out) sl (by rw [ts]; exact hsc))
  have CG := Lib.hid (show ∀ V, Aft w4 V → Calls Tryz.prog 86 #[.slice Ag c.grants.length capg, .slice h.a (allL c.rols g.giver).length h.c, .agg #[.string T.schema, .string T.name, .string T.owner, .slice A2 T.cols.length c2, .slice A3 T.rules.length c3], .int .i64 g.right, .bool true] V fun e w'' => e = .returned (.bool gb) ∧ Aft V w'' from fun V a => by
    have := givenG c.grants Ag capg (allL c.rols g.giver) h.a h.c T.schema T.name T.owner A2 T.cols.length c2 A3 T.rules.length c3 g.right true V (HH.out.aft (HA4.out.trans a)).gra (strs_aft a sl)
    rw [ts, tn] at this ⊢
    rw [HGB.out] at this
    exact this)
  obtain ⟨t0, t1, t2, t3, t4, tz⟩ := rowF5 RY4.out
  clear ts tn hsc sn hal sl
  go_wp2_with fail
  refine CB.out.mono ?_
  rintro e w5 ⟨rfl, a5⟩
  have HA5 := Lib.hid (HA4.out.trans a5)
  have HA45 := Lib.hid a5
  have RY5 := Lib.hid (RY4.out.aft a5)
  clear x0 x1 x2 x3 x4 x5 x6 xz y0 y1 y2 y3 y4 y5 yz u0 u1 u2 u3 u4 u5 u6 uz v0 v1 v2 v3 v4 v5 v6
  have p0 := HR.out.1.aft (HA5.out)
  have p1 := HR.out.2.1.aft (HA5.out)
  have p2 := HR.out.2.2.aft (HA5.out)
  obtain ⟨x0, x1, x2, x3, x4, x5, x6, xz⟩ := rowF7 p0
  obtain ⟨y0, y1, y2, y3, y4, y5, yz⟩ := rowF6 p1
  obtain ⟨u0, u1, u2, u3, u4, u5, u6, uz⟩ := rowF7 p2
  have v0 := p2.2.2 0 (by simp)
  have v1 := p2.2.2 1 (by simp)
  have v2 := p2.2.2 2 (by simp)
  have v3 := p2.2.2 3 (by simp)
  have v4 := p2.2.2 4 (by simp)
  have v5 := p2.2.2 5 (by simp)
  have v6 := p2.2.2 6 (by simp)
  clear p0 p1 p2
  clear t0 t1 t2 t3 t4 tz
  obtain ⟨t0, t1, t2, t3, t4, tz⟩ := rowF5 RY5.out
  clear a5 CB
  cases bb
  case true =>
    have HE0' := Lib.hid (HE0.out (by simp) (by simp) (by simp) (by simp) (by simp) (by simp) (by simp))
    have CO := Lib.hid (C3.out w5 HA5.out)
    by_cases h64 : 64 ≤ c.grants.length
    · have h64i : (64 : Int) ≤ (c.grants.length : Int) := by omega
      cases q
      · go_wp2_with fail
        refine bodyPost_ret (results_cell_tmp (v := .agg #[.int .i64 0, .int .i64 0, .slice none 0 0, .slice none 0 0, .slice none 0 0, .slice none 0 0, .slice none 0 0]) rfl _ rfl (lvCat_row (setC_row (HR.out.2.2.aft HA5.out) rfl _ _ _ _ _ _ _))) rfl ?_
        rw [HE2.out (by simp) (by simp) (by simp) (by simp) (by simp) (by simp) (by simp) h64 (by simp)]
        exact chgC_no ((setC_kb _ _ _ _ _ _ _ _ _).to_aft (HAW.out.trans HA5.out) (fun g hg e => by omega))
      · go_wp2_with fail
        refine CO.out.mono ?_
        rintro e w7 ⟨hs, ht, hn, hm, hg, L, rfl, a7, ci⟩
        obtain ⟨Bs, nBs, bcs⟩ := hs
        obtain ⟨Bt, nBt, bct⟩ := ht
        obtain ⟨Bn, nBn, bcn⟩ := hn
        obtain ⟨Bm, nBm, bcm⟩ := hm
        obtain ⟨Bg, nBg, bcg⟩ := hg
        obtain rfl : nBg = c.grants.length := own_n ci.gra
        simp only [CatV]
        obtain ⟨X, hX⟩ : ∃ V, V = w7.alloc (.cells #[.int .i64 c.epoch, .int .i64 c.version, .slice Bs c.objs.schemas.length bcs, .slice Bt c.objs.tables.length bct, .slice Bn c.rols.names.length bcn, .slice Bm c.rols.members.length bcm, .slice Bg c.grants.length bcg] 66) := ⟨_, rfl⟩
        have aX : Aft w7 X := by rw [hX]; exact (Aft.refl _).alloc _
        have RB := Lib.hid (show RowAt X w7.heap.size [.int .i64 c.epoch, .int .i64 c.version, .slice Bs c.objs.schemas.length bcs, .slice Bt c.objs.tables.length bct, .slice Bn c.rols.names.length bcn, .slice Bm c.rols.members.length bcm, .slice Bg c.grants.length bcg] by rw [hX]; exact box_row2 (Aft.refl _))
        have CI := Lib.hid (ci.aft aX)
        have CIL := Lib.hid (fun g' (h : CatBlk ⟨Bs, nBs, bcs⟩ ⟨Bt, nBt, bct⟩ ⟨Bn, nBn, bcn⟩ ⟨Bm, nBm, bcm⟩ L g' ∨ g' ∈ (Hd.mk Bg c.grants.length bcg).blk) => ci.lt h)
        have HA7 := Lib.hid (HA5.out.trans (a7.trans aX))
        have S27 := Lib.hid (show w.heap.size + 1 + 1 < w5.heap.size ∧ w5.heap.size ≤ w7.heap.size ∧ w7.heap.size < X.heap.size from ⟨(HR.out.2.2.aft HA5.out).1, a7.size, RB.out.1⟩)
        have hpl' := HPL.out
        have hg64' := HRI.out.2
        clear a7 ci aX CO t0 t1 t2 t3 t4 tz
        obtain ⟨hl, hla⟩ := HLT.out (by simp)
        obtain ⟨gg, cap, hv, hgB, hnc, hrow⟩ := own_rowAt CI.out.gra (by omega)
        simp only [Hd.v, Value.slice.injEq, true_and] at hv
        obtain ⟨rfl, rfl⟩ := hv
        obtain ⟨y, hy⟩ : ∃ y, c.grants[ps] = y := ⟨_, rfl⟩
        rw [hy] at hla
        obtain ⟨oy, hoy⟩ : ∃ b, y.opt = b := ⟨_, rfl⟩
        obtain ⟨og, hog⟩ : ∃ b, g.opt = b := ⟨_, rfl⟩
        have hgc : X.cell? ⟨gg, ps * 6 + 5, none⟩ = some (.bool oy) := by
          have := own_cell (f := graC) (h := ⟨some ⟨gg, 0, none⟩, c.grants.length, bcg⟩) CI.out.gra (fun _ => rfl) rfl hl (j := 5) (by decide)
          rw [this, hy, ← hoy]; rfl
        have hgf : X.frozen? ⟨gg, ps * 6 + 5, none⟩ = false := hrow.2.2 _ (by rw [flatMap_len (f := graC) (size := 6) (fun _ => rfl)]; omega)
        have hgl := (CIL.out gg (.inr (Hd.mem_blk.2 rfl)))
        have gz := hrow.1
        obtain ⟨Y, hY⟩ : ∃ V, V = ((w7.setCell ⟨gg, ps * 6 + 5, none⟩ (.bool (oy || og))).alloc (.cells #[.int .i64 c.epoch, .int .i64 c.version, .slice Bs c.objs.schemas.length bcs, .slice Bt c.objs.tables.length bct, .slice Bn c.rols.names.length bcn, .slice Bm c.rols.members.length bcm, .slice (some ⟨gg, 0, none⟩) c.grants.length bcg] 66)).drew := ⟨_, rfl⟩
        have eY : Y = (X.setCell ⟨gg, ps * 6 + 5, none⟩ (.bool (oy || og))).drew := by rw [hY, hX, World.setCell_alloc_past _ _ _ _ hgl.2]
        have kY : Kb (fun g => g = gg) X Y := by rw [eY]; exact (Kb.set _ _ _ _).trans (Kb.of_aft (Aft.refl _).drew)
        have hgm : gg ∈ (Hd.mk (some ⟨gg, 0, none⟩) c.grants.length bcg).blk := Hd.mem_blk.2 rfl
        have oY : Y.ownsRow w5.heap.size 76 6 (Hd.mk (some ⟨gg, 0, none⟩) c.grants.length bcg).v (laid c.grants g).length ((laid c.grants g).flatMap graC) := by
          rw [eY, hla, List.length_set, ← flatMap_set (f := graC) (size := 6) (fun _ => rfl) c.grants ps 5 hl (by decide) (.bool (oy || og)) _ (by rw [hy, ← hoy, ← hog]; rfl)]
          exact own_aft (own_set CI.out.gra rfl _ _) (Aft.refl _).drew
        have CIY := Lib.hid (CI.out.newG (hg' := ⟨some ⟨gg, 0, none⟩, c.grants.length, bcg⟩) (l := laid c.grants g) kY (fun g' h1 e => by
          have e : g' = gg := e
          rcases h1 with h1 | h1
          · exact (CI.out.dis g' h1).2 (e ▸ hgm)
          · exact CI.out.dis2 g' h1 (e ▸ hgm)) oY (fun g' h1 => .inl h1))
        have LN := Lib.hid (show (laid c.grants g).length = c.grants.length by rw [hla, List.length_set])
        have rbY := kY.row RB.out (by omega)
        have r2Y := kY.row (HR.out.2.2.aft HA7.out) (by have := S27.out; omega)
        have R2Y := Lib.hid r2Y
        have HAY2 := Lib.hid (kY.to_aft (HAW.out.trans HA7.out) (fun k hk e => by have e : k = _ := e; have := S27.out; omega))
        have HT := Lib.hid (HE0'.out (by simp))
        clear x0 x1 x2 x3 x4 x5 x6 xz y0 y1 y2 y3 y4 y5 yz u0 u1 u2 u3 u4 u5 u6 uz v0 v1 v2 v3 v4 v5 v6
        have p1 := HR.out.2.1.aft HA7.out
        have y5 := p1.cell (j := 5) rfl
        have yz := p1.1
        rw [hog] at y5
        have z6 := RB.out.cell (j := 6) rfl
        have zz := RB.out.1
        obtain ⟨q0, q1, q2, q3, q4, q5, q6, qz⟩ := rowF7 rbY
        obtain ⟨u0, u1, u2, u3, u4, u5, u6, uz⟩ := rowF7 r2Y
        have v0 := r2Y.2.2 0 (by simp)
        have v1 := r2Y.2.2 1 (by simp)
        have v2 := r2Y.2.2 2 (by simp)
        have v3 := r2Y.2.2 3 (by simp)
        have v4 := r2Y.2.2 4 (by simp)
        have v5 := r2Y.2.2 5 (by simp)
        have v6 := r2Y.2.2 6 (by simp)
        rw [hY] at q0 q1 q2 q3 q4 q5 q6 qz u0 u1 u2 u3 u4 u5 u6 uz v0 v1 v2 v3 v4 v5 v6
        rw [hX] at z6 zz hgc hgf gz y5 yz
        clear p1 kY eY hgm oY rbY r2Y hoy hog hla hy hrow hnc HLT HLF HE0'
        cases oy <;> cases og
        all_goals
          (try simp only [Bool.or_true, Bool.or_false, Bool.true_or, Bool.false_or, Bool.or_self] at q0 q1 q2 q3 q4 q5 q6 qz u0 u1 u2 u3 u4 u5 u6 uz v0 v1 v2 v3 v4 v5 v6 hY)
          go_wp2_with fail
          go_region
          all_goals
            go_wp2_with fail
            (try simp only [Exit.inBlock, Exit.then])
            (try simp only [Bool.or_true, Bool.or_false, Bool.true_or, Bool.false_or] at hY)
            (first | rw [← hY] | rw [setC_drew, ← hY])
            refine bodyPost_ret (results_cell_tmp (v := .agg #[.int .i64 c.epoch, .int .i64 c.version, .slice Bs c.objs.schemas.length bcs, .slice Bt c.objs.tables.length bct, .slice Bn c.rols.names.length bcn, .slice Bm c.rols.members.length bcm, .slice (some ⟨gg, 0, none⟩) c.grants.length bcg]) rfl _ rfl (lvCat_row (setC_row R2Y.out rfl _ _ _ _ _ _ _))) rfl ?_
            have kF := setC_kb Y (w.heap.size + 1 + 1) (.int .i64 c.epoch) (.int .i64 c.version) (.slice Bs c.objs.schemas.length bcs) (.slice Bt c.objs.tables.length bct) (.slice Bn c.rols.names.length bcn) (.slice Bm c.rols.members.length bcm) (.slice (some ⟨gg, 0, none⟩) c.grants.length bcg)
            rw [HT.out]
            obtain ⟨s1, s2, s3⟩ := S27.out
            refine ⟨⟨Bs, nBs, bcs⟩, ⟨Bt, nBt, bct⟩, ⟨Bn, nBn, bcn⟩, ⟨Bm, nBm, bcm⟩, ⟨some ⟨gg, 0, none⟩, c.grants.length, bcg⟩, L, by rw [catV_gra, LN.out]; rfl, kF.to_aft HAY2.out (fun k hk e => by have e : k = _ := e; omega), (CIY.out.kb kF (fun g' h1 e => by
              have e : g' = w.heap.size + 1 + 1 := e
              have := (CIY.out.lt h1).1
              omega)).down (by omega)⟩
    · have h64i : ¬ (64 : Int) ≤ (c.grants.length : Int) := by omega
      cases q
      · go_wp2_with fail
        refine CO.out.mono ?_
        rintro e w7 ⟨hs, ht, hn, hm, hg, L, rfl, a7, ci⟩
        obtain ⟨Bs, nBs, bcs⟩ := hs
        obtain ⟨Bt, nBt, bct⟩ := ht
        obtain ⟨Bn, nBn, bcn⟩ := hn
        obtain ⟨Bm, nBm, bcm⟩ := hm
        obtain ⟨Bg, nBg, bcg⟩ := hg
        obtain rfl : nBg = c.grants.length := own_n ci.gra
        simp only [CatV]
        obtain ⟨X, hX⟩ : ∃ V, V = w7.alloc (.cells #[.int .i64 c.epoch, .int .i64 c.version, .slice Bs c.objs.schemas.length bcs, .slice Bt c.objs.tables.length bct, .slice Bn c.rols.names.length bcn, .slice Bm c.rols.members.length bcm, .slice Bg c.grants.length bcg] 66) := ⟨_, rfl⟩
        have aX : Aft w7 X := by rw [hX]; exact (Aft.refl _).alloc _
        have RB := Lib.hid (show RowAt X w7.heap.size [.int .i64 c.epoch, .int .i64 c.version, .slice Bs c.objs.schemas.length bcs, .slice Bt c.objs.tables.length bct, .slice Bn c.rols.names.length bcn, .slice Bm c.rols.members.length bcm, .slice Bg c.grants.length bcg] by rw [hX]; exact box_row2 (Aft.refl _))
        have CI := Lib.hid (ci.aft aX)
        have CIL := Lib.hid (fun g' (h : CatBlk ⟨Bs, nBs, bcs⟩ ⟨Bt, nBt, bct⟩ ⟨Bn, nBn, bcn⟩ ⟨Bm, nBm, bcm⟩ L g' ∨ g' ∈ (Hd.mk Bg c.grants.length bcg).blk) => ci.lt h)
        have HA7 := Lib.hid (HA5.out.trans (a7.trans aX))
        have S27 := Lib.hid (show w.heap.size + 1 + 1 < w5.heap.size ∧ w5.heap.size ≤ w7.heap.size ∧ w7.heap.size < X.heap.size from ⟨(HR.out.2.2.aft HA5.out).1, a7.size, RB.out.1⟩)
        have hpl' := HPL.out
        have hg64' := HRI.out.2
        clear a7 ci aX CO t0 t1 t2 t3 t4 tz
        have OX := Lib.hid (show OutAt X w5.heap.size w7.heap.size c ⟨Bs, nBs, bcs⟩ ⟨Bt, nBt, bct⟩ ⟨Bn, nBn, bcn⟩ ⟨Bm, nBm, bcm⟩ ⟨Bg, c.grants.length, bcg⟩ L from ⟨RB.out, CI.out, fun g' hg => by have := (CIL.out g' hg).2; omega⟩)
        have HLD := Lib.hid (HLF.out (by simp))
        have HT := Lib.hid (HE0'.out (by first | (simp; done) | (simp; omega)))
        obtain ⟨V, hV⟩ : ∃ V, V = X.alloc (.cells #[.string g.schema, .string g.table, .int .i64 g.right, .string g.giver, .string g.to, .bool g.opt] 76) := ⟨_, rfl⟩
        have aV : Aft X V := by rw [hV]; exact (Aft.refl X).alloc _
        have zX : X.heap.size = w7.heap.size + 1 := by rw [hX]; simp
        have zV : V.heap.size = X.heap.size + 1 := by rw [hV]; simp
        have oV : V.ownsRow w5.heap.size 76 6 (.slice Bg c.grants.length bcg) c.grants.length (c.grants.flatMap graC) := own_aft CI.out.gra aV
        have hlt : ∀ g', (Value.slice Bg c.grants.length bcg).ownBlock = some g' → w5.heap.size ≤ g' ∧ g' < X.heap.size := fun g' hg => by have := CIL.out g' (.inr (Hd.mem_blk.2 hg)); have := S27.out; omega
        have CINS := Lib.hid (insGra Bg c.grants.length bcg ps w5.heap.size (w7.heap.size + 1) (c.grants.flatMap graC) g V oV hpl' (oneC_cells oneC_gra _) (by rw [hV, ← zX]; exact heap_alloc_new X _) (fun e => by have := (hlt _ e).2; omega) (by omega) (by have := S27.out; omega))
        have n1 : ¬ InV (.slice Bg c.grants.length bcg) w7.heap.size := fun h => by have := (CIL.out _ (.inr (Hd.mem_blk.2 h))).2; omega
        have n2 : ¬ InV (.slice Bg c.grants.length bcg) (w.heap.size + 1) := fun h => by have := (hlt _ h).1; have := S27.out; omega
        have e1 : (insAt c.grants ps g).length = c.grants.length + 1 := insAt_len _ _ _ hpl'
        have e2 : (insAt c.grants ps g).flatMap graC = (c.grants.flatMap graC).take (ps * 6) ++ [.string g.schema, .string g.table, .int .i64 g.right, .string g.giver, .string g.to, .bool g.opt] ++ (c.grants.flatMap graC).drop (ps * 6) := by
          unfold insAt
          rw [List.flatMap_append, List.flatMap_append, flatMap_take (size := 6) (fun _ => rfl), flatMap_drop (size := 6) (fun _ => rfl)]
          rfl
        have KE := Lib.hid (show ∀ (A5 : Option Addr) (n5 c5 : Nat) (vx6 : World), vx6.ownsRow w5.heap.size 76 6 (.slice A5 n5 c5) (c.grants.length + 1) ((c.grants.flatMap graC).take (ps * 6) ++ [.string g.schema, .string g.table, .int .i64 g.right, .string g.giver, .string g.to, .bool g.opt] ++ (c.grants.flatMap graC).drop (ps * 6)) → Kb (InV (.slice Bg c.grants.length bcg)) V vx6 → (∀ g' ∈ (Hd.mk A5 n5 c5).blk, (Value.slice Bg c.grants.length bcg).ownBlock = some g' ∨ V.heap.size ≤ g') →
            ((vx6.cell? ⟨w7.heap.size, 6, none⟩ = some (.slice Bg c.grants.length bcg) ∧ vx6.frozen? ⟨w7.heap.size, 6, none⟩ = false ∧ w7.heap.size < vx6.heap.size) ∧ ((vx6.setCell ⟨w7.heap.size, 6, none⟩ (.slice A5 n5 c5)).cell? ⟨w7.heap.size, 0, none⟩ = some (.int .i64 c.epoch) ∧ (vx6.setCell ⟨w7.heap.size, 6, none⟩ (.slice A5 n5 c5)).cell? ⟨w7.heap.size, 1, none⟩ = some (.int .i64 c.version) ∧ (vx6.setCell ⟨w7.heap.size, 6, none⟩ (.slice A5 n5 c5)).cell? ⟨w7.heap.size, 2, none⟩ = some (.slice Bs c.objs.schemas.length bcs) ∧ (vx6.setCell ⟨w7.heap.size, 6, none⟩ (.slice A5 n5 c5)).cell? ⟨w7.heap.size, 3, none⟩ = some (.slice Bt c.objs.tables.length bct) ∧ (vx6.setCell ⟨w7.heap.size, 6, none⟩ (.slice A5 n5 c5)).cell? ⟨w7.heap.size, 4, none⟩ = some (.slice Bn c.rols.names.length bcn) ∧ (vx6.setCell ⟨w7.heap.size, 6, none⟩ (.slice A5 n5 c5)).cell? ⟨w7.heap.size, 5, none⟩ = some (.slice Bm c.rols.members.length bcm) ∧ (vx6.setCell ⟨w7.heap.size, 6, none⟩ (.slice A5 n5 c5)).cell? ⟨w7.heap.size, 6, none⟩ = some (.slice A5 n5 c5)) ∧ ((vx6.setCell ⟨w7.heap.size, 6, none⟩ (.slice A5 n5 c5)).cell? ⟨w.heap.size + 1 + 1, 0, none⟩ = some (.int .i64 0) ∧ (vx6.setCell ⟨w7.heap.size, 6, none⟩ (.slice A5 n5 c5)).frozen? ⟨w.heap.size + 1 + 1, 0, none⟩ = false ∧ (vx6.setCell ⟨w7.heap.size, 6, none⟩ (.slice A5 n5 c5)).cell? ⟨w.heap.size + 1 + 1, 1, none⟩ = some (.int .i64 0) ∧ (vx6.setCell ⟨w7.heap.size, 6, none⟩ (.slice A5 n5 c5)).frozen? ⟨w.heap.size + 1 + 1, 1, none⟩ = false ∧ (vx6.setCell ⟨w7.heap.size, 6, none⟩ (.slice A5 n5 c5)).cell? ⟨w.heap.size + 1 + 1, 2, none⟩ = some (.slice none 0 0) ∧ (vx6.setCell ⟨w7.heap.size, 6, none⟩ (.slice A5 n5 c5)).frozen? ⟨w.heap.size + 1 + 1, 2, none⟩ = false ∧ (vx6.setCell ⟨w7.heap.size, 6, none⟩ (.slice A5 n5 c5)).cell? ⟨w.heap.size + 1 + 1, 3, none⟩ = some (.slice none 0 0) ∧ (vx6.setCell ⟨w7.heap.size, 6, none⟩ (.slice A5 n5 c5)).frozen? ⟨w.heap.size + 1 + 1, 3, none⟩ = false ∧ (vx6.setCell ⟨w7.heap.size, 6, none⟩ (.slice A5 n5 c5)).cell? ⟨w.heap.size + 1 + 1, 4, none⟩ = some (.slice none 0 0) ∧ (vx6.setCell ⟨w7.heap.size, 6, none⟩ (.slice A5 n5 c5)).frozen? ⟨w.heap.size + 1 + 1, 4, none⟩ = false ∧ (vx6.setCell ⟨w7.heap.size, 6, none⟩ (.slice A5 n5 c5)).cell? ⟨w.heap.size + 1 + 1, 5, none⟩ = some (.slice none 0 0) ∧ (vx6.setCell ⟨w7.heap.size, 6, none⟩ (.slice A5 n5 c5)).frozen? ⟨w.heap.size + 1 + 1, 5, none⟩ = false ∧ (vx6.setCell ⟨w7.heap.size, 6, none⟩ (.slice A5 n5 c5)).cell? ⟨w.heap.size + 1 + 1, 6, none⟩ = some (.slice none 0 0) ∧ (vx6.setCell ⟨w7.heap.size, 6, none⟩ (.slice A5 n5 c5)).frozen? ⟨w.heap.size + 1 + 1, 6, none⟩ = false) ∧ w.heap.size + 1 + 1 < (vx6.setCell ⟨w7.heap.size, 6, none⟩ (.slice A5 n5 c5)).heap.size ∧ w7.heap.size < (vx6.setCell ⟨w7.heap.size, 6, none⟩ (.slice A5 n5 c5)).heap.size ∧
              Hid (n5 = c.grants.length + 1 ∧ ∃ Y, Y = vx6.setCell ⟨w7.heap.size, 6, none⟩ (.slice A5 n5 c5) ∧ RowAt Y (w.heap.size + 1 + 1) [.int .i64 0, .int .i64 0, .slice none 0 0, .slice none 0 0, .slice none 0 0, .slice none 0 0, .slice none 0 0] ∧ OutAt Y w5.heap.size w7.heap.size { c with grants := insAt c.grants ps g } ⟨Bs, nBs, bcs⟩ ⟨Bt, nBt, bct⟩ ⟨Bn, nBn, bcn⟩ ⟨Bm, nBm, bcm⟩ ⟨A5, n5, c5⟩ L ∧ Aft w Y)) from fun A5 n5 c5 vx6 o5 kb5 hb5 => by
          obtain rfl : n5 = c.grants.length + 1 := own_n (h := ⟨A5, n5, c5⟩) o5
          have kX := (Kb.of_aft (P := InV (.slice Bg c.grants.length bcg)) aV).trans kb5
          have nP : ∀ g', CatBlk ⟨Bs, nBs, bcs⟩ ⟨Bt, nBt, bct⟩ ⟨Bn, nBn, bcn⟩ ⟨Bm, nBm, bcm⟩ L g' → ¬ InV (.slice Bg c.grants.length bcg) g' := fun g' h1 h2 => by
            rcases h1 with h1 | h1
            · exact (CI.out.dis g' h1).2 (Hd.mem_blk.2 h2)
            · exact CI.out.dis2 g' h1 (Hd.mem_blk.2 h2)
          have OY := OX.out.store (h := ⟨A5, c.grants.length + 1, c5⟩) (l := insAt c.grants ps g) kX n1 nP (by rw [e1, e2]; exact o5) (fun g' hg => by
            rcases hb5 g' hg with h | h
            · exact .inl (Hd.mem_blk.2 h)
            · exact .inr (by omega))
          rw [e1] at OY
          have k6 := Kb.set vx6 w7.heap.size 6 (.slice A5 (c.grants.length + 1) c5)
          have UX := kX.row (HR.out.2.2.aft HA7.out) (fun h => by have := (hlt _ h).1; have := S27.out; omega)
          have UY := k6.row UX (by have := S27.out; omega)
          have q6 := kX.row RB.out n1
          have AY := k6.to_aft (kX.to_aft (HAW.out.trans HA7.out) (fun k hk e => by have := (hlt _ e).1; have := S27.out; omega)) (fun k hk e => by have e : k = _ := e; have := S27.out; omega)
          have o7 : RowAt (vx6.setCell ⟨w7.heap.size, 6, none⟩ (.slice A5 (c.grants.length + 1) c5)) w7.heap.size [.int .i64 c.epoch, .int .i64 c.version, .slice Bs c.objs.schemas.length bcs, .slice Bt c.objs.tables.length bct, .slice Bn c.rols.names.length bcn, .slice Bm c.rols.members.length bcm, .slice A5 (c.grants.length + 1) c5] := by
            have := OY.row
            simp only [CatL, e1] at this
            exact this
          exact ⟨⟨q6.cell (j := 6) rfl, q6.2.2 6 (by simp), q6.1⟩, ⟨o7.cell (j := 0) rfl, o7.cell (j := 1) rfl, o7.cell (j := 2) rfl, o7.cell (j := 3) rfl, o7.cell (j := 4) rfl, o7.cell (j := 5) rfl, o7.cell (j := 6) rfl⟩, ⟨UY.cell (j := 0) rfl, UY.2.2 0 (by simp), UY.cell (j := 1) rfl, UY.2.2 1 (by simp), UY.cell (j := 2) rfl, UY.2.2 2 (by simp), UY.cell (j := 3) rfl, UY.2.2 3 (by simp), UY.cell (j := 4) rfl, UY.2.2 4 (by simp), UY.cell (j := 5) rfl, UY.2.2 5 (by simp), UY.cell (j := 6) rfl, UY.2.2 6 (by simp)⟩, UY.1, o7.1, Lib.hid ⟨rfl, _, rfl, UY, OY, AY⟩⟩)
        have HVV := Lib.hid hV
        have LEN := Lib.hid (show (laid c.grants g).length = c.grants.length + 1 from by rw [HLD.out]; exact e1)
        have p1 := HR.out.2.1.aft HA7.out
        clear x0 x1 x2 x3 x4 x5 x6 xz y0 y1 y2 y3 y4 y5 yz u0 u1 u2 u3 u4 u5 u6 uz v0 v1 v2 v3 v4 v5 v6
        obtain ⟨y0, y1, y2, y3, y4, y5, yz⟩ := rowF6 p1
        have x6 := RB.out.cell (j := 6) rfl
        have xz := RB.out.1
        have ne9 : ¬ w.heap.size + 1 + 1 = w7.heap.size := by have := S27.out; omega
        have ne8 : ¬ w7.heap.size = w.heap.size + 1 + 1 := by omega
        rw [hX] at x6 xz y0 y1 y2 y3 y4 y5 yz
        clear p1 aV zX zV oV hlt hV e1 e2 HE0'
        go_wp2_with fail
        rw [← hX]
        rw [← HVV.out]
        refine CINS.out.mono ?_
        rintro e vx6 ⟨⟨A5, n5, c5⟩, rfl, o5, kb5, hb5⟩
        obtain ⟨⟨s6, sf, sz⟩, ⟨q0, q1, q2, q3, q4, q5, q6⟩, ⟨u0, v0, u1, v1, u2, v2, u3, v3, u4, v4, u5, v5, u6, v6⟩, uz, qz, HE⟩ := KE.out A5 n5 c5 vx6 o5 kb5 hb5
        clear o5 kb5 hb5 x6 xz y0 y1 y2 y3 y4 y5 yz
        simp only [Hd.v]
        go_wp2_with fail
        (try simp only [Exit.inBlock, Exit.then])
        obtain ⟨rfl, Y, hY, UY, OY, AY⟩ := HE.out
        rw [← hY]
        have hdn := OY.done UY rfl AY (by have := S27.out; omega) (by have := S27.out; omega)
        rw [← HLD.out] at hdn
        refine bodyPost_ret (results_cell_tmp (v := .agg #[.int .i64 c.epoch, .int .i64 c.version, .slice Bs c.objs.schemas.length bcs, .slice Bt c.objs.tables.length bct, .slice Bn c.rols.names.length bcn, .slice Bm c.rols.members.length bcm, .slice A5 (c.grants.length + 1) c5]) rfl _ rfl (lvCat_row (setC_row UY rfl _ _ _ _ _ _ _))) rfl ?_
        rw [HT.out]
        simp only [CatL, LEN.out] at hdn
        exact hdn.2
      · go_wp2_with fail
        refine CO.out.mono ?_
        rintro e w7 ⟨hs, ht, hn, hm, hg, L, rfl, a7, ci⟩
        obtain ⟨Bs, nBs, bcs⟩ := hs
        obtain ⟨Bt, nBt, bct⟩ := ht
        obtain ⟨Bn, nBn, bcn⟩ := hn
        obtain ⟨Bm, nBm, bcm⟩ := hm
        obtain ⟨Bg, nBg, bcg⟩ := hg
        obtain rfl : nBg = c.grants.length := own_n ci.gra
        simp only [CatV]
        obtain ⟨X, hX⟩ : ∃ V, V = w7.alloc (.cells #[.int .i64 c.epoch, .int .i64 c.version, .slice Bs c.objs.schemas.length bcs, .slice Bt c.objs.tables.length bct, .slice Bn c.rols.names.length bcn, .slice Bm c.rols.members.length bcm, .slice Bg c.grants.length bcg] 66) := ⟨_, rfl⟩
        have aX : Aft w7 X := by rw [hX]; exact (Aft.refl _).alloc _
        have RB := Lib.hid (show RowAt X w7.heap.size [.int .i64 c.epoch, .int .i64 c.version, .slice Bs c.objs.schemas.length bcs, .slice Bt c.objs.tables.length bct, .slice Bn c.rols.names.length bcn, .slice Bm c.rols.members.length bcm, .slice Bg c.grants.length bcg] by rw [hX]; exact box_row2 (Aft.refl _))
        have CI := Lib.hid (ci.aft aX)
        have CIL := Lib.hid (fun g' (h : CatBlk ⟨Bs, nBs, bcs⟩ ⟨Bt, nBt, bct⟩ ⟨Bn, nBn, bcn⟩ ⟨Bm, nBm, bcm⟩ L g' ∨ g' ∈ (Hd.mk Bg c.grants.length bcg).blk) => ci.lt h)
        have HA7 := Lib.hid (HA5.out.trans (a7.trans aX))
        have S27 := Lib.hid (show w.heap.size + 1 + 1 < w5.heap.size ∧ w5.heap.size ≤ w7.heap.size ∧ w7.heap.size < X.heap.size from ⟨(HR.out.2.2.aft HA5.out).1, a7.size, RB.out.1⟩)
        have hpl' := HPL.out
        have hg64' := HRI.out.2
        clear a7 ci aX CO t0 t1 t2 t3 t4 tz
        obtain ⟨hl, hla⟩ := HLT.out (by simp)
        obtain ⟨gg, cap, hv, hgB, hnc, hrow⟩ := own_rowAt CI.out.gra (by omega)
        simp only [Hd.v, Value.slice.injEq, true_and] at hv
        obtain ⟨rfl, rfl⟩ := hv
        obtain ⟨y, hy⟩ : ∃ y, c.grants[ps] = y := ⟨_, rfl⟩
        rw [hy] at hla
        obtain ⟨oy, hoy⟩ : ∃ b, y.opt = b := ⟨_, rfl⟩
        obtain ⟨og, hog⟩ : ∃ b, g.opt = b := ⟨_, rfl⟩
        have hgc : X.cell? ⟨gg, ps * 6 + 5, none⟩ = some (.bool oy) := by
          have := own_cell (f := graC) (h := ⟨some ⟨gg, 0, none⟩, c.grants.length, bcg⟩) CI.out.gra (fun _ => rfl) rfl hl (j := 5) (by decide)
          rw [this, hy, ← hoy]; rfl
        have hgf : X.frozen? ⟨gg, ps * 6 + 5, none⟩ = false := hrow.2.2 _ (by rw [flatMap_len (f := graC) (size := 6) (fun _ => rfl)]; omega)
        have hgl := (CIL.out gg (.inr (Hd.mem_blk.2 rfl)))
        have gz := hrow.1
        obtain ⟨Y, hY⟩ : ∃ V, V = ((w7.setCell ⟨gg, ps * 6 + 5, none⟩ (.bool (oy || og))).alloc (.cells #[.int .i64 c.epoch, .int .i64 c.version, .slice Bs c.objs.schemas.length bcs, .slice Bt c.objs.tables.length bct, .slice Bn c.rols.names.length bcn, .slice Bm c.rols.members.length bcm, .slice (some ⟨gg, 0, none⟩) c.grants.length bcg] 66)).drew := ⟨_, rfl⟩
        have eY : Y = (X.setCell ⟨gg, ps * 6 + 5, none⟩ (.bool (oy || og))).drew := by rw [hY, hX, World.setCell_alloc_past _ _ _ _ hgl.2]
        have kY : Kb (fun g => g = gg) X Y := by rw [eY]; exact (Kb.set _ _ _ _).trans (Kb.of_aft (Aft.refl _).drew)
        have hgm : gg ∈ (Hd.mk (some ⟨gg, 0, none⟩) c.grants.length bcg).blk := Hd.mem_blk.2 rfl
        have oY : Y.ownsRow w5.heap.size 76 6 (Hd.mk (some ⟨gg, 0, none⟩) c.grants.length bcg).v (laid c.grants g).length ((laid c.grants g).flatMap graC) := by
          rw [eY, hla, List.length_set, ← flatMap_set (f := graC) (size := 6) (fun _ => rfl) c.grants ps 5 hl (by decide) (.bool (oy || og)) _ (by rw [hy, ← hoy, ← hog]; rfl)]
          exact own_aft (own_set CI.out.gra rfl _ _) (Aft.refl _).drew
        have CIY := Lib.hid (CI.out.newG (hg' := ⟨some ⟨gg, 0, none⟩, c.grants.length, bcg⟩) (l := laid c.grants g) kY (fun g' h1 e => by
          have e : g' = gg := e
          rcases h1 with h1 | h1
          · exact (CI.out.dis g' h1).2 (e ▸ hgm)
          · exact CI.out.dis2 g' h1 (e ▸ hgm)) oY (fun g' h1 => .inl h1))
        have LN := Lib.hid (show (laid c.grants g).length = c.grants.length by rw [hla, List.length_set])
        have rbY := kY.row RB.out (by omega)
        have r2Y := kY.row (HR.out.2.2.aft HA7.out) (by have := S27.out; omega)
        have R2Y := Lib.hid r2Y
        have HAY2 := Lib.hid (kY.to_aft (HAW.out.trans HA7.out) (fun k hk e => by have e : k = _ := e; have := S27.out; omega))
        have HT := Lib.hid (HE0'.out (by simp))
        clear x0 x1 x2 x3 x4 x5 x6 xz y0 y1 y2 y3 y4 y5 yz u0 u1 u2 u3 u4 u5 u6 uz v0 v1 v2 v3 v4 v5 v6
        have p1 := HR.out.2.1.aft HA7.out
        have y5 := p1.cell (j := 5) rfl
        have yz := p1.1
        rw [hog] at y5
        have z6 := RB.out.cell (j := 6) rfl
        have zz := RB.out.1
        obtain ⟨q0, q1, q2, q3, q4, q5, q6, qz⟩ := rowF7 rbY
        obtain ⟨u0, u1, u2, u3, u4, u5, u6, uz⟩ := rowF7 r2Y
        have v0 := r2Y.2.2 0 (by simp)
        have v1 := r2Y.2.2 1 (by simp)
        have v2 := r2Y.2.2 2 (by simp)
        have v3 := r2Y.2.2 3 (by simp)
        have v4 := r2Y.2.2 4 (by simp)
        have v5 := r2Y.2.2 5 (by simp)
        have v6 := r2Y.2.2 6 (by simp)
        rw [hY] at q0 q1 q2 q3 q4 q5 q6 qz u0 u1 u2 u3 u4 u5 u6 uz v0 v1 v2 v3 v4 v5 v6
        rw [hX] at z6 zz hgc hgf gz y5 yz
        clear p1 kY eY hgm oY rbY r2Y hoy hog hla hy hrow hnc HLT HLF HE0'
        cases oy <;> cases og
        all_goals
          (try simp only [Bool.or_true, Bool.or_false, Bool.true_or, Bool.false_or, Bool.or_self] at q0 q1 q2 q3 q4 q5 q6 qz u0 u1 u2 u3 u4 u5 u6 uz v0 v1 v2 v3 v4 v5 v6 hY)
          go_wp2_with fail
          go_region
          all_goals
            go_wp2_with fail
            (try simp only [Exit.inBlock, Exit.then])
            (try simp only [Bool.or_true, Bool.or_false, Bool.true_or, Bool.false_or] at hY)
            (first | rw [← hY] | rw [setC_drew, ← hY])
            refine bodyPost_ret (results_cell_tmp (v := .agg #[.int .i64 c.epoch, .int .i64 c.version, .slice Bs c.objs.schemas.length bcs, .slice Bt c.objs.tables.length bct, .slice Bn c.rols.names.length bcn, .slice Bm c.rols.members.length bcm, .slice (some ⟨gg, 0, none⟩) c.grants.length bcg]) rfl _ rfl (lvCat_row (setC_row R2Y.out rfl _ _ _ _ _ _ _))) rfl ?_
            have kF := setC_kb Y (w.heap.size + 1 + 1) (.int .i64 c.epoch) (.int .i64 c.version) (.slice Bs c.objs.schemas.length bcs) (.slice Bt c.objs.tables.length bct) (.slice Bn c.rols.names.length bcn) (.slice Bm c.rols.members.length bcm) (.slice (some ⟨gg, 0, none⟩) c.grants.length bcg)
            rw [HT.out]
            obtain ⟨s1, s2, s3⟩ := S27.out
            refine ⟨⟨Bs, nBs, bcs⟩, ⟨Bt, nBt, bct⟩, ⟨Bn, nBn, bcn⟩, ⟨Bm, nBm, bcm⟩, ⟨some ⟨gg, 0, none⟩, c.grants.length, bcg⟩, L, by rw [catV_gra, LN.out]; rfl, kF.to_aft HAY2.out (fun k hk e => by have e : k = _ := e; omega), (CIY.out.kb kF (fun g' h1 e => by
              have e : g' = w.heap.size + 1 + 1 := e
              have := (CIY.out.lt h1).1
              omega)).down (by omega)⟩
  go_wp2_with fail
  refine (CG.out w5 HA45.out).mono ?_
  rintro e w6 ⟨rfl, a6⟩
  have HA6 := Lib.hid (HA5.out.trans a6)
  clear x0 x1 x2 x3 x4 x5 x6 xz y0 y1 y2 y3 y4 y5 yz u0 u1 u2 u3 u4 u5 u6 uz v0 v1 v2 v3 v4 v5 v6
  have p0 := HR.out.1.aft (HA6.out)
  have p1 := HR.out.2.1.aft (HA6.out)
  have p2 := HR.out.2.2.aft (HA6.out)
  obtain ⟨x0, x1, x2, x3, x4, x5, x6, xz⟩ := rowF7 p0
  obtain ⟨y0, y1, y2, y3, y4, y5, yz⟩ := rowF6 p1
  obtain ⟨u0, u1, u2, u3, u4, u5, u6, uz⟩ := rowF7 p2
  have v0 := p2.2.2 0 (by simp)
  have v1 := p2.2.2 1 (by simp)
  have v2 := p2.2.2 2 (by simp)
  have v3 := p2.2.2 3 (by simp)
  have v4 := p2.2.2 4 (by simp)
  have v5 := p2.2.2 5 (by simp)
  have v6 := p2.2.2 6 (by simp)
  clear p0 p1 p2
  clear a6
  cases gb
  case false =>
    go_wp2_with fail
    refine bodyPost_ret (results_cell_tmp (v := .agg #[.int .i64 0, .int .i64 0, .slice none 0 0, .slice none 0 0, .slice none 0 0, .slice none 0 0, .slice none 0 0]) rfl _ rfl (lvCat_row (setC_row (HR.out.2.2.aft HA6.out) rfl _ _ _ _ _ _ _))) rfl ?_
    rw [HE91.out (by simp) (by simp) (by simp) (by simp) (by simp) (by simp) (by simp)]
    exact chgC_no ((setC_kb _ _ _ _ _ _ _ _ _).to_aft (HAW.out.trans HA6.out) (fun g hg e => by omega))
  have HE0' := Lib.hid (HE0.out (by simp) (by simp) (by simp) (by simp) (by simp) (by simp) (by simp))
  have CO := Lib.hid (C3.out w6 HA6.out)
  by_cases h64 : 64 ≤ c.grants.length
  · have h64i : (64 : Int) ≤ (c.grants.length : Int) := by omega
    cases q
    · go_wp2_with fail
      refine bodyPost_ret (results_cell_tmp (v := .agg #[.int .i64 0, .int .i64 0, .slice none 0 0, .slice none 0 0, .slice none 0 0, .slice none 0 0, .slice none 0 0]) rfl _ rfl (lvCat_row (setC_row (HR.out.2.2.aft HA6.out) rfl _ _ _ _ _ _ _))) rfl ?_
      rw [HE2.out (by simp) (by simp) (by simp) (by simp) (by simp) (by simp) (by simp) h64 (by simp)]
      exact chgC_no ((setC_kb _ _ _ _ _ _ _ _ _).to_aft (HAW.out.trans HA6.out) (fun g hg e => by omega))
    · go_wp2_with fail
      refine CO.out.mono ?_
      rintro e w7 ⟨hs, ht, hn, hm, hg, L, rfl, a7, ci⟩
      obtain ⟨Bs, nBs, bcs⟩ := hs
      obtain ⟨Bt, nBt, bct⟩ := ht
      obtain ⟨Bn, nBn, bcn⟩ := hn
      obtain ⟨Bm, nBm, bcm⟩ := hm
      obtain ⟨Bg, nBg, bcg⟩ := hg
      obtain rfl : nBg = c.grants.length := own_n ci.gra
      simp only [CatV]
      obtain ⟨X, hX⟩ : ∃ V, V = w7.alloc (.cells #[.int .i64 c.epoch, .int .i64 c.version, .slice Bs c.objs.schemas.length bcs, .slice Bt c.objs.tables.length bct, .slice Bn c.rols.names.length bcn, .slice Bm c.rols.members.length bcm, .slice Bg c.grants.length bcg] 66) := ⟨_, rfl⟩
      have aX : Aft w7 X := by rw [hX]; exact (Aft.refl _).alloc _
      have RB := Lib.hid (show RowAt X w7.heap.size [.int .i64 c.epoch, .int .i64 c.version, .slice Bs c.objs.schemas.length bcs, .slice Bt c.objs.tables.length bct, .slice Bn c.rols.names.length bcn, .slice Bm c.rols.members.length bcm, .slice Bg c.grants.length bcg] by rw [hX]; exact box_row2 (Aft.refl _))
      have CI := Lib.hid (ci.aft aX)
      have CIL := Lib.hid (fun g' (h : CatBlk ⟨Bs, nBs, bcs⟩ ⟨Bt, nBt, bct⟩ ⟨Bn, nBn, bcn⟩ ⟨Bm, nBm, bcm⟩ L g' ∨ g' ∈ (Hd.mk Bg c.grants.length bcg).blk) => ci.lt h)
      have HA7 := Lib.hid (HA6.out.trans (a7.trans aX))
      have S27 := Lib.hid (show w.heap.size + 1 + 1 < w6.heap.size ∧ w6.heap.size ≤ w7.heap.size ∧ w7.heap.size < X.heap.size from ⟨(HR.out.2.2.aft HA6.out).1, a7.size, RB.out.1⟩)
      have hpl' := HPL.out
      have hg64' := HRI.out.2
      clear a7 ci aX CO t0 t1 t2 t3 t4 tz
      obtain ⟨hl, hla⟩ := HLT.out (by simp)
      obtain ⟨gg, cap, hv, hgB, hnc, hrow⟩ := own_rowAt CI.out.gra (by omega)
      simp only [Hd.v, Value.slice.injEq, true_and] at hv
      obtain ⟨rfl, rfl⟩ := hv
      obtain ⟨y, hy⟩ : ∃ y, c.grants[ps] = y := ⟨_, rfl⟩
      rw [hy] at hla
      obtain ⟨oy, hoy⟩ : ∃ b, y.opt = b := ⟨_, rfl⟩
      obtain ⟨og, hog⟩ : ∃ b, g.opt = b := ⟨_, rfl⟩
      have hgc : X.cell? ⟨gg, ps * 6 + 5, none⟩ = some (.bool oy) := by
        have := own_cell (f := graC) (h := ⟨some ⟨gg, 0, none⟩, c.grants.length, bcg⟩) CI.out.gra (fun _ => rfl) rfl hl (j := 5) (by decide)
        rw [this, hy, ← hoy]; rfl
      have hgf : X.frozen? ⟨gg, ps * 6 + 5, none⟩ = false := hrow.2.2 _ (by rw [flatMap_len (f := graC) (size := 6) (fun _ => rfl)]; omega)
      have hgl := (CIL.out gg (.inr (Hd.mem_blk.2 rfl)))
      have gz := hrow.1
      obtain ⟨Y, hY⟩ : ∃ V, V = ((w7.setCell ⟨gg, ps * 6 + 5, none⟩ (.bool (oy || og))).alloc (.cells #[.int .i64 c.epoch, .int .i64 c.version, .slice Bs c.objs.schemas.length bcs, .slice Bt c.objs.tables.length bct, .slice Bn c.rols.names.length bcn, .slice Bm c.rols.members.length bcm, .slice (some ⟨gg, 0, none⟩) c.grants.length bcg] 66)).drew := ⟨_, rfl⟩
      have eY : Y = (X.setCell ⟨gg, ps * 6 + 5, none⟩ (.bool (oy || og))).drew := by rw [hY, hX, World.setCell_alloc_past _ _ _ _ hgl.2]
      have kY : Kb (fun g => g = gg) X Y := by rw [eY]; exact (Kb.set _ _ _ _).trans (Kb.of_aft (Aft.refl _).drew)
      have hgm : gg ∈ (Hd.mk (some ⟨gg, 0, none⟩) c.grants.length bcg).blk := Hd.mem_blk.2 rfl
      have oY : Y.ownsRow w6.heap.size 76 6 (Hd.mk (some ⟨gg, 0, none⟩) c.grants.length bcg).v (laid c.grants g).length ((laid c.grants g).flatMap graC) := by
        rw [eY, hla, List.length_set, ← flatMap_set (f := graC) (size := 6) (fun _ => rfl) c.grants ps 5 hl (by decide) (.bool (oy || og)) _ (by rw [hy, ← hoy, ← hog]; rfl)]
        exact own_aft (own_set CI.out.gra rfl _ _) (Aft.refl _).drew
      have CIY := Lib.hid (CI.out.newG (hg' := ⟨some ⟨gg, 0, none⟩, c.grants.length, bcg⟩) (l := laid c.grants g) kY (fun g' h1 e => by
        have e : g' = gg := e
        rcases h1 with h1 | h1
        · exact (CI.out.dis g' h1).2 (e ▸ hgm)
        · exact CI.out.dis2 g' h1 (e ▸ hgm)) oY (fun g' h1 => .inl h1))
      have LN := Lib.hid (show (laid c.grants g).length = c.grants.length by rw [hla, List.length_set])
      have rbY := kY.row RB.out (by omega)
      have r2Y := kY.row (HR.out.2.2.aft HA7.out) (by have := S27.out; omega)
      have R2Y := Lib.hid r2Y
      have HAY2 := Lib.hid (kY.to_aft (HAW.out.trans HA7.out) (fun k hk e => by have e : k = _ := e; have := S27.out; omega))
      have HT := Lib.hid (HE0'.out (by simp))
      clear x0 x1 x2 x3 x4 x5 x6 xz y0 y1 y2 y3 y4 y5 yz u0 u1 u2 u3 u4 u5 u6 uz v0 v1 v2 v3 v4 v5 v6
      have p1 := HR.out.2.1.aft HA7.out
      have y5 := p1.cell (j := 5) rfl
      have yz := p1.1
      rw [hog] at y5
      have z6 := RB.out.cell (j := 6) rfl
      have zz := RB.out.1
      obtain ⟨q0, q1, q2, q3, q4, q5, q6, qz⟩ := rowF7 rbY
      obtain ⟨u0, u1, u2, u3, u4, u5, u6, uz⟩ := rowF7 r2Y
      have v0 := r2Y.2.2 0 (by simp)
      have v1 := r2Y.2.2 1 (by simp)
      have v2 := r2Y.2.2 2 (by simp)
      have v3 := r2Y.2.2 3 (by simp)
      have v4 := r2Y.2.2 4 (by simp)
      have v5 := r2Y.2.2 5 (by simp)
      have v6 := r2Y.2.2 6 (by simp)
      rw [hY] at q0 q1 q2 q3 q4 q5 q6 qz u0 u1 u2 u3 u4 u5 u6 uz v0 v1 v2 v3 v4 v5 v6
      rw [hX] at z6 zz hgc hgf gz y5 yz
      clear p1 kY eY hgm oY rbY r2Y hoy hog hla hy hrow hnc HLT HLF HE0'
      cases oy <;> cases og
      all_goals
        (try simp only [Bool.or_true, Bool.or_false, Bool.true_or, Bool.false_or, Bool.or_self] at q0 q1 q2 q3 q4 q5 q6 qz u0 u1 u2 u3 u4 u5 u6 uz v0 v1 v2 v3 v4 v5 v6 hY)
        go_wp2_with fail
        go_region
        all_goals
          go_wp2_with fail
          (try simp only [Exit.inBlock, Exit.then])
          (try simp only [Bool.or_true, Bool.or_false, Bool.true_or, Bool.false_or] at hY)
          (first | rw [← hY] | rw [setC_drew, ← hY])
          refine bodyPost_ret (results_cell_tmp (v := .agg #[.int .i64 c.epoch, .int .i64 c.version, .slice Bs c.objs.schemas.length bcs, .slice Bt c.objs.tables.length bct, .slice Bn c.rols.names.length bcn, .slice Bm c.rols.members.length bcm, .slice (some ⟨gg, 0, none⟩) c.grants.length bcg]) rfl _ rfl (lvCat_row (setC_row R2Y.out rfl _ _ _ _ _ _ _))) rfl ?_
          have kF := setC_kb Y (w.heap.size + 1 + 1) (.int .i64 c.epoch) (.int .i64 c.version) (.slice Bs c.objs.schemas.length bcs) (.slice Bt c.objs.tables.length bct) (.slice Bn c.rols.names.length bcn) (.slice Bm c.rols.members.length bcm) (.slice (some ⟨gg, 0, none⟩) c.grants.length bcg)
          rw [HT.out]
          obtain ⟨s1, s2, s3⟩ := S27.out
          refine ⟨⟨Bs, nBs, bcs⟩, ⟨Bt, nBt, bct⟩, ⟨Bn, nBn, bcn⟩, ⟨Bm, nBm, bcm⟩, ⟨some ⟨gg, 0, none⟩, c.grants.length, bcg⟩, L, by rw [catV_gra, LN.out]; rfl, kF.to_aft HAY2.out (fun k hk e => by have e : k = _ := e; omega), (CIY.out.kb kF (fun g' h1 e => by
            have e : g' = w.heap.size + 1 + 1 := e
            have := (CIY.out.lt h1).1
            omega)).down (by omega)⟩
  · have h64i : ¬ (64 : Int) ≤ (c.grants.length : Int) := by omega
    cases q
    · go_wp2_with fail
      refine CO.out.mono ?_
      rintro e w7 ⟨hs, ht, hn, hm, hg, L, rfl, a7, ci⟩
      obtain ⟨Bs, nBs, bcs⟩ := hs
      obtain ⟨Bt, nBt, bct⟩ := ht
      obtain ⟨Bn, nBn, bcn⟩ := hn
      obtain ⟨Bm, nBm, bcm⟩ := hm
      obtain ⟨Bg, nBg, bcg⟩ := hg
      obtain rfl : nBg = c.grants.length := own_n ci.gra
      simp only [CatV]
      obtain ⟨X, hX⟩ : ∃ V, V = w7.alloc (.cells #[.int .i64 c.epoch, .int .i64 c.version, .slice Bs c.objs.schemas.length bcs, .slice Bt c.objs.tables.length bct, .slice Bn c.rols.names.length bcn, .slice Bm c.rols.members.length bcm, .slice Bg c.grants.length bcg] 66) := ⟨_, rfl⟩
      have aX : Aft w7 X := by rw [hX]; exact (Aft.refl _).alloc _
      have RB := Lib.hid (show RowAt X w7.heap.size [.int .i64 c.epoch, .int .i64 c.version, .slice Bs c.objs.schemas.length bcs, .slice Bt c.objs.tables.length bct, .slice Bn c.rols.names.length bcn, .slice Bm c.rols.members.length bcm, .slice Bg c.grants.length bcg] by rw [hX]; exact box_row2 (Aft.refl _))
      have CI := Lib.hid (ci.aft aX)
      have CIL := Lib.hid (fun g' (h : CatBlk ⟨Bs, nBs, bcs⟩ ⟨Bt, nBt, bct⟩ ⟨Bn, nBn, bcn⟩ ⟨Bm, nBm, bcm⟩ L g' ∨ g' ∈ (Hd.mk Bg c.grants.length bcg).blk) => ci.lt h)
      have HA7 := Lib.hid (HA6.out.trans (a7.trans aX))
      have S27 := Lib.hid (show w.heap.size + 1 + 1 < w6.heap.size ∧ w6.heap.size ≤ w7.heap.size ∧ w7.heap.size < X.heap.size from ⟨(HR.out.2.2.aft HA6.out).1, a7.size, RB.out.1⟩)
      have hpl' := HPL.out
      have hg64' := HRI.out.2
      clear a7 ci aX CO t0 t1 t2 t3 t4 tz
      have OX := Lib.hid (show OutAt X w6.heap.size w7.heap.size c ⟨Bs, nBs, bcs⟩ ⟨Bt, nBt, bct⟩ ⟨Bn, nBn, bcn⟩ ⟨Bm, nBm, bcm⟩ ⟨Bg, c.grants.length, bcg⟩ L from ⟨RB.out, CI.out, fun g' hg => by have := (CIL.out g' hg).2; omega⟩)
      have HLD := Lib.hid (HLF.out (by simp))
      have HT := Lib.hid (HE0'.out (by first | (simp; done) | (simp; omega)))
      obtain ⟨V, hV⟩ : ∃ V, V = X.alloc (.cells #[.string g.schema, .string g.table, .int .i64 g.right, .string g.giver, .string g.to, .bool g.opt] 76) := ⟨_, rfl⟩
      have aV : Aft X V := by rw [hV]; exact (Aft.refl X).alloc _
      have zX : X.heap.size = w7.heap.size + 1 := by rw [hX]; simp
      have zV : V.heap.size = X.heap.size + 1 := by rw [hV]; simp
      have oV : V.ownsRow w6.heap.size 76 6 (.slice Bg c.grants.length bcg) c.grants.length (c.grants.flatMap graC) := own_aft CI.out.gra aV
      have hlt : ∀ g', (Value.slice Bg c.grants.length bcg).ownBlock = some g' → w6.heap.size ≤ g' ∧ g' < X.heap.size := fun g' hg => by have := CIL.out g' (.inr (Hd.mem_blk.2 hg)); have := S27.out; omega
      have CINS := Lib.hid (insGra Bg c.grants.length bcg ps w6.heap.size (w7.heap.size + 1) (c.grants.flatMap graC) g V oV hpl' (oneC_cells oneC_gra _) (by rw [hV, ← zX]; exact heap_alloc_new X _) (fun e => by have := (hlt _ e).2; omega) (by omega) (by have := S27.out; omega))
      have n1 : ¬ InV (.slice Bg c.grants.length bcg) w7.heap.size := fun h => by have := (CIL.out _ (.inr (Hd.mem_blk.2 h))).2; omega
      have n2 : ¬ InV (.slice Bg c.grants.length bcg) (w.heap.size + 1) := fun h => by have := (hlt _ h).1; have := S27.out; omega
      have e1 : (insAt c.grants ps g).length = c.grants.length + 1 := insAt_len _ _ _ hpl'
      have e2 : (insAt c.grants ps g).flatMap graC = (c.grants.flatMap graC).take (ps * 6) ++ [.string g.schema, .string g.table, .int .i64 g.right, .string g.giver, .string g.to, .bool g.opt] ++ (c.grants.flatMap graC).drop (ps * 6) := by
        unfold insAt
        rw [List.flatMap_append, List.flatMap_append, flatMap_take (size := 6) (fun _ => rfl), flatMap_drop (size := 6) (fun _ => rfl)]
        rfl
      have KE := Lib.hid (show ∀ (A5 : Option Addr) (n5 c5 : Nat) (vx6 : World), vx6.ownsRow w6.heap.size 76 6 (.slice A5 n5 c5) (c.grants.length + 1) ((c.grants.flatMap graC).take (ps * 6) ++ [.string g.schema, .string g.table, .int .i64 g.right, .string g.giver, .string g.to, .bool g.opt] ++ (c.grants.flatMap graC).drop (ps * 6)) → Kb (InV (.slice Bg c.grants.length bcg)) V vx6 → (∀ g' ∈ (Hd.mk A5 n5 c5).blk, (Value.slice Bg c.grants.length bcg).ownBlock = some g' ∨ V.heap.size ≤ g') →
          ((vx6.cell? ⟨w7.heap.size, 6, none⟩ = some (.slice Bg c.grants.length bcg) ∧ vx6.frozen? ⟨w7.heap.size, 6, none⟩ = false ∧ w7.heap.size < vx6.heap.size) ∧ ((vx6.setCell ⟨w7.heap.size, 6, none⟩ (.slice A5 n5 c5)).cell? ⟨w7.heap.size, 0, none⟩ = some (.int .i64 c.epoch) ∧ (vx6.setCell ⟨w7.heap.size, 6, none⟩ (.slice A5 n5 c5)).cell? ⟨w7.heap.size, 1, none⟩ = some (.int .i64 c.version) ∧ (vx6.setCell ⟨w7.heap.size, 6, none⟩ (.slice A5 n5 c5)).cell? ⟨w7.heap.size, 2, none⟩ = some (.slice Bs c.objs.schemas.length bcs) ∧ (vx6.setCell ⟨w7.heap.size, 6, none⟩ (.slice A5 n5 c5)).cell? ⟨w7.heap.size, 3, none⟩ = some (.slice Bt c.objs.tables.length bct) ∧ (vx6.setCell ⟨w7.heap.size, 6, none⟩ (.slice A5 n5 c5)).cell? ⟨w7.heap.size, 4, none⟩ = some (.slice Bn c.rols.names.length bcn) ∧ (vx6.setCell ⟨w7.heap.size, 6, none⟩ (.slice A5 n5 c5)).cell? ⟨w7.heap.size, 5, none⟩ = some (.slice Bm c.rols.members.length bcm) ∧ (vx6.setCell ⟨w7.heap.size, 6, none⟩ (.slice A5 n5 c5)).cell? ⟨w7.heap.size, 6, none⟩ = some (.slice A5 n5 c5)) ∧ ((vx6.setCell ⟨w7.heap.size, 6, none⟩ (.slice A5 n5 c5)).cell? ⟨w.heap.size + 1 + 1, 0, none⟩ = some (.int .i64 0) ∧ (vx6.setCell ⟨w7.heap.size, 6, none⟩ (.slice A5 n5 c5)).frozen? ⟨w.heap.size + 1 + 1, 0, none⟩ = false ∧ (vx6.setCell ⟨w7.heap.size, 6, none⟩ (.slice A5 n5 c5)).cell? ⟨w.heap.size + 1 + 1, 1, none⟩ = some (.int .i64 0) ∧ (vx6.setCell ⟨w7.heap.size, 6, none⟩ (.slice A5 n5 c5)).frozen? ⟨w.heap.size + 1 + 1, 1, none⟩ = false ∧ (vx6.setCell ⟨w7.heap.size, 6, none⟩ (.slice A5 n5 c5)).cell? ⟨w.heap.size + 1 + 1, 2, none⟩ = some (.slice none 0 0) ∧ (vx6.setCell ⟨w7.heap.size, 6, none⟩ (.slice A5 n5 c5)).frozen? ⟨w.heap.size + 1 + 1, 2, none⟩ = false ∧ (vx6.setCell ⟨w7.heap.size, 6, none⟩ (.slice A5 n5 c5)).cell? ⟨w.heap.size + 1 + 1, 3, none⟩ = some (.slice none 0 0) ∧ (vx6.setCell ⟨w7.heap.size, 6, none⟩ (.slice A5 n5 c5)).frozen? ⟨w.heap.size + 1 + 1, 3, none⟩ = false ∧ (vx6.setCell ⟨w7.heap.size, 6, none⟩ (.slice A5 n5 c5)).cell? ⟨w.heap.size + 1 + 1, 4, none⟩ = some (.slice none 0 0) ∧ (vx6.setCell ⟨w7.heap.size, 6, none⟩ (.slice A5 n5 c5)).frozen? ⟨w.heap.size + 1 + 1, 4, none⟩ = false ∧ (vx6.setCell ⟨w7.heap.size, 6, none⟩ (.slice A5 n5 c5)).cell? ⟨w.heap.size + 1 + 1, 5, none⟩ = some (.slice none 0 0) ∧ (vx6.setCell ⟨w7.heap.size, 6, none⟩ (.slice A5 n5 c5)).frozen? ⟨w.heap.size + 1 + 1, 5, none⟩ = false ∧ (vx6.setCell ⟨w7.heap.size, 6, none⟩ (.slice A5 n5 c5)).cell? ⟨w.heap.size + 1 + 1, 6, none⟩ = some (.slice none 0 0) ∧ (vx6.setCell ⟨w7.heap.size, 6, none⟩ (.slice A5 n5 c5)).frozen? ⟨w.heap.size + 1 + 1, 6, none⟩ = false) ∧ w.heap.size + 1 + 1 < (vx6.setCell ⟨w7.heap.size, 6, none⟩ (.slice A5 n5 c5)).heap.size ∧ w7.heap.size < (vx6.setCell ⟨w7.heap.size, 6, none⟩ (.slice A5 n5 c5)).heap.size ∧
            Hid (n5 = c.grants.length + 1 ∧ ∃ Y, Y = vx6.setCell ⟨w7.heap.size, 6, none⟩ (.slice A5 n5 c5) ∧ RowAt Y (w.heap.size + 1 + 1) [.int .i64 0, .int .i64 0, .slice none 0 0, .slice none 0 0, .slice none 0 0, .slice none 0 0, .slice none 0 0] ∧ OutAt Y w6.heap.size w7.heap.size { c with grants := insAt c.grants ps g } ⟨Bs, nBs, bcs⟩ ⟨Bt, nBt, bct⟩ ⟨Bn, nBn, bcn⟩ ⟨Bm, nBm, bcm⟩ ⟨A5, n5, c5⟩ L ∧ Aft w Y)) from fun A5 n5 c5 vx6 o5 kb5 hb5 => by
        obtain rfl : n5 = c.grants.length + 1 := own_n (h := ⟨A5, n5, c5⟩) o5
        have kX := (Kb.of_aft (P := InV (.slice Bg c.grants.length bcg)) aV).trans kb5
        have nP : ∀ g', CatBlk ⟨Bs, nBs, bcs⟩ ⟨Bt, nBt, bct⟩ ⟨Bn, nBn, bcn⟩ ⟨Bm, nBm, bcm⟩ L g' → ¬ InV (.slice Bg c.grants.length bcg) g' := fun g' h1 h2 => by
          rcases h1 with h1 | h1
          · exact (CI.out.dis g' h1).2 (Hd.mem_blk.2 h2)
          · exact CI.out.dis2 g' h1 (Hd.mem_blk.2 h2)
        have OY := OX.out.store (h := ⟨A5, c.grants.length + 1, c5⟩) (l := insAt c.grants ps g) kX n1 nP (by rw [e1, e2]; exact o5) (fun g' hg => by
          rcases hb5 g' hg with h | h
          · exact .inl (Hd.mem_blk.2 h)
          · exact .inr (by omega))
        rw [e1] at OY
        have k6 := Kb.set vx6 w7.heap.size 6 (.slice A5 (c.grants.length + 1) c5)
        have UX := kX.row (HR.out.2.2.aft HA7.out) (fun h => by have := (hlt _ h).1; have := S27.out; omega)
        have UY := k6.row UX (by have := S27.out; omega)
        have q6 := kX.row RB.out n1
        have AY := k6.to_aft (kX.to_aft (HAW.out.trans HA7.out) (fun k hk e => by have := (hlt _ e).1; have := S27.out; omega)) (fun k hk e => by have e : k = _ := e; have := S27.out; omega)
        have o7 : RowAt (vx6.setCell ⟨w7.heap.size, 6, none⟩ (.slice A5 (c.grants.length + 1) c5)) w7.heap.size [.int .i64 c.epoch, .int .i64 c.version, .slice Bs c.objs.schemas.length bcs, .slice Bt c.objs.tables.length bct, .slice Bn c.rols.names.length bcn, .slice Bm c.rols.members.length bcm, .slice A5 (c.grants.length + 1) c5] := by
          have := OY.row
          simp only [CatL, e1] at this
          exact this
        exact ⟨⟨q6.cell (j := 6) rfl, q6.2.2 6 (by simp), q6.1⟩, ⟨o7.cell (j := 0) rfl, o7.cell (j := 1) rfl, o7.cell (j := 2) rfl, o7.cell (j := 3) rfl, o7.cell (j := 4) rfl, o7.cell (j := 5) rfl, o7.cell (j := 6) rfl⟩, ⟨UY.cell (j := 0) rfl, UY.2.2 0 (by simp), UY.cell (j := 1) rfl, UY.2.2 1 (by simp), UY.cell (j := 2) rfl, UY.2.2 2 (by simp), UY.cell (j := 3) rfl, UY.2.2 3 (by simp), UY.cell (j := 4) rfl, UY.2.2 4 (by simp), UY.cell (j := 5) rfl, UY.2.2 5 (by simp), UY.cell (j := 6) rfl, UY.2.2 6 (by simp)⟩, UY.1, o7.1, Lib.hid ⟨rfl, _, rfl, UY, OY, AY⟩⟩)
      have HVV := Lib.hid hV
      have LEN := Lib.hid (show (laid c.grants g).length = c.grants.length + 1 from by rw [HLD.out]; exact e1)
      have p1 := HR.out.2.1.aft HA7.out
      clear x0 x1 x2 x3 x4 x5 x6 xz y0 y1 y2 y3 y4 y5 yz u0 u1 u2 u3 u4 u5 u6 uz v0 v1 v2 v3 v4 v5 v6
      obtain ⟨y0, y1, y2, y3, y4, y5, yz⟩ := rowF6 p1
      have x6 := RB.out.cell (j := 6) rfl
      have xz := RB.out.1
      have ne9 : ¬ w.heap.size + 1 + 1 = w7.heap.size := by have := S27.out; omega
      have ne8 : ¬ w7.heap.size = w.heap.size + 1 + 1 := by omega
      rw [hX] at x6 xz y0 y1 y2 y3 y4 y5 yz
      clear p1 aV zX zV oV hlt hV e1 e2 HE0'
      go_wp2_with fail
      rw [← hX]
      rw [← HVV.out]
      refine CINS.out.mono ?_
      rintro e vx6 ⟨⟨A5, n5, c5⟩, rfl, o5, kb5, hb5⟩
      obtain ⟨⟨s6, sf, sz⟩, ⟨q0, q1, q2, q3, q4, q5, q6⟩, ⟨u0, v0, u1, v1, u2, v2, u3, v3, u4, v4, u5, v5, u6, v6⟩, uz, qz, HE⟩ := KE.out A5 n5 c5 vx6 o5 kb5 hb5
      clear o5 kb5 hb5 x6 xz y0 y1 y2 y3 y4 y5 yz
      simp only [Hd.v]
      go_wp2_with fail
      (try simp only [Exit.inBlock, Exit.then])
      obtain ⟨rfl, Y, hY, UY, OY, AY⟩ := HE.out
      rw [← hY]
      have hdn := OY.done UY rfl AY (by have := S27.out; omega) (by have := S27.out; omega)
      rw [← HLD.out] at hdn
      refine bodyPost_ret (results_cell_tmp (v := .agg #[.int .i64 c.epoch, .int .i64 c.version, .slice Bs c.objs.schemas.length bcs, .slice Bt c.objs.tables.length bct, .slice Bn c.rols.names.length bcn, .slice Bm c.rols.members.length bcm, .slice A5 (c.grants.length + 1) c5]) rfl _ rfl (lvCat_row (setC_row UY rfl _ _ _ _ _ _ _))) rfl ?_
      rw [HT.out]
      simp only [CatL, LEN.out] at hdn
      exact hdn.2
    · go_wp2_with fail
      refine CO.out.mono ?_
      rintro e w7 ⟨hs, ht, hn, hm, hg, L, rfl, a7, ci⟩
      obtain ⟨Bs, nBs, bcs⟩ := hs
      obtain ⟨Bt, nBt, bct⟩ := ht
      obtain ⟨Bn, nBn, bcn⟩ := hn
      obtain ⟨Bm, nBm, bcm⟩ := hm
      obtain ⟨Bg, nBg, bcg⟩ := hg
      obtain rfl : nBg = c.grants.length := own_n ci.gra
      simp only [CatV]
      obtain ⟨X, hX⟩ : ∃ V, V = w7.alloc (.cells #[.int .i64 c.epoch, .int .i64 c.version, .slice Bs c.objs.schemas.length bcs, .slice Bt c.objs.tables.length bct, .slice Bn c.rols.names.length bcn, .slice Bm c.rols.members.length bcm, .slice Bg c.grants.length bcg] 66) := ⟨_, rfl⟩
      have aX : Aft w7 X := by rw [hX]; exact (Aft.refl _).alloc _
      have RB := Lib.hid (show RowAt X w7.heap.size [.int .i64 c.epoch, .int .i64 c.version, .slice Bs c.objs.schemas.length bcs, .slice Bt c.objs.tables.length bct, .slice Bn c.rols.names.length bcn, .slice Bm c.rols.members.length bcm, .slice Bg c.grants.length bcg] by rw [hX]; exact box_row2 (Aft.refl _))
      have CI := Lib.hid (ci.aft aX)
      have CIL := Lib.hid (fun g' (h : CatBlk ⟨Bs, nBs, bcs⟩ ⟨Bt, nBt, bct⟩ ⟨Bn, nBn, bcn⟩ ⟨Bm, nBm, bcm⟩ L g' ∨ g' ∈ (Hd.mk Bg c.grants.length bcg).blk) => ci.lt h)
      have HA7 := Lib.hid (HA6.out.trans (a7.trans aX))
      have S27 := Lib.hid (show w.heap.size + 1 + 1 < w6.heap.size ∧ w6.heap.size ≤ w7.heap.size ∧ w7.heap.size < X.heap.size from ⟨(HR.out.2.2.aft HA6.out).1, a7.size, RB.out.1⟩)
      have hpl' := HPL.out
      have hg64' := HRI.out.2
      clear a7 ci aX CO t0 t1 t2 t3 t4 tz
      obtain ⟨hl, hla⟩ := HLT.out (by simp)
      obtain ⟨gg, cap, hv, hgB, hnc, hrow⟩ := own_rowAt CI.out.gra (by omega)
      simp only [Hd.v, Value.slice.injEq, true_and] at hv
      obtain ⟨rfl, rfl⟩ := hv
      obtain ⟨y, hy⟩ : ∃ y, c.grants[ps] = y := ⟨_, rfl⟩
      rw [hy] at hla
      obtain ⟨oy, hoy⟩ : ∃ b, y.opt = b := ⟨_, rfl⟩
      obtain ⟨og, hog⟩ : ∃ b, g.opt = b := ⟨_, rfl⟩
      have hgc : X.cell? ⟨gg, ps * 6 + 5, none⟩ = some (.bool oy) := by
        have := own_cell (f := graC) (h := ⟨some ⟨gg, 0, none⟩, c.grants.length, bcg⟩) CI.out.gra (fun _ => rfl) rfl hl (j := 5) (by decide)
        rw [this, hy, ← hoy]; rfl
      have hgf : X.frozen? ⟨gg, ps * 6 + 5, none⟩ = false := hrow.2.2 _ (by rw [flatMap_len (f := graC) (size := 6) (fun _ => rfl)]; omega)
      have hgl := (CIL.out gg (.inr (Hd.mem_blk.2 rfl)))
      have gz := hrow.1
      obtain ⟨Y, hY⟩ : ∃ V, V = ((w7.setCell ⟨gg, ps * 6 + 5, none⟩ (.bool (oy || og))).alloc (.cells #[.int .i64 c.epoch, .int .i64 c.version, .slice Bs c.objs.schemas.length bcs, .slice Bt c.objs.tables.length bct, .slice Bn c.rols.names.length bcn, .slice Bm c.rols.members.length bcm, .slice (some ⟨gg, 0, none⟩) c.grants.length bcg] 66)).drew := ⟨_, rfl⟩
      have eY : Y = (X.setCell ⟨gg, ps * 6 + 5, none⟩ (.bool (oy || og))).drew := by rw [hY, hX, World.setCell_alloc_past _ _ _ _ hgl.2]
      have kY : Kb (fun g => g = gg) X Y := by rw [eY]; exact (Kb.set _ _ _ _).trans (Kb.of_aft (Aft.refl _).drew)
      have hgm : gg ∈ (Hd.mk (some ⟨gg, 0, none⟩) c.grants.length bcg).blk := Hd.mem_blk.2 rfl
      have oY : Y.ownsRow w6.heap.size 76 6 (Hd.mk (some ⟨gg, 0, none⟩) c.grants.length bcg).v (laid c.grants g).length ((laid c.grants g).flatMap graC) := by
        rw [eY, hla, List.length_set, ← flatMap_set (f := graC) (size := 6) (fun _ => rfl) c.grants ps 5 hl (by decide) (.bool (oy || og)) _ (by rw [hy, ← hoy, ← hog]; rfl)]
        exact own_aft (own_set CI.out.gra rfl _ _) (Aft.refl _).drew
      have CIY := Lib.hid (CI.out.newG (hg' := ⟨some ⟨gg, 0, none⟩, c.grants.length, bcg⟩) (l := laid c.grants g) kY (fun g' h1 e => by
        have e : g' = gg := e
        rcases h1 with h1 | h1
        · exact (CI.out.dis g' h1).2 (e ▸ hgm)
        · exact CI.out.dis2 g' h1 (e ▸ hgm)) oY (fun g' h1 => .inl h1))
      have LN := Lib.hid (show (laid c.grants g).length = c.grants.length by rw [hla, List.length_set])
      have rbY := kY.row RB.out (by omega)
      have r2Y := kY.row (HR.out.2.2.aft HA7.out) (by have := S27.out; omega)
      have R2Y := Lib.hid r2Y
      have HAY2 := Lib.hid (kY.to_aft (HAW.out.trans HA7.out) (fun k hk e => by have e : k = _ := e; have := S27.out; omega))
      have HT := Lib.hid (HE0'.out (by simp))
      clear x0 x1 x2 x3 x4 x5 x6 xz y0 y1 y2 y3 y4 y5 yz u0 u1 u2 u3 u4 u5 u6 uz v0 v1 v2 v3 v4 v5 v6
      have p1 := HR.out.2.1.aft HA7.out
      have y5 := p1.cell (j := 5) rfl
      have yz := p1.1
      rw [hog] at y5
      have z6 := RB.out.cell (j := 6) rfl
      have zz := RB.out.1
      obtain ⟨q0, q1, q2, q3, q4, q5, q6, qz⟩ := rowF7 rbY
      obtain ⟨u0, u1, u2, u3, u4, u5, u6, uz⟩ := rowF7 r2Y
      have v0 := r2Y.2.2 0 (by simp)
      have v1 := r2Y.2.2 1 (by simp)
      have v2 := r2Y.2.2 2 (by simp)
      have v3 := r2Y.2.2 3 (by simp)
      have v4 := r2Y.2.2 4 (by simp)
      have v5 := r2Y.2.2 5 (by simp)
      have v6 := r2Y.2.2 6 (by simp)
      rw [hY] at q0 q1 q2 q3 q4 q5 q6 qz u0 u1 u2 u3 u4 u5 u6 uz v0 v1 v2 v3 v4 v5 v6
      rw [hX] at z6 zz hgc hgf gz y5 yz
      clear p1 kY eY hgm oY rbY r2Y hoy hog hla hy hrow hnc HLT HLF HE0'
      cases oy <;> cases og
      all_goals
        (try simp only [Bool.or_true, Bool.or_false, Bool.true_or, Bool.false_or, Bool.or_self] at q0 q1 q2 q3 q4 q5 q6 qz u0 u1 u2 u3 u4 u5 u6 uz v0 v1 v2 v3 v4 v5 v6 hY)
        go_wp2_with fail
        go_region
        all_goals
          go_wp2_with fail
          (try simp only [Exit.inBlock, Exit.then])
          (try simp only [Bool.or_true, Bool.or_false, Bool.true_or, Bool.false_or] at hY)
          (first | rw [← hY] | rw [setC_drew, ← hY])
          refine bodyPost_ret (results_cell_tmp (v := .agg #[.int .i64 c.epoch, .int .i64 c.version, .slice Bs c.objs.schemas.length bcs, .slice Bt c.objs.tables.length bct, .slice Bn c.rols.names.length bcn, .slice Bm c.rols.members.length bcm, .slice (some ⟨gg, 0, none⟩) c.grants.length bcg]) rfl _ rfl (lvCat_row (setC_row R2Y.out rfl _ _ _ _ _ _ _))) rfl ?_
          have kF := setC_kb Y (w.heap.size + 1 + 1) (.int .i64 c.epoch) (.int .i64 c.version) (.slice Bs c.objs.schemas.length bcs) (.slice Bt c.objs.tables.length bct) (.slice Bn c.rols.names.length bcn) (.slice Bm c.rols.members.length bcm) (.slice (some ⟨gg, 0, none⟩) c.grants.length bcg)
          rw [HT.out]
          obtain ⟨s1, s2, s3⟩ := S27.out
          refine ⟨⟨Bs, nBs, bcs⟩, ⟨Bt, nBt, bct⟩, ⟨Bn, nBn, bcn⟩, ⟨Bm, nBm, bcm⟩, ⟨some ⟨gg, 0, none⟩, c.grants.length, bcg⟩, L, by rw [catV_gra, LN.out]; rfl, kF.to_aft HAY2.out (fun k hk e => by have e : k = _ := e; omega), (CIY.out.kb kF (fun g' h1 e => by
            have e : g' = w.heap.size + 1 + 1 := e
            have := (CIY.out.lt h1).1
            omega)).down (by omega)⟩
end Go.Proofs.YtlklmekapbojdaaGreat

