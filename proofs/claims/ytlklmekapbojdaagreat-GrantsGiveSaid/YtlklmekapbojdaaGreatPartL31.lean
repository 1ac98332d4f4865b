/- Contracts of the program, part 31. -/
import Derived.Deep.AppendLies
import Derived.Deep.DeepMust
import Derived.OwnWalk
import Derived.Laws.AppendOwn
import Derived.ProofKit
import Derived.OpenShut
import Derived.Deep.Slices
import Derived.ChangeOld
import Derived.SizedLaws
import Derived.WalkKit
import Derived.WalkSpells
import Derived.WalkLawsBesides
import Derived.Lib.Hide
import Derived.Deep.QuietTactic
import Derived.BigQuiet
import Derived.Below
import Derived.Deep.Draws
import Derived.StillTailTactics
import Derived.Laws.Cells
import Derived.Laws.IdiomCopy
import Derived.Test.YtlklmekapbojdaaGreatRows
import Derived.Lib.Walk
import Derived.Laws.EntriesVeiled
import Derived.Maps.Own
import Derived.Maps.Views
import Derived.Deep.Upon
import Derived.OneCell
import Derived.OrdersHeld
import Derived.Deep.RegionHeld3
import Derived.IntWalk
import Derived.Lib.Bytealg
import Derived.Lib.SliceRun
import Derived.Deep.RegionLaw
import Derived.Lib.AppendZerosOnto
import Derived.Lib.Overlaps
import Derived.Shelf.SlSortCmp.WholeK
import Derived.Laws.StructEq
import Derived.WalkMore
import Derived.WideKeyEntry
import Derived.DeepKeys3
import Derived.ChangeKeys
import Derived.Test.YtlklmekapbojdaaGreatPartL1
import Derived.Test.YtlklmekapbojdaaGreatPartL2
import Derived.Test.YtlklmekapbojdaaGreatPartL3
import Derived.Test.YtlklmekapbojdaaGreatPartL4
import Derived.Test.YtlklmekapbojdaaGreatPartL5
import Derived.Test.YtlklmekapbojdaaGreatPartL6
import Derived.Test.YtlklmekapbojdaaGreatPartL7
import Derived.Test.YtlklmekapbojdaaGreatPartL8
import Derived.Test.YtlklmekapbojdaaGreatPartL9
import Derived.Test.YtlklmekapbojdaaGreatPartL10
import Derived.Test.YtlklmekapbojdaaGreatPartL12
import Derived.Test.YtlklmekapbojdaaGreatPartL13
import Derived.Test.YtlklmekapbojdaaGreatPartL17
import Derived.Test.YtlklmekapbojdaaGreatPartL20
import Derived.Test.YtlklmekapbojdaaGreatPartL21
import Derived.Test.YtlklmekapbojdaaGreatPartL22
import Derived.Test.YtlklmekapbojdaaGreatPartL23
import Derived.Test.YtlklmekapbojdaaGreatPartL27
namespace Go.Proofs.YtlklmekapbojdaaGreat
open Go.RowKit
set_option linter.unusedVariables false
/-- the document's row so far, and is the new one in it -/
def layS (g : Gra) (s : List Gra × Bool) (x : Gra) : List Gra × Bool :=
  if fiveE x g then (s.1 ++ [layF g x], true)
  else if !s.2 && decide (cmpG g x < 0) then (s.1 ++ [g] ++ [x], true)
  else (s.1 ++ [x], s.2)
def layK (l : List Gra) (g : Gra) (k : Nat) : List Gra × Bool := (l.take k).foldl (layS g) ([], false)
theorem layK_succ (l : List Gra) (g : Gra) (k : Nat) (hk : k < l.length) : layK l g (k + 1) = layS g (layK l g k) l[k] := by
  unfold layK
  rw [List.take_succ_eq_append_getElem hk, List.foldl_append]
  rfl
theorem layF_no {g x : Gra} (h : fiveE x g = false) : layF g x = x := by unfold layF; rw [h]; rfl
theorem layS_done (g : Gra) : ∀ (l acc : List Gra), l.foldl (layS g) (acc, true) = (acc ++ l.map (layF g), true)
  | [], acc => by simp
  | x :: l, acc => by
    have h : layS g (acc, true) x = (acc ++ [layF g x], true) := by
      unfold layS
      cases h : fiveE x g
      · rw [layF_no h]; simp
      · simp
    rw [List.foldl_cons, h, layS_done g l]
    simp
theorem lay_old (g : Gra) : ∀ (l acc : List Gra), l.Pairwise (fun a b => cmpG a b < 0) → inG l g = true → l.foldl (layS g) (acc, false) = (acc ++ l.map (layF g), true)
  | [], acc, _, h => by simp [inG] at h
  | x :: l, acc, hp, h => by
    rw [List.foldl_cons]
    rw [List.pairwise_cons] at hp
    cases e : fiveE x g
    · have hl : inG l g = true := by
        unfold inG at h ⊢
        rw [List.any_cons, e] at h
        exact h
      have hc : ¬ cmpG g x < 0 := by
        unfold inG at hl
        rw [List.any_eq_true] at hl
        obtain ⟨y, hy, hyg⟩ := hl
        have h1 := hp.1 y hy
        have h2 := ordG.anti x y
        rw [cmpG_keys (a := g) (b := x) (x := y) (y := x) ((fiveE_iff _ _).1 hyg).symm rfl]
        omega
      have hs : layS g (acc, false) x = (acc ++ [layF g x], false) := by
        unfold layS
        rw [e, decide_eq_false hc, layF_no e]; rfl
      rw [hs, lay_old g l _ hp.2 hl]
      simp
    · have hs : layS g (acc, false) x = (acc ++ [layF g x], true) := by
        unfold layS
        rw [e]; rfl
      rw [hs, layS_done]
      simp
def layEnd (g : Gra) (s : List Gra × Bool) : List Gra := if s.2 then s.1 else s.1 ++ [g]
theorem posB_all {l : List Gra} {g : Gra} (h : ∀ y ∈ l, ¬ cmpG y g < 0) : posB cmpG l g = 0 := by
  unfold posB
  rw [List.countP_eq_zero]
  intro y hy
  simpa using h y hy
theorem lay_new (g : Gra) : ∀ (l acc : List Gra), l.Pairwise (fun a b => cmpG a b < 0) → inG l g = false → layEnd g (l.foldl (layS g) (acc, false)) = acc ++ insAt l (posB cmpG l g) g
  | [], acc, _, _ => by simp [layEnd, insAt, posB]
  | x :: l, acc, hp, h => by
    rw [List.foldl_cons]
    rw [List.pairwise_cons] at hp
    have e : fiveE x g = false := inG_false h x (by simp)
    have hl : inG l g = false := by
      unfold inG at h ⊢
      rw [List.any_cons, e] at h
      exact h
    have hm : l.map (layF g) = l := by
      conv => rhs; rw [← List.map_id l]
      exact List.map_congr_left fun y hy => layF_no (inG_false hl y hy)
    have hz : cmpG x g ≠ 0 := fun z => by rw [(cmpG_zero _ _).1 z] at e; cases e
    have ha := ordG.anti x g
    by_cases hc : cmpG g x < 0
    · have hs : layS g (acc, false) x = (acc ++ [g] ++ [x], true) := by
        unfold layS
        rw [e, decide_eq_true hc]; rfl
      rw [hs, layS_done, hm, posB_all (fun y hy => ?_)]
      · simp [layEnd, insAt]
      · rcases List.mem_cons.1 hy with r | r
        · subst r; omega
        · have h1 := ordG.lt g x y hc (hp.1 y r)
          have h2 := ordG.anti y g
          omega
    · have hs : layS g (acc, false) x = (acc ++ [x], false) := by
        unfold layS
        rw [e, decide_eq_false hc]; rfl
      rw [hs, lay_new g l _ hp.2 hl]
      have hq : posB cmpG (x :: l) g = posB cmpG l g + 1 := by
        unfold posB
        rw [List.countP_cons_of_pos (by simp; omega)]
      rw [hq]
      simp [insAt]
/-- behind all of them the document has laid what the program lays -/
theorem layK_end {l : List Gra} {g : Gra} (hr : risesB cmpG l = true) : layEnd g (layK l g l.length) = laid l g := by
  unfold layK
  rw [List.take_length]
  cases h : inG l g
  · rw [laid_new h, lay_new g l [] (rises_pairG.1 hr) h]; rfl
  · rw [laid_old h, lay_old g l [] (rises_pairG.1 hr) h]; rfl
theorem layS_len (g : Gra) (s : List Gra × Bool) (x : Gra) : (layS g s x).1.length ≤ s.1.length + (if s.2 then 1 else 2) ∧ (s.2 = true → (layS g s x).2 = true) ∧ ((layS g s x).1.length = s.1.length + 2 → (layS g s x).2 = true) := by
  unfold layS
  split
  · refine ⟨?_, fun _ => rfl, fun _ => rfl⟩
    simp only [List.length_append, List.length_singleton]; split <;> omega
  · split
    · next h =>
      simp only [Bool.and_eq_true, Bool.not_eq_true'] at h
      rw [h.1]
      refine ⟨by simp, fun _ => rfl, fun _ => rfl⟩
    · refine ⟨?_, fun h => h, fun h => by simp at h⟩
      simp only [List.length_append, List.length_singleton]; split <;> omega
theorem layK_len (l : List Gra) (g : Gra) : ∀ k, k ≤ l.length → (layK l g k).1.length ≤ k + (if (layK l g k).2 then 1 else 0)
  | 0, _ => by simp [layK]
  | k + 1, hk => by
    have ih := layK_len l g k (by omega)
    rw [layK_succ l g k (by omega)]
    obtain ⟨h1, h2, h3⟩ := layS_len g (layK l g k) (l[k]'(by omega))
    cases h : (layK l g k).2
    · rw [h] at ih h1
      simp only [Bool.false_eq_true, if_false] at ih h1
      cases h4 : (layS g (layK l g k) (l[k]'(by omega))).2
      · have : ¬ (layS g (layK l g k) (l[k]'(by omega))).1.length = (layK l g k).1.length + 2 := fun e => by rw [h3 e] at h4; cases h4
        simp only [Bool.false_eq_true, if_false]; omega
      · simp only [if_true]; omega
    · rw [h] at ih h1
      rw [h2 h]
      simp only [if_true] at ih h1 ⊢
      omega
end Go.Proofs.YtlklmekapbojdaaGreat

namespace Go.Proofs.YtlklmekapbojdaaGreat
open Go.RowKit Go.Deep
set_option maxRecDepth 100000
set_option linter.unusedVariables false
theorem allL_reach {c : Cat} {role : ByteArray} (h1 : standsB c = true) (h2 : inB c.rols.names role = true) : allL c.rols role = reachL c role := by
  have := (stands_iff.1 h1).2.1.2.1
  unfold allL reachL
  rw [this, h2]; rfl
end Go.Proofs.YtlklmekapbojdaaGreat

namespace Go.Proofs.YtlklmekapbojdaaGreat
open Go.RowKit Go.Deep
set_option maxRecDepth 100000
set_option linter.unusedVariables false
theorem give_c {c : Cat} {g : Gra} {p kd e0 tb n1 n2 bb gb q : Bool} (hp : wholeB c = p) (hkd : kindB g.right = kd) (he0 : eqS g.giver g.to = e0) (htb : decide (0 ≤ tabAt c.objs.tables g.schema g.table) = tb) (hn1 : inB c.rols.names g.giver = n1) (hn2 : inB c.rols.names g.to = n2) (hbb : bossB c.objs (allL c.rols g.giver) (tabF c.objs g.schema g.table) = bb) (hgb : givesB c.grants (allL c.rols g.giver) g.schema g.table g.right true = gb) (hq : inG c.grants g = q) :
    giveR c g = if !p || !kd || e0 then (noC, 1) else if !tb then (noC, 61) else if !n1 || !n2 then (noC, 71) else if !(bb || gb) then (noC, 91) else if decide (64 ≤ c.grants.length) && !q then (noC, 2) else ({ c with grants := laid c.grants g }, 0) := by
  have hj : justB c c.grants g = (bb || gb) := by unfold justB; rw [hbb, hgb]
  unfold giveR
  rw [hp, hkd, he0, hn1, hn2, hj, hq]
  cases tb
  · rw [if_pos (show tabAt c.objs.tables g.schema g.table < 0 from by have := of_decide_eq_false htb; omega)]; rfl
  · rw [if_neg (show ¬ tabAt c.objs.tables g.schema g.table < 0 from by have := of_decide_eq_true htb; omega)]; rfl
theorem heap_alloc_set (w : World) (a : Addr) (v : Value) (o : Obj) : ((w.setCell a v).alloc o).heap[w.heap.size]? = some o := by
  have h := heap_alloc_new (w.setCell a v) o
  rw [show (w.setCell a v).heap.size = w.heap.size by simp] at h
  exact h
set_option maxHeartbeats 16000000 in
theorem rgive9 (c : Cat) (As : Option Addr) (caps : Nat) (At : Option Addr) (capt : Nat) (An : Option Addr) (capn : Nat) (Am : Option Addr) (capm : Nat) (Ag : Option Addr) (capg : Nat) (g : Gra) (sg : SmG g) (w : World) (H : CatAt w c As caps At capt An capn Am capm Ag capg) :
    Calls Tryz.prog 36 #[.agg #[.int .i64 c.epoch, .int .i64 c.version, .slice As c.objs.schemas.length caps, .slice At c.objs.tables.length capt, .slice An c.rols.names.length capn, .slice Am c.rols.members.length capm, .slice Ag c.grants.length capg], .agg #[.string g.schema, .string g.table, .int .i64 g.right, .string g.giver, .string g.to, .bool g.opt]] w (ChgC w (giveR c g)) := by
  have l1 : w.heap.size < w.heap.size + 1 := by omega
  have l2 : w.heap.size < w.heap.size + 1 + 1 := by omega
  have l3 : w.heap.size < w.heap.size + 1 + 1 + 1 := by omega
  have l4 : w.heap.size + 1 < w.heap.size + 1 + 1 + 1 := by omega
  obtain ⟨W, hW⟩ : ∃ W, W = ((w.alloc (.cells #[.int .i64 c.epoch, .int .i64 c.version, .slice As c.objs.schemas.length caps, .slice At c.objs.tables.length capt, .slice An c.rols.names.length capn, .slice Am c.rols.members.length capm, .slice Ag c.grants.length capg] 66)).alloc (.cells #[.string g.schema, .string g.table, .int .i64 g.right, .string g.giver, .string g.to, .bool g.opt] 76)).alloc (.cells #[.int .i64 0, .int .i64 0, .slice none 0 0, .slice none 0 0, .slice none 0 0, .slice none 0 0, .slice none 0 0] 66) := ⟨_, rfl⟩
  have aW : Aft w W := by rw [hW]; exact (((Aft.refl w).alloc _).alloc _).alloc _
  have r0 : RowAt W (w.heap.size) [.int .i64 c.epoch, .int .i64 c.version, .slice As c.objs.schemas.length caps, .slice At c.objs.tables.length capt, .slice An c.rols.names.length capn, .slice Am c.rols.members.length capm, .slice Ag c.grants.length capg] := by rw [hW]; exact RowAt.up (RowAt.up (box_at (Aft.refl _) (by simp)))
  have r1 : RowAt W (w.heap.size + 1) [.string g.schema, .string g.table, .int .i64 g.right, .string g.giver, .string g.to, .bool g.opt] := by rw [hW]; exact RowAt.up (box_at (Aft.refl _) (by simp))
  have r2 : RowAt W (w.heap.size + 1 + 1) [.int .i64 0, .int .i64 0, .slice none 0 0, .slice none 0 0, .slice none 0 0, .slice none 0 0, .slice none 0 0] := by rw [hW]; exact box_at (Aft.refl _) (by simp)
  have HAW := Lib.hid aW
  have Bx0 := Lib.hid r0
  have By0 := Lib.hid r1
  have Bu0 := Lib.hid r2
  have Kc0 := Lib.hid (H.aft aW)
  have HSM := Lib.hid H.sm
  have HSG := Lib.hid sg
  obtain ⟨p, hp⟩ : ∃ p, wholeB c = p := ⟨_, rfl⟩
  obtain ⟨kd, hkd⟩ : ∃ p, kindB g.right = p := ⟨_, rfl⟩
  obtain ⟨e0, he0⟩ : ∃ p, eqS g.giver g.to = p := ⟨_, rfl⟩
  obtain ⟨t, ht⟩ : ∃ t, tabAt c.objs.tables g.schema g.table = t := ⟨_, rfl⟩
  obtain ⟨n1, hn1⟩ : ∃ b, inB c.rols.names g.giver = b := ⟨_, rfl⟩
  obtain ⟨n2, hn2⟩ : ∃ b, inB c.rols.names g.to = b := ⟨_, rfl⟩
  obtain ⟨bb, hbb⟩ : ∃ b, bossB c.objs (allL c.rols g.giver) (tabF c.objs g.schema g.table) = b := ⟨_, rfl⟩
  obtain ⟨gb, hgb⟩ : ∃ b, givesB c.grants (allL c.rols g.giver) g.schema g.table g.right true = b := ⟨_, rfl⟩
  obtain ⟨q, hq⟩ : ∃ q, inG c.grants g = q := ⟨_, rfl⟩
  have he2 : (g.giver.toList == g.to.toList) = e0 := he0
  have HRES := Lib.hid (give_c hp hkd he0 (tb := decide (0 ≤ t)) (by rw [ht]) hn1 hn2 hbb hgb hq)
  have HPW := Lib.hid hp
  have C1 := Lib.hid (show Calls Tryz.prog 77 #[.agg #[.int .i64 c.epoch, .int .i64 c.version, .slice As c.objs.schemas.length caps, .slice At c.objs.tables.length capt, .slice An c.rols.names.length capn, .slice Am c.rols.members.length capm, .slice Ag c.grants.length capg]] W fun e w'' => e = .returned (.bool p) ∧ Aft W w'' from (rwhole c As caps At capt An capn Am capm Ag capg W (H.aft aW)).mono fun e w'' ⟨he, hw⟩ => ⟨he.trans (by rw [hp]), hw⟩)
  have CK := Lib.hid (show ∀ V, Calls Tryz.prog 89 #[.int .i64 g.right] V fun e w'' => e = .returned (.bool kd) ∧ V = w'' from fun V => hkd ▸ rkind g.right V)
  have CT := Lib.hid (show ∀ V, Aft W V → Calls Tryz.prog 50 #[.agg #[.slice As c.objs.schemas.length caps, .slice At c.objs.tables.length capt], .string g.schema, .string g.table] V fun e w'' => e = .returned (.int .i64 t) ∧ Aft V w'' from fun V a => ht ▸ rtab_any (.slice As c.objs.schemas.length caps) At capt c.objs.tables g.schema g.table V (tabs_aft (aW.trans a) H.tab))
  have CN1 := Lib.hid (show ∀ V, Aft W V → Calls Tryz.prog 91 #[.slice An c.rols.names.length capn, .string g.giver] V fun e w'' => e = .returned (.bool n1) ∧ V = w'' from fun V a => hn1 ▸ rin_any An capn c.rols.names g.giver V (strs_aft (aW.trans a) H.nam))
  have CN2 := Lib.hid (show ∀ V, Aft W V → Calls Tryz.prog 91 #[.slice An c.rols.names.length capn, .string g.to] V fun e w'' => e = .returned (.bool n2) ∧ V = w'' from fun V a => hn2 ▸ rin_any An capn c.rols.names g.to V (strs_aft (aW.trans a) H.nam))
  have HST := Lib.hid (show p = true → 0 ≤ t → n1 = true → standsB c = true ∧ 0 ≤ tabAt c.objs.tables g.schema g.table ∧ allL c.rols g.giver = reachL c g.giver ∧ c.rols.members.length * 16 ≤ 140737488351000 from fun h1 h2 h3 => by
    have h4 := (whole_iff.1 (hp.trans h1)).1
    exact ⟨h4, by rw [ht]; exact h2, allL_reach h4 (hn1.trans h3), by have := (rightR_len (stands_iff.1 h4).2.1.2.1).2; omega⟩)
  have CB := Lib.hid (show ∀ V, Aft W V → p = true → 0 ≤ t → n1 = true → Calls Tryz.prog 92 #[.agg #[.int .i64 c.epoch, .int .i64 c.version, .slice As c.objs.schemas.length caps, .slice At c.objs.tables.length capt, .slice An c.rols.names.length capn, .slice Am c.rols.members.length capm, .slice Ag c.grants.length capg], .string g.giver, .string g.schema, .string g.table] V fun e w'' => e = .returned (.bool bb) ∧ Aft V w'' from fun V a h1 h2 h3 => by
    obtain ⟨g1, g2, g3, g4⟩ := HST.out h1 h2 h3
    exact (rboss c As caps At capt An capn Am capm Ag capg g.giver g.schema g.table V (H.aft (aW.trans a)) sg.2.2.1 g1 g2).mono fun e w'' ⟨he, hw⟩ => ⟨he.trans (by rw [← hbb, ← g3]), hw⟩)
  have CG := Lib.hid (show ∀ V, Aft W V → p = true → 0 ≤ t → n1 = true → Calls Tryz.prog 93 #[.agg #[.int .i64 c.epoch, .int .i64 c.version, .slice As c.objs.schemas.length caps, .slice At c.objs.tables.length capt, .slice An c.rols.names.length capn, .slice Am c.rols.members.length capm, .slice Ag c.grants.length capg], .slice Ag c.grants.length capg, .string g.giver, .string g.schema, .string g.table, .int .i64 g.right, .bool true] V fun e w'' => e = .returned (.bool gb) ∧ Aft V w'' from fun V a h1 h2 h3 => by
    obtain ⟨g1, g2, g3, g4⟩ := HST.out h1 h2 h3
    exact (rgiven c As caps At capt An capn Am capm Ag capg c.grants Ag capg g.giver g.schema g.table g.right true V (H.aft (aW.trans a)) (gras_aft (aW.trans a) H.gra) sg.2.2.1 g4).mono fun e w'' ⟨he, hw⟩ => ⟨he.trans (by rw [← hgb, ← g3]), hw⟩)
  have C2 := Lib.hid (show ∀ V, Aft W V → Calls Tryz.prog 94 #[.slice Ag c.grants.length capg, .agg #[.string g.schema, .string g.table, .int .i64 g.right, .string g.giver, .string g.to, .bool g.opt]] V fun e w'' => e = .returned (.bool q) ∧ Aft V w'' from fun V a => hq ▸ rin9 c.grants Ag capg g V (gras_aft (aW.trans a) H.gra))
  have C3 := Lib.hid (show ∀ V, Aft W V → p = true → Calls Tryz.prog 28 #[.agg #[.int .i64 c.epoch, .int .i64 c.version, .slice As c.objs.schemas.length caps, .slice At c.objs.tables.length capt, .slice An c.rols.names.length capn, .slice Am c.rols.members.length capm, .slice Ag c.grants.length capg]] V (OwnP9 c V) from fun V a h => by
    obtain ⟨h64, ⟨hck, hrr, _, _⟩, _, _⟩ := stands_iff.1 (whole_iff.1 (hp.trans h)).1
    have hrl := rightR_len hrr
    exact own9 c As caps At capt An capn Am capm Ag capg V (H.aft (aW.trans a)) (check_mod hck) (by omega) (by omega) (by omega))
  clear H sg hp hkd he0 ht hn1 hn2 hbb hgb hq HST
  obtain ⟨x0, x1, x2, x3, x4, x5, x6, xz⟩ := rowF7 Bx0.out
  obtain ⟨y0, y1, y2, y3, y4, y5, yz⟩ := rowF6 By0.out
  have u0 := Bu0.out.cell (j := 0) rfl
  have uf0 := Bu0.out.2.2 0 (by simp)
  have u1 := Bu0.out.cell (j := 1) rfl
  have uf1 := Bu0.out.2.2 1 (by simp)
  have u2 := Bu0.out.cell (j := 2) rfl
  have uf2 := Bu0.out.2.2 2 (by simp)
  have u3 := Bu0.out.cell (j := 3) rfl
  have uf3 := Bu0.out.2.2 3 (by simp)
  have u4 := Bu0.out.cell (j := 4) rfl
  have uf4 := Bu0.out.2.2 4 (by simp)
  have u5 := Bu0.out.cell (j := 5) rfl
  have uf5 := Bu0.out.2.2 5 (by simp)
  have u6 := Bu0.out.cell (j := 6) rfl
  have uf6 := Bu0.out.2.2 6 (by simp)
  have uz := Bu0.out.1
  clear r0 r1 r2 aW
  go_enter Tryz.func36, Tryz.ntmps36
  go_wp2_with fail
  rw [← hW]
  clear hW
  go_wp2_with fail
  refine C1.out.mono ?_
  rintro e w1 ⟨rfl, a1⟩
  have A1 := Lib.hid a1
  clear x0 x1 x2 x3 x4 x5 x6 xz y0 y1 y2 y3 y4 y5 yz u0 uf0 u1 uf1 u2 uf2 u3 uf3 u4 uf4 u5 uf5 u6 uf6 uz 
  have Bx1 := Lib.hid (Bx0.out.aft a1)
  have By1 := Lib.hid (By0.out.aft a1)
  have Bu1 := Lib.hid (Bu0.out.aft a1)
  have Kc1 := Lib.hid (Kc0.out.aft a1)
  have AT1 := Lib.hid (HAW.out.trans a1)
  clear a1 C1
  obtain ⟨x0, x1, x2, x3, x4, x5, x6, xz⟩ := rowF7 Bx1.out
  obtain ⟨y0, y1, y2, y3, y4, y5, yz⟩ := rowF6 By1.out
  cases p
  case false =>
    go_wp2_with fail
    refine (rno9 _ _).mono ?_
    rintro e v9 ⟨rfl, b9⟩
    have HV9 := Lib.hid (AT1.out.trans b9)
    have HU9 := Lib.hid (Bu1.out.aft b9)
    have u0 : v9.cell? ⟨w.heap.size + 1 + 1, 0, none⟩ = some (.int .i64 0) := HU9.out.cell (j := 0) rfl
    have uf0 : v9.frozen? ⟨w.heap.size + 1 + 1, 0, none⟩ = false := HU9.out.2.2 0 (by simp [CatL])
    have u1 : v9.cell? ⟨w.heap.size + 1 + 1, 1, none⟩ = some (.int .i64 0) := HU9.out.cell (j := 1) rfl
    have uf1 : v9.frozen? ⟨w.heap.size + 1 + 1, 1, none⟩ = false := HU9.out.2.2 1 (by simp [CatL])
    have u2 : v9.cell? ⟨w.heap.size + 1 + 1, 2, none⟩ = some (.slice none 0 0) := HU9.out.cell (j := 2) rfl
    have uf2 : v9.frozen? ⟨w.heap.size + 1 + 1, 2, none⟩ = false := HU9.out.2.2 2 (by simp [CatL])
    have u3 : v9.cell? ⟨w.heap.size + 1 + 1, 3, none⟩ = some (.slice none 0 0) := HU9.out.cell (j := 3) rfl
    have uf3 : v9.frozen? ⟨w.heap.size + 1 + 1, 3, none⟩ = false := HU9.out.2.2 3 (by simp [CatL])
    have u4 : v9.cell? ⟨w.heap.size + 1 + 1, 4, none⟩ = some (.slice none 0 0) := HU9.out.cell (j := 4) rfl
    have uf4 : v9.frozen? ⟨w.heap.size + 1 + 1, 4, none⟩ = false := HU9.out.2.2 4 (by simp [CatL])
    have u5 : v9.cell? ⟨w.heap.size + 1 + 1, 5, none⟩ = some (.slice none 0 0) := HU9.out.cell (j := 5) rfl
    have uf5 : v9.frozen? ⟨w.heap.size + 1 + 1, 5, none⟩ = false := HU9.out.2.2 5 (by simp [CatL])
    have u6 : v9.cell? ⟨w.heap.size + 1 + 1, 6, none⟩ = some (.slice none 0 0) := HU9.out.cell (j := 6) rfl
    have uf6 : v9.frozen? ⟨w.heap.size + 1 + 1, 6, none⟩ = false := HU9.out.2.2 6 (by simp [CatL])
    have uz : w.heap.size + 1 + 1 < v9.heap.size := HU9.out.1
    clear b9
    go_wp2_with fail
    refine bodyPost_ret (results_cell_tmp (v := .agg #[.int .i64 0, .int .i64 0, .slice none 0 0, .slice none 0 0, .slice none 0 0, .slice none 0 0, .slice none 0 0]) rfl _ rfl (lvCat_row (setC_row HU9.out rfl _ _ _ _ _ _ _))) rfl ?_
    rw [show giveR c g = (noC, 1) from by rw [HRES.out]; simp [*]]
    exact chgC_no ((setC_kb _ _ _ _ _ _ _ _ _).to_aft HV9.out (fun g hg e => by omega))
  go_wp2_with fail
  refine (CK.out w1).mono ?_
  rintro e v8 ⟨rfl, rfl⟩
  cases kd
  case false =>
    go_wp2_with fail
    refine (rno9 _ _).mono ?_
    rintro e v9 ⟨rfl, b9⟩
    have HV9 := Lib.hid (AT1.out.trans b9)
    have HU9 := Lib.hid (Bu1.out.aft b9)
    have u0 : v9.cell? ⟨w.heap.size + 1 + 1, 0, none⟩ = some (.int .i64 0) := HU9.out.cell (j := 0) rfl
    have uf0 : v9.frozen? ⟨w.heap.size + 1 + 1, 0, none⟩ = false := HU9.out.2.2 0 (by simp [CatL])
    have u1 : v9.cell? ⟨w.heap.size + 1 + 1, 1, none⟩ = some (.int .i64 0) := HU9.out.cell (j := 1) rfl
    have uf1 : v9.frozen? ⟨w.heap.size + 1 + 1, 1, none⟩ = false := HU9.out.2.2 1 (by simp [CatL])
    have u2 : v9.cell? ⟨w.heap.size + 1 + 1, 2, none⟩ = some (.slice none 0 0) := HU9.out.cell (j := 2) rfl
    have uf2 : v9.frozen? ⟨w.heap.size + 1 + 1, 2, none⟩ = false := HU9.out.2.2 2 (by simp [CatL])
    have u3 : v9.cell? ⟨w.heap.size + 1 + 1, 3, none⟩ = some (.slice none 0 0) := HU9.out.cell (j := 3) rfl
    have uf3 : v9.frozen? ⟨w.heap.size + 1 + 1, 3, none⟩ = false := HU9.out.2.2 3 (by simp [CatL])
    have u4 : v9.cell? ⟨w.heap.size + 1 + 1, 4, none⟩ = some (.slice none 0 0) := HU9.out.cell (j := 4) rfl
    have uf4 : v9.frozen? ⟨w.heap.size + 1 + 1, 4, none⟩ = false := HU9.out.2.2 4 (by simp [CatL])
    have u5 : v9.cell? ⟨w.heap.size + 1 + 1, 5, none⟩ = some (.slice none 0 0) := HU9.out.cell (j := 5) rfl
    have uf5 : v9.frozen? ⟨w.heap.size + 1 + 1, 5, none⟩ = false := HU9.out.2.2 5 (by simp [CatL])
    have u6 : v9.cell? ⟨w.heap.size + 1 + 1, 6, none⟩ = some (.slice none 0 0) := HU9.out.cell (j := 6) rfl
    have uf6 : v9.frozen? ⟨w.heap.size + 1 + 1, 6, none⟩ = false := HU9.out.2.2 6 (by simp [CatL])
    have uz : w.heap.size + 1 + 1 < v9.heap.size := HU9.out.1
    clear b9
    go_wp2_with fail
    refine bodyPost_ret (results_cell_tmp (v := .agg #[.int .i64 0, .int .i64 0, .slice none 0 0, .slice none 0 0, .slice none 0 0, .slice none 0 0, .slice none 0 0]) rfl _ rfl (lvCat_row (setC_row HU9.out rfl _ _ _ _ _ _ _))) rfl ?_
    rw [show giveR c g = (noC, 1) from by rw [HRES.out]; simp [*]]
    exact chgC_no ((setC_kb _ _ _ _ _ _ _ _ _).to_aft HV9.out (fun g hg e => by omega))
  cases e0
  case true =>
    go_wp2_with fail
    refine (rno9 _ _).mono ?_
    rintro e v9 ⟨rfl, b9⟩
    have HV9 := Lib.hid (AT1.out.trans b9)
    have HU9 := Lib.hid (Bu1.out.aft b9)
    have u0 : v9.cell? ⟨w.heap.size + 1 + 1, 0, none⟩ = some (.int .i64 0) := HU9.out.cell (j := 0) rfl
    have uf0 : v9.frozen? ⟨w.heap.size + 1 + 1, 0, none⟩ = false := HU9.out.2.2 0 (by simp [CatL])
    have u1 : v9.cell? ⟨w.heap.size + 1 + 1, 1, none⟩ = some (.int .i64 0) := HU9.out.cell (j := 1) rfl
    have uf1 : v9.frozen? ⟨w.heap.size + 1 + 1, 1, none⟩ = false := HU9.out.2.2 1 (by simp [CatL])
    have u2 : v9.cell? ⟨w.heap.size + 1 + 1, 2, none⟩ = some (.slice none 0 0) := HU9.out.cell (j := 2) rfl
    have uf2 : v9.frozen? ⟨w.heap.size + 1 + 1, 2, none⟩ = false := HU9.out.2.2 2 (by simp [CatL])
    have u3 : v9.cell? ⟨w.heap.size + 1 + 1, 3, none⟩ = some (.slice none 0 0) := HU9.out.cell (j := 3) rfl
    have uf3 : v9.frozen? ⟨w.heap.size + 1 + 1, 3, none⟩ = false := HU9.out.2.2 3 (by simp [CatL])
    have u4 : v9.cell? ⟨w.heap.size + 1 + 1, 4, none⟩ = some (.slice none 0 0) := HU9.out.cell (j := 4) rfl
    have uf4 : v9.frozen? ⟨w.heap.size + 1 + 1, 4, none⟩ = false := HU9.out.2.2 4 (by simp [CatL])
    have u5 : v9.cell? ⟨w.heap.size + 1 + 1, 5, none⟩ = some (.slice none 0 0) := HU9.out.cell (j := 5) rfl
    have uf5 : v9.frozen? ⟨w.heap.size + 1 + 1, 5, none⟩ = false := HU9.out.2.2 5 (by simp [CatL])
    have u6 : v9.cell? ⟨w.heap.size + 1 + 1, 6, none⟩ = some (.slice none 0 0) := HU9.out.cell (j := 6) rfl
    have uf6 : v9.frozen? ⟨w.heap.size + 1 + 1, 6, none⟩ = false := HU9.out.2.2 6 (by simp [CatL])
    have uz : w.heap.size + 1 + 1 < v9.heap.size := HU9.out.1
    clear b9
    go_wp2_with fail
    refine bodyPost_ret (results_cell_tmp (v := .agg #[.int .i64 0, .int .i64 0, .slice none 0 0, .slice none 0 0, .slice none 0 0, .slice none 0 0, .slice none 0 0]) rfl _ rfl (lvCat_row (setC_row HU9.out rfl _ _ _ _ _ _ _))) rfl ?_
    rw [show giveR c g = (noC, 1) from by rw [HRES.out]; simp [*]]
    exact chgC_no ((setC_kb _ _ _ _ _ _ _ _ _).to_aft HV9.out (fun g hg e => by omega))
  go_wp2_with fail
  refine (CT.out w1 A1.out).mono ?_
  rintro e w2 ⟨rfl, a2⟩
  have A2 := Lib.hid (A1.out.trans a2)
  clear x0 x1 x2 x3 x4 x5 x6 xz y0 y1 y2 y3 y4 y5 yz 
  have Bx2 := Lib.hid (Bx1.out.aft a2)
  have By2 := Lib.hid (By1.out.aft a2)
  have Bu2 := Lib.hid (Bu1.out.aft a2)
  have Kc2 := Lib.hid (Kc1.out.aft a2)
  have AT2 := Lib.hid (AT1.out.trans a2)
  clear a2 CT he2
  obtain ⟨x0, x1, x2, x3, x4, x5, x6, xz⟩ := rowF7 Bx2.out
  obtain ⟨y0, y1, y2, y3, y4, y5, yz⟩ := rowF6 By2.out
  by_cases ht : 0 ≤ t
  case neg =>
    have ht' : t < 0 := by omega
    have htd : decide (0 ≤ t) = false := decide_eq_false ht
    rw [htd] at HRES
    clear htd ht
    go_wp2_with fail
    refine (rno9 _ _).mono ?_
    rintro e v9 ⟨rfl, b9⟩
    have HV9 := Lib.hid (AT2.out.trans b9)
    have HU9 := Lib.hid (Bu2.out.aft b9)
    have u0 : v9.cell? ⟨w.heap.size + 1 + 1, 0, none⟩ = some (.int .i64 0) := HU9.out.cell (j := 0) rfl
    have uf0 : v9.frozen? ⟨w.heap.size + 1 + 1, 0, none⟩ = false := HU9.out.2.2 0 (by simp [CatL])
    have u1 : v9.cell? ⟨w.heap.size + 1 + 1, 1, none⟩ = some (.int .i64 0) := HU9.out.cell (j := 1) rfl
    have uf1 : v9.frozen? ⟨w.heap.size + 1 + 1, 1, none⟩ = false := HU9.out.2.2 1 (by simp [CatL])
    have u2 : v9.cell? ⟨w.heap.size + 1 + 1, 2, none⟩ = some (.slice none 0 0) := HU9.out.cell (j := 2) rfl
    have uf2 : v9.frozen? ⟨w.heap.size + 1 + 1, 2, none⟩ = false := HU9.out.2.2 2 (by simp [CatL])
    have u3 : v9.cell? ⟨w.heap.size + 1 + 1, 3, none⟩ = some (.slice none 0 0) := HU9.out.cell (j := 3) rfl
    have uf3 : v9.frozen? ⟨w.heap.size + 1 + 1, 3, none⟩ = false := HU9.out.2.2 3 (by simp [CatL])
    have u4 : v9.cell? ⟨w.heap.size + 1 + 1, 4, none⟩ = some (.slice none 0 0) := HU9.out.cell (j := 4) rfl
    have uf4 : v9.frozen? ⟨w.heap.size + 1 + 1, 4, none⟩ = false := HU9.out.2.2 4 (by simp [CatL])
    have u5 : v9.cell? ⟨w.heap.size + 1 + 1, 5, none⟩ = some (.slice none 0 0) := HU9.out.cell (j := 5) rfl
    have uf5 : v9.frozen? ⟨w.heap.size + 1 + 1, 5, none⟩ = false := HU9.out.2.2 5 (by simp [CatL])
    have u6 : v9.cell? ⟨w.heap.size + 1 + 1, 6, none⟩ = some (.slice none 0 0) := HU9.out.cell (j := 6) rfl
    have uf6 : v9.frozen? ⟨w.heap.size + 1 + 1, 6, none⟩ = false := HU9.out.2.2 6 (by simp [CatL])
    have uz : w.heap.size + 1 + 1 < v9.heap.size := HU9.out.1
    clear b9
    go_wp2_with fail
    refine bodyPost_ret (results_cell_tmp (v := .agg #[.int .i64 0, .int .i64 0, .slice none 0 0, .slice none 0 0, .slice none 0 0, .slice none 0 0, .slice none 0 0]) rfl _ rfl (lvCat_row (setC_row HU9.out rfl _ _ _ _ _ _ _))) rfl ?_
    rw [show giveR c g = (noC, 61) from by rw [HRES.out]; simp [*]]
    exact chgC_no ((setC_kb _ _ _ _ _ _ _ _ _).to_aft HV9.out (fun g hg e => by omega))
  have htn : ¬ t < 0 := by omega
  have htd : decide (0 ≤ t) = true := decide_eq_true ht
  rw [htd] at HRES
  have HTB := Lib.hid ht
  clear htd
  go_wp2_with fail
  refine (CN1.out w2 A2.out).mono ?_
  rintro e v8 ⟨rfl, rfl⟩
  cases n1
  case false =>
    go_wp2_with fail
    refine (rno9 _ _).mono ?_
    rintro e v9 ⟨rfl, b9⟩
    have HV9 := Lib.hid (AT2.out.trans b9)
    have HU9 := Lib.hid (Bu2.out.aft b9)
    have u0 : v9.cell? ⟨w.heap.size + 1 + 1, 0, none⟩ = some (.int .i64 0) := HU9.out.cell (j := 0) rfl
    have uf0 : v9.frozen? ⟨w.heap.size + 1 + 1, 0, none⟩ = false := HU9.out.2.2 0 (by simp [CatL])
    have u1 : v9.cell? ⟨w.heap.size + 1 + 1, 1, none⟩ = some (.int .i64 0) := HU9.out.cell (j := 1) rfl
    have uf1 : v9.frozen? ⟨w.heap.size + 1 + 1, 1, none⟩ = false := HU9.out.2.2 1 (by simp [CatL])
    have u2 : v9.cell? ⟨w.heap.size + 1 + 1, 2, none⟩ = some (.slice none 0 0) := HU9.out.cell (j := 2) rfl
    have uf2 : v9.frozen? ⟨w.heap.size + 1 + 1, 2, none⟩ = false := HU9.out.2.2 2 (by simp [CatL])
    have u3 : v9.cell? ⟨w.heap.size + 1 + 1, 3, none⟩ = some (.slice none 0 0) := HU9.out.cell (j := 3) rfl
    have uf3 : v9.frozen? ⟨w.heap.size + 1 + 1, 3, none⟩ = false := HU9.out.2.2 3 (by simp [CatL])
    have u4 : v9.cell? ⟨w.heap.size + 1 + 1, 4, none⟩ = some (.slice none 0 0) := HU9.out.cell (j := 4) rfl
    have uf4 : v9.frozen? ⟨w.heap.size + 1 + 1, 4, none⟩ = false := HU9.out.2.2 4 (by simp [CatL])
    have u5 : v9.cell? ⟨w.heap.size + 1 + 1, 5, none⟩ = some (.slice none 0 0) := HU9.out.cell (j := 5) rfl
    have uf5 : v9.frozen? ⟨w.heap.size + 1 + 1, 5, none⟩ = false := HU9.out.2.2 5 (by simp [CatL])
    have u6 : v9.cell? ⟨w.heap.size + 1 + 1, 6, none⟩ = some (.slice none 0 0) := HU9.out.cell (j := 6) rfl
    have uf6 : v9.frozen? ⟨w.heap.size + 1 + 1, 6, none⟩ = false := HU9.out.2.2 6 (by simp [CatL])
    have uz : w.heap.size + 1 + 1 < v9.heap.size := HU9.out.1
    clear b9
    go_wp2_with fail
    refine bodyPost_ret (results_cell_tmp (v := .agg #[.int .i64 0, .int .i64 0, .slice none 0 0, .slice none 0 0, .slice none 0 0, .slice none 0 0, .slice none 0 0]) rfl _ rfl (lvCat_row (setC_row HU9.out rfl _ _ _ _ _ _ _))) rfl ?_
    rw [show giveR c g = (noC, 71) from by rw [HRES.out]; simp [*]]
    exact chgC_no ((setC_kb _ _ _ _ _ _ _ _ _).to_aft HV9.out (fun g hg e => by omega))
  go_wp2_with fail
  refine (CN2.out w2 A2.out).mono ?_
  rintro e v8 ⟨rfl, rfl⟩
  cases n2
  case false =>
    go_wp2_with fail
    refine (rno9 _ _).mono ?_
    rintro e v9 ⟨rfl, b9⟩
    have HV9 := Lib.hid (AT2.out.trans b9)
    have HU9 := Lib.hid (Bu2.out.aft b9)
    have u0 : v9.cell? ⟨w.heap.size + 1 + 1, 0, none⟩ = some (.int .i64 0) := HU9.out.cell (j := 0) rfl
    have uf0 : v9.frozen? ⟨w.heap.size + 1 + 1, 0, none⟩ = false := HU9.out.2.2 0 (by simp [CatL])
    have u1 : v9.cell? ⟨w.heap.size + 1 + 1, 1, none⟩ = some (.int .i64 0) := HU9.out.cell (j := 1) rfl
    have uf1 : v9.frozen? ⟨w.heap.size + 1 + 1, 1, none⟩ = false := HU9.out.2.2 1 (by simp [CatL])
    have u2 : v9.cell? ⟨w.heap.size + 1 + 1, 2, none⟩ = some (.slice none 0 0) := HU9.out.cell (j := 2) rfl
    have uf2 : v9.frozen? ⟨w.heap.size + 1 + 1, 2, none⟩ = false := HU9.out.2.2 2 (by simp [CatL])
    have u3 : v9.cell? ⟨w.heap.size + 1 + 1, 3, none⟩ = some (.slice none 0 0) := HU9.out.cell (j := 3) rfl
    have uf3 : v9.frozen? ⟨w.heap.size + 1 + 1, 3, none⟩ = false := HU9.out.2.2 3 (by simp [CatL])
    have u4 : v9.cell? ⟨w.heap.size + 1 + 1, 4, none⟩ = some (.slice none 0 0) := HU9.out.cell (j := 4) rfl
    have uf4 : v9.frozen? ⟨w.heap.size + 1 + 1, 4, none⟩ = false := HU9.out.2.2 4 (by simp [CatL])
    have u5 : v9.cell? ⟨w.heap.size + 1 + 1, 5, none⟩ = some (.slice none 0 0) := HU9.out.cell (j := 5) rfl
    have uf5 : v9.frozen? ⟨w.heap.size + 1 + 1, 5, none⟩ = false := HU9.out.2.2 5 (by simp [CatL])
    have u6 : v9.cell? ⟨w.heap.size + 1 + 1, 6, none⟩ = some (.slice none 0 0) := HU9.out.cell (j := 6) rfl
    have uf6 : v9.frozen? ⟨w.heap.size + 1 + 1, 6, none⟩ = false := HU9.out.2.2 6 (by simp [CatL])
    have uz : w.heap.size + 1 + 1 < v9.heap.size := HU9.out.1
    clear b9
    go_wp2_with fail
    refine bodyPost_ret (results_cell_tmp (v := .agg #[.int .i64 0, .int .i64 0, .slice none 0 0, .slice none 0 0, .slice none 0 0, .slice none 0 0, .slice none 0 0]) rfl _ rfl (lvCat_row (setC_row HU9.out rfl _ _ _ _ _ _ _))) rfl ?_
    rw [show giveR c g = (noC, 71) from by rw [HRES.out]; simp [*]]
    exact chgC_no ((setC_kb _ _ _ _ _ _ _ _ _).to_aft HV9.out (fun g hg e => by omega))
  have CB' := Lib.hid (CB.out w2 A2.out (by simp) HTB.out (by simp))
  clear CB
  go_wp2_with fail
  refine CB'.out.mono ?_
  rintro e w3 ⟨rfl, a3⟩
  have A3 := Lib.hid (A2.out.trans a3)
  clear x0 x1 x2 x3 x4 x5 x6 xz y0 y1 y2 y3 y4 y5 yz 
  have Bx3 := Lib.hid (Bx2.out.aft a3)
  have By3 := Lib.hid (By2.out.aft a3)
  have Bu3 := Lib.hid (Bu2.out.aft a3)
  have Kc3 := Lib.hid (Kc2.out.aft a3)
  have AT3 := Lib.hid (AT2.out.trans a3)
  clear a3 CB' CN1 CN2
  obtain ⟨x0, x1, x2, x3, x4, x5, x6, xz⟩ := rowF7 Bx3.out
  obtain ⟨y0, y1, y2, y3, y4, y5, yz⟩ := rowF6 By3.out
  have CG' := Lib.hid (CG.out w3 A3.out (by simp) HTB.out (by simp))
  have C3' := Lib.hid (fun V (a : Aft W V) => C3.out V a (by simp))
  clear CG ht htn C3
  have HLE := Lib.hid (layK_end (l := c.grants) (g := g) (stands_iff.1 (whole_iff.1 HPW.out).1).2.2.2)
  have hg64 : c.grants.length ≤ 64 := (stands_iff.1 (whole_iff.1 HPW.out).1).1
  cases bb
  case' true =>
    by_cases h64 : 64 ≤ c.grants.length
    case' pos =>
      have h64i : (64 : Int) ≤ (c.grants.length : Int) := by omega
      have C2' := Lib.hid (C2.out w3 A3.out)
      go_wp2_with fail
      refine C2'.out.mono ?_
      rintro e w4b ⟨rfl, a4⟩
      have A4b := Lib.hid (A3.out.trans a4)
      clear x0 x1 x2 x3 x4 x5 x6 xz y0 y1 y2 y3 y4 y5 yz 
      have Bx4 := Lib.hid (Bx3.out.aft a4)
      have By4 := Lib.hid (By3.out.aft a4)
      have Bu4 := Lib.hid (Bu3.out.aft a4)
      have Kc4 := Lib.hid (Kc3.out.aft a4)
      have AT4 := Lib.hid (AT3.out.trans a4)
      clear a4 C2'
      obtain ⟨x0, x1, x2, x3, x4, x5, x6, xz⟩ := rowF7 Bx4.out
      obtain ⟨y0, y1, y2, y3, y4, y5, yz⟩ := rowF6 By4.out
      cases q
      case false =>
        go_wp2_with fail
        refine (rno9 _ _).mono ?_
        rintro e v9 ⟨rfl, b9⟩
        have HV9 := Lib.hid (AT4.out.trans b9)
        have HU9 := Lib.hid (Bu4.out.aft b9)
        have u0 : v9.cell? ⟨w.heap.size + 1 + 1, 0, none⟩ = some (.int .i64 0) := HU9.out.cell (j := 0) rfl
        have uf0 : v9.frozen? ⟨w.heap.size + 1 + 1, 0, none⟩ = false := HU9.out.2.2 0 (by simp [CatL])
        have u1 : v9.cell? ⟨w.heap.size + 1 + 1, 1, none⟩ = some (.int .i64 0) := HU9.out.cell (j := 1) rfl
        have uf1 : v9.frozen? ⟨w.heap.size + 1 + 1, 1, none⟩ = false := HU9.out.2.2 1 (by simp [CatL])
        have u2 : v9.cell? ⟨w.heap.size + 1 + 1, 2, none⟩ = some (.slice none 0 0) := HU9.out.cell (j := 2) rfl
        have uf2 : v9.frozen? ⟨w.heap.size + 1 + 1, 2, none⟩ = false := HU9.out.2.2 2 (by simp [CatL])
        have u3 : v9.cell? ⟨w.heap.size + 1 + 1, 3, none⟩ = some (.slice none 0 0) := HU9.out.cell (j := 3) rfl
        have uf3 : v9.frozen? ⟨w.heap.size + 1 + 1, 3, none⟩ = false := HU9.out.2.2 3 (by simp [CatL])
        have u4 : v9.cell? ⟨w.heap.size + 1 + 1, 4, none⟩ = some (.slice none 0 0) := HU9.out.cell (j := 4) rfl
        have uf4 : v9.frozen? ⟨w.heap.size + 1 + 1, 4, none⟩ = false := HU9.out.2.2 4 (by simp [CatL])
        have u5 : v9.cell? ⟨w.heap.size + 1 + 1, 5, none⟩ = some (.slice none 0 0) := HU9.out.cell (j := 5) rfl
        have uf5 : v9.frozen? ⟨w.heap.size + 1 + 1, 5, none⟩ = false := HU9.out.2.2 5 (by simp [CatL])
        have u6 : v9.cell? ⟨w.heap.size + 1 + 1, 6, none⟩ = some (.slice none 0 0) := HU9.out.cell (j := 6) rfl
        have uf6 : v9.frozen? ⟨w.heap.size + 1 + 1, 6, none⟩ = false := HU9.out.2.2 6 (by simp [CatL])
        have uz : w.heap.size + 1 + 1 < v9.heap.size := HU9.out.1
        clear b9
        go_wp2_with fail
        refine bodyPost_ret (results_cell_tmp (v := .agg #[.int .i64 0, .int .i64 0, .slice none 0 0, .slice none 0 0, .slice none 0 0, .slice none 0 0, .slice none 0 0]) rfl _ rfl (lvCat_row (setC_row HU9.out rfl _ _ _ _ _ _ _))) rfl ?_
        rw [show giveR c g = (noC, 2) from by rw [HRES.out]; simp [*]]
        exact chgC_no ((setC_kb _ _ _ _ _ _ _ _ _).to_aft HV9.out (fun g hg e => by omega))
      have HT := Lib.hid (show giveR c g = ({ c with grants := laid c.grants g }, 0) from by rw [HRES.out]; simp)
      obtain ⟨wK, hwK⟩ : ∃ V, V = w4b := ⟨_, rfl⟩
      subst hwK
      have AK := A4b
      have BxK := Bx4
      have ByK := By4
      have BuK := Bu4
      have KcK := Kc4
      have AtK := AT4
      clear HRES
    case' neg =>
      have h64i : ¬ (64 : Int) ≤ (c.grants.length : Int) := by omega
      have HT := Lib.hid (show giveR c g = ({ c with grants := laid c.grants g }, 0) from by rw [HRES.out]; simp [h64])
      obtain ⟨wK, hwK⟩ : ∃ V, V = w3 := ⟨_, rfl⟩
      subst hwK
      have AK := A3
      have BxK := Bx3
      have ByK := By3
      have BuK := Bu3
      have KcK := Kc3
      have AtK := AT3
      clear HRES
  case' false =>
    go_wp2_with fail
    refine CG'.out.mono ?_
    rintro e w4 ⟨rfl, a4⟩
    have A4 := Lib.hid (A3.out.trans a4)
    clear x0 x1 x2 x3 x4 x5 x6 xz y0 y1 y2 y3 y4 y5 yz 
    have Bx4 := Lib.hid (Bx3.out.aft a4)
    have By4 := Lib.hid (By3.out.aft a4)
    have Bu4 := Lib.hid (Bu3.out.aft a4)
    have Kc4 := Lib.hid (Kc3.out.aft a4)
    have AT4 := Lib.hid (AT3.out.trans a4)
    clear a4 
    obtain ⟨x0, x1, x2, x3, x4, x5, x6, xz⟩ := rowF7 Bx4.out
    obtain ⟨y0, y1, y2, y3, y4, y5, yz⟩ := rowF6 By4.out
    cases gb
    case false =>
      go_wp2_with fail
      refine (rno9 _ _).mono ?_
      rintro e v9 ⟨rfl, b9⟩
      have HV9 := Lib.hid (AT4.out.trans b9)
      have HU9 := Lib.hid (Bu4.out.aft b9)
      have u0 : v9.cell? ⟨w.heap.size + 1 + 1, 0, none⟩ = some (.int .i64 0) := HU9.out.cell (j := 0) rfl
      have uf0 : v9.frozen? ⟨w.heap.size + 1 + 1, 0, none⟩ = false := HU9.out.2.2 0 (by simp [CatL])
      have u1 : v9.cell? ⟨w.heap.size + 1 + 1, 1, none⟩ = some (.int .i64 0) := HU9.out.cell (j := 1) rfl
      have uf1 : v9.frozen? ⟨w.heap.size + 1 + 1, 1, none⟩ = false := HU9.out.2.2 1 (by simp [CatL])
      have u2 : v9.cell? ⟨w.heap.size + 1 + 1, 2, none⟩ = some (.slice none 0 0) := HU9.out.cell (j := 2) rfl
      have uf2 : v9.frozen? ⟨w.heap.size + 1 + 1, 2, none⟩ = false := HU9.out.2.2 2 (by simp [CatL])
      have u3 : v9.cell? ⟨w.heap.size + 1 + 1, 3, none⟩ = some (.slice none 0 0) := HU9.out.cell (j := 3) rfl
      have uf3 : v9.frozen? ⟨w.heap.size + 1 + 1, 3, none⟩ = false := HU9.out.2.2 3 (by simp [CatL])
      have u4 : v9.cell? ⟨w.heap.size + 1 + 1, 4, none⟩ = some (.slice none 0 0) := HU9.out.cell (j := 4) rfl
      have uf4 : v9.frozen? ⟨w.heap.size + 1 + 1, 4, none⟩ = false := HU9.out.2.2 4 (by simp [CatL])
      have u5 : v9.cell? ⟨w.heap.size + 1 + 1, 5, none⟩ = some (.slice none 0 0) := HU9.out.cell (j := 5) rfl
      have uf5 : v9.frozen? ⟨w.heap.size + 1 + 1, 5, none⟩ = false := HU9.out.2.2 5 (by simp [CatL])
      have u6 : v9.cell? ⟨w.heap.size + 1 + 1, 6, none⟩ = some (.slice none 0 0) := HU9.out.cell (j := 6) rfl
      have uf6 : v9.frozen? ⟨w.heap.size + 1 + 1, 6, none⟩ = false := HU9.out.2.2 6 (by simp [CatL])
      have uz : w.heap.size + 1 + 1 < v9.heap.size := HU9.out.1
      clear b9
      go_wp2_with fail
      refine bodyPost_ret (results_cell_tmp (v := .agg #[.int .i64 0, .int .i64 0, .slice none 0 0, .slice none 0 0, .slice none 0 0, .slice none 0 0, .slice none 0 0]) rfl _ rfl (lvCat_row (setC_row HU9.out rfl _ _ _ _ _ _ _))) rfl ?_
      rw [show giveR c g = (noC, 91) from by rw [HRES.out]; simp [*]]
      exact chgC_no ((setC_kb _ _ _ _ _ _ _ _ _).to_aft HV9.out (fun g hg e => by omega))
    by_cases h64 : 64 ≤ c.grants.length
    case' pos =>
      have h64i : (64 : Int) ≤ (c.grants.length : Int) := by omega
      have C2' := Lib.hid (C2.out w4 A4.out)
      go_wp2_with fail
      refine C2'.out.mono ?_
      rintro e w4b ⟨rfl, a4⟩
      have A4b := Lib.hid (A4.out.trans a4)
      clear x0 x1 x2 x3 x4 x5 x6 xz y0 y1 y2 y3 y4 y5 yz 
      have Bx5 := Lib.hid (Bx4.out.aft a4)
      have By5 := Lib.hid (By4.out.aft a4)
      have Bu5 := Lib.hid (Bu4.out.aft a4)
      have Kc5 := Lib.hid (Kc4.out.aft a4)
      have AT5 := Lib.hid (AT4.out.trans a4)
      clear a4 C2'
      obtain ⟨x0, x1, x2, x3, x4, x5, x6, xz⟩ := rowF7 Bx5.out
      obtain ⟨y0, y1, y2, y3, y4, y5, yz⟩ := rowF6 By5.out
      cases q
      case false =>
        go_wp2_with fail
        refine (rno9 _ _).mono ?_
        rintro e v9 ⟨rfl, b9⟩
        have HV9 := Lib.hid (AT5.out.trans b9)
        have HU9 := Lib.hid (Bu5.out.aft b9)
        have u0 : v9.cell? ⟨w.heap.size + 1 + 1, 0, none⟩ = some (.int .i64 0) := HU9.out.cell (j := 0) rfl
        have uf0 : v9.frozen? ⟨w.heap.size + 1 + 1, 0, none⟩ = false := HU9.out.2.2 0 (by simp [CatL])
        have u1 : v9.cell? ⟨w.heap.size + 1 + 1, 1, none⟩ = some (.int .i64 0) := HU9.out.cell (j := 1) rfl
        have uf1 : v9.frozen? ⟨w.heap.size + 1 + 1, 1, none⟩ = false := HU9.out.2.2 1 (by simp [CatL])
        have u2 : v9.cell? ⟨w.heap.size + 1 + 1, 2, none⟩ = some (.slice none 0 0) := HU9.out.cell (j := 2) rfl
        have uf2 : v9.frozen? ⟨w.heap.size + 1 + 1, 2, none⟩ = false := HU9.out.2.2 2 (by simp [CatL])
        have u3 : v9.cell? ⟨w.heap.size + 1 + 1, 3, none⟩ = some (.slice none 0 0) := HU9.out.cell (j := 3) rfl
        have uf3 : v9.frozen? ⟨w.heap.size + 1 + 1, 3, none⟩ = false := HU9.out.2.2 3 (by simp [CatL])
        have u4 : v9.cell? ⟨w.heap.size + 1 + 1, 4, none⟩ = some (.slice none 0 0) := HU9.out.cell (j := 4) rfl
        have uf4 : v9.frozen? ⟨w.heap.size + 1 + 1, 4, none⟩ = false := HU9.out.2.2 4 (by simp [CatL])
        have u5 : v9.cell? ⟨w.heap.size + 1 + 1, 5, none⟩ = some (.slice none 0 0) := HU9.out.cell (j := 5) rfl
        have uf5 : v9.frozen? ⟨w.heap.size + 1 + 1, 5, none⟩ = false := HU9.out.2.2 5 (by simp [CatL])
        have u6 : v9.cell? ⟨w.heap.size + 1 + 1, 6, none⟩ = some (.slice none 0 0) := HU9.out.cell (j := 6) rfl
        have uf6 : v9.frozen? ⟨w.heap.size + 1 + 1, 6, none⟩ = false := HU9.out.2.2 6 (by simp [CatL])
        have uz : w.heap.size + 1 + 1 < v9.heap.size := HU9.out.1
        clear b9
        go_wp2_with fail
        refine bodyPost_ret (results_cell_tmp (v := .agg #[.int .i64 0, .int .i64 0, .slice none 0 0, .slice none 0 0, .slice none 0 0, .slice none 0 0, .slice none 0 0]) rfl _ rfl (lvCat_row (setC_row HU9.out rfl _ _ _ _ _ _ _))) rfl ?_
        rw [show giveR c g = (noC, 2) from by rw [HRES.out]; simp [*]]
        exact chgC_no ((setC_kb _ _ _ _ _ _ _ _ _).to_aft HV9.out (fun g hg e => by omega))
      have HT := Lib.hid (show giveR c g = ({ c with grants := laid c.grants g }, 0) from by rw [HRES.out]; simp)
      obtain ⟨wK, hwK⟩ : ∃ V, V = w4b := ⟨_, rfl⟩
      subst hwK
      have AK := A4b
      have BxK := Bx5
      have ByK := By5
      have BuK := Bu5
      have KcK := Kc5
      have AtK := AT5
      clear HRES
    case' neg =>
      have h64i : ¬ (64 : Int) ≤ (c.grants.length : Int) := by omega
      have HT := Lib.hid (show giveR c g = ({ c with grants := laid c.grants g }, 0) from by rw [HRES.out]; simp [h64])
      obtain ⟨wK, hwK⟩ : ∃ V, V = w4 := ⟨_, rfl⟩
      subst hwK
      have AK := A4
      have BxK := Bx4
      have ByK := By4
      have BuK := Bu4
      have KcK := Kc4
      have AtK := AT4
      clear HRES
  all_goals
    have CO := Lib.hid (C3'.out wK AK.out)
    clear C3' CG' C2
    go_wp2_with fail
    refine CO.out.mono ?_
    rintro e w5 ⟨hs, ht, hn, hm, hg, L, rfl, a5, ci⟩
    obtain ⟨Bs, nBs, bcs⟩ := hs
    obtain ⟨Bt, nBt, bct⟩ := ht
    obtain ⟨Bn, nBn, bcn⟩ := hn
    obtain ⟨Bm, nBm, bcm⟩ := hm
    obtain ⟨Bg, nBg, bcg⟩ := hg
    simp only [CatV]
    have CI3 := Lib.hid ci
    have HU2 := Lib.hid BuK.out
    have S23 := Lib.hid a5.size
    have S3W := Lib.hid (show w.heap.size + 1 + 1 < w5.heap.size from Nat.lt_of_lt_of_le BuK.out.1 a5.size)
    clear x0 x1 x2 x3 x4 x5 x6 xz y0 y1 y2 y3 y4 y5 yz 
    have Bx4 := Lib.hid (BxK.out.aft a5)
    have By4 := Lib.hid (ByK.out.aft a5)
    have Bu4 := Lib.hid (BuK.out.aft a5)
    have Kc4 := Lib.hid (KcK.out.aft a5)
    have AT4 := Lib.hid (AtK.out.trans a5)
    clear a5 CO ci
    obtain ⟨x0, x1, x2, x3, x4, x5, x6, xz⟩ := rowF7 Bx4.out
    obtain ⟨y0, y1, y2, y3, y4, y5, yz⟩ := rowF6 By4.out
    clear x0 x1 x2 x3 x4 x5 x6 xz y0 y1 y2 y3 y4 y5 yz 
    obtain ⟨X, hX⟩ : ∃ V, V = w5.alloc (.cells #[.int .i64 c.epoch, .int .i64 c.version, .slice Bs c.objs.schemas.length bcs, .slice Bt c.objs.tables.length bct, .slice Bn c.rols.names.length bcn, .slice Bm c.rols.members.length bcm, .slice Bg c.grants.length bcg] 66) := ⟨_, rfl⟩
    have aX : Aft w5 X := by rw [hX]; exact (Aft.refl _).alloc _
    have RX := Lib.hid (show RowAt X w5.heap.size [.int .i64 c.epoch, .int .i64 c.version, .slice Bs c.objs.schemas.length bcs, .slice Bt c.objs.tables.length bct, .slice Bn c.rols.names.length bcn, .slice Bm c.rols.members.length bcm, .slice Bg c.grants.length bcg] by rw [hX]; exact box_row2 (Aft.refl _))
    have Bx5 := Lib.hid (Bx4.out.aft aX)
    have By5 := Lib.hid (By4.out.aft aX)
    have Bu5 := Lib.hid (Bu4.out.aft aX)
    have Kc5 := Lib.hid (Kc4.out.aft aX)
    have AT5 := Lib.hid (AT4.out.trans aX)
    obtain ⟨x0, x1, x2, x3, x4, x5, x6, xz⟩ := rowF7 Bx5.out
    obtain ⟨y0, y1, y2, y3, y4, y5, yz⟩ := rowF6 By5.out
    rw [hX] at x0 x1 x2 x3 x4 x5 x6 xz y0 y1 y2 y3 y4 y5 yz
    have OX := Lib.hid (show OutAt X wK.heap.size w5.heap.size c ⟨Bs, nBs, bcs⟩ ⟨Bt, nBt, bct⟩ ⟨Bn, nBn, bcn⟩ ⟨Bm, nBm, bcm⟩ ⟨Bg, nBg, bcg⟩ L from OutAt.new CI3.out hX)
    have SX := Lib.hid (show wK.heap.size ≤ X.heap.size ∧ w.heap.size + 1 + 1 < wK.heap.size from ⟨by rw [hX]; simp; have := S23.out; omega, HU2.out.1⟩)
    -- the end, told once for each world behind the loop
    have KE := Lib.hid (show ∀ (w6 : World) (D : Option Addr) (nD dc : Nat) (l' : List Gra), l' = laid c.grants g → GrG X w6 ⟨D, nD, dc⟩ l' →
        ((w6.cell? ⟨w5.heap.size, 6, none⟩ = some (.slice Bg c.grants.length bcg) ∧ w6.frozen? ⟨w5.heap.size, 6, none⟩ = false ∧ w5.heap.size < w6.heap.size) ∧
         ((w6.setCell ⟨w5.heap.size, 6, none⟩ (.slice D l'.length dc)).cell? ⟨w5.heap.size, 0, none⟩ = some (.int .i64 c.epoch) ∧ (w6.setCell ⟨w5.heap.size, 6, none⟩ (.slice D l'.length dc)).cell? ⟨w5.heap.size, 1, none⟩ = some (.int .i64 c.version) ∧ (w6.setCell ⟨w5.heap.size, 6, none⟩ (.slice D l'.length dc)).cell? ⟨w5.heap.size, 2, none⟩ = some (.slice Bs c.objs.schemas.length bcs) ∧ (w6.setCell ⟨w5.heap.size, 6, none⟩ (.slice D l'.length dc)).cell? ⟨w5.heap.size, 3, none⟩ = some (.slice Bt c.objs.tables.length bct) ∧ (w6.setCell ⟨w5.heap.size, 6, none⟩ (.slice D l'.length dc)).cell? ⟨w5.heap.size, 4, none⟩ = some (.slice Bn c.rols.names.length bcn) ∧ (w6.setCell ⟨w5.heap.size, 6, none⟩ (.slice D l'.length dc)).cell? ⟨w5.heap.size, 5, none⟩ = some (.slice Bm c.rols.members.length bcm) ∧ (w6.setCell ⟨w5.heap.size, 6, none⟩ (.slice D l'.length dc)).cell? ⟨w5.heap.size, 6, none⟩ = some (.slice D l'.length dc)) ∧
         ((w6.setCell ⟨w5.heap.size, 6, none⟩ (.slice D l'.length dc)).cell? ⟨w.heap.size + 1 + 1, 0, none⟩ = some (.int .i64 0) ∧ (w6.setCell ⟨w5.heap.size, 6, none⟩ (.slice D l'.length dc)).frozen? ⟨w.heap.size + 1 + 1, 0, none⟩ = false ∧ (w6.setCell ⟨w5.heap.size, 6, none⟩ (.slice D l'.length dc)).cell? ⟨w.heap.size + 1 + 1, 1, none⟩ = some (.int .i64 0) ∧ (w6.setCell ⟨w5.heap.size, 6, none⟩ (.slice D l'.length dc)).frozen? ⟨w.heap.size + 1 + 1, 1, none⟩ = false ∧ (w6.setCell ⟨w5.heap.size, 6, none⟩ (.slice D l'.length dc)).cell? ⟨w.heap.size + 1 + 1, 2, none⟩ = some (.slice none 0 0) ∧ (w6.setCell ⟨w5.heap.size, 6, none⟩ (.slice D l'.length dc)).frozen? ⟨w.heap.size + 1 + 1, 2, none⟩ = false ∧ (w6.setCell ⟨w5.heap.size, 6, none⟩ (.slice D l'.length dc)).cell? ⟨w.heap.size + 1 + 1, 3, none⟩ = some (.slice none 0 0) ∧ (w6.setCell ⟨w5.heap.size, 6, none⟩ (.slice D l'.length dc)).frozen? ⟨w.heap.size + 1 + 1, 3, none⟩ = false ∧ (w6.setCell ⟨w5.heap.size, 6, none⟩ (.slice D l'.length dc)).cell? ⟨w.heap.size + 1 + 1, 4, none⟩ = some (.slice none 0 0) ∧ (w6.setCell ⟨w5.heap.size, 6, none⟩ (.slice D l'.length dc)).frozen? ⟨w.heap.size + 1 + 1, 4, none⟩ = false ∧ (w6.setCell ⟨w5.heap.size, 6, none⟩ (.slice D l'.length dc)).cell? ⟨w.heap.size + 1 + 1, 5, none⟩ = some (.slice none 0 0) ∧ (w6.setCell ⟨w5.heap.size, 6, none⟩ (.slice D l'.length dc)).frozen? ⟨w.heap.size + 1 + 1, 5, none⟩ = false ∧ (w6.setCell ⟨w5.heap.size, 6, none⟩ (.slice D l'.length dc)).cell? ⟨w.heap.size + 1 + 1, 6, none⟩ = some (.slice none 0 0) ∧ (w6.setCell ⟨w5.heap.size, 6, none⟩ (.slice D l'.length dc)).frozen? ⟨w.heap.size + 1 + 1, 6, none⟩ = false) ∧ w.heap.size + 1 + 1 < (w6.setCell ⟨w5.heap.size, 6, none⟩ (.slice D l'.length dc)).heap.size ∧ w5.heap.size < (w6.setCell ⟨w5.heap.size, 6, none⟩ (.slice D l'.length dc)).heap.size ∧
         Hid (∃ Y, Y = w6.setCell ⟨w5.heap.size, 6, none⟩ (.slice D l'.length dc) ∧ RowAt Y (w.heap.size + 1 + 1) [.int .i64 0, .int .i64 0, .slice none 0 0, .slice none 0 0, .slice none 0 0, .slice none 0 0, .slice none 0 0] ∧ OutAt Y wK.heap.size w5.heap.size { c with grants := l' } ⟨Bs, nBs, bcs⟩ ⟨Bt, nBt, bct⟩ ⟨Bn, nBn, bcn⟩ ⟨Bm, nBm, bcm⟩ ⟨D, nD, dc⟩ L ∧ Aft w Y)) from fun w6 D nD dc l' hl' hg' => by
      have OY := OX.out.new_row SX.out.1 hg'.1 hg'.2
      have kY := Kb.set w6 w5.heap.size 6 (.slice D l'.length dc)
      have AY := kY.to_aft (AT5.out.trans hg'.1) (fun k hk e => by have e : k = _ := e; have := S3W.out; omega)
      have UY := kY.row (Bu5.out.aft hg'.1) (by have := S3W.out; omega)
      have oz := (OX.out.aft hg'.1).row
      exact ⟨⟨oz.cell (j := 6) rfl, oz.2.2 6 (by simp [CatL]), oz.1⟩, ⟨OY.row.cell (j := 0) rfl, OY.row.cell (j := 1) rfl, OY.row.cell (j := 2) rfl, OY.row.cell (j := 3) rfl, OY.row.cell (j := 4) rfl, OY.row.cell (j := 5) rfl, OY.row.cell (j := 6) rfl⟩, ⟨UY.cell (j := 0) rfl, UY.2.2 0 (by simp), UY.cell (j := 1) rfl, UY.2.2 1 (by simp), UY.cell (j := 2) rfl, UY.2.2 2 (by simp), UY.cell (j := 3) rfl, UY.2.2 3 (by simp), UY.cell (j := 4) rfl, UY.2.2 4 (by simp), UY.cell (j := 5) rfl, UY.2.2 5 (by simp), UY.cell (j := 6) rfl, UY.2.2 6 (by simp)⟩, UY.1, OY.row.1, Lib.hid ⟨_, rfl, UY, OY, AY⟩⟩)
    have ne9 : ¬ w.heap.size + 1 + 1 = w5.heap.size := by have := S3W.out; omega
    have ne8 : ¬ w5.heap.size = w.heap.size + 1 + 1 := by have := S3W.out; omega
    have NE := Lib.hid (And.intro ne9 ne8)
    clear ne9 ne8
    go_wp2_with fail
    rw [← hX]
    clear hX aX x0 x1 x2 x3 x4 x5 x6 xz y0 y1 y2 y3 y4 y5 yz
    go_loopw [7, 8, 9] (fun u7 u8 u9 wr => ∃ (k : Nat) (hd : Hd), u7 = .slice hd.a (layK c.grants g k).1.length hd.c ∧ u8 = .bool (layK c.grants g k).2 ∧ u9 = .int .i64 k ∧ k ≤ c.grants.length ∧ GrG X wr hd (layK c.grants g k).1) (fun _ _ u9 _ => c.grants.length - (intOf u9).toNat)
    case atStart => exact ⟨0, ⟨none, 0, 0⟩, rfl, rfl, rfl, Nat.zero_le _, GrG.start X⟩
    case round =>
      obtain ⟨k, hd, rfl, rfl, rfl, hk, hgr⟩ := hrel
      have HG := Lib.hid hgr
      have ax := hgr.1
      obtain ⟨x0, x1, x2, x3, x4, x5, x6, xz⟩ := rowF7 (Bx5.out.aft ax)
      obtain ⟨y0, y1, y2, y3, y4, y5, yz⟩ := rowF6 (By5.out.aft ax)
      have hll := layK_len c.grants g k hk
      by_cases hlt : k < c.grants.length
      case neg =>
        have hkl : k = c.grants.length := by omega
        subst hkl
        have HL := HLE.out
        unfold layEnd at HL
        obtain ⟨S, hS⟩ : ∃ S, layK c.grants g c.grants.length = S := ⟨_, rfl⟩
        rw [hS] at HG HL hll ⊢
        obtain ⟨acc, ld⟩ := S
        dsimp only at HG HL hll ⊢
        obtain ⟨D, nD, dc⟩ := hd
        dsimp only
        obtain ⟨ne9, ne8⟩ := NE.out
        cases ld
        case true =>
          have HLL := Lib.hid (show acc = laid c.grants g from HL)
          obtain ⟨⟨s6, sf, sz⟩, ⟨q0, q1, q2, q3, q4, q5, q6⟩, ⟨u0, uf0, u1, uf1, u2, uf2, u3, uf3, u4, uf4, u5, uf5, u6, uf6⟩, uz, qz, HE⟩ := KE.out wr D nD dc acc HL HG.out
          clear hgr ax hS HL hll
          go_wp2_with fail
          (try simp only [Exit.inBlock, Exit.then])
          obtain ⟨Y, hY, UY, OY, AY⟩ := HE.out
          rw [← hY]
          have hdn := OY.done UY rfl AY (by omega) SX.out.2
          refine bodyPost_ret (results_cell_tmp (v := .agg #[.int .i64 c.epoch, .int .i64 c.version, .slice Bs c.objs.schemas.length bcs, .slice Bt c.objs.tables.length bct, .slice Bn c.rols.names.length bcn, .slice Bm c.rols.members.length bcm, .slice D acc.length dc]) rfl _ rfl (lvCat_row hdn.1)) rfl ?_
          rw [HT.out, ← HLL.out]
          exact hdn.2
        case false =>
          have HLL := Lib.hid (show acc ++ [g] = laid c.grants g from HL)
          have hq8 : acc.length ≤ 1000000 := by simp at hll; omega
          have zw1 : X.heap.size ≤ wr.heap.size := ax.size
          clear hgr ax hS HL hll
          go_wp2_with (at_builtin; go_must (refine app_gra rfl _ _ rfl X.heap.size (.slice D acc.length dc) acc.length (acc.flatMap graC) rfl (own_aft HG.out.own ((Aft.refl wr).alloc _)) wr.heap.size g rfl (heap_alloc_new wr _) hq8 (by simp; omega) ?_); intro gg cap' u8 hown8 hgrow hat; have G8 := HG.out.grow ((Aft.refl wr).alloc _) hown8 hgrow; have G9 := Lib.hid (KE.out u8 (some ⟨gg, 0, none⟩) (acc.length + 1) cap' (acc ++ [g]) HLL.out G8); rw [show (acc ++ [g]).length = acc.length + 1 from by simp] at G9; obtain ⟨⟨s6, sf, sz⟩, ⟨q0, q1, q2, q3, q4, q5, q6⟩, ⟨u0, uf0, u1, uf1, u2, uf2, u3, uf3, u4, uf4, u5, uf5, u6, uf6⟩, uz, qz, HE⟩ := G9.out; clear hown8 hgrow hat G8 G9 y0 y1 y2 y3 y4 y5 yz)
          (try simp only [Exit.inBlock, Exit.then])
          obtain ⟨Y, hY, UY, OY, AY⟩ := HE.out
          rw [← hY]
          have hdn := OY.done UY rfl AY (by omega) SX.out.2
          have e1 : (acc ++ [g]).length = acc.length + 1 := by simp
          simp only [CatL, e1] at hdn
          refine bodyPost_ret (results_cell_tmp (v := .agg #[.int .i64 c.epoch, .int .i64 c.version, .slice Bs c.objs.schemas.length bcs, .slice Bt c.objs.tables.length bct, .slice Bn c.rols.names.length bcn, .slice Bm c.rols.members.length bcm, .slice (some ⟨gg, 0, none⟩) (acc.length + 1) cap']) rfl _ rfl (lvCat_row hdn.1)) rfl ?_
          rw [HT.out, ← HLL.out]
          exact hdn.2
      obtain ⟨b, off, rfl, hb, t0, t1, t2, t3, t4, t5, sgk⟩ := gra_at (gras_aft ax Kc5.out.gra) hlt
      obtain ⟨x, hx⟩ : ∃ y, c.grants[k] = y := ⟨_, rfl⟩
      rw [hx] at t0 t1 t2 t3 t4 t5 sgk
      obtain ⟨ff, hff⟩ : ∃ b, fiveE x g = b := ⟨_, rfl⟩
      obtain ⟨ls, hls⟩ : ∃ b, decide (cmpG g x < 0) = b := ⟨_, rfl⟩
      obtain ⟨S, hS⟩ : ∃ S, layK c.grants g k = S := ⟨_, rfl⟩
      have HN := Lib.hid (show layK c.grants g (k + 1) = if ff then (S.1 ++ [layF g x], true) else if !S.2 && ls then (S.1 ++ [g] ++ [x], true) else (S.1 ++ [x], S.2) from by rw [layK_succ _ _ _ hlt, hx, hS]; unfold layS; rw [hff, hls])
      have CF := Lib.hid (show ∀ V, Calls Tryz.prog 95 #[.agg #[.string x.schema, .string x.table, .int .i64 x.right, .string x.giver, .string x.to, .bool x.opt], .agg #[.string g.schema, .string g.table, .int .i64 g.right, .string g.giver, .string g.to, .bool g.opt]] V fun e w'' => e = .returned (.bool ff) ∧ Aft V w'' from fun V => hff ▸ rfive x g V)
      have CL := Lib.hid (show ∀ V, Calls Tryz.prog 96 #[.agg #[.string g.schema, .string g.table, .int .i64 g.right, .string g.giver, .string g.to, .bool g.opt], .agg #[.string x.schema, .string x.table, .int .i64 x.right, .string x.giver, .string x.to, .bool x.opt]] V fun e w'' => e = .returned (.bool ls) ∧ Aft V w'' from fun V => hls ▸ rless g x V)
      have HLF := Lib.hid (show ff = true → layF g x = { x with opt := x.opt || g.opt } from fun h => by unfold layF; rw [hff.trans h]; rfl)
      rw [hS] at HG hll ⊢
      obtain ⟨acc, ld⟩ := S
      dsimp only at HG HN hll ⊢
      have hq8 : acc.length ≤ 1000000 := by split at hll <;> omega
      have hq9 : (acc ++ [g]).length ≤ 1000000 := by simp; split at hll <;> omega
      obtain ⟨V, hV⟩ : ∃ V, V = wr.alloc (.cells #[.string x.schema, .string x.table, .int .i64 x.right, .string x.giver, .string x.to, .bool x.opt] 76) := ⟨_, rfl⟩
      have aV : Aft wr V := by rw [hV]; exact (Aft.refl wr).alloc _
      have GX := Lib.hid (HG.out.aft aV)
      have RX := Lib.hid (show RowAt V wr.heap.size [.string x.schema, .string x.table, .int .i64 x.right, .string x.giver, .string x.to, .bool x.opt] by rw [hV]; exact box_row2 (Aft.refl _))
      obtain ⟨z0, z1, z2, z3, z4, z5, zz⟩ := rowF6 RX.out
      obtain ⟨v0, v1, v2, v3, v4, v5, vz⟩ := rowF6 (By5.out.aft (ax.trans aV))
      rw [hV] at z0 z1 z2 z3 z4 z5 zz v0 v1 v2 v3 v4 v5 vz
      have WZ := Lib.hid (show X.heap.size ≤ wr.heap.size from ax.size)
      clear hgr ax hff hls hS sgk aV hx
      go_wp2_with fail
      rw [← hV]
      clear hV z0 z1 z2 z3 z4 z5 zz v0 v1 v2 v3 v4 v5 vz x0 x1 x2 x3 x4 x5 x6 xz y0 y1 y2 y3 y4 y5 yz t0 t1 t2 t3 t4 t5 hb
      refine (CF.out V).mono ?_
      rintro e w7 ⟨rfl, a7⟩
      have G7 := Lib.hid (GX.out.aft a7)
      have RX7 := Lib.hid (RX.out.aft a7)
      obtain ⟨z0, z1, z2, z3, z4, z5, zz⟩ := rowF6 RX7.out
      have zf5 : w7.frozen? ⟨wr.heap.size, 5, none⟩ = false := RX7.out.2.2 5 (by simp)
      obtain ⟨v0, v1, v2, v3, v4, v5, vz⟩ := rowF6 (By5.out.aft G7.out.1)
      have ne1 : ¬ wr.heap.size = w.heap.size + 1 := by have := WZ.out; have := SX.out.1; have := SX.out.2; omega
      have ne2 : ¬ w.heap.size + 1 = wr.heap.size := by omega
      have NE2 := Lib.hid (And.intro ne1 ne2)
      clear a7 CF
      cases ff
      case true =>
        have HNN := Lib.hid (show layK c.grants g (k + 1) = (acc ++ [{ x with opt := x.opt || g.opt }], true) from by rw [HN.out, HLF.out (by simp)]; rfl)
        obtain ⟨ox, hox⟩ : ∃ b, x.opt = b := ⟨_, rfl⟩
        obtain ⟨og, hog⟩ : ∃ b, g.opt = b := ⟨_, rfl⟩
        obtain ⟨V8, hV8⟩ : ∃ V, V = w7.setCell ⟨wr.heap.size, 5, none⟩ (.bool (ox || og)) := ⟨_, rfl⟩
        have k8 : Kb (fun g => g = wr.heap.size) w7 V8 := by rw [hV8]; exact Kb.set _ _ _ _
        have a8 : Aft X V8 := k8.to_aft G7.out.1 (fun k hk e => by have e : k = _ := e; have := WZ.out; omega)
        have G8 := Lib.hid (show GrG X V8 hd acc from ⟨a8, own_kb G7.out.2 k8 (fun g' hg' e => by
          have e : g' = _ := e
          have h1 := (HG.out.2.lt g' hg').2
          omega)⟩)
        have R8 := Lib.hid (show RowAt V8 wr.heap.size [.string x.schema, .string x.table, .int .i64 x.right, .string x.giver, .string x.to, .bool (ox || og)] by rw [hV8]; exact RX7.out.set 5 _ (by simp))
        have zw8 : X.heap.size ≤ V8.heap.size := a8.size
        rw [hox] at z5
        rw [hog] at v5
        obtain ⟨p0, p1, p2, p3, p4, p5, pz⟩ := rowF6 R8.out
        rw [hV8] at p0 p1 p2 p3 p4 p5 pz
        rw [hox, hog] at HNN
        clear k8 a8 hox hog
        cases ox <;> cases og
        · simp only [Bool.or_true, Bool.or_false, Bool.true_or, Bool.false_or, Bool.or_self] at p0 p1 p2 p3 p4 p5 pz hV8 HNN
          have O8 := G8.out.own
          rw [hV8] at O8
          have HO8 := Lib.hid O8
          have zw9 : X.heap.size ≤ w7.heap.size := G7.out.1.size
          clear O8
          obtain ⟨ne1, ne2⟩ := NE2.out
          go_wp2_with (at_builtin; go_must (refine app_gra rfl _ _ rfl X.heap.size (.slice hd.a acc.length hd.c) acc.length (acc.flatMap graC) rfl (own_aft HO8.out ((Aft.refl _).alloc _)) _ { x with opt := false } rfl (heap_alloc_set _ _ _ _) hq8 (by simp; omega) ?_); intro gg cap' u8 hown8 hgrow hat; have HG8 := And.intro hown8 hgrow; rw [← hV8] at HG8; have HG9 := Lib.hid HG8; clear hown8 hgrow hat HG8)
          have G9 := Lib.hid (G8.out.grow ((Aft.refl V8).alloc _) HG9.out.1 HG9.out.2)
          go_wp2_with fail
          go_roundw
          case rel => exact ⟨k + 1, ⟨some ⟨gg, 0, none⟩, acc.length + 1, cap'⟩, by rw [HNN.out]; simp, by rw [HNN.out], by go_num, by omega, by rw [HNN.out]; exact G9.out⟩
          case measure => simp [intOf]; omega
        · simp only [Bool.or_true, Bool.or_false, Bool.true_or, Bool.false_or, Bool.or_self] at p0 p1 p2 p3 p4 p5 pz hV8 HNN
          have O8 := G8.out.own
          rw [hV8] at O8
          have HO8 := Lib.hid O8
          have zw9 : X.heap.size ≤ w7.heap.size := G7.out.1.size
          clear O8
          obtain ⟨ne1, ne2⟩ := NE2.out
          go_wp2_with (at_builtin; go_must (refine app_gra rfl _ _ rfl X.heap.size (.slice hd.a acc.length hd.c) acc.length (acc.flatMap graC) rfl (own_aft HO8.out ((Aft.refl _).alloc _)) _ { x with opt := true } rfl (heap_alloc_set _ _ _ _) hq8 (by simp; omega) ?_); intro gg cap' u8 hown8 hgrow hat; have HG8 := And.intro hown8 hgrow; rw [← hV8] at HG8; have HG9 := Lib.hid HG8; clear hown8 hgrow hat HG8)
          have G9 := Lib.hid (G8.out.grow ((Aft.refl V8).alloc _) HG9.out.1 HG9.out.2)
          go_wp2_with fail
          go_roundw
          case rel => exact ⟨k + 1, ⟨some ⟨gg, 0, none⟩, acc.length + 1, cap'⟩, by rw [HNN.out]; simp, by rw [HNN.out], by go_num, by omega, by rw [HNN.out]; exact G9.out⟩
          case measure => simp [intOf]; omega
        · simp only [Bool.or_true, Bool.or_false, Bool.true_or, Bool.false_or, Bool.or_self] at p0 p1 p2 p3 p4 p5 pz hV8 HNN
          have O8 := G8.out.own
          rw [hV8] at O8
          have HO8 := Lib.hid O8
          have zw9 : X.heap.size ≤ w7.heap.size := G7.out.1.size
          clear O8
          obtain ⟨ne1, ne2⟩ := NE2.out
          go_wp2_with (at_builtin; go_must (refine app_gra rfl _ _ rfl X.heap.size (.slice hd.a acc.length hd.c) acc.length (acc.flatMap graC) rfl (own_aft HO8.out ((Aft.refl _).alloc _)) _ { x with opt := true } rfl (heap_alloc_set _ _ _ _) hq8 (by simp; omega) ?_); intro gg cap' u8 hown8 hgrow hat; have HG8 := And.intro hown8 hgrow; rw [← hV8] at HG8; have HG9 := Lib.hid HG8; clear hown8 hgrow hat HG8)
          have G9 := Lib.hid (G8.out.grow ((Aft.refl V8).alloc _) HG9.out.1 HG9.out.2)
          go_wp2_with fail
          go_roundw
          case rel => exact ⟨k + 1, ⟨some ⟨gg, 0, none⟩, acc.length + 1, cap'⟩, by rw [HNN.out]; simp, by rw [HNN.out], by go_num, by omega, by rw [HNN.out]; exact G9.out⟩
          case measure => simp [intOf]; omega
        · simp only [Bool.or_true, Bool.or_false, Bool.true_or, Bool.false_or, Bool.or_self] at p0 p1 p2 p3 p4 p5 pz hV8 HNN
          have O8 := G8.out.own
          rw [hV8] at O8
          have HO8 := Lib.hid O8
          have zw9 : X.heap.size ≤ w7.heap.size := G7.out.1.size
          clear O8
          obtain ⟨ne1, ne2⟩ := NE2.out
          go_wp2_with (at_builtin; go_must (refine app_gra rfl _ _ rfl X.heap.size (.slice hd.a acc.length hd.c) acc.length (acc.flatMap graC) rfl (own_aft HO8.out ((Aft.refl _).alloc _)) _ { x with opt := true } rfl (heap_alloc_set _ _ _ _) hq8 (by simp; omega) ?_); intro gg cap' u8 hown8 hgrow hat; have HG8 := And.intro hown8 hgrow; rw [← hV8] at HG8; have HG9 := Lib.hid HG8; clear hown8 hgrow hat HG8)
          have G9 := Lib.hid (G8.out.grow ((Aft.refl V8).alloc _) HG9.out.1 HG9.out.2)
          go_wp2_with fail
          go_roundw
          case rel => exact ⟨k + 1, ⟨some ⟨gg, 0, none⟩, acc.length + 1, cap'⟩, by rw [HNN.out]; simp, by rw [HNN.out], by go_num, by omega, by rw [HNN.out]; exact G9.out⟩
          case measure => simp [intOf]; omega
      cases ld
      case true =>
        have HNN := Lib.hid (show layK c.grants g (k + 1) = (acc ++ [x], true) from by rw [HN.out]; rfl)
        have zw9 : X.heap.size ≤ w7.heap.size := G7.out.1.size
        go_wp2_with (at_builtin; go_must (refine app_gra rfl _ _ rfl X.heap.size (.slice hd.a acc.length hd.c) acc.length (acc.flatMap graC) rfl (own_aft G7.out.own ((Aft.refl w7).alloc _)) w7.heap.size x rfl (heap_alloc_new w7 _) hq8 (by simp; omega) ?_); intro gg cap' u8 hown8 hgrow hat; have HG8 := Lib.hid (And.intro hown8 hgrow); clear hown8 hgrow hat)
        have G9 := Lib.hid (G7.out.grow ((Aft.refl w7).alloc _) HG8.out.1 HG8.out.2)
        go_wp2_with fail
        go_roundw
        case rel => exact ⟨k + 1, ⟨some ⟨gg, 0, none⟩, acc.length + 1, cap'⟩, by rw [HNN.out]; simp, by rw [HNN.out], by go_num, by omega, by rw [HNN.out]; exact G9.out⟩
        case measure => simp [intOf]; omega
      case false =>
        go_wp2_with fail
        refine (CL.out w7).mono ?_
        rintro e w8 ⟨rfl, a8⟩
        have G8 := Lib.hid (G7.out.aft a8)
        have RX8 := Lib.hid (RX7.out.aft a8)
        clear z0 z1 z2 z3 z4 z5 zz zf5 v0 v1 v2 v3 v4 v5 vz a8 CL
        obtain ⟨z0, z1, z2, z3, z4, z5, zz⟩ := rowF6 RX8.out
        obtain ⟨v0, v1, v2, v3, v4, v5, vz⟩ := rowF6 (By5.out.aft G8.out.1)
        have zw9 : X.heap.size ≤ w8.heap.size := G8.out.1.size
        cases ls
        case false =>
          have HNN := Lib.hid (show layK c.grants g (k + 1) = (acc ++ [x], false) from by rw [HN.out]; rfl)
          go_wp2_with (at_builtin; go_must (refine app_gra rfl _ _ rfl X.heap.size (.slice hd.a acc.length hd.c) acc.length (acc.flatMap graC) rfl (own_aft G8.out.own ((Aft.refl w8).alloc _)) w8.heap.size x rfl (heap_alloc_new w8 _) hq8 (by simp; omega) ?_); intro gg cap' u8 hown8 hgrow hat; have HG8 := Lib.hid (And.intro hown8 hgrow); clear hown8 hgrow hat)
          have G9 := Lib.hid (G8.out.grow ((Aft.refl w8).alloc _) HG8.out.1 HG8.out.2)
          go_wp2_with fail
          go_roundw
          case rel => exact ⟨k + 1, ⟨some ⟨gg, 0, none⟩, acc.length + 1, cap'⟩, by rw [HNN.out]; simp, by rw [HNN.out], by go_num, by omega, by rw [HNN.out]; exact G9.out⟩
          case measure => simp [intOf]; omega
        case true =>
          have HNN := Lib.hid (show layK c.grants g (k + 1) = (acc ++ [g] ++ [x], true) from by rw [HN.out]; rfl)
          have NV := Lib.hid (show ¬ InV (.slice hd.a acc.length hd.c) wr.heap.size from fun h => by have := (HG.out.own.lt _ h).2; omega)
          go_wp2_with (first
            | (at_builtin; (refine app_gra rfl _ _ rfl X.heap.size (.slice hd.a acc.length hd.c) acc.length (acc.flatMap graC) rfl (own_aft G8.out.own ((Aft.refl w8).alloc _)) w8.heap.size g rfl (heap_alloc_new w8 _) hq8 ?qb ?_); rotate_left; intro gg cap' u8 hown8 hgrow hat; have G9 := Lib.hid (G8.out.grow ((Aft.refl w8).alloc _) hown8 hgrow); have R9 := Lib.hid ((kb_in hgrow).row (RX8.out.aft ((Aft.refl w8).alloc _)) NV.out); clear z0 z1 z2 z3 z4 z5 zz v0 v1 v2 v3 v4 v5 vz; have z0 : u8.cell? ⟨wr.heap.size, 0, none⟩ = some (.string x.schema) := R9.out.cell (j := 0) rfl; have z1 : u8.cell? ⟨wr.heap.size, 1, none⟩ = some (.string x.table) := R9.out.cell (j := 1) rfl; have z2 : u8.cell? ⟨wr.heap.size, 2, none⟩ = some (.int .i64 x.right) := R9.out.cell (j := 2) rfl; have z3 : u8.cell? ⟨wr.heap.size, 3, none⟩ = some (.string x.giver) := R9.out.cell (j := 3) rfl; have z4 : u8.cell? ⟨wr.heap.size, 4, none⟩ = some (.string x.to) := R9.out.cell (j := 4) rfl; have z5 : u8.cell? ⟨wr.heap.size, 5, none⟩ = some (.bool x.opt) := R9.out.cell (j := 5) rfl; have zz : wr.heap.size < u8.heap.size := R9.out.1; have zw8 : X.heap.size ≤ u8.heap.size := G9.out.1.size; clear hown8 hgrow hat)
            | (at_builtin; go_must (refine app_gra rfl _ _ rfl X.heap.size (.slice (some ⟨gg, 0, none⟩) (acc.length + 1) cap') (acc ++ [g]).length ((acc ++ [g]).flatMap graC) rfl (own_aft G9.out.2 ((Aft.refl u8).alloc _)) u8.heap.size x rfl (heap_alloc_new u8 _) hq9 ?qc ?_); rotate_left; intro gg2 cap2 u9 hown9 hgrow9 hat9; have HG10 := Lib.hid (And.intro hown9 hgrow9); clear hown9 hgrow9 hat9))
          case qb => simp; omega
          case qc => simp; omega
          have G10 := Lib.hid (G9.out.grow ((Aft.refl u8).alloc _) HG10.out.1 HG10.out.2)
          go_wp2_with fail
          go_roundw
          case rel => exact ⟨k + 1, ⟨some ⟨gg2, 0, none⟩, (acc ++ [g]).length + 1, cap2⟩, by rw [HNN.out]; simp, by rw [HNN.out], by go_num, by omega, by rw [HNN.out]; exact G10.out⟩
          case measure => simp [intOf]; omega
end Go.Proofs.YtlklmekapbojdaaGreat

