/- Contracts of the program, part 19. -/
import Derived.Lib.SliceRun
import Derived.Deep.AppendLies
import Derived.Deep.Upon
import Derived.OneCell
import Derived.OwnWalk
import Derived.Laws.AppendOwn
import Derived.ProofKit
import Derived.OpenShut
import Derived.Deep.Slices
import Derived.ChangeOld
import Derived.SizedLaws
import Derived.WalkKit
import Derived.WalkSpells
import Derived.WalkLawsBesides
import Derived.Lib.Hide
import Derived.Deep.QuietTactic
import Derived.BigQuiet
import Derived.Below
import Derived.Deep.Draws
import Derived.StillTailTactics
import Derived.Laws.Cells
import Derived.Laws.IdiomCopy
import Derived.Test.YtlklmekapbojdaaGreatRows
import Derived.Deep.DeepMust
import Derived.Lib.Walk
import Derived.Laws.EntriesVeiled
import Derived.Maps.Own
import Derived.Maps.Views
import Derived.OrdersHeld
import Derived.Deep.RegionHeld3
import Derived.IntWalk
import Derived.Lib.Bytealg
import Derived.Deep.RegionLaw
import Derived.Lib.AppendZerosOnto
import Derived.Lib.Overlaps
import Derived.Shelf.SlSortCmp.WholeK
import Derived.WalkMore
import Derived.Laws.StructEq
import Derived.WideKeyEntry
import Derived.DeepKeys3
import Derived.ChangeKeys
import Derived.Test.YtlklmekapbojdaaGreatPartL1
import Derived.Test.YtlklmekapbojdaaGreatPartL2
import Derived.Test.YtlklmekapbojdaaGreatPartL3
import Derived.Test.YtlklmekapbojdaaGreatPartL4
import Derived.Test.YtlklmekapbojdaaGreatPartL5
import Derived.Test.YtlklmekapbojdaaGreatPartL6
import Derived.Test.YtlklmekapbojdaaGreatPartL7
import Derived.Test.YtlklmekapbojdaaGreatPartL8
import Derived.Test.YtlklmekapbojdaaGreatPartL9
import Derived.Test.YtlklmekapbojdaaGreatPartL10
import Derived.Test.YtlklmekapbojdaaGreatPartL12
import Derived.Test.YtlklmekapbojdaaGreatPartL13
import Derived.Test.YtlklmekapbojdaaGreatPartL14
import Derived.Test.YtlklmekapbojdaaGreatPartL15
import Derived.Test.YtlklmekapbojdaaGreatPartL16
namespace Go.Proofs.YtlklmekapbojdaaGreat
open Go.RowKit Go.Deep
set_option linter.unusedVariables false
theorem setL_len : ∀ (vs xs : List Value) (o : Nat), (setL xs o vs).length = xs.length
  | [], xs, o => rfl
  | v :: r, xs, o => by rw [setL, setL_len r]; simp
theorem zeroCells_one (z : Array Value) : (Builtin.zeroCells z 1).toList = z.toList := by
  simp only [Builtin.zeroCells, Nat.one_mul]
  apply List.ext_getElem
  · simp
  · intro i h1 h2
    have hi : i < z.size := by simpa using h2
    simp [Nat.mod_eq_of_lt hi, getElem!_pos z i hi]
/-- clear of one element -/
theorem run_clear_one {P : Program} (w : World) (t e ty : TypeId) (z : Value) (ht : P.underlying t = some (.slice e)) (hv : ∀ w, (zeroValue e).run P w = .ok z w) (h1 : ∀ u ∈ z.cells.toList, u.oneCell' = true) (b o c : Nat)
    (hc : ∀ j, j < z.cells.toList.length → (w.cell? ⟨b, o + j, none⟩).isSome = true) (hf : ∀ j, j < z.cells.toList.length → w.frozen? ⟨b, o + j, none⟩ = false) :
    (Builtin.clear_ #[t] ty #[.slice (some ⟨b, o, none⟩) 1 c]).run P w = .ok (.tuple #[]) (w.setCells b o z.cells.toList) := by
  have hst := run_storeCells_cells (P := P) b o z.cells.toList 0 w (by simpa using hc) (by simpa using hf) h1
  simp only [Nat.add_zero] at hst
  simp only [Builtin.clear_, List.getElem?_toArray, List.getElem?_cons_zero, Sem.run_bind, run_underlying ht, Result.andThen_ok, hv, zeroCells_one, hst, Sem.run_pure]
theorem flatMap_erase {α : Type} {f : α → List Value} {size : Nat} (hf : ∀ x, (f x).length = size) (l : List α) (i : Nat) : (l.flatMap f).take (i * size) ++ (l.flatMap f).drop ((i + 1) * size) = (l.eraseIdx i).flatMap f := by
  rw [flatMap_take hf, flatMap_drop hf, List.eraseIdx_eq_take_drop_succ, List.flatMap_append]
/-- what Delete of one element leaves -/
def DelP (ty : TypeId) (size : Nat) (w : World) (B g cap i m : Nat) (xs : List Value) (e : Ending) (w' : World) : Prop :=
  e = .returned (.slice (some ⟨g, 0, none⟩) (i + m) cap) ∧ w'.ownsRow B ty size (.slice (some ⟨g, 0, none⟩) (i + m) cap) (i + m) (xs.take (i * size) ++ xs.drop ((i + 1) * size)) ∧ Kb (fun k => k = g) w w'
/-- the row behind Delete's two writes -/
theorem del_own {w : World} {B size g cap i m : Nat} {e : TypeId} {xs z : List Value} (ho : w.ownsRow B e size (.slice (some ⟨g, 0, none⟩) (i + 1 + m) cap) (i + 1 + m) xs) (hz : z.length = size) :
    ((w.setCells g (i * size) (xs.drop ((i + 1) * size))).setCells g ((i + m) * size) z).ownsRow B e size (.slice (some ⟨g, 0, none⟩) (i + m) cap) (i + m) (xs.take (i * size) ++ xs.drop ((i + 1) * size)) := by
  have hx := ho.1
  have e0 : (i + 1 + m) * size = i * size + size + m * size := by rw [Nat.add_mul, Nat.succ_mul]
  have e1 : (i + 1) * size = i * size + size := Nat.succ_mul _ _
  have e2 : (i + m) * size = i * size + m * size := Nat.add_mul _ _ _
  have h1 := own_setCells (g := g) rfl z ((i + m) * size) (own_setCells (g := g) rfl (xs.drop ((i + 1) * size)) (i * size) ho)
  have h2 := own_cut h1 (m := i + m) (by omega)
  have hd : (xs.drop ((i + 1) * size)).length = m * size := by rw [List.length_drop, hx]; omega
  have e3 : (setL (setL xs (i * size) (xs.drop ((i + 1) * size))) ((i + m) * size) z).take ((i + m) * size) = xs.take (i * size) ++ xs.drop ((i + 1) * size) := by
    rw [setL_eq z _ _ (by rw [setL_len, hx, hz]; omega), List.append_assoc, List.take_append_of_le_length (by rw [List.length_take, setL_len, hx]; omega), List.take_take, Nat.min_self, setL_eq _ _ _ (by rw [hd, hx]; omega)]
    rw [List.take_append_of_le_length (by rw [List.length_append, hd, List.length_take, hx]; omega)]
    rw [List.take_of_length_le (by rw [List.length_append, hd, List.length_take, hx]; omega)]
  rw [e3] at h2
  exact h2
end Go.Proofs.YtlklmekapbojdaaGreat

namespace Go.Proofs.YtlklmekapbojdaaGreat
open Go.RowKit
set_option linter.unusedVariables false
def lessG (l : List Gra) (g : Gra) : List Gra := l.filter fun y => !fiveE y g
noncomputable def takeR (c : Cat) (g : Gra) : Cat × Int :=
  if !wholeB c then (noC, 1)
  else if !inG c.grants g then (noC, 80)
  else ({ c with grants := holdL { c with grants := lessG c.grants g } }, 0)
theorem take_is {c : Cat} {g : Gra} (h : wholeB c = true) (hi : inG c.grants g = true) : takeR c g = ({ c with grants := holdL { c with grants := lessG c.grants g } }, 0) := by
  unfold takeR
  rw [h, hi]; rfl
end Go.Proofs.YtlklmekapbojdaaGreat

namespace Go.Proofs.YtlklmekapbojdaaGreat
open Go.RowKit Go.Deep
set_option maxRecDepth 100000
set_option linter.unusedVariables false
/-- the example, with a grant that nobody may give -/
def oneC2 : Cat := { oneC with grants := [oneG bA bB] }
theorem oneC2_stands : standsB oneC2 = true :=
  stands_iff.2 ⟨by decide, ⟨by decide +kernel, oneC_right, by decide +kernel, by decide +kernel⟩, fun g hg => by
    have : g = oneG bA bB := by simpa [oneC2] using hg
    rw [this]; decide +kernel, rfl⟩
theorem oneC2_just : justB oneC2 [] (oneG bA bB) = false := by
  unfold justB
  rw [show allL oneC2.rols (oneG bA bB).giver = [bA, bB, bO, bRoot].filter (eqS bA) from oneC_all bA (by decide +kernel)]
  decide +kernel
theorem oneC2_hold : holdL oneC2 = [] := by
  have hc : ∀ g ∈ oneC2.grants, inG [] g = false → justB oneC2 [] g = false := fun g hg _ => by
    have : g = oneG bA bB := by simpa [oneC2] using hg
    rw [this]; exact oneC2_just
  unfold holdL
  rw [if_pos oneC2_stands]
  refine List.filter_eq_nil_iff.2 fun g hg => ?_
  rw [heldB_iff, ← (HeldL.nil oneC2).all (stands_iff.1 oneC2_stands).2.2.2 hc g hg]
  simp [inG]
end Go.Proofs.YtlklmekapbojdaaGreat

namespace Go.Proofs.YtlklmekapbojdaaGreat
set_option maxRecDepth 100000
set_option linter.unusedVariables false
theorem filter_erase {α : Type} (p : α → Bool) : ∀ (l : List α) (q : Nat), q < l.length → (∀ t (h : t < l.length), p l[t] = decide (t ≠ q)) → l.filter p = l.eraseIdx q
  | [], q, h, _ => by simp at h
  | x :: l, 0, _, hp => by
    have h0 := hp 0 (by simp)
    simp only [List.getElem_cons_zero, ne_eq, not_true_eq_false, decide_false] at h0
    rw [List.filter_cons_of_neg (by simp [h0]), List.eraseIdx_cons_zero]
    exact List.filter_eq_self.2 fun y hy => by
      obtain ⟨t, ht, rfl⟩ := List.getElem_of_mem hy
      have := hp (t + 1) (by simpa using ht)
      simpa using this
  | x :: l, q + 1, h, hp => by
    have h0 := hp 0 (by simp)
    rw [List.filter_cons_of_pos (by simpa using h0), List.eraseIdx_cons_succ, filter_erase p l q (by simpa using h) fun t ht => by
      have := hp (t + 1) (by simpa using ht)
      simpa using this]
theorem lessG_erase {l : List Gra} {g : Gra} (hr : risesB cmpG l = true) (h : thereB cmpG l g = true) : lessG l g = l.eraseIdx (posB cmpG l g) := by
  refine filter_erase _ l _ (there_lt h) fun t ht => ?_
  have e := pos_only (g := g) hr t ht
  rw [h] at e
  by_cases hq : t = posB cmpG l g
  · rw [e.2 ⟨hq, rfl⟩]; simp [hq]
  · have : fiveE l[t] g = false := Bool.eq_false_iff.2 fun x => hq (e.1 x).1
    rw [this]; simp [hq]
end Go.Proofs.YtlklmekapbojdaaGreat

namespace Go.Proofs.YtlklmekapbojdaaGreat
open Go.RowKit Go.Deep
set_option maxRecDepth 100000
set_option linter.unusedVariables false
theorem exC2_whole : wholeB exC2 = true := by
  have h := (give_ok (c := exC1) (g := oneG bA bB) (by rw [ex_give2])).wholeX
  rw [ex_give2] at h
  exact h
theorem ex_take1 : takeR exC2 (oneG bO bA) = (oneC, 0) := by
  rw [take_is exC2_whole (by decide +kernel)]
  have h : lessG exC2.grants (oneG bO bA) = [oneG bA bB] := by
    unfold lessG exC2
    rw [List.filter_cons_of_pos (by decide +kernel), List.filter_cons_of_neg (by decide +kernel)]
    rfl
  rw [h]
  show (({ exC2 with grants := holdL oneC2 } : Cat), (0 : Int)) = (oneC, 0)
  rw [oneC2_hold]
  rfl
theorem ex_take2 : takeR oneC (oneG bO bA) = (noC, 80) := by
  unfold takeR
  rw [oneC_whole, show inG oneC.grants (oneG bO bA) = false from rfl]
  rfl
end Go.Proofs.YtlklmekapbojdaaGreat

namespace Go.Proofs.YtlklmekapbojdaaGreat
open Go.RowKit Go.Deep
set_option maxRecDepth 100000
set_option linter.unusedVariables false
theorem infoDGra : (Tryz.prog.info? 76).map (fun i => (i.zero, i.size, i.bytes)) = some (some (.agg #[.string ByteArray.empty, .string ByteArray.empty, .int .i64 0, .string ByteArray.empty, .string ByteArray.empty, .bool false]), 6, 80) := by kernel_rfl
set_option maxHeartbeats 8000000 in
theorem delGra (g cap i m B : Nat) (xs : List Value) (w : World) (ho : w.ownsRow B 76 6 (.slice (some ⟨g, 0, none⟩) (i + 1 + m) cap) (i + 1 + m) xs) (h1 : ∀ u ∈ xs, u.oneCell' = true) (hb : cap ≤ 9223372036854775807) :
    Calls Tryz.prog 99 #[.slice (some ⟨g, 0, none⟩) (i + 1 + m) cap, .int .i64 i, .int .i64 ((i : Int) + 1)] w (DelP 76 6 w B g cap i m xs) := by
  obtain ⟨i0, hi0, hz0, hz1, hz2⟩ := info_parts infoDGra
  obtain ⟨g', cap', hv', hgb, hnc, hr⟩ := own_rowAt ho (by omega)
  simp only [Value.slice.injEq, true_and, Option.some.injEq, Addr.mk.injEq, and_true] at hv'
  obtain ⟨rfl, rfl⟩ := hv'
  have hx := ho.1
  have hzr : ∀ w : World, (zeroValue 76).run Tryz.prog w = .ok (.agg #[.string ByteArray.empty, .string ByteArray.empty, .int .i64 0, .string ByteArray.empty, .string ByteArray.empty, .bool false]) w := fun w => by kernel_rfl
  obtain ⟨news, hnews⟩ : ∃ news, news = xs.drop ((i + 1) * 6) := ⟨_, rfl⟩
  have hlen : news.length = m * 6 := by rw [hnews, List.length_drop, hx]; omega
  have hsrc : ∃ A : Addr, (if cap = i + 1 then some (⟨g, 0, none⟩ : Addr) else some ⟨g, (i + 1) * 6, none⟩) = some A ∧ Hid (∀ t u, news[t]? = some u → w.drew.cell? (A.add t) = some u) := by
    by_cases h : cap = i + 1
    · refine ⟨⟨g, 0, none⟩, by simp [h], Lib.hid fun t u hu => ?_⟩
      have h0 : news.length = 0 := by rw [hlen]; omega
      rw [List.length_eq_zero_iff.1 h0] at hu
      simp at hu
    · refine ⟨⟨g, (i + 1) * 6, none⟩, by simp [h], Lib.hid fun t u hu => ?_⟩
      rw [hnews, List.getElem?_drop] at hu
      rw [Addr.add_lit]
      exact hr.cell hu
  obtain ⟨A, hA, hsrc⟩ := hsrc
  have s1 := Lib.hid hlen
  have s2 := Lib.hid (show ∀ u ∈ news, u.oneCell' = true from fun u hu => h1 u (by rw [hnews] at hu; exact List.mem_of_mem_drop hu))
  have s3 := Lib.hid (show ∀ t, t < news.length → (w.drew.cell? ⟨g, 0 + i * 6 + t, none⟩).isSome = true ∧ w.drew.frozen? ⟨g, 0 + i * 6 + t, none⟩ = false from fun t ht => by
    rw [hlen] at ht
    have hl : 0 + i * 6 + t < xs.length := by rw [hx]; omega
    exact ⟨by show (w.cell? _).isSome = true; rw [hr.2.1 _ hl, List.getElem?_eq_getElem hl]; rfl, hr.2.2 _ hl⟩)
  obtain ⟨W1, hW1⟩ : ∃ W1, W1 = w.drew.setCells g (0 + i * 6) news := ⟨_, rfl⟩
  have ho1 : W1.ownsRow B 76 6 (.slice (some ⟨g, 0, none⟩) (i + 1 + m) cap) (i + 1 + m) (setL xs (0 + i * 6) news) := by rw [hW1]; exact own_setCells (g := g) rfl news _ (own_aft ho (Aft.refl w).drew)
  obtain ⟨_, _, hv1, _, _, hr1⟩ := own_rowAt ho1 (by omega)
  simp only [Value.slice.injEq, true_and, Option.some.injEq, Addr.mk.injEq, and_true] at hv1
  obtain ⟨rfl, rfl⟩ := hv1
  have hcl : ∀ ty, (Builtin.clear_ #[64] ty #[.slice (some ⟨g, (i + m) * 6, none⟩) 1 (cap - (i + m))]).run Tryz.prog W1 = .ok (.tuple #[]) (W1.setCells g ((i + m) * 6) [.string ByteArray.empty, .string ByteArray.empty, .int .i64 0, .string ByteArray.empty, .string ByteArray.empty, .bool false]) := fun ty => by
    refine run_clear_one W1 _ _ ty _ Tryz.underlying64 hzr (by intro u hu; have hu : u ∈ ([.string ByteArray.empty, .string ByteArray.empty, .int .i64 0, .string ByteArray.empty, .string ByteArray.empty, .bool false] : List Value) := hu; simp only [List.mem_cons, List.not_mem_nil, or_false] at hu; rcases hu with rfl | rfl | rfl | rfl | rfl | rfl <;> rfl) g ((i + m) * 6) (cap - (i + m)) (fun j hj => ?_) (fun j hj => ?_)
    · have hj' : j < 6 := hj
      have hl : (i + m) * 6 + j < (setL xs (0 + i * 6) news).length := by rw [setL_len, hx]; omega
      rw [hr1.2.1 _ hl, List.getElem?_eq_getElem hl]; rfl
    · have hj' : j < 6 := hj
      exact hr1.2.2 _ (by rw [setL_len, hx]; omega)
  have HF := Lib.hid (show DelP 76 6 w B g cap i m xs (.returned (.slice (some ⟨g, 0, none⟩) (i + m) cap)) (W1.setCells g ((i + m) * 6) [.string ByteArray.empty, .string ByteArray.empty, .int .i64 0, .string ByteArray.empty, .string ByteArray.empty, .bool false]) from by
    refine ⟨rfl, ?_, ?_⟩
    · rw [hW1, hnews, Nat.zero_add]
      exact del_own (own_aft ho (Aft.refl w).drew) rfl
    · rw [hW1]
      exact (Kb.of_aft (Aft.refl w).drew).trans ((kb_setCells g news _ _).trans (kb_setCells g _ _ _)))
  have hW := Lib.hid hW1
  (try simp only [Nat.mul_one] at hA)
  have hic : i ≤ cap := by omega
  have hjc : i + 1 ≤ cap := by omega
  have hne : ((i : Int) == (i : Int) + 1) = false := by simp; omega
  clear hW1 ho1 hr1 hr ho hnews hlen h1 hx
  go_enter Tryz.func99, Tryz.ntmps99
  have k0 : (0 : Int) ≤ (i : Int) + 1 := by omega
  have k1 : (i : Int) + 1 ≤ (i : Int) + 1 + (m : Int) := by omega
  go_wp2_with fail
  go_region_law (refine step_append_room rfl (.tmp 22) (.tmp 25) 64 rfl 76 i0 6 Tryz.underlying64 hi0 hz1 g 0 i cap (by simp [Act.eval, Act.put]) A m (cap - (i + 1)) news (by simp [Act.eval, Act.put]) s1.out hsrc.out s2.out (by omega) s3.out ?_; rw [← hW.out])
  have hcl2 : ∀ ty, (Builtin.clear_ #[64] ty #[.slice (some ⟨g, (i + m) * 6, none⟩) (i + 1 + m - (i + m)) (cap - (i + m))]).run Tryz.prog W1 = .ok (.tuple #[]) (W1.setCells g ((i + m) * 6) [.string ByteArray.empty, .string ByteArray.empty, .int .i64 0, .string ByteArray.empty, .string ByteArray.empty, .bool false]) := fun ty => by
    have e1 : i + 1 + m - (i + m) = 1 := by omega
    rw [e1]; exact hcl ty
  (try simp only [Nat.mul_one] at hcl2)
  have hcm : ¬ cap = i + m := by omega
  have k3 : (i : Int) + (m : Int) ≤ (i : Int) + 1 + (m : Int) := by omega
  have k4 : (0 : Int) ≤ (i : Int) + (m : Int) := by omega
  have k5 : (i : Int) + 1 + (m : Int) ≤ (cap : Int) := by omega
  go_wp2_with fail
  go_ret
  first | exact HF.out | (have h9 := HF.out; simp only [Nat.mul_one] at h9; exact h9)
end Go.Proofs.YtlklmekapbojdaaGreat

namespace Go.Proofs.YtlklmekapbojdaaGreat
open Go.RowKit Go.Deep
set_option maxRecDepth 100000
set_option linter.unusedVariables false
theorem sm_erase {c : Cat} (h : SmC c) (p : Nat) : SmC { c with grants := c.grants.eraseIdx p } :=
  ⟨h.1, h.2.1, by have := h.2.2.1; have := List.length_eraseIdx_le c.grants p; unfold Small at *; show (c.grants.eraseIdx p).length * 16 ≤ _; omega, fun g hg => h.2.2.2 g (List.mem_of_mem_eraseIdx hg)⟩
set_option maxHeartbeats 16000000 in
theorem takeG (c : Cat) (As : Option Addr) (caps : Nat) (At : Option Addr) (capt : Nat) (An : Option Addr) (capn : Nat) (Am : Option Addr) (capm : Nat) (Ag : Option Addr) (capg : Nat) (g : Gra) (w : World) (H : CatAt w c As caps At capt An capn Am capm Ag capg) :
    Calls Tryz.prog 39 #[.agg #[.int .i64 c.epoch, .int .i64 c.version, .slice As c.objs.schemas.length caps, .slice At c.objs.tables.length capt, .slice An c.rols.names.length capn, .slice Am c.rols.members.length capm, .slice Ag c.grants.length capg], .agg #[.string g.schema, .string g.table, .int .i64 g.right, .string g.giver, .string g.to, .bool g.opt]] w (ChgC w (takeR c g)) := by
  have l1 : w.heap.size < w.heap.size + 1 := by omega
  have l2 : w.heap.size < w.heap.size + 1 + 1 := by omega
  have l3 : w.heap.size < w.heap.size + 1 + 1 + 1 := by omega
  have l4 : w.heap.size + 1 < w.heap.size + 1 + 1 + 1 := by omega
  obtain ⟨W, hW⟩ : ∃ W, W = ((w.alloc (.cells #[.int .i64 c.epoch, .int .i64 c.version, .slice As c.objs.schemas.length caps, .slice At c.objs.tables.length capt, .slice An c.rols.names.length capn, .slice Am c.rols.members.length capm, .slice Ag c.grants.length capg] 66)).alloc (.cells #[.string g.schema, .string g.table, .int .i64 g.right, .string g.giver, .string g.to, .bool g.opt] 76)).alloc (.cells #[.int .i64 0, .int .i64 0, .slice none 0 0, .slice none 0 0, .slice none 0 0, .slice none 0 0, .slice none 0 0] 66) := ⟨_, rfl⟩
  have aW : Aft w W := by rw [hW]; exact (((Aft.refl w).alloc _).alloc _).alloc _
  have r0 : RowAt W (w.heap.size) [.int .i64 c.epoch, .int .i64 c.version, .slice As c.objs.schemas.length caps, .slice At c.objs.tables.length capt, .slice An c.rols.names.length capn, .slice Am c.rols.members.length capm, .slice Ag c.grants.length capg] := by rw [hW]; exact RowAt.up (RowAt.up (box_at (Aft.refl _) (by simp)))
  have r1 : RowAt W (w.heap.size + 1) [.string g.schema, .string g.table, .int .i64 g.right, .string g.giver, .string g.to, .bool g.opt] := by rw [hW]; exact RowAt.up (box_at (Aft.refl _) (by simp))
  have r2 : RowAt W (w.heap.size + 1 + 1) [.int .i64 0, .int .i64 0, .slice none 0 0, .slice none 0 0, .slice none 0 0, .slice none 0 0, .slice none 0 0] := by rw [hW]; exact box_at (Aft.refl _) (by simp)
  have zW : W.heap.size = w.heap.size + 3 := by rw [hW]; simp
  have HR := Lib.hid (And.intro r0 (And.intro r1 r2))
  have HAW := Lib.hid aW
  have HZW := Lib.hid zW
  have HH := Lib.hid (H.aft aW)
  have HSM := Lib.hid H.sm
  obtain ⟨p, hp⟩ : ∃ p, wholeB c = p := ⟨_, rfl⟩
  have HPW := Lib.hid hp
  have C1 := Lib.hid (hp ▸ wholeG c As caps At capt An capn Am capm Ag capg W (H.aft aW))
  obtain ⟨x0, x1, x2, x3, x4, x5, x6, xz⟩ := rowF7 r0
  clear H r0 r1 r2 aW hp
  go_enter Tryz.func39, Tryz.ntmps39
  go_wp2_with fail
  rw [← hW]
  clear hW
  go_wp2_with fail
  refine C1.out.mono ?_
  rintro e w1 ⟨rfl, a1⟩
  have HA1 := Lib.hid a1
  have p0 := HR.out.1.aft a1
  have p1 := HR.out.2.1.aft a1
  have p2 := HR.out.2.2.aft a1
  clear a1 C1 x0 x1 x2 x3 x4 x5 x6 xz
  obtain ⟨x0, x1, x2, x3, x4, x5, x6, xz⟩ := rowF7 p0
  obtain ⟨y0, y1, y2, y3, y4, y5, yz⟩ := rowF6 p1
  obtain ⟨u0, u1, u2, u3, u4, u5, u6, uz⟩ := rowF7 p2
  have v0 := p2.2.2 0 (by simp)
  have v1 := p2.2.2 1 (by simp)
  have v2 := p2.2.2 2 (by simp)
  have v3 := p2.2.2 3 (by simp)
  have v4 := p2.2.2 4 (by simp)
  have v5 := p2.2.2 5 (by simp)
  have v6 := p2.2.2 6 (by simp)
  clear p0 p1 p2
  cases p
  · have HT := Lib.hid (show takeR c g = (noC, 1) from by unfold takeR; rw [HPW.out]; rfl)
    go_wp2_with fail
    refine bodyPost_ret (results_cell_tmp (v := .agg #[.int .i64 0, .int .i64 0, .slice none 0 0, .slice none 0 0, .slice none 0 0, .slice none 0 0, .slice none 0 0]) rfl _ rfl (lvCat_row (setC_row (HR.out.2.2.aft HA1.out) rfl _ _ _ _ _ _ _))) rfl ?_
    rw [HT.out]
    exact chgC_no ((setC_kb _ _ _ _ _ _ _ _ _).to_aft (HAW.out.trans HA1.out) (fun g hg e => by omega))
  obtain ⟨hg64, ⟨hck, hrr, _, _⟩, _, hri⟩ := stands_iff.1 (whole_iff.1 HPW.out).1
  have hrp := rightR_parts.1 hrr
  obtain ⟨q, hq⟩ : ∃ q, thereB cmpG c.grants g = q := ⟨_, rfl⟩
  obtain ⟨ps, hps⟩ : ∃ ps, posB cmpG c.grants g = ps := ⟨_, rfl⟩
  have C2 := Lib.hid (hps ▸ hq ▸ bsG Ag capg c.grants g w1 (HH.out.aft HA1.out).gra hri)
  have C3 := Lib.hid (fun V (a : Aft w1 V) => ownG c As caps At capt An capn Am capm Ag capg V (HH.out.aft (HA1.out.trans a)) hck (by omega) (by omega) (by omega))
  have HQ := Lib.hid (show q = false → takeR c g = (noC, 80) from fun h => by unfold takeR; rw [HPW.out, ← there_inG hri, hq, h]; rfl)
  have HQ2 := Lib.hid (show q = true → takeR c g = ({ c with grants := holdL { c with grants := c.grants.eraseIdx ps } }, 0) ∧ ps < c.grants.length from fun h => by
    rw [take_is HPW.out (by rw [← there_inG hri, hq, h]), lessG_erase hri (by rw [hq, h]), hps]
    exact ⟨rfl, by rw [← hps]; exact there_lt (hq.trans h)⟩)
  clear hck hrr hri hrp hq hps
  go_wp2_with fail
  refine C2.out.mono ?_
  rintro e w2 ⟨rfl, a2⟩
  have HA2 := Lib.hid (HA1.out.trans a2)
  have p0 := HR.out.1.aft HA2.out
  have p2 := HR.out.2.2.aft HA2.out
  clear C2 x0 x1 x2 x3 x4 x5 x6 xz y0 y1 y2 y3 y4 y5 yz u0 u1 u2 u3 u4 u5 u6 uz v0 v1 v2 v3 v4 v5 v6
  obtain ⟨x0, x1, x2, x3, x4, x5, x6, xz⟩ := rowF7 p0
  obtain ⟨u0, u1, u2, u3, u4, u5, u6, uz⟩ := rowF7 p2
  have v0 := p2.2.2 0 (by simp)
  have v1 := p2.2.2 1 (by simp)
  have v2 := p2.2.2 2 (by simp)
  have v3 := p2.2.2 3 (by simp)
  have v4 := p2.2.2 4 (by simp)
  have v5 := p2.2.2 5 (by simp)
  have v6 := p2.2.2 6 (by simp)
  clear p0 p2
  have C3' := Lib.hid (C3.out w2 a2)
  clear a2 C3
  cases q
  · go_wp2_with fail
    refine bodyPost_ret (results_cell_tmp (v := .agg #[.int .i64 0, .int .i64 0, .slice none 0 0, .slice none 0 0, .slice none 0 0, .slice none 0 0, .slice none 0 0]) rfl _ rfl (lvCat_row (setC_row (HR.out.2.2.aft HA2.out) rfl _ _ _ _ _ _ _))) rfl ?_
    rw [HQ.out (by first | trivial | rfl)]
    exact chgC_no ((setC_kb _ _ _ _ _ _ _ _ _).to_aft (HAW.out.trans HA2.out) (fun g hg e => by omega))
  clear HQ
  obtain ⟨HT, hpl⟩ := HQ2.out (by first | trivial | rfl)
  have HTK := Lib.hid HT
  clear HT HQ2
  go_wp2_with fail
  refine C3'.out.mono ?_
  rintro e w3 ⟨hs, ht, hn, hm, hg, L, rfl, a3, ci⟩
  obtain ⟨Bs, nBs, bcs⟩ := hs
  obtain ⟨Bt, nBt, bct⟩ := ht
  obtain ⟨Bn, nBn, bcn⟩ := hn
  obtain ⟨Bm, nBm, bcm⟩ := hm
  obtain ⟨gg, cap, hv, hgB, hnc, hrow⟩ := own_rowAt ci.gra (by omega)
  obtain ⟨m, hm2⟩ : ∃ m, c.grants.length = ps + 1 + m := ⟨c.grants.length - ps - 1, by omega⟩
  obtain ⟨Bg, nBg, bcg⟩ := hg
  simp only [Hd.v, Value.slice.injEq] at hv
  obtain ⟨rfl, rfl, rfl⟩ := hv
  simp only [CatV]
  rw [hm2]
  obtain ⟨X, hX⟩ : ∃ V, V = w3.alloc (.cells #[.int .i64 c.epoch, .int .i64 c.version, .slice Bs c.objs.schemas.length bcs, .slice Bt c.objs.tables.length bct, .slice Bn c.rols.names.length bcn, .slice Bm c.rols.members.length bcm, .slice (some ⟨gg, 0, none⟩) (ps + 1 + m) bcg] 66) := ⟨_, rfl⟩
  have aX : Aft w3 X := by rw [hX]; exact (Aft.refl _).alloc _
  have RB := Lib.hid (show RowAt X w3.heap.size [.int .i64 c.epoch, .int .i64 c.version, .slice Bs c.objs.schemas.length bcs, .slice Bt c.objs.tables.length bct, .slice Bn c.rols.names.length bcn, .slice Bm c.rols.members.length bcm, .slice (some ⟨gg, 0, none⟩) (ps + 1 + m) bcg] by rw [hX]; exact box_row2 (Aft.refl _))
  have CI := Lib.hid (ci.aft aX)
  have CIL := Lib.hid (fun g' (h : CatBlk ⟨Bs, nBs, bcs⟩ ⟨Bt, nBt, bct⟩ ⟨Bn, nBn, bcn⟩ ⟨Bm, nBm, bcm⟩ L g' ∨ g' ∈ (Hd.mk (some ⟨gg, 0, none⟩) c.grants.length bcg).blk) => ci.lt h)
  have HA3 := Lib.hid (HA2.out.trans (a3.trans aX))
  have S23 := Lib.hid a3.size
  have o2 : X.ownsRow w2.heap.size 76 6 (.slice (some ⟨gg, 0, none⟩) (ps + 1 + m) bcg) (ps + 1 + m) (c.grants.flatMap graC) := by
    have := CI.out.gra
    rw [hm2] at this
    simp only [Hd.v] at this
    exact this
  have hcapm : bcg ≤ 9223372036854775807 := own_cap o2 _ _ _ rfl
  have CD := Lib.hid (delGra gg bcg ps m w2.heap.size (c.grants.flatMap graC) X o2 (oneC_cells oneC_gra _) hcapm)
  have w9 : IntKind.i64.wrap ((ps : Int) + 1) = (ps : Int) + 1 := IntWalk.i64_in _ (by omega)
  have hpz : (ps : Int) + 1 ≤ 9223372036854775807 := by omega
  have HM2 := Lib.hid hm2
  have z6 := RB.out.cell (j := 6) rfl
  have zz := RB.out.1
  rw [hX] at z6 zz
  clear C3' a3 ci aX o2 hrow hnc
  go_wp2_with fail
  rw [← hX]
  refine CD.out.mono ?_
  rintro e w4 ⟨rfl, o4, kb4⟩
  have e1 : (c.grants.eraseIdx ps).length = ps + m := by rw [List.length_eraseIdx_of_lt hpl]; have := HM2.out; omega
  obtain ⟨l', hl'⟩ : ∃ l', c.grants.eraseIdx ps = l' := ⟨_, rfl⟩
  have o5 : w4.ownsRow w2.heap.size 76 6 (Hd.mk (some ⟨gg, 0, none⟩) (ps + m) bcg).v l'.length (l'.flatMap graC) := by
    rw [← hl', e1, ← flatMap_erase (f := graC) (size := 6) (fun _ => rfl)]; exact o4
  have hgm : gg ∈ (Hd.mk (some ⟨gg, 0, none⟩) c.grants.length bcg).blk := Hd.mem_blk.2 rfl
  have hggl := CIL.out gg (.inr hgm)
  have row4 := kb4.row RB.out (by omega)
  have CI4 := CI.out.newG (hg' := ⟨some ⟨gg, 0, none⟩, ps + m, bcg⟩) (l := l') kb4 (fun g' h1 e => by
    have e : g' = gg := e
    rcases h1 with h1 | h1
    · exact (CI.out.dis g' h1).2 (e ▸ hgm)
    · exact CI.out.dis2 g' h1 (e ▸ hgm)) o5 (fun g' h1 => .inl (by rw [blk_some] at h1 ⊢; exact h1))
  obtain ⟨Y, hY⟩ : ∃ V, V = w4.setCell ⟨w3.heap.size, 6, none⟩ (.slice (some ⟨gg, 0, none⟩) (ps + m) bcg) := ⟨_, rfl⟩
  have kY : Kb (fun g => g = w3.heap.size) w4 Y := by rw [hY]; exact Kb.set _ _ _ _
  have hlt4 := fun g' h => (CIL.out g' h).2
  have RBY := Lib.hid (show RowAt Y w3.heap.size [.int .i64 c.epoch, .int .i64 c.version, .slice Bs c.objs.schemas.length bcs, .slice Bt c.objs.tables.length bct, .slice Bn c.rols.names.length bcn, .slice Bm c.rols.members.length bcm, .slice (some ⟨gg, 0, none⟩) (ps + m) bcg] by rw [hY]; exact row4.set 6 _ (by simp))
  have CIY := Lib.hid (CI4.kb kY (fun g' h1 e => by
    have e : g' = w3.heap.size := e
    have : g' < w3.heap.size := hlt4 g' (by
      rcases h1 with h1 | h1
      · exact .inl h1
      · exact .inr (by rw [blk_some] at h1 ⊢; exact h1))
    omega))
  have KXY := Lib.hid ((kb4.or kY))
  have e2 : ({ c with grants := l' } : Cat).grants.length = ps + m := by rw [← e1, hl']
  have SM2 := Lib.hid (show SmC { c with grants := l' } from by rw [← hl']; exact sm_erase HSM.out ps)
  have CH := Lib.hid (show Calls Tryz.prog 100 #[.agg #[.int .i64 c.epoch, .int .i64 c.version, .slice Bs c.objs.schemas.length bcs, .slice Bt c.objs.tables.length bct, .slice Bn c.rols.names.length bcn, .slice Bm c.rols.members.length bcm, .slice (some ⟨gg, 0, none⟩) (ps + m) bcg]] Y (HoldP Y { c with grants := l' }) from by
    have := holdG { c with grants := l' } Bs bcs Bt bct Bn bcn Bm bcm (some ⟨gg, 0, none⟩) bcg Y (CIY.out.at SM2.out)
    rw [e2] at this
    exact this)
  have HE2 := Lib.hid e2
  have HLL := Lib.hid hl'
  have z6' := row4.cell (j := 6) rfl
  have zf' := row4.2.2 6 (by simp)
  have zz' := row4.1
  obtain ⟨q0, q1, q2, q3, q4, q5, q6, qz⟩ := rowF7 RBY.out
  rw [hY] at q0 q1 q2 q3 q4 q5 q6 qz
  clear o4 o5 kb4 hgm hggl row4 CI4 kY hlt4 e1 e2 hl' z6 zz hX
  go_wp2_with fail
  rw [← hY]
  clear hY q0 q1 q2 q3 q4 q5 q6 qz z6' zf' zz'
  have HT2 := HTK.out
  rw [HLL.out] at HT2
  obtain ⟨l2, hl2⟩ : ∃ l2, holdL { c with grants := l' } = l2 := ⟨_, rfl⟩
  rw [hl2] at HT2
  have HT3 := Lib.hid HT2
  have CH2 := Lib.hid (show Calls Tryz.prog 100 #[.agg #[.int .i64 c.epoch, .int .i64 c.version, .slice Bs c.objs.schemas.length bcs, .slice Bt c.objs.tables.length bct, .slice Bn c.rols.names.length bcn, .slice Bm c.rols.members.length bcm, .slice (some ⟨gg, 0, none⟩) (ps + m) bcg]] Y (fun e w'' => ∃ h : Hd, e = .returned h.v ∧ Aft Y w'' ∧ w''.ownsRow Y.heap.size 76 6 h.v l2.length (l2.flatMap graC)) from hl2 ▸ CH.out)
  clear HT2 CH hl2
  refine CH2.out.mono ?_
  rintro e w5 ⟨⟨Ba, nBa, bca⟩, rfl, a5, o5⟩
  obtain rfl : nBa = l2.length := own_n o5
  have hgb := (CIL.out gg (.inr (Hd.mem_blk.2 rfl)))
  have hw2 : w.heap.size + 1 + 1 < w2.heap.size := (HR.out.2.2.aft HA2.out).1
  have r2X := HR.out.2.2.aft HA3.out
  have r2Y := KXY.out.row r2X (fun e => by rcases e with e | e <;> (have e : w.heap.size + 1 + 1 = _ := e; have := S23.out; omega))
  have r25 := r2Y.aft a5
  have rb5 := RBY.out.aft a5
  have yX : w3.heap.size < Y.heap.size := RBY.out.1
  obtain ⟨Z, hZ⟩ : ∃ V, V = w5.setCell ⟨w3.heap.size, 6, none⟩ (.slice Ba l2.length bca) := ⟨_, rfl⟩
  have kZ : Kb (fun g => g = w3.heap.size) w5 Z := by rw [hZ]; exact Kb.set _ _ _ _
  have rbZ : RowAt Z w3.heap.size [.int .i64 c.epoch, .int .i64 c.version, .slice Bs c.objs.schemas.length bcs, .slice Bt c.objs.tables.length bct, .slice Bn c.rols.names.length bcn, .slice Bm c.rols.members.length bcm, .slice Ba l2.length bca] := by rw [hZ]; exact rb5.set 6 _ (by simp)
  have r2Z := kZ.row r25 (by have := S23.out; omega)
  have hbl : ∀ g', (Hd.mk Ba l2.length bca).v.ownBlock = some g' → Y.heap.size ≤ g' ∧ g' < w5.heap.size := fun g' h => o5.lt g' h
  have CIZ := (CIY.out.newG (hg' := ⟨Ba, l2.length, bca⟩) (l := l2) (Kb.of_aft (P := fun _ => False) a5) (fun _ _ h => h) (own_down o5 (by have := S23.out; omega)) (fun g' h => .inr (hbl g' (Hd.mem_blk.1 h)).1)).kb kZ (fun g' h1 e => by
    have e : g' = w3.heap.size := e
    rcases h1 with h1 | h1
    · have := (CIL.out g' (.inl h1)).2; omega
    · have := (hbl g' (Hd.mem_blk.1 h1)).1; omega)
  have CIZ' := Lib.hid CIZ
  have R2Z := Lib.hid r2Z
  have HAZ := Lib.hid (show Aft w Z from kZ.to_aft ((KXY.out.to_aft (HAW.out.trans HA3.out) (fun k hk e => by rcases e with e | e <;> (have e : k = _ := e; have := S23.out; omega))).trans a5) (fun k hk e => by have e : k = _ := e; have := S23.out; omega))
  have SZ := Lib.hid (show w.heap.size + 1 + 1 < w2.heap.size ∧ w2.heap.size ≤ w3.heap.size ∧ w3.heap.size < Y.heap.size ∧ w2.heap.size ≤ gg ∧ gg < w3.heap.size from ⟨hw2, S23.out, yX, hgb.1, hgb.2⟩)
  have t6 := rb5.cell (j := 6) rfl
  have tf := rb5.2.2 6 (by simp)
  have tz := rb5.1
  obtain ⟨q0, q1, q2, q3, q4, q5, q6, qz⟩ := rowF7 rbZ
  obtain ⟨u0, u1, u2, u3, u4, u5, u6, uz⟩ := rowF7 r2Z
  have v0 := r2Z.2.2 0 (by simp)
  have v1 := r2Z.2.2 1 (by simp)
  have v2 := r2Z.2.2 2 (by simp)
  have v3 := r2Z.2.2 3 (by simp)
  have v4 := r2Z.2.2 4 (by simp)
  have v5 := r2Z.2.2 5 (by simp)
  have v6 := r2Z.2.2 6 (by simp)
  rw [hZ] at q0 q1 q2 q3 q4 q5 q6 qz u0 u1 u2 u3 u4 u5 u6 uz v0 v1 v2 v3 v4 v5 v6
  clear a5 o5 hgb hw2 r2X r2Y r25 rb5 yX kZ rbZ r2Z hbl CIZ
  simp only [Hd.v]
  go_wp2_with fail
  (try simp only [Exit.inBlock, Exit.then])
  rw [← hZ]
  refine bodyPost_ret (results_cell_tmp (v := .agg #[.int .i64 c.epoch, .int .i64 c.version, .slice Bs c.objs.schemas.length bcs, .slice Bt c.objs.tables.length bct, .slice Bn c.rols.names.length bcn, .slice Bm c.rols.members.length bcm, .slice Ba l2.length bca]) rfl _ rfl (lvCat_row (setC_row R2Z.out rfl _ _ _ _ _ _ _))) rfl ?_
  rw [HT3.out]
  obtain ⟨s1, s2, s3, s4, s5⟩ := SZ.out
  have kF := setC_kb Z (w.heap.size + 1 + 1) (.int .i64 c.epoch) (.int .i64 c.version) (.slice Bs c.objs.schemas.length bcs) (.slice Bt c.objs.tables.length bct) (.slice Bn c.rols.names.length bcn) (.slice Bm c.rols.members.length bcm) (.slice Ba l2.length bca)
  exact ⟨⟨Bs, nBs, bcs⟩, ⟨Bt, nBt, bct⟩, ⟨Bn, nBn, bcn⟩, ⟨Bm, nBm, bcm⟩, ⟨Ba, l2.length, bca⟩, L, rfl, kF.to_aft HAZ.out (fun k hk e => by have e : k = _ := e; omega), (CIZ'.out.kb kF (fun g' h1 e => by
    have e : g' = w.heap.size + 1 + 1 := e
    have := (CIZ'.out.lt h1).1
    omega)).down (by omega)⟩
end Go.Proofs.YtlklmekapbojdaaGreat

namespace Go.Proofs.YtlklmekapbojdaaGreat
open Go.RowKit Go.Deep
set_option maxRecDepth 100000
set_option linter.unusedVariables false
theorem takeX (l l2 : List Gra) (p q : ByteArray) (n n2 : Nat) (hn : l.length = n) (hn2 : l2.length = n2) (h : takeR (ExC l) (oneG p q) = (ExC l2, 0)) (As : Option Addr) (caps : Nat) (At : Option Addr) (capt : Nat) (An : Option Addr) (capn : Nat) (Am : Option Addr) (capm : Nat) (Ag : Option Addr) (capg : Nat) (V : World) (H : CatAt V (ExC l) As caps At capt An capn Am capm Ag capg) :
    Calls Tryz.prog 39 #[.agg #[.int .i64 0, .int .i64 0, .slice As 1 caps, .slice At 1 capt, .slice An 4 capn, .slice Am 0 capm, .slice Ag n capg], .agg #[.string ⟨#[115]⟩, .string ⟨#[116]⟩, .int .i64 1, .string p, .string q, .bool true]] V (ExP V l2 n2 0) := by
  subst hn
  exact (takeG (ExC l) As caps At capt An capn Am capm Ag capg (oneG p q) V H).mono fun e w' hh => chg_ex hn2 h hh
theorem takeE (l : List Gra) (p q : ByteArray) (n : Nat) (k : Int) (hn : l.length = n) (h : takeR (ExC l) (oneG p q) = (noC, k)) (As : Option Addr) (caps : Nat) (At : Option Addr) (capt : Nat) (An : Option Addr) (capn : Nat) (Am : Option Addr) (capm : Nat) (Ag : Option Addr) (capg : Nat) (V : World) (H : CatAt V (ExC l) As caps At capt An capn Am capm Ag capg) :
    Calls Tryz.prog 39 #[.agg #[.int .i64 0, .int .i64 0, .slice As 1 caps, .slice At 1 capt, .slice An 4 capn, .slice Am 0 capm, .slice Ag n capg], .agg #[.string ⟨#[115]⟩, .string ⟨#[116]⟩, .int .i64 1, .string p, .string q, .bool true]] V (NoP9 V k) := by
  subst hn
  exact (takeG (ExC l) As caps At capt An capn Am capm Ag capg (oneG p q) V H).mono fun e w' hh => chg_no h hh
set_option maxHeartbeats 16000000 in
theorem takes9 (w : World) : Calls Tryz.prog 41 #[] w fun e w' => e = .returned (.bool true) ∧ Aft w w' := by
  go_enter Tryz.func41, Tryz.ntmps41
  go_wp2_with fail
  refine (one9 _).mono ?_
  rintro e w1 ⟨Os, Ocs, Ot, Oct, On, Ocn, rfl, a1, H1⟩
  have A1 := Lib.hid a1
  have HO := Lib.hid H1
  have SMO := Lib.hid H1.sm
  clear a1 H1
  go_wp2_with fail
  refine (read9 ⟨#[111]⟩ ⟨#[97]⟩ w1).mono ?_
  rintro e w2 ⟨rfl, a2⟩
  have A2 := Lib.hid (A1.out.trans a2)
  have C1 := Lib.hid (giveX [] [oneG bO bA] ⟨#[111]⟩ ⟨#[97]⟩ 0 1 rfl rfl ex_give1 (small1 _) (small1 _) Os Ocs Ot Oct On Ocn none 0 none 0 w2 (HO.out.aft a2))
  clear a2
  go_wp2_with fail
  refine C1.out.mono ?_
  rintro e w3 ⟨hXs, hXt, hXn, hXm, hXg, LX, rfl, a3, ci3⟩
  obtain ⟨Xs, nXs, Xcs⟩ := hXs
  obtain ⟨Xt, nXt, Xct⟩ := hXt
  obtain ⟨Xn, nXn, Xcn⟩ := hXn
  obtain ⟨Xm, nXm, Xcm⟩ := hXm
  obtain ⟨Xg, nXg, Xcg⟩ := hXg
  dsimp only
  obtain ⟨X, hX⟩ : ∃ V, V = w3.alloc (.cells #[.int .i64 0, .int .i64 0, .slice Xs 1 Xcs, .slice Xt 1 Xct, .slice Xn 4 Xcn, .slice Xm 0 Xcm, .slice Xg 1 Xcg] 66) := ⟨_, rfl⟩
  have aX : Aft w3 X := by rw [hX]; exact (Aft.refl _).alloc _
  have RX := Lib.hid (show RowAt X w3.heap.size [.int .i64 0, .int .i64 0, .slice Xs 1 Xcs, .slice Xt 1 Xct, .slice Xn 4 Xcn, .slice Xm 0 Xcm, .slice Xg 1 Xcg] by rw [hX]; exact box_row2 (Aft.refl _))
  have KX := Lib.hid ((ci3.at (sm_exC1 SMO.out [oneG bO bA] (by decide) (by intro g hg; simp at hg; subst hg; exact sm_oneG _ _ (small1 _) (small1 _)))).aft aX)
  have AX := Lib.hid (A2.out.trans (a3.trans aX))
  have C2 := Lib.hid (fun V (a : Aft X V) => giveX [oneG bO bA] [oneG bA bB, oneG bO bA] ⟨#[97]⟩ ⟨#[98]⟩ 1 2 rfl rfl ex_give2 (small1 _) (small1 _) Xs Xcs Xt Xct Xn Xcn Xm Xcm Xg Xcg V (KX.out.aft a))
  obtain ⟨x0, x1, x2, x3, x4, x5, x6, xz⟩ := rowF7 RX.out
  clear a3 ci3 aX C1 HO
  go_wp2_with fail
  rw [← hX]
  clear hX
  have SM1 := Lib.hid (show SmC (ExC [oneG bA bB, oneG bO bA]) from (sm_exC1 SMO.out [oneG bA bB, oneG bO bA] (by decide) (by intro g hg; simp at hg; rcases hg with rfl | rfl <;> exact sm_oneG _ _ (small1 _) (small1 _))))
  have D01 := Lib.hid (show Aft X X.drew from (Aft.refl _).drew)
  have D11 := Lib.hid (show ∀ o, Aft X (X.drew.alloc o) from fun o => (Aft.refl _).drew.alloc o)
  have D21 := Lib.hid (show ∀ o, Aft X (X.alloc o).drew from fun o => ((Aft.refl _).alloc o).drew)
  have KS1 := Lib.hid (show ∀ V, Aft X V → (Aft X V ∧ V.cell? ⟨w3.heap.size, 0, none⟩ = some (.int .i64 0) ∧ V.cell? ⟨w3.heap.size, 1, none⟩ = some (.int .i64 0) ∧ V.cell? ⟨w3.heap.size, 2, none⟩ = some (.slice Xs 1 Xcs) ∧ V.cell? ⟨w3.heap.size, 3, none⟩ = some (.slice Xt 1 Xct) ∧ V.cell? ⟨w3.heap.size, 4, none⟩ = some (.slice Xn 4 Xcn) ∧ V.cell? ⟨w3.heap.size, 5, none⟩ = some (.slice Xm 0 Xcm) ∧ V.cell? ⟨w3.heap.size, 6, none⟩ = some (.slice Xg 1 Xcg)) from fun V a => ⟨a, a.cell_kept x0, a.cell_kept x1, a.cell_kept x2, a.cell_kept x3, a.cell_kept x4, a.cell_kept x5, a.cell_kept x6⟩)
  refine Code.wp_mono (Q := fun e a' w' => e = Exit.normal ∧ ∃ (bxY : Nat) (Ys : Option Addr) (Ycs : Nat) (Yt : Option Addr) (Yct : Nat) (Yn : Option Addr) (Ycn : Nat) (Ym : Option Addr) (Ycm : Nat) (Yg : Option Addr) (Ycg : Nat), XAtX X w' bxY [oneG bA bB, oneG bO bA] 2 Ys Ycs Yt Yct Yn Ycn Ym Ycm Yg Ycg ∧ a' = { tmps := #[.bool false, .pointer (some ⟨w3.heap.size, 0, none⟩), .int .i64 0, .pointer (some ⟨bxY, 0, none⟩), .int .i64 0, undef, undef, undef, undef, .tuple #[.agg #[.int .i64 0, .int .i64 0, .slice Xs 1 Xcs, .slice Xt 1 Xct, .slice Xn 4 Xcn, .slice Xm 0 Xcm, .slice Xg 1 Xcg], .int .i64 0], .agg #[.int .i64 0, .int .i64 0, .slice Os 1 Ocs, .slice Ot 1 Oct, .slice On 4 Ocn, .slice none 0 0, .slice none 0 0], .agg #[.string ⟨#[115]⟩, .string ⟨#[116]⟩, .int .i64 1, .string ⟨#[111]⟩, .string ⟨#[97]⟩, .bool true], .tuple #[.agg #[.int .i64 0, .int .i64 0, .slice Xs 1 Xcs, .slice Xt 1 Xct, .slice Xn 4 Xcn, .slice Xm 0 Xcm, .slice Xg 1 Xcg], .int .i64 0], .agg #[.int .i64 0, .int .i64 0, .slice Xs 1 Xcs, .slice Xt 1 Xct, .slice Xn 4 Xcn, .slice Xm 0 Xcm, .slice Xg 1 Xcg], .int .i64 0, .tuple #[.agg #[.int .i64 0, .int .i64 0, .slice Ys 1 Ycs, .slice Yt 1 Yct, .slice Yn 4 Ycn, .slice Ym 0 Ycm, .slice Yg 2 Ycg], .int .i64 0], .agg #[.int .i64 0, .int .i64 0, .slice Xs 1 Xcs, .slice Xt 1 Xct, .slice Xn 4 Xcn, .slice Xm 0 Xcm, .slice Xg 1 Xcg], .agg #[.string ⟨#[115]⟩, .string ⟨#[116]⟩, .int .i64 1, .string ⟨#[97]⟩, .string ⟨#[98]⟩, .bool true], .tuple #[.agg #[.int .i64 0, .int .i64 0, .slice Ys 1 Ycs, .slice Yt 1 Yct, .slice Yn 4 Ycn, .slice Ym 0 Ycm, .slice Yg 2 Ycg], .int .i64 0], .agg #[.int .i64 0, .int .i64 0, .slice Ys 1 Ycs, .slice Yt 1 Yct, .slice Yn 4 Ycn, .slice Ym 0 Ycm, .slice Yg 2 Ycg], .int .i64 0, undef, undef, undef, undef, undef, undef, undef, undef, undef, undef, undef, undef, undef, undef, undef, undef, undef, undef, undef, undef, undef, undef, undef, undef, undef, undef, undef, undef, undef, undef, undef, undef, undef, undef, undef, undef, undef], defers := [] }) ?mono1 ?reg1
  case reg1 =>
    go_region_held3 (fun V => Aft X V ∧ V.cell? ⟨w3.heap.size, 0, none⟩ = some (.int .i64 0) ∧ V.cell? ⟨w3.heap.size, 1, none⟩ = some (.int .i64 0) ∧ V.cell? ⟨w3.heap.size, 2, none⟩ = some (.slice Xs 1 Xcs) ∧ V.cell? ⟨w3.heap.size, 3, none⟩ = some (.slice Xt 1 Xct) ∧ V.cell? ⟨w3.heap.size, 4, none⟩ = some (.slice Xn 4 Xcn) ∧ V.cell? ⟨w3.heap.size, 5, none⟩ = some (.slice Xm 0 Xcm) ∧ V.cell? ⟨w3.heap.size, 6, none⟩ = some (.slice Xg 1 Xcg))
      (((with_reducible refine KS1.out _ ?_); first | with_reducible exact D01.out | with_reducible exact D11.out _ | with_reducible exact D21.out _ | with_reducible exact b1 | with_reducible exact b1.alloc _ | with_reducible exact b2 | with_reducible exact b2.alloc _ | ((with_reducible refine set_aft b2 ?_); (first | exact b1.size | exact Nat.le_refl _))))
      ((first
        | (go_at_call 98; refine (read9 ⟨#[97]⟩ ⟨#[98]⟩ _).mono ?_; rintro e V1 ⟨rfl, a1⟩; have b1 : Aft X V1 := Aft.trans (And.left (by with_reducible assumption : Aft X _ ∧ _)) a1; first | ((with_reducible have rb := zbox ((Aft.refl _).drew.trans a1)); skip) | skip)
        | (go_at_call 35; (with_reducible refine (C2.out _ (And.left (by with_reducible assumption : Aft X _ ∧ _))).mono ?_); rintro e V2 ⟨hYs, hYt, hYn, hYm, hYg, L2, rfl, a2, ci2⟩; obtain ⟨Ys, nYs, Ycs⟩ := hYs; obtain ⟨Yt, nYt, Yct⟩ := hYt; obtain ⟨Yn, nYn, Ycn⟩ := hYn; obtain ⟨Ym, nYm, Ycm⟩ := hYm; obtain ⟨Yg, nYg, Ycg⟩ := hYg; dsimp only; have b2 : Aft X V2 := Aft.trans (And.left (by with_reducible assumption : Aft X _ ∧ _)) a2; first | ((with_reducible have rb2 := zbox a2); have y0 := rb2.cell (j := 0) rfl; have f0 := rb2.2.2 0 (by simp); have y1 := rb2.cell (j := 1) rfl; have f1 := rb2.2.2 1 (by simp); have y2 := rb2.cell (j := 2) rfl; have f2 := rb2.2.2 2 (by simp); have y3 := rb2.cell (j := 3) rfl; have f3 := rb2.2.2 3 (by simp); have y4 := rb2.cell (j := 4) rfl; have f4 := rb2.2.2 4 (by simp); have y5 := rb2.cell (j := 5) rfl; have f5 := rb2.2.2 5 (by simp); have y6 := rb2.cell (j := 6) rfl; have f6 := rb2.2.2 6 (by simp); have yz := rb2.1) | (have rb2 := rb.aft a2; have y0 := rb2.cell (j := 0) rfl; have f0 := rb2.2.2 0 (by simp); have y1 := rb2.cell (j := 1) rfl; have f1 := rb2.2.2 1 (by simp); have y2 := rb2.cell (j := 2) rfl; have f2 := rb2.2.2 2 (by simp); have y3 := rb2.cell (j := 3) rfl; have f3 := rb2.2.2 3 (by simp); have y4 := rb2.cell (j := 4) rfl; have f4 := rb2.2.2 4 (by simp); have y5 := rb2.cell (j := 5) rfl; have f5 := rb2.2.2 5 (by simp); have y6 := rb2.cell (j := 6) rfl; have f6 := rb2.2.2 6 (by simp); have yz := rb2.1) | skip)))
    all_goals
      refine ⟨rfl, _, Ys, Ycs, Yt, Yct, Yn, Ycn, Ym, Ycm, Yg, Ycg, ?_, rfl⟩
      first
        | (with_reducible exact xat_new b2 ci2 SM1.out)
        | ((with_reducible refine xat_end b2 ci2 SM1.out rb2 ?_ ?_ ?_); (exact rfl); (first | exact b1.size | exact Nat.le_refl _); (first | exact rb.1 | (simp; done) | (simp; omega)))
  case mono1 =>
    rintro e a' w4 ⟨rfl, bxY, Ys, Ycs, Yt, Yct, Yn, Ycn, Ym, Ycm, Yg, Ycg, ⟨a4, r4, k4⟩, rfl⟩
    have A4 := Lib.hid (AX.out.trans a4)
    have RY := Lib.hid r4
    have C3 := Lib.hid (fun V (a : Aft w4 V) => takeX [oneG bA bB, oneG bO bA] [] ⟨#[111]⟩ ⟨#[97]⟩ 2 0 rfl rfl ex_take1 Ys Ycs Yt Yct Yn Ycn Ym Ycm Yg Ycg V (k4.aft a))
    obtain ⟨u0, u1, u2, u3, u4, u5, u6, uz⟩ := rowF7 r4
    clear a4 r4 k4 KS1 C2 x0 x1 x2 x3 x4 x5 x6 xz
    go_wp2_with fail
    have SM2 := Lib.hid (show SmC (ExC []) from (sm_exC1 SMO.out [] (by decide) (by intro g hg; simp at hg)))
    have D02 := Lib.hid (show Aft w4 w4.drew from (Aft.refl _).drew)
    have D12 := Lib.hid (show ∀ o, Aft w4 (w4.drew.alloc o) from fun o => (Aft.refl _).drew.alloc o)
    have D22 := Lib.hid (show ∀ o, Aft w4 (w4.alloc o).drew from fun o => ((Aft.refl _).alloc o).drew)
    have KS2 := Lib.hid (show ∀ V, Aft w4 V → (Aft w4 V ∧ V.cell? ⟨bxY, 0, none⟩ = some (.int .i64 0) ∧ V.cell? ⟨bxY, 1, none⟩ = some (.int .i64 0) ∧ V.cell? ⟨bxY, 2, none⟩ = some (.slice Ys 1 Ycs) ∧ V.cell? ⟨bxY, 3, none⟩ = some (.slice Yt 1 Yct) ∧ V.cell? ⟨bxY, 4, none⟩ = some (.slice Yn 4 Ycn) ∧ V.cell? ⟨bxY, 5, none⟩ = some (.slice Ym 0 Ycm) ∧ V.cell? ⟨bxY, 6, none⟩ = some (.slice Yg 2 Ycg)) from fun V a => ⟨a, a.cell_kept u0, a.cell_kept u1, a.cell_kept u2, a.cell_kept u3, a.cell_kept u4, a.cell_kept u5, a.cell_kept u6⟩)
    refine Code.wp_mono (Q := fun e a' w' => e = Exit.normal ∧ ∃ (bxZ : Nat) (Zs : Option Addr) (Zcs : Nat) (Zt : Option Addr) (Zct : Nat) (Zn : Option Addr) (Zcn : Nat) (Zm : Option Addr) (Zcm : Nat) (Zg : Option Addr) (Zcg : Nat), XAtX w4 w' bxZ [] 0 Zs Zcs Zt Zct Zn Zcn Zm Zcm Zg Zcg ∧ a' = { tmps := #[.bool false, .pointer (some ⟨w3.heap.size, 0, none⟩), .int .i64 0, .pointer (some ⟨bxY, 0, none⟩), .int .i64 0, .pointer (some ⟨bxZ, 0, none⟩), .int .i64 0, undef, undef, .tuple #[.agg #[.int .i64 0, .int .i64 0, .slice Xs 1 Xcs, .slice Xt 1 Xct, .slice Xn 4 Xcn, .slice Xm 0 Xcm, .slice Xg 1 Xcg], .int .i64 0], .agg #[.int .i64 0, .int .i64 0, .slice Os 1 Ocs, .slice Ot 1 Oct, .slice On 4 Ocn, .slice none 0 0, .slice none 0 0], .agg #[.string ⟨#[115]⟩, .string ⟨#[116]⟩, .int .i64 1, .string ⟨#[111]⟩, .string ⟨#[97]⟩, .bool true], .tuple #[.agg #[.int .i64 0, .int .i64 0, .slice Xs 1 Xcs, .slice Xt 1 Xct, .slice Xn 4 Xcn, .slice Xm 0 Xcm, .slice Xg 1 Xcg], .int .i64 0], .agg #[.int .i64 0, .int .i64 0, .slice Xs 1 Xcs, .slice Xt 1 Xct, .slice Xn 4 Xcn, .slice Xm 0 Xcm, .slice Xg 1 Xcg], .int .i64 0, .tuple #[.agg #[.int .i64 0, .int .i64 0, .slice Ys 1 Ycs, .slice Yt 1 Yct, .slice Yn 4 Ycn, .slice Ym 0 Ycm, .slice Yg 2 Ycg], .int .i64 0], .agg #[.int .i64 0, .int .i64 0, .slice Xs 1 Xcs, .slice Xt 1 Xct, .slice Xn 4 Xcn, .slice Xm 0 Xcm, .slice Xg 1 Xcg], .agg #[.string ⟨#[115]⟩, .string ⟨#[116]⟩, .int .i64 1, .string ⟨#[97]⟩, .string ⟨#[98]⟩, .bool true], .tuple #[.agg #[.int .i64 0, .int .i64 0, .slice Ys 1 Ycs, .slice Yt 1 Yct, .slice Yn 4 Ycn, .slice Ym 0 Ycm, .slice Yg 2 Ycg], .int .i64 0], .agg #[.int .i64 0, .int .i64 0, .slice Ys 1 Ycs, .slice Yt 1 Yct, .slice Yn 4 Ycn, .slice Ym 0 Ycm, .slice Yg 2 Ycg], .int .i64 0, .tuple #[.agg #[.int .i64 0, .int .i64 0, .slice Zs 1 Zcs, .slice Zt 1 Zct, .slice Zn 4 Zcn, .slice Zm 0 Zcm, .slice Zg 0 Zcg], .int .i64 0], .agg #[.int .i64 0, .int .i64 0, .slice Ys 1 Ycs, .slice Yt 1 Yct, .slice Yn 4 Ycn, .slice Ym 0 Ycm, .slice Yg 2 Ycg], .agg #[.string ⟨#[115]⟩, .string ⟨#[116]⟩, .int .i64 1, .string ⟨#[111]⟩, .string ⟨#[97]⟩, .bool true], .tuple #[.agg #[.int .i64 0, .int .i64 0, .slice Zs 1 Zcs, .slice Zt 1 Zct, .slice Zn 4 Zcn, .slice Zm 0 Zcm, .slice Zg 0 Zcg], .int .i64 0], .agg #[.int .i64 0, .int .i64 0, .slice Zs 1 Zcs, .slice Zt 1 Zct, .slice Zn 4 Zcn, .slice Zm 0 Zcm, .slice Zg 0 Zcg], .int .i64 0, undef, undef, undef, undef, undef, undef, undef, undef, undef, undef, undef, undef, undef, undef, undef, undef, undef, undef, undef, undef, undef, undef, undef, undef, undef, undef, undef, undef, undef, undef, undef], defers := [] }) ?mono2 ?reg2
    case reg2 =>
      go_region_held3 (fun V => Aft w4 V ∧ V.cell? ⟨bxY, 0, none⟩ = some (.int .i64 0) ∧ V.cell? ⟨bxY, 1, none⟩ = some (.int .i64 0) ∧ V.cell? ⟨bxY, 2, none⟩ = some (.slice Ys 1 Ycs) ∧ V.cell? ⟨bxY, 3, none⟩ = some (.slice Yt 1 Yct) ∧ V.cell? ⟨bxY, 4, none⟩ = some (.slice Yn 4 Ycn) ∧ V.cell? ⟨bxY, 5, none⟩ = some (.slice Ym 0 Ycm) ∧ V.cell? ⟨bxY, 6, none⟩ = some (.slice Yg 2 Ycg))
        (((with_reducible refine KS2.out _ ?_); first | with_reducible exact D02.out | with_reducible exact D12.out _ | with_reducible exact D22.out _ | with_reducible exact b1 | with_reducible exact b1.alloc _ | with_reducible exact b2 | with_reducible exact b2.alloc _ | ((with_reducible refine set_aft b2 ?_); (first | exact b1.size | exact Nat.le_refl _))))
        ((first
          | (go_at_call 98; refine (read9 ⟨#[111]⟩ ⟨#[97]⟩ _).mono ?_; rintro e V1 ⟨rfl, a1⟩; have b1 : Aft w4 V1 := Aft.trans (And.left (by with_reducible assumption : Aft w4 _ ∧ _)) a1; first | ((with_reducible have rb := zbox ((Aft.refl _).drew.trans a1)); skip) | skip)
          | (go_at_call 39; (with_reducible refine (C3.out _ (And.left (by with_reducible assumption : Aft w4 _ ∧ _))).mono ?_); rintro e V2 ⟨hZs, hZt, hZn, hZm, hZg, L2, rfl, a2, ci2⟩; obtain ⟨Zs, nZs, Zcs⟩ := hZs; obtain ⟨Zt, nZt, Zct⟩ := hZt; obtain ⟨Zn, nZn, Zcn⟩ := hZn; obtain ⟨Zm, nZm, Zcm⟩ := hZm; obtain ⟨Zg, nZg, Zcg⟩ := hZg; dsimp only; have b2 : Aft w4 V2 := Aft.trans (And.left (by with_reducible assumption : Aft w4 _ ∧ _)) a2; first | ((with_reducible have rb2 := zbox a2); have y0 := rb2.cell (j := 0) rfl; have f0 := rb2.2.2 0 (by simp); have y1 := rb2.cell (j := 1) rfl; have f1 := rb2.2.2 1 (by simp); have y2 := rb2.cell (j := 2) rfl; have f2 := rb2.2.2 2 (by simp); have y3 := rb2.cell (j := 3) rfl; have f3 := rb2.2.2 3 (by simp); have y4 := rb2.cell (j := 4) rfl; have f4 := rb2.2.2 4 (by simp); have y5 := rb2.cell (j := 5) rfl; have f5 := rb2.2.2 5 (by simp); have y6 := rb2.cell (j := 6) rfl; have f6 := rb2.2.2 6 (by simp); have yz := rb2.1) | (have rb2 := rb.aft a2; have y0 := rb2.cell (j := 0) rfl; have f0 := rb2.2.2 0 (by simp); have y1 := rb2.cell (j := 1) rfl; have f1 := rb2.2.2 1 (by simp); have y2 := rb2.cell (j := 2) rfl; have f2 := rb2.2.2 2 (by simp); have y3 := rb2.cell (j := 3) rfl; have f3 := rb2.2.2 3 (by simp); have y4 := rb2.cell (j := 4) rfl; have f4 := rb2.2.2 4 (by simp); have y5 := rb2.cell (j := 5) rfl; have f5 := rb2.2.2 5 (by simp); have y6 := rb2.cell (j := 6) rfl; have f6 := rb2.2.2 6 (by simp); have yz := rb2.1) | skip)))
      all_goals
        refine ⟨rfl, _, Zs, Zcs, Zt, Zct, Zn, Zcn, Zm, Zcm, Zg, Zcg, ?_, rfl⟩
        first
          | (with_reducible exact xat_new b2 ci2 SM2.out)
          | ((with_reducible refine xat_end b2 ci2 SM2.out rb2 ?_ ?_ ?_); (exact rfl); (first | exact b1.size | exact Nat.le_refl _); (first | exact rb.1 | (simp; done) | (simp; omega)))
    case mono2 =>
      rintro e a' w5 ⟨rfl, bxZ, Zs, Zcs, Zt, Zct, Zn, Zcn, Zm, Zcm, Zg, Zcg, ⟨a5, r5, k5⟩, rfl⟩
      have A5 := Lib.hid (A4.out.trans a5)
      have RY5 := Lib.hid (RY.out.aft a5)
      have RZ5 := Lib.hid r5
      clear a5 r5 k5 KS2 C3 u0 u1 u2 u3 u4 u5 u6 uz
      go_wp2_with fail
      refine (one9 _).mono ?_
      rintro e w6 ⟨Ps, Pcs, Pt, Pct, Pn, Pcn, rfl, a6, H6⟩
      have A6 := Lib.hid (A5.out.trans a6)
      have RY6 := Lib.hid (RY5.out.aft a6)
      have RZ6 := Lib.hid (RZ5.out.aft a6)
      have HP := Lib.hid H6
      clear a6 H6
      go_wp2_with fail
      refine (read9 ⟨#[111]⟩ ⟨#[97]⟩ w6).mono ?_
      rintro e w7 ⟨rfl, a7⟩
      have A7 := Lib.hid (A6.out.trans a7)
      have RY7 := Lib.hid (RY6.out.aft a7)
      have RZ7 := Lib.hid (RZ6.out.aft a7)
      have C4 := Lib.hid (takeE [] ⟨#[111]⟩ ⟨#[97]⟩ 0 80 rfl ex_take2 Ps Pcs Pt Pct Pn Pcn none 0 none 0 w7 (HP.out.aft a7))
      clear a7
      go_wp2_with fail
      refine C4.out.mono ?_
      rintro e w8 ⟨hTs, hTt, hTn, hTm, hTg, rfl, a8⟩
      obtain ⟨Ts, nTs, Tcs⟩ := hTs
      obtain ⟨Tt, nTt, Tct⟩ := hTt
      obtain ⟨Tn, nTn, Tcn⟩ := hTn
      obtain ⟨Tm, nTm, Tcm⟩ := hTm
      obtain ⟨Tg, nTg, Tcg⟩ := hTg
      dsimp only
      have A8 := Lib.hid (A7.out.trans a8)
      have r8 := RY7.out.aft a8
      have t8 := RZ7.out.aft a8
      have q6 : w8.cell? ⟨bxY, 6, none⟩ = some (.slice Yg 2 Ycg) := r8.cell (j := 6) rfl
      have qz := r8.1
      have qz' : bxY < w8.heap.size + 1 := by omega
      have t6 : w8.cell? ⟨bxZ, 6, none⟩ = some (.slice Zg 0 Zcg) := t8.cell (j := 6) rfl
      have t4 : w8.cell? ⟨bxZ, 4, none⟩ = some (.slice Zn 4 Zcn) := t8.cell (j := 4) rfl
      have tz := t8.1
      have tz' : bxZ < w8.heap.size + 1 := by omega
      clear r8 t8 a8
      go_wp2_with fail
      go_ret
      exact ⟨rfl, A8.out.alloc _⟩
end Go.Proofs.YtlklmekapbojdaaGreat

