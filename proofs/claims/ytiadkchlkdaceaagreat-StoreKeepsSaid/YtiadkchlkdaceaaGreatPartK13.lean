/- Contracts of the program, part 13. -/
import Derived.OrdersHeld
import Derived.Deep.RegionHeld3
import Derived.WalkKit
import Derived.WalkSpells
import Derived.WalkLawsBesides
import Derived.Lib.Hide
import Derived.Deep.QuietTactic
import Derived.BigQuiet
import Derived.Below
import Derived.Deep.Draws
import Derived.StillTailTactics
import Derived.Laws.Cells
import Derived.Laws.IdiomCopy
import Derived.Test.YtiadkchlkdaceaaGreatRows
import Derived.Deep.Onto
import Derived.LaidEqlPtr
import Derived.OwnWalk
import Derived.Laws.AppendOwn
import Derived.ProofKit
import Derived.OpenShut
import Derived.Deep.Slices
import Derived.ChangeOld
import Derived.SizedLaws
import Derived.Lib.Bytealg
import Derived.IntWalk
import Derived.ShutString
import Derived.Shelf.SlSortCmp.WholeK
import Derived.Lib.SliceRun
import Derived.Deep.AppendLies
import Derived.Deep.Upon
import Derived.OneCell
import Derived.Deep.DeepMust
import Derived.Deep.RegionLaw
import Derived.Shelf.RegionOpen
import Derived.Sort.BigQuietIn
import Derived.RangeFuncNested
import Derived.RangeFuncBound
import Derived.RangeFuncCalls
import Derived.RangeFuncLeaves
import Derived.Shelf.Abstract
import Derived.OwnWalkIn
import Derived.TacticsInMore
import Derived.LoopNIn
import Derived.LoopIn
import Derived.Sort.QuietTacIn
import Derived.NoCompiler
import Derived.Lib.Walk
import Derived.Test.YtiadkchlkdaceaaGreatPartK1
import Derived.Test.YtiadkchlkdaceaaGreatPartK2
import Derived.Test.YtiadkchlkdaceaaGreatPartK3
import Derived.Test.YtiadkchlkdaceaaGreatPartK4
import Derived.Test.YtiadkchlkdaceaaGreatPartK5
import Derived.Test.YtiadkchlkdaceaaGreatPartK6
import Derived.Test.YtiadkchlkdaceaaGreatPartK7
import Derived.Test.YtiadkchlkdaceaaGreatPartK8
import Derived.Test.YtiadkchlkdaceaaGreatPartK9
import Derived.Test.YtiadkchlkdaceaaGreatPartK10
import Derived.Test.YtiadkchlkdaceaaGreatPartK11
import Derived.Test.YtiadkchlkdaceaaGreatPartK12
namespace Go.Proofs.YtiadkchlkdaceaaGreat
open Go.RowKit
section
variable {P : Program} {ops : Array Oper} {Q : Exit → Act → World → Prop} {T : World → Prop} {m : Nat}
def readM (o : Oper) : Bool := readB o || (o.guard.isNone && match o.op with | .extract .. => true | _ => false)
theorem readM_guard {o : Oper} (h : readM o = true) : o.guard = none := by
  unfold readM at h
  rw [Bool.or_eq_true] at h
  rcases h with h | h
  · unfold readB at h; simp only [Bool.and_eq_true, Option.isNone_iff_eq_none] at h; exact h.1
  · simp only [Bool.and_eq_true, Option.isNone_iff_eq_none] at h; exact h.1
theorem readM_value {o : Oper} {ev : Operand → Value} {w w' : World} {n : Next} (h : readM o = true) (hr : (execOp ev o).run P w = .ok n w') : ∃ v, n = .value v := by
  unfold readM at h
  rw [Bool.or_eq_true] at h
  rcases h with h | h
  · exact read_value h hr
  · simp only [Bool.and_eq_true] at h
    obtain ⟨_, h⟩ := h
    unfold execOp at hr
    cases ho : o.op <;> rw [ho] at h hr <;> simp only [Bool.false_eq_true] at h
    simp only [Sem.run_bind, Sem.run_pure] at hr
    first
      | (simp only [Result.ok.injEq] at hr; exact ⟨_, hr.1.symm⟩)
      | (generalize Sem.run P _ w = r at hr; cases r <;> simp [Result.andThen] at hr; exact ⟨_, hr.1.symm⟩)
      | (split at hr <;> first | (simp only [Sem.run_pure, Result.ok.injEq] at hr; exact ⟨_, hr.1.symm⟩) | (simp [unsupported] at hr))
theorem readM_yields {o : Oper} {v : Value} {a : Act} (hb : readM o = true) (h : ∀ w, T w → o.quietAt P a T w v) : YieldsIf P ops T o v a := by
  have hg := readM_guard hb
  refine .inl ⟨by simp [Region.wanted, hg], fun w hw => ?_⟩
  have h1 := h w hw
  unfold Oper.quietAt at h1
  cases hr : (execOp a.eval o).run P w with
  | ok n w' =>
    obtain ⟨u, rfl⟩ := readM_value hb hr
    rw [hr] at h1
    simp only [Oper.quietUpon] at h1
    rw [h1.1, h1.2]
  | halt x w' =>
    rw [hr] at h1
    simp only [Oper.quietUpon] at h1
/-- what is asked, in the order of the text: of a read its value in any world of the class, of another operation its own rule -/
def wpMix (P : Program) (ops : Array Oper) (Q : Exit → Act → World → Prop) (T : World → Prop) (m : Nat) (rd : List Bool) : Nat → List Oper → Act → World → Prop
  | _, [], a, w => Q .normal a w
  | k, o :: r, a, w => if rd.getD k false then ∃ v, (∀ w, T w → o.quietAt P a T w v) ∧ wpMix P ops Q T m rd (k + 1) r (a.put o.dst v) w
    else o.wp P a w (fun a' w' => (k < m → T w') ∧ wpMix P ops Q T m rd (k + 1) r a' w') Q ∨ (o.asks P a w ∧ LetsOut Q)
theorem wpMix_read {rd : List Bool} {k : Nat} {o : Oper} {r : List Oper} {a : Act} {w : World} (v : Value) (h : rd.getD k false = true) (hq : ∀ w, T w → o.quietAt P a T w v) (hn : wpMix P ops Q T m rd (k + 1) r (a.put o.dst v) w) : wpMix P ops Q T m rd k (o :: r) a w := by
  unfold wpMix; rw [if_pos h]; exact ⟨v, hq, hn⟩
theorem wpMix_step {rd : List Bool} {k : Nat} {o : Oper} {r : List Oper} {a : Act} {w : World} (h : rd.getD k false = false) (hs : ∀ K : Act → World → Prop, (∀ a' w', (k < m → T w') → wpMix P ops Q T m rd (k + 1) r a' w' → K a' w') → o.wp P a w K Q) : wpMix P ops Q T m rd k (o :: r) a w := by
  unfold wpMix; rw [if_neg (by rw [h]; simp)]; exact .inl (hs _ fun _ _ h1 h2 => ⟨h1, h2⟩)
/-- a stretch of reads -/
theorem wpMix_reads {rd : List Bool} {w : World} : ∀ (n : Nat) {k : Nat} {l : List Oper} {a : Act}, ((List.range n).all fun j => rd.getD (k + j) false) = true → ((l.take n).all fun o => o.guard.isNone) = true → wpQuiet P ops T (fun a' => wpMix P ops Q T m rd (k + n) (l.drop n) a' w) (l.take n) a → wpMix P ops Q T m rd k l a w
  | 0, k, l, a, _, _, h => by simpa [wpQuiet] using h
  | n + 1, k, [], a, _, _, h => by simpa [wpQuiet, wpMix] using h
  | n + 1, k, o :: r, a, hr, hg, h => by
    simp only [List.take_succ_cons, List.all_cons, Bool.and_eq_true, Option.isNone_iff_eq_none] at hg
    rw [List.take_succ_cons, List.drop_succ_cons] at h
    unfold wpQuiet at h
    rw [if_pos (by simp [Region.wanted, hg.1])] at h
    obtain ⟨v, hv, hn⟩ := h
    simp only [List.all_eq_true, List.mem_range] at hr
    refine wpMix_read v (hr 0 (by omega)) hv (wpMix_reads n (k := k + 1) ?_ hg.2 ?_)
    · simp only [List.all_eq_true, List.mem_range]
      intro j hj
      have := hr (j + 1) (by omega)
      rwa [show k + (j + 1) = k + 1 + j by omega] at this
    · rwa [show k + (n + 1) = k + 1 + n by omega] at hn
def mixB (ops : Array Oper) (rd : List Bool) (m : Nat) : Bool :=
  Region.noSelect ops && decide (m < ops.size) &&
  (List.range ops.size).all (fun k => match ops[k]? with
    | none => false
    | some o => if rd.getD k false then decide (k < m) && readM o && o.after.all (fun e => !Region.binds .any e || decide (e.on < k)) && Region.free .any ops (lk ops.size k) k && (match ops[m]? with | some om => om.after.any (fun e => Region.binds .any e && e.on == k) | none => false)
      else o.guard.isNone && (Region.ready .any ops (lk ops.size k) == [k])) && (Region.ready .any ops (lk ops.size ops.size) == [])
theorem mix_any {rd : List Bool} (hB : mixB ops rd m = true) (hQ : ∀ c a d v w, Q (.panic c) (Act.put a d v) w → Q (.panic c) a w) :
    ∀ (l : List Oper) (k : Nat) (a : Act) (w : World), (k ≤ m → T w) → k + l.length = ops.size → (∀ j (hj : j < l.length), ops[k + j]? = some l[j]) → wpMix P ops Q T m rd k l a w → wpAnyS P .any ops Q T m l.length (lk ops.size k) a w
  | [], k, a, w, _, hl, _, h => by
    have e : k = ops.size := by simpa using hl
    subst e
    unfold mixB at hB
    simp only [Bool.and_eq_true, beq_iff_eq] at hB
    exact ⟨hB.2, h⟩
  | o :: r, k, a, w, hT, hl, ho, h => by
    have hB2 := hB
    unfold mixB at hB2
    simp only [Bool.and_eq_true, decide_eq_true_eq, List.all_eq_true, List.mem_range, beq_iff_eq] at hB2
    obtain ⟨⟨⟨hsel, hms⟩, hall⟩, hz⟩ := hB2
    simp only [List.length_cons] at hl
    have hks : k < ops.size := by omega
    have h0 := ho 0 (by simp)
    simp only [Nat.add_zero, List.getElem_cons_zero] at h0
    have hk := hall k hks
    rw [h0] at hk
    simp only at hk
    have hto : ∀ j (hj : j < r.length), ops[k + 1 + j]? = some r[j] := fun j hj => by have := ho (j + 1) (by simpa using hj); simpa [Nat.add_assoc, Nat.add_comm 1 j] using this
    unfold wpMix at h
    by_cases hrd : rd.getD k false = true
    · rw [if_pos hrd] at h hk
      obtain ⟨v, hv, hn⟩ := h
      simp only [Bool.and_eq_true, decide_eq_true_eq] at hk
      obtain ⟨⟨⟨⟨hkm, hb⟩, h2⟩, hf⟩, h4⟩ := hk
      have hTw := hT (by omega)
      refine wpAnyS_first h0 (Region.noSelect_spec hsel) (fun c a w h => hQ c a _ _ w h) (by omega) (fun om hom => ?_) _ _ a w (Region.free_spec h0 hf) ?_ (readM_yields hb hv) hTw (by rw [lk_get hms]; simp; omega) ?_
      · rw [hom] at h4
        simp only at h4
        obtain ⟨e, he, hb⟩ := Array.any_eq_true'.1 h4
        simp only [Bool.and_eq_true, beq_iff_eq] at hb
        exact ⟨e, he, hb.1, hb.2⟩
      · rw [mem_ready]
        refine ⟨by rw [lk_get hks]; simp, o, h0, fun e hem hbd => ?_⟩
        have := Array.all_eq_true_iff_forall_mem.1 h2 e hem
        simp [hbd] at this
        rw [lk_get (by omega)]
        simpa using this
      · rw [lk_set hks]
        exact mix_any hB hQ r (k + 1) _ w (fun _ => hTw) (by omega) hto hn
    · rw [if_neg hrd] at h hk
      simp only [Bool.and_eq_true, Option.isNone_iff_eq_none, beq_iff_eq] at hk
      obtain ⟨hg, hr⟩ := hk
      refine ⟨fun e => absurd (hr.symm.trans e) (by simp), fun i hi => ?_⟩
      rw [hr, List.mem_singleton] at hi
      subst hi
      unfold wpOp
      simp only [h0]
      rw [if_pos (by simp [Region.wanted, hg])]
      rcases h with h | h
      case inr => exact .inr h
      refine .inl (Oper.wp_mono (fun a' w' h' => ?_) h)
      refine ⟨fun hm => h'.1 ?_, ?_⟩
      · rw [lk_set hks, lk_get hms] at hm
        simp at hm; omega
      · rw [lk_set hks]
        exact mix_any hB hQ r (i + 1) a' w' (fun hm => h'.1 (by omega)) (by omega) hto h'.2
theorem wp_region_mix {id : Nat} {a : Act} {w : World} {l : List Oper} (rd : List Bool) (m : Nat) (T : World → Prop) (hm : P.follows .mixedOrders = true) (hB : mixB l.toArray rd m = true) (hT : T w.drew)
    (h : wpMix P l.toArray (NoPanic Q) T m rd 0 l a w.drew) : (Code.region id l.toArray true).wp P Q a w := by
  refine wp_region_noPanic ?_
  refine wp_region_any hm (wpAny_of_S (T := T) (m := m) _ _ _ _ ?_)
  rw [← lk_zero]
  have key := mix_any hB (fun _ _ _ _ _ h => h) l 0 a w.drew (fun _ => hT) (by simp) (fun j hj => by simp at hj ⊢) h
  simpa using key
/-- in another order than the text's: 0 a read, 1 a step behind which the class is kept, 2 a step behind m -/
def wpOrd (P : Program) (ops : Array Oper) (Q : Exit → Act → World → Prop) (T : World → Prop) : List Nat → List Oper → Act → World → Prop
  | 0 :: ks, o :: r, a, w => ∃ v, (∀ w, T w → o.quietAt P a T w v) ∧ wpOrd P ops Q T ks r (a.put o.dst v) w
  | 1 :: ks, o :: r, a, w => o.wp P a w (fun a' w' => T w' ∧ wpOrd P ops Q T ks r a' w') Q ∨ (o.asks P a w ∧ LetsOut Q)
  | (_ + 2) :: ks, o :: r, a, w => o.wp P a w (fun a' w' => wpOrd P ops Q T ks r a' w') Q ∨ (o.asks P a w ∧ LetsOut Q)
  | _, _, a, w => Q .normal a w
theorem wpOrd_reads {w : World} : ∀ (n : Nat) {ks : List Nat} {l : List Oper} {a : Act}, ((ks.take n).all (· == 0)) = true → n ≤ ks.length → n ≤ l.length → ((l.take n).all fun o => o.guard.isNone) = true → wpQuiet P ops T (fun a' => wpOrd P ops Q T (ks.drop n) (l.drop n) a' w) (l.take n) a → wpOrd P ops Q T ks l a w
  | 0, ks, l, a, _, _, _, _, h => by simpa [wpQuiet] using h
  | n + 1, [], l, a, _, hk, _, _, h => by simp at hk
  | n + 1, k :: ks, [], a, _, _, hl, _, h => by simp at hl
  | n + 1, k :: ks, o :: r, a, hr, hk, hl, hg, h => by
    simp only [List.take_succ_cons, List.all_cons, Bool.and_eq_true, Option.isNone_iff_eq_none, beq_iff_eq] at hg hr
    obtain ⟨rfl, hr⟩ := hr
    rw [List.take_succ_cons, List.drop_succ_cons, List.drop_succ_cons] at h
    unfold wpQuiet at h
    rw [if_pos (by simp [Region.wanted, hg.1])] at h
    obtain ⟨v, hv, hn⟩ := h
    exact ⟨v, hv, wpOrd_reads n hr (by simpa using hk) (by simpa using hl) hg.2 hn⟩
theorem wpOrd_step {ks : List Nat} {o : Oper} {r : List Oper} {a : Act} {w : World} (hs : ∀ K : Act → World → Prop, (∀ a' w', T w' → wpOrd P ops Q T ks r a' w' → K a' w') → o.wp P a w K Q) : wpOrd P ops Q T (1 :: ks) (o :: r) a w :=
  .inl (hs _ fun _ _ h1 h2 => ⟨h1, h2⟩)
theorem wpOrd_last {ks : List Nat} {o : Oper} {r : List Oper} {a : Act} {w : World} (hs : ∀ K : Act → World → Prop, (∀ a' w', wpOrd P ops Q T ks r a' w' → K a' w') → o.wp P a w K Q) : wpOrd P ops Q T (2 :: ks) (o :: r) a w :=
  .inl (hs _ fun _ _ h => h)
def ordB (ops : Array Oper) (m : Nat) : Array Bool → List Nat → List Nat → Bool
  | ls, [], [] => Region.ready .any ops ls == []
  | ls, i :: is, k :: ks => (match ops[i]? with
    | none => false
    | some o => if k == 0 then !(i == m) && !(ls.getD m false) && readM o && (Region.ready .any ops ls).contains i && Region.free .any ops ls i && (match ops[m]? with | some om => om.after.any (fun e => Region.binds .any e && e.on == i) | none => false)
      else o.guard.isNone && (Region.ready .any ops ls == [i]) && (k == 1 || (ls.setIfInBounds i true).getD m false)) && ordB ops m (ls.setIfInBounds i true) is ks
  | _, _, _ => false
theorem ord_any (hsel : Region.noSelect ops = true) (hQ : ∀ c a d v w, Q (.panic c) (Act.put a d v) w → Q (.panic c) a w) :
    ∀ (is ks : List Nat) (ls : Array Bool) (l : List Oper) (a : Act) (w : World), ordB ops m ls is ks = true → is.map (fun i => ops[i]?) = l.map some → (ls.getD m false = false → T w) → wpOrd P ops Q T ks l a w → wpAnyS P .any ops Q T m is.length ls a w
  | [], [], ls, l, a, w, hB, hl, _, h => by
    unfold ordB at hB
    simp only [beq_iff_eq] at hB
    have : l = [] := by cases l with | nil => rfl | cons o r => simp at hl
    subst this
    exact ⟨hB, h⟩
  | [], k :: ks, ls, l, a, w, hB, hl, _, h => by unfold ordB at hB; cases hB
  | i :: is, [], ls, l, a, w, hB, hl, _, h => by unfold ordB at hB; cases hB
  | i :: is, k :: ks, ls, [], a, w, hB, hl, _, h => by simp at hl
  | i :: is, k :: ks, ls, o :: r, a, w, hB, hl, hT, h => by
    simp only [List.map_cons, List.cons.injEq] at hl
    obtain ⟨h0, hl⟩ := hl
    unfold ordB at hB
    rw [h0] at hB
    simp only [Bool.and_eq_true] at hB
    obtain ⟨hk, hB⟩ := hB
    match k, hk, h with
    | 0, hk, h =>
      simp only [beq_self_eq_true, if_true, Bool.and_eq_true, Bool.not_eq_true', beq_eq_false_iff_ne] at hk
      obtain ⟨⟨⟨⟨⟨him, hlm⟩, hb⟩, hrdy⟩, hf⟩, h4⟩ := hk
      obtain ⟨v, hv, hn⟩ := h
      refine wpAnyS_first h0 (Region.noSelect_spec hsel) (fun c a w h => hQ c a _ _ w h) him (fun om hom => ?_) _ _ a w (Region.free_spec h0 hf) (by simpa using hrdy) (readM_yields hb hv) (hT hlm) hlm ?_
      · rw [hom] at h4
        simp only at h4
        obtain ⟨e, he, hb⟩ := Array.any_eq_true'.1 h4
        simp only [Bool.and_eq_true, beq_iff_eq] at hb
        exact ⟨e, he, hb.1, hb.2⟩
      · exact ord_any hsel hQ is ks _ r _ w hB hl (fun _ => hT hlm) hn
    | 1, hk, h =>
      simp only [show ((1 : Nat) == 0) = false from rfl, Bool.false_eq_true, if_false, Bool.and_eq_true, Option.isNone_iff_eq_none, beq_iff_eq] at hk
      obtain ⟨⟨hg, hr⟩, _⟩ := hk
      refine ⟨fun e => absurd (hr.symm.trans e) (by simp), fun j hj => ?_⟩
      rw [hr, List.mem_singleton] at hj
      subst hj
      unfold wpOp
      simp only [h0]
      rw [if_pos (by simp [Region.wanted, hg])]
      rcases h with h | h
      case inr => exact .inr h
      exact .inl (Oper.wp_mono (fun a' w' h' => ⟨fun _ => h'.1, ord_any hsel hQ is ks _ r a' w' hB hl (fun _ => h'.1) h'.2⟩) h)
    | k + 2, hk, h =>
      simp only [show ((k + 2 : Nat) == 0) = false from rfl, Bool.false_eq_true, if_false, Bool.and_eq_true, Option.isNone_iff_eq_none, beq_iff_eq, Bool.or_eq_true] at hk
      obtain ⟨⟨hg, hr⟩, hm2⟩ := hk
      have hm3 : (ls.setIfInBounds i true).getD m false = true := by
        rcases hm2 with h | h
        · omega
        · exact h
      refine ⟨fun e => absurd (hr.symm.trans e) (by simp), fun j hj => ?_⟩
      rw [hr, List.mem_singleton] at hj
      subst hj
      unfold wpOp
      simp only [h0]
      rw [if_pos (by simp [Region.wanted, hg])]
      rcases h with h | h
      case inr => exact .inr h
      exact .inl (Oper.wp_mono (fun a' w' h' => ⟨fun e => absurd e (by rw [hm3]; simp), ord_any hsel hQ is ks _ r a' w' hB hl (fun e => absurd e (by rw [hm3]; simp)) h'⟩) h)
theorem wp_region_ord {id : Nat} {a : Act} {w : World} {l : List Oper} (is ks : List Nat) (m : Nat) (l' : List Oper → List Oper) (T : World → Prop) (hm : P.follows .mixedOrders = true) (hB : (Region.noSelect l.toArray && decide (is.length = l.length) && ordB l.toArray m (Array.replicate l.length false) is ks) = true) (hl : is.map (fun i => l.toArray[i]?) = (l' l).map some) (hT : T w.drew)
    (h : wpOrd P l.toArray (NoPanic Q) T ks (l' l) a w.drew) : (Code.region id l.toArray true).wp P Q a w := by
  refine wp_region_noPanic ?_
  refine wp_region_any hm (wpAny_of_S (T := T) (m := m) _ _ _ _ ?_)
  simp only [Bool.and_eq_true, decide_eq_true_eq] at hB
  obtain ⟨⟨hsel, hlen⟩, hB⟩ := hB
  have key := ord_any (Q := NoPanic Q) (T := T) hsel (fun _ _ _ _ _ h => h) is ks _ (l' l) a w.drew hB hl (fun _ => hT) h
  rw [hlen] at key
  simpa using key
end
end Go.Proofs.YtiadkchlkdaceaaGreat

namespace Go.Proofs.YtiadkchlkdaceaaGreat
open Go.RowKit Go.Deep
set_option maxRecDepth 100000
set_option linter.unusedVariables false
theorem info2Shp : (Tryz.prog.info? 80).map (fun i => (i.zero, i.size, i.bytes)) = some (some (.pointer none), 1, 8) := by kernel_rfl
theorem good_own {o : Objs} (h : Good o) {k : Nat} (hk : k < o.tables.length) : tabAt o.tables o.tables[k].schema o.tables[k].name = k := by
  refine idxP_some _ _ k hk (by simp only [Bool.and_eq_true]; exact ⟨eqS_refl _, eqS_refl _⟩) fun i hi => ?_
  rw [Bool.eq_false_iff]
  intro e
  simp only [Bool.and_eq_true] at e
  have h1 := rises_lt preTb.tr h.rt i k (by omega) hk hi
  have h2 : cmpTb (o.tables[i]'(by omega)) o.tables[k] = 0 := cmpTb_zero.2 ⟨(eqS_iff9 _ _).1 e.1, (eqS_iff9 _ _).1 e.2⟩
  omega
/-- what a load leaves -/
def LoadQ (w : World) (B s : Nat) (hl : Hd) (L : List OShf) (r : List Shf × Int) (e : Ending) (w' : World) : Prop :=
  ∃ hl' L', storeS L' = r.1 ∧ e = .returned (.int .i64 r.2) ∧ Kb (fun g => g = s) w w' ∧ StoIn w' B s hl' L' ∧ ∀ g ∈ hl'.blk ++ L'.flatMap OShf.blks, g ∈ stoBlks s hl L ∨ w.heap.size ≤ g
theorem loadQ_no {w w' : World} {B s : Nat} {hl : Hd} {L : List OShf} (hin : StoIn w B s hl L) (a : Aft w w') (c : Int) : LoadQ w B s hl L (storeS L, c) (.returned (.int .i64 c)) w' :=
  ⟨hl, L, rfl, rfl, Kb.of_aft a, hin.aft a, fun g hg => .inl (List.mem_cons_of_mem _ hg)⟩
theorem loadQ_yes {w w' : World} {B s : Nat} {hl h : Hd} {L Ln : List OShf} {S : List Shf} (hin : StoIn w' B s h Ln) (e : Ln.map OShf.s = S) (k : Kb (fun g => g = s) w w') (hb : ∀ g ∈ h.blk ++ Ln.flatMap OShf.blks, g ∈ stoBlks s hl L ∨ w.heap.size ≤ g) : LoadQ w B s hl L (S, 0) (.returned (.int .i64 0)) w' :=
  ⟨h, Ln, e, rfl, k, hin, hb⟩
set_option maxHeartbeats 8000000 in
theorem load12 (B s : Nat) (hl : Hd) (L : List OShf) (ss : List Sch) (o : Objs) (As : Option Addr) (caps : Nat) (At : Option Addr) (capt : Nat) (w : World) (hin : StoIn w B s hl L) (ok : SOk (storeS L) ss) (sm : ∀ y ∈ L, SmT y.x.t) (hsch : SlAt w 2 SchR As caps o.schemas) (htab : SlAt w 5 TabR At capt o.tables) :
    Calls Tryz.prog 8 #[.pointer (some ⟨s, 0, none⟩), .agg #[.slice As o.schemas.length caps, .slice At o.tables.length capt]] w (LoadQ w B s hl L (loadS (storeS L) o)) := by
  obtain ⟨i0, hi, hz0, hz1, hz2⟩ := info_parts info2Shp
  obtain ⟨i1, hj, hy0, hy1, hy2⟩ := info_parts info2Row
  have HI := Lib.hid hi
  have HZ0 := Lib.hid hz0
  have HZ1 := Lib.hid hz1
  have HZ2 := Lib.hid hz2
  have HJ := Lib.hid hj
  have HY0 := Lib.hid hy0
  have HY1 := Lib.hid hy1
  have HY2 := Lib.hid hy2
  clear hi hz0 hz1 hz2 hj hy0 hy1 hy2
  obtain ⟨D, hD⟩ : ∃ D, loadS (storeS L) o = D := ⟨_, rfl⟩
  have HD := Lib.hid (show D = if checkO o then (o.tables.map (turnS (storeS L)), 0) else (storeS L, 63) from hD.symm)
  rw [hD]
  clear hD
  have HSM := Lib.hid (sm_tabs htab)
  have CK := Lib.hid (show ∀ V, Aft w V → Calls Tryz.prog 23 #[.agg #[.slice As o.schemas.length caps, .slice At o.tables.length capt]] V fun e w' => e = .returned (.int .i64 (checkE o)) ∧ Aft V w' from fun V a => check_any o As caps At capt V (schs_aft a hsch) (tabs_aft a htab))
  have CF := Lib.hid (show ∀ V, Aft w V → ∀ sc n, Calls Tryz.prog 25 #[.pointer (some ⟨s, 0, none⟩), .string sc, .string n] V fun e w' => e = .returned (ptrV (L.map (·.p)) (shfAt (storeS L) sc n)) ∧ V = w' from fun V a sc n => find12 s (L.map (·.p)) (storeS L) sc n V ((hin.aft a).is ok sm))
  have CO := Lib.hid (show ∀ V, Aft w V → ∀ sc n, Calls Tryz.prog 24 #[.agg #[.slice As o.schemas.length caps, .slice At o.tables.length capt], .string sc, .string n] V (FindP V (findR o sc n)) from fun V a sc n => find_in o As caps At capt sc n V (schs_aft a hsch) (tabs_aft a htab))
  have PA := Lib.hid (show ∀ y ∈ L, Parted w y from fun y hy => parted hin ok sm hy)
  have HIN := Lib.hid hin
  have HOK := Lib.hid ok
  have HT := Lib.hid htab
  have hlen2 := htab.len
  obtain ⟨W, hW⟩ : ∃ W, W = w.alloc (.cells #[.slice As o.schemas.length caps, .slice At o.tables.length capt] 29) := ⟨_, rfl⟩
  have aW : Aft w W := by rw [hW]; exact (Aft.refl w).alloc _
  have rW : RowAt W w.heap.size [.slice As o.schemas.length caps, .slice At o.tables.length capt] := by rw [hW]; exact box_row2 (Aft.refl _)
  have HAW := Lib.hid aW
  have KF := Lib.hid (show ∀ V, Aft W V → (V.cell? ⟨w.heap.size, 0, none⟩ = some (.slice As o.schemas.length caps) ∧ V.cell? ⟨w.heap.size, 1, none⟩ = some (.slice At o.tables.length capt) ∧ w.heap.size < V.heap.size) from fun V a => by
    have r := rW.aft a
    exact ⟨r.cell (j := 0) rfl, r.cell (j := 1) rfl, r.1⟩)
  obtain ⟨q0, q1, qz⟩ := KF.out W (Aft.refl W)
  clear aW rW hin ok sm hsch htab
  go_enter Tryz.func8, Tryz.ntmps8
  go_wp2_with fail
  rw [← hW]
  clear hW
  go_wp2_with fail
  refine (CK.out W HAW.out).mono ?_
  rintro e X ⟨rfl, aX⟩
  have HAX := Lib.hid (HAW.out.trans aX)
  have HWX := Lib.hid aX
  clear q0 q1 qz CK
  obtain ⟨q0, q1, qz⟩ := KF.out X aX
  clear aX
  by_cases hck : checkO o = true
  · rw [show checkE o = 0 by unfold checkE; rw [if_pos hck]]
    have HG := Lib.hid ((good_iff o).1 hck)
    have HCK := Lib.hid hck
    have HDD := Lib.hid (show D = (o.tables.map (turnS (storeS L)), 0) from HD.out.trans (if_pos hck))
    clear hck
    have hnt := HG.out.nt
    go_wp2_with fail
    go_loopw [6, 27] (fun v i wr => ∃ (k : Nat) (h : Hd) (Ln : List OShf), k ≤ o.tables.length ∧ i = .int .i64 k ∧ v = .slice h.a k h.c ∧ Ln.map OShf.s = (o.tables.take k).map (turnS (storeS L)) ∧ Aft X wr ∧ ShsIn wr X.heap.size h Ln) (fun _ i _ => o.tables.length - (intOf i).toNat)
    case atStart => exact ⟨0, ⟨none, 0, 0⟩, [], Nat.zero_le _, rfl, rfl, rfl, Aft.refl _, ShsIn.nil _ _⟩
    case round =>
      obtain ⟨k, h, Ln, hk, rfl, rfl, hLn, ha, hsn⟩ := hrel
      have HA := Lib.hid ha
      have HSN := Lib.hid hsn
      have HLN := Lib.hid hLn
      have HLL := Lib.hid (show Ln.length = k by have := congrArg List.length hLn; simpa [Nat.min_eq_left hk] using this)
      clear ha hsn hLn q0 q1 qz
      by_cases hlt : k < o.tables.length
      · obtain ⟨b, off, A2, cap2, A3, cap3, rfl, hb, t0, t1, t2, t3, t4, hcols, hruls, hss⟩ := tab_at (tabs_aft (HAX.out.trans HA.out) HT.out) hlt
        have HFR := Lib.hid (findR_some HCK.out (good_own HG.out hlt) hlt)
        have HPM := Lib.hid (show o.tables[k] ∈ o.tables from List.getElem_mem hlt)
        obtain ⟨p, hpp⟩ : ∃ p, o.tables[k] = p := ⟨_, rfl⟩
        rw [hpp] at t0 t1 t2 t3 t4 hcols hruls hss HFR HPM
        have HPP := Lib.hid hpp
        obtain ⟨V0, hV0⟩ : ∃ V0, V0 = wr := ⟨_, rfl⟩
        subst hV0
        obtain ⟨V1, hV1⟩ : ∃ V1, V1 = V0.alloc (.cells #[.string p.schema, .string p.name, .string p.owner, .slice A2 p.cols.length cap2, .slice A3 p.rules.length cap3] 76) := ⟨_, rfl⟩
        have a1 : Aft V0 V1 := by rw [hV1]; exact (Aft.refl _).alloc _
        have r1 : RowAt V1 V0.heap.size [.string p.schema, .string p.name, .string p.owner, .slice A2 p.cols.length cap2, .slice A3 p.rules.length cap3] := by rw [hV1]; exact box_row2 (Aft.refl _)
        have KT := Lib.hid (show ∀ V, Aft V1 V → (V.cell? ⟨V0.heap.size, 0, none⟩ = some (.string p.schema) ∧ V.cell? ⟨V0.heap.size, 1, none⟩ = some (.string p.name) ∧ V0.heap.size < V.heap.size) from fun V a => by
          have r := r1.aft a
          exact ⟨r.cell (j := 0) rfl, r.cell (j := 1) rfl, r.1⟩)
        have HA1 := Lib.hid a1
        have zlt : V0.heap.size < V0.heap.size + 1 := by omega
        have zw : X.heap.size ≤ V0.heap.size := HA.out.size
        obtain ⟨q0, q1, qz⟩ := KF.out V0 (HWX.out.trans HA.out)
        have CO1 := Lib.hid (CO.out V1 (HAX.out.trans (HA.out.trans a1)) p.schema p.name)
        rw [HFR.out] at CO1
        clear a1 r1 hpp hcols hruls hss
        go_wp2_with fail
        rw [← hV1]
        clear hV1
        refine CO1.out.mono ?_
        rintro e V3 ⟨x, hx, rfl, a3, tx, hxn⟩
        dsimp only
        have HA3 := Lib.hid (HA1.out.trans a3)
        have H13 := Lib.hid a3
        have HTX := Lib.hid tx
        have HXN := Lib.hid hxn
        have HX := Lib.hid (show x.t = p from hx)
        obtain ⟨u0, u1, uz⟩ := KT.out V3 a3
        clear q0 q1 qz t0 t1 t2 t3 t4 hb a3 tx hxn hx CO1
        go_wp2_with fail
        obtain ⟨V4, hV4⟩ : ∃ V4, V4 = V3.alloc (.cells #[.string p.schema, .string p.name, .string p.owner, .slice x.hc.a p.cols.length x.hc.c, .slice x.hr.a p.rules.length x.hr.c] 76) := ⟨_, rfl⟩
        have z4 : V4.heap.size = V3.heap.size + 1 := by rw [hV4]; simp
        have a4 : Aft V3 V4 := by rw [hV4]; exact (Aft.refl _).alloc _
        have r4 : RowAt V4 V3.heap.size [.string p.schema, .string p.name, .string p.owner, .slice x.hc.a p.cols.length x.hc.c, .slice x.hr.a p.rules.length x.hr.c] := by rw [hV4]; exact box_row2 (Aft.refl _)
        obtain ⟨V5, hV5⟩ : ∃ V5, V5 = V4.alloc (.cells #[.string p.schema, .string p.name, .string p.owner, .slice x.hc.a p.cols.length x.hc.c, .slice x.hr.a p.rules.length x.hr.c, .slice none 0 0] 82) := ⟨_, rfl⟩
        have a5 : Aft V4 V5 := by rw [hV5]; exact (Aft.refl _).alloc _
        have r5 : RowAt V5 V4.heap.size [.string p.schema, .string p.name, .string p.owner, .slice x.hc.a p.cols.length x.hc.c, .slice x.hr.a p.rules.length x.hr.c, .slice none 0 0] := by rw [hV5]; exact box_row2 (Aft.refl _)
        have b5 : V5.heap[V4.heap.size]? = some (.cells #[.string p.schema, .string p.name, .string p.owner, .slice x.hc.a p.cols.length x.hc.c, .slice x.hr.a p.rules.length x.hr.c, .slice none 0 0] 82 (0, 0)) := by rw [hV5]; exact heap_alloc_new V4 _
        have zV3 := H13.out.size
        have zV1 := HA1.out.size
        have HR4 := Lib.hid r4
        have H45 := Lib.hid a5
        have HA4 := Lib.hid (HA3.out.trans a4)
        have HA5 := Lib.hid (HA3.out.trans (a4.trans a5))
        have HV4 := Lib.hid z4
        have hsh : ShfIn V5 V0.heap.size ⟨V3.heap.size + 1, x, [], ⟨none, 0, 0⟩⟩ := by
          refine ⟨by show V0.heap.size ≤ V3.heap.size + 1; omega, ⟨_, _, by rw [← z4]; exact b5⟩, ?_, (HTX.out.aft (a4.trans a5)).down zV1, rowsIn_nil _ _⟩
          have e := r5
          rw [z4] at e
          unfold OShf.cells
          rw [OTab.cells_of HTX.out HX.out]
          exact e
        have hsn5 : (OShf.blks ⟨V3.heap.size + 1, x, [], ⟨none, 0, 0⟩⟩).Nodup := by
          unfold OShf.blks OShf.rblk
          rw [blk_nil, List.flatMap_nil, List.append_nil, List.append_nil]
          exact List.nodup_cons.2 ⟨fun h => by have h2 : V3.heap.size + 1 < V3.heap.size := (HTX.out.lt _ h).2; omega, HXN.out⟩
        have HSH := Lib.hid hsh
        have HSN5 := Lib.hid hsn5
        have CF5 := Lib.hid (CF.out V5 (HAX.out.trans (HA.out.trans HA5.out)) p.schema p.name)
        rw [← hV4, ← hV5]
        clear hV4 hV5 a4 a5 r4 r5 b5 z4 hsh hsn5 u0 u1 uz
        refine CF5.out.mono ?_
        rintro e V6 ⟨rfl, rfl⟩
        clear CF5
        obtain ⟨j, hj⟩ : ∃ j, shfAt (storeS L) p.schema p.name = j := ⟨_, rfl⟩
        rw [hj]
        have hjr : -1 ≤ j ∧ j < L.length := by
          have := idxP_range (fun y : Shf => eqS y.t.schema p.schema && eqS y.t.name p.name) (storeS L)
          rw [← hj]
          unfold shfAt
          simpa [storeS] using this
        by_cases hj0 : j < 0
        · have ej : j = -1 := by omega
          subst ej
          have HTS := Lib.hid (show OShf.s ⟨V3.heap.size + 1, x, [], ⟨none, 0, 0⟩⟩ = turnS (storeS L) p by unfold OShf.s turnS; rw [hj, if_pos hj0]; show Shf.mk x.t _ = _; rw [HX.out]; rfl)
          rw [ptrV_no]
          clear hj hjr hj0
          go_wp2_with (at_builtin; refine wpList_append_own2 _ rfl (.tmp 83) (.tmp 85) 70 rfl X.heap.size 80 i0 (.pointer none) 1 8 Tryz.underlying70 HI.out HZ0.out HZ1.out HZ2.out rfl (by decide) (.slice h.a k h.c) k (Ln.flatMap ptrC) rfl ?c6 (some ⟨V5.heap.size, 0, none⟩) 1 1 [.pointer (some ⟨V3.heap.size + 1, 0, none⟩)] rfl rfl ?c0 ?c1 ?c2 ?c3 ?c4 ?c5 ?_)
          case c6 =>
            have := own_aft HSN.out.lst (HA5.out.alloc (.cells #[.pointer (some ⟨V3.heap.size + 1, 0, none⟩)] 80))
            rw [own_slice HSN.out.lst, HLL.out] at this
            exact this
          case c0 => intro h; cases h
          case c1 =>
            intro ad had j u hj
            injection had with had; subst had
            rw [add_mk, Nat.zero_add]; exact (World.cell?_alloc_at _ _ _ _ rfl).trans (by simpa using hj)
          case c2 => intro u hu; simp only [List.mem_cons, List.not_mem_nil, or_false] at hu; subst hu; simp [Value.oneCell']
          case c3 => unfold maxLen; omega
          case c4 => omega
          case c5 => have := HA5.out.size; simp; omega
          intro A' cap' w5 hown' hgrow hblk
          have e0 : h.v = .slice h.a k h.c := by rw [own_slice HSN.out.lst, HLL.out]
          have HP := Lib.hid (show ShsIn w5 X.heap.size ⟨A', k + 1, cap'⟩ (Ln ++ [(⟨V3.heap.size + 1, x, [], ⟨none, 0, 0⟩⟩ : OShf)]) from HSN.out.push (ob := .cells #[.pointer (some ⟨V3.heap.size + 1, 0, none⟩)] 80) HA5.out HSH.out HSN5.out zw (by rw [HLL.out]) (by rw [e0]; exact hgrow) hown' (by rw [e0]; intro g hg; simpa using hblk g hg))
          have HA5 := Lib.hid (show Aft X w5 from aft_grown (by rw [← e0]; exact own_aft HSN.out.lst (HA5.out.alloc _)) ((HA.out.trans HA5.out).alloc _) hgrow)
          have HT2 := Lib.hid (show (Ln ++ [(⟨V3.heap.size + 1, x, [], ⟨none, 0, 0⟩⟩ : OShf)]).map OShf.s = (o.tables.take (k + 1)).map (turnS (storeS L)) by rw [List.map_append, HLN.out, List.take_succ_eq_append_getElem hlt, List.map_append, HPP.out, List.map_cons, List.map_nil, List.map_cons, List.map_nil, HTS.out])
          clear hown' hgrow hblk e0
          go_wp2_with fail
          go_roundw
          case rel => exact ⟨k + 1, ⟨A', k + 1, cap'⟩, _, by omega, by go_num, rfl, HT2.out, HA5.out, HP.out⟩
          case measure => simp [intOf]; omega
        · obtain ⟨q, rfl⟩ : ∃ q : Nat, j = q := ⟨j.toNat, by omega⟩
          have hq : q < L.length := by omega
          have hsq : shfN (storeS L) q = L[q].s := by rw [shfN_get (by simpa [storeS] using hq)]; simp [storeS]
          have PY := PA.out L[q] (List.getElem_mem hq)
          have hyok := HOK.out.tab (x := L[q].s) (List.mem_map_of_mem (List.getElem_mem hq))
          rw [ptrV_at (by simpa using hq), List.getElem_map]
          obtain ⟨y, hy⟩ : ∃ y, L[q] = y := ⟨_, rfl⟩
          rw [hy] at hsq PY hyok ⊢
          have HTS := Lib.hid (show turnS (storeS L) p = ⟨p, (y.rows.map (·.vals)).map (turnVs y.x.t.cols p.cols)⟩ by unfold turnS; rw [hj, if_neg hj0, Int.toNat_natCast, hsq]; rfl)
          have HPY := Lib.hid PY
          have HCY := Lib.hid (show colsOk y.x.t.cols = true from hyok.cols)
          have HCP := Lib.hid ((HG.out.tab p HPM.out).cols)
          have HSP := Lib.hid (HSM.out.2 p HPM.out)
          have ry := PY.row.aft (HAX.out.trans (HA.out.trans HA5.out))
          have y5 := ry.cell (j := 5) rfl
          have yz := ry.1
          have hyl := PY.most
          have zwY : y.p < w.heap.size := PY.row.1
          clear hj hjr hj0 hsq hyok hy ry PY
          have HTP := Lib.hid (show ∀ r ∈ y.rows, turnC y.x.t.cols p.cols r.vals = 0 from fun r hr => turnC_0 HCY.out HCP.out (HPY.out.form r hr))
          have hn2 : V3.heap.size < V5.heap.size := (HR4.out.aft H45.out).1
          go_wp2_with fail
          go_loopw [56] (fun i wr => ∃ (k2 : Nat) (R : List ORow) (h2 : Hd), k2 ≤ y.rows.length ∧ i = .int .i64 k2 ∧ (∀ g ∈ h2.blk, V4.heap.size ≤ g) ∧ Aft V4 wr ∧ ShfIn wr V0.heap.size ⟨V3.heap.size + 1, x, R, h2⟩ ∧ (OShf.blks ⟨V3.heap.size + 1, x, R, h2⟩).Nodup ∧ R.map ORow.vals = ((y.rows.take k2).map (·.vals)).map (turnVs y.x.t.cols p.cols)) (fun i _ => y.rows.length - (intOf i).toNat)
          case atStart => exact ⟨0, [], ⟨none, 0, 0⟩, Nat.zero_le _, rfl, by simp [blk_nil], H45.out, HSH.out, HSN5.out, rfl⟩
          case round =>
            obtain ⟨k2, R, h2, hk2, rfl, hb2, ha2, hs2, hn2, hR2⟩ := hrel
            have HBK := Lib.hid hb2
            have HB2 := Lib.hid ha2
            have HS2 := Lib.hid hs2
            have HN2 := Lib.hid hn2
            have HR2 := Lib.hid hR2
            have HL2 := Lib.hid (show R.length = k2 by have := congrArg List.length hR2; simpa [Nat.min_eq_left hk2] using this)
            have HAV := Lib.hid (HA4.out.trans ha2)
            clear hb2 ha2 hs2 hn2 hR2 y5 yz
            by_cases hlt2 : k2 < y.rows.length
            · obtain ⟨b8, off8, hA8, hb8, c8, hv8⟩ := orow_at (orows_aft (HAX.out.trans (HA.out.trans HAV.out)) HPY.out.rows) hlt2
              rw [hA8]
              have HTC := Lib.hid (HTP.out _ (List.getElem_mem hlt2))
              have HTV := Lib.hid (turned_yes HTC.out)
              have HRT := Lib.hid (show (y.rows.take (k2 + 1)).map (·.vals) = (y.rows.take k2).map (·.vals) ++ [y.rows[k2].vals] by rw [List.take_succ_eq_append_getElem hlt2, List.map_append]; rfl)
              obtain ⟨u, hu⟩ : ∃ u, y.rows[k2] = u := ⟨_, rfl⟩
              rw [hu] at c8 hv8 HTC HTV HRT
              have CT := Lib.hid (show ∀ V, Aft wr V → Calls Tryz.prog 26 #[.slice y.x.hc.a y.x.t.cols.length y.x.hc.c, .slice x.hc.a p.cols.length x.hc.c, .slice u.h.a u.vals.length u.h.c] V (TurnP V (turnVs y.x.t.cols p.cols u.vals) 0) from fun V a => by
                have hcx : SlAt V 3 ColR x.hc.a x.hc.c p.cols := by
                  have := (HS2.out.tab.aft a).cols (by rw [show OTab.t _ = p from HX.out]; exact HSP.out)
                  have e : x.cols = p.cols := by rw [← HX.out]; rfl
                  rw [← e]; exact this
                have h1 := turn_any y.x.t.cols p.cols u.vals y.x.hc.a y.x.hc.c x.hc.a x.hc.c u.h.a u.h.c V (cols_aft (HAX.out.trans (HA.out.trans (HAV.out.trans a))) HPY.out.cols) hcx (vals_aft a hv8)
                rw [HTV.out, HTC.out] at h1
                exact h1)
              have ry := HPY.out.row.aft (HAX.out.trans (HA.out.trans HAV.out))
              have y3 := ry.cell (j := 3) rfl
              have yz := ry.1
              have r9 := (HR4.out.aft HB2.out).cell (j := 3) rfl
              have rz := (HR4.out.aft HB2.out).1
              clear hA8 hu hv8 ry
              go_wp2_with fail
              refine wp_region_mix [true, true, true, true, true, true, true, true, false, true, true, true, true, false] 13 (fun w' => ∃ x : Lat wr, w' = lat wr x) (by kernel_rfl) (by kernel_rfl) ((Aft.refl wr).drew).to ?_
              refine wpMix_reads 8 rfl rfl ?_
              simp only [List.take_succ_cons, List.take_zero, List.drop_succ_cons, List.drop_zero]
              repeat (go_big_quiet_step (fail))
              refine wpQuiet_nil ?_
              refine wpMix_step rfl (fun K hK => ?_)
              go_simp
              obtain ⟨D9, hD9⟩ : ∃ D9, D9 = wr.drew := ⟨_, rfl⟩
              have aD : Aft wr D9 := by rw [hD9]; exact (Aft.refl wr).drew
              rw [← hD9]
              go_at_call 26
              refine (CT.out D9 aD).mono ?_
              rintro e Z ⟨v9, rfl, aZ, ho9⟩
              dsimp only
              refine hK _ _ (fun _ => (aD.trans aZ).to) ?_
              clear hK K hD9
              refine wpMix_reads 4 rfl rfl ?_
              simp only [List.take_succ_cons, List.take_zero, List.drop_succ_cons, List.drop_zero]
              repeat (go_big_quiet_step (fail))
              refine wpQuiet_nil ?_
              refine wpMix_step rfl (fun K hK => ?_)
              go_simp
              refine hK _ _ (fun h => absurd h (by decide)) ?_
              clear hK K
              have HZ := Lib.hid (aD.trans aZ)
              obtain ⟨h9, rfl, hn9⟩ := own_head ho9
              have HO9 := Lib.hid (own_down ho9 aD.size)
              clear ho9 aD aZ CT c8 y3 yz r9 rz hb8
              refine NoPanic.normal ?_
              obtain ⟨n9, hn9⟩ : ∃ n9, (turnVs y.x.t.cols p.cols u.vals).length = n9 := ⟨_, rfl⟩
              have e9 : h9.v = .slice h9.a n9 h9.c := by rw [← hn9]; exact own_slice HO9.out
              have HE9 := Lib.hid e9
              rw [e9]
              clear e9 hn9
              have rsh := HS2.out.row.aft HZ.out
              unfold OShf.cells at rsh
              rw [OTab.cells_of (HS2.out.tab) HX.out, own_slice HS2.out.rows.own] at rsh
              simp only [HL2.out] at rsh
              have e5 : Z.cell? ⟨V3.heap.size + 1, 5, none⟩ = some (.slice h2.a k2 h2.c) := rsh.cell (j := 5) rfl
              have ez : V3.heap.size + 1 < Z.heap.size := rsh.1
              have HRSH := Lib.hid rsh
              have e0 : h2.v = .slice h2.a k2 h2.c := by have := own_slice HS2.out.rows.own; simp only [HL2.out] at this; exact this
              have HE0 := Lib.hid e0
              have ow2 : Z.ownsRow V0.heap.size 34 1 (.slice h2.a k2 h2.c) k2 (R.flatMap ORow.cells) := by
                have := own_aft HS2.out.rows.own HZ.out
                simp only [HL2.out] at this
                rw [e0] at this
                exact this
              have HOW2 := Lib.hid ow2
              have zV := HAV.out.size
              have zZ := HZ.out.size
              clear rsh e0 ow2
              go_wp2_with (at_builtin; refine wpList_append_own2 _ rfl (.tmp 76) (.tmp 78) 47 rfl V0.heap.size 34 i1 (.slice none 0 0) 1 24 Tryz.underlying47 HJ.out HY0.out HY1.out HY2.out rfl (by decide) (.slice h2.a k2 h2.c) k2 (R.flatMap ORow.cells) rfl (own_aft HOW2.out ((Aft.refl _).alloc _)) (some ⟨Z.heap.size, 0, none⟩) 1 1 [.slice h9.a n9 h9.c] rfl rfl ?c0 ?c1 ?c2 ?c3 ?c4 ?c5 ?_)
              case c0 => intro h; cases h
              case c1 =>
                intro ad had j u hj
                injection had with had; subst had
                rw [add_mk, Nat.zero_add]; exact (World.cell?_alloc_at _ _ _ _ rfl).trans (by simpa using hj)
              case c2 => intro u hu; simp only [List.mem_cons, List.not_mem_nil, or_false] at hu; subst hu; simp [Value.oneCell']
              case c3 => unfold maxLen; omega
              case c4 => omega
              case c5 => simp; omega
              intro A' cap' w5 hown' hgrow hblk
              have hnp : ¬ (Value.slice h2.a k2 h2.c).ownBlock = some (V3.heap.size + 1) := fun e => by
                have h1 := HN2.out
                unfold OShf.blks OShf.rblk at h1
                refine (List.nodup_cons.1 h1).1 (List.mem_append.2 (.inr (List.mem_append.2 (.inl (Hd.mem_blk.2 ?_)))))
                rw [HE0.out]; exact e
              have r5 := (Kb.of_grown hgrow).row (HRSH.out.aft ((Aft.refl _).alloc _)) hnp
              have f5 : w5.frozen? ⟨V3.heap.size + 1, 5, none⟩ = false := r5.2.2 5 (by simp)
              have g5 : w5.cell? ⟨V3.heap.size + 1, 5, none⟩ = some (.slice h2.a k2 h2.c) := r5.cell (j := 5) rfl
              have z5 := r5.1
              have HPU := Lib.hid (HS2.out.push (o := ⟨turnVs y.x.t.cols p.cols u.vals, h9⟩) (n := k2 + 1) (A' := A') (cap' := cap') (w5 := w5) (ob := .cells #[.slice h9.a n9 h9.c] 34) HN2.out HZ.out HO9.out (by omega) (by rw [HL2.out]) (by rw [HE0.out]; exact hgrow) (by rw [HE9.out]; exact hown') (by rw [HE0.out]; intro g hg; simpa using hblk g hg))
              have aZ4 : Aft V4 Z := HB2.out.trans HZ.out
              have aw5 : Aft V4 w5 := aft_grown (own_base (own_aft HOW2.out ((Aft.refl Z).alloc (.cells #[.slice h9.a n9 h9.c] 34))) fun g hg => HBK.out g (Hd.mem_blk.2 (by rw [HE0.out]; exact hg))) (aZ4.alloc _) hgrow
              have HA9 := Lib.hid (show Aft V4 (w5.setCell ⟨V3.heap.size + 1, 5, none⟩ (.slice A' (k2 + 1) cap')) from aw5.setCell _ _ (by rw [HV4.out]; exact Nat.le_refl _))
              have z4Z := aZ4.size
              have HBK2 := Lib.hid (show ∀ g ∈ (Hd.mk A' (k2 + 1) cap').blk, V4.heap.size ≤ g from fun g hg => by
                rcases hblk g hg with h | h
                · exact HBK.out g (Hd.mem_blk.2 (by rw [HE0.out]; exact h))
                · omega)
              have HR9 := Lib.hid (show (R ++ [(⟨turnVs y.x.t.cols p.cols u.vals, h9⟩ : ORow)]).map ORow.vals = ((y.rows.take (k2 + 1)).map (·.vals)).map (turnVs y.x.t.cols p.cols) by rw [List.map_append, HR2.out, HRT.out, List.map_append]; rfl)
              clear hown' hgrow hblk hnp r5 e5 ez aZ4 aw5
              go_wp2_with fail
              go_roundw
              case rel => exact ⟨k2 + 1, _, ⟨A', k2 + 1, cap'⟩, by omega, by go_num, HBK2.out, HA9.out, HPU.out.1, HPU.out.2, HR9.out⟩
              case measure => simp [intOf]; omega
            · have e1 : y.rows.take k2 = y.rows := List.take_of_length_le (by omega)
              have HTS2 := Lib.hid (show OShf.s ⟨V3.heap.size + 1, x, R, h2⟩ = turnS (storeS L) p by
                rw [HTS.out]
                unfold OShf.s
                show Shf.mk x.t (R.map _) = _
                rw [HX.out, HR2.out, e1])
              clear e1
              go_wp2_with (at_builtin; refine wpList_append_own2 _ rfl (.tmp 83) (.tmp 85) 70 rfl X.heap.size 80 i0 (.pointer none) 1 8 Tryz.underlying70 HI.out HZ0.out HZ1.out HZ2.out rfl (by decide) (.slice h.a k h.c) k (Ln.flatMap ptrC) rfl ?c6 (some ⟨wr.heap.size, 0, none⟩) 1 1 [.pointer (some ⟨V3.heap.size + 1, 0, none⟩)] rfl rfl ?c0 ?c1 ?c2 ?c3 ?c4 ?c5 ?_)
              case c6 =>
                have := own_aft HSN.out.lst (HAV.out.alloc (.cells #[.pointer (some ⟨V3.heap.size + 1, 0, none⟩)] 80))
                rw [own_slice HSN.out.lst, HLL.out] at this
                exact this
              case c0 => intro h; cases h
              case c1 =>
                intro ad had j u hj
                injection had with had; subst had
                rw [add_mk, Nat.zero_add]; exact (World.cell?_alloc_at _ _ _ _ rfl).trans (by simpa using hj)
              case c2 => intro u hu; simp only [List.mem_cons, List.not_mem_nil, or_false] at hu; subst hu; simp [Value.oneCell']
              case c3 => unfold maxLen; omega
              case c4 => omega
              case c5 => have := HAV.out.size; simp; omega
              intro A' cap' w5 hown' hgrow hblk
              have e0 : h.v = .slice h.a k h.c := by rw [own_slice HSN.out.lst, HLL.out]
              have HP := Lib.hid (show ShsIn w5 X.heap.size ⟨A', k + 1, cap'⟩ (Ln ++ [(⟨V3.heap.size + 1, x, R, h2⟩ : OShf)]) from HSN.out.push (ob := .cells #[.pointer (some ⟨V3.heap.size + 1, 0, none⟩)] 80) HAV.out HS2.out HN2.out zw (by rw [HLL.out]) (by rw [e0]; exact hgrow) hown' (by rw [e0]; intro g hg; simpa using hblk g hg))
              have HA5 := Lib.hid (show Aft X w5 from aft_grown (by rw [← e0]; exact own_aft HSN.out.lst (HAV.out.alloc _)) ((HA.out.trans HAV.out).alloc _) hgrow)
              have HT2 := Lib.hid (show (Ln ++ [(⟨V3.heap.size + 1, x, R, h2⟩ : OShf)]).map OShf.s = (o.tables.take (k + 1)).map (turnS (storeS L)) by rw [List.map_append, HLN.out, List.take_succ_eq_append_getElem hlt, List.map_append, HPP.out, List.map_cons, List.map_nil, List.map_cons, List.map_nil, HTS2.out])
              clear hown' hgrow hblk e0
              go_wp2_with fail
              go_roundw
              case rel => exact ⟨k + 1, ⟨A', k + 1, cap'⟩, _, by omega, by go_num, rfl, HT2.out, HA5.out, HP.out⟩
              case measure => simp [intOf]; omega
      · have e1 : o.tables.take k = o.tables := List.take_of_length_le (by omega)
        have HFI := Lib.hid (show Ln.map OShf.s = o.tables.map (turnS (storeS L)) by rw [HLN.out, e1])
        have rs := HIN.out.row.aft (HAX.out.trans HA.out)
        have s0 := rs.cell (j := 0) rfl
        have sf : wr.frozen? ⟨s, 0, none⟩ = false := rs.2.2 0 (by simp)
        have sz := rs.1
        have HRS := Lib.hid rs
        have hsw : s < w.heap.size := HIN.out.row.1
        have hBs := HIN.out.ge
        have zX := HAX.out.size
        clear e1 rs
        go_wp2_with fail
        go_ret
        rw [HDD.out]
        have hlt := HSN.out.lt
        have e0 : h.v = .slice h.a k h.c := by rw [own_slice HSN.out.lst, HLL.out]
        rw [← e0]
        have kS : Kb (fun g => g = s) wr (wr.setCell ⟨s, 0, none⟩ h.v) := Kb.set _ _ _ _
        have hBX : B ≤ X.heap.size := by omega
        have ss2 := (HSN.out.kb kS fun g hg e => by have := (hlt g hg).1; have e : g = s := e; omega)
        have rS : RowAt (wr.setCell ⟨s, 0, none⟩ h.v) s [h.v] := HRS.out.set 0 h.v (by simp)
        have hfin : StoIn (wr.setCell ⟨s, 0, none⟩ h.v) B s h Ln := ⟨hBs, rS, own_down ss2.lst hBX, fun y hy => (ss2.each y hy).down hBX, List.nodup_cons.2 ⟨fun hg => by have := (hlt s hg).1; omega, ss2.nd⟩⟩
        exact loadQ_yes hfin HFI.out ((Kb.of_aft (HAX.out.trans HA.out)).trans kS) fun g hg => .inr (by have := (hlt g hg).1; omega)
  · rw [show checkE o = 63 by unfold checkE; rw [if_neg hck]]
    have HDD := Lib.hid (show D = (storeS L, 63) from HD.out.trans (if_neg hck))
    go_wp2_with fail
    go_ret
    rw [HDD.out]
    exact loadQ_no HIN.out HAX.out 63
end Go.Proofs.YtiadkchlkdaceaaGreat

namespace Go.Proofs.YtiadkchlkdaceaaGreat
open Go.RowKit
set_option maxRecDepth 100000
set_option linter.unusedVariables false
theorem idxP_mapS {α β : Type} (p : β → Bool) (f : α → β) : ∀ l : List α, idxP p (l.map f) = idxP (fun a => p (f a)) l
  | [] => rfl
  | a :: l => by
    rw [List.map_cons]
    show (if p (f a) then (0 : Int) else if idxP p (l.map f) < 0 then -1 else idxP p (l.map f) + 1) = (if p (f a) then (0 : Int) else if idxP (fun a => p (f a)) l < 0 then -1 else idxP (fun a => p (f a)) l + 1)
    rw [idxP_mapS p f l]
theorem own_shf {S : List Shf} {ss : List Sch} (h : SOk S ss) {j : Nat} (hj : j < S.length) : shfAt S S[j].t.schema S[j].t.name = j := by
  have h1 := good_own (o := ⟨ss, S.map (·.t)⟩) h.good (k := j) (by simpa using hj)
  simp only [List.getElem_map] at h1
  unfold tabAt at h1
  unfold shfAt
  rw [← h1]
  exact (idxP_mapS (fun t : Tab => eqS t.schema S[j].t.schema && eqS t.name S[j].t.name) Shf.t S).symm
theorem doS_is' (S : List Shf) (x : ROp) : doS S x = if mayO x = false then (S, [], 1) else if shfAt S x.schema x.table < 0 then (S, [], 110) else if emp x.col = false ∧ colAt (shfN S (shfAt S x.schema x.table).toNat).t.cols x.col < 0 then (S, [], 110)
    else if x.kind = 1 then (if wrongS S (shfAt S x.schema x.table).toNat x.row ≠ 0 then (S, [], wrongS S (shfAt S x.schema x.table).toNat x.row) else (putS S (shfAt S x.schema x.table).toNat ((shfN S (shfAt S x.schema x.table).toNat).rows ++ [x.row]), [x.row], 0)) else if x.kind = 2 then removeS S (shfAt S x.schema x.table).toNat x.col x.v else chooseS S (shfAt S x.schema x.table).toNat x.col x.v := rfl
end Go.Proofs.YtiadkchlkdaceaaGreat

namespace Go.Proofs.YtiadkchlkdaceaaGreat
open Go.RowKit
set_option maxRecDepth 100000
set_option linter.unusedVariables false
theorem eqV_eq30 {a b : Val} (h : eqV a b = true) : a = b := by
  obtain ⟨h1, h2, h3⟩ := (eqV_iff a b).1 h
  obtain ⟨k, i, t⟩ := a
  obtain ⟨k2, i2, t2⟩ := b
  have h3 := (eqS_iff9 _ _).1 h3
  simp only at h1 h2 h3
  rw [h1, h2, h3]
theorem eqVs_eq : ∀ {l m : List Val}, eqVs l m = true → l = m
  | [], [], _ => rfl
  | [], _ :: _, h => by simp [eqVs] at h
  | _ :: _, [], h => by simp [eqVs] at h
  | a :: l, b :: m, h => by
    unfold eqVs at h
    rw [Bool.and_eq_true] at h
    rw [eqV_eq30 h.1, eqVs_eq h.2]
/-- how many rows have these values in these columns? -/
def cntS (l : List Col) (rows : List (List Val)) (cs : List ByteArray) (want : List Val) : Nat := rows.countP fun row => eqVs (ofVs l cs row) want
theorem cnt_has {l : List Col} {rows : List (List Val)} {cs : List ByteArray} {want : List Val} : hasR12 l rows cs want = true ↔ 0 < cntS l rows cs want := by
  unfold hasR12 cntS
  rw [List.countP_pos_iff, List.any_eq_true]
structure KeepS (S : List Shf) : Prop where
  fit : ∀ x ∈ S, ∀ row ∈ x.rows, fitE x.t row = 0
  key : ∀ x ∈ S, ∀ r ∈ x.t.rules, r.kind = 2 → ∀ row ∈ x.rows, wholeV (ofVs x.t.cols r.cols row) = true → cntS x.t.cols x.rows r.cols (ofVs x.t.cols r.cols row) = 1
  far : ∀ x ∈ S, ∀ r ∈ x.t.rules, r.kind = 4 → ∀ row ∈ x.rows, wholeV (ofVs x.t.cols r.cols row) = true → hasR12 (shfN S (shfAt S r.schema r.table).toNat).t.cols (shfN S (shfAt S r.schema r.table).toNat).rows (keyOf (shfN S (shfAt S r.schema r.table).toNat).t r.key) (ofVs x.t.cols r.cols row) = true
theorem shfAt_put (S : List Shf) (q : Nat) (R : List (List Val)) (s n : ByteArray) : shfAt (putS S q R) s n = shfAt S s n := by
  unfold shfAt
  have a1 := idxP_mapS (fun t : Tab => eqS t.schema s && eqS t.name n) Shf.t (putS S q R)
  have a2 := idxP_mapS (fun t : Tab => eqS t.schema s && eqS t.name n) Shf.t S
  rw [← a1, ← a2, putS_tabs]
theorem put_rows {S : List Shf} {q : Nat} (hq : q < S.length) (R : List (List Val)) (p : Nat) : (shfN (putS S q R) p).t = (shfN S p).t ∧ (shfN (putS S q R) p).rows = if p = q then R else (shfN S p).rows := by
  unfold putS
  by_cases h : p = q
  · subst h
    have e : shfN (S.set p ⟨(shfN S p).t, R⟩) p = ⟨(shfN S p).t, R⟩ := by
      rw [shfN_get (by simpa using hq)]; simp
    rw [e, if_pos rfl]
    exact ⟨rfl, rfl⟩
  · have e : shfN (S.set q ⟨(shfN S q).t, R⟩) p = shfN S p := by
      unfold shfN
      rw [List.getElem?_set_ne (fun e => h e.symm)]
    rw [e, if_neg h]
    exact ⟨rfl, rfl⟩
theorem put_mem {S : List Shf} {q : Nat} (hq : q < S.length) {R : List (List Val)} {x : Shf} (hx : x ∈ putS S q R) : ∃ i, i < S.length ∧ x.t = (shfN S i).t ∧ x.rows = if i = q then R else (shfN S i).rows := by
  obtain ⟨i, hi, rfl⟩ := List.getElem_of_mem hx
  have h := put_rows hq R i
  rw [shfN_get hi] at h
  exact ⟨i, by unfold putS at hi; simpa using hi, h.1, h.2⟩
theorem keep_ins {S : List Shf} {q : Nat} {row : List Val} (h : KeepS S) (hq : q < S.length) (h0 : wrongS S q row = 0) : KeepS (putS S q ((shfN S q).rows ++ [row])) := by
  unfold wrongS at h0
  split at h0
  · rename_i h1; exact absurd h0 h1
  rename_i hfit
  split at h0
  · cases h0
  split at h0
  · cases h0
  rename_i hkey
  split at h0
  · cases h0
  rename_i hfar
  have hfit : fitE (shfN S q).t row = 0 := by omega
  have hkey : ∀ r ∈ (shfN S q).t.rules, keyHit (shfN S q).t (shfN S q).rows row r = false := fun r hr => by
    cases e : keyHit (shfN S q).t (shfN S q).rows row r
    · rfl
    · exact absurd (List.any_eq_true.2 ⟨r, hr, e⟩) hkey
  have hfar : ∀ r ∈ (shfN S q).t.rules, farHit S q row r = false := fun r hr => by
    cases e : farHit S q row r
    · rfl
    · exact absurd (List.any_eq_true.2 ⟨r, hr, e⟩) hfar
  refine ⟨fun x hx r hr => ?_, fun x hx u hu hk r hr hw => ?_, fun x hx u hu hk r hr hw => ?_⟩
  · obtain ⟨i, hi, e1, e2⟩ := put_mem hq hx
    rw [e1]
    rw [e2] at hr
    split at hr
    · rename_i e; subst e
      rcases List.mem_append.1 hr with hr | hr
      · exact h.fit _ (shfN_mem hi) r hr
      · rw [List.mem_singleton] at hr; subst hr; exact hfit
    · exact h.fit _ (shfN_mem hi) r hr
  · obtain ⟨i, hi, e1, e2⟩ := put_mem hq hx
    rw [e1] at hu hw ⊢
    rw [e2] at hr ⊢
    split at hr
    · rename_i e; subst e
      rw [if_pos rfl]
      have hkh := hkey u hu
      have hno : wholeV (ofVs (shfN S i).t.cols u.cols row) = true → hasR12 (shfN S i).t.cols (shfN S i).rows u.cols (ofVs (shfN S i).t.cols u.cols row) = false := fun hw => by
        unfold keyHit at hkh
        rw [hk, hw] at hkh
        simpa using hkh
      unfold cntS
      rw [List.countP_append, List.countP_singleton]
      rcases List.mem_append.1 hr with hr | hr
      · have h1 := h.key _ (shfN_mem hi) u hu hk r hr hw
        unfold cntS at h1
        rw [h1]
        split
        · rename_i e
          have e := eqVs_eq e
          have h2 := hno (by rw [e]; exact hw)
          have h3 : hasR12 (shfN S i).t.cols (shfN S i).rows u.cols (ofVs (shfN S i).t.cols u.cols row) = true := List.any_eq_true.2 ⟨r, hr, by rw [e]; exact eqVs_refl _⟩
          rw [h2] at h3; cases h3
        · rfl
      · rw [List.mem_singleton] at hr; subst hr
        have h2 := hno hw
        have h3 : cntS (shfN S i).t.cols (shfN S i).rows u.cols (ofVs (shfN S i).t.cols u.cols r) = 0 := by
          rcases Nat.eq_zero_or_pos (cntS (shfN S i).t.cols (shfN S i).rows u.cols (ofVs (shfN S i).t.cols u.cols r)) with h4 | h4
          · exact h4
          · rw [cnt_has.2 h4] at h2; cases h2
        unfold cntS at h3
        rw [h3, if_pos (eqVs_refl _)]
    · rename_i e
      rw [if_neg e]
      exact h.key _ (shfN_mem hi) u hu hk r hr hw
  · obtain ⟨i, hi, e1, e2⟩ := put_mem hq hx
    rw [e1] at hu hw ⊢
    rw [e2] at hr
    rw [shfAt_put]
    obtain ⟨p1, p2⟩ := put_rows hq ((shfN S q).rows ++ [row]) (shfAt S u.schema u.table).toNat
    rw [p1, p2]
    have hmono : hasR12 (shfN S (shfAt S u.schema u.table).toNat).t.cols (shfN S (shfAt S u.schema u.table).toNat).rows (keyOf (shfN S (shfAt S u.schema u.table).toNat).t u.key) (ofVs (shfN S i).t.cols u.cols r) = true →
        hasR12 (shfN S (shfAt S u.schema u.table).toNat).t.cols (if (shfAt S u.schema u.table).toNat = q then (shfN S q).rows ++ [row] else (shfN S (shfAt S u.schema u.table).toNat).rows) (keyOf (shfN S (shfAt S u.schema u.table).toNat).t u.key) (ofVs (shfN S i).t.cols u.cols r) = true := fun h1 => by
      split
      · rename_i e
        rw [e] at h1 ⊢
        obtain ⟨z, hz, e2⟩ := List.any_eq_true.1 h1
        exact List.any_eq_true.2 ⟨z, List.mem_append.2 (.inl hz), e2⟩
      · exact h1
    split at hr
    · rename_i e; subst e
      rcases List.mem_append.1 hr with hr | hr
      · exact hmono (h.far _ (shfN_mem hi) u hu hk r hr hw)
      · rw [List.mem_singleton] at hr; subst hr
        have h1 := hfar u hu
        unfold farHit amongS at h1
        rw [hk, hw] at h1
        have h2 : ((4 : Int) == 4) = true := rfl
        rw [h2, Bool.true_and, Bool.true_and, Bool.not_eq_false'] at h1
        split at h1
        · rename_i e; rw [if_pos e]; rw [e] at h1 ⊢; exact h1
        · rename_i e; rw [if_neg e]; exact h1
    · exact hmono (h.far _ (shfN_mem hi) u hu hk r hr hw)
theorem keep_del {S : List Shf} {q : Nat} (p : List Val → Bool) (h : KeepS S) (hq : q < S.length) (hn : heldS S q ((shfN S q).rows.filter fun r => !p r) ((shfN S q).rows.filter p) = false) (ok : ∀ x ∈ S, ∀ r ∈ x.t.rules, r.kind = 4 → ∃ q : Nat, shfAt S r.schema r.table = q) : KeepS (putS S q ((shfN S q).rows.filter fun r => !p r)) := by
  have hsub : ∀ i r, r ∈ (if i = q then (shfN S q).rows.filter (fun r => !p r) else (shfN S i).rows) → r ∈ (shfN S i).rows := fun i r hr => by
    split at hr
    · rename_i e; subst e; exact (List.mem_filter.1 hr).1
    · exact hr
  refine ⟨fun x hx r hr => ?_, fun x hx u hu hk r hr hw => ?_, fun x hx u hu hk r hr hw => ?_⟩
  · obtain ⟨i, hi, e1, e2⟩ := put_mem hq hx
    rw [e1]
    rw [e2] at hr
    exact h.fit _ (shfN_mem hi) r (hsub i r hr)
  · obtain ⟨i, hi, e1, e2⟩ := put_mem hq hx
    rw [e1] at hu hw ⊢
    rw [e2] at hr ⊢
    have h1 := h.key _ (shfN_mem hi) u hu hk r (hsub i r hr) hw
    split
    · rename_i e; subst e
      rw [if_pos rfl] at hr
      have h2 : cntS (shfN S i).t.cols ((shfN S i).rows.filter fun r => !p r) u.cols (ofVs (shfN S i).t.cols u.cols r) ≤ 1 := by
        rw [← h1]; exact List.Sublist.countP_le List.filter_sublist
      have h3 := cnt_has.1 (show hasR12 (shfN S i).t.cols ((shfN S i).rows.filter fun r => !p r) u.cols (ofVs (shfN S i).t.cols u.cols r) = true from List.any_eq_true.2 ⟨r, hr, eqVs_refl _⟩)
      omega
    · exact h1
  · obtain ⟨i, hi, e1, e2⟩ := put_mem hq hx
    rw [e1] at hu hw ⊢
    rw [e2] at hr
    rw [shfAt_put]
    obtain ⟨p1, p2⟩ := put_rows hq ((shfN S q).rows.filter fun r => !p r) (shfAt S u.schema u.table).toNat
    rw [p1, p2]
    have h1 := h.far _ (shfN_mem hi) u hu hk r (hsub i r hr) hw
    split
    · rename_i e
      obtain ⟨z, hz⟩ := ok _ (shfN_mem hi) u hu hk
      have hz2 : shfAt S u.schema u.table = q := by omega
      rw [e] at h1 ⊢
      have h2 : needR S q ((shfN S q).rows.filter fun r => !p r) ((shfN S q).rows.filter p) (shfN S i) (if i = q then (shfN S q).rows.filter (fun r => !p r) else (shfN S i).rows) u = false := by
        cases e3 : needR S q ((shfN S q).rows.filter fun r => !p r) ((shfN S q).rows.filter p) (shfN S i) (if i = q then (shfN S q).rows.filter (fun r => !p r) else (shfN S i).rows) u
        · rfl
        · exfalso
          have : heldS S q ((shfN S q).rows.filter fun r => !p r) ((shfN S q).rows.filter p) = true := List.any_eq_true.2 ⟨i, List.mem_range.2 hi, List.any_eq_true.2 ⟨u, hu, e3⟩⟩
          rw [hn] at this; cases this
      unfold needR at h2
      rw [hk, decide_eq_true hz2] at h2
      have h22 : ((4 : Int) == 4) = true := rfl
      rw [h22, Bool.true_and, Bool.true_and] at h2
      have h3 : needS (shfN S q) (shfN S i) q ((shfN S q).rows.filter fun r => !p r) ((shfN S q).rows.filter p) u r = false := by
        cases e3 : needS (shfN S q) (shfN S i) q ((shfN S q).rows.filter fun r => !p r) ((shfN S q).rows.filter p) u r
        · rfl
        · rw [List.any_eq_true.2 ⟨r, hr, e3⟩] at h2; cases h2
      unfold needS at h3
      rw [hw, Bool.true_and] at h3
      obtain ⟨z2, hz3, e4⟩ := List.any_eq_true.1 h1
      cases hp : p z2
      · exact List.any_eq_true.2 ⟨z2, List.mem_filter.2 ⟨hz3, by rw [hp]; rfl⟩, e4⟩
      · have h4 : hasR12 (shfN S q).t.cols ((shfN S q).rows.filter p) (keyOf (shfN S q).t u.key) (ofVs (shfN S i).t.cols u.cols r) = true := List.any_eq_true.2 ⟨z2, List.mem_filter.2 ⟨hz3, hp⟩, e4⟩
        rw [h4, Bool.true_and, Bool.not_eq_false'] at h3
        exact h3
    · exact h1
theorem keep_do {S : List Shf} {ss : List Sch} (x : ROp) (ok : SOk S ss) (h : KeepS S) : KeepS (doS S x).1 := by
  rw [doS_is']
  split
  · exact h
  split
  · exact h
  rename_i hj
  have hq : (shfAt S x.schema x.table).toNat < S.length := by
    have := (idxP_range (fun y : Shf => eqS y.t.schema x.schema && eqS y.t.name x.table) S).2
    unfold shfAt at hj ⊢; omega
  obtain ⟨q, hqe⟩ : ∃ q, (shfAt S x.schema x.table).toNat = q := ⟨_, rfl⟩
  rw [hqe] at hq ⊢
  split
  · exact h
  split
  · split
    · exact h
    · rename_i hw
      exact keep_ins h hq (by simpa using hw)
  · split
    · unfold removeS
      split
      · exact h
      · rename_i hh
        exact keep_del (inS (shfN S q).t.cols x.col x.v) h hq (by simpa [leftS, goneS] using hh) fun y hy r hr hk => ok.far hy hr hk
    · unfold chooseS
      exact h
theorem keep_load {o : Objs} (h : checkO o = true) : KeepS (loadS [] o).1 := by
  have hr : ∀ x ∈ (loadS [] o).1, x.rows = [] := fun x hx => by
    unfold loadS at hx
    rw [if_pos h] at hx
    obtain ⟨t, ht, rfl⟩ := List.mem_map.1 hx
    unfold turnS
    simp only
    rw [if_pos (show shfAt [] t.schema t.name < 0 by show (-1 : Int) < 0; decide)]
  refine ⟨fun x hx r h2 => ?_, fun x hx u hu hk r h2 hw => ?_, fun x hx u hu hk r h2 hw => ?_⟩
  all_goals rw [hr x hx] at h2; cases h2
end Go.Proofs.YtiadkchlkdaceaaGreat

