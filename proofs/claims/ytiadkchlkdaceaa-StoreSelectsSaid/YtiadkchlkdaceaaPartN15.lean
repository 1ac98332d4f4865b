/- Contracts of the program, part 15. -/
import Derived.ProofKit
import Derived.OpenShut
import Derived.Deep.Slices
import Derived.ChangeOld
import Derived.SizedLaws
import Derived.WalkKit
import Derived.WalkSpells
import Derived.WalkLawsBesides
import Derived.Lib.Hide
import Derived.Deep.QuietTactic
import Derived.BigQuiet
import Derived.Below
import Derived.Deep.Draws
import Derived.StillTailTactics
import Derived.Laws.Cells
import Derived.Laws.IdiomCopy
import Derived.Test.YtiadkchlkdaceaaRows
import Derived.Lib.Bytealg
import Derived.ShutString
import Derived.Shelf.SlSortCmp.WholeK
import Derived.IntWalk
import Derived.Lib.SliceRun
import Derived.Deep.AppendLies
import Derived.Deep.Upon
import Derived.OneCell
import Derived.OwnWalk
import Derived.Laws.AppendOwn
import Derived.Deep.Onto
import Derived.LaidEqlPtr
import Derived.Deep.DeepMust
import Derived.Deep.RegionLaw
import Derived.Deep.RegionHeld3
import Derived.OrdersHeld
import Derived.Shelf.RegionOpen
import Derived.Sort.BigQuietIn
import Derived.RangeFuncNested
import Derived.RangeFuncBound
import Derived.RangeFuncCalls
import Derived.RangeFuncLeaves
import Derived.Shelf.Abstract
import Derived.OwnWalkIn
import Derived.TacticsInMore
import Derived.LoopNIn
import Derived.LoopIn
import Derived.Sort.QuietTacIn
import Derived.NoCompiler
import Derived.Lib.Walk
import Derived.Test.YtiadkchlkdaceaaPartN1
import Derived.Test.YtiadkchlkdaceaaPartN2
import Derived.Test.YtiadkchlkdaceaaPartN3
import Derived.Test.YtiadkchlkdaceaaPartN4
import Derived.Test.YtiadkchlkdaceaaPartN5
import Derived.Test.YtiadkchlkdaceaaPartN6
import Derived.Test.YtiadkchlkdaceaaPartN7
import Derived.Test.YtiadkchlkdaceaaPartN8
import Derived.Test.YtiadkchlkdaceaaPartN9
import Derived.Test.YtiadkchlkdaceaaPartN10
import Derived.Test.YtiadkchlkdaceaaPartN11
import Derived.Test.YtiadkchlkdaceaaPartN12
import Derived.Test.YtiadkchlkdaceaaPartN13
namespace Go.Proofs.Ytiadkchlkdaceaa
open Go.RowKit
set_option maxRecDepth 100000
set_option linter.unusedVariables false
theorem eqV_refl (a : Val) : eqV a a = true := by simp [eqV, eqV3, eqS]
theorem eqVs_refl : ∀ l, eqVs l l = true
  | [] => rfl
  | a :: l => by rw [eqVs, eqV_refl, eqVs_refl l]; rfl
set_option maxHeartbeats 1000000 in
theorem rsame_any (A : Option Addr) (cap : Nat) (l : List Val) (A2 : Option Addr) (cap2 : Nat) (l2 : List Val) (w : World) (h : SlAt w 3 ValR A cap l) (h2 : SlAt w 3 ValR A2 cap2 l2) :
    Calls Try.prog 12 #[.slice A l.length cap, .slice A2 l2.length cap2] w fun e w' => e = .returned (.bool (eqVs l l2)) ∧ Aft w w' := by
  have hlen := h.len
  have hlen2 := h2.len
  by_cases hl : l.length = l2.length
  · have e1 : ((l.length : Int) != (l2.length : Int)) = false := by simp [hl]
    go_enter Try.func12, Try.ntmps12
    go_wp2_with fail
    go_loopw [5] (fun i wr => ∃ k : Nat, k ≤ l.length ∧ i = .int .i64 k ∧ Aft w wr ∧ ∀ j, j < k → ∀ (hj : j < l.length) (hj2 : j < l2.length), eqV l[j] l2[j] = true) (fun i _ => l.length - (intOf i).toNat)
    case atStart => exact ⟨0, Nat.zero_le _, rfl, Aft.refl _, fun j hj => absurd hj (Nat.not_lt_zero j)⟩
    case round =>
      obtain ⟨k, hk, rfl, ha, hp⟩ := hrel
      have HA := Lib.hid ha
      have HP := Lib.hid hp; clear hp
      by_cases hlt : k < l.length
      · have hlt2 : k < l2.length := by omega
        obtain ⟨b, off, rfl, hb, c0, c1, c2, _⟩ := val_at (vals_aft ha h) hlt
        obtain ⟨b2, off2, rfl, hb2, d0, d1, d2, _⟩ := val_at (vals_aft ha h2) hlt2
        clear ha
        cases heq : eqV l[k] l2[k]
        · have h3 : eqV3 l[k].kind l[k].int l[k].text l2[k].kind l2[k].int l2[k].text = false := heq
          have HN := Lib.hid (eqVs_false l l2 k hlt hlt2 heq)
          clear heq
          go_wp2_with fail
          refine wp_region_lat (by kernel_rfl) (by kernel_rfl) ?_
          repeat (go_big_quiet_step (fail))
          refine wpQuiet_nil ?_
          intro _ hw'
          obtain ⟨x, hw''⟩ := hw'
          subst hw''
          go_wp2_with fail
          go_ret
          exact ⟨by rw [HN.out]; rfl, HA.out.lat x⟩
        · have h3 : eqV3 l[k].kind l[k].int l[k].text l2[k].kind l2[k].int l2[k].text = true := heq
          have HN := Lib.hid (ext_lt (p := fun j => ∀ (hj : j < l.length) (hj2 : j < l2.length), eqV l[j] l2[j] = true) HP.out (fun _ _ => heq))
          clear heq
          go_wp2_with fail
          refine wp_region_lat (by kernel_rfl) (by kernel_rfl) ?_
          repeat (go_big_quiet_step (fail))
          refine wpQuiet_nil ?_
          intro _ hw'
          obtain ⟨x, hw''⟩ := hw'
          subst hw''
          go_wp2_with fail
          go_roundw
          case rel => exact ⟨k + 1, by omega, by go_num, HA.out.lat x, HN.out⟩
          case measure => simp [intOf]; omega
      · have HN := Lib.hid (eqVs_true l l2 hl fun j hj hj2 => HP.out j (by omega) hj hj2)
        clear ha
        go_wp2_with fail
        go_ret
        exact ⟨by rw [HN.out]; rfl, HA.out⟩
  · have e1 : ((l.length : Int) != (l2.length : Int)) = true := by simp; omega
    have HN := Lib.hid (eqVs_len l l2 hl)
    go_enter Try.func12, Try.ntmps12
    go_wp2_with fail
    go_ret
    exact ⟨by rw [HN.out]; rfl, Aft.refl _⟩
end Go.Proofs.Ytiadkchlkdaceaa

namespace Go.Proofs.Ytiadkchlkdaceaa
set_option linter.unusedVariables false
theorem colsOk_iff (l : List Col) : colsOk l = true ↔ (1 ≤ l.length ∧ l.length ≤ 8) ∧ (∀ c ∈ l, colOk c = true) ∧ l.Pairwise fun a b => a.name ≠ b.name := by
  unfold colsOk
  simp only [Bool.and_eq_true, decide_eq_true_eq, List.all_eq_true, List.mem_range]
  have key : ∀ (i : Nat) (hi : i < l.length), idxP (fun d : Col => eqS d.name l[i].name) (l.take i) < 0 ↔ ∀ j (hj : j < i), (l[j]'(by omega)).name ≠ l[i].name := fun i hi => by
    constructor
    · intro h j hj e
      have h1 := idxP_find (fun d : Col => eqS d.name l[i].name) (l.take i)
      rw [if_pos h] at h1
      have := List.find?_eq_none.1 h1 (l[j]'(by omega)) (by rw [List.mem_take_iff_getElem]; exact ⟨j, by omega, rfl⟩)
      exact this ((eqS_iff9 _ _).2 e)
    · intro h
      have : idxP (fun d : Col => eqS d.name l[i].name) (l.take i) = -1 := idxP_none _ _ fun j hj => by
        rw [Bool.eq_false_iff]
        intro e
        have hj' : j < i := by simp at hj; omega
        rw [List.getElem_take] at e
        exact h j hj' ((eqS_iff9 _ _).1 e)
      omega
  constructor
  · rintro ⟨h1, h2⟩
    refine ⟨h1, fun c hc => ?_, List.pairwise_iff_getElem.2 fun i j hi hj hij => ?_⟩
    · obtain ⟨i, hi, rfl⟩ := List.getElem_of_mem hc
      have := h2 i hi
      rw [List.getElem?_eq_getElem hi] at this
      simp only [Bool.and_eq_true, decide_eq_true_eq] at this
      exact this.1
    · have := h2 j hj
      rw [List.getElem?_eq_getElem hj] at this
      simp only [Bool.and_eq_true, decide_eq_true_eq] at this
      exact (key j hj).1 this.2 i hij
  · rintro ⟨h1, h2, h3⟩
    refine ⟨h1, fun i hi => ?_⟩
    rw [List.getElem?_eq_getElem hi]
    simp only [Bool.and_eq_true, decide_eq_true_eq]
    exact ⟨h2 _ (List.getElem_mem hi), (key i hi).2 fun j hj => List.pairwise_iff_getElem.1 h3 j i (by omega) hi hj⟩
end Go.Proofs.Ytiadkchlkdaceaa

namespace Go.Proofs.Ytiadkchlkdaceaa
open Go.RowKit
set_option maxRecDepth 100000
set_option linter.unusedVariables false
theorem orows_rows {w : World} {A : Option Addr} {cap : Nat} {l : List ORow} (h : SlAt w 1 ORowR A cap l) : SlAt w 1 RowsR A cap (l.map (·.vals)) := by
  refine ⟨by simpa using h.1, by simpa using h.2.1, fun i hi => ?_⟩
  have hi' : i < l.length := by simpa using hi
  obtain ⟨b, off, cs, hA, hb, hl, ⟨rfl, hn, hr⟩, hc⟩ := h.2.2 i hi'
  refine ⟨b, off, [l[i].h.v], hA, hb, rfl, ⟨l[i].h.a, l[i].h.c, ?_, ?_⟩, hc⟩
  · unfold Hd.v; rw [hn]; simp
  · simpa using hr
end Go.Proofs.Ytiadkchlkdaceaa

namespace Go.Proofs.Ytiadkchlkdaceaa
open Go.RowKit
section
variable {P : Program} {ops : Array Oper} {Q : Exit → Act → World → Prop} {T : World → Prop} {m : Nat}
/-- in another order than the text's: 0 a read, 1 a step behind which the class is kept, 2 a step behind m -/
def wpOrd (P : Program) (ops : Array Oper) (Q : Exit → Act → World → Prop) (T : World → Prop) : List Nat → List Oper → Act → World → Prop
  | 0 :: ks, o :: r, a, w => ∃ v, (∀ w, T w → o.quietAt P a T w v) ∧ wpOrd P ops Q T ks r (a.put o.dst v) w
  | 1 :: ks, o :: r, a, w => o.wp P a w (fun a' w' => T w' ∧ wpOrd P ops Q T ks r a' w') Q ∨ (o.asks P a w ∧ LetsOut Q)
  | (_ + 2) :: ks, o :: r, a, w => o.wp P a w (fun a' w' => wpOrd P ops Q T ks r a' w') Q ∨ (o.asks P a w ∧ LetsOut Q)
  | _, _, a, w => Q .normal a w
theorem wpOrd_reads {w : World} : ∀ (n : Nat) {ks : List Nat} {l : List Oper} {a : Act}, ((ks.take n).all (· == 0)) = true → n ≤ ks.length → n ≤ l.length → ((l.take n).all fun o => o.guard.isNone) = true → wpQuiet P ops T (fun a' => wpOrd P ops Q T (ks.drop n) (l.drop n) a' w) (l.take n) a → wpOrd P ops Q T ks l a w
  | 0, ks, l, a, _, _, _, _, h => by simpa [wpQuiet] using h
  | n + 1, [], l, a, _, hk, _, _, h => by simp at hk
  | n + 1, k :: ks, [], a, _, _, hl, _, h => by simp at hl
  | n + 1, k :: ks, o :: r, a, hr, hk, hl, hg, h => by
    simp only [List.take_succ_cons, List.all_cons, Bool.and_eq_true, Option.isNone_iff_eq_none, beq_iff_eq] at hg hr
    obtain ⟨rfl, hr⟩ := hr
    rw [List.take_succ_cons, List.drop_succ_cons, List.drop_succ_cons] at h
    unfold wpQuiet at h
    rw [if_pos (by simp [Region.wanted, hg.1])] at h
    obtain ⟨v, hv, hn⟩ := h
    exact ⟨v, hv, wpOrd_reads n hr (by simpa using hk) (by simpa using hl) hg.2 hn⟩
theorem wpOrd_step {ks : List Nat} {o : Oper} {r : List Oper} {a : Act} {w : World} (hs : ∀ K : Act → World → Prop, (∀ a' w', T w' → wpOrd P ops Q T ks r a' w' → K a' w') → o.wp P a w K Q) : wpOrd P ops Q T (1 :: ks) (o :: r) a w :=
  .inl (hs _ fun _ _ h1 h2 => ⟨h1, h2⟩)
theorem wpOrd_last {ks : List Nat} {o : Oper} {r : List Oper} {a : Act} {w : World} (hs : ∀ K : Act → World → Prop, (∀ a' w', wpOrd P ops Q T ks r a' w' → K a' w') → o.wp P a w K Q) : wpOrd P ops Q T (2 :: ks) (o :: r) a w :=
  .inl (hs _ fun _ _ h => h)
def ordB (ops : Array Oper) (m : Nat) : Array Bool → List Nat → List Nat → Bool
  | ls, [], [] => Region.ready .any ops ls == []
  | ls, i :: is, k :: ks => (match ops[i]? with
    | none => false
    | some o => if k == 0 then !(i == m) && !(ls.getD m false) && readM o && (Region.ready .any ops ls).contains i && Region.free .any ops ls i && (match ops[m]? with | some om => om.after.any (fun e => Region.binds .any e && e.on == i) | none => false)
      else o.guard.isNone && (Region.ready .any ops ls == [i]) && (k == 1 || (ls.setIfInBounds i true).getD m false)) && ordB ops m (ls.setIfInBounds i true) is ks
  | _, _, _ => false
theorem ord_any (hsel : Region.noSelect ops = true) (hQ : ∀ c a d v w, Q (.panic c) (Act.put a d v) w → Q (.panic c) a w) :
    ∀ (is ks : List Nat) (ls : Array Bool) (l : List Oper) (a : Act) (w : World), ordB ops m ls is ks = true → is.map (fun i => ops[i]?) = l.map some → (ls.getD m false = false → T w) → wpOrd P ops Q T ks l a w → wpAnyS P .any ops Q T m is.length ls a w
  | [], [], ls, l, a, w, hB, hl, _, h => by
    unfold ordB at hB
    simp only [beq_iff_eq] at hB
    have : l = [] := by cases l with | nil => rfl | cons o r => simp at hl
    subst this
    exact ⟨hB, h⟩
  | [], k :: ks, ls, l, a, w, hB, hl, _, h => by unfold ordB at hB; cases hB
  | i :: is, [], ls, l, a, w, hB, hl, _, h => by unfold ordB at hB; cases hB
  | i :: is, k :: ks, ls, [], a, w, hB, hl, _, h => by simp at hl
  | i :: is, k :: ks, ls, o :: r, a, w, hB, hl, hT, h => by
    simp only [List.map_cons, List.cons.injEq] at hl
    obtain ⟨h0, hl⟩ := hl
    unfold ordB at hB
    rw [h0] at hB
    simp only [Bool.and_eq_true] at hB
    obtain ⟨hk, hB⟩ := hB
    match k, hk, h with
    | 0, hk, h =>
      simp only [beq_self_eq_true, if_true, Bool.and_eq_true, Bool.not_eq_true', beq_eq_false_iff_ne] at hk
      obtain ⟨⟨⟨⟨⟨him, hlm⟩, hb⟩, hrdy⟩, hf⟩, h4⟩ := hk
      obtain ⟨v, hv, hn⟩ := h
      refine wpAnyS_first h0 (Region.noSelect_spec hsel) (fun c a w h => hQ c a _ _ w h) him (fun om hom => ?_) _ _ a w (Region.free_spec h0 hf) (by simpa using hrdy) (readM_yields hb hv) (hT hlm) hlm ?_
      · rw [hom] at h4
        simp only at h4
        obtain ⟨e, he, hb⟩ := Array.any_eq_true'.1 h4
        simp only [Bool.and_eq_true, beq_iff_eq] at hb
        exact ⟨e, he, hb.1, hb.2⟩
      · exact ord_any hsel hQ is ks _ r _ w hB hl (fun _ => hT hlm) hn
    | 1, hk, h =>
      simp only [show ((1 : Nat) == 0) = false from rfl, Bool.false_eq_true, if_false, Bool.and_eq_true, Option.isNone_iff_eq_none, beq_iff_eq] at hk
      obtain ⟨⟨hg, hr⟩, _⟩ := hk
      refine ⟨fun e => absurd (hr.symm.trans e) (by simp), fun j hj => ?_⟩
      rw [hr, List.mem_singleton] at hj
      subst hj
      unfold wpOp
      simp only [h0]
      rw [if_pos (by simp [Region.wanted, hg])]
      rcases h with h | h
      case inr => exact .inr h
      exact .inl (Oper.wp_mono (fun a' w' h' => ⟨fun _ => h'.1, ord_any hsel hQ is ks _ r a' w' hB hl (fun _ => h'.1) h'.2⟩) h)
    | k + 2, hk, h =>
      simp only [show ((k + 2 : Nat) == 0) = false from rfl, Bool.false_eq_true, if_false, Bool.and_eq_true, Option.isNone_iff_eq_none, beq_iff_eq, Bool.or_eq_true] at hk
      obtain ⟨⟨hg, hr⟩, hm2⟩ := hk
      have hm3 : (ls.setIfInBounds i true).getD m false = true := by
        rcases hm2 with h | h
        · omega
        · exact h
      refine ⟨fun e => absurd (hr.symm.trans e) (by simp), fun j hj => ?_⟩
      rw [hr, List.mem_singleton] at hj
      subst hj
      unfold wpOp
      simp only [h0]
      rw [if_pos (by simp [Region.wanted, hg])]
      rcases h with h | h
      case inr => exact .inr h
      exact .inl (Oper.wp_mono (fun a' w' h' => ⟨fun e => absurd e (by rw [hm3]; simp), ord_any hsel hQ is ks _ r a' w' hB hl (fun e => absurd e (by rw [hm3]; simp)) h'⟩) h)
theorem wp_region_ord {id : Nat} {a : Act} {w : World} {l : List Oper} (is ks : List Nat) (m : Nat) (l' : List Oper → List Oper) (T : World → Prop) (hm : P.follows .mixedOrders = true) (hB : (Region.noSelect l.toArray && decide (is.length = l.length) && ordB l.toArray m (Array.replicate l.length false) is ks) = true) (hl : is.map (fun i => l.toArray[i]?) = (l' l).map some) (hT : T w.drew)
    (h : wpOrd P l.toArray (NoPanic Q) T ks (l' l) a w.drew) : (Code.region id l.toArray true).wp P Q a w := by
  refine wp_region_noPanic ?_
  refine wp_region_any hm (wpAny_of_S (T := T) (m := m) _ _ _ _ ?_)
  simp only [Bool.and_eq_true, decide_eq_true_eq] at hB
  obtain ⟨⟨hsel, hlen⟩, hB⟩ := hB
  have key := ord_any (Q := NoPanic Q) (T := T) hsel (fun _ _ _ _ _ h => h) is ks _ (l' l) a w.drew hB hl (fun _ => hT) h
  rw [hlen] at key
  simpa using key
end
end Go.Proofs.Ytiadkchlkdaceaa

namespace Go.Proofs.Ytiadkchlkdaceaa
open Go.RowKit Go.Deep
set_option maxRecDepth 100000
set_option linter.unusedVariables false
def dumpS (S : List Shf) : List Dmp := S.map fun x => ⟨x.t.schema, x.t.name, x.t.cols, x.rows⟩
section
variable {w w' : World} {B s : Nat} {hl : Hd} {L : List ODmp}
end
def DumpP (w : World) (l : List Dmp) (e : Ending) (w' : World) : Prop := ∃ h D, D.map ODmp.s = l ∧ e = .returned (.slice h.a l.length h.c) ∧ Aft w w' ∧ DmpsIn w' w.heap.size h D
end Go.Proofs.Ytiadkchlkdaceaa

namespace Go.Proofs.Ytiadkchlkdaceaa
open Go.RowKit Go.Deep
set_option maxRecDepth 100000
set_option linter.unusedVariables false
theorem info2Dmp : (Try.prog.info? 54).map (fun i => (i.zero, i.size, i.bytes)) = some (some (.agg #[.string ByteArray.empty, .string ByteArray.empty, .slice none 0 0, .slice none 0 0]), 4, 80) := by kernel_rfl
set_option maxHeartbeats 8000000 in
theorem dump12 (B s : Nat) (hl : Hd) (L : List OShf) (ss : List Sch) (w : World) (hin : StoIn w B s hl L) (ok : SOk (storeS L) ss) (sm : ∀ y ∈ L, SmT y.x.t) :
    Calls Try.prog 10 #[.pointer (some ⟨s, 0, none⟩)] w (DumpP w (dumpS (storeS L))) := by
  obtain ⟨i0, hi, hz0, hz1, hz2⟩ := info_parts info2Dmp
  have HI := Lib.hid hi
  have HZ0 := Lib.hid hz0
  have HZ1 := Lib.hid hz1
  have HZ2 := Lib.hid hz2
  clear hi hz0 hz1 hz2
  have PA := Lib.hid (show ∀ y ∈ L, Parted w y from fun y hy => parted hin ok sm hy)
  have HOK := Lib.hid ok
  have hpl : SlAt w 1 PtrR hl.a hl.c (L.map (·.p)) := own_slo ptrC (·.p) hin.lst (fun y hy => ⟨rfl, rfl⟩) (by have := ok.good.nt; simp [storeS] at this; unfold Small; omega)
  have HPL := Lib.hid hpl
  have hlen : L.length ≤ 64 := by have := ok.good.nt; simpa [storeS] using this
  have rs := hin.row
  rw [own_slice hin.lst] at rs
  have s0 := rs.cell (j := 0) rfl
  have sz := rs.1
  have hdd : (dumpS (storeS L)).length = L.length := by simp [dumpS, storeS]
  have HDD := Lib.hid hdd
  have HDS := Lib.hid (show dumpS (storeS L) = L.map fun y => (⟨y.x.t.schema, y.x.t.name, y.x.t.cols, y.rows.map (·.vals)⟩ : Dmp) by unfold dumpS storeS; rw [List.map_map]; rfl)
  clear hin ok sm hpl rs hdd
  go_enter Try.func10, Try.ntmps10
  go_wp2_with fail
  go_loopw [3, 13] (fun v i wr => ∃ (k : Nat) (h : Hd) (D : List ODmp), k ≤ L.length ∧ i = .int .i64 k ∧ v = .slice h.a k h.c ∧ D.map ODmp.s = (L.take k).map (fun y => (⟨y.x.t.schema, y.x.t.name, y.x.t.cols, y.rows.map (·.vals)⟩ : Dmp)) ∧ Aft w wr ∧ DmpsIn wr w.heap.size h D) (fun _ i _ => L.length - (intOf i).toNat)
  case atStart => exact ⟨0, ⟨none, 0, 0⟩, [], Nat.zero_le _, rfl, rfl, rfl, Aft.refl _, DmpsIn.nil _ _⟩
  case round =>
    obtain ⟨k, h, D, hk, rfl, rfl, hD, ha, hdn⟩ := hrel
    have HA := Lib.hid ha
    have HDN := Lib.hid hdn
    have HDM := Lib.hid hD
    have HLL := Lib.hid (show D.length = k by have := congrArg List.length hD; simpa [Nat.min_eq_left hk] using this)
    clear ha hdn hD s0 sz
    by_cases hlt : k < L.length
    · obtain ⟨b, off, hA8, hb, c0⟩ := ptr_at (ptrs_aft HA.out HPL.out) (k := k) (by simpa using hlt)
      rw [List.getElem_map] at c0
      have PY := PA.out _ (List.getElem_mem hlt)
      have HTK := Lib.hid (List.take_succ_eq_append_getElem hlt)
      have h8 : L[k].x.t.cols.length ≤ 8 := (HOK.out.shf (x := L[k].s) (List.mem_map_of_mem (List.getElem_mem hlt))).2.1
      obtain ⟨y, hy⟩ : ∃ y, L[k] = y := ⟨_, rfl⟩
      rw [hy] at c0 PY HTK h8
      have HPY := Lib.hid PY
      have ry := PY.row.aft HA.out
      have y0 := ry.cell (j := 0) rfl
      have y1 := ry.cell (j := 1) rfl
      have y3 := ry.cell (j := 3) rfl
      have y5 := ry.cell (j := 5) rfl
      have yz := ry.1
      have C1 := Lib.hid (show ∀ V, Aft wr V → _ from fun V a => clone2Col y.x.hc.a y.x.hc.c y.x.t.cols V V (Aft.refl V) (cols_aft (HA.out.trans a) HPY.out.cols) (by omega))
      have C2 := Lib.hid (show ∀ V, Aft wr V → Calls Try.prog 27 #[.slice y.hr.a y.rows.length y.hr.c] V (RowsP V (y.rows.map (·.vals))) from fun V a => by
        have := copied12 (y.rows.map (·.vals)) y.hr.a y.hr.c V (rows_aft (HA.out.trans a) (orows_rows HPY.out.rows)) (by simpa using HPY.out.most) (fun r hr => by
          obtain ⟨o, ho, rfl⟩ := List.mem_map.1 hr
          have h1 := ((besideB_iff formB _ _).1 (HPY.out.form o ho)).1
          omega)
        simpa using this)
      have zw := HA.out.size
      have v0 : h.v = .slice h.a k h.c := by rw [own_slice HDN.out.lst, HLL.out]
      have HV0 := Lib.hid v0
      have own := HDN.out.lst
      rw [v0, HLL.out] at own
      have HOW := Lib.hid own
      have hyw : y.p < w.heap.size := PY.row.1
      have n1 : ¬ InV (.slice h.a k h.c) y.p := fun hg => by have := (HOW.out.lt _ hg).1; omega
      rw [hA8]
      clear PY ry hy hA8 v0 own
      go_wp2_with fail
      refine wp_region_ord [0, 1, 2, 3, 4, 5, 6, 7, 8, 9, 10, 11, 12, 13, 14, 15, 17, 18, 19, 20, 16, 21, 22, 23, 24, 25] [0, 0, 0, 0, 0, 0, 0, 0, 0, 0, 0, 0, 0, 0, 0, 0, 0, 0, 0, 0, 1, 1, 1, 1, 1, 2] 25 (fun l => l.take 16 ++ ((l.drop 17).take 4 ++ ((l.drop 16).take 1 ++ l.drop 21))) (fun w' => ∃ x : KLat (.slice h.a k h.c) wr, w' = klat (.slice h.a k h.c) wr x) (by kernel_rfl) (by kernel_rfl) rfl (KL.aft (Aft.refl wr).drew) ?_
      simp only [List.take_succ_cons, List.take_zero, List.drop_succ_cons, List.drop_zero, List.cons_append, List.nil_append]
      refine wpOrd_reads 20 rfl (by decide) (by simp) rfl ?_
      simp only [List.take_succ_cons, List.take_zero, List.drop_succ_cons, List.drop_zero]
      repeat (go_big_quiet_step (fail))
      refine wpQuiet_nil ?_
      refine wpOrd_step (fun K hK => ?_)
      go_simp
      obtain ⟨D9, hD9⟩ : ∃ D9, D9 = wr.drew := ⟨_, rfl⟩
      have aD : Aft wr D9 := by rw [hD9]; exact (Aft.refl wr).drew
      rw [← hD9]
      go_at_call 26
      refine (C1.out D9 aD).mono ?_
      rintro e Z ⟨v9, css, rfl, aZ, ho9, hch⟩
      dsimp only
      rw [flat_cols hch] at ho9
      obtain ⟨h9, rfl, hn9⟩ := own_head ho9
      rw [own_slice ho9]
      refine hK _ _ (KL.aft (aD.trans aZ)) ?_
      clear hK K hD9
      refine wpOrd_step (fun K hK => ?_)
      go_simp
      go_at_call 27
      refine (C2.out Z (aD.trans aZ)).mono ?_
      rintro e Y ⟨h7, R, hR, rfl, aY, inY, nd⟩
      dsimp only
      refine hK _ _ (KL.aft ((aD.trans aZ).trans aY)) ?_
      clear hK K
      have HWY := Lib.hid ((aD.trans aZ).trans aY)
      have HO9 := Lib.hid (own_aft ho9 aY)
      have HIY := Lib.hid inY
      have HND := Lib.hid nd
      have HRR := Lib.hid hR
      have zD := aD.size
      have zZ := aZ.size
      have zY := aY.size
      have HL9 := Lib.hid (blk_lt ho9)
      clear C1 C2 ho9 hch inY nd hR aD aZ aY hn9
      simp only [List.length_map]
      refine wpOrd_step (fun K hK => ?_)
      go_simp
      refine hK _ _ (KL.aft HWY.out) ?_
      clear hK K
      refine wpOrd_step (fun K hK => ?_)
      go_simp
      refine hK _ _ (KL.aft (HWY.out.alloc _)) ?_
      clear hK K
      refine wpOrd_step (fun K hK => ?_)
      refine wp_append_lies _ (.tmp 17) (.tmp 40) 50 rfl w.heap.size 54 i0 _ 4 80 Try.underlying50 HI.out HZ0.out HZ1.out HZ2.out rfl (by decide) (.slice h.a k h.c) k (D.flatMap ODmp.cells) (by rfl) ((own_aft HOW.out HWY.out).alloc _) ⟨Y.heap.size, 0, none⟩ 1 1 [.string y.x.t.schema, .string y.x.t.name, .slice h9.a y.x.t.cols.length h9.c, .slice h7.a y.rows.length h7.c] (by rfl) rfl (World.news_of_block (cs := #[.string y.x.t.schema, .string y.x.t.name, .slice h9.a y.x.t.cols.length h9.c, .slice h7.a y.rows.length h7.c]) (t := 54) (fr := (0, 0)) (heap_alloc_new Y _)) (by simp [Value.oneCell']) (by omega) (by unfold maxLen; omega) (by omega) (by simp; omega) (Y.heap.size + 1) (by simp) ?_
      intro gg cap' w5 hown5 hgrow hat hgl
      refine hK _ _ (KL.of ((Kb.of_aft (HWY.out.alloc _)).trans (kb_in hgrow))) ?_
      clear hK K
      refine wpOrd_last (fun K hK => ?_)
      go_simp
      refine hK _ _ ?_
      clear hK K
      refine NoPanic.normal ?_
      have hyd : DmpIn Y wr.heap.size ⟨y.x.t.schema, y.x.t.name, y.x.t.cols, h9, R, h7⟩ := ⟨own_down HO9.out (by omega), HIY.out.down (by omega)⟩
      have hnd : (ODmp.blks ⟨y.x.t.schema, y.x.t.name, y.x.t.cols, h9, R, h7⟩).Nodup := by
        unfold ODmp.blks
        refine List.nodup_append.2 ⟨blk_nodup _, HND.out, fun a ha b hb e => ?_⟩
        have h1 := (HL9.out a ha).2
        have h2 := (HIY.out.lt b hb).1
        omega
      have hlr : R.length = y.rows.length := by have := congrArg List.length HRR.out; simpa using this
      have hcell : ODmp.cells ⟨y.x.t.schema, y.x.t.name, y.x.t.cols, h9, R, h7⟩ = [.string y.x.t.schema, .string y.x.t.name, .slice h9.a y.x.t.cols.length h9.c, .slice h7.a y.rows.length h7.c] := by
        unfold ODmp.cells
        rw [own_slice HO9.out, own_slice HIY.out.own, hlr]
      have HP := Lib.hid (show DmpsIn w5 w.heap.size ⟨some ⟨gg, 0, none⟩, k + 1, cap'⟩ (D ++ [⟨y.x.t.schema, y.x.t.name, y.x.t.cols, h9, R, h7⟩]) from HDN.out.push (ob := .cells #[.string y.x.t.schema, .string y.x.t.name, .slice h9.a y.x.t.cols.length h9.c, .slice h7.a y.rows.length h7.c] 54) HWY.out hyd hnd zw (by rw [HLL.out]) (by rw [HV0.out]; exact hgrow) (by rw [hcell]; exact hown5) (by
        rw [HV0.out]
        intro g hg
        rw [blk_some, List.mem_singleton] at hg
        subst hg
        rcases hat with h | h
        · exact .inl h
        · exact .inr (by rw [h]; exact Nat.le_refl _)))
      have HA5 := Lib.hid (show Aft w w5 from aft_grown (own_aft HOW.out (HWY.out.alloc _)) ((HA.out.trans HWY.out).alloc _) hgrow)
      have HT2 := Lib.hid (show (D ++ [(⟨y.x.t.schema, y.x.t.name, y.x.t.cols, h9, R, h7⟩ : ODmp)]).map ODmp.s = (L.take (k + 1)).map (fun y => (⟨y.x.t.schema, y.x.t.name, y.x.t.cols, y.rows.map (·.vals)⟩ : Dmp)) by
        rw [List.map_append, HDM.out, HTK.out, List.map_append, List.map_cons, List.map_nil, List.map_cons, List.map_nil]
        unfold ODmp.s
        rw [HRR.out])
      clear hown5 hgrow hat hgl hyd hnd hlr hcell
      go_wp2_with fail
      go_roundw
      case rel => exact ⟨k + 1, ⟨some ⟨gg, 0, none⟩, k + 1, cap'⟩, _, by omega, by go_num, rfl, HT2.out, HA5.out, HP.out⟩
      case measure => simp [intOf]; omega
    · have e1 : L.take k = L := List.take_of_length_le (by omega)
      have e2 : k = L.length := by omega
      have HF := Lib.hid (show D.map ODmp.s = dumpS (storeS L) by rw [HDM.out, e1, HDS.out])
      have HKL := Lib.hid (e2.trans HDD.out.symm)
      clear e1 e2
      go_wp2_with fail
      go_ret
      exact ⟨h, D, HF.out, by rw [← HKL.out]; rfl, HA.out, HDN.out⟩
end Go.Proofs.Ytiadkchlkdaceaa

namespace Go.Proofs.Ytiadkchlkdaceaa
open Go.RowKit Go.Deep
set_option maxRecDepth 100000
set_option linter.unusedVariables false
theorem dump_aw {w V0 V : World} {S : List Shf} {ss : List Sch} (hI : AwI w V0 S) (a0 : Aft V0 V) (ok : SOk S ss) : Calls Try.prog 10 #[.pointer (some ⟨w.heap.size, 0, none⟩)] V (DumpP V (dumpS S)) := by
  obtain ⟨hl, L, rfl, h2, h3, h4⟩ := hI
  exact dump12 w.heap.size w.heap.size hl L ss V (h2.aft a0) ok h3
end Go.Proofs.Ytiadkchlkdaceaa

namespace Go.Proofs.Ytiadkchlkdaceaa
open Go.RowKit
set_option maxRecDepth 100000
set_option linter.unusedVariables false
theorem idxP_mapS {α β : Type} (p : β → Bool) (f : α → β) : ∀ l : List α, idxP p (l.map f) = idxP (fun a => p (f a)) l
  | [] => rfl
  | a :: l => by
    rw [List.map_cons]
    show (if p (f a) then (0 : Int) else if idxP p (l.map f) < 0 then -1 else idxP p (l.map f) + 1) = (if p (f a) then (0 : Int) else if idxP (fun a => p (f a)) l < 0 then -1 else idxP (fun a => p (f a)) l + 1)
    rw [idxP_mapS p f l]
def sel12 (s n : ByteArray) : ROp := ⟨3, ⟨#[]⟩, s, n, [], ⟨#[]⟩, ⟨0, 0, ⟨#[]⟩⟩⟩
theorem sel_may (s n : ByteArray) : mayO (sel12 s n) = true := by
  show ((nameB ⟨#[]⟩ && (mayV ⟨0, 0, ⟨#[]⟩⟩ && decide (([] : List Val).length = 0))) || (emp ⟨#[]⟩ && (eqV ⟨0, 0, ⟨#[]⟩⟩ nilV && decide (([] : List Val).length = 0)))) = true
  clear s n
  decide +kernel
theorem own_shf {S : List Shf} {ss : List Sch} (h : SOk S ss) {j : Nat} (hj : j < S.length) : shfAt S S[j].t.schema S[j].t.name = j := by
  have h1 := good_own (o := ⟨ss, S.map (·.t)⟩) h.good (k := j) (by simpa using hj)
  simp only [List.getElem_map] at h1
  unfold tabAt at h1
  unfold shfAt
  rw [← h1]
  exact (idxP_mapS (fun t : Tab => eqS t.schema S[j].t.schema && eqS t.name S[j].t.name) Shf.t S).symm
theorem col_none {l : List Col} (h : colsOk l = true) : colAt l ⟨#[]⟩ < 0 := by
  rcases Int.lt_or_le (colAt l ⟨#[]⟩) 0 with h1 | h1
  · exact h1
  · exfalso
    obtain ⟨c, hc, e⟩ := List.any_eq_true.1 ((any_iff (fun c : Col => eqS c.name ⟨#[]⟩) l).2 h1)
    have h2 := ((colsOk_iff l).1 h).2.1 c hc
    have e2 : c.name = ⟨#[]⟩ := (eqS_iff9 _ _).1 e
    unfold colOk at h2
    rw [e2, show nameB ⟨#[]⟩ = false by decide +kernel] at h2
    cases h2
theorem doS_is' (S : List Shf) (x : ROp) : doS S x = if mayO x = false then (S, [], 1) else if shfAt S x.schema x.table < 0 then (S, [], 110) else if emp x.col = false ∧ colAt (shfN S (shfAt S x.schema x.table).toNat).t.cols x.col < 0 then (S, [], 110)
    else if x.kind = 1 then (if wrongS S (shfAt S x.schema x.table).toNat x.row ≠ 0 then (S, [], wrongS S (shfAt S x.schema x.table).toNat x.row) else (putS S (shfAt S x.schema x.table).toNat ((shfN S (shfAt S x.schema x.table).toNat).rows ++ [x.row]), [x.row], 0)) else if x.kind = 2 then removeS S (shfAt S x.schema x.table).toNat x.col x.v else chooseS S (shfAt S x.schema x.table).toNat x.col x.v := rfl
theorem do_last {S : List Shf} {ss : List Sch} (h : SOk S ss) {x : ROp} (h0 : (doS S x).2.2 = 0) (hk : x.kind = 1) {j : Nat} (hj : j < (doS S x).1.length) (hs : (doS S x).1[j].t.schema = x.schema) (hn : (doS S x).1[j].t.name = x.table) : (doS S x).1[j].rows.getLast? = some x.row := by
  have ok := doS_ok x h
  have hS := own_shf ok hj
  rw [hs, hn] at hS
  rw [doS_is'] at h0
  have e := doS_is' S x
  split at h0
  · cases h0
  split at h0
  · cases h0
  split at h0
  · cases h0
  rename_i c1 c2 c3
  split at h0
  · rename_i c4; exact absurd h0 c4
  rename_i c4
  rw [if_neg c1, if_neg c2, if_neg c3, if_pos hk, if_neg c4] at e
  obtain ⟨q, hq⟩ : ∃ q, (shfAt S x.schema x.table).toNat = q := ⟨_, rfl⟩
  rw [hq] at e
  have e1 : (doS S x).1 = putS S q ((shfN S q).rows ++ [x.row]) := by rw [e]
  have hqs : shfAt S x.schema x.table = q := by omega
  have hT : shfAt (doS S x).1 x.schema x.table = shfAt S x.schema x.table := by
    rw [e1]
    unfold shfAt
    have a1 := idxP_mapS (fun t : Tab => eqS t.schema x.schema && eqS t.name x.table) Shf.t (putS S q ((shfN S q).rows ++ [x.row]))
    have a2 := idxP_mapS (fun t : Tab => eqS t.schema x.schema && eqS t.name x.table) Shf.t S
    rw [← a1, ← a2, putS_tabs]
  have hjq : j = q := by rw [hT, hqs] at hS; omega
  subst hjq
  have hjS : j < S.length := by rw [e1] at hj; unfold putS at hj; simpa using hj
  have : (doS S x).1[j] = ⟨(shfN S j).t, (shfN S j).rows ++ [x.row]⟩ := by
    have h5 : (doS S x).1[j]? = some ⟨(shfN S j).t, (shfN S j).rows ++ [x.row]⟩ := by
      rw [e1]; unfold putS; rw [List.getElem?_set_self hjS]
    rw [List.getElem?_eq_getElem hj] at h5
    exact Option.some.inj h5
  rw [this]
  simp
end Go.Proofs.Ytiadkchlkdaceaa

namespace Go.Proofs.Ytiadkchlkdaceaa
open Go.RowKit Go.Deep
set_option maxRecDepth 100000
set_option linter.unusedVariables false
def SelQ (w : World) (l : List (List Val)) (e : Ending) (w' : World) : Prop := ∃ h R, R.map ORow.vals = l ∧ e = .returned (.tuple #[.slice h.a l.length h.c, .int .i64 0]) ∧ Aft w w' ∧ RowsIn w' w.heap.size h R ∧ (rowBlks h R).Nodup
set_option maxHeartbeats 8000000 in
theorem choose12A (B s : Nat) (hl : Hd) (L : List OShf) (ss : List Sch) (q : Nat) (x : ROp) (A : Option Addr) (cap : Nat) (w : World) (hin : StoIn w B s hl L) (ok : SOk (storeS L) ss) (sm : ∀ y ∈ L, SmT y.x.t) (hq : q < L.length) :
    Calls Try.prog 25 #[.pointer (some ⟨s, 0, none⟩), .pointer (some ⟨L[q].p, 0, none⟩), .agg #[.int .i64 x.kind, .string x.role, .string x.schema, .string x.table, .slice A x.row.length cap, .string x.col, .int .i64 x.v.kind, .int .i64 x.v.int, .string x.v.text]] w (SelQ w (goneS (storeS L) q x.col x.v)) := by
  obtain ⟨kd, role, schema, table, row, col, v⟩ := x
  simp only
  have hqS : q < (storeS L).length := by simpa [storeS] using hq
  have hsn : shfN (storeS L) q = L[q].s := by rw [shfN_get hqS]; simp [storeS]
  obtain ⟨y, hy⟩ : ∃ y, L[q] = y := ⟨_, rfl⟩
  have hym : y ∈ L := by rw [← hy]; exact List.getElem_mem hq
  rw [hy] at hsn ⊢
  have CP := Lib.hid (show ∀ V, Aft w V → Calls Try.prog 45 #[.pointer (some ⟨y.p, 0, none⟩), .string col, .agg #[.int .i64 v.kind, .int .i64 v.int, .string v.text]] V (PartsP V (y.rows.filter (inO y.x.t.cols col v)) (y.rows.filter fun o => !inO y.x.t.cols col v o)) from fun V a => by
    have P := parted (hin.aft a) ok sm hym
    exact parts12 y.p y.x.t y.rows _ _ _ y.x.hc.a y.x.hc.c y.hr.a y.hr.c _ col v V P.row P.cols P.rows P.form P.heads P.most)
  have HG := Lib.hid (show goneS (storeS L) q col v = (y.rows.filter (inO y.x.t.cols col v)).map ORow.vals by unfold goneS; rw [hsn, filter_inO]; rfl)
  have P0 := parted hin ok sm hym
  have HGS := Lib.hid (show ∀ o ∈ y.rows.filter (inO y.x.t.cols col v), o ∈ y.rows from fun o ho => (List.mem_filter.1 ho).1)
  have HGL := Lib.hid (show (y.rows.filter (inO y.x.t.cols col v)).length ≤ 64 from Nat.le_trans (List.length_filter_le _ _) P0.most)
  have HSM := Lib.hid P0.small
  have hc8 : ∀ o ∈ y.rows, o.vals.length ≤ 1000000 := fun o ho => by
    have h1 := ((besideB_iff formB _ _).1 (P0.form o ho)).1
    have h2 := (ok.shf (x := y.s) (List.mem_map_of_mem hym)).2.1
    have h2 : y.x.t.cols.length ≤ 8 := h2
    omega
  have HC8 := Lib.hid hc8
  have HEY := Lib.hid (hin.each y hym)
  obtain ⟨W, hW⟩ : ∃ W, W = w.alloc (.cells #[.int .i64 kd, .string role, .string schema, .string table, .slice A row.length cap, .string col, .int .i64 v.kind, .int .i64 v.int, .string v.text] 46) := ⟨_, rfl⟩
  have aW : Aft w W := by rw [hW]; exact (Aft.refl w).alloc _
  have rW : RowAt W w.heap.size [.int .i64 kd, .string role, .string schema, .string table, .slice A row.length cap, .string col, .int .i64 v.kind, .int .i64 v.int, .string v.text] := by rw [hW]; exact box_row2 (Aft.refl _)
  have HAW := Lib.hid aW
  have HIN := Lib.hid hin
  have c5 := rW.cell (j := 5) rfl
  have c6 := rW.cell (j := 6) rfl
  have c7 := rW.cell (j := 7) rfl
  have c8 := rW.cell (j := 8) rfl
  have zB := rW.1
  clear aW rW hin hsn hy ok sm hqS hq P0 hc8
  obtain ⟨G, hG⟩ : ∃ G, y.rows.filter (inO y.x.t.cols col v) = G := ⟨_, rfl⟩
  rw [hG] at HG HGS HGL
  rw [hG] at CP
  clear hG
  go_enter Try.func25, Try.ntmps25
  go_wp2_with fail
  rw [← hW]
  clear hW
  go_wp2_with fail
  refine (CP.out W HAW.out).mono ?_
  rintro e X ⟨v1, v2, rfl, aX, o1, o2, hd⟩
  obtain ⟨h1, rfl, hn1⟩ := own_head o1
  have HO1 := Lib.hid (show X.ownsRow W.heap.size 41 1 (.slice h1.a G.length h1.c) G.length (G.flatMap ORow.cells) by have := o1; rwa [own_slice o1] at this)
  have e1 : h1.v = .slice h1.a G.length h1.c := own_slice o1
  rw [e1]
  have inX := HEY.out.aft (HAW.out.trans aX)
  have HS1 := Lib.hid (show SlAt X 1 RowsR h1.a h1.c (G.map ORow.vals) from RowsIn.at (rows_of inX HGS.out o1 (B2 := W.heap.size) (by have := HEY.out.ge; have := HEY.out.row.1; have := HAW.out.size; omega)) (by have := HGL.out; omega) fun o ho => HSM.out o (HGS.out o ho))
  have HAX := Lib.hid (HAW.out.trans aX)
  have CC := Lib.hid (copied12 (G.map ORow.vals) h1.a h1.c X HS1.out (by simpa using HGL.out) fun r hr => by
    obtain ⟨o, ho, rfl⟩ := List.mem_map.1 hr
    exact HC8.out o (HGS.out o ho))
  have CC2 := Lib.hid (show Calls Try.prog 27 #[.slice h1.a G.length h1.c] X (RowsP X (G.map ORow.vals)) by simpa using CC.out)
  clear aX o1 o2 hd CP c5 c6 c7 c8 zB inX CC e1
  go_wp2_with fail
  refine CC2.out.mono ?_
  rintro e Z ⟨h7, R, hR, rfl, aZ, inZ, nd⟩
  have HAZ := Lib.hid aZ
  have HIZ := Lib.hid inZ
  have HND := Lib.hid nd
  have HRR := Lib.hid hR
  clear aZ inZ nd hR CC2
  go_wp2_with fail
  go_ret2
  have aa := HAX.out.trans HAZ.out
  have zz := HAX.out.size
  rw [HG.out]
  exact ⟨h7, R, HRR.out, by simp only [List.length_map]; rfl, aa, ⟨own_down HIZ.out.own zz, fun o ho => own_down (HIZ.out.each o ho) zz⟩, HND.out⟩
set_option maxHeartbeats 8000000 in
theorem doSel12 (B s : Nat) (hl : Hd) (L : List OShf) (ss : List Sch) (sc n : ByteArray) (w : World) (hin : StoIn w B s hl L) (ok : SOk (storeS L) ss) (sm : ∀ y ∈ L, SmT y.x.t) (q : Nat) (hq : q < L.length) (k2 : shfAt (storeS L) sc n = q) :
    Calls Try.prog 9 #[.pointer (some ⟨s, 0, none⟩), .agg #[.int .i64 3, .string ⟨#[]⟩, .string sc, .string n, .slice none 0 0, .string ⟨#[]⟩, .int .i64 0, .int .i64 0, .string ⟨#[]⟩]] w (SelQ w (goneS (storeS L) q ⟨#[]⟩ ⟨0, 0, ⟨#[]⟩⟩)) := by
  have CM := Lib.hid (show ∀ V, Calls Try.prog 20 #[.agg #[.int .i64 3, .string ⟨#[]⟩, .string sc, .string n, .slice none 0 0, .string ⟨#[]⟩, .int .i64 0, .int .i64 0, .string ⟨#[]⟩]] V fun e w' => e = .returned (.bool true) ∧ Aft V w' from fun V => by
    have := may12 (sel12 sc n) none 0 V (by unfold Small; exact (Nat.zero_le _ : 0 ≤ 140737488351232)) (by unfold Small; exact (Nat.zero_le _ : 0 ≤ 140737488351232))
    rw [sel_may] at this
    exact this)
  have CF := Lib.hid (show ∀ V, Aft w V → Calls Try.prog 15 #[.pointer (some ⟨s, 0, none⟩), .string sc, .string n] V fun e w' => e = .returned (.pointer (some ⟨L[q].p, 0, none⟩)) ∧ V = w' from fun V a => by
    have := find12 s (L.map (·.p)) (storeS L) sc n V ((hin.aft a).is ok sm)
    rw [k2, ptrV_at (by simpa using hq), List.getElem_map] at this
    exact this)
  have CC := Lib.hid (show ∀ V, Aft w V → Calls Try.prog 25 #[.pointer (some ⟨s, 0, none⟩), .pointer (some ⟨L[q].p, 0, none⟩), .agg #[.int .i64 3, .string ⟨#[]⟩, .string sc, .string n, .slice none 0 0, .string ⟨#[]⟩, .int .i64 0, .int .i64 0, .string ⟨#[]⟩]] V (SelQ V (goneS (storeS L) q ⟨#[]⟩ ⟨0, 0, ⟨#[]⟩⟩)) from fun V a => choose12A B s hl L ss q (sel12 sc n) none 0 V (hin.aft a) ok sm hq)
  obtain ⟨py, hpy⟩ : ∃ p, L[q].p = p := ⟨_, rfl⟩
  rw [hpy] at CF CC
  obtain ⟨G, hG⟩ : ∃ G, goneS (storeS L) q ⟨#[]⟩ ⟨0, 0, ⟨#[]⟩⟩ = G := ⟨_, rfl⟩
  rw [hG] at CC ⊢
  obtain ⟨W, hW⟩ : ∃ W, W = w.alloc (.cells #[.int .i64 3, .string ⟨#[]⟩, .string sc, .string n, .slice none 0 0, .string ⟨#[]⟩, .int .i64 0, .int .i64 0, .string ⟨#[]⟩] 46) := ⟨_, rfl⟩
  have aW : Aft w W := by rw [hW]; exact (Aft.refl w).alloc _
  have rW : RowAt W w.heap.size [.int .i64 3, .string ⟨#[]⟩, .string sc, .string n, .slice none 0 0, .string ⟨#[]⟩, .int .i64 0, .int .i64 0, .string ⟨#[]⟩] := by rw [hW]; exact box_row2 (Aft.refl _)
  have HAW := Lib.hid aW
  have KF := Lib.hid (show ∀ V, Aft W V → (V.cell? ⟨w.heap.size, 0, none⟩ = some (.int .i64 3) ∧ V.cell? ⟨w.heap.size, 1, none⟩ = some (.string ⟨#[]⟩) ∧ V.cell? ⟨w.heap.size, 2, none⟩ = some (.string sc) ∧ V.cell? ⟨w.heap.size, 3, none⟩ = some (.string n) ∧ V.cell? ⟨w.heap.size, 4, none⟩ = some (.slice none 0 0) ∧ V.cell? ⟨w.heap.size, 5, none⟩ = some (.string ⟨#[]⟩) ∧ V.cell? ⟨w.heap.size, 6, none⟩ = some (.int .i64 0) ∧ V.cell? ⟨w.heap.size, 7, none⟩ = some (.int .i64 0) ∧ V.cell? ⟨w.heap.size, 8, none⟩ = some (.string ⟨#[]⟩) ∧ w.heap.size < V.heap.size) from fun V a => by
    have r := rW.aft a
    exact ⟨r.cell (j := 0) rfl, r.cell (j := 1) rfl, r.cell (j := 2) rfl, r.cell (j := 3) rfl, r.cell (j := 4) rfl, r.cell (j := 5) rfl, r.cell (j := 6) rfl, r.cell (j := 7) rfl, r.cell (j := 8) rfl, r.1⟩)
  have lw := Nat.lt_succ_self w.heap.size
  clear aW rW hin ok sm k2 hpy hG hq
  go_enter Try.func9, Try.ntmps9
  go_wp2_with fail
  rw [← hW]
  clear hW
  obtain ⟨c0, c1, c2, c3, c4, c5, c6, c7, c8, cz⟩ := KF.out W (Aft.refl W)
  go_wp2_with fail
  refine (CM.out W).mono ?_
  rintro e X ⟨rfl, aX⟩
  clear c0 c1 c2 c3 c4 c5 c6 c7 c8 cz CM
  obtain ⟨c0, c1, c2, c3, c4, c5, c6, c7, c8, cz⟩ := KF.out X aX
  have HAX := Lib.hid (HAW.out.trans aX)
  clear aX
  go_wp2_with fail
  refine (CF.out X HAX.out).mono ?_
  rintro e w1 ⟨rfl, rfl⟩
  clear CF
  go_wp2_with fail
  refine (CC.out X HAX.out).mono ?_
  rintro e Z ⟨h, R, hR, rfl, aZ, inZ, nd⟩
  have HAZ := Lib.hid aZ
  have HIZ := Lib.hid inZ
  have HND := Lib.hid nd
  have HRR := Lib.hid hR
  clear aZ inZ nd hR CC
  go_wp2_with fail
  go_ret2
  have zz := HAX.out.size
  exact ⟨h, R, HRR.out, rfl, HAX.out.trans HAZ.out, HIZ.out.down zz, HND.out⟩
end Go.Proofs.Ytiadkchlkdaceaa

namespace Go.Proofs.Ytiadkchlkdaceaa
open Go.RowKit Go.Deep
set_option maxRecDepth 100000
set_option linter.unusedVariables false
theorem do_awB {w V0 V : World} {S : List Shf} {ss : List Sch} (x : ROp) (A : Option Addr) (cap : Nat) (hI : AwI w V0 S) (a0 : Aft V0 V) (ok : SOk S ss) (hrow : SlAt V 3 ValR A cap x.row) (hA : ∀ b off, A = some ⟨b, off, none⟩ → 0 < x.row.length → b < w.heap.size) (hc : Small x.col.size) (hv : Small x.v.text.size) :
    Calls Try.prog 9 #[.pointer (some ⟨w.heap.size, 0, none⟩), .agg #[.int .i64 x.kind, .string x.role, .string x.schema, .string x.table, .slice A x.row.length cap, .string x.col, .int .i64 x.v.kind, .int .i64 x.v.int, .string x.v.text]] V (AwP w (doS S x)) := by
  obtain ⟨hl, L, rfl, h2, h3, h4⟩ := hI
  refine (do12 w.heap.size w.heap.size hl L ss x A cap V (h2.aft a0) ok h3 hrow (fun b off e h0 hb => by
    have h5 := hA b off e h0
    have h6 := (h2.lt b hb).1
    omega) hc hv).mono fun e w' ⟨L', h, R, q1, q2, q3, q4, q5, q6, q7, q8, q9, q10⟩ => ⟨h.a, h.c, q3, hl, L', q1, q5, fun y hy => ?_, aft_kb (h4.trans a0) q4 fun g hg => (h2.lt g hg).1⟩
  have : y.x ∈ L.map OShf.x := by rw [← q6]; exact List.mem_map_of_mem hy
  obtain ⟨y', hy', e⟩ := List.mem_map.1 this
  rw [← e]
  exact h3 y' hy'
theorem gone_all {S : List Shf} {ss : List Sch} (h : SOk S ss) {j : Nat} (hj : j < S.length) : goneS S j ⟨#[]⟩ ⟨0, 0, ⟨#[]⟩⟩ = S[j].rows := by
  unfold goneS
  rw [shfN_get hj]
  refine List.filter_eq_self.2 fun r hr => ?_
  unfold inS
  rw [Bool.or_eq_true]
  exact .inl (decide_eq_true (col_none (h.tab (List.getElem_mem hj)).cols))
theorem sel_aw {w V0 V : World} {S : List Shf} {ss : List Sch} (hI : AwI w V0 S) (a0 : Aft V0 V) (ok : SOk S ss) {j : Nat} (hj : j < S.length) :
    Calls Try.prog 9 #[.pointer (some ⟨w.heap.size, 0, none⟩), .agg #[.int .i64 3, .string ⟨#[]⟩, .string S[j].t.schema, .string S[j].t.name, .slice none 0 0, .string ⟨#[]⟩, .int .i64 0, .int .i64 0, .string ⟨#[]⟩]] V (SelQ V S[j].rows) := by
  obtain ⟨hl, L, rfl, h2, h3, h4⟩ := hI
  have := doSel12 w.heap.size w.heap.size hl L ss (storeS L)[j].t.schema (storeS L)[j].t.name V (h2.aft a0) ok h3 j (by simpa [storeS] using hj) (own_shf ok hj)
  rw [gone_all ok hj] at this
  exact this
theorem rop_at {w : World} {A : Option Addr} {cap : Nat} {l : List ROp} (h : SlAt w 9 RopR A cap l) {k : Nat} (hk : k < l.length) :
    ∃ b off A4 cap4, A = some ⟨b, off, none⟩ ∧ b < w.heap.size ∧ w.cell? ⟨b, off + k * 9, none⟩ = some (.int .i64 l[k].kind) ∧ w.cell? ⟨b, off + k * 9 + 1, none⟩ = some (.string l[k].role) ∧ w.cell? ⟨b, off + k * 9 + 2, none⟩ = some (.string l[k].schema) ∧ w.cell? ⟨b, off + k * 9 + 3, none⟩ = some (.string l[k].table) ∧
      w.cell? ⟨b, off + k * 9 + 4, none⟩ = some (.slice A4 l[k].row.length cap4) ∧ w.cell? ⟨b, off + k * 9 + 5, none⟩ = some (.string l[k].col) ∧ w.cell? ⟨b, off + k * 9 + 6, none⟩ = some (.int .i64 l[k].v.kind) ∧ w.cell? ⟨b, off + k * 9 + 7, none⟩ = some (.int .i64 l[k].v.int) ∧ w.cell? ⟨b, off + k * 9 + 8, none⟩ = some (.string l[k].v.text) ∧
      SlAt w 3 ValR A4 cap4 l[k].row ∧ Small l[k].col.size ∧ Small l[k].v.text.size ∧ Small l[k].schema.size ∧ Small l[k].table.size := by
  obtain ⟨b, off, cs, hA, hb, hl, ⟨A4, cap4, e, hr, s1, s2, s3, s4, _⟩, hc⟩ := h.2.2 k hk
  have g : ∀ j u, j < 9 → cs[j]? = some u → w.cell? ⟨b, off + k * 9 + j, none⟩ = some u := fun j u hj hu => by
    rw [Nat.add_assoc, hc j hj, hu]
  subst e
  exact ⟨b, off, A4, cap4, hA, hb, g 0 _ (by omega) rfl, g 1 _ (by omega) rfl, g 2 _ (by omega) rfl, g 3 _ (by omega) rfl, g 4 _ (by omega) rfl, g 5 _ (by omega) rfl, g 6 _ (by omega) rfl, g 7 _ (by omega) rfl, g 8 _ (by omega) rfl, hr, s1, s2, s3, s4⟩
end Go.Proofs.Ytiadkchlkdaceaa

namespace Go.Proofs.Ytiadkchlkdaceaa
open Go.RowKit Go.Deep
set_option maxRecDepth 100000
set_option linter.unusedVariables false
set_option maxHeartbeats 4000000 in
theorem rows11_same (l : List (List Val)) (A : Option Addr) (cap : Nat) (B : Option Addr) (capB : Nat) (w : World) (h1 : SlAt w 1 RowsR A cap l) (h2 : SlAt w 1 RowsR B capB l) :
    Calls Try.prog 11 #[.slice A l.length cap, .slice B l.length capB] w fun e w' => e = .returned (.bool true) ∧ Aft w w' := by
  have hlen := h1.len
  have H1 := Lib.hid h1
  have H2 := Lib.hid h2
  clear h1 h2
  go_enter Try.func11, Try.ntmps11
  go_wp2_with fail
  go_loopw [5] (fun i wr => ∃ k : Nat, k ≤ l.length ∧ i = .int .i64 k ∧ Aft w wr) (fun i _ => l.length - (intOf i).toNat)
  case atStart => exact ⟨0, Nat.zero_le _, rfl, Aft.refl _⟩
  case round =>
    obtain ⟨k, hk, rfl, ha⟩ := hrel
    have HA := Lib.hid ha
    clear ha
    by_cases hlt : k < l.length
    · obtain ⟨b, off, A2, cap2, hA, hb, c0, hv⟩ := row_at (rows_aft HA.out H1.out) hlt
      obtain ⟨b9, off9, A9, cap9, hA9, hb9, c9, hv9⟩ := row_at (rows_aft HA.out H2.out) hlt
      obtain ⟨u, hu⟩ : ∃ u, l[k] = u := ⟨_, rfl⟩
      rw [hu] at c0 hv c9 hv9
      have C := Lib.hid (show ∀ x : Lat wr, Calls Try.prog 12 #[.slice A2 u.length cap2, .slice A9 u.length cap9] (lat wr x) fun e w'' => e = .returned (.bool true) ∧ Aft (lat wr x) w'' from fun x => by
        have := rsame_any A2 cap2 u A9 cap9 u (lat wr x) (vals_aft ((Aft.refl wr).lat x) hv) (vals_aft ((Aft.refl wr).lat x) hv9)
        rw [eqVs_refl] at this
        exact this)
      rw [hA, hA9]
      clear hv hv9 hu hA hA9
      go_wp2_with fail
      refine wp_region_lat (by kernel_rfl) (by kernel_rfl) ?_
      repeat (go_big_quiet_step ((go_at_call 12; exact Calls.lat_of (C.out _))))
      refine wpQuiet_nil ?_
      intro _ hw'
      obtain ⟨x, hw''⟩ := hw'
      subst hw''
      have HA2 := Lib.hid (HA.out.lat x)
      go_wp2_with fail
      go_roundw
      case rel => exact ⟨k + 1, by omega, by go_num, HA2.out⟩
      case measure => simp [intOf]; omega
    · go_wp2_with fail
      go_ret
      exact ⟨rfl, HA.out⟩
end Go.Proofs.Ytiadkchlkdaceaa

namespace Go.Proofs.Ytiadkchlkdaceaa
open Go.RowKit Go.Deep
set_option maxRecDepth 100000
set_option linter.unusedVariables false
theorem dmp_at {w : World} {B : Nat} {h : Hd} {D : List ODmp} (hd : DmpsIn w B h D) {k : Nat} (hk : k < D.length) :
    ∃ g, h.a = some ⟨g, 0, none⟩ ∧ g < w.heap.size ∧ w.cell? ⟨g, k * 4, none⟩ = some (.string D[k].schema) ∧ w.cell? ⟨g, k * 4 + 1, none⟩ = some (.string D[k].name) ∧ w.cell? ⟨g, k * 4 + 3, none⟩ = some (.slice D[k].hr.a D[k].rows.length D[k].hr.c) := by
  obtain ⟨g, ha, _, hr⟩ := own_place hd.lst (by omega)
  have hl : ∀ d : ODmp, d.cells.length = 4 := fun d => rfl
  have q : ∀ j u, j < 4 → D[k].cells[j]? = some u → w.cell? ⟨g, k * 4 + j, none⟩ = some u := fun j u hj hu => by
    have e := flatMap_get ODmp.cells 4 hl D k j hk hj
    rw [hu] at e
    have hlt : k * 4 + j < (D.flatMap ODmp.cells).length := (List.getElem?_eq_some_iff.1 e).1
    rw [hr.2.1 _ hlt, e]
  refine ⟨g, ha, hr.1, q 0 _ (by omega) rfl, q 1 _ (by omega) rfl, ?_⟩
  have hrow := (hd.each _ (List.getElem_mem hk)).row.own
  exact q 3 _ (by omega) (by show some D[k].hr.v = _; rw [own_slice hrow])
theorem dmp_rows {w : World} {B : Nat} {h : Hd} {D : List ODmp} {S : List Shf} {ss : List Sch} (hd : DmpsIn w B h D) (e : D.map ODmp.s = dumpS S) (ok : SOk S ss) {k : Nat} (hk : k < D.length) :
    ∃ hS : k < S.length, D[k].schema = S[k].t.schema ∧ D[k].name = S[k].t.name ∧ D[k].rows.map (·.vals) = S[k].rows ∧ SlAt w 1 RowsR D[k].hr.a D[k].hr.c S[k].rows := by
  have hl : D.length = S.length := by have := congrArg List.length e; simpa [dumpS] using this
  have hS : k < S.length := by omega
  have ek : D[k].s = ⟨S[k].t.schema, S[k].t.name, S[k].t.cols, S[k].rows⟩ := by
    have h1 : (D.map ODmp.s)[k]? = (dumpS S)[k]? := by rw [e]
    unfold dumpS at h1
    rw [List.getElem?_map, List.getElem?_map, List.getElem?_eq_getElem hk, List.getElem?_eq_getElem hS] at h1
    simpa using h1
  have e3 : D[k].rows.map (·.vals) = S[k].rows := congrArg Dmp.rows ek
  have hok := ok.shf (List.getElem_mem hS)
  refine ⟨hS, congrArg Dmp.schema ek, congrArg Dmp.name ek, e3, ?_⟩
  rw [← e3]
  have hlen : D[k].rows.length = S[k].rows.length := by rw [← e3, List.length_map]
  refine RowsIn.at (hd.each _ (List.getElem_mem hk)).row (by omega) fun o ho => row_small hok.2.1 (hok.2.2 o.vals ?_)
  rw [← e3]
  exact List.mem_map_of_mem ho
end Go.Proofs.Ytiadkchlkdaceaa

namespace Go.Proofs.Ytiadkchlkdaceaa
open Go.RowKit Go.Deep
set_option maxRecDepth 100000
set_option linter.unusedVariables false
theorem AwI.to {w W : World} {S : List Shf} (h : AwI w W S) : Aft w W := by obtain ⟨_, _, _, _, _, q⟩ := h; exact q
theorem rop_at2 {w : World} {A : Option Addr} {cap : Nat} {l : List ROp} (h : SlAt w 9 RopR A cap l) {k : Nat} (hk : k < l.length) :
    ∃ b off A4 cap4, A = some ⟨b, off, none⟩ ∧ (∀ V, Aft w V → b < V.heap.size ∧ V.cell? ⟨b, off + k * 9, none⟩ = some (.int .i64 l[k].kind) ∧ V.cell? ⟨b, off + k * 9 + 1, none⟩ = some (.string l[k].role) ∧ V.cell? ⟨b, off + k * 9 + 2, none⟩ = some (.string l[k].schema) ∧ V.cell? ⟨b, off + k * 9 + 3, none⟩ = some (.string l[k].table) ∧
      V.cell? ⟨b, off + k * 9 + 4, none⟩ = some (.slice A4 l[k].row.length cap4) ∧ V.cell? ⟨b, off + k * 9 + 5, none⟩ = some (.string l[k].col) ∧ V.cell? ⟨b, off + k * 9 + 6, none⟩ = some (.int .i64 l[k].v.kind) ∧ V.cell? ⟨b, off + k * 9 + 7, none⟩ = some (.int .i64 l[k].v.int) ∧ V.cell? ⟨b, off + k * 9 + 8, none⟩ = some (.string l[k].v.text) ∧
      SlAt V 3 ValR A4 cap4 l[k].row) ∧ Small l[k].col.size ∧ Small l[k].v.text.size ∧ (∀ g o2, A4 = some ⟨g, o2, none⟩ → 0 < l[k].row.length → g < w.heap.size) := by
  obtain ⟨b, off, A4, cap4, hA, hb, c0, c1, c2, c3, c4, c5, c6, c7, c8, hr, s1, s2, _, _⟩ := rop_at h hk
  have g : ∀ {V : World} (a : Aft w V) {o2 : Nat} {u : Value}, w.cell? ⟨b, o2, none⟩ = some u → V.cell? ⟨b, o2, none⟩ = some u := @fun V a o2 u hu => (Below.cell a (p := ⟨b, o2, none⟩) hb).trans hu
  refine ⟨b, off, A4, cap4, hA, fun V a => ⟨Nat.lt_of_lt_of_le hb a.size, g a c0, g a c1, g a c2, g a c3, g a c4, g a c5, g a c6, g a c7, g a c8, vals_aft a hr⟩, s1, s2, fun g2 o2 e h0 => ?_⟩
  obtain ⟨b2, off2, cs, hA2, hb2, _⟩ := hr.2.2 0 h0
  rw [hA2] at e
  injection e with e
  injection e with e1
  omega
theorem loadS_0 {S : List Shf} {ss : List Sch} {o : Objs} (h : SOk S ss) (hk : (loadS S o).2 = 0) : SOk (loadS S o).1 o.schemas := by
  refine loadS_ok h ?_
  unfold loadS at hk
  split at hk
  · assumption
  · cases hk
set_option maxHeartbeats 8000000 in
theorem law_ssel (o : Objs) (As : Option Addr) (caps : Nat) (At : Option Addr) (capt : Nat) (ops : List ROp) (R : Option Addr) (capR : Nat) (w : World) (hsch : SlAt w 2 SchR As caps o.schemas) (htab : SlAt w 5 TabR At capt o.tables) (hops : SlAt w 9 RopR R capR ops) :
    Calls Try.prog 3 #[.agg #[.slice As o.schemas.length caps, .slice At o.tables.length capt], .slice R ops.length capR] w fun e w' => e = .returned (.bool true) ∧ Aft w w' := by
  have hlen := hops.len
  have CL := Lib.hid (show ∀ V, Aft w V → Calls Try.prog 5 #[.agg #[.int .i64 0, .int .i64 0, .slice As o.schemas.length caps, .slice At o.tables.length capt, .slice none 0 0, .slice none 0 0, .slice none 0 0]] V (LargeP V o) from fun V a => large12 o As caps At capt V (schs_aft a hsch) (tabs_aft a htab))
  have HS := Lib.hid hsch
  have HT := Lib.hid htab
  have HO := Lib.hid hops
  obtain ⟨W, hW⟩ : ∃ W, W = w.alloc (.cells #[.slice As o.schemas.length caps, .slice At o.tables.length capt] 25) := ⟨_, rfl⟩
  have aW : Aft w W := by rw [hW]; exact (Aft.refl w).alloc _
  have r0 : RowAt W w.heap.size [.slice As o.schemas.length caps, .slice At o.tables.length capt] := by rw [hW]; exact box_row2 (Aft.refl _)
  have HAW := Lib.hid aW
  have KF := Lib.hid (show ∀ V, Aft W V → (V.cell? ⟨w.heap.size, 0, none⟩ = some (.slice As o.schemas.length caps) ∧ V.cell? ⟨w.heap.size, 1, none⟩ = some (.slice At o.tables.length capt) ∧ w.heap.size < V.heap.size) from fun V a => by
    have r := r0.aft a
    exact ⟨r.cell (j := 0) rfl, r.cell (j := 1) rfl, r.1⟩)
  clear aW r0 hsch htab hops
  go_enter Try.func3, Try.ntmps3
  go_wp2_with fail
  rw [← hW]
  clear hW
  obtain ⟨a0, a1, az⟩ := KF.out W (Aft.refl W)
  go_wp2_with fail
  refine (CL.out W HAW.out).mono ?_
  rintro e X ⟨b, rfl, _, aX⟩
  have HWX := Lib.hid aX
  have HX := Lib.hid (HAW.out.trans aX)
  clear a0 a1 az CL aX
  cases b
  · by_cases hr : (60 : Int) < (ops.length : Int)
    · go_wp2_with fail
      go_ret
      exact ⟨rfl, HX.out⟩
    · go_wp2_with fail
      refine (new_aw X).mono ?_
      rintro e V0 ⟨rfl, hI⟩
      obtain ⟨a0, a1, az⟩ := KF.out V0 (HWX.out.trans hI.to)
      have aV := HX.out.trans hI.to
      have L1 := Lib.hid (load_aw o As caps At capt hI (Aft.refl V0) nil_ok (schs_aft aV HS.out) (tabs_aft aV HT.out))
      have OK0 := Lib.hid (fun h : (loadS [] o).2 = 0 => loadS_0 nil_ok h)
      clear hI aV
      go_wp2_with fail
      refine L1.out.mono ?_
      rintro e V1 ⟨rfl, hI⟩
      obtain ⟨c, hc⟩ : ∃ c, (loadS [] o).2 = c := ⟨_, rfl⟩
      obtain ⟨S0, hS0⟩ : ∃ S0, (loadS [] o).1 = S0 := ⟨_, rfl⟩
      rw [hS0] at hI
      rw [hc, hS0] at OK0
      rw [hc]
      have I1 := Lib.hid hI
      clear hI L1 hc hS0 a0 a1 az
      by_cases h0 : c = 0
      · have OK1 := Lib.hid (OK0.out h0)
        subst h0
        clear OK0
        go_wp2_with fail
        go_loopw [6] (fun i wr => ∃ (k : Nat) (S : List Shf), k ≤ ops.length ∧ i = .int .i64 k ∧ AwI X wr S ∧ SOk S o.schemas) (fun i _ => ops.length - (intOf i).toNat)
        case atStart => exact ⟨0, S0, Nat.zero_le _, rfl, I1.out, OK1.out⟩
        case round =>
          obtain ⟨k, S, hk, rfl, hI2, hok2⟩ := hrel
          have KI := Lib.hid hI2
          have KO := Lib.hid hok2
          have HR := Lib.hid (HX.out.trans hI2.to)
          clear hI2 hok2
          by_cases hlt : k < ops.length
          · obtain ⟨b, off, A4, cap4, hA, hCO, s1, s2, hab⟩ := rop_at2 HO.out hlt
            have CO := Lib.hid hCO
            obtain ⟨hb, c0, c1, c2, c3, c4, c5, c6, c7, c8, hrow⟩ := hCO wr HR.out
            have D1 := Lib.hid (do_awB ops[k] A4 cap4 KI.out (Aft.refl wr) KO.out hrow (fun g o2 e h => Nat.lt_of_lt_of_le (hab g o2 e h) HX.out.size) s1 s2)
            have O3 := Lib.hid (doS_ok ops[k] KO.out)
            have hLAST : ∀ x : ROp, (doS S x).2.2 = 0 → x.kind = 1 → ∀ j (hj : j < (doS S x).1.length), (doS S x).1[j].t.schema = x.schema → (doS S x).1[j].t.name = x.table → (doS S x).1[j].rows.getLast? = some x.row := fun x h0 hk j hj hs hn => do_last KO.out h0 hk hj hs hn
            have HLAST := Lib.hid (hLAST ops[k])
            obtain ⟨x, hx⟩ : ∃ x, ops[k] = x := ⟨_, rfl⟩
            rw [hx] at c0 c1 c2 c3 c4 c5 c6 c7 c8 CO D1 O3 HLAST
            rw [hA]
            clear hx hrow s1 s2 hab hA hCO hLAST
            by_cases hr2 : (1000 : Int) < (x.row.length : Int)
            · go_wp2_with fail
              go_ret
              exact ⟨rfl, HR.out⟩
            · go_wp2_with fail
              refine D1.out.mono ?_
              rintro e V2 ⟨A5, q5, rfl, hI3⟩
              obtain ⟨S2, hS2⟩ : ∃ S2, (doS S x).1 = S2 := ⟨_, rfl⟩
              obtain ⟨cd, hcd⟩ : ∃ cd, (doS S x).2.2 = cd := ⟨_, rfl⟩
              rw [hS2] at hI3 O3
              rw [hS2, hcd] at HLAST
              rw [hcd]
              have I3 := Lib.hid hI3
              have HR2 := Lib.hid (HX.out.trans hI3.to)
              clear hI3 hcd hS2 D1 c0 c1 c2 c3 c4 c5 c6 c7 c8 hb
              go_wp2_with fail
              refine (dump_aw I3.out (Aft.refl V2) O3.out).mono ?_
              rintro e V3 ⟨h, D, hD, rfl, a3, inD⟩
              have hDl : (dumpS S2).length = D.length := by rw [← hD, List.length_map]
              have hDm : D.length ≤ 64 := by
                have h1 := O3.out.good.nt
                rw [← hDl]
                simpa [dumpS] using h1
              rw [hDl]
              have HDM := Lib.hid hDm
              have HD := Lib.hid hD
              have HIN := Lib.hid inD
              have HA3 := Lib.hid a3
              clear hD inD a3 hDl
              go_wp2_with fail
              go_loopw [10] (fun i wr => ∃ k2 : Nat, k2 ≤ D.length ∧ i = .int .i64 k2 ∧ Aft V3 wr) (fun i _ => D.length - (intOf i).toNat)
              case atStart => exact ⟨0, Nat.zero_le _, rfl, Aft.refl _⟩
              case round =>
                obtain ⟨k2, hk2, rfl, ha4⟩ := hrel
                have HA4 := Lib.hid ha4
                have HA := Lib.hid (HA3.out.trans ha4)
                clear ha4
                by_cases hlt2 : k2 < D.length
                · obtain ⟨hS, e1, e2, e3, hrw⟩ := dmp_rows (HIN.out.aft HA4.out) HD.out O3.out hlt2
                  obtain ⟨g, hh, hg, d0, d1, d3⟩ := dmp_at (HIN.out.aft HA4.out) hlt2
                  have e4 : D[k2].rows.length = S2[k2].rows.length := by rw [← e3, List.length_map]
                  rw [e1] at d0
                  rw [e2] at d1
                  rw [e4] at d3
                  have DR := Lib.hid hrw
                  have SA := Lib.hid (fun V (a : Aft wr V) => sel_aw I3.out (HA.out.trans a) O3.out hS)
                  have HL := Lib.hid (fun h0 hk hs hn => HLAST.out h0 hk k2 hS hs hn)
                  have HSO := Lib.hid (O3.out.shf (List.getElem_mem hS))
                  obtain ⟨y, hy⟩ : ∃ y, S2[k2] = y := ⟨_, rfl⟩
                  obtain ⟨hr9, hhr⟩ : ∃ q, D[k2].hr = q := ⟨_, rfl⟩
                  rw [hy] at d0 d1 d3 DR SA HL HSO
                  rw [hhr] at d3 DR
                  rw [hh]
                  clear e1 e2 e3 e4 hrw hy hhr hh
                  have HLT2 := Lib.hid hlt2
                  go_wp2_with fail
                  refine wp_region_mix [true, true, true, true, true, true, true, true, true, true, true, false, false, true, true, true, true, false] 17 (fun w' => ∃ x : Lat wr, w' = lat wr x) (by kernel_rfl) (by kernel_rfl) ((Aft.refl wr).drew).to ?_
                  refine wpMix_reads 11 rfl rfl ?_
                  simp only [List.take_succ_cons, List.take_zero, List.drop_succ_cons, List.drop_zero]
                  repeat (go_big_quiet_step (fail))
                  refine wpQuiet_nil ?_
                  refine wpMix_step rfl (fun K hK => ?_)
                  go_simp
                  refine hK _ _ (fun _ => ((Aft.refl wr).drew).to) ?_
                  clear hK K
                  refine wpMix_step rfl (fun K hK => ?_)
                  go_simp
                  obtain ⟨D9, hD9⟩ : ∃ D9, D9 = wr.drew := ⟨_, rfl⟩
                  have aD : Aft wr D9 := by rw [hD9]; exact (Aft.refl wr).drew
                  rw [← hD9]
                  go_at_call 9
                  refine (SA.out D9 aD).mono ?_
                  rintro e Z ⟨hz, R9, hR9, rfl, aZ, inZ, ndZ⟩
                  dsimp only
                  refine hK _ _ (fun _ => (aD.trans aZ).to) ?_
                  clear hK K hD9
                  refine wpMix_reads 4 rfl rfl ?_
                  simp only [List.take_succ_cons, List.take_zero, List.drop_succ_cons, List.drop_zero]
                  repeat (go_big_quiet_step (fail))
                  refine wpQuiet_nil ?_
                  refine wpMix_step rfl (fun K hK => ?_)
                  go_simp
                  refine hK _ _ (fun h => absurd h (by decide)) ?_
                  clear hK K
                  have HZ := Lib.hid (aD.trans aZ)
                  have HAZ := Lib.hid (HA.out.trans (aD.trans aZ))
                  have hLZ : SlAt Z 1 RowsR hz.a hz.c y.rows := by
                    rw [← hR9]
                    have e5 : R9.length = y.rows.length := by rw [← hR9, List.length_map]
                    have hso := HSO.out
                    refine RowsIn.at inZ (by omega) fun o ho => row_small hso.2.1 (hso.2.2 o.vals ?_)
                    rw [← hR9]
                    exact List.mem_map_of_mem ho
                  have LZ := Lib.hid hLZ
                  have LD := Lib.hid (rows_aft HZ.out DR.out)
                  have HIZ := Lib.hid (HIN.out.aft (HA4.out.trans HZ.out))
                  have CM := Lib.hid (rows11_same y.rows hz.a hz.c hr9.a hr9.c Z LZ.out LD.out)
                  have d0' : Z.cell? ⟨g, k2 * 4, none⟩ = some (.string y.t.schema) := (Below.cell HZ.out (p := ⟨g, k2 * 4, none⟩) hg).trans d0
                  have d1' : Z.cell? ⟨g, k2 * 4 + 1, none⟩ = some (.string y.t.name) := (Below.cell HZ.out (p := ⟨g, k2 * 4 + 1, none⟩) hg).trans d1
                  have d3' : Z.cell? ⟨g, k2 * 4 + 3, none⟩ = some (.slice hr9.a y.rows.length hr9.c) := (Below.cell HZ.out (p := ⟨g, k2 * 4 + 3, none⟩) hg).trans d3
                  have hg' : g < Z.heap.size := Nat.lt_of_lt_of_le hg HZ.out.size
                  clear aD aZ inZ ndZ d0 d1 d3 hg SA hR9 hLZ DR HIZ
                  refine NoPanic.normal ?_
                  go_wp2_with fail
                  refine CM.out.mono ?_
                  rintro e Z2 ⟨rfl, aZ2⟩
                  have HZ2 := Lib.hid (HAZ.out.trans aZ2)
                  have HA42 := Lib.hid (HA4.out.trans (HZ.out.trans aZ2))
                  have d0 : Z2.cell? ⟨g, k2 * 4, none⟩ = some (.string y.t.schema) := (Below.cell aZ2 (p := ⟨g, k2 * 4, none⟩) hg').trans d0'
                  have d1 : Z2.cell? ⟨g, k2 * 4 + 1, none⟩ = some (.string y.t.name) := (Below.cell aZ2 (p := ⟨g, k2 * 4 + 1, none⟩) hg').trans d1'
                  have hg : g < Z2.heap.size := Nat.lt_of_lt_of_le hg' aZ2.size
                  have LZ2 := Lib.hid (rows_aft aZ2 LZ.out)
                  obtain ⟨hb, c0, _, c2, c3, c4, _, _, _, _, hrow⟩ := CO.out Z2 (HR2.out.trans HZ2.out)
                  have HRW := Lib.hid hrow
                  clear d0' d1' d3' hg' aZ2 LZ LD CM hrow
                  go_wp2_with fail
                  clear hb c0 c4 HRW
                  obtain ⟨b1, hb1⟩ : ∃ b1, (y.t.schema.toList == x.schema.toList) = b1 := ⟨_, rfl⟩
                  obtain ⟨b2, hb2⟩ : ∃ b2, (y.t.name.toList == x.table.toList) = b2 := ⟨_, rfl⟩
                  obtain ⟨hb, _⟩ := CO.out Z2 (HR2.out.trans HZ2.out)
                  have HB1 := Lib.hid hb1
                  have HB2 := Lib.hid hb2
                  cases b1
                  · refine wp_region_lat (by kernel_rfl) (by kernel_rfl) ?_
                    repeat (go_big_quiet_step (fail))
                    refine wpQuiet_nil ?_
                    intro Z3 hw'
                    have a23 : Aft Z2 Z3 := by obtain ⟨x9, hw''⟩ := hw'; rw [hw'']; exact (Aft.refl Z2).lat x9
                    have HZ3 := Lib.hid (HZ2.out.trans a23)
                    have HA43 := Lib.hid (HA42.out.trans a23)
                    obtain ⟨hb, c0, _, _, _, c4, _, _, _, _, hrow⟩ := CO.out Z3 (HR2.out.trans HZ3.out)
                    have LZ3 := Lib.hid (rows_aft a23 LZ2.out)
                    have HRW := Lib.hid hrow
                    clear hw' a23 hrow LZ2
                    go_wp2_with fail
                    by_cases hcd : cd = 0
                    · subst hcd
                      refine wp_region_lat (by kernel_rfl) (by kernel_rfl) ?_
                      repeat (go_big_quiet_step (fail))
                      refine wpQuiet_nil ?_
                      intro Z4 hw'
                      have a34 : Aft Z3 Z4 := by obtain ⟨x9, hw''⟩ := hw'; rw [hw'']; exact (Aft.refl Z3).lat x9
                      have HA44 := Lib.hid (HA43.out.trans a34)
                      clear hw' a34
                      go_wp2_with fail
                      go_roundw
                      case rel => have := HDM.out; exact ⟨k2 + 1, by omega, by go_num, HA44.out⟩
                      case measure => have := HDM.out; simp [intOf]; omega
                    · have hd : (cd == 0) = false := by simpa using hcd
                      refine wp_region_lat (by kernel_rfl) (by kernel_rfl) ?_
                      repeat (go_big_quiet_step (fail))
                      refine wpQuiet_nil ?_
                      intro Z4 hw'
                      have a34 : Aft Z3 Z4 := by obtain ⟨x9, hw''⟩ := hw'; rw [hw'']; exact (Aft.refl Z3).lat x9
                      have HA44 := Lib.hid (HA43.out.trans a34)
                      clear hw' a34
                      go_wp2_with fail
                      go_roundw
                      case rel => have := HDM.out; exact ⟨k2 + 1, by omega, by go_num, HA44.out⟩
                      case measure => have := HDM.out; simp [intOf]; omega
                  · refine wp_region_lat (by kernel_rfl) (by kernel_rfl) ?_
                    repeat (go_big_quiet_step (fail))
                    refine wpQuiet_nil ?_
                    intro Z3 hw'
                    have a23 : Aft Z2 Z3 := by obtain ⟨x9, hw''⟩ := hw'; rw [hw'']; exact (Aft.refl Z2).lat x9
                    have HZ3 := Lib.hid (HZ2.out.trans a23)
                    have HA43 := Lib.hid (HA42.out.trans a23)
                    obtain ⟨hb, c0, _, _, _, c4, _, _, _, _, hrow⟩ := CO.out Z3 (HR2.out.trans HZ3.out)
                    have LZ3 := Lib.hid (rows_aft a23 LZ2.out)
                    have HRW := Lib.hid hrow
                    clear hw' a23 hrow LZ2
                    go_wp2_with fail
                    by_cases hcd : cd = 0
                    · subst hcd
                      cases b2
                      · refine wp_region_lat (by kernel_rfl) (by kernel_rfl) ?_
                        repeat (go_big_quiet_step (fail))
                        refine wpQuiet_nil ?_
                        intro Z4 hw'
                        have a34 : Aft Z3 Z4 := by obtain ⟨x9, hw''⟩ := hw'; rw [hw'']; exact (Aft.refl Z3).lat x9
                        have HA44 := Lib.hid (HA43.out.trans a34)
                        clear hw' a34
                        go_wp2_with fail
                        go_roundw
                        case rel => have := HDM.out; exact ⟨k2 + 1, by omega, by go_num, HA44.out⟩
                        case measure => have := HDM.out; simp [intOf]; omega
                      · by_cases hkd : x.kind = 1
                        · have hgl := HL.out rfl hkd ((eqS_iff9 _ _).1 HB1.out) ((eqS_iff9 _ _).1 HB2.out)
                          have hpos : 0 < y.rows.length := List.length_pos_iff.2 fun e => by rw [e] at hgl; cases hgl
                          have hgt : y.rows[y.rows.length - 1]'(by omega) = x.row := by
                            rw [List.getLast?_eq_some_getLast (List.length_pos_iff.1 hpos), List.getLast_eq_getElem] at hgl
                            exact Option.some.inj hgl
                          obtain ⟨b8, off8, A8, cap8, hA8, hb8, c8, hv8⟩ := row_at LZ3.out (k := y.rows.length - 1) (by omega)
                          rw [hgt] at c8 hv8
                          rw [hA8]
                          have C := Lib.hid (show ∀ x9 : Lat Z3, Calls Try.prog 12 #[.slice A8 x.row.length cap8, .slice A4 x.row.length cap4] (lat Z3 x9) fun e w'' => e = .returned (.bool true) ∧ Aft (lat Z3 x9) w'' from fun x9 => by
                            have := rsame_any A8 cap8 x.row A4 cap4 x.row (lat Z3 x9) (vals_aft ((Aft.refl Z3).lat x9) hv8) (vals_aft ((Aft.refl Z3).lat x9) HRW.out)
                            rw [eqVs_refl] at this
                            exact this)
                          obtain ⟨n9, hn9⟩ : ∃ n9, y.rows.length = n9 + 1 := ⟨y.rows.length - 1, by omega⟩
                          rw [hn9] at c8
                          rw [hn9]
                          have hd : (x.kind == 1) = true := by simpa using hkd
                          have hd2 : (((n9 + 1 : Nat) : Int) == 0) = false := by simp; omega
                          have hd3 : (((n9 : Int) + 1) == 0) = false := by simp; omega
                          rw [Nat.add_sub_cancel] at c8
                          have hn64 := HSO.out.1
                          have hw : wrap64 (n9 : Int) = n9 := by unfold wrap64; omega
                          clear hgt hgl hv8 hA8 hn64
                          refine wp_region_lat (by kernel_rfl) (by kernel_rfl) ?_
                          repeat (go_big_quiet_step ((go_at_call 12; exact Calls.lat_of (C.out _))))
                          refine wpQuiet_nil ?_
                          intro Z4 hw'
                          have a34 : Aft Z3 Z4 := by obtain ⟨x9, hw''⟩ := hw'; rw [hw'']; exact (Aft.refl Z3).lat x9
                          have HA44 := Lib.hid (HA43.out.trans a34)
                          clear hw' a34
                          go_wp2_with fail
                          go_roundw
                          case rel => have := HDM.out; exact ⟨k2 + 1, by omega, by go_num, HA44.out⟩
                          case measure => have := HDM.out; simp [intOf]; omega
                        · have hd : (x.kind == 1) = false := by simpa using hkd
                          refine wp_region_lat (by kernel_rfl) (by kernel_rfl) ?_
                          repeat (go_big_quiet_step (fail))
                          refine wpQuiet_nil ?_
                          intro Z4 hw'
                          have a34 : Aft Z3 Z4 := by obtain ⟨x9, hw''⟩ := hw'; rw [hw'']; exact (Aft.refl Z3).lat x9
                          have HA44 := Lib.hid (HA43.out.trans a34)
                          clear hw' a34
                          go_wp2_with fail
                          go_roundw
                          case rel => have := HDM.out; exact ⟨k2 + 1, by omega, by go_num, HA44.out⟩
                          case measure => have := HDM.out; simp [intOf]; omega
                    · have hd : (cd == 0) = false := by simpa using hcd
                      refine wp_region_lat (by kernel_rfl) (by kernel_rfl) ?_
                      repeat (go_big_quiet_step (fail))
                      refine wpQuiet_nil ?_
                      intro Z4 hw'
                      have a34 : Aft Z3 Z4 := by obtain ⟨x9, hw''⟩ := hw'; rw [hw'']; exact (Aft.refl Z3).lat x9
                      have HA44 := Lib.hid (HA43.out.trans a34)
                      clear hw' a34
                      go_wp2_with fail
                      go_roundw
                      case rel => have := HDM.out; exact ⟨k2 + 1, by omega, by go_num, HA44.out⟩
                      case measure => have := HDM.out; simp [intOf]; omega
                · go_wp2_with fail
                  go_roundw
                  case rel => exact ⟨k + 1, S2, by omega, by go_num, I3.out.aft (HA3.out.trans HA4.out), O3.out⟩
                  case measure => simp [intOf]; omega
          · go_wp2_with fail
            refine (awake12 wr).mono ?_
            rintro e Z ⟨rfl, aZ⟩
            go_wp2_with fail
            go_ret
            exact ⟨rfl, HR.out.trans aZ⟩
      · go_wp2_with fail
        refine (awake12 V1).mono ?_
        rintro e Z ⟨rfl, aZ⟩
        go_wp2_with fail
        go_ret
        exact ⟨rfl, (HX.out.trans I1.out.to).trans aZ⟩
  · go_wp2_with fail
    go_ret
    exact ⟨rfl, HX.out⟩
end Go.Proofs.Ytiadkchlkdaceaa

namespace Go.Proofs.Ytiadkchlkdaceaa
open Go.ChangeShapes Go.WideShapes Go.ChangeAt Go.RowKit
set_option maxRecDepth 100000
set_option linter.unusedVariables false
section
variable {H : Type} {enc : TypeId × Value → H} {w : World}
theorem rd_rops {cs : List Value} (h : Rd enc Try.prog w 26 cs) : ∃ l, SlOf w 9 RopR cs l :=
  Rd.slice Try.underlying26 (by kernel_rfl : Try.prog.cellsOf 46 = 9) (by decide) (of_decide_eq_true (by kernel_rfl)) (fun _ h => rd_rop h) h
end
end Go.Proofs.Ytiadkchlkdaceaa

