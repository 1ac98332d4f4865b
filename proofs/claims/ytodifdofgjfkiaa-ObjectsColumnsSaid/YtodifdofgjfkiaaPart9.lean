/- Contracts of the program, part 9. -/
import Derived.Test.YtodifdofgjfkiaaPart1
import Derived.OrdersHeld
import Derived.Deep.RegionHeld3
import Derived.Test.YtodifdofgjfkiaaPart2
import Derived.Lib.SliceRun
import Derived.Deep.RegionLaw
import Derived.Lib.Walk
import Derived.Test.YtodifdofgjfkiaaPart8
/- A region that draws its order: reads (the first n operations) and a chain; a world's cells are as they were till the operation m comes up, and all reads come ahead of m: the reads are taken first. -/
namespace Go.Proofs.Ytodifdofgjfkiaa
open Go.RowKit
section
variable {P : Program} {ops : Array Oper} {Q : Exit → Act → World → Prop} {md : Region.Mode} {T : World → Prop} {m : Nat}
def wpAnyS (P : Program) (md : Region.Mode) (ops : Array Oper) (Q : Exit → Act → World → Prop) (T : World → Prop) (m : Nat) : Nat → Array Bool → Act → World → Prop
  | 0, listed, a, w => Region.ready md ops listed = [] ∧ Q .normal a w
  | fuel + 1, listed, a, w =>
    (Region.ready md ops listed = [] → Q .normal a w) ∧
    ∀ i ∈ Region.ready md ops listed, wpOp P ops Q i (fun a' w' => ((listed.setIfInBounds i true).getD m false = false → T w') ∧ wpAnyS P md ops Q T m fuel (listed.setIfInBounds i true) a' w') a w
theorem wpAny_of_S : ∀ (fuel : Nat) (listed : Array Bool) (a : Act) (w : World), wpAnyS P md ops Q T m fuel listed a w → wpAny P md ops Q fuel listed a w
  | 0, _, _, _, h => h
  | fuel + 1, _, _, _, h => ⟨h.1, fun i hi => wpOp_mono (fun a' w' h' => wpAny_of_S fuel _ a' w' h'.2) (h.2 i hi)⟩
theorem getD_set_other {listed : Array Bool} {i j : Nat} (d : Bool) (h : i ≠ j) : (listed.setIfInBounds i true).getD j d = listed.getD j d := by
  simp [Array.getElem?_setIfInBounds_ne h]
theorem wpAnyS_first {i : Nat} {oi : Oper} {v : Value} (hi : ops[i]? = some oi) (hsel : ∀ (j : Nat) (o : Oper) cs b, ops[j]? = some o → o.op ≠ .select cs b)
    (hQ : ∀ c a w, Q (.panic c) (a.put oi.dst v) w → Q (.panic c) a w) (hne : i ≠ m) (hm : ∀ om, ops[m]? = some om → ∃ e ∈ om.after, Region.binds md e = true ∧ e.on = i) :
    ∀ (fuel : Nat) (listed : Array Bool) (a : Act) (w : World),
      (∀ j oj, ops[j]? = some oj → j ≠ i → listed.getD j true = false → (∀ e ∈ oj.after, Region.binds md e = true → e.on ≠ i) → oi.apart ops oj = true) →
      i ∈ Region.ready md ops listed → YieldsIf P ops T oi v a → T w → listed.getD m false = false →
      wpAnyS P md ops Q T m fuel (listed.setIfInBounds i true) (a.put oi.dst v) w → wpAnyS P md ops Q T m (fuel + 1) listed a w := by
  intro fuel
  induction fuel with
  | zero =>
    intro listed a w _ hr hy hS hlm H
    refine ⟨fun h => (by rw [h] at hr; cases hr), fun j hj => ?_⟩
    by_cases hji : j = i
    · subst hji; exact hy.wpOp hi hS ⟨fun _ => hS, H⟩
    · have := ready_mono hj hji
      rw [H.1] at this
      cases this
  | succ fuel ih =>
    intro listed a w hfree hr hy hS hlm H
    refine ⟨fun h => (by rw [h] at hr; cases hr), fun j hj => ?_⟩
    by_cases hji : j = i
    · subst hji; exact hy.wpOp hi hS ⟨fun _ => hS, H⟩
    · have h1 := H.2 j (ready_mono hj hji)
      obtain ⟨hjun, oj, hoj, hall⟩ := mem_ready.1 hj
      have hnot : ∀ e ∈ oj.after, Region.binds md e = true → e.on ≠ i := fun e he hb heq => by
        have h1 := hall e he hb
        have h0 := (mem_ready.1 hr).1
        rw [heq] at h1
        rcases Nat.lt_or_ge i listed.size with h' | h'
        · simp [h'] at h0 h1; rw [h0] at h1; cases h1
        · simp [Array.getElem?_eq_none h'] at h1
      have hjm : j ≠ m := fun e => by
        subst e
        obtain ⟨e, he, hb, hei⟩ := hm oj hoj
        exact hnot e he hb hei
      have h2 := wpOp_putIf hoj (hfree j oj hoj hji hjun hnot) (fun cs b => hsel i oi cs b hi) (fun cs b => hsel j oj cs b hoj) hQ hy h1
      have hfree' : ∀ k ok, ops[k]? = some ok → k ≠ i → (listed.setIfInBounds j true).getD k true = false →
          (∀ e ∈ ok.after, Region.binds md e = true → e.on ≠ i) → oi.apart ops ok = true := fun k ok hk hki hun hno => by
        refine hfree k ok hk hki ?_ hno
        by_cases hjk : j = k
        · subst hjk; exact hjun
        · rw [getD_set_ne true hjk] at hun; exact hun
      have hlm' : (listed.setIfInBounds j true).getD m false = false := by rw [getD_set_other false hjm]; exact hlm
      have hlm2 : ((listed.setIfInBounds i true).setIfInBounds j true).getD m false = false := by rw [getD_set_other false hjm, getD_set_other false hne]; exact hlm
      refine wpOp_mono (fun a' w' h3 => ⟨fun _ => h3.2.1 hlm2, ih (listed.setIfInBounds j true) a' w' hfree' (ready_mono hr (Ne.symm hji)) h3.1 (h3.2.1 hlm2) hlm' ?_⟩) h2
      rw [Array.setIfInBounds_comm _ _ hji]
      exact h3.2.2
theorem andThen_inv {α β : Type} {r : Result α} {f : α → World → Result β} {n : β} {w' : World} (h : r.andThen f = .ok n w') : ∃ a w1, r = .ok a w1 ∧ f a w1 = .ok n w' := by
  cases r with
  | ok a w1 => exact ⟨a, w1, rfl, h⟩
  | halt x w1 => simp [Result.andThen] at h
/-- an operation that reads -/
def readB (o : Oper) : Bool := o.guard.isNone && match o.op with | .load .. | .fieldAddr .. | .indexAddr .. | .move .. | .nilCheck .. | .assign .. => true | _ => false
theorem read_value {o : Oper} {ev : Operand → Value} {w w' : World} {n : Next} (h : readB o = true) (hr : (execOp ev o).run P w = .ok n w') : ∃ v, n = .value v := by
  unfold readB at h
  simp only [Bool.and_eq_true] at h
  obtain ⟨_, h⟩ := h
  unfold execOp at hr
  cases ho : o.op <;> rw [ho] at h hr <;> simp only [Bool.false_eq_true] at h
  case nilCheck x =>
    simp only at hr
    split at hr
    · simp [runtimePanic] at hr
    · simp [runtimePanic] at hr
    · simp [runtimePanic] at hr
    · split at hr
      · simp [runtimePanic] at hr
      · simp only [Sem.run_bind] at hr
        obtain ⟨p, w1, _, h1⟩ := andThen_inv hr
        obtain ⟨q, w2, _, h2⟩ := andThen_inv h1
        split at h2
        · rw [Sem.run_bind] at h2
          obtain ⟨r, w3, h3, _⟩ := andThen_inv h2
          simp [unsupported] at h3
        · simp only [Sem.run_pure, Result.ok.injEq] at h2; exact ⟨_, h2.1.symm⟩
      · simp only [Sem.run_pure, Result.ok.injEq] at hr; exact ⟨_, hr.1.symm⟩
    · simp only [Sem.run_pure, Result.ok.injEq] at hr; exact ⟨_, hr.1.symm⟩
  all_goals
    simp only [Sem.run_bind, Sem.run_pure] at hr
    first
      | (simp only [Result.ok.injEq] at hr; exact ⟨_, hr.1.symm⟩)
      | (generalize Sem.run P _ w = r at hr; cases r <;> simp [Result.andThen] at hr; exact ⟨_, hr.1.symm⟩)
theorem read_yields {o : Oper} {v : Value} {a : Act} (hb : readB o = true) (h : ∀ w, T w → o.quietAt P a T w v) : YieldsIf P ops T o v a := by
  have hg : o.guard = none := by unfold readB at hb; simp only [Bool.and_eq_true, Option.isNone_iff_eq_none] at hb; exact hb.1
  refine .inl ⟨by simp [Region.wanted, hg], fun w hw => ?_⟩
  have h1 := h w hw
  unfold Oper.quietAt at h1
  cases hr : (execOp a.eval o).run P w with
  | ok n w' =>
    obtain ⟨u, rfl⟩ := read_value hb hr
    rw [hr] at h1
    simp only [Oper.quietUpon] at h1
    rw [h1.1, h1.2]
  | halt x w' =>
    rw [hr] at h1
    simp only [Oper.quietUpon] at h1
/-- the first k are done -/
def lk (n k : Nat) : Array Bool := (Array.range n).map fun j => decide (j < k)
theorem lk_size (n k : Nat) : (lk n k).size = n := by simp [lk]
theorem lk_get {n k j : Nat} (hj : j < n) (d : Bool) : (lk n k).getD j d = decide (j < k) := by
  simp [lk, hj]
theorem lk_out {n k j : Nat} (hj : n ≤ j) (d : Bool) : (lk n k).getD j d = d := by
  simp [lk, hj]
theorem lk_zero (n : Nat) : lk n 0 = Array.replicate n false := by
  apply Array.ext
  · simp [lk]
  · intro i h1 h2; simp [lk]
theorem lk_set {n k : Nat} (hk : k < n) : (lk n k).setIfInBounds k true = lk n (k + 1) := by
  apply Array.ext
  · simp [lk]
  · intro i h1 h2
    by_cases e : k = i
    · subst e; simp [lk]
    · rw [Array.getElem_setIfInBounds_ne (by simpa using h1) e]
      simp only [lk, Array.getElem_map, Array.getElem_range]
      have : (i < k) = (i < k + 1) := by
        apply propext; omega
      simp [this]
/-- the chain: what is asked of the world behind each operation ahead of m -/
def wpChain (P : Program) (ops : Array Oper) (Q : Exit → Act → World → Prop) (T : World → Prop) (m : Nat) : Nat → List Oper → Act → World → Prop
  | _, [], a, w => Q .normal a w
  | k, o :: r, a, w => o.wp P a w (fun a' w' => (k < m → T w') ∧ wpChain P ops Q T m (k + 1) r a' w') Q ∨ (o.asks P a w ∧ LetsOut Q)
theorem wpChain_step {k : Nat} {o : Oper} {r : List Oper} {a : Act} {w : World} (h : ∀ K : Act → World → Prop, (∀ a' w', (k < m → T w') → wpChain P ops Q T m (k + 1) r a' w' → K a' w') → o.wp P a w K Q) : wpChain P ops Q T m k (o :: r) a w :=
  .inl (h _ fun _ _ h1 h2 => ⟨h1, h2⟩)
/-- behind m the chain is a list like any other -/
theorem wpChain_list : ∀ (l : List Oper) {k : Nat} {a : Act} {w : World}, (∀ o ∈ l, o.guard = none) → m ≤ k → wpList P ops Q l a w → wpChain P ops Q T m k l a w
  | [], k, a, w, _, _, h => h
  | o :: r, k, a, w, hg, hk, h => by
    unfold wpList at h
    rw [if_pos (by simp [Region.wanted, hg o (by simp)])] at h
    rcases h with h | h
    · exact .inl (Oper.wp_mono (fun a' w' h' => ⟨fun hlt => absurd hlt (by omega), wpChain_list r (fun o ho => hg o (by simp [ho])) (by omega) h'⟩) h)
    · exact .inr h
def readsB (ops : Array Oper) (n m : Nat) : Bool :=
  Region.noSelect ops && decide (n ≤ m) && decide (m < ops.size) &&
  (List.range ops.size).all (fun k => match ops[k]? with
    | none => false
    | some o => if k < n then readB o && o.after.all (fun e => !Region.binds .any e || decide (e.on < k)) && Region.free .any ops (lk ops.size k) k && (match ops[m]? with | some om => om.after.any (fun e => Region.binds .any e && e.on == k) | none => false)
      else o.guard.isNone && (Region.ready .any ops (lk ops.size k) == [k])) && (Region.ready .any ops (lk ops.size ops.size) == [])
theorem chain_any {n : Nat} (hnm : n ≤ m) (hms : m < ops.size) (hc : ∀ k, n ≤ k → k < ops.size → ∃ o, ops[k]? = some o ∧ o.guard = none ∧ Region.ready .any ops (lk ops.size k) = [k]) (hz : Region.ready .any ops (lk ops.size ops.size) = []) :
    ∀ (l : List Oper) (k : Nat) (a : Act) (w : World), n ≤ k → k + l.length = ops.size → (∀ j (hj : j < l.length), ops[k + j]? = some l[j]) → wpChain P ops Q T m k l a w → wpAnyS P .any ops Q T m l.length (lk ops.size k) a w
  | [], k, a, w, _, hl, _, h => by
    have e : k = ops.size := by simpa using hl
    subst e
    exact ⟨hz, h⟩
  | o :: r, k, a, w, hk, hl, ho, h => by
    simp only [List.length_cons] at hl
    have hks : k < ops.size := by omega
    obtain ⟨o', ho', hg, hr⟩ := hc k hk hks
    have h0 := ho 0 (by simp)
    simp only [Nat.add_zero, List.getElem_cons_zero] at h0
    rw [h0] at ho'
    simp only [Option.some.injEq] at ho'
    subst ho'
    refine ⟨fun e => absurd (hr.symm.trans e) (by simp), fun i hi => ?_⟩
    rw [hr, List.mem_singleton] at hi
    subst hi
    unfold wpOp
    simp only [h0]
    rw [if_pos (by simp [Region.wanted, hg])]
    rcases h with h | h
    case inr => exact .inr h
    refine .inl (Oper.wp_mono (fun a' w' h' => ?_) h)
    refine ⟨fun hm => h'.1 ?_, ?_⟩
    · rw [lk_set hks, lk_get hms] at hm
      simp at hm; omega
    · rw [lk_set hks]
      exact chain_any hnm hms hc hz r (i + 1) a' w' (by omega) (by omega) (fun j hj => by have := ho (j + 1) (by simpa using hj); simpa [Nat.add_assoc, Nat.add_comm 1 j] using this) h'.2
theorem reads_any {n : Nat} (hsel : Region.noSelect ops = true) (hnm : n ≤ m) (hms : m < ops.size) (hQ : ∀ c a d v w, Q (.panic c) (Act.put a d v) w → Q (.panic c) a w)
    (hr : ∀ k, k < n → ∃ o, ops[k]? = some o ∧ readB o = true ∧ (∀ e ∈ o.after, Region.binds .any e = true → e.on < k) ∧ Region.free .any ops (lk ops.size k) k = true ∧ ∀ om, ops[m]? = some om → ∃ e ∈ om.after, Region.binds .any e = true ∧ e.on = k)
    (hc : ∀ k, n ≤ k → k < ops.size → ∃ o, ops[k]? = some o ∧ o.guard = none ∧ Region.ready .any ops (lk ops.size k) = [k]) (hz : Region.ready .any ops (lk ops.size ops.size) = []) (tl : List Oper) (htl : n + tl.length = ops.size) (hto : ∀ j (hj : j < tl.length), ops[n + j]? = some tl[j]) (w : World) (hT : T w) :
    ∀ (l : List Oper) (k : Nat) (a : Act), k + l.length = n → (∀ j (hj : j < l.length), ops[k + j]? = some l[j]) → wpQuiet P ops T (fun a' => wpChain P ops Q T m n tl a' w) l a → wpAnyS P .any ops Q T m (l.length + tl.length) (lk ops.size k) a w
  | [], k, a, hl, _, h => by
    have e : k = n := by simpa using hl
    subst e
    simp only [List.length_nil, Nat.zero_add]
    exact chain_any hnm hms hc hz tl k a w (Nat.le_refl _) htl hto h
  | o :: r, k, a, hl, ho, h => by
    simp only [List.length_cons] at hl
    have hkn : k < n := by omega
    have hks : k < ops.size := by omega
    obtain ⟨o', ho', hb, he, hf, hm⟩ := hr k hkn
    have h0 := ho 0 (by simp)
    simp only [Nat.add_zero, List.getElem_cons_zero] at h0
    rw [h0] at ho'
    simp only [Option.some.injEq] at ho'
    subst ho'
    have hg : o.guard = none := by unfold readB at hb; simp only [Bool.and_eq_true, Option.isNone_iff_eq_none] at hb; exact hb.1
    unfold wpQuiet at h
    rw [if_pos (by simp [Region.wanted, hg])] at h
    obtain ⟨v, hv, hn⟩ := h
    have e1 : (o :: r).length + tl.length = (r.length + tl.length) + 1 := by simp; omega
    rw [e1]
    refine wpAnyS_first h0 (Region.noSelect_spec hsel) (fun c a w h => hQ c a _ _ w h) (by omega) hm _ _ a w (Region.free_spec h0 hf) ?_ (read_yields hb hv) hT (by rw [lk_get hms]; simp; omega) ?_
    · rw [mem_ready]
      refine ⟨by rw [lk_get hks]; simp, o, h0, fun e hem hbd => ?_⟩
      have := he e hem hbd
      rw [lk_get (by omega)]
      simpa using this
    · rw [lk_set hks]
      exact reads_any hsel hnm hms hQ hr hc hz tl htl hto w hT r (k + 1) _ (by omega) (fun j hj => by have := ho (j + 1) (by simpa using hj); simpa [Nat.add_assoc, Nat.add_comm 1 j] using this) hn
theorem wp_region_reads0 {id : Nat} {a : Act} {w : World} {l : List Oper} (n m : Nat) (T : World → Prop) (hm : P.follows .mixedOrders = true) (hB : readsB l.toArray n m = true) (hQ : ∀ c a d v w, Q (.panic c) (Act.put a d v) w → Q (.panic c) a w) (hT : T w.drew)
    (h : wpQuiet P l.toArray T (fun a' => wpChain P l.toArray Q T m n (l.drop n) a' w.drew) (l.take n) a) : (Code.region id l.toArray true).wp P Q a w := by
  unfold readsB at hB
  simp only [Bool.and_eq_true, decide_eq_true_eq, List.all_eq_true, List.mem_range, beq_iff_eq] at hB
  obtain ⟨⟨⟨⟨hsel, hnm⟩, hms⟩, hall⟩, hz⟩ := hB
  have hml : m < l.length := by simpa using hms
  have hnl : n ≤ l.length := by omega
  refine wp_region_any hm (wpAny_of_S (T := T) (m := m) _ _ _ _ ?_)
  rw [← lk_zero]
  have htake : (l.take n).length = n := by rw [List.length_take]; omega
  have hsz : l.toArray.size = (l.take n).length + (l.drop n).length := by simp; omega
  have hopt : ∀ k (hk : k < l.length), l.toArray[k]? = some l[k] := fun k hk => by simp
  have key := reads_any (P := P) (ops := l.toArray) (Q := Q) (T := T) (m := m) (n := n) hsel hnm hms hQ ?_ ?_ hz (l.drop n) (by simp; omega) (fun j hj => by simp at hj ⊢) w.drew hT (l.take n) 0 a (by simpa using htake) (fun j hj => by simp only [List.length_take] at hj; simp) h
  · have e : (l.take n).length + (l.drop n).length = l.toArray.size := hsz.symm
    rw [e] at key
    exact key
  · intro k hk
    have hkl : k < l.length := by omega
    have := hall k (by simpa using hkl)
    rw [hopt k hkl] at this
    simp only [if_pos hk, Bool.and_eq_true] at this
    obtain ⟨⟨⟨h1, h2⟩, h3⟩, h4⟩ := this
    refine ⟨l[k], hopt k hkl, h1, fun e he hb => ?_, h3, fun om hom => ?_⟩
    · have := Array.all_eq_true_iff_forall_mem.1 h2 e he
      simp [hb] at this
      exact this
    · rw [hom] at h4
      simp only at h4
      obtain ⟨e, he, hb⟩ := Array.any_eq_true'.1 h4
      simp only [Bool.and_eq_true, beq_iff_eq] at hb
      exact ⟨e, he, hb.1, hb.2⟩
  · intro k hk hks
    have hkl : k < l.length := by simpa using hks
    have := hall k hks
    rw [hopt k hkl] at this
    simp only [if_neg (by omega : ¬ k < n), Bool.and_eq_true, Option.isNone_iff_eq_none, beq_iff_eq] at this
    exact ⟨l[k], hopt k hkl, this.1, this.2⟩
theorem wp_region_reads {id : Nat} {a : Act} {w : World} {l : List Oper} (n m : Nat) (T : World → Prop) (hm : P.follows .mixedOrders = true) (hB : readsB l.toArray n m = true) (hT : T w.drew)
    (h : wpQuiet P l.toArray T (fun a' => wpChain P l.toArray (NoPanic Q) T m n (l.drop n) a' w.drew) (l.take n) a) : (Code.region id l.toArray true).wp P Q a w :=
  wp_region_noPanic (wp_region_reads0 n m T hm hB (fun _ _ _ _ _ h => h) hT h)
end
end Go.Proofs.Ytodifdofgjfkiaa
/- Worlds in which all blocks but a row's own lie as they lay: the class for reads beside an append. -/
namespace Go.Proofs.Ytodifdofgjfkiaa
open Go.RowKit
set_option linter.unusedVariables false
def InV (v : Value) (g : Nat) : Prop := v.ownBlock = some g
structure KLat (v : Value) (w : World) where
  to : World
  kb : Kb (InV v) w to
instance (v : Value) (w : World) : Nonempty (KLat v w) := ⟨⟨w, Kb.refl _ _⟩⟩
def klat (v : Value) (w : World) (x : KLat v w) : World := x.to
@[go_sem] theorem cell?_klat (v : Value) (w : World) (x : KLat v w) (b o : Nat) (h : b < w.heap.size) (hn : ¬ InV v b) : (klat v w x).cell? ⟨b, o, none⟩ = w.cell? ⟨b, o, none⟩ := by
  have := x.kb.block b h hn
  simp [World.cell?, klat, this]
@[go_sem] theorem frozen?_klat (v : Value) (w : World) (x : KLat v w) (b o : Nat) (h : b < w.heap.size) (hn : ¬ InV v b) : (klat v w x).frozen? ⟨b, o, none⟩ = w.frozen? ⟨b, o, none⟩ := by
  have := x.kb.block b h hn
  simp [World.frozen?, klat, this]
@[go_sem] theorem lt_klat (v : Value) (w : World) (x : KLat v w) (b : Nat) (h : b < w.heap.size) : b < (klat v w x).heap.size := Nat.lt_of_lt_of_le h x.kb.size
def KL (v : Value) (w w' : World) : Prop := ∃ x : KLat v w, w' = klat v w x
theorem KL.of {v : Value} {w w' : World} (h : Kb (InV v) w w') : ∃ x : KLat v w, w' = klat v w x := ⟨⟨w', h⟩, rfl⟩
theorem KL.aft {v : Value} {w w' : World} (h : Aft w w') : ∃ x : KLat v w, w' = klat v w x := KL.of (Kb.of_aft h)
theorem kb_in {v : Value} {w w' : World} (h : w.grownBy w' v.ownBlock) : Kb (InV v) w w' := Kb.of_grown h
theorem not_in {v : Value} {w : World} {B size n : Nat} {e : TypeId} {xs : List Value} (o : w.ownsRow B e size v n xs) {g : Nat} (hg : g < B) : ¬ InV v g := fun h => by have := (o.lt g h).1; omega
end Go.Proofs.Ytodifdofgjfkiaa
/- Rows of our own: many cells written at once, and a row cut short. -/
namespace Go.Proofs.Ytodifdofgjfkiaa
open Go.RowKit Go.Deep
set_option linter.unusedVariables false
def setL : List Value → Nat → List Value → List Value
  | xs, _, [] => xs
  | xs, o, v :: r => setL (xs.set o v) (o + 1) r
theorem setL_len : ∀ (vs xs : List Value) (o : Nat), (setL xs o vs).length = xs.length
  | [], xs, o => rfl
  | v :: r, xs, o => by rw [setL, setL_len r]; simp
theorem setL_eq : ∀ (vs xs : List Value) (o : Nat), o + vs.length ≤ xs.length → setL xs o vs = xs.take o ++ vs ++ xs.drop (o + vs.length)
  | [], xs, o, h => by simp [setL]
  | v :: r, xs, o, h => by
    simp only [List.length_cons] at h
    rw [setL, setL_eq r (xs.set o v) (o + 1) (by simp; omega)]
    have e1 : (xs.set o v).take (o + 1) = xs.take o ++ [v] := by
      rw [List.take_succ_eq_append_getElem (by simp; omega)]
      simp [List.take_set_of_le]
    have e2 : (xs.set o v).drop (o + 1 + r.length) = xs.drop (o + (r.length + 1)) := by
      rw [List.drop_set_of_lt (by omega)]
      congr 1; omega
    rw [e1, e2]
    simp
theorem own_setCells {B size n : Nat} {e : TypeId} {v : Value} {g : Nat} (hg : v.ownBlock = some g) : ∀ (vs : List Value) {w : World} {xs : List Value} (o : Nat), w.ownsRow B e size v n xs → (w.setCells g o vs).ownsRow B e size v n (setL xs o vs)
  | [], w, xs, o, h => h
  | u :: r, w, xs, o, h => own_setCells hg r (o + 1) (own_set h hg o u)
theorem kb_setCells (g : Nat) : ∀ (vs : List Value) (w : World) (o : Nat), Kb (fun k => k = g) w (w.setCells g o vs)
  | [], w, o => Kb.refl _ _
  | u :: r, w, o => (Kb.set w g o u).trans (kb_setCells g r _ (o + 1))
theorem own_cut {w : World} {B size n m cap : Nat} {e : TypeId} {A : Option Addr} {xs : List Value} (h : w.ownsRow B e size (.slice A n cap) n xs) (hm : m ≤ n) : w.ownsRow B e size (.slice A m cap) m (xs.take (m * size)) := by
  have hl : m * size ≤ n * size := Nat.mul_le_mul_right _ hm
  refine ⟨by rw [List.length_take, h.1]; omega, ?_⟩
  rcases h.2 with ⟨hv, hn⟩ | ⟨g, cap', cur, hv, hb, hgg, hnc, hcm, hcs, htk⟩
  · simp only [Value.slice.injEq] at hv
    exact .inl ⟨by rw [hv.1, hv.2.2]; congr 1; omega, by omega⟩
  · simp only [Value.slice.injEq, true_and] at hv
    refine .inr ⟨g, cap', cur, by rw [hv.1, hv.2], hb, hgg, by omega, hcm, hcs, ?_⟩
    rw [← htk, List.take_take]
    congr 1; omega
theorem zeroCells_one (z : Array Value) : (Builtin.zeroCells z 1).toList = z.toList := by
  simp only [Builtin.zeroCells, Nat.one_mul]
  apply List.ext_getElem
  · simp
  · intro i h1 h2
    have hi : i < z.size := by simpa using h2
    simp [Nat.mod_eq_of_lt hi, getElem!_pos z i hi]
/-- clear of one element -/
theorem run_clear_one {P : Program} (w : World) (t e ty : TypeId) (z : Value) (ht : P.underlying t = some (.slice e)) (hv : ∀ w, (zeroValue e).run P w = .ok z w) (h1 : ∀ u ∈ z.cells.toList, u.oneCell' = true) (b o c : Nat)
    (hc : ∀ j, j < z.cells.toList.length → (w.cell? ⟨b, o + j, none⟩).isSome = true) (hf : ∀ j, j < z.cells.toList.length → w.frozen? ⟨b, o + j, none⟩ = false) :
    (Builtin.clear_ #[t] ty #[.slice (some ⟨b, o, none⟩) 1 c]).run P w = .ok (.tuple #[]) (w.setCells b o z.cells.toList) := by
  have hst := run_storeCells_cells (P := P) b o z.cells.toList 0 w (by simpa using hc) (by simpa using hf) h1
  simp only [Nat.add_zero] at hst
  simp only [Builtin.clear_, List.getElem?_toArray, List.getElem?_cons_zero, Sem.run_bind, run_underlying ht, Result.andThen_ok, hv, zeroCells_one, hst, Sem.run_pure]
theorem flatMap_take {α : Type} {f : α → List Value} {size : Nat} (hf : ∀ x, (f x).length = size) (l : List α) (i : Nat) : (l.flatMap f).take (i * size) = (l.take i).flatMap f := by
  induction l generalizing i with
  | nil => simp
  | cons x l ih =>
    cases i with
    | zero => simp
    | succ i =>
      have e : (i + 1) * size = (f x).length + i * size := by rw [hf, Nat.succ_mul]; omega
      rw [List.flatMap_cons, e, List.take_length_add_append, ih]
      simp
theorem flatMap_drop {α : Type} {f : α → List Value} {size : Nat} (hf : ∀ x, (f x).length = size) (l : List α) (i : Nat) : (l.flatMap f).drop (i * size) = (l.drop i).flatMap f := by
  induction l generalizing i with
  | nil => simp
  | cons x l ih =>
    cases i with
    | zero => simp
    | succ i =>
      have e : (i + 1) * size = (f x).length + i * size := by rw [hf, Nat.succ_mul]; omega
      rw [List.flatMap_cons, e, List.drop_length_add_append, ih]
      simp
theorem flatMap_erase {α : Type} {f : α → List Value} {size : Nat} (hf : ∀ x, (f x).length = size) (l : List α) (i : Nat) : (l.flatMap f).take (i * size) ++ (l.flatMap f).drop ((i + 1) * size) = (l.eraseIdx i).flatMap f := by
  rw [flatMap_take hf, flatMap_drop hf, List.eraseIdx_eq_take_drop_succ, List.flatMap_append]
/-- what Delete of one element leaves -/
def DelP (ty : TypeId) (size : Nat) (w : World) (B g cap i m : Nat) (xs : List Value) (e : Ending) (w' : World) : Prop :=
  e = .returned (.slice (some ⟨g, 0, none⟩) (i + m) cap) ∧ w'.ownsRow B ty size (.slice (some ⟨g, 0, none⟩) (i + m) cap) (i + m) (xs.take (i * size) ++ xs.drop ((i + 1) * size)) ∧ Kb (fun k => k = g) w w'
/-- the row behind Delete's two writes -/
theorem del_own {w : World} {B size g cap i m : Nat} {e : TypeId} {xs z : List Value} (ho : w.ownsRow B e size (.slice (some ⟨g, 0, none⟩) (i + 1 + m) cap) (i + 1 + m) xs) (hz : z.length = size) :
    ((w.setCells g (i * size) (xs.drop ((i + 1) * size))).setCells g ((i + m) * size) z).ownsRow B e size (.slice (some ⟨g, 0, none⟩) (i + m) cap) (i + m) (xs.take (i * size) ++ xs.drop ((i + 1) * size)) := by
  have hx := ho.1
  have e0 : (i + 1 + m) * size = i * size + size + m * size := by rw [Nat.add_mul, Nat.succ_mul]
  have e1 : (i + 1) * size = i * size + size := Nat.succ_mul _ _
  have e2 : (i + m) * size = i * size + m * size := Nat.add_mul _ _ _
  have h1 := own_setCells (g := g) rfl z ((i + m) * size) (own_setCells (g := g) rfl (xs.drop ((i + 1) * size)) (i * size) ho)
  have h2 := own_cut h1 (m := i + m) (by omega)
  have hd : (xs.drop ((i + 1) * size)).length = m * size := by rw [List.length_drop, hx]; omega
  have e3 : (setL (setL xs (i * size) (xs.drop ((i + 1) * size))) ((i + m) * size) z).take ((i + m) * size) = xs.take (i * size) ++ xs.drop ((i + 1) * size) := by
    rw [setL_eq z _ _ (by rw [setL_len, hx, hz]; omega), List.append_assoc, List.take_append_of_le_length (by rw [List.length_take, setL_len, hx]; omega), List.take_take, Nat.min_self, setL_eq _ _ _ (by rw [hd, hx]; omega)]
    rw [List.take_append_of_le_length (by rw [List.length_append, hd, List.length_take, hx]; omega)]
    rw [List.take_of_length_le (by rw [List.length_append, hd, List.length_take, hx]; omega)]
  rw [e3] at h2
  exact h2
end Go.Proofs.Ytodifdofgjfkiaa
/- slices.Delete of one element. -/
namespace Go.Proofs.Ytodifdofgjfkiaa
open Go.RowKit Go.Deep
set_option maxRecDepth 100000
set_option linter.unusedVariables false
theorem infoDCol : (Try.prog.info? 40).map (fun i => (i.zero, i.size, i.bytes)) = some (some (.agg #[.string ByteArray.empty, .int .i64 0, .bool false]), 3, 32) := by kernel_rfl
set_option maxHeartbeats 8000000 in
theorem delCol (g cap i m B : Nat) (xs : List Value) (w : World) (ho : w.ownsRow B 40 3 (.slice (some ⟨g, 0, none⟩) (i + 1 + m) cap) (i + 1 + m) xs) (h1 : ∀ u ∈ xs, u.oneCell' = true) (hb : cap ≤ 9223372036854775807) :
    Calls Try.prog 91 #[.slice (some ⟨g, 0, none⟩) (i + 1 + m) cap, .int .i64 i, .int .i64 ((i : Int) + 1)] w (DelP 40 3 w B g cap i m xs) := by
  obtain ⟨i0, hi0, hz0, hz1, hz2⟩ := info_parts infoDCol
  obtain ⟨g', cap', hv', hgb, hnc, hr⟩ := own_rowAt ho (by omega)
  simp only [Value.slice.injEq, true_and, Option.some.injEq, Addr.mk.injEq, and_true] at hv'
  obtain ⟨rfl, rfl⟩ := hv'
  have hx := ho.1
  have hzr : ∀ w : World, (zeroValue 40).run Try.prog w = .ok (.agg #[.string ByteArray.empty, .int .i64 0, .bool false]) w := fun w => by kernel_rfl
  obtain ⟨news, hnews⟩ : ∃ news, news = xs.drop ((i + 1) * 3) := ⟨_, rfl⟩
  have hlen : news.length = m * 3 := by rw [hnews, List.length_drop, hx]; omega
  have hsrc : ∃ A : Addr, (if cap = i + 1 then some (⟨g, 0, none⟩ : Addr) else some ⟨g, (i + 1) * 3, none⟩) = some A ∧ Hid (∀ t u, news[t]? = some u → w.drew.cell? (A.add t) = some u) := by
    by_cases h : cap = i + 1
    · refine ⟨⟨g, 0, none⟩, by simp [h], Lib.hid fun t u hu => ?_⟩
      have h0 : news.length = 0 := by rw [hlen]; omega
      rw [List.length_eq_zero_iff.1 h0] at hu
      simp at hu
    · refine ⟨⟨g, (i + 1) * 3, none⟩, by simp [h], Lib.hid fun t u hu => ?_⟩
      rw [hnews, List.getElem?_drop] at hu
      rw [Addr.add_lit]
      exact hr.cell hu
  obtain ⟨A, hA, hsrc⟩ := hsrc
  have s1 := Lib.hid hlen
  have s2 := Lib.hid (show ∀ u ∈ news, u.oneCell' = true from fun u hu => h1 u (by rw [hnews] at hu; exact List.mem_of_mem_drop hu))
  have s3 := Lib.hid (show ∀ t, t < news.length → (w.drew.cell? ⟨g, 0 + i * 3 + t, none⟩).isSome = true ∧ w.drew.frozen? ⟨g, 0 + i * 3 + t, none⟩ = false from fun t ht => by
    rw [hlen] at ht
    have hl : 0 + i * 3 + t < xs.length := by rw [hx]; omega
    exact ⟨by show (w.cell? _).isSome = true; rw [hr.2.1 _ hl, List.getElem?_eq_getElem hl]; rfl, hr.2.2 _ hl⟩)
  obtain ⟨W1, hW1⟩ : ∃ W1, W1 = w.drew.setCells g (0 + i * 3) news := ⟨_, rfl⟩
  have ho1 : W1.ownsRow B 40 3 (.slice (some ⟨g, 0, none⟩) (i + 1 + m) cap) (i + 1 + m) (setL xs (0 + i * 3) news) := by rw [hW1]; exact own_setCells (g := g) rfl news _ (own_aft ho (Aft.refl w).drew)
  obtain ⟨_, _, hv1, _, _, hr1⟩ := own_rowAt ho1 (by omega)
  simp only [Value.slice.injEq, true_and, Option.some.injEq, Addr.mk.injEq, and_true] at hv1
  obtain ⟨rfl, rfl⟩ := hv1
  have hcl : ∀ ty, (Builtin.clear_ #[31] ty #[.slice (some ⟨g, (i + m) * 3, none⟩) 1 (cap - (i + m))]).run Try.prog W1 = .ok (.tuple #[]) (W1.setCells g ((i + m) * 3) [.string ByteArray.empty, .int .i64 0, .bool false]) := fun ty => by
    refine run_clear_one W1 _ _ ty _ Try.underlying31 hzr (by intro u hu; have hu : u ∈ ([.string ByteArray.empty, .int .i64 0, .bool false] : List Value) := hu; simp only [List.mem_cons, List.not_mem_nil, or_false] at hu; rcases hu with rfl | rfl | rfl <;> rfl) g ((i + m) * 3) (cap - (i + m)) (fun j hj => ?_) (fun j hj => ?_)
    · have hj' : j < 3 := hj
      have hl : (i + m) * 3 + j < (setL xs (0 + i * 3) news).length := by rw [setL_len, hx]; omega
      rw [hr1.2.1 _ hl, List.getElem?_eq_getElem hl]; rfl
    · have hj' : j < 3 := hj
      exact hr1.2.2 _ (by rw [setL_len, hx]; omega)
  have HF := Lib.hid (show DelP 40 3 w B g cap i m xs (.returned (.slice (some ⟨g, 0, none⟩) (i + m) cap)) (W1.setCells g ((i + m) * 3) [.string ByteArray.empty, .int .i64 0, .bool false]) from by
    refine ⟨rfl, ?_, ?_⟩
    · rw [hW1, hnews, Nat.zero_add]
      exact del_own (own_aft ho (Aft.refl w).drew) rfl
    · rw [hW1]
      exact (Kb.of_aft (Aft.refl w).drew).trans ((kb_setCells g news _ _).trans (kb_setCells g _ _ _)))
  have hW := Lib.hid hW1
  have hic : i ≤ cap := by omega
  have hjc : i + 1 ≤ cap := by omega
  have hne : ((i : Int) == (i : Int) + 1) = false := by simp; omega
  clear hW1 ho1 hr1 hr ho hnews hlen h1 hx
  go_enter Try.func91, Try.ntmps91
  have k0 : (0 : Int) ≤ (i : Int) + 1 := by omega
  have k1 : (i : Int) + 1 ≤ (i : Int) + 1 + (m : Int) := by omega
  go_wp2_with fail
  go_region_law (refine step_append_room rfl (.tmp 22) (.tmp 25) 31 rfl 40 i0 3 Try.underlying31 hi0 hz1 g 0 i cap (by simp [Act.eval, Act.put]) A m (cap - (i + 1)) news (by simp [Act.eval, Act.put]) s1.out hsrc.out s2.out (by omega) s3.out ?_; rw [← hW.out])
  have hcl2 : ∀ ty, (Builtin.clear_ #[31] ty #[.slice (some ⟨g, (i + m) * 3, none⟩) (i + 1 + m - (i + m)) (cap - (i + m))]).run Try.prog W1 = .ok (.tuple #[]) (W1.setCells g ((i + m) * 3) [.string ByteArray.empty, .int .i64 0, .bool false]) := fun ty => by
    have e1 : i + 1 + m - (i + m) = 1 := by omega
    rw [e1]; exact hcl ty
  have hcm : ¬ cap = i + m := by omega
  have k3 : (i : Int) + (m : Int) ≤ (i : Int) + 1 + (m : Int) := by omega
  have k4 : (0 : Int) ≤ (i : Int) + (m : Int) := by omega
  have k5 : (i : Int) + 1 + (m : Int) ≤ (cap : Int) := by omega
  go_wp2_with fail
  go_ret
  exact HF.out
end Go.Proofs.Ytodifdofgjfkiaa
/- Columns are added and dropped: objects.AddColumn, DropColumn and the document's. -/
namespace Go.Proofs.Ytodifdofgjfkiaa
open Go.RowKit Go.Deep
set_option maxRecDepth 100000
set_option linter.unusedVariables false
/-- the columns of the table q lie in another row now, or the same row holds others -/
theorem ObjIn.newCols {w w5 : World} {B gt q : Nat} {hs ht hc' : Hd} {ss : List Sch} {L : List OTab} {cols' : List Col} (ob : ObjIn w B hs ht ss L) (hq : q < L.length) (hgt : ht.a = some ⟨gt, 0, none⟩)
    (kb : Kb (fun g => L[q].hc.v.ownBlock = some g) w w5) (ho : w5.ownsRow B 40 3 hc'.v cols'.length (cols'.flatMap colC)) (hb : ∀ g ∈ hc'.blk, g ∈ L[q].hc.blk ∨ w.heap.size ≤ g) :
    ObjIn (w5.setCell ⟨gt, q * 5 + 3, none⟩ hc'.v) B hs ht ss (L.set q { L[q] with cols := cols', hc := hc' }) := by
  have nd := ob.nd
  have nd0 := nd_assoc.1 nd
  have hqin : ∀ g, L[q].hc.v.ownBlock = some g → g ∈ L[q].blks := fun g h => by unfold OTab.blks; simp [Hd.mem_blk.2 h]
  have hflat : ∀ g, g ∈ L[q].blks → g ∈ L.flatMap OTab.blks := fun g h => List.mem_flatMap.2 ⟨L[q], List.getElem_mem hq, h⟩
  have tq := ob.nth hq
  have ndq := tab_nodup nd0 hq
  have ndq1 : (L[q].hc.blk ++ (L[q].hr.blk ++ L[q].rules.flatMap (·.h.blk))).Nodup := ndq
  refine ObjIn.put (j := 3) (u := hc'.v) (y := { L[q] with cols := cols', hc := hc' }) ?_ ?_ ?_ ?_ ?_ hgt hq (by decide) rfl
  · exact own_kb ob.sch kb fun g h1 h2 => nodup_disj nd (Hd.mem_blk.2 h1) (List.mem_append.2 (.inr (hflat g (hqin g h2))))
  · exact own_kb ob.tab kb fun g h1 h2 => nodup_disj (List.nodup_append.1 nd).2.1 (Hd.mem_blk.2 h1) (hflat g (hqin g h2))
  · exact fun i hi hne => (ob.nth hi).kb kb fun g h1 h2 => tab_disj nd0 hq hi hne (hqin g h2) h1
  · refine ⟨ho, own_kb tq.rul kb fun g h1 h2 => nodup_disj ndq1 (Hd.mem_blk.2 h2) (by simp [Hd.mem_blk.2 h1]), fun r hr => (tq.each r hr).kb kb fun g h1 h2 => nodup_disj ndq1 (Hd.mem_blk.2 h2) (List.mem_append.2 (.inr (List.mem_flatMap.2 ⟨r, hr, h1⟩)))⟩
  · rw [nd_assoc]
    refine nodup_set (N := w.heap.size) nd0 hq ?_ ?_ (fun g hg => (ob.lt g (by rw [List.append_assoc] at hg; exact hg)).2)
    · show (hc'.blk ++ (L[q].hr.blk ++ L[q].rules.flatMap (·.h.blk))).Nodup
      refine List.nodup_append.2 ⟨blk_nodup _, (List.nodup_append.1 ndq1).2.1, fun a ha b hb2 e => ?_⟩
      subst e
      rcases hb a ha with h1 | h1
      · exact nodup_disj ndq1 h1 hb2
      · have := (tq.lt a (by unfold OTab.blks; exact List.mem_append.2 (.inr hb2))).2
        omega
    · intro g hg
      have hg' : g ∈ hc'.blk ++ (L[q].hr.blk ++ L[q].rules.flatMap (·.h.blk)) := hg
      rcases List.mem_append.1 hg' with h1 | h1
      · rcases hb g h1 with h2 | h2
        · exact .inl (by unfold OTab.blks; exact List.mem_append.2 (.inl h2))
        · exact .inr h2
      · exact .inl (by unfold OTab.blks; exact List.mem_append.2 (.inr h1))
def addColF (c : Col) (t : Tab) : Tab × Int :=
  if (!colOk c || !c.null) then (t, 63) else if 0 ≤ colAt t.cols c.name then (t, 60) else if 8 ≤ t.cols.length then (t, 2) else ({ t with cols := t.cols ++ [c] }, 0)
/-- is a column named by a rule? -/
def usedC (t : Tab) (s : ByteArray) : Bool := decide (t.cols.length = 1) || t.rules.any fun r => r.cols.any fun x => eqS x s
def dropColF (s : ByteArray) (t : Tab) : Tab × Int :=
  if colAt t.cols s < 0 then (t, 61) else if usedC t s then (t, 62) else ({ t with cols := t.cols.eraseIdx (colAt t.cols s).toNat }, 0)
set_option maxHeartbeats 8000000 in
theorem addCol1_in (nm : ByteArray) (kd : Int) (nl : Bool) (o : Objs) (w : World) (hs ht : Hd) (L : List OTab) (B n3 q gt bc : Nat) (hq : q < L.length) (hbn : B ≤ n3) (hL : L.map OTab.t = o.tables) (ob : ObjIn w B hs ht o.schemas L) (hne : ∀ g ∈ hs.blk ++ (ht.blk ++ L.flatMap OTab.blks), g ≠ n3)
    (r3 : RowAt w n3 [.slice hs.a o.schemas.length hs.c, .slice ht.a o.tables.length ht.c]) (hgt : ht.a = some ⟨gt, 0, none⟩) (rc : RowAt w bc [.string nm, .int .i64 kd, .bool nl]) (hbc : bc < B) (sm : SmO o) (hc : Small nm.size) :
    Calls Try.prog 81 #[.agg #[.slice hs.a o.schemas.length hs.c, .slice ht.a o.tables.length ht.c], .pointer (some ⟨gt, q * 5, none⟩), .pointer (some ⟨bc, 0, none⟩)] w (TDoP w B n3 hs ht o.schemas L q (addColF ⟨nm, kd, nl⟩ L[q].t)) := by
  have hLL : L.length = o.tables.length := by rw [← hL]; simp
  have hoo : objOf o.schemas L = o := by unfold objOf; rw [hL]
  have smq : SmT L[q].t := sm.2.2 _ (by rw [← hL]; exact List.mem_map_of_mem (List.getElem_mem hq))
  have tq := ob.nth hq
  obtain ⟨z1, z2, zf⟩ := ob.row hgt hq
  obtain ⟨hA, hn, hC⟩ : ∃ x : OTab, x = L[q] ∧ True := ⟨_, rfl, trivial⟩
  clear hC
  subst hn
  have hcv : L[q].hc.v = .slice L[q].hc.a L[q].cols.length L[q].hc.c := own_slice tq.col
  have d3 : w.cell? ⟨gt, q * 5 + 3, none⟩ = some (.slice L[q].hc.a L[q].cols.length L[q].hc.c) := by rw [← hcv]; exact ob.cell hgt hq (by decide)
  have f3 := zf 3 (by decide)
  have hbq : gt ∈ ht.blk := by rw [Hd.mem_blk]; unfold Hd.v; rw [hgt]; rfl
  have nd := ob.nd
  have hgc : ∀ g, L[q].hc.v.ownBlock = some g → g ≠ gt ∧ g ≠ n3 ∧ B ≤ g := fun g h => by
    have hin : g ∈ L.flatMap OTab.blks := List.mem_flatMap.2 ⟨L[q], List.getElem_mem hq, by unfold OTab.blks; simp [Hd.mem_blk.2 h]⟩
    exact ⟨fun e => nodup_disj (List.nodup_append.1 nd).2.1 hbq (by rw [← e]; exact hin), hne g (by simp only [List.mem_append]; exact .inr (.inr hin)), (tq.col.lt g h).1⟩
  have hgn : gt ≠ n3 := hne gt (by simp [hbq])
  have cols := tq.cols smq
  have hlen := cols.len
  obtain ⟨m, hm⟩ : ∃ m, colOk ⟨nm, kd, nl⟩ = m := ⟨_, rfl⟩
  obtain ⟨i, hi⟩ : ∃ i, colAt L[q].cols nm = i := ⟨_, rfl⟩
  have hir : -1 ≤ i ∧ i < L[q].cols.length := by rw [← hi]; exact idxP_range _ _
  have HE := Lib.hid (show addColF ⟨nm, kd, nl⟩ L[q].t = if (!m || !nl) then (L[q].t, 63) else if 0 ≤ i then (L[q].t, 60) else if 8 ≤ L[q].cols.length then (L[q].t, 2) else ({ L[q].t with cols := L[q].cols ++ [⟨nm, kd, nl⟩] }, 0) by
    unfold addColF; rw [hm]; show (if (!m || !nl) then (L[q].t, (63 : Int)) else if 0 ≤ colAt L[q].cols nm then (L[q].t, 60) else if 8 ≤ L[q].cols.length then (L[q].t, 2) else ({ L[q].t with cols := L[q].cols ++ [⟨nm, kd, nl⟩] }, 0)) = _; rw [hi])
  have CM := Lib.hid (show ∀ w', Calls Try.prog 82 #[.agg #[.string nm, .int .i64 kd, .bool nl]] w' fun e w'' => e = .returned (.bool m) ∧ Aft w' w'' from fun w' => (mayCol_any nm kd nl w' hc.max).mono fun e w'' ⟨he, hw⟩ => ⟨he.trans (by rw [← hm]), hw⟩)
  have CB := Lib.hid (show ∀ w', Aft w w' → Calls Try.prog 83 #[.slice L[q].hc.a L[q].cols.length L[q].hc.c, .string nm, .func (.func 84) #[] #[]] w' fun e w'' => e = .returned (.int .i64 i) ∧ Aft w' w'' from
    fun w' a => (byCol L[q].hc.a L[q].hc.c L[q].cols nm w' (cols_aft a cols)).mono fun e w'' ⟨he, hw⟩ => ⟨he.trans (by rw [← hi]; rfl), hw⟩)
  have HOB := Lib.hid ob
  have HGT := Lib.hid hgt
  have HR3 := Lib.hid r3
  have HRC := Lib.hid rc
  have HGC := Lib.hid hgc
  have HLL := Lib.hid hLL
  have HCV := Lib.hid hcv
  have x0 := rc.cell (j := 0) rfl
  have x1 := rc.cell (j := 1) rfl
  have x2 := rc.cell (j := 2) rfl
  have xz := rc.1
  have l1 : bc < w.heap.size + 1 := by omega
  have l2 : gt < w.heap.size + 1 := by omega
  have aW : Aft w (w.alloc (.cells #[.slice hs.a o.schemas.length hs.c, .slice ht.a o.tables.length ht.c] 25)) := (Aft.refl w).alloc _
  have HAW := Lib.hid aW
  clear ob hgt r3 rc hgc hLL hcv hm hi cols nd hoo smq hL sm tq aW hc hne zf
  go_enter Try.func81, Try.ntmps81
  go_wp2_with fail
  refine (CM.out _).mono ?_
  rintro e w1 ⟨rfl, a1⟩
  have HA1 := Lib.hid (HAW.out.trans a1)
  have x2 := HA1.out.cell_kept x2
  have d3 := HA1.out.cell_kept d3
  have xz := Nat.lt_of_lt_of_le xz HA1.out.size
  have z1 := Nat.lt_of_lt_of_le z1 HA1.out.size
  clear a1 CM
  cases m
  · go_wp2_with fail
    go_ret
    rw [HE.out]
    exact ⟨rfl, Kb.of_aft HA1.out, fun h => absurd h (by simp)⟩
  cases nl
  · go_wp2_with fail
    go_ret
    rw [HE.out]
    exact ⟨rfl, Kb.of_aft HA1.out, fun h => absurd h (by simp)⟩
  have x0 := HA1.out.cell_kept x0
  have x1 := HA1.out.cell_kept x1
  have CB' := Lib.hid (show ∀ x : Lat w1, Calls Try.prog 83 #[.slice L[q].hc.a L[q].cols.length L[q].hc.c, .string nm, .func (.func 84) #[] #[]] (lat w1 x) fun e w'' => e = .returned (.int .i64 i) ∧ Aft (lat w1 x) w'' from fun x => CB.out _ (HA1.out.lat x))
  clear CB
  by_cases h0 : 0 ≤ i
  · have hd : decide (0 ≤ i) = true := by simpa using h0
    go_wp2_with fail
    refine wp_region_lat (by kernel_rfl) (by kernel_rfl) ?_
    repeat (go_big_quiet_step ((go_at_call 83; exact Calls.lat_of (CB'.out _))))
    refine wpQuiet_nil ?_
    intro _ hw'
    obtain ⟨x, hw''⟩ := hw'
    subst hw''
    go_wp2_with fail
    go_ret
    rw [HE.out]
    simp only [Bool.not_true, Bool.or_self, Bool.false_eq_true, if_false, if_pos h0]
    exact ⟨rfl, Kb.of_aft (HA1.out.lat x), fun h => absurd h (by simp)⟩
  · have hd : decide (0 ≤ i) = false := by simpa using h0
    have HH0 := Lib.hid h0
    clear h0
    go_wp2_with fail
    refine wp_region_lat (by kernel_rfl) (by kernel_rfl) ?_
    repeat (go_big_quiet_step ((go_at_call 83; exact Calls.lat_of (CB'.out _))))
    refine wpQuiet_nil ?_
    intro _ hw'
    obtain ⟨x, hw''⟩ := hw'
    subst hw''
    obtain ⟨W, hW⟩ : ∃ W, W = lat w1 x := ⟨_, rfl⟩
    have aW : Aft w1 W := by rw [hW]; exact (Aft.refl w1).lat x
    rw [← hW]
    have x0 := aW.cell_kept x0
    have x1 := aW.cell_kept x1
    have x2 := aW.cell_kept x2
    have d3 := aW.cell_kept d3
    have xz := Nat.lt_of_lt_of_le xz aW.size
    have z1 := Nat.lt_of_lt_of_le z1 aW.size
    have HAW2 := Lib.hid (HA1.out.trans aW)
    clear hW aW CB' HAW
    by_cases h8 : 8 ≤ L[q].cols.length
    · have hd8 : decide (8 ≤ L[q].cols.length) = true := by simpa using h8
      have HH8 := Lib.hid h8
      go_wp2_with fail
      go_ret
      rw [HE.out]
      simp only [Bool.not_true, Bool.or_self, Bool.false_eq_true, if_false, if_neg (show ¬ 0 ≤ i by have := HH0.out; omega), if_pos HH8.out]
      exact ⟨rfl, Kb.of_aft HAW2.out, fun h => absurd h (by simp)⟩
    · have hd8 : decide (8 ≤ L[q].cols.length) = false := by simpa using h8
      have obW := HOB.out.aft HAW2.out
      have HOW := Lib.hid (show W.ownsRow B 40 3 (.slice L[q].hc.a L[q].cols.length L[q].hc.c) L[q].cols.length (L[q].cols.flatMap colC) by rw [← HCV.out]; exact (obW.nth hq).col)
      have n1 : ¬ InV (.slice L[q].hc.a L[q].cols.length L[q].hc.c) gt := fun h => (HGC.out gt (by rw [HCV.out]; exact h)).1 rfl
      have n2 : ¬ InV (.slice L[q].hc.a L[q].cols.length L[q].hc.c) bc := fun h => by have := (HGC.out bc (by rw [HCV.out]; exact h)).2.2; omega
      have f3 : W.frozen? ⟨gt, q * 5 + 3, none⟩ = false := (obW.row HGT.out hq).2.2 3 (by decide)
      obtain ⟨i0, hi0, hz0, hz1, hz2⟩ := info_parts info2Col2
      have HI := Lib.hid hi0
      have HZ0 := Lib.hid hz0
      have HZ1 := Lib.hid hz1
      have HZ2 := Lib.hid hz2
      have HBW := Lib.hid (show B ≤ W.heap.size by have := (obW.row HGT.out hq).2.1; omega)
      have HOBW := Lib.hid obW
      clear hi0 hz0 hz1 hz2 obW
      go_wp2_with fail
      refine wp_region_reads 6 8 (fun w' => ∃ x : KLat (.slice L[q].hc.a L[q].cols.length L[q].hc.c) W, w' = klat (.slice L[q].hc.a L[q].cols.length L[q].hc.c) W x) (by kernel_rfl) (by kernel_rfl) (KL.aft (Aft.refl W).drew) ?_
      simp only [List.take_succ_cons, List.take_zero, List.drop_succ_cons, List.drop_zero]
      repeat (go_big_quiet_step (fail))
      refine wpQuiet_nil ?_
      refine wpChain_step (fun K hK => ?_)
      go_simp
      refine hK _ _ (fun _ => KL.aft (((Aft.refl W).alloc _).drew)) ?_
      clear hK K
      refine wpChain_step (fun K hK => ?_)
      refine wp_append_lies _ (.tmp 35) (.tmp 37) 31 rfl B 40 i0 _ 3 32 Try.underlying31 HI.out HZ0.out HZ1.out HZ2.out rfl (by decide) (.slice L[q].hc.a L[q].cols.length L[q].hc.c) L[q].cols.length (L[q].cols.flatMap colC) (by rfl) ((HOW.out.alloc _).drew) ⟨W.heap.size, 0, none⟩ 1 1 [.string nm, .int .i64 kd, .bool true] (by rfl) (by rfl) (World.news_of_block (cs := #[.string nm, .int .i64 kd, .bool true]) (t := 40) (fr := (0, 0)) (heap_alloc_new W _)) (by simp [Value.oneCell']) (by omega) (by unfold maxLen; omega) (by omega) (by have := HBW.out; simp; omega) (W.heap.size + 1) (by simp) ?_
      intro gg cap' w5 hown5 hgrow hat hgl
      refine hK _ _ (fun _ => KL.of ((Kb.of_aft (((Aft.refl W).alloc _).drew)).trans (kb_in hgrow))) ?_
      clear hK K
      refine wpChain_list _ (by simp) (by decide) ?_
      have kw5 : Kb (InV (.slice L[q].hc.a L[q].cols.length L[q].hc.c)) W w5 := (Kb.of_aft (((Aft.refl W).alloc _).drew)).trans (kb_in hgrow)
      have d5 := kw5.cell d3 n1
      have f5 : w5.frozen? ⟨gt, q * 5 + 3, none⟩ = false := by
        have := kw5.block gt z1 n1
        rw [← f3]; simp [World.frozen?, this]
      have z5 := Nat.lt_of_lt_of_le z1 kw5.size
      have HP := Lib.hid (show TDoP w B n3 hs ht o.schemas L q (({ L[q].t with cols := L[q].cols ++ [⟨nm, kd, true⟩] } : Tab), 0) (.returned (.int .i64 0)) (w5.setCell ⟨gt, q * 5 + 3, none⟩ (.slice (some ⟨gg, 0, none⟩) (L[q].cols.length + 1) cap')) from by
        have obA := HOBW.out.aft (((Aft.refl W).alloc (.cells #[.string nm, .int .i64 kd, .bool true] 40)).drew)
        have kbA : Kb (fun g => L[q].hc.v.ownBlock = some g) (W.alloc (.cells #[.string nm, .int .i64 kd, .bool true] 40)).drew w5 := by rw [HCV.out]; exact Kb.of_grown hgrow
        refine ⟨rfl, ?_, fun _ => ⟨{ L[q] with cols := L[q].cols ++ [⟨nm, kd, true⟩], hc := ⟨some ⟨gg, 0, none⟩, L[q].cols.length + 1, cap'⟩ }, rfl, ?_, ?_⟩⟩
        · refine (Kb.of_aft HAW2.out).trans ((kw5.mono fun g _ h => ?_).trans ((Kb.set w5 gt (q * 5 + 3) _).mono fun g _ e => ?_))
          · exact (HGC.out g (by rw [HCV.out]; exact h)).2.2
          · subst e; exact z2
        · refine obA.newCols (hc' := ⟨some ⟨gg, 0, none⟩, L[q].cols.length + 1, cap'⟩) hq HGT.out kbA ?_ ?_
          · rw [List.length_append, List.flatMap_append]; exact hown5
          · intro g hg
            rw [blk_some, List.mem_singleton] at hg
            subst hg
            rcases hat with h1 | h1
            · exact .inl (Hd.mem_blk.2 (by rw [HCV.out]; exact h1))
            · refine .inr ?_
              simp
              omega
        · have e := HLL.out
          rw [e]
          exact (Kb.set w5 gt (q * 5 + 3) _).row (kw5.row (HR3.out.aft HAW2.out) (fun h => (HGC.out n3 (by rw [HCV.out]; exact h)).2.1 rfl)) (fun e => hgn e.symm))
      have HH8 := Lib.hid h8
      clear hown5 hgrow hat hgl kw5 h8
      go_wp2_with fail
      refine NoPanic.normal ?_
      go_wp2_with fail
      go_ret
      rw [HE.out]
      simp only [Bool.not_true, Bool.or_self, Bool.false_eq_true, if_false, if_neg (show ¬ 0 ≤ i by have := HH0.out; omega), if_neg (show ¬ 8 ≤ L[q].cols.length by have := HH8.out; omega)]
      exact HP.out
set_option maxHeartbeats 8000000 in
theorem addColumn_in (nm : ByteArray) (kd : Int) (nl : Bool) (o : Objs) (As : Option Addr) (caps : Nat) (At : Option Addr) (capt : Nat) (s n : ByteArray) (w : World) (hsch : SlAt w 2 SchR As caps o.schemas) (htab : SlAt w 5 TabR At capt o.tables) (hc : Small nm.size) :
    Calls Try.prog 27 #[.agg #[.slice As o.schemas.length caps, .slice At o.tables.length capt], .string s, .string n, .agg #[.string nm, .int .i64 kd, .bool nl]] w (ObjP w (chgR o (tabR o s n (addColF ⟨nm, kd, nl⟩)))) := by
  have hlen := hsch.len
  have hlen2 := htab.len
  have sm : SmO o := ⟨sm_schs hsch, sm_tabs htab⟩
  have hent := enters (P := Try.prog) Try.func81 (by kernel_rfl) rfl
  have l1 : w.heap.size < w.heap.size + 1 := by omega
  have l2 : w.heap.size < w.heap.size + 1 + 1 := by omega
  have l3 : w.heap.size < w.heap.size + 1 + 1 + 1 := by omega
  obtain ⟨W, hW⟩ : ∃ W, W = ((w.alloc (.cells #[.slice As o.schemas.length caps, .slice At o.tables.length capt] 25)).alloc (.cells #[.string nm, .int .i64 kd, .bool nl] 40)).alloc (.cells #[.slice none 0 0, .slice none 0 0] 25) := ⟨_, rfl⟩
  have aW : Aft w W := by rw [hW]; exact (((Aft.refl w).alloc _).alloc _).alloc _
  have rc : RowAt W (w.heap.size + 1) [.string nm, .int .i64 kd, .bool nl] := by
    rw [hW]
    have := (box_row2 (w := w.alloc (.cells #[.slice As o.schemas.length caps, .slice At o.tables.length capt] 25)) (c := [.string nm, .int .i64 kd, .bool nl]) (t := 40) (Aft.refl _)).aft ((Aft.refl _).alloc (.cells #[.slice none 0 0, .slice none 0 0] 25))
    simpa using this
  have r2 : RowAt W (w.heap.size + 1 + 1) [.slice none 0 0, .slice none 0 0] := by
    rw [hW]
    have := (box_row2 (w := (w.alloc (.cells #[.slice As o.schemas.length caps, .slice At o.tables.length capt] 25)).alloc (.cells #[.string nm, .int .i64 kd, .bool nl] 40)) (c := [.slice none 0 0, .slice none 0 0]) (t := 25) (Aft.refl _))
    simpa using this
  have zW : W.heap.size = w.heap.size + 3 := by rw [hW]; simp
  have CT := Lib.hid (tabCh_in o As caps At capt s n 81 #[.pointer (some ⟨w.heap.size + 1, 0, none⟩)] (addColF ⟨nm, kd, nl⟩) W (schs_aft aW hsch) (tabs_aft aW htab) hent
    (fun hck w'' hs ht L B n3 q gt hq a'' hB hn hL ob hne r3 hgt hqq => addCol1_in nm kd nl o w'' hs ht L B n3 q gt (w.heap.size + 1) hq hn hL ob hne r3 hgt (rc.aft a'') (by omega) sm hc))
  obtain ⟨rr, hrr⟩ : ∃ rr, chgR o (tabR o s n (addColF ⟨nm, kd, nl⟩)) = rr := ⟨_, rfl⟩
  rw [hrr] at CT ⊢
  have HAW := Lib.hid aW
  have HR2 := Lib.hid r2
  have HZ := Lib.hid zW
  clear hrr hsch htab r2 aW zW rc hc sm
  go_enter Try.func27, Try.ntmps27
  go_wp2_with fail
  rw [← hW]
  clear hW
  refine CT.out.mono ?_
  rintro e w3 ⟨hs, ht, L, hL, rfl, a3, ob⟩
  have b2 := HR2.out.aft a3
  have d0 := b2.cell (j := 0) rfl
  have d1 := b2.cell (j := 1) rfl
  have f0 := b2.2.2 0 (by simp)
  have f1 := b2.2.2 1 (by simp)
  have z2 := b2.1
  have HB3 := Lib.hid b2
  have HA3 := Lib.hid (HAW.out.trans a3)
  have HO := Lib.hid ob
  have HL := Lib.hid hL
  clear b2 a3 ob hL
  go_wp2_with fail
  refine bodyPost_ret (results_cell_tmp (v := .agg #[.slice hs.a rr.1.schemas.length hs.c, .slice ht.a rr.1.tables.length ht.c]) rfl _ rfl (lvObj_row (setO_row HB3.out rfl _ _))) rfl ?_
  exact objP_set HA3.out HL.out HO.out (by omega) (by have := HZ.out; omega) rfl
end Go.Proofs.Ytodifdofgjfkiaa
