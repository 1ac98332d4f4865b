/- Contracts of the program, part 17. -/
import Derived.Test.YticjnndhpfdajaaGreatPart1
import Derived.OrdersHeld
import Derived.Deep.RegionHeld3
import Derived.Test.YticjnndhpfdajaaGreatPart7
import Derived.Deep.RegionLaw
import Derived.Lib.Walk
/- A region that draws its order: reads (the first n operations) and a chain; a world's cells are as they were till the operation m comes up, and all reads come ahead of m: the reads are taken first. -/
namespace Go.Proofs.YticjnndhpfdajaaGreat
open Go.RowKit
section
variable {P : Program} {ops : Array Oper} {Q : Exit → Act → World → Prop} {md : Region.Mode} {T : World → Prop} {m : Nat}
def wpAnyS (P : Program) (md : Region.Mode) (ops : Array Oper) (Q : Exit → Act → World → Prop) (T : World → Prop) (m : Nat) : Nat → Array Bool → Act → World → Prop
  | 0, listed, a, w => Region.ready md ops listed = [] ∧ Q .normal a w
  | fuel + 1, listed, a, w =>
    (Region.ready md ops listed = [] → Q .normal a w) ∧
    ∀ i ∈ Region.ready md ops listed, wpOp P ops Q i (fun a' w' => ((listed.setIfInBounds i true).getD m false = false → T w') ∧ wpAnyS P md ops Q T m fuel (listed.setIfInBounds i true) a' w') a w
theorem wpAny_of_S : ∀ (fuel : Nat) (listed : Array Bool) (a : Act) (w : World), wpAnyS P md ops Q T m fuel listed a w → wpAny P md ops Q fuel listed a w
  | 0, _, _, _, h => h
  | fuel + 1, _, _, _, h => ⟨h.1, fun i hi => wpOp_mono (fun a' w' h' => wpAny_of_S fuel _ a' w' h'.2) (h.2 i hi)⟩
theorem getD_set_other {listed : Array Bool} {i j : Nat} (d : Bool) (h : i ≠ j) : (listed.setIfInBounds i true).getD j d = listed.getD j d := by
  simp [Array.getElem?_setIfInBounds_ne h]
theorem wpAnyS_first {i : Nat} {oi : Oper} {v : Value} (hi : ops[i]? = some oi) (hsel : ∀ (j : Nat) (o : Oper) cs b, ops[j]? = some o → o.op ≠ .select cs b)
    (hQ : ∀ c a w, Q (.panic c) (a.put oi.dst v) w → Q (.panic c) a w) (hne : i ≠ m) (hm : ∀ om, ops[m]? = some om → ∃ e ∈ om.after, Region.binds md e = true ∧ e.on = i) :
    ∀ (fuel : Nat) (listed : Array Bool) (a : Act) (w : World),
      (∀ j oj, ops[j]? = some oj → j ≠ i → listed.getD j true = false → (∀ e ∈ oj.after, Region.binds md e = true → e.on ≠ i) → oi.apart ops oj = true) →
      i ∈ Region.ready md ops listed → YieldsIf P ops T oi v a → T w → listed.getD m false = false →
      wpAnyS P md ops Q T m fuel (listed.setIfInBounds i true) (a.put oi.dst v) w → wpAnyS P md ops Q T m (fuel + 1) listed a w := by
  intro fuel
  induction fuel with
  | zero =>
    intro listed a w _ hr hy hS hlm H
    refine ⟨fun h => (by rw [h] at hr; cases hr), fun j hj => ?_⟩
    by_cases hji : j = i
    · subst hji; exact hy.wpOp hi hS ⟨fun _ => hS, H⟩
    · have := ready_mono hj hji
      rw [H.1] at this
      cases this
  | succ fuel ih =>
    intro listed a w hfree hr hy hS hlm H
    refine ⟨fun h => (by rw [h] at hr; cases hr), fun j hj => ?_⟩
    by_cases hji : j = i
    · subst hji; exact hy.wpOp hi hS ⟨fun _ => hS, H⟩
    · have h1 := H.2 j (ready_mono hj hji)
      obtain ⟨hjun, oj, hoj, hall⟩ := mem_ready.1 hj
      have hnot : ∀ e ∈ oj.after, Region.binds md e = true → e.on ≠ i := fun e he hb heq => by
        have h1 := hall e he hb
        have h0 := (mem_ready.1 hr).1
        rw [heq] at h1
        rcases Nat.lt_or_ge i listed.size with h' | h'
        · simp [h'] at h0 h1; rw [h0] at h1; cases h1
        · simp [Array.getElem?_eq_none h'] at h1
      have hjm : j ≠ m := fun e => by
        subst e
        obtain ⟨e, he, hb, hei⟩ := hm oj hoj
        exact hnot e he hb hei
      have h2 := wpOp_putIf hoj (hfree j oj hoj hji hjun hnot) (fun cs b => hsel i oi cs b hi) (fun cs b => hsel j oj cs b hoj) hQ hy h1
      have hfree' : ∀ k ok, ops[k]? = some ok → k ≠ i → (listed.setIfInBounds j true).getD k true = false →
          (∀ e ∈ ok.after, Region.binds md e = true → e.on ≠ i) → oi.apart ops ok = true := fun k ok hk hki hun hno => by
        refine hfree k ok hk hki ?_ hno
        by_cases hjk : j = k
        · subst hjk; exact hjun
        · rw [getD_set_ne true hjk] at hun; exact hun
      have hlm' : (listed.setIfInBounds j true).getD m false = false := by rw [getD_set_other false hjm]; exact hlm
      have hlm2 : ((listed.setIfInBounds i true).setIfInBounds j true).getD m false = false := by rw [getD_set_other false hjm, getD_set_other false hne]; exact hlm
      refine wpOp_mono (fun a' w' h3 => ⟨fun _ => h3.2.1 hlm2, ih (listed.setIfInBounds j true) a' w' hfree' (ready_mono hr (Ne.symm hji)) h3.1 (h3.2.1 hlm2) hlm' ?_⟩) h2
      rw [Array.setIfInBounds_comm _ _ hji]
      exact h3.2.2
theorem andThen_inv {α β : Type} {r : Result α} {f : α → World → Result β} {n : β} {w' : World} (h : r.andThen f = .ok n w') : ∃ a w1, r = .ok a w1 ∧ f a w1 = .ok n w' := by
  cases r with
  | ok a w1 => exact ⟨a, w1, rfl, h⟩
  | halt x w1 => simp [Result.andThen] at h
/-- an operation that reads -/
def readB (o : Oper) : Bool := o.guard.isNone && match o.op with | .load .. | .fieldAddr .. | .indexAddr .. | .move .. | .nilCheck .. | .assign .. | .lookup .. => true | _ => false
theorem read_value {o : Oper} {ev : Operand → Value} {w w' : World} {n : Next} (h : readB o = true) (hr : (execOp ev o).run P w = .ok n w') : ∃ v, n = .value v := by
  unfold readB at h
  simp only [Bool.and_eq_true] at h
  obtain ⟨_, h⟩ := h
  unfold execOp at hr
  cases ho : o.op <;> rw [ho] at h hr <;> simp only [Bool.false_eq_true] at h
  case nilCheck x =>
    simp only at hr
    split at hr
    · simp [runtimePanic] at hr
    · simp [runtimePanic] at hr
    · simp [runtimePanic] at hr
    · split at hr
      · simp [runtimePanic] at hr
      · simp only [Sem.run_bind] at hr
        obtain ⟨p, w1, _, h1⟩ := andThen_inv hr
        obtain ⟨q, w2, _, h2⟩ := andThen_inv h1
        split at h2
        · rw [Sem.run_bind] at h2
          obtain ⟨r, w3, h3, _⟩ := andThen_inv h2
          simp [unsupported] at h3
        · simp only [Sem.run_pure, Result.ok.injEq] at h2; exact ⟨_, h2.1.symm⟩
      · simp only [Sem.run_pure, Result.ok.injEq] at hr; exact ⟨_, hr.1.symm⟩
    · simp only [Sem.run_pure, Result.ok.injEq] at hr; exact ⟨_, hr.1.symm⟩
  all_goals
    simp only [Sem.run_bind, Sem.run_pure] at hr
    first
      | (simp only [Result.ok.injEq] at hr; exact ⟨_, hr.1.symm⟩)
      | (generalize Sem.run P _ w = r at hr; cases r <;> simp [Result.andThen] at hr; exact ⟨_, hr.1.symm⟩)
theorem read_yields {o : Oper} {v : Value} {a : Act} (hb : readB o = true) (h : ∀ w, T w → o.quietAt P a T w v) : YieldsIf P ops T o v a := by
  have hg : o.guard = none := by unfold readB at hb; simp only [Bool.and_eq_true, Option.isNone_iff_eq_none] at hb; exact hb.1
  refine .inl ⟨by simp [Region.wanted, hg], fun w hw => ?_⟩
  have h1 := h w hw
  unfold Oper.quietAt at h1
  cases hr : (execOp a.eval o).run P w with
  | ok n w' =>
    obtain ⟨u, rfl⟩ := read_value hb hr
    rw [hr] at h1
    simp only [Oper.quietUpon] at h1
    rw [h1.1, h1.2]
  | halt x w' =>
    rw [hr] at h1
    simp only [Oper.quietUpon] at h1
/-- the first k are done -/
def lk (n k : Nat) : Array Bool := (Array.range n).map fun j => decide (j < k)
theorem lk_size (n k : Nat) : (lk n k).size = n := by simp [lk]
theorem lk_get {n k j : Nat} (hj : j < n) (d : Bool) : (lk n k).getD j d = decide (j < k) := by
  simp [lk, hj]
theorem lk_out {n k j : Nat} (hj : n ≤ j) (d : Bool) : (lk n k).getD j d = d := by
  simp [lk, hj]
theorem lk_zero (n : Nat) : lk n 0 = Array.replicate n false := by
  apply Array.ext
  · simp [lk]
  · intro i h1 h2; simp [lk]
theorem lk_set {n k : Nat} (hk : k < n) : (lk n k).setIfInBounds k true = lk n (k + 1) := by
  apply Array.ext
  · simp [lk]
  · intro i h1 h2
    by_cases e : k = i
    · subst e; simp [lk]
    · rw [Array.getElem_setIfInBounds_ne (by simpa using h1) e]
      simp only [lk, Array.getElem_map, Array.getElem_range]
      have : (i < k) = (i < k + 1) := by
        apply propext; omega
      simp [this]
/-- the chain: what is asked of the world behind each operation ahead of m -/
def wpChain (P : Program) (ops : Array Oper) (Q : Exit → Act → World → Prop) (T : World → Prop) (m : Nat) : Nat → List Oper → Act → World → Prop
  | _, [], a, w => Q .normal a w
  | k, o :: r, a, w => o.wp P a w (fun a' w' => (k < m → T w') ∧ wpChain P ops Q T m (k + 1) r a' w') Q ∨ (o.asks P a w ∧ LetsOut Q)
theorem wpChain_step {k : Nat} {o : Oper} {r : List Oper} {a : Act} {w : World} (h : ∀ K : Act → World → Prop, (∀ a' w', (k < m → T w') → wpChain P ops Q T m (k + 1) r a' w' → K a' w') → o.wp P a w K Q) : wpChain P ops Q T m k (o :: r) a w :=
  .inl (h _ fun _ _ h1 h2 => ⟨h1, h2⟩)
/-- behind m the chain is a list like any other -/
theorem wpChain_list : ∀ (l : List Oper) {k : Nat} {a : Act} {w : World}, (∀ o ∈ l, o.guard = none) → m ≤ k → wpList P ops Q l a w → wpChain P ops Q T m k l a w
  | [], k, a, w, _, _, h => h
  | o :: r, k, a, w, hg, hk, h => by
    unfold wpList at h
    rw [if_pos (by simp [Region.wanted, hg o (by simp)])] at h
    rcases h with h | h
    · exact .inl (Oper.wp_mono (fun a' w' h' => ⟨fun hlt => absurd hlt (by omega), wpChain_list r (fun o ho => hg o (by simp [ho])) (by omega) h'⟩) h)
    · exact .inr h
def readsB (ops : Array Oper) (n m : Nat) : Bool :=
  Region.noSelect ops && decide (n ≤ m) && decide (m < ops.size) &&
  (List.range ops.size).all (fun k => match ops[k]? with
    | none => false
    | some o => if k < n then readB o && o.after.all (fun e => !Region.binds .any e || decide (e.on < k)) && Region.free .any ops (lk ops.size k) k && (match ops[m]? with | some om => om.after.any (fun e => Region.binds .any e && e.on == k) | none => false)
      else o.guard.isNone && (Region.ready .any ops (lk ops.size k) == [k])) && (Region.ready .any ops (lk ops.size ops.size) == [])
theorem chain_any {n : Nat} (hnm : n ≤ m) (hms : m < ops.size) (hc : ∀ k, n ≤ k → k < ops.size → ∃ o, ops[k]? = some o ∧ o.guard = none ∧ Region.ready .any ops (lk ops.size k) = [k]) (hz : Region.ready .any ops (lk ops.size ops.size) = []) :
    ∀ (l : List Oper) (k : Nat) (a : Act) (w : World), n ≤ k → k + l.length = ops.size → (∀ j (hj : j < l.length), ops[k + j]? = some l[j]) → wpChain P ops Q T m k l a w → wpAnyS P .any ops Q T m l.length (lk ops.size k) a w
  | [], k, a, w, _, hl, _, h => by
    have e : k = ops.size := by simpa using hl
    subst e
    exact ⟨hz, h⟩
  | o :: r, k, a, w, hk, hl, ho, h => by
    simp only [List.length_cons] at hl
    have hks : k < ops.size := by omega
    obtain ⟨o', ho', hg, hr⟩ := hc k hk hks
    have h0 := ho 0 (by simp)
    simp only [Nat.add_zero, List.getElem_cons_zero] at h0
    rw [h0] at ho'
    simp only [Option.some.injEq] at ho'
    subst ho'
    refine ⟨fun e => absurd (hr.symm.trans e) (by simp), fun i hi => ?_⟩
    rw [hr, List.mem_singleton] at hi
    subst hi
    unfold wpOp
    simp only [h0]
    rw [if_pos (by simp [Region.wanted, hg])]
    rcases h with h | h
    case inr => exact .inr h
    refine .inl (Oper.wp_mono (fun a' w' h' => ?_) h)
    refine ⟨fun hm => h'.1 ?_, ?_⟩
    · rw [lk_set hks, lk_get hms] at hm
      simp at hm; omega
    · rw [lk_set hks]
      exact chain_any hnm hms hc hz r (i + 1) a' w' (by omega) (by omega) (fun j hj => by have := ho (j + 1) (by simpa using hj); simpa [Nat.add_assoc, Nat.add_comm 1 j] using this) h'.2
theorem reads_any {n : Nat} (hsel : Region.noSelect ops = true) (hnm : n ≤ m) (hms : m < ops.size) (hQ : ∀ c a d v w, Q (.panic c) (Act.put a d v) w → Q (.panic c) a w)
    (hr : ∀ k, k < n → ∃ o, ops[k]? = some o ∧ readB o = true ∧ (∀ e ∈ o.after, Region.binds .any e = true → e.on < k) ∧ Region.free .any ops (lk ops.size k) k = true ∧ ∀ om, ops[m]? = some om → ∃ e ∈ om.after, Region.binds .any e = true ∧ e.on = k)
    (hc : ∀ k, n ≤ k → k < ops.size → ∃ o, ops[k]? = some o ∧ o.guard = none ∧ Region.ready .any ops (lk ops.size k) = [k]) (hz : Region.ready .any ops (lk ops.size ops.size) = []) (tl : List Oper) (htl : n + tl.length = ops.size) (hto : ∀ j (hj : j < tl.length), ops[n + j]? = some tl[j]) (w : World) (hT : T w) :
    ∀ (l : List Oper) (k : Nat) (a : Act), k + l.length = n → (∀ j (hj : j < l.length), ops[k + j]? = some l[j]) → wpQuiet P ops T (fun a' => wpChain P ops Q T m n tl a' w) l a → wpAnyS P .any ops Q T m (l.length + tl.length) (lk ops.size k) a w
  | [], k, a, hl, _, h => by
    have e : k = n := by simpa using hl
    subst e
    simp only [List.length_nil, Nat.zero_add]
    exact chain_any hnm hms hc hz tl k a w (Nat.le_refl _) htl hto h
  | o :: r, k, a, hl, ho, h => by
    simp only [List.length_cons] at hl
    have hkn : k < n := by omega
    have hks : k < ops.size := by omega
    obtain ⟨o', ho', hb, he, hf, hm⟩ := hr k hkn
    have h0 := ho 0 (by simp)
    simp only [Nat.add_zero, List.getElem_cons_zero] at h0
    rw [h0] at ho'
    simp only [Option.some.injEq] at ho'
    subst ho'
    have hg : o.guard = none := by unfold readB at hb; simp only [Bool.and_eq_true, Option.isNone_iff_eq_none] at hb; exact hb.1
    unfold wpQuiet at h
    rw [if_pos (by simp [Region.wanted, hg])] at h
    obtain ⟨v, hv, hn⟩ := h
    have e1 : (o :: r).length + tl.length = (r.length + tl.length) + 1 := by simp; omega
    rw [e1]
    refine wpAnyS_first h0 (Region.noSelect_spec hsel) (fun c a w h => hQ c a _ _ w h) (by omega) hm _ _ a w (Region.free_spec h0 hf) ?_ (read_yields hb hv) hT (by rw [lk_get hms]; simp; omega) ?_
    · rw [mem_ready]
      refine ⟨by rw [lk_get hks]; simp, o, h0, fun e hem hbd => ?_⟩
      have := he e hem hbd
      rw [lk_get (by omega)]
      simpa using this
    · rw [lk_set hks]
      exact reads_any hsel hnm hms hQ hr hc hz tl htl hto w hT r (k + 1) _ (by omega) (fun j hj => by have := ho (j + 1) (by simpa using hj); simpa [Nat.add_assoc, Nat.add_comm 1 j] using this) hn
theorem wp_region_reads0 {id : Nat} {a : Act} {w : World} {l : List Oper} (n m : Nat) (T : World → Prop) (hm : P.follows .mixedOrders = true) (hB : readsB l.toArray n m = true) (hQ : ∀ c a d v w, Q (.panic c) (Act.put a d v) w → Q (.panic c) a w) (hT : T w.drew)
    (h : wpQuiet P l.toArray T (fun a' => wpChain P l.toArray Q T m n (l.drop n) a' w.drew) (l.take n) a) : (Code.region id l.toArray true).wp P Q a w := by
  unfold readsB at hB
  simp only [Bool.and_eq_true, decide_eq_true_eq, List.all_eq_true, List.mem_range, beq_iff_eq] at hB
  obtain ⟨⟨⟨⟨hsel, hnm⟩, hms⟩, hall⟩, hz⟩ := hB
  have hml : m < l.length := by simpa using hms
  have hnl : n ≤ l.length := by omega
  refine wp_region_any hm (wpAny_of_S (T := T) (m := m) _ _ _ _ ?_)
  rw [← lk_zero]
  have htake : (l.take n).length = n := by rw [List.length_take]; omega
  have hsz : l.toArray.size = (l.take n).length + (l.drop n).length := by simp; omega
  have hopt : ∀ k (hk : k < l.length), l.toArray[k]? = some l[k] := fun k hk => by simp
  have key := reads_any (P := P) (ops := l.toArray) (Q := Q) (T := T) (m := m) (n := n) hsel hnm hms hQ ?_ ?_ hz (l.drop n) (by simp; omega) (fun j hj => by simp at hj ⊢) w.drew hT (l.take n) 0 a (by simpa using htake) (fun j hj => by simp only [List.length_take] at hj; simp) h
  · have e : (l.take n).length + (l.drop n).length = l.toArray.size := hsz.symm
    rw [e] at key
    exact key
  · intro k hk
    have hkl : k < l.length := by omega
    have := hall k (by simpa using hkl)
    rw [hopt k hkl] at this
    simp only [if_pos hk, Bool.and_eq_true] at this
    obtain ⟨⟨⟨h1, h2⟩, h3⟩, h4⟩ := this
    refine ⟨l[k], hopt k hkl, h1, fun e he hb => ?_, h3, fun om hom => ?_⟩
    · have := Array.all_eq_true_iff_forall_mem.1 h2 e he
      simp [hb] at this
      exact this
    · rw [hom] at h4
      simp only at h4
      obtain ⟨e, he, hb⟩ := Array.any_eq_true'.1 h4
      simp only [Bool.and_eq_true, beq_iff_eq] at hb
      exact ⟨e, he, hb.1, hb.2⟩
  · intro k hk hks
    have hkl : k < l.length := by simpa using hks
    have := hall k hks
    rw [hopt k hkl] at this
    simp only [if_neg (by omega : ¬ k < n), Bool.and_eq_true, Option.isNone_iff_eq_none, beq_iff_eq] at this
    exact ⟨l[k], hopt k hkl, this.1, this.2⟩
theorem wp_region_reads {id : Nat} {a : Act} {w : World} {l : List Oper} (n m : Nat) (T : World → Prop) (hm : P.follows .mixedOrders = true) (hB : readsB l.toArray n m = true) (hT : T w.drew)
    (h : wpQuiet P l.toArray T (fun a' => wpChain P l.toArray (NoPanic Q) T m n (l.drop n) a' w.drew) (l.take n) a) : (Code.region id l.toArray true).wp P Q a w :=
  wp_region_noPanic (wp_region_reads0 n m T hm hB (fun _ _ _ _ _ h => h) hT h)
end
end Go.Proofs.YticjnndhpfdajaaGreat
/- Worlds in which all blocks but a row's own lie as they lay: the class for reads beside an append. -/
namespace Go.Proofs.YticjnndhpfdajaaGreat
open Go.RowKit
set_option linter.unusedVariables false
def InV (v : Value) (g : Nat) : Prop := v.ownBlock = some g
structure KLat (v : Value) (w : World) where
  to : World
  kb : Kb (InV v) w to
instance (v : Value) (w : World) : Nonempty (KLat v w) := ⟨⟨w, Kb.refl _ _⟩⟩
def klat (v : Value) (w : World) (x : KLat v w) : World := x.to
@[go_sem] theorem cell?_klat (v : Value) (w : World) (x : KLat v w) (b o : Nat) (h : b < w.heap.size) (hn : ¬ InV v b) : (klat v w x).cell? ⟨b, o, none⟩ = w.cell? ⟨b, o, none⟩ := by
  have := x.kb.block b h hn
  simp [World.cell?, klat, this]
@[go_sem] theorem frozen?_klat (v : Value) (w : World) (x : KLat v w) (b o : Nat) (h : b < w.heap.size) (hn : ¬ InV v b) : (klat v w x).frozen? ⟨b, o, none⟩ = w.frozen? ⟨b, o, none⟩ := by
  have := x.kb.block b h hn
  simp [World.frozen?, klat, this]
@[go_sem] theorem lt_klat (v : Value) (w : World) (x : KLat v w) (b : Nat) (h : b < w.heap.size) : b < (klat v w x).heap.size := Nat.lt_of_lt_of_le h x.kb.size
def KL (v : Value) (w w' : World) : Prop := ∃ x : KLat v w, w' = klat v w x
theorem KL.of {v : Value} {w w' : World} (h : Kb (InV v) w w') : ∃ x : KLat v w, w' = klat v w x := ⟨⟨w', h⟩, rfl⟩
theorem KL.aft {v : Value} {w w' : World} (h : Aft w w') : ∃ x : KLat v w, w' = klat v w x := KL.of (Kb.of_aft h)
theorem kb_in {v : Value} {w w' : World} (h : w.grownBy w' v.ownBlock) : Kb (InV v) w w' := Kb.of_grown h
theorem not_in {v : Value} {w : World} {B size n : Nat} {e : TypeId} {xs : List Value} (o : w.ownsRow B e size v n xs) {g : Nat} (hg : g < B) : ¬ InV v g := fun h => by have := (o.lt g h).1; omega
end Go.Proofs.YticjnndhpfdajaaGreat
/- slices.Delete of one element. -/
namespace Go.Proofs.YticjnndhpfdajaaGreat
open Go.RowKit Go.Deep
set_option maxRecDepth 100000
set_option linter.unusedVariables false
theorem infoDCol : (Tryz.prog.info? 41).map (fun i => (i.zero, i.size, i.bytes)) = some (some (.agg #[.string ByteArray.empty, .int .i64 0, .bool false]), 3, 32) := by kernel_rfl
set_option maxHeartbeats 8000000 in
theorem delCol (g cap i m B : Nat) (xs : List Value) (w : World) (ho : w.ownsRow B 41 3 (.slice (some ⟨g, 0, none⟩) (i + 1 + m) cap) (i + 1 + m) xs) (h1 : ∀ u ∈ xs, u.oneCell' = true) (hb : cap ≤ 9223372036854775807) :
    Calls Tryz.prog 96 #[.slice (some ⟨g, 0, none⟩) (i + 1 + m) cap, .int .i64 i, .int .i64 ((i : Int) + 1)] w (DelP 41 3 w B g cap i m xs) := by
  obtain ⟨i0, hi0, hz0, hz1, hz2⟩ := info_parts infoDCol
  obtain ⟨g', cap', hv', hgb, hnc, hr⟩ := own_rowAt ho (by omega)
  simp only [Value.slice.injEq, true_and, Option.some.injEq, Addr.mk.injEq, and_true] at hv'
  obtain ⟨rfl, rfl⟩ := hv'
  have hx := ho.1
  have hzr : ∀ w : World, (zeroValue 41).run Tryz.prog w = .ok (.agg #[.string ByteArray.empty, .int .i64 0, .bool false]) w := fun w => by kernel_rfl
  obtain ⟨news, hnews⟩ : ∃ news, news = xs.drop ((i + 1) * 3) := ⟨_, rfl⟩
  have hlen : news.length = m * 3 := by rw [hnews, List.length_drop, hx]; omega
  have hsrc : ∃ A : Addr, (if cap = i + 1 then some (⟨g, 0, none⟩ : Addr) else some ⟨g, (i + 1) * 3, none⟩) = some A ∧ Hid (∀ t u, news[t]? = some u → w.drew.cell? (A.add t) = some u) := by
    by_cases h : cap = i + 1
    · refine ⟨⟨g, 0, none⟩, by simp [h], Lib.hid fun t u hu => ?_⟩
      have h0 : news.length = 0 := by rw [hlen]; omega
      rw [List.length_eq_zero_iff.1 h0] at hu
      simp at hu
    · refine ⟨⟨g, (i + 1) * 3, none⟩, by simp [h], Lib.hid fun t u hu => ?_⟩
      rw [hnews, List.getElem?_drop] at hu
      rw [Addr.add_lit]
      exact hr.cell hu
  obtain ⟨A, hA, hsrc⟩ := hsrc
  have s1 := Lib.hid hlen
  have s2 := Lib.hid (show ∀ u ∈ news, u.oneCell' = true from fun u hu => h1 u (by rw [hnews] at hu; exact List.mem_of_mem_drop hu))
  have s3 := Lib.hid (show ∀ t, t < news.length → (w.drew.cell? ⟨g, 0 + i * 3 + t, none⟩).isSome = true ∧ w.drew.frozen? ⟨g, 0 + i * 3 + t, none⟩ = false from fun t ht => by
    rw [hlen] at ht
    have hl : 0 + i * 3 + t < xs.length := by rw [hx]; omega
    exact ⟨by show (w.cell? _).isSome = true; rw [hr.2.1 _ hl, List.getElem?_eq_getElem hl]; rfl, hr.2.2 _ hl⟩)
  obtain ⟨W1, hW1⟩ : ∃ W1, W1 = w.drew.setCells g (0 + i * 3) news := ⟨_, rfl⟩
  have ho1 : W1.ownsRow B 41 3 (.slice (some ⟨g, 0, none⟩) (i + 1 + m) cap) (i + 1 + m) (setL xs (0 + i * 3) news) := by rw [hW1]; exact own_setCells (g := g) rfl news _ (own_aft ho (Aft.refl w).drew)
  obtain ⟨_, _, hv1, _, _, hr1⟩ := own_rowAt ho1 (by omega)
  simp only [Value.slice.injEq, true_and, Option.some.injEq, Addr.mk.injEq, and_true] at hv1
  obtain ⟨rfl, rfl⟩ := hv1
  have hcl : ∀ ty, (Builtin.clear_ #[47] ty #[.slice (some ⟨g, (i + m) * 3, none⟩) 1 (cap - (i + m))]).run Tryz.prog W1 = .ok (.tuple #[]) (W1.setCells g ((i + m) * 3) [.string ByteArray.empty, .int .i64 0, .bool false]) := fun ty => by
    refine run_clear_one W1 _ _ ty _ Tryz.underlying47 hzr (by intro u hu; have hu : u ∈ ([.string ByteArray.empty, .int .i64 0, .bool false] : List Value) := hu; simp only [List.mem_cons, List.not_mem_nil, or_false] at hu; rcases hu with rfl | rfl | rfl <;> rfl) g ((i + m) * 3) (cap - (i + m)) (fun j hj => ?_) (fun j hj => ?_)
    · have hj' : j < 3 := hj
      have hl : (i + m) * 3 + j < (setL xs (0 + i * 3) news).length := by rw [setL_len, hx]; omega
      rw [hr1.2.1 _ hl, List.getElem?_eq_getElem hl]; rfl
    · have hj' : j < 3 := hj
      exact hr1.2.2 _ (by rw [setL_len, hx]; omega)
  have HF := Lib.hid (show DelP 41 3 w B g cap i m xs (.returned (.slice (some ⟨g, 0, none⟩) (i + m) cap)) (W1.setCells g ((i + m) * 3) [.string ByteArray.empty, .int .i64 0, .bool false]) from by
    refine ⟨rfl, ?_, ?_⟩
    · rw [hW1, hnews, Nat.zero_add]
      exact del_own (own_aft ho (Aft.refl w).drew) rfl
    · rw [hW1]
      exact (Kb.of_aft (Aft.refl w).drew).trans ((kb_setCells g news _ _).trans (kb_setCells g _ _ _)))
  have hW := Lib.hid hW1
  (try simp only [Nat.mul_one] at hA)
  have hic : i ≤ cap := by omega
  have hjc : i + 1 ≤ cap := by omega
  have hne : ((i : Int) == (i : Int) + 1) = false := by simp; omega
  clear hW1 ho1 hr1 hr ho hnews hlen h1 hx
  go_enter Tryz.func96, Tryz.ntmps96
  have k0 : (0 : Int) ≤ (i : Int) + 1 := by omega
  have k1 : (i : Int) + 1 ≤ (i : Int) + 1 + (m : Int) := by omega
  go_wp2_with fail
  go_region_law (refine step_append_room rfl (.tmp 22) (.tmp 25) 47 rfl 41 i0 3 Tryz.underlying47 hi0 hz1 g 0 i cap (by simp [Act.eval, Act.put]) A m (cap - (i + 1)) news (by simp [Act.eval, Act.put]) s1.out hsrc.out s2.out (by omega) s3.out ?_; rw [← hW.out])
  have hcl2 : ∀ ty, (Builtin.clear_ #[47] ty #[.slice (some ⟨g, (i + m) * 3, none⟩) (i + 1 + m - (i + m)) (cap - (i + m))]).run Tryz.prog W1 = .ok (.tuple #[]) (W1.setCells g ((i + m) * 3) [.string ByteArray.empty, .int .i64 0, .bool false]) := fun ty => by
    have e1 : i + 1 + m - (i + m) = 1 := by omega
    rw [e1]; exact hcl ty
  (try simp only [Nat.mul_one] at hcl2)
  have hcm : ¬ cap = i + m := by omega
  have k3 : (i : Int) + (m : Int) ≤ (i : Int) + 1 + (m : Int) := by omega
  have k4 : (0 : Int) ≤ (i : Int) + (m : Int) := by omega
  have k5 : (i : Int) + 1 + (m : Int) ≤ (cap : Int) := by omega
  go_wp2_with fail
  go_ret
  first | exact HF.out | (have h9 := HF.out; simp only [Nat.mul_one] at h9; exact h9)
theorem infoDSch : (Tryz.prog.info? 99).map (fun i => (i.zero, i.size, i.bytes)) = some (some (.agg #[.string ByteArray.empty, .string ByteArray.empty]), 2, 32) := by kernel_rfl
set_option maxHeartbeats 8000000 in
theorem delSch (g cap i m B : Nat) (xs : List Value) (w : World) (ho : w.ownsRow B 99 2 (.slice (some ⟨g, 0, none⟩) (i + 1 + m) cap) (i + 1 + m) xs) (h1 : ∀ u ∈ xs, u.oneCell' = true) (hb : cap ≤ 9223372036854775807) :
    Calls Tryz.prog 100 #[.slice (some ⟨g, 0, none⟩) (i + 1 + m) cap, .int .i64 i, .int .i64 ((i : Int) + 1)] w (DelP 99 2 w B g cap i m xs) := by
  obtain ⟨i0, hi0, hz0, hz1, hz2⟩ := info_parts infoDSch
  obtain ⟨g', cap', hv', hgb, hnc, hr⟩ := own_rowAt ho (by omega)
  simp only [Value.slice.injEq, true_and, Option.some.injEq, Addr.mk.injEq, and_true] at hv'
  obtain ⟨rfl, rfl⟩ := hv'
  have hx := ho.1
  have hzr : ∀ w : World, (zeroValue 99).run Tryz.prog w = .ok (.agg #[.string ByteArray.empty, .string ByteArray.empty]) w := fun w => by kernel_rfl
  obtain ⟨news, hnews⟩ : ∃ news, news = xs.drop ((i + 1) * 2) := ⟨_, rfl⟩
  have hlen : news.length = m * 2 := by rw [hnews, List.length_drop, hx]; omega
  have hsrc : ∃ A : Addr, (if cap = i + 1 then some (⟨g, 0, none⟩ : Addr) else some ⟨g, (i + 1) * 2, none⟩) = some A ∧ Hid (∀ t u, news[t]? = some u → w.drew.cell? (A.add t) = some u) := by
    by_cases h : cap = i + 1
    · refine ⟨⟨g, 0, none⟩, by simp [h], Lib.hid fun t u hu => ?_⟩
      have h0 : news.length = 0 := by rw [hlen]; omega
      rw [List.length_eq_zero_iff.1 h0] at hu
      simp at hu
    · refine ⟨⟨g, (i + 1) * 2, none⟩, by simp [h], Lib.hid fun t u hu => ?_⟩
      rw [hnews, List.getElem?_drop] at hu
      rw [Addr.add_lit]
      exact hr.cell hu
  obtain ⟨A, hA, hsrc⟩ := hsrc
  have s1 := Lib.hid hlen
  have s2 := Lib.hid (show ∀ u ∈ news, u.oneCell' = true from fun u hu => h1 u (by rw [hnews] at hu; exact List.mem_of_mem_drop hu))
  have s3 := Lib.hid (show ∀ t, t < news.length → (w.drew.cell? ⟨g, 0 + i * 2 + t, none⟩).isSome = true ∧ w.drew.frozen? ⟨g, 0 + i * 2 + t, none⟩ = false from fun t ht => by
    rw [hlen] at ht
    have hl : 0 + i * 2 + t < xs.length := by rw [hx]; omega
    exact ⟨by show (w.cell? _).isSome = true; rw [hr.2.1 _ hl, List.getElem?_eq_getElem hl]; rfl, hr.2.2 _ hl⟩)
  obtain ⟨W1, hW1⟩ : ∃ W1, W1 = w.drew.setCells g (0 + i * 2) news := ⟨_, rfl⟩
  have ho1 : W1.ownsRow B 99 2 (.slice (some ⟨g, 0, none⟩) (i + 1 + m) cap) (i + 1 + m) (setL xs (0 + i * 2) news) := by rw [hW1]; exact own_setCells (g := g) rfl news _ (own_aft ho (Aft.refl w).drew)
  obtain ⟨_, _, hv1, _, _, hr1⟩ := own_rowAt ho1 (by omega)
  simp only [Value.slice.injEq, true_and, Option.some.injEq, Addr.mk.injEq, and_true] at hv1
  obtain ⟨rfl, rfl⟩ := hv1
  have hcl : ∀ ty, (Builtin.clear_ #[22] ty #[.slice (some ⟨g, (i + m) * 2, none⟩) 1 (cap - (i + m))]).run Tryz.prog W1 = .ok (.tuple #[]) (W1.setCells g ((i + m) * 2) [.string ByteArray.empty, .string ByteArray.empty]) := fun ty => by
    refine run_clear_one W1 _ _ ty _ Tryz.underlying22 hzr (by intro u hu; have hu : u ∈ ([.string ByteArray.empty, .string ByteArray.empty] : List Value) := hu; simp only [List.mem_cons, List.not_mem_nil, or_false] at hu; rcases hu with rfl | rfl <;> rfl) g ((i + m) * 2) (cap - (i + m)) (fun j hj => ?_) (fun j hj => ?_)
    · have hj' : j < 2 := hj
      have hl : (i + m) * 2 + j < (setL xs (0 + i * 2) news).length := by rw [setL_len, hx]; omega
      rw [hr1.2.1 _ hl, List.getElem?_eq_getElem hl]; rfl
    · have hj' : j < 2 := hj
      exact hr1.2.2 _ (by rw [setL_len, hx]; omega)
  have HF := Lib.hid (show DelP 99 2 w B g cap i m xs (.returned (.slice (some ⟨g, 0, none⟩) (i + m) cap)) (W1.setCells g ((i + m) * 2) [.string ByteArray.empty, .string ByteArray.empty]) from by
    refine ⟨rfl, ?_, ?_⟩
    · rw [hW1, hnews, Nat.zero_add]
      exact del_own (own_aft ho (Aft.refl w).drew) rfl
    · rw [hW1]
      exact (Kb.of_aft (Aft.refl w).drew).trans ((kb_setCells g news _ _).trans (kb_setCells g _ _ _)))
  have hW := Lib.hid hW1
  (try simp only [Nat.mul_one] at hA)
  have hic : i ≤ cap := by omega
  have hjc : i + 1 ≤ cap := by omega
  have hne : ((i : Int) == (i : Int) + 1) = false := by simp; omega
  clear hW1 ho1 hr1 hr ho hnews hlen h1 hx
  go_enter Tryz.func100, Tryz.ntmps100
  have k0 : (0 : Int) ≤ (i : Int) + 1 := by omega
  have k1 : (i : Int) + 1 ≤ (i : Int) + 1 + (m : Int) := by omega
  go_wp2_with fail
  go_region_law (refine step_append_room rfl (.tmp 22) (.tmp 25) 22 rfl 99 i0 2 Tryz.underlying22 hi0 hz1 g 0 i cap (by simp [Act.eval, Act.put]) A m (cap - (i + 1)) news (by simp [Act.eval, Act.put]) s1.out hsrc.out s2.out (by omega) s3.out ?_; rw [← hW.out])
  have hcl2 : ∀ ty, (Builtin.clear_ #[22] ty #[.slice (some ⟨g, (i + m) * 2, none⟩) (i + 1 + m - (i + m)) (cap - (i + m))]).run Tryz.prog W1 = .ok (.tuple #[]) (W1.setCells g ((i + m) * 2) [.string ByteArray.empty, .string ByteArray.empty]) := fun ty => by
    have e1 : i + 1 + m - (i + m) = 1 := by omega
    rw [e1]; exact hcl ty
  (try simp only [Nat.mul_one] at hcl2)
  have hcm : ¬ cap = i + m := by omega
  have k3 : (i : Int) + (m : Int) ≤ (i : Int) + 1 + (m : Int) := by omega
  have k4 : (0 : Int) ≤ (i : Int) + (m : Int) := by omega
  have k5 : (i : Int) + 1 + (m : Int) ≤ (cap : Int) := by omega
  go_wp2_with fail
  go_ret
  first | exact HF.out | (have h9 := HF.out; simp only [Nat.mul_one] at h9; exact h9)
theorem infoDRul : (Tryz.prog.info? 29).map (fun i => (i.zero, i.size, i.bytes)) = some (some (.agg #[.string ByteArray.empty, .int .i64 0, .slice none 0 0, .int .i64 0, .int .i64 0, .string ByteArray.empty, .string ByteArray.empty, .string ByteArray.empty]), 8, 112) := by kernel_rfl
set_option maxHeartbeats 8000000 in
theorem delRul (g cap i m B : Nat) (xs : List Value) (w : World) (ho : w.ownsRow B 29 8 (.slice (some ⟨g, 0, none⟩) (i + 1 + m) cap) (i + 1 + m) xs) (h1 : ∀ u ∈ xs, u.oneCell' = true) (hb : cap ≤ 9223372036854775807) :
    Calls Tryz.prog 78 #[.slice (some ⟨g, 0, none⟩) (i + 1 + m) cap, .int .i64 i, .int .i64 ((i : Int) + 1)] w (DelP 29 8 w B g cap i m xs) := by
  obtain ⟨i0, hi0, hz0, hz1, hz2⟩ := info_parts infoDRul
  obtain ⟨g', cap', hv', hgb, hnc, hr⟩ := own_rowAt ho (by omega)
  simp only [Value.slice.injEq, true_and, Option.some.injEq, Addr.mk.injEq, and_true] at hv'
  obtain ⟨rfl, rfl⟩ := hv'
  have hx := ho.1
  have hzr : ∀ w : World, (zeroValue 29).run Tryz.prog w = .ok (.agg #[.string ByteArray.empty, .int .i64 0, .slice none 0 0, .int .i64 0, .int .i64 0, .string ByteArray.empty, .string ByteArray.empty, .string ByteArray.empty]) w := fun w => by kernel_rfl
  obtain ⟨news, hnews⟩ : ∃ news, news = xs.drop ((i + 1) * 8) := ⟨_, rfl⟩
  have hlen : news.length = m * 8 := by rw [hnews, List.length_drop, hx]; omega
  have hsrc : ∃ A : Addr, (if cap = i + 1 then some (⟨g, 0, none⟩ : Addr) else some ⟨g, (i + 1) * 8, none⟩) = some A ∧ Hid (∀ t u, news[t]? = some u → w.drew.cell? (A.add t) = some u) := by
    by_cases h : cap = i + 1
    · refine ⟨⟨g, 0, none⟩, by simp [h], Lib.hid fun t u hu => ?_⟩
      have h0 : news.length = 0 := by rw [hlen]; omega
      rw [List.length_eq_zero_iff.1 h0] at hu
      simp at hu
    · refine ⟨⟨g, (i + 1) * 8, none⟩, by simp [h], Lib.hid fun t u hu => ?_⟩
      rw [hnews, List.getElem?_drop] at hu
      rw [Addr.add_lit]
      exact hr.cell hu
  obtain ⟨A, hA, hsrc⟩ := hsrc
  have s1 := Lib.hid hlen
  have s2 := Lib.hid (show ∀ u ∈ news, u.oneCell' = true from fun u hu => h1 u (by rw [hnews] at hu; exact List.mem_of_mem_drop hu))
  have s3 := Lib.hid (show ∀ t, t < news.length → (w.drew.cell? ⟨g, 0 + i * 8 + t, none⟩).isSome = true ∧ w.drew.frozen? ⟨g, 0 + i * 8 + t, none⟩ = false from fun t ht => by
    rw [hlen] at ht
    have hl : 0 + i * 8 + t < xs.length := by rw [hx]; omega
    exact ⟨by show (w.cell? _).isSome = true; rw [hr.2.1 _ hl, List.getElem?_eq_getElem hl]; rfl, hr.2.2 _ hl⟩)
  obtain ⟨W1, hW1⟩ : ∃ W1, W1 = w.drew.setCells g (0 + i * 8) news := ⟨_, rfl⟩
  have ho1 : W1.ownsRow B 29 8 (.slice (some ⟨g, 0, none⟩) (i + 1 + m) cap) (i + 1 + m) (setL xs (0 + i * 8) news) := by rw [hW1]; exact own_setCells (g := g) rfl news _ (own_aft ho (Aft.refl w).drew)
  obtain ⟨_, _, hv1, _, _, hr1⟩ := own_rowAt ho1 (by omega)
  simp only [Value.slice.injEq, true_and, Option.some.injEq, Addr.mk.injEq, and_true] at hv1
  obtain ⟨rfl, rfl⟩ := hv1
  have hcl : ∀ ty, (Builtin.clear_ #[48] ty #[.slice (some ⟨g, (i + m) * 8, none⟩) 1 (cap - (i + m))]).run Tryz.prog W1 = .ok (.tuple #[]) (W1.setCells g ((i + m) * 8) [.string ByteArray.empty, .int .i64 0, .slice none 0 0, .int .i64 0, .int .i64 0, .string ByteArray.empty, .string ByteArray.empty, .string ByteArray.empty]) := fun ty => by
    refine run_clear_one W1 _ _ ty _ Tryz.underlying48 hzr (by intro u hu; have hu : u ∈ ([.string ByteArray.empty, .int .i64 0, .slice none 0 0, .int .i64 0, .int .i64 0, .string ByteArray.empty, .string ByteArray.empty, .string ByteArray.empty] : List Value) := hu; simp only [List.mem_cons, List.not_mem_nil, or_false] at hu; rcases hu with rfl | rfl | rfl | rfl | rfl | rfl | rfl | rfl <;> rfl) g ((i + m) * 8) (cap - (i + m)) (fun j hj => ?_) (fun j hj => ?_)
    · have hj' : j < 8 := hj
      have hl : (i + m) * 8 + j < (setL xs (0 + i * 8) news).length := by rw [setL_len, hx]; omega
      rw [hr1.2.1 _ hl, List.getElem?_eq_getElem hl]; rfl
    · have hj' : j < 8 := hj
      exact hr1.2.2 _ (by rw [setL_len, hx]; omega)
  have HF := Lib.hid (show DelP 29 8 w B g cap i m xs (.returned (.slice (some ⟨g, 0, none⟩) (i + m) cap)) (W1.setCells g ((i + m) * 8) [.string ByteArray.empty, .int .i64 0, .slice none 0 0, .int .i64 0, .int .i64 0, .string ByteArray.empty, .string ByteArray.empty, .string ByteArray.empty]) from by
    refine ⟨rfl, ?_, ?_⟩
    · rw [hW1, hnews, Nat.zero_add]
      exact del_own (own_aft ho (Aft.refl w).drew) rfl
    · rw [hW1]
      exact (Kb.of_aft (Aft.refl w).drew).trans ((kb_setCells g news _ _).trans (kb_setCells g _ _ _)))
  have hW := Lib.hid hW1
  (try simp only [Nat.mul_one] at hA)
  have hic : i ≤ cap := by omega
  have hjc : i + 1 ≤ cap := by omega
  have hne : ((i : Int) == (i : Int) + 1) = false := by simp; omega
  clear hW1 ho1 hr1 hr ho hnews hlen h1 hx
  go_enter Tryz.func78, Tryz.ntmps78
  have k0 : (0 : Int) ≤ (i : Int) + 1 := by omega
  have k1 : (i : Int) + 1 ≤ (i : Int) + 1 + (m : Int) := by omega
  go_wp2_with fail
  go_region_law (refine step_append_room rfl (.tmp 22) (.tmp 25) 48 rfl 29 i0 8 Tryz.underlying48 hi0 hz1 g 0 i cap (by simp [Act.eval, Act.put]) A m (cap - (i + 1)) news (by simp [Act.eval, Act.put]) s1.out hsrc.out s2.out (by omega) s3.out ?_; rw [← hW.out])
  have hcl2 : ∀ ty, (Builtin.clear_ #[48] ty #[.slice (some ⟨g, (i + m) * 8, none⟩) (i + 1 + m - (i + m)) (cap - (i + m))]).run Tryz.prog W1 = .ok (.tuple #[]) (W1.setCells g ((i + m) * 8) [.string ByteArray.empty, .int .i64 0, .slice none 0 0, .int .i64 0, .int .i64 0, .string ByteArray.empty, .string ByteArray.empty, .string ByteArray.empty]) := fun ty => by
    have e1 : i + 1 + m - (i + m) = 1 := by omega
    rw [e1]; exact hcl ty
  (try simp only [Nat.mul_one] at hcl2)
  have hcm : ¬ cap = i + m := by omega
  have k3 : (i : Int) + (m : Int) ≤ (i : Int) + 1 + (m : Int) := by omega
  have k4 : (0 : Int) ≤ (i : Int) + (m : Int) := by omega
  have k5 : (i : Int) + 1 + (m : Int) ≤ (cap : Int) := by omega
  go_wp2_with fail
  go_ret
  first | exact HF.out | (have h9 := HF.out; simp only [Nat.mul_one] at h9; exact h9)
theorem infoDTab : (Tryz.prog.info? 50).map (fun i => (i.zero, i.size, i.bytes)) = some (some (.agg #[.string ByteArray.empty, .string ByteArray.empty, .string ByteArray.empty, .slice none 0 0, .slice none 0 0]), 5, 96) := by kernel_rfl
set_option maxHeartbeats 8000000 in
theorem delTab (g cap i m B : Nat) (xs : List Value) (w : World) (ho : w.ownsRow B 50 5 (.slice (some ⟨g, 0, none⟩) (i + 1 + m) cap) (i + 1 + m) xs) (h1 : ∀ u ∈ xs, u.oneCell' = true) (hb : cap ≤ 9223372036854775807) :
    Calls Tryz.prog 108 #[.slice (some ⟨g, 0, none⟩) (i + 1 + m) cap, .int .i64 i, .int .i64 ((i : Int) + 1)] w (DelP 50 5 w B g cap i m xs) := by
  obtain ⟨i0, hi0, hz0, hz1, hz2⟩ := info_parts infoDTab
  obtain ⟨g', cap', hv', hgb, hnc, hr⟩ := own_rowAt ho (by omega)
  simp only [Value.slice.injEq, true_and, Option.some.injEq, Addr.mk.injEq, and_true] at hv'
  obtain ⟨rfl, rfl⟩ := hv'
  have hx := ho.1
  have hzr : ∀ w : World, (zeroValue 50).run Tryz.prog w = .ok (.agg #[.string ByteArray.empty, .string ByteArray.empty, .string ByteArray.empty, .slice none 0 0, .slice none 0 0]) w := fun w => by kernel_rfl
  obtain ⟨news, hnews⟩ : ∃ news, news = xs.drop ((i + 1) * 5) := ⟨_, rfl⟩
  have hlen : news.length = m * 5 := by rw [hnews, List.length_drop, hx]; omega
  have hsrc : ∃ A : Addr, (if cap = i + 1 then some (⟨g, 0, none⟩ : Addr) else some ⟨g, (i + 1) * 5, none⟩) = some A ∧ Hid (∀ t u, news[t]? = some u → w.drew.cell? (A.add t) = some u) := by
    by_cases h : cap = i + 1
    · refine ⟨⟨g, 0, none⟩, by simp [h], Lib.hid fun t u hu => ?_⟩
      have h0 : news.length = 0 := by rw [hlen]; omega
      rw [List.length_eq_zero_iff.1 h0] at hu
      simp at hu
    · refine ⟨⟨g, (i + 1) * 5, none⟩, by simp [h], Lib.hid fun t u hu => ?_⟩
      rw [hnews, List.getElem?_drop] at hu
      rw [Addr.add_lit]
      exact hr.cell hu
  obtain ⟨A, hA, hsrc⟩ := hsrc
  have s1 := Lib.hid hlen
  have s2 := Lib.hid (show ∀ u ∈ news, u.oneCell' = true from fun u hu => h1 u (by rw [hnews] at hu; exact List.mem_of_mem_drop hu))
  have s3 := Lib.hid (show ∀ t, t < news.length → (w.drew.cell? ⟨g, 0 + i * 5 + t, none⟩).isSome = true ∧ w.drew.frozen? ⟨g, 0 + i * 5 + t, none⟩ = false from fun t ht => by
    rw [hlen] at ht
    have hl : 0 + i * 5 + t < xs.length := by rw [hx]; omega
    exact ⟨by show (w.cell? _).isSome = true; rw [hr.2.1 _ hl, List.getElem?_eq_getElem hl]; rfl, hr.2.2 _ hl⟩)
  obtain ⟨W1, hW1⟩ : ∃ W1, W1 = w.drew.setCells g (0 + i * 5) news := ⟨_, rfl⟩
  have ho1 : W1.ownsRow B 50 5 (.slice (some ⟨g, 0, none⟩) (i + 1 + m) cap) (i + 1 + m) (setL xs (0 + i * 5) news) := by rw [hW1]; exact own_setCells (g := g) rfl news _ (own_aft ho (Aft.refl w).drew)
  obtain ⟨_, _, hv1, _, _, hr1⟩ := own_rowAt ho1 (by omega)
  simp only [Value.slice.injEq, true_and, Option.some.injEq, Addr.mk.injEq, and_true] at hv1
  obtain ⟨rfl, rfl⟩ := hv1
  have hcl : ∀ ty, (Builtin.clear_ #[23] ty #[.slice (some ⟨g, (i + m) * 5, none⟩) 1 (cap - (i + m))]).run Tryz.prog W1 = .ok (.tuple #[]) (W1.setCells g ((i + m) * 5) [.string ByteArray.empty, .string ByteArray.empty, .string ByteArray.empty, .slice none 0 0, .slice none 0 0]) := fun ty => by
    refine run_clear_one W1 _ _ ty _ Tryz.underlying23 hzr (by intro u hu; have hu : u ∈ ([.string ByteArray.empty, .string ByteArray.empty, .string ByteArray.empty, .slice none 0 0, .slice none 0 0] : List Value) := hu; simp only [List.mem_cons, List.not_mem_nil, or_false] at hu; rcases hu with rfl | rfl | rfl | rfl | rfl <;> rfl) g ((i + m) * 5) (cap - (i + m)) (fun j hj => ?_) (fun j hj => ?_)
    · have hj' : j < 5 := hj
      have hl : (i + m) * 5 + j < (setL xs (0 + i * 5) news).length := by rw [setL_len, hx]; omega
      rw [hr1.2.1 _ hl, List.getElem?_eq_getElem hl]; rfl
    · have hj' : j < 5 := hj
      exact hr1.2.2 _ (by rw [setL_len, hx]; omega)
  have HF := Lib.hid (show DelP 50 5 w B g cap i m xs (.returned (.slice (some ⟨g, 0, none⟩) (i + m) cap)) (W1.setCells g ((i + m) * 5) [.string ByteArray.empty, .string ByteArray.empty, .string ByteArray.empty, .slice none 0 0, .slice none 0 0]) from by
    refine ⟨rfl, ?_, ?_⟩
    · rw [hW1, hnews, Nat.zero_add]
      exact del_own (own_aft ho (Aft.refl w).drew) rfl
    · rw [hW1]
      exact (Kb.of_aft (Aft.refl w).drew).trans ((kb_setCells g news _ _).trans (kb_setCells g _ _ _)))
  have hW := Lib.hid hW1
  (try simp only [Nat.mul_one] at hA)
  have hic : i ≤ cap := by omega
  have hjc : i + 1 ≤ cap := by omega
  have hne : ((i : Int) == (i : Int) + 1) = false := by simp; omega
  clear hW1 ho1 hr1 hr ho hnews hlen h1 hx
  go_enter Tryz.func108, Tryz.ntmps108
  have k0 : (0 : Int) ≤ (i : Int) + 1 := by omega
  have k1 : (i : Int) + 1 ≤ (i : Int) + 1 + (m : Int) := by omega
  go_wp2_with fail
  go_region_law (refine step_append_room rfl (.tmp 22) (.tmp 25) 23 rfl 50 i0 5 Tryz.underlying23 hi0 hz1 g 0 i cap (by simp [Act.eval, Act.put]) A m (cap - (i + 1)) news (by simp [Act.eval, Act.put]) s1.out hsrc.out s2.out (by omega) s3.out ?_; rw [← hW.out])
  have hcl2 : ∀ ty, (Builtin.clear_ #[23] ty #[.slice (some ⟨g, (i + m) * 5, none⟩) (i + 1 + m - (i + m)) (cap - (i + m))]).run Tryz.prog W1 = .ok (.tuple #[]) (W1.setCells g ((i + m) * 5) [.string ByteArray.empty, .string ByteArray.empty, .string ByteArray.empty, .slice none 0 0, .slice none 0 0]) := fun ty => by
    have e1 : i + 1 + m - (i + m) = 1 := by omega
    rw [e1]; exact hcl ty
  (try simp only [Nat.mul_one] at hcl2)
  have hcm : ¬ cap = i + m := by omega
  have k3 : (i : Int) + (m : Int) ≤ (i : Int) + 1 + (m : Int) := by omega
  have k4 : (0 : Int) ≤ (i : Int) + (m : Int) := by omega
  have k5 : (i : Int) + 1 + (m : Int) ≤ (cap : Int) := by omega
  go_wp2_with fail
  go_ret
  first | exact HF.out | (have h9 := HF.out; simp only [Nat.mul_one] at h9; exact h9)
end Go.Proofs.YticjnndhpfdajaaGreat
