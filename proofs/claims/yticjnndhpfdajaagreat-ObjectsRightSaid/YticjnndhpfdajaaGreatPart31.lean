/- Contracts of the program, part 31. -/
import Derived.Test.YticjnndhpfdajaaGreatPart8
import Derived.Test.YticjnndhpfdajaaGreatPart13
import Derived.Test.YticjnndhpfdajaaGreatPart10
import Derived.Test.YticjnndhpfdajaaGreatPart24
import Derived.Test.YticjnndhpfdajaaGreatPart28
import Derived.Test.YticjnndhpfdajaaGreatPart22
/- Plain: what right objects are, said by members. -/
namespace Go.Proofs.YticjnndhpfdajaaGreat
set_option linter.unusedVariables false
theorem eqS_iff9 (a b : ByteArray) : eqS a b = true ↔ a = b := ⟨fun h => by
  have h1 : a.data.toList = b.data.toList := (cmpB_eq _ _).1 ((cmpS_eq a b).2 h)
  obtain ⟨a⟩ := a
  obtain ⟨b⟩ := b
  have h2 : a = b := Array.toList_inj.1 h1
  rw [h2], fun h => by rw [h]; exact eqS_refl b⟩
theorem cmpS_zero9 (a b : ByteArray) : cmpS a b = 0 ↔ a = b := (cmpS_eq a b).trans (eqS_iff9 a b)
theorem cmpTb_zero {x y : Tab} : cmpTb x y = 0 ↔ x.schema = y.schema ∧ x.name = y.name := by
  unfold cmpTb or2
  by_cases e1 : cmpS x.schema y.schema = 0
  · rw [if_pos (by simpa using e1), cmpS_zero9]
    exact ⟨fun h => ⟨(cmpS_zero9 _ _).1 e1, h⟩, fun h => h.2⟩
  · rw [if_neg (by simpa using e1)]
    exact ⟨fun h => absurd h e1, fun h => absurd ((cmpS_zero9 _ _).2 h.1) e1⟩
theorem idxP_find {α : Type} (p : α → Bool) : ∀ l : List α, l.find? p = if idxP p l < 0 then none else l[(idxP p l).toNat]?
  | [] => by simp [idxP]
  | x :: l => by
    have ih := idxP_find p l
    have hr := idxP_range p l
    rw [List.find?_cons]
    show _ = if (if p x then (0 : Int) else if idxP p l < 0 then -1 else idxP p l + 1) < 0 then none else (x :: l)[(if p x then (0 : Int) else if idxP p l < 0 then -1 else idxP p l + 1).toNat]?
    cases h : p x
    · simp only [Bool.false_eq_true, if_false]
      rw [ih]
      by_cases h1 : idxP p l < 0
      · rw [if_pos h1, if_pos h1, if_pos (by omega)]
      · rw [if_neg h1, if_neg h1, if_neg (by omega), show (idxP p l + 1).toNat = (idxP p l).toNat + 1 by omega, List.getElem?_cons_succ]
    · simp
theorem uniq_find {α : Type} (p : α → Bool) (l : List α) (x : α) (hx : x ∈ l) (hp : p x = true) (hu : ∀ y ∈ l, p y = true → y = x) : l.find? p = some x := by
  cases h : l.find? p with
  | none =>
    have := List.find?_eq_none.1 h x hx
    rw [hp] at this
    exact absurd rfl this
  | some y => rw [hu y (List.mem_of_find?_eq_some h) (List.find?_some h)]
theorem rises_uniq {α : Type} {c : α → α → Int} (P : Pre8 c) {l : List α} (h : risesB c l = true) {x y : α} (hx : x ∈ l) (hy : y ∈ l) (e : c x y = 0) : x = y := by
  obtain ⟨i, hi, rfl⟩ := List.getElem_of_mem hx
  obtain ⟨j, hj, rfl⟩ := List.getElem_of_mem hy
  rcases Nat.lt_trichotomy i j with h1 | h1 | h1
  · have := rises_lt P.tr h i j hi hj h1; omega
  · subst h1; rfl
  · have := rises_lt P.tr h j i hj hi h1; have := P.anti l[i] l[j]; omega
/-- a column's kind, by its name -/
def kindOf (l : List Col) (a : ByteArray) : Option Int := (l.find? fun c => eqS c.name a).map Col.kind
theorem kindOf_eq (l : List Col) (a : ByteArray) : kindOf l a = if 0 ≤ colAt l a then some (kindAt l (colAt l a)) else none := by
  unfold kindOf
  rw [idxP_find]
  have hr := idxP_range (fun c : Col => eqS c.name a) l
  by_cases h : 0 ≤ colAt l a
  · have h' : 0 ≤ idxP (fun c : Col => eqS c.name a) l := h
    rw [if_pos h, if_neg (by omega), show colAt l a = idxP (fun c : Col => eqS c.name a) l from rfl]
    unfold kindAt
    rw [List.getElem?_eq_getElem (show (idxP (fun c : Col => eqS c.name a) l).toNat < l.length by omega)]
    rfl
  · have h' : ¬ 0 ≤ idxP (fun c : Col => eqS c.name a) l := h
    rw [if_neg h, if_pos (by omega)]
    rfl
theorem kindOf_pos {l : List Col} {a : ByteArray} (h : 0 ≤ colAt l a) : kindOf l a = some (kindAt l (colAt l a)) := by rw [kindOf_eq, if_pos h]
theorem kindOf_some {l : List Col} {a : ByteArray} {k : Int} (h : kindOf l a = some k) : 0 ≤ colAt l a ∧ kindAt l (colAt l a) = k := by
  rw [kindOf_eq] at h
  by_cases h1 : 0 ≤ colAt l a
  · rw [if_pos h1] at h; exact ⟨h1, Option.some.inj h⟩
  · rw [if_neg h1] at h; cases h
theorem kindOf_mem {l : List Col} {a : ByteArray} {k : Int} (h : kindOf l a = some k) : ∃ c ∈ l, c.name = a := by
  unfold kindOf at h
  cases h1 : l.find? (fun c => eqS c.name a) with
  | none => rw [h1] at h; cases h
  | some c => exact ⟨c, List.mem_of_find?_eq_some h1, (eqS_iff9 _ _).1 (List.find?_some (p := fun c : Col => eqS c.name a) h1)⟩
theorem pairB_iff (l l2 : List Col) (a b : ByteArray) : pairB l l2 a b = true ↔ ∃ k, kindOf l a = some k ∧ kindOf l2 b = some k := by
  unfold pairB
  simp only [Bool.and_eq_true, decide_eq_true_eq, beq_iff_eq]
  constructor
  · rintro ⟨⟨h1, h2⟩, h3⟩
    exact ⟨_, kindOf_pos h1, by rw [kindOf_pos h2, h3]⟩
  · rintro ⟨k, h1, h2⟩
    have h1 := kindOf_some h1
    have h2 := kindOf_some h2
    exact ⟨⟨h1.1, h2.1⟩, by rw [h1.2, h2.2]⟩
theorem pairs_mono {l l' l2 l2' : List Col} : ∀ cs ds : List ByteArray, (∀ a ∈ cs, ∀ k, kindOf l a = some k → kindOf l' a = some k) → (∀ a ∈ ds, ∀ k, kindOf l2 a = some k → kindOf l2' a = some k) → pairsOk l l2 cs ds = true → pairsOk l' l2' cs ds = true
  | [], [], _, _, _ => rfl
  | [], _ :: _, _, _, h => by simp [pairsOk] at h
  | _ :: _, [], _, _, h => by simp [pairsOk] at h
  | a :: xs, b :: ys, h1, h2, h => by
    rw [pairsOk, Bool.and_eq_true] at h ⊢
    obtain ⟨k, e1, e2⟩ := (pairB_iff _ _ _ _).1 h.1
    exact ⟨(pairB_iff _ _ _ _).2 ⟨k, h1 a (by simp) k e1, h2 b (by simp) k e2⟩, pairs_mono xs ys (fun c hc => h1 c (by simp [hc])) (fun c hc => h2 c (by simp [hc])) h.2⟩
theorem pairs_cols {l l2 : List Col} : ∀ cs ds : List ByteArray, pairsOk l l2 cs ds = true → ∀ b ∈ ds, ∃ k, kindOf l2 b = some k
  | [], [], _, b, hb => by simp at hb
  | [], _ :: _, h, _, _ => by simp [pairsOk] at h
  | _ :: _, [], h, _, _ => by simp [pairsOk] at h
  | a :: xs, b :: ys, h, d, hd => by
    rw [pairsOk, Bool.and_eq_true] at h
    obtain ⟨k, e1, e2⟩ := (pairB_iff _ _ _ _).1 h.1
    rcases List.mem_cons.1 hd with e | e
    · exact ⟨k, by rw [e]; exact e2⟩
    · exact pairs_cols xs ys h.2 d e
theorem fits_cols {l : List Col} {r : Rul} (h : fitsOk l r = true) : ∀ a ∈ r.cols, ∃ k, kindOf l a = some k := fun a ha => by
  unfold fitsOk rcOk at h
  simp only [Bool.and_eq_true, List.all_eq_true, List.mem_range] at h
  obtain ⟨i, hi, rfl⟩ := List.getElem_of_mem ha
  have := h.1.1.1 i hi
  rw [List.getElem?_eq_getElem hi] at this
  simp only [Bool.and_eq_true, decide_eq_true_eq] at this
  exact ⟨_, kindOf_pos this.1⟩
theorem fits_mono {l l' : List Col} {r : Rul} (hm : ∀ a ∈ r.cols, ∀ k, kindOf l a = some k → kindOf l' a = some k) (h : fitsOk l r = true) : fitsOk l' r = true := by
  have hc := fits_cols h
  unfold fitsOk at h ⊢
  simp only [Bool.and_eq_true] at h ⊢
  obtain ⟨⟨⟨h1, h2⟩, h3⟩, h4⟩ := h
  refine ⟨⟨⟨?_, h2⟩, h3⟩, ?_⟩
  · unfold rcOk at h1 ⊢
    simp only [List.all_eq_true, List.mem_range] at h1 ⊢
    intro i hi
    have := h1 i hi
    rw [List.getElem?_eq_getElem hi] at this ⊢
    simp only [Bool.and_eq_true, decide_eq_true_eq] at this ⊢
    exact ⟨(kindOf_some (hm _ (List.getElem_mem hi) _ (kindOf_pos this.1))).1, this.2⟩
  · unfold ruleRest at h4 ⊢
    by_cases k1 : (r.kind == 1 || r.kind == 2) = true
    · rw [if_pos k1] at h4 ⊢; exact h4
    · rw [if_neg k1] at h4 ⊢
      by_cases k3 : (r.kind == 3) = true
      · rw [if_pos k3] at h4 ⊢
        simp only [Bool.and_eq_true, beq_iff_eq] at h4 ⊢
        obtain ⟨⟨⟨h5, h6⟩, h7⟩, h8⟩ := h4
        refine ⟨⟨⟨h5, h6⟩, ?_⟩, h8⟩
        have hl : r.cols.length = 1 := by omega
        have hm0 : r.cols.headD ByteArray.empty ∈ r.cols := by
          match r.cols, hl with
          | [x], _ => simp
        obtain ⟨k, hk⟩ := hc _ hm0
        have e1 := (kindOf_some hk).2
        rw [h7] at e1
        have e2 := (kindOf_some (hm _ hm0 _ hk)).2
        rw [e2, e1]
      · rw [if_neg k3] at h4 ⊢; exact h4
theorem colsOk_iff (l : List Col) : colsOk l = true ↔ (1 ≤ l.length ∧ l.length ≤ 8) ∧ (∀ c ∈ l, colOk c = true) ∧ l.Pairwise fun a b => a.name ≠ b.name := by
  unfold colsOk
  simp only [Bool.and_eq_true, decide_eq_true_eq, List.all_eq_true, List.mem_range]
  have key : ∀ (i : Nat) (hi : i < l.length), idxP (fun d : Col => eqS d.name l[i].name) (l.take i) < 0 ↔ ∀ j (hj : j < i), (l[j]'(by omega)).name ≠ l[i].name := fun i hi => by
    constructor
    · intro h j hj e
      have h1 := idxP_find (fun d : Col => eqS d.name l[i].name) (l.take i)
      rw [if_pos h] at h1
      have := List.find?_eq_none.1 h1 (l[j]'(by omega)) (by rw [List.mem_take_iff_getElem]; exact ⟨j, by omega, rfl⟩)
      exact this ((eqS_iff9 _ _).2 e)
    · intro h
      have : idxP (fun d : Col => eqS d.name l[i].name) (l.take i) = -1 := idxP_none _ _ fun j hj => by
        rw [Bool.eq_false_iff]
        intro e
        have hj' : j < i := by simp at hj; omega
        rw [List.getElem_take] at e
        exact h j hj' ((eqS_iff9 _ _).1 e)
      omega
  constructor
  · rintro ⟨h1, h2⟩
    refine ⟨h1, fun c hc => ?_, List.pairwise_iff_getElem.2 fun i j hi hj hij => ?_⟩
    · obtain ⟨i, hi, rfl⟩ := List.getElem_of_mem hc
      have := h2 i hi
      rw [List.getElem?_eq_getElem hi] at this
      simp only [Bool.and_eq_true, decide_eq_true_eq] at this
      exact this.1
    · have := h2 j hj
      rw [List.getElem?_eq_getElem hj] at this
      simp only [Bool.and_eq_true, decide_eq_true_eq] at this
      exact (key j hj).1 this.2 i hij
  · rintro ⟨h1, h2, h3⟩
    refine ⟨h1, fun i hi => ?_⟩
    rw [List.getElem?_eq_getElem hi]
    simp only [Bool.and_eq_true, decide_eq_true_eq]
    exact ⟨h2 _ (List.getElem_mem hi), (key i hi).2 fun j hj => List.pairwise_iff_getElem.1 h3 j i (by omega) hi hj⟩
/-- a foreign rule's key is there and goes with it -/
def HasKey (ts : List Tab) (l : List Col) (r : Rul) : Prop := ∃ t ∈ ts, t.schema = r.schema ∧ t.name = r.table ∧ ∃ q ∈ t.rules, q.name = r.key ∧ q.kind = 2 ∧ pairsOk l t.cols r.cols q.cols = true
theorem keyE_find (ts : List Tab) (l : List Col) (r : Rul) : keyE ts l r = match ts.find? (fun t => eqS t.schema r.schema && eqS t.name r.table) with
    | none => 61
    | some t => match t.rules.find? (fun q => eqS q.name r.key) with
      | none => 61
      | some q => if q.kind == 2 then (if pairsOk l t.cols r.cols q.cols then 0 else 63) else 61 := by
  have h2 : ∀ t : Tab, keyT t l r = match t.rules.find? (fun q => eqS q.name r.key) with | none => 61 | some q => if q.kind == 2 then (if pairsOk l t.cols r.cols q.cols then 0 else 63) else 61 := fun t => by
    unfold keyT
    rw [idxP_find]
    have e : rulAt t.rules r.key = idxP (fun q : Rul => eqS q.name r.key) t.rules := rfl
    rw [e]
    by_cases h : idxP (fun q : Rul => eqS q.name r.key) t.rules < 0
    · rw [if_pos h]
      split
      · rw [if_pos h]
      · rfl
    · rw [if_neg h]
      cases hg : t.rules[(idxP (fun q : Rul => eqS q.name r.key) t.rules).toNat]? with
      | none => rfl
      | some q => simp only; rw [if_neg h]
  unfold keyE
  rw [idxP_find]
  have e : tabAt ts r.schema r.table = idxP (fun t : Tab => eqS t.schema r.schema && eqS t.name r.table) ts := rfl
  rw [e]
  by_cases h : idxP (fun t : Tab => eqS t.schema r.schema && eqS t.name r.table) ts < 0
  · rw [if_pos h]
    split
    · rw [if_pos h]
    · rfl
  · rw [if_neg h]
    cases hg : ts[(idxP (fun t : Tab => eqS t.schema r.schema && eqS t.name r.table) ts).toNat]? with
    | none => rfl
    | some t => simp only; rw [if_neg h, h2]
theorem has_of_key {ts : List Tab} {l : List Col} {r : Rul} (h : keyE ts l r = 0) : HasKey ts l r := by
  rw [keyE_find] at h
  cases h1 : ts.find? (fun t => eqS t.schema r.schema && eqS t.name r.table) with
  | none => rw [h1] at h; simp at h
  | some t =>
    rw [h1] at h
    simp only at h
    have p1 := List.find?_some (p := fun t : Tab => eqS t.schema r.schema && eqS t.name r.table) h1
    simp only [Bool.and_eq_true, eqS_iff9] at p1
    cases h2 : t.rules.find? (fun q => eqS q.name r.key) with
    | none => rw [h2] at h; simp at h
    | some q =>
      rw [h2] at h
      simp only at h
      have p2 := List.find?_some (p := fun q : Rul => eqS q.name r.key) h2
      by_cases k : (q.kind == 2) = true
      · rw [if_pos k] at h
        by_cases k2 : pairsOk l t.cols r.cols q.cols = true
        · exact ⟨t, List.mem_of_find?_eq_some h1, p1.1, p1.2, q, List.mem_of_find?_eq_some h2, (eqS_iff9 _ _).1 p2, by simpa using k, k2⟩
        · rw [if_neg k2] at h; exact absurd h (by decide)
      · rw [if_neg k] at h; exact absurd h (by decide)
theorem key_of_has {ts : List Tab} {l : List Col} {r : Rul} (hts : risesB cmpTb ts = true) (hrs : ∀ t ∈ ts, risesB cmpRl t.rules = true) (h : HasKey ts l r) : keyE ts l r = 0 := by
  obtain ⟨t, ht, e1, e2, q, hq, e3, e4, e5⟩ := h
  rw [keyE_find, uniq_find _ ts t ht (by rw [e1, e2, eqS_refl, eqS_refl]; rfl) (fun y hy hp => by
    simp only [Bool.and_eq_true, eqS_iff9] at hp
    exact rises_uniq preTb hts hy ht (cmpTb_zero.2 ⟨hp.1.trans e1.symm, hp.2.trans e2.symm⟩))]
  simp only
  rw [uniq_find _ t.rules q hq (by rw [e3, eqS_refl]) (fun y hy hp => rises_uniq preRl (hrs t ht) hy hq ((cmpS_zero9 _ _).2 (((eqS_iff9 _ _).1 hp).trans e3.symm)))]
  simp only
  rw [if_pos (by simp [e4]), if_pos e5]
structure GoodT (ss : List Sch) (ts : List Tab) (t : Tab) : Prop where
  nm : nameB t.name = true
  ow : nameB t.owner = true
  cols : colsOk t.cols = true
  nr : t.rules.length ≤ 8
  sch : ∃ s ∈ ss, s.name = t.schema
  rises : risesB cmpRl t.rules = true
  fit : ∀ r ∈ t.rules, fitsOk t.cols r = true
  key : ∀ r ∈ t.rules, r.kind = 4 → HasKey ts t.cols r
structure Good (o : Objs) : Prop where
  ns : o.schemas.length ≤ 8
  nt : o.tables.length ≤ 64
  rt : risesB cmpTb o.tables = true
  rs : risesB cmpSc o.schemas = true
  sch : ∀ s ∈ o.schemas, nameB s.name = true ∧ nameB s.owner = true ∧ within o.tables s.name ≤ 8
  tab : ∀ t ∈ o.tables, GoodT o.schemas o.tables t
theorem schAt_iff (l : List Sch) (s : ByteArray) : 0 ≤ schAt l s ↔ ∃ x ∈ l, x.name = s := by
  have h := idxP_find (fun c : Sch => eqS c.name s) l
  have hr := idxP_range (fun c : Sch => eqS c.name s) l
  have e : schAt l s = idxP (fun c : Sch => eqS c.name s) l := rfl
  rw [e]
  constructor
  · intro h0
    rw [if_neg (by omega), List.getElem?_eq_getElem (by omega)] at h
    exact ⟨_, List.mem_of_find?_eq_some h, (eqS_iff9 _ _).1 (List.find?_some (p := fun c : Sch => eqS c.name s) h)⟩
  · rintro ⟨x, hx, rfl⟩
    rcases Int.lt_or_le (idxP (fun c : Sch => eqS c.name x.name) l) 0 with h0 | h0
    · rw [if_pos h0] at h
      exact absurd (eqS_refl x.name) (List.find?_eq_none.1 h x hx)
    · exact h0
theorem good_iff (o : Objs) : checkO o = true ↔ Good o := by
  unfold checkO headOk
  simp only [Bool.and_eq_true, decide_eq_true_eq, List.all_eq_true]
  constructor
  · rintro ⟨⟨⟨⟨h1, h2⟩, h3⟩, h4⟩, h5, h6⟩
    refine ⟨h1, h2, h3, h4, fun s hs => ?_, fun t ht => ?_⟩
    · have := h5 s hs
      unfold schOk at this
      simp only [Bool.and_eq_true, decide_eq_true_eq] at this
      exact ⟨this.1.1, this.1.2, this.2⟩
    · have := h6 t ht
      unfold rightT at this
      simp only [Bool.and_eq_true, decide_eq_true_eq, List.all_eq_true] at this
      obtain ⟨⟨⟨⟨⟨a1, a2⟩, a3⟩, a4⟩, a5⟩, a6, a7⟩ := this
      refine ⟨a1, a2, a3, a4, (schAt_iff _ _).1 a5, a7, fun r hr => ?_, fun r hr hk => ?_⟩
      · have := a6 r hr
        unfold ruleOk at this
        simp only [Bool.and_eq_true] at this
        exact this.1
      · have := a6 r hr
        unfold ruleOk at this
        simp only [Bool.and_eq_true, Bool.not_eq_true', Bool.and_eq_false_iff, beq_eq_false_iff_ne, bne_eq_false_iff_eq] at this
        exact has_of_key (this.2.resolve_left fun h => h hk)
  · intro g
    have hrs : ∀ t ∈ o.tables, risesB cmpRl t.rules = true := fun t ht => (g.tab t ht).rises
    refine ⟨⟨⟨⟨g.ns, g.nt⟩, g.rt⟩, g.rs⟩, fun s hs => ?_, fun t ht => ?_⟩
    · have := g.sch s hs
      unfold schOk
      simp only [Bool.and_eq_true, decide_eq_true_eq]
      exact ⟨⟨this.1, this.2.1⟩, this.2.2⟩
    · have a := g.tab t ht
      unfold rightT
      simp only [Bool.and_eq_true, decide_eq_true_eq, List.all_eq_true]
      refine ⟨⟨⟨⟨⟨a.nm, a.ow⟩, a.cols⟩, a.nr⟩, (schAt_iff _ _).2 a.sch⟩, fun r hr => ?_, a.rises⟩
      unfold ruleOk
      simp only [Bool.and_eq_true, Bool.not_eq_true', Bool.and_eq_false_iff, beq_eq_false_iff_ne, bne_eq_false_iff_eq]
      refine ⟨a.fit r hr, ?_⟩
      by_cases hk : r.kind = 4
      · exact .inr (key_of_has g.rt hrs (a.key r hr hk))
      · exact .inl hk
end Go.Proofs.YticjnndhpfdajaaGreat
/- Plain: right objects stay right, whatever is added or dropped. -/
namespace Go.Proofs.YticjnndhpfdajaaGreat
set_option linter.unusedVariables false
theorem within_ins (ts : List Tab) (p : Nat) (t : Tab) (s : ByteArray) : within (insAt ts p t) s = within ts s + if eqS t.schema s then 1 else 0 := by
  unfold within
  rw [((perm_insAt ts p t).filter _).length_eq, List.filter_append, List.length_append]
  cases h : eqS t.schema s <;> simp [h]
theorem len_parts {α : Type} (p : α → Bool) : ∀ l : List α, l.length = (l.filter p).length + (l.filter fun x => !p x).length
  | [] => rfl
  | x :: l => by
    have := len_parts p l
    cases h : p x <;> simp [h] <;> omega
theorem tables_le : ∀ (ns : List ByteArray) (ts : List Tab), (∀ t ∈ ts, t.schema ∈ ns) → (∀ n ∈ ns, within ts n ≤ 8) → ts.length ≤ ns.length * 8
  | [], ts, h, _ => by
    cases ts with
    | nil => simp
    | cons t l => have := h t (by simp); simp at this
  | n :: ns, ts, h, h8 => by
    have e := len_parts (fun t : Tab => eqS t.schema n) ts
    have ih := tables_le ns (ts.filter fun t => !eqS t.schema n) (fun t ht => by
      have h1 := List.mem_filter.1 ht
      rcases List.mem_cons.1 (h t h1.1) with e | e
      · have := h1.2
        rw [e, eqS_refl] at this
        cases this
      · exact e) (fun m hm => Nat.le_trans (by
        unfold within
        exact ((List.filter_sublist (p := fun t : Tab => !eqS t.schema n) (l := ts)).filter _).length_le) (h8 m (List.mem_cons_of_mem _ hm)))
    have h9 := h8 n (by simp)
    unfold within at h9
    simp only [List.length_cons]
    omega
theorem risesB_map {α β : Type} (f : α → β) (d : β → β → Int) : ∀ l : List α, risesB (fun x y => d (f x) (f y)) l = risesB d (l.map f)
  | [] => rfl
  | [_] => rfl
  | x :: y :: l => by
    show (decide (d (f x) (f y) < 0) && risesB (fun x y => d (f x) (f y)) (y :: l)) = (decide (d (f x) (f y) < 0) && risesB d ((y :: l).map f))
    rw [risesB_map f d (y :: l)]
theorem map_set_same {α β : Type} (f : α → β) (l : List α) (q : Nat) (x : α) (hq : q < l.length) (h : f x = f l[q]) : (l.set q x).map f = l.map f := by
  rw [List.map_set, h]
  have : f l[q] = (l.map f)[q]'(by simpa using hq) := by simp
  rw [this, List.set_getElem_self]
theorem rises_set {ts : List Tab} {q : Nat} {t : Tab} (hq : q < ts.length) (hs : t.schema = ts[q].schema) (hn : t.name = ts[q].name) : risesB cmpTb (ts.set q t) = risesB cmpTb ts := by
  have m := risesB_map (fun t : Tab => (t.schema, t.name)) (fun a b : ByteArray × ByteArray => or2 (cmpS a.1 b.1) (cmpS a.2 b.2))
  have m1 : ∀ l : List Tab, risesB cmpTb l = risesB (fun a b : ByteArray × ByteArray => or2 (cmpS a.1 b.1) (cmpS a.2 b.2)) (l.map fun t => (t.schema, t.name)) := m
  rw [m1, m1, map_set_same _ _ _ _ hq (by simp [hs, hn])]
theorem within_set {ts : List Tab} {q : Nat} {t : Tab} (hq : q < ts.length) (hs : t.schema = ts[q].schema) (s : ByteArray) : within (ts.set q t) s = within ts s := by
  have e : ∀ l : List Tab, within l s = ((l.map Tab.schema).filter fun a => eqS a s).length := fun l => by
    unfold within
    rw [List.filter_map, List.length_map]
    rfl
  rw [e, e, map_set_same _ _ _ _ hq hs]
theorem rises_erase {α : Type} {c : α → α → Int} (P : Pre8 c) {l : List α} (h : risesB c l = true) (p : Nat) : risesB c (l.eraseIdx p) = true := by
  have hw : l.Pairwise fun a b => c a b < 0 := List.pairwise_iff_getElem.2 fun i j hi hj hij => rises_lt P.tr h i j hi hj hij
  have hw2 := hw.sublist (List.eraseIdx_sublist l p)
  exact (risesB_iff _ _).2 fun k hk => List.pairwise_iff_getElem.1 hw2 k (k + 1) (by omega) hk (by omega)
theorem mem_erase_of {α : Type} {l : List α} {p : Nat} {x : α} (hx : x ∈ l) (hp : ∀ h : p < l.length, x ≠ l[p]) : x ∈ l.eraseIdx p := by
  obtain ⟨i, hi, rfl⟩ := List.getElem_of_mem hx
  refine List.mem_eraseIdx_iff_getElem.2 ⟨i, hi, fun e => ?_, rfl⟩
  subst e
  exact hp hi rfl
/-- a foreign rule's key is there still, if the table q is another one -/
theorem has_set {ts : List Tab} {q : Nat} {t : Tab} {l l' : List Col} {r : Rul} (hq : q < ts.length) (hs : t.schema = ts[q].schema) (hn : t.name = ts[q].name) (hl : ∀ a ∈ r.cols, ∀ k, kindOf l a = some k → kindOf l' a = some k)
    (hr : ts[q].schema = r.schema → ts[q].name = r.table → ∀ k ∈ ts[q].rules, k.name = r.key → k.kind = 2 → k ∈ t.rules ∧ ∀ a ∈ k.cols, ∀ i, kindOf ts[q].cols a = some i → kindOf t.cols a = some i) (h : HasKey ts l r) : HasKey (ts.set q t) l' r := by
  obtain ⟨x, hx, e1, e2, k, hk, e3, e4, e5⟩ := h
  obtain ⟨i, hi, rfl⟩ := List.getElem_of_mem hx
  by_cases hiq : i = q
  · subst hiq
    have h9 := hr e1 e2 k hk e3 e4
    exact ⟨t, List.mem_set hq t, hs.trans e1, hn.trans e2, k, h9.1, e3, e4, pairs_mono _ _ hl h9.2 e5⟩
  · refine ⟨ts[i], ?_, e1, e2, k, hk, e3, e4, pairs_mono _ _ hl (fun _ _ _ h => h) e5⟩
    exact List.mem_iff_getElem.2 ⟨i, by simpa using hi, by rw [List.getElem_set_ne (fun e => hiq e.symm)]⟩
theorem mem_set_or {α : Type} {l : List α} {q : Nat} {x y : α} (h : x ∈ l.set q y) : x = y ∨ x ∈ l := by
  rcases List.mem_or_eq_of_mem_set h with h | h
  · exact .inr h
  · exact .inl h
theorem good_set {o : Objs} {q : Nat} {t : Tab} (g : Good o) (hq : q < o.tables.length) (hs : t.schema = o.tables[q].schema) (hn : t.name = o.tables[q].name) (ho : t.owner = o.tables[q].owner) (hc : colsOk t.cols = true) (hl : t.rules.length ≤ 8) (hri : risesB cmpRl t.rules = true) (hf : ∀ r ∈ t.rules, fitsOk t.cols r = true)
    (hk : ∀ r ∈ t.rules, r.kind = 4 → HasKey (o.tables.set q t) t.cols r) (hk2 : ∀ x ∈ o.tables, ∀ r ∈ x.rules, r.kind = 4 → HasKey (o.tables.set q t) x.cols r) : Good ⟨o.schemas, o.tables.set q t⟩ := by
  have gq := g.tab _ (List.getElem_mem hq)
  refine ⟨g.ns, by simpa using g.nt, ?_, g.rs, fun s hs2 => ?_, fun x hx => ?_⟩
  · show risesB cmpTb (o.tables.set q t) = true
    rw [rises_set hq hs hn]; exact g.rt
  · have := g.sch s hs2
    refine ⟨this.1, this.2.1, ?_⟩
    show within (o.tables.set q t) s.name ≤ 8
    rw [within_set hq hs]; exact this.2.2
  · rcases mem_set_or hx with rfl | hx
    · exact ⟨hn ▸ gq.nm, ho ▸ gq.ow, hc, hl, by rw [hs]; exact gq.sch, hri, hf, hk⟩
    · have gx := g.tab x hx
      exact ⟨gx.nm, gx.ow, gx.cols, gx.nr, gx.sch, gx.rises, gx.fit, hk2 x hx⟩
theorem same_kinds {l : List Col} {cs : List ByteArray} : ∀ a ∈ cs, ∀ k, kindOf l a = some k → kindOf l a = some k := fun _ _ _ h => h
theorem tabAt_at {ts : List Tab} {s n : ByteArray} {q : Nat} (h : tabAt ts s n = q) (hq : q < ts.length) : ts[q].schema = s ∧ ts[q].name = n := by
  have h1 : (eqS ts[q].schema s && eqS ts[q].name n) = true := idxP_at (fun t : Tab => eqS t.schema s && eqS t.name n) ts q hq h
  simp only [Bool.and_eq_true, eqS_iff9] at h1
  exact h1
theorem rulAt_at {l : List Rul} {s : ByteArray} {p : Nat} (h : rulAt l s = p) (hp : p < l.length) : l[p].name = s := (eqS_iff9 _ _).1 (idxP_at (fun c : Rul => eqS c.name s) l p hp h)
/-- from a change of a table to a change of objects -/
theorem chk_tab {o : Objs} {s n : ByteArray} {f : Tab → Tab × Int} (h : checkO o = true) (hz : (tabR o s n f).2 = 0)
    (hf : ∀ (q : Nat) (hq : q < o.tables.length), tabAt o.tables s n = q → (f o.tables[q]).2 = 0 → Good ⟨o.schemas, o.tables.set q (f o.tables[q]).1⟩) : checkO (tabR o s n f).1 = true := by
  have hr := idxP_range (fun t : Tab => eqS t.schema s && eqS t.name n) o.tables
  by_cases h0 : tabAt o.tables s n < 0
  · rw [tabR_none h0] at hz; cases hz
  · obtain ⟨q, hq⟩ : ∃ q : Nat, tabAt o.tables s n = q := ⟨(tabAt o.tables s n).toNat, by omega⟩
    have hql : q < o.tables.length := by unfold tabAt at hq; omega
    rw [tabR_some hq hql] at hz ⊢
    by_cases h1 : (f o.tables[q]).2 = 0
    · rw [if_pos h1]
      exact (good_iff _).2 (hf q hql hq h1)
    · rw [if_neg h1] at hz; exact absurd hz h1
theorem chk_addRul {o : Objs} {s n : ByteArray} {r : Rul} (h : checkO o = true) (hz : (tabR o s n (addRulF o.tables r)).2 = 0) : checkO (tabR o s n (addRulF o.tables r)).1 = true := by
  have g := (good_iff o).1 h
  refine chk_tab h hz fun q hq hat hzq => ?_
  have gq := g.tab _ (List.getElem_mem hq)
  unfold addRulF at hzq ⊢
  by_cases c1 : fitsOk o.tables[q].cols r = true
  · by_cases c2 : 0 ≤ rulAt o.tables[q].rules r.name
    · rw [c1] at hzq; simp [c2] at hzq
    · by_cases c3 : 8 ≤ o.tables[q].rules.length
      · rw [c1] at hzq; simp [c2, c3] at hzq
      · by_cases c4 : (r.kind == 4 && keyE o.tables o.tables[q].cols r != 0) = true
        · rw [if_neg (by rw [c1]; simp), if_neg c2, if_neg c3, if_pos c4] at hzq
          simp only [Bool.and_eq_true, bne_iff_ne] at c4
          exact absurd hzq c4.2
        · rw [if_neg (by rw [c1]; simp), if_neg c2, if_neg c3, if_neg c4]
          have hmem : ∀ k, k ∈ o.tables[q].rules → k ∈ insAt o.tables[q].rules (posB cmpRl o.tables[q].rules r) r := fun k hk => mem_insAt.2 (.inr hk)
          have hset : ∀ x r', HasKey o.tables x r' → HasKey (o.tables.set q { o.tables[q] with rules := insAt o.tables[q].rules (posB cmpRl o.tables[q].rules r) r }) x r' := fun x r' hh =>
            has_set hq rfl rfl same_kinds (fun _ _ k hk _ _ => ⟨hmem k hk, same_kinds⟩) hh
          refine good_set g hq rfl rfl rfl gq.cols ?_ (rises_ins' preRl.tr preRl.anti gq.rises (rul_none (by omega))) (fun y hy => ?_) (fun y hy hy4 => ?_) (fun x hx y hy hy4 => hset _ _ ((g.tab x hx).key y hy hy4))
          · show (insAt _ _ _).length ≤ 8
            rw [insAt_len _ _ _ (posB_le _ _ _)]; omega
          · rcases mem_insAt.1 hy with e | e
            · rw [e]; exact c1
            · exact gq.fit y e
          · rcases mem_insAt.1 hy with e | e
            · rw [e] at hy4 ⊢
              refine hset _ _ (has_of_key ?_)
              show keyE o.tables o.tables[q].cols r = 0
              simp only [Bool.and_eq_true, beq_iff_eq, bne_iff_ne, not_and] at c4
              exact Classical.not_not.1 (c4 hy4)
            · exact hset _ _ (gq.key y e hy4)
  · rw [if_pos (by simpa using c1)] at hzq; cases hzq
theorem forP_mem {s n : ByteArray} {ts : List Tab} {x : Tab} {r : Rul} (hx : x ∈ ts) (hr : r ∈ x.rules) (h : namesR s n r = true) : (x, r) ∈ forP s n ts := by
  unfold forP forT
  exact List.mem_flatMap.2 ⟨x, hx, List.mem_map.2 ⟨r, List.mem_filter.2 ⟨hr, h⟩, rfl⟩⟩
theorem namesR_of {s n : ByteArray} {r : Rul} (h4 : r.kind = 4) (hs : r.schema = s) (hn : r.table = n) : namesR s n r = true := by
  unfold namesR
  rw [hs, hn, eqS_refl, eqS_refl]
  simp [h4]
theorem chk_dropRul {o : Objs} {s n name : ByteArray} (h : checkO o = true) (hz : (tabR o s n (dropRulF o.tables s n name)).2 = 0) : checkO (tabR o s n (dropRulF o.tables s n name)).1 = true := by
  have g := (good_iff o).1 h
  refine chk_tab h hz fun q hq hat hzq => ?_
  have gq := g.tab _ (List.getElem_mem hq)
  obtain ⟨hqs, hqn⟩ := tabAt_at hat hq
  have hr := idxP_range (fun c : Rul => eqS c.name name) o.tables[q].rules
  unfold dropRulF at hzq ⊢
  by_cases c1 : rulAt o.tables[q].rules name < 0
  · rw [if_pos c1] at hzq; cases hzq
  · by_cases c2 : ((forP s n o.tables).any fun p => hitK (rulKind o.tables[q] name) name p.2) = true
    · rw [if_neg c1, if_pos c2] at hzq; cases hzq
    · rw [if_neg c1, if_neg c2]
      obtain ⟨p, hp⟩ : ∃ p : Nat, rulAt o.tables[q].rules name = p := ⟨(rulAt o.tables[q].rules name).toNat, by omega⟩
      have hpl : p < o.tables[q].rules.length := by unfold rulAt at hp; omega
      have hpn := rulAt_at hp hpl
      have hkd := rulKind_at hp hpl
      rw [hp]
      simp only [Int.toNat_natCast]
      have hset : ∀ x ∈ o.tables, ∀ r' ∈ x.rules, r'.kind = 4 → HasKey o.tables x.cols r' → HasKey (o.tables.set q { o.tables[q] with rules := o.tables[q].rules.eraseIdx p }) x.cols r' := fun x hx r' hr' h4 hh =>
        has_set hq rfl rfl same_kinds (fun e1 e2 k hk e3 e4 => ⟨mem_erase_of hk fun h9 e => c2 (List.any_eq_true.2 ⟨(x, r'), forP_mem hx hr' (namesR_of h4 (e1.symm.trans hqs) (e2.symm.trans hqn)), by
          unfold hitK
          rw [hkd, ← e, e4, ← e3, e, hpn, eqS_refl]
          rfl⟩), same_kinds⟩) hh
      exact good_set g hq rfl rfl rfl gq.cols (Nat.le_trans (List.length_eraseIdx_le _ _) gq.nr) (rises_erase preRl gq.rises p) (fun y hy => gq.fit y (List.mem_of_mem_eraseIdx hy))
        (fun y hy h4 => hset _ (List.getElem_mem hq) y (List.mem_of_mem_eraseIdx hy) h4 (gq.key y (List.mem_of_mem_eraseIdx hy) h4)) (fun x hx y hy h4 => hset x hx y hy h4 ((g.tab x hx).key y hy h4))
end Go.Proofs.YticjnndhpfdajaaGreat
/- The document's DropTable. -/
namespace Go.Proofs.YticjnndhpfdajaaGreat
open Go.RowKit Go.Deep
set_option maxRecDepth 100000
set_option linter.unusedVariables false
theorem self_cmp {s n : ByteArray} {x y : Tab} (h1 : selfP s n x = true) (h2 : selfP s n y = true) : cmpTb x y = 0 := by
  unfold selfP at h1 h2
  rw [Bool.and_eq_true] at h1 h2
  have e1 : cmpS x.schema y.schema = 0 := (cmpS_eq _ _).2 (eqS_trans h1.1 (by rw [eqS_comm]; exact h2.1))
  have e2 : cmpS x.name y.name = 0 := (cmpS_eq _ _).2 (eqS_trans h1.2 (by rw [eqS_comm]; exact h2.2))
  unfold cmpTb or2
  rw [e1, e2]; rfl
/-- the table of a name stands at one place -/
theorem tab_only {o : Objs} {s n : ByteArray} {p : Nat} (hr : risesB cmpTb o.tables = true) (hp : tabAt o.tables s n = p) (hpl : p < o.tables.length) (t : Nat) (ht : t < o.tables.length) : selfP s n o.tables[t] = decide (t = p) := by
  have h1 : selfP s n o.tables[p] = true := idxP_at (fun c : Tab => eqS c.schema s && eqS c.name n) o.tables p hpl hp
  rcases Nat.lt_trichotomy t p with h | h | h
  · rw [decide_eq_false (by omega), Bool.eq_false_iff]
    intro h2
    have h3 := rises_lt preTb.tr hr t p ht hpl h
    have h4 := self_cmp h2 h1
    omega
  · subst h; rw [h1]; simp
  · rw [decide_eq_false (by omega), Bool.eq_false_iff]
    intro h2
    have h3 := rises_lt preTb.tr hr p t hpl ht h
    have h4 := self_cmp h1 h2
    omega
theorem usedT_eq (o : Objs) (s n : ByteArray) : usedT o s n = o.tables.any fun t => !selfP s n t && t.rules.any (namesR s n) := by
  unfold usedT forP
  rw [List.any_flatMap]
  congr 1
  funext t
  unfold forT
  rw [List.any_map, List.any_filter]
  cases h : selfP s n t
  · simp [Function.comp_def, h]
  · simp [Function.comp_def, h]
theorem used_yes {o : Objs} {s n : ByteArray} {p k : Nat} (ho : ∀ t (ht : t < o.tables.length), selfP s n o.tables[t] = decide (t = p)) (hk : k < o.tables.length) (hne : k ≠ p) (h : o.tables[k].rules.any (namesR s n) = true) : usedT o s n = true := by
  rw [usedT_eq]
  exact List.any_eq_true.2 ⟨o.tables[k], List.getElem_mem hk, by rw [ho k hk, decide_eq_false hne, h]; rfl⟩
theorem used_no {o : Objs} {s n : ByteArray} {p : Nat} (ho : ∀ t (ht : t < o.tables.length), selfP s n o.tables[t] = decide (t = p)) (h : ∀ k (hk : k < o.tables.length), k ≠ p → o.tables[k].rules.any (namesR s n) = false) : usedT o s n = false := by
  rw [usedT_eq]
  refine any_no fun j hj _ => ?_
  by_cases e : j = p
  · rw [ho j hj, decide_eq_true e]; rfl
  · rw [h j hj e]; simp
theorem OwnS.aft' {w wr w2 : World} {o : Objs} {n3 : Nat} {hs ht : Hd} {L : List OTab} {k : Nat} (s : OwnS w wr o n3 hs ht L k) (a : Aft wr w2) : OwnS w w2 o n3 hs ht L k :=
  ⟨s.aft.trans a, s.out.aft a, s.box.aft a, s.obj.aft a, s.ne, s.is, s.n3, s.len⟩
theorem erase_get {α : Type} {l : List α} {p k k' : Nat} (hp : p < l.length) (hk : k < l.length) (hne : k ≠ p) (hk' : k' = if p < k then k - 1 else k) : ∃ h : k' < (l.eraseIdx p).length, (l.eraseIdx p)[k'] = l[k] := by
  have hl : (l.eraseIdx p).length = l.length - 1 := List.length_eraseIdx_of_lt hp
  by_cases h : p < k
  · rw [if_pos h] at hk'
    subst hk'
    refine ⟨by omega, ?_⟩
    rw [List.getElem_eraseIdx_of_ge (by omega) (by omega)]
    congr 1; omega
  · rw [if_neg h] at hk'
    subst hk'
    exact ⟨by omega, List.getElem_eraseIdx_of_lt (by omega) (by omega)⟩
end Go.Proofs.YticjnndhpfdajaaGreat
