/- Contracts of the program, part 6. -/
import Derived.Shelf.SlSortCmp.WholeK
import Derived.IntWalk
import Derived.ProofKit
import Derived.OpenShut
import Derived.Deep.Slices
import Derived.ChangeOld
import Derived.SizedLaws
import Derived.WalkKit
import Derived.WalkSpells
import Derived.WalkLawsBesides
import Derived.Lib.Hide
import Derived.Deep.QuietTactic
import Derived.BigQuiet
import Derived.Below
import Derived.Deep.Draws
import Derived.StillTailTactics
import Derived.Laws.Cells
import Derived.Laws.IdiomCopy
import Derived.Test.YtiadkchlkdaceaaGreatRows
import Derived.Lib.Bytealg
import Derived.Lib.SliceRun
import Derived.Deep.AppendLies
import Derived.Deep.Upon
import Derived.OneCell
import Derived.OwnWalk
import Derived.Laws.AppendOwn
import Derived.Deep.RegionHeld3
import Derived.Deep.RegionLaw
import Derived.Deep.DeepMust
import Derived.Test.YtiadkchlkdaceaaGreatPartK1
import Derived.Test.YtiadkchlkdaceaaGreatPartK2
import Derived.Test.YtiadkchlkdaceaaGreatPartK3
import Derived.Test.YtiadkchlkdaceaaGreatPartK4
import Derived.Test.YtiadkchlkdaceaaGreatPartK5
namespace Go.Proofs.YtiadkchlkdaceaaGreat
set_option linter.unusedVariables false
theorem eqS_iff9 (a b : ByteArray) : eqS a b = true ↔ a = b := ⟨fun h => by
  have h1 : a.data.toList = b.data.toList := (cmpB_eq _ _).1 ((cmpS_eq a b).2 h)
  obtain ⟨a⟩ := a
  obtain ⟨b⟩ := b
  have h2 : a = b := Array.toList_inj.1 h1
  rw [h2], fun h => by rw [h]; exact eqS_refl b⟩
theorem cmpS_zero9 (a b : ByteArray) : cmpS a b = 0 ↔ a = b := (cmpS_eq a b).trans (eqS_iff9 a b)
theorem cmpTb_zero {x y : Tab} : cmpTb x y = 0 ↔ x.schema = y.schema ∧ x.name = y.name := by
  unfold cmpTb or2
  by_cases e1 : cmpS x.schema y.schema = 0
  · rw [if_pos (by simpa using e1), cmpS_zero9]
    exact ⟨fun h => ⟨(cmpS_zero9 _ _).1 e1, h⟩, fun h => h.2⟩
  · rw [if_neg (by simpa using e1)]
    exact ⟨fun h => absurd h e1, fun h => absurd ((cmpS_zero9 _ _).2 h.1) e1⟩
theorem idxP_find {α : Type} (p : α → Bool) : ∀ l : List α, l.find? p = if idxP p l < 0 then none else l[(idxP p l).toNat]?
  | [] => by simp [idxP]
  | x :: l => by
    have ih := idxP_find p l
    have hr := idxP_range p l
    rw [List.find?_cons]
    show _ = if (if p x then (0 : Int) else if idxP p l < 0 then -1 else idxP p l + 1) < 0 then none else (x :: l)[(if p x then (0 : Int) else if idxP p l < 0 then -1 else idxP p l + 1).toNat]?
    cases h : p x
    · simp only [Bool.false_eq_true, if_false]
      rw [ih]
      by_cases h1 : idxP p l < 0
      · rw [if_pos h1, if_pos h1, if_pos (by omega)]
      · rw [if_neg h1, if_neg h1, if_neg (by omega), show (idxP p l + 1).toNat = (idxP p l).toNat + 1 by omega, List.getElem?_cons_succ]
    · simp
theorem uniq_find {α : Type} (p : α → Bool) (l : List α) (x : α) (hx : x ∈ l) (hp : p x = true) (hu : ∀ y ∈ l, p y = true → y = x) : l.find? p = some x := by
  cases h : l.find? p with
  | none =>
    have := List.find?_eq_none.1 h x hx
    rw [hp] at this
    exact absurd rfl this
  | some y => rw [hu y (List.mem_of_find?_eq_some h) (List.find?_some h)]
theorem rises_uniq {α : Type} {c : α → α → Int} (P : Pre8 c) {l : List α} (h : risesB c l = true) {x y : α} (hx : x ∈ l) (hy : y ∈ l) (e : c x y = 0) : x = y := by
  obtain ⟨i, hi, rfl⟩ := List.getElem_of_mem hx
  obtain ⟨j, hj, rfl⟩ := List.getElem_of_mem hy
  rcases Nat.lt_trichotomy i j with h1 | h1 | h1
  · have := rises_lt P.tr h i j hi hj h1; omega
  · subst h1; rfl
  · have := rises_lt P.tr h j i hj hi h1; have := P.anti l[i] l[j]; omega
theorem colsOk_iff (l : List Col) : colsOk l = true ↔ (1 ≤ l.length ∧ l.length ≤ 8) ∧ (∀ c ∈ l, colOk c = true) ∧ l.Pairwise fun a b => a.name ≠ b.name := by
  unfold colsOk
  simp only [Bool.and_eq_true, decide_eq_true_eq, List.all_eq_true, List.mem_range]
  have key : ∀ (i : Nat) (hi : i < l.length), idxP (fun d : Col => eqS d.name l[i].name) (l.take i) < 0 ↔ ∀ j (hj : j < i), (l[j]'(by omega)).name ≠ l[i].name := fun i hi => by
    constructor
    · intro h j hj e
      have h1 := idxP_find (fun d : Col => eqS d.name l[i].name) (l.take i)
      rw [if_pos h] at h1
      have := List.find?_eq_none.1 h1 (l[j]'(by omega)) (by rw [List.mem_take_iff_getElem]; exact ⟨j, by omega, rfl⟩)
      exact this ((eqS_iff9 _ _).2 e)
    · intro h
      have : idxP (fun d : Col => eqS d.name l[i].name) (l.take i) = -1 := idxP_none _ _ fun j hj => by
        rw [Bool.eq_false_iff]
        intro e
        have hj' : j < i := by simp at hj; omega
        rw [List.getElem_take] at e
        exact h j hj' ((eqS_iff9 _ _).1 e)
      omega
  constructor
  · rintro ⟨h1, h2⟩
    refine ⟨h1, fun c hc => ?_, List.pairwise_iff_getElem.2 fun i j hi hj hij => ?_⟩
    · obtain ⟨i, hi, rfl⟩ := List.getElem_of_mem hc
      have := h2 i hi
      rw [List.getElem?_eq_getElem hi] at this
      simp only [Bool.and_eq_true, decide_eq_true_eq] at this
      exact this.1
    · have := h2 j hj
      rw [List.getElem?_eq_getElem hj] at this
      simp only [Bool.and_eq_true, decide_eq_true_eq] at this
      exact (key j hj).1 this.2 i hij
  · rintro ⟨h1, h2, h3⟩
    refine ⟨h1, fun i hi => ?_⟩
    rw [List.getElem?_eq_getElem hi]
    simp only [Bool.and_eq_true, decide_eq_true_eq]
    exact ⟨h2 _ (List.getElem_mem hi), (key i hi).2 fun j hj => List.pairwise_iff_getElem.1 h3 j i (by omega) hi hj⟩
/-- a foreign rule's key is there and goes with it -/
def HasKey (ts : List Tab) (l : List Col) (r : Rul) : Prop := ∃ t ∈ ts, t.schema = r.schema ∧ t.name = r.table ∧ ∃ q ∈ t.rules, q.name = r.key ∧ q.kind = 2 ∧ pairsOk l t.cols r.cols q.cols = true
theorem keyE_find (ts : List Tab) (l : List Col) (r : Rul) : keyE ts l r = match ts.find? (fun t => eqS t.schema r.schema && eqS t.name r.table) with
    | none => 61
    | some t => match t.rules.find? (fun q => eqS q.name r.key) with
      | none => 61
      | some q => if q.kind == 2 then (if pairsOk l t.cols r.cols q.cols then 0 else 63) else 61 := by
  have h2 : ∀ t : Tab, keyT t l r = match t.rules.find? (fun q => eqS q.name r.key) with | none => 61 | some q => if q.kind == 2 then (if pairsOk l t.cols r.cols q.cols then 0 else 63) else 61 := fun t => by
    unfold keyT
    rw [idxP_find]
    have e : rulAt t.rules r.key = idxP (fun q : Rul => eqS q.name r.key) t.rules := rfl
    rw [e]
    by_cases h : idxP (fun q : Rul => eqS q.name r.key) t.rules < 0
    · rw [if_pos h]
      split
      · rw [if_pos h]
      · rfl
    · rw [if_neg h]
      cases hg : t.rules[(idxP (fun q : Rul => eqS q.name r.key) t.rules).toNat]? with
      | none => rfl
      | some q => simp only; rw [if_neg h]
  unfold keyE
  rw [idxP_find]
  have e : tabAt ts r.schema r.table = idxP (fun t : Tab => eqS t.schema r.schema && eqS t.name r.table) ts := rfl
  rw [e]
  by_cases h : idxP (fun t : Tab => eqS t.schema r.schema && eqS t.name r.table) ts < 0
  · rw [if_pos h]
    split
    · rw [if_pos h]
    · rfl
  · rw [if_neg h]
    cases hg : ts[(idxP (fun t : Tab => eqS t.schema r.schema && eqS t.name r.table) ts).toNat]? with
    | none => rfl
    | some t => simp only; rw [if_neg h, h2]
theorem has_of_key {ts : List Tab} {l : List Col} {r : Rul} (h : keyE ts l r = 0) : HasKey ts l r := by
  rw [keyE_find] at h
  cases h1 : ts.find? (fun t => eqS t.schema r.schema && eqS t.name r.table) with
  | none => rw [h1] at h; simp at h
  | some t =>
    rw [h1] at h
    simp only at h
    have p1 := List.find?_some (p := fun t : Tab => eqS t.schema r.schema && eqS t.name r.table) h1
    simp only [Bool.and_eq_true, eqS_iff9] at p1
    cases h2 : t.rules.find? (fun q => eqS q.name r.key) with
    | none => rw [h2] at h; simp at h
    | some q =>
      rw [h2] at h
      simp only at h
      have p2 := List.find?_some (p := fun q : Rul => eqS q.name r.key) h2
      by_cases k : (q.kind == 2) = true
      · rw [if_pos k] at h
        by_cases k2 : pairsOk l t.cols r.cols q.cols = true
        · exact ⟨t, List.mem_of_find?_eq_some h1, p1.1, p1.2, q, List.mem_of_find?_eq_some h2, (eqS_iff9 _ _).1 p2, by simpa using k, k2⟩
        · rw [if_neg k2] at h; exact absurd h (by decide)
      · rw [if_neg k] at h; exact absurd h (by decide)
theorem key_of_has {ts : List Tab} {l : List Col} {r : Rul} (hts : risesB cmpTb ts = true) (hrs : ∀ t ∈ ts, risesB cmpRl t.rules = true) (h : HasKey ts l r) : keyE ts l r = 0 := by
  obtain ⟨t, ht, e1, e2, q, hq, e3, e4, e5⟩ := h
  rw [keyE_find, uniq_find _ ts t ht (by rw [e1, e2, eqS_refl, eqS_refl]; rfl) (fun y hy hp => by
    simp only [Bool.and_eq_true, eqS_iff9] at hp
    exact rises_uniq preTb hts hy ht (cmpTb_zero.2 ⟨hp.1.trans e1.symm, hp.2.trans e2.symm⟩))]
  simp only
  rw [uniq_find _ t.rules q hq (by rw [e3, eqS_refl]) (fun y hy hp => rises_uniq preRl (hrs t ht) hy hq ((cmpS_zero9 _ _).2 (((eqS_iff9 _ _).1 hp).trans e3.symm)))]
  simp only
  rw [if_pos (by simp [e4]), if_pos e5]
structure GoodT (ss : List Sch) (ts : List Tab) (t : Tab) : Prop where
  nm : nameB t.name = true
  ow : nameB t.owner = true
  cols : colsOk t.cols = true
  nr : t.rules.length ≤ 8
  sch : ∃ s ∈ ss, s.name = t.schema
  rises : risesB cmpRl t.rules = true
  fit : ∀ r ∈ t.rules, fitsOk t.cols r = true
  key : ∀ r ∈ t.rules, r.kind = 4 → HasKey ts t.cols r
structure Good (o : Objs) : Prop where
  ns : o.schemas.length ≤ 8
  nt : o.tables.length ≤ 64
  rt : risesB cmpTb o.tables = true
  rs : risesB cmpSc o.schemas = true
  sch : ∀ s ∈ o.schemas, nameB s.name = true ∧ nameB s.owner = true ∧ within o.tables s.name ≤ 8
  tab : ∀ t ∈ o.tables, GoodT o.schemas o.tables t
theorem schAt_iff (l : List Sch) (s : ByteArray) : 0 ≤ schAt l s ↔ ∃ x ∈ l, x.name = s := by
  have h := idxP_find (fun c : Sch => eqS c.name s) l
  have hr := idxP_range (fun c : Sch => eqS c.name s) l
  have e : schAt l s = idxP (fun c : Sch => eqS c.name s) l := rfl
  rw [e]
  constructor
  · intro h0
    rw [if_neg (by omega), List.getElem?_eq_getElem (by omega)] at h
    exact ⟨_, List.mem_of_find?_eq_some h, (eqS_iff9 _ _).1 (List.find?_some (p := fun c : Sch => eqS c.name s) h)⟩
  · rintro ⟨x, hx, rfl⟩
    rcases Int.lt_or_le (idxP (fun c : Sch => eqS c.name x.name) l) 0 with h0 | h0
    · rw [if_pos h0] at h
      exact absurd (eqS_refl x.name) (List.find?_eq_none.1 h x hx)
    · exact h0
theorem good_iff (o : Objs) : checkO o = true ↔ Good o := by
  unfold checkO headOk
  simp only [Bool.and_eq_true, decide_eq_true_eq, List.all_eq_true]
  constructor
  · rintro ⟨⟨⟨⟨h1, h2⟩, h3⟩, h4⟩, h5, h6⟩
    refine ⟨h1, h2, h3, h4, fun s hs => ?_, fun t ht => ?_⟩
    · have := h5 s hs
      unfold schOk at this
      simp only [Bool.and_eq_true, decide_eq_true_eq] at this
      exact ⟨this.1.1, this.1.2, this.2⟩
    · have := h6 t ht
      unfold rightT at this
      simp only [Bool.and_eq_true, decide_eq_true_eq, List.all_eq_true] at this
      obtain ⟨⟨⟨⟨⟨a1, a2⟩, a3⟩, a4⟩, a5⟩, a6, a7⟩ := this
      refine ⟨a1, a2, a3, a4, (schAt_iff _ _).1 a5, a7, fun r hr => ?_, fun r hr hk => ?_⟩
      · have := a6 r hr
        unfold ruleOk at this
        simp only [Bool.and_eq_true] at this
        exact this.1
      · have := a6 r hr
        unfold ruleOk at this
        simp only [Bool.and_eq_true, Bool.not_eq_true', Bool.and_eq_false_iff, beq_eq_false_iff_ne, bne_eq_false_iff_eq] at this
        exact has_of_key (this.2.resolve_left fun h => h hk)
  · intro g
    have hrs : ∀ t ∈ o.tables, risesB cmpRl t.rules = true := fun t ht => (g.tab t ht).rises
    refine ⟨⟨⟨⟨g.ns, g.nt⟩, g.rt⟩, g.rs⟩, fun s hs => ?_, fun t ht => ?_⟩
    · have := g.sch s hs
      unfold schOk
      simp only [Bool.and_eq_true, decide_eq_true_eq]
      exact ⟨⟨this.1, this.2.1⟩, this.2.2⟩
    · have a := g.tab t ht
      unfold rightT
      simp only [Bool.and_eq_true, decide_eq_true_eq, List.all_eq_true]
      refine ⟨⟨⟨⟨⟨a.nm, a.ow⟩, a.cols⟩, a.nr⟩, (schAt_iff _ _).2 a.sch⟩, fun r hr => ?_, a.rises⟩
      unfold ruleOk
      simp only [Bool.and_eq_true, Bool.not_eq_true', Bool.and_eq_false_iff, beq_eq_false_iff_ne, bne_eq_false_iff_eq]
      refine ⟨a.fit r hr, ?_⟩
      by_cases hk : r.kind = 4
      · exact .inr (key_of_has g.rt hrs (a.key r hr hk))
      · exact .inl hk
end Go.Proofs.YtiadkchlkdaceaaGreat

namespace Go.Proofs.YtiadkchlkdaceaaGreat
open Go.RowKit Go.Deep
set_option maxRecDepth 100000
set_option linter.unusedVariables false
def ModT (t : Tab) : Prop := t.cols.length ≤ 1000000 ∧ t.rules.length ≤ 1000000 ∧ ∀ r ∈ t.rules, r.cols.length ≤ 1000000
theorem lvTab_row {W : World} {b : Nat} {a c d e f : Value} (h : RowAt W b [a, c, d, e, f]) : (loadVar 76 ⟨b, 0, none⟩).run Tryz.prog W = .ok (.agg #[a, c, d, e, f]) W := by
  have e0 := h.cell (j := 0) rfl
  have e1 := h.cell (j := 1) rfl
  have e2 := h.cell (j := 2) rfl
  have e3 := h.cell (j := 3) rfl
  have e4 := h.cell (j := 4) rfl
  have h1 := run_lvTab W b 0 (by rw [e0]; rfl) (by rw [e1]; rfl) (by rw [e2]; rfl) (by rw [e3]; rfl) (by rw [e4]; rfl)
  rw [e0, e1, e2, e3, e4] at h1
  exact h1
theorem box_row2 {w W : World} {c : List Value} {t : TypeId} (h : Aft (w.alloc (.cells c.toArray t)) W) : RowAt W w.heap.size c := by
  obtain ⟨hb, hf, hz, _, _⟩ := aft_box h
  exact ⟨hz.1, fun j hj => by rw [hb]; simp, fun j _ => hf j⟩
/-- what is true of a table that is being copied: k of its rules have names of their own -/
structure CopyS (w wr : World) (t : Tab) (hc hr : Hd) (L0 L : List ORul) (k : Nat) : Prop where
  aft : Aft w wr
  box : RowAt wr w.heap.size [.string t.schema, .string t.name, .string t.owner, .slice hc.a t.cols.length hc.c, .slice hr.a t.rules.length hr.c]
  out : RowAt wr (w.heap.size + 1) [.string ⟨#[]⟩, .string ⟨#[]⟩, .string ⟨#[]⟩, .slice none 0 0, .slice none 0 0]
  col : wr.ownsRow (w.heap.size + 2) 93 3 hc.v t.cols.length (t.cols.flatMap colC)
  rul : wr.ownsRow (w.heap.size + 2) 108 8 hr.v t.rules.length ((L ++ L0.drop k).flatMap ORul.cells)
  len : L.length = k
  is : L.map (·.r) = t.rules.take k
  each : ∀ x ∈ L, RulIn wr (w.heap.size + 2) x
  nd : (hc.blk ++ (hr.blk ++ L.flatMap (·.h.blk))).Nodup
theorem CopyS.lt {w wr : World} {t : Tab} {hc hr : Hd} {L0 L : List ORul} {k : Nat} (s : CopyS w wr t hc hr L0 L k) : ∀ g ∈ hc.blk ++ (hr.blk ++ L.flatMap (·.h.blk)), w.heap.size + 2 ≤ g ∧ g < wr.heap.size := by
  intro g hg
  simp only [List.mem_append, List.mem_flatMap] at hg
  rcases hg with hg | hg | ⟨r, hr, hg⟩
  · exact blk_lt s.col g hg
  · exact blk_lt s.rul g hg
  · exact blk_lt (s.each r hr).nam g hg
/-- one rule more -/
theorem CopyS.step {w wr w4 : World} {t : Tab} {hc hr h4 : Hd} {L0 L : List ORul} {k gr : Nat} (s : CopyS w wr t hc hr L0 L k) (h0 : L0.map (·.r) = t.rules) (hk : k < t.rules.length) (hgr : hr.a = some ⟨gr, 0, none⟩)
    (a4 : Aft wr w4) (own4 : w4.ownsRow wr.heap.size 9 1 h4.v t.rules[k].cols.length (t.rules[k].cols.flatMap nameC)) : CopyS w (w4.setCell ⟨gr, k * 8 + 2, none⟩ h4.v) t hc hr L0 (L ++ [⟨t.rules[k], h4⟩]) (k + 1) := by
  have hL0 : L0.length = t.rules.length := by rw [← h0]; simp
  have hgb : gr ∈ hr.blk := by rw [Hd.mem_blk]; unfold Hd.v; rw [hgr]; rfl
  have hlt := s.lt
  have hg := hlt gr (by simp [hgb])
  have kb := Kb.set w4 gr (k * 8 + 2) h4.v
  have ka : Kb (fun x => x = gr) wr (w4.setCell ⟨gr, k * 8 + 2, none⟩ h4.v) := (Kb.of_aft a4).trans kb
  have hnd := s.nd
  have hz : wr.heap.size ≤ w.heap.size + 2 ∨ w.heap.size + 2 ≤ wr.heap.size := by omega
  have hcg : ∀ g ∈ hc.blk, ¬ g = gr := fun g hgc e => by
    subst e
    exact (List.nodup_append.1 hnd).2.2 g hgc g (by simp [hgb]) rfl
  have hng : ∀ x ∈ L, ∀ g ∈ x.h.blk, ¬ g = gr := fun x hx g hgc e => by
    subst e
    exact (List.nodup_append.1 (List.nodup_append.1 hnd).2.1).2.2 g hgb g (by simp only [List.mem_flatMap]; exact ⟨x, hx, hgc⟩) rfl
  refine ⟨ka.to_aft s.aft (fun x hx e => by omega), ka.row s.box (by omega), ka.row s.out (by omega), own_kb s.col ka fun g hgo => hcg g (Hd.mem_blk.2 hgo), ?_, by simp [s.len], ?_, ?_, ?_⟩
  · have h1 := own_set (own_aft s.rul a4) (Hd.mem_blk.1 hgb) (k * 8 + 2) h4.v
    have hkl : k < (L ++ L0.drop k).length := by simp [s.len]; omega
    have hget : (L ++ L0.drop k)[k] = L0[k]'(by omega) := by
      rw [List.getElem_append_right (by rw [s.len]; exact Nat.le_refl _)]
      simp [s.len]
    have hrk : (L0[k]'(by omega)).r = t.rules[k] := by
      have : (L0.map (·.r))[k]'(by simpa using (by omega : k < L0.length)) = t.rules[k] := by simp only [h0]
      simpa using this
    rw [flatMap_set (size := 8) (fun _ => rfl) (L ++ L0.drop k) k 2 hkl (by decide) h4.v ⟨t.rules[k], h4⟩ (by rw [hget]; unfold ORul.cells rulC; rw [hrk]; rfl)] at h1
    have hset : (L ++ L0.drop k).set k ⟨t.rules[k], h4⟩ = (L ++ [⟨t.rules[k], h4⟩]) ++ L0.drop (k + 1) := by
      have hd : L0.drop k = L0[k]'(by omega) :: L0.drop (k + 1) := List.drop_eq_getElem_cons (by omega : k < L0.length)
      rw [List.set_append_right _ _ (by rw [s.len]; exact Nat.le_refl _), s.len, Nat.sub_self, hd]
      simp only [List.set_cons_zero, List.append_assoc, List.cons_append, List.nil_append]
    rw [hset] at h1
    exact h1
  · rw [List.map_append, s.is, List.take_succ_eq_append_getElem hk]; rfl
  · intro x hx
    simp only [List.mem_append, List.mem_singleton] at hx
    rcases hx with hx | rfl
    · exact (s.each x hx).kb ka fun g hgo => hng x hx g hgo
    · exact ⟨own_down (own_kb own4 kb fun g hgo e => by have := (own4.lt g hgo).1; omega) (by have := s.out.1; omega)⟩
  · have e : hc.blk ++ (hr.blk ++ (L ++ [ORul.mk t.rules[k] h4]).flatMap (·.h.blk)) = (hc.blk ++ (hr.blk ++ L.flatMap (·.h.blk))) ++ h4.blk := by simp [List.append_assoc]
    rw [e]
    exact nodup_more hnd (blk_nodup h4) (fun g hg => (hlt g hg).2) (fun g hg => (blk_lt own4 g hg).1)
set_option maxHeartbeats 8000000 in
theorem copied_in (t : Tab) (A : Option Addr) (cap : Nat) (A2 : Option Addr) (cap2 : Nat) (w : World) (h : SlAt w 3 ColR A cap t.cols) (h2 : SlAt w 8 RulR A2 cap2 t.rules) (hm : ModT t) :
    Calls Tryz.prog 60 #[.agg #[.string t.schema, .string t.name, .string t.owner, .slice A t.cols.length cap, .slice A2 t.rules.length cap2]] w (CopyO w t) := by
  have hlen := h.len
  have hlen2 := h2.len
  have C1 := Lib.hid (show ∀ w', Aft w w' → _ from fun w' a => clone2Col A cap t.cols w w' a h hm.1)
  have C2 := Lib.hid (show ∀ w', Aft w w' → _ from fun w' a => clone2Rul A2 cap2 t.rules w w' a h2 hm.2.1)
  have l1 : w.heap.size < w.heap.size + 1 := by omega
  have l2 : w.heap.size < w.heap.size + 1 + 1 := by omega
  go_enter Tryz.func60, Tryz.ntmps60
  go_wp2_with fail
  refine (C1.out _ (((Aft.refl w).alloc _).alloc _)).mono ?_
  rintro e w1 ⟨v1, css1, rfl, a1, own1, ch1⟩
  have r1 : RowAt w1 w.heap.size [.string t.schema, .string t.name, .string t.owner, .slice A t.cols.length cap, .slice A2 t.rules.length cap2] := (box_row2 (Aft.refl _)).aft (((Aft.refl _).alloc _).trans a1)
  have r2 : RowAt w1 (w.heap.size + 1) [.string ⟨#[]⟩, .string ⟨#[]⟩, .string ⟨#[]⟩, .slice none 0 0, .slice none 0 0] := by
    have := (box_row2 (w := w.alloc (.cells #[.string t.schema, .string t.name, .string t.owner, .slice A t.cols.length cap, .slice A2 t.rules.length cap2] 76)) (c := [.string ⟨#[]⟩, .string ⟨#[]⟩, .string ⟨#[]⟩, .slice none 0 0, .slice none 0 0]) (t := 76) (Aft.refl _)).aft a1
    simpa using this
  have HA1 := Lib.hid ((((Aft.refl w).alloc _).alloc _).trans a1)
  obtain ⟨Ac, cc, hv1⟩ := own_lit own1
  subst hv1
  rw [flat_cols ch1] at own1
  have own1 : w1.ownsRow (w.heap.size + 2) 93 3 (Hd.mk Ac t.cols.length cc).v t.cols.length (t.cols.flatMap colC) := own_down own1 (by simp)
  have hz1 : w.heap.size + 2 ≤ w1.heap.size := by have := a1.size; simp at this; omega
  obtain ⟨W1, hW1⟩ : ∃ W1, W1 = w1.setCell ⟨w.heap.size, 3, none⟩ (.slice Ac t.cols.length cc) := ⟨_, rfl⟩
  have kW1 : Kb (fun x => x = w.heap.size) w1 W1 := by rw [hW1]; exact Kb.set _ _ _ _
  have s1 : RowAt W1 w.heap.size [.string t.schema, .string t.name, .string t.owner, .slice Ac t.cols.length cc, .slice A2 t.rules.length cap2] := by rw [hW1]; exact r1.set 3 _ (by simp)
  have s2 := kW1.row r2 (by omega)
  have aW1 : Aft w W1 := by rw [hW1]; exact HA1.out.setCell _ _ (Nat.le_refl _)
  have zW1 : W1.heap.size = w1.heap.size := by rw [hW1]; simp
  have own1' := own_kb own1 kW1 (fun g hg e => by have := (own1.lt g hg).1; omega)
  have b0 := r1.cell (j := 3) rfl
  have b1 := r1.cell (j := 4) rfl
  have f3 := r1.2.2 3 (by simp)
  have z0 := r1.1
  have q4 := s1.cell (j := 4) rfl
  have qz := s1.1
  have HO1 := Lib.hid own1'
  have HR1 := Lib.hid s1
  have HR2 := Lib.hid s2
  clear r1 r2 a1 own1 ch1 C1 kW1 own1' s1 s2
  go_wp2_with fail
  rw [← hW1]
  refine (C2.out W1 aW1).mono ?_
  rintro e w2 ⟨v2, css2, rfl, a2, own2, ch2⟩
  clear C2 hW1 b0 b1 f3 q4 qz
  obtain ⟨Ar, cr, hv2⟩ := own_lit own2
  subst hv2
  obtain ⟨L0, hL0, hcss, hlie⟩ := rules_lie ch2
  rw [hcss, ← List.flatMap_def] at own2
  have s1' := HR1.out.aft a2
  have s2' := HR2.out.aft a2
  have b0 := s1'.cell (j := 3) rfl
  have b1 := s1'.cell (j := 4) rfl
  have f4 := s1'.2.2 4 (by simp)
  have z0 := s1'.1
  obtain ⟨W2, hW2⟩ : ∃ W2, W2 = w2.setCell ⟨w.heap.size, 4, none⟩ (.slice Ar t.rules.length cr) := ⟨_, rfl⟩
  have kW2 : Kb (fun x => x = w.heap.size) w2 W2 := by rw [hW2]; exact Kb.set _ _ _ _
  have u1 : RowAt W2 w.heap.size [.string t.schema, .string t.name, .string t.owner, .slice Ac t.cols.length cc, .slice Ar t.rules.length cr] := by rw [hW2]; exact s1'.set 4 _ (by simp)
  have hS0 : CopyS w W2 t ⟨Ac, t.cols.length, cc⟩ ⟨Ar, t.rules.length, cr⟩ L0 [] 0 := by
    have hz2 : w.heap.size + 2 ≤ W1.heap.size := by omega
    have own1'' := own_aft HO1.out a2
    have own2' : w2.ownsRow W1.heap.size 108 8 (Hd.mk Ar t.rules.length cr).v t.rules.length (L0.flatMap ORul.cells) := own2
    refine ⟨kW2.to_aft (aW1.trans a2) (fun x hx e => by omega), u1, kW2.row s2' (by omega), own_kb own1'' kW2 (fun g hg e => by have := (own1''.lt g hg).1; omega),
      own_down (own_kb own2' kW2 (fun g hg e => by have := (own2.lt g hg).1; omega)) hz2, rfl, rfl, fun x hx => by simp at hx, ?_⟩
    simp only [List.flatMap_nil, List.append_nil]
    exact nodup_more (blk_nodup _) (blk_nodup _) (fun g hg => (blk_lt HO1.out g hg).2) (fun g hg => (blk_lt own2' g hg).1)
  have HS0 := Lib.hid hS0
  have HL0 := Lib.hid hL0
  have HLIE := Lib.hid (show ∀ x ∈ L0, ∀ w', Aft w w' → x.h.n = x.r.cols.length ∧ SlAt w' 1 StrR x.h.a x.h.c x.r.cols from fun x hx w' a => ⟨(hlie x hx).1, strs_aft a (hlie x hx).2⟩)
  have HM := Lib.hid hm
  have x3 := u1.cell (j := 4) rfl
  have xz := u1.1
  clear s1' s2' own2 ch2 hS0 hL0 hlie hm kW2 u1 aW1 hcss
  go_wp2_with fail
  rw [← hW2]
  clear hW2 b0 b1 f4 z0
  go_loopw [15] (fun i wr => ∃ (k : Nat) (L : List ORul), k ≤ t.rules.length ∧ i = .int .i64 k ∧ CopyS w wr t ⟨Ac, t.cols.length, cc⟩ ⟨Ar, t.rules.length, cr⟩ L0 L k) (fun i _ => t.rules.length - (intOf i).toNat)
  case atStart => exact ⟨0, [], Nat.zero_le _, rfl, HS0.out⟩
  case round =>
    clear HS0 x3 xz
    obtain ⟨k, L, hk, rfl, hs⟩ := hrel
    have b4 := hs.box.cell (j := 4) rfl
    have bz := hs.box.1
    have HS := Lib.hid hs
    by_cases hlt : k < t.rules.length
    · have hL0l : L0.length = t.rules.length := by rw [← HL0.out]; simp
      obtain ⟨gr, hAr, hgrb, rg⟩ := own_place hs.rul (by omega)
      have hAr' : Ar = some ⟨gr, 0, none⟩ := hAr
      subst hAr'
      have hkl : k < L0.length := by omega
      have hget : (L ++ L0.drop k)[k]'(by simp [hs.len]; omega) = L0[k] := by
        rw [List.getElem_append_right (by rw [hs.len]; exact Nat.le_refl _)]
        simp [hs.len]
      have hrk : L0[k].r = t.rules[k] := by
        have : (L0.map (·.r))[k]'(by simpa using hkl) = t.rules[k] := by simp only [HL0.out]
        simpa using this
      obtain ⟨hn, hD⟩ := HLIE.out L0[k] (List.getElem_mem hkl) wr hs.aft
      obtain ⟨p, hpp⟩ : ∃ p, t.rules[k] = p := ⟨_, rfl⟩
      obtain ⟨D, nD, capD⟩ : Hd := L0[k].h
      have x2 : wr.cell? ⟨gr, k * 8 + 2, none⟩ = some (.slice L0[k].h.a p.cols.length L0[k].h.c) := by
        refine rg.cell ?_
        rw [flatMap_get ORul.cells 8 (fun _ => rfl) _ k 2 (by simp [hs.len]; omega) (by decide), hget]
        unfold ORul.cells rulC Hd.v
        rw [hn, hrk, hpp]; rfl
      rw [hrk, hpp] at hD
      obtain ⟨D2, hD2⟩ : ∃ D, L0[k].h.a = D := ⟨_, rfl⟩
      obtain ⟨c2, hc2⟩ : ∃ c, L0[k].h.c = c := ⟨_, rfl⟩
      rw [hD2, hc2] at x2 hD
      have HPP := Lib.hid hpp
      have f2 := rg.2.2 (k * 8 + 2) (by rw [flatMap_len (size := 8) (fun _ => rfl)]; simp [hs.len]; omega)
      have gz := rg.1
      have hp6 : p.cols.length ≤ 1000000 := HM.out.2.2 p (by rw [← hpp]; exact List.getElem_mem hlt)
      have hpl := hD.len
      have C3 := Lib.hid (show ∀ w', Aft wr w' → _ from fun w' a => clone2Str D2 c2 p.cols wr w' a hD hp6)
      have hgn : gr ≠ w.heap.size := by omega
      clear hpp hget hrk hn hD hD2 hc2 hs rg hAr hL0l
      go_wp2_with fail
      go_region_with ((go_at_call 96; refine (C3.out _ (Aft.refl _).drew).mono ?_; rintro e w4 ⟨v4, css4, rfl, a4, own4, ch4⟩; have x4 := a4.cell_kept x2; have b44 := a4.cell_kept b4; have f4 := (Below.frozen a4 (p := ⟨gr, k * 8 + 2, none⟩) gz).trans f2; obtain ⟨Dn, cn, hv4⟩ := own_lit own4; subst hv4))
      all_goals
        have aw4 : Aft wr w4 := (Aft.refl _).drew.trans a4
        have HREL := Lib.hid (HS.out.step (h4 := ⟨Dn, p.cols.length, cn⟩) HL0.out hlt rfl aw4 (by rw [flat_names ch4] at own4; rw [HPP.out]; exact own4))
        rw [HPP.out] at HREL
        clear own4 ch4 a4 aw4 x4 b44 f4
        go_wp2_with fail
        go_roundw
        case rel => exact ⟨k + 1, _, by omega, by go_num, HREL.out⟩
        case measure => simp [intOf]; omega
    · have c0 := hs.box.cell (j := 0) rfl
      have c1 := hs.box.cell (j := 1) rfl
      have c2 := hs.box.cell (j := 2) rfl
      have c3 := hs.box.cell (j := 3) rfl
      have d0 := hs.out.cell (j := 0) rfl
      have d1 := hs.out.cell (j := 1) rfl
      have d2 := hs.out.cell (j := 2) rfl
      have d3 := hs.out.cell (j := 3) rfl
      have d4 := hs.out.cell (j := 4) rfl
      have e0 := hs.out.2.2 0 (by simp)
      have e1 := hs.out.2.2 1 (by simp)
      have e2 := hs.out.2.2 2 (by simp)
      have e3 := hs.out.2.2 3 (by simp)
      have e4 := hs.out.2.2 4 (by simp)
      have dz := hs.out.1
      clear hs
      go_wp2_with fail
      (try simp only [Exit.inBlock, Exit.then])
      have hs := HS.out
      obtain ⟨F, hF⟩ : ∃ F, F = ((((wr.setCell ⟨w.heap.size + 1, 0, none⟩ (.string t.schema)).setCell ⟨w.heap.size + 1, 1, none⟩ (.string t.name)).setCell ⟨w.heap.size + 1, 2, none⟩ (.string t.owner)).setCell ⟨w.heap.size + 1, 3, none⟩ (.slice Ac t.cols.length cc)).setCell ⟨w.heap.size + 1, 4, none⟩ (.slice Ar t.rules.length cr) := ⟨_, rfl⟩
      have kF : Kb (fun x => x = w.heap.size + 1) wr F := by
        rw [hF]
        exact ((((Kb.set _ _ _ _).trans (Kb.set _ _ _ _)).trans (Kb.set _ _ _ _)).trans (Kb.set _ _ _ _)).trans (Kb.set _ _ _ _)
      have rF : RowAt F (w.heap.size + 1) [.string t.schema, .string t.name, .string t.owner, .slice Ac t.cols.length cc, .slice Ar t.rules.length cr] := by
        rw [hF]
        exact ((((hs.out.set 0 _ (by simp)).set 1 _ (by simp)).set 2 _ (by simp)).set 3 _ (by simp)).set 4 _ (by simp)
      rw [← hF]
      refine bodyPost_ret (results_cell (v := .agg #[.string t.schema, .string t.name, .string t.owner, .slice Ac t.cols.length cc, .slice Ar t.rules.length cr]) rfl _ rfl ?hl) rfl ?_
      case hl => exact lvTab_row rF
      have hkn : k = t.rules.length := by omega
      subst hkn
      have his := hs.is
      rw [List.take_of_length_le (Nat.le_refl _)] at his
      have hL0l : L0.length = t.rules.length := by rw [← HL0.out]; simp
      have hrul := hs.rul
      rw [List.drop_of_length_le (by omega), List.append_nil] at hrul
      have hlen' : L.length = t.rules.length := hs.len
      refine ⟨⟨t.schema, t.name, t.owner, t.cols, L, ⟨Ac, t.cols.length, cc⟩, ⟨Ar, t.rules.length, cr⟩⟩, by unfold OTab.t; rw [his], rfl, kF.to_aft hs.aft (fun x hx e => by omega), ?_, hs.nd⟩
      have hlt' := hs.lt
      refine TabIn.down (TabIn.kb (w := wr) (B := w.heap.size + 2) ⟨hs.col, by show wr.ownsRow _ _ 8 _ L.length _; rw [hlen']; exact hrul, hs.each⟩ kF fun g hg e => ?_) (by omega)
      have := hlt' g hg
      omega
end Go.Proofs.YtiadkchlkdaceaaGreat

namespace Go.Proofs.YtiadkchlkdaceaaGreat
open Go.RowKit Go.Deep
set_option maxRecDepth 100000
set_option linter.unusedVariables false
theorem nodup_disj {l m : List Nat} (h : (l ++ m).Nodup) {g : Nat} (h1 : g ∈ l) (h2 : g ∈ m) : False := (List.nodup_append.1 h).2.2 g h1 g h2 rfl
/-- one table more -/
theorem ObjIn.push {wr w4 w5 : World} {B : Nat} {hs ht ht' : Hd} {ss : List Sch} {L : List OTab} {x : OTab} (h : ObjIn wr B hs ht ss L) (a4 : Aft wr w4) (hx : TabIn w4 wr.heap.size x) (nx : x.blks.Nodup) (hB : B ≤ wr.heap.size)
    (hg : w4.grownBy w5 ht.v.ownBlock) (ho : w5.ownsRow B 76 5 ht'.v (L.length + 1) (L.flatMap OTab.cells ++ x.cells)) (hb : ∀ g ∈ ht'.blk, g ∈ ht.blk ∨ w4.heap.size ≤ g) (hn : ∀ g ∈ ht'.blk, g ∉ x.blks) : ObjIn w5 B hs ht' ss (L ++ [x]) := by
  have k1 : Kb (fun g => ht.v.ownBlock = some g) w4 w5 := Kb.of_grown hg
  have k2 : Kb (fun g => ht.v.ownBlock = some g) wr w5 := (Kb.of_aft a4).trans k1
  have hlt := h.lt
  have nd := h.nd
  have nd2 := (List.nodup_append.1 nd).2.1
  have hsl : ∀ g ∈ hs.blk, g < wr.heap.size := fun g hg => (hlt g (by simp [hg])).2
  have htl : ∀ g ∈ ht.blk, g < wr.heap.size := fun g hg => (hlt g (by simp [hg])).2
  have hLl : ∀ g ∈ L.flatMap OTab.blks, g < wr.heap.size := fun g hg => (hlt g (by simp only [List.mem_append]; exact .inr (.inr hg))).2
  have hxl := hx.lt
  have hz := a4.size
  refine ⟨own_kb h.sch k2 fun g hg1 hg2 => nodup_disj nd (Hd.mem_blk.2 hg1) (by simp [Hd.mem_blk.2 hg2]), ?_, ?_, ?_⟩
  · rw [List.length_append, List.flatMap_append]
    simpa using ho
  · intro y hy
    simp only [List.mem_append, List.mem_singleton] at hy
    rcases hy with hy | rfl
    · exact (h.each y hy).kb k2 fun g hg1 hg2 => nodup_disj nd2 (Hd.mem_blk.2 hg2) (List.mem_flatMap.2 ⟨y, hy, hg1⟩)
    · exact (hx.kb k1 fun g hg1 hg2 => by have := (hxl g hg1).1; have := htl g (Hd.mem_blk.2 hg2); omega).down hB
  · rw [List.flatMap_append]
    have hz2 : wr.heap.size ≤ w4.heap.size := a4.size
    have e : [x].flatMap OTab.blks = x.blks := by simp
    rw [e]
    refine List.nodup_append.2 ⟨(List.nodup_append.1 nd).1, List.nodup_append.2 ⟨blk_nodup _, nodup_more (List.nodup_append.1 nd2).2.1 nx hLl (fun g hg => (hxl g hg).1), ?_⟩, ?_⟩
    · intro a ha b hb2 e
      subst e
      rcases List.mem_append.1 hb2 with h1 | h1
      · rcases hb a ha with h2 | h2
        · exact nodup_disj nd2 h2 h1
        · have := hLl a h1; omega
      · exact hn a ha h1
    · intro a ha b hb2 e
      subst e
      have := hsl a ha
      rcases List.mem_append.1 hb2 with h1 | h1
      · rcases hb a h1 with h2 | h2
        · exact nodup_disj nd ha (by simp [h2])
        · omega
      · rcases List.mem_append.1 h1 with h1 | h1
        · exact nodup_disj nd ha (List.mem_append.2 (.inr h1))
        · have := (hxl a h1).1; omega
theorem OTab.cells_of {w : World} {B : Nat} {x : OTab} {p : Tab} (h : TabIn w B x) (ht : x.t = p) : x.cells = [.string p.schema, .string p.name, .string p.owner, .slice x.hc.a p.cols.length x.hc.c, .slice x.hr.a p.rules.length x.hr.c] := by
  subst ht
  unfold OTab.cells
  rw [own_slice h.col, own_slice h.rul]
  simp [OTab.t]
theorem lvObj_row {W : World} {b : Nat} {a c : Value} (h : RowAt W b [a, c]) : (loadVar 29 ⟨b, 0, none⟩).run Tryz.prog W = .ok (.agg #[a, c]) W := by
  have e0 := h.cell (j := 0) rfl
  have e1 := h.cell (j := 1) rfl
  have h1 := run_lvObj W b 0 (by rw [e0]; rfl) (by rw [e1]; rfl)
  rw [e0, e1] at h1
  exact h1
structure OwnS (w wr : World) (o : Objs) (n3 : Nat) (hs ht : Hd) (L : List OTab) (k : Nat) : Prop where
  aft : Aft w wr
  out : RowAt wr (w.heap.size + 1) [.slice none 0 0, .slice none 0 0]
  box : RowAt wr n3 [.slice hs.a o.schemas.length hs.c, .slice ht.a k ht.c]
  obj : ObjIn wr (w.heap.size + 2) hs ht o.schemas L
  ne : ∀ g ∈ hs.blk ++ (ht.blk ++ L.flatMap OTab.blks), g ≠ n3
  is : L.map OTab.t = o.tables.take k
  n3 : w.heap.size + 2 ≤ n3
  len : L.length = k
theorem OwnS.step {w wr w4 w5 : World} {o : Objs} {n3 : Nat} {hs ht ht' : Hd} {L : List OTab} {x : OTab} {k : Nat} (s : OwnS w wr o n3 hs ht L k) (hk : k < o.tables.length) (hxt : x.t = o.tables[k]) (a4 : Aft wr w4) (hx : TabIn w4 wr.heap.size x) (nx : x.blks.Nodup)
    (hg : w4.grownBy w5 ht.v.ownBlock) (ho : w5.ownsRow (w.heap.size + 2) 76 5 ht'.v (k + 1) (L.flatMap OTab.cells ++ x.cells)) (hb : ∀ g ∈ ht'.blk, g ∈ ht.blk ∨ w4.heap.size ≤ g) (hn : ∀ g ∈ ht'.blk, g ∉ x.blks) :
    OwnS w (w5.setCell ⟨n3, 1, none⟩ (.slice ht'.a (k + 1) ht'.c)) o n3 hs ht' (L ++ [x]) (k + 1) := by
  have hz := a4.size
  have hz5 := hg.size
  have hn3 := s.n3
  have hb3 := s.box.1
  have hzz : w.heap.size + 2 ≤ wr.heap.size := by omega
  have ob := s.obj.push a4 hx nx hzz hg (by rw [s.len]; exact ho) hb hn
  have hne : ∀ g ∈ hs.blk ++ (ht'.blk ++ (L ++ [x]).flatMap OTab.blks), g ≠ n3 := by
    intro g hgm e
    subst e
    simp only [List.mem_append, List.flatMap_append] at hgm
    rcases hgm with h1 | h1 | h1 | h1
    · exact s.ne g (by simp [h1]) rfl
    · rcases hb g h1 with h2 | h2
      · exact s.ne g (by simp [h2]) rfl
      · omega
    · exact s.ne g (by simp only [List.mem_append]; exact .inr (.inr h1)) rfl
    · have := (hx.lt g (by simpa using h1)).1; omega
  have k5 : Kb (fun g => g = n3) w5 (w5.setCell ⟨n3, 1, none⟩ (.slice ht'.a (k + 1) ht'.c)) := Kb.set _ _ _ _
  have kg : Kb (fun g => ht.v.ownBlock = some g) w4 w5 := Kb.of_grown hg
  have htge : ∀ g, ht.v.ownBlock = some g → w.heap.size + 2 ≤ g := fun g h1 => (s.obj.tab.lt g h1).1
  refine ⟨k5.to_aft (kg.to_aft (s.aft.trans a4) (fun g hgl h1 => by have := htge g h1; omega)) (fun g hgl e => by omega), k5.row (kg.row (s.out.aft a4) (fun h1 => by have := htge _ h1; omega)) (by omega), ?_, ob.kb k5 (fun g hgm e => hne g hgm e), hne, ?_, hn3, by simp [s.len]⟩
  · have := (kg.row (s.box.aft a4) (fun h1 => s.ne n3 (by simp [Hd.mem_blk.2 h1]) rfl)).set 1 (.slice ht'.a (k + 1) ht'.c) (by simp)
    exact this
  · rw [List.map_append, s.is, List.take_succ_eq_append_getElem hk, ← hxt]; rfl
end Go.Proofs.YtiadkchlkdaceaaGreat

namespace Go.Proofs.YtiadkchlkdaceaaGreat
open Go.RowKit
set_option maxRecDepth 100000
set_option linter.unusedVariables false
def IntR (_ : World) (cs : List Value) (n : Int) : Prop := cs = [.int .i64 n]
theorem ints_aft {w w' : World} {A : Option Addr} {cap : Nat} {l : List Int} (hw : Aft w w') (h : SlAt w 1 IntR A cap l) : SlAt w' 1 IntR A cap l := h.aft hw fun _ _ h => h
theorem int_at {w : World} {A : Option Addr} {cap : Nat} {l : List Int} (h : SlAt w 1 IntR A cap l) {k : Nat} (hk : k < l.length) :
    ∃ b off, A = some ⟨b, off, none⟩ ∧ b < w.heap.size ∧ w.cell? ⟨b, off + k, none⟩ = some (.int .i64 l[k]) := by
  obtain ⟨b, off, cs, hA, hb, hl, rfl, hc⟩ := h.2.2 k hk
  refine ⟨b, off, hA, hb, ?_⟩
  have := hc 0 (by omega)
  simpa using this
theorem own_ints {w : World} {base : Nat} {e : TypeId} {v : Value} {l : List Int} (h : w.ownsRow base e 1 v l.length (l.map (Value.int .i64))) (hs : Small (l.length * 16)) : ∃ A cap, v = .slice A l.length cap ∧ SlAt w 1 IntR A cap l := by
  refine own_slAt (base := base) (e := e) (fun n => [Value.int .i64 n]) IntR (fun _ => rfl) ?_ (fun _ _ => rfl) hs
  have e1 : l.flatMap (fun n => [Value.int .i64 n]) = l.map (Value.int .i64) := by
    clear h hs
    induction l with
    | nil => rfl
    | cons x l ih => simp [List.flatMap_cons, ih]
  rw [e1]; exact h
theorem ne_of_at {α : Type} (l l2 : List α) (k : Nat) (h : k < l.length) (h2 : k < l2.length) (hn : ¬ l[k] = l2[k]) : ¬ l = l2 := by
  intro e; subst e; exact hn rfl
theorem eq_of_all {α : Type} (l l2 : List α) (hl : l.length = l2.length) (hp : ∀ k (h : k < l.length) (h2 : k < l2.length), l[k] = l2[k]) : l = l2 := List.ext_getElem hl hp
set_option maxHeartbeats 1000000 in
theorem eqK_any (A : Option Addr) (cap : Nat) (l : List Int) (A2 : Option Addr) (cap2 : Nat) (l2 : List Int) (w : World) (h : SlAt w 1 IntR A cap l) (h2 : SlAt w 1 IntR A2 cap2 l2) :
    Calls Tryz.prog 121 #[.slice A l.length cap, .slice A2 l2.length cap2] w fun e w' => e = .returned (.bool (decide (l = l2))) ∧ Aft w w' := by
  have hlen := h.len
  have hlen2 := h2.len
  by_cases hl : l.length = l2.length
  · have e1 : ((l.length : Int) != (l2.length : Int)) = false := by simp [hl]
    go_enter Tryz.func121, Tryz.ntmps121
    go_wp2_with fail
    go_loopw [13] (fun i wr => ∃ k : Nat, k ≤ l.length ∧ i = .int .i64 k ∧ Aft w wr ∧ ∀ j, j < k → ∀ (hj : j < l.length) (hj2 : j < l2.length), l[j] = l2[j]) (fun i _ => l.length - (intOf i).toNat)
    case atStart => exact ⟨0, Nat.zero_le _, rfl, Aft.refl _, fun j hj => absurd hj (Nat.not_lt_zero j)⟩
    case round =>
      obtain ⟨k, hk, rfl, ha, hp⟩ := hrel
      have HA := Lib.hid ha
      have HP := Lib.hid hp; clear hp
      by_cases hlt : k < l.length
      · have hlt2 : k < l2.length := by omega
        obtain ⟨b, off, rfl, hb, c0⟩ := int_at (ints_aft ha h) hlt
        obtain ⟨b2, off2, rfl, hb2, d0⟩ := int_at (ints_aft ha h2) hlt2
        clear ha
        cases heq : (l[k] != l2[k])
        · have HN := Lib.hid (ext_lt (p := fun j => ∀ (hj : j < l.length) (hj2 : j < l2.length), l[j] = l2[j]) HP.out (fun _ _ => by simpa using heq))
          go_wp2_with fail
          refine wp_region_lat (by kernel_rfl) (by kernel_rfl) ?_
          repeat (go_big_quiet_step (fail))
          refine wpQuiet_nil ?_
          intro _ hw'
          obtain ⟨x, hw''⟩ := hw'
          subst hw''
          go_wp2_with fail
          go_roundw
          case rel => exact ⟨k + 1, by omega, by go_num, HA.out.lat x, HN.out⟩
          case measure => simp [intOf]; omega
        · have HN := Lib.hid (show ¬ l = l2 from ne_of_at l l2 k hlt hlt2 (by simpa using heq))
          go_wp2_with fail
          refine wp_region_lat (by kernel_rfl) (by kernel_rfl) ?_
          repeat (go_big_quiet_step (fail))
          refine wpQuiet_nil ?_
          intro _ hw'
          obtain ⟨x, hw''⟩ := hw'
          subst hw''
          go_wp2_with fail
          go_ret
          exact ⟨by rw [decide_eq_false HN.out]; rfl, HA.out.lat x⟩
      · have HN := Lib.hid (show l = l2 from eq_of_all l l2 hl fun j hj hj2 => HP.out j (by omega) hj hj2)
        clear ha
        go_wp2_with fail
        go_ret
        exact ⟨by rw [decide_eq_true HN.out]; rfl, HA.out⟩
  · have e1 : ((l.length : Int) != (l2.length : Int)) = true := by simp; omega
    have HN := Lib.hid (show ¬ l = l2 from fun e => hl (by rw [e]))
    go_enter Tryz.func121, Tryz.ntmps121
    go_wp2_with fail
    go_ret
    exact ⟨by rw [decide_eq_false HN.out]; rfl, Aft.refl _⟩
end Go.Proofs.YtiadkchlkdaceaaGreat

namespace Go.Proofs.YtiadkchlkdaceaaGreat
open Go.RowKit
set_option maxRecDepth 100000
set_option linter.unusedVariables false
theorem Small.mono {m n : Nat} (h : Small n) (hm : m ≤ n) : Small m := Nat.le_trans hm h
theorem kinds_small {l : List Col} {cs : List ByteArray} (h : Small (cs.length * 16)) : Small ((kindsOf l cs).length * 16) := h.mono (Nat.mul_le_mul_right _ (kindsOf_le l cs))
theorem keyE_none {ts : List Tab} {l : List Col} {r : Rul} (h : tabAt ts r.schema r.table < 0) : keyE ts l r = 61 := by
  unfold keyE; split <;> simp [h]
theorem keyE_some {ts : List Tab} {l : List Col} {r : Rul} {q : Nat} (h : tabAt ts r.schema r.table = q) (hq : q < ts.length) : keyE ts l r = keyT ts[q] l r := by
  unfold keyE; rw [h]; simp [List.getElem?_eq_getElem hq]; omega
theorem keyT_none {t : Tab} {l : List Col} {r : Rul} (h : rulAt t.rules r.key < 0) : keyT t l r = 61 := by
  unfold keyT; split <;> simp [h]
theorem keyT_some {t : Tab} {l : List Col} {r : Rul} {q : Nat} (h : rulAt t.rules r.key = q) (hq : q < t.rules.length) : keyT t l r = if t.rules[q].kind == 2 then (if pairsOk l t.cols r.cols t.rules[q].cols then 0 else 63) else 61 := by
  have h0 : ¬ ((q : Int) < 0) := by omega
  unfold keyT; rw [h]; simp [List.getElem?_eq_getElem hq, h0]
theorem Aft.cell_some {w w' : World} (h : Aft w w') {a : Addr} {v : Value} (hc : w.cell? a = some v) : w'.cell? a = some v := (Below.cell h (World.block_lt_of_cell? w a hc)).trans hc
theorem keep_aft {W w w' : World} {a b : Addr} {u v : Value} (hS : Aft W w ∧ w.cell? a = some u ∧ w.cell? b = some v) (h : Aft w w') : Aft W w' ∧ w'.cell? a = some u ∧ w'.cell? b = some v :=
  ⟨hS.1.trans h, h.cell_some hS.2.1, h.cell_some hS.2.2⟩
set_option maxHeartbeats 4000000 in
theorem key_any (vs : Value) (At : Option Addr) (capt : Nat) (ts : List Tab) (A : Option Addr) (cap : Nat) (l : List Col) (r : Rul) (A2 : Option Addr) (cap2 : Nat) (w : World) (ht : SlAt w 5 TabR At capt ts) (h : SlAt w 3 ColR A cap l) (h2 : SlAt w 1 StrR A2 cap2 r.cols) :
    Calls Tryz.prog 90 #[.agg #[vs, .slice At ts.length capt], .slice A l.length cap, .agg #[.string r.name, .int .i64 r.kind, .slice A2 r.cols.length cap2, .int .i64 r.low, .int .i64 r.high, .string r.schema, .string r.table, .string r.key]] w
      fun e w' => e = .returned (.int .i64 (keyE ts l r)) ∧ Aft w w' := by
  obtain ⟨i, hi⟩ : ∃ i, tabAt ts r.schema r.table = i := ⟨_, rfl⟩
  have hlen := ht.len
  have hlen2 := h2.len
  have Cw := Lib.hid (show ∀ w', Aft w w' → Calls Tryz.prog 59 #[.agg #[vs, .slice At ts.length capt], .string r.schema, .string r.table] w' fun e w'' => e = .returned (.tuple #[.int .i64 i, .bool (decide (0 ≤ i))]) ∧ Aft w' w'' from
    fun w' a => (where_any vs At capt ts r.schema r.table w' (tabs_aft a ht)).mono fun e w'' ⟨he, hw⟩ => ⟨he.trans (by rw [← hi]), hw⟩)
  by_cases hi0 : 0 ≤ i
  · obtain ⟨q, rfl⟩ := Int.eq_ofNat_of_zero_le hi0
    have hql : q < ts.length := by have := (idxP_range (fun t => eqS t.schema r.schema && eqS t.name r.table) ts).2; unfold tabAt at hi; omega
    have HE := Lib.hid (keyE_some (l := l) hi hql)
    have dq : decide (0 ≤ (q : Int)) = true := decide_eq_true hi0
    rw [HE.out]
    clear HE hi
    go_enter Tryz.func90, Tryz.ntmps90
    go_wp2_with fail
    refine (Cw.out _ (((Aft.refl w).alloc _).alloc _)).mono ?_
    rintro e w1 ⟨rfl, a1⟩
    obtain ⟨hbo, hbr, hz, HA⟩ := aft_box2 a1
    have ht1 := tabs_aft HA.out ht
    clear a1 Cw
    obtain ⟨b, off, B2, capB2, B3, capB3, rfl, hb, c0, c1, c2, c3, c4, hcols, hrules, hss⟩ := tab_at ht1 hql
    obtain ⟨t, ht0⟩ : ∃ t, ts[q] = t := ⟨_, rfl⟩
    rw [ht0] at c0 c1 c2 c3 c4 hcols hrules hss
    have HT := Lib.hid ht0
    clear ht0
    have hlen3 := hrules.len
    obtain ⟨k, hk⟩ : ∃ k, rulAt t.rules r.key = k := ⟨_, rfl⟩
    have Cb := Lib.hid (show ∀ w', Aft w1 w' → Calls Tryz.prog 118 #[.slice B3 t.rules.length capB3, .string r.key, .func (.func 119) #[] #[]] w' fun e w'' => e = .returned (.int .i64 k) ∧ Aft w' w'' from
      fun w' a => (byRul B3 capB3 t.rules r.key w' (ruls_aft a hrules)).mono fun e w'' ⟨he, hw⟩ => ⟨he.trans (by rw [← hk]; rfl), hw⟩)
    clear ht1
    go_wp2_with fail
    refine (Cb.out _ ((Aft.refl w1).alloc _)).mono ?_
    rintro e w2 ⟨rfl, a2⟩
    obtain ⟨hbt, hft, hzt, hzkt, HA2⟩ := aft_box a2
    have HA02 := Lib.hid (HA.out.trans HA2.out)
    have hbr2 : ∀ o, w2.cell? ⟨w.heap.size + 1, o, none⟩ = _ := fun o => (Below.cell HA2.out (p := ⟨w.heap.size + 1, o, none⟩) hz.2).trans (hbr o)
    have hz2 : w.heap.size + 1 < w2.heap.size := Nat.lt_of_lt_of_le hz.2 HA2.out.size
    have hrules2 := ruls_aft HA2.out hrules
    have hcols2 := cols_aft HA2.out hcols
    have h02 := cols_aft HA02.out h
    have hs02 := strs_aft HA02.out h2
    clear a2 Cb hbo hbr c0 c1 c2 c3 c4 hrules hcols
    by_cases hk0 : 0 ≤ k
    · obtain ⟨m, rfl⟩ := Int.eq_ofNat_of_zero_le hk0
      have hml : m < t.rules.length := by have := (idxP_range (fun c => eqS c.name r.key) t.rules).2; unfold rulAt at hk; omega
      have HE := Lib.hid (keyT_some (l := l) hk hml)
      clear hk
      obtain ⟨b3, off3, D2, capD2, rfl, hb3, e0, e1, e2, e3, e4, e5, e6, e7, hcs, hss3⟩ := rul_at hrules2 hml
      obtain ⟨p, hp⟩ : ∃ p, t.rules[m] = p := ⟨_, rfl⟩
      rw [hp] at e0 e1 e2 e3 e4 e5 e6 e7 hcs hss3
      have HP := Lib.hid hp
      clear hp hrules2
      cases hk2 : (p.kind != 2)
      · have HV := Lib.hid (show keyT ts[q] l r = if pairsOk l t.cols r.cols p.cols then 0 else 63 by
          have hk3 : (p.kind == 2) = true := by simpa using hk2
          rw [HT.out, HE.out, HP.out, if_pos hk3])
        clear HE HT HP
        have hlen4 := hcs.len
        go_wp2_with fail
        have q1 : w2.cell? ⟨w.heap.size + 1, 2, none⟩ = some (.slice A2 r.cols.length cap2) := hbr2 2
        have q2 : w2.cell? ⟨w1.heap.size, 3, none⟩ = some (.slice B2 t.cols.length capB2) := hbt 3
        go_region_held3 (fun w' => Aft w2 w' ∧ w'.cell? ⟨w.heap.size + 1, 2, none⟩ = some (.slice A2 r.cols.length cap2) ∧ w'.cell? ⟨w1.heap.size, 3, none⟩ = some (.slice B2 t.cols.length capB2))
          (first | exact ⟨(Aft.refl _).drew, q1, q2⟩ | exact keep_aft (by assumption) (by assumption))
          ((go_at_call 120; refine (kinds_any _ _ _ _ _ _ _ (cols_aft (And.left (by assumption : Aft w2 _ ∧ _)) (by assumption)) (strs_aft (And.left (by assumption : Aft w2 _ ∧ _)) (by assumption))).mono ?_; rintro e w4 ⟨v4, rfl, own4, a4⟩; try have own3 := own_aft (by assumption) a4))
        all_goals
          have HA4 := Lib.hid (HA02.out.trans (And.left (by assumption : Aft w2 w4 ∧ _)))
          have hbr4 : w4.cell? ⟨w.heap.size + 1, 2, none⟩ = some (.slice A2 r.cols.length cap2) := (And.left (by assumption : Aft w2 w4 ∧ _)).cell_some q1
          obtain ⟨G3, cap3, e3, hs3⟩ := own_ints (w := w4) (l := kindsOf l r.cols) (by assumption) (kinds_small hs02.2.1)
          obtain ⟨G4, cap4, e4, hs4⟩ := own_ints (w := w4) (l := kindsOf t.cols p.cols) (by assumption) (kinds_small hcs.2.1)
          subst e3
          subst e4
          have Ce := Lib.hid (eqK_any G3 cap3 (kindsOf l r.cols) G4 cap4 (kindsOf t.cols p.cols) w4 hs3 hs4)
          have HC := Lib.hid (pairsOk_code l t.cols r.cols p.cols)
          have hkl := kindsOf_le t.cols p.cols
          obtain ⟨bq, hbq⟩ : ∃ b, decide (kindsOf l r.cols = kindsOf t.cols p.cols) = b := ⟨_, rfl⟩
          rw [hbq] at Ce HC
          clear own3 own4 a4 hs3 hs4 hbq
          by_cases d1 : p.cols.length = r.cols.length
          · have f1 : ((p.cols.length : Int) != (r.cols.length : Int)) = false := by simp [d1]
            by_cases d2 : (kindsOf t.cols p.cols).length = p.cols.length
            · have f2 : (((kindsOf t.cols p.cols).length : Int) != (p.cols.length : Int)) = false := by simp [d2]
              have HR := Lib.hid (show keyT ts[q] l r = if bq then 0 else 63 by rw [HV.out, HC.out]; simp [d1, d2])
              clear HV HC d1 d2
              cases bq
              all_goals
                go_wp2_with fail
                refine Ce.out.mono ?_
                rintro e w5 ⟨rfl, a5⟩
                have HA5 := Lib.hid (HA4.out.trans a5)
                clear a5
                go_wp2_with fail
                go_ret
                exact ⟨by rw [HR.out]; rfl, HA5.out⟩
            · have f2 : (((kindsOf t.cols p.cols).length : Int) != (p.cols.length : Int)) = true := by simp; omega
              have HR := Lib.hid (show keyT ts[q] l r = 63 by rw [HV.out, HC.out]; simp [d2])
              clear HV HC d1 d2
              go_wp2_with fail
              go_ret
              exact ⟨by rw [HR.out]; rfl, HA4.out⟩
          · have f1 : ((p.cols.length : Int) != (r.cols.length : Int)) = true := by simp; omega
            have HR := Lib.hid (show keyT ts[q] l r = 63 by rw [HV.out, HC.out]; simp [d1])
            clear HV HC d1
            go_wp2_with fail
            go_ret
            exact ⟨by rw [HR.out]; rfl, HA4.out⟩
      · have HV := Lib.hid (show keyT ts[q] l r = 61 by
          have hk3 : ¬ ((p.kind == 2) = true) := by simpa using hk2
          rw [HT.out, HE.out, HP.out, if_neg hk3])
        go_wp2_with fail
        go_ret
        exact ⟨by rw [HV.out]; rfl, HA02.out⟩
    · have hk1 : k < 0 := by omega
      have HE := Lib.hid (keyT_none (l := l) (by rw [hk]; exact hk1) : keyT t l r = 61)
      clear hk
      go_wp2_with fail
      go_ret
      exact ⟨by rw [HT.out, HE.out]; rfl, HA02.out⟩
  · have hi1 : i < 0 := by omega
    have dq : decide (0 ≤ i) = false := decide_eq_false hi0
    have HE := Lib.hid (keyE_none (l := l) (by rw [hi]; exact hi1) : keyE ts l r = 61)
    rw [HE.out]
    clear HE hi
    go_enter Tryz.func90, Tryz.ntmps90
    go_wp2_with fail
    refine (Cw.out _ (((Aft.refl w).alloc _).alloc _)).mono ?_
    rintro e w1 ⟨rfl, a1⟩
    have HA := Lib.hid ((((Aft.refl w).alloc _).alloc _).trans a1)
    clear a1
    go_wp2_with fail
    go_ret
    exact ⟨rfl, HA.out⟩
end Go.Proofs.YtiadkchlkdaceaaGreat

namespace Go.Proofs.YtiadkchlkdaceaaGreat
open Go.RowKit
set_option maxRecDepth 100000
set_option linter.unusedVariables false
set_option maxHeartbeats 1000000 in
theorem right1_any (n1 : ByteArray) (k1 : Int) (A1 : Option Addr) (m1 c1 : Nat) (lo1 hi1 : Int) (s1 t1 y1 : ByteArray) (n2 : ByteArray) (k2 : Int) (A2 : Option Addr) (m2 c2 : Nat) (lo2 hi2 : Int) (s2 t2 y2 : ByteArray) (w : World) :
    Calls Tryz.prog 92 #[.agg #[.string n1, .int .i64 k1, .slice A1 m1 c1, .int .i64 lo1, .int .i64 hi1, .string s1, .string t1, .string y1], .agg #[.string n2, .int .i64 k2, .slice A2 m2 c2, .int .i64 lo2, .int .i64 hi2, .string s2, .string t2, .string y2]] w fun e w' => e = .returned (.int .i64 (cmpS n1 n2)) ∧ Aft w w' := by
  go_enter Tryz.func92, Tryz.ntmps92
  go_wp2_with fail
  refine (compare_any _ _ _).mono ?_
  rintro e w1 ⟨rfl, rfl⟩
  go_wp2_with fail
  go_ret
  exact ⟨rfl, ((Aft.refl w).alloc _).alloc _⟩
set_option maxHeartbeats 1000000 in
theorem check1_any (n1 o1 n2 o2 : ByteArray) (w : World) :
    Calls Tryz.prog 54 #[.agg #[.string n1, .string o1], .agg #[.string n2, .string o2]] w fun e w' => e = .returned (.int .i64 (cmpS n1 n2)) ∧ Aft w w' := by
  go_enter Tryz.func54, Tryz.ntmps54
  go_wp2_with fail
  refine (compare_any _ _ _).mono ?_
  rintro e w1 ⟨rfl, rfl⟩
  go_wp2_with fail
  go_ret
  exact ⟨rfl, ((Aft.refl w).alloc _).alloc _⟩
theorem rulesRise (A : Option Addr) (cap : Nat) (l : List Rul) (w : World) (h : SlAt w 8 RulR A cap l) :
    Calls Tryz.prog 91 #[.slice A l.length cap, .func (.func 92) #[] #[]] w fun e w' => e = .returned (.bool (risesB (fun a b => cmpS a.name b.name) l)) ∧ Aft w w' :=
  risesRul A cap l 92 #[] (fun a b => cmpS a.name b.name) w h (enters (P := Tryz.prog) Tryz.func92 (by kernel_rfl) rfl) fun w' ha i hi e1 e2 h1 h2 => by
    obtain ⟨A1, c1, rfl, _⟩ := h1
    obtain ⟨A2, c2, rfl, _⟩ := h2
    exact right1_any _ _ _ _ _ _ _ _ _ _ _ _ _ _ _ _ _ _ _ _ w'
theorem schsRise (A : Option Addr) (cap : Nat) (l : List Sch) (w : World) (h : SlAt w 2 SchR A cap l) :
    Calls Tryz.prog 53 #[.slice A l.length cap, .func (.func 54) #[] #[]] w fun e w' => e = .returned (.bool (risesB (fun a b => cmpS a.name b.name) l)) ∧ Aft w w' :=
  risesSch A cap l 54 #[] (fun a b => cmpS a.name b.name) w h (enters (P := Tryz.prog) Tryz.func54 (by kernel_rfl) rfl) fun w' ha i hi => check1_any _ _ _ _ w'
theorem tabsRise (A : Option Addr) (cap : Nat) (l : List Tab) (w : World) (h : SlAt w 5 TabR A cap l) :
    Calls Tryz.prog 51 #[.slice A l.length cap, .func (.func 52) #[] #[]] w fun e w' => e = .returned (.bool (risesB (fun a b => or2 (cmpS a.schema b.schema) (cmpS a.name b.name)) l)) ∧ Aft w w' :=
  risesTab A cap l 52 #[] (fun a b => or2 (cmpS a.schema b.schema) (cmpS a.name b.name)) w h (enters (P := Tryz.prog) Tryz.func52 (by kernel_rfl) rfl) fun w' ha i hi e1 e2 h1 h2 => by
    obtain ⟨A1, c1, B1, d1, rfl, _⟩ := h1
    obtain ⟨A2, c2, B2, d2, rfl, _⟩ := h2
    exact order_any _ _ _ _ _ _ _ _ _ _ w'
set_option maxHeartbeats 8000000 in
theorem right_any (o : Objs) (t : Tab) (As : Option Addr) (caps : Nat) (At : Option Addr) (capt : Nat) (A : Option Addr) (cap : Nat) (A2 : Option Addr) (cap2 : Nat) (w : World) (hsch : SlAt w 2 SchR As caps o.schemas) (htab : SlAt w 5 TabR At capt o.tables)
    (h : SlAt w 3 ColR A cap t.cols) (h2 : SlAt w 8 RulR A2 cap2 t.rules) (hn : Small t.name.size) (ho : Small t.owner.size) :
    Calls Tryz.prog 58 #[.agg #[.slice As o.schemas.length caps, .slice At o.tables.length capt], .agg #[.string t.schema, .string t.name, .string t.owner, .slice A t.cols.length cap, .slice A2 t.rules.length cap2]] w
      fun e w' => e = .returned (.bool (rightT o t)) ∧ Aft w w' := by
  have hlen2 := h2.len
  cases hN : nameB t.name
  · have HF := Lib.hid (show rightT o t = false by simp [rightT, hN])
    go_enter Tryz.func58, Tryz.ntmps58
    go_wp2_with (go_at_call 56; refine (name_any _ _ (by first | exact hn.max | exact ho.max)).mono ?_; rintro e w' ⟨rfl, rfl⟩)
    go_ret
    exact ⟨by rw [HF.out]; rfl, ((Aft.refl _).alloc _).alloc _⟩
  cases hO : nameB t.owner
  · have HF := Lib.hid (show rightT o t = false by simp [rightT, hO])
    go_enter Tryz.func58, Tryz.ntmps58
    go_wp2_with (go_at_call 56; refine (name_any _ _ (by first | exact hn.max | exact ho.max)).mono ?_; rintro e w' ⟨rfl, rfl⟩)
    go_ret
    exact ⟨by rw [HF.out]; rfl, ((Aft.refl _).alloc _).alloc _⟩
  have HR0 := Lib.hid (show rightT o t = (colsOk t.cols && decide (t.rules.length ≤ 8) && decide (0 ≤ schAt o.schemas t.schema) && (t.rules.all (ruleOk o.tables t.cols) && risesB (fun a b => cmpS a.name b.name) t.rules)) by simp [rightT, hN, hO])
  obtain ⟨m, hm⟩ : ∃ m, colsOk t.cols = m := ⟨_, rfl⟩
  rw [hm] at HR0
  have Cm := Lib.hid (show ∀ w', Aft w w' → Calls Tryz.prog 86 #[.slice A t.cols.length cap] w' fun e w'' => e = .returned (.bool m) ∧ Aft w' w'' from
    fun w' a => (mayCols_any A cap t.cols w' (cols_aft a h)).mono fun e w'' ⟨he, hw⟩ => ⟨he.trans (by rw [← hm]), hw⟩)
  clear hm
  go_enter Tryz.func58, Tryz.ntmps58
  go_wp2_with (go_at_call 56; refine (name_any _ _ (by first | exact hn.max | exact ho.max)).mono ?_; rintro e w' ⟨rfl, rfl⟩)
  refine (Cm.out _ (((Aft.refl w).alloc _).alloc _)).mono ?_
  rintro e w1 ⟨rfl, a1⟩
  obtain ⟨hbo, hbt, hz, HA⟩ := aft_box2 a1
  have HAB := Lib.hid a1
  clear a1 Cm
  cases m
  · have HF := Lib.hid (show rightT o t = false by rw [HR0.out]; rfl)
    go_wp2_with fail
    go_ret
    exact ⟨by rw [HF.out]; rfl, HA.out⟩
  by_cases h8 : 8 < t.rules.length
  · have HF := Lib.hid (show rightT o t = false by rw [HR0.out, decide_eq_false (by omega)]; rfl)
    have h8' : (8 : Int) < (t.rules.length : Int) := by omega
    go_wp2_with fail
    go_ret
    exact ⟨by rw [HF.out]; rfl, HA.out⟩
  have h8' : (t.rules.length : Int) ≤ 8 := by omega
  have d8 : decide ((8 : Int) < (t.rules.length : Int)) = false := decide_eq_false (by omega)
  have HR1 := Lib.hid (show rightT o t = (decide (0 ≤ schAt o.schemas t.schema) && (t.rules.all (ruleOk o.tables t.cols) && risesB (fun a b => cmpS a.name b.name) t.rules)) by rw [HR0.out, decide_eq_true (show t.rules.length ≤ 8 by omega)]; rfl)
  clear HR0
  obtain ⟨i, hi⟩ : ∃ i, schAt o.schemas t.schema = i := ⟨_, rfl⟩
  rw [hi] at HR1
  have Cs := Lib.hid (show ∀ w', Aft w w' → Calls Tryz.prog 87 #[.slice As o.schemas.length caps, .string t.schema, .func (.func 88) #[] #[]] w' fun e w'' => e = .returned (.int .i64 i) ∧ Aft w' w'' from
    fun w' a => (bySch As caps o.schemas t.schema w' (schs_aft a hsch)).mono fun e w'' ⟨he, hw⟩ => ⟨he.trans (by rw [← hi]; rfl), hw⟩)
  clear hi
  go_wp2_with fail
  refine (Cs.out _ HA.out).mono ?_
  rintro e w2 ⟨rfl, a2⟩
  have HAB2 := Lib.hid (HAB.out.trans a2)
  clear a2 Cs HA HAB hbo hbt hz
  obtain ⟨hbo, hbt, hz, HA⟩ := aft_box2 HAB2.out
  by_cases hi0 : i < 0
  · have HF := Lib.hid (show rightT o t = false by rw [HR1.out, decide_eq_false (by omega)]; rfl)
    go_wp2_with fail
    go_ret
    exact ⟨by rw [HF.out]; rfl, HA.out⟩
  have hi1 : 0 ≤ i := by omega
  have HR2 := Lib.hid (show rightT o t = (t.rules.all (ruleOk o.tables t.cols) && risesB (fun a b => cmpS a.name b.name) t.rules) by rw [HR1.out, decide_eq_true hi1]; rfl)
  clear HR1
  go_wp2_with fail
  go_loopw [40] (fun i wr => ∃ k : Nat, k ≤ t.rules.length ∧ i = .int .i64 k ∧ Aft ((w.alloc (.cells #[.slice As o.schemas.length caps, .slice At o.tables.length capt] 29)).alloc (.cells #[.string t.schema, .string t.name, .string t.owner, .slice A t.cols.length cap, .slice A2 t.rules.length cap2] 76)) wr ∧ ∀ j, j < k → ∀ (hj : j < t.rules.length), ruleOk o.tables t.cols t.rules[j] = true) (fun i _ => t.rules.length - (intOf i).toNat)
  case atStart => exact ⟨0, Nat.zero_le _, rfl, HAB2.out, fun j hj => absurd hj (Nat.not_lt_zero j)⟩
  case round =>
    clear hbo hbt hz HA HAB2
    obtain ⟨k, hk, rfl, ha, hp⟩ := hrel
    obtain ⟨hbo, hbt, hz, HA⟩ := aft_box2 ha
    have HAB := Lib.hid ha
    have HP := Lib.hid hp; clear hp ha
    by_cases hlt : k < t.rules.length
    · have hr := ruls_aft HA.out h2
      obtain ⟨b, off, D2, capD2, rfl, hb, c0, c1, c2, c3, c4, c5, c6, c7, hcs, s0, s1, s2, s3⟩ := rul_at hr hlt
      obtain ⟨p, hpp⟩ : ∃ p, t.rules[k] = p := ⟨_, rfl⟩
      rw [hpp] at c0 c1 c2 c3 c4 c5 c6 c7 hcs s0 s1 s2 s3
      have HPP := Lib.hid hpp
      obtain ⟨f, hf⟩ : ∃ f, fitsOk t.cols p = f := ⟨_, rfl⟩
      obtain ⟨z, hz'⟩ : ∃ z, keyE o.tables t.cols p = z := ⟨_, rfl⟩
      have HO := Lib.hid (show ruleOk o.tables t.cols t.rules[k] = (f && !(p.kind == 4 && z != 0)) by rw [hpp]; unfold ruleOk; rw [hf, hz'])
      have Cf := Lib.hid (show ∀ w', Aft wr w' → Calls Tryz.prog 89 #[.slice A t.cols.length cap, .agg #[.string p.name, .int .i64 p.kind, .slice D2 p.cols.length capD2, .int .i64 p.low, .int .i64 p.high, .string p.schema, .string p.table, .string p.key]] w' fun e w'' => e = .returned (.bool f) ∧ Aft w' w'' from
        fun w' a => (fits_any A cap t.cols p D2 capD2 w' (cols_aft (HA.out.trans a) h) (strs_aft a hcs) s0 s1 s2 s3).mono fun e w'' ⟨he, hw⟩ => ⟨he.trans (by rw [← hf]), hw⟩)
      have Ck := Lib.hid (show ∀ w', Aft wr w' → Calls Tryz.prog 90 #[.agg #[.slice As o.schemas.length caps, .slice At o.tables.length capt], .slice A t.cols.length cap, .agg #[.string p.name, .int .i64 p.kind, .slice D2 p.cols.length capD2, .int .i64 p.low, .int .i64 p.high, .string p.schema, .string p.table, .string p.key]] w' fun e w'' => e = .returned (.int .i64 z) ∧ Aft w' w'' from
        fun w' a => (key_any _ At capt o.tables A cap t.cols p D2 capD2 w' (tabs_aft (HA.out.trans a) htab) (cols_aft (HA.out.trans a) h) (strs_aft a hcs)).mono fun e w'' ⟨he, hw⟩ => ⟨he.trans (by rw [← hz']), hw⟩)
      clear hf hz' hpp hr hcs HPP
      go_wp2_with fail
      refine (Cf.out _ ((Aft.refl wr).alloc _)).mono ?_
      rintro e w3 ⟨rfl, a3⟩
      obtain ⟨hbr, hfr, hzr, hzkr, HA3⟩ := aft_box a3
      have hbo3 : ∀ o', w3.cell? ⟨w.heap.size, o', none⟩ = _ := fun o' => (Below.cell HA3.out (p := ⟨w.heap.size, o', none⟩) hz.1).trans (hbo o')
      have hbt3 : ∀ o', w3.cell? ⟨w.heap.size + 1, o', none⟩ = _ := fun o' => (Below.cell HA3.out (p := ⟨w.heap.size + 1, o', none⟩) hz.2).trans (hbt o')
      have hz3 : w.heap.size < w3.heap.size ∧ w.heap.size + 1 < w3.heap.size := ⟨Nat.lt_of_lt_of_le hz.1 HA3.out.size, Nat.lt_of_lt_of_le hz.2 HA3.out.size⟩
      clear a3 Cf hbo hbt c0 c1 c2 c3 c4 c5 c6 c7
      cases f
      · have HF := Lib.hid (show rightT o t = false by rw [HR2.out, all_false _ _ k hlt (by rw [HO.out]; rfl)]; rfl)
        go_wp2_with fail
        go_ret
        exact ⟨by rw [HF.out]; rfl, HA.out.trans HA3.out⟩
      cases h4 : (p.kind == 4)
      · have HN := Lib.hid (ext_lt (p := fun j => ∀ (hj : j < t.rules.length), ruleOk o.tables t.cols t.rules[j] = true) HP.out (fun _ => by rw [HO.out, h4]; rfl))
        go_wp2_with fail
        go_roundw
        case rel => exact ⟨k + 1, by omega, by go_num, HAB.out.trans HA3.out, HN.out⟩
        case measure => simp [intOf]; omega
      · go_wp2_with fail
        refine (Ck.out _ HA3.out).mono ?_
        rintro e w4 ⟨rfl, a4⟩
        have HA4 := Lib.hid (HA3.out.trans a4)
        clear a4 Ck hbo3 hbt3 hbr
        cases z0 : (z != 0)
        · have HN := Lib.hid (ext_lt (p := fun j => ∀ (hj : j < t.rules.length), ruleOk o.tables t.cols t.rules[j] = true) HP.out (fun _ => by rw [HO.out, h4, z0]; rfl))
          go_wp2_with fail
          go_roundw
          case rel => exact ⟨k + 1, by omega, by go_num, HAB.out.trans HA4.out, HN.out⟩
          case measure => simp [intOf]; omega
        · have HF := Lib.hid (show rightT o t = false by rw [HR2.out, all_false _ _ k hlt (by rw [HO.out, h4, z0]; rfl)]; rfl)
          go_wp2_with fail
          go_ret
          exact ⟨by rw [HF.out]; rfl, HA.out.trans HA4.out⟩
    · have HF := Lib.hid (show rightT o t = risesB (fun a b => cmpS a.name b.name) t.rules by rw [HR2.out, all_true _ _ fun j hj => HP.out j (by omega) hj]; rfl)
      have Cr := Lib.hid (rulesRise A2 cap2 t.rules wr (ruls_aft HA.out h2))
      go_wp2_with fail
      refine Cr.out.mono ?_
      rintro e w3 ⟨rfl, a3⟩
      have HA3 := Lib.hid (HA.out.trans a3)
      clear a3
      go_wp2_with fail
      go_ret
      exact ⟨by rw [HF.out]; rfl, HA3.out⟩
end Go.Proofs.YtiadkchlkdaceaaGreat

namespace Go.Proofs.YtiadkchlkdaceaaGreat
open Go.RowKit
set_option maxRecDepth 100000
set_option linter.unusedVariables false
def checkE (o : Objs) : Int := if checkO o then 0 else 63
set_option maxHeartbeats 8000000 in
theorem check_any (o : Objs) (As : Option Addr) (caps : Nat) (At : Option Addr) (capt : Nat) (w : World) (hsch : SlAt w 2 SchR As caps o.schemas) (htab : SlAt w 5 TabR At capt o.tables) :
    Calls Tryz.prog 23 #[.agg #[.slice As o.schemas.length caps, .slice At o.tables.length capt]] w
      fun e w' => e = .returned (.int .i64 (checkE o)) ∧ Aft w w' := by
  have hlen := hsch.len
  have hlen2 := htab.len
  by_cases d1 : 8 < o.schemas.length
  · have HF := Lib.hid (show checkE o = 63 by simp [checkE, checkO, headOk, show ¬ o.schemas.length ≤ 8 by omega])
    have e1 : ¬ ((o.schemas.length : Int) ≤ 8) := by omega
    have e1' : decide ((o.schemas.length : Int) ≤ 8) = false := decide_eq_false e1
    go_enter Tryz.func23, Tryz.ntmps23
    go_wp2_with fail
    go_loopw [3, 4] (fun ok i wr => ok = .bool false ∧ i = .int .i64 0 ∧ Aft (w.alloc (.cells #[.slice As o.schemas.length caps, .slice At o.tables.length capt] 29)) wr) (fun _ _ _ => 0)
    case atStart => exact ⟨rfl, rfl, Aft.refl _⟩
    case round =>
      obtain ⟨rfl, rfl, ha⟩ := hrel
      have HAX := Lib.hid ha
      clear ha
      go_wp2_with fail
      go_loopw [3, 6] (fun ok i wr => ok = .bool false ∧ i = .int .i64 0 ∧ Aft (w.alloc (.cells #[.slice As o.schemas.length caps, .slice At o.tables.length capt] 29)) wr) (fun _ _ _ => 0)
      case atStart => exact ⟨rfl, rfl, HAX.out⟩
      case round =>
        obtain ⟨rfl, rfl, ha⟩ := hrel
        have HAY := Lib.hid ha
        clear ha
        go_wp2_with fail
        go_ret
        exact ⟨by rw [HF.out]; rfl, ((Aft.refl w).alloc _).trans HAY.out⟩
  have e1 : (o.schemas.length : Int) ≤ 8 := by omega
  have e1' : decide ((o.schemas.length : Int) ≤ 8) = true := decide_eq_true e1
  by_cases d2 : 64 < o.tables.length
  · have HF := Lib.hid (show checkE o = 63 by simp [checkE, checkO, headOk, show ¬ o.tables.length ≤ 64 by omega])
    have e2 : ¬ ((o.tables.length : Int) ≤ 64) := by omega
    have e2' : decide ((o.tables.length : Int) ≤ 64) = false := decide_eq_false e2
    go_enter Tryz.func23, Tryz.ntmps23
    go_wp2_with fail
    go_loopw [3, 4] (fun ok i wr => ok = .bool false ∧ i = .int .i64 0 ∧ Aft (w.alloc (.cells #[.slice As o.schemas.length caps, .slice At o.tables.length capt] 29)) wr) (fun _ _ _ => 0)
    case atStart => exact ⟨rfl, rfl, Aft.refl _⟩
    case round =>
      obtain ⟨rfl, rfl, ha⟩ := hrel
      have HAX := Lib.hid ha
      clear ha
      go_wp2_with fail
      go_loopw [3, 6] (fun ok i wr => ok = .bool false ∧ i = .int .i64 0 ∧ Aft (w.alloc (.cells #[.slice As o.schemas.length caps, .slice At o.tables.length capt] 29)) wr) (fun _ _ _ => 0)
      case atStart => exact ⟨rfl, rfl, HAX.out⟩
      case round =>
        obtain ⟨rfl, rfl, ha⟩ := hrel
        have HAY := Lib.hid ha
        clear ha
        go_wp2_with fail
        go_ret
        exact ⟨by rw [HF.out]; rfl, ((Aft.refl w).alloc _).trans HAY.out⟩
  have e2 : (o.tables.length : Int) ≤ 64 := by omega
  have e2' : decide ((o.tables.length : Int) ≤ 64) = true := decide_eq_true e2
  obtain ⟨g1, hg1⟩ : ∃ g, risesB (fun a b => or2 (cmpS a.schema b.schema) (cmpS a.name b.name)) o.tables = g := ⟨_, rfl⟩
  obtain ⟨g2, hg2⟩ : ∃ g, risesB (fun a b => cmpS a.name b.name) o.schemas = g := ⟨_, rfl⟩
  have HR := Lib.hid (show checkE o = if (g1 && g2 && (o.schemas.all (schOk o) && o.tables.all (rightT o))) then 0 else 63 by simp [checkE, checkO, headOk, hg1, hg2, show o.schemas.length ≤ 8 by omega, show o.tables.length ≤ 64 by omega])
  have C1 := Lib.hid (show ∀ w', Aft w w' → Calls Tryz.prog 51 #[.slice At o.tables.length capt, .func (.func 52) #[] #[]] w' fun e w'' => e = .returned (.bool g1) ∧ Aft w' w'' from
    fun w' a => (tabsRise At capt o.tables w' (tabs_aft a htab)).mono fun e w'' ⟨he, hw⟩ => ⟨he.trans (by rw [← hg1]), hw⟩)
  have C2 := Lib.hid (show ∀ w', Aft w w' → Calls Tryz.prog 53 #[.slice As o.schemas.length caps, .func (.func 54) #[] #[]] w' fun e w'' => e = .returned (.bool g2) ∧ Aft w' w'' from
    fun w' a => (schsRise As caps o.schemas w' (schs_aft a hsch)).mono fun e w'' ⟨he, hw⟩ => ⟨he.trans (by rw [← hg2]), hw⟩)
  clear hg1 hg2
  go_enter Tryz.func23, Tryz.ntmps23
  go_wp2_with fail
  refine (C1.out _ ((Aft.refl w).alloc _)).mono ?_
  rintro e w1 ⟨rfl, a1⟩
  obtain ⟨hbox, hfr, hz, hzk, HA⟩ := aft_box a1
  have HAB := Lib.hid a1
  clear a1 C1
  cases g1
  · have HF := Lib.hid (show checkE o = 63 by rw [HR.out]; rfl)
    go_wp2_with fail
    go_loopw [3, 4] (fun ok i wr => ok = .bool false ∧ i = .int .i64 0 ∧ Aft (w.alloc (.cells #[.slice As o.schemas.length caps, .slice At o.tables.length capt] 29)) wr) (fun _ _ _ => 0)
    case atStart => exact ⟨rfl, rfl, HAB.out⟩
    case round =>
      obtain ⟨rfl, rfl, ha⟩ := hrel
      have HAX := Lib.hid ha
      clear ha
      go_wp2_with fail
      go_loopw [3, 6] (fun ok i wr => ok = .bool false ∧ i = .int .i64 0 ∧ Aft (w.alloc (.cells #[.slice As o.schemas.length caps, .slice At o.tables.length capt] 29)) wr) (fun _ _ _ => 0)
      case atStart => exact ⟨rfl, rfl, HAX.out⟩
      case round =>
        obtain ⟨rfl, rfl, ha⟩ := hrel
        have HAY := Lib.hid ha
        clear ha
        go_wp2_with fail
        go_ret
        exact ⟨by rw [HF.out]; rfl, ((Aft.refl w).alloc _).trans HAY.out⟩
  go_wp2_with fail
  refine (C2.out _ HA.out).mono ?_
  rintro e w2 ⟨rfl, a2⟩
  have HAB2 := Lib.hid (HAB.out.trans a2)
  clear a2 C2 HAB HA hbox hfr hz hzk
  obtain ⟨hbox, hfr, hz, hzk, HA⟩ := aft_box HAB2.out
  cases g2
  · have HF := Lib.hid (show checkE o = 63 by rw [HR.out]; rfl)
    go_wp2_with fail
    go_loopw [3, 4] (fun ok i wr => ok = .bool false ∧ i = .int .i64 0 ∧ Aft (w.alloc (.cells #[.slice As o.schemas.length caps, .slice At o.tables.length capt] 29)) wr) (fun _ _ _ => 0)
    case atStart => exact ⟨rfl, rfl, HAB2.out⟩
    case round =>
      obtain ⟨rfl, rfl, ha⟩ := hrel
      have HAX := Lib.hid ha
      clear ha
      go_wp2_with fail
      go_loopw [3, 6] (fun ok i wr => ok = .bool false ∧ i = .int .i64 0 ∧ Aft (w.alloc (.cells #[.slice As o.schemas.length caps, .slice At o.tables.length capt] 29)) wr) (fun _ _ _ => 0)
      case atStart => exact ⟨rfl, rfl, HAX.out⟩
      case round =>
        obtain ⟨rfl, rfl, ha⟩ := hrel
        have HAY := Lib.hid ha
        clear ha
        go_wp2_with fail
        go_ret
        exact ⟨by rw [HF.out]; rfl, ((Aft.refl w).alloc _).trans HAY.out⟩
  have HR2 := Lib.hid (show checkE o = if (o.schemas.all (schOk o) && o.tables.all (rightT o)) then 0 else 63 by rw [HR.out]; rfl)
  clear HR
  go_wp2_with fail
  go_loopw [3, 4] (fun ok i wr => ∃ (k : Nat) (b : Bool), k ≤ o.schemas.length ∧ i = .int .i64 k ∧ ok = .bool b ∧ Aft (w.alloc (.cells #[.slice As o.schemas.length caps, .slice At o.tables.length capt] 29)) wr ∧ (b = true → ∀ j, j < k → ∀ (hj : j < o.schemas.length), schOk o o.schemas[j] = true) ∧ (b = false → checkE o = 63)) (fun ok i _ => o.schemas.length - (intOf i).toNat)
  case atStart => exact ⟨0, true, Nat.zero_le _, rfl, rfl, HAB2.out, fun _ j hj => absurd hj (Nat.not_lt_zero j), fun h => by cases h⟩
  case round =>
    clear hbox hfr hz hzk HA HAB2
    obtain ⟨k, b, hk, rfl, rfl, ha, hp, hq⟩ := hrel
    obtain ⟨hbox, hfr, hz, hzk, HA⟩ := aft_box ha
    have HAB := Lib.hid ha
    clear ha
    cases b
    · have HF := Lib.hid (hq rfl)
      clear hp hq
      go_wp2_with fail
      go_loopw [3, 6] (fun ok i wr => ok = .bool false ∧ i = .int .i64 0 ∧ Aft (w.alloc (.cells #[.slice As o.schemas.length caps, .slice At o.tables.length capt] 29)) wr) (fun _ _ _ => 0)
      case atStart => exact ⟨rfl, rfl, HAB.out⟩
      case round =>
        obtain ⟨rfl, rfl, ha⟩ := hrel
        have HAY := Lib.hid ha
        clear ha
        go_wp2_with fail
        go_ret
        exact ⟨by rw [HF.out]; rfl, ((Aft.refl w).alloc _).trans HAY.out⟩
    have HP := Lib.hid (hp rfl)
    clear hp hq
    by_cases hlt : k < o.schemas.length
    · have hss := schs_aft HA.out hsch
      obtain ⟨b, off, rfl, hb, c0, c1, s0, s1⟩ := sch_at hss hlt
      obtain ⟨p, hpp⟩ : ∃ p, o.schemas[k] = p := ⟨_, rfl⟩
      rw [hpp] at c0 c1 s0 s1
      have HO := Lib.hid (show schOk o o.schemas[k] = (nameB p.name && nameB p.owner && decide (within o.tables p.name ≤ 8)) by rw [hpp]; rfl)
      clear hpp hss
      cases hN : nameB p.name
      · have HF := Lib.hid (show checkE o = 63 by rw [HR2.out, all_false _ _ k hlt (by rw [HO.out, hN]; rfl)]; rfl)
        go_wp2_with (go_at_call 56; refine (name_any _ _ (by first | exact s0.max | exact s1.max)).mono ?_; rintro e w' ⟨rfl, rfl⟩)
        go_roundw
        case rel => exact ⟨k + 1, false, by omega, by go_num, rfl, HAB.out.alloc _, (fun h => by cases h), fun _ => HF.out⟩
        case measure => simp [intOf]; omega
      cases hO : nameB p.owner
      · have HF := Lib.hid (show checkE o = 63 by rw [HR2.out, all_false _ _ k hlt (by rw [HO.out, hN, hO]; rfl)]; rfl)
        go_wp2_with (go_at_call 56; refine (name_any _ _ (by first | exact s0.max | exact s1.max)).mono ?_; rintro e w' ⟨rfl, rfl⟩)
        go_roundw
        case rel => exact ⟨k + 1, false, by omega, by go_num, rfl, HAB.out.alloc _, (fun h => by cases h), fun _ => HF.out⟩
        case measure => simp [intOf]; omega
      obtain ⟨n, hn⟩ : ∃ n, within o.tables p.name = n := ⟨_, rfl⟩
      have Cw := Lib.hid (show ∀ w', Aft w w' → Calls Tryz.prog 57 #[.agg #[.slice (some ⟨b, off, none⟩) o.schemas.length caps, .slice At o.tables.length capt], .string p.name] w' fun e w'' => e = .returned (.int .i64 n) ∧ Aft w' w'' from
        fun w' a => (within_any _ At capt o.tables p.name w' (tabs_aft a htab)).mono fun e w'' ⟨he, hw⟩ => ⟨he.trans (by rw [← hn]), hw⟩)
      have HO2 := Lib.hid (show schOk o o.schemas[k] = decide (n ≤ 8) by rw [HO.out, hN, hO, hn]; rfl)
      clear HO hn
      go_wp2_with (go_at_call 56; refine (name_any _ _ (by first | exact s0.max | exact s1.max)).mono ?_; rintro e w' ⟨rfl, rfl⟩)
      refine (Cw.out _ (HA.out.alloc _)).mono ?_
      rintro e w3 ⟨rfl, a3⟩
      have HAB3 := Lib.hid ((HAB.out.alloc _).trans a3)
      clear a3 Cw
      by_cases h8 : n ≤ 8
      · have h8' : (n : Int) ≤ 8 := by omega
        have HN := Lib.hid (ext_lt (p := fun j => ∀ (hj : j < o.schemas.length), schOk o o.schemas[j] = true) HP.out (fun _ => by rw [HO2.out]; exact decide_eq_true h8))
        go_wp2_with fail
        go_roundw
        case rel => exact ⟨k + 1, true, by omega, by go_num, by simp, HAB3.out, fun _ => HN.out, fun h => by cases h⟩
        case measure => simp [intOf]; omega
      · have h8' : ¬ (n : Int) ≤ 8 := by omega
        have HF := Lib.hid (show checkE o = 63 by rw [HR2.out, all_false _ _ k hlt (by rw [HO2.out]; exact decide_eq_false h8)]; rfl)
        go_wp2_with fail
        go_roundw
        case rel => exact ⟨k + 1, false, by omega, by go_num, by simp [h8'], HAB3.out, (fun h => by cases h), fun _ => HF.out⟩
        case measure => simp [intOf]; omega
    have HR3 := Lib.hid (show checkE o = if o.tables.all (rightT o) then 0 else 63 by rw [HR2.out, all_true _ _ fun j hj => HP.out j (by omega) hj]; rfl)
    clear HP HR2
    go_wp2_with fail
    go_loopw [3, 6] (fun ok i wr => ∃ (k : Nat) (b : Bool), k ≤ o.tables.length ∧ i = .int .i64 k ∧ ok = .bool b ∧ Aft (w.alloc (.cells #[.slice As o.schemas.length caps, .slice At o.tables.length capt] 29)) wr ∧ (b = true → ∀ j, j < k → ∀ (hj : j < o.tables.length), rightT o o.tables[j] = true) ∧ (b = false → checkE o = 63)) (fun ok i _ => o.tables.length - (intOf i).toNat)
    case atStart => exact ⟨0, true, Nat.zero_le _, rfl, rfl, HAB.out, fun _ j hj => absurd hj (Nat.not_lt_zero j), fun h => by cases h⟩
    case round =>
      clear hbox hfr hz hzk HA HAB
      obtain ⟨k2, b, hk2, rfl, rfl, ha, hp, hq⟩ := hrel
      obtain ⟨hbox, hfr, hz, hzk, HA⟩ := aft_box ha
      have HAB := Lib.hid ha
      clear ha
      cases b
      · have HF := Lib.hid (hq rfl)
        clear hp hq
        go_wp2_with fail
        go_ret
        exact ⟨by rw [HF.out]; rfl, HA.out⟩
      have HP := Lib.hid (hp rfl)
      clear hp hq
      by_cases hlt2 : k2 < o.tables.length
      · have htt := tabs_aft HA.out htab
        have hss := schs_aft HA.out hsch
        obtain ⟨b, off, B2, capB2, B3, capB3, rfl, hb, c0, c1, c2, c3, c4, hcols, hrules, s0, s1, s2⟩ := tab_at htt hlt2
        obtain ⟨p, hpp⟩ : ∃ p, o.tables[k2] = p := ⟨_, rfl⟩
        rw [hpp] at c0 c1 c2 c3 c4 hcols hrules s0 s1 s2
        obtain ⟨f, hf⟩ : ∃ f, rightT o p = f := ⟨_, rfl⟩
        have HO := Lib.hid (show rightT o o.tables[k2] = f by rw [hpp]; exact hf)
        have Cr := Lib.hid (show ∀ x : Lat wr, Calls Tryz.prog 58 #[.agg #[.slice As o.schemas.length caps, .slice (some ⟨b, off, none⟩) o.tables.length capt], .agg #[.string p.schema, .string p.name, .string p.owner, .slice B2 p.cols.length capB2, .slice B3 p.rules.length capB3]] (lat wr x) fun e w' => e = .returned (.bool f) ∧ Aft (lat wr x) w' from
          fun x => (right_any o p As caps _ capt B2 capB2 B3 capB3 (lat wr x) (schs_aft ((Aft.refl wr).lat x) hss) (tabs_aft ((Aft.refl wr).lat x) htt) (cols_aft ((Aft.refl wr).lat x) hcols) (ruls_aft ((Aft.refl wr).lat x) hrules) s1 s2).mono fun e w'' ⟨he, hw⟩ => ⟨he.trans (by rw [← hf]), hw⟩)
        clear hf hpp htt hss hcols hrules
        go_wp2_with fail
        refine wp_region_lat (by kernel_rfl) (by kernel_rfl) ?_
        repeat (go_big_quiet_step ((first | (go_at_call 58; exact Calls.lat_of (Cr.out _)))))
        refine wpQuiet_nil ?_
        intro _ hw'
        obtain ⟨x, hw''⟩ := hw'
        subst hw''
        cases f
        · have HF := Lib.hid (show checkE o = 63 by rw [HR3.out, all_false _ _ k2 hlt2 HO.out]; rfl)
          go_wp2_with fail
          go_roundw
          case rel => exact ⟨k2 + 1, false, by omega, by go_num, rfl, HAB.out.lat x, (fun h => by cases h), fun _ => HF.out⟩
          case measure => simp [intOf]; omega
        · have HN := Lib.hid (ext_lt (p := fun j => ∀ (hj : j < o.tables.length), rightT o o.tables[j] = true) HP.out (fun _ => HO.out))
          go_wp2_with fail
          go_roundw
          case rel => exact ⟨k2 + 1, true, by omega, by go_num, rfl, HAB.out.lat x, fun _ => HN.out, fun h => by cases h⟩
          case measure => simp [intOf]; omega
      · have HF := Lib.hid (show checkE o = 0 by rw [HR3.out, all_true _ _ fun j hj => HP.out j (by omega) hj]; rfl)
        go_wp2_with fail
        go_ret
        exact ⟨by rw [HF.out]; rfl, HA.out⟩
end Go.Proofs.YtiadkchlkdaceaaGreat

namespace Go.Proofs.YtiadkchlkdaceaaGreat
open Go.RowKit Go.Deep
set_option maxRecDepth 100000
set_option linter.unusedVariables false
/-- right objects are no great ones -/
theorem check_mod {o : Objs} (h : checkO o = true) : ModO o := by
  unfold checkO headOk at h
  simp only [Bool.and_eq_true, decide_eq_true_eq, List.all_eq_true] at h
  obtain ⟨⟨⟨⟨h1, h2⟩, _⟩, _⟩, _, h3⟩ := h
  refine ⟨by omega, by omega, fun t ht => ?_⟩
  have h4 := h3 t ht
  unfold rightT at h4
  simp only [Bool.and_eq_true, decide_eq_true_eq, List.all_eq_true] at h4
  obtain ⟨⟨⟨⟨_, h5⟩, h6⟩, _⟩, h7, _⟩ := h4
  have h8 : t.cols.length ≤ 8 := by unfold colsOk at h5; simp only [Bool.and_eq_true, decide_eq_true_eq] at h5; exact h5.1.2
  refine ⟨by omega, by omega, fun r hr => ?_⟩
  have h9 := h7 r hr
  unfold ruleOk at h9
  simp only [Bool.and_eq_true] at h9
  have h1 : rcOk t.cols r.cols = true := by have hf := h9.1; unfold fitsOk at hf; simp only [Bool.and_eq_true] at hf; exact hf.1.1.1
  have := rc_len t.cols r.cols h1
  omega
/-- what comes out: r's objects in memory of their own, and an error's number -/
def ObjP (w : World) (r : Objs × Int) (e : Ending) (w' : World) : Prop :=
  ∃ hs ht L, L.map OTab.t = r.1.tables ∧ e = .returned (.tuple #[.agg #[.slice hs.a r.1.schemas.length hs.c, .slice ht.a r.1.tables.length ht.c], .int .i64 r.2]) ∧ Aft w w' ∧ ObjIn w' w.heap.size hs ht r.1.schemas L
end Go.Proofs.YtiadkchlkdaceaaGreat

