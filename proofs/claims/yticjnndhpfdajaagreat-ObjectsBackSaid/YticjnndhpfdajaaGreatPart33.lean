/- Contracts of the program, part 33. -/
import Derived.Test.YticjnndhpfdajaaGreatPart32
import Derived.Test.YticjnndhpfdajaaGreatPart23
import Derived.Test.YticjnndhpfdajaaGreatPart15
import Derived.Test.YticjnndhpfdajaaGreatPart18
import Derived.Test.YticjnndhpfdajaaGreatPart20
/- Plain: what is added and dropped again is as if it had not been. -/
namespace Go.Proofs.YticjnndhpfdajaaGreat
set_option linter.unusedVariables false
theorem idxP_map {α β : Type} (f : α → β) (p : β → Bool) : ∀ l : List α, idxP (fun x => p (f x)) l = idxP p (l.map f)
  | [] => rfl
  | x :: l => by
    show (if p (f x) then (0 : Int) else if idxP (fun x => p (f x)) l < 0 then -1 else idxP (fun x => p (f x)) l + 1) = (if p (f x) then (0 : Int) else if idxP p (l.map f) < 0 then -1 else idxP p (l.map f) + 1)
    rw [idxP_map f p l]
theorem tabAt_set {ts : List Tab} {q : Nat} {t : Tab} (hq : q < ts.length) (hs : t.schema = ts[q].schema) (hn : t.name = ts[q].name) (s n : ByteArray) : tabAt (ts.set q t) s n = tabAt ts s n := by
  have m : ∀ l : List Tab, tabAt l s n = idxP (fun x : ByteArray × ByteArray => eqS x.1 s && eqS x.2 n) (l.map fun t => (t.schema, t.name)) := fun l => idxP_map (fun t : Tab => (t.schema, t.name)) (fun x => eqS x.1 s && eqS x.2 n) l
  rw [m, m, map_set_same _ _ _ _ hq (by simp [hs, hn])]
theorem idxP_neg9 {α : Type} {p : α → Bool} {l : List α} (h : idxP p l < 0) : ∀ x ∈ l, p x = false := fun x hx => by
  have h9 := idxP_find p l
  rw [if_pos h] at h9
  have := List.find?_eq_none.1 h9 x hx
  simpa using this
/-- a table changed and changed back -/
theorem back_tab {o : Objs} {s n : ByteArray} {f g : Tab → Tab × Int} (hz : (tabR o s n f).2 = 0)
    (hk : ∀ (q : Nat) (hq : q < o.tables.length), tabAt o.tables s n = q → (f o.tables[q]).2 = 0 → (f o.tables[q]).1.schema = o.tables[q].schema ∧ (f o.tables[q]).1.name = o.tables[q].name ∧ g (f o.tables[q]).1 = (o.tables[q], 0)) : tabR (tabR o s n f).1 s n g = (o, 0) := by
  have hr := idxP_range (fun t : Tab => eqS t.schema s && eqS t.name n) o.tables
  by_cases h0 : tabAt o.tables s n < 0
  · rw [tabR_none h0] at hz; cases hz
  · obtain ⟨q, hq⟩ : ∃ q : Nat, tabAt o.tables s n = q := ⟨(tabAt o.tables s n).toNat, by omega⟩
    have hql : q < o.tables.length := by unfold tabAt at hq; omega
    rw [tabR_some hq hql] at hz ⊢
    by_cases h1 : (f o.tables[q]).2 = 0
    · rw [if_pos h1]
      obtain ⟨e1, e2, e3⟩ := hk q hql hq h1
      have hq2 : tabAt (o.tables.set q (f o.tables[q]).1) s n = q := by rw [tabAt_set hql e1 e2, hq]
      have hl2 : q < (o.tables.set q (f o.tables[q]).1).length := by simpa using hql
      have e4 : (o.tables.set q (f o.tables[q]).1)[q] = (f o.tables[q]).1 := by simp
      have h9 := tabR_some (o := ⟨o.schemas, o.tables.set q (f o.tables[q]).1⟩) (f := g) (s := s) (n := n) hq2 hl2
      rw [h9]
      simp only [e4, e3, if_true]
      rw [List.set_set, List.set_getElem_self]
    · rw [if_neg h1] at hz; exact absurd hz h1
theorem back_col {o : Objs} {s n : ByteArray} {c : Col} (h : checkO o = true) (hz : (tabR o s n (addColF c)).2 = 0) : tabR (tabR o s n (addColF c)).1 s n (dropColF c.name) = (o, 0) := by
  have g := (good_iff o).1 h
  refine back_tab hz fun q hq hat hzq => ?_
  have gq := g.tab _ (List.getElem_mem hq)
  have hcols := (colsOk_iff _).1 gq.cols
  unfold addColF at hzq ⊢
  by_cases c1 : (!colOk c || !c.null) = true
  · rw [if_pos c1] at hzq; cases hzq
  · by_cases c2 : 0 ≤ colAt o.tables[q].cols c.name
    · rw [if_neg c1, if_pos c2] at hzq; cases hzq
    · by_cases c3 : 8 ≤ o.tables[q].cols.length
      · rw [if_neg c1, if_neg c2, if_pos c3] at hzq; cases hzq
      · rw [if_neg c1, if_neg c2, if_neg c3]
        refine ⟨rfl, rfl, ?_⟩
        have hno := idxP_neg9 (p := fun x : Col => eqS x.name c.name) (l := o.tables[q].cols) (by unfold colAt at c2; omega)
        have hat2 : colAt (o.tables[q].cols ++ [c]) c.name = (o.tables[q].cols.length : Int) := idxP_some _ _ _ (by simp) (by simp [eqS_refl]) (fun i hi => by
          rw [List.getElem_append_left hi]
          exact hno _ (List.getElem_mem hi))
        have hus : usedC { o.tables[q] with cols := o.tables[q].cols ++ [c] } c.name = false := by
          unfold usedC
          have h1 := hcols.1.1
          rw [Bool.or_eq_false_iff]
          refine ⟨by simp; intro e; rw [e] at h1; simp at h1, ?_⟩
          rw [List.any_eq_false]
          intro r hr hx
          obtain ⟨a, ha, ea⟩ := List.any_eq_true.1 hx
          obtain ⟨k, hk⟩ := fits_cols (gq.fit r hr) a ha
          obtain ⟨c', hc', e'⟩ := kindOf_mem hk
          have := hno c' hc'
          rw [e', (eqS_iff9 _ _).1 ea, eqS_refl] at this
          cases this
        unfold dropColF
        simp only
        rw [hat2, if_neg (by omega), hus]
        simp [List.eraseIdx_append_of_length_le]
theorem ins_get {α : Type} (l : List α) (p : Nat) (x : α) (hp : p ≤ l.length) (h : p < (insAt l p x).length) : (insAt l p x)[p] = x := by
  have hlen : (l.take p).length = p := by rw [List.length_take]; omega
  have : (insAt l p x)[p]? = some x := by
    unfold insAt
    rw [List.append_assoc, List.getElem?_append_right (by omega)]
    simp [hlen]
  rw [List.getElem?_eq_getElem h] at this
  exact Option.some.inj this
theorem rul_ins {l : List Rul} {r : Rul} (h : risesB cmpRl l = true) (hn : rulAt l r.name < 0) : rulAt (insAt l (posB cmpRl l r) r) r.name = (posB cmpRl l r : Int) ∧ (insAt l (posB cmpRl l r) r).eraseIdx (posB cmpRl l r) = l := by
  have hp := posB_le cmpRl l r
  have hlen : (l.take (posB cmpRl l r)).length = posB cmpRl l r := by rw [List.length_take]; omega
  have hno := idxP_neg9 (p := fun c : Rul => eqS c.name r.name) (l := l) hn
  constructor
  · unfold rulAt insAt
    refine idxP_some _ _ _ (by simp; omega) ?_ (fun i hi => ?_)
    · rw [List.getElem_append_left (by simp; omega), List.getElem_append_right (by omega)]
      simp [hlen, eqS_refl]
    · rw [List.getElem_append_left (by simp; omega), List.getElem_append_left (by omega), List.getElem_take]
      exact hno _ (List.getElem_mem _)
  · unfold insAt
    rw [List.append_assoc, List.eraseIdx_append_of_length_le (by omega), hlen, Nat.sub_self]
    simp
theorem back_rul {o : Objs} {s n : ByteArray} {r : Rul} (h : checkO o = true) (hz : (tabR o s n (addRulF o.tables r)).2 = 0) : tabR (tabR o s n (addRulF o.tables r)).1 s n (dropRulF (tabR o s n (addRulF o.tables r)).1.tables s n r.name) = (o, 0) := by
  have g := (good_iff o).1 h
  have gx := (good_iff _).1 (chk_addRul h hz)
  obtain ⟨X, hX⟩ : ∃ X, (tabR o s n (addRulF o.tables r)).1.tables = X := ⟨_, rfl⟩
  have hr9 := idxP_range (fun t : Tab => eqS t.schema s && eqS t.name n) o.tables
  refine back_tab hz fun q hq hat hzq => ?_
  have gq := g.tab _ (List.getElem_mem hq)
  obtain ⟨hqs, hqn⟩ := tabAt_at hat hq
  have hXs : (tabR o s n (addRulF o.tables r)).1.tables = o.tables.set q (addRulF o.tables r o.tables[q]).1 := by rw [tabR_some hat hq, if_pos hzq]
  rw [hXs]
  unfold addRulF at hzq ⊢
  by_cases c1 : fitsOk o.tables[q].cols r = true
  · by_cases c2 : 0 ≤ rulAt o.tables[q].rules r.name
    · rw [if_neg (by rw [c1]; simp), if_pos c2] at hzq; cases hzq
    · by_cases c3 : 8 ≤ o.tables[q].rules.length
      · rw [if_neg (by rw [c1]; simp), if_neg c2, if_pos c3] at hzq; cases hzq
      · by_cases c4 : (r.kind == 4 && keyE o.tables o.tables[q].cols r != 0) = true
        · rw [if_neg (by rw [c1]; simp), if_neg c2, if_neg c3, if_pos c4] at hzq
          simp only [Bool.and_eq_true, bne_iff_ne] at c4
          exact absurd hzq c4.2
        · rw [if_neg (by rw [c1]; simp), if_neg c2, if_neg c3, if_neg c4]
          refine ⟨rfl, rfl, ?_⟩
          obtain ⟨e1, e2⟩ := rul_ins (r := r) gq.rises (by omega)
          have hno := idxP_neg9 (p := fun c : Rul => eqS c.name r.name) (l := o.tables[q].rules) (by unfold rulAt at c2; omega)
          have hpl : posB cmpRl o.tables[q].rules r < (insAt o.tables[q].rules (posB cmpRl o.tables[q].rules r) r).length := by rw [insAt_len _ _ _ (posB_le _ _ _)]; have := posB_le cmpRl o.tables[q].rules r; omega
          unfold dropRulF
          simp only
          rw [e1, if_neg (by omega), if_neg, Int.toNat_natCast, e2]
          intro hany
          obtain ⟨⟨x, r'⟩, hm, hh⟩ := List.any_eq_true.1 hany
          unfold forP forT at hm
          obtain ⟨y, hy, hm⟩ := List.mem_flatMap.1 hm
          obtain ⟨r2, hr2, he⟩ := List.mem_map.1 hm
          obtain ⟨hr2, hnm⟩ := List.mem_filter.1 hr2
          cases he
          have hh : hitK _ r.name r' = true := hh
          unfold hitK at hh
          rw [Bool.and_eq_true, beq_iff_eq] at hh
          obtain ⟨hk1, hk2⟩ := hh
          have hkn := (eqS_iff9 _ _).1 hk1
          have hkd := rulKind_at (t := { o.tables[q] with rules := insAt o.tables[q].rules (posB cmpRl o.tables[q].rules r) r }) e1 hpl
          rw [hkd] at hk2
          have hget := ins_get o.tables[q].rules (posB cmpRl o.tables[q].rules r) r (posB_le _ _ _) hpl
          have hget' : (({ o.tables[q] with rules := insAt o.tables[q].rules (posB cmpRl o.tables[q].rules r) r } : Tab).rules[posB cmpRl o.tables[q].rules r]'hpl) = r := hget
          rw [hget'] at hk2
          -- the new rule is a key; a rule of the old objects would name it
          have h4 : r'.kind = 4 ∧ r'.schema = s ∧ r'.table = n := by
            unfold namesR at hnm
            simp only [Bool.and_eq_true, beq_iff_eq, eqS_iff9] at hnm
            exact ⟨hnm.1, hnm.2.1, hnm.2.2⟩
          have hold : ∃ z ∈ o.tables, r' ∈ z.rules := by
            rcases mem_set_or hy with e | e
            · rw [e] at hr2
              rcases mem_insAt.1 hr2 with e3 | e3
              · rw [e3, hk2] at h4; exact absurd h4.1 (by decide)
              · exact ⟨o.tables[q], List.getElem_mem hq, e3⟩
            · exact ⟨_, e, hr2⟩
          obtain ⟨z, hz9, hz8⟩ := hold
          obtain ⟨t0, ht0, f1, f2, k0, hk0, f3, _⟩ := (g.tab z hz9).key r' hz8 h4.1
          have : t0 = o.tables[q] := rises_uniq preTb g.rt ht0 (List.getElem_mem hq) (cmpTb_zero.2 ⟨by rw [f1, h4.2.1, hqs], by rw [f2, h4.2.2, hqn]⟩)
          rw [this] at hk0
          have := hno k0 hk0
          rw [f3, hkn, eqS_refl] at this
          cases this
  · rw [if_pos (by simpa using c1)] at hzq; cases hzq
theorem back_sch {o : Objs} {nm ow : ByteArray} (h : checkO o = true) (hz : (addSchR nm ow o).2 = 0) : dropSchR nm (addSchR nm ow o).1 = (o, 0) := by
  have g := (good_iff o).1 h
  unfold addSchR at hz ⊢
  by_cases c1 : (!nameB nm || !nameB ow) = true
  · rw [if_pos c1] at hz; cases hz
  · by_cases c2 : 0 ≤ schAt o.schemas nm
    · rw [if_neg c1, if_pos c2] at hz; cases hz
    · by_cases c3 : 8 ≤ o.schemas.length
      · rw [if_neg c1, if_neg c2, if_pos c3] at hz; cases hz
      · rw [if_neg c1, if_neg c2, if_neg c3]
        have hp := posB_le cmpSc o.schemas ⟨nm, ow⟩
        have hlen : (o.schemas.take (posB cmpSc o.schemas ⟨nm, ow⟩)).length = posB cmpSc o.schemas ⟨nm, ow⟩ := by rw [List.length_take]; omega
        have e1 : schAt (insAt o.schemas (posB cmpSc o.schemas ⟨nm, ow⟩) ⟨nm, ow⟩) nm = (posB cmpSc o.schemas ⟨nm, ow⟩ : Int) := by
          unfold schAt insAt
          refine idxP_some _ _ _ (by simp; omega) ?_ (fun i hi => ?_)
          · rw [List.getElem_append_left (by simp; omega), List.getElem_append_right (by omega)]
            simp [hlen, eqS_refl]
          · rw [List.getElem_append_left (by simp; omega), List.getElem_append_left (by omega), List.getElem_take, Bool.eq_false_iff]
            exact fun e => schAt_not c2 _ (List.getElem_mem _) ((eqS_iff9 _ _).1 e)
        have e2 : (insAt o.schemas (posB cmpSc o.schemas ⟨nm, ow⟩) ⟨nm, ow⟩).eraseIdx (posB cmpSc o.schemas ⟨nm, ow⟩) = o.schemas := by
          unfold insAt
          rw [List.append_assoc, List.eraseIdx_append_of_length_le (by omega), hlen, Nat.sub_self]
          simp
        have e3 : within o.tables nm = 0 := within_zero fun t ht e => by
          obtain ⟨x, hx, e2⟩ := (g.tab t ht).sch
          exact schAt_not c2 x hx (e2.trans e)
        unfold dropSchR
        simp only
        rw [e1, e3, if_neg (by omega), if_neg (by omega), Int.toNat_natCast, e2]
end Go.Proofs.YticjnndhpfdajaaGreat
/- A table of our own objects is written. -/
namespace Go.Proofs.YticjnndhpfdajaaGreat
open Go.RowKit Go.Deep
set_option maxRecDepth 100000
set_option linter.unusedVariables false
end Go.Proofs.YticjnndhpfdajaaGreat
/- objects.Find and the document's: a table is found just as it is. -/
namespace Go.Proofs.YticjnndhpfdajaaGreat
open Go.RowKit Go.Deep
set_option maxRecDepth 100000
set_option linter.unusedVariables false
def zeroT : Tab := ⟨⟨#[]⟩, ⟨#[]⟩, ⟨#[]⟩, [], []⟩
def findR (o : Objs) (s n : ByteArray) : Tab × Int :=
  if checkO o then (match o.tables[(tabAt o.tables s n).toNat]? with | some t => if tabAt o.tables s n < 0 then (zeroT, 61) else (t, 0) | none => (zeroT, 61)) else (zeroT, 63)
theorem findR_no {o : Objs} {s n : ByteArray} (h : checkO o = false) : findR o s n = (zeroT, 63) := by unfold findR; rw [h]; rfl
theorem findR_none {o : Objs} {s n : ByteArray} (h : checkO o = true) (hi : tabAt o.tables s n < 0) : findR o s n = (zeroT, 61) := by
  unfold findR; rw [h, if_pos rfl]; split
  · rw [if_pos hi]
  · rfl
theorem findR_some {o : Objs} {s n : ByteArray} {q : Nat} (h : checkO o = true) (hi : tabAt o.tables s n = q) (hq : q < o.tables.length) : findR o s n = (o.tables[q], 0) := by
  unfold findR; rw [h, if_pos rfl, hi]
  simp only [Int.toNat_natCast, List.getElem?_eq_getElem hq]
  rw [if_neg (by omega)]
def FindP (w : World) (r : Tab × Int) (e : Ending) (w' : World) : Prop :=
  ∃ x : OTab, x.t = r.1 ∧ e = .returned (.tuple #[.agg #[.string r.1.schema, .string r.1.name, .string r.1.owner, .slice x.hc.a r.1.cols.length x.hc.c, .slice x.hr.a r.1.rules.length x.hr.c], .int .i64 r.2]) ∧ Aft w w' ∧ TabIn w' w.heap.size x ∧ x.blks.Nodup
theorem findP_zero {w w' : World} {c : Int} (a : Aft w w') : FindP w (zeroT, c) (.returned (.tuple #[.agg #[.string ⟨#[]⟩, .string ⟨#[]⟩, .string ⟨#[]⟩, .slice none 0 0, .slice none 0 0], .int .i64 c])) w' :=
  ⟨⟨⟨#[]⟩, ⟨#[]⟩, ⟨#[]⟩, [], [], ⟨none, 0, 0⟩, ⟨none, 0, 0⟩⟩, rfl, rfl, a, ⟨own_nil _ _ _ _, own_nil _ _ _ _, fun x hx => by simp at hx⟩, by simp [OTab.blks, blk_nil]⟩
theorem setT_row {w : World} {b : Nat} {xs : List Value} (h : RowAt w b xs) (hl : xs.length = 5) (v0 v1 v2 v3 v4 : Value) : RowAt (((((w.setCell ⟨b, 0, none⟩ v0).setCell ⟨b, 1, none⟩ v1).setCell ⟨b, 2, none⟩ v2).setCell ⟨b, 3, none⟩ v3).setCell ⟨b, 4, none⟩ v4) b [v0, v1, v2, v3, v4] := by
  match xs, hl with
  | [a, b, c, d, e], _ => exact ((((h.set 0 _ (by simp)).set 1 _ (by simp)).set 2 _ (by simp)).set 3 _ (by simp)).set 4 _ (by simp)
theorem setT_kb (w : World) (b : Nat) (v0 v1 v2 v3 v4 : Value) : Kb (fun g => g = b) w (((((w.setCell ⟨b, 0, none⟩ v0).setCell ⟨b, 1, none⟩ v1).setCell ⟨b, 2, none⟩ v2).setCell ⟨b, 3, none⟩ v3).setCell ⟨b, 4, none⟩ v4) :=
  ((((Kb.set _ _ _ _).trans (Kb.set _ _ _ _)).trans (Kb.set _ _ _ _)).trans (Kb.set _ _ _ _)).trans (Kb.set _ _ _ _)
set_option maxHeartbeats 8000000 in
theorem find_in (o : Objs) (As : Option Addr) (caps : Nat) (At : Option Addr) (capt : Nat) (s n : ByteArray) (w : World) (hsch : SlAt w 2 SchR As caps o.schemas) (htab : SlAt w 5 TabR At capt o.tables) :
    Calls Tryz.prog 189 #[.agg #[.slice As o.schemas.length caps, .slice At o.tables.length capt], .string s, .string n] w (FindP w (findR o s n)) := by
  have hlen := hsch.len
  have hlen2 := htab.len
  have l1 : w.heap.size < w.heap.size + 1 := by omega
  have l2 : w.heap.size < w.heap.size + 1 + 1 := by omega
  obtain ⟨W, hW⟩ : ∃ W, W = (w.alloc (.cells #[.slice As o.schemas.length caps, .slice At o.tables.length capt] 25)).alloc (.cells #[.string ⟨#[]⟩, .string ⟨#[]⟩, .string ⟨#[]⟩, .slice none 0 0, .slice none 0 0] 50) := ⟨_, rfl⟩
  have aW : Aft w W := by rw [hW]; exact ((Aft.refl w).alloc _).alloc _
  have r1 : RowAt W w.heap.size [.slice As o.schemas.length caps, .slice At o.tables.length capt] := by rw [hW]; exact (box_row2 (Aft.refl _)).aft ((Aft.refl _).alloc _)
  have r2 : RowAt W (w.heap.size + 1) [.string ⟨#[]⟩, .string ⟨#[]⟩, .string ⟨#[]⟩, .slice none 0 0, .slice none 0 0] := by
    rw [hW]
    have := (box_row2 (w := w.alloc (.cells #[.slice As o.schemas.length caps, .slice At o.tables.length capt] 25)) (c := [.string ⟨#[]⟩, .string ⟨#[]⟩, .string ⟨#[]⟩, .slice none 0 0, .slice none 0 0]) (t := 50) (Aft.refl _))
    simpa using this
  have zW : W.heap.size = w.heap.size + 2 := by rw [hW]; simp
  obtain ⟨c, hc⟩ : ∃ c, checkO o = c := ⟨_, rfl⟩
  obtain ⟨i, hi⟩ : ∃ i, tabAt o.tables s n = i := ⟨_, rfl⟩
  have hir : -1 ≤ i ∧ i < o.tables.length := by rw [← hi]; exact idxP_range _ _
  have CK := Lib.hid (show ∀ w', Aft w w' → Calls Tryz.prog 29 #[.agg #[.slice As o.schemas.length caps, .slice At o.tables.length capt]] w' fun e w'' => e = .returned (.int .i64 (if c = true then 0 else 63)) ∧ Aft w' w'' from
    fun w' a => (check_any o As caps At capt w' (schs_aft a hsch) (tabs_aft a htab)).mono fun e w'' ⟨he, hw⟩ => ⟨he.trans (by unfold checkE; rw [hc]), hw⟩)
  have CW := Lib.hid (show ∀ w', Aft w w' → Calls Tryz.prog 107 #[.agg #[.slice As o.schemas.length caps, .slice At o.tables.length capt], .string s, .string n] w' fun e w'' => e = .returned (.tuple #[.int .i64 i, .bool (decide (0 ≤ i))]) ∧ Aft w' w'' from
    fun w' a => (where_any (.slice As o.schemas.length caps) At capt o.tables s n w' (tabs_aft a htab)).mono fun e w'' ⟨he, hw⟩ => ⟨he.trans (by rw [hi]), hw⟩)
  have HC := Lib.hid hc
  have HI := Lib.hid hi
  have HT := Lib.hid htab
  have HAW := Lib.hid aW
  have HR1 := Lib.hid r1
  have HR2 := Lib.hid r2
  have HZ := Lib.hid zW
  clear hc hi hsch htab r1 r2 aW zW
  go_enter Tryz.func189, Tryz.ntmps189
  go_wp2_with fail
  rw [← hW]
  clear hW
  refine (CK.out W HAW.out).mono ?_
  rintro e w1 ⟨rfl, a1⟩
  have b2 := HR2.out.aft a1
  have d0 := b2.cell (j := 0) rfl
  have d1 := b2.cell (j := 1) rfl
  have d2 := b2.cell (j := 2) rfl
  have d3 := b2.cell (j := 3) rfl
  have d4 := b2.cell (j := 4) rfl
  have f0 := b2.2.2 0 (by simp)
  have f1 := b2.2.2 1 (by simp)
  have f2 := b2.2.2 2 (by simp)
  have f3 := b2.2.2 3 (by simp)
  have f4 := b2.2.2 4 (by simp)
  have z2 := b2.1
  have HA1 := Lib.hid (HAW.out.trans a1)
  have HB2 := Lib.hid b2
  have b1 := HR1.out.aft a1
  have c0 := b1.cell (j := 0) rfl
  have c1 := b1.cell (j := 1) rfl
  have z1 := b1.1
  have HB1 := Lib.hid b1
  have HZ1 := Lib.hid (show w.heap.size + 2 ≤ w1.heap.size by have := a1.size; have := HZ.out; omega)
  clear a1 b2 b1
  cases c
  · go_wp2_with fail
    refine bodyPost_ret (results_cell_tmp (v := .agg #[.string ⟨#[]⟩, .string ⟨#[]⟩, .string ⟨#[]⟩, .slice none 0 0, .slice none 0 0]) rfl _ rfl ?hl) rfl ?_
    case hl => exact lvTab_row (setT_row HB2.out rfl _ _ _ _ _)
    rw [findR_no HC.out]
    exact findP_zero ((setT_kb _ _ _ _ _ _ _).to_aft HA1.out (fun g hg e => by omega))
  · go_wp2_with fail
    refine (CW.out w1 HA1.out).mono ?_
    rintro e w2 ⟨rfl, a2⟩
    have b2 := HB2.out.aft a2
    have d0 := b2.cell (j := 0) rfl
    have d1 := b2.cell (j := 1) rfl
    have d2 := b2.cell (j := 2) rfl
    have d3 := b2.cell (j := 3) rfl
    have d4 := b2.cell (j := 4) rfl
    have f0 := b2.2.2 0 (by simp)
    have f1 := b2.2.2 1 (by simp)
    have f2 := b2.2.2 2 (by simp)
    have f3 := b2.2.2 3 (by simp)
    have f4 := b2.2.2 4 (by simp)
    have z2 := b2.1
    have HA2 := Lib.hid (HA1.out.trans a2)
    have HB2' := Lib.hid b2
    have b1 := HB1.out.aft a2
    have c1 := b1.cell (j := 1) rfl
    have z1 := b1.1
    have HZ2 := Lib.hid (show w.heap.size + 2 ≤ w2.heap.size by have := a2.size; have := HZ1.out; omega)
    clear a2 b2 b1
    by_cases h0 : 0 ≤ i
    · obtain ⟨q, rfl⟩ := Int.eq_ofNat_of_zero_le h0
      have hq : q < o.tables.length := by omega
      obtain ⟨b, off, A2, cap2, A3, cap3, rfl, hb, t0, t1, t2, t3, t4, hcols, hruls, hss⟩ := tab_at (tabs_aft HA2.out HT.out) hq
      have hd : decide (0 ≤ (q : Int)) = true := by simp
      have CP := Lib.hid (copied_in o.tables[q] A2 cap2 A3 cap3 w2 hcols hruls (by have := (check_mod HC.out).2.2 o.tables[q] (List.getElem_mem hq); exact this))
      have HE := Lib.hid (findR_some HC.out HI.out hq)
      obtain ⟨p, hp⟩ : ∃ p, o.tables[q] = p := ⟨_, rfl⟩
      rw [hp] at t0 t1 t2 t3 t4 CP HE
      clear hp hcols hruls hss h0 hir
      go_wp2_with fail
      refine CP.out.mono ?_
      rintro e w3 ⟨x, hx, rfl, a3, tin, xnd⟩
      have b2 := HB2'.out.aft a3
      have d0 := b2.cell (j := 0) rfl
      have d1 := b2.cell (j := 1) rfl
      have d2 := b2.cell (j := 2) rfl
      have d3 := b2.cell (j := 3) rfl
      have d4 := b2.cell (j := 4) rfl
      have f0 := b2.2.2 0 (by simp)
      have f1 := b2.2.2 1 (by simp)
      have f2 := b2.2.2 2 (by simp)
      have f3 := b2.2.2 3 (by simp)
      have f4 := b2.2.2 4 (by simp)
      have z2 := b2.1
      have HA3 := Lib.hid (HA2.out.trans a3)
      have HB3 := Lib.hid b2
      have HTI := Lib.hid tin
      have HX := Lib.hid hx
      have HN := Lib.hid xnd
      clear a3 b2 tin hx xnd
      go_wp2_with fail
      refine bodyPost_ret (results_cell_tmp (v := .agg #[.string p.schema, .string p.name, .string p.owner, .slice x.hc.a p.cols.length x.hc.c, .slice x.hr.a p.rules.length x.hr.c]) rfl _ rfl ?hl) rfl ?_
      case hl => exact lvTab_row (setT_row HB3.out rfl _ _ _ _ _)
      rw [HE.out]
      refine ⟨x, HX.out, rfl, (setT_kb _ _ _ _ _ _ _).to_aft HA3.out (fun g hg e => by omega), ?_, HN.out⟩
      have hz2 := HZ2.out
      refine TabIn.down (HTI.out.kb (setT_kb _ _ _ _ _ _ _) fun g hg e => ?_) (show w.heap.size ≤ w2.heap.size by omega)
      have := (HTI.out.lt g hg).1
      omega
    · have hd : decide (0 ≤ i) = false := by simpa using h0
      go_wp2_with fail
      refine bodyPost_ret (results_cell_tmp (v := .agg #[.string ⟨#[]⟩, .string ⟨#[]⟩, .string ⟨#[]⟩, .slice none 0 0, .slice none 0 0]) rfl _ rfl ?hl3) rfl ?_
      case hl3 => exact lvTab_row (setT_row HB2'.out rfl _ _ _ _ _)
      rw [findR_none HC.out (by rw [HI.out]; omega)]
      exact findP_zero ((setT_kb _ _ _ _ _ _ _).to_aft HA2.out (fun g hg e => by omega))
end Go.Proofs.YticjnndhpfdajaaGreat
