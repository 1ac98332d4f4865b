/- A table by itself: in plain words. -/
import Derived.Test.YtodifdofgjfkiaaSpec
namespace Go.Proofs.Ytodifdofgjfkiaa
open Go.RowKit
set_option linter.unusedVariables false
def bareR (r : Rul) : Rul := if r.kind == 4 && nameB r.schema && nameB r.table && nameB r.key then { r with kind := 1, schema := ⟨#[]⟩, table := ⟨#[]⟩, key := ⟨#[]⟩ } else r
def aloneO (t : Tab) : Objs := ⟨[⟨⟨#[115]⟩, ⟨#[111]⟩⟩], [⟨⟨#[115]⟩, ⟨#[116]⟩, ⟨#[111]⟩, t.cols, t.rules.map bareR⟩]⟩
/-- is a table right by itself? -/
def tableOk (t : Tab) : Bool := colsOk t.cols && decide (t.rules.length ≤ 8) && (t.rules.all (fitsOk t.cols) && risesB (fun a b => cmpS a.name b.name) t.rules)
theorem mixed_len {α : Type} (f : α → α) (l : List α) (k : Nat) (hk : k ≤ l.length) : ((l.take k).map f ++ l.drop k).length = l.length := by simp; omega
theorem mixed_get {α : Type} (f : α → α) (l : List α) (k : Nat) (hk : k < l.length) (h : k < ((l.take k).map f ++ l.drop k).length) : ((l.take k).map f ++ l.drop k)[k] = l[k] := by
  have e : ((l.take k).map f).length = k := by simp; omega
  rw [List.getElem_append_right (by omega)]
  simp only [e, Nat.sub_self, List.getElem_drop, Nat.add_zero]
theorem mixed_step {α : Type} (f : α → α) (l : List α) (k : Nat) (hk : k < l.length) : ((l.take k).map f ++ l.drop k).set k (f l[k]) = (l.take (k + 1)).map f ++ l.drop (k + 1) := by
  have e : ((l.take k).map f).length = k := by simp; omega
  rw [List.set_append_right _ _ (by omega), e, Nat.sub_self, List.drop_eq_getElem_cons hk, List.set_cons_zero, List.take_succ_eq_append_getElem hk, List.map_append, List.append_assoc]
  rfl
theorem mixed_same {α : Type} (f : α → α) (l : List α) (k : Nat) (hk : k < l.length) (h : f l[k] = l[k]) : (l.take k).map f ++ l.drop k = (l.take (k + 1)).map f ++ l.drop (k + 1) := by
  rw [← mixed_step f l k hk, h]
  have hl : k < ((l.take k).map f ++ l.drop k).length := by rw [mixed_len f l k (by omega)]; exact hk
  have e : (((l.take k).map f ++ l.drop k).set k l[k]) = ((l.take k).map f ++ l.drop k).set k (((l.take k).map f ++ l.drop k)[k]'hl) := by rw [mixed_get f l k hk hl]
  rw [e, List.set_getElem_self]
theorem emp_nil : emp ⟨#[]⟩ = true := by decide +kernel
theorem fits_bare (l : List Col) (r : Rul) : (bareR r).cols = r.cols ∧ (bareR r).name = r.name ∧ ∀ ts, ruleOk ts l (bareR r) = fitsOk l r := by
  unfold bareR
  by_cases h : (r.kind == 4 && nameB r.schema && nameB r.table && nameB r.key) = true
  · rw [if_pos h]
    refine ⟨rfl, rfl, fun ts => ?_⟩
    simp only [Bool.and_eq_true, beq_iff_eq] at h
    obtain ⟨⟨⟨h4, h1⟩, h2⟩, h3⟩ := h
    simp [ruleOk, fitsOk, ruleRest, h4, h1, h2, h3, emp_nil]
  · rw [if_neg h]
    refine ⟨rfl, rfl, fun ts => ?_⟩
    by_cases h4 : r.kind = 4
    · have hr : ruleRest l r = false := by
        simp only [h4, beq_self_eq_true, Bool.true_and, Bool.and_eq_true, not_and, Bool.not_eq_true] at h
        cases h1 : nameB r.schema <;> cases h2 : nameB r.table <;> cases h3 : nameB r.key <;> simp_all [ruleRest]
      simp [ruleOk, fitsOk, hr]
    · have e : (r.kind == 4) = false := by simpa using h4
      simp [ruleOk, e]
theorem rises_map {α : Type} (c : α → α → Int) (f : α → α) (hc : ∀ x y, c (f x) (f y) = c x y) : ∀ l : List α, risesB c (l.map f) = risesB c l
  | [] => rfl
  | [_] => rfl
  | x :: y :: l => by
    have := rises_map c f hc (y :: l)
    simp only [List.map_cons] at this ⊢
    rw [risesB, risesB, hc, this]
theorem schAt_one : schAt [⟨⟨#[115]⟩, ⟨#[111]⟩⟩] ⟨#[115]⟩ = 0 := by decide +kernel
theorem name_s : nameB ⟨#[115]⟩ = true := by decide +kernel
theorem name_t : nameB ⟨#[116]⟩ = true := by decide +kernel
theorem name_o : nameB ⟨#[111]⟩ = true := by decide +kernel
theorem alone_ok (t : Tab) : checkO (aloneO t) = tableOk t := by
  have h1 : (t.rules.map bareR).all (ruleOk (aloneO t).tables t.cols) = t.rules.all (fitsOk t.cols) := by
    rw [List.all_map]
    congr 1
    funext r
    exact (fits_bare t.cols r).2.2 _
  have h2 : risesB (fun a b : Rul => cmpS a.name b.name) (t.rules.map bareR) = risesB (fun a b => cmpS a.name b.name) t.rules :=
    rises_map _ _ (fun x y => by rw [(fits_bare t.cols x).2.1, (fits_bare t.cols y).2.1]) _
  have h3 : rightT (aloneO t) ⟨⟨#[115]⟩, ⟨#[116]⟩, ⟨#[111]⟩, t.cols, t.rules.map bareR⟩ = tableOk t := by
    unfold rightT tableOk
    simp only [h1, h2, name_t, name_o, Bool.true_and, List.length_map]
    rw [show schAt (aloneO t).schemas ⟨#[115]⟩ = 0 from schAt_one]
    simp
  have h4 : within (aloneO t).tables ⟨#[115]⟩ ≤ 8 := Nat.le_trans (within_le _ _) (by simp [aloneO])
  have h5 : schOk (aloneO t) ⟨⟨#[115]⟩, ⟨#[111]⟩⟩ = true := by unfold schOk; simp [name_s, name_o, h4]
  unfold checkO headOk
  have e1 : (aloneO t).schemas.all (schOk (aloneO t)) = true := by show List.all [_] _ = true; simp [h5]
  have e2 : (aloneO t).tables.all (rightT (aloneO t)) = tableOk t := by show List.all [_] _ = _; simp [h3]
  rw [e1, e2]
  simp [aloneO, risesB]
end Go.Proofs.Ytodifdofgjfkiaa
