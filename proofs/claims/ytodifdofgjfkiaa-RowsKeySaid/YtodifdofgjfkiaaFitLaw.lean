/- Does a row fit a table: in plain words. -/
import Derived.Test.YtodifdofgjfkiaaAloneLaw
import Derived.Test.YtodifdofgjfkiaaForm
namespace Go.Proofs.Ytodifdofgjfkiaa
open Go.RowKit
set_option linter.unusedVariables false
def nilV : Val := ⟨0, 0, ⟨#[]⟩⟩
def valAt (row : List Val) (i : Int) : Val := match row[i.toNat]? with | some v => v | none => nilV
/-- is a value without a rule's bounds? -/
def outB (v : Val) (r : Rul) : Bool := v.kind == 2 && (decide (v.int < r.low) || decide (r.high < v.int))
def badR (l : List Col) (row : List Val) (r : Rul) : Bool := r.kind == 3 && outB (valAt row (colAt l (r.cols.headD ⟨#[]⟩))) r
def fitE (t : Tab) (row : List Val) : Int :=
  if tableOk t = false then 1 else if besideB formB t.cols row = false then 100 else if besideB nullB t.cols row = false then 101 else if t.rules.any (badR t.cols row) = true then 102 else 0
theorem table_fits {t : Tab} (h : tableOk t = true) {k : Nat} (hk : k < t.rules.length) : fitsOk t.cols t.rules[k] = true := by
  unfold tableOk at h
  simp only [Bool.and_eq_true] at h
  exact List.all_eq_true.1 h.2.1 _ (List.getElem_mem hk)
theorem fits_cols {l : List Col} {r : Rul} (h : fitsOk l r = true) {j : Nat} (hj : j < r.cols.length) : 0 ≤ colAt l r.cols[j] := by
  unfold fitsOk at h
  simp only [Bool.and_eq_true] at h
  have h1 := h.1.1.1
  cases hc : (decide (0 ≤ colAt l r.cols[j]) && !(hasS (r.cols.take j) r.cols[j]))
  · rw [rcOk_false l r.cols j hj hc] at h1; cases h1
  · simp only [Bool.and_eq_true, decide_eq_true_eq] at hc; exact hc.1
theorem fits_pos {l : List Col} {r : Rul} (h : fitsOk l r = true) : 0 < r.cols.length := by
  unfold fitsOk at h
  simp only [Bool.and_eq_true] at h
  have h1 := h.1.2
  apply Nat.pos_of_ne_zero
  intro e
  rw [e] at h1
  simp at h1
theorem colAt_lt {l : List Col} {s : ByteArray} {q : Nat} (h : colAt l s = q) : q < l.length := by
  have := (idxP_range (fun c => eqS c.name s) l).2
  unfold colAt at h; omega
theorem headD_zero {cs : List ByteArray} (h : 0 < cs.length) : cs.headD ⟨#[]⟩ = cs[0] := by
  cases cs with
  | nil => simp at h
  | cons a t => rfl
theorem valAt_get {row : List Val} {q : Nat} (h : q < row.length) : valAt row (q : Int) = row[q] := by
  simp [valAt, List.getElem?_eq_getElem h]
theorem badR_of {l : List Col} {row : List Val} {r : Rul} {q : Nat} (h3 : (r.kind == 3) = true) (h0 : 0 < r.cols.length) (hq : colAt l r.cols[0] = q) (hl : q < row.length) : badR l row r = outB row[q] r := by
  unfold badR
  rw [h3, headD_zero h0, hq, valAt_get hl]; rfl
theorem any_false {α : Type} (p : α → Bool) (l : List α) (h : ∀ k (hk : k < l.length), p l[k] = false) : l.any p = false := by
  rw [Bool.eq_false_iff]; intro ha
  obtain ⟨x, hx, hp⟩ := List.any_eq_true.1 ha
  obtain ⟨i, hi, rfl⟩ := List.getElem_of_mem hx
  rw [h i hi] at hp; cases hp
theorem any_true {α : Type} (p : α → Bool) (l : List α) (k : Nat) (hk : k < l.length) (h : p l[k] = true) : l.any p = true := List.any_eq_true.2 ⟨_, List.getElem_mem hk, h⟩
theorem fitE_1 {t : Tab} {row : List Val} (h : tableOk t = false) : fitE t row = 1 := by unfold fitE; rw [if_pos h]
theorem fitE_100 {t : Tab} {row : List Val} (h : tableOk t = true) (h1 : besideB formB t.cols row = false) : fitE t row = 100 := by unfold fitE; rw [if_neg (by rw [h]; simp), if_pos h1]
theorem fitE_101 {t : Tab} {row : List Val} (h : tableOk t = true) (h1 : besideB formB t.cols row = true) (h2 : besideB nullB t.cols row = false) : fitE t row = 101 := by unfold fitE; rw [if_neg (by rw [h]; simp), if_neg (by rw [h1]; simp), if_pos h2]
theorem fitE_any {t : Tab} {row : List Val} (h : tableOk t = true) (h1 : besideB formB t.cols row = true) (h2 : besideB nullB t.cols row = true) : fitE t row = if t.rules.any (badR t.cols row) = true then 102 else 0 := by unfold fitE; rw [if_neg (by rw [h]; simp), if_neg (by rw [h1]; simp), if_neg (by rw [h2]; simp)]
end Go.Proofs.Ytodifdofgjfkiaa
