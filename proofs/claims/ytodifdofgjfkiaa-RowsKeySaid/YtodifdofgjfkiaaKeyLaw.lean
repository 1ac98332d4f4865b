/- A row's key by a rule: in plain words. -/
import Derived.Test.YtodifdofgjfkiaaTurnLaw
namespace Go.Proofs.Ytodifdofgjfkiaa
open Go.RowKit
set_option linter.unusedVariables false
/-- the values of some columns -/
def ofVs (l : List Col) (cs : List ByteArray) (row : List Val) : List Val := cs.map fun s => valAt row (colAt l s)
def wholeB (l : List Val) : Bool := l.all fun v => v.kind != 1
def keyCols (t : Tab) (s : ByteArray) : List ByteArray := match t.rules[(rulAt t.rules s).toNat]? with | some r => r.cols | none => []
def keyC (t : Tab) (s : ByteArray) (row : List Val) : Int := if tableOk t = false then 1 else if rulAt t.rules s < 0 then 61 else if besideB formB t.cols row = false then 100 else 0
def keyVs (t : Tab) (s : ByteArray) (row : List Val) : List Val := if keyC t s row = 0 then ofVs t.cols (keyCols t s) row else []
def keyB (t : Tab) (s : ByteArray) (row : List Val) : Bool := if keyC t s row = 0 then wholeB (ofVs t.cols (keyCols t s) row) else false
theorem ofVs_succ (l : List Col) (cs : List ByteArray) (row : List Val) (k : Nat) (hk : k < cs.length) : ofVs l (cs.take (k + 1)) row = ofVs l (cs.take k) row ++ [valAt row (colAt l cs[k])] := by
  unfold ofVs; rw [List.take_succ_eq_append_getElem hk, List.map_append]; rfl
theorem ofVs_len (l : List Col) (cs : List ByteArray) (row : List Val) : (ofVs l cs row).length = cs.length := by simp [ofVs]
theorem wholeB_snoc (l : List Val) (v : Val) : wholeB (l ++ [v]) = (wholeB l && v.kind != 1) := by simp [wholeB]
theorem keyC_1 {t : Tab} {s : ByteArray} {row : List Val} (h : tableOk t = false) : keyC t s row = 1 := by unfold keyC; rw [if_pos h]
theorem keyC_61 {t : Tab} {s : ByteArray} {row : List Val} (h : tableOk t = true) (h1 : rulAt t.rules s < 0) : keyC t s row = 61 := by unfold keyC; rw [if_neg (by rw [h]; simp), if_pos h1]
theorem keyC_100 {t : Tab} {s : ByteArray} {row : List Val} (h : tableOk t = true) (h1 : ¬ rulAt t.rules s < 0) (h2 : besideB formB t.cols row = false) : keyC t s row = 100 := by unfold keyC; rw [if_neg (by rw [h]; simp), if_neg h1, if_pos h2]
theorem keyC_0 {t : Tab} {s : ByteArray} {row : List Val} (h : tableOk t = true) (h1 : ¬ rulAt t.rules s < 0) (h2 : besideB formB t.cols row = true) : keyC t s row = 0 := by unfold keyC; rw [if_neg (by rw [h]; simp), if_neg h1, if_neg (by rw [h2]; simp)]
theorem key_no {t : Tab} {s : ByteArray} {row : List Val} (h : ¬ keyC t s row = 0) : keyVs t s row = [] ∧ keyB t s row = false := by unfold keyVs keyB; rw [if_neg h, if_neg h]; exact ⟨rfl, rfl⟩
theorem key_yes {t : Tab} {s : ByteArray} {row : List Val} (h : keyC t s row = 0) : keyVs t s row = ofVs t.cols (keyCols t s) row ∧ keyB t s row = wholeB (ofVs t.cols (keyCols t s) row) := by unfold keyVs keyB; rw [if_pos h, if_pos h]; exact ⟨rfl, rfl⟩
theorem keyCols_at {t : Tab} {s : ByteArray} {q : Nat} (h : rulAt t.rules s = q) (hq : q < t.rules.length) : keyCols t s = t.rules[q].cols := by unfold keyCols; rw [h]; simp [List.getElem?_eq_getElem hq]
theorem rulAt_lt {l : List Rul} {s : ByteArray} {q : Nat} (h : rulAt l s = q) : q < l.length := by
  have := (idxP_range (fun c => eqS c.name s) l).2
  unfold rulAt at h; omega
/-- a null that may be is the null -/
theorem null_iff {v : Val} (h : mayV v = true) : eqV nullV v = (v.kind == 1) := by
  cases hk : (v.kind == 1)
  · rw [Bool.eq_false_iff]; intro he
    have := (eqV_iff _ _).1 he
    have h1 : v.kind = 1 := this.1.symm
    rw [h1] at hk; cases hk
  · have h1 : v.kind = 1 := by simpa using hk
    unfold mayV at h
    rw [hk, if_pos rfl, Bool.and_eq_true] at h
    obtain ⟨h2, h3⟩ := h
    refine (eqV_iff _ _).2 ⟨h1.symm, (by simpa using h2 : v.int = 0).symm, ?_⟩
    rw [eqS_comm, show nullV.text = ⟨#[]⟩ from rfl, eqS_nil]; exact h3
theorem val_may {l : List Col} {row : List Val} (h : besideB formB l row = true) {q : Nat} (hq : q < row.length) : mayV row[q] = true := by
  obtain ⟨hl, hf⟩ := (besideB_iff formB l row).1 h
  have := hf q (by omega) hq
  unfold formB at this; simp only [Bool.and_eq_true] at this; exact this.1
def hasN (l : List Val) : Bool := l.any fun v => eqV nullV v
theorem hasN_whole {l : List Val} (h : ∀ v ∈ l, mayV v = true) : (!hasN l) = wholeB l := by
  unfold hasN wholeB
  induction l with
  | nil => rfl
  | cons v l ih =>
    rw [List.any_cons, List.all_cons, Bool.not_or, ih fun x hx => h x (by simp [hx]), null_iff (h v (by simp))]
    rfl
theorem fits_of {l : List Col} {r : Rul} {row : List Val} (hf : fitsOk l r = true) (hl : l.length = row.length) : ∀ k (hk : k < r.cols.length), ∃ q : Nat, colAt l r.cols[k] = q ∧ q < row.length := by
  intro k hk
  obtain ⟨q, hq⟩ := Int.eq_ofNat_of_zero_le (fits_cols hf hk)
  exact ⟨q, hq, by have := colAt_lt hq; omega⟩
theorem of_may {l : List Col} {r : Rul} {row : List Val} (hf : fitsOk l r = true) (hb : besideB formB l row = true) : ∀ v ∈ ofVs l r.cols row, mayV v = true := by
  intro v hv
  obtain ⟨s, hs, rfl⟩ := List.mem_map.1 hv
  obtain ⟨k, hk, rfl⟩ := List.getElem_of_mem hs
  obtain ⟨q, hq, hqr⟩ := fits_of hf ((besideB_iff formB l row).1 hb).1 k hk
  rw [hq, valAt_get hqr]
  exact val_may hb hqr
def KeyP (w : World) (l : List Val) (b : Bool) (c : Int) (e : Ending) (w' : World) : Prop := ∃ v, e = .returned (.tuple #[v, .bool b, .int .i64 c]) ∧ Aft w w' ∧ w'.ownsRow w.heap.size 48 3 v l.length (l.flatMap cellsV)
def OfP (w : World) (l : List Val) (b : Bool) (e : Ending) (w' : World) : Prop := ∃ v, e = .returned (.tuple #[v, .bool b]) ∧ Aft w w' ∧ w'.ownsRow w.heap.size 48 3 v l.length (l.flatMap cellsV)
theorem table_colsK {t : Tab} (h : tableOk t = true) : colsOk t.cols = true := by
  unfold tableOk at h; simp only [Bool.and_eq_true] at h; exact h.1.1
/-- a rule of a right table has at most as many columns as the table -/
theorem fits_len {l : List Col} {r : Rul} (hc : colsOk l = true) (hf : fitsOk l r = true) : r.cols.length ≤ 8 := by
  have h1 : rcOk l r.cols = true := by unfold fitsOk at hf; simp only [Bool.and_eq_true] at hf; exact hf.1.1.1
  exact Nat.le_trans (rc_len l r.cols h1) (cols_len hc)
end Go.Proofs.Ytodifdofgjfkiaa
