/- No two columns have the same name. -/
import Derived.Test.YtodifdofgjfkiaaForm
import Derived.Test.YtodifdofgjfkiaaMayCols
namespace Go.Proofs.Ytodifdofgjfkiaa
open Go.RowKit
theorem cols_dist {l : List Col} (h : colsOk l = true) {k : Nat} (hk : k < l.length) {s : ByteArray} (hs : eqS l[k].name s = true) : colAt l s = k := by
  have h1 : (colOk l[k] && decide (idxP (fun d => eqS d.name l[k].name) (l.take k) < 0)) = true := by
    cases hc : (colOk l[k] && decide (idxP (fun d => eqS d.name l[k].name) (l.take k) < 0))
    · rw [colsOk_false l k hk hc] at h; cases h
    · rfl
  simp only [Bool.and_eq_true, decide_eq_true_eq] at h1
  have e : (fun d : Col => eqS d.name l[k].name) = fun d => eqS d.name s := by
    funext d
    unfold eqS at hs ⊢
    rw [eq_of_beq hs]
  rw [e] at h1
  exact idxP_hit (fun d => eqS d.name s) l k hk hs h1.2
end Go.Proofs.Ytodifdofgjfkiaa
