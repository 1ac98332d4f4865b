/- slices.Index at texts; all and none, in plain words. -/
import Derived.Test.YtcdhljcpoopfaaaIdx
namespace Go.Proofs.Ytcdhljcpoopfaaa
open Go.RowKit
set_option maxRecDepth 100000
set_option linter.unusedVariables false
theorem eqS_comm (a b : ByteArray) : eqS a b = eqS b a := by
  unfold eqS; rw [Bool.eq_iff_iff]; simp; exact eq_comm
theorem eqS_trans {a b c : ByteArray} (h : eqS a b = true) (h2 : eqS b c = true) : eqS a c = true := by
  unfold eqS at *; simp at *; rw [h, h2]
set_option maxHeartbeats 1000000 in
theorem sidx_any (A : Option Addr) (cap : Nat) (l : List ByteArray) (name : ByteArray) (w : World) (h : SlAt w 1 StrR A cap l) :
    Calls Try.prog 106 #[.slice A l.length cap, .string name] w fun e w' => e = .returned (.int .i64 (idxP (fun c => eqS c name) l)) ∧ w = w' := by
  have hlen := h.len
  go_enter Try.func106, Try.ntmps106
  go_wp2_with fail
  go_loop [8] (fun i => ∃ k : Nat, k ≤ l.length ∧ i = .int .i64 k ∧ ∀ j, j < k → ∀ (hj : j < l.length), eqS l[j] name = false) (fun i => l.length - (intOf i).toNat)
  case atStart => exact ⟨0, Nat.zero_le _, rfl, fun j hj => absurd hj (Nat.not_lt_zero j)⟩
  case round =>
    obtain ⟨k, hk, rfl, hp⟩ := hrel
    have HP := Lib.hid hp; clear hp
    by_cases hlt : k < l.length
    · obtain ⟨b, off, rfl, hb, c0, hs⟩ := str_at h hlt
      cases heq : eqS l[k] name
      · have h2 : (name.toList == l[k].toList) = false := (eqS_comm _ _).trans heq
        have HN := Lib.hid (ext_lt (p := fun j => ∀ (hj : j < l.length), eqS l[j] name = false) HP.out (fun _ => heq))
        clear heq
        go_wp2_with fail
        go_round
        case rel => exact ⟨k + 1, by omega, by go_num, HN.out⟩
        case measure => simp [intOf]; omega
      · have h2 : (name.toList == l[k].toList) = true := (eqS_comm _ _).trans heq
        have HQ := Lib.hid heq
        clear heq
        go_wp2_with fail
        go_ret
        have heq := HQ.out
        exact ⟨by rw [idxP_some (fun c => eqS c name) l k hlt heq (fun i hi => HP.out i hi (by omega))]; rfl, rfl⟩
    · go_wp2_with fail
      go_ret
      exact ⟨by rw [idxP_none (fun c => eqS c name) l (fun i hi => HP.out i (by omega) hi)]; rfl, rfl⟩

theorem idxP_at {α : Type} (p : α → Bool) (l : List α) (q : Nat) (hq : q < l.length) (h : idxP p l = q) : p l[q] = true := by
  induction l generalizing q with
  | nil => simp at hq
  | cons x l ih =>
    simp only [idxP] at h
    by_cases hx : p x = true
    · rw [if_pos hx] at h
      have : q = 0 := by omega
      subst this; simpa using hx
    · rw [if_neg hx] at h
      by_cases hy : idxP p l < 0
      · rw [if_pos hy] at h; omega
      · rw [if_neg hy] at h
        cases q with
        | zero => omega
        | succ q => simpa using ih q (by simpa using hq) (by omega)
theorem all_false {α : Type} (p : α → Bool) (l : List α) (k : Nat) (hk : k < l.length) (h : p l[k] = false) : l.all p = false := by
  rw [Bool.eq_false_iff]; intro ha
  have := List.all_eq_true.1 ha l[k] (List.getElem_mem hk)
  rw [h] at this; cases this
theorem all_true {α : Type} (p : α → Bool) (l : List α) (h : ∀ k (hk : k < l.length), p l[k] = true) : l.all p = true := by
  rw [List.all_eq_true]; intro x hx
  obtain ⟨i, hi, rfl⟩ := List.getElem_of_mem hx
  exact h i hi
end Go.Proofs.Ytcdhljcpoopfaaa
