/- slices.Equal at kinds of values. -/
import Derived.Test.YtodifdofgjfkiaaKinds
namespace Go.Proofs.Ytodifdofgjfkiaa
open Go.RowKit
set_option maxRecDepth 100000
set_option linter.unusedVariables false
def IntR (_ : World) (cs : List Value) (n : Int) : Prop := cs = [.int .i64 n]
theorem ints_aft {w w' : World} {A : Option Addr} {cap : Nat} {l : List Int} (hw : Aft w w') (h : SlAt w 1 IntR A cap l) : SlAt w' 1 IntR A cap l := h.aft hw fun _ _ h => h
theorem int_at {w : World} {A : Option Addr} {cap : Nat} {l : List Int} (h : SlAt w 1 IntR A cap l) {k : Nat} (hk : k < l.length) :
    ∃ b off, A = some ⟨b, off, none⟩ ∧ b < w.heap.size ∧ w.cell? ⟨b, off + k, none⟩ = some (.int .i64 l[k]) := by
  obtain ⟨b, off, cs, hA, hb, hl, rfl, hc⟩ := h.2.2 k hk
  refine ⟨b, off, hA, hb, ?_⟩
  have := hc 0 (by omega)
  simpa using this
theorem own_ints {w : World} {base : Nat} {e : TypeId} {v : Value} {l : List Int} (h : w.ownsRow base e 1 v l.length (l.map (Value.int .i64))) (hs : Small (l.length * 16)) : ∃ A cap, v = .slice A l.length cap ∧ SlAt w 1 IntR A cap l := by
  refine own_slAt (base := base) (e := e) (fun n => [Value.int .i64 n]) IntR (fun _ => rfl) ?_ (fun _ _ => rfl) hs
  have e1 : l.flatMap (fun n => [Value.int .i64 n]) = l.map (Value.int .i64) := by
    clear h hs
    induction l with
    | nil => rfl
    | cons x l ih => simp [List.flatMap_cons, ih]
  rw [e1]; exact h
theorem ne_of_at {α : Type} (l l2 : List α) (k : Nat) (h : k < l.length) (h2 : k < l2.length) (hn : ¬ l[k] = l2[k]) : ¬ l = l2 := by
  intro e; subst e; exact hn rfl
theorem eq_of_all {α : Type} (l l2 : List α) (hl : l.length = l2.length) (hp : ∀ k (h : k < l.length) (h2 : k < l2.length), l[k] = l2[k]) : l = l2 := List.ext_getElem hl hp
set_option maxHeartbeats 1000000 in
theorem eqK_any (A : Option Addr) (cap : Nat) (l : List Int) (A2 : Option Addr) (cap2 : Nat) (l2 : List Int) (w : World) (h : SlAt w 1 IntR A cap l) (h2 : SlAt w 1 IntR A2 cap2 l2) :
    Calls Try.prog 158 #[.slice A l.length cap, .slice A2 l2.length cap2] w fun e w' => e = .returned (.bool (decide (l = l2))) ∧ Aft w w' := by
  have hlen := h.len
  have hlen2 := h2.len
  by_cases hl : l.length = l2.length
  · have e1 : ((l.length : Int) != (l2.length : Int)) = false := by simp [hl]
    go_enter Try.func158, Try.ntmps158
    go_wp2_with fail
    go_loopw [13] (fun i wr => ∃ k : Nat, k ≤ l.length ∧ i = .int .i64 k ∧ Aft w wr ∧ ∀ j, j < k → ∀ (hj : j < l.length) (hj2 : j < l2.length), l[j] = l2[j]) (fun i _ => l.length - (intOf i).toNat)
    case atStart => exact ⟨0, Nat.zero_le _, rfl, Aft.refl _, fun j hj => absurd hj (Nat.not_lt_zero j)⟩
    case round =>
      obtain ⟨k, hk, rfl, ha, hp⟩ := hrel
      have HA := Lib.hid ha
      have HP := Lib.hid hp; clear hp
      by_cases hlt : k < l.length
      · have hlt2 : k < l2.length := by omega
        obtain ⟨b, off, rfl, hb, c0⟩ := int_at (ints_aft ha h) hlt
        obtain ⟨b2, off2, rfl, hb2, d0⟩ := int_at (ints_aft ha h2) hlt2
        clear ha
        cases heq : (l[k] != l2[k])
        · have HN := Lib.hid (ext_lt (p := fun j => ∀ (hj : j < l.length) (hj2 : j < l2.length), l[j] = l2[j]) HP.out (fun _ _ => by simpa using heq))
          go_wp2_with fail
          refine wp_region_lat (by kernel_rfl) (by kernel_rfl) ?_
          repeat (go_big_quiet_step (fail))
          refine wpQuiet_nil ?_
          intro _ hw'
          obtain ⟨x, hw''⟩ := hw'
          subst hw''
          go_wp2_with fail
          go_roundw
          case rel => exact ⟨k + 1, by omega, by go_num, HA.out.lat x, HN.out⟩
          case measure => simp [intOf]; omega
        · have HN := Lib.hid (show ¬ l = l2 from ne_of_at l l2 k hlt hlt2 (by simpa using heq))
          go_wp2_with fail
          refine wp_region_lat (by kernel_rfl) (by kernel_rfl) ?_
          repeat (go_big_quiet_step (fail))
          refine wpQuiet_nil ?_
          intro _ hw'
          obtain ⟨x, hw''⟩ := hw'
          subst hw''
          go_wp2_with fail
          go_ret
          exact ⟨by rw [decide_eq_false HN.out]; rfl, HA.out.lat x⟩
      · have HN := Lib.hid (show l = l2 from eq_of_all l l2 hl fun j hj hj2 => HP.out j (by omega) hj hj2)
        clear ha
        go_wp2_with fail
        go_ret
        exact ⟨by rw [decide_eq_true HN.out]; rfl, HA.out⟩
  · have e1 : ((l.length : Int) != (l2.length : Int)) = true := by simp; omega
    have HN := Lib.hid (show ¬ l = l2 from fun e => hl (by rw [e]))
    go_enter Try.func158, Try.ntmps158
    go_wp2_with fail
    go_ret
    exact ⟨by rw [decide_eq_false HN.out]; rfl, Aft.refl _⟩
end Go.Proofs.Ytodifdofgjfkiaa
