/- The document's searches in objects. -/
import Derived.Test.YtodifdofgjfkiaaSpec
namespace Go.Proofs.Ytodifdofgjfkiaa
open Go.RowKit
set_option maxRecDepth 100000
set_option linter.unusedVariables false
set_option maxHeartbeats 1000000 in
theorem rsch_any (A : Option Addr) (cap : Nat) (l : List Sch) (vt : Value) (name : ByteArray) (w : World) (h : SlAt w 2 SchR A cap l) :
    Calls Try.prog 132 #[.agg #[.slice A l.length cap, vt], .string name] w fun e w' => e = .returned (.int .i64 (schAt l name)) ∧ Aft w w' := by
  have hlen := h.len
  go_enter Try.func132, Try.ntmps132
  go_wp2_with fail
  go_loop [5] (fun i => ∃ k : Nat, k ≤ l.length ∧ i = .int .i64 k ∧ ∀ j, j < k → ∀ (hj : j < l.length), eqS l[j].name name = false) (fun i => l.length - (intOf i).toNat)
  case atStart => exact ⟨0, Nat.zero_le _, rfl, fun j hj => absurd hj (Nat.not_lt_zero j)⟩
  case round =>
    obtain ⟨k, hk, rfl, hp⟩ := hrel
    have HP := Lib.hid hp; clear hp
    by_cases hlt : k < l.length
    · obtain ⟨b, off, rfl, hb, c0, c1, hs⟩ := sch_at h hlt
      cases heq : eqS l[k].name name
      · have h2 : (l[k].name.toList == name.toList) = false := heq
        have HN := Lib.hid (ext_lt (p := fun j => ∀ (hj : j < l.length), eqS l[j].name name = false) HP.out (fun _ => heq))
        clear heq
        go_wp2_with fail
        go_round
        case rel => exact ⟨k + 1, by omega, by go_num, HN.out⟩
        case measure => simp [intOf]; omega
      · have h2 : (l[k].name.toList == name.toList) = true := heq
        have HQ := Lib.hid heq
        clear heq
        go_wp2_with fail
        go_ret
        have heq := HQ.out
        exact ⟨by rw [show schAt l name = k from idxP_some (fun c : Sch => eqS c.name name) l k hlt heq (fun i hi => HP.out i hi (by omega))]; rfl, (Aft.refl _).alloc _⟩
    · go_wp2_with fail
      go_ret
      exact ⟨by rw [show schAt l name = -1 from idxP_none (fun c : Sch => eqS c.name name) l (fun i hi => HP.out i (by omega) hi)]; rfl, (Aft.refl _).alloc _⟩
set_option maxHeartbeats 1000000 in
theorem rtab_any (vs : Value) (A : Option Addr) (cap : Nat) (l : List Tab) (s n : ByteArray) (w : World) (h : SlAt w 5 TabR A cap l) :
    Calls Try.prog 75 #[.agg #[vs, .slice A l.length cap], .string s, .string n] w fun e w' => e = .returned (.int .i64 (tabAt l s n)) ∧ Aft w w' := by
  have hlen := h.len
  go_enter Try.func75, Try.ntmps75
  go_wp2_with fail
  go_loop [7] (fun i => ∃ k : Nat, k ≤ l.length ∧ i = .int .i64 k ∧ ∀ j, j < k → ∀ (hj : j < l.length), (eqS l[j].schema s && eqS l[j].name n) = false) (fun i => l.length - (intOf i).toNat)
  case atStart => exact ⟨0, Nat.zero_le _, rfl, fun j hj => absurd hj (Nat.not_lt_zero j)⟩
  case round =>
    obtain ⟨k, hk, rfl, hp⟩ := hrel
    have HP := Lib.hid hp; clear hp
    by_cases hlt : k < l.length
    · obtain ⟨b, off, B2, capB2, B3, capB3, rfl, hb, c0, c1, c2, c3, c4, hcols, hrules, hss⟩ := tab_at h hlt
      clear hcols hrules hss
      cases heq : eqS l[k].schema s
      · have h2 : (l[k].schema.toList == s.toList) = false := heq
        have HN := Lib.hid (ext_lt (p := fun j => ∀ (hj : j < l.length), (eqS l[j].schema s && eqS l[j].name n) = false) HP.out (fun _ => by rw [heq]; rfl))
        clear heq
        go_wp2_with fail
        go_round
        case rel => exact ⟨k + 1, by omega, by go_num, HN.out⟩
        case measure => simp [intOf]; omega
      have h2 : (l[k].schema.toList == s.toList) = true := heq
      cases heq2 : eqS l[k].name n
      · have h3 : (l[k].name.toList == n.toList) = false := heq2
        have HN := Lib.hid (ext_lt (p := fun j => ∀ (hj : j < l.length), (eqS l[j].schema s && eqS l[j].name n) = false) HP.out (fun _ => by rw [heq, heq2]; rfl))
        clear heq heq2
        go_wp2_with fail
        go_round
        case rel => exact ⟨k + 1, by omega, by go_num, HN.out⟩
        case measure => simp [intOf]; omega
      · have h3 : (l[k].name.toList == n.toList) = true := heq2
        have HQ := Lib.hid (show (eqS l[k].schema s && eqS l[k].name n) = true by rw [heq, heq2]; rfl)
        clear heq heq2
        go_wp2_with fail
        go_ret
        have heq := HQ.out
        exact ⟨by rw [show tabAt l s n = k from idxP_some (fun t : Tab => eqS t.schema s && eqS t.name n) l k hlt heq (fun i hi => HP.out i hi (by omega))]; rfl, (Aft.refl _).alloc _⟩
    · go_wp2_with fail
      go_ret
      exact ⟨by rw [show tabAt l s n = -1 from idxP_none (fun t : Tab => eqS t.schema s && eqS t.name n) l (fun i hi => HP.out i (by omega) hi)]; rfl, (Aft.refl _).alloc _⟩
set_option maxHeartbeats 1000000 in
theorem rtabs_any (vs : Value) (A : Option Addr) (cap : Nat) (l : List Tab) (s : ByteArray) (w : World) (h : SlAt w 5 TabR A cap l) :
    Calls Try.prog 131 #[.agg #[vs, .slice A l.length cap], .string s] w fun e w' => e = .returned (.int .i64 (within l s)) ∧ Aft w w' := by
  have hlen := h.len
  go_enter Try.func131, Try.ntmps131
  go_wp2_with fail
  go_loop [5, 6] (fun n i => ∃ k : Nat, k ≤ l.length ∧ i = .int .i64 k ∧ n = .int .i64 (within (l.take k) s)) (fun _ i => l.length - (intOf i).toNat)
  case atStart => exact ⟨0, Nat.zero_le _, rfl, rfl⟩
  case round =>
    obtain ⟨k, hk, rfl, rfl⟩ := hrel
    have hw := within_le (l.take k) s
    have hw2 : (l.take k).length ≤ k := List.length_take_le _ _
    by_cases hlt : k < l.length
    · obtain ⟨b, off, A2, cap2, A3, cap3, rfl, hb, c0, c1, c2, c3, c4, hs⟩ := tab_at h hlt
      clear hs
      have HS := Lib.hid (within_succ l s k hlt)
      cases heq : eqS l[k].schema s
      · have h2 : (l[k].schema.toList == s.toList) = false := heq
        have HN := Lib.hid (show within (l.take (k + 1)) s = within (l.take k) s by rw [HS.out, heq]; simp)
        clear heq HS
        go_wp2_with fail
        go_round
        case rel => exact ⟨k + 1, by omega, by go_num, by rw [HN.out]⟩
        case measure => simp [intOf]; omega
      · have h2 : (l[k].schema.toList == s.toList) = true := heq
        have HN := Lib.hid (show within (l.take (k + 1)) s = within (l.take k) s + 1 by rw [HS.out, heq]; simp)
        clear heq HS
        go_wp2_with fail
        go_round
        case rel => exact ⟨k + 1, by omega, by go_num, by rw [HN.out]; go_num⟩
        case measure => simp [intOf]; omega
    · go_wp2_with fail
      go_ret
      exact ⟨by rw [List.take_of_length_le (by omega)]; rfl, (Aft.refl _).alloc _⟩
end Go.Proofs.Ytodifdofgjfkiaa
