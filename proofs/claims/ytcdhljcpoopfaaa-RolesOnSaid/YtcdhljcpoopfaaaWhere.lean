/- objects.where, within. -/
import Derived.Test.YtcdhljcpoopfaaaBy
namespace Go.Proofs.Ytcdhljcpoopfaaa
open Go.RowKit
set_option maxRecDepth 100000
set_option linter.unusedVariables false
def tabAt (l : List Tab) (s n : ByteArray) : Int := idxP (fun t => eqS t.schema s && eqS t.name n) l
set_option maxHeartbeats 1000000 in
theorem where1 (schema name owner : ByteArray) (A0 : Option Addr) (n0 c0 : Nat) (A1 : Option Addr) (n1 c1 : Nat) (s n : ByteArray) (b1 b2 : Nat) (w : World) (hb1 : b1 < w.heap.size) (hb2 : b2 < w.heap.size) (hc1 : w.cell? ⟨b1, 0, none⟩ = some (.string s)) (hc2 : w.cell? ⟨b2, 0, none⟩ = some (.string n)) :
    Calls Try.prog 131 #[.agg #[.string schema, .string name, .string owner, .slice A0 n0 c0, .slice A1 n1 c1], .pointer (some ⟨b1, 0, none⟩), .pointer (some ⟨b2, 0, none⟩)] w fun e w' => e = .returned (.bool (eqS schema s && eqS name n)) ∧ Aft w w' := by
  cases h1 : eqS schema s
  · have h1' : (schema.toList == s.toList) = false := h1
    clear h1
    go_enter Try.func131, Try.ntmps131
    go_wp2_with fail
    go_ret
    exact ⟨rfl, (Aft.refl _).alloc _⟩
  · have h1' : (schema.toList == s.toList) = true := h1
    clear h1
    go_enter Try.func131, Try.ntmps131
    go_wp2_with fail
    go_ret
    exact ⟨rfl, (Aft.refl _).alloc _⟩
theorem aft_three {w w' : World} {c : Array Value} {a b : Value} {t ta tb : TypeId} (h : Aft (((w.alloc (.cells c t)).alloc (.cells #[a] ta)).alloc (.cells #[b] tb)) w') :
    w'.cell? ⟨w.heap.size + 1, 0, none⟩ = some a ∧ w'.cell? ⟨w.heap.size + 1 + 1, 0, none⟩ = some b ∧ w.heap.size + 1 < w'.heap.size ∧ w.heap.size + 1 + 1 < w'.heap.size := by
  have := aft_two (w := w.alloc (.cells c t)) h
  simpa using this
set_option maxHeartbeats 1000000 in
theorem where_any (vs : Value) (A : Option Addr) (cap : Nat) (l : List Tab) (s n : ByteArray) (w : World) (h : SlAt w 5 TabR A cap l) :
    Calls Try.prog 93 #[.agg #[vs, .slice A l.length cap], .string s, .string n] w fun e w' => e = .returned (.tuple #[.int .i64 (tabAt l s n), .bool (decide (0 ≤ tabAt l s n))]) ∧ Aft w w' := by
  have hent := enters (P := Try.prog) Try.func131 (by kernel_rfl) rfl
  obtain ⟨i, hi⟩ : ∃ i, tabAt l s n = i := ⟨_, rfl⟩
  have C := Lib.hid ((idxTab A cap l 131 #[.pointer (some ⟨w.heap.size + 1, 0, none⟩), .pointer (some ⟨w.heap.size + 1 + 1, 0, none⟩)] (fun t => eqS t.schema s && eqS t.name n) (((w.alloc (.cells #[vs, .slice A l.length cap] 45)).alloc (.cells #[.string s] 9)).alloc (.cells #[.string n] 9)) (tabs_aft ((((Aft.refl w).alloc _).alloc _).alloc _) h) hent (fun w' ha j hj e1 he => by
    obtain ⟨A2, cap2, A3, cap3, rfl, _⟩ := he
    obtain ⟨d1, d2, z1, z2⟩ := aft_three ha
    exact where1 _ _ _ A2 _ cap2 A3 _ cap3 s n (w.heap.size + 1) (w.heap.size + 1 + 1) w' z1 z2 d1 d2)).mono (fun e w' ⟨he, hw⟩ => (⟨he.trans (by rw [← hi]; rfl), hw⟩ : e = Ending.returned (Value.int .i64 i) ∧ Aft _ w')))
  rw [hi]
  clear hi
  go_enter Try.func93, Try.ntmps93
  go_wp2_with fail
  refine C.out.mono ?_
  rintro e w1 ⟨rfl, a1⟩
  have HA := Lib.hid (((((Aft.refl w).alloc _).alloc _).alloc _).trans a1)
  clear a1
  go_wp2_with fail
  go_ret2
  exact ⟨rfl, HA.out⟩
/-- how many tables a schema has -/
def within (l : List Tab) (s : ByteArray) : Nat := (l.filter fun t => eqS t.schema s).length
theorem within_succ (l : List Tab) (s : ByteArray) (k : Nat) (hk : k < l.length) : within (l.take (k + 1)) s = within (l.take k) s + if eqS l[k].schema s = true then 1 else 0 := by
  unfold within
  rw [List.take_succ_eq_append_getElem hk, List.filter_append, List.length_append]
  by_cases h : eqS l[k].schema s = true <;> simp [h]
theorem within_le (l : List Tab) (s : ByteArray) : within l s ≤ l.length := List.length_filter_le _ _
set_option maxHeartbeats 1000000 in
theorem within_any (vs : Value) (A : Option Addr) (cap : Nat) (l : List Tab) (s : ByteArray) (w : World) (h : SlAt w 5 TabR A cap l) :
    Calls Try.prog 87 #[.agg #[vs, .slice A l.length cap], .string s] w fun e w' => e = .returned (.int .i64 (within l s)) ∧ Aft w w' := by
  have hlen := h.len
  go_enter Try.func87, Try.ntmps87
  go_wp2_with fail
  go_loopw [5, 11] (fun n i wr => ∃ k : Nat, k ≤ l.length ∧ i = .int .i64 k ∧ n = .int .i64 (within (l.take k) s) ∧ Aft w wr) (fun _ i _ => l.length - (intOf i).toNat)
  case atStart => exact ⟨0, Nat.zero_le _, rfl, rfl, (Aft.refl _).alloc _⟩
  case round =>
    obtain ⟨k, hk, rfl, rfl, ha⟩ := hrel
    have HA := Lib.hid ha
    have hw := within_le (l.take k) s
    have hw2 : (l.take k).length ≤ k := List.length_take_le _ _
    by_cases hlt : k < l.length
    · have hsl := tabs_aft ha h
      clear ha
      obtain ⟨b, off, A2, cap2, A3, cap3, rfl, hb, c0, c1, c2, c3, c4, hs⟩ := tab_at hsl hlt
      clear hsl hs
      have HS := Lib.hid (within_succ l s k hlt)
      cases heq : eqS l[k].schema s
      · have h2 : (l[k].schema.toList == s.toList) = false := heq
        have HN := Lib.hid (show within (l.take (k + 1)) s = within (l.take k) s by rw [HS.out, heq]; simp)
        clear heq HS
        go_wp2_with fail
        go_roundw
        case rel => exact ⟨k + 1, by omega, by go_num, by rw [HN.out], HA.out.alloc _⟩
        case measure => simp [intOf]; omega
      · have h2 : (l[k].schema.toList == s.toList) = true := heq
        have HN := Lib.hid (show within (l.take (k + 1)) s = within (l.take k) s + 1 by rw [HS.out, heq]; simp)
        clear heq HS
        go_wp2_with fail
        go_roundw
        case rel => exact ⟨k + 1, by omega, by go_num, by rw [HN.out]; go_num, HA.out.alloc _⟩
        case measure => simp [intOf]; omega
    · clear ha
      go_wp2_with fail
      go_ret
      exact ⟨by rw [List.take_of_length_le (by omega)]; rfl, HA.out⟩
end Go.Proofs.Ytcdhljcpoopfaaa
