/- Values of a row: how they lie; May; Same. -/
import Derived.Test.YtodifdofgjfkiaaSIdx
import Derived.Test.YtodifdofgjfkiaaLaw
namespace Go.Proofs.Ytodifdofgjfkiaa
open Go.RowKit
set_option maxRecDepth 100000
set_option linter.unusedVariables false
structure Val where
  kind : Int
  int : Int
  text : ByteArray
def ValR (_ : World) (cs : List Value) (v : Val) : Prop := cs = [.int .i64 v.kind, .int .i64 v.int, .string v.text] ∧ Small v.text.size
theorem vals_aft {w w' : World} {A : Option Addr} {cap : Nat} {l : List Val} (hw : Aft w w') (h : SlAt w 3 ValR A cap l) : SlAt w' 3 ValR A cap l := h.aft hw fun _ _ h => h
theorem val_at {w : World} {A : Option Addr} {cap : Nat} {l : List Val} (h : SlAt w 3 ValR A cap l) {k : Nat} (hk : k < l.length) :
    ∃ b off, A = some ⟨b, off, none⟩ ∧ b < w.heap.size ∧ w.cell? ⟨b, off + k * 3, none⟩ = some (.int .i64 l[k].kind) ∧ w.cell? ⟨b, off + k * 3 + 1, none⟩ = some (.int .i64 l[k].int) ∧ w.cell? ⟨b, off + k * 3 + 2, none⟩ = some (.string l[k].text) ∧ Small l[k].text.size := by
  obtain ⟨b, off, cs, hA, hb, hl, ⟨rfl, hs⟩, hc⟩ := h.2.2 k hk
  exact ⟨b, off, hA, hb, by simpa using hc 0 (by omega), by simpa [Nat.add_assoc] using hc 1 (by omega), by simpa [Nat.add_assoc] using hc 2 (by omega), hs⟩
def eqV3 (k n : Int) (s : ByteArray) (k' n' : Int) (s' : ByteArray) : Bool := k == k' && (n == n' && eqS s s')
def eqV (a b : Val) : Bool := eqV3 a.kind a.int a.text b.kind b.int b.text
theorem fieldsVal : (Try.prog.fieldsOf 48).toList.map (fun f => (f.name == "_", f.type, f.offset)) = [(false, 38, 0), (false, 3, 1), (false, 9, 2)] := by kernel_rfl
theorem run_eqVal (w : World) (k n : Int) (s : ByteArray) (k' n' : Int) (s' : ByteArray) :
    (Op.equalIn 10000 48 (.agg #[.int .i64 k, .int .i64 n, .string s]) (.agg #[.int .i64 k', .int .i64 n', .string s'])).run Try.prog w = .ok (eqV3 k n s k' n' s') w := by
  cases h1 : (k == k') <;> cases h2 : (n == n') <;> cases h3 : eqS s s' <;> (have h3' := h3; unfold eqS at h3') <;> go_simp <;> simp_all [eqV3]
@[go_sem ↓] theorem run_eqlVal (w : World) (k n : Int) (s : ByteArray) (k' n' : Int) (s' : ByteArray) :
    (binOp .eql 48 (.agg #[.int .i64 k, .int .i64 n, .string s]) (.agg #[.int .i64 k', .int .i64 n', .string s'])).run Try.prog w = .ok (.bool (eqV3 k n s k' n' s')) w := by
  rw [run_eql_struct, run_eqVal]; rfl
@[go_sem ↓] theorem run_neqVal (w : World) (k n : Int) (s : ByteArray) (k' n' : Int) (s' : ByteArray) :
    (binOp .neq 48 (.agg #[.int .i64 k, .int .i64 n, .string s]) (.agg #[.int .i64 k', .int .i64 n', .string s'])).run Try.prog w = .ok (.bool (!eqV3 k n s k' n' s')) w := by
  rw [run_neq_struct, run_eqVal]; rfl
/-- the same values -/
def eqVs : List Val → List Val → Bool
  | [], [] => true
  | a :: l, b :: m => eqV a b && eqVs l m
  | _, _ => false
theorem eqV_refl (a : Val) : eqV a a = true := by simp [eqV, eqV3, eqS]
theorem eqV_iff (a b : Val) : eqV a b = true ↔ a.kind = b.kind ∧ a.int = b.int ∧ eqS a.text b.text = true := by simp [eqV, eqV3]
theorem eqVs_refl : ∀ l, eqVs l l = true
  | [] => rfl
  | a :: l => by rw [eqVs, eqV_refl, eqVs_refl l]; rfl
theorem eqVs_len : ∀ (l m : List Val), ¬ l.length = m.length → eqVs l m = false
  | [], [], h => absurd rfl h
  | [], _ :: _, _ => rfl
  | _ :: _, [], _ => rfl
  | a :: l, b :: m, h => by rw [eqVs, eqVs_len l m (by simpa using h), Bool.and_false]
theorem eqVs_false : ∀ (l m : List Val) (k : Nat) (h1 : k < l.length) (h2 : k < m.length), eqV l[k] m[k] = false → eqVs l m = false
  | [], _, _, h, _, _ => by simp at h
  | _ :: _, [], _, _, h, _ => by simp at h
  | a :: l, b :: m, 0, _, _, h => by rw [eqVs, show eqV a b = false from h]; rfl
  | a :: l, b :: m, k + 1, h1, h2, h => by rw [eqVs, eqVs_false l m k (by simpa using h1) (by simpa using h2) h, Bool.and_false]
theorem eqVs_true : ∀ (l m : List Val), l.length = m.length → (∀ k (h1 : k < l.length) (h2 : k < m.length), eqV l[k] m[k] = true) → eqVs l m = true
  | [], [], _, _ => rfl
  | [], _ :: _, h, _ => by simp at h
  | _ :: _, [], h, _ => by simp at h
  | a :: l, b :: m, h, hp => by
    rw [eqVs, show eqV a b = true from hp 0 (by simp) (by simp), eqVs_true l m (by simpa using h) fun k h1 h2 => hp (k + 1) (Nat.succ_lt_succ h1) (Nat.succ_lt_succ h2)]; rfl
set_option maxHeartbeats 1000000 in
theorem eqVal_any (A : Option Addr) (cap : Nat) (l : List Val) (A2 : Option Addr) (cap2 : Nat) (l2 : List Val) (w : World) (h : SlAt w 3 ValR A cap l) (h2 : SlAt w 3 ValR A2 cap2 l2) :
    Calls Try.prog 98 #[.slice A l.length cap, .slice A2 l2.length cap2] w fun e w' => e = .returned (.bool (eqVs l l2)) ∧ Aft w w' := by
  have hlen := h.len
  have hlen2 := h2.len
  by_cases hl : l.length = l2.length
  · have e1 : ((l.length : Int) != (l2.length : Int)) = false := by simp [hl]
    go_enter Try.func98, Try.ntmps98
    go_wp2_with fail
    go_loopw [13] (fun i wr => ∃ k : Nat, k ≤ l.length ∧ i = .int .i64 k ∧ Aft w wr ∧ ∀ j, j < k → ∀ (hj : j < l.length) (hj2 : j < l2.length), eqV l[j] l2[j] = true) (fun i _ => l.length - (intOf i).toNat)
    case atStart => exact ⟨0, Nat.zero_le _, rfl, Aft.refl _, fun j hj => absurd hj (Nat.not_lt_zero j)⟩
    case round =>
      obtain ⟨k, hk, rfl, ha, hp⟩ := hrel
      have HA := Lib.hid ha
      have HP := Lib.hid hp; clear hp
      by_cases hlt : k < l.length
      · have hlt2 : k < l2.length := by omega
        obtain ⟨b, off, rfl, hb, c0, c1, c2, _⟩ := val_at (vals_aft ha h) hlt
        obtain ⟨b2, off2, rfl, hb2, d0, d1, d2, _⟩ := val_at (vals_aft ha h2) hlt2
        clear ha
        cases heq : eqV l[k] l2[k]
        · have h3 : eqV3 l[k].kind l[k].int l[k].text l2[k].kind l2[k].int l2[k].text = false := heq
          have HN := Lib.hid (eqVs_false l l2 k hlt hlt2 heq)
          clear heq
          go_wp2_with fail
          refine wp_region_lat (by kernel_rfl) (by kernel_rfl) ?_
          repeat (go_big_quiet_step (fail))
          refine wpQuiet_nil ?_
          intro _ hw'
          obtain ⟨x, hw''⟩ := hw'
          subst hw''
          go_wp2_with fail
          go_ret
          exact ⟨by rw [HN.out]; rfl, HA.out.lat x⟩
        · have h3 : eqV3 l[k].kind l[k].int l[k].text l2[k].kind l2[k].int l2[k].text = true := heq
          have HN := Lib.hid (ext_lt (p := fun j => ∀ (hj : j < l.length) (hj2 : j < l2.length), eqV l[j] l2[j] = true) HP.out (fun _ _ => heq))
          clear heq
          go_wp2_with fail
          refine wp_region_lat (by kernel_rfl) (by kernel_rfl) ?_
          repeat (go_big_quiet_step (fail))
          refine wpQuiet_nil ?_
          intro _ hw'
          obtain ⟨x, hw''⟩ := hw'
          subst hw''
          go_wp2_with fail
          go_roundw
          case rel => exact ⟨k + 1, by omega, by go_num, HA.out.lat x, HN.out⟩
          case measure => simp [intOf]; omega
      · have HN := Lib.hid (eqVs_true l l2 hl fun j hj hj2 => HP.out j (by omega) hj hj2)
        clear ha
        go_wp2_with fail
        go_ret
        exact ⟨by rw [HN.out]; rfl, HA.out⟩
  · have e1 : ((l.length : Int) != (l2.length : Int)) = true := by simp; omega
    have HN := Lib.hid (eqVs_len l l2 hl)
    go_enter Try.func98, Try.ntmps98
    go_wp2_with fail
    go_ret
    exact ⟨by rw [HN.out]; rfl, Aft.refl _⟩
set_option maxHeartbeats 1000000 in
theorem rsame_any (A : Option Addr) (cap : Nat) (l : List Val) (A2 : Option Addr) (cap2 : Nat) (l2 : List Val) (w : World) (h : SlAt w 3 ValR A cap l) (h2 : SlAt w 3 ValR A2 cap2 l2) :
    Calls Try.prog 39 #[.slice A l.length cap, .slice A2 l2.length cap2] w fun e w' => e = .returned (.bool (eqVs l l2)) ∧ Aft w w' := by
  have hlen := h.len
  have hlen2 := h2.len
  by_cases hl : l.length = l2.length
  · have e1 : ((l.length : Int) != (l2.length : Int)) = false := by simp [hl]
    go_enter Try.func39, Try.ntmps39
    go_wp2_with fail
    go_loopw [5] (fun i wr => ∃ k : Nat, k ≤ l.length ∧ i = .int .i64 k ∧ Aft w wr ∧ ∀ j, j < k → ∀ (hj : j < l.length) (hj2 : j < l2.length), eqV l[j] l2[j] = true) (fun i _ => l.length - (intOf i).toNat)
    case atStart => exact ⟨0, Nat.zero_le _, rfl, Aft.refl _, fun j hj => absurd hj (Nat.not_lt_zero j)⟩
    case round =>
      obtain ⟨k, hk, rfl, ha, hp⟩ := hrel
      have HA := Lib.hid ha
      have HP := Lib.hid hp; clear hp
      by_cases hlt : k < l.length
      · have hlt2 : k < l2.length := by omega
        obtain ⟨b, off, rfl, hb, c0, c1, c2, _⟩ := val_at (vals_aft ha h) hlt
        obtain ⟨b2, off2, rfl, hb2, d0, d1, d2, _⟩ := val_at (vals_aft ha h2) hlt2
        clear ha
        cases heq : eqV l[k] l2[k]
        · have h3 : eqV3 l[k].kind l[k].int l[k].text l2[k].kind l2[k].int l2[k].text = false := heq
          have HN := Lib.hid (eqVs_false l l2 k hlt hlt2 heq)
          clear heq
          go_wp2_with fail
          refine wp_region_lat (by kernel_rfl) (by kernel_rfl) ?_
          repeat (go_big_quiet_step (fail))
          refine wpQuiet_nil ?_
          intro _ hw'
          obtain ⟨x, hw''⟩ := hw'
          subst hw''
          go_wp2_with fail
          go_ret
          exact ⟨by rw [HN.out]; rfl, HA.out.lat x⟩
        · have h3 : eqV3 l[k].kind l[k].int l[k].text l2[k].kind l2[k].int l2[k].text = true := heq
          have HN := Lib.hid (ext_lt (p := fun j => ∀ (hj : j < l.length) (hj2 : j < l2.length), eqV l[j] l2[j] = true) HP.out (fun _ _ => heq))
          clear heq
          go_wp2_with fail
          refine wp_region_lat (by kernel_rfl) (by kernel_rfl) ?_
          repeat (go_big_quiet_step (fail))
          refine wpQuiet_nil ?_
          intro _ hw'
          obtain ⟨x, hw''⟩ := hw'
          subst hw''
          go_wp2_with fail
          go_roundw
          case rel => exact ⟨k + 1, by omega, by go_num, HA.out.lat x, HN.out⟩
          case measure => simp [intOf]; omega
      · have HN := Lib.hid (eqVs_true l l2 hl fun j hj hj2 => HP.out j (by omega) hj hj2)
        clear ha
        go_wp2_with fail
        go_ret
        exact ⟨by rw [HN.out]; rfl, HA.out⟩
  · have e1 : ((l.length : Int) != (l2.length : Int)) = true := by simp; omega
    have HN := Lib.hid (eqVs_len l l2 hl)
    go_enter Try.func39, Try.ntmps39
    go_wp2_with fail
    go_ret
    exact ⟨by rw [HN.out]; rfl, Aft.refl _⟩
theorem same_any (A : Option Addr) (cap : Nat) (l : List Val) (A2 : Option Addr) (cap2 : Nat) (l2 : List Val) (w : World) (h : SlAt w 3 ValR A cap l) (h2 : SlAt w 3 ValR A2 cap2 l2) :
    Calls Try.prog 38 #[.slice A l.length cap, .slice A2 l2.length cap2] w fun e w' => e = .returned (.bool (eqVs l l2)) ∧ Aft w w' := by
  have C := Lib.hid (eqVal_any A cap l A2 cap2 l2 w h h2)
  go_enter Try.func38, Try.ntmps38
  go_wp2_with fail
  refine C.out.mono ?_
  rintro e w1 ⟨rfl, a1⟩
  have HA := Lib.hid a1
  clear a1
  go_wp2_with fail
  go_ret
  exact ⟨rfl, HA.out⟩
/-- may a value be? -/
def mayV (v : Val) : Bool := if v.kind == 1 then v.int == 0 && emp v.text else if v.kind == 2 then emp v.text else if v.kind == 3 then v.int == 0 && decide ((v.text.size : Int) ≤ 32) else false
theorem emp_size (s : ByteArray) : emp s = decide (s.size = 0) := isEmpty_iff s
theorem eqS_nil (s : ByteArray) : eqS s ⟨#[]⟩ = emp s := by
  have e : (⟨#[]⟩ : ByteArray).toList = [] := by decide +kernel
  rw [Bool.eq_iff_iff]; unfold eqS emp; rw [e]; simp
set_option maxHeartbeats 2000000 in
theorem may_any (v : Val) (w : World) (hs : Small v.text.size) :
    Calls Try.prog 35 #[.agg #[.int .i64 v.kind, .int .i64 v.int, .string v.text]] w fun e w' => e = .returned (.bool (mayV v)) ∧ Aft w w' := by
  have l1 : w.heap.size < w.heap.size + 1 := by omega
  have l2 : w.heap.size < w.heap.size + 1 + 1 := by omega
  have hm := hs.le
  obtain ⟨kind, int, text⟩ := v
  simp only at hs hm ⊢
  by_cases k2 : kind = 2
  · subst k2
    cases hE : emp text
    · have q : eqV3 2 int text 2 int ⟨#[]⟩ = false := by simp [eqV3, eqS_nil, hE]
      have HF := Lib.hid (show mayV ⟨2, int, text⟩ = false by simp [mayV, hE])
      go_enter Try.func35, Try.ntmps35
      go_wp2_with fail
      go_ret
      exact ⟨by rw [HF.out]; rfl, ((Aft.refl _).alloc _).alloc _⟩
    · have q : eqV3 2 int text 2 int ⟨#[]⟩ = true := by simp [eqV3, eqS_nil, hE]
      have z : text.size = 0 := by rw [emp_size] at hE; exact of_decide_eq_true hE
      have z' : (text.size : Int) ≤ 32 := by omega
      have HF := Lib.hid (show mayV ⟨2, int, text⟩ = true by simp [mayV, hE])
      go_enter Try.func35, Try.ntmps35
      go_wp2_with fail
      go_ret
      exact ⟨by rw [HF.out]; simp, ((Aft.refl _).alloc _).alloc _⟩
  by_cases k3 : kind = 3
  · subst k3
    by_cases hi : int = 0
    · subst hi
      have q : eqV3 3 0 text 3 0 text = true := by simp [eqV3, eqS]
      have HF := Lib.hid (show mayV ⟨3, 0, text⟩ = decide ((text.size : Int) ≤ 32) by simp [mayV])
      go_enter Try.func35, Try.ntmps35
      go_wp2_with fail
      go_ret
      exact ⟨by rw [HF.out]; rfl, ((Aft.refl _).alloc _).alloc _⟩
    · have q : eqV3 3 int text 3 0 text = false := by simp [eqV3, hi]
      have HF := Lib.hid (show mayV ⟨3, int, text⟩ = false by simp [mayV, hi])
      go_enter Try.func35, Try.ntmps35
      go_wp2_with fail
      go_ret
      exact ⟨by rw [HF.out]; rfl, ((Aft.refl _).alloc _).alloc _⟩
  by_cases k1 : kind = 1
  · subst k1
    cases hE : (int == 0 && emp text)
    · have q : eqV3 1 int text 1 0 ⟨#[]⟩ = false := by simpa [eqV3, eqS_nil] using hE
      have HF := Lib.hid (show mayV ⟨1, int, text⟩ = false by simpa [mayV] using hE)
      go_enter Try.func35, Try.ntmps35
      go_wp2_with fail
      go_ret
      exact ⟨by rw [HF.out]; rfl, ((Aft.refl _).alloc _).alloc _⟩
    · have q : eqV3 1 int text 1 0 ⟨#[]⟩ = true := by simpa [eqV3, eqS_nil] using hE
      have z : text.size = 0 := by simp only [Bool.and_eq_true] at hE; have := hE.2; rw [emp_size] at this; exact of_decide_eq_true this
      have z' : (text.size : Int) ≤ 32 := by omega
      have HF := Lib.hid (show mayV ⟨1, int, text⟩ = true by simpa [mayV] using hE)
      go_enter Try.func35, Try.ntmps35
      go_wp2_with fail
      go_ret
      exact ⟨by rw [HF.out]; simp, ((Aft.refl _).alloc _).alloc _⟩
  have q1 : (kind == 1) = false := by simpa using k1
  have q2 : (kind == 2) = false := by simpa using k2
  have q3 : (kind == 3) = false := by simpa using k3
  have HF := Lib.hid (show mayV ⟨kind, int, text⟩ = false by simp [mayV, k1, k2, k3])
  go_enter Try.func35, Try.ntmps35
  go_wp2_with fail
  go_ret
  exact ⟨by rw [HF.out]; rfl, ((Aft.refl _).alloc _).alloc _⟩
set_option maxHeartbeats 2000000 in
theorem rmay_any (v : Val) (w : World) (hs : Small v.text.size) :
    Calls Try.prog 36 #[.agg #[.int .i64 v.kind, .int .i64 v.int, .string v.text]] w fun e w' => e = .returned (.bool (mayV v)) ∧ Aft w w' := by
  have hm := hs.le
  obtain ⟨kind, int, text⟩ := v
  simp only at hs hm ⊢
  have HE := Lib.hid (show emp text = text.toList.isEmpty from rfl)
  by_cases k2 : kind = 2
  · subst k2
    have HF := Lib.hid (show mayV ⟨2, int, text⟩ = emp text by simp [mayV])
    go_enter Try.func36, Try.ntmps36
    go_wp2_with fail
    go_ret
    exact ⟨by rw [HF.out, HE.out]; rfl, (Aft.refl _).alloc _⟩
  by_cases k3 : kind = 3
  · subst k3
    cases hi : (int == 0)
    · have HF := Lib.hid (show mayV ⟨3, int, text⟩ = false by simp [mayV, hi])
      go_enter Try.func36, Try.ntmps36
      go_wp2_with fail
      go_ret
      exact ⟨by rw [HF.out]; rfl, (Aft.refl _).alloc _⟩
    · have HF := Lib.hid (show mayV ⟨3, int, text⟩ = decide ((text.size : Int) ≤ 32) by simp [mayV, hi])
      go_enter Try.func36, Try.ntmps36
      go_wp2_with fail
      go_ret
      exact ⟨by rw [HF.out]; rfl, (Aft.refl _).alloc _⟩
  by_cases k1 : kind = 1
  · subst k1
    cases hi : (int == 0)
    · have HF := Lib.hid (show mayV ⟨1, int, text⟩ = false by simp [mayV, hi])
      go_enter Try.func36, Try.ntmps36
      go_wp2_with fail
      go_ret
      exact ⟨by rw [HF.out]; rfl, (Aft.refl _).alloc _⟩
    · have HF := Lib.hid (show mayV ⟨1, int, text⟩ = emp text by simp [mayV, hi])
      go_enter Try.func36, Try.ntmps36
      go_wp2_with fail
      go_ret
      exact ⟨by rw [HF.out, HE.out]; rfl, (Aft.refl _).alloc _⟩
  have q1 : (kind == 1) = false := by simpa using k1
  have q2 : (kind == 2) = false := by simpa using k2
  have q3 : (kind == 3) = false := by simpa using k3
  have HF := Lib.hid (show mayV ⟨kind, int, text⟩ = false by simp [mayV, k1, k2, k3])
  go_enter Try.func36, Try.ntmps36
  go_wp2_with fail
  go_ret
  exact ⟨by rw [HF.out]; rfl, (Aft.refl _).alloc _⟩
end Go.Proofs.Ytodifdofgjfkiaa
