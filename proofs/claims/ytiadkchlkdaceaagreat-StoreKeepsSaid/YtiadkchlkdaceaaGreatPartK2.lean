/- Contracts of the program, part 2. -/
import Derived.WalkKit
import Derived.WalkSpells
import Derived.WalkLawsBesides
import Derived.Lib.Bytealg
import Derived.Lib.Hide
import Derived.Test.YtiadkchlkdaceaaGreatRows
import Derived.ProofKit
import Derived.OpenShut
import Derived.Deep.Slices
import Derived.ChangeOld
import Derived.SizedLaws
import Derived.Deep.QuietTactic
import Derived.BigQuiet
import Derived.Below
import Derived.Deep.Draws
import Derived.StillTailTactics
import Derived.Laws.Cells
import Derived.Laws.IdiomCopy
import Derived.Test.YtiadkchlkdaceaaGreatPartK1
namespace Go.Proofs.YtiadkchlkdaceaaGreat
open Go.RowKit
set_option maxRecDepth 100000

theorem indexLet (c : UInt8) (w : World) :
    Calls Tryz.prog 84 #[.string { data := #[97, 98, 99, 100, 101, 102, 103, 104, 105, 106, 107, 108, 109, 110, 111, 112, 113, 114, 115, 116, 117, 118, 119, 120, 121, 122] }, .int .u8 c.toNat] w fun e w' => e = .returned (.int .i64 (ltIdx c)) ∧ w = w' := by
  refine (indexByte _ _ w).mono ?_
  rintro e w' ⟨rfl, rfl⟩
  refine ⟨?_, rfl⟩
  have : ((c.toNat : Int).toNat.toUInt8) = c := by simp
  rw [this]; rfl
theorem indexPl (c : UInt8) (w : World) :
    Calls Tryz.prog 84 #[.string { data := #[97, 98, 99, 100, 101, 102, 103, 104, 105, 106, 107, 108, 109, 110, 111, 112, 113, 114, 115, 116, 117, 118, 119, 120, 121, 122, 48, 49, 50, 51, 52, 53, 54, 55, 56, 57, 95] }, .int .u8 c.toNat] w fun e w' => e = .returned (.int .i64 (plIdx c)) ∧ w = w' := by
  refine (indexByte _ _ w).mono ?_
  rintro e w' ⟨rfl, rfl⟩
  refine ⟨?_, rfl⟩
  have : ((c.toNat : Int).toNat.toUInt8) = c := by simp
  rw [this]; rfl

set_option maxHeartbeats 400000 in
theorem plain_any (s : ByteArray) (w : World) (hs : s.size ≤ maxLen) :
    Calls Tryz.prog 85 #[.string s] w fun e w' => e = .returned (.bool (plB s)) ∧ w = w' := by
  unfold maxLen at hs
  go_enter Tryz.func85, Tryz.ntmps85
  go_wp2_with fail
  go_loop [6] (fun i => ∃ k : Nat, k ≤ s.size ∧ i = .int .i64 k ∧ (s.data.toList.take k).all isPl = true) (fun i => s.size - (intOf i).toNat)
  case atStart => exact ⟨0, Nat.zero_le _, rfl, rfl⟩
  case round =>
    obtain ⟨k, hk, rfl, ha⟩ := hrel
    have HA := Lib.hid ha; clear ha
    by_cases hlt : k < s.size
    · go_wp2_with (go_at_call 84; refine (indexPl _ _).mono ?_; rintro e w' ⟨rfl, rfl⟩)
      · have hp : isPl s[k] = false := (plIdx_iff _).1 (by assumption)
        go_ret
        exact ⟨by rw [pl_false s k hlt hp]; rfl, rfl⟩
      · have hp : isPl s[k] = true := by
          have h0 : 0 ≤ plIdx s[k] := by assumption
          have := plIdx_iff s[k]
          cases h : isPl s[k]
          · have := this.2 h; omega
          · rfl
        go_round
        case rel => exact ⟨k + 1, by omega, by go_num, by rw [pl_succ s k hlt, HA.out, hp]; rfl⟩
        case measure => simp [intOf]; omega
    · go_wp2_with fail
      go_ret
      exact ⟨by rw [pl_true s k hlt HA.out]; rfl, rfl⟩

theorem toList_nil_iff (s : ByteArray) : s.toList = [] ↔ s.size = 0 := by
  rw [ByteArray.toList_eq]
  rw [← List.length_eq_zero_iff, ba_length]
theorem isEmpty_iff (s : ByteArray) : s.toList.isEmpty = decide (s.size = 0) := by
  rw [Bool.eq_iff_iff]; simp [toList_nil_iff]
theorem nameB_of (s : ByteArray) (h : 0 < s.size) : nameB s = (decide (s.size ≤ 16) && (isLet s[0] && plB s)) := by
  unfold nameB; rw [head_get s h, decide_eq_true h, Bool.true_and, Bool.and_assoc]
set_option maxHeartbeats 400000 in
theorem name_any (s : ByteArray) (w : World) (hs : s.size ≤ maxLen) :
    Calls Tryz.prog 56 #[.string s] w fun e w' => e = .returned (.bool (nameB s)) ∧ w = w' := by
  have hs' := hs
  unfold maxLen at hs
  by_cases h0 : 0 < s.size
  · have H := Lib.hid (nameB_of s h0)
    have hl := Lib.hid (ltIdx_iff s[0])
    have he : s.toList.isEmpty = false := by rw [isEmpty_iff]; exact decide_eq_false (by omega)
    have he' : ¬ s.toList = [] := by rw [toList_nil_iff]; omega
    go_enter Tryz.func56, Tryz.ntmps56
    go_wp2_with (first | (go_at_call 84; refine (indexLet _ _).mono ?_; rintro e w' ⟨rfl, rfl⟩) | (go_at_call 85; refine (plain_any _ _ hs').mono ?_; rintro e w' ⟨rfl, rfl⟩))
    · have a1 : s.size ≤ 16 := by have : (s.size : Int) ≤ 16 := (by assumption); omega
      have a2 : isLet s[0] = true := by
        have h0 : 0 ≤ ltIdx s[0] := by assumption
        cases h : isLet s[0]
        · have := hl.out.2 h; omega
        · rfl
      go_ret
      exact ⟨by rw [H.out, decide_eq_true a1, a2]; rfl, rfl⟩
    · have a2 : isLet s[0] = false := hl.out.1 (by assumption)
      go_ret
      exact ⟨by rw [H.out, a2, Bool.false_and, Bool.and_false]; rfl, rfl⟩
    · have a1 : ¬ s.size ≤ 16 := by have : 16 < (s.size : Int) := (by assumption); omega
      go_ret
      exact ⟨by rw [H.out, decide_eq_false a1]; rfl, rfl⟩
  · have he : s.toList.isEmpty = true := by rw [isEmpty_iff]; exact decide_eq_true (by omega)
    have he' : s.toList = [] := by rw [toList_nil_iff]; omega
    have H := Lib.hid (show nameB s = false by simp [nameB, h0])
    go_enter Tryz.func56, Tryz.ntmps56
    go_wp2_with fail
    go_ret
    exact ⟨by rw [H.out]; rfl, rfl⟩

theorem isPl_false (c : UInt8) : isPl c = false ↔ ¬ ((97 ≤ (c.toNat : Int) ∧ (c.toNat : Int) ≤ 122) ∨ (48 ≤ (c.toNat : Int) ∧ (c.toNat : Int) ≤ 57) ∨ (c.toNat : Int) = 95) := by
  rw [← isPl_iff]; simp
set_option maxHeartbeats 400000 in
theorem rname_no (s : ByteArray) (w : World) (hs : s.size ≤ maxLen) (hn : nameB s = false) (hx : s.size = 0 ∨ 16 < s.size ∨ ∃ h : 0 < s.size, (s[0].toNat : Int) < 97 ∨ 122 < (s[0].toNat : Int)) :
    Calls Tryz.prog 72 #[.string s] w fun e w' => e = .returned (.bool (nameB s)) ∧ w = w' := by
  unfold maxLen at hs
  have H := Lib.hid hn
  clear hn
  rcases hx with hx | hx | ⟨h0, hx⟩
  · have hx' : (s.size : Int) < 1 := by omega
    clear hx
    go_enter Tryz.func72, Tryz.ntmps72
    go_wp2_with fail
    go_ret
    exact ⟨by rw [H.out]; rfl, rfl⟩
  · go_enter Tryz.func72, Tryz.ntmps72
    go_wp2_with fail
    go_ret
    exact ⟨by rw [H.out]; rfl, rfl⟩
  · by_cases h1 : s.size ≤ 16
    · rcases hx with hx | hx
      all_goals
        go_enter Tryz.func72, Tryz.ntmps72
        go_wp2_with fail
        go_ret
        exact ⟨by rw [H.out]; rfl, rfl⟩
    · go_enter Tryz.func72, Tryz.ntmps72
      go_wp2_with fail
      go_ret
      exact ⟨by rw [H.out]; rfl, rfl⟩
set_option maxHeartbeats 1000000 in
theorem rname_yes (s : ByteArray) (w : World) (hs : s.size ≤ maxLen) (h0 : 0 < s.size) (h1 : s.size ≤ 16) (h2 : 97 ≤ (s[0].toNat : Int)) (h3 : (s[0].toNat : Int) ≤ 122) (hn : nameB s = plB s) :
    Calls Tryz.prog 72 #[.string s] w fun e w' => e = .returned (.bool (nameB s)) ∧ w = w' := by
  unfold maxLen at hs
  have H := Lib.hid hn
  clear hn
  go_enter Tryz.func72, Tryz.ntmps72
  go_wp2_with fail
  go_loop [3] (fun i => ∃ k : Nat, k ≤ s.size ∧ i = .int .i64 k ∧ (s.data.toList.take k).all isPl = true) (fun i => s.size - (intOf i).toNat)
  case atStart => exact ⟨0, Nat.zero_le _, rfl, rfl⟩
  case round =>
    obtain ⟨k, hk, rfl, ha⟩ := hrel
    have HA := Lib.hid ha; clear ha
    by_cases hlt : k < s.size
    · have hp := isPl_false s[k]
      have hps := pl_succ s k hlt
      cases hq : isPl s[k]
      · have H2 := Lib.hid (pl_false s k hlt hq)
        have hb0 := hp.1 hq
        have hb : (s[k].toNat : Int) < 48 ∨ (58 ≤ (s[k].toNat : Int) ∧ (s[k].toNat : Int) < 95) ∨ (96 ≤ (s[k].toNat : Int) ∧ (s[k].toNat : Int) < 97) ∨ 122 < (s[k].toNat : Int) := by omega
        have hne : ((s[k].toNat : Int) != 95) = true := by rw [bne_iff_ne]; omega
        clear hp hq hps hb0
        rcases hb with hb | hb | hb | hb
        all_goals
          go_wp2_with fail
          go_ret
          exact ⟨by rw [H.out, H2.out]; rfl, rfl⟩
      · rw [hq] at hps hp
        have HS := Lib.hid hps
        have hb : ((97 ≤ (s[k].toNat : Int) ∧ (s[k].toNat : Int) ≤ 122) ∨ (48 ≤ (s[k].toNat : Int) ∧ (s[k].toNat : Int) ≤ 57) ∨ (s[k].toNat : Int) = 95) := by
          rw [← isPl_iff, hq]
        clear hp hq hps
        have fin : (List.take (k + 1) s.data.toList).all isPl = true := by rw [HS.out, HA.out]; rfl
        have FIN := Lib.hid fin
        clear fin
        rcases hb with hb | hb | hb
        all_goals
          go_wp2_with fail
          go_round
          case rel => exact ⟨k + 1, by omega, by go_num, FIN.out⟩
          case measure => simp [intOf]; omega
    · go_wp2_with fail
      go_ret
      exact ⟨by rw [H.out, pl_true s k hlt HA.out]; rfl, rfl⟩
theorem rname_any (s : ByteArray) (w : World) (hs : s.size ≤ maxLen) :
    Calls Tryz.prog 72 #[.string s] w fun e w' => e = .returned (.bool (nameB s)) ∧ w = w' := by
  by_cases h0 : 0 < s.size
  · by_cases h1 : s.size ≤ 16
    · by_cases h2 : 97 ≤ (s[0].toNat : Int)
      · by_cases h3 : (s[0].toNat : Int) ≤ 122
        · exact rname_yes s w hs h0 h1 h2 h3 (by rw [nameB_of s h0, decide_eq_true h1, (isLet_iff _).2 ⟨h2, h3⟩]; rfl)
        · refine rname_no s w hs ?_ (.inr (.inr ⟨h0, .inr (by omega)⟩))
          rw [nameB_of s h0, show isLet s[0] = false by rw [← Bool.not_eq_true, isLet_iff]; omega]; simp
      · refine rname_no s w hs ?_ (.inr (.inr ⟨h0, .inl (by omega)⟩))
        rw [nameB_of s h0, show isLet s[0] = false by rw [← Bool.not_eq_true, isLet_iff]; omega]; simp
    · exact rname_no s w hs (by rw [nameB_of s h0, decide_eq_false h1]; rfl) (.inr (.inl (by omega)))
  · exact rname_no s w hs (by simp [nameB, h0]) (.inl (by omega))
end Go.Proofs.YtiadkchlkdaceaaGreat

namespace Go.Proofs.YtiadkchlkdaceaaGreat
open Go.RowKit
set_option maxRecDepth 100000
theorem ext_lt {k : Nat} {p : Nat → Prop} (h : ∀ j, j < k → p j) (hk : p k) : ∀ j, j < k + 1 → p j := forall_lt_succ k p h hk
theorem anyP_true {α : Type} (p : α → Bool) (l : List α) (k : Nat) (hk : k < l.length) (hp : p l[k] = true) : l.any p = true := List.any_eq_true.2 ⟨l[k], List.getElem_mem hk, hp⟩
theorem anyP_false {α : Type} (p : α → Bool) (l : List α) (h : ∀ i (hi : i < l.length), p l[i] = false) : l.any p = false := by
  rw [Bool.eq_false_iff]
  intro ha
  obtain ⟨x, hx, hp⟩ := List.any_eq_true.1 ha
  obtain ⟨i, hi, rfl⟩ := List.getElem_of_mem hx
  rw [h i hi] at hp; cases hp
set_option maxHeartbeats 1000000 in
theorem rcol_any (A : Option Addr) (cap : Nat) (l : List Col) (name : ByteArray) (w : World) (h : SlAt w 3 ColR A cap l) :
    Calls Tryz.prog 37 #[.slice A l.length cap, .string name] w fun e w' => e = .returned (.int .i64 (idxP (fun c => eqS c.name name) l)) ∧ w = w' := by
  have hlen := h.len
  go_enter Tryz.func37, Tryz.ntmps37
  go_wp2_with fail
  go_loop [5] (fun i => ∃ k : Nat, k ≤ l.length ∧ i = .int .i64 k ∧ ∀ j, j < k → ∀ (hj : j < l.length), eqS l[j].name name = false) (fun i => l.length - (intOf i).toNat)
  case atStart => exact ⟨0, Nat.zero_le _, rfl, fun j hj => absurd hj (Nat.not_lt_zero j)⟩
  case round =>
    obtain ⟨k, hk, rfl, hp⟩ := hrel
    have HP := Lib.hid hp; clear hp
    by_cases hlt : k < l.length
    · obtain ⟨b, off, rfl, hb, c0, c1, c2, hs⟩ := col_at h hlt
      cases heq : eqS l[k].name name
      · have h2 : (l[k].name.toList == name.toList) = false := heq
        have HN := Lib.hid (ext_lt (p := fun j => ∀ (hj : j < l.length), eqS l[j].name name = false) HP.out (fun _ => heq))
        clear heq
        go_wp2_with fail
        go_round
        case rel => exact ⟨k + 1, by omega, by go_num, HN.out⟩
        case measure => simp [intOf]; omega
      · have h2 : (l[k].name.toList == name.toList) = true := heq
        have HQ := Lib.hid heq
        clear heq
        go_wp2_with fail
        go_ret
        have heq := HQ.out
        exact ⟨by rw [idxP_some (fun c => eqS c.name name) l k hlt heq (fun i hi => HP.out i hi (by omega))]; rfl, rfl⟩
    · go_wp2_with fail
      go_ret
      exact ⟨by rw [idxP_none (fun c => eqS c.name name) l (fun i hi => HP.out i (by omega) hi)]; rfl, rfl⟩
set_option maxHeartbeats 1000000 in
theorem rrul_any (A : Option Addr) (cap : Nat) (l : List Rul) (name : ByteArray) (w : World) (h : SlAt w 8 RulR A cap l) :
    Calls Tryz.prog 50 #[.slice A l.length cap, .string name] w fun e w' => e = .returned (.int .i64 (idxP (fun c => eqS c.name name) l)) ∧ w = w' := by
  have hlen := h.len
  go_enter Tryz.func50, Tryz.ntmps50
  go_wp2_with fail
  go_loop [5] (fun i => ∃ k : Nat, k ≤ l.length ∧ i = .int .i64 k ∧ ∀ j, j < k → ∀ (hj : j < l.length), eqS l[j].name name = false) (fun i => l.length - (intOf i).toNat)
  case atStart => exact ⟨0, Nat.zero_le _, rfl, fun j hj => absurd hj (Nat.not_lt_zero j)⟩
  case round =>
    obtain ⟨k, hk, rfl, hp⟩ := hrel
    have HP := Lib.hid hp; clear hp
    by_cases hlt : k < l.length
    · obtain ⟨b, off, A2, cap2, rfl, hb, c0, c1, c2, c3, c4, c5, c6, c7, hs⟩ := rul_at h hlt
      cases heq : eqS l[k].name name
      · have h2 : (l[k].name.toList == name.toList) = false := heq
        have HN := Lib.hid (ext_lt (p := fun j => ∀ (hj : j < l.length), eqS l[j].name name = false) HP.out (fun _ => heq))
        clear heq
        go_wp2_with fail
        go_round
        case rel => exact ⟨k + 1, by omega, by go_num, HN.out⟩
        case measure => simp [intOf]; omega
      · have h2 : (l[k].name.toList == name.toList) = true := heq
        have HQ := Lib.hid heq
        clear heq
        go_wp2_with fail
        go_ret
        have heq := HQ.out
        exact ⟨by rw [idxP_some (fun c => eqS c.name name) l k hlt heq (fun i hi => HP.out i hi (by omega))]; rfl, rfl⟩
    · go_wp2_with fail
      go_ret
      exact ⟨by rw [idxP_none (fun c => eqS c.name name) l (fun i hi => HP.out i (by omega) hi)]; rfl, rfl⟩
set_option maxHeartbeats 1000000 in
theorem rin_any (A : Option Addr) (cap : Nat) (l : List ByteArray) (name : ByteArray) (w : World) (h : SlAt w 1 StrR A cap l) :
    Calls Tryz.prog 109 #[.slice A l.length cap, .string name] w fun e w' => e = .returned (.bool (l.any fun c => eqS c name)) ∧ w = w' := by
  have hlen := h.len
  go_enter Tryz.func109, Tryz.ntmps109
  go_wp2_with fail
  go_loop [5] (fun i => ∃ k : Nat, k ≤ l.length ∧ i = .int .i64 k ∧ ∀ j, j < k → ∀ (hj : j < l.length), eqS l[j] name = false) (fun i => l.length - (intOf i).toNat)
  case atStart => exact ⟨0, Nat.zero_le _, rfl, fun j hj => absurd hj (Nat.not_lt_zero j)⟩
  case round =>
    obtain ⟨k, hk, rfl, hp⟩ := hrel
    have HP := Lib.hid hp; clear hp
    by_cases hlt : k < l.length
    · obtain ⟨b, off, rfl, hb, c0, hs⟩ := str_at h hlt
      cases heq : eqS l[k] name
      · have h2 : (l[k].toList == name.toList) = false := heq
        have HN := Lib.hid (ext_lt (p := fun j => ∀ (hj : j < l.length), eqS l[j] name = false) HP.out (fun _ => heq))
        clear heq
        go_wp2_with fail
        go_round
        case rel => exact ⟨k + 1, by omega, by go_num, HN.out⟩
        case measure => simp [intOf]; omega
      · have h2 : (l[k].toList == name.toList) = true := heq
        have HQ := Lib.hid heq
        clear heq
        go_wp2_with fail
        go_ret
        have heq := HQ.out
        exact ⟨by rw [anyP_true (fun c => eqS c name) l k hlt heq]; rfl, rfl⟩
    · go_wp2_with fail
      go_ret
      exact ⟨by rw [anyP_false (fun c => eqS c name) l (fun i hi => HP.out i (by omega) hi)]; rfl, rfl⟩
end Go.Proofs.YtiadkchlkdaceaaGreat

namespace Go.Proofs.YtiadkchlkdaceaaGreat
open Go.RowKit
set_option maxRecDepth 100000
set_option linter.unusedVariables false
theorem enters {P : Program} {f : FuncId} {fn : Func} {c : Code} (hf : P.funcs[f]? = some fn) (hname : (fn.name == "runtime.NumGoroutine") = false) (hb : fn.body = some c) : ∀ (args : Array Value) (w : World), (callFunc f args).run P w = .ok (.enter f args) w := by
  intro args w
  have h1 : fn.name ≠ "runtime.NumGoroutine" := by simpa using hname
  simp [callFunc, hf, h1, hb, mark]
set_option maxHeartbeats 1000000 in
theorem idxCol (A : Option Addr) (cap : Nat) (l : List Col) (g : FuncId) (caps : Array Value) (p : Col → Bool) (w : World) (h : SlAt w 3 ColR A cap l) (hent : ∀ (args : Array Value) (w : World), (callFunc g args).run Tryz.prog w = .ok (.enter g args) w)
    (hp : ∀ w', Aft w w' → ∀ i (hi : i < l.length), Calls Tryz.prog g (#[.agg #[.string l[i].name, .int .i64 l[i].kind, .bool l[i].null]] ++ caps) w' fun e w'' => e = .returned (.bool (p l[i])) ∧ Aft w' w'') :
    Calls Tryz.prog 67 #[.slice A l.length cap, .func (.func g) #[] caps] w fun e w' => e = .returned (.int .i64 (idxP p l)) ∧ Aft w w' := by
  have hlen := h.len
  have HC := Lib.hid hp
  clear hp
  go_enter Tryz.func67, Tryz.ntmps67
  go_wp2_with fail
  go_loopw [8] (fun i wr => ∃ k : Nat, k ≤ l.length ∧ i = .int .i64 k ∧ Aft w wr ∧ ∀ j, j < k → ∀ (hj : j < l.length), p l[j] = false) (fun i _ => l.length - (intOf i).toNat)
  case atStart => exact ⟨0, Nat.zero_le _, rfl, Aft.refl _, fun j hj => absurd hj (Nat.not_lt_zero j)⟩
  case round =>
    obtain ⟨k, hk, rfl, ha, hp⟩ := hrel
    have HA := Lib.hid ha
    have HP := Lib.hid hp; clear hp
    by_cases hlt : k < l.length
    · have hsl := cols_aft ha h
      clear ha
      obtain ⟨b, off, rfl, hb, c0, c1, c2, hs⟩ := col_at hsl hlt
      have HK := Lib.hid (HC.out wr HA.out k hlt)
      clear hsl
      obtain ⟨q, hq⟩ : ∃ q, p l[k] = q := ⟨_, rfl⟩
      rw [hq] at HK
      have HQ := Lib.hid hq
      clear hq
      cases q
      · go_wp2_with fail
        refine HK.out.mono ?_
        rintro e w1 ⟨rfl, a1⟩
        have HA1 := Lib.hid (HA.out.trans a1)
        clear a1
        go_wp2_with fail
        go_roundw
        case rel => exact ⟨k + 1, by omega, by go_num, HA1.out, ext_lt (p := fun j => ∀ (hj : j < l.length), p l[j] = false) HP.out (fun _ => HQ.out)⟩
        case measure => simp [intOf]; omega
      · go_wp2_with fail
        refine HK.out.mono ?_
        rintro e w1 ⟨rfl, a1⟩
        have HA1 := Lib.hid (HA.out.trans a1)
        clear a1
        go_wp2_with fail
        go_ret
        exact ⟨by rw [idxP_some p l k hlt HQ.out (fun i hi => HP.out i hi (by omega))]; rfl, HA1.out⟩
    · clear ha
      go_wp2_with fail
      go_ret
      exact ⟨by rw [idxP_none p l (fun i hi => HP.out i (by omega) hi)]; rfl, HA.out⟩
set_option maxHeartbeats 1000000 in
theorem idxRul (A : Option Addr) (cap : Nat) (l : List Rul) (g : FuncId) (caps : Array Value) (p : Rul → Bool) (w : World) (h : SlAt w 8 RulR A cap l) (hent : ∀ (args : Array Value) (w : World), (callFunc g args).run Tryz.prog w = .ok (.enter g args) w)
    (hp : ∀ w', Aft w w' → ∀ i (hi : i < l.length) (e1 : List Value), RulR w' e1 l[i] → Calls Tryz.prog g (#[.agg e1.toArray] ++ caps) w' fun e w'' => e = .returned (.bool (p l[i])) ∧ Aft w' w'') :
    Calls Tryz.prog 132 #[.slice A l.length cap, .func (.func g) #[] caps] w fun e w' => e = .returned (.int .i64 (idxP p l)) ∧ Aft w w' := by
  have hlen := h.len
  have HC := Lib.hid hp
  clear hp
  go_enter Tryz.func132, Tryz.ntmps132
  go_wp2_with fail
  go_loopw [8] (fun i wr => ∃ k : Nat, k ≤ l.length ∧ i = .int .i64 k ∧ Aft w wr ∧ ∀ j, j < k → ∀ (hj : j < l.length), p l[j] = false) (fun i _ => l.length - (intOf i).toNat)
  case atStart => exact ⟨0, Nat.zero_le _, rfl, Aft.refl _, fun j hj => absurd hj (Nat.not_lt_zero j)⟩
  case round =>
    obtain ⟨k, hk, rfl, ha, hp⟩ := hrel
    have HA := Lib.hid ha
    have HP := Lib.hid hp; clear hp
    by_cases hlt : k < l.length
    · have hsl := ruls_aft ha h
      clear ha
      obtain ⟨b, off, A2, cap2, rfl, hb, c0, c1, c2, c3, c4, c5, c6, c7, hs⟩ := rul_at hsl hlt
      have HK := Lib.hid (HC.out wr HA.out k hlt _ ⟨A2, cap2, rfl, hs⟩)
      clear hsl
      obtain ⟨q, hq⟩ : ∃ q, p l[k] = q := ⟨_, rfl⟩
      rw [hq] at HK
      have HQ := Lib.hid hq
      clear hq
      cases q
      · go_wp2_with fail
        refine HK.out.mono ?_
        rintro e w1 ⟨rfl, a1⟩
        have HA1 := Lib.hid (HA.out.trans a1)
        clear a1
        go_wp2_with fail
        go_roundw
        case rel => exact ⟨k + 1, by omega, by go_num, HA1.out, ext_lt (p := fun j => ∀ (hj : j < l.length), p l[j] = false) HP.out (fun _ => HQ.out)⟩
        case measure => simp [intOf]; omega
      · go_wp2_with fail
        refine HK.out.mono ?_
        rintro e w1 ⟨rfl, a1⟩
        have HA1 := Lib.hid (HA.out.trans a1)
        clear a1
        go_wp2_with fail
        go_ret
        exact ⟨by rw [idxP_some p l k hlt HQ.out (fun i hi => HP.out i hi (by omega))]; rfl, HA1.out⟩
    · clear ha
      go_wp2_with fail
      go_ret
      exact ⟨by rw [idxP_none p l (fun i hi => HP.out i (by omega) hi)]; rfl, HA.out⟩
set_option maxHeartbeats 1000000 in
theorem idxTab (A : Option Addr) (cap : Nat) (l : List Tab) (g : FuncId) (caps : Array Value) (p : Tab → Bool) (w : World) (h : SlAt w 5 TabR A cap l) (hent : ∀ (args : Array Value) (w : World), (callFunc g args).run Tryz.prog w = .ok (.enter g args) w)
    (hp : ∀ w', Aft w w' → ∀ i (hi : i < l.length) (e1 : List Value), TabR w' e1 l[i] → Calls Tryz.prog g (#[.agg e1.toArray] ++ caps) w' fun e w'' => e = .returned (.bool (p l[i])) ∧ Aft w' w'') :
    Calls Tryz.prog 93 #[.slice A l.length cap, .func (.func g) #[] caps] w fun e w' => e = .returned (.int .i64 (idxP p l)) ∧ Aft w w' := by
  have hlen := h.len
  have HC := Lib.hid hp
  clear hp
  go_enter Tryz.func93, Tryz.ntmps93
  go_wp2_with fail
  go_loopw [8] (fun i wr => ∃ k : Nat, k ≤ l.length ∧ i = .int .i64 k ∧ Aft w wr ∧ ∀ j, j < k → ∀ (hj : j < l.length), p l[j] = false) (fun i _ => l.length - (intOf i).toNat)
  case atStart => exact ⟨0, Nat.zero_le _, rfl, Aft.refl _, fun j hj => absurd hj (Nat.not_lt_zero j)⟩
  case round =>
    obtain ⟨k, hk, rfl, ha, hp⟩ := hrel
    have HA := Lib.hid ha
    have HP := Lib.hid hp; clear hp
    by_cases hlt : k < l.length
    · have hsl := tabs_aft ha h
      clear ha
      obtain ⟨b, off, A2, cap2, A3, cap3, rfl, hb, c0, c1, c2, c3, c4, hs⟩ := tab_at hsl hlt
      have HK := Lib.hid (HC.out wr HA.out k hlt _ ⟨A2, cap2, A3, cap3, rfl, hs⟩)
      clear hsl
      obtain ⟨q, hq⟩ : ∃ q, p l[k] = q := ⟨_, rfl⟩
      rw [hq] at HK
      have HQ := Lib.hid hq
      clear hq
      cases q
      · go_wp2_with fail
        refine HK.out.mono ?_
        rintro e w1 ⟨rfl, a1⟩
        have HA1 := Lib.hid (HA.out.trans a1)
        clear a1
        go_wp2_with fail
        go_roundw
        case rel => exact ⟨k + 1, by omega, by go_num, HA1.out, ext_lt (p := fun j => ∀ (hj : j < l.length), p l[j] = false) HP.out (fun _ => HQ.out)⟩
        case measure => simp [intOf]; omega
      · go_wp2_with fail
        refine HK.out.mono ?_
        rintro e w1 ⟨rfl, a1⟩
        have HA1 := Lib.hid (HA.out.trans a1)
        clear a1
        go_wp2_with fail
        go_ret
        exact ⟨by rw [idxP_some p l k hlt HQ.out (fun i hi => HP.out i hi (by omega))]; rfl, HA1.out⟩
    · clear ha
      go_wp2_with fail
      go_ret
      exact ⟨by rw [idxP_none p l (fun i hi => HP.out i (by omega) hi)]; rfl, HA.out⟩
set_option maxHeartbeats 1000000 in
theorem idxSch (A : Option Addr) (cap : Nat) (l : List Sch) (g : FuncId) (caps : Array Value) (p : Sch → Bool) (w : World) (h : SlAt w 2 SchR A cap l) (hent : ∀ (args : Array Value) (w : World), (callFunc g args).run Tryz.prog w = .ok (.enter g args) w)
    (hp : ∀ w', Aft w w' → ∀ i (hi : i < l.length), Calls Tryz.prog g (#[.agg #[.string l[i].name, .string l[i].owner]] ++ caps) w' fun e w'' => e = .returned (.bool (p l[i])) ∧ Aft w' w'') :
    Calls Tryz.prog 115 #[.slice A l.length cap, .func (.func g) #[] caps] w fun e w' => e = .returned (.int .i64 (idxP p l)) ∧ Aft w w' := by
  have hlen := h.len
  have HC := Lib.hid hp
  clear hp
  go_enter Tryz.func115, Tryz.ntmps115
  go_wp2_with fail
  go_loopw [8] (fun i wr => ∃ k : Nat, k ≤ l.length ∧ i = .int .i64 k ∧ Aft w wr ∧ ∀ j, j < k → ∀ (hj : j < l.length), p l[j] = false) (fun i _ => l.length - (intOf i).toNat)
  case atStart => exact ⟨0, Nat.zero_le _, rfl, Aft.refl _, fun j hj => absurd hj (Nat.not_lt_zero j)⟩
  case round =>
    obtain ⟨k, hk, rfl, ha, hp⟩ := hrel
    have HA := Lib.hid ha
    have HP := Lib.hid hp; clear hp
    by_cases hlt : k < l.length
    · have hsl := schs_aft ha h
      clear ha
      obtain ⟨b, off, rfl, hb, c0, c1, hs, hs2⟩ := sch_at hsl hlt
      have HK := Lib.hid (HC.out wr HA.out k hlt)
      clear hsl
      obtain ⟨q, hq⟩ : ∃ q, p l[k] = q := ⟨_, rfl⟩
      rw [hq] at HK
      have HQ := Lib.hid hq
      clear hq
      cases q
      · go_wp2_with fail
        refine HK.out.mono ?_
        rintro e w1 ⟨rfl, a1⟩
        have HA1 := Lib.hid (HA.out.trans a1)
        clear a1
        go_wp2_with fail
        go_roundw
        case rel => exact ⟨k + 1, by omega, by go_num, HA1.out, ext_lt (p := fun j => ∀ (hj : j < l.length), p l[j] = false) HP.out (fun _ => HQ.out)⟩
        case measure => simp [intOf]; omega
      · go_wp2_with fail
        refine HK.out.mono ?_
        rintro e w1 ⟨rfl, a1⟩
        have HA1 := Lib.hid (HA.out.trans a1)
        clear a1
        go_wp2_with fail
        go_ret
        exact ⟨by rw [idxP_some p l k hlt HQ.out (fun i hi => HP.out i hi (by omega))]; rfl, HA1.out⟩
    · clear ha
      go_wp2_with fail
      go_ret
      exact ⟨by rw [idxP_none p l (fun i hi => HP.out i (by omega) hi)]; rfl, HA.out⟩
end Go.Proofs.YtiadkchlkdaceaaGreat

namespace Go.Proofs.YtiadkchlkdaceaaGreat
open Go.RowKit
set_option maxRecDepth 100000
set_option linter.unusedVariables false
theorem eqS_comm (a b : ByteArray) : eqS a b = eqS b a := by
  unfold eqS; rw [Bool.eq_iff_iff]; simp; exact eq_comm
theorem eqS_trans {a b c : ByteArray} (h : eqS a b = true) (h2 : eqS b c = true) : eqS a c = true := by
  unfold eqS at *; simp at *; rw [h, h2]
set_option maxHeartbeats 1000000 in
theorem sidx_any (A : Option Addr) (cap : Nat) (l : List ByteArray) (name : ByteArray) (w : World) (h : SlAt w 1 StrR A cap l) :
    Calls Tryz.prog 117 #[.slice A l.length cap, .string name] w fun e w' => e = .returned (.int .i64 (idxP (fun c => eqS c name) l)) ∧ w = w' := by
  have hlen := h.len
  go_enter Tryz.func117, Tryz.ntmps117
  go_wp2_with fail
  go_loop [8] (fun i => ∃ k : Nat, k ≤ l.length ∧ i = .int .i64 k ∧ ∀ j, j < k → ∀ (hj : j < l.length), eqS l[j] name = false) (fun i => l.length - (intOf i).toNat)
  case atStart => exact ⟨0, Nat.zero_le _, rfl, fun j hj => absurd hj (Nat.not_lt_zero j)⟩
  case round =>
    obtain ⟨k, hk, rfl, hp⟩ := hrel
    have HP := Lib.hid hp; clear hp
    by_cases hlt : k < l.length
    · obtain ⟨b, off, rfl, hb, c0, hs⟩ := str_at h hlt
      cases heq : eqS l[k] name
      · have h2 : (name.toList == l[k].toList) = false := (eqS_comm _ _).trans heq
        have HN := Lib.hid (ext_lt (p := fun j => ∀ (hj : j < l.length), eqS l[j] name = false) HP.out (fun _ => heq))
        clear heq
        go_wp2_with fail
        go_round
        case rel => exact ⟨k + 1, by omega, by go_num, HN.out⟩
        case measure => simp [intOf]; omega
      · have h2 : (name.toList == l[k].toList) = true := (eqS_comm _ _).trans heq
        have HQ := Lib.hid heq
        clear heq
        go_wp2_with fail
        go_ret
        have heq := HQ.out
        exact ⟨by rw [idxP_some (fun c => eqS c name) l k hlt heq (fun i hi => HP.out i hi (by omega))]; rfl, rfl⟩
    · go_wp2_with fail
      go_ret
      exact ⟨by rw [idxP_none (fun c => eqS c name) l (fun i hi => HP.out i (by omega) hi)]; rfl, rfl⟩

theorem idxP_at {α : Type} (p : α → Bool) (l : List α) (q : Nat) (hq : q < l.length) (h : idxP p l = q) : p l[q] = true := by
  induction l generalizing q with
  | nil => simp at hq
  | cons x l ih =>
    simp only [idxP] at h
    by_cases hx : p x = true
    · rw [if_pos hx] at h
      have : q = 0 := by omega
      subst this; simpa using hx
    · rw [if_neg hx] at h
      by_cases hy : idxP p l < 0
      · rw [if_pos hy] at h; omega
      · rw [if_neg hy] at h
        cases q with
        | zero => omega
        | succ q => simpa using ih q (by simpa using hq) (by omega)
theorem all_false {α : Type} (p : α → Bool) (l : List α) (k : Nat) (hk : k < l.length) (h : p l[k] = false) : l.all p = false := by
  rw [Bool.eq_false_iff]; intro ha
  have := List.all_eq_true.1 ha l[k] (List.getElem_mem hk)
  rw [h] at this; cases this
theorem all_true {α : Type} (p : α → Bool) (l : List α) (h : ∀ k (hk : k < l.length), p l[k] = true) : l.all p = true := by
  rw [List.all_eq_true]; intro x hx
  obtain ⟨i, hi, rfl⟩ := List.getElem_of_mem hx
  exact h i hi
end Go.Proofs.YtiadkchlkdaceaaGreat

namespace Go.Proofs.YtiadkchlkdaceaaGreat
open Go.RowKit
set_option maxRecDepth 100000
set_option linter.unusedVariables false

theorem SlAt.take {α : Type} {w : World} {size : Nat} {R : World → List Value → α → Prop} {A : Option Addr} {cap : Nat} {l : List α} (h : SlAt w size R A cap l) (k : Nat) : SlAt w size R A cap (l.take k) :=
  ⟨Nat.le_trans (by simp; omega) h.1, Nat.le_trans (Nat.mul_le_mul_right _ (by simp; omega)) h.2.1, fun i hi => by
    have hi' : i < l.length := by simp at hi; omega
    obtain ⟨b, off, cs, hA, hb, hl, hr, hc⟩ := h.2.2 i hi'
    exact ⟨b, off, cs, hA, hb, hl, by rw [List.getElem_take]; exact hr, hc⟩⟩

/-- may a column be? -/
def colOk (c : Col) : Bool := nameB c.name && (c.kind == 2 || c.kind == 3)
/-- may columns be? -/
def colsOk (l : List Col) : Bool := decide (1 ≤ l.length) && decide (l.length ≤ 8) && (List.range l.length).all fun i => match l[i]? with | some c => colOk c && decide (idxP (fun d => eqS d.name c.name) (l.take i) < 0) | none => true
theorem colsOk_false (l : List Col) (k : Nat) (hk : k < l.length) (h : (colOk l[k] && decide (idxP (fun d => eqS d.name l[k].name) (l.take k) < 0)) = false) : colsOk l = false := by
  unfold colsOk
  rw [Bool.and_eq_false_iff]; right
  rw [Bool.eq_false_iff]
  intro ha
  have := List.all_eq_true.1 ha k (List.mem_range.2 hk)
  rw [List.getElem?_eq_getElem hk] at this
  simp only [h] at this
  cases this
theorem colsOk_true (l : List Col) (h1 : 1 ≤ l.length) (h8 : l.length ≤ 8) (h : ∀ k, k < l.length → ∀ hk : k < l.length, (colOk l[k] && decide (idxP (fun d => eqS d.name l[k].name) (l.take k) < 0)) = true) : colsOk l = true := by
  unfold colsOk
  rw [Bool.and_eq_true, List.all_eq_true]
  refine ⟨by simp [h1, h8], fun k hk => ?_⟩
  have hk' := List.mem_range.1 hk
  rw [List.getElem?_eq_getElem hk']
  exact h k hk' hk'

set_option maxHeartbeats 1000000 in
theorem rone_any (name : ByteArray) (kind : Int) (null : Bool) (w : World) (hs : name.size ≤ maxLen) :
    Calls Tryz.prog 101 #[.agg #[.string name, .int .i64 kind, .bool null]] w fun e w' => e = .returned (.bool (colOk ⟨name, kind, null⟩)) ∧ Aft w w' := by
  go_enter Tryz.func101, Tryz.ntmps101
  go_wp2_with (go_at_call 72; refine (rname_any _ _ hs).mono ?_; rintro e w' ⟨rfl, rfl⟩)
  all_goals
    go_ret
    refine ⟨Eq.trans (b := .returned (.bool _)) rfl (ret_of (bool_of ?_)), (Aft.refl _).alloc _⟩
    simp_all [colOk]

set_option maxHeartbeats 2000000 in
theorem rcols_any (A : Option Addr) (cap : Nat) (l : List Col) (w : World) (h : SlAt w 3 ColR A cap l) :
    Calls Tryz.prog 64 #[.slice A l.length cap] w fun e w' => e = .returned (.bool (colsOk l)) ∧ Aft w w' := by
  have hlen := h.len
  by_cases h1 : l.length < 1 ∨ 8 < l.length
  · have H := Lib.hid (show colsOk l = false by unfold colsOk; rcases h1 with h1 | h1 <;> simp <;> intros <;> omega)
    rcases h1 with h1 | h1
    all_goals
      go_enter Tryz.func64, Tryz.ntmps64
      go_wp2_with fail
      go_ret
      exact ⟨by rw [H.out]; rfl, Aft.refl _⟩
  · have g1 : 1 ≤ l.length := by omega
    have g8 : l.length ≤ 8 := by omega
    clear h1
    go_enter Tryz.func64, Tryz.ntmps64
    go_wp2_with fail
    go_loopw [3] (fun i wr => ∃ k : Nat, k ≤ l.length ∧ i = .int .i64 k ∧ Aft w wr ∧ ∀ j, j < k → ∀ (hj : j < l.length), (colOk l[j] && decide (idxP (fun d => eqS d.name l[j].name) (l.take j) < 0)) = true) (fun i _ => l.length - (intOf i).toNat)
    case atStart => exact ⟨0, Nat.zero_le _, rfl, Aft.refl _, fun j hj => absurd hj (Nat.not_lt_zero j)⟩
    case round =>
      obtain ⟨k, hk, rfl, ha, hp⟩ := hrel
      have HA := Lib.hid ha
      have HP := Lib.hid hp; clear hp
      by_cases hlt : k < l.length
      · have hsl := cols_aft ha h
        clear ha
        obtain ⟨b, off, rfl, hb, c0, c1, c2, hs⟩ := col_at hsl hlt
        have Cone := Lib.hid (fun w => rone_any l[k].name l[k].kind l[k].null w hs.max)
        obtain ⟨r, hr⟩ : ∃ r, idxP (fun d => eqS d.name l[k].name) (l.take k) = r := ⟨_, rfl⟩
        have Ccol := Lib.hid (show ∀ x : Lat wr, Calls Tryz.prog 37 #[.slice (some ⟨b, off, none⟩) k cap, .string l[k].name] (lat wr x) fun e w' => e = .returned (.int .i64 r) ∧ lat wr x = w' by
          intro x
          have := rcol_any _ _ (l.take k) l[k].name (lat wr x) (cols_aft ((Aft.refl wr).lat x) (hsl.take k))
          rwa [List.length_take, Nat.min_eq_left (by omega), hr] at this)
        have hcap : k ≤ cap := Nat.le_trans hk hsl.1
        have HR := Lib.hid hr
        clear hr hsl
        generalize hcc : colOk ⟨l[k].name, l[k].kind, l[k].null⟩ = cc at Cone
        have HC := Lib.hid hcc
        clear hcc
        cases cc
        · go_wp2_with fail
          refine wp_region_lat (by kernel_rfl) (by kernel_rfl) ?_
          repeat (go_big_quiet_step ((first | (go_at_call 101; exact Calls.lat_of (Cone.out _)) | (go_at_call 37; exact Calls.lat_same (Ccol.out _)))))
          refine wpQuiet_nil ?_
          intro _ hw'
          obtain ⟨x, hw''⟩ := hw'
          subst hw''
          go_wp2_with fail
          go_ret
          exact ⟨by rw [colsOk_false l k hlt (by rw [show colOk l[k] = false from HC.out]; rfl)]; rfl, HA.out.lat x⟩
        · by_cases hr0 : 0 ≤ r
          · go_wp2_with fail
            refine wp_region_lat (by kernel_rfl) (by kernel_rfl) ?_
            repeat (go_big_quiet_step ((first | (go_at_call 101; exact Calls.lat_of (Cone.out _)) | (go_at_call 37; exact Calls.lat_same (Ccol.out _)))))
            refine wpQuiet_nil ?_
            intro _ hw'
            obtain ⟨x, hw''⟩ := hw'
            subst hw''
            go_wp2_with fail
            go_ret
            exact ⟨by rw [colsOk_false l k hlt (by rw [HR.out, decide_eq_false (by omega), Bool.and_false])]; rfl, HA.out.lat x⟩
          · have hr1 : r < 0 := by omega
            go_wp2_with fail
            refine wp_region_lat (by kernel_rfl) (by kernel_rfl) ?_
            repeat (go_big_quiet_step ((first | (go_at_call 101; exact Calls.lat_of (Cone.out _)) | (go_at_call 37; exact Calls.lat_same (Ccol.out _)))))
            refine wpQuiet_nil ?_
            intro _ hw'
            obtain ⟨x, hw''⟩ := hw'
            subst hw''
            go_wp2_with fail
            go_roundw
            case rel => exact ⟨k + 1, by omega, by go_num, HA.out.lat x, ext_lt (p := fun j => ∀ (hj : j < l.length), (colOk l[j] && decide (idxP (fun d => eqS d.name l[j].name) (l.take j) < 0)) = true) HP.out (fun _ => by rw [HR.out, decide_eq_true hr1, show colOk l[k] = true from HC.out]; rfl)⟩
            case measure => simp [intOf]; omega
      · go_wp2_with fail
        go_ret
        exact ⟨by rw [colsOk_true l g1 g8 (fun j hj hj' => HP.out j (by omega) hj')]; rfl, HA.out⟩
end Go.Proofs.YtiadkchlkdaceaaGreat

namespace Go.Proofs.YtiadkchlkdaceaaGreat
def emp (s : ByteArray) : Bool := s.toList.isEmpty
theorem cat_nil_iff (a b : ByteArray) : (a ++ b).toList = [] ↔ a.toList = [] ∧ b.toList = [] := by
  simp only [toList_nil_iff, ByteArray.size_append]; omega
end Go.Proofs.YtiadkchlkdaceaaGreat

namespace Go.Proofs.YtiadkchlkdaceaaGreat
open Go.RowKit
set_option maxRecDepth 100000
set_option linter.unusedVariables false

def colAt (l : List Col) (s : ByteArray) : Int := idxP (fun c => eqS c.name s) l
def hasS (cs : List ByteArray) (s : ByteArray) : Bool := cs.any fun c => eqS c s
/-- each of a rule's columns is there, and none twice -/
def rcOk (l : List Col) (cs : List ByteArray) : Bool := (List.range cs.length).all fun i => match cs[i]? with | some s => decide (0 ≤ colAt l s) && !(hasS (cs.take i) s) | none => true
theorem rcOk_false (l : List Col) (cs : List ByteArray) (k : Nat) (hk : k < cs.length) (h : (decide (0 ≤ colAt l cs[k]) && !(hasS (cs.take k) cs[k])) = false) : rcOk l cs = false := by
  unfold rcOk
  rw [Bool.eq_false_iff]
  intro ha
  have := List.all_eq_true.1 ha k (List.mem_range.2 hk)
  rw [List.getElem?_eq_getElem hk] at this
  simp only [h] at this
  cases this
theorem rcOk_true (l : List Col) (cs : List ByteArray) (h : ∀ k, k < cs.length → ∀ hk : k < cs.length, (decide (0 ≤ colAt l cs[k]) && !(hasS (cs.take k) cs[k])) = true) : rcOk l cs = true := by
  unfold rcOk
  rw [List.all_eq_true]
  intro k hk
  have hk' := List.mem_range.1 hk
  rw [List.getElem?_eq_getElem hk']
  exact h k hk' hk'
def kindAt (l : List Col) (i : Int) : Int := match l[i.toNat]? with | some c => c.kind | none => 0
def ruleRest (l : List Col) (r : Rul) : Bool :=
  if r.kind == 1 || r.kind == 2 then emp r.schema && emp r.table && emp r.key && r.low == 0 && r.high == 0
  else if r.kind == 3 then emp r.schema && emp r.table && emp r.key && ((r.cols.length : Int) == 1) && kindAt l (colAt l (r.cols.headD ByteArray.empty)) == 2 && decide (r.low ≤ r.high)
  else if r.kind == 4 then nameB r.schema && nameB r.table && nameB r.key && r.low == 0 && r.high == 0
  else false
/-- does a rule fit columns? -/
def fitsOk (l : List Col) (r : Rul) : Bool := rcOk l r.cols && nameB r.name && !(r.cols.length == 0) && ruleRest l r

set_option maxHeartbeats 4000000 in
theorem rfits_any (A : Option Addr) (cap : Nat) (l : List Col) (r : Rul) (A2 : Option Addr) (cap2 : Nat) (w : World) (h : SlAt w 3 ColR A cap l) (h2 : SlAt w 1 StrR A2 cap2 r.cols)
    (hn : Small r.name.size) (hs : Small r.schema.size) (ht : Small r.table.size) (hk' : Small r.key.size) :
    Calls Tryz.prog 79 #[.slice A l.length cap, .agg #[.string r.name, .int .i64 r.kind, .slice A2 r.cols.length cap2, .int .i64 r.low, .int .i64 r.high, .string r.schema, .string r.table, .string r.key]] w
      fun e w' => e = .returned (.bool (fitsOk l r)) ∧ Aft w w' := by
  obtain ⟨name, kind, cs, low, high, schema, table, key⟩ := r
  simp only at h2 hn hs ht hk' ⊢
  have hlen := h.len
  have hlen2 := h2.len
  go_enter Tryz.func79, Tryz.ntmps79
  go_wp2_with fail
  go_loopw [5] (fun i wr => ∃ k : Nat, k ≤ cs.length ∧ i = .int .i64 k ∧ Aft (w.alloc (.cells #[.string name, .int .i64 kind, .slice A2 cs.length cap2, .int .i64 low, .int .i64 high, .string schema, .string table, .string key] 108)) wr ∧ ∀ j, j < k → ∀ (hj : j < cs.length), (decide (0 ≤ colAt l cs[j]) && !(hasS (cs.take j) cs[j])) = true) (fun i _ => cs.length - (intOf i).toNat)
  case atStart => exact ⟨0, Nat.zero_le _, rfl, Aft.refl _, fun j hj => absurd hj (Nat.not_lt_zero j)⟩
  case round =>
    obtain ⟨k, hk, rfl, ha, hp⟩ := hrel
    obtain ⟨hbox, hfr, hz, hzk, HA⟩ := aft_box ha
    have HAB := Lib.hid ha
    have HP := Lib.hid hp; clear hp
    have hsl := cols_aft HA.out h
    have hsl2 := strs_aft HA.out h2
    clear ha
    by_cases hlt : k < cs.length
    · obtain ⟨b, off, rfl, hb, c0, hss⟩ := str_at hsl2 hlt
      obtain ⟨i, hi⟩ : ∃ i, colAt l cs[k] = i := ⟨_, rfl⟩
      obtain ⟨m, hm⟩ : ∃ m, hasS (cs.take k) cs[k] = m := ⟨_, rfl⟩
      have Ccol := Lib.hid (show ∀ x : Lat wr, Calls Tryz.prog 37 #[.slice A l.length cap, .string cs[k]] (lat wr x) fun e w' => e = .returned (.int .i64 i) ∧ lat wr x = w' from
        fun x => (rcol_any A cap l cs[k] (lat wr x) (cols_aft ((Aft.refl wr).lat x) hsl)).mono fun e w' ⟨he, hw⟩ => ⟨he.trans (by rw [← hi]; rfl), hw⟩)
      have Cin := Lib.hid (show ∀ x : Lat wr, Calls Tryz.prog 109 #[.slice (some ⟨b, off, none⟩) k cap2, .string cs[k]] (lat wr x) fun e w' => e = .returned (.bool m) ∧ lat wr x = w' by
        intro x
        have := rin_any _ _ (cs.take k) cs[k] (lat wr x) (strs_aft ((Aft.refl wr).lat x) (hsl2.take k))
        rw [List.length_take, Nat.min_eq_left (by omega)] at this
        exact this.mono fun e w' ⟨he, hw⟩ => ⟨he.trans (by rw [← hm]; rfl), hw⟩)
      have hcap : k ≤ cap2 := Nat.le_trans hk hsl2.1
      have HI := Lib.hid hi
      have HM := Lib.hid hm
      clear hi hm hsl hsl2
      by_cases hi0 : i < 0
      · go_wp2_with fail
        refine wp_region_lat (by kernel_rfl) (by kernel_rfl) ?_
        repeat (go_big_quiet_step ((first | (go_at_call 37; exact Calls.lat_same (Ccol.out _)) | (go_at_call 109; exact Calls.lat_same (Cin.out _)))))
        refine wpQuiet_nil ?_
        intro _ hw'
        obtain ⟨x, hw''⟩ := hw'
        subst hw''
        go_wp2_with fail
        go_ret
        exact ⟨by rw [show fitsOk l ⟨name, kind, cs, low, high, schema, table, key⟩ = false by unfold fitsOk; rw [rcOk_false l cs k hlt (by rw [HI.out, decide_eq_false (by omega)]; rfl)]; rfl]; rfl, HA.out.lat x⟩
      · have hi1 : 0 ≤ i := by omega
        have hd : decide (i < 0) = false := decide_eq_false hi0
        cases m
        · go_wp2_with fail
          refine wp_region_lat (by kernel_rfl) (by kernel_rfl) ?_
          repeat (go_big_quiet_step ((first | (go_at_call 37; exact Calls.lat_same (Ccol.out _)) | (go_at_call 109; exact Calls.lat_same (Cin.out _)))))
          refine wpQuiet_nil ?_
          intro _ hw'
          obtain ⟨x, hw''⟩ := hw'
          subst hw''
          go_wp2_with fail
          go_roundw
          case rel => exact ⟨k + 1, by omega, by go_num, HAB.out.lat x, ext_lt (p := fun j => ∀ (hj : j < cs.length), (decide (0 ≤ colAt l cs[j]) && !(hasS (cs.take j) cs[j])) = true) HP.out (fun _ => by rw [HI.out, HM.out, decide_eq_true hi1]; rfl)⟩
          case measure => simp [intOf]; omega
        · go_wp2_with fail
          refine wp_region_lat (by kernel_rfl) (by kernel_rfl) ?_
          repeat (go_big_quiet_step ((first | (go_at_call 37; exact Calls.lat_same (Ccol.out _)) | (go_at_call 109; exact Calls.lat_same (Cin.out _)))))
          refine wpQuiet_nil ?_
          intro _ hw'
          obtain ⟨x, hw''⟩ := hw'
          subst hw''
          go_wp2_with fail
          go_ret
          exact ⟨by rw [show fitsOk l ⟨name, kind, cs, low, high, schema, table, key⟩ = false by unfold fitsOk; rw [rcOk_false l cs k hlt (by rw [HM.out, Bool.not_true, Bool.and_false])]; rfl]; rfl, HA.out.lat x⟩
    · have hrc := rcOk_true l cs (fun j hj hj' => HP.out j (by omega) hj')
      cases hN : nameB name
      · have HF := Lib.hid (show fitsOk l ⟨name, kind, cs, low, high, schema, table, key⟩ = false by simp [fitsOk, hN])
        clear hrc
        go_wp2_with (go_at_call 72; refine (rname_any _ _ (by first | exact hn.max | exact hs.max | exact ht.max | exact hk'.max)).mono ?_; rintro e w' ⟨rfl, rfl⟩)
        go_ret
        exact ⟨by rw [HF.out]; rfl, HA.out⟩
      · by_cases hz0 : cs.length = 0
        · have HF := Lib.hid (show fitsOk l ⟨name, kind, cs, low, high, schema, table, key⟩ = false by simp [fitsOk, hz0])
          have e0 : ((cs.length : Int) == 0) = true := by simp [hz0]
          clear hrc hz0
          go_wp2_with (go_at_call 72; refine (rname_any _ _ (by first | exact hn.max | exact hs.max | exact ht.max | exact hk'.max)).mono ?_; rintro e w' ⟨rfl, rfl⟩)
          go_ret
          exact ⟨by rw [HF.out]; rfl, HA.out⟩
        · have HF := Lib.hid (show fitsOk l ⟨name, kind, cs, low, high, schema, table, key⟩ = ruleRest l ⟨name, kind, cs, low, high, schema, table, key⟩ by simp [fitsOk, hrc, hN, hz0])
          have e0 : ((cs.length : Int) == 0) = false := beq_eq_false_iff_ne.2 (by omega)
          have hpos : 0 < cs.length := by omega
          have hc0 : 0 ≤ colAt l cs[0] := by have := HP.out 0 (by omega) hpos; simp at this; exact this.1
          clear hrc hz0
          by_cases k1 : kind = 1
          · subst k1
            go_wp2_with (go_at_call 72; refine (rname_any _ _ (by first | exact hn.max | exact hs.max | exact ht.max | exact hk'.max)).mono ?_; rintro e w' ⟨rfl, rfl⟩)
            all_goals
              go_ret
              refine ⟨Eq.trans (b := .returned (.bool _)) rfl (ret_of (bool_of ?_)), HA.out⟩
              rw [HF.out]
              clear HF HA HAB HP hbox hfr hz hzk hsl hsl2 h h2
              simp_all [ruleRest, emp]
          by_cases k2 : kind = 2
          · subst k2
            go_wp2_with (go_at_call 72; refine (rname_any _ _ (by first | exact hn.max | exact hs.max | exact ht.max | exact hk'.max)).mono ?_; rintro e w' ⟨rfl, rfl⟩)
            all_goals
              go_ret
              refine ⟨Eq.trans (b := .returned (.bool _)) rfl (ret_of (bool_of ?_)), HA.out⟩
              rw [HF.out]
              clear HF HA HAB HP hbox hfr hz hzk hsl hsl2 h h2
              simp_all [ruleRest, emp]
          by_cases k4 : kind = 4
          · subst k4
            go_wp2_with (go_at_call 72; refine (rname_any _ _ (by first | exact hn.max | exact hs.max | exact ht.max | exact hk'.max)).mono ?_; rintro e w' ⟨rfl, rfl⟩)
            all_goals
              go_ret
              refine ⟨Eq.trans (b := .returned (.bool _)) rfl (ret_of (bool_of ?_)), HA.out⟩
              rw [HF.out]
              clear HF HA HAB HP hbox hfr hz hzk hsl hsl2 h h2
              simp_all [ruleRest]
          by_cases k3 : kind = 3
          · subst k3
            obtain ⟨q, hq⟩ := Int.eq_ofNat_of_zero_le hc0
            have hql : q < l.length := by have := (idxP_range (fun c => eqS c.name cs[0]) l).2; unfold colAt at hq; omega
            obtain ⟨b, off, rfl, hb, c0, hss⟩ := str_at hsl2 hpos
            obtain ⟨b2, off2, rfl, hb2, d0, d1, d2, hss2⟩ := col_at hsl hql
            have c0' : wr.cell? ⟨b, off, none⟩ = some (.string cs[0]) := by simpa using c0
            have Ccol := Lib.hid (show Calls Tryz.prog 37 #[.slice (some ⟨b2, off2, none⟩) l.length cap, .string cs[0]] wr fun e w' => e = .returned (.int .i64 q) ∧ wr = w' from
              (rcol_any _ cap l cs[0] wr hsl).mono fun e w' ⟨he, hw⟩ => ⟨he.trans (by rw [← show colAt l cs[0] = (q : Int) from hq]; rfl), hw⟩)
            have HK := Lib.hid (show kindAt l (colAt l (cs.headD ByteArray.empty)) = l[q].kind by
              have e1 : cs.headD ByteArray.empty = cs[0] := by cases cs with | nil => simp at hpos | cons a t => rfl
              rw [e1, hq]; simp [kindAt, List.getElem?_eq_getElem hql])
            clear hc0 hq c0
            go_wp2_with (first | (go_at_call 72; refine (rname_any _ _ (by first | exact hn.max | exact hs.max | exact ht.max | exact hk'.max)).mono ?_; rintro e w' ⟨rfl, rfl⟩) | (go_at_call 37; refine Ccol.out.mono ?_; rintro e w' ⟨rfl, rfl⟩))
            all_goals
              go_ret
              refine ⟨Eq.trans (b := .returned (.bool _)) rfl (ret_of (bool_of ?_)), HA.out⟩
              rw [HF.out]
              have hkk := HK.out
              clear HF HA HAB HP hbox hfr hz hzk hsl hsl2 h h2 HK Ccol c0' d0 d1 d2
              simp_all [ruleRest, emp]
          · have q1 : (kind == 1) = false := by simp [k1]
            have q2 : (kind == 2) = false := by simp [k2]
            have q3 : (kind == 3) = false := by simp [k3]
            have q4 : (kind == 4) = false := by simp [k4]
            go_wp2_with (go_at_call 72; refine (rname_any _ _ (by first | exact hn.max | exact hs.max | exact ht.max | exact hk'.max)).mono ?_; rintro e w' ⟨rfl, rfl⟩)
            all_goals
              go_ret
              refine ⟨Eq.trans (b := .returned (.bool _)) rfl (ret_of (bool_of ?_)), HA.out⟩
              rw [HF.out]
              clear HF HA HAB HP hbox hfr hz hzk hsl hsl2 h h2
              simp_all [ruleRest]
end Go.Proofs.YtiadkchlkdaceaaGreat

