/- Contracts of the program, part 2. -/
import Derived.ProofKit
import Derived.OpenShut
import Derived.Deep.Slices
import Derived.ChangeOld
import Derived.SizedLaws
import Derived.WalkKit
import Derived.WalkSpells
import Derived.WalkLawsBesides
import Derived.Lib.Hide
import Derived.Deep.QuietTactic
import Derived.BigQuiet
import Derived.Below
import Derived.Deep.Draws
import Derived.StillTailTactics
import Derived.Laws.Cells
import Derived.Laws.IdiomCopy
import Derived.Test.YtiadkchlkdaceaaGreatRows
import Derived.Lib.Bytealg
import Derived.ShutString
import Derived.OwnWalk
import Derived.Laws.AppendOwn
import Derived.Test.YtiadkchlkdaceaaGreatPartR1
namespace Go.Proofs.YtiadkchlkdaceaaGreat
open Go.RowKit
set_option maxRecDepth 100000
set_option linter.unusedVariables false
theorem enters {P : Program} {f : FuncId} {fn : Func} {c : Code} (hf : P.funcs[f]? = some fn) (hname : (fn.name == "runtime.NumGoroutine") = false) (hb : fn.body = some c) : ∀ (args : Array Value) (w : World), (callFunc f args).run P w = .ok (.enter f args) w := by
  intro args w
  have h1 : fn.name ≠ "runtime.NumGoroutine" := by simpa using hname
  simp [callFunc, hf, h1, hb, mark]
set_option maxHeartbeats 1000000 in
theorem idxCol (A : Option Addr) (cap : Nat) (l : List Col) (g : FuncId) (caps : Array Value) (p : Col → Bool) (w : World) (h : SlAt w 3 ColR A cap l) (hent : ∀ (args : Array Value) (w : World), (callFunc g args).run Tryz.prog w = .ok (.enter g args) w)
    (hp : ∀ w', Aft w w' → ∀ i (hi : i < l.length), Calls Tryz.prog g (#[.agg #[.string l[i].name, .int .i64 l[i].kind, .bool l[i].null]] ++ caps) w' fun e w'' => e = .returned (.bool (p l[i])) ∧ Aft w' w'') :
    Calls Tryz.prog 67 #[.slice A l.length cap, .func (.func g) #[] caps] w fun e w' => e = .returned (.int .i64 (idxP p l)) ∧ Aft w w' := by
  have hlen := h.len
  have HC := Lib.hid hp
  clear hp
  go_enter Tryz.func67, Tryz.ntmps67
  go_wp2_with fail
  go_loopw [8] (fun i wr => ∃ k : Nat, k ≤ l.length ∧ i = .int .i64 k ∧ Aft w wr ∧ ∀ j, j < k → ∀ (hj : j < l.length), p l[j] = false) (fun i _ => l.length - (intOf i).toNat)
  case atStart => exact ⟨0, Nat.zero_le _, rfl, Aft.refl _, fun j hj => absurd hj (Nat.not_lt_zero j)⟩
  case round =>
    obtain ⟨k, hk, rfl, ha, hp⟩ := hrel
    have HA := Lib.hid ha
    have HP := Lib.hid hp; clear hp
    by_cases hlt : k < l.length
    · have hsl := cols_aft ha h
      clear ha
      obtain ⟨b, off, rfl, hb, c0, c1, c2, hs⟩ := col_at hsl hlt
      have HK := Lib.hid (HC.out wr HA.out k hlt)
      clear hsl
      obtain ⟨q, hq⟩ : ∃ q, p l[k] = q := ⟨_, rfl⟩
      rw [hq] at HK
      have HQ := Lib.hid hq
      clear hq
      cases q
      · go_wp2_with fail
        refine HK.out.mono ?_
        rintro e w1 ⟨rfl, a1⟩
        have HA1 := Lib.hid (HA.out.trans a1)
        clear a1
        go_wp2_with fail
        go_roundw
        case rel => exact ⟨k + 1, by omega, by go_num, HA1.out, ext_lt (p := fun j => ∀ (hj : j < l.length), p l[j] = false) HP.out (fun _ => HQ.out)⟩
        case measure => simp [intOf]; omega
      · go_wp2_with fail
        refine HK.out.mono ?_
        rintro e w1 ⟨rfl, a1⟩
        have HA1 := Lib.hid (HA.out.trans a1)
        clear a1
        go_wp2_with fail
        go_ret
        exact ⟨by rw [idxP_some p l k hlt HQ.out (fun i hi => HP.out i hi (by omega))]; rfl, HA1.out⟩
    · clear ha
      go_wp2_with fail
      go_ret
      exact ⟨by rw [idxP_none p l (fun i hi => HP.out i (by omega) hi)]; rfl, HA.out⟩
set_option maxHeartbeats 1000000 in
theorem idxRul (A : Option Addr) (cap : Nat) (l : List Rul) (g : FuncId) (caps : Array Value) (p : Rul → Bool) (w : World) (h : SlAt w 8 RulR A cap l) (hent : ∀ (args : Array Value) (w : World), (callFunc g args).run Tryz.prog w = .ok (.enter g args) w)
    (hp : ∀ w', Aft w w' → ∀ i (hi : i < l.length) (e1 : List Value), RulR w' e1 l[i] → Calls Tryz.prog g (#[.agg e1.toArray] ++ caps) w' fun e w'' => e = .returned (.bool (p l[i])) ∧ Aft w' w'') :
    Calls Tryz.prog 132 #[.slice A l.length cap, .func (.func g) #[] caps] w fun e w' => e = .returned (.int .i64 (idxP p l)) ∧ Aft w w' := by
  have hlen := h.len
  have HC := Lib.hid hp
  clear hp
  go_enter Tryz.func132, Tryz.ntmps132
  go_wp2_with fail
  go_loopw [8] (fun i wr => ∃ k : Nat, k ≤ l.length ∧ i = .int .i64 k ∧ Aft w wr ∧ ∀ j, j < k → ∀ (hj : j < l.length), p l[j] = false) (fun i _ => l.length - (intOf i).toNat)
  case atStart => exact ⟨0, Nat.zero_le _, rfl, Aft.refl _, fun j hj => absurd hj (Nat.not_lt_zero j)⟩
  case round =>
    obtain ⟨k, hk, rfl, ha, hp⟩ := hrel
    have HA := Lib.hid ha
    have HP := Lib.hid hp; clear hp
    by_cases hlt : k < l.length
    · have hsl := ruls_aft ha h
      clear ha
      obtain ⟨b, off, A2, cap2, rfl, hb, c0, c1, c2, c3, c4, c5, c6, c7, hs⟩ := rul_at hsl hlt
      have HK := Lib.hid (HC.out wr HA.out k hlt _ ⟨A2, cap2, rfl, hs⟩)
      clear hsl
      obtain ⟨q, hq⟩ : ∃ q, p l[k] = q := ⟨_, rfl⟩
      rw [hq] at HK
      have HQ := Lib.hid hq
      clear hq
      cases q
      · go_wp2_with fail
        refine HK.out.mono ?_
        rintro e w1 ⟨rfl, a1⟩
        have HA1 := Lib.hid (HA.out.trans a1)
        clear a1
        go_wp2_with fail
        go_roundw
        case rel => exact ⟨k + 1, by omega, by go_num, HA1.out, ext_lt (p := fun j => ∀ (hj : j < l.length), p l[j] = false) HP.out (fun _ => HQ.out)⟩
        case measure => simp [intOf]; omega
      · go_wp2_with fail
        refine HK.out.mono ?_
        rintro e w1 ⟨rfl, a1⟩
        have HA1 := Lib.hid (HA.out.trans a1)
        clear a1
        go_wp2_with fail
        go_ret
        exact ⟨by rw [idxP_some p l k hlt HQ.out (fun i hi => HP.out i hi (by omega))]; rfl, HA1.out⟩
    · clear ha
      go_wp2_with fail
      go_ret
      exact ⟨by rw [idxP_none p l (fun i hi => HP.out i (by omega) hi)]; rfl, HA.out⟩
set_option maxHeartbeats 1000000 in
theorem idxTab (A : Option Addr) (cap : Nat) (l : List Tab) (g : FuncId) (caps : Array Value) (p : Tab → Bool) (w : World) (h : SlAt w 5 TabR A cap l) (hent : ∀ (args : Array Value) (w : World), (callFunc g args).run Tryz.prog w = .ok (.enter g args) w)
    (hp : ∀ w', Aft w w' → ∀ i (hi : i < l.length) (e1 : List Value), TabR w' e1 l[i] → Calls Tryz.prog g (#[.agg e1.toArray] ++ caps) w' fun e w'' => e = .returned (.bool (p l[i])) ∧ Aft w' w'') :
    Calls Tryz.prog 93 #[.slice A l.length cap, .func (.func g) #[] caps] w fun e w' => e = .returned (.int .i64 (idxP p l)) ∧ Aft w w' := by
  have hlen := h.len
  have HC := Lib.hid hp
  clear hp
  go_enter Tryz.func93, Tryz.ntmps93
  go_wp2_with fail
  go_loopw [8] (fun i wr => ∃ k : Nat, k ≤ l.length ∧ i = .int .i64 k ∧ Aft w wr ∧ ∀ j, j < k → ∀ (hj : j < l.length), p l[j] = false) (fun i _ => l.length - (intOf i).toNat)
  case atStart => exact ⟨0, Nat.zero_le _, rfl, Aft.refl _, fun j hj => absurd hj (Nat.not_lt_zero j)⟩
  case round =>
    obtain ⟨k, hk, rfl, ha, hp⟩ := hrel
    have HA := Lib.hid ha
    have HP := Lib.hid hp; clear hp
    by_cases hlt : k < l.length
    · have hsl := tabs_aft ha h
      clear ha
      obtain ⟨b, off, A2, cap2, A3, cap3, rfl, hb, c0, c1, c2, c3, c4, hs⟩ := tab_at hsl hlt
      have HK := Lib.hid (HC.out wr HA.out k hlt _ ⟨A2, cap2, A3, cap3, rfl, hs⟩)
      clear hsl
      obtain ⟨q, hq⟩ : ∃ q, p l[k] = q := ⟨_, rfl⟩
      rw [hq] at HK
      have HQ := Lib.hid hq
      clear hq
      cases q
      · go_wp2_with fail
        refine HK.out.mono ?_
        rintro e w1 ⟨rfl, a1⟩
        have HA1 := Lib.hid (HA.out.trans a1)
        clear a1
        go_wp2_with fail
        go_roundw
        case rel => exact ⟨k + 1, by omega, by go_num, HA1.out, ext_lt (p := fun j => ∀ (hj : j < l.length), p l[j] = false) HP.out (fun _ => HQ.out)⟩
        case measure => simp [intOf]; omega
      · go_wp2_with fail
        refine HK.out.mono ?_
        rintro e w1 ⟨rfl, a1⟩
        have HA1 := Lib.hid (HA.out.trans a1)
        clear a1
        go_wp2_with fail
        go_ret
        exact ⟨by rw [idxP_some p l k hlt HQ.out (fun i hi => HP.out i hi (by omega))]; rfl, HA1.out⟩
    · clear ha
      go_wp2_with fail
      go_ret
      exact ⟨by rw [idxP_none p l (fun i hi => HP.out i (by omega) hi)]; rfl, HA.out⟩
set_option maxHeartbeats 1000000 in
theorem idxSch (A : Option Addr) (cap : Nat) (l : List Sch) (g : FuncId) (caps : Array Value) (p : Sch → Bool) (w : World) (h : SlAt w 2 SchR A cap l) (hent : ∀ (args : Array Value) (w : World), (callFunc g args).run Tryz.prog w = .ok (.enter g args) w)
    (hp : ∀ w', Aft w w' → ∀ i (hi : i < l.length), Calls Tryz.prog g (#[.agg #[.string l[i].name, .string l[i].owner]] ++ caps) w' fun e w'' => e = .returned (.bool (p l[i])) ∧ Aft w' w'') :
    Calls Tryz.prog 115 #[.slice A l.length cap, .func (.func g) #[] caps] w fun e w' => e = .returned (.int .i64 (idxP p l)) ∧ Aft w w' := by
  have hlen := h.len
  have HC := Lib.hid hp
  clear hp
  go_enter Tryz.func115, Tryz.ntmps115
  go_wp2_with fail
  go_loopw [8] (fun i wr => ∃ k : Nat, k ≤ l.length ∧ i = .int .i64 k ∧ Aft w wr ∧ ∀ j, j < k → ∀ (hj : j < l.length), p l[j] = false) (fun i _ => l.length - (intOf i).toNat)
  case atStart => exact ⟨0, Nat.zero_le _, rfl, Aft.refl _, fun j hj => absurd hj (Nat.not_lt_zero j)⟩
  case round =>
    obtain ⟨k, hk, rfl, ha, hp⟩ := hrel
    have HA := Lib.hid ha
    have HP := Lib.hid hp; clear hp
    by_cases hlt : k < l.length
    · have hsl := schs_aft ha h
      clear ha
      obtain ⟨b, off, rfl, hb, c0, c1, hs, hs2⟩ := sch_at hsl hlt
      have HK := Lib.hid (HC.out wr HA.out k hlt)
      clear hsl
      obtain ⟨q, hq⟩ : ∃ q, p l[k] = q := ⟨_, rfl⟩
      rw [hq] at HK
      have HQ := Lib.hid hq
      clear hq
      cases q
      · go_wp2_with fail
        refine HK.out.mono ?_
        rintro e w1 ⟨rfl, a1⟩
        have HA1 := Lib.hid (HA.out.trans a1)
        clear a1
        go_wp2_with fail
        go_roundw
        case rel => exact ⟨k + 1, by omega, by go_num, HA1.out, ext_lt (p := fun j => ∀ (hj : j < l.length), p l[j] = false) HP.out (fun _ => HQ.out)⟩
        case measure => simp [intOf]; omega
      · go_wp2_with fail
        refine HK.out.mono ?_
        rintro e w1 ⟨rfl, a1⟩
        have HA1 := Lib.hid (HA.out.trans a1)
        clear a1
        go_wp2_with fail
        go_ret
        exact ⟨by rw [idxP_some p l k hlt HQ.out (fun i hi => HP.out i hi (by omega))]; rfl, HA1.out⟩
    · clear ha
      go_wp2_with fail
      go_ret
      exact ⟨by rw [idxP_none p l (fun i hi => HP.out i (by omega) hi)]; rfl, HA.out⟩
end Go.Proofs.YtiadkchlkdaceaaGreat

namespace Go.Proofs.YtiadkchlkdaceaaGreat
open Go.RowKit
set_option maxRecDepth 100000
set_option linter.unusedVariables false
theorem eqS_comm (a b : ByteArray) : eqS a b = eqS b a := by
  unfold eqS; rw [Bool.eq_iff_iff]; simp; exact eq_comm
theorem eqS_trans {a b c : ByteArray} (h : eqS a b = true) (h2 : eqS b c = true) : eqS a c = true := by
  unfold eqS at *; simp at *; rw [h, h2]
set_option maxHeartbeats 1000000 in
theorem sidx_any (A : Option Addr) (cap : Nat) (l : List ByteArray) (name : ByteArray) (w : World) (h : SlAt w 1 StrR A cap l) :
    Calls Tryz.prog 117 #[.slice A l.length cap, .string name] w fun e w' => e = .returned (.int .i64 (idxP (fun c => eqS c name) l)) ∧ w = w' := by
  have hlen := h.len
  go_enter Tryz.func117, Tryz.ntmps117
  go_wp2_with fail
  go_loop [8] (fun i => ∃ k : Nat, k ≤ l.length ∧ i = .int .i64 k ∧ ∀ j, j < k → ∀ (hj : j < l.length), eqS l[j] name = false) (fun i => l.length - (intOf i).toNat)
  case atStart => exact ⟨0, Nat.zero_le _, rfl, fun j hj => absurd hj (Nat.not_lt_zero j)⟩
  case round =>
    obtain ⟨k, hk, rfl, hp⟩ := hrel
    have HP := Lib.hid hp; clear hp
    by_cases hlt : k < l.length
    · obtain ⟨b, off, rfl, hb, c0, hs⟩ := str_at h hlt
      cases heq : eqS l[k] name
      · have h2 : (name.toList == l[k].toList) = false := (eqS_comm _ _).trans heq
        have HN := Lib.hid (ext_lt (p := fun j => ∀ (hj : j < l.length), eqS l[j] name = false) HP.out (fun _ => heq))
        clear heq
        go_wp2_with fail
        go_round
        case rel => exact ⟨k + 1, by omega, by go_num, HN.out⟩
        case measure => simp [intOf]; omega
      · have h2 : (name.toList == l[k].toList) = true := (eqS_comm _ _).trans heq
        have HQ := Lib.hid heq
        clear heq
        go_wp2_with fail
        go_ret
        have heq := HQ.out
        exact ⟨by rw [idxP_some (fun c => eqS c name) l k hlt heq (fun i hi => HP.out i hi (by omega))]; rfl, rfl⟩
    · go_wp2_with fail
      go_ret
      exact ⟨by rw [idxP_none (fun c => eqS c name) l (fun i hi => HP.out i (by omega) hi)]; rfl, rfl⟩

theorem idxP_at {α : Type} (p : α → Bool) (l : List α) (q : Nat) (hq : q < l.length) (h : idxP p l = q) : p l[q] = true := by
  induction l generalizing q with
  | nil => simp at hq
  | cons x l ih =>
    simp only [idxP] at h
    by_cases hx : p x = true
    · rw [if_pos hx] at h
      have : q = 0 := by omega
      subst this; simpa using hx
    · rw [if_neg hx] at h
      by_cases hy : idxP p l < 0
      · rw [if_pos hy] at h; omega
      · rw [if_neg hy] at h
        cases q with
        | zero => omega
        | succ q => simpa using ih q (by simpa using hq) (by omega)
theorem all_false {α : Type} (p : α → Bool) (l : List α) (k : Nat) (hk : k < l.length) (h : p l[k] = false) : l.all p = false := by
  rw [Bool.eq_false_iff]; intro ha
  have := List.all_eq_true.1 ha l[k] (List.getElem_mem hk)
  rw [h] at this; cases this
theorem all_true {α : Type} (p : α → Bool) (l : List α) (h : ∀ k (hk : k < l.length), p l[k] = true) : l.all p = true := by
  rw [List.all_eq_true]; intro x hx
  obtain ⟨i, hi, rfl⟩ := List.getElem_of_mem hx
  exact h i hi
end Go.Proofs.YtiadkchlkdaceaaGreat

namespace Go.Proofs.YtiadkchlkdaceaaGreat
open Go.RowKit
set_option maxRecDepth 100000
set_option linter.unusedVariables false

theorem SlAt.take {α : Type} {w : World} {size : Nat} {R : World → List Value → α → Prop} {A : Option Addr} {cap : Nat} {l : List α} (h : SlAt w size R A cap l) (k : Nat) : SlAt w size R A cap (l.take k) :=
  ⟨Nat.le_trans (by simp; omega) h.1, Nat.le_trans (Nat.mul_le_mul_right _ (by simp; omega)) h.2.1, fun i hi => by
    have hi' : i < l.length := by simp at hi; omega
    obtain ⟨b, off, cs, hA, hb, hl, hr, hc⟩ := h.2.2 i hi'
    exact ⟨b, off, cs, hA, hb, hl, by rw [List.getElem_take]; exact hr, hc⟩⟩

/-- may a column be? -/
def colOk (c : Col) : Bool := nameB c.name && (c.kind == 2 || c.kind == 3)
/-- may columns be? -/
def colsOk (l : List Col) : Bool := decide (1 ≤ l.length) && decide (l.length ≤ 8) && (List.range l.length).all fun i => match l[i]? with | some c => colOk c && decide (idxP (fun d => eqS d.name c.name) (l.take i) < 0) | none => true
theorem colsOk_false (l : List Col) (k : Nat) (hk : k < l.length) (h : (colOk l[k] && decide (idxP (fun d => eqS d.name l[k].name) (l.take k) < 0)) = false) : colsOk l = false := by
  unfold colsOk
  rw [Bool.and_eq_false_iff]; right
  rw [Bool.eq_false_iff]
  intro ha
  have := List.all_eq_true.1 ha k (List.mem_range.2 hk)
  rw [List.getElem?_eq_getElem hk] at this
  simp only [h] at this
  cases this
theorem colsOk_true (l : List Col) (h1 : 1 ≤ l.length) (h8 : l.length ≤ 8) (h : ∀ k, k < l.length → ∀ hk : k < l.length, (colOk l[k] && decide (idxP (fun d => eqS d.name l[k].name) (l.take k) < 0)) = true) : colsOk l = true := by
  unfold colsOk
  rw [Bool.and_eq_true, List.all_eq_true]
  refine ⟨by simp [h1, h8], fun k hk => ?_⟩
  have hk' := List.mem_range.1 hk
  rw [List.getElem?_eq_getElem hk']
  exact h k hk' hk'

set_option maxHeartbeats 1000000 in
theorem rone_any (name : ByteArray) (kind : Int) (null : Bool) (w : World) (hs : name.size ≤ maxLen) :
    Calls Tryz.prog 101 #[.agg #[.string name, .int .i64 kind, .bool null]] w fun e w' => e = .returned (.bool (colOk ⟨name, kind, null⟩)) ∧ Aft w w' := by
  go_enter Tryz.func101, Tryz.ntmps101
  go_wp2_with (go_at_call 72; refine (rname_any _ _ hs).mono ?_; rintro e w' ⟨rfl, rfl⟩)
  all_goals
    go_ret
    refine ⟨Eq.trans (b := .returned (.bool _)) rfl (ret_of (bool_of ?_)), (Aft.refl _).alloc _⟩
    simp_all [colOk]

set_option maxHeartbeats 2000000 in
theorem rcols_any (A : Option Addr) (cap : Nat) (l : List Col) (w : World) (h : SlAt w 3 ColR A cap l) :
    Calls Tryz.prog 64 #[.slice A l.length cap] w fun e w' => e = .returned (.bool (colsOk l)) ∧ Aft w w' := by
  have hlen := h.len
  by_cases h1 : l.length < 1 ∨ 8 < l.length
  · have H := Lib.hid (show colsOk l = false by unfold colsOk; rcases h1 with h1 | h1 <;> simp <;> intros <;> omega)
    rcases h1 with h1 | h1
    all_goals
      go_enter Tryz.func64, Tryz.ntmps64
      go_wp2_with fail
      go_ret
      exact ⟨by rw [H.out]; rfl, Aft.refl _⟩
  · have g1 : 1 ≤ l.length := by omega
    have g8 : l.length ≤ 8 := by omega
    clear h1
    go_enter Tryz.func64, Tryz.ntmps64
    go_wp2_with fail
    go_loopw [3] (fun i wr => ∃ k : Nat, k ≤ l.length ∧ i = .int .i64 k ∧ Aft w wr ∧ ∀ j, j < k → ∀ (hj : j < l.length), (colOk l[j] && decide (idxP (fun d => eqS d.name l[j].name) (l.take j) < 0)) = true) (fun i _ => l.length - (intOf i).toNat)
    case atStart => exact ⟨0, Nat.zero_le _, rfl, Aft.refl _, fun j hj => absurd hj (Nat.not_lt_zero j)⟩
    case round =>
      obtain ⟨k, hk, rfl, ha, hp⟩ := hrel
      have HA := Lib.hid ha
      have HP := Lib.hid hp; clear hp
      by_cases hlt : k < l.length
      · have hsl := cols_aft ha h
        clear ha
        obtain ⟨b, off, rfl, hb, c0, c1, c2, hs⟩ := col_at hsl hlt
        have Cone := Lib.hid (fun w => rone_any l[k].name l[k].kind l[k].null w hs.max)
        obtain ⟨r, hr⟩ : ∃ r, idxP (fun d => eqS d.name l[k].name) (l.take k) = r := ⟨_, rfl⟩
        have Ccol := Lib.hid (show ∀ x : Lat wr, Calls Tryz.prog 37 #[.slice (some ⟨b, off, none⟩) k cap, .string l[k].name] (lat wr x) fun e w' => e = .returned (.int .i64 r) ∧ lat wr x = w' by
          intro x
          have := rcol_any _ _ (l.take k) l[k].name (lat wr x) (cols_aft ((Aft.refl wr).lat x) (hsl.take k))
          rwa [List.length_take, Nat.min_eq_left (by omega), hr] at this)
        have hcap : k ≤ cap := Nat.le_trans hk hsl.1
        have HR := Lib.hid hr
        clear hr hsl
        generalize hcc : colOk ⟨l[k].name, l[k].kind, l[k].null⟩ = cc at Cone
        have HC := Lib.hid hcc
        clear hcc
        cases cc
        · go_wp2_with fail
          refine wp_region_lat (by kernel_rfl) (by kernel_rfl) ?_
          repeat (go_big_quiet_step ((first | (go_at_call 101; exact Calls.lat_of (Cone.out _)) | (go_at_call 37; exact Calls.lat_same (Ccol.out _)))))
          refine wpQuiet_nil ?_
          intro _ hw'
          obtain ⟨x, hw''⟩ := hw'
          subst hw''
          go_wp2_with fail
          go_ret
          exact ⟨by rw [colsOk_false l k hlt (by rw [show colOk l[k] = false from HC.out]; rfl)]; rfl, HA.out.lat x⟩
        · by_cases hr0 : 0 ≤ r
          · go_wp2_with fail
            refine wp_region_lat (by kernel_rfl) (by kernel_rfl) ?_
            repeat (go_big_quiet_step ((first | (go_at_call 101; exact Calls.lat_of (Cone.out _)) | (go_at_call 37; exact Calls.lat_same (Ccol.out _)))))
            refine wpQuiet_nil ?_
            intro _ hw'
            obtain ⟨x, hw''⟩ := hw'
            subst hw''
            go_wp2_with fail
            go_ret
            exact ⟨by rw [colsOk_false l k hlt (by rw [HR.out, decide_eq_false (by omega), Bool.and_false])]; rfl, HA.out.lat x⟩
          · have hr1 : r < 0 := by omega
            go_wp2_with fail
            refine wp_region_lat (by kernel_rfl) (by kernel_rfl) ?_
            repeat (go_big_quiet_step ((first | (go_at_call 101; exact Calls.lat_of (Cone.out _)) | (go_at_call 37; exact Calls.lat_same (Ccol.out _)))))
            refine wpQuiet_nil ?_
            intro _ hw'
            obtain ⟨x, hw''⟩ := hw'
            subst hw''
            go_wp2_with fail
            go_roundw
            case rel => exact ⟨k + 1, by omega, by go_num, HA.out.lat x, ext_lt (p := fun j => ∀ (hj : j < l.length), (colOk l[j] && decide (idxP (fun d => eqS d.name l[j].name) (l.take j) < 0)) = true) HP.out (fun _ => by rw [HR.out, decide_eq_true hr1, show colOk l[k] = true from HC.out]; rfl)⟩
            case measure => simp [intOf]; omega
      · go_wp2_with fail
        go_ret
        exact ⟨by rw [colsOk_true l g1 g8 (fun j hj hj' => HP.out j (by omega) hj')]; rfl, HA.out⟩
end Go.Proofs.YtiadkchlkdaceaaGreat

namespace Go.Proofs.YtiadkchlkdaceaaGreat
def emp (s : ByteArray) : Bool := s.toList.isEmpty
theorem cat_nil_iff (a b : ByteArray) : (a ++ b).toList = [] ↔ a.toList = [] ∧ b.toList = [] := by
  simp only [toList_nil_iff, ByteArray.size_append]; omega
end Go.Proofs.YtiadkchlkdaceaaGreat

namespace Go.Proofs.YtiadkchlkdaceaaGreat
open Go.RowKit
set_option maxRecDepth 100000
set_option linter.unusedVariables false

def colAt (l : List Col) (s : ByteArray) : Int := idxP (fun c => eqS c.name s) l
def hasS (cs : List ByteArray) (s : ByteArray) : Bool := cs.any fun c => eqS c s
/-- each of a rule's columns is there, and none twice -/
def rcOk (l : List Col) (cs : List ByteArray) : Bool := (List.range cs.length).all fun i => match cs[i]? with | some s => decide (0 ≤ colAt l s) && !(hasS (cs.take i) s) | none => true
theorem rcOk_false (l : List Col) (cs : List ByteArray) (k : Nat) (hk : k < cs.length) (h : (decide (0 ≤ colAt l cs[k]) && !(hasS (cs.take k) cs[k])) = false) : rcOk l cs = false := by
  unfold rcOk
  rw [Bool.eq_false_iff]
  intro ha
  have := List.all_eq_true.1 ha k (List.mem_range.2 hk)
  rw [List.getElem?_eq_getElem hk] at this
  simp only [h] at this
  cases this
theorem rcOk_true (l : List Col) (cs : List ByteArray) (h : ∀ k, k < cs.length → ∀ hk : k < cs.length, (decide (0 ≤ colAt l cs[k]) && !(hasS (cs.take k) cs[k])) = true) : rcOk l cs = true := by
  unfold rcOk
  rw [List.all_eq_true]
  intro k hk
  have hk' := List.mem_range.1 hk
  rw [List.getElem?_eq_getElem hk']
  exact h k hk' hk'
def kindAt (l : List Col) (i : Int) : Int := match l[i.toNat]? with | some c => c.kind | none => 0
def ruleRest (l : List Col) (r : Rul) : Bool :=
  if r.kind == 1 || r.kind == 2 then emp r.schema && emp r.table && emp r.key && r.low == 0 && r.high == 0
  else if r.kind == 3 then emp r.schema && emp r.table && emp r.key && ((r.cols.length : Int) == 1) && kindAt l (colAt l (r.cols.headD ByteArray.empty)) == 2 && decide (r.low ≤ r.high)
  else if r.kind == 4 then nameB r.schema && nameB r.table && nameB r.key && r.low == 0 && r.high == 0
  else false
/-- does a rule fit columns? -/
def fitsOk (l : List Col) (r : Rul) : Bool := rcOk l r.cols && nameB r.name && !(r.cols.length == 0) && ruleRest l r

set_option maxHeartbeats 4000000 in
theorem rfits_any (A : Option Addr) (cap : Nat) (l : List Col) (r : Rul) (A2 : Option Addr) (cap2 : Nat) (w : World) (h : SlAt w 3 ColR A cap l) (h2 : SlAt w 1 StrR A2 cap2 r.cols)
    (hn : Small r.name.size) (hs : Small r.schema.size) (ht : Small r.table.size) (hk' : Small r.key.size) :
    Calls Tryz.prog 79 #[.slice A l.length cap, .agg #[.string r.name, .int .i64 r.kind, .slice A2 r.cols.length cap2, .int .i64 r.low, .int .i64 r.high, .string r.schema, .string r.table, .string r.key]] w
      fun e w' => e = .returned (.bool (fitsOk l r)) ∧ Aft w w' := by
  obtain ⟨name, kind, cs, low, high, schema, table, key⟩ := r
  simp only at h2 hn hs ht hk' ⊢
  have hlen := h.len
  have hlen2 := h2.len
  go_enter Tryz.func79, Tryz.ntmps79
  go_wp2_with fail
  go_loopw [5] (fun i wr => ∃ k : Nat, k ≤ cs.length ∧ i = .int .i64 k ∧ Aft (w.alloc (.cells #[.string name, .int .i64 kind, .slice A2 cs.length cap2, .int .i64 low, .int .i64 high, .string schema, .string table, .string key] 108)) wr ∧ ∀ j, j < k → ∀ (hj : j < cs.length), (decide (0 ≤ colAt l cs[j]) && !(hasS (cs.take j) cs[j])) = true) (fun i _ => cs.length - (intOf i).toNat)
  case atStart => exact ⟨0, Nat.zero_le _, rfl, Aft.refl _, fun j hj => absurd hj (Nat.not_lt_zero j)⟩
  case round =>
    obtain ⟨k, hk, rfl, ha, hp⟩ := hrel
    obtain ⟨hbox, hfr, hz, hzk, HA⟩ := aft_box ha
    have HAB := Lib.hid ha
    have HP := Lib.hid hp; clear hp
    have hsl := cols_aft HA.out h
    have hsl2 := strs_aft HA.out h2
    clear ha
    by_cases hlt : k < cs.length
    · obtain ⟨b, off, rfl, hb, c0, hss⟩ := str_at hsl2 hlt
      obtain ⟨i, hi⟩ : ∃ i, colAt l cs[k] = i := ⟨_, rfl⟩
      obtain ⟨m, hm⟩ : ∃ m, hasS (cs.take k) cs[k] = m := ⟨_, rfl⟩
      have Ccol := Lib.hid (show ∀ x : Lat wr, Calls Tryz.prog 37 #[.slice A l.length cap, .string cs[k]] (lat wr x) fun e w' => e = .returned (.int .i64 i) ∧ lat wr x = w' from
        fun x => (rcol_any A cap l cs[k] (lat wr x) (cols_aft ((Aft.refl wr).lat x) hsl)).mono fun e w' ⟨he, hw⟩ => ⟨he.trans (by rw [← hi]; rfl), hw⟩)
      have Cin := Lib.hid (show ∀ x : Lat wr, Calls Tryz.prog 109 #[.slice (some ⟨b, off, none⟩) k cap2, .string cs[k]] (lat wr x) fun e w' => e = .returned (.bool m) ∧ lat wr x = w' by
        intro x
        have := rin_any _ _ (cs.take k) cs[k] (lat wr x) (strs_aft ((Aft.refl wr).lat x) (hsl2.take k))
        rw [List.length_take, Nat.min_eq_left (by omega)] at this
        exact this.mono fun e w' ⟨he, hw⟩ => ⟨he.trans (by rw [← hm]; rfl), hw⟩)
      have hcap : k ≤ cap2 := Nat.le_trans hk hsl2.1
      have HI := Lib.hid hi
      have HM := Lib.hid hm
      clear hi hm hsl hsl2
      by_cases hi0 : i < 0
      · go_wp2_with fail
        refine wp_region_lat (by kernel_rfl) (by kernel_rfl) ?_
        repeat (go_big_quiet_step ((first | (go_at_call 37; exact Calls.lat_same (Ccol.out _)) | (go_at_call 109; exact Calls.lat_same (Cin.out _)))))
        refine wpQuiet_nil ?_
        intro _ hw'
        obtain ⟨x, hw''⟩ := hw'
        subst hw''
        go_wp2_with fail
        go_ret
        exact ⟨by rw [show fitsOk l ⟨name, kind, cs, low, high, schema, table, key⟩ = false by unfold fitsOk; rw [rcOk_false l cs k hlt (by rw [HI.out, decide_eq_false (by omega)]; rfl)]; rfl]; rfl, HA.out.lat x⟩
      · have hi1 : 0 ≤ i := by omega
        have hd : decide (i < 0) = false := decide_eq_false hi0
        cases m
        · go_wp2_with fail
          refine wp_region_lat (by kernel_rfl) (by kernel_rfl) ?_
          repeat (go_big_quiet_step ((first | (go_at_call 37; exact Calls.lat_same (Ccol.out _)) | (go_at_call 109; exact Calls.lat_same (Cin.out _)))))
          refine wpQuiet_nil ?_
          intro _ hw'
          obtain ⟨x, hw''⟩ := hw'
          subst hw''
          go_wp2_with fail
          go_roundw
          case rel => exact ⟨k + 1, by omega, by go_num, HAB.out.lat x, ext_lt (p := fun j => ∀ (hj : j < cs.length), (decide (0 ≤ colAt l cs[j]) && !(hasS (cs.take j) cs[j])) = true) HP.out (fun _ => by rw [HI.out, HM.out, decide_eq_true hi1]; rfl)⟩
          case measure => simp [intOf]; omega
        · go_wp2_with fail
          refine wp_region_lat (by kernel_rfl) (by kernel_rfl) ?_
          repeat (go_big_quiet_step ((first | (go_at_call 37; exact Calls.lat_same (Ccol.out _)) | (go_at_call 109; exact Calls.lat_same (Cin.out _)))))
          refine wpQuiet_nil ?_
          intro _ hw'
          obtain ⟨x, hw''⟩ := hw'
          subst hw''
          go_wp2_with fail
          go_ret
          exact ⟨by rw [show fitsOk l ⟨name, kind, cs, low, high, schema, table, key⟩ = false by unfold fitsOk; rw [rcOk_false l cs k hlt (by rw [HM.out, Bool.not_true, Bool.and_false])]; rfl]; rfl, HA.out.lat x⟩
    · have hrc := rcOk_true l cs (fun j hj hj' => HP.out j (by omega) hj')
      cases hN : nameB name
      · have HF := Lib.hid (show fitsOk l ⟨name, kind, cs, low, high, schema, table, key⟩ = false by simp [fitsOk, hN])
        clear hrc
        go_wp2_with (go_at_call 72; refine (rname_any _ _ (by first | exact hn.max | exact hs.max | exact ht.max | exact hk'.max)).mono ?_; rintro e w' ⟨rfl, rfl⟩)
        go_ret
        exact ⟨by rw [HF.out]; rfl, HA.out⟩
      · by_cases hz0 : cs.length = 0
        · have HF := Lib.hid (show fitsOk l ⟨name, kind, cs, low, high, schema, table, key⟩ = false by simp [fitsOk, hz0])
          have e0 : ((cs.length : Int) == 0) = true := by simp [hz0]
          clear hrc hz0
          go_wp2_with (go_at_call 72; refine (rname_any _ _ (by first | exact hn.max | exact hs.max | exact ht.max | exact hk'.max)).mono ?_; rintro e w' ⟨rfl, rfl⟩)
          go_ret
          exact ⟨by rw [HF.out]; rfl, HA.out⟩
        · have HF := Lib.hid (show fitsOk l ⟨name, kind, cs, low, high, schema, table, key⟩ = ruleRest l ⟨name, kind, cs, low, high, schema, table, key⟩ by simp [fitsOk, hrc, hN, hz0])
          have e0 : ((cs.length : Int) == 0) = false := beq_eq_false_iff_ne.2 (by omega)
          have hpos : 0 < cs.length := by omega
          have hc0 : 0 ≤ colAt l cs[0] := by have := HP.out 0 (by omega) hpos; simp at this; exact this.1
          clear hrc hz0
          by_cases k1 : kind = 1
          · subst k1
            go_wp2_with (go_at_call 72; refine (rname_any _ _ (by first | exact hn.max | exact hs.max | exact ht.max | exact hk'.max)).mono ?_; rintro e w' ⟨rfl, rfl⟩)
            all_goals
              go_ret
              refine ⟨Eq.trans (b := .returned (.bool _)) rfl (ret_of (bool_of ?_)), HA.out⟩
              rw [HF.out]
              clear HF HA HAB HP hbox hfr hz hzk hsl hsl2 h h2
              simp_all [ruleRest, emp]
          by_cases k2 : kind = 2
          · subst k2
            go_wp2_with (go_at_call 72; refine (rname_any _ _ (by first | exact hn.max | exact hs.max | exact ht.max | exact hk'.max)).mono ?_; rintro e w' ⟨rfl, rfl⟩)
            all_goals
              go_ret
              refine ⟨Eq.trans (b := .returned (.bool _)) rfl (ret_of (bool_of ?_)), HA.out⟩
              rw [HF.out]
              clear HF HA HAB HP hbox hfr hz hzk hsl hsl2 h h2
              simp_all [ruleRest, emp]
          by_cases k4 : kind = 4
          · subst k4
            go_wp2_with (go_at_call 72; refine (rname_any _ _ (by first | exact hn.max | exact hs.max | exact ht.max | exact hk'.max)).mono ?_; rintro e w' ⟨rfl, rfl⟩)
            all_goals
              go_ret
              refine ⟨Eq.trans (b := .returned (.bool _)) rfl (ret_of (bool_of ?_)), HA.out⟩
              rw [HF.out]
              clear HF HA HAB HP hbox hfr hz hzk hsl hsl2 h h2
              simp_all [ruleRest]
          by_cases k3 : kind = 3
          · subst k3
            obtain ⟨q, hq⟩ := Int.eq_ofNat_of_zero_le hc0
            have hql : q < l.length := by have := (idxP_range (fun c => eqS c.name cs[0]) l).2; unfold colAt at hq; omega
            obtain ⟨b, off, rfl, hb, c0, hss⟩ := str_at hsl2 hpos
            obtain ⟨b2, off2, rfl, hb2, d0, d1, d2, hss2⟩ := col_at hsl hql
            have c0' : wr.cell? ⟨b, off, none⟩ = some (.string cs[0]) := by simpa using c0
            have Ccol := Lib.hid (show Calls Tryz.prog 37 #[.slice (some ⟨b2, off2, none⟩) l.length cap, .string cs[0]] wr fun e w' => e = .returned (.int .i64 q) ∧ wr = w' from
              (rcol_any _ cap l cs[0] wr hsl).mono fun e w' ⟨he, hw⟩ => ⟨he.trans (by rw [← show colAt l cs[0] = (q : Int) from hq]; rfl), hw⟩)
            have HK := Lib.hid (show kindAt l (colAt l (cs.headD ByteArray.empty)) = l[q].kind by
              have e1 : cs.headD ByteArray.empty = cs[0] := by cases cs with | nil => simp at hpos | cons a t => rfl
              rw [e1, hq]; simp [kindAt, List.getElem?_eq_getElem hql])
            clear hc0 hq c0
            go_wp2_with (first | (go_at_call 72; refine (rname_any _ _ (by first | exact hn.max | exact hs.max | exact ht.max | exact hk'.max)).mono ?_; rintro e w' ⟨rfl, rfl⟩) | (go_at_call 37; refine Ccol.out.mono ?_; rintro e w' ⟨rfl, rfl⟩))
            all_goals
              go_ret
              refine ⟨Eq.trans (b := .returned (.bool _)) rfl (ret_of (bool_of ?_)), HA.out⟩
              rw [HF.out]
              have hkk := HK.out
              clear HF HA HAB HP hbox hfr hz hzk hsl hsl2 h h2 HK Ccol c0' d0 d1 d2
              simp_all [ruleRest, emp]
          · have q1 : (kind == 1) = false := by simp [k1]
            have q2 : (kind == 2) = false := by simp [k2]
            have q3 : (kind == 3) = false := by simp [k3]
            have q4 : (kind == 4) = false := by simp [k4]
            go_wp2_with (go_at_call 72; refine (rname_any _ _ (by first | exact hn.max | exact hs.max | exact ht.max | exact hk'.max)).mono ?_; rintro e w' ⟨rfl, rfl⟩)
            all_goals
              go_ret
              refine ⟨Eq.trans (b := .returned (.bool _)) rfl (ret_of (bool_of ?_)), HA.out⟩
              rw [HF.out]
              clear HF HA HAB HP hbox hfr hz hzk hsl hsl2 h h2
              simp_all [ruleRest]
end Go.Proofs.YtiadkchlkdaceaaGreat

namespace Go.Proofs.YtiadkchlkdaceaaGreat
open Go.RowKit
set_option maxRecDepth 100000
set_option linter.unusedVariables false
theorem aft_two {w w' : World} {a b : Value} {ta tb : TypeId} (h : Aft ((w.alloc (.cells #[a] ta)).alloc (.cells #[b] tb)) w') :
    w'.cell? ⟨w.heap.size, 0, none⟩ = some a ∧ w'.cell? ⟨w.heap.size + 1, 0, none⟩ = some b ∧ w.heap.size < w'.heap.size ∧ w.heap.size + 1 < w'.heap.size := by
  have hz : w.heap.size + 1 < w'.heap.size := by have := h.size; simp at this; omega
  refine ⟨?_, ?_, by omega, hz⟩
  · rw [Below.cell h (p := ⟨w.heap.size, 0, none⟩) (by simp; omega), World.cell?_alloc_past _ _ _ (by simp)]; simp
  · rw [Below.cell h (p := ⟨w.heap.size + 1, 0, none⟩) (by simp), World.cell?_alloc_at _ _ _ _ (by simp)]; rfl
theorem columnName_any (name : ByteArray) (kind : Int) (null : Bool) (w : World) :
    Calls Tryz.prog 114 #[.agg #[.string name, .int .i64 kind, .bool null]] w fun e w' => e = .returned (.string name) ∧ Aft w w' := by
  go_enter Tryz.func114, Tryz.ntmps114
  go_wp2_with fail
  go_ret
  exact ⟨rfl, (Aft.refl _).alloc _⟩
set_option maxHeartbeats 1000000 in
theorem byCol1 (name : ByteArray) (kind : Int) (null : Bool) (s : ByteArray) (b1 b2 : Nat) (w : World) (hb1 : b1 < w.heap.size) (hb2 : b2 < w.heap.size) (hc1 : w.cell? ⟨b1, 0, none⟩ = some (.func (.func 114) #[] #[])) (hc2 : w.cell? ⟨b2, 0, none⟩ = some (.string s)) :
    Calls Tryz.prog 131 #[.agg #[.string name, .int .i64 kind, .bool null], .pointer (some ⟨b1, 0, none⟩), .pointer (some ⟨b2, 0, none⟩)] w fun e w' => e = .returned (.bool (eqS name s)) ∧ Aft w w' := by
  have Cn := Lib.hid (fun w => columnName_any name kind null w)
  go_enter Tryz.func131, Tryz.ntmps131
  go_wp2_with fail
  have f1 : ∀ x : Lat (w.alloc (.cells #[.string name, .int .i64 kind, .bool null] 93)), (lat _ x).cell? ⟨b1, 0, none⟩ = some (.func (.func 114) #[] #[]) := fun x => (cell?_lat _ x b1 0 (by simp; omega)).trans ((World.cell?_alloc_past _ _ _ hb1).trans hc1)
  have f2 : ∀ x : Lat (w.alloc (.cells #[.string name, .int .i64 kind, .bool null] 93)), (lat _ x).cell? ⟨b2, 0, none⟩ = some (.string s) := fun x => (cell?_lat _ x b2 0 (by simp; omega)).trans ((World.cell?_alloc_past _ _ _ hb2).trans hc2)
  have f3 : ∀ x : Lat (w.alloc (.cells #[.string name, .int .i64 kind, .bool null] 93)), ∀ o, (lat _ x).cell? ⟨w.heap.size, o, none⟩ = (#[.string name, .int .i64 kind, .bool null] : Array Value)[o]? := fun x o => (cell?_lat _ x _ o (by simp)).trans (World.cell?_alloc_at _ _ _ _ rfl)
  refine wp_region_lat (by kernel_rfl) (by kernel_rfl) ?_
  repeat (go_big_quiet_step ((first | (go_at_call 114; exact Calls.lat_of (Cn.out _)))))
  refine wpQuiet_nil ?_
  intro _ hw'
  obtain ⟨x, hw''⟩ := hw'
  subst hw''
  clear f1 f2 f3 hc1 hc2
  go_wp2_with fail
  go_ret
  exact ⟨rfl, ((Aft.refl _).alloc _).lat x⟩
set_option maxHeartbeats 1000000 in
theorem byCol (A : Option Addr) (cap : Nat) (l : List Col) (s : ByteArray) (w : World) (h : SlAt w 3 ColR A cap l) :
    Calls Tryz.prog 113 #[.slice A l.length cap, .string s, .func (.func 114) #[] #[]] w fun e w' => e = .returned (.int .i64 (idxP (fun c => eqS c.name s) l)) ∧ Aft w w' := by
  have hent := enters (P := Tryz.prog) Tryz.func131 (by kernel_rfl) rfl
  have C := Lib.hid (idxCol A cap l 131 #[.pointer (some ⟨w.heap.size + 1, 0, none⟩), .pointer (some ⟨w.heap.size, 0, none⟩)] (fun c => eqS c.name s) ((w.alloc (.cells #[.string s] 9)).alloc (.cells #[.func (.func 114) #[] #[]] 162)) (cols_aft (((Aft.refl w).alloc _).alloc _) h) hent (fun w' ha i hi  => by
    obtain ⟨d1, d2, z1, z2⟩ := aft_two ha
    exact byCol1 _ _ _ s (w.heap.size + 1) w.heap.size w' z2 z1 d2 d1))
  go_enter Tryz.func113, Tryz.ntmps113
  go_wp2_with fail
  refine C.out.mono ?_
  rintro e w1 ⟨rfl, a1⟩
  have HA := Lib.hid ((((Aft.refl w).alloc _).alloc _).trans a1)
  clear a1
  go_wp2_with fail
  go_ret
  exact ⟨rfl, HA.out⟩
theorem schemaName_any (name : ByteArray) (owner : ByteArray) (w : World) :
    Calls Tryz.prog 88 #[.agg #[.string name, .string owner]] w fun e w' => e = .returned (.string name) ∧ Aft w w' := by
  go_enter Tryz.func88, Tryz.ntmps88
  go_wp2_with fail
  go_ret
  exact ⟨rfl, (Aft.refl _).alloc _⟩
set_option maxHeartbeats 1000000 in
theorem bySch1 (name : ByteArray) (owner : ByteArray) (s : ByteArray) (b1 b2 : Nat) (w : World) (hb1 : b1 < w.heap.size) (hb2 : b2 < w.heap.size) (hc1 : w.cell? ⟨b1, 0, none⟩ = some (.func (.func 88) #[] #[])) (hc2 : w.cell? ⟨b2, 0, none⟩ = some (.string s)) :
    Calls Tryz.prog 116 #[.agg #[.string name, .string owner], .pointer (some ⟨b1, 0, none⟩), .pointer (some ⟨b2, 0, none⟩)] w fun e w' => e = .returned (.bool (eqS name s)) ∧ Aft w w' := by
  have Cn := Lib.hid (fun w => schemaName_any name owner w)
  go_enter Tryz.func116, Tryz.ntmps116
  go_wp2_with fail
  have f1 : ∀ x : Lat (w.alloc (.cells #[.string name, .string owner] 88)), (lat _ x).cell? ⟨b1, 0, none⟩ = some (.func (.func 88) #[] #[]) := fun x => (cell?_lat _ x b1 0 (by simp; omega)).trans ((World.cell?_alloc_past _ _ _ hb1).trans hc1)
  have f2 : ∀ x : Lat (w.alloc (.cells #[.string name, .string owner] 88)), (lat _ x).cell? ⟨b2, 0, none⟩ = some (.string s) := fun x => (cell?_lat _ x b2 0 (by simp; omega)).trans ((World.cell?_alloc_past _ _ _ hb2).trans hc2)
  have f3 : ∀ x : Lat (w.alloc (.cells #[.string name, .string owner] 88)), ∀ o, (lat _ x).cell? ⟨w.heap.size, o, none⟩ = (#[.string name, .string owner] : Array Value)[o]? := fun x o => (cell?_lat _ x _ o (by simp)).trans (World.cell?_alloc_at _ _ _ _ rfl)
  refine wp_region_lat (by kernel_rfl) (by kernel_rfl) ?_
  repeat (go_big_quiet_step ((first | (go_at_call 88; exact Calls.lat_of (Cn.out _)))))
  refine wpQuiet_nil ?_
  intro _ hw'
  obtain ⟨x, hw''⟩ := hw'
  subst hw''
  clear f1 f2 f3 hc1 hc2
  go_wp2_with fail
  go_ret
  exact ⟨rfl, ((Aft.refl _).alloc _).lat x⟩
set_option maxHeartbeats 1000000 in
theorem bySch (A : Option Addr) (cap : Nat) (l : List Sch) (s : ByteArray) (w : World) (h : SlAt w 2 SchR A cap l) :
    Calls Tryz.prog 87 #[.slice A l.length cap, .string s, .func (.func 88) #[] #[]] w fun e w' => e = .returned (.int .i64 (idxP (fun c => eqS c.name s) l)) ∧ Aft w w' := by
  have hent := enters (P := Tryz.prog) Tryz.func116 (by kernel_rfl) rfl
  have C := Lib.hid (idxSch A cap l 116 #[.pointer (some ⟨w.heap.size + 1, 0, none⟩), .pointer (some ⟨w.heap.size, 0, none⟩)] (fun c => eqS c.name s) ((w.alloc (.cells #[.string s] 9)).alloc (.cells #[.func (.func 88) #[] #[]] 143)) (schs_aft (((Aft.refl w).alloc _).alloc _) h) hent (fun w' ha i hi  => by
    obtain ⟨d1, d2, z1, z2⟩ := aft_two ha
    exact bySch1 _ _ s (w.heap.size + 1) w.heap.size w' z2 z1 d2 d1))
  go_enter Tryz.func87, Tryz.ntmps87
  go_wp2_with fail
  refine C.out.mono ?_
  rintro e w1 ⟨rfl, a1⟩
  have HA := Lib.hid ((((Aft.refl w).alloc _).alloc _).trans a1)
  clear a1
  go_wp2_with fail
  go_ret
  exact ⟨rfl, HA.out⟩
theorem ruleName_any (name : ByteArray) (kind : Int) (A0 : Option Addr) (n0 : Nat) (c0 : Nat) (lo : Int) (hi : Int) (rs : ByteArray) (rt : ByteArray) (rk : ByteArray) (w : World) :
    Calls Tryz.prog 119 #[.agg #[.string name, .int .i64 kind, .slice A0 n0 c0, .int .i64 lo, .int .i64 hi, .string rs, .string rt, .string rk]] w fun e w' => e = .returned (.string name) ∧ Aft w w' := by
  go_enter Tryz.func119, Tryz.ntmps119
  go_wp2_with fail
  go_ret
  exact ⟨rfl, (Aft.refl _).alloc _⟩
set_option maxHeartbeats 1000000 in
theorem byRul1 (name : ByteArray) (kind : Int) (A0 : Option Addr) (n0 : Nat) (c0 : Nat) (lo : Int) (hi : Int) (rs : ByteArray) (rt : ByteArray) (rk : ByteArray) (s : ByteArray) (b1 b2 : Nat) (w : World) (hb1 : b1 < w.heap.size) (hb2 : b2 < w.heap.size) (hc1 : w.cell? ⟨b1, 0, none⟩ = some (.func (.func 119) #[] #[])) (hc2 : w.cell? ⟨b2, 0, none⟩ = some (.string s)) :
    Calls Tryz.prog 133 #[.agg #[.string name, .int .i64 kind, .slice A0 n0 c0, .int .i64 lo, .int .i64 hi, .string rs, .string rt, .string rk], .pointer (some ⟨b1, 0, none⟩), .pointer (some ⟨b2, 0, none⟩)] w fun e w' => e = .returned (.bool (eqS name s)) ∧ Aft w w' := by
  have Cn := Lib.hid (fun w => ruleName_any name kind A0 n0 c0 lo hi rs rt rk w)
  go_enter Tryz.func133, Tryz.ntmps133
  go_wp2_with fail
  have f1 : ∀ x : Lat (w.alloc (.cells #[.string name, .int .i64 kind, .slice A0 n0 c0, .int .i64 lo, .int .i64 hi, .string rs, .string rt, .string rk] 108)), (lat _ x).cell? ⟨b1, 0, none⟩ = some (.func (.func 119) #[] #[]) := fun x => (cell?_lat _ x b1 0 (by simp; omega)).trans ((World.cell?_alloc_past _ _ _ hb1).trans hc1)
  have f2 : ∀ x : Lat (w.alloc (.cells #[.string name, .int .i64 kind, .slice A0 n0 c0, .int .i64 lo, .int .i64 hi, .string rs, .string rt, .string rk] 108)), (lat _ x).cell? ⟨b2, 0, none⟩ = some (.string s) := fun x => (cell?_lat _ x b2 0 (by simp; omega)).trans ((World.cell?_alloc_past _ _ _ hb2).trans hc2)
  have f3 : ∀ x : Lat (w.alloc (.cells #[.string name, .int .i64 kind, .slice A0 n0 c0, .int .i64 lo, .int .i64 hi, .string rs, .string rt, .string rk] 108)), ∀ o, (lat _ x).cell? ⟨w.heap.size, o, none⟩ = (#[.string name, .int .i64 kind, .slice A0 n0 c0, .int .i64 lo, .int .i64 hi, .string rs, .string rt, .string rk] : Array Value)[o]? := fun x o => (cell?_lat _ x _ o (by simp)).trans (World.cell?_alloc_at _ _ _ _ rfl)
  refine wp_region_lat (by kernel_rfl) (by kernel_rfl) ?_
  repeat (go_big_quiet_step ((first | (go_at_call 119; exact Calls.lat_of (Cn.out _)))))
  refine wpQuiet_nil ?_
  intro _ hw'
  obtain ⟨x, hw''⟩ := hw'
  subst hw''
  clear f1 f2 f3 hc1 hc2
  go_wp2_with fail
  go_ret
  exact ⟨rfl, ((Aft.refl _).alloc _).lat x⟩
set_option maxHeartbeats 1000000 in
theorem byRul (A : Option Addr) (cap : Nat) (l : List Rul) (s : ByteArray) (w : World) (h : SlAt w 8 RulR A cap l) :
    Calls Tryz.prog 118 #[.slice A l.length cap, .string s, .func (.func 119) #[] #[]] w fun e w' => e = .returned (.int .i64 (idxP (fun c => eqS c.name s) l)) ∧ Aft w w' := by
  have hent := enters (P := Tryz.prog) Tryz.func133 (by kernel_rfl) rfl
  have C := Lib.hid (idxRul A cap l 133 #[.pointer (some ⟨w.heap.size + 1, 0, none⟩), .pointer (some ⟨w.heap.size, 0, none⟩)] (fun c => eqS c.name s) ((w.alloc (.cells #[.string s] 9)).alloc (.cells #[.func (.func 119) #[] #[]] 167)) (ruls_aft (((Aft.refl w).alloc _).alloc _) h) hent (fun w' ha i hi e1 he => by
    obtain ⟨A2, cap2, rfl, _⟩ := he; obtain ⟨d1, d2, z1, z2⟩ := aft_two ha
    exact byRul1 _ _ _ _ _ _ _ _ _ _ s (w.heap.size + 1) w.heap.size w' z2 z1 d2 d1))
  go_enter Tryz.func118, Tryz.ntmps118
  go_wp2_with fail
  refine C.out.mono ?_
  rintro e w1 ⟨rfl, a1⟩
  have HA := Lib.hid ((((Aft.refl w).alloc _).alloc _).trans a1)
  clear a1
  go_wp2_with fail
  go_ret
  exact ⟨rfl, HA.out⟩
end Go.Proofs.YtiadkchlkdaceaaGreat

namespace Go.Proofs.YtiadkchlkdaceaaGreat
open Go.RowKit
set_option maxRecDepth 100000
set_option linter.unusedVariables false

theorem eqS_refl (s : ByteArray) : eqS s s = true := by simp [eqS]
theorem idxP_hit {α : Type} (p : α → Bool) (l : List α) (k : Nat) (hk : k < l.length) (hp : p l[k] = true) (h : idxP p (l.take k) < 0) : idxP p l = k := by
  refine idxP_some p l k hk hp fun i hi => ?_
  cases hq : p (l[i]'(by omega)) with
  | false => rfl
  | true =>
    exfalso
    have hlen : (l.take k).length = k := by rw [List.length_take]; omega
    clear hp
    have : ∀ (l : List α) (i : Nat) (hi : i < l.length), p l[i] = true → 0 ≤ idxP p l := by
      intro l
      induction l with
      | nil => intro i hi; simp at hi
      | cons x l ih =>
        intro i hi hp
        cases i with
        | zero => simp at hp; simp [idxP, hp]
        | succ i =>
          have := ih i (by simpa using hi) hp
          simp only [idxP]
          split
          · omega
          · split <;> omega
    have := this (l.take k) i (by omega) (by rw [List.getElem_take]; exact hq)
    omega
theorem idxP_miss {α : Type} (p : α → Bool) (l : List α) (k : Nat) (hk : k < l.length) (h : 0 ≤ idxP p (l.take k)) : idxP p l < k ∧ 0 ≤ idxP p l := by
  induction l generalizing k with
  | nil => simp at hk
  | cons x l ih =>
    cases k with
    | zero => simp [idxP] at h
    | succ k =>
      simp only [List.take_succ_cons, idxP] at h ⊢
      by_cases hx : p x = true
      · rw [if_pos hx] at h ⊢; omega
      · rw [if_neg hx] at h ⊢
        by_cases hy : idxP p (l.take k) < 0
        · rw [if_pos hy] at h; omega
        · have := ih k (by simpa using hk) (by omega)
          rw [if_neg (by omega)]
          omega

set_option maxHeartbeats 1000000 in
theorem mayCol_any (name : ByteArray) (kind : Int) (null : Bool) (w : World) (hs : name.size ≤ maxLen) :
    Calls Tryz.prog 112 #[.agg #[.string name, .int .i64 kind, .bool null]] w fun e w' => e = .returned (.bool (colOk ⟨name, kind, null⟩)) ∧ Aft w w' := by
  go_enter Tryz.func112, Tryz.ntmps112
  go_wp2_with (go_at_call 56; refine (name_any _ _ hs).mono ?_; rintro e w' ⟨rfl, rfl⟩)
  all_goals
    go_ret
    refine ⟨Eq.trans (b := .returned (.bool _)) rfl (ret_of (bool_of ?_)), (Aft.refl _).alloc _⟩
    simp_all [colOk]

set_option maxHeartbeats 2000000 in
theorem mayCols_any (A : Option Addr) (cap : Nat) (l : List Col) (w : World) (h : SlAt w 3 ColR A cap l) :
    Calls Tryz.prog 86 #[.slice A l.length cap] w fun e w' => e = .returned (.bool (colsOk l)) ∧ Aft w w' := by
  have hlen := h.len
  by_cases h1 : l.length < 1 ∨ 8 < l.length
  · have H := Lib.hid (show colsOk l = false by unfold colsOk; rcases h1 with h1 | h1 <;> simp <;> intros <;> omega)
    rcases h1 with h1 | h1
    all_goals
      go_enter Tryz.func86, Tryz.ntmps86
      go_wp2_with fail
      go_ret
      exact ⟨by rw [H.out]; rfl, Aft.refl _⟩
  · have g1 : 1 ≤ l.length := by omega
    have g8 : l.length ≤ 8 := by omega
    clear h1
    go_enter Tryz.func86, Tryz.ntmps86
    go_wp2_with fail
    go_loopw [15] (fun i wr => ∃ k : Nat, k ≤ l.length ∧ i = .int .i64 k ∧ Aft w wr ∧ ∀ j, j < k → ∀ (hj : j < l.length), (colOk l[j] && decide (idxP (fun d => eqS d.name l[j].name) (l.take j) < 0)) = true) (fun i _ => l.length - (intOf i).toNat)
    case atStart => exact ⟨0, Nat.zero_le _, rfl, Aft.refl _, fun j hj => absurd hj (Nat.not_lt_zero j)⟩
    case round =>
      obtain ⟨k, hk, rfl, ha, hp⟩ := hrel
      have HA := Lib.hid ha
      have HP := Lib.hid hp; clear hp
      by_cases hlt : k < l.length
      · have hsl := cols_aft ha h
        clear ha
        obtain ⟨b, off, rfl, hb, c0, c1, c2, hs⟩ := col_at hsl hlt
        have Cone := Lib.hid (fun w => mayCol_any l[k].name l[k].kind l[k].null w hs.max)
        obtain ⟨r, hr⟩ : ∃ r, idxP (fun d => eqS d.name l[k].name) l = r := ⟨_, rfl⟩
        have HR := Lib.hid hr
        have Cby := Lib.hid (show ∀ w', Aft wr w' → Calls Tryz.prog 113 #[.slice (some ⟨b, off, none⟩) l.length cap, .string l[k].name, .func (.func 114) #[] #[]] w' fun e w'' => e = .returned (.int .i64 r) ∧ Aft w' w'' from
          fun w' ha' => hr ▸ byCol _ cap l l[k].name w' (cols_aft ha' hsl))
        clear hr hsl
        generalize hcc : colOk ⟨l[k].name, l[k].kind, l[k].null⟩ = cc at Cone
        have HC := Lib.hid hcc
        clear hcc
        cases cc
        · go_wp2_with fail
          refine (Cone.out _).mono ?_
          rintro e w1 ⟨rfl, a1⟩
          obtain ⟨hbox, hfr, hz, hzk, HA1⟩ := aft_box a1
          clear a1
          go_wp2_with fail
          go_ret
          exact ⟨by rw [colsOk_false l k hlt (by rw [show colOk l[k] = false from HC.out]; rfl)]; rfl, HA.out.trans HA1.out⟩
        · by_cases hrk : r = k
          · have e1 : (r != (k : Int)) = false := by simp [hrk]
            have HRK := Lib.hid hrk
            clear hrk
            go_wp2_with fail
            refine (Cone.out _).mono ?_
            rintro e w1 ⟨rfl, a1⟩
            obtain ⟨hbox, hfr, hz, hzk, HA1⟩ := aft_box a1
            clear a1
            go_wp2_with fail
            refine (Cby.out _ HA1.out).mono ?_
            rintro e w2 ⟨rfl, a2⟩
            have HA2 := Lib.hid (HA1.out.trans a2)
            clear a2
            go_wp2_with fail
            go_roundw
            case rel =>
              refine ⟨k + 1, by omega, by go_num, HA.out.trans HA2.out, ext_lt (p := fun j => ∀ (hj : j < l.length), (colOk l[j] && decide (idxP (fun d => eqS d.name l[j].name) (l.take j) < 0)) = true) HP.out (fun _ => ?_)⟩
              rw [show colOk l[k] = true from HC.out, Bool.true_and]
              refine decide_eq_true ?_
              by_cases h0 : idxP (fun d => eqS d.name l[k].name) (l.take k) < 0
              · exact h0
              · have := (idxP_miss (fun d => eqS d.name l[k].name) l k hlt (by omega)).1
                have e1 := HR.out
                have e2 := HRK.out
                omega
            case measure => simp [intOf]; omega
          · have e1 : (r != (k : Int)) = true := by rw [bne_iff_ne]; exact hrk
            have HRK := Lib.hid hrk
            clear hrk
            go_wp2_with fail
            refine (Cone.out _).mono ?_
            rintro e w1 ⟨rfl, a1⟩
            obtain ⟨hbox, hfr, hz, hzk, HA1⟩ := aft_box a1
            clear a1
            go_wp2_with fail
            refine (Cby.out _ HA1.out).mono ?_
            rintro e w2 ⟨rfl, a2⟩
            have HA2 := Lib.hid (HA1.out.trans a2)
            clear a2
            go_wp2_with fail
            go_ret
            have hf : (colOk l[k] && decide (idxP (fun d => eqS d.name l[k].name) (l.take k) < 0)) = false := by
              rw [decide_eq_false, Bool.and_false]
              intro h0
              exact HRK.out ((HR.out.symm.trans (idxP_hit _ l k hlt (eqS_refl _) h0)))
            exact ⟨by rw [colsOk_false l k hlt hf]; rfl, HA.out.trans HA2.out⟩
      · go_wp2_with fail
        go_ret
        exact ⟨by rw [colsOk_true l g1 g8 (fun j hj hj' => HP.out j (by omega) hj')]; rfl, HA.out⟩
end Go.Proofs.YtiadkchlkdaceaaGreat

namespace Go.Proofs.YtiadkchlkdaceaaGreat
open Go.RowKit
set_option maxRecDepth 100000
set_option linter.unusedVariables false
/-- what is there once only, and is found in l, is not more than l -/
theorem rc_len (l : List Col) (cs : List ByteArray) (h : rcOk l cs = true) : cs.length ≤ l.length := by
  have hk : ∀ k (hk : k < cs.length), 0 ≤ colAt l cs[k] ∧ hasS (cs.take k) cs[k] = false := by
    intro k hk
    have := List.all_eq_true.1 h k (List.mem_range.2 hk)
    rw [List.getElem?_eq_getElem hk] at this
    simpa using this
  clear h
  have inj : ∀ i j (hi : i < cs.length) (hj : j < cs.length), i < j → colAt l cs[i] ≠ colAt l cs[j] := by
    intro i j hi hj hij he
    have h1 := (hk i hi).1
    obtain ⟨q, hq⟩ := Int.eq_ofNat_of_zero_le h1
    have hql : q < l.length := by have := (idxP_range (fun c => eqS c.name cs[i]) l).2; unfold colAt at hq; omega
    have a1 := idxP_at (fun c : Col => eqS c.name cs[i]) l q hql hq
    have a2 := idxP_at (fun c : Col => eqS c.name cs[j]) l q hql (he ▸ hq)
    have e : eqS cs[i] cs[j] = true := eqS_trans ((eqS_comm _ _).trans a1) a2
    have := (hk j hj).2
    unfold hasS at this
    rw [anyP_true (fun c => eqS c cs[j]) (cs.take j) i (by simp; omega) (by simpa using e)] at this
    cases this
  have hnd : ((List.range cs.length).map fun i => (colAt l (cs.getD i ByteArray.empty)).toNat).Nodup := by
    rw [List.nodup_iff_pairwise_ne, List.pairwise_map]
    refine List.Pairwise.imp_of_mem ?_ List.pairwise_lt_range
    intro i j hi hj hij he
    have hi' := List.mem_range.1 hi
    have hj' := List.mem_range.1 hj
    have e1 : cs.getD i ByteArray.empty = cs[i] := by simp [List.getD, List.getElem?_eq_getElem hi']
    have e2 : cs.getD j ByteArray.empty = cs[j] := by simp [List.getD, List.getElem?_eq_getElem hj']
    rw [e1, e2] at he
    have h1 := (hk i hi').1
    have h2 := (hk j hj').1
    exact inj i j hi' hj' hij (by omega)
  have hsub : ∀ u ∈ ((List.range cs.length).map fun i => (colAt l (cs.getD i ByteArray.empty)).toNat), u ∈ List.range l.length := by
    intro u hu
    obtain ⟨i, hi, rfl⟩ := List.mem_map.1 hu
    have hi' := List.mem_range.1 hi
    have e1 : cs.getD i ByteArray.empty = cs[i] := by simp [List.getD, List.getElem?_eq_getElem hi']
    rw [e1]
    have h1 := (hk i hi').1
    have h2 := (idxP_range (fun c => eqS c.name cs[i]) l).2
    unfold colAt at *
    exact List.mem_range.2 (by omega)
  have := hnd.length_le_of_subset hsub
  simpa using this
end Go.Proofs.YtiadkchlkdaceaaGreat

namespace Go.Proofs.YtiadkchlkdaceaaGreat
open Go.RowKit
set_option maxRecDepth 100000
set_option linter.unusedVariables false
structure Val where
  kind : Int
  int : Int
  text : ByteArray
def ValR (_ : World) (cs : List Value) (v : Val) : Prop := cs = [.int .i64 v.kind, .int .i64 v.int, .string v.text] ∧ Small v.text.size
theorem vals_aft {w w' : World} {A : Option Addr} {cap : Nat} {l : List Val} (hw : Aft w w') (h : SlAt w 3 ValR A cap l) : SlAt w' 3 ValR A cap l := h.aft hw fun _ _ h => h
theorem val_at {w : World} {A : Option Addr} {cap : Nat} {l : List Val} (h : SlAt w 3 ValR A cap l) {k : Nat} (hk : k < l.length) :
    ∃ b off, A = some ⟨b, off, none⟩ ∧ b < w.heap.size ∧ w.cell? ⟨b, off + k * 3, none⟩ = some (.int .i64 l[k].kind) ∧ w.cell? ⟨b, off + k * 3 + 1, none⟩ = some (.int .i64 l[k].int) ∧ w.cell? ⟨b, off + k * 3 + 2, none⟩ = some (.string l[k].text) ∧ Small l[k].text.size := by
  obtain ⟨b, off, cs, hA, hb, hl, ⟨rfl, hs⟩, hc⟩ := h.2.2 k hk
  exact ⟨b, off, hA, hb, by simpa using hc 0 (by omega), by simpa [Nat.add_assoc] using hc 1 (by omega), by simpa [Nat.add_assoc] using hc 2 (by omega), hs⟩
def eqV3 (k n : Int) (s : ByteArray) (k' n' : Int) (s' : ByteArray) : Bool := k == k' && (n == n' && eqS s s')
def eqV (a b : Val) : Bool := eqV3 a.kind a.int a.text b.kind b.int b.text
theorem run_eqVal (w : World) (k n : Int) (s : ByteArray) (k' n' : Int) (s' : ByteArray) :
    (Op.equalIn 10000 37 (.agg #[.int .i64 k, .int .i64 n, .string s]) (.agg #[.int .i64 k', .int .i64 n', .string s'])).run Tryz.prog w = .ok (eqV3 k n s k' n' s') w := by
  cases h1 : (k == k') <;> cases h2 : (n == n') <;> cases h3 : eqS s s' <;> (have h3' := h3; unfold eqS at h3') <;> go_simp <;> simp_all [eqV3]
@[go_sem ↓] theorem run_eqlVal (w : World) (k n : Int) (s : ByteArray) (k' n' : Int) (s' : ByteArray) :
    (binOp .eql 37 (.agg #[.int .i64 k, .int .i64 n, .string s]) (.agg #[.int .i64 k', .int .i64 n', .string s'])).run Tryz.prog w = .ok (.bool (eqV3 k n s k' n' s')) w := by
  rw [run_eql_struct, run_eqVal]; rfl
@[go_sem ↓] theorem run_neqVal (w : World) (k n : Int) (s : ByteArray) (k' n' : Int) (s' : ByteArray) :
    (binOp .neq 37 (.agg #[.int .i64 k, .int .i64 n, .string s]) (.agg #[.int .i64 k', .int .i64 n', .string s'])).run Tryz.prog w = .ok (.bool (!eqV3 k n s k' n' s')) w := by
  rw [run_neq_struct, run_eqVal]; rfl
/-- the same values -/
def eqVs : List Val → List Val → Bool
  | [], [] => true
  | a :: l, b :: m => eqV a b && eqVs l m
  | _, _ => false
theorem eqV_refl (a : Val) : eqV a a = true := by simp [eqV, eqV3, eqS]
theorem eqV_iff (a b : Val) : eqV a b = true ↔ a.kind = b.kind ∧ a.int = b.int ∧ eqS a.text b.text = true := by simp [eqV, eqV3]
theorem eqVs_refl : ∀ l, eqVs l l = true
  | [] => rfl
  | a :: l => by rw [eqVs, eqV_refl, eqVs_refl l]; rfl
theorem eqVs_len : ∀ (l m : List Val), ¬ l.length = m.length → eqVs l m = false
  | [], [], h => absurd rfl h
  | [], _ :: _, _ => rfl
  | _ :: _, [], _ => rfl
  | a :: l, b :: m, h => by rw [eqVs, eqVs_len l m (by simpa using h), Bool.and_false]
theorem eqVs_false : ∀ (l m : List Val) (k : Nat) (h1 : k < l.length) (h2 : k < m.length), eqV l[k] m[k] = false → eqVs l m = false
  | [], _, _, h, _, _ => by simp at h
  | _ :: _, [], _, _, h, _ => by simp at h
  | a :: l, b :: m, 0, _, _, h => by rw [eqVs, show eqV a b = false from h]; rfl
  | a :: l, b :: m, k + 1, h1, h2, h => by rw [eqVs, eqVs_false l m k (by simpa using h1) (by simpa using h2) h, Bool.and_false]
theorem eqVs_true : ∀ (l m : List Val), l.length = m.length → (∀ k (h1 : k < l.length) (h2 : k < m.length), eqV l[k] m[k] = true) → eqVs l m = true
  | [], [], _, _ => rfl
  | [], _ :: _, h, _ => by simp at h
  | _ :: _, [], h, _ => by simp at h
  | a :: l, b :: m, h, hp => by
    rw [eqVs, show eqV a b = true from hp 0 (by simp) (by simp), eqVs_true l m (by simpa using h) fun k h1 h2 => hp (k + 1) (Nat.succ_lt_succ h1) (Nat.succ_lt_succ h2)]; rfl
set_option maxHeartbeats 1000000 in
theorem eqVal_any (A : Option Addr) (cap : Nat) (l : List Val) (A2 : Option Addr) (cap2 : Nat) (l2 : List Val) (w : World) (h : SlAt w 3 ValR A cap l) (h2 : SlAt w 3 ValR A2 cap2 l2) :
    Calls Tryz.prog 129 #[.slice A l.length cap, .slice A2 l2.length cap2] w fun e w' => e = .returned (.bool (eqVs l l2)) ∧ Aft w w' := by
  have hlen := h.len
  have hlen2 := h2.len
  by_cases hl : l.length = l2.length
  · have e1 : ((l.length : Int) != (l2.length : Int)) = false := by simp [hl]
    go_enter Tryz.func129, Tryz.ntmps129
    go_wp2_with fail
    go_loopw [13] (fun i wr => ∃ k : Nat, k ≤ l.length ∧ i = .int .i64 k ∧ Aft w wr ∧ ∀ j, j < k → ∀ (hj : j < l.length) (hj2 : j < l2.length), eqV l[j] l2[j] = true) (fun i _ => l.length - (intOf i).toNat)
    case atStart => exact ⟨0, Nat.zero_le _, rfl, Aft.refl _, fun j hj => absurd hj (Nat.not_lt_zero j)⟩
    case round =>
      obtain ⟨k, hk, rfl, ha, hp⟩ := hrel
      have HA := Lib.hid ha
      have HP := Lib.hid hp; clear hp
      by_cases hlt : k < l.length
      · have hlt2 : k < l2.length := by omega
        obtain ⟨b, off, rfl, hb, c0, c1, c2, _⟩ := val_at (vals_aft ha h) hlt
        obtain ⟨b2, off2, rfl, hb2, d0, d1, d2, _⟩ := val_at (vals_aft ha h2) hlt2
        clear ha
        cases heq : eqV l[k] l2[k]
        · have h3 : eqV3 l[k].kind l[k].int l[k].text l2[k].kind l2[k].int l2[k].text = false := heq
          have HN := Lib.hid (eqVs_false l l2 k hlt hlt2 heq)
          clear heq
          go_wp2_with fail
          refine wp_region_lat (by kernel_rfl) (by kernel_rfl) ?_
          repeat (go_big_quiet_step (fail))
          refine wpQuiet_nil ?_
          intro _ hw'
          obtain ⟨x, hw''⟩ := hw'
          subst hw''
          go_wp2_with fail
          go_ret
          exact ⟨by rw [HN.out]; rfl, HA.out.lat x⟩
        · have h3 : eqV3 l[k].kind l[k].int l[k].text l2[k].kind l2[k].int l2[k].text = true := heq
          have HN := Lib.hid (ext_lt (p := fun j => ∀ (hj : j < l.length) (hj2 : j < l2.length), eqV l[j] l2[j] = true) HP.out (fun _ _ => heq))
          clear heq
          go_wp2_with fail
          refine wp_region_lat (by kernel_rfl) (by kernel_rfl) ?_
          repeat (go_big_quiet_step (fail))
          refine wpQuiet_nil ?_
          intro _ hw'
          obtain ⟨x, hw''⟩ := hw'
          subst hw''
          go_wp2_with fail
          go_roundw
          case rel => exact ⟨k + 1, by omega, by go_num, HA.out.lat x, HN.out⟩
          case measure => simp [intOf]; omega
      · have HN := Lib.hid (eqVs_true l l2 hl fun j hj hj2 => HP.out j (by omega) hj hj2)
        clear ha
        go_wp2_with fail
        go_ret
        exact ⟨by rw [HN.out]; rfl, HA.out⟩
  · have e1 : ((l.length : Int) != (l2.length : Int)) = true := by simp; omega
    have HN := Lib.hid (eqVs_len l l2 hl)
    go_enter Tryz.func129, Tryz.ntmps129
    go_wp2_with fail
    go_ret
    exact ⟨by rw [HN.out]; rfl, Aft.refl _⟩
set_option maxHeartbeats 1000000 in
theorem rsame_any (A : Option Addr) (cap : Nat) (l : List Val) (A2 : Option Addr) (cap2 : Nat) (l2 : List Val) (w : World) (h : SlAt w 3 ValR A cap l) (h2 : SlAt w 3 ValR A2 cap2 l2) :
    Calls Tryz.prog 14 #[.slice A l.length cap, .slice A2 l2.length cap2] w fun e w' => e = .returned (.bool (eqVs l l2)) ∧ Aft w w' := by
  have hlen := h.len
  have hlen2 := h2.len
  by_cases hl : l.length = l2.length
  · have e1 : ((l.length : Int) != (l2.length : Int)) = false := by simp [hl]
    go_enter Tryz.func14, Tryz.ntmps14
    go_wp2_with fail
    go_loopw [5] (fun i wr => ∃ k : Nat, k ≤ l.length ∧ i = .int .i64 k ∧ Aft w wr ∧ ∀ j, j < k → ∀ (hj : j < l.length) (hj2 : j < l2.length), eqV l[j] l2[j] = true) (fun i _ => l.length - (intOf i).toNat)
    case atStart => exact ⟨0, Nat.zero_le _, rfl, Aft.refl _, fun j hj => absurd hj (Nat.not_lt_zero j)⟩
    case round =>
      obtain ⟨k, hk, rfl, ha, hp⟩ := hrel
      have HA := Lib.hid ha
      have HP := Lib.hid hp; clear hp
      by_cases hlt : k < l.length
      · have hlt2 : k < l2.length := by omega
        obtain ⟨b, off, rfl, hb, c0, c1, c2, _⟩ := val_at (vals_aft ha h) hlt
        obtain ⟨b2, off2, rfl, hb2, d0, d1, d2, _⟩ := val_at (vals_aft ha h2) hlt2
        clear ha
        cases heq : eqV l[k] l2[k]
        · have h3 : eqV3 l[k].kind l[k].int l[k].text l2[k].kind l2[k].int l2[k].text = false := heq
          have HN := Lib.hid (eqVs_false l l2 k hlt hlt2 heq)
          clear heq
          go_wp2_with fail
          refine wp_region_lat (by kernel_rfl) (by kernel_rfl) ?_
          repeat (go_big_quiet_step (fail))
          refine wpQuiet_nil ?_
          intro _ hw'
          obtain ⟨x, hw''⟩ := hw'
          subst hw''
          go_wp2_with fail
          go_ret
          exact ⟨by rw [HN.out]; rfl, HA.out.lat x⟩
        · have h3 : eqV3 l[k].kind l[k].int l[k].text l2[k].kind l2[k].int l2[k].text = true := heq
          have HN := Lib.hid (ext_lt (p := fun j => ∀ (hj : j < l.length) (hj2 : j < l2.length), eqV l[j] l2[j] = true) HP.out (fun _ _ => heq))
          clear heq
          go_wp2_with fail
          refine wp_region_lat (by kernel_rfl) (by kernel_rfl) ?_
          repeat (go_big_quiet_step (fail))
          refine wpQuiet_nil ?_
          intro _ hw'
          obtain ⟨x, hw''⟩ := hw'
          subst hw''
          go_wp2_with fail
          go_roundw
          case rel => exact ⟨k + 1, by omega, by go_num, HA.out.lat x, HN.out⟩
          case measure => simp [intOf]; omega
      · have HN := Lib.hid (eqVs_true l l2 hl fun j hj hj2 => HP.out j (by omega) hj hj2)
        clear ha
        go_wp2_with fail
        go_ret
        exact ⟨by rw [HN.out]; rfl, HA.out⟩
  · have e1 : ((l.length : Int) != (l2.length : Int)) = true := by simp; omega
    have HN := Lib.hid (eqVs_len l l2 hl)
    go_enter Tryz.func14, Tryz.ntmps14
    go_wp2_with fail
    go_ret
    exact ⟨by rw [HN.out]; rfl, Aft.refl _⟩
/-- may a value be? -/
def mayV (v : Val) : Bool := if v.kind == 1 then v.int == 0 && emp v.text else if v.kind == 2 then emp v.text else if v.kind == 3 then v.int == 0 && decide ((v.text.size : Int) ≤ 32) else false
theorem emp_size (s : ByteArray) : emp s = decide (s.size = 0) := isEmpty_iff s
theorem eqS_nil (s : ByteArray) : eqS s ⟨#[]⟩ = emp s := by
  have e : (⟨#[]⟩ : ByteArray).toList = [] := by decide +kernel
  rw [Bool.eq_iff_iff]; unfold eqS emp; rw [e]; simp
set_option maxHeartbeats 2000000 in
theorem may_any (v : Val) (w : World) (hs : Small v.text.size) :
    Calls Tryz.prog 66 #[.agg #[.int .i64 v.kind, .int .i64 v.int, .string v.text]] w fun e w' => e = .returned (.bool (mayV v)) ∧ Aft w w' := by
  have l1 : w.heap.size < w.heap.size + 1 := by omega
  have l2 : w.heap.size < w.heap.size + 1 + 1 := by omega
  have hm := hs.le
  obtain ⟨kind, int, text⟩ := v
  simp only at hs hm ⊢
  by_cases k2 : kind = 2
  · subst k2
    cases hE : emp text
    · have q : eqV3 2 int text 2 int ⟨#[]⟩ = false := by simp [eqV3, eqS_nil, hE]
      have HF := Lib.hid (show mayV ⟨2, int, text⟩ = false by simp [mayV, hE])
      go_enter Tryz.func66, Tryz.ntmps66
      go_wp2_with fail
      go_ret
      exact ⟨by rw [HF.out]; rfl, ((Aft.refl _).alloc _).alloc _⟩
    · have q : eqV3 2 int text 2 int ⟨#[]⟩ = true := by simp [eqV3, eqS_nil, hE]
      have z : text.size = 0 := by rw [emp_size] at hE; exact of_decide_eq_true hE
      have z' : (text.size : Int) ≤ 32 := by omega
      have HF := Lib.hid (show mayV ⟨2, int, text⟩ = true by simp [mayV, hE])
      go_enter Tryz.func66, Tryz.ntmps66
      go_wp2_with fail
      go_ret
      exact ⟨by rw [HF.out]; simp, ((Aft.refl _).alloc _).alloc _⟩
  by_cases k3 : kind = 3
  · subst k3
    by_cases hi : int = 0
    · subst hi
      have q : eqV3 3 0 text 3 0 text = true := by simp [eqV3, eqS]
      have HF := Lib.hid (show mayV ⟨3, 0, text⟩ = decide ((text.size : Int) ≤ 32) by simp [mayV])
      go_enter Tryz.func66, Tryz.ntmps66
      go_wp2_with fail
      go_ret
      exact ⟨by rw [HF.out]; rfl, ((Aft.refl _).alloc _).alloc _⟩
    · have q : eqV3 3 int text 3 0 text = false := by simp [eqV3, hi]
      have HF := Lib.hid (show mayV ⟨3, int, text⟩ = false by simp [mayV, hi])
      go_enter Tryz.func66, Tryz.ntmps66
      go_wp2_with fail
      go_ret
      exact ⟨by rw [HF.out]; rfl, ((Aft.refl _).alloc _).alloc _⟩
  by_cases k1 : kind = 1
  · subst k1
    cases hE : (int == 0 && emp text)
    · have q : eqV3 1 int text 1 0 ⟨#[]⟩ = false := by simpa [eqV3, eqS_nil] using hE
      have HF := Lib.hid (show mayV ⟨1, int, text⟩ = false by simpa [mayV] using hE)
      go_enter Tryz.func66, Tryz.ntmps66
      go_wp2_with fail
      go_ret
      exact ⟨by rw [HF.out]; rfl, ((Aft.refl _).alloc _).alloc _⟩
    · have q : eqV3 1 int text 1 0 ⟨#[]⟩ = true := by simpa [eqV3, eqS_nil] using hE
      have z : text.size = 0 := by simp only [Bool.and_eq_true] at hE; have := hE.2; rw [emp_size] at this; exact of_decide_eq_true this
      have z' : (text.size : Int) ≤ 32 := by omega
      have HF := Lib.hid (show mayV ⟨1, int, text⟩ = true by simpa [mayV] using hE)
      go_enter Tryz.func66, Tryz.ntmps66
      go_wp2_with fail
      go_ret
      exact ⟨by rw [HF.out]; simp, ((Aft.refl _).alloc _).alloc _⟩
  have q1 : (kind == 1) = false := by simpa using k1
  have q2 : (kind == 2) = false := by simpa using k2
  have q3 : (kind == 3) = false := by simpa using k3
  have HF := Lib.hid (show mayV ⟨kind, int, text⟩ = false by simp [mayV, k1, k2, k3])
  go_enter Tryz.func66, Tryz.ntmps66
  go_wp2_with fail
  go_ret
  exact ⟨by rw [HF.out]; rfl, ((Aft.refl _).alloc _).alloc _⟩
set_option maxHeartbeats 2000000 in
theorem rmay_any (v : Val) (w : World) (hs : Small v.text.size) :
    Calls Tryz.prog 73 #[.agg #[.int .i64 v.kind, .int .i64 v.int, .string v.text]] w fun e w' => e = .returned (.bool (mayV v)) ∧ Aft w w' := by
  have hm := hs.le
  obtain ⟨kind, int, text⟩ := v
  simp only at hs hm ⊢
  have HE := Lib.hid (show emp text = text.toList.isEmpty from rfl)
  by_cases k2 : kind = 2
  · subst k2
    have HF := Lib.hid (show mayV ⟨2, int, text⟩ = emp text by simp [mayV])
    go_enter Tryz.func73, Tryz.ntmps73
    go_wp2_with fail
    go_ret
    exact ⟨by rw [HF.out, HE.out]; rfl, (Aft.refl _).alloc _⟩
  by_cases k3 : kind = 3
  · subst k3
    cases hi : (int == 0)
    · have HF := Lib.hid (show mayV ⟨3, int, text⟩ = false by simp [mayV, hi])
      go_enter Tryz.func73, Tryz.ntmps73
      go_wp2_with fail
      go_ret
      exact ⟨by rw [HF.out]; rfl, (Aft.refl _).alloc _⟩
    · have HF := Lib.hid (show mayV ⟨3, int, text⟩ = decide ((text.size : Int) ≤ 32) by simp [mayV, hi])
      go_enter Tryz.func73, Tryz.ntmps73
      go_wp2_with fail
      go_ret
      exact ⟨by rw [HF.out]; rfl, (Aft.refl _).alloc _⟩
  by_cases k1 : kind = 1
  · subst k1
    cases hi : (int == 0)
    · have HF := Lib.hid (show mayV ⟨1, int, text⟩ = false by simp [mayV, hi])
      go_enter Tryz.func73, Tryz.ntmps73
      go_wp2_with fail
      go_ret
      exact ⟨by rw [HF.out]; rfl, (Aft.refl _).alloc _⟩
    · have HF := Lib.hid (show mayV ⟨1, int, text⟩ = emp text by simp [mayV, hi])
      go_enter Tryz.func73, Tryz.ntmps73
      go_wp2_with fail
      go_ret
      exact ⟨by rw [HF.out, HE.out]; rfl, (Aft.refl _).alloc _⟩
  have q1 : (kind == 1) = false := by simpa using k1
  have q2 : (kind == 2) = false := by simpa using k2
  have q3 : (kind == 3) = false := by simpa using k3
  have HF := Lib.hid (show mayV ⟨kind, int, text⟩ = false by simp [mayV, k1, k2, k3])
  go_enter Tryz.func73, Tryz.ntmps73
  go_wp2_with fail
  go_ret
  exact ⟨by rw [HF.out]; rfl, (Aft.refl _).alloc _⟩
end Go.Proofs.YtiadkchlkdaceaaGreat

namespace Go.Proofs.YtiadkchlkdaceaaGreat
open Go.ChangeShapes Go.WideShapes Go.ChangeAt Go.RowKit
set_option maxRecDepth 100000
set_option linter.unusedVariables false
section
variable {H : Type} {enc : TypeId × Value → H} {w : World}
theorem rd_val {cs : List Value} (h : Rd enc Tryz.prog w 37 cs) : ∃ x, ValR w cs x := by
  obtain ⟨hl, _⟩ := h.struct Tryz.underlying37
  rw [show Tryz.prog.cellsOf 37 = 3 by kernel_rfl] at hl
  match cs, hl with
  | [c0, c1, c2], _ =>
    have f0 := h.field Tryz.underlying37 0 35 0 1 rfl (by kernel_rfl)
    have f1 := h.field Tryz.underlying37 1 3 1 1 rfl (by kernel_rfl)
    have f2 := h.field Tryz.underlying37 2 9 2 1 rfl (by kernel_rfl)
    clear h
    obtain ⟨x0, e0, _⟩ := f0.int Tryz.underlying35
    obtain ⟨x1, e1, _⟩ := f1.int Tryz.underlying3
    obtain ⟨x2, e2, z2⟩ := f2.string Tryz.underlying9
    simp at e0 e1 e2
    subst e0 e1 e2
    exact ⟨⟨x0, x1, x2⟩, rfl, z2⟩
theorem rd_vals {cs : List Value} (h : Rd enc Tryz.prog w 34 cs) : ∃ l, SlOf w 3 ValR cs l :=
  Rd.slice Tryz.underlying34 (by kernel_rfl : Tryz.prog.cellsOf 37 = 3) (by decide) (of_decide_eq_true (by kernel_rfl)) (fun _ h => rd_val h) h
end
end Go.Proofs.YtiadkchlkdaceaaGreat

namespace Go.Proofs.YtiadkchlkdaceaaGreat
open Go.RowKit
set_option linter.unusedVariables false
theorem own_aft {w w' : World} {base size n : Nat} {e : TypeId} {v : Value} {xs : List Value} (h : w.ownsRow base e size v n xs) (hw : Aft w w') : w'.ownsRow base e size v n xs := by
  refine ⟨h.1, ?_⟩
  rcases h.2 with hn | ⟨g, cap, cur, rfl, hb, hgg, rest⟩
  · exact .inl hn
  · have hlt : g < w.heap.size := (Array.getElem?_eq_some_iff.1 hgg).1
    exact .inr ⟨g, cap, cur, rfl, hb, (hw.block g hlt).trans hgg, rest⟩
theorem own_block {w : World} {base size n : Nat} {e : TypeId} {v : Value} {xs : List Value} (h : w.ownsRow base e size v n xs) : ∀ g, v.ownBlock = some g → base ≤ g := by
  intro g hg
  rcases h.2 with ⟨rfl, _⟩ | ⟨g', cap, cur, rfl, hb, _⟩
  · simp [Value.ownBlock] at hg
  · have : g' = g := by simpa [Value.ownBlock] using hg
    omega
/-- behind an append onto a row of the call's own -/
theorem aft_grown {W w w' : World} {size n : Nat} {e : TypeId} {v : Value} {xs : List Value} (h : w.ownsRow W.heap.size e size v n xs) (hW : Aft W w) (hg : w.grownBy w' v.ownBlock) : Aft W w' := by
  refine ⟨hg.os.trans hW.os, hg.tape.trans hW.tape, hg.output.trans hW.output, Nat.le_trans hW.size hg.size, fun k hk => ?_⟩
  have hlt : k < w.heap.size := Nat.lt_of_lt_of_le hk hW.size
  refine (hg.block k hlt ?_).trans (hW.block k hk)
  intro he
  have := own_block h k he.symm
  omega
theorem own_nil (w : World) (base : Nat) (e : TypeId) (size : Nat) : w.ownsRow base e size (.slice none 0 0) 0 [] := ⟨by simp, .inl ⟨rfl, rfl⟩⟩
theorem flatMap_get {α : Type} (f : α → List Value) (size : Nat) (hf : ∀ x, (f x).length = size) : ∀ (l : List α) (i j : Nat) (hi : i < l.length), j < size → (l.flatMap f)[i * size + j]? = (f l[i])[j]?
  | x :: l, 0, j, _, hj => by
    rw [List.flatMap_cons, Nat.zero_mul, Nat.zero_add, List.getElem?_append_left (by rw [hf]; exact hj)]
    rfl
  | x :: l, i + 1, j, hi, hj => by
    have e : (i + 1) * size + j = size + (i * size + j) := by rw [Nat.succ_mul]; omega
    rw [List.flatMap_cons, e, List.getElem?_append_right (by rw [hf]; omega), hf, Nat.add_sub_cancel_left]
    exact flatMap_get f size hf l i j (by simpa using hi) hj
/-- an owned row is read as a slice -/
theorem own_slAt {α : Type} {w : World} {base size : Nat} {e : TypeId} {v : Value} {l : List α} (f : α → List Value) (R : World → List Value → α → Prop) (hf : ∀ x, (f x).length = size) (h : w.ownsRow base e size v l.length (l.flatMap f)) (hR : ∀ x ∈ l, R w (f x) x)
    (hs : Small (l.length * 16)) : ∃ A cap, v = .slice A l.length cap ∧ SlAt w size R A cap l := by
  rcases h.2 with ⟨rfl, hn⟩ | ⟨g, cap, cur, rfl, hb, hgg, hnc, _, hcs, htk⟩
  · have : l = [] := List.eq_nil_of_length_eq_zero hn
    subst this
    exact ⟨none, 0, rfl, slAt_nil⟩
  · have hlt : g < w.heap.size := (Array.getElem?_eq_some_iff.1 hgg).1
    refine ⟨some ⟨g, 0, none⟩, cap, rfl, hnc, hs, fun i hi => ⟨g, 0, f l[i], rfl, hlt, hf _, hR _ (List.getElem_mem hi), fun j hj => ?_⟩⟩
    rw [← flatMap_get f size hf l i j hi hj, ← htk]
    have hlt2 : i * size + j < l.length * size := by
      have : (i + 1) * size ≤ l.length * size := Nat.mul_le_mul_right _ hi
      rw [Nat.succ_mul] at this; omega
    rw [List.getElem?_take_of_lt hlt2]
    simp [World.cell?, hgg]
end Go.Proofs.YtiadkchlkdaceaaGreat

namespace Go.Proofs.YtiadkchlkdaceaaGreat
open Go.RowKit
set_option maxRecDepth 100000
set_option linter.unusedVariables false
def kindsOf (l : List Col) (cs : List ByteArray) : List Int := cs.filterMap fun s => if 0 ≤ colAt l s then some (kindAt l (colAt l s)) else none
theorem kindsOf_succ (l : List Col) (cs : List ByteArray) (k : Nat) (hk : k < cs.length) : kindsOf l (cs.take (k + 1)) = kindsOf l (cs.take k) ++ if 0 ≤ colAt l cs[k] then [kindAt l (colAt l cs[k])] else [] := by
  unfold kindsOf
  rw [List.take_succ_eq_append_getElem hk, List.filterMap_append]
  by_cases h : 0 ≤ colAt l cs[k] <;> simp [h]
theorem kindsOf_le (l : List Col) (cs : List ByteArray) : (kindsOf l cs).length ≤ cs.length := List.length_filterMap_le _ _
theorem infoVK : (Tryz.prog.info? 35).map (fun i => (i.zero, i.size, i.bytes)) = some (some (.int .i64 0), 1, 8) := by kernel_rfl
def KindsPost (w : World) (ks : List Int) (e : Ending) (w' : World) : Prop := ∃ v, e = .returned v ∧ w'.ownsRow w.heap.size 35 1 v ks.length (ks.map (Value.int .i64)) ∧ Aft w w'
set_option maxHeartbeats 2000000 in
theorem kinds_any (A : Option Addr) (cap : Nat) (l : List Col) (A2 : Option Addr) (cap2 : Nat) (cs : List ByteArray) (w : World) (h : SlAt w 3 ColR A cap l) (h2 : SlAt w 1 StrR A2 cap2 cs) :
    Calls Tryz.prog 120 #[.slice A l.length cap, .slice A2 cs.length cap2] w (KindsPost w (kindsOf l cs)) := by
  have hlen := h.len
  have hlen2 := h2.len
  obtain ⟨i0, hi, hz0, hz1, hz2⟩ := info_parts infoVK
  have HI := Lib.hid hi
  have HZ0 := Lib.hid hz0
  have HZ1 := Lib.hid hz1
  have HZ2 := Lib.hid hz2
  clear hi hz0 hz1 hz2
  go_enter Tryz.func120, Tryz.ntmps120
  go_wp2_with fail
  go_loopw [5, 11] (fun v i wr => ∃ k : Nat, k ≤ cs.length ∧ i = .int .i64 k ∧ Aft w wr ∧ wr.ownsRow w.heap.size 35 1 v (kindsOf l (cs.take k)).length ((kindsOf l (cs.take k)).map (Value.int .i64))) (fun _ i _ => cs.length - (intOf i).toNat)
  case atStart => exact ⟨0, Nat.zero_le _, rfl, Aft.refl _, own_nil _ _ _ _⟩
  case round =>
    rename_i v _
    obtain ⟨k, hk, rfl, ha, hown⟩ := hrel
    have HA := Lib.hid ha
    have HO := Lib.hid hown
    clear hown
    by_cases hlt : k < cs.length
    · have hsl := cols_aft ha h
      have hsl2 := strs_aft ha h2
      clear ha
      obtain ⟨b, off, rfl, hb, c0, hss⟩ := str_at hsl2 hlt
      obtain ⟨i, hi⟩ : ∃ i, colAt l cs[k] = i := ⟨_, rfl⟩
      have Cby := Lib.hid (show Calls Tryz.prog 113 #[.slice A l.length cap, .string cs[k], .func (.func 114) #[] #[]] wr fun e w' => e = .returned (.int .i64 i) ∧ Aft wr w' from
        (byCol A cap l cs[k] wr hsl).mono fun e w' ⟨he, hw⟩ => ⟨he.trans (by rw [← hi]; rfl), hw⟩)
      have HS := Lib.hid (kindsOf_succ l cs k hlt)
      by_cases hi0 : 0 ≤ i
      · obtain ⟨q, hq⟩ := Int.eq_ofNat_of_zero_le hi0
        subst hq
        have hql : q < l.length := by have := (idxP_range (fun c => eqS c.name cs[k]) l).2; unfold colAt at hi; omega
        obtain ⟨b2, off2, rfl, hb2, d0, d1, d2, hss2⟩ := col_at hsl hql
        have HN := Lib.hid (show kindsOf l (cs.take (k + 1)) = kindsOf l (cs.take k) ++ [l[q].kind] by rw [HS.out, hi, if_pos hi0]; simp [kindAt, List.getElem?_eq_getElem hql])
        have hkl := kindsOf_le l (cs.take k)
        have hkl2 : (cs.take k).length ≤ k := List.length_take_le _ _
        clear hi hsl hsl2 HS
        go_wp2_with fail
        refine Cby.out.mono ?_
        rintro e w1 ⟨rfl, a1⟩
        have HA1 := Lib.hid (HA.out.trans a1)
        have HO1 := Lib.hid (own_aft HO.out a1)
        have d1' := (Below.cell a1 (p := ⟨b2, off2 + q * 3 + 1, none⟩) hb2).trans d1
        clear a1 d0 d1 d2 c0
        go_wp2_with (at_builtin; refine wpList_append_own _ rfl (.tmp 20) (.tmp 26) 168 rfl w.heap.size 35 i0 (.int .i64 0) 1 8 Tryz.underlying168 HI.out HZ0.out HZ1.out HZ2.out rfl (by decide) _ _ _ rfl (HO1.out.alloc _) ⟨w1.heap.size, 0, none⟩ 1 1 [.int .i64 l[q].kind] rfl rfl ?c1 ?c2 ?c3 ?c4 ?c5 ?_)
        case c1 => exact cell_one_new _ _ _
        case c2 => simp [Value.oneCell']
        case c3 => unfold maxLen; omega
        case c4 => omega
        case c5 => have := HA1.out.size; simp; omega
        intro v' w2 hown' hgrow _
        have HA2 := Lib.hid (aft_grown (HO1.out.alloc _) (HA1.out.alloc _) hgrow)
        have HO2 := Lib.hid hown'
        clear hown' hgrow
        go_wp2_with fail
        go_roundw
        case rel => exact ⟨k + 1, by omega, by go_num, HA2.out, by rw [HN.out]; simpa using HO2.out⟩
        case measure => simp [intOf]; omega
      · have HN := Lib.hid (show kindsOf l (cs.take (k + 1)) = kindsOf l (cs.take k) by rw [HS.out, hi, if_neg hi0, List.append_nil])
        clear hi hsl hsl2 HS
        go_wp2_with fail
        refine Cby.out.mono ?_
        rintro e w1 ⟨rfl, a1⟩
        have HA1 := Lib.hid (HA.out.trans a1)
        have HO1 := Lib.hid (own_aft HO.out a1)
        clear a1
        go_wp2_with fail
        go_roundw
        case rel => exact ⟨k + 1, by omega, by go_num, HA1.out, by rw [HN.out]; exact HO1.out⟩
        case measure => simp [intOf]; omega
    · clear ha
      go_wp2_with fail
      go_ret
      have e1 : cs.take k = cs := List.take_of_length_le (by omega)
      have ho := HO.out
      rw [e1] at ho
      exact ⟨_, rfl, ho, HA.out⟩
end Go.Proofs.YtiadkchlkdaceaaGreat

namespace Go.Proofs.YtiadkchlkdaceaaGreat
open Go.RowKit
set_option maxRecDepth 100000
set_option linter.unusedVariables false
def tabAt (l : List Tab) (s n : ByteArray) : Int := idxP (fun t => eqS t.schema s && eqS t.name n) l
set_option maxHeartbeats 1000000 in
theorem where1 (schema name owner : ByteArray) (A0 : Option Addr) (n0 c0 : Nat) (A1 : Option Addr) (n1 c1 : Nat) (s n : ByteArray) (b1 b2 : Nat) (w : World) (hb1 : b1 < w.heap.size) (hb2 : b2 < w.heap.size) (hc1 : w.cell? ⟨b1, 0, none⟩ = some (.string s)) (hc2 : w.cell? ⟨b2, 0, none⟩ = some (.string n)) :
    Calls Tryz.prog 94 #[.agg #[.string schema, .string name, .string owner, .slice A0 n0 c0, .slice A1 n1 c1], .pointer (some ⟨b1, 0, none⟩), .pointer (some ⟨b2, 0, none⟩)] w fun e w' => e = .returned (.bool (eqS schema s && eqS name n)) ∧ Aft w w' := by
  cases h1 : eqS schema s
  · have h1' : (schema.toList == s.toList) = false := h1
    clear h1
    go_enter Tryz.func94, Tryz.ntmps94
    go_wp2_with fail
    go_ret
    exact ⟨rfl, (Aft.refl _).alloc _⟩
  · have h1' : (schema.toList == s.toList) = true := h1
    clear h1
    go_enter Tryz.func94, Tryz.ntmps94
    go_wp2_with fail
    go_ret
    exact ⟨rfl, (Aft.refl _).alloc _⟩
theorem aft_three {w w' : World} {c : Array Value} {a b : Value} {t ta tb : TypeId} (h : Aft (((w.alloc (.cells c t)).alloc (.cells #[a] ta)).alloc (.cells #[b] tb)) w') :
    w'.cell? ⟨w.heap.size + 1, 0, none⟩ = some a ∧ w'.cell? ⟨w.heap.size + 1 + 1, 0, none⟩ = some b ∧ w.heap.size + 1 < w'.heap.size ∧ w.heap.size + 1 + 1 < w'.heap.size := by
  have := aft_two (w := w.alloc (.cells c t)) h
  simpa using this
set_option maxHeartbeats 1000000 in
theorem where_any (vs : Value) (A : Option Addr) (cap : Nat) (l : List Tab) (s n : ByteArray) (w : World) (h : SlAt w 5 TabR A cap l) :
    Calls Tryz.prog 59 #[.agg #[vs, .slice A l.length cap], .string s, .string n] w fun e w' => e = .returned (.tuple #[.int .i64 (tabAt l s n), .bool (decide (0 ≤ tabAt l s n))]) ∧ Aft w w' := by
  have hent := enters (P := Tryz.prog) Tryz.func94 (by kernel_rfl) rfl
  obtain ⟨i, hi⟩ : ∃ i, tabAt l s n = i := ⟨_, rfl⟩
  have C := Lib.hid ((idxTab A cap l 94 #[.pointer (some ⟨w.heap.size + 1, 0, none⟩), .pointer (some ⟨w.heap.size + 1 + 1, 0, none⟩)] (fun t => eqS t.schema s && eqS t.name n) (((w.alloc (.cells #[vs, .slice A l.length cap] 29)).alloc (.cells #[.string s] 9)).alloc (.cells #[.string n] 9)) (tabs_aft ((((Aft.refl w).alloc _).alloc _).alloc _) h) hent (fun w' ha j hj e1 he => by
    obtain ⟨A2, cap2, A3, cap3, rfl, _⟩ := he
    obtain ⟨d1, d2, z1, z2⟩ := aft_three ha
    exact where1 _ _ _ A2 _ cap2 A3 _ cap3 s n (w.heap.size + 1) (w.heap.size + 1 + 1) w' z1 z2 d1 d2)).mono (fun e w' ⟨he, hw⟩ => (⟨he.trans (by rw [← hi]; rfl), hw⟩ : e = Ending.returned (Value.int .i64 i) ∧ Aft _ w')))
  rw [hi]
  clear hi
  go_enter Tryz.func59, Tryz.ntmps59
  go_wp2_with fail
  refine C.out.mono ?_
  rintro e w1 ⟨rfl, a1⟩
  have HA := Lib.hid (((((Aft.refl w).alloc _).alloc _).alloc _).trans a1)
  clear a1
  go_wp2_with fail
  go_ret2
  exact ⟨rfl, HA.out⟩
/-- how many tables a schema has -/
def within (l : List Tab) (s : ByteArray) : Nat := (l.filter fun t => eqS t.schema s).length
theorem within_succ (l : List Tab) (s : ByteArray) (k : Nat) (hk : k < l.length) : within (l.take (k + 1)) s = within (l.take k) s + if eqS l[k].schema s = true then 1 else 0 := by
  unfold within
  rw [List.take_succ_eq_append_getElem hk, List.filter_append, List.length_append]
  by_cases h : eqS l[k].schema s = true <;> simp [h]
theorem within_le (l : List Tab) (s : ByteArray) : within l s ≤ l.length := List.length_filter_le _ _
set_option maxHeartbeats 1000000 in
theorem within_any (vs : Value) (A : Option Addr) (cap : Nat) (l : List Tab) (s : ByteArray) (w : World) (h : SlAt w 5 TabR A cap l) :
    Calls Tryz.prog 57 #[.agg #[vs, .slice A l.length cap], .string s] w fun e w' => e = .returned (.int .i64 (within l s)) ∧ Aft w w' := by
  have hlen := h.len
  go_enter Tryz.func57, Tryz.ntmps57
  go_wp2_with fail
  go_loopw [5, 11] (fun n i wr => ∃ k : Nat, k ≤ l.length ∧ i = .int .i64 k ∧ n = .int .i64 (within (l.take k) s) ∧ Aft w wr) (fun _ i _ => l.length - (intOf i).toNat)
  case atStart => exact ⟨0, Nat.zero_le _, rfl, rfl, (Aft.refl _).alloc _⟩
  case round =>
    obtain ⟨k, hk, rfl, rfl, ha⟩ := hrel
    have HA := Lib.hid ha
    have hw := within_le (l.take k) s
    have hw2 : (l.take k).length ≤ k := List.length_take_le _ _
    by_cases hlt : k < l.length
    · have hsl := tabs_aft ha h
      clear ha
      obtain ⟨b, off, A2, cap2, A3, cap3, rfl, hb, c0, c1, c2, c3, c4, hs⟩ := tab_at hsl hlt
      clear hsl hs
      have HS := Lib.hid (within_succ l s k hlt)
      cases heq : eqS l[k].schema s
      · have h2 : (l[k].schema.toList == s.toList) = false := heq
        have HN := Lib.hid (show within (l.take (k + 1)) s = within (l.take k) s by rw [HS.out, heq]; simp)
        clear heq HS
        go_wp2_with fail
        go_roundw
        case rel => exact ⟨k + 1, by omega, by go_num, by rw [HN.out], HA.out.alloc _⟩
        case measure => simp [intOf]; omega
      · have h2 : (l[k].schema.toList == s.toList) = true := heq
        have HN := Lib.hid (show within (l.take (k + 1)) s = within (l.take k) s + 1 by rw [HS.out, heq]; simp)
        clear heq HS
        go_wp2_with fail
        go_roundw
        case rel => exact ⟨k + 1, by omega, by go_num, by rw [HN.out]; go_num, HA.out.alloc _⟩
        case measure => simp [intOf]; omega
    · clear ha
      go_wp2_with fail
      go_ret
      exact ⟨by rw [List.take_of_length_le (by omega)]; rfl, HA.out⟩
end Go.Proofs.YtiadkchlkdaceaaGreat

