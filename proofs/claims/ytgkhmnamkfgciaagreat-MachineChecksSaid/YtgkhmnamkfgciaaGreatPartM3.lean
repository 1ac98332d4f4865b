/- Contracts of the program, part 3. -/
import Derived.ProofKit
import Derived.OpenShut
import Derived.Deep.Slices
import Derived.ChangeOld
import Derived.SizedLaws
import Derived.WalkKit
import Derived.WalkSpells
import Derived.WalkLawsBesides
import Derived.Lib.Hide
import Derived.Deep.QuietTactic
import Derived.BigQuiet
import Derived.Below
import Derived.Deep.Draws
import Derived.StillTailTactics
import Derived.Laws.Cells
import Derived.Laws.IdiomCopy
import Derived.Test.YtgkhmnamkfgciaaGreatRows
import Derived.Lib.Bytealg
import Derived.Deep.RegionHeld3
import Derived.Deep.AppendLies
import Derived.Deep.Upon
import Derived.OneCell
import Derived.OwnWalk
import Derived.Laws.AppendOwn
import Derived.Maps.Own
import Derived.Maps.Views
import Derived.Test.YtgkhmnamkfgciaaGreatPartM1
import Derived.Test.YtgkhmnamkfgciaaGreatPartM2
namespace Go.Proofs.YtgkhmnamkfgciaaGreat
open Go.RowKit
set_option maxRecDepth 100000
set_option linter.unusedVariables false
theorem enters {P : Program} {f : FuncId} {fn : Func} {c : Code} (hf : P.funcs[f]? = some fn) (hname : (fn.name == "runtime.NumGoroutine") = false) (hb : fn.body = some c) : ∀ (args : Array Value) (w : World), (callFunc f args).run P w = .ok (.enter f args) w := by
  intro args w
  have h1 : fn.name ≠ "runtime.NumGoroutine" := by simpa using hname
  simp [callFunc, hf, h1, hb, mark]
set_option maxHeartbeats 1000000 in
theorem idxCol (A : Option Addr) (cap : Nat) (l : List Col) (g : FuncId) (caps : Array Value) (p : Col → Bool) (w : World) (h : SlAt w 3 ColR A cap l) (hent : ∀ (args : Array Value) (w : World), (callFunc g args).run Tryz.prog w = .ok (.enter g args) w)
    (hp : ∀ w', Aft w w' → ∀ i (hi : i < l.length), Calls Tryz.prog g (#[.agg #[.string l[i].name, .int .i64 l[i].kind, .bool l[i].null]] ++ caps) w' fun e w'' => e = .returned (.bool (p l[i])) ∧ Aft w' w'') :
    Calls Tryz.prog 314 #[.slice A l.length cap, .func (.func g) #[] caps] w fun e w' => e = .returned (.int .i64 (idxP p l)) ∧ Aft w w' := by
  have hlen := h.len
  have HC := Lib.hid hp
  clear hp
  go_enter Tryz.func314, Tryz.ntmps314
  go_wp2_with fail
  go_loopw [8] (fun i wr => ∃ k : Nat, k ≤ l.length ∧ i = .int .i64 k ∧ Aft w wr ∧ ∀ j, j < k → ∀ (hj : j < l.length), p l[j] = false) (fun i _ => l.length - (intOf i).toNat)
  case atStart => exact ⟨0, Nat.zero_le _, rfl, Aft.refl _, fun j hj => absurd hj (Nat.not_lt_zero j)⟩
  case round =>
    obtain ⟨k, hk, rfl, ha, hp⟩ := hrel
    have HA := Lib.hid ha
    have HP := Lib.hid hp; clear hp
    by_cases hlt : k < l.length
    · have hsl := cols_aft ha h
      clear ha
      obtain ⟨b, off, rfl, hb, c0, c1, c2, hs⟩ := col_at hsl hlt
      have HK := Lib.hid (HC.out wr HA.out k hlt)
      clear hsl
      obtain ⟨q, hq⟩ : ∃ q, p l[k] = q := ⟨_, rfl⟩
      rw [hq] at HK
      have HQ := Lib.hid hq
      clear hq
      cases q
      · go_wp2_with fail
        refine HK.out.mono ?_
        rintro e w1 ⟨rfl, a1⟩
        have HA1 := Lib.hid (HA.out.trans a1)
        clear a1
        go_wp2_with fail
        go_roundw
        case rel => exact ⟨k + 1, by omega, by go_num, HA1.out, ext_lt (p := fun j => ∀ (hj : j < l.length), p l[j] = false) HP.out (fun _ => HQ.out)⟩
        case measure => simp [intOf]; omega
      · go_wp2_with fail
        refine HK.out.mono ?_
        rintro e w1 ⟨rfl, a1⟩
        have HA1 := Lib.hid (HA.out.trans a1)
        clear a1
        go_wp2_with fail
        go_ret
        exact ⟨by rw [idxP_some p l k hlt HQ.out (fun i hi => HP.out i hi (by omega))]; rfl, HA1.out⟩
    · clear ha
      go_wp2_with fail
      go_ret
      exact ⟨by rw [idxP_none p l (fun i hi => HP.out i (by omega) hi)]; rfl, HA.out⟩
set_option maxHeartbeats 1000000 in
theorem idxRul (A : Option Addr) (cap : Nat) (l : List Rul) (g : FuncId) (caps : Array Value) (p : Rul → Bool) (w : World) (h : SlAt w 8 RulR A cap l) (hent : ∀ (args : Array Value) (w : World), (callFunc g args).run Tryz.prog w = .ok (.enter g args) w)
    (hp : ∀ w', Aft w w' → ∀ i (hi : i < l.length) (e1 : List Value), RulR w' e1 l[i] → Calls Tryz.prog g (#[.agg e1.toArray] ++ caps) w' fun e w'' => e = .returned (.bool (p l[i])) ∧ Aft w' w'') :
    Calls Tryz.prog 316 #[.slice A l.length cap, .func (.func g) #[] caps] w fun e w' => e = .returned (.int .i64 (idxP p l)) ∧ Aft w w' := by
  have hlen := h.len
  have HC := Lib.hid hp
  clear hp
  go_enter Tryz.func316, Tryz.ntmps316
  go_wp2_with fail
  go_loopw [8] (fun i wr => ∃ k : Nat, k ≤ l.length ∧ i = .int .i64 k ∧ Aft w wr ∧ ∀ j, j < k → ∀ (hj : j < l.length), p l[j] = false) (fun i _ => l.length - (intOf i).toNat)
  case atStart => exact ⟨0, Nat.zero_le _, rfl, Aft.refl _, fun j hj => absurd hj (Nat.not_lt_zero j)⟩
  case round =>
    obtain ⟨k, hk, rfl, ha, hp⟩ := hrel
    have HA := Lib.hid ha
    have HP := Lib.hid hp; clear hp
    by_cases hlt : k < l.length
    · have hsl := ruls_aft ha h
      clear ha
      obtain ⟨b, off, A2, cap2, rfl, hb, c0, c1, c2, c3, c4, c5, c6, c7, hs⟩ := rul_at hsl hlt
      have HK := Lib.hid (HC.out wr HA.out k hlt _ ⟨A2, cap2, rfl, hs⟩)
      clear hsl
      obtain ⟨q, hq⟩ : ∃ q, p l[k] = q := ⟨_, rfl⟩
      rw [hq] at HK
      have HQ := Lib.hid hq
      clear hq
      cases q
      · go_wp2_with fail
        refine HK.out.mono ?_
        rintro e w1 ⟨rfl, a1⟩
        have HA1 := Lib.hid (HA.out.trans a1)
        clear a1
        go_wp2_with fail
        go_roundw
        case rel => exact ⟨k + 1, by omega, by go_num, HA1.out, ext_lt (p := fun j => ∀ (hj : j < l.length), p l[j] = false) HP.out (fun _ => HQ.out)⟩
        case measure => simp [intOf]; omega
      · go_wp2_with fail
        refine HK.out.mono ?_
        rintro e w1 ⟨rfl, a1⟩
        have HA1 := Lib.hid (HA.out.trans a1)
        clear a1
        go_wp2_with fail
        go_ret
        exact ⟨by rw [idxP_some p l k hlt HQ.out (fun i hi => HP.out i hi (by omega))]; rfl, HA1.out⟩
    · clear ha
      go_wp2_with fail
      go_ret
      exact ⟨by rw [idxP_none p l (fun i hi => HP.out i (by omega) hi)]; rfl, HA.out⟩
set_option maxHeartbeats 1000000 in
theorem idxTab (A : Option Addr) (cap : Nat) (l : List Tab) (g : FuncId) (caps : Array Value) (p : Tab → Bool) (w : World) (h : SlAt w 5 TabR A cap l) (hent : ∀ (args : Array Value) (w : World), (callFunc g args).run Tryz.prog w = .ok (.enter g args) w)
    (hp : ∀ w', Aft w w' → ∀ i (hi : i < l.length) (e1 : List Value), TabR w' e1 l[i] → Calls Tryz.prog g (#[.agg e1.toArray] ++ caps) w' fun e w'' => e = .returned (.bool (p l[i])) ∧ Aft w' w'') :
    Calls Tryz.prog 127 #[.slice A l.length cap, .func (.func g) #[] caps] w fun e w' => e = .returned (.int .i64 (idxP p l)) ∧ Aft w w' := by
  have hlen := h.len
  have HC := Lib.hid hp
  clear hp
  go_enter Tryz.func127, Tryz.ntmps127
  go_wp2_with fail
  go_loopw [8] (fun i wr => ∃ k : Nat, k ≤ l.length ∧ i = .int .i64 k ∧ Aft w wr ∧ ∀ j, j < k → ∀ (hj : j < l.length), p l[j] = false) (fun i _ => l.length - (intOf i).toNat)
  case atStart => exact ⟨0, Nat.zero_le _, rfl, Aft.refl _, fun j hj => absurd hj (Nat.not_lt_zero j)⟩
  case round =>
    obtain ⟨k, hk, rfl, ha, hp⟩ := hrel
    have HA := Lib.hid ha
    have HP := Lib.hid hp; clear hp
    by_cases hlt : k < l.length
    · have hsl := tabs_aft ha h
      clear ha
      obtain ⟨b, off, A2, cap2, A3, cap3, rfl, hb, c0, c1, c2, c3, c4, hs⟩ := tab_at hsl hlt
      have HK := Lib.hid (HC.out wr HA.out k hlt _ ⟨A2, cap2, A3, cap3, rfl, hs⟩)
      clear hsl
      obtain ⟨q, hq⟩ : ∃ q, p l[k] = q := ⟨_, rfl⟩
      rw [hq] at HK
      have HQ := Lib.hid hq
      clear hq
      cases q
      · go_wp2_with fail
        refine HK.out.mono ?_
        rintro e w1 ⟨rfl, a1⟩
        have HA1 := Lib.hid (HA.out.trans a1)
        clear a1
        go_wp2_with fail
        go_roundw
        case rel => exact ⟨k + 1, by omega, by go_num, HA1.out, ext_lt (p := fun j => ∀ (hj : j < l.length), p l[j] = false) HP.out (fun _ => HQ.out)⟩
        case measure => simp [intOf]; omega
      · go_wp2_with fail
        refine HK.out.mono ?_
        rintro e w1 ⟨rfl, a1⟩
        have HA1 := Lib.hid (HA.out.trans a1)
        clear a1
        go_wp2_with fail
        go_ret
        exact ⟨by rw [idxP_some p l k hlt HQ.out (fun i hi => HP.out i hi (by omega))]; rfl, HA1.out⟩
    · clear ha
      go_wp2_with fail
      go_ret
      exact ⟨by rw [idxP_none p l (fun i hi => HP.out i (by omega) hi)]; rfl, HA.out⟩
set_option maxHeartbeats 1000000 in
theorem idxSch (A : Option Addr) (cap : Nat) (l : List Sch) (g : FuncId) (caps : Array Value) (p : Sch → Bool) (w : World) (h : SlAt w 2 SchR A cap l) (hent : ∀ (args : Array Value) (w : World), (callFunc g args).run Tryz.prog w = .ok (.enter g args) w)
    (hp : ∀ w', Aft w w' → ∀ i (hi : i < l.length), Calls Tryz.prog g (#[.agg #[.string l[i].name, .string l[i].owner]] ++ caps) w' fun e w'' => e = .returned (.bool (p l[i])) ∧ Aft w' w'') :
    Calls Tryz.prog 86 #[.slice A l.length cap, .func (.func g) #[] caps] w fun e w' => e = .returned (.int .i64 (idxP p l)) ∧ Aft w w' := by
  have hlen := h.len
  have HC := Lib.hid hp
  clear hp
  go_enter Tryz.func86, Tryz.ntmps86
  go_wp2_with fail
  go_loopw [8] (fun i wr => ∃ k : Nat, k ≤ l.length ∧ i = .int .i64 k ∧ Aft w wr ∧ ∀ j, j < k → ∀ (hj : j < l.length), p l[j] = false) (fun i _ => l.length - (intOf i).toNat)
  case atStart => exact ⟨0, Nat.zero_le _, rfl, Aft.refl _, fun j hj => absurd hj (Nat.not_lt_zero j)⟩
  case round =>
    obtain ⟨k, hk, rfl, ha, hp⟩ := hrel
    have HA := Lib.hid ha
    have HP := Lib.hid hp; clear hp
    by_cases hlt : k < l.length
    · have hsl := schs_aft ha h
      clear ha
      obtain ⟨b, off, rfl, hb, c0, c1, hs, hs2⟩ := sch_at hsl hlt
      have HK := Lib.hid (HC.out wr HA.out k hlt)
      clear hsl
      obtain ⟨q, hq⟩ : ∃ q, p l[k] = q := ⟨_, rfl⟩
      rw [hq] at HK
      have HQ := Lib.hid hq
      clear hq
      cases q
      · go_wp2_with fail
        refine HK.out.mono ?_
        rintro e w1 ⟨rfl, a1⟩
        have HA1 := Lib.hid (HA.out.trans a1)
        clear a1
        go_wp2_with fail
        go_roundw
        case rel => exact ⟨k + 1, by omega, by go_num, HA1.out, ext_lt (p := fun j => ∀ (hj : j < l.length), p l[j] = false) HP.out (fun _ => HQ.out)⟩
        case measure => simp [intOf]; omega
      · go_wp2_with fail
        refine HK.out.mono ?_
        rintro e w1 ⟨rfl, a1⟩
        have HA1 := Lib.hid (HA.out.trans a1)
        clear a1
        go_wp2_with fail
        go_ret
        exact ⟨by rw [idxP_some p l k hlt HQ.out (fun i hi => HP.out i hi (by omega))]; rfl, HA1.out⟩
    · clear ha
      go_wp2_with fail
      go_ret
      exact ⟨by rw [idxP_none p l (fun i hi => HP.out i (by omega) hi)]; rfl, HA.out⟩
end Go.Proofs.YtgkhmnamkfgciaaGreat

namespace Go.Proofs.YtgkhmnamkfgciaaGreat
open Go.RowKit
set_option linter.unusedVariables false
structure Don where
  client : Int
  number : Int
  code : Int
  fence : Int
  version : Int
structure Lea where
  seq : Int
  node : Int
  ask : Int
  epoch : Int
def donC (d : Don) : List Value := [.int .i64 d.client, .int .i64 d.number, .int .i64 d.code, .int .i64 d.fence, .int .i64 d.version]
def leaC (l : Lea) : List Value := [.int .i64 l.seq, .int .i64 l.node, .int .i64 l.ask, .int .i64 l.epoch]
def DonR (_ : World) (cs : List Value) (d : Don) : Prop := cs = donC d
def LeaR (_ : World) (cs : List Value) (l : Lea) : Prop := cs = leaC l
def wiB (n lo hi : Int) : Bool := decide (lo ≤ n) && decide (n ≤ hi)
def numB (n : Int) : Bool := wiB n 1 1000000000
def nodB (n : Int) : Bool := wiB n 11 13
/-- does a row rise at j, and holds something of its element there? -/
def ordAt {α : Type} (k : α → Int) (p : α → Bool) (l : List α) : Nat → Bool
  | 0 => match l[0]? with | some x => p x | none => true
  | j + 1 => match l[j]?, l[j + 1]? with | some y, some x => decide (k y < k x) && p x | _, _ => true
def ordB {α : Type} (k : α → Int) (p : α → Bool) (l : List α) : Bool := (List.range l.length).all (ordAt k p l)
section
variable {α : Type} {k : α → Int} {p : α → Bool} {l : List α}
theorem ordAt_zero (h : 0 < l.length) : ordAt k p l 0 = p l[0] := by unfold ordAt; rw [List.getElem?_eq_getElem h]
theorem ordAt_succ {j : Nat} (h : j + 1 < l.length) : ordAt k p l (j + 1) = (decide (k l[j] < k l[j + 1]) && p l[j + 1]) := by
  show (match l[j]?, l[j + 1]? with | some y, some x => decide (k y < k x) && p x | _, _ => true) = _
  rw [List.getElem?_eq_getElem h, List.getElem?_eq_getElem (by omega : j < l.length)]
theorem ordB_no {j : Nat} (h : j < l.length) (h2 : ordAt k p l j = false) : ordB k p l = false := by
  unfold ordB
  rw [List.all_eq_false]
  exact ⟨j, List.mem_range.2 h, by rw [h2]; simp⟩
theorem ordB_yes (h : ∀ j, j < l.length → ordAt k p l j = true) : ordB k p l = true := by
  unfold ordB
  rw [List.all_eq_true]
  exact fun j hj => h j (List.mem_range.1 hj)
end
def donP (e v : Int) (d : Don) : Bool := wiB d.client 1 4 && numB d.number && wiB d.code 0 65535 && wiB d.fence 0 e && wiB d.version 0 v
def leaP (e last : Int) (l : Lea) : Bool := wiB l.seq 1 last && nodB l.node && numB l.ask && wiB l.epoch 0 e
end Go.Proofs.YtgkhmnamkfgciaaGreat

namespace Go.Proofs.YtgkhmnamkfgciaaGreat
open Go.RowKit
def lvMac (a : Addr) : Sem Value := loadVar 36 a
@[go_sem ↓] theorem lvMac_eq (a : Addr) : loadVar 36 a = lvMac a := rfl
@[go_sem] theorem run_lvMac (w : World) (b o : Nat) (h0 : (w.cell? ⟨b, o, none⟩).isSome = true) (h1 : (w.cell? ⟨b, o + 1, none⟩).isSome = true) (h2 : (w.cell? ⟨b, o + 2, none⟩).isSome = true) (h3 : (w.cell? ⟨b, o + 3, none⟩).isSome = true) (h4 : (w.cell? ⟨b, o + 4, none⟩).isSome = true) (h5 : (w.cell? ⟨b, o + 5, none⟩).isSome = true) (h6 : (w.cell? ⟨b, o + 6, none⟩).isSome = true) (h7 : (w.cell? ⟨b, o + 7, none⟩).isSome = true) (h8 : (w.cell? ⟨b, o + 8, none⟩).isSome = true) (h9 : (w.cell? ⟨b, o + 9, none⟩).isSome = true) : (lvMac ⟨b, o, none⟩).run Tryz.prog w = .ok (.agg #[(w.cell? ⟨b, o, none⟩).getD undef, (w.cell? ⟨b, o + 1, none⟩).getD undef, (w.cell? ⟨b, o + 2, none⟩).getD undef, (w.cell? ⟨b, o + 3, none⟩).getD undef, (w.cell? ⟨b, o + 4, none⟩).getD undef, (w.cell? ⟨b, o + 5, none⟩).getD undef, (w.cell? ⟨b, o + 6, none⟩).getD undef, (w.cell? ⟨b, o + 7, none⟩).getD undef, (w.cell? ⟨b, o + 8, none⟩).getD undef, (w.cell? ⟨b, o + 9, none⟩).getD undef]) w := run_lv (P := Tryz.prog) w 36 _ 10 b o Tryz.underlying36 rfl (by kernel_rfl) (forall_lt_succ _ _ (forall_lt_succ _ _ (forall_lt_succ _ _ (forall_lt_succ _ _ (forall_lt_succ _ _ (forall_lt_succ _ _ (forall_lt_succ _ _ (forall_lt_succ _ _ (forall_lt_succ _ _ (forall_lt_succ _ _ (fun j hj => absurd hj (Nat.not_lt_zero j)) h0) h1) h2) h3) h4) h5) h6) h7) h8) h9)
def svMac (a : Addr) (v : Value) : Sem Unit := storeVar 36 a v
@[go_sem ↓] theorem svMac_eq (a : Addr) (v : Value) : storeVar 36 a v = svMac a v := rfl
@[go_sem] theorem run_svMac (w : World) (b o : Nat) (v0 v1 v2 v3 v4 v5 v6 v7 v8 v9 : Value) (h0 : (w.cell? ⟨b, o, none⟩).isSome = true) (h1 : (w.cell? ⟨b, o + 1, none⟩).isSome = true) (h2 : (w.cell? ⟨b, o + 2, none⟩).isSome = true) (h3 : (w.cell? ⟨b, o + 3, none⟩).isSome = true) (h4 : (w.cell? ⟨b, o + 4, none⟩).isSome = true) (h5 : (w.cell? ⟨b, o + 5, none⟩).isSome = true) (h6 : (w.cell? ⟨b, o + 6, none⟩).isSome = true) (h7 : (w.cell? ⟨b, o + 7, none⟩).isSome = true) (h8 : (w.cell? ⟨b, o + 8, none⟩).isSome = true) (h9 : (w.cell? ⟨b, o + 9, none⟩).isSome = true) (f0 : w.frozen? ⟨b, o, none⟩ = false) (f1 : w.frozen? ⟨b, o + 1, none⟩ = false) (f2 : w.frozen? ⟨b, o + 2, none⟩ = false) (f3 : w.frozen? ⟨b, o + 3, none⟩ = false) (f4 : w.frozen? ⟨b, o + 4, none⟩ = false) (f5 : w.frozen? ⟨b, o + 5, none⟩ = false) (f6 : w.frozen? ⟨b, o + 6, none⟩ = false) (f7 : w.frozen? ⟨b, o + 7, none⟩ = false) (f8 : w.frozen? ⟨b, o + 8, none⟩ = false) (f9 : w.frozen? ⟨b, o + 9, none⟩ = false) (o0 : v0.oneCell' = true) (o1 : v1.oneCell' = true) (o2 : v2.oneCell' = true) (o3 : v3.oneCell' = true) (o4 : v4.oneCell' = true) (o5 : v5.oneCell' = true) (o6 : v6.oneCell' = true) (o7 : v7.oneCell' = true) (o8 : v8.oneCell' = true) (o9 : v9.oneCell' = true) : (svMac ⟨b, o, none⟩ (.agg #[v0, v1, v2, v3, v4, v5, v6, v7, v8, v9])).run Tryz.prog w = .ok () ((((((((((w.setCell ⟨b, o, none⟩ v0).setCell ⟨b, o + 1, none⟩ v1).setCell ⟨b, o + 2, none⟩ v2).setCell ⟨b, o + 3, none⟩ v3).setCell ⟨b, o + 4, none⟩ v4).setCell ⟨b, o + 5, none⟩ v5).setCell ⟨b, o + 6, none⟩ v6).setCell ⟨b, o + 7, none⟩ v7).setCell ⟨b, o + 8, none⟩ v8).setCell ⟨b, o + 9, none⟩ v9) := run_sv (P := Tryz.prog) w 36 b o [v0, v1, v2, v3, v4, v5, v6, v7, v8, v9] (by kernel_rfl) (forall_lt_succ _ _ (forall_lt_succ _ _ (forall_lt_succ _ _ (forall_lt_succ _ _ (forall_lt_succ _ _ (forall_lt_succ _ _ (forall_lt_succ _ _ (forall_lt_succ _ _ (forall_lt_succ _ _ (forall_lt_succ _ _ (fun j hj => absurd hj (Nat.not_lt_zero j)) ⟨h0, f0, o0⟩) ⟨h1, f1, o1⟩) ⟨h2, f2, o2⟩) ⟨h3, f3, o3⟩) ⟨h4, f4, o4⟩) ⟨h5, f5, o5⟩) ⟨h6, f6, o6⟩) ⟨h7, f7, o7⟩) ⟨h8, f8, o8⟩) ⟨h9, f9, o9⟩)
def lvOpr (a : Addr) : Sem Value := loadVar 47 a
@[go_sem ↓] theorem lvOpr_eq (a : Addr) : loadVar 47 a = lvOpr a := rfl
@[go_sem] theorem run_lvOpr (w : World) (b o : Nat) (h0 : (w.cell? ⟨b, o, none⟩).isSome = true) (h1 : (w.cell? ⟨b, o + 1, none⟩).isSome = true) (h2 : (w.cell? ⟨b, o + 2, none⟩).isSome = true) (h3 : (w.cell? ⟨b, o + 3, none⟩).isSome = true) (h4 : (w.cell? ⟨b, o + 4, none⟩).isSome = true) (h5 : (w.cell? ⟨b, o + 5, none⟩).isSome = true) (h6 : (w.cell? ⟨b, o + 6, none⟩).isSome = true) (h7 : (w.cell? ⟨b, o + 7, none⟩).isSome = true) (h8 : (w.cell? ⟨b, o + 8, none⟩).isSome = true) (h9 : (w.cell? ⟨b, o + 9, none⟩).isSome = true) (h10 : (w.cell? ⟨b, o + 10, none⟩).isSome = true) (h11 : (w.cell? ⟨b, o + 11, none⟩).isSome = true) (h12 : (w.cell? ⟨b, o + 12, none⟩).isSome = true) (h13 : (w.cell? ⟨b, o + 13, none⟩).isSome = true) (h14 : (w.cell? ⟨b, o + 14, none⟩).isSome = true) (h15 : (w.cell? ⟨b, o + 15, none⟩).isSome = true) (h16 : (w.cell? ⟨b, o + 16, none⟩).isSome = true) (h17 : (w.cell? ⟨b, o + 17, none⟩).isSome = true) (h18 : (w.cell? ⟨b, o + 18, none⟩).isSome = true) (h19 : (w.cell? ⟨b, o + 19, none⟩).isSome = true) (h20 : (w.cell? ⟨b, o + 20, none⟩).isSome = true) (h21 : (w.cell? ⟨b, o + 21, none⟩).isSome = true) (h22 : (w.cell? ⟨b, o + 22, none⟩).isSome = true) : (lvOpr ⟨b, o, none⟩).run Tryz.prog w = .ok (.agg #[(w.cell? ⟨b, o, none⟩).getD undef, (w.cell? ⟨b, o + 1, none⟩).getD undef, (w.cell? ⟨b, o + 2, none⟩).getD undef, (w.cell? ⟨b, o + 3, none⟩).getD undef, (w.cell? ⟨b, o + 4, none⟩).getD undef, (w.cell? ⟨b, o + 5, none⟩).getD undef, (w.cell? ⟨b, o + 6, none⟩).getD undef, (w.cell? ⟨b, o + 7, none⟩).getD undef, (w.cell? ⟨b, o + 8, none⟩).getD undef, (w.cell? ⟨b, o + 9, none⟩).getD undef, (w.cell? ⟨b, o + 10, none⟩).getD undef, (w.cell? ⟨b, o + 11, none⟩).getD undef, (w.cell? ⟨b, o + 12, none⟩).getD undef, (w.cell? ⟨b, o + 13, none⟩).getD undef, (w.cell? ⟨b, o + 14, none⟩).getD undef, (w.cell? ⟨b, o + 15, none⟩).getD undef, (w.cell? ⟨b, o + 16, none⟩).getD undef, (w.cell? ⟨b, o + 17, none⟩).getD undef, (w.cell? ⟨b, o + 18, none⟩).getD undef, (w.cell? ⟨b, o + 19, none⟩).getD undef, (w.cell? ⟨b, o + 20, none⟩).getD undef, (w.cell? ⟨b, o + 21, none⟩).getD undef, (w.cell? ⟨b, o + 22, none⟩).getD undef]) w := run_lv (P := Tryz.prog) w 47 _ 23 b o Tryz.underlying47 rfl (by kernel_rfl) (forall_lt_succ _ _ (forall_lt_succ _ _ (forall_lt_succ _ _ (forall_lt_succ _ _ (forall_lt_succ _ _ (forall_lt_succ _ _ (forall_lt_succ _ _ (forall_lt_succ _ _ (forall_lt_succ _ _ (forall_lt_succ _ _ (forall_lt_succ _ _ (forall_lt_succ _ _ (forall_lt_succ _ _ (forall_lt_succ _ _ (forall_lt_succ _ _ (forall_lt_succ _ _ (forall_lt_succ _ _ (forall_lt_succ _ _ (forall_lt_succ _ _ (forall_lt_succ _ _ (forall_lt_succ _ _ (forall_lt_succ _ _ (forall_lt_succ _ _ (fun j hj => absurd hj (Nat.not_lt_zero j)) h0) h1) h2) h3) h4) h5) h6) h7) h8) h9) h10) h11) h12) h13) h14) h15) h16) h17) h18) h19) h20) h21) h22)
def svOpr (a : Addr) (v : Value) : Sem Unit := storeVar 47 a v
@[go_sem ↓] theorem svOpr_eq (a : Addr) (v : Value) : storeVar 47 a v = svOpr a v := rfl
@[go_sem] theorem run_svOpr (w : World) (b o : Nat) (v0 v1 v2 v3 v4 v5 v6 v7 v8 v9 v10 v11 v12 v13 v14 v15 v16 v17 v18 v19 v20 v21 v22 : Value) (h0 : (w.cell? ⟨b, o, none⟩).isSome = true) (h1 : (w.cell? ⟨b, o + 1, none⟩).isSome = true) (h2 : (w.cell? ⟨b, o + 2, none⟩).isSome = true) (h3 : (w.cell? ⟨b, o + 3, none⟩).isSome = true) (h4 : (w.cell? ⟨b, o + 4, none⟩).isSome = true) (h5 : (w.cell? ⟨b, o + 5, none⟩).isSome = true) (h6 : (w.cell? ⟨b, o + 6, none⟩).isSome = true) (h7 : (w.cell? ⟨b, o + 7, none⟩).isSome = true) (h8 : (w.cell? ⟨b, o + 8, none⟩).isSome = true) (h9 : (w.cell? ⟨b, o + 9, none⟩).isSome = true) (h10 : (w.cell? ⟨b, o + 10, none⟩).isSome = true) (h11 : (w.cell? ⟨b, o + 11, none⟩).isSome = true) (h12 : (w.cell? ⟨b, o + 12, none⟩).isSome = true) (h13 : (w.cell? ⟨b, o + 13, none⟩).isSome = true) (h14 : (w.cell? ⟨b, o + 14, none⟩).isSome = true) (h15 : (w.cell? ⟨b, o + 15, none⟩).isSome = true) (h16 : (w.cell? ⟨b, o + 16, none⟩).isSome = true) (h17 : (w.cell? ⟨b, o + 17, none⟩).isSome = true) (h18 : (w.cell? ⟨b, o + 18, none⟩).isSome = true) (h19 : (w.cell? ⟨b, o + 19, none⟩).isSome = true) (h20 : (w.cell? ⟨b, o + 20, none⟩).isSome = true) (h21 : (w.cell? ⟨b, o + 21, none⟩).isSome = true) (h22 : (w.cell? ⟨b, o + 22, none⟩).isSome = true) (f0 : w.frozen? ⟨b, o, none⟩ = false) (f1 : w.frozen? ⟨b, o + 1, none⟩ = false) (f2 : w.frozen? ⟨b, o + 2, none⟩ = false) (f3 : w.frozen? ⟨b, o + 3, none⟩ = false) (f4 : w.frozen? ⟨b, o + 4, none⟩ = false) (f5 : w.frozen? ⟨b, o + 5, none⟩ = false) (f6 : w.frozen? ⟨b, o + 6, none⟩ = false) (f7 : w.frozen? ⟨b, o + 7, none⟩ = false) (f8 : w.frozen? ⟨b, o + 8, none⟩ = false) (f9 : w.frozen? ⟨b, o + 9, none⟩ = false) (f10 : w.frozen? ⟨b, o + 10, none⟩ = false) (f11 : w.frozen? ⟨b, o + 11, none⟩ = false) (f12 : w.frozen? ⟨b, o + 12, none⟩ = false) (f13 : w.frozen? ⟨b, o + 13, none⟩ = false) (f14 : w.frozen? ⟨b, o + 14, none⟩ = false) (f15 : w.frozen? ⟨b, o + 15, none⟩ = false) (f16 : w.frozen? ⟨b, o + 16, none⟩ = false) (f17 : w.frozen? ⟨b, o + 17, none⟩ = false) (f18 : w.frozen? ⟨b, o + 18, none⟩ = false) (f19 : w.frozen? ⟨b, o + 19, none⟩ = false) (f20 : w.frozen? ⟨b, o + 20, none⟩ = false) (f21 : w.frozen? ⟨b, o + 21, none⟩ = false) (f22 : w.frozen? ⟨b, o + 22, none⟩ = false) (o0 : v0.oneCell' = true) (o1 : v1.oneCell' = true) (o2 : v2.oneCell' = true) (o3 : v3.oneCell' = true) (o4 : v4.oneCell' = true) (o5 : v5.oneCell' = true) (o6 : v6.oneCell' = true) (o7 : v7.oneCell' = true) (o8 : v8.oneCell' = true) (o9 : v9.oneCell' = true) (o10 : v10.oneCell' = true) (o11 : v11.oneCell' = true) (o12 : v12.oneCell' = true) (o13 : v13.oneCell' = true) (o14 : v14.oneCell' = true) (o15 : v15.oneCell' = true) (o16 : v16.oneCell' = true) (o17 : v17.oneCell' = true) (o18 : v18.oneCell' = true) (o19 : v19.oneCell' = true) (o20 : v20.oneCell' = true) (o21 : v21.oneCell' = true) (o22 : v22.oneCell' = true) : (svOpr ⟨b, o, none⟩ (.agg #[v0, v1, v2, v3, v4, v5, v6, v7, v8, v9, v10, v11, v12, v13, v14, v15, v16, v17, v18, v19, v20, v21, v22])).run Tryz.prog w = .ok () (((((((((((((((((((((((w.setCell ⟨b, o, none⟩ v0).setCell ⟨b, o + 1, none⟩ v1).setCell ⟨b, o + 2, none⟩ v2).setCell ⟨b, o + 3, none⟩ v3).setCell ⟨b, o + 4, none⟩ v4).setCell ⟨b, o + 5, none⟩ v5).setCell ⟨b, o + 6, none⟩ v6).setCell ⟨b, o + 7, none⟩ v7).setCell ⟨b, o + 8, none⟩ v8).setCell ⟨b, o + 9, none⟩ v9).setCell ⟨b, o + 10, none⟩ v10).setCell ⟨b, o + 11, none⟩ v11).setCell ⟨b, o + 12, none⟩ v12).setCell ⟨b, o + 13, none⟩ v13).setCell ⟨b, o + 14, none⟩ v14).setCell ⟨b, o + 15, none⟩ v15).setCell ⟨b, o + 16, none⟩ v16).setCell ⟨b, o + 17, none⟩ v17).setCell ⟨b, o + 18, none⟩ v18).setCell ⟨b, o + 19, none⟩ v19).setCell ⟨b, o + 20, none⟩ v20).setCell ⟨b, o + 21, none⟩ v21).setCell ⟨b, o + 22, none⟩ v22) := run_sv (P := Tryz.prog) w 47 b o [v0, v1, v2, v3, v4, v5, v6, v7, v8, v9, v10, v11, v12, v13, v14, v15, v16, v17, v18, v19, v20, v21, v22] (by kernel_rfl) (forall_lt_succ _ _ (forall_lt_succ _ _ (forall_lt_succ _ _ (forall_lt_succ _ _ (forall_lt_succ _ _ (forall_lt_succ _ _ (forall_lt_succ _ _ (forall_lt_succ _ _ (forall_lt_succ _ _ (forall_lt_succ _ _ (forall_lt_succ _ _ (forall_lt_succ _ _ (forall_lt_succ _ _ (forall_lt_succ _ _ (forall_lt_succ _ _ (forall_lt_succ _ _ (forall_lt_succ _ _ (forall_lt_succ _ _ (forall_lt_succ _ _ (forall_lt_succ _ _ (forall_lt_succ _ _ (forall_lt_succ _ _ (forall_lt_succ _ _ (fun j hj => absurd hj (Nat.not_lt_zero j)) ⟨h0, f0, o0⟩) ⟨h1, f1, o1⟩) ⟨h2, f2, o2⟩) ⟨h3, f3, o3⟩) ⟨h4, f4, o4⟩) ⟨h5, f5, o5⟩) ⟨h6, f6, o6⟩) ⟨h7, f7, o7⟩) ⟨h8, f8, o8⟩) ⟨h9, f9, o9⟩) ⟨h10, f10, o10⟩) ⟨h11, f11, o11⟩) ⟨h12, f12, o12⟩) ⟨h13, f13, o13⟩) ⟨h14, f14, o14⟩) ⟨h15, f15, o15⟩) ⟨h16, f16, o16⟩) ⟨h17, f17, o17⟩) ⟨h18, f18, o18⟩) ⟨h19, f19, o19⟩) ⟨h20, f20, o20⟩) ⟨h21, f21, o21⟩) ⟨h22, f22, o22⟩)
def lvDon (a : Addr) : Sem Value := loadVar 74 a
@[go_sem ↓] theorem lvDon_eq (a : Addr) : loadVar 74 a = lvDon a := rfl
@[go_sem] theorem run_lvDon (w : World) (b o : Nat) (h0 : (w.cell? ⟨b, o, none⟩).isSome = true) (h1 : (w.cell? ⟨b, o + 1, none⟩).isSome = true) (h2 : (w.cell? ⟨b, o + 2, none⟩).isSome = true) (h3 : (w.cell? ⟨b, o + 3, none⟩).isSome = true) (h4 : (w.cell? ⟨b, o + 4, none⟩).isSome = true) : (lvDon ⟨b, o, none⟩).run Tryz.prog w = .ok (.agg #[(w.cell? ⟨b, o, none⟩).getD undef, (w.cell? ⟨b, o + 1, none⟩).getD undef, (w.cell? ⟨b, o + 2, none⟩).getD undef, (w.cell? ⟨b, o + 3, none⟩).getD undef, (w.cell? ⟨b, o + 4, none⟩).getD undef]) w := run_lv (P := Tryz.prog) w 74 _ 5 b o Tryz.underlying74 rfl (by kernel_rfl) (forall_lt_succ _ _ (forall_lt_succ _ _ (forall_lt_succ _ _ (forall_lt_succ _ _ (forall_lt_succ _ _ (fun j hj => absurd hj (Nat.not_lt_zero j)) h0) h1) h2) h3) h4)
def svDon (a : Addr) (v : Value) : Sem Unit := storeVar 74 a v
@[go_sem ↓] theorem svDon_eq (a : Addr) (v : Value) : storeVar 74 a v = svDon a v := rfl
@[go_sem] theorem run_svDon (w : World) (b o : Nat) (v0 v1 v2 v3 v4 : Value) (h0 : (w.cell? ⟨b, o, none⟩).isSome = true) (h1 : (w.cell? ⟨b, o + 1, none⟩).isSome = true) (h2 : (w.cell? ⟨b, o + 2, none⟩).isSome = true) (h3 : (w.cell? ⟨b, o + 3, none⟩).isSome = true) (h4 : (w.cell? ⟨b, o + 4, none⟩).isSome = true) (f0 : w.frozen? ⟨b, o, none⟩ = false) (f1 : w.frozen? ⟨b, o + 1, none⟩ = false) (f2 : w.frozen? ⟨b, o + 2, none⟩ = false) (f3 : w.frozen? ⟨b, o + 3, none⟩ = false) (f4 : w.frozen? ⟨b, o + 4, none⟩ = false) (o0 : v0.oneCell' = true) (o1 : v1.oneCell' = true) (o2 : v2.oneCell' = true) (o3 : v3.oneCell' = true) (o4 : v4.oneCell' = true) : (svDon ⟨b, o, none⟩ (.agg #[v0, v1, v2, v3, v4])).run Tryz.prog w = .ok () (((((w.setCell ⟨b, o, none⟩ v0).setCell ⟨b, o + 1, none⟩ v1).setCell ⟨b, o + 2, none⟩ v2).setCell ⟨b, o + 3, none⟩ v3).setCell ⟨b, o + 4, none⟩ v4) := run_sv (P := Tryz.prog) w 74 b o [v0, v1, v2, v3, v4] (by kernel_rfl) (forall_lt_succ _ _ (forall_lt_succ _ _ (forall_lt_succ _ _ (forall_lt_succ _ _ (forall_lt_succ _ _ (fun j hj => absurd hj (Nat.not_lt_zero j)) ⟨h0, f0, o0⟩) ⟨h1, f1, o1⟩) ⟨h2, f2, o2⟩) ⟨h3, f3, o3⟩) ⟨h4, f4, o4⟩)
def lvLea (a : Addr) : Sem Value := loadVar 80 a
@[go_sem ↓] theorem lvLea_eq (a : Addr) : loadVar 80 a = lvLea a := rfl
@[go_sem] theorem run_lvLea (w : World) (b o : Nat) (h0 : (w.cell? ⟨b, o, none⟩).isSome = true) (h1 : (w.cell? ⟨b, o + 1, none⟩).isSome = true) (h2 : (w.cell? ⟨b, o + 2, none⟩).isSome = true) (h3 : (w.cell? ⟨b, o + 3, none⟩).isSome = true) : (lvLea ⟨b, o, none⟩).run Tryz.prog w = .ok (.agg #[(w.cell? ⟨b, o, none⟩).getD undef, (w.cell? ⟨b, o + 1, none⟩).getD undef, (w.cell? ⟨b, o + 2, none⟩).getD undef, (w.cell? ⟨b, o + 3, none⟩).getD undef]) w := run_lv (P := Tryz.prog) w 80 _ 4 b o Tryz.underlying80 rfl (by kernel_rfl) (forall_lt_succ _ _ (forall_lt_succ _ _ (forall_lt_succ _ _ (forall_lt_succ _ _ (fun j hj => absurd hj (Nat.not_lt_zero j)) h0) h1) h2) h3)
def svLea (a : Addr) (v : Value) : Sem Unit := storeVar 80 a v
@[go_sem ↓] theorem svLea_eq (a : Addr) (v : Value) : storeVar 80 a v = svLea a v := rfl
@[go_sem] theorem run_svLea (w : World) (b o : Nat) (v0 v1 v2 v3 : Value) (h0 : (w.cell? ⟨b, o, none⟩).isSome = true) (h1 : (w.cell? ⟨b, o + 1, none⟩).isSome = true) (h2 : (w.cell? ⟨b, o + 2, none⟩).isSome = true) (h3 : (w.cell? ⟨b, o + 3, none⟩).isSome = true) (f0 : w.frozen? ⟨b, o, none⟩ = false) (f1 : w.frozen? ⟨b, o + 1, none⟩ = false) (f2 : w.frozen? ⟨b, o + 2, none⟩ = false) (f3 : w.frozen? ⟨b, o + 3, none⟩ = false) (o0 : v0.oneCell' = true) (o1 : v1.oneCell' = true) (o2 : v2.oneCell' = true) (o3 : v3.oneCell' = true) : (svLea ⟨b, o, none⟩ (.agg #[v0, v1, v2, v3])).run Tryz.prog w = .ok () ((((w.setCell ⟨b, o, none⟩ v0).setCell ⟨b, o + 1, none⟩ v1).setCell ⟨b, o + 2, none⟩ v2).setCell ⟨b, o + 3, none⟩ v3) := run_sv (P := Tryz.prog) w 80 b o [v0, v1, v2, v3] (by kernel_rfl) (forall_lt_succ _ _ (forall_lt_succ _ _ (forall_lt_succ _ _ (forall_lt_succ _ _ (fun j hj => absurd hj (Nat.not_lt_zero j)) ⟨h0, f0, o0⟩) ⟨h1, f1, o1⟩) ⟨h2, f2, o2⟩) ⟨h3, f3, o3⟩)
end Go.Proofs.YtgkhmnamkfgciaaGreat

namespace Go.Proofs.YtgkhmnamkfgciaaGreat
open Go.RowKit Go.Deep
set_option maxRecDepth 100000
set_option linter.unusedVariables false
set_option maxHeartbeats 1000000 in
theorem mwithin (n lo hi : Int) (w : World) : Calls Tryz.prog 32 #[.int .i64 n, .int .i64 lo, .int .i64 hi] w fun e w' => e = .returned (.bool (wiB n lo hi)) ∧ w = w' := by
  by_cases h1 : lo ≤ n
  · by_cases h2 : n ≤ hi
    · have HB := Lib.hid (show wiB n lo hi = true by unfold wiB; rw [decide_eq_true h1, decide_eq_true h2]; rfl)
      go_enter Tryz.func32, Tryz.ntmps32
      go_wp2_with fail
      go_ret
      exact ⟨by rw [HB.out]; rfl, rfl⟩
    · have HB := Lib.hid (show wiB n lo hi = false by unfold wiB; rw [decide_eq_true h1, decide_eq_false h2]; rfl)
      go_enter Tryz.func32, Tryz.ntmps32
      go_wp2_with fail
      go_ret
      exact ⟨by rw [HB.out]; rfl, rfl⟩
  · have HB := Lib.hid (show wiB n lo hi = false by unfold wiB; rw [decide_eq_false h1]; rfl)
    go_enter Tryz.func32, Tryz.ntmps32
    go_wp2_with fail
    go_ret
    exact ⟨by rw [HB.out]; rfl, rfl⟩
set_option maxHeartbeats 1000000 in
theorem mnumber (n : Int) (w : World) : Calls Tryz.prog 36 #[.int .i64 n] w fun e w' => e = .returned (.bool (numB n)) ∧ w = w' := by
  go_enter Tryz.func36, Tryz.ntmps36
  go_wp2_with fail
  refine (mwithin n 1 1000000000 w).mono ?_
  rintro e w' ⟨rfl, rfl⟩
  go_wp2_with fail
  go_ret
  exact ⟨rfl, rfl⟩
set_option maxHeartbeats 1000000 in
theorem mnode (n : Int) (w : World) : Calls Tryz.prog 40 #[.int .i64 n] w fun e w' => e = .returned (.bool (nodB n)) ∧ w = w' := by
  go_enter Tryz.func40, Tryz.ntmps40
  go_wp2_with fail
  refine (mwithin n 11 13 w).mono ?_
  rintro e w' ⟨rfl, rfl⟩
  go_wp2_with fail
  go_ret
  exact ⟨rfl, rfl⟩
set_option maxHeartbeats 1000000 in
theorem rwithin (n lo hi : Int) (w : World) : Calls Tryz.prog 42 #[.int .i64 n, .int .i64 lo, .int .i64 hi] w fun e w' => e = .returned (.bool (wiB n lo hi)) ∧ w = w' := by
  by_cases h1 : lo ≤ n
  · by_cases h2 : n ≤ hi
    · have HB := Lib.hid (show wiB n lo hi = true by unfold wiB; rw [decide_eq_true h1, decide_eq_true h2]; rfl)
      go_enter Tryz.func42, Tryz.ntmps42
      go_wp2_with fail
      go_ret
      exact ⟨by rw [HB.out]; rfl, rfl⟩
    · have HB := Lib.hid (show wiB n lo hi = false by unfold wiB; rw [decide_eq_true h1, decide_eq_false h2]; rfl)
      go_enter Tryz.func42, Tryz.ntmps42
      go_wp2_with fail
      go_ret
      exact ⟨by rw [HB.out]; rfl, rfl⟩
  · have HB := Lib.hid (show wiB n lo hi = false by unfold wiB; rw [decide_eq_false h1]; rfl)
    go_enter Tryz.func42, Tryz.ntmps42
    go_wp2_with fail
    go_ret
    exact ⟨by rw [HB.out]; rfl, rfl⟩
set_option maxHeartbeats 1000000 in
theorem rnumber (n : Int) (w : World) : Calls Tryz.prog 44 #[.int .i64 n] w fun e w' => e = .returned (.bool (numB n)) ∧ w = w' := by
  go_enter Tryz.func44, Tryz.ntmps44
  go_wp2_with fail
  refine (rwithin n 1 1000000000 w).mono ?_
  rintro e w' ⟨rfl, rfl⟩
  go_wp2_with fail
  go_ret
  exact ⟨rfl, rfl⟩
set_option maxHeartbeats 1000000 in
theorem rnode (n : Int) (w : World) : Calls Tryz.prog 45 #[.int .i64 n] w fun e w' => e = .returned (.bool (nodB n)) ∧ w = w' := by
  go_enter Tryz.func45, Tryz.ntmps45
  go_wp2_with fail
  refine (rwithin n 11 13 w).mono ?_
  rintro e w' ⟨rfl, rfl⟩
  go_wp2_with fail
  go_ret
  exact ⟨rfl, rfl⟩
theorem dons_aft {w w' : World} {A : Option Addr} {cap : Nat} {l : List Don} (hw : Aft w w') (h : SlAt w 5 DonR A cap l) : SlAt w' 5 DonR A cap l := h.aft hw fun _ _ h => h
theorem don_at {w : World} {A : Option Addr} {cap : Nat} {l : List Don} (h : SlAt w 5 DonR A cap l) {k : Nat} (hk : k < l.length) :
    ∃ b off, A = some ⟨b, off, none⟩ ∧ b < w.heap.size ∧ w.cell? ⟨b, off + k * 5, none⟩ = some (.int .i64 l[k].client) ∧ w.cell? ⟨b, off + k * 5 + 1, none⟩ = some (.int .i64 l[k].number) ∧ w.cell? ⟨b, off + k * 5 + 2, none⟩ = some (.int .i64 l[k].code) ∧ w.cell? ⟨b, off + k * 5 + 3, none⟩ = some (.int .i64 l[k].fence) ∧ w.cell? ⟨b, off + k * 5 + 4, none⟩ = some (.int .i64 l[k].version) := by
  obtain ⟨b, off, cs, hA, hb, hl, rfl, hc⟩ := h.2.2 k hk
  exact ⟨b, off, hA, hb, by simpa [donC] using hc 0 (by decide), by simpa [donC, Nat.add_assoc] using hc 1 (by decide), by simpa [donC, Nat.add_assoc] using hc 2 (by decide), by simpa [donC, Nat.add_assoc] using hc 3 (by decide), by simpa [donC, Nat.add_assoc] using hc 4 (by decide)⟩
set_option maxHeartbeats 1000000 in
theorem mwhose (d : Don) (w : World) : Calls Tryz.prog 34 #[.agg #[.int .i64 d.client, .int .i64 d.number, .int .i64 d.code, .int .i64 d.fence, .int .i64 d.version]] w fun e w' => e = .returned (.int .i64 d.client) ∧ Aft w w' := by
  go_enter Tryz.func34, Tryz.ntmps34
  go_wp2_with fail
  go_ret
  exact ⟨rfl, (Aft.refl _).alloc _⟩
set_option maxHeartbeats 4000000 in
theorem orderedDon (A : Option Addr) (cap : Nat) (l : List Don) (g : FuncId) (caps : Array Value) (p : Don → Bool) (w : World) (h : SlAt w 5 DonR A cap l) (hent : ∀ (args : Array Value) (w : World), (callFunc g args).run Tryz.prog w = .ok (.enter g args) w)
    (hp : ∀ w', Aft w w' → ∀ d : Don, Calls Tryz.prog g (#[.agg #[.int .i64 d.client, .int .i64 d.number, .int .i64 d.code, .int .i64 d.fence, .int .i64 d.version]] ++ caps) w' fun e w'' => e = .returned (.bool (p d)) ∧ Aft w' w'') :
    Calls Tryz.prog 33 #[.slice A l.length cap, .func (.func 34) #[] #[], .func (.func g) #[] caps] w fun e w' => e = .returned (.bool (ordB Don.client p l)) ∧ Aft w w' := by
  have hlen := h.len
  have hent0 := enters (P := Tryz.prog) Tryz.func34 (by kernel_rfl) rfl
  have HC := Lib.hid hp
  have HL := Lib.hid h
  clear hp h
  go_enter Tryz.func33, Tryz.ntmps33
  go_wp2_with fail
  go_loopw [11] (fun i wr => ∃ k : Nat, k ≤ l.length ∧ i = .int .i64 k ∧ Aft w wr ∧ ∀ j, j < k → ordAt Don.client p l j = true) (fun i _ => l.length - (intOf i).toNat)
  case atStart => exact ⟨0, Nat.zero_le _, rfl, Aft.refl _, fun j hj => absurd hj (Nat.not_lt_zero j)⟩
  case round =>
    obtain ⟨k, hk, rfl, ha, hp⟩ := hrel
    have HA := Lib.hid ha
    have HP := Lib.hid hp
    clear hp
    by_cases hlt : k < l.length
    case neg =>
      have HT := Lib.hid (show ordB Don.client p l = true from ordB_yes fun j hj => HP.out j (by omega))
      clear ha
      go_wp2_with fail
      go_ret
      exact ⟨by rw [HT.out]; rfl, HA.out⟩
    have hsl := dons_aft ha HL.out
    clear ha
    obtain ⟨b, off, rfl, hb, c0, c1, c2, c3, c4⟩ := don_at hsl hlt
    obtain ⟨x, hx⟩ : ∃ x, l[k] = x := ⟨_, rfl⟩
    rw [hx] at c0 c1 c2 c3 c4
    obtain ⟨W, hW⟩ : ∃ W, W = wr.alloc (.cells #[.int .i64 x.client, .int .i64 x.number, .int .i64 x.code, .int .i64 x.fence, .int .i64 x.version] 74) := ⟨_, rfl⟩
    have aW : Aft wr W := by rw [hW]; exact (Aft.refl _).alloc _
    have rW : RowAt W wr.heap.size [.int .i64 x.client, .int .i64 x.number, .int .i64 x.code, .int .i64 x.fence, .int .i64 x.version] := by rw [hW]; exact box_row2 (Aft.refl _)
    obtain ⟨q, hq⟩ : ∃ q, p x = q := ⟨_, rfl⟩
    have CH := Lib.hid (show ∀ V : Lat W, Calls Tryz.prog g (#[.agg #[.int .i64 x.client, .int .i64 x.number, .int .i64 x.code, .int .i64 x.fence, .int .i64 x.version]] ++ caps) (lat W V) fun e w'' => e = .returned (.bool q) ∧ Aft (lat W V) w'' from fun V => hq ▸ HC.out _ (HA.out.trans (aW.lat V)) x)
    have CW := Lib.hid (fun V : Lat W => mwhose x (lat W V))
    have HX := Lib.hid hx
    have HQ := Lib.hid hq
    have HAW := Lib.hid (HA.out.trans aW)
    have HSL := Lib.hid (dons_aft aW hsl)
    clear hx hq hsl
    cases k with
    | zero =>
      simp only [Nat.zero_mul, Nat.add_zero] at c0 c1 c2 c3 c4
      go_wp2_with fail
      rw [← hW]
      clear hW c0 c1 c2 c3 c4 aW hb
      have y0 := rW.cell (j := 0) rfl
      have y1 := rW.cell (j := 1) rfl
      have y2 := rW.cell (j := 2) rfl
      have y3 := rW.cell (j := 3) rfl
      have y4 := rW.cell (j := 4) rfl
      have yz := rW.1
      clear rW
      cases q
      · refine wp_region_lat (by kernel_rfl) (by kernel_rfl) ?_
        repeat (go_big_quiet_step ((first | (with_reducible exact Calls.lat_of (CH.out _)) | (with_reducible exact Calls.lat_of (CW.out _)))))
        refine wpQuiet_nil ?_
        intro _ hw'
        obtain ⟨V, hw''⟩ := hw'
        subst hw''
        go_wp2_with fail
        go_ret
        exact ⟨by rw [ordB_no hlt (by rw [ordAt_zero hlt, HX.out]; exact HQ.out)]; rfl, HAW.out.lat V⟩
      · refine wp_region_lat (by kernel_rfl) (by kernel_rfl) ?_
        repeat (go_big_quiet_step ((first | (with_reducible exact Calls.lat_of (CH.out _)) | (with_reducible exact Calls.lat_of (CW.out _)))))
        refine wpQuiet_nil ?_
        intro _ hw'
        obtain ⟨V, hw''⟩ := hw'
        subst hw''
        go_wp2_with fail
        go_roundw
        case rel => exact ⟨0 + 1, by omega, by go_num, HAW.out.lat V, fun j hj => by
          rcases Nat.lt_or_ge j (0 + 1 - 1) with h1 | h1
          · exact HP.out j (by omega)
          · have : j = 0 + 1 - 1 := by omega
            subst this
            show ordAt _ _ _ 0 = true; rw [ordAt_zero hlt, HX.out]; exact HQ.out⟩
        case measure => simp [intOf]; omega
    | succ k =>
      have hl0 : k < l.length := by omega
      obtain ⟨b', off', hA', hb', d0, d1, d2, d3, d4⟩ := don_at HSL.out hl0
      simp only [Option.some.injEq, Addr.mk.injEq, and_true] at hA'
      obtain ⟨rfl, rfl⟩ := hA'
      obtain ⟨y, hy⟩ : ∃ y, l[k] = y := ⟨_, rfl⟩
      rw [hy] at d0 d1 d2 d3 d4
      have CY := Lib.hid (fun V : Lat W => mwhose y (lat W V))
      have HY := Lib.hid hy
      clear hy
      have w1 : ((k + 1 : Nat) : Int) - 1 = (k : Int) := by omega
      have w2 : IntKind.i64.wrap (((k + 1 : Nat) : Int) - 1) = (k : Int) := by rw [w1]; exact IntWalk.i64_in _ (by omega)
      have w3 : IntKind.i64.wrap ((k : Int) + 1 - 1) = (k : Int) := by rw [show (k : Int) + 1 - 1 = (k : Int) by omega]; exact IntWalk.i64_in _ (by omega)
      have w4 : (0 : Int) < (k : Int) + 1 := by omega
      have w5 : (k : Int) < (l.length : Int) := by omega
      have w6 : (0 : Int) ≤ (k : Int) := by omega
      go_wp2_with fail
      rw [← hW]
      clear hW c0 c1 c2 c3 c4 aW hb
      have y0 := rW.cell (j := 0) rfl
      have y1 := rW.cell (j := 1) rfl
      have y2 := rW.cell (j := 2) rfl
      have y3 := rW.cell (j := 3) rfl
      have y4 := rW.cell (j := 4) rfl
      have yz := rW.1
      clear rW
      by_cases hge : x.client ≤ y.client
      · refine wp_region_lat (by kernel_rfl) (by kernel_rfl) ?_
        repeat (go_big_quiet_step ((first | (with_reducible exact Calls.lat_of (CH.out _)) | (with_reducible exact Calls.lat_of (CW.out _)) | (with_reducible exact Calls.lat_of (CY.out _)))))
        refine wpQuiet_nil ?_
        intro _ hw'
        obtain ⟨V, hw''⟩ := hw'
        subst hw''
        go_wp2_with fail
        go_ret
        exact ⟨by rw [ordB_no hlt (by rw [ordAt_succ hlt, HX.out, HY.out, decide_eq_false (by omega)]; rfl)]; rfl, HAW.out.lat V⟩
      · cases q
        · refine wp_region_lat (by kernel_rfl) (by kernel_rfl) ?_
          repeat (go_big_quiet_step ((first | (with_reducible exact Calls.lat_of (CH.out _)) | (with_reducible exact Calls.lat_of (CW.out _)) | (with_reducible exact Calls.lat_of (CY.out _)))))
          refine wpQuiet_nil ?_
          intro _ hw'
          obtain ⟨V, hw''⟩ := hw'
          subst hw''
          go_wp2_with fail
          go_ret
          exact ⟨by rw [ordB_no hlt (by rw [ordAt_succ hlt, HX.out, HQ.out, Bool.and_false])]; rfl, HAW.out.lat V⟩
        · refine wp_region_lat (by kernel_rfl) (by kernel_rfl) ?_
          repeat (go_big_quiet_step ((first | (with_reducible exact Calls.lat_of (CH.out _)) | (with_reducible exact Calls.lat_of (CW.out _)) | (with_reducible exact Calls.lat_of (CY.out _)))))
          refine wpQuiet_nil ?_
          intro _ hw'
          obtain ⟨V, hw''⟩ := hw'
          subst hw''
          go_wp2_with fail
          clear w1 w2 w3 w4 w5 w6
          go_roundw
          case rel => exact ⟨k + 1 + 1, by omega, by go_num, HAW.out.lat V, fun j hj => by
            rcases Nat.lt_or_ge j (k + 1 + 1 - 1) with h1 | h1
            · exact HP.out j (by omega)
            · have : j = k + 1 + 1 - 1 := by omega
              subst this
              show ordAt _ _ _ (k + 1) = true; rw [ordAt_succ hlt, HX.out, HY.out, HQ.out, decide_eq_true (show y.client < x.client by omega)]; rfl⟩
          case measure => simp [intOf]; omega
theorem leas_aft {w w' : World} {A : Option Addr} {cap : Nat} {l : List Lea} (hw : Aft w w') (h : SlAt w 4 LeaR A cap l) : SlAt w' 4 LeaR A cap l := h.aft hw fun _ _ h => h
theorem lea_at {w : World} {A : Option Addr} {cap : Nat} {l : List Lea} (h : SlAt w 4 LeaR A cap l) {k : Nat} (hk : k < l.length) :
    ∃ b off, A = some ⟨b, off, none⟩ ∧ b < w.heap.size ∧ w.cell? ⟨b, off + k * 4, none⟩ = some (.int .i64 l[k].seq) ∧ w.cell? ⟨b, off + k * 4 + 1, none⟩ = some (.int .i64 l[k].node) ∧ w.cell? ⟨b, off + k * 4 + 2, none⟩ = some (.int .i64 l[k].ask) ∧ w.cell? ⟨b, off + k * 4 + 3, none⟩ = some (.int .i64 l[k].epoch) := by
  obtain ⟨b, off, cs, hA, hb, hl, rfl, hc⟩ := h.2.2 k hk
  exact ⟨b, off, hA, hb, by simpa [leaC] using hc 0 (by decide), by simpa [leaC, Nat.add_assoc] using hc 1 (by decide), by simpa [leaC, Nat.add_assoc] using hc 2 (by decide), by simpa [leaC, Nat.add_assoc] using hc 3 (by decide)⟩
set_option maxHeartbeats 1000000 in
theorem mwhich (d : Lea) (w : World) : Calls Tryz.prog 38 #[.agg #[.int .i64 d.seq, .int .i64 d.node, .int .i64 d.ask, .int .i64 d.epoch]] w fun e w' => e = .returned (.int .i64 d.seq) ∧ Aft w w' := by
  go_enter Tryz.func38, Tryz.ntmps38
  go_wp2_with fail
  go_ret
  exact ⟨rfl, (Aft.refl _).alloc _⟩
set_option maxHeartbeats 4000000 in
theorem orderedLea (A : Option Addr) (cap : Nat) (l : List Lea) (g : FuncId) (caps : Array Value) (p : Lea → Bool) (w : World) (h : SlAt w 4 LeaR A cap l) (hent : ∀ (args : Array Value) (w : World), (callFunc g args).run Tryz.prog w = .ok (.enter g args) w)
    (hp : ∀ w', Aft w w' → ∀ d : Lea, Calls Tryz.prog g (#[.agg #[.int .i64 d.seq, .int .i64 d.node, .int .i64 d.ask, .int .i64 d.epoch]] ++ caps) w' fun e w'' => e = .returned (.bool (p d)) ∧ Aft w' w'') :
    Calls Tryz.prog 37 #[.slice A l.length cap, .func (.func 38) #[] #[], .func (.func g) #[] caps] w fun e w' => e = .returned (.bool (ordB Lea.seq p l)) ∧ Aft w w' := by
  have hlen := h.len
  have hent0 := enters (P := Tryz.prog) Tryz.func38 (by kernel_rfl) rfl
  have HC := Lib.hid hp
  have HL := Lib.hid h
  clear hp h
  go_enter Tryz.func37, Tryz.ntmps37
  go_wp2_with fail
  go_loopw [11] (fun i wr => ∃ k : Nat, k ≤ l.length ∧ i = .int .i64 k ∧ Aft w wr ∧ ∀ j, j < k → ordAt Lea.seq p l j = true) (fun i _ => l.length - (intOf i).toNat)
  case atStart => exact ⟨0, Nat.zero_le _, rfl, Aft.refl _, fun j hj => absurd hj (Nat.not_lt_zero j)⟩
  case round =>
    obtain ⟨k, hk, rfl, ha, hp⟩ := hrel
    have HA := Lib.hid ha
    have HP := Lib.hid hp
    clear hp
    by_cases hlt : k < l.length
    case neg =>
      have HT := Lib.hid (show ordB Lea.seq p l = true from ordB_yes fun j hj => HP.out j (by omega))
      clear ha
      go_wp2_with fail
      go_ret
      exact ⟨by rw [HT.out]; rfl, HA.out⟩
    have hsl := leas_aft ha HL.out
    clear ha
    obtain ⟨b, off, rfl, hb, c0, c1, c2, c3⟩ := lea_at hsl hlt
    obtain ⟨x, hx⟩ : ∃ x, l[k] = x := ⟨_, rfl⟩
    rw [hx] at c0 c1 c2 c3
    obtain ⟨W, hW⟩ : ∃ W, W = wr.alloc (.cells #[.int .i64 x.seq, .int .i64 x.node, .int .i64 x.ask, .int .i64 x.epoch] 80) := ⟨_, rfl⟩
    have aW : Aft wr W := by rw [hW]; exact (Aft.refl _).alloc _
    have rW : RowAt W wr.heap.size [.int .i64 x.seq, .int .i64 x.node, .int .i64 x.ask, .int .i64 x.epoch] := by rw [hW]; exact box_row2 (Aft.refl _)
    obtain ⟨q, hq⟩ : ∃ q, p x = q := ⟨_, rfl⟩
    have CH := Lib.hid (show ∀ V : Lat W, Calls Tryz.prog g (#[.agg #[.int .i64 x.seq, .int .i64 x.node, .int .i64 x.ask, .int .i64 x.epoch]] ++ caps) (lat W V) fun e w'' => e = .returned (.bool q) ∧ Aft (lat W V) w'' from fun V => hq ▸ HC.out _ (HA.out.trans (aW.lat V)) x)
    have CW := Lib.hid (fun V : Lat W => mwhich x (lat W V))
    have HX := Lib.hid hx
    have HQ := Lib.hid hq
    have HAW := Lib.hid (HA.out.trans aW)
    have HSL := Lib.hid (leas_aft aW hsl)
    clear hx hq hsl
    cases k with
    | zero =>
      simp only [Nat.zero_mul, Nat.add_zero] at c0 c1 c2 c3
      go_wp2_with fail
      rw [← hW]
      clear hW c0 c1 c2 c3 aW hb
      have y0 := rW.cell (j := 0) rfl
      have y1 := rW.cell (j := 1) rfl
      have y2 := rW.cell (j := 2) rfl
      have y3 := rW.cell (j := 3) rfl
      have yz := rW.1
      clear rW
      cases q
      · refine wp_region_lat (by kernel_rfl) (by kernel_rfl) ?_
        repeat (go_big_quiet_step ((first | (with_reducible exact Calls.lat_of (CH.out _)) | (with_reducible exact Calls.lat_of (CW.out _)))))
        refine wpQuiet_nil ?_
        intro _ hw'
        obtain ⟨V, hw''⟩ := hw'
        subst hw''
        go_wp2_with fail
        go_ret
        exact ⟨by rw [ordB_no hlt (by rw [ordAt_zero hlt, HX.out]; exact HQ.out)]; rfl, HAW.out.lat V⟩
      · refine wp_region_lat (by kernel_rfl) (by kernel_rfl) ?_
        repeat (go_big_quiet_step ((first | (with_reducible exact Calls.lat_of (CH.out _)) | (with_reducible exact Calls.lat_of (CW.out _)))))
        refine wpQuiet_nil ?_
        intro _ hw'
        obtain ⟨V, hw''⟩ := hw'
        subst hw''
        go_wp2_with fail
        go_roundw
        case rel => exact ⟨0 + 1, by omega, by go_num, HAW.out.lat V, fun j hj => by
          rcases Nat.lt_or_ge j (0 + 1 - 1) with h1 | h1
          · exact HP.out j (by omega)
          · have : j = 0 + 1 - 1 := by omega
            subst this
            show ordAt _ _ _ 0 = true; rw [ordAt_zero hlt, HX.out]; exact HQ.out⟩
        case measure => simp [intOf]; omega
    | succ k =>
      have hl0 : k < l.length := by omega
      obtain ⟨b', off', hA', hb', d0, d1, d2, d3⟩ := lea_at HSL.out hl0
      simp only [Option.some.injEq, Addr.mk.injEq, and_true] at hA'
      obtain ⟨rfl, rfl⟩ := hA'
      obtain ⟨y, hy⟩ : ∃ y, l[k] = y := ⟨_, rfl⟩
      rw [hy] at d0 d1 d2 d3
      have CY := Lib.hid (fun V : Lat W => mwhich y (lat W V))
      have HY := Lib.hid hy
      clear hy
      have w1 : ((k + 1 : Nat) : Int) - 1 = (k : Int) := by omega
      have w2 : IntKind.i64.wrap (((k + 1 : Nat) : Int) - 1) = (k : Int) := by rw [w1]; exact IntWalk.i64_in _ (by omega)
      have w3 : IntKind.i64.wrap ((k : Int) + 1 - 1) = (k : Int) := by rw [show (k : Int) + 1 - 1 = (k : Int) by omega]; exact IntWalk.i64_in _ (by omega)
      have w4 : (0 : Int) < (k : Int) + 1 := by omega
      have w5 : (k : Int) < (l.length : Int) := by omega
      have w6 : (0 : Int) ≤ (k : Int) := by omega
      go_wp2_with fail
      rw [← hW]
      clear hW c0 c1 c2 c3 aW hb
      have y0 := rW.cell (j := 0) rfl
      have y1 := rW.cell (j := 1) rfl
      have y2 := rW.cell (j := 2) rfl
      have y3 := rW.cell (j := 3) rfl
      have yz := rW.1
      clear rW
      by_cases hge : x.seq ≤ y.seq
      · refine wp_region_lat (by kernel_rfl) (by kernel_rfl) ?_
        repeat (go_big_quiet_step ((first | (with_reducible exact Calls.lat_of (CH.out _)) | (with_reducible exact Calls.lat_of (CW.out _)) | (with_reducible exact Calls.lat_of (CY.out _)))))
        refine wpQuiet_nil ?_
        intro _ hw'
        obtain ⟨V, hw''⟩ := hw'
        subst hw''
        go_wp2_with fail
        go_ret
        exact ⟨by rw [ordB_no hlt (by rw [ordAt_succ hlt, HX.out, HY.out, decide_eq_false (by omega)]; rfl)]; rfl, HAW.out.lat V⟩
      · cases q
        · refine wp_region_lat (by kernel_rfl) (by kernel_rfl) ?_
          repeat (go_big_quiet_step ((first | (with_reducible exact Calls.lat_of (CH.out _)) | (with_reducible exact Calls.lat_of (CW.out _)) | (with_reducible exact Calls.lat_of (CY.out _)))))
          refine wpQuiet_nil ?_
          intro _ hw'
          obtain ⟨V, hw''⟩ := hw'
          subst hw''
          go_wp2_with fail
          go_ret
          exact ⟨by rw [ordB_no hlt (by rw [ordAt_succ hlt, HX.out, HQ.out, Bool.and_false])]; rfl, HAW.out.lat V⟩
        · refine wp_region_lat (by kernel_rfl) (by kernel_rfl) ?_
          repeat (go_big_quiet_step ((first | (with_reducible exact Calls.lat_of (CH.out _)) | (with_reducible exact Calls.lat_of (CW.out _)) | (with_reducible exact Calls.lat_of (CY.out _)))))
          refine wpQuiet_nil ?_
          intro _ hw'
          obtain ⟨V, hw''⟩ := hw'
          subst hw''
          go_wp2_with fail
          clear w1 w2 w3 w4 w5 w6
          go_roundw
          case rel => exact ⟨k + 1 + 1, by omega, by go_num, HAW.out.lat V, fun j hj => by
            rcases Nat.lt_or_ge j (k + 1 + 1 - 1) with h1 | h1
            · exact HP.out j (by omega)
            · have : j = k + 1 + 1 - 1 := by omega
              subst this
              show ordAt _ _ _ (k + 1) = true; rw [ordAt_succ hlt, HX.out, HY.out, HQ.out, decide_eq_true (show y.seq < x.seq by omega)]; rfl⟩
          case measure => simp [intOf]; omega
set_option maxHeartbeats 4000000 in
theorem mchk1 (d : Don) (bc : Nat) (ep v : Int) (w : World) (hz : bc < w.heap.size) (hz2 : bc < w.heap.size + 1) (h0 : w.cell? ⟨bc, 0, none⟩ = some (.int .i64 ep)) (h1 : w.cell? ⟨bc, 1, none⟩ = some (.int .i64 v)) :
    Calls Tryz.prog 35 (#[.agg #[.int .i64 d.client, .int .i64 d.number, .int .i64 d.code, .int .i64 d.fence, .int .i64 d.version]] ++ #[.pointer (some ⟨bc, 0, none⟩)]) w fun e w' => e = .returned (.bool (donP ep v d)) ∧ Aft w w' := by
  show Calls Tryz.prog 35 #[.agg #[.int .i64 d.client, .int .i64 d.number, .int .i64 d.code, .int .i64 d.fence, .int .i64 d.version], .pointer (some ⟨bc, 0, none⟩)] w _
  obtain ⟨b0, hb0⟩ : ∃ b, wiB d.client 1 4 = b := ⟨_, rfl⟩
  have C0 := Lib.hid (fun V => hb0 ▸ mwithin d.client 1 4 V)
  obtain ⟨b1, hb1⟩ : ∃ b, numB d.number = b := ⟨_, rfl⟩
  have C1 := Lib.hid (fun V => hb1 ▸ mnumber d.number V)
  obtain ⟨b2, hb2⟩ : ∃ b, wiB d.code 0 65535 = b := ⟨_, rfl⟩
  have C2 := Lib.hid (fun V => hb2 ▸ mwithin d.code 0 65535 V)
  obtain ⟨b3, hb3⟩ : ∃ b, wiB d.fence 0 ep = b := ⟨_, rfl⟩
  have C3 := Lib.hid (fun V => hb3 ▸ mwithin d.fence 0 ep V)
  obtain ⟨b4, hb4⟩ : ∃ b, wiB d.version 0 v = b := ⟨_, rfl⟩
  have C4 := Lib.hid (fun V => hb4 ▸ mwithin d.version 0 v V)
  have HR := Lib.hid (show donP ep v d = (b0 && b1 && b2 && b3 && b4) by unfold donP; rw [hb0, hb1, hb2, hb3, hb4])
  clear hb0 hb1 hb2 hb3 hb4
  have aW : Aft w (w.alloc (.cells #[.int .i64 d.client, .int .i64 d.number, .int .i64 d.code, .int .i64 d.fence, .int .i64 d.version] 74)) := (Aft.refl _).alloc _
  have HAW := Lib.hid aW
  clear aW
  go_enter Tryz.func35, Tryz.ntmps35
  go_wp2_with fail
  refine (C0.out _).mono ?_
  rintro e w5 ⟨rfl, rfl⟩
  cases b0
  case false =>
    go_wp2_with fail
    go_ret
    exact ⟨by rw [HR.out]; rfl, HAW.out⟩
  go_wp2_with fail
  refine (C1.out _).mono ?_
  rintro e w6 ⟨rfl, rfl⟩
  cases b1
  case false =>
    go_wp2_with fail
    go_ret
    exact ⟨by rw [HR.out]; rfl, HAW.out⟩
  go_wp2_with fail
  refine (C2.out _).mono ?_
  rintro e w7 ⟨rfl, rfl⟩
  cases b2
  case false =>
    go_wp2_with fail
    go_ret
    exact ⟨by rw [HR.out]; rfl, HAW.out⟩
  go_wp2_with fail
  refine (C3.out _).mono ?_
  rintro e w8 ⟨rfl, rfl⟩
  cases b3
  case false =>
    go_wp2_with fail
    go_ret
    exact ⟨by rw [HR.out]; rfl, HAW.out⟩
  go_wp2_with fail
  refine (C4.out _).mono ?_
  rintro e w9 ⟨rfl, rfl⟩
  go_wp2_with fail
  go_ret
  exact ⟨by rw [HR.out]; rfl, HAW.out⟩
set_option maxHeartbeats 4000000 in
theorem mchk2 (d : Lea) (bm bc : Nat) (ep la : Int) (w : World) (hz : bc < w.heap.size) (hz2 : bc < w.heap.size + 1) (hm : bm < w.heap.size) (hm2 : bm < w.heap.size + 1) (h0 : w.cell? ⟨bc, 0, none⟩ = some (.int .i64 ep)) (h1 : w.cell? ⟨bm, 9, none⟩ = some (.int .i64 la)) :
    Calls Tryz.prog 39 (#[.agg #[.int .i64 d.seq, .int .i64 d.node, .int .i64 d.ask, .int .i64 d.epoch]] ++ #[.pointer (some ⟨bm, 0, none⟩), .pointer (some ⟨bc, 0, none⟩)]) w fun e w' => e = .returned (.bool (leaP ep la d)) ∧ Aft w w' := by
  show Calls Tryz.prog 39 #[.agg #[.int .i64 d.seq, .int .i64 d.node, .int .i64 d.ask, .int .i64 d.epoch], .pointer (some ⟨bm, 0, none⟩), .pointer (some ⟨bc, 0, none⟩)] w _
  obtain ⟨b0, hb0⟩ : ∃ b, wiB d.seq 1 la = b := ⟨_, rfl⟩
  have C0 := Lib.hid (fun V => hb0 ▸ mwithin d.seq 1 la V)
  obtain ⟨b1, hb1⟩ : ∃ b, nodB d.node = b := ⟨_, rfl⟩
  have C1 := Lib.hid (fun V => hb1 ▸ mnode d.node V)
  obtain ⟨b2, hb2⟩ : ∃ b, numB d.ask = b := ⟨_, rfl⟩
  have C2 := Lib.hid (fun V => hb2 ▸ mnumber d.ask V)
  obtain ⟨b3, hb3⟩ : ∃ b, wiB d.epoch 0 ep = b := ⟨_, rfl⟩
  have C3 := Lib.hid (fun V => hb3 ▸ mwithin d.epoch 0 ep V)
  have HR := Lib.hid (show leaP ep la d = (b0 && b1 && b2 && b3) by unfold leaP; rw [hb0, hb1, hb2, hb3])
  clear hb0 hb1 hb2 hb3
  have aW : Aft w (w.alloc (.cells #[.int .i64 d.seq, .int .i64 d.node, .int .i64 d.ask, .int .i64 d.epoch] 80)) := (Aft.refl _).alloc _
  have HAW := Lib.hid aW
  clear aW
  go_enter Tryz.func39, Tryz.ntmps39
  go_wp2_with fail
  refine (C0.out _).mono ?_
  rintro e w5 ⟨rfl, rfl⟩
  cases b0
  case false =>
    go_wp2_with fail
    go_ret
    exact ⟨by rw [HR.out]; rfl, HAW.out⟩
  go_wp2_with fail
  refine (C1.out _).mono ?_
  rintro e w6 ⟨rfl, rfl⟩
  cases b1
  case false =>
    go_wp2_with fail
    go_ret
    exact ⟨by rw [HR.out]; rfl, HAW.out⟩
  go_wp2_with fail
  refine (C2.out _).mono ?_
  rintro e w7 ⟨rfl, rfl⟩
  cases b2
  case false =>
    go_wp2_with fail
    go_ret
    exact ⟨by rw [HR.out]; rfl, HAW.out⟩
  go_wp2_with fail
  refine (C3.out _).mono ?_
  rintro e w8 ⟨rfl, rfl⟩
  go_wp2_with fail
  go_ret
  exact ⟨by rw [HR.out]; rfl, HAW.out⟩
end Go.Proofs.YtgkhmnamkfgciaaGreat

namespace Go.Proofs.YtgkhmnamkfgciaaGreat
open Go.RowKit Go.Deep
set_option linter.unusedVariables false
def heldR (v : Value) : Option (DataW Value × List MemPlace) := some (.held v, [])
/-- block b is a map of at most n entries; at the text s it holds f s, which is z where there is none -/
def MapF (P : Program) (k : TypeId) (w : World) (b n : Nat) (z : Value) (f : List UInt8 → Value) : Prop :=
  ∃ D : DataW Value, Maps.IsMap D ∧ w.ownsMap P k heldR b n D ∧ ∀ s, D.atKey (.string s) (.held z) = .held (f s)
section
variable {P : Program} {k : TypeId} {w w' : World} {b n : Nat} {z : Value} {f : List UInt8 → Value}
theorem MapF.lt (h : MapF P k w b n z f) : b < w.heap.size := by obtain ⟨D, _, ho, _⟩ := h; exact ho.lt
theorem MapF.kb {Q : Nat → Prop} (h : MapF P k w b n z f) (kb : Kb Q w w') (hb : ¬ Q b) : MapF P k w' b n z f := by
  obtain ⟨D, hD, ho, hf⟩ := h
  have hl := ho.lt
  obtain ⟨es, clock, hh, F, hs, he⟩ := ho
  exact ⟨D, hD, ⟨es, clock, (kb.block b hl hb).trans hh, F, hs, he⟩, hf⟩
theorem MapF.aft (h : MapF P k w b n z f) (a : Aft w w') : MapF P k w' b n z f := h.kb (Q := fun _ => False) (Kb.of_aft a) (fun h => h)
theorem MapF.mono (h : MapF P k w b n z f) {n' : Nat} (hn : n ≤ n') : MapF P k w b n' z f := by
  obtain ⟨D, hD, ho, hf⟩ := h; exact ⟨D, hD, ho.mono hn, hf⟩
theorem mapF_made (w : World) (z : Value) : MapF P k (w.alloc (.map #[] 0)) w.heap.size 0 z (fun _ => z) :=
  ⟨.map [], Maps.isMap_empty, World.ownsMap_made w P k heldR, fun s => rfl⟩
theorem key_string (hk : P.underlying k = some .string) (s : ByteArray) (hs : s.size ≤ maxLen) : keyOf P k (.string s) = some (.string s.data.toList) := by
  simp [keyOf, hk, mapKey, hs]
theorem MapF.look {t e : TypeId} (h : MapF P k w b n z f) (hk : P.underlying k = some .string) (ht : P.underlying t = some (.map k e)) (hz : (zeroValue e).run P w = .ok z w) (s : ByteArray) (hs : s.size ≤ maxLen) :
    (Instr.lookup t (.map (some b)) (.string s) false).run P w = .ok (f s.data.toList) w := by
  obtain ⟨D, hD, ho, hf⟩ := h
  obtain ⟨v, ps, hrun, hv⟩ := ho.lookup (Maps.string_keyed hk) ht hz (zd := .held z) (zp := []) rfl (key_string hk s hs)
  rw [hf] at hv
  unfold heldR at hv
  simp only [Option.some.injEq, Prod.mk.injEq, DataW.held.injEq] at hv
  rw [hrun, hv.1]
theorem MapF.put {t e : TypeId} (h : MapF P k w b n z f) (hk : P.underlying k = some .string) (ht : P.underlying t = some (.map k e)) (hn : n < maxLen) (s : ByteArray) (hs : s.size ≤ maxLen) (v : Value) :
    ∃ w', (Instr.mapUpdate t (.map (some b)) (.string s) v).run P w = .ok () w' ∧ MapF P k w' b (n + 1) z (fun x => if x = s.data.toList then v else f x) ∧ w.grownBy w' (some b) := by
  obtain ⟨D, hD, ho, hf⟩ := h
  obtain ⟨w', hrun, h1, h2⟩ := ho.update (Maps.string_keyed hk) ht hn (key_string hk s hs) (val := v) (d := .held v) (ps := []) rfl
  refine ⟨w', hrun, ⟨D.put (.string s.data.toList) (.held v), hD.put _ _, h1, fun x => ?_⟩, h2⟩
  show _ = DataW.held (if x = s.data.toList then v else f x)
  by_cases e : x = s.data.toList
  · subst e
    rw [if_pos rfl]
    exact Maps.atKey_put_same hD (by trivial) _ _
  · rw [if_neg e, Maps.atKey_put_other (by intro e2; exact e (Lit.string.inj e2))]
    exact hf x
end
end Go.Proofs.YtgkhmnamkfgciaaGreat

