/- Contracts of the program, part 6. -/
import Derived.OwnWalk
import Derived.Laws.AppendOwn
import Derived.ProofKit
import Derived.OpenShut
import Derived.Deep.Slices
import Derived.ChangeOld
import Derived.SizedLaws
import Derived.WalkKit
import Derived.WalkSpells
import Derived.WalkLawsBesides
import Derived.Lib.Hide
import Derived.Deep.QuietTactic
import Derived.BigQuiet
import Derived.Below
import Derived.Deep.Draws
import Derived.StillTailTactics
import Derived.Laws.Cells
import Derived.Laws.IdiomCopy
import Derived.Test.YtgkhmnamkfgciaaGreatRows
import Derived.Lib.Walk
import Derived.Deep.AppendLies
import Derived.Laws.EntriesVeiled
import Derived.Maps.Own
import Derived.Maps.Views
import Derived.Deep.Upon
import Derived.OneCell
import Derived.OrdersHeld
import Derived.Deep.RegionHeld3
import Derived.IntWalk
import Derived.Lib.Bytealg
import Derived.Lib.SliceRun
import Derived.Deep.DeepMust
import Derived.Test.YtgkhmnamkfgciaaGreatPartM1
import Derived.Test.YtgkhmnamkfgciaaGreatPartM2
import Derived.Test.YtgkhmnamkfgciaaGreatPartM3
import Derived.Test.YtgkhmnamkfgciaaGreatPartM4
import Derived.Test.YtgkhmnamkfgciaaGreatPartM5
namespace Go.Proofs.YtgkhmnamkfgciaaGreat
open Go.RowKit Go.Deep
set_option maxRecDepth 100000
set_option linter.unusedVariables false
theorem flat_mbrs {w : World} {css : List (List Value)} {l : List Mbr} (h : Chunks w 2 MbrR css l) : css.flatten = l.flatMap mbrC := chunks_flat (fun _ _ h => h.1) h
theorem rises_two {α : Type} {c : α → α → Int} (anti : ∀ a b, c a b = - c b a) (l : List α) : risesB c l = true ↔ Sorted c l ∧ NoTwin (fun a b => decide (c a b = 0)) l := by
  rw [risesB_iff]
  constructor
  · intro h
    refine ⟨fun k hk => ?_, fun k hk => ?_⟩
    · have h1 := h k hk
      have h2 := anti l[k + 1] (l[k]'(by omega))
      omega
    · have h1 := h k hk
      have h2 := anti l[k + 1] (l[k]'(by omega))
      simp only [decide_eq_false_iff_not]
      omega
  · intro ⟨h1, h2⟩ k hk
    have h3 := h1 k hk
    have h4 := h2 k hk
    simp only [decide_eq_false_iff_not] at h4
    have h5 := anti l[k + 1] (l[k]'(by omega))
    omega
theorem own_cap {w : World} {B size n : Nat} {e : TypeId} {v : Value} {xs : List Value} (h : w.ownsRow B e size v n xs) : ∀ A n c, v = .slice A n c → c ≤ 9223372036854775807 := by
  intro A n c hv
  rcases h.2 with ⟨rfl, _⟩ | ⟨g, cap, cur, rfl, _, _, _, hcm, _⟩
  · simp only [Value.slice.injEq] at hv; omega
  · simp only [Value.slice.injEq] at hv
    have : cap ≤ maxLen := hcm
    unfold maxLen at this
    omega
set_option maxHeartbeats 1000000 in
theorem ris1S (x y : ByteArray) (bx : Nat) (g : FuncId) (caps : Array Value) (c : ByteArray → ByteArray → Int) (w : World) (hc : w.cell? ⟨bx, 0, none⟩ = some (.func (.func g) #[] caps)) (hent : ∀ (args : Array Value) (w : World), (callFunc g args).run Tryz.prog w = .ok (.enter g args) w)
    (hp : ∀ w', Aft w w' → Calls Tryz.prog g (#[.string (x), .string (y)] ++ caps) w' fun e w'' => e = .returned (.int .i64 (c x y)) ∧ Aft w' w'') :
    Calls Tryz.prog 290 #[.string (x), .string (y), .pointer (some ⟨bx, 0, none⟩)] w fun e w' => e = .returned (.bool (decide (c x y = 0))) ∧ Aft w w' := by
  have HP := Lib.hid hp
  have hbx : bx < w.heap.size := World.block_lt_of_cell? _ _ hc
  have hbx1 : bx < w.heap.size + 1 := by omega
  clear hp
  go_enter Tryz.func290, Tryz.ntmps290
  go_wp2_with fail
  refine (HP.out _ (Aft.refl w)).mono ?_
  rintro e w1 ⟨rfl, a1⟩
  have HA := Lib.hid ((Aft.refl w).trans a1)
  clear a1
  go_wp2_with fail
  go_ret
  exact ⟨Eq.trans (b := .returned (.bool _)) rfl (ret_of (bool_of (by first | rfl | simp))), HA.out⟩
set_option maxHeartbeats 2000000 in
theorem risingS (A : Option Addr) (cap : Nat) (l : List ByteArray) (g : FuncId) (caps : Array Value) (c : ByteArray → ByteArray → Int) (w : World) (h : SlAt w 1 StrR A cap l) (hb : l.length ≤ 1000000) (anti : ∀ a b, c a b = - c b a) (hent : ∀ (args : Array Value) (w : World), (callFunc g args).run Tryz.prog w = .ok (.enter g args) w)
    (hp : ∀ w' (x y : ByteArray), Aft w w' → Calls Tryz.prog g (#[.string (x), .string (y)] ++ caps) w' fun e w'' => e = .returned (.int .i64 (c x y)) ∧ Aft w' w'') :
    Calls Tryz.prog 202 #[.slice A l.length cap, .func (.func g) #[] caps] w fun e w' => e = .returned (.bool (risesB c l)) ∧ Aft w w' := by
  have hlen := h.len
  obtain ⟨W, hW⟩ : ∃ W, W = w.alloc (.cells #[.func (.func g) #[] caps] 178) := ⟨_, rfl⟩
  have aW : Aft w W := by rw [hW]; exact (Aft.refl w).alloc _
  have zW : W.heap.size = w.heap.size + 1 := by rw [hW]; simp
  have cW : W.cell? ⟨w.heap.size, 0, none⟩ = some (.func (.func g) #[] caps) := by rw [hW]; simp
  have C1 := Lib.hid (sortedS A cap l g caps c W (strs_aft aW h) hent fun w' a i hi => hp w' _ _ (aW.trans a))
  have HH := Lib.hid (And.intro h (And.intro hp (And.intro anti (And.intro aW cW))))
  have hent2 := enters (P := Tryz.prog) Tryz.func290 (by kernel_rfl) rfl
  have hsm := sm_mem h (P := fun x : ByteArray => Small x.size) (fun _ _ h => h.2)
  have HSM := Lib.hid hsm
  clear h hp anti aW hsm
  go_enter Tryz.func202, Tryz.ntmps202
  go_wp2_with fail
  rw [← hW]
  refine C1.out.mono ?_
  rintro e w1 ⟨b, rfl, hb1, a1⟩
  have HB := Lib.hid hb1
  have HA1 := Lib.hid a1
  have cW1 := a1.cell_kept cW
  clear hW hb1
  cases b
  · clear a1 cW1 cW
    go_wp2_with fail
    go_ret
    refine ⟨Eq.trans (b := .returned (.bool _)) rfl (ret_of (bool_of ?_)), HH.out.2.2.2.1.trans HA1.out⟩
    have := rises_two HH.out.2.2.1 l
    have h2 := HB.out
    simp_all
  · have C2 := Lib.hid (clone2Str A cap l w1 w1 (Aft.refl _) (strs_aft (HH.out.2.2.2.1.trans a1) HH.out.1) hb)
    clear a1
    go_wp2_with fail
    refine C2.out.mono ?_
    rintro e w2 ⟨v, css, rfl, a2, ho, hch⟩
    rw [flat_names hch] at ho
    obtain ⟨A2, cap2, hv⟩ := own_lit ho
    subst hv
    have cW2 := a2.cell_kept cW1
    have C3 := Lib.hid (compS (.slice A2 l.length cap2) l 290 #[.pointer (some ⟨w.heap.size, 0, none⟩)] (fun a b => decide (c a b = 0)) w1.heap.size w2 ho HSM.out.1 (own_cap ho) HSM.out.2 hent2 (fun w' kb x y => by
      have hnb : ¬ InV (.slice A2 l.length cap2) w.heap.size := not_in ho (by have := HA1.out.size; omega)
      have ha : Aft w w' := kb.to_aft ((HH.out.2.2.2.1.trans HA1.out).trans a2) (fun g hg => not_in ho (by have := HA1.out.size; omega))
      exact ris1S x y w.heap.size g caps c w' (kb.cell cW2 hnb) hent (fun w'' a => HH.out.2.1 w'' x y (ha.trans a))))
    have HK := Lib.hid (show ∀ w', Kb (InV (.slice A2 l.length cap2)) w2 w' → Aft w w' from fun w' kb => kb.to_aft ((HH.out.2.2.2.1.trans HA1.out).trans a2) (fun g hg => not_in ho (by have := HA1.out.size; omega)))
    clear a2 ho hch
    go_wp2_with fail
    refine C3.out.mono ?_
    rintro e w3 ⟨A3, m, c3, rfl, hm, kb⟩
    have HM := Lib.hid hm
    have HA3 := Lib.hid (HK.out w3 kb)
    clear hm kb
    go_wp2_with fail
    go_ret
    refine ⟨Eq.trans (b := .returned (.bool _)) rfl (ret_of (bool_of ?_)), HA3.out⟩
    have h1 := rises_two HH.out.2.2.1 l
    have h2 := HB.out.1 (by first | trivial | rfl)
    have h3 := HM.out
    by_cases e : m = l.length
    · rw [h1.2 ⟨h2, h3.1 e⟩]
      simp [e]
    · have : risesB c l = false := by
        rw [Bool.eq_false_iff]
        intro h
        exact e (h3.2 (h1.1 h).2)
      rw [this]
      simp; omega
set_option maxHeartbeats 1000000 in
theorem ris1M (x y : Mbr) (bx : Nat) (g : FuncId) (caps : Array Value) (c : Mbr → Mbr → Int) (w : World) (hc : w.cell? ⟨bx, 0, none⟩ = some (.func (.func g) #[] caps)) (hent : ∀ (args : Array Value) (w : World), (callFunc g args).run Tryz.prog w = .ok (.enter g args) w)
    (hp : ∀ w', Aft w w' → Calls Tryz.prog g (#[.agg #[.string (x).role, .string (x).of], .agg #[.string (y).role, .string (y).of]] ++ caps) w' fun e w'' => e = .returned (.int .i64 (c x y)) ∧ Aft w' w'') :
    Calls Tryz.prog 293 #[.agg #[.string (x).role, .string (x).of], .agg #[.string (y).role, .string (y).of], .pointer (some ⟨bx, 0, none⟩)] w fun e w' => e = .returned (.bool (decide (c x y = 0))) ∧ Aft w w' := by
  have HP := Lib.hid hp
  have hbx : bx < w.heap.size := World.block_lt_of_cell? _ _ hc
  have hbx1 : bx < w.heap.size + 1 := by omega
  clear hp
  go_enter Tryz.func293, Tryz.ntmps293
  go_wp2_with fail
  refine (HP.out _ (((Aft.refl w).alloc _).alloc _)).mono ?_
  rintro e w1 ⟨rfl, a1⟩
  have HA := Lib.hid ((((Aft.refl w).alloc _).alloc _).trans a1)
  clear a1
  go_wp2_with fail
  go_ret
  exact ⟨Eq.trans (b := .returned (.bool _)) rfl (ret_of (bool_of (by first | rfl | simp))), HA.out⟩
set_option maxHeartbeats 2000000 in
theorem risingM (A : Option Addr) (cap : Nat) (l : List Mbr) (g : FuncId) (caps : Array Value) (c : Mbr → Mbr → Int) (w : World) (h : SlAt w 2 MbrR A cap l) (hb : l.length ≤ 1000000) (anti : ∀ a b, c a b = - c b a) (hent : ∀ (args : Array Value) (w : World), (callFunc g args).run Tryz.prog w = .ok (.enter g args) w)
    (hp : ∀ w' (x y : Mbr), Aft w w' → Calls Tryz.prog g (#[.agg #[.string (x).role, .string (x).of], .agg #[.string (y).role, .string (y).of]] ++ caps) w' fun e w'' => e = .returned (.int .i64 (c x y)) ∧ Aft w' w'') :
    Calls Tryz.prog 203 #[.slice A l.length cap, .func (.func g) #[] caps] w fun e w' => e = .returned (.bool (risesB c l)) ∧ Aft w w' := by
  have hlen := h.len
  obtain ⟨W, hW⟩ : ∃ W, W = w.alloc (.cells #[.func (.func g) #[] caps] 210) := ⟨_, rfl⟩
  have aW : Aft w W := by rw [hW]; exact (Aft.refl w).alloc _
  have zW : W.heap.size = w.heap.size + 1 := by rw [hW]; simp
  have cW : W.cell? ⟨w.heap.size, 0, none⟩ = some (.func (.func g) #[] caps) := by rw [hW]; simp
  have C1 := Lib.hid (sortedM A cap l g caps c W (mbrs_aft aW h) hent fun w' a i hi => hp w' _ _ (aW.trans a))
  have HH := Lib.hid (And.intro h (And.intro hp (And.intro anti (And.intro aW cW))))
  have hent2 := enters (P := Tryz.prog) Tryz.func293 (by kernel_rfl) rfl
  have hsm := sm_mem h (P := fun x : Mbr => Small x.role.size ∧ Small x.of.size) (fun _ _ h => h.2)
  have HSM := Lib.hid hsm
  clear h hp anti aW hsm
  go_enter Tryz.func203, Tryz.ntmps203
  go_wp2_with fail
  rw [← hW]
  refine C1.out.mono ?_
  rintro e w1 ⟨b, rfl, hb1, a1⟩
  have HB := Lib.hid hb1
  have HA1 := Lib.hid a1
  have cW1 := a1.cell_kept cW
  clear hW hb1
  cases b
  · clear a1 cW1 cW
    go_wp2_with fail
    go_ret
    refine ⟨Eq.trans (b := .returned (.bool _)) rfl (ret_of (bool_of ?_)), HH.out.2.2.2.1.trans HA1.out⟩
    have := rises_two HH.out.2.2.1 l
    have h2 := HB.out
    simp_all
  · have C2 := Lib.hid (clone2Mem A cap l w1 w1 (Aft.refl _) (mbrs_aft (HH.out.2.2.2.1.trans a1) HH.out.1) hb)
    clear a1
    go_wp2_with fail
    refine C2.out.mono ?_
    rintro e w2 ⟨v, css, rfl, a2, ho, hch⟩
    rw [flat_mbrs hch] at ho
    obtain ⟨A2, cap2, hv⟩ := own_lit ho
    subst hv
    have cW2 := a2.cell_kept cW1
    have C3 := Lib.hid (compM (.slice A2 l.length cap2) l 293 #[.pointer (some ⟨w.heap.size, 0, none⟩)] (fun a b => decide (c a b = 0)) w1.heap.size w2 ho HSM.out.1 (own_cap ho) HSM.out.2 hent2 (fun w' kb x y => by
      have hnb : ¬ InV (.slice A2 l.length cap2) w.heap.size := not_in ho (by have := HA1.out.size; omega)
      have ha : Aft w w' := kb.to_aft ((HH.out.2.2.2.1.trans HA1.out).trans a2) (fun g hg => not_in ho (by have := HA1.out.size; omega))
      exact ris1M x y w.heap.size g caps c w' (kb.cell cW2 hnb) hent (fun w'' a => HH.out.2.1 w'' x y (ha.trans a))))
    have HK := Lib.hid (show ∀ w', Kb (InV (.slice A2 l.length cap2)) w2 w' → Aft w w' from fun w' kb => kb.to_aft ((HH.out.2.2.2.1.trans HA1.out).trans a2) (fun g hg => not_in ho (by have := HA1.out.size; omega)))
    clear a2 ho hch
    go_wp2_with fail
    refine C3.out.mono ?_
    rintro e w3 ⟨A3, m, c3, rfl, hm, kb⟩
    have HM := Lib.hid hm
    have HA3 := Lib.hid (HK.out w3 kb)
    clear hm kb
    go_wp2_with fail
    go_ret
    refine ⟨Eq.trans (b := .returned (.bool _)) rfl (ret_of (bool_of ?_)), HA3.out⟩
    have h1 := rises_two HH.out.2.2.1 l
    have h2 := HB.out.1 (by first | trivial | rfl)
    have h3 := HM.out
    by_cases e : m = l.length
    · rw [h1.2 ⟨h2, h3.1 e⟩]
      simp [e]
    · have : risesB c l = false := by
        rw [Bool.eq_false_iff]
        intro h
        exact e (h3.2 (h1.1 h).2)
      rw [this]
      simp; omega
end Go.Proofs.YtgkhmnamkfgciaaGreat

namespace Go.Proofs.YtgkhmnamkfgciaaGreat
open Go.RowKit
set_option maxRecDepth 100000
set_option linter.unusedVariables false
theorem eqS_comm (a b : ByteArray) : eqS a b = eqS b a := by
  unfold eqS; rw [Bool.eq_iff_iff]; simp; exact eq_comm
theorem eqS_trans {a b c : ByteArray} (h : eqS a b = true) (h2 : eqS b c = true) : eqS a c = true := by
  unfold eqS at *; simp at *; rw [h, h2]
set_option maxHeartbeats 1000000 in
theorem sidx_any (A : Option Addr) (cap : Nat) (l : List ByteArray) (name : ByteArray) (w : World) (h : SlAt w 1 StrR A cap l) :
    Calls Tryz.prog 85 #[.slice A l.length cap, .string name] w fun e w' => e = .returned (.int .i64 (idxP (fun c => eqS c name) l)) ∧ w = w' := by
  have hlen := h.len
  go_enter Tryz.func85, Tryz.ntmps85
  go_wp2_with fail
  go_loop [8] (fun i => ∃ k : Nat, k ≤ l.length ∧ i = .int .i64 k ∧ ∀ j, j < k → ∀ (hj : j < l.length), eqS l[j] name = false) (fun i => l.length - (intOf i).toNat)
  case atStart => exact ⟨0, Nat.zero_le _, rfl, fun j hj => absurd hj (Nat.not_lt_zero j)⟩
  case round =>
    obtain ⟨k, hk, rfl, hp⟩ := hrel
    have HP := Lib.hid hp; clear hp
    by_cases hlt : k < l.length
    · obtain ⟨b, off, rfl, hb, c0, hs⟩ := str_at h hlt
      cases heq : eqS l[k] name
      · have h2 : (name.toList == l[k].toList) = false := (eqS_comm _ _).trans heq
        have HN := Lib.hid (ext_lt (p := fun j => ∀ (hj : j < l.length), eqS l[j] name = false) HP.out (fun _ => heq))
        clear heq
        go_wp2_with fail
        go_round
        case rel => exact ⟨k + 1, by omega, by go_num, HN.out⟩
        case measure => simp [intOf]; omega
      · have h2 : (name.toList == l[k].toList) = true := (eqS_comm _ _).trans heq
        have HQ := Lib.hid heq
        clear heq
        go_wp2_with fail
        go_ret
        have heq := HQ.out
        exact ⟨by rw [idxP_some (fun c => eqS c name) l k hlt heq (fun i hi => HP.out i hi (by omega))]; rfl, rfl⟩
    · go_wp2_with fail
      go_ret
      exact ⟨by rw [idxP_none (fun c => eqS c name) l (fun i hi => HP.out i (by omega) hi)]; rfl, rfl⟩

theorem idxP_at {α : Type} (p : α → Bool) (l : List α) (q : Nat) (hq : q < l.length) (h : idxP p l = q) : p l[q] = true := by
  induction l generalizing q with
  | nil => simp at hq
  | cons x l ih =>
    simp only [idxP] at h
    by_cases hx : p x = true
    · rw [if_pos hx] at h
      have : q = 0 := by omega
      subst this; simpa using hx
    · rw [if_neg hx] at h
      by_cases hy : idxP p l < 0
      · rw [if_pos hy] at h; omega
      · rw [if_neg hy] at h
        cases q with
        | zero => omega
        | succ q => simpa using ih q (by simpa using hq) (by omega)
theorem all_false {α : Type} (p : α → Bool) (l : List α) (k : Nat) (hk : k < l.length) (h : p l[k] = false) : l.all p = false := by
  rw [Bool.eq_false_iff]; intro ha
  have := List.all_eq_true.1 ha l[k] (List.getElem_mem hk)
  rw [h] at this; cases this
theorem all_true {α : Type} (p : α → Bool) (l : List α) (h : ∀ k (hk : k < l.length), p l[k] = true) : l.all p = true := by
  rw [List.all_eq_true]; intro x hx
  obtain ⟨i, hi, rfl⟩ := List.getElem_of_mem hx
  exact h i hi
end Go.Proofs.YtgkhmnamkfgciaaGreat

namespace Go.Proofs.YtgkhmnamkfgciaaGreat
open Go.RowKit
set_option linter.unusedVariables false
def ltS (a b : ByteArray) : Bool := Op.bytesLess a.toList b.toList
theorem cmpB_lt : ∀ (a b : List UInt8), decide (Lib.compareBytes a b < 0) = Op.bytesLess a b
  | [], [] => rfl
  | [], _ :: _ => rfl
  | _ :: _, [] => rfl
  | x :: a, y :: b => by
    unfold Lib.compareBytes Op.bytesLess
    by_cases h : x < y
    · simp [h]
    · by_cases h2 : y < x
      · have h3 : ¬ x = y := fun e => by subst e; exact UInt8.lt_irrefl _ h2
        simp [h, h2, h3]
      · have h3 : x = y := UInt8.le_antisymm (UInt8.not_lt.1 h2) (UInt8.not_lt.1 h)
        subst h3
        have := cmpB_lt a b
        simp [UInt8.lt_irrefl, this]
theorem cmpB_eq : ∀ (a b : List UInt8), (Lib.compareBytes a b = 0) ↔ a = b
  | [], [] => by simp [Lib.compareBytes]
  | [], _ :: _ => by simp [Lib.compareBytes]
  | _ :: _, [] => by simp [Lib.compareBytes]
  | x :: a, y :: b => by
    unfold Lib.compareBytes
    by_cases h : x < y
    · have h3 : ¬ x = y := fun e => by subst e; exact UInt8.lt_irrefl _ h
      simp [h, h3]
    · by_cases h2 : y < x
      · have h3 : ¬ x = y := fun e => by subst e; exact UInt8.lt_irrefl _ h2
        simp [h, h2, h3]
      · have h3 : x = y := UInt8.le_antisymm (UInt8.not_lt.1 h2) (UInt8.not_lt.1 h)
        subst h3
        have := cmpB_eq a b
        simp [UInt8.lt_irrefl, this]
theorem cmpB_anti : ∀ (a b : List UInt8), Lib.compareBytes a b = - Lib.compareBytes b a
  | [], [] => rfl
  | [], _ :: _ => rfl
  | _ :: _, [] => rfl
  | x :: a, y :: b => by
    unfold Lib.compareBytes
    by_cases h : x < y
    · have h2 : ¬ y < x := UInt8.lt_asymm h
      simp [h, h2]
    · by_cases h2 : y < x
      · simp [h, h2]
      · simp [h, h2]; exact cmpB_anti a b
theorem cmpB_trans : ∀ (a b c : List UInt8), Lib.compareBytes a b < 0 → Lib.compareBytes b c < 0 → Lib.compareBytes a c < 0
  | [], [], c => fun h => by simp [Lib.compareBytes] at h
  | [], _ :: _, [] => fun _ h => by simp [Lib.compareBytes] at h
  | [], _ :: _, _ :: _ => fun _ _ => by simp [Lib.compareBytes]
  | _ :: _, [], c => fun h => by simp [Lib.compareBytes] at h
  | _ :: _, _ :: _, [] => fun _ h => by simp [Lib.compareBytes] at h
  | x :: a, y :: b, z :: c => by
    unfold Lib.compareBytes
    intro h1 h2
    by_cases xy : x < y
    · by_cases yz : y < z
      · have := UInt8.lt_trans xy yz; simp [this]
      · simp only [yz, if_false] at h2
        by_cases zy : z < y
        · simp [zy] at h2
        · have e : y = z := UInt8.le_antisymm (UInt8.not_lt.1 zy) (UInt8.not_lt.1 yz)
          subst e; simp [xy]
    · simp only [xy, if_false] at h1
      by_cases yx : y < x
      · simp [yx] at h1
      · have e : x = y := UInt8.le_antisymm (UInt8.not_lt.1 yx) (UInt8.not_lt.1 xy)
        subst e
        simp only [yx, if_false] at h1
        by_cases yz : x < z
        · simp [yz]
        · simp only [yz, if_false] at h2 ⊢
          by_cases zy : z < x
          · simp [zy] at h2
          · simp only [zy, if_false] at h2 ⊢
            exact cmpB_trans a b c h1 h2
theorem cmpS_lt (a b : ByteArray) : decide (cmpS a b < 0) = ltS a b := by
  unfold cmpS ltS
  rw [Lib.toList_data, Lib.toList_data]; exact cmpB_lt _ _
theorem cmpS_eq (a b : ByteArray) : (cmpS a b = 0) ↔ eqS a b = true := by
  unfold cmpS eqS
  rw [Lib.toList_data, Lib.toList_data, cmpB_eq]; simp
theorem cmpS_lt_iff (a b : ByteArray) : cmpS a b < 0 ↔ ltS a b = true := by rw [← cmpS_lt]; simp
theorem cmpS_anti (a b : ByteArray) : cmpS a b = - cmpS b a := cmpB_anti _ _
theorem cmpS_trans {a b c : ByteArray} (h1 : cmpS a b < 0) (h2 : cmpS b c < 0) : cmpS a c < 0 := cmpB_trans _ _ _ h1 h2
/-- the order of pairs: less, spelt as the document does -/
theorem or2_lt (a b c d : ByteArray) : decide (or2 (cmpS a b) (cmpS c d) < 0) = (!(!(ltS a b || eqS a b)) && !(eqS a b && !(ltS c d))) := by
  unfold or2
  by_cases h : cmpS a b = 0
  · have he := (cmpS_eq a b).1 h
    have hl : ltS a b = false := by rw [← cmpS_lt, h]; rfl
    simp only [h, beq_self_eq_true, if_true, he, hl]
    rw [← cmpS_lt c d]; simp
  · have he : eqS a b = false := by rw [Bool.eq_false_iff]; intro e; exact h ((cmpS_eq a b).2 e)
    have h' : (cmpS a b == 0) = false := beq_eq_false_iff_ne.2 h
    simp only [h', he]
    rw [← cmpS_lt a b]; simp
end Go.Proofs.YtgkhmnamkfgciaaGreat

namespace Go.Proofs.YtgkhmnamkfgciaaGreat
open Go.RowKit Go.Deep
set_option maxRecDepth 100000
set_option linter.unusedVariables false
theorem idxP_any8 {α : Type} (p : α → Bool) (l : List α) : decide (0 ≤ idxP p l) = l.any p := by
  induction l with
  | nil => rfl
  | cons x l ih =>
    rw [List.any_cons, ← ih]
    show decide (0 ≤ (if p x then (0 : Int) else if idxP p l < 0 then -1 else idxP p l + 1)) = _
    cases h : p x
    · simp only [Bool.false_or]
      by_cases h2 : idxP p l < 0
      · simp [h2]
      · simp [h2]; omega
    · simp
set_option maxHeartbeats 1000000 in
theorem scont8 (A : Option Addr) (cap : Nat) (l : List ByteArray) (name : ByteArray) (w : World) (h : SlAt w 1 StrR A cap l) :
    Calls Tryz.prog 54 #[.slice A l.length cap, .string name] w fun e w' => e = .returned (.bool (l.any fun c => eqS c name)) ∧ w = w' := by
  have C := Lib.hid (sidx_any A cap l name w h)
  have HE := Lib.hid (idxP_any8 (fun c => eqS c name) l)
  obtain ⟨i, hi⟩ : ∃ i, idxP (fun c => eqS c name) l = i := ⟨_, rfl⟩
  rw [hi] at C HE
  clear hi
  go_enter Tryz.func54, Tryz.ntmps54
  go_wp2_with fail
  refine C.out.mono ?_
  rintro e w1 ⟨rfl, rfl⟩
  go_wp2_with fail
  go_ret
  exact ⟨by rw [← HE.out]; rfl, rfl⟩
open Classical in
/-- can t be reached from s? -/
noncomputable def reachB (ms : List Mbr) (s t : ByteArray) : Bool := decide (Reach ms (txt s) (txt t))
def inB (l : List ByteArray) (s : ByteArray) : Bool := l.any fun c => eqS c s
noncomputable def mbrOk (r : Rls) (m : Mbr) : Bool := inB r.names m.role && inB r.names m.of && !reachB r.members m.of m.role
noncomputable def rightR (r : Rls) : Bool := decide (r.names.length ≤ 16) && decide (r.members.length ≤ 256) && risesB cmpS r.names && risesB cmpM r.members && (r.names.all nameB && r.members.all (mbrOk r))
theorem cmpM_anti (a b : Mbr) : cmpM a b = - cmpM b a := by
  unfold cmpM or2
  have h1 := cmpS_anti a.role b.role
  have h2 := cmpS_anti a.of b.of
  by_cases e : cmpS a.role b.role = 0
  · have e2 : cmpS b.role a.role = 0 := by omega
    simp [e, e2]; exact h2
  · have e2 : ¬ cmpS b.role a.role = 0 := by omega
    simp [e, e2]; exact h1
/-- seen(r, m.Of)[m.Role] > 0 -/
theorem saw_look {w w' : World} {ms : List Mbr} {s' : ByteArray} {bf : Nat} {c : Txt → Nat} {n : Nat} (M : MapF Tryz.prog 9 w bf n (.int .i64 0) (cntV c)) (a : Aft w w') (hc : ∀ s, 0 < c s ↔ Reach ms (txt s') s) (t : ByteArray) (ht : t.size ≤ maxLen) :
    (Instr.lookup 168 (.map (some bf)) (.string t) false).run Tryz.prog w' = .ok (.int .i64 (c (txt t))) w' ∧ decide ((0 : Int) < c (txt t)) = reachB ms s' t :=
  ⟨(M.aft a).look Tryz.underlying9 Tryz.underlying168 (zero_int w') t ht, by
    unfold reachB
    have := hc (txt t)
    by_cases h : Reach ms (txt s') (txt t)
    · simp [h, this.2 h]
    · have h2 : ¬ 0 < c (txt t) := fun h3 => h (this.1 h3)
      simp [h]; omega⟩
set_option maxHeartbeats 8000000 in
theorem right8 (r : Rls) (An : Option Addr) (capn : Nat) (Am : Option Addr) (capm : Nat) (w : World) (hn : SlAt w 1 StrR An capn r.names) (hm : SlAt w 2 MbrR Am capm r.members) :
    Calls Tryz.prog 129 #[.agg #[.slice An r.names.length capn, .slice Am r.members.length capm]] w fun e w' => e = .returned (.bool (rightR r)) ∧ Aft w w' := by
  have hlen := hn.len
  have hlen2 := hm.len
  have l1 : w.heap.size < w.heap.size + 1 := by omega
  by_cases h1 : r.names.length ≤ 16
  case neg =>
    have HF := Lib.hid (show rightR r = false by unfold rightR; simp [h1])
    have hi : (16 : Int) < (r.names.length : Int) := by omega
    go_enter Tryz.func129, Tryz.ntmps129
    go_wp2_with fail
    go_ret
    exact ⟨by rw [HF.out]; rfl, (Aft.refl _).alloc _⟩
  by_cases h2 : r.members.length ≤ 256
  case neg =>
    have HF := Lib.hid (show rightR r = false by unfold rightR; simp [h2])
    have hi : ¬ (16 : Int) < (r.names.length : Int) := by omega
    have hi2 : (256 : Int) < (r.members.length : Int) := by omega
    go_enter Tryz.func129, Tryz.ntmps129
    go_wp2_with fail
    go_ret
    exact ⟨by rw [HF.out]; rfl, (Aft.refl _).alloc _⟩
  have hi : ¬ (16 : Int) < (r.names.length : Int) := by omega
  have hi2 : ¬ (256 : Int) < (r.members.length : Int) := by omega
  obtain ⟨W, hW⟩ : ∃ W, W = w.alloc (.cells #[.slice An r.names.length capn, .slice Am r.members.length capm] 29) := ⟨_, rfl⟩
  have aW : Aft w W := by rw [hW]; exact (Aft.refl w).alloc _
  have r0 : ∀ w', Aft W w' → (w'.cell? ⟨w.heap.size, 0, none⟩ = some (.slice An r.names.length capn) ∧ w'.cell? ⟨w.heap.size, 1, none⟩ = some (.slice Am r.members.length capm) ∧ w.heap.size < w'.heap.size) := fun w' a => by
    rw [hW] at a
    obtain ⟨hb, _, hz, _, _⟩ := aft_box a
    exact ⟨by rw [hb]; rfl, by rw [hb]; rfl, hz.1⟩
  have hentC := enters (P := Tryz.prog) Tryz.func144 (by kernel_rfl) rfl
  have hentO := enters (P := Tryz.prog) Tryz.func204 (by kernel_rfl) rfl
  have C1 := Lib.hid (fun w' (a : Aft w w') => risingS An capn r.names 144 #[] cmpS w' (strs_aft a hn) (by omega) cmpS_anti hentC fun w'' x y _ => (compare_any x y w'').mono fun e w3 ⟨he, hw⟩ => ⟨he, hw ▸ Aft.refl _⟩)
  have C2 := Lib.hid (fun w' (a : Aft w w') => risingM Am capm r.members 204 #[] cmpM w' (mbrs_aft a hm) (by omega) cmpM_anti hentO fun w'' x y _ => order8 x y w'')
  obtain ⟨b1, hb1⟩ : ∃ b, risesB cmpS r.names = b := ⟨_, rfl⟩
  obtain ⟨b2, hb2⟩ : ∃ b, risesB cmpM r.members = b := ⟨_, rfl⟩
  rw [hb1] at C1
  rw [hb2] at C2
  have HRT := Lib.hid (show rightR r = (b1 && b2 && (r.names.all nameB && r.members.all (mbrOk r))) by unfold rightR; simp [h1, h2, hb1, hb2])
  have HR0 := Lib.hid r0
  have HAW := Lib.hid aW
  have HNM := Lib.hid (And.intro hn hm)
  clear hb1 hb2 r0 aW hn hm
  go_enter Tryz.func129, Tryz.ntmps129
  go_wp2_with fail
  rw [← hW]
  clear hW
  refine (C1.out W HAW.out).mono ?_
  rintro e w1 ⟨rfl, a1⟩
  have HA1 := Lib.hid a1
  obtain ⟨e0, e1, e2⟩ := HR0.out w1 a1
  clear a1
  cases b1
  · have HF := Lib.hid (show rightR r = false by rw [HRT.out]; rfl)
    go_wp2_with fail
    go_ret
    exact ⟨by rw [HF.out]; rfl, HAW.out.trans HA1.out⟩
  go_wp2_with fail
  refine (C2.out w1 (HAW.out.trans HA1.out)).mono ?_
  rintro e w2 ⟨rfl, a2⟩
  have HA2 := Lib.hid (HA1.out.trans a2)
  clear a2 e0 e1 e2
  obtain ⟨e0, e1, e2⟩ := HR0.out w2 HA2.out
  cases b2
  · have HF := Lib.hid (show rightR r = false by rw [HRT.out]; rfl)
    go_wp2_with fail
    go_ret
    exact ⟨by rw [HF.out]; rfl, HAW.out.trans HA2.out⟩
  go_wp2_with fail
  go_loopw [32] (fun i wr => ∃ k : Nat, k ≤ r.names.length ∧ i = .int .i64 k ∧ Aft W wr ∧ ∀ j, j < k → ∀ (hj : j < r.names.length), nameB r.names[j] = true) (fun i _ => r.names.length - (intOf i).toNat)
  case atStart => exact ⟨0, Nat.zero_le _, rfl, HA2.out, fun j hj => absurd hj (Nat.not_lt_zero j)⟩
  case round =>
    clear e0 e1 e2
    obtain ⟨k, hk, rfl, ha, hp⟩ := hrel
    have HA := Lib.hid ha
    have HP := Lib.hid hp
    obtain ⟨e0, e1, e2⟩ := HR0.out wr ha
    clear ha hp
    by_cases hlt : k < r.names.length
    · obtain ⟨b, off, rfl, hb, c0, hs⟩ := str_at (strs_aft (HAW.out.trans HA.out) HNM.out.1) hlt
      obtain ⟨x, hx⟩ : ∃ x, r.names[k] = x := ⟨_, rfl⟩
      rw [hx] at c0 hs
      obtain ⟨q, hq⟩ : ∃ q, nameB x = q := ⟨_, rfl⟩
      have HQ := Lib.hid (show nameB r.names[k] = q by rw [hx]; exact hq)
      have CN := Lib.hid (hq ▸ name_any x wr hs.max)
      clear hx hq
      go_wp2_with fail
      refine CN.out.mono ?_
      rintro e w3 ⟨rfl, rfl⟩
      cases q
      · have HF := Lib.hid (show rightR r = false by rw [HRT.out, all_false _ _ k hlt HQ.out]; rfl)
        go_wp2_with fail
        go_ret
        exact ⟨by rw [HF.out]; rfl, HAW.out.trans HA.out⟩
      · go_wp2_with fail
        go_roundw
        case rel => exact ⟨k + 1, by omega, by go_num, HA.out, ext_lt (p := fun j => ∀ (hj : j < r.names.length), nameB r.names[j] = true) HP.out (fun _ => HQ.out)⟩
        case measure => simp [intOf]; omega
    · have HN := Lib.hid (show r.names.all nameB = true from all_true _ _ fun j hj => HP.out j (by omega) hj)
      go_wp2_with fail
      go_loopw [43] (fun i wr => ∃ k : Nat, k ≤ r.members.length ∧ i = .int .i64 k ∧ Aft W wr ∧ ∀ j, j < k → ∀ (hj : j < r.members.length), mbrOk r r.members[j] = true) (fun i _ => r.members.length - (intOf i).toNat)
      case atStart => exact ⟨0, Nat.zero_le _, rfl, HA.out, fun j hj => absurd hj (Nat.not_lt_zero j)⟩
      case round =>
        clear e0 e1 e2
        obtain ⟨k, hk, rfl, ha, hp⟩ := hrel
        have HA := Lib.hid ha
        have HP := Lib.hid hp
        obtain ⟨e0, e1, e2⟩ := HR0.out wr ha
        clear ha hp
        by_cases hlt : k < r.members.length
        · obtain ⟨b, off, rfl, hb, t0, t1, hs1, hs2⟩ := mbr_at (mbrs_aft (HAW.out.trans HA.out) HNM.out.2) hlt
          obtain ⟨m, hmm⟩ : ∃ m, r.members[k] = m := ⟨_, rfl⟩
          rw [hmm] at t0 t1 hs1 hs2
          obtain ⟨X, hX⟩ : ∃ X, X = wr.alloc (.cells #[.string m.role, .string m.of] 142) := ⟨_, rfl⟩
          have aX : Aft wr X := by rw [hX]; exact (Aft.refl _).alloc _
          have x0 : X.cell? ⟨wr.heap.size, 0, none⟩ = some (.string m.role) := by rw [hX]; simp
          have x1 : X.cell? ⟨wr.heap.size, 1, none⟩ = some (.string m.of) := by rw [hX]; simp
          have x2 : wr.heap.size < X.heap.size := by rw [hX]; simp
          have x3 : w.heap.size < X.heap.size := by omega
          have x4 := aX.cell_kept e0
          have x5 := aX.cell_kept e1
          have HWX := Lib.hid ((HAW.out.trans HA.out).trans aX)
          have HWX2 := Lib.hid (HA.out.trans aX)
          have HMM := Lib.hid hmm
          obtain ⟨i1, hi1⟩ : ∃ i, inB r.names m.role = i := ⟨_, rfl⟩
          obtain ⟨i2, hi2'⟩ : ∃ i, inB r.names m.of = i := ⟨_, rfl⟩
          have K1 := Lib.hid (show ∀ w', Aft X w' → Calls Tryz.prog 54 #[.slice An r.names.length capn, .string m.role] w' fun e w'' => e = .returned (.bool i1) ∧ w' = w'' from fun w' a => hi1 ▸ scont8 An capn r.names m.role w' (strs_aft (HWX.out.trans a) HNM.out.1))
          have K2 := Lib.hid (show ∀ w', Aft X w' → Calls Tryz.prog 54 #[.slice An r.names.length capn, .string m.of] w' fun e w'' => e = .returned (.bool i2) ∧ w' = w'' from fun w' a => hi2' ▸ scont8 An capn r.names m.of w' (strs_aft (HWX.out.trans a) HNM.out.1))
          have K3 := Lib.hid (show ∀ w', Aft X w' → Calls Tryz.prog 130 #[.agg #[.slice An r.names.length capn, .slice (some ⟨b, off, none⟩) r.members.length capm], .string m.of] w' (SawP w' r.members m.of) from fun w' a => seen_in r An capn _ capm m.of w' (mbrs_aft (HWX.out.trans a) HNM.out.2) hs2)
          have HOK := Lib.hid (show mbrOk r r.members[k] = (i1 && i2 && !reachB r.members m.of m.role) by unfold mbrOk; rw [hmm, hi1, hi2'])
          have KS := Lib.hid (show ∀ w', Aft X w' → (Aft X w' ∧ w'.cell? ⟨w.heap.size, 0, none⟩ = some (.slice An r.names.length capn) ∧ w'.cell? ⟨w.heap.size, 1, none⟩ = some (.slice (some ⟨b, off, none⟩) r.members.length capm) ∧ w'.cell? ⟨wr.heap.size, 0, none⟩ = some (.string m.role) ∧ w'.cell? ⟨wr.heap.size, 1, none⟩ = some (.string m.of)) from fun w' a => ⟨a, a.cell_kept x4, a.cell_kept x5, a.cell_kept x0, a.cell_kept x1⟩)
          clear hmm hi1 hi2' aX
          cases i1
          · have HF := Lib.hid (show rightR r = false by rw [HRT.out, all_false (mbrOk r) r.members k hlt (by rw [HOK.out]; rfl)]; simp)
            go_wp2_with fail
            rw [← hX]
            clear hX
            refine wp_region_lat (by kernel_rfl) (by kernel_rfl) ?_
            repeat (go_big_quiet_step ((go_at_call 54; exact Calls.lat_of ((K1.out _ ((Aft.refl X).lat _)).mono fun e w'' ⟨he, hw⟩ => ⟨he, hw ▸ Aft.refl _⟩))))
            refine wpQuiet_nil ?_
            intro _ hw'
            obtain ⟨y, hw''⟩ := hw'
            subst hw''
            go_wp2_with fail
            go_ret
            exact ⟨by rw [HF.out]; rfl, HWX.out.lat y⟩
          cases i2
          · have HF := Lib.hid (show rightR r = false by rw [HRT.out, all_false (mbrOk r) r.members k hlt (by rw [HOK.out]; rfl)]; simp)
            go_wp2_with fail
            rw [← hX]
            clear hX
            refine wp_region_lat (by kernel_rfl) (by kernel_rfl) ?_
            repeat (go_big_quiet_step ((go_at_call 54; first | exact Calls.lat_of ((K1.out _ ((Aft.refl X).lat _)).mono fun e w'' ⟨he, hw⟩ => ⟨he, hw ▸ Aft.refl _⟩) | exact Calls.lat_of ((K2.out _ ((Aft.refl X).lat _)).mono fun e w'' ⟨he, hw⟩ => ⟨he, hw ▸ Aft.refl _⟩))))
            refine wpQuiet_nil ?_
            intro _ hw'
            obtain ⟨y, hw''⟩ := hw'
            subst hw''
            go_wp2_with fail
            go_ret
            exact ⟨by rw [HF.out]; rfl, HWX.out.lat y⟩
          go_wp2_with fail
          rw [← hX]
          clear hX
          go_region_held3 (fun w' => Aft X w' ∧ w'.cell? ⟨w.heap.size, 0, none⟩ = some (.slice An r.names.length capn) ∧ w'.cell? ⟨w.heap.size, 1, none⟩ = some (.slice (some ⟨b, off, none⟩) r.members.length capm) ∧ w'.cell? ⟨wr.heap.size, 0, none⟩ = some (.string m.role) ∧ w'.cell? ⟨wr.heap.size, 1, none⟩ = some (.string m.of))
            (first | exact KS.out _ (Aft.refl _).drew | exact KS.out _ (And.left (by assumption)) | exact KS.out _ (Aft.trans (And.left (by assumption : Aft X _ ∧ _)) (by assumption)))
            ((first | (go_at_call 54; first | (refine (K1.out _ (And.left (by assumption : Aft X _ ∧ _))).mono ?_; rintro e w4 ⟨rfl, rfl⟩) | (refine (K2.out _ (And.left (by assumption : Aft X _ ∧ _))).mono ?_; rintro e w4 ⟨rfl, rfl⟩)) | (go_at_call 130; refine (K3.out _ (And.left (by assumption : Aft X _ ∧ _))).mono ?_; rintro e w5 ⟨bf, rfl, a5, c5, n5, M5, bd5, hr5⟩; have LK := (saw_look M5 (Aft.refl _) hr5 m.role hs1.max).1; have RR := Lib.hid (saw_look M5 (Aft.refl _) hr5 m.role hs1.max).2; have BB := bd5 (txt m.role))))
          have HAX := Lib.hid (And.left (by assumption : Aft X w5 ∧ _))
          have HRR := RR
          clear M5 bd5 hr5 LK RR a5
          by_cases h5 : 0 < c5 (txt m.role)
          · have h5i : (0 : Int) < ((c5 (txt m.role) : Nat) : Int) := by omega
            have HF := Lib.hid (show rightR r = false by rw [HRT.out, all_false (mbrOk r) r.members k hlt (by rw [HOK.out, ← HRR.out]; simp [h5])]; simp)
            go_wp2_with fail
            go_ret
            exact ⟨by rw [HF.out]; rfl, HWX.out.trans HAX.out⟩
          · have h5i : ¬ (0 : Int) < ((c5 (txt m.role) : Nat) : Int) := by omega
            have HT := Lib.hid (show mbrOk r r.members[k] = true by rw [HOK.out, ← HRR.out]; simp [h5])
            go_wp2_with fail
            go_roundw
            case rel => exact ⟨k + 1, by omega, by go_num, HWX2.out.trans HAX.out, ext_lt (p := fun j => ∀ (hj : j < r.members.length), mbrOk r r.members[j] = true) HP.out (fun _ => HT.out)⟩
            case measure => simp [intOf]; omega
        · have HF := Lib.hid (show rightR r = true by rw [HRT.out, HN.out, all_true _ _ fun j hj => HP.out j (by omega) hj]; rfl)
          go_wp2_with fail
          go_ret
          exact ⟨by rw [HF.out]; rfl, HAW.out.trans HA.out⟩
set_option maxHeartbeats 1000000 in
theorem check8 (r : Rls) (An : Option Addr) (capn : Nat) (Am : Option Addr) (capm : Nat) (w : World) (hn : SlAt w 1 StrR An capn r.names) (hm : SlAt w 2 MbrR Am capm r.members) :
    Calls Tryz.prog 169 #[.agg #[.slice An r.names.length capn, .slice Am r.members.length capm]] w fun e w' => e = .returned (.int .i64 (if rightR r then 0 else 1)) ∧ Aft w w' := by
  obtain ⟨q, hq⟩ : ∃ q, rightR r = q := ⟨_, rfl⟩
  have C := Lib.hid (fun w' (a : Aft w w') => hq ▸ right8 r An capn Am capm w' (strs_aft a hn) (mbrs_aft a hm))
  rw [hq]
  clear hq
  go_enter Tryz.func169, Tryz.ntmps169
  go_wp2_with fail
  refine (C.out _ ((Aft.refl w).alloc _)).mono ?_
  rintro e w1 ⟨rfl, a1⟩
  have HA := Lib.hid (((Aft.refl w).alloc _).trans a1)
  clear a1
  cases q
  all_goals
    go_wp2_with fail
    go_ret
    exact ⟨rfl, HA.out⟩
end Go.Proofs.YtgkhmnamkfgciaaGreat

namespace Go.Proofs.YtgkhmnamkfgciaaGreat
open Go.RowKit
set_option linter.unusedVariables false
theorem eqS_txt (a b : ByteArray) : eqS a b = true ↔ txt a = txt b := by
  unfold txt
  rw [← cmpS_eq]
  exact cmpB_eq _ _
theorem inB_iff (S : List ByteArray) (s : ByteArray) : inB S s = true ↔ txt s ∈ S.map txt := by
  unfold inB
  rw [List.any_eq_true, List.mem_map]
  exact ⟨fun ⟨x, hx, h⟩ => ⟨x, hx, (eqS_txt _ _).1 h⟩, fun ⟨x, hx, h⟩ => ⟨x, hx, (eqS_txt _ _).2 h⟩⟩
/-- what is found so far: no two alike, all reached -/
structure Fnd (ms : List Mbr) (role : ByteArray) (S : List ByteArray) : Prop where
  nd : (S.map txt).Nodup
  has : txt role ∈ S.map txt
  sub : ∀ t ∈ S.map txt, t ∈ txt role :: ms.map fun m => txt m.of
  rch : ∀ t ∈ S.map txt, Reach ms (txt role) t
theorem Fnd.start (ms : List Mbr) (role : ByteArray) : Fnd ms role [role] := ⟨by simp, by simp, by simp, fun t ht => by simp at ht; subst ht; exact .refl _⟩
theorem Fnd.add {ms : List Mbr} {role : ByteArray} {S : List ByteArray} (h : Fnd ms role S) {m : Mbr} (hm : m ∈ ms) (h1 : inB S m.role = true) (h2 : inB S m.of = false) : Fnd ms role (S ++ [m.of]) := by
  have h3 : txt m.of ∉ S.map txt := fun h => by rw [← inB_iff] at h; rw [h] at h2; cases h2
  have h4 := (inB_iff _ _).1 h1
  refine ⟨?_, ?_, ?_, ?_⟩
  · rw [List.map_append, List.nodup_append]
    exact ⟨h.nd, by simp, fun a ha b hb e => by simp at hb; subst hb; subst e; exact h3 ha⟩
  · rw [List.map_append]; exact List.mem_append.2 (.inl h.has)
  · intro t ht
    rw [List.map_append, List.mem_append] at ht
    rcases ht with ht | ht
    · exact h.sub t ht
    · simp at ht; subst ht
      exact List.mem_cons.2 (.inr (List.mem_map.2 ⟨m, hm, rfl⟩))
  · intro t ht
    rw [List.map_append, List.mem_append] at ht
    rcases ht with ht | ht
    · exact h.rch t ht
    · simp at ht; subst ht
      refine .step (x := m.of) (h.rch _ h4) ?_ rfl
      unfold succ
      exact List.mem_map.2 ⟨m, List.mem_filter.2 ⟨hm, by simp⟩, rfl⟩
/-- closed: what is found is what is reached -/
theorem Fnd.all {ms : List Mbr} {role : ByteArray} {S : List ByteArray} (h : Fnd ms role S) (hc : ∀ m ∈ ms, inB S m.role = true → inB S m.of = true) (t : ByteArray) : inB S t = reachB ms role t := by
  have key : txt t ∈ S.map txt ↔ Reach ms (txt role) (txt t) := by
    refine ⟨h.rch _, fun hr => hr.closed (fun u => u ∈ S.map txt) h.has fun u hu x hx => ?_⟩
    unfold succ at hx
    obtain ⟨m, hm, rfl⟩ := List.mem_map.1 hx
    obtain ⟨hm, he⟩ := List.mem_filter.1 hm
    have he : txt m.role = u := by simpa using he
    exact (inB_iff _ _).1 (hc m hm ((inB_iff _ _).2 (by rw [he]; exact hu)))
  unfold reachB
  by_cases hr : Reach ms (txt role) (txt t)
  · simp only [hr, decide_true]
    exact (inB_iff _ _).2 (key.2 hr)
  · simp only [hr, decide_false]
    rw [Bool.eq_false_iff]
    exact fun e => hr (key.1 ((inB_iff _ _).1 e))
theorem nodup_le {α : Type} [DecidableEq α] : ∀ {l l' : List α}, l.Nodup → (∀ x ∈ l, x ∈ l') → l.length ≤ l'.length
  | [], l', _, _ => Nat.zero_le _
  | a :: l, l', hn, hs => by
    rw [List.nodup_cons] at hn
    have h1 : a ∈ l' := hs a (by simp)
    have h2 := nodup_le (l := l) (l' := l'.erase a) hn.2 fun x hx => (List.mem_erase_of_ne (by intro e; subst e; exact hn.1 hx)).2 (hs x (by simp [hx]))
    have h3 := List.length_erase_of_mem h1
    have h4 := List.length_pos_of_mem h1
    simp only [List.length_cons]
    omega
theorem Fnd.len {ms : List Mbr} {role : ByteArray} {S : List ByteArray} (h : Fnd ms role S) : S.length ≤ ms.length + 1 := by
  have := nodup_le h.nd h.sub
  simpa using this
end Go.Proofs.YtgkhmnamkfgciaaGreat

namespace Go.Proofs.YtgkhmnamkfgciaaGreat
open Go.RowKit Go.Deep
set_option maxRecDepth 100000
set_option linter.unusedVariables false
/-- roles in rows of our own -/
structure RolIn (w : World) (B : Nat) (hn hm : Hd) (r : Rls) : Prop where
  nam : w.ownsRow B 9 1 hn.v r.names.length (r.names.flatMap nameC)
  mem : w.ownsRow B 142 2 hm.v r.members.length (r.members.flatMap mbrC)
  dis : ∀ g ∈ hn.blk, g ∉ hm.blk
/-- all that roles hold is short -/
def SmRl (r : Rls) : Prop := (Small (r.names.length * 16) ∧ ∀ x ∈ r.names, Small x.size) ∧ (Small (r.members.length * 16) ∧ ∀ m ∈ r.members, Small m.role.size ∧ Small m.of.size)
theorem sm_rls {w : World} {r : Rls} {An Am : Option Addr} {capn capm : Nat} (hn : SlAt w 1 StrR An capn r.names) (hm : SlAt w 2 MbrR Am capm r.members) : SmRl r := ⟨sm_names hn, sm_mem hm fun _ _ h => h.2⟩
theorem RolIn.names {w : World} {B : Nat} {hn hm : Hd} {r : Rls} (h : RolIn w B hn hm r) (sm : SmRl r) : SlAt w 1 StrR hn.a hn.c r.names := own_slf nameC h.nam (fun x hx => ⟨rfl, rfl, sm.1.2 x hx⟩) sm.1.1
theorem RolIn.mbrs {w : World} {B : Nat} {hn hm : Hd} {r : Rls} (h : RolIn w B hn hm r) (sm : SmRl r) : SlAt w 2 MbrR hm.a hm.c r.members := own_slf mbrC h.mem (fun x hx => ⟨rfl, rfl, sm.2.2 x hx⟩) sm.2.1
theorem RolIn.aft {w w' : World} {B : Nat} {hn hm : Hd} {r : Rls} (h : RolIn w B hn hm r) (a : Aft w w') : RolIn w' B hn hm r := ⟨own_aft h.nam a, own_aft h.mem a, h.dis⟩
theorem RolIn.down {w : World} {B B' : Nat} {hn hm : Hd} {r : Rls} (h : RolIn w B hn hm r) (hb : B' ≤ B) : RolIn w B' hn hm r := ⟨own_down h.nam hb, own_down h.mem hb, h.dis⟩
theorem reachB_refl (ms : List Mbr) (s : ByteArray) : reachB ms s s = true := by
  unfold reachB
  simp only [decide_eq_true_eq]
  exact .refl _
end Go.Proofs.YtgkhmnamkfgciaaGreat

namespace Go.Proofs.YtgkhmnamkfgciaaGreat
open Go.RowKit Go.Deep
set_option maxRecDepth 100000
set_option linter.unusedVariables false
set_option maxHeartbeats 1000000 in
theorem idxStr (A : Option Addr) (cap : Nat) (l : List ByteArray) (g : FuncId) (caps : Array Value) (p : ByteArray → Bool) (w : World) (h : SlAt w 1 StrR A cap l) (hent : ∀ (args : Array Value) (w : World), (callFunc g args).run Tryz.prog w = .ok (.enter g args) w)
    (hp : ∀ w', Aft w w' → ∀ i (hi : i < l.length), Calls Tryz.prog g (#[.string l[i]] ++ caps) w' fun e w'' => e = .returned (.bool (p l[i])) ∧ Aft w' w'') :
    Calls Tryz.prog 206 #[.slice A l.length cap, .func (.func g) #[] caps] w fun e w' => e = .returned (.int .i64 (idxP p l)) ∧ Aft w w' := by
  have hlen := h.len
  have HC := Lib.hid hp
  clear hp
  go_enter Tryz.func206, Tryz.ntmps206
  go_wp2_with fail
  go_loopw [8] (fun i wr => ∃ k : Nat, k ≤ l.length ∧ i = .int .i64 k ∧ Aft w wr ∧ ∀ j, j < k → ∀ (hj : j < l.length), p l[j] = false) (fun i _ => l.length - (intOf i).toNat)
  case atStart => exact ⟨0, Nat.zero_le _, rfl, Aft.refl _, fun j hj => absurd hj (Nat.not_lt_zero j)⟩
  case round =>
    obtain ⟨k, hk, rfl, ha, hp⟩ := hrel
    have HA := Lib.hid ha
    have HP := Lib.hid hp; clear hp
    by_cases hlt : k < l.length
    · have hsl := strs_aft ha h
      clear ha
      obtain ⟨b, off, rfl, hb, c0, hs⟩ := str_at hsl hlt
      have HK := Lib.hid (HC.out wr HA.out k hlt)
      clear hsl
      obtain ⟨q, hq⟩ : ∃ q, p l[k] = q := ⟨_, rfl⟩
      rw [hq] at HK
      have HQ := Lib.hid hq
      clear hq
      cases q
      · go_wp2_with fail
        refine HK.out.mono ?_
        rintro e w1 ⟨rfl, a1⟩
        have HA1 := Lib.hid (HA.out.trans a1)
        clear a1
        go_wp2_with fail
        go_roundw
        case rel => exact ⟨k + 1, by omega, by go_num, HA1.out, ext_lt (p := fun j => ∀ (hj : j < l.length), p l[j] = false) HP.out (fun _ => HQ.out)⟩
        case measure => simp [intOf]; omega
      · go_wp2_with fail
        refine HK.out.mono ?_
        rintro e w1 ⟨rfl, a1⟩
        have HA1 := Lib.hid (HA.out.trans a1)
        clear a1
        go_wp2_with fail
        go_ret
        exact ⟨by rw [idxP_some p l k hlt HQ.out (fun i hi => HP.out i hi (by omega))]; rfl, HA1.out⟩
    · clear ha
      go_wp2_with fail
      go_ret
      exact ⟨by rw [idxP_none p l (fun i hi => HP.out i (by omega) hi)]; rfl, HA.out⟩
theorem idxP_any8' {α : Type} (p : α → Bool) (l : List α) : decide (0 ≤ idxP p l) = l.any p := by
  induction l with
  | nil => rfl
  | cons x l ih =>
    rw [List.any_cons, ← ih]
    show decide (0 ≤ (if p x then (0 : Int) else if idxP p l < 0 then -1 else idxP p l + 1)) = _
    cases h : p x
    · simp only [Bool.false_or]
      by_cases h2 : idxP p l < 0
      · simp [h2]
      · simp [h2]; omega
    · simp

/-- what is left of l, in the same row -/
def DelFP (l : List ByteArray) (q : ByteArray → Bool) (v : Value) (B : Nat) (w : World) (e : Ending) (w' : World) : Prop :=
  ∃ h : Hd, e = .returned h.v ∧ w'.ownsRow B 9 1 h.v (l.filter fun x => !q x).length ((l.filter fun x => !q x).flatMap nameC) ∧ Kb (InV v) w w' ∧ ∀ g ∈ h.blk, v.ownBlock = some g
theorem filter_all_keep {α : Type} (q : α → Bool) (l : List α) (h : ∀ i (hi : i < l.length), q l[i] = false) : (l.filter fun x => !q x) = l := by
  rw [List.filter_eq_self]
  intro x hx
  obtain ⟨i, hi, rfl⟩ := List.getElem_of_mem hx
  rw [h i hi]; rfl
theorem idxP_neg {α : Type} (p : α → Bool) (l : List α) (h : idxP p l < 0) : ∀ i (hi : i < l.length), p l[i] = false := by
  intro i hi
  have := idxP_any8' p l
  have h0 : decide (0 ≤ idxP p l) = false := decide_eq_false (by omega)
  rw [h0] at this
  rw [Bool.eq_false_iff]
  intro hp
  have h2 : l.any p = true := List.any_eq_true.2 ⟨l[i], List.getElem_mem hi, hp⟩
  rw [h2] at this
  cases this
theorem idxP_first {α : Type} (p : α → Bool) : ∀ (l : List α) (k : Nat), idxP p l = k → ∀ i (hi : i < l.length), i < k → p l[i] = false
  | [], k, h, i, hi, _ => by simp at hi
  | x :: l, k, h, i, hi, hik => by
    have e : idxP p (x :: l) = (if p x then (0 : Int) else if idxP p l < 0 then -1 else idxP p l + 1) := rfl
    rw [e] at h
    cases hx : p x
    · rw [hx] at h
      simp only [Bool.false_eq_true, if_false] at h
      by_cases hn : idxP p l < 0
      · rw [if_pos hn] at h; omega
      · rw [if_neg hn] at h
        cases i with
        | zero => simpa using hx
        | succ i =>
          have := idxP_first p l (k - 1) (by omega) i (by simpa using hi) (by omega)
          simpa using this
    · rw [hx] at h
      simp only [if_true] at h
      omega
/-- the row halfway: i are kept of the first j, from j on it is as it was -/
structure DelI (q : ByteArray → Bool) (l l' : List ByteArray) (i j : Nat) : Prop where
  len : l'.length = l.length
  kept : l'.take i = (l.take j).filter fun x => !q x
  rest : l'.drop j = l.drop j
  ij : i < j
  jl : j ≤ l.length
theorem DelI.start {q : ByteArray → Bool} {l : List ByteArray} {i : Nat} (hi : i < l.length) (hq : q l[i] = true) (hf : ∀ k (hk : k < l.length), k < i → q l[k] = false) : DelI q l l i (i + 1) := by
  refine ⟨rfl, ?_, rfl, by omega, by omega⟩
  rw [List.take_succ_eq_append_getElem hi, List.filter_append, filter_all_keep q (l.take i) (fun k hk => by rw [List.getElem_take]; exact hf k (by rw [List.length_take] at hk; omega) (by rw [List.length_take] at hk; omega))]
  simp [hq]
theorem DelI.get {q : ByteArray → Bool} {l l' : List ByteArray} {i j : Nat} (h : DelI q l l' i j) (hj : j < l.length) : l'[j]'(by rw [h.len]; exact hj) = l[j] := by
  have h1 := congrArg (fun x => x[0]?) h.rest
  simp only [List.getElem?_drop, Nat.add_zero] at h1
  rw [List.getElem?_eq_getElem (by rw [h.len]; exact hj), List.getElem?_eq_getElem hj] at h1
  exact Option.some.inj h1
theorem DelI.skip {q : ByteArray → Bool} {l l' : List ByteArray} {i j : Nat} (h : DelI q l l' i j) (hj : j < l.length) (hq : q l[j] = true) : DelI q l l' i (j + 1) := by
  refine ⟨h.len, ?_, ?_, by have := h.ij; omega, by omega⟩
  · rw [List.take_succ_eq_append_getElem hj, List.filter_append, ← h.kept]
    simp [hq]
  · have := congrArg (List.drop 1) h.rest
    simpa [List.drop_drop] using this
theorem DelI.keep {q : ByteArray → Bool} {l l' : List ByteArray} {i j : Nat} (h : DelI q l l' i j) (hj : j < l.length) (hq : q l[j] = false) : DelI q l (l'.set i l[j]) (i + 1) (j + 1) := by
  have hij := h.ij
  have hl := h.len
  refine ⟨by rw [List.length_set]; exact h.len, ?_, ?_, by omega, by omega⟩
  · rw [List.take_succ_eq_append_getElem hj, List.filter_append, ← h.kept, List.take_succ_eq_append_getElem (by rw [List.length_set]; omega), List.take_set_of_le (Nat.le_refl _)]
    simp [hq]
  · rw [List.drop_set_of_lt (by omega)]
    have := congrArg (List.drop 1) h.rest
    simpa [List.drop_drop] using this
set_option maxHeartbeats 8000000 in
theorem delFS (v : Value) (l : List ByteArray) (g : FuncId) (caps : Array Value) (q : ByteArray → Bool) (B : Nat) (w : World) (ho : w.ownsRow B 9 1 v l.length (l.flatMap nameC)) (hs : Small (l.length * 16)) (hcap : ∀ A n c, v = .slice A n c → c ≤ 9223372036854775807) (sm : ∀ x ∈ l, Small x.size) (hent : ∀ (args : Array Value) (w : World), (callFunc g args).run Tryz.prog w = .ok (.enter g args) w)
    (hq : ∀ w', Kb (InV v) w w' → ∀ x : ByteArray, Small x.size → Calls Tryz.prog g (#[.string x] ++ caps) w' fun e w'' => e = .returned (.bool (q x)) ∧ Aft w' w'') :
    Calls Tryz.prog 131 #[v, .func (.func g) #[] caps] w (DelFP l q v B w) := by
  have hlen : l.length * 16 ≤ 140737488351232 := hs
  obtain ⟨hd, rfl, hdn⟩ := own_head ho
  obtain ⟨A, n, cap⟩ := hd
  have hdn : n = l.length := hdn
  subst hdn
  show Calls Tryz.prog 131 #[.slice A l.length cap, .func (.func g) #[] caps] w (DelFP l q (.slice A l.length cap) B w)
  have hsl : SlAt w 1 StrR A cap l := own_slf (h := ⟨A, l.length, cap⟩) nameC ho (fun x hx => ⟨rfl, rfl, sm x hx⟩) hs
  obtain ⟨k, hk⟩ : ∃ k, idxP q l = k := ⟨_, rfl⟩
  have C := Lib.hid (hk ▸ idxStr A cap l g caps q w hsl hent (fun w' a i hi => hq w' (Kb.of_aft a) l[i] (sm _ (List.getElem_mem hi))))
  have hkr := idxP_range q l
  rw [hk] at hkr
  by_cases hk0 : k < 0
  · have hk1 : k = -1 := by omega
    have HF := Lib.hid (show (l.filter fun x => !q x) = l from filter_all_keep q l (idxP_neg q l (by rw [hk]; exact hk0)))
    subst hk1
    have HO := Lib.hid ho
    clear hk hkr hsl hq sm ho hcap hk0
    go_enter Tryz.func131, Tryz.ntmps131
    go_wp2_with fail
    refine C.out.mono ?_
    rintro e w1 ⟨rfl, a1⟩
    have HA := Lib.hid a1
    clear a1
    go_wp2_with fail
    go_ret
    refine ⟨⟨A, l.length, cap⟩, rfl, ?_, Kb.of_aft HA.out, fun g hg => Hd.mem_blk.1 hg⟩
    rw [HF.out]
    exact own_aft HO.out HA.out
  obtain ⟨i, rfl⟩ : ∃ i : Nat, k = i := ⟨k.toNat, by omega⟩
  have hil : i < l.length := by omega
  have hqi := idxP_at q l i hil hk
  have hst := DelI.start hil hqi (fun j hj hji => idxP_first q l i hk j hj hji)
  obtain ⟨g0, cap', hv, hgB, hnc, hr⟩ := own_rowAt ho (by omega)
  have hv : A = some ⟨g0, 0, none⟩ ∧ cap = cap' := by
    have : Value.slice A l.length cap = Value.slice (some ⟨g0, 0, none⟩) l.length cap' := hv
    simp only [Value.slice.injEq, true_and] at this
    exact this
  obtain ⟨rfl, rfl⟩ := hv
  have hcap := hcap _ _ _ rfl
  have hI : CompI 9 1 nameC (fun x : ByteArray => Small x.size) w w B g0 cap l.length l := ⟨ho, rfl, sm, Kb.refl _ _⟩
  have kin : ∀ w1 w2 : World, Kb (fun k => k = g0) w1 w2 → Kb (InV (.slice (some ⟨g0, 0, none⟩) l.length cap)) w1 w2 := fun w1 w2 k => k.mono fun g _ e => by subst e; rfl
  have HQ := Lib.hid (show ∀ w', Kb (fun k => k = g0) w w' → _ from fun w' k => hq w' (kin _ _ k))
  have HI := Lib.hid hI
  have HST := Lib.hid hst
  have hki : ((i : Int) == -1) = false := by rw [beq_eq_false_iff_ne]; omega
  clear hq hI ho hr sm hk hkr hst hsl hk0 hqi
  go_enter Tryz.func131, Tryz.ntmps131
  go_wp2_with fail
  refine C.out.mono ?_
  rintro e w1 ⟨rfl, a1⟩
  have HA := Lib.hid a1
  clear a1
  go_wp2_with fail
  go_loopw [5, 6] (fun u5 u6 wr => ∃ (m j : Nat) (l' : List ByteArray), u5 = .int .i64 m ∧ u6 = .int .i64 j ∧ DelI q l l' m j ∧ CompI 9 1 nameC (fun x : ByteArray => Small x.size) w wr B g0 cap l.length l') (fun _ u6 _ => l.length - (intOf u6).toNat)
  case atStart => exact ⟨i, i + 1, l, rfl, by go_num, HST.out, HI.out.aft HA.out⟩
  case round =>
    obtain ⟨m, j, l', rfl, rfl, hd, hI⟩ := hrel
    have HD := Lib.hid hd
    have HJ := Lib.hid hI
    have hll := hI.len
    have hmj := hd.ij
    have hjl := hd.jl
    by_cases hlt : j < l.length
    · have hj' : j < l'.length := by omega
      obtain ⟨b, off, hA0, hb0, c0, hs0⟩ := str_at (compS_sl hI hs) hj'
      simp only [Option.some.injEq, Addr.mk.injEq, and_true] at hA0
      obtain ⟨rfl, rfl⟩ := hA0
      have hg := hd.get hlt
      rw [hg] at c0 hs0
      obtain ⟨x, hx⟩ : ∃ x, l[j] = x := ⟨_, rfl⟩
      rw [hx] at c0 hs0
      obtain ⟨r, hr⟩ : ∃ r, q x = r := ⟨_, rfl⟩
      have Cc := Lib.hid (hr ▸ HQ.out wr hI.kb x hs0)
      have HX := Lib.hid hx
      have HR := Lib.hid (show q l[j] = r by rw [hx]; exact hr)
      clear hd hI hx hr hg
      simp only [Nat.zero_add] at c0
      cases r
      · go_wp2_with fail
        refine Cc.out.mono ?_
        rintro e w2 ⟨rfl, a2⟩
        obtain ⟨F, hF⟩ : ∃ F, F = w2 := ⟨_, rfl⟩
        have HJF := Lib.hid (show CompI 9 1 nameC (fun x : ByteArray => Small x.size) w F B g0 cap l.length l' from hF ▸ HJ.out.aft a2)
        subst hF
        clear a2
        obtain ⟨_, _, hv1, _, _, hrF⟩ := own_rowAt HJF.out.own (by omega)
        simp only [Value.slice.injEq, true_and, Option.some.injEq, Addr.mk.injEq, and_true] at hv1
        obtain ⟨rfl, rfl⟩ := hv1
        have hfl : (l'.flatMap nameC).length = l.length * 1 := by rw [flatMap_len (size := 1) (fun _ => rfl), hll]
        obtain ⟨u0, z0⟩ : ∃ u, F.cell? ⟨g0, m, none⟩ = some u := ⟨_, by rw [hrF.2.1 m (by rw [hfl]; omega), List.getElem?_eq_getElem (by rw [hfl]; omega)]⟩
        have z1 : F.frozen? ⟨g0, m, none⟩ = false := hrF.2.2 m (by rw [hfl]; omega)
        have z2 : g0 < F.heap.size := hrF.1
        clear hrF hfl
        have HNEW := Lib.hid (show CompI 9 1 nameC (fun x : ByteArray => Small x.size) w (F.setCell ⟨g0, m, none⟩ (.string x)) B g0 cap l.length (l'.set m l[j]) from by
          have := compS_set HJF.out (m := m) (i := j) (by omega) hj'
          rw [HD.out.get hlt, HX.out] at this
          rw [HX.out]
          simpa using this)
        have HDN := Lib.hid (HD.out.keep hlt HR.out)
        have hml : (m : Int) < (l.length : Int) := by omega
        go_wp2_with fail
        go_roundw
        case rel => exact ⟨m + 1, j + 1, _, by go_num, by go_num, HDN.out, HNEW.out⟩
        case measure => simp [intOf]; omega
      · have HDN := Lib.hid (HD.out.skip hlt HR.out)
        go_wp2_with fail
        refine Cc.out.mono ?_
        rintro e w2 ⟨rfl, a2⟩
        have HJ2 := Lib.hid (HJ.out.aft a2)
        clear a2
        go_wp2_with fail
        go_roundw
        case rel => exact ⟨m, j + 1, l', rfl, by go_num, HDN.out, HJ2.out⟩
        case measure => simp [intOf]; omega
    · have hjj : j = l.length := by omega
      have hcm : ¬ cap = m := by omega
      obtain ⟨_, _, hv1, _, _, hrF⟩ := own_rowAt hI.own (by omega)
      simp only [Value.slice.injEq, true_and, Option.some.injEq, Addr.mk.injEq, and_true] at hv1
      obtain ⟨rfl, rfl⟩ := hv1
      have hfl : (l'.flatMap nameC).length = l.length * 1 := by rw [flatMap_len (size := 1) (fun _ => rfl), hll]
      have hzr : ∀ w : World, (zeroValue 9).run Tryz.prog w = .ok (.string ByteArray.empty) w := fun w => by kernel_rfl
      obtain ⟨n3, hn3⟩ : ∃ n3, l.length - m = n3 := ⟨_, rfl⟩
      have hcl : ∀ ty, (Builtin.clear_ #[26] ty #[.slice (some ⟨g0, m * 1, none⟩) n3 (cap - m)]).run Tryz.prog wr = .ok (.tuple #[]) (wr.setCells g0 (m * 1) (Builtin.zeroCells (.string ByteArray.empty : Value).cells n3).toList) := fun ty => by
        refine run_clear_n wr _ _ ty _ Tryz.underlying26 hzr (by intro u hu; have hu : u ∈ ([.string ByteArray.empty] : List Value) := hu; simp only [List.mem_cons, List.not_mem_nil, or_false] at hu; subst hu; rfl) g0 (m * 1) (cap - m) n3 (by omega) (fun j hj => ?_) (fun j hj => ?_)
        · have hj' : j < n3 * 1 := hj
          have hl : m * 1 + j < (l'.flatMap nameC).length := by rw [hfl]; omega
          rw [hrF.2.1 _ hl, List.getElem?_eq_getElem hl]; rfl
        · have hj' : j < n3 * 1 := hj
          exact hrF.2.2 _ (by rw [hfl]; omega)
      obtain ⟨Z, hZ⟩ : ∃ Z, Z = wr.setCells g0 (m * 1) (Builtin.zeroCells (.string ByteArray.empty : Value).cells n3).toList := ⟨_, rfl⟩
      have HZ := Lib.hid (show Kb (fun k => k = g0) w Z from hZ ▸ hI.kb.trans (kb_setCells g0 _ _ _))
      have HP := Lib.hid (show DelFP l q (.slice (some ⟨g0, 0, none⟩) l.length cap) B w (.returned (.slice (some ⟨g0, 0, none⟩) m cap)) Z from by
        have hm : m = (l.filter fun x => !q x).length := by
          have := congrArg List.length hd.kept
          rw [List.length_take, hjj, List.take_length] at this
          omega
        have hx : l'.take m = l.filter fun x => !q x := by
          have := hd.kept
          rw [hjj, List.take_length] at this
          exact this
        refine ⟨⟨some ⟨g0, 0, none⟩, m, cap⟩, rfl, ?_, kin _ _ HZ.out, fun g hg => Hd.mem_blk.1 hg⟩
        have o1 := own_cut (own_setCells (g := g0) rfl (Builtin.zeroCells (.string ByteArray.empty : Value).cells n3).toList (m * 1) hI.own) (m := m) (by omega)
        rw [← hZ] at o1
        have e : (setL (l'.flatMap nameC) (m * 1) (Builtin.zeroCells (.string ByteArray.empty : Value).cells n3).toList).take (m * 1) = (l.filter fun x => !q x).flatMap nameC := by
          rw [setL_eq _ _ _ (by rw [zeroCells_len, hfl]; show m * 1 + n3 * 1 ≤ _; omega), List.append_assoc, List.take_append_of_le_length (by rw [List.length_take, hfl]; omega), List.take_take, Nat.min_self, flatMap_take (size := 1) (fun _ => rfl), hx]
        rw [e] at o1
        rw [← hm]
        exact o1)
      rw [← hZ, ← hn3] at hcl
      simp only [Nat.mul_one] at hcl
      have k3 : (m : Int) ≤ (l.length : Int) := by omega
      have k5 : (l.length : Int) ≤ (cap : Int) := by omega
      have k6 : (m : Int) ≤ (cap : Int) := by omega
      clear hI hrF hfl hzr hZ hn3 kin hd HD HJ HI HST C hjj
      go_wp2_with fail
      go_ret
      exact HP.out
end Go.Proofs.YtgkhmnamkfgciaaGreat

namespace Go.Proofs.YtgkhmnamkfgciaaGreat
open Go.RowKit Go.Deep
set_option maxRecDepth 100000
set_option linter.unusedVariables false
noncomputable def allE (r : Rls) (role : ByteArray) : Int := if rightR r then (if inB r.names role then 0 else 71) else 1
noncomputable def allL (r : Rls) (role : ByteArray) : List ByteArray := if rightR r && inB r.names role then r.names.filter (reachB r.members role) else []
def AllP (r : Rls) (role : ByteArray) (w : World) (e : Ending) (w' : World) : Prop :=
  ∃ h : Hd, e = .returned (.tuple #[h.v, .int .i64 (allE r role)]) ∧ Aft w w' ∧ w'.ownsRow w.heap.size 9 1 h.v (allL r role).length ((allL r role).flatMap nameC)
theorem rightR_len {r : Rls} (h : rightR r = true) : r.names.length ≤ 16 ∧ r.members.length ≤ 256 := by
  unfold rightR at h
  simp only [Bool.and_eq_true, decide_eq_true_eq] at h
  exact ⟨h.1.1.1.1, h.1.1.1.2⟩
theorem allL_mem {r : Rls} {role x : ByteArray} (h : x ∈ allL r role) : x ∈ r.names := by
  unfold allL at h
  split at h
  · exact (List.mem_filter.1 h).1
  · simp at h
theorem allL_len (r : Rls) (role : ByteArray) : (allL r role).length ≤ r.names.length := by
  unfold allL
  split
  · exact List.length_filter_le _ _
  · simp
set_option maxHeartbeats 1000000 in
theorem all1 (x : ByteArray) (bx bf n : Nat) (c : Txt → Nat) (w : World) (hx : x.size ≤ maxLen) (hc : w.cell? ⟨bx, 0, none⟩ = some (.map (some bf))) (M : MapF Tryz.prog 9 w bf n (.int .i64 0) (cntV c)) :
    Calls Tryz.prog 132 (#[.string x] ++ #[.pointer (some ⟨bx, 0, none⟩)]) w fun e w' => e = .returned (.bool (decide (c (txt x) = 0))) ∧ Aft w w' := by
  have LK0 := M.look Tryz.underlying9 Tryz.underlying168 (zero_int w) x hx
  have hz : bx < w.heap.size := World.block_lt_of_cell? w ⟨bx, 0, none⟩ hc
  obtain ⟨k, hk⟩ : ∃ k, c (txt x) = k := ⟨_, rfl⟩
  have LK : (Instr.lookup 168 (.map (some bf)) (.string x) false).run Tryz.prog w = .ok (.int .i64 k) w := by rw [← hk]; exact LK0
  rw [hk]
  clear M hk LK0
  show Calls Tryz.prog 132 #[.string x, .pointer (some ⟨bx, 0, none⟩)] w _
  go_enter Tryz.func132, Tryz.ntmps132
  go_wp2_with fail
  go_ret
  refine ⟨Eq.trans (b := .returned (.bool _)) rfl (ret_of (bool_of ?_)), Aft.refl _⟩
  rw [Bool.eq_iff_iff]
  simp
set_option maxHeartbeats 8000000 in
theorem all8 (r : Rls) (An : Option Addr) (capn : Nat) (Am : Option Addr) (capm : Nat) (role : ByteArray) (w : World) (hn : SlAt w 1 StrR An capn r.names) (hm : SlAt w 2 MbrR Am capm r.members) (hrs : Small role.size) :
    Calls Tryz.prog 74 #[.agg #[.slice An r.names.length capn, .slice Am r.members.length capm], .string role] w (AllP r role w) := by
  have hlen := hn.len
  have l1 : w.heap.size < w.heap.size + 1 := by omega
  obtain ⟨W, hW⟩ : ∃ W, W = w.alloc (.cells #[.slice An r.names.length capn, .slice Am r.members.length capm] 29) := ⟨_, rfl⟩
  have aW : Aft w W := by rw [hW]; exact (Aft.refl w).alloc _
  have r0 : ∀ w', Aft W w' → (w'.cell? ⟨w.heap.size, 0, none⟩ = some (.slice An r.names.length capn) ∧ w'.cell? ⟨w.heap.size, 1, none⟩ = some (.slice Am r.members.length capm) ∧ w.heap.size < w'.heap.size) := fun w' a => by
    rw [hW] at a
    obtain ⟨hb, _, hz, _, _⟩ := aft_box a
    exact ⟨by rw [hb]; rfl, by rw [hb]; rfl, hz.1⟩
  obtain ⟨q, hq⟩ : ∃ q, rightR r = q := ⟨_, rfl⟩
  obtain ⟨i, hi⟩ : ∃ i, inB r.names role = i := ⟨_, rfl⟩
  have C1 := Lib.hid (fun w' (a : Aft w w') => hq ▸ right8 r An capn Am capm w' (strs_aft a hn) (mbrs_aft a hm))
  have C2 := Lib.hid (show ∀ w', Aft w w' → Calls Tryz.prog 54 #[.slice An r.names.length capn, .string role] w' fun e w'' => e = .returned (.bool i) ∧ w' = w'' from fun w' a => hi ▸ scont8 An capn r.names role w' (strs_aft a hn))
  have C3 := Lib.hid (fun w' (a : Aft w w') => seen_in r An capn Am capm role w' (mbrs_aft a hm) hrs)
  have HE := Lib.hid (show allE r role = if q then (if i then 0 else 71) else 1 by unfold allE; rw [hq, hi])
  have HL := Lib.hid (show allL r role = if q && i then r.names.filter (reachB r.members role) else [] by unfold allL; rw [hq, hi])
  have HB := Lib.hid (show q = true → r.names.length ≤ 16 from fun h => (rightR_len (by rw [hq]; exact h)).1)
  have HSM := Lib.hid (sm_names hn)
  have HR0 := Lib.hid r0
  have HAW := Lib.hid aW
  have HN := Lib.hid hn
  clear hq hi r0 aW hn hm
  go_enter Tryz.func74, Tryz.ntmps74
  go_wp2_with fail
  rw [← hW]
  clear hW
  refine (C1.out W HAW.out).mono ?_
  rintro e w1 ⟨rfl, a1⟩
  have HA1 := Lib.hid a1
  obtain ⟨e0, e1, e2⟩ := HR0.out w1 a1
  clear a1
  cases q
  · have HP := Lib.hid (show AllP r role w (.returned (.tuple #[.slice none 0 0, .int .i64 1])) w1 from ⟨⟨none, 0, 0⟩, by rw [HE.out]; rfl, HAW.out.trans HA1.out, by rw [HL.out]; exact own_nil _ _ _ _⟩)
    go_wp2_with fail
    go_ret2
    exact HP.out
  go_wp2_with fail
  refine (C2.out w1 (HAW.out.trans HA1.out)).mono ?_
  rintro e w2 ⟨rfl, rfl⟩
  cases i
  · have HP := Lib.hid (show AllP r role w (.returned (.tuple #[.slice none 0 0, .int .i64 71])) w1 from ⟨⟨none, 0, 0⟩, by rw [HE.out]; rfl, HAW.out.trans HA1.out, by rw [HL.out]; exact own_nil _ _ _ _⟩)
    go_wp2_with fail
    go_ret2
    exact HP.out
  go_wp2_with fail
  refine (C3.out w1 (HAW.out.trans HA1.out)).mono ?_
  rintro e w3 ⟨bf, rfl, a3, c, nc, M, bd, hr⟩
  obtain ⟨X, hX⟩ : ∃ X, X = w3.alloc (.cells #[.map (some bf)] 168) := ⟨_, rfl⟩
  have aX : Aft w3 X := by rw [hX]; exact (Aft.refl w3).alloc _
  have xc : X.cell? ⟨w3.heap.size, 0, none⟩ = some (.map (some bf)) := by rw [hX]; simp
  have aWX := ((HAW.out.trans HA1.out).trans a3).trans aX
  clear e0 e1 e2
  obtain ⟨e0, e1, e2⟩ := HR0.out w3 (HA1.out.trans a3)
  have l3 : w.heap.size < w3.heap.size + 1 := by omega
  have C4 := Lib.hid (clone2Str An capn r.names X X (Aft.refl _) (strs_aft aWX HN.out) (by have := HB.out (by first | trivial | rfl); omega))
  have HM := Lib.hid (And.intro (M.aft aX) (And.intro xc (And.intro aWX (And.intro hr (show w3.heap.size < X.heap.size by rw [hX]; simp)))))
  clear M bd hr aX a3 aWX xc
  go_wp2_with fail
  rw [← hX]
  clear hX
  refine C4.out.mono ?_
  rintro e w4 ⟨v, css, rfl, a4, ho, hch⟩
  rw [flat_names hch] at ho
  obtain ⟨A2, cap2, hv⟩ := own_lit ho
  subst hv
  obtain ⟨M, xc, aWX, hr, hXs⟩ := HM.out
  have hWX := aWX.size
  have hent := enters (P := Tryz.prog) Tryz.func132 (by kernel_rfl) rfl
  have C5 := Lib.hid (delFS (.slice A2 r.names.length cap2) r.names 132 #[.pointer (some ⟨w3.heap.size, 0, none⟩)] (fun x => decide (c (txt x) = 0)) X.heap.size w4 ho HSM.out.1 (own_cap ho) HSM.out.2 hent (fun w' kb x hx => by
    have h1 : ¬ InV (.slice A2 r.names.length cap2) bf := not_in ho M.lt
    have h2 : ¬ InV (.slice A2 r.names.length cap2) w3.heap.size := not_in ho hXs
    exact all1 x w3.heap.size bf nc c w' hx.max (kb.cell (a4.cell_kept xc) h2) ((M.aft a4).kb kb h1)))
  have HK := Lib.hid (show ∀ w', Kb (InV (.slice A2 r.names.length cap2)) w4 w' → Aft w w' from fun w' kb => kb.to_aft (aWX.trans a4) (fun g hg => not_in ho (by omega)))
  have HF := Lib.hid (show (r.names.filter fun x => !decide (c (txt x) = 0)) = allL r role from by
    rw [HL.out]
    simp only [Bool.and_self, if_true]
    refine List.filter_congr fun x _ => ?_
    unfold reachB
    have := hr (txt x)
    by_cases h : Reach r.members (txt role) (txt x)
    · have := this.2 h
      simp [h]; omega
    · have : ¬ 0 < c (txt x) := fun h2 => h (this.1 h2)
      simp [h]; omega)
  have HWX := Lib.hid hWX
  clear M xc aWX hr hXs hWX hent a4 ho hch
  go_wp2_with fail
  refine C5.out.mono ?_
  rintro e w5 ⟨h, rfl, ho, kb, hblk⟩
  rw [HF.out] at ho
  have HP := Lib.hid (show AllP r role w (.returned (.tuple #[h.v, .int .i64 0])) w5 from ⟨h, by rw [HE.out]; rfl, HK.out w5 kb, own_down ho HWX.out⟩)
  clear ho kb hblk
  go_wp2_with fail
  go_ret2
  exact HP.out
end Go.Proofs.YtgkhmnamkfgciaaGreat

namespace Go.Proofs.YtgkhmnamkfgciaaGreat
set_option linter.unusedVariables false
/-- how many are less -/
def posB {α : Type} (c : α → α → Int) (l : List α) (x : α) : Nat := l.countP fun y => decide (c y x < 0)
theorem countP_bound {α : Type} (p : α → Bool) : ∀ (l : List α) (i : Nat), i ≤ l.length → (∀ t (h : t < l.length), t < i → p l[t] = true) → (∀ t (h : t < l.length), i ≤ t → p l[t] = false) → l.countP p = i
  | [], i, hi, _, _ => by simp at hi; simp [hi]
  | a :: r, 0, _, _, h2 => by
    rw [List.countP_eq_zero]
    intro x hx
    obtain ⟨t, ht, rfl⟩ := List.getElem_of_mem hx
    rw [h2 t ht (Nat.zero_le _)]; simp
  | a :: r, i + 1, hi, h1, h2 => by
    have ha : p a = true := h1 0 (by simp) (Nat.succ_pos _)
    rw [List.countP_cons_of_pos ha, countP_bound p r i (by simpa using hi) (fun t h ht => h1 (t + 1) (by simpa using h) (by omega)) (fun t h ht => h2 (t + 1) (by simpa using h) (by omega))]
/-- in a row that rises, what is less lies ahead -/
theorem rises_lt {α : Type} {c : α → α → Int} (tr : ∀ a b d, c a b < 0 → c b d < 0 → c a d < 0) {l : List α} (h : risesB c l = true) : ∀ (a b : Nat) (ha : a < l.length) (hb : b < l.length), a < b → c l[a] l[b] < 0 := by
  intro a b
  induction b with
  | zero => intro ha hb hab; omega
  | succ b ih =>
    intro ha hb hab
    have h1 := (risesB_iff c l).1 h b hb
    rcases Nat.lt_or_ge a b with h2 | h2
    · exact tr _ _ _ (ih ha (by omega) h2) h1
    · have : a = b := by omega
      subst this; exact h1
theorem rises_mono {α : Type} {c : α → α → Int} (tr : ∀ a b d, c a b < 0 → c b d < 0 → c a d < 0) {l : List α} (h : risesB c l = true) (x : α) (a b : Nat) (ha : a < l.length) (hb : b < l.length) (hab : a ≤ b) (hx : c l[b] x < 0) : c l[a] x < 0 := by
  rcases Nat.lt_or_ge a b with h2 | h2
  · exact tr _ _ _ (rises_lt tr h a b ha hb h2) hx
  · have : a = b := by omega
    subst this; exact hx
theorem posB_le {α : Type} (c : α → α → Int) (l : List α) (x : α) : posB c l x ≤ l.length := List.countP_le_length
def insAt {α : Type} (l : List α) (p : Nat) (x : α) : List α := l.take p ++ [x] ++ l.drop p
/-- an order: of two, just one way -/
structure Ord8 {α : Type} (c : α → α → Int) : Prop where
  tr : ∀ a b d, c a b < 0 → c b d < 0 → c a d < 0
  anti : ∀ a b, c a b = - c b a
  eq0 : ∀ a b, c a b = 0 → a = b
theorem Ord8.refl {α : Type} {c : α → α → Int} (o : Ord8 c) (a : α) : c a a = 0 := by have := o.anti a a; omega
theorem split_at {α : Type} (p : α → Bool) (l : List α) (mono : ∀ a b (ha : a < l.length) (hb : b < l.length), a ≤ b → p l[b] = true → p l[a] = true) : ∀ n, n ≤ l.length → ∃ i, i ≤ n ∧ (∀ t (h : t < l.length), t < i → p l[t] = true) ∧ (∀ t (h : t < l.length), i ≤ t → t < n → p l[t] = false) := by
  intro n
  induction n with
  | zero => intro _; exact ⟨0, Nat.le_refl _, fun t _ h => absurd h (Nat.not_lt_zero t), fun t _ _ h => absurd h (Nat.not_lt_zero t)⟩
  | succ n ih =>
    intro hn
    obtain ⟨i, hi, h1, h2⟩ := ih (by omega)
    cases hp : p (l[n]'(by omega))
    · refine ⟨i, by omega, h1, fun t ht h3 h4 => ?_⟩
      rcases Nat.lt_or_ge t n with h5 | h5
      · exact h2 t ht h3 h5
      · have : t = n := by omega
        subst this; exact hp
    · refine ⟨n + 1, Nat.le_refl _, fun t ht h3 => mono t n ht (by omega) (by omega) hp, fun t ht h3 h4 => by omega⟩
theorem pos_split' {α : Type} {c : α → α → Int} (tr : ∀ a b d, c a b < 0 → c b d < 0 → c a d < 0) {l : List α} (h : risesB c l = true) (x : α) : (∀ t (h : t < l.length), t < posB c l x → c l[t] x < 0) ∧ (∀ t (h : t < l.length), posB c l x ≤ t → ¬ c l[t] x < 0) := by
  obtain ⟨i, hi, h1, h2⟩ := split_at (fun y => decide (c y x < 0)) l (fun a b ha hb hab hx => decide_eq_true (rises_mono tr h x a b ha hb hab (of_decide_eq_true hx))) l.length (Nat.le_refl _)
  have hp : posB c l x = i := countP_bound _ l i hi h1 fun t ht hit => h2 t ht hit ht
  rw [hp]
  exact ⟨fun t ht hl => of_decide_eq_true (h1 t ht hl), fun t ht hl => of_decide_eq_false (h2 t ht hl ht)⟩
/-- in a row that rises a new one stands ahead of all from its place on -/
theorem new_less' {α : Type} {c : α → α → Int} (tr : ∀ a b d, c a b < 0 → c b d < 0 → c a d < 0) (anti : ∀ a b, c a b = - c b a) {l : List α} (hr : risesB c l = true) {x : α} (hn : ∀ y ∈ l, c y x ≠ 0) (t : Nat) (ht : t < l.length) : decide (c x l[t] < 0) = decide (posB c l x ≤ t) := by
  obtain ⟨h1, h2⟩ := pos_split' tr hr x
  rcases Nat.lt_or_ge t (posB c l x) with h3 | h3
  · have h4 := h1 t ht h3
    have h5 := anti x l[t]
    rw [decide_eq_false (by omega), decide_eq_false (by omega)]
  · have h4 := h2 t ht h3
    have h5 := anti x l[t]
    have h6 := hn l[t] (List.getElem_mem ht)
    rw [decide_eq_true (by omega), decide_eq_true h3]
theorem rises_ins' {α : Type} {c : α → α → Int} (tr : ∀ a b d, c a b < 0 → c b d < 0 → c a d < 0) (anti : ∀ a b, c a b = - c b a) {l : List α} (hr : risesB c l = true) {x : α} (hn : ∀ y ∈ l, c y x ≠ 0) : risesB c (insAt l (posB c l x) x) = true := by
  have hp := posB_le c l x
  obtain ⟨h1, h2⟩ := pos_split' tr hr x
  have h3 := new_less' tr anti hr hn
  generalize posB c l x = p at *
  rw [risesB_iff]
  intro k hk
  unfold insAt at *
  have hlen : (l.take p).length = p := by simp; omega
  have g1 : ∀ t, t < p → (l.take p ++ [x] ++ l.drop p)[t]? = l[t]? := fun t ht => by
    rw [List.getElem?_append_left (by simp; omega), List.getElem?_append_left (by omega), List.getElem?_take_of_lt ht]
  have g2 : (l.take p ++ [x] ++ l.drop p)[p]? = some x := by
    rw [List.getElem?_append_left (by simp; omega), List.getElem?_append_right (by omega), hlen]; simp
  have g3 : ∀ t, p < t → (l.take p ++ [x] ++ l.drop p)[t]? = l[t - 1]? := fun t ht => by
    rw [List.getElem?_append_right (by simp; omega)]
    simp only [List.length_append, hlen, List.length_singleton, List.getElem?_drop]
    congr 1; omega
  have hl2 : (l.take p ++ [x] ++ l.drop p).length = l.length + 1 := by simp; omega
  generalize hL : l.take p ++ [x] ++ l.drop p = L at *
  rcases Nat.lt_trichotomy (k + 1) p with h5 | h5 | h5
  · have e1 := g1 k (by omega)
    have e2 := g1 (k + 1) h5
    rw [List.getElem?_eq_getElem (by omega), List.getElem?_eq_getElem (by omega)] at e1 e2
    simp only [Option.some.injEq] at e1 e2
    rw [e1, e2]
    exact (risesB_iff c l).1 hr k (by omega)
  · have e1 := g1 k (by omega)
    subst h5
    rw [List.getElem?_eq_getElem (by omega), List.getElem?_eq_getElem (by omega)] at e1
    rw [List.getElem?_eq_getElem (by omega)] at g2
    simp only [Option.some.injEq] at e1 g2
    rw [e1, g2]
    exact h1 k (by omega) (by omega)
  · rcases Nat.lt_or_ge p k with h6 | h6
    · have e1 := g3 k h6
      have e2 := g3 (k + 1) h5
      rw [List.getElem?_eq_getElem (by omega), List.getElem?_eq_getElem (by omega)] at e1 e2
      simp only [Option.some.injEq] at e1 e2
      rw [e1, e2]
      have := (risesB_iff c l).1 hr (k - 1) (by omega)
      have hk1 : k - 1 + 1 = k := by omega
      simp only [hk1] at this
      exact this
    · have : k = p := by omega
      subst this
      have e2 := g3 (k + 1) h5
      rw [List.getElem?_eq_getElem (by omega), List.getElem?_eq_getElem (by omega)] at e2
      rw [List.getElem?_eq_getElem (by omega)] at g2
      simp only [Option.some.injEq, Nat.add_sub_cancel] at e2 g2
      rw [e2, g2]
      exact of_decide_eq_true ((h3 k (by omega)).trans (decide_eq_true (Nat.le_refl _)))
theorem mem_insAt {α : Type} {l : List α} {p : Nat} {x y : α} : y ∈ insAt l p x ↔ y = x ∨ y ∈ l := by
  unfold insAt
  conv => rhs; rw [← List.take_append_drop p l]
  simp only [List.mem_append, List.mem_singleton]
  grind
theorem insAt_len {α : Type} (l : List α) (p : Nat) (x : α) (h : p ≤ l.length) : (insAt l p x).length = l.length + 1 := by unfold insAt; simp; omega
end Go.Proofs.YtgkhmnamkfgciaaGreat

namespace Go.Proofs.YtgkhmnamkfgciaaGreat
open Go.RowKit Go.Deep
set_option maxRecDepth 100000
set_option linter.unusedVariables false
structure BsI {α : Type} (c : α → α → Int) (l : List α) (x : α) (lo hi : Nat) : Prop where
  le : lo ≤ hi
  hl : hi ≤ l.length
  less : ∀ t (h : t < l.length), t < lo → c l[t] x < 0
  more : ∀ t (h : t < l.length), hi ≤ t → ¬ c l[t] x < 0
theorem BsI.pos {α : Type} {c : α → α → Int} {l : List α} {x : α} {lo : Nat} (h : BsI c l x lo lo) : posB c l x = lo :=
  countP_bound _ l lo h.hl (fun t ht hl => decide_eq_true (h.less t ht hl)) (fun t ht hl => decide_eq_false (h.more t ht hl))
theorem BsI.right {α : Type} {c : α → α → Int} (tr : ∀ a b d, c a b < 0 → c b d < 0 → c a d < 0) {l : List α} {x : α} {lo hi m : Nat} (h : BsI c l x lo hi) (hr : risesB c l = true) (hm : m < hi) (h1 : c (l[m]'(by have := h.hl; omega)) x < 0) : BsI c l x (m + 1) hi :=
  ⟨by omega, h.hl, fun t ht hl => rises_mono tr hr x t m ht (by have := h.hl; omega) (by omega) h1, h.more⟩
theorem BsI.left {α : Type} {c : α → α → Int} (tr : ∀ a b d, c a b < 0 → c b d < 0 → c a d < 0) {l : List α} {x : α} {lo hi m : Nat} (h : BsI c l x lo hi) (hr : risesB c l = true) (hlo : lo ≤ m) (hm : m < hi) (h1 : ¬ c (l[m]'(by have := h.hl; omega)) x < 0) : BsI c l x lo m :=
  ⟨hlo, by have := h.hl; omega, h.less, fun t ht hl h2 => h1 (rises_mono tr hr x m t (by have := h.hl; omega) ht hl h2)⟩
theorem cmpS_tr (a b d : ByteArray) (h1 : cmpS a b < 0) (h2 : cmpS b d < 0) : cmpS a d < 0 := cmpS_trans h1 h2
end Go.Proofs.YtgkhmnamkfgciaaGreat

