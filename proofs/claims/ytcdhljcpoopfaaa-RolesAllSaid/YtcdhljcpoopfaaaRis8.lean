/- roles.rising: a row rises. -/
import Derived.Test.YtcdhljcpoopfaaaClone8
namespace Go.Proofs.Ytcdhljcpoopfaaa
open Go.RowKit Go.Deep
set_option maxRecDepth 100000
set_option linter.unusedVariables false
theorem flat_mbrs {w : World} {css : List (List Value)} {l : List Mbr} (h : Chunks w 2 MbrR css l) : css.flatten = l.flatMap mbrC := chunks_flat (fun _ _ h => h.1) h
theorem rises_two {α : Type} {c : α → α → Int} (anti : ∀ a b, c a b = - c b a) (l : List α) : risesB c l = true ↔ Sorted c l ∧ NoTwin (fun a b => decide (c a b = 0)) l := by
  rw [risesB_iff]
  constructor
  · intro h
    refine ⟨fun k hk => ?_, fun k hk => ?_⟩
    · have h1 := h k hk
      have h2 := anti l[k + 1] (l[k]'(by omega))
      omega
    · have h1 := h k hk
      have h2 := anti l[k + 1] (l[k]'(by omega))
      simp only [decide_eq_false_iff_not]
      omega
  · intro ⟨h1, h2⟩ k hk
    have h3 := h1 k hk
    have h4 := h2 k hk
    simp only [decide_eq_false_iff_not] at h4
    have h5 := anti l[k + 1] (l[k]'(by omega))
    omega
theorem own_cap {w : World} {B size n : Nat} {e : TypeId} {v : Value} {xs : List Value} (h : w.ownsRow B e size v n xs) : ∀ A n c, v = .slice A n c → c ≤ 9223372036854775807 := by
  intro A n c hv
  rcases h.2 with ⟨rfl, _⟩ | ⟨g, cap, cur, rfl, _, _, _, hcm, _⟩
  · simp only [Value.slice.injEq] at hv; omega
  · simp only [Value.slice.injEq] at hv
    have : cap ≤ maxLen := hcm
    unfold maxLen at this
    omega
set_option maxHeartbeats 1000000 in
theorem ris1S (x y : ByteArray) (bx : Nat) (g : FuncId) (caps : Array Value) (c : ByteArray → ByteArray → Int) (w : World) (hc : w.cell? ⟨bx, 0, none⟩ = some (.func (.func g) #[] caps)) (hent : ∀ (args : Array Value) (w : World), (callFunc g args).run Try.prog w = .ok (.enter g args) w)
    (hp : ∀ w', Aft w w' → Calls Try.prog g (#[.string (x), .string (y)] ++ caps) w' fun e w'' => e = .returned (.int .i64 (c x y)) ∧ Aft w' w'') :
    Calls Try.prog 143 #[.string (x), .string (y), .pointer (some ⟨bx, 0, none⟩)] w fun e w' => e = .returned (.bool (decide (c x y = 0))) ∧ Aft w w' := by
  have HP := Lib.hid hp
  have hbx : bx < w.heap.size := World.block_lt_of_cell? _ _ hc
  have hbx1 : bx < w.heap.size + 1 := by omega
  clear hp
  go_enter Try.func143, Try.ntmps143
  go_wp2_with fail
  refine (HP.out _ (Aft.refl w)).mono ?_
  rintro e w1 ⟨rfl, a1⟩
  have HA := Lib.hid ((Aft.refl w).trans a1)
  clear a1
  go_wp2_with fail
  go_ret
  exact ⟨Eq.trans (b := .returned (.bool _)) rfl (ret_of (bool_of (by first | rfl | simp))), HA.out⟩
set_option maxHeartbeats 2000000 in
theorem risingS (A : Option Addr) (cap : Nat) (l : List ByteArray) (g : FuncId) (caps : Array Value) (c : ByteArray → ByteArray → Int) (w : World) (h : SlAt w 1 StrR A cap l) (hb : l.length ≤ 1000000) (anti : ∀ a b, c a b = - c b a) (hent : ∀ (args : Array Value) (w : World), (callFunc g args).run Try.prog w = .ok (.enter g args) w)
    (hp : ∀ w' (x y : ByteArray), Aft w w' → Calls Try.prog g (#[.string (x), .string (y)] ++ caps) w' fun e w'' => e = .returned (.int .i64 (c x y)) ∧ Aft w' w'') :
    Calls Try.prog 104 #[.slice A l.length cap, .func (.func g) #[] caps] w fun e w' => e = .returned (.bool (risesB c l)) ∧ Aft w w' := by
  have hlen := h.len
  obtain ⟨W, hW⟩ : ∃ W, W = w.alloc (.cells #[.func (.func g) #[] caps] 95) := ⟨_, rfl⟩
  have aW : Aft w W := by rw [hW]; exact (Aft.refl w).alloc _
  have zW : W.heap.size = w.heap.size + 1 := by rw [hW]; simp
  have cW : W.cell? ⟨w.heap.size, 0, none⟩ = some (.func (.func g) #[] caps) := by rw [hW]; simp
  have C1 := Lib.hid (sortedS A cap l g caps c W (strs_aft aW h) hent fun w' a i hi => hp w' _ _ (aW.trans a))
  have HH := Lib.hid (And.intro h (And.intro hp (And.intro anti (And.intro aW cW))))
  have hent2 := enters (P := Try.prog) Try.func143 (by kernel_rfl) rfl
  have hsm := sm_mem h (P := fun x : ByteArray => Small x.size) (fun _ _ h => h.2)
  have HSM := Lib.hid hsm
  clear h hp anti aW hsm
  go_enter Try.func104, Try.ntmps104
  go_wp2_with fail
  rw [← hW]
  refine C1.out.mono ?_
  rintro e w1 ⟨b, rfl, hb1, a1⟩
  have HB := Lib.hid hb1
  have HA1 := Lib.hid a1
  have cW1 := a1.cell_kept cW
  clear hW hb1
  cases b
  · clear a1 cW1 cW
    go_wp2_with fail
    go_ret
    refine ⟨Eq.trans (b := .returned (.bool _)) rfl (ret_of (bool_of ?_)), HH.out.2.2.2.1.trans HA1.out⟩
    have := rises_two HH.out.2.2.1 l
    have h2 := HB.out
    simp_all
  · have C2 := Lib.hid (clone2Str A cap l w1 w1 (Aft.refl _) (strs_aft (HH.out.2.2.2.1.trans a1) HH.out.1) hb)
    clear a1
    go_wp2_with fail
    refine C2.out.mono ?_
    rintro e w2 ⟨v, css, rfl, a2, ho, hch⟩
    rw [flat_names hch] at ho
    obtain ⟨A2, cap2, hv⟩ := own_lit ho
    subst hv
    have cW2 := a2.cell_kept cW1
    have C3 := Lib.hid (compS (.slice A2 l.length cap2) l 143 #[.pointer (some ⟨w.heap.size, 0, none⟩)] (fun a b => decide (c a b = 0)) w1.heap.size w2 ho HSM.out.1 (own_cap ho) HSM.out.2 hent2 (fun w' kb x y => by
      have hnb : ¬ InV (.slice A2 l.length cap2) w.heap.size := not_in ho (by have := HA1.out.size; omega)
      have ha : Aft w w' := kb.to_aft ((HH.out.2.2.2.1.trans HA1.out).trans a2) (fun g hg => not_in ho (by have := HA1.out.size; omega))
      exact ris1S x y w.heap.size g caps c w' (kb.cell cW2 hnb) hent (fun w'' a => HH.out.2.1 w'' x y (ha.trans a))))
    have HK := Lib.hid (show ∀ w', Kb (InV (.slice A2 l.length cap2)) w2 w' → Aft w w' from fun w' kb => kb.to_aft ((HH.out.2.2.2.1.trans HA1.out).trans a2) (fun g hg => not_in ho (by have := HA1.out.size; omega)))
    clear a2 ho hch
    go_wp2_with fail
    refine C3.out.mono ?_
    rintro e w3 ⟨A3, m, c3, rfl, hm, kb⟩
    have HM := Lib.hid hm
    have HA3 := Lib.hid (HK.out w3 kb)
    clear hm kb
    go_wp2_with fail
    go_ret
    refine ⟨Eq.trans (b := .returned (.bool _)) rfl (ret_of (bool_of ?_)), HA3.out⟩
    have h1 := rises_two HH.out.2.2.1 l
    have h2 := HB.out.1 (by first | trivial | rfl)
    have h3 := HM.out
    by_cases e : m = l.length
    · rw [h1.2 ⟨h2, h3.1 e⟩]
      simp [e]
    · have : risesB c l = false := by
        rw [Bool.eq_false_iff]
        intro h
        exact e (h3.2 (h1.1 h).2)
      rw [this]
      simp; omega
set_option maxHeartbeats 1000000 in
theorem ris1M (x y : Mbr) (bx : Nat) (g : FuncId) (caps : Array Value) (c : Mbr → Mbr → Int) (w : World) (hc : w.cell? ⟨bx, 0, none⟩ = some (.func (.func g) #[] caps)) (hent : ∀ (args : Array Value) (w : World), (callFunc g args).run Try.prog w = .ok (.enter g args) w)
    (hp : ∀ w', Aft w w' → Calls Try.prog g (#[.agg #[.string (x).role, .string (x).of], .agg #[.string (y).role, .string (y).of]] ++ caps) w' fun e w'' => e = .returned (.int .i64 (c x y)) ∧ Aft w' w'') :
    Calls Try.prog 146 #[.agg #[.string (x).role, .string (x).of], .agg #[.string (y).role, .string (y).of], .pointer (some ⟨bx, 0, none⟩)] w fun e w' => e = .returned (.bool (decide (c x y = 0))) ∧ Aft w w' := by
  have HP := Lib.hid hp
  have hbx : bx < w.heap.size := World.block_lt_of_cell? _ _ hc
  have hbx1 : bx < w.heap.size + 1 := by omega
  clear hp
  go_enter Try.func146, Try.ntmps146
  go_wp2_with fail
  refine (HP.out _ (((Aft.refl w).alloc _).alloc _)).mono ?_
  rintro e w1 ⟨rfl, a1⟩
  have HA := Lib.hid ((((Aft.refl w).alloc _).alloc _).trans a1)
  clear a1
  go_wp2_with fail
  go_ret
  exact ⟨Eq.trans (b := .returned (.bool _)) rfl (ret_of (bool_of (by first | rfl | simp))), HA.out⟩
set_option maxHeartbeats 2000000 in
theorem risingM (A : Option Addr) (cap : Nat) (l : List Mbr) (g : FuncId) (caps : Array Value) (c : Mbr → Mbr → Int) (w : World) (h : SlAt w 2 MbrR A cap l) (hb : l.length ≤ 1000000) (anti : ∀ a b, c a b = - c b a) (hent : ∀ (args : Array Value) (w : World), (callFunc g args).run Try.prog w = .ok (.enter g args) w)
    (hp : ∀ w' (x y : Mbr), Aft w w' → Calls Try.prog g (#[.agg #[.string (x).role, .string (x).of], .agg #[.string (y).role, .string (y).of]] ++ caps) w' fun e w'' => e = .returned (.int .i64 (c x y)) ∧ Aft w' w'') :
    Calls Try.prog 105 #[.slice A l.length cap, .func (.func g) #[] caps] w fun e w' => e = .returned (.bool (risesB c l)) ∧ Aft w w' := by
  have hlen := h.len
  obtain ⟨W, hW⟩ : ∃ W, W = w.alloc (.cells #[.func (.func g) #[] caps] 73) := ⟨_, rfl⟩
  have aW : Aft w W := by rw [hW]; exact (Aft.refl w).alloc _
  have zW : W.heap.size = w.heap.size + 1 := by rw [hW]; simp
  have cW : W.cell? ⟨w.heap.size, 0, none⟩ = some (.func (.func g) #[] caps) := by rw [hW]; simp
  have C1 := Lib.hid (sortedM A cap l g caps c W (mbrs_aft aW h) hent fun w' a i hi => hp w' _ _ (aW.trans a))
  have HH := Lib.hid (And.intro h (And.intro hp (And.intro anti (And.intro aW cW))))
  have hent2 := enters (P := Try.prog) Try.func146 (by kernel_rfl) rfl
  have hsm := sm_mem h (P := fun x : Mbr => Small x.role.size ∧ Small x.of.size) (fun _ _ h => h.2)
  have HSM := Lib.hid hsm
  clear h hp anti aW hsm
  go_enter Try.func105, Try.ntmps105
  go_wp2_with fail
  rw [← hW]
  refine C1.out.mono ?_
  rintro e w1 ⟨b, rfl, hb1, a1⟩
  have HB := Lib.hid hb1
  have HA1 := Lib.hid a1
  have cW1 := a1.cell_kept cW
  clear hW hb1
  cases b
  · clear a1 cW1 cW
    go_wp2_with fail
    go_ret
    refine ⟨Eq.trans (b := .returned (.bool _)) rfl (ret_of (bool_of ?_)), HH.out.2.2.2.1.trans HA1.out⟩
    have := rises_two HH.out.2.2.1 l
    have h2 := HB.out
    simp_all
  · have C2 := Lib.hid (clone2Mem A cap l w1 w1 (Aft.refl _) (mbrs_aft (HH.out.2.2.2.1.trans a1) HH.out.1) hb)
    clear a1
    go_wp2_with fail
    refine C2.out.mono ?_
    rintro e w2 ⟨v, css, rfl, a2, ho, hch⟩
    rw [flat_mbrs hch] at ho
    obtain ⟨A2, cap2, hv⟩ := own_lit ho
    subst hv
    have cW2 := a2.cell_kept cW1
    have C3 := Lib.hid (compM (.slice A2 l.length cap2) l 146 #[.pointer (some ⟨w.heap.size, 0, none⟩)] (fun a b => decide (c a b = 0)) w1.heap.size w2 ho HSM.out.1 (own_cap ho) HSM.out.2 hent2 (fun w' kb x y => by
      have hnb : ¬ InV (.slice A2 l.length cap2) w.heap.size := not_in ho (by have := HA1.out.size; omega)
      have ha : Aft w w' := kb.to_aft ((HH.out.2.2.2.1.trans HA1.out).trans a2) (fun g hg => not_in ho (by have := HA1.out.size; omega))
      exact ris1M x y w.heap.size g caps c w' (kb.cell cW2 hnb) hent (fun w'' a => HH.out.2.1 w'' x y (ha.trans a))))
    have HK := Lib.hid (show ∀ w', Kb (InV (.slice A2 l.length cap2)) w2 w' → Aft w w' from fun w' kb => kb.to_aft ((HH.out.2.2.2.1.trans HA1.out).trans a2) (fun g hg => not_in ho (by have := HA1.out.size; omega)))
    clear a2 ho hch
    go_wp2_with fail
    refine C3.out.mono ?_
    rintro e w3 ⟨A3, m, c3, rfl, hm, kb⟩
    have HM := Lib.hid hm
    have HA3 := Lib.hid (HK.out w3 kb)
    clear hm kb
    go_wp2_with fail
    go_ret
    refine ⟨Eq.trans (b := .returned (.bool _)) rfl (ret_of (bool_of ?_)), HA3.out⟩
    have h1 := rises_two HH.out.2.2.1 l
    have h2 := HB.out.1 (by first | trivial | rfl)
    have h3 := HM.out
    by_cases e : m = l.length
    · rw [h1.2 ⟨h2, h3.1 e⟩]
      simp [e]
    · have : risesB c l = false := by
        rw [Bool.eq_false_iff]
        intro h
        exact e (h3.2 (h1.1 h).2)
      rw [this]
      simp; omega
end Go.Proofs.Ytcdhljcpoopfaaa
