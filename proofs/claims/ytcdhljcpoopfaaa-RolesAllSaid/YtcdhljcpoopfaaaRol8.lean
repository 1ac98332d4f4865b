/- law08: large, the document's R, and roles of our own. -/
import Derived.Test.YtcdhljcpoopfaaaRis8
import Derived.Test.YtcdhljcpoopfaaaRight8
import Derived.Test.YtcdhljcpoopfaaaReach8
import Derived.Test.YtcdhljcpoopfaaaClone8
import Derived.Deep.AppendLies
import Derived.Deep.DeepMust
namespace Go.Proofs.Ytcdhljcpoopfaaa
open Go.RowKit Go.Deep
set_option maxRecDepth 100000
set_option linter.unusedVariables false
/-- roles in rows of our own -/
structure RolIn (w : World) (B : Nat) (hn hm : Hd) (r : Rls) : Prop where
  nam : w.ownsRow B 9 1 hn.v r.names.length (r.names.flatMap nameC)
  mem : w.ownsRow B 61 2 hm.v r.members.length (r.members.flatMap mbrC)
  dis : ∀ g ∈ hn.blk, g ∉ hm.blk
/-- all that roles hold is short -/
def SmRl (r : Rls) : Prop := (Small (r.names.length * 16) ∧ ∀ x ∈ r.names, Small x.size) ∧ (Small (r.members.length * 16) ∧ ∀ m ∈ r.members, Small m.role.size ∧ Small m.of.size)
theorem sm_rls {w : World} {r : Rls} {An Am : Option Addr} {capn capm : Nat} (hn : SlAt w 1 StrR An capn r.names) (hm : SlAt w 2 MbrR Am capm r.members) : SmRl r := ⟨sm_names hn, sm_mem hm fun _ _ h => h.2⟩
theorem RolIn.names {w : World} {B : Nat} {hn hm : Hd} {r : Rls} (h : RolIn w B hn hm r) (sm : SmRl r) : SlAt w 1 StrR hn.a hn.c r.names := own_slf nameC h.nam (fun x hx => ⟨rfl, rfl, sm.1.2 x hx⟩) sm.1.1
theorem RolIn.mbrs {w : World} {B : Nat} {hn hm : Hd} {r : Rls} (h : RolIn w B hn hm r) (sm : SmRl r) : SlAt w 2 MbrR hm.a hm.c r.members := own_slf mbrC h.mem (fun x hx => ⟨rfl, rfl, sm.2.2 x hx⟩) sm.2.1
theorem RolIn.aft {w w' : World} {B : Nat} {hn hm : Hd} {r : Rls} (h : RolIn w B hn hm r) (a : Aft w w') : RolIn w' B hn hm r := ⟨own_aft h.nam a, own_aft h.mem a, h.dis⟩
theorem RolIn.down {w : World} {B B' : Nat} {hn hm : Hd} {r : Rls} (h : RolIn w B hn hm r) (hb : B' ≤ B) : RolIn w B' hn hm r := ⟨own_down h.nam hb, own_down h.mem hb, h.dis⟩
theorem RolIn.vn {w : World} {B : Nat} {hn hm : Hd} {r : Rls} (h : RolIn w B hn hm r) : hn.v = .slice hn.a r.names.length hn.c := own_slice h.nam
theorem RolIn.vm {w : World} {B : Nat} {hn hm : Hd} {r : Rls} (h : RolIn w B hn hm r) : hm.v = .slice hm.a r.members.length hm.c := own_slice h.mem
theorem lvRol_row {W : World} {b : Nat} {a c : Value} (h : RowAt W b [a, c]) : (loadVar 25 ⟨b, 0, none⟩).run Try.prog W = .ok (.agg #[a, c]) W := by
  have e0 := h.cell (j := 0) rfl
  have e1 := h.cell (j := 1) rfl
  have h1 := run_lvRol W b 0 (by rw [e0]; rfl) (by rw [e1]; rfl)
  rw [e0, e1] at h1
  exact h1
theorem rowAt_new8 (w : World) (c : List Value) (t : TypeId) : RowAt (w.alloc (.cells c.toArray t)) w.heap.size c := by
  refine ⟨by simp, fun j hj => ?_, fun j hj => ?_⟩
  · rw [World.cell?_alloc_at _ _ _ _ rfl]; simp
  · exact World.frozen?_alloc_at _ _ _ _ rfl
/-- is it large, or not? -/
def bigR (r : Rls) : Bool := decide (1000 < r.names.length) || decide (1000 < r.members.length)
set_option maxHeartbeats 1000000 in
theorem large8 (r : Rls) (An : Option Addr) (capn : Nat) (Am : Option Addr) (capm : Nat) (w : World) :
    Calls Try.prog 11 #[.agg #[.slice An r.names.length capn, .slice Am r.members.length capm]] w fun e w' => e = .returned (.bool (bigR r)) ∧ Aft w w' := by
  by_cases h1 : 1000 < r.names.length
  · have hi : (1000 : Int) < (r.names.length : Int) := by omega
    have HF := Lib.hid (show bigR r = true by unfold bigR; simp [h1])
    go_enter Try.func11, Try.ntmps11
    go_wp2_with fail
    go_ret
    exact ⟨by rw [HF.out]; rfl, (Aft.refl _).alloc _⟩
  · have hi : ¬ (1000 : Int) < (r.names.length : Int) := by omega
    by_cases h2 : 1000 < r.members.length
    · have hi2 : (1000 : Int) < (r.members.length : Int) := by omega
      have HF := Lib.hid (show bigR r = true by unfold bigR; simp [h2])
      go_enter Try.func11, Try.ntmps11
      go_wp2_with fail
      go_ret
      exact ⟨by rw [HF.out]; rfl, (Aft.refl _).alloc _⟩
    · have hi2 : ¬ (1000 : Int) < (r.members.length : Int) := by omega
      have HF := Lib.hid (show bigR r = false by unfold bigR; simp [h1, h2])
      go_enter Try.func11, Try.ntmps11
      go_wp2_with fail
      go_ret
      exact ⟨by rw [HF.out]; rfl, (Aft.refl _).alloc _⟩
def bA : ByteArray := ⟨#[97]⟩
def bB : ByteArray := ⟨#[98]⟩
def bC : ByteArray := ⟨#[99]⟩
def oneR : Rls := ⟨[bA, bB, bC], [⟨bA, bB⟩, ⟨bB, bC⟩]⟩
def ringR : Rls := ⟨[bA, bB, bC], [⟨bA, bB⟩, ⟨bB, bC⟩] ++ [⟨bC, bA⟩]⟩
/-- what lies in a closed set is not left -/
theorem reachB_out (ms : List Mbr) (s t : ByteArray) (S : List ByteArray) (h0 : inB S s = true) (hc : (ms.all fun m => !inB S m.role || inB S m.of) = true) (ht : inB S t = false) : reachB ms s t = false := by
  unfold reachB
  have : ¬ Reach ms (txt s) (txt t) := fun hr => by
    have := hr.closed (fun u => u ∈ S.map txt) ((inB_iff _ _).1 h0) fun u hu x hx => by
      unfold succ at hx
      obtain ⟨m, hm, rfl⟩ := List.mem_map.1 hx
      obtain ⟨hm, he⟩ := List.mem_filter.1 hm
      have he : txt m.role = u := by simpa using he
      have h1 := List.all_eq_true.1 hc m hm
      have h2 : inB S m.role = true := (inB_iff _ _).2 (by rw [he]; exact hu)
      rw [h2] at h1
      exact (inB_iff _ _).1 (by simpa using h1)
    rw [← inB_iff] at this
    rw [this] at ht
    cases ht
  simp [this]
theorem reachB_step (ms : List Mbr) (m : Mbr) (t : ByteArray) (hm : m ∈ ms) (h : reachB ms m.of t = true) : reachB ms m.role t = true := by
  unfold reachB at h ⊢
  simp only [decide_eq_true_eq] at h ⊢
  refine Reach.head (x := m.of) ?_ h
  unfold succ
  exact List.mem_map.2 ⟨m, List.mem_filter.2 ⟨hm, by simp⟩, rfl⟩
theorem reachB_refl (ms : List Mbr) (s : ByteArray) : reachB ms s s = true := by
  unfold reachB
  simp only [decide_eq_true_eq]
  exact .refl _
theorem oneR_ok : rightR oneR = true := by
  have h1 : reachB oneR.members bB bA = false := reachB_out _ _ _ [bB, bC] (by decide +kernel) (by decide +kernel) (by decide +kernel)
  have h2 : reachB oneR.members bC bB = false := reachB_out _ _ _ [bC] (by decide +kernel) (by decide +kernel) (by decide +kernel)
  have e : oneR.members.all (mbrOk oneR) = true := by
    show (mbrOk oneR ⟨bA, bB⟩ && (mbrOk oneR ⟨bB, bC⟩ && true)) = true
    unfold mbrOk
    show ((inB oneR.names bA && inB oneR.names bB && !reachB oneR.members bB bA) && ((inB oneR.names bB && inB oneR.names bC && !reachB oneR.members bC bB) && true)) = true
    rw [h1, h2]
    decide +kernel
  unfold rightR
  rw [e]
  decide +kernel
theorem ringR_no : rightR ringR = false := by
  have h1 : reachB ringR.members bB bA = true :=
    reachB_step ringR.members ⟨bB, bC⟩ bA (by simp [ringR]) (reachB_step ringR.members ⟨bC, bA⟩ bA (by simp [ringR]) (reachB_refl _ _))
  have e : ringR.members.all (mbrOk ringR) = false := by
    show (mbrOk ringR ⟨bA, bB⟩ && _) = false
    have : mbrOk ringR ⟨bA, bB⟩ = false := by
      unfold mbrOk
      show (inB ringR.names bA && inB ringR.names bB && !reachB ringR.members bB bA) = false
      rw [h1]; simp
    rw [this]; rfl
  unfold rightR
  rw [e]
  simp
def OnePost8 (w : World) (e : Ending) (w' : World) : Prop := ∃ hn hm : Hd, e = .returned (.agg #[hn.v, hm.v]) ∧ Aft w w' ∧ RolIn w' w.heap.size hn hm oneR
theorem sm_one : SmRl oneR := by
  refine ⟨⟨by unfold Small; decide, ?_⟩, by unfold Small; decide, ?_⟩
  · intro x hx
    simp [oneR] at hx
    rcases hx with rfl | rfl | rfl <;> (unfold Small; decide)
  · intro m hm
    simp [oneR] at hm
    rcases hm with rfl | rfl <;> (unfold Small; decide)
theorem sm_ring : SmRl ringR := by
  refine ⟨⟨by unfold Small; decide, ?_⟩, by unfold Small; decide, ?_⟩
  · intro x hx
    simp [ringR] at hx
    rcases hx with rfl | rfl | rfl <;> (unfold Small; decide)
  · intro m hm
    simp [ringR] at hm
    rcases hm with rfl | rfl | rfl <;> (unfold Small; decide)
set_option maxHeartbeats 4000000 in
theorem one8 (w : World) : Calls Try.prog 48 #[] w (OnePost8 w) := by
  have l1 : w.heap.size < w.heap.size + 1 := by omega
  have l2 : w.heap.size < w.heap.size + 1 + 1 := by omega
  have l3 : w.heap.size < w.heap.size + 1 + 1 + 1 := by omega
  go_enter Try.func48, Try.ntmps48
  go_wp2_with fail
  have r0 := rowAt_new8 w [.slice (some ⟨w.heap.size + 1, 0, none⟩) 3 3, .slice (some ⟨w.heap.size + 1 + 1, 0, none⟩) 2 2] 25
  refine bodyPost_ret (results_cell (v := .agg #[.slice (some ⟨w.heap.size + 1, 0, none⟩) 3 3, .slice (some ⟨w.heap.size + 1 + 1, 0, none⟩) 2 2]) rfl _ rfl (lvRol_row (r0.aft (((Aft.refl _).alloc _).alloc _)))) rfl ?_
  refine ⟨⟨some ⟨w.heap.size + 1, 0, none⟩, 3, 3⟩, ⟨some ⟨w.heap.size + 1 + 1, 0, none⟩, 2, 2⟩, rfl, (((Aft.refl _).alloc _).alloc _).alloc _, ⟨?_, ?_, ?_⟩⟩
  · refine own_aft (w := (w.alloc (.cells #[.slice (some ⟨w.heap.size + 1, 0, none⟩) 3 3, .slice (some ⟨w.heap.size + 1 + 1, 0, none⟩) 2 2] 25)).alloc (.cells #[.string ⟨#[97]⟩, .string ⟨#[98]⟩, .string ⟨#[99]⟩] 9)) ?_ ((Aft.refl _).alloc _)
    exact ⟨rfl, .inr ⟨w.heap.size + 1, 3, #[.string ⟨#[97]⟩, .string ⟨#[98]⟩, .string ⟨#[99]⟩], rfl, by omega, by have := heap_alloc_new (w.alloc (.cells #[.slice (some ⟨w.heap.size + 1, 0, none⟩) 3 3, .slice (some ⟨w.heap.size + 1 + 1, 0, none⟩) 2 2] 25)) (.cells #[.string ⟨#[97]⟩, .string ⟨#[98]⟩, .string ⟨#[99]⟩] 9); simpa using this, Nat.le_refl _, by unfold maxLen; omega, rfl, rfl⟩⟩
  · exact ⟨rfl, .inr ⟨w.heap.size + 1 + 1, 2, #[.string ⟨#[97]⟩, .string ⟨#[98]⟩, .string ⟨#[98]⟩, .string ⟨#[99]⟩], rfl, by omega, by have := heap_alloc_new ((w.alloc (.cells #[.slice (some ⟨w.heap.size + 1, 0, none⟩) 3 3, .slice (some ⟨w.heap.size + 1 + 1, 0, none⟩) 2 2] 25)).alloc (.cells #[.string ⟨#[97]⟩, .string ⟨#[98]⟩, .string ⟨#[99]⟩] 9)) (.cells #[.string ⟨#[97]⟩, .string ⟨#[98]⟩, .string ⟨#[98]⟩, .string ⟨#[99]⟩] 61); simpa using this, Nat.le_refl _, by unfold maxLen; omega, rfl, rfl⟩⟩
  · intro g hg hg'
    simp only [Hd.blk, List.mem_singleton] at hg hg'
    omega
end Go.Proofs.Ytcdhljcpoopfaaa
