/- law11's large, the document's T, and its values. -/
import Derived.Test.YtodifdofgjfkiaaVal
import Derived.Test.YtodifdofgjfkiaaRet
import Derived.IntWalk
namespace Go.Proofs.Ytodifdofgjfkiaa
open Go.RowKit
set_option maxRecDepth 100000
set_option linter.unusedVariables false
def LargeP (w : World) (n : Nat) (e : Ending) (w' : World) : Prop := ∃ b : Bool, e = .returned (.bool b) ∧ Aft w w' ∧ (b = false → n ≤ 3000)
set_option maxHeartbeats 4000000 in
theorem large11_any (t : Tab) (A : Option Addr) (cap : Nat) (A2 : Option Addr) (cap2 : Nat) (A3 : Option Addr) (cap3 : Nat) (row : List Val) (w : World) (h : SlAt w 3 ColR A cap t.cols) (h2 : SlAt w 8 RulR A2 cap2 t.rules) (h3 : SlAt w 3 ValR A3 cap3 row) :
    Calls Try.prog 32 #[.agg #[.string t.schema, .string t.name, .string t.owner, .slice A t.cols.length cap, .slice A2 t.rules.length cap2], .slice A3 row.length cap3] w
      (LargeP w (t.cols.length + t.rules.length + row.length)) := by
  have hlen := h.len
  have hlen2 := h2.len
  have hlen3 := h3.len
  go_enter Try.func32, Try.ntmps32
  go_wp2_with fail
  go_loop [5, 6] (fun n i => ∃ (k : Nat) (z : Int), k ≤ t.rules.length ∧ n = .int .i64 z ∧ i = .int .i64 k ∧ (t.cols.length : Int) + t.rules.length + row.length ≤ z) (fun _ i => t.rules.length - (intOf i).toNat)
  case atStart => exact ⟨0, _, Nat.zero_le _, rfl, rfl, Int.le_refl _⟩
  case round =>
    obtain ⟨k, z, hk, rfl, rfl, hz⟩ := hrel
    by_cases hlt : k < t.rules.length
    · by_cases hz0 : z ≤ 3000
      · obtain ⟨b, off, D2, capD2, rfl, hb, c0, c1, c2, c3, c4, c5, c6, c7, hcs, hss⟩ := rul_at h2 hlt
        have hlc := hcs.len
        have hw : IntKind.i64.wrap (z + (t.rules[k].cols.length : Int)) = z + (t.rules[k].cols.length : Int) := IntWalk.i64_in _ (by omega)
        clear hcs hss
        go_wp2_with fail
        go_round
        case rel => exact ⟨k + 1, _, by omega, rfl, by go_num, by omega⟩
        case measure => simp [intOf]; omega
      · have d : (3000 : Int) < z := by omega
        go_wp2_with fail
        go_ret
        exact ⟨true, by simp, (Aft.refl _).alloc _, fun h => by cases h⟩
    · by_cases hz0 : z ≤ 3000
      · have d : ¬ (3000 : Int) < z := by omega
        go_wp2_with fail
        go_ret
        exact ⟨false, by simp, (Aft.refl _).alloc _, fun _ => by omega⟩
      · have d : (3000 : Int) < z := by omega
        go_wp2_with fail
        go_ret
        exact ⟨true, by simp, (Aft.refl _).alloc _, fun h => by cases h⟩
theorem lvVal_box {w W : World} {a b c : Value} {t : TypeId} (h : Aft (w.alloc (.cells #[a, b, c] t)) W) : (loadVar 48 ⟨w.heap.size, 0, none⟩).run Try.prog W = .ok (.agg #[a, b, c]) W := by
  obtain ⟨hb, _⟩ := aft_box h
  have h1 := run_lvVal W w.heap.size 0 (by rw [hb]; rfl) (by rw [hb]; rfl) (by rw [hb]; rfl)
  rw [hb, hb, hb] at h1
  exact h1
theorem lvTab_box {w W : World} {a b c d e : Value} {t : TypeId} (h : Aft (w.alloc (.cells #[a, b, c, d, e] t)) W) : (loadVar 34 ⟨w.heap.size, 0, none⟩).run Try.prog W = .ok (.agg #[a, b, c, d, e]) W := by
  obtain ⟨hb, _⟩ := aft_box h
  have h1 := run_lvTab W w.heap.size 0 (by rw [hb]; rfl) (by rw [hb]; rfl) (by rw [hb]; rfl) (by rw [hb]; rfl) (by rw [hb]; rfl)
  rw [hb, hb, hb, hb, hb] at h1
  exact h1
theorem num_any (n : Int) (w : World) : Calls Try.prog 94 #[.int .i64 n] w fun e w' => e = .returned (.agg #[.int .i64 2, .int .i64 n, .string ⟨#[]⟩]) ∧ Aft w w' := by
  have l1 : w.heap.size < w.heap.size + 1 := by omega
  go_enter Try.func94, Try.ntmps94
  go_wp2_with fail
  (try simp only [Exit.inBlock, Exit.then])
  refine bodyPost_ret (results_cell (v := .agg #[.int .i64 2, .int .i64 n, .string ⟨#[]⟩]) rfl _ rfl ?hl) rfl ?_
  case hl => exact lvVal_box (Aft.refl _)
  exact ⟨rfl, (Aft.refl _).alloc _⟩
theorem word_any (s : ByteArray) (w : World) : Calls Try.prog 103 #[.string s] w fun e w' => e = .returned (.agg #[.int .i64 3, .int .i64 0, .string s]) ∧ Aft w w' := by
  have l1 : w.heap.size < w.heap.size + 1 := by omega
  go_enter Try.func103, Try.ntmps103
  go_wp2_with fail
  (try simp only [Exit.inBlock, Exit.then])
  refine bodyPost_ret (results_cell (v := .agg #[.int .i64 3, .int .i64 0, .string s]) rfl _ rfl ?hl) rfl ?_
  case hl => exact lvVal_box (Aft.refl _)
  exact ⟨rfl, (Aft.refl _).alloc _⟩
theorem null_any (w : World) : Calls Try.prog 104 #[] w fun e w' => e = .returned (.agg #[.int .i64 1, .int .i64 0, .string ⟨#[]⟩]) ∧ Aft w w' := by
  have l1 : w.heap.size < w.heap.size + 1 := by omega
  go_enter Try.func104, Try.ntmps104
  go_wp2_with fail
  (try simp only [Exit.inBlock, Exit.then])
  refine bodyPost_ret (results_cell (v := .agg #[.int .i64 1, .int .i64 0, .string ⟨#[]⟩]) rfl _ rfl ?hl) rfl ?_
  case hl => exact lvVal_box (Aft.refl _)
  exact ⟨rfl, (Aft.refl _).alloc _⟩
theorem sm1 (c : UInt8) : Small (ByteArray.size ⟨#[c]⟩) := by unfold Small; simp [ByteArray.size]
theorem sm0 : Small (ByteArray.size ⟨#[]⟩) := by unfold Small; simp [ByteArray.size]
theorem sm2 : Small (2 * 16) := by unfold Small; decide
def oneT : Tab := ⟨⟨#[]⟩, ⟨#[]⟩, ⟨#[]⟩, [⟨⟨#[120]⟩, 2, false⟩, ⟨⟨#[121]⟩, 3, true⟩], [⟨⟨#[99]⟩, 3, [⟨#[120]⟩], 0, 9, ⟨#[]⟩, ⟨#[]⟩, ⟨#[]⟩⟩, ⟨⟨#[107]⟩, 2, [⟨#[121]⟩, ⟨#[120]⟩], 0, 0, ⟨#[]⟩, ⟨#[]⟩, ⟨#[]⟩⟩]⟩
def OneTP (w : World) (e : Ending) (w' : World) : Prop := ∃ A A2, e = .returned (.agg #[.string ⟨#[]⟩, .string ⟨#[]⟩, .string ⟨#[]⟩, .slice A 2 2, .slice A2 2 2]) ∧ Aft w w' ∧ SlAt w' 3 ColR A 2 oneT.cols ∧ SlAt w' 8 RulR A2 2 oneT.rules
set_option maxHeartbeats 4000000 in
theorem one11_any (w : World) : Calls Try.prog 95 #[] w (OneTP w) := by
  have l1 : w.heap.size < w.heap.size + 1 := by omega
  have l2 : w.heap.size < w.heap.size + 1 + 1 := by omega
  have l3 : w.heap.size < w.heap.size + 1 + 1 + 1 := by omega
  have l4 : w.heap.size < w.heap.size + 1 + 1 + 1 + 1 := by omega
  have l5 : w.heap.size < w.heap.size + 1 + 1 + 1 + 1 + 1 := by omega
  have l6 : w.heap.size < w.heap.size + 1 + 1 + 1 + 1 + 1 + 1 := by omega
  have l7 : w.heap.size < w.heap.size + 1 + 1 + 1 + 1 + 1 + 1 + 1 := by omega
  go_enter Try.func95, Try.ntmps95
  go_wp2_with fail
  (try simp only [Exit.inBlock, Exit.then])
  refine bodyPost_ret (results_cell (v := .agg #[.string ⟨#[]⟩, .string ⟨#[]⟩, .string ⟨#[]⟩, .slice (some ⟨w.heap.size + 1 + 1 + 1 + 1 + 1, 0, none⟩) 2 2, .slice (some ⟨w.heap.size + 1 + 1 + 1 + 1 + 1 + 1, 0, none⟩) 2 2]) rfl _ rfl ?hl) rfl ?_
  case hl => exact lvTab_box (((((((Aft.refl _).alloc _).alloc _).alloc _).alloc _).alloc _).alloc _)
  refine ⟨_, _, rfl, (((((((Aft.refl _).alloc _).alloc _).alloc _).alloc _).alloc _).alloc _).alloc _, ?c, ?r⟩
  case c => exact slAt_box _ (fun c => [.string c.name, .int .i64 c.kind, .bool c.null]) #[.string ⟨#[120]⟩, .int .i64 2, .bool false, .string ⟨#[121]⟩, .int .i64 3, .bool true] (by first | (simp; done) | (simp; omega)) (by intro o; (repeat (refine (World.cell?_alloc_past _ _ _ (by first | (simp; done) | (simp; omega))).trans ?_)); exact World.cell?_alloc_at _ _ _ _ (by simp)) rfl (fun _ => rfl) (by intro x hx; refine ⟨rfl, ?_⟩; simp [oneT] at hx; rcases hx with rfl | rfl <;> (unfold Small; decide)) (by unfold Small; decide) (by decide)
  case r =>
    refine ⟨by decide, by unfold Small; decide, fun i hi => ?_⟩
    have hi2 : i = 0 ∨ i = 1 := by simp [oneT] at hi; omega
    rcases hi2 with rfl | rfl
    · refine ⟨w.heap.size + 1 + 1 + 1 + 1 + 1 + 1, 0, [.string ⟨#[99]⟩, .int .i64 3, .slice (some ⟨w.heap.size + 1, 0, none⟩) 1 1, .int .i64 0, .int .i64 9, .string ⟨#[]⟩, .string ⟨#[]⟩, .string ⟨#[]⟩], rfl, by first | (simp; done) | (simp; omega), rfl, ⟨_, _, rfl, ?n, sm1 _, sm0, sm0, sm0⟩, ?q⟩
      case n => exact slAt_one _ [.string ⟨#[120]⟩] #[.string ⟨#[120]⟩] (by first | (simp; done) | (simp; omega)) (by intro o; (repeat (refine (World.cell?_alloc_past _ _ _ (by first | (simp; done) | (simp; omega))).trans ?_)); exact World.cell?_alloc_at _ _ _ _ (by simp)) rfl rfl ⟨rfl, by unfold Small; decide⟩ (by omega)
      case q =>
        intro j hj
        refine (World.cell?_alloc_at _ _ _ _ (by simp)).trans ?_
        match j, hj with
        | 0, _ => rfl
        | 1, _ => rfl
        | 2, _ => rfl
        | 3, _ => rfl
        | 4, _ => rfl
        | 5, _ => rfl
        | 6, _ => rfl
        | 7, _ => rfl
    · refine ⟨w.heap.size + 1 + 1 + 1 + 1 + 1 + 1, 0, [.string ⟨#[107]⟩, .int .i64 2, .slice (some ⟨w.heap.size + 1 + 1 + 1, 0, none⟩) 2 2, .int .i64 0, .int .i64 0, .string ⟨#[]⟩, .string ⟨#[]⟩, .string ⟨#[]⟩], rfl, by first | (simp; done) | (simp; omega), rfl, ⟨_, _, rfl, ?n, sm1 _, sm0, sm0, sm0⟩, ?q⟩
      case n => exact slAt_box _ (fun s => [.string s]) #[.string ⟨#[121]⟩, .string ⟨#[120]⟩] (by first | (simp; done) | (simp; omega)) (by intro o; (repeat (refine (World.cell?_alloc_past _ _ _ (by first | (simp; done) | (simp; omega))).trans ?_)); exact World.cell?_alloc_at _ _ _ _ (by simp)) rfl (fun _ => rfl) (by intro x hx; refine ⟨rfl, ?_⟩; simp [oneT] at hx; rcases hx with rfl | rfl <;> exact sm1 _) sm2 (Nat.le_refl 2)
      case q =>
        intro j hj
        refine (World.cell?_alloc_at _ _ _ _ (by simp)).trans ?_
        match j, hj with
        | 0, _ => rfl
        | 1, _ => rfl
        | 2, _ => rfl
        | 3, _ => rfl
        | 4, _ => rfl
        | 5, _ => rfl
        | 6, _ => rfl
        | 7, _ => rfl
end Go.Proofs.Ytodifdofgjfkiaa
