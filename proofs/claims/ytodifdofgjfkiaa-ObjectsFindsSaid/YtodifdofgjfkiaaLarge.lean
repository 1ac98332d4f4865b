/- law07's large: it says yes or no; and the document's O. -/
import Derived.Test.YtodifdofgjfkiaaCheck
import Derived.Test.YtodifdofgjfkiaaRet
namespace Go.Proofs.Ytodifdofgjfkiaa
open Go.RowKit
set_option maxRecDepth 100000
set_option linter.unusedVariables false
def AnyBool (w : World) (e : Ending) (w' : World) : Prop := ∃ b : Bool, e = .returned (.bool b) ∧ Aft w w'
set_option maxHeartbeats 4000000 in
theorem large_any (o : Objs) (As : Option Addr) (caps : Nat) (At : Option Addr) (capt : Nat) (w : World) (hsch : SlAt w 2 SchR As caps o.schemas) (htab : SlAt w 5 TabR At capt o.tables) :
    Calls Try.prog 15 #[.agg #[.slice As o.schemas.length caps, .slice At o.tables.length capt]] w
      (AnyBool w) := by
  have hlen := hsch.len
  have hlen2 := htab.len
  go_enter Try.func15, Try.ntmps15
  go_wp2_with fail
  go_loopw [3, 4] (fun n i wr => ∃ (k : Nat) (z : Int), k ≤ o.tables.length ∧ n = .int .i64 z ∧ i = .int .i64 k ∧ Aft (w.alloc (.cells #[.slice As o.schemas.length caps, .slice At o.tables.length capt] 25)) wr) (fun _ i _ => o.tables.length - (intOf i).toNat)
  case atStart => exact ⟨0, _, Nat.zero_le _, rfl, rfl, Aft.refl _⟩
  case round =>
    obtain ⟨k, z, hk, rfl, rfl, ha⟩ := hrel
    obtain ⟨hbox, hfr, hz, hzk, HA⟩ := aft_box ha
    have HAB := Lib.hid ha
    clear ha
    by_cases hlt : k < o.tables.length
    · by_cases hz0 : z ≤ 3000
      · obtain ⟨b, off, B2, capB2, B3, capB3, rfl, hb, c0, c1, c2, c3, c4, hcols, hrules, hss⟩ := tab_at (tabs_aft HA.out htab) hlt
        obtain ⟨t, ht0⟩ : ∃ t, o.tables[k] = t := ⟨_, rfl⟩
        rw [ht0] at c0 c1 c2 c3 c4 hcols hrules
        clear ht0 hss
        have hl3 := hrules.len
        go_wp2_with fail
        go_loop [3, 6] (fun n i => ∃ (m : Nat) (z : Int), m ≤ t.rules.length ∧ n = .int .i64 z ∧ i = .int .i64 m) (fun _ i => t.rules.length - (intOf i).toNat)
        case atStart => exact ⟨0, _, Nat.zero_le _, rfl, rfl⟩
        case round =>
          obtain ⟨m, z2, hm, rfl, rfl⟩ := hrel
          by_cases hlt2 : m < t.rules.length
          · by_cases hz2 : z2 ≤ 3000
            · obtain ⟨b3, off3, D2, capD2, rfl, hb3, e0, e1, e2, e3, e4, e5, e6, e7, hcs, hss3⟩ := rul_at hrules hlt2
              go_wp2_with fail
              go_round
              case rel => exact ⟨m + 1, _, by omega, rfl, by go_num⟩
              case measure => simp [intOf]; omega
            · go_wp2_with fail
              go_roundw
              case rel => exact ⟨k + 1, _, by omega, rfl, by go_num, HAB.out.alloc _⟩
              case measure => simp [intOf]; omega
          · go_wp2_with fail
            go_roundw
            case rel => exact ⟨k + 1, _, by omega, rfl, by go_num, HAB.out.alloc _⟩
            case measure => simp [intOf]; omega
      · go_wp2_with fail
        go_ret
        exact ⟨_, rfl, HA.out⟩
    · go_wp2_with fail
      go_ret
      exact ⟨_, rfl, HA.out⟩
def oneO : Objs := ⟨[⟨⟨#[115]⟩, ⟨#[111]⟩⟩], [⟨⟨#[115]⟩, ⟨#[116]⟩, ⟨#[111]⟩, [⟨⟨#[120]⟩, 2, false⟩, ⟨⟨#[121]⟩, 3, true⟩], [⟨⟨#[107]⟩, 2, [⟨#[120]⟩], 0, 0, ByteArray.empty, ByteArray.empty, ByteArray.empty⟩]⟩]⟩
theorem oneO_ok : checkO oneO = true := by decide +kernel
theorem oneO_no : checkO ⟨[], oneO.tables⟩ = false := by decide +kernel
def OnePost (w : World) (e : Ending) (w' : World) : Prop := ∃ As caps At capt, e = .returned (.agg #[.slice As 1 caps, .slice At 1 capt]) ∧ Aft w w' ∧ SlAt w' 2 SchR As caps oneO.schemas ∧ SlAt w' 5 TabR At capt oneO.tables
set_option maxHeartbeats 4000000 in
theorem one_any (w : World) :
    Calls Try.prog 61 #[] w (OnePost w) := by
  have l1 : w.heap.size < w.heap.size + 1 := by omega
  have l2 : w.heap.size < w.heap.size + 1 + 1 := by omega
  have l3 : w.heap.size < w.heap.size + 1 + 1 + 1 := by omega
  have l4 : w.heap.size < w.heap.size + 1 + 1 + 1 + 1 := by omega
  have l5 : w.heap.size < w.heap.size + 1 + 1 + 1 + 1 + 1 := by omega
  have l6 : w.heap.size < w.heap.size + 1 + 1 + 1 + 1 + 1 + 1 := by omega
  have l7 : w.heap.size < w.heap.size + 1 + 1 + 1 + 1 + 1 + 1 + 1 := by omega
  have l8 : w.heap.size < w.heap.size + 1 + 1 + 1 + 1 + 1 + 1 + 1 + 1 := by omega
  go_enter Try.func61, Try.ntmps61
  go_wp2_with fail
  (try simp only [Exit.inBlock, Exit.then])
  refine bodyPost_ret (results_cell (v := .agg #[.slice (some ⟨w.heap.size + 1 + 1 + 1 + 1 + 1 + 1, 0, none⟩) 1 1, .slice (some ⟨w.heap.size + 1 + 1 + 1 + 1 + 1 + 1 + 1, 0, none⟩) 1 1]) rfl _ rfl ?hl) rfl ?_
  case hl => exact lvObj_box ((((((((Aft.refl _).alloc _).alloc _).alloc _).alloc _).alloc _).alloc _).alloc _)
  refine ⟨_, _, _, _, rfl, ((((((((Aft.refl _).alloc _).alloc _).alloc _).alloc _).alloc _).alloc _).alloc _).alloc _, ?s, ?t⟩
  case s => exact slAt_one _ [.string ⟨#[115]⟩, .string ⟨#[111]⟩] #[.string ⟨#[115]⟩, .string ⟨#[111]⟩] (by first | (simp; done) | (simp; omega)) (by intro o; (repeat (refine (World.cell?_alloc_past _ _ _ (by first | (simp; done) | (simp; omega))).trans ?_)); exact World.cell?_alloc_at _ _ _ _ (by simp)) rfl rfl ⟨rfl, by unfold Small; decide, by unfold Small; decide⟩ (by omega)
  case t =>
    refine slAt_one _ [.string ⟨#[115]⟩, .string ⟨#[116]⟩, .string ⟨#[111]⟩, .slice (some ⟨w.heap.size + 1 + 1 + 1, 0, none⟩) 2 2, .slice (some ⟨w.heap.size + 1 + 1 + 1 + 1, 0, none⟩) 1 1] #[.string ⟨#[115]⟩, .string ⟨#[116]⟩, .string ⟨#[111]⟩, .slice (some ⟨w.heap.size + 1 + 1 + 1, 0, none⟩) 2 2, .slice (some ⟨w.heap.size + 1 + 1 + 1 + 1, 0, none⟩) 1 1] (by first | (simp; done) | (simp; omega)) (by intro o; (repeat (refine (World.cell?_alloc_past _ _ _ (by first | (simp; done) | (simp; omega))).trans ?_)); exact World.cell?_alloc_at _ _ _ _ (by simp)) rfl rfl ⟨_, _, _, _, rfl, ?c, ?r, by unfold Small; decide, by unfold Small; decide, by unfold Small; decide⟩ (by omega)
    case c => exact slAt_box _ (fun c => [.string c.name, .int .i64 c.kind, .bool c.null]) #[.string ⟨#[120]⟩, .int .i64 2, .bool false, .string ⟨#[121]⟩, .int .i64 3, .bool true] (by first | (simp; done) | (simp; omega)) (by intro o; (repeat (refine (World.cell?_alloc_past _ _ _ (by first | (simp; done) | (simp; omega))).trans ?_)); exact World.cell?_alloc_at _ _ _ _ (by simp)) rfl (fun _ => rfl) (by intro x hx; refine ⟨rfl, ?_⟩; simp [oneO] at hx; rcases hx with rfl | rfl <;> (unfold Small; decide)) (by unfold Small; decide) (by decide)
    case r =>
      refine slAt_one _ [.string ⟨#[107]⟩, .int .i64 2, .slice (some ⟨w.heap.size + 1, 0, none⟩) 1 1, .int .i64 0, .int .i64 0, .string ⟨#[]⟩, .string ⟨#[]⟩, .string ⟨#[]⟩] #[.string ⟨#[107]⟩, .int .i64 2, .slice (some ⟨w.heap.size + 1, 0, none⟩) 1 1, .int .i64 0, .int .i64 0, .string ⟨#[]⟩, .string ⟨#[]⟩, .string ⟨#[]⟩] (by first | (simp; done) | (simp; omega)) (by intro o; (repeat (refine (World.cell?_alloc_past _ _ _ (by first | (simp; done) | (simp; omega))).trans ?_)); exact World.cell?_alloc_at _ _ _ _ (by simp)) rfl rfl ⟨_, _, rfl, ?n, by unfold Small; decide, by unfold Small; decide, by unfold Small; decide, by unfold Small; decide⟩ (by omega)
      case n => exact slAt_one _ [.string ⟨#[120]⟩] #[.string ⟨#[120]⟩] (by first | (simp; done) | (simp; omega)) (by intro o; (repeat (refine (World.cell?_alloc_past _ _ _ (by first | (simp; done) | (simp; omega))).trans ?_)); exact World.cell?_alloc_at _ _ _ _ (by simp)) rfl rfl ⟨rfl, by unfold Small; decide⟩ (by omega)
end Go.Proofs.Ytodifdofgjfkiaa
