/- law07's large: what it lets by is no great thing. -/
import Derived.Test.YtodifdofgjfkiaaLarge
import Derived.Test.YtodifdofgjfkiaaMine2
namespace Go.Proofs.Ytodifdofgjfkiaa
open Go.RowKit
set_option maxRecDepth 100000
set_option linter.unusedVariables false
def LargeP (w : World) (o : Objs) (e : Ending) (w' : World) : Prop := ∃ b : Bool, e = .returned (.bool b) ∧ (b = false → ModO o) ∧ Aft w w'
def ModTs (l : List Tab) : Prop := ∀ t ∈ l, t.cols.length ≤ 3000 ∧ t.rules.length ≤ 3000 ∧ ∀ r ∈ t.rules, r.cols.length ≤ 3000
theorem ModTs.snoc {l : List Tab} {k : Nat} (hk : k < l.length) (h : ModTs (l.take k)) (h1 : l[k].cols.length ≤ 3000) (h2 : l[k].rules.length ≤ 3000) (h3 : ∀ r ∈ l[k].rules, r.cols.length ≤ 3000) : ModTs (l.take (k + 1)) := by
  intro t ht
  rw [List.take_succ_eq_append_getElem hk, List.mem_append, List.mem_singleton] at ht
  rcases ht with ht | rfl
  · exact h t ht
  · exact ⟨h1, h2, h3⟩
theorem mem_snoc_all {α : Type} {l : List α} {k : Nat} (hk : k < l.length) {P : α → Prop} (h : ∀ r ∈ l.take k, P r) (h1 : P l[k]) : ∀ r ∈ l.take (k + 1), P r := by
  intro r hr
  rw [List.take_succ_eq_append_getElem hk, List.mem_append, List.mem_singleton] at hr
  rcases hr with hr | rfl
  · exact h r hr
  · exact h1
set_option maxHeartbeats 4000000 in
theorem large_mod (o : Objs) (As : Option Addr) (caps : Nat) (At : Option Addr) (capt : Nat) (w : World) (hsch : SlAt w 2 SchR As caps o.schemas) (htab : SlAt w 5 TabR At capt o.tables) :
    Calls Try.prog 15 #[.agg #[.slice As o.schemas.length caps, .slice At o.tables.length capt]] w
      (LargeP w o) := by
  have hlen := hsch.len
  have hlen2 := htab.len
  go_enter Try.func15, Try.ntmps15
  go_wp2_with fail
  go_loopw [3, 4] (fun n i wr => ∃ (k : Nat) (z : Int), k ≤ o.tables.length ∧ n = .int .i64 z ∧ i = .int .i64 k ∧ 0 ≤ z ∧ z ≤ 140737488351232 ∧ (z ≤ 3000 → (o.schemas.length ≤ 3000 ∧ o.tables.length ≤ 3000) ∧ ModTs (o.tables.take k)) ∧ Aft (w.alloc (.cells #[.slice As o.schemas.length caps, .slice At o.tables.length capt] 25)) wr) (fun _ i _ => o.tables.length - (intOf i).toNat)
  case atStart => exact ⟨0, _, Nat.zero_le _, rfl, rfl, by omega, by omega, fun h => ⟨⟨by omega, by omega⟩, fun t ht => by simp at ht⟩, Aft.refl _⟩
  case round =>
    obtain ⟨k, z, hk, rfl, rfl, hz1, hz2, hmod, ha⟩ := hrel
    obtain ⟨hbox, hfr, hz, hzk, HA⟩ := aft_box ha
    have HAB := Lib.hid ha
    have HM := Lib.hid hmod
    clear ha hmod
    by_cases hlt : k < o.tables.length
    · by_cases hz0 : z ≤ 3000
      · obtain ⟨b, off, B2, capB2, B3, capB3, rfl, hb, c0, c1, c2, c3, c4, hcols, hrules, hss⟩ := tab_at (tabs_aft HA.out htab) hlt
        obtain ⟨t, ht0⟩ : ∃ t, o.tables[k] = t := ⟨_, rfl⟩
        rw [ht0] at c0 c1 c2 c3 c4 hcols hrules
        have HT := Lib.hid ht0
        clear ht0 hss
        have hl2 := hcols.len
        have hl3 := hrules.len
        go_wp2_with fail
        go_loop [3, 6] (fun n i => ∃ (m : Nat) (z : Int), m ≤ t.rules.length ∧ n = .int .i64 z ∧ i = .int .i64 m ∧ 0 ≤ z ∧ z ≤ 140737488351232 ∧ (z ≤ 3000 → (t.cols.length ≤ 3000 ∧ t.rules.length ≤ 3000) ∧ ∀ r ∈ t.rules.take m, r.cols.length ≤ 3000)) (fun _ i => t.rules.length - (intOf i).toNat)
        case atStart => exact ⟨0, _, Nat.zero_le _, rfl, rfl, by omega, by omega, fun h => ⟨⟨by omega, by omega⟩, fun r hr => by simp at hr⟩⟩
        case round =>
          obtain ⟨m, z2, hm, rfl, rfl, hy1, hy2, hmod⟩ := hrel
          have HN := Lib.hid hmod
          clear hmod
          by_cases hlt2 : m < t.rules.length
          · by_cases hz2 : z2 ≤ 3000
            · obtain ⟨b3, off3, D2, capD2, rfl, hb3, e0, e1, e2, e3, e4, e5, e6, e7, hcs, hss3⟩ := rul_at hrules hlt2
              have hl4 := hcs.len
              go_wp2_with fail
              go_round
              case rel => exact ⟨m + 1, _, by omega, rfl, by go_num, by omega, by omega, fun h => ⟨(HN.out hz2).1, mem_snoc_all (P := fun r : Rul => r.cols.length ≤ 3000) hlt2 (HN.out hz2).2 (by omega)⟩⟩
              case measure => simp [intOf]; omega
            · go_wp2_with fail
              go_roundw
              case rel => exact ⟨k + 1, _, by omega, rfl, by go_num, hy1, hy2, fun h => absurd h hz2, HAB.out.alloc _⟩
              case measure => simp [intOf]; omega
          · go_wp2_with fail
            go_roundw
            case rel =>
              refine ⟨k + 1, _, by omega, rfl, by go_num, hy1, hy2, fun h => ⟨(HM.out hz0).1, ?_⟩, HAB.out.alloc _⟩
              have hn := HN.out h
              rw [List.take_of_length_le (by omega)] at hn
              exact (HM.out hz0).2.snoc hlt (by rw [HT.out]; exact hn.1.1) (by rw [HT.out]; exact hn.1.2) (by rw [HT.out]; exact hn.2)
            case measure => simp [intOf]; omega
      · go_wp2_with fail
        go_ret
        exact ⟨_, rfl, fun h => absurd h (by first | (simp; done) | (simp; omega)), HA.out⟩
    · go_wp2_with fail
      go_ret
      refine ⟨_, rfl, fun h => ?_, HA.out⟩
      have h3 : z ≤ 3000 := by simpa using h
      obtain ⟨h1, h2⟩ := HM.out h3
      rw [List.take_of_length_le (by omega)] at h2
      exact ⟨by omega, by omega, fun t ht => ⟨by have := (h2 t ht).1; omega, by have := (h2 t ht).2.1; omega, fun r hr => by have := (h2 t ht).2.2 r hr; omega⟩⟩
end Go.Proofs.Ytodifdofgjfkiaa
