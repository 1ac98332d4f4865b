/- Contracts of the program, part 16. -/
import Derived.Test.YticjnndhpfdajaaGreatPart14
import Derived.Test.YticjnndhpfdajaaGreatPart5
import Derived.Test.YticjnndhpfdajaaGreatPart7
import Derived.Test.YticjnndhpfdajaaGreatPart15
/- law07's large: it says yes or no; and the document's O. -/
namespace Go.Proofs.YticjnndhpfdajaaGreat
open Go.RowKit
set_option maxRecDepth 100000
set_option linter.unusedVariables false
def AnyBool (w : World) (e : Ending) (w' : World) : Prop := ∃ b : Bool, e = .returned (.bool b) ∧ Aft w w'
set_option maxHeartbeats 4000000 in
theorem large_any (o : Objs) (As : Option Addr) (caps : Nat) (At : Option Addr) (capt : Nat) (w : World) (hsch : SlAt w 2 SchR As caps o.schemas) (htab : SlAt w 5 TabR At capt o.tables) :
    Calls Tryz.prog 14 #[.agg #[.slice As o.schemas.length caps, .slice At o.tables.length capt]] w
      (AnyBool w) := by
  have hlen := hsch.len
  have hlen2 := htab.len
  go_enter Tryz.func14, Tryz.ntmps14
  go_wp2_with fail
  go_loopw [3, 4] (fun n i wr => ∃ (k : Nat) (z : Int), k ≤ o.tables.length ∧ n = .int .i64 z ∧ i = .int .i64 k ∧ Aft (w.alloc (.cells #[.slice As o.schemas.length caps, .slice At o.tables.length capt] 25)) wr) (fun _ i _ => o.tables.length - (intOf i).toNat)
  case atStart => exact ⟨0, _, Nat.zero_le _, rfl, rfl, Aft.refl _⟩
  case round =>
    obtain ⟨k, z, hk, rfl, rfl, ha⟩ := hrel
    obtain ⟨hbox, hfr, hz, hzk, HA⟩ := aft_box ha
    have HAB := Lib.hid ha
    clear ha
    by_cases hlt : k < o.tables.length
    · by_cases hz0 : z ≤ 3000
      · obtain ⟨b, off, B2, capB2, B3, capB3, rfl, hb, c0, c1, c2, c3, c4, hcols, hrules, hss⟩ := tab_at (tabs_aft HA.out htab) hlt
        obtain ⟨t, ht0⟩ : ∃ t, o.tables[k] = t := ⟨_, rfl⟩
        rw [ht0] at c0 c1 c2 c3 c4 hcols hrules
        clear ht0 hss
        have hl3 := hrules.len
        go_wp2_with fail
        go_loop [3, 6] (fun n i => ∃ (m : Nat) (z : Int), m ≤ t.rules.length ∧ n = .int .i64 z ∧ i = .int .i64 m) (fun _ i => t.rules.length - (intOf i).toNat)
        case atStart => exact ⟨0, _, Nat.zero_le _, rfl, rfl⟩
        case round =>
          obtain ⟨m, z2, hm, rfl, rfl⟩ := hrel
          by_cases hlt2 : m < t.rules.length
          · by_cases hz2 : z2 ≤ 3000
            · obtain ⟨b3, off3, D2, capD2, rfl, hb3, e0, e1, e2, e3, e4, e5, e6, e7, hcs, hss3⟩ := rul_at hrules hlt2
              go_wp2_with fail
              go_round
              case rel => exact ⟨m + 1, _, by omega, rfl, by go_num⟩
              case measure => simp [intOf]; omega
            · go_wp2_with fail
              go_roundw
              case rel => exact ⟨k + 1, _, by omega, rfl, by go_num, HAB.out.alloc _⟩
              case measure => simp [intOf]; omega
          · go_wp2_with fail
            go_roundw
            case rel => exact ⟨k + 1, _, by omega, rfl, by go_num, HAB.out.alloc _⟩
            case measure => simp [intOf]; omega
      · go_wp2_with fail
        go_ret
        exact ⟨_, rfl, HA.out⟩
    · go_wp2_with fail
      go_ret
      exact ⟨_, rfl, HA.out⟩
def oneO : Objs := ⟨[⟨⟨#[115]⟩, ⟨#[111]⟩⟩], [⟨⟨#[115]⟩, ⟨#[116]⟩, ⟨#[111]⟩, [⟨⟨#[120]⟩, 2, false⟩, ⟨⟨#[121]⟩, 3, true⟩], [⟨⟨#[107]⟩, 2, [⟨#[120]⟩], 0, 0, ByteArray.empty, ByteArray.empty, ByteArray.empty⟩]⟩]⟩
theorem oneO_ok : checkO oneO = true := by decide +kernel
theorem oneO_no : checkO ⟨[], oneO.tables⟩ = false := by decide +kernel
def OnePost (w : World) (e : Ending) (w' : World) : Prop := ∃ As caps At capt, e = .returned (.agg #[.slice As 1 caps, .slice At 1 capt]) ∧ Aft w w' ∧ SlAt w' 2 SchR As caps oneO.schemas ∧ SlAt w' 5 TabR At capt oneO.tables
set_option maxHeartbeats 4000000 in
theorem one_any (w : World) :
    Calls Tryz.prog 80 #[] w (OnePost w) := by
  have l1 : w.heap.size < w.heap.size + 1 := by omega
  have l2 : w.heap.size < w.heap.size + 1 + 1 := by omega
  have l3 : w.heap.size < w.heap.size + 1 + 1 + 1 := by omega
  have l4 : w.heap.size < w.heap.size + 1 + 1 + 1 + 1 := by omega
  have l5 : w.heap.size < w.heap.size + 1 + 1 + 1 + 1 + 1 := by omega
  have l6 : w.heap.size < w.heap.size + 1 + 1 + 1 + 1 + 1 + 1 := by omega
  have l7 : w.heap.size < w.heap.size + 1 + 1 + 1 + 1 + 1 + 1 + 1 := by omega
  have l8 : w.heap.size < w.heap.size + 1 + 1 + 1 + 1 + 1 + 1 + 1 + 1 := by omega
  go_enter Tryz.func80, Tryz.ntmps80
  go_wp2_with fail
  (try simp only [Exit.inBlock, Exit.then])
  refine bodyPost_ret (results_cell (v := .agg #[.slice (some ⟨w.heap.size + 1 + 1 + 1 + 1 + 1 + 1, 0, none⟩) 1 1, .slice (some ⟨w.heap.size + 1 + 1 + 1 + 1 + 1 + 1 + 1, 0, none⟩) 1 1]) rfl _ rfl ?hl) rfl ?_
  case hl => exact lvObj_box ((((((((Aft.refl _).alloc _).alloc _).alloc _).alloc _).alloc _).alloc _).alloc _)
  refine ⟨_, _, _, _, rfl, ((((((((Aft.refl _).alloc _).alloc _).alloc _).alloc _).alloc _).alloc _).alloc _).alloc _, ?s, ?t⟩
  case s => exact slAt_one _ [.string ⟨#[115]⟩, .string ⟨#[111]⟩] #[.string ⟨#[115]⟩, .string ⟨#[111]⟩] (by first | (simp; done) | (simp; omega)) (by intro o; (repeat (refine (World.cell?_alloc_past _ _ _ (by first | (simp; done) | (simp; omega))).trans ?_)); exact World.cell?_alloc_at _ _ _ _ (by simp)) rfl rfl ⟨rfl, by unfold Small; decide, by unfold Small; decide⟩ (by omega)
  case t =>
    refine slAt_one _ [.string ⟨#[115]⟩, .string ⟨#[116]⟩, .string ⟨#[111]⟩, .slice (some ⟨w.heap.size + 1 + 1 + 1, 0, none⟩) 2 2, .slice (some ⟨w.heap.size + 1 + 1 + 1 + 1, 0, none⟩) 1 1] #[.string ⟨#[115]⟩, .string ⟨#[116]⟩, .string ⟨#[111]⟩, .slice (some ⟨w.heap.size + 1 + 1 + 1, 0, none⟩) 2 2, .slice (some ⟨w.heap.size + 1 + 1 + 1 + 1, 0, none⟩) 1 1] (by first | (simp; done) | (simp; omega)) (by intro o; (repeat (refine (World.cell?_alloc_past _ _ _ (by first | (simp; done) | (simp; omega))).trans ?_)); exact World.cell?_alloc_at _ _ _ _ (by simp)) rfl rfl ⟨_, _, _, _, rfl, ?c, ?r, by unfold Small; decide, by unfold Small; decide, by unfold Small; decide⟩ (by omega)
    case c => exact slAt_box _ (fun c => [.string c.name, .int .i64 c.kind, .bool c.null]) #[.string ⟨#[120]⟩, .int .i64 2, .bool false, .string ⟨#[121]⟩, .int .i64 3, .bool true] (by first | (simp; done) | (simp; omega)) (by intro o; (repeat (refine (World.cell?_alloc_past _ _ _ (by first | (simp; done) | (simp; omega))).trans ?_)); exact World.cell?_alloc_at _ _ _ _ (by simp)) rfl (fun _ => rfl) (by intro x hx; refine ⟨rfl, ?_⟩; simp [oneO] at hx; rcases hx with rfl | rfl <;> (unfold Small; decide)) (by unfold Small; decide) (by decide)
    case r =>
      refine slAt_one _ [.string ⟨#[107]⟩, .int .i64 2, .slice (some ⟨w.heap.size + 1, 0, none⟩) 1 1, .int .i64 0, .int .i64 0, .string ⟨#[]⟩, .string ⟨#[]⟩, .string ⟨#[]⟩] #[.string ⟨#[107]⟩, .int .i64 2, .slice (some ⟨w.heap.size + 1, 0, none⟩) 1 1, .int .i64 0, .int .i64 0, .string ⟨#[]⟩, .string ⟨#[]⟩, .string ⟨#[]⟩] (by first | (simp; done) | (simp; omega)) (by intro o; (repeat (refine (World.cell?_alloc_past _ _ _ (by first | (simp; done) | (simp; omega))).trans ?_)); exact World.cell?_alloc_at _ _ _ _ (by simp)) rfl rfl ⟨_, _, rfl, ?n, by unfold Small; decide, by unfold Small; decide, by unfold Small; decide, by unfold Small; decide⟩ (by omega)
      case n => exact slAt_one _ [.string ⟨#[120]⟩] #[.string ⟨#[120]⟩] (by first | (simp; done) | (simp; omega)) (by intro o; (repeat (refine (World.cell?_alloc_past _ _ _ (by first | (simp; done) | (simp; omega))).trans ?_)); exact World.cell?_alloc_at _ _ _ _ (by simp)) rfl rfl ⟨rfl, by unfold Small; decide⟩ (by omega)
end Go.Proofs.YticjnndhpfdajaaGreat
/- law07's large: what it lets by is no great thing. -/
namespace Go.Proofs.YticjnndhpfdajaaGreat
open Go.RowKit
set_option maxRecDepth 100000
set_option linter.unusedVariables false
def LargeP (w : World) (o : Objs) (e : Ending) (w' : World) : Prop := ∃ b : Bool, e = .returned (.bool b) ∧ (b = false → ModO o) ∧ Aft w w'
def ModTs (l : List Tab) : Prop := ∀ t ∈ l, t.cols.length ≤ 3000 ∧ t.rules.length ≤ 3000 ∧ ∀ r ∈ t.rules, r.cols.length ≤ 3000
theorem ModTs.snoc {l : List Tab} {k : Nat} (hk : k < l.length) (h : ModTs (l.take k)) (h1 : l[k].cols.length ≤ 3000) (h2 : l[k].rules.length ≤ 3000) (h3 : ∀ r ∈ l[k].rules, r.cols.length ≤ 3000) : ModTs (l.take (k + 1)) := by
  intro t ht
  rw [List.take_succ_eq_append_getElem hk, List.mem_append, List.mem_singleton] at ht
  rcases ht with ht | rfl
  · exact h t ht
  · exact ⟨h1, h2, h3⟩
theorem mem_snoc_all {α : Type} {l : List α} {k : Nat} (hk : k < l.length) {P : α → Prop} (h : ∀ r ∈ l.take k, P r) (h1 : P l[k]) : ∀ r ∈ l.take (k + 1), P r := by
  intro r hr
  rw [List.take_succ_eq_append_getElem hk, List.mem_append, List.mem_singleton] at hr
  rcases hr with hr | rfl
  · exact h r hr
  · exact h1
set_option maxHeartbeats 4000000 in
theorem large_mod (o : Objs) (As : Option Addr) (caps : Nat) (At : Option Addr) (capt : Nat) (w : World) (hsch : SlAt w 2 SchR As caps o.schemas) (htab : SlAt w 5 TabR At capt o.tables) :
    Calls Tryz.prog 14 #[.agg #[.slice As o.schemas.length caps, .slice At o.tables.length capt]] w
      (LargeP w o) := by
  have hlen := hsch.len
  have hlen2 := htab.len
  go_enter Tryz.func14, Tryz.ntmps14
  go_wp2_with fail
  go_loopw [3, 4] (fun n i wr => ∃ (k : Nat) (z : Int), k ≤ o.tables.length ∧ n = .int .i64 z ∧ i = .int .i64 k ∧ 0 ≤ z ∧ z ≤ 140737488351232 ∧ (z ≤ 3000 → (o.schemas.length ≤ 3000 ∧ o.tables.length ≤ 3000) ∧ ModTs (o.tables.take k)) ∧ Aft (w.alloc (.cells #[.slice As o.schemas.length caps, .slice At o.tables.length capt] 25)) wr) (fun _ i _ => o.tables.length - (intOf i).toNat)
  case atStart => exact ⟨0, _, Nat.zero_le _, rfl, rfl, by omega, by omega, fun h => ⟨⟨by omega, by omega⟩, fun t ht => by simp at ht⟩, Aft.refl _⟩
  case round =>
    obtain ⟨k, z, hk, rfl, rfl, hz1, hz2, hmod, ha⟩ := hrel
    obtain ⟨hbox, hfr, hz, hzk, HA⟩ := aft_box ha
    have HAB := Lib.hid ha
    have HM := Lib.hid hmod
    clear ha hmod
    by_cases hlt : k < o.tables.length
    · by_cases hz0 : z ≤ 3000
      · obtain ⟨b, off, B2, capB2, B3, capB3, rfl, hb, c0, c1, c2, c3, c4, hcols, hrules, hss⟩ := tab_at (tabs_aft HA.out htab) hlt
        obtain ⟨t, ht0⟩ : ∃ t, o.tables[k] = t := ⟨_, rfl⟩
        rw [ht0] at c0 c1 c2 c3 c4 hcols hrules
        have HT := Lib.hid ht0
        clear ht0 hss
        have hl2 := hcols.len
        have hl3 := hrules.len
        go_wp2_with fail
        go_loop [3, 6] (fun n i => ∃ (m : Nat) (z : Int), m ≤ t.rules.length ∧ n = .int .i64 z ∧ i = .int .i64 m ∧ 0 ≤ z ∧ z ≤ 140737488351232 ∧ (z ≤ 3000 → (t.cols.length ≤ 3000 ∧ t.rules.length ≤ 3000) ∧ ∀ r ∈ t.rules.take m, r.cols.length ≤ 3000)) (fun _ i => t.rules.length - (intOf i).toNat)
        case atStart => exact ⟨0, _, Nat.zero_le _, rfl, rfl, by omega, by omega, fun h => ⟨⟨by omega, by omega⟩, fun r hr => by simp at hr⟩⟩
        case round =>
          obtain ⟨m, z2, hm, rfl, rfl, hy1, hy2, hmod⟩ := hrel
          have HN := Lib.hid hmod
          clear hmod
          by_cases hlt2 : m < t.rules.length
          · by_cases hz2 : z2 ≤ 3000
            · obtain ⟨b3, off3, D2, capD2, rfl, hb3, e0, e1, e2, e3, e4, e5, e6, e7, hcs, hss3⟩ := rul_at hrules hlt2
              have hl4 := hcs.len
              go_wp2_with fail
              go_round
              case rel => exact ⟨m + 1, _, by omega, rfl, by go_num, by omega, by omega, fun h => ⟨(HN.out hz2).1, mem_snoc_all (P := fun r : Rul => r.cols.length ≤ 3000) hlt2 (HN.out hz2).2 (by omega)⟩⟩
              case measure => simp [intOf]; omega
            · go_wp2_with fail
              go_roundw
              case rel => exact ⟨k + 1, _, by omega, rfl, by go_num, hy1, hy2, fun h => absurd h hz2, HAB.out.alloc _⟩
              case measure => simp [intOf]; omega
          · go_wp2_with fail
            go_roundw
            case rel =>
              refine ⟨k + 1, _, by omega, rfl, by go_num, hy1, hy2, fun h => ⟨(HM.out hz0).1, ?_⟩, HAB.out.alloc _⟩
              have hn := HN.out h
              rw [List.take_of_length_le (by omega)] at hn
              exact (HM.out hz0).2.snoc hlt (by rw [HT.out]; exact hn.1.1) (by rw [HT.out]; exact hn.1.2) (by rw [HT.out]; exact hn.2)
            case measure => simp [intOf]; omega
      · go_wp2_with fail
        go_ret
        exact ⟨_, rfl, fun h => absurd h (by first | (simp; done) | (simp; omega)), HA.out⟩
    · go_wp2_with fail
      go_ret
      refine ⟨_, rfl, fun h => ?_, HA.out⟩
      have h3 : z ≤ 3000 := by simpa using h
      obtain ⟨h1, h2⟩ := HM.out h3
      rw [List.take_of_length_le (by omega)] at h2
      exact ⟨by omega, by omega, fun t ht => ⟨by have := (h2 t ht).1; omega, by have := (h2 t ht).2.1; omega, fun r hr => by have := (h2 t ht).2.2 r hr; omega⟩⟩
end Go.Proofs.YticjnndhpfdajaaGreat
/- What all laws of objects lean on: objects laid into a result, the document's error, told of what came out twice. -/
namespace Go.Proofs.YticjnndhpfdajaaGreat
open Go.RowKit Go.Deep
set_option maxRecDepth 100000
set_option linter.unusedVariables false
theorem setO_row {w : World} {b : Nat} {xs : List Value} (h : RowAt w b xs) (hl : xs.length = 2) (v0 v1 : Value) : RowAt ((w.setCell ⟨b, 0, none⟩ v0).setCell ⟨b, 1, none⟩ v1) b [v0, v1] := by
  match xs, hl with
  | [a, b], _ => exact (h.set 0 _ (by simp)).set 1 _ (by simp)
theorem setO_kb (w : World) (b : Nat) (v0 v1 : Value) : Kb (fun g => g = b) w ((w.setCell ⟨b, 0, none⟩ v0).setCell ⟨b, 1, none⟩ v1) := (Kb.set _ _ _ _).trans (Kb.set _ _ _ _)
/-- objects that were laid into a result's own variable -/
theorem objP_set {w W w1 : World} {r : Objs × Int} {b : Nat} {hs ht : Hd} {L : List OTab} {v0 v1 : Value} {e : Ending} (a : Aft w w1) (hL : L.map OTab.t = r.1.tables) (ob : ObjIn w1 W.heap.size hs ht r.1.schemas L) (hb : w.heap.size ≤ b) (hbW : b < W.heap.size)
    (he : e = .returned (.tuple #[.agg #[.slice hs.a r.1.schemas.length hs.c, .slice ht.a r.1.tables.length ht.c], .int .i64 r.2])) : ObjP w r e ((w1.setCell ⟨b, 0, none⟩ v0).setCell ⟨b, 1, none⟩ v1) := by
  refine ⟨hs, ht, L, hL, he, (setO_kb w1 b v0 v1).to_aft a (fun g hg e => by omega), ?_⟩
  refine ObjIn.down (ob.kb (setO_kb w1 b v0 v1) fun g hg e => ?_) (by omega)
  have := (ob.lt g hg).1
  omega
theorem objP_zset {w w1 : World} {c : Int} {b : Nat} {v0 v1 : Value} (a : Aft w w1) (hb : w.heap.size ≤ b) : ObjP w (zeroO, c) (.returned (.tuple #[.agg #[.slice none 0 0, .slice none 0 0], .int .i64 c])) ((w1.setCell ⟨b, 0, none⟩ v0).setCell ⟨b, 1, none⟩ v1) :=
  objP_zero ((setO_kb w1 b v0 v1).to_aft a (fun g hg e => by omega))
theorem ObjP.aft {w w' w'' : World} {r : Objs × Int} {e : Ending} (h : ObjP w r e w') (a : Aft w' w'') : ObjP w r e w'' := by
  obtain ⟨hs, ht, L, hL, he, ha, ob⟩ := h
  exact ⟨hs, ht, L, hL, he, ha.trans a, ob.aft a⟩
set_option maxHeartbeats 1000000 in
theorem rNo_in (c : Int) (w : World) : Calls Tryz.prog 71 #[.int .i64 c] w fun e w' => e = .returned (.tuple #[.agg #[.slice none 0 0, .slice none 0 0], .int .i64 c]) ∧ Aft w w' := by
  have HA := Lib.hid (show Aft w (w.alloc (.cells #[.slice none 0 0, .slice none 0 0] 25)) from (Aft.refl w).alloc _)
  go_enter Tryz.func71, Tryz.ntmps71
  go_wp2_with fail
  refine bodyPost_ret (results_cell_tmp (v := .agg #[.slice none 0 0, .slice none 0 0]) rfl _ rfl (lvObj_box (Aft.refl _))) rfl ⟨rfl, HA.out⟩
theorem smO_zero : SmO zeroO := ⟨⟨by simp [zeroO, Small], fun s hs => by simp [zeroO] at hs⟩, by simp [zeroO, Small], fun t ht => by simp [zeroO] at ht⟩
theorem smO_set {o : Objs} {q : Nat} {t : Tab} (h : SmO o) (ht : SmT t) : SmO ⟨o.schemas, o.tables.set q t⟩ := by
  refine ⟨h.1, by rw [List.length_set]; exact h.2.1, fun x hx => ?_⟩
  by_cases hq : q < o.tables.length
  · rcases mem_set_cases hq hx with rfl | ⟨i, hi, _, rfl⟩
    · exact ht
    · exact h.2.2 _ (List.getElem_mem hi)
  · have hx' : x ∈ o.tables.set q t := hx
    rw [List.set_eq_of_length_le (by omega)] at hx'
    exact h.2.2 x hx'
theorem smO_chg {o : Objs} {r : Objs × Int} (h : SmO r.1) : SmO (chgR o r).1 := by
  unfold chgR; split
  · exact h
  · exact smO_zero
theorem Kp.kb {B B' : Nat} {w w' : World} (h : Kp B B' w w') : Kb (fun k => B ≤ k ∧ k < B') w w' := ⟨h.os, h.tape, h.output, h.size, fun k hk hn => h.block k hk (by omega)⟩
theorem own_shv2 {w : World} {B B' size n : Nat} {e : TypeId} {h : Hd} {xs : List Value} (o : w.ownsRow B e size h.v n xs) (hb : n * 16 ≤ 140737488351232) (hl : ∀ g ∈ h.blk, g < B') : ShV w B B' e size h := by
  obtain ⟨s1, s2⟩ := own_shv o hb
  refine ⟨s1, fun h0 => ?_⟩
  obtain ⟨g, hg, hk⟩ := s2 h0
  exact ⟨g, hg, hk.1, hl g (by unfold Hd.blk; rw [hg]; simp), hk.2.2⟩
theorem TabIn.shR2 {w : World} {B B' : Nat} {x : OTab} (h : TabIn w B x) (hs : SmT x.t) (hl : ∀ g ∈ x.blks, g < B') : ShR w B B' x.hr (fun j => (x.rules[j]?.map (·.h)).getD ⟨none, 0, 0⟩) := by
  obtain ⟨s1, s2, s3⟩ := h.shR hs
  have hn := own_n h.rul
  refine ⟨s1, fun h0 => ?_, fun j hj => ?_⟩
  · obtain ⟨g, hg, hk, hc⟩ := s2 h0
    exact ⟨g, hg, ⟨hk.1, hl g (by unfold OTab.blks Hd.blk; rw [hg]; simp), hk.2.2⟩, hc⟩
  · have hj' : j < x.rules.length := by omega
    have hm := List.getElem_mem hj'
    simp only [List.getElem?_eq_getElem hj', Option.map_some, Option.getD_some]
    refine own_shv2 (h.each _ hm).nam ?_ (fun g hg => hl g (by unfold OTab.blks; simp only [List.mem_append, List.mem_flatMap]; exact .inr (.inr ⟨_, hm, hg⟩)))
    have := (hs.2.1.2 _ (List.mem_map_of_mem (f := ORul.r) hm)).1
    simpa [Small] using this
theorem ObjIn.sh2 {w : World} {B B' : Nat} {hs ht : Hd} {ss : List Sch} {L : List OTab} (h : ObjIn w B hs ht ss L) (sm : SmO (objOf ss L)) (hl : ∀ g ∈ hs.blk ++ (ht.blk ++ L.flatMap OTab.blks), g < B') : Sh w B B' hs ht (layOf L) := by
  obtain ⟨s0, t1, t2, t3⟩ := h.sh sm
  have hn := own_n h.tab
  have hb1 : ss.length * 16 ≤ 140737488351232 := by simpa [objOf, Small] using sm.1.1
  refine ⟨own_shv2 h.sch hb1 (fun g hg => hl g (by simp [hg])), t1, fun h0 => ?_, fun i hi => ?_⟩
  · obtain ⟨g, hg, hk, hc⟩ := t2 h0
    exact ⟨g, hg, ⟨hk.1, hl g (by unfold Hd.blk; rw [hg]; simp), hk.2.2⟩, hc⟩
  · have hi' : i < L.length := by omega
    have hm := List.getElem_mem hi'
    have smx := sm.2.2 _ (List.mem_map_of_mem (f := OTab.t) hm)
    have hlx : ∀ g ∈ L[i].blks, g < B' := fun g hg => hl g (by simp only [List.mem_append, List.mem_flatMap]; exact .inr (.inr ⟨_, hm, hg⟩))
    unfold layOf
    simp only [List.getElem?_eq_getElem hi', Option.map_some, Option.getD_some]
    exact ⟨own_shv2 (h.each _ hm).col (by simpa [OTab.t, Small] using smx.1.1) (fun g hg => hlx g (by unfold OTab.blks; simp [hg])), (h.each _ hm).shR2 smx hlx⟩
theorem told2_in (r : Objs × Int) (o : Objs) (E : Option Addr) (capE : Nat) (E2 : Option Addr) (capE2 : Nat) (F : Option Addr) (capF : Nat) (F2 : Option Addr) (capF2 : Nat) (hs ht hs2 ht2 : Hd) (L L2 : List OTab) (W0 w : World) (B B' B2 : Nat) (sm : SmO r.1)
    (hL : L.map OTab.t = r.1.tables) (ob : ObjIn w B hs ht r.1.schemas L) (hl : ∀ g ∈ hs.blk ++ (ht.blk ++ L.flatMap OTab.blks), g < B') (hB' : B' ≤ w.heap.size) (hL2 : L2.map OTab.t = r.1.tables) (ob2 : ObjIn w B2 hs2 ht2 r.1.schemas L2) (hB : W0.heap.size ≤ B) (a0 : Aft W0 w)
    (o1 : SlAt W0 2 SchR E capE o.schemas) (o2 : SlAt W0 5 TabR E2 capE2 o.tables) (f1 : SlAt W0 2 SchR F capF o.schemas) (f2 : SlAt W0 5 TabR F2 capF2 o.tables) :
    Calls Tryz.prog 21 #[.agg #[.slice hs.a r.1.schemas.length hs.c, .slice ht.a r.1.tables.length ht.c], .int .i64 r.2, .agg #[.slice hs2.a r.1.schemas.length hs2.c, .slice ht2.a r.1.tables.length ht2.c], .int .i64 r.2, .agg #[.slice E o.schemas.length capE, .slice E2 o.tables.length capE2], .agg #[.slice F o.schemas.length capF, .slice F2 o.tables.length capF2]] w
      fun e' w' => e' = .returned (.bool true) ∧ Kb (fun k => B ≤ k ∧ k < B') w w' ∧ Aft W0 w' := by
  have e1 : objOf r.1.schemas L = r.1 := by unfold objOf; rw [hL]
  have e2 : objOf r.1.schemas L2 = r.1 := by unfold objOf; rw [hL2]
  have g1 := ob.schs (by rw [e1]; exact sm)
  have g2 := ob.tabs (by rw [e1]; exact sm)
  have d1 := ob2.schs (by rw [e2]; exact sm)
  have d2 := ob2.tabs (by rw [e2]; exact sm)
  rw [hL] at g2
  rw [hL2] at d2
  have n1 : hs.n = r.1.schemas.length := own_n ob.sch
  have n2 : ht.n = r.1.tables.length := by rw [own_n ob.tab, ← hL]; simp
  have sh := ob.sh2 (by rw [e1]; exact sm) hl
  obtain ⟨ha, hn, hc⟩ := hs
  obtain ⟨ta, tn, tc⟩ := ht
  have n1' : hn = r.1.schemas.length := n1
  have n2' : tn = r.1.tables.length := n2
  subst n1' n2'
  exact (told_any r.1 o _ _ _ _ _ _ _ _ E capE E2 capE2 F capF F2 capF2 r.2 W0 w B B' (layOf L) hB hB' a0 g1 g2 d1 d2 o1 o2 f1 f2 sh).mono fun e w' ⟨he, hk⟩ => ⟨he, hk.kb, hk.to_aft a0 hB⟩
/-- objects of one table, as they lie -/
def OneP (w : World) (ns : Nat) (t : Tab) (c : Int) (e : Ending) (w' : World) : Prop :=
  ∃ S cS gt ct A cA A2 cA2, e = .returned (.tuple #[.agg #[.slice S ns cS, .slice (some ⟨gt, 0, none⟩) 1 ct], .int .i64 c]) ∧ Aft w w' ∧ gt < w'.heap.size ∧ w'.cell? ⟨gt, 0, none⟩ = some (.string t.schema) ∧ w'.cell? ⟨gt, 1, none⟩ = some (.string t.name) ∧ w'.cell? ⟨gt, 3, none⟩ = some (.slice A t.cols.length cA) ∧ w'.cell? ⟨gt, 4, none⟩ = some (.slice A2 t.rules.length cA2)
theorem objP_one {w w' : World} {X : Objs} {t : Tab} {c : Int} {e : Ending} (h : ObjP w (X, c) e w') (ht : X.tables = [t]) : OneP w X.schemas.length t c e w' := by
  obtain ⟨hs, hT, L, hL, he, a, ob⟩ := h
  have hL : L.map OTab.t = X.tables := hL
  rw [ht] at hL
  match L, hL with
  | [x], hL =>
    have hx : x.t = t := by simpa using hL
    obtain ⟨gt, hgt, _, hr⟩ := own_place ob.tab (by simp)
    obtain ⟨At, nt, ct⟩ := hT
    have hgt' : At = some ⟨gt, 0, none⟩ := hgt
    subst hgt'
    have tq := ob.nth (q := 0) (by simp)
    have e0 := ob.cell (q := 0) (j := 0) rfl (by simp) (by decide)
    have e1 := ob.cell (q := 0) (j := 1) rfl (by simp) (by decide)
    have e3 := ob.cell (q := 0) (j := 3) rfl (by simp) (by decide)
    have e4 := ob.cell (q := 0) (j := 4) rfl (by simp) (by decide)
    have hcv : x.hc.v = .slice x.hc.a x.cols.length x.hc.c := own_slice tq.col
    have hrv : x.hr.v = .slice x.hr.a x.rules.length x.hr.c := own_slice tq.rul
    refine ⟨hs.a, hs.c, gt, ct, x.hc.a, x.hc.c, x.hr.a, x.hr.c, ?_, a, hr.1, ?_, ?_, ?_, ?_⟩
    · rw [he]; simp only [ht, List.length_singleton]
    · rw [← hx]; simpa [OTab.cells, OTab.t] using e0
    · rw [← hx]; simpa [OTab.cells, OTab.t] using e1
    · rw [← hx]; simp only [Nat.zero_mul, Nat.zero_add] at e3; rw [e3]; show some x.hc.v = _; rw [hcv]; rfl
    · rw [← hx]; simp only [Nat.zero_mul, Nat.zero_add] at e4; rw [e4]; show some x.hr.v = _; rw [hrv]; simp [OTab.t]
/-- nothing but an error -/
def ErrP (w : World) (c : Int) (e : Ending) (w' : World) : Prop := ∃ S cS T cT, e = .returned (.tuple #[.agg #[.slice S 0 cS, .slice T 0 cT], .int .i64 c]) ∧ Aft w w'
theorem objP_err {w w' : World} {c : Int} {e : Ending} (h : ObjP w (zeroO, c) e w') : ErrP w c e w' := by
  obtain ⟨hs, hT, L, hL, he, a, ob⟩ := h
  exact ⟨hs.a, hs.c, hT.a, hT.c, he, a⟩
end Go.Proofs.YticjnndhpfdajaaGreat
