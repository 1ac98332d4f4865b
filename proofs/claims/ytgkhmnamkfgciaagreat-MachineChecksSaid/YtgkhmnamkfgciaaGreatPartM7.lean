/- Contracts of the program, part 7. -/
import Derived.Deep.DeepMust
import Derived.Deep.RegionHeld3
import Derived.OwnWalk
import Derived.Laws.AppendOwn
import Derived.ProofKit
import Derived.OpenShut
import Derived.Deep.Slices
import Derived.ChangeOld
import Derived.SizedLaws
import Derived.WalkKit
import Derived.WalkSpells
import Derived.WalkLawsBesides
import Derived.Lib.Hide
import Derived.Deep.QuietTactic
import Derived.BigQuiet
import Derived.Below
import Derived.Deep.Draws
import Derived.StillTailTactics
import Derived.Laws.Cells
import Derived.Laws.IdiomCopy
import Derived.Test.YtgkhmnamkfgciaaGreatRows
import Derived.Lib.Walk
import Derived.Deep.AppendLies
import Derived.Laws.EntriesVeiled
import Derived.Maps.Own
import Derived.Maps.Views
import Derived.Deep.Upon
import Derived.OneCell
import Derived.OrdersHeld
import Derived.IntWalk
import Derived.Lib.Bytealg
import Derived.Lib.SliceRun
import Derived.Deep.RegionLaw
import Derived.Lib.AppendZerosOnto
import Derived.Lib.Overlaps
import Derived.Test.YtgkhmnamkfgciaaGreatPartM1
import Derived.Test.YtgkhmnamkfgciaaGreatPartM2
import Derived.Test.YtgkhmnamkfgciaaGreatPartM3
import Derived.Test.YtgkhmnamkfgciaaGreatPartM4
import Derived.Test.YtgkhmnamkfgciaaGreatPartM5
import Derived.Test.YtgkhmnamkfgciaaGreatPartM6
namespace Go.Proofs.YtgkhmnamkfgciaaGreat
open Go.RowKit Go.Deep
set_option maxRecDepth 100000
set_option linter.unusedVariables false
theorem filter_snoc8 {α : Type} {p : α → Bool} {l : List α} {k : Nat} (hk : k < l.length) : (l.take (k + 1)).filter p = (l.take k).filter p ++ (if p l[k] then [l[k]] else []) := by
  rw [List.take_succ_eq_append_getElem hk, List.filter_append]
  congr 1
  cases h : p l[k] <;> simp [h]
def Shut (ms : List Mbr) (S : List ByteArray) (k : Nat) : Prop := ∀ j, j < k → ∀ (h : j < ms.length), inB S ms[j].role = true → inB S ms[j].of = true
structure ReS (w W0 wr : World) (ms : List Mbr) (role : ByteArray) (h : Hd) (S : List ByteArray) : Prop where
  aft : Aft W0 wr
  own : wr.ownsRow (w.heap.size + 1) 9 1 h.v S.length (S.flatMap nameC)
  fnd : Fnd ms role S
  sm : ∀ x ∈ S, Small x.size
theorem ReS.sl {w W0 wr : World} {ms : List Mbr} {role : ByteArray} {h : Hd} {S : List ByteArray} (s : ReS w W0 wr ms role h S) (hm : ms.length * 16 ≤ 140737488351000) : SlAt wr 1 StrR h.a h.c S :=
  own_slf nameC s.own (fun x hx => ⟨rfl, rfl, s.sm x hx⟩) (by have := s.fnd.len; unfold Small; omega)
theorem ReS.to {w W0 wr wr' : World} {ms : List Mbr} {role : ByteArray} {h : Hd} {S : List ByteArray} (s : ReS w W0 wr ms role h S) (a : Aft wr wr') : ReS w W0 wr' ms role h S := ⟨s.aft.trans a, own_aft s.own a, s.fnd, s.sm⟩
/-- what comes back: the names that are reached, in memory of their own -/
def ReachP (w : World) (r : Rls) (role : ByteArray) (e : Ending) (w' : World) : Prop :=
  ∃ h : Hd, e = .returned h.v ∧ Aft w w' ∧ w'.ownsRow w.heap.size 9 1 h.v (r.names.filter (reachB r.members role)).length ((r.names.filter (reachB r.members role)).flatMap nameC)
set_option maxHeartbeats 8000000 in
theorem rreach (r : Rls) (An : Option Addr) (capn : Nat) (Am : Option Addr) (capm : Nat) (role : ByteArray) (w : World) (hn : SlAt w 1 StrR An capn r.names) (hm : SlAt w 2 MbrR Am capm r.members) (hrs : Small role.size) (hmm : r.members.length * 16 ≤ 140737488351000) :
    Calls Tryz.prog 201 #[.agg #[.slice An r.names.length capn, .slice Am r.members.length capm], .string role] w (ReachP w r role) := by
  have hlen := hn.len
  have l1 : w.heap.size < w.heap.size + 1 := by omega
  have l2 : w.heap.size < w.heap.size + 1 + 1 := by omega
  obtain ⟨W0, hW0⟩ : ∃ W0, W0 = w.alloc (.cells #[.slice An r.names.length capn, .slice Am r.members.length capm] 29) := ⟨_, rfl⟩
  have HW0 := Lib.hid hW0
  have zW0 : W0.heap.size = w.heap.size + 1 := by rw [hW0]; simp
  have HR0 := Lib.hid (show ∀ w', Aft W0 w' → (w'.cell? ⟨w.heap.size, 0, none⟩ = some (.slice An r.names.length capn) ∧ w'.cell? ⟨w.heap.size, 1, none⟩ = some (.slice Am r.members.length capm) ∧ w.heap.size < w'.heap.size) from fun w' a => by
    rw [hW0] at a
    obtain ⟨hb, _, hz, _, _⟩ := aft_box a
    exact ⟨by rw [hb]; rfl, by rw [hb]; rfl, hz.1⟩)
  have HS0 := Lib.hid (show ReS w W0 (W0.alloc (.cells #[.string role] 9)) r.members role ⟨some ⟨w.heap.size + 1, 0, none⟩, 1, 1⟩ [role] from
    ⟨(Aft.refl _).alloc _, ⟨by simp [nameC], .inr ⟨W0.heap.size, 1, #[.string role], by rw [zW0]; rfl, by omega, heap_alloc_new W0 _, Nat.le_refl _, by unfold maxLen; omega, rfl, by simp [nameC]⟩⟩, Fnd.start _ _, fun x hx => by simp at hx; subst hx; exact hrs⟩)
  have HNM := Lib.hid (And.intro hn hm)
  have HAW := Lib.hid (show Aft w W0 by rw [hW0]; exact (Aft.refl w).alloc _)
  rw [hW0] at HS0
  clear hn hm hW0
  go_enter Tryz.func201, Tryz.ntmps201
  go_wp2_with fail
  go_loopw [5, 6] (fun u5 u6 wr => ∃ (n : Nat) (h : Hd) (S : List ByteArray), u5 = .slice h.a S.length h.c ∧ u6 = .int .i64 n ∧ n ≤ S.length ∧ ReS w W0 wr r.members role h S ∧ (n = S.length → Shut r.members S r.members.length)) (fun _ u6 _ => r.members.length + 2 - (intOf u6).toNat)
  case atStart => exact ⟨0, ⟨some ⟨w.heap.size + 1, 0, none⟩, 1, 1⟩, [role], rfl, rfl, by simp, by rw [HW0.out]; exact HS0.out, fun h => by simp at h⟩
  case round =>
    clear HS0
    obtain ⟨n, h, S, rfl, rfl, hnS, hs, hsh⟩ := hrel
    have HS := Lib.hid hs
    have HSH := Lib.hid hsh
    have hSl := hs.fnd.len
    clear hs hsh
    by_cases hlt : n < S.length
    · go_wp2_with fail
      go_loopw [5, 7] (fun u5 u7 wr => ∃ (k : Nat) (h : Hd) (S' : List ByteArray), u5 = .slice h.a S'.length h.c ∧ u7 = .int .i64 k ∧ k ≤ r.members.length ∧ S.length ≤ S'.length ∧ ReS w W0 wr r.members role h S' ∧ (S.length = S'.length → Shut r.members S' k)) (fun _ u7 _ => r.members.length - (intOf u7).toNat)
      case atStart => exact ⟨0, h, S, rfl, rfl, Nat.zero_le _, Nat.le_refl _, HS.out, fun _ j hj => absurd hj (Nat.not_lt_zero j)⟩
      case round =>
        obtain ⟨k, h', S', rfl, rfl, hk, hSS, hs', hsh'⟩ := hrel
        have HS' := Lib.hid hs'
        have HSH' := Lib.hid hsh'
        obtain ⟨e0, e1, e2⟩ := HR0.out wr hs'.aft
        have hSl' := hs'.fnd.len
        clear hs' hsh'
        by_cases hlt2 : k < r.members.length
        · obtain ⟨b, off, rfl, hb, t0, t1, hs1, hs2⟩ := mbr_at (mbrs_aft (HAW.out.trans HS'.out.aft) HNM.out.2) hlt2
          obtain ⟨m, hm2⟩ : ∃ m, r.members[k] = m := ⟨_, rfl⟩
          rw [hm2] at t0 t1 hs1 hs2
          have HMM := Lib.hid hm2
          have hlenS : S'.length * 16 ≤ 140737488351232 := by omega
          have aX : Aft wr (wr.alloc (.cells #[.string m.role, .string m.of] 142)) := (Aft.refl _).alloc _
          obtain ⟨i1, hi1⟩ : ∃ i, inB S' m.role = i := ⟨_, rfl⟩
          obtain ⟨i2, hi2⟩ : ∃ i, inB S' m.of = i := ⟨_, rfl⟩
          have K1 := Lib.hid (show ∀ w', Aft wr w' → Calls Tryz.prog 112 #[.slice h'.a S'.length h'.c, .string m.role] w' fun e w'' => e = .returned (.bool i1) ∧ w' = w'' from fun w' a => hi1 ▸ rin_any h'.a h'.c S' m.role w' (strs_aft a (HS'.out.sl hmm)))
          have K2 := Lib.hid (show ∀ w', Aft wr w' → Calls Tryz.prog 112 #[.slice h'.a S'.length h'.c, .string m.of] w' fun e w'' => e = .returned (.bool i2) ∧ w' = w'' from fun w' a => hi2 ▸ rin_any h'.a h'.c S' m.of w' (strs_aft a (HS'.out.sl hmm)))
          have HI := Lib.hid (And.intro hi1 hi2)
          clear hm2 hi1 hi2
          cases i1
          · go_wp2_with (go_at_call 112; refine (K1.out _ aX).mono ?_; rintro e w4 ⟨rfl, rfl⟩)
            go_roundw
            case rel =>
              refine ⟨k + 1, h', S', rfl, by go_num, by omega, hSS, HS'.out.to aX, fun e j hj hj2 => ?_⟩
              rcases Nat.lt_or_ge j k with h1 | h1
              · exact HSH'.out e j h1 hj2
              · have : j = k := by omega
                subst this
                rw [HMM.out, HI.out.1]
                exact fun h => Bool.noConfusion h
            case measure => simp [intOf]; omega
          cases i2
          · have HMEM := Lib.hid (show m ∈ r.members by rw [← HMM.out]; exact List.getElem_mem hlt2)
            have HV := Lib.hid (own_slice HS'.out.own)
            have HOW := Lib.hid (show (wr.alloc (.cells #[.string m.role, .string m.of] 142)).ownsRow (w.heap.size + 1) 9 1 (.slice h'.a S'.length h'.c) S'.length (S'.flatMap nameC) by rw [← HV.out]; exact own_aft HS'.out.own aX)
            obtain ⟨i0, hi0, hz0, hz1, hz2⟩ := info_parts info2Str2
            have HI0 := Lib.hid hi0
            have HZ := Lib.hid (And.intro hz0 (And.intro hz1 hz2))
            have hq7 : S'.length + 1 ≤ maxLen := by unfold maxLen; omega
            have hq8 : (S'.length + 1) * 16 ≤ 140737488355328 := by omega
            clear hi0 hz0 hz1 hz2
            go_wp2_with (first
              | (go_at_call 112; first | (with_reducible refine (K1.out _ aX).mono ?_; rintro e w4 ⟨rfl, rfl⟩) | (with_reducible refine (K2.out _ aX).mono ?_; rintro e w4 ⟨rfl, rfl⟩))
              | (at_builtin; go_must (refine wpList_append_lies _ rfl _ _ 26 rfl (w.heap.size + 1) 9 i0 _ 1 16 Tryz.underlying26 HI0.out HZ.out.1 HZ.out.2.1 HZ.out.2.2 rfl (by decide) (.slice h'.a S'.length h'.c) S'.length (S'.flatMap nameC) rfl (HOW.out.alloc _) ⟨wr.heap.size + 1, 0, none⟩ 1 1 [.string m.of] rfl rfl ?qn (by simp [Value.oneCell']) (by omega) hq7 hq8 ?qb (wr.heap.size + 1 + 1) (by simp) ?_); rotate_left 2; intro gg cap' w5 hown5 hgrow hat hgl))
            case qn => exact World.news_of_block (cs := #[.string m.of]) (t := 9) (fr := (0, 0)) (by have := heap_alloc_new (wr.alloc (.cells #[.string m.role, .string m.of] 142)) (.cells #[.string m.of] 9); simpa using this)
            case qb => simp; omega
            have HS5 := Lib.hid (show ReS w W0 w5 r.members role ⟨some ⟨gg, 0, none⟩, S'.length + 1, cap'⟩ (S' ++ [m.of]) from by
              have o5 : (wr.alloc (.cells #[.string m.role, .string m.of] 142)).ownsRow W0.heap.size 9 1 (.slice h'.a S'.length h'.c) S'.length (S'.flatMap nameC) := by rw [zW0]; exact HOW.out
              refine ⟨aft_grown (o5.alloc _) ((HS'.out.aft.trans aX).alloc _) hgrow, ?_, HS'.out.fnd.add HMEM.out HI.out.1 HI.out.2, fun x hx => ?_⟩
              · rw [List.length_append, List.flatMap_append]; exact hown5
              · rcases List.mem_append.1 hx with h1 | h1
                · exact HS'.out.sm x h1
                · rw [List.mem_singleton] at h1; rw [h1]; exact hs2)
            clear hown5 hgrow hat hgl
            go_wp2_with fail
            go_roundw
            case rel =>
              refine ⟨k + 1, ⟨some ⟨gg, 0, none⟩, S'.length + 1, cap'⟩, S' ++ [m.of], by simp, by go_num, by omega, by simp; omega, HS5.out, fun e => by simp at e; omega⟩
            case measure => simp [intOf]; omega
          · go_wp2_with (go_at_call 112; first | (with_reducible refine (K1.out _ aX).mono ?_; rintro e w4 ⟨rfl, rfl⟩) | (with_reducible refine (K2.out _ aX).mono ?_; rintro e w4 ⟨rfl, rfl⟩))
            go_roundw
            case rel =>
              refine ⟨k + 1, h', S', rfl, by go_num, by omega, hSS, HS'.out.to aX, fun e j hj hj2 => ?_⟩
              rcases Nat.lt_or_ge j k with h1 | h1
              · exact HSH'.out e j h1 hj2
              · have : j = k := by omega
                subst this
                rw [HMM.out, HI.out.2]
                exact fun _ => rfl
            case measure => simp [intOf]; omega
        · go_wp2_with fail
          go_roundw
          case rel =>
            have hkk : k = r.members.length := by omega
            exact ⟨S.length, h', S', rfl, rfl, hSS, HS'.out, fun e => hkk ▸ HSH'.out e⟩
          case measure => simp [intOf]; omega
    · have hnn : n = S.length := by omega
      have HALL := Lib.hid (HS.out.fnd.all fun m hm => by
        obtain ⟨j, hj, rfl⟩ := List.getElem_of_mem hm
        exact HSH.out hnn j hj hj)
      subst hnn
      obtain ⟨q, hq⟩ : ∃ q : ByteArray → Bool, q = reachB r.members role := ⟨_, rfl⟩
      have HQ := Lib.hid hq
      clear hq
      obtain ⟨Wf, rfl⟩ : ∃ Wf, Wf = wr := ⟨_, rfl⟩
      go_wp2_with fail
      go_loopw [9, 10] (fun u9 u10 wr => ∃ (k : Nat) (g : Hd), u9 = .slice g.a ((r.names.take k).filter q).length g.c ∧ u10 = .int .i64 k ∧ k ≤ r.names.length ∧ Aft Wf wr ∧ wr.ownsRow Wf.heap.size 9 1 g.v ((r.names.take k).filter q).length (((r.names.take k).filter q).flatMap nameC)) (fun _ u10 _ => r.names.length - (intOf u10).toNat)
      case atStart => exact ⟨0, ⟨none, 0, 0⟩, rfl, rfl, Nat.zero_le _, Aft.refl _, own_nil _ _ _ _⟩
      case round =>
        obtain ⟨k, g, rfl, rfl, hk, ha, hown⟩ := hrel
        have HA := Lib.hid ha
        have HOWN := Lib.hid hown
        obtain ⟨e0, e1, e2⟩ := HR0.out wr (HS.out.aft.trans ha)
        obtain ⟨lk0, hlk0⟩ : ∃ lk0, ((r.names.take k).filter q) = lk0 := ⟨_, rfl⟩
        rw [hlk0] at HOWN
        have hlkl : lk0.length ≤ r.names.length := by rw [← hlk0]; exact Nat.le_trans (List.length_filter_le _ _) (by rw [List.length_take]; omega)
        rw [hlk0]
        have HLK := Lib.hid hlk0
        clear hlk0 hown ha
        by_cases hlt2 : k < r.names.length
        · obtain ⟨b, off, rfl, hb, c0, hs⟩ := str_at (strs_aft (HAW.out.trans (HS.out.aft.trans HA.out)) HNM.out.1) hlt2
          obtain ⟨x, hx⟩ : ∃ x, r.names[k] = x := ⟨_, rfl⟩
          rw [hx] at c0 hs
          obtain ⟨i, hi⟩ : ∃ i, inB S x = i := ⟨_, rfl⟩
          have HNF := Lib.hid (show ((r.names.take (k + 1)).filter q) = lk0 ++ (if i then [x] else []) by rw [filter_snoc8 hlt2, HLK.out, hx, HQ.out, ← HALL.out, hi])
          have K := Lib.hid (show ∀ w', Aft wr w' → Calls Tryz.prog 112 #[.slice h.a S.length h.c, .string x] w' fun e w'' => e = .returned (.bool i) ∧ w' = w'' from fun w' a => hi ▸ rin_any h.a h.c S x w' (strs_aft (HA.out.trans a) (HS.out.sl hmm)))
          clear hx hi
          cases i
          · go_wp2_with (go_at_call 112; refine (K.out _ (Aft.refl _)).mono ?_; rintro e w4 ⟨rfl, rfl⟩)
            go_roundw
            case rel =>
              refine ⟨k + 1, g, ?_, by go_num, by omega, HA.out, ?_⟩
              · rw [HNF.out]; simp
              · rw [HNF.out]; simpa using HOWN.out
            case measure => simp [intOf]; omega
          · have HV := Lib.hid (own_slice HOWN.out)
            have HOW := Lib.hid (show wr.ownsRow Wf.heap.size 9 1 (.slice g.a lk0.length g.c) lk0.length (lk0.flatMap nameC) by rw [← HV.out]; exact HOWN.out)
            obtain ⟨i0, hi0, hz0, hz1, hz2⟩ := info_parts info2Str2
            have HI0 := Lib.hid hi0
            have HZ := Lib.hid (And.intro hz0 (And.intro hz1 hz2))
            have hq7 : lk0.length + 1 ≤ maxLen := by unfold maxLen; omega
            have hq8 : (lk0.length + 1) * 16 ≤ 140737488355328 := by omega
            have l6 : b < wr.heap.size + 1 := by omega
            clear hi0 hz0 hz1 hz2
            go_wp2_with (first
              | (go_at_call 112; refine (K.out _ (Aft.refl _)).mono ?_; rintro e w4 ⟨rfl, rfl⟩)
              | (at_builtin; go_must (refine wpList_append_lies _ rfl _ _ 26 rfl Wf.heap.size 9 i0 _ 1 16 Tryz.underlying26 HI0.out HZ.out.1 HZ.out.2.1 HZ.out.2.2 rfl (by decide) (.slice g.a lk0.length g.c) lk0.length (lk0.flatMap nameC) rfl (HOW.out.alloc _) ⟨wr.heap.size, 0, none⟩ 1 1 [.string x] rfl rfl ?qn (by simp [Value.oneCell']) (by omega) hq7 hq8 ?qb (wr.heap.size + 1) (by simp) ?_); rotate_left 2; intro gg cap' w5 hown5 hgrow hat hgl))
            case qn => exact World.news_of_block (cs := #[.string x]) (t := 9) (fr := (0, 0)) (heap_alloc_new wr _)
            case qb => have := HA.out.size; simp; omega
            have HA5 := Lib.hid (show Aft Wf w5 from aft_grown (HOW.out.alloc _) (HA.out.alloc _) hgrow)
            have HO5 := Lib.hid hown5
            clear hown5 hgrow hat hgl
            go_wp2_with fail
            go_roundw
            case rel =>
              refine ⟨k + 1, ⟨some ⟨gg, 0, none⟩, lk0.length + 1, cap'⟩, ?_, by go_num, by omega, HA5.out, ?_⟩
              · rw [HNF.out]; simp
              · rw [HNF.out]
                simp only [if_true, List.length_append, List.length_singleton, List.flatMap_append]
                exact HO5.out
            case measure => simp [intOf]; omega
        · have HP := Lib.hid (show ReachP w r role (.returned (.slice g.a lk0.length g.c)) wr from by
            have hl : lk0 = r.names.filter (reachB r.members role) := by rw [← HLK.out, List.take_of_length_le (by omega), HQ.out]
            refine ⟨g, by rw [own_slice HOWN.out], HAW.out.trans (HS.out.aft.trans HA.out), ?_⟩
            rw [← hl]
            exact own_down HOWN.out (by have := (HAW.out.trans HS.out.aft).size; omega))
          go_wp2_with fail
          go_ret
          exact HP.out
end Go.Proofs.YtgkhmnamkfgciaaGreat

namespace Go.Proofs.YtgkhmnamkfgciaaGreat
open Go.RowKit Go.Deep
set_option maxRecDepth 100000
set_option linter.unusedVariables false
def mIn (r : Rls) (m : Mbr) : Bool := inB r.names m.role && inB r.names m.of
def rowsR (r : Rls) : Bool := r.names.all nameB && risesB cmpS r.names && (r.members.all (mIn r) && risesB cmpM r.members)
theorem rightR_rows (r : Rls) : rightR r = (decide (r.names.length ≤ 16) && decide (r.members.length ≤ 256) && (rowsR r && r.members.all fun m => !reachB r.members m.of m.role)) := by
  have e : r.members.all (mbrOk r) = (r.members.all (mIn r) && r.members.all fun m => !reachB r.members m.of m.role) := by
    rw [Bool.eq_iff_iff]
    simp only [Bool.and_eq_true, List.all_eq_true]
    constructor
    · intro h
      refine ⟨fun m hm => ?_, fun m hm => ?_⟩
      · have := h m hm; unfold mbrOk at this; unfold mIn; simp only [Bool.and_eq_true] at this ⊢; exact this.1
      · have := h m hm; unfold mbrOk at this; simp only [Bool.and_eq_true] at this; exact this.2
    · intro h m hm
      have h1 := h.1 m hm
      have h2 := h.2 m hm
      unfold mIn at h1; unfold mbrOk
      simp only [Bool.and_eq_true] at h1 ⊢
      exact ⟨h1, h2⟩
  unfold rightR rowsR
  rw [e]
  generalize decide (r.names.length ≤ 16) = a
  generalize decide (r.members.length ≤ 256) = b
  generalize risesB cmpS r.names = c
  generalize risesB cmpM r.members = d
  generalize r.names.all nameB = x
  generalize r.members.all (mIn r) = y
  generalize (r.members.all fun m => !reachB r.members m.of m.role) = z
  revert a b c d x y z
  decide
theorem reachB_eq {ms : List Mbr} {s a b : ByteArray} (h : eqS a b = true) : reachB ms s a = reachB ms s b := by
  unfold reachB
  rw [(eqS_txt a b).1 h]
theorem inB_filter (ms : List Mbr) (s t : ByteArray) (l : List ByteArray) : inB (l.filter (reachB ms s)) t = (reachB ms s t && inB l t) := by
  unfold inB
  induction l with
  | nil => simp
  | cons x l ih =>
    rw [List.filter_cons, List.any_cons]
    cases h : eqS x t
    · cases h2 : reachB ms s x
      · simp [ih]
      · simp [ih, h]
    · cases h2 : reachB ms s x
      · rw [reachB_eq h] at h2
        rw [if_neg (by simp), ih, h2]; simp
      · have h3 := h2
        rw [reachB_eq h] at h3
        rw [if_pos (by simp), List.any_cons, h, h3]; simp
theorem rowsR_name (r : Rls) (k : Nat) (hk : k < r.names.length) (h : nameB r.names[k] = false) : rowsR r = false := by
  unfold rowsR; rw [all_false _ _ k hk h]; rfl
theorem rowsR_nrise (r : Rls) (k : Nat) (hk : k < r.names.length) (h0 : 0 < k) (h : ltS (r.names[k - 1]'(by omega)) r.names[k] = false) : rowsR r = false := by
  have h1 : k - 1 + 1 < r.names.length := by omega
  have e : (r.names[k - 1 + 1]'h1) = r.names[k] := by congr 1; omega
  unfold rowsR
  rw [risesB_false cmpS _ (k - 1) h1]
  · simp
  · rw [e]
    rw [← cmpS_lt] at h
    have := of_decide_eq_false h
    omega
theorem rowsR_in (r : Rls) (k : Nat) (hk : k < r.members.length) (h : mIn r r.members[k] = false) : rowsR r = false := by
  unfold rowsR; rw [all_false _ _ k hk h]; simp
theorem rowsR_mrise (r : Rls) (k : Nat) (hk : k < r.members.length) (h0 : 0 < k) (h : ¬ cmpM (r.members[k - 1]'(by omega)) r.members[k] < 0) : rowsR r = false := by
  have h1 : k - 1 + 1 < r.members.length := by omega
  have e : (r.members[k - 1 + 1]'h1) = r.members[k] := by congr 1; omega
  unfold rowsR
  rw [risesB_false cmpM _ (k - 1) h1]
  · simp
  · rw [e]; omega
theorem rises_pred8 {α : Type} (c : α → α → Int) (l : List α) (h : ∀ k, 1 ≤ k → ∀ (hk : k < l.length), c (l[k - 1]'(by omega)) l[k] < 0) : risesB c l = true :=
  (risesB_iff c l).2 fun k hk => h (k + 1) (by omega) hk
set_option maxHeartbeats 8000000 in
theorem rrows8 (r : Rls) (An : Option Addr) (capn : Nat) (Am : Option Addr) (capm : Nat) (w : World) (hn : SlAt w 1 StrR An capn r.names) (hm : SlAt w 2 MbrR Am capm r.members) :
    Calls Tryz.prog 287 #[.agg #[.slice An r.names.length capn, .slice Am r.members.length capm]] w fun e w' => e = .returned (.bool (rowsR r)) ∧ Aft w w' := by
  have hlen := hn.len
  have hlen2 := hm.len
  have HN := Lib.hid hn
  have HM := Lib.hid hm
  clear hn hm
  go_enter Tryz.func287, Tryz.ntmps287
  go_wp2_with fail
  go_loopw [3] (fun i wr => ∃ k : Nat, k ≤ r.names.length ∧ i = .int .i64 k ∧ Aft (w.alloc (.cells #[.slice An r.names.length capn, .slice Am r.members.length capm] 29)) wr ∧ ∀ j, j < k → ∀ (hj : j < r.names.length), nameB r.names[j] = true ∧ (0 < j → ltS (r.names[j - 1]'(by omega)) r.names[j] = true)) (fun i _ => r.names.length - (intOf i).toNat)
  case atStart => exact ⟨0, Nat.zero_le _, rfl, Aft.refl _, fun j hj => absurd hj (Nat.not_lt_zero j)⟩
  case round =>
    obtain ⟨k, hk, rfl, ha, hp⟩ := hrel
    have HP := Lib.hid hp; clear hp
    obtain ⟨hbox, hfr, hz, hzk, HA⟩ := aft_box ha
    have HAB := Lib.hid ha
    clear ha
    by_cases hlt : k < r.names.length
    · obtain ⟨b, off, rfl, hb, c0, hs⟩ := str_at (strs_aft HA.out HN.out) hlt
      obtain ⟨x, hx⟩ : ∃ x, r.names[k] = x := ⟨_, rfl⟩
      rw [hx] at c0 hs
      have HX := Lib.hid hx
      obtain ⟨q, hq⟩ : ∃ q, nameB x = q := ⟨_, rfl⟩
      have HQ := Lib.hid (show nameB r.names[k] = q by rw [hx]; exact hq)
      have CN := Lib.hid (show ∀ y : Lat wr, Calls Tryz.prog 176 #[.string x] (lat wr y) fun e w'' => e = .returned (.bool q) ∧ lat wr y = w'' from fun y => hq ▸ rname_any x (lat wr y) hs.max)
      clear hx hq
      cases q
      · have HF := Lib.hid (rowsR_name r k hlt HQ.out)
        go_wp2_with fail
        refine wp_region_lat (by kernel_rfl) (by kernel_rfl) ?_
        repeat (go_big_quiet_step ((go_at_call 176; exact Calls.lat_same (CN.out _))))
        refine wpQuiet_nil ?_
        intro _ hw'
        obtain ⟨y, hw''⟩ := hw'
        subst hw''
        go_wp2_with fail
        go_ret
        exact ⟨by rw [HF.out]; rfl, HA.out.lat y⟩
      by_cases h0 : 0 < k
      · have hk1 : k - 1 < r.names.length := by omega
        obtain ⟨b', off', hA', hb', e0, _⟩ := str_at (strs_aft HA.out HN.out) hk1
        simp only [Option.some.injEq, Addr.mk.injEq, and_true] at hA'
        obtain ⟨rfl, rfl⟩ := hA'
        obtain ⟨x', hx'⟩ : ∃ x', (r.names[k - 1]'hk1) = x' := ⟨_, rfl⟩
        rw [hx'] at e0
        have HX' := Lib.hid hx'
        have w1 : IntKind.i64.wrap ((k : Int) - 1) = (k : Int) - 1 := IntWalk.i64_in _ (by omega)
        have w2 : (0 : Int) ≤ (k : Int) - 1 := by omega
        have w3 : ((k : Int) - 1).toNat = k - 1 := by omega
        have w4 : (k : Int) - 1 < (r.names.length : Int) := by omega
        have w5 : decide ((0 : Int) < (k : Int)) = true := decide_eq_true (by omega)
        clear hx'
        cases hL : ltS x' x
        · have hL' : Op.bytesLess x'.toList x.toList = false := hL
          have HF := Lib.hid (rowsR_nrise r k hlt h0 (by rw [HX.out, HX'.out]; exact hL))
          clear hL
          go_wp2_with fail
          refine wp_region_lat (by kernel_rfl) (by kernel_rfl) ?_
          repeat (go_big_quiet_step ((go_at_call 176; exact Calls.lat_same (CN.out _))))
          refine wpQuiet_nil ?_
          intro _ hw'
          obtain ⟨y, hw''⟩ := hw'
          subst hw''
          go_wp2_with fail
          go_ret
          exact ⟨by rw [HF.out]; rfl, HA.out.lat y⟩
        · have hL' : Op.bytesLess x'.toList x.toList = true := hL
          have HNX := Lib.hid (ext_lt (p := fun j => ∀ (hj : j < r.names.length), nameB r.names[j] = true ∧ (0 < j → ltS (r.names[j - 1]'(by omega)) r.names[j] = true)) HP.out (fun _ => ⟨HQ.out, fun _ => by rw [HX.out, HX'.out]; exact hL⟩))
          clear hL
          go_wp2_with fail
          refine wp_region_lat (by kernel_rfl) (by kernel_rfl) ?_
          repeat (go_big_quiet_step ((go_at_call 176; exact Calls.lat_same (CN.out _))))
          refine wpQuiet_nil ?_
          intro _ hw'
          obtain ⟨y, hw''⟩ := hw'
          subst hw''
          go_wp2_with fail
          go_roundw
          case rel => exact ⟨k + 1, by omega, by go_num, HAB.out.lat y, HNX.out⟩
          case measure => simp [intOf]; omega
      · have w5 : decide ((0 : Int) < (k : Int)) = false := decide_eq_false (by omega)
        have HNX := Lib.hid (ext_lt (p := fun j => ∀ (hj : j < r.names.length), nameB r.names[j] = true ∧ (0 < j → ltS (r.names[j - 1]'(by omega)) r.names[j] = true)) HP.out (fun _ => ⟨HQ.out, fun h => absurd h h0⟩))
        go_wp2_with fail
        refine wp_region_lat (by kernel_rfl) (by kernel_rfl) ?_
        repeat (go_big_quiet_step ((go_at_call 176; exact Calls.lat_same (CN.out _))))
        refine wpQuiet_nil ?_
        intro _ hw'
        obtain ⟨y, hw''⟩ := hw'
        subst hw''
        go_wp2_with fail
        go_roundw
        case rel => exact ⟨k + 1, by omega, by go_num, HAB.out.lat y, HNX.out⟩
        case measure => simp [intOf]; omega
    have HR := Lib.hid (show rowsR r = (r.members.all (mIn r) && risesB cmpM r.members) by
      unfold rowsR
      rw [all_true _ _ fun j hj => (HP.out j (by omega) hj).1, rises_pred8 cmpS _ fun j hj1 hj => (cmpS_lt_iff _ _).2 ((HP.out j (by omega) hj).2 (by omega))]
      rfl)
    clear HP
    go_wp2_with fail
    go_loopw [4] (fun i wr => ∃ k : Nat, k ≤ r.members.length ∧ i = .int .i64 k ∧ Aft (w.alloc (.cells #[.slice An r.names.length capn, .slice Am r.members.length capm] 29)) wr ∧ ∀ j, j < k → ∀ (hj : j < r.members.length), mIn r r.members[j] = true ∧ (0 < j → cmpM (r.members[j - 1]'(by omega)) r.members[j] < 0)) (fun i _ => r.members.length - (intOf i).toNat)
    case atStart => exact ⟨0, Nat.zero_le _, rfl, HAB.out, fun j hj => absurd hj (Nat.not_lt_zero j)⟩
    case round =>
      clear hbox hfr hz hzk HA HAB
      obtain ⟨k2, hk2, rfl, ha, hp⟩ := hrel
      have HP := Lib.hid hp; clear hp
      obtain ⟨hbox, hfr, hz, hzk, HA⟩ := aft_box ha
      have HAB := Lib.hid ha
      clear ha
      by_cases hlt2 : k2 < r.members.length
      · obtain ⟨b, off, rfl, hb, c0, c1, hs1, hs2⟩ := mbr_at (mbrs_aft HA.out HM.out) hlt2
        obtain ⟨p, hpp⟩ : ∃ p, r.members[k2] = p := ⟨_, rfl⟩
        rw [hpp] at c0 c1 hs1 hs2
        have HPP := Lib.hid hpp
        obtain ⟨i1, hi1⟩ : ∃ i, inB r.names p.role = i := ⟨_, rfl⟩
        obtain ⟨i2, hi2⟩ : ∃ i, inB r.names p.of = i := ⟨_, rfl⟩
        have aX : Aft w (wr.alloc (.cells #[.string p.role, .string p.of] 142)) := HA.out.alloc _
        have K1 := Lib.hid (show Calls Tryz.prog 112 #[.slice An r.names.length capn, .string p.role] (wr.alloc (.cells #[.string p.role, .string p.of] 142)) fun e w'' => e = .returned (.bool i1) ∧ _ = w'' from (rin_any An capn r.names p.role _ (strs_aft aX HN.out)).mono fun e w'' ⟨he, hw⟩ => ⟨by rw [he, ← hi1]; rfl, hw⟩)
        have K2 := Lib.hid (show Calls Tryz.prog 112 #[.slice An r.names.length capn, .string p.of] (wr.alloc (.cells #[.string p.role, .string p.of] 142)) fun e w'' => e = .returned (.bool i2) ∧ _ = w'' from (rin_any An capn r.names p.of _ (strs_aft aX HN.out)).mono fun e w'' ⟨he, hw⟩ => ⟨by rw [he, ← hi2]; rfl, hw⟩)
        have HI := Lib.hid (show mIn r r.members[k2] = (i1 && i2) by rw [hpp]; unfold mIn; rw [hi1, hi2])
        have HAX := Lib.hid aX
        clear hpp hi1 hi2 aX
        cases i1
        · have HF := Lib.hid (rowsR_in r k2 hlt2 (by rw [HI.out]; rfl))
          go_wp2_with (go_at_call 112; refine K1.out.mono ?_; rintro e w4 ⟨rfl, rfl⟩)
          go_ret
          exact ⟨by rw [HF.out]; rfl, HAX.out⟩
        cases i2
        · have HF := Lib.hid (rowsR_in r k2 hlt2 (by rw [HI.out]; rfl))
          go_wp2_with (go_at_call 112; first | (with_reducible refine K1.out.mono ?_; rintro e w4 ⟨rfl, rfl⟩) | (with_reducible refine K2.out.mono ?_; rintro e w4 ⟨rfl, rfl⟩))
          go_ret
          exact ⟨by rw [HF.out]; rfl, HAX.out⟩
        have l5 : b < wr.heap.size + 1 := by omega
        by_cases h0 : 0 < k2
        · have hk1 : k2 - 1 < r.members.length := by omega
          obtain ⟨b', off', hA', hb', e0, e1, _, _⟩ := mbr_at (mbrs_aft HA.out HM.out) hk1
          simp only [Option.some.injEq, Addr.mk.injEq, and_true] at hA'
          obtain ⟨rfl, rfl⟩ := hA'
          obtain ⟨p', hpp'⟩ : ∃ p', (r.members[k2 - 1]'hk1) = p' := ⟨_, rfl⟩
          rw [hpp'] at e0 e1
          have HO := Lib.hid (show cmpM (r.members[k2 - 1]'hk1) r.members[k2] = or2 (cmpS p'.role p.role) (cmpS p'.of p.of) by rw [HPP.out, hpp']; rfl)
          have HOL := Lib.hid (or2_lt p'.role p.role p'.of p.of)
          clear hpp'
          have w1 : IntKind.i64.wrap ((k2 : Int) - 1) = (k2 : Int) - 1 := IntWalk.i64_in _ (by omega)
          have w2 : (0 : Int) ≤ (k2 : Int) - 1 := by omega
          have w3 : ((k2 : Int) - 1).toNat = k2 - 1 := by omega
          have w4 : (k2 : Int) - 1 < (r.members.length : Int) := by omega
          have w5 : decide ((0 : Int) < (k2 : Int)) = true := decide_eq_true (by omega)
          cases hG : (!(ltS p'.role p.role || eqS p'.role p.role))
          · have hG' : (Op.bytesLess p'.role.toList p.role.toList || p'.role.toList == p.role.toList) = true := by have h1 := hG; rw [Bool.not_eq_false'] at h1; exact h1
            cases hE : eqS p'.role p.role
            · have hE' : (p'.role.toList == p.role.toList) = false := hE
              have hG2 : Op.bytesLess p'.role.toList p.role.toList = true := by rw [hE'] at hG'; simpa using hG'
              have HNX := Lib.hid (ext_lt (p := fun j => ∀ (hj : j < r.members.length), mIn r r.members[j] = true ∧ (0 < j → cmpM (r.members[j - 1]'(by omega)) r.members[j] < 0)) HP.out (fun _ => ⟨by rw [HI.out]; rfl, fun _ => by rw [HO.out]; exact of_decide_eq_true (by rw [HOL.out, hG, hE]; rfl)⟩))
              clear hG hE
              go_wp2_with (go_at_call 112; first | (with_reducible refine K1.out.mono ?_; rintro e w4 ⟨rfl, rfl⟩) | (with_reducible refine K2.out.mono ?_; rintro e w4 ⟨rfl, rfl⟩))
              refine wp_region_lat (by kernel_rfl) (by kernel_rfl) ?_
              repeat (go_big_quiet_step (fail))
              refine wpQuiet_nil ?_
              intro _ hw'
              obtain ⟨y, hw''⟩ := hw'
              subst hw''
              go_wp2_with fail
              go_roundw
              case rel => exact ⟨k2 + 1, by omega, by go_num, (HAB.out.alloc _).lat y, HNX.out⟩
              case measure => simp [intOf]; omega
            · have hE' : (p'.role.toList == p.role.toList) = true := hE
              cases hL : ltS p'.of p.of
              · have hL' : Op.bytesLess p'.of.toList p.of.toList = false := hL
                have HF := Lib.hid (rowsR_mrise r k2 hlt2 h0 (by rw [HO.out]; exact of_decide_eq_false (by rw [HOL.out, hG, hE, hL]; rfl)))
                clear hG hE hL
                go_wp2_with (go_at_call 112; first | (with_reducible refine K1.out.mono ?_; rintro e w4 ⟨rfl, rfl⟩) | (with_reducible refine K2.out.mono ?_; rintro e w4 ⟨rfl, rfl⟩))
                refine wp_region_lat (by kernel_rfl) (by kernel_rfl) ?_
                repeat (go_big_quiet_step (fail))
                refine wpQuiet_nil ?_
                intro _ hw'
                obtain ⟨y, hw''⟩ := hw'
                subst hw''
                go_wp2_with fail
                go_ret
                exact ⟨by rw [HF.out]; rfl, HAX.out.lat y⟩
              · have hL' : Op.bytesLess p'.of.toList p.of.toList = true := hL
                have HNX := Lib.hid (ext_lt (p := fun j => ∀ (hj : j < r.members.length), mIn r r.members[j] = true ∧ (0 < j → cmpM (r.members[j - 1]'(by omega)) r.members[j] < 0)) HP.out (fun _ => ⟨by rw [HI.out]; rfl, fun _ => by rw [HO.out]; exact of_decide_eq_true (by rw [HOL.out, hG, hE, hL]; rfl)⟩))
                clear hG hE hL
                go_wp2_with (go_at_call 112; first | (with_reducible refine K1.out.mono ?_; rintro e w4 ⟨rfl, rfl⟩) | (with_reducible refine K2.out.mono ?_; rintro e w4 ⟨rfl, rfl⟩))
                refine wp_region_lat (by kernel_rfl) (by kernel_rfl) ?_
                repeat (go_big_quiet_step (fail))
                refine wpQuiet_nil ?_
                intro _ hw'
                obtain ⟨y, hw''⟩ := hw'
                subst hw''
                go_wp2_with fail
                go_roundw
                case rel => exact ⟨k2 + 1, by omega, by go_num, (HAB.out.alloc _).lat y, HNX.out⟩
                case measure => simp [intOf]; omega
          · have hG' : (Op.bytesLess p'.role.toList p.role.toList || p'.role.toList == p.role.toList) = false := by have h1 := hG; rw [Bool.not_eq_true'] at h1; exact h1
            have HF := Lib.hid (rowsR_mrise r k2 hlt2 h0 (by rw [HO.out]; exact of_decide_eq_false (by rw [HOL.out, hG]; rfl)))
            clear hG
            go_wp2_with (go_at_call 112; first | (with_reducible refine K1.out.mono ?_; rintro e w4 ⟨rfl, rfl⟩) | (with_reducible refine K2.out.mono ?_; rintro e w4 ⟨rfl, rfl⟩))
            refine wp_region_lat (by kernel_rfl) (by kernel_rfl) ?_
            repeat (go_big_quiet_step (fail))
            refine wpQuiet_nil ?_
            intro _ hw'
            obtain ⟨y, hw''⟩ := hw'
            subst hw''
            go_wp2_with fail
            go_ret
            exact ⟨by rw [HF.out]; rfl, HAX.out.lat y⟩
        · have w5 : decide ((0 : Int) < (k2 : Int)) = false := decide_eq_false (by omega)
          have HNX := Lib.hid (ext_lt (p := fun j => ∀ (hj : j < r.members.length), mIn r r.members[j] = true ∧ (0 < j → cmpM (r.members[j - 1]'(by omega)) r.members[j] < 0)) HP.out (fun _ => ⟨by rw [HI.out]; rfl, fun h => absurd h h0⟩))
          go_wp2_with (go_at_call 112; first | (with_reducible refine K1.out.mono ?_; rintro e w4 ⟨rfl, rfl⟩) | (with_reducible refine K2.out.mono ?_; rintro e w4 ⟨rfl, rfl⟩))
          refine wp_region_lat (by kernel_rfl) (by kernel_rfl) ?_
          repeat (go_big_quiet_step (fail))
          refine wpQuiet_nil ?_
          intro _ hw'
          obtain ⟨y, hw''⟩ := hw'
          subst hw''
          go_wp2_with fail
          go_roundw
          case rel => exact ⟨k2 + 1, by omega, by go_num, (HAB.out.alloc _).lat y, HNX.out⟩
          case measure => simp [intOf]; omega
      · have HF := Lib.hid (show rowsR r = true by
          rw [HR.out, all_true _ _ fun j hj => (HP.out j (by omega) hj).1, rises_pred8 cmpM _ fun j hj1 hj => (HP.out j (by omega) hj).2 (by omega)]
          rfl)
        go_wp2_with fail
        go_ret
        exact ⟨by rw [HF.out]; rfl, HA.out⟩
end Go.Proofs.YtgkhmnamkfgciaaGreat

namespace Go.Proofs.YtgkhmnamkfgciaaGreat
open Go.RowKit Go.Deep
set_option maxRecDepth 100000
set_option linter.unusedVariables false
/-- a way is none, or has a first step -/
theorem Reach.first {ms : List Mbr} {s u : Txt} (h : Reach ms s u) : s = u ∨ ∃ x ∈ succ ms s, Reach ms (txt x) u := by
  induction h with
  | refl => exact .inl rfl
  | step h1 hx he ih =>
    rcases ih with e | ⟨y, hy, hr⟩
    · subst e
      exact .inr ⟨_, hx, by rw [← he]; exact .refl _⟩
    · exact .inr ⟨y, hy, hr.step hx he⟩
end Go.Proofs.YtgkhmnamkfgciaaGreat

namespace Go.Proofs.YtgkhmnamkfgciaaGreat
set_option linter.unusedVariables false
theorem txt_inj {a b : ByteArray} (h : txt a = txt b) : a = b := by
  unfold txt at h
  cases a; cases b
  simp only [Array.toList_inj] at h
  rw [h]
theorem eqS_iff (a b : ByteArray) : eqS a b = true ↔ a = b := ⟨fun h => txt_inj ((eqS_txt _ _).1 h), fun h => (eqS_txt _ _).2 (by rw [h])⟩
theorem ordS : Ord8 cmpS := ⟨cmpS_tr, cmpS_anti, fun a b h => (eqS_iff _ _).1 ((cmpS_eq _ _).1 h)⟩
theorem inB_mem (l : List ByteArray) (s : ByteArray) : inB l s = true ↔ s ∈ l := by
  unfold inB
  rw [List.any_eq_true]
  exact ⟨fun ⟨x, hx, h⟩ => by rw [← (eqS_iff _ _).1 h]; exact hx, fun h => ⟨s, h, (eqS_iff _ _).2 rfl⟩⟩
theorem mem_succ {ms : List Mbr} {s : Txt} {y : ByteArray} : y ∈ succ ms s ↔ ∃ m ∈ ms, txt m.role = s ∧ m.of = y := by
  unfold succ
  rw [List.mem_map]
  constructor
  · rintro ⟨m, hm, rfl⟩
    obtain ⟨h1, h2⟩ := List.mem_filter.1 hm
    exact ⟨m, h1, by simpa using h2, rfl⟩
  · rintro ⟨m, hm, h1, rfl⟩
    exact ⟨m, List.mem_filter.2 ⟨hm, by simpa using h1⟩, rfl⟩
theorem Reach.mono {ms ms' : List Mbr} (hs : ∀ m ∈ ms, m ∈ ms') {s t : Txt} (h : Reach ms s t) : Reach ms' s t := by
  induction h with
  | refl => exact .refl _
  | step h1 hx he ih =>
    obtain ⟨m, hm, h2, h3⟩ := mem_succ.1 hx
    exact ih.step (mem_succ.2 ⟨m, hs m hm, h2, h3⟩) he
end Go.Proofs.YtgkhmnamkfgciaaGreat

namespace Go.Proofs.YtgkhmnamkfgciaaGreat
open Go.RowKit
set_option maxRecDepth 100000
set_option linter.unusedVariables false

theorem SlAt.take {α : Type} {w : World} {size : Nat} {R : World → List Value → α → Prop} {A : Option Addr} {cap : Nat} {l : List α} (h : SlAt w size R A cap l) (k : Nat) : SlAt w size R A cap (l.take k) :=
  ⟨Nat.le_trans (by simp; omega) h.1, Nat.le_trans (Nat.mul_le_mul_right _ (by simp; omega)) h.2.1, fun i hi => by
    have hi' : i < l.length := by simp at hi; omega
    obtain ⟨b, off, cs, hA, hb, hl, hr, hc⟩ := h.2.2 i hi'
    exact ⟨b, off, cs, hA, hb, hl, by rw [List.getElem_take]; exact hr, hc⟩⟩

/-- may a column be? -/
def colOk (c : Col) : Bool := nameB c.name && (c.kind == 2 || c.kind == 3)
/-- may columns be? -/
def colsOk (l : List Col) : Bool := decide (1 ≤ l.length) && decide (l.length ≤ 8) && (List.range l.length).all fun i => match l[i]? with | some c => colOk c && decide (idxP (fun d => eqS d.name c.name) (l.take i) < 0) | none => true
theorem colsOk_false (l : List Col) (k : Nat) (hk : k < l.length) (h : (colOk l[k] && decide (idxP (fun d => eqS d.name l[k].name) (l.take k) < 0)) = false) : colsOk l = false := by
  unfold colsOk
  rw [Bool.and_eq_false_iff]; right
  rw [Bool.eq_false_iff]
  intro ha
  have := List.all_eq_true.1 ha k (List.mem_range.2 hk)
  rw [List.getElem?_eq_getElem hk] at this
  simp only [h] at this
  cases this
theorem colsOk_true (l : List Col) (h1 : 1 ≤ l.length) (h8 : l.length ≤ 8) (h : ∀ k, k < l.length → ∀ hk : k < l.length, (colOk l[k] && decide (idxP (fun d => eqS d.name l[k].name) (l.take k) < 0)) = true) : colsOk l = true := by
  unfold colsOk
  rw [Bool.and_eq_true, List.all_eq_true]
  refine ⟨by simp [h1, h8], fun k hk => ?_⟩
  have hk' := List.mem_range.1 hk
  rw [List.getElem?_eq_getElem hk']
  exact h k hk' hk'

set_option maxHeartbeats 1000000 in
theorem rone_any (name : ByteArray) (kind : Int) (null : Bool) (w : World) (hs : name.size ≤ maxLen) :
    Calls Tryz.prog 278 #[.agg #[.string name, .int .i64 kind, .bool null]] w fun e w' => e = .returned (.bool (colOk ⟨name, kind, null⟩)) ∧ Aft w w' := by
  go_enter Tryz.func278, Tryz.ntmps278
  go_wp2_with (go_at_call 176; refine (rname_any _ _ hs).mono ?_; rintro e w' ⟨rfl, rfl⟩)
  all_goals
    go_ret
    refine ⟨Eq.trans (b := .returned (.bool _)) rfl (ret_of (bool_of ?_)), (Aft.refl _).alloc _⟩
    simp_all [colOk]

set_option maxHeartbeats 2000000 in
theorem rcols_any (A : Option Addr) (cap : Nat) (l : List Col) (w : World) (h : SlAt w 3 ColR A cap l) :
    Calls Tryz.prog 276 #[.slice A l.length cap] w fun e w' => e = .returned (.bool (colsOk l)) ∧ Aft w w' := by
  have hlen := h.len
  by_cases h1 : l.length < 1 ∨ 8 < l.length
  · have H := Lib.hid (show colsOk l = false by unfold colsOk; rcases h1 with h1 | h1 <;> simp <;> intros <;> omega)
    rcases h1 with h1 | h1
    all_goals
      go_enter Tryz.func276, Tryz.ntmps276
      go_wp2_with fail
      go_ret
      exact ⟨by rw [H.out]; rfl, Aft.refl _⟩
  · have g1 : 1 ≤ l.length := by omega
    have g8 : l.length ≤ 8 := by omega
    clear h1
    go_enter Tryz.func276, Tryz.ntmps276
    go_wp2_with fail
    go_loopw [3] (fun i wr => ∃ k : Nat, k ≤ l.length ∧ i = .int .i64 k ∧ Aft w wr ∧ ∀ j, j < k → ∀ (hj : j < l.length), (colOk l[j] && decide (idxP (fun d => eqS d.name l[j].name) (l.take j) < 0)) = true) (fun i _ => l.length - (intOf i).toNat)
    case atStart => exact ⟨0, Nat.zero_le _, rfl, Aft.refl _, fun j hj => absurd hj (Nat.not_lt_zero j)⟩
    case round =>
      obtain ⟨k, hk, rfl, ha, hp⟩ := hrel
      have HA := Lib.hid ha
      have HP := Lib.hid hp; clear hp
      by_cases hlt : k < l.length
      · have hsl := cols_aft ha h
        clear ha
        obtain ⟨b, off, rfl, hb, c0, c1, c2, hs⟩ := col_at hsl hlt
        have Cone := Lib.hid (fun w => rone_any l[k].name l[k].kind l[k].null w hs.max)
        obtain ⟨r, hr⟩ : ∃ r, idxP (fun d => eqS d.name l[k].name) (l.take k) = r := ⟨_, rfl⟩
        have Ccol := Lib.hid (show ∀ x : Lat wr, Calls Tryz.prog 279 #[.slice (some ⟨b, off, none⟩) k cap, .string l[k].name] (lat wr x) fun e w' => e = .returned (.int .i64 r) ∧ lat wr x = w' by
          intro x
          have := rcol_any _ _ (l.take k) l[k].name (lat wr x) (cols_aft ((Aft.refl wr).lat x) (hsl.take k))
          rwa [List.length_take, Nat.min_eq_left (by omega), hr] at this)
        have hcap : k ≤ cap := Nat.le_trans hk hsl.1
        have HR := Lib.hid hr
        clear hr hsl
        generalize hcc : colOk ⟨l[k].name, l[k].kind, l[k].null⟩ = cc at Cone
        have HC := Lib.hid hcc
        clear hcc
        cases cc
        · go_wp2_with fail
          refine wp_region_lat (by kernel_rfl) (by kernel_rfl) ?_
          repeat (go_big_quiet_step ((first | (go_at_call 278; exact Calls.lat_of (Cone.out _)) | (go_at_call 279; exact Calls.lat_same (Ccol.out _)))))
          refine wpQuiet_nil ?_
          intro _ hw'
          obtain ⟨x, hw''⟩ := hw'
          subst hw''
          go_wp2_with fail
          go_ret
          exact ⟨by rw [colsOk_false l k hlt (by rw [show colOk l[k] = false from HC.out]; rfl)]; rfl, HA.out.lat x⟩
        · by_cases hr0 : 0 ≤ r
          · go_wp2_with fail
            refine wp_region_lat (by kernel_rfl) (by kernel_rfl) ?_
            repeat (go_big_quiet_step ((first | (go_at_call 278; exact Calls.lat_of (Cone.out _)) | (go_at_call 279; exact Calls.lat_same (Ccol.out _)))))
            refine wpQuiet_nil ?_
            intro _ hw'
            obtain ⟨x, hw''⟩ := hw'
            subst hw''
            go_wp2_with fail
            go_ret
            exact ⟨by rw [colsOk_false l k hlt (by rw [HR.out, decide_eq_false (by omega), Bool.and_false])]; rfl, HA.out.lat x⟩
          · have hr1 : r < 0 := by omega
            go_wp2_with fail
            refine wp_region_lat (by kernel_rfl) (by kernel_rfl) ?_
            repeat (go_big_quiet_step ((first | (go_at_call 278; exact Calls.lat_of (Cone.out _)) | (go_at_call 279; exact Calls.lat_same (Ccol.out _)))))
            refine wpQuiet_nil ?_
            intro _ hw'
            obtain ⟨x, hw''⟩ := hw'
            subst hw''
            go_wp2_with fail
            go_roundw
            case rel => exact ⟨k + 1, by omega, by go_num, HA.out.lat x, ext_lt (p := fun j => ∀ (hj : j < l.length), (colOk l[j] && decide (idxP (fun d => eqS d.name l[j].name) (l.take j) < 0)) = true) HP.out (fun _ => by rw [HR.out, decide_eq_true hr1, show colOk l[k] = true from HC.out]; rfl)⟩
            case measure => simp [intOf]; omega
      · go_wp2_with fail
        go_ret
        exact ⟨by rw [colsOk_true l g1 g8 (fun j hj hj' => HP.out j (by omega) hj')]; rfl, HA.out⟩
end Go.Proofs.YtgkhmnamkfgciaaGreat

namespace Go.Proofs.YtgkhmnamkfgciaaGreat
open Go.RowKit
set_option maxRecDepth 100000
set_option linter.unusedVariables false

def colAt (l : List Col) (s : ByteArray) : Int := idxP (fun c => eqS c.name s) l
def hasS (cs : List ByteArray) (s : ByteArray) : Bool := cs.any fun c => eqS c s
/-- each of a rule's columns is there, and none twice -/
def rcOk (l : List Col) (cs : List ByteArray) : Bool := (List.range cs.length).all fun i => match cs[i]? with | some s => decide (0 ≤ colAt l s) && !(hasS (cs.take i) s) | none => true
theorem rcOk_false (l : List Col) (cs : List ByteArray) (k : Nat) (hk : k < cs.length) (h : (decide (0 ≤ colAt l cs[k]) && !(hasS (cs.take k) cs[k])) = false) : rcOk l cs = false := by
  unfold rcOk
  rw [Bool.eq_false_iff]
  intro ha
  have := List.all_eq_true.1 ha k (List.mem_range.2 hk)
  rw [List.getElem?_eq_getElem hk] at this
  simp only [h] at this
  cases this
theorem rcOk_true (l : List Col) (cs : List ByteArray) (h : ∀ k, k < cs.length → ∀ hk : k < cs.length, (decide (0 ≤ colAt l cs[k]) && !(hasS (cs.take k) cs[k])) = true) : rcOk l cs = true := by
  unfold rcOk
  rw [List.all_eq_true]
  intro k hk
  have hk' := List.mem_range.1 hk
  rw [List.getElem?_eq_getElem hk']
  exact h k hk' hk'
def kindAt (l : List Col) (i : Int) : Int := match l[i.toNat]? with | some c => c.kind | none => 0
def ruleRest (l : List Col) (r : Rul) : Bool :=
  if r.kind == 1 || r.kind == 2 then emp r.schema && emp r.table && emp r.key && r.low == 0 && r.high == 0
  else if r.kind == 3 then emp r.schema && emp r.table && emp r.key && ((r.cols.length : Int) == 1) && kindAt l (colAt l (r.cols.headD ByteArray.empty)) == 2 && decide (r.low ≤ r.high)
  else if r.kind == 4 then nameB r.schema && nameB r.table && nameB r.key && r.low == 0 && r.high == 0
  else false
/-- does a rule fit columns? -/
def fitsOk (l : List Col) (r : Rul) : Bool := rcOk l r.cols && nameB r.name && !(r.cols.length == 0) && ruleRest l r

set_option maxHeartbeats 4000000 in
theorem rfits_any (A : Option Addr) (cap : Nat) (l : List Col) (r : Rul) (A2 : Option Addr) (cap2 : Nat) (w : World) (h : SlAt w 3 ColR A cap l) (h2 : SlAt w 1 StrR A2 cap2 r.cols)
    (hn : Small r.name.size) (hs : Small r.schema.size) (ht : Small r.table.size) (hk' : Small r.key.size) :
    Calls Tryz.prog 280 #[.slice A l.length cap, .agg #[.string r.name, .int .i64 r.kind, .slice A2 r.cols.length cap2, .int .i64 r.low, .int .i64 r.high, .string r.schema, .string r.table, .string r.key]] w
      fun e w' => e = .returned (.bool (fitsOk l r)) ∧ Aft w w' := by
  obtain ⟨name, kind, cs, low, high, schema, table, key⟩ := r
  simp only at h2 hn hs ht hk' ⊢
  have hlen := h.len
  have hlen2 := h2.len
  go_enter Tryz.func280, Tryz.ntmps280
  go_wp2_with fail
  go_loopw [5] (fun i wr => ∃ k : Nat, k ≤ cs.length ∧ i = .int .i64 k ∧ Aft (w.alloc (.cells #[.string name, .int .i64 kind, .slice A2 cs.length cap2, .int .i64 low, .int .i64 high, .string schema, .string table, .string key] 42)) wr ∧ ∀ j, j < k → ∀ (hj : j < cs.length), (decide (0 ≤ colAt l cs[j]) && !(hasS (cs.take j) cs[j])) = true) (fun i _ => cs.length - (intOf i).toNat)
  case atStart => exact ⟨0, Nat.zero_le _, rfl, Aft.refl _, fun j hj => absurd hj (Nat.not_lt_zero j)⟩
  case round =>
    obtain ⟨k, hk, rfl, ha, hp⟩ := hrel
    obtain ⟨hbox, hfr, hz, hzk, HA⟩ := aft_box ha
    have HAB := Lib.hid ha
    have HP := Lib.hid hp; clear hp
    have hsl := cols_aft HA.out h
    have hsl2 := strs_aft HA.out h2
    clear ha
    by_cases hlt : k < cs.length
    · obtain ⟨b, off, rfl, hb, c0, hss⟩ := str_at hsl2 hlt
      obtain ⟨i, hi⟩ : ∃ i, colAt l cs[k] = i := ⟨_, rfl⟩
      obtain ⟨m, hm⟩ : ∃ m, hasS (cs.take k) cs[k] = m := ⟨_, rfl⟩
      have Ccol := Lib.hid (show ∀ x : Lat wr, Calls Tryz.prog 279 #[.slice A l.length cap, .string cs[k]] (lat wr x) fun e w' => e = .returned (.int .i64 i) ∧ lat wr x = w' from
        fun x => (rcol_any A cap l cs[k] (lat wr x) (cols_aft ((Aft.refl wr).lat x) hsl)).mono fun e w' ⟨he, hw⟩ => ⟨he.trans (by rw [← hi]; rfl), hw⟩)
      have Cin := Lib.hid (show ∀ x : Lat wr, Calls Tryz.prog 112 #[.slice (some ⟨b, off, none⟩) k cap2, .string cs[k]] (lat wr x) fun e w' => e = .returned (.bool m) ∧ lat wr x = w' by
        intro x
        have := rin_any _ _ (cs.take k) cs[k] (lat wr x) (strs_aft ((Aft.refl wr).lat x) (hsl2.take k))
        rw [List.length_take, Nat.min_eq_left (by omega)] at this
        exact this.mono fun e w' ⟨he, hw⟩ => ⟨he.trans (by rw [← hm]; rfl), hw⟩)
      have hcap : k ≤ cap2 := Nat.le_trans hk hsl2.1
      have HI := Lib.hid hi
      have HM := Lib.hid hm
      clear hi hm hsl hsl2
      by_cases hi0 : i < 0
      · go_wp2_with fail
        refine wp_region_lat (by kernel_rfl) (by kernel_rfl) ?_
        repeat (go_big_quiet_step ((first | (go_at_call 279; exact Calls.lat_same (Ccol.out _)) | (go_at_call 112; exact Calls.lat_same (Cin.out _)))))
        refine wpQuiet_nil ?_
        intro _ hw'
        obtain ⟨x, hw''⟩ := hw'
        subst hw''
        go_wp2_with fail
        go_ret
        exact ⟨by rw [show fitsOk l ⟨name, kind, cs, low, high, schema, table, key⟩ = false by unfold fitsOk; rw [rcOk_false l cs k hlt (by rw [HI.out, decide_eq_false (by omega)]; rfl)]; rfl]; rfl, HA.out.lat x⟩
      · have hi1 : 0 ≤ i := by omega
        have hd : decide (i < 0) = false := decide_eq_false hi0
        cases m
        · go_wp2_with fail
          refine wp_region_lat (by kernel_rfl) (by kernel_rfl) ?_
          repeat (go_big_quiet_step ((first | (go_at_call 279; exact Calls.lat_same (Ccol.out _)) | (go_at_call 112; exact Calls.lat_same (Cin.out _)))))
          refine wpQuiet_nil ?_
          intro _ hw'
          obtain ⟨x, hw''⟩ := hw'
          subst hw''
          go_wp2_with fail
          go_roundw
          case rel => exact ⟨k + 1, by omega, by go_num, HAB.out.lat x, ext_lt (p := fun j => ∀ (hj : j < cs.length), (decide (0 ≤ colAt l cs[j]) && !(hasS (cs.take j) cs[j])) = true) HP.out (fun _ => by rw [HI.out, HM.out, decide_eq_true hi1]; rfl)⟩
          case measure => simp [intOf]; omega
        · go_wp2_with fail
          refine wp_region_lat (by kernel_rfl) (by kernel_rfl) ?_
          repeat (go_big_quiet_step ((first | (go_at_call 279; exact Calls.lat_same (Ccol.out _)) | (go_at_call 112; exact Calls.lat_same (Cin.out _)))))
          refine wpQuiet_nil ?_
          intro _ hw'
          obtain ⟨x, hw''⟩ := hw'
          subst hw''
          go_wp2_with fail
          go_ret
          exact ⟨by rw [show fitsOk l ⟨name, kind, cs, low, high, schema, table, key⟩ = false by unfold fitsOk; rw [rcOk_false l cs k hlt (by rw [HM.out, Bool.not_true, Bool.and_false])]; rfl]; rfl, HA.out.lat x⟩
    · have hrc := rcOk_true l cs (fun j hj hj' => HP.out j (by omega) hj')
      cases hN : nameB name
      · have HF := Lib.hid (show fitsOk l ⟨name, kind, cs, low, high, schema, table, key⟩ = false by simp [fitsOk, hN])
        clear hrc
        go_wp2_with (go_at_call 176; refine (rname_any _ _ (by first | exact hn.max | exact hs.max | exact ht.max | exact hk'.max)).mono ?_; rintro e w' ⟨rfl, rfl⟩)
        go_ret
        exact ⟨by rw [HF.out]; rfl, HA.out⟩
      · by_cases hz0 : cs.length = 0
        · have HF := Lib.hid (show fitsOk l ⟨name, kind, cs, low, high, schema, table, key⟩ = false by simp [fitsOk, hz0])
          have e0 : ((cs.length : Int) == 0) = true := by simp [hz0]
          clear hrc hz0
          go_wp2_with (go_at_call 176; refine (rname_any _ _ (by first | exact hn.max | exact hs.max | exact ht.max | exact hk'.max)).mono ?_; rintro e w' ⟨rfl, rfl⟩)
          go_ret
          exact ⟨by rw [HF.out]; rfl, HA.out⟩
        · have HF := Lib.hid (show fitsOk l ⟨name, kind, cs, low, high, schema, table, key⟩ = ruleRest l ⟨name, kind, cs, low, high, schema, table, key⟩ by simp [fitsOk, hrc, hN, hz0])
          have e0 : ((cs.length : Int) == 0) = false := beq_eq_false_iff_ne.2 (by omega)
          have hpos : 0 < cs.length := by omega
          have hc0 : 0 ≤ colAt l cs[0] := by have := HP.out 0 (by omega) hpos; simp at this; exact this.1
          clear hrc hz0
          by_cases k1 : kind = 1
          · subst k1
            go_wp2_with (go_at_call 176; refine (rname_any _ _ (by first | exact hn.max | exact hs.max | exact ht.max | exact hk'.max)).mono ?_; rintro e w' ⟨rfl, rfl⟩)
            all_goals
              go_ret
              refine ⟨Eq.trans (b := .returned (.bool _)) rfl (ret_of (bool_of ?_)), HA.out⟩
              rw [HF.out]
              clear HF HA HAB HP hbox hfr hz hzk hsl hsl2 h h2
              simp_all [ruleRest, emp]
          by_cases k2 : kind = 2
          · subst k2
            go_wp2_with (go_at_call 176; refine (rname_any _ _ (by first | exact hn.max | exact hs.max | exact ht.max | exact hk'.max)).mono ?_; rintro e w' ⟨rfl, rfl⟩)
            all_goals
              go_ret
              refine ⟨Eq.trans (b := .returned (.bool _)) rfl (ret_of (bool_of ?_)), HA.out⟩
              rw [HF.out]
              clear HF HA HAB HP hbox hfr hz hzk hsl hsl2 h h2
              simp_all [ruleRest, emp]
          by_cases k4 : kind = 4
          · subst k4
            go_wp2_with (go_at_call 176; refine (rname_any _ _ (by first | exact hn.max | exact hs.max | exact ht.max | exact hk'.max)).mono ?_; rintro e w' ⟨rfl, rfl⟩)
            all_goals
              go_ret
              refine ⟨Eq.trans (b := .returned (.bool _)) rfl (ret_of (bool_of ?_)), HA.out⟩
              rw [HF.out]
              clear HF HA HAB HP hbox hfr hz hzk hsl hsl2 h h2
              simp_all [ruleRest]
          by_cases k3 : kind = 3
          · subst k3
            obtain ⟨q, hq⟩ := Int.eq_ofNat_of_zero_le hc0
            have hql : q < l.length := by have := (idxP_range (fun c => eqS c.name cs[0]) l).2; unfold colAt at hq; omega
            obtain ⟨b, off, rfl, hb, c0, hss⟩ := str_at hsl2 hpos
            obtain ⟨b2, off2, rfl, hb2, d0, d1, d2, hss2⟩ := col_at hsl hql
            have c0' : wr.cell? ⟨b, off, none⟩ = some (.string cs[0]) := by simpa using c0
            have Ccol := Lib.hid (show Calls Tryz.prog 279 #[.slice (some ⟨b2, off2, none⟩) l.length cap, .string cs[0]] wr fun e w' => e = .returned (.int .i64 q) ∧ wr = w' from
              (rcol_any _ cap l cs[0] wr hsl).mono fun e w' ⟨he, hw⟩ => ⟨he.trans (by rw [← show colAt l cs[0] = (q : Int) from hq]; rfl), hw⟩)
            have HK := Lib.hid (show kindAt l (colAt l (cs.headD ByteArray.empty)) = l[q].kind by
              have e1 : cs.headD ByteArray.empty = cs[0] := by cases cs with | nil => simp at hpos | cons a t => rfl
              rw [e1, hq]; simp [kindAt, List.getElem?_eq_getElem hql])
            clear hc0 hq c0
            go_wp2_with (first | (go_at_call 176; refine (rname_any _ _ (by first | exact hn.max | exact hs.max | exact ht.max | exact hk'.max)).mono ?_; rintro e w' ⟨rfl, rfl⟩) | (go_at_call 279; refine Ccol.out.mono ?_; rintro e w' ⟨rfl, rfl⟩))
            all_goals
              go_ret
              refine ⟨Eq.trans (b := .returned (.bool _)) rfl (ret_of (bool_of ?_)), HA.out⟩
              rw [HF.out]
              have hkk := HK.out
              clear HF HA HAB HP hbox hfr hz hzk hsl hsl2 h h2 HK Ccol c0' d0 d1 d2
              simp_all [ruleRest, emp]
          · have q1 : (kind == 1) = false := by simp [k1]
            have q2 : (kind == 2) = false := by simp [k2]
            have q3 : (kind == 3) = false := by simp [k3]
            have q4 : (kind == 4) = false := by simp [k4]
            go_wp2_with (go_at_call 176; refine (rname_any _ _ (by first | exact hn.max | exact hs.max | exact ht.max | exact hk'.max)).mono ?_; rintro e w' ⟨rfl, rfl⟩)
            all_goals
              go_ret
              refine ⟨Eq.trans (b := .returned (.bool _)) rfl (ret_of (bool_of ?_)), HA.out⟩
              rw [HF.out]
              clear HF HA HAB HP hbox hfr hz hzk hsl hsl2 h h2
              simp_all [ruleRest]
end Go.Proofs.YtgkhmnamkfgciaaGreat

namespace Go.Proofs.YtgkhmnamkfgciaaGreat
open Go.RowKit
set_option maxRecDepth 100000
set_option linter.unusedVariables false
theorem aft_two {w w' : World} {a b : Value} {ta tb : TypeId} (h : Aft ((w.alloc (.cells #[a] ta)).alloc (.cells #[b] tb)) w') :
    w'.cell? ⟨w.heap.size, 0, none⟩ = some a ∧ w'.cell? ⟨w.heap.size + 1, 0, none⟩ = some b ∧ w.heap.size < w'.heap.size ∧ w.heap.size + 1 < w'.heap.size := by
  have hz : w.heap.size + 1 < w'.heap.size := by have := h.size; simp at this; omega
  refine ⟨?_, ?_, by omega, hz⟩
  · rw [Below.cell h (p := ⟨w.heap.size, 0, none⟩) (by simp; omega), World.cell?_alloc_past _ _ _ (by simp)]; simp
  · rw [Below.cell h (p := ⟨w.heap.size + 1, 0, none⟩) (by simp), World.cell?_alloc_at _ _ _ _ (by simp)]; rfl
theorem columnName_any (name : ByteArray) (kind : Int) (null : Bool) (w : World) :
    Calls Tryz.prog 249 #[.agg #[.string name, .int .i64 kind, .bool null]] w fun e w' => e = .returned (.string name) ∧ Aft w w' := by
  go_enter Tryz.func249, Tryz.ntmps249
  go_wp2_with fail
  go_ret
  exact ⟨rfl, (Aft.refl _).alloc _⟩
set_option maxHeartbeats 1000000 in
theorem byCol1 (name : ByteArray) (kind : Int) (null : Bool) (s : ByteArray) (b1 b2 : Nat) (w : World) (hb1 : b1 < w.heap.size) (hb2 : b2 < w.heap.size) (hc1 : w.cell? ⟨b1, 0, none⟩ = some (.func (.func 249) #[] #[])) (hc2 : w.cell? ⟨b2, 0, none⟩ = some (.string s)) :
    Calls Tryz.prog 315 #[.agg #[.string name, .int .i64 kind, .bool null], .pointer (some ⟨b1, 0, none⟩), .pointer (some ⟨b2, 0, none⟩)] w fun e w' => e = .returned (.bool (eqS name s)) ∧ Aft w w' := by
  have Cn := Lib.hid (fun w => columnName_any name kind null w)
  go_enter Tryz.func315, Tryz.ntmps315
  go_wp2_with fail
  have f1 : ∀ x : Lat (w.alloc (.cells #[.string name, .int .i64 kind, .bool null] 109)), (lat _ x).cell? ⟨b1, 0, none⟩ = some (.func (.func 249) #[] #[]) := fun x => (cell?_lat _ x b1 0 (by simp; omega)).trans ((World.cell?_alloc_past _ _ _ hb1).trans hc1)
  have f2 : ∀ x : Lat (w.alloc (.cells #[.string name, .int .i64 kind, .bool null] 109)), (lat _ x).cell? ⟨b2, 0, none⟩ = some (.string s) := fun x => (cell?_lat _ x b2 0 (by simp; omega)).trans ((World.cell?_alloc_past _ _ _ hb2).trans hc2)
  have f3 : ∀ x : Lat (w.alloc (.cells #[.string name, .int .i64 kind, .bool null] 109)), ∀ o, (lat _ x).cell? ⟨w.heap.size, o, none⟩ = (#[.string name, .int .i64 kind, .bool null] : Array Value)[o]? := fun x o => (cell?_lat _ x _ o (by simp)).trans (World.cell?_alloc_at _ _ _ _ rfl)
  refine wp_region_lat (by kernel_rfl) (by kernel_rfl) ?_
  repeat (go_big_quiet_step ((first | (go_at_call 249; exact Calls.lat_of (Cn.out _)))))
  refine wpQuiet_nil ?_
  intro _ hw'
  obtain ⟨x, hw''⟩ := hw'
  subst hw''
  clear f1 f2 f3 hc1 hc2
  go_wp2_with fail
  go_ret
  exact ⟨rfl, ((Aft.refl _).alloc _).lat x⟩
set_option maxHeartbeats 1000000 in
theorem byCol (A : Option Addr) (cap : Nat) (l : List Col) (s : ByteArray) (w : World) (h : SlAt w 3 ColR A cap l) :
    Calls Tryz.prog 248 #[.slice A l.length cap, .string s, .func (.func 249) #[] #[]] w fun e w' => e = .returned (.int .i64 (idxP (fun c => eqS c.name s) l)) ∧ Aft w w' := by
  have hent := enters (P := Tryz.prog) Tryz.func315 (by kernel_rfl) rfl
  have C := Lib.hid (idxCol A cap l 315 #[.pointer (some ⟨w.heap.size + 1, 0, none⟩), .pointer (some ⟨w.heap.size, 0, none⟩)] (fun c => eqS c.name s) ((w.alloc (.cells #[.string s] 9)).alloc (.cells #[.func (.func 249) #[] #[]] 249)) (cols_aft (((Aft.refl w).alloc _).alloc _) h) hent (fun w' ha i hi  => by
    obtain ⟨d1, d2, z1, z2⟩ := aft_two ha
    exact byCol1 _ _ _ s (w.heap.size + 1) w.heap.size w' z2 z1 d2 d1))
  go_enter Tryz.func248, Tryz.ntmps248
  go_wp2_with fail
  refine C.out.mono ?_
  rintro e w1 ⟨rfl, a1⟩
  have HA := Lib.hid ((((Aft.refl w).alloc _).alloc _).trans a1)
  clear a1
  go_wp2_with fail
  go_ret
  exact ⟨rfl, HA.out⟩
theorem schemaName_any (name : ByteArray) (owner : ByteArray) (w : World) :
    Calls Tryz.prog 212 #[.agg #[.string name, .string owner]] w fun e w' => e = .returned (.string name) ∧ Aft w w' := by
  go_enter Tryz.func212, Tryz.ntmps212
  go_wp2_with fail
  go_ret
  exact ⟨rfl, (Aft.refl _).alloc _⟩
set_option maxHeartbeats 1000000 in
theorem bySch1 (name : ByteArray) (owner : ByteArray) (s : ByteArray) (b1 b2 : Nat) (w : World) (hb1 : b1 < w.heap.size) (hb2 : b2 < w.heap.size) (hc1 : w.cell? ⟨b1, 0, none⟩ = some (.func (.func 212) #[] #[])) (hc2 : w.cell? ⟨b2, 0, none⟩ = some (.string s)) :
    Calls Tryz.prog 296 #[.agg #[.string name, .string owner], .pointer (some ⟨b1, 0, none⟩), .pointer (some ⟨b2, 0, none⟩)] w fun e w' => e = .returned (.bool (eqS name s)) ∧ Aft w w' := by
  have Cn := Lib.hid (fun w => schemaName_any name owner w)
  go_enter Tryz.func296, Tryz.ntmps296
  go_wp2_with fail
  have f1 : ∀ x : Lat (w.alloc (.cells #[.string name, .string owner] 96)), (lat _ x).cell? ⟨b1, 0, none⟩ = some (.func (.func 212) #[] #[]) := fun x => (cell?_lat _ x b1 0 (by simp; omega)).trans ((World.cell?_alloc_past _ _ _ hb1).trans hc1)
  have f2 : ∀ x : Lat (w.alloc (.cells #[.string name, .string owner] 96)), (lat _ x).cell? ⟨b2, 0, none⟩ = some (.string s) := fun x => (cell?_lat _ x b2 0 (by simp; omega)).trans ((World.cell?_alloc_past _ _ _ hb2).trans hc2)
  have f3 : ∀ x : Lat (w.alloc (.cells #[.string name, .string owner] 96)), ∀ o, (lat _ x).cell? ⟨w.heap.size, o, none⟩ = (#[.string name, .string owner] : Array Value)[o]? := fun x o => (cell?_lat _ x _ o (by simp)).trans (World.cell?_alloc_at _ _ _ _ rfl)
  refine wp_region_lat (by kernel_rfl) (by kernel_rfl) ?_
  repeat (go_big_quiet_step ((first | (go_at_call 212; exact Calls.lat_of (Cn.out _)))))
  refine wpQuiet_nil ?_
  intro _ hw'
  obtain ⟨x, hw''⟩ := hw'
  subst hw''
  clear f1 f2 f3 hc1 hc2
  go_wp2_with fail
  go_ret
  exact ⟨rfl, ((Aft.refl _).alloc _).lat x⟩
set_option maxHeartbeats 1000000 in
theorem bySch (A : Option Addr) (cap : Nat) (l : List Sch) (s : ByteArray) (w : World) (h : SlAt w 2 SchR A cap l) :
    Calls Tryz.prog 211 #[.slice A l.length cap, .string s, .func (.func 212) #[] #[]] w fun e w' => e = .returned (.int .i64 (idxP (fun c => eqS c.name s) l)) ∧ Aft w w' := by
  have hent := enters (P := Tryz.prog) Tryz.func296 (by kernel_rfl) rfl
  have C := Lib.hid (idxSch A cap l 296 #[.pointer (some ⟨w.heap.size + 1, 0, none⟩), .pointer (some ⟨w.heap.size, 0, none⟩)] (fun c => eqS c.name s) ((w.alloc (.cells #[.string s] 9)).alloc (.cells #[.func (.func 212) #[] #[]] 216)) (schs_aft (((Aft.refl w).alloc _).alloc _) h) hent (fun w' ha i hi  => by
    obtain ⟨d1, d2, z1, z2⟩ := aft_two ha
    exact bySch1 _ _ s (w.heap.size + 1) w.heap.size w' z2 z1 d2 d1))
  go_enter Tryz.func211, Tryz.ntmps211
  go_wp2_with fail
  refine C.out.mono ?_
  rintro e w1 ⟨rfl, a1⟩
  have HA := Lib.hid ((((Aft.refl w).alloc _).alloc _).trans a1)
  clear a1
  go_wp2_with fail
  go_ret
  exact ⟨rfl, HA.out⟩
theorem ruleName_any (name : ByteArray) (kind : Int) (A0 : Option Addr) (n0 : Nat) (c0 : Nat) (lo : Int) (hi : Int) (rs : ByteArray) (rt : ByteArray) (rk : ByteArray) (w : World) :
    Calls Tryz.prog 256 #[.agg #[.string name, .int .i64 kind, .slice A0 n0 c0, .int .i64 lo, .int .i64 hi, .string rs, .string rt, .string rk]] w fun e w' => e = .returned (.string name) ∧ Aft w w' := by
  go_enter Tryz.func256, Tryz.ntmps256
  go_wp2_with fail
  go_ret
  exact ⟨rfl, (Aft.refl _).alloc _⟩
set_option maxHeartbeats 1000000 in
theorem byRul1 (name : ByteArray) (kind : Int) (A0 : Option Addr) (n0 : Nat) (c0 : Nat) (lo : Int) (hi : Int) (rs : ByteArray) (rt : ByteArray) (rk : ByteArray) (s : ByteArray) (b1 b2 : Nat) (w : World) (hb1 : b1 < w.heap.size) (hb2 : b2 < w.heap.size) (hc1 : w.cell? ⟨b1, 0, none⟩ = some (.func (.func 256) #[] #[])) (hc2 : w.cell? ⟨b2, 0, none⟩ = some (.string s)) :
    Calls Tryz.prog 317 #[.agg #[.string name, .int .i64 kind, .slice A0 n0 c0, .int .i64 lo, .int .i64 hi, .string rs, .string rt, .string rk], .pointer (some ⟨b1, 0, none⟩), .pointer (some ⟨b2, 0, none⟩)] w fun e w' => e = .returned (.bool (eqS name s)) ∧ Aft w w' := by
  have Cn := Lib.hid (fun w => ruleName_any name kind A0 n0 c0 lo hi rs rt rk w)
  go_enter Tryz.func317, Tryz.ntmps317
  go_wp2_with fail
  have f1 : ∀ x : Lat (w.alloc (.cells #[.string name, .int .i64 kind, .slice A0 n0 c0, .int .i64 lo, .int .i64 hi, .string rs, .string rt, .string rk] 42)), (lat _ x).cell? ⟨b1, 0, none⟩ = some (.func (.func 256) #[] #[]) := fun x => (cell?_lat _ x b1 0 (by simp; omega)).trans ((World.cell?_alloc_past _ _ _ hb1).trans hc1)
  have f2 : ∀ x : Lat (w.alloc (.cells #[.string name, .int .i64 kind, .slice A0 n0 c0, .int .i64 lo, .int .i64 hi, .string rs, .string rt, .string rk] 42)), (lat _ x).cell? ⟨b2, 0, none⟩ = some (.string s) := fun x => (cell?_lat _ x b2 0 (by simp; omega)).trans ((World.cell?_alloc_past _ _ _ hb2).trans hc2)
  have f3 : ∀ x : Lat (w.alloc (.cells #[.string name, .int .i64 kind, .slice A0 n0 c0, .int .i64 lo, .int .i64 hi, .string rs, .string rt, .string rk] 42)), ∀ o, (lat _ x).cell? ⟨w.heap.size, o, none⟩ = (#[.string name, .int .i64 kind, .slice A0 n0 c0, .int .i64 lo, .int .i64 hi, .string rs, .string rt, .string rk] : Array Value)[o]? := fun x o => (cell?_lat _ x _ o (by simp)).trans (World.cell?_alloc_at _ _ _ _ rfl)
  refine wp_region_lat (by kernel_rfl) (by kernel_rfl) ?_
  repeat (go_big_quiet_step ((first | (go_at_call 256; exact Calls.lat_of (Cn.out _)))))
  refine wpQuiet_nil ?_
  intro _ hw'
  obtain ⟨x, hw''⟩ := hw'
  subst hw''
  clear f1 f2 f3 hc1 hc2
  go_wp2_with fail
  go_ret
  exact ⟨rfl, ((Aft.refl _).alloc _).lat x⟩
set_option maxHeartbeats 1000000 in
theorem byRul (A : Option Addr) (cap : Nat) (l : List Rul) (s : ByteArray) (w : World) (h : SlAt w 8 RulR A cap l) :
    Calls Tryz.prog 255 #[.slice A l.length cap, .string s, .func (.func 256) #[] #[]] w fun e w' => e = .returned (.int .i64 (idxP (fun c => eqS c.name s) l)) ∧ Aft w w' := by
  have hent := enters (P := Tryz.prog) Tryz.func317 (by kernel_rfl) rfl
  have C := Lib.hid (idxRul A cap l 317 #[.pointer (some ⟨w.heap.size + 1, 0, none⟩), .pointer (some ⟨w.heap.size, 0, none⟩)] (fun c => eqS c.name s) ((w.alloc (.cells #[.string s] 9)).alloc (.cells #[.func (.func 256) #[] #[]] 253)) (ruls_aft (((Aft.refl w).alloc _).alloc _) h) hent (fun w' ha i hi e1 he => by
    obtain ⟨A2, cap2, rfl, _⟩ := he; obtain ⟨d1, d2, z1, z2⟩ := aft_two ha
    exact byRul1 _ _ _ _ _ _ _ _ _ _ s (w.heap.size + 1) w.heap.size w' z2 z1 d2 d1))
  go_enter Tryz.func255, Tryz.ntmps255
  go_wp2_with fail
  refine C.out.mono ?_
  rintro e w1 ⟨rfl, a1⟩
  have HA := Lib.hid ((((Aft.refl w).alloc _).alloc _).trans a1)
  clear a1
  go_wp2_with fail
  go_ret
  exact ⟨rfl, HA.out⟩
end Go.Proofs.YtgkhmnamkfgciaaGreat

