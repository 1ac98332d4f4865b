/- Contracts of the program, part 13. -/
import Derived.Test.YticjnndhpfdajaaGreatPartG12
import Derived.Test.YticjnndhpfdajaaGreatPartG9
import Derived.IntWalk
import Derived.Deep.RegionLaw
import Derived.Test.YticjnndhpfdajaaGreatPartG4
import Derived.Deep.RegionHeld3
import Derived.Test.YticjnndhpfdajaaGreatPartG6
import Derived.Deep.DeepMust
/- slices.Insert of one element into a row of our own, at texts and at members. -/
namespace Go.Proofs.YticjnndhpfdajaaGreat
open Go.RowKit Go.Deep Go.Lib
set_option maxRecDepth 100000
set_option linter.unusedVariables false
end Go.Proofs.YticjnndhpfdajaaGreat
/- roles.Add: a role is added. -/
namespace Go.Proofs.YticjnndhpfdajaaGreat
open Go.RowKit Go.Deep
set_option maxRecDepth 100000
set_option linter.unusedVariables false
end Go.Proofs.YticjnndhpfdajaaGreat
/- roles.Join: a member joins. -/
namespace Go.Proofs.YticjnndhpfdajaaGreat
open Go.RowKit Go.Deep
set_option maxRecDepth 100000
set_option linter.unusedVariables false
end Go.Proofs.YticjnndhpfdajaaGreat
/- The document's Reach: round by round, till a round finds nothing. -/
namespace Go.Proofs.YticjnndhpfdajaaGreat
open Go.RowKit Go.Deep
set_option maxRecDepth 100000
set_option linter.unusedVariables false
theorem filter_snoc8 {α : Type} {p : α → Bool} {l : List α} {k : Nat} (hk : k < l.length) : (l.take (k + 1)).filter p = (l.take k).filter p ++ (if p l[k] then [l[k]] else []) := by
  rw [List.take_succ_eq_append_getElem hk, List.filter_append]
  congr 1
  cases h : p l[k] <;> simp [h]
def Shut (ms : List Mbr) (S : List ByteArray) (k : Nat) : Prop := ∀ j, j < k → ∀ (h : j < ms.length), inB S ms[j].role = true → inB S ms[j].of = true
structure ReS (w W0 wr : World) (ms : List Mbr) (role : ByteArray) (h : Hd) (S : List ByteArray) : Prop where
  aft : Aft W0 wr
  own : wr.ownsRow (w.heap.size + 1) 9 1 h.v S.length (S.flatMap nameC)
  fnd : Fnd ms role S
  sm : ∀ x ∈ S, Small x.size
theorem ReS.sl {w W0 wr : World} {ms : List Mbr} {role : ByteArray} {h : Hd} {S : List ByteArray} (s : ReS w W0 wr ms role h S) (hm : ms.length * 16 ≤ 140737488351000) : SlAt wr 1 StrR h.a h.c S :=
  own_slf nameC s.own (fun x hx => ⟨rfl, rfl, s.sm x hx⟩) (by have := s.fnd.len; unfold Small; omega)
theorem ReS.to {w W0 wr wr' : World} {ms : List Mbr} {role : ByteArray} {h : Hd} {S : List ByteArray} (s : ReS w W0 wr ms role h S) (a : Aft wr wr') : ReS w W0 wr' ms role h S := ⟨s.aft.trans a, own_aft s.own a, s.fnd, s.sm⟩
/-- what comes back: the names that are reached, in memory of their own -/
def ReachP (w : World) (r : Rls) (role : ByteArray) (e : Ending) (w' : World) : Prop :=
  ∃ h : Hd, e = .returned h.v ∧ Aft w w' ∧ w'.ownsRow w.heap.size 9 1 h.v (r.names.filter (reachB r.members role)).length ((r.names.filter (reachB r.members role)).flatMap nameC)
set_option maxHeartbeats 8000000 in
theorem rreach (r : Rls) (An : Option Addr) (capn : Nat) (Am : Option Addr) (capm : Nat) (role : ByteArray) (w : World) (hn : SlAt w 1 StrR An capn r.names) (hm : SlAt w 2 MbrR Am capm r.members) (hrs : Small role.size) (hmm : r.members.length * 16 ≤ 140737488351000) :
    Calls Tryz.prog 186 #[.agg #[.slice An r.names.length capn, .slice Am r.members.length capm], .string role] w (ReachP w r role) := by
  have hlen := hn.len
  have l1 : w.heap.size < w.heap.size + 1 := by omega
  have l2 : w.heap.size < w.heap.size + 1 + 1 := by omega
  obtain ⟨W0, hW0⟩ : ∃ W0, W0 = w.alloc (.cells #[.slice An r.names.length capn, .slice Am r.members.length capm] 56) := ⟨_, rfl⟩
  have HW0 := Lib.hid hW0
  have zW0 : W0.heap.size = w.heap.size + 1 := by rw [hW0]; simp
  have HR0 := Lib.hid (show ∀ w', Aft W0 w' → (w'.cell? ⟨w.heap.size, 0, none⟩ = some (.slice An r.names.length capn) ∧ w'.cell? ⟨w.heap.size, 1, none⟩ = some (.slice Am r.members.length capm) ∧ w.heap.size < w'.heap.size) from fun w' a => by
    rw [hW0] at a
    obtain ⟨hb, _, hz, _, _⟩ := aft_box a
    exact ⟨by rw [hb]; rfl, by rw [hb]; rfl, hz.1⟩)
  have HS0 := Lib.hid (show ReS w W0 (W0.alloc (.cells #[.string role] 9)) r.members role ⟨some ⟨w.heap.size + 1, 0, none⟩, 1, 1⟩ [role] from
    ⟨(Aft.refl _).alloc _, ⟨by simp [nameC], .inr ⟨W0.heap.size, 1, #[.string role], by rw [zW0]; rfl, by omega, heap_alloc_new W0 _, Nat.le_refl _, by unfold maxLen; omega, rfl, by simp [nameC]⟩⟩, Fnd.start _ _, fun x hx => by simp at hx; subst hx; exact hrs⟩)
  have HNM := Lib.hid (And.intro hn hm)
  have HAW := Lib.hid (show Aft w W0 by rw [hW0]; exact (Aft.refl w).alloc _)
  rw [hW0] at HS0
  clear hn hm hW0
  go_enter Tryz.func186, Tryz.ntmps186
  go_wp2_with fail
  go_loopw [5, 6] (fun u5 u6 wr => ∃ (n : Nat) (h : Hd) (S : List ByteArray), u5 = .slice h.a S.length h.c ∧ u6 = .int .i64 n ∧ n ≤ S.length ∧ ReS w W0 wr r.members role h S ∧ (n = S.length → Shut r.members S r.members.length)) (fun _ u6 _ => r.members.length + 2 - (intOf u6).toNat)
  case atStart => exact ⟨0, ⟨some ⟨w.heap.size + 1, 0, none⟩, 1, 1⟩, [role], rfl, rfl, by simp, by rw [HW0.out]; exact HS0.out, fun h => by simp at h⟩
  case round =>
    clear HS0
    obtain ⟨n, h, S, rfl, rfl, hnS, hs, hsh⟩ := hrel
    have HS := Lib.hid hs
    have HSH := Lib.hid hsh
    have hSl := hs.fnd.len
    clear hs hsh
    by_cases hlt : n < S.length
    · go_wp2_with fail
      go_loopw [5, 7] (fun u5 u7 wr => ∃ (k : Nat) (h : Hd) (S' : List ByteArray), u5 = .slice h.a S'.length h.c ∧ u7 = .int .i64 k ∧ k ≤ r.members.length ∧ S.length ≤ S'.length ∧ ReS w W0 wr r.members role h S' ∧ (S.length = S'.length → Shut r.members S' k)) (fun _ u7 _ => r.members.length - (intOf u7).toNat)
      case atStart => exact ⟨0, h, S, rfl, rfl, Nat.zero_le _, Nat.le_refl _, HS.out, fun _ j hj => absurd hj (Nat.not_lt_zero j)⟩
      case round =>
        obtain ⟨k, h', S', rfl, rfl, hk, hSS, hs', hsh'⟩ := hrel
        have HS' := Lib.hid hs'
        have HSH' := Lib.hid hsh'
        obtain ⟨e0, e1, e2⟩ := HR0.out wr hs'.aft
        have hSl' := hs'.fnd.len
        clear hs' hsh'
        by_cases hlt2 : k < r.members.length
        · obtain ⟨b, off, rfl, hb, t0, t1, hs1, hs2⟩ := mbr_at (mbrs_aft (HAW.out.trans HS'.out.aft) HNM.out.2) hlt2
          obtain ⟨m, hm2⟩ : ∃ m, r.members[k] = m := ⟨_, rfl⟩
          rw [hm2] at t0 t1 hs1 hs2
          have HMM := Lib.hid hm2
          have hlenS : S'.length * 16 ≤ 140737488351232 := by omega
          have aX : Aft wr (wr.alloc (.cells #[.string m.role, .string m.of] 185)) := (Aft.refl _).alloc _
          obtain ⟨i1, hi1⟩ : ∃ i, inB S' m.role = i := ⟨_, rfl⟩
          obtain ⟨i2, hi2⟩ : ∃ i, inB S' m.of = i := ⟨_, rfl⟩
          have K1 := Lib.hid (show ∀ w', Aft wr w' → Calls Tryz.prog 137 #[.slice h'.a S'.length h'.c, .string m.role] w' fun e w'' => e = .returned (.bool i1) ∧ w' = w'' from fun w' a => hi1 ▸ rin_any h'.a h'.c S' m.role w' (strs_aft a (HS'.out.sl hmm)))
          have K2 := Lib.hid (show ∀ w', Aft wr w' → Calls Tryz.prog 137 #[.slice h'.a S'.length h'.c, .string m.of] w' fun e w'' => e = .returned (.bool i2) ∧ w' = w'' from fun w' a => hi2 ▸ rin_any h'.a h'.c S' m.of w' (strs_aft a (HS'.out.sl hmm)))
          have HI := Lib.hid (And.intro hi1 hi2)
          clear hm2 hi1 hi2
          cases i1
          · go_wp2_with (go_at_call 137; refine (K1.out _ aX).mono ?_; rintro e w4 ⟨rfl, rfl⟩)
            go_roundw
            case rel =>
              refine ⟨k + 1, h', S', rfl, by go_num, by omega, hSS, HS'.out.to aX, fun e j hj hj2 => ?_⟩
              rcases Nat.lt_or_ge j k with h1 | h1
              · exact HSH'.out e j h1 hj2
              · have : j = k := by omega
                subst this
                rw [HMM.out, HI.out.1]
                exact fun h => Bool.noConfusion h
            case measure => simp [intOf]; omega
          cases i2
          · have HMEM := Lib.hid (show m ∈ r.members by rw [← HMM.out]; exact List.getElem_mem hlt2)
            have HV := Lib.hid (own_slice HS'.out.own)
            have HOW := Lib.hid (show (wr.alloc (.cells #[.string m.role, .string m.of] 185)).ownsRow (w.heap.size + 1) 9 1 (.slice h'.a S'.length h'.c) S'.length (S'.flatMap nameC) by rw [← HV.out]; exact own_aft HS'.out.own aX)
            obtain ⟨i0, hi0, hz0, hz1, hz2⟩ := info_parts info2Str2
            have HI0 := Lib.hid hi0
            have HZ := Lib.hid (And.intro hz0 (And.intro hz1 hz2))
            have hq7 : S'.length + 1 ≤ maxLen := by unfold maxLen; omega
            have hq8 : (S'.length + 1) * 16 ≤ 140737488355328 := by omega
            clear hi0 hz0 hz1 hz2
            go_wp2_with (first
              | (go_at_call 137; first | (with_reducible refine (K1.out _ aX).mono ?_; rintro e w4 ⟨rfl, rfl⟩) | (with_reducible refine (K2.out _ aX).mono ?_; rintro e w4 ⟨rfl, rfl⟩))
              | (at_builtin; go_must (refine wpList_append_lies _ rfl _ _ 27 rfl (w.heap.size + 1) 9 i0 _ 1 16 Tryz.underlying27 HI0.out HZ.out.1 HZ.out.2.1 HZ.out.2.2 rfl (by decide) (.slice h'.a S'.length h'.c) S'.length (S'.flatMap nameC) rfl (HOW.out.alloc _) ⟨wr.heap.size + 1, 0, none⟩ 1 1 [.string m.of] rfl rfl ?qn (by simp [Value.oneCell']) (by omega) hq7 hq8 ?qb (wr.heap.size + 1 + 1) (by simp) ?_); rotate_left 2; intro gg cap' w5 hown5 hgrow hat hgl))
            case qn => exact World.news_of_block (cs := #[.string m.of]) (t := 9) (fr := (0, 0)) (by have := heap_alloc_new (wr.alloc (.cells #[.string m.role, .string m.of] 185)) (.cells #[.string m.of] 9); simpa using this)
            case qb => simp; omega
            have HS5 := Lib.hid (show ReS w W0 w5 r.members role ⟨some ⟨gg, 0, none⟩, S'.length + 1, cap'⟩ (S' ++ [m.of]) from by
              have o5 : (wr.alloc (.cells #[.string m.role, .string m.of] 185)).ownsRow W0.heap.size 9 1 (.slice h'.a S'.length h'.c) S'.length (S'.flatMap nameC) := by rw [zW0]; exact HOW.out
              refine ⟨aft_grown (o5.alloc _) ((HS'.out.aft.trans aX).alloc _) hgrow, ?_, HS'.out.fnd.add HMEM.out HI.out.1 HI.out.2, fun x hx => ?_⟩
              · rw [List.length_append, List.flatMap_append]; exact hown5
              · rcases List.mem_append.1 hx with h1 | h1
                · exact HS'.out.sm x h1
                · rw [List.mem_singleton] at h1; rw [h1]; exact hs2)
            clear hown5 hgrow hat hgl
            go_wp2_with fail
            go_roundw
            case rel =>
              refine ⟨k + 1, ⟨some ⟨gg, 0, none⟩, S'.length + 1, cap'⟩, S' ++ [m.of], by simp, by go_num, by omega, by simp; omega, HS5.out, fun e => by simp at e; omega⟩
            case measure => simp [intOf]; omega
          · go_wp2_with (go_at_call 137; first | (with_reducible refine (K1.out _ aX).mono ?_; rintro e w4 ⟨rfl, rfl⟩) | (with_reducible refine (K2.out _ aX).mono ?_; rintro e w4 ⟨rfl, rfl⟩))
            go_roundw
            case rel =>
              refine ⟨k + 1, h', S', rfl, by go_num, by omega, hSS, HS'.out.to aX, fun e j hj hj2 => ?_⟩
              rcases Nat.lt_or_ge j k with h1 | h1
              · exact HSH'.out e j h1 hj2
              · have : j = k := by omega
                subst this
                rw [HMM.out, HI.out.2]
                exact fun _ => rfl
            case measure => simp [intOf]; omega
        · go_wp2_with fail
          go_roundw
          case rel =>
            have hkk : k = r.members.length := by omega
            exact ⟨S.length, h', S', rfl, rfl, hSS, HS'.out, fun e => hkk ▸ HSH'.out e⟩
          case measure => simp [intOf]; omega
    · have hnn : n = S.length := by omega
      have HALL := Lib.hid (HS.out.fnd.all fun m hm => by
        obtain ⟨j, hj, rfl⟩ := List.getElem_of_mem hm
        exact HSH.out hnn j hj hj)
      subst hnn
      obtain ⟨q, hq⟩ : ∃ q : ByteArray → Bool, q = reachB r.members role := ⟨_, rfl⟩
      have HQ := Lib.hid hq
      clear hq
      obtain ⟨Wf, rfl⟩ : ∃ Wf, Wf = wr := ⟨_, rfl⟩
      go_wp2_with fail
      go_loopw [9, 10] (fun u9 u10 wr => ∃ (k : Nat) (g : Hd), u9 = .slice g.a ((r.names.take k).filter q).length g.c ∧ u10 = .int .i64 k ∧ k ≤ r.names.length ∧ Aft Wf wr ∧ wr.ownsRow Wf.heap.size 9 1 g.v ((r.names.take k).filter q).length (((r.names.take k).filter q).flatMap nameC)) (fun _ u10 _ => r.names.length - (intOf u10).toNat)
      case atStart => exact ⟨0, ⟨none, 0, 0⟩, rfl, rfl, Nat.zero_le _, Aft.refl _, own_nil _ _ _ _⟩
      case round =>
        obtain ⟨k, g, rfl, rfl, hk, ha, hown⟩ := hrel
        have HA := Lib.hid ha
        have HOWN := Lib.hid hown
        obtain ⟨e0, e1, e2⟩ := HR0.out wr (HS.out.aft.trans ha)
        obtain ⟨lk0, hlk0⟩ : ∃ lk0, ((r.names.take k).filter q) = lk0 := ⟨_, rfl⟩
        rw [hlk0] at HOWN
        have hlkl : lk0.length ≤ r.names.length := by rw [← hlk0]; exact Nat.le_trans (List.length_filter_le _ _) (by rw [List.length_take]; omega)
        rw [hlk0]
        have HLK := Lib.hid hlk0
        clear hlk0 hown ha
        by_cases hlt2 : k < r.names.length
        · obtain ⟨b, off, rfl, hb, c0, hs⟩ := str_at (strs_aft (HAW.out.trans (HS.out.aft.trans HA.out)) HNM.out.1) hlt2
          obtain ⟨x, hx⟩ : ∃ x, r.names[k] = x := ⟨_, rfl⟩
          rw [hx] at c0 hs
          obtain ⟨i, hi⟩ : ∃ i, inB S x = i := ⟨_, rfl⟩
          have HNF := Lib.hid (show ((r.names.take (k + 1)).filter q) = lk0 ++ (if i then [x] else []) by rw [filter_snoc8 hlt2, HLK.out, hx, HQ.out, ← HALL.out, hi])
          have K := Lib.hid (show ∀ w', Aft wr w' → Calls Tryz.prog 137 #[.slice h.a S.length h.c, .string x] w' fun e w'' => e = .returned (.bool i) ∧ w' = w'' from fun w' a => hi ▸ rin_any h.a h.c S x w' (strs_aft (HA.out.trans a) (HS.out.sl hmm)))
          clear hx hi
          cases i
          · go_wp2_with (go_at_call 137; refine (K.out _ (Aft.refl _)).mono ?_; rintro e w4 ⟨rfl, rfl⟩)
            go_roundw
            case rel =>
              refine ⟨k + 1, g, ?_, by go_num, by omega, HA.out, ?_⟩
              · rw [HNF.out]; simp
              · rw [HNF.out]; simpa using HOWN.out
            case measure => simp [intOf]; omega
          · have HV := Lib.hid (own_slice HOWN.out)
            have HOW := Lib.hid (show wr.ownsRow Wf.heap.size 9 1 (.slice g.a lk0.length g.c) lk0.length (lk0.flatMap nameC) by rw [← HV.out]; exact HOWN.out)
            obtain ⟨i0, hi0, hz0, hz1, hz2⟩ := info_parts info2Str2
            have HI0 := Lib.hid hi0
            have HZ := Lib.hid (And.intro hz0 (And.intro hz1 hz2))
            have hq7 : lk0.length + 1 ≤ maxLen := by unfold maxLen; omega
            have hq8 : (lk0.length + 1) * 16 ≤ 140737488355328 := by omega
            have l6 : b < wr.heap.size + 1 := by omega
            clear hi0 hz0 hz1 hz2
            go_wp2_with (first
              | (go_at_call 137; refine (K.out _ (Aft.refl _)).mono ?_; rintro e w4 ⟨rfl, rfl⟩)
              | (at_builtin; go_must (refine wpList_append_lies _ rfl _ _ 27 rfl Wf.heap.size 9 i0 _ 1 16 Tryz.underlying27 HI0.out HZ.out.1 HZ.out.2.1 HZ.out.2.2 rfl (by decide) (.slice g.a lk0.length g.c) lk0.length (lk0.flatMap nameC) rfl (HOW.out.alloc _) ⟨wr.heap.size, 0, none⟩ 1 1 [.string x] rfl rfl ?qn (by simp [Value.oneCell']) (by omega) hq7 hq8 ?qb (wr.heap.size + 1) (by simp) ?_); rotate_left 2; intro gg cap' w5 hown5 hgrow hat hgl))
            case qn => exact World.news_of_block (cs := #[.string x]) (t := 9) (fr := (0, 0)) (heap_alloc_new wr _)
            case qb => have := HA.out.size; simp; omega
            have HA5 := Lib.hid (show Aft Wf w5 from aft_grown (HOW.out.alloc _) (HA.out.alloc _) hgrow)
            have HO5 := Lib.hid hown5
            clear hown5 hgrow hat hgl
            go_wp2_with fail
            go_roundw
            case rel =>
              refine ⟨k + 1, ⟨some ⟨gg, 0, none⟩, lk0.length + 1, cap'⟩, ?_, by go_num, by omega, HA5.out, ?_⟩
              · rw [HNF.out]; simp
              · rw [HNF.out]
                simp only [if_true, List.length_append, List.length_singleton, List.flatMap_append]
                exact HO5.out
            case measure => simp [intOf]; omega
        · have HP := Lib.hid (show ReachP w r role (.returned (.slice g.a lk0.length g.c)) wr from by
            have hl : lk0 = r.names.filter (reachB r.members role) := by rw [← HLK.out, List.take_of_length_le (by omega), HQ.out]
            refine ⟨g, by rw [own_slice HOWN.out], HAW.out.trans (HS.out.aft.trans HA.out), ?_⟩
            rw [← hl]
            exact own_down HOWN.out (by have := (HAW.out.trans HS.out.aft).size; omega))
          go_wp2_with fail
          go_ret
          exact HP.out
end Go.Proofs.YticjnndhpfdajaaGreat
