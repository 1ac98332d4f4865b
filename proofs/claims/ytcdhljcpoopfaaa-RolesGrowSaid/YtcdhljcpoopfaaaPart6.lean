/- Contracts of the program, part 6. -/
import Derived.Test.YtcdhljcpoopfaaaPart5
import Derived.Test.YtcdhljcpoopfaaaPart3
import Derived.Deep.DeepMust
import Derived.IntWalk
import Derived.Deep.RegionHeld3
/- The document's Reach: round by round, till a round finds nothing. -/
namespace Go.Proofs.Ytcdhljcpoopfaaa
open Go.RowKit Go.Deep
set_option maxRecDepth 100000
set_option linter.unusedVariables false
theorem filter_snoc8 {α : Type} {p : α → Bool} {l : List α} {k : Nat} (hk : k < l.length) : (l.take (k + 1)).filter p = (l.take k).filter p ++ (if p l[k] then [l[k]] else []) := by
  rw [List.take_succ_eq_append_getElem hk, List.filter_append]
  congr 1
  cases h : p l[k] <;> simp [h]
def Shut (ms : List Mbr) (S : List ByteArray) (k : Nat) : Prop := ∀ j, j < k → ∀ (h : j < ms.length), inB S ms[j].role = true → inB S ms[j].of = true
structure ReS (w W0 wr : World) (ms : List Mbr) (role : ByteArray) (h : Hd) (S : List ByteArray) : Prop where
  aft : Aft W0 wr
  own : wr.ownsRow (w.heap.size + 1) 9 1 h.v S.length (S.flatMap nameC)
  fnd : Fnd ms role S
  sm : ∀ x ∈ S, Small x.size
theorem ReS.sl {w W0 wr : World} {ms : List Mbr} {role : ByteArray} {h : Hd} {S : List ByteArray} (s : ReS w W0 wr ms role h S) (hm : ms.length * 16 ≤ 140737488351000) : SlAt wr 1 StrR h.a h.c S :=
  own_slf nameC s.own (fun x hx => ⟨rfl, rfl, s.sm x hx⟩) (by have := s.fnd.len; unfold Small; omega)
theorem ReS.to {w W0 wr wr' : World} {ms : List Mbr} {role : ByteArray} {h : Hd} {S : List ByteArray} (s : ReS w W0 wr ms role h S) (a : Aft wr wr') : ReS w W0 wr' ms role h S := ⟨s.aft.trans a, own_aft s.own a, s.fnd, s.sm⟩
/-- what comes back: the names that are reached, in memory of their own -/
def ReachP (w : World) (r : Rls) (role : ByteArray) (e : Ending) (w' : World) : Prop :=
  ∃ h : Hd, e = .returned h.v ∧ Aft w w' ∧ w'.ownsRow w.heap.size 9 1 h.v (r.names.filter (reachB r.members role)).length ((r.names.filter (reachB r.members role)).flatMap nameC)
set_option maxHeartbeats 8000000 in
theorem rreach (r : Rls) (An : Option Addr) (capn : Nat) (Am : Option Addr) (capm : Nat) (role : ByteArray) (w : World) (hn : SlAt w 1 StrR An capn r.names) (hm : SlAt w 2 MbrR Am capm r.members) (hrs : Small role.size) (hmm : r.members.length * 16 ≤ 140737488351000) :
    Calls Try.prog 51 #[.agg #[.slice An r.names.length capn, .slice Am r.members.length capm], .string role] w (ReachP w r role) := by
  have hlen := hn.len
  have l1 : w.heap.size < w.heap.size + 1 := by omega
  have l2 : w.heap.size < w.heap.size + 1 + 1 := by omega
  obtain ⟨W0, hW0⟩ : ∃ W0, W0 = w.alloc (.cells #[.slice An r.names.length capn, .slice Am r.members.length capm] 25) := ⟨_, rfl⟩
  have HW0 := Lib.hid hW0
  have zW0 : W0.heap.size = w.heap.size + 1 := by rw [hW0]; simp
  have HR0 := Lib.hid (show ∀ w', Aft W0 w' → (w'.cell? ⟨w.heap.size, 0, none⟩ = some (.slice An r.names.length capn) ∧ w'.cell? ⟨w.heap.size, 1, none⟩ = some (.slice Am r.members.length capm) ∧ w.heap.size < w'.heap.size) from fun w' a => by
    rw [hW0] at a
    obtain ⟨hb, _, hz, _, _⟩ := aft_box a
    exact ⟨by rw [hb]; rfl, by rw [hb]; rfl, hz.1⟩)
  have HS0 := Lib.hid (show ReS w W0 (W0.alloc (.cells #[.string role] 9)) r.members role ⟨some ⟨w.heap.size + 1, 0, none⟩, 1, 1⟩ [role] from
    ⟨(Aft.refl _).alloc _, ⟨by simp [nameC], .inr ⟨W0.heap.size, 1, #[.string role], by rw [zW0]; rfl, by omega, heap_alloc_new W0 _, Nat.le_refl _, by unfold maxLen; omega, rfl, by simp [nameC]⟩⟩, Fnd.start _ _, fun x hx => by simp at hx; subst hx; exact hrs⟩)
  have HNM := Lib.hid (And.intro hn hm)
  have HAW := Lib.hid (show Aft w W0 by rw [hW0]; exact (Aft.refl w).alloc _)
  rw [hW0] at HS0
  clear hn hm hW0
  go_enter Try.func51, Try.ntmps51
  go_wp2_with fail
  go_loopw [5, 6] (fun u5 u6 wr => ∃ (n : Nat) (h : Hd) (S : List ByteArray), u5 = .slice h.a S.length h.c ∧ u6 = .int .i64 n ∧ n ≤ S.length ∧ ReS w W0 wr r.members role h S ∧ (n = S.length → Shut r.members S r.members.length)) (fun _ u6 _ => r.members.length + 2 - (intOf u6).toNat)
  case atStart => exact ⟨0, ⟨some ⟨w.heap.size + 1, 0, none⟩, 1, 1⟩, [role], rfl, rfl, by simp, by rw [HW0.out]; exact HS0.out, fun h => by simp at h⟩
  case round =>
    clear HS0
    obtain ⟨n, h, S, rfl, rfl, hnS, hs, hsh⟩ := hrel
    have HS := Lib.hid hs
    have HSH := Lib.hid hsh
    have hSl := hs.fnd.len
    clear hs hsh
    by_cases hlt : n < S.length
    · go_wp2_with fail
      go_loopw [5, 7] (fun u5 u7 wr => ∃ (k : Nat) (h : Hd) (S' : List ByteArray), u5 = .slice h.a S'.length h.c ∧ u7 = .int .i64 k ∧ k ≤ r.members.length ∧ S.length ≤ S'.length ∧ ReS w W0 wr r.members role h S' ∧ (S.length = S'.length → Shut r.members S' k)) (fun _ u7 _ => r.members.length - (intOf u7).toNat)
      case atStart => exact ⟨0, h, S, rfl, rfl, Nat.zero_le _, Nat.le_refl _, HS.out, fun _ j hj => absurd hj (Nat.not_lt_zero j)⟩
      case round =>
        obtain ⟨k, h', S', rfl, rfl, hk, hSS, hs', hsh'⟩ := hrel
        have HS' := Lib.hid hs'
        have HSH' := Lib.hid hsh'
        obtain ⟨e0, e1, e2⟩ := HR0.out wr hs'.aft
        have hSl' := hs'.fnd.len
        clear hs' hsh'
        by_cases hlt2 : k < r.members.length
        · obtain ⟨b, off, rfl, hb, t0, t1, hs1, hs2⟩ := mbr_at (mbrs_aft (HAW.out.trans HS'.out.aft) HNM.out.2) hlt2
          obtain ⟨m, hm2⟩ : ∃ m, r.members[k] = m := ⟨_, rfl⟩
          rw [hm2] at t0 t1 hs1 hs2
          have HMM := Lib.hid hm2
          have hlenS : S'.length * 16 ≤ 140737488351232 := by omega
          have aX : Aft wr (wr.alloc (.cells #[.string m.role, .string m.of] 61)) := (Aft.refl _).alloc _
          obtain ⟨i1, hi1⟩ : ∃ i, inB S' m.role = i := ⟨_, rfl⟩
          obtain ⟨i2, hi2⟩ : ∃ i, inB S' m.of = i := ⟨_, rfl⟩
          have K1 := Lib.hid (show ∀ w', Aft wr w' → Calls Try.prog 50 #[.slice h'.a S'.length h'.c, .string m.role] w' fun e w'' => e = .returned (.bool i1) ∧ w' = w'' from fun w' a => hi1 ▸ rin_any h'.a h'.c S' m.role w' (strs_aft a (HS'.out.sl hmm)))
          have K2 := Lib.hid (show ∀ w', Aft wr w' → Calls Try.prog 50 #[.slice h'.a S'.length h'.c, .string m.of] w' fun e w'' => e = .returned (.bool i2) ∧ w' = w'' from fun w' a => hi2 ▸ rin_any h'.a h'.c S' m.of w' (strs_aft a (HS'.out.sl hmm)))
          have HI := Lib.hid (And.intro hi1 hi2)
          clear hm2 hi1 hi2
          cases i1
          · go_wp2_with (go_at_call 50; refine (K1.out _ aX).mono ?_; rintro e w4 ⟨rfl, rfl⟩)
            go_roundw
            case rel =>
              refine ⟨k + 1, h', S', rfl, by go_num, by omega, hSS, HS'.out.to aX, fun e j hj hj2 => ?_⟩
              rcases Nat.lt_or_ge j k with h1 | h1
              · exact HSH'.out e j h1 hj2
              · have : j = k := by omega
                subst this
                rw [HMM.out, HI.out.1]
                exact fun h => Bool.noConfusion h
            case measure => simp [intOf]; omega
          cases i2
          · have HMEM := Lib.hid (show m ∈ r.members by rw [← HMM.out]; exact List.getElem_mem hlt2)
            have HV := Lib.hid (own_slice HS'.out.own)
            have HOW := Lib.hid (show (wr.alloc (.cells #[.string m.role, .string m.of] 61)).ownsRow (w.heap.size + 1) 9 1 (.slice h'.a S'.length h'.c) S'.length (S'.flatMap nameC) by rw [← HV.out]; exact own_aft HS'.out.own aX)
            obtain ⟨i0, hi0, hz0, hz1, hz2⟩ := info_parts info2Str2
            have HI0 := Lib.hid hi0
            have HZ := Lib.hid (And.intro hz0 (And.intro hz1 hz2))
            have hq7 : S'.length + 1 ≤ maxLen := by unfold maxLen; omega
            have hq8 : (S'.length + 1) * 16 ≤ 140737488355328 := by omega
            clear hi0 hz0 hz1 hz2
            go_wp2_with (first
              | (go_at_call 50; first | (with_reducible refine (K1.out _ aX).mono ?_; rintro e w4 ⟨rfl, rfl⟩) | (with_reducible refine (K2.out _ aX).mono ?_; rintro e w4 ⟨rfl, rfl⟩))
              | (at_builtin; go_must (refine wpList_append_lies _ rfl _ _ 22 rfl (w.heap.size + 1) 9 i0 _ 1 16 Try.underlying22 HI0.out HZ.out.1 HZ.out.2.1 HZ.out.2.2 rfl (by decide) (.slice h'.a S'.length h'.c) S'.length (S'.flatMap nameC) rfl (HOW.out.alloc _) ⟨wr.heap.size + 1, 0, none⟩ 1 1 [.string m.of] rfl rfl ?qn (by simp [Value.oneCell']) (by omega) hq7 hq8 ?qb (wr.heap.size + 1 + 1) (by simp) ?_); rotate_left 2; intro gg cap' w5 hown5 hgrow hat hgl))
            case qn => exact World.news_of_block (cs := #[.string m.of]) (t := 9) (fr := (0, 0)) (by have := heap_alloc_new (wr.alloc (.cells #[.string m.role, .string m.of] 61)) (.cells #[.string m.of] 9); simpa using this)
            case qb => simp; omega
            have HS5 := Lib.hid (show ReS w W0 w5 r.members role ⟨some ⟨gg, 0, none⟩, S'.length + 1, cap'⟩ (S' ++ [m.of]) from by
              have o5 : (wr.alloc (.cells #[.string m.role, .string m.of] 61)).ownsRow W0.heap.size 9 1 (.slice h'.a S'.length h'.c) S'.length (S'.flatMap nameC) := by rw [zW0]; exact HOW.out
              refine ⟨aft_grown (o5.alloc _) ((HS'.out.aft.trans aX).alloc _) hgrow, ?_, HS'.out.fnd.add HMEM.out HI.out.1 HI.out.2, fun x hx => ?_⟩
              · rw [List.length_append, List.flatMap_append]; exact hown5
              · rcases List.mem_append.1 hx with h1 | h1
                · exact HS'.out.sm x h1
                · rw [List.mem_singleton] at h1; rw [h1]; exact hs2)
            clear hown5 hgrow hat hgl
            go_wp2_with fail
            go_roundw
            case rel =>
              refine ⟨k + 1, ⟨some ⟨gg, 0, none⟩, S'.length + 1, cap'⟩, S' ++ [m.of], by simp, by go_num, by omega, by simp; omega, HS5.out, fun e => by simp at e; omega⟩
            case measure => simp [intOf]; omega
          · go_wp2_with (go_at_call 50; first | (with_reducible refine (K1.out _ aX).mono ?_; rintro e w4 ⟨rfl, rfl⟩) | (with_reducible refine (K2.out _ aX).mono ?_; rintro e w4 ⟨rfl, rfl⟩))
            go_roundw
            case rel =>
              refine ⟨k + 1, h', S', rfl, by go_num, by omega, hSS, HS'.out.to aX, fun e j hj hj2 => ?_⟩
              rcases Nat.lt_or_ge j k with h1 | h1
              · exact HSH'.out e j h1 hj2
              · have : j = k := by omega
                subst this
                rw [HMM.out, HI.out.2]
                exact fun _ => rfl
            case measure => simp [intOf]; omega
        · go_wp2_with fail
          go_roundw
          case rel =>
            have hkk : k = r.members.length := by omega
            exact ⟨S.length, h', S', rfl, rfl, hSS, HS'.out, fun e => hkk ▸ HSH'.out e⟩
          case measure => simp [intOf]; omega
    · have hnn : n = S.length := by omega
      have HALL := Lib.hid (HS.out.fnd.all fun m hm => by
        obtain ⟨j, hj, rfl⟩ := List.getElem_of_mem hm
        exact HSH.out hnn j hj hj)
      subst hnn
      obtain ⟨q, hq⟩ : ∃ q : ByteArray → Bool, q = reachB r.members role := ⟨_, rfl⟩
      have HQ := Lib.hid hq
      clear hq
      obtain ⟨Wf, rfl⟩ : ∃ Wf, Wf = wr := ⟨_, rfl⟩
      go_wp2_with fail
      go_loopw [9, 10] (fun u9 u10 wr => ∃ (k : Nat) (g : Hd), u9 = .slice g.a ((r.names.take k).filter q).length g.c ∧ u10 = .int .i64 k ∧ k ≤ r.names.length ∧ Aft Wf wr ∧ wr.ownsRow Wf.heap.size 9 1 g.v ((r.names.take k).filter q).length (((r.names.take k).filter q).flatMap nameC)) (fun _ u10 _ => r.names.length - (intOf u10).toNat)
      case atStart => exact ⟨0, ⟨none, 0, 0⟩, rfl, rfl, Nat.zero_le _, Aft.refl _, own_nil _ _ _ _⟩
      case round =>
        obtain ⟨k, g, rfl, rfl, hk, ha, hown⟩ := hrel
        have HA := Lib.hid ha
        have HOWN := Lib.hid hown
        obtain ⟨e0, e1, e2⟩ := HR0.out wr (HS.out.aft.trans ha)
        obtain ⟨lk0, hlk0⟩ : ∃ lk0, ((r.names.take k).filter q) = lk0 := ⟨_, rfl⟩
        rw [hlk0] at HOWN
        have hlkl : lk0.length ≤ r.names.length := by rw [← hlk0]; exact Nat.le_trans (List.length_filter_le _ _) (by rw [List.length_take]; omega)
        rw [hlk0]
        have HLK := Lib.hid hlk0
        clear hlk0 hown ha
        by_cases hlt2 : k < r.names.length
        · obtain ⟨b, off, rfl, hb, c0, hs⟩ := str_at (strs_aft (HAW.out.trans (HS.out.aft.trans HA.out)) HNM.out.1) hlt2
          obtain ⟨x, hx⟩ : ∃ x, r.names[k] = x := ⟨_, rfl⟩
          rw [hx] at c0 hs
          obtain ⟨i, hi⟩ : ∃ i, inB S x = i := ⟨_, rfl⟩
          have HNF := Lib.hid (show ((r.names.take (k + 1)).filter q) = lk0 ++ (if i then [x] else []) by rw [filter_snoc8 hlt2, HLK.out, hx, HQ.out, ← HALL.out, hi])
          have K := Lib.hid (show ∀ w', Aft wr w' → Calls Try.prog 50 #[.slice h.a S.length h.c, .string x] w' fun e w'' => e = .returned (.bool i) ∧ w' = w'' from fun w' a => hi ▸ rin_any h.a h.c S x w' (strs_aft (HA.out.trans a) (HS.out.sl hmm)))
          clear hx hi
          cases i
          · go_wp2_with (go_at_call 50; refine (K.out _ (Aft.refl _)).mono ?_; rintro e w4 ⟨rfl, rfl⟩)
            go_roundw
            case rel =>
              refine ⟨k + 1, g, ?_, by go_num, by omega, HA.out, ?_⟩
              · rw [HNF.out]; simp
              · rw [HNF.out]; simpa using HOWN.out
            case measure => simp [intOf]; omega
          · have HV := Lib.hid (own_slice HOWN.out)
            have HOW := Lib.hid (show wr.ownsRow Wf.heap.size 9 1 (.slice g.a lk0.length g.c) lk0.length (lk0.flatMap nameC) by rw [← HV.out]; exact HOWN.out)
            obtain ⟨i0, hi0, hz0, hz1, hz2⟩ := info_parts info2Str2
            have HI0 := Lib.hid hi0
            have HZ := Lib.hid (And.intro hz0 (And.intro hz1 hz2))
            have hq7 : lk0.length + 1 ≤ maxLen := by unfold maxLen; omega
            have hq8 : (lk0.length + 1) * 16 ≤ 140737488355328 := by omega
            have l6 : b < wr.heap.size + 1 := by omega
            clear hi0 hz0 hz1 hz2
            go_wp2_with (first
              | (go_at_call 50; refine (K.out _ (Aft.refl _)).mono ?_; rintro e w4 ⟨rfl, rfl⟩)
              | (at_builtin; go_must (refine wpList_append_lies _ rfl _ _ 22 rfl Wf.heap.size 9 i0 _ 1 16 Try.underlying22 HI0.out HZ.out.1 HZ.out.2.1 HZ.out.2.2 rfl (by decide) (.slice g.a lk0.length g.c) lk0.length (lk0.flatMap nameC) rfl (HOW.out.alloc _) ⟨wr.heap.size, 0, none⟩ 1 1 [.string x] rfl rfl ?qn (by simp [Value.oneCell']) (by omega) hq7 hq8 ?qb (wr.heap.size + 1) (by simp) ?_); rotate_left 2; intro gg cap' w5 hown5 hgrow hat hgl))
            case qn => exact World.news_of_block (cs := #[.string x]) (t := 9) (fr := (0, 0)) (heap_alloc_new wr _)
            case qb => have := HA.out.size; simp; omega
            have HA5 := Lib.hid (show Aft Wf w5 from aft_grown (HOW.out.alloc _) (HA.out.alloc _) hgrow)
            have HO5 := Lib.hid hown5
            clear hown5 hgrow hat hgl
            go_wp2_with fail
            go_roundw
            case rel =>
              refine ⟨k + 1, ⟨some ⟨gg, 0, none⟩, lk0.length + 1, cap'⟩, ?_, by go_num, by omega, HA5.out, ?_⟩
              · rw [HNF.out]; simp
              · rw [HNF.out]
                simp only [if_true, List.length_append, List.length_singleton, List.flatMap_append]
                exact HO5.out
            case measure => simp [intOf]; omega
        · have HP := Lib.hid (show ReachP w r role (.returned (.slice g.a lk0.length g.c)) wr from by
            have hl : lk0 = r.names.filter (reachB r.members role) := by rw [← HLK.out, List.take_of_length_le (by omega), HQ.out]
            refine ⟨g, by rw [own_slice HOWN.out], HAW.out.trans (HS.out.aft.trans HA.out), ?_⟩
            rw [← hl]
            exact own_down HOWN.out (by have := (HAW.out.trans HS.out.aft).size; omega))
          go_wp2_with fail
          go_ret
          exact HP.out
end Go.Proofs.Ytcdhljcpoopfaaa
/- The document's roles: right, or not. -/
namespace Go.Proofs.Ytcdhljcpoopfaaa
open Go.RowKit Go.Deep
set_option maxRecDepth 100000
set_option linter.unusedVariables false
def mIn (r : Rls) (m : Mbr) : Bool := inB r.names m.role && inB r.names m.of
def rowsR (r : Rls) : Bool := r.names.all nameB && risesB cmpS r.names && (r.members.all (mIn r) && risesB cmpM r.members)
theorem rightR_rows (r : Rls) : rightR r = (decide (r.names.length ≤ 16) && decide (r.members.length ≤ 256) && (rowsR r && r.members.all fun m => !reachB r.members m.of m.role)) := by
  have e : r.members.all (mbrOk r) = (r.members.all (mIn r) && r.members.all fun m => !reachB r.members m.of m.role) := by
    rw [Bool.eq_iff_iff]
    simp only [Bool.and_eq_true, List.all_eq_true]
    constructor
    · intro h
      refine ⟨fun m hm => ?_, fun m hm => ?_⟩
      · have := h m hm; unfold mbrOk at this; unfold mIn; simp only [Bool.and_eq_true] at this ⊢; exact this.1
      · have := h m hm; unfold mbrOk at this; simp only [Bool.and_eq_true] at this; exact this.2
    · intro h m hm
      have h1 := h.1 m hm
      have h2 := h.2 m hm
      unfold mIn at h1; unfold mbrOk
      simp only [Bool.and_eq_true] at h1 ⊢
      exact ⟨h1, h2⟩
  unfold rightR rowsR
  rw [e]
  generalize decide (r.names.length ≤ 16) = a
  generalize decide (r.members.length ≤ 256) = b
  generalize risesB cmpS r.names = c
  generalize risesB cmpM r.members = d
  generalize r.names.all nameB = x
  generalize r.members.all (mIn r) = y
  generalize (r.members.all fun m => !reachB r.members m.of m.role) = z
  revert a b c d x y z
  decide
theorem reachB_eq {ms : List Mbr} {s a b : ByteArray} (h : eqS a b = true) : reachB ms s a = reachB ms s b := by
  unfold reachB
  rw [(eqS_txt a b).1 h]
theorem inB_filter (ms : List Mbr) (s t : ByteArray) (l : List ByteArray) : inB (l.filter (reachB ms s)) t = (reachB ms s t && inB l t) := by
  unfold inB
  induction l with
  | nil => simp
  | cons x l ih =>
    rw [List.filter_cons, List.any_cons]
    cases h : eqS x t
    · cases h2 : reachB ms s x
      · simp [ih]
      · simp [ih, h]
    · cases h2 : reachB ms s x
      · rw [reachB_eq h] at h2
        rw [if_neg (by simp), ih, h2]; simp
      · have h3 := h2
        rw [reachB_eq h] at h3
        rw [if_pos (by simp), List.any_cons, h, h3]; simp
theorem rowsR_name (r : Rls) (k : Nat) (hk : k < r.names.length) (h : nameB r.names[k] = false) : rowsR r = false := by
  unfold rowsR; rw [all_false _ _ k hk h]; rfl
theorem rowsR_nrise (r : Rls) (k : Nat) (hk : k < r.names.length) (h0 : 0 < k) (h : ltS (r.names[k - 1]'(by omega)) r.names[k] = false) : rowsR r = false := by
  have h1 : k - 1 + 1 < r.names.length := by omega
  have e : (r.names[k - 1 + 1]'h1) = r.names[k] := by congr 1; omega
  unfold rowsR
  rw [risesB_false cmpS _ (k - 1) h1]
  · simp
  · rw [e]
    rw [← cmpS_lt] at h
    have := of_decide_eq_false h
    omega
theorem rowsR_in (r : Rls) (k : Nat) (hk : k < r.members.length) (h : mIn r r.members[k] = false) : rowsR r = false := by
  unfold rowsR; rw [all_false _ _ k hk h]; simp
theorem rowsR_mrise (r : Rls) (k : Nat) (hk : k < r.members.length) (h0 : 0 < k) (h : ¬ cmpM (r.members[k - 1]'(by omega)) r.members[k] < 0) : rowsR r = false := by
  have h1 : k - 1 + 1 < r.members.length := by omega
  have e : (r.members[k - 1 + 1]'h1) = r.members[k] := by congr 1; omega
  unfold rowsR
  rw [risesB_false cmpM _ (k - 1) h1]
  · simp
  · rw [e]; omega
theorem rises_pred8 {α : Type} (c : α → α → Int) (l : List α) (h : ∀ k, 1 ≤ k → ∀ (hk : k < l.length), c (l[k - 1]'(by omega)) l[k] < 0) : risesB c l = true :=
  (risesB_iff c l).2 fun k hk => h (k + 1) (by omega) hk
set_option maxHeartbeats 8000000 in
theorem rrows8 (r : Rls) (An : Option Addr) (capn : Nat) (Am : Option Addr) (capm : Nat) (w : World) (hn : SlAt w 1 StrR An capn r.names) (hm : SlAt w 2 MbrR Am capm r.members) :
    Calls Try.prog 49 #[.agg #[.slice An r.names.length capn, .slice Am r.members.length capm]] w fun e w' => e = .returned (.bool (rowsR r)) ∧ Aft w w' := by
  have hlen := hn.len
  have hlen2 := hm.len
  have HN := Lib.hid hn
  have HM := Lib.hid hm
  clear hn hm
  go_enter Try.func49, Try.ntmps49
  go_wp2_with fail
  go_loopw [3] (fun i wr => ∃ k : Nat, k ≤ r.names.length ∧ i = .int .i64 k ∧ Aft (w.alloc (.cells #[.slice An r.names.length capn, .slice Am r.members.length capm] 25)) wr ∧ ∀ j, j < k → ∀ (hj : j < r.names.length), nameB r.names[j] = true ∧ (0 < j → ltS (r.names[j - 1]'(by omega)) r.names[j] = true)) (fun i _ => r.names.length - (intOf i).toNat)
  case atStart => exact ⟨0, Nat.zero_le _, rfl, Aft.refl _, fun j hj => absurd hj (Nat.not_lt_zero j)⟩
  case round =>
    obtain ⟨k, hk, rfl, ha, hp⟩ := hrel
    have HP := Lib.hid hp; clear hp
    obtain ⟨hbox, hfr, hz, hzk, HA⟩ := aft_box ha
    have HAB := Lib.hid ha
    clear ha
    by_cases hlt : k < r.names.length
    · obtain ⟨b, off, rfl, hb, c0, hs⟩ := str_at (strs_aft HA.out HN.out) hlt
      obtain ⟨x, hx⟩ : ∃ x, r.names[k] = x := ⟨_, rfl⟩
      rw [hx] at c0 hs
      have HX := Lib.hid hx
      obtain ⟨q, hq⟩ : ∃ q, nameB x = q := ⟨_, rfl⟩
      have HQ := Lib.hid (show nameB r.names[k] = q by rw [hx]; exact hq)
      have CN := Lib.hid (show ∀ y : Lat wr, Calls Try.prog 70 #[.string x] (lat wr y) fun e w'' => e = .returned (.bool q) ∧ lat wr y = w'' from fun y => hq ▸ rname_any x (lat wr y) hs.max)
      clear hx hq
      cases q
      · have HF := Lib.hid (rowsR_name r k hlt HQ.out)
        go_wp2_with fail
        refine wp_region_lat (by kernel_rfl) (by kernel_rfl) ?_
        repeat (go_big_quiet_step ((go_at_call 70; exact Calls.lat_same (CN.out _))))
        refine wpQuiet_nil ?_
        intro _ hw'
        obtain ⟨y, hw''⟩ := hw'
        subst hw''
        go_wp2_with fail
        go_ret
        exact ⟨by rw [HF.out]; rfl, HA.out.lat y⟩
      by_cases h0 : 0 < k
      · have hk1 : k - 1 < r.names.length := by omega
        obtain ⟨b', off', hA', hb', e0, _⟩ := str_at (strs_aft HA.out HN.out) hk1
        simp only [Option.some.injEq, Addr.mk.injEq, and_true] at hA'
        obtain ⟨rfl, rfl⟩ := hA'
        obtain ⟨x', hx'⟩ : ∃ x', (r.names[k - 1]'hk1) = x' := ⟨_, rfl⟩
        rw [hx'] at e0
        have HX' := Lib.hid hx'
        have w1 : IntKind.i64.wrap ((k : Int) - 1) = (k : Int) - 1 := IntWalk.i64_in _ (by omega)
        have w2 : (0 : Int) ≤ (k : Int) - 1 := by omega
        have w3 : ((k : Int) - 1).toNat = k - 1 := by omega
        have w4 : (k : Int) - 1 < (r.names.length : Int) := by omega
        have w5 : decide ((0 : Int) < (k : Int)) = true := decide_eq_true (by omega)
        clear hx'
        cases hL : ltS x' x
        · have hL' : Op.bytesLess x'.toList x.toList = false := hL
          have HF := Lib.hid (rowsR_nrise r k hlt h0 (by rw [HX.out, HX'.out]; exact hL))
          clear hL
          go_wp2_with fail
          refine wp_region_lat (by kernel_rfl) (by kernel_rfl) ?_
          repeat (go_big_quiet_step ((go_at_call 70; exact Calls.lat_same (CN.out _))))
          refine wpQuiet_nil ?_
          intro _ hw'
          obtain ⟨y, hw''⟩ := hw'
          subst hw''
          go_wp2_with fail
          go_ret
          exact ⟨by rw [HF.out]; rfl, HA.out.lat y⟩
        · have hL' : Op.bytesLess x'.toList x.toList = true := hL
          have HNX := Lib.hid (ext_lt (p := fun j => ∀ (hj : j < r.names.length), nameB r.names[j] = true ∧ (0 < j → ltS (r.names[j - 1]'(by omega)) r.names[j] = true)) HP.out (fun _ => ⟨HQ.out, fun _ => by rw [HX.out, HX'.out]; exact hL⟩))
          clear hL
          go_wp2_with fail
          refine wp_region_lat (by kernel_rfl) (by kernel_rfl) ?_
          repeat (go_big_quiet_step ((go_at_call 70; exact Calls.lat_same (CN.out _))))
          refine wpQuiet_nil ?_
          intro _ hw'
          obtain ⟨y, hw''⟩ := hw'
          subst hw''
          go_wp2_with fail
          go_roundw
          case rel => exact ⟨k + 1, by omega, by go_num, HAB.out.lat y, HNX.out⟩
          case measure => simp [intOf]; omega
      · have w5 : decide ((0 : Int) < (k : Int)) = false := decide_eq_false (by omega)
        have HNX := Lib.hid (ext_lt (p := fun j => ∀ (hj : j < r.names.length), nameB r.names[j] = true ∧ (0 < j → ltS (r.names[j - 1]'(by omega)) r.names[j] = true)) HP.out (fun _ => ⟨HQ.out, fun h => absurd h h0⟩))
        go_wp2_with fail
        refine wp_region_lat (by kernel_rfl) (by kernel_rfl) ?_
        repeat (go_big_quiet_step ((go_at_call 70; exact Calls.lat_same (CN.out _))))
        refine wpQuiet_nil ?_
        intro _ hw'
        obtain ⟨y, hw''⟩ := hw'
        subst hw''
        go_wp2_with fail
        go_roundw
        case rel => exact ⟨k + 1, by omega, by go_num, HAB.out.lat y, HNX.out⟩
        case measure => simp [intOf]; omega
    have HR := Lib.hid (show rowsR r = (r.members.all (mIn r) && risesB cmpM r.members) by
      unfold rowsR
      rw [all_true _ _ fun j hj => (HP.out j (by omega) hj).1, rises_pred8 cmpS _ fun j hj1 hj => (cmpS_lt_iff _ _).2 ((HP.out j (by omega) hj).2 (by omega))]
      rfl)
    clear HP
    go_wp2_with fail
    go_loopw [4] (fun i wr => ∃ k : Nat, k ≤ r.members.length ∧ i = .int .i64 k ∧ Aft (w.alloc (.cells #[.slice An r.names.length capn, .slice Am r.members.length capm] 25)) wr ∧ ∀ j, j < k → ∀ (hj : j < r.members.length), mIn r r.members[j] = true ∧ (0 < j → cmpM (r.members[j - 1]'(by omega)) r.members[j] < 0)) (fun i _ => r.members.length - (intOf i).toNat)
    case atStart => exact ⟨0, Nat.zero_le _, rfl, HAB.out, fun j hj => absurd hj (Nat.not_lt_zero j)⟩
    case round =>
      clear hbox hfr hz hzk HA HAB
      obtain ⟨k2, hk2, rfl, ha, hp⟩ := hrel
      have HP := Lib.hid hp; clear hp
      obtain ⟨hbox, hfr, hz, hzk, HA⟩ := aft_box ha
      have HAB := Lib.hid ha
      clear ha
      by_cases hlt2 : k2 < r.members.length
      · obtain ⟨b, off, rfl, hb, c0, c1, hs1, hs2⟩ := mbr_at (mbrs_aft HA.out HM.out) hlt2
        obtain ⟨p, hpp⟩ : ∃ p, r.members[k2] = p := ⟨_, rfl⟩
        rw [hpp] at c0 c1 hs1 hs2
        have HPP := Lib.hid hpp
        obtain ⟨i1, hi1⟩ : ∃ i, inB r.names p.role = i := ⟨_, rfl⟩
        obtain ⟨i2, hi2⟩ : ∃ i, inB r.names p.of = i := ⟨_, rfl⟩
        have aX : Aft w (wr.alloc (.cells #[.string p.role, .string p.of] 61)) := HA.out.alloc _
        have K1 := Lib.hid (show Calls Try.prog 50 #[.slice An r.names.length capn, .string p.role] (wr.alloc (.cells #[.string p.role, .string p.of] 61)) fun e w'' => e = .returned (.bool i1) ∧ _ = w'' from (rin_any An capn r.names p.role _ (strs_aft aX HN.out)).mono fun e w'' ⟨he, hw⟩ => ⟨by rw [he, ← hi1]; rfl, hw⟩)
        have K2 := Lib.hid (show Calls Try.prog 50 #[.slice An r.names.length capn, .string p.of] (wr.alloc (.cells #[.string p.role, .string p.of] 61)) fun e w'' => e = .returned (.bool i2) ∧ _ = w'' from (rin_any An capn r.names p.of _ (strs_aft aX HN.out)).mono fun e w'' ⟨he, hw⟩ => ⟨by rw [he, ← hi2]; rfl, hw⟩)
        have HI := Lib.hid (show mIn r r.members[k2] = (i1 && i2) by rw [hpp]; unfold mIn; rw [hi1, hi2])
        have HAX := Lib.hid aX
        clear hpp hi1 hi2 aX
        cases i1
        · have HF := Lib.hid (rowsR_in r k2 hlt2 (by rw [HI.out]; rfl))
          go_wp2_with (go_at_call 50; refine K1.out.mono ?_; rintro e w4 ⟨rfl, rfl⟩)
          go_ret
          exact ⟨by rw [HF.out]; rfl, HAX.out⟩
        cases i2
        · have HF := Lib.hid (rowsR_in r k2 hlt2 (by rw [HI.out]; rfl))
          go_wp2_with (go_at_call 50; first | (with_reducible refine K1.out.mono ?_; rintro e w4 ⟨rfl, rfl⟩) | (with_reducible refine K2.out.mono ?_; rintro e w4 ⟨rfl, rfl⟩))
          go_ret
          exact ⟨by rw [HF.out]; rfl, HAX.out⟩
        have l5 : b < wr.heap.size + 1 := by omega
        by_cases h0 : 0 < k2
        · have hk1 : k2 - 1 < r.members.length := by omega
          obtain ⟨b', off', hA', hb', e0, e1, _, _⟩ := mbr_at (mbrs_aft HA.out HM.out) hk1
          simp only [Option.some.injEq, Addr.mk.injEq, and_true] at hA'
          obtain ⟨rfl, rfl⟩ := hA'
          obtain ⟨p', hpp'⟩ : ∃ p', (r.members[k2 - 1]'hk1) = p' := ⟨_, rfl⟩
          rw [hpp'] at e0 e1
          have HO := Lib.hid (show cmpM (r.members[k2 - 1]'hk1) r.members[k2] = or2 (cmpS p'.role p.role) (cmpS p'.of p.of) by rw [HPP.out, hpp']; rfl)
          have HOL := Lib.hid (or2_lt p'.role p.role p'.of p.of)
          clear hpp'
          have w1 : IntKind.i64.wrap ((k2 : Int) - 1) = (k2 : Int) - 1 := IntWalk.i64_in _ (by omega)
          have w2 : (0 : Int) ≤ (k2 : Int) - 1 := by omega
          have w3 : ((k2 : Int) - 1).toNat = k2 - 1 := by omega
          have w4 : (k2 : Int) - 1 < (r.members.length : Int) := by omega
          have w5 : decide ((0 : Int) < (k2 : Int)) = true := decide_eq_true (by omega)
          cases hG : (!(ltS p'.role p.role || eqS p'.role p.role))
          · have hG' : (Op.bytesLess p'.role.toList p.role.toList || p'.role.toList == p.role.toList) = true := by have h1 := hG; rw [Bool.not_eq_false'] at h1; exact h1
            cases hE : eqS p'.role p.role
            · have hE' : (p'.role.toList == p.role.toList) = false := hE
              have hG2 : Op.bytesLess p'.role.toList p.role.toList = true := by rw [hE'] at hG'; simpa using hG'
              have HNX := Lib.hid (ext_lt (p := fun j => ∀ (hj : j < r.members.length), mIn r r.members[j] = true ∧ (0 < j → cmpM (r.members[j - 1]'(by omega)) r.members[j] < 0)) HP.out (fun _ => ⟨by rw [HI.out]; rfl, fun _ => by rw [HO.out]; exact of_decide_eq_true (by rw [HOL.out, hG, hE]; rfl)⟩))
              clear hG hE
              go_wp2_with (go_at_call 50; first | (with_reducible refine K1.out.mono ?_; rintro e w4 ⟨rfl, rfl⟩) | (with_reducible refine K2.out.mono ?_; rintro e w4 ⟨rfl, rfl⟩))
              refine wp_region_lat (by kernel_rfl) (by kernel_rfl) ?_
              repeat (go_big_quiet_step (fail))
              refine wpQuiet_nil ?_
              intro _ hw'
              obtain ⟨y, hw''⟩ := hw'
              subst hw''
              go_wp2_with fail
              go_roundw
              case rel => exact ⟨k2 + 1, by omega, by go_num, (HAB.out.alloc _).lat y, HNX.out⟩
              case measure => simp [intOf]; omega
            · have hE' : (p'.role.toList == p.role.toList) = true := hE
              cases hL : ltS p'.of p.of
              · have hL' : Op.bytesLess p'.of.toList p.of.toList = false := hL
                have HF := Lib.hid (rowsR_mrise r k2 hlt2 h0 (by rw [HO.out]; exact of_decide_eq_false (by rw [HOL.out, hG, hE, hL]; rfl)))
                clear hG hE hL
                go_wp2_with (go_at_call 50; first | (with_reducible refine K1.out.mono ?_; rintro e w4 ⟨rfl, rfl⟩) | (with_reducible refine K2.out.mono ?_; rintro e w4 ⟨rfl, rfl⟩))
                refine wp_region_lat (by kernel_rfl) (by kernel_rfl) ?_
                repeat (go_big_quiet_step (fail))
                refine wpQuiet_nil ?_
                intro _ hw'
                obtain ⟨y, hw''⟩ := hw'
                subst hw''
                go_wp2_with fail
                go_ret
                exact ⟨by rw [HF.out]; rfl, HAX.out.lat y⟩
              · have hL' : Op.bytesLess p'.of.toList p.of.toList = true := hL
                have HNX := Lib.hid (ext_lt (p := fun j => ∀ (hj : j < r.members.length), mIn r r.members[j] = true ∧ (0 < j → cmpM (r.members[j - 1]'(by omega)) r.members[j] < 0)) HP.out (fun _ => ⟨by rw [HI.out]; rfl, fun _ => by rw [HO.out]; exact of_decide_eq_true (by rw [HOL.out, hG, hE, hL]; rfl)⟩))
                clear hG hE hL
                go_wp2_with (go_at_call 50; first | (with_reducible refine K1.out.mono ?_; rintro e w4 ⟨rfl, rfl⟩) | (with_reducible refine K2.out.mono ?_; rintro e w4 ⟨rfl, rfl⟩))
                refine wp_region_lat (by kernel_rfl) (by kernel_rfl) ?_
                repeat (go_big_quiet_step (fail))
                refine wpQuiet_nil ?_
                intro _ hw'
                obtain ⟨y, hw''⟩ := hw'
                subst hw''
                go_wp2_with fail
                go_roundw
                case rel => exact ⟨k2 + 1, by omega, by go_num, (HAB.out.alloc _).lat y, HNX.out⟩
                case measure => simp [intOf]; omega
          · have hG' : (Op.bytesLess p'.role.toList p.role.toList || p'.role.toList == p.role.toList) = false := by have h1 := hG; rw [Bool.not_eq_true'] at h1; exact h1
            have HF := Lib.hid (rowsR_mrise r k2 hlt2 h0 (by rw [HO.out]; exact of_decide_eq_false (by rw [HOL.out, hG]; rfl)))
            clear hG
            go_wp2_with (go_at_call 50; first | (with_reducible refine K1.out.mono ?_; rintro e w4 ⟨rfl, rfl⟩) | (with_reducible refine K2.out.mono ?_; rintro e w4 ⟨rfl, rfl⟩))
            refine wp_region_lat (by kernel_rfl) (by kernel_rfl) ?_
            repeat (go_big_quiet_step (fail))
            refine wpQuiet_nil ?_
            intro _ hw'
            obtain ⟨y, hw''⟩ := hw'
            subst hw''
            go_wp2_with fail
            go_ret
            exact ⟨by rw [HF.out]; rfl, HAX.out.lat y⟩
        · have w5 : decide ((0 : Int) < (k2 : Int)) = false := decide_eq_false (by omega)
          have HNX := Lib.hid (ext_lt (p := fun j => ∀ (hj : j < r.members.length), mIn r r.members[j] = true ∧ (0 < j → cmpM (r.members[j - 1]'(by omega)) r.members[j] < 0)) HP.out (fun _ => ⟨by rw [HI.out]; rfl, fun h => absurd h h0⟩))
          go_wp2_with (go_at_call 50; first | (with_reducible refine K1.out.mono ?_; rintro e w4 ⟨rfl, rfl⟩) | (with_reducible refine K2.out.mono ?_; rintro e w4 ⟨rfl, rfl⟩))
          refine wp_region_lat (by kernel_rfl) (by kernel_rfl) ?_
          repeat (go_big_quiet_step (fail))
          refine wpQuiet_nil ?_
          intro _ hw'
          obtain ⟨y, hw''⟩ := hw'
          subst hw''
          go_wp2_with fail
          go_roundw
          case rel => exact ⟨k2 + 1, by omega, by go_num, (HAB.out.alloc _).lat y, HNX.out⟩
          case measure => simp [intOf]; omega
      · have HF := Lib.hid (show rowsR r = true by
          rw [HR.out, all_true _ _ fun j hj => (HP.out j (by omega) hj).1, rises_pred8 cmpM _ fun j hj1 hj => (HP.out j (by omega) hj).2 (by omega)]
          rfl)
        go_wp2_with fail
        go_ret
        exact ⟨by rw [HF.out]; rfl, HA.out⟩
end Go.Proofs.Ytcdhljcpoopfaaa
/- The document's Right of roles. -/
namespace Go.Proofs.Ytcdhljcpoopfaaa
open Go.RowKit Go.Deep
set_option maxRecDepth 100000
set_option linter.unusedVariables false
theorem rightR_big (r : Rls) (h : ¬ r.names.length ≤ 16) : rightR r = false := by rw [rightR_rows]; simp [h]
theorem rightR_bigm (r : Rls) (h : ¬ r.members.length ≤ 256) : rightR r = false := by rw [rightR_rows]; simp [h]
theorem rowsR_mem {r : Rls} (h : rowsR r = true) {m : Mbr} (hm : m ∈ r.members) : mIn r m = true := by
  unfold rowsR at h
  simp only [Bool.and_eq_true, List.all_eq_true] at h
  exact h.2.1 m hm
theorem inB_filter_row {r : Rls} (h : rowsR r = true) {m : Mbr} (hm : m ∈ r.members) (s : ByteArray) : inB (r.names.filter (reachB r.members s)) m.role = reachB r.members s m.role := by
  have := rowsR_mem h hm
  unfold mIn at this
  simp only [Bool.and_eq_true] at this
  rw [inB_filter, this.1, Bool.and_true]
set_option maxHeartbeats 8000000 in
theorem rright8 (r : Rls) (An : Option Addr) (capn : Nat) (Am : Option Addr) (capm : Nat) (w : World) (hn : SlAt w 1 StrR An capn r.names) (hm : SlAt w 2 MbrR Am capm r.members) :
    Calls Try.prog 14 #[.agg #[.slice An r.names.length capn, .slice Am r.members.length capm]] w fun e w' => e = .returned (.bool (rightR r)) ∧ Aft w w' := by
  have hlen := hn.len
  have hlen2 := hm.len
  have l1 : w.heap.size < w.heap.size + 1 := by omega
  by_cases h1 : r.names.length ≤ 16
  case neg =>
    have HF := Lib.hid (rightR_big r h1)
    have hi : (16 : Int) < (r.names.length : Int) := by omega
    go_enter Try.func14, Try.ntmps14
    go_wp2_with fail
    go_ret
    exact ⟨by rw [HF.out]; rfl, (Aft.refl _).alloc _⟩
  by_cases h2 : r.members.length ≤ 256
  case neg =>
    have HF := Lib.hid (rightR_bigm r h2)
    have hi : ¬ (16 : Int) < (r.names.length : Int) := by omega
    have hi2 : (256 : Int) < (r.members.length : Int) := by omega
    go_enter Try.func14, Try.ntmps14
    go_wp2_with fail
    go_ret
    exact ⟨by rw [HF.out]; rfl, (Aft.refl _).alloc _⟩
  have hi : ¬ (16 : Int) < (r.names.length : Int) := by omega
  have hi2 : ¬ (256 : Int) < (r.members.length : Int) := by omega
  obtain ⟨W, hW⟩ : ∃ W, W = w.alloc (.cells #[.slice An r.names.length capn, .slice Am r.members.length capm] 25) := ⟨_, rfl⟩
  have aW : Aft w W := by rw [hW]; exact (Aft.refl w).alloc _
  have r0 : ∀ w', Aft W w' → (w'.cell? ⟨w.heap.size, 0, none⟩ = some (.slice An r.names.length capn) ∧ w'.cell? ⟨w.heap.size, 1, none⟩ = some (.slice Am r.members.length capm) ∧ w.heap.size < w'.heap.size) := fun w' a => by
    rw [hW] at a
    obtain ⟨hb, _, hz, _, _⟩ := aft_box a
    exact ⟨by rw [hb]; rfl, by rw [hb]; rfl, hz.1⟩
  obtain ⟨q, hq⟩ : ∃ q, rowsR r = q := ⟨_, rfl⟩
  have C := Lib.hid (fun w' (a : Aft w w') => hq ▸ rrows8 r An capn Am capm w' (strs_aft a hn) (mbrs_aft a hm))
  have HRT := Lib.hid (show rightR r = (q && r.members.all fun m => !reachB r.members m.of m.role) by rw [rightR_rows, hq]; simp [h1, h2])
  have HR0 := Lib.hid r0
  have HAW := Lib.hid aW
  have HNM := Lib.hid (And.intro hn hm)
  have HQ := Lib.hid hq
  clear hq r0 aW hn hm
  go_enter Try.func14, Try.ntmps14
  go_wp2_with fail
  rw [← hW]
  clear hW
  refine (C.out W HAW.out).mono ?_
  rintro e w1 ⟨rfl, a1⟩
  have HA1 := Lib.hid a1
  obtain ⟨e0, e1, e2⟩ := HR0.out w1 a1
  clear a1
  cases q
  · have HF := Lib.hid (show rightR r = false by rw [HRT.out]; rfl)
    go_wp2_with fail
    go_ret
    exact ⟨by rw [HF.out]; rfl, HAW.out.trans HA1.out⟩
  go_wp2_with fail
  go_loopw [3] (fun i wr => ∃ k : Nat, k ≤ r.members.length ∧ i = .int .i64 k ∧ Aft W wr ∧ ∀ j, j < k → ∀ (hj : j < r.members.length), (!reachB r.members r.members[j].of r.members[j].role) = true) (fun i _ => r.members.length - (intOf i).toNat)
  case atStart => exact ⟨0, Nat.zero_le _, rfl, HA1.out, fun j hj => absurd hj (Nat.not_lt_zero j)⟩
  case round =>
    clear e0 e1 e2
    obtain ⟨k, hk, rfl, ha, hp⟩ := hrel
    have HA := Lib.hid ha
    have HP := Lib.hid hp
    obtain ⟨e0, e1, e2⟩ := HR0.out wr ha
    clear ha hp
    by_cases hlt : k < r.members.length
    · obtain ⟨b, off, rfl, hb, t0, t1, hs1, hs2⟩ := mbr_at (mbrs_aft (HAW.out.trans HA.out) HNM.out.2) hlt
      have HIN := Lib.hid (inB_filter_row HQ.out (List.getElem_mem hlt) r.members[k].of)
      obtain ⟨m, hmm⟩ : ∃ m, r.members[k] = m := ⟨_, rfl⟩
      rw [hmm] at t0 t1 hs1 hs2 HIN
      have HMM := Lib.hid hmm
      have K3 := Lib.hid (show ∀ w', Aft wr w' → Calls Try.prog 51 #[.agg #[.slice An r.names.length capn, .slice (some ⟨b, off, none⟩) r.members.length capm], .string m.of] w' (ReachP w' r m.of) from fun w' a => rreach r An capn _ capm m.of w' (strs_aft ((HAW.out.trans HA.out).trans a) HNM.out.1) (mbrs_aft ((HAW.out.trans HA.out).trans a) HNM.out.2) hs2 (by omega))
      obtain ⟨q, hq⟩ : ∃ q, reachB r.members m.of m.role = q := ⟨_, rfl⟩
      obtain ⟨F, hF⟩ : ∃ F, r.names.filter (reachB r.members m.of) = F := ⟨_, rfl⟩
      have K4 := Lib.hid (show ∀ (g : Hd) (B : Nat) (w' : World), w'.ownsRow B 9 1 g.v F.length (F.flatMap nameC) → Calls Try.prog 50 #[g.v, .string m.role] w' fun e w'' => e = .returned (.bool q) ∧ w' = w'' from fun g B w' o => by
        rw [own_slice o]
        refine (rin_any g.a g.c F m.role w' (own_slf nameC o (fun x hx => ⟨rfl, rfl, ?_⟩) ?_)).mono fun e w'' ⟨he, hw⟩ => ⟨?_, hw⟩
        · rw [← hF] at hx
          exact (sm_names HNM.out.1).2 x (List.mem_filter.1 hx).1
        · rw [← hF]
          have := List.length_filter_le (reachB r.members m.of) r.names
          unfold Small; omega
        · rw [he, ← hq, ← HIN.out, hF]; rfl)
      have KP := Lib.hid (show ∀ w' e w'', ReachP w' r m.of e w'' → ∃ g : Hd, e = .returned g.v ∧ Aft w' w'' ∧ w''.ownsRow w'.heap.size 9 1 g.v F.length (F.flatMap nameC) from fun w' e w'' h => by unfold ReachP at h; rw [hF] at h; exact h)
      have HOK := Lib.hid (show reachB r.members r.members[k].of r.members[k].role = q by rw [hmm]; exact hq)
      have KS := Lib.hid (show ∀ w', Aft wr w' → (Aft wr w' ∧ w'.cell? ⟨w.heap.size, 0, none⟩ = some (.slice An r.names.length capn) ∧ w'.cell? ⟨w.heap.size, 1, none⟩ = some (.slice (some ⟨b, off, none⟩) r.members.length capm) ∧ w'.cell? ⟨b, off + k * 2, none⟩ = some (.string m.role) ∧ w'.cell? ⟨b, off + k * 2 + 1, none⟩ = some (.string m.of)) from fun w' a => ⟨a, a.cell_kept e0, a.cell_kept e1, a.cell_kept t0, a.cell_kept t1⟩)
      clear hmm hq hF HIN
      go_wp2_with fail
      go_region_held3 (fun w' => Aft wr w' ∧ w'.cell? ⟨w.heap.size, 0, none⟩ = some (.slice An r.names.length capn) ∧ w'.cell? ⟨w.heap.size, 1, none⟩ = some (.slice (some ⟨b, off, none⟩) r.members.length capm) ∧ w'.cell? ⟨b, off + k * 2, none⟩ = some (.string m.role) ∧ w'.cell? ⟨b, off + k * 2 + 1, none⟩ = some (.string m.of))
        (first | exact KS.out _ (Aft.refl _).drew | exact KS.out _ (And.left (by assumption)) | exact KS.out _ (Aft.trans (And.left (by assumption : Aft wr _ ∧ _)) (by assumption)))
        ((first | (go_at_call 51; refine (K3.out _ (And.left (by assumption : Aft wr _ ∧ _))).mono ?_; intro e w5 hP5; obtain ⟨g5, he5, a5, o5⟩ := KP.out _ _ _ hP5; clear hP5; subst he5) | (go_at_call 50; refine (K4.out _ _ _ (by assumption)).mono ?_; rintro e w4 ⟨rfl, rfl⟩)))
      have HAX := Lib.hid (And.left (by assumption : Aft wr w5 ∧ _))
      clear o5 a5
      cases q
      · have HNX := Lib.hid (ext_lt (p := fun j => ∀ (hj : j < r.members.length), (!reachB r.members r.members[j].of r.members[j].role) = true) HP.out (fun _ => by rw [HOK.out]; rfl))
        go_wp2_with fail
        go_roundw
        case rel => exact ⟨k + 1, by omega, by go_num, HA.out.trans HAX.out, HNX.out⟩
        case measure => simp [intOf]; omega
      · have HF := Lib.hid (show rightR r = false by rw [HRT.out, all_false (fun m => !reachB r.members m.of m.role) r.members k hlt (by show (!reachB r.members r.members[k].of r.members[k].role) = false; rw [HOK.out]; rfl)]; rfl)
        go_wp2_with fail
        go_ret
        exact ⟨by rw [HF.out]; rfl, (HAW.out.trans HA.out).trans HAX.out⟩
    · have HF := Lib.hid (show rightR r = true by rw [HRT.out, all_true _ _ fun j hj => HP.out j (by omega) hj]; rfl)
      go_wp2_with fail
      go_ret
      exact ⟨by rw [HF.out]; rfl, HAW.out.trans HA.out⟩
end Go.Proofs.Ytcdhljcpoopfaaa
/- The document's Same of roles, and Texts: of two that hold the same they say yes; All and Is of the document. -/
namespace Go.Proofs.Ytcdhljcpoopfaaa
open Go.RowKit Go.Deep
set_option maxRecDepth 100000
set_option linter.unusedVariables false
@[go_sem ↓] theorem run_neqMem_self (w : World) (s t : ByteArray) :
    (binOp .neq 61 (.agg #[.string s, .string t]) (.agg #[.string s, .string t])).run Try.prog w = .ok (.bool false) w := by
  rw [run_neq_struct]; go_simp; try rfl
set_option maxHeartbeats 4000000 in
theorem texts8 (A : Option Addr) (cap : Nat) (B : Option Addr) (capB : Nat) (l : List ByteArray) (w : World) (h1 : SlAt w 1 StrR A cap l) (h2 : SlAt w 1 StrR B capB l) :
    Calls Try.prog 18 #[.slice A l.length cap, .slice B l.length capB] w fun e w' => e = .returned (.bool true) ∧ Aft w w' := by
  have hlen := h1.len
  go_enter Try.func18, Try.ntmps18
  go_wp2_with fail
  go_loopw [5] (fun i wr => ∃ k : Nat, k ≤ l.length ∧ i = .int .i64 k ∧ Aft w wr) (fun i _ => l.length - (intOf i).toNat)
  case atStart => exact ⟨0, Nat.zero_le _, rfl, Aft.refl _⟩
  case round =>
    obtain ⟨k, hk, rfl, ha⟩ := hrel
    have HAR := Lib.hid ha
    by_cases hlt : k < l.length
    · obtain ⟨b, off, rfl, hb, c0, _⟩ := str_at (strs_aft ha h1) hlt
      obtain ⟨b2, off2, rfl, hb2, d0, _⟩ := str_at (strs_aft ha h2) hlt
      clear ha
      go_wp2_with fail
      refine wp_region_lat (by kernel_rfl) (by kernel_rfl) ?_
      repeat (go_big_quiet_step (fail))
      refine wpQuiet_nil ?_
      intro _ hw'
      obtain ⟨x, hw''⟩ := hw'
      subst hw''
      go_wp2_with fail
      go_roundw
      case rel => exact ⟨k + 1, by omega, by go_num, HAR.out.lat x⟩
      case measure => simp [intOf]; omega
    · clear ha
      go_wp2_with fail
      go_ret
      exact ⟨rfl, HAR.out⟩
set_option maxHeartbeats 8000000 in
theorem same8 (r : Rls) (An : Option Addr) (capn : Nat) (Am : Option Addr) (capm : Nat) (Bn : Option Addr) (capbn : Nat) (Bm : Option Addr) (capbm : Nat) (w : World) (h1 : SlAt w 1 StrR An capn r.names) (h2 : SlAt w 2 MbrR Am capm r.members) (h3 : SlAt w 1 StrR Bn capbn r.names) (h4 : SlAt w 2 MbrR Bm capbm r.members) :
    Calls Try.prog 22 #[.agg #[.slice An r.names.length capn, .slice Am r.members.length capm], .agg #[.slice Bn r.names.length capbn, .slice Bm r.members.length capbm]] w
      fun e w' => e = .returned (.bool true) ∧ Aft w w' := by
  have hlen := h1.len
  have hlen2 := h2.len
  obtain ⟨W, hW⟩ : ∃ W, W = (w.alloc (.cells #[.slice An r.names.length capn, .slice Am r.members.length capm] 25)).alloc (.cells #[.slice Bn r.names.length capbn, .slice Bm r.members.length capbm] 25) := ⟨_, rfl⟩
  have aW : Aft w W := by rw [hW]; exact ((Aft.refl w).alloc _).alloc _
  have hbb := aft_box2 (w := w) (w1 := W) (by rw [← hW]; exact Aft.refl W)
  obtain ⟨ha0, hb0, hz, _⟩ := hbb
  have HAW := Lib.hid aW
  have l1 : w.heap.size < w.heap.size + 1 + 1 := by omega
  go_enter Try.func22, Try.ntmps22
  go_wp2_with fail
  rw [← hW]
  clear hW
  go_loopw [5] (fun i wr => ∃ k : Nat, k ≤ r.names.length ∧ i = .int .i64 k ∧ Aft W wr) (fun i _ => r.names.length - (intOf i).toNat)
  case atStart => exact ⟨0, Nat.zero_le _, rfl, Aft.refl _⟩
  case round =>
    obtain ⟨k, hk, rfl, ha⟩ := hrel
    have x3 := ha.cell_kept (show W.cell? ⟨w.heap.size, 0, none⟩ = some (.slice An r.names.length capn) from ha0 0)
    have y3 := ha.cell_kept (show W.cell? ⟨w.heap.size + 1, 0, none⟩ = some (.slice Bn r.names.length capbn) from hb0 0)
    have lx : w.heap.size < wr.heap.size := World.block_lt_of_cell? _ _ x3
    have ly : w.heap.size + 1 < wr.heap.size := World.block_lt_of_cell? _ _ y3
    have HAR := Lib.hid ha
    by_cases hlt : k < r.names.length
    · obtain ⟨b, off, rfl, hb, c0, _⟩ := str_at (strs_aft (HAW.out.trans ha) h1) hlt
      obtain ⟨b2, off2, rfl, hb2, d0, _⟩ := str_at (strs_aft (HAW.out.trans ha) h3) hlt
      clear ha
      go_wp2_with fail
      refine wp_region_lat (by kernel_rfl) (by kernel_rfl) ?_
      repeat (go_big_quiet_step (fail))
      refine wpQuiet_nil ?_
      intro _ hw'
      obtain ⟨x, hw''⟩ := hw'
      subst hw''
      go_wp2_with fail
      go_roundw
      case rel => exact ⟨k + 1, by omega, by go_num, HAR.out.lat x⟩
      case measure => simp [intOf]; omega
    go_wp2_with fail
    go_loopw [6] (fun i wrr => ∃ k : Nat, k ≤ r.members.length ∧ i = .int .i64 k ∧ Aft W wrr) (fun i _ => r.members.length - (intOf i).toNat)
    case atStart => exact ⟨0, Nat.zero_le _, rfl, ha⟩
    case round =>
      clear ha HAR x3 y3 lx ly
      obtain ⟨k2, hk2, rfl, ha⟩ := hrel
      have x4 := ha.cell_kept (show W.cell? ⟨w.heap.size, 1, none⟩ = some (.slice Am r.members.length capm) from ha0 1)
      have y4 := ha.cell_kept (show W.cell? ⟨w.heap.size + 1, 1, none⟩ = some (.slice Bm r.members.length capbm) from hb0 1)
      have lx : w.heap.size < wr.heap.size := World.block_lt_of_cell? _ _ x4
      have ly : w.heap.size + 1 < wr.heap.size := World.block_lt_of_cell? _ _ y4
      have HAR := Lib.hid ha
      by_cases hlt2 : k2 < r.members.length
      · obtain ⟨b, off, rfl, hb, c0, c1, _, _⟩ := mbr_at (mbrs_aft (HAW.out.trans ha) h2) hlt2
        obtain ⟨b2, off2, rfl, hb2, d0, d1, _, _⟩ := mbr_at (mbrs_aft (HAW.out.trans ha) h4) hlt2
        clear ha
        go_wp2_with fail
        refine wp_region_lat (by kernel_rfl) (by kernel_rfl) ?_
        repeat (go_big_quiet_step (fail))
        refine wpQuiet_nil ?_
        intro _ hw'
        obtain ⟨x, hw''⟩ := hw'
        subst hw''
        go_wp2_with fail
        go_roundw
        case rel => exact ⟨k2 + 1, by omega, by go_num, HAR.out.lat x⟩
        case measure => simp [intOf]; omega
      · clear ha
        go_wp2_with fail
        go_ret
        exact ⟨rfl, HAW.out.trans HAR.out⟩
set_option maxHeartbeats 4000000 in
theorem rall8 (r : Rls) (An : Option Addr) (capn : Nat) (Am : Option Addr) (capm : Nat) (role : ByteArray) (w : World) (hn : SlAt w 1 StrR An capn r.names) (hm : SlAt w 2 MbrR Am capm r.members) (hrs : Small role.size) :
    Calls Try.prog 17 #[.agg #[.slice An r.names.length capn, .slice Am r.members.length capm], .string role] w (AllP r role w) := by
  have l1 : w.heap.size < w.heap.size + 1 := by omega
  obtain ⟨q, hq⟩ : ∃ q, rightR r = q := ⟨_, rfl⟩
  obtain ⟨i, hi⟩ : ∃ i, inB r.names role = i := ⟨_, rfl⟩
  have C1 := Lib.hid (fun w' (a : Aft w w') => hq ▸ rright8 r An capn Am capm w' (strs_aft a hn) (mbrs_aft a hm))
  have C2 := Lib.hid (show ∀ w', Aft w w' → Calls Try.prog 50 #[.slice An r.names.length capn, .string role] w' fun e w'' => e = .returned (.bool i) ∧ w' = w'' from fun w' a => hi ▸ rin_any An capn r.names role w' (strs_aft a hn))
  have HB := Lib.hid (show q = true → r.members.length ≤ 256 from fun h => (rightR_len (by rw [hq]; exact h)).2)
  have C3 := Lib.hid (fun w' (a : Aft w w') (h : r.members.length ≤ 256) => rreach r An capn Am capm role w' (strs_aft a hn) (mbrs_aft a hm) hrs (by omega))
  have HE := Lib.hid (show allE r role = if q then (if i then 0 else 71) else 1 by unfold allE; rw [hq, hi])
  have HL := Lib.hid (show allL r role = if q && i then r.names.filter (reachB r.members role) else [] by unfold allL; rw [hq, hi])
  clear hq hi hn hm
  go_enter Try.func17, Try.ntmps17
  go_wp2_with fail
  refine (C1.out _ ((Aft.refl w).alloc _)).mono ?_
  rintro e w1 ⟨rfl, a1⟩
  obtain ⟨hbox, hfr, hz, hzk, HA⟩ := aft_box a1
  clear a1
  cases q
  · have HP := Lib.hid (show AllP r role w (.returned (.tuple #[.slice none 0 0, .int .i64 1])) w1 from ⟨⟨none, 0, 0⟩, by rw [HE.out]; rfl, HA.out, by rw [HL.out]; exact own_nil _ _ _ _⟩)
    go_wp2_with fail
    go_ret2
    exact HP.out
  go_wp2_with fail
  refine (C2.out w1 HA.out).mono ?_
  rintro e w2 ⟨rfl, rfl⟩
  cases i
  · have HP := Lib.hid (show AllP r role w (.returned (.tuple #[.slice none 0 0, .int .i64 71])) w1 from ⟨⟨none, 0, 0⟩, by rw [HE.out]; rfl, HA.out, by rw [HL.out]; exact own_nil _ _ _ _⟩)
    go_wp2_with fail
    go_ret2
    exact HP.out
  go_wp2_with fail
  refine (C3.out w1 HA.out (HB.out (by first | trivial | rfl))).mono ?_
  rintro e w3 ⟨h, rfl, a3, ho⟩
  have HP := Lib.hid (show AllP r role w (.returned (.tuple #[h.v, .int .i64 0])) w3 from ⟨h, by rw [HE.out]; rfl, HA.out.trans a3, by rw [HL.out]; exact own_down ho HA.out.size⟩)
  clear a3 ho
  go_wp2_with fail
  go_ret2
  exact HP.out
set_option maxHeartbeats 4000000 in
theorem ris8' (r : Rls) (An : Option Addr) (capn : Nat) (Am : Option Addr) (capm : Nat) (a b : ByteArray) (w : World) (hn : SlAt w 1 StrR An capn r.names) (hm : SlAt w 2 MbrR Am capm r.members) (hrs : Small a.size) :
    Calls Try.prog 21 #[.agg #[.slice An r.names.length capn, .slice Am r.members.length capm], .string a, .string b] w fun e w' => e = .returned (.bool (isB r a b)) ∧ Aft w w' := by
  have C1 := Lib.hid (fun w' (x : Aft w w') => rall8 r An capn Am capm a w' (strs_aft x hn) (mbrs_aft x hm) hrs)
  have HSM := Lib.hid (sm_names hn)
  obtain ⟨q, hq⟩ : ∃ q, rightR r = q := ⟨_, rfl⟩
  obtain ⟨i, hi⟩ : ∃ i, inB r.names a = i := ⟨_, rfl⟩
  have HE := Lib.hid (show allE r a = if q then (if i then 0 else 71) else 1 by unfold allE; rw [hq, hi])
  have HI := Lib.hid (show isB r a b = (q && i && inB (allL r a) b) by unfold isB allL; rw [hq, hi]; cases q <;> cases i <;> rfl)
  clear hq hi hn hm
  go_enter Try.func21, Try.ntmps21
  go_wp2_with fail
  refine (C1.out _ ((Aft.refl w).alloc _)).mono ?_
  rintro e w1 ⟨h, rfl, a1, ho⟩
  have HA := Lib.hid (((Aft.refl w).alloc _).trans a1)
  obtain ⟨bb, hbb⟩ : ∃ bb, inB (allL r a) b = bb := ⟨_, rfl⟩
  have C2 := Lib.hid (show Calls Try.prog 50 #[h.v, .string b] w1 fun e w'' => e = .returned (.bool bb) ∧ w1 = w'' from by
    rw [own_slice ho]
    refine (rin_any h.a h.c (allL r a) b w1 (own_slf nameC ho (fun x hx => ⟨rfl, rfl, HSM.out.2 x (allL_mem hx)⟩) ?_)).mono fun e w'' ⟨he, hw⟩ => ⟨he.trans (by rw [← hbb]; rfl), hw⟩
    have := HSM.out.1
    have := allL_len r a
    unfold Small at *; omega)
  rw [HE.out]
  rw [hbb] at HI
  clear a1 ho hbb
  cases q
  · go_wp2_with fail
    go_ret
    exact ⟨by rw [HI.out]; rfl, HA.out⟩
  cases i
  · go_wp2_with fail
    go_ret
    exact ⟨by rw [HI.out]; rfl, HA.out⟩
  go_wp2_with fail
  refine C2.out.mono ?_
  rintro e w2 ⟨rfl, rfl⟩
  go_wp2_with fail
  go_ret
  exact ⟨by rw [HI.out]; rfl, HA.out⟩
end Go.Proofs.Ytcdhljcpoopfaaa
/- The law RolesOn, walked; and the plain law behind it. -/
namespace Go.Proofs.Ytcdhljcpoopfaaa
open Go.RowKit Go.Deep
set_option maxRecDepth 100000
set_option linter.unusedVariables false
theorem isB_eq (r : Rls) (a b : ByteArray) : isB r a b = (rightR r && inB r.names a && (reachB r.members a b && inB r.names b)) := by
  unfold isB
  rw [inB_filter]
theorem reachB_iff (ms : List Mbr) (a b : ByteArray) : reachB ms a b = true ↔ Reach ms (txt a) (txt b) := by
  unfold reachB
  simp only [decide_eq_true_eq]
theorem isB_iff (r : Rls) (a b : ByteArray) : isB r a b = true ↔ rightR r = true ∧ inB r.names a = true ∧ Reach r.members (txt a) (txt b) ∧ inB r.names b = true := by
  rw [isB_eq]
  simp only [Bool.and_eq_true, reachB_iff]
  constructor
  · rintro ⟨⟨h1, h2⟩, h3, h4⟩; exact ⟨h1, h2, h3, h4⟩
  · rintro ⟨h1, h2, h3, h4⟩; exact ⟨⟨h1, h2⟩, h3, h4⟩
theorem isB_trans {r : Rls} {a b c : ByteArray} (h1 : isB r a b = true) (h2 : isB r b c = true) : isB r a c = true := by
  rw [isB_iff] at *
  exact ⟨h1.1, h1.2.1, h1.2.2.1.trans h2.2.2.1, h2.2.2.2⟩
/-- a way is none, or has a first step -/
theorem Reach.first {ms : List Mbr} {s u : Txt} (h : Reach ms s u) : s = u ∨ ∃ x ∈ succ ms s, Reach ms (txt x) u := by
  induction h with
  | refl => exact .inl rfl
  | step h1 hx he ih =>
    rcases ih with e | ⟨y, hy, hr⟩
    · subst e
      exact .inr ⟨_, hx, by rw [← he]; exact .refl _⟩
    · exact .inr ⟨y, hy, hr.step hx he⟩
theorem rightR_noring {r : Rls} (h : rightR r = true) {m : Mbr} (hm : m ∈ r.members) : ¬ Reach r.members (txt m.of) (txt m.role) := by
  rw [rightR_rows] at h
  simp only [Bool.and_eq_true, List.all_eq_true] at h
  have := h.2.2 m hm
  rw [Bool.not_eq_true'] at this
  intro hr
  rw [← reachB_iff] at hr
  rw [hr] at this
  cases this
theorem isB_anti {r : Rls} {a b : ByteArray} (h1 : isB r a b = true) (h2 : isB r b a = true) : eqS a b = true := by
  rw [isB_iff] at *
  rcases h1.2.2.1.first with e | ⟨x, hx, hr⟩
  · exact (eqS_txt a b).2 e
  · exfalso
    unfold succ at hx
    obtain ⟨m, hm, rfl⟩ := List.mem_map.1 hx
    obtain ⟨hm, he⟩ := List.mem_filter.1 hm
    have he : txt m.role = txt a := by simpa using he
    refine rightR_noring h1.1 hm ?_
    rw [he]
    exact hr.trans h2.2.2.1
theorem oneR_is : isB oneR bA bC = true := by
  rw [isB_eq, oneR_ok]
  have : reachB oneR.members bA bC = true := reachB_step oneR.members ⟨bA, bB⟩ bC (by simp [oneR]) (reachB_step oneR.members ⟨bB, bC⟩ bC (by simp [oneR]) (reachB_refl _ _))
  rw [this]
  decide +kernel
theorem oneR_isnt : isB oneR bC bA = false := by
  rw [isB_eq]
  have : reachB oneR.members bC bA = false := reachB_out _ _ _ [bC] (by decide +kernel) (by decide +kernel) (by decide +kernel)
  rw [this]
  simp
theorem is8_in {w : World} {B : Nat} {hn hm : Hd} {r : Rls} (h : RolIn w B hn hm r) (sm : SmRl r) (a b : ByteArray) (ha : Small a.size) : ∀ w', Aft w w' → Calls Try.prog 20 #[.agg #[hn.v, hm.v], .string a, .string b] w' fun e w'' => e = .returned (.bool (isB r a b)) ∧ Aft w' w'' := fun w' x => by
  rw [h.vn, h.vm]
  exact is8 r hn.a hn.c hm.a hm.c a b w' (strs_aft x (h.names sm)) (mbrs_aft x (h.mbrs sm)) ha
set_option maxHeartbeats 4000000 in
theorem lawis8 (w : World) : Calls Try.prog 19 #[] w fun e w' => e = .returned (.bool true) ∧ Aft w w' := by
  go_enter Try.func19, Try.ntmps19
  go_wp2_with fail
  refine (one8 _).mono ?_
  rintro e w1 ⟨hn, hm, rfl, a1, rin⟩
  have C1 := Lib.hid (oneR_is ▸ is8_in rin sm_one bA bC (by unfold Small; decide) w1 (Aft.refl _))
  have HA1 := Lib.hid a1
  clear a1 rin
  go_wp2_with fail
  refine C1.out.mono ?_
  rintro e w2 ⟨rfl, a2⟩
  have HA2 := Lib.hid (HA1.out.trans a2)
  clear a2
  go_wp2_with fail
  refine (one8 _).mono ?_
  rintro e w3 ⟨hn', hm', rfl, a3, rin⟩
  have C2 := Lib.hid (oneR_isnt ▸ is8_in rin sm_one bC bA (by unfold Small; decide) w3 (Aft.refl _))
  have HA3 := Lib.hid (HA2.out.trans a3)
  clear a3 rin
  go_wp2_with fail
  refine C2.out.mono ?_
  rintro e w4 ⟨rfl, a4⟩
  have HA4 := Lib.hid (HA3.out.trans a4)
  clear a4
  go_wp2_with fail
  go_ret
  exact ⟨rfl, HA4.out⟩
set_option maxHeartbeats 4000000 in
theorem law_on8 (r : Rls) (An : Option Addr) (capn : Nat) (Am : Option Addr) (capm : Nat) (a b c : ByteArray) (w : World) (hn : SlAt w 1 StrR An capn r.names) (hm : SlAt w 2 MbrR Am capm r.members) (ha : Small a.size) (hb : Small b.size) :
    Calls Try.prog 5 #[.agg #[.slice An r.names.length capn, .slice Am r.members.length capm], .string a, .string b, .string c] w fun e w' => e = .returned (.bool true) ∧ Aft w w' := by
  obtain ⟨bg, hbg⟩ : ∃ b, bigR r = b := ⟨_, rfl⟩
  have CL := Lib.hid (show ∀ w', _ from fun w' => hbg ▸ large8 r An capn Am capm w')
  obtain ⟨pab, hab⟩ : ∃ p, isB r a b = p := ⟨_, rfl⟩
  obtain ⟨pbc, hbc⟩ : ∃ p, isB r b c = p := ⟨_, rfl⟩
  obtain ⟨pac, hac⟩ : ∃ p, isB r a c = p := ⟨_, rfl⟩
  obtain ⟨pba, hba⟩ : ∃ p, isB r b a = p := ⟨_, rfl⟩
  obtain ⟨q, hq⟩ : ∃ q, eqS a b = q := ⟨_, rfl⟩
  have hq2 : (a.toList == b.toList) = q := hq
  have HT := Lib.hid (show pab = true → pbc = true → pac = true from fun h1 h2 => by rw [← hac]; exact isB_trans (hab.trans h1) (hbc.trans h2))
  have HU := Lib.hid (show pab = true → pba = true → q = true from fun h1 h2 => by rw [← hq]; exact isB_anti (hab.trans h1) (hba.trans h2))
  have C1 := Lib.hid (show ∀ w', Aft w w' → _ from fun w' x => hab ▸ is8 r An capn Am capm a b w' (strs_aft x hn) (mbrs_aft x hm) ha)
  have C2 := Lib.hid (show ∀ w', Aft w w' → _ from fun w' x => hbc ▸ is8 r An capn Am capm b c w' (strs_aft x hn) (mbrs_aft x hm) hb)
  have C3 := Lib.hid (show ∀ w', Aft w w' → _ from fun w' x => hac ▸ is8 r An capn Am capm a c w' (strs_aft x hn) (mbrs_aft x hm) ha)
  have C4 := Lib.hid (show ∀ w', Aft w w' → _ from fun w' x => hba ▸ is8 r An capn Am capm b a w' (strs_aft x hn) (mbrs_aft x hm) hb)
  clear hab hbc hac hba hq hbg
  go_enter Try.func5, Try.ntmps5
  go_wp2_with fail
  refine (CL.out _).mono ?_
  rintro e w1 ⟨rfl, a1⟩
  obtain ⟨hbox, hfr, hz, hzk, HA⟩ := aft_box a1
  clear a1 CL
  cases bg
  case true =>
    go_wp2_with fail
    go_ret
    exact ⟨rfl, HA.out⟩
  go_wp2_with fail
  refine (C1.out _ HA.out).mono ?_
  rintro e w2 ⟨rfl, a2⟩
  obtain ⟨hbox, hfr, hz, hzk⟩ := box_aft hbox hfr hz.1 a2
  have HA2 := Lib.hid (HA.out.trans a2)
  clear a2
  cases pab
  · go_wp2_with fail
    refine (lawis8 _).mono ?_
    rintro e w3 ⟨rfl, a3⟩
    obtain ⟨hbox, hfr, hz, hzk⟩ := box_aft hbox hfr hz.1 a3
    have HA3 := Lib.hid (HA2.out.trans a3)
    clear a3
    cases q
    · go_wp2_with fail
      refine (C1.out _ HA3.out).mono ?_
      rintro e w4 ⟨rfl, a4⟩
      have HA4 := Lib.hid (HA3.out.trans a4)
      clear a4
      go_wp2_with fail
      go_ret
      exact ⟨rfl, HA4.out⟩
    · go_wp2_with fail
      go_ret
      exact ⟨rfl, HA3.out⟩
  go_wp2_with fail
  refine (C2.out _ HA2.out).mono ?_
  rintro e w3 ⟨rfl, a3⟩
  obtain ⟨hbox, hfr, hz, hzk⟩ := box_aft hbox hfr hz.1 a3
  have HA3 := Lib.hid (HA2.out.trans a3)
  clear a3
  cases pbc
  · go_wp2_with fail
    refine (lawis8 _).mono ?_
    rintro e w4 ⟨rfl, a4⟩
    obtain ⟨hbox, hfr, hz, hzk⟩ := box_aft hbox hfr hz.1 a4
    have HA4 := Lib.hid (HA3.out.trans a4)
    clear a4
    cases q
    · have hpba : pba = false := by
        cases pba
        · rfl
        · have hx := HU.out (by first | trivial | rfl) (by first | trivial | rfl)
          simp at hx
      subst hpba
      go_wp2_with fail
      refine (C1.out _ HA4.out).mono ?_
      rintro e w5 ⟨rfl, a5⟩
      obtain ⟨hbox, hfr, hz, hzk⟩ := box_aft hbox hfr hz.1 a5
      have HA5 := Lib.hid (HA4.out.trans a5)
      clear a5
      go_wp2_with fail
      refine (C4.out _ HA5.out).mono ?_
      rintro e w6 ⟨rfl, a6⟩
      have HA6 := Lib.hid (HA5.out.trans a6)
      clear a6
      go_wp2_with fail
      go_ret
      exact ⟨rfl, HA6.out⟩
    · go_wp2_with fail
      go_ret
      exact ⟨rfl, HA4.out⟩
  · have hpac : pac = true := HT.out (by first | trivial | rfl) (by first | trivial | rfl)
    subst hpac
    go_wp2_with fail
    refine (C3.out _ HA3.out).mono ?_
    rintro e w7 ⟨rfl, a7⟩
    obtain ⟨hbox, hfr, hz, hzk⟩ := box_aft hbox hfr hz.1 a7
    have HA7 := Lib.hid (HA3.out.trans a7)
    clear a7
    go_wp2_with fail
    refine (lawis8 _).mono ?_
    rintro e w4 ⟨rfl, a4⟩
    obtain ⟨hbox, hfr, hz, hzk⟩ := box_aft hbox hfr hz.1 a4
    have HA4 := Lib.hid (HA7.out.trans a4)
    clear a4
    cases q
    · have hpba : pba = false := by
        cases pba
        · rfl
        · have hx := HU.out (by first | trivial | rfl) (by first | trivial | rfl)
          simp at hx
      subst hpba
      go_wp2_with fail
      refine (C1.out _ HA4.out).mono ?_
      rintro e w5 ⟨rfl, a5⟩
      obtain ⟨hbox, hfr, hz, hzk⟩ := box_aft hbox hfr hz.1 a5
      have HA5 := Lib.hid (HA4.out.trans a5)
      clear a5
      go_wp2_with fail
      refine (C4.out _ HA5.out).mono ?_
      rintro e w6 ⟨rfl, a6⟩
      have HA6 := Lib.hid (HA5.out.trans a6)
      clear a6
      go_wp2_with fail
      go_ret
      exact ⟨rfl, HA6.out⟩
    · go_wp2_with fail
      go_ret
      exact ⟨rfl, HA4.out⟩
end Go.Proofs.Ytcdhljcpoopfaaa
/- The document's Own of roles: the same in memory of its own. -/
namespace Go.Proofs.Ytcdhljcpoopfaaa
open Go.RowKit Go.Deep
set_option maxRecDepth 100000
set_option linter.unusedVariables false
def OwnP8 (r : Rls) (w : World) (e : Ending) (w' : World) : Prop := ∃ hn hm : Hd, e = .returned (.agg #[hn.v, hm.v]) ∧ Aft w w' ∧ RolIn w' w.heap.size hn hm r
theorem oneC_mbr (m : Mbr) : ∀ u ∈ mbrC m, u.oneCell' = true := by intro u hu; simp only [mbrC, List.mem_cons, List.not_mem_nil, or_false] at hu; rcases hu with rfl | rfl <;> simp [Value.oneCell']
theorem nameC_len8 (l : List ByteArray) : (l.flatMap nameC).length = l.length * 1 := flatMap_len (size := 1) (fun _ => rfl) l
theorem mbrC_len8 (l : List Mbr) : (l.flatMap mbrC).length = l.length * 2 := flatMap_len (size := 2) (fun _ => rfl) l
theorem setR_row {w : World} {b : Nat} {xs : List Value} (h : RowAt w b xs) (hl : xs.length = 2) (v0 v1 : Value) : RowAt ((w.setCell ⟨b, 0, none⟩ v0).setCell ⟨b, 1, none⟩ v1) b [v0, v1] := by
  match xs, hl with
  | [x0, x1], _ =>
    have h1 := h.set 0 v0 (by simp)
    have h2 := h1.set 1 v1 (by simp)
    simpa using h2
set_option maxHeartbeats 8000000 in
theorem own8 (r : Rls) (An : Option Addr) (capn : Nat) (Am : Option Addr) (capm : Nat) (w : World) (hn : SlAt w 1 StrR An capn r.names) (hm : SlAt w 2 MbrR Am capm r.members) (hln : r.names.length ≤ 1000) (hlm : r.members.length ≤ 1000) :
    Calls Try.prog 15 #[.agg #[.slice An r.names.length capn, .slice Am r.members.length capm]] w (OwnP8 r w) := by
  obtain ⟨i1, hi, hz0, hz1, hz2⟩ := info_parts info2Str2
  have JI := Lib.hid hi
  have JZ := Lib.hid (And.intro hz0 (And.intro hz1 hz2))
  clear hi hz0 hz1 hz2
  obtain ⟨i2, hi, hz0, hz1, hz2⟩ := info_parts info2Mem
  have KI := Lib.hid hi
  have KZ := Lib.hid (And.intro hz0 (And.intro hz1 hz2))
  clear hi hz0 hz1 hz2
  have l1 : w.heap.size < w.heap.size + 1 := by omega
  have l2 : w.heap.size < w.heap.size + 1 + 1 := by omega
  have l3 : w.heap.size < w.heap.size + 1 + 1 + 1 := by omega
  obtain ⟨W, hW⟩ : ∃ W, W = ((w.alloc (.cells #[.slice An r.names.length capn, .slice Am r.members.length capm] 25)).alloc (.cells #[.slice none 0 0, .slice none 0 0] 25)).alloc (.cells #[.slice none 0 0, .slice none 0 0] 25) := ⟨_, rfl⟩
  have aW : Aft w W := by rw [hW]; exact (((Aft.refl w).alloc _).alloc _).alloc _
  have r1 : RowAt W w.heap.size [.slice An r.names.length capn, .slice Am r.members.length capm] := by rw [hW]; exact (rowAt_new8 w [.slice An r.names.length capn, .slice Am r.members.length capm] 25).aft (((Aft.refl _).alloc _).alloc _)
  have r2 : RowAt W (w.heap.size + 1) [.slice none 0 0, .slice none 0 0] := by
    rw [hW]
    have := (rowAt_new8 (w.alloc (.cells #[.slice An r.names.length capn, .slice Am r.members.length capm] 25)) [.slice none 0 0, .slice none 0 0] 25).aft ((Aft.refl _).alloc (.cells #[.slice none 0 0, .slice none 0 0] 25))
    simpa using this
  have r3 : RowAt W (w.heap.size + 1 + 1) [.slice none 0 0, .slice none 0 0] := by
    rw [hW]
    have := rowAt_new8 ((w.alloc (.cells #[.slice An r.names.length capn, .slice Am r.members.length capm] 25)).alloc (.cells #[.slice none 0 0, .slice none 0 0] 25)) [.slice none 0 0, .slice none 0 0] 25
    simpa using this
  have zW : W.heap.size = w.heap.size + 3 := by rw [hW]; simp
  have HC := Lib.hid (sl_cells hn (by decide) (fun _ _ h => h.1) aW)
  have HN := Lib.hid (sl_none hn)
  have HCM := Lib.hid (fun w' (a : Aft w w') => sl_cells hm (f := mbrC) (by decide) (fun _ _ h => h.1) a)
  have HNM := Lib.hid (sl_none hm)
  have HR := Lib.hid (And.intro r1 (And.intro r2 r3))
  have HAW := Lib.hid aW
  have HZW := Lib.hid zW
  have hq4 : r.names.length ≤ maxLen := by unfold maxLen; omega
  have hq5 : r.names.length * 16 ≤ 140737488355328 := by omega
  have hq6 : r.members.length ≤ maxLen := by unfold maxLen; omega
  have hq7 : r.members.length * 32 ≤ 140737488355328 := by omega
  have K1 := Lib.hid (show ∀ w1, Aft W w1 → (w1.cell? ⟨w.heap.size + 1 + 1, 0, none⟩ = some (.slice none 0 0) ∧ w1.cell? ⟨w.heap.size + 1 + 1, 1, none⟩ = some (.slice none 0 0) ∧ w1.frozen? ⟨w.heap.size + 1 + 1, 0, none⟩ = false ∧ w1.frozen? ⟨w.heap.size + 1 + 1, 1, none⟩ = false ∧ w1.cell? ⟨w.heap.size, 1, none⟩ = some (.slice Am r.members.length capm) ∧ w.heap.size + 1 + 1 < w1.heap.size ∧ w.heap.size < w1.heap.size) from fun w1 a => by
    have q3 := r3.aft a
    have q1 := r1.aft a
    exact ⟨q3.cell (j := 0) rfl, q3.cell (j := 1) rfl, q3.2.2 0 (by simp), q3.2.2 1 (by simp), q1.cell (j := 1) rfl, q3.1, q1.1⟩)
  have K2 := Lib.hid (show ∀ w1 w2 v, Aft W w1 → Aft (w1.setCell ⟨w.heap.size + 1 + 1, 0, none⟩ v) w2 → (w2.cell? ⟨w.heap.size + 1 + 1, 0, none⟩ = some v ∧ w2.cell? ⟨w.heap.size + 1 + 1, 1, none⟩ = some (.slice none 0 0) ∧ w2.frozen? ⟨w.heap.size + 1 + 1, 1, none⟩ = false ∧ w.heap.size + 1 + 1 < w2.heap.size ∧ w2.cell? ⟨w.heap.size + 1, 0, none⟩ = some (.slice none 0 0) ∧ w2.cell? ⟨w.heap.size + 1, 1, none⟩ = some (.slice none 0 0) ∧ w2.frozen? ⟨w.heap.size + 1, 0, none⟩ = false ∧ w2.frozen? ⟨w.heap.size + 1, 1, none⟩ = false ∧ w.heap.size + 1 < w2.heap.size) from fun w1 w2 v a b => by
    have q2 := ((Kb.set w1 (w.heap.size + 1 + 1) 0 v).row (r2.aft a) (by omega)).aft b
    have q3 := ((r3.aft a).set 0 v (by simp)).aft b
    exact ⟨q3.cell (j := 0) rfl, q3.cell (j := 1) rfl, q3.2.2 1 (by simp), q3.1, q2.cell (j := 0) rfl, q2.cell (j := 1) rfl, q2.2.2 0 (by simp), q2.2.2 1 (by simp), q2.1⟩)
  clear hn hm r1 r2 r3 aW zW
  go_enter Try.func15, Try.ntmps15
  go_wp2_with (first
    | (at_builtin; (refine wpList_append_new _ rfl _ _ 22 rfl 9 i1 _ 1 16 Try.underlying22 JI.out JZ.out.1 JZ.out.2.1 JZ.out.2.2 rfl (by decide) rfl An r.names.length capn (r.names.flatMap nameC) rfl (nameC_len8 _) HN.out ?qc (oneC_cells oneC_name _) hq4 hq5 ?_); rotate_left; intro Ac cc w1 own1 a1; have a1 : Aft W w1 := (by rw [hW]; exact a1); obtain ⟨p1, p2, p3, p4, p5, p6, p7⟩ := K1.out w1 a1; have HA1 := Lib.hid a1; have HO1 := Lib.hid own1; clear a1 own1)
    | (at_builtin; (refine wpList_append_new _ rfl _ _ 23 rfl 61 i2 _ 2 32 Try.underlying23 KI.out KZ.out.1 KZ.out.2.1 KZ.out.2.2 rfl (by decide) rfl Am r.members.length capm (r.members.flatMap mbrC) rfl (mbrC_len8 _) HNM.out ?qm (oneC_cells oneC_mbr _) hq6 hq7 ?_); rotate_left; intro Ad cd w2 own2 a2; obtain ⟨s1, s2, s3, s4, s5, s6, s7, s8, s9⟩ := K2.out w1 w2 _ HA1.out a2; have HA2 := Lib.hid a2; have HO2 := Lib.hid own2; clear a2 own2))
  case qc => rw [← hW]; exact HC.out
  case qm => exact HCM.out _ ((HAW.out.trans HA1.out).setCell _ _ (by show w.heap.size ≤ w.heap.size + 1 + 1; omega))
  have a1 := HA1.out
  have a2 := HA2.out
  have own1 : w1.ownsRow W.heap.size 9 1 (Hd.mk Ac r.names.length cc).v r.names.length (r.names.flatMap nameC) := by rw [hW]; exact HO1.out
  have own2 : w2.ownsRow w1.heap.size 61 2 (Hd.mk Ad r.members.length cd).v r.members.length (r.members.flatMap mbrC) := by
    have h := HO2.out
    rw [show (w1.setCell ⟨w.heap.size + 1 + 1, 0, none⟩ (.slice Ac r.names.length cc)).heap.size = w1.heap.size by simp] at h
    exact h
  have zW := HZW.out
  have q2 := ((Kb.set w1 (w.heap.size + 1 + 1) 0 (.slice Ac r.names.length cc)).row (HR.out.2.1.aft a1) (by omega)).aft a2
  have q2' := (Kb.set w2 (w.heap.size + 1 + 1) 1 (.slice Ad r.members.length cd)).row q2 (by omega)
  have sz1 := a1.size
  have k1 := Kb.set w1 (w.heap.size + 1 + 1) 0 (.slice Ac r.names.length cc)
  have k2 := Kb.set w2 (w.heap.size + 1 + 1) 1 (.slice Ad r.members.length cd)
  have k3 := Kb.set (w2.setCell ⟨w.heap.size + 1 + 1, 1, none⟩ (.slice Ad r.members.length cd)) (w.heap.size + 1) 0 (.slice Ac r.names.length cc)
  have k4 := Kb.set ((w2.setCell ⟨w.heap.size + 1 + 1, 1, none⟩ (.slice Ad r.members.length cd)).setCell ⟨w.heap.size + 1, 0, none⟩ (.slice Ac r.names.length cc)) (w.heap.size + 1) 1 (.slice Ad r.members.length cd)
  have g1 : ∀ g, (Hd.mk Ac r.names.length cc).v.ownBlock = some g → w.heap.size + 3 ≤ g ∧ g < w1.heap.size := fun g hg => by have := own1.lt g hg; omega
  have g2 : ∀ g, (Hd.mk Ad r.members.length cd).v.ownBlock = some g → w1.heap.size ≤ g := fun g hg => (own2.lt g hg).1
  refine bodyPost_ret (results_cell (v := .agg #[.slice Ac r.names.length cc, .slice Ad r.members.length cd]) rfl _ rfl (lvRol_row (setR_row q2' rfl _ _))) rfl ?_
  refine ⟨⟨Ac, r.names.length, cc⟩, ⟨Ad, r.members.length, cd⟩, rfl, ?_, ⟨?_, ?_, ?_⟩⟩
  · exact k4.to_aft (k3.to_aft (k2.to_aft ((k1.to_aft (HAW.out.trans a1) (fun g hg e => by omega)).trans a2) (fun g hg e => by omega)) (fun g hg e => by omega)) (fun g hg e => by omega)
  · refine own_down (B := W.heap.size) ?_ (by omega)
    refine own_kb (own_kb (own_kb (own_aft (own_kb own1 k1 ?_) a2) k2 ?_) k3 ?_) k4 ?_
    all_goals
      intro g hg e
      have := g1 g hg
      have e : g = _ := e
      omega
  · refine own_down (B := w1.heap.size) ?_ (by omega)
    refine own_kb (own_kb (own_kb own2 k2 ?_) k3 ?_) k4 ?_
    all_goals
      intro g hg e
      have := g2 g hg
      have e : g = _ := e
      omega
  · intro g hg hg'
    have := g1 g (Hd.mem_blk.1 hg)
    have := g2 g (Hd.mem_blk.1 hg')
    omega
end Go.Proofs.Ytcdhljcpoopfaaa
/- The law RolesAll, walked. -/
namespace Go.Proofs.Ytcdhljcpoopfaaa
open Go.RowKit Go.Deep
set_option maxRecDepth 100000
set_option linter.unusedVariables false
theorem bigR_len {r : Rls} (h : bigR r = false) : r.names.length ≤ 1000 ∧ r.members.length ≤ 1000 := by
  unfold bigR at h
  simp only [Bool.or_eq_false_iff, decide_eq_false_iff_not] at h
  omega
/-- a row of our own that is written over -/
def OverS (X wr : World) (v : Value) (n : Nat) : Prop := Aft X wr ∧ ∃ l : List ByteArray, l.length = n ∧ wr.ownsRow X.heap.size 9 1 v n (l.flatMap nameC)
theorem OverS.cell {X wr : World} {A : Option Addr} {n c k : Nat} (h : OverS X wr (.slice A n c) n) (hk : k < n) : ∃ g, A = some ⟨g, 0, none⟩ ∧ X.heap.size ≤ g ∧ g < wr.heap.size ∧ (∃ u, wr.cell? ⟨g, k, none⟩ = some u) ∧ wr.frozen? ⟨g, k, none⟩ = false ∧ ∀ s : ByteArray, OverS X (wr.setCell ⟨g, k, none⟩ (.string s)) (.slice A n c) n := by
  obtain ⟨a, l, hl, ho⟩ := h
  obtain ⟨g, cap, hv, hB, hnc, hr⟩ := own_rowAt ho (by omega)
  simp only [Value.slice.injEq, true_and] at hv
  obtain ⟨rfl, rfl⟩ := hv
  have hfl : (l.flatMap nameC).length = n * 1 := by rw [flatMap_len (size := 1) (fun _ => rfl), hl]
  refine ⟨g, rfl, hB, hr.1, ⟨_, by rw [hr.2.1 k (by rw [hfl]; omega), List.getElem?_eq_getElem (by rw [hfl]; omega)]⟩, hr.2.2 k (by rw [hfl]; omega), fun s => ⟨a.setCell _ _ hB, l.set k s, by rw [List.length_set]; exact hl, ?_⟩⟩
  have h1 := own_set ho (g := g) rfl (k * 1) (.string s)
  rw [← Nat.add_zero (k * 1), flatMap_set (f := nameC) (fun _ => rfl) l k 0 (by omega) (by decide) (.string s) s rfl, Nat.add_zero, Nat.mul_one] at h1
  exact h1
theorem OverS.aft {X wr wr' : World} {v : Value} {n : Nat} (h : OverS X wr v n) (a : Aft wr wr') : OverS X wr' v n := by
  obtain ⟨b, l, hl, ho⟩ := h
  exact ⟨b.trans a, l, hl, own_aft ho a⟩
set_option maxHeartbeats 8000000 in
theorem law_all8 (r : Rls) (An : Option Addr) (capn : Nat) (Am : Option Addr) (capm : Nat) (role of : ByteArray) (w : World) (hn : SlAt w 1 StrR An capn r.names) (hm : SlAt w 2 MbrR Am capm r.members) (hrs : Small role.size) :
    Calls Try.prog 4 #[.agg #[.slice An r.names.length capn, .slice Am r.members.length capm], .string role, .string of] w fun e w' => e = .returned (.bool true) ∧ Aft w w' := by
  obtain ⟨bg, hbg⟩ : ∃ b, bigR r = b := ⟨_, rfl⟩
  have CL := Lib.hid (show ∀ w', _ from fun w' => hbg ▸ large8 r An capn Am capm w')
  have HB := Lib.hid (show bg = false → r.names.length ≤ 1000 ∧ r.members.length ≤ 1000 from fun h => bigR_len (hbg.trans h))
  have HSM := Lib.hid (sm_rls hn hm)
  have HNM := Lib.hid (And.intro hn hm)
  clear hbg hn hm
  go_enter Try.func4, Try.ntmps4
  go_wp2_with fail
  refine (CL.out _).mono ?_
  rintro e w1 ⟨rfl, a1⟩
  obtain ⟨hbox, hfr, hz, hzk, HA⟩ := aft_box a1
  clear a1 CL
  cases bg
  case true =>
    go_wp2_with fail
    go_ret
    exact ⟨rfl, HA.out⟩
  have hb := HB.out (by first | trivial | rfl)
  have CO := Lib.hid (own8 r An capn Am capm w1 (strs_aft HA.out HNM.out.1) (mbrs_aft HA.out HNM.out.2) hb.1 hb.2)
  clear hb
  go_wp2_with fail
  refine CO.out.mono ?_
  rintro e w2 ⟨hon, hom, rfl, a2, rin⟩
  obtain ⟨hbox, hfr, hz, hzk⟩ := box_aft hbox hfr hz.1 a2
  have HA2 := Lib.hid (HA.out.trans a2)
  rw [rin.vn, rin.vm]
  have HRIN := Lib.hid rin
  obtain ⟨X, hX⟩ : ∃ X, X = w2.alloc (.cells #[.slice hon.a r.names.length hon.c, .slice hom.a r.members.length hom.c] 25) := ⟨_, rfl⟩
  have aX : Aft w2 X := by rw [hX]; exact (Aft.refl w2).alloc _
  have HAX := Lib.hid (HA2.out.trans aX)
  have HRX := Lib.hid (rin.aft aX)
  have HC1 := Lib.hid (all8 r An capn Am capm role X (strs_aft HAX.out HNM.out.1) (mbrs_aft HAX.out HNM.out.2) hrs)
  have K0 := Lib.hid (show ∀ w', Aft X w' → (w'.cell? ⟨w.heap.size, 0, none⟩ = some (.slice An r.names.length capn) ∧ w'.cell? ⟨w.heap.size, 1, none⟩ = some (.slice Am r.members.length capm) ∧ w'.cell? ⟨w2.heap.size, 0, none⟩ = some (.slice hon.a r.names.length hon.c) ∧ w'.cell? ⟨w2.heap.size, 1, none⟩ = some (.slice hom.a r.members.length hom.c) ∧ w.heap.size < w'.heap.size ∧ w2.heap.size < w'.heap.size) from fun w' a => by
    have x0 := (aX.trans a).cell_kept (show w2.cell? ⟨w.heap.size, 0, none⟩ = some (.slice An r.names.length capn) by rw [hbox]; rfl)
    have x1 := (aX.trans a).cell_kept (show w2.cell? ⟨w.heap.size, 1, none⟩ = some (.slice Am r.members.length capm) by rw [hbox]; rfl)
    rw [hX] at a
    obtain ⟨hb2, _, hz2, _, _⟩ := aft_box a
    exact ⟨x0, x1, by rw [hb2]; rfl, by rw [hb2]; rfl, World.block_lt_of_cell? _ _ x0, hz2.1⟩)
  have l1 : w.heap.size < w2.heap.size + 1 := by omega
  have HX := Lib.hid hX
  clear a2 rin aX
  go_wp2_with fail
  rw [← HX.out]
  clear hX hbox hfr hz hzk l1
  refine HC1.out.mono ?_
  rintro e w3 ⟨h3, rfl, a3, o3⟩
  obtain ⟨k0, k1, k2, k3, k4, k5⟩ := K0.out w3 a3
  have HC2 := Lib.hid (rall8 r hon.a hon.c hom.a hom.c role w3 (strs_aft a3 (HRX.out.names HSM.out)) (mbrs_aft a3 (HRX.out.mbrs HSM.out)) hrs)
  have HA3 := Lib.hid a3
  have HO3 := Lib.hid o3
  clear a3 o3
  go_wp2_with fail
  refine HC2.out.mono ?_
  rintro e w4 ⟨h4, rfl, a4, o4⟩
  have HSL := Lib.hid (show Small ((allL r role).length * 16) ∧ ∀ x ∈ allL r role, Small x.size from ⟨by have := HSM.out.1.1; have := allL_len r role; unfold Small at *; omega, fun x hx => HSM.out.1.2 x (allL_mem hx)⟩)
  have HC3 := Lib.hid (show Calls Try.prog 18 #[h3.v, h4.v] w4 fun e w' => e = .returned (.bool true) ∧ Aft w4 w' from by
    rw [own_slice HO3.out, own_slice o4]
    exact texts8 h3.a h3.c h4.a h4.c (allL r role) w4 (strs_aft a4 (own_slf nameC HO3.out (fun x hx => ⟨rfl, rfl, HSL.out.2 x hx⟩) HSL.out.1)) (own_slf nameC o4 (fun x hx => ⟨rfl, rfl, HSL.out.2 x hx⟩) HSL.out.1))
  have HA4 := Lib.hid a4
  clear a4 o4 k0 k1 k2 k3 k4 k5
  go_wp2_with fail
  refine HC3.out.mono ?_
  rintro e w5 ⟨rfl, a5⟩
  have HV := Lib.hid (own_slice HO3.out)
  obtain ⟨n, hn⟩ : ∃ n, (allL r role).length = n := ⟨_, rfl⟩
  have hnl : n * 16 ≤ 140737488351232 := by rw [← hn]; exact HSL.out.1
  obtain ⟨A3, n3, c3⟩ := h3
  have hn3 : n3 = n := by rw [← hn]; exact own_n HO3.out
  subst hn3
  have HS := Lib.hid (show OverS X w5 (.slice A3 n3 c3) n3 from ⟨HA3.out.trans (HA4.out.trans a5), allL r role, hn, by have := own_aft HO3.out (HA4.out.trans a5); rw [hn] at this; exact this⟩)
  obtain ⟨E, hE⟩ : ∃ E, allE r role = E := ⟨_, rfl⟩
  rw [hE]
  show (_ : Prop)
  simp only [Hd.v]
  clear a5 hn HV HO3 HA3 HA4 hE HC1 HC2 HC3
  go_wp2_with fail
  go_loopw [13] (fun i wr => ∃ k : Nat, k ≤ n3 ∧ i = .int .i64 k ∧ OverS X wr (.slice A3 n3 c3) n3) (fun i _ => n3 - (intOf i).toNat)
  case atStart => exact ⟨0, Nat.zero_le _, rfl, HS.out⟩
  case round =>
    obtain ⟨k, hk, rfl, hs⟩ := hrel
    by_cases hlt : k < n3
    · obtain ⟨g, rfl, hg1, hg2, ⟨u, hu⟩, hfz, hnx⟩ := hs.cell hlt
      have HNX := Lib.hid (hnx ⟨#[111, 118, 101, 114]⟩)
      clear hnx hs
      go_wp2_with fail
      go_roundw
      case rel => exact ⟨k + 1, by omega, by go_num, HNX.out⟩
      case measure => simp [intOf]; omega
    · have ha := hs.1
      have HAR := Lib.hid ha
      obtain ⟨k0, k1, k2, k3, k4, k5⟩ := K0.out wr ha
      obtain ⟨p, hp⟩ : ∃ p, isB r role of = p := ⟨_, rfl⟩
      have D1 := Lib.hid (show ∀ x : Lat wr, Calls Try.prog 20 #[.agg #[.slice An r.names.length capn, .slice Am r.members.length capm], .string role, .string of] (lat wr x) fun e w' => e = .returned (.bool p) ∧ Aft (lat wr x) w' from fun x => hp ▸ is8 r An capn Am capm role of (lat wr x) (strs_aft (HAX.out.trans (ha.lat x)) HNM.out.1) (mbrs_aft (HAX.out.trans (ha.lat x)) HNM.out.2) hrs)
      have D2 := Lib.hid (show ∀ x : Lat wr, Calls Try.prog 21 #[.agg #[.slice hon.a r.names.length hon.c, .slice hom.a r.members.length hom.c], .string role, .string of] (lat wr x) fun e w' => e = .returned (.bool p) ∧ Aft (lat wr x) w' from fun x => hp ▸ ris8' r hon.a hon.c hom.a hom.c role of (lat wr x) (strs_aft (ha.lat x) (HRX.out.names HSM.out)) (mbrs_aft (ha.lat x) (HRX.out.mbrs HSM.out)) hrs)
      have D3 := Lib.hid (show ∀ x : Lat wr, Calls Try.prog 22 #[.agg #[.slice An r.names.length capn, .slice Am r.members.length capm], .agg #[.slice hon.a r.names.length hon.c, .slice hom.a r.members.length hom.c]] (lat wr x) fun e w' => e = .returned (.bool true) ∧ Aft (lat wr x) w' from fun x => same8 r An capn Am capm hon.a hon.c hom.a hom.c (lat wr x) (strs_aft (HAX.out.trans (ha.lat x)) HNM.out.1) (mbrs_aft (HAX.out.trans (ha.lat x)) HNM.out.2) (strs_aft (ha.lat x) (HRX.out.names HSM.out)) (mbrs_aft (ha.lat x) (HRX.out.mbrs HSM.out)))
      clear ha hs hp
      cases p
      all_goals
        go_wp2_with fail
        refine wp_region_lat (by kernel_rfl) (by kernel_rfl) ?_
        repeat (go_big_quiet_step ((first | (go_at_call 19; exact Calls.lat_of (lawis8 _)) | (go_at_call 20; exact Calls.lat_of (D1.out _)) | (go_at_call 21; exact Calls.lat_of (D2.out _)) | (go_at_call 22; exact Calls.lat_of (D3.out _)))))
        refine wpQuiet_nil ?_
        intro _ hw'
        obtain ⟨y, hw''⟩ := hw'
        subst hw''
        go_wp2_with fail
        go_ret
        exact ⟨rfl, HAX.out.trans (HAR.out.lat y)⟩
end Go.Proofs.Ytcdhljcpoopfaaa
/- law08: told: two answers that are the same, and what was handed in is as it was; what came out is written over. -/
namespace Go.Proofs.Ytcdhljcpoopfaaa
open Go.RowKit Go.Deep
set_option maxRecDepth 100000
set_option linter.unusedVariables false
theorem RolIn.kb {P : Nat → Prop} {w w' : World} {B : Nat} {hn hm : Hd} {r : Rls} (h : RolIn w B hn hm r) (k : Kb P w w') (hp : ∀ g, g ∈ hn.blk ∨ g ∈ hm.blk → ¬ P g) : RolIn w' B hn hm r :=
  ⟨own_kb h.nam k fun g hg => hp g (.inl (Hd.mem_blk.2 hg)), own_kb h.mem k fun g hg => hp g (.inr (Hd.mem_blk.2 hg)), h.dis⟩
theorem RolIn.lt {w : World} {B : Nat} {hn hm : Hd} {r : Rls} (h : RolIn w B hn hm r) : ∀ g, g ∈ hn.blk ∨ g ∈ hm.blk → B ≤ g ∧ g < w.heap.size := fun g hg => by
  rcases hg with h1 | h1
  · exact h.nam.lt g (Hd.mem_blk.1 h1)
  · exact h.mem.lt g (Hd.mem_blk.1 h1)
/-- roles of our own that are written over -/
def OverR (W wr : World) (B : Nat) (hn hm : Hd) (n m : Nat) : Prop := Kb (fun g => g ∈ hn.blk ∨ g ∈ hm.blk) W wr ∧ ∃ r : Rls, r.names.length = n ∧ r.members.length = m ∧ RolIn wr B hn hm r
theorem OverR.nameAt {W wr : World} {B n m k : Nat} {hn hm : Hd} (h : OverR W wr B hn hm n m) (hk : k < n) : ∃ g, hn.a = some ⟨g, 0, none⟩ ∧ g < wr.heap.size ∧ (∃ u, wr.cell? ⟨g, k, none⟩ = some u) ∧ wr.frozen? ⟨g, k, none⟩ = false ∧ ∀ s : ByteArray, OverR W (wr.setCell ⟨g, k, none⟩ (.string s)) B hn hm n m := by
  obtain ⟨kb, r, hl1, hl2, rin⟩ := h
  obtain ⟨g, cap, hv, hB, hnc, hr⟩ := own_rowAt rin.nam (by omega)
  have hv' := rin.vn
  rw [hv] at hv'
  simp only [Value.slice.injEq, true_and] at hv'
  have hg : hn.v.ownBlock = some g := by rw [hv]; rfl
  have hgb := Hd.mem_blk.2 hg
  have hfl : (r.names.flatMap nameC).length = n := by rw [flatMap_len (size := 1) (fun _ => rfl), hl1]; omega
  refine ⟨g, hv'.1.symm, hr.1, ⟨_, by rw [hr.2.1 k (by omega), List.getElem?_eq_getElem (by omega)]⟩, hr.2.2 k (by omega), fun s => ⟨kb.trans ((Kb.set wr g k (.string s)).mono fun j _ e => by have e : j = g := e; rw [e]; exact .inl hgb), ⟨r.names.set k s, r.members⟩, by simp [hl1], hl2, ?_, own_kb rin.mem (Kb.set wr g k (.string s)) (fun j hj e => by
    have e : j = g := e
    exact rin.dis g hgb (by rw [← e]; exact Hd.mem_blk.2 hj)), rin.dis⟩⟩
  have h1 := own_set rin.nam hg (k * 1) (.string s)
  rw [← Nat.add_zero (k * 1), flatMap_set (f := nameC) (fun _ => rfl) r.names k 0 (by omega) (by decide) (.string s) s rfl, Nat.add_zero, Nat.mul_one] at h1
  simpa using h1
theorem OverR.mbrAt {W wr : World} {B n m k : Nat} {hn hm : Hd} (h : OverR W wr B hn hm n m) (hk : k < m) : ∃ g, hm.a = some ⟨g, 0, none⟩ ∧ g < wr.heap.size ∧ (∃ u, wr.cell? ⟨g, k * 2, none⟩ = some u) ∧ wr.frozen? ⟨g, k * 2, none⟩ = false ∧ ∀ s : ByteArray, OverR W (wr.setCell ⟨g, k * 2, none⟩ (.string s)) B hn hm n m := by
  obtain ⟨kb, r, hl1, hl2, rin⟩ := h
  obtain ⟨g, cap, hv, hB, hnc, hr⟩ := own_rowAt rin.mem (by omega)
  have hv' := rin.vm
  rw [hv] at hv'
  simp only [Value.slice.injEq, true_and] at hv'
  have hg : hm.v.ownBlock = some g := by rw [hv]; rfl
  have hgb := Hd.mem_blk.2 hg
  have hfl : (r.members.flatMap mbrC).length = m * 2 := by rw [flatMap_len (size := 2) (fun _ => rfl), hl2]
  refine ⟨g, hv'.1.symm, hr.1, ⟨_, by rw [hr.2.1 (k * 2) (by omega), List.getElem?_eq_getElem (by omega)]⟩, hr.2.2 (k * 2) (by omega), fun s => ⟨kb.trans ((Kb.set wr g (k * 2) (.string s)).mono fun j _ e => by have e : j = g := e; rw [e]; exact .inr hgb), ⟨r.names, r.members.set k ⟨s, (r.members[k]'(by omega)).of⟩⟩, hl1, by simp [hl2], own_kb rin.nam (Kb.set wr g (k * 2) (.string s)) (fun j hj e => by
    have e : j = g := e
    exact rin.dis j (Hd.mem_blk.2 hj) (by rw [e]; exact hgb)), ?_, rin.dis⟩⟩
  have h1 := own_set rin.mem hg (k * 2) (.string s)
  rw [← Nat.add_zero (k * 2), flatMap_set (f := mbrC) (fun _ => rfl) r.members k 0 (by omega) (by decide) (.string s) ⟨s, (r.members[k]'(by omega)).of⟩ rfl, Nat.add_zero] at h1
  simpa using h1
set_option maxHeartbeats 16000000 in
theorem told8 (g r : Rls) (hn hm : Hd) (B : Nat) (Bn : Option Addr) (cbn : Nat) (Bm : Option Addr) (cbm : Nat) (An : Option Addr) (can : Nat) (Am : Option Addr) (cam : Nat) (On : Option Addr) (con : Nat) (Om : Option Addr) (com : Nat) (x : Int) (Z w : World)
    (rin : RolIn w B hn hm g) (sm : SmRl g) (hw1 : SlAt w 1 StrR Bn cbn g.names) (hw2 : SlAt w 2 MbrR Bm cbm g.members) (aZ : Aft Z w) (hZB : Z.heap.size ≤ B) (hr1 : SlAt Z 1 StrR An can r.names) (hr2 : SlAt Z 2 MbrR Am cam r.members) (ho1 : SlAt Z 1 StrR On con r.names) (ho2 : SlAt Z 2 MbrR Om com r.members) :
    Calls Try.prog 28 #[.agg #[hn.v, hm.v], .int .i64 x, .agg #[.slice Bn g.names.length cbn, .slice Bm g.members.length cbm], .int .i64 x, .agg #[.slice An r.names.length can, .slice Am r.members.length cam], .agg #[.slice On r.names.length con, .slice Om r.members.length com]] w
      fun e w' => e = .returned (.bool true) ∧ Kb (fun k => k ∈ hn.blk ∨ k ∈ hm.blk) w w' := by
  have hlen := (rin.names sm).len
  have hlen2 := (rin.mbrs sm).len
  have hlt := rin.lt
  have l1 : w.heap.size < w.heap.size + 1 := by omega
  have l2 : w.heap.size < w.heap.size + 1 + 1 := by omega
  have l3 : w.heap.size < w.heap.size + 1 + 1 + 1 := by omega
  have l4 : w.heap.size + 1 < w.heap.size + 1 + 1 := by omega
  have l5 : w.heap.size + 1 < w.heap.size + 1 + 1 + 1 := by omega
  rw [rin.vn, rin.vm]
  obtain ⟨W, hW⟩ : ∃ W, W = (((w.alloc (.cells #[.slice hn.a g.names.length hn.c, .slice hm.a g.members.length hm.c] 25)).alloc (.cells #[.slice Bn g.names.length cbn, .slice Bm g.members.length cbm] 25)).alloc (.cells #[.slice An r.names.length can, .slice Am r.members.length cam] 25)).alloc (.cells #[.slice On r.names.length con, .slice Om r.members.length com] 25) := ⟨_, rfl⟩
  have aW : Aft w W := by rw [hW]; exact ((((Aft.refl w).alloc _).alloc _).alloc _).alloc _
  have r1 : RowAt W w.heap.size [.slice hn.a g.names.length hn.c, .slice hm.a g.members.length hm.c] := by rw [hW]; exact (rowAt_new8 w [.slice hn.a g.names.length hn.c, .slice hm.a g.members.length hm.c] 25).aft ((((Aft.refl _).alloc _).alloc _).alloc _)
  have r2 : RowAt W (w.heap.size + 1) [.slice Bn g.names.length cbn, .slice Bm g.members.length cbm] := by
    rw [hW]
    have := (rowAt_new8 (w.alloc (.cells #[.slice hn.a g.names.length hn.c, .slice hm.a g.members.length hm.c] 25)) [.slice Bn g.names.length cbn, .slice Bm g.members.length cbm] 25).aft (((Aft.refl _).alloc (.cells #[.slice An r.names.length can, .slice Am r.members.length cam] 25)).alloc (.cells #[.slice On r.names.length con, .slice Om r.members.length com] 25))
    simpa using this
  have r3 : RowAt W (w.heap.size + 1 + 1) [.slice An r.names.length can, .slice Am r.members.length cam] := by
    rw [hW]
    have := (rowAt_new8 ((w.alloc (.cells #[.slice hn.a g.names.length hn.c, .slice hm.a g.members.length hm.c] 25)).alloc (.cells #[.slice Bn g.names.length cbn, .slice Bm g.members.length cbm] 25)) [.slice An r.names.length can, .slice Am r.members.length cam] 25).aft ((Aft.refl _).alloc (.cells #[.slice On r.names.length con, .slice Om r.members.length com] 25))
    simpa using this
  have r4 : RowAt W (w.heap.size + 1 + 1 + 1) [.slice On r.names.length con, .slice Om r.members.length com] := by
    rw [hW]
    have := rowAt_new8 (((w.alloc (.cells #[.slice hn.a g.names.length hn.c, .slice hm.a g.members.length hm.c] 25)).alloc (.cells #[.slice Bn g.names.length cbn, .slice Bm g.members.length cbm] 25)).alloc (.cells #[.slice An r.names.length can, .slice Am r.members.length cam] 25)) [.slice On r.names.length con, .slice Om r.members.length com] 25
    simpa using this
  have C1 := Lib.hid (show Calls Try.prog 22 #[.agg #[.slice hn.a g.names.length hn.c, .slice hm.a g.members.length hm.c], .agg #[.slice Bn g.names.length cbn, .slice Bm g.members.length cbm]] W fun e w' => e = .returned (.bool true) ∧ Aft W w' from same8 g hn.a hn.c hm.a hm.c Bn cbn Bm cbm W (strs_aft aW (rin.names sm)) (mbrs_aft aW (rin.mbrs sm)) (strs_aft aW hw1) (mbrs_aft aW hw2))
  have C2 := Lib.hid (show ∀ w', Kb (fun k => k ∈ hn.blk ∨ k ∈ hm.blk) w w' → Calls Try.prog 22 #[.agg #[.slice An r.names.length can, .slice Am r.members.length cam], .agg #[.slice On r.names.length con, .slice Om r.members.length com]] w' fun e w'' => e = .returned (.bool true) ∧ Aft w' w'' from fun w' k => by
    have a := k.to_aft aZ (fun j hj hp => by have := (hlt j hp).1; omega)
    exact same8 r An can Am cam On con Om com w' (strs_aft a hr1) (mbrs_aft a hr2) (strs_aft a ho1) (mbrs_aft a ho2))
  have HRIN := Lib.hid (rin.aft aW)
  have HAW := Lib.hid aW
  have KG := Lib.hid (show ∀ w', Kb (fun k => k ∈ hn.blk ∨ k ∈ hm.blk) W w' → (w'.cell? ⟨w.heap.size, 0, none⟩ = some (.slice hn.a g.names.length hn.c) ∧ w'.cell? ⟨w.heap.size, 1, none⟩ = some (.slice hm.a g.members.length hm.c) ∧ w.heap.size < w'.heap.size) from fun w' k => by
    have := k.row r1 (fun hp => by have := (hlt _ hp).2; omega)
    exact ⟨this.cell (j := 0) rfl, this.cell (j := 1) rfl, this.1⟩)
  have KF := Lib.hid (show ∀ w', Kb (fun k => k ∈ hn.blk ∨ k ∈ hm.blk) W w' → (w'.cell? ⟨w.heap.size + 1 + 1, 0, none⟩ = some (.slice An r.names.length can) ∧ w'.cell? ⟨w.heap.size + 1 + 1, 1, none⟩ = some (.slice Am r.members.length cam) ∧ w'.cell? ⟨w.heap.size + 1 + 1 + 1, 0, none⟩ = some (.slice On r.names.length con) ∧ w'.cell? ⟨w.heap.size + 1 + 1 + 1, 1, none⟩ = some (.slice Om r.members.length com) ∧ w.heap.size + 1 + 1 < w'.heap.size ∧ w.heap.size + 1 + 1 + 1 < w'.heap.size) from fun w' k => by
    have t1 := k.row r3 (fun hp => by have := (hlt _ hp).2; omega)
    have t2 := k.row r4 (fun hp => by have := (hlt _ hp).2; omega)
    exact ⟨t1.cell (j := 0) rfl, t1.cell (j := 1) rfl, t2.cell (j := 0) rfl, t2.cell (j := 1) rfl, t1.1, t2.1⟩)
  have b0 := r1.cell (j := 0) rfl
  have b1 := r1.cell (j := 1) rfl
  have b2 := r2.cell (j := 0) rfl
  have b3 := r2.cell (j := 1) rfl
  have z1 := r1.1
  have z2 := r2.1
  clear rin hw1 hw2 hr1 hr2 ho1 ho2 aZ aW hlt r1 r2 r3 r4
  go_enter Try.func28, Try.ntmps28
  go_wp2_with fail
  rw [← hW]
  clear hW
  refine C1.out.mono ?_
  rintro e w1 ⟨rfl, a1⟩
  have HO := Lib.hid (show OverR W w1 B hn hm g.names.length g.members.length from ⟨Kb.of_aft a1, g, rfl, rfl, HRIN.out.aft a1⟩)
  clear a1 C1 b0 b1 b2 b3 z1 z2 l1 l2 l3 l4 l5
  go_wp2_with fail
  go_loopw [14] (fun i wr => ∃ k : Nat, k ≤ g.names.length ∧ i = .int .i64 k ∧ OverR W wr B hn hm g.names.length g.members.length) (fun i _ => g.names.length - (intOf i).toNat)
  case atStart => exact ⟨0, Nat.zero_le _, rfl, HO.out⟩
  case round =>
    obtain ⟨k, hk, rfl, hs⟩ := hrel
    obtain ⟨b0, b1, z1⟩ := KG.out wr hs.1
    by_cases hlt : k < g.names.length
    · obtain ⟨gg, hga, hg2, ⟨u, hu⟩, hfz, hnx⟩ := hs.nameAt hlt
      have HNX := Lib.hid (hnx ⟨#[111, 118, 101, 114]⟩)
      rw [hga] at b0
      clear hnx hs
      go_wp2_with fail
      go_roundw
      case rel => exact ⟨k + 1, by omega, by go_num, HNX.out⟩
      case measure => simp [intOf]; omega
    · have HS := Lib.hid hs
      clear hs
      go_wp2_with fail
      go_loopw [15] (fun i wrr => ∃ k : Nat, k ≤ g.members.length ∧ i = .int .i64 k ∧ OverR W wrr B hn hm g.names.length g.members.length) (fun i _ => g.members.length - (intOf i).toNat)
      case atStart => exact ⟨0, Nat.zero_le _, rfl, HS.out⟩
      case round =>
        clear b0 b1 z1 HS
        obtain ⟨k2, hk2, rfl, hs⟩ := hrel
        obtain ⟨b0, b1, z1⟩ := KG.out wr hs.1
        by_cases hlt2 : k2 < g.members.length
        · obtain ⟨gg, hga, hg2, ⟨u, hu⟩, hfz, hnx⟩ := hs.mbrAt hlt2
          have HNX := Lib.hid (hnx ⟨#[111, 118, 101, 114]⟩)
          rw [hga] at b1
          clear hnx hs
          go_wp2_with fail
          go_roundw
          case rel => exact ⟨k2 + 1, by omega, by go_num, HNX.out⟩
          case measure => simp [intOf]; omega
        · obtain ⟨f0, f1, f2, f3, f4, f5⟩ := KF.out wr hs.1
          have kk := (Kb.of_aft HAW.out).trans hs.1
          have C := Lib.hid (C2.out wr kk)
          have HK := Lib.hid kk
          clear kk hs C2
          go_wp2_with fail
          refine C.out.mono ?_
          rintro e w5 ⟨rfl, a5⟩
          have HP := Lib.hid (HK.out.trans (Kb.of_aft a5))
          clear a5
          go_wp2_with fail
          go_ret
          exact ⟨rfl, HP.out⟩
end Go.Proofs.Ytcdhljcpoopfaaa
