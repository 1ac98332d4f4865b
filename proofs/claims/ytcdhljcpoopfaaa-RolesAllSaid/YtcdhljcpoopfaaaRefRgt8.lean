/- The document's Right of roles. -/
import Derived.Test.YtcdhljcpoopfaaaRefRight8
import Derived.Deep.RegionHeld3
namespace Go.Proofs.Ytcdhljcpoopfaaa
open Go.RowKit Go.Deep
set_option maxRecDepth 100000
set_option linter.unusedVariables false
theorem rightR_big (r : Rls) (h : ¬ r.names.length ≤ 16) : rightR r = false := by rw [rightR_rows]; simp [h]
theorem rightR_bigm (r : Rls) (h : ¬ r.members.length ≤ 256) : rightR r = false := by rw [rightR_rows]; simp [h]
theorem rowsR_mem {r : Rls} (h : rowsR r = true) {m : Mbr} (hm : m ∈ r.members) : mIn r m = true := by
  unfold rowsR at h
  simp only [Bool.and_eq_true, List.all_eq_true] at h
  exact h.2.1 m hm
theorem inB_filter_row {r : Rls} (h : rowsR r = true) {m : Mbr} (hm : m ∈ r.members) (s : ByteArray) : inB (r.names.filter (reachB r.members s)) m.role = reachB r.members s m.role := by
  have := rowsR_mem h hm
  unfold mIn at this
  simp only [Bool.and_eq_true] at this
  rw [inB_filter, this.1, Bool.and_true]
set_option maxHeartbeats 8000000 in
theorem rright8 (r : Rls) (An : Option Addr) (capn : Nat) (Am : Option Addr) (capm : Nat) (w : World) (hn : SlAt w 1 StrR An capn r.names) (hm : SlAt w 2 MbrR Am capm r.members) :
    Calls Try.prog 14 #[.agg #[.slice An r.names.length capn, .slice Am r.members.length capm]] w fun e w' => e = .returned (.bool (rightR r)) ∧ Aft w w' := by
  have hlen := hn.len
  have hlen2 := hm.len
  have l1 : w.heap.size < w.heap.size + 1 := by omega
  by_cases h1 : r.names.length ≤ 16
  case neg =>
    have HF := Lib.hid (rightR_big r h1)
    have hi : (16 : Int) < (r.names.length : Int) := by omega
    go_enter Try.func14, Try.ntmps14
    go_wp2_with fail
    go_ret
    exact ⟨by rw [HF.out]; rfl, (Aft.refl _).alloc _⟩
  by_cases h2 : r.members.length ≤ 256
  case neg =>
    have HF := Lib.hid (rightR_bigm r h2)
    have hi : ¬ (16 : Int) < (r.names.length : Int) := by omega
    have hi2 : (256 : Int) < (r.members.length : Int) := by omega
    go_enter Try.func14, Try.ntmps14
    go_wp2_with fail
    go_ret
    exact ⟨by rw [HF.out]; rfl, (Aft.refl _).alloc _⟩
  have hi : ¬ (16 : Int) < (r.names.length : Int) := by omega
  have hi2 : ¬ (256 : Int) < (r.members.length : Int) := by omega
  obtain ⟨W, hW⟩ : ∃ W, W = w.alloc (.cells #[.slice An r.names.length capn, .slice Am r.members.length capm] 25) := ⟨_, rfl⟩
  have aW : Aft w W := by rw [hW]; exact (Aft.refl w).alloc _
  have r0 : ∀ w', Aft W w' → (w'.cell? ⟨w.heap.size, 0, none⟩ = some (.slice An r.names.length capn) ∧ w'.cell? ⟨w.heap.size, 1, none⟩ = some (.slice Am r.members.length capm) ∧ w.heap.size < w'.heap.size) := fun w' a => by
    rw [hW] at a
    obtain ⟨hb, _, hz, _, _⟩ := aft_box a
    exact ⟨by rw [hb]; rfl, by rw [hb]; rfl, hz.1⟩
  obtain ⟨q, hq⟩ : ∃ q, rowsR r = q := ⟨_, rfl⟩
  have C := Lib.hid (fun w' (a : Aft w w') => hq ▸ rrows8 r An capn Am capm w' (strs_aft a hn) (mbrs_aft a hm))
  have HRT := Lib.hid (show rightR r = (q && r.members.all fun m => !reachB r.members m.of m.role) by rw [rightR_rows, hq]; simp [h1, h2])
  have HR0 := Lib.hid r0
  have HAW := Lib.hid aW
  have HNM := Lib.hid (And.intro hn hm)
  have HQ := Lib.hid hq
  clear hq r0 aW hn hm
  go_enter Try.func14, Try.ntmps14
  go_wp2_with fail
  rw [← hW]
  clear hW
  refine (C.out W HAW.out).mono ?_
  rintro e w1 ⟨rfl, a1⟩
  have HA1 := Lib.hid a1
  obtain ⟨e0, e1, e2⟩ := HR0.out w1 a1
  clear a1
  cases q
  · have HF := Lib.hid (show rightR r = false by rw [HRT.out]; rfl)
    go_wp2_with fail
    go_ret
    exact ⟨by rw [HF.out]; rfl, HAW.out.trans HA1.out⟩
  go_wp2_with fail
  go_loopw [3] (fun i wr => ∃ k : Nat, k ≤ r.members.length ∧ i = .int .i64 k ∧ Aft W wr ∧ ∀ j, j < k → ∀ (hj : j < r.members.length), (!reachB r.members r.members[j].of r.members[j].role) = true) (fun i _ => r.members.length - (intOf i).toNat)
  case atStart => exact ⟨0, Nat.zero_le _, rfl, HA1.out, fun j hj => absurd hj (Nat.not_lt_zero j)⟩
  case round =>
    clear e0 e1 e2
    obtain ⟨k, hk, rfl, ha, hp⟩ := hrel
    have HA := Lib.hid ha
    have HP := Lib.hid hp
    obtain ⟨e0, e1, e2⟩ := HR0.out wr ha
    clear ha hp
    by_cases hlt : k < r.members.length
    · obtain ⟨b, off, rfl, hb, t0, t1, hs1, hs2⟩ := mbr_at (mbrs_aft (HAW.out.trans HA.out) HNM.out.2) hlt
      have HIN := Lib.hid (inB_filter_row HQ.out (List.getElem_mem hlt) r.members[k].of)
      obtain ⟨m, hmm⟩ : ∃ m, r.members[k] = m := ⟨_, rfl⟩
      rw [hmm] at t0 t1 hs1 hs2 HIN
      have HMM := Lib.hid hmm
      have K3 := Lib.hid (show ∀ w', Aft wr w' → Calls Try.prog 51 #[.agg #[.slice An r.names.length capn, .slice (some ⟨b, off, none⟩) r.members.length capm], .string m.of] w' (ReachP w' r m.of) from fun w' a => rreach r An capn _ capm m.of w' (strs_aft ((HAW.out.trans HA.out).trans a) HNM.out.1) (mbrs_aft ((HAW.out.trans HA.out).trans a) HNM.out.2) hs2 (by omega))
      obtain ⟨q, hq⟩ : ∃ q, reachB r.members m.of m.role = q := ⟨_, rfl⟩
      obtain ⟨F, hF⟩ : ∃ F, r.names.filter (reachB r.members m.of) = F := ⟨_, rfl⟩
      have K4 := Lib.hid (show ∀ (g : Hd) (B : Nat) (w' : World), w'.ownsRow B 9 1 g.v F.length (F.flatMap nameC) → Calls Try.prog 50 #[g.v, .string m.role] w' fun e w'' => e = .returned (.bool q) ∧ w' = w'' from fun g B w' o => by
        rw [own_slice o]
        refine (rin_any g.a g.c F m.role w' (own_slf nameC o (fun x hx => ⟨rfl, rfl, ?_⟩) ?_)).mono fun e w'' ⟨he, hw⟩ => ⟨?_, hw⟩
        · rw [← hF] at hx
          exact (sm_names HNM.out.1).2 x (List.mem_filter.1 hx).1
        · rw [← hF]
          have := List.length_filter_le (reachB r.members m.of) r.names
          unfold Small; omega
        · rw [he, ← hq, ← HIN.out, hF]; rfl)
      have KP := Lib.hid (show ∀ w' e w'', ReachP w' r m.of e w'' → ∃ g : Hd, e = .returned g.v ∧ Aft w' w'' ∧ w''.ownsRow w'.heap.size 9 1 g.v F.length (F.flatMap nameC) from fun w' e w'' h => by unfold ReachP at h; rw [hF] at h; exact h)
      have HOK := Lib.hid (show reachB r.members r.members[k].of r.members[k].role = q by rw [hmm]; exact hq)
      have KS := Lib.hid (show ∀ w', Aft wr w' → (Aft wr w' ∧ w'.cell? ⟨w.heap.size, 0, none⟩ = some (.slice An r.names.length capn) ∧ w'.cell? ⟨w.heap.size, 1, none⟩ = some (.slice (some ⟨b, off, none⟩) r.members.length capm) ∧ w'.cell? ⟨b, off + k * 2, none⟩ = some (.string m.role) ∧ w'.cell? ⟨b, off + k * 2 + 1, none⟩ = some (.string m.of)) from fun w' a => ⟨a, a.cell_kept e0, a.cell_kept e1, a.cell_kept t0, a.cell_kept t1⟩)
      clear hmm hq hF HIN
      go_wp2_with fail
      go_region_held3 (fun w' => Aft wr w' ∧ w'.cell? ⟨w.heap.size, 0, none⟩ = some (.slice An r.names.length capn) ∧ w'.cell? ⟨w.heap.size, 1, none⟩ = some (.slice (some ⟨b, off, none⟩) r.members.length capm) ∧ w'.cell? ⟨b, off + k * 2, none⟩ = some (.string m.role) ∧ w'.cell? ⟨b, off + k * 2 + 1, none⟩ = some (.string m.of))
        (first | exact KS.out _ (Aft.refl _).drew | exact KS.out _ (And.left (by assumption)) | exact KS.out _ (Aft.trans (And.left (by assumption : Aft wr _ ∧ _)) (by assumption)))
        ((first | (go_at_call 51; refine (K3.out _ (And.left (by assumption : Aft wr _ ∧ _))).mono ?_; intro e w5 hP5; obtain ⟨g5, he5, a5, o5⟩ := KP.out _ _ _ hP5; clear hP5; subst he5) | (go_at_call 50; refine (K4.out _ _ _ (by assumption)).mono ?_; rintro e w4 ⟨rfl, rfl⟩)))
      have HAX := Lib.hid (And.left (by assumption : Aft wr w5 ∧ _))
      clear o5 a5
      cases q
      · have HNX := Lib.hid (ext_lt (p := fun j => ∀ (hj : j < r.members.length), (!reachB r.members r.members[j].of r.members[j].role) = true) HP.out (fun _ => by rw [HOK.out]; rfl))
        go_wp2_with fail
        go_roundw
        case rel => exact ⟨k + 1, by omega, by go_num, HA.out.trans HAX.out, HNX.out⟩
        case measure => simp [intOf]; omega
      · have HF := Lib.hid (show rightR r = false by rw [HRT.out, all_false (fun m => !reachB r.members m.of m.role) r.members k hlt (by show (!reachB r.members r.members[k].of r.members[k].role) = false; rw [HOK.out]; rfl)]; rfl)
        go_wp2_with fail
        go_ret
        exact ⟨by rw [HF.out]; rfl, (HAW.out.trans HA.out).trans HAX.out⟩
    · have HF := Lib.hid (show rightR r = true by rw [HRT.out, all_true _ _ fun j hj => HP.out j (by omega) hj]; rfl)
      go_wp2_with fail
      go_ret
      exact ⟨by rw [HF.out]; rfl, HAW.out.trans HA.out⟩
end Go.Proofs.Ytcdhljcpoopfaaa
