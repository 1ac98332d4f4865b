/- Contracts of the program, part 10. -/
import Derived.Test.YtcdhljcpoopfaaaPart6
import Derived.Test.YtcdhljcpoopfaaaPart9
import Derived.Test.YtcdhljcpoopfaaaPart1
import Derived.ShutString
import Derived.Test.YtcdhljcpoopfaaaPart2
/- law08: adds, joins: the chapter's examples. -/
namespace Go.Proofs.Ytcdhljcpoopfaaa
open Go.RowKit Go.Deep
set_option maxRecDepth 100000
set_option linter.unusedVariables false
def bD : ByteArray := ⟨#[100]⟩
def addR : Rls := ⟨[bA, bB, bC, bD], [⟨bA, bB⟩, ⟨bB, bC⟩]⟩
def joinR : Rls := ⟨[bA, bB, bC], [⟨bA, bB⟩, ⟨bA, bC⟩, ⟨bB, bC⟩]⟩
theorem oneR_add : chgF oneR (addF bD oneR) = (addR, 0) := by
  have h : addF bD oneR = (addR, 0) := by
    unfold addF
    rw [show nameB bD = true by decide +kernel, show thereB cmpS oneR.names bD = false by decide +kernel, show posB cmpS oneR.names bD = 3 by decide +kernel]
    rfl
  unfold chgF
  rw [oneR_ok, h]
  rfl
theorem oneR_drop : chgF oneR (dropF bB oneR) = (noR, 73) := by
  have h : dropF bB oneR = (oneR, 73) := by
    unfold dropF
    rw [show thereB cmpS oneR.names bB = true by decide +kernel, show oneR.members.any (usedM bB) = true by decide +kernel]
    rfl
  unfold chgF
  rw [oneR_ok, h]
  rfl
theorem oneR_join : chgF oneR (joinF ⟨bA, bC⟩ oneR) = (joinR, 0) := by
  have hr : reachB oneR.members bC bA = false := reachB_out _ _ _ [bC] (by decide +kernel) (by decide +kernel) (by decide +kernel)
  have h : joinF ⟨bA, bC⟩ oneR = (joinR, 0) := by
    unfold joinF
    simp only [hr, show inB oneR.names bA = true by decide +kernel, show inB oneR.names bC = true by decide +kernel, show thereB cmpM oneR.members ⟨bA, bC⟩ = false by decide +kernel, show posB cmpM oneR.members ⟨bA, bC⟩ = 1 by decide +kernel]
    rfl
  unfold chgF
  rw [oneR_ok, h]
  rfl
theorem oneR_ring : chgF oneR (joinF ⟨bC, bA⟩ oneR) = (noR, 72) := by
  have hr : reachB oneR.members bA bC = true := reachB_step oneR.members ⟨bA, bB⟩ bC (by simp [oneR]) (reachB_step oneR.members ⟨bB, bC⟩ bC (by simp [oneR]) (reachB_refl _ _))
  have h : joinF ⟨bC, bA⟩ oneR = (oneR, 72) := by
    unfold joinF
    simp only [hr, show inB oneR.names bA = true by decide +kernel, show inB oneR.names bC = true by decide +kernel, show thereB cmpM oneR.members ⟨bC, bA⟩ = false by decide +kernel]
    rfl
  unfold chgF
  rw [oneR_ok, h]
  rfl
def leaveR : Rls := ⟨[bA, bB, bC], [⟨bB, bC⟩]⟩
theorem oneR_leave : chgF oneR (leaveF ⟨bA, bB⟩ oneR) = (leaveR, 0) := by
  have h : leaveF ⟨bA, bB⟩ oneR = (leaveR, 0) := by
    unfold leaveF
    simp only [show thereB cmpM oneR.members ⟨bA, bB⟩ = true by decide +kernel, show posB cmpM oneR.members ⟨bA, bB⟩ = 0 by decide +kernel]
    rfl
  unfold chgF
  rw [oneR_ok, h]
  rfl
theorem small_b (b : UInt8) : Small (ByteArray.mk #[b]).size := by unfold Small; show 1 * 1 ≤ _; omega
set_option maxHeartbeats 8000000 in
theorem adds8 (w : World) : Calls Try.prog 33 #[] w fun e w' => e = .returned (.bool true) ∧ Aft w w' := by
  go_enter Try.func33, Try.ntmps33
  go_wp2_with fail
  refine (one8 _).mono ?_
  rintro e w1 ⟨hn, hm, rfl, a1, rin⟩
  have C1 := Lib.hid (show Calls Try.prog 29 #[.agg #[hn.v, hm.v], .string bD] w1 (ChgP8 w1 (addR, 0)) from by
    rw [rin.vn, rin.vm, ← oneR_add]
    exact add8 oneR hn.a hn.c hm.a hm.c bD w1 (rin.names sm_one) (rin.mbrs sm_one) (small_b _))
  have HA1 := Lib.hid a1
  clear a1 rin
  unfold bD at C1
  go_wp2_with fail
  refine C1.out.mono ?_
  rintro e w2 ⟨⟨A2, n2, c2⟩, ⟨B2, m2, d2⟩, rfl, a2, rin⟩
  have e1 : n2 = 4 := own_n rin.nam
  have e2 : m2 = 2 := own_n rin.mem
  subst e1 e2
  have HA2 := Lib.hid (HA1.out.trans a2)
  obtain ⟨V, hV⟩ : ∃ V, V = w2.alloc (.cells #[.slice A2 4 c2, .slice B2 2 d2] 25) := ⟨_, rfl⟩
  have aV : Aft w2 V := by rw [hV]; exact (Aft.refl _).alloc _
  have HAV := Lib.hid aV
  have K := Lib.hid (show ∀ w', Aft V w' → ∃ b off, A2 = some ⟨b, off, none⟩ ∧ (w'.cell? ⟨w2.heap.size, 0, none⟩ = some (.slice A2 4 c2) ∧ w'.cell? ⟨b, off + 3, none⟩ = some (.string bD) ∧ w2.heap.size < w'.heap.size ∧ b < w'.heap.size ∧ b < w'.heap.size + 1 ∧ w2.heap.size < w'.heap.size + 1) from fun w' a => by
    have hsa : SlAt w2 1 StrR A2 c2 addR.names := own_slf nameC rin.nam (fun x hx => ⟨rfl, rfl, by simp [addR] at hx; rcases hx with rfl | rfl | rfl | rfl <;> exact small_b _⟩) (by unfold Small; decide)
    obtain ⟨b, off, e, hb, hc, _⟩ := str_at (strs_aft (aV.trans a) hsa) (show 3 < addR.names.length by decide)
    have row := rowAt_new8 w2 [.slice A2 4 c2, .slice B2 2 d2] 25
    rw [show w2.alloc (.cells [.slice A2 4 c2, .slice B2 2 d2].toArray 25) = V from hV.symm] at row
    have row := row.aft a
    exact ⟨b, off, e, row.cell (j := 0) rfl, hc, row.1, hb, by omega, by have := row.1; omega⟩)
  show (_ : Prop)
  simp only [Hd.v]
  clear rin a2 C1 aV
  go_wp2_with fail
  rw [← hV]
  clear hV
  refine (one8 _).mono ?_
  rintro e w3 ⟨hn3, hm3, rfl, a3, rin⟩
  have C2 := Lib.hid (show Calls Try.prog 31 #[.agg #[hn3.v, hm3.v], .string bB] w3 (ChgP8 w3 (noR, 73)) from by
    rw [rin.vn, rin.vm, ← oneR_drop]
    exact drop8 oneR hn3.a hn3.c hm3.a hm3.c bB w3 (rin.names sm_one) (rin.mbrs sm_one))
  have HA3 := Lib.hid a3
  clear a3 rin
  unfold bB at C2
  go_wp2_with fail
  refine C2.out.mono ?_
  rintro e w4 ⟨⟨A4, n4, c4⟩, ⟨B4, m4, d4⟩, rfl, a4, rin⟩
  obtain ⟨b, off, rfl, x0, x1, z0, z1, z2, z3⟩ := K.out w4 (HA3.out.trans a4)
  have HA4 := Lib.hid (HA2.out.trans (HAV.out.trans (HA3.out.trans a4)))
  unfold bD at x1
  simp only [Hd.v]
  clear rin a4 C2 K
  go_wp2_with fail
  go_ret
  exact ⟨rfl, HA4.out.alloc _⟩
set_option maxHeartbeats 16000000 in
theorem joins8 (w : World) : Calls Try.prog 27 #[] w fun e w' => e = .returned (.bool true) ∧ Aft w w' := by
  go_enter Try.func27, Try.ntmps27
  go_wp2_with fail
  refine (one8 _).mono ?_
  rintro e w1 ⟨hn, hm, rfl, a1, rin⟩
  have C1 := Lib.hid (show Calls Try.prog 23 #[.agg #[hn.v, hm.v], .string bA, .string bC] w1 (ChgP8 w1 (joinR, 0)) from by
    rw [rin.vn, rin.vm, ← oneR_join]
    exact join8 oneR hn.a hn.c hm.a hm.c bA bC w1 (rin.names sm_one) (rin.mbrs sm_one) (small_b _) (small_b _))
  have HA1 := Lib.hid a1
  clear a1 rin
  unfold bA bC at C1
  go_wp2_with fail
  refine C1.out.mono ?_
  rintro e w2 ⟨⟨A2, n2, c2⟩, ⟨B2, m2, d2⟩, rfl, a2, rin⟩
  have e1 : n2 = 3 := own_n rin.nam
  have e2 : m2 = 3 := own_n rin.mem
  subst e1 e2
  have HA2 := Lib.hid (HA1.out.trans a2)
  obtain ⟨V, hV⟩ : ∃ V, V = w2.alloc (.cells #[.slice A2 3 c2, .slice B2 3 d2] 25) := ⟨_, rfl⟩
  have aV : Aft w2 V := by rw [hV]; exact (Aft.refl _).alloc _
  have HAV := Lib.hid aV
  have K := Lib.hid (show ∀ w', Aft V w' → ∃ b off, B2 = some ⟨b, off, none⟩ ∧ (w'.cell? ⟨w2.heap.size, 1, none⟩ = some (.slice B2 3 d2) ∧ w'.cell? ⟨b, off + 2 + 1, none⟩ = some (.string bC) ∧ w2.heap.size < w'.heap.size ∧ b < w'.heap.size ∧ b < w'.heap.size + 1 ∧ w2.heap.size < w'.heap.size + 1) from fun w' a => by
    have hsa : SlAt w2 2 MbrR B2 d2 joinR.members := own_slf mbrC rin.mem (fun x hx => ⟨rfl, rfl, by simp [joinR] at hx; rcases hx with rfl | rfl | rfl <;> exact ⟨small_b _, small_b _⟩⟩) (by unfold Small; decide)
    obtain ⟨b, off, e, hb, hc0, hc, _⟩ := mbr_at (mbrs_aft (aV.trans a) hsa) (show 1 < joinR.members.length by decide)
    have row := rowAt_new8 w2 [.slice A2 3 c2, .slice B2 3 d2] 25
    rw [show w2.alloc (.cells [.slice A2 3 c2, .slice B2 3 d2].toArray 25) = V from hV.symm] at row
    have row := row.aft a
    exact ⟨b, off, e, row.cell (j := 1) rfl, hc, row.1, hb, by omega, by have := row.1; omega⟩)
  show (_ : Prop)
  simp only [Hd.v]
  clear rin a2 C1 aV
  go_wp2_with fail
  rw [← hV]
  clear hV
  refine (one8 _).mono ?_
  rintro e w3 ⟨hn3, hm3, rfl, a3, rin⟩
  have C2 := Lib.hid (show Calls Try.prog 23 #[.agg #[hn3.v, hm3.v], .string bC, .string bA] w3 (ChgP8 w3 (noR, 72)) from by
    rw [rin.vn, rin.vm, ← oneR_ring]
    exact join8 oneR hn3.a hn3.c hm3.a hm3.c bC bA w3 (rin.names sm_one) (rin.mbrs sm_one) (small_b _) (small_b _))
  have HA3 := Lib.hid a3
  clear a3 rin
  unfold bA bC at C2
  go_wp2_with fail
  refine C2.out.mono ?_
  rintro e w4 ⟨⟨A4, n4, c4⟩, ⟨B4, m4, d4⟩, rfl, a4, rin⟩
  have e1 : n4 = 0 := own_n rin.nam
  have e2 : m4 = 0 := own_n rin.mem
  subst e1 e2
  have HA4 := Lib.hid (HA3.out.trans a4)
  obtain ⟨U, hU⟩ : ∃ U, U = w4.alloc (.cells #[.slice A4 0 c4, .slice B4 0 d4] 25) := ⟨_, rfl⟩
  have aU : Aft w4 U := by rw [hU]; exact (Aft.refl _).alloc _
  have HAU := Lib.hid (HA4.out.trans aU)
  simp only [Hd.v]
  clear rin a4 C2 aU
  go_wp2_with fail
  rw [← hU]
  clear hU
  refine (one8 _).mono ?_
  rintro e w5 ⟨hn5, hm5, rfl, a5, rin⟩
  have C3 := Lib.hid (show Calls Try.prog 25 #[.agg #[hn5.v, hm5.v], .string bA, .string bB] w5 (ChgP8 w5 (leaveR, 0)) from by
    rw [rin.vn, rin.vm, ← oneR_leave]
    exact leave8 oneR hn5.a hn5.c hm5.a hm5.c bA bB w5 (rin.names sm_one) (rin.mbrs sm_one))
  have HA5 := Lib.hid (HAU.out.trans a5)
  clear a5 rin
  unfold bA bB at C3
  go_wp2_with fail
  refine C3.out.mono ?_
  rintro e w6 ⟨⟨A6, n6, c6⟩, ⟨B6, m6, d6⟩, rfl, a6, rin⟩
  have e1 : n6 = 3 := own_n rin.nam
  have e2 : m6 = 1 := own_n rin.mem
  subst e1 e2
  obtain ⟨b, off, rfl, x0, x1, z0, z1, z2, z3⟩ := K.out w6 (HA5.out.trans a6)
  have HA6 := Lib.hid (HA2.out.trans (HAV.out.trans (HA5.out.trans a6)))
  unfold bC at x1
  simp only [Hd.v]
  clear rin a6 C3 K
  go_wp2_with fail
  go_ret
  exact ⟨rfl, HA6.out.alloc _⟩
end Go.Proofs.Ytcdhljcpoopfaaa
/- The law RolesAdds, walked. -/
namespace Go.Proofs.Ytcdhljcpoopfaaa
open Go.RowKit Go.Deep
set_option maxRecDepth 100000
set_option linter.unusedVariables false
/- Plain: what comes of small roles is small. -/
theorem sm_no : SmRl noR := ⟨⟨by unfold Small; decide, fun x hx => by simp [noR] at hx⟩, by unfold Small; decide, fun x hx => by simp [noR] at hx⟩
theorem sm_chg {r : Rls} {f : Rls × Int} (h : rightR r = true → f.2 = 0 → SmRl f.1) : SmRl (chgF r f).1 := by
  unfold chgF
  split
  · split
    · next h1 h2 => exact h h1 h2
    · exact sm_no
  · exact sm_no
theorem sm_add {r : Rls} {name : ByteArray} (h : SmRl r) (hs : Small name.size) : SmRl (chgF r (addF name r)).1 := sm_chg fun hr hz => by
  have hp := rightR_parts.1 hr
  unfold addF at hz ⊢
  split at hz
  · split at hz
    · exact absurd hz (by simp)
    · split at hz
      · exact absurd hz (by simp)
      · rename_i h1 h2 h3
        rw [if_pos h1, if_neg h2, if_neg h3]
        refine ⟨⟨?_, fun x hx => ?_⟩, h.2⟩
        · show Small ((insAt _ _ _).length * 16)
          rw [insAt_len _ _ _ (posB_le _ _ _)]; unfold Small; omega
        · rcases mem_insAt.1 hx with e | e
          · rw [e]; exact hs
          · exact h.1.2 x e
  · exact absurd hz (by simp)
theorem sm_drop {r : Rls} {name : ByteArray} (h : SmRl r) : SmRl (chgF r (dropF name r)).1 := sm_chg fun hr hz => by
  unfold dropF at hz ⊢
  split at hz
  · split at hz
    · exact absurd hz (by simp)
    · rename_i h1 h2
      rw [if_pos h1, if_neg h2]
      exact ⟨⟨Nat.le_trans (Nat.mul_le_mul_right _ (List.length_eraseIdx_le _ _)) h.1.1, fun x hx => h.1.2 x (List.mem_of_mem_eraseIdx hx)⟩, h.2⟩
  · exact absurd hz (by simp)
theorem sm_join {r : Rls} {x : Mbr} (h : SmRl r) (h1 : Small x.role.size) (h2 : Small x.of.size) : SmRl (chgF r (joinF x r)).1 := sm_chg fun hr hz => by
  have hp := rightR_parts.1 hr
  unfold joinF at hz ⊢
  split at hz
  · split at hz
    · exact absurd hz (by simp)
    · split at hz
      · exact absurd hz (by simp)
      · rename_i h1' h2' h3'
        rw [if_pos h1', if_neg h2', if_neg h3']
        refine ⟨h.1, ?_, fun y hy => ?_⟩
        · show Small ((insAt _ _ _).length * 16)
          rw [insAt_len _ _ _ (posB_le _ _ _)]; unfold Small; omega
        · rcases mem_insAt.1 hy with e | e
          · rw [e]; exact ⟨h1, h2⟩
          · exact h.2.2 y e
  · exact absurd hz (by simp)
theorem sm_leave {r : Rls} {x : Mbr} (h : SmRl r) : SmRl (chgF r (leaveF x r)).1 := sm_chg fun hr hz => by
  unfold leaveF at hz ⊢
  split at hz
  · rename_i h1
    rw [if_pos h1]
    exact ⟨h.1, Nat.le_trans (Nat.mul_le_mul_right _ (List.length_eraseIdx_le _ _)) h.2.1, fun x hx => h.2.2 x (List.mem_of_mem_eraseIdx hx)⟩
  · exact absurd hz (by simp)
set_option maxHeartbeats 16000000 in
theorem law_adds8 (r : Rls) (An : Option Addr) (capn : Nat) (Am : Option Addr) (capm : Nat) (name : ByteArray) (w : World) (hn : SlAt w 1 StrR An capn r.names) (hm : SlAt w 2 MbrR Am capm r.members) (hs : Small name.size) :
    Calls Try.prog 7 #[.agg #[.slice An r.names.length capn, .slice Am r.members.length capm], .string name] w fun e w' => e = .returned (.bool true) ∧ Aft w w' := by
  obtain ⟨bg, hbg⟩ : ∃ b, bigR r = b := ⟨_, rfl⟩
  obtain ⟨⟨X, g⟩, hX⟩ : ∃ F, chgF r (addF name r) = F := ⟨_, rfl⟩
  obtain ⟨⟨Y, k⟩, hY⟩ : ∃ F, chgF r (dropF name r) = F := ⟨_, rfl⟩
  have HSX := Lib.hid (show SmRl X from by have : SmRl (chgF r (addF name r)).1 := sm_add (sm_rls hn hm) hs; rw [hX] at this; exact this)
  have HSY := Lib.hid (show SmRl Y from by have : SmRl (chgF r (dropF name r)).1 := sm_drop (sm_rls hn hm); rw [hY] at this; exact this)
  have CL := Lib.hid (show ∀ w', _ from fun w' => hbg ▸ large8 r An capn Am capm w')
  have HB := Lib.hid (show bg = false → r.names.length ≤ 1000 ∧ r.members.length ≤ 1000 from fun h => bigR_len (hbg.trans h))
  have C1 := Lib.hid (show ∀ w', Aft w w' → Calls Try.prog 29 #[.agg #[.slice An r.names.length capn, .slice Am r.members.length capm], .string name] w' (ChgP8 w' (X, g)) from fun w' a => hX ▸ add8 r An capn Am capm name w' (strs_aft a hn) (mbrs_aft a hm) hs)
  have C2 := Lib.hid (show ∀ w', Aft w w' → Calls Try.prog 31 #[.agg #[.slice An r.names.length capn, .slice Am r.members.length capm], .string name] w' (ChgP8 w' (Y, k)) from fun w' a => hY ▸ drop8 r An capn Am capm name w' (strs_aft a hn) (mbrs_aft a hm))
  have D1 := Lib.hid (show ∀ (A : Option Addr) (ca : Nat) (A2 : Option Addr) (ca2 : Nat) (w' : World), SlAt w' 1 StrR A ca r.names → SlAt w' 2 MbrR A2 ca2 r.members → Calls Try.prog 30 #[.agg #[.slice A r.names.length ca, .slice A2 r.members.length ca2], .string name] w' (ChgP8 w' (X, g)) from fun A ca A2 ca2 w' s1 s2 => hX ▸ radd8 r A ca A2 ca2 name w' s1 s2 hs)
  have D2 := Lib.hid (show ∀ (A : Option Addr) (ca : Nat) (A2 : Option Addr) (ca2 : Nat) (w' : World), SlAt w' 1 StrR A ca r.names → SlAt w' 2 MbrR A2 ca2 r.members → Calls Try.prog 32 #[.agg #[.slice A r.names.length ca, .slice A2 r.members.length ca2], .string name] w' (ChgP8 w' (Y, k)) from fun A ca A2 ca2 w' s1 s2 => hY ▸ rdrop8 r A ca A2 ca2 name w' s1 s2)
  have HSM := Lib.hid (sm_rls hn hm)
  have HNM := Lib.hid (And.intro hn hm)
  have l1 : w.heap.size < w.heap.size + 1 := by omega
  obtain ⟨W, hW⟩ : ∃ W, W = w.alloc (.cells #[.slice An r.names.length capn, .slice Am r.members.length capm] 25) := ⟨_, rfl⟩
  have aW : Aft w W := by rw [hW]; exact (Aft.refl _).alloc _
  have BW := Lib.hid (show RowAt W w.heap.size [.slice An r.names.length capn, .slice Am r.members.length capm] by rw [hW]; exact rowAt_new8 w [.slice An r.names.length capn, .slice Am r.members.length capm] 25)
  have HAW := Lib.hid aW
  clear hbg hn hm hX hY aW
  go_enter Try.func7, Try.ntmps7
  go_wp2_with fail
  rw [← hW]
  clear hW
  refine (CL.out _).mono ?_
  rintro e w1 ⟨rfl, a1⟩
  have HA1 := Lib.hid a1
  clear a1 CL
  cases bg
  case true =>
    go_wp2_with fail
    go_ret
    exact ⟨rfl, HAW.out.trans HA1.out⟩
  have hb := HB.out (by first | trivial | rfl)
  have CO := Lib.hid (own8 r An capn Am capm w1 (strs_aft (HAW.out.trans HA1.out) HNM.out.1) (mbrs_aft (HAW.out.trans HA1.out) HNM.out.2) hb.1 hb.2)
  have c0 := (BW.out.aft HA1.out).cell (j := 0) rfl
  have c1 := (BW.out.aft HA1.out).cell (j := 1) rfl
  have cz := (BW.out.aft HA1.out).1
  clear hb HB
  go_wp2_with fail
  refine CO.out.mono ?_
  rintro e w2 ⟨⟨on, nn, cn⟩, ⟨om, nm, cm⟩, rfl, a2, rin⟩
  obtain rfl : nn = r.names.length := own_n rin.nam
  obtain rfl : nm = r.members.length := own_n rin.mem
  simp only [Hd.v]
  obtain ⟨W2, hW2⟩ : ∃ W2, W2 = w2.alloc (.cells #[.slice on r.names.length cn, .slice om r.members.length cm] 25) := ⟨_, rfl⟩
  have aW2 : Aft w2 W2 := by rw [hW2]; exact (Aft.refl _).alloc _
  have BW2 := Lib.hid (show RowAt W2 w2.heap.size [.slice on r.names.length cn, .slice om r.members.length cm] by rw [hW2]; exact rowAt_new8 w2 [.slice on r.names.length cn, .slice om r.members.length cm] 25)
  have HA2 := Lib.hid (HA1.out.trans a2)
  have HAW2 := Lib.hid ((HAW.out.trans HA2.out).trans aW2)
  have HBW2 := Lib.hid ((HA2.out).trans aW2)
  have HG1 := Lib.hid (strs_aft aW2 (rin.names HSM.out))
  have HG2 := Lib.hid (mbrs_aft aW2 (rin.mbrs HSM.out))
  have c0 := (BW.out.aft HA2.out).cell (j := 0) rfl
  have c1 := (BW.out.aft HA2.out).cell (j := 1) rfl
  have cz := (BW.out.aft HA2.out).1
  have cz' : w.heap.size < w2.heap.size + 1 := by omega
  clear a2 rin aW2 CO
  go_wp2_with fail
  rw [← hW2]
  clear hW2
  have HW2 := Lib.hid (Aft.refl W2)
  refine (C1.out W2 (HAW2.out.trans HW2.out)).mono ?_
  rintro e w3 ⟨⟨n3, j3, k3⟩, ⟨m3, i3, l3⟩, rfl, a3, rin⟩
  obtain rfl : j3 = X.names.length := own_n rin.nam
  obtain rfl : i3 = X.members.length := own_n rin.mem
  simp only [Hd.v]
  obtain ⟨W3, hW3⟩ : ∃ W3, W3 = w3.alloc (.cells #[.slice n3 X.names.length k3, .slice m3 X.members.length l3] 25) := ⟨_, rfl⟩
  have aW3 : Aft w3 W3 := by rw [hW3]; exact (Aft.refl _).alloc _
  have BW3 := Lib.hid (show RowAt W3 w3.heap.size [.slice n3 X.names.length k3, .slice m3 X.members.length l3] by rw [hW3]; exact rowAt_new8 w3 [.slice n3 X.names.length k3, .slice m3 X.members.length l3] 25)
  have HA3 := Lib.hid (HW2.out.trans a3)
  have HW3 := Lib.hid (HA3.out.trans aW3)
  have HV3 := Lib.hid aW3
  have S3 := Lib.hid (a3.trans aW3)
  have HZ3 := Lib.hid (show W2.heap.size ≤ w3.heap.size ∧ w3.heap.size < W3.heap.size from ⟨a3.size, by rw [hW3]; simp⟩)
  have HR3 := Lib.hid rin
  have c0 := (BW.out.aft (HBW2.out.trans HA3.out)).cell (j := 0) rfl
  have c1 := (BW.out.aft (HBW2.out.trans HA3.out)).cell (j := 1) rfl
  have cz := (BW.out.aft (HBW2.out.trans HA3.out)).1
  have cz' : w.heap.size < w3.heap.size + 1 := by omega
  have o0 := (BW2.out.aft HA3.out).cell (j := 0) rfl
  have o1 := (BW2.out.aft HA3.out).cell (j := 1) rfl
  have oz := (BW2.out.aft HA3.out).1
  have oz' : w2.heap.size < w3.heap.size + 1 := by omega
  clear a3 rin aW3
  go_wp2_with fail
  rw [← hW3]
  clear hW3
  refine (D1.out _ _ _ _ W3 (strs_aft HW3.out HG1.out) (mbrs_aft HW3.out HG2.out)).mono ?_
  rintro e w4 ⟨⟨n4, j4, k4⟩, ⟨m4, i4, l4⟩, rfl, a4, rin⟩
  obtain rfl : j4 = X.names.length := own_n rin.nam
  obtain rfl : i4 = X.members.length := own_n rin.mem
  simp only [Hd.v]
  obtain ⟨W4, hW4⟩ : ∃ W4, W4 = w4.alloc (.cells #[.slice n4 X.names.length k4, .slice m4 X.members.length l4] 25) := ⟨_, rfl⟩
  have aW4 : Aft w4 W4 := by rw [hW4]; exact (Aft.refl _).alloc _
  have BW4 := Lib.hid (show RowAt W4 w4.heap.size [.slice n4 X.names.length k4, .slice m4 X.members.length l4] by rw [hW4]; exact rowAt_new8 w4 [.slice n4 X.names.length k4, .slice m4 X.members.length l4] 25)
  have HA4 := Lib.hid (HW3.out.trans a4)
  have HW4 := Lib.hid (HA4.out.trans aW4)
  have HV4 := Lib.hid aW4
  have S4 := Lib.hid (a4.trans aW4)
  have HZ4 := Lib.hid (show W3.heap.size ≤ w4.heap.size ∧ w4.heap.size < W4.heap.size from ⟨a4.size, by rw [hW4]; simp⟩)
  have HR4 := Lib.hid rin
  have c0 := (BW.out.aft (HBW2.out.trans HA4.out)).cell (j := 0) rfl
  have c1 := (BW.out.aft (HBW2.out.trans HA4.out)).cell (j := 1) rfl
  have cz := (BW.out.aft (HBW2.out.trans HA4.out)).1
  have cz' : w.heap.size < w4.heap.size + 1 := by omega
  have o0 := (BW2.out.aft HA4.out).cell (j := 0) rfl
  have o1 := (BW2.out.aft HA4.out).cell (j := 1) rfl
  have oz := (BW2.out.aft HA4.out).1
  have oz' : w2.heap.size < w4.heap.size + 1 := by omega
  clear a4 rin aW4
  go_wp2_with fail
  rw [← hW4]
  clear hW4
  refine (C2.out W4 (HAW2.out.trans HW4.out)).mono ?_
  rintro e w5 ⟨⟨n5, j5, k5⟩, ⟨m5, i5, l5⟩, rfl, a5, rin⟩
  obtain rfl : j5 = Y.names.length := own_n rin.nam
  obtain rfl : i5 = Y.members.length := own_n rin.mem
  simp only [Hd.v]
  obtain ⟨W5, hW5⟩ : ∃ W5, W5 = w5.alloc (.cells #[.slice n5 Y.names.length k5, .slice m5 Y.members.length l5] 25) := ⟨_, rfl⟩
  have aW5 : Aft w5 W5 := by rw [hW5]; exact (Aft.refl _).alloc _
  have BW5 := Lib.hid (show RowAt W5 w5.heap.size [.slice n5 Y.names.length k5, .slice m5 Y.members.length l5] by rw [hW5]; exact rowAt_new8 w5 [.slice n5 Y.names.length k5, .slice m5 Y.members.length l5] 25)
  have HA5 := Lib.hid (HW4.out.trans a5)
  have HW5 := Lib.hid (HA5.out.trans aW5)
  have HV5 := Lib.hid aW5
  have S5 := Lib.hid (a5.trans aW5)
  have HZ5 := Lib.hid (show W4.heap.size ≤ w5.heap.size ∧ w5.heap.size < W5.heap.size from ⟨a5.size, by rw [hW5]; simp⟩)
  have HR5 := Lib.hid rin
  have c0 := (BW.out.aft (HBW2.out.trans HA5.out)).cell (j := 0) rfl
  have c1 := (BW.out.aft (HBW2.out.trans HA5.out)).cell (j := 1) rfl
  have cz := (BW.out.aft (HBW2.out.trans HA5.out)).1
  have cz' : w.heap.size < w5.heap.size + 1 := by omega
  have o0 := (BW2.out.aft HA5.out).cell (j := 0) rfl
  have o1 := (BW2.out.aft HA5.out).cell (j := 1) rfl
  have oz := (BW2.out.aft HA5.out).1
  have oz' : w2.heap.size < w5.heap.size + 1 := by omega
  clear a5 rin aW5
  go_wp2_with fail
  rw [← hW5]
  clear hW5
  refine (D2.out _ _ _ _ W5 (strs_aft HW5.out HG1.out) (mbrs_aft HW5.out HG2.out)).mono ?_
  rintro e w6 ⟨⟨n6, j6, k6⟩, ⟨m6, i6, l6⟩, rfl, a6, rin⟩
  obtain rfl : j6 = Y.names.length := own_n rin.nam
  obtain rfl : i6 = Y.members.length := own_n rin.mem
  simp only [Hd.v]
  obtain ⟨W6, hW6⟩ : ∃ W6, W6 = w6.alloc (.cells #[.slice n6 Y.names.length k6, .slice m6 Y.members.length l6] 25) := ⟨_, rfl⟩
  have aW6 : Aft w6 W6 := by rw [hW6]; exact (Aft.refl _).alloc _
  have BW6 := Lib.hid (show RowAt W6 w6.heap.size [.slice n6 Y.names.length k6, .slice m6 Y.members.length l6] by rw [hW6]; exact rowAt_new8 w6 [.slice n6 Y.names.length k6, .slice m6 Y.members.length l6] 25)
  have HA6 := Lib.hid (HW5.out.trans a6)
  have HW6 := Lib.hid (HA6.out.trans aW6)
  have HV6 := Lib.hid aW6
  have S6 := Lib.hid (a6.trans aW6)
  have HZ6 := Lib.hid (show W5.heap.size ≤ w6.heap.size ∧ w6.heap.size < W6.heap.size from ⟨a6.size, by rw [hW6]; simp⟩)
  have HR6 := Lib.hid rin
  have c0 := (BW.out.aft (HBW2.out.trans HA6.out)).cell (j := 0) rfl
  have c1 := (BW.out.aft (HBW2.out.trans HA6.out)).cell (j := 1) rfl
  have cz := (BW.out.aft (HBW2.out.trans HA6.out)).1
  have cz' : w.heap.size < w6.heap.size + 1 := by omega
  have o0 := (BW2.out.aft HA6.out).cell (j := 0) rfl
  have o1 := (BW2.out.aft HA6.out).cell (j := 1) rfl
  have oz := (BW2.out.aft HA6.out).1
  have oz' : w2.heap.size < w6.heap.size + 1 := by omega
  clear a6 rin aW6
  go_wp2_with fail
  rw [← hW6]
  clear hW6
  refine (adds8 W6).mono ?_
  rintro e w7 ⟨rfl, a7⟩
  have H67 := Lib.hid a7
  clear a7
  clear c0 c1 cz cz' o0 o1 oz oz' C1 C2 D1 D2
  have A67 := H67.out
  have A57 := S6.out.trans A67
  have A47 := S5.out.trans A57
  have A37 := S4.out.trans A47
  have A27 := S3.out.trans A37
  have R3 := (HR3.out.aft HV3.out).aft A37
  have R4 := (HR4.out.aft HV4.out).aft A47
  have R5 := (HR5.out.aft HV5.out).aft A57
  have R6 := (HR6.out.aft HV6.out).aft A67
  have lt3 := HR3.out.lt
  have zz3 := HZ3.out
  have zz4 := HZ4.out
  have zz5 := HZ5.out
  have zz6 := HZ6.out
  have HT1 := Lib.hid (told8 X r ⟨n3, X.names.length, k3⟩ ⟨m3, X.members.length, l3⟩ W2.heap.size n4 k4 m4 l4 An capn Am capm on cn om cm g W2 w7 R3 HSX.out (R4.names HSX.out) (R4.mbrs HSX.out) A27 (Nat.le_refl _) (strs_aft HAW2.out HNM.out.1) (mbrs_aft HAW2.out HNM.out.2) HG1.out HG2.out)
  have HALL := Lib.hid (show ∀ v : World, Kb (fun j => j ∈ (Hd.mk n3 X.names.length k3).blk ∨ j ∈ (Hd.mk m3 X.members.length l3).blk) w7 v →
      RowAt v w5.heap.size [.slice n5 Y.names.length k5, .slice m5 Y.members.length l5] ∧ RowAt v w6.heap.size [.slice n6 Y.names.length k6, .slice m6 Y.members.length l6] ∧ RowAt v w2.heap.size [.slice on r.names.length cn, .slice om r.members.length cm] ∧ RowAt v w.heap.size [.slice An r.names.length capn, .slice Am r.members.length capm] ∧ Hid (Aft W2 v) ∧
      Hid (Calls Try.prog 28 #[.agg #[.slice n5 Y.names.length k5, .slice m5 Y.members.length l5], .int .i64 k, .agg #[.slice n6 Y.names.length k6, .slice m6 Y.members.length l6], .int .i64 k, .agg #[.slice An r.names.length capn, .slice Am r.members.length capm], .agg #[.slice on r.names.length cn, .slice om r.members.length cm]] v fun e w' => e = .returned (.bool true) ∧ Kb (fun j => j ∈ (Hd.mk n5 Y.names.length k5).blk ∨ j ∈ (Hd.mk m5 Y.members.length l5).blk) v w') from fun v kb => by
    have a2v : Aft W2 v := kb.to_aft A27 (fun j hj hp => by have := (lt3 j hp).1; omega)
    have R5v := R5.kb kb (fun j hj hp => by have := (lt3 j hp).2; have := (R5.lt j hj).1; omega)
    have R6v := R6.kb kb (fun j hj hp => by have := (lt3 j hp).2; have := (R6.lt j hj).1; omega)
    refine ⟨kb.row (BW5.out.aft A57) (fun hp => by have := (lt3 _ hp).2; omega), kb.row (BW6.out.aft A67) (fun hp => by have := (lt3 _ hp).2; omega), BW2.out.aft a2v, BW.out.aft (HBW2.out.trans a2v), Lib.hid a2v, Lib.hid ?_⟩
    exact told8 Y r ⟨n5, Y.names.length, k5⟩ ⟨m5, Y.members.length, l5⟩ W4.heap.size n6 k6 m6 l6 An capn Am capm on cn om cm k W2 v R5v HSY.out (R6v.names HSY.out) (R6v.mbrs HSY.out) a2v (by omega) (strs_aft HAW2.out HNM.out.1) (mbrs_aft HAW2.out HNM.out.2) HG1.out HG2.out)
  have HL5 := Lib.hid (show ∀ j, (j ∈ (Hd.mk n5 Y.names.length k5).blk ∨ j ∈ (Hd.mk m5 Y.members.length l5).blk) → W2.heap.size ≤ j from fun j hj => by have := (R5.lt j hj).1; omega)
  have b3 := BW3.out.aft A37
  have b4 := BW4.out.aft A47
  have bo := BW2.out.aft A27
  have br := BW.out.aft (HBW2.out.trans A27)
  have p0 := b3.cell (j := 0) rfl
  have p1 := b3.cell (j := 1) rfl
  have p2 := b3.1
  have p3 := b4.cell (j := 0) rfl
  have p4 := b4.cell (j := 1) rfl
  have p5 := b4.1
  have o0 := bo.cell (j := 0) rfl
  have o1 := bo.cell (j := 1) rfl
  have oz := bo.1
  have c0 := br.cell (j := 0) rfl
  have c1 := br.cell (j := 1) rfl
  have cz := br.1
  clear A67 A57 A47 A37 A27 R3 R4 R5 R6 lt3 zz3 zz4 zz5 zz6 b3 b4 bo br
  go_wp2_with fail
  refine HT1.out.mono ?_
  rintro e w8 ⟨rfl, k8⟩
  obtain ⟨r5, r6, ro, rr, ha8, CT⟩ := HALL.out w8 k8
  have p0 := r5.cell (j := 0) rfl
  have p1 := r5.cell (j := 1) rfl
  have p2 := r5.1
  have p3 := r6.cell (j := 0) rfl
  have p4 := r6.cell (j := 1) rfl
  have p5 := r6.1
  have o0 := ro.cell (j := 0) rfl
  have o1 := ro.cell (j := 1) rfl
  have oz := ro.1
  have c0 := rr.cell (j := 0) rfl
  have c1 := rr.cell (j := 1) rfl
  have cz := rr.1
  clear k8 r5 r6 ro rr HT1 HALL
  go_wp2_with fail
  refine CT.out.mono ?_
  rintro e w9 ⟨rfl, k9⟩
  have HA9 := Lib.hid (HAW2.out.trans (k9.to_aft ha8.out (fun j hj hp => by have := HL5.out j hp; omega)))
  clear k9 CT
  go_wp2_with fail
  go_ret
  exact ⟨rfl, HA9.out⟩
end Go.Proofs.Ytcdhljcpoopfaaa
/- From a walk of a law (it returns true and keeps what was there, whatever its arguments read as) to the law's row. -/
namespace Go.Proofs.Ytcdhljcpoopfaaa
open Go.ChangeShapes Go.WideShapes Go.ChangeAt Go.RowKit

section
variable {H : Type} {enc : TypeId × Value → H} {P : Program} {w : World}

/-- an argument that reads -/
def RdV (enc : TypeId × Value → H) (P : Program) (w : World) (t : TypeId) (v : Value) : Prop :=
  Rd enc P w t v.cells.toList ∧ ∃ base, Value.okWide P w .any base t v

theorem RdV.struct {t : TypeId} {fs : Array Field} {v : Value} (ht : P.underlying t = some (.struct fs)) (h : RdV enc P w t v) : ∃ cs : List Value, v = .agg cs.toArray ∧ Rd enc P w t cs := by
  obtain ⟨h1, base, h2⟩ := h
  obtain ⟨cs, rfl, _⟩ := okWide_struct ht h2
  exact ⟨cs.toList, by simp, h1⟩
theorem cell_of_cells {v x : Value} (h : v.cells.toList = [x]) (hn : ∀ cs, v ≠ .agg cs) : v = x := by
  cases v <;> simp [Value.cells] at h <;> first | exact h | exact absurd rfl (hn _)
theorem okWide_not_agg {t : TypeId} {v : Value} {base : Nat} {d : TypeDesc} (ht : P.underlying t = some d) (hd : (∀ fs, d ≠ .struct fs) ∧ (∀ n e, d ≠ .array n e)) (h : Value.okWide P w .any base t v) : ∀ cs, v ≠ .agg cs := by
  intro cs e
  subst e
  unfold Value.okWide at h
  rw [ht] at h
  cases d <;> simp_all [Cell.okWide, Cell.ok]
theorem RdV.string {t : TypeId} {v : Value} (ht : P.underlying t = some .string) (h : RdV enc P w t v) : ∃ s : ByteArray, v = .string s ∧ Small s.size := by
  obtain ⟨h1, base, h2⟩ := h
  obtain ⟨s, hc, hs⟩ := h1.string ht
  exact ⟨s, cell_of_cells hc (okWide_not_agg ht (by simp) h2), hs⟩
theorem RdV.int {t : TypeId} {k : IntKind} {v : Value} (ht : P.underlying t = some (.int k)) (h : RdV enc P w t v) : ∃ n : Int, v = .int k n ∧ (Lit.int k n).wf = true := by
  obtain ⟨h1, base, h2⟩ := h
  obtain ⟨s, hc, hs⟩ := h1.int ht
  exact ⟨s, cell_of_cells hc (okWide_not_agg ht (by simp) h2), hs⟩
theorem RdV.slice {t e : TypeId} {v : Value} (ht : P.underlying t = some (.slice e)) (h : RdV enc P w t v) : Rd enc P w t [v] := by
  obtain ⟨h1, base, h2⟩ := h
  have hn := okWide_not_agg ht (by simp) h2
  have : v.cells.toList = [v] := by cases v <;> first | rfl | exact absurd rfl (hn _)
  rwa [this] at h1

theorem trodAll_rd : ∀ {ts : List TypeId} {vs : List Value} {ds : List (DataW H)} {p : List MemPlace}, DataW.TrodAll enc P w 0 (fun _ => true) true ts vs ds p → (∀ n ∈ DataW.weightsEach P ts ds, n ≤ 140737488351232) →
    vs.length = ts.length ∧ ds.length = ts.length ∧ ∀ (j : Nat) (t : TypeId) (v : Value), ts[j]? = some t → vs[j]? = some v → Rd enc P w t v.cells.toList
  | [], vs, ds, p, h, _ => by
    cases vs <;> cases ds <;> simp [DataW.TrodAll] at h
    exact ⟨rfl, rfl, fun j t v ht => by simp at ht⟩
  | t :: ts, vs, ds, p, h, hw => by
    obtain ⟨v, vs', d, ds', p1, q1, rfl, rfl, rfl, ⟨fuel, h1⟩, h2⟩ := trodAll_cons h
    simp only [DataW.weightsEach, List.mem_append] at hw
    obtain ⟨l1, l2, ih⟩ := trodAll_rd h2 (fun n hn => hw n (.inr hn))
    refine ⟨by simp [l1], by simp [l2], fun j t' v' ht hv => ?_⟩
    cases j with
    | zero =>
      simp at ht hv
      subst ht; subst hv
      exact ⟨fuel, _, h1, fun n hn => hw n (.inl hn)⟩
    | succ j => exact ih j t' v' (by simpa using ht) (by simpa using hv)
theorem trodAll_below {W W' : World} (hl : laidOutB P = true) (hb : Below W.heap.size W W') : ∀ {ts : List TypeId} {vs : List Value} {ds : List (DataW H)} {p : List MemPlace}, (∀ t ∈ ts, P.readableRec t = true ∧ t < P.types.size) →
    DataW.TrodAll enc P W 0 (fun _ => true) true ts vs ds p → DataW.TrodAll enc P W' 0 (fun b => decide (b < W.heap.size)) true ts vs ds p
  | [], vs, ds, p, _, h => by
    cases vs <;> cases ds <;> simp [DataW.TrodAll] at h ⊢
    exact h
  | t :: ts, vs, ds, p, ht, h => by
    obtain ⟨v, vs', d, ds', p1, q1, rfl, rfl, rfl, h1, h2⟩ := trodAll_cons h
    have lt0 : ∀ x ∈ p1, x.block < W.heap.size := by obtain ⟨m, hm⟩ := h1; exact DataW.trod_lt m _ _ _ hm
    exact trodAll_cons_mk (Below.trod hl (ht t (by simp)).1 (ht t (by simp)).2 h1 hb lt0) (trodAll_below hl hb (fun x hx => ht x (by simp [hx])) h2)
end

theorem law_lifted {C : Checked} {os : Os} {f : FuncId} {fn : Func} {s : ChangeSpec} {tb : TypeId} (H : Type) (enc : TypeId × Value → H)
    (own : ownKnob C.prog.godebug = none) (started : os.Started) (noInit : C.prog.inits.idxOf? f = none) (hfn : C.prog.funcs[f]? = some fn)
    (witness : ∃ (w : World) (tape : Tape) (i : Input), w.os = os ∧ (w.forCall tape i).Shaped C.prog ∧ i.vars = [] ∧ Input.okWide C.prog (w.forCall tape i) .any w.heap.size f i ∧
      s.pre6 enc C.prog fn [] false (w.forCall tape i).memory i.args ∧ ({} : Assume).holds C.prog (lone (Frame.enter C.prog f i.args .normal) [] (w.forCall tape i)))
    (hvars : s.vars = []) (hres : fn.resultTypes = #[tb]) (htb : C.prog.underlying tb = some .bool)
    (hspec : ∀ ds : List (DataW H), ds.length = fn.params.size → s.fn H ds = { results := [.lit (.bool true)], args := ds })
    (laid : laidOutB C.prog = true) (hty : ∀ t ∈ fn.params.toList, C.prog.readableRec t = true ∧ t < C.prog.types.size)
    (walk : ∀ (W : World) (vs : List Value), vs.length = fn.params.size → (∀ (j : Nat) (t : TypeId) (v : Value), fn.params[j]? = some t → vs[j]? = some v → RdV enc C.prog W t v) → Calls C.prog f vs.toArray W fun e w' => e = .returned (.bool true) ∧ Aft W w') :
    ReturnsInHanded {} C os f .any (s.pre6 enc C.prog fn [] false) (s.post enc C.prog fn false true false false) := by
  refine returnsInHanded_of_change_sized own started noInit hfn witness ?_
  intro W base args ds gs before hval hW _ hsz _
  have hW' := hW
  obtain ⟨p, q, hA, hV, rfl, _, _⟩ := hW
  rw [hvars] at hV
  obtain ⟨rfl, rfl⟩ := trodVars_none hV
  have hw : ∀ n ∈ DataW.weightsEach C.prog fn.params.toList ds, n ≤ 140737488351232 := by
    have e : s.plain.varTypes C.prog = [] := by
      simp [ChangeSpec.plain, hvars, DataSpec.varTypes]
    rw [e, List.append_nil, List.append_nil] at hsz
    intro n hn
    have := List.all_eq_true.1 hsz n hn
    have h2 : n ≤ reachBytes := by simpa using this
    exact h2
  obtain ⟨l1, l2, hrd⟩ := trodAll_rd hA hw
  have hlen : args.toList.length = fn.params.size := by simpa using l1
  refine ((walk W args.toList hlen fun j t v ht hv => ⟨hrd j t v (by simpa using ht) hv, base, hval j t v ht (by simpa using hv)⟩)).mono fun e W' ⟨he, haft⟩ => ?_
  subst he
  have hs := hspec ds (by simpa using l2)
  refine ⟨_, rfl, ds, [], p ++ [], [], p, [], hW', ?_, ?_, ?_, ?_, fun h => by cases h⟩
  · rw [List.append_nil, hs, hres]
    exact trodAll_mk1 (shut_bool htb _)
  · rw [List.append_nil, hs]
    exact trodAll_below laid haft hty hA
  · rw [List.append_nil, hs, hvars]
    rfl
  · exact haft.frame _
end Go.Proofs.Ytcdhljcpoopfaaa
/- How objects, tables, rules, columns, schemas read as arguments. -/
namespace Go.Proofs.Ytcdhljcpoopfaaa
open Go.ChangeShapes Go.WideShapes Go.ChangeAt Go.RowKit
set_option maxRecDepth 100000
set_option linter.unusedVariables false
section
variable {H : Type} {enc : TypeId × Value → H} {w : World}
theorem rd_str {cs : List Value} (h : Rd enc Try.prog w 9 cs) : ∃ x, StrR w cs x := by
  obtain ⟨s, e, z⟩ := h.string Try.underlying9
  exact ⟨s, e, z⟩
theorem rd_strs {cs : List Value} (h : Rd enc Try.prog w 22 cs) : ∃ l, SlOf w 1 StrR cs l :=
  Rd.slice Try.underlying22 (by kernel_rfl : Try.prog.cellsOf 9 = 1) (by decide) (of_decide_eq_true (by kernel_rfl)) (fun _ h => rd_str h) h
theorem rd_col {cs : List Value} (h : Rd enc Try.prog w 105 cs) : ∃ x, ColR w cs x := by
  obtain ⟨hl, _⟩ := h.struct Try.underlying105
  rw [show Try.prog.cellsOf 105 = 3 by kernel_rfl] at hl
  match cs, hl with
  | [c0, c1, c2], _ =>
    have f0 := h.field Try.underlying105 0 9 0 1 rfl (by kernel_rfl)
    have f1 := h.field Try.underlying105 1 103 1 1 rfl (by kernel_rfl)
    have f2 := h.field Try.underlying105 2 4 2 1 rfl (by kernel_rfl)
    clear h
    obtain ⟨x0, e0, z0⟩ := f0.string Try.underlying9
    obtain ⟨x1, e1, _⟩ := f1.int Try.underlying103
    obtain ⟨x2, e2⟩ := f2.bool Try.underlying4
    simp at e0 e1 e2
    subst e0 e1 e2
    exact ⟨⟨x0, x1, x2⟩, rfl, z0⟩
theorem rd_cols {cs : List Value} (h : Rd enc Try.prog w 53 cs) : ∃ l, SlOf w 3 ColR cs l :=
  Rd.slice Try.underlying53 (by kernel_rfl : Try.prog.cellsOf 105 = 3) (by decide) (of_decide_eq_true (by kernel_rfl)) (fun _ h => rd_col h) h
theorem rd_rule {cs : List Value} (h : Rd enc Try.prog w 86 cs) : ∃ x, RulR w cs x := by
  obtain ⟨hl, _⟩ := h.struct Try.underlying86
  rw [show Try.prog.cellsOf 86 = 8 by kernel_rfl] at hl
  match cs, hl with
  | [c0, c1, c2, c3, c4, c5, c6, c7], _ =>
    have f0 := h.field Try.underlying86 0 9 0 1 rfl (by kernel_rfl)
    have f1 := h.field Try.underlying86 1 84 1 1 rfl (by kernel_rfl)
    have f2 := h.field Try.underlying86 2 22 2 1 rfl (by kernel_rfl)
    have f3 := h.field Try.underlying86 3 3 3 1 rfl (by kernel_rfl)
    have f4 := h.field Try.underlying86 4 3 4 1 rfl (by kernel_rfl)
    have f5 := h.field Try.underlying86 5 9 5 1 rfl (by kernel_rfl)
    have f6 := h.field Try.underlying86 6 9 6 1 rfl (by kernel_rfl)
    have f7 := h.field Try.underlying86 7 9 7 1 rfl (by kernel_rfl)
    clear h
    obtain ⟨x0, e0, z0⟩ := f0.string Try.underlying9
    obtain ⟨x1, e1, _⟩ := f1.int Try.underlying84
    obtain ⟨x2, A2, cap2, e2, z2⟩ := rd_strs f2
    obtain ⟨x3, e3, _⟩ := f3.int Try.underlying3
    obtain ⟨x4, e4, _⟩ := f4.int Try.underlying3
    obtain ⟨x5, e5, z5⟩ := f5.string Try.underlying9
    obtain ⟨x6, e6, z6⟩ := f6.string Try.underlying9
    obtain ⟨x7, e7, z7⟩ := f7.string Try.underlying9
    simp at e0 e1 e2 e3 e4 e5 e6 e7
    subst e0 e1 e2 e3 e4 e5 e6 e7
    exact ⟨⟨x0, x1, x2, x3, x4, x5, x6, x7⟩, A2, cap2, rfl, z2, z0, z5, z6, z7⟩
theorem rd_rules {cs : List Value} (h : Rd enc Try.prog w 54 cs) : ∃ l, SlOf w 8 RulR cs l :=
  Rd.slice Try.underlying54 (by kernel_rfl : Try.prog.cellsOf 86 = 8) (by decide) (of_decide_eq_true (by kernel_rfl)) (fun _ h => rd_rule h) h
theorem rd_tab {cs : List Value} (h : Rd enc Try.prog w 56 cs) : ∃ x, TabR w cs x := by
  obtain ⟨hl, _⟩ := h.struct Try.underlying56
  rw [show Try.prog.cellsOf 56 = 5 by kernel_rfl] at hl
  match cs, hl with
  | [c0, c1, c2, c3, c4], _ =>
    have f0 := h.field Try.underlying56 0 9 0 1 rfl (by kernel_rfl)
    have f1 := h.field Try.underlying56 1 9 1 1 rfl (by kernel_rfl)
    have f2 := h.field Try.underlying56 2 9 2 1 rfl (by kernel_rfl)
    have f3 := h.field Try.underlying56 3 53 3 1 rfl (by kernel_rfl)
    have f4 := h.field Try.underlying56 4 54 4 1 rfl (by kernel_rfl)
    clear h
    obtain ⟨x0, e0, z0⟩ := f0.string Try.underlying9
    obtain ⟨x1, e1, z1⟩ := f1.string Try.underlying9
    obtain ⟨x2, e2, z2⟩ := f2.string Try.underlying9
    obtain ⟨x3, A3, cap3, e3, z3⟩ := rd_cols f3
    obtain ⟨x4, A4, cap4, e4, z4⟩ := rd_rules f4
    simp at e0 e1 e2 e3 e4
    subst e0 e1 e2 e3 e4
    exact ⟨⟨x0, x1, x2, x3, x4⟩, A3, cap3, A4, cap4, rfl, z3, z4, z0, z1, z2⟩
theorem rd_tabs {cs : List Value} (h : Rd enc Try.prog w 43 cs) : ∃ l, SlOf w 5 TabR cs l :=
  Rd.slice Try.underlying43 (by kernel_rfl : Try.prog.cellsOf 56 = 5) (by decide) (of_decide_eq_true (by kernel_rfl)) (fun _ h => rd_tab h) h
theorem rd_sch {cs : List Value} (h : Rd enc Try.prog w 92 cs) : ∃ x, SchR w cs x := by
  obtain ⟨hl, _⟩ := h.struct Try.underlying92
  rw [show Try.prog.cellsOf 92 = 2 by kernel_rfl] at hl
  match cs, hl with
  | [c0, c1], _ =>
    have f0 := h.field Try.underlying92 0 9 0 1 rfl (by kernel_rfl)
    have f1 := h.field Try.underlying92 1 9 1 1 rfl (by kernel_rfl)
    clear h
    obtain ⟨x0, e0, z0⟩ := f0.string Try.underlying9
    obtain ⟨x1, e1, z1⟩ := f1.string Try.underlying9
    simp at e0 e1
    subst e0 e1
    exact ⟨⟨x0, x1⟩, rfl, z0, z1⟩
theorem rd_schs {cs : List Value} (h : Rd enc Try.prog w 42 cs) : ∃ l, SlOf w 2 SchR cs l :=
  Rd.slice Try.underlying42 (by kernel_rfl : Try.prog.cellsOf 92 = 2) (by decide) (of_decide_eq_true (by kernel_rfl)) (fun _ h => rd_sch h) h
theorem rd_objs {cs : List Value} (h : Rd enc Try.prog w 45 cs) : ∃ x, ObjR w cs x := by
  obtain ⟨hl, _⟩ := h.struct Try.underlying45
  rw [show Try.prog.cellsOf 45 = 2 by kernel_rfl] at hl
  match cs, hl with
  | [c0, c1], _ =>
    have f0 := h.field Try.underlying45 0 42 0 1 rfl (by kernel_rfl)
    have f1 := h.field Try.underlying45 1 43 1 1 rfl (by kernel_rfl)
    clear h
    obtain ⟨x0, A0, cap0, e0, z0⟩ := rd_schs f0
    obtain ⟨x1, A1, cap1, e1, z1⟩ := rd_tabs f1
    simp at e0 e1
    subst e0 e1
    exact ⟨⟨x0, x1⟩, A0, cap0, A1, cap1, rfl, z0, z1⟩
theorem own_knob : ownKnob Try.prog.godebug = none := by kernel_rfl
theorem laid_out : laidOutB Try.prog = true := by kernel_rfl
end
end Go.Proofs.Ytcdhljcpoopfaaa
/- How roles read as arguments. -/
namespace Go.Proofs.Ytcdhljcpoopfaaa
open Go.ChangeShapes Go.WideShapes Go.ChangeAt Go.RowKit
set_option maxRecDepth 100000
set_option linter.unusedVariables false
section
variable {H : Type} {enc : TypeId × Value → H} {w : World}
theorem rd_mbr {cs : List Value} (h : Rd enc Try.prog w 61 cs) : ∃ x, MbrR w cs x := by
  obtain ⟨hl, _⟩ := h.struct Try.underlying61
  rw [show Try.prog.cellsOf 61 = 2 by kernel_rfl] at hl
  match cs, hl with
  | [c0, c1], _ =>
    have f0 := h.field Try.underlying61 0 9 0 1 rfl (by kernel_rfl)
    have f1 := h.field Try.underlying61 1 9 1 1 rfl (by kernel_rfl)
    clear h
    obtain ⟨x0, e0, z0⟩ := rd_str f0
    obtain ⟨x1, e1, z1⟩ := rd_str f1
    simp at e0 e1
    subst e0 e1
    exact ⟨⟨x0, x1⟩, rfl, z0, z1⟩
theorem rd_mbrs {cs : List Value} (h : Rd enc Try.prog w 23 cs) : ∃ l, SlOf w 2 MbrR cs l :=
  Rd.slice Try.underlying23 (by kernel_rfl : Try.prog.cellsOf 61 = 2) (by decide) (of_decide_eq_true (by kernel_rfl)) (fun _ h => rd_mbr h) h
theorem rd_rols {cs : List Value} (h : Rd enc Try.prog w 25 cs) : ∃ (x : Rls) (A : Option Addr) (cap : Nat) (B : Option Addr) (capB : Nat), cs = [.slice A x.names.length cap, .slice B x.members.length capB] ∧ SlAt w 1 StrR A cap x.names ∧ SlAt w 2 MbrR B capB x.members := by
  obtain ⟨hl, _⟩ := h.struct Try.underlying25
  rw [show Try.prog.cellsOf 25 = 2 by kernel_rfl] at hl
  match cs, hl with
  | [c0, c1], _ =>
    have f0 := h.field Try.underlying25 0 22 0 1 rfl (by kernel_rfl)
    have f1 := h.field Try.underlying25 1 23 1 1 rfl (by kernel_rfl)
    clear h
    obtain ⟨x0, A0, cap0, e0, z0⟩ := rd_strs f0
    obtain ⟨x1, A1, cap1, e1, z1⟩ := rd_mbrs f1
    simp at e0 e1
    subst e0 e1
    exact ⟨⟨x0, x1⟩, A0, cap0, A1, cap1, rfl, z0, z1⟩
end
end Go.Proofs.Ytcdhljcpoopfaaa
/- The law RolesJoins, walked. -/
namespace Go.Proofs.Ytcdhljcpoopfaaa
open Go.RowKit Go.Deep
set_option maxRecDepth 100000
set_option linter.unusedVariables false
set_option maxHeartbeats 16000000 in
theorem law_joins8 (r : Rls) (An : Option Addr) (capn : Nat) (Am : Option Addr) (capm : Nat) (role of : ByteArray) (w : World) (hn : SlAt w 1 StrR An capn r.names) (hm : SlAt w 2 MbrR Am capm r.members) (hs1 : Small role.size) (hs2 : Small of.size) :
    Calls Try.prog 6 #[.agg #[.slice An r.names.length capn, .slice Am r.members.length capm], .string role, .string of] w fun e w' => e = .returned (.bool true) ∧ Aft w w' := by
  obtain ⟨bg, hbg⟩ : ∃ b, bigR r = b := ⟨_, rfl⟩
  obtain ⟨⟨X, g⟩, hX⟩ : ∃ F, chgF r (joinF ⟨role, of⟩ r) = F := ⟨_, rfl⟩
  obtain ⟨⟨Y, k⟩, hY⟩ : ∃ F, chgF r (leaveF ⟨role, of⟩ r) = F := ⟨_, rfl⟩
  have HSX := Lib.hid (show SmRl X from by have : SmRl (chgF r (joinF ⟨role, of⟩ r)).1 := sm_join (sm_rls hn hm) hs1 hs2; rw [hX] at this; exact this)
  have HSY := Lib.hid (show SmRl Y from by have : SmRl (chgF r (leaveF ⟨role, of⟩ r)).1 := sm_leave (sm_rls hn hm); rw [hY] at this; exact this)
  have CL := Lib.hid (show ∀ w', _ from fun w' => hbg ▸ large8 r An capn Am capm w')
  have HB := Lib.hid (show bg = false → r.names.length ≤ 1000 ∧ r.members.length ≤ 1000 from fun h => bigR_len (hbg.trans h))
  have C1 := Lib.hid (show ∀ w', Aft w w' → Calls Try.prog 23 #[.agg #[.slice An r.names.length capn, .slice Am r.members.length capm], .string role, .string of] w' (ChgP8 w' (X, g)) from fun w' a => hX ▸ join8 r An capn Am capm role of w' (strs_aft a hn) (mbrs_aft a hm) hs1 hs2)
  have C2 := Lib.hid (show ∀ w', Aft w w' → Calls Try.prog 25 #[.agg #[.slice An r.names.length capn, .slice Am r.members.length capm], .string role, .string of] w' (ChgP8 w' (Y, k)) from fun w' a => hY ▸ leave8 r An capn Am capm role of w' (strs_aft a hn) (mbrs_aft a hm))
  have D1 := Lib.hid (show ∀ (A : Option Addr) (ca : Nat) (A2 : Option Addr) (ca2 : Nat) (w' : World), SlAt w' 1 StrR A ca r.names → SlAt w' 2 MbrR A2 ca2 r.members → Calls Try.prog 24 #[.agg #[.slice A r.names.length ca, .slice A2 r.members.length ca2], .string role, .string of] w' (ChgP8 w' (X, g)) from fun A ca A2 ca2 w' s1 s2 => hX ▸ rjoin8 r A ca A2 ca2 role of w' s1 s2 hs1 hs2)
  have D2 := Lib.hid (show ∀ (A : Option Addr) (ca : Nat) (A2 : Option Addr) (ca2 : Nat) (w' : World), SlAt w' 1 StrR A ca r.names → SlAt w' 2 MbrR A2 ca2 r.members → Calls Try.prog 26 #[.agg #[.slice A r.names.length ca, .slice A2 r.members.length ca2], .string role, .string of] w' (ChgP8 w' (Y, k)) from fun A ca A2 ca2 w' s1 s2 => hY ▸ rleave8 r A ca A2 ca2 role of w' s1 s2)
  have HSM := Lib.hid (sm_rls hn hm)
  have HNM := Lib.hid (And.intro hn hm)
  have l1 : w.heap.size < w.heap.size + 1 := by omega
  obtain ⟨W, hW⟩ : ∃ W, W = w.alloc (.cells #[.slice An r.names.length capn, .slice Am r.members.length capm] 25) := ⟨_, rfl⟩
  have aW : Aft w W := by rw [hW]; exact (Aft.refl _).alloc _
  have BW := Lib.hid (show RowAt W w.heap.size [.slice An r.names.length capn, .slice Am r.members.length capm] by rw [hW]; exact rowAt_new8 w [.slice An r.names.length capn, .slice Am r.members.length capm] 25)
  have HAW := Lib.hid aW
  clear hbg hn hm hX hY aW
  go_enter Try.func6, Try.ntmps6
  go_wp2_with fail
  rw [← hW]
  clear hW
  refine (CL.out _).mono ?_
  rintro e w1 ⟨rfl, a1⟩
  have HA1 := Lib.hid a1
  clear a1 CL
  cases bg
  case true =>
    go_wp2_with fail
    go_ret
    exact ⟨rfl, HAW.out.trans HA1.out⟩
  have hb := HB.out (by first | trivial | rfl)
  have CO := Lib.hid (own8 r An capn Am capm w1 (strs_aft (HAW.out.trans HA1.out) HNM.out.1) (mbrs_aft (HAW.out.trans HA1.out) HNM.out.2) hb.1 hb.2)
  have c0 := (BW.out.aft HA1.out).cell (j := 0) rfl
  have c1 := (BW.out.aft HA1.out).cell (j := 1) rfl
  have cz := (BW.out.aft HA1.out).1
  clear hb HB
  go_wp2_with fail
  refine CO.out.mono ?_
  rintro e w2 ⟨⟨on, nn, cn⟩, ⟨om, nm, cm⟩, rfl, a2, rin⟩
  obtain rfl : nn = r.names.length := own_n rin.nam
  obtain rfl : nm = r.members.length := own_n rin.mem
  simp only [Hd.v]
  obtain ⟨W2, hW2⟩ : ∃ W2, W2 = w2.alloc (.cells #[.slice on r.names.length cn, .slice om r.members.length cm] 25) := ⟨_, rfl⟩
  have aW2 : Aft w2 W2 := by rw [hW2]; exact (Aft.refl _).alloc _
  have BW2 := Lib.hid (show RowAt W2 w2.heap.size [.slice on r.names.length cn, .slice om r.members.length cm] by rw [hW2]; exact rowAt_new8 w2 [.slice on r.names.length cn, .slice om r.members.length cm] 25)
  have HA2 := Lib.hid (HA1.out.trans a2)
  have HAW2 := Lib.hid ((HAW.out.trans HA2.out).trans aW2)
  have HBW2 := Lib.hid ((HA2.out).trans aW2)
  have HG1 := Lib.hid (strs_aft aW2 (rin.names HSM.out))
  have HG2 := Lib.hid (mbrs_aft aW2 (rin.mbrs HSM.out))
  have c0 := (BW.out.aft HA2.out).cell (j := 0) rfl
  have c1 := (BW.out.aft HA2.out).cell (j := 1) rfl
  have cz := (BW.out.aft HA2.out).1
  have cz' : w.heap.size < w2.heap.size + 1 := by omega
  clear a2 rin aW2 CO
  go_wp2_with fail
  rw [← hW2]
  clear hW2
  have HW2 := Lib.hid (Aft.refl W2)
  refine (C1.out W2 (HAW2.out.trans HW2.out)).mono ?_
  rintro e w3 ⟨⟨n3, j3, k3⟩, ⟨m3, i3, l3⟩, rfl, a3, rin⟩
  obtain rfl : j3 = X.names.length := own_n rin.nam
  obtain rfl : i3 = X.members.length := own_n rin.mem
  simp only [Hd.v]
  obtain ⟨W3, hW3⟩ : ∃ W3, W3 = w3.alloc (.cells #[.slice n3 X.names.length k3, .slice m3 X.members.length l3] 25) := ⟨_, rfl⟩
  have aW3 : Aft w3 W3 := by rw [hW3]; exact (Aft.refl _).alloc _
  have BW3 := Lib.hid (show RowAt W3 w3.heap.size [.slice n3 X.names.length k3, .slice m3 X.members.length l3] by rw [hW3]; exact rowAt_new8 w3 [.slice n3 X.names.length k3, .slice m3 X.members.length l3] 25)
  have HA3 := Lib.hid (HW2.out.trans a3)
  have HW3 := Lib.hid (HA3.out.trans aW3)
  have HV3 := Lib.hid aW3
  have S3 := Lib.hid (a3.trans aW3)
  have HZ3 := Lib.hid (show W2.heap.size ≤ w3.heap.size ∧ w3.heap.size < W3.heap.size from ⟨a3.size, by rw [hW3]; simp⟩)
  have HR3 := Lib.hid rin
  have c0 := (BW.out.aft (HBW2.out.trans HA3.out)).cell (j := 0) rfl
  have c1 := (BW.out.aft (HBW2.out.trans HA3.out)).cell (j := 1) rfl
  have cz := (BW.out.aft (HBW2.out.trans HA3.out)).1
  have cz' : w.heap.size < w3.heap.size + 1 := by omega
  have o0 := (BW2.out.aft HA3.out).cell (j := 0) rfl
  have o1 := (BW2.out.aft HA3.out).cell (j := 1) rfl
  have oz := (BW2.out.aft HA3.out).1
  have oz' : w2.heap.size < w3.heap.size + 1 := by omega
  clear a3 rin aW3
  go_wp2_with fail
  rw [← hW3]
  clear hW3
  refine (D1.out _ _ _ _ W3 (strs_aft HW3.out HG1.out) (mbrs_aft HW3.out HG2.out)).mono ?_
  rintro e w4 ⟨⟨n4, j4, k4⟩, ⟨m4, i4, l4⟩, rfl, a4, rin⟩
  obtain rfl : j4 = X.names.length := own_n rin.nam
  obtain rfl : i4 = X.members.length := own_n rin.mem
  simp only [Hd.v]
  obtain ⟨W4, hW4⟩ : ∃ W4, W4 = w4.alloc (.cells #[.slice n4 X.names.length k4, .slice m4 X.members.length l4] 25) := ⟨_, rfl⟩
  have aW4 : Aft w4 W4 := by rw [hW4]; exact (Aft.refl _).alloc _
  have BW4 := Lib.hid (show RowAt W4 w4.heap.size [.slice n4 X.names.length k4, .slice m4 X.members.length l4] by rw [hW4]; exact rowAt_new8 w4 [.slice n4 X.names.length k4, .slice m4 X.members.length l4] 25)
  have HA4 := Lib.hid (HW3.out.trans a4)
  have HW4 := Lib.hid (HA4.out.trans aW4)
  have HV4 := Lib.hid aW4
  have S4 := Lib.hid (a4.trans aW4)
  have HZ4 := Lib.hid (show W3.heap.size ≤ w4.heap.size ∧ w4.heap.size < W4.heap.size from ⟨a4.size, by rw [hW4]; simp⟩)
  have HR4 := Lib.hid rin
  have c0 := (BW.out.aft (HBW2.out.trans HA4.out)).cell (j := 0) rfl
  have c1 := (BW.out.aft (HBW2.out.trans HA4.out)).cell (j := 1) rfl
  have cz := (BW.out.aft (HBW2.out.trans HA4.out)).1
  have cz' : w.heap.size < w4.heap.size + 1 := by omega
  have o0 := (BW2.out.aft HA4.out).cell (j := 0) rfl
  have o1 := (BW2.out.aft HA4.out).cell (j := 1) rfl
  have oz := (BW2.out.aft HA4.out).1
  have oz' : w2.heap.size < w4.heap.size + 1 := by omega
  clear a4 rin aW4
  go_wp2_with fail
  rw [← hW4]
  clear hW4
  refine (C2.out W4 (HAW2.out.trans HW4.out)).mono ?_
  rintro e w5 ⟨⟨n5, j5, k5⟩, ⟨m5, i5, l5⟩, rfl, a5, rin⟩
  obtain rfl : j5 = Y.names.length := own_n rin.nam
  obtain rfl : i5 = Y.members.length := own_n rin.mem
  simp only [Hd.v]
  obtain ⟨W5, hW5⟩ : ∃ W5, W5 = w5.alloc (.cells #[.slice n5 Y.names.length k5, .slice m5 Y.members.length l5] 25) := ⟨_, rfl⟩
  have aW5 : Aft w5 W5 := by rw [hW5]; exact (Aft.refl _).alloc _
  have BW5 := Lib.hid (show RowAt W5 w5.heap.size [.slice n5 Y.names.length k5, .slice m5 Y.members.length l5] by rw [hW5]; exact rowAt_new8 w5 [.slice n5 Y.names.length k5, .slice m5 Y.members.length l5] 25)
  have HA5 := Lib.hid (HW4.out.trans a5)
  have HW5 := Lib.hid (HA5.out.trans aW5)
  have HV5 := Lib.hid aW5
  have S5 := Lib.hid (a5.trans aW5)
  have HZ5 := Lib.hid (show W4.heap.size ≤ w5.heap.size ∧ w5.heap.size < W5.heap.size from ⟨a5.size, by rw [hW5]; simp⟩)
  have HR5 := Lib.hid rin
  have c0 := (BW.out.aft (HBW2.out.trans HA5.out)).cell (j := 0) rfl
  have c1 := (BW.out.aft (HBW2.out.trans HA5.out)).cell (j := 1) rfl
  have cz := (BW.out.aft (HBW2.out.trans HA5.out)).1
  have cz' : w.heap.size < w5.heap.size + 1 := by omega
  have o0 := (BW2.out.aft HA5.out).cell (j := 0) rfl
  have o1 := (BW2.out.aft HA5.out).cell (j := 1) rfl
  have oz := (BW2.out.aft HA5.out).1
  have oz' : w2.heap.size < w5.heap.size + 1 := by omega
  clear a5 rin aW5
  go_wp2_with fail
  rw [← hW5]
  clear hW5
  refine (D2.out _ _ _ _ W5 (strs_aft HW5.out HG1.out) (mbrs_aft HW5.out HG2.out)).mono ?_
  rintro e w6 ⟨⟨n6, j6, k6⟩, ⟨m6, i6, l6⟩, rfl, a6, rin⟩
  obtain rfl : j6 = Y.names.length := own_n rin.nam
  obtain rfl : i6 = Y.members.length := own_n rin.mem
  simp only [Hd.v]
  obtain ⟨W6, hW6⟩ : ∃ W6, W6 = w6.alloc (.cells #[.slice n6 Y.names.length k6, .slice m6 Y.members.length l6] 25) := ⟨_, rfl⟩
  have aW6 : Aft w6 W6 := by rw [hW6]; exact (Aft.refl _).alloc _
  have BW6 := Lib.hid (show RowAt W6 w6.heap.size [.slice n6 Y.names.length k6, .slice m6 Y.members.length l6] by rw [hW6]; exact rowAt_new8 w6 [.slice n6 Y.names.length k6, .slice m6 Y.members.length l6] 25)
  have HA6 := Lib.hid (HW5.out.trans a6)
  have HW6 := Lib.hid (HA6.out.trans aW6)
  have HV6 := Lib.hid aW6
  have S6 := Lib.hid (a6.trans aW6)
  have HZ6 := Lib.hid (show W5.heap.size ≤ w6.heap.size ∧ w6.heap.size < W6.heap.size from ⟨a6.size, by rw [hW6]; simp⟩)
  have HR6 := Lib.hid rin
  have c0 := (BW.out.aft (HBW2.out.trans HA6.out)).cell (j := 0) rfl
  have c1 := (BW.out.aft (HBW2.out.trans HA6.out)).cell (j := 1) rfl
  have cz := (BW.out.aft (HBW2.out.trans HA6.out)).1
  have cz' : w.heap.size < w6.heap.size + 1 := by omega
  have o0 := (BW2.out.aft HA6.out).cell (j := 0) rfl
  have o1 := (BW2.out.aft HA6.out).cell (j := 1) rfl
  have oz := (BW2.out.aft HA6.out).1
  have oz' : w2.heap.size < w6.heap.size + 1 := by omega
  clear a6 rin aW6
  go_wp2_with fail
  rw [← hW6]
  clear hW6
  refine (joins8 W6).mono ?_
  rintro e w7 ⟨rfl, a7⟩
  have H67 := Lib.hid a7
  clear a7
  clear c0 c1 cz cz' o0 o1 oz oz' C1 C2 D1 D2
  have A67 := H67.out
  have A57 := S6.out.trans A67
  have A47 := S5.out.trans A57
  have A37 := S4.out.trans A47
  have A27 := S3.out.trans A37
  have R3 := (HR3.out.aft HV3.out).aft A37
  have R4 := (HR4.out.aft HV4.out).aft A47
  have R5 := (HR5.out.aft HV5.out).aft A57
  have R6 := (HR6.out.aft HV6.out).aft A67
  have lt3 := HR3.out.lt
  have zz3 := HZ3.out
  have zz4 := HZ4.out
  have zz5 := HZ5.out
  have zz6 := HZ6.out
  have HT1 := Lib.hid (told8 X r ⟨n3, X.names.length, k3⟩ ⟨m3, X.members.length, l3⟩ W2.heap.size n4 k4 m4 l4 An capn Am capm on cn om cm g W2 w7 R3 HSX.out (R4.names HSX.out) (R4.mbrs HSX.out) A27 (Nat.le_refl _) (strs_aft HAW2.out HNM.out.1) (mbrs_aft HAW2.out HNM.out.2) HG1.out HG2.out)
  have HALL := Lib.hid (show ∀ v : World, Kb (fun j => j ∈ (Hd.mk n3 X.names.length k3).blk ∨ j ∈ (Hd.mk m3 X.members.length l3).blk) w7 v →
      RowAt v w5.heap.size [.slice n5 Y.names.length k5, .slice m5 Y.members.length l5] ∧ RowAt v w6.heap.size [.slice n6 Y.names.length k6, .slice m6 Y.members.length l6] ∧ RowAt v w2.heap.size [.slice on r.names.length cn, .slice om r.members.length cm] ∧ RowAt v w.heap.size [.slice An r.names.length capn, .slice Am r.members.length capm] ∧ Hid (Aft W2 v) ∧
      Hid (Calls Try.prog 28 #[.agg #[.slice n5 Y.names.length k5, .slice m5 Y.members.length l5], .int .i64 k, .agg #[.slice n6 Y.names.length k6, .slice m6 Y.members.length l6], .int .i64 k, .agg #[.slice An r.names.length capn, .slice Am r.members.length capm], .agg #[.slice on r.names.length cn, .slice om r.members.length cm]] v fun e w' => e = .returned (.bool true) ∧ Kb (fun j => j ∈ (Hd.mk n5 Y.names.length k5).blk ∨ j ∈ (Hd.mk m5 Y.members.length l5).blk) v w') from fun v kb => by
    have a2v : Aft W2 v := kb.to_aft A27 (fun j hj hp => by have := (lt3 j hp).1; omega)
    have R5v := R5.kb kb (fun j hj hp => by have := (lt3 j hp).2; have := (R5.lt j hj).1; omega)
    have R6v := R6.kb kb (fun j hj hp => by have := (lt3 j hp).2; have := (R6.lt j hj).1; omega)
    refine ⟨kb.row (BW5.out.aft A57) (fun hp => by have := (lt3 _ hp).2; omega), kb.row (BW6.out.aft A67) (fun hp => by have := (lt3 _ hp).2; omega), BW2.out.aft a2v, BW.out.aft (HBW2.out.trans a2v), Lib.hid a2v, Lib.hid ?_⟩
    exact told8 Y r ⟨n5, Y.names.length, k5⟩ ⟨m5, Y.members.length, l5⟩ W4.heap.size n6 k6 m6 l6 An capn Am capm on cn om cm k W2 v R5v HSY.out (R6v.names HSY.out) (R6v.mbrs HSY.out) a2v (by omega) (strs_aft HAW2.out HNM.out.1) (mbrs_aft HAW2.out HNM.out.2) HG1.out HG2.out)
  have HL5 := Lib.hid (show ∀ j, (j ∈ (Hd.mk n5 Y.names.length k5).blk ∨ j ∈ (Hd.mk m5 Y.members.length l5).blk) → W2.heap.size ≤ j from fun j hj => by have := (R5.lt j hj).1; omega)
  have b3 := BW3.out.aft A37
  have b4 := BW4.out.aft A47
  have bo := BW2.out.aft A27
  have br := BW.out.aft (HBW2.out.trans A27)
  have p0 := b3.cell (j := 0) rfl
  have p1 := b3.cell (j := 1) rfl
  have p2 := b3.1
  have p3 := b4.cell (j := 0) rfl
  have p4 := b4.cell (j := 1) rfl
  have p5 := b4.1
  have o0 := bo.cell (j := 0) rfl
  have o1 := bo.cell (j := 1) rfl
  have oz := bo.1
  have c0 := br.cell (j := 0) rfl
  have c1 := br.cell (j := 1) rfl
  have cz := br.1
  clear A67 A57 A47 A37 A27 R3 R4 R5 R6 lt3 zz3 zz4 zz5 zz6 b3 b4 bo br
  go_wp2_with fail
  refine HT1.out.mono ?_
  rintro e w8 ⟨rfl, k8⟩
  obtain ⟨r5, r6, ro, rr, ha8, CT⟩ := HALL.out w8 k8
  have p0 := r5.cell (j := 0) rfl
  have p1 := r5.cell (j := 1) rfl
  have p2 := r5.1
  have p3 := r6.cell (j := 0) rfl
  have p4 := r6.cell (j := 1) rfl
  have p5 := r6.1
  have o0 := ro.cell (j := 0) rfl
  have o1 := ro.cell (j := 1) rfl
  have oz := ro.1
  have c0 := rr.cell (j := 0) rfl
  have c1 := rr.cell (j := 1) rfl
  have cz := rr.1
  clear k8 r5 r6 ro rr HT1 HALL
  go_wp2_with fail
  refine CT.out.mono ?_
  rintro e w9 ⟨rfl, k9⟩
  have HA9 := Lib.hid (HAW2.out.trans (k9.to_aft ha8.out (fun j hj hp => by have := HL5.out j hp; omega)))
  clear k9 CT
  go_wp2_with fail
  go_ret
  exact ⟨rfl, HA9.out⟩
end Go.Proofs.Ytcdhljcpoopfaaa
/- The law RolesGrow, walked. -/
namespace Go.Proofs.Ytcdhljcpoopfaaa
open Go.RowKit Go.Deep
set_option maxRecDepth 100000
set_option linter.unusedVariables false
theorem join_ok {r : Rls} {x : Mbr} (h : (chgF r (joinF x r)).2 = 0) : rightR r = true ∧ inB r.names x.role = true ∧ inB r.names x.of = true ∧ thereB cmpM r.members x = false ∧ reachB r.members x.of x.role = false ∧ chgF r (joinF x r) = ({ r with members := insAt r.members (posB cmpM r.members x) x }, 0) := by
  unfold chgF joinF at h ⊢
  cases hq : rightR r <;> cases h1 : inB r.names x.role <;> cases h2 : inB r.names x.of <;> cases h3 : thereB cmpM r.members x <;> cases h4 : reachB r.members x.of x.role <;> simp [hq, h1, h2, h3, h4] at h ⊢
set_option maxHeartbeats 16000000 in
theorem law_grow8 (r : Rls) (An : Option Addr) (capn : Nat) (Am : Option Addr) (capm : Nat) (role of other : ByteArray) (w : World) (hn : SlAt w 1 StrR An capn r.names) (hm : SlAt w 2 MbrR Am capm r.members) (hs1 : Small role.size) (hs2 : Small of.size) (hs3 : Small other.size) :
    Calls Try.prog 8 #[.agg #[.slice An r.names.length capn, .slice Am r.members.length capm], .string role, .string of, .string other] w fun e w' => e = .returned (.bool true) ∧ Aft w w' := by
  obtain ⟨bg, hbg⟩ : ∃ b, bigR r = b := ⟨_, rfl⟩
  obtain ⟨⟨X, g⟩, hX⟩ : ∃ F, chgF r (joinF ⟨role, of⟩ r) = F := ⟨_, rfl⟩
  have HSX := Lib.hid (show SmRl X from by have : SmRl (chgF r (joinF ⟨role, of⟩ r)).1 := sm_join (sm_rls hn hm) hs1 hs2; rw [hX] at this; exact this)
  have CL := Lib.hid (show ∀ w', _ from fun w' => hbg ▸ large8 r An capn Am capm w')
  have C1 := Lib.hid (show ∀ w', Aft w w' → Calls Try.prog 23 #[.agg #[.slice An r.names.length capn, .slice Am r.members.length capm], .string role, .string of] w' (ChgP8 w' (X, g)) from fun w' a => hX ▸ join8 r An capn Am capm role of w' (strs_aft a hn) (mbrs_aft a hm) hs1 hs2)
  obtain ⟨p1, hp1⟩ : ∃ p, isB r role other = p := ⟨_, rfl⟩
  obtain ⟨p2, hp2⟩ : ∃ p, isB r of other = p := ⟨_, rfl⟩
  obtain ⟨q1, hq1⟩ : ∃ p, isB X role other = p := ⟨_, rfl⟩
  have HG := Lib.hid (show g = 0 → rightR X = true ∧ chgF X (leaveF ⟨role, of⟩ X) = (r, 0) ∧ (p1 = true → q1 = true) ∧ (p2 = true → q1 = true) from fun hg => by
    obtain ⟨j1, j2, j3, j4, j5, j6⟩ := join_ok (r := r) (x := ⟨role, of⟩) (by rw [hX]; exact hg)
    have e : X = { r with members := insAt r.members (posB cmpM r.members ⟨role, of⟩) ⟨role, of⟩ } := by rw [hX] at j6; exact congrArg Prod.fst j6
    have k1 := right_join j1 j2 j3 j4 j5
    have k2 := join_is j1 j2 j3 j4 j5 other
    have k3 := leave_join (r := r) (x := ⟨role, of⟩) j1 j4
    rw [← e] at k1 k2 k3
    refine ⟨k1, ?_, fun h => ?_, fun h => ?_⟩
    · unfold chgF
      rw [k1, k3]; rfl
    · rw [← hq1]; exact k2.1 (hp1.trans h)
    · rw [← hq1]; exact k2.2 (hp2.trans h))
  have I1 := Lib.hid (show ∀ w', Aft w w' → Calls Try.prog 20 #[.agg #[.slice An r.names.length capn, .slice Am r.members.length capm], .string role, .string other] w' fun e w'' => e = .returned (.bool p1) ∧ Aft w' w'' from fun w' a => hp1 ▸ is8 r An capn Am capm role other w' (strs_aft a hn) (mbrs_aft a hm) hs1)
  have I2 := Lib.hid (show ∀ w', Aft w w' → Calls Try.prog 20 #[.agg #[.slice An r.names.length capn, .slice Am r.members.length capm], .string of, .string other] w' fun e w'' => e = .returned (.bool p2) ∧ Aft w' w'' from fun w' a => hp2 ▸ is8 r An capn Am capm of other w' (strs_aft a hn) (mbrs_aft a hm) hs2)
  have HQ := Lib.hid hq1
  have HNM := Lib.hid (And.intro hn hm)
  have HSM := Lib.hid (sm_rls hn hm)
  have HS1 := Lib.hid hs1
  have l1 : w.heap.size < w.heap.size + 1 := by omega
  obtain ⟨W, hW⟩ : ∃ W, W = w.alloc (.cells #[.slice An r.names.length capn, .slice Am r.members.length capm] 25) := ⟨_, rfl⟩
  have BW := Lib.hid (show RowAt W w.heap.size [.slice An r.names.length capn, .slice Am r.members.length capm] by rw [hW]; exact rowAt_new8 w [.slice An r.names.length capn, .slice Am r.members.length capm] 25)
  have HAW := Lib.hid (show Aft w W by rw [hW]; exact (Aft.refl _).alloc _)
  clear hbg hn hm hX hp1 hp2 hq1 hs1 hs2 hs3
  go_enter Try.func8, Try.ntmps8
  go_wp2_with fail
  rw [← hW]
  clear hW
  refine (CL.out _).mono ?_
  rintro e w1 ⟨rfl, a1⟩
  have HA1 := Lib.hid a1
  clear a1 CL
  cases bg
  case true =>
    go_wp2_with fail
    go_ret
    exact ⟨rfl, HAW.out.trans HA1.out⟩
  have c0 := (BW.out.aft HA1.out).cell (j := 0) rfl
  have c1 := (BW.out.aft HA1.out).cell (j := 1) rfl
  have cz := (BW.out.aft HA1.out).1
  go_wp2_with fail
  refine (C1.out w1 (HAW.out.trans HA1.out)).mono ?_
  rintro e w2 ⟨⟨n2, j2, k2⟩, ⟨m2, i2, l2⟩, rfl, a2, rin⟩
  obtain rfl : j2 = X.names.length := own_n rin.nam
  obtain rfl : i2 = X.members.length := own_n rin.mem
  simp only [Hd.v]
  obtain ⟨W2, hW2⟩ : ∃ W2, W2 = w2.alloc (.cells #[.slice n2 X.names.length k2, .slice m2 X.members.length l2] 25) := ⟨_, rfl⟩
  have aW2 : Aft w2 W2 := by rw [hW2]; exact (Aft.refl _).alloc _
  have BX := Lib.hid (show RowAt W2 w2.heap.size [.slice n2 X.names.length k2, .slice m2 X.members.length l2] by rw [hW2]; exact rowAt_new8 w2 [.slice n2 X.names.length k2, .slice m2 X.members.length l2] 25)
  have HA2 := Lib.hid ((HA1.out.trans a2).trans aW2)
  have HR2 := Lib.hid (rin.aft aW2)
  have c0 := (BW.out.aft (HA1.out.trans a2)).cell (j := 0) rfl
  have c1 := (BW.out.aft (HA1.out.trans a2)).cell (j := 1) rfl
  have cz := (BW.out.aft (HA1.out.trans a2)).1
  have cz' : w.heap.size < w2.heap.size + 1 := by omega
  clear a2 rin aW2 C1
  by_cases hg : g = 0
  case neg =>
    have hg2 : (g == 0) = false := by simpa using hg
    go_wp2_with fail
    rw [← hW2]
    clear hW2
    refine (joins8 W2).mono ?_
    rintro e w3 ⟨rfl, a3⟩
    have HA3 := Lib.hid (HAW.out.trans (HA2.out.trans a3))
    clear a3
    go_wp2_with fail
    refine (lawis8 w3).mono ?_
    rintro e w4 ⟨rfl, a4⟩
    have HA4 := Lib.hid (HA3.out.trans a4)
    clear a4
    go_wp2_with fail
    go_ret
    exact ⟨rfl, HA4.out⟩
  obtain ⟨g1, g2, g3, g4⟩ := HG.out hg
  subst hg
  have HQ1 := Lib.hid g3
  have HQ2 := Lib.hid g4
  have C2 := Lib.hid (show Calls Try.prog 25 #[.agg #[.slice n2 X.names.length k2, .slice m2 X.members.length l2], .string role, .string of] W2 (ChgP8 W2 (r, 0)) from g2 ▸ leave8 X n2 k2 m2 l2 role of W2 (HR2.out.names HSX.out) (HR2.out.mbrs HSX.out))
  have CK := Lib.hid (show ∀ w', Aft W2 w' → Calls Try.prog 12 #[.agg #[.slice n2 X.names.length k2, .slice m2 X.members.length l2]] w' fun e w'' => e = .returned (.int .i64 0) ∧ Aft w' w'' from
    fun w' a => (check8 X n2 k2 m2 l2 w' (strs_aft a (HR2.out.names HSX.out)) (mbrs_aft a (HR2.out.mbrs HSX.out))).mono fun e w'' ⟨he, hw⟩ => ⟨he.trans (by rw [g1]; rfl), hw⟩)
  have I3 := Lib.hid (show ∀ w', Aft W2 w' → Calls Try.prog 20 #[.agg #[.slice n2 X.names.length k2, .slice m2 X.members.length l2], .string role, .string other] w' fun e w'' => e = .returned (.bool q1) ∧ Aft w' w'' from fun w' a => HQ.out ▸ is8 X n2 k2 m2 l2 role other w' (strs_aft a (HR2.out.names HSX.out)) (mbrs_aft a (HR2.out.mbrs HSX.out)) HS1.out)
  clear g1 g2 g3 g4 HG HQ
  go_wp2_with fail
  rw [← hW2]
  clear hW2
  refine C2.out.mono ?_
  rintro e w3 ⟨⟨n3, j3, k3⟩, ⟨m3, i3, l3⟩, rfl, a3, rin⟩
  obtain rfl : j3 = r.names.length := own_n rin.nam
  obtain rfl : i3 = r.members.length := own_n rin.mem
  simp only [Hd.v]
  obtain ⟨W3, hW3⟩ : ∃ W3, W3 = w3.alloc (.cells #[.slice n3 r.names.length k3, .slice m3 r.members.length l3] 25) := ⟨_, rfl⟩
  have aW3 : Aft w3 W3 := by rw [hW3]; exact (Aft.refl _).alloc _
  have BY := Lib.hid (show RowAt W3 w3.heap.size [.slice n3 r.names.length k3, .slice m3 r.members.length l3] by rw [hW3]; exact rowAt_new8 w3 [.slice n3 r.names.length k3, .slice m3 r.members.length l3] 25)
  have A23 := a3.trans aW3
  have HA3 := Lib.hid (HA2.out.trans A23)
  have HA23 := Lib.hid A23
  have HR3 := Lib.hid (rin.aft aW3)
  have K := Lib.hid (show ∀ v, Aft W3 v → (v.cell? ⟨w.heap.size, 0, none⟩ = some (.slice An r.names.length capn) ∧ v.cell? ⟨w.heap.size, 1, none⟩ = some (.slice Am r.members.length capm) ∧ w.heap.size < v.heap.size) ∧ (v.cell? ⟨w2.heap.size, 0, none⟩ = some (.slice n2 X.names.length k2) ∧ v.cell? ⟨w2.heap.size, 1, none⟩ = some (.slice m2 X.members.length l2) ∧ w2.heap.size < v.heap.size) ∧ (v.cell? ⟨w3.heap.size, 0, none⟩ = some (.slice n3 r.names.length k3) ∧ v.cell? ⟨w3.heap.size, 1, none⟩ = some (.slice m3 r.members.length l3) ∧ w3.heap.size < v.heap.size) from fun v a => by
    have t1 := BW.out.aft (HA3.out.trans a)
    have t2 := BX.out.aft (A23.trans a)
    have t3 := BY.out.aft a
    exact ⟨⟨t1.cell (j := 0) rfl, t1.cell (j := 1) rfl, t1.1⟩, ⟨t2.cell (j := 0) rfl, t2.cell (j := 1) rfl, t2.1⟩, ⟨t3.cell (j := 0) rfl, t3.cell (j := 1) rfl, t3.1⟩⟩)
  have CS := Lib.hid (show ∀ v, Aft W3 v → Calls Try.prog 22 #[.agg #[.slice n3 r.names.length k3, .slice m3 r.members.length l3], .agg #[.slice An r.names.length capn, .slice Am r.members.length capm]] v fun e w' => e = .returned (.bool true) ∧ Aft v w' from fun v a => same8 r n3 k3 m3 l3 An capn Am capm v (strs_aft a (HR3.out.names HSM.out)) (mbrs_aft a (HR3.out.mbrs HSM.out)) (strs_aft (HAW.out.trans (HA3.out.trans a)) HNM.out.1) (mbrs_aft (HAW.out.trans (HA3.out.trans a)) HNM.out.2))
  have c0 := (BW.out.aft (HA2.out.trans a3)).cell (j := 0) rfl
  have c1 := (BW.out.aft (HA2.out.trans a3)).cell (j := 1) rfl
  have cz := (BW.out.aft (HA2.out.trans a3)).1
  have cz' : w.heap.size < w3.heap.size + 1 := by omega
  have x0 := (BX.out.aft a3).cell (j := 0) rfl
  have x1 := (BX.out.aft a3).cell (j := 1) rfl
  have xz := (BX.out.aft a3).1
  have xz' : w2.heap.size < w3.heap.size + 1 := by omega
  have HW33 := Lib.hid (Aft.refl W3)
  clear a3 rin aW3 A23 C2
  go_wp2_with fail
  rw [← hW3]
  clear hW3
  refine (I1.out _ (HAW.out.trans (HA3.out.trans HW33.out))).mono ?_
  rintro e v4 ⟨rfl, b4⟩
  have H4 := Lib.hid (HW33.out.trans b4)
  obtain ⟨⟨c0, c1, cz⟩, ⟨x0, x1, xz⟩, ⟨y0, y1, yz⟩⟩ := K.out _ H4.out
  clear b4
  cases p1
  · go_wp2_with fail
    refine (I2.out _ (HAW.out.trans (HA3.out.trans H4.out))).mono ?_
    rintro e v5 ⟨rfl, b5⟩
    have H5 := Lib.hid (H4.out.trans b5)
    obtain ⟨⟨c0, c1, cz⟩, ⟨x0, x1, xz⟩, ⟨y0, y1, yz⟩⟩ := K.out _ H5.out
    clear b5
    cases p2
    · go_wp2_with fail
      refine (joins8 _).mono ?_
      rintro e v6 ⟨rfl, b6⟩
      have H6 := Lib.hid (H5.out.trans b6)
      obtain ⟨⟨c0, c1, cz⟩, ⟨x0, x1, xz⟩, ⟨y0, y1, yz⟩⟩ := K.out _ H6.out
      clear b6
      go_wp2_with fail
      refine (lawis8 _).mono ?_
      rintro e v7 ⟨rfl, b7⟩
      have H7 := Lib.hid (H6.out.trans b7)
      obtain ⟨⟨c0, c1, cz⟩, ⟨x0, x1, xz⟩, ⟨y0, y1, yz⟩⟩ := K.out _ H7.out
      clear b7
      go_wp2_with fail
      refine (CK.out _ (HA23.out.trans H7.out)).mono ?_
      rintro e v8 ⟨rfl, b8⟩
      have H8 := Lib.hid (H7.out.trans b8)
      obtain ⟨⟨c0, c1, cz⟩, ⟨x0, x1, xz⟩, ⟨y0, y1, yz⟩⟩ := K.out _ H8.out
      clear b8
      go_wp2_with fail
      refine (CS.out _ H8.out).mono ?_
      rintro e v9 ⟨rfl, b9⟩
      have H9 := Lib.hid (H8.out.trans b9)
      obtain ⟨⟨c0, c1, cz⟩, ⟨x0, x1, xz⟩, ⟨y0, y1, yz⟩⟩ := K.out _ H9.out
      clear b9
      go_wp2_with fail
      go_ret
      exact ⟨rfl, HAW.out.trans (HA3.out.trans H9.out)⟩
    · have hq : q1 = true := HQ2.out (by first | trivial | rfl)
      subst hq
      go_wp2_with fail
      refine (I3.out _ (HA23.out.trans H5.out)).mono ?_
      rintro e v10 ⟨rfl, b10⟩
      have H10 := Lib.hid (H5.out.trans b10)
      obtain ⟨⟨c0, c1, cz⟩, ⟨x0, x1, xz⟩, ⟨y0, y1, yz⟩⟩ := K.out _ H10.out
      clear b10
      go_wp2_with fail
      refine (joins8 _).mono ?_
      rintro e v11 ⟨rfl, b11⟩
      have H11 := Lib.hid (H10.out.trans b11)
      obtain ⟨⟨c0, c1, cz⟩, ⟨x0, x1, xz⟩, ⟨y0, y1, yz⟩⟩ := K.out _ H11.out
      clear b11
      go_wp2_with fail
      refine (lawis8 _).mono ?_
      rintro e v12 ⟨rfl, b12⟩
      have H12 := Lib.hid (H11.out.trans b12)
      obtain ⟨⟨c0, c1, cz⟩, ⟨x0, x1, xz⟩, ⟨y0, y1, yz⟩⟩ := K.out _ H12.out
      clear b12
      go_wp2_with fail
      refine (CK.out _ (HA23.out.trans H12.out)).mono ?_
      rintro e v13 ⟨rfl, b13⟩
      have H13 := Lib.hid (H12.out.trans b13)
      obtain ⟨⟨c0, c1, cz⟩, ⟨x0, x1, xz⟩, ⟨y0, y1, yz⟩⟩ := K.out _ H13.out
      clear b13
      go_wp2_with fail
      refine (CS.out _ H13.out).mono ?_
      rintro e v14 ⟨rfl, b14⟩
      have H14 := Lib.hid (H13.out.trans b14)
      obtain ⟨⟨c0, c1, cz⟩, ⟨x0, x1, xz⟩, ⟨y0, y1, yz⟩⟩ := K.out _ H14.out
      clear b14
      go_wp2_with fail
      go_ret
      exact ⟨rfl, HAW.out.trans (HA3.out.trans H14.out)⟩
  · have hq : q1 = true := HQ1.out (by first | trivial | rfl)
    subst hq
    go_wp2_with fail
    refine (I3.out _ (HA23.out.trans H4.out)).mono ?_
    rintro e v15 ⟨rfl, b15⟩
    have H15 := Lib.hid (H4.out.trans b15)
    obtain ⟨⟨c0, c1, cz⟩, ⟨x0, x1, xz⟩, ⟨y0, y1, yz⟩⟩ := K.out _ H15.out
    clear b15
    go_wp2_with fail
    refine (I2.out _ (HAW.out.trans (HA3.out.trans H15.out))).mono ?_
    rintro e v16 ⟨rfl, b16⟩
    have H16 := Lib.hid (H15.out.trans b16)
    obtain ⟨⟨c0, c1, cz⟩, ⟨x0, x1, xz⟩, ⟨y0, y1, yz⟩⟩ := K.out _ H16.out
    clear b16
    cases p2
    · go_wp2_with fail
      refine (joins8 _).mono ?_
      rintro e v17 ⟨rfl, b17⟩
      have H17 := Lib.hid (H16.out.trans b17)
      obtain ⟨⟨c0, c1, cz⟩, ⟨x0, x1, xz⟩, ⟨y0, y1, yz⟩⟩ := K.out _ H17.out
      clear b17
      go_wp2_with fail
      refine (lawis8 _).mono ?_
      rintro e v18 ⟨rfl, b18⟩
      have H18 := Lib.hid (H17.out.trans b18)
      obtain ⟨⟨c0, c1, cz⟩, ⟨x0, x1, xz⟩, ⟨y0, y1, yz⟩⟩ := K.out _ H18.out
      clear b18
      go_wp2_with fail
      refine (CK.out _ (HA23.out.trans H18.out)).mono ?_
      rintro e v19 ⟨rfl, b19⟩
      have H19 := Lib.hid (H18.out.trans b19)
      obtain ⟨⟨c0, c1, cz⟩, ⟨x0, x1, xz⟩, ⟨y0, y1, yz⟩⟩ := K.out _ H19.out
      clear b19
      go_wp2_with fail
      refine (CS.out _ H19.out).mono ?_
      rintro e v20 ⟨rfl, b20⟩
      have H20 := Lib.hid (H19.out.trans b20)
      obtain ⟨⟨c0, c1, cz⟩, ⟨x0, x1, xz⟩, ⟨y0, y1, yz⟩⟩ := K.out _ H20.out
      clear b20
      go_wp2_with fail
      go_ret
      exact ⟨rfl, HAW.out.trans (HA3.out.trans H20.out)⟩
    · go_wp2_with fail
      refine (I3.out _ (HA23.out.trans H16.out)).mono ?_
      rintro e v21 ⟨rfl, b21⟩
      have H21 := Lib.hid (H16.out.trans b21)
      obtain ⟨⟨c0, c1, cz⟩, ⟨x0, x1, xz⟩, ⟨y0, y1, yz⟩⟩ := K.out _ H21.out
      clear b21
      go_wp2_with fail
      refine (joins8 _).mono ?_
      rintro e v22 ⟨rfl, b22⟩
      have H22 := Lib.hid (H21.out.trans b22)
      obtain ⟨⟨c0, c1, cz⟩, ⟨x0, x1, xz⟩, ⟨y0, y1, yz⟩⟩ := K.out _ H22.out
      clear b22
      go_wp2_with fail
      refine (lawis8 _).mono ?_
      rintro e v23 ⟨rfl, b23⟩
      have H23 := Lib.hid (H22.out.trans b23)
      obtain ⟨⟨c0, c1, cz⟩, ⟨x0, x1, xz⟩, ⟨y0, y1, yz⟩⟩ := K.out _ H23.out
      clear b23
      go_wp2_with fail
      refine (CK.out _ (HA23.out.trans H23.out)).mono ?_
      rintro e v24 ⟨rfl, b24⟩
      have H24 := Lib.hid (H23.out.trans b24)
      obtain ⟨⟨c0, c1, cz⟩, ⟨x0, x1, xz⟩, ⟨y0, y1, yz⟩⟩ := K.out _ H24.out
      clear b24
      go_wp2_with fail
      refine (CS.out _ H24.out).mono ?_
      rintro e v25 ⟨rfl, b25⟩
      have H25 := Lib.hid (H24.out.trans b25)
      obtain ⟨⟨c0, c1, cz⟩, ⟨x0, x1, xz⟩, ⟨y0, y1, yz⟩⟩ := K.out _ H25.out
      clear b25
      go_wp2_with fail
      go_ret
      exact ⟨rfl, HAW.out.trans (HA3.out.trans H25.out)⟩
end Go.Proofs.Ytcdhljcpoopfaaa
