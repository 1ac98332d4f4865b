/- roles.All and roles.Is: what a role is. -/
import Derived.Test.YtcdhljcpoopfaaaRol8
import Derived.Test.YtcdhljcpoopfaaaDelF
namespace Go.Proofs.Ytcdhljcpoopfaaa
open Go.RowKit Go.Deep
set_option maxRecDepth 100000
set_option linter.unusedVariables false
noncomputable def allE (r : Rls) (role : ByteArray) : Int := if rightR r then (if inB r.names role then 0 else 71) else 1
noncomputable def allL (r : Rls) (role : ByteArray) : List ByteArray := if rightR r && inB r.names role then r.names.filter (reachB r.members role) else []
noncomputable def isB (r : Rls) (a b : ByteArray) : Bool := rightR r && inB r.names a && inB (r.names.filter (reachB r.members a)) b
def AllP (r : Rls) (role : ByteArray) (w : World) (e : Ending) (w' : World) : Prop :=
  ∃ h : Hd, e = .returned (.tuple #[h.v, .int .i64 (allE r role)]) ∧ Aft w w' ∧ w'.ownsRow w.heap.size 9 1 h.v (allL r role).length ((allL r role).flatMap nameC)
theorem rightR_len {r : Rls} (h : rightR r = true) : r.names.length ≤ 16 ∧ r.members.length ≤ 256 := by
  unfold rightR at h
  simp only [Bool.and_eq_true, decide_eq_true_eq] at h
  exact ⟨h.1.1.1.1, h.1.1.1.2⟩
theorem allL_mem {r : Rls} {role x : ByteArray} (h : x ∈ allL r role) : x ∈ r.names := by
  unfold allL at h
  split at h
  · exact (List.mem_filter.1 h).1
  · simp at h
theorem allL_len (r : Rls) (role : ByteArray) : (allL r role).length ≤ r.names.length := by
  unfold allL
  split
  · exact List.length_filter_le _ _
  · simp
set_option maxHeartbeats 1000000 in
theorem all1 (x : ByteArray) (bx bf n : Nat) (c : Txt → Nat) (w : World) (hx : x.size ≤ maxLen) (hc : w.cell? ⟨bx, 0, none⟩ = some (.map (some bf))) (M : MapF Try.prog 9 w bf n (.int .i64 0) (cntV c)) :
    Calls Try.prog 56 (#[.string x] ++ #[.pointer (some ⟨bx, 0, none⟩)]) w fun e w' => e = .returned (.bool (decide (c (txt x) = 0))) ∧ Aft w w' := by
  have LK0 := M.look Try.underlying9 Try.underlying64 (zero_int w) x hx
  have hz : bx < w.heap.size := World.block_lt_of_cell? w ⟨bx, 0, none⟩ hc
  obtain ⟨k, hk⟩ : ∃ k, c (txt x) = k := ⟨_, rfl⟩
  have LK : (Instr.lookup 64 (.map (some bf)) (.string x) false).run Try.prog w = .ok (.int .i64 k) w := by rw [← hk]; exact LK0
  rw [hk]
  clear M hk LK0
  show Calls Try.prog 56 #[.string x, .pointer (some ⟨bx, 0, none⟩)] w _
  go_enter Try.func56, Try.ntmps56
  go_wp2_with fail
  go_ret
  refine ⟨Eq.trans (b := .returned (.bool _)) rfl (ret_of (bool_of ?_)), Aft.refl _⟩
  rw [Bool.eq_iff_iff]
  simp
set_option maxHeartbeats 8000000 in
theorem all8 (r : Rls) (An : Option Addr) (capn : Nat) (Am : Option Addr) (capm : Nat) (role : ByteArray) (w : World) (hn : SlAt w 1 StrR An capn r.names) (hm : SlAt w 2 MbrR Am capm r.members) (hrs : Small role.size) :
    Calls Try.prog 16 #[.agg #[.slice An r.names.length capn, .slice Am r.members.length capm], .string role] w (AllP r role w) := by
  have hlen := hn.len
  have l1 : w.heap.size < w.heap.size + 1 := by omega
  obtain ⟨W, hW⟩ : ∃ W, W = w.alloc (.cells #[.slice An r.names.length capn, .slice Am r.members.length capm] 25) := ⟨_, rfl⟩
  have aW : Aft w W := by rw [hW]; exact (Aft.refl w).alloc _
  have r0 : ∀ w', Aft W w' → (w'.cell? ⟨w.heap.size, 0, none⟩ = some (.slice An r.names.length capn) ∧ w'.cell? ⟨w.heap.size, 1, none⟩ = some (.slice Am r.members.length capm) ∧ w.heap.size < w'.heap.size) := fun w' a => by
    rw [hW] at a
    obtain ⟨hb, _, hz, _, _⟩ := aft_box a
    exact ⟨by rw [hb]; rfl, by rw [hb]; rfl, hz.1⟩
  obtain ⟨q, hq⟩ : ∃ q, rightR r = q := ⟨_, rfl⟩
  obtain ⟨i, hi⟩ : ∃ i, inB r.names role = i := ⟨_, rfl⟩
  have C1 := Lib.hid (fun w' (a : Aft w w') => hq ▸ right8 r An capn Am capm w' (strs_aft a hn) (mbrs_aft a hm))
  have C2 := Lib.hid (show ∀ w', Aft w w' → Calls Try.prog 52 #[.slice An r.names.length capn, .string role] w' fun e w'' => e = .returned (.bool i) ∧ w' = w'' from fun w' a => hi ▸ scont8 An capn r.names role w' (strs_aft a hn))
  have C3 := Lib.hid (fun w' (a : Aft w w') => seen_in r An capn Am capm role w' (mbrs_aft a hm) hrs)
  have HE := Lib.hid (show allE r role = if q then (if i then 0 else 71) else 1 by unfold allE; rw [hq, hi])
  have HL := Lib.hid (show allL r role = if q && i then r.names.filter (reachB r.members role) else [] by unfold allL; rw [hq, hi])
  have HB := Lib.hid (show q = true → r.names.length ≤ 16 from fun h => (rightR_len (by rw [hq]; exact h)).1)
  have HSM := Lib.hid (sm_names hn)
  have HR0 := Lib.hid r0
  have HAW := Lib.hid aW
  have HN := Lib.hid hn
  clear hq hi r0 aW hn hm
  go_enter Try.func16, Try.ntmps16
  go_wp2_with fail
  rw [← hW]
  clear hW
  refine (C1.out W HAW.out).mono ?_
  rintro e w1 ⟨rfl, a1⟩
  have HA1 := Lib.hid a1
  obtain ⟨e0, e1, e2⟩ := HR0.out w1 a1
  clear a1
  cases q
  · have HP := Lib.hid (show AllP r role w (.returned (.tuple #[.slice none 0 0, .int .i64 1])) w1 from ⟨⟨none, 0, 0⟩, by rw [HE.out]; rfl, HAW.out.trans HA1.out, by rw [HL.out]; exact own_nil _ _ _ _⟩)
    go_wp2_with fail
    go_ret2
    exact HP.out
  go_wp2_with fail
  refine (C2.out w1 (HAW.out.trans HA1.out)).mono ?_
  rintro e w2 ⟨rfl, rfl⟩
  cases i
  · have HP := Lib.hid (show AllP r role w (.returned (.tuple #[.slice none 0 0, .int .i64 71])) w1 from ⟨⟨none, 0, 0⟩, by rw [HE.out]; rfl, HAW.out.trans HA1.out, by rw [HL.out]; exact own_nil _ _ _ _⟩)
    go_wp2_with fail
    go_ret2
    exact HP.out
  go_wp2_with fail
  refine (C3.out w1 (HAW.out.trans HA1.out)).mono ?_
  rintro e w3 ⟨bf, rfl, a3, c, nc, M, bd, hr⟩
  obtain ⟨X, hX⟩ : ∃ X, X = w3.alloc (.cells #[.map (some bf)] 64) := ⟨_, rfl⟩
  have aX : Aft w3 X := by rw [hX]; exact (Aft.refl w3).alloc _
  have xc : X.cell? ⟨w3.heap.size, 0, none⟩ = some (.map (some bf)) := by rw [hX]; simp
  have aWX := ((HAW.out.trans HA1.out).trans a3).trans aX
  clear e0 e1 e2
  obtain ⟨e0, e1, e2⟩ := HR0.out w3 (HA1.out.trans a3)
  have l3 : w.heap.size < w3.heap.size + 1 := by omega
  have C4 := Lib.hid (clone2Str An capn r.names X X (Aft.refl _) (strs_aft aWX HN.out) (by have := HB.out (by first | trivial | rfl); omega))
  have HM := Lib.hid (And.intro (M.aft aX) (And.intro xc (And.intro aWX (And.intro hr (show w3.heap.size < X.heap.size by rw [hX]; simp)))))
  clear M bd hr aX a3 aWX xc
  go_wp2_with fail
  rw [← hX]
  clear hX
  refine C4.out.mono ?_
  rintro e w4 ⟨v, css, rfl, a4, ho, hch⟩
  rw [flat_names hch] at ho
  obtain ⟨A2, cap2, hv⟩ := own_lit ho
  subst hv
  obtain ⟨M, xc, aWX, hr, hXs⟩ := HM.out
  have hWX := aWX.size
  have hent := enters (P := Try.prog) Try.func56 (by kernel_rfl) rfl
  have C5 := Lib.hid (delFS (.slice A2 r.names.length cap2) r.names 56 #[.pointer (some ⟨w3.heap.size, 0, none⟩)] (fun x => decide (c (txt x) = 0)) X.heap.size w4 ho HSM.out.1 (own_cap ho) HSM.out.2 hent (fun w' kb x hx => by
    have h1 : ¬ InV (.slice A2 r.names.length cap2) bf := not_in ho M.lt
    have h2 : ¬ InV (.slice A2 r.names.length cap2) w3.heap.size := not_in ho hXs
    exact all1 x w3.heap.size bf nc c w' hx.max (kb.cell (a4.cell_kept xc) h2) ((M.aft a4).kb kb h1)))
  have HK := Lib.hid (show ∀ w', Kb (InV (.slice A2 r.names.length cap2)) w4 w' → Aft w w' from fun w' kb => kb.to_aft (aWX.trans a4) (fun g hg => not_in ho (by omega)))
  have HF := Lib.hid (show (r.names.filter fun x => !decide (c (txt x) = 0)) = allL r role from by
    rw [HL.out]
    simp only [Bool.and_self, if_true]
    refine List.filter_congr fun x _ => ?_
    unfold reachB
    have := hr (txt x)
    by_cases h : Reach r.members (txt role) (txt x)
    · have := this.2 h
      simp [h]; omega
    · have : ¬ 0 < c (txt x) := fun h2 => h (this.1 h2)
      simp [h]; omega)
  have HWX := Lib.hid hWX
  clear M xc aWX hr hXs hWX hent a4 ho hch
  go_wp2_with fail
  refine C5.out.mono ?_
  rintro e w5 ⟨h, rfl, ho, kb, hblk⟩
  rw [HF.out] at ho
  have HP := Lib.hid (show AllP r role w (.returned (.tuple #[h.v, .int .i64 0])) w5 from ⟨h, by rw [HE.out]; rfl, HK.out w5 kb, own_down ho HWX.out⟩)
  clear ho kb hblk
  go_wp2_with fail
  go_ret2
  exact HP.out
set_option maxHeartbeats 4000000 in
theorem is8 (r : Rls) (An : Option Addr) (capn : Nat) (Am : Option Addr) (capm : Nat) (a b : ByteArray) (w : World) (hn : SlAt w 1 StrR An capn r.names) (hm : SlAt w 2 MbrR Am capm r.members) (hrs : Small a.size) :
    Calls Try.prog 20 #[.agg #[.slice An r.names.length capn, .slice Am r.members.length capm], .string a, .string b] w fun e w' => e = .returned (.bool (isB r a b)) ∧ Aft w w' := by
  have C1 := Lib.hid (fun w' (x : Aft w w') => all8 r An capn Am capm a w' (strs_aft x hn) (mbrs_aft x hm) hrs)
  have HSM := Lib.hid (sm_names hn)
  obtain ⟨q, hq⟩ : ∃ q, rightR r = q := ⟨_, rfl⟩
  obtain ⟨i, hi⟩ : ∃ i, inB r.names a = i := ⟨_, rfl⟩
  have HE := Lib.hid (show allE r a = if q then (if i then 0 else 71) else 1 by unfold allE; rw [hq, hi])
  have HI := Lib.hid (show isB r a b = (q && i && inB (allL r a) b) by unfold isB allL; rw [hq, hi]; cases q <;> cases i <;> rfl)
  clear hq hi hn hm
  go_enter Try.func20, Try.ntmps20
  go_wp2_with fail
  refine (C1.out _ ((Aft.refl w).alloc _)).mono ?_
  rintro e w1 ⟨h, rfl, a1, ho⟩
  have HA := Lib.hid (((Aft.refl w).alloc _).trans a1)
  obtain ⟨bb, hbb⟩ : ∃ bb, inB (allL r a) b = bb := ⟨_, rfl⟩
  have C2 := Lib.hid (show Calls Try.prog 52 #[h.v, .string b] w1 fun e w'' => e = .returned (.bool bb) ∧ w1 = w'' from by
    rw [own_slice ho]
    refine (scont8 h.a h.c (allL r a) b w1 (own_slf nameC ho (fun x hx => ⟨rfl, rfl, HSM.out.2 x (allL_mem hx)⟩) ?_)).mono fun e w'' ⟨he, hw⟩ => ⟨he.trans (by rw [← hbb]; rfl), hw⟩
    have := HSM.out.1
    have := allL_len r a
    unfold Small at *; omega)
  rw [HE.out]
  rw [hbb] at HI
  clear a1 ho hbb
  cases q
  · go_wp2_with fail
    go_ret
    exact ⟨by rw [HI.out]; rfl, HA.out⟩
  cases i
  · go_wp2_with fail
    go_ret
    exact ⟨by rw [HI.out]; rfl, HA.out⟩
  go_wp2_with fail
  refine C2.out.mono ?_
  rintro e w2 ⟨rfl, rfl⟩
  go_wp2_with fail
  go_ret
  exact ⟨by rw [HI.out]; rfl, HA.out⟩
end Go.Proofs.Ytcdhljcpoopfaaa
