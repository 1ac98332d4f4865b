/- roles.right: roles are right, or are not. -/
import Derived.Test.YtcdhljcpoopfaaaRis8
import Derived.Test.YtcdhljcpoopfaaaSIdx0
import Derived.Test.YtcdhljcpoopfaaaName
import Derived.Test.YtcdhljcpoopfaaaCmpLaw
import Derived.Deep.RegionHeld3
namespace Go.Proofs.Ytcdhljcpoopfaaa
open Go.RowKit Go.Deep
set_option maxRecDepth 100000
set_option linter.unusedVariables false
theorem idxP_any8 {α : Type} (p : α → Bool) (l : List α) : decide (0 ≤ idxP p l) = l.any p := by
  induction l with
  | nil => rfl
  | cons x l ih =>
    rw [List.any_cons, ← ih]
    show decide (0 ≤ (if p x then (0 : Int) else if idxP p l < 0 then -1 else idxP p l + 1)) = _
    cases h : p x
    · simp only [Bool.false_or]
      by_cases h2 : idxP p l < 0
      · simp [h2]
      · simp [h2]; omega
    · simp
set_option maxHeartbeats 1000000 in
theorem scont8 (A : Option Addr) (cap : Nat) (l : List ByteArray) (name : ByteArray) (w : World) (h : SlAt w 1 StrR A cap l) :
    Calls Try.prog 52 #[.slice A l.length cap, .string name] w fun e w' => e = .returned (.bool (l.any fun c => eqS c name)) ∧ w = w' := by
  have C := Lib.hid (sidx_any A cap l name w h)
  have HE := Lib.hid (idxP_any8 (fun c => eqS c name) l)
  obtain ⟨i, hi⟩ : ∃ i, idxP (fun c => eqS c name) l = i := ⟨_, rfl⟩
  rw [hi] at C HE
  clear hi
  go_enter Try.func52, Try.ntmps52
  go_wp2_with fail
  refine C.out.mono ?_
  rintro e w1 ⟨rfl, rfl⟩
  go_wp2_with fail
  go_ret
  exact ⟨by rw [← HE.out]; rfl, rfl⟩
open Classical in
/-- can t be reached from s? -/
noncomputable def reachB (ms : List Mbr) (s t : ByteArray) : Bool := decide (Reach ms (txt s) (txt t))
def inB (l : List ByteArray) (s : ByteArray) : Bool := l.any fun c => eqS c s
noncomputable def mbrOk (r : Rls) (m : Mbr) : Bool := inB r.names m.role && inB r.names m.of && !reachB r.members m.of m.role
noncomputable def rightR (r : Rls) : Bool := decide (r.names.length ≤ 16) && decide (r.members.length ≤ 256) && risesB cmpS r.names && risesB cmpM r.members && (r.names.all nameB && r.members.all (mbrOk r))
theorem cmpM_anti (a b : Mbr) : cmpM a b = - cmpM b a := by
  unfold cmpM or2
  have h1 := cmpS_anti a.role b.role
  have h2 := cmpS_anti a.of b.of
  by_cases e : cmpS a.role b.role = 0
  · have e2 : cmpS b.role a.role = 0 := by omega
    simp [e, e2]; exact h2
  · have e2 : ¬ cmpS b.role a.role = 0 := by omega
    simp [e, e2]; exact h1
/-- seen(r, m.Of)[m.Role] > 0 -/
theorem saw_look {w w' : World} {ms : List Mbr} {s' : ByteArray} {bf : Nat} {c : Txt → Nat} {n : Nat} (M : MapF Try.prog 9 w bf n (.int .i64 0) (cntV c)) (a : Aft w w') (hc : ∀ s, 0 < c s ↔ Reach ms (txt s') s) (t : ByteArray) (ht : t.size ≤ maxLen) :
    (Instr.lookup 64 (.map (some bf)) (.string t) false).run Try.prog w' = .ok (.int .i64 (c (txt t))) w' ∧ decide ((0 : Int) < c (txt t)) = reachB ms s' t :=
  ⟨(M.aft a).look Try.underlying9 Try.underlying64 (zero_int w') t ht, by
    unfold reachB
    have := hc (txt t)
    by_cases h : Reach ms (txt s') (txt t)
    · simp [h, this.2 h]
    · have h2 : ¬ 0 < c (txt t) := fun h3 => h (this.1 h3)
      simp [h]; omega⟩
set_option maxHeartbeats 8000000 in
theorem right8 (r : Rls) (An : Option Addr) (capn : Nat) (Am : Option Addr) (capm : Nat) (w : World) (hn : SlAt w 1 StrR An capn r.names) (hm : SlAt w 2 MbrR Am capm r.members) :
    Calls Try.prog 47 #[.agg #[.slice An r.names.length capn, .slice Am r.members.length capm]] w fun e w' => e = .returned (.bool (rightR r)) ∧ Aft w w' := by
  have hlen := hn.len
  have hlen2 := hm.len
  have l1 : w.heap.size < w.heap.size + 1 := by omega
  by_cases h1 : r.names.length ≤ 16
  case neg =>
    have HF := Lib.hid (show rightR r = false by unfold rightR; simp [h1])
    have hi : (16 : Int) < (r.names.length : Int) := by omega
    go_enter Try.func47, Try.ntmps47
    go_wp2_with fail
    go_ret
    exact ⟨by rw [HF.out]; rfl, (Aft.refl _).alloc _⟩
  by_cases h2 : r.members.length ≤ 256
  case neg =>
    have HF := Lib.hid (show rightR r = false by unfold rightR; simp [h2])
    have hi : ¬ (16 : Int) < (r.names.length : Int) := by omega
    have hi2 : (256 : Int) < (r.members.length : Int) := by omega
    go_enter Try.func47, Try.ntmps47
    go_wp2_with fail
    go_ret
    exact ⟨by rw [HF.out]; rfl, (Aft.refl _).alloc _⟩
  have hi : ¬ (16 : Int) < (r.names.length : Int) := by omega
  have hi2 : ¬ (256 : Int) < (r.members.length : Int) := by omega
  obtain ⟨W, hW⟩ : ∃ W, W = w.alloc (.cells #[.slice An r.names.length capn, .slice Am r.members.length capm] 25) := ⟨_, rfl⟩
  have aW : Aft w W := by rw [hW]; exact (Aft.refl w).alloc _
  have r0 : ∀ w', Aft W w' → (w'.cell? ⟨w.heap.size, 0, none⟩ = some (.slice An r.names.length capn) ∧ w'.cell? ⟨w.heap.size, 1, none⟩ = some (.slice Am r.members.length capm) ∧ w.heap.size < w'.heap.size) := fun w' a => by
    rw [hW] at a
    obtain ⟨hb, _, hz, _, _⟩ := aft_box a
    exact ⟨by rw [hb]; rfl, by rw [hb]; rfl, hz.1⟩
  have hentC := enters (P := Try.prog) Try.func82 (by kernel_rfl) rfl
  have hentO := enters (P := Try.prog) Try.func60 (by kernel_rfl) rfl
  have C1 := Lib.hid (fun w' (a : Aft w w') => risingS An capn r.names 82 #[] cmpS w' (strs_aft a hn) (by omega) cmpS_anti hentC fun w'' x y _ => (compare_any x y w'').mono fun e w3 ⟨he, hw⟩ => ⟨he, hw ▸ Aft.refl _⟩)
  have C2 := Lib.hid (fun w' (a : Aft w w') => risingM Am capm r.members 60 #[] cmpM w' (mbrs_aft a hm) (by omega) cmpM_anti hentO fun w'' x y _ => order8 x y w'')
  obtain ⟨b1, hb1⟩ : ∃ b, risesB cmpS r.names = b := ⟨_, rfl⟩
  obtain ⟨b2, hb2⟩ : ∃ b, risesB cmpM r.members = b := ⟨_, rfl⟩
  rw [hb1] at C1
  rw [hb2] at C2
  have HRT := Lib.hid (show rightR r = (b1 && b2 && (r.names.all nameB && r.members.all (mbrOk r))) by unfold rightR; simp [h1, h2, hb1, hb2])
  have HR0 := Lib.hid r0
  have HAW := Lib.hid aW
  have HNM := Lib.hid (And.intro hn hm)
  clear hb1 hb2 r0 aW hn hm
  go_enter Try.func47, Try.ntmps47
  go_wp2_with fail
  rw [← hW]
  clear hW
  refine (C1.out W HAW.out).mono ?_
  rintro e w1 ⟨rfl, a1⟩
  have HA1 := Lib.hid a1
  obtain ⟨e0, e1, e2⟩ := HR0.out w1 a1
  clear a1
  cases b1
  · have HF := Lib.hid (show rightR r = false by rw [HRT.out]; rfl)
    go_wp2_with fail
    go_ret
    exact ⟨by rw [HF.out]; rfl, HAW.out.trans HA1.out⟩
  go_wp2_with fail
  refine (C2.out w1 (HAW.out.trans HA1.out)).mono ?_
  rintro e w2 ⟨rfl, a2⟩
  have HA2 := Lib.hid (HA1.out.trans a2)
  clear a2 e0 e1 e2
  obtain ⟨e0, e1, e2⟩ := HR0.out w2 HA2.out
  cases b2
  · have HF := Lib.hid (show rightR r = false by rw [HRT.out]; rfl)
    go_wp2_with fail
    go_ret
    exact ⟨by rw [HF.out]; rfl, HAW.out.trans HA2.out⟩
  go_wp2_with fail
  go_loopw [32] (fun i wr => ∃ k : Nat, k ≤ r.names.length ∧ i = .int .i64 k ∧ Aft W wr ∧ ∀ j, j < k → ∀ (hj : j < r.names.length), nameB r.names[j] = true) (fun i _ => r.names.length - (intOf i).toNat)
  case atStart => exact ⟨0, Nat.zero_le _, rfl, HA2.out, fun j hj => absurd hj (Nat.not_lt_zero j)⟩
  case round =>
    clear e0 e1 e2
    obtain ⟨k, hk, rfl, ha, hp⟩ := hrel
    have HA := Lib.hid ha
    have HP := Lib.hid hp
    obtain ⟨e0, e1, e2⟩ := HR0.out wr ha
    clear ha hp
    by_cases hlt : k < r.names.length
    · obtain ⟨b, off, rfl, hb, c0, hs⟩ := str_at (strs_aft (HAW.out.trans HA.out) HNM.out.1) hlt
      obtain ⟨x, hx⟩ : ∃ x, r.names[k] = x := ⟨_, rfl⟩
      rw [hx] at c0 hs
      obtain ⟨q, hq⟩ : ∃ q, nameB x = q := ⟨_, rfl⟩
      have HQ := Lib.hid (show nameB r.names[k] = q by rw [hx]; exact hq)
      have CN := Lib.hid (hq ▸ name_any x wr hs.max)
      clear hx hq
      go_wp2_with fail
      refine CN.out.mono ?_
      rintro e w3 ⟨rfl, rfl⟩
      cases q
      · have HF := Lib.hid (show rightR r = false by rw [HRT.out, all_false _ _ k hlt HQ.out]; rfl)
        go_wp2_with fail
        go_ret
        exact ⟨by rw [HF.out]; rfl, HAW.out.trans HA.out⟩
      · go_wp2_with fail
        go_roundw
        case rel => exact ⟨k + 1, by omega, by go_num, HA.out, ext_lt (p := fun j => ∀ (hj : j < r.names.length), nameB r.names[j] = true) HP.out (fun _ => HQ.out)⟩
        case measure => simp [intOf]; omega
    · have HN := Lib.hid (show r.names.all nameB = true from all_true _ _ fun j hj => HP.out j (by omega) hj)
      go_wp2_with fail
      go_loopw [43] (fun i wr => ∃ k : Nat, k ≤ r.members.length ∧ i = .int .i64 k ∧ Aft W wr ∧ ∀ j, j < k → ∀ (hj : j < r.members.length), mbrOk r r.members[j] = true) (fun i _ => r.members.length - (intOf i).toNat)
      case atStart => exact ⟨0, Nat.zero_le _, rfl, HA.out, fun j hj => absurd hj (Nat.not_lt_zero j)⟩
      case round =>
        clear e0 e1 e2
        obtain ⟨k, hk, rfl, ha, hp⟩ := hrel
        have HA := Lib.hid ha
        have HP := Lib.hid hp
        obtain ⟨e0, e1, e2⟩ := HR0.out wr ha
        clear ha hp
        by_cases hlt : k < r.members.length
        · obtain ⟨b, off, rfl, hb, t0, t1, hs1, hs2⟩ := mbr_at (mbrs_aft (HAW.out.trans HA.out) HNM.out.2) hlt
          obtain ⟨m, hmm⟩ : ∃ m, r.members[k] = m := ⟨_, rfl⟩
          rw [hmm] at t0 t1 hs1 hs2
          obtain ⟨X, hX⟩ : ∃ X, X = wr.alloc (.cells #[.string m.role, .string m.of] 61) := ⟨_, rfl⟩
          have aX : Aft wr X := by rw [hX]; exact (Aft.refl _).alloc _
          have x0 : X.cell? ⟨wr.heap.size, 0, none⟩ = some (.string m.role) := by rw [hX]; simp
          have x1 : X.cell? ⟨wr.heap.size, 1, none⟩ = some (.string m.of) := by rw [hX]; simp
          have x2 : wr.heap.size < X.heap.size := by rw [hX]; simp
          have x3 : w.heap.size < X.heap.size := by omega
          have x4 := aX.cell_kept e0
          have x5 := aX.cell_kept e1
          have HWX := Lib.hid ((HAW.out.trans HA.out).trans aX)
          have HWX2 := Lib.hid (HA.out.trans aX)
          have HMM := Lib.hid hmm
          obtain ⟨i1, hi1⟩ : ∃ i, inB r.names m.role = i := ⟨_, rfl⟩
          obtain ⟨i2, hi2'⟩ : ∃ i, inB r.names m.of = i := ⟨_, rfl⟩
          have K1 := Lib.hid (show ∀ w', Aft X w' → Calls Try.prog 52 #[.slice An r.names.length capn, .string m.role] w' fun e w'' => e = .returned (.bool i1) ∧ w' = w'' from fun w' a => hi1 ▸ scont8 An capn r.names m.role w' (strs_aft (HWX.out.trans a) HNM.out.1))
          have K2 := Lib.hid (show ∀ w', Aft X w' → Calls Try.prog 52 #[.slice An r.names.length capn, .string m.of] w' fun e w'' => e = .returned (.bool i2) ∧ w' = w'' from fun w' a => hi2' ▸ scont8 An capn r.names m.of w' (strs_aft (HWX.out.trans a) HNM.out.1))
          have K3 := Lib.hid (show ∀ w', Aft X w' → Calls Try.prog 53 #[.agg #[.slice An r.names.length capn, .slice (some ⟨b, off, none⟩) r.members.length capm], .string m.of] w' (SawP w' r.members m.of) from fun w' a => seen_in r An capn _ capm m.of w' (mbrs_aft (HWX.out.trans a) HNM.out.2) hs2)
          have HOK := Lib.hid (show mbrOk r r.members[k] = (i1 && i2 && !reachB r.members m.of m.role) by unfold mbrOk; rw [hmm, hi1, hi2'])
          have KS := Lib.hid (show ∀ w', Aft X w' → (Aft X w' ∧ w'.cell? ⟨w.heap.size, 0, none⟩ = some (.slice An r.names.length capn) ∧ w'.cell? ⟨w.heap.size, 1, none⟩ = some (.slice (some ⟨b, off, none⟩) r.members.length capm) ∧ w'.cell? ⟨wr.heap.size, 0, none⟩ = some (.string m.role) ∧ w'.cell? ⟨wr.heap.size, 1, none⟩ = some (.string m.of)) from fun w' a => ⟨a, a.cell_kept x4, a.cell_kept x5, a.cell_kept x0, a.cell_kept x1⟩)
          clear hmm hi1 hi2' aX
          cases i1
          · have HF := Lib.hid (show rightR r = false by rw [HRT.out, all_false (mbrOk r) r.members k hlt (by rw [HOK.out]; rfl)]; simp)
            go_wp2_with fail
            rw [← hX]
            clear hX
            refine wp_region_lat (by kernel_rfl) (by kernel_rfl) ?_
            repeat (go_big_quiet_step ((go_at_call 52; exact Calls.lat_of ((K1.out _ ((Aft.refl X).lat _)).mono fun e w'' ⟨he, hw⟩ => ⟨he, hw ▸ Aft.refl _⟩))))
            refine wpQuiet_nil ?_
            intro _ hw'
            obtain ⟨y, hw''⟩ := hw'
            subst hw''
            go_wp2_with fail
            go_ret
            exact ⟨by rw [HF.out]; rfl, HWX.out.lat y⟩
          cases i2
          · have HF := Lib.hid (show rightR r = false by rw [HRT.out, all_false (mbrOk r) r.members k hlt (by rw [HOK.out]; rfl)]; simp)
            go_wp2_with fail
            rw [← hX]
            clear hX
            refine wp_region_lat (by kernel_rfl) (by kernel_rfl) ?_
            repeat (go_big_quiet_step ((go_at_call 52; first | exact Calls.lat_of ((K1.out _ ((Aft.refl X).lat _)).mono fun e w'' ⟨he, hw⟩ => ⟨he, hw ▸ Aft.refl _⟩) | exact Calls.lat_of ((K2.out _ ((Aft.refl X).lat _)).mono fun e w'' ⟨he, hw⟩ => ⟨he, hw ▸ Aft.refl _⟩))))
            refine wpQuiet_nil ?_
            intro _ hw'
            obtain ⟨y, hw''⟩ := hw'
            subst hw''
            go_wp2_with fail
            go_ret
            exact ⟨by rw [HF.out]; rfl, HWX.out.lat y⟩
          go_wp2_with fail
          rw [← hX]
          clear hX
          go_region_held3 (fun w' => Aft X w' ∧ w'.cell? ⟨w.heap.size, 0, none⟩ = some (.slice An r.names.length capn) ∧ w'.cell? ⟨w.heap.size, 1, none⟩ = some (.slice (some ⟨b, off, none⟩) r.members.length capm) ∧ w'.cell? ⟨wr.heap.size, 0, none⟩ = some (.string m.role) ∧ w'.cell? ⟨wr.heap.size, 1, none⟩ = some (.string m.of))
            (first | exact KS.out _ (Aft.refl _).drew | exact KS.out _ (And.left (by assumption)) | exact KS.out _ (Aft.trans (And.left (by assumption : Aft X _ ∧ _)) (by assumption)))
            ((first | (go_at_call 52; first | (refine (K1.out _ (And.left (by assumption : Aft X _ ∧ _))).mono ?_; rintro e w4 ⟨rfl, rfl⟩) | (refine (K2.out _ (And.left (by assumption : Aft X _ ∧ _))).mono ?_; rintro e w4 ⟨rfl, rfl⟩)) | (go_at_call 53; refine (K3.out _ (And.left (by assumption : Aft X _ ∧ _))).mono ?_; rintro e w5 ⟨bf, rfl, a5, c5, n5, M5, bd5, hr5⟩; have LK := (saw_look M5 (Aft.refl _) hr5 m.role hs1.max).1; have RR := Lib.hid (saw_look M5 (Aft.refl _) hr5 m.role hs1.max).2; have BB := bd5 (txt m.role))))
          have HAX := Lib.hid (And.left (by assumption : Aft X w5 ∧ _))
          have HRR := RR
          clear M5 bd5 hr5 LK RR a5
          by_cases h5 : 0 < c5 (txt m.role)
          · have h5i : (0 : Int) < ((c5 (txt m.role) : Nat) : Int) := by omega
            have HF := Lib.hid (show rightR r = false by rw [HRT.out, all_false (mbrOk r) r.members k hlt (by rw [HOK.out, ← HRR.out]; simp [h5])]; simp)
            go_wp2_with fail
            go_ret
            exact ⟨by rw [HF.out]; rfl, HWX.out.trans HAX.out⟩
          · have h5i : ¬ (0 : Int) < ((c5 (txt m.role) : Nat) : Int) := by omega
            have HT := Lib.hid (show mbrOk r r.members[k] = true by rw [HOK.out, ← HRR.out]; simp [h5])
            go_wp2_with fail
            go_roundw
            case rel => exact ⟨k + 1, by omega, by go_num, HWX2.out.trans HAX.out, ext_lt (p := fun j => ∀ (hj : j < r.members.length), mbrOk r r.members[j] = true) HP.out (fun _ => HT.out)⟩
            case measure => simp [intOf]; omega
        · have HF := Lib.hid (show rightR r = true by rw [HRT.out, HN.out, all_true _ _ fun j hj => HP.out j (by omega) hj]; rfl)
          go_wp2_with fail
          go_ret
          exact ⟨by rw [HF.out]; rfl, HAW.out.trans HA.out⟩
set_option maxHeartbeats 1000000 in
theorem check8 (r : Rls) (An : Option Addr) (capn : Nat) (Am : Option Addr) (capm : Nat) (w : World) (hn : SlAt w 1 StrR An capn r.names) (hm : SlAt w 2 MbrR Am capm r.members) :
    Calls Try.prog 12 #[.agg #[.slice An r.names.length capn, .slice Am r.members.length capm]] w fun e w' => e = .returned (.int .i64 (if rightR r then 0 else 1)) ∧ Aft w w' := by
  obtain ⟨q, hq⟩ : ∃ q, rightR r = q := ⟨_, rfl⟩
  have C := Lib.hid (fun w' (a : Aft w w') => hq ▸ right8 r An capn Am capm w' (strs_aft a hn) (mbrs_aft a hm))
  rw [hq]
  clear hq
  go_enter Try.func12, Try.ntmps12
  go_wp2_with fail
  refine (C.out _ ((Aft.refl w).alloc _)).mono ?_
  rintro e w1 ⟨rfl, a1⟩
  have HA := Lib.hid (((Aft.refl w).alloc _).trans a1)
  clear a1
  cases q
  all_goals
    go_wp2_with fail
    go_ret
    exact ⟨rfl, HA.out⟩
end Go.Proofs.Ytcdhljcpoopfaaa
