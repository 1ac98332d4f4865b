/- Contracts of the program, part 9. -/
import Derived.Test.YticjnndhpfdajaaGreatPartG6
import Derived.Test.YticjnndhpfdajaaGreatPartG8
import Derived.Test.YticjnndhpfdajaaGreatPartG5
import Derived.Deep.RegionHeld3
import Derived.Deep.AppendLies
import Derived.Deep.DeepMust
/- The order of texts, as a number and as the model's own order. -/
namespace Go.Proofs.YticjnndhpfdajaaGreat
open Go.RowKit
set_option linter.unusedVariables false
def ltS (a b : ByteArray) : Bool := Op.bytesLess a.toList b.toList
theorem cmpB_lt : ∀ (a b : List UInt8), decide (Lib.compareBytes a b < 0) = Op.bytesLess a b
  | [], [] => rfl
  | [], _ :: _ => rfl
  | _ :: _, [] => rfl
  | x :: a, y :: b => by
    unfold Lib.compareBytes Op.bytesLess
    by_cases h : x < y
    · simp [h]
    · by_cases h2 : y < x
      · have h3 : ¬ x = y := fun e => by subst e; exact UInt8.lt_irrefl _ h2
        simp [h, h2, h3]
      · have h3 : x = y := UInt8.le_antisymm (UInt8.not_lt.1 h2) (UInt8.not_lt.1 h)
        subst h3
        have := cmpB_lt a b
        simp [UInt8.lt_irrefl, this]
theorem cmpB_eq : ∀ (a b : List UInt8), (Lib.compareBytes a b = 0) ↔ a = b
  | [], [] => by simp [Lib.compareBytes]
  | [], _ :: _ => by simp [Lib.compareBytes]
  | _ :: _, [] => by simp [Lib.compareBytes]
  | x :: a, y :: b => by
    unfold Lib.compareBytes
    by_cases h : x < y
    · have h3 : ¬ x = y := fun e => by subst e; exact UInt8.lt_irrefl _ h
      simp [h, h3]
    · by_cases h2 : y < x
      · have h3 : ¬ x = y := fun e => by subst e; exact UInt8.lt_irrefl _ h2
        simp [h, h2, h3]
      · have h3 : x = y := UInt8.le_antisymm (UInt8.not_lt.1 h2) (UInt8.not_lt.1 h)
        subst h3
        have := cmpB_eq a b
        simp [UInt8.lt_irrefl, this]
theorem cmpB_anti : ∀ (a b : List UInt8), Lib.compareBytes a b = - Lib.compareBytes b a
  | [], [] => rfl
  | [], _ :: _ => rfl
  | _ :: _, [] => rfl
  | x :: a, y :: b => by
    unfold Lib.compareBytes
    by_cases h : x < y
    · have h2 : ¬ y < x := UInt8.lt_asymm h
      simp [h, h2]
    · by_cases h2 : y < x
      · simp [h, h2]
      · simp [h, h2]; exact cmpB_anti a b
theorem cmpB_trans : ∀ (a b c : List UInt8), Lib.compareBytes a b < 0 → Lib.compareBytes b c < 0 → Lib.compareBytes a c < 0
  | [], [], c => fun h => by simp [Lib.compareBytes] at h
  | [], _ :: _, [] => fun _ h => by simp [Lib.compareBytes] at h
  | [], _ :: _, _ :: _ => fun _ _ => by simp [Lib.compareBytes]
  | _ :: _, [], c => fun h => by simp [Lib.compareBytes] at h
  | _ :: _, _ :: _, [] => fun _ h => by simp [Lib.compareBytes] at h
  | x :: a, y :: b, z :: c => by
    unfold Lib.compareBytes
    intro h1 h2
    by_cases xy : x < y
    · by_cases yz : y < z
      · have := UInt8.lt_trans xy yz; simp [this]
      · simp only [yz, if_false] at h2
        by_cases zy : z < y
        · simp [zy] at h2
        · have e : y = z := UInt8.le_antisymm (UInt8.not_lt.1 zy) (UInt8.not_lt.1 yz)
          subst e; simp [xy]
    · simp only [xy, if_false] at h1
      by_cases yx : y < x
      · simp [yx] at h1
      · have e : x = y := UInt8.le_antisymm (UInt8.not_lt.1 yx) (UInt8.not_lt.1 xy)
        subst e
        simp only [yx, if_false] at h1
        by_cases yz : x < z
        · simp [yz]
        · simp only [yz, if_false] at h2 ⊢
          by_cases zy : z < x
          · simp [zy] at h2
          · simp only [zy, if_false] at h2 ⊢
            exact cmpB_trans a b c h1 h2
theorem cmpS_lt (a b : ByteArray) : decide (cmpS a b < 0) = ltS a b := by
  unfold cmpS ltS
  rw [Lib.toList_data, Lib.toList_data]; exact cmpB_lt _ _
theorem cmpS_eq (a b : ByteArray) : (cmpS a b = 0) ↔ eqS a b = true := by
  unfold cmpS eqS
  rw [Lib.toList_data, Lib.toList_data, cmpB_eq]; simp
theorem cmpS_lt_iff (a b : ByteArray) : cmpS a b < 0 ↔ ltS a b = true := by rw [← cmpS_lt]; simp
theorem cmpS_anti (a b : ByteArray) : cmpS a b = - cmpS b a := cmpB_anti _ _
theorem cmpS_trans {a b c : ByteArray} (h1 : cmpS a b < 0) (h2 : cmpS b c < 0) : cmpS a c < 0 := cmpB_trans _ _ _ h1 h2
/-- the order of pairs: less, spelt as the document does -/
theorem or2_lt (a b c d : ByteArray) : decide (or2 (cmpS a b) (cmpS c d) < 0) = (!(!(ltS a b || eqS a b)) && !(eqS a b && !(ltS c d))) := by
  unfold or2
  by_cases h : cmpS a b = 0
  · have he := (cmpS_eq a b).1 h
    have hl : ltS a b = false := by rw [← cmpS_lt, h]; rfl
    simp only [h, beq_self_eq_true, if_true, he, hl]
    rw [← cmpS_lt c d]; simp
  · have he : eqS a b = false := by rw [Bool.eq_false_iff]; intro e; exact h ((cmpS_eq a b).2 e)
    have h' : (cmpS a b == 0) = false := beq_eq_false_iff_ne.2 h
    simp only [h', he]
    rw [← cmpS_lt a b]; simp
end Go.Proofs.YticjnndhpfdajaaGreat
/- roles.right: roles are right, or are not. -/
namespace Go.Proofs.YticjnndhpfdajaaGreat
open Go.RowKit Go.Deep
set_option maxRecDepth 100000
set_option linter.unusedVariables false
theorem idxP_any8 {α : Type} (p : α → Bool) (l : List α) : decide (0 ≤ idxP p l) = l.any p := by
  induction l with
  | nil => rfl
  | cons x l ih =>
    rw [List.any_cons, ← ih]
    show decide (0 ≤ (if p x then (0 : Int) else if idxP p l < 0 then -1 else idxP p l + 1)) = _
    cases h : p x
    · simp only [Bool.false_or]
      by_cases h2 : idxP p l < 0
      · simp [h2]
      · simp [h2]; omega
    · simp
set_option maxHeartbeats 1000000 in
theorem scont8 (A : Option Addr) (cap : Nat) (l : List ByteArray) (name : ByteArray) (w : World) (h : SlAt w 1 StrR A cap l) :
    Calls Tryz.prog 95 #[.slice A l.length cap, .string name] w fun e w' => e = .returned (.bool (l.any fun c => eqS c name)) ∧ w = w' := by
  have C := Lib.hid (sidx_any A cap l name w h)
  have HE := Lib.hid (idxP_any8 (fun c => eqS c name) l)
  obtain ⟨i, hi⟩ : ∃ i, idxP (fun c => eqS c name) l = i := ⟨_, rfl⟩
  rw [hi] at C HE
  clear hi
  go_enter Tryz.func95, Tryz.ntmps95
  go_wp2_with fail
  refine C.out.mono ?_
  rintro e w1 ⟨rfl, rfl⟩
  go_wp2_with fail
  go_ret
  exact ⟨by rw [← HE.out]; rfl, rfl⟩
open Classical in
/-- can t be reached from s? -/
noncomputable def reachB (ms : List Mbr) (s t : ByteArray) : Bool := decide (Reach ms (txt s) (txt t))
def inB (l : List ByteArray) (s : ByteArray) : Bool := l.any fun c => eqS c s
noncomputable def mbrOk (r : Rls) (m : Mbr) : Bool := inB r.names m.role && inB r.names m.of && !reachB r.members m.of m.role
noncomputable def rightR (r : Rls) : Bool := decide (r.names.length ≤ 16) && decide (r.members.length ≤ 256) && risesB cmpS r.names && risesB cmpM r.members && (r.names.all nameB && r.members.all (mbrOk r))
theorem cmpM_anti (a b : Mbr) : cmpM a b = - cmpM b a := by
  unfold cmpM or2
  have h1 := cmpS_anti a.role b.role
  have h2 := cmpS_anti a.of b.of
  by_cases e : cmpS a.role b.role = 0
  · have e2 : cmpS b.role a.role = 0 := by omega
    simp [e, e2]; exact h2
  · have e2 : ¬ cmpS b.role a.role = 0 := by omega
    simp [e, e2]; exact h1
/-- seen(r, m.Of)[m.Role] > 0 -/
theorem saw_look {w w' : World} {ms : List Mbr} {s' : ByteArray} {bf : Nat} {c : Txt → Nat} {n : Nat} (M : MapF Tryz.prog 9 w bf n (.int .i64 0) (cntV c)) (a : Aft w w') (hc : ∀ s, 0 < c s ↔ Reach ms (txt s') s) (t : ByteArray) (ht : t.size ≤ maxLen) :
    (Instr.lookup 175 (.map (some bf)) (.string t) false).run Tryz.prog w' = .ok (.int .i64 (c (txt t))) w' ∧ decide ((0 : Int) < c (txt t)) = reachB ms s' t :=
  ⟨(M.aft a).look Tryz.underlying9 Tryz.underlying175 (zero_int w') t ht, by
    unfold reachB
    have := hc (txt t)
    by_cases h : Reach ms (txt s') (txt t)
    · simp [h, this.2 h]
    · have h2 : ¬ 0 < c (txt t) := fun h3 => h (this.1 h3)
      simp [h]; omega⟩
set_option maxHeartbeats 8000000 in
theorem right8 (r : Rls) (An : Option Addr) (capn : Nat) (Am : Option Addr) (capm : Nat) (w : World) (hn : SlAt w 1 StrR An capn r.names) (hm : SlAt w 2 MbrR Am capm r.members) :
    Calls Tryz.prog 173 #[.agg #[.slice An r.names.length capn, .slice Am r.members.length capm]] w fun e w' => e = .returned (.bool (rightR r)) ∧ Aft w w' := by
  have hlen := hn.len
  have hlen2 := hm.len
  have l1 : w.heap.size < w.heap.size + 1 := by omega
  by_cases h1 : r.names.length ≤ 16
  case neg =>
    have HF := Lib.hid (show rightR r = false by unfold rightR; simp [h1])
    have hi : (16 : Int) < (r.names.length : Int) := by omega
    go_enter Tryz.func173, Tryz.ntmps173
    go_wp2_with fail
    go_ret
    exact ⟨by rw [HF.out]; rfl, (Aft.refl _).alloc _⟩
  by_cases h2 : r.members.length ≤ 256
  case neg =>
    have HF := Lib.hid (show rightR r = false by unfold rightR; simp [h2])
    have hi : ¬ (16 : Int) < (r.names.length : Int) := by omega
    have hi2 : (256 : Int) < (r.members.length : Int) := by omega
    go_enter Tryz.func173, Tryz.ntmps173
    go_wp2_with fail
    go_ret
    exact ⟨by rw [HF.out]; rfl, (Aft.refl _).alloc _⟩
  have hi : ¬ (16 : Int) < (r.names.length : Int) := by omega
  have hi2 : ¬ (256 : Int) < (r.members.length : Int) := by omega
  obtain ⟨W, hW⟩ : ∃ W, W = w.alloc (.cells #[.slice An r.names.length capn, .slice Am r.members.length capm] 56) := ⟨_, rfl⟩
  have aW : Aft w W := by rw [hW]; exact (Aft.refl w).alloc _
  have r0 : ∀ w', Aft W w' → (w'.cell? ⟨w.heap.size, 0, none⟩ = some (.slice An r.names.length capn) ∧ w'.cell? ⟨w.heap.size, 1, none⟩ = some (.slice Am r.members.length capm) ∧ w.heap.size < w'.heap.size) := fun w' a => by
    rw [hW] at a
    obtain ⟨hb, _, hz, _, _⟩ := aft_box a
    exact ⟨by rw [hb]; rfl, by rw [hb]; rfl, hz.1⟩
  have hentC := enters (P := Tryz.prog) Tryz.func69 (by kernel_rfl) rfl
  have hentO := enters (P := Tryz.prog) Tryz.func229 (by kernel_rfl) rfl
  have C1 := Lib.hid (fun w' (a : Aft w w') => risingS An capn r.names 69 #[] cmpS w' (strs_aft a hn) (by omega) cmpS_anti hentC fun w'' x y _ => (compare_any x y w'').mono fun e w3 ⟨he, hw⟩ => ⟨he, hw ▸ Aft.refl _⟩)
  have C2 := Lib.hid (fun w' (a : Aft w w') => risingM Am capm r.members 229 #[] cmpM w' (mbrs_aft a hm) (by omega) cmpM_anti hentO fun w'' x y _ => order8 x y w'')
  obtain ⟨b1, hb1⟩ : ∃ b, risesB cmpS r.names = b := ⟨_, rfl⟩
  obtain ⟨b2, hb2⟩ : ∃ b, risesB cmpM r.members = b := ⟨_, rfl⟩
  rw [hb1] at C1
  rw [hb2] at C2
  have HRT := Lib.hid (show rightR r = (b1 && b2 && (r.names.all nameB && r.members.all (mbrOk r))) by unfold rightR; simp [h1, h2, hb1, hb2])
  have HR0 := Lib.hid r0
  have HAW := Lib.hid aW
  have HNM := Lib.hid (And.intro hn hm)
  clear hb1 hb2 r0 aW hn hm
  go_enter Tryz.func173, Tryz.ntmps173
  go_wp2_with fail
  rw [← hW]
  clear hW
  refine (C1.out W HAW.out).mono ?_
  rintro e w1 ⟨rfl, a1⟩
  have HA1 := Lib.hid a1
  obtain ⟨e0, e1, e2⟩ := HR0.out w1 a1
  clear a1
  cases b1
  · have HF := Lib.hid (show rightR r = false by rw [HRT.out]; rfl)
    go_wp2_with fail
    go_ret
    exact ⟨by rw [HF.out]; rfl, HAW.out.trans HA1.out⟩
  go_wp2_with fail
  refine (C2.out w1 (HAW.out.trans HA1.out)).mono ?_
  rintro e w2 ⟨rfl, a2⟩
  have HA2 := Lib.hid (HA1.out.trans a2)
  clear a2 e0 e1 e2
  obtain ⟨e0, e1, e2⟩ := HR0.out w2 HA2.out
  cases b2
  · have HF := Lib.hid (show rightR r = false by rw [HRT.out]; rfl)
    go_wp2_with fail
    go_ret
    exact ⟨by rw [HF.out]; rfl, HAW.out.trans HA2.out⟩
  go_wp2_with fail
  go_loopw [32] (fun i wr => ∃ k : Nat, k ≤ r.names.length ∧ i = .int .i64 k ∧ Aft W wr ∧ ∀ j, j < k → ∀ (hj : j < r.names.length), nameB r.names[j] = true) (fun i _ => r.names.length - (intOf i).toNat)
  case atStart => exact ⟨0, Nat.zero_le _, rfl, HA2.out, fun j hj => absurd hj (Nat.not_lt_zero j)⟩
  case round =>
    clear e0 e1 e2
    obtain ⟨k, hk, rfl, ha, hp⟩ := hrel
    have HA := Lib.hid ha
    have HP := Lib.hid hp
    obtain ⟨e0, e1, e2⟩ := HR0.out wr ha
    clear ha hp
    by_cases hlt : k < r.names.length
    · obtain ⟨b, off, rfl, hb, c0, hs⟩ := str_at (strs_aft (HAW.out.trans HA.out) HNM.out.1) hlt
      obtain ⟨x, hx⟩ : ∃ x, r.names[k] = x := ⟨_, rfl⟩
      rw [hx] at c0 hs
      obtain ⟨q, hq⟩ : ∃ q, nameB x = q := ⟨_, rfl⟩
      have HQ := Lib.hid (show nameB r.names[k] = q by rw [hx]; exact hq)
      have CN := Lib.hid (hq ▸ name_any x wr hs.max)
      clear hx hq
      go_wp2_with fail
      refine CN.out.mono ?_
      rintro e w3 ⟨rfl, rfl⟩
      cases q
      · have HF := Lib.hid (show rightR r = false by rw [HRT.out, all_false _ _ k hlt HQ.out]; rfl)
        go_wp2_with fail
        go_ret
        exact ⟨by rw [HF.out]; rfl, HAW.out.trans HA.out⟩
      · go_wp2_with fail
        go_roundw
        case rel => exact ⟨k + 1, by omega, by go_num, HA.out, ext_lt (p := fun j => ∀ (hj : j < r.names.length), nameB r.names[j] = true) HP.out (fun _ => HQ.out)⟩
        case measure => simp [intOf]; omega
    · have HN := Lib.hid (show r.names.all nameB = true from all_true _ _ fun j hj => HP.out j (by omega) hj)
      go_wp2_with fail
      go_loopw [43] (fun i wr => ∃ k : Nat, k ≤ r.members.length ∧ i = .int .i64 k ∧ Aft W wr ∧ ∀ j, j < k → ∀ (hj : j < r.members.length), mbrOk r r.members[j] = true) (fun i _ => r.members.length - (intOf i).toNat)
      case atStart => exact ⟨0, Nat.zero_le _, rfl, HA.out, fun j hj => absurd hj (Nat.not_lt_zero j)⟩
      case round =>
        clear e0 e1 e2
        obtain ⟨k, hk, rfl, ha, hp⟩ := hrel
        have HA := Lib.hid ha
        have HP := Lib.hid hp
        obtain ⟨e0, e1, e2⟩ := HR0.out wr ha
        clear ha hp
        by_cases hlt : k < r.members.length
        · obtain ⟨b, off, rfl, hb, t0, t1, hs1, hs2⟩ := mbr_at (mbrs_aft (HAW.out.trans HA.out) HNM.out.2) hlt
          obtain ⟨m, hmm⟩ : ∃ m, r.members[k] = m := ⟨_, rfl⟩
          rw [hmm] at t0 t1 hs1 hs2
          obtain ⟨X, hX⟩ : ∃ X, X = wr.alloc (.cells #[.string m.role, .string m.of] 185) := ⟨_, rfl⟩
          have aX : Aft wr X := by rw [hX]; exact (Aft.refl _).alloc _
          have x0 : X.cell? ⟨wr.heap.size, 0, none⟩ = some (.string m.role) := by rw [hX]; simp
          have x1 : X.cell? ⟨wr.heap.size, 1, none⟩ = some (.string m.of) := by rw [hX]; simp
          have x2 : wr.heap.size < X.heap.size := by rw [hX]; simp
          have x3 : w.heap.size < X.heap.size := by omega
          have x4 := aX.cell_kept e0
          have x5 := aX.cell_kept e1
          have HWX := Lib.hid ((HAW.out.trans HA.out).trans aX)
          have HWX2 := Lib.hid (HA.out.trans aX)
          have HMM := Lib.hid hmm
          obtain ⟨i1, hi1⟩ : ∃ i, inB r.names m.role = i := ⟨_, rfl⟩
          obtain ⟨i2, hi2'⟩ : ∃ i, inB r.names m.of = i := ⟨_, rfl⟩
          have K1 := Lib.hid (show ∀ w', Aft X w' → Calls Tryz.prog 95 #[.slice An r.names.length capn, .string m.role] w' fun e w'' => e = .returned (.bool i1) ∧ w' = w'' from fun w' a => hi1 ▸ scont8 An capn r.names m.role w' (strs_aft (HWX.out.trans a) HNM.out.1))
          have K2 := Lib.hid (show ∀ w', Aft X w' → Calls Tryz.prog 95 #[.slice An r.names.length capn, .string m.of] w' fun e w'' => e = .returned (.bool i2) ∧ w' = w'' from fun w' a => hi2' ▸ scont8 An capn r.names m.of w' (strs_aft (HWX.out.trans a) HNM.out.1))
          have K3 := Lib.hid (show ∀ w', Aft X w' → Calls Tryz.prog 174 #[.agg #[.slice An r.names.length capn, .slice (some ⟨b, off, none⟩) r.members.length capm], .string m.of] w' (SawP w' r.members m.of) from fun w' a => seen_in r An capn _ capm m.of w' (mbrs_aft (HWX.out.trans a) HNM.out.2) hs2)
          have HOK := Lib.hid (show mbrOk r r.members[k] = (i1 && i2 && !reachB r.members m.of m.role) by unfold mbrOk; rw [hmm, hi1, hi2'])
          have KS := Lib.hid (show ∀ w', Aft X w' → (Aft X w' ∧ w'.cell? ⟨w.heap.size, 0, none⟩ = some (.slice An r.names.length capn) ∧ w'.cell? ⟨w.heap.size, 1, none⟩ = some (.slice (some ⟨b, off, none⟩) r.members.length capm) ∧ w'.cell? ⟨wr.heap.size, 0, none⟩ = some (.string m.role) ∧ w'.cell? ⟨wr.heap.size, 1, none⟩ = some (.string m.of)) from fun w' a => ⟨a, a.cell_kept x4, a.cell_kept x5, a.cell_kept x0, a.cell_kept x1⟩)
          clear hmm hi1 hi2' aX
          cases i1
          · have HF := Lib.hid (show rightR r = false by rw [HRT.out, all_false (mbrOk r) r.members k hlt (by rw [HOK.out]; rfl)]; simp)
            go_wp2_with fail
            rw [← hX]
            clear hX
            refine wp_region_lat (by kernel_rfl) (by kernel_rfl) ?_
            repeat (go_big_quiet_step ((go_at_call 95; exact Calls.lat_of ((K1.out _ ((Aft.refl X).lat _)).mono fun e w'' ⟨he, hw⟩ => ⟨he, hw ▸ Aft.refl _⟩))))
            refine wpQuiet_nil ?_
            intro _ hw'
            obtain ⟨y, hw''⟩ := hw'
            subst hw''
            go_wp2_with fail
            go_ret
            exact ⟨by rw [HF.out]; rfl, HWX.out.lat y⟩
          cases i2
          · have HF := Lib.hid (show rightR r = false by rw [HRT.out, all_false (mbrOk r) r.members k hlt (by rw [HOK.out]; rfl)]; simp)
            go_wp2_with fail
            rw [← hX]
            clear hX
            refine wp_region_lat (by kernel_rfl) (by kernel_rfl) ?_
            repeat (go_big_quiet_step ((go_at_call 95; first | exact Calls.lat_of ((K1.out _ ((Aft.refl X).lat _)).mono fun e w'' ⟨he, hw⟩ => ⟨he, hw ▸ Aft.refl _⟩) | exact Calls.lat_of ((K2.out _ ((Aft.refl X).lat _)).mono fun e w'' ⟨he, hw⟩ => ⟨he, hw ▸ Aft.refl _⟩))))
            refine wpQuiet_nil ?_
            intro _ hw'
            obtain ⟨y, hw''⟩ := hw'
            subst hw''
            go_wp2_with fail
            go_ret
            exact ⟨by rw [HF.out]; rfl, HWX.out.lat y⟩
          go_wp2_with fail
          rw [← hX]
          clear hX
          go_region_held3 (fun w' => Aft X w' ∧ w'.cell? ⟨w.heap.size, 0, none⟩ = some (.slice An r.names.length capn) ∧ w'.cell? ⟨w.heap.size, 1, none⟩ = some (.slice (some ⟨b, off, none⟩) r.members.length capm) ∧ w'.cell? ⟨wr.heap.size, 0, none⟩ = some (.string m.role) ∧ w'.cell? ⟨wr.heap.size, 1, none⟩ = some (.string m.of))
            (first | exact KS.out _ (Aft.refl _).drew | exact KS.out _ (And.left (by assumption)) | exact KS.out _ (Aft.trans (And.left (by assumption : Aft X _ ∧ _)) (by assumption)))
            ((first | (go_at_call 95; first | (refine (K1.out _ (And.left (by assumption : Aft X _ ∧ _))).mono ?_; rintro e w4 ⟨rfl, rfl⟩) | (refine (K2.out _ (And.left (by assumption : Aft X _ ∧ _))).mono ?_; rintro e w4 ⟨rfl, rfl⟩)) | (go_at_call 174; refine (K3.out _ (And.left (by assumption : Aft X _ ∧ _))).mono ?_; rintro e w5 ⟨bf, rfl, a5, c5, n5, M5, bd5, hr5⟩; have LK := (saw_look M5 (Aft.refl _) hr5 m.role hs1.max).1; have RR := Lib.hid (saw_look M5 (Aft.refl _) hr5 m.role hs1.max).2; have BB := bd5 (txt m.role))))
          have HAX := Lib.hid (And.left (by assumption : Aft X w5 ∧ _))
          have HRR := RR
          clear M5 bd5 hr5 LK RR a5
          by_cases h5 : 0 < c5 (txt m.role)
          · have h5i : (0 : Int) < ((c5 (txt m.role) : Nat) : Int) := by omega
            have HF := Lib.hid (show rightR r = false by rw [HRT.out, all_false (mbrOk r) r.members k hlt (by rw [HOK.out, ← HRR.out]; simp [h5])]; simp)
            go_wp2_with fail
            go_ret
            exact ⟨by rw [HF.out]; rfl, HWX.out.trans HAX.out⟩
          · have h5i : ¬ (0 : Int) < ((c5 (txt m.role) : Nat) : Int) := by omega
            have HT := Lib.hid (show mbrOk r r.members[k] = true by rw [HOK.out, ← HRR.out]; simp [h5])
            go_wp2_with fail
            go_roundw
            case rel => exact ⟨k + 1, by omega, by go_num, HWX2.out.trans HAX.out, ext_lt (p := fun j => ∀ (hj : j < r.members.length), mbrOk r r.members[j] = true) HP.out (fun _ => HT.out)⟩
            case measure => simp [intOf]; omega
        · have HF := Lib.hid (show rightR r = true by rw [HRT.out, HN.out, all_true _ _ fun j hj => HP.out j (by omega) hj]; rfl)
          go_wp2_with fail
          go_ret
          exact ⟨by rw [HF.out]; rfl, HAW.out.trans HA.out⟩
set_option maxHeartbeats 1000000 in
theorem check8 (r : Rls) (An : Option Addr) (capn : Nat) (Am : Option Addr) (capm : Nat) (w : World) (hn : SlAt w 1 StrR An capn r.names) (hm : SlAt w 2 MbrR Am capm r.members) :
    Calls Tryz.prog 171 #[.agg #[.slice An r.names.length capn, .slice Am r.members.length capm]] w fun e w' => e = .returned (.int .i64 (if rightR r then 0 else 1)) ∧ Aft w w' := by
  obtain ⟨q, hq⟩ : ∃ q, rightR r = q := ⟨_, rfl⟩
  have C := Lib.hid (fun w' (a : Aft w w') => hq ▸ right8 r An capn Am capm w' (strs_aft a hn) (mbrs_aft a hm))
  rw [hq]
  clear hq
  go_enter Tryz.func171, Tryz.ntmps171
  go_wp2_with fail
  refine (C.out _ ((Aft.refl w).alloc _)).mono ?_
  rintro e w1 ⟨rfl, a1⟩
  have HA := Lib.hid (((Aft.refl w).alloc _).trans a1)
  clear a1
  cases q
  all_goals
    go_wp2_with fail
    go_ret
    exact ⟨rfl, HA.out⟩
end Go.Proofs.YticjnndhpfdajaaGreat
/- What the document's Reach finds, in plain words. -/
namespace Go.Proofs.YticjnndhpfdajaaGreat
open Go.RowKit
set_option linter.unusedVariables false
theorem eqS_txt (a b : ByteArray) : eqS a b = true ↔ txt a = txt b := by
  unfold txt
  rw [← cmpS_eq]
  exact cmpB_eq _ _
theorem inB_iff (S : List ByteArray) (s : ByteArray) : inB S s = true ↔ txt s ∈ S.map txt := by
  unfold inB
  rw [List.any_eq_true, List.mem_map]
  exact ⟨fun ⟨x, hx, h⟩ => ⟨x, hx, (eqS_txt _ _).1 h⟩, fun ⟨x, hx, h⟩ => ⟨x, hx, (eqS_txt _ _).2 h⟩⟩
/-- what is found so far: no two alike, all reached -/
structure Fnd (ms : List Mbr) (role : ByteArray) (S : List ByteArray) : Prop where
  nd : (S.map txt).Nodup
  has : txt role ∈ S.map txt
  sub : ∀ t ∈ S.map txt, t ∈ txt role :: ms.map fun m => txt m.of
  rch : ∀ t ∈ S.map txt, Reach ms (txt role) t
theorem Fnd.start (ms : List Mbr) (role : ByteArray) : Fnd ms role [role] := ⟨by simp, by simp, by simp, fun t ht => by simp at ht; subst ht; exact .refl _⟩
theorem Fnd.add {ms : List Mbr} {role : ByteArray} {S : List ByteArray} (h : Fnd ms role S) {m : Mbr} (hm : m ∈ ms) (h1 : inB S m.role = true) (h2 : inB S m.of = false) : Fnd ms role (S ++ [m.of]) := by
  have h3 : txt m.of ∉ S.map txt := fun h => by rw [← inB_iff] at h; rw [h] at h2; cases h2
  have h4 := (inB_iff _ _).1 h1
  refine ⟨?_, ?_, ?_, ?_⟩
  · rw [List.map_append, List.nodup_append]
    exact ⟨h.nd, by simp, fun a ha b hb e => by simp at hb; subst hb; subst e; exact h3 ha⟩
  · rw [List.map_append]; exact List.mem_append.2 (.inl h.has)
  · intro t ht
    rw [List.map_append, List.mem_append] at ht
    rcases ht with ht | ht
    · exact h.sub t ht
    · simp at ht; subst ht
      exact List.mem_cons.2 (.inr (List.mem_map.2 ⟨m, hm, rfl⟩))
  · intro t ht
    rw [List.map_append, List.mem_append] at ht
    rcases ht with ht | ht
    · exact h.rch t ht
    · simp at ht; subst ht
      refine .step (x := m.of) (h.rch _ h4) ?_ rfl
      unfold succ
      exact List.mem_map.2 ⟨m, List.mem_filter.2 ⟨hm, by simp⟩, rfl⟩
/-- closed: what is found is what is reached -/
theorem Fnd.all {ms : List Mbr} {role : ByteArray} {S : List ByteArray} (h : Fnd ms role S) (hc : ∀ m ∈ ms, inB S m.role = true → inB S m.of = true) (t : ByteArray) : inB S t = reachB ms role t := by
  have key : txt t ∈ S.map txt ↔ Reach ms (txt role) (txt t) := by
    refine ⟨h.rch _, fun hr => hr.closed (fun u => u ∈ S.map txt) h.has fun u hu x hx => ?_⟩
    unfold succ at hx
    obtain ⟨m, hm, rfl⟩ := List.mem_map.1 hx
    obtain ⟨hm, he⟩ := List.mem_filter.1 hm
    have he : txt m.role = u := by simpa using he
    exact (inB_iff _ _).1 (hc m hm ((inB_iff _ _).2 (by rw [he]; exact hu)))
  unfold reachB
  by_cases hr : Reach ms (txt role) (txt t)
  · simp only [hr, decide_true]
    exact (inB_iff _ _).2 (key.2 hr)
  · simp only [hr, decide_false]
    rw [Bool.eq_false_iff]
    exact fun e => hr (key.1 ((inB_iff _ _).1 e))
theorem nodup_le {α : Type} [DecidableEq α] : ∀ {l l' : List α}, l.Nodup → (∀ x ∈ l, x ∈ l') → l.length ≤ l'.length
  | [], l', _, _ => Nat.zero_le _
  | a :: l, l', hn, hs => by
    rw [List.nodup_cons] at hn
    have h1 : a ∈ l' := hs a (by simp)
    have h2 := nodup_le (l := l) (l' := l'.erase a) hn.2 fun x hx => (List.mem_erase_of_ne (by intro e; subst e; exact hn.1 hx)).2 (hs x (by simp [hx]))
    have h3 := List.length_erase_of_mem h1
    have h4 := List.length_pos_of_mem h1
    simp only [List.length_cons]
    omega
theorem Fnd.len {ms : List Mbr} {role : ByteArray} {S : List ByteArray} (h : Fnd ms role S) : S.length ≤ ms.length + 1 := by
  have := nodup_le h.nd h.sub
  simpa using this
end Go.Proofs.YticjnndhpfdajaaGreat
/- law08: large, the document's R, and roles of our own. -/
namespace Go.Proofs.YticjnndhpfdajaaGreat
open Go.RowKit Go.Deep
set_option maxRecDepth 100000
set_option linter.unusedVariables false
/-- roles in rows of our own -/
structure RolIn (w : World) (B : Nat) (hn hm : Hd) (r : Rls) : Prop where
  nam : w.ownsRow B 9 1 hn.v r.names.length (r.names.flatMap nameC)
  mem : w.ownsRow B 185 2 hm.v r.members.length (r.members.flatMap mbrC)
  dis : ∀ g ∈ hn.blk, g ∉ hm.blk
/-- all that roles hold is short -/
def SmRl (r : Rls) : Prop := (Small (r.names.length * 16) ∧ ∀ x ∈ r.names, Small x.size) ∧ (Small (r.members.length * 16) ∧ ∀ m ∈ r.members, Small m.role.size ∧ Small m.of.size)
theorem sm_rls {w : World} {r : Rls} {An Am : Option Addr} {capn capm : Nat} (hn : SlAt w 1 StrR An capn r.names) (hm : SlAt w 2 MbrR Am capm r.members) : SmRl r := ⟨sm_names hn, sm_mem hm fun _ _ h => h.2⟩
theorem RolIn.names {w : World} {B : Nat} {hn hm : Hd} {r : Rls} (h : RolIn w B hn hm r) (sm : SmRl r) : SlAt w 1 StrR hn.a hn.c r.names := own_slf nameC h.nam (fun x hx => ⟨rfl, rfl, sm.1.2 x hx⟩) sm.1.1
theorem RolIn.mbrs {w : World} {B : Nat} {hn hm : Hd} {r : Rls} (h : RolIn w B hn hm r) (sm : SmRl r) : SlAt w 2 MbrR hm.a hm.c r.members := own_slf mbrC h.mem (fun x hx => ⟨rfl, rfl, sm.2.2 x hx⟩) sm.2.1
theorem RolIn.aft {w w' : World} {B : Nat} {hn hm : Hd} {r : Rls} (h : RolIn w B hn hm r) (a : Aft w w') : RolIn w' B hn hm r := ⟨own_aft h.nam a, own_aft h.mem a, h.dis⟩
theorem RolIn.down {w : World} {B B' : Nat} {hn hm : Hd} {r : Rls} (h : RolIn w B hn hm r) (hb : B' ≤ B) : RolIn w B' hn hm r := ⟨own_down h.nam hb, own_down h.mem hb, h.dis⟩
theorem RolIn.vn {w : World} {B : Nat} {hn hm : Hd} {r : Rls} (h : RolIn w B hn hm r) : hn.v = .slice hn.a r.names.length hn.c := own_slice h.nam
theorem RolIn.vm {w : World} {B : Nat} {hn hm : Hd} {r : Rls} (h : RolIn w B hn hm r) : hm.v = .slice hm.a r.members.length hm.c := own_slice h.mem
theorem lvRol_row {W : World} {b : Nat} {a c : Value} (h : RowAt W b [a, c]) : (loadVar 56 ⟨b, 0, none⟩).run Tryz.prog W = .ok (.agg #[a, c]) W := by
  have e0 := h.cell (j := 0) rfl
  have e1 := h.cell (j := 1) rfl
  have h1 := run_lvRol W b 0 (by rw [e0]; rfl) (by rw [e1]; rfl)
  rw [e0, e1] at h1
  exact h1
theorem rowAt_new8 (w : World) (c : List Value) (t : TypeId) : RowAt (w.alloc (.cells c.toArray t)) w.heap.size c := by
  refine ⟨by simp, fun j hj => ?_, fun j hj => ?_⟩
  · rw [World.cell?_alloc_at _ _ _ _ rfl]; simp
  · exact World.frozen?_alloc_at _ _ _ _ rfl
def bA : ByteArray := ⟨#[97]⟩
def bB : ByteArray := ⟨#[98]⟩
theorem reachB_refl (ms : List Mbr) (s : ByteArray) : reachB ms s s = true := by
  unfold reachB
  simp only [decide_eq_true_eq]
  exact .refl _
end Go.Proofs.YticjnndhpfdajaaGreat
