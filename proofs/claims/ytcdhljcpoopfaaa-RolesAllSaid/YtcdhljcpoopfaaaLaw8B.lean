/- The law RolesOn, walked; and the plain law behind it. -/
import Derived.Test.YtcdhljcpoopfaaaAll8
import Derived.Test.YtcdhljcpoopfaaaRefRight8
namespace Go.Proofs.Ytcdhljcpoopfaaa
open Go.RowKit Go.Deep
set_option maxRecDepth 100000
set_option linter.unusedVariables false
theorem isB_eq (r : Rls) (a b : ByteArray) : isB r a b = (rightR r && inB r.names a && (reachB r.members a b && inB r.names b)) := by
  unfold isB
  rw [inB_filter]
theorem reachB_iff (ms : List Mbr) (a b : ByteArray) : reachB ms a b = true ↔ Reach ms (txt a) (txt b) := by
  unfold reachB
  simp only [decide_eq_true_eq]
theorem isB_iff (r : Rls) (a b : ByteArray) : isB r a b = true ↔ rightR r = true ∧ inB r.names a = true ∧ Reach r.members (txt a) (txt b) ∧ inB r.names b = true := by
  rw [isB_eq]
  simp only [Bool.and_eq_true, reachB_iff]
  constructor
  · rintro ⟨⟨h1, h2⟩, h3, h4⟩; exact ⟨h1, h2, h3, h4⟩
  · rintro ⟨h1, h2, h3, h4⟩; exact ⟨⟨h1, h2⟩, h3, h4⟩
theorem isB_trans {r : Rls} {a b c : ByteArray} (h1 : isB r a b = true) (h2 : isB r b c = true) : isB r a c = true := by
  rw [isB_iff] at *
  exact ⟨h1.1, h1.2.1, h1.2.2.1.trans h2.2.2.1, h2.2.2.2⟩
/-- a way is none, or has a first step -/
theorem Reach.first {ms : List Mbr} {s u : Txt} (h : Reach ms s u) : s = u ∨ ∃ x ∈ succ ms s, Reach ms (txt x) u := by
  induction h with
  | refl => exact .inl rfl
  | step h1 hx he ih =>
    rcases ih with e | ⟨y, hy, hr⟩
    · subst e
      exact .inr ⟨_, hx, by rw [← he]; exact .refl _⟩
    · exact .inr ⟨y, hy, hr.step hx he⟩
theorem rightR_noring {r : Rls} (h : rightR r = true) {m : Mbr} (hm : m ∈ r.members) : ¬ Reach r.members (txt m.of) (txt m.role) := by
  rw [rightR_rows] at h
  simp only [Bool.and_eq_true, List.all_eq_true] at h
  have := h.2.2 m hm
  rw [Bool.not_eq_true'] at this
  intro hr
  rw [← reachB_iff] at hr
  rw [hr] at this
  cases this
theorem isB_anti {r : Rls} {a b : ByteArray} (h1 : isB r a b = true) (h2 : isB r b a = true) : eqS a b = true := by
  rw [isB_iff] at *
  rcases h1.2.2.1.first with e | ⟨x, hx, hr⟩
  · exact (eqS_txt a b).2 e
  · exfalso
    unfold succ at hx
    obtain ⟨m, hm, rfl⟩ := List.mem_map.1 hx
    obtain ⟨hm, he⟩ := List.mem_filter.1 hm
    have he : txt m.role = txt a := by simpa using he
    refine rightR_noring h1.1 hm ?_
    rw [he]
    exact hr.trans h2.2.2.1
theorem oneR_is : isB oneR bA bC = true := by
  rw [isB_eq, oneR_ok]
  have : reachB oneR.members bA bC = true := reachB_step oneR.members ⟨bA, bB⟩ bC (by simp [oneR]) (reachB_step oneR.members ⟨bB, bC⟩ bC (by simp [oneR]) (reachB_refl _ _))
  rw [this]
  decide +kernel
theorem oneR_isnt : isB oneR bC bA = false := by
  rw [isB_eq]
  have : reachB oneR.members bC bA = false := reachB_out _ _ _ [bC] (by decide +kernel) (by decide +kernel) (by decide +kernel)
  rw [this]
  simp
theorem is8_in {w : World} {B : Nat} {hn hm : Hd} {r : Rls} (h : RolIn w B hn hm r) (sm : SmRl r) (a b : ByteArray) (ha : Small a.size) : ∀ w', Aft w w' → Calls Try.prog 20 #[.agg #[hn.v, hm.v], .string a, .string b] w' fun e w'' => e = .returned (.bool (isB r a b)) ∧ Aft w' w'' := fun w' x => by
  rw [h.vn, h.vm]
  exact is8 r hn.a hn.c hm.a hm.c a b w' (strs_aft x (h.names sm)) (mbrs_aft x (h.mbrs sm)) ha
set_option maxHeartbeats 4000000 in
theorem lawis8 (w : World) : Calls Try.prog 19 #[] w fun e w' => e = .returned (.bool true) ∧ Aft w w' := by
  go_enter Try.func19, Try.ntmps19
  go_wp2_with fail
  refine (one8 _).mono ?_
  rintro e w1 ⟨hn, hm, rfl, a1, rin⟩
  have C1 := Lib.hid (oneR_is ▸ is8_in rin sm_one bA bC (by unfold Small; decide) w1 (Aft.refl _))
  have HA1 := Lib.hid a1
  clear a1 rin
  go_wp2_with fail
  refine C1.out.mono ?_
  rintro e w2 ⟨rfl, a2⟩
  have HA2 := Lib.hid (HA1.out.trans a2)
  clear a2
  go_wp2_with fail
  refine (one8 _).mono ?_
  rintro e w3 ⟨hn', hm', rfl, a3, rin⟩
  have C2 := Lib.hid (oneR_isnt ▸ is8_in rin sm_one bC bA (by unfold Small; decide) w3 (Aft.refl _))
  have HA3 := Lib.hid (HA2.out.trans a3)
  clear a3 rin
  go_wp2_with fail
  refine C2.out.mono ?_
  rintro e w4 ⟨rfl, a4⟩
  have HA4 := Lib.hid (HA3.out.trans a4)
  clear a4
  go_wp2_with fail
  go_ret
  exact ⟨rfl, HA4.out⟩
set_option maxHeartbeats 4000000 in
theorem law_on8 (r : Rls) (An : Option Addr) (capn : Nat) (Am : Option Addr) (capm : Nat) (a b c : ByteArray) (w : World) (hn : SlAt w 1 StrR An capn r.names) (hm : SlAt w 2 MbrR Am capm r.members) (ha : Small a.size) (hb : Small b.size) :
    Calls Try.prog 5 #[.agg #[.slice An r.names.length capn, .slice Am r.members.length capm], .string a, .string b, .string c] w fun e w' => e = .returned (.bool true) ∧ Aft w w' := by
  obtain ⟨bg, hbg⟩ : ∃ b, bigR r = b := ⟨_, rfl⟩
  have CL := Lib.hid (show ∀ w', _ from fun w' => hbg ▸ large8 r An capn Am capm w')
  obtain ⟨pab, hab⟩ : ∃ p, isB r a b = p := ⟨_, rfl⟩
  obtain ⟨pbc, hbc⟩ : ∃ p, isB r b c = p := ⟨_, rfl⟩
  obtain ⟨pac, hac⟩ : ∃ p, isB r a c = p := ⟨_, rfl⟩
  obtain ⟨pba, hba⟩ : ∃ p, isB r b a = p := ⟨_, rfl⟩
  obtain ⟨q, hq⟩ : ∃ q, eqS a b = q := ⟨_, rfl⟩
  have hq2 : (a.toList == b.toList) = q := hq
  have HT := Lib.hid (show pab = true → pbc = true → pac = true from fun h1 h2 => by rw [← hac]; exact isB_trans (hab.trans h1) (hbc.trans h2))
  have HU := Lib.hid (show pab = true → pba = true → q = true from fun h1 h2 => by rw [← hq]; exact isB_anti (hab.trans h1) (hba.trans h2))
  have C1 := Lib.hid (show ∀ w', Aft w w' → _ from fun w' x => hab ▸ is8 r An capn Am capm a b w' (strs_aft x hn) (mbrs_aft x hm) ha)
  have C2 := Lib.hid (show ∀ w', Aft w w' → _ from fun w' x => hbc ▸ is8 r An capn Am capm b c w' (strs_aft x hn) (mbrs_aft x hm) hb)
  have C3 := Lib.hid (show ∀ w', Aft w w' → _ from fun w' x => hac ▸ is8 r An capn Am capm a c w' (strs_aft x hn) (mbrs_aft x hm) ha)
  have C4 := Lib.hid (show ∀ w', Aft w w' → _ from fun w' x => hba ▸ is8 r An capn Am capm b a w' (strs_aft x hn) (mbrs_aft x hm) hb)
  clear hab hbc hac hba hq hbg
  go_enter Try.func5, Try.ntmps5
  go_wp2_with fail
  refine (CL.out _).mono ?_
  rintro e w1 ⟨rfl, a1⟩
  obtain ⟨hbox, hfr, hz, hzk, HA⟩ := aft_box a1
  clear a1 CL
  cases bg
  case true =>
    go_wp2_with fail
    go_ret
    exact ⟨rfl, HA.out⟩
  go_wp2_with fail
  refine (C1.out _ HA.out).mono ?_
  rintro e w2 ⟨rfl, a2⟩
  obtain ⟨hbox, hfr, hz, hzk⟩ := box_aft hbox hfr hz.1 a2
  have HA2 := Lib.hid (HA.out.trans a2)
  clear a2
  cases pab
  · go_wp2_with fail
    refine (lawis8 _).mono ?_
    rintro e w3 ⟨rfl, a3⟩
    obtain ⟨hbox, hfr, hz, hzk⟩ := box_aft hbox hfr hz.1 a3
    have HA3 := Lib.hid (HA2.out.trans a3)
    clear a3
    cases q
    · go_wp2_with fail
      refine (C1.out _ HA3.out).mono ?_
      rintro e w4 ⟨rfl, a4⟩
      have HA4 := Lib.hid (HA3.out.trans a4)
      clear a4
      go_wp2_with fail
      go_ret
      exact ⟨rfl, HA4.out⟩
    · go_wp2_with fail
      go_ret
      exact ⟨rfl, HA3.out⟩
  go_wp2_with fail
  refine (C2.out _ HA2.out).mono ?_
  rintro e w3 ⟨rfl, a3⟩
  obtain ⟨hbox, hfr, hz, hzk⟩ := box_aft hbox hfr hz.1 a3
  have HA3 := Lib.hid (HA2.out.trans a3)
  clear a3
  cases pbc
  · go_wp2_with fail
    refine (lawis8 _).mono ?_
    rintro e w4 ⟨rfl, a4⟩
    obtain ⟨hbox, hfr, hz, hzk⟩ := box_aft hbox hfr hz.1 a4
    have HA4 := Lib.hid (HA3.out.trans a4)
    clear a4
    cases q
    · have hpba : pba = false := by
        cases pba
        · rfl
        · have hx := HU.out (by first | trivial | rfl) (by first | trivial | rfl)
          simp at hx
      subst hpba
      go_wp2_with fail
      refine (C1.out _ HA4.out).mono ?_
      rintro e w5 ⟨rfl, a5⟩
      obtain ⟨hbox, hfr, hz, hzk⟩ := box_aft hbox hfr hz.1 a5
      have HA5 := Lib.hid (HA4.out.trans a5)
      clear a5
      go_wp2_with fail
      refine (C4.out _ HA5.out).mono ?_
      rintro e w6 ⟨rfl, a6⟩
      have HA6 := Lib.hid (HA5.out.trans a6)
      clear a6
      go_wp2_with fail
      go_ret
      exact ⟨rfl, HA6.out⟩
    · go_wp2_with fail
      go_ret
      exact ⟨rfl, HA4.out⟩
  · have hpac : pac = true := HT.out (by first | trivial | rfl) (by first | trivial | rfl)
    subst hpac
    go_wp2_with fail
    refine (C3.out _ HA3.out).mono ?_
    rintro e w7 ⟨rfl, a7⟩
    obtain ⟨hbox, hfr, hz, hzk⟩ := box_aft hbox hfr hz.1 a7
    have HA7 := Lib.hid (HA3.out.trans a7)
    clear a7
    go_wp2_with fail
    refine (lawis8 _).mono ?_
    rintro e w4 ⟨rfl, a4⟩
    obtain ⟨hbox, hfr, hz, hzk⟩ := box_aft hbox hfr hz.1 a4
    have HA4 := Lib.hid (HA7.out.trans a4)
    clear a4
    cases q
    · have hpba : pba = false := by
        cases pba
        · rfl
        · have hx := HU.out (by first | trivial | rfl) (by first | trivial | rfl)
          simp at hx
      subst hpba
      go_wp2_with fail
      refine (C1.out _ HA4.out).mono ?_
      rintro e w5 ⟨rfl, a5⟩
      obtain ⟨hbox, hfr, hz, hzk⟩ := box_aft hbox hfr hz.1 a5
      have HA5 := Lib.hid (HA4.out.trans a5)
      clear a5
      go_wp2_with fail
      refine (C4.out _ HA5.out).mono ?_
      rintro e w6 ⟨rfl, a6⟩
      have HA6 := Lib.hid (HA5.out.trans a6)
      clear a6
      go_wp2_with fail
      go_ret
      exact ⟨rfl, HA6.out⟩
    · go_wp2_with fail
      go_ret
      exact ⟨rfl, HA4.out⟩
end Go.Proofs.Ytcdhljcpoopfaaa
