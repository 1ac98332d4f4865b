/- The law RolesAll, walked. -/
import Derived.Test.YtcdhljcpoopfaaaLaw8B
import Derived.Test.YtcdhljcpoopfaaaSame8
import Derived.Test.YtcdhljcpoopfaaaOwn8
namespace Go.Proofs.Ytcdhljcpoopfaaa
open Go.RowKit Go.Deep
set_option maxRecDepth 100000
set_option linter.unusedVariables false
theorem bigR_len {r : Rls} (h : bigR r = false) : r.names.length ≤ 1000 ∧ r.members.length ≤ 1000 := by
  unfold bigR at h
  simp only [Bool.or_eq_false_iff, decide_eq_false_iff_not] at h
  omega
/-- a row of our own that is written over -/
def OverS (X wr : World) (v : Value) (n : Nat) : Prop := Aft X wr ∧ ∃ l : List ByteArray, l.length = n ∧ wr.ownsRow X.heap.size 9 1 v n (l.flatMap nameC)
theorem OverS.cell {X wr : World} {A : Option Addr} {n c k : Nat} (h : OverS X wr (.slice A n c) n) (hk : k < n) : ∃ g, A = some ⟨g, 0, none⟩ ∧ X.heap.size ≤ g ∧ g < wr.heap.size ∧ (∃ u, wr.cell? ⟨g, k, none⟩ = some u) ∧ wr.frozen? ⟨g, k, none⟩ = false ∧ ∀ s : ByteArray, OverS X (wr.setCell ⟨g, k, none⟩ (.string s)) (.slice A n c) n := by
  obtain ⟨a, l, hl, ho⟩ := h
  obtain ⟨g, cap, hv, hB, hnc, hr⟩ := own_rowAt ho (by omega)
  simp only [Value.slice.injEq, true_and] at hv
  obtain ⟨rfl, rfl⟩ := hv
  have hfl : (l.flatMap nameC).length = n * 1 := by rw [flatMap_len (size := 1) (fun _ => rfl), hl]
  refine ⟨g, rfl, hB, hr.1, ⟨_, by rw [hr.2.1 k (by rw [hfl]; omega), List.getElem?_eq_getElem (by rw [hfl]; omega)]⟩, hr.2.2 k (by rw [hfl]; omega), fun s => ⟨a.setCell _ _ hB, l.set k s, by rw [List.length_set]; exact hl, ?_⟩⟩
  have h1 := own_set ho (g := g) rfl (k * 1) (.string s)
  rw [← Nat.add_zero (k * 1), flatMap_set (f := nameC) (fun _ => rfl) l k 0 (by omega) (by decide) (.string s) s rfl, Nat.add_zero, Nat.mul_one] at h1
  exact h1
theorem OverS.aft {X wr wr' : World} {v : Value} {n : Nat} (h : OverS X wr v n) (a : Aft wr wr') : OverS X wr' v n := by
  obtain ⟨b, l, hl, ho⟩ := h
  exact ⟨b.trans a, l, hl, own_aft ho a⟩
set_option maxHeartbeats 8000000 in
theorem law_all8 (r : Rls) (An : Option Addr) (capn : Nat) (Am : Option Addr) (capm : Nat) (role of : ByteArray) (w : World) (hn : SlAt w 1 StrR An capn r.names) (hm : SlAt w 2 MbrR Am capm r.members) (hrs : Small role.size) :
    Calls Try.prog 4 #[.agg #[.slice An r.names.length capn, .slice Am r.members.length capm], .string role, .string of] w fun e w' => e = .returned (.bool true) ∧ Aft w w' := by
  obtain ⟨bg, hbg⟩ : ∃ b, bigR r = b := ⟨_, rfl⟩
  have CL := Lib.hid (show ∀ w', _ from fun w' => hbg ▸ large8 r An capn Am capm w')
  have HB := Lib.hid (show bg = false → r.names.length ≤ 1000 ∧ r.members.length ≤ 1000 from fun h => bigR_len (hbg.trans h))
  have HSM := Lib.hid (sm_rls hn hm)
  have HNM := Lib.hid (And.intro hn hm)
  clear hbg hn hm
  go_enter Try.func4, Try.ntmps4
  go_wp2_with fail
  refine (CL.out _).mono ?_
  rintro e w1 ⟨rfl, a1⟩
  obtain ⟨hbox, hfr, hz, hzk, HA⟩ := aft_box a1
  clear a1 CL
  cases bg
  case true =>
    go_wp2_with fail
    go_ret
    exact ⟨rfl, HA.out⟩
  have hb := HB.out (by first | trivial | rfl)
  have CO := Lib.hid (own8 r An capn Am capm w1 (strs_aft HA.out HNM.out.1) (mbrs_aft HA.out HNM.out.2) hb.1 hb.2)
  clear hb
  go_wp2_with fail
  refine CO.out.mono ?_
  rintro e w2 ⟨hon, hom, rfl, a2, rin⟩
  obtain ⟨hbox, hfr, hz, hzk⟩ := box_aft hbox hfr hz.1 a2
  have HA2 := Lib.hid (HA.out.trans a2)
  rw [rin.vn, rin.vm]
  have HRIN := Lib.hid rin
  obtain ⟨X, hX⟩ : ∃ X, X = w2.alloc (.cells #[.slice hon.a r.names.length hon.c, .slice hom.a r.members.length hom.c] 25) := ⟨_, rfl⟩
  have aX : Aft w2 X := by rw [hX]; exact (Aft.refl w2).alloc _
  have HAX := Lib.hid (HA2.out.trans aX)
  have HRX := Lib.hid (rin.aft aX)
  have HC1 := Lib.hid (all8 r An capn Am capm role X (strs_aft HAX.out HNM.out.1) (mbrs_aft HAX.out HNM.out.2) hrs)
  have K0 := Lib.hid (show ∀ w', Aft X w' → (w'.cell? ⟨w.heap.size, 0, none⟩ = some (.slice An r.names.length capn) ∧ w'.cell? ⟨w.heap.size, 1, none⟩ = some (.slice Am r.members.length capm) ∧ w'.cell? ⟨w2.heap.size, 0, none⟩ = some (.slice hon.a r.names.length hon.c) ∧ w'.cell? ⟨w2.heap.size, 1, none⟩ = some (.slice hom.a r.members.length hom.c) ∧ w.heap.size < w'.heap.size ∧ w2.heap.size < w'.heap.size) from fun w' a => by
    have x0 := (aX.trans a).cell_kept (show w2.cell? ⟨w.heap.size, 0, none⟩ = some (.slice An r.names.length capn) by rw [hbox]; rfl)
    have x1 := (aX.trans a).cell_kept (show w2.cell? ⟨w.heap.size, 1, none⟩ = some (.slice Am r.members.length capm) by rw [hbox]; rfl)
    rw [hX] at a
    obtain ⟨hb2, _, hz2, _, _⟩ := aft_box a
    exact ⟨x0, x1, by rw [hb2]; rfl, by rw [hb2]; rfl, World.block_lt_of_cell? _ _ x0, hz2.1⟩)
  have l1 : w.heap.size < w2.heap.size + 1 := by omega
  have HX := Lib.hid hX
  clear a2 rin aX
  go_wp2_with fail
  rw [← HX.out]
  clear hX hbox hfr hz hzk l1
  refine HC1.out.mono ?_
  rintro e w3 ⟨h3, rfl, a3, o3⟩
  obtain ⟨k0, k1, k2, k3, k4, k5⟩ := K0.out w3 a3
  have HC2 := Lib.hid (rall8 r hon.a hon.c hom.a hom.c role w3 (strs_aft a3 (HRX.out.names HSM.out)) (mbrs_aft a3 (HRX.out.mbrs HSM.out)) hrs)
  have HA3 := Lib.hid a3
  have HO3 := Lib.hid o3
  clear a3 o3
  go_wp2_with fail
  refine HC2.out.mono ?_
  rintro e w4 ⟨h4, rfl, a4, o4⟩
  have HSL := Lib.hid (show Small ((allL r role).length * 16) ∧ ∀ x ∈ allL r role, Small x.size from ⟨by have := HSM.out.1.1; have := allL_len r role; unfold Small at *; omega, fun x hx => HSM.out.1.2 x (allL_mem hx)⟩)
  have HC3 := Lib.hid (show Calls Try.prog 18 #[h3.v, h4.v] w4 fun e w' => e = .returned (.bool true) ∧ Aft w4 w' from by
    rw [own_slice HO3.out, own_slice o4]
    exact texts8 h3.a h3.c h4.a h4.c (allL r role) w4 (strs_aft a4 (own_slf nameC HO3.out (fun x hx => ⟨rfl, rfl, HSL.out.2 x hx⟩) HSL.out.1)) (own_slf nameC o4 (fun x hx => ⟨rfl, rfl, HSL.out.2 x hx⟩) HSL.out.1))
  have HA4 := Lib.hid a4
  clear a4 o4 k0 k1 k2 k3 k4 k5
  go_wp2_with fail
  refine HC3.out.mono ?_
  rintro e w5 ⟨rfl, a5⟩
  have HV := Lib.hid (own_slice HO3.out)
  obtain ⟨n, hn⟩ : ∃ n, (allL r role).length = n := ⟨_, rfl⟩
  have hnl : n * 16 ≤ 140737488351232 := by rw [← hn]; exact HSL.out.1
  obtain ⟨A3, n3, c3⟩ := h3
  have hn3 : n3 = n := by rw [← hn]; exact own_n HO3.out
  subst hn3
  have HS := Lib.hid (show OverS X w5 (.slice A3 n3 c3) n3 from ⟨HA3.out.trans (HA4.out.trans a5), allL r role, hn, by have := own_aft HO3.out (HA4.out.trans a5); rw [hn] at this; exact this⟩)
  obtain ⟨E, hE⟩ : ∃ E, allE r role = E := ⟨_, rfl⟩
  rw [hE]
  show (_ : Prop)
  simp only [Hd.v]
  clear a5 hn HV HO3 HA3 HA4 hE HC1 HC2 HC3
  go_wp2_with fail
  go_loopw [13] (fun i wr => ∃ k : Nat, k ≤ n3 ∧ i = .int .i64 k ∧ OverS X wr (.slice A3 n3 c3) n3) (fun i _ => n3 - (intOf i).toNat)
  case atStart => exact ⟨0, Nat.zero_le _, rfl, HS.out⟩
  case round =>
    obtain ⟨k, hk, rfl, hs⟩ := hrel
    by_cases hlt : k < n3
    · obtain ⟨g, rfl, hg1, hg2, ⟨u, hu⟩, hfz, hnx⟩ := hs.cell hlt
      have HNX := Lib.hid (hnx ⟨#[111, 118, 101, 114]⟩)
      clear hnx hs
      go_wp2_with fail
      go_roundw
      case rel => exact ⟨k + 1, by omega, by go_num, HNX.out⟩
      case measure => simp [intOf]; omega
    · have ha := hs.1
      have HAR := Lib.hid ha
      obtain ⟨k0, k1, k2, k3, k4, k5⟩ := K0.out wr ha
      obtain ⟨p, hp⟩ : ∃ p, isB r role of = p := ⟨_, rfl⟩
      have D1 := Lib.hid (show ∀ x : Lat wr, Calls Try.prog 20 #[.agg #[.slice An r.names.length capn, .slice Am r.members.length capm], .string role, .string of] (lat wr x) fun e w' => e = .returned (.bool p) ∧ Aft (lat wr x) w' from fun x => hp ▸ is8 r An capn Am capm role of (lat wr x) (strs_aft (HAX.out.trans (ha.lat x)) HNM.out.1) (mbrs_aft (HAX.out.trans (ha.lat x)) HNM.out.2) hrs)
      have D2 := Lib.hid (show ∀ x : Lat wr, Calls Try.prog 21 #[.agg #[.slice hon.a r.names.length hon.c, .slice hom.a r.members.length hom.c], .string role, .string of] (lat wr x) fun e w' => e = .returned (.bool p) ∧ Aft (lat wr x) w' from fun x => hp ▸ ris8' r hon.a hon.c hom.a hom.c role of (lat wr x) (strs_aft (ha.lat x) (HRX.out.names HSM.out)) (mbrs_aft (ha.lat x) (HRX.out.mbrs HSM.out)) hrs)
      have D3 := Lib.hid (show ∀ x : Lat wr, Calls Try.prog 22 #[.agg #[.slice An r.names.length capn, .slice Am r.members.length capm], .agg #[.slice hon.a r.names.length hon.c, .slice hom.a r.members.length hom.c]] (lat wr x) fun e w' => e = .returned (.bool true) ∧ Aft (lat wr x) w' from fun x => same8 r An capn Am capm hon.a hon.c hom.a hom.c (lat wr x) (strs_aft (HAX.out.trans (ha.lat x)) HNM.out.1) (mbrs_aft (HAX.out.trans (ha.lat x)) HNM.out.2) (strs_aft (ha.lat x) (HRX.out.names HSM.out)) (mbrs_aft (ha.lat x) (HRX.out.mbrs HSM.out)))
      clear ha hs hp
      cases p
      all_goals
        go_wp2_with fail
        refine wp_region_lat (by kernel_rfl) (by kernel_rfl) ?_
        repeat (go_big_quiet_step ((first | (go_at_call 19; exact Calls.lat_of (lawis8 _)) | (go_at_call 20; exact Calls.lat_of (D1.out _)) | (go_at_call 21; exact Calls.lat_of (D2.out _)) | (go_at_call 22; exact Calls.lat_of (D3.out _)))))
        refine wpQuiet_nil ?_
        intro _ hw'
        obtain ⟨y, hw''⟩ := hw'
        subst hw''
        go_wp2_with fail
        go_ret
        exact ⟨rfl, HAX.out.trans (HAR.out.lat y)⟩
end Go.Proofs.Ytcdhljcpoopfaaa
