/- The law ObjectsChecks, walked. -/
import Derived.Test.YtodifdofgjfkiaaLarge
import Derived.Test.YtodifdofgjfkiaaRefRight
namespace Go.Proofs.Ytodifdofgjfkiaa
open Go.RowKit
set_option maxRecDepth 100000
set_option linter.unusedVariables false
set_option maxHeartbeats 4000000 in
theorem checks_any (w : World) : Calls Try.prog 16 #[] w fun e w' => e = .returned (.bool true) ∧ Aft w w' := by
  go_enter Try.func16, Try.ntmps16
  go_wp2_with fail
  refine (one_any _).mono ?_
  rintro e w1 ⟨As, caps, At, capt, rfl, a1, h1, h2⟩
  have C1 := Lib.hid (show ∀ w', Aft w1 w' → Calls Try.prog 17 #[.agg #[.slice As 1 caps, .slice At 1 capt]] w' fun e w'' => e = .returned (.int .i64 0) ∧ Aft w' w'' from
    fun w' a => (check_any oneO As caps At capt w' (schs_aft a h1) (tabs_aft a h2)).mono fun e w'' ⟨he, hw⟩ => ⟨he.trans (by unfold checkE; rw [oneO_ok]; rfl), hw⟩)
  have C2 := Lib.hid (show ∀ w', Aft w1 w' → Calls Try.prog 17 #[.agg #[.slice none 0 0, .slice At 1 capt]] w' fun e w'' => e = .returned (.int .i64 63) ∧ Aft w' w'' from
    fun w' a => (check_any ⟨[], oneO.tables⟩ none 0 At capt w' slAt_nil (tabs_aft a h2)).mono fun e w'' ⟨he, hw⟩ => ⟨he.trans (by unfold checkE; rw [oneO_no]; rfl), hw⟩)
  have HA1 := Lib.hid a1
  clear a1 h1 h2
  go_wp2_with fail
  refine (C1.out _ ((Aft.refl _).alloc _)).mono ?_
  rintro e w2 ⟨rfl, a2⟩
  obtain ⟨hbox, hfr, hz, hzk, HA2⟩ := aft_box a2
  clear a2
  go_wp2_with fail
  refine (C2.out _ HA2.out).mono ?_
  rintro e w3 ⟨rfl, a3⟩
  have HA3 := Lib.hid (HA1.out.trans (HA2.out.trans a3))
  clear a3
  go_wp2_with fail
  go_ret
  exact ⟨rfl, HA3.out⟩
set_option maxHeartbeats 4000000 in
theorem law_checks (o : Objs) (As : Option Addr) (caps : Nat) (At : Option Addr) (capt : Nat) (w : World) (hsch : SlAt w 2 SchR As caps o.schemas) (htab : SlAt w 5 TabR At capt o.tables) :
    Calls Try.prog 3 #[.agg #[.slice As o.schemas.length caps, .slice At o.tables.length capt]] w
      fun e w' => e = .returned (.bool true) ∧ Aft w w' := by
  obtain ⟨c, hc⟩ : ∃ c, checkO o = c := ⟨_, rfl⟩
  have CL := Lib.hid (show ∀ w', Aft w w' → _ from fun w' a => large_any o As caps At capt w' (schs_aft a hsch) (tabs_aft a htab))
  have CK := Lib.hid (show ∀ w', Aft w w' → Calls Try.prog 17 #[.agg #[.slice As o.schemas.length caps, .slice At o.tables.length capt]] w' fun e w'' => e = .returned (.int .i64 (if c = true then 0 else 63)) ∧ Aft w' w'' from
    fun w' a => (check_any o As caps At capt w' (schs_aft a hsch) (tabs_aft a htab)).mono fun e w'' ⟨he, hw⟩ => ⟨he.trans (by unfold checkE; rw [hc]), hw⟩)
  have CR := Lib.hid (show ∀ w', Aft w w' → Calls Try.prog 18 #[.agg #[.slice As o.schemas.length caps, .slice At o.tables.length capt]] w' fun e w'' => e = .returned (.bool c) ∧ Aft w' w'' from
    fun w' a => (rRight_any o As caps At capt w' (schs_aft a hsch) (tabs_aft a htab)).mono fun e w'' ⟨he, hw⟩ => ⟨he.trans (by rw [hc]), hw⟩)
  clear hc
  go_enter Try.func3, Try.ntmps3
  go_wp2_with fail
  refine (CL.out _ ((Aft.refl _).alloc _)).mono ?_
  rintro e w1 ⟨b, rfl, a1⟩
  obtain ⟨hbox, hfr, hz, hzk, HA⟩ := aft_box a1
  clear a1 CL
  cases b
  · cases c
    · have CK' := Lib.hid (show ∀ x : Lat w1, Calls Try.prog 17 #[.agg #[.slice As o.schemas.length caps, .slice At o.tables.length capt]] (lat w1 x) fun e w'' => e = .returned (.int .i64 63) ∧ Aft (lat w1 x) w'' from fun x => CK.out _ (HA.out.lat x))
      have CR' := Lib.hid (show ∀ x : Lat w1, Calls Try.prog 18 #[.agg #[.slice As o.schemas.length caps, .slice At o.tables.length capt]] (lat w1 x) fun e w'' => e = .returned (.bool false) ∧ Aft (lat w1 x) w'' from fun x => CR.out _ (HA.out.lat x))
      go_wp2_with fail
      refine wp_region_lat (by kernel_rfl) (by kernel_rfl) ?_
      repeat (go_big_quiet_step ((first | (go_at_call 17; exact Calls.lat_of (CK'.out _)) | (go_at_call 18; exact Calls.lat_of (CR'.out _)) | (go_at_call 16; exact Calls.lat_of (checks_any _)))))
      refine wpQuiet_nil ?_
      intro _ hw'
      obtain ⟨x, hw''⟩ := hw'
      subst hw''
      go_wp2_with fail
      go_ret
      exact ⟨rfl, HA.out.lat x⟩
    · have CK' := Lib.hid (show ∀ x : Lat w1, Calls Try.prog 17 #[.agg #[.slice As o.schemas.length caps, .slice At o.tables.length capt]] (lat w1 x) fun e w'' => e = .returned (.int .i64 0) ∧ Aft (lat w1 x) w'' from fun x => CK.out _ (HA.out.lat x))
      have CR' := Lib.hid (show ∀ x : Lat w1, Calls Try.prog 18 #[.agg #[.slice As o.schemas.length caps, .slice At o.tables.length capt]] (lat w1 x) fun e w'' => e = .returned (.bool true) ∧ Aft (lat w1 x) w'' from fun x => CR.out _ (HA.out.lat x))
      go_wp2_with fail
      refine wp_region_lat (by kernel_rfl) (by kernel_rfl) ?_
      repeat (go_big_quiet_step ((first | (go_at_call 17; exact Calls.lat_of (CK'.out _)) | (go_at_call 18; exact Calls.lat_of (CR'.out _)) | (go_at_call 16; exact Calls.lat_of (checks_any _)))))
      refine wpQuiet_nil ?_
      intro _ hw'
      obtain ⟨x, hw''⟩ := hw'
      subst hw''
      go_wp2_with fail
      go_ret
      exact ⟨rfl, HA.out.lat x⟩
  · go_wp2_with fail
    go_ret
    exact ⟨rfl, HA.out⟩
end Go.Proofs.Ytodifdofgjfkiaa
