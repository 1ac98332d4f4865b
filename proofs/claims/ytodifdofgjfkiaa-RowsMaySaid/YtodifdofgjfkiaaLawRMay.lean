/- The law RowsMay, walked. -/
import Derived.Test.YtodifdofgjfkiaaAlone
import Derived.Test.YtodifdofgjfkiaaRefForm
import Derived.Test.YtodifdofgjfkiaaLarge11
namespace Go.Proofs.Ytodifdofgjfkiaa
open Go.RowKit
set_option maxRecDepth 100000
set_option linter.unusedVariables false
theorem oneT_ok : tableOk oneT = true := by decide +kernel
theorem may_5 : mayV ⟨2, 5, ⟨#[]⟩⟩ = true := by decide +kernel
theorem may_no : mayV ⟨2, 5, ⟨#[97]⟩⟩ = false := by decide +kernel
set_option maxHeartbeats 4000000 in
theorem may11_any (w : World) : Calls Try.prog 34 #[] w fun e w' => e = .returned (.bool true) ∧ Aft w w' := by
  have C1 := Lib.hid (show ∀ w', Calls Try.prog 35 #[.agg #[.int .i64 2, .int .i64 5, .string ⟨#[]⟩]] w' fun e w'' => e = .returned (.bool true) ∧ Aft w' w'' from
    fun w' => (may_any ⟨2, 5, ⟨#[]⟩⟩ w' small0).mono fun e w'' ⟨he, hw⟩ => ⟨he.trans (by rw [may_5]), hw⟩)
  have C2 := Lib.hid (show ∀ w', Calls Try.prog 35 #[.agg #[.int .i64 2, .int .i64 5, .string ⟨#[97]⟩]] w' fun e w'' => e = .returned (.bool false) ∧ Aft w' w'' from
    fun w' => (may_any ⟨2, 5, ⟨#[97]⟩⟩ w' (small1 _)).mono fun e w'' ⟨he, hw⟩ => ⟨he.trans (by rw [may_no]), hw⟩)
  go_enter Try.func34, Try.ntmps34
  go_wp2_with fail
  refine (num_any _ _).mono ?_
  rintro e w1 ⟨rfl, a1⟩
  go_wp2_with fail
  refine (C1.out _).mono ?_
  rintro e w2 ⟨rfl, a2⟩
  have HA2 := Lib.hid (a1.trans a2)
  clear a1 a2
  go_wp2_with fail
  refine (C2.out _).mono ?_
  rintro e w3 ⟨rfl, a3⟩
  have HA3 := Lib.hid (HA2.out.trans a3)
  clear a3
  go_wp2_with fail
  refine (one11_any _).mono ?_
  rintro e w4 ⟨A, A2, rfl, a4, h1, h2⟩
  have HA4 := Lib.hid (HA3.out.trans a4)
  have C3 := Lib.hid (show Calls Try.prog 33 #[.agg #[.string ⟨#[]⟩, .string ⟨#[]⟩, .string ⟨#[]⟩, .slice A 2 2, .slice A2 2 2]] w4 fun e w'' => e = .returned (.int .i64 0) ∧ Aft w4 w'' from
    (rcheck_any oneT A 2 A2 2 w4 h1 h2 (by decide)).mono fun e w'' ⟨he, hw⟩ => ⟨he.trans (by rw [oneT_ok]; rfl), hw⟩)
  clear a4 h1 h2
  go_wp2_with fail
  refine C3.out.mono ?_
  rintro e w5 ⟨rfl, a5⟩
  have HA5 := Lib.hid (HA4.out.trans a5)
  clear a5
  go_wp2_with fail
  go_ret
  exact ⟨rfl, HA5.out⟩
set_option maxHeartbeats 8000000 in
theorem law_rmay (v : Val) (t : Tab) (a b : List Val) (A : Option Addr) (cap : Nat) (A2 : Option Addr) (cap2 : Nat) (B : Option Addr) (capB : Nat) (D : Option Addr) (capD : Nat) (w : World) (hv : Small v.text.size) (h : SlAt w 3 ColR A cap t.cols) (h2 : SlAt w 8 RulR A2 cap2 t.rules) (h3 : SlAt w 3 ValR B capB a) (h4 : SlAt w 3 ValR D capD b) :
    Calls Try.prog 6 #[.agg #[.int .i64 v.kind, .int .i64 v.int, .string v.text], .agg #[.string t.schema, .string t.name, .string t.owner, .slice A t.cols.length cap, .slice A2 t.rules.length cap2], .slice B a.length capB, .slice D b.length capD] w
      fun e w' => e = .returned (.bool true) ∧ Aft w w' := by
  have hlb := h4.len
  have CL := Lib.hid (show ∀ w', Aft w w' → _ from fun w' x => large11_any t A cap A2 cap2 B capB a w' (cols_aft x h) (ruls_aft x h2) (vals_aft x h3))
  go_enter Try.func6, Try.ntmps6
  go_wp2_with fail
  refine (CL.out _ (((Aft.refl w).alloc _).alloc _)).mono ?_
  rintro e w1 ⟨g, rfl, a1, hg⟩
  obtain ⟨hb1, hb2, hz, HA⟩ := aft_box2 a1
  clear a1 CL
  cases g
  · have hsm : t.rules.length ≤ 1000000 := by have := hg rfl; omega
    by_cases hbl : 3000 < b.length
    · have hb' : (3000 : Int) < (b.length : Int) := by omega
      go_wp2_with fail
      go_ret
      exact ⟨rfl, HA.out⟩
    have hb' : (b.length : Int) ≤ 3000 := by omega
    obtain ⟨c, hc⟩ : ∃ c, tableOk t = c := ⟨_, rfl⟩
    obtain ⟨m, hm⟩ : ∃ m, mayV v = m := ⟨_, rfl⟩
    obtain ⟨s, hs⟩ : ∃ s, eqVs a b = s := ⟨_, rfl⟩
    have CK := Lib.hid (show ∀ w', Aft w w' → Calls Try.prog 33 #[.agg #[.string t.schema, .string t.name, .string t.owner, .slice A t.cols.length cap, .slice A2 t.rules.length cap2]] w' fun e w'' => e = .returned (.int .i64 (if c = true then 0 else 1)) ∧ Aft w' w'' from
      fun w' x => (rcheck_any t A cap A2 cap2 w' (cols_aft x h) (ruls_aft x h2) hsm).mono fun e w'' ⟨he, hw⟩ => ⟨he.trans (by rw [hc]), hw⟩)
    go_wp2_with fail
    refine (CK.out _ HA.out).mono ?_
    rintro e w2 ⟨rfl, a2⟩
    have hc1 : ∀ o, w2.cell? ⟨w.heap.size, o, none⟩ = _ := fun o => (Below.cell a2 (p := ⟨w.heap.size, o, none⟩) hz.1).trans (hb1 o)
    have hc2 : ∀ o, w2.cell? ⟨w.heap.size + 1, o, none⟩ = _ := fun o => (Below.cell a2 (p := ⟨w.heap.size + 1, o, none⟩) hz.2).trans (hb2 o)
    have hz2 : w.heap.size < w2.heap.size ∧ w.heap.size + 1 < w2.heap.size := ⟨Nat.lt_of_lt_of_le hz.1 a2.size, Nat.lt_of_lt_of_le hz.2 a2.size⟩
    have HA2 := Lib.hid (HA.out.trans a2)
    have D1 := Lib.hid (show ∀ x : Lat w2, Calls Try.prog 35 #[.agg #[.int .i64 v.kind, .int .i64 v.int, .string v.text]] (lat w2 x) fun e w'' => e = .returned (.bool m) ∧ Aft (lat w2 x) w'' from
      fun x => (may_any v _ hv).mono fun e w'' ⟨he, hw⟩ => ⟨he.trans (by rw [hm]), hw⟩)
    have D2 := Lib.hid (show ∀ x : Lat w2, Calls Try.prog 36 #[.agg #[.int .i64 v.kind, .int .i64 v.int, .string v.text]] (lat w2 x) fun e w'' => e = .returned (.bool m) ∧ Aft (lat w2 x) w'' from
      fun x => (rmay_any v _ hv).mono fun e w'' ⟨he, hw⟩ => ⟨he.trans (by rw [hm]), hw⟩)
    have D3 := Lib.hid (show ∀ x : Lat w2, Calls Try.prog 37 #[.agg #[.string t.schema, .string t.name, .string t.owner, .slice A t.cols.length cap, .slice A2 t.rules.length cap2]] (lat w2 x) fun e w'' => e = .returned (.bool c) ∧ Aft (lat w2 x) w'' from
      fun x => (rtable_any t A cap A2 cap2 _ (cols_aft (HA2.out.lat x) h) (ruls_aft (HA2.out.lat x) h2)).mono fun e w'' ⟨he, hw⟩ => ⟨he.trans (by rw [hc]), hw⟩)
    have D4 := Lib.hid (show ∀ x : Lat w2, Calls Try.prog 38 #[.slice B a.length capB, .slice D b.length capD] (lat w2 x) fun e w'' => e = .returned (.bool s) ∧ Aft (lat w2 x) w'' from
      fun x => (same_any B capB a D capD b _ (vals_aft (HA2.out.lat x) h3) (vals_aft (HA2.out.lat x) h4)).mono fun e w'' ⟨he, hw⟩ => ⟨he.trans (by rw [hs]), hw⟩)
    have D5 := Lib.hid (show ∀ x : Lat w2, Calls Try.prog 39 #[.slice B a.length capB, .slice D b.length capD] (lat w2 x) fun e w'' => e = .returned (.bool s) ∧ Aft (lat w2 x) w'' from
      fun x => (rsame_any B capB a D capD b _ (vals_aft (HA2.out.lat x) h3) (vals_aft (HA2.out.lat x) h4)).mono fun e w'' ⟨he, hw⟩ => ⟨he.trans (by rw [hs]), hw⟩)
    have D6 := Lib.hid (show ∀ x : Lat w2, Calls Try.prog 38 #[.slice B a.length capB, .slice B a.length capB] (lat w2 x) fun e w'' => e = .returned (.bool true) ∧ Aft (lat w2 x) w'' from
      fun x => (same_any B capB a B capB a _ (vals_aft (HA2.out.lat x) h3) (vals_aft (HA2.out.lat x) h3)).mono fun e w'' ⟨he, hw⟩ => ⟨he.trans (by rw [eqVs_refl]), hw⟩)
    clear hc hm hs a2 CK hb1 hb2 hz HA hg
    cases c <;> cases m <;> cases s
    all_goals
      go_wp2_with fail
      refine wp_region_lat (by kernel_rfl) (by kernel_rfl) ?_
      repeat (go_big_quiet_step ((first | (go_at_call 34; exact Calls.lat_of (may11_any _)) | (go_at_call 35; exact Calls.lat_of (D1.out _)) | (go_at_call 36; exact Calls.lat_of (D2.out _)) | (go_at_call 37; exact Calls.lat_of (D3.out _)) | (go_at_call 38; first | exact Calls.lat_of (D6.out _) | exact Calls.lat_of (D4.out _)) | (go_at_call 39; exact Calls.lat_of (D5.out _)))))
      refine wpQuiet_nil ?_
      intro _ hw'
      obtain ⟨x, hw''⟩ := hw'
      subst hw''
      go_wp2_with fail
      go_ret
      exact ⟨rfl, HA2.out.lat x⟩
  · go_wp2_with fail
    go_ret
    exact ⟨rfl, HA.out⟩
end Go.Proofs.Ytodifdofgjfkiaa
