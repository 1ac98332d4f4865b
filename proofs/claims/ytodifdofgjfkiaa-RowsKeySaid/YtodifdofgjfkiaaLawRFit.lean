/- The law RowsFit, walked. -/
import Derived.Test.YtodifdofgjfkiaaFit
import Derived.Test.YtodifdofgjfkiaaRefFit
import Derived.Test.YtodifdofgjfkiaaLarge11
namespace Go.Proofs.Ytodifdofgjfkiaa
open Go.RowKit
set_option maxRecDepth 100000
set_option linter.unusedVariables false
def valCells (v : Val) : List Value := [.int .i64 v.kind, .int .i64 v.int, .string v.text]
theorem vals_box {w : World} {t : TypeId} (l : List Val) (hs : ∀ v ∈ l, Small v.text.size) (h16 : Small (l.length * 16)) : SlAt (w.alloc (.cells (l.flatMap valCells).toArray t)) 3 ValR (some ⟨w.heap.size, 0, none⟩) l.length l :=
  slAt_box l valCells (l.flatMap valCells).toArray (by simp) (by intro o; exact World.cell?_alloc_at _ _ _ _ rfl) (by simp) (fun _ => rfl) (fun x hx => ⟨rfl, hs x hx⟩) h16 (Nat.le_refl _)
theorem fit_one (A A2 : Option Addr) (w0 w : World) (a : Aft w0 w) (h1 : SlAt w0 3 ColR A 2 oneT.cols) (h2 : SlAt w0 8 RulR A2 2 oneT.rules) (l : List Val) (hs : ∀ v ∈ l, Small v.text.size) (h16 : Small (l.length * 16)) (e : Int) (he : fitE oneT l = e) :
    Calls Try.prog 44 #[.agg #[.string ⟨#[]⟩, .string ⟨#[]⟩, .string ⟨#[]⟩, .slice A 2 2, .slice A2 2 2], .slice (some ⟨w.heap.size, 0, none⟩) l.length l.length] (w.alloc (.cells (l.flatMap valCells).toArray 48)) fun e' w' => e' = .returned (.int .i64 e) ∧ Aft (w.alloc (.cells (l.flatMap valCells).toArray 48)) w' :=
  (fit_any oneT l A 2 A2 2 _ l.length _ (cols_aft (a.alloc _) h1) (ruls_aft (a.alloc _) h2) (vals_box l hs h16) (by decide)).mono fun e' w' ⟨h, hw⟩ => ⟨h.trans (by rw [he]), hw⟩
def v5 : Val := ⟨2, 5, ⟨#[]⟩⟩
def v10 : Val := ⟨2, 10, ⟨#[]⟩⟩
def va : Val := ⟨3, 0, ⟨#[97]⟩⟩
def vn : Val := ⟨1, 0, ⟨#[]⟩⟩
theorem fit_0 : fitE oneT [v5, va] = 0 := by decide +kernel
theorem fit_n : fitE oneT [vn, va] = 101 := by decide +kernel
theorem fit_c : fitE oneT [v10, va] = 102 := by decide +kernel
theorem fit_f : fitE oneT [v5] = 100 := by decide +kernel
theorem sm_two {a b : Val} (ha : Small a.text.size) (hb : Small b.text.size) : ∀ v ∈ [a, b], Small v.text.size := by
  intro v hv
  simp at hv
  rcases hv with rfl | rfl
  · exact ha
  · exact hb
set_option maxHeartbeats 4000000 in
theorem fits11_any (w : World) : Calls Try.prog 43 #[] w fun e w' => e = .returned (.bool true) ∧ Aft w w' := by
  go_enter Try.func43, Try.ntmps43
  go_wp2_with fail
  refine (one11_any _).mono ?_
  rintro e w1 ⟨A, A2, rfl, a1, h1, h2⟩
  go_wp2_with fail
  refine (num_any _ _).mono ?_
  rintro e w2 ⟨rfl, a2⟩
  go_wp2_with fail
  refine (word_any _ _).mono ?_
  rintro e w3 ⟨rfl, a3⟩
  have C1 := Lib.hid (fit_one A A2 w1 w3 (a2.trans a3) h1 h2 [v5, va] (sm_two sm0 (sm1 _)) sm2 0 fit_0)
  have HA1 := Lib.hid (a1.trans (a2.trans a3))
  clear a1 a2 a3 h1 h2
  go_wp2_with fail
  refine C1.out.mono ?_
  rintro e w4 ⟨rfl, a4⟩
  have HA4 := Lib.hid ((HA1.out.alloc _).trans a4)
  clear a4 C1
  go_wp2_with fail
  refine (one11_any _).mono ?_
  rintro e x1 ⟨B, B2, rfl, b1, h1, h2⟩
  go_wp2_with fail
  refine (null_any _).mono ?_
  rintro e x2 ⟨rfl, b2⟩
  go_wp2_with fail
  refine (word_any _ _).mono ?_
  rintro e x3 ⟨rfl, b3⟩
  have C1 := Lib.hid (fit_one B B2 x1 x3 (b2.trans b3) h1 h2 [vn, va] (sm_two sm0 (sm1 _)) sm2 101 fit_n)
  have HA1 := Lib.hid (HA4.out.trans (b1.trans (b2.trans b3)))
  clear b1 b2 b3 h1 h2
  go_wp2_with fail
  refine C1.out.mono ?_
  rintro e x4 ⟨rfl, a4⟩
  have HX4 := Lib.hid ((HA1.out.alloc _).trans a4)
  clear a4 C1
  go_wp2_with fail
  refine (one11_any _).mono ?_
  rintro e y1 ⟨D, D2, rfl, b1, h1, h2⟩
  go_wp2_with fail
  refine (num_any _ _).mono ?_
  rintro e y2 ⟨rfl, b2⟩
  go_wp2_with fail
  refine (word_any _ _).mono ?_
  rintro e y3 ⟨rfl, b3⟩
  have C1 := Lib.hid (fit_one D D2 y1 y3 (b2.trans b3) h1 h2 [v10, va] (sm_two sm0 (sm1 _)) sm2 102 fit_c)
  have HA1 := Lib.hid (HX4.out.trans (b1.trans (b2.trans b3)))
  clear b1 b2 b3 h1 h2
  go_wp2_with fail
  refine C1.out.mono ?_
  rintro e y4 ⟨rfl, a4⟩
  have HY4 := Lib.hid ((HA1.out.alloc _).trans a4)
  clear a4 C1
  go_wp2_with fail
  refine (one11_any _).mono ?_
  rintro e u1 ⟨E, E2, rfl, b1, h1, h2⟩
  go_wp2_with fail
  refine (num_any _ _).mono ?_
  rintro e u2 ⟨rfl, b2⟩
  have C1 := Lib.hid (fit_one E E2 u1 u2 b2 h1 h2 [v5] (by intro v hv; simp at hv; subst hv; exact sm0) (by unfold Small; decide) 100 fit_f)
  have HA1 := Lib.hid (HY4.out.trans (b1.trans b2))
  clear b1 b2 h1 h2
  go_wp2_with fail
  refine C1.out.mono ?_
  rintro e u4 ⟨rfl, a4⟩
  have HU4 := Lib.hid ((HA1.out.alloc _).trans a4)
  clear a4 C1
  go_wp2_with fail
  go_ret
  exact ⟨rfl, HU4.out⟩
set_option maxHeartbeats 4000000 in
theorem law_rfit (t : Tab) (row : List Val) (A : Option Addr) (cap : Nat) (A2 : Option Addr) (cap2 : Nat) (B : Option Addr) (capB : Nat) (w : World) (h : SlAt w 3 ColR A cap t.cols) (h2 : SlAt w 8 RulR A2 cap2 t.rules) (h3 : SlAt w 3 ValR B capB row) :
    Calls Try.prog 8 #[.agg #[.string t.schema, .string t.name, .string t.owner, .slice A t.cols.length cap, .slice A2 t.rules.length cap2], .slice B row.length capB] w
      fun e w' => e = .returned (.bool true) ∧ Aft w w' := by
  have CL := Lib.hid (show ∀ w', Aft w w' → _ from fun w' x => large11_any t A cap A2 cap2 B capB row w' (cols_aft x h) (ruls_aft x h2) (vals_aft x h3))
  obtain ⟨f, hf⟩ : ∃ f, fitE t row = f := ⟨_, rfl⟩
  go_enter Try.func8, Try.ntmps8
  go_wp2_with fail
  refine (CL.out _ ((Aft.refl w).alloc _)).mono ?_
  rintro e w1 ⟨g, rfl, a1, hg⟩
  obtain ⟨hbt, hfr, hz, hzk, HA⟩ := aft_box a1
  clear a1 CL
  cases g
  · have hsm : t.rules.length ≤ 1000000 := by have := hg rfl; omega
    have D1 := Lib.hid (show ∀ x : Lat w1, Calls Try.prog 44 #[.agg #[.string t.schema, .string t.name, .string t.owner, .slice A t.cols.length cap, .slice A2 t.rules.length cap2], .slice B row.length capB] (lat w1 x) fun e w'' => e = .returned (.int .i64 f) ∧ Aft (lat w1 x) w'' from
      fun x => (fit_any t row A cap A2 cap2 B capB _ (cols_aft (HA.out.lat x) h) (ruls_aft (HA.out.lat x) h2) (vals_aft (HA.out.lat x) h3) hsm).mono fun e w'' ⟨he, hw⟩ => ⟨he.trans (by rw [hf]), hw⟩)
    have D2 := Lib.hid (show ∀ x : Lat w1, Calls Try.prog 45 #[.agg #[.string t.schema, .string t.name, .string t.owner, .slice A t.cols.length cap, .slice A2 t.rules.length cap2], .slice B row.length capB] (lat w1 x) fun e w'' => e = .returned (.int .i64 f) ∧ Aft (lat w1 x) w'' from
      fun x => (rfit_any t row A cap A2 cap2 B capB _ (cols_aft (HA.out.lat x) h) (ruls_aft (HA.out.lat x) h2) (vals_aft (HA.out.lat x) h3)).mono fun e w'' ⟨he, hw⟩ => ⟨he.trans (by rw [hf]), hw⟩)
    clear hf hg
    go_wp2_with fail
    refine wp_region_lat (by kernel_rfl) (by kernel_rfl) ?_
    repeat (go_big_quiet_step ((first | (go_at_call 43; exact Calls.lat_of (fits11_any _)) | (go_at_call 44; exact Calls.lat_of (D1.out _)) | (go_at_call 45; exact Calls.lat_of (D2.out _)))))
    refine wpQuiet_nil ?_
    intro _ hw'
    obtain ⟨x, hw''⟩ := hw'
    subst hw''
    go_wp2_with fail
    go_ret
    exact ⟨rfl, HA.out.lat x⟩
  · go_wp2_with fail
    go_ret
    exact ⟨rfl, HA.out⟩
end Go.Proofs.Ytodifdofgjfkiaa
