/- The law RowsBack, walked. -/
import Derived.Test.YtodifdofgjfkiaaLawRTurn
import Derived.Test.YtodifdofgjfkiaaDist
namespace Go.Proofs.Ytodifdofgjfkiaa
open Go.RowKit
set_option maxRecDepth 100000
set_option linter.unusedVariables false
theorem turnVs_get (l m : List Col) (row : List Val) (k : Nat) (h : k < (turnVs l m row).length) (h2 : k < m.length) : (turnVs l m row)[k] = turn1 l row m[k] := by simp [turnVs]
theorem turn_self {l : List Col} {row : List Val} (h0 : colsOk l = true) (h1 : besideB formB l row = true) : eqVs (turnVs l l row) row = true := by
  obtain ⟨hl, hf⟩ := (besideB_iff formB l row).1 h1
  refine eqVs_true _ _ (by rw [turnVs_len]; exact hl) fun k h2 h3 => ?_
  have hk : k < l.length := by omega
  have e : (turnVs l l row)[k] = row[k] := by
    rw [turnVs_get l l row k h2 hk]
    exact turn1_hit (cols_dist h0 hk (eqS_refl _)) hk h3 rfl
  rw [e]; exact eqV_refl _
theorem null_form (c : Col) : formB c nullV = true := by simp [formB, mayV, nullV, emp_nil]
theorem turn_form {l m : List Col} {row : List Val} (h1 : besideB formB l row = true) : besideB formB m (turnVs l m row) = true := by
  obtain ⟨hl, hf⟩ := (besideB_iff formB l row).1 h1
  refine besideB_true _ _ _ (by rw [turnVs_len]) fun k h2 h3 => ?_
  rw [turnVs_get l m row k h3 h2]
  by_cases hx : colAt l m[k].name < 0
  · rw [turn1_miss hx]; exact null_form _
  obtain ⟨q, hq⟩ := Int.eq_ofNat_of_zero_le (show 0 ≤ colAt l m[k].name by omega)
  have hql := colAt_lt hq
  by_cases hk : l[q].kind = m[k].kind
  · rw [turn1_hit hq hql (by omega) hk]
    have := hf q hql (by omega)
    unfold formB at this ⊢
    rw [← hk]; exact this
  · rw [turn1_other hq hql hk]; exact null_form _
theorem turnC_ok {l m : List Col} {row : List Val} (h : turnC l m row = 0) : colsOk l = true ∧ colsOk m = true ∧ besideB formB l row = true := by
  cases h1 : colsOk l
  · rw [turnC_1 h1] at h; cases h
  cases h2 : colsOk m
  · rw [turnC_1' h1 h2] at h; cases h
  cases h3 : besideB formB l row
  · rw [turnC_100 h1 h2 h3] at h; cases h
  exact ⟨rfl, rfl, rfl⟩
set_option maxHeartbeats 8000000 in
theorem law_rback (l m : List Col) (row : List Val) (A : Option Addr) (cap : Nat) (A2 : Option Addr) (cap2 : Nat) (B : Option Addr) (capB : Nat) (w : World) (h : SlAt w 3 ColR A cap l) (h2 : SlAt w 3 ColR A2 cap2 m) (h3 : SlAt w 3 ValR B capB row) :
    Calls Try.prog 10 #[.slice A l.length cap, .slice A2 m.length cap2, .slice B row.length capB] w
      fun e w' => e = .returned (.bool true) ∧ Aft w w' := by
  have hlen := h.len
  have hlen2 := h2.len
  have hlen3 := h3.len
  by_cases d1 : 3000 < l.length
  · have e1 : (3000 : Int) < (l.length : Int) := by omega
    go_enter Try.func10, Try.ntmps10
    go_wp2_with fail
    go_ret
    exact ⟨rfl, Aft.refl _⟩
  have e1 : (l.length : Int) ≤ 3000 := by omega
  by_cases d2 : 3000 < m.length
  · have e2 : (3000 : Int) < (m.length : Int) := by omega
    go_enter Try.func10, Try.ntmps10
    go_wp2_with fail
    go_ret
    exact ⟨rfl, Aft.refl _⟩
  have e2 : (m.length : Int) ≤ 3000 := by omega
  by_cases d3 : 3000 < row.length
  · have e3 : (3000 : Int) < (row.length : Int) := by omega
    go_enter Try.func10, Try.ntmps10
    go_wp2_with fail
    go_ret
    exact ⟨rfl, Aft.refl _⟩
  have e3 : (row.length : Int) ≤ 3000 := by omega
  obtain ⟨X, hX⟩ : ∃ X, turned l m row = X := ⟨_, rfl⟩
  obtain ⟨c, hc⟩ : ∃ c, turnC l m row = c := ⟨_, rfl⟩
  have hX8 : X.length ≤ 8 := by rw [← hX]; exact turned_len8
  have HXS := Lib.hid (show ∀ v ∈ X, Small v.text.size by rw [← hX]; exact turn_small (row_small h3))
  have K1 := Lib.hid (show ∀ w', Aft w w' → Calls Try.prog 40 #[.slice A l.length cap, .slice A2 m.length cap2, .slice B row.length capB] w' (TurnP w' X c) from
    fun w' a => by have h9 := turn_any l m row A cap A2 cap2 B capB w' (cols_aft a h) (cols_aft a h2) (vals_aft a h3); rw [hX, hc] at h9; exact h9)
  have HC := Lib.hid hc
  have HX := Lib.hid hX
  clear hX hc
  go_enter Try.func10, Try.ntmps10
  go_wp2_with fail
  refine (K1.out _ (Aft.refl w)).mono ?_
  rintro e W2 ⟨lv, rfl, a2, hl⟩
  obtain ⟨E, capE, rfl, hE⟩ := own_vals hl (small8 hX8) HXS.out
  have HA2 := Lib.hid a2
  have HE := Lib.hid hE
  clear a2 hl hE K1
  cases hc0 : (c != 0)
  · have hc1 : c = 0 := by simpa using hc0
    subst hc1
    obtain ⟨o1, o2, o3⟩ := turnC_ok HC.out
    have oC : turnC l l row = 0 := turnC_0 o1 o1 o3
    have oX : X = turnVs l m row := by rw [← HX.out]; exact turned_yes HC.out
    have oD : turnC m m X = 0 := turnC_0 o2 o2 (by rw [oX]; exact turn_form o3)
    obtain ⟨Y, hY⟩ : ∃ Y, turned l l row = Y := ⟨_, rfl⟩
    obtain ⟨Z, hZ⟩ : ∃ Z, turned m m X = Z := ⟨_, rfl⟩
    have hYr : eqVs Y row = true := by rw [← hY, turned_yes oC]; exact turn_self o1 o3
    have hZX : eqVs Z X = true := by rw [← hZ, turned_yes oD]; exact turn_self o2 (by rw [oX]; exact turn_form o3)
    have hY8 : Y.length ≤ 8 := by rw [← hY]; exact turned_len8
    have hZ8 : Z.length ≤ 8 := by rw [← hZ]; exact turned_len8
    have HYS := Lib.hid (show ∀ v ∈ Y, Small v.text.size by rw [← hY]; exact turn_small (row_small h3))
    have HZS := Lib.hid (show ∀ v ∈ Z, Small v.text.size by rw [← hZ]; exact turn_small HXS.out)
    have K2 := Lib.hid (show ∀ w', Aft W2 w' → Calls Try.prog 40 #[.slice A l.length cap, .slice A l.length cap, .slice B row.length capB] w' (TurnP w' Y 0) from
      fun w' a => by have h9 := turn_any l l row A cap A cap B capB w' (cols_aft (HA2.out.trans a) h) (cols_aft (HA2.out.trans a) h) (vals_aft (HA2.out.trans a) h3); rw [hY, oC] at h9; exact h9)
    have K3 := Lib.hid (show ∀ w', Aft W2 w' → Calls Try.prog 40 #[.slice A2 m.length cap2, .slice A2 m.length cap2, .slice E X.length capE] w' (TurnP w' Z 0) from
      fun w' a => by have h9 := turn_any m m X A2 cap2 A2 cap2 E capE w' (cols_aft (HA2.out.trans a) h2) (cols_aft (HA2.out.trans a) h2) (vals_aft a HE.out); rw [hZ, oD] at h9; exact h9)
    have HYr := Lib.hid hYr
    have HZX := Lib.hid hZX
    clear o1 o2 o3 oC oX oD hY hZ hYr hZX hc0
    go_wp2_with fail
    refine (K2.out _ (Aft.refl _)).mono ?_
    rintro e W3 ⟨yv, rfl, a3, hy⟩
    obtain ⟨F, capF, rfl, hF⟩ := own_vals hy (small8 hY8) HYS.out
    have HA3 := Lib.hid a3
    have HF := Lib.hid hF
    clear hy hF a3 K2
    go_wp2_with fail
    refine (K3.out _ HA3.out).mono ?_
    rintro e W4 ⟨zv, rfl, a4, hz⟩
    obtain ⟨G, capG, rfl, hG⟩ := own_vals hz (small8 hZ8) HZS.out
    have HA4 := Lib.hid (HA3.out.trans a4)
    have HF4 := Lib.hid (vals_aft a4 HF.out)
    have HG := Lib.hid hG
    clear hz hG a4 K3 HF
    go_wp2_with fail
    refine (turns_any _).mono ?_
    rintro e W5 ⟨rfl, a5⟩
    have HA5 := Lib.hid (HA4.out.trans a5)
    have C1 := Lib.hid (show Calls Try.prog 38 #[.slice F Y.length capF, .slice B row.length capB] W5 fun e w'' => e = .returned (.bool true) ∧ Aft W5 w'' from
      (same_any F capF Y B capB row W5 (vals_aft a5 HF4.out) (vals_aft (HA2.out.trans HA5.out) h3)).mono fun e w'' ⟨he, hw⟩ => ⟨he.trans (by rw [HYr.out]), hw⟩)
    have HG5 := Lib.hid (vals_aft a5 HG.out)
    clear a5
    go_wp2_with fail
    refine C1.out.mono ?_
    rintro e W6 ⟨rfl, a6⟩
    have HA6 := Lib.hid (HA5.out.trans a6)
    have C2 := Lib.hid (show Calls Try.prog 38 #[.slice G Z.length capG, .slice E X.length capE] W6 fun e w'' => e = .returned (.bool true) ∧ Aft W6 w'' from
      (same_any G capG Z E capE X W6 (vals_aft a6 HG5.out) (vals_aft HA6.out HE.out)).mono fun e w'' ⟨he, hw⟩ => ⟨he.trans (by rw [HZX.out]), hw⟩)
    clear a6 C1
    go_wp2_with fail
    refine C2.out.mono ?_
    rintro e W7 ⟨rfl, a7⟩
    have HA7 := Lib.hid (HA2.out.trans (HA6.out.trans a7))
    clear a7
    go_wp2_with fail
    go_ret
    exact ⟨rfl, HA7.out⟩
  · have hX0 : X = [] := by rw [← HX.out]; exact turned_no (by rw [HC.out]; simpa using hc0)
    subst hX0
    go_wp2_with fail
    refine (turns_any _).mono ?_
    rintro e W5 ⟨rfl, a5⟩
    have HA5 := Lib.hid (HA2.out.trans a5)
    clear a5
    go_wp2_with fail
    go_ret
    exact ⟨rfl, HA5.out⟩
end Go.Proofs.Ytodifdofgjfkiaa
