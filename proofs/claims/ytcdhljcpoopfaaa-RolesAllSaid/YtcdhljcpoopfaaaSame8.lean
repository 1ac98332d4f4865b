/- The document's Same of roles, and Texts: of two that hold the same they say yes; All and Is of the document. -/
import Derived.Test.YtcdhljcpoopfaaaAll8
import Derived.Test.YtcdhljcpoopfaaaRefRgt8
namespace Go.Proofs.Ytcdhljcpoopfaaa
open Go.RowKit Go.Deep
set_option maxRecDepth 100000
set_option linter.unusedVariables false
@[go_sem ↓] theorem run_neqMem_self (w : World) (s t : ByteArray) :
    (binOp .neq 61 (.agg #[.string s, .string t]) (.agg #[.string s, .string t])).run Try.prog w = .ok (.bool false) w := by
  rw [run_neq_struct]; go_simp; try rfl
set_option maxHeartbeats 4000000 in
theorem texts8 (A : Option Addr) (cap : Nat) (B : Option Addr) (capB : Nat) (l : List ByteArray) (w : World) (h1 : SlAt w 1 StrR A cap l) (h2 : SlAt w 1 StrR B capB l) :
    Calls Try.prog 18 #[.slice A l.length cap, .slice B l.length capB] w fun e w' => e = .returned (.bool true) ∧ Aft w w' := by
  have hlen := h1.len
  go_enter Try.func18, Try.ntmps18
  go_wp2_with fail
  go_loopw [5] (fun i wr => ∃ k : Nat, k ≤ l.length ∧ i = .int .i64 k ∧ Aft w wr) (fun i _ => l.length - (intOf i).toNat)
  case atStart => exact ⟨0, Nat.zero_le _, rfl, Aft.refl _⟩
  case round =>
    obtain ⟨k, hk, rfl, ha⟩ := hrel
    have HAR := Lib.hid ha
    by_cases hlt : k < l.length
    · obtain ⟨b, off, rfl, hb, c0, _⟩ := str_at (strs_aft ha h1) hlt
      obtain ⟨b2, off2, rfl, hb2, d0, _⟩ := str_at (strs_aft ha h2) hlt
      clear ha
      go_wp2_with fail
      refine wp_region_lat (by kernel_rfl) (by kernel_rfl) ?_
      repeat (go_big_quiet_step (fail))
      refine wpQuiet_nil ?_
      intro _ hw'
      obtain ⟨x, hw''⟩ := hw'
      subst hw''
      go_wp2_with fail
      go_roundw
      case rel => exact ⟨k + 1, by omega, by go_num, HAR.out.lat x⟩
      case measure => simp [intOf]; omega
    · clear ha
      go_wp2_with fail
      go_ret
      exact ⟨rfl, HAR.out⟩
set_option maxHeartbeats 8000000 in
theorem same8 (r : Rls) (An : Option Addr) (capn : Nat) (Am : Option Addr) (capm : Nat) (Bn : Option Addr) (capbn : Nat) (Bm : Option Addr) (capbm : Nat) (w : World) (h1 : SlAt w 1 StrR An capn r.names) (h2 : SlAt w 2 MbrR Am capm r.members) (h3 : SlAt w 1 StrR Bn capbn r.names) (h4 : SlAt w 2 MbrR Bm capbm r.members) :
    Calls Try.prog 22 #[.agg #[.slice An r.names.length capn, .slice Am r.members.length capm], .agg #[.slice Bn r.names.length capbn, .slice Bm r.members.length capbm]] w
      fun e w' => e = .returned (.bool true) ∧ Aft w w' := by
  have hlen := h1.len
  have hlen2 := h2.len
  obtain ⟨W, hW⟩ : ∃ W, W = (w.alloc (.cells #[.slice An r.names.length capn, .slice Am r.members.length capm] 25)).alloc (.cells #[.slice Bn r.names.length capbn, .slice Bm r.members.length capbm] 25) := ⟨_, rfl⟩
  have aW : Aft w W := by rw [hW]; exact ((Aft.refl w).alloc _).alloc _
  have hbb := aft_box2 (w := w) (w1 := W) (by rw [← hW]; exact Aft.refl W)
  obtain ⟨ha0, hb0, hz, _⟩ := hbb
  have HAW := Lib.hid aW
  have l1 : w.heap.size < w.heap.size + 1 + 1 := by omega
  go_enter Try.func22, Try.ntmps22
  go_wp2_with fail
  rw [← hW]
  clear hW
  go_loopw [5] (fun i wr => ∃ k : Nat, k ≤ r.names.length ∧ i = .int .i64 k ∧ Aft W wr) (fun i _ => r.names.length - (intOf i).toNat)
  case atStart => exact ⟨0, Nat.zero_le _, rfl, Aft.refl _⟩
  case round =>
    obtain ⟨k, hk, rfl, ha⟩ := hrel
    have x3 := ha.cell_kept (show W.cell? ⟨w.heap.size, 0, none⟩ = some (.slice An r.names.length capn) from ha0 0)
    have y3 := ha.cell_kept (show W.cell? ⟨w.heap.size + 1, 0, none⟩ = some (.slice Bn r.names.length capbn) from hb0 0)
    have lx : w.heap.size < wr.heap.size := World.block_lt_of_cell? _ _ x3
    have ly : w.heap.size + 1 < wr.heap.size := World.block_lt_of_cell? _ _ y3
    have HAR := Lib.hid ha
    by_cases hlt : k < r.names.length
    · obtain ⟨b, off, rfl, hb, c0, _⟩ := str_at (strs_aft (HAW.out.trans ha) h1) hlt
      obtain ⟨b2, off2, rfl, hb2, d0, _⟩ := str_at (strs_aft (HAW.out.trans ha) h3) hlt
      clear ha
      go_wp2_with fail
      refine wp_region_lat (by kernel_rfl) (by kernel_rfl) ?_
      repeat (go_big_quiet_step (fail))
      refine wpQuiet_nil ?_
      intro _ hw'
      obtain ⟨x, hw''⟩ := hw'
      subst hw''
      go_wp2_with fail
      go_roundw
      case rel => exact ⟨k + 1, by omega, by go_num, HAR.out.lat x⟩
      case measure => simp [intOf]; omega
    go_wp2_with fail
    go_loopw [6] (fun i wrr => ∃ k : Nat, k ≤ r.members.length ∧ i = .int .i64 k ∧ Aft W wrr) (fun i _ => r.members.length - (intOf i).toNat)
    case atStart => exact ⟨0, Nat.zero_le _, rfl, ha⟩
    case round =>
      clear ha HAR x3 y3 lx ly
      obtain ⟨k2, hk2, rfl, ha⟩ := hrel
      have x4 := ha.cell_kept (show W.cell? ⟨w.heap.size, 1, none⟩ = some (.slice Am r.members.length capm) from ha0 1)
      have y4 := ha.cell_kept (show W.cell? ⟨w.heap.size + 1, 1, none⟩ = some (.slice Bm r.members.length capbm) from hb0 1)
      have lx : w.heap.size < wr.heap.size := World.block_lt_of_cell? _ _ x4
      have ly : w.heap.size + 1 < wr.heap.size := World.block_lt_of_cell? _ _ y4
      have HAR := Lib.hid ha
      by_cases hlt2 : k2 < r.members.length
      · obtain ⟨b, off, rfl, hb, c0, c1, _, _⟩ := mbr_at (mbrs_aft (HAW.out.trans ha) h2) hlt2
        obtain ⟨b2, off2, rfl, hb2, d0, d1, _, _⟩ := mbr_at (mbrs_aft (HAW.out.trans ha) h4) hlt2
        clear ha
        go_wp2_with fail
        refine wp_region_lat (by kernel_rfl) (by kernel_rfl) ?_
        repeat (go_big_quiet_step (fail))
        refine wpQuiet_nil ?_
        intro _ hw'
        obtain ⟨x, hw''⟩ := hw'
        subst hw''
        go_wp2_with fail
        go_roundw
        case rel => exact ⟨k2 + 1, by omega, by go_num, HAR.out.lat x⟩
        case measure => simp [intOf]; omega
      · clear ha
        go_wp2_with fail
        go_ret
        exact ⟨rfl, HAW.out.trans HAR.out⟩
set_option maxHeartbeats 4000000 in
theorem rall8 (r : Rls) (An : Option Addr) (capn : Nat) (Am : Option Addr) (capm : Nat) (role : ByteArray) (w : World) (hn : SlAt w 1 StrR An capn r.names) (hm : SlAt w 2 MbrR Am capm r.members) (hrs : Small role.size) :
    Calls Try.prog 17 #[.agg #[.slice An r.names.length capn, .slice Am r.members.length capm], .string role] w (AllP r role w) := by
  have l1 : w.heap.size < w.heap.size + 1 := by omega
  obtain ⟨q, hq⟩ : ∃ q, rightR r = q := ⟨_, rfl⟩
  obtain ⟨i, hi⟩ : ∃ i, inB r.names role = i := ⟨_, rfl⟩
  have C1 := Lib.hid (fun w' (a : Aft w w') => hq ▸ rright8 r An capn Am capm w' (strs_aft a hn) (mbrs_aft a hm))
  have C2 := Lib.hid (show ∀ w', Aft w w' → Calls Try.prog 50 #[.slice An r.names.length capn, .string role] w' fun e w'' => e = .returned (.bool i) ∧ w' = w'' from fun w' a => hi ▸ rin_any An capn r.names role w' (strs_aft a hn))
  have HB := Lib.hid (show q = true → r.members.length ≤ 256 from fun h => (rightR_len (by rw [hq]; exact h)).2)
  have C3 := Lib.hid (fun w' (a : Aft w w') (h : r.members.length ≤ 256) => rreach r An capn Am capm role w' (strs_aft a hn) (mbrs_aft a hm) hrs (by omega))
  have HE := Lib.hid (show allE r role = if q then (if i then 0 else 71) else 1 by unfold allE; rw [hq, hi])
  have HL := Lib.hid (show allL r role = if q && i then r.names.filter (reachB r.members role) else [] by unfold allL; rw [hq, hi])
  clear hq hi hn hm
  go_enter Try.func17, Try.ntmps17
  go_wp2_with fail
  refine (C1.out _ ((Aft.refl w).alloc _)).mono ?_
  rintro e w1 ⟨rfl, a1⟩
  obtain ⟨hbox, hfr, hz, hzk, HA⟩ := aft_box a1
  clear a1
  cases q
  · have HP := Lib.hid (show AllP r role w (.returned (.tuple #[.slice none 0 0, .int .i64 1])) w1 from ⟨⟨none, 0, 0⟩, by rw [HE.out]; rfl, HA.out, by rw [HL.out]; exact own_nil _ _ _ _⟩)
    go_wp2_with fail
    go_ret2
    exact HP.out
  go_wp2_with fail
  refine (C2.out w1 HA.out).mono ?_
  rintro e w2 ⟨rfl, rfl⟩
  cases i
  · have HP := Lib.hid (show AllP r role w (.returned (.tuple #[.slice none 0 0, .int .i64 71])) w1 from ⟨⟨none, 0, 0⟩, by rw [HE.out]; rfl, HA.out, by rw [HL.out]; exact own_nil _ _ _ _⟩)
    go_wp2_with fail
    go_ret2
    exact HP.out
  go_wp2_with fail
  refine (C3.out w1 HA.out (HB.out (by first | trivial | rfl))).mono ?_
  rintro e w3 ⟨h, rfl, a3, ho⟩
  have HP := Lib.hid (show AllP r role w (.returned (.tuple #[h.v, .int .i64 0])) w3 from ⟨h, by rw [HE.out]; rfl, HA.out.trans a3, by rw [HL.out]; exact own_down ho HA.out.size⟩)
  clear a3 ho
  go_wp2_with fail
  go_ret2
  exact HP.out
set_option maxHeartbeats 4000000 in
theorem ris8' (r : Rls) (An : Option Addr) (capn : Nat) (Am : Option Addr) (capm : Nat) (a b : ByteArray) (w : World) (hn : SlAt w 1 StrR An capn r.names) (hm : SlAt w 2 MbrR Am capm r.members) (hrs : Small a.size) :
    Calls Try.prog 21 #[.agg #[.slice An r.names.length capn, .slice Am r.members.length capm], .string a, .string b] w fun e w' => e = .returned (.bool (isB r a b)) ∧ Aft w w' := by
  have C1 := Lib.hid (fun w' (x : Aft w w') => rall8 r An capn Am capm a w' (strs_aft x hn) (mbrs_aft x hm) hrs)
  have HSM := Lib.hid (sm_names hn)
  obtain ⟨q, hq⟩ : ∃ q, rightR r = q := ⟨_, rfl⟩
  obtain ⟨i, hi⟩ : ∃ i, inB r.names a = i := ⟨_, rfl⟩
  have HE := Lib.hid (show allE r a = if q then (if i then 0 else 71) else 1 by unfold allE; rw [hq, hi])
  have HI := Lib.hid (show isB r a b = (q && i && inB (allL r a) b) by unfold isB allL; rw [hq, hi]; cases q <;> cases i <;> rfl)
  clear hq hi hn hm
  go_enter Try.func21, Try.ntmps21
  go_wp2_with fail
  refine (C1.out _ ((Aft.refl w).alloc _)).mono ?_
  rintro e w1 ⟨h, rfl, a1, ho⟩
  have HA := Lib.hid (((Aft.refl w).alloc _).trans a1)
  obtain ⟨bb, hbb⟩ : ∃ bb, inB (allL r a) b = bb := ⟨_, rfl⟩
  have C2 := Lib.hid (show Calls Try.prog 50 #[h.v, .string b] w1 fun e w'' => e = .returned (.bool bb) ∧ w1 = w'' from by
    rw [own_slice ho]
    refine (rin_any h.a h.c (allL r a) b w1 (own_slf nameC ho (fun x hx => ⟨rfl, rfl, HSM.out.2 x (allL_mem hx)⟩) ?_)).mono fun e w'' ⟨he, hw⟩ => ⟨he.trans (by rw [← hbb]; rfl), hw⟩
    have := HSM.out.1
    have := allL_len r a
    unfold Small at *; omega)
  rw [HE.out]
  rw [hbb] at HI
  clear a1 ho hbb
  cases q
  · go_wp2_with fail
    go_ret
    exact ⟨by rw [HI.out]; rfl, HA.out⟩
  cases i
  · go_wp2_with fail
    go_ret
    exact ⟨by rw [HI.out]; rfl, HA.out⟩
  go_wp2_with fail
  refine C2.out.mono ?_
  rintro e w2 ⟨rfl, rfl⟩
  go_wp2_with fail
  go_ret
  exact ⟨by rw [HI.out]; rfl, HA.out⟩
end Go.Proofs.Ytcdhljcpoopfaaa
