/- folkmoot/rows.Turn. -/
import Derived.Test.YtodifdofgjfkiaaTurnLaw
import Derived.Test.YtodifdofgjfkiaaAlone
namespace Go.Proofs.Ytodifdofgjfkiaa
open Go.RowKit
set_option maxRecDepth 100000
set_option linter.unusedVariables false
set_option maxHeartbeats 2000000 in
theorem mayc_any (A : Option Addr) (cap : Nat) (l : List Col) (w : World) (h : SlAt w 3 ColR A cap l) :
    Calls Try.prog 99 #[.slice A l.length cap] w fun e w' => e = .returned (.bool (colsOk l)) ∧ Aft w w' := by
  obtain ⟨c, hc⟩ : ∃ c, colsOk l = c := ⟨_, rfl⟩
  rw [hc]
  have C := Lib.hid (show Calls Try.prog 33 #[.agg #[.string ⟨#[]⟩, .string ⟨#[]⟩, .string ⟨#[]⟩, .slice A l.length cap, .slice none 0 0]] w fun e w'' => e = .returned (.int .i64 (if c = true then 0 else 1)) ∧ Aft w w'' from
    (rcheck_any ⟨⟨#[]⟩, ⟨#[]⟩, ⟨#[]⟩, l, []⟩ A cap none 0 w h slAt_nil (by simp)).mono fun e w'' ⟨he, hw⟩ => ⟨he.trans (by rw [tableOk_cols, hc]), hw⟩)
  clear hc
  go_enter Try.func99, Try.ntmps99
  go_wp2_with fail
  refine C.out.mono ?_
  rintro e w1 ⟨rfl, a1⟩
  have HA := Lib.hid a1
  clear a1
  cases c
  · go_wp2_with fail
    go_ret
    exact ⟨rfl, HA.out⟩
  · go_wp2_with fail
    go_ret
    exact ⟨rfl, HA.out⟩
set_option maxHeartbeats 8000000 in
theorem turn_any (l m : List Col) (row : List Val) (A : Option Addr) (cap : Nat) (A2 : Option Addr) (cap2 : Nat) (B : Option Addr) (capB : Nat) (w : World) (h : SlAt w 3 ColR A cap l) (h2 : SlAt w 3 ColR A2 cap2 m) (h3 : SlAt w 3 ValR B capB row) :
    Calls Try.prog 40 #[.slice A l.length cap, .slice A2 m.length cap2, .slice B row.length capB] w (TurnP w (turned l m row) (turnC l m row)) := by
  have hlen := h.len
  have hlen2 := h2.len
  have hlen3 := h3.len
  obtain ⟨c1, hc1⟩ : ∃ c, colsOk l = c := ⟨_, rfl⟩
  obtain ⟨c2, hc2⟩ : ∃ c, colsOk m = c := ⟨_, rfl⟩
  obtain ⟨f, hf⟩ : ∃ f, besideB formB l row = f := ⟨_, rfl⟩
  have K1 := Lib.hid (show ∀ w', Aft w w' → Calls Try.prog 99 #[.slice A l.length cap] w' fun e w'' => e = .returned (.bool c1) ∧ Aft w' w'' from
    fun w' a => (mayc_any A cap l w' (cols_aft a h)).mono fun e w'' ⟨he, hw⟩ => ⟨he.trans (by rw [hc1]), hw⟩)
  have K2 := Lib.hid (show ∀ w', Aft w w' → Calls Try.prog 99 #[.slice A2 m.length cap2] w' fun e w'' => e = .returned (.bool c2) ∧ Aft w' w'' from
    fun w' a => (mayc_any A2 cap2 m w' (cols_aft a h2)).mono fun e w'' ⟨he, hw⟩ => ⟨he.trans (by rw [hc2]), hw⟩)
  have K3 := Lib.hid (show ∀ w', Aft w w' → Calls Try.prog 100 #[.slice A l.length cap, .slice B row.length capB] w' fun e w'' => e = .returned (.bool f) ∧ Aft w' w'' from
    fun w' a => (formed_any A cap l B capB row w' (cols_aft a h) (vals_aft a h3)).mono fun e w'' ⟨he, hw⟩ => ⟨he.trans (by rw [hf]), hw⟩)
  have H1 := Lib.hid hc1
  have H2 := Lib.hid hc2
  have H3 := Lib.hid hf
  clear hc1 hc2 hf
  obtain ⟨i0, hi, hz0, hz1, hz2⟩ := info_parts infoV
  have HI := Lib.hid hi
  have HZ0 := Lib.hid hz0
  have HZ1 := Lib.hid hz1
  have HZ2 := Lib.hid hz2
  clear hi hz0 hz1 hz2
  go_enter Try.func40, Try.ntmps40
  go_wp2_with fail
  refine (K1.out _ (Aft.refl w)).mono ?_
  rintro e w1 ⟨rfl, a1⟩
  have HA1 := Lib.hid a1
  clear a1 K1
  cases c1
  · have HC := Lib.hid (turnC_1 (m := m) (row := row) H1.out)
    go_wp2_with fail
    go_ret2
    exact ⟨_, by rw [HC.out]; rfl, HA1.out, by rw [turned_no (by rw [HC.out]; decide)]; exact own_nil _ _ _ _⟩
  go_wp2_with fail
  refine (K2.out _ HA1.out).mono ?_
  rintro e w2 ⟨rfl, a2⟩
  have HA2 := Lib.hid (HA1.out.trans a2)
  clear a2 K2 HA1
  cases c2
  · have HC := Lib.hid (turnC_1' (row := row) H1.out H2.out)
    go_wp2_with fail
    go_ret2
    exact ⟨_, by rw [HC.out]; rfl, HA2.out, by rw [turned_no (by rw [HC.out]; decide)]; exact own_nil _ _ _ _⟩
  go_wp2_with fail
  refine (K3.out _ HA2.out).mono ?_
  rintro e w3 ⟨rfl, a3⟩
  have HA3 := Lib.hid (HA2.out.trans a3)
  clear a3 K3 HA2
  cases f
  · have HC := Lib.hid (turnC_100 H1.out H2.out H3.out)
    go_wp2_with fail
    go_ret2
    exact ⟨_, by rw [HC.out]; rfl, HA3.out, by rw [turned_no (by rw [HC.out]; decide)]; exact own_nil _ _ _ _⟩
  have HC := Lib.hid (turnC_0 H1.out H2.out H3.out)
  have HTV := Lib.hid (turned_yes HC.out)
  have HLL := Lib.hid (show l.length = row.length from ((besideB_iff formB l row).1 H3.out).1)
  have hm8 := cols_len H2.out
  go_wp2_with fail
  go_loopw [8, 29] (fun v i wr => ∃ k : Nat, k ≤ m.length ∧ i = .int .i64 k ∧ Aft w wr ∧ wr.ownsRow w.heap.size 48 3 v k ((turnVs l (m.take k) row).flatMap cellsV)) (fun _ i _ => m.length - (intOf i).toNat)
  case atStart => exact ⟨0, Nat.zero_le _, rfl, HA3.out, own_nil _ _ _ _⟩
  case round =>
    obtain ⟨k, hk, rfl, ha, hown⟩ := hrel
    have HA := Lib.hid ha
    have HO := Lib.hid hown
    clear HA3
    by_cases hlt : k < m.length
    · obtain ⟨b, off, hAm, hb, c0, c1, c2, _⟩ := col_at (cols_aft ha h2) hlt
      subst hAm
      obtain ⟨c, hcc⟩ : ∃ c, m[k] = c := ⟨_, rfl⟩
      rw [hcc] at c0 c1 c2
      have HS := Lib.hid (show turnVs l (m.take (k + 1)) row = turnVs l (m.take k) row ++ [turn1 l row c] by rw [turnVs_succ l m row k hlt, hcc])
      obtain ⟨x, hx⟩ : ∃ x, colAt l c.name = x := ⟨_, rfl⟩
      have hol := own_lt hown
      clear hcc hown
      obtain ⟨W, hW⟩ : ∃ W, W = (wr.alloc (.cells #[.string c.name, .int .i64 c.kind, .bool c.null] 40)).alloc (.cells #[.int .i64 1, .int .i64 0, .string ⟨#[]⟩] 48) := ⟨_, rfl⟩
      have aW : Aft wr W := by rw [hW]; exact ((Aft.refl wr).alloc _).alloc _
      have rv : RowAt W (wr.heap.size + 1) [.int .i64 1, .int .i64 0, .string ⟨#[]⟩] := by rw [hW]; simpa using rowAt_new (wr.alloc (.cells #[.string c.name, .int .i64 c.kind, .bool c.null] 40)) [.int .i64 1, .int .i64 0, .string ⟨#[]⟩] 48
      have rc : RowAt W wr.heap.size [.string c.name, .int .i64 c.kind, .bool c.null] := by rw [hW]; exact (rowAt_new _ _ _).aft ((Aft.refl _).alloc _)
      have ck := rc.cell (j := 1) rfl
      have cn := rc.cell (j := 0) rfl
      have l1 : wr.heap.size < wr.heap.size + 1 := by omega
      have l2 : wr.heap.size < wr.heap.size + 1 + 1 := by omega
      have HA0 := Lib.hid (HA.out.trans aW)
      have O0 := Lib.hid (own_aft HO.out aW)
      have Cp := Lib.hid (show ∀ w', Aft wr w' → Calls Try.prog 101 #[.slice A l.length cap, .string c.name] w' fun e w'' => e = .returned (.int .i64 x) ∧ Aft w' w'' from
        fun w' a => (place_any A cap l c.name w' (cols_aft (HA.out.trans a) h)).mono fun e w'' ⟨he, hw⟩ => ⟨he.trans (by rw [hx]), hw⟩)
      go_wp2_with fail
      rw [← hW]
      refine (Cp.out W aW).mono ?_
      rintro e w1 ⟨rfl, a1⟩
      have HA1 := Lib.hid (HA0.out.trans a1)
      have O1 := Lib.hid (own_aft O0.out a1)
      have rv1 := rv.aft a1
      have ck1 := a1.cell_kept ck
      have lk1 := World.block_lt_of_cell? _ _ ck1
      clear hW Cp ck cn rv aW
      by_cases hx0 : x < 0
      · have HV := Lib.hid (turn1_miss (row := row) (by rw [hx]; exact hx0))
        have dx : decide (0 ≤ x) = false := decide_eq_false (by omega)
        have dx' : ¬ 0 ≤ x := by omega
        clear hx
        go_wp2_with fail
        refine wp_region_lat (by kernel_rfl) (by kernel_rfl) ?_
        repeat (go_big_quiet_step (fail))
        refine wpQuiet_nil ?_
        intro _ hw'
        obtain ⟨z, hw''⟩ := hw'
        subst hw''
        obtain ⟨L, hL⟩ : ∃ L, L = lat w1 z := ⟨_, rfl⟩
        have aL : Aft w1 L := by rw [hL]; exact (Aft.refl w1).lat z
        have rL := rv1.aft aL
        have y0 := rL.cell (j := 0) rfl
        have y1 := rL.cell (j := 1) rfl
        have y2 := rL.cell (j := 2) rfl
        have yz := rL.1
        have OL := Lib.hid (own_aft O1.out aL)
        have HAL := Lib.hid (HA1.out.trans aL)
        rw [← hL]
        clear hL
        clear rL aL
        go_wp2_with (at_builtin; refine wpList_append_own _ rfl (.tmp 54) (.tmp 56) 49 rfl w.heap.size 48 i0 (.agg #[.int .i64 0, .int .i64 0, .string ByteArray.empty]) 3 32 Try.underlying49 HI.out HZ0.out HZ1.out HZ2.out rfl (by decide) _ _ _ rfl (OL.out.alloc _) ⟨L.heap.size, 0, none⟩ 1 1 [.int .i64 1, .int .i64 0, .string ⟨#[]⟩] rfl rfl ?c1 ?c2 ?c3 ?c4 ?c5 ?_)
        case c1 => intro j u hj; rw [add_mk, Nat.zero_add]; exact (World.cell?_alloc_at _ _ _ _ rfl).trans (by simpa using hj)
        case c2 => intro u hu; simp only [List.mem_cons, List.not_mem_nil, or_false] at hu; rcases hu with rfl | rfl | rfl <;> simp [Value.oneCell']
        case c3 => unfold maxLen; omega
        case c4 => omega
        case c5 => have := HAL.out.size; simp; omega
        intro v' w2 hown' hgrow _
        have HA2 := Lib.hid (aft_grown (OL.out.alloc _) (HAL.out.alloc _) hgrow)
        have HO2 := Lib.hid hown'
        clear hown' hgrow
        go_wp2_with fail
        go_roundw
        case rel => exact ⟨k + 1, by omega, by go_num, HA2.out, by rw [HS.out, HV.out]; simpa [List.flatMap_append, cellsV, nullV] using HO2.out⟩
        case measure => simp [intOf]; omega
      obtain ⟨q, rfl⟩ := Int.eq_ofNat_of_zero_le (show 0 ≤ x by omega)
      have hql := colAt_lt hx
      have hqr : q < row.length := by have := HLL.out; omega
      have dx : decide ((0 : Int) ≤ (q : Int)) = true := decide_eq_true (by omega)
      obtain ⟨b7, off7, hA7, hb7, d70, d71, d72, _⟩ := col_at (cols_aft HA1.out h) hql
      subst hA7
      cases hkk : (l[q].kind == c.kind)
      · have HV := Lib.hid (turn1_other (row := row) hx hql (by simpa using hkk))
        clear hx
        go_wp2_with fail
        refine wp_region_lat (by kernel_rfl) (by kernel_rfl) ?_
        repeat (go_big_quiet_step (fail))
        refine wpQuiet_nil ?_
        intro _ hw'
        obtain ⟨z, hw''⟩ := hw'
        subst hw''
        obtain ⟨L, hL⟩ : ∃ L, L = lat w1 z := ⟨_, rfl⟩
        have aL : Aft w1 L := by rw [hL]; exact (Aft.refl w1).lat z
        have rL := rv1.aft aL
        have y0 := rL.cell (j := 0) rfl
        have y1 := rL.cell (j := 1) rfl
        have y2 := rL.cell (j := 2) rfl
        have yz := rL.1
        have OL := Lib.hid (own_aft O1.out aL)
        have HAL := Lib.hid (HA1.out.trans aL)
        rw [← hL]
        clear hL
        clear rL aL
        go_wp2_with (at_builtin; refine wpList_append_own _ rfl (.tmp 54) (.tmp 56) 49 rfl w.heap.size 48 i0 (.agg #[.int .i64 0, .int .i64 0, .string ByteArray.empty]) 3 32 Try.underlying49 HI.out HZ0.out HZ1.out HZ2.out rfl (by decide) _ _ _ rfl (OL.out.alloc _) ⟨L.heap.size, 0, none⟩ 1 1 [.int .i64 1, .int .i64 0, .string ⟨#[]⟩] rfl rfl ?c1 ?c2 ?c3 ?c4 ?c5 ?_)
        case c1 => intro j u hj; rw [add_mk, Nat.zero_add]; exact (World.cell?_alloc_at _ _ _ _ rfl).trans (by simpa using hj)
        case c2 => intro u hu; simp only [List.mem_cons, List.not_mem_nil, or_false] at hu; rcases hu with rfl | rfl | rfl <;> simp [Value.oneCell']
        case c3 => unfold maxLen; omega
        case c4 => omega
        case c5 => have := HAL.out.size; simp; omega
        intro v' w2 hown' hgrow _
        have HA2 := Lib.hid (aft_grown (OL.out.alloc _) (HAL.out.alloc _) hgrow)
        have HO2 := Lib.hid hown'
        clear hown' hgrow
        go_wp2_with fail
        go_roundw
        case rel => exact ⟨k + 1, by omega, by go_num, HA2.out, by rw [HS.out, HV.out]; simpa [List.flatMap_append, cellsV, nullV] using HO2.out⟩
        case measure => simp [intOf]; omega
      · have HV := Lib.hid (turn1_hit hx hql hqr (by simpa using hkk))
        obtain ⟨b8, off8, hB8, hb8, v0, v1, v2, _⟩ := val_at (vals_aft HA1.out h3) hqr
        subst hB8
        clear hx
        go_wp2_with fail
        refine wp_region_lat (by kernel_rfl) (by kernel_rfl) ?_
        repeat (go_big_quiet_step (fail))
        refine wpQuiet_nil ?_
        intro _ hw'
        obtain ⟨z, hw''⟩ := hw'
        subst hw''
        obtain ⟨L, hL⟩ : ∃ L, L = lat w1 z := ⟨_, rfl⟩
        have aL : Aft w1 L := by rw [hL]; exact (Aft.refl w1).lat z
        have rL := rv1.aft aL
        have y0 := rL.cell (j := 0) rfl
        have y1 := rL.cell (j := 1) rfl
        have y2 := rL.cell (j := 2) rfl
        have yz := rL.1
        have OL := Lib.hid (own_aft O1.out aL)
        have HAL := Lib.hid (HA1.out.trans aL)
        rw [← hL]
        clear hL
        have p0 := aL.cell_kept v0
        have p1 := aL.cell_kept v1
        have p2 := aL.cell_kept v2
        have f0 := rL.2.2 0 (by simp)
        have f1 := rL.2.2 1 (by simp)
        have f2 := rL.2.2 2 (by simp)
        have hne : u8.ownBlock ≠ some (wr.heap.size + 1) := fun e => by have := hol _ e; omega
        have hge : w.heap.size ≤ wr.heap.size + 1 := by have := HA.out.size; omega
        go_wp2_with fail
        obtain ⟨S, hS⟩ : ∃ S, S = ((L.setCell ⟨wr.heap.size + 1, 0, none⟩ (.int .i64 row[q].kind)).setCell ⟨wr.heap.size + 1, 1, none⟩ (.int .i64 row[q].int)).setCell ⟨wr.heap.size + 1, 2, none⟩ (.string row[q].text) := ⟨_, rfl⟩
        have rS : RowAt S (wr.heap.size + 1) [.int .i64 row[q].kind, .int .i64 row[q].int, .string row[q].text] := by rw [hS]; exact ((rL.set 0 _ (by simp)).set 1 _ (by simp)).set 2 _ (by simp)
        have OS := Lib.hid (show S.ownsRow w.heap.size 48 3 u8 k ((turnVs l (m.take k) row).flatMap cellsV) by rw [hS]; exact ownsRow_setCell_other (ownsRow_setCell_other (ownsRow_setCell_other OL.out hne _) hne _) hne _)
        have HAS := Lib.hid (show Aft w S by rw [hS]; exact ((HAL.out.setCell _ _ hge).setCell _ _ hge).setCell _ _ hge)
        have s0 := rS.cell (j := 0) rfl
        have s1 := rS.cell (j := 1) rfl
        have s2 := rS.cell (j := 2) rfl
        have sz := rS.1
        rw [← hS]
        have hlv : (lvVal ⟨wr.heap.size + 1, 0, none⟩).run Try.prog S = .ok (.agg #[.int .i64 row[q].kind, .int .i64 row[q].int, .string row[q].text]) S := by
          have h9 := run_lvVal S (wr.heap.size + 1) 0 (by rw [s0]; rfl) (by rw [s1]; rfl) (by rw [s2]; rfl)
          rw [s0, s1, s2] at h9
          exact h9
        rw [hlv]
        simp only [Result.andThen]
        rw [Oper.upon_value]
        clear hlv hS rS y0 y1 y2 yz p0 p1 p2 f0 f1 f2
        clear rL aL
        go_wp2_with (at_builtin; refine wpList_append_own _ rfl (.tmp 54) (.tmp 56) 49 rfl w.heap.size 48 i0 (.agg #[.int .i64 0, .int .i64 0, .string ByteArray.empty]) 3 32 Try.underlying49 HI.out HZ0.out HZ1.out HZ2.out rfl (by decide) _ _ _ rfl (OS.out.alloc _) ⟨S.heap.size, 0, none⟩ 1 1 [.int .i64 row[q].kind, .int .i64 row[q].int, .string row[q].text] rfl rfl ?c1 ?c2 ?c3 ?c4 ?c5 ?_)
        case c1 => intro j u hj; rw [add_mk, Nat.zero_add]; exact (World.cell?_alloc_at _ _ _ _ rfl).trans (by simpa using hj)
        case c2 => intro u hu; simp only [List.mem_cons, List.not_mem_nil, or_false] at hu; rcases hu with rfl | rfl | rfl <;> simp [Value.oneCell']
        case c3 => unfold maxLen; omega
        case c4 => omega
        case c5 => have := HAS.out.size; simp; omega
        intro v' w2 hown' hgrow _
        have HA2 := Lib.hid (aft_grown (OS.out.alloc _) (HAS.out.alloc _) hgrow)
        have HO2 := Lib.hid hown'
        clear hown' hgrow
        go_wp2_with fail
        go_roundw
        case rel => exact ⟨k + 1, by omega, by go_num, HA2.out, by rw [HS.out, HV.out]; simpa [List.flatMap_append, cellsV, nullV] using HO2.out⟩
        case measure => simp [intOf]; omega
    · clear ha hown
      go_wp2_with fail
      go_ret2
      have e1 : m.take k = m := List.take_of_length_le (by omega)
      have e2 : k = m.length := by omega
      have ho := HO.out
      rw [e1] at ho
      refine ⟨_, by rw [HC.out]; rfl, HA.out, ?_⟩
      rw [HTV.out, turnVs_len, ← e2]; exact ho
end Go.Proofs.Ytodifdofgjfkiaa
