/- Contracts of the program, part 38. -/
import Derived.Test.YticjnndhpfdajaaPart37
import Derived.Test.YticjnndhpfdajaaPart31
import Derived.Test.YticjnndhpfdajaaPart35
import Derived.Test.YticjnndhpfdajaaPart32
/- The document's DropTable. -/
namespace Go.Proofs.Yticjnndhpfdajaa
open Go.RowKit Go.Deep
set_option maxRecDepth 100000
set_option linter.unusedVariables false
theorem self_cmp {s n : ByteArray} {x y : Tab} (h1 : selfP s n x = true) (h2 : selfP s n y = true) : cmpTb x y = 0 := by
  unfold selfP at h1 h2
  rw [Bool.and_eq_true] at h1 h2
  have e1 : cmpS x.schema y.schema = 0 := (cmpS_eq _ _).2 (eqS_trans h1.1 (by rw [eqS_comm]; exact h2.1))
  have e2 : cmpS x.name y.name = 0 := (cmpS_eq _ _).2 (eqS_trans h1.2 (by rw [eqS_comm]; exact h2.2))
  unfold cmpTb or2
  rw [e1, e2]; rfl
/-- the table of a name stands at one place -/
theorem tab_only {o : Objs} {s n : ByteArray} {p : Nat} (hr : risesB cmpTb o.tables = true) (hp : tabAt o.tables s n = p) (hpl : p < o.tables.length) (t : Nat) (ht : t < o.tables.length) : selfP s n o.tables[t] = decide (t = p) := by
  have h1 : selfP s n o.tables[p] = true := idxP_at (fun c : Tab => eqS c.schema s && eqS c.name n) o.tables p hpl hp
  rcases Nat.lt_trichotomy t p with h | h | h
  · rw [decide_eq_false (by omega), Bool.eq_false_iff]
    intro h2
    have h3 := rises_lt preTb.tr hr t p ht hpl h
    have h4 := self_cmp h2 h1
    omega
  · subst h; rw [h1]; simp
  · rw [decide_eq_false (by omega), Bool.eq_false_iff]
    intro h2
    have h3 := rises_lt preTb.tr hr p t hpl ht h
    have h4 := self_cmp h1 h2
    omega
theorem usedT_eq (o : Objs) (s n : ByteArray) : usedT o s n = o.tables.any fun t => !selfP s n t && t.rules.any (namesR s n) := by
  unfold usedT forP
  rw [List.any_flatMap]
  congr 1
  funext t
  unfold forT
  rw [List.any_map, List.any_filter]
  cases h : selfP s n t
  · simp [Function.comp_def, h]
  · simp [Function.comp_def, h]
theorem used_yes {o : Objs} {s n : ByteArray} {p k : Nat} (ho : ∀ t (ht : t < o.tables.length), selfP s n o.tables[t] = decide (t = p)) (hk : k < o.tables.length) (hne : k ≠ p) (h : o.tables[k].rules.any (namesR s n) = true) : usedT o s n = true := by
  rw [usedT_eq]
  exact List.any_eq_true.2 ⟨o.tables[k], List.getElem_mem hk, by rw [ho k hk, decide_eq_false hne, h]; rfl⟩
theorem used_no {o : Objs} {s n : ByteArray} {p : Nat} (ho : ∀ t (ht : t < o.tables.length), selfP s n o.tables[t] = decide (t = p)) (h : ∀ k (hk : k < o.tables.length), k ≠ p → o.tables[k].rules.any (namesR s n) = false) : usedT o s n = false := by
  rw [usedT_eq]
  refine any_no fun j hj _ => ?_
  by_cases e : j = p
  · rw [ho j hj, decide_eq_true e]; rfl
  · rw [h j hj e]; simp
theorem OwnS.aft' {w wr w2 : World} {o : Objs} {n3 : Nat} {hs ht : Hd} {L : List OTab} {k : Nat} (s : OwnS w wr o n3 hs ht L k) (a : Aft wr w2) : OwnS w w2 o n3 hs ht L k :=
  ⟨s.aft.trans a, s.out.aft a, s.box.aft a, s.obj.aft a, s.ne, s.is, s.n3, s.len⟩
theorem erase_get {α : Type} {l : List α} {p k k' : Nat} (hp : p < l.length) (hk : k < l.length) (hne : k ≠ p) (hk' : k' = if p < k then k - 1 else k) : ∃ h : k' < (l.eraseIdx p).length, (l.eraseIdx p)[k'] = l[k] := by
  have hl : (l.eraseIdx p).length = l.length - 1 := List.length_eraseIdx_of_lt hp
  by_cases h : p < k
  · rw [if_pos h] at hk'
    subst hk'
    refine ⟨by omega, ?_⟩
    rw [List.getElem_eraseIdx_of_ge (by omega) (by omega)]
    congr 1; omega
  · rw [if_neg h] at hk'
    subst hk'
    exact ⟨by omega, List.getElem_eraseIdx_of_lt (by omega) (by omega)⟩
set_option maxHeartbeats 16000000 in
theorem rDropTable_in (o : Objs) (As : Option Addr) (caps : Nat) (At : Option Addr) (capt : Nat) (s n : ByteArray) (w : World) (hsch : SlAt w 2 SchR As caps o.schemas) (htab : SlAt w 5 TabR At capt o.tables) :
    Calls Try.prog 9 #[.agg #[.slice As o.schemas.length caps, .slice At o.tables.length capt], .string s, .string n] w (ObjP w (chgR o (dropTabR s n o))) := by
  obtain ⟨i0, hi, hz0, hz1, hz2⟩ := info_parts info2Tab
  have HI := Lib.hid hi
  have HZ0 := Lib.hid hz0
  have HZ1 := Lib.hid hz1
  have HZ2 := Lib.hid hz2
  clear hi hz0 hz1 hz2
  obtain ⟨i1, hi, hz0, hz1, hz2⟩ := info_parts info2Sch2
  have JI := Lib.hid hi
  have JZ0 := Lib.hid hz0
  have JZ1 := Lib.hid hz1
  have JZ2 := Lib.hid hz2
  clear hi hz0 hz1 hz2
  have hlen := hsch.len
  have hlen2 := htab.len
  have l1 : w.heap.size < w.heap.size + 1 := by omega
  have l2 : w.heap.size < w.heap.size + 1 + 1 := by omega
  obtain ⟨W, hW⟩ : ∃ W, W = BoxO w (.slice As o.schemas.length caps) (.slice At o.tables.length capt) := ⟨_, rfl⟩
  have HST := Lib.hid (And.intro hsch htab)
  have HAW := Lib.hid (show Aft w W by rw [hW]; exact BoxO.aft _ _ _)
  have zW : W.heap.size = w.heap.size + 2 := by rw [hW]; exact BoxO.size _ _ _
  have HBX := Lib.hid (show RowAt W w.heap.size [.slice As o.schemas.length caps, .slice At o.tables.length capt] from by rw [hW]; exact BoxO.row _ _ _)
  have KR := Lib.hid (show ∀ w', Aft W w' → _ from fun w' a => by rw [hW] at a; exact BoxO.read a)
  have KO := Lib.hid (show ∀ w', Aft W w' → _ from fun w' a => by rw [hW] at a; exact BoxO.out a)
  have KN := Lib.hid (show ∀ w', Aft W w' → ∀ x : Int, _ from fun w' a x => by rw [hW] at a; exact BoxO.no a x)
  have KB := Lib.hid (show ∀ w', Aft W w' → RowAt w' (w.heap.size + 1) [.slice none 0 0, .slice none 0 0] from fun w' a => by rw [hW] at a; exact (BoxO.res w _ _).aft a)
  obtain ⟨q, hq⟩ : ∃ q, checkO o = q := ⟨_, rfl⟩
  obtain ⟨i, hi⟩ : ∃ i, tabAt o.tables s n = i := ⟨_, rfl⟩
  have hir : -1 ≤ i ∧ i < o.tables.length := by rw [← hi]; exact idxP_range _ _
  have C1 := Lib.hid (show ∀ w', Aft w w' → _ from fun w' a => hq ▸ rRight_any o As caps At capt w' (schs_aft a hsch) (tabs_aft a htab))
  have C2 := Lib.hid (show ∀ w', Aft w w' → _ from fun w' a => hi ▸ rtab_any (.slice As o.schemas.length caps) At capt o.tables s n w' (tabs_aft a htab))
  have HM := Lib.hid (show q = true → ModO o from fun h => check_mod (hq.trans h))
  have HB := Lib.hid (show q = true → Hid (∀ p : Nat, i = p → ∀ k (hk : k < o.tables.length), selfP s n o.tables[k] = decide (k = p)) from fun h => by
    have hr := checkO_rises (hq.trans h)
    exact Lib.hid fun p hp k hk => tab_only hr.1 (hi.trans hp) (by omega) k hk)
  have HF := Lib.hid (show chgR o (dropTabR s n o) = if q then (if i < 0 then (zeroO, 61) else if usedT o s n then (zeroO, 62) else (⟨o.schemas, o.tables.eraseIdx i.toNat⟩, 0)) else (zeroO, 63) from by
    unfold chgR dropTabR
    rw [hq, hi])
  clear hq hi hsch htab
  go_enter Try.func9, Try.ntmps9
  go_wp2_with fail
  rw [show ((w.alloc (.cells #[.slice As o.schemas.length caps, .slice At o.tables.length capt] 25)).alloc (.cells #[.slice none 0 0, .slice none 0 0] 25)) = W from hW.symm]
  clear hW
  refine (C1.out _ HAW.out).mono ?_
  rintro e w1 ⟨rfl, a1⟩
  obtain ⟨x0, x1, xz⟩ := KR.out w1 a1
  have HA1 := Lib.hid a1
  clear a1
  cases q
  · go_wp2_with fail
    refine (rNo_in _ _).mono ?_
    rintro e w9 ⟨rfl, a2⟩
    obtain ⟨y0, y1, y2, y3, yz⟩ := KO.out w9 (HA1.out.trans a2)
    have HP := Lib.hid (KN.out w9 (HA1.out.trans a2) 63)
    have HRW := Lib.hid (KB.out w9 (HA1.out.trans a2))
    clear a2
    go_wp2_with fail
    refine bodyPost_ret (results_cell_tmp (v := .agg #[.slice none 0 0, .slice none 0 0]) rfl _ rfl (lvObj_row (setO_row HRW.out rfl _ _))) rfl ?_
    rw [HF.out]
    exact HP.out
  have HMM := Lib.hid (HM.out (by first | trivial | rfl))
  have HT := Lib.hid (HB.out (by first | trivial | rfl)).out
  clear HB HM
  go_wp2_with fail
  refine (C2.out w1 (HAW.out.trans HA1.out)).mono ?_
  rintro e w2 ⟨rfl, a2⟩
  obtain ⟨x0, x1, xz⟩ := KR.out w2 (HA1.out.trans a2)
  have HA2 := Lib.hid (HA1.out.trans a2)
  clear a2
  by_cases h0 : i < 0
  · have HH := Lib.hid h0
    go_wp2_with fail
    refine (rNo_in _ _).mono ?_
    rintro e w9 ⟨rfl, a2⟩
    obtain ⟨y0, y1, y2, y3, yz⟩ := KO.out w9 (HA2.out.trans a2)
    have HP := Lib.hid (KN.out w9 (HA2.out.trans a2) 61)
    have HRW := Lib.hid (KB.out w9 (HA2.out.trans a2))
    clear a2
    go_wp2_with fail
    refine bodyPost_ret (results_cell_tmp (v := .agg #[.slice none 0 0, .slice none 0 0]) rfl _ rfl (lvObj_row (setO_row HRW.out rfl _ _))) rfl ?_
    rw [HF.out]
    simp only [if_true, if_pos HH.out]
    exact HP.out
  have HH := Lib.hid h0
  obtain ⟨p, hp⟩ : ∃ p : Nat, i = p := ⟨i.toNat, by omega⟩
  have HTT := Lib.hid (HT.out p hp)
  subst hp
  clear HT h0
  have hpl : p < o.tables.length := by omega
  have HQ5 := Lib.hid (show o.schemas.length ≤ maxLen ∧ o.schemas.length * 32 ≤ 140737488355328 from by have := HMM.out.1; unfold maxLen; omega)
  have HN := Lib.hid (sl_none HST.out.1)
  have HC := Lib.hid (show ∀ V, Aft w V → _ from fun V a => sl_cells HST.out.1 (by decide) (fun _ _ h => h.1) a)
  have hq4 := HQ5.out.1
  have hq5 := HQ5.out.2
  go_wp2_with (at_builtin; go_must (refine wpList_append_new _ rfl _ _ 22 rfl 51 i1 _ 2 32 Try.underlying22 JI.out JZ0.out JZ1.out JZ2.out rfl (by decide) rfl As o.schemas.length caps (o.schemas.flatMap schC) rfl (schC_len _) HN.out ?qc (oneC_cells oneC_sch _) hq4 hq5 ?_); rotate_left; intro Ac cc w3 own1 a1; have b3 := ((box_row2 (w := w2) (c := [.slice none 0 0, .slice none 0 0]) (t := 25) (Aft.refl _)).aft a1).cell (j := 0) rfl; have f3 := ((box_row2 (w := w2) (c := [.slice none 0 0, .slice none 0 0]) (t := 25) (Aft.refl _)).aft a1).2.2 0 (by simp); have z3 := ((box_row2 (w := w2) (c := [.slice none 0 0, .slice none 0 0]) (t := 25) (Aft.refl _)).aft a1).1)
  case qc => exact HC.out _ ((HAW.out.trans HA2.out).trans ((Aft.refl _).alloc _))
  have hwz : w.heap.size + 1 < w2.heap.size := (KO.out _ HA2.out).2.2.2.2
  have own1 : w3.ownsRow (w2.heap.size + 1) 51 2 (.slice Ac o.schemas.length cc) o.schemas.length (o.schemas.flatMap schC) := by simpa using own1
  have own1 : w3.ownsRow (w2.heap.size + 1) 51 2 (Hd.mk Ac o.schemas.length cc).v o.schemas.length (o.schemas.flatMap schC) := own1
  obtain ⟨n3, hn3⟩ : ∃ n, n = w2.heap.size := ⟨_, rfl⟩
  obtain ⟨o', ho'⟩ : ∃ o' : Objs, o' = ⟨o.schemas, o.tables.eraseIdx p⟩ := ⟨_, rfl⟩
  have hos : o'.schemas = o.schemas := by rw [ho']
  have hot : o'.tables = o.tables.eraseIdx p := by rw [ho']
  obtain ⟨W1, hW1⟩ : ∃ W1, W1 = w3.setCell ⟨w2.heap.size, 0, none⟩ (.slice Ac o.schemas.length cc) := ⟨_, rfl⟩
  have kW1 : Kb (fun g => g = n3) w3 W1 := by rw [hW1, hn3]; exact Kb.set _ _ _ _
  have HS0 := Lib.hid (show OwnS w W1 o' n3 ⟨Ac, o.schemas.length, cc⟩ ⟨none, 0, 0⟩ [] 0 ∧ RowAt W1 w.heap.size [.slice As o.schemas.length caps, .slice At o.tables.length capt] from by
    have hge : ∀ g ∈ (Hd.mk Ac o.schemas.length cc).blk, w2.heap.size + 1 ≤ g := fun g hg => (blk_lt own1 g hg).1
    have a13 : Aft w2 w3 := ((Aft.refl w2).alloc _).trans a1
    refine ⟨⟨kW1.to_aft ((HAW.out.trans HA2.out).trans a13) (fun x hx e => by omega), kW1.row ((KB.out _ HA2.out).aft a13) (by omega), ?_, ?_, fun g hg => ?_, rfl, by omega, rfl⟩, kW1.row ((HBX.out.aft HA2.out).aft a13) (by omega)⟩
    · rw [hW1, hn3, hos]; exact ((box_row2 (w := w2) (c := [.slice none 0 0, .slice none 0 0]) (t := 25) (Aft.refl _)).aft a1).set 0 _ (by simp)
    · rw [hos]; exact ⟨own_kb (own_down own1 (by omega)) kW1 (fun g hg e => by have := hge g (Hd.mem_blk.2 hg); omega), own_nil _ _ _ _, fun x hx => by simp at hx, by simpa [blk_nil] using blk_nodup _⟩
    · have hg' : g ∈ (Hd.mk Ac o.schemas.length cc).blk := by simpa [blk_nil] using hg
      have := hge g hg'
      omega)
  rw [← hW1]
  rw [← hn3]
  have HOO := Lib.hid (And.intro hos hot)
  clear own1 a1 HC HN zW hq4 hq5 JI JZ0 JZ1 JZ2 hW1 kW1 b3 f3 z3 hn3 ho' hos hot x0 x1 xz l2 HQ5 hwz
  go_loopw [10] (fun i wr => ∃ (k : Nat) (ht : Hd) (L : List OTab) (k' : Nat), k ≤ o.tables.length ∧ i = .int .i64 k ∧ k' = (if p < k then k - 1 else k) ∧ OwnS w wr o' n3 ⟨Ac, o.schemas.length, cc⟩ ht L k' ∧ RowAt wr w.heap.size [.slice As o.schemas.length caps, .slice At o.tables.length capt] ∧ ∀ j (hj : j < o.tables.length), j < k → j ≠ p → o.tables[j].rules.any (namesR s n) = false) (fun i _ => o.tables.length - (intOf i).toNat)
  case atStart => exact ⟨0, _, [], 0, Nat.zero_le _, rfl, by simp, HS0.out.1, HS0.out.2, fun j hj h => absurd h (Nat.not_lt_zero j)⟩
  case round =>
    clear HS0
    obtain ⟨k, ht, L, k', hk, rfl, hk', hs, hbx, hno⟩ := hrel
    have HBY := Lib.hid hbx
    have HNO := Lib.hid hno
    have HK' := Lib.hid hk'
    have v1 := hbx.cell (j := 1) rfl
    have v2 := hbx.1
    clear hbx hno hk'
    have HS := Lib.hid hs
    by_cases hlt : k < o.tables.length
    · by_cases hkp : k = p
      · subst hkp
        have HN := Lib.hid (show k' = (if k < k + 1 then k + 1 - 1 else k + 1) from by have := HK'.out; rw [if_neg (by omega)] at this; rw [if_pos (by omega), this]; rfl)
        clear hs
        go_wp2_with fail
        go_roundw
        case rel => exact ⟨k + 1, ht, L, k', by omega, by go_num, HN.out, HS.out, HBY.out, fun j hj h1 h2 => HNO.out j hj (by omega) h2⟩
        case measure => simp [intOf]; omega
      · obtain ⟨b, off, A2, cap2, A3, cap3, rfl, hb, t0, t1, t2, t3, t4, hcols, hruls, hss⟩ := tab_at HST.out.2 hlt
        obtain ⟨y, hpp⟩ : ∃ y, o.tables[k] = y := ⟨_, rfl⟩
        rw [hpp] at t0 t1 t2 t3 t4 hcols hruls hss
        have HPP := Lib.hid hpp
        have hkp2 : ¬ (k : Int) = (p : Int) := by omega
        have hb0 : (0 : Int) ≤ (k : Int) := by omega
        have hb1 : (k : Int) < (o.tables.length : Int) := by omega
        obtain ⟨hk9, hget⟩ := erase_get (l := o.tables) hpl hlt hkp HK'.out
        have HGT := Lib.hid (show ∃ h : k' < o'.tables.length, o'.tables[k'] = y from by simp only [HOO.out.2]; exact ⟨hk9, hget.trans hpp⟩)
        have HTC := Lib.hid (And.intro t0 (And.intro t1 (And.intro t2 (And.intro t3 t4))))
        have HCR := Lib.hid (And.intro hcols hruls)
        have d0 := hs.aft.cell_kept t0
        have d1 := hs.aft.cell_kept t1
        have d2 := hs.aft.cell_kept t2
        have d3 := hs.aft.cell_kept t3
        have d4 := hs.aft.cell_kept t4
        have dz : b < wr.heap.size := Nat.lt_of_lt_of_le hb hs.aft.size
        have CN := Lib.hid (rnames_in y (.slice A2 y.cols.length cap2) A3 cap3 s n wr (ruls_aft hs.aft hruls))
        obtain ⟨g, hg⟩ : ∃ g, y.rules.any (namesR s n) = g := ⟨_, rfl⟩
        rw [hg] at CN
        have HGG := Lib.hid (show o.tables[k].rules.any (namesR s n) = g from by rw [hpp]; exact hg)
        clear hs hpp hg t0 t1 t2 t3 t4 hcols hruls hss hk9 hget hkp
        have HKP := Lib.hid (show k ≠ p from fun e => hkp2 (by rw [e]))
        go_wp2_with fail
        refine CN.out.mono ?_
        rintro e w4 ⟨rfl, a4⟩
        have HS4 := Lib.hid (HS.out.aft' a4)
        have HB4 := Lib.hid (HBY.out.aft a4)
        clear a4
        cases g
        case true =>
          go_wp2_with fail
          refine (rNo_in _ _).mono ?_
          rintro e w9 ⟨rfl, a9⟩
          have HRW := Lib.hid (HS4.out.out.aft a9)
          have y0 := HRW.out.cell (j := 0) rfl
          have y1 := HRW.out.cell (j := 1) rfl
          have y2 := HRW.out.2.2 0 (by simp)
          have y3 := HRW.out.2.2 1 (by simp)
          have yz := HRW.out.1
          have HP := Lib.hid (objP_zset (c := 62) (b := w.heap.size + 1) (v0 := .slice none 0 0) (v1 := .slice none 0 0) (HS4.out.aft.trans a9) (by omega))
          clear a9
          go_wp2_with fail
          refine bodyPost_ret (results_cell_tmp (v := .agg #[.slice none 0 0, .slice none 0 0]) rfl _ rfl (lvObj_row (setO_row HRW.out rfl _ _))) rfl ?_
          rw [HF.out, used_yes HTT.out hlt HKP.out HGG.out]
          simp only [if_true, if_neg (show ¬ (p : Int) < 0 by omega)]
          exact HP.out
        case false =>
          obtain ⟨At', nt, ct⟩ := ht
          have htab := HS4.out.obj.tab
          rw [HS4.out.len] at htab
          have hnt : nt = k' := own_n htab
          subst hnt
          have hown : w4.ownsRow (w.heap.size + 2) 29 5 (.slice At' nt ct) nt (L.flatMap OTab.cells) := htab
          have HOWN := Lib.hid hown
          have hneb : (Value.slice At' nt ct).ownBlock ≠ some n3 := fun e => HS4.out.ne n3 (by simp only [List.mem_append]; exact .inr (.inl (Hd.mem_blk.2 e))) rfl
          have HB := Lib.hid HS4.out.box
          have k1 := HS4.out.box.cell (j := 1) rfl
          have w1' := HB4.out.cell (j := 1) rfl
          obtain ⟨t0, t1, t2, t3, t4⟩ := HTC.out
          have hzr : w.heap.size + 2 ≤ w4.heap.size := by have := HS4.out.n3; have := HS4.out.box.1; omega
          have hwz2 : w.heap.size ≤ w4.heap.size := by omega
          have KF := Lib.hid (show ∀ w', Kb (fun g => (Value.slice At' nt ct).ownBlock = some g) w4 w' → (w'.cell? ⟨n3, 1, none⟩ = some (.slice At' nt ct) ∧ w'.cell? ⟨w.heap.size, 1, none⟩ = some (.slice (some ⟨b, off, none⟩) o.tables.length capt) ∧ w'.cell? ⟨b, off + k * 5, none⟩ = some (.string y.schema) ∧ w'.cell? ⟨b, off + k * 5 + 1, none⟩ = some (.string y.name) ∧ w'.cell? ⟨b, off + k * 5 + 2, none⟩ = some (.string y.owner) ∧ w'.cell? ⟨b, off + k * 5 + 3, none⟩ = some (.slice A2 y.cols.length cap2) ∧ w'.cell? ⟨b, off + k * 5 + 4, none⟩ = some (.slice A3 y.rules.length cap3) ∧ w'.frozen? ⟨n3, 1, none⟩ = false ∧ n3 < w'.heap.size) from fun w' kb => by
            have hne2 : ¬ (Value.slice At' nt ct).ownBlock = some b := fun e => by have := (HOWN.out.lt _ e).1; omega
            have hne3 : ¬ (Value.slice At' nt ct).ownBlock = some w.heap.size := fun e => by have := (HOWN.out.lt _ e).1; omega
            have r3 := kb.row HB.out hneb
            exact ⟨kb.cell k1 hneb, kb.cell w1' hne3, kb.cell (HS4.out.aft.cell_kept t0) hne2, kb.cell (HS4.out.aft.cell_kept t1) hne2, kb.cell (HS4.out.aft.cell_kept t2) hne2, kb.cell (HS4.out.aft.cell_kept t3) hne2, kb.cell (HS4.out.aft.cell_kept t4) hne2, r3.2.2 1 (by simp), r3.1⟩)
          have C := Lib.hid (show ∀ w', Aft w4 w' → _ from fun w' a => rCopy_in y A2 cap2 A3 cap3 w' (cols_aft (HS4.out.aft.trans a) HCR.out.1) (ruls_aft (HS4.out.aft.trans a) HCR.out.2) (by have := HMM.out.2.2 y (by rw [← HPP.out]; exact List.getElem_mem hlt); exact this))
          have hsm : nt + 1 ≤ 1000000 := by
            obtain ⟨h1, _⟩ := HGT.out
            have h2 : o'.tables.length = o.tables.length - 1 := by rw [HOO.out.2]; exact List.length_eraseIdx_of_lt hpl
            have := HMM.out.2.1
            omega
          have h63 : nt + 1 ≤ maxLen := by unfold maxLen; omega
          have hby : (nt + 1) * 96 ≤ 140737488355328 := by omega
          have HIF := Lib.hid (show nt + 1 = (if p < k + 1 then k + 1 - 1 else k + 1) from by have h := HK'.out; have h2 := HKP.out; split at h <;> split <;> omega)
          clear htab hown hneb t0 t1 t2 t3 t4 k1 w1' d0 d1 d2 d3 d4 dz v1 v2 hsm
          go_wp2_with fail
          obtain ⟨q1, q2, q3, q4, q5, q6, q7, q8, q9⟩ := KF.out _ (Kb.refl _ _)
          go_region_law ((first | (go_simp; go_at_call 12; refine (C.out _ (Aft.refl _).drew).mono ?_; rintro e w5 ⟨x, hxt, rfl, a4, tin, xnd⟩; have a5 : Aft w4 w5 := (Aft.refl _).drew.trans a4; obtain ⟨p1, p2, p3, p4, p5, p6, p7, p8, p9⟩ := KF.out w5 (Kb.of_aft a5); dsimp only) | (refine step_append_lies _ (by rfl) _ _ _ (by rfl) (w.heap.size + 2) 29 i0 _ 5 96 Try.underlying23 HI.out HZ0.out HZ1.out HZ2.out rfl (by omega) (.slice At' nt ct) nt (L.flatMap OTab.cells) (by rfl) ((own_aft HOWN.out a5).alloc _) ⟨w5.heap.size, 0, none⟩ 1 1 [.string y.schema, .string y.name, .string y.owner, .slice x.hc.a y.cols.length x.hc.c, .slice x.hr.a y.rules.length x.hr.c] (by rfl) (by rfl) (World.news_of_block (cs := #[.string y.schema, .string y.name, .string y.owner, .slice x.hc.a y.cols.length x.hc.c, .slice x.hr.a y.rules.length x.hr.c]) (t := 29) (fr := (0, 0)) (heap_alloc_new w5 _)) (by simp [Value.oneCell']) (by omega) h63 hby (by simp; have := a5.size; omega) (w5.heap.size + 1) (by simp) ?_; intro gg cap' w6 hown5 hgrow hat hgl; obtain ⟨s1, s2, s3, s4, s5, s6, s7, s8, s9⟩ := KF.out _ ((Kb.of_aft (a5.alloc _)).trans (Kb.of_grown hgrow)))))
          all_goals
            obtain ⟨hk9, hget⟩ := HGT.out
            have HREL0 := Lib.hid (HS4.out.row0 (a5.alloc _) hgrow (.slice (some ⟨gg, 0, none⟩) (nt + 1) cap') HB4.out)
            have HREL := Lib.hid (HS4.out.step (ht' := ⟨some ⟨gg, 0, none⟩, nt + 1, cap'⟩) (x := x) hk9 (by rw [hxt, hget]) (a5.alloc _) (tin.aft ((Aft.refl _).alloc _)) xnd hgrow (by rw [OTab.cells_of tin hxt]; exact hown5)
              (fun g hg => by
                rw [blk_some, List.mem_singleton] at hg
                subst hg
                rcases hat with h1 | h1
                · exact .inl (Hd.mem_blk.2 h1)
                · refine .inr ?_
                  simp
                  omega)
              (fun g hg hx => by
                rw [blk_some, List.mem_singleton] at hg
                subst hg
                have h2 := tin.lt _ hx
                have h4 : w4.heap.size ≤ g := h2.1
                rcases hat with h1 | h1
                · have := (HOWN.out.lt _ h1).2
                  omega
                · omega))
            clear tin xnd hown5 hgrow hat hgl a5 a4 hxt hk9 hget q1 q2 q3 q4 q5 q6 q7 q8 q9 p1 p2 p3 p4 p5 p6 p7 p8 p9 s1 s2 s3 s4 s5 s6 s7 s8 s9
            go_wp2_with fail
            go_roundw
            case rel => exact ⟨k + 1, _, _, nt + 1, by omega, by go_num, HIF.out, HREL.out, HREL0.out, fun j hj h1 h2 => by
              by_cases e : j = k
              · subst e; exact HGG.out
              · exact HNO.out j hj (by omega) h2⟩
            case measure => simp [intOf]; omega
    · have hkn : k = o.tables.length := by omega
      subst hkn
      have e7 : k' = (o.tables.eraseIdx p).length := by
        have := HK'.out
        rw [if_pos hpl] at this
        rw [this, List.length_eraseIdx_of_lt hpl]
      have hos := HOO.out.1
      have hot := HOO.out.2
      have c0 := hs.box.cell (j := 0) rfl
      have c1 := hs.box.cell (j := 1) rfl
      rw [hos] at c0
      have d0 := hs.out.cell (j := 0) rfl
      have d1 := hs.out.cell (j := 1) rfl
      have e0 := hs.out.2.2 0 (by simp)
      have e1 := hs.out.2.2 1 (by simp)
      have dz := hs.out.1
      have nz := hs.box.1
      have HE7 := Lib.hid e7
      clear hs hos hot e7
      go_wp2_with fail
      have hs := HS.out
      have hn3 := hs.n3
      obtain ⟨F, hF⟩ : ∃ F, F = (wr.setCell ⟨w.heap.size + 1, 0, none⟩ (.slice Ac o.schemas.length cc)).setCell ⟨w.heap.size + 1, 1, none⟩ (.slice ht.a k' ht.c) := ⟨_, rfl⟩
      have kF : Kb (fun x => x = w.heap.size + 1) wr F := by
        rw [hF]
        exact (Kb.set _ _ _ _).trans (Kb.set _ _ _ _)
      have rF : RowAt F (w.heap.size + 1) [.slice Ac o.schemas.length cc, .slice ht.a k' ht.c] := by
        rw [hF]
        exact (hs.out.set 0 _ (by simp)).set 1 _ (by simp)
      rw [← hF]
      refine bodyPost_ret (results_cell_tmp (v := .agg #[.slice Ac o.schemas.length cc, .slice ht.a k' ht.c]) rfl _ rfl ?hl) rfl ?_
      case hl => exact lvObj_row rF
      have hFF : chgR o (dropTabR s n o) = (⟨o.schemas, o.tables.eraseIdx p⟩, 0) := by
        rw [HF.out, used_no HTT.out (fun k hk h => HNO.out k hk hk h)]
        simp only [if_true, if_neg (show ¬ (p : Int) < 0 by omega), Bool.false_eq_true, if_false, Int.toNat_natCast]
      rw [hFF]
      have his := hs.is
      rw [HOO.out.2, HE7.out, List.take_of_length_le (Nat.le_refl _)] at his
      have hob := hs.obj
      rw [HOO.out.1] at hob
      refine ⟨⟨Ac, o.schemas.length, cc⟩, ht, L, his, by rw [HE7.out]; rfl, kF.to_aft hs.aft (fun x hx e => by omega), ?_⟩
      refine ObjIn.down (hob.kb kF fun g hg e => ?_) (by omega)
      have := (hob.lt g hg).1
      omega
end Go.Proofs.Yticjnndhpfdajaa
/- ObjectsTables: plain facts for the law. -/
namespace Go.Proofs.Yticjnndhpfdajaa
open Go.RowKit Go.Deep
set_option maxRecDepth 100000
set_option linter.unusedVariables false
theorem smO_chg' {o : Objs} {r : Objs × Int} (h : checkO o = true → SmO r.1) : SmO (chgR o r).1 := by
  unfold chgR
  split
  · rename_i h1; exact h h1
  · exact smO_zero
theorem smO_addTab {o : Objs} {t : Tab} (h : SmO o) (ht : SmT t) : SmO (chgR o (addTabR t o)).1 := by
  refine smO_chg' fun hc => ?_
  have hl := (checkO_rises hc).2.2.2
  unfold addTabR
  split
  · exact smO_zero
  · split
    · exact smO_zero
    · split
      · exact smO_zero
      · split
        · exact smO_zero
        · split
          · exact smO_zero
          · refine ⟨h.1, ?_, fun y hy => ?_⟩
            · show Small ((insAt _ _ _).length * 16)
              rw [insAt_len _ _ _ (posB_le _ _ _)]; unfold Small; omega
            · rcases mem_insAt.1 hy with e | e
              · rw [e]; exact ht
              · exact h.2.2 y e
theorem smO_dropTab {o : Objs} {s n : ByteArray} (h : SmO o) : SmO (dropTabR s n o).1 := by
  unfold dropTabR
  split
  · exact smO_zero
  · split
    · exact smO_zero
    · exact ⟨h.1, Nat.le_trans (Nat.mul_le_mul_right _ (List.length_eraseIdx_le _ _)) h.2.1, fun s hs => h.2.2 s (List.mem_of_mem_eraseIdx hs)⟩
def newT : Tab := ⟨⟨#[115]⟩, ⟨#[117]⟩, ⟨#[111]⟩, [⟨⟨#[120]⟩, 2, false⟩], []⟩
theorem ex_addTab : chgR oneO (addTabR newT oneO) = (⟨oneO.schemas, oneO.tables ++ [newT]⟩, 0) := by
  unfold chgR addTabR
  rw [oneO_ok, show nameB newT.name = true by decide +kernel, show nameB newT.owner = true by decide +kernel, show schAt oneO.schemas newT.schema = 0 by decide +kernel, show tabAt oneO.tables newT.schema newT.name = -1 by decide +kernel, show within oneO.tables newT.schema = 1 by decide +kernel, show colsOk newT.cols = true by decide +kernel, show posB cmpTb oneO.tables newT = 1 by decide +kernel]
  rfl
theorem ex_dropTab : chgR oneO (dropTabR ⟨#[115]⟩ ⟨#[116]⟩ oneO) = (⟨oneO.schemas, []⟩, 0) := by
  unfold chgR dropTabR
  rw [oneO_ok, show tabAt oneO.tables ⟨#[115]⟩ ⟨#[116]⟩ = 0 by decide +kernel, usedT_eq, show (oneO.tables.any fun t => !selfP ⟨#[115]⟩ ⟨#[116]⟩ t && t.rules.any (namesR ⟨#[115]⟩ ⟨#[116]⟩)) = false by decide +kernel]
  rfl
end Go.Proofs.Yticjnndhpfdajaa
