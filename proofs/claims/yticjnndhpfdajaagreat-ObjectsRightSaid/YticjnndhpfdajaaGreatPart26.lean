/- Contracts of the program, part 26. -/
import Derived.Test.YticjnndhpfdajaaGreatPart23
import Derived.Test.YticjnndhpfdajaaGreatPart25
import Derived.Sort.QuietTacIn
import Derived.NoCompiler
import Derived.Test.YticjnndhpfdajaaGreatPart24
import Derived.Test.YticjnndhpfdajaaGreatPart17
/- objects.AddRule: the closure. -/
namespace Go.Proofs.YticjnndhpfdajaaGreat
open Go.RowKit Go.Deep Go.Sort
set_option maxRecDepth 100000
set_option linter.unusedVariables false
set_option maxHeartbeats 16000000 in
theorem addRul1_in (r : Rul) (Ac : Option Addr) (cc : Nat) (o : Objs) (w : World) (hs ht : Hd) (L : List OTab) (B n3 q gt bt : Nat) (hck : checkO o = true) (hq : q < L.length) (hbn : B ≤ n3) (hL : L.map OTab.t = o.tables) (ob : ObjIn w B hs ht o.schemas L) (hne : ∀ g ∈ hs.blk ++ (ht.blk ++ L.flatMap OTab.blks), g ≠ n3)
    (r3 : RowAt w n3 [.slice hs.a o.schemas.length hs.c, .slice ht.a o.tables.length ht.c]) (hgt : ht.a = some ⟨gt, 0, none⟩) (rt : RowAt w bt [.string r.name, .int .i64 r.kind, .slice Ac r.cols.length cc, .int .i64 r.low, .int .i64 r.high, .string r.schema, .string r.table, .string r.key]) (hbt : bt < B) (hns : SlAt w 1 StrR Ac cc r.cols) (sm : SmO o) (h1 : Small r.name.size) (h2 : Small r.schema.size) (h3 : Small r.table.size) (h4 : Small r.key.size) :
    Calls Tryz.prog 61 #[.agg #[.slice hs.a o.schemas.length hs.c, .slice ht.a o.tables.length ht.c], .pointer (some ⟨gt, q * 5, none⟩), .pointer (some ⟨bt, 0, none⟩)] w (TDoPX (fun g => g = bt) w B n3 hs ht o.schemas L q (addRulF o.tables r L[q].t)) := by
  have hLL : L.length = o.tables.length := by rw [← hL]; simp
  have hoo : objOf o.schemas L = o := by unfold objOf; rw [hL]
  have hmq : L[q].t ∈ o.tables := by rw [← hL]; exact List.mem_map_of_mem (List.getElem_mem hq)
  have smq : SmT L[q].t := sm.2.2 _ hmq
  have hmod := (check_mod hck).2.2 _ hmq
  have htab : SlAt w 5 TabR ht.a ht.c o.tables := by have := ob.tabs (by rw [hoo]; exact sm); rw [hL] at this; exact this
  have tq := ob.nth hq
  obtain ⟨z1, z2, zf⟩ := ob.row hgt hq
  have hcv : L[q].hc.v = .slice L[q].hc.a L[q].cols.length L[q].hc.c := own_slice tq.col
  have hrv : L[q].hr.v = .slice L[q].hr.a L[q].rules.length L[q].hr.c := own_slice tq.rul
  have cols := tq.cols smq
  have ruls := tq.ruls smq
  have hlen := cols.len
  have hlen2 := ruls.len
  have hlen3 := htab.len
  have hrl : L[q].t.rules.length = L[q].rules.length := by unfold OTab.t; simp
  have hris : risesB cmpRl L[q].t.rules = true := by
    have h9 := hck
    unfold checkO at h9
    simp only [Bool.and_eq_true, List.all_eq_true] at h9
    have h8 := h9.2.2 _ hmq
    unfold rightT at h8
    simp only [Bool.and_eq_true] at h8
    exact h8.2.2
  have hbq : gt ∈ ht.blk := by rw [Hd.mem_blk]; unfold Hd.v; rw [hgt]; rfl
  have nd := ob.nd
  have hgc : ∀ g, L[q].hr.v.ownBlock = some g → g ≠ gt ∧ g ≠ n3 ∧ B ≤ g := fun g h => by
    have hin : g ∈ L.flatMap OTab.blks := List.mem_flatMap.2 ⟨L[q], List.getElem_mem hq, by unfold OTab.blks; simp [Hd.mem_blk.2 h]⟩
    exact ⟨fun e => nodup_disj (List.nodup_append.1 nd).2.1 hbq (by rw [← e]; exact hin), hne g (by simp only [List.mem_append]; exact .inr (.inr hin)), (tq.rul.lt g h).1⟩
  have hgn : gt ≠ n3 := hne gt (by simp [hbq])
  obtain ⟨u, hu⟩ : ∃ u, fitsOk L[q].t.cols r = u := ⟨_, rfl⟩
  obtain ⟨i, hi⟩ : ∃ i, rulAt L[q].t.rules r.name = i := ⟨_, rfl⟩
  obtain ⟨k, hk⟩ : ∃ k, keyE o.tables L[q].t.cols r = k := ⟨_, rfl⟩
  have hir : -1 ≤ i ∧ i < L[q].rules.length := by rw [← hi, ← hrl]; exact idxP_range _ _
  have HE := Lib.hid (show addRulF o.tables r L[q].t = if !u then (L[q].t, 63) else if 0 ≤ i then (L[q].t, 60) else if 8 ≤ L[q].rules.length then (L[q].t, 2) else if (r.kind == 4 && k != 0) then (L[q].t, k) else ({ L[q].t with rules := insAt L[q].t.rules (posB cmpRl L[q].t.rules r) r }, 0) by
    unfold addRulF; rw [hu, hi, hk, hrl])
  have HI := Lib.hid (show i < 0 → ∀ y ∈ L[q].t.rules, cmpRl y r ≠ 0 from fun h => rul_none (hi ▸ h))
  have aB : ∀ v0 v1, Aft w (w.alloc (.cells #[v0, v1] 25)) := fun v0 v1 => (Aft.refl w).alloc _
  obtain ⟨W, hW⟩ : ∃ W, W = w.alloc (.cells #[.slice hs.a o.schemas.length hs.c, .slice ht.a o.tables.length ht.c] 25) := ⟨_, rfl⟩
  have aW : Aft w W := by rw [hW]; exact (Aft.refl w).alloc _
  have rW : RowAt W w.heap.size [.slice hs.a o.schemas.length hs.c, .slice ht.a o.tables.length ht.c] := by rw [hW]; exact box_row2 (Aft.refl _)
  have CF := Lib.hid (show ∀ V, Aft w V → ∀ x : Lat V, Calls Tryz.prog 62 #[.slice L[q].hc.a L[q].cols.length L[q].hc.c, .agg #[.string r.name, .int .i64 r.kind, .slice Ac r.cols.length cc, .int .i64 r.low, .int .i64 r.high, .string r.schema, .string r.table, .string r.key]] (lat V x) fun e w'' => e = .returned (.bool u) ∧ Aft (lat V x) w'' from
    fun V a x => (fits_any L[q].hc.a L[q].hc.c L[q].cols r Ac cc (lat V x) (cols_aft (a.lat x) cols) (strs_aft (a.lat x) hns) h1 h2 h3 h4).mono fun e w'' ⟨he, hw⟩ => ⟨he.trans (by rw [← hu]; rfl), hw⟩)
  have CB := Lib.hid (show ∀ V, Aft w V → ∀ x : Lat V, Calls Tryz.prog 63 #[.slice L[q].hr.a L[q].rules.length L[q].hr.c, .string r.name, .func (.func 64) #[] #[]] (lat V x) fun e w'' => e = .returned (.int .i64 i) ∧ Aft (lat V x) w'' from
    fun V a x => by
      have h9 := (byRul L[q].hr.a L[q].hr.c (L[q].rules.map (·.r)) r.name (lat V x) (ruls_aft (a.lat x) ruls)).mono fun e w'' ⟨he, hw⟩ => (⟨he.trans (by rw [← hi]; rfl), hw⟩ : e = Ending.returned (Value.int .i64 i) ∧ Aft (lat V x) w'')
      rw [List.length_map] at h9
      exact h9)
  have CK := Lib.hid (show ∀ V, Aft w V → ∀ x : Lat V, Calls Tryz.prog 65 #[.agg #[.slice hs.a o.schemas.length hs.c, .slice ht.a o.tables.length ht.c], .slice L[q].hc.a L[q].cols.length L[q].hc.c, .agg #[.string r.name, .int .i64 r.kind, .slice Ac r.cols.length cc, .int .i64 r.low, .int .i64 r.high, .string r.schema, .string r.table, .string r.key]] (lat V x) fun e w'' => e = .returned (.int .i64 k) ∧ Aft (lat V x) w'' from
    fun V a x => (key_any _ ht.a ht.c o.tables L[q].hc.a L[q].hc.c L[q].cols r Ac cc (lat V x) (tabs_aft (a.lat x) htab) (cols_aft (a.lat x) cols) (strs_aft (a.lat x) hns)).mono fun e w'' ⟨he, hw⟩ => ⟨he.trans (by rw [← hk]; rfl), hw⟩)
  have CC := Lib.hid (show u = true → ∀ V, Aft w V → _ from fun h V a => clone2Str Ac cc r.cols V V (Aft.refl V) (strs_aft a hns) (by
    have h9 : rcOk L[q].t.cols r.cols = true := by have hf := hu.trans h; unfold fitsOk at hf; simp only [Bool.and_eq_true] at hf; exact hf.1.1.1
    have := rc_len _ _ h9
    have := hmod.1
    omega))
  have KF := Lib.hid (show ∀ V, Aft w V → (V.cell? ⟨gt, q * 5 + 3, none⟩ = some (.slice L[q].hc.a L[q].cols.length L[q].hc.c) ∧ V.cell? ⟨gt, q * 5 + 4, none⟩ = some (.slice L[q].hr.a L[q].rules.length L[q].hr.c) ∧ gt < V.heap.size) ∧ (V.cell? ⟨bt, 0, none⟩ = some (.string r.name) ∧ V.cell? ⟨bt, 1, none⟩ = some (.int .i64 r.kind) ∧ V.cell? ⟨bt, 2, none⟩ = some (.slice Ac r.cols.length cc) ∧ V.cell? ⟨bt, 3, none⟩ = some (.int .i64 r.low) ∧ V.cell? ⟨bt, 4, none⟩ = some (.int .i64 r.high) ∧ V.cell? ⟨bt, 5, none⟩ = some (.string r.schema) ∧ V.cell? ⟨bt, 6, none⟩ = some (.string r.table) ∧ V.cell? ⟨bt, 7, none⟩ = some (.string r.key) ∧ bt < V.heap.size) ∧ V.frozen? ⟨bt, 2, none⟩ = false from fun V a => by
    have p := rt.aft a
    have ob2 := ob.aft a
    have d3 : V.cell? ⟨gt, q * 5 + 3, none⟩ = some (.slice L[q].hc.a L[q].cols.length L[q].hc.c) := by rw [← hcv]; exact ob2.cell hgt hq (by decide)
    have d4 : V.cell? ⟨gt, q * 5 + 4, none⟩ = some (.slice L[q].hr.a L[q].rules.length L[q].hr.c) := by rw [← hrv]; exact ob2.cell hgt hq (by decide)
    exact ⟨⟨d3, d4, (ob2.row hgt hq).1⟩, ⟨p.cell (j := 0) rfl, p.cell (j := 1) rfl, p.cell (j := 2) rfl, p.cell (j := 3) rfl, p.cell (j := 4) rfl, p.cell (j := 5) rfl, p.cell (j := 6) rfl, p.cell (j := 7) rfl, p.1⟩, p.2.2 2 (by simp)⟩)
  have KO := Lib.hid (show ∀ V, Aft W V → (V.cell? ⟨w.heap.size, 0, none⟩ = some (.slice hs.a o.schemas.length hs.c) ∧ V.cell? ⟨w.heap.size, 1, none⟩ = some (.slice ht.a o.tables.length ht.c) ∧ w.heap.size < V.heap.size) from fun V a => ⟨(rW.aft a).cell (j := 0) rfl, (rW.aft a).cell (j := 1) rfl, (rW.aft a).1⟩)
  have HM := Lib.hid (show L[q].rules.length ≤ 1000000 from by have := hmod.2.1; omega)
  have HOB := Lib.hid ob
  have HGT := Lib.hid hgt
  have HR3 := Lib.hid r3
  have HRT := Lib.hid rt
  have HGC := Lib.hid hgc
  have HLL := Lib.hid hLL
  have HRV := Lib.hid hrv
  have HRS := Lib.hid hris
  have HRL := Lib.hid hrl
  have HNE := Lib.hid hne
  have ERR := Lib.hid (show ∀ V, Aft w V → ∀ c : Int, c ≠ 0 → TDoPX (fun g => g = bt) w B n3 hs ht o.schemas L q (L[q].t, c) (.returned (.int .i64 c)) V from fun V a c hc => ⟨rfl, Kb.of_aft a, fun h => absurd h hc⟩)
  have HAW := Lib.hid aW
  clear ob hgt r3 rt hgc hLL hcv hrv hris hrl hu hi hk cols ruls nd hoo smq hL sm tq aW hne zf htab hns hmod hmq hck rW aB
  obtain ⟨⟨d3, d4, dz⟩, ⟨t0, t1, t2, t3, t4, t5, t6, t7, tz⟩, tf2⟩ := KF.out W HAW.out
  obtain ⟨q0, q1, qz⟩ := KO.out W (Aft.refl W)
  have CF' := Lib.hid (CF.out W HAW.out)
  clear CF
  go_enter Tryz.func61, Tryz.ntmps61
  go_wp2_with fail
  rw [← hW]
  clear hW
  refine wp_region_lat (by kernel_rfl) (by kernel_rfl) ?_
  repeat (go_big_quiet_step ((go_at_call 62; exact Calls.lat_of (CF'.out _))))
  refine wpQuiet_nil ?_
  intro _ hw'
  obtain ⟨x, hw''⟩ := hw'
  subst hw''
  obtain ⟨V, hV⟩ : ∃ V, V = lat W x := ⟨_, rfl⟩
  have aV : Aft W V := by rw [hV]; exact (Aft.refl W).lat x
  rw [← hV]
  obtain ⟨⟨d3, d4, dz⟩, ⟨t0, t1, t2, t3, t4, t5, t6, t7, tz⟩, tf2⟩ := KF.out V (HAW.out.trans aV)
  obtain ⟨q0, q1, qz⟩ := KO.out V aV
  have HAV := Lib.hid aV
  clear hV aV CF'
  cases u
  · go_wp2_with fail
    go_ret
    rw [HE.out]
    exact ERR.out _ (HAW.out.trans HAV.out) 63 (by decide)
  have CB' := Lib.hid (CB.out V (HAW.out.trans HAV.out))
  clear CB
  by_cases h0 : 0 ≤ i
  · have hd : decide (0 ≤ i) = true := decide_eq_true h0
    have HH := Lib.hid h0
    go_wp2_with fail
    refine wp_region_lat (by kernel_rfl) (by kernel_rfl) ?_
    repeat (go_big_quiet_step ((go_at_call 63; exact Calls.lat_of (CB'.out _))))
    refine wpQuiet_nil ?_
    intro _ hw'
    obtain ⟨x, hw''⟩ := hw'
    subst hw''
    go_wp2_with fail
    go_ret
    rw [HE.out]
    simp only [Bool.not_true, Bool.not_false, Bool.or_self, Bool.false_eq_true, if_false, if_true, if_pos HH.out]
    exact ERR.out _ ((HAW.out.trans HAV.out).lat x) 60 (by decide)
  have hd : decide (0 ≤ i) = false := decide_eq_false h0
  have HH := Lib.hid h0
  clear h0
  go_wp2_with fail
  refine wp_region_lat (by kernel_rfl) (by kernel_rfl) ?_
  repeat (go_big_quiet_step ((go_at_call 63; exact Calls.lat_of (CB'.out _))))
  refine wpQuiet_nil ?_
  intro _ hw'
  obtain ⟨x, hw''⟩ := hw'
  subst hw''
  obtain ⟨U, hU⟩ : ∃ U, U = lat V x := ⟨_, rfl⟩
  have aU : Aft V U := by rw [hU]; exact (Aft.refl V).lat x
  rw [← hU]
  obtain ⟨⟨d3, d4, dz⟩, ⟨t0, t1, t2, t3, t4, t5, t6, t7, tz⟩, tf2⟩ := KF.out U ((HAW.out.trans HAV.out).trans aU)
  obtain ⟨q0, q1, qz⟩ := KO.out U (HAV.out.trans aU)
  have HAU := Lib.hid (HAV.out.trans aU)
  clear hU aU CB' HAV
  by_cases h8 : 8 ≤ L[q].rules.length
  · have hd8 : (8 : Int) ≤ (L[q].rules.length : Int) := by omega
    have H8 := Lib.hid h8
    clear h8
    go_wp2_with fail
    go_ret
    rw [HE.out]
    simp only [Bool.not_true, Bool.not_false, Bool.or_self, Bool.false_eq_true, if_false, if_true, if_neg (show ¬ 0 ≤ i by have := HH.out; omega), if_pos H8.out]
    exact ERR.out _ (HAW.out.trans HAU.out) 2 (by decide)
  have hd8 : ¬ (8 : Int) ≤ (L[q].rules.length : Int) := by omega
  have H8 := Lib.hid h8
  clear h8
  by_cases hk4 : r.kind = 4
  · have CK' := Lib.hid (CK.out U (HAW.out.trans HAU.out))
    rw [hk4] at t1
    have CK' := Lib.hid (show ∀ x : Lat U, Calls Tryz.prog 65 #[.agg #[.slice hs.a o.schemas.length hs.c, .slice ht.a o.tables.length ht.c], .slice L[q].hc.a L[q].cols.length L[q].hc.c, .agg #[.string r.name, .int .i64 4, .slice Ac r.cols.length cc, .int .i64 r.low, .int .i64 r.high, .string r.schema, .string r.table, .string r.key]] (lat U x) fun e w'' => e = .returned (.int .i64 k) ∧ Aft (lat U x) w'' from fun x => by have := CK'.out x; rw [hk4] at this; exact this)
    have HK4 := Lib.hid hk4
    clear hk4
    by_cases hk0 : k = 0
    · have HK0 := Lib.hid hk0
      rw [hk0] at CK'
      clear hk0
      go_wp2_with fail
      refine wp_region_lat (by kernel_rfl) (by kernel_rfl) ?_
      repeat (go_big_quiet_step ((go_at_call 65; exact Calls.lat_of (CK'.out _))))
      refine wpQuiet_nil ?_
      intro _ hw'
      obtain ⟨x, hw''⟩ := hw'
      subst hw''
      obtain ⟨T, hT⟩ : ∃ T, T = lat U x := ⟨_, rfl⟩
      have aT : Aft U T := by rw [hT]; exact (Aft.refl U).lat x
      rw [← hT]
      obtain ⟨⟨d3, d4, dz⟩, ⟨t0, t1, t2, t3, t4, t5, t6, t7, tz⟩, tf2⟩ := KF.out T ((HAW.out.trans HAU.out).trans aT)
      have HAT := Lib.hid ((HAW.out.trans HAU.out).trans aT)
      clear hT aT CK' q0 q1
      have CC' := Lib.hid (CC.out (by first | trivial | rfl) T (HAT.out))
      clear CC CK
      go_wp2_with fail
      refine CC'.out.mono ?_
      rintro e Y ⟨v, css, rfl, aY, own1, hch⟩
      obtain ⟨xh, hxv, hxn⟩ := own_head own1
      rw [hxv, flat_names hch] at own1
      have hxs := own_slice own1
      rw [hxs] at hxv
      subst hxv
      have HAY := Lib.hid ((HAT.out).trans aY)
      have HOX := Lib.hid own1
      have HXS := Lib.hid hxs
      have zXY := aY.size
      have HAXY := Lib.hid aY
      obtain ⟨⟨d3, d4, dz⟩, ⟨t0, t1, t2, t3, t4, t5, t6, t7, tz⟩, tf2⟩ := KF.out Y HAY.out
      have xlt : ∀ g ∈ xh.blk, T.heap.size ≤ g ∧ g < Y.heap.size := blk_lt own1
      have HXL := Lib.hid xlt
      clear own1 hch hxs aY CC' xlt
      obtain ⟨Z, hZ⟩ : ∃ Z, Z = Y.setCell ⟨bt, 2, none⟩ (.slice xh.a r.cols.length xh.c) := ⟨_, rfl⟩
      have kZ : Kb (fun g => g = bt) Y Z := by rw [hZ]; exact Kb.set _ _ _ _
      have rZ : RowAt Z bt [.string r.name, .int .i64 r.kind, .slice xh.a r.cols.length xh.c, .int .i64 r.low, .int .i64 r.high, .string r.schema, .string r.table, .string r.key] := by rw [hZ]; exact (HRT.out.aft HAY.out).set 2 _ (by simp)
      have zYZ : Y.heap.size ≤ Z.heap.size := kZ.size
      have obX := HOB.out.aft (HAT.out)
      have gtB := (obX.row HGT.out hq).2.1
      have e0 := rZ.cell (j := 0) rfl
      have e1 := rZ.cell (j := 1) rfl
      have e2 := rZ.cell (j := 2) rfl
      have e3 := rZ.cell (j := 3) rfl
      have e4 := rZ.cell (j := 4) rfl
      have e5 := rZ.cell (j := 5) rfl
      have e6 := rZ.cell (j := 6) rfl
      have e7 := rZ.cell (j := 7) rfl
      have ez := rZ.1
      have hgb : ¬ gt = bt := by omega
      have hbg : ¬ bt = gt := by omega
      have d4 := kZ.cell d4 hgb
      have dz : gt < Z.heap.size := Nat.lt_of_lt_of_le dz zYZ
      have obZ : ObjIn Z B hs ht o.schemas L := (HOB.out.aft HAY.out).kb kZ fun g hg e => by have := (HOB.out.lt g hg).1; have e : g = bt := e; omega
      have dZ : Z.cell? ⟨gt, q * 5 + 4, none⟩ = some (.slice L[q].hr.a L[q].rules.length L[q].hr.c) := d4
      have fZ : Z.frozen? ⟨gt, q * 5 + 4, none⟩ = false := (obZ.row HGT.out hq).2.2 4 (by decide)
      have HOW := Lib.hid (show Z.ownsRow B 29 8 (.slice L[q].hr.a L[q].rules.length L[q].hr.c) L[q].rules.length (L[q].rules.flatMap ORul.cells) by rw [← HRV.out]; exact (obZ.nth hq).rul)
      have n1 : ¬ InV (.slice L[q].hr.a L[q].rules.length L[q].hr.c) gt := fun h => (HGC.out gt (by rw [HRV.out]; exact h)).1 rfl
      have n2 : ¬ InV (.slice L[q].hr.a L[q].rules.length L[q].hr.c) bt := fun h => by have := (HGC.out bt (by rw [HRV.out]; exact h)).2.2; omega
      obtain ⟨i0, hi0, hz0, hz1, hz2⟩ := info_parts info2Rul2
      have HI0 := Lib.hid hi0
      have HZ0 := Lib.hid hz0
      have HZ1 := Lib.hid hz1
      have HZ2 := Lib.hid hz2
      have HBZ := Lib.hid (show B ≤ Z.heap.size by omega)
      have HKZ := Lib.hid kZ
      have KE := Lib.hid (show r.kind = 4 → k = 0 from fun _ => HK0.out)
      clear hi0 hz0 hz1 hz2 kZ rZ obZ t0 t1 t3 t4 t5 t6 t7 d3 dZ
      go_wp2_with fail
      rw [← hZ]
      clear hZ
      refine wp_region_reads 6 8 (fun w' => ∃ x : KLat (.slice L[q].hr.a L[q].rules.length L[q].hr.c) Z, w' = klat (.slice L[q].hr.a L[q].rules.length L[q].hr.c) Z x) (by kernel_rfl) (by kernel_rfl) (KL.aft (Aft.refl Z).drew) ?_
      simp only [List.take_succ_cons, List.take_zero, List.drop_succ_cons, List.drop_zero]
      repeat (go_big_quiet_step (fail))
      refine wpQuiet_nil ?_
      refine wpChain_step (fun K hK => ?_)
      go_simp
      refine hK _ _ (fun _ => KL.aft (((Aft.refl Z).alloc _).drew)) ?_
      clear hK K
      refine wpChain_step (fun K hK => ?_)
      refine wp_append_lies _ (.tmp 52) (.tmp 54) 48 rfl B 29 i0 _ 8 112 Tryz.underlying48 HI0.out HZ0.out HZ1.out HZ2.out rfl (by decide) (.slice L[q].hr.a L[q].rules.length L[q].hr.c) L[q].rules.length (L[q].rules.flatMap ORul.cells) (by rfl) ((HOW.out.alloc _).drew) ⟨Z.heap.size, 0, none⟩ 1 1 [.string r.name, .int .i64 r.kind, .slice xh.a r.cols.length xh.c, .int .i64 r.low, .int .i64 r.high, .string r.schema, .string r.table, .string r.key] (by rfl) (by rfl) (World.news_of_block (cs := #[.string r.name, .int .i64 r.kind, .slice xh.a r.cols.length xh.c, .int .i64 r.low, .int .i64 r.high, .string r.schema, .string r.table, .string r.key]) (t := 29) (fr := (0, 0)) (heap_alloc_new Z _)) (by simp [Value.oneCell']) (by omega) (by have := HM.out; unfold maxLen; omega) (by have := HM.out; omega) (by have := HBZ.out; simp; omega) (Z.heap.size + 1) (by simp) ?_
      intro gg cap' w5 hown5 hgrow hat hgl
      refine hK _ _ (fun _ => KL.of ((Kb.of_aft (((Aft.refl Z).alloc _).drew)).trans (kb_in hgrow))) ?_
      clear hK K
      refine wpChain_list _ (by simp) (by decide) ?_
      have kw5 : Kb (InV (.slice L[q].hr.a L[q].rules.length L[q].hr.c)) Z w5 := (Kb.of_aft (((Aft.refl Z).alloc _).drew)).trans (kb_in hgrow)
      have d5 := kw5.cell d4 n1
      have f5 : w5.frozen? ⟨gt, q * 5 + 4, none⟩ = false := by
        have := kw5.block gt dz n1
        rw [← fZ]; simp [World.frozen?, this]
      have z5 := Nat.lt_of_lt_of_le dz kw5.size
      have hgz : InV (.slice L[q].hr.a L[q].rules.length L[q].hr.c) gg ∨ Z.heap.size ≤ gg := by
        rcases hat with h9 | h9
        · exact .inl h9
        · exact .inr (by omega)
      have hggt : gg ≠ gt := fun e => by
        rcases hgz with h9 | h9
        · exact n1 (by rw [← e]; exact h9)
        · omega
      have own6 : (w5.setCell ⟨gt, q * 5 + 4, none⟩ (.slice (some ⟨gg, 0, none⟩) (L[q].rules.length + 1) cap')).ownsRow B 29 8 (.slice (some ⟨gg, 0, none⟩) (L[q].rules ++ [(⟨r, xh⟩ : ORul)]).length cap') (L[q].rules ++ [(⟨r, xh⟩ : ORul)]).length ((L[q].rules ++ [(⟨r, xh⟩ : ORul)]).flatMap ORul.cells) := by
        rw [List.length_append, List.flatMap_append, List.flatMap_cons, List.flatMap_nil, List.append_nil, show ORul.cells (⟨r, xh⟩ : ORul) = [.string r.name, .int .i64 r.kind, .slice xh.a r.cols.length xh.c, .int .i64 r.low, .int .i64 r.high, .string r.schema, .string r.table, .string r.key] from by unfold ORul.cells rulC; rw [HXS.out]]
        exact own_kb hown5 (Kb.set w5 gt (q * 5 + 4) _) (fun g hg e => by
          have e : g = gt := e
          have : g = gg := by simpa [Value.ownBlock, eq_comm] using hg
          exact hggt (by rw [← this]; exact e))
      have CS := Lib.hid (sortRulF gg cap' B (L[q].rules ++ [(⟨r, xh⟩ : ORul)]) (by simp) (by have := HM.out; simp; omega) _ own6)
      have HP := Lib.hid (show ∀ w7 e, SortedP 29 8 ORul.cells (fun x y => cmpRl x.r y.r) (w5.setCell ⟨gt, q * 5 + 4, none⟩ (.slice (some ⟨gg, 0, none⟩) (L[q].rules.length + 1) cap')) B gg cap' (L[q].rules ++ [(⟨r, xh⟩ : ORul)]) e w7 → e = .returned (.tuple #[]) ∧ TDoPX (fun g => g = bt) w B n3 hs ht o.schemas L q (addRulF o.tables r L[q].t) (.returned (.int .i64 0)) w7 from fun w7 e hs7 => by
        obtain ⟨he, l', hp, hsrt, ho7, k7⟩ := hs7
        have hpm : (l'.map (·.r)).Perm (L[q].t.rules ++ [r]) := by
          have := hp.map ORul.r
          rwa [List.map_append, List.map_cons, List.map_nil] at this
        have hl' : l'.map (·.r) = insAt L[q].t.rules (posB cmpRl L[q].t.rules r) r := sort_ins preRl.tr preRl.anti HRS.out (HI.out (by have := HH.out; omega)) hpm (fun a b ha hb hab => by
          have := hsrt a b (by simpa using ha) (by simpa using hb) hab
          simpa using this)
        have hll : l'.length = L[q].rules.length + 1 := by rw [hp.length_eq, List.length_append]; rfl
        refine ⟨he, ?_⟩
        rw [HE.out]
        simp only [Bool.not_true, Bool.not_false, Bool.or_self, Bool.false_eq_true, if_false, if_true, if_neg (show ¬ 0 ≤ i by have := HH.out; omega), if_neg H8.out]
        rw [if_neg (by
          intro h
          simp only [Bool.and_eq_true, beq_iff_eq, bne_iff_ne] at h
          exact h.2 (KE.out h.1))]
        rw [← hl']
        have kX : Kb (fun g => L[q].hr.v.ownBlock = some g ∨ g = bt) T w5 := ((Kb.of_aft (show Aft T Y from HAXY.out)).trans (HKZ.out.mono fun g _ e => .inr e)).trans (kw5.mono fun g _ h => .inl (by rw [HRV.out]; exact h))
        have kall : Kb (fun g => B ≤ g ∨ g = bt) w w7 := ((((Kb.of_aft (HAT.out)).trans (kX.mono fun g _ h => by
            rcases h with h | h
            · exact .inl (HGC.out g h).2.2
            · exact .inr h)).trans ((Kb.set w5 gt (q * 5 + 4) _).mono fun g _ e => .inl (by have e : g = gt := e; omega))).trans (k7.mono fun g _ e => .inl (by
            have e : g = gg := e
            rcases hgz with h9 | h9
            · rw [e]; exact (HGC.out gg (by rw [HRV.out]; exact h9)).2.2
            · have := HBZ.out; omega)))
        have hXB : B ≤ T.heap.size := by have := (obX.row HGT.out hq); omega
        have hgX : L[q].hr.v.ownBlock = some gg ∨ T.heap.size ≤ gg := by
          rcases hgz with h9 | h9
          · exact .inl (by rw [HRV.out]; exact h9)
          · exact .inr (by omega)
        have hold : ∀ g, L[q].hr.v.ownBlock = some g → g < T.heap.size := fun g h => ((obX.nth hq).rul.lt g h).2
        have hxg : ∀ g ∈ xh.blk, g ≠ gg := fun g hg e => by
          have := HXL.out g hg
          rcases hgz with h9 | h9
          · have := hold gg (by rw [HRV.out]; exact h9); omega
          · omega
        have hxin : RulIn w7 B (⟨r, xh⟩ : ORul) := ⟨by
          have ox : Y.ownsRow B 9 1 xh.v r.cols.length (r.cols.flatMap nameC) := own_down HOX.out hXB
          have hxno : ∀ g, xh.v.ownBlock = some g → (T.heap.size ≤ g ∧ g < Y.heap.size) ∧ g ≠ gg := fun g hg => ⟨HXL.out g (Hd.mem_blk.2 hg), hxg g (Hd.mem_blk.2 hg)⟩
          have ox1 := own_kb ox HKZ.out fun g hg e => by have := (hxno g hg).1; have e : g = bt := e; omega
          have ox2 := own_kb ox1 kw5 fun g hg e => by have := (hxno g hg).1; have := hold g (by rw [HRV.out]; exact e); omega
          have ox3 := own_kb ox2 (Kb.set w5 gt (q * 5 + 4) (.slice (some ⟨gg, 0, none⟩) (L[q].rules.length + 1) cap')) fun g hg e => by have := (hxno g hg).1; have e : g = gt := e; have := (obX.row HGT.out hq).1; omega
          exact own_kb ox3 k7 fun g hg e => (hxno g hg).2 e⟩
        have hfl : (l'.flatMap (·.h.blk)).Perm (L[q].rules.flatMap (·.h.blk) ++ xh.blk) := by
          have := hp.flatMap_right (fun x : ORul => x.h.blk)
          rwa [List.flatMap_append, List.flatMap_cons, List.flatMap_nil, List.append_nil] at this
        have ndq := tab_nodup (nd_assoc.1 HOB.out.nd) hq
        have ndr : (L[q].rules.flatMap (·.h.blk)).Nodup := (List.nodup_append.1 (List.nodup_append.1 ndq).2.1).2.1
        have obN := obX.newRul (Y := fun g => g = bt) (hr' := ⟨some ⟨gg, 0, none⟩, L[q].rules.length + 1, cap'⟩) (l' := l') hq HGT.out (fun g e => by have e : g = bt := e; omega) kX k7 hgX
          (by rw [hll]; have := ho7; rw [List.length_append] at this; exact this) (fun g hg => by rw [blk_some, List.mem_singleton] at hg; exact hg)
          (fun y hy => by
            rcases List.mem_append.1 (hp.subset hy) with h9 | h9
            · exact .inl h9
            · rw [List.mem_singleton] at h9
              subst h9
              exact .inr ⟨hxin, fun g hg => ⟨(HXL.out g hg).1, hxg g hg⟩⟩)
          (hfl.nodup_iff.2 (List.nodup_append.2 ⟨ndr, blk_nodup _, fun a ha b hb e => by
            subst e
            have h9 := HXL.out a hb
            have h8 := ((obX.nth hq).lt a (by unfold OTab.blks; exact List.mem_append.2 (.inr (List.mem_append.2 (.inr ha))))).2
            omega⟩))
        refine ⟨rfl, kall, fun _ => ⟨{ L[q] with rules := l', hr := ⟨some ⟨gg, 0, none⟩, L[q].rules.length + 1, cap'⟩ }, rfl, obN, ?_⟩⟩
        have e9 := HLL.out
        rw [e9]
        refine k7.row ((Kb.set w5 gt (q * 5 + 4) _).row (kw5.row (HKZ.out.row (HR3.out.aft HAY.out) (fun e => by have e : n3 = bt := e; omega)) (fun h => (HGC.out n3 (by rw [HRV.out]; exact h)).2.1 rfl)) (fun e => hgn e.symm)) (fun e => ?_)
        have e : n3 = gg := e
        have hn3 := HR3.out.1
        rcases hgz with h9 | h9
        · exact (HGC.out gg (by rw [HRV.out]; exact h9)).2.1 e.symm
        · have := (HAT.out).size
          omega)
      have CS' := Lib.hid (show Calls Tryz.prog 67 #[.slice (some ⟨gg, 0, none⟩) (L[q].rules.length + 1) cap', .func (.func 68) #[] #[]] (w5.setCell ⟨gt, q * 5 + 4, none⟩ (.slice (some ⟨gg, 0, none⟩) (L[q].rules.length + 1) cap')) (SortedP 29 8 ORul.cells (fun x y => cmpRl x.r y.r) (w5.setCell ⟨gt, q * 5 + 4, none⟩ (.slice (some ⟨gg, 0, none⟩) (L[q].rules.length + 1) cap')) B gg cap' (L[q].rules ++ [(⟨r, xh⟩ : ORul)])) from by
        have h := CS.out
        rw [List.length_append, List.length_singleton] at h
        exact h)
      clear hown5 hgrow hat hgl kw5 own6 CS obX hgz
      go_wp2_with fail
      refine NoPanic.normal ?_
      go_wp2_with fail
      refine CS'.out.mono ?_
      intro e w7 hs7
      obtain ⟨rfl, hp7⟩ := HP.out w7 e hs7
      have HP7 := Lib.hid hp7
      clear hs7 hp7 CS' HP
      go_wp2_with fail
      go_ret
      exact HP7.out
    · have hkb : (k == 0) = false := by simpa using hk0
      have HK0 := Lib.hid hk0
      clear hk0
      go_wp2_with fail
      refine wp_region_lat (by kernel_rfl) (by kernel_rfl) ?_
      repeat (go_big_quiet_step ((go_at_call 65; exact Calls.lat_of (CK'.out _))))
      refine wpQuiet_nil ?_
      intro _ hw'
      obtain ⟨x, hw''⟩ := hw'
      subst hw''
      go_wp2_with fail
      go_ret
      rw [HE.out]
      simp only [Bool.not_true, Bool.not_false, Bool.or_self, Bool.false_eq_true, if_false, if_true, if_neg (show ¬ 0 ≤ i by have := HH.out; omega), if_neg H8.out]
      rw [if_pos (by rw [HK4.out]; simpa using HK0.out)]
      exact ERR.out _ ((HAW.out.trans HAU.out).lat x) k HK0.out
  · have hkb : (r.kind == 4) = false := by simpa using hk4
    have HK4 := Lib.hid hk4
    have HAT := Lib.hid (HAW.out.trans HAU.out)
    clear hk4 q0 q1
    have CC' := Lib.hid (CC.out (by first | trivial | rfl) U (HAT.out))
    clear CC CK
    go_wp2_with fail
    refine CC'.out.mono ?_
    rintro e Y ⟨v, css, rfl, aY, own1, hch⟩
    obtain ⟨xh, hxv, hxn⟩ := own_head own1
    rw [hxv, flat_names hch] at own1
    have hxs := own_slice own1
    rw [hxs] at hxv
    subst hxv
    have HAY := Lib.hid ((HAT.out).trans aY)
    have HOX := Lib.hid own1
    have HXS := Lib.hid hxs
    have zXY := aY.size
    have HAXY := Lib.hid aY
    obtain ⟨⟨d3, d4, dz⟩, ⟨t0, t1, t2, t3, t4, t5, t6, t7, tz⟩, tf2⟩ := KF.out Y HAY.out
    have xlt : ∀ g ∈ xh.blk, U.heap.size ≤ g ∧ g < Y.heap.size := blk_lt own1
    have HXL := Lib.hid xlt
    clear own1 hch hxs aY CC' xlt
    obtain ⟨Z, hZ⟩ : ∃ Z, Z = Y.setCell ⟨bt, 2, none⟩ (.slice xh.a r.cols.length xh.c) := ⟨_, rfl⟩
    have kZ : Kb (fun g => g = bt) Y Z := by rw [hZ]; exact Kb.set _ _ _ _
    have rZ : RowAt Z bt [.string r.name, .int .i64 r.kind, .slice xh.a r.cols.length xh.c, .int .i64 r.low, .int .i64 r.high, .string r.schema, .string r.table, .string r.key] := by rw [hZ]; exact (HRT.out.aft HAY.out).set 2 _ (by simp)
    have zYZ : Y.heap.size ≤ Z.heap.size := kZ.size
    have obX := HOB.out.aft (HAT.out)
    have gtB := (obX.row HGT.out hq).2.1
    have e0 := rZ.cell (j := 0) rfl
    have e1 := rZ.cell (j := 1) rfl
    have e2 := rZ.cell (j := 2) rfl
    have e3 := rZ.cell (j := 3) rfl
    have e4 := rZ.cell (j := 4) rfl
    have e5 := rZ.cell (j := 5) rfl
    have e6 := rZ.cell (j := 6) rfl
    have e7 := rZ.cell (j := 7) rfl
    have ez := rZ.1
    have hgb : ¬ gt = bt := by omega
    have hbg : ¬ bt = gt := by omega
    have d4 := kZ.cell d4 hgb
    have dz : gt < Z.heap.size := Nat.lt_of_lt_of_le dz zYZ
    have obZ : ObjIn Z B hs ht o.schemas L := (HOB.out.aft HAY.out).kb kZ fun g hg e => by have := (HOB.out.lt g hg).1; have e : g = bt := e; omega
    have dZ : Z.cell? ⟨gt, q * 5 + 4, none⟩ = some (.slice L[q].hr.a L[q].rules.length L[q].hr.c) := d4
    have fZ : Z.frozen? ⟨gt, q * 5 + 4, none⟩ = false := (obZ.row HGT.out hq).2.2 4 (by decide)
    have HOW := Lib.hid (show Z.ownsRow B 29 8 (.slice L[q].hr.a L[q].rules.length L[q].hr.c) L[q].rules.length (L[q].rules.flatMap ORul.cells) by rw [← HRV.out]; exact (obZ.nth hq).rul)
    have n1 : ¬ InV (.slice L[q].hr.a L[q].rules.length L[q].hr.c) gt := fun h => (HGC.out gt (by rw [HRV.out]; exact h)).1 rfl
    have n2 : ¬ InV (.slice L[q].hr.a L[q].rules.length L[q].hr.c) bt := fun h => by have := (HGC.out bt (by rw [HRV.out]; exact h)).2.2; omega
    obtain ⟨i0, hi0, hz0, hz1, hz2⟩ := info_parts info2Rul2
    have HI0 := Lib.hid hi0
    have HZ0 := Lib.hid hz0
    have HZ1 := Lib.hid hz1
    have HZ2 := Lib.hid hz2
    have HBZ := Lib.hid (show B ≤ Z.heap.size by omega)
    have HKZ := Lib.hid kZ
    have KE := Lib.hid (show r.kind = 4 → k = 0 from fun h => absurd h HK4.out)
    clear hi0 hz0 hz1 hz2 kZ rZ obZ t0 t1 t3 t4 t5 t6 t7 d3 dZ
    go_wp2_with fail
    rw [← hZ]
    clear hZ
    refine wp_region_reads 6 8 (fun w' => ∃ x : KLat (.slice L[q].hr.a L[q].rules.length L[q].hr.c) Z, w' = klat (.slice L[q].hr.a L[q].rules.length L[q].hr.c) Z x) (by kernel_rfl) (by kernel_rfl) (KL.aft (Aft.refl Z).drew) ?_
    simp only [List.take_succ_cons, List.take_zero, List.drop_succ_cons, List.drop_zero]
    repeat (go_big_quiet_step (fail))
    refine wpQuiet_nil ?_
    refine wpChain_step (fun K hK => ?_)
    go_simp
    refine hK _ _ (fun _ => KL.aft (((Aft.refl Z).alloc _).drew)) ?_
    clear hK K
    refine wpChain_step (fun K hK => ?_)
    refine wp_append_lies _ (.tmp 52) (.tmp 54) 48 rfl B 29 i0 _ 8 112 Tryz.underlying48 HI0.out HZ0.out HZ1.out HZ2.out rfl (by decide) (.slice L[q].hr.a L[q].rules.length L[q].hr.c) L[q].rules.length (L[q].rules.flatMap ORul.cells) (by rfl) ((HOW.out.alloc _).drew) ⟨Z.heap.size, 0, none⟩ 1 1 [.string r.name, .int .i64 r.kind, .slice xh.a r.cols.length xh.c, .int .i64 r.low, .int .i64 r.high, .string r.schema, .string r.table, .string r.key] (by rfl) (by rfl) (World.news_of_block (cs := #[.string r.name, .int .i64 r.kind, .slice xh.a r.cols.length xh.c, .int .i64 r.low, .int .i64 r.high, .string r.schema, .string r.table, .string r.key]) (t := 29) (fr := (0, 0)) (heap_alloc_new Z _)) (by simp [Value.oneCell']) (by omega) (by have := HM.out; unfold maxLen; omega) (by have := HM.out; omega) (by have := HBZ.out; simp; omega) (Z.heap.size + 1) (by simp) ?_
    intro gg cap' w5 hown5 hgrow hat hgl
    refine hK _ _ (fun _ => KL.of ((Kb.of_aft (((Aft.refl Z).alloc _).drew)).trans (kb_in hgrow))) ?_
    clear hK K
    refine wpChain_list _ (by simp) (by decide) ?_
    have kw5 : Kb (InV (.slice L[q].hr.a L[q].rules.length L[q].hr.c)) Z w5 := (Kb.of_aft (((Aft.refl Z).alloc _).drew)).trans (kb_in hgrow)
    have d5 := kw5.cell d4 n1
    have f5 : w5.frozen? ⟨gt, q * 5 + 4, none⟩ = false := by
      have := kw5.block gt dz n1
      rw [← fZ]; simp [World.frozen?, this]
    have z5 := Nat.lt_of_lt_of_le dz kw5.size
    have hgz : InV (.slice L[q].hr.a L[q].rules.length L[q].hr.c) gg ∨ Z.heap.size ≤ gg := by
      rcases hat with h9 | h9
      · exact .inl h9
      · exact .inr (by omega)
    have hggt : gg ≠ gt := fun e => by
      rcases hgz with h9 | h9
      · exact n1 (by rw [← e]; exact h9)
      · omega
    have own6 : (w5.setCell ⟨gt, q * 5 + 4, none⟩ (.slice (some ⟨gg, 0, none⟩) (L[q].rules.length + 1) cap')).ownsRow B 29 8 (.slice (some ⟨gg, 0, none⟩) (L[q].rules ++ [(⟨r, xh⟩ : ORul)]).length cap') (L[q].rules ++ [(⟨r, xh⟩ : ORul)]).length ((L[q].rules ++ [(⟨r, xh⟩ : ORul)]).flatMap ORul.cells) := by
      rw [List.length_append, List.flatMap_append, List.flatMap_cons, List.flatMap_nil, List.append_nil, show ORul.cells (⟨r, xh⟩ : ORul) = [.string r.name, .int .i64 r.kind, .slice xh.a r.cols.length xh.c, .int .i64 r.low, .int .i64 r.high, .string r.schema, .string r.table, .string r.key] from by unfold ORul.cells rulC; rw [HXS.out]]
      exact own_kb hown5 (Kb.set w5 gt (q * 5 + 4) _) (fun g hg e => by
        have e : g = gt := e
        have : g = gg := by simpa [Value.ownBlock, eq_comm] using hg
        exact hggt (by rw [← this]; exact e))
    have CS := Lib.hid (sortRulF gg cap' B (L[q].rules ++ [(⟨r, xh⟩ : ORul)]) (by simp) (by have := HM.out; simp; omega) _ own6)
    have HP := Lib.hid (show ∀ w7 e, SortedP 29 8 ORul.cells (fun x y => cmpRl x.r y.r) (w5.setCell ⟨gt, q * 5 + 4, none⟩ (.slice (some ⟨gg, 0, none⟩) (L[q].rules.length + 1) cap')) B gg cap' (L[q].rules ++ [(⟨r, xh⟩ : ORul)]) e w7 → e = .returned (.tuple #[]) ∧ TDoPX (fun g => g = bt) w B n3 hs ht o.schemas L q (addRulF o.tables r L[q].t) (.returned (.int .i64 0)) w7 from fun w7 e hs7 => by
      obtain ⟨he, l', hp, hsrt, ho7, k7⟩ := hs7
      have hpm : (l'.map (·.r)).Perm (L[q].t.rules ++ [r]) := by
        have := hp.map ORul.r
        rwa [List.map_append, List.map_cons, List.map_nil] at this
      have hl' : l'.map (·.r) = insAt L[q].t.rules (posB cmpRl L[q].t.rules r) r := sort_ins preRl.tr preRl.anti HRS.out (HI.out (by have := HH.out; omega)) hpm (fun a b ha hb hab => by
        have := hsrt a b (by simpa using ha) (by simpa using hb) hab
        simpa using this)
      have hll : l'.length = L[q].rules.length + 1 := by rw [hp.length_eq, List.length_append]; rfl
      refine ⟨he, ?_⟩
      rw [HE.out]
      simp only [Bool.not_true, Bool.not_false, Bool.or_self, Bool.false_eq_true, if_false, if_true, if_neg (show ¬ 0 ≤ i by have := HH.out; omega), if_neg H8.out]
      rw [if_neg (by
        intro h
        simp only [Bool.and_eq_true, beq_iff_eq, bne_iff_ne] at h
        exact h.2 (KE.out h.1))]
      rw [← hl']
      have kX : Kb (fun g => L[q].hr.v.ownBlock = some g ∨ g = bt) U w5 := ((Kb.of_aft (show Aft U Y from HAXY.out)).trans (HKZ.out.mono fun g _ e => .inr e)).trans (kw5.mono fun g _ h => .inl (by rw [HRV.out]; exact h))
      have kall : Kb (fun g => B ≤ g ∨ g = bt) w w7 := ((((Kb.of_aft (HAT.out)).trans (kX.mono fun g _ h => by
          rcases h with h | h
          · exact .inl (HGC.out g h).2.2
          · exact .inr h)).trans ((Kb.set w5 gt (q * 5 + 4) _).mono fun g _ e => .inl (by have e : g = gt := e; omega))).trans (k7.mono fun g _ e => .inl (by
          have e : g = gg := e
          rcases hgz with h9 | h9
          · rw [e]; exact (HGC.out gg (by rw [HRV.out]; exact h9)).2.2
          · have := HBZ.out; omega)))
      have hXB : B ≤ U.heap.size := by have := (obX.row HGT.out hq); omega
      have hgX : L[q].hr.v.ownBlock = some gg ∨ U.heap.size ≤ gg := by
        rcases hgz with h9 | h9
        · exact .inl (by rw [HRV.out]; exact h9)
        · exact .inr (by omega)
      have hold : ∀ g, L[q].hr.v.ownBlock = some g → g < U.heap.size := fun g h => ((obX.nth hq).rul.lt g h).2
      have hxg : ∀ g ∈ xh.blk, g ≠ gg := fun g hg e => by
        have := HXL.out g hg
        rcases hgz with h9 | h9
        · have := hold gg (by rw [HRV.out]; exact h9); omega
        · omega
      have hxin : RulIn w7 B (⟨r, xh⟩ : ORul) := ⟨by
        have ox : Y.ownsRow B 9 1 xh.v r.cols.length (r.cols.flatMap nameC) := own_down HOX.out hXB
        have hxno : ∀ g, xh.v.ownBlock = some g → (U.heap.size ≤ g ∧ g < Y.heap.size) ∧ g ≠ gg := fun g hg => ⟨HXL.out g (Hd.mem_blk.2 hg), hxg g (Hd.mem_blk.2 hg)⟩
        have ox1 := own_kb ox HKZ.out fun g hg e => by have := (hxno g hg).1; have e : g = bt := e; omega
        have ox2 := own_kb ox1 kw5 fun g hg e => by have := (hxno g hg).1; have := hold g (by rw [HRV.out]; exact e); omega
        have ox3 := own_kb ox2 (Kb.set w5 gt (q * 5 + 4) (.slice (some ⟨gg, 0, none⟩) (L[q].rules.length + 1) cap')) fun g hg e => by have := (hxno g hg).1; have e : g = gt := e; have := (obX.row HGT.out hq).1; omega
        exact own_kb ox3 k7 fun g hg e => (hxno g hg).2 e⟩
      have hfl : (l'.flatMap (·.h.blk)).Perm (L[q].rules.flatMap (·.h.blk) ++ xh.blk) := by
        have := hp.flatMap_right (fun x : ORul => x.h.blk)
        rwa [List.flatMap_append, List.flatMap_cons, List.flatMap_nil, List.append_nil] at this
      have ndq := tab_nodup (nd_assoc.1 HOB.out.nd) hq
      have ndr : (L[q].rules.flatMap (·.h.blk)).Nodup := (List.nodup_append.1 (List.nodup_append.1 ndq).2.1).2.1
      have obN := obX.newRul (Y := fun g => g = bt) (hr' := ⟨some ⟨gg, 0, none⟩, L[q].rules.length + 1, cap'⟩) (l' := l') hq HGT.out (fun g e => by have e : g = bt := e; omega) kX k7 hgX
        (by rw [hll]; have := ho7; rw [List.length_append] at this; exact this) (fun g hg => by rw [blk_some, List.mem_singleton] at hg; exact hg)
        (fun y hy => by
          rcases List.mem_append.1 (hp.subset hy) with h9 | h9
          · exact .inl h9
          · rw [List.mem_singleton] at h9
            subst h9
            exact .inr ⟨hxin, fun g hg => ⟨(HXL.out g hg).1, hxg g hg⟩⟩)
        (hfl.nodup_iff.2 (List.nodup_append.2 ⟨ndr, blk_nodup _, fun a ha b hb e => by
          subst e
          have h9 := HXL.out a hb
          have h8 := ((obX.nth hq).lt a (by unfold OTab.blks; exact List.mem_append.2 (.inr (List.mem_append.2 (.inr ha))))).2
          omega⟩))
      refine ⟨rfl, kall, fun _ => ⟨{ L[q] with rules := l', hr := ⟨some ⟨gg, 0, none⟩, L[q].rules.length + 1, cap'⟩ }, rfl, obN, ?_⟩⟩
      have e9 := HLL.out
      rw [e9]
      refine k7.row ((Kb.set w5 gt (q * 5 + 4) _).row (kw5.row (HKZ.out.row (HR3.out.aft HAY.out) (fun e => by have e : n3 = bt := e; omega)) (fun h => (HGC.out n3 (by rw [HRV.out]; exact h)).2.1 rfl)) (fun e => hgn e.symm)) (fun e => ?_)
      have e : n3 = gg := e
      have hn3 := HR3.out.1
      rcases hgz with h9 | h9
      · exact (HGC.out gg (by rw [HRV.out]; exact h9)).2.1 e.symm
      · have := (HAT.out).size
        omega)
    have CS' := Lib.hid (show Calls Tryz.prog 67 #[.slice (some ⟨gg, 0, none⟩) (L[q].rules.length + 1) cap', .func (.func 68) #[] #[]] (w5.setCell ⟨gt, q * 5 + 4, none⟩ (.slice (some ⟨gg, 0, none⟩) (L[q].rules.length + 1) cap')) (SortedP 29 8 ORul.cells (fun x y => cmpRl x.r y.r) (w5.setCell ⟨gt, q * 5 + 4, none⟩ (.slice (some ⟨gg, 0, none⟩) (L[q].rules.length + 1) cap')) B gg cap' (L[q].rules ++ [(⟨r, xh⟩ : ORul)])) from by
      have h := CS.out
      rw [List.length_append, List.length_singleton] at h
      exact h)
    clear hown5 hgrow hat hgl kw5 own6 CS obX hgz
    go_wp2_with fail
    refine NoPanic.normal ?_
    go_wp2_with fail
    refine CS'.out.mono ?_
    intro e w7 hs7
    obtain ⟨rfl, hp7⟩ := HP.out w7 e hs7
    have HP7 := Lib.hid hp7
    clear hs7 hp7 CS' HP
    go_wp2_with fail
    go_ret
    exact HP7.out
end Go.Proofs.YticjnndhpfdajaaGreat
/- Inside a round of a range over a function: a region that draws its order and whose operations all read is walked once. -/
namespace Go.Proofs.YticjnndhpfdajaaGreat
set_option linter.unusedVariables false
section
variable {F : Fence} {n : Nat} {P : Program} {ops : Array Oper} {C : World → Prop} {md : Region.Mode}
/-- no deferred call is laid -/
def plainO (o : Oper) : Bool := match o.op with | .defer _ => false | _ => true
theorem plainO.sem {o : Oper} (h : plainO o = true) (r : Option Nat) (ρ : Operand → Value) : Oper.semAt r ρ o = execOp ρ o := by
  cases r with
  | none => exact Oper.semAt_none ρ o
  | some l => exact Oper.semAt_some l ρ o (fun c e => by unfold plainO at h; rw [e] at h; cases h)
theorem quiet_wp9 {o : Oper} {a : Act} {K : Act → Prop} {K' : Act → World → Prop} {Q' : Exit → Act → World → Prop} {w : World} (hp : plainO o = true) (hw : C w) (h : ∀ a w', C w' → K a → K' a w')
    (ha : o.askedIn F P a C) (hh : o.quietIn F n P a C K) : o.wpIn F n P a w K' Q' := by
  obtain ⟨v, h1, h2⟩ := hh
  refine ⟨ha w hw, ?_⟩
  rw [plainO.sem hp]
  have h3 := h1 w hw
  unfold Oper.quietAtIn at h3
  revert h3
  generalize (execOp a.eval o).run P w = r
  intro h3
  cases r with
  | halt x w' => simp only [Oper.quietUponIn] at h3
  | ok x w' =>
    cases x <;> simp only [Oper.quietUponIn] at h3 <;> simp only [Oper.uponIn]
    case value u => rw [h3.1, h3.2]; exact h _ _ hw h2
    case skip => rw [h3.1, ← h3.2]; exact h _ _ hw h2
    case enter f args =>
      rw [h3.1]
      exact ⟨h3.2.1, h3.2.2.mono fun e w'' he => by rw [he.1]; exact h _ _ he.2 h2⟩
theorem quiet_any9 {Q : Act → Prop} {Q' : Exit → Act → World → Prop} (hp : ∀ (i : Nat) (o : Oper), ops[i]? = some o → plainO o = true) (hQ : ∀ a w, C w → Q a → Q' .normal a w) :
    ∀ (fuel : Nat) (listed : Array Bool) (a : Act) (w : World), C w → wpAnyQIn F n P md ops C Q fuel listed a → wpAnyIn F n P md ops Q' fuel listed a w
  | 0, _, _, _, hw, h => ⟨h.1, hQ _ _ hw h.2⟩
  | fuel + 1, _, a, w, hw, h => ⟨fun h0 => hQ _ _ hw (h.1 h0), fun i hi => by
    have h1 := h.2 i hi
    unfold qOpIn at h1
    unfold wpOpIn
    cases ho : ops[i]? with
    | none => rw [ho] at h1; exact quiet_any9 hp hQ fuel _ a w hw h1
    | some o =>
      rw [ho] at h1
      simp only at h1 ⊢
      by_cases hwn : Region.wanted o (yielded ops a.tmps) = true
      · rw [if_pos hwn] at h1 ⊢
        exact quiet_wp9 (hp i o ho) hw (fun a' w' hw' => quiet_any9 hp hQ fuel _ a' w' hw') h1.1 h1.2
      · rw [if_neg hwn] at h1 ⊢
        exact ⟨h1.1 w hw, quiet_any9 hp hQ fuel _ _ w hw h1.2⟩⟩
theorem wpIn_region_quietR {id : Nat} {Q : Exit → Act → World → Prop} {a : Act} {w : World} {l : List Oper} (hm : P.follows .mixedOrders = true) (hB : Region.lexB .any l.toArray = true) (hp : l.all plainO = true)
    (h : wpQuietIn F n P l.toArray (fun w' => ∃ m, w' = w.drewN m) (fun a' => ∀ w', (∃ m, w' = w.drewN m) → Q .normal a' w') l a) : (Code.region id l.toArray true).wpIn F n P Q a w := by
  simp only [Region.lexB, Bool.and_eq_true] at hB
  refine wpIn_region_any hm (quiet_any9 (C := fun w' => ∃ m, w' = w.drewN m) (Q := fun a' => ∀ w', (∃ m, w' = w.drewN m) → Q .normal a' w') (fun i o ho => ?_) (fun _ w' hw' h => h w' hw') _ _ _ _ ⟨1, rfl⟩ ?_)
  · have : o ∈ l := by
      have := Array.mem_of_getElem? ho
      simpa using this
    exact List.all_eq_true.1 hp o this
  · have := wpAnyQIn_lex (F := F) (n := n) (C := fun w' => ∃ m, w' = w.drewN m) (md := .any) hB.1 l 0 (Array.replicate l.toArray.size false) a (by simp) (by simpa using hB.2) h
    simpa using this
end
end Go.Proofs.YticjnndhpfdajaaGreat
/- objects.DropRule: the closure; its range over a function. -/
namespace Go.Proofs.YticjnndhpfdajaaGreat
open Go.RowKit Go.Deep Go.Shelf
set_option maxRecDepth 100000
set_option linter.unusedVariables false
set_option maxHeartbeats 16000000 in
theorem dropRul1_in (s n name : ByteArray) (o : Objs) (w : World) (hs ht : Hd) (L : List OTab) (B n3 q gt bn bs bt : Nat) (hq : q < L.length) (hbn : B ≤ n3) (hL : L.map OTab.t = o.tables) (ob : ObjIn w B hs ht o.schemas L) (hne : ∀ g ∈ hs.blk ++ (ht.blk ++ L.flatMap OTab.blks), g ≠ n3)
    (r3 : RowAt w n3 [.slice hs.a o.schemas.length hs.c, .slice ht.a o.tables.length ht.c]) (hgt : ht.a = some ⟨gt, 0, none⟩) (hc0 : w.cell? ⟨bn, 0, none⟩ = some (.string name)) (hc1 : w.cell? ⟨bs, 0, none⟩ = some (.string s)) (hc2 : w.cell? ⟨bt, 0, none⟩ = some (.string n)) (sm : SmO o) :
    Calls Tryz.prog 76 #[.agg #[.slice hs.a o.schemas.length hs.c, .slice ht.a o.tables.length ht.c], .pointer (some ⟨gt, q * 5, none⟩), .pointer (some ⟨bn, 0, none⟩), .pointer (some ⟨bs, 0, none⟩), .pointer (some ⟨bt, 0, none⟩)] w (TDoP w B n3 hs ht o.schemas L q (dropRulF o.tables s n name L[q].t)) := by
  have hLL : L.length = o.tables.length := by rw [← hL]; simp
  have hoo : objOf o.schemas L = o := by unfold objOf; rw [hL]
  have smq : SmT L[q].t := sm.2.2 _ (by rw [← hL]; exact List.mem_map_of_mem (List.getElem_mem hq))
  have htab : SlAt w 5 TabR ht.a ht.c o.tables := by have := ob.tabs (by rw [hoo]; exact sm); rw [hL] at this; exact this
  have tq := ob.nth hq
  obtain ⟨z1, z2, zf⟩ := ob.row hgt hq
  have hrv : L[q].hr.v = .slice L[q].hr.a L[q].rules.length L[q].hr.c := own_slice tq.rul
  have ruls := tq.ruls smq
  have hlen := ruls.len
  have hlen2 := htab.len
  have hrl : L[q].t.rules.length = L[q].rules.length := by unfold OTab.t; simp
  have hbq : gt ∈ ht.blk := by rw [Hd.mem_blk]; unfold Hd.v; rw [hgt]; rfl
  have nd := ob.nd
  have hgc : ∀ g, L[q].hr.v.ownBlock = some g → g ≠ gt ∧ g ≠ n3 ∧ B ≤ g ∧ g < w.heap.size := fun g h => by
    have hin : g ∈ L.flatMap OTab.blks := List.mem_flatMap.2 ⟨L[q], List.getElem_mem hq, by unfold OTab.blks; simp [Hd.mem_blk.2 h]⟩
    exact ⟨fun e => nodup_disj (List.nodup_append.1 nd).2.1 hbq (by rw [← e]; exact hin), hne g (by simp only [List.mem_append]; exact .inr (.inr hin)), tq.rul.lt g h⟩
  have hgn : gt ≠ n3 := hne gt (by simp [hbq])
  obtain ⟨i, hi⟩ : ∃ i, rulAt L[q].t.rules name = i := ⟨_, rfl⟩
  obtain ⟨kd, hkd⟩ : ∃ k, rulKind L[q].t name = k := ⟨_, rfl⟩
  have hir : -1 ≤ i ∧ i < L[q].rules.length := by rw [← hi, ← hrl]; exact idxP_range _ _
  have HE := Lib.hid (show dropRulF o.tables s n name L[q].t = if i < 0 then (L[q].t, 61) else if ((forP s n o.tables).any fun p => hitK kd name p.2) then (L[q].t, 62) else ({ L[q].t with rules := L[q].t.rules.eraseIdx i.toNat }, 0) by
    unfold dropRulF; rw [hi, hkd])
  have y0 : bn < w.heap.size := World.block_lt_of_cell? _ _ hc0
  have y1 : bs < w.heap.size := World.block_lt_of_cell? _ _ hc1
  have y2 : bt < w.heap.size := World.block_lt_of_cell? _ _ hc2
  have l1 : w.heap.size < w.heap.size + 1 := by omega
  obtain ⟨W, hW⟩ : ∃ W, W = ((w.alloc (.cells #[.slice hs.a o.schemas.length hs.c, .slice ht.a o.tables.length ht.c] 25)).alloc (.cells #[.pointer (some ⟨gt, q * 5, none⟩)] 79)).alloc (.cells #[.int .i64 0] 32) := ⟨_, rfl⟩
  have aW : Aft w W := by rw [hW]; exact (((Aft.refl w).alloc _).alloc _).alloc _
  have zW : W.heap.size = w.heap.size + 3 := by rw [hW]; simp
  have r0 : RowAt W w.heap.size [.slice hs.a o.schemas.length hs.c, .slice ht.a o.tables.length ht.c] := by rw [hW]; exact (box_row2 (Aft.refl _)).aft (((Aft.refl _).alloc _).alloc _)
  have r1 : RowAt W (w.heap.size + 1) [.pointer (some ⟨gt, q * 5, none⟩)] := by
    rw [hW]
    have := (box_row2 (w := w.alloc (.cells #[.slice hs.a o.schemas.length hs.c, .slice ht.a o.tables.length ht.c] 25)) (c := [.pointer (some ⟨gt, q * 5, none⟩)]) (t := 79) (Aft.refl _)).aft ((Aft.refl _).alloc (.cells #[.int .i64 0] 32))
    simpa using this
  have r2 : RowAt W (w.heap.size + 1 + 1) [.int .i64 0] := by
    rw [hW]
    have := (box_row2 (w := (w.alloc (.cells #[.slice hs.a o.schemas.length hs.c, .slice ht.a o.tables.length ht.c] 25)).alloc (.cells #[.pointer (some ⟨gt, q * 5, none⟩)] 79)) (c := [.int .i64 0]) (t := 32) (Aft.refl _))
    simpa using this
  have HRB := Lib.hid r2
  have CB := Lib.hid (show ∀ V, Aft w V → Calls Tryz.prog 63 #[.slice L[q].hr.a L[q].rules.length L[q].hr.c, .string name, .func (.func 64) #[] #[]] V fun e w'' => e = .returned (.int .i64 i) ∧ Aft V w'' from
    fun V a => by
      have h9 := (byRul L[q].hr.a L[q].hr.c (L[q].rules.map (·.r)) name V (ruls_aft a ruls)).mono fun e w'' ⟨he, hw⟩ => (⟨he.trans (by rw [← hi]; rfl), hw⟩ : e = Ending.returned (Value.int .i64 i) ∧ Aft V w'')
      rw [List.length_map] at h9
      exact h9)
  have KF := Lib.hid (show ∀ V, Aft W V → ((V.cell? ⟨w.heap.size, 0, none⟩ = some (.slice hs.a o.schemas.length hs.c) ∧ V.cell? ⟨w.heap.size, 1, none⟩ = some (.slice ht.a o.tables.length ht.c) ∧ w.heap.size < V.heap.size) ∧ (V.cell? ⟨w.heap.size + 1, 0, none⟩ = some (.pointer (some ⟨gt, q * 5, none⟩)) ∧ w.heap.size + 1 < V.heap.size) ∧ (V.cell? ⟨bn, 0, none⟩ = some (.string name) ∧ V.cell? ⟨bs, 0, none⟩ = some (.string s) ∧ V.cell? ⟨bt, 0, none⟩ = some (.string n) ∧ bn < V.heap.size ∧ bs < V.heap.size ∧ bt < V.heap.size) ∧ (V.cell? ⟨gt, q * 5 + 4, none⟩ = some (.slice L[q].hr.a L[q].rules.length L[q].hr.c) ∧ gt < V.heap.size)) ∧ (V.cell? ⟨w.heap.size + 1 + 1, 0, none⟩ = some (.int .i64 0) ∧ V.frozen? ⟨w.heap.size + 1 + 1, 0, none⟩ = false ∧ w.heap.size + 1 + 1 < V.heap.size) from fun V a => by
    have a0 := aW.trans a
    have p0 := r0.aft a
    have p1 := r1.aft a
    have p2 := r2.aft a
    have e0 := a0.cell_kept hc0
    have e1 := a0.cell_kept hc1
    have e2 := a0.cell_kept hc2
    have ob2 := ob.aft a0
    have d4 : V.cell? ⟨gt, q * 5 + 4, none⟩ = some (.slice L[q].hr.a L[q].rules.length L[q].hr.c) := by rw [← hrv]; exact ob2.cell hgt hq (by decide)
    exact ⟨⟨⟨p0.cell (j := 0) rfl, p0.cell (j := 1) rfl, p0.1⟩, ⟨p1.cell (j := 0) rfl, p1.1⟩, ⟨e0, e1, e2, World.block_lt_of_cell? _ _ e0, World.block_lt_of_cell? _ _ e1, World.block_lt_of_cell? _ _ e2⟩, ⟨d4, (ob2.row hgt hq).1⟩⟩, ⟨p2.cell (j := 0) rfl, p2.2.2 0 (by simp), p2.1⟩⟩)
  have KR := Lib.hid (show ∀ p : Nat, i = p → p < L[q].rules.length ∧ ∃ g cap, L[q].hr.v = .slice (some ⟨g, 0, none⟩) L[q].rules.length cap ∧ ∀ V, Aft W V → (V.cell? ⟨g, p * 8 + 1, none⟩ = some (.int .i64 kd) ∧ g < V.heap.size) from fun p hp => by
    subst hp
    have hpl : p < L[q].rules.length := by omega
    obtain ⟨g, hga, _, hr⟩ := own_place tq.rul (by omega)
    refine ⟨hpl, g, L[q].hr.c, by rw [hrv, hga], fun V a => ?_⟩
    have hk := rulKind_at hi (by rw [hrl]; exact hpl)
    have he : L[q].t.rules[p]'(by rw [hrl]; exact hpl) = L[q].rules[p].r := by unfold OTab.t; simp
    rw [hkd, he] at hk
    have hcell := own_cell (tq.rul) (f := ORul.cells) ORul.cells_len hga hpl (j := 1) (by decide)
    have hcell : w.cell? ⟨g, p * 8 + 1, none⟩ = some (.int .i64 L[q].rules[p].r.kind) := hcell
    rw [← hk] at hcell
    exact ⟨(aW.trans a).cell_kept hcell, Nat.lt_of_lt_of_le hr.1 (aW.trans a).size⟩)
  obtain ⟨⟨⟨x0, x1, xz⟩, ⟨xp, xq⟩, ⟨c0, c1, c2, y0, y1, y2⟩, ⟨d4, dz⟩⟩, ⟨b0, b1, b2⟩⟩ := KF.out W (Aft.refl W)
  have HAW := Lib.hid aW
  have HOB := Lib.hid ob
  have HGT := Lib.hid hgt
  have HR3 := Lib.hid r3
  have HGC := Lib.hid hgc
  have HT := Lib.hid htab
  have HLL := Lib.hid hLL
  have HRV := Lib.hid hrv
  have HRL := Lib.hid hrl
  have HZW := Lib.hid zW
  have NOP := Lib.hid (show ∀ V, Kb (fun g => B ≤ g) w V → ∀ c : Int, c ≠ 0 → TDoP w B n3 hs ht o.schemas L q (L[q].t, c) (.returned (.int .i64 c)) V from fun V a c hc => ⟨rfl, a, fun h => absurd h hc⟩)
  clear ob r3 hne hL hoo hi hkd htab hLL sm smq aW hc0 hc1 hc2 r0 r1 r2 hgc hrv hrl ruls tq zf nd hgt zW
  refine (callsIn_wide (n := 8)).1 ?_
  refine callsIn_of_wp_marks Tryz.func76 rfl trivial ?_ rfl
  simp only [Tryz.ntmps76, List.size_toArray, List.length_cons, List.length_nil, Nat.reduceAdd, Nat.reduceSub, Array.replicate_succ, Array.replicate_zero, List.push_toArray, List.append_toArray, List.nil_append, List.cons_append]
  refine wpIn_wide.2 ?_
  go_wp2_with fail
  rw [← hW]
  clear hW
  have KS := Lib.hid (show ∀ V, Aft W V → (Aft W V ∧ V.cell? ⟨w.heap.size + 1, 0, none⟩ = some (.pointer (some ⟨gt, q * 5, none⟩)) ∧ V.cell? ⟨gt, q * 5 + 4, none⟩ = some (.slice L[q].hr.a L[q].rules.length L[q].hr.c) ∧ V.cell? ⟨bn, 0, none⟩ = some (.string name)) from fun V a => ⟨a, a.cell_kept xp, a.cell_kept d4, a.cell_kept c0⟩)
  go_region_held3 (fun V => Aft W V ∧ V.cell? ⟨w.heap.size + 1, 0, none⟩ = some (.pointer (some ⟨gt, q * 5, none⟩)) ∧ V.cell? ⟨gt, q * 5 + 4, none⟩ = some (.slice L[q].hr.a L[q].rules.length L[q].hr.c) ∧ V.cell? ⟨bn, 0, none⟩ = some (.string name))
    (first | exact KS.out _ (Aft.refl _).drew | exact KS.out _ ((Aft.refl _).drew.alloc _) | exact KS.out _ ((Aft.refl W).drew.trans aV) | exact KS.out _ (((Aft.refl W).drew.trans aV).alloc _) | exact KS.out _ (((Aft.refl W).alloc _).drew.trans aV) | exact KS.out _ ((((Aft.refl W).drew.trans aV).alloc _).setCell _ _ (((Aft.refl W).drew.trans aV).size)) | exact KS.out _ ((((Aft.refl W).alloc _).drew.trans aV).setCell _ _ (Nat.le_refl _)))
    ((go_at_call 63; refine (CB.out _ (HAW.out.trans (And.left (by assumption : Aft W _ ∧ _)))).mono ?_; rintro e V ⟨rfl, aV⟩; first | (have aV1 : Aft (W.drew.alloc (.cells #[.int .i64 0] 3)) V := aV; have aV2 := aft_box aV1; obtain ⟨hbx, hfx, hzx, hzkx, HAX⟩ := aV2; have hb9 : V.cell? ⟨W.heap.size, 0, none⟩ = some (.int .i64 0) := hbx 0; have hf9 : V.frozen? ⟨W.heap.size, 0, none⟩ = false := hfx 0; have hz9 : W.heap.size < V.heap.size := hzx.1; clear HAX hbx hfx hzx hzkx aV1) | skip))
  · obtain ⟨U, hU⟩ : ∃ U, U = V.alloc (.cells #[.int .i64 (i : Int)] 3) := ⟨_, rfl⟩
    obtain ⟨ba, hba⟩ : ∃ ba, ba = V.heap.size := ⟨_, rfl⟩
    have aU : Aft W U := by rw [hU]; exact ((Aft.refl W).drew.trans aV).alloc _
    have cU : U.cell? ⟨ba, 0, none⟩ = some (.int .i64 i) := by rw [hU, hba]; exact World.cell?_alloc_at _ _ _ _ (by simp)
    have zU0 : W.heap.size ≤ ba := by rw [hba]; exact ((Aft.refl W).drew.trans aV).size
    have zU : ba < U.heap.size := by rw [hU, hba]; simp
    rw [← hU, ← hba]
    clear hU hba aV
    have HAU := Lib.hid aU
    have HCU := Lib.hid cU
    obtain ⟨⟨⟨x0, x1, xz⟩, ⟨xp, xq⟩, ⟨c0, c1, c2, y0, y1, y2⟩, ⟨d4, dz⟩⟩, ⟨b0, b1, b2⟩⟩ := KF.out U aU
    clear aU KS CB
    by_cases hi0 : i < 0
    case pos =>
      have hd : decide (i < 0) = true := decide_eq_true hi0
      have HJ := Lib.hid hi0
      go_wp2_with fail
      refine ⟨_, results_cell (v := .int .i64 61) rfl _ rfl (lvErr (World.cell?_setCell_same' _ _ _ (by rw [b0]; rfl))), ?_⟩
      rw [HE.out, if_pos HJ.out]
      exact NOP.out _ ((Kb.of_aft (HAW.out.trans HAU.out)).trans ((Kb.set U (w.heap.size + 1 + 1) 0 _).mono fun g _ e => by have e : g = w.heap.size + 1 + 1 := e; omega)) 61 (by decide)
    have hd : decide (i < 0) = false := decide_eq_false hi0
    obtain ⟨p, rfl⟩ : ∃ p : Nat, i = p := ⟨i.toNat, by omega⟩
    obtain ⟨hpl, gr, cap, hv, hKR⟩ := KR.out p rfl
    have HKR := Lib.hid hKR
    have HVV := Lib.hid hv
    have hrvs : Value.slice L[q].hr.a L[q].rules.length L[q].hr.c = .slice (some ⟨gr, 0, none⟩) L[q].rules.length cap := by rw [← HRV.out]; exact hv
    have HRS := Lib.hid hrvs
    clear hKR hv KR hrvs
    go_wp2_with fail
    refine (foreign_any _ _ s n U).mono ?_
    intro e X hX
    obtain ⟨rfl, hX⟩ := hX
    have aX : Aft U X := by rw [hX]; exact (((Aft.refl U).alloc _).alloc _).alloc _
    have zX : X.heap.size = U.heap.size + 3 := by rw [hX]; simp
    have q1 : RowAt X U.heap.size [.slice hs.a o.schemas.length hs.c, .slice ht.a o.tables.length ht.c] := by rw [hX]; exact (box_row2 (w := U) (c := [.slice hs.a o.schemas.length hs.c, .slice ht.a o.tables.length ht.c]) (t := 25) (Aft.refl _)).aft (((Aft.refl _).alloc _).alloc _)
    have q2 : RowAt X (U.heap.size + 1) [.string s] := by
      rw [hX]
      have := (box_row2 (w := U.alloc (.cells #[.slice hs.a o.schemas.length hs.c, .slice ht.a o.tables.length ht.c] 25)) (c := [.string s]) (t := 9) (Aft.refl _)).aft ((Aft.refl _).alloc (.cells #[.string n] 9))
      simpa using this
    have q3 : RowAt X (U.heap.size + 1 + 1) [.string n] := by
      rw [hX]
      have := box_row2 (w := (U.alloc (.cells #[.slice hs.a o.schemas.length hs.c, .slice ht.a o.tables.length ht.c] 25)).alloc (.cells #[.string s] 9)) (c := [.string n]) (t := 9) (Aft.refl _)
      simpa using this
    obtain ⟨⟨⟨x0, x1, xz⟩, ⟨xp, xq⟩, ⟨c0, c1, c2, y0, y1, y2⟩, ⟨d4, dz⟩⟩, ⟨b0, b1, b2⟩⟩ := KF.out X (HAU.out.trans aX)
    have HAX := Lib.hid (HAU.out.trans aX)
    have HCX := Lib.hid (aX.cell_kept HCU.out)
    have SEQ := Lib.hid (foreign_stops 7 (by omega) o.tables ht.a ht.c s n U.heap.size (U.heap.size + 1) (U.heap.size + 1 + 1) X (tabs_aft (HAW.out.trans HAX.out) HT.out) (q1.cell (j := 1) rfl) (q2.cell (j := 0) rfl) (q3.cell (j := 0) rfl))
    clear hX aX q1 q2 q3
    go_wp2_with fail
    have hrbX : w.heap.size + 1 + 1 < X.heap.size := b2
    refine (wpIn_wide (n := 8)).1 ?_
    refine wpIn_rangeFunc_ownH (α := FP) rfl (by omega) (gf := 154) (lb := #[.pointer (some ⟨U.heap.size, 0, none⟩), .pointer (some ⟨U.heap.size + 1, 0, none⟩), .pointer (some ⟨U.heap.size + 1 + 1, 0, none⟩)]) rfl trivial (enters_of Tryz.func154 (by kernel_rfl) rfl) SEQ.out
      (fun h k => ⟨h.1.trans k.1, h.2.trans k.2⟩) (fun W l o o' hl h ho hw => ⟨Kc.put h ho, belowK_b (Nat.le_refl _) W l o o' hl h ho hw⟩) (Below.refl _ _) (fun _ => rfl)
      (fun pre W' => Kb (fun _ => False) X W' ∧ pre.all (fun x => !hitK kd name x.r) = true)
      (fun c pre W' => (c = Code.ret ∧ ∃ x ∈ pre, hitK kd name x.r = true) ∧ (Kb (fun g => g = w.heap.size + 1 + 1) X W' ∧ W'.cell? ⟨w.heap.size + 1 + 1, 0, none⟩ = some (.int .i64 62)))
      (OwnFrom.and (own_kbFrom (B := 0) (Nat.le_refl _)) (ownFrom_pure _ _)) (fun c => OwnFrom.and (ownFrom_pure _ _) (OwnFrom.and (own_kbFrom (B := 0) (Nat.le_refl _)) (own_cellFrom hrbX)))
      ⟨Kb.refl _ _, rfl⟩
      (fun x a' W' => ∃ Bx, RowAt W' Bx [.string x.r.name, .int .i64 x.r.kind, .slice x.a3 x.r.cols.length x.c3, .int .i64 x.r.low, .int .i64 x.r.high, .string x.r.schema, .string x.r.table, .string x.r.key] ∧ a' = { tmps := #[.agg #[.slice hs.a o.schemas.length hs.c, .slice ht.a o.tables.length ht.c], .pointer (some ⟨gt, q * 5, none⟩), .pointer (some ⟨bn, 0, none⟩), .pointer (some ⟨bs, 0, none⟩), .pointer (some ⟨bt, 0, none⟩), .pointer (some ⟨w.heap.size, 0, none⟩), .pointer (some ⟨w.heap.size + 1, 0, none⟩), .pointer (some ⟨w.heap.size + 1 + 1, 0, none⟩), .pointer (some ⟨ba, 0, none⟩), undef, .pointer (some ⟨Bx, 0, none⟩), .pointer (some ⟨gt, q * 5, none⟩), .pointer (some ⟨gt, q * 5, none⟩), .pointer (some ⟨gt, q * 5 + 4, none⟩), .slice L[q].hr.a L[q].rules.length L[q].hr.c, .string name, .int .i64 (p : Int), .int .i64 (p : Int), .bool false, .agg #[.slice hs.a o.schemas.length hs.c, .slice ht.a o.tables.length ht.c], .string s, .string n, .func (.func 154) #[] #[.pointer (some ⟨U.heap.size, 0, none⟩), .pointer (some ⟨U.heap.size + 1, 0, none⟩), .pointer (some ⟨U.heap.size + 1 + 1, 0, none⟩)], .agg #[.string x.t.schema, .string x.t.name, .string x.t.owner, .slice x.a1 x.t.cols.length x.c1, .slice x.a2 x.t.rules.length x.c2], .agg #[.string x.r.name, .int .i64 x.r.kind, .slice x.a3 x.r.cols.length x.c3, .int .i64 x.r.low, .int .i64 x.r.high, .string x.r.schema, .string x.r.table, .string x.r.key], undef, undef, undef, undef, undef, undef, undef, undef, undef, undef, undef, undef, undef, undef, undef, undef, undef, undef, undef, undef, undef, undef, undef, undef, undef, undef], defers := [] })
      (fun x a' s' W1 W2 row h hg hr => by
        obtain ⟨Bx, hrow, ha⟩ := h
        exact ⟨Bx, own_rowFrom (β := Unit) (by simp) () W1 W2 row hrow hg hr, ha⟩)
      ?assign ?body ?done ?stop
    case assign =>
      intro l pre x W' K hi hK
      dsimp only [FP.enc]
      have lw := Nat.lt_succ_self W'.heap.size
      gi_wp2
      refine hK _ _ ((KeepsOthers.alloc _ _).from _) ⟨Kc.of_aft ((Aft.refl W').alloc _), (Below.refl _ W').alloc (by have := hi.1.size; omega) _⟩ ⟨hi.1.trans (Kb.of_aft ((Aft.refl W').alloc _)), hi.2⟩ ⟨W'.heap.size, box_row2 (c := [.string x.r.name, .int .i64 x.r.kind, .slice x.a3 x.r.cols.length x.c3, .int .i64 x.r.low, .int .i64 x.r.high, .string x.r.schema, .string x.r.table, .string x.r.key]) (Aft.refl _), rfl⟩
    case body =>
      rintro l pre x a' W' hl ⟨rr, hrr⟩ ⟨hk, hall⟩ ⟨Bx, hrow, rfl⟩ hlt
      have aXW : Aft X W' := hk.to_aft (Aft.refl X) (fun _ _ h => h)
      obtain ⟨⟨⟨x0, x1, xz⟩, ⟨xp, xq⟩, ⟨c0, c1, c2, y0, y1, y2⟩, ⟨d4, dz⟩⟩, ⟨b0, b1, b2⟩⟩ := KF.out W' (HAX.out.trans aXW)
      have t7 := hrow.cell (j := 7) rfl
      have tz := hrow.1
      have hcb := aXW.cell_kept HCX.out
      have hzb : ba < W'.heap.size := World.block_lt_of_cell? _ _ hcb
      obtain ⟨hkc, hkz⟩ := HKR.out W' (HAX.out.trans aXW)
      rw [HRS.out] at d4
      have HK := Lib.hid hk
      have HAL := Lib.hid hall
      have hb0 : (0 : Int) ≤ (p : Int) := by omega
      have hb1 : (p : Int) < (L[q].rules.length : Int) := by omega
      clear hk hall hrow aXW hrr hlt
      cases g1 : eqS x.r.key name
      · have e1 : (x.r.key.toList == name.toList) = false := g1
        have HS := Lib.hid (show hitK kd name x.r = false by unfold hitK; rw [g1]; rfl)
        clear g1
        gi_wp2
        refine wpIn_region_quietR (by kernel_rfl) (by kernel_rfl) (by kernel_rfl) ?_
        repeat (quiet_step_in (fail))
        refine wpQuietIn_nil ?_
        intro _ hw'
        obtain ⟨nq, hw''⟩ := hw'
        subst hw''
        gi_wp2
        exact ⟨(show KeepsOthers W' (W'.drewN nq) from ⟨Nat.le_refl _, fun _ _ h _ => h⟩).from _, ⟨Kc.of_aft ⟨rfl, rfl, rfl, Nat.le_refl _, fun _ _ => rfl⟩, ⟨rfl, rfl, rfl, Nat.le_refl _, fun _ _ => rfl⟩⟩, HK.out.trans (Kb.of_aft (show Aft W' (W'.drewN nq) from ⟨rfl, rfl, rfl, Nat.le_refl _, fun _ _ => rfl⟩)), by rw [List.all_append, HAL.out]; simp [HS.out]⟩
      · have e1 : (x.r.key.toList == name.toList) = true := g1
        by_cases g2 : kd = 2
        · have HS := Lib.hid (show hitK kd name x.r = true by unfold hitK; rw [g1, g2]; rfl)
          rw [g2] at hkc
          clear g1 g2
          gi_wp2
          refine wpIn_region_quietR (by kernel_rfl) (by kernel_rfl) (by kernel_rfl) ?_
          repeat (quiet_step_in (fail))
          refine wpQuietIn_nil ?_
          intro _ hw'
          obtain ⟨nq, hw''⟩ := hw'
          subst hw''
          gi_wp2
          exact ⟨((show KeepsOthers W' (W'.drewN nq) from ⟨Nat.le_refl _, fun _ _ h _ => h⟩).trans (KeepsOthers.setCell _ _ _)).from _, ⟨rfl, x, by simp, HS.out⟩, (HK.out.mono fun _ _ h => h.elim).trans ((Kb.of_aft (show Aft W' (W'.drewN nq) from ⟨rfl, rfl, rfl, Nat.le_refl _, fun _ _ => rfl⟩)).trans (Kb.set (W'.drewN nq) (w.heap.size + 1 + 1) 0 _)), World.cell?_setCell_same' _ _ _ (by rw [show (W'.drewN nq).cell? ⟨w.heap.size + 1 + 1, 0, none⟩ = some (.int .i64 0) from b0]; rfl)⟩
        · have HS := Lib.hid (show hitK kd name x.r = false by unfold hitK; rw [show (kd == 2) = false by simpa using g2]; simp)
          have e2 : (kd == 2) = false := by simpa using g2
          clear g1 g2
          gi_wp2
          refine wpIn_region_quietR (by kernel_rfl) (by kernel_rfl) (by kernel_rfl) ?_
          repeat (quiet_step_in (fail))
          refine wpQuietIn_nil ?_
          intro _ hw'
          obtain ⟨nq, hw''⟩ := hw'
          subst hw''
          gi_wp2
          exact ⟨(show KeepsOthers W' (W'.drewN nq) from ⟨Nat.le_refl _, fun _ _ h _ => h⟩).from _, ⟨Kc.of_aft ⟨rfl, rfl, rfl, Nat.le_refl _, fun _ _ => rfl⟩, ⟨rfl, rfl, rfl, Nat.le_refl _, fun _ _ => rfl⟩⟩, HK.out.trans (Kb.of_aft (show Aft W' (W'.drewN nq) from ⟨rfl, rfl, rfl, Nat.le_refl _, fun _ _ => rfl⟩)), by rw [List.all_append, HAL.out]; simp [HS.out]⟩
    case stop =>
      rintro D c pre W' hD hSp ⟨⟨rfl, x, hx, hxs⟩, hk, hcell⟩ hK
      have HU := Lib.hid (show ((forP s n o.tables).any fun p => hitK kd name p.2) = true from List.any_eq_true.2 ⟨FP.key x, hSp.subset (List.mem_map_of_mem hx), hxs⟩)
      have HP := Lib.hid (show TDoP w B n3 hs ht o.schemas L q (dropRulF o.tables s n name L[q].t) (.returned (.int .i64 62)) (W'.putObj D (.deferred none)) from by
        rw [HE.out, if_neg (show ¬ (p : Int) < 0 by omega), if_pos HU.out]
        have a1 := HAW.out.trans HAX.out
        have z9 := a1.size
        exact NOP.out _ (((Kb.of_aft a1).trans (hk.mono fun g _ e => by have e : g = w.heap.size + 1 + 1 := e; omega)).trans (Kb.put.mono fun g _ e => by have e : g = D := e; omega)) 62 (by decide))
      have HC := Lib.hid (show (W'.putObj D (.deferred none)).cell? ⟨w.heap.size + 1 + 1, 0, none⟩ = some (.int .i64 62) from (World.cell?_of_block (World.putObj_heap_other (k := w.heap.size + 1 + 1) (by omega))).trans hcell)
      clear hk hcell hSp hx hxs
      gi_wp2
      refine ⟨by simp, .inl ⟨_, _, rfl, run_takeDeferred hK, ?_⟩⟩
      exact ⟨_, results_cell (v := .int .i64 62) rfl _ rfl (lvErr HC.out), HP.out⟩
    case done =>
      rintro D xs W' hD hS ⟨hk, hall⟩ hK
      have aXW : Aft X W' := hk.to_aft (Aft.refl X) (fun _ _ h => h)
      have HU := Lib.hid (show ((forP s n o.tables).any fun p => hitK kd name p.2) = false by
        rw [← hS, Bool.eq_false_iff]
        intro h
        obtain ⟨y, hy, hy2⟩ := List.any_eq_true.1 h
        obtain ⟨x, hx, rfl⟩ := List.mem_map.1 hy
        have h3 := List.all_eq_true.1 hall x hx
        have hy2 : hitK kd name x.r = true := hy2
        have h3 : (!hitK kd name x.r) = true := h3
        rw [hy2] at h3; cases h3)
      obtain ⟨⟨⟨x0, x1, xz⟩, ⟨xp, xq⟩, ⟨c0, c1, c2, y0, y1, y2⟩, ⟨d4, dz⟩⟩, ⟨b0, b1, b2⟩⟩ := KF.out W' (HAX.out.trans aXW)
      have hcb := aXW.cell_kept HCX.out
      have hzb : ba < W'.heap.size := World.block_lt_of_cell? _ _ hcb
      have HAY := Lib.hid (HAW.out.trans (HAX.out.trans aXW))
      have HXW := Lib.hid aXW
      clear hk hall hS aXW
      have r2 := HOB.out.aft HAY.out
      obtain ⟨k, hkk⟩ : ∃ k, L[q].rules.length = p + 1 + k := ⟨L[q].rules.length - p - 1, by omega⟩
      have o2 : W'.ownsRow B 29 8 (.slice (some ⟨gr, 0, none⟩) (p + 1 + k) cap) (p + 1 + k) (L[q].rules.flatMap ORul.cells) := by
        have := (r2.nth hq).rul
        rw [HVV.out, hkk] at this
        exact this
      have hcapm : cap ≤ 9223372036854775807 := own_cap7 (r2.nth hq).rul _ _ _ HVV.out
      have CD := Lib.hid (delRul gr cap p k B (L[q].rules.flatMap ORul.cells) W' o2 (oneC_cells oneC_rul _) hcapm)
      obtain ⟨hg1, hg2, hg3, hg4⟩ := HGC.out gr (by rw [HVV.out]; rfl)
      rw [HRS.out, hkk] at d4
      have row2 := HR3.out.aft HAY.out
      have hn3 : n3 < w.heap.size := HR3.out.1
      have f4 : W'.frozen? ⟨gt, q * 5 + 4, none⟩ = false := (r2.row HGT.out hq).2.2 4 (by decide)
      have K2 := Lib.hid (show ∀ w3, Kb (fun j => j = gr) W' w3 → w3.ownsRow B 29 8 (.slice (some ⟨gr, 0, none⟩) (p + k) cap) (p + k) ((L[q].rules.flatMap ORul.cells).take (p * 8) ++ (L[q].rules.flatMap ORul.cells).drop ((p + 1) * 8)) → (w3.cell? ⟨gt, q * 5 + 4, none⟩ = some (.slice (some ⟨gr, 0, none⟩) (p + 1 + k) cap) ∧ w3.frozen? ⟨gt, q * 5 + 4, none⟩ = false ∧ gt < w3.heap.size ∧ w3.cell? ⟨w.heap.size + 1 + 1, 0, none⟩ = some (.int .i64 0) ∧ w3.frozen? ⟨w.heap.size + 1 + 1, 0, none⟩ = false ∧ w.heap.size + 1 + 1 < w3.heap.size ∧
          Hid (((w3.setCell ⟨gt, q * 5 + 4, none⟩ (.slice (some ⟨gr, 0, none⟩) (p + k) cap)).setCell ⟨w.heap.size + 1 + 1, 0, none⟩ (.int .i64 0)).heap[D]? = some (.deferred (some [])) ∧ (((w3.setCell ⟨gt, q * 5 + 4, none⟩ (.slice (some ⟨gr, 0, none⟩) (p + k) cap)).setCell ⟨w.heap.size + 1 + 1, 0, none⟩ (.int .i64 0)).putObj D (.deferred none)).cell? ⟨w.heap.size + 1 + 1, 0, none⟩ = some (.int .i64 0) ∧
            TDoP w B n3 hs ht o.schemas L q (dropRulF o.tables s n name L[q].t) (.returned (.int .i64 0)) (((w3.setCell ⟨gt, q * 5 + 4, none⟩ (.slice (some ⟨gr, 0, none⟩) (p + k) cap)).setCell ⟨w.heap.size + 1 + 1, 0, none⟩ (.int .i64 0)).putObj D (.deferred none)))) from fun w3 kb o3 => by
        have hgr0 : ¬ gt = gr := fun e => hg1 e.symm
        have d43 := kb.cell d4 hgr0
        have f43 : w3.frozen? ⟨gt, q * 5 + 4, none⟩ = false := by
          have := kb.block gt dz hgr0
          rw [← f4]; simp [World.frozen?, this]
        have dz3 := Nat.lt_of_lt_of_le dz kb.size
        have rb3 := kb.row (HRB.out.aft (HAX.out.trans HXW.out)) (fun e => by have e : w.heap.size + 1 + 1 = gr := e; omega)
        have row3 := kb.row row2 (fun e => hg2 (by have e : n3 = gr := e; exact e.symm))
        have e1 : (L[q].rules.eraseIdx p).length = p + k := by rw [List.length_eraseIdx_of_lt (by omega)]; omega
        have ks := Kb.set w3 gt (q * 5 + 4) (.slice (some ⟨gr, 0, none⟩) (p + k) cap)
        have kr := Kb.set (w3.setCell ⟨gt, q * 5 + 4, none⟩ (.slice (some ⟨gr, 0, none⟩) (p + k) cap)) (w.heap.size + 1 + 1) 0 (.int .i64 0)
        have zW3 : X.heap.size ≤ W'.heap.size := HXW.out.size
        have hDlt : D < W'.heap.size := (Array.getElem?_eq_some_iff.1 hK).1
        have hK3 : ((w3.setCell ⟨gt, q * 5 + 4, none⟩ (.slice (some ⟨gr, 0, none⟩) (p + k) cap)).setCell ⟨w.heap.size + 1 + 1, 0, none⟩ (.int .i64 0)).heap[D]? = some (.deferred (some [])) := by
          rw [kr.block D (by simp; have := kb.size; omega) (fun e => by have e : D = w.heap.size + 1 + 1 := e; omega), ks.block D (by have := kb.size; omega) (fun e => by have e : D = gt := e; omega), kb.block D hDlt (fun e => by have e : D = gr := e; omega)]
          exact hK
        refine ⟨d43, f43, dz3, rb3.cell (j := 0) rfl, rb3.2.2 0 (by simp), rb3.1, Lib.hid ⟨hK3, ?_, ?_⟩⟩
        · refine (World.cell?_of_block (World.putObj_heap_other (k := w.heap.size + 1 + 1) (by omega))).trans (World.cell?_setCell_same' _ _ _ ?_)
          rw [ks.cell (rb3.cell (j := 0) rfl) (fun e => by have e : w.heap.size + 1 + 1 = gt := e; omega)]
          rfl
        rw [HE.out, if_neg (show ¬ (p : Int) < 0 by omega), if_neg (by rw [HU.out]; simp)]
        simp only [Int.toNat_natCast]
        have n3' : (w3.setCell ⟨gt, q * 5 + 4, none⟩ (.slice (some ⟨gr, 0, none⟩) (p + k) cap)).ownsRow B 29 8 (Hd.mk (some ⟨gr, 0, none⟩) (p + k) cap).v (L[q].rules.eraseIdx p).length ((L[q].rules.eraseIdx p).flatMap ORul.cells) := by
          rw [e1, ← flatMap_erase (size := 8) ORul.cells_len]
          exact own_kb o3 ks (fun g hg e => by
            have e : g = gt := e
            have h9 : gr = g := by simpa [Value.ownBlock, Hd.v] using hg
            exact hg1 (h9.trans e))
        have ndq := tab_nodup (nd_assoc.1 HOB.out.nd) hq
        have ndr : (L[q].rules.flatMap (·.h.blk)).Nodup := (List.nodup_append.1 (List.nodup_append.1 ndq).2.1).2.1
        have obn := r2.newRul (Y := fun _ => False) (hr' := ⟨some ⟨gr, 0, none⟩, p + k, cap⟩) (l' := L[q].rules.eraseIdx p) (gg := gr) (w5 := w3) (w7 := (w3.setCell ⟨gt, q * 5 + 4, none⟩ (.slice (some ⟨gr, 0, none⟩) (p + k) cap))) hq HGT.out (fun _ h => h.elim) (kb.mono fun g _ e => .inl (by have e : g = gr := e; rw [e, HVV.out]; rfl)) (Kb.refl _ _) (.inl (by rw [HVV.out]; rfl)) n3'
          (fun g hg => by rw [blk_some, List.mem_singleton] at hg; exact hg) (fun y hy => .inl (List.mem_of_mem_eraseIdx hy)) ((sublist_flat (fun x : ORul => x.h.blk) (List.eraseIdx_sublist L[q].rules p)).nodup ndr)
        refine ⟨rfl, ((((Kb.of_aft HAY.out).trans (kb.mono fun a _ e => by have e : a = gr := e; omega)).trans (ks.mono fun a _ e => by have e : a = gt := e; omega)).trans (kr.mono fun a _ e => by have e : a = w.heap.size + 1 + 1 := e; omega)).trans (Kb.put.mono fun a _ e => by have e : a = D := e; omega), fun _ => ⟨{ L[q] with rules := L[q].rules.eraseIdx p, hr := ⟨some ⟨gr, 0, none⟩, p + k, cap⟩ }, ?_, ?_, ?_⟩⟩
        · unfold OTab.t
          simp only
          rw [map_eraseIdx]
        · have hlt9 : ∀ a ∈ hs.blk ++ (ht.blk ++ (L.set q { L[q] with rules := L[q].rules.eraseIdx p, hr := ⟨some ⟨gr, 0, none⟩, p + k, cap⟩ }).flatMap OTab.blks), a < w.heap.size := fun a ha => by
            have hold : ∀ b ∈ hs.blk ++ (ht.blk ++ L.flatMap OTab.blks), b < w.heap.size := fun b hb => (HOB.out.lt b hb).2
            rcases List.mem_append.1 ha with h1 | h1
            · exact hold a (List.mem_append.2 (.inl h1))
            · rcases List.mem_append.1 h1 with h2 | h2
              · exact hold a (List.mem_append.2 (.inr (List.mem_append.2 (.inl h2))))
              · obtain ⟨y, hy, hay⟩ := List.mem_flatMap.1 h2
                rcases mem_set_cases hq hy with rfl | ⟨i, hi, _, rfl⟩
                · have hay : a ∈ L[q].hc.blk ++ ((Hd.mk (some ⟨gr, 0, none⟩) (p + k) cap).blk ++ (L[q].rules.eraseIdx p).flatMap (·.h.blk)) := hay
                  rcases List.mem_append.1 hay with h3 | h3
                  · exact hold a (List.mem_append.2 (.inr (List.mem_append.2 (.inr (List.mem_flatMap.2 ⟨L[q], List.getElem_mem hq, by unfold OTab.blks; exact List.mem_append.2 (.inl h3)⟩)))))
                  · rcases List.mem_append.1 h3 with h4 | h4
                    · rw [blk_some, List.mem_singleton] at h4
                      have h4 : a = gr := h4
                      omega
                    · exact hold a (List.mem_append.2 (.inr (List.mem_append.2 (.inr (List.mem_flatMap.2 ⟨L[q], List.getElem_mem hq, by unfold OTab.blks; exact List.mem_append.2 (.inr (List.mem_append.2 (.inr ((sublist_flat (fun x : ORul => x.h.blk) (List.eraseIdx_sublist L[q].rules p)).subset h4))))⟩)))))
                · exact hold a (List.mem_append.2 (.inr (List.mem_append.2 (.inr (List.mem_flatMap.2 ⟨L[i], List.getElem_mem hi, hay⟩)))))
          exact (obn.kb kr fun a ha e => by have := hlt9 a ha; have e : a = w.heap.size + 1 + 1 := e; omega).kb Kb.put fun a ha e => by have := hlt9 a ha; have e : a = D := e; omega
        · rw [HLL.out]
          exact Kb.put.row (kr.row (ks.row row3 (fun e => hgn (by have e : n3 = gt := e; exact e.symm))) (fun e => by have e : n3 = w.heap.size + 1 + 1 := e; omega)) (fun e => by have e : n3 = D := e; omega))
      have hpb : (p : Int) + 1 ≤ 9223372036854775807 := by have := hlen; simp at this; omega
      have CD' := Lib.hid (delRul gr cap p k B (L[q].rules.flatMap ORul.cells) W'.drew (own_aft o2 (Aft.refl W').drew) (oneC_cells oneC_rul _) hcapm)
      have K3 := Lib.hid (show ∀ w3, Kb (fun j => j = gr) W'.drew w3 → w3.ownsRow B 29 8 (.slice (some ⟨gr, 0, none⟩) (p + k) cap) (p + k) ((L[q].rules.flatMap ORul.cells).take (p * 8) ++ (L[q].rules.flatMap ORul.cells).drop ((p + 1) * 8)) → (∃ x : KLat (.slice (some ⟨gr, 0, none⟩) (p + 1 + k) cap) W', w3 = klat (.slice (some ⟨gr, 0, none⟩) (p + 1 + k) cap) W' x) ∧ _ from fun w3 kb o3 => ⟨KL.of ((Kb.of_aft (Aft.refl W').drew).trans (kb.mono fun g _ e => by have e : g = gr := e; rw [e]; rfl)), K2.out w3 ((Kb.of_aft (Aft.refl W').drew).trans kb) o3⟩)
      have hWw := HZW.out
      have HWR := Lib.hid (show IntKind.i64.wrap ((p : Int) + 1) = (p : Int) + 1 from IntWalk.i64_in _ (by omega))
      have m1 : ¬ InV (.slice (some ⟨gr, 0, none⟩) (p + 1 + k) cap) (w.heap.size + 1) := fun h => by have h : some gr = some (w.heap.size + 1) := h; simp only [Option.some.injEq] at h; omega
      have m2 : ¬ InV (.slice (some ⟨gr, 0, none⟩) (p + 1 + k) cap) ba := fun h => by have h : some gr = some ba := h; simp only [Option.some.injEq] at h; omega
      have m3 : ¬ InV (.slice (some ⟨gr, 0, none⟩) (p + 1 + k) cap) gt := fun h => by have h : some gr = some gt := h; simp only [Option.some.injEq] at h; exact hg1 h
      clear r2 o2 row2 hg1 hg2 hg3 hn3 f4 hWw
      go_wp2_with fail
      refine wp_region_reads 7 9 (fun w' => ∃ x : KLat (.slice (some ⟨gr, 0, none⟩) (p + 1 + k) cap) W', w' = klat (.slice (some ⟨gr, 0, none⟩) (p + 1 + k) cap) W' x) (by kernel_rfl) (by kernel_rfl) (KL.aft (Aft.refl W').drew) ?_
      simp only [List.take_succ_cons, List.take_zero, List.drop_succ_cons, List.drop_zero]
      repeat (go_big_quiet_step (fail))
      refine wpQuiet_nil ?_
      refine wpChain_step (fun K hK2 => ?_)
      go_simp
      refine hK2 _ _ (fun _ => KL.aft (Aft.refl W').drew) ?_
      clear hK2 K
      refine wpChain_step (fun K hK2 => ?_)
      go_simp
      go_at_call 78
      rw [HWR.out]
      refine CD'.out.mono ?_
      rintro e w3 ⟨rfl, o3, kb⟩
      obtain ⟨hT, f0, f1, f2, f3, f4, f5, HP⟩ := K3.out w3 kb o3
      dsimp only
      refine hK2 _ _ (fun _ => hT) ?_
      clear hK2 K o3 kb hT
      refine wpChain_list _ (by simp) (by decide) ?_
      have hn8 : ¬ gt = w.heap.size + 1 + 1 := by omega
      have hn9 : ¬ w.heap.size + 1 + 1 = gt := by omega
      go_wp2_with fail
      refine NoPanic.normal ?_
      go_wp2_with fail
      refine ⟨by simp, .inl ⟨_, _, rfl, run_takeDeferred HP.out.1, ?_⟩⟩
      exact ⟨_, results_cell (v := .int .i64 0) rfl _ rfl (lvErr HP.out.2.1), HP.out.2.2⟩
  · obtain ⟨U, hU⟩ : ∃ U, U = V.setCell ⟨W.heap.size, 0, none⟩ (.int .i64 (i : Int)) := ⟨_, rfl⟩
    obtain ⟨ba, hba⟩ : ∃ ba, ba = W.heap.size := ⟨_, rfl⟩
    have aU : Aft W U := by rw [hU]; exact (((Aft.refl W).alloc _).drew.trans aV).setCell _ _ (Nat.le_refl _)
    have cU : U.cell? ⟨ba, 0, none⟩ = some (.int .i64 i) := by rw [hU, hba]; exact World.cell?_setCell_same' _ _ _ (by rw [hb9]; rfl)
    have zU0 : W.heap.size ≤ ba := by rw [hba]; exact Nat.le_refl _
    have zU : ba < U.heap.size := by rw [hU, hba]; simpa using hz9
    rw [← hU, ← hba]
    clear hU hba aV hb9 hf9 hz9
    have HAU := Lib.hid aU
    have HCU := Lib.hid cU
    obtain ⟨⟨⟨x0, x1, xz⟩, ⟨xp, xq⟩, ⟨c0, c1, c2, y0, y1, y2⟩, ⟨d4, dz⟩⟩, ⟨b0, b1, b2⟩⟩ := KF.out U aU
    clear aU KS CB
    by_cases hi0 : i < 0
    case pos =>
      have hd : decide (i < 0) = true := decide_eq_true hi0
      have HJ := Lib.hid hi0
      go_wp2_with fail
      refine ⟨_, results_cell (v := .int .i64 61) rfl _ rfl (lvErr (World.cell?_setCell_same' _ _ _ (by rw [b0]; rfl))), ?_⟩
      rw [HE.out, if_pos HJ.out]
      exact NOP.out _ ((Kb.of_aft (HAW.out.trans HAU.out)).trans ((Kb.set U (w.heap.size + 1 + 1) 0 _).mono fun g _ e => by have e : g = w.heap.size + 1 + 1 := e; omega)) 61 (by decide)
    have hd : decide (i < 0) = false := decide_eq_false hi0
    obtain ⟨p, rfl⟩ : ∃ p : Nat, i = p := ⟨i.toNat, by omega⟩
    obtain ⟨hpl, gr, cap, hv, hKR⟩ := KR.out p rfl
    have HKR := Lib.hid hKR
    have HVV := Lib.hid hv
    have hrvs : Value.slice L[q].hr.a L[q].rules.length L[q].hr.c = .slice (some ⟨gr, 0, none⟩) L[q].rules.length cap := by rw [← HRV.out]; exact hv
    have HRS := Lib.hid hrvs
    clear hKR hv KR hrvs
    go_wp2_with fail
    refine (foreign_any _ _ s n U).mono ?_
    intro e X hX
    obtain ⟨rfl, hX⟩ := hX
    have aX : Aft U X := by rw [hX]; exact (((Aft.refl U).alloc _).alloc _).alloc _
    have zX : X.heap.size = U.heap.size + 3 := by rw [hX]; simp
    have q1 : RowAt X U.heap.size [.slice hs.a o.schemas.length hs.c, .slice ht.a o.tables.length ht.c] := by rw [hX]; exact (box_row2 (w := U) (c := [.slice hs.a o.schemas.length hs.c, .slice ht.a o.tables.length ht.c]) (t := 25) (Aft.refl _)).aft (((Aft.refl _).alloc _).alloc _)
    have q2 : RowAt X (U.heap.size + 1) [.string s] := by
      rw [hX]
      have := (box_row2 (w := U.alloc (.cells #[.slice hs.a o.schemas.length hs.c, .slice ht.a o.tables.length ht.c] 25)) (c := [.string s]) (t := 9) (Aft.refl _)).aft ((Aft.refl _).alloc (.cells #[.string n] 9))
      simpa using this
    have q3 : RowAt X (U.heap.size + 1 + 1) [.string n] := by
      rw [hX]
      have := box_row2 (w := (U.alloc (.cells #[.slice hs.a o.schemas.length hs.c, .slice ht.a o.tables.length ht.c] 25)).alloc (.cells #[.string s] 9)) (c := [.string n]) (t := 9) (Aft.refl _)
      simpa using this
    obtain ⟨⟨⟨x0, x1, xz⟩, ⟨xp, xq⟩, ⟨c0, c1, c2, y0, y1, y2⟩, ⟨d4, dz⟩⟩, ⟨b0, b1, b2⟩⟩ := KF.out X (HAU.out.trans aX)
    have HAX := Lib.hid (HAU.out.trans aX)
    have HCX := Lib.hid (aX.cell_kept HCU.out)
    have SEQ := Lib.hid (foreign_stops 7 (by omega) o.tables ht.a ht.c s n U.heap.size (U.heap.size + 1) (U.heap.size + 1 + 1) X (tabs_aft (HAW.out.trans HAX.out) HT.out) (q1.cell (j := 1) rfl) (q2.cell (j := 0) rfl) (q3.cell (j := 0) rfl))
    clear hX aX q1 q2 q3
    go_wp2_with fail
    have hrbX : w.heap.size + 1 + 1 < X.heap.size := b2
    refine (wpIn_wide (n := 8)).1 ?_
    refine wpIn_rangeFunc_ownH (α := FP) rfl (by omega) (gf := 154) (lb := #[.pointer (some ⟨U.heap.size, 0, none⟩), .pointer (some ⟨U.heap.size + 1, 0, none⟩), .pointer (some ⟨U.heap.size + 1 + 1, 0, none⟩)]) rfl trivial (enters_of Tryz.func154 (by kernel_rfl) rfl) SEQ.out
      (fun h k => ⟨h.1.trans k.1, h.2.trans k.2⟩) (fun W l o o' hl h ho hw => ⟨Kc.put h ho, belowK_b (Nat.le_refl _) W l o o' hl h ho hw⟩) (Below.refl _ _) (fun _ => rfl)
      (fun pre W' => Kb (fun _ => False) X W' ∧ pre.all (fun x => !hitK kd name x.r) = true)
      (fun c pre W' => (c = Code.ret ∧ ∃ x ∈ pre, hitK kd name x.r = true) ∧ (Kb (fun g => g = w.heap.size + 1 + 1) X W' ∧ W'.cell? ⟨w.heap.size + 1 + 1, 0, none⟩ = some (.int .i64 62)))
      (OwnFrom.and (own_kbFrom (B := 0) (Nat.le_refl _)) (ownFrom_pure _ _)) (fun c => OwnFrom.and (ownFrom_pure _ _) (OwnFrom.and (own_kbFrom (B := 0) (Nat.le_refl _)) (own_cellFrom hrbX)))
      ⟨Kb.refl _ _, rfl⟩
      (fun x a' W' => ∃ Bx, RowAt W' Bx [.string x.r.name, .int .i64 x.r.kind, .slice x.a3 x.r.cols.length x.c3, .int .i64 x.r.low, .int .i64 x.r.high, .string x.r.schema, .string x.r.table, .string x.r.key] ∧ a' = { tmps := #[.agg #[.slice hs.a o.schemas.length hs.c, .slice ht.a o.tables.length ht.c], .pointer (some ⟨gt, q * 5, none⟩), .pointer (some ⟨bn, 0, none⟩), .pointer (some ⟨bs, 0, none⟩), .pointer (some ⟨bt, 0, none⟩), .pointer (some ⟨w.heap.size, 0, none⟩), .pointer (some ⟨w.heap.size + 1, 0, none⟩), .pointer (some ⟨w.heap.size + 1 + 1, 0, none⟩), .pointer (some ⟨ba, 0, none⟩), undef, .pointer (some ⟨Bx, 0, none⟩), .pointer (some ⟨gt, q * 5, none⟩), .pointer (some ⟨gt, q * 5, none⟩), .pointer (some ⟨gt, q * 5 + 4, none⟩), .slice L[q].hr.a L[q].rules.length L[q].hr.c, .string name, .int .i64 (p : Int), .int .i64 (p : Int), .bool false, .agg #[.slice hs.a o.schemas.length hs.c, .slice ht.a o.tables.length ht.c], .string s, .string n, .func (.func 154) #[] #[.pointer (some ⟨U.heap.size, 0, none⟩), .pointer (some ⟨U.heap.size + 1, 0, none⟩), .pointer (some ⟨U.heap.size + 1 + 1, 0, none⟩)], .agg #[.string x.t.schema, .string x.t.name, .string x.t.owner, .slice x.a1 x.t.cols.length x.c1, .slice x.a2 x.t.rules.length x.c2], .agg #[.string x.r.name, .int .i64 x.r.kind, .slice x.a3 x.r.cols.length x.c3, .int .i64 x.r.low, .int .i64 x.r.high, .string x.r.schema, .string x.r.table, .string x.r.key], undef, undef, undef, undef, undef, undef, undef, undef, undef, undef, undef, undef, undef, undef, undef, undef, undef, undef, undef, undef, undef, undef, undef, undef, undef, undef], defers := [] })
      (fun x a' s' W1 W2 row h hg hr => by
        obtain ⟨Bx, hrow, ha⟩ := h
        exact ⟨Bx, own_rowFrom (β := Unit) (by simp) () W1 W2 row hrow hg hr, ha⟩)
      ?assign ?body ?done ?stop
    case assign =>
      intro l pre x W' K hi hK
      dsimp only [FP.enc]
      have lw := Nat.lt_succ_self W'.heap.size
      gi_wp2
      refine hK _ _ ((KeepsOthers.alloc _ _).from _) ⟨Kc.of_aft ((Aft.refl W').alloc _), (Below.refl _ W').alloc (by have := hi.1.size; omega) _⟩ ⟨hi.1.trans (Kb.of_aft ((Aft.refl W').alloc _)), hi.2⟩ ⟨W'.heap.size, box_row2 (c := [.string x.r.name, .int .i64 x.r.kind, .slice x.a3 x.r.cols.length x.c3, .int .i64 x.r.low, .int .i64 x.r.high, .string x.r.schema, .string x.r.table, .string x.r.key]) (Aft.refl _), rfl⟩
    case body =>
      rintro l pre x a' W' hl ⟨rr, hrr⟩ ⟨hk, hall⟩ ⟨Bx, hrow, rfl⟩ hlt
      have aXW : Aft X W' := hk.to_aft (Aft.refl X) (fun _ _ h => h)
      obtain ⟨⟨⟨x0, x1, xz⟩, ⟨xp, xq⟩, ⟨c0, c1, c2, y0, y1, y2⟩, ⟨d4, dz⟩⟩, ⟨b0, b1, b2⟩⟩ := KF.out W' (HAX.out.trans aXW)
      have t7 := hrow.cell (j := 7) rfl
      have tz := hrow.1
      have hcb := aXW.cell_kept HCX.out
      have hzb : ba < W'.heap.size := World.block_lt_of_cell? _ _ hcb
      obtain ⟨hkc, hkz⟩ := HKR.out W' (HAX.out.trans aXW)
      rw [HRS.out] at d4
      have HK := Lib.hid hk
      have HAL := Lib.hid hall
      have hb0 : (0 : Int) ≤ (p : Int) := by omega
      have hb1 : (p : Int) < (L[q].rules.length : Int) := by omega
      clear hk hall hrow aXW hrr hlt
      cases g1 : eqS x.r.key name
      · have e1 : (x.r.key.toList == name.toList) = false := g1
        have HS := Lib.hid (show hitK kd name x.r = false by unfold hitK; rw [g1]; rfl)
        clear g1
        gi_wp2
        refine wpIn_region_quietR (by kernel_rfl) (by kernel_rfl) (by kernel_rfl) ?_
        repeat (quiet_step_in (fail))
        refine wpQuietIn_nil ?_
        intro _ hw'
        obtain ⟨nq, hw''⟩ := hw'
        subst hw''
        gi_wp2
        exact ⟨(show KeepsOthers W' (W'.drewN nq) from ⟨Nat.le_refl _, fun _ _ h _ => h⟩).from _, ⟨Kc.of_aft ⟨rfl, rfl, rfl, Nat.le_refl _, fun _ _ => rfl⟩, ⟨rfl, rfl, rfl, Nat.le_refl _, fun _ _ => rfl⟩⟩, HK.out.trans (Kb.of_aft (show Aft W' (W'.drewN nq) from ⟨rfl, rfl, rfl, Nat.le_refl _, fun _ _ => rfl⟩)), by rw [List.all_append, HAL.out]; simp [HS.out]⟩
      · have e1 : (x.r.key.toList == name.toList) = true := g1
        by_cases g2 : kd = 2
        · have HS := Lib.hid (show hitK kd name x.r = true by unfold hitK; rw [g1, g2]; rfl)
          rw [g2] at hkc
          clear g1 g2
          gi_wp2
          refine wpIn_region_quietR (by kernel_rfl) (by kernel_rfl) (by kernel_rfl) ?_
          repeat (quiet_step_in (fail))
          refine wpQuietIn_nil ?_
          intro _ hw'
          obtain ⟨nq, hw''⟩ := hw'
          subst hw''
          gi_wp2
          exact ⟨((show KeepsOthers W' (W'.drewN nq) from ⟨Nat.le_refl _, fun _ _ h _ => h⟩).trans (KeepsOthers.setCell _ _ _)).from _, ⟨rfl, x, by simp, HS.out⟩, (HK.out.mono fun _ _ h => h.elim).trans ((Kb.of_aft (show Aft W' (W'.drewN nq) from ⟨rfl, rfl, rfl, Nat.le_refl _, fun _ _ => rfl⟩)).trans (Kb.set (W'.drewN nq) (w.heap.size + 1 + 1) 0 _)), World.cell?_setCell_same' _ _ _ (by rw [show (W'.drewN nq).cell? ⟨w.heap.size + 1 + 1, 0, none⟩ = some (.int .i64 0) from b0]; rfl)⟩
        · have HS := Lib.hid (show hitK kd name x.r = false by unfold hitK; rw [show (kd == 2) = false by simpa using g2]; simp)
          have e2 : (kd == 2) = false := by simpa using g2
          clear g1 g2
          gi_wp2
          refine wpIn_region_quietR (by kernel_rfl) (by kernel_rfl) (by kernel_rfl) ?_
          repeat (quiet_step_in (fail))
          refine wpQuietIn_nil ?_
          intro _ hw'
          obtain ⟨nq, hw''⟩ := hw'
          subst hw''
          gi_wp2
          exact ⟨(show KeepsOthers W' (W'.drewN nq) from ⟨Nat.le_refl _, fun _ _ h _ => h⟩).from _, ⟨Kc.of_aft ⟨rfl, rfl, rfl, Nat.le_refl _, fun _ _ => rfl⟩, ⟨rfl, rfl, rfl, Nat.le_refl _, fun _ _ => rfl⟩⟩, HK.out.trans (Kb.of_aft (show Aft W' (W'.drewN nq) from ⟨rfl, rfl, rfl, Nat.le_refl _, fun _ _ => rfl⟩)), by rw [List.all_append, HAL.out]; simp [HS.out]⟩
    case stop =>
      rintro D c pre W' hD hSp ⟨⟨rfl, x, hx, hxs⟩, hk, hcell⟩ hK
      have HU := Lib.hid (show ((forP s n o.tables).any fun p => hitK kd name p.2) = true from List.any_eq_true.2 ⟨FP.key x, hSp.subset (List.mem_map_of_mem hx), hxs⟩)
      have HP := Lib.hid (show TDoP w B n3 hs ht o.schemas L q (dropRulF o.tables s n name L[q].t) (.returned (.int .i64 62)) (W'.putObj D (.deferred none)) from by
        rw [HE.out, if_neg (show ¬ (p : Int) < 0 by omega), if_pos HU.out]
        have a1 := HAW.out.trans HAX.out
        have z9 := a1.size
        exact NOP.out _ (((Kb.of_aft a1).trans (hk.mono fun g _ e => by have e : g = w.heap.size + 1 + 1 := e; omega)).trans (Kb.put.mono fun g _ e => by have e : g = D := e; omega)) 62 (by decide))
      have HC := Lib.hid (show (W'.putObj D (.deferred none)).cell? ⟨w.heap.size + 1 + 1, 0, none⟩ = some (.int .i64 62) from (World.cell?_of_block (World.putObj_heap_other (k := w.heap.size + 1 + 1) (by omega))).trans hcell)
      clear hk hcell hSp hx hxs
      gi_wp2
      refine ⟨by simp, .inl ⟨_, _, rfl, run_takeDeferred hK, ?_⟩⟩
      exact ⟨_, results_cell (v := .int .i64 62) rfl _ rfl (lvErr HC.out), HP.out⟩
    case done =>
      rintro D xs W' hD hS ⟨hk, hall⟩ hK
      have aXW : Aft X W' := hk.to_aft (Aft.refl X) (fun _ _ h => h)
      have HU := Lib.hid (show ((forP s n o.tables).any fun p => hitK kd name p.2) = false by
        rw [← hS, Bool.eq_false_iff]
        intro h
        obtain ⟨y, hy, hy2⟩ := List.any_eq_true.1 h
        obtain ⟨x, hx, rfl⟩ := List.mem_map.1 hy
        have h3 := List.all_eq_true.1 hall x hx
        have hy2 : hitK kd name x.r = true := hy2
        have h3 : (!hitK kd name x.r) = true := h3
        rw [hy2] at h3; cases h3)
      obtain ⟨⟨⟨x0, x1, xz⟩, ⟨xp, xq⟩, ⟨c0, c1, c2, y0, y1, y2⟩, ⟨d4, dz⟩⟩, ⟨b0, b1, b2⟩⟩ := KF.out W' (HAX.out.trans aXW)
      have hcb := aXW.cell_kept HCX.out
      have hzb : ba < W'.heap.size := World.block_lt_of_cell? _ _ hcb
      have HAY := Lib.hid (HAW.out.trans (HAX.out.trans aXW))
      have HXW := Lib.hid aXW
      clear hk hall hS aXW
      have r2 := HOB.out.aft HAY.out
      obtain ⟨k, hkk⟩ : ∃ k, L[q].rules.length = p + 1 + k := ⟨L[q].rules.length - p - 1, by omega⟩
      have o2 : W'.ownsRow B 29 8 (.slice (some ⟨gr, 0, none⟩) (p + 1 + k) cap) (p + 1 + k) (L[q].rules.flatMap ORul.cells) := by
        have := (r2.nth hq).rul
        rw [HVV.out, hkk] at this
        exact this
      have hcapm : cap ≤ 9223372036854775807 := own_cap7 (r2.nth hq).rul _ _ _ HVV.out
      have CD := Lib.hid (delRul gr cap p k B (L[q].rules.flatMap ORul.cells) W' o2 (oneC_cells oneC_rul _) hcapm)
      obtain ⟨hg1, hg2, hg3, hg4⟩ := HGC.out gr (by rw [HVV.out]; rfl)
      rw [HRS.out, hkk] at d4
      have row2 := HR3.out.aft HAY.out
      have hn3 : n3 < w.heap.size := HR3.out.1
      have f4 : W'.frozen? ⟨gt, q * 5 + 4, none⟩ = false := (r2.row HGT.out hq).2.2 4 (by decide)
      have K2 := Lib.hid (show ∀ w3, Kb (fun j => j = gr) W' w3 → w3.ownsRow B 29 8 (.slice (some ⟨gr, 0, none⟩) (p + k) cap) (p + k) ((L[q].rules.flatMap ORul.cells).take (p * 8) ++ (L[q].rules.flatMap ORul.cells).drop ((p + 1) * 8)) → (w3.cell? ⟨gt, q * 5 + 4, none⟩ = some (.slice (some ⟨gr, 0, none⟩) (p + 1 + k) cap) ∧ w3.frozen? ⟨gt, q * 5 + 4, none⟩ = false ∧ gt < w3.heap.size ∧ w3.cell? ⟨w.heap.size + 1 + 1, 0, none⟩ = some (.int .i64 0) ∧ w3.frozen? ⟨w.heap.size + 1 + 1, 0, none⟩ = false ∧ w.heap.size + 1 + 1 < w3.heap.size ∧
          Hid (((w3.setCell ⟨gt, q * 5 + 4, none⟩ (.slice (some ⟨gr, 0, none⟩) (p + k) cap)).setCell ⟨w.heap.size + 1 + 1, 0, none⟩ (.int .i64 0)).heap[D]? = some (.deferred (some [])) ∧ (((w3.setCell ⟨gt, q * 5 + 4, none⟩ (.slice (some ⟨gr, 0, none⟩) (p + k) cap)).setCell ⟨w.heap.size + 1 + 1, 0, none⟩ (.int .i64 0)).putObj D (.deferred none)).cell? ⟨w.heap.size + 1 + 1, 0, none⟩ = some (.int .i64 0) ∧
            TDoP w B n3 hs ht o.schemas L q (dropRulF o.tables s n name L[q].t) (.returned (.int .i64 0)) (((w3.setCell ⟨gt, q * 5 + 4, none⟩ (.slice (some ⟨gr, 0, none⟩) (p + k) cap)).setCell ⟨w.heap.size + 1 + 1, 0, none⟩ (.int .i64 0)).putObj D (.deferred none)))) from fun w3 kb o3 => by
        have hgr0 : ¬ gt = gr := fun e => hg1 e.symm
        have d43 := kb.cell d4 hgr0
        have f43 : w3.frozen? ⟨gt, q * 5 + 4, none⟩ = false := by
          have := kb.block gt dz hgr0
          rw [← f4]; simp [World.frozen?, this]
        have dz3 := Nat.lt_of_lt_of_le dz kb.size
        have rb3 := kb.row (HRB.out.aft (HAX.out.trans HXW.out)) (fun e => by have e : w.heap.size + 1 + 1 = gr := e; omega)
        have row3 := kb.row row2 (fun e => hg2 (by have e : n3 = gr := e; exact e.symm))
        have e1 : (L[q].rules.eraseIdx p).length = p + k := by rw [List.length_eraseIdx_of_lt (by omega)]; omega
        have ks := Kb.set w3 gt (q * 5 + 4) (.slice (some ⟨gr, 0, none⟩) (p + k) cap)
        have kr := Kb.set (w3.setCell ⟨gt, q * 5 + 4, none⟩ (.slice (some ⟨gr, 0, none⟩) (p + k) cap)) (w.heap.size + 1 + 1) 0 (.int .i64 0)
        have zW3 : X.heap.size ≤ W'.heap.size := HXW.out.size
        have hDlt : D < W'.heap.size := (Array.getElem?_eq_some_iff.1 hK).1
        have hK3 : ((w3.setCell ⟨gt, q * 5 + 4, none⟩ (.slice (some ⟨gr, 0, none⟩) (p + k) cap)).setCell ⟨w.heap.size + 1 + 1, 0, none⟩ (.int .i64 0)).heap[D]? = some (.deferred (some [])) := by
          rw [kr.block D (by simp; have := kb.size; omega) (fun e => by have e : D = w.heap.size + 1 + 1 := e; omega), ks.block D (by have := kb.size; omega) (fun e => by have e : D = gt := e; omega), kb.block D hDlt (fun e => by have e : D = gr := e; omega)]
          exact hK
        refine ⟨d43, f43, dz3, rb3.cell (j := 0) rfl, rb3.2.2 0 (by simp), rb3.1, Lib.hid ⟨hK3, ?_, ?_⟩⟩
        · refine (World.cell?_of_block (World.putObj_heap_other (k := w.heap.size + 1 + 1) (by omega))).trans (World.cell?_setCell_same' _ _ _ ?_)
          rw [ks.cell (rb3.cell (j := 0) rfl) (fun e => by have e : w.heap.size + 1 + 1 = gt := e; omega)]
          rfl
        rw [HE.out, if_neg (show ¬ (p : Int) < 0 by omega), if_neg (by rw [HU.out]; simp)]
        simp only [Int.toNat_natCast]
        have n3' : (w3.setCell ⟨gt, q * 5 + 4, none⟩ (.slice (some ⟨gr, 0, none⟩) (p + k) cap)).ownsRow B 29 8 (Hd.mk (some ⟨gr, 0, none⟩) (p + k) cap).v (L[q].rules.eraseIdx p).length ((L[q].rules.eraseIdx p).flatMap ORul.cells) := by
          rw [e1, ← flatMap_erase (size := 8) ORul.cells_len]
          exact own_kb o3 ks (fun g hg e => by
            have e : g = gt := e
            have h9 : gr = g := by simpa [Value.ownBlock, Hd.v] using hg
            exact hg1 (h9.trans e))
        have ndq := tab_nodup (nd_assoc.1 HOB.out.nd) hq
        have ndr : (L[q].rules.flatMap (·.h.blk)).Nodup := (List.nodup_append.1 (List.nodup_append.1 ndq).2.1).2.1
        have obn := r2.newRul (Y := fun _ => False) (hr' := ⟨some ⟨gr, 0, none⟩, p + k, cap⟩) (l' := L[q].rules.eraseIdx p) (gg := gr) (w5 := w3) (w7 := (w3.setCell ⟨gt, q * 5 + 4, none⟩ (.slice (some ⟨gr, 0, none⟩) (p + k) cap))) hq HGT.out (fun _ h => h.elim) (kb.mono fun g _ e => .inl (by have e : g = gr := e; rw [e, HVV.out]; rfl)) (Kb.refl _ _) (.inl (by rw [HVV.out]; rfl)) n3'
          (fun g hg => by rw [blk_some, List.mem_singleton] at hg; exact hg) (fun y hy => .inl (List.mem_of_mem_eraseIdx hy)) ((sublist_flat (fun x : ORul => x.h.blk) (List.eraseIdx_sublist L[q].rules p)).nodup ndr)
        refine ⟨rfl, ((((Kb.of_aft HAY.out).trans (kb.mono fun a _ e => by have e : a = gr := e; omega)).trans (ks.mono fun a _ e => by have e : a = gt := e; omega)).trans (kr.mono fun a _ e => by have e : a = w.heap.size + 1 + 1 := e; omega)).trans (Kb.put.mono fun a _ e => by have e : a = D := e; omega), fun _ => ⟨{ L[q] with rules := L[q].rules.eraseIdx p, hr := ⟨some ⟨gr, 0, none⟩, p + k, cap⟩ }, ?_, ?_, ?_⟩⟩
        · unfold OTab.t
          simp only
          rw [map_eraseIdx]
        · have hlt9 : ∀ a ∈ hs.blk ++ (ht.blk ++ (L.set q { L[q] with rules := L[q].rules.eraseIdx p, hr := ⟨some ⟨gr, 0, none⟩, p + k, cap⟩ }).flatMap OTab.blks), a < w.heap.size := fun a ha => by
            have hold : ∀ b ∈ hs.blk ++ (ht.blk ++ L.flatMap OTab.blks), b < w.heap.size := fun b hb => (HOB.out.lt b hb).2
            rcases List.mem_append.1 ha with h1 | h1
            · exact hold a (List.mem_append.2 (.inl h1))
            · rcases List.mem_append.1 h1 with h2 | h2
              · exact hold a (List.mem_append.2 (.inr (List.mem_append.2 (.inl h2))))
              · obtain ⟨y, hy, hay⟩ := List.mem_flatMap.1 h2
                rcases mem_set_cases hq hy with rfl | ⟨i, hi, _, rfl⟩
                · have hay : a ∈ L[q].hc.blk ++ ((Hd.mk (some ⟨gr, 0, none⟩) (p + k) cap).blk ++ (L[q].rules.eraseIdx p).flatMap (·.h.blk)) := hay
                  rcases List.mem_append.1 hay with h3 | h3
                  · exact hold a (List.mem_append.2 (.inr (List.mem_append.2 (.inr (List.mem_flatMap.2 ⟨L[q], List.getElem_mem hq, by unfold OTab.blks; exact List.mem_append.2 (.inl h3)⟩)))))
                  · rcases List.mem_append.1 h3 with h4 | h4
                    · rw [blk_some, List.mem_singleton] at h4
                      have h4 : a = gr := h4
                      omega
                    · exact hold a (List.mem_append.2 (.inr (List.mem_append.2 (.inr (List.mem_flatMap.2 ⟨L[q], List.getElem_mem hq, by unfold OTab.blks; exact List.mem_append.2 (.inr (List.mem_append.2 (.inr ((sublist_flat (fun x : ORul => x.h.blk) (List.eraseIdx_sublist L[q].rules p)).subset h4))))⟩)))))
                · exact hold a (List.mem_append.2 (.inr (List.mem_append.2 (.inr (List.mem_flatMap.2 ⟨L[i], List.getElem_mem hi, hay⟩)))))
          exact (obn.kb kr fun a ha e => by have := hlt9 a ha; have e : a = w.heap.size + 1 + 1 := e; omega).kb Kb.put fun a ha e => by have := hlt9 a ha; have e : a = D := e; omega
        · rw [HLL.out]
          exact Kb.put.row (kr.row (ks.row row3 (fun e => hgn (by have e : n3 = gt := e; exact e.symm))) (fun e => by have e : n3 = w.heap.size + 1 + 1 := e; omega)) (fun e => by have e : n3 = D := e; omega))
      have hpb : (p : Int) + 1 ≤ 9223372036854775807 := by have := hlen; simp at this; omega
      have CD' := Lib.hid (delRul gr cap p k B (L[q].rules.flatMap ORul.cells) W'.drew (own_aft o2 (Aft.refl W').drew) (oneC_cells oneC_rul _) hcapm)
      have K3 := Lib.hid (show ∀ w3, Kb (fun j => j = gr) W'.drew w3 → w3.ownsRow B 29 8 (.slice (some ⟨gr, 0, none⟩) (p + k) cap) (p + k) ((L[q].rules.flatMap ORul.cells).take (p * 8) ++ (L[q].rules.flatMap ORul.cells).drop ((p + 1) * 8)) → (∃ x : KLat (.slice (some ⟨gr, 0, none⟩) (p + 1 + k) cap) W', w3 = klat (.slice (some ⟨gr, 0, none⟩) (p + 1 + k) cap) W' x) ∧ _ from fun w3 kb o3 => ⟨KL.of ((Kb.of_aft (Aft.refl W').drew).trans (kb.mono fun g _ e => by have e : g = gr := e; rw [e]; rfl)), K2.out w3 ((Kb.of_aft (Aft.refl W').drew).trans kb) o3⟩)
      have hWw := HZW.out
      have HWR := Lib.hid (show IntKind.i64.wrap ((p : Int) + 1) = (p : Int) + 1 from IntWalk.i64_in _ (by omega))
      have m1 : ¬ InV (.slice (some ⟨gr, 0, none⟩) (p + 1 + k) cap) (w.heap.size + 1) := fun h => by have h : some gr = some (w.heap.size + 1) := h; simp only [Option.some.injEq] at h; omega
      have m2 : ¬ InV (.slice (some ⟨gr, 0, none⟩) (p + 1 + k) cap) ba := fun h => by have h : some gr = some ba := h; simp only [Option.some.injEq] at h; omega
      have m3 : ¬ InV (.slice (some ⟨gr, 0, none⟩) (p + 1 + k) cap) gt := fun h => by have h : some gr = some gt := h; simp only [Option.some.injEq] at h; exact hg1 h
      clear r2 o2 row2 hg1 hg2 hg3 hn3 f4 hWw
      go_wp2_with fail
      refine wp_region_reads 7 9 (fun w' => ∃ x : KLat (.slice (some ⟨gr, 0, none⟩) (p + 1 + k) cap) W', w' = klat (.slice (some ⟨gr, 0, none⟩) (p + 1 + k) cap) W' x) (by kernel_rfl) (by kernel_rfl) (KL.aft (Aft.refl W').drew) ?_
      simp only [List.take_succ_cons, List.take_zero, List.drop_succ_cons, List.drop_zero]
      repeat (go_big_quiet_step (fail))
      refine wpQuiet_nil ?_
      refine wpChain_step (fun K hK2 => ?_)
      go_simp
      refine hK2 _ _ (fun _ => KL.aft (Aft.refl W').drew) ?_
      clear hK2 K
      refine wpChain_step (fun K hK2 => ?_)
      go_simp
      go_at_call 78
      rw [HWR.out]
      refine CD'.out.mono ?_
      rintro e w3 ⟨rfl, o3, kb⟩
      obtain ⟨hT, f0, f1, f2, f3, f4, f5, HP⟩ := K3.out w3 kb o3
      dsimp only
      refine hK2 _ _ (fun _ => hT) ?_
      clear hK2 K o3 kb hT
      refine wpChain_list _ (by simp) (by decide) ?_
      have hn8 : ¬ gt = w.heap.size + 1 + 1 := by omega
      have hn9 : ¬ w.heap.size + 1 + 1 = gt := by omega
      go_wp2_with fail
      refine NoPanic.normal ?_
      go_wp2_with fail
      refine ⟨by simp, .inl ⟨_, _, rfl, run_takeDeferred HP.out.1, ?_⟩⟩
      exact ⟨_, results_cell (v := .int .i64 0) rfl _ rfl (lvErr HP.out.2.1), HP.out.2.2⟩
end Go.Proofs.YticjnndhpfdajaaGreat
