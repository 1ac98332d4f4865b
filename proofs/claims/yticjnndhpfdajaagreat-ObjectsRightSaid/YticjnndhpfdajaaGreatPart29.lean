/- Contracts of the program, part 29. -/
import Derived.Test.YticjnndhpfdajaaGreatPart24
import Derived.Test.YticjnndhpfdajaaGreatPart28
import Derived.Test.YticjnndhpfdajaaGreatPart27
import Derived.Test.YticjnndhpfdajaaGreatPart1
import Derived.ShutString
/- The document's DropRule. -/
namespace Go.Proofs.YticjnndhpfdajaaGreat
open Go.RowKit Go.Deep
set_option maxRecDepth 100000
set_option linter.unusedVariables false
theorem hit_any (ts : List Tab) (s n name : ByteArray) (kd : Int) : ((forP s n ts).any fun p => hitK kd name p.2) = ((kd == 2) && ts.any fun t => t.rules.any (namesK s n name)) := by
  unfold forP
  rw [List.any_flatMap]
  have h : ∀ t : Tab, ((forT s n t).any fun p => hitK kd name p.2) = ((kd == 2) && t.rules.any (namesK s n name)) := fun t => by
    unfold forT
    rw [List.any_map, List.any_filter]
    unfold hitK namesK
    induction t.rules with
    | nil => simp
    | cons r l ih =>
      simp only [List.any_cons, Function.comp] at ih ⊢
      rw [ih]
      cases namesR s n r <;> cases eqS r.key name <;> cases (kd == 2) <;> simp
  induction ts with
  | nil => simp
  | cons t l ih =>
    rw [List.any_cons, List.any_cons, ih, h t]
    cases (kd == 2) <;> simp
theorem rul_only {l : List Rul} {name : ByteArray} {p : Nat} (hr : risesB cmpRl l = true) (hp : rulAt l name = p) (hpl : p < l.length) (t : Nat) (ht : t < l.length) : eqS l[t].name name = decide (t = p) := by
  have h1 : eqS l[p].name name = true := idxP_at (fun c : Rul => eqS c.name name) l p hpl hp
  rcases Nat.lt_trichotomy t p with h | h | h
  · rw [decide_eq_false (by omega), Bool.eq_false_iff]
    intro h2
    have h3 := rises_lt preRl.tr hr t p ht hpl h
    have h4 : cmpRl l[t] l[p] = 0 := (cmpS_eq _ _).2 (eqS_trans h2 (by rw [eqS_comm]; exact h1))
    omega
  · subst h; rw [h1]; simp
  · rw [decide_eq_false (by omega), Bool.eq_false_iff]
    intro h2
    have h3 := rises_lt preRl.tr hr p t hpl ht h
    have h4 : cmpRl l[p] l[t] = 0 := (cmpS_eq _ _).2 (eqS_trans h1 (by rw [eqS_comm]; exact h2))
    omega
theorem name_emp {s : ByteArray} (h : nameB s = true) : emp s = false := by
  have h3 : s.toList.isEmpty = true → nameB s = false := fun he => by
    have : s = ⟨#[]⟩ := by
      have h5 : eqS s ⟨#[]⟩ = true := by
        unfold eqS
        rw [List.isEmpty_iff.1 he]
        decide +kernel
      have h6 : s.data.toList = (⟨#[]⟩ : ByteArray).data.toList := (cmpB_eq _ _).1 ((cmpS_eq s ⟨#[]⟩).2 h5)
      obtain ⟨d⟩ := s
      have h7 : d = #[] := Array.toList_inj.1 h6
      rw [h7]
    rw [this]
    decide +kernel
  cases he : emp s
  · rfl
  · rw [h3 he] at h; cases h
set_option maxHeartbeats 16000000 in
theorem rDropRule_in (o : Objs) (As : Option Addr) (caps : Nat) (At : Option Addr) (capt : Nat) (s n name : ByteArray) (w : World) (hsch : SlAt w 2 SchR As caps o.schemas) (htab : SlAt w 5 TabR At capt o.tables) :
    Calls Tryz.prog 19 #[.agg #[.slice As o.schemas.length caps, .slice At o.tables.length capt], .string s, .string n, .string name] w (ObjP w (chgR o (tabR o s n (dropRulF o.tables s n name)))) := by
  have hlen := hsch.len
  have hlen2 := htab.len
  have l1 : w.heap.size < w.heap.size + 1 := by omega
  obtain ⟨W, hW⟩ : ∃ W, W = ((w.alloc (.cells #[.slice As o.schemas.length caps, .slice At o.tables.length capt] 25)).alloc (.cells #[.slice none 0 0, .slice none 0 0] 25)) := ⟨_, rfl⟩
  have aW : Aft w W := by rw [hW]; exact ((Aft.refl w).alloc _).alloc _
  have r0 : RowAt W w.heap.size [.slice As o.schemas.length caps, .slice At o.tables.length capt] := by rw [hW]; exact (box_row2 (Aft.refl _)).aft ((Aft.refl _).alloc _)
  have r2 : RowAt W (w.heap.size + 1) [.slice none 0 0, .slice none 0 0] := by
    rw [hW]
    have := (box_row2 (w := w.alloc (.cells #[.slice As o.schemas.length caps, .slice At o.tables.length capt] 25)) (c := [.slice none 0 0, .slice none 0 0]) (t := 25) (Aft.refl _))
    simpa using this
  have KF := Lib.hid (show ∀ V, Aft W V → (V.cell? ⟨w.heap.size, 0, none⟩ = some (.slice As o.schemas.length caps) ∧ V.cell? ⟨w.heap.size, 1, none⟩ = some (.slice At o.tables.length capt) ∧ w.heap.size < V.heap.size) ∧ (V.cell? ⟨w.heap.size + 1, 0, none⟩ = some (.slice none 0 0) ∧ V.cell? ⟨w.heap.size + 1, 1, none⟩ = some (.slice none 0 0) ∧ V.frozen? ⟨w.heap.size + 1, 0, none⟩ = false ∧ V.frozen? ⟨w.heap.size + 1, 1, none⟩ = false ∧ w.heap.size + 1 < V.heap.size) from fun V a => by
    have q := r0.aft a
    have z := r2.aft a
    exact ⟨⟨q.cell (j := 0) rfl, q.cell (j := 1) rfl, q.1⟩, ⟨z.cell (j := 0) rfl, z.cell (j := 1) rfl, z.2.2 0 (by simp), z.2.2 1 (by simp), z.1⟩⟩)
  have KN := Lib.hid (show ∀ V, Aft W V → ∀ x : Int, ObjP w (zeroO, x) (.returned (.tuple #[.agg #[.slice none 0 0, .slice none 0 0], .int .i64 x])) ((V.setCell ⟨w.heap.size + 1, 0, none⟩ (.slice none 0 0)).setCell ⟨w.heap.size + 1, 1, none⟩ (.slice none 0 0)) from fun V a x => objP_zset (aW.trans a) (by omega))
  have KB := Lib.hid (show ∀ V, Aft W V → RowAt V (w.heap.size + 1) [.slice none 0 0, .slice none 0 0] from fun V a => r2.aft a)
  obtain ⟨c, hc⟩ : ∃ c, checkO o = c := ⟨_, rfl⟩
  obtain ⟨i, hi⟩ : ∃ i, tabAt o.tables s n = i := ⟨_, rfl⟩
  have hir : -1 ≤ i ∧ i < o.tables.length := by rw [← hi]; exact idxP_range _ _
  have C1 := Lib.hid (show ∀ V, Aft W V → _ from fun V a => hc ▸ rRight_any o As caps At capt V (schs_aft (aW.trans a) hsch) (tabs_aft (aW.trans a) htab))
  have C2 := Lib.hid (show ∀ V, Aft W V → _ from fun V a => hi ▸ rtab_any (.slice As o.schemas.length caps) At capt o.tables s n V (tabs_aft (aW.trans a) htab))
  have CO := Lib.hid (show c = true → ∀ V, Aft W V → _ from fun h V a => rOwn_in o As caps At capt V (schs_aft (aW.trans a) hsch) (tabs_aft (aW.trans a) htab) (check_mod (hc.trans h)))
  have HE := Lib.hid (show chgR o (tabR o s n (dropRulF o.tables s n name)) = if c = true then tabR o s n (dropRulF o.tables s n name) else (zeroO, 63) by unfold chgR; rw [hc])
  have HC := Lib.hid hc
  have HI := Lib.hid hi
  have HAW := Lib.hid aW
  have HT := Lib.hid htab
  clear hc hi hsch htab aW r0 r2
  go_enter Tryz.func19, Tryz.ntmps19
  go_wp2_with fail
  rw [← hW]
  clear hW
  refine (C1.out _ (Aft.refl W)).mono ?_
  rintro e w1 ⟨rfl, a1⟩
  obtain ⟨⟨x0, x1, xz⟩, ⟨y0, y1, y2, y3, yz⟩⟩ := KF.out w1 a1
  have HA1 := Lib.hid a1
  clear a1
  cases c
  · go_wp2_with fail
    refine (rNo_in _ _).mono ?_
    rintro e w9 ⟨rfl, a2⟩
    obtain ⟨_, ⟨y0, y1, y2, y3, yz⟩⟩ := KF.out w9 (HA1.out.trans a2)
    have HP := Lib.hid (KN.out w9 (HA1.out.trans a2) 63)
    have HRW := Lib.hid (KB.out w9 (HA1.out.trans a2))
    clear a2
    go_wp2_with fail
    refine bodyPost_ret (results_cell_tmp (v := .agg #[.slice none 0 0, .slice none 0 0]) rfl _ rfl (lvObj_row (setO_row HRW.out rfl _ _))) rfl ?_
    rw [HE.out]
    exact HP.out
  go_wp2_with fail
  refine (C2.out w1 HA1.out).mono ?_
  rintro e w2 ⟨rfl, a2⟩
  obtain ⟨⟨x0, x1, xz⟩, ⟨y0, y1, y2, y3, yz⟩⟩ := KF.out w2 (HA1.out.trans a2)
  have HA2 := Lib.hid (HA1.out.trans a2)
  clear a2
  by_cases h0 : 0 ≤ i
  case neg =>
    have hd : i < 0 := by omega
    have HH0 := Lib.hid h0
    go_wp2_with fail
    refine (rNo_in _ _).mono ?_
    rintro e w9 ⟨rfl, a2⟩
    obtain ⟨_, ⟨y0, y1, y2, y3, yz⟩⟩ := KF.out w9 (HA2.out.trans a2)
    have HP := Lib.hid (KN.out w9 (HA2.out.trans a2) 61)
    have HRW := Lib.hid (KB.out w9 (HA2.out.trans a2))
    clear a2
    go_wp2_with fail
    refine bodyPost_ret (results_cell_tmp (v := .agg #[.slice none 0 0, .slice none 0 0]) rfl _ rfl (lvObj_row (setO_row HRW.out rfl _ _))) rfl ?_
    rw [HE.out]
    simp only [if_true]
    rw [tabR_none (by rw [HI.out]; have := HH0.out; omega)]
    exact HP.out
  obtain ⟨q, rfl⟩ := Int.eq_ofNat_of_zero_le h0
  have hq : q < o.tables.length := by omega
  have hd : ¬ (q : Int) < 0 := by omega
  have HE2 := Lib.hid (tabR_some (f := dropRulF o.tables s n name) HI.out hq)
  obtain ⟨b, off, A2, cap2, A3, cap3, rfl, hb, d0, d1, d2, d3, d4, hcols, hruls, _⟩ := tab_at (tabs_aft (HAW.out.trans HA2.out) HT.out) hq
  have HMQ := Lib.hid (List.getElem_mem hq)
  obtain ⟨p, hp⟩ : ∃ p, o.tables[q] = p := ⟨_, rfl⟩
  rw [hp] at d0 d1 d2 d3 d4 hcols hruls HE2 HMQ
  have HP := Lib.hid hp
  have hmod := (check_mod HC.out).2.2 p HMQ.out
  have hgood : risesB cmpRl p.rules = true ∧ p.rules.all (ruleOk o.tables p.cols) = true := by
    have h9 := HC.out
    unfold checkO at h9
    simp only [Bool.and_eq_true, List.all_eq_true] at h9
    have h8 := h9.2.2 _ HMQ.out
    unfold rightT at h8
    simp only [Bool.and_eq_true] at h8
    exact ⟨h8.2.2, h8.2.1⟩
  obtain ⟨j, hj⟩ : ∃ j, rulAt p.rules name = j := ⟨_, rfl⟩
  obtain ⟨kd, hkd⟩ : ∃ k, rulKind p name = k := ⟨_, rfl⟩
  have hjr : -1 ≤ j ∧ j < p.rules.length := by rw [← hj]; exact idxP_range _ _
  obtain ⟨us, hus⟩ : ∃ u, (o.tables.any fun t => t.rules.any (namesK s n name)) = u := ⟨_, rfl⟩
  have HEF := Lib.hid (show dropRulF o.tables s n name p = if j < 0 then (p, 61) else if ((kd == 2) && us) = true then (p, 62) else ({ p with rules := p.rules.eraseIdx j.toNat }, 0) by
    unfold dropRulF; rw [hj, hkd, hit_any, hus])
  have HUS := Lib.hid hus
  have HRO := Lib.hid (show ∀ m : Nat, j = m → m < p.rules.length ∧ Hid ((∀ t (ht : t < p.rules.length), eqS p.rules[t].name name = decide (t = m)) ∧ emp name = false) ∧ ∀ hm : m < p.rules.length, p.rules[m].kind = kd from fun m hm => by
    have hml : m < p.rules.length := by omega
    have hm2 := hj.trans hm
    refine ⟨hml, Lib.hid ⟨fun t ht => rul_only hgood.1 hm2 hml t ht, ?_⟩, fun hm9 => ?_⟩
    · have h8 := List.all_eq_true.1 hgood.2 _ (List.getElem_mem hml)
      unfold ruleOk fitsOk at h8
      simp only [Bool.and_eq_true] at h8
      have h7 := name_emp h8.1.1.1.2
      have h6 := rul_only hgood.1 hm2 hml m hml
      rw [decide_eq_true rfl] at h6
      unfold emp at h7 ⊢
      unfold eqS at h6
      rw [← (beq_iff_eq.1 h6)]; exact h7
    · rw [← hkd, rulKind_at hm2 hm9])
  have C4 := Lib.hid (show ∀ V, Aft w2 V → Calls Tryz.prog 74 #[.slice A3 p.rules.length cap3, .string name] V fun e w'' => e = .returned (.int .i64 j) ∧ V = w'' from
    fun V a => (rrul_any A3 cap3 p.rules name V (ruls_aft a hruls)).mono fun e w'' ⟨he, hw⟩ => ⟨he.trans (by rw [← hj]; rfl), hw⟩)
  have hrl := hruls.len
  have HRU := Lib.hid hruls
  clear hp hj hkd hus hcols hruls h0 hir hgood
  have hq0 : (0 : Int) ≤ (q : Int) := by omega
  have hq1 : (q : Int) < (o.tables.length : Int) := by omega
  go_wp2_with fail
  refine (C4.out w2 (Aft.refl _)).mono ?_
  rintro e w3 ⟨rfl, rfl⟩
  by_cases hj0 : j < 0
  · have hd5 : decide (j < 0) = true := decide_eq_true hj0
    have HJ := Lib.hid hj0
    go_wp2_with fail
    refine (rNo_in _ _).mono ?_
    rintro e w9 ⟨rfl, a2⟩
    obtain ⟨_, ⟨y0, y1, y2, y3, yz⟩⟩ := KF.out w9 (HA2.out.trans a2)
    have HP := Lib.hid (KN.out w9 (HA2.out.trans a2) 61)
    have HRW := Lib.hid (KB.out w9 (HA2.out.trans a2))
    clear a2
    go_wp2_with fail
    refine bodyPost_ret (results_cell_tmp (v := .agg #[.slice none 0 0, .slice none 0 0]) rfl _ rfl (lvObj_row (setO_row HRW.out rfl _ _))) rfl ?_
    rw [HE.out]
    simp only [if_true]
    rw [HE2.out, HEF.out, if_pos HJ.out]
    rw [if_neg (show ¬ (61 : Int) = 0 by decide)]
    exact HP.out
  have hd5 : decide (j < 0) = false := decide_eq_false hj0
  obtain ⟨m, rfl⟩ : ∃ m : Nat, j = m := ⟨j.toNat, by omega⟩
  obtain ⟨hml, HO0, hmk⟩ := HRO.out m rfl
  obtain ⟨b3, off3, D3, capD3, rfl, hb3, e0, e1, e2, e3, e4, e5, e6, e7, _⟩ := rul_at HRU.out hml
  rw [hmk hml] at e1
  have hm0 : (0 : Int) ≤ (m : Int) := by omega
  have hm1 : (m : Int) < (p.rules.length : Int) := by omega
  have C4' := Lib.hid (show ∀ x : Lat w2, Calls Tryz.prog 74 #[.slice (some ⟨b3, off3, none⟩) p.rules.length cap3, .string name] (lat w2 x) fun e w'' => e = .returned (.int .i64 (m : Int)) ∧ Aft (lat w2 x) w'' from
    fun x => (C4.out _ ((Aft.refl w2).lat x)).mono fun e w'' ⟨he, hw⟩ => ⟨he, by rw [← hw]; exact Aft.refl _⟩)
  clear hj0 hmk HRO C4 HRU
  go_wp2_with fail
  refine wp_region_lat (by kernel_rfl) (by kernel_rfl) ?_
  repeat (go_big_quiet_step ((go_at_call 74; exact Calls.lat_of (C4'.out _))))
  refine wpQuiet_nil ?_
  intro _ hw'
  obtain ⟨x, hw''⟩ := hw'
  subst hw''
  obtain ⟨V, hV⟩ : ∃ V, V = lat w2 x := ⟨_, rfl⟩
  have aV : Aft w2 V := by rw [hV]; exact (Aft.refl w2).lat x
  rw [← hV]
  obtain ⟨⟨x0, x1, xz⟩, ⟨y0, y1, y2, y3, yz⟩⟩ := KF.out V (HA2.out.trans aV)
  have HAV := Lib.hid (HA2.out.trans aV)
  clear hV aV C4' d0 d1 d2 d3 d4 e0 e1 e2 e3 e4 e5 e6 e7
  by_cases hk2 : kd = 2
  · subst hk2
    have HK2 := Lib.hid (show ((2 : Int) == 2) = true from rfl)
    go_wp2_with fail
    go_loopw [11] (fun u11 wr => ∃ k : Nat, u11 = .int .i64 k ∧ k ≤ o.tables.length ∧ Aft V wr ∧ ∀ j, j < k → ∀ (hj : j < o.tables.length), o.tables[j].rules.any (namesK s n name) = false) (fun u11 _ => o.tables.length - (intOf u11).toNat)
    case atStart => exact ⟨0, rfl, Nat.zero_le _, Aft.refl V, fun j hj => absurd hj (Nat.not_lt_zero j)⟩
    case round =>
      obtain ⟨k, rfl, hk, ha, hp⟩ := hrel
      have HAR := Lib.hid (HAV.out.trans ha)
      have HA9 := Lib.hid ha
      have HPN := Lib.hid hp
      obtain ⟨⟨x0, x1, xz⟩, ⟨y0, y1, y2, y3, yz⟩⟩ := KF.out wr (HAV.out.trans ha)
      clear ha hp
      by_cases hlt : k < o.tables.length
      · obtain ⟨b4, off4, B2, capB2, B3, capB3, hAt, hb4, d0, d1, d2, d3, d4, _, hruls, _⟩ := tab_at (tabs_aft (HAW.out.trans HAR.out) HT.out) hlt
        cases hAt
        obtain ⟨t9, ht9⟩ : ∃ t, o.tables[k] = t := ⟨_, rfl⟩
        rw [ht9] at d0 d1 d2 d3 d4 hruls
        obtain ⟨v, hv⟩ : ∃ v, t9.rules.any (namesK s n name) = v := ⟨_, rfl⟩
        have CN := Lib.hid (show Calls Tryz.prog 79 #[.agg #[.string t9.schema, .string t9.name, .string t9.owner, .slice B2 t9.cols.length capB2, .slice B3 t9.rules.length capB3], .string s, .string n, .string name] wr fun e w' => e = .returned (.bool v) ∧ Aft wr w' from hv ▸ rnamesK_in t9 (.slice B2 t9.cols.length capB2) B3 capB3 s n name HO0.out.2 wr hruls)
        have HNO := Lib.hid (show v = false → ∀ j, j < k + 1 → ∀ (hj : j < o.tables.length), o.tables[j].rules.any (namesK s n name) = false from fun h => ext_lt (p := fun j => ∀ (hj : j < o.tables.length), o.tables[j].rules.any (namesK s n name) = false) HPN.out (fun _ => by rw [ht9, hv, h]))
        have HYE := Lib.hid (show v = true → us = true from fun h => by rw [← HUS.out]; exact List.any_eq_true.2 ⟨o.tables[k], List.getElem_mem hlt, by rw [ht9, hv, h]⟩)
        have hk0 : (0 : Int) ≤ (k : Int) := by omega
        have hk1 : (k : Int) < (o.tables.length : Int) := by omega
        clear hruls ht9 hv
        go_wp2_with fail
        refine CN.out.mono ?_
        rintro e w4 ⟨rfl, a4⟩
        have HA4 := Lib.hid (HAR.out.trans a4)
        have HA5 := Lib.hid (HA9.out.trans a4)
        clear a4
        cases v
        · have HN2 := Lib.hid (HNO.out rfl)
          go_wp2_with fail
          go_roundw
          case rel =>
            repeat (apply Exists.intro)
            refine ⟨⟨k + 1, rfl, by omega, HA5.out, HN2.out⟩, rfl⟩
          case measure => simp [intOf]; omega
        · have HU1 := Lib.hid (HYE.out rfl)
          go_wp2_with fail
          refine (rNo_in _ _).mono ?_
          rintro e w9 ⟨rfl, a2⟩
          obtain ⟨_, ⟨y0, y1, y2, y3, yz⟩⟩ := KF.out w9 (HA4.out.trans a2)
          have HP := Lib.hid (KN.out w9 (HA4.out.trans a2) 62)
          have HRW := Lib.hid (KB.out w9 (HA4.out.trans a2))
          clear a2
          go_wp2_with fail
          refine bodyPost_ret (results_cell_tmp (v := .agg #[.slice none 0 0, .slice none 0 0]) rfl _ rfl (lvObj_row (setO_row HRW.out rfl _ _))) rfl ?_
          rw [HE.out]
          simp only [if_true]
          rw [HE2.out, HEF.out, if_neg (show ¬ (m : Int) < 0 by omega), if_pos (show (((2 : Int) == 2) && us) = true by rw [HU1.out]; rfl)]
          rw [if_neg (show ¬ (62 : Int) = 0 by decide)]
          exact HP.out
      · have HUF := Lib.hid (show us = false from by rw [← HUS.out]; exact any_no fun j hj _ => HPN.out j (by omega) hj)
        obtain ⟨R, rfl⟩ : ∃ R, R = wr := ⟨_, rfl⟩
        have CO' := Lib.hid (CO.out (by first | trivial | rfl) _ HAR.out)
        clear CO
        have KY := Lib.hid (show (((2 : Int) == 2) && us) = false from by rw [HUF.out, Bool.and_false])
        go_wp2_with fail
        refine CO'.out.mono ?_
        rintro e w6 ⟨hs, ht, L, hL, rfl, a6, ob⟩
        have hLL : L.length = o.tables.length := by rw [← hL]; simp
        have hqL : q < L.length := by omega
        obtain ⟨gt, hgt, hgb, _⟩ := own_place ob.tab (by omega)
        obtain ⟨At', nt, ct⟩ := ht
        have hgt' : At' = some ⟨gt, 0, none⟩ := hgt
        subst hgt'
        have htq : L[q].t = p := by
          have : (L.map OTab.t)[q]'(by simpa using hqL) = o.tables[q] := by simp only [hL]
          rw [← HP.out]; simpa using this
        have hrq : L[q].rules.map (·.r) = p.rules := by rw [← htq]; rfl
        have hrn : L[q].rules.length = p.rules.length := by rw [← hrq]; simp
        have hrv : L[q].hr.v = .slice L[q].hr.a L[q].rules.length L[q].hr.c := own_slice (ob.nth hqL).rul
        obtain ⟨X0, hX⟩ : ∃ X, X = w6.alloc (.cells #[.slice hs.a o.schemas.length hs.c, .slice (some ⟨gt, 0, none⟩) o.tables.length ct] 25) := ⟨_, rfl⟩
        have a60 : Aft w6 X0 := by rw [hX]; exact (Aft.refl _).alloc _
        have rX : RowAt X0 w6.heap.size [.slice hs.a o.schemas.length hs.c, .slice (some ⟨gt, 0, none⟩) o.tables.length ct] := by rw [hX]; exact box_row2 (Aft.refl _)
        have zX : X0.heap.size = w6.heap.size + 1 := by rw [hX]; simp
        have HAX := Lib.hid ((HAR.out.trans a6).trans a60)
        have z6 := a6.size
        have zV : w.heap.size + 1 < R.heap.size := (KF.out _ HAR.out).2.2.2.2.2
        have gtl := (ob.row rfl hqL).1
        have ob0 := ob.aft a60
        have HL := Lib.hid hL
        have HRQ := Lib.hid hrq
        have HTQ := Lib.hid htq
        have KE := Lib.hid (show ∀ (wr : World) (h : Hd), GrR X0 wr h (L[q].rules.eraseIdx m) →
            Aft w (wr.setCell ⟨gt, q * 5 + 4, none⟩ h.v) ∧ ObjIn (wr.setCell ⟨gt, q * 5 + 4, none⟩ h.v) R.heap.size hs ⟨some ⟨gt, 0, none⟩, nt, ct⟩ o.schemas (L.set q { L[q] with rules := L[q].rules.eraseIdx m, hr := h }) ∧ RowAt (wr.setCell ⟨gt, q * 5 + 4, none⟩ h.v) (w.heap.size + 1) [.slice none 0 0, .slice none 0 0] from fun wr h g => by
          have zr := g.1.size
          have k67 : Kb (fun _ => False) w6 wr := Kb.of_aft (a60.trans g.1)
          have ks := Kb.set wr gt (q * 5 + 4) h.v
          have ndq := tab_nodup (nd_assoc.1 ob.nd) hqL
          have ndr : (L[q].rules.flatMap (·.h.blk)).Nodup := (List.nodup_append.1 (List.nodup_append.1 ndq).2.1).2.1
          have oend := endR (Y := fun _ => False) (wr := wr) (h := h) (l := L[q].rules.eraseIdx m) ob hqL rfl (fun g e => e.elim) k67 g.2 (show w6.heap.size ≤ X0.heap.size by omega) z6 (fun y hy => .inl (List.mem_of_mem_eraseIdx hy)) ((sublist_flat (fun x : ORul => x.h.blk) (List.eraseIdx_sublist L[q].rules m)).nodup ndr)
          refine ⟨ks.to_aft ((HAW.out.trans HAX.out).trans g.1) (fun g hg e => by have e : g = gt := e; omega), oend, ?_⟩
          exact ks.row ((KB.out X0 HAX.out).aft g.1) (fun e => by have e : w.heap.size + 1 = gt := e; omega))
        have KX := Lib.hid (show ∀ V, Aft X0 V → ((V.cell? ⟨w6.heap.size, 0, none⟩ = some (.slice hs.a o.schemas.length hs.c) ∧ V.cell? ⟨w6.heap.size, 1, none⟩ = some (.slice (some ⟨gt, 0, none⟩) o.tables.length ct) ∧ w6.heap.size < V.heap.size) ∧ (V.cell? ⟨gt, q * 5 + 4, none⟩ = some (.slice L[q].hr.a L[q].rules.length L[q].hr.c) ∧ V.frozen? ⟨gt, q * 5 + 4, none⟩ = false ∧ gt < V.heap.size)) ∧ (V.cell? ⟨w.heap.size + 1, 0, none⟩ = some (.slice none 0 0) ∧ V.cell? ⟨w.heap.size + 1, 1, none⟩ = some (.slice none 0 0) ∧ V.frozen? ⟨w.heap.size + 1, 0, none⟩ = false ∧ V.frozen? ⟨w.heap.size + 1, 1, none⟩ = false ∧ w.heap.size + 1 < V.heap.size) from fun V a => by
          have r9 := rX.aft a
          have ob9 := ob0.aft a
          have d4 : V.cell? ⟨gt, q * 5 + 4, none⟩ = some (.slice L[q].hr.a L[q].rules.length L[q].hr.c) := by rw [← hrv]; exact ob9.cell rfl hqL (by decide)
          have g0 := ob9.row rfl hqL
          exact ⟨⟨⟨r9.cell (j := 0) rfl, r9.cell (j := 1) rfl, r9.1⟩, d4, g0.2.2 4 (by decide), g0.1⟩, (KF.out V (HAX.out.trans a)).2⟩)
        have KL := Lib.hid (show ∀ k (hk : k < L[q].rules.length), ∃ g, L[q].hr.a = some ⟨g, 0, none⟩ ∧ L[q].rules[k].cells = [.string L[q].rules[k].r.name, .int .i64 L[q].rules[k].r.kind, .slice L[q].rules[k].h.a L[q].rules[k].r.cols.length L[q].rules[k].h.c, .int .i64 L[q].rules[k].r.low, .int .i64 L[q].rules[k].r.high, .string L[q].rules[k].r.schema, .string L[q].rules[k].r.table, .string L[q].rules[k].r.key] ∧
            ∀ V, Aft X0 V → (V.cell? ⟨g, k * 8, none⟩ = some (.string L[q].rules[k].r.name) ∧ V.cell? ⟨g, k * 8 + 1, none⟩ = some (.int .i64 L[q].rules[k].r.kind) ∧ V.cell? ⟨g, k * 8 + 2, none⟩ = some (.slice L[q].rules[k].h.a L[q].rules[k].r.cols.length L[q].rules[k].h.c) ∧ V.cell? ⟨g, k * 8 + 3, none⟩ = some (.int .i64 L[q].rules[k].r.low) ∧ V.cell? ⟨g, k * 8 + 4, none⟩ = some (.int .i64 L[q].rules[k].r.high) ∧ V.cell? ⟨g, k * 8 + 5, none⟩ = some (.string L[q].rules[k].r.schema) ∧ V.cell? ⟨g, k * 8 + 6, none⟩ = some (.string L[q].rules[k].r.table) ∧ V.cell? ⟨g, k * 8 + 7, none⟩ = some (.string L[q].rules[k].r.key) ∧ g < V.heap.size) from fun k hk => by
          have tq := (ob0.nth hqL).rul
          obtain ⟨g, hga, hgb2, hgr⟩ := own_place tq (by omega)
          have hce := ORul.cells_of ((ob0.nth hqL).each _ (List.getElem_mem hk))
          refine ⟨g, hga, hce, fun V kv => ?_⟩
          have c := fun (j : Nat) (hj : j < 8) => own_cell tq (f := ORul.cells) ORul.cells_len hga hk (j := j) hj
          rw [hce] at c
          exact ⟨kv.cell_kept (c 0 (by decide)), kv.cell_kept (c 1 (by decide)), kv.cell_kept (c 2 (by decide)), kv.cell_kept (c 3 (by decide)), kv.cell_kept (c 4 (by decide)), kv.cell_kept (c 5 (by decide)), kv.cell_kept (c 6 (by decide)), kv.cell_kept (c 7 (by decide)), Nat.lt_of_lt_of_le hgr.1 kv.size⟩)
        have HTK := Lib.hid (show ∀ k (hk : k < L[q].rules.length), eqS L[q].rules[k].r.name name = decide (k = m) from fun k hk => by
          have := HO0.out.1 k (by omega)
          rw [(List.getElem_of_eq hrq.symm (by omega)).trans (List.getElem_map _)] at this
          exact this)
        have ze7 : w.heap.size + 1 < w6.heap.size := by omega
        have gtne : ¬ gt = w6.heap.size := by omega
        have gt2 : ¬ gt = w.heap.size + 1 := by omega
        have HRN := Lib.hid hrn
        clear ob ob0 hL htq hrq hrn hrv a6 a60 rX hgt hgb gtl
        go_wp2_with fail
        rw [← hX]
        clear hX
        go_loopw [13, 14] (fun u13 u14 wr => ∃ (k : Nat) (h : Hd), u13 = .slice h.a (delK L[q].rules m k).length h.c ∧ u14 = .int .i64 k ∧ k ≤ L[q].rules.length ∧ GrR X0 wr h (delK L[q].rules m k)) (fun _ u14 _ => L[q].rules.length - (intOf u14).toNat)
        case atStart => exact ⟨0, ⟨none, 0, 0⟩, by rw [delK_zero]; rfl, rfl, Nat.zero_le _, by rw [delK_zero]; exact GrR.start X0⟩
        case round =>
          obtain ⟨k, h, rfl, rfl, hk, hg⟩ := hrel
          have HG := Lib.hid hg
          have hdl := delK_len L[q].rules m k
          have hrn := HRN.out
          obtain ⟨⟨⟨q0, q1, qz⟩, ⟨d4, f4, dz⟩⟩, ⟨y0, y1, y2, y3, yz⟩⟩ := KX.out wr hg.1
          clear hg
          by_cases hlt : k < L[q].rules.length
          · obtain ⟨g, hga, hce, kl⟩ := KL.out k hlt
            obtain ⟨x, hx⟩ : ∃ x, L[q].rules[k] = x := ⟨_, rfl⟩
            have HLE := HTK.out k hlt
            rw [hx] at hce kl HLE
            have HX3 := Lib.hid hx
            have HCE := Lib.hid hce
            rw [hga] at d4
            obtain ⟨m0, m1, m2, m3, m4, m5, m6, m7, mz⟩ := kl wr HG.out.1
            have hb0 : (0 : Int) ≤ (k : Int) := by omega
            have hb1 : (k : Int) < (L[q].rules.length : Int) := by omega
            clear hx hce kl hga
            by_cases hc : k = m
            · subst hc
              have h2' : (x.r.name.toList == name.toList) = true := HLE.trans (decide_eq_true rfl)
              have HN := Lib.hid (show delK L[q].rules k (k + 1) = delK L[q].rules k k from delK_at _ _ hlt)
              obtain ⟨lk, hlk⟩ : ∃ lk, delK L[q].rules k k = lk := ⟨_, rfl⟩
              rw [hlk] at HG HN hdl ⊢
              clear hlk HLE
              go_wp2_with fail
              go_roundw
              case rel => exact ⟨k + 1, h, by rw [HN.out], by go_num, by omega, by rw [HN.out]; exact HG.out⟩
              case measure => simp [intOf]; omega
            · have h2' : (x.r.name.toList == name.toList) = false := HLE.trans (decide_eq_false hc)
              have HN := Lib.hid (show delK L[q].rules m (k + 1) = delK L[q].rules m k ++ [x] from by rw [delK_ne _ _ _ hlt hc, HX3.out])
              obtain ⟨lk, hlk⟩ : ∃ lk, delK L[q].rules m k = lk := ⟨_, rfl⟩
              rw [hlk] at HG HN hdl ⊢
              have hq8 : lk.length ≤ 1000000 := by have := hmod.2.1; omega
              clear hlk HLE hc
              go_wp2_with (at_builtin; go_must (refine app_rul rfl _ _ rfl X0.heap.size (.slice h.a lk.length h.c) lk.length (lk.flatMap ORul.cells) rfl (own_aft HG.out.own ((Aft.refl wr).alloc _)) _ x x.h.a x.r.cols.length x.h.c HCE.out rfl ?qh hq8 ?qa ?_); rotate_left 2; intro gg cap' w5 hown5 hgrow; have HG5 := Lib.hid (HG.out.grow ((Aft.refl wr).alloc _) hown5 hgrow); clear hown5 hgrow)
              case qh => first | exact heap_alloc_new _ _ | simp
              case qa => have := HG.out.1.size; simp; omega
              go_roundw
              case rel => exact ⟨k + 1, ⟨some ⟨gg, 0, none⟩, lk.length + 1, cap'⟩, by rw [HN.out]; simp, by go_num, by omega, by rw [HN.out]; exact HG5.out⟩
              case measure => simp [intOf]; omega
          · have hk3 : k = L[q].rules.length := by omega
            subst hk3
            rw [delK_end] at HG ⊢
            have hFF : chgR o (tabR o s n (dropRulF o.tables s n name)) = (⟨o.schemas, o.tables.set q { p with rules := p.rules.eraseIdx m }⟩, 0) := by
              rw [HE.out]
              simp only [if_true]
              rw [HE2.out, HEF.out, if_neg (show ¬ (m : Int) < 0 by omega), KY.out]
              simp
            obtain ⟨A5, n5, c5⟩ := h
            have hv5 := own_slice HG.out.2
            simp only [Hd.v, Value.slice.injEq, true_and, and_true] at hv5
            subst hv5
            have HX9 := Lib.hid (show RowAt (wr.setCell ⟨gt, q * 5 + 4, none⟩ (.slice A5 (L[q].rules.eraseIdx m).length c5)) (w.heap.size + 1) [.slice none 0 0, .slice none 0 0] ∧ ObjP w (chgR o (tabR o s n (dropRulF o.tables s n name))) (.returned (.tuple #[.agg #[.slice hs.a o.schemas.length hs.c, .slice (some ⟨gt, 0, none⟩) o.tables.length ct], .int .i64 0])) (((wr.setCell ⟨gt, q * 5 + 4, none⟩ (.slice A5 (L[q].rules.eraseIdx m).length c5)).setCell ⟨w.heap.size + 1, 0, none⟩ (.slice hs.a o.schemas.length hs.c)).setCell ⟨w.heap.size + 1, 1, none⟩ (.slice (some ⟨gt, 0, none⟩) o.tables.length ct)) from by
              obtain ⟨c1, c2, c4⟩ := KE.out wr ⟨A5, _, c5⟩ HG.out
              refine ⟨c4, ?_⟩
              rw [hFF]
              refine objP_set (W := R) c1 (L := L.set q { L[q] with rules := L[q].rules.eraseIdx m, hr := ⟨A5, _, c5⟩ }) ?_ c2 (by omega) zV (by simp)
              rw [List.map_set, HL.out, ← HTQ.out]
              congr 1
              unfold OTab.t
              simp only
              rw [map_eraseIdx])
            clear hFF
            go_wp2_with fail
            refine bodyPost_ret (results_cell_tmp (v := .agg #[.slice hs.a o.schemas.length hs.c, .slice (some ⟨gt, 0, none⟩) o.tables.length ct]) rfl _ rfl (lvObj_row (setO_row HX9.out.1 rfl _ _))) rfl ?_
            exact HX9.out.2
  · have hk2' : (kd == 2) = false := by simpa using hk2
    have HK2 := Lib.hid hk2'
    clear hk2
    have CO' := Lib.hid (CO.out (by first | trivial | rfl) _ HAV.out)
    clear CO
    have KY := Lib.hid (show ((kd == 2) && us) = false from by rw [HK2.out]; rfl)
    go_wp2_with fail
    refine CO'.out.mono ?_
    rintro e w6 ⟨hs, ht, L, hL, rfl, a6, ob⟩
    have hLL : L.length = o.tables.length := by rw [← hL]; simp
    have hqL : q < L.length := by omega
    obtain ⟨gt, hgt, hgb, _⟩ := own_place ob.tab (by omega)
    obtain ⟨At', nt, ct⟩ := ht
    have hgt' : At' = some ⟨gt, 0, none⟩ := hgt
    subst hgt'
    have htq : L[q].t = p := by
      have : (L.map OTab.t)[q]'(by simpa using hqL) = o.tables[q] := by simp only [hL]
      rw [← HP.out]; simpa using this
    have hrq : L[q].rules.map (·.r) = p.rules := by rw [← htq]; rfl
    have hrn : L[q].rules.length = p.rules.length := by rw [← hrq]; simp
    have hrv : L[q].hr.v = .slice L[q].hr.a L[q].rules.length L[q].hr.c := own_slice (ob.nth hqL).rul
    obtain ⟨X0, hX⟩ : ∃ X, X = w6.alloc (.cells #[.slice hs.a o.schemas.length hs.c, .slice (some ⟨gt, 0, none⟩) o.tables.length ct] 25) := ⟨_, rfl⟩
    have a60 : Aft w6 X0 := by rw [hX]; exact (Aft.refl _).alloc _
    have rX : RowAt X0 w6.heap.size [.slice hs.a o.schemas.length hs.c, .slice (some ⟨gt, 0, none⟩) o.tables.length ct] := by rw [hX]; exact box_row2 (Aft.refl _)
    have zX : X0.heap.size = w6.heap.size + 1 := by rw [hX]; simp
    have HAX := Lib.hid ((HAV.out.trans a6).trans a60)
    have z6 := a6.size
    have zV : w.heap.size + 1 < V.heap.size := (KF.out _ HAV.out).2.2.2.2.2
    have gtl := (ob.row rfl hqL).1
    have ob0 := ob.aft a60
    have HL := Lib.hid hL
    have HRQ := Lib.hid hrq
    have HTQ := Lib.hid htq
    have KE := Lib.hid (show ∀ (wr : World) (h : Hd), GrR X0 wr h (L[q].rules.eraseIdx m) →
        Aft w (wr.setCell ⟨gt, q * 5 + 4, none⟩ h.v) ∧ ObjIn (wr.setCell ⟨gt, q * 5 + 4, none⟩ h.v) V.heap.size hs ⟨some ⟨gt, 0, none⟩, nt, ct⟩ o.schemas (L.set q { L[q] with rules := L[q].rules.eraseIdx m, hr := h }) ∧ RowAt (wr.setCell ⟨gt, q * 5 + 4, none⟩ h.v) (w.heap.size + 1) [.slice none 0 0, .slice none 0 0] from fun wr h g => by
      have zr := g.1.size
      have k67 : Kb (fun _ => False) w6 wr := Kb.of_aft (a60.trans g.1)
      have ks := Kb.set wr gt (q * 5 + 4) h.v
      have ndq := tab_nodup (nd_assoc.1 ob.nd) hqL
      have ndr : (L[q].rules.flatMap (·.h.blk)).Nodup := (List.nodup_append.1 (List.nodup_append.1 ndq).2.1).2.1
      have oend := endR (Y := fun _ => False) (wr := wr) (h := h) (l := L[q].rules.eraseIdx m) ob hqL rfl (fun g e => e.elim) k67 g.2 (show w6.heap.size ≤ X0.heap.size by omega) z6 (fun y hy => .inl (List.mem_of_mem_eraseIdx hy)) ((sublist_flat (fun x : ORul => x.h.blk) (List.eraseIdx_sublist L[q].rules m)).nodup ndr)
      refine ⟨ks.to_aft ((HAW.out.trans HAX.out).trans g.1) (fun g hg e => by have e : g = gt := e; omega), oend, ?_⟩
      exact ks.row ((KB.out X0 HAX.out).aft g.1) (fun e => by have e : w.heap.size + 1 = gt := e; omega))
    have KX := Lib.hid (show ∀ V, Aft X0 V → ((V.cell? ⟨w6.heap.size, 0, none⟩ = some (.slice hs.a o.schemas.length hs.c) ∧ V.cell? ⟨w6.heap.size, 1, none⟩ = some (.slice (some ⟨gt, 0, none⟩) o.tables.length ct) ∧ w6.heap.size < V.heap.size) ∧ (V.cell? ⟨gt, q * 5 + 4, none⟩ = some (.slice L[q].hr.a L[q].rules.length L[q].hr.c) ∧ V.frozen? ⟨gt, q * 5 + 4, none⟩ = false ∧ gt < V.heap.size)) ∧ (V.cell? ⟨w.heap.size + 1, 0, none⟩ = some (.slice none 0 0) ∧ V.cell? ⟨w.heap.size + 1, 1, none⟩ = some (.slice none 0 0) ∧ V.frozen? ⟨w.heap.size + 1, 0, none⟩ = false ∧ V.frozen? ⟨w.heap.size + 1, 1, none⟩ = false ∧ w.heap.size + 1 < V.heap.size) from fun V a => by
      have r9 := rX.aft a
      have ob9 := ob0.aft a
      have d4 : V.cell? ⟨gt, q * 5 + 4, none⟩ = some (.slice L[q].hr.a L[q].rules.length L[q].hr.c) := by rw [← hrv]; exact ob9.cell rfl hqL (by decide)
      have g0 := ob9.row rfl hqL
      exact ⟨⟨⟨r9.cell (j := 0) rfl, r9.cell (j := 1) rfl, r9.1⟩, d4, g0.2.2 4 (by decide), g0.1⟩, (KF.out V (HAX.out.trans a)).2⟩)
    have KL := Lib.hid (show ∀ k (hk : k < L[q].rules.length), ∃ g, L[q].hr.a = some ⟨g, 0, none⟩ ∧ L[q].rules[k].cells = [.string L[q].rules[k].r.name, .int .i64 L[q].rules[k].r.kind, .slice L[q].rules[k].h.a L[q].rules[k].r.cols.length L[q].rules[k].h.c, .int .i64 L[q].rules[k].r.low, .int .i64 L[q].rules[k].r.high, .string L[q].rules[k].r.schema, .string L[q].rules[k].r.table, .string L[q].rules[k].r.key] ∧
        ∀ V, Aft X0 V → (V.cell? ⟨g, k * 8, none⟩ = some (.string L[q].rules[k].r.name) ∧ V.cell? ⟨g, k * 8 + 1, none⟩ = some (.int .i64 L[q].rules[k].r.kind) ∧ V.cell? ⟨g, k * 8 + 2, none⟩ = some (.slice L[q].rules[k].h.a L[q].rules[k].r.cols.length L[q].rules[k].h.c) ∧ V.cell? ⟨g, k * 8 + 3, none⟩ = some (.int .i64 L[q].rules[k].r.low) ∧ V.cell? ⟨g, k * 8 + 4, none⟩ = some (.int .i64 L[q].rules[k].r.high) ∧ V.cell? ⟨g, k * 8 + 5, none⟩ = some (.string L[q].rules[k].r.schema) ∧ V.cell? ⟨g, k * 8 + 6, none⟩ = some (.string L[q].rules[k].r.table) ∧ V.cell? ⟨g, k * 8 + 7, none⟩ = some (.string L[q].rules[k].r.key) ∧ g < V.heap.size) from fun k hk => by
      have tq := (ob0.nth hqL).rul
      obtain ⟨g, hga, hgb2, hgr⟩ := own_place tq (by omega)
      have hce := ORul.cells_of ((ob0.nth hqL).each _ (List.getElem_mem hk))
      refine ⟨g, hga, hce, fun V kv => ?_⟩
      have c := fun (j : Nat) (hj : j < 8) => own_cell tq (f := ORul.cells) ORul.cells_len hga hk (j := j) hj
      rw [hce] at c
      exact ⟨kv.cell_kept (c 0 (by decide)), kv.cell_kept (c 1 (by decide)), kv.cell_kept (c 2 (by decide)), kv.cell_kept (c 3 (by decide)), kv.cell_kept (c 4 (by decide)), kv.cell_kept (c 5 (by decide)), kv.cell_kept (c 6 (by decide)), kv.cell_kept (c 7 (by decide)), Nat.lt_of_lt_of_le hgr.1 kv.size⟩)
    have HTK := Lib.hid (show ∀ k (hk : k < L[q].rules.length), eqS L[q].rules[k].r.name name = decide (k = m) from fun k hk => by
      have := HO0.out.1 k (by omega)
      rw [(List.getElem_of_eq hrq.symm (by omega)).trans (List.getElem_map _)] at this
      exact this)
    have ze7 : w.heap.size + 1 < w6.heap.size := by omega
    have gtne : ¬ gt = w6.heap.size := by omega
    have gt2 : ¬ gt = w.heap.size + 1 := by omega
    have HRN := Lib.hid hrn
    clear ob ob0 hL htq hrq hrn hrv a6 a60 rX hgt hgb gtl
    go_wp2_with fail
    rw [← hX]
    clear hX
    go_loopw [13, 14] (fun u13 u14 wr => ∃ (k : Nat) (h : Hd), u13 = .slice h.a (delK L[q].rules m k).length h.c ∧ u14 = .int .i64 k ∧ k ≤ L[q].rules.length ∧ GrR X0 wr h (delK L[q].rules m k)) (fun _ u14 _ => L[q].rules.length - (intOf u14).toNat)
    case atStart => exact ⟨0, ⟨none, 0, 0⟩, by rw [delK_zero]; rfl, rfl, Nat.zero_le _, by rw [delK_zero]; exact GrR.start X0⟩
    case round =>
      obtain ⟨k, h, rfl, rfl, hk, hg⟩ := hrel
      have HG := Lib.hid hg
      have hdl := delK_len L[q].rules m k
      have hrn := HRN.out
      obtain ⟨⟨⟨q0, q1, qz⟩, ⟨d4, f4, dz⟩⟩, ⟨y0, y1, y2, y3, yz⟩⟩ := KX.out wr hg.1
      clear hg
      by_cases hlt : k < L[q].rules.length
      · obtain ⟨g, hga, hce, kl⟩ := KL.out k hlt
        obtain ⟨x, hx⟩ : ∃ x, L[q].rules[k] = x := ⟨_, rfl⟩
        have HLE := HTK.out k hlt
        rw [hx] at hce kl HLE
        have HX3 := Lib.hid hx
        have HCE := Lib.hid hce
        rw [hga] at d4
        obtain ⟨m0, m1, m2, m3, m4, m5, m6, m7, mz⟩ := kl wr HG.out.1
        have hb0 : (0 : Int) ≤ (k : Int) := by omega
        have hb1 : (k : Int) < (L[q].rules.length : Int) := by omega
        clear hx hce kl hga
        by_cases hc : k = m
        · subst hc
          have h2' : (x.r.name.toList == name.toList) = true := HLE.trans (decide_eq_true rfl)
          have HN := Lib.hid (show delK L[q].rules k (k + 1) = delK L[q].rules k k from delK_at _ _ hlt)
          obtain ⟨lk, hlk⟩ : ∃ lk, delK L[q].rules k k = lk := ⟨_, rfl⟩
          rw [hlk] at HG HN hdl ⊢
          clear hlk HLE
          go_wp2_with fail
          go_roundw
          case rel => exact ⟨k + 1, h, by rw [HN.out], by go_num, by omega, by rw [HN.out]; exact HG.out⟩
          case measure => simp [intOf]; omega
        · have h2' : (x.r.name.toList == name.toList) = false := HLE.trans (decide_eq_false hc)
          have HN := Lib.hid (show delK L[q].rules m (k + 1) = delK L[q].rules m k ++ [x] from by rw [delK_ne _ _ _ hlt hc, HX3.out])
          obtain ⟨lk, hlk⟩ : ∃ lk, delK L[q].rules m k = lk := ⟨_, rfl⟩
          rw [hlk] at HG HN hdl ⊢
          have hq8 : lk.length ≤ 1000000 := by have := hmod.2.1; omega
          clear hlk HLE hc
          go_wp2_with (at_builtin; go_must (refine app_rul rfl _ _ rfl X0.heap.size (.slice h.a lk.length h.c) lk.length (lk.flatMap ORul.cells) rfl (own_aft HG.out.own ((Aft.refl wr).alloc _)) _ x x.h.a x.r.cols.length x.h.c HCE.out rfl ?qh hq8 ?qa ?_); rotate_left 2; intro gg cap' w5 hown5 hgrow; have HG5 := Lib.hid (HG.out.grow ((Aft.refl wr).alloc _) hown5 hgrow); clear hown5 hgrow)
          case qh => first | exact heap_alloc_new _ _ | simp
          case qa => have := HG.out.1.size; simp; omega
          go_roundw
          case rel => exact ⟨k + 1, ⟨some ⟨gg, 0, none⟩, lk.length + 1, cap'⟩, by rw [HN.out]; simp, by go_num, by omega, by rw [HN.out]; exact HG5.out⟩
          case measure => simp [intOf]; omega
      · have hk3 : k = L[q].rules.length := by omega
        subst hk3
        rw [delK_end] at HG ⊢
        have hFF : chgR o (tabR o s n (dropRulF o.tables s n name)) = (⟨o.schemas, o.tables.set q { p with rules := p.rules.eraseIdx m }⟩, 0) := by
          rw [HE.out]
          simp only [if_true]
          rw [HE2.out, HEF.out, if_neg (show ¬ (m : Int) < 0 by omega), KY.out]
          simp
        obtain ⟨A5, n5, c5⟩ := h
        have hv5 := own_slice HG.out.2
        simp only [Hd.v, Value.slice.injEq, true_and, and_true] at hv5
        subst hv5
        have HX9 := Lib.hid (show RowAt (wr.setCell ⟨gt, q * 5 + 4, none⟩ (.slice A5 (L[q].rules.eraseIdx m).length c5)) (w.heap.size + 1) [.slice none 0 0, .slice none 0 0] ∧ ObjP w (chgR o (tabR o s n (dropRulF o.tables s n name))) (.returned (.tuple #[.agg #[.slice hs.a o.schemas.length hs.c, .slice (some ⟨gt, 0, none⟩) o.tables.length ct], .int .i64 0])) (((wr.setCell ⟨gt, q * 5 + 4, none⟩ (.slice A5 (L[q].rules.eraseIdx m).length c5)).setCell ⟨w.heap.size + 1, 0, none⟩ (.slice hs.a o.schemas.length hs.c)).setCell ⟨w.heap.size + 1, 1, none⟩ (.slice (some ⟨gt, 0, none⟩) o.tables.length ct)) from by
          obtain ⟨c1, c2, c4⟩ := KE.out wr ⟨A5, _, c5⟩ HG.out
          refine ⟨c4, ?_⟩
          rw [hFF]
          refine objP_set (W := V) c1 (L := L.set q { L[q] with rules := L[q].rules.eraseIdx m, hr := ⟨A5, _, c5⟩ }) ?_ c2 (by omega) zV (by simp)
          rw [List.map_set, HL.out, ← HTQ.out]
          congr 1
          unfold OTab.t
          simp only
          rw [map_eraseIdx])
        clear hFF
        go_wp2_with fail
        refine bodyPost_ret (results_cell_tmp (v := .agg #[.slice hs.a o.schemas.length hs.c, .slice (some ⟨gt, 0, none⟩) o.tables.length ct]) rfl _ rfl (lvObj_row (setO_row HX9.out.1 rfl _ _))) rfl ?_
        exact HX9.out.2
end Go.Proofs.YticjnndhpfdajaaGreat
/- The law ObjectsRules. -/
namespace Go.Proofs.YticjnndhpfdajaaGreat
open Go.RowKit Go.Deep
set_option maxRecDepth 100000
set_option linter.unusedVariables false
set_option maxHeartbeats 16000000 in
theorem law_rules (o : Objs) (s n : ByteArray) (r : Rul) (Ac : Option Addr) (cc : Nat) (As : Option Addr) (caps : Nat) (At : Option Addr) (capt : Nat) (w : World) (hsch : SlAt w 2 SchR As caps o.schemas) (htab : SlAt w 5 TabR At capt o.tables) (hns : SlAt w 1 StrR Ac cc r.cols) (s1 : Small r.name.size) (s2 : Small r.schema.size) (s3 : Small r.table.size) (s4 : Small r.key.size) :
    Calls Tryz.prog 3 #[.agg #[.slice As o.schemas.length caps, .slice At o.tables.length capt], .string s, .string n, .agg #[.string r.name, .int .i64 r.kind, .slice Ac r.cols.length cc, .int .i64 r.low, .int .i64 r.high, .string r.schema, .string r.table, .string r.key]] w
      fun e w' => e = .returned (.bool true) ∧ Aft w w' := by
  have sm : SmO o := ⟨sm_schs hsch, sm_tabs htab⟩
  have CL := Lib.hid (show ∀ w', Aft w w' → _ from fun w' a => large_mod o As caps At capt w' (schs_aft a hsch) (tabs_aft a htab))
  obtain ⟨⟨X, g⟩, hXr⟩ : ∃ fr, chgR o (tabR o s n (addRulF o.tables r)) = fr := ⟨_, rfl⟩
  obtain ⟨⟨Y, h⟩, hYr⟩ : ∃ fr, chgR o (tabR o s n (dropRulF o.tables s n r.name)) = fr := ⟨_, rfl⟩
  have HSX := Lib.hid (show SmO X by have : SmO (chgR o (tabR o s n (addRulF o.tables r))).1 := smO_chgX fun _ => smO_tabX sm fun t ht hz => smT_addRul (sm.2.2 t ht) ⟨(sm_names hns).1, (sm_names hns).2, s1, s2, s3, s4⟩ hz; rw [hXr] at this; exact this)
  have HSY := Lib.hid (show SmO Y by have : SmO (chgR o (tabR o s n (dropRulF o.tables s n r.name))).1 := smO_chgX fun _ => smO_tabX sm fun t ht _ => smT_dropRul (sm.2.2 t ht); rw [hYr] at this; exact this)
  have C1 := Lib.hid (show ∀ w', Aft w w' → Calls Tryz.prog 16 #[.agg #[.slice As o.schemas.length caps, .slice At o.tables.length capt], .string s, .string n, .agg #[.string r.name, .int .i64 r.kind, .slice Ac r.cols.length cc, .int .i64 r.low, .int .i64 r.high, .string r.schema, .string r.table, .string r.key]] w' (ObjP w' (X, g)) from fun w' a => hXr ▸ addRule_in o As caps At capt r Ac cc s n w' (schs_aft a hsch) (tabs_aft a htab) (strs_aft a hns) s1 s2 s3 s4)
  have D1 := Lib.hid (show ∀ (A : Option Addr) (ca : Nat) (A2 : Option Addr) (ca2 : Nat) (w' : World), Aft w w' → SlAt w' 2 SchR A ca o.schemas → SlAt w' 5 TabR A2 ca2 o.tables → Calls Tryz.prog 17 #[.agg #[.slice A o.schemas.length ca, .slice A2 o.tables.length ca2], .string s, .string n, .agg #[.string r.name, .int .i64 r.kind, .slice Ac r.cols.length cc, .int .i64 r.low, .int .i64 r.high, .string r.schema, .string r.table, .string r.key]] w' (ObjP w' (X, g)) from fun A ca A2 ca2 w' a h1 h2 => hXr ▸ rAddRule_in o A ca A2 ca2 r Ac cc s n w' h1 h2 (strs_aft a hns) s1 s2 s3 s4)
  have C2 := Lib.hid (show ∀ w', Aft w w' → Calls Tryz.prog 18 #[.agg #[.slice As o.schemas.length caps, .slice At o.tables.length capt], .string s, .string n, .string r.name] w' (ObjP w' (Y, h)) from fun w' a => hYr ▸ dropRule_in o As caps At capt s n r.name w' (schs_aft a hsch) (tabs_aft a htab))
  have D2 := Lib.hid (show ∀ (A : Option Addr) (ca : Nat) (A2 : Option Addr) (ca2 : Nat) (w' : World), Aft w w' → SlAt w' 2 SchR A ca o.schemas → SlAt w' 5 TabR A2 ca2 o.tables → Calls Tryz.prog 19 #[.agg #[.slice A o.schemas.length ca, .slice A2 o.tables.length ca2], .string s, .string n, .string r.name] w' (ObjP w' (Y, h)) from fun A ca A2 ca2 w' a h1 h2 => hYr ▸ rDropRule_in o A ca A2 ca2 s n r.name w' h1 h2)
  have HS := Lib.hid hsch
  have HT := Lib.hid htab
  obtain ⟨W, hW⟩ : ∃ W, W = (w.alloc (.cells #[.slice As o.schemas.length caps, .slice At o.tables.length capt] 25)).alloc (.cells #[.string r.name, .int .i64 r.kind, .slice Ac r.cols.length cc, .int .i64 r.low, .int .i64 r.high, .string r.schema, .string r.table, .string r.key] 29) := ⟨_, rfl⟩
  have aW : Aft w W := by rw [hW]; exact ((Aft.refl w).alloc _).alloc _
  have HRO := Lib.hid (show RowAt W w.heap.size [.slice As o.schemas.length caps, .slice At o.tables.length capt] by rw [hW]; exact (box_row2 (Aft.refl _)).aft ((Aft.refl _).alloc _))
  have HR0 := Lib.hid (show RowAt W (w.heap.size + 1) [.string r.name, .int .i64 r.kind, .slice Ac r.cols.length cc, .int .i64 r.low, .int .i64 r.high, .string r.schema, .string r.table, .string r.key] by
    rw [hW]
    have := (box_row2 (w := w.alloc (.cells #[.slice As o.schemas.length caps, .slice At o.tables.length capt] 25)) (c := [.string r.name, .int .i64 r.kind, .slice Ac r.cols.length cc, .int .i64 r.low, .int .i64 r.high, .string r.schema, .string r.table, .string r.key]) (t := 29) (Aft.refl _)).aft (Aft.refl _)
    simpa using this)
  have l1 : w.heap.size < w.heap.size + 1 := by omega
  have l2 : w.heap.size < w.heap.size + 1 + 1 := by omega
  have l3 : w.heap.size < w.heap.size + 1 + 1 + 1 := by omega
  have HAW := Lib.hid aW
  clear sm hsch htab hXr hYr aW hns s1 s2 s3 s4
  go_enter Tryz.func3, Tryz.ntmps3
  go_wp2_with fail
  rw [← hW]
  clear hW
  refine (CL.out W HAW.out).mono ?_
  rintro e w1 ⟨b, rfl, hmod, a1⟩
  have HA1 := Lib.hid a1
  clear a1 CL
  cases b
  case true =>
    go_wp2_with fail
    go_ret
    exact ⟨rfl, HAW.out.trans HA1.out⟩
  have HM := Lib.hid (hmod rfl)
  clear hmod
  have q00 := (HR0.out.aft HA1.out).cell (j := 0) rfl
  have q01 := (HR0.out.aft HA1.out).cell (j := 1) rfl
  have q02 := (HR0.out.aft HA1.out).cell (j := 2) rfl
  have q03 := (HR0.out.aft HA1.out).cell (j := 3) rfl
  have q04 := (HR0.out.aft HA1.out).cell (j := 4) rfl
  have q05 := (HR0.out.aft HA1.out).cell (j := 5) rfl
  have q06 := (HR0.out.aft HA1.out).cell (j := 6) rfl
  have q07 := (HR0.out.aft HA1.out).cell (j := 7) rfl
  have q0z := (HR0.out.aft HA1.out).1
  have c0 := (HRO.out.aft HA1.out).cell (j := 0) rfl
  have c1 := (HRO.out.aft HA1.out).cell (j := 1) rfl
  have cz := (HRO.out.aft HA1.out).1
  by_cases m1 : 3000 < r.cols.length
  · have m1' : (3000 : Int) < (r.cols.length : Int) := by omega
    go_wp2_with fail
    go_ret
    exact ⟨rfl, HAW.out.trans HA1.out⟩
  have m1' : ¬ (3000 : Int) < (r.cols.length : Int) := by omega
  clear m1
  go_wp2_with fail
  refine (rOwn_in o As caps At capt w1 (schs_aft (HAW.out.trans HA1.out) HS.out) (tabs_aft (HAW.out.trans HA1.out) HT.out) HM.out).mono ?_
  rintro e w2 ⟨hs, ht, L, hL, rfl, a2, ob⟩
  have e1 : objOf o.schemas L = o := by unfold objOf; rw [hL]
  have HF1 := Lib.hid (ob.schs (by rw [e1]; exact ⟨sm_schs HS.out, sm_tabs HT.out⟩))
  have HF2 := Lib.hid (show SlAt w2 5 TabR ht.a ht.c o.tables by have := ob.tabs (by rw [e1]; exact ⟨sm_schs HS.out, sm_tabs HT.out⟩); rw [hL] at this; exact this)
  obtain ⟨hsa, hsn, hsc⟩ := hs
  obtain ⟨hta, htn, htc⟩ := ht
  obtain ⟨W2, hW2⟩ : ∃ W2, W2 = w2.alloc (.cells #[.slice hsa o.schemas.length hsc, .slice hta o.tables.length htc] 25) := ⟨_, rfl⟩
  have aW2 : Aft w2 W2 := by rw [hW2]; exact (Aft.refl _).alloc _
  have HBO := Lib.hid (show RowAt W2 w2.heap.size [.slice hsa o.schemas.length hsc, .slice hta o.tables.length htc] by rw [hW2]; exact box_row2 (Aft.refl _))
  have HA2 := Lib.hid (HA1.out.trans (a2.trans aW2))
  have HG1 := Lib.hid (schs_aft aW2 HF1.out)
  have HG2 := Lib.hid (tabs_aft aW2 HF2.out)
  have HAw2 := Lib.hid (HA1.out.trans a2)
  have q00 := (HR0.out.aft HAw2.out).cell (j := 0) rfl
  have q01 := (HR0.out.aft HAw2.out).cell (j := 1) rfl
  have q02 := (HR0.out.aft HAw2.out).cell (j := 2) rfl
  have q03 := (HR0.out.aft HAw2.out).cell (j := 3) rfl
  have q04 := (HR0.out.aft HAw2.out).cell (j := 4) rfl
  have q05 := (HR0.out.aft HAw2.out).cell (j := 5) rfl
  have q06 := (HR0.out.aft HAw2.out).cell (j := 6) rfl
  have q07 := (HR0.out.aft HAw2.out).cell (j := 7) rfl
  have q0z := (HR0.out.aft HAw2.out).1
  have c0 := (HRO.out.aft HAw2.out).cell (j := 0) rfl
  have c1 := (HRO.out.aft HAw2.out).cell (j := 1) rfl
  have cz := (HRO.out.aft HAw2.out).1
  clear a2 ob hL e1 HF1 HF2 aW2
  have cp : w.heap.size < w2.heap.size + 1 := by omega
  have q0p : w.heap.size + 1 < w2.heap.size + 1 := by omega
  go_wp2_with fail
  rw [← hW2]
  clear hW2
  refine (C1.out W2 (HAW.out.trans HA2.out)).mono ?_
  rintro e w3 ⟨hs3, ht3, L3, hL3, rfl, a3, ob3⟩
  (try dsimp only)
  obtain ⟨W3, hW3⟩ : ∃ W3, W3 = w3.alloc (.cells #[.slice hs3.a X.schemas.length hs3.c, .slice ht3.a X.tables.length ht3.c] 25) := ⟨_, rfl⟩
  have aW3 : Aft w3 W3 := by rw [hW3]; exact (Aft.refl _).alloc _
  have HB3 := Lib.hid (show RowAt W3 w3.heap.size [.slice hs3.a X.schemas.length hs3.c, .slice ht3.a X.tables.length ht3.c] by rw [hW3]; exact box_row2 (Aft.refl _))
  have HA3 := Lib.hid (a3.trans aW3)
  have HO3 := Lib.hid (ob3.aft aW3)
  have HL3 := Lib.hid (show L3.map OTab.t = X.tables from hL3)
  have HLT3 := Lib.hid ob3.lt
  have HZ3 := Lib.hid aW3.size
  have HAA3 := Lib.hid ((Aft.refl W2).trans a3)
  have bo := HBO.out.aft HAA3.out
  have o0 := bo.cell (j := 0) rfl
  have o1 := bo.cell (j := 1) rfl
  have oz := bo.1
  have oz' : w2.heap.size < w3.heap.size + 1 := by omega
  have HAC := Lib.hid (HA2.out.trans HAA3.out)
  have q00 := (HR0.out.aft HAC.out).cell (j := 0) rfl
  have q01 := (HR0.out.aft HAC.out).cell (j := 1) rfl
  have q02 := (HR0.out.aft HAC.out).cell (j := 2) rfl
  have q03 := (HR0.out.aft HAC.out).cell (j := 3) rfl
  have q04 := (HR0.out.aft HAC.out).cell (j := 4) rfl
  have q05 := (HR0.out.aft HAC.out).cell (j := 5) rfl
  have q06 := (HR0.out.aft HAC.out).cell (j := 6) rfl
  have q07 := (HR0.out.aft HAC.out).cell (j := 7) rfl
  have q0z := (HR0.out.aft HAC.out).1
  have c0 := (HRO.out.aft HAC.out).cell (j := 0) rfl
  have c1 := (HRO.out.aft HAC.out).cell (j := 1) rfl
  have cz := (HRO.out.aft HAC.out).1
  have cp : w.heap.size < w3.heap.size + 1 := by omega
  have q0p : w.heap.size + 1 < w3.heap.size + 1 := by omega
  clear a3 aW3 ob3 hL3 bo
  go_wp2_with fail
  rw [← hW3]
  clear hW3
  refine (D1.out _ _ _ _ W3 (HAW.out.trans (HA2.out.trans HA3.out)) (schs_aft HA3.out HG1.out) (tabs_aft HA3.out HG2.out)).mono ?_
  rintro e w4 ⟨hs4, ht4, L4, hL4, rfl, a4, ob4⟩
  (try dsimp only)
  obtain ⟨W4, hW4⟩ : ∃ W4, W4 = w4.alloc (.cells #[.slice hs4.a X.schemas.length hs4.c, .slice ht4.a X.tables.length ht4.c] 25) := ⟨_, rfl⟩
  have aW4 : Aft w4 W4 := by rw [hW4]; exact (Aft.refl _).alloc _
  have HB4 := Lib.hid (show RowAt W4 w4.heap.size [.slice hs4.a X.schemas.length hs4.c, .slice ht4.a X.tables.length ht4.c] by rw [hW4]; exact box_row2 (Aft.refl _))
  have HA4 := Lib.hid (a4.trans aW4)
  have HO4 := Lib.hid (ob4.aft aW4)
  have HL4 := Lib.hid (show L4.map OTab.t = X.tables from hL4)
  have HLT4 := Lib.hid ob4.lt
  have HZ4 := Lib.hid aW4.size
  have HAA4 := Lib.hid (HA3.out.trans a4)
  clear HAC
  have HAC := Lib.hid (HA2.out.trans HAA4.out)
  have q00 := (HR0.out.aft HAC.out).cell (j := 0) rfl
  have q01 := (HR0.out.aft HAC.out).cell (j := 1) rfl
  have q02 := (HR0.out.aft HAC.out).cell (j := 2) rfl
  have q03 := (HR0.out.aft HAC.out).cell (j := 3) rfl
  have q04 := (HR0.out.aft HAC.out).cell (j := 4) rfl
  have q05 := (HR0.out.aft HAC.out).cell (j := 5) rfl
  have q06 := (HR0.out.aft HAC.out).cell (j := 6) rfl
  have q07 := (HR0.out.aft HAC.out).cell (j := 7) rfl
  have q0z := (HR0.out.aft HAC.out).1
  have c0 := (HRO.out.aft HAC.out).cell (j := 0) rfl
  have c1 := (HRO.out.aft HAC.out).cell (j := 1) rfl
  have cz := (HRO.out.aft HAC.out).1
  have cp : w.heap.size < w4.heap.size + 1 := by omega
  have q0p : w.heap.size + 1 < w4.heap.size + 1 := by omega
  clear a4 aW4 ob4 hL4
  go_wp2_with fail
  rw [← hW4]
  clear hW4
  refine (C2.out W4 (HAW.out.trans (HA2.out.trans (HA3.out.trans HA4.out)))).mono ?_
  rintro e w5 ⟨hs5, ht5, L5, hL5, rfl, a5, ob5⟩
  (try dsimp only)
  obtain ⟨W5, hW5⟩ : ∃ W5, W5 = w5.alloc (.cells #[.slice hs5.a Y.schemas.length hs5.c, .slice ht5.a Y.tables.length ht5.c] 25) := ⟨_, rfl⟩
  have aW5 : Aft w5 W5 := by rw [hW5]; exact (Aft.refl _).alloc _
  have HB5 := Lib.hid (show RowAt W5 w5.heap.size [.slice hs5.a Y.schemas.length hs5.c, .slice ht5.a Y.tables.length ht5.c] by rw [hW5]; exact box_row2 (Aft.refl _))
  have HA5 := Lib.hid (a5.trans aW5)
  have HO5 := Lib.hid (ob5.aft aW5)
  have HL5 := Lib.hid (show L5.map OTab.t = Y.tables from hL5)
  have HLT5 := Lib.hid ob5.lt
  have HZ5 := Lib.hid aW5.size
  have HAA5 := Lib.hid ((HA3.out.trans HA4.out).trans a5)
  have bo := HBO.out.aft HAA5.out
  have o0 := bo.cell (j := 0) rfl
  have o1 := bo.cell (j := 1) rfl
  have oz := bo.1
  have oz' : w2.heap.size < w5.heap.size + 1 := by omega
  clear HAC
  have HAC := Lib.hid (HA2.out.trans HAA5.out)
  have q00 := (HR0.out.aft HAC.out).cell (j := 0) rfl
  have q01 := (HR0.out.aft HAC.out).cell (j := 1) rfl
  have q02 := (HR0.out.aft HAC.out).cell (j := 2) rfl
  have q03 := (HR0.out.aft HAC.out).cell (j := 3) rfl
  have q04 := (HR0.out.aft HAC.out).cell (j := 4) rfl
  have q05 := (HR0.out.aft HAC.out).cell (j := 5) rfl
  have q06 := (HR0.out.aft HAC.out).cell (j := 6) rfl
  have q07 := (HR0.out.aft HAC.out).cell (j := 7) rfl
  have q0z := (HR0.out.aft HAC.out).1
  have c0 := (HRO.out.aft HAC.out).cell (j := 0) rfl
  have c1 := (HRO.out.aft HAC.out).cell (j := 1) rfl
  have cz := (HRO.out.aft HAC.out).1
  have cp : w.heap.size < w5.heap.size + 1 := by omega
  have q0p : w.heap.size + 1 < w5.heap.size + 1 := by omega
  have HZW45 := Lib.hid a5.size
  clear a5 aW5 ob5 hL5 bo
  go_wp2_with fail
  rw [← hW5]
  clear hW5
  refine (D2.out _ _ _ _ W5 (HAW.out.trans (HA2.out.trans (HA3.out.trans (HA4.out.trans HA5.out)))) (schs_aft (HA3.out.trans (HA4.out.trans HA5.out)) HG1.out) (tabs_aft (HA3.out.trans (HA4.out.trans HA5.out)) HG2.out)).mono ?_
  rintro e w6 ⟨hs6, ht6, L6, hL6, rfl, a6, ob6⟩
  (try dsimp only)
  obtain ⟨W6, hW6⟩ : ∃ W6, W6 = w6.alloc (.cells #[.slice hs6.a Y.schemas.length hs6.c, .slice ht6.a Y.tables.length ht6.c] 25) := ⟨_, rfl⟩
  have aW6 : Aft w6 W6 := by rw [hW6]; exact (Aft.refl _).alloc _
  have HB6 := Lib.hid (show RowAt W6 w6.heap.size [.slice hs6.a Y.schemas.length hs6.c, .slice ht6.a Y.tables.length ht6.c] by rw [hW6]; exact box_row2 (Aft.refl _))
  have HA6 := Lib.hid (a6.trans aW6)
  have HO6 := Lib.hid (ob6.aft aW6)
  have HL6 := Lib.hid (show L6.map OTab.t = Y.tables from hL6)
  have HLT6 := Lib.hid ob6.lt
  have HZ6 := Lib.hid aW6.size
  have HAA6 := Lib.hid ((HA3.out.trans (HA4.out.trans HA5.out)).trans a6)
  have HZW56 := Lib.hid (show W5.heap.size ≤ w6.heap.size from a6.size)
  clear a6 aW6 ob6 hL6 HAC
  go_wp2_with fail
  rw [← hW6]
  clear hW6
  refine (rules_any W6).mono ?_
  rintro e w7 ⟨rfl, a7⟩
  have A67 := HA6.out.trans a7
  have A57 := HA5.out.trans A67
  have A47 := HA4.out.trans A57
  have A37 := HA3.out.trans A47
  have O3 := HO3.out.aft A47
  have O4 := HO4.out.aft A57
  have O5 := HO5.out.aft A67
  have O6 := HO6.out.aft a7
  have zz3 : W2.heap.size ≤ w3.heap.size := HAA3.out.size
  have zz4 : w3.heap.size ≤ W3.heap.size := HZ3.out
  have zz5 : W3.heap.size ≤ W4.heap.size := HA4.out.size
  have zz6 : W4.heap.size ≤ W5.heap.size := HA5.out.size
  have zz7 : w5.heap.size ≤ W5.heap.size := HZ5.out
  have zz8 : W5.heap.size ≤ w7.heap.size := A67.size
  have zz9 : W4.heap.size ≤ w5.heap.size := HZW45.out
  have HT1 := Lib.hid (told2_in (X, g) o As caps At capt hsa hsc hta htc hs3 ht3 hs4 ht4 L3 L4 W2 w7 W2.heap.size w3.heap.size W3.heap.size HSX.out HL3.out O3 (fun g hg => (HLT3.out g hg).2) (by omega) HL4.out O4 (Nat.le_refl _) A37 (schs_aft (HAW.out.trans HA2.out) HS.out) (tabs_aft (HAW.out.trans HA2.out) HT.out) HG1.out HG2.out)
  have b3 := HB3.out.aft A47
  have b4 := HB4.out.aft A57
  have b5 := HB5.out.aft A67
  have b6 := HB6.out.aft a7
  have bo := HBO.out.aft A37
  have br := HRO.out.aft (HA2.out.trans A37)
  have HALL := Lib.hid (show ∀ v : World, Kb (fun k => W2.heap.size ≤ k ∧ k < w3.heap.size) w7 v → Aft W2 v → RowAt v w5.heap.size [.slice hs5.a Y.schemas.length hs5.c, .slice ht5.a Y.tables.length ht5.c] ∧ RowAt v w6.heap.size [.slice hs6.a Y.schemas.length hs6.c, .slice ht6.a Y.tables.length ht6.c] ∧ RowAt v w2.heap.size [.slice hsa o.schemas.length hsc, .slice hta o.tables.length htc] ∧ RowAt v w.heap.size [.slice As o.schemas.length caps, .slice At o.tables.length capt] ∧ Calls Tryz.prog 21 #[.agg #[.slice hs5.a Y.schemas.length hs5.c, .slice ht5.a Y.tables.length ht5.c], .int .i64 h, .agg #[.slice hs6.a Y.schemas.length hs6.c, .slice ht6.a Y.tables.length ht6.c], .int .i64 h, .agg #[.slice As o.schemas.length caps, .slice At o.tables.length capt], .agg #[.slice hsa o.schemas.length hsc, .slice hta o.tables.length htc]] v fun e' w' => e' = .returned (.bool true) ∧ Kb (fun k => W4.heap.size ≤ k ∧ k < w5.heap.size) v w' ∧ Aft W2 w' from fun v kb av => by
    have O5v := O5.kb kb (fun g hg hk => by have := (O5.lt g hg).1; omega)
    have O6v := O6.kb kb (fun g hg hk => by have := (O6.lt g hg).1; omega)
    refine ⟨kb.row b5 (by omega), kb.row b6 (by have := HZW56.out; omega), HBO.out.aft av, HRO.out.aft (HA2.out.trans av), ?_⟩
    exact told2_in (Y, h) o As caps At capt hsa hsc hta htc hs5 ht5 hs6 ht6 L5 L6 W2 v W4.heap.size w5.heap.size W5.heap.size HSY.out HL5.out O5v (fun g hg => (HLT5.out g hg).2) (by have := kb.size; omega) HL6.out O6v (by omega) av (schs_aft (HAW.out.trans HA2.out) HS.out) (tabs_aft (HAW.out.trans HA2.out) HT.out) HG1.out HG2.out)
  have p0 := b3.cell (j := 0) rfl
  have p1 := b3.cell (j := 1) rfl
  have p2 := b3.1
  have p3 := b4.cell (j := 0) rfl
  have p4 := b4.cell (j := 1) rfl
  have p5 := b4.1
  have o0 := bo.cell (j := 0) rfl
  have o1 := bo.cell (j := 1) rfl
  have oz := bo.1
  have c0 := br.cell (j := 0) rfl
  have c1 := br.cell (j := 1) rfl
  have cz := br.1
  clear a7 A67 A57 A47 A37 O3 O4 O5 O6 b3 b4 b5 b6 bo br
  go_wp2_with fail
  refine HT1.out.mono ?_
  rintro e w8 ⟨rfl, k8, a8⟩
  obtain ⟨r5, r6, ro, rr, ct⟩ := HALL.out w8 k8 a8
  have CT := Lib.hid ct
  have p0 := r5.cell (j := 0) rfl
  have p1 := r5.cell (j := 1) rfl
  have p2 := r5.1
  have p3 := r6.cell (j := 0) rfl
  have p4 := r6.cell (j := 1) rfl
  have p5 := r6.1
  have o0 := ro.cell (j := 0) rfl
  have o1 := ro.cell (j := 1) rfl
  have oz := ro.1
  have c0 := rr.cell (j := 0) rfl
  have c1 := rr.cell (j := 1) rfl
  have cz := rr.1
  clear k8 a8 r5 r6 ro rr ct HT1 HALL
  go_wp2_with fail
  refine CT.out.mono ?_
  rintro e w9 ⟨rfl, _, a9⟩
  have HA9 := Lib.hid (HAW.out.trans (HA2.out.trans a9))
  clear a9 CT
  go_wp2_with fail
  go_ret
  exact ⟨rfl, HA9.out⟩
end Go.Proofs.YticjnndhpfdajaaGreat
/- From a walk of a law (it returns true and keeps what was there, whatever its arguments read as) to the law's row. -/
namespace Go.Proofs.YticjnndhpfdajaaGreat
open Go.ChangeShapes Go.WideShapes Go.ChangeAt Go.RowKit

section
variable {H : Type} {enc : TypeId × Value → H} {P : Program} {w : World}

/-- an argument that reads -/
def RdV (enc : TypeId × Value → H) (P : Program) (w : World) (t : TypeId) (v : Value) : Prop :=
  Rd enc P w t v.cells.toList ∧ ∃ base, Value.okWide P w .any base t v

theorem RdV.struct {t : TypeId} {fs : Array Field} {v : Value} (ht : P.underlying t = some (.struct fs)) (h : RdV enc P w t v) : ∃ cs : List Value, v = .agg cs.toArray ∧ Rd enc P w t cs := by
  obtain ⟨h1, base, h2⟩ := h
  obtain ⟨cs, rfl, _⟩ := okWide_struct ht h2
  exact ⟨cs.toList, by simp, h1⟩
theorem cell_of_cells {v x : Value} (h : v.cells.toList = [x]) (hn : ∀ cs, v ≠ .agg cs) : v = x := by
  cases v <;> simp [Value.cells] at h <;> first | exact h | exact absurd rfl (hn _)
theorem okWide_not_agg {t : TypeId} {v : Value} {base : Nat} {d : TypeDesc} (ht : P.underlying t = some d) (hd : (∀ fs, d ≠ .struct fs) ∧ (∀ n e, d ≠ .array n e)) (h : Value.okWide P w .any base t v) : ∀ cs, v ≠ .agg cs := by
  intro cs e
  subst e
  unfold Value.okWide at h
  rw [ht] at h
  cases d <;> simp_all [Cell.okWide, Cell.ok]
theorem RdV.string {t : TypeId} {v : Value} (ht : P.underlying t = some .string) (h : RdV enc P w t v) : ∃ s : ByteArray, v = .string s ∧ Small s.size := by
  obtain ⟨h1, base, h2⟩ := h
  obtain ⟨s, hc, hs⟩ := h1.string ht
  exact ⟨s, cell_of_cells hc (okWide_not_agg ht (by simp) h2), hs⟩
theorem RdV.int {t : TypeId} {k : IntKind} {v : Value} (ht : P.underlying t = some (.int k)) (h : RdV enc P w t v) : ∃ n : Int, v = .int k n ∧ (Lit.int k n).wf = true := by
  obtain ⟨h1, base, h2⟩ := h
  obtain ⟨s, hc, hs⟩ := h1.int ht
  exact ⟨s, cell_of_cells hc (okWide_not_agg ht (by simp) h2), hs⟩
theorem RdV.slice {t e : TypeId} {v : Value} (ht : P.underlying t = some (.slice e)) (h : RdV enc P w t v) : Rd enc P w t [v] := by
  obtain ⟨h1, base, h2⟩ := h
  have hn := okWide_not_agg ht (by simp) h2
  have : v.cells.toList = [v] := by cases v <;> first | rfl | exact absurd rfl (hn _)
  rwa [this] at h1

theorem trodAll_rd : ∀ {ts : List TypeId} {vs : List Value} {ds : List (DataW H)} {p : List MemPlace}, DataW.TrodAll enc P w 0 (fun _ => true) true ts vs ds p → (∀ n ∈ DataW.weightsEach P ts ds, n ≤ 140737488351232) →
    vs.length = ts.length ∧ ds.length = ts.length ∧ ∀ (j : Nat) (t : TypeId) (v : Value), ts[j]? = some t → vs[j]? = some v → Rd enc P w t v.cells.toList
  | [], vs, ds, p, h, _ => by
    cases vs <;> cases ds <;> simp [DataW.TrodAll] at h
    exact ⟨rfl, rfl, fun j t v ht => by simp at ht⟩
  | t :: ts, vs, ds, p, h, hw => by
    obtain ⟨v, vs', d, ds', p1, q1, rfl, rfl, rfl, ⟨fuel, h1⟩, h2⟩ := trodAll_cons h
    simp only [DataW.weightsEach, List.mem_append] at hw
    obtain ⟨l1, l2, ih⟩ := trodAll_rd h2 (fun n hn => hw n (.inr hn))
    refine ⟨by simp [l1], by simp [l2], fun j t' v' ht hv => ?_⟩
    cases j with
    | zero =>
      simp at ht hv
      subst ht; subst hv
      exact ⟨fuel, _, h1, fun n hn => hw n (.inl hn)⟩
    | succ j => exact ih j t' v' (by simpa using ht) (by simpa using hv)
theorem trodAll_below {W W' : World} (hl : laidOutB P = true) (hb : Below W.heap.size W W') : ∀ {ts : List TypeId} {vs : List Value} {ds : List (DataW H)} {p : List MemPlace}, (∀ t ∈ ts, P.readableRec t = true ∧ t < P.types.size) →
    DataW.TrodAll enc P W 0 (fun _ => true) true ts vs ds p → DataW.TrodAll enc P W' 0 (fun b => decide (b < W.heap.size)) true ts vs ds p
  | [], vs, ds, p, _, h => by
    cases vs <;> cases ds <;> simp [DataW.TrodAll] at h ⊢
    exact h
  | t :: ts, vs, ds, p, ht, h => by
    obtain ⟨v, vs', d, ds', p1, q1, rfl, rfl, rfl, h1, h2⟩ := trodAll_cons h
    have lt0 : ∀ x ∈ p1, x.block < W.heap.size := by obtain ⟨m, hm⟩ := h1; exact DataW.trod_lt m _ _ _ hm
    exact trodAll_cons_mk (Below.trod hl (ht t (by simp)).1 (ht t (by simp)).2 h1 hb lt0) (trodAll_below hl hb (fun x hx => ht x (by simp [hx])) h2)
end

theorem law_lifted {C : Checked} {os : Os} {f : FuncId} {fn : Func} {s : ChangeSpec} {tb : TypeId} (H : Type) (enc : TypeId × Value → H)
    (own : ownKnob C.prog.godebug = none) (started : os.Started) (noInit : C.prog.inits.idxOf? f = none) (hfn : C.prog.funcs[f]? = some fn)
    (witness : ∃ (w : World) (tape : Tape) (i : Input), w.os = os ∧ (w.forCall tape i).Shaped C.prog ∧ i.vars = [] ∧ Input.okWide C.prog (w.forCall tape i) .any w.heap.size f i ∧
      s.pre6 enc C.prog fn [] false (w.forCall tape i).memory i.args ∧ ({} : Assume).holds C.prog (lone (Frame.enter C.prog f i.args .normal) [] (w.forCall tape i)))
    (hvars : s.vars = []) (hres : fn.resultTypes = #[tb]) (htb : C.prog.underlying tb = some .bool)
    (hspec : ∀ ds : List (DataW H), ds.length = fn.params.size → s.fn H ds = { results := [.lit (.bool true)], args := ds })
    (laid : laidOutB C.prog = true) (hty : ∀ t ∈ fn.params.toList, C.prog.readableRec t = true ∧ t < C.prog.types.size)
    (walk : ∀ (W : World) (vs : List Value), vs.length = fn.params.size → (∀ (j : Nat) (t : TypeId) (v : Value), fn.params[j]? = some t → vs[j]? = some v → RdV enc C.prog W t v) → Calls C.prog f vs.toArray W fun e w' => e = .returned (.bool true) ∧ Aft W w') :
    ReturnsInHanded {} C os f .any (s.pre6 enc C.prog fn [] false) (s.post enc C.prog fn false true false false) := by
  refine returnsInHanded_of_change_sized own started noInit hfn witness ?_
  intro W base args ds gs before hval hW _ hsz _
  have hW' := hW
  obtain ⟨p, q, hA, hV, rfl, _, _⟩ := hW
  rw [hvars] at hV
  obtain ⟨rfl, rfl⟩ := trodVars_none hV
  have hw : ∀ n ∈ DataW.weightsEach C.prog fn.params.toList ds, n ≤ 140737488351232 := by
    have e : s.plain.varTypes C.prog = [] := by
      simp [ChangeSpec.plain, hvars, DataSpec.varTypes]
    rw [e, List.append_nil, List.append_nil] at hsz
    intro n hn
    have := List.all_eq_true.1 hsz n hn
    have h2 : n ≤ reachBytes := by simpa using this
    exact h2
  obtain ⟨l1, l2, hrd⟩ := trodAll_rd hA hw
  have hlen : args.toList.length = fn.params.size := by simpa using l1
  refine ((walk W args.toList hlen fun j t v ht hv => ⟨hrd j t v (by simpa using ht) hv, base, hval j t v ht (by simpa using hv)⟩)).mono fun e W' ⟨he, haft⟩ => ?_
  subst he
  have hs := hspec ds (by simpa using l2)
  refine ⟨_, rfl, ds, [], p ++ [], [], p, [], hW', ?_, ?_, ?_, ?_, fun h => by cases h⟩
  · rw [List.append_nil, hs, hres]
    exact trodAll_mk1 (shut_bool htb _)
  · rw [List.append_nil, hs]
    exact trodAll_below laid haft hty hA
  · rw [List.append_nil, hs, hvars]
    rfl
  · exact haft.frame _
end Go.Proofs.YticjnndhpfdajaaGreat
