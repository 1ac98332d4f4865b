/- The law ObjectsFinds, walked. -/
import Derived.Test.YtodifdofgjfkiaaRefSetOwn
import Derived.Test.YtodifdofgjfkiaaLarge2
import Derived.Test.YtodifdofgjfkiaaTold
namespace Go.Proofs.Ytodifdofgjfkiaa
open Go.RowKit Go.Deep
set_option maxRecDepth 100000
set_option linter.unusedVariables false
theorem one_s : findR oneO ⟨#[115]⟩ ⟨#[116]⟩ = (oneO.tables[0]'(by decide), 0) := findR_some (q := 0) oneO_ok (by decide +kernel) (by decide)
theorem one_u : findR oneO ⟨#[115]⟩ ⟨#[117]⟩ = (zeroT, 61) := findR_none oneO_ok (by decide +kernel)
def FoundOne (w : World) (e : Ending) (w' : World) : Prop := ∃ A c A2 c2, e = .returned (.tuple #[.agg #[.string ⟨#[115]⟩, .string ⟨#[116]⟩, .string ⟨#[111]⟩, .slice A 2 c, .slice A2 1 c2], .int .i64 0]) ∧ Aft w w'
def FoundNo (w : World) (e : Ending) (w' : World) : Prop := ∃ A c A2 c2, e = .returned (.tuple #[.agg #[.string ⟨#[]⟩, .string ⟨#[]⟩, .string ⟨#[]⟩, .slice A 0 c, .slice A2 0 c2], .int .i64 61]) ∧ Aft w w'
theorem find_one (As : Option Addr) (caps : Nat) (At : Option Addr) (capt : Nat) (w : World) (h1 : SlAt w 2 SchR As caps oneO.schemas) (h2 : SlAt w 5 TabR At capt oneO.tables) : Calls Try.prog 20 #[.agg #[.slice As 1 caps, .slice At 1 capt], .string ⟨#[115]⟩, .string ⟨#[116]⟩] w (FoundOne w) :=
  (find_in oneO As caps At capt ⟨#[115]⟩ ⟨#[116]⟩ w h1 h2).mono fun e w' ⟨x, hx, he, a, _⟩ => ⟨_, _, _, _, he.trans (by rw [one_s]; rfl), a⟩
theorem find_no (As : Option Addr) (caps : Nat) (At : Option Addr) (capt : Nat) (w : World) (h1 : SlAt w 2 SchR As caps oneO.schemas) (h2 : SlAt w 5 TabR At capt oneO.tables) : Calls Try.prog 20 #[.agg #[.slice As 1 caps, .slice At 1 capt], .string ⟨#[115]⟩, .string ⟨#[117]⟩] w (FoundNo w) :=
  (find_in oneO As caps At capt ⟨#[115]⟩ ⟨#[117]⟩ w h1 h2).mono fun e w' ⟨x, hx, he, a, _⟩ => ⟨_, _, _, _, he.trans (by rw [one_u]; rfl), a⟩
set_option maxHeartbeats 4000000 in
theorem finds_any (w : World) : Calls Try.prog 25 #[] w fun e w' => e = .returned (.bool true) ∧ Aft w w' := by
  go_enter Try.func25, Try.ntmps25
  go_wp2_with fail
  refine (one_any _).mono ?_
  rintro e w1 ⟨As, caps, At, capt, rfl, a1, h1, h2⟩
  have C1 := Lib.hid (find_one As caps At capt w1 h1 h2)
  have HA1 := Lib.hid a1
  clear a1 h1 h2
  go_wp2_with fail
  refine C1.out.mono ?_
  rintro e w2 ⟨A, c, A2, c2, rfl, a2⟩
  have HA2 := Lib.hid (HA1.out.trans a2)
  clear a2 C1
  go_wp2_with fail
  refine (one_any _).mono ?_
  rintro e w3 ⟨As, caps, At, capt, rfl, a3, h1, h2⟩
  obtain ⟨hbox, hfr, hz, hzk, HA3⟩ := aft_box a3
  have C2 := Lib.hid (find_no As caps At capt w3 h1 h2)
  clear a3 h1 h2
  go_wp2_with fail
  refine C2.out.mono ?_
  rintro e w4 ⟨B, d, B2, d2, rfl, a4⟩
  obtain ⟨hbox4, hfr4, hz4, _⟩ := box_aft hbox hfr hz.1 a4
  have HA4 := Lib.hid (HA2.out.trans (HA3.out.trans a4))
  clear a4 C2 hbox hfr hz hzk
  go_wp2_with fail
  go_ret
  exact ⟨rfl, HA4.out.alloc _⟩
theorem smT_owner {t : Tab} {v : ByteArray} (h : SmT t) (hv : Small v.size) : SmT { t with owner := v } := ⟨h.1, h.2.1, h.2.2.1, h.2.2.2.1, hv⟩
theorem smO_zero : SmO zeroO := ⟨⟨by simp [zeroO, Small], fun s hs => by simp [zeroO] at hs⟩, by simp [zeroO, Small], fun t ht => by simp [zeroO] at ht⟩
theorem smO_set {o : Objs} {q : Nat} {t : Tab} (h : SmO o) (ht : SmT t) : SmO ⟨o.schemas, o.tables.set q t⟩ := by
  refine ⟨h.1, by rw [List.length_set]; exact h.2.1, fun x hx => ?_⟩
  by_cases hq : q < o.tables.length
  · rcases mem_set_cases hq hx with rfl | ⟨i, hi, _, rfl⟩
    · exact ht
    · exact h.2.2 _ (List.getElem_mem hi)
  · have hx' : x ∈ o.tables.set q t := hx
    rw [List.set_eq_of_length_le (by omega)] at hx'
    exact h.2.2 x hx'
theorem smO_tabR {o : Objs} {s n : ByteArray} {f : Tab → Tab × Int} (h : SmO o) (hf : ∀ t ∈ o.tables, (f t).2 = 0 → SmT (f t).1) : SmO (tabR o s n f).1 := by
  unfold tabR
  split
  · rename_i t ht
    split
    · exact smO_zero
    · split
      · rename_i hz; exact smO_set h (hf t (List.mem_of_getElem? ht) hz)
      · exact smO_zero
  · exact smO_zero
theorem smO_chg {o : Objs} {r : Objs × Int} (h : SmO r.1) : SmO (chgR o r).1 := by
  unfold chgR; split
  · exact h
  · exact smO_zero
theorem smO_setOwn {o : Objs} {s n v : ByteArray} (h : SmO o) (hv : Small v.size) : SmO (setOwnR o s n v).1 := by
  unfold setOwnR
  split
  · split
    · exact smO_tabR h fun t ht _ => smT_owner (h.2.2 t ht) hv
    · exact smO_zero
  · exact smO_zero
theorem smT_zero : SmT zeroT := by
  refine ⟨⟨by simp [zeroT, Small], fun c hc => by simp [zeroT] at hc⟩, ⟨by simp [zeroT, Small], fun c hc => by simp [zeroT] at hc⟩, ?_, ?_, ?_⟩ <;> simp [zeroT, Small, ByteArray.size]
theorem smT_find {o : Objs} {s n : ByteArray} (h : SmO o) : SmT (findR o s n).1 := by
  unfold findR
  split
  · split
    · rename_i t ht
      split
      · exact smT_zero
      · exact h.2.2 t (List.mem_of_getElem? ht)
    · exact smT_zero
  · exact smT_zero
/-- told, of what came out of both -/
theorem told_in (r : Objs × Int) (o : Objs) (E : Option Addr) (capE : Nat) (E2 : Option Addr) (capE2 : Nat) (F : Option Addr) (capF : Nat) (F2 : Option Addr) (capF2 : Nat) (hs ht hs2 ht2 : Hd) (L L2 : List OTab) (W0 w : World) (B B2 : Nat) (sm : SmO r.1)
    (hL : L.map OTab.t = r.1.tables) (ob : ObjIn w B hs ht r.1.schemas L) (hL2 : L2.map OTab.t = r.1.tables) (ob2 : ObjIn w B2 hs2 ht2 r.1.schemas L2) (hB : W0.heap.size ≤ B) (a0 : Aft W0 w)
    (o1 : SlAt W0 2 SchR E capE o.schemas) (o2 : SlAt W0 5 TabR E2 capE2 o.tables) (f1 : SlAt W0 2 SchR F capF o.schemas) (f2 : SlAt W0 5 TabR F2 capF2 o.tables) :
    Calls Try.prog 26 #[.agg #[.slice hs.a r.1.schemas.length hs.c, .slice ht.a r.1.tables.length ht.c], .int .i64 r.2, .agg #[.slice hs2.a r.1.schemas.length hs2.c, .slice ht2.a r.1.tables.length ht2.c], .int .i64 r.2, .agg #[.slice E o.schemas.length capE, .slice E2 o.tables.length capE2], .agg #[.slice F o.schemas.length capF, .slice F2 o.tables.length capF2]] w
      fun e' w' => e' = .returned (.bool true) ∧ Kp B w.heap.size w w' ∧ Aft W0 w' := by
  have e1 : objOf r.1.schemas L = r.1 := by unfold objOf; rw [hL]
  have e2 : objOf r.1.schemas L2 = r.1 := by unfold objOf; rw [hL2]
  have g1 := ob.schs (by rw [e1]; exact sm)
  have g2 := ob.tabs (by rw [e1]; exact sm)
  have d1 := ob2.schs (by rw [e2]; exact sm)
  have d2 := ob2.tabs (by rw [e2]; exact sm)
  rw [hL] at g2
  rw [hL2] at d2
  have n1 : hs.n = r.1.schemas.length := own_n ob.sch
  have n2 : ht.n = r.1.tables.length := by rw [own_n ob.tab, ← hL]; simp
  have sh := ob.sh (by rw [e1]; exact sm)
  obtain ⟨ha, hn, hc⟩ := hs
  obtain ⟨ta, tn, tc⟩ := ht
  have n1' : hn = r.1.schemas.length := n1
  have n2' : tn = r.1.tables.length := n2
  subst n1' n2'
  exact (told_any r.1 o _ _ _ _ _ _ _ _ E capE E2 capE2 F capF F2 capF2 r.2 W0 w B w.heap.size (layOf L) hB (Nat.le_refl _) a0 g1 g2 d1 d2 o1 o2 f1 f2 sh).mono fun e w' ⟨he, hk⟩ => ⟨he, hk, hk.to_aft a0 hB⟩
set_option maxHeartbeats 16000000 in
theorem law_finds (o : Objs) (s n v : ByteArray) (As : Option Addr) (caps : Nat) (At : Option Addr) (capt : Nat) (w : World) (hsch : SlAt w 2 SchR As caps o.schemas) (htab : SlAt w 5 TabR At capt o.tables) (hv : Small v.size) :
    Calls Try.prog 4 #[.agg #[.slice As o.schemas.length caps, .slice At o.tables.length capt], .string s, .string n, .string v] w
      fun e w' => e = .returned (.bool true) ∧ Aft w w' := by
  have sm : SmO o := ⟨sm_schs hsch, sm_tabs htab⟩
  have CL := Lib.hid (show ∀ w', Aft w w' → _ from fun w' a => large_mod o As caps At capt w' (schs_aft a hsch) (tabs_aft a htab))
  obtain ⟨⟨p, c⟩, hfr⟩ : ∃ fr, findR o s n = fr := ⟨_, rfl⟩
  obtain ⟨⟨X, g⟩, hXr⟩ : ∃ fr, setOwnR o s n v = fr := ⟨_, rfl⟩
  have HSP := Lib.hid (show SmT p by have := smT_find (s := s) (n := n) sm; rw [hfr] at this; exact this)
  have HSX := Lib.hid (show SmO X by have := smO_setOwn (s := s) (n := n) sm hv; rw [hXr] at this; exact this)
  have CF := Lib.hid (show ∀ w', Aft w w' → Calls Try.prog 20 #[.agg #[.slice As o.schemas.length caps, .slice At o.tables.length capt], .string s, .string n] w' (FindP w' (p, c)) from fun w' a => hfr ▸ find_in o As caps At capt s n w' (schs_aft a hsch) (tabs_aft a htab))
  have CF2 := Lib.hid (show ∀ (A : Option Addr) (ca : Nat) (A2 : Option Addr) (ca2 : Nat) (w' : World), SlAt w' 2 SchR A ca o.schemas → SlAt w' 5 TabR A2 ca2 o.tables → Calls Try.prog 21 #[.agg #[.slice A o.schemas.length ca, .slice A2 o.tables.length ca2], .string s, .string n] w' (FindP w' (p, c)) from fun A ca A2 ca2 w' h1 h2 => hfr ▸ rFind_in o A ca A2 ca2 s n w' h1 h2)
  have CS := Lib.hid (show ∀ w', Aft w w' → Calls Try.prog 23 #[.agg #[.slice As o.schemas.length caps, .slice At o.tables.length capt], .string s, .string n, .string v] w' (ObjP w' (X, g)) from fun w' a => hXr ▸ setOwner_in o As caps At capt s n v w' (schs_aft a hsch) (tabs_aft a htab) hv.max)
  have CS2 := Lib.hid (show ∀ (A : Option Addr) (ca : Nat) (A2 : Option Addr) (ca2 : Nat) (w' : World), SlAt w' 2 SchR A ca o.schemas → SlAt w' 5 TabR A2 ca2 o.tables → Calls Try.prog 24 #[.agg #[.slice A o.schemas.length ca, .slice A2 o.tables.length ca2], .string s, .string n, .string v] w' (ObjP w' (X, g)) from fun A ca A2 ca2 w' h1 h2 => hXr ▸ rSetOwner_in o A ca A2 ca2 s n v w' h1 h2 hv.max)
  clear hfr hXr
  have HSM := Lib.hid sm
  have HS := Lib.hid hsch
  have HT := Lib.hid htab
  have HV := Lib.hid hv
  clear sm hsch htab hv
  go_enter Try.func4, Try.ntmps4
  go_wp2_with fail
  refine (CL.out _ ((Aft.refl _).alloc _)).mono ?_
  rintro e w1 ⟨b, rfl, hmod, a1⟩
  have HB1 := Lib.hid (show RowAt w1 w.heap.size [.slice As o.schemas.length caps, .slice At o.tables.length capt] from box_row2 a1)
  have HA1 := Lib.hid (((Aft.refl w).alloc _).trans a1)
  clear a1 CL
  cases b
  · have HM := Lib.hid (hmod rfl)
    have c0 := HB1.out.cell (j := 0) rfl
    have c1 := HB1.out.cell (j := 1) rfl
    have z1 := HB1.out.1
    clear hmod
    go_wp2_with fail
    refine (rOwn_in o As caps At capt w1 (schs_aft HA1.out HS.out) (tabs_aft HA1.out HT.out) HM.out).mono ?_
    rintro e w2 ⟨hs, ht, L, hL, rfl, a2, ob⟩
    have e1 : objOf o.schemas L = o := by unfold objOf; rw [hL]
    have HF1 := Lib.hid (ob.schs (by rw [e1]; exact HSM.out))
    have HF2 := Lib.hid (show SlAt w2 5 TabR ht.a ht.c o.tables by have := ob.tabs (by rw [e1]; exact HSM.out); rw [hL] at this; exact this)
    obtain ⟨hsa, hsn, hsc⟩ := hs
    obtain ⟨hta, htn, htc⟩ := ht
    obtain ⟨W2, hW2⟩ : ∃ W2, W2 = w2.alloc (.cells #[.slice hsa o.schemas.length hsc, .slice hta o.tables.length htc] 25) := ⟨_, rfl⟩
    have aW2 : Aft w2 W2 := by rw [hW2]; exact (Aft.refl _).alloc _
    have HBO := Lib.hid (show RowAt W2 w2.heap.size [.slice hsa o.schemas.length hsc, .slice hta o.tables.length htc] by rw [hW2]; exact box_row2 (Aft.refl _))
    have HA2 := Lib.hid (HA1.out.trans (a2.trans aW2))
    have HB2 := Lib.hid (HB1.out.aft (a2.trans aW2))
    have HG1 := Lib.hid (schs_aft aW2 HF1.out)
    have HG2 := Lib.hid (tabs_aft aW2 HF2.out)
    have c0 := (HB1.out.aft a2).cell (j := 0) rfl
    have c1 := (HB1.out.aft a2).cell (j := 1) rfl
    have z1 := (HB1.out.aft a2).1
    clear a2 ob hL e1 HF1 HF2 aW2
    have z1' : w.heap.size < w2.heap.size + 1 := by omega
    go_wp2_with fail
    rw [← hW2]
    clear hW2
    refine (CF.out W2 HA2.out).mono ?_
    rintro e w3 ⟨x, hx, rfl, a3, tin, _⟩
    have hx : x.t = p := hx
    (try dsimp only)
    have tc := tin.cols (by rw [hx]; exact HSP.out)
    have tr := tin.ruls (by rw [hx]; exact HSP.out)
    have ec : x.cols = p.cols := by rw [← hx]; rfl
    have er : x.rules.map (·.r) = p.rules := by rw [← hx]; rfl
    rw [ec] at tc
    rw [er] at tr
    have own3 := tin.col
    rw [ec, own_slice tin.col, ec] at own3
    obtain ⟨A, hA⟩ : ∃ A, x.hc.a = A := ⟨_, rfl⟩
    obtain ⟨ca, hca⟩ : ∃ A, x.hc.c = A := ⟨_, rfl⟩
    obtain ⟨A2, hA2⟩ : ∃ A, x.hr.a = A := ⟨_, rfl⟩
    obtain ⟨ca2, hca2⟩ : ∃ A, x.hr.c = A := ⟨_, rfl⟩
    rw [hA, hca] at tc own3
    rw [hA2, hca2] at tr
    rw [hA, hca, hA2, hca2]
    obtain ⟨W3, hW3⟩ : ∃ W3, W3 = w3.alloc (.cells #[.string p.schema, .string p.name, .string p.owner, .slice A p.cols.length ca, .slice A2 p.rules.length ca2] 34) := ⟨_, rfl⟩
    have aW3 : Aft w3 W3 := by rw [hW3]; exact (Aft.refl _).alloc _
    have HBT := Lib.hid (show RowAt W3 w3.heap.size [.string p.schema, .string p.name, .string p.owner, .slice A p.cols.length ca, .slice A2 p.rules.length ca2] by rw [hW3]; exact box_row2 (Aft.refl _))
    have HA3 := Lib.hid (a3.trans aW3)
    have HTC := Lib.hid (cols_aft aW3 tc)
    have HTR := Lib.hid (ruls_aft aW3 tr)
    have HO3 := Lib.hid (own_aft own3 aW3)
    have HLT3 := Lib.hid (show ∀ g, (Value.slice A p.cols.length ca).ownBlock = some g → W2.heap.size ≤ g ∧ g < w3.heap.size from own3.lt)
    have bo := HBO.out.aft a3
    have c0 := bo.cell (j := 0) rfl
    have c1 := bo.cell (j := 1) rfl
    have z2 := bo.1
    have z2' : w2.heap.size < w3.heap.size + 1 := by omega
    have HZ23 := Lib.hid z2
    clear hx tin tc tr ec er own3 hA hca hA2 hca2 a3 aW3 bo
    go_wp2_with fail
    rw [← hW3]
    clear hW3
    refine (CF2.out _ _ _ _ W3 (schs_aft HA3.out HG1.out) (tabs_aft HA3.out HG2.out)).mono ?_
    rintro e w4 ⟨x, hx, rfl, a4, tin, _⟩
    have hx : x.t = p := hx
    (try dsimp only)
    have tc := tin.cols (by rw [hx]; exact HSP.out)
    have tr := tin.ruls (by rw [hx]; exact HSP.out)
    have ec : x.cols = p.cols := by rw [← hx]; rfl
    have er : x.rules.map (·.r) = p.rules := by rw [← hx]; rfl
    rw [ec] at tc
    rw [er] at tr
    obtain ⟨D, hD⟩ : ∃ A, x.hc.a = A := ⟨_, rfl⟩
    obtain ⟨cd, hcd⟩ : ∃ A, x.hc.c = A := ⟨_, rfl⟩
    obtain ⟨D2, hD2⟩ : ∃ A, x.hr.a = A := ⟨_, rfl⟩
    obtain ⟨cd2, hcd2⟩ : ∃ A, x.hr.c = A := ⟨_, rfl⟩
    rw [hD, hcd] at tc
    rw [hD2, hcd2] at tr
    rw [hD, hcd, hD2, hcd2]
    have HA4 := Lib.hid a4
    obtain ⟨W4, hW4⟩ : ∃ W4, W4 = w4.alloc (.cells #[.string p.schema, .string p.name, .string p.owner, .slice D p.cols.length cd, .slice D2 p.rules.length cd2] 34) := ⟨_, rfl⟩
    have aW4 : Aft w4 W4 := by rw [hW4]; exact (Aft.refl _).alloc _
    have CSame := Lib.hid (sameT_any p A ca A2 ca2 D cd D2 cd2 W4 (cols_aft (a4.trans aW4) HTC.out) (ruls_aft (a4.trans aW4) HTR.out) (cols_aft aW4 tc) (ruls_aft aW4 tr))
    have HA4' := Lib.hid (a4.trans aW4)
    have bt := HBT.out.aft a4
    have y0 := bt.cell (j := 0) rfl
    have y1 := bt.cell (j := 1) rfl
    have y2 := bt.cell (j := 2) rfl
    have y3 := bt.cell (j := 3) rfl
    have y4 := bt.cell (j := 4) rfl
    have z3 := bt.1
    have z3' : w3.heap.size < w4.heap.size + 1 := by omega
    clear hx tin tc tr ec er hD hcd hD2 hcd2 a4 aW4 bt
    have he : (c == c) = true := by simp
    go_wp2_with fail
    rw [← hW4]
    clear hW4
    refine CSame.out.mono ?_
    rintro e w5 ⟨rfl, a5⟩
    have HA5 := Lib.hid (HA4'.out.trans a5)
    clear CSame a5 y0 y1 y2 y3 y4
    go_wp2_with fail
    have hlenc := HTC.out.len
    go_loopw [15] (fun i wr => ∃ (k : Nat) (xs : List Value), k ≤ p.cols.length ∧ i = .int .i64 k ∧ wr.ownsRow W2.heap.size 40 3 (.slice A p.cols.length ca) p.cols.length xs ∧ Kb (fun g => (Value.slice A p.cols.length ca).ownBlock = some g) w5 wr) (fun i _ => p.cols.length - (intOf i).toNat)
    case atStart => exact ⟨0, _, Nat.zero_le _, rfl, own_aft HO3.out HA5.out, Kb.refl _ _⟩
    case round =>
      obtain ⟨k, xs, hk, rfl, ho, hkb⟩ := hrel
      have hne : ¬ (Value.slice A p.cols.length ca).ownBlock = some w3.heap.size := fun e => by have := (HLT3.out _ e).2; omega
      have bt := hkb.row (HBT.out.aft HA5.out) hne
      have y3 := bt.cell (j := 3) rfl
      have z3 := bt.1
      have HKB := Lib.hid hkb
      have HO := Lib.hid ho
      by_cases hlt : k < p.cols.length
      · obtain ⟨gc, cap', hv', hgb, _, hr⟩ := own_rowAt ho (by omega)
        simp only [Value.slice.injEq, true_and] at hv'
        obtain ⟨rfl, rfl⟩ := hv'
        have hxl : k * 3 < xs.length := by rw [ho.1]; omega
        have u0 := hr.cell (List.getElem?_eq_getElem hxl)
        have u1 := hr.2.2 (k * 3) hxl
        have u2 := hr.1
        have HN := Lib.hid (own_set ho (g := gc) rfl (k * 3) (.string ⟨#[111, 118, 101, 114]⟩))
        have HK := Lib.hid (hkb.trans ((Kb.set wr gc (k * 3) (.string ⟨#[111, 118, 101, 114]⟩)).mono (fun g _ e => by subst e; rfl)))
        clear ho hkb hr bt hne
        go_wp2_with fail
        go_roundw
        case rel => exact ⟨k + 1, _, by omega, by go_num, HN.out, HK.out⟩
        case measure => simp [intOf]; omega
      · have HAW2 := Lib.hid (show Aft W2 wr from hkb.to_aft (HA3.out.trans HA5.out) (fun g hg h1 => by have := (HLT3.out g h1).1; omega))
        have b1 := HB2.out.aft HAW2.out
        have c0 := b1.cell (j := 0) rfl
        have c1 := b1.cell (j := 1) rfl
        have z1 := b1.1
        clear ho hkb bt hne b1
        go_wp2_with fail
        refine (CS.out wr (HA2.out.trans HAW2.out)).mono ?_
        rintro e w7 ⟨hs7, ht7, L7, hL7, rfl, a7, ob7⟩
        (try dsimp only)
        obtain ⟨W7, hW7⟩ : ∃ W7, W7 = w7.alloc (.cells #[.slice hs7.a X.schemas.length hs7.c, .slice ht7.a X.tables.length ht7.c] 25) := ⟨_, rfl⟩
        have aW7 : Aft w7 W7 := by rw [hW7]; exact (Aft.refl _).alloc _
        have HB7 := Lib.hid (show RowAt W7 w7.heap.size [.slice hs7.a X.schemas.length hs7.c, .slice ht7.a X.tables.length ht7.c] by rw [hW7]; exact box_row2 (Aft.refl _))
        have HA7 := Lib.hid (HAW2.out.trans (a7.trans aW7))
        have HO7 := Lib.hid (ob7.aft aW7)
        have HL7 := Lib.hid (show L7.map OTab.t = X.tables from hL7)
        have bo := HBO.out.aft (HAW2.out.trans a7)
        have c0 := bo.cell (j := 0) rfl
        have c1 := bo.cell (j := 1) rfl
        have z2 := bo.1
        have z2' : w2.heap.size < w7.heap.size + 1 := by omega
        clear a7 aW7 ob7 hL7 bo
        go_wp2_with fail
        rw [← hW7]
        clear hW7
        refine (CS2.out _ _ _ _ W7 (schs_aft HA7.out HG1.out) (tabs_aft HA7.out HG2.out)).mono ?_
        rintro e w8 ⟨hs8, ht8, L8, hL8, rfl, a8, ob8⟩
        (try dsimp only)
        obtain ⟨W8, hW8⟩ : ∃ W8, W8 = w8.alloc (.cells #[.slice hs8.a X.schemas.length hs8.c, .slice ht8.a X.tables.length ht8.c] 25) := ⟨_, rfl⟩
        have aW8 : Aft w8 W8 := by rw [hW8]; exact (Aft.refl _).alloc _
        have HB8 := Lib.hid (show RowAt W8 w8.heap.size [.slice hs8.a X.schemas.length hs8.c, .slice ht8.a X.tables.length ht8.c] by rw [hW8]; exact box_row2 (Aft.refl _))
        have HA8 := Lib.hid (a8.trans aW8)
        have HO8 := Lib.hid (ob8.aft aW8)
        have HL8 := Lib.hid (show L8.map OTab.t = X.tables from hL8)
        clear a8 aW8 ob8 hL8
        go_wp2_with fail
        rw [← hW8]
        clear hW8
        refine (finds_any W8).mono ?_
        rintro e w9 ⟨rfl, a9⟩
        have HA9 := Lib.hid (HA7.out.trans (HA8.out.trans a9))
        have b7 := HB7.out.aft (HA8.out.trans a9)
        have b8 := HB8.out.aft a9
        have bo := HBO.out.aft HA9.out
        have b0 := HB2.out.aft HA9.out
        have p0 := b7.cell (j := 0) rfl
        have p1 := b7.cell (j := 1) rfl
        have p2 := b7.1
        have q0 := b8.cell (j := 0) rfl
        have q1 := b8.cell (j := 1) rfl
        have q2 := b8.1
        have r0 := bo.cell (j := 0) rfl
        have r1 := bo.cell (j := 1) rfl
        have r2 := bo.1
        have s0 := b0.cell (j := 0) rfl
        have s1 := b0.cell (j := 1) rfl
        have s2 := b0.1
        have HTD := Lib.hid (told_in (X, g) o As caps At capt hsa hsc hta htc hs7 ht7 hs8 ht8 L7 L8 W2 w9 wr.heap.size W7.heap.size HSX.out HL7.out (HO7.out.aft (HA8.out.trans a9)) HL8.out (HO8.out.aft a9) HAW2.out.size HA9.out (schs_aft HA2.out HS.out) (tabs_aft HA2.out HT.out) HG1.out HG2.out)
        clear a9 b7 b8 bo b0
        go_wp2_with fail
        refine HTD.out.mono ?_
        rintro e w10 ⟨rfl, _, a10⟩
        have HA10 := Lib.hid (HA2.out.trans a10)
        clear a10 HTD
        go_wp2_with fail
        go_ret
        exact ⟨rfl, HA10.out⟩
  · go_wp2_with fail
    go_ret
    exact ⟨rfl, HA1.out⟩
end Go.Proofs.Ytodifdofgjfkiaa
