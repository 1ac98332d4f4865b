/- Contracts of the program, part 19. -/
import Derived.Test.YticjnndhpfdajaaPart17
import Derived.Test.YticjnndhpfdajaaPart18
import Derived.Test.YticjnndhpfdajaaPart6
import Derived.Test.YticjnndhpfdajaaPart11
/- objects.fits. -/
namespace Go.Proofs.Yticjnndhpfdajaa
open Go.RowKit
set_option maxRecDepth 100000
set_option linter.unusedVariables false
theorem hasS_iff (l : List ByteArray) (s : ByteArray) : hasS l s = true ↔ 0 ≤ idxP (fun c => eqS c s) l := by
  induction l with
  | nil => simp [hasS, idxP]
  | cons x l ih =>
    unfold hasS at ih ⊢
    rw [List.any_cons, Bool.or_eq_true, ih]
    simp only [idxP]
    by_cases hx : eqS x s = true
    · rw [if_pos hx]; simp [hx]
    · rw [if_neg hx]
      by_cases hy : idxP (fun c => eqS c s) l < 0
      · rw [if_pos hy]
        constructor
        · intro h; rcases h with h | h
          · exact absurd h hx
          · omega
        · intro h; omega
      · rw [if_neg hy]
        constructor
        · intro h; omega
        · intro h; right; omega
theorem hasS_idx (l : List ByteArray) (s : ByteArray) : hasS l s = decide (0 ≤ idxP (fun c => eqS c s) l) := by
  rw [Bool.eq_iff_iff, hasS_iff]; simp
theorem catE (a b : ByteArray) : (a ++ b).toList.isEmpty = (a.toList.isEmpty && b.toList.isEmpty) := by
  rw [Bool.eq_iff_iff]; simp [cat_nil_iff]

set_option maxHeartbeats 8000000 in
theorem fits_any (A : Option Addr) (cap : Nat) (l : List Col) (r : Rul) (A2 : Option Addr) (cap2 : Nat) (w : World) (h : SlAt w 3 ColR A cap l) (h2 : SlAt w 1 StrR A2 cap2 r.cols)
    (hn : Small r.name.size) (hs : Small r.schema.size) (ht : Small r.table.size) (hk' : Small r.key.size) :
    Calls Try.prog 82 #[.slice A l.length cap, .agg #[.string r.name, .int .i64 r.kind, .slice A2 r.cols.length cap2, .int .i64 r.low, .int .i64 r.high, .string r.schema, .string r.table, .string r.key]] w
      fun e w' => e = .returned (.bool (fitsOk l r)) ∧ Aft w w' := by
  obtain ⟨name, kind, cs, low, high, schema, table, key⟩ := r
  simp only at h2 hn hs ht hk' ⊢
  have hlen := h.len
  have hlen2 := h2.len
  cases hN : nameB name
  · have HF := Lib.hid (show fitsOk l ⟨name, kind, cs, low, high, schema, table, key⟩ = false by simp [fitsOk, hN])
    go_enter Try.func82, Try.ntmps82
    go_wp2_with (go_at_call 16; refine (name_any _ _ (by first | exact hn.max | exact hs.max | exact ht.max | exact hk'.max)).mono ?_; rintro e w' ⟨rfl, rfl⟩)
    go_ret
    exact ⟨by rw [HF.out]; rfl, (Aft.refl _).alloc _⟩
  by_cases hz0 : cs.length < 1
  · have HF := Lib.hid (show fitsOk l ⟨name, kind, cs, low, high, schema, table, key⟩ = false by
      have : cs.length = 0 := by omega
      simp [fitsOk, this])
    go_enter Try.func82, Try.ntmps82
    go_wp2_with (go_at_call 16; refine (name_any _ _ (by first | exact hn.max | exact hs.max | exact ht.max | exact hk'.max)).mono ?_; rintro e w' ⟨rfl, rfl⟩)
    go_ret
    exact ⟨by rw [HF.out]; rfl, (Aft.refl _).alloc _⟩
  by_cases hzl : l.length < cs.length
  · have HF := Lib.hid (show fitsOk l ⟨name, kind, cs, low, high, schema, table, key⟩ = false by
      have : rcOk l cs = false := by
        cases hrc : rcOk l cs with
        | false => rfl
        | true => have := rc_len l cs hrc; omega
      simp [fitsOk, this])
    have hpos : 1 ≤ cs.length := by omega
    clear hz0
    go_enter Try.func82, Try.ntmps82
    go_wp2_with (go_at_call 16; refine (name_any _ _ (by first | exact hn.max | exact hs.max | exact ht.max | exact hk'.max)).mono ?_; rintro e w' ⟨rfl, rfl⟩)
    go_ret
    exact ⟨by rw [HF.out]; rfl, (Aft.refl _).alloc _⟩
  have hpos : 1 ≤ cs.length := by omega
  have hll : cs.length ≤ l.length := by omega
  have bb1 : decide ((cs.length : Int) < 1) = false := decide_eq_false (by omega)
  have bb2 : decide (l.length < cs.length) = false := decide_eq_false (by omega)
  have bb3 : decide ((l.length : Int) < (cs.length : Int)) = false := decide_eq_false (by omega)
  clear hz0 hzl
  go_enter Try.func82, Try.ntmps82
  go_wp2_with (go_at_call 16; refine (name_any _ _ (by first | exact hn.max | exact hs.max | exact ht.max | exact hk'.max)).mono ?_; rintro e w' ⟨rfl, rfl⟩)
  go_loopw [29] (fun i wr => ∃ k : Nat, k ≤ cs.length ∧ i = .int .i64 k ∧ Aft (w.alloc (.cells #[.string name, .int .i64 kind, .slice A2 cs.length cap2, .int .i64 low, .int .i64 high, .string schema, .string table, .string key] 42)) wr ∧ ∀ j, j < k → ∀ (hj : j < cs.length), (decide (0 ≤ colAt l cs[j]) && !(hasS (cs.take j) cs[j])) = true) (fun i _ => cs.length - (intOf i).toNat)
  case atStart => exact ⟨0, Nat.zero_le _, rfl, Aft.refl _, fun j hj => absurd hj (Nat.not_lt_zero j)⟩
  case round =>
    obtain ⟨k, hk, rfl, ha, hp⟩ := hrel
    obtain ⟨hbox, hfr, hz, hzk, HA⟩ := aft_box ha
    have HAB := Lib.hid ha
    have HP := Lib.hid hp; clear hp
    have hsl := cols_aft HA.out h
    have hsl2 := strs_aft HA.out h2
    clear ha
    by_cases hlt : k < cs.length
    · obtain ⟨b, off, rfl, hb, c0, hss⟩ := str_at hsl2 hlt
      obtain ⟨i, hi⟩ : ∃ i, colAt l cs[k] = i := ⟨_, rfl⟩
      obtain ⟨m, hm⟩ : ∃ m, idxP (fun c => eqS c cs[k]) cs = m := ⟨_, rfl⟩
      have Cby := Lib.hid (show Calls Try.prog 46 #[.slice A l.length cap, .string cs[k], .func (.func 47) #[] #[]] wr fun e w' => e = .returned (.int .i64 i) ∧ Aft wr w' from
        (byCol A cap l cs[k] wr hsl).mono fun e w' ⟨he, hw⟩ => ⟨he.trans (by rw [← hi]; rfl), hw⟩)
      have Cidx := Lib.hid (show ∀ w', Aft wr w' → Calls Try.prog 95 #[.slice (some ⟨b, off, none⟩) cs.length cap2, .string cs[k]] w' fun e w'' => e = .returned (.int .i64 m) ∧ w' = w'' from
        fun w' ha' => (sidx_any _ cap2 cs cs[k] w' (strs_aft ha' hsl2)).mono fun e w'' ⟨he, hw⟩ => ⟨he.trans (by rw [← hm]), hw⟩)
      have HI := Lib.hid hi
      have HM := Lib.hid hm
      clear hi hm hsl hsl2
      by_cases hi0 : i < 0
      · go_wp2_with fail
        refine Cby.out.mono ?_
        rintro e w1 ⟨rfl, a1⟩
        have HA1 := Lib.hid (HA.out.trans a1)
        clear a1
        go_wp2_with fail
        go_ret
        exact ⟨by rw [show fitsOk l ⟨name, kind, cs, low, high, schema, table, key⟩ = false by unfold fitsOk; rw [rcOk_false l cs k hlt (by rw [HI.out, decide_eq_false (by omega)]; rfl)]; rfl]; rfl, HA1.out⟩
      · have hi1 : 0 ≤ i := by omega
        have hd : decide (i < 0) = false := decide_eq_false hi0
        by_cases hmk : m = k
        · have e1 : (m != (k : Int)) = false := by simp [hmk]
          have HMK := Lib.hid hmk
          clear hmk
          go_wp2_with fail
          refine Cby.out.mono ?_
          rintro e w1 ⟨rfl, a1⟩
          obtain ⟨hbox1, hfr1, hz1, hzk1, HA1⟩ := aft_box (HAB.out.trans a1)
          have HAB1 := Lib.hid (HAB.out.trans a1)
          have HW1 := Lib.hid a1
          clear a1 hbox hfr hz hzk
          go_wp2_with fail
          refine (Cidx.out _ HW1.out).mono ?_
          rintro e w2 ⟨rfl, rfl⟩
          go_wp2_with fail
          go_roundw
          case rel =>
            refine ⟨k + 1, by omega, by go_num, HAB1.out, ext_lt (p := fun j => ∀ (hj : j < cs.length), (decide (0 ≤ colAt l cs[j]) && !(hasS (cs.take j) cs[j])) = true) HP.out (fun _ => ?_)⟩
            rw [HI.out, decide_eq_true hi1, hasS_idx, decide_eq_false]
            · rfl
            · intro h0
              have q1 := (idxP_miss (fun c => eqS c cs[k]) cs k hlt h0).1
              have q2 := HM.out
              have q3 := HMK.out
              omega
          case measure => simp [intOf]; omega
        · have e1 : (m != (k : Int)) = true := by rw [bne_iff_ne]; exact hmk
          have HMK := Lib.hid hmk
          clear hmk
          go_wp2_with fail
          refine Cby.out.mono ?_
          rintro e w1 ⟨rfl, a1⟩
          obtain ⟨hbox1, hfr1, hz1, hzk1, HA1⟩ := aft_box (HAB.out.trans a1)
          have HW1 := Lib.hid a1
          clear a1 hbox hfr hz hzk
          go_wp2_with fail
          refine (Cidx.out _ HW1.out).mono ?_
          rintro e w2 ⟨rfl, rfl⟩
          go_wp2_with fail
          go_ret
          have hf : (decide (0 ≤ colAt l cs[k]) && !(hasS (cs.take k) cs[k])) = false := by
            rw [hasS_idx, decide_eq_true (p := 0 ≤ idxP (fun c => eqS c cs[k]) (cs.take k)), Bool.not_true, Bool.and_false]
            refine Int.not_lt.1 fun h0 => ?_
            exact HMK.out (HM.out.symm.trans (idxP_hit (fun c => eqS c cs[k]) cs k hlt (eqS_refl _) h0))
          exact ⟨by rw [show fitsOk l ⟨name, kind, cs, low, high, schema, table, key⟩ = false by unfold fitsOk; rw [rcOk_false l cs k hlt hf]; rfl]; rfl, HA1.out⟩
    · have hrc := rcOk_true l cs (fun j hj hj' => HP.out j (by omega) hj')
      have HF := Lib.hid (show fitsOk l ⟨name, kind, cs, low, high, schema, table, key⟩ = ruleRest l ⟨name, kind, cs, low, high, schema, table, key⟩ by
        have : ¬ cs.length = 0 := by omega
        simp [fitsOk, hrc, hN, this])
      have hc0 : 0 ≤ colAt l cs[0] := by have := HP.out 0 (by omega) hpos; simp at this; exact this.1
      clear hrc
      have z1 : schema.size + table.size ≤ 9223372036854775807 := by unfold Small at *; omega
      have z2 : schema.size + table.size + key.size ≤ 9223372036854775807 := by unfold Small at *; omega
      by_cases k1 : kind = 1
      · subst k1
        go_wp2_with (go_at_call 16; refine (name_any _ _ (by first | exact hn.max | exact hs.max | exact ht.max | exact hk'.max)).mono ?_; rintro e w' ⟨rfl, rfl⟩)
        all_goals
          go_ret
          refine ⟨Eq.trans (b := .returned (.bool _)) rfl (ret_of (bool_of ?_)), HA.out⟩
          rw [HF.out]
          clear HF HA HAB HP hbox hfr hz hzk hsl hsl2 h h2
          simp_all [ruleRest, emp, cat_nil_iff]
      by_cases k2 : kind = 2
      · subst k2
        go_wp2_with (go_at_call 16; refine (name_any _ _ (by first | exact hn.max | exact hs.max | exact ht.max | exact hk'.max)).mono ?_; rintro e w' ⟨rfl, rfl⟩)
        all_goals
          go_ret
          refine ⟨Eq.trans (b := .returned (.bool _)) rfl (ret_of (bool_of ?_)), HA.out⟩
          rw [HF.out]
          clear HF HA HAB HP hbox hfr hz hzk hsl hsl2 h h2
          simp_all [ruleRest, emp, cat_nil_iff]
      by_cases k4 : kind = 4
      · subst k4
        go_wp2_with (go_at_call 16; refine (name_any _ _ (by first | exact hn.max | exact hs.max | exact ht.max | exact hk'.max)).mono ?_; rintro e w' ⟨rfl, rfl⟩)
        all_goals
          go_ret
          refine ⟨Eq.trans (b := .returned (.bool _)) rfl (ret_of (bool_of ?_)), HA.out⟩
          rw [HF.out]
          clear HF HA HAB HP hbox hfr hz hzk hsl hsl2 h h2
          simp_all [ruleRest]
      by_cases k3 : kind = 3
      · subst k3
        obtain ⟨q, hq⟩ := Int.eq_ofNat_of_zero_le hc0
        have hql : q < l.length := by have := (idxP_range (fun c => eqS c.name cs[0]) l).2; unfold colAt at hq; omega
        obtain ⟨b, off, rfl, hb, c0, hss⟩ := str_at hsl2 hpos
        obtain ⟨b2, off2, rfl, hb2, d0, d1, d2, hss2⟩ := col_at hsl hql
        have c0' : wr.cell? ⟨b, off, none⟩ = some (.string cs[0]) := by simpa using c0
        have Ccol := Lib.hid (show Calls Try.prog 46 #[.slice (some ⟨b2, off2, none⟩) l.length cap, .string cs[0], .func (.func 47) #[] #[]] wr fun e w' => e = .returned (.int .i64 q) ∧ Aft wr w' from
          (byCol _ cap l cs[0] wr hsl).mono fun e w' ⟨he, hw⟩ => ⟨he.trans (by rw [← show colAt l cs[0] = (q : Int) from hq]; rfl), hw⟩)
        have HK := Lib.hid (show kindAt l (colAt l (cs.headD ByteArray.empty)) = l[q].kind by
          have e1 : cs.headD ByteArray.empty = cs[0] := by cases cs with | nil => simp at hpos | cons a t => rfl
          rw [e1, hq]; simp [kindAt, List.getElem?_eq_getElem hql])
        have HA3 := HA
        clear hc0 hq c0
        go_wp2_with (first | (go_at_call 16; refine (name_any _ _ (by first | exact hn.max | exact hs.max | exact ht.max | exact hk'.max)).mono ?_; rintro e w' ⟨rfl, rfl⟩) | (go_at_call 46; refine Ccol.out.mono ?_; rintro e w2 ⟨rfl, a2⟩; obtain ⟨hbox2, hfr2, hz2, hzk2, HA2⟩ := aft_box (HAB.out.trans a2); have d1' := (Below.cell a2 (p := ⟨b2, off2 + q * 3 + 1, none⟩) hb2).trans d1; clear a2 hbox hfr hz hzk c0' d0 d1 d2 HA))
        all_goals
          go_ret
          refine ⟨Eq.trans (b := .returned (.bool _)) rfl (ret_of (bool_of ?_)), by first | exact HA2.out | exact HA3.out⟩
          rw [HF.out]
          have hkk := HK.out
          clear HF HA3 HAB HP hsl hsl2 h h2 HK Ccol
          simp_all [ruleRest, emp, cat_nil_iff]
      · have q1 : (kind == 1) = false := by simp [k1]
        have q2 : (kind == 2) = false := by simp [k2]
        have q3 : (kind == 3) = false := by simp [k3]
        have q4 : (kind == 4) = false := by simp [k4]
        go_wp2_with (go_at_call 16; refine (name_any _ _ (by first | exact hn.max | exact hs.max | exact ht.max | exact hk'.max)).mono ?_; rintro e w' ⟨rfl, rfl⟩)
        all_goals
          go_ret
          refine ⟨Eq.trans (b := .returned (.bool _)) rfl (ret_of (bool_of ?_)), HA.out⟩
          rw [HF.out]
          clear HF HA HAB HP hbox hfr hz hzk hsl hsl2 h h2
          simp_all [ruleRest]
end Go.Proofs.Yticjnndhpfdajaa
/- Are objects right: in plain words. -/
namespace Go.Proofs.Yticjnndhpfdajaa
open Go.RowKit
set_option linter.unusedVariables false
/-- do columns go with columns, one by one? -/
def pairB (l : List Col) (l2 : List Col) (a b : ByteArray) : Bool := decide (0 ≤ colAt l a) && decide (0 ≤ colAt l2 b) && (kindAt l (colAt l a) == kindAt l2 (colAt l2 b))
def pairsOk (l : List Col) (l2 : List Col) : List ByteArray → List ByteArray → Bool
  | [], [] => true
  | a :: xs, b :: ys => pairB l l2 a b && pairsOk l l2 xs ys
  | _, _ => false
theorem kindsOf_cons (l : List Col) (a : ByteArray) (cs : List ByteArray) : kindsOf l (a :: cs) = if 0 ≤ colAt l a then kindAt l (colAt l a) :: kindsOf l cs else kindsOf l cs := by
  unfold kindsOf
  by_cases h : 0 ≤ colAt l a <;> simp [h]
theorem pairsOk_code (l l2 : List Col) : ∀ (cs cs2 : List ByteArray), pairsOk l l2 cs cs2 = (decide (cs2.length = cs.length) && decide ((kindsOf l2 cs2).length = cs2.length) && decide (kindsOf l cs = kindsOf l2 cs2))
  | [], [] => by simp [pairsOk, kindsOf]
  | [], b :: ys => by simp [pairsOk]
  | a :: xs, [] => by simp [pairsOk]
  | a :: xs, b :: ys => by
    have ih := pairsOk_code l l2 xs ys
    have hb := kindsOf_le l2 ys
    have ha := kindsOf_le l xs
    rw [pairsOk, ih, kindsOf_cons, kindsOf_cons]
    unfold pairB
    by_cases h1 : 0 ≤ colAt l a
    · by_cases h2 : 0 ≤ colAt l2 b
      · by_cases h3 : kindAt l (colAt l a) = kindAt l2 (colAt l2 b) <;> simp [h1, h2, h3]
      · have h4 : ¬ (kindsOf l2 ys).length = ys.length + 1 := by omega
        simp [h1, h2, h4]
    · by_cases h2 : 0 ≤ colAt l2 b
      · rw [if_neg h1, if_pos h2]
        simp only [h1, decide_false, Bool.false_and]
        symm
        rw [Bool.eq_false_iff]
        intro h
        simp only [Bool.and_eq_true, decide_eq_true_eq, List.length_cons] at h
        obtain ⟨⟨e1, e2⟩, e3⟩ := h
        have := congrArg List.length e3
        simp only [List.length_cons] at this
        omega
      · have h4 : ¬ (kindsOf l2 ys).length = ys.length + 1 := by omega
        simp [h1, h2, h4]
theorem pairsOk_true (l l2 : List Col) : ∀ (cs cs2 : List ByteArray), cs2.length = cs.length → (∀ k (h : k < cs.length) (h2 : k < cs2.length), pairB l l2 cs[k] cs2[k] = true) → pairsOk l l2 cs cs2 = true
  | [], [], _, _ => rfl
  | [], b :: ys, h, _ => by simp at h
  | a :: xs, [], h, _ => by simp at h
  | a :: xs, b :: ys, h, hp => by
    have h0 := hp 0 (by simp) (by simp)
    simp only [List.getElem_cons_zero] at h0
    rw [pairsOk, h0, pairsOk_true l l2 xs ys (by simpa using h) (fun k h1 h2 => hp (k + 1) (Nat.succ_lt_succ h1) (Nat.succ_lt_succ h2))]
    rfl
theorem pairsOk_get (l l2 : List Col) : ∀ (cs cs2 : List ByteArray), pairsOk l l2 cs cs2 = true → ∀ k (h : k < cs.length) (h2 : k < cs2.length), pairB l l2 cs[k] cs2[k] = true
  | [], _, _, k, h, _ => by simp at h
  | a :: xs, [], _, k, _, h => by simp at h
  | a :: xs, b :: ys, h, k, h1, h2 => by
    rw [pairsOk, Bool.and_eq_true] at h
    cases k with
    | zero => exact h.1
    | succ k => exact pairsOk_get l l2 xs ys h.2 k (by simpa using h1) (by simpa using h2)
theorem pairsOk_len (l l2 : List Col) (cs cs2 : List ByteArray) (h : ¬ cs2.length = cs.length) : pairsOk l l2 cs cs2 = false := by rw [pairsOk_code]; simp [h]
theorem pairsOk_false (l l2 : List Col) (cs cs2 : List ByteArray) (k : Nat) (h : k < cs.length) (h2 : k < cs2.length) (hp : pairB l l2 cs[k] cs2[k] = false) : pairsOk l l2 cs cs2 = false := by
  rw [Bool.eq_false_iff]; intro ha
  rw [pairsOk_get l l2 cs cs2 ha k h h2] at hp; cases hp

def rulAt (l : List Rul) (s : ByteArray) : Int := idxP (fun c => eqS c.name s) l
def schAt (l : List Sch) (s : ByteArray) : Int := idxP (fun c => eqS c.name s) l
/-- why a foreign rule has not its key; 0: it has -/
def keyT (t : Tab) (l : List Col) (r : Rul) : Int :=
  match t.rules[(rulAt t.rules r.key).toNat]? with
  | some q => if rulAt t.rules r.key < 0 then 61 else if q.kind == 2 then (if pairsOk l t.cols r.cols q.cols then 0 else 63) else 61
  | none => 61
def keyE (ts : List Tab) (l : List Col) (r : Rul) : Int :=
  match ts[(tabAt ts r.schema r.table).toNat]? with
  | some t => if tabAt ts r.schema r.table < 0 then 61 else keyT t l r
  | none => 61
/-- may a rule be? -/
def ruleOk (ts : List Tab) (l : List Col) (r : Rul) : Bool := fitsOk l r && !(r.kind == 4 && keyE ts l r != 0)
def rightT (o : Objs) (t : Tab) : Bool :=
  nameB t.name && nameB t.owner && colsOk t.cols && decide (t.rules.length ≤ 8) && decide (0 ≤ schAt o.schemas t.schema) && (t.rules.all (ruleOk o.tables t.cols) && risesB (fun a b => cmpS a.name b.name) t.rules)
def schOk (o : Objs) (s : Sch) : Bool := nameB s.name && nameB s.owner && decide (within o.tables s.name ≤ 8)
def headOk (o : Objs) : Bool := decide (o.schemas.length ≤ 8) && decide (o.tables.length ≤ 64) && risesB (fun a b => or2 (cmpS a.schema b.schema) (cmpS a.name b.name)) o.tables && risesB (fun a b => cmpS a.name b.name) o.schemas
def checkO (o : Objs) : Bool := headOk o && (o.schemas.all (schOk o) && o.tables.all (rightT o))
end Go.Proofs.Yticjnndhpfdajaa
