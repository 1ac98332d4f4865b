/- Contracts of the program, part 4. -/
import Derived.ProofKit
import Derived.OpenShut
import Derived.Deep.Slices
import Derived.ChangeOld
import Derived.SizedLaws
import Derived.WalkKit
import Derived.WalkSpells
import Derived.WalkLawsBesides
import Derived.Lib.Hide
import Derived.Deep.QuietTactic
import Derived.BigQuiet
import Derived.Below
import Derived.Deep.Draws
import Derived.StillTailTactics
import Derived.Laws.Cells
import Derived.Laws.IdiomCopy
import Derived.Test.YtiadkchlkdaceaaGreatRows
import Derived.Lib.Bytealg
import Derived.OwnWalk
import Derived.Laws.AppendOwn
import Derived.IntWalk
import Derived.ShutString
import Derived.Test.YtiadkchlkdaceaaGreatPartK1
import Derived.Test.YtiadkchlkdaceaaGreatPartK2
import Derived.Test.YtiadkchlkdaceaaGreatPartK3
namespace Go.Proofs.YtiadkchlkdaceaaGreat
open Go.RowKit
set_option maxRecDepth 100000
set_option linter.unusedVariables false
theorem hasS_iff (l : List ByteArray) (s : ByteArray) : hasS l s = true ↔ 0 ≤ idxP (fun c => eqS c s) l := by
  induction l with
  | nil => simp [hasS, idxP]
  | cons x l ih =>
    unfold hasS at ih ⊢
    rw [List.any_cons, Bool.or_eq_true, ih]
    simp only [idxP]
    by_cases hx : eqS x s = true
    · rw [if_pos hx]; simp [hx]
    · rw [if_neg hx]
      by_cases hy : idxP (fun c => eqS c s) l < 0
      · rw [if_pos hy]
        constructor
        · intro h; rcases h with h | h
          · exact absurd h hx
          · omega
        · intro h; omega
      · rw [if_neg hy]
        constructor
        · intro h; omega
        · intro h; right; omega
theorem hasS_idx (l : List ByteArray) (s : ByteArray) : hasS l s = decide (0 ≤ idxP (fun c => eqS c s) l) := by
  rw [Bool.eq_iff_iff, hasS_iff]; simp
set_option maxHeartbeats 8000000 in
theorem fits_any (A : Option Addr) (cap : Nat) (l : List Col) (r : Rul) (A2 : Option Addr) (cap2 : Nat) (w : World) (h : SlAt w 3 ColR A cap l) (h2 : SlAt w 1 StrR A2 cap2 r.cols)
    (hn : Small r.name.size) (hs : Small r.schema.size) (ht : Small r.table.size) (hk' : Small r.key.size) :
    Calls Tryz.prog 89 #[.slice A l.length cap, .agg #[.string r.name, .int .i64 r.kind, .slice A2 r.cols.length cap2, .int .i64 r.low, .int .i64 r.high, .string r.schema, .string r.table, .string r.key]] w
      fun e w' => e = .returned (.bool (fitsOk l r)) ∧ Aft w w' := by
  obtain ⟨name, kind, cs, low, high, schema, table, key⟩ := r
  simp only at h2 hn hs ht hk' ⊢
  have hlen := h.len
  have hlen2 := h2.len
  cases hN : nameB name
  · have HF := Lib.hid (show fitsOk l ⟨name, kind, cs, low, high, schema, table, key⟩ = false by simp [fitsOk, hN])
    go_enter Tryz.func89, Tryz.ntmps89
    go_wp2_with (go_at_call 56; refine (name_any _ _ (by first | exact hn.max | exact hs.max | exact ht.max | exact hk'.max)).mono ?_; rintro e w' ⟨rfl, rfl⟩)
    go_ret
    exact ⟨by rw [HF.out]; rfl, (Aft.refl _).alloc _⟩
  by_cases hz0 : cs.length < 1
  · have HF := Lib.hid (show fitsOk l ⟨name, kind, cs, low, high, schema, table, key⟩ = false by
      have : cs.length = 0 := by omega
      simp [fitsOk, this])
    go_enter Tryz.func89, Tryz.ntmps89
    go_wp2_with (go_at_call 56; refine (name_any _ _ (by first | exact hn.max | exact hs.max | exact ht.max | exact hk'.max)).mono ?_; rintro e w' ⟨rfl, rfl⟩)
    go_ret
    exact ⟨by rw [HF.out]; rfl, (Aft.refl _).alloc _⟩
  by_cases hzl : l.length < cs.length
  · have HF := Lib.hid (show fitsOk l ⟨name, kind, cs, low, high, schema, table, key⟩ = false by
      have : rcOk l cs = false := by
        cases hrc : rcOk l cs with
        | false => rfl
        | true => have := rc_len l cs hrc; omega
      simp [fitsOk, this])
    have hpos : 1 ≤ cs.length := by omega
    clear hz0
    go_enter Tryz.func89, Tryz.ntmps89
    go_wp2_with (go_at_call 56; refine (name_any _ _ (by first | exact hn.max | exact hs.max | exact ht.max | exact hk'.max)).mono ?_; rintro e w' ⟨rfl, rfl⟩)
    go_ret
    exact ⟨by rw [HF.out]; rfl, (Aft.refl _).alloc _⟩
  have hpos : 1 ≤ cs.length := by omega
  have hll : cs.length ≤ l.length := by omega
  have bb1 : decide ((cs.length : Int) < 1) = false := decide_eq_false (by omega)
  have bb2 : decide (l.length < cs.length) = false := decide_eq_false (by omega)
  have bb3 : decide ((l.length : Int) < (cs.length : Int)) = false := decide_eq_false (by omega)
  clear hz0 hzl
  go_enter Tryz.func89, Tryz.ntmps89
  go_wp2_with (go_at_call 56; refine (name_any _ _ (by first | exact hn.max | exact hs.max | exact ht.max | exact hk'.max)).mono ?_; rintro e w' ⟨rfl, rfl⟩)
  go_loopw [29] (fun i wr => ∃ k : Nat, k ≤ cs.length ∧ i = .int .i64 k ∧ Aft (w.alloc (.cells #[.string name, .int .i64 kind, .slice A2 cs.length cap2, .int .i64 low, .int .i64 high, .string schema, .string table, .string key] 108)) wr ∧ ∀ j, j < k → ∀ (hj : j < cs.length), (decide (0 ≤ colAt l cs[j]) && !(hasS (cs.take j) cs[j])) = true) (fun i _ => cs.length - (intOf i).toNat)
  case atStart => exact ⟨0, Nat.zero_le _, rfl, Aft.refl _, fun j hj => absurd hj (Nat.not_lt_zero j)⟩
  case round =>
    obtain ⟨k, hk, rfl, ha, hp⟩ := hrel
    obtain ⟨hbox, hfr, hz, hzk, HA⟩ := aft_box ha
    have HAB := Lib.hid ha
    have HP := Lib.hid hp; clear hp
    have hsl := cols_aft HA.out h
    have hsl2 := strs_aft HA.out h2
    clear ha
    by_cases hlt : k < cs.length
    · obtain ⟨b, off, rfl, hb, c0, hss⟩ := str_at hsl2 hlt
      obtain ⟨i, hi⟩ : ∃ i, colAt l cs[k] = i := ⟨_, rfl⟩
      obtain ⟨m, hm⟩ : ∃ m, idxP (fun c => eqS c cs[k]) cs = m := ⟨_, rfl⟩
      have Cby := Lib.hid (show Calls Tryz.prog 113 #[.slice A l.length cap, .string cs[k], .func (.func 114) #[] #[]] wr fun e w' => e = .returned (.int .i64 i) ∧ Aft wr w' from
        (byCol A cap l cs[k] wr hsl).mono fun e w' ⟨he, hw⟩ => ⟨he.trans (by rw [← hi]; rfl), hw⟩)
      have Cidx := Lib.hid (show ∀ w', Aft wr w' → Calls Tryz.prog 117 #[.slice (some ⟨b, off, none⟩) cs.length cap2, .string cs[k]] w' fun e w'' => e = .returned (.int .i64 m) ∧ w' = w'' from
        fun w' ha' => (sidx_any _ cap2 cs cs[k] w' (strs_aft ha' hsl2)).mono fun e w'' ⟨he, hw⟩ => ⟨he.trans (by rw [← hm]), hw⟩)
      have HI := Lib.hid hi
      have HM := Lib.hid hm
      clear hi hm hsl hsl2
      by_cases hi0 : i < 0
      · go_wp2_with fail
        refine Cby.out.mono ?_
        rintro e w1 ⟨rfl, a1⟩
        have HA1 := Lib.hid (HA.out.trans a1)
        clear a1
        go_wp2_with fail
        go_ret
        exact ⟨by rw [show fitsOk l ⟨name, kind, cs, low, high, schema, table, key⟩ = false by unfold fitsOk; rw [rcOk_false l cs k hlt (by rw [HI.out, decide_eq_false (by omega)]; rfl)]; rfl]; rfl, HA1.out⟩
      · have hi1 : 0 ≤ i := by omega
        have hd : decide (i < 0) = false := decide_eq_false hi0
        by_cases hmk : m = k
        · have e1 : (m != (k : Int)) = false := by simp [hmk]
          have HMK := Lib.hid hmk
          clear hmk
          go_wp2_with fail
          refine Cby.out.mono ?_
          rintro e w1 ⟨rfl, a1⟩
          obtain ⟨hbox1, hfr1, hz1, hzk1, HA1⟩ := aft_box (HAB.out.trans a1)
          have HAB1 := Lib.hid (HAB.out.trans a1)
          have HW1 := Lib.hid a1
          clear a1 hbox hfr hz hzk
          go_wp2_with fail
          refine (Cidx.out _ HW1.out).mono ?_
          rintro e w2 ⟨rfl, rfl⟩
          go_wp2_with fail
          go_roundw
          case rel =>
            refine ⟨k + 1, by omega, by go_num, HAB1.out, ext_lt (p := fun j => ∀ (hj : j < cs.length), (decide (0 ≤ colAt l cs[j]) && !(hasS (cs.take j) cs[j])) = true) HP.out (fun _ => ?_)⟩
            rw [HI.out, decide_eq_true hi1, hasS_idx, decide_eq_false]
            · rfl
            · intro h0
              have q1 := (idxP_miss (fun c => eqS c cs[k]) cs k hlt h0).1
              have q2 := HM.out
              have q3 := HMK.out
              omega
          case measure => simp [intOf]; omega
        · have e1 : (m != (k : Int)) = true := by rw [bne_iff_ne]; exact hmk
          have HMK := Lib.hid hmk
          clear hmk
          go_wp2_with fail
          refine Cby.out.mono ?_
          rintro e w1 ⟨rfl, a1⟩
          obtain ⟨hbox1, hfr1, hz1, hzk1, HA1⟩ := aft_box (HAB.out.trans a1)
          have HW1 := Lib.hid a1
          clear a1 hbox hfr hz hzk
          go_wp2_with fail
          refine (Cidx.out _ HW1.out).mono ?_
          rintro e w2 ⟨rfl, rfl⟩
          go_wp2_with fail
          go_ret
          have hf : (decide (0 ≤ colAt l cs[k]) && !(hasS (cs.take k) cs[k])) = false := by
            rw [hasS_idx, decide_eq_true (p := 0 ≤ idxP (fun c => eqS c cs[k]) (cs.take k)), Bool.not_true, Bool.and_false]
            refine Int.not_lt.1 fun h0 => ?_
            exact HMK.out (HM.out.symm.trans (idxP_hit (fun c => eqS c cs[k]) cs k hlt (eqS_refl _) h0))
          exact ⟨by rw [show fitsOk l ⟨name, kind, cs, low, high, schema, table, key⟩ = false by unfold fitsOk; rw [rcOk_false l cs k hlt hf]; rfl]; rfl, HA1.out⟩
    · have hrc := rcOk_true l cs (fun j hj hj' => HP.out j (by omega) hj')
      have HF := Lib.hid (show fitsOk l ⟨name, kind, cs, low, high, schema, table, key⟩ = ruleRest l ⟨name, kind, cs, low, high, schema, table, key⟩ by
        have : ¬ cs.length = 0 := by omega
        simp [fitsOk, hrc, hN, this])
      have hc0 : 0 ≤ colAt l cs[0] := by have := HP.out 0 (by omega) hpos; simp at this; exact this.1
      clear hrc
      have z1 : schema.size + table.size ≤ 9223372036854775807 := by unfold Small at *; omega
      have z2 : schema.size + table.size + key.size ≤ 9223372036854775807 := by unfold Small at *; omega
      by_cases k1 : kind = 1
      · subst k1
        go_wp2_with (go_at_call 56; refine (name_any _ _ (by first | exact hn.max | exact hs.max | exact ht.max | exact hk'.max)).mono ?_; rintro e w' ⟨rfl, rfl⟩)
        all_goals
          go_ret
          refine ⟨Eq.trans (b := .returned (.bool _)) rfl (ret_of (bool_of ?_)), HA.out⟩
          rw [HF.out]
          clear HF HA HAB HP hbox hfr hz hzk hsl hsl2 h h2
          simp_all [ruleRest, emp, cat_nil_iff]
      by_cases k2 : kind = 2
      · subst k2
        go_wp2_with (go_at_call 56; refine (name_any _ _ (by first | exact hn.max | exact hs.max | exact ht.max | exact hk'.max)).mono ?_; rintro e w' ⟨rfl, rfl⟩)
        all_goals
          go_ret
          refine ⟨Eq.trans (b := .returned (.bool _)) rfl (ret_of (bool_of ?_)), HA.out⟩
          rw [HF.out]
          clear HF HA HAB HP hbox hfr hz hzk hsl hsl2 h h2
          simp_all [ruleRest, emp, cat_nil_iff]
      by_cases k4 : kind = 4
      · subst k4
        go_wp2_with (go_at_call 56; refine (name_any _ _ (by first | exact hn.max | exact hs.max | exact ht.max | exact hk'.max)).mono ?_; rintro e w' ⟨rfl, rfl⟩)
        all_goals
          go_ret
          refine ⟨Eq.trans (b := .returned (.bool _)) rfl (ret_of (bool_of ?_)), HA.out⟩
          rw [HF.out]
          clear HF HA HAB HP hbox hfr hz hzk hsl hsl2 h h2
          simp_all [ruleRest]
      by_cases k3 : kind = 3
      · subst k3
        obtain ⟨q, hq⟩ := Int.eq_ofNat_of_zero_le hc0
        have hql : q < l.length := by have := (idxP_range (fun c => eqS c.name cs[0]) l).2; unfold colAt at hq; omega
        obtain ⟨b, off, rfl, hb, c0, hss⟩ := str_at hsl2 hpos
        obtain ⟨b2, off2, rfl, hb2, d0, d1, d2, hss2⟩ := col_at hsl hql
        have c0' : wr.cell? ⟨b, off, none⟩ = some (.string cs[0]) := by simpa using c0
        have Ccol := Lib.hid (show Calls Tryz.prog 113 #[.slice (some ⟨b2, off2, none⟩) l.length cap, .string cs[0], .func (.func 114) #[] #[]] wr fun e w' => e = .returned (.int .i64 q) ∧ Aft wr w' from
          (byCol _ cap l cs[0] wr hsl).mono fun e w' ⟨he, hw⟩ => ⟨he.trans (by rw [← show colAt l cs[0] = (q : Int) from hq]; rfl), hw⟩)
        have HK := Lib.hid (show kindAt l (colAt l (cs.headD ByteArray.empty)) = l[q].kind by
          have e1 : cs.headD ByteArray.empty = cs[0] := by cases cs with | nil => simp at hpos | cons a t => rfl
          rw [e1, hq]; simp [kindAt, List.getElem?_eq_getElem hql])
        have HA3 := HA
        clear hc0 hq c0
        go_wp2_with (first | (go_at_call 56; refine (name_any _ _ (by first | exact hn.max | exact hs.max | exact ht.max | exact hk'.max)).mono ?_; rintro e w' ⟨rfl, rfl⟩) | (go_at_call 113; refine Ccol.out.mono ?_; rintro e w2 ⟨rfl, a2⟩; obtain ⟨hbox2, hfr2, hz2, hzk2, HA2⟩ := aft_box (HAB.out.trans a2); have d1' := (Below.cell a2 (p := ⟨b2, off2 + q * 3 + 1, none⟩) hb2).trans d1; clear a2 hbox hfr hz hzk c0' d0 d1 d2 HA))
        all_goals
          go_ret
          refine ⟨Eq.trans (b := .returned (.bool _)) rfl (ret_of (bool_of ?_)), by first | exact HA2.out | exact HA3.out⟩
          rw [HF.out]
          have hkk := HK.out
          clear HF HA3 HAB HP hsl hsl2 h h2 HK Ccol
          simp_all [ruleRest, emp, cat_nil_iff]
      · have q1 : (kind == 1) = false := by simp [k1]
        have q2 : (kind == 2) = false := by simp [k2]
        have q3 : (kind == 3) = false := by simp [k3]
        have q4 : (kind == 4) = false := by simp [k4]
        go_wp2_with (go_at_call 56; refine (name_any _ _ (by first | exact hn.max | exact hs.max | exact ht.max | exact hk'.max)).mono ?_; rintro e w' ⟨rfl, rfl⟩)
        all_goals
          go_ret
          refine ⟨Eq.trans (b := .returned (.bool _)) rfl (ret_of (bool_of ?_)), HA.out⟩
          rw [HF.out]
          clear HF HA HAB HP hbox hfr hz hzk hsl hsl2 h h2
          simp_all [ruleRest]
end Go.Proofs.YtiadkchlkdaceaaGreat

namespace Go.Proofs.YtiadkchlkdaceaaGreat
open Go.RowKit
set_option linter.unusedVariables false
/-- do columns go with columns, one by one? -/
def pairB (l : List Col) (l2 : List Col) (a b : ByteArray) : Bool := decide (0 ≤ colAt l a) && decide (0 ≤ colAt l2 b) && (kindAt l (colAt l a) == kindAt l2 (colAt l2 b))
def pairsOk (l : List Col) (l2 : List Col) : List ByteArray → List ByteArray → Bool
  | [], [] => true
  | a :: xs, b :: ys => pairB l l2 a b && pairsOk l l2 xs ys
  | _, _ => false
theorem kindsOf_cons (l : List Col) (a : ByteArray) (cs : List ByteArray) : kindsOf l (a :: cs) = if 0 ≤ colAt l a then kindAt l (colAt l a) :: kindsOf l cs else kindsOf l cs := by
  unfold kindsOf
  by_cases h : 0 ≤ colAt l a <;> simp [h]
theorem pairsOk_code (l l2 : List Col) : ∀ (cs cs2 : List ByteArray), pairsOk l l2 cs cs2 = (decide (cs2.length = cs.length) && decide ((kindsOf l2 cs2).length = cs2.length) && decide (kindsOf l cs = kindsOf l2 cs2))
  | [], [] => by simp [pairsOk, kindsOf]
  | [], b :: ys => by simp [pairsOk]
  | a :: xs, [] => by simp [pairsOk]
  | a :: xs, b :: ys => by
    have ih := pairsOk_code l l2 xs ys
    have hb := kindsOf_le l2 ys
    have ha := kindsOf_le l xs
    rw [pairsOk, ih, kindsOf_cons, kindsOf_cons]
    unfold pairB
    by_cases h1 : 0 ≤ colAt l a
    · by_cases h2 : 0 ≤ colAt l2 b
      · by_cases h3 : kindAt l (colAt l a) = kindAt l2 (colAt l2 b) <;> simp [h1, h2, h3]
      · have h4 : ¬ (kindsOf l2 ys).length = ys.length + 1 := by omega
        simp [h1, h2, h4]
    · by_cases h2 : 0 ≤ colAt l2 b
      · rw [if_neg h1, if_pos h2]
        simp only [h1, decide_false, Bool.false_and]
        symm
        rw [Bool.eq_false_iff]
        intro h
        simp only [Bool.and_eq_true, decide_eq_true_eq, List.length_cons] at h
        obtain ⟨⟨e1, e2⟩, e3⟩ := h
        have := congrArg List.length e3
        simp only [List.length_cons] at this
        omega
      · have h4 : ¬ (kindsOf l2 ys).length = ys.length + 1 := by omega
        simp [h1, h2, h4]
theorem pairsOk_true (l l2 : List Col) : ∀ (cs cs2 : List ByteArray), cs2.length = cs.length → (∀ k (h : k < cs.length) (h2 : k < cs2.length), pairB l l2 cs[k] cs2[k] = true) → pairsOk l l2 cs cs2 = true
  | [], [], _, _ => rfl
  | [], b :: ys, h, _ => by simp at h
  | a :: xs, [], h, _ => by simp at h
  | a :: xs, b :: ys, h, hp => by
    have h0 := hp 0 (by simp) (by simp)
    simp only [List.getElem_cons_zero] at h0
    rw [pairsOk, h0, pairsOk_true l l2 xs ys (by simpa using h) (fun k h1 h2 => hp (k + 1) (Nat.succ_lt_succ h1) (Nat.succ_lt_succ h2))]
    rfl
theorem pairsOk_get (l l2 : List Col) : ∀ (cs cs2 : List ByteArray), pairsOk l l2 cs cs2 = true → ∀ k (h : k < cs.length) (h2 : k < cs2.length), pairB l l2 cs[k] cs2[k] = true
  | [], _, _, k, h, _ => by simp at h
  | a :: xs, [], _, k, _, h => by simp at h
  | a :: xs, b :: ys, h, k, h1, h2 => by
    rw [pairsOk, Bool.and_eq_true] at h
    cases k with
    | zero => exact h.1
    | succ k => exact pairsOk_get l l2 xs ys h.2 k (by simpa using h1) (by simpa using h2)
theorem pairsOk_len (l l2 : List Col) (cs cs2 : List ByteArray) (h : ¬ cs2.length = cs.length) : pairsOk l l2 cs cs2 = false := by rw [pairsOk_code]; simp [h]
theorem pairsOk_false (l l2 : List Col) (cs cs2 : List ByteArray) (k : Nat) (h : k < cs.length) (h2 : k < cs2.length) (hp : pairB l l2 cs[k] cs2[k] = false) : pairsOk l l2 cs cs2 = false := by
  rw [Bool.eq_false_iff]; intro ha
  rw [pairsOk_get l l2 cs cs2 ha k h h2] at hp; cases hp

def rulAt (l : List Rul) (s : ByteArray) : Int := idxP (fun c => eqS c.name s) l
def schAt (l : List Sch) (s : ByteArray) : Int := idxP (fun c => eqS c.name s) l
/-- why a foreign rule has not its key; 0: it has -/
def keyT (t : Tab) (l : List Col) (r : Rul) : Int :=
  match t.rules[(rulAt t.rules r.key).toNat]? with
  | some q => if rulAt t.rules r.key < 0 then 61 else if q.kind == 2 then (if pairsOk l t.cols r.cols q.cols then 0 else 63) else 61
  | none => 61
def keyE (ts : List Tab) (l : List Col) (r : Rul) : Int :=
  match ts[(tabAt ts r.schema r.table).toNat]? with
  | some t => if tabAt ts r.schema r.table < 0 then 61 else keyT t l r
  | none => 61
/-- may a rule be? -/
def ruleOk (ts : List Tab) (l : List Col) (r : Rul) : Bool := fitsOk l r && !(r.kind == 4 && keyE ts l r != 0)
def rightT (o : Objs) (t : Tab) : Bool :=
  nameB t.name && nameB t.owner && colsOk t.cols && decide (t.rules.length ≤ 8) && decide (0 ≤ schAt o.schemas t.schema) && (t.rules.all (ruleOk o.tables t.cols) && risesB (fun a b => cmpS a.name b.name) t.rules)
def schOk (o : Objs) (s : Sch) : Bool := nameB s.name && nameB s.owner && decide (within o.tables s.name ≤ 8)
def headOk (o : Objs) : Bool := decide (o.schemas.length ≤ 8) && decide (o.tables.length ≤ 64) && risesB (fun a b => or2 (cmpS a.schema b.schema) (cmpS a.name b.name)) o.tables && risesB (fun a b => cmpS a.name b.name) o.schemas
def checkO (o : Objs) : Bool := headOk o && (o.schemas.all (schOk o) && o.tables.all (rightT o))
end Go.Proofs.YtiadkchlkdaceaaGreat

namespace Go.Proofs.YtiadkchlkdaceaaGreat
open Go.RowKit
set_option linter.unusedVariables false
def bareR (r : Rul) : Rul := if r.kind == 4 && nameB r.schema && nameB r.table && nameB r.key then { r with kind := 1, schema := ⟨#[]⟩, table := ⟨#[]⟩, key := ⟨#[]⟩ } else r
def aloneO (t : Tab) : Objs := ⟨[⟨⟨#[115]⟩, ⟨#[111]⟩⟩], [⟨⟨#[115]⟩, ⟨#[116]⟩, ⟨#[111]⟩, t.cols, t.rules.map bareR⟩]⟩
/-- is a table right by itself? -/
def tableOk (t : Tab) : Bool := colsOk t.cols && decide (t.rules.length ≤ 8) && (t.rules.all (fitsOk t.cols) && risesB (fun a b => cmpS a.name b.name) t.rules)
theorem mixed_len {α : Type} (f : α → α) (l : List α) (k : Nat) (hk : k ≤ l.length) : ((l.take k).map f ++ l.drop k).length = l.length := by simp; omega
theorem mixed_get {α : Type} (f : α → α) (l : List α) (k : Nat) (hk : k < l.length) (h : k < ((l.take k).map f ++ l.drop k).length) : ((l.take k).map f ++ l.drop k)[k] = l[k] := by
  have e : ((l.take k).map f).length = k := by simp; omega
  rw [List.getElem_append_right (by omega)]
  simp only [e, Nat.sub_self, List.getElem_drop, Nat.add_zero]
theorem mixed_step {α : Type} (f : α → α) (l : List α) (k : Nat) (hk : k < l.length) : ((l.take k).map f ++ l.drop k).set k (f l[k]) = (l.take (k + 1)).map f ++ l.drop (k + 1) := by
  have e : ((l.take k).map f).length = k := by simp; omega
  rw [List.set_append_right _ _ (by omega), e, Nat.sub_self, List.drop_eq_getElem_cons hk, List.set_cons_zero, List.take_succ_eq_append_getElem hk, List.map_append, List.append_assoc]
  rfl
theorem mixed_same {α : Type} (f : α → α) (l : List α) (k : Nat) (hk : k < l.length) (h : f l[k] = l[k]) : (l.take k).map f ++ l.drop k = (l.take (k + 1)).map f ++ l.drop (k + 1) := by
  rw [← mixed_step f l k hk, h]
  have hl : k < ((l.take k).map f ++ l.drop k).length := by rw [mixed_len f l k (by omega)]; exact hk
  have e : (((l.take k).map f ++ l.drop k).set k l[k]) = ((l.take k).map f ++ l.drop k).set k (((l.take k).map f ++ l.drop k)[k]'hl) := by rw [mixed_get f l k hk hl]
  rw [e, List.set_getElem_self]
theorem emp_nil : emp ⟨#[]⟩ = true := by decide +kernel
theorem fits_bare (l : List Col) (r : Rul) : (bareR r).cols = r.cols ∧ (bareR r).name = r.name ∧ ∀ ts, ruleOk ts l (bareR r) = fitsOk l r := by
  unfold bareR
  by_cases h : (r.kind == 4 && nameB r.schema && nameB r.table && nameB r.key) = true
  · rw [if_pos h]
    refine ⟨rfl, rfl, fun ts => ?_⟩
    simp only [Bool.and_eq_true, beq_iff_eq] at h
    obtain ⟨⟨⟨h4, h1⟩, h2⟩, h3⟩ := h
    simp [ruleOk, fitsOk, ruleRest, h4, h1, h2, h3, emp_nil]
  · rw [if_neg h]
    refine ⟨rfl, rfl, fun ts => ?_⟩
    by_cases h4 : r.kind = 4
    · have hr : ruleRest l r = false := by
        simp only [h4, beq_self_eq_true, Bool.true_and, Bool.and_eq_true, not_and, Bool.not_eq_true] at h
        cases h1 : nameB r.schema <;> cases h2 : nameB r.table <;> cases h3 : nameB r.key <;> simp_all [ruleRest]
      simp [ruleOk, fitsOk, hr]
    · have e : (r.kind == 4) = false := by simpa using h4
      simp [ruleOk, e]
theorem rises_map {α : Type} (c : α → α → Int) (f : α → α) (hc : ∀ x y, c (f x) (f y) = c x y) : ∀ l : List α, risesB c (l.map f) = risesB c l
  | [] => rfl
  | [_] => rfl
  | x :: y :: l => by
    have := rises_map c f hc (y :: l)
    simp only [List.map_cons] at this ⊢
    rw [risesB, risesB, hc, this]
theorem schAt_one : schAt [⟨⟨#[115]⟩, ⟨#[111]⟩⟩] ⟨#[115]⟩ = 0 := by decide +kernel
theorem name_s : nameB ⟨#[115]⟩ = true := by decide +kernel
theorem name_t : nameB ⟨#[116]⟩ = true := by decide +kernel
theorem name_o : nameB ⟨#[111]⟩ = true := by decide +kernel
theorem alone_ok (t : Tab) : checkO (aloneO t) = tableOk t := by
  have h1 : (t.rules.map bareR).all (ruleOk (aloneO t).tables t.cols) = t.rules.all (fitsOk t.cols) := by
    rw [List.all_map]
    congr 1
    funext r
    exact (fits_bare t.cols r).2.2 _
  have h2 : risesB (fun a b : Rul => cmpS a.name b.name) (t.rules.map bareR) = risesB (fun a b => cmpS a.name b.name) t.rules :=
    rises_map _ _ (fun x y => by rw [(fits_bare t.cols x).2.1, (fits_bare t.cols y).2.1]) _
  have h3 : rightT (aloneO t) ⟨⟨#[115]⟩, ⟨#[116]⟩, ⟨#[111]⟩, t.cols, t.rules.map bareR⟩ = tableOk t := by
    unfold rightT tableOk
    simp only [h1, h2, name_t, name_o, Bool.true_and, List.length_map]
    rw [show schAt (aloneO t).schemas ⟨#[115]⟩ = 0 from schAt_one]
    simp
  have h4 : within (aloneO t).tables ⟨#[115]⟩ ≤ 8 := Nat.le_trans (within_le _ _) (by simp [aloneO])
  have h5 : schOk (aloneO t) ⟨⟨#[115]⟩, ⟨#[111]⟩⟩ = true := by unfold schOk; simp [name_s, name_o, h4]
  unfold checkO headOk
  have e1 : (aloneO t).schemas.all (schOk (aloneO t)) = true := by show List.all [_] _ = true; simp [h5]
  have e2 : (aloneO t).tables.all (rightT (aloneO t)) = tableOk t := by show List.all [_] _ = _; simp [h3]
  rw [e1, e2]
  simp [aloneO, risesB]
end Go.Proofs.YtiadkchlkdaceaaGreat

namespace Go.Proofs.YtiadkchlkdaceaaGreat
open Go.ChangeShapes Go.WideShapes Go.ChangeAt Go.RowKit

section
variable {H : Type} {enc : TypeId × Value → H} {P : Program} {w : World}

/-- an argument that reads -/
def RdV (enc : TypeId × Value → H) (P : Program) (w : World) (t : TypeId) (v : Value) : Prop :=
  Rd enc P w t v.cells.toList ∧ ∃ base, Value.okWide P w .any base t v

theorem RdV.struct {t : TypeId} {fs : Array Field} {v : Value} (ht : P.underlying t = some (.struct fs)) (h : RdV enc P w t v) : ∃ cs : List Value, v = .agg cs.toArray ∧ Rd enc P w t cs := by
  obtain ⟨h1, base, h2⟩ := h
  obtain ⟨cs, rfl, _⟩ := okWide_struct ht h2
  exact ⟨cs.toList, by simp, h1⟩
theorem cell_of_cells {v x : Value} (h : v.cells.toList = [x]) (hn : ∀ cs, v ≠ .agg cs) : v = x := by
  cases v <;> simp [Value.cells] at h <;> first | exact h | exact absurd rfl (hn _)
theorem okWide_not_agg {t : TypeId} {v : Value} {base : Nat} {d : TypeDesc} (ht : P.underlying t = some d) (hd : (∀ fs, d ≠ .struct fs) ∧ (∀ n e, d ≠ .array n e)) (h : Value.okWide P w .any base t v) : ∀ cs, v ≠ .agg cs := by
  intro cs e
  subst e
  unfold Value.okWide at h
  rw [ht] at h
  cases d <;> simp_all [Cell.okWide, Cell.ok]
theorem RdV.string {t : TypeId} {v : Value} (ht : P.underlying t = some .string) (h : RdV enc P w t v) : ∃ s : ByteArray, v = .string s ∧ Small s.size := by
  obtain ⟨h1, base, h2⟩ := h
  obtain ⟨s, hc, hs⟩ := h1.string ht
  exact ⟨s, cell_of_cells hc (okWide_not_agg ht (by simp) h2), hs⟩
theorem RdV.int {t : TypeId} {k : IntKind} {v : Value} (ht : P.underlying t = some (.int k)) (h : RdV enc P w t v) : ∃ n : Int, v = .int k n ∧ (Lit.int k n).wf = true := by
  obtain ⟨h1, base, h2⟩ := h
  obtain ⟨s, hc, hs⟩ := h1.int ht
  exact ⟨s, cell_of_cells hc (okWide_not_agg ht (by simp) h2), hs⟩
theorem RdV.slice {t e : TypeId} {v : Value} (ht : P.underlying t = some (.slice e)) (h : RdV enc P w t v) : Rd enc P w t [v] := by
  obtain ⟨h1, base, h2⟩ := h
  have hn := okWide_not_agg ht (by simp) h2
  have : v.cells.toList = [v] := by cases v <;> first | rfl | exact absurd rfl (hn _)
  rwa [this] at h1

theorem trodAll_rd : ∀ {ts : List TypeId} {vs : List Value} {ds : List (DataW H)} {p : List MemPlace}, DataW.TrodAll enc P w 0 (fun _ => true) true ts vs ds p → (∀ n ∈ DataW.weightsEach P ts ds, n ≤ 140737488351232) →
    vs.length = ts.length ∧ ds.length = ts.length ∧ ∀ (j : Nat) (t : TypeId) (v : Value), ts[j]? = some t → vs[j]? = some v → Rd enc P w t v.cells.toList
  | [], vs, ds, p, h, _ => by
    cases vs <;> cases ds <;> simp [DataW.TrodAll] at h
    exact ⟨rfl, rfl, fun j t v ht => by simp at ht⟩
  | t :: ts, vs, ds, p, h, hw => by
    obtain ⟨v, vs', d, ds', p1, q1, rfl, rfl, rfl, ⟨fuel, h1⟩, h2⟩ := trodAll_cons h
    simp only [DataW.weightsEach, List.mem_append] at hw
    obtain ⟨l1, l2, ih⟩ := trodAll_rd h2 (fun n hn => hw n (.inr hn))
    refine ⟨by simp [l1], by simp [l2], fun j t' v' ht hv => ?_⟩
    cases j with
    | zero =>
      simp at ht hv
      subst ht; subst hv
      exact ⟨fuel, _, h1, fun n hn => hw n (.inl hn)⟩
    | succ j => exact ih j t' v' (by simpa using ht) (by simpa using hv)
theorem trodAll_below {W W' : World} (hl : laidOutB P = true) (hb : Below W.heap.size W W') : ∀ {ts : List TypeId} {vs : List Value} {ds : List (DataW H)} {p : List MemPlace}, (∀ t ∈ ts, P.readableRec t = true ∧ t < P.types.size) →
    DataW.TrodAll enc P W 0 (fun _ => true) true ts vs ds p → DataW.TrodAll enc P W' 0 (fun b => decide (b < W.heap.size)) true ts vs ds p
  | [], vs, ds, p, _, h => by
    cases vs <;> cases ds <;> simp [DataW.TrodAll] at h ⊢
    exact h
  | t :: ts, vs, ds, p, ht, h => by
    obtain ⟨v, vs', d, ds', p1, q1, rfl, rfl, rfl, h1, h2⟩ := trodAll_cons h
    have lt0 : ∀ x ∈ p1, x.block < W.heap.size := by obtain ⟨m, hm⟩ := h1; exact DataW.trod_lt m _ _ _ hm
    exact trodAll_cons_mk (Below.trod hl (ht t (by simp)).1 (ht t (by simp)).2 h1 hb lt0) (trodAll_below hl hb (fun x hx => ht x (by simp [hx])) h2)
end

theorem law_lifted {C : Checked} {os : Os} {f : FuncId} {fn : Func} {s : ChangeSpec} {tb : TypeId} (H : Type) (enc : TypeId × Value → H)
    (own : ownKnob C.prog.godebug = none) (started : os.Started) (noInit : C.prog.inits.idxOf? f = none) (hfn : C.prog.funcs[f]? = some fn)
    (witness : ∃ (w : World) (tape : Tape) (i : Input), w.os = os ∧ (w.forCall tape i).Shaped C.prog ∧ i.vars = [] ∧ Input.okWide C.prog (w.forCall tape i) .any w.heap.size f i ∧
      s.pre6 enc C.prog fn [] false (w.forCall tape i).memory i.args ∧ ({} : Assume).holds C.prog (lone (Frame.enter C.prog f i.args .normal) [] (w.forCall tape i)))
    (hvars : s.vars = []) (hres : fn.resultTypes = #[tb]) (htb : C.prog.underlying tb = some .bool)
    (hspec : ∀ ds : List (DataW H), ds.length = fn.params.size → s.fn H ds = { results := [.lit (.bool true)], args := ds })
    (laid : laidOutB C.prog = true) (hty : ∀ t ∈ fn.params.toList, C.prog.readableRec t = true ∧ t < C.prog.types.size)
    (walk : ∀ (W : World) (vs : List Value), vs.length = fn.params.size → (∀ (j : Nat) (t : TypeId) (v : Value), fn.params[j]? = some t → vs[j]? = some v → RdV enc C.prog W t v) → Calls C.prog f vs.toArray W fun e w' => e = .returned (.bool true) ∧ Aft W w') :
    ReturnsInHanded {} C os f .any (s.pre6 enc C.prog fn [] false) (s.post enc C.prog fn false true false false) := by
  refine returnsInHanded_of_change_sized own started noInit hfn witness ?_
  intro W base args ds gs before hval hW _ hsz _
  have hW' := hW
  obtain ⟨p, q, hA, hV, rfl, _, _⟩ := hW
  rw [hvars] at hV
  obtain ⟨rfl, rfl⟩ := trodVars_none hV
  have hw : ∀ n ∈ DataW.weightsEach C.prog fn.params.toList ds, n ≤ 140737488351232 := by
    have e : s.plain.varTypes C.prog = [] := by
      simp [ChangeSpec.plain, hvars, DataSpec.varTypes]
    rw [e, List.append_nil, List.append_nil] at hsz
    intro n hn
    have := List.all_eq_true.1 hsz n hn
    have h2 : n ≤ reachBytes := by simpa using this
    exact h2
  obtain ⟨l1, l2, hrd⟩ := trodAll_rd hA hw
  have hlen : args.toList.length = fn.params.size := by simpa using l1
  refine ((walk W args.toList hlen fun j t v ht hv => ⟨hrd j t v (by simpa using ht) hv, base, hval j t v ht (by simpa using hv)⟩)).mono fun e W' ⟨he, haft⟩ => ?_
  subst he
  have hs := hspec ds (by simpa using l2)
  refine ⟨_, rfl, ds, [], p ++ [], [], p, [], hW', ?_, ?_, ?_, ?_, fun h => by cases h⟩
  · rw [List.append_nil, hs, hres]
    exact trodAll_mk1 (shut_bool htb _)
  · rw [List.append_nil, hs]
    exact trodAll_below laid haft hty hA
  · rw [List.append_nil, hs, hvars]
    rfl
  · exact haft.frame _
end Go.Proofs.YtiadkchlkdaceaaGreat

namespace Go.Proofs.YtiadkchlkdaceaaGreat
open Go.RowKit
set_option maxRecDepth 100000
set_option linter.unusedVariables false
structure Val where
  kind : Int
  int : Int
  text : ByteArray
def ValR (_ : World) (cs : List Value) (v : Val) : Prop := cs = [.int .i64 v.kind, .int .i64 v.int, .string v.text] ∧ Small v.text.size
theorem vals_aft {w w' : World} {A : Option Addr} {cap : Nat} {l : List Val} (hw : Aft w w') (h : SlAt w 3 ValR A cap l) : SlAt w' 3 ValR A cap l := h.aft hw fun _ _ h => h
theorem val_at {w : World} {A : Option Addr} {cap : Nat} {l : List Val} (h : SlAt w 3 ValR A cap l) {k : Nat} (hk : k < l.length) :
    ∃ b off, A = some ⟨b, off, none⟩ ∧ b < w.heap.size ∧ w.cell? ⟨b, off + k * 3, none⟩ = some (.int .i64 l[k].kind) ∧ w.cell? ⟨b, off + k * 3 + 1, none⟩ = some (.int .i64 l[k].int) ∧ w.cell? ⟨b, off + k * 3 + 2, none⟩ = some (.string l[k].text) ∧ Small l[k].text.size := by
  obtain ⟨b, off, cs, hA, hb, hl, ⟨rfl, hs⟩, hc⟩ := h.2.2 k hk
  exact ⟨b, off, hA, hb, by simpa using hc 0 (by omega), by simpa [Nat.add_assoc] using hc 1 (by omega), by simpa [Nat.add_assoc] using hc 2 (by omega), hs⟩
def eqV3 (k n : Int) (s : ByteArray) (k' n' : Int) (s' : ByteArray) : Bool := k == k' && (n == n' && eqS s s')
def eqV (a b : Val) : Bool := eqV3 a.kind a.int a.text b.kind b.int b.text
theorem run_eqVal (w : World) (k n : Int) (s : ByteArray) (k' n' : Int) (s' : ByteArray) :
    (Op.equalIn 10000 37 (.agg #[.int .i64 k, .int .i64 n, .string s]) (.agg #[.int .i64 k', .int .i64 n', .string s'])).run Tryz.prog w = .ok (eqV3 k n s k' n' s') w := by
  cases h1 : (k == k') <;> cases h2 : (n == n') <;> cases h3 : eqS s s' <;> (have h3' := h3; unfold eqS at h3') <;> go_simp <;> simp_all [eqV3]
@[go_sem ↓] theorem run_eqlVal (w : World) (k n : Int) (s : ByteArray) (k' n' : Int) (s' : ByteArray) :
    (binOp .eql 37 (.agg #[.int .i64 k, .int .i64 n, .string s]) (.agg #[.int .i64 k', .int .i64 n', .string s'])).run Tryz.prog w = .ok (.bool (eqV3 k n s k' n' s')) w := by
  rw [run_eql_struct, run_eqVal]; rfl
@[go_sem ↓] theorem run_neqVal (w : World) (k n : Int) (s : ByteArray) (k' n' : Int) (s' : ByteArray) :
    (binOp .neq 37 (.agg #[.int .i64 k, .int .i64 n, .string s]) (.agg #[.int .i64 k', .int .i64 n', .string s'])).run Tryz.prog w = .ok (.bool (!eqV3 k n s k' n' s')) w := by
  rw [run_neq_struct, run_eqVal]; rfl
/-- the same values -/
def eqVs : List Val → List Val → Bool
  | [], [] => true
  | a :: l, b :: m => eqV a b && eqVs l m
  | _, _ => false
theorem eqV_refl (a : Val) : eqV a a = true := by simp [eqV, eqV3, eqS]
theorem eqV_iff (a b : Val) : eqV a b = true ↔ a.kind = b.kind ∧ a.int = b.int ∧ eqS a.text b.text = true := by simp [eqV, eqV3]
theorem eqVs_refl : ∀ l, eqVs l l = true
  | [] => rfl
  | a :: l => by rw [eqVs, eqV_refl, eqVs_refl l]; rfl
theorem eqVs_len : ∀ (l m : List Val), ¬ l.length = m.length → eqVs l m = false
  | [], [], h => absurd rfl h
  | [], _ :: _, _ => rfl
  | _ :: _, [], _ => rfl
  | a :: l, b :: m, h => by rw [eqVs, eqVs_len l m (by simpa using h), Bool.and_false]
theorem eqVs_false : ∀ (l m : List Val) (k : Nat) (h1 : k < l.length) (h2 : k < m.length), eqV l[k] m[k] = false → eqVs l m = false
  | [], _, _, h, _, _ => by simp at h
  | _ :: _, [], _, _, h, _ => by simp at h
  | a :: l, b :: m, 0, _, _, h => by rw [eqVs, show eqV a b = false from h]; rfl
  | a :: l, b :: m, k + 1, h1, h2, h => by rw [eqVs, eqVs_false l m k (by simpa using h1) (by simpa using h2) h, Bool.and_false]
theorem eqVs_true : ∀ (l m : List Val), l.length = m.length → (∀ k (h1 : k < l.length) (h2 : k < m.length), eqV l[k] m[k] = true) → eqVs l m = true
  | [], [], _, _ => rfl
  | [], _ :: _, h, _ => by simp at h
  | _ :: _, [], h, _ => by simp at h
  | a :: l, b :: m, h, hp => by
    rw [eqVs, show eqV a b = true from hp 0 (by simp) (by simp), eqVs_true l m (by simpa using h) fun k h1 h2 => hp (k + 1) (Nat.succ_lt_succ h1) (Nat.succ_lt_succ h2)]; rfl
set_option maxHeartbeats 1000000 in
theorem eqVal_any (A : Option Addr) (cap : Nat) (l : List Val) (A2 : Option Addr) (cap2 : Nat) (l2 : List Val) (w : World) (h : SlAt w 3 ValR A cap l) (h2 : SlAt w 3 ValR A2 cap2 l2) :
    Calls Tryz.prog 129 #[.slice A l.length cap, .slice A2 l2.length cap2] w fun e w' => e = .returned (.bool (eqVs l l2)) ∧ Aft w w' := by
  have hlen := h.len
  have hlen2 := h2.len
  by_cases hl : l.length = l2.length
  · have e1 : ((l.length : Int) != (l2.length : Int)) = false := by simp [hl]
    go_enter Tryz.func129, Tryz.ntmps129
    go_wp2_with fail
    go_loopw [13] (fun i wr => ∃ k : Nat, k ≤ l.length ∧ i = .int .i64 k ∧ Aft w wr ∧ ∀ j, j < k → ∀ (hj : j < l.length) (hj2 : j < l2.length), eqV l[j] l2[j] = true) (fun i _ => l.length - (intOf i).toNat)
    case atStart => exact ⟨0, Nat.zero_le _, rfl, Aft.refl _, fun j hj => absurd hj (Nat.not_lt_zero j)⟩
    case round =>
      obtain ⟨k, hk, rfl, ha, hp⟩ := hrel
      have HA := Lib.hid ha
      have HP := Lib.hid hp; clear hp
      by_cases hlt : k < l.length
      · have hlt2 : k < l2.length := by omega
        obtain ⟨b, off, rfl, hb, c0, c1, c2, _⟩ := val_at (vals_aft ha h) hlt
        obtain ⟨b2, off2, rfl, hb2, d0, d1, d2, _⟩ := val_at (vals_aft ha h2) hlt2
        clear ha
        cases heq : eqV l[k] l2[k]
        · have h3 : eqV3 l[k].kind l[k].int l[k].text l2[k].kind l2[k].int l2[k].text = false := heq
          have HN := Lib.hid (eqVs_false l l2 k hlt hlt2 heq)
          clear heq
          go_wp2_with fail
          refine wp_region_lat (by kernel_rfl) (by kernel_rfl) ?_
          repeat (go_big_quiet_step (fail))
          refine wpQuiet_nil ?_
          intro _ hw'
          obtain ⟨x, hw''⟩ := hw'
          subst hw''
          go_wp2_with fail
          go_ret
          exact ⟨by rw [HN.out]; rfl, HA.out.lat x⟩
        · have h3 : eqV3 l[k].kind l[k].int l[k].text l2[k].kind l2[k].int l2[k].text = true := heq
          have HN := Lib.hid (ext_lt (p := fun j => ∀ (hj : j < l.length) (hj2 : j < l2.length), eqV l[j] l2[j] = true) HP.out (fun _ _ => heq))
          clear heq
          go_wp2_with fail
          refine wp_region_lat (by kernel_rfl) (by kernel_rfl) ?_
          repeat (go_big_quiet_step (fail))
          refine wpQuiet_nil ?_
          intro _ hw'
          obtain ⟨x, hw''⟩ := hw'
          subst hw''
          go_wp2_with fail
          go_roundw
          case rel => exact ⟨k + 1, by omega, by go_num, HA.out.lat x, HN.out⟩
          case measure => simp [intOf]; omega
      · have HN := Lib.hid (eqVs_true l l2 hl fun j hj hj2 => HP.out j (by omega) hj hj2)
        clear ha
        go_wp2_with fail
        go_ret
        exact ⟨by rw [HN.out]; rfl, HA.out⟩
  · have e1 : ((l.length : Int) != (l2.length : Int)) = true := by simp; omega
    have HN := Lib.hid (eqVs_len l l2 hl)
    go_enter Tryz.func129, Tryz.ntmps129
    go_wp2_with fail
    go_ret
    exact ⟨by rw [HN.out]; rfl, Aft.refl _⟩
set_option maxHeartbeats 1000000 in
theorem rsame_any (A : Option Addr) (cap : Nat) (l : List Val) (A2 : Option Addr) (cap2 : Nat) (l2 : List Val) (w : World) (h : SlAt w 3 ValR A cap l) (h2 : SlAt w 3 ValR A2 cap2 l2) :
    Calls Tryz.prog 14 #[.slice A l.length cap, .slice A2 l2.length cap2] w fun e w' => e = .returned (.bool (eqVs l l2)) ∧ Aft w w' := by
  have hlen := h.len
  have hlen2 := h2.len
  by_cases hl : l.length = l2.length
  · have e1 : ((l.length : Int) != (l2.length : Int)) = false := by simp [hl]
    go_enter Tryz.func14, Tryz.ntmps14
    go_wp2_with fail
    go_loopw [5] (fun i wr => ∃ k : Nat, k ≤ l.length ∧ i = .int .i64 k ∧ Aft w wr ∧ ∀ j, j < k → ∀ (hj : j < l.length) (hj2 : j < l2.length), eqV l[j] l2[j] = true) (fun i _ => l.length - (intOf i).toNat)
    case atStart => exact ⟨0, Nat.zero_le _, rfl, Aft.refl _, fun j hj => absurd hj (Nat.not_lt_zero j)⟩
    case round =>
      obtain ⟨k, hk, rfl, ha, hp⟩ := hrel
      have HA := Lib.hid ha
      have HP := Lib.hid hp; clear hp
      by_cases hlt : k < l.length
      · have hlt2 : k < l2.length := by omega
        obtain ⟨b, off, rfl, hb, c0, c1, c2, _⟩ := val_at (vals_aft ha h) hlt
        obtain ⟨b2, off2, rfl, hb2, d0, d1, d2, _⟩ := val_at (vals_aft ha h2) hlt2
        clear ha
        cases heq : eqV l[k] l2[k]
        · have h3 : eqV3 l[k].kind l[k].int l[k].text l2[k].kind l2[k].int l2[k].text = false := heq
          have HN := Lib.hid (eqVs_false l l2 k hlt hlt2 heq)
          clear heq
          go_wp2_with fail
          refine wp_region_lat (by kernel_rfl) (by kernel_rfl) ?_
          repeat (go_big_quiet_step (fail))
          refine wpQuiet_nil ?_
          intro _ hw'
          obtain ⟨x, hw''⟩ := hw'
          subst hw''
          go_wp2_with fail
          go_ret
          exact ⟨by rw [HN.out]; rfl, HA.out.lat x⟩
        · have h3 : eqV3 l[k].kind l[k].int l[k].text l2[k].kind l2[k].int l2[k].text = true := heq
          have HN := Lib.hid (ext_lt (p := fun j => ∀ (hj : j < l.length) (hj2 : j < l2.length), eqV l[j] l2[j] = true) HP.out (fun _ _ => heq))
          clear heq
          go_wp2_with fail
          refine wp_region_lat (by kernel_rfl) (by kernel_rfl) ?_
          repeat (go_big_quiet_step (fail))
          refine wpQuiet_nil ?_
          intro _ hw'
          obtain ⟨x, hw''⟩ := hw'
          subst hw''
          go_wp2_with fail
          go_roundw
          case rel => exact ⟨k + 1, by omega, by go_num, HA.out.lat x, HN.out⟩
          case measure => simp [intOf]; omega
      · have HN := Lib.hid (eqVs_true l l2 hl fun j hj hj2 => HP.out j (by omega) hj hj2)
        clear ha
        go_wp2_with fail
        go_ret
        exact ⟨by rw [HN.out]; rfl, HA.out⟩
  · have e1 : ((l.length : Int) != (l2.length : Int)) = true := by simp; omega
    have HN := Lib.hid (eqVs_len l l2 hl)
    go_enter Tryz.func14, Tryz.ntmps14
    go_wp2_with fail
    go_ret
    exact ⟨by rw [HN.out]; rfl, Aft.refl _⟩
/-- may a value be? -/
def mayV (v : Val) : Bool := if v.kind == 1 then v.int == 0 && emp v.text else if v.kind == 2 then emp v.text else if v.kind == 3 then v.int == 0 && decide ((v.text.size : Int) ≤ 32) else false
theorem emp_size (s : ByteArray) : emp s = decide (s.size = 0) := isEmpty_iff s
theorem eqS_nil (s : ByteArray) : eqS s ⟨#[]⟩ = emp s := by
  have e : (⟨#[]⟩ : ByteArray).toList = [] := by decide +kernel
  rw [Bool.eq_iff_iff]; unfold eqS emp; rw [e]; simp
set_option maxHeartbeats 2000000 in
theorem may_any (v : Val) (w : World) (hs : Small v.text.size) :
    Calls Tryz.prog 66 #[.agg #[.int .i64 v.kind, .int .i64 v.int, .string v.text]] w fun e w' => e = .returned (.bool (mayV v)) ∧ Aft w w' := by
  have l1 : w.heap.size < w.heap.size + 1 := by omega
  have l2 : w.heap.size < w.heap.size + 1 + 1 := by omega
  have hm := hs.le
  obtain ⟨kind, int, text⟩ := v
  simp only at hs hm ⊢
  by_cases k2 : kind = 2
  · subst k2
    cases hE : emp text
    · have q : eqV3 2 int text 2 int ⟨#[]⟩ = false := by simp [eqV3, eqS_nil, hE]
      have HF := Lib.hid (show mayV ⟨2, int, text⟩ = false by simp [mayV, hE])
      go_enter Tryz.func66, Tryz.ntmps66
      go_wp2_with fail
      go_ret
      exact ⟨by rw [HF.out]; rfl, ((Aft.refl _).alloc _).alloc _⟩
    · have q : eqV3 2 int text 2 int ⟨#[]⟩ = true := by simp [eqV3, eqS_nil, hE]
      have z : text.size = 0 := by rw [emp_size] at hE; exact of_decide_eq_true hE
      have z' : (text.size : Int) ≤ 32 := by omega
      have HF := Lib.hid (show mayV ⟨2, int, text⟩ = true by simp [mayV, hE])
      go_enter Tryz.func66, Tryz.ntmps66
      go_wp2_with fail
      go_ret
      exact ⟨by rw [HF.out]; simp, ((Aft.refl _).alloc _).alloc _⟩
  by_cases k3 : kind = 3
  · subst k3
    by_cases hi : int = 0
    · subst hi
      have q : eqV3 3 0 text 3 0 text = true := by simp [eqV3, eqS]
      have HF := Lib.hid (show mayV ⟨3, 0, text⟩ = decide ((text.size : Int) ≤ 32) by simp [mayV])
      go_enter Tryz.func66, Tryz.ntmps66
      go_wp2_with fail
      go_ret
      exact ⟨by rw [HF.out]; rfl, ((Aft.refl _).alloc _).alloc _⟩
    · have q : eqV3 3 int text 3 0 text = false := by simp [eqV3, hi]
      have HF := Lib.hid (show mayV ⟨3, int, text⟩ = false by simp [mayV, hi])
      go_enter Tryz.func66, Tryz.ntmps66
      go_wp2_with fail
      go_ret
      exact ⟨by rw [HF.out]; rfl, ((Aft.refl _).alloc _).alloc _⟩
  by_cases k1 : kind = 1
  · subst k1
    cases hE : (int == 0 && emp text)
    · have q : eqV3 1 int text 1 0 ⟨#[]⟩ = false := by simpa [eqV3, eqS_nil] using hE
      have HF := Lib.hid (show mayV ⟨1, int, text⟩ = false by simpa [mayV] using hE)
      go_enter Tryz.func66, Tryz.ntmps66
      go_wp2_with fail
      go_ret
      exact ⟨by rw [HF.out]; rfl, ((Aft.refl _).alloc _).alloc _⟩
    · have q : eqV3 1 int text 1 0 ⟨#[]⟩ = true := by simpa [eqV3, eqS_nil] using hE
      have z : text.size = 0 := by simp only [Bool.and_eq_true] at hE; have := hE.2; rw [emp_size] at this; exact of_decide_eq_true this
      have z' : (text.size : Int) ≤ 32 := by omega
      have HF := Lib.hid (show mayV ⟨1, int, text⟩ = true by simpa [mayV] using hE)
      go_enter Tryz.func66, Tryz.ntmps66
      go_wp2_with fail
      go_ret
      exact ⟨by rw [HF.out]; simp, ((Aft.refl _).alloc _).alloc _⟩
  have q1 : (kind == 1) = false := by simpa using k1
  have q2 : (kind == 2) = false := by simpa using k2
  have q3 : (kind == 3) = false := by simpa using k3
  have HF := Lib.hid (show mayV ⟨kind, int, text⟩ = false by simp [mayV, k1, k2, k3])
  go_enter Tryz.func66, Tryz.ntmps66
  go_wp2_with fail
  go_ret
  exact ⟨by rw [HF.out]; rfl, ((Aft.refl _).alloc _).alloc _⟩
set_option maxHeartbeats 2000000 in
theorem rmay_any (v : Val) (w : World) (hs : Small v.text.size) :
    Calls Tryz.prog 73 #[.agg #[.int .i64 v.kind, .int .i64 v.int, .string v.text]] w fun e w' => e = .returned (.bool (mayV v)) ∧ Aft w w' := by
  have hm := hs.le
  obtain ⟨kind, int, text⟩ := v
  simp only at hs hm ⊢
  have HE := Lib.hid (show emp text = text.toList.isEmpty from rfl)
  by_cases k2 : kind = 2
  · subst k2
    have HF := Lib.hid (show mayV ⟨2, int, text⟩ = emp text by simp [mayV])
    go_enter Tryz.func73, Tryz.ntmps73
    go_wp2_with fail
    go_ret
    exact ⟨by rw [HF.out, HE.out]; rfl, (Aft.refl _).alloc _⟩
  by_cases k3 : kind = 3
  · subst k3
    cases hi : (int == 0)
    · have HF := Lib.hid (show mayV ⟨3, int, text⟩ = false by simp [mayV, hi])
      go_enter Tryz.func73, Tryz.ntmps73
      go_wp2_with fail
      go_ret
      exact ⟨by rw [HF.out]; rfl, (Aft.refl _).alloc _⟩
    · have HF := Lib.hid (show mayV ⟨3, int, text⟩ = decide ((text.size : Int) ≤ 32) by simp [mayV, hi])
      go_enter Tryz.func73, Tryz.ntmps73
      go_wp2_with fail
      go_ret
      exact ⟨by rw [HF.out]; rfl, (Aft.refl _).alloc _⟩
  by_cases k1 : kind = 1
  · subst k1
    cases hi : (int == 0)
    · have HF := Lib.hid (show mayV ⟨1, int, text⟩ = false by simp [mayV, hi])
      go_enter Tryz.func73, Tryz.ntmps73
      go_wp2_with fail
      go_ret
      exact ⟨by rw [HF.out]; rfl, (Aft.refl _).alloc _⟩
    · have HF := Lib.hid (show mayV ⟨1, int, text⟩ = emp text by simp [mayV, hi])
      go_enter Tryz.func73, Tryz.ntmps73
      go_wp2_with fail
      go_ret
      exact ⟨by rw [HF.out, HE.out]; rfl, (Aft.refl _).alloc _⟩
  have q1 : (kind == 1) = false := by simpa using k1
  have q2 : (kind == 2) = false := by simpa using k2
  have q3 : (kind == 3) = false := by simpa using k3
  have HF := Lib.hid (show mayV ⟨kind, int, text⟩ = false by simp [mayV, k1, k2, k3])
  go_enter Tryz.func73, Tryz.ntmps73
  go_wp2_with fail
  go_ret
  exact ⟨by rw [HF.out]; rfl, (Aft.refl _).alloc _⟩
end Go.Proofs.YtiadkchlkdaceaaGreat

namespace Go.Proofs.YtiadkchlkdaceaaGreat
open Go.RowKit
set_option maxRecDepth 100000
set_option linter.unusedVariables false
theorem Aft.cell_keep {w w' : World} (h : Aft w w') {a : Addr} {v : Value} (hc : w.cell? a = some v) : w'.cell? a = some v := (Below.cell h (World.block_lt_of_cell? w a hc)).trans hc
def besideB (p : Col → Val → Bool) : List Col → List Val → Bool
  | [], [] => true
  | a :: l, b :: m => p a b && besideB p l m
  | _, _ => false
theorem besideB_len (p : Col → Val → Bool) : ∀ (l : List Col) (m : List Val), ¬ l.length = m.length → besideB p l m = false
  | [], [], h => absurd rfl h
  | [], _ :: _, _ => rfl
  | _ :: _, [], _ => rfl
  | a :: l, b :: m, h => by rw [besideB, besideB_len p l m (by simpa using h), Bool.and_false]
theorem besideB_false (p : Col → Val → Bool) : ∀ (l : List Col) (m : List Val) (k : Nat) (h1 : k < l.length) (h2 : k < m.length), p l[k] m[k] = false → besideB p l m = false
  | [], _, _, h, _, _ => by simp at h
  | _ :: _, [], _, _, h, _ => by simp at h
  | a :: l, b :: m, 0, _, _, h => by rw [besideB, show p a b = false from h]; rfl
  | a :: l, b :: m, k + 1, h1, h2, h => by rw [besideB, besideB_false p l m k (by simpa using h1) (by simpa using h2) h, Bool.and_false]
theorem besideB_true (p : Col → Val → Bool) : ∀ (l : List Col) (m : List Val), l.length = m.length → (∀ k (h1 : k < l.length) (h2 : k < m.length), p l[k] m[k] = true) → besideB p l m = true
  | [], [], _, _ => rfl
  | [], _ :: _, h, _ => by simp at h
  | _ :: _, [], h, _ => by simp at h
  | a :: l, b :: m, h, hp => by
    rw [besideB, show p a b = true from hp 0 (by simp) (by simp), besideB_true p l m (by simpa using h) fun k h1 h2 => hp (k + 1) (Nat.succ_lt_succ h1) (Nat.succ_lt_succ h2)]; rfl
theorem besideB_iff (p : Col → Val → Bool) (l : List Col) (m : List Val) : besideB p l m = true ↔ l.length = m.length ∧ ∀ k (h1 : k < l.length) (h2 : k < m.length), p l[k] m[k] = true := by
  constructor
  · intro h
    have hl : l.length = m.length := by
      apply Classical.byContradiction; intro hn
      rw [besideB_len p l m hn] at h; cases h
    refine ⟨hl, fun k h1 h2 => ?_⟩
    cases hk : p l[k] m[k]
    · rw [besideB_false p l m k h1 h2 hk] at h; cases h
    · rfl
  · rintro ⟨h1, h2⟩; exact besideB_true p l m h1 h2
def formB (c : Col) (v : Val) : Bool := mayV v && (v.kind == c.kind || v.kind == 1)
def nullB (c : Col) (v : Val) : Bool := c.null || v.kind != 1
set_option maxHeartbeats 2000000 in
theorem beside_any (A : Option Addr) (cap : Nat) (l : List Col) (A2 : Option Addr) (cap2 : Nat) (m : List Val) (g : FuncId) (caps : Array Value) (p : Col → Val → Bool) (w : World) (h : SlAt w 3 ColR A cap l) (h2 : SlAt w 3 ValR A2 cap2 m)
    (hent : ∀ (args : Array Value) (w : World), (callFunc g args).run Tryz.prog w = .ok (.enter g args) w)
    (hp : ∀ w', Aft w w' → ∀ i (hi : i < l.length) (hi2 : i < m.length), Calls Tryz.prog g (#[.agg #[.string l[i].name, .int .i64 l[i].kind, .bool l[i].null], .agg #[.int .i64 m[i].kind, .int .i64 m[i].int, .string m[i].text]] ++ caps) w' fun e w'' => e = .returned (.bool (p l[i] m[i])) ∧ Aft w' w'') :
    Calls Tryz.prog 98 #[.slice A l.length cap, .slice A2 m.length cap2, .func (.func g) #[] caps] w fun e w' => e = .returned (.bool (besideB p l m)) ∧ Aft w w' := by
  have hlen := h.len
  have hlen2 := h2.len
  have HC := Lib.hid hp
  clear hp
  by_cases hl : l.length = m.length
  · have e1 : ((l.length : Int) != (m.length : Int)) = false := by simp [hl]
    go_enter Tryz.func98, Tryz.ntmps98
    go_wp2_with fail
    go_loopw [16] (fun i wr => ∃ k : Nat, k ≤ l.length ∧ i = .int .i64 k ∧ Aft w wr ∧ ∀ j, j < k → ∀ (hj : j < l.length) (hj2 : j < m.length), p l[j] m[j] = true) (fun i _ => l.length - (intOf i).toNat)
    case atStart => exact ⟨0, Nat.zero_le _, rfl, Aft.refl _, fun j hj => absurd hj (Nat.not_lt_zero j)⟩
    case round =>
      obtain ⟨k, hk, rfl, ha, hp⟩ := hrel
      have HA := Lib.hid ha
      have HP := Lib.hid hp; clear hp
      by_cases hlt : k < l.length
      · have hlt2 : k < m.length := by omega
        obtain ⟨b, off, rfl, hb, c0, c1, c2, _⟩ := col_at (cols_aft ha h) hlt
        obtain ⟨b2, off2, rfl, hb2, d0, d1, d2, _⟩ := val_at (vals_aft ha h2) hlt2
        clear ha
        obtain ⟨r, hr⟩ : ∃ r, p l[k] m[k] = r := ⟨_, rfl⟩
        obtain ⟨W, hW⟩ : ∃ W, W = wr.alloc (.cells #[.string l[k].name, .int .i64 l[k].kind, .bool l[k].null] 93) := ⟨_, rfl⟩
        have aW : Aft wr W := by rw [hW]; exact (Aft.refl wr).alloc _
        have hbW : ∀ o, W.cell? ⟨wr.heap.size, o, none⟩ = (#[.string l[k].name, .int .i64 l[k].kind, .bool l[k].null] : Array Value)[o]? := by intro o; rw [hW]; simp
        have hzW : wr.heap.size < W.heap.size := by rw [hW]; simp
        have hbW2 : b2 < W.heap.size := Nat.lt_of_lt_of_le hb2 aW.size
        have d0' := aW.cell_keep d0
        have d1' := aW.cell_keep d1
        have d2' := aW.cell_keep d2
        have HAW := Lib.hid (HA.out.trans aW)
        have HC2 := Lib.hid (fun x : Lat W => HC.out (lat W x) (HAW.out.lat x) k hlt hlt2)
        rw [hr] at HC2
        cases r
        · have HN := Lib.hid (besideB_false p l m k hlt hlt2 hr)
          clear hr
          go_wp2_with fail
          rw [← hW]
          clear hW d0 d1 d2 aW
          refine wp_region_lat (by kernel_rfl) (by kernel_rfl) ?_
          repeat (go_big_quiet_step ((exact Calls.lat_of (HC2.out _))))
          refine wpQuiet_nil ?_
          intro _ hw'
          obtain ⟨x, hw''⟩ := hw'
          subst hw''
          go_wp2_with fail
          go_ret
          exact ⟨by rw [HN.out]; rfl, HAW.out.lat x⟩
        · have HN := Lib.hid (ext_lt (p := fun j => ∀ (hj : j < l.length) (hj2 : j < m.length), p l[j] m[j] = true) HP.out (fun _ _ => hr))
          clear hr
          go_wp2_with fail
          rw [← hW]
          clear hW d0 d1 d2 aW
          refine wp_region_lat (by kernel_rfl) (by kernel_rfl) ?_
          repeat (go_big_quiet_step ((exact Calls.lat_of (HC2.out _))))
          refine wpQuiet_nil ?_
          intro _ hw'
          obtain ⟨x, hw''⟩ := hw'
          subst hw''
          go_wp2_with fail
          go_roundw
          case rel => exact ⟨k + 1, by omega, by go_num, HAW.out.lat x, HN.out⟩
          case measure => simp [intOf]; omega
      · have HN := Lib.hid (besideB_true p l m hl fun j hj hj2 => HP.out j (by omega) hj hj2)
        clear ha
        go_wp2_with fail
        go_ret
        exact ⟨by rw [HN.out]; rfl, HA.out⟩
  · have e1 : ((l.length : Int) != (m.length : Int)) = true := by simp; omega
    have HN := Lib.hid (besideB_len p l m hl)
    go_enter Tryz.func98, Tryz.ntmps98
    go_wp2_with fail
    go_ret
    exact ⟨by rw [HN.out]; rfl, Aft.refl _⟩
set_option maxHeartbeats 2000000 in
theorem formed1_any (c : Col) (v : Val) (w : World) (hs : Small v.text.size) :
    Calls Tryz.prog 99 #[.agg #[.string c.name, .int .i64 c.kind, .bool c.null], .agg #[.int .i64 v.kind, .int .i64 v.int, .string v.text]] w fun e w' => e = .returned (.bool (formB c v)) ∧ Aft w w' := by
  obtain ⟨m, hm⟩ : ∃ m, mayV v = m := ⟨_, rfl⟩
  have C := Lib.hid (show ∀ w', Calls Tryz.prog 66 #[.agg #[.int .i64 v.kind, .int .i64 v.int, .string v.text]] w' fun e w'' => e = .returned (.bool m) ∧ Aft w' w'' from
    fun w' => (may_any v w' hs).mono fun e w'' ⟨he, hw⟩ => ⟨he.trans (by rw [hm]), hw⟩)
  have HF := Lib.hid (show formB c v = (m && (v.kind == c.kind || v.kind == 1)) by unfold formB; rw [hm])
  clear hm
  go_enter Tryz.func99, Tryz.ntmps99
  go_wp2_with fail
  refine (C.out _).mono ?_
  rintro e w1 ⟨rfl, a1⟩
  obtain ⟨hb1, hb2, hz, HA⟩ := aft_box2 a1
  clear a1
  cases m
  · have HF2 := Lib.hid (show formB c v = false by rw [HF.out]; rfl)
    go_wp2_with fail
    go_ret
    exact ⟨by rw [HF2.out]; rfl, HA.out⟩
  · cases h1 : (v.kind == c.kind)
    · have HF2 := Lib.hid (show formB c v = (v.kind == 1) by rw [HF.out, h1]; rfl)
      go_wp2_with fail
      go_ret
      exact ⟨by rw [HF2.out]; rfl, HA.out⟩
    · have HF2 := Lib.hid (show formB c v = true by rw [HF.out, h1]; rfl)
      go_wp2_with fail
      go_ret
      exact ⟨by rw [HF2.out]; rfl, HA.out⟩
set_option maxHeartbeats 2000000 in
theorem fit1_any (c : Col) (v : Val) (w : World) :
    Calls Tryz.prog 123 #[.agg #[.string c.name, .int .i64 c.kind, .bool c.null], .agg #[.int .i64 v.kind, .int .i64 v.int, .string v.text]] w fun e w' => e = .returned (.bool (nullB c v)) ∧ Aft w w' := by
  obtain ⟨name, kind, null⟩ := c
  cases null
  · have HF := Lib.hid (show nullB ⟨name, kind, false⟩ v = (v.kind != 1) by simp [nullB])
    go_enter Tryz.func123, Tryz.ntmps123
    go_wp2_with fail
    go_ret
    exact ⟨by rw [HF.out]; rfl, ((Aft.refl _).alloc _).alloc _⟩
  · have HF := Lib.hid (show nullB ⟨name, kind, true⟩ v = true by simp [nullB])
    go_enter Tryz.func123, Tryz.ntmps123
    go_wp2_with fail
    go_ret
    exact ⟨by rw [HF.out]; rfl, ((Aft.refl _).alloc _).alloc _⟩
theorem val_small {w : World} {A : Option Addr} {cap : Nat} {l : List Val} (h : SlAt w 3 ValR A cap l) (i : Nat) (hi : i < l.length) : Small l[i].text.size := by
  obtain ⟨_, _, _, _, _, _, _, hs⟩ := val_at h hi; exact hs
theorem formedC (A : Option Addr) (cap : Nat) (l : List Col) (A2 : Option Addr) (cap2 : Nat) (m : List Val) (w : World) (h : SlAt w 3 ColR A cap l) (h2 : SlAt w 3 ValR A2 cap2 m) :
    Calls Tryz.prog 98 #[.slice A l.length cap, .slice A2 m.length cap2, .func (.func 99) #[] #[]] w fun e w' => e = .returned (.bool (besideB formB l m)) ∧ Aft w w' :=
  beside_any A cap l A2 cap2 m 99 #[] formB w h h2 (enters (P := Tryz.prog) Tryz.func99 (by kernel_rfl) rfl) fun w' ha i hi hi2 => formed1_any _ _ w' (val_small h2 i hi2)
theorem nullC (A : Option Addr) (cap : Nat) (l : List Col) (A2 : Option Addr) (cap2 : Nat) (m : List Val) (w : World) (h : SlAt w 3 ColR A cap l) (h2 : SlAt w 3 ValR A2 cap2 m) :
    Calls Tryz.prog 98 #[.slice A l.length cap, .slice A2 m.length cap2, .func (.func 123) #[] #[]] w fun e w' => e = .returned (.bool (besideB nullB l m)) ∧ Aft w w' :=
  beside_any A cap l A2 cap2 m 123 #[] nullB w h h2 (enters (P := Tryz.prog) Tryz.func123 (by kernel_rfl) rfl) fun w' ha i hi hi2 => fit1_any _ _ w'
theorem formed_any (A : Option Addr) (cap : Nat) (l : List Col) (A2 : Option Addr) (cap2 : Nat) (m : List Val) (w : World) (h : SlAt w 3 ColR A cap l) (h2 : SlAt w 3 ValR A2 cap2 m) :
    Calls Tryz.prog 62 #[.slice A l.length cap, .slice A2 m.length cap2] w fun e w' => e = .returned (.bool (besideB formB l m)) ∧ Aft w w' := by
  have C := Lib.hid (formedC A cap l A2 cap2 m w h h2)
  go_enter Tryz.func62, Tryz.ntmps62
  go_wp2_with fail
  refine C.out.mono ?_
  rintro e w1 ⟨rfl, a1⟩
  have HA := Lib.hid a1
  clear a1
  go_wp2_with fail
  go_ret
  exact ⟨rfl, HA.out⟩
set_option maxHeartbeats 1000000 in
theorem place1_any (name : ByteArray) (kind : Int) (null : Bool) (s : ByteArray) (b1 : Nat) (w : World) (hb1 : b1 < w.heap.size) (hc1 : w.cell? ⟨b1, 0, none⟩ = some (.string s)) :
    Calls Tryz.prog 100 #[.agg #[.string name, .int .i64 kind, .bool null], .pointer (some ⟨b1, 0, none⟩)] w fun e w' => e = .returned (.bool (eqS name s)) ∧ Aft w w' := by
  go_enter Tryz.func100, Tryz.ntmps100
  go_wp2_with fail
  go_ret
  exact ⟨rfl, (Aft.refl _).alloc _⟩
set_option maxHeartbeats 1000000 in
theorem place_any (A : Option Addr) (cap : Nat) (l : List Col) (s : ByteArray) (w : World) (h : SlAt w 3 ColR A cap l) :
    Calls Tryz.prog 63 #[.slice A l.length cap, .string s] w fun e w' => e = .returned (.int .i64 (colAt l s)) ∧ Aft w w' := by
  have hent := enters (P := Tryz.prog) Tryz.func100 (by kernel_rfl) rfl
  have C := Lib.hid (idxCol A cap l 100 #[.pointer (some ⟨w.heap.size, 0, none⟩)] (fun c => eqS c.name s) (w.alloc (.cells #[.string s] 9)) (cols_aft ((Aft.refl w).alloc _) h) hent (fun w' ha i hi => by
    obtain ⟨hb, _, hz, _, _⟩ := aft_box ha
    exact place1_any _ _ _ s w.heap.size w' hz.1 (hb 0)))
  go_enter Tryz.func63, Tryz.ntmps63
  go_wp2_with fail
  refine C.out.mono ?_
  rintro e w1 ⟨rfl, a1⟩
  have HA := Lib.hid (((Aft.refl w).alloc _).trans a1)
  clear a1
  go_wp2_with fail
  go_ret
  exact ⟨rfl, HA.out⟩
end Go.Proofs.YtiadkchlkdaceaaGreat

namespace Go.Proofs.YtiadkchlkdaceaaGreat
open Go.RowKit
set_option linter.unusedVariables false
def nilV : Val := ⟨0, 0, ⟨#[]⟩⟩
def valAt (row : List Val) (i : Int) : Val := match row[i.toNat]? with | some v => v | none => nilV
/-- is a value without a rule's bounds? -/
def outB (v : Val) (r : Rul) : Bool := v.kind == 2 && (decide (v.int < r.low) || decide (r.high < v.int))
def badR (l : List Col) (row : List Val) (r : Rul) : Bool := r.kind == 3 && outB (valAt row (colAt l (r.cols.headD ⟨#[]⟩))) r
def fitE (t : Tab) (row : List Val) : Int :=
  if tableOk t = false then 1 else if besideB formB t.cols row = false then 100 else if besideB nullB t.cols row = false then 101 else if t.rules.any (badR t.cols row) = true then 102 else 0
theorem table_fits {t : Tab} (h : tableOk t = true) {k : Nat} (hk : k < t.rules.length) : fitsOk t.cols t.rules[k] = true := by
  unfold tableOk at h
  simp only [Bool.and_eq_true] at h
  exact List.all_eq_true.1 h.2.1 _ (List.getElem_mem hk)
theorem fits_cols {l : List Col} {r : Rul} (h : fitsOk l r = true) {j : Nat} (hj : j < r.cols.length) : 0 ≤ colAt l r.cols[j] := by
  unfold fitsOk at h
  simp only [Bool.and_eq_true] at h
  have h1 := h.1.1.1
  cases hc : (decide (0 ≤ colAt l r.cols[j]) && !(hasS (r.cols.take j) r.cols[j]))
  · rw [rcOk_false l r.cols j hj hc] at h1; cases h1
  · simp only [Bool.and_eq_true, decide_eq_true_eq] at hc; exact hc.1
theorem fits_pos {l : List Col} {r : Rul} (h : fitsOk l r = true) : 0 < r.cols.length := by
  unfold fitsOk at h
  simp only [Bool.and_eq_true] at h
  have h1 := h.1.2
  apply Nat.pos_of_ne_zero
  intro e
  rw [e] at h1
  simp at h1
theorem colAt_lt {l : List Col} {s : ByteArray} {q : Nat} (h : colAt l s = q) : q < l.length := by
  have := (idxP_range (fun c => eqS c.name s) l).2
  unfold colAt at h; omega
theorem headD_zero {cs : List ByteArray} (h : 0 < cs.length) : cs.headD ⟨#[]⟩ = cs[0] := by
  cases cs with
  | nil => simp at h
  | cons a t => rfl
theorem valAt_get {row : List Val} {q : Nat} (h : q < row.length) : valAt row (q : Int) = row[q] := by
  simp [valAt, List.getElem?_eq_getElem h]
theorem badR_of {l : List Col} {row : List Val} {r : Rul} {q : Nat} (h3 : (r.kind == 3) = true) (h0 : 0 < r.cols.length) (hq : colAt l r.cols[0] = q) (hl : q < row.length) : badR l row r = outB row[q] r := by
  unfold badR
  rw [h3, headD_zero h0, hq, valAt_get hl]; rfl
theorem any_false {α : Type} (p : α → Bool) (l : List α) (h : ∀ k (hk : k < l.length), p l[k] = false) : l.any p = false := by
  rw [Bool.eq_false_iff]; intro ha
  obtain ⟨x, hx, hp⟩ := List.any_eq_true.1 ha
  obtain ⟨i, hi, rfl⟩ := List.getElem_of_mem hx
  rw [h i hi] at hp; cases hp
theorem any_true {α : Type} (p : α → Bool) (l : List α) (k : Nat) (hk : k < l.length) (h : p l[k] = true) : l.any p = true := List.any_eq_true.2 ⟨_, List.getElem_mem hk, h⟩
theorem fitE_1 {t : Tab} {row : List Val} (h : tableOk t = false) : fitE t row = 1 := by unfold fitE; rw [if_pos h]
theorem fitE_100 {t : Tab} {row : List Val} (h : tableOk t = true) (h1 : besideB formB t.cols row = false) : fitE t row = 100 := by unfold fitE; rw [if_neg (by rw [h]; simp), if_pos h1]
theorem fitE_101 {t : Tab} {row : List Val} (h : tableOk t = true) (h1 : besideB formB t.cols row = true) (h2 : besideB nullB t.cols row = false) : fitE t row = 101 := by unfold fitE; rw [if_neg (by rw [h]; simp), if_neg (by rw [h1]; simp), if_pos h2]
theorem fitE_any {t : Tab} {row : List Val} (h : tableOk t = true) (h1 : besideB formB t.cols row = true) (h2 : besideB nullB t.cols row = true) : fitE t row = if t.rules.any (badR t.cols row) = true then 102 else 0 := by unfold fitE; rw [if_neg (by rw [h]; simp), if_neg (by rw [h1]; simp), if_neg (by rw [h2]; simp)]
end Go.Proofs.YtiadkchlkdaceaaGreat

namespace Go.Proofs.YtiadkchlkdaceaaGreat
open Go.RowKit
theorem results_cell {fn : Func} {a : Tmp} {t : TypeId} (h : fn.results = #[.cell a t]) (tmps : Array Value) {P : Program} {w : World} {p : Addr} {v : Value} (ha : tmps.getD a undef = .pointer (some p)) (hl : (loadVar t p).run P w = .ok v w) :
    (results fn tmps).run P w = .ok v w := by
  rw [Array.getD_eq_getD_getElem?] at ha
  simp [results, h, ha, asAddr, hl]
theorem results_cell_tmp {fn : Func} {a u : Tmp} {t : TypeId} (h : fn.results = #[.cell a t, .tmp u]) (tmps : Array Value) {P : Program} {w : World} {p : Addr} {v : Value} (ha : tmps.getD a undef = .pointer (some p)) (hl : (loadVar t p).run P w = .ok v w) :
    (results fn tmps).run P w = .ok (.tuple #[v, tmps.getD u undef]) w := by
  rw [Array.getD_eq_getD_getElem?] at ha
  simp [results, h, ha, asAddr, hl]
/-- a block whose cells are those of a list -/
theorem slAt_box {α : Type} {size : Nat} {R : World → List Value → α → Prop} {w : World} {b cap : Nat} (l : List α) (f : α → List Value) (c : Array Value) (hb : b < w.heap.size) (hc : ∀ o, w.cell? ⟨b, o, none⟩ = c[o]?) (e : c.toList = l.flatMap f) (hf : ∀ x, (f x).length = size)
    (hR : ∀ x ∈ l, R w (f x) x) (hs : Small (l.length * 16)) (hcap : l.length ≤ cap) : SlAt w size R (some ⟨b, 0, none⟩) cap l :=
  ⟨hcap, hs, fun i hi => ⟨b, 0, f l[i], rfl, hb, hf _, hR _ (List.getElem_mem hi), fun j hj => by
    rw [← flatMap_get f size hf l i j hi hj, ← e, hc]; simp⟩⟩
theorem slAt_one {α : Type} {size : Nat} {R : World → List Value → α → Prop} {w : World} {b cap : Nat} (x : α) (cs : List Value) (c : Array Value) (hb : b < w.heap.size) (hc : ∀ o, w.cell? ⟨b, o, none⟩ = c[o]?) (e : c.toList = cs) (hf : cs.length = size)
    (hR : R w cs x) (hcap : 1 ≤ cap) : SlAt w size R (some ⟨b, 0, none⟩) cap [x] :=
  ⟨hcap, by simp [Small], fun i hi => by
    have : i = 0 := by simpa using hi
    subst this
    exact ⟨b, 0, cs, rfl, hb, hf, hR, fun j hj => by rw [← e, hc]; simp⟩⟩
end Go.Proofs.YtiadkchlkdaceaaGreat

namespace Go.Proofs.YtiadkchlkdaceaaGreat
open Go.RowKit
set_option linter.unusedVariables false
theorem Aft.cell_kept {w w' : World} (h : Aft w w') {a : Addr} {v : Value} (hc : w.cell? a = some v) : w'.cell? a = some v := (Below.cell h (World.block_lt_of_cell? w a hc)).trans hc
/-- a block that may be written and that begins with these cells -/
def RowAt (w : World) (g : Nat) (xs : List Value) : Prop := g < w.heap.size ∧ (∀ j, j < xs.length → w.cell? ⟨g, j, none⟩ = xs[j]?) ∧ ∀ j, j < xs.length → w.frozen? ⟨g, j, none⟩ = false
theorem RowAt.aft {w w' : World} {g : Nat} {xs : List Value} (h : RowAt w g xs) (a : Aft w w') : RowAt w' g xs :=
  ⟨Nat.lt_of_lt_of_le h.1 a.size, fun j hj => (Below.cell a (p := ⟨g, j, none⟩) h.1).trans (h.2.1 j hj), fun j hj => (Below.frozen a (p := ⟨g, j, none⟩) h.1).trans (h.2.2 j hj)⟩
theorem RowAt.cell {w : World} {g : Nat} {xs : List Value} (h : RowAt w g xs) {j : Nat} {v : Value} (hj : xs[j]? = some v) : w.cell? ⟨g, j, none⟩ = some v :=
  (h.2.1 j (List.getElem?_eq_some_iff.1 hj).1).trans hj
theorem RowAt.set {w : World} {g : Nat} {xs : List Value} (h : RowAt w g xs) (j : Nat) (v : Value) (hj : j < xs.length) : RowAt (w.setCell ⟨g, j, none⟩ v) g (xs.set j v) := by
  have hc : w.cell? ⟨g, j, none⟩ = some xs[j] := (h.2.1 j hj).trans (List.getElem?_eq_getElem hj)
  refine ⟨by simpa using h.1, fun k hk => ?_, fun k hk => ?_⟩
  · rw [List.length_set] at hk
    by_cases e : k = j
    · subst e
      rw [World.cell?_setCell_same (h := hc), List.getElem?_set_self hj]
    · rw [World.cell?_setCell_other (h := by intro e2; injection e2 with _ e3 _; exact e e3.symm), List.getElem?_set_ne (fun e2 => e e2.symm)]
      exact h.2.1 k hk
  · rw [List.length_set] at hk
    rw [World.frozen?_setCell]; exact h.2.2 k hk
/-- a slice value that leads to such a row -/
def RowV (w : World) (base : Nat) (v : Value) (n : Nat) (xs : List Value) : Prop := ∃ A cap, v = .slice A n cap ∧ n ≤ cap ∧ (0 < n → ∃ g, A = some ⟨g, 0, none⟩ ∧ base ≤ g ∧ RowAt w g xs)
theorem RowV.aft {w w' : World} {base n : Nat} {v : Value} {xs : List Value} (h : RowV w base v n xs) (a : Aft w w') : RowV w' base v n xs := by
  obtain ⟨A, cap, e, hc, hg⟩ := h
  exact ⟨A, cap, e, hc, fun h0 => by obtain ⟨g, hA, hb, hr⟩ := hg h0; exact ⟨g, hA, hb, hr.aft a⟩⟩
theorem own_rowV {w : World} {base size n : Nat} {e : TypeId} {v : Value} {xs : List Value} (h : w.ownsRow base e size v n xs) : RowV w base v n xs := by
  rcases h.2 with ⟨rfl, hn⟩ | ⟨g, cap, cur, rfl, hb, hgg, hnc, _, hcs, htk⟩
  · exact ⟨none, 0, by rw [hn], by omega, fun h0 => by omega⟩
  · refine ⟨_, cap, rfl, hnc, fun _ => ⟨g, rfl, hb, (Array.getElem?_eq_some_iff.1 hgg).1, fun j hj => ?_, fun j _ => ?_⟩⟩
    · rw [h.1] at hj
      rw [← htk, List.getElem?_take_of_lt hj]
      simp [World.cell?, hgg]
    · simp [World.frozen?, hgg]

section
variable {α : Type} {size : Nat} {R : World → List Value → α → Prop} {w w' : World}
theorem flat_len : ∀ (css : List (List Value)), (∀ c ∈ css, c.length = size) → css.flatten.length = css.length * size
  | [], _ => by simp
  | c :: css, h => by
    rw [List.flatten_cons, List.length_append, h c (by simp), flat_len css fun x hx => h x (by simp [hx]), List.length_cons, Nat.succ_mul]; omega
theorem flat_get : ∀ (css : List (List Value)), (∀ c ∈ css, c.length = size) → ∀ i j (hi : i < css.length), j < size → css.flatten[i * size + j]? = css[i][j]?
  | [], _, i, j, hi, _ => by simp at hi
  | c :: css, h, 0, j, _, hj => by
    rw [List.flatten_cons, Nat.zero_mul, Nat.zero_add, List.getElem?_append_left (by rw [h c (by simp)]; exact hj)]; rfl
  | c :: css, h, i + 1, j, hi, hj => by
    have e : (i + 1) * size + j = size + (i * size + j) := by rw [Nat.succ_mul]; omega
    rw [List.flatten_cons, e, List.getElem?_append_right (by rw [h c (by simp)]; omega), h c (by simp), Nat.add_sub_cancel_left]
    exact flat_get css (fun x hx => h x (by simp [hx])) i j (by simpa using hi) hj
theorem flat_set : ∀ (css : List (List Value)), (∀ c ∈ css, c.length = size) → ∀ i j (hi : i < css.length) (v : Value), j < size → css.flatten.set (i * size + j) v = (css.set i (css[i].set j v)).flatten
  | [], _, i, j, hi, _, _ => by simp at hi
  | c :: css, h, 0, j, _, v, hj => by
    rw [List.flatten_cons, Nat.zero_mul, Nat.zero_add, List.set_append_left _ _ (by rw [h c (by simp)]; exact hj)]; rfl
  | c :: css, h, i + 1, j, hi, v, hj => by
    have e : (i + 1) * size + j = size + (i * size + j) := by rw [Nat.succ_mul]; omega
    rw [List.flatten_cons, e, List.set_append_right _ _ (by rw [h c (by simp)]; omega), h c (by simp), Nat.add_sub_cancel_left, flat_set css (fun x hx => h x (by simp [hx])) i j (by simpa using hi) v hj]
    rfl
/-- the cells of each element -/
def Chunks (w : World) (size : Nat) (R : World → List Value → α → Prop) (css : List (List Value)) (l : List α) : Prop := css.length = l.length ∧ ∀ i (h : i < css.length) (h' : i < l.length), css[i].length = size ∧ R w css[i] l[i]
theorem Chunks.all {css : List (List Value)} {l : List α} (h : Chunks w size R css l) : ∀ c ∈ css, c.length = size := by
  intro c hc
  obtain ⟨i, hi, rfl⟩ := List.getElem_of_mem hc
  exact (h.2 i hi (by rw [← h.1]; exact hi)).1
theorem Chunks.len {css : List (List Value)} {l : List α} (h : Chunks w size R css l) : css.flatten.length = l.length * size := by rw [flat_len css h.all, h.1]
theorem Chunks.aft {css : List (List Value)} {l : List α} (h : Chunks w size R css l) (hR : ∀ cs x, R w cs x → R w' cs x) : Chunks w' size R css l := ⟨h.1, fun i h1 h2 => ⟨(h.2 i h1 h2).1, hR _ _ (h.2 i h1 h2).2⟩⟩
theorem Chunks.nil : Chunks w size R [] ([] : List α) := ⟨rfl, fun i h => by simp at h⟩
theorem Chunks.snoc {css : List (List Value)} {l : List α} (h : Chunks w size R css l) {c : List Value} {x : α} (hl : c.length = size) (hR : R w c x) : Chunks w size R (css ++ [c]) (l ++ [x]) := by
  refine ⟨by simp [h.1], fun i h1 h2 => ?_⟩
  by_cases hi : i < css.length
  · rw [List.getElem_append_left hi, List.getElem_append_left (by rw [← h.1]; exact hi)]
    exact h.2 i hi (by rw [← h.1]; exact hi)
  · have e : i = css.length := by simp at h1; omega
    subst e
    have e2 : l.length = css.length := h.1.symm
    simp only [List.getElem_append_right (Nat.le_refl _), Nat.sub_self, List.getElem_cons_zero]
    rw [List.getElem_append_right (by omega)]
    simp only [e2, Nat.sub_self, List.getElem_cons_zero]
    exact ⟨hl, hR⟩
theorem Chunks.set {css : List (List Value)} {l : List α} (h : Chunks w size R css l) {k : Nat} {c : List Value} {x : α} (hl : c.length = size) (hR : R w c x) : Chunks w size R (css.set k c) (l.set k x) := by
  refine ⟨by simp [h.1], fun i h1 h2 => ?_⟩
  simp only [List.length_set] at h1 h2
  by_cases e : k = i
  · subst e
    simp only [List.getElem_set_self]
    exact ⟨hl, hR⟩
  · rw [List.getElem_set_ne e, List.getElem_set_ne e]
    exact h.2 i h1 h2
theorem SlAt.css {A : Option Addr} {cap : Nat} {l : List α} (h : SlAt w size R A cap l) (h0 : 0 < l.length) (hs : 0 < size) :
    ∃ b off css, A = some ⟨b, off, none⟩ ∧ b < w.heap.size ∧ Chunks w size R css l ∧ ∀ p, p < l.length * size → w.cell? ⟨b, off + p, none⟩ = css.flatten[p]? := by
  obtain ⟨b, off, cs0, hA, hb, _⟩ := h.2.2 0 h0
  have hex : ∀ i, i < l.length → ∃ cs : List Value, ∀ hi : i < l.length, cs.length = size ∧ R w cs l[i] ∧ ∀ j, j < size → w.cell? ⟨b, off + (i * size + j), none⟩ = cs[j]? := by
    intro i hi
    obtain ⟨b', off', cs, hA', hb', hl, hR, hc⟩ := h.2.2 i hi
    rw [hA] at hA'
    simp only [Option.some.injEq, Addr.mk.injEq, and_true] at hA'
    obtain ⟨rfl, rfl⟩ := hA'
    exact ⟨cs, fun _ => ⟨hl, hR, hc⟩⟩
  obtain ⟨css, hcl, hp⟩ := choose_list l.length _ hex
  have hch : Chunks w size R css l := ⟨hcl, fun i h1 h2 => ⟨(hp i h1 h2).1, (hp i h1 h2).2.1⟩⟩
  refine ⟨b, off, css, hA, hb, hch, fun p hpl => ?_⟩
  have e : p = p / size * size + p % size := by rw [Nat.mul_comm]; exact (Nat.div_add_mod p size).symm
  have hi : p / size < l.length := Nat.div_lt_of_lt_mul (by rw [Nat.mul_comm]; exact hpl)
  have hj : p % size < size := Nat.mod_lt _ hs
  have h1 := (hp (p / size) (by rw [hcl]; exact hi) hi).2.2 (p % size) hj
  rw [← e] at h1
  rw [h1, ← flat_get css hch.all (p / size) (p % size) (by rw [hcl]; exact hi) hj, ← e]
theorem row_slAt {g cap : Nat} {css : List (List Value)} {l : List α} (hr : RowAt w g css.flatten) (hc : Chunks w size R css l) (hcap : l.length ≤ cap) (hs : Small (l.length * 16)) : SlAt w size R (some ⟨g, 0, none⟩) cap l := by
  refine ⟨hcap, hs, fun i hi => ?_⟩
  have hi' : i < css.length := by rw [hc.1]; exact hi
  refine ⟨g, 0, css[i], rfl, hr.1, (hc.2 i hi' hi).1, (hc.2 i hi' hi).2, fun j hj => ?_⟩
  rw [Nat.zero_add, ← flat_get css hc.all i j hi' hj]
  refine hr.2.1 _ ?_
  rw [hc.len]
  have : (i + 1) * size ≤ l.length * size := Nat.mul_le_mul_right _ hi
  rw [Nat.succ_mul] at this; omega
theorem rowV_slAt {base : Nat} {v : Value} {css : List (List Value)} {l : List α} (h : RowV w base v l.length css.flatten) (hc : Chunks w size R css l) (hs : Small (l.length * 16)) : ∃ A cap, v = .slice A l.length cap ∧ SlAt w size R A cap l := by
  obtain ⟨A, cap, e, hcap, hg⟩ := h
  by_cases h0 : 0 < l.length
  · obtain ⟨g, rfl, _, hr⟩ := hg h0
    exact ⟨_, cap, e, row_slAt hr hc hcap hs⟩
  · have : l = [] := List.eq_nil_of_length_eq_zero (by omega)
    subst this
    exact ⟨A, cap, e, hcap, hs, fun i hi => by simp at hi⟩
/-- one cell of one element is written -/
theorem RowAt.put {g : Nat} {css : List (List Value)} (hr : RowAt w g css.flatten) (hl : ∀ c ∈ css, c.length = size) (i j : Nat) (hi : i < css.length) (hj : j < size) (v : Value) : RowAt (w.setCell ⟨g, i * size + j, none⟩ v) g (css.set i (css[i].set j v)).flatten := by
  rw [← flat_set css hl i j hi v hj]
  refine hr.set _ v ?_
  rw [flat_len css hl]
  have : (i + 1) * size ≤ css.length * size := Nat.mul_le_mul_right _ hi
  rw [Nat.succ_mul] at this; omega
end
end Go.Proofs.YtiadkchlkdaceaaGreat

