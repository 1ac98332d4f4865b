/- Contracts of the program, part 10. -/
import Derived.Test.YticjnndhpfdajaaGreatPart3
/- The document's columns. -/
namespace Go.Proofs.YticjnndhpfdajaaGreat
open Go.RowKit
set_option maxRecDepth 100000
set_option linter.unusedVariables false

theorem SlAt.take {α : Type} {w : World} {size : Nat} {R : World → List Value → α → Prop} {A : Option Addr} {cap : Nat} {l : List α} (h : SlAt w size R A cap l) (k : Nat) : SlAt w size R A cap (l.take k) :=
  ⟨Nat.le_trans (by simp; omega) h.1, Nat.le_trans (Nat.mul_le_mul_right _ (by simp; omega)) h.2.1, fun i hi => by
    have hi' : i < l.length := by simp at hi; omega
    obtain ⟨b, off, cs, hA, hb, hl, hr, hc⟩ := h.2.2 i hi'
    exact ⟨b, off, cs, hA, hb, hl, by rw [List.getElem_take]; exact hr, hc⟩⟩

/-- may a column be? -/
def colOk (c : Col) : Bool := nameB c.name && (c.kind == 2 || c.kind == 3)
/-- may columns be? -/
def colsOk (l : List Col) : Bool := decide (1 ≤ l.length) && decide (l.length ≤ 8) && (List.range l.length).all fun i => match l[i]? with | some c => colOk c && decide (idxP (fun d => eqS d.name c.name) (l.take i) < 0) | none => true
theorem colsOk_false (l : List Col) (k : Nat) (hk : k < l.length) (h : (colOk l[k] && decide (idxP (fun d => eqS d.name l[k].name) (l.take k) < 0)) = false) : colsOk l = false := by
  unfold colsOk
  rw [Bool.and_eq_false_iff]; right
  rw [Bool.eq_false_iff]
  intro ha
  have := List.all_eq_true.1 ha k (List.mem_range.2 hk)
  rw [List.getElem?_eq_getElem hk] at this
  simp only [h] at this
  cases this
theorem colsOk_true (l : List Col) (h1 : 1 ≤ l.length) (h8 : l.length ≤ 8) (h : ∀ k, k < l.length → ∀ hk : k < l.length, (colOk l[k] && decide (idxP (fun d => eqS d.name l[k].name) (l.take k) < 0)) = true) : colsOk l = true := by
  unfold colsOk
  rw [Bool.and_eq_true, List.all_eq_true]
  refine ⟨by simp [h1, h8], fun k hk => ?_⟩
  have hk' := List.mem_range.1 hk
  rw [List.getElem?_eq_getElem hk']
  exact h k hk' hk'

set_option maxHeartbeats 1000000 in
theorem rone_any (name : ByteArray) (kind : Int) (null : Bool) (w : World) (hs : name.size ≤ maxLen) :
    Calls Tryz.prog 249 #[.agg #[.string name, .int .i64 kind, .bool null]] w fun e w' => e = .returned (.bool (colOk ⟨name, kind, null⟩)) ∧ Aft w w' := by
  go_enter Tryz.func249, Tryz.ntmps249
  go_wp2_with (go_at_call 153; refine (rname_any _ _ hs).mono ?_; rintro e w' ⟨rfl, rfl⟩)
  all_goals
    go_ret
    refine ⟨Eq.trans (b := .returned (.bool _)) rfl (ret_of (bool_of ?_)), (Aft.refl _).alloc _⟩
    simp_all [colOk]

set_option maxHeartbeats 2000000 in
theorem rcols_any (A : Option Addr) (cap : Nat) (l : List Col) (w : World) (h : SlAt w 3 ColR A cap l) :
    Calls Tryz.prog 207 #[.slice A l.length cap] w fun e w' => e = .returned (.bool (colsOk l)) ∧ Aft w w' := by
  have hlen := h.len
  by_cases h1 : l.length < 1 ∨ 8 < l.length
  · have H := Lib.hid (show colsOk l = false by unfold colsOk; rcases h1 with h1 | h1 <;> simp <;> intros <;> omega)
    rcases h1 with h1 | h1
    all_goals
      go_enter Tryz.func207, Tryz.ntmps207
      go_wp2_with fail
      go_ret
      exact ⟨by rw [H.out]; rfl, Aft.refl _⟩
  · have g1 : 1 ≤ l.length := by omega
    have g8 : l.length ≤ 8 := by omega
    clear h1
    go_enter Tryz.func207, Tryz.ntmps207
    go_wp2_with fail
    go_loopw [3] (fun i wr => ∃ k : Nat, k ≤ l.length ∧ i = .int .i64 k ∧ Aft w wr ∧ ∀ j, j < k → ∀ (hj : j < l.length), (colOk l[j] && decide (idxP (fun d => eqS d.name l[j].name) (l.take j) < 0)) = true) (fun i _ => l.length - (intOf i).toNat)
    case atStart => exact ⟨0, Nat.zero_le _, rfl, Aft.refl _, fun j hj => absurd hj (Nat.not_lt_zero j)⟩
    case round =>
      obtain ⟨k, hk, rfl, ha, hp⟩ := hrel
      have HA := Lib.hid ha
      have HP := Lib.hid hp; clear hp
      by_cases hlt : k < l.length
      · have hsl := cols_aft ha h
        clear ha
        obtain ⟨b, off, rfl, hb, c0, c1, c2, hs⟩ := col_at hsl hlt
        have Cone := Lib.hid (fun w => rone_any l[k].name l[k].kind l[k].null w hs.max)
        obtain ⟨r, hr⟩ : ∃ r, idxP (fun d => eqS d.name l[k].name) (l.take k) = r := ⟨_, rfl⟩
        have Ccol := Lib.hid (show ∀ x : Lat wr, Calls Tryz.prog 152 #[.slice (some ⟨b, off, none⟩) k cap, .string l[k].name] (lat wr x) fun e w' => e = .returned (.int .i64 r) ∧ lat wr x = w' by
          intro x
          have := rcol_any _ _ (l.take k) l[k].name (lat wr x) (cols_aft ((Aft.refl wr).lat x) (hsl.take k))
          rwa [List.length_take, Nat.min_eq_left (by omega), hr] at this)
        have hcap : k ≤ cap := Nat.le_trans hk hsl.1
        have HR := Lib.hid hr
        clear hr hsl
        generalize hcc : colOk ⟨l[k].name, l[k].kind, l[k].null⟩ = cc at Cone
        have HC := Lib.hid hcc
        clear hcc
        cases cc
        · go_wp2_with fail
          refine wp_region_lat (by kernel_rfl) (by kernel_rfl) ?_
          repeat (go_big_quiet_step ((first | (go_at_call 249; exact Calls.lat_of (Cone.out _)) | (go_at_call 152; exact Calls.lat_same (Ccol.out _)))))
          refine wpQuiet_nil ?_
          intro _ hw'
          obtain ⟨x, hw''⟩ := hw'
          subst hw''
          go_wp2_with fail
          go_ret
          exact ⟨by rw [colsOk_false l k hlt (by rw [show colOk l[k] = false from HC.out]; rfl)]; rfl, HA.out.lat x⟩
        · by_cases hr0 : 0 ≤ r
          · go_wp2_with fail
            refine wp_region_lat (by kernel_rfl) (by kernel_rfl) ?_
            repeat (go_big_quiet_step ((first | (go_at_call 249; exact Calls.lat_of (Cone.out _)) | (go_at_call 152; exact Calls.lat_same (Ccol.out _)))))
            refine wpQuiet_nil ?_
            intro _ hw'
            obtain ⟨x, hw''⟩ := hw'
            subst hw''
            go_wp2_with fail
            go_ret
            exact ⟨by rw [colsOk_false l k hlt (by rw [HR.out, decide_eq_false (by omega), Bool.and_false])]; rfl, HA.out.lat x⟩
          · have hr1 : r < 0 := by omega
            go_wp2_with fail
            refine wp_region_lat (by kernel_rfl) (by kernel_rfl) ?_
            repeat (go_big_quiet_step ((first | (go_at_call 249; exact Calls.lat_of (Cone.out _)) | (go_at_call 152; exact Calls.lat_same (Ccol.out _)))))
            refine wpQuiet_nil ?_
            intro _ hw'
            obtain ⟨x, hw''⟩ := hw'
            subst hw''
            go_wp2_with fail
            go_roundw
            case rel => exact ⟨k + 1, by omega, by go_num, HA.out.lat x, ext_lt (p := fun j => ∀ (hj : j < l.length), (colOk l[j] && decide (idxP (fun d => eqS d.name l[j].name) (l.take j) < 0)) = true) HP.out (fun _ => by rw [HR.out, decide_eq_true hr1, show colOk l[k] = true from HC.out]; rfl)⟩
            case measure => simp [intOf]; omega
      · go_wp2_with fail
        go_ret
        exact ⟨by rw [colsOk_true l g1 g8 (fun j hj hj' => HP.out j (by omega) hj')]; rfl, HA.out⟩
end Go.Proofs.YticjnndhpfdajaaGreat
/- Empty texts. -/
namespace Go.Proofs.YticjnndhpfdajaaGreat
def emp (s : ByteArray) : Bool := s.toList.isEmpty
theorem cat_nil_iff (a b : ByteArray) : (a ++ b).toList = [] ↔ a.toList = [] ∧ b.toList = [] := by
  simp only [toList_nil_iff, ByteArray.size_append]; omega
end Go.Proofs.YticjnndhpfdajaaGreat
/- Does a rule fit columns, by the document? -/
namespace Go.Proofs.YticjnndhpfdajaaGreat
open Go.RowKit
set_option maxRecDepth 100000
set_option linter.unusedVariables false

def colAt (l : List Col) (s : ByteArray) : Int := idxP (fun c => eqS c.name s) l
def hasS (cs : List ByteArray) (s : ByteArray) : Bool := cs.any fun c => eqS c s
/-- each of a rule's columns is there, and none twice -/
def rcOk (l : List Col) (cs : List ByteArray) : Bool := (List.range cs.length).all fun i => match cs[i]? with | some s => decide (0 ≤ colAt l s) && !(hasS (cs.take i) s) | none => true
theorem rcOk_false (l : List Col) (cs : List ByteArray) (k : Nat) (hk : k < cs.length) (h : (decide (0 ≤ colAt l cs[k]) && !(hasS (cs.take k) cs[k])) = false) : rcOk l cs = false := by
  unfold rcOk
  rw [Bool.eq_false_iff]
  intro ha
  have := List.all_eq_true.1 ha k (List.mem_range.2 hk)
  rw [List.getElem?_eq_getElem hk] at this
  simp only [h] at this
  cases this
theorem rcOk_true (l : List Col) (cs : List ByteArray) (h : ∀ k, k < cs.length → ∀ hk : k < cs.length, (decide (0 ≤ colAt l cs[k]) && !(hasS (cs.take k) cs[k])) = true) : rcOk l cs = true := by
  unfold rcOk
  rw [List.all_eq_true]
  intro k hk
  have hk' := List.mem_range.1 hk
  rw [List.getElem?_eq_getElem hk']
  exact h k hk' hk'
def kindAt (l : List Col) (i : Int) : Int := match l[i.toNat]? with | some c => c.kind | none => 0
def ruleRest (l : List Col) (r : Rul) : Bool :=
  if r.kind == 1 || r.kind == 2 then emp r.schema && emp r.table && emp r.key && r.low == 0 && r.high == 0
  else if r.kind == 3 then emp r.schema && emp r.table && emp r.key && ((r.cols.length : Int) == 1) && kindAt l (colAt l (r.cols.headD ByteArray.empty)) == 2 && decide (r.low ≤ r.high)
  else if r.kind == 4 then nameB r.schema && nameB r.table && nameB r.key && r.low == 0 && r.high == 0
  else false
/-- does a rule fit columns? -/
def fitsOk (l : List Col) (r : Rul) : Bool := rcOk l r.cols && nameB r.name && !(r.cols.length == 0) && ruleRest l r

set_option maxHeartbeats 4000000 in
theorem rfits_any (A : Option Addr) (cap : Nat) (l : List Col) (r : Rul) (A2 : Option Addr) (cap2 : Nat) (w : World) (h : SlAt w 3 ColR A cap l) (h2 : SlAt w 1 StrR A2 cap2 r.cols)
    (hn : Small r.name.size) (hs : Small r.schema.size) (ht : Small r.table.size) (hk' : Small r.key.size) :
    Calls Tryz.prog 73 #[.slice A l.length cap, .agg #[.string r.name, .int .i64 r.kind, .slice A2 r.cols.length cap2, .int .i64 r.low, .int .i64 r.high, .string r.schema, .string r.table, .string r.key]] w
      fun e w' => e = .returned (.bool (fitsOk l r)) ∧ Aft w w' := by
  obtain ⟨name, kind, cs, low, high, schema, table, key⟩ := r
  simp only at h2 hn hs ht hk' ⊢
  have hlen := h.len
  have hlen2 := h2.len
  go_enter Tryz.func73, Tryz.ntmps73
  go_wp2_with fail
  go_loopw [5] (fun i wr => ∃ k : Nat, k ≤ cs.length ∧ i = .int .i64 k ∧ Aft (w.alloc (.cells #[.string name, .int .i64 kind, .slice A2 cs.length cap2, .int .i64 low, .int .i64 high, .string schema, .string table, .string key] 29)) wr ∧ ∀ j, j < k → ∀ (hj : j < cs.length), (decide (0 ≤ colAt l cs[j]) && !(hasS (cs.take j) cs[j])) = true) (fun i _ => cs.length - (intOf i).toNat)
  case atStart => exact ⟨0, Nat.zero_le _, rfl, Aft.refl _, fun j hj => absurd hj (Nat.not_lt_zero j)⟩
  case round =>
    obtain ⟨k, hk, rfl, ha, hp⟩ := hrel
    obtain ⟨hbox, hfr, hz, hzk, HA⟩ := aft_box ha
    have HAB := Lib.hid ha
    have HP := Lib.hid hp; clear hp
    have hsl := cols_aft HA.out h
    have hsl2 := strs_aft HA.out h2
    clear ha
    by_cases hlt : k < cs.length
    · obtain ⟨b, off, rfl, hb, c0, hss⟩ := str_at hsl2 hlt
      obtain ⟨i, hi⟩ : ∃ i, colAt l cs[k] = i := ⟨_, rfl⟩
      obtain ⟨m, hm⟩ : ∃ m, hasS (cs.take k) cs[k] = m := ⟨_, rfl⟩
      have Ccol := Lib.hid (show ∀ x : Lat wr, Calls Tryz.prog 152 #[.slice A l.length cap, .string cs[k]] (lat wr x) fun e w' => e = .returned (.int .i64 i) ∧ lat wr x = w' from
        fun x => (rcol_any A cap l cs[k] (lat wr x) (cols_aft ((Aft.refl wr).lat x) hsl)).mono fun e w' ⟨he, hw⟩ => ⟨he.trans (by rw [← hi]; rfl), hw⟩)
      have Cin := Lib.hid (show ∀ x : Lat wr, Calls Tryz.prog 137 #[.slice (some ⟨b, off, none⟩) k cap2, .string cs[k]] (lat wr x) fun e w' => e = .returned (.bool m) ∧ lat wr x = w' by
        intro x
        have := rin_any _ _ (cs.take k) cs[k] (lat wr x) (strs_aft ((Aft.refl wr).lat x) (hsl2.take k))
        rw [List.length_take, Nat.min_eq_left (by omega)] at this
        exact this.mono fun e w' ⟨he, hw⟩ => ⟨he.trans (by rw [← hm]; rfl), hw⟩)
      have hcap : k ≤ cap2 := Nat.le_trans hk hsl2.1
      have HI := Lib.hid hi
      have HM := Lib.hid hm
      clear hi hm hsl hsl2
      by_cases hi0 : i < 0
      · go_wp2_with fail
        refine wp_region_lat (by kernel_rfl) (by kernel_rfl) ?_
        repeat (go_big_quiet_step ((first | (go_at_call 152; exact Calls.lat_same (Ccol.out _)) | (go_at_call 137; exact Calls.lat_same (Cin.out _)))))
        refine wpQuiet_nil ?_
        intro _ hw'
        obtain ⟨x, hw''⟩ := hw'
        subst hw''
        go_wp2_with fail
        go_ret
        exact ⟨by rw [show fitsOk l ⟨name, kind, cs, low, high, schema, table, key⟩ = false by unfold fitsOk; rw [rcOk_false l cs k hlt (by rw [HI.out, decide_eq_false (by omega)]; rfl)]; rfl]; rfl, HA.out.lat x⟩
      · have hi1 : 0 ≤ i := by omega
        have hd : decide (i < 0) = false := decide_eq_false hi0
        cases m
        · go_wp2_with fail
          refine wp_region_lat (by kernel_rfl) (by kernel_rfl) ?_
          repeat (go_big_quiet_step ((first | (go_at_call 152; exact Calls.lat_same (Ccol.out _)) | (go_at_call 137; exact Calls.lat_same (Cin.out _)))))
          refine wpQuiet_nil ?_
          intro _ hw'
          obtain ⟨x, hw''⟩ := hw'
          subst hw''
          go_wp2_with fail
          go_roundw
          case rel => exact ⟨k + 1, by omega, by go_num, HAB.out.lat x, ext_lt (p := fun j => ∀ (hj : j < cs.length), (decide (0 ≤ colAt l cs[j]) && !(hasS (cs.take j) cs[j])) = true) HP.out (fun _ => by rw [HI.out, HM.out, decide_eq_true hi1]; rfl)⟩
          case measure => simp [intOf]; omega
        · go_wp2_with fail
          refine wp_region_lat (by kernel_rfl) (by kernel_rfl) ?_
          repeat (go_big_quiet_step ((first | (go_at_call 152; exact Calls.lat_same (Ccol.out _)) | (go_at_call 137; exact Calls.lat_same (Cin.out _)))))
          refine wpQuiet_nil ?_
          intro _ hw'
          obtain ⟨x, hw''⟩ := hw'
          subst hw''
          go_wp2_with fail
          go_ret
          exact ⟨by rw [show fitsOk l ⟨name, kind, cs, low, high, schema, table, key⟩ = false by unfold fitsOk; rw [rcOk_false l cs k hlt (by rw [HM.out, Bool.not_true, Bool.and_false])]; rfl]; rfl, HA.out.lat x⟩
    · have hrc := rcOk_true l cs (fun j hj hj' => HP.out j (by omega) hj')
      cases hN : nameB name
      · have HF := Lib.hid (show fitsOk l ⟨name, kind, cs, low, high, schema, table, key⟩ = false by simp [fitsOk, hN])
        clear hrc
        go_wp2_with (go_at_call 153; refine (rname_any _ _ (by first | exact hn.max | exact hs.max | exact ht.max | exact hk'.max)).mono ?_; rintro e w' ⟨rfl, rfl⟩)
        go_ret
        exact ⟨by rw [HF.out]; rfl, HA.out⟩
      · by_cases hz0 : cs.length = 0
        · have HF := Lib.hid (show fitsOk l ⟨name, kind, cs, low, high, schema, table, key⟩ = false by simp [fitsOk, hz0])
          have e0 : ((cs.length : Int) == 0) = true := by simp [hz0]
          clear hrc hz0
          go_wp2_with (go_at_call 153; refine (rname_any _ _ (by first | exact hn.max | exact hs.max | exact ht.max | exact hk'.max)).mono ?_; rintro e w' ⟨rfl, rfl⟩)
          go_ret
          exact ⟨by rw [HF.out]; rfl, HA.out⟩
        · have HF := Lib.hid (show fitsOk l ⟨name, kind, cs, low, high, schema, table, key⟩ = ruleRest l ⟨name, kind, cs, low, high, schema, table, key⟩ by simp [fitsOk, hrc, hN, hz0])
          have e0 : ((cs.length : Int) == 0) = false := beq_eq_false_iff_ne.2 (by omega)
          have hpos : 0 < cs.length := by omega
          have hc0 : 0 ≤ colAt l cs[0] := by have := HP.out 0 (by omega) hpos; simp at this; exact this.1
          clear hrc hz0
          by_cases k1 : kind = 1
          · subst k1
            go_wp2_with (go_at_call 153; refine (rname_any _ _ (by first | exact hn.max | exact hs.max | exact ht.max | exact hk'.max)).mono ?_; rintro e w' ⟨rfl, rfl⟩)
            all_goals
              go_ret
              refine ⟨Eq.trans (b := .returned (.bool _)) rfl (ret_of (bool_of ?_)), HA.out⟩
              rw [HF.out]
              clear HF HA HAB HP hbox hfr hz hzk hsl hsl2 h h2
              simp_all [ruleRest, emp]
          by_cases k2 : kind = 2
          · subst k2
            go_wp2_with (go_at_call 153; refine (rname_any _ _ (by first | exact hn.max | exact hs.max | exact ht.max | exact hk'.max)).mono ?_; rintro e w' ⟨rfl, rfl⟩)
            all_goals
              go_ret
              refine ⟨Eq.trans (b := .returned (.bool _)) rfl (ret_of (bool_of ?_)), HA.out⟩
              rw [HF.out]
              clear HF HA HAB HP hbox hfr hz hzk hsl hsl2 h h2
              simp_all [ruleRest, emp]
          by_cases k4 : kind = 4
          · subst k4
            go_wp2_with (go_at_call 153; refine (rname_any _ _ (by first | exact hn.max | exact hs.max | exact ht.max | exact hk'.max)).mono ?_; rintro e w' ⟨rfl, rfl⟩)
            all_goals
              go_ret
              refine ⟨Eq.trans (b := .returned (.bool _)) rfl (ret_of (bool_of ?_)), HA.out⟩
              rw [HF.out]
              clear HF HA HAB HP hbox hfr hz hzk hsl hsl2 h h2
              simp_all [ruleRest]
          by_cases k3 : kind = 3
          · subst k3
            obtain ⟨q, hq⟩ := Int.eq_ofNat_of_zero_le hc0
            have hql : q < l.length := by have := (idxP_range (fun c => eqS c.name cs[0]) l).2; unfold colAt at hq; omega
            obtain ⟨b, off, rfl, hb, c0, hss⟩ := str_at hsl2 hpos
            obtain ⟨b2, off2, rfl, hb2, d0, d1, d2, hss2⟩ := col_at hsl hql
            have c0' : wr.cell? ⟨b, off, none⟩ = some (.string cs[0]) := by simpa using c0
            have Ccol := Lib.hid (show Calls Tryz.prog 152 #[.slice (some ⟨b2, off2, none⟩) l.length cap, .string cs[0]] wr fun e w' => e = .returned (.int .i64 q) ∧ wr = w' from
              (rcol_any _ cap l cs[0] wr hsl).mono fun e w' ⟨he, hw⟩ => ⟨he.trans (by rw [← show colAt l cs[0] = (q : Int) from hq]; rfl), hw⟩)
            have HK := Lib.hid (show kindAt l (colAt l (cs.headD ByteArray.empty)) = l[q].kind by
              have e1 : cs.headD ByteArray.empty = cs[0] := by cases cs with | nil => simp at hpos | cons a t => rfl
              rw [e1, hq]; simp [kindAt, List.getElem?_eq_getElem hql])
            clear hc0 hq c0
            go_wp2_with (first | (go_at_call 153; refine (rname_any _ _ (by first | exact hn.max | exact hs.max | exact ht.max | exact hk'.max)).mono ?_; rintro e w' ⟨rfl, rfl⟩) | (go_at_call 152; refine Ccol.out.mono ?_; rintro e w' ⟨rfl, rfl⟩))
            all_goals
              go_ret
              refine ⟨Eq.trans (b := .returned (.bool _)) rfl (ret_of (bool_of ?_)), HA.out⟩
              rw [HF.out]
              have hkk := HK.out
              clear HF HA HAB HP hbox hfr hz hzk hsl hsl2 h h2 HK Ccol c0' d0 d1 d2
              simp_all [ruleRest, emp]
          · have q1 : (kind == 1) = false := by simp [k1]
            have q2 : (kind == 2) = false := by simp [k2]
            have q3 : (kind == 3) = false := by simp [k3]
            have q4 : (kind == 4) = false := by simp [k4]
            go_wp2_with (go_at_call 153; refine (rname_any _ _ (by first | exact hn.max | exact hs.max | exact ht.max | exact hk'.max)).mono ?_; rintro e w' ⟨rfl, rfl⟩)
            all_goals
              go_ret
              refine ⟨Eq.trans (b := .returned (.bool _)) rfl (ret_of (bool_of ?_)), HA.out⟩
              rw [HF.out]
              clear HF HA HAB HP hbox hfr hz hzk hsl hsl2 h h2
              simp_all [ruleRest]
end Go.Proofs.YticjnndhpfdajaaGreat
