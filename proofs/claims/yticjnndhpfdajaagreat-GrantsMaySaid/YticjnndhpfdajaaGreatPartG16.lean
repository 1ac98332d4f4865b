/- Contracts of the program, part 16. -/
import Derived.Test.YticjnndhpfdajaaGreatPartG8
import Derived.Test.YticjnndhpfdajaaGreatPartG15
import Derived.Test.YticjnndhpfdajaaGreatPartG2
/- slices.Index at texts; a rule's columns, counted. -/
namespace Go.Proofs.YticjnndhpfdajaaGreat
open Go.RowKit
set_option maxRecDepth 100000
set_option linter.unusedVariables false
/-- what is there once only, and is found in l, is not more than l -/
theorem rc_len (l : List Col) (cs : List ByteArray) (h : rcOk l cs = true) : cs.length ≤ l.length := by
  have hk : ∀ k (hk : k < cs.length), 0 ≤ colAt l cs[k] ∧ hasS (cs.take k) cs[k] = false := by
    intro k hk
    have := List.all_eq_true.1 h k (List.mem_range.2 hk)
    rw [List.getElem?_eq_getElem hk] at this
    simpa using this
  clear h
  have inj : ∀ i j (hi : i < cs.length) (hj : j < cs.length), i < j → colAt l cs[i] ≠ colAt l cs[j] := by
    intro i j hi hj hij he
    have h1 := (hk i hi).1
    obtain ⟨q, hq⟩ := Int.eq_ofNat_of_zero_le h1
    have hql : q < l.length := by have := (idxP_range (fun c => eqS c.name cs[i]) l).2; unfold colAt at hq; omega
    have a1 := idxP_at (fun c : Col => eqS c.name cs[i]) l q hql hq
    have a2 := idxP_at (fun c : Col => eqS c.name cs[j]) l q hql (he ▸ hq)
    have e : eqS cs[i] cs[j] = true := eqS_trans ((eqS_comm _ _).trans a1) a2
    have := (hk j hj).2
    unfold hasS at this
    rw [anyP_true (fun c => eqS c cs[j]) (cs.take j) i (by simp; omega) (by simpa using e)] at this
    cases this
  have hnd : ((List.range cs.length).map fun i => (colAt l (cs.getD i ByteArray.empty)).toNat).Nodup := by
    rw [List.nodup_iff_pairwise_ne, List.pairwise_map]
    refine List.Pairwise.imp_of_mem ?_ List.pairwise_lt_range
    intro i j hi hj hij he
    have hi' := List.mem_range.1 hi
    have hj' := List.mem_range.1 hj
    have e1 : cs.getD i ByteArray.empty = cs[i] := by simp [List.getD, List.getElem?_eq_getElem hi']
    have e2 : cs.getD j ByteArray.empty = cs[j] := by simp [List.getD, List.getElem?_eq_getElem hj']
    rw [e1, e2] at he
    have h1 := (hk i hi').1
    have h2 := (hk j hj').1
    exact inj i j hi' hj' hij (by omega)
  have hsub : ∀ u ∈ ((List.range cs.length).map fun i => (colAt l (cs.getD i ByteArray.empty)).toNat), u ∈ List.range l.length := by
    intro u hu
    obtain ⟨i, hi, rfl⟩ := List.mem_map.1 hu
    have hi' := List.mem_range.1 hi
    have e1 : cs.getD i ByteArray.empty = cs[i] := by simp [List.getD, List.getElem?_eq_getElem hi']
    rw [e1]
    have h1 := (hk i hi').1
    have h2 := (idxP_range (fun c => eqS c.name cs[i]) l).2
    unfold colAt at *
    exact List.mem_range.2 (by omega)
  have := hnd.length_le_of_subset hsub
  simpa using this
end Go.Proofs.YticjnndhpfdajaaGreat
/- objects.kinds. -/
namespace Go.Proofs.YticjnndhpfdajaaGreat
open Go.RowKit
set_option maxRecDepth 100000
set_option linter.unusedVariables false
def kindsOf (l : List Col) (cs : List ByteArray) : List Int := cs.filterMap fun s => if 0 ≤ colAt l s then some (kindAt l (colAt l s)) else none
theorem kindsOf_succ (l : List Col) (cs : List ByteArray) (k : Nat) (hk : k < cs.length) : kindsOf l (cs.take (k + 1)) = kindsOf l (cs.take k) ++ if 0 ≤ colAt l cs[k] then [kindAt l (colAt l cs[k])] else [] := by
  unfold kindsOf
  rw [List.take_succ_eq_append_getElem hk, List.filterMap_append]
  by_cases h : 0 ≤ colAt l cs[k] <;> simp [h]
theorem kindsOf_le (l : List Col) (cs : List ByteArray) : (kindsOf l cs).length ≤ cs.length := List.length_filterMap_le _ _
theorem infoVK : (Tryz.prog.info? 39).map (fun i => (i.zero, i.size, i.bytes)) = some (some (.int .i64 0), 1, 8) := by kernel_rfl
def KindsPost (w : World) (ks : List Int) (e : Ending) (w' : World) : Prop := ∃ v, e = .returned v ∧ w'.ownsRow w.heap.size 39 1 v ks.length (ks.map (Value.int .i64)) ∧ Aft w w'
set_option maxHeartbeats 2000000 in
theorem kinds_any (A : Option Addr) (cap : Nat) (l : List Col) (A2 : Option Addr) (cap2 : Nat) (cs : List ByteArray) (w : World) (h : SlAt w 3 ColR A cap l) (h2 : SlAt w 1 StrR A2 cap2 cs) :
    Calls Tryz.prog 145 #[.slice A l.length cap, .slice A2 cs.length cap2] w (KindsPost w (kindsOf l cs)) := by
  have hlen := h.len
  have hlen2 := h2.len
  obtain ⟨i0, hi, hz0, hz1, hz2⟩ := info_parts infoVK
  have HI := Lib.hid hi
  have HZ0 := Lib.hid hz0
  have HZ1 := Lib.hid hz1
  have HZ2 := Lib.hid hz2
  clear hi hz0 hz1 hz2
  go_enter Tryz.func145, Tryz.ntmps145
  go_wp2_with fail
  go_loopw [5, 11] (fun v i wr => ∃ k : Nat, k ≤ cs.length ∧ i = .int .i64 k ∧ Aft w wr ∧ wr.ownsRow w.heap.size 39 1 v (kindsOf l (cs.take k)).length ((kindsOf l (cs.take k)).map (Value.int .i64))) (fun _ i _ => cs.length - (intOf i).toNat)
  case atStart => exact ⟨0, Nat.zero_le _, rfl, Aft.refl _, own_nil _ _ _ _⟩
  case round =>
    rename_i v _
    obtain ⟨k, hk, rfl, ha, hown⟩ := hrel
    have HA := Lib.hid ha
    have HO := Lib.hid hown
    clear hown
    by_cases hlt : k < cs.length
    · have hsl := cols_aft ha h
      have hsl2 := strs_aft ha h2
      clear ha
      obtain ⟨b, off, rfl, hb, c0, hss⟩ := str_at hsl2 hlt
      obtain ⟨i, hi⟩ : ∃ i, colAt l cs[k] = i := ⟨_, rfl⟩
      have Cby := Lib.hid (show Calls Tryz.prog 83 #[.slice A l.length cap, .string cs[k], .func (.func 84) #[] #[]] wr fun e w' => e = .returned (.int .i64 i) ∧ Aft wr w' from
        (byCol A cap l cs[k] wr hsl).mono fun e w' ⟨he, hw⟩ => ⟨he.trans (by rw [← hi]; rfl), hw⟩)
      have HS := Lib.hid (kindsOf_succ l cs k hlt)
      by_cases hi0 : 0 ≤ i
      · obtain ⟨q, hq⟩ := Int.eq_ofNat_of_zero_le hi0
        subst hq
        have hql : q < l.length := by have := (idxP_range (fun c => eqS c.name cs[k]) l).2; unfold colAt at hi; omega
        obtain ⟨b2, off2, rfl, hb2, d0, d1, d2, hss2⟩ := col_at hsl hql
        have HN := Lib.hid (show kindsOf l (cs.take (k + 1)) = kindsOf l (cs.take k) ++ [l[q].kind] by rw [HS.out, hi, if_pos hi0]; simp [kindAt, List.getElem?_eq_getElem hql])
        have hkl := kindsOf_le l (cs.take k)
        have hkl2 : (cs.take k).length ≤ k := List.length_take_le _ _
        clear hi hsl hsl2 HS
        go_wp2_with fail
        refine Cby.out.mono ?_
        rintro e w1 ⟨rfl, a1⟩
        have HA1 := Lib.hid (HA.out.trans a1)
        have HO1 := Lib.hid (own_aft HO.out a1)
        have d1' := (Below.cell a1 (p := ⟨b2, off2 + q * 3 + 1, none⟩) hb2).trans d1
        clear a1 d0 d1 d2 c0
        go_wp2_with (at_builtin; refine wpList_append_own _ rfl (.tmp 20) (.tmp 26) 153 rfl w.heap.size 39 i0 (.int .i64 0) 1 8 Tryz.underlying153 HI.out HZ0.out HZ1.out HZ2.out rfl (by decide) _ _ _ rfl (HO1.out.alloc _) ⟨w1.heap.size, 0, none⟩ 1 1 [.int .i64 l[q].kind] rfl rfl ?c1 ?c2 ?c3 ?c4 ?c5 ?_)
        case c1 => exact cell_one_new _ _ _
        case c2 => simp [Value.oneCell']
        case c3 => unfold maxLen; omega
        case c4 => omega
        case c5 => have := HA1.out.size; simp; omega
        intro v' w2 hown' hgrow _
        have HA2 := Lib.hid (aft_grown (HO1.out.alloc _) (HA1.out.alloc _) hgrow)
        have HO2 := Lib.hid hown'
        clear hown' hgrow
        go_wp2_with fail
        go_roundw
        case rel => exact ⟨k + 1, by omega, by go_num, HA2.out, by rw [HN.out]; simpa using HO2.out⟩
        case measure => simp [intOf]; omega
      · have HN := Lib.hid (show kindsOf l (cs.take (k + 1)) = kindsOf l (cs.take k) by rw [HS.out, hi, if_neg hi0, List.append_nil])
        clear hi hsl hsl2 HS
        go_wp2_with fail
        refine Cby.out.mono ?_
        rintro e w1 ⟨rfl, a1⟩
        have HA1 := Lib.hid (HA.out.trans a1)
        have HO1 := Lib.hid (own_aft HO.out a1)
        clear a1
        go_wp2_with fail
        go_roundw
        case rel => exact ⟨k + 1, by omega, by go_num, HA1.out, by rw [HN.out]; exact HO1.out⟩
        case measure => simp [intOf]; omega
    · clear ha
      go_wp2_with fail
      go_ret
      have e1 : cs.take k = cs := List.take_of_length_le (by omega)
      have ho := HO.out
      rw [e1] at ho
      exact ⟨_, rfl, ho, HA.out⟩
end Go.Proofs.YticjnndhpfdajaaGreat
/- objects.where, within. -/
namespace Go.Proofs.YticjnndhpfdajaaGreat
open Go.RowKit
set_option maxRecDepth 100000
set_option linter.unusedVariables false
def tabAt (l : List Tab) (s n : ByteArray) : Int := idxP (fun t => eqS t.schema s && eqS t.name n) l
set_option maxHeartbeats 1000000 in
theorem where1 (schema name owner : ByteArray) (A0 : Option Addr) (n0 c0 : Nat) (A1 : Option Addr) (n1 c1 : Nat) (s n : ByteArray) (b1 b2 : Nat) (w : World) (hb1 : b1 < w.heap.size) (hb2 : b2 < w.heap.size) (hc1 : w.cell? ⟨b1, 0, none⟩ = some (.string s)) (hc2 : w.cell? ⟨b2, 0, none⟩ = some (.string n)) :
    Calls Tryz.prog 167 #[.agg #[.string schema, .string name, .string owner, .slice A0 n0 c0, .slice A1 n1 c1], .pointer (some ⟨b1, 0, none⟩), .pointer (some ⟨b2, 0, none⟩)] w fun e w' => e = .returned (.bool (eqS schema s && eqS name n)) ∧ Aft w w' := by
  cases h1 : eqS schema s
  · have h1' : (schema.toList == s.toList) = false := h1
    clear h1
    go_enter Tryz.func167, Tryz.ntmps167
    go_wp2_with fail
    go_ret
    exact ⟨rfl, (Aft.refl _).alloc _⟩
  · have h1' : (schema.toList == s.toList) = true := h1
    clear h1
    go_enter Tryz.func167, Tryz.ntmps167
    go_wp2_with fail
    go_ret
    exact ⟨rfl, (Aft.refl _).alloc _⟩
theorem aft_three {w w' : World} {c : Array Value} {a b : Value} {t ta tb : TypeId} (h : Aft (((w.alloc (.cells c t)).alloc (.cells #[a] ta)).alloc (.cells #[b] tb)) w') :
    w'.cell? ⟨w.heap.size + 1, 0, none⟩ = some a ∧ w'.cell? ⟨w.heap.size + 1 + 1, 0, none⟩ = some b ∧ w.heap.size + 1 < w'.heap.size ∧ w.heap.size + 1 + 1 < w'.heap.size := by
  have := aft_two (w := w.alloc (.cells c t)) h
  simpa using this
set_option maxHeartbeats 1000000 in
theorem where_any (vs : Value) (A : Option Addr) (cap : Nat) (l : List Tab) (s n : ByteArray) (w : World) (h : SlAt w 5 TabR A cap l) :
    Calls Tryz.prog 107 #[.agg #[vs, .slice A l.length cap], .string s, .string n] w fun e w' => e = .returned (.tuple #[.int .i64 (tabAt l s n), .bool (decide (0 ≤ tabAt l s n))]) ∧ Aft w w' := by
  have hent := enters (P := Tryz.prog) Tryz.func167 (by kernel_rfl) rfl
  obtain ⟨i, hi⟩ : ∃ i, tabAt l s n = i := ⟨_, rfl⟩
  have C := Lib.hid ((idxTab A cap l 167 #[.pointer (some ⟨w.heap.size + 1, 0, none⟩), .pointer (some ⟨w.heap.size + 1 + 1, 0, none⟩)] (fun t => eqS t.schema s && eqS t.name n) (((w.alloc (.cells #[vs, .slice A l.length cap] 25)).alloc (.cells #[.string s] 9)).alloc (.cells #[.string n] 9)) (tabs_aft ((((Aft.refl w).alloc _).alloc _).alloc _) h) hent (fun w' ha j hj e1 he => by
    obtain ⟨A2, cap2, A3, cap3, rfl, _⟩ := he
    obtain ⟨d1, d2, z1, z2⟩ := aft_three ha
    exact where1 _ _ _ A2 _ cap2 A3 _ cap3 s n (w.heap.size + 1) (w.heap.size + 1 + 1) w' z1 z2 d1 d2)).mono (fun e w' ⟨he, hw⟩ => (⟨he.trans (by rw [← hi]; rfl), hw⟩ : e = Ending.returned (Value.int .i64 i) ∧ Aft _ w')))
  rw [hi]
  clear hi
  go_enter Tryz.func107, Tryz.ntmps107
  go_wp2_with fail
  refine C.out.mono ?_
  rintro e w1 ⟨rfl, a1⟩
  have HA := Lib.hid (((((Aft.refl w).alloc _).alloc _).alloc _).trans a1)
  clear a1
  go_wp2_with fail
  go_ret2
  exact ⟨rfl, HA.out⟩
/-- how many tables a schema has -/
def within (l : List Tab) (s : ByteArray) : Nat := (l.filter fun t => eqS t.schema s).length
theorem within_succ (l : List Tab) (s : ByteArray) (k : Nat) (hk : k < l.length) : within (l.take (k + 1)) s = within (l.take k) s + if eqS l[k].schema s = true then 1 else 0 := by
  unfold within
  rw [List.take_succ_eq_append_getElem hk, List.filter_append, List.length_append]
  by_cases h : eqS l[k].schema s = true <;> simp [h]
theorem within_le (l : List Tab) (s : ByteArray) : within l s ≤ l.length := List.length_filter_le _ _
set_option maxHeartbeats 1000000 in
theorem within_any (vs : Value) (A : Option Addr) (cap : Nat) (l : List Tab) (s : ByteArray) (w : World) (h : SlAt w 5 TabR A cap l) :
    Calls Tryz.prog 99 #[.agg #[vs, .slice A l.length cap], .string s] w fun e w' => e = .returned (.int .i64 (within l s)) ∧ Aft w w' := by
  have hlen := h.len
  go_enter Tryz.func99, Tryz.ntmps99
  go_wp2_with fail
  go_loopw [5, 11] (fun n i wr => ∃ k : Nat, k ≤ l.length ∧ i = .int .i64 k ∧ n = .int .i64 (within (l.take k) s) ∧ Aft w wr) (fun _ i _ => l.length - (intOf i).toNat)
  case atStart => exact ⟨0, Nat.zero_le _, rfl, rfl, (Aft.refl _).alloc _⟩
  case round =>
    obtain ⟨k, hk, rfl, rfl, ha⟩ := hrel
    have HA := Lib.hid ha
    have hw := within_le (l.take k) s
    have hw2 : (l.take k).length ≤ k := List.length_take_le _ _
    by_cases hlt : k < l.length
    · have hsl := tabs_aft ha h
      clear ha
      obtain ⟨b, off, A2, cap2, A3, cap3, rfl, hb, c0, c1, c2, c3, c4, hs⟩ := tab_at hsl hlt
      clear hsl hs
      have HS := Lib.hid (within_succ l s k hlt)
      cases heq : eqS l[k].schema s
      · have h2 : (l[k].schema.toList == s.toList) = false := heq
        have HN := Lib.hid (show within (l.take (k + 1)) s = within (l.take k) s by rw [HS.out, heq]; simp)
        clear heq HS
        go_wp2_with fail
        go_roundw
        case rel => exact ⟨k + 1, by omega, by go_num, by rw [HN.out], HA.out.alloc _⟩
        case measure => simp [intOf]; omega
      · have h2 : (l[k].schema.toList == s.toList) = true := heq
        have HN := Lib.hid (show within (l.take (k + 1)) s = within (l.take k) s + 1 by rw [HS.out, heq]; simp)
        clear heq HS
        go_wp2_with fail
        go_roundw
        case rel => exact ⟨k + 1, by omega, by go_num, by rw [HN.out]; go_num, HA.out.alloc _⟩
        case measure => simp [intOf]; omega
    · clear ha
      go_wp2_with fail
      go_ret
      exact ⟨by rw [List.take_of_length_le (by omega)]; rfl, HA.out⟩
end Go.Proofs.YticjnndhpfdajaaGreat
/- objects.fits. -/
namespace Go.Proofs.YticjnndhpfdajaaGreat
open Go.RowKit
set_option maxRecDepth 100000
set_option linter.unusedVariables false
theorem hasS_iff (l : List ByteArray) (s : ByteArray) : hasS l s = true ↔ 0 ≤ idxP (fun c => eqS c s) l := by
  induction l with
  | nil => simp [hasS, idxP]
  | cons x l ih =>
    unfold hasS at ih ⊢
    rw [List.any_cons, Bool.or_eq_true, ih]
    simp only [idxP]
    by_cases hx : eqS x s = true
    · rw [if_pos hx]; simp [hx]
    · rw [if_neg hx]
      by_cases hy : idxP (fun c => eqS c s) l < 0
      · rw [if_pos hy]
        constructor
        · intro h; rcases h with h | h
          · exact absurd h hx
          · omega
        · intro h; omega
      · rw [if_neg hy]
        constructor
        · intro h; omega
        · intro h; right; omega
theorem hasS_idx (l : List ByteArray) (s : ByteArray) : hasS l s = decide (0 ≤ idxP (fun c => eqS c s) l) := by
  rw [Bool.eq_iff_iff, hasS_iff]; simp
set_option maxHeartbeats 8000000 in
theorem fits_any (A : Option Addr) (cap : Nat) (l : List Col) (r : Rul) (A2 : Option Addr) (cap2 : Nat) (w : World) (h : SlAt w 3 ColR A cap l) (h2 : SlAt w 1 StrR A2 cap2 r.cols)
    (hn : Small r.name.size) (hs : Small r.schema.size) (ht : Small r.table.size) (hk' : Small r.key.size) :
    Calls Tryz.prog 62 #[.slice A l.length cap, .agg #[.string r.name, .int .i64 r.kind, .slice A2 r.cols.length cap2, .int .i64 r.low, .int .i64 r.high, .string r.schema, .string r.table, .string r.key]] w
      fun e w' => e = .returned (.bool (fitsOk l r)) ∧ Aft w w' := by
  obtain ⟨name, kind, cs, low, high, schema, table, key⟩ := r
  simp only at h2 hn hs ht hk' ⊢
  have hlen := h.len
  have hlen2 := h2.len
  cases hN : nameB name
  · have HF := Lib.hid (show fitsOk l ⟨name, kind, cs, low, high, schema, table, key⟩ = false by simp [fitsOk, hN])
    go_enter Tryz.func62, Tryz.ntmps62
    go_wp2_with (go_at_call 87; refine (name_any _ _ (by first | exact hn.max | exact hs.max | exact ht.max | exact hk'.max)).mono ?_; rintro e w' ⟨rfl, rfl⟩)
    go_ret
    exact ⟨by rw [HF.out]; rfl, (Aft.refl _).alloc _⟩
  by_cases hz0 : cs.length < 1
  · have HF := Lib.hid (show fitsOk l ⟨name, kind, cs, low, high, schema, table, key⟩ = false by
      have : cs.length = 0 := by omega
      simp [fitsOk, this])
    go_enter Tryz.func62, Tryz.ntmps62
    go_wp2_with (go_at_call 87; refine (name_any _ _ (by first | exact hn.max | exact hs.max | exact ht.max | exact hk'.max)).mono ?_; rintro e w' ⟨rfl, rfl⟩)
    go_ret
    exact ⟨by rw [HF.out]; rfl, (Aft.refl _).alloc _⟩
  by_cases hzl : l.length < cs.length
  · have HF := Lib.hid (show fitsOk l ⟨name, kind, cs, low, high, schema, table, key⟩ = false by
      have : rcOk l cs = false := by
        cases hrc : rcOk l cs with
        | false => rfl
        | true => have := rc_len l cs hrc; omega
      simp [fitsOk, this])
    have hpos : 1 ≤ cs.length := by omega
    clear hz0
    go_enter Tryz.func62, Tryz.ntmps62
    go_wp2_with (go_at_call 87; refine (name_any _ _ (by first | exact hn.max | exact hs.max | exact ht.max | exact hk'.max)).mono ?_; rintro e w' ⟨rfl, rfl⟩)
    go_ret
    exact ⟨by rw [HF.out]; rfl, (Aft.refl _).alloc _⟩
  have hpos : 1 ≤ cs.length := by omega
  have hll : cs.length ≤ l.length := by omega
  have bb1 : decide ((cs.length : Int) < 1) = false := decide_eq_false (by omega)
  have bb2 : decide (l.length < cs.length) = false := decide_eq_false (by omega)
  have bb3 : decide ((l.length : Int) < (cs.length : Int)) = false := decide_eq_false (by omega)
  clear hz0 hzl
  go_enter Tryz.func62, Tryz.ntmps62
  go_wp2_with (go_at_call 87; refine (name_any _ _ (by first | exact hn.max | exact hs.max | exact ht.max | exact hk'.max)).mono ?_; rintro e w' ⟨rfl, rfl⟩)
  go_loopw [29] (fun i wr => ∃ k : Nat, k ≤ cs.length ∧ i = .int .i64 k ∧ Aft (w.alloc (.cells #[.string name, .int .i64 kind, .slice A2 cs.length cap2, .int .i64 low, .int .i64 high, .string schema, .string table, .string key] 29)) wr ∧ ∀ j, j < k → ∀ (hj : j < cs.length), (decide (0 ≤ colAt l cs[j]) && !(hasS (cs.take j) cs[j])) = true) (fun i _ => cs.length - (intOf i).toNat)
  case atStart => exact ⟨0, Nat.zero_le _, rfl, Aft.refl _, fun j hj => absurd hj (Nat.not_lt_zero j)⟩
  case round =>
    obtain ⟨k, hk, rfl, ha, hp⟩ := hrel
    obtain ⟨hbox, hfr, hz, hzk, HA⟩ := aft_box ha
    have HAB := Lib.hid ha
    have HP := Lib.hid hp; clear hp
    have hsl := cols_aft HA.out h
    have hsl2 := strs_aft HA.out h2
    clear ha
    by_cases hlt : k < cs.length
    · obtain ⟨b, off, rfl, hb, c0, hss⟩ := str_at hsl2 hlt
      obtain ⟨i, hi⟩ : ∃ i, colAt l cs[k] = i := ⟨_, rfl⟩
      obtain ⟨m, hm⟩ : ∃ m, idxP (fun c => eqS c cs[k]) cs = m := ⟨_, rfl⟩
      have Cby := Lib.hid (show Calls Tryz.prog 83 #[.slice A l.length cap, .string cs[k], .func (.func 84) #[] #[]] wr fun e w' => e = .returned (.int .i64 i) ∧ Aft wr w' from
        (byCol A cap l cs[k] wr hsl).mono fun e w' ⟨he, hw⟩ => ⟨he.trans (by rw [← hi]; rfl), hw⟩)
      have Cidx := Lib.hid (show ∀ w', Aft wr w' → Calls Tryz.prog 142 #[.slice (some ⟨b, off, none⟩) cs.length cap2, .string cs[k]] w' fun e w'' => e = .returned (.int .i64 m) ∧ w' = w'' from
        fun w' ha' => (sidx_any _ cap2 cs cs[k] w' (strs_aft ha' hsl2)).mono fun e w'' ⟨he, hw⟩ => ⟨he.trans (by rw [← hm]), hw⟩)
      have HI := Lib.hid hi
      have HM := Lib.hid hm
      clear hi hm hsl hsl2
      by_cases hi0 : i < 0
      · go_wp2_with fail
        refine Cby.out.mono ?_
        rintro e w1 ⟨rfl, a1⟩
        have HA1 := Lib.hid (HA.out.trans a1)
        clear a1
        go_wp2_with fail
        go_ret
        exact ⟨by rw [show fitsOk l ⟨name, kind, cs, low, high, schema, table, key⟩ = false by unfold fitsOk; rw [rcOk_false l cs k hlt (by rw [HI.out, decide_eq_false (by omega)]; rfl)]; rfl]; rfl, HA1.out⟩
      · have hi1 : 0 ≤ i := by omega
        have hd : decide (i < 0) = false := decide_eq_false hi0
        by_cases hmk : m = k
        · have e1 : (m != (k : Int)) = false := by simp [hmk]
          have HMK := Lib.hid hmk
          clear hmk
          go_wp2_with fail
          refine Cby.out.mono ?_
          rintro e w1 ⟨rfl, a1⟩
          obtain ⟨hbox1, hfr1, hz1, hzk1, HA1⟩ := aft_box (HAB.out.trans a1)
          have HAB1 := Lib.hid (HAB.out.trans a1)
          have HW1 := Lib.hid a1
          clear a1 hbox hfr hz hzk
          go_wp2_with fail
          refine (Cidx.out _ HW1.out).mono ?_
          rintro e w2 ⟨rfl, rfl⟩
          go_wp2_with fail
          go_roundw
          case rel =>
            refine ⟨k + 1, by omega, by go_num, HAB1.out, ext_lt (p := fun j => ∀ (hj : j < cs.length), (decide (0 ≤ colAt l cs[j]) && !(hasS (cs.take j) cs[j])) = true) HP.out (fun _ => ?_)⟩
            rw [HI.out, decide_eq_true hi1, hasS_idx, decide_eq_false]
            · rfl
            · intro h0
              have q1 := (idxP_miss (fun c => eqS c cs[k]) cs k hlt h0).1
              have q2 := HM.out
              have q3 := HMK.out
              omega
          case measure => simp [intOf]; omega
        · have e1 : (m != (k : Int)) = true := by rw [bne_iff_ne]; exact hmk
          have HMK := Lib.hid hmk
          clear hmk
          go_wp2_with fail
          refine Cby.out.mono ?_
          rintro e w1 ⟨rfl, a1⟩
          obtain ⟨hbox1, hfr1, hz1, hzk1, HA1⟩ := aft_box (HAB.out.trans a1)
          have HW1 := Lib.hid a1
          clear a1 hbox hfr hz hzk
          go_wp2_with fail
          refine (Cidx.out _ HW1.out).mono ?_
          rintro e w2 ⟨rfl, rfl⟩
          go_wp2_with fail
          go_ret
          have hf : (decide (0 ≤ colAt l cs[k]) && !(hasS (cs.take k) cs[k])) = false := by
            rw [hasS_idx, decide_eq_true (p := 0 ≤ idxP (fun c => eqS c cs[k]) (cs.take k)), Bool.not_true, Bool.and_false]
            refine Int.not_lt.1 fun h0 => ?_
            exact HMK.out (HM.out.symm.trans (idxP_hit (fun c => eqS c cs[k]) cs k hlt (eqS_refl _) h0))
          exact ⟨by rw [show fitsOk l ⟨name, kind, cs, low, high, schema, table, key⟩ = false by unfold fitsOk; rw [rcOk_false l cs k hlt hf]; rfl]; rfl, HA1.out⟩
    · have hrc := rcOk_true l cs (fun j hj hj' => HP.out j (by omega) hj')
      have HF := Lib.hid (show fitsOk l ⟨name, kind, cs, low, high, schema, table, key⟩ = ruleRest l ⟨name, kind, cs, low, high, schema, table, key⟩ by
        have : ¬ cs.length = 0 := by omega
        simp [fitsOk, hrc, hN, this])
      have hc0 : 0 ≤ colAt l cs[0] := by have := HP.out 0 (by omega) hpos; simp at this; exact this.1
      clear hrc
      have z1 : schema.size + table.size ≤ 9223372036854775807 := by unfold Small at *; omega
      have z2 : schema.size + table.size + key.size ≤ 9223372036854775807 := by unfold Small at *; omega
      by_cases k1 : kind = 1
      · subst k1
        go_wp2_with (go_at_call 87; refine (name_any _ _ (by first | exact hn.max | exact hs.max | exact ht.max | exact hk'.max)).mono ?_; rintro e w' ⟨rfl, rfl⟩)
        all_goals
          go_ret
          refine ⟨Eq.trans (b := .returned (.bool _)) rfl (ret_of (bool_of ?_)), HA.out⟩
          rw [HF.out]
          clear HF HA HAB HP hbox hfr hz hzk hsl hsl2 h h2
          simp_all [ruleRest, emp, cat_nil_iff]
      by_cases k2 : kind = 2
      · subst k2
        go_wp2_with (go_at_call 87; refine (name_any _ _ (by first | exact hn.max | exact hs.max | exact ht.max | exact hk'.max)).mono ?_; rintro e w' ⟨rfl, rfl⟩)
        all_goals
          go_ret
          refine ⟨Eq.trans (b := .returned (.bool _)) rfl (ret_of (bool_of ?_)), HA.out⟩
          rw [HF.out]
          clear HF HA HAB HP hbox hfr hz hzk hsl hsl2 h h2
          simp_all [ruleRest, emp, cat_nil_iff]
      by_cases k4 : kind = 4
      · subst k4
        go_wp2_with (go_at_call 87; refine (name_any _ _ (by first | exact hn.max | exact hs.max | exact ht.max | exact hk'.max)).mono ?_; rintro e w' ⟨rfl, rfl⟩)
        all_goals
          go_ret
          refine ⟨Eq.trans (b := .returned (.bool _)) rfl (ret_of (bool_of ?_)), HA.out⟩
          rw [HF.out]
          clear HF HA HAB HP hbox hfr hz hzk hsl hsl2 h h2
          simp_all [ruleRest]
      by_cases k3 : kind = 3
      · subst k3
        obtain ⟨q, hq⟩ := Int.eq_ofNat_of_zero_le hc0
        have hql : q < l.length := by have := (idxP_range (fun c => eqS c.name cs[0]) l).2; unfold colAt at hq; omega
        obtain ⟨b, off, rfl, hb, c0, hss⟩ := str_at hsl2 hpos
        obtain ⟨b2, off2, rfl, hb2, d0, d1, d2, hss2⟩ := col_at hsl hql
        have c0' : wr.cell? ⟨b, off, none⟩ = some (.string cs[0]) := by simpa using c0
        have Ccol := Lib.hid (show Calls Tryz.prog 83 #[.slice (some ⟨b2, off2, none⟩) l.length cap, .string cs[0], .func (.func 84) #[] #[]] wr fun e w' => e = .returned (.int .i64 q) ∧ Aft wr w' from
          (byCol _ cap l cs[0] wr hsl).mono fun e w' ⟨he, hw⟩ => ⟨he.trans (by rw [← show colAt l cs[0] = (q : Int) from hq]; rfl), hw⟩)
        have HK := Lib.hid (show kindAt l (colAt l (cs.headD ByteArray.empty)) = l[q].kind by
          have e1 : cs.headD ByteArray.empty = cs[0] := by cases cs with | nil => simp at hpos | cons a t => rfl
          rw [e1, hq]; simp [kindAt, List.getElem?_eq_getElem hql])
        have HA3 := HA
        clear hc0 hq c0
        go_wp2_with (first | (go_at_call 87; refine (name_any _ _ (by first | exact hn.max | exact hs.max | exact ht.max | exact hk'.max)).mono ?_; rintro e w' ⟨rfl, rfl⟩) | (go_at_call 83; refine Ccol.out.mono ?_; rintro e w2 ⟨rfl, a2⟩; obtain ⟨hbox2, hfr2, hz2, hzk2, HA2⟩ := aft_box (HAB.out.trans a2); have d1' := (Below.cell a2 (p := ⟨b2, off2 + q * 3 + 1, none⟩) hb2).trans d1; clear a2 hbox hfr hz hzk c0' d0 d1 d2 HA))
        all_goals
          go_ret
          refine ⟨Eq.trans (b := .returned (.bool _)) rfl (ret_of (bool_of ?_)), by first | exact HA2.out | exact HA3.out⟩
          rw [HF.out]
          have hkk := HK.out
          clear HF HA3 HAB HP hsl hsl2 h h2 HK Ccol
          simp_all [ruleRest, emp, cat_nil_iff]
      · have q1 : (kind == 1) = false := by simp [k1]
        have q2 : (kind == 2) = false := by simp [k2]
        have q3 : (kind == 3) = false := by simp [k3]
        have q4 : (kind == 4) = false := by simp [k4]
        go_wp2_with (go_at_call 87; refine (name_any _ _ (by first | exact hn.max | exact hs.max | exact ht.max | exact hk'.max)).mono ?_; rintro e w' ⟨rfl, rfl⟩)
        all_goals
          go_ret
          refine ⟨Eq.trans (b := .returned (.bool _)) rfl (ret_of (bool_of ?_)), HA.out⟩
          rw [HF.out]
          clear HF HA HAB HP hbox hfr hz hzk hsl hsl2 h h2
          simp_all [ruleRest]
end Go.Proofs.YticjnndhpfdajaaGreat
