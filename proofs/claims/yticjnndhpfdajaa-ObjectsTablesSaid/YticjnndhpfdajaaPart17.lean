/- Contracts of the program, part 17. -/
import Derived.Test.YticjnndhpfdajaaPart14
import Derived.Test.YticjnndhpfdajaaPart15
import Derived.Test.YticjnndhpfdajaaPart16
import Derived.Test.YticjnndhpfdajaaPart7
/- slices.Index at texts; a rule's columns, counted. -/
namespace Go.Proofs.Yticjnndhpfdajaa
open Go.RowKit
set_option maxRecDepth 100000
set_option linter.unusedVariables false
/-- what is there once only, and is found in l, is not more than l -/
theorem rc_len (l : List Col) (cs : List ByteArray) (h : rcOk l cs = true) : cs.length ≤ l.length := by
  have hk : ∀ k (hk : k < cs.length), 0 ≤ colAt l cs[k] ∧ hasS (cs.take k) cs[k] = false := by
    intro k hk
    have := List.all_eq_true.1 h k (List.mem_range.2 hk)
    rw [List.getElem?_eq_getElem hk] at this
    simpa using this
  clear h
  have inj : ∀ i j (hi : i < cs.length) (hj : j < cs.length), i < j → colAt l cs[i] ≠ colAt l cs[j] := by
    intro i j hi hj hij he
    have h1 := (hk i hi).1
    obtain ⟨q, hq⟩ := Int.eq_ofNat_of_zero_le h1
    have hql : q < l.length := by have := (idxP_range (fun c => eqS c.name cs[i]) l).2; unfold colAt at hq; omega
    have a1 := idxP_at (fun c : Col => eqS c.name cs[i]) l q hql hq
    have a2 := idxP_at (fun c : Col => eqS c.name cs[j]) l q hql (he ▸ hq)
    have e : eqS cs[i] cs[j] = true := eqS_trans ((eqS_comm _ _).trans a1) a2
    have := (hk j hj).2
    unfold hasS at this
    rw [anyP_true (fun c => eqS c cs[j]) (cs.take j) i (by simp; omega) (by simpa using e)] at this
    cases this
  have hnd : ((List.range cs.length).map fun i => (colAt l (cs.getD i ByteArray.empty)).toNat).Nodup := by
    rw [List.nodup_iff_pairwise_ne, List.pairwise_map]
    refine List.Pairwise.imp_of_mem ?_ List.pairwise_lt_range
    intro i j hi hj hij he
    have hi' := List.mem_range.1 hi
    have hj' := List.mem_range.1 hj
    have e1 : cs.getD i ByteArray.empty = cs[i] := by simp [List.getD, List.getElem?_eq_getElem hi']
    have e2 : cs.getD j ByteArray.empty = cs[j] := by simp [List.getD, List.getElem?_eq_getElem hj']
    rw [e1, e2] at he
    have h1 := (hk i hi').1
    have h2 := (hk j hj').1
    exact inj i j hi' hj' hij (by omega)
  have hsub : ∀ u ∈ ((List.range cs.length).map fun i => (colAt l (cs.getD i ByteArray.empty)).toNat), u ∈ List.range l.length := by
    intro u hu
    obtain ⟨i, hi, rfl⟩ := List.mem_map.1 hu
    have hi' := List.mem_range.1 hi
    have e1 : cs.getD i ByteArray.empty = cs[i] := by simp [List.getD, List.getElem?_eq_getElem hi']
    rw [e1]
    have h1 := (hk i hi').1
    have h2 := (idxP_range (fun c => eqS c.name cs[i]) l).2
    unfold colAt at *
    exact List.mem_range.2 (by omega)
  have := hnd.length_le_of_subset hsub
  simpa using this
end Go.Proofs.Yticjnndhpfdajaa
/- objects.kinds. -/
namespace Go.Proofs.Yticjnndhpfdajaa
open Go.RowKit
set_option maxRecDepth 100000
set_option linter.unusedVariables false
def kindsOf (l : List Col) (cs : List ByteArray) : List Int := cs.filterMap fun s => if 0 ≤ colAt l s then some (kindAt l (colAt l s)) else none
theorem kindsOf_succ (l : List Col) (cs : List ByteArray) (k : Nat) (hk : k < cs.length) : kindsOf l (cs.take (k + 1)) = kindsOf l (cs.take k) ++ if 0 ≤ colAt l cs[k] then [kindAt l (colAt l cs[k])] else [] := by
  unfold kindsOf
  rw [List.take_succ_eq_append_getElem hk, List.filterMap_append]
  by_cases h : 0 ≤ colAt l cs[k] <;> simp [h]
theorem kindsOf_le (l : List Col) (cs : List ByteArray) : (kindsOf l cs).length ≤ cs.length := List.length_filterMap_le _ _
theorem infoVK : (Try.prog.info? 66).map (fun i => (i.zero, i.size, i.bytes)) = some (some (.int .i64 0), 1, 8) := by kernel_rfl
def KindsPost (w : World) (ks : List Int) (e : Ending) (w' : World) : Prop := ∃ v, e = .returned v ∧ w'.ownsRow w.heap.size 66 1 v ks.length (ks.map (Value.int .i64)) ∧ Aft w w'
set_option maxHeartbeats 2000000 in
theorem kinds_any (A : Option Addr) (cap : Nat) (l : List Col) (A2 : Option Addr) (cap2 : Nat) (cs : List ByteArray) (w : World) (h : SlAt w 3 ColR A cap l) (h2 : SlAt w 1 StrR A2 cap2 cs) :
    Calls Try.prog 98 #[.slice A l.length cap, .slice A2 cs.length cap2] w (KindsPost w (kindsOf l cs)) := by
  have hlen := h.len
  have hlen2 := h2.len
  obtain ⟨i0, hi, hz0, hz1, hz2⟩ := info_parts infoVK
  have HI := Lib.hid hi
  have HZ0 := Lib.hid hz0
  have HZ1 := Lib.hid hz1
  have HZ2 := Lib.hid hz2
  clear hi hz0 hz1 hz2
  go_enter Try.func98, Try.ntmps98
  go_wp2_with fail
  go_loopw [5, 11] (fun v i wr => ∃ k : Nat, k ≤ cs.length ∧ i = .int .i64 k ∧ Aft w wr ∧ wr.ownsRow w.heap.size 66 1 v (kindsOf l (cs.take k)).length ((kindsOf l (cs.take k)).map (Value.int .i64))) (fun _ i _ => cs.length - (intOf i).toNat)
  case atStart => exact ⟨0, Nat.zero_le _, rfl, Aft.refl _, own_nil _ _ _ _⟩
  case round =>
    rename_i v _
    obtain ⟨k, hk, rfl, ha, hown⟩ := hrel
    have HA := Lib.hid ha
    have HO := Lib.hid hown
    clear hown
    by_cases hlt : k < cs.length
    · have hsl := cols_aft ha h
      have hsl2 := strs_aft ha h2
      clear ha
      obtain ⟨b, off, rfl, hb, c0, hss⟩ := str_at hsl2 hlt
      obtain ⟨i, hi⟩ : ∃ i, colAt l cs[k] = i := ⟨_, rfl⟩
      have Cby := Lib.hid (show Calls Try.prog 46 #[.slice A l.length cap, .string cs[k], .func (.func 47) #[] #[]] wr fun e w' => e = .returned (.int .i64 i) ∧ Aft wr w' from
        (byCol A cap l cs[k] wr hsl).mono fun e w' ⟨he, hw⟩ => ⟨he.trans (by rw [← hi]; rfl), hw⟩)
      have HS := Lib.hid (kindsOf_succ l cs k hlt)
      by_cases hi0 : 0 ≤ i
      · obtain ⟨q, hq⟩ := Int.eq_ofNat_of_zero_le hi0
        subst hq
        have hql : q < l.length := by have := (idxP_range (fun c => eqS c.name cs[k]) l).2; unfold colAt at hi; omega
        obtain ⟨b2, off2, rfl, hb2, d0, d1, d2, hss2⟩ := col_at hsl hql
        have HN := Lib.hid (show kindsOf l (cs.take (k + 1)) = kindsOf l (cs.take k) ++ [l[q].kind] by rw [HS.out, hi, if_pos hi0]; simp [kindAt, List.getElem?_eq_getElem hql])
        have hkl := kindsOf_le l (cs.take k)
        have hkl2 : (cs.take k).length ≤ k := List.length_take_le _ _
        clear hi hsl hsl2 HS
        go_wp2_with fail
        refine Cby.out.mono ?_
        rintro e w1 ⟨rfl, a1⟩
        have HA1 := Lib.hid (HA.out.trans a1)
        have HO1 := Lib.hid (own_aft HO.out a1)
        have d1' := (Below.cell a1 (p := ⟨b2, off2 + q * 3 + 1, none⟩) hb2).trans d1
        clear a1 d0 d1 d2 c0
        go_wp2_with (at_builtin; refine wpList_append_own _ rfl (.tmp 20) (.tmp 26) 123 rfl w.heap.size 66 i0 (.int .i64 0) 1 8 Try.underlying123 HI.out HZ0.out HZ1.out HZ2.out rfl (by decide) _ _ _ rfl (HO1.out.alloc _) ⟨w1.heap.size, 0, none⟩ 1 1 [.int .i64 l[q].kind] rfl rfl ?c1 ?c2 ?c3 ?c4 ?c5 ?_)
        case c1 => exact cell_one_new _ _ _
        case c2 => simp [Value.oneCell']
        case c3 => unfold maxLen; omega
        case c4 => omega
        case c5 => have := HA1.out.size; simp; omega
        intro v' w2 hown' hgrow _
        have HA2 := Lib.hid (aft_grown (HO1.out.alloc _) (HA1.out.alloc _) hgrow)
        have HO2 := Lib.hid hown'
        clear hown' hgrow
        go_wp2_with fail
        go_roundw
        case rel => exact ⟨k + 1, by omega, by go_num, HA2.out, by rw [HN.out]; simpa using HO2.out⟩
        case measure => simp [intOf]; omega
      · have HN := Lib.hid (show kindsOf l (cs.take (k + 1)) = kindsOf l (cs.take k) by rw [HS.out, hi, if_neg hi0, List.append_nil])
        clear hi hsl hsl2 HS
        go_wp2_with fail
        refine Cby.out.mono ?_
        rintro e w1 ⟨rfl, a1⟩
        have HA1 := Lib.hid (HA.out.trans a1)
        have HO1 := Lib.hid (own_aft HO.out a1)
        clear a1
        go_wp2_with fail
        go_roundw
        case rel => exact ⟨k + 1, by omega, by go_num, HA1.out, by rw [HN.out]; exact HO1.out⟩
        case measure => simp [intOf]; omega
    · clear ha
      go_wp2_with fail
      go_ret
      have e1 : cs.take k = cs := List.take_of_length_le (by omega)
      have ho := HO.out
      rw [e1] at ho
      exact ⟨_, rfl, ho, HA.out⟩
end Go.Proofs.Yticjnndhpfdajaa
