/- Contracts of the program, part 7. -/
import Derived.Test.YticjnndhpfdajaaGreatPartG5
import Derived.Test.YticjnndhpfdajaaGreatPartG6
import Derived.Test.YticjnndhpfdajaaGreatPartG3
import Derived.Lib.SliceRun
/- slices.IsSortedFunc at texts and at members, whatever the function value. -/
namespace Go.Proofs.YticjnndhpfdajaaGreat
open Go.RowKit
set_option maxRecDepth 100000
set_option linter.unusedVariables false
def Sorted {α : Type} (c : α → α → Int) (l : List α) : Prop := ∀ k (h : k + 1 < l.length), 0 ≤ c l[k + 1] (l[k]'(by omega))
def SortP {α : Type} (c : α → α → Int) (l : List α) (w : World) (e : Ending) (w' : World) : Prop := ∃ b : Bool, e = .returned (.bool b) ∧ (b = true ↔ Sorted c l) ∧ Aft w w'
set_option maxHeartbeats 2000000 in
theorem sortedS (A : Option Addr) (cap : Nat) (l : List ByteArray) (g : FuncId) (caps : Array Value) (c : ByteArray → ByteArray → Int) (w : World) (h : SlAt w 1 StrR A cap l) (hent : ∀ (args : Array Value) (w : World), (callFunc g args).run Tryz.prog w = .ok (.enter g args) w)
    (hp : ∀ w', Aft w w' → ∀ i (hi : i + 1 < l.length), Calls Tryz.prog g (#[.string l[i + 1], .string (l[i]'(by omega))] ++ caps) w' fun e w'' => e = .returned (.int .i64 (c l[i + 1] (l[i]'(by omega)))) ∧ Aft w' w'') :
    Calls Tryz.prog 257 #[.slice A l.length cap, .func (.func g) #[] caps] w (SortP c l w) := by
  have hlen := h.len
  have HC := Lib.hid hp
  clear hp
  by_cases h2 : l.length ≤ 1
  · have HT := Lib.hid (show Sorted c l from fun k hk => by omega)
    have hi2 : (l.length : Int) ≤ 1 := by omega
    have hi3 : (l.length : Int) - 1 ≤ 0 := by omega
    have hi4 : ¬ (0 : Int) < (l.length : Int) - 1 := by omega
    have hw1 : IntKind.i64.wrap ((l.length : Int) - 1) = (l.length : Int) - 1 := IntWalk.i64_in _ (by omega)
    go_enter Tryz.func257, Tryz.ntmps257
    go_wp2_with fail
    go_loop [5] (fun i => i = .int .i64 ((l.length : Int) - 1)) (fun i => 2)
    case atStart => rfl
    case round =>
      subst hrel
      go_wp2_with fail
      go_ret
      exact ⟨true, rfl, ⟨fun _ => HT.out, fun _ => rfl⟩, Aft.refl _⟩
  · have hge : 2 ≤ l.length := by omega
    have hi3 : (0 : Int) < (l.length : Int) - 1 := by omega
    have hw1 : IntKind.i64.wrap ((l.length : Int) - 1) = (l.length : Int) - 1 := IntWalk.i64_in _ (by omega)
    go_enter Tryz.func257, Tryz.ntmps257
    go_wp2_with fail
    go_loopw [5] (fun i wr => ∃ k : Nat, k ≤ l.length - 1 ∧ i = .int .i64 k ∧ Aft w wr ∧ ∀ j, k ≤ j → ∀ (hj : j + 1 < l.length), 0 ≤ c l[j + 1] (l[j]'(by omega))) (fun i _ => (intOf i).toNat)
    case atStart => exact ⟨l.length - 1, by omega, by congr 1; omega, Aft.refl _, fun j hj h => by omega⟩
    case round =>
      obtain ⟨k, hk, rfl, ha, hp⟩ := hrel
      have HA := Lib.hid ha
      have HP := Lib.hid hp; clear hp
      by_cases h0 : k = 0
      · subst h0
        have HT := Lib.hid (show Sorted c l from fun j hj => HP.out j (by omega) hj)
        clear ha
        go_wp2_with fail
        go_ret
        exact ⟨true, rfl, ⟨fun _ => HT.out, fun _ => rfl⟩, HA.out⟩
      · obtain ⟨k, rfl⟩ : ∃ k', k = k' + 1 := ⟨k - 1, by omega⟩
        have hlt : k + 1 < l.length := by omega
        have hsl := strs_aft ha h
        have hk1 : k < l.length := by omega
        obtain ⟨b, off, rfl, hb, c0, hs⟩ := str_at hsl hk1
        obtain ⟨b', off', hA', hb', d0, hs'⟩ := str_at hsl hlt
        simp only [Option.some.injEq, Addr.mk.injEq, and_true] at hA'
        obtain ⟨rfl, rfl⟩ := hA'
        obtain ⟨r, hr⟩ : ∃ r, c l[k + 1] (l[k]'(by omega)) = r := ⟨_, rfl⟩
        have Cc := Lib.hid (show ∀ x : Lat wr, _ from fun x => hr ▸ HC.out (lat wr x) (HA.out.lat x) k hlt)
        have HR := Lib.hid hr
        clear ha hsl hr
        have w1 : IntKind.i64.wrap (((k + 1 : Nat) : Int) - 1) = (k : Int) := by rw [show ((k + 1 : Nat) : Int) - 1 = (k : Int) from by omega]; exact IntWalk.i64_in _ (by omega)
        have w5 : IntKind.i64.wrap ((k : Int) + 1 - 1) = (k : Int) := by rw [show (k : Int) + 1 - 1 = (k : Int) from by omega]; exact IntWalk.i64_in _ (by omega)
        have w2 : (0 : Int) ≤ (k : Int) + 1 := by omega
        have w3 : ((k : Int) + 1).toNat = k + 1 := by omega
        have w4 : (k : Int) + 1 < (l.length : Int) := by omega
        have w6 : (0 : Int) < (k : Int) + 1 := by omega
        by_cases hr0 : r < 0
        · go_wp2_with fail
          refine wp_region_lat (by kernel_rfl) (by kernel_rfl) ?_
          repeat (go_big_quiet_step ((exact Calls.lat_of (Cc.out _))))
          refine wpQuiet_nil ?_
          intro _ hw'
          obtain ⟨x, hw''⟩ := hw'
          subst hw''
          clear w1 w2 w3 w4 w5 w6
          go_wp2_with fail
          go_ret
          exact ⟨false, rfl, ⟨fun h => Bool.noConfusion h, fun h => absurd (h k hlt) (by rw [HR.out]; omega)⟩, HA.out.lat x⟩
        · go_wp2_with fail
          refine wp_region_lat (by kernel_rfl) (by kernel_rfl) ?_
          repeat (go_big_quiet_step ((exact Calls.lat_of (Cc.out _))))
          refine wpQuiet_nil ?_
          intro _ hw'
          obtain ⟨x, hw''⟩ := hw'
          subst hw''
          go_wp2_with fail
          go_roundw
          case rel =>
            refine ⟨k, by omega, by first | rfl | go_num, HA.out.lat x, fun j hj hj2 => ?_⟩
            rcases Nat.lt_or_ge k j with h1 | h1
            · exact HP.out j (by omega) hj2
            · have : j = k := by omega
              subst this
              rw [HR.out]; omega
          case measure => simp [intOf]
set_option maxHeartbeats 2000000 in
theorem sortedM (A : Option Addr) (cap : Nat) (l : List Mbr) (g : FuncId) (caps : Array Value) (c : Mbr → Mbr → Int) (w : World) (h : SlAt w 2 MbrR A cap l) (hent : ∀ (args : Array Value) (w : World), (callFunc g args).run Tryz.prog w = .ok (.enter g args) w)
    (hp : ∀ w', Aft w w' → ∀ i (hi : i + 1 < l.length), Calls Tryz.prog g (#[.agg #[.string (l[i + 1]).role, .string (l[i + 1]).of], .agg #[.string (l[i]'(by omega)).role, .string (l[i]'(by omega)).of]] ++ caps) w' fun e w'' => e = .returned (.int .i64 (c l[i + 1] (l[i]'(by omega)))) ∧ Aft w' w'') :
    Calls Tryz.prog 260 #[.slice A l.length cap, .func (.func g) #[] caps] w (SortP c l w) := by
  have hlen := h.len
  have HC := Lib.hid hp
  clear hp
  by_cases h2 : l.length ≤ 1
  · have HT := Lib.hid (show Sorted c l from fun k hk => by omega)
    have hi2 : (l.length : Int) ≤ 1 := by omega
    have hi3 : (l.length : Int) - 1 ≤ 0 := by omega
    have hi4 : ¬ (0 : Int) < (l.length : Int) - 1 := by omega
    have hw1 : IntKind.i64.wrap ((l.length : Int) - 1) = (l.length : Int) - 1 := IntWalk.i64_in _ (by omega)
    go_enter Tryz.func260, Tryz.ntmps260
    go_wp2_with fail
    go_loop [5] (fun i => i = .int .i64 ((l.length : Int) - 1)) (fun i => 2)
    case atStart => rfl
    case round =>
      subst hrel
      go_wp2_with fail
      go_ret
      exact ⟨true, rfl, ⟨fun _ => HT.out, fun _ => rfl⟩, Aft.refl _⟩
  · have hge : 2 ≤ l.length := by omega
    have hi3 : (0 : Int) < (l.length : Int) - 1 := by omega
    have hw1 : IntKind.i64.wrap ((l.length : Int) - 1) = (l.length : Int) - 1 := IntWalk.i64_in _ (by omega)
    go_enter Tryz.func260, Tryz.ntmps260
    go_wp2_with fail
    go_loopw [5] (fun i wr => ∃ k : Nat, k ≤ l.length - 1 ∧ i = .int .i64 k ∧ Aft w wr ∧ ∀ j, k ≤ j → ∀ (hj : j + 1 < l.length), 0 ≤ c l[j + 1] (l[j]'(by omega))) (fun i _ => (intOf i).toNat)
    case atStart => exact ⟨l.length - 1, by omega, by congr 1; omega, Aft.refl _, fun j hj h => by omega⟩
    case round =>
      obtain ⟨k, hk, rfl, ha, hp⟩ := hrel
      have HA := Lib.hid ha
      have HP := Lib.hid hp; clear hp
      by_cases h0 : k = 0
      · subst h0
        have HT := Lib.hid (show Sorted c l from fun j hj => HP.out j (by omega) hj)
        clear ha
        go_wp2_with fail
        go_ret
        exact ⟨true, rfl, ⟨fun _ => HT.out, fun _ => rfl⟩, HA.out⟩
      · obtain ⟨k, rfl⟩ : ∃ k', k = k' + 1 := ⟨k - 1, by omega⟩
        have hlt : k + 1 < l.length := by omega
        have hsl := mbrs_aft ha h
        have hk1 : k < l.length := by omega
        obtain ⟨b, off, rfl, hb, c0, c1, hs, hs2⟩ := mbr_at hsl hk1
        obtain ⟨b', off', hA', hb', d0, d1, hs', hs2'⟩ := mbr_at hsl hlt
        simp only [Option.some.injEq, Addr.mk.injEq, and_true] at hA'
        obtain ⟨rfl, rfl⟩ := hA'
        obtain ⟨r, hr⟩ : ∃ r, c l[k + 1] (l[k]'(by omega)) = r := ⟨_, rfl⟩
        have Cc := Lib.hid (show ∀ x : Lat wr, _ from fun x => hr ▸ HC.out (lat wr x) (HA.out.lat x) k hlt)
        have HR := Lib.hid hr
        clear ha hsl hr
        have w1 : IntKind.i64.wrap (((k + 1 : Nat) : Int) - 1) = (k : Int) := by rw [show ((k + 1 : Nat) : Int) - 1 = (k : Int) from by omega]; exact IntWalk.i64_in _ (by omega)
        have w5 : IntKind.i64.wrap ((k : Int) + 1 - 1) = (k : Int) := by rw [show (k : Int) + 1 - 1 = (k : Int) from by omega]; exact IntWalk.i64_in _ (by omega)
        have w2 : (0 : Int) ≤ (k : Int) + 1 := by omega
        have w3 : ((k : Int) + 1).toNat = k + 1 := by omega
        have w4 : (k : Int) + 1 < (l.length : Int) := by omega
        have w6 : (0 : Int) < (k : Int) + 1 := by omega
        by_cases hr0 : r < 0
        · go_wp2_with fail
          refine wp_region_lat (by kernel_rfl) (by kernel_rfl) ?_
          repeat (go_big_quiet_step ((exact Calls.lat_of (Cc.out _))))
          refine wpQuiet_nil ?_
          intro _ hw'
          obtain ⟨x, hw''⟩ := hw'
          subst hw''
          clear w1 w2 w3 w4 w5 w6
          go_wp2_with fail
          go_ret
          exact ⟨false, rfl, ⟨fun h => Bool.noConfusion h, fun h => absurd (h k hlt) (by rw [HR.out]; omega)⟩, HA.out.lat x⟩
        · go_wp2_with fail
          refine wp_region_lat (by kernel_rfl) (by kernel_rfl) ?_
          repeat (go_big_quiet_step ((exact Calls.lat_of (Cc.out _))))
          refine wpQuiet_nil ?_
          intro _ hw'
          obtain ⟨x, hw''⟩ := hw'
          subst hw''
          go_wp2_with fail
          go_roundw
          case rel =>
            refine ⟨k, by omega, by first | rfl | go_num, HA.out.lat x, fun j hj hj2 => ?_⟩
            rcases Nat.lt_or_ge k j with h1 | h1
            · exact HP.out j (by omega) hj2
            · have : j = k := by omega
              subst this
              rw [HR.out]; omega
          case measure => simp [intOf]
end Go.Proofs.YticjnndhpfdajaaGreat
/- roles.order: the order of members. -/
namespace Go.Proofs.YticjnndhpfdajaaGreat
open Go.RowKit
set_option maxRecDepth 100000
set_option linter.unusedVariables false
def cmpM (a b : Mbr) : Int := or2 (cmpS a.role b.role) (cmpS a.of b.of)
set_option maxHeartbeats 1000000 in
theorem order8 (a b : Mbr) (w : World) :
    Calls Tryz.prog 229 #[.agg #[.string a.role, .string a.of], .agg #[.string b.role, .string b.of]] w fun e w' => e = .returned (.int .i64 (cmpM a b)) ∧ Aft w w' := by
  go_enter Tryz.func229, Tryz.ntmps229
  go_wp2_with fail
  refine wp_region_tail 10 (by kernel_rfl) (by kernel_rfl) ?_
  intro w1 a1
  obtain ⟨hb1, hb2, hz, HA⟩ := aft_box2 a1
  clear a1
  simp only [List.take_succ_cons, List.take_zero, List.drop_succ_cons, List.drop_zero]
  repeat still_step
  still_call (compare_still _ _ _)
  repeat still_step
  still_call (compare_still _ _ _)
  refine wpStill_nil ?_
  go_wp2_with fail
  refine (or_any (cmpS a.role b.role) (cmpS a.of b.of) w1.heap.size _ (by simp) (by simp) (by simp)).mono ?_
  rintro e w2 ⟨rfl, a2⟩
  have HA2 := Lib.hid ((HA.out.alloc _).trans a2)
  clear a2
  go_wp2_with fail
  go_ret
  exact ⟨rfl, HA2.out⟩
end Go.Proofs.YticjnndhpfdajaaGreat
/- Rows of our own: many cells written at once, and a row cut short. -/
namespace Go.Proofs.YticjnndhpfdajaaGreat
open Go.RowKit Go.Deep
set_option linter.unusedVariables false
def setL : List Value → Nat → List Value → List Value
  | xs, _, [] => xs
  | xs, o, v :: r => setL (xs.set o v) (o + 1) r
theorem setL_eq : ∀ (vs xs : List Value) (o : Nat), o + vs.length ≤ xs.length → setL xs o vs = xs.take o ++ vs ++ xs.drop (o + vs.length)
  | [], xs, o, h => by simp [setL]
  | v :: r, xs, o, h => by
    simp only [List.length_cons] at h
    rw [setL, setL_eq r (xs.set o v) (o + 1) (by simp; omega)]
    have e1 : (xs.set o v).take (o + 1) = xs.take o ++ [v] := by
      rw [List.take_succ_eq_append_getElem (by simp; omega)]
      simp [List.take_set_of_le]
    have e2 : (xs.set o v).drop (o + 1 + r.length) = xs.drop (o + (r.length + 1)) := by
      rw [List.drop_set_of_lt (by omega)]
      congr 1; omega
    rw [e1, e2]
    simp
theorem own_setCells {B size n : Nat} {e : TypeId} {v : Value} {g : Nat} (hg : v.ownBlock = some g) : ∀ (vs : List Value) {w : World} {xs : List Value} (o : Nat), w.ownsRow B e size v n xs → (w.setCells g o vs).ownsRow B e size v n (setL xs o vs)
  | [], w, xs, o, h => h
  | u :: r, w, xs, o, h => own_setCells hg r (o + 1) (own_set h hg o u)
theorem kb_setCells (g : Nat) : ∀ (vs : List Value) (w : World) (o : Nat), Kb (fun k => k = g) w (w.setCells g o vs)
  | [], w, o => Kb.refl _ _
  | u :: r, w, o => (Kb.set w g o u).trans (kb_setCells g r _ (o + 1))
theorem own_cut {w : World} {B size n m cap : Nat} {e : TypeId} {A : Option Addr} {xs : List Value} (h : w.ownsRow B e size (.slice A n cap) n xs) (hm : m ≤ n) : w.ownsRow B e size (.slice A m cap) m (xs.take (m * size)) := by
  have hl : m * size ≤ n * size := Nat.mul_le_mul_right _ hm
  refine ⟨by rw [List.length_take, h.1]; omega, ?_⟩
  rcases h.2 with ⟨hv, hn⟩ | ⟨g, cap', cur, hv, hb, hgg, hnc, hcm, hcs, htk⟩
  · simp only [Value.slice.injEq] at hv
    exact .inl ⟨by rw [hv.1, hv.2.2]; congr 1; omega, by omega⟩
  · simp only [Value.slice.injEq, true_and] at hv
    refine .inr ⟨g, cap', cur, by rw [hv.1, hv.2], hb, hgg, by omega, hcm, hcs, ?_⟩
    rw [← htk, List.take_take]
    congr 1; omega
theorem flatMap_take {α : Type} {f : α → List Value} {size : Nat} (hf : ∀ x, (f x).length = size) (l : List α) (i : Nat) : (l.flatMap f).take (i * size) = (l.take i).flatMap f := by
  induction l generalizing i with
  | nil => simp
  | cons x l ih =>
    cases i with
    | zero => simp
    | succ i =>
      have e : (i + 1) * size = (f x).length + i * size := by rw [hf, Nat.succ_mul]; omega
      rw [List.flatMap_cons, e, List.take_length_add_append, ih]
      simp
end Go.Proofs.YticjnndhpfdajaaGreat
/- clear of many elements. -/
namespace Go.Proofs.YticjnndhpfdajaaGreat
open Go.RowKit
set_option linter.unusedVariables false
theorem zeroCells_len (z : Array Value) (n : Nat) : (Builtin.zeroCells z n).toList.length = n * z.size := by simp [Builtin.zeroCells]
theorem zeroCells_mem {z : Array Value} {n : Nat} {u : Value} (h : u ∈ (Builtin.zeroCells z n).toList) : u ∈ z.toList := by
  simp only [Builtin.zeroCells] at h
  obtain ⟨i, hi, rfl⟩ := List.getElem_of_mem h
  have hi2 : i < n * z.size := by simpa using hi
  have hz : 0 < z.size := by
    rcases Nat.eq_zero_or_pos z.size with h | h
    · rw [h] at hi2; simp at hi2
    · exact h
  simp [getElem!_pos z (i % z.size) (Nat.mod_lt _ hz)]
theorem run_clear_n {P : Program} (w : World) (t e ty : TypeId) (z : Value) (ht : P.underlying t = some (.slice e)) (hv : ∀ w, (zeroValue e).run P w = .ok z w) (h1 : ∀ u ∈ z.cells.toList, u.oneCell' = true) (b o c n : Nat) (hn : 0 < n)
    (hc : ∀ j, j < n * z.cells.size → (w.cell? ⟨b, o + j, none⟩).isSome = true) (hf : ∀ j, j < n * z.cells.size → w.frozen? ⟨b, o + j, none⟩ = false) :
    (Builtin.clear_ #[t] ty #[.slice (some ⟨b, o, none⟩) n c]).run P w = .ok (.tuple #[]) (w.setCells b o (Builtin.zeroCells z.cells n).toList) := by
  have hst := run_storeCells_cells (P := P) b o (Builtin.zeroCells z.cells n).toList 0 w (by rw [zeroCells_len]; simpa using hc) (by rw [zeroCells_len]; simpa using hf) (fun u hu => h1 u (zeroCells_mem hu))
  simp only [Nat.add_zero] at hst
  obtain ⟨m, rfl⟩ : ∃ m, n = m + 1 := ⟨n - 1, by omega⟩
  simp only [Builtin.clear_, List.getElem?_toArray, List.getElem?_cons_zero, Sem.run_bind, run_underlying ht, Result.andThen_ok, hv, hst, Sem.run_pure]
end Go.Proofs.YticjnndhpfdajaaGreat
