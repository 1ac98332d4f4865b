/- Contracts of the program, part 8. -/
import Derived.StillTailTactics
import Derived.Shelf.SlSortCmp.WholeK
import Derived.IntWalk
import Derived.ProofKit
import Derived.OpenShut
import Derived.Deep.Slices
import Derived.ChangeOld
import Derived.SizedLaws
import Derived.WalkKit
import Derived.WalkSpells
import Derived.WalkLawsBesides
import Derived.Lib.Hide
import Derived.Deep.QuietTactic
import Derived.BigQuiet
import Derived.Below
import Derived.Deep.Draws
import Derived.Laws.Cells
import Derived.Laws.IdiomCopy
import Derived.Test.YtlklmekapbojdaaGreatRows
import Derived.Lib.Bytealg
import Derived.Lib.SliceRun
import Derived.Deep.AppendLies
import Derived.Deep.Upon
import Derived.OneCell
import Derived.OwnWalk
import Derived.Laws.AppendOwn
import Derived.Laws.StructEq
import Derived.Deep.DeepMust
import Derived.Lib.Walk
import Derived.Laws.EntriesVeiled
import Derived.Maps.Own
import Derived.Maps.Views
import Derived.OrdersHeld
import Derived.Deep.RegionHeld3
import Derived.Deep.RegionLaw
import Derived.Lib.AppendZerosOnto
import Derived.Lib.Overlaps
import Derived.Test.YtlklmekapbojdaaGreatPartL1
import Derived.Test.YtlklmekapbojdaaGreatPartL2
import Derived.Test.YtlklmekapbojdaaGreatPartL3
import Derived.Test.YtlklmekapbojdaaGreatPartL4
import Derived.Test.YtlklmekapbojdaaGreatPartL5
import Derived.Test.YtlklmekapbojdaaGreatPartL6
import Derived.Test.YtlklmekapbojdaaGreatPartL7
namespace Go.Proofs.YtlklmekapbojdaaGreat
open Go.RowKit Go.Sort Go.Shelf
set_option maxRecDepth 100000
set_option linter.unusedVariables false
/-- draws and new blocks, nothing else -/
def Gro (w w' : World) : Prop := ∃ q os', w' = grow (w.drewN q) os'
theorem Gro.refl (w : World) : Gro w w := ⟨0, #[], by rw [grow_empty]; rfl⟩
theorem Gro.alloc {w w' : World} (h : Gro w w') (o : Obj) : Gro w (w'.alloc o) := by
  obtain ⟨q, os, rfl⟩ := h
  exact ⟨q, os ++ #[o], by rw [alloc_eq_grow, grow_grow]⟩
theorem Gro.drew {w w' : World} (h : Gro w w') : Gro w w'.drew := by
  obtain ⟨q, os, rfl⟩ := h
  exact ⟨q + 1, os, rfl⟩
theorem wp_region_tail_eq {P : Program} {id : Nat} {Q : Exit → Act → World → Prop} {a : Act} {w : World} {l : List Oper} (n : Nat) (hm : P.follows .mixedOrders = true) (hB : Region.lexTailB .any l.toArray n = true)
    (h : ∀ w1, w1 = w.drew → wpStill P l.toArray w1 (fun a' => wpList P l.toArray Q (l.drop n) a' w1) (l.take n) a) : (Code.region id l.toArray true).wp P Q a w :=
  wp_region_still_tail n hm hB (h _ rfl)
end Go.Proofs.YtlklmekapbojdaaGreat

namespace Go.Proofs.YtlklmekapbojdaaGreat
open Go.RowKit
def lvFiv (a : Addr) : Sem Value := loadVar 201 a
@[go_sem ↓] theorem lvFiv_eq (a : Addr) : loadVar 201 a = lvFiv a := rfl
@[go_sem] theorem run_lvFiv (w : World) (b o : Nat) (h0 : (w.cell? ⟨b, o, none⟩).isSome = true) (h1 : (w.cell? ⟨b, o + 1, none⟩).isSome = true) (h2 : (w.cell? ⟨b, o + 2, none⟩).isSome = true) (h3 : (w.cell? ⟨b, o + 3, none⟩).isSome = true) (h4 : (w.cell? ⟨b, o + 4, none⟩).isSome = true) : (lvFiv ⟨b, o, none⟩).run Tryz.prog w = .ok (.agg #[(w.cell? ⟨b, o, none⟩).getD undef, (w.cell? ⟨b, o + 1, none⟩).getD undef, (w.cell? ⟨b, o + 2, none⟩).getD undef, (w.cell? ⟨b, o + 3, none⟩).getD undef, (w.cell? ⟨b, o + 4, none⟩).getD undef]) w := run_lv (P := Tryz.prog) w 201 _ 5 b o Tryz.underlying201 rfl (by kernel_rfl) (forall_lt_succ _ _ (forall_lt_succ _ _ (forall_lt_succ _ _ (forall_lt_succ _ _ (forall_lt_succ _ _ (fun j hj => absurd hj (Nat.not_lt_zero j)) h0) h1) h2) h3) h4)
def svFiv (a : Addr) (v : Value) : Sem Unit := storeVar 201 a v
@[go_sem ↓] theorem svFiv_eq (a : Addr) (v : Value) : storeVar 201 a v = svFiv a v := rfl
@[go_sem] theorem run_svFiv (w : World) (b o : Nat) (v0 v1 v2 v3 v4 : Value) (h0 : (w.cell? ⟨b, o, none⟩).isSome = true) (h1 : (w.cell? ⟨b, o + 1, none⟩).isSome = true) (h2 : (w.cell? ⟨b, o + 2, none⟩).isSome = true) (h3 : (w.cell? ⟨b, o + 3, none⟩).isSome = true) (h4 : (w.cell? ⟨b, o + 4, none⟩).isSome = true) (f0 : w.frozen? ⟨b, o, none⟩ = false) (f1 : w.frozen? ⟨b, o + 1, none⟩ = false) (f2 : w.frozen? ⟨b, o + 2, none⟩ = false) (f3 : w.frozen? ⟨b, o + 3, none⟩ = false) (f4 : w.frozen? ⟨b, o + 4, none⟩ = false) (o0 : v0.oneCell' = true) (o1 : v1.oneCell' = true) (o2 : v2.oneCell' = true) (o3 : v3.oneCell' = true) (o4 : v4.oneCell' = true) : (svFiv ⟨b, o, none⟩ (.agg #[v0, v1, v2, v3, v4])).run Tryz.prog w = .ok () (((((w.setCell ⟨b, o, none⟩ v0).setCell ⟨b, o + 1, none⟩ v1).setCell ⟨b, o + 2, none⟩ v2).setCell ⟨b, o + 3, none⟩ v3).setCell ⟨b, o + 4, none⟩ v4) := run_sv (P := Tryz.prog) w 201 b o [v0, v1, v2, v3, v4] (by kernel_rfl) (forall_lt_succ _ _ (forall_lt_succ _ _ (forall_lt_succ _ _ (forall_lt_succ _ _ (forall_lt_succ _ _ (fun j hj => absurd hj (Nat.not_lt_zero j)) ⟨h0, f0, o0⟩) ⟨h1, f1, o1⟩) ⟨h2, f2, o2⟩) ⟨h3, f3, o3⟩) ⟨h4, f4, o4⟩)
end Go.Proofs.YtlklmekapbojdaaGreat

namespace Go.Proofs.YtlklmekapbojdaaGreat
open Go.RowKit
set_option maxRecDepth 100000
set_option linter.unusedVariables false
def five5 (s t : ByteArray) (r : Int) (g o : ByteArray) (s2 t2 : ByteArray) (r2 : Int) (g2 o2 : ByteArray) : Bool := eqS s s2 && (eqS t t2 && ((r == r2) && (eqS g g2 && eqS o o2)))
set_option maxHeartbeats 2000000 in
theorem run_eqFiv (w : World) (s t : ByteArray) (r : Int) (g o : ByteArray) (s2 t2 : ByteArray) (r2 : Int) (g2 o2 : ByteArray) :
    (Op.equalIn 10000 201 (.agg #[.string s, .string t, .int .i64 r, .string g, .string o]) (.agg #[.string s2, .string t2, .int .i64 r2, .string g2, .string o2])).run Tryz.prog w = .ok (five5 s t r g o s2 t2 r2 g2 o2) w := by
  cases h0 : eqS s s2
  · (have h0' := h0; unfold eqS at h0'; go_simp; simp_all [five5])
  have h0' := h0
  unfold eqS at h0'
  cases h1 : eqS t t2
  · (have h1' := h1; unfold eqS at h1'; go_simp; simp_all [five5])
  have h1' := h1
  unfold eqS at h1'
  cases h2 : (r == r2)
  · (go_simp; simp_all [five5])
  cases h3 : eqS g g2
  · (have h3' := h3; unfold eqS at h3'; go_simp; simp_all [five5])
  have h3' := h3
  unfold eqS at h3'
  cases h4 : eqS o o2
  · (have h4' := h4; unfold eqS at h4'; go_simp; simp_all [five5])
  · (have h4' := h4; unfold eqS at h4'; go_simp; simp_all [five5])
@[go_sem ↓] theorem run_eqlFiv (w : World) (s t : ByteArray) (r : Int) (g o : ByteArray) (s2 t2 : ByteArray) (r2 : Int) (g2 o2 : ByteArray) :
    (binOp .eql 201 (.agg #[.string s, .string t, .int .i64 r, .string g, .string o]) (.agg #[.string s2, .string t2, .int .i64 r2, .string g2, .string o2])).run Tryz.prog w = .ok (.bool (five5 s t r g o s2 t2 r2 g2 o2)) w := by
  rw [run_eql_struct, run_eqFiv]; rfl
theorem five5_is (a b : Gra) : five5 a.schema a.table a.right a.giver a.to b.schema b.table b.right b.giver b.to = fiveE a b := rfl
def gra6 (s t : ByteArray) (r : Int) (g o : ByteArray) (p : Bool) (s2 t2 : ByteArray) (r2 : Int) (g2 o2 : ByteArray) (p2 : Bool) : Bool := eqS s s2 && (eqS t t2 && ((r == r2) && (eqS g g2 && (eqS o o2 && (p == p2)))))
set_option maxHeartbeats 2000000 in
theorem run_eqGra (w : World) (s t : ByteArray) (r : Int) (g o : ByteArray) (p : Bool) (s2 t2 : ByteArray) (r2 : Int) (g2 o2 : ByteArray) (p2 : Bool) :
    (Op.equalIn 10000 76 (.agg #[.string s, .string t, .int .i64 r, .string g, .string o, .bool p]) (.agg #[.string s2, .string t2, .int .i64 r2, .string g2, .string o2, .bool p2])).run Tryz.prog w = .ok (gra6 s t r g o p s2 t2 r2 g2 o2 p2) w := by
  cases h0 : eqS s s2
  · (have h0' := h0; unfold eqS at h0'; go_simp; simp_all [gra6])
  have h0' := h0
  unfold eqS at h0'
  cases h1 : eqS t t2
  · (have h1' := h1; unfold eqS at h1'; go_simp; simp_all [gra6])
  have h1' := h1
  unfold eqS at h1'
  cases h2 : (r == r2)
  · (go_simp; simp_all [gra6])
  cases h3 : eqS g g2
  · (have h3' := h3; unfold eqS at h3'; go_simp; simp_all [gra6])
  have h3' := h3
  unfold eqS at h3'
  cases h4 : eqS o o2
  · (have h4' := h4; unfold eqS at h4'; go_simp; simp_all [gra6])
  have h4' := h4
  unfold eqS at h4'
  cases h5 : (p == p2)
  · (go_simp; simp_all [gra6])
  · (go_simp; simp_all [gra6])
@[go_sem ↓] theorem run_neqGra (w : World) (s t : ByteArray) (r : Int) (g o : ByteArray) (p : Bool) (s2 t2 : ByteArray) (r2 : Int) (g2 o2 : ByteArray) (p2 : Bool) :
    (binOp .neq 76 (.agg #[.string s, .string t, .int .i64 r, .string g, .string o, .bool p]) (.agg #[.string s2, .string t2, .int .i64 r2, .string g2, .string o2, .bool p2])).run Tryz.prog w = .ok (.bool (!gra6 s t r g o p s2 t2 r2 g2 o2 p2)) w := by
  rw [run_neq_struct, run_eqGra]; rfl
end Go.Proofs.YtlklmekapbojdaaGreat

namespace Go.Proofs.YtlklmekapbojdaaGreat
open Go.RowKit Go.Sort Go.Shelf
set_option maxRecDepth 100000
set_option linter.unusedVariables false
/-- the first that is not 0 -/
def orL : List Int → Int
  | [] => 0
  | x :: l => if x == 0 then orL l else x
theorem orL_skip : ∀ (l : List Int) (k : Nat) (hk : k < l.length), (∀ j (hj : j < k), (l[j]'(by omega)) = 0) → l[k] ≠ 0 → orL l = l[k]
  | x :: l, 0, _, _, h => by
    have h : x ≠ 0 := h
    unfold orL
    rw [if_neg (by simpa using h)]; rfl
  | x :: l, k + 1, hk, h0, h => by
    have e : x = 0 := h0 0 (by omega)
    subst e
    unfold orL
    rw [if_pos (by rfl)]
    exact orL_skip l k (by simpa using hk) (fun j hj => h0 (j + 1) (by omega)) h
theorem orL_zero : ∀ (l : List Int), (∀ j (hj : j < l.length), l[j] = 0) → orL l = 0
  | [], _ => rfl
  | x :: l, h => by
    have e : x = 0 := h 0 (by simp)
    subst e
    unfold orL
    rw [if_pos (by rfl)]
    exact orL_zero l fun j hj => h (j + 1) (by simpa using hj)
set_option maxHeartbeats 2000000 in
theorem orL_still (l : List Int) (hl : l.length ≤ 1000) (g : Nat) (w : World) (hg : g < w.heap.size) (hc : ∀ k (hk : k < l.length), w.cell? ⟨g, k, none⟩ = some (.int .i64 l[k])) :
    Calls Tryz.prog 138 #[.slice (some ⟨g, 0, none⟩) l.length l.length] w fun e w' => e = .returned (.int .i64 (orL l)) ∧ w' = w := by
  have HC := Lib.hid hc
  clear hc
  go_enter Tryz.func138, Tryz.ntmps138
  go_wp2_with fail
  go_loop [5, 8] (fun v i => ∃ k : Nat, k ≤ l.length ∧ i = .int .i64 k ∧ ∀ j (hj : j < k) (hj2 : j < l.length), l[j] = 0) (fun v i => l.length - (intOf i).toNat)
  case atStart => exact ⟨0, by omega, rfl, fun j hj => absurd hj (Nat.not_lt_zero j)⟩
  case round =>
    obtain ⟨k, hk, rfl, hz⟩ := hrel
    have HZ := Lib.hid hz
    clear hz
    by_cases hlt : k < l.length
    · have c0 := HC.out k hlt
      obtain ⟨x, hx⟩ : ∃ x, l[k] = x := ⟨_, rfl⟩
      rw [hx] at c0
      have HX := Lib.hid hx
      clear hx
      by_cases h0 : x = 0
      · subst h0
        go_wp2_with fail
        go_round
        case rel => exact ⟨k + 1, by omega, by go_num, fun j hj hj2 => by
          rcases Nat.lt_or_ge j k with h1 | h1
          · exact HZ.out j h1 hj2
          · have : j = k := by omega
            subst this
            exact HX.out⟩
        case measure => simp [intOf]; omega
      · have hb : (x != 0) = true := by simpa using h0
        have HN := Lib.hid h0
        clear h0
        go_wp2_with fail
        go_ret
        exact ⟨by rw [orL_skip l k hlt (fun j hj => HZ.out j hj (by omega)) (by rw [HX.out]; exact HN.out), HX.out]; rfl, rfl⟩
    · go_wp2_with fail
      go_ret
      exact ⟨by rw [orL_zero l fun j hj => HZ.out j (by omega) hj]; rfl, rfl⟩
theorem nan_right (x : Int) (w : World) : Calls Tryz.prog 188 #[.int .i64 x] w fun e w' => e = .returned (.bool false) ∧ w' = w := by
  go_enter Tryz.func188, Tryz.ntmps188
  go_wp2_with fail
  go_ret
  exact ⟨by simp, rfl⟩
set_option maxHeartbeats 2000000 in
theorem cmp_right (x y : Int) (w : World) : Calls Tryz.prog 139 #[.int .i64 x, .int .i64 y] w fun e w' => e = .returned (.int .i64 (cmpI x y)) ∧ w' = w := by
  have HE := Lib.hid (show cmpI x y = if x < y then -1 else if y < x then 1 else 0 from rfl)
  obtain ⟨r, hr⟩ : ∃ r, cmpI x y = r := ⟨_, rfl⟩
  rw [hr] at HE ⊢
  clear hr
  go_enter Tryz.func139, Tryz.ntmps139
  by_cases h1 : x < y
  · have HE2 := Lib.hid (show r = -1 by rw [HE.out, if_pos h1])
    go_wp2_with (go_at_call 188; refine (nan_right _ _).mono ?_; rintro e w' ⟨rfl, rfl⟩)
    go_ret
    exact ⟨by rw [HE2.out]; rfl, rfl⟩
  · by_cases h2 : y < x
    · have HE2 := Lib.hid (show r = 1 by rw [HE.out, if_neg h1, if_pos h2])
      go_wp2_with (go_at_call 188; refine (nan_right _ _).mono ?_; rintro e w' ⟨rfl, rfl⟩)
      go_ret
      exact ⟨by rw [HE2.out]; rfl, rfl⟩
    · have HE2 := Lib.hid (show r = 0 by rw [HE.out, if_neg h1, if_neg h2])
      go_wp2_with (go_at_call 188; refine (nan_right _ _).mono ?_; rintro e w' ⟨rfl, rfl⟩)
      go_ret
      exact ⟨by rw [HE2.out]; rfl, rfl⟩
theorem orL_five (a b c d e : Int) : orL [a, b, c, d, e] = or2 a (or2 b (or2 c (or2 d e))) := by
  unfold orL orL orL orL orL orL or2
  by_cases h : e = 0
  · subst h; simp
  · have : (e == 0) = false := by simpa using h
    simp [this]
set_option maxHeartbeats 4000000 in
theorem orderG_gro (a b : Gra) (w : World) :
    Calls Tryz.prog 82 #[.agg #[.string a.schema, .string a.table, .int .i64 a.right, .string a.giver, .string a.to, .bool a.opt], .agg #[.string b.schema, .string b.table, .int .i64 b.right, .string b.giver, .string b.to, .bool b.opt]] w fun e w' => e = .returned (.int .i64 (cmpG a b)) ∧ Gro w w' := by
  have HE := Lib.hid (show orL [cmpS a.schema b.schema, cmpS a.table b.table, cmpI a.right b.right, cmpS a.giver b.giver, cmpS a.to b.to] = cmpG a b from orL_five _ _ _ _ _)
  have CC := Lib.hid (cmp_right a.right b.right)
  obtain ⟨r, hr⟩ : ∃ r, cmpI a.right b.right = r := ⟨_, rfl⟩
  rw [hr] at HE CC
  clear hr
  go_enter Tryz.func82, Tryz.ntmps82
  go_wp2_with fail
  have HG := Lib.hid (((Gro.refl w).alloc (.cells #[.string a.schema, .string a.table, .int .i64 a.right, .string a.giver, .string a.to, .bool a.opt] 76)).alloc (.cells #[.string b.schema, .string b.table, .int .i64 b.right, .string b.giver, .string b.to, .bool b.opt] 76)).drew
  refine wp_region_tail_eq 25 (by kernel_rfl) (by kernel_rfl) ?_
  intro w1 hw1
  have a1 : Aft ((w.alloc (.cells #[.string a.schema, .string a.table, .int .i64 a.right, .string a.giver, .string a.to, .bool a.opt] 76)).alloc (.cells #[.string b.schema, .string b.table, .int .i64 b.right, .string b.giver, .string b.to, .bool b.opt] 76)) w1 := by rw [hw1]; exact (Aft.refl _).drew
  rw [← hw1] at HG
  clear hw1
  obtain ⟨hb1, hb2, hz, HA⟩ := aft_box2 a1
  clear a1 HA
  simp only [List.take_succ_cons, List.take_zero, List.drop_succ_cons, List.drop_zero]
  repeat still_step
  still_call (compare_still _ _ _)
  repeat still_step
  still_call (compare_still _ _ _)
  repeat still_step
  still_call (CC.out _)
  repeat still_step
  still_call (compare_still _ _ _)
  repeat still_step
  still_call (compare_still _ _ _)
  refine wpStill_nil ?_
  go_wp2_with fail
  refine (orL_still [cmpS a.schema b.schema, cmpS a.table b.table, r, cmpS a.giver b.giver, cmpS a.to b.to] (by simp) w1.heap.size _ (by simp) (fun k hk => ?_)).mono ?_
  · match k, hk with
    | 0, _ => simp
    | 1, _ => simp
    | 2, _ => simp
    | 3, _ => simp
    | 4, _ => simp
  rintro e w2 ⟨rfl, rfl⟩
  have HG2 := Lib.hid (HG.out.alloc (.cells #[.int .i64 (cmpS a.schema b.schema), .int .i64 (cmpS a.table b.table), .int .i64 r, .int .i64 (cmpS a.giver b.giver), .int .i64 (cmpS a.to b.to)] 3))
  go_wp2_with fail
  go_ret
  exact ⟨by rw [HE.out]; rfl, HG2.out⟩
theorem Gro.aft {w w' : World} (h : Gro w w') : Aft w w' := by
  obtain ⟨q, os, rfl⟩ := h
  exact ((Aft.refl w).drewN q).trans (aft_grow _ os)
theorem orderG (a b : Gra) (w : World) :
    Calls Tryz.prog 82 #[.agg #[.string a.schema, .string a.table, .int .i64 a.right, .string a.giver, .string a.to, .bool a.opt], .agg #[.string b.schema, .string b.table, .int .i64 b.right, .string b.giver, .string b.to, .bool b.opt]] w fun e w' => e = .returned (.int .i64 (cmpG a b)) ∧ Aft w w' := (orderG_gro a b w).mono fun e w' ⟨h, g⟩ => ⟨h, g.aft⟩
theorem kindG (x : Int) (w : World) : Calls Tryz.prog 79 #[.int .i64 x] w fun e w' => e = .returned (.bool (kindB x)) ∧ w = w' := by
  have HK := Lib.hid (show kindB x = (x == 1 || x == 2) from rfl)
  go_enter Tryz.func79, Tryz.ntmps79
  cases h1 : (x == 1) <;> cases h2 : (x == 2)
  all_goals
    rw [h1, h2] at HK
    go_wp2_with fail
    go_ret
    exact ⟨by rw [HK.out]; rfl, rfl⟩
theorem lvFiv_row {W : World} {b : Nat} {a c d e f : Value} (h : RowAt W b [a, c, d, e, f]) : (loadVar 201 ⟨b, 0, none⟩).run Tryz.prog W = .ok (.agg #[a, c, d, e, f]) W := by
  have e0 := h.cell (j := 0) rfl
  have e1 := h.cell (j := 1) rfl
  have e2 := h.cell (j := 2) rfl
  have e3 := h.cell (j := 3) rfl
  have e4 := h.cell (j := 4) rfl
  have h1 := run_lvFiv W b 0 (by rw [e0]; rfl) (by rw [e1]; rfl) (by rw [e2]; rfl) (by rw [e3]; rfl) (by rw [e4]; rfl)
  rw [e0, e1, e2, e3, e4] at h1
  exact h1
set_option maxHeartbeats 1000000 in
theorem ofG (g : Gra) (w : World) : Calls Tryz.prog 159 #[.agg #[.string g.schema, .string g.table, .int .i64 g.right, .string g.giver, .string g.to, .bool g.opt]] w fun e w' => e = .returned (.agg #[.string g.schema, .string g.table, .int .i64 g.right, .string g.giver, .string g.to]) ∧ Aft w w' := by
  go_enter Tryz.func159, Tryz.ntmps159
  go_wp2_with fail
  refine bodyPost_ret (results_cell (v := .agg #[.string g.schema, .string g.table, .int .i64 g.right, .string g.giver, .string g.to]) rfl _ rfl ?hl) rfl ?_
  case hl =>
    have := lvFiv_row (box_row2 (w := w.alloc (.cells #[.string g.schema, .string g.table, .int .i64 g.right, .string g.giver, .string g.to, .bool g.opt] 76)) (c := [.string g.schema, .string g.table, .int .i64 g.right, .string g.giver, .string g.to]) (t := 201) (Aft.refl _))
    simpa using this
  exact ⟨rfl, ((Aft.refl _).alloc _).alloc _⟩
end Go.Proofs.YtlklmekapbojdaaGreat

namespace Go.Proofs.YtlklmekapbojdaaGreat
open Go.RowKit Go.Deep
set_option maxRecDepth 100000
set_option linter.unusedVariables false
theorem RowAt.up {w : World} {b : Nat} {xs : List Value} {o : Obj} (h : RowAt w b xs) : RowAt (w.alloc o) b xs := h.aft ((Aft.refl _).alloc o)
theorem box_at {w W : World} {c : List Value} {t : TypeId} {b : Nat} (h : Aft (w.alloc (.cells c.toArray t)) W) (hb : b = w.heap.size) : RowAt W b c := hb ▸ box_row2 h
theorem rowF5 {w : World} {p : Nat} {a b c d e : Value} (h : RowAt w p [a, b, c, d, e]) : w.cell? ⟨p, 0, none⟩ = some a ∧ w.cell? ⟨p, 1, none⟩ = some b ∧ w.cell? ⟨p, 2, none⟩ = some c ∧ w.cell? ⟨p, 3, none⟩ = some d ∧ w.cell? ⟨p, 4, none⟩ = some e ∧ p < w.heap.size := ⟨h.cell (j := 0) rfl, h.cell (j := 1) rfl, h.cell (j := 2) rfl, h.cell (j := 3) rfl, h.cell (j := 4) rfl, h.1⟩
theorem rowF6 {w : World} {p : Nat} {a b c d e f : Value} (h : RowAt w p [a, b, c, d, e, f]) : w.cell? ⟨p, 0, none⟩ = some a ∧ w.cell? ⟨p, 1, none⟩ = some b ∧ w.cell? ⟨p, 2, none⟩ = some c ∧ w.cell? ⟨p, 3, none⟩ = some d ∧ w.cell? ⟨p, 4, none⟩ = some e ∧ w.cell? ⟨p, 5, none⟩ = some f ∧ p < w.heap.size := ⟨h.cell (j := 0) rfl, h.cell (j := 1) rfl, h.cell (j := 2) rfl, h.cell (j := 3) rfl, h.cell (j := 4) rfl, h.cell (j := 5) rfl, h.1⟩
theorem rowF7 {w : World} {p : Nat} {a b c d e f g : Value} (h : RowAt w p [a, b, c, d, e, f, g]) : w.cell? ⟨p, 0, none⟩ = some a ∧ w.cell? ⟨p, 1, none⟩ = some b ∧ w.cell? ⟨p, 2, none⟩ = some c ∧ w.cell? ⟨p, 3, none⟩ = some d ∧ w.cell? ⟨p, 4, none⟩ = some e ∧ w.cell? ⟨p, 5, none⟩ = some f ∧ w.cell? ⟨p, 6, none⟩ = some g ∧ p < w.heap.size := ⟨h.cell (j := 0) rfl, h.cell (j := 1) rfl, h.cell (j := 2) rfl, h.cell (j := 3) rfl, h.cell (j := 4) rfl, h.cell (j := 5) rfl, h.cell (j := 6) rfl, h.1⟩
structure CatAt (w : World) (c : Cat) (As : Option Addr) (caps : Nat) (At : Option Addr) (capt : Nat) (An : Option Addr) (capn : Nat) (Am : Option Addr) (capm : Nat) (Ag : Option Addr) (capg : Nat) : Prop where
  sch : SlAt w 2 SchR As caps c.objs.schemas
  tab : SlAt w 5 TabR At capt c.objs.tables
  nam : SlAt w 1 StrR An capn c.rols.names
  mem : SlAt w 2 MbrR Am capm c.rols.members
  gra : SlAt w 6 GraR Ag capg c.grants
theorem CatAt.aft {w w' : World} {c : Cat} {As : Option Addr} {caps : Nat} {At : Option Addr} {capt : Nat} {An : Option Addr} {capn : Nat} {Am : Option Addr} {capm : Nat} {Ag : Option Addr} {capg : Nat} (h : CatAt w c As caps At capt An capn Am capm Ag capg) (a : Aft w w') : CatAt w' c As caps At capt An capn Am capm Ag capg :=
  ⟨schs_aft a h.sch, tabs_aft a h.tab, strs_aft a h.nam, mbrs_aft a h.mem, gras_aft a h.gra⟩
theorem tabF_none {o : Objs} {s n : ByteArray} (h : tabAt o.tables s n < 0) : tabF o s n = zeroT := by unfold tabF; rw [if_pos h]
theorem tabF_some {o : Objs} {s n : ByteArray} {q : Nat} (hi : tabAt o.tables s n = q) (hq : q < o.tables.length) : tabF o s n = o.tables[q] := by
  unfold tabF
  rw [if_neg (by omega), hi]
  simp [List.getElem?_eq_getElem hq]
def TabP (w : World) (o : Objs) (s n : ByteArray) (e : Ending) (w' : World) : Prop :=
  ∃ (A2 : Option Addr) (c2 : Nat) (A3 : Option Addr) (c3 : Nat), e = .returned (.tuple #[.agg #[.string (tabF o s n).schema, .string (tabF o s n).name, .string (tabF o s n).owner, .slice A2 (tabF o s n).cols.length c2, .slice A3 (tabF o s n).rules.length c3], .bool (decide (0 ≤ tabAt o.tables s n))]) ∧ Aft w w'
set_option maxHeartbeats 1000000 in
theorem table1 (schema name owner : ByteArray) (A0 : Option Addr) (n0 c0 : Nat) (A1 : Option Addr) (n1 c1 : Nat) (s n : ByteArray) (b1 b2 : Nat) (w : World) (hb1 : b1 < w.heap.size) (hb2 : b2 < w.heap.size) (hc1 : w.cell? ⟨b1, 0, none⟩ = some (.string s)) (hc2 : w.cell? ⟨b2, 0, none⟩ = some (.string n)) :
    Calls Tryz.prog 137 #[.agg #[.string schema, .string name, .string owner, .slice A0 n0 c0, .slice A1 n1 c1], .pointer (some ⟨b1, 0, none⟩), .pointer (some ⟨b2, 0, none⟩)] w fun e w' => e = .returned (.bool (eqS schema s && eqS name n)) ∧ Aft w w' := by
  cases h1 : eqS schema s
  · have h1' : (schema.toList == s.toList) = false := h1
    clear h1
    go_enter Tryz.func137, Tryz.ntmps137
    go_wp2_with fail
    go_ret
    exact ⟨rfl, (Aft.refl _).alloc _⟩
  · have h1' : (schema.toList == s.toList) = true := h1
    clear h1
    go_enter Tryz.func137, Tryz.ntmps137
    go_wp2_with fail
    go_ret
    exact ⟨rfl, (Aft.refl _).alloc _⟩
set_option maxHeartbeats 4000000 in
theorem tableG (c : Cat) (As : Option Addr) (caps : Nat) (At : Option Addr) (capt : Nat) (An : Option Addr) (capn : Nat) (Am : Option Addr) (capm : Nat) (Ag : Option Addr) (capg : Nat) (s n : ByteArray) (w : World) (htab : SlAt w 5 TabR At capt c.objs.tables) :
    Calls Tryz.prog 80 #[.agg #[.int .i64 c.epoch, .int .i64 c.version, .slice As c.objs.schemas.length caps, .slice At c.objs.tables.length capt, .slice An c.rols.names.length capn, .slice Am c.rols.members.length capm, .slice Ag c.grants.length capg], .string s, .string n] w (TabP w c.objs s n) := by
  have hlen2 := htab.len
  have hent := enters (P := Tryz.prog) Tryz.func137 (by kernel_rfl) rfl
  obtain ⟨W, hW⟩ : ∃ W, W = (((w.alloc (.cells #[.int .i64 c.epoch, .int .i64 c.version, .slice As c.objs.schemas.length caps, .slice At c.objs.tables.length capt, .slice An c.rols.names.length capn, .slice Am c.rols.members.length capm, .slice Ag c.grants.length capg] 66)).alloc (.cells #[.string s] 9)).alloc (.cells #[.string n] 9)).alloc (.cells #[.string ⟨#[]⟩, .string ⟨#[]⟩, .string ⟨#[]⟩, .slice none 0 0, .slice none 0 0] 89) := ⟨_, rfl⟩
  have aW : Aft w W := by rw [hW]; exact ((((Aft.refl w).alloc _).alloc _).alloc _).alloc _
  have r0 : RowAt W (w.heap.size) [.int .i64 c.epoch, .int .i64 c.version, .slice As c.objs.schemas.length caps, .slice At c.objs.tables.length capt, .slice An c.rols.names.length capn, .slice Am c.rols.members.length capm, .slice Ag c.grants.length capg] := by rw [hW]; exact RowAt.up (RowAt.up (RowAt.up (box_at (Aft.refl _) (by simp))))
  have r1 : RowAt W (w.heap.size + 1) [.string s] := by rw [hW]; exact RowAt.up (RowAt.up (box_at (Aft.refl _) (by simp)))
  have r2 : RowAt W (w.heap.size + 1 + 1) [.string n] := by rw [hW]; exact RowAt.up (box_at (Aft.refl _) (by simp))
  have r3 : RowAt W (w.heap.size + 1 + 1 + 1) [.string ⟨#[]⟩, .string ⟨#[]⟩, .string ⟨#[]⟩, .slice none 0 0, .slice none 0 0] := by rw [hW]; exact box_at (Aft.refl _) (by simp)
  obtain ⟨i, hi⟩ : ∃ i, tabAt c.objs.tables s n = i := ⟨_, rfl⟩
  have hir : -1 ≤ i ∧ i < c.objs.tables.length := by rw [← hi]; exact idxP_range _ _
  have CI := Lib.hid (show ∀ w', Aft W w' → Calls Tryz.prog 136 #[.slice At c.objs.tables.length capt, .func (.func 137) #[] #[.pointer (some ⟨w.heap.size + 1, 0, none⟩), .pointer (some ⟨w.heap.size + 1 + 1, 0, none⟩)]] w' fun e w'' => e = .returned (.int .i64 i) ∧ Aft w' w'' from
    fun w' a => (idxTab At capt c.objs.tables 137 #[.pointer (some ⟨w.heap.size + 1, 0, none⟩), .pointer (some ⟨w.heap.size + 1 + 1, 0, none⟩)] (fun t => eqS t.schema s && eqS t.name n) w' (tabs_aft (aW.trans a) htab) hent (fun w'' b j hj e1 he => by
      obtain ⟨A2, cap2, A3, cap3, rfl, _⟩ := he
      have p1 := r1.aft (a.trans b)
      have p2 := r2.aft (a.trans b)
      exact table1 _ _ _ A2 _ cap2 A3 _ cap3 s n _ _ w'' p1.1 p2.1 (p1.cell (j := 0) rfl) (p2.cell (j := 0) rfl))).mono fun e w'' ⟨he, hw⟩ => ⟨he.trans (by rw [← hi]; rfl), hw⟩)
  have HI := Lib.hid hi
  have HT := Lib.hid htab
  have HAW := Lib.hid aW
  have HR0 := Lib.hid r0
  have HR3 := Lib.hid r3
  clear hi htab r0 r1 r2 r3 aW
  go_enter Tryz.func80, Tryz.ntmps80
  go_wp2_with fail
  rw [← hW]
  clear hW
  refine (CI.out W (Aft.refl W)).mono ?_
  rintro e w1 ⟨rfl, a1⟩
  have b3 := HR3.out.aft a1
  have d0 := b3.cell (j := 0) rfl
  have d1 := b3.cell (j := 1) rfl
  have d2 := b3.cell (j := 2) rfl
  have d3 := b3.cell (j := 3) rfl
  have d4 := b3.cell (j := 4) rfl
  have f0 := b3.2.2 0 (by simp)
  have f1 := b3.2.2 1 (by simp)
  have f2 := b3.2.2 2 (by simp)
  have f3 := b3.2.2 3 (by simp)
  have f4 := b3.2.2 4 (by simp)
  have z3 := b3.1
  have b0 := HR0.out.aft a1
  have c3 := b0.cell (j := 3) rfl
  have z0 := b0.1
  have HA1 := Lib.hid (HAW.out.trans a1)
  have HB3 := Lib.hid b3
  clear a1 b3 b0 CI
  by_cases h0 : 0 ≤ i
  · obtain ⟨q, rfl⟩ := Int.eq_ofNat_of_zero_le h0
    have hq : q < c.objs.tables.length := by omega
    obtain ⟨b, off, A2, cap2, A3, cap3, rfl, hb, t0, t1, t2, t3, t4, hcols, hruls, hss⟩ := tab_at (tabs_aft HA1.out HT.out) hq
    have HE := Lib.hid (tabF_some HI.out hq)
    obtain ⟨p, hp⟩ : ∃ p, c.objs.tables[q] = p := ⟨_, rfl⟩
    rw [hp] at t0 t1 t2 t3 t4 HE
    clear hp hcols hruls hss h0 hir
    go_wp2_with fail
    refine bodyPost_ret (results_cell_tmp (v := .agg #[.string p.schema, .string p.name, .string p.owner, .slice A2 p.cols.length cap2, .slice A3 p.rules.length cap3]) rfl _ rfl ?hl) rfl ?_
    case hl => exact lvTab_row (setT_row HB3.out rfl _ _ _ _ _)
    exact ⟨A2, cap2, A3, cap3, by rw [HE.out, HI.out]; simp, (setT_kb _ _ _ _ _ _ _).to_aft HA1.out (fun g hg e => by omega)⟩
  · have HE := Lib.hid (tabF_none (o := c.objs) (s := s) (n := n) (by rw [HI.out]; omega))
    have HD := Lib.hid (show decide (0 ≤ i) = false from decide_eq_false h0)
    have h0' : i < 0 := by omega
    clear h0 hir
    go_wp2_with fail
    refine bodyPost_ret (results_cell_tmp (v := .agg #[.string ⟨#[]⟩, .string ⟨#[]⟩, .string ⟨#[]⟩, .slice none 0 0, .slice none 0 0]) rfl _ rfl ?hl) rfl ?_
    case hl => exact lvTab_row (setT_row HB3.out rfl _ _ _ _ _)
    exact ⟨none, 0, none, 0, by rw [HE.out, HI.out, HD.out]; rfl, (setT_kb _ _ _ _ _ _ _).to_aft HA1.out (fun g hg e => by omega)⟩
set_option maxHeartbeats 1000000 in
theorem owners1 (An : Option Addr) (capn : Nat) (names : List ByteArray) (v0 v1 : Value) (owner : ByteArray) (v3 v4 : Value) (b0 : Nat) (w : World) (hb0 : b0 < w.heap.size) (hc0 : w.cell? ⟨b0, 4, none⟩ = some (.slice An names.length capn)) (hn : SlAt w 1 StrR An capn names) (s0 s1 : ByteArray) (A2 : Option Addr) (n2 c2 : Nat) (A3 : Option Addr) (n3 c3 : Nat) (e0 : v0 = .string s0) (e1 : v1 = .string s1) (e3 : v3 = .slice A2 n2 c2) (e4 : v4 = .slice A3 n3 c3) :
    Calls Tryz.prog 218 #[.agg #[v0, v1, .string owner, v3, v4], .pointer (some ⟨b0, 0, none⟩)] w fun e w' => e = .returned (.bool (!inB names owner)) ∧ Aft w w' := by
  subst e0 e1 e3 e4
  obtain ⟨i, hi⟩ : ∃ i, inB names owner = i := ⟨_, rfl⟩
  have C := Lib.hid (show ∀ w', Aft w w' → Calls Tryz.prog 84 #[.slice An names.length capn, .string owner] w' fun e w'' => e = .returned (.bool i) ∧ w' = w'' from fun w' a => hi ▸ scont8 An capn names owner w' (strs_aft a hn))
  rw [hi]
  clear hi hn
  go_enter Tryz.func218, Tryz.ntmps218
  go_wp2_with fail
  refine (C.out _ ((Aft.refl w).alloc _)).mono ?_
  rintro e w1 ⟨rfl, rfl⟩
  go_wp2_with fail
  go_ret
  exact ⟨rfl, (Aft.refl _).alloc _⟩
set_option maxHeartbeats 4000000 in
theorem ownersG (c : Cat) (As : Option Addr) (caps : Nat) (At : Option Addr) (capt : Nat) (An : Option Addr) (capn : Nat) (Am : Option Addr) (capm : Nat) (Ag : Option Addr) (capg : Nat) (w : World) (H : CatAt w c As caps At capt An capn Am capm Ag capg) :
    Calls Tryz.prog 187 #[.agg #[.int .i64 c.epoch, .int .i64 c.version, .slice As c.objs.schemas.length caps, .slice At c.objs.tables.length capt, .slice An c.rols.names.length capn, .slice Am c.rols.members.length capm, .slice Ag c.grants.length capg]] w fun e w' => e = .returned (.bool (ownersB c)) ∧ Aft w w' := by
  have hlen := H.sch.len
  have hent := enters (P := Tryz.prog) Tryz.func218 (by kernel_rfl) rfl
  obtain ⟨W, hW⟩ : ∃ W, W = w.alloc (.cells #[.int .i64 c.epoch, .int .i64 c.version, .slice As c.objs.schemas.length caps, .slice At c.objs.tables.length capt, .slice An c.rols.names.length capn, .slice Am c.rols.members.length capm, .slice Ag c.grants.length capg] 66) := ⟨_, rfl⟩
  have aW : Aft w W := by rw [hW]; exact (Aft.refl w).alloc _
  have r0 : RowAt W (w.heap.size) [.int .i64 c.epoch, .int .i64 c.version, .slice As c.objs.schemas.length caps, .slice At c.objs.tables.length capt, .slice An c.rols.names.length capn, .slice Am c.rols.members.length capm, .slice Ag c.grants.length capg] := by rw [hW]; exact box_at (Aft.refl _) (by simp)
  have HN := Lib.hid (show ∀ w', Aft W w' → ∀ s, Calls Tryz.prog 84 #[.slice An c.rols.names.length capn, .string s] w' fun e w'' => e = .returned (.bool (inB c.rols.names s)) ∧ w' = w'' from fun w' a s => scont8 An capn c.rols.names s w' (strs_aft (aW.trans a) H.nam))
  obtain ⟨q, hq⟩ : ∃ q, c.objs.tables.any (fun t => !inB c.rols.names t.owner) = q := ⟨_, rfl⟩
  have CT := Lib.hid (show ∀ w', Aft W w' → Calls Tryz.prog 217 #[.slice At c.objs.tables.length capt, .func (.func 218) #[] #[.pointer (some ⟨w.heap.size, 0, none⟩)]] w' fun e w'' => e = .returned (.bool q) ∧ Aft w' w'' from
    fun w' a => (contTab At capt c.objs.tables 218 #[.pointer (some ⟨w.heap.size, 0, none⟩)] (fun t => !inB c.rols.names t.owner) w' (tabs_aft (aW.trans a) H.tab) hent (fun w'' b j hj e1 he => by
      obtain ⟨A2, cap2, A3, cap3, rfl, _⟩ := he
      have p0 := r0.aft (a.trans b)
      exact owners1 An capn c.rols.names _ _ _ _ _ _ w'' p0.1 (p0.cell (j := 4) rfl) (strs_aft ((aW.trans a).trans b) H.nam) _ _ _ _ _ _ _ _ rfl rfl rfl rfl)).mono fun e w'' ⟨he, hw⟩ => ⟨he.trans (by rw [hq]), hw⟩)
  have HO := Lib.hid (show ownersB c = (c.objs.schemas.all (fun s => inB c.rols.names s.owner) && !q) from by
    unfold ownersB
    rw [← hq, List.all_eq_not_any_not (l := c.objs.tables)])
  have HS := Lib.hid H.sch
  have HAW := Lib.hid aW
  have HR0 := Lib.hid r0
  clear H hq r0 aW
  go_enter Tryz.func187, Tryz.ntmps187
  go_wp2_with fail
  rw [← hW]
  go_loopw [9] (fun i wr => ∃ k : Nat, k ≤ c.objs.schemas.length ∧ i = .int .i64 k ∧ Aft W wr ∧ ∀ j, j < k → ∀ (hj : j < c.objs.schemas.length), inB c.rols.names c.objs.schemas[j].owner = true) (fun i _ => c.objs.schemas.length - (intOf i).toNat)
  case atStart => exact ⟨0, Nat.zero_le _, rfl, Aft.refl _, fun j hj => absurd hj (Nat.not_lt_zero j)⟩
  case round =>
    clear hW
    obtain ⟨k, hk, rfl, ha, hp⟩ := hrel
    have HA := Lib.hid ha
    have HP := Lib.hid hp
    have p0 := HR0.out.aft ha
    have c3 := p0.cell (j := 3) rfl
    have c4 := p0.cell (j := 4) rfl
    have z0 := p0.1
    clear ha hp p0
    by_cases hlt : k < c.objs.schemas.length
    · obtain ⟨b, off, rfl, hb, t0, t1, s0, s1⟩ := sch_at (schs_aft (HAW.out.trans HA.out) HS.out) hlt
      obtain ⟨p, hpp⟩ : ∃ p, c.objs.schemas[k] = p := ⟨_, rfl⟩
      rw [hpp] at t0 t1 s0 s1
      have aX : Aft wr (wr.alloc (.cells #[.string p.name, .string p.owner] 101)) := (Aft.refl _).alloc _
      have C := Lib.hid (HN.out _ (HA.out.trans aX) p.owner)
      have HAX := Lib.hid (HA.out.trans aX)
      obtain ⟨i, hi⟩ : ∃ i, inB c.rols.names p.owner = i := ⟨_, rfl⟩
      rw [hi] at C
      have HI := Lib.hid (show inB c.rols.names c.objs.schemas[k].owner = i by rw [hpp]; exact hi)
      clear hi hpp aX
      cases i
      · have HF := Lib.hid (show ownersB c = false by rw [HO.out, all_false _ _ k hlt HI.out]; rfl)
        go_wp2_with fail
        refine C.out.mono ?_
        rintro e w1 ⟨rfl, rfl⟩
        go_wp2_with fail
        go_ret
        exact ⟨by rw [HF.out]; rfl, HAW.out.trans HAX.out⟩
      · go_wp2_with fail
        refine C.out.mono ?_
        rintro e w1 ⟨rfl, rfl⟩
        go_wp2_with fail
        go_roundw
        case rel => exact ⟨k + 1, by omega, by go_num, HAX.out, ext_lt (p := fun j => ∀ (hj : j < c.objs.schemas.length), inB c.rols.names c.objs.schemas[j].owner = true) HP.out (fun _ => HI.out)⟩
        case measure => simp [intOf]; omega
    · have HF := Lib.hid (show ownersB c = !q by rw [HO.out, all_true _ _ fun j hj => HP.out j (by omega) hj]; rfl)
      have C := Lib.hid (CT.out wr HA.out)
      go_wp2_with fail
      refine C.out.mono ?_
      rintro e w1 ⟨rfl, a1⟩
      have HA1 := Lib.hid (HAW.out.trans (HA.out.trans a1))
      clear a1
      go_wp2_with fail
      go_ret
      exact ⟨by rw [HF.out]; rfl, HA1.out⟩
end Go.Proofs.YtlklmekapbojdaaGreat

namespace Go.Proofs.YtlklmekapbojdaaGreat
open Go.RowKit Go.Deep
set_option maxRecDepth 100000
set_option linter.unusedVariables false
theorem boss1 (name owner s : ByteArray) (b1 : Nat) (w : World) (hb1 : b1 < w.heap.size) (hc1 : w.cell? ⟨b1, 0, none⟩ = some (.string s)) :
    Calls Tryz.prog 147 #[.agg #[.string name, .string owner], .pointer (some ⟨b1, 0, none⟩)] w fun e w' => e = .returned (.bool (eqS name s)) ∧ Aft w w' := by
  go_enter Tryz.func147, Tryz.ntmps147
  go_wp2_with fail
  go_ret
  exact ⟨rfl, (Aft.refl _).alloc _⟩
theorem root_list : bRoot.toList = [114, 111, 111, 116] := by first | rfl | kernel_rfl | decide
theorem root_eq (r : ByteArray) : eqS r bRoot = (r.toList == [114, 111, 111, 116]) := by unfold eqS; rw [root_list]
set_option maxHeartbeats 2000000 in
theorem boss2 (r to over : ByteArray) (b0 b1 b2 : Nat) (As : Option Addr) (n caps : Nat) (q : Nat) (w : World) (h0 : b0 < w.heap.size) (h1 : b1 < w.heap.size) (h2 : b2 < w.heap.size) (hc0 : w.cell? ⟨b0, 2, none⟩ = some (.slice As n caps)) (hc1 : w.cell? ⟨b1, 2, none⟩ = some (.string to)) (hc2 : w.cell? ⟨b2, 0, none⟩ = some (.int .i64 q))
    (hq : q < n) (hn : n * 16 ≤ 140737488351232) (hA : ∃ b off, As = some ⟨b, off, none⟩ ∧ b < w.heap.size ∧ w.cell? ⟨b, off + q * 2 + 1, none⟩ = some (.string over)) :
    Calls Tryz.prog 149 #[.string r, .pointer (some ⟨b1, 0, none⟩), .pointer (some ⟨b0, 0, none⟩), .pointer (some ⟨b2, 0, none⟩)] w fun e w' => e = .returned (.bool (eqS r bRoot || eqS r to || eqS r over)) ∧ Aft w w' := by
  obtain ⟨b, off, rfl, hb, hc⟩ := hA
  rw [root_eq]
  cases e1 : (r.toList == [114, 111, 111, 116])
  · cases e2 : eqS r to
    · have e2' : (r.toList == to.toList) = false := e2
      clear e2
      go_enter Tryz.func149, Tryz.ntmps149
      go_wp2_with fail
      go_ret
      exact ⟨rfl, Aft.refl _⟩
    · have e2' : (r.toList == to.toList) = true := e2
      clear e2
      go_enter Tryz.func149, Tryz.ntmps149
      go_wp2_with fail
      go_ret
      exact ⟨rfl, Aft.refl _⟩
  · go_enter Tryz.func149, Tryz.ntmps149
    go_wp2_with fail
    go_ret
    exact ⟨rfl, Aft.refl _⟩
theorem overB_some {o : Objs} {s : ByteArray} {q : Nat} (hi : schAt o.schemas s = q) (hq : q < o.schemas.length) : overB o s = o.schemas[q].owner := by
  unfold overB
  rw [if_neg (by omega), hi]
  simp [List.getElem?_eq_getElem hq]
set_option maxHeartbeats 4000000 in
theorem bossG (c : Cat) (As : Option Addr) (caps : Nat) (At : Option Addr) (capt : Nat) (An : Option Addr) (capn : Nat) (Am : Option Addr) (capm : Nat) (Ag : Option Addr) (capg : Nat) (is : List ByteArray) (Ai : Option Addr) (capi : Nat) (ts tn to : ByteArray) (A2 : Option Addr) (n2 c2 : Nat) (A3 : Option Addr) (n3 c3 : Nat) (t : Tab) (ht : t.schema = ts ∧ t.owner = to) (w : World) (H : CatAt w c As caps At capt An capn Am capm Ag capg) (his : SlAt w 1 StrR Ai capi is) (hsc : 0 ≤ schAt c.objs.schemas ts) :
    Calls Tryz.prog 85 #[.agg #[.int .i64 c.epoch, .int .i64 c.version, .slice As c.objs.schemas.length caps, .slice At c.objs.tables.length capt, .slice An c.rols.names.length capn, .slice Am c.rols.members.length capm, .slice Ag c.grants.length capg], .slice Ai is.length capi, .agg #[.string ts, .string tn, .string to, .slice A2 n2 c2, .slice A3 n3 c3]] w fun e w' => e = .returned (.bool (bossB c.objs is t)) ∧ Aft w w' := by
  have hlen := H.sch.len
  have hent1 := enters (P := Tryz.prog) Tryz.func147 (by kernel_rfl) rfl
  have hent2 := enters (P := Tryz.prog) Tryz.func149 (by kernel_rfl) rfl
  obtain ⟨W, hW⟩ : ∃ W, W = (w.alloc (.cells #[.int .i64 c.epoch, .int .i64 c.version, .slice As c.objs.schemas.length caps, .slice At c.objs.tables.length capt, .slice An c.rols.names.length capn, .slice Am c.rols.members.length capm, .slice Ag c.grants.length capg] 66)).alloc (.cells #[.string ts, .string tn, .string to, .slice A2 n2 c2, .slice A3 n3 c3] 89) := ⟨_, rfl⟩
  have aW : Aft w W := by rw [hW]; exact ((Aft.refl w).alloc _).alloc _
  have r0 : RowAt W (w.heap.size) [.int .i64 c.epoch, .int .i64 c.version, .slice As c.objs.schemas.length caps, .slice At c.objs.tables.length capt, .slice An c.rols.names.length capn, .slice Am c.rols.members.length capm, .slice Ag c.grants.length capg] := by rw [hW]; exact RowAt.up (box_at (Aft.refl _) (by simp))
  have r1 : RowAt W (w.heap.size + 1) [.string ts, .string tn, .string to, .slice A2 n2 c2, .slice A3 n3 c3] := by rw [hW]; exact box_at (Aft.refl _) (by simp)
  obtain ⟨q, hq⟩ := Int.eq_ofNat_of_zero_le hsc
  have hir : -1 ≤ schAt c.objs.schemas ts ∧ schAt c.objs.schemas ts < c.objs.schemas.length := idxP_range _ _
  have hql : q < c.objs.schemas.length := by omega
  have HB := Lib.hid (show bossB c.objs is t = is.any (fun r => eqS r bRoot || eqS r to || eqS r c.objs.schemas[q].owner) from by
    unfold bossB
    rw [ht.1, ht.2, overB_some hq hql])
  have CI := Lib.hid (show ∀ w', Aft W w' → Calls Tryz.prog 146 #[.slice As c.objs.schemas.length caps, .func (.func 147) #[] #[.pointer (some ⟨w.heap.size + 1, 0, none⟩)]] w' fun e w'' => e = .returned (.int .i64 q) ∧ Aft w' w'' from
    fun w' a => (idxSch As caps c.objs.schemas 147 #[.pointer (some ⟨w.heap.size + 1, 0, none⟩)] (fun s => eqS s.name ts) w' (schs_aft (aW.trans a) H.sch) hent1 (fun w'' b j hj => by
      have p1 := r1.aft (a.trans b)
      exact boss1 _ _ _ _ w'' p1.1 (p1.cell (j := 0) rfl))).mono fun e w'' ⟨he, hw⟩ => ⟨he.trans (by rw [← hq]; rfl), hw⟩)
  obtain ⟨v, hv⟩ : ∃ v, is.any (fun r => eqS r bRoot || eqS r to || eqS r c.objs.schemas[q].owner) = v := ⟨_, rfl⟩
  have CC := Lib.hid (show ∀ b2 w', Aft W w' → w'.cell? ⟨b2, 0, none⟩ = some (.int .i64 q) → Calls Tryz.prog 148 #[.slice Ai is.length capi, .func (.func 149) #[] #[.pointer (some ⟨w.heap.size + 1, 0, none⟩), .pointer (some ⟨w.heap.size, 0, none⟩), .pointer (some ⟨b2, 0, none⟩)]] w' fun e w'' => e = .returned (.bool v) ∧ Aft w' w'' from
    fun b2 w' a hb2 => (contStr Ai capi is 149 #[.pointer (some ⟨w.heap.size + 1, 0, none⟩), .pointer (some ⟨w.heap.size, 0, none⟩), .pointer (some ⟨b2, 0, none⟩)] (fun r => eqS r bRoot || eqS r to || eqS r c.objs.schemas[q].owner) w' (strs_aft (aW.trans a) his) hent2 (fun w'' b j hj => by
      have p0 := r0.aft (a.trans b)
      have p1 := r1.aft (a.trans b)
      have z2 : b2 < w'.heap.size := World.block_lt_of_cell? w' ⟨b2, 0, none⟩ hb2
      have c2 : w''.cell? ⟨b2, 0, none⟩ = some (.int .i64 q) := (Below.cell b (p := ⟨b2, 0, none⟩) z2).trans hb2
      obtain ⟨bs, off, hA, hbs, _, t1, _, _⟩ := sch_at (schs_aft ((aW.trans a).trans b) H.sch) hql
      exact boss2 _ to c.objs.schemas[q].owner w.heap.size _ b2 As _ caps q w'' p0.1 p1.1 (Nat.lt_of_lt_of_le z2 b.size) (p0.cell (j := 2) rfl) (p1.cell (j := 2) rfl) c2 hql (by have := H.sch.2.1; unfold Small at this; omega) ⟨bs, off, hA, hbs, t1⟩)).mono fun e w'' ⟨he, hw⟩ => ⟨he.trans (by rw [hv]), hw⟩)
  rw [hv] at HB
  have HAW := Lib.hid aW
  have HR0 := Lib.hid r0
  clear hv hq hir hsc H his ht r0 r1 aW
  go_enter Tryz.func85, Tryz.ntmps85
  go_wp2_with fail
  rw [← hW]
  clear hW
  refine (CI.out W (Aft.refl W)).mono ?_
  rintro e w1 ⟨rfl, a1⟩
  have HA1 := Lib.hid a1
  have C2 := Lib.hid (CC.out w1.heap.size (w1.alloc (.cells #[.int .i64 q] 3)) (a1.alloc _) (by simp))
  clear a1
  go_wp2_with fail
  refine C2.out.mono ?_
  rintro e w2 ⟨rfl, a2⟩
  have HA2 := Lib.hid ((HAW.out.trans HA1.out).trans (((Aft.refl w1).alloc _).trans a2))
  clear a2
  go_wp2_with fail
  go_ret
  exact ⟨by rw [HB.out]; rfl, HA2.out⟩
set_option maxHeartbeats 4000000 in
theorem given1 (g : Gra) (ts tn : ByteArray) (A2 : Option Addr) (n2 c2 : Nat) (A3 : Option Addr) (n3 c3 : Nat) (rt : Int) (op : Bool) (is : List ByteArray) (Ai : Option Addr) (capi : Nat) (bi b1 b2 b3 : Nat) (w : World) (hbi : bi < w.heap.size) (h1 : b1 < w.heap.size) (h2 : b2 < w.heap.size) (h3 : b3 < w.heap.size) (hci : w.cell? ⟨bi, 0, none⟩ = some (.slice Ai is.length capi)) (hc1 : w.cell? ⟨b1, 0, none⟩ = some (.string ts)) (hc1' : w.cell? ⟨b1, 1, none⟩ = some (.string tn)) (hc2 : w.cell? ⟨b2, 0, none⟩ = some (.int .i64 rt)) (hc3 : w.cell? ⟨b3, 0, none⟩ = some (.bool op)) (his : SlAt w 1 StrR Ai capi is) :
    Calls Tryz.prog 151 #[.agg #[.string g.schema, .string g.table, .int .i64 g.right, .string g.giver, .string g.to, .bool g.opt], .pointer (some ⟨b1, 0, none⟩), .pointer (some ⟨b2, 0, none⟩), .pointer (some ⟨b3, 0, none⟩), .pointer (some ⟨bi, 0, none⟩)] w fun e w' => e = .returned (.bool (eqS g.schema ts && eqS g.table tn && (g.right == rt) && (g.opt || !op) && inB is g.to)) ∧ Aft w w' := by
  obtain ⟨i, hi⟩ : ∃ i, inB is g.to = i := ⟨_, rfl⟩
  have C := Lib.hid (show ∀ w', Aft w w' → Calls Tryz.prog 84 #[.slice Ai is.length capi, .string g.to] w' fun e w'' => e = .returned (.bool i) ∧ w' = w'' from fun w' a => hi ▸ scont8 Ai capi is g.to w' (strs_aft a his))
  rw [hi]
  clear hi his
  obtain ⟨gs, gt, gr, gg, gto, go⟩ := g
  dsimp only at C ⊢
  cases e1 : eqS gs ts
  · have e1' : (gs.toList == ts.toList) = false := e1
    clear e1
    go_enter Tryz.func151, Tryz.ntmps151
    go_wp2_with fail
    go_ret
    exact ⟨rfl, (Aft.refl _).alloc _⟩
  have e1' : (gs.toList == ts.toList) = true := e1
  clear e1
  cases e2 : eqS gt tn
  · have e2' : (gt.toList == tn.toList) = false := e2
    clear e2
    go_enter Tryz.func151, Tryz.ntmps151
    go_wp2_with fail
    go_ret
    exact ⟨rfl, (Aft.refl _).alloc _⟩
  have e2' : (gt.toList == tn.toList) = true := e2
  clear e2
  cases e3 : (gr == rt)
  · go_enter Tryz.func151, Tryz.ntmps151
    go_wp2_with fail
    go_ret
    exact ⟨rfl, (Aft.refl _).alloc _⟩
  cases go <;> cases op
  all_goals
    go_enter Tryz.func151, Tryz.ntmps151
    go_wp2_with (go_at_call 84; refine (C.out _ ((Aft.refl w).alloc _)).mono ?_; rintro e w1 ⟨rfl, rfl⟩)
    go_ret
    exact ⟨rfl, (Aft.refl _).alloc _⟩
set_option maxHeartbeats 4000000 in
theorem givenG (l : List Gra) (Ag : Option Addr) (capg : Nat) (is : List ByteArray) (Ai : Option Addr) (capi : Nat) (ts tn to : ByteArray) (A2 : Option Addr) (n2 c2 : Nat) (A3 : Option Addr) (n3 c3 : Nat) (rt : Int) (op : Bool) (w : World) (hl : SlAt w 6 GraR Ag capg l) (his : SlAt w 1 StrR Ai capi is) :
    Calls Tryz.prog 86 #[.slice Ag l.length capg, .slice Ai is.length capi, .agg #[.string ts, .string tn, .string to, .slice A2 n2 c2, .slice A3 n3 c3], .int .i64 rt, .bool op] w fun e w' => e = .returned (.bool (givesB l is ts tn rt op)) ∧ Aft w w' := by
  have hent := enters (P := Tryz.prog) Tryz.func151 (by kernel_rfl) rfl
  obtain ⟨W, hW⟩ : ∃ W, W = (((w.alloc (.cells #[.slice Ai is.length capi] 60)).alloc (.cells #[.string ts, .string tn, .string to, .slice A2 n2 c2, .slice A3 n3 c3] 89)).alloc (.cells #[.int .i64 rt] 74)).alloc (.cells #[.bool op] 4) := ⟨_, rfl⟩
  have aW : Aft w W := by rw [hW]; exact ((((Aft.refl w).alloc _).alloc _).alloc _).alloc _
  have r0 : RowAt W (w.heap.size) [.slice Ai is.length capi] := by rw [hW]; exact RowAt.up (RowAt.up (RowAt.up (box_at (Aft.refl _) (by simp))))
  have r1 : RowAt W (w.heap.size + 1) [.string ts, .string tn, .string to, .slice A2 n2 c2, .slice A3 n3 c3] := by rw [hW]; exact RowAt.up (RowAt.up (box_at (Aft.refl _) (by simp)))
  have r2 : RowAt W (w.heap.size + 1 + 1) [.int .i64 rt] := by rw [hW]; exact RowAt.up (box_at (Aft.refl _) (by simp))
  have r3 : RowAt W (w.heap.size + 1 + 1 + 1) [.bool op] := by rw [hW]; exact box_at (Aft.refl _) (by simp)
  obtain ⟨v, hv⟩ : ∃ v, givesB l is ts tn rt op = v := ⟨_, rfl⟩
  have C := Lib.hid ((contGra Ag capg l 151 #[.pointer (some ⟨w.heap.size + 1, 0, none⟩), .pointer (some ⟨w.heap.size + 1 + 1, 0, none⟩), .pointer (some ⟨w.heap.size + 1 + 1 + 1, 0, none⟩), .pointer (some ⟨w.heap.size, 0, none⟩)] (fun g => eqS g.schema ts && eqS g.table tn && (g.right == rt) && (g.opt || !op) && inB is g.to) W (gras_aft aW hl) hent (fun w'' b j hj => by
      have p0 := r0.aft b
      have p1 := r1.aft b
      have p2 := r2.aft b
      have p3 := r3.aft b
      exact given1 l[j] ts tn A2 n2 c2 A3 n3 c3 rt op is Ai capi _ _ _ _ w'' p0.1 p1.1 p2.1 p3.1 (p0.cell (j := 0) rfl) (p1.cell (j := 0) rfl) (p1.cell (j := 1) rfl) (p2.cell (j := 0) rfl) (p3.cell (j := 0) rfl) (strs_aft (aW.trans b) his))).mono (R' := fun e w'' => e = .returned (.bool v) ∧ Aft W w'') fun e w'' ⟨he, hw⟩ => ⟨he.trans (by rw [← hv]; rfl), hw⟩)
  rw [hv]
  have HAW := Lib.hid aW
  clear hv hl his r0 r1 r2 r3 aW
  go_enter Tryz.func86, Tryz.ntmps86
  go_wp2_with fail
  rw [← hW]
  clear hW
  refine C.out.mono ?_
  rintro e w1 ⟨rfl, a1⟩
  have HA1 := Lib.hid (HAW.out.trans a1)
  clear a1
  go_wp2_with fail
  go_ret
  exact ⟨rfl, HA1.out⟩
end Go.Proofs.YtlklmekapbojdaaGreat

namespace Go.Proofs.YtlklmekapbojdaaGreat
open Go.RowKit Go.Deep
set_option maxRecDepth 100000
set_option linter.unusedVariables false
theorem standsB_len (c : Cat) (h : ¬ c.grants.length ≤ 64) : standsB c = false := by unfold standsB; rw [decide_eq_false h]; rfl
theorem standsB_gra (c : Cat) (k : Nat) (hk : k < c.grants.length) (h : graOk c c.grants[k] = false) : standsB c = false := by
  unfold standsB; rw [all_false _ _ k hk h]; simp
theorem standsB_ris (c : Cat) (k : Nat) (hk : k < c.grants.length) (h0 : 0 < k) (h : 0 ≤ cmpG (c.grants[k - 1]'(by omega)) c.grants[k]) : standsB c = false := by
  have h1 : k - 1 + 1 < c.grants.length := by omega
  have e : (c.grants[k - 1 + 1]'h1) = c.grants[k] := by congr 1; omega
  unfold standsB
  rw [risesB_false _ _ (k - 1) h1 (by rw [e]; exact h)]
  simp
/-- the state of the loop: the catalog's box, the last five's, the blocks -/
structure StS (w : World) (B3 : Nat) (l0 : List Value) (p : Gra) (wr : World) : Prop where
  aft : Aft w wr
  box : RowAt wr w.heap.size l0
  last : RowAt wr B3 [.string p.schema, .string p.table, .int .i64 p.right, .string p.giver, .string p.to]
theorem StS.to {w : World} {B3 : Nat} {l0 : List Value} {p : Gra} {wr w' : World} (h : StS w B3 l0 p wr) (a : Aft wr w') : StS w B3 l0 p w' := ⟨h.aft.trans a, h.box.aft a, h.last.aft a⟩
theorem fiveE_cmp (a b : Gra) : fiveE b a = true ↔ cmpG a b = 0 := by rw [cmpG_zero, fiveE_comm]
set_option maxHeartbeats 16000000 in
theorem standsG (c : Cat) (As : Option Addr) (caps : Nat) (At : Option Addr) (capt : Nat) (An : Option Addr) (capn : Nat) (Am : Option Addr) (capm : Nat) (Ag : Option Addr) (capg : Nat) (w : World) (H : CatAt w c As caps At capt An capn Am capm Ag capg) :
    Calls Tryz.prog 135 #[.agg #[.int .i64 c.epoch, .int .i64 c.version, .slice As c.objs.schemas.length caps, .slice At c.objs.tables.length capt, .slice An c.rols.names.length capn, .slice Am c.rols.members.length capm, .slice Ag c.grants.length capg]] w fun e w' => e = .returned (.bool (standsB c)) ∧ Aft w w' := by
  have hlen := H.gra.len
  obtain ⟨W, hW⟩ : ∃ W, W = w.alloc (.cells #[.int .i64 c.epoch, .int .i64 c.version, .slice As c.objs.schemas.length caps, .slice At c.objs.tables.length capt, .slice An c.rols.names.length capn, .slice Am c.rols.members.length capm, .slice Ag c.grants.length capg] 66) := ⟨_, rfl⟩
  have aW : Aft w W := by rw [hW]; exact (Aft.refl w).alloc _
  have r0 : RowAt W (w.heap.size) [.int .i64 c.epoch, .int .i64 c.version, .slice As c.objs.schemas.length caps, .slice At c.objs.tables.length capt, .slice An c.rols.names.length capn, .slice Am c.rols.members.length capm, .slice Ag c.grants.length capg] := by rw [hW]; exact box_at (Aft.refl _) (by simp)
  obtain ⟨ck, hck⟩ : ∃ b, checkO c.objs = b := ⟨_, rfl⟩
  obtain ⟨rk, hrk⟩ : ∃ b, rightR c.rols = b := ⟨_, rfl⟩
  obtain ⟨ro, hro⟩ : ∃ b, inB c.rols.names bRoot = b := ⟨_, rfl⟩
  obtain ⟨ow, how⟩ : ∃ b, ownersB c = b := ⟨_, rfl⟩
  have HS := Lib.hid (show standsB c = (decide (c.grants.length ≤ 64) && ck && rk && ro && ow && (c.grants.all (graOk c) && risesB cmpG c.grants)) by unfold standsB; rw [hck, hrk, hro, how])
  have C1 := Lib.hid (show ∀ w', Aft W w' → Calls Tryz.prog 46 #[.agg #[.slice As c.objs.schemas.length caps, .slice At c.objs.tables.length capt]] w' fun e w'' => e = .returned (.int .i64 (if ck = true then 0 else 63)) ∧ Aft w' w'' from fun w' a => (check_any c.objs As caps At capt w' (schs_aft (aW.trans a) H.sch) (tabs_aft (aW.trans a) H.tab)).mono fun e w'' ⟨he, hw⟩ => ⟨he.trans (by unfold checkE; rw [hck]), hw⟩)
  have C2 := Lib.hid (show ∀ w', Aft W w' → Calls Tryz.prog 186 #[.agg #[.slice An c.rols.names.length capn, .slice Am c.rols.members.length capm]] w' fun e w'' => e = .returned (.int .i64 (if rk = true then 0 else 1)) ∧ Aft w' w'' from fun w' a => hrk ▸ check8 c.rols An capn Am capm w' (strs_aft (aW.trans a) H.nam) (mbrs_aft (aW.trans a) H.mem))
  have C3 := Lib.hid (show ∀ w', Aft W w' → Calls Tryz.prog 84 #[.slice An c.rols.names.length capn, .string ⟨#[114, 111, 111, 116]⟩] w' fun e w'' => e = .returned (.bool ro) ∧ w' = w'' from fun w' a => hro ▸ scont8 An capn c.rols.names bRoot w' (strs_aft (aW.trans a) H.nam))
  have C4 := Lib.hid (show ∀ w', Aft W w' → Calls Tryz.prog 187 #[.agg #[.int .i64 c.epoch, .int .i64 c.version, .slice As c.objs.schemas.length caps, .slice At c.objs.tables.length capt, .slice An c.rols.names.length capn, .slice Am c.rols.members.length capm, .slice Ag c.grants.length capg]] w' fun e w'' => e = .returned (.bool ow) ∧ Aft w' w'' from fun w' a => how ▸ ownersG c As caps At capt An capn Am capm Ag capg w' (H.aft (aW.trans a)))
  have CN := Lib.hid (show ∀ w', Aft w w' → ∀ s, Calls Tryz.prog 84 #[.slice An c.rols.names.length capn, .string s] w' fun e w'' => e = .returned (.bool (inB c.rols.names s)) ∧ w' = w'' from fun w' a s => scont8 An capn c.rols.names s w' (strs_aft a H.nam))
  have CT := Lib.hid (show ∀ w', Aft w w' → ∀ s n, Calls Tryz.prog 80 #[.agg #[.int .i64 c.epoch, .int .i64 c.version, .slice As c.objs.schemas.length caps, .slice At c.objs.tables.length capt, .slice An c.rols.names.length capn, .slice Am c.rols.members.length capm, .slice Ag c.grants.length capg], .string s, .string n] w' (TabP w' c.objs s n) from fun w' a s n => tableG c As caps At capt An capn Am capm Ag capg s n w' (tabs_aft a H.tab))
  have HH := Lib.hid H
  have HAW := Lib.hid aW
  have HR0 := Lib.hid r0
  clear hck hrk hro how H aW r0
  go_enter Tryz.func135, Tryz.ntmps135
  by_cases m64 : c.grants.length ≤ 64
  case neg =>
    have m64' : (64 : Int) < (c.grants.length : Int) := by omega
    have HF := Lib.hid (standsB_len c m64)
    go_wp2_with fail
    go_ret
    exact ⟨by rw [HF.out]; rfl, (Aft.refl _).alloc _⟩
  have m64' : ¬ (64 : Int) < (c.grants.length : Int) := by omega
  go_wp2_with fail
  rw [← hW]
  refine (C1.out W (Aft.refl W)).mono ?_
  rintro e w1 ⟨rfl, a1⟩
  clear hW
  have H1 := Lib.hid a1
  have p0 := HR0.out.aft a1
  have x2 := p0.cell (j := 2) rfl
  have x3 := p0.cell (j := 3) rfl
  have x4 := p0.cell (j := 4) rfl
  have x5 := p0.cell (j := 5) rfl
  have x6 := p0.cell (j := 6) rfl
  have x0 := p0.cell (j := 0) rfl
  have x1 := p0.cell (j := 1) rfl
  have xz := p0.1
  clear a1 p0
  cases ck
  case false =>
    have HF := Lib.hid (show standsB c = false by rw [HS.out]; simp)
    go_wp2_with fail
    go_ret
    exact ⟨by rw [HF.out]; rfl, HAW.out.trans H1.out⟩
  go_wp2_with fail
  refine (C2.out w1 H1.out).mono ?_
  rintro e w2 ⟨rfl, a2⟩
  clear x0 x1 x2 x3 x4 x5 x6 xz
  have H2 := Lib.hid (H1.out.trans a2)
  have p0 := HR0.out.aft (H1.out.trans a2)
  have x2 := p0.cell (j := 2) rfl
  have x3 := p0.cell (j := 3) rfl
  have x4 := p0.cell (j := 4) rfl
  have x5 := p0.cell (j := 5) rfl
  have x6 := p0.cell (j := 6) rfl
  have x0 := p0.cell (j := 0) rfl
  have x1 := p0.cell (j := 1) rfl
  have xz := p0.1
  clear a2 p0 H1
  cases rk
  case false =>
    have HF := Lib.hid (show standsB c = false by rw [HS.out]; simp)
    go_wp2_with fail
    go_ret
    exact ⟨by rw [HF.out]; rfl, HAW.out.trans H2.out⟩
  go_wp2_with fail
  refine (C3.out w2 H2.out).mono ?_
  rintro e w3 ⟨rfl, rfl⟩
  cases ro
  case false =>
    have HF := Lib.hid (show standsB c = false by rw [HS.out]; simp)
    go_wp2_with fail
    go_ret
    exact ⟨by rw [HF.out]; rfl, HAW.out.trans H2.out⟩
  go_wp2_with fail
  refine (C4.out w2 H2.out).mono ?_
  rintro e w4 ⟨rfl, a4⟩
  clear x0 x1 x2 x3 x4 x5 x6 xz
  have H4 := Lib.hid (H2.out.trans a4)
  have p0 := HR0.out.aft (H2.out.trans a4)
  have x6 := p0.cell (j := 6) rfl
  have xz := p0.1
  clear a4 p0 H2
  cases ow
  case false =>
    have HF := Lib.hid (show standsB c = false by rw [HS.out]; simp)
    go_wp2_with fail
    go_ret
    exact ⟨by rw [HF.out]; rfl, HAW.out.trans H4.out⟩
  obtain ⟨B3, hB3⟩ : ∃ B, B = w4.heap.size := ⟨_, rfl⟩
  have zB : w.heap.size + 1 ≤ B3 := by have := HR0.out.1; have := (HAW.out.trans H4.out).size; have := H4.out.size; omega
  have S0 := Lib.hid (show StS w B3 [.int .i64 c.epoch, .int .i64 c.version, .slice As c.objs.schemas.length caps, .slice At c.objs.tables.length capt, .slice An c.rols.names.length capn, .slice Am c.rols.members.length capm, .slice Ag c.grants.length capg] ⟨⟨#[]⟩, ⟨#[]⟩, 0, ⟨#[]⟩, ⟨#[]⟩, false⟩ (w4.alloc (.cells #[.string ⟨#[]⟩, .string ⟨#[]⟩, .int .i64 0, .string ⟨#[]⟩, .string ⟨#[]⟩] 201)) from by
    have a := (Aft.refl w4).alloc (.cells #[.string ⟨#[]⟩, .string ⟨#[]⟩, .int .i64 0, .string ⟨#[]⟩, .string ⟨#[]⟩] 201)
    exact ⟨(HAW.out.trans H4.out).trans a, (HR0.out.aft H4.out).aft a, by rw [hB3]; exact box_row2 (c := [.string ⟨#[]⟩, .string ⟨#[]⟩, .int .i64 0, .string ⟨#[]⟩, .string ⟨#[]⟩]) (Aft.refl _)⟩)
  go_wp2_with fail
  rw [← hB3]
  go_loopw [39] (fun i wr => ∃ (k : Nat) (p : Gra), k ≤ c.grants.length ∧ i = .int .i64 k ∧ StS w B3 [.int .i64 c.epoch, .int .i64 c.version, .slice As c.objs.schemas.length caps, .slice At c.objs.tables.length capt, .slice An c.rols.names.length capn, .slice Am c.rols.members.length capm, .slice Ag c.grants.length capg] p wr ∧ (0 < k → ∀ (h : k - 1 < c.grants.length), fkey p = fkey c.grants[k - 1]) ∧ ∀ j, j < k → ∀ (hj : j < c.grants.length), graOk c c.grants[j] = true ∧ (0 < j → cmpG (c.grants[j - 1]'(by omega)) c.grants[j] < 0)) (fun i _ => c.grants.length - (intOf i).toNat)
  case atStart => exact ⟨0, _, Nat.zero_le _, rfl, S0.out, fun h => absurd h (by omega), fun j hj => absurd hj (Nat.not_lt_zero j)⟩
  case round =>
    clear x6 xz S0 hB3
    obtain ⟨k, p, hk, rfl, hs, hp, hall⟩ := hrel
    have HP := Lib.hid hp
    have HALL := Lib.hid hall
    have SR := Lib.hid hs
    by_cases hlt : k < c.grants.length
    case neg =>
      clear hp hall hs
      have HF := Lib.hid (show standsB c = true by
        rw [HS.out, decide_eq_true m64, all_true _ _ fun j hj => (HALL.out j (by omega) hj).1, rises_pred cmpG c.grants fun j h1 hj => (HALL.out j (by omega) hj).2 (by omega)]; rfl)
      go_wp2_with fail
      go_ret
      exact ⟨by rw [HF.out]; rfl, SR.out.aft⟩
    obtain ⟨b, off, rfl, hb, t0, t1, t2, t3, t4, t5, sg⟩ := gra_at (gras_aft hs.aft HH.out.gra) hlt
    obtain ⟨g, hg⟩ : ∃ g, c.grants[k] = g := ⟨_, rfl⟩
    rw [hg] at t0 t1 t2 t3 t4 t5 sg
    have p0 := hs.box
    obtain ⟨x0, x1, x2, x3, x4, x5, x6, xz⟩ := rowF7 p0
    obtain ⟨G, hG⟩ : ∃ V, V = wr.alloc (.cells #[.string g.schema, .string g.table, .int .i64 g.right, .string g.giver, .string g.to, .bool g.opt] 76) := ⟨_, rfl⟩
    have aG : Aft wr G := by rw [hG]; exact (Aft.refl wr).alloc _
    have SG := Lib.hid (hs.to aG)
    have RG := Lib.hid (show RowAt G wr.heap.size [.string g.schema, .string g.table, .int .i64 g.right, .string g.giver, .string g.to, .bool g.opt] by rw [hG]; exact box_row2 (Aft.refl _))
    have C := Lib.hid (CT.out G (hs.aft.trans aG) g.schema g.table)
    have HG := Lib.hid hg
    have HOKE := Lib.hid (show graOk c c.grants[k] = (decide (0 ≤ tabAt c.objs.tables g.schema g.table) && kindB g.right && !eqS g.giver g.to && inB c.rols.names g.giver && inB c.rols.names g.to) by rw [hg]; rfl)
    clear hp hall hs hg aG p0 sg
    go_wp2_with fail
    rw [← hG]
    clear hG
    refine C.out.mono ?_
    rintro e w5 ⟨A2, c2, A3, c3, rfl, a5⟩
    generalize tabF c.objs g.schema g.table = T
    obtain ⟨tb, htb⟩ : ∃ tb, decide (0 ≤ tabAt c.objs.tables g.schema g.table) = tb := ⟨_, rfl⟩
    obtain ⟨kb, hkb⟩ : ∃ kb, kindB g.right = kb := ⟨_, rfl⟩
    obtain ⟨eb, heb⟩ : ∃ eb, eqS g.giver g.to = eb := ⟨_, rfl⟩
    obtain ⟨i1, hi1⟩ : ∃ i, inB c.rols.names g.giver = i := ⟨_, rfl⟩
    obtain ⟨i2, hi2⟩ : ∃ i, inB c.rols.names g.to = i := ⟨_, rfl⟩
    rw [htb, hkb, heb, hi1, hi2] at HOKE
    rw [htb]
    have K1 := Lib.hid (show ∀ w', Calls Tryz.prog 79 #[.int .i64 g.right] w' fun e w'' => e = .returned (.bool kb) ∧ w' = w'' from fun w' => hkb ▸ kindG g.right w')
    obtain ⟨X, hX⟩ : ∃ V, V = w5.alloc (.cells #[.string T.schema, .string T.name, .string T.owner, .slice A2 T.cols.length c2, .slice A3 T.rules.length c3] 89) := ⟨_, rfl⟩
    have aX : Aft w5 X := by rw [hX]; exact (Aft.refl w5).alloc _
    have SW := Lib.hid (SG.out.to (a5.trans aX))
    have N1 := Lib.hid (show Calls Tryz.prog 84 #[.slice An c.rols.names.length capn, .string g.giver] X fun e w'' => e = .returned (.bool i1) ∧ X = w'' from hi1 ▸ CN.out X SW.out.aft g.giver)
    have N2 := Lib.hid (show Calls Tryz.prog 84 #[.slice An c.rols.names.length capn, .string g.to] X fun e w'' => e = .returned (.bool i2) ∧ X = w'' from hi2 ▸ CN.out X SW.out.aft g.to)
    have RX := RG.out.aft (a5.trans aX)
    clear t0 t1 t2 t3 t4 t5 x0 x1 x2 x3 x4 x5 x6 xz hb
    obtain ⟨e0, e1, e2, e3, e4, e5, ez⟩ := rowF6 RX
    have p0 := SW.out.box
    have x4 := p0.cell (j := 4) rfl
    have x6 := p0.cell (j := 6) rfl
    have xz := p0.1
    have y0 := (RG.out.aft a5).cell (j := 0) rfl
    have y2 := (RG.out.aft a5).cell (j := 2) rfl
    have y3 := (RG.out.aft a5).cell (j := 3) rfl
    have y4 := (RG.out.aft a5).cell (j := 4) rfl
    have yz := (RG.out.aft a5).1
    have q0 := (SG.out.to a5).box
    have v4 := q0.cell (j := 4) rfl
    have vz := q0.1
    clear aX RX p0 q0 htb hkb hi1 hi2 a5
    have heb' : (g.giver.toList == g.to.toList) = eb := heb
    clear heb
    cases tb
    case false =>
      have HF := Lib.hid (standsB_gra c k hlt (by rw [HOKE.out]; rfl))
      go_wp2_with fail
      go_ret
      exact ⟨by rw [HF.out]; rfl, by rw [← hX]; exact SW.out.aft⟩
    cases kb
    case false =>
      have HF := Lib.hid (standsB_gra c k hlt (by rw [HOKE.out]; rfl))
      go_wp2_with fail
      refine (K1.out _).mono ?_
      rintro e w6 ⟨rfl, rfl⟩
      go_wp2_with fail
      go_ret
      exact ⟨by rw [HF.out]; rfl, by rw [← hX]; exact SW.out.aft⟩
    cases eb
    case true =>
      have HF := Lib.hid (standsB_gra c k hlt (by rw [HOKE.out]; rfl))
      go_wp2_with fail
      refine (K1.out _).mono ?_
      rintro e w6 ⟨rfl, rfl⟩
      go_wp2_with fail
      go_ret
      exact ⟨by rw [HF.out]; rfl, by rw [← hX]; exact SW.out.aft⟩
    go_wp2_with fail
    refine (K1.out _).mono ?_
    rintro e w6 ⟨rfl, rfl⟩
    clear y0 y2 y3 y4 yz v4 vz
    rw [← hX]
    clear hX
    go_wp2_with fail
    refine N1.out.mono ?_
    rintro e w6 ⟨rfl, rfl⟩
    cases i1
    case false =>
      have HF := Lib.hid (standsB_gra c k hlt (by rw [HOKE.out]; rfl))
      go_wp2_with fail
      go_ret
      exact ⟨by rw [HF.out]; rfl, SW.out.aft⟩
    go_wp2_with fail
    refine N2.out.mono ?_
    rintro e w6 ⟨rfl, rfl⟩
    cases i2
    case false =>
      have HF := Lib.hid (standsB_gra c k hlt (by rw [HOKE.out]; rfl))
      go_wp2_with fail
      go_ret
      exact ⟨by rw [HF.out]; rfl, SW.out.aft⟩
    have HOK := Lib.hid (show graOk c c.grants[k] = true by rw [HOKE.out]; rfl)
    go_wp2_with fail
    by_cases h0 : 0 < k
    case neg =>
      have w5 : decide ((0 : Int) < (k : Int)) = false := decide_eq_false (by omega)
      have w6 : ¬ (0 : Int) < (k : Int) := by omega
      have CO := Lib.hid True.intro
      have CR := Lib.hid True.intro
      refine wp_region_lat (by kernel_rfl) (by kernel_rfl) ?_
      repeat (go_big_quiet_step ((first | (go_at_call 159; exact Calls.lat_of (CO.out _)) | (go_at_call 82; exact Calls.lat_of (CR.out _)))))
      refine wpQuiet_nil ?_
      intro _ hw'
      obtain ⟨x, hw''⟩ := hw'
      subst hw''
      go_wp2_with fail
      refine (ofG g _).mono ?_
      rintro e w7 ⟨rfl, a7⟩
      have S7 := Lib.hid (SW.out.to (((Aft.refl _).lat x).trans a7))
      have r7 := S7.out.last
      have d0 := r7.cell (j := 0) rfl
      have d1 := r7.cell (j := 1) rfl
      have d2 := r7.cell (j := 2) rfl
      have d3 := r7.cell (j := 3) rfl
      have d4 := r7.cell (j := 4) rfl
      have f0 := r7.2.2 0 (by simp)
      have f1 := r7.2.2 1 (by simp)
      have f2 := r7.2.2 2 (by simp)
      have f3 := r7.2.2 3 (by simp)
      have f4 := r7.2.2 4 (by simp)
      have z7 := r7.1
      clear a7 r7
      go_wp2_with fail
      go_roundw
      case rel =>
        refine ⟨k + 1, g, by omega, by go_num, ⟨(setT_kb _ _ _ _ _ _ _).to_aft S7.out.aft (fun _ _ e => by omega), (setT_kb _ _ _ _ _ _ _).row S7.out.box (by omega), setT_row S7.out.last rfl _ _ _ _ _⟩, fun _ h => by rw [← HG.out]; rfl, ext_lt (p := fun j => ∀ (hj : j < c.grants.length), graOk c c.grants[j] = true ∧ (0 < j → cmpG (c.grants[j - 1]'(by omega)) c.grants[j] < 0)) HALL.out (fun _ => ⟨HOK.out, fun h => absurd h h0⟩)⟩
      case measure => simp [intOf]; omega
    have w5 : decide ((0 : Int) < (k : Int)) = true := decide_eq_true (by omega)
    have w6 : (0 : Int) < (k : Int) := by omega
    have hk1 : k - 1 < c.grants.length := by omega
    obtain ⟨b', off', hA', hb', s0, s1, s2, s3, s4, s5, _⟩ := gra_at (gras_aft SW.out.aft HH.out.gra) hk1
    simp only [Option.some.injEq, Addr.mk.injEq, and_true] at hA'
    obtain ⟨rfl, rfl⟩ := hA'
    obtain ⟨p', hpp'⟩ : ∃ p', (c.grants[k - 1]'(by omega)) = p' := ⟨_, rfl⟩
    rw [hpp'] at s0 s1 s2 s3 s4 s5
    have HPP := Lib.hid hpp'
    have HPE := Lib.hid (show fkey p = fkey p' by rw [← hpp']; exact HP.out h0 hk1)
    have v1 : IntKind.i64.wrap ((k : Int) - 1) = (k : Int) - 1 := IntWalk.i64_in _ (by omega)
    have v2 : (0 : Int) ≤ (k : Int) - 1 := by omega
    have v3 : ((k : Int) - 1).toNat = k - 1 := by omega
    have v4 : (k : Int) - 1 < (c.grants.length : Int) := by omega
    have r7 := SW.out.last
    have d0 := r7.cell (j := 0) rfl
    have d1 := r7.cell (j := 1) rfl
    have d2 := r7.cell (j := 2) rfl
    have d3 := r7.cell (j := 3) rfl
    have d4 := r7.cell (j := 4) rfl
    have z7 := r7.1
    have CO := Lib.hid (show ∀ x : Lat X, Calls Tryz.prog 159 #[.agg #[.string g.schema, .string g.table, .int .i64 g.right, .string g.giver, .string g.to, .bool g.opt]] (lat X x) fun e w'' => e = .returned (.agg #[.string g.schema, .string g.table, .int .i64 g.right, .string g.giver, .string g.to]) ∧ Aft (lat X x) w'' from fun x => ofG g _)
    obtain ⟨z, hz⟩ : ∃ z, cmpG p' g = z := ⟨_, rfl⟩
    have CR := Lib.hid (show ∀ x : Lat X, Calls Tryz.prog 82 #[.agg #[.string p'.schema, .string p'.table, .int .i64 p'.right, .string p'.giver, .string p'.to, .bool p'.opt], .agg #[.string g.schema, .string g.table, .int .i64 g.right, .string g.giver, .string g.to, .bool g.opt]] (lat X x) fun e w'' => e = .returned (.int .i64 z) ∧ Aft (lat X x) w'' from fun x => hz ▸ orderG p' g _)
    obtain ⟨fb, hfb⟩ : ∃ fb, five5 g.schema g.table g.right g.giver g.to p.schema p.table p.right p.giver p.to = fb := ⟨_, rfl⟩
    have HFB := Lib.hid (show (cmpG p' g = 0) ↔ fb = true from by
      rw [← hfb, five5_is, fiveE_iff, HPE.out, ← fiveE_iff, fiveE_cmp])
    have HZ := Lib.hid hz
    clear r7 hpp' hz
    cases fb
    case true =>
      have HF := Lib.hid (standsB_ris c k hlt h0 (by rw [HPP.out, HG.out, HFB.out.2 rfl]; exact Int.le_refl _))
      refine wp_region_lat (by kernel_rfl) (by kernel_rfl) ?_
      repeat (go_big_quiet_step (first | (go_at_call 159; exact Calls.lat_of (CO.out _)) | (go_at_call 82; exact Calls.lat_of (CR.out _))))
      refine wpQuiet_nil ?_
      intro _ hw'
      obtain ⟨x, hw''⟩ := hw'
      subst hw''
      go_wp2_with fail
      go_ret
      exact ⟨by rw [HF.out]; rfl, (SW.out.to ((Aft.refl _).lat x)).aft⟩
    have hz0 : z ≠ 0 := fun e => by have := HFB.out.1 (HZ.out.trans e); cases this
    by_cases hzp : (0 : Int) < z
    · have HF := Lib.hid (standsB_ris c k hlt h0 (by rw [HPP.out, HG.out, HZ.out]; omega))
      clear hz0
      refine wp_region_lat (by kernel_rfl) (by kernel_rfl) ?_
      repeat (go_big_quiet_step (first | (go_at_call 159; exact Calls.lat_of (CO.out _)) | (go_at_call 82; exact Calls.lat_of (CR.out _))))
      refine wpQuiet_nil ?_
      intro _ hw'
      obtain ⟨x, hw''⟩ := hw'
      subst hw''
      go_wp2_with fail
      go_ret
      exact ⟨by rw [HF.out]; rfl, (SW.out.to ((Aft.refl _).lat x)).aft⟩
    · have HLT := Lib.hid (show cmpG (c.grants[k - 1]'(by omega)) c.grants[k] < 0 by rw [HPP.out, HG.out, HZ.out]; omega)
      clear hz0
      refine wp_region_lat (by kernel_rfl) (by kernel_rfl) ?_
      repeat (go_big_quiet_step (first | (go_at_call 159; exact Calls.lat_of (CO.out _)) | (go_at_call 82; exact Calls.lat_of (CR.out _))))
      refine wpQuiet_nil ?_
      intro _ hw'
      obtain ⟨x, hw''⟩ := hw'
      subst hw''
      go_wp2_with fail
      refine (ofG g _).mono ?_
      rintro e w7 ⟨rfl, a7⟩
      have S7 := Lib.hid (SW.out.to (((Aft.refl _).lat x).trans a7))
      have r7 := S7.out.last
      have d0 := r7.cell (j := 0) rfl
      have d1 := r7.cell (j := 1) rfl
      have d2 := r7.cell (j := 2) rfl
      have d3 := r7.cell (j := 3) rfl
      have d4 := r7.cell (j := 4) rfl
      have f0 := r7.2.2 0 (by simp)
      have f1 := r7.2.2 1 (by simp)
      have f2 := r7.2.2 2 (by simp)
      have f3 := r7.2.2 3 (by simp)
      have f4 := r7.2.2 4 (by simp)
      have z7 := r7.1
      clear a7 r7
      go_wp2_with fail
      go_roundw
      case rel =>
        refine ⟨k + 1, g, by omega, by go_num, ⟨(setT_kb _ _ _ _ _ _ _).to_aft S7.out.aft (fun _ _ e => by omega), (setT_kb _ _ _ _ _ _ _).row S7.out.box (by omega), setT_row S7.out.last rfl _ _ _ _ _⟩, fun _ h => by rw [← HG.out]; rfl, ext_lt (p := fun j => ∀ (hj : j < c.grants.length), graOk c c.grants[j] = true ∧ (0 < j → cmpG (c.grants[j - 1]'(by omega)) c.grants[j] < 0)) HALL.out (fun _ => ⟨HOK.out, fun _ => HLT.out⟩)⟩
      case measure => simp [intOf]; omega
end Go.Proofs.YtlklmekapbojdaaGreat

