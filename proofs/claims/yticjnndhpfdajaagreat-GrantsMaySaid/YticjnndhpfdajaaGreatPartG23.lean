/- Contracts of the program, part 23. -/
import Derived.Test.YticjnndhpfdajaaGreatPartG1
import Derived.Test.YticjnndhpfdajaaGreatPartG21
import Derived.Laws.StructEq
import Derived.Test.YticjnndhpfdajaaGreatPartG22
/- Loads and stores of the five of a grant. -/
namespace Go.Proofs.YticjnndhpfdajaaGreat
open Go.RowKit
def lvFiv (a : Addr) : Sem Value := loadVar 135 a
@[go_sem ↓] theorem lvFiv_eq (a : Addr) : loadVar 135 a = lvFiv a := rfl
@[go_sem] theorem run_lvFiv (w : World) (b o : Nat) (h0 : (w.cell? ⟨b, o, none⟩).isSome = true) (h1 : (w.cell? ⟨b, o + 1, none⟩).isSome = true) (h2 : (w.cell? ⟨b, o + 2, none⟩).isSome = true) (h3 : (w.cell? ⟨b, o + 3, none⟩).isSome = true) (h4 : (w.cell? ⟨b, o + 4, none⟩).isSome = true) : (lvFiv ⟨b, o, none⟩).run Tryz.prog w = .ok (.agg #[(w.cell? ⟨b, o, none⟩).getD undef, (w.cell? ⟨b, o + 1, none⟩).getD undef, (w.cell? ⟨b, o + 2, none⟩).getD undef, (w.cell? ⟨b, o + 3, none⟩).getD undef, (w.cell? ⟨b, o + 4, none⟩).getD undef]) w := run_lv (P := Tryz.prog) w 135 _ 5 b o Tryz.underlying135 rfl (by kernel_rfl) (forall_lt_succ _ _ (forall_lt_succ _ _ (forall_lt_succ _ _ (forall_lt_succ _ _ (forall_lt_succ _ _ (fun j hj => absurd hj (Nat.not_lt_zero j)) h0) h1) h2) h3) h4)
def svFiv (a : Addr) (v : Value) : Sem Unit := storeVar 135 a v
@[go_sem ↓] theorem svFiv_eq (a : Addr) (v : Value) : storeVar 135 a v = svFiv a v := rfl
@[go_sem] theorem run_svFiv (w : World) (b o : Nat) (v0 v1 v2 v3 v4 : Value) (h0 : (w.cell? ⟨b, o, none⟩).isSome = true) (h1 : (w.cell? ⟨b, o + 1, none⟩).isSome = true) (h2 : (w.cell? ⟨b, o + 2, none⟩).isSome = true) (h3 : (w.cell? ⟨b, o + 3, none⟩).isSome = true) (h4 : (w.cell? ⟨b, o + 4, none⟩).isSome = true) (f0 : w.frozen? ⟨b, o, none⟩ = false) (f1 : w.frozen? ⟨b, o + 1, none⟩ = false) (f2 : w.frozen? ⟨b, o + 2, none⟩ = false) (f3 : w.frozen? ⟨b, o + 3, none⟩ = false) (f4 : w.frozen? ⟨b, o + 4, none⟩ = false) (o0 : v0.oneCell' = true) (o1 : v1.oneCell' = true) (o2 : v2.oneCell' = true) (o3 : v3.oneCell' = true) (o4 : v4.oneCell' = true) : (svFiv ⟨b, o, none⟩ (.agg #[v0, v1, v2, v3, v4])).run Tryz.prog w = .ok () (((((w.setCell ⟨b, o, none⟩ v0).setCell ⟨b, o + 1, none⟩ v1).setCell ⟨b, o + 2, none⟩ v2).setCell ⟨b, o + 3, none⟩ v3).setCell ⟨b, o + 4, none⟩ v4) := run_sv (P := Tryz.prog) w 135 b o [v0, v1, v2, v3, v4] (by kernel_rfl) (forall_lt_succ _ _ (forall_lt_succ _ _ (forall_lt_succ _ _ (forall_lt_succ _ _ (forall_lt_succ _ _ (fun j hj => absurd hj (Nat.not_lt_zero j)) ⟨h0, f0, o0⟩) ⟨h1, f1, o1⟩) ⟨h2, f2, o2⟩) ⟨h3, f3, o3⟩) ⟨h4, f4, o4⟩)
end Go.Proofs.YticjnndhpfdajaaGreat
/- Grants and their fives are the same, or are not. -/
namespace Go.Proofs.YticjnndhpfdajaaGreat
open Go.RowKit
set_option maxRecDepth 100000
set_option linter.unusedVariables false
def five5 (s t : ByteArray) (r : Int) (g o : ByteArray) (s2 t2 : ByteArray) (r2 : Int) (g2 o2 : ByteArray) : Bool := eqS s s2 && (eqS t t2 && ((r == r2) && (eqS g g2 && eqS o o2)))
set_option maxHeartbeats 2000000 in
theorem run_eqFiv (w : World) (s t : ByteArray) (r : Int) (g o : ByteArray) (s2 t2 : ByteArray) (r2 : Int) (g2 o2 : ByteArray) :
    (Op.equalIn 10000 135 (.agg #[.string s, .string t, .int .i64 r, .string g, .string o]) (.agg #[.string s2, .string t2, .int .i64 r2, .string g2, .string o2])).run Tryz.prog w = .ok (five5 s t r g o s2 t2 r2 g2 o2) w := by
  cases h0 : eqS s s2
  · (have h0' := h0; unfold eqS at h0'; go_simp; simp_all [five5])
  have h0' := h0
  unfold eqS at h0'
  cases h1 : eqS t t2
  · (have h1' := h1; unfold eqS at h1'; go_simp; simp_all [five5])
  have h1' := h1
  unfold eqS at h1'
  cases h2 : (r == r2)
  · (go_simp; simp_all [five5])
  cases h3 : eqS g g2
  · (have h3' := h3; unfold eqS at h3'; go_simp; simp_all [five5])
  have h3' := h3
  unfold eqS at h3'
  cases h4 : eqS o o2
  · (have h4' := h4; unfold eqS at h4'; go_simp; simp_all [five5])
  · (have h4' := h4; unfold eqS at h4'; go_simp; simp_all [five5])
@[go_sem ↓] theorem run_eqlFiv (w : World) (s t : ByteArray) (r : Int) (g o : ByteArray) (s2 t2 : ByteArray) (r2 : Int) (g2 o2 : ByteArray) :
    (binOp .eql 135 (.agg #[.string s, .string t, .int .i64 r, .string g, .string o]) (.agg #[.string s2, .string t2, .int .i64 r2, .string g2, .string o2])).run Tryz.prog w = .ok (.bool (five5 s t r g o s2 t2 r2 g2 o2)) w := by
  rw [run_eql_struct, run_eqFiv]; rfl
theorem five5_is (a b : Gra) : five5 a.schema a.table a.right a.giver a.to b.schema b.table b.right b.giver b.to = fiveE a b := rfl
def gra6 (s t : ByteArray) (r : Int) (g o : ByteArray) (p : Bool) (s2 t2 : ByteArray) (r2 : Int) (g2 o2 : ByteArray) (p2 : Bool) : Bool := eqS s s2 && (eqS t t2 && ((r == r2) && (eqS g g2 && (eqS o o2 && (p == p2)))))
set_option maxHeartbeats 2000000 in
theorem run_eqGra (w : World) (s t : ByteArray) (r : Int) (g o : ByteArray) (p : Bool) (s2 t2 : ByteArray) (r2 : Int) (g2 o2 : ByteArray) (p2 : Bool) :
    (Op.equalIn 10000 67 (.agg #[.string s, .string t, .int .i64 r, .string g, .string o, .bool p]) (.agg #[.string s2, .string t2, .int .i64 r2, .string g2, .string o2, .bool p2])).run Tryz.prog w = .ok (gra6 s t r g o p s2 t2 r2 g2 o2 p2) w := by
  cases h0 : eqS s s2
  · (have h0' := h0; unfold eqS at h0'; go_simp; simp_all [gra6])
  have h0' := h0
  unfold eqS at h0'
  cases h1 : eqS t t2
  · (have h1' := h1; unfold eqS at h1'; go_simp; simp_all [gra6])
  have h1' := h1
  unfold eqS at h1'
  cases h2 : (r == r2)
  · (go_simp; simp_all [gra6])
  cases h3 : eqS g g2
  · (have h3' := h3; unfold eqS at h3'; go_simp; simp_all [gra6])
  have h3' := h3
  unfold eqS at h3'
  cases h4 : eqS o o2
  · (have h4' := h4; unfold eqS at h4'; go_simp; simp_all [gra6])
  have h4' := h4
  unfold eqS at h4'
  cases h5 : (p == p2)
  · (go_simp; simp_all [gra6])
  · (go_simp; simp_all [gra6])
@[go_sem ↓] theorem run_neqGra (w : World) (s t : ByteArray) (r : Int) (g o : ByteArray) (p : Bool) (s2 t2 : ByteArray) (r2 : Int) (g2 o2 : ByteArray) (p2 : Bool) :
    (binOp .neq 67 (.agg #[.string s, .string t, .int .i64 r, .string g, .string o, .bool p]) (.agg #[.string s2, .string t2, .int .i64 r2, .string g2, .string o2, .bool p2])).run Tryz.prog w = .ok (.bool (!gra6 s t r g o p s2 t2 r2 g2 o2 p2)) w := by
  rw [run_neq_struct, run_eqGra]; rfl
def graE (a b : Gra) : Bool := gra6 a.schema a.table a.right a.giver a.to a.opt b.schema b.table b.right b.giver b.to b.opt
theorem graE_iff (a b : Gra) : graE a b = true ↔ a = b := by
  unfold graE gra6
  simp only [Bool.and_eq_true, eqS_iff, beq_iff_eq]
  constructor
  · rintro ⟨h1, h2, h3, h4, h5, h6⟩
    cases a; cases b; simp_all
  · rintro rfl; simp
end Go.Proofs.YticjnndhpfdajaaGreat
/- grants.of, grants.kind, grants.order: what it makes behind. -/
namespace Go.Proofs.YticjnndhpfdajaaGreat
open Go.RowKit Go.Sort Go.Shelf
set_option maxRecDepth 100000
set_option linter.unusedVariables false
/-- the first that is not 0 -/
def orL : List Int → Int
  | [] => 0
  | x :: l => if x == 0 then orL l else x
theorem orL_skip : ∀ (l : List Int) (k : Nat) (hk : k < l.length), (∀ j (hj : j < k), (l[j]'(by omega)) = 0) → l[k] ≠ 0 → orL l = l[k]
  | x :: l, 0, _, _, h => by
    have h : x ≠ 0 := h
    unfold orL
    rw [if_neg (by simpa using h)]; rfl
  | x :: l, k + 1, hk, h0, h => by
    have e : x = 0 := h0 0 (by omega)
    subst e
    unfold orL
    rw [if_pos (by rfl)]
    exact orL_skip l k (by simpa using hk) (fun j hj => h0 (j + 1) (by omega)) h
theorem orL_zero : ∀ (l : List Int), (∀ j (hj : j < l.length), l[j] = 0) → orL l = 0
  | [], _ => rfl
  | x :: l, h => by
    have e : x = 0 := h 0 (by simp)
    subst e
    unfold orL
    rw [if_pos (by rfl)]
    exact orL_zero l fun j hj => h (j + 1) (by simpa using hj)
set_option maxHeartbeats 2000000 in
theorem orL_still (l : List Int) (hl : l.length ≤ 1000) (g : Nat) (w : World) (hg : g < w.heap.size) (hc : ∀ k (hk : k < l.length), w.cell? ⟨g, k, none⟩ = some (.int .i64 l[k])) :
    Calls Tryz.prog 163 #[.slice (some ⟨g, 0, none⟩) l.length l.length] w fun e w' => e = .returned (.int .i64 (orL l)) ∧ w' = w := by
  have HC := Lib.hid hc
  clear hc
  go_enter Tryz.func163, Tryz.ntmps163
  go_wp2_with fail
  go_loop [5, 8] (fun v i => ∃ k : Nat, k ≤ l.length ∧ i = .int .i64 k ∧ ∀ j (hj : j < k) (hj2 : j < l.length), l[j] = 0) (fun v i => l.length - (intOf i).toNat)
  case atStart => exact ⟨0, by omega, rfl, fun j hj => absurd hj (Nat.not_lt_zero j)⟩
  case round =>
    obtain ⟨k, hk, rfl, hz⟩ := hrel
    have HZ := Lib.hid hz
    clear hz
    by_cases hlt : k < l.length
    · have c0 := HC.out k hlt
      obtain ⟨x, hx⟩ : ∃ x, l[k] = x := ⟨_, rfl⟩
      rw [hx] at c0
      have HX := Lib.hid hx
      clear hx
      by_cases h0 : x = 0
      · subst h0
        go_wp2_with fail
        go_round
        case rel => exact ⟨k + 1, by omega, by go_num, fun j hj hj2 => by
          rcases Nat.lt_or_ge j k with h1 | h1
          · exact HZ.out j h1 hj2
          · have : j = k := by omega
            subst this
            exact HX.out⟩
        case measure => simp [intOf]; omega
      · have hb : (x != 0) = true := by simpa using h0
        have HN := Lib.hid h0
        clear h0
        go_wp2_with fail
        go_ret
        exact ⟨by rw [orL_skip l k hlt (fun j hj => HZ.out j hj (by omega)) (by rw [HX.out]; exact HN.out), HX.out]; rfl, rfl⟩
    · go_wp2_with fail
      go_ret
      exact ⟨by rw [orL_zero l fun j hj => HZ.out j (by omega) hj]; rfl, rfl⟩
theorem nan_right (x : Int) (w : World) : Calls Tryz.prog 241 #[.int .i64 x] w fun e w' => e = .returned (.bool false) ∧ w' = w := by
  go_enter Tryz.func241, Tryz.ntmps241
  go_wp2_with fail
  go_ret
  exact ⟨by simp, rfl⟩
set_option maxHeartbeats 2000000 in
theorem cmp_right (x y : Int) (w : World) : Calls Tryz.prog 184 #[.int .i64 x, .int .i64 y] w fun e w' => e = .returned (.int .i64 (cmpI x y)) ∧ w' = w := by
  have HE := Lib.hid (show cmpI x y = if x < y then -1 else if y < x then 1 else 0 from rfl)
  obtain ⟨r, hr⟩ : ∃ r, cmpI x y = r := ⟨_, rfl⟩
  rw [hr] at HE ⊢
  clear hr
  go_enter Tryz.func184, Tryz.ntmps184
  by_cases h1 : x < y
  · have HE2 := Lib.hid (show r = -1 by rw [HE.out, if_pos h1])
    go_wp2_with (go_at_call 241; refine (nan_right _ _).mono ?_; rintro e w' ⟨rfl, rfl⟩)
    go_ret
    exact ⟨by rw [HE2.out]; rfl, rfl⟩
  · by_cases h2 : y < x
    · have HE2 := Lib.hid (show r = 1 by rw [HE.out, if_neg h1, if_pos h2])
      go_wp2_with (go_at_call 241; refine (nan_right _ _).mono ?_; rintro e w' ⟨rfl, rfl⟩)
      go_ret
      exact ⟨by rw [HE2.out]; rfl, rfl⟩
    · have HE2 := Lib.hid (show r = 0 by rw [HE.out, if_neg h1, if_neg h2])
      go_wp2_with (go_at_call 241; refine (nan_right _ _).mono ?_; rintro e w' ⟨rfl, rfl⟩)
      go_ret
      exact ⟨by rw [HE2.out]; rfl, rfl⟩
theorem orL_five (a b c d e : Int) : orL [a, b, c, d, e] = or2 a (or2 b (or2 c (or2 d e))) := by
  unfold orL orL orL orL orL orL or2
  by_cases h : e = 0
  · subst h; simp
  · have : (e == 0) = false := by simpa using h
    simp [this]
set_option maxHeartbeats 4000000 in
theorem orderG_gro (a b : Gra) (w : World) :
    Calls Tryz.prog 122 #[.agg #[.string a.schema, .string a.table, .int .i64 a.right, .string a.giver, .string a.to, .bool a.opt], .agg #[.string b.schema, .string b.table, .int .i64 b.right, .string b.giver, .string b.to, .bool b.opt]] w fun e w' => e = .returned (.int .i64 (cmpG a b)) ∧ Gro w w' := by
  have HE := Lib.hid (show orL [cmpS a.schema b.schema, cmpS a.table b.table, cmpI a.right b.right, cmpS a.giver b.giver, cmpS a.to b.to] = cmpG a b from orL_five _ _ _ _ _)
  have CC := Lib.hid (cmp_right a.right b.right)
  obtain ⟨r, hr⟩ : ∃ r, cmpI a.right b.right = r := ⟨_, rfl⟩
  rw [hr] at HE CC
  clear hr
  go_enter Tryz.func122, Tryz.ntmps122
  go_wp2_with fail
  have HG := Lib.hid (((Gro.refl w).alloc (.cells #[.string a.schema, .string a.table, .int .i64 a.right, .string a.giver, .string a.to, .bool a.opt] 67)).alloc (.cells #[.string b.schema, .string b.table, .int .i64 b.right, .string b.giver, .string b.to, .bool b.opt] 67)).drew
  refine wp_region_tail_eq 25 (by kernel_rfl) (by kernel_rfl) ?_
  intro w1 hw1
  have a1 : Aft ((w.alloc (.cells #[.string a.schema, .string a.table, .int .i64 a.right, .string a.giver, .string a.to, .bool a.opt] 67)).alloc (.cells #[.string b.schema, .string b.table, .int .i64 b.right, .string b.giver, .string b.to, .bool b.opt] 67)) w1 := by rw [hw1]; exact (Aft.refl _).drew
  rw [← hw1] at HG
  clear hw1
  obtain ⟨hb1, hb2, hz, HA⟩ := aft_box2 a1
  clear a1 HA
  simp only [List.take_succ_cons, List.take_zero, List.drop_succ_cons, List.drop_zero]
  repeat still_step
  still_call (compare_still _ _ _)
  repeat still_step
  still_call (compare_still _ _ _)
  repeat still_step
  still_call (CC.out _)
  repeat still_step
  still_call (compare_still _ _ _)
  repeat still_step
  still_call (compare_still _ _ _)
  refine wpStill_nil ?_
  go_wp2_with fail
  refine (orL_still [cmpS a.schema b.schema, cmpS a.table b.table, r, cmpS a.giver b.giver, cmpS a.to b.to] (by simp) w1.heap.size _ (by simp) (fun k hk => ?_)).mono ?_
  · match k, hk with
    | 0, _ => simp
    | 1, _ => simp
    | 2, _ => simp
    | 3, _ => simp
    | 4, _ => simp
  rintro e w2 ⟨rfl, rfl⟩
  have HG2 := Lib.hid (HG.out.alloc (.cells #[.int .i64 (cmpS a.schema b.schema), .int .i64 (cmpS a.table b.table), .int .i64 r, .int .i64 (cmpS a.giver b.giver), .int .i64 (cmpS a.to b.to)] 3))
  go_wp2_with fail
  go_ret
  exact ⟨by rw [HE.out]; rfl, HG2.out⟩
theorem Gro.aft {w w' : World} (h : Gro w w') : Aft w w' := by
  obtain ⟨q, os, rfl⟩ := h
  exact ((Aft.refl w).drewN q).trans (aft_grow _ os)
theorem orderG (a b : Gra) (w : World) :
    Calls Tryz.prog 122 #[.agg #[.string a.schema, .string a.table, .int .i64 a.right, .string a.giver, .string a.to, .bool a.opt], .agg #[.string b.schema, .string b.table, .int .i64 b.right, .string b.giver, .string b.to, .bool b.opt]] w fun e w' => e = .returned (.int .i64 (cmpG a b)) ∧ Aft w w' := (orderG_gro a b w).mono fun e w' ⟨h, g⟩ => ⟨h, g.aft⟩
theorem kindG (x : Int) (w : World) : Calls Tryz.prog 131 #[.int .i64 x] w fun e w' => e = .returned (.bool (kindB x)) ∧ w = w' := by
  have HK := Lib.hid (show kindB x = (x == 1 || x == 2) from rfl)
  go_enter Tryz.func131, Tryz.ntmps131
  cases h1 : (x == 1) <;> cases h2 : (x == 2)
  all_goals
    rw [h1, h2] at HK
    go_wp2_with fail
    go_ret
    exact ⟨by rw [HK.out]; rfl, rfl⟩
theorem lvFiv_row {W : World} {b : Nat} {a c d e f : Value} (h : RowAt W b [a, c, d, e, f]) : (loadVar 135 ⟨b, 0, none⟩).run Tryz.prog W = .ok (.agg #[a, c, d, e, f]) W := by
  have e0 := h.cell (j := 0) rfl
  have e1 := h.cell (j := 1) rfl
  have e2 := h.cell (j := 2) rfl
  have e3 := h.cell (j := 3) rfl
  have e4 := h.cell (j := 4) rfl
  have h1 := run_lvFiv W b 0 (by rw [e0]; rfl) (by rw [e1]; rfl) (by rw [e2]; rfl) (by rw [e3]; rfl) (by rw [e4]; rfl)
  rw [e0, e1, e2, e3, e4] at h1
  exact h1
set_option maxHeartbeats 1000000 in
theorem ofG (g : Gra) (w : World) : Calls Tryz.prog 118 #[.agg #[.string g.schema, .string g.table, .int .i64 g.right, .string g.giver, .string g.to, .bool g.opt]] w fun e w' => e = .returned (.agg #[.string g.schema, .string g.table, .int .i64 g.right, .string g.giver, .string g.to]) ∧ Aft w w' := by
  go_enter Tryz.func118, Tryz.ntmps118
  go_wp2_with fail
  refine bodyPost_ret (results_cell (v := .agg #[.string g.schema, .string g.table, .int .i64 g.right, .string g.giver, .string g.to]) rfl _ rfl ?hl) rfl ?_
  case hl =>
    have := lvFiv_row (box_row2 (w := w.alloc (.cells #[.string g.schema, .string g.table, .int .i64 g.right, .string g.giver, .string g.to, .bool g.opt] 67)) (c := [.string g.schema, .string g.table, .int .i64 g.right, .string g.giver, .string g.to]) (t := 135) (Aft.refl _))
    simpa using this
  exact ⟨rfl, ((Aft.refl _).alloc _).alloc _⟩
end Go.Proofs.YticjnndhpfdajaaGreat
/- grants.table, owners, boss, given. -/
namespace Go.Proofs.YticjnndhpfdajaaGreat
open Go.RowKit Go.Deep
set_option maxRecDepth 100000
set_option linter.unusedVariables false
theorem RowAt.up {w : World} {b : Nat} {xs : List Value} {o : Obj} (h : RowAt w b xs) : RowAt (w.alloc o) b xs := h.aft ((Aft.refl _).alloc o)
theorem box_at {w W : World} {c : List Value} {t : TypeId} {b : Nat} (h : Aft (w.alloc (.cells c.toArray t)) W) (hb : b = w.heap.size) : RowAt W b c := hb ▸ box_row2 h
structure CatAt (w : World) (c : Cat) (As : Option Addr) (caps : Nat) (At : Option Addr) (capt : Nat) (An : Option Addr) (capn : Nat) (Am : Option Addr) (capm : Nat) (Ag : Option Addr) (capg : Nat) : Prop where
  sch : SlAt w 2 SchR As caps c.objs.schemas
  tab : SlAt w 5 TabR At capt c.objs.tables
  nam : SlAt w 1 StrR An capn c.rols.names
  mem : SlAt w 2 MbrR Am capm c.rols.members
  gra : SlAt w 6 GraR Ag capg c.grants
theorem CatAt.aft {w w' : World} {c : Cat} {As : Option Addr} {caps : Nat} {At : Option Addr} {capt : Nat} {An : Option Addr} {capn : Nat} {Am : Option Addr} {capm : Nat} {Ag : Option Addr} {capg : Nat} (h : CatAt w c As caps At capt An capn Am capm Ag capg) (a : Aft w w') : CatAt w' c As caps At capt An capn Am capm Ag capg :=
  ⟨schs_aft a h.sch, tabs_aft a h.tab, strs_aft a h.nam, mbrs_aft a h.mem, gras_aft a h.gra⟩
theorem tabF_none {o : Objs} {s n : ByteArray} (h : tabAt o.tables s n < 0) : tabF o s n = zeroT := by unfold tabF; rw [if_pos h]
theorem tabF_some {o : Objs} {s n : ByteArray} {q : Nat} (hi : tabAt o.tables s n = q) (hq : q < o.tables.length) : tabF o s n = o.tables[q] := by
  unfold tabF
  rw [if_neg (by omega), hi]
  simp [List.getElem?_eq_getElem hq]
def TabP (w : World) (o : Objs) (s n : ByteArray) (e : Ending) (w' : World) : Prop :=
  ∃ (A2 : Option Addr) (c2 : Nat) (A3 : Option Addr) (c3 : Nat), e = .returned (.tuple #[.agg #[.string (tabF o s n).schema, .string (tabF o s n).name, .string (tabF o s n).owner, .slice A2 (tabF o s n).cols.length c2, .slice A3 (tabF o s n).rules.length c3], .bool (decide (0 ≤ tabAt o.tables s n))]) ∧ Aft w w'
set_option maxHeartbeats 1000000 in
theorem table1 (schema name owner : ByteArray) (A0 : Option Addr) (n0 c0 : Nat) (A1 : Option Addr) (n1 c1 : Nat) (s n : ByteArray) (b1 b2 : Nat) (w : World) (hb1 : b1 < w.heap.size) (hb2 : b2 < w.heap.size) (hc1 : w.cell? ⟨b1, 0, none⟩ = some (.string s)) (hc2 : w.cell? ⟨b2, 0, none⟩ = some (.string n)) :
    Calls Tryz.prog 177 #[.agg #[.string schema, .string name, .string owner, .slice A0 n0 c0, .slice A1 n1 c1], .pointer (some ⟨b1, 0, none⟩), .pointer (some ⟨b2, 0, none⟩)] w fun e w' => e = .returned (.bool (eqS schema s && eqS name n)) ∧ Aft w w' := by
  cases h1 : eqS schema s
  · have h1' : (schema.toList == s.toList) = false := h1
    clear h1
    go_enter Tryz.func177, Tryz.ntmps177
    go_wp2_with fail
    go_ret
    exact ⟨rfl, (Aft.refl _).alloc _⟩
  · have h1' : (schema.toList == s.toList) = true := h1
    clear h1
    go_enter Tryz.func177, Tryz.ntmps177
    go_wp2_with fail
    go_ret
    exact ⟨rfl, (Aft.refl _).alloc _⟩
set_option maxHeartbeats 4000000 in
theorem tableG (c : Cat) (As : Option Addr) (caps : Nat) (At : Option Addr) (capt : Nat) (An : Option Addr) (capn : Nat) (Am : Option Addr) (capm : Nat) (Ag : Option Addr) (capg : Nat) (s n : ByteArray) (w : World) (htab : SlAt w 5 TabR At capt c.objs.tables) :
    Calls Tryz.prog 117 #[.agg #[.int .i64 c.epoch, .int .i64 c.version, .slice As c.objs.schemas.length caps, .slice At c.objs.tables.length capt, .slice An c.rols.names.length capn, .slice Am c.rols.members.length capm, .slice Ag c.grants.length capg], .string s, .string n] w (TabP w c.objs s n) := by
  have hlen2 := htab.len
  have hent := enters (P := Tryz.prog) Tryz.func177 (by kernel_rfl) rfl
  obtain ⟨W, hW⟩ : ∃ W, W = (((w.alloc (.cells #[.int .i64 c.epoch, .int .i64 c.version, .slice As c.objs.schemas.length caps, .slice At c.objs.tables.length capt, .slice An c.rols.names.length capn, .slice Am c.rols.members.length capm, .slice Ag c.grants.length capg] 59)).alloc (.cells #[.string s] 9)).alloc (.cells #[.string n] 9)).alloc (.cells #[.string ⟨#[]⟩, .string ⟨#[]⟩, .string ⟨#[]⟩, .slice none 0 0, .slice none 0 0] 50) := ⟨_, rfl⟩
  have aW : Aft w W := by rw [hW]; exact ((((Aft.refl w).alloc _).alloc _).alloc _).alloc _
  have r0 : RowAt W (w.heap.size) [.int .i64 c.epoch, .int .i64 c.version, .slice As c.objs.schemas.length caps, .slice At c.objs.tables.length capt, .slice An c.rols.names.length capn, .slice Am c.rols.members.length capm, .slice Ag c.grants.length capg] := by rw [hW]; exact RowAt.up (RowAt.up (RowAt.up (box_at (Aft.refl _) (by simp))))
  have r1 : RowAt W (w.heap.size + 1) [.string s] := by rw [hW]; exact RowAt.up (RowAt.up (box_at (Aft.refl _) (by simp)))
  have r2 : RowAt W (w.heap.size + 1 + 1) [.string n] := by rw [hW]; exact RowAt.up (box_at (Aft.refl _) (by simp))
  have r3 : RowAt W (w.heap.size + 1 + 1 + 1) [.string ⟨#[]⟩, .string ⟨#[]⟩, .string ⟨#[]⟩, .slice none 0 0, .slice none 0 0] := by rw [hW]; exact box_at (Aft.refl _) (by simp)
  obtain ⟨i, hi⟩ : ∃ i, tabAt c.objs.tables s n = i := ⟨_, rfl⟩
  have hir : -1 ≤ i ∧ i < c.objs.tables.length := by rw [← hi]; exact idxP_range _ _
  have CI := Lib.hid (show ∀ w', Aft W w' → Calls Tryz.prog 166 #[.slice At c.objs.tables.length capt, .func (.func 177) #[] #[.pointer (some ⟨w.heap.size + 1, 0, none⟩), .pointer (some ⟨w.heap.size + 1 + 1, 0, none⟩)]] w' fun e w'' => e = .returned (.int .i64 i) ∧ Aft w' w'' from
    fun w' a => (idxTab At capt c.objs.tables 177 #[.pointer (some ⟨w.heap.size + 1, 0, none⟩), .pointer (some ⟨w.heap.size + 1 + 1, 0, none⟩)] (fun t => eqS t.schema s && eqS t.name n) w' (tabs_aft (aW.trans a) htab) hent (fun w'' b j hj e1 he => by
      obtain ⟨A2, cap2, A3, cap3, rfl, _⟩ := he
      have p1 := r1.aft (a.trans b)
      have p2 := r2.aft (a.trans b)
      exact table1 _ _ _ A2 _ cap2 A3 _ cap3 s n _ _ w'' p1.1 p2.1 (p1.cell (j := 0) rfl) (p2.cell (j := 0) rfl))).mono fun e w'' ⟨he, hw⟩ => ⟨he.trans (by rw [← hi]; rfl), hw⟩)
  have HI := Lib.hid hi
  have HT := Lib.hid htab
  have HAW := Lib.hid aW
  have HR0 := Lib.hid r0
  have HR3 := Lib.hid r3
  clear hi htab r0 r1 r2 r3 aW
  go_enter Tryz.func117, Tryz.ntmps117
  go_wp2_with fail
  rw [← hW]
  clear hW
  refine (CI.out W (Aft.refl W)).mono ?_
  rintro e w1 ⟨rfl, a1⟩
  have b3 := HR3.out.aft a1
  have d0 := b3.cell (j := 0) rfl
  have d1 := b3.cell (j := 1) rfl
  have d2 := b3.cell (j := 2) rfl
  have d3 := b3.cell (j := 3) rfl
  have d4 := b3.cell (j := 4) rfl
  have f0 := b3.2.2 0 (by simp)
  have f1 := b3.2.2 1 (by simp)
  have f2 := b3.2.2 2 (by simp)
  have f3 := b3.2.2 3 (by simp)
  have f4 := b3.2.2 4 (by simp)
  have z3 := b3.1
  have b0 := HR0.out.aft a1
  have c3 := b0.cell (j := 3) rfl
  have z0 := b0.1
  have HA1 := Lib.hid (HAW.out.trans a1)
  have HB3 := Lib.hid b3
  clear a1 b3 b0 CI
  by_cases h0 : 0 ≤ i
  · obtain ⟨q, rfl⟩ := Int.eq_ofNat_of_zero_le h0
    have hq : q < c.objs.tables.length := by omega
    obtain ⟨b, off, A2, cap2, A3, cap3, rfl, hb, t0, t1, t2, t3, t4, hcols, hruls, hss⟩ := tab_at (tabs_aft HA1.out HT.out) hq
    have HE := Lib.hid (tabF_some HI.out hq)
    obtain ⟨p, hp⟩ : ∃ p, c.objs.tables[q] = p := ⟨_, rfl⟩
    rw [hp] at t0 t1 t2 t3 t4 HE
    clear hp hcols hruls hss h0 hir
    go_wp2_with fail
    refine bodyPost_ret (results_cell_tmp (v := .agg #[.string p.schema, .string p.name, .string p.owner, .slice A2 p.cols.length cap2, .slice A3 p.rules.length cap3]) rfl _ rfl ?hl) rfl ?_
    case hl => exact lvTab_row (setT_row HB3.out rfl _ _ _ _ _)
    exact ⟨A2, cap2, A3, cap3, by rw [HE.out, HI.out]; simp, (setT_kb _ _ _ _ _ _ _).to_aft HA1.out (fun g hg e => by omega)⟩
  · have HE := Lib.hid (tabF_none (o := c.objs) (s := s) (n := n) (by rw [HI.out]; omega))
    have HD := Lib.hid (show decide (0 ≤ i) = false from decide_eq_false h0)
    have h0' : i < 0 := by omega
    clear h0 hir
    go_wp2_with fail
    refine bodyPost_ret (results_cell_tmp (v := .agg #[.string ⟨#[]⟩, .string ⟨#[]⟩, .string ⟨#[]⟩, .slice none 0 0, .slice none 0 0]) rfl _ rfl ?hl) rfl ?_
    case hl => exact lvTab_row (setT_row HB3.out rfl _ _ _ _ _)
    exact ⟨none, 0, none, 0, by rw [HE.out, HI.out, HD.out]; rfl, (setT_kb _ _ _ _ _ _ _).to_aft HA1.out (fun g hg e => by omega)⟩
set_option maxHeartbeats 1000000 in
theorem owners1 (An : Option Addr) (capn : Nat) (names : List ByteArray) (v0 v1 : Value) (owner : ByteArray) (v3 v4 : Value) (b0 : Nat) (w : World) (hb0 : b0 < w.heap.size) (hc0 : w.cell? ⟨b0, 4, none⟩ = some (.slice An names.length capn)) (hn : SlAt w 1 StrR An capn names) (s0 s1 : ByteArray) (A2 : Option Addr) (n2 c2 : Nat) (A3 : Option Addr) (n3 c3 : Nat) (e0 : v0 = .string s0) (e1 : v1 = .string s1) (e3 : v3 = .slice A2 n2 c2) (e4 : v4 = .slice A3 n3 c3) :
    Calls Tryz.prog 226 #[.agg #[v0, v1, .string owner, v3, v4], .pointer (some ⟨b0, 0, none⟩)] w fun e w' => e = .returned (.bool (!inB names owner)) ∧ Aft w w' := by
  subst e0 e1 e3 e4
  obtain ⟨i, hi⟩ : ∃ i, inB names owner = i := ⟨_, rfl⟩
  have C := Lib.hid (show ∀ w', Aft w w' → Calls Tryz.prog 95 #[.slice An names.length capn, .string owner] w' fun e w'' => e = .returned (.bool i) ∧ w' = w'' from fun w' a => hi ▸ scont8 An capn names owner w' (strs_aft a hn))
  rw [hi]
  clear hi hn
  go_enter Tryz.func226, Tryz.ntmps226
  go_wp2_with fail
  refine (C.out _ ((Aft.refl w).alloc _)).mono ?_
  rintro e w1 ⟨rfl, rfl⟩
  go_wp2_with fail
  go_ret
  exact ⟨rfl, (Aft.refl _).alloc _⟩
set_option maxHeartbeats 4000000 in
theorem ownersG (c : Cat) (As : Option Addr) (caps : Nat) (At : Option Addr) (capt : Nat) (An : Option Addr) (capn : Nat) (Am : Option Addr) (capm : Nat) (Ag : Option Addr) (capg : Nat) (w : World) (H : CatAt w c As caps At capt An capn Am capm Ag capg) :
    Calls Tryz.prog 172 #[.agg #[.int .i64 c.epoch, .int .i64 c.version, .slice As c.objs.schemas.length caps, .slice At c.objs.tables.length capt, .slice An c.rols.names.length capn, .slice Am c.rols.members.length capm, .slice Ag c.grants.length capg]] w fun e w' => e = .returned (.bool (ownersB c)) ∧ Aft w w' := by
  have hlen := H.sch.len
  have hent := enters (P := Tryz.prog) Tryz.func226 (by kernel_rfl) rfl
  obtain ⟨W, hW⟩ : ∃ W, W = w.alloc (.cells #[.int .i64 c.epoch, .int .i64 c.version, .slice As c.objs.schemas.length caps, .slice At c.objs.tables.length capt, .slice An c.rols.names.length capn, .slice Am c.rols.members.length capm, .slice Ag c.grants.length capg] 59) := ⟨_, rfl⟩
  have aW : Aft w W := by rw [hW]; exact (Aft.refl w).alloc _
  have r0 : RowAt W (w.heap.size) [.int .i64 c.epoch, .int .i64 c.version, .slice As c.objs.schemas.length caps, .slice At c.objs.tables.length capt, .slice An c.rols.names.length capn, .slice Am c.rols.members.length capm, .slice Ag c.grants.length capg] := by rw [hW]; exact box_at (Aft.refl _) (by simp)
  have HN := Lib.hid (show ∀ w', Aft W w' → ∀ s, Calls Tryz.prog 95 #[.slice An c.rols.names.length capn, .string s] w' fun e w'' => e = .returned (.bool (inB c.rols.names s)) ∧ w' = w'' from fun w' a s => scont8 An capn c.rols.names s w' (strs_aft (aW.trans a) H.nam))
  obtain ⟨q, hq⟩ : ∃ q, c.objs.tables.any (fun t => !inB c.rols.names t.owner) = q := ⟨_, rfl⟩
  have CT := Lib.hid (show ∀ w', Aft W w' → Calls Tryz.prog 225 #[.slice At c.objs.tables.length capt, .func (.func 226) #[] #[.pointer (some ⟨w.heap.size, 0, none⟩)]] w' fun e w'' => e = .returned (.bool q) ∧ Aft w' w'' from
    fun w' a => (contTab At capt c.objs.tables 226 #[.pointer (some ⟨w.heap.size, 0, none⟩)] (fun t => !inB c.rols.names t.owner) w' (tabs_aft (aW.trans a) H.tab) hent (fun w'' b j hj e1 he => by
      obtain ⟨A2, cap2, A3, cap3, rfl, _⟩ := he
      have p0 := r0.aft (a.trans b)
      exact owners1 An capn c.rols.names _ _ _ _ _ _ w'' p0.1 (p0.cell (j := 4) rfl) (strs_aft ((aW.trans a).trans b) H.nam) _ _ _ _ _ _ _ _ rfl rfl rfl rfl)).mono fun e w'' ⟨he, hw⟩ => ⟨he.trans (by rw [hq]), hw⟩)
  have HO := Lib.hid (show ownersB c = (c.objs.schemas.all (fun s => inB c.rols.names s.owner) && !q) from by
    unfold ownersB
    rw [← hq, List.all_eq_not_any_not (l := c.objs.tables)])
  have HS := Lib.hid H.sch
  have HAW := Lib.hid aW
  have HR0 := Lib.hid r0
  clear H hq r0 aW
  go_enter Tryz.func172, Tryz.ntmps172
  go_wp2_with fail
  rw [← hW]
  go_loopw [9] (fun i wr => ∃ k : Nat, k ≤ c.objs.schemas.length ∧ i = .int .i64 k ∧ Aft W wr ∧ ∀ j, j < k → ∀ (hj : j < c.objs.schemas.length), inB c.rols.names c.objs.schemas[j].owner = true) (fun i _ => c.objs.schemas.length - (intOf i).toNat)
  case atStart => exact ⟨0, Nat.zero_le _, rfl, Aft.refl _, fun j hj => absurd hj (Nat.not_lt_zero j)⟩
  case round =>
    clear hW
    obtain ⟨k, hk, rfl, ha, hp⟩ := hrel
    have HA := Lib.hid ha
    have HP := Lib.hid hp
    have p0 := HR0.out.aft ha
    have c3 := p0.cell (j := 3) rfl
    have c4 := p0.cell (j := 4) rfl
    have z0 := p0.1
    clear ha hp p0
    by_cases hlt : k < c.objs.schemas.length
    · obtain ⟨b, off, rfl, hb, t0, t1, s0, s1⟩ := sch_at (schs_aft (HAW.out.trans HA.out) HS.out) hlt
      obtain ⟨p, hpp⟩ : ∃ p, c.objs.schemas[k] = p := ⟨_, rfl⟩
      rw [hpp] at t0 t1 s0 s1
      have aX : Aft wr (wr.alloc (.cells #[.string p.name, .string p.owner] 99)) := (Aft.refl _).alloc _
      have C := Lib.hid (HN.out _ (HA.out.trans aX) p.owner)
      have HAX := Lib.hid (HA.out.trans aX)
      obtain ⟨i, hi⟩ : ∃ i, inB c.rols.names p.owner = i := ⟨_, rfl⟩
      rw [hi] at C
      have HI := Lib.hid (show inB c.rols.names c.objs.schemas[k].owner = i by rw [hpp]; exact hi)
      clear hi hpp aX
      cases i
      · have HF := Lib.hid (show ownersB c = false by rw [HO.out, all_false _ _ k hlt HI.out]; rfl)
        go_wp2_with fail
        refine C.out.mono ?_
        rintro e w1 ⟨rfl, rfl⟩
        go_wp2_with fail
        go_ret
        exact ⟨by rw [HF.out]; rfl, HAW.out.trans HAX.out⟩
      · go_wp2_with fail
        refine C.out.mono ?_
        rintro e w1 ⟨rfl, rfl⟩
        go_wp2_with fail
        go_roundw
        case rel => exact ⟨k + 1, by omega, by go_num, HAX.out, ext_lt (p := fun j => ∀ (hj : j < c.objs.schemas.length), inB c.rols.names c.objs.schemas[j].owner = true) HP.out (fun _ => HI.out)⟩
        case measure => simp [intOf]; omega
    · have HF := Lib.hid (show ownersB c = !q by rw [HO.out, all_true _ _ fun j hj => HP.out j (by omega) hj]; rfl)
      have C := Lib.hid (CT.out wr HA.out)
      go_wp2_with fail
      refine C.out.mono ?_
      rintro e w1 ⟨rfl, a1⟩
      have HA1 := Lib.hid (HAW.out.trans (HA.out.trans a1))
      clear a1
      go_wp2_with fail
      go_ret
      exact ⟨by rw [HF.out]; rfl, HA1.out⟩
end Go.Proofs.YticjnndhpfdajaaGreat
