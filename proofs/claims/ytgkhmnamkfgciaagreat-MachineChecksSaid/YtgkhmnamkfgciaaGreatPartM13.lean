/- Contracts of the program, part 13. -/
import Derived.Deep.AppendLies
import Derived.Deep.DeepMust
import Derived.OwnWalk
import Derived.Laws.AppendOwn
import Derived.ProofKit
import Derived.OpenShut
import Derived.Deep.Slices
import Derived.ChangeOld
import Derived.SizedLaws
import Derived.WalkKit
import Derived.WalkSpells
import Derived.WalkLawsBesides
import Derived.Lib.Hide
import Derived.Deep.QuietTactic
import Derived.BigQuiet
import Derived.Below
import Derived.Deep.Draws
import Derived.StillTailTactics
import Derived.Laws.Cells
import Derived.Laws.IdiomCopy
import Derived.Test.YtgkhmnamkfgciaaGreatRows
import Derived.Lib.Walk
import Derived.Laws.EntriesVeiled
import Derived.Maps.Own
import Derived.Maps.Views
import Derived.Deep.Upon
import Derived.OneCell
import Derived.OrdersHeld
import Derived.Deep.RegionHeld3
import Derived.IntWalk
import Derived.Lib.Bytealg
import Derived.Lib.SliceRun
import Derived.Deep.RegionLaw
import Derived.Lib.AppendZerosOnto
import Derived.Lib.Overlaps
import Derived.Shelf.SlSortCmp.WholeK
import Derived.Laws.StructEq
import Derived.WalkMore
import Derived.WideKeyEntry
import Derived.DeepKeys3
import Derived.ChangeKeys
import Derived.Test.YtgkhmnamkfgciaaGreatPartM1
import Derived.Test.YtgkhmnamkfgciaaGreatPartM2
import Derived.Test.YtgkhmnamkfgciaaGreatPartM3
import Derived.Test.YtgkhmnamkfgciaaGreatPartM4
import Derived.Test.YtgkhmnamkfgciaaGreatPartM5
import Derived.Test.YtgkhmnamkfgciaaGreatPartM6
import Derived.Test.YtgkhmnamkfgciaaGreatPartM7
import Derived.Test.YtgkhmnamkfgciaaGreatPartM8
import Derived.Test.YtgkhmnamkfgciaaGreatPartM9
import Derived.Test.YtgkhmnamkfgciaaGreatPartM10
import Derived.Test.YtgkhmnamkfgciaaGreatPartM11
import Derived.Test.YtgkhmnamkfgciaaGreatPartM12
namespace Go.Proofs.YtgkhmnamkfgciaaGreat
open Go.RowKit Go.Deep
set_option maxRecDepth 100000
set_option linter.unusedVariables false
theorem or2_ne (x y : Int) (h : x ≠ 0) : or2 x y = x := by
  unfold or2
  rw [if_neg (by simpa using h)]
theorem or2_eq (x y : Int) (h : x = 0) : or2 x y = y := by
  unfold or2
  rw [if_pos (by simpa using h)]
theorem cmpS_ne {a b : ByteArray} (h : eqS a b = false) : cmpS a b ≠ 0 := fun e => by rw [(cmpS_eq _ _).1 e] at h; cases h
theorem cmpI_lt (a b : Int) (h : a ≠ b) : decide (cmpI a b < 0) = decide (a < b) := by
  unfold cmpI
  by_cases h1 : a < b
  · rw [if_pos h1, decide_eq_true h1]; rfl
  · rw [if_neg h1, decide_eq_false h1, if_pos (by omega)]; rfl
set_option maxHeartbeats 4000000 in
theorem rless (a b : Gra) (w : World) :
    Calls Tryz.prog 198 #[.agg #[.string a.schema, .string a.table, .int .i64 a.right, .string a.giver, .string a.to, .bool a.opt], .agg #[.string b.schema, .string b.table, .int .i64 b.right, .string b.giver, .string b.to, .bool b.opt]] w fun e w' => e = .returned (.bool (decide (cmpG a b < 0))) ∧ Aft w w' := by
  obtain ⟨s, t, r, g, o, p⟩ := a
  obtain ⟨s2, t2, r2, g2, o2, p2⟩ := b
  dsimp only
  have HE : cmpG ⟨s, t, r, g, o, p⟩ ⟨s2, t2, r2, g2, o2, p2⟩ = or2 (cmpS s s2) (or2 (cmpS t t2) (or2 (cmpI r r2) (or2 (cmpS g g2) (cmpS o o2)))) := rfl
  rw [HE]
  clear HE
  cases e0 : eqS s s2
  · have HE := Lib.hid (show decide (or2 (cmpS s s2) (or2 (cmpS t t2) (or2 (cmpI r r2) (or2 (cmpS g g2) (cmpS o o2)))) < 0) = ltS s s2 by rw [or2_ne _ _ (cmpS_ne e0), cmpS_lt])
    have e0' : (s.toList == s2.toList) = false := e0
    go_enter Tryz.func198, Tryz.ntmps198
    go_wp2_with fail
    go_ret
    exact ⟨by rw [HE.out]; rfl, ((Aft.refl _).alloc _).alloc _⟩
  · have e0' : (s.toList == s2.toList) = true := e0
    cases e1 : eqS t t2
    · have HE := Lib.hid (show decide (or2 (cmpS s s2) (or2 (cmpS t t2) (or2 (cmpI r r2) (or2 (cmpS g g2) (cmpS o o2)))) < 0) = ltS t t2 by rw [or2_eq _ _ ((cmpS_eq _ _).2 e0), or2_ne _ _ (cmpS_ne e1), cmpS_lt])
      have e1' : (t.toList == t2.toList) = false := e1
      go_enter Tryz.func198, Tryz.ntmps198
      go_wp2_with fail
      go_ret
      exact ⟨by rw [HE.out]; rfl, ((Aft.refl _).alloc _).alloc _⟩
    · have e1' : (t.toList == t2.toList) = true := e1
      cases e2 : (r == r2)
      · have n2 : r ≠ r2 := by simpa using e2
        have HE := Lib.hid (show decide (or2 (cmpS s s2) (or2 (cmpS t t2) (or2 (cmpI r r2) (or2 (cmpS g g2) (cmpS o o2)))) < 0) = decide (r < r2) by rw [or2_eq _ _ ((cmpS_eq _ _).2 e0), or2_eq _ _ ((cmpS_eq _ _).2 e1), or2_ne _ _ (fun h => n2 (by simpa using (cmpI_zero _ _).1 h)), cmpI_lt _ _ n2])
        go_enter Tryz.func198, Tryz.ntmps198
        go_wp2_with fail
        go_ret
        exact ⟨by rw [HE.out]; rfl, ((Aft.refl _).alloc _).alloc _⟩
      · cases e3 : eqS g g2
        · have HE := Lib.hid (show decide (or2 (cmpS s s2) (or2 (cmpS t t2) (or2 (cmpI r r2) (or2 (cmpS g g2) (cmpS o o2)))) < 0) = ltS g g2 by rw [or2_eq _ _ ((cmpS_eq _ _).2 e0), or2_eq _ _ ((cmpS_eq _ _).2 e1), or2_eq _ _ ((cmpI_zero _ _).2 e2), or2_ne _ _ (cmpS_ne e3), cmpS_lt])
          have e3' : (g.toList == g2.toList) = false := e3
          go_enter Tryz.func198, Tryz.ntmps198
          go_wp2_with fail
          go_ret
          exact ⟨by rw [HE.out]; rfl, ((Aft.refl _).alloc _).alloc _⟩
        · have e3' : (g.toList == g2.toList) = true := e3
          have HE := Lib.hid (show decide (or2 (cmpS s s2) (or2 (cmpS t t2) (or2 (cmpI r r2) (or2 (cmpS g g2) (cmpS o o2)))) < 0) = ltS o o2 by rw [or2_eq _ _ ((cmpS_eq _ _).2 e0), or2_eq _ _ ((cmpS_eq _ _).2 e1), or2_eq _ _ ((cmpI_zero _ _).2 e2), or2_eq _ _ ((cmpS_eq _ _).2 e3), cmpS_lt])
          go_enter Tryz.func198, Tryz.ntmps198
          go_wp2_with fail
          go_ret
          exact ⟨by rw [HE.out]; rfl, ((Aft.refl _).alloc _).alloc _⟩
theorem five_less (a b : Gra) : fiveE a b = (!decide (cmpG a b < 0) && !decide (cmpG b a < 0)) := by
  have h := cmpG_zero a b
  have h2 := ordG.anti a b
  cases h3 : fiveE a b
  · rw [h3] at h
    have : cmpG a b ≠ 0 := fun e => by have := h.1 e; cases this
    by_cases h4 : cmpG a b < 0
    · rw [decide_eq_true h4]; rfl
    · rw [decide_eq_true (show cmpG b a < 0 by omega)]; simp
  · have := h.2 h3
    rw [decide_eq_false (by omega), decide_eq_false (by omega)]; rfl
set_option maxHeartbeats 2000000 in
theorem rfive (a b : Gra) (w : World) :
    Calls Tryz.prog 197 #[.agg #[.string a.schema, .string a.table, .int .i64 a.right, .string a.giver, .string a.to, .bool a.opt], .agg #[.string b.schema, .string b.table, .int .i64 b.right, .string b.giver, .string b.to, .bool b.opt]] w fun e w' => e = .returned (.bool (fiveE a b)) ∧ Aft w w' := by
  obtain ⟨W, hW⟩ : ∃ W, W = (w.alloc (.cells #[.string a.schema, .string a.table, .int .i64 a.right, .string a.giver, .string a.to, .bool a.opt] 106)).alloc (.cells #[.string b.schema, .string b.table, .int .i64 b.right, .string b.giver, .string b.to, .bool b.opt] 106) := ⟨_, rfl⟩
  have aW : Aft w W := by rw [hW]; exact ((Aft.refl w).alloc _).alloc _
  have r0 : RowAt W (w.heap.size) [.string a.schema, .string a.table, .int .i64 a.right, .string a.giver, .string a.to, .bool a.opt] := by rw [hW]; exact RowAt.up (box_at (Aft.refl _) (by simp))
  have r1 : RowAt W (w.heap.size + 1) [.string b.schema, .string b.table, .int .i64 b.right, .string b.giver, .string b.to, .bool b.opt] := by rw [hW]; exact box_at (Aft.refl _) (by simp)
  obtain ⟨l1, h1⟩ : ∃ b1, decide (cmpG a b < 0) = b1 := ⟨_, rfl⟩
  obtain ⟨l2, h2⟩ : ∃ b1, decide (cmpG b a < 0) = b1 := ⟨_, rfl⟩
  have HF := Lib.hid (show fiveE a b = (!l1 && !l2) by rw [five_less, h1, h2])
  have C1 := Lib.hid (show ∀ V, Calls Tryz.prog 198 #[.agg #[.string a.schema, .string a.table, .int .i64 a.right, .string a.giver, .string a.to, .bool a.opt], .agg #[.string b.schema, .string b.table, .int .i64 b.right, .string b.giver, .string b.to, .bool b.opt]] V fun e w'' => e = .returned (.bool l1) ∧ Aft V w'' from fun V => h1 ▸ rless a b V)
  have C2 := Lib.hid (show ∀ V, Calls Tryz.prog 198 #[.agg #[.string b.schema, .string b.table, .int .i64 b.right, .string b.giver, .string b.to, .bool b.opt], .agg #[.string a.schema, .string a.table, .int .i64 a.right, .string a.giver, .string a.to, .bool a.opt]] V fun e w'' => e = .returned (.bool l2) ∧ Aft V w'' from fun V => h2 ▸ rless b a V)
  have KS := Lib.hid (And.intro r0 (And.intro r1 aW))
  clear h1 h2 r0 r1 aW
  go_enter Tryz.func197, Tryz.ntmps197
  go_wp2_with fail
  rw [← hW]
  clear hW
  refine (C1.out W).mono ?_
  rintro e w1 ⟨rfl, a1⟩
  have A1 := Lib.hid (KS.out.2.2.trans a1)
  have p0 := KS.out.1.aft a1
  have p1 := KS.out.2.1.aft a1
  cases l1
  case true =>
    clear p0 p1
    go_wp2_with fail
    go_ret
    exact ⟨by rw [HF.out]; rfl, A1.out⟩
  obtain ⟨x0, x1, x2, x3, x4, x5, xz⟩ := rowF6 p0
  obtain ⟨y0, y1, y2, y3, y4, y5, yz⟩ := rowF6 p1
  clear p0 p1 a1
  go_wp2_with fail
  refine (C2.out w1).mono ?_
  rintro e w2 ⟨rfl, a2⟩
  have A2 := Lib.hid (A1.out.trans a2)
  clear a2
  cases l2 <;> (go_wp2_with fail; go_ret; exact ⟨by rw [HF.out]; rfl, A2.out⟩)
theorem rkind (x : Int) (w : World) : Calls Tryz.prog 195 #[.int .i64 x] w fun e w' => e = .returned (.bool (kindB x)) ∧ w = w' := by
  have HK := Lib.hid (show kindB x = (x == 1 || x == 2) from rfl)
  go_enter Tryz.func195, Tryz.ntmps195
  cases h1 : (x == 1) <;> cases h2 : (x == 2)
  all_goals
    rw [h1, h2] at HK
    go_wp2_with fail
    go_ret
    exact ⟨by rw [HK.out]; rfl, rfl⟩
theorem any_true {α : Type} (p : α → Bool) (l : List α) (k : Nat) (hk : k < l.length) (h : p l[k] = true) : l.any p = true := List.any_eq_true.2 ⟨_, List.getElem_mem hk, h⟩
theorem any_false {α : Type} (p : α → Bool) (l : List α) (h : ∀ k (hk : k < l.length), p l[k] = false) : l.any p = false := by
  rw [List.any_eq_false]
  intro x hx
  obtain ⟨k, hk, rfl⟩ := List.getElem_of_mem hx
  rw [h k hk]; decide
set_option maxHeartbeats 4000000 in
theorem rin9 (l : List Gra) (A : Option Addr) (cap : Nat) (g : Gra) (w : World) (h : SlAt w 6 GraR A cap l) :
    Calls Tryz.prog 123 #[.slice A l.length cap, .agg #[.string g.schema, .string g.table, .int .i64 g.right, .string g.giver, .string g.to, .bool g.opt]] w fun e w' => e = .returned (.bool (inG l g)) ∧ Aft w w' := by
  have hlen := h.len
  obtain ⟨W, hW⟩ : ∃ W, W = w.alloc (.cells #[.string g.schema, .string g.table, .int .i64 g.right, .string g.giver, .string g.to, .bool g.opt] 106) := ⟨_, rfl⟩
  have aW : Aft w W := by rw [hW]; exact (Aft.refl w).alloc _
  have r0 : RowAt W (w.heap.size) [.string g.schema, .string g.table, .int .i64 g.right, .string g.giver, .string g.to, .bool g.opt] := by rw [hW]; exact box_at (Aft.refl _) (by simp)
  have KS := Lib.hid (And.intro r0 aW)
  have HL := Lib.hid (gras_aft aW h)
  clear r0 aW h
  go_enter Tryz.func123, Tryz.ntmps123
  go_wp2_with fail
  rw [← hW]
  go_loopw [5] (fun i wr => ∃ k : Nat, k ≤ l.length ∧ i = .int .i64 k ∧ Aft W wr ∧ ∀ j, j < k → ∀ (hj : j < l.length), fiveE l[j] g = false) (fun i _ => l.length - (intOf i).toNat)
  case atStart => exact ⟨0, Nat.zero_le _, rfl, Aft.refl _, fun j hj => absurd hj (Nat.not_lt_zero j)⟩
  case round =>
    clear hW
    obtain ⟨k, hk, rfl, ha, hp⟩ := hrel
    have HA := Lib.hid ha
    have HP := Lib.hid hp
    by_cases hlt : k < l.length
    · obtain ⟨b, off, rfl, hb, t0, t1, t2, t3, t4, t5, _⟩ := gra_at (gras_aft ha HL.out) hlt
      obtain ⟨x, hx⟩ : ∃ x, l[k] = x := ⟨_, rfl⟩
      rw [hx] at t0 t1 t2 t3 t4 t5
      have p0 := KS.out.1.aft ha
      obtain ⟨x0, x1, x2, x3, x4, x5, xz⟩ := rowF6 p0
      obtain ⟨q, hq⟩ : ∃ q, fiveE x g = q := ⟨_, rfl⟩
      have HQ := Lib.hid (show fiveE l[k] g = q by rw [hx]; exact hq)
      have C := Lib.hid (show ∀ y : Lat wr, Calls Tryz.prog 197 #[.agg #[.string x.schema, .string x.table, .int .i64 x.right, .string x.giver, .string x.to, .bool x.opt], .agg #[.string g.schema, .string g.table, .int .i64 g.right, .string g.giver, .string g.to, .bool g.opt]] (lat wr y) fun e w'' => e = .returned (.bool q) ∧ Aft (lat wr y) w'' from fun y => hq ▸ rfive x g _)
      clear ha hp p0 hx hq
      cases q
      all_goals
        go_wp2_with fail
        refine wp_region_lat (by kernel_rfl) (by kernel_rfl) ?_
        repeat (go_big_quiet_step ((go_at_call 197; exact Calls.lat_of (C.out _))))
        refine wpQuiet_nil ?_
        intro _ hw'
        obtain ⟨y, hw''⟩ := hw'
        subst hw''
      · go_wp2_with fail
        go_roundw
        case rel => exact ⟨k + 1, by omega, by go_num, HA.out.lat y, ext_lt (p := fun j => ∀ (hj : j < l.length), fiveE l[j] g = false) HP.out (fun _ => HQ.out)⟩
        case measure => simp [intOf]; omega
      · go_wp2_with fail
        go_ret
        exact ⟨by rw [show inG l g = true from any_true _ l k hlt HQ.out]; rfl, KS.out.2.trans (HA.out.lat y)⟩
    · clear ha hp
      go_wp2_with fail
      go_ret
      exact ⟨by rw [show inG l g = false from any_false _ l fun j hj => HP.out j (by omega) hj]; rfl, KS.out.2.trans HA.out⟩
/-- the same grants -/
def eqGs : List Gra → List Gra → Bool
  | [], [] => true
  | a :: l, b :: m => graE a b && eqGs l m
  | _, _ => false
theorem eqGs_iff : ∀ (l m : List Gra), eqGs l m = true ↔ l = m
  | [], [] => by simp [eqGs]
  | [], b :: m => by simp [eqGs]
  | a :: l, [] => by simp [eqGs]
  | a :: l, b :: m => by rw [eqGs, Bool.and_eq_true, graE_iff, eqGs_iff l m, List.cons.injEq]
theorem eqGs_no (l m : List Gra) (k : Nat) (h1 : k < l.length) (h2 : k < m.length) (h : graE l[k] m[k] = false) : eqGs l m = false := by
  rw [Bool.eq_false_iff]
  intro e
  have := (eqGs_iff l m).1 e
  subst this
  rw [(graE_iff _ _).2 rfl] at h; cases h
theorem eqGs_len (l m : List Gra) (h : ¬ l.length = m.length) : eqGs l m = false := by
  rw [Bool.eq_false_iff]
  exact fun e => h (by rw [(eqGs_iff l m).1 e])
theorem eqGs_yes (l m : List Gra) (hl : l.length = m.length) (h : ∀ k (h1 : k < l.length) (h2 : k < m.length), graE l[k] m[k] = true) : eqGs l m = true :=
  (eqGs_iff l m).2 (List.ext_getElem hl fun k h1 h2 => (graE_iff _ _).1 (h k h1 h2))
set_option maxHeartbeats 4000000 in
theorem rgrants (l m : List Gra) (A : Option Addr) (cap : Nat) (B : Option Addr) (capB : Nat) (w : World) (h : SlAt w 6 GraR A cap l) (h2 : SlAt w 6 GraR B capB m) :
    Calls Tryz.prog 71 #[.slice A l.length cap, .slice B m.length capB] w fun e w' => e = .returned (.bool (eqGs l m)) ∧ Aft w w' := by
  have hlen := h.len
  have hlen2 := h2.len
  have HL := Lib.hid (And.intro h h2)
  go_enter Tryz.func71, Tryz.ntmps71
  by_cases hlm : l.length = m.length
  case neg =>
    have HN := Lib.hid (eqGs_len l m hlm)
    have hne : ((l.length : Int) != (m.length : Int)) = true := by simp; omega
    clear h h2
    go_wp2_with fail
    go_ret
    exact ⟨by rw [HN.out]; rfl, Aft.refl _⟩
  have hne : ((l.length : Int) != (m.length : Int)) = false := by simp; omega
  have HLM := Lib.hid hlm
  have hle1 : ∀ k : Nat, k < l.length → k < m.length := fun k hk => by omega
  have hml := Lib.hid hle1
  clear hlm h h2 hle1
  go_wp2_with fail
  go_loopw [5] (fun i wr => ∃ k : Nat, k ≤ l.length ∧ i = .int .i64 k ∧ Aft w wr ∧ ∀ j, j < k → ∀ (h1 : j < l.length) (h2 : j < m.length), graE l[j] m[j] = true) (fun i _ => l.length - (intOf i).toNat)
  case atStart => exact ⟨0, Nat.zero_le _, rfl, Aft.refl _, fun j hj => absurd hj (Nat.not_lt_zero j)⟩
  case round =>
    obtain ⟨k, hk, rfl, ha, hp⟩ := hrel
    have HA := Lib.hid ha
    have HP := Lib.hid hp
    by_cases hlt : k < l.length
    · have hlt2 := hml.out k hlt
      obtain ⟨b, off, rfl, hb, t0, t1, t2, t3, t4, t5, _⟩ := gra_at (gras_aft ha HL.out.1) hlt
      obtain ⟨b2, off2, rfl, hb2, s0, s1, s2, s3, s4, s5, _⟩ := gra_at (gras_aft ha HL.out.2) hlt2
      obtain ⟨x, hx⟩ : ∃ x, l[k] = x := ⟨_, rfl⟩
      obtain ⟨y, hy⟩ : ∃ y, m[k] = y := ⟨_, rfl⟩
      rw [hx] at t0 t1 t2 t3 t4 t5
      rw [hy] at s0 s1 s2 s3 s4 s5
      obtain ⟨q, hq⟩ : ∃ q, gra6 x.schema x.table x.right x.giver x.to x.opt y.schema y.table y.right y.giver y.to y.opt = q := ⟨_, rfl⟩
      have HQ := Lib.hid (show graE l[k] m[k] = q by rw [hx, hy]; exact hq)
      clear ha hp hx hy
      cases q
      all_goals
        go_wp2_with fail
        refine wp_region_lat (by kernel_rfl) (by kernel_rfl) ?_
        repeat (go_big_quiet_step (fail))
        refine wpQuiet_nil ?_
        intro _ hw'
        obtain ⟨y', hw''⟩ := hw'
        subst hw''
      · go_wp2_with fail
        go_ret
        exact ⟨by rw [eqGs_no l m k hlt hlt2 HQ.out]; rfl, HA.out.lat y'⟩
      · go_wp2_with fail
        go_roundw
        case rel => exact ⟨k + 1, by omega, by go_num, HA.out.lat y', ext_lt (p := fun j => ∀ (h1 : j < l.length) (h2 : j < m.length), graE l[j] m[j] = true) HP.out (fun _ _ => HQ.out)⟩
        case measure => simp [intOf]; omega
    · clear ha hp
      go_wp2_with fail
      go_ret
      exact ⟨by rw [eqGs_yes l m HLM.out fun j h1 h2 => HP.out j (by omega) h1 h2]; rfl, HA.out⟩
end Go.Proofs.YtgkhmnamkfgciaaGreat

namespace Go.Proofs.YtgkhmnamkfgciaaGreat
open Go.RowKit
set_option maxRecDepth 100000
set_option linter.unusedVariables false
@[go_sem ↓] theorem run_neqCol_self (w : World) (s : ByteArray) (k : Int) (b : Bool) :
    (binOp .neq 109 (.agg #[.string s, .int .i64 k, .bool b]) (.agg #[.string s, .int .i64 k, .bool b])).run Tryz.prog w = .ok (.bool false) w := by
  rw [run_neq_struct]; go_simp; try rfl
@[go_sem ↓] theorem run_neqSch_self (w : World) (s t : ByteArray) :
    (binOp .neq 96 (.agg #[.string s, .string t]) (.agg #[.string s, .string t])).run Tryz.prog w = .ok (.bool false) w := by
  rw [run_neq_struct]; go_simp; try rfl
set_option maxHeartbeats 8000000 in
theorem sameT_any (t : Tab) (A : Option Addr) (cap : Nat) (A2 : Option Addr) (cap2 : Nat) (B : Option Addr) (capB : Nat) (B2 : Option Addr) (capB2 : Nat) (w : World) (h1 : SlAt w 3 ColR A cap t.cols) (h2 : SlAt w 8 RulR A2 cap2 t.rules) (h3 : SlAt w 3 ColR B capB t.cols) (h4 : SlAt w 8 RulR B2 capB2 t.rules) :
    Calls Tryz.prog 126 #[.agg #[.string t.schema, .string t.name, .string t.owner, .slice A t.cols.length cap, .slice A2 t.rules.length cap2], .agg #[.string t.schema, .string t.name, .string t.owner, .slice B t.cols.length capB, .slice B2 t.rules.length capB2]] w
      fun e w' => e = .returned (.bool true) ∧ Aft w w' := by
  have hlen := h1.len
  have hlen2 := h2.len
  obtain ⟨W, hW⟩ : ∃ W, W = (w.alloc (.cells #[.string t.schema, .string t.name, .string t.owner, .slice A t.cols.length cap, .slice A2 t.rules.length cap2] 86)).alloc (.cells #[.string t.schema, .string t.name, .string t.owner, .slice B t.cols.length capB, .slice B2 t.rules.length capB2] 86) := ⟨_, rfl⟩
  have aW : Aft w W := by rw [hW]; exact ((Aft.refl w).alloc _).alloc _
  have hbb := aft_box2 (w := w) (w1 := W) (by rw [← hW]; exact Aft.refl W)
  obtain ⟨ha0, hb0, hz, _⟩ := hbb
  have HAW := Lib.hid aW
  go_enter Tryz.func126, Tryz.ntmps126
  go_wp2_with fail
  rw [← hW]
  clear hW
  go_loopw [5] (fun i wr => ∃ k : Nat, k ≤ t.cols.length ∧ i = .int .i64 k ∧ Aft W wr) (fun i _ => t.cols.length - (intOf i).toNat)
  case atStart => exact ⟨0, Nat.zero_le _, rfl, Aft.refl _⟩
  case round =>
    obtain ⟨k, hk, rfl, ha⟩ := hrel
    have x3 := ha.cell_kept (show W.cell? ⟨w.heap.size, 3, none⟩ = some (.slice A t.cols.length cap) from ha0 3)
    have y3 := ha.cell_kept (show W.cell? ⟨w.heap.size + 1, 3, none⟩ = some (.slice B t.cols.length capB) from hb0 3)
    have HAR := Lib.hid ha
    by_cases hlt : k < t.cols.length
    · obtain ⟨b, off, rfl, hb, c0, c1, c2, _⟩ := col_at (cols_aft (HAW.out.trans ha) h1) hlt
      obtain ⟨b2, off2, rfl, hb2, d0, d1, d2, _⟩ := col_at (cols_aft (HAW.out.trans ha) h3) hlt
      have lx := World.block_lt_of_cell? _ _ x3
      have ly := World.block_lt_of_cell? _ _ y3
      clear ha
      go_wp2_with fail
      refine wp_region_lat (by kernel_rfl) (by kernel_rfl) ?_
      repeat (go_big_quiet_step (fail))
      refine wpQuiet_nil ?_
      intro _ hw'
      obtain ⟨x, hw''⟩ := hw'
      subst hw''
      go_wp2_with fail
      go_roundw
      case rel => exact ⟨k + 1, by omega, by go_num, HAR.out.lat x⟩
      case measure => simp [intOf]; omega
    go_wp2_with fail
    go_loopw [6] (fun i wrr => ∃ k : Nat, k ≤ t.rules.length ∧ i = .int .i64 k ∧ Aft W wrr) (fun i _ => t.rules.length - (intOf i).toNat)
    case atStart => exact ⟨0, Nat.zero_le _, rfl, ha⟩
    case round =>
      clear ha HAR x3 y3
      obtain ⟨k2, hk2, rfl, ha⟩ := hrel
      have x4 := ha.cell_kept (show W.cell? ⟨w.heap.size, 4, none⟩ = some (.slice A2 t.rules.length cap2) from ha0 4)
      have y4 := ha.cell_kept (show W.cell? ⟨w.heap.size + 1, 4, none⟩ = some (.slice B2 t.rules.length capB2) from hb0 4)
      have HAR := Lib.hid ha
      by_cases hlt2 : k2 < t.rules.length
      · obtain ⟨b, off, D, capD, rfl, hb, c0, c1, c2, c3, c4, c5, c6, c7, hcs, _⟩ := rul_at (ruls_aft (HAW.out.trans ha) h2) hlt2
        obtain ⟨b2, off2, E, capE, rfl, hb2, d0, d1, d2, d3, d4, d5, d6, d7, hds, _⟩ := rul_at (ruls_aft (HAW.out.trans ha) h4) hlt2
        obtain ⟨p, hpp⟩ : ∃ p, t.rules[k2] = p := ⟨_, rfl⟩
        rw [hpp] at c0 c1 c2 c3 c4 c5 c6 c7 hcs d0 d1 d2 d3 d4 d5 d6 d7 hds
        have hlp := hcs.len
        have lx : w.heap.size < wr.heap.size := World.block_lt_of_cell? _ _ x4
        have ly : w.heap.size + 1 < wr.heap.size := World.block_lt_of_cell? _ _ y4
        have lyy : w.heap.size + 1 < wr.heap.size + 1 := by omega
        have lb2 : b2 < wr.heap.size + 1 := by omega
        obtain ⟨V, hV⟩ : ∃ V, V = (wr.alloc (.cells #[.string p.name, .int .i64 p.kind, .slice D p.cols.length capD, .int .i64 p.low, .int .i64 p.high, .string p.schema, .string p.table, .string p.key] 42)).alloc (.cells #[.string p.name, .int .i64 p.kind, .slice E p.cols.length capE, .int .i64 p.low, .int .i64 p.high, .string p.schema, .string p.table, .string p.key] 42) := ⟨_, rfl⟩
        have aV : Aft wr V := by rw [hV]; exact ((Aft.refl wr).alloc _).alloc _
        obtain ⟨va0, vb0, vz, _⟩ := aft_box2 (w := wr) (w1 := V) (by rw [← hV]; exact Aft.refl V)
        have HAV := Lib.hid (HAR.out.trans aV)
        have hcsV := strs_aft aV hcs
        have hdsV := strs_aft aV hds
        obtain ⟨n1, hn1⟩ : ∃ n, n = wr.heap.size := ⟨_, rfl⟩
        have l1 : wr.heap.size < wr.heap.size + 1 := by omega
        have l2 : wr.heap.size < wr.heap.size + 1 + 1 := by omega
        clear hpp aV
        go_wp2_with fail
        rw [← hV]
        clear hV c0 c1 c2 c3 c4 c5 c6 c7 d0 d1 d2 d3 d4 d5 d6 d7 x4 y4 hcs hds
        have z2 : V.cell? ⟨wr.heap.size, 2, none⟩ = some (.slice D p.cols.length capD) := va0 2
        have u2 : V.cell? ⟨wr.heap.size + 1, 2, none⟩ = some (.slice E p.cols.length capE) := vb0 2
        rw [← hn1] at z2 u2 ⊢
        clear va0 vb0 vz hn1 ha
        go_wp2_with fail
        go_loopw [9] (fun i wrr => ∃ k : Nat, k ≤ p.cols.length ∧ i = .int .i64 k ∧ Aft V wrr) (fun i _ => p.cols.length - (intOf i).toNat)
        case atStart => exact ⟨0, Nat.zero_le _, rfl, Aft.refl _⟩
        case round =>
          obtain ⟨k3, hk3, rfl, ha⟩ := hrel
          have HA3 := Lib.hid ha
          have z2' := ha.cell_kept z2
          have u2' := ha.cell_kept u2
          by_cases hlt3 : k3 < p.cols.length
          · obtain ⟨b5, off5, hD, hb5, g5, _⟩ := str_at (strs_aft ha hcsV) hlt3
            subst hD
            obtain ⟨b6, off6, hE, hb6, g6, _⟩ := str_at (strs_aft ha hdsV) hlt3
            subst hE
            have lz := World.block_lt_of_cell? _ _ z2'
            have lu := World.block_lt_of_cell? _ _ u2'
            clear ha
            go_wp2_with fail
            refine wp_region_lat (by kernel_rfl) (by kernel_rfl) ?_
            repeat (go_big_quiet_step (fail))
            refine wpQuiet_nil ?_
            intro _ hw'
            obtain ⟨x, hw''⟩ := hw'
            subst hw''
            go_wp2_with fail
            go_roundw
            case rel => exact ⟨k3 + 1, by omega, by go_num, HA3.out.lat x⟩
            case measure => simp [intOf]; omega
          · clear ha
            go_wp2_with fail
            go_roundw
            case rel => exact ⟨k2 + 1, by omega, by go_num, HAV.out.trans HA3.out⟩
            case measure => simp [intOf]; omega
      · clear ha
        go_wp2_with fail
        go_ret
        exact ⟨rfl, HAW.out.trans HAR.out⟩
set_option maxHeartbeats 8000000 in
theorem sameO_any (o : Objs) (A : Option Addr) (cap : Nat) (A2 : Option Addr) (cap2 : Nat) (B : Option Addr) (capB : Nat) (B2 : Option Addr) (capB2 : Nat) (w : World) (h1 : SlAt w 2 SchR A cap o.schemas) (h2 : SlAt w 5 TabR A2 cap2 o.tables) (h3 : SlAt w 2 SchR B capB o.schemas) (h4 : SlAt w 5 TabR B2 capB2 o.tables) :
    Calls Tryz.prog 69 #[.agg #[.slice A o.schemas.length cap, .slice A2 o.tables.length cap2], .agg #[.slice B o.schemas.length capB, .slice B2 o.tables.length capB2]] w
      fun e w' => e = .returned (.bool true) ∧ Aft w w' := by
  have hlen := h1.len
  have hlen2 := h2.len
  obtain ⟨W, hW⟩ : ∃ W, W = (w.alloc (.cells #[.slice A o.schemas.length cap, .slice A2 o.tables.length cap2] 25)).alloc (.cells #[.slice B o.schemas.length capB, .slice B2 o.tables.length capB2] 25) := ⟨_, rfl⟩
  have aW : Aft w W := by rw [hW]; exact ((Aft.refl w).alloc _).alloc _
  obtain ⟨ha0, hb0, hz, _⟩ := aft_box2 (w := w) (w1 := W) (by rw [← hW]; exact Aft.refl W)
  have HAW := Lib.hid aW
  go_enter Tryz.func69, Tryz.ntmps69
  go_wp2_with fail
  rw [← hW]
  clear hW
  go_loopw [5] (fun i wr => ∃ k : Nat, k ≤ o.schemas.length ∧ i = .int .i64 k ∧ Aft W wr) (fun i _ => o.schemas.length - (intOf i).toNat)
  case atStart => exact ⟨0, Nat.zero_le _, rfl, Aft.refl _⟩
  case round =>
    obtain ⟨k, hk, rfl, ha⟩ := hrel
    have x3 := ha.cell_kept (show W.cell? ⟨w.heap.size, 0, none⟩ = some (.slice A o.schemas.length cap) from ha0 0)
    have y3 := ha.cell_kept (show W.cell? ⟨w.heap.size + 1, 0, none⟩ = some (.slice B o.schemas.length capB) from hb0 0)
    have HAR := Lib.hid ha
    by_cases hlt : k < o.schemas.length
    · obtain ⟨b, off, rfl, hb, c0, c1, _⟩ := sch_at (schs_aft (HAW.out.trans ha) h1) hlt
      obtain ⟨b2, off2, rfl, hb2, d0, d1, _⟩ := sch_at (schs_aft (HAW.out.trans ha) h3) hlt
      have lx := World.block_lt_of_cell? _ _ x3
      have ly := World.block_lt_of_cell? _ _ y3
      clear ha
      go_wp2_with fail
      refine wp_region_lat (by kernel_rfl) (by kernel_rfl) ?_
      repeat (go_big_quiet_step (fail))
      refine wpQuiet_nil ?_
      intro _ hw'
      obtain ⟨x, hw''⟩ := hw'
      subst hw''
      go_wp2_with fail
      go_roundw
      case rel => exact ⟨k + 1, by omega, by go_num, HAR.out.lat x⟩
      case measure => simp [intOf]; omega
    go_wp2_with fail
    go_loopw [6] (fun i wrr => ∃ k : Nat, k ≤ o.tables.length ∧ i = .int .i64 k ∧ Aft W wrr) (fun i _ => o.tables.length - (intOf i).toNat)
    case atStart => exact ⟨0, Nat.zero_le _, rfl, ha⟩
    case round =>
      clear ha HAR x3 y3
      obtain ⟨k2, hk2, rfl, ha⟩ := hrel
      have x4 := ha.cell_kept (show W.cell? ⟨w.heap.size, 1, none⟩ = some (.slice A2 o.tables.length cap2) from ha0 1)
      have y4 := ha.cell_kept (show W.cell? ⟨w.heap.size + 1, 1, none⟩ = some (.slice B2 o.tables.length capB2) from hb0 1)
      have HAR := Lib.hid ha
      by_cases hlt2 : k2 < o.tables.length
      · obtain ⟨b, off, D, capD, D2, capD2, rfl, hb, c0, c1, c2, c3, c4, hcc, hcr, _⟩ := tab_at (tabs_aft (HAW.out.trans ha) h2) hlt2
        obtain ⟨b2, off2, E, capE, E2, capE2, rfl, hb2, d0, d1, d2, d3, d4, hdc, hdr, _⟩ := tab_at (tabs_aft (HAW.out.trans ha) h4) hlt2
        have lx : w.heap.size < wr.heap.size := World.block_lt_of_cell? _ _ x4
        have ly : w.heap.size + 1 < wr.heap.size := World.block_lt_of_cell? _ _ y4
        have Cs := Lib.hid (show ∀ x : Lat wr, _ from fun x => sameT_any o.tables[k2] D capD D2 capD2 E capE E2 capE2 (lat wr x) (cols_aft ((Aft.refl wr).lat x) hcc) (ruls_aft ((Aft.refl wr).lat x) hcr) (cols_aft ((Aft.refl wr).lat x) hdc) (ruls_aft ((Aft.refl wr).lat x) hdr))
        clear ha hcc hcr hdc hdr
        go_wp2_with fail
        refine wp_region_lat (by kernel_rfl) (by kernel_rfl) ?_
        repeat (go_big_quiet_step ((first | (go_at_call 126; exact Calls.lat_of (Cs.out _)))))
        refine wpQuiet_nil ?_
        intro _ hw'
        obtain ⟨x, hw''⟩ := hw'
        subst hw''
        go_wp2_with fail
        go_roundw
        case rel => exact ⟨k2 + 1, by omega, by go_num, HAR.out.lat x⟩
        case measure => simp [intOf]; omega
      · clear ha
        go_wp2_with fail
        go_ret
        exact ⟨rfl, HAW.out.trans HAR.out⟩
end Go.Proofs.YtgkhmnamkfgciaaGreat

namespace Go.Proofs.YtgkhmnamkfgciaaGreat
open Go.RowKit Go.Deep
set_option maxRecDepth 100000
set_option linter.unusedVariables false
theorem rightR_big (r : Rls) (h : ¬ r.names.length ≤ 16) : rightR r = false := by rw [rightR_rows]; simp [h]
theorem rightR_bigm (r : Rls) (h : ¬ r.members.length ≤ 256) : rightR r = false := by rw [rightR_rows]; simp [h]
theorem rowsR_mem {r : Rls} (h : rowsR r = true) {m : Mbr} (hm : m ∈ r.members) : mIn r m = true := by
  unfold rowsR at h
  simp only [Bool.and_eq_true, List.all_eq_true] at h
  exact h.2.1 m hm
theorem inB_filter_row {r : Rls} (h : rowsR r = true) {m : Mbr} (hm : m ∈ r.members) (s : ByteArray) : inB (r.names.filter (reachB r.members s)) m.role = reachB r.members s m.role := by
  have := rowsR_mem h hm
  unfold mIn at this
  simp only [Bool.and_eq_true] at this
  rw [inB_filter, this.1, Bool.and_true]
set_option maxHeartbeats 8000000 in
theorem rright8 (r : Rls) (An : Option Addr) (capn : Nat) (Am : Option Addr) (capm : Nat) (w : World) (hn : SlAt w 1 StrR An capn r.names) (hm : SlAt w 2 MbrR Am capm r.members) :
    Calls Tryz.prog 200 #[.agg #[.slice An r.names.length capn, .slice Am r.members.length capm]] w fun e w' => e = .returned (.bool (rightR r)) ∧ Aft w w' := by
  have hlen := hn.len
  have hlen2 := hm.len
  have l1 : w.heap.size < w.heap.size + 1 := by omega
  by_cases h1 : r.names.length ≤ 16
  case neg =>
    have HF := Lib.hid (rightR_big r h1)
    have hi : (16 : Int) < (r.names.length : Int) := by omega
    go_enter Tryz.func200, Tryz.ntmps200
    go_wp2_with fail
    go_ret
    exact ⟨by rw [HF.out]; rfl, (Aft.refl _).alloc _⟩
  by_cases h2 : r.members.length ≤ 256
  case neg =>
    have HF := Lib.hid (rightR_bigm r h2)
    have hi : ¬ (16 : Int) < (r.names.length : Int) := by omega
    have hi2 : (256 : Int) < (r.members.length : Int) := by omega
    go_enter Tryz.func200, Tryz.ntmps200
    go_wp2_with fail
    go_ret
    exact ⟨by rw [HF.out]; rfl, (Aft.refl _).alloc _⟩
  have hi : ¬ (16 : Int) < (r.names.length : Int) := by omega
  have hi2 : ¬ (256 : Int) < (r.members.length : Int) := by omega
  obtain ⟨W, hW⟩ : ∃ W, W = w.alloc (.cells #[.slice An r.names.length capn, .slice Am r.members.length capm] 29) := ⟨_, rfl⟩
  have aW : Aft w W := by rw [hW]; exact (Aft.refl w).alloc _
  have r0 : ∀ w', Aft W w' → (w'.cell? ⟨w.heap.size, 0, none⟩ = some (.slice An r.names.length capn) ∧ w'.cell? ⟨w.heap.size, 1, none⟩ = some (.slice Am r.members.length capm) ∧ w.heap.size < w'.heap.size) := fun w' a => by
    rw [hW] at a
    obtain ⟨hb, _, hz, _, _⟩ := aft_box a
    exact ⟨by rw [hb]; rfl, by rw [hb]; rfl, hz.1⟩
  obtain ⟨q, hq⟩ : ∃ q, rowsR r = q := ⟨_, rfl⟩
  have C := Lib.hid (fun w' (a : Aft w w') => hq ▸ rrows8 r An capn Am capm w' (strs_aft a hn) (mbrs_aft a hm))
  have HRT := Lib.hid (show rightR r = (q && r.members.all fun m => !reachB r.members m.of m.role) by rw [rightR_rows, hq]; simp [h1, h2])
  have HR0 := Lib.hid r0
  have HAW := Lib.hid aW
  have HNM := Lib.hid (And.intro hn hm)
  have HQ := Lib.hid hq
  clear hq r0 aW hn hm
  go_enter Tryz.func200, Tryz.ntmps200
  go_wp2_with fail
  rw [← hW]
  clear hW
  refine (C.out W HAW.out).mono ?_
  rintro e w1 ⟨rfl, a1⟩
  have HA1 := Lib.hid a1
  obtain ⟨e0, e1, e2⟩ := HR0.out w1 a1
  clear a1
  cases q
  · have HF := Lib.hid (show rightR r = false by rw [HRT.out]; rfl)
    go_wp2_with fail
    go_ret
    exact ⟨by rw [HF.out]; rfl, HAW.out.trans HA1.out⟩
  go_wp2_with fail
  go_loopw [3] (fun i wr => ∃ k : Nat, k ≤ r.members.length ∧ i = .int .i64 k ∧ Aft W wr ∧ ∀ j, j < k → ∀ (hj : j < r.members.length), (!reachB r.members r.members[j].of r.members[j].role) = true) (fun i _ => r.members.length - (intOf i).toNat)
  case atStart => exact ⟨0, Nat.zero_le _, rfl, HA1.out, fun j hj => absurd hj (Nat.not_lt_zero j)⟩
  case round =>
    clear e0 e1 e2
    obtain ⟨k, hk, rfl, ha, hp⟩ := hrel
    have HA := Lib.hid ha
    have HP := Lib.hid hp
    obtain ⟨e0, e1, e2⟩ := HR0.out wr ha
    clear ha hp
    by_cases hlt : k < r.members.length
    · obtain ⟨b, off, rfl, hb, t0, t1, hs1, hs2⟩ := mbr_at (mbrs_aft (HAW.out.trans HA.out) HNM.out.2) hlt
      have HIN := Lib.hid (inB_filter_row HQ.out (List.getElem_mem hlt) r.members[k].of)
      obtain ⟨m, hmm⟩ : ∃ m, r.members[k] = m := ⟨_, rfl⟩
      rw [hmm] at t0 t1 hs1 hs2 HIN
      have HMM := Lib.hid hmm
      have K3 := Lib.hid (show ∀ w', Aft wr w' → Calls Tryz.prog 201 #[.agg #[.slice An r.names.length capn, .slice (some ⟨b, off, none⟩) r.members.length capm], .string m.of] w' (ReachP w' r m.of) from fun w' a => rreach r An capn _ capm m.of w' (strs_aft ((HAW.out.trans HA.out).trans a) HNM.out.1) (mbrs_aft ((HAW.out.trans HA.out).trans a) HNM.out.2) hs2 (by omega))
      obtain ⟨q, hq⟩ : ∃ q, reachB r.members m.of m.role = q := ⟨_, rfl⟩
      obtain ⟨F, hF⟩ : ∃ F, r.names.filter (reachB r.members m.of) = F := ⟨_, rfl⟩
      have K4 := Lib.hid (show ∀ (g : Hd) (B : Nat) (w' : World), w'.ownsRow B 9 1 g.v F.length (F.flatMap nameC) → Calls Tryz.prog 112 #[g.v, .string m.role] w' fun e w'' => e = .returned (.bool q) ∧ w' = w'' from fun g B w' o => by
        rw [own_slice o]
        refine (rin_any g.a g.c F m.role w' (own_slf nameC o (fun x hx => ⟨rfl, rfl, ?_⟩) ?_)).mono fun e w'' ⟨he, hw⟩ => ⟨?_, hw⟩
        · rw [← hF] at hx
          exact (sm_names HNM.out.1).2 x (List.mem_filter.1 hx).1
        · rw [← hF]
          have := List.length_filter_le (reachB r.members m.of) r.names
          unfold Small; omega
        · rw [he, ← hq, ← HIN.out, hF]; rfl)
      have KP := Lib.hid (show ∀ w' e w'', ReachP w' r m.of e w'' → ∃ g : Hd, e = .returned g.v ∧ Aft w' w'' ∧ w''.ownsRow w'.heap.size 9 1 g.v F.length (F.flatMap nameC) from fun w' e w'' h => by unfold ReachP at h; rw [hF] at h; exact h)
      have HOK := Lib.hid (show reachB r.members r.members[k].of r.members[k].role = q by rw [hmm]; exact hq)
      have KS := Lib.hid (show ∀ w', Aft wr w' → (Aft wr w' ∧ w'.cell? ⟨w.heap.size, 0, none⟩ = some (.slice An r.names.length capn) ∧ w'.cell? ⟨w.heap.size, 1, none⟩ = some (.slice (some ⟨b, off, none⟩) r.members.length capm) ∧ w'.cell? ⟨b, off + k * 2, none⟩ = some (.string m.role) ∧ w'.cell? ⟨b, off + k * 2 + 1, none⟩ = some (.string m.of)) from fun w' a => ⟨a, a.cell_kept e0, a.cell_kept e1, a.cell_kept t0, a.cell_kept t1⟩)
      clear hmm hq hF HIN
      go_wp2_with fail
      go_region_held3 (fun w' => Aft wr w' ∧ w'.cell? ⟨w.heap.size, 0, none⟩ = some (.slice An r.names.length capn) ∧ w'.cell? ⟨w.heap.size, 1, none⟩ = some (.slice (some ⟨b, off, none⟩) r.members.length capm) ∧ w'.cell? ⟨b, off + k * 2, none⟩ = some (.string m.role) ∧ w'.cell? ⟨b, off + k * 2 + 1, none⟩ = some (.string m.of))
        (first | exact KS.out _ (Aft.refl _).drew | exact KS.out _ (And.left (by assumption)) | exact KS.out _ (Aft.trans (And.left (by assumption : Aft wr _ ∧ _)) (by assumption)))
        ((first | (go_at_call 201; refine (K3.out _ (And.left (by assumption : Aft wr _ ∧ _))).mono ?_; intro e w5 hP5; obtain ⟨g5, he5, a5, o5⟩ := KP.out _ _ _ hP5; clear hP5; subst he5) | (go_at_call 112; refine (K4.out _ _ _ (by assumption)).mono ?_; rintro e w4 ⟨rfl, rfl⟩)))
      have HAX := Lib.hid (And.left (by assumption : Aft wr w5 ∧ _))
      clear o5 a5
      cases q
      · have HNX := Lib.hid (ext_lt (p := fun j => ∀ (hj : j < r.members.length), (!reachB r.members r.members[j].of r.members[j].role) = true) HP.out (fun _ => by rw [HOK.out]; rfl))
        go_wp2_with fail
        go_roundw
        case rel => exact ⟨k + 1, by omega, by go_num, HA.out.trans HAX.out, HNX.out⟩
        case measure => simp [intOf]; omega
      · have HF := Lib.hid (show rightR r = false by rw [HRT.out, all_false (fun m => !reachB r.members m.of m.role) r.members k hlt (by show (!reachB r.members r.members[k].of r.members[k].role) = false; rw [HOK.out]; rfl)]; rfl)
        go_wp2_with fail
        go_ret
        exact ⟨by rw [HF.out]; rfl, (HAW.out.trans HA.out).trans HAX.out⟩
    · have HF := Lib.hid (show rightR r = true by rw [HRT.out, all_true _ _ fun j hj => HP.out j (by omega) hj]; rfl)
      go_wp2_with fail
      go_ret
      exact ⟨by rw [HF.out]; rfl, HAW.out.trans HA.out⟩
end Go.Proofs.YtgkhmnamkfgciaaGreat

namespace Go.Proofs.YtgkhmnamkfgciaaGreat
open Go.RowKit Go.Deep
set_option maxRecDepth 100000
set_option linter.unusedVariables false
@[go_sem ↓] theorem run_neqMem_self (w : World) (s t : ByteArray) :
    (binOp .neq 142 (.agg #[.string s, .string t]) (.agg #[.string s, .string t])).run Tryz.prog w = .ok (.bool false) w := by
  rw [run_neq_struct]; go_simp; try rfl
set_option maxHeartbeats 8000000 in
theorem same8 (r : Rls) (An : Option Addr) (capn : Nat) (Am : Option Addr) (capm : Nat) (Bn : Option Addr) (capbn : Nat) (Bm : Option Addr) (capbm : Nat) (w : World) (h1 : SlAt w 1 StrR An capn r.names) (h2 : SlAt w 2 MbrR Am capm r.members) (h3 : SlAt w 1 StrR Bn capbn r.names) (h4 : SlAt w 2 MbrR Bm capbm r.members) :
    Calls Tryz.prog 70 #[.agg #[.slice An r.names.length capn, .slice Am r.members.length capm], .agg #[.slice Bn r.names.length capbn, .slice Bm r.members.length capbm]] w
      fun e w' => e = .returned (.bool true) ∧ Aft w w' := by
  have hlen := h1.len
  have hlen2 := h2.len
  obtain ⟨W, hW⟩ : ∃ W, W = (w.alloc (.cells #[.slice An r.names.length capn, .slice Am r.members.length capm] 29)).alloc (.cells #[.slice Bn r.names.length capbn, .slice Bm r.members.length capbm] 29) := ⟨_, rfl⟩
  have aW : Aft w W := by rw [hW]; exact ((Aft.refl w).alloc _).alloc _
  have hbb := aft_box2 (w := w) (w1 := W) (by rw [← hW]; exact Aft.refl W)
  obtain ⟨ha0, hb0, hz, _⟩ := hbb
  have HAW := Lib.hid aW
  have l1 : w.heap.size < w.heap.size + 1 + 1 := by omega
  go_enter Tryz.func70, Tryz.ntmps70
  go_wp2_with fail
  rw [← hW]
  clear hW
  go_loopw [5] (fun i wr => ∃ k : Nat, k ≤ r.names.length ∧ i = .int .i64 k ∧ Aft W wr) (fun i _ => r.names.length - (intOf i).toNat)
  case atStart => exact ⟨0, Nat.zero_le _, rfl, Aft.refl _⟩
  case round =>
    obtain ⟨k, hk, rfl, ha⟩ := hrel
    have x3 := ha.cell_kept (show W.cell? ⟨w.heap.size, 0, none⟩ = some (.slice An r.names.length capn) from ha0 0)
    have y3 := ha.cell_kept (show W.cell? ⟨w.heap.size + 1, 0, none⟩ = some (.slice Bn r.names.length capbn) from hb0 0)
    have lx : w.heap.size < wr.heap.size := World.block_lt_of_cell? _ _ x3
    have ly : w.heap.size + 1 < wr.heap.size := World.block_lt_of_cell? _ _ y3
    have HAR := Lib.hid ha
    by_cases hlt : k < r.names.length
    · obtain ⟨b, off, rfl, hb, c0, _⟩ := str_at (strs_aft (HAW.out.trans ha) h1) hlt
      obtain ⟨b2, off2, rfl, hb2, d0, _⟩ := str_at (strs_aft (HAW.out.trans ha) h3) hlt
      clear ha
      go_wp2_with fail
      refine wp_region_lat (by kernel_rfl) (by kernel_rfl) ?_
      repeat (go_big_quiet_step (fail))
      refine wpQuiet_nil ?_
      intro _ hw'
      obtain ⟨x, hw''⟩ := hw'
      subst hw''
      go_wp2_with fail
      go_roundw
      case rel => exact ⟨k + 1, by omega, by go_num, HAR.out.lat x⟩
      case measure => simp [intOf]; omega
    go_wp2_with fail
    go_loopw [6] (fun i wrr => ∃ k : Nat, k ≤ r.members.length ∧ i = .int .i64 k ∧ Aft W wrr) (fun i _ => r.members.length - (intOf i).toNat)
    case atStart => exact ⟨0, Nat.zero_le _, rfl, ha⟩
    case round =>
      clear ha HAR x3 y3 lx ly
      obtain ⟨k2, hk2, rfl, ha⟩ := hrel
      have x4 := ha.cell_kept (show W.cell? ⟨w.heap.size, 1, none⟩ = some (.slice Am r.members.length capm) from ha0 1)
      have y4 := ha.cell_kept (show W.cell? ⟨w.heap.size + 1, 1, none⟩ = some (.slice Bm r.members.length capbm) from hb0 1)
      have lx : w.heap.size < wr.heap.size := World.block_lt_of_cell? _ _ x4
      have ly : w.heap.size + 1 < wr.heap.size := World.block_lt_of_cell? _ _ y4
      have HAR := Lib.hid ha
      by_cases hlt2 : k2 < r.members.length
      · obtain ⟨b, off, rfl, hb, c0, c1, _, _⟩ := mbr_at (mbrs_aft (HAW.out.trans ha) h2) hlt2
        obtain ⟨b2, off2, rfl, hb2, d0, d1, _, _⟩ := mbr_at (mbrs_aft (HAW.out.trans ha) h4) hlt2
        clear ha
        go_wp2_with fail
        refine wp_region_lat (by kernel_rfl) (by kernel_rfl) ?_
        repeat (go_big_quiet_step (fail))
        refine wpQuiet_nil ?_
        intro _ hw'
        obtain ⟨x, hw''⟩ := hw'
        subst hw''
        go_wp2_with fail
        go_roundw
        case rel => exact ⟨k2 + 1, by omega, by go_num, HAR.out.lat x⟩
        case measure => simp [intOf]; omega
      · clear ha
        go_wp2_with fail
        go_ret
        exact ⟨rfl, HAW.out.trans HAR.out⟩
end Go.Proofs.YtgkhmnamkfgciaaGreat

namespace Go.Proofs.YtgkhmnamkfgciaaGreat
open Go.RowKit Go.Deep
set_option maxRecDepth 100000
set_option linter.unusedVariables false
/-- a row of our own that is written over -/
def OverS (X wr : World) (v : Value) (n : Nat) : Prop := Aft X wr ∧ ∃ l : List ByteArray, l.length = n ∧ wr.ownsRow X.heap.size 9 1 v n (l.flatMap nameC)
theorem OverS.cell {X wr : World} {A : Option Addr} {n c k : Nat} (h : OverS X wr (.slice A n c) n) (hk : k < n) : ∃ g, A = some ⟨g, 0, none⟩ ∧ X.heap.size ≤ g ∧ g < wr.heap.size ∧ (∃ u, wr.cell? ⟨g, k, none⟩ = some u) ∧ wr.frozen? ⟨g, k, none⟩ = false ∧ ∀ s : ByteArray, OverS X (wr.setCell ⟨g, k, none⟩ (.string s)) (.slice A n c) n := by
  obtain ⟨a, l, hl, ho⟩ := h
  obtain ⟨g, cap, hv, hB, hnc, hr⟩ := own_rowAt ho (by omega)
  simp only [Value.slice.injEq, true_and] at hv
  obtain ⟨rfl, rfl⟩ := hv
  have hfl : (l.flatMap nameC).length = n * 1 := by rw [flatMap_len (size := 1) (fun _ => rfl), hl]
  refine ⟨g, rfl, hB, hr.1, ⟨_, by rw [hr.2.1 k (by rw [hfl]; omega), List.getElem?_eq_getElem (by rw [hfl]; omega)]⟩, hr.2.2 k (by rw [hfl]; omega), fun s => ⟨a.setCell _ _ hB, l.set k s, by rw [List.length_set]; exact hl, ?_⟩⟩
  have h1 := own_set ho (g := g) rfl (k * 1) (.string s)
  rw [← Nat.add_zero (k * 1), flatMap_set (f := nameC) (fun _ => rfl) l k 0 (by omega) (by decide) (.string s) s rfl, Nat.add_zero, Nat.mul_one] at h1
  exact h1
theorem OverS.aft {X wr wr' : World} {v : Value} {n : Nat} (h : OverS X wr v n) (a : Aft wr wr') : OverS X wr' v n := by
  obtain ⟨b, l, hl, ho⟩ := h
  exact ⟨b.trans a, l, hl, own_aft ho a⟩
end Go.Proofs.YtgkhmnamkfgciaaGreat

namespace Go.Proofs.YtgkhmnamkfgciaaGreat
open Go.RowKit Go.Deep
set_option maxRecDepth 100000
set_option linter.unusedVariables false
theorem RolIn.kb {P : Nat → Prop} {w w' : World} {B : Nat} {hn hm : Hd} {r : Rls} (h : RolIn w B hn hm r) (k : Kb P w w') (hp : ∀ g, g ∈ hn.blk ∨ g ∈ hm.blk → ¬ P g) : RolIn w' B hn hm r :=
  ⟨own_kb h.nam k fun g hg => hp g (.inl (Hd.mem_blk.2 hg)), own_kb h.mem k fun g hg => hp g (.inr (Hd.mem_blk.2 hg)), h.dis⟩
theorem RolIn.lt {w : World} {B : Nat} {hn hm : Hd} {r : Rls} (h : RolIn w B hn hm r) : ∀ g, g ∈ hn.blk ∨ g ∈ hm.blk → B ≤ g ∧ g < w.heap.size := fun g hg => by
  rcases hg with h1 | h1
  · exact h.nam.lt g (Hd.mem_blk.1 h1)
  · exact h.mem.lt g (Hd.mem_blk.1 h1)
end Go.Proofs.YtgkhmnamkfgciaaGreat

namespace Go.Proofs.YtgkhmnamkfgciaaGreat
open Go.RowKit Go.Deep
set_option maxRecDepth 100000
set_option linter.unusedVariables false
/-- a catalog in memory of its own -/
structure CatIn (w : World) (B : Nat) (c : Cat) (hs ht hn hm hg : Hd) (L : List OTab) : Prop where
  obj : ObjIn w B hs ht c.objs.schemas L
  tbs : L.map OTab.t = c.objs.tables
  rol : RolIn w B hn hm c.rols
  gra : w.ownsRow B 106 6 hg.v c.grants.length (c.grants.flatMap graC)
  dis : ∀ g ∈ hs.blk ++ (ht.blk ++ L.flatMap OTab.blks), ¬ (g ∈ hn.blk ∨ g ∈ hm.blk) ∧ g ∉ hg.blk
  dis2 : ∀ g, g ∈ hn.blk ∨ g ∈ hm.blk → g ∉ hg.blk
def SmC (c : Cat) : Prop := SmO c.objs ∧ SmRl c.rols ∧ Small (c.grants.length * 16) ∧ ∀ g ∈ c.grants, SmG g
theorem CatAt.sm {w : World} {c : Cat} {As : Option Addr} {caps : Nat} {At : Option Addr} {capt : Nat} {An : Option Addr} {capn : Nat} {Am : Option Addr} {capm : Nat} {Ag : Option Addr} {capg : Nat} (h : CatAt w c As caps At capt An capn Am capm Ag capg) : SmC c :=
  ⟨⟨sm_schs h.sch, sm_tabs h.tab⟩, sm_rls h.nam h.mem, sm_mem h.gra fun _ _ h => h.2⟩
theorem CatIn.aft {w w' : World} {B : Nat} {c : Cat} {hs ht hn hm hg : Hd} {L : List OTab} (h : CatIn w B c hs ht hn hm hg L) (a : Aft w w') : CatIn w' B c hs ht hn hm hg L := ⟨h.obj.aft a, h.tbs, h.rol.aft a, own_aft h.gra a, h.dis, h.dis2⟩
theorem CatIn.at {w : World} {B : Nat} {c : Cat} {hs ht hn hm hg : Hd} {L : List OTab} (h : CatIn w B c hs ht hn hm hg L) (sm : SmC c) : CatAt w c hs.a hs.c ht.a ht.c hn.a hn.c hm.a hm.c hg.a hg.c := by
  have e1 : objOf c.objs.schemas L = c.objs := by unfold objOf; rw [h.tbs]
  have h1 := h.obj.schs (by rw [e1]; exact sm.1)
  have h2 := h.obj.tabs (by rw [e1]; exact sm.1)
  rw [h.tbs] at h2
  exact ⟨h1, h2, h.rol.names sm.2.1, h.rol.mbrs sm.2.1, own_slf graC h.gra (fun g hm => ⟨rfl, rfl, sm.2.2.2 g hm⟩) sm.2.2.1⟩
set_option maxHeartbeats 16000000 in
theorem same9 (c : Cat) (As : Option Addr) (caps : Nat) (At : Option Addr) (capt : Nat) (An : Option Addr) (capn : Nat) (Am : Option Addr) (capm : Nat) (Ag : Option Addr) (capg : Nat) (Bs : Option Addr) (bcs : Nat) (Bt : Option Addr) (bct : Nat) (Bn : Option Addr) (bcn : Nat) (Bm : Option Addr) (bcm : Nat) (Bg : Option Addr) (bcg : Nat) (w : World) (H : CatAt w c As caps At capt An capn Am capm Ag capg) (K : CatAt w c Bs bcs Bt bct Bn bcn Bm bcm Bg bcg) :
    Calls Tryz.prog 24 #[.agg #[.int .i64 c.epoch, .int .i64 c.version, .slice As c.objs.schemas.length caps, .slice At c.objs.tables.length capt, .slice An c.rols.names.length capn, .slice Am c.rols.members.length capm, .slice Ag c.grants.length capg], .agg #[.int .i64 c.epoch, .int .i64 c.version, .slice Bs c.objs.schemas.length bcs, .slice Bt c.objs.tables.length bct, .slice Bn c.rols.names.length bcn, .slice Bm c.rols.members.length bcm, .slice Bg c.grants.length bcg]] w fun e w' => e = .returned (.bool true) ∧ Aft w w' := by
  have l1 : w.heap.size < w.heap.size + 1 := by omega
  have l2 : w.heap.size < w.heap.size + 1 + 1 := by omega
  obtain ⟨W, hW⟩ : ∃ W, W = (w.alloc (.cells #[.int .i64 c.epoch, .int .i64 c.version, .slice As c.objs.schemas.length caps, .slice At c.objs.tables.length capt, .slice An c.rols.names.length capn, .slice Am c.rols.members.length capm, .slice Ag c.grants.length capg] 32)).alloc (.cells #[.int .i64 c.epoch, .int .i64 c.version, .slice Bs c.objs.schemas.length bcs, .slice Bt c.objs.tables.length bct, .slice Bn c.rols.names.length bcn, .slice Bm c.rols.members.length bcm, .slice Bg c.grants.length bcg] 32) := ⟨_, rfl⟩
  have aW : Aft w W := by rw [hW]; exact ((Aft.refl w).alloc _).alloc _
  have r0 : RowAt W (w.heap.size) [.int .i64 c.epoch, .int .i64 c.version, .slice As c.objs.schemas.length caps, .slice At c.objs.tables.length capt, .slice An c.rols.names.length capn, .slice Am c.rols.members.length capm, .slice Ag c.grants.length capg] := by rw [hW]; exact RowAt.up (box_at (Aft.refl _) (by simp))
  have r1 : RowAt W (w.heap.size + 1) [.int .i64 c.epoch, .int .i64 c.version, .slice Bs c.objs.schemas.length bcs, .slice Bt c.objs.tables.length bct, .slice Bn c.rols.names.length bcn, .slice Bm c.rols.members.length bcm, .slice Bg c.grants.length bcg] := by rw [hW]; exact box_at (Aft.refl _) (by simp)
  have HR := Lib.hid (And.intro r0 r1)
  have HAW := Lib.hid aW
  have C1 := Lib.hid (sameO_any c.objs As caps At capt Bs bcs Bt bct W (schs_aft aW H.sch) (tabs_aft aW H.tab) (schs_aft aW K.sch) (tabs_aft aW K.tab))
  have C2 := Lib.hid (show ∀ V, Aft W V → _ from fun V a => same8 c.rols An capn Am capm Bn bcn Bm bcm V (strs_aft (aW.trans a) H.nam) (mbrs_aft (aW.trans a) H.mem) (strs_aft (aW.trans a) K.nam) (mbrs_aft (aW.trans a) K.mem))
  have C3 := Lib.hid (show ∀ V, Aft W V → _ from fun V a => (eqGs_iff c.grants c.grants).2 rfl ▸ rgrants c.grants c.grants Ag capg Bg bcg V (gras_aft (aW.trans a) H.gra) (gras_aft (aW.trans a) K.gra))
  obtain ⟨x0, x1, x2, x3, x4, x5, x6, xz⟩ := rowF7 r0
  obtain ⟨y0, y1, y2, y3, y4, y5, y6, yz⟩ := rowF7 r1
  clear H K r0 r1 aW
  go_enter Tryz.func24, Tryz.ntmps24
  go_wp2_with fail
  rw [← hW]
  clear hW
  go_wp2_with fail
  refine C1.out.mono ?_
  rintro e w1 ⟨rfl, a1⟩
  have A1 := Lib.hid a1
  have p0 := HR.out.1.aft a1
  have p1 := HR.out.2.aft a1
  clear a1 x0 x1 x2 x3 x4 x5 x6 xz y0 y1 y2 y3 y4 y5 y6 yz
  obtain ⟨x0, x1, x2, x3, x4, x5, x6, xz⟩ := rowF7 p0
  obtain ⟨y0, y1, y2, y3, y4, y5, y6, yz⟩ := rowF7 p1
  clear p0 p1
  go_wp2_with fail
  refine (C2.out w1 A1.out).mono ?_
  rintro e w2 ⟨rfl, a2⟩
  have A2 := Lib.hid (A1.out.trans a2)
  have p0 := HR.out.1.aft A2.out
  have p1 := HR.out.2.aft A2.out
  clear a2 x0 x1 x2 x3 x4 x5 x6 xz y0 y1 y2 y3 y4 y5 y6 yz
  obtain ⟨x0, x1, x2, x3, x4, x5, x6, xz⟩ := rowF7 p0
  obtain ⟨y0, y1, y2, y3, y4, y5, y6, yz⟩ := rowF7 p1
  clear p0 p1
  go_wp2_with fail
  refine (C3.out w2 A2.out).mono ?_
  rintro e w3 ⟨rfl, a3⟩
  have A3 := Lib.hid (HAW.out.trans (A2.out.trans a3))
  clear a3
  go_wp2_with fail
  go_ret
  exact ⟨rfl, A3.out⟩
end Go.Proofs.YtgkhmnamkfgciaaGreat

namespace Go.Proofs.YtgkhmnamkfgciaaGreat
open Go.RowKit
set_option maxRecDepth 100000
set_option linter.unusedVariables false
def ModTs (l : List Tab) : Prop := ∀ t ∈ l, t.cols.length ≤ 3000 ∧ t.rules.length ≤ 3000 ∧ ∀ r ∈ t.rules, r.cols.length ≤ 3000
theorem ModTs.snoc {l : List Tab} {k : Nat} (hk : k < l.length) (h : ModTs (l.take k)) (h1 : l[k].cols.length ≤ 3000) (h2 : l[k].rules.length ≤ 3000) (h3 : ∀ r ∈ l[k].rules, r.cols.length ≤ 3000) : ModTs (l.take (k + 1)) := by
  intro t ht
  rw [List.take_succ_eq_append_getElem hk, List.mem_append, List.mem_singleton] at ht
  rcases ht with ht | rfl
  · exact h t ht
  · exact ⟨h1, h2, h3⟩
theorem mem_snoc_all {α : Type} {l : List α} {k : Nat} (hk : k < l.length) {P : α → Prop} (h : ∀ r ∈ l.take k, P r) (h1 : P l[k]) : ∀ r ∈ l.take (k + 1), P r := by
  intro r hr
  rw [List.take_succ_eq_append_getElem hk, List.mem_append, List.mem_singleton] at hr
  rcases hr with hr | rfl
  · exact h r hr
  · exact h1
end Go.Proofs.YtgkhmnamkfgciaaGreat

namespace Go.Proofs.YtgkhmnamkfgciaaGreat
open Go.RowKit
set_option maxRecDepth 100000
set_option linter.unusedVariables false
structure ModC (c : Cat) : Prop where
  obj : ModO c.objs
  nam : c.rols.names.length ≤ 3000
  mem : c.rols.members.length ≤ 3000
  gra : c.grants.length ≤ 3000
def LargeC (w : World) (c : Cat) (e : Ending) (w' : World) : Prop := ∃ b : Bool, e = .returned (.bool b) ∧ (b = false → ModC c) ∧ Aft w w'
set_option maxHeartbeats 8000000 in
theorem large9 (c : Cat) (As : Option Addr) (caps : Nat) (At : Option Addr) (capt : Nat) (An : Option Addr) (capn : Nat) (Am : Option Addr) (capm : Nat) (Ag : Option Addr) (capg : Nat) (w : World) (H : CatAt w c As caps At capt An capn Am capm Ag capg) :
    Calls Tryz.prog 17 #[.agg #[.int .i64 c.epoch, .int .i64 c.version, .slice As c.objs.schemas.length caps, .slice At c.objs.tables.length capt, .slice An c.rols.names.length capn, .slice Am c.rols.members.length capm, .slice Ag c.grants.length capg]] w (LargeC w c) := by
  have hlen := H.sch.len
  have hlen2 := H.tab.len
  have hlen3 := H.nam.len
  have hlen4 : c.rols.members.length * 16 ≤ 140737488351232 := H.mem.2.1
  have hlen5 : c.grants.length * 16 ≤ 140737488351232 := H.gra.2.1
  obtain ⟨W, hW⟩ : ∃ W, W = (w.alloc (.cells #[.int .i64 c.epoch, .int .i64 c.version, .slice As c.objs.schemas.length caps, .slice At c.objs.tables.length capt, .slice An c.rols.names.length capn, .slice Am c.rols.members.length capm, .slice Ag c.grants.length capg] 32)).alloc (.cells #[.slice As c.objs.schemas.length caps, .slice At c.objs.tables.length capt] 25) := ⟨_, rfl⟩
  have aW : Aft w W := by rw [hW]; exact ((Aft.refl w).alloc _).alloc _
  have r0 : RowAt W (w.heap.size) [.int .i64 c.epoch, .int .i64 c.version, .slice As c.objs.schemas.length caps, .slice At c.objs.tables.length capt, .slice An c.rols.names.length capn, .slice Am c.rols.members.length capm, .slice Ag c.grants.length capg] := by rw [hW]; exact RowAt.up (box_at (Aft.refl _) (by simp))
  have r1 : RowAt W (w.heap.size + 1) [.slice As c.objs.schemas.length caps, .slice At c.objs.tables.length capt] := by rw [hW]; exact box_at (Aft.refl _) (by simp)
  have HR := Lib.hid r1
  have HAW := Lib.hid aW
  have HT := Lib.hid H.tab
  clear H r0 r1 aW
  go_enter Tryz.func17, Tryz.ntmps17
  go_wp2_with fail
  rw [← hW]
  go_loopw [4, 5] (fun n i wr => ∃ (k : Nat) (z : Int), k ≤ c.objs.tables.length ∧ n = .int .i64 z ∧ i = .int .i64 k ∧ 0 ≤ z ∧ z ≤ 140737488351232 ∧ (z ≤ 3000 → (c.objs.schemas.length ≤ 3000 ∧ c.objs.tables.length ≤ 3000 ∧ c.rols.names.length ≤ 3000 ∧ c.rols.members.length ≤ 3000 ∧ c.grants.length ≤ 3000) ∧ ModTs (c.objs.tables.take k)) ∧ Aft W wr) (fun _ i _ => c.objs.tables.length - (intOf i).toNat)
  case atStart => exact ⟨0, _, Nat.zero_le _, rfl, rfl, by omega, by omega, fun h => ⟨⟨by omega, by omega, by omega, by omega, by omega⟩, fun t ht => by simp at ht⟩, Aft.refl _⟩
  case round =>
    clear hW
    obtain ⟨k, z, hk, rfl, rfl, hz1, hz2, hmod, ha⟩ := hrel
    have HA := Lib.hid ha
    have p0 := HR.out.aft ha
    have x1 := p0.cell (j := 1) rfl
    have xz := p0.1
    have HM := Lib.hid hmod
    clear hmod p0
    by_cases hlt : k < c.objs.tables.length
    · by_cases hz0 : z ≤ 3000
      · obtain ⟨b, off, B2, capB2, B3, capB3, rfl, hb, c0, c1, c2, c3, c4, hcols, hrules, hss⟩ := tab_at (tabs_aft (HAW.out.trans ha) HT.out) hlt
        obtain ⟨t, ht0⟩ : ∃ t, c.objs.tables[k] = t := ⟨_, rfl⟩
        rw [ht0] at c0 c1 c2 c3 c4 hcols hrules
        have HTT := Lib.hid ht0
        clear ht0 hss ha
        have hl2 := hcols.len
        have hl3 := hrules.len
        go_wp2_with fail
        go_loop [4, 7] (fun n i => ∃ (m : Nat) (z : Int), m ≤ t.rules.length ∧ n = .int .i64 z ∧ i = .int .i64 m ∧ 0 ≤ z ∧ z ≤ 140737488351232 ∧ (z ≤ 3000 → (t.cols.length ≤ 3000 ∧ t.rules.length ≤ 3000) ∧ ∀ r ∈ t.rules.take m, r.cols.length ≤ 3000)) (fun _ i => t.rules.length - (intOf i).toNat)
        case atStart => exact ⟨0, _, Nat.zero_le _, rfl, rfl, by omega, by omega, fun h => ⟨⟨by omega, by omega⟩, fun r hr => by simp at hr⟩⟩
        case round =>
          obtain ⟨m, z2, hm, rfl, rfl, hy1, hy2, hmod⟩ := hrel
          have HN := Lib.hid hmod
          clear hmod
          by_cases hlt2 : m < t.rules.length
          · by_cases hz2 : z2 ≤ 3000
            · obtain ⟨b3, off3, D2, capD2, rfl, hb3, e0, e1, e2, e3, e4, e5, e6, e7, hcs, hss3⟩ := rul_at hrules hlt2
              have hl4 := hcs.len
              go_wp2_with fail
              go_round
              case rel => exact ⟨m + 1, _, by omega, rfl, by go_num, by omega, by omega, fun h => ⟨(HN.out hz2).1, mem_snoc_all (P := fun r : Rul => r.cols.length ≤ 3000) hlt2 (HN.out hz2).2 (by omega)⟩⟩
              case measure => simp [intOf]; omega
            · go_wp2_with fail
              go_roundw
              case rel => exact ⟨k + 1, _, by omega, rfl, by go_num, hy1, hy2, fun h => absurd h hz2, HA.out.alloc _⟩
              case measure => simp [intOf]; omega
          · go_wp2_with fail
            go_roundw
            case rel =>
              refine ⟨k + 1, _, by omega, rfl, by go_num, hy1, hy2, fun h => ⟨(HM.out hz0).1, ?_⟩, HA.out.alloc _⟩
              have hn := HN.out h
              rw [List.take_of_length_le (by omega)] at hn
              exact (HM.out hz0).2.snoc hlt (by rw [HTT.out]; exact hn.1.1) (by rw [HTT.out]; exact hn.1.2) (by rw [HTT.out]; exact hn.2)
            case measure => simp [intOf]; omega
      · clear ha
        go_wp2_with fail
        go_ret
        exact ⟨_, rfl, fun h => absurd h (by first | (simp; done) | (simp; omega)), HAW.out.trans HA.out⟩
    · clear ha
      go_wp2_with fail
      go_ret
      refine ⟨_, rfl, fun h => ?_, HAW.out.trans HA.out⟩
      have h3 : z ≤ 3000 := by simpa using h
      obtain ⟨h1, h2⟩ := HM.out h3
      rw [List.take_of_length_le (by omega)] at h2
      exact ⟨⟨by omega, by omega, fun t ht => ⟨by have := (h2 t ht).1; omega, by have := (h2 t ht).2.1; omega, fun r hr => by have := (h2 t ht).2.2 r hr; omega⟩⟩, h1.2.2.1, h1.2.2.2.1, h1.2.2.2.2⟩
end Go.Proofs.YtgkhmnamkfgciaaGreat

