/- Contracts of the program, part 14. -/
import Derived.IntWalk
import Derived.Deep.RegionLaw
import Derived.Lib.AppendZerosOnto
import Derived.Lib.Overlaps
import Derived.Laws.AppendOwn
import Derived.Lib.SliceRun
import Derived.Deep.AppendLies
import Derived.Deep.Upon
import Derived.OneCell
import Derived.OwnWalk
import Derived.ProofKit
import Derived.OpenShut
import Derived.Deep.Slices
import Derived.ChangeOld
import Derived.SizedLaws
import Derived.WalkKit
import Derived.WalkSpells
import Derived.WalkLawsBesides
import Derived.Lib.Hide
import Derived.Deep.QuietTactic
import Derived.BigQuiet
import Derived.Below
import Derived.Deep.Draws
import Derived.StillTailTactics
import Derived.Laws.Cells
import Derived.Laws.IdiomCopy
import Derived.Test.YtlklmekapbojdaaGreatRows
import Derived.OrdersHeld
import Derived.Deep.RegionHeld3
import Derived.Deep.DeepMust
import Derived.Laws.StructEq
import Derived.Lib.Walk
import Derived.Laws.EntriesVeiled
import Derived.Maps.Own
import Derived.Maps.Views
import Derived.Lib.Bytealg
import Derived.Shelf.SlSortCmp.WholeK
import Derived.Test.YtlklmekapbojdaaGreatPartL1
import Derived.Test.YtlklmekapbojdaaGreatPartL2
import Derived.Test.YtlklmekapbojdaaGreatPartL3
import Derived.Test.YtlklmekapbojdaaGreatPartL4
import Derived.Test.YtlklmekapbojdaaGreatPartL5
import Derived.Test.YtlklmekapbojdaaGreatPartL6
import Derived.Test.YtlklmekapbojdaaGreatPartL7
import Derived.Test.YtlklmekapbojdaaGreatPartL8
import Derived.Test.YtlklmekapbojdaaGreatPartL9
import Derived.Test.YtlklmekapbojdaaGreatPartL12
namespace Go.Proofs.YtlklmekapbojdaaGreat
open Go.RowKit Go.Deep Go.Lib
set_option maxRecDepth 100000
set_option linter.unusedVariables false
set_option maxHeartbeats 4000000 in
theorem insGra_end (A : Option Addr) (n cap B nb : Nat) (xs : List Value) (x : Gra) (w : World) (ho : w.ownsRow B 76 6 (.slice A n cap) n xs) (hnb : w.heap[nb]? = some (.cells #[.string x.schema, .string x.table, .int .i64 x.right, .string x.giver, .string x.to, .bool x.opt] 76 (0, 0))) (hn : n ≤ 1000000) (hB : B ≤ w.heap.size) :
    Calls Tryz.prog 88 #[.slice A n cap, .int .i64 n, .slice (some ⟨nb, 0, none⟩) 1 1] w (InsP 76 6 w B (.slice A n cap) n n xs [.string x.schema, .string x.table, .int .i64 x.right, .string x.giver, .string x.to, .bool x.opt]) := by
  obtain ⟨i0, hi0, hz0, hz1, hz2⟩ := info_parts info2Gra
  have HI := Lib.hid hi0
  have HZ := Lib.hid (And.intro hz0 (And.intro hz1 hz2))
  have HO := Lib.hid ho
  have HNB := Lib.hid hnb
  have hx := ho.1
  have hq7 : n + 1 ≤ maxLen := by unfold maxLen; omega
  have hq8 : (n + 1) * 80 ≤ 140737488355328 := by omega
  have hnc : n ≤ cap := by
    rcases ho.2 with ⟨hv, hn0⟩ | ⟨g, c, cur, hv, _, _, hc, _⟩
    · omega
    · simp only [Value.slice.injEq] at hv; omega
  have hcm : cap ≤ 9223372036854775807 := by
    rcases ho.2 with ⟨hv, hn0⟩ | ⟨g, c, cur, hv, _, _, hc, hm, _⟩
    · simp only [Value.slice.injEq] at hv; omega
    · simp only [Value.slice.injEq] at hv; simp only [maxLen] at hm; omega
  have HF := Lib.hid (show ∀ gg cap' w5, w5.ownsRow B 76 6 (.slice (some ⟨gg, 0, none⟩) (n + 1) cap') (n + 1) (xs ++ [.string x.schema, .string x.table, .int .i64 x.right, .string x.giver, .string x.to, .bool x.opt]) → w.grownBy w5 (Value.slice A n cap).ownBlock → ((Value.slice A n cap).ownBlock = some gg ∨ gg = w.heap.size) → InsP 76 6 w B (.slice A n cap) n n xs [.string x.schema, .string x.table, .int .i64 x.right, .string x.giver, .string x.to, .bool x.opt] (.returned (.slice (some ⟨gg, 0, none⟩) (n + 1) cap')) w5 from fun gg cap' w5 h2 h3 h4 => by
    refine ⟨⟨some ⟨gg, 0, none⟩, n + 1, cap'⟩, rfl, ?_, kb_in h3, fun g hg => ?_⟩
    · rw [List.take_of_length_le (by omega), List.drop_of_length_le (by omega), List.append_nil]; exact h2
    · rw [blk_some, List.mem_singleton] at hg
      have hg : g = gg := hg
      subst hg
      rcases h4 with h | h
      · exact .inl h
      · exact .inr (by omega))
  clear hi0 hz0 hz1 hz2 ho hnb hx
  have k1 : (n : Int) ≤ (cap : Int) := by omega
  have k2 : (n : Int) ≤ (n : Int) := Int.le_refl _
  go_enter Tryz.func88, Tryz.ntmps88
  by_cases hc : cap = n
  · subst hc
    cases A
    all_goals
      go_wp2_with (at_builtin; go_must (refine wpList_append_lies _ rfl _ _ 64 rfl B 76 i0 _ 6 80 Tryz.underlying64 HI.out HZ.out.1 HZ.out.2.1 HZ.out.2.2 rfl (by decide) _ _ xs rfl HO.out ⟨nb, 0, none⟩ 1 1 [.string x.schema, .string x.table, .int .i64 x.right, .string x.giver, .string x.to, .bool x.opt] rfl rfl (World.news_of_block (cs := #[.string x.schema, .string x.table, .int .i64 x.right, .string x.giver, .string x.to, .bool x.opt]) (t := 76) (fr := (0, 0)) HNB.out) (by simp [Value.oneCell']) (by omega) hq7 hq8 hB w.heap.size rfl ?_); intro gg cap' w5 hown5 hgrow hat hgl; have HP := Lib.hid (HF.out gg cap' w5 hown5 hgrow hat); clear hown5 hgrow hat hgl)
      go_ret
      exact HP.out
  · cases A
    all_goals
      go_wp2_with (at_builtin; go_must (refine wpList_append_lies _ rfl _ _ 64 rfl B 76 i0 _ 6 80 Tryz.underlying64 HI.out HZ.out.1 HZ.out.2.1 HZ.out.2.2 rfl (by decide) _ _ xs rfl HO.out ⟨nb, 0, none⟩ 1 1 [.string x.schema, .string x.table, .int .i64 x.right, .string x.giver, .string x.to, .bool x.opt] rfl rfl (World.news_of_block (cs := #[.string x.schema, .string x.table, .int .i64 x.right, .string x.giver, .string x.to, .bool x.opt]) (t := 76) (fr := (0, 0)) HNB.out) (by simp [Value.oneCell']) (by omega) hq7 hq8 hB w.heap.size rfl ?_); intro gg cap' w5 hown5 hgrow hat hgl; have HP := Lib.hid (HF.out gg cap' w5 hown5 hgrow hat); clear hown5 hgrow hat hgl)
      go_ret
      exact HP.out
set_option maxHeartbeats 4000000 in
theorem insGra_new (g n k m B nb : Nat) (xs : List Value) (x : Gra) (w : World) (ho : w.ownsRow B 76 6 (.slice (some ⟨g, 0, none⟩) n n) n xs) (hnk : n = k + 1 + m) (h1 : ∀ u ∈ xs, u.oneCell' = true) (hnb : w.heap[nb]? = some (.cells #[.string x.schema, .string x.table, .int .i64 x.right, .string x.giver, .string x.to, .bool x.opt] 76 (0, 0))) (hn : n ≤ 1000000) (hB : B ≤ w.heap.size) :
    Calls Tryz.prog 88 #[.slice (some ⟨g, 0, none⟩) n n, .int .i64 k, .slice (some ⟨nb, 0, none⟩) 1 1] w (InsP 76 6 w B (.slice (some ⟨g, 0, none⟩) n n) n k xs [.string x.schema, .string x.table, .int .i64 x.right, .string x.giver, .string x.to, .bool x.opt]) := by
  obtain ⟨i0, hi0, hz0, hz1, hz2⟩ := info_parts info2Gra
  obtain ⟨q, hq⟩ : ∃ q, q = m + 2 := ⟨_, rfl⟩
  have hx := ho.1
  have hkq : k + q = n + 1 := by omega
  have hap := append_zeros (P := Tryz.prog) w B 64 3 64 76 i0 _ 6 80 .i64 Tryz.underlying64 Tryz.underlying3 hi0 hz0 hz1 hz2 rfl (by decide) g n n k q xs ho (by omega) (by omega) (by omega) (by rw [hkq]; omega) (by rw [hkq]; unfold maxLen; omega) (Nat.le_refl _)
  rw [hkq] at hap
  obtain ⟨c2, W2, hap, o2, a2, z2, hc2, hm2⟩ := hap
  obtain ⟨G, hG⟩ : ∃ G, w.heap.size = G := ⟨_, rfl⟩
  have hks : k * 6 ≤ n * 6 := Nat.mul_le_mul_right _ (by omega)
  obtain ⟨zs, hzs⟩ : ∃ zs, (Builtin.zeroCells (Value.cells (.agg #[.string ByteArray.empty, .string ByteArray.empty, .int .i64 0, .string ByteArray.empty, .string ByteArray.empty, .bool false])) q).toList = zs := ⟨_, rfl⟩
  have lz : zs.length = 6 + (n - k) * 6 := by
    rw [← hzs, zeroCells_len]
    show q * 6 = _
    omega
  rw [hG] at hap o2
  rw [hzs] at o2
  obtain ⟨_, _, hv2, _, _, r2⟩ := own_rowAt o2 (by omega)
  simp only [Value.slice.injEq, true_and, Option.some.injEq, Addr.mk.injEq, and_true] at hv2
  obtain ⟨rfl, rfl⟩ := hv2
  have l2 : (xs.take (k * 6) ++ zs).length = (n + 1) * 6 := o2.1
  have hnb2 : W2.heap[nb]? = some (.cells #[.string x.schema, .string x.table, .int .i64 x.right, .string x.giver, .string x.to, .bool x.opt] 76 (0, 0)) := (a2.block nb (lt_of_block hnb)).trans hnb
  obtain ⟨W3, hW3⟩ : ∃ W3, W3 = W2.setCells G (k * 6) [.string x.schema, .string x.table, .int .i64 x.right, .string x.giver, .string x.to, .bool x.opt] := ⟨_, rfl⟩
  have hcp1 : ∀ ty, (Builtin.copy_ #[64, 64] ty #[.slice (some ⟨G, k * 6, none⟩) (n + 1 - k) (c2 - k), .slice (some ⟨nb, 0, none⟩) 1 1]).run Tryz.prog W2 = .ok (goInt 1) W3 := fun ty => by
    rw [hW3]
    refine run_copy_n W2 _ _ ty 76 6 G (k * 6) (n + 1 - k) (c2 - k) ⟨nb, 0, none⟩ 1 1 1 [.string x.schema, .string x.table, .int .i64 x.right, .string x.giver, .string x.to, .bool x.opt] Tryz.underlying64 (by rw [hi0]; simp [hz1]) (by show min 1 (n + 1 - k) = 1; omega) rfl (World.news_of_block (cs := #[.string x.schema, .string x.table, .int .i64 x.right, .string x.giver, .string x.to, .bool x.opt]) (t := 76) (fr := (0, 0)) hnb2) (fun j hj => ?_) (fun j hj => ?_) (by simp [Value.oneCell'])
    · have hj' : j < 6 := hj
      have hl : k * 6 + j < (xs.take (k * 6) ++ zs).length := by rw [l2]; omega
      rw [r2.2.1 _ hl, List.getElem?_eq_getElem hl]; rfl
    · have hj' : j < 6 := hj
      exact r2.2.2 _ (by rw [l2]; omega)
  have o3 := own_aft (own_setCells (g := G) rfl [.string x.schema, .string x.table, .int .i64 x.right, .string x.giver, .string x.to, .bool x.opt] (k * 6) o2) (Aft.refl (W2.setCells G (k * 6) [.string x.schema, .string x.table, .int .i64 x.right, .string x.giver, .string x.to, .bool x.opt])).drew
  rw [← hW3] at o3
  obtain ⟨_, _, hv3, _, _, r3⟩ := own_rowAt o3 (by omega)
  simp only [Value.slice.injEq, true_and, Option.some.injEq, Addr.mk.injEq, and_true] at hv3
  obtain ⟨rfl, rfl⟩ := hv3
  have l3 : (setL (xs.take (k * 6) ++ zs) (k * 6) [.string x.schema, .string x.table, .int .i64 x.right, .string x.giver, .string x.to, .bool x.opt]).length = (n + 1) * 6 := o3.1
  have hgl := ho.lt g rfl
  have kb3 : Kb (fun x => x = G) w W3.drew := by
    rw [hW3]
    exact ((Kb.of_aft a2).trans (kb_setCells G _ _ _)).trans (Kb.of_aft (Aft.refl _).drew)
  have og : W3.drew.ownsRow B 76 6 (.slice (some ⟨g, 0, none⟩) n n) n xs := own_kb ho kb3 (fun x hx e => by have e : x = G := e; have h5 : x = g := (by simpa [Value.ownBlock, eq_comm] using hx); omega)
  obtain ⟨ds, hds⟩ : ∃ ds, xs.drop (k * 6) = ds := ⟨_, rfl⟩
  have ld : ds.length = (n - k) * 6 := by rw [← hds, List.length_drop, hx]; omega
  obtain ⟨W4, hW4⟩ : ∃ W4, W4 = W3.drew.setCells G ((k + 1) * 6) ds := ⟨_, rfl⟩
  have hcp2 : ∀ ty, (Builtin.copy_ #[64, 64] ty #[.slice (some ⟨G, (k + 1) * 6, none⟩) (n - k) (c2 - (k + 1)), .slice (some ⟨g, k * 6, none⟩) (n - k) (n - k)]).run Tryz.prog W3.drew = .ok (goInt ((n - k : Nat) : Int)) W4 := fun ty => by
    rw [hW4]
    refine run_copy_n W3.drew _ _ ty 76 6 G ((k + 1) * 6) (n - k) (c2 - (k + 1)) ⟨g, k * 6, none⟩ (n - k) (n - k) (n - k) ds Tryz.underlying64 (by rw [hi0]; simp [hz1]) (by show min (n - k) (n - k) = n - k; omega) ld (fun j u hj => ?_) (fun j hj => ?_) (fun j hj => ?_) (fun u hu => h1 u (by rw [← hds] at hu; exact List.mem_of_mem_drop hu))
    · rw [← hds, List.getElem?_drop] at hj
      rw [Addr.add_lit]
      have h5 := og.cells (g := g) rfl _ u hj
      rw [Addr.add_lit] at h5
      simpa using h5
    · rw [ld] at hj
      have hl : (k + 1) * 6 + j < (setL (xs.take (k * 6) ++ zs) (k * 6) [.string x.schema, .string x.table, .int .i64 x.right, .string x.giver, .string x.to, .bool x.opt]).length := by rw [l3]; omega
      rw [r3.2.1 _ hl, List.getElem?_eq_getElem hl]; rfl
    · rw [ld] at hj
      exact r3.2.2 _ (by rw [l3]; omega)
  have HP := Lib.hid (show InsP 76 6 w B (.slice (some ⟨g, 0, none⟩) n n) n k xs [.string x.schema, .string x.table, .int .i64 x.right, .string x.giver, .string x.to, .bool x.opt] (.returned (.slice (some ⟨G, 0, none⟩) (n + 1) c2)) W4 from by
    have o4 := own_setCells (g := G) rfl ds ((k + 1) * 6) o3
    rw [← hW4] at o4
    have e1 : (k + 1) * 6 = k * 6 + 6 := by omega
    rw [e1, ← hds, ins_new xs [.string x.schema, .string x.table, .int .i64 x.right, .string x.giver, .string x.to, .bool x.opt] zs (k * 6) 6 ((n - k) * 6) (by rw [hx]; omega) rfl lz] at o4
    refine ⟨⟨some ⟨G, 0, none⟩, n + 1, c2⟩, rfl, own_down o4 (by omega), ?_, fun x hx => ?_⟩
    · rw [hW4]
      exact (kb3.trans (kb_setCells G _ _ _)).mono fun x hx e => by have e : x = G := e; omega
    · rw [blk_some, List.mem_singleton] at hx
      have hx : x = G := hx
      exact .inr (by omega))
  have hqi : (q : Int) = (n : Int) + 1 - (k : Int) := by omega
  rw [hqi] at hap
  clear hqi
  have hkn : ¬ n = k := by omega
  have hkc : ¬ c2 = k := by omega
  have hkc1 : ¬ c2 = k + 1 := by omega
  have hne : ((k : Int) == (n : Int)) = false := by rw [beq_eq_false_iff_ne]; omega
  have j1 : (k : Int) ≤ (n : Int) := by omega
  have j2 : (k : Int) ≤ (n : Int) + 1 := by omega
  have j3 : (k : Int) + 1 ≤ (n : Int) + 1 := by omega
  have j4 : (0 : Int) ≤ (k : Int) + 1 := by omega
  have j5 : ((n : Int) < (n : Int) + 1) := by omega
  have j6 : (n : Int) + 1 ≤ (c2 : Int) := by omega
  have w2 : IntKind.i64.wrap ((k : Int) + 1) = (k : Int) + 1 := IntWalk.i64_in _ (by omega)
  have hkn2 : k < n := by omega
  clear hnk hq hkq hm2 hW3 hW4 o2 o3 r2 r3 og kb3 hgl hnb2 hnb ho h1 hx lz l2 l3 ld hds hzs a2 z2 hi0 hz0 hz1 hz2 hG hks
  go_enter Tryz.func88, Tryz.ntmps88
  (try simp only [Nat.mul_one] at hcp1 hcp2)
  have HAP := Lib.hid hap
  have HC1 := Lib.hid hcp1
  have HC2 := Lib.hid hcp2
  clear hap hcp1 hcp2
  go_wp2_with (first
    | (at_builtin; refine wpList_append_run8 _ rfl _ _ 64 3 rfl _ _ rfl rfl HAP.out ?_)
    | (refine wpList_copy_run8 _ rfl _ _ 64 64 rfl _ _ rfl rfl (HC1.out _) ?_))
  go_region_law (refine step_copy_run8 rfl _ _ 64 64 rfl _ _ (by simp [Act.eval, Act.put]) (by simp [Act.eval, Act.put]) (HC2.out _) ?_)
  go_wp2_with fail
  go_ret
  exact HP.out
set_option maxHeartbeats 4000000 in
theorem insGra_in (g n cap k m B nb : Nat) (xs : List Value) (x : Gra) (w : World) (ho : w.ownsRow B 76 6 (.slice (some ⟨g, 0, none⟩) n cap) n xs) (hnk : n = k + 1 + m) (hcap : n < cap) (h1 : ∀ u ∈ xs, u.oneCell' = true) (hnb : w.heap[nb]? = some (.cells #[.string x.schema, .string x.table, .int .i64 x.right, .string x.giver, .string x.to, .bool x.opt] 76 (0, 0))) (hng : nb ≠ g) (hn : n ≤ 1000000) :
    Calls Tryz.prog 88 #[.slice (some ⟨g, 0, none⟩) n cap, .int .i64 k, .slice (some ⟨nb, 0, none⟩) 1 1] w (InsP 76 6 w B (.slice (some ⟨g, 0, none⟩) n cap) n k xs [.string x.schema, .string x.table, .int .i64 x.right, .string x.giver, .string x.to, .bool x.opt]) := by
  obtain ⟨i0, hi0, hz0, hz1, hz2⟩ := info_parts info2Gra
  have hx := ho.1
  obtain ⟨cur, hgB, hgg, hcmx, hcs, htk⟩ : ∃ cur : Array Value, B ≤ g ∧ w.heap[g]? = some (.cells cur 76 (0, 0)) ∧ cap ≤ maxLen ∧ cur.size = cap * 6 ∧ cur.toList.take (n * 6) = xs := by
    rcases ho.2 with ⟨hv, _⟩ | ⟨g', c', cur, hv, hb, hg, hc, hm, hs, ht⟩
    · simp at hv
    · simp only [Value.slice.injEq, Option.some.injEq, Addr.mk.injEq, and_true, true_and] at hv
      obtain ⟨rfl, rfl⟩ := hv
      exact ⟨cur, hb, hg, hm, hs, ht⟩
  obtain ⟨ts, hts⟩ : ∃ ts, (cur.toList.drop (n * 6)).take 6 = ts := ⟨_, rfl⟩
  have lts : ts.length = 6 := by rw [← hts, List.length_take, List.length_drop, Array.length_toList, hcs]; omega
  have o1 : w.ownsRow B 76 6 (.slice (some ⟨g, 0, none⟩) (n + 1) cap) (n + 1) (xs ++ ts) := by
    refine ⟨by rw [List.length_append, hx, lts]; omega, .inr ⟨g, cap, cur, rfl, hgB, hgg, by omega, hcmx, hcs, ?_⟩⟩
    rw [← htk, ← hts, Nat.add_mul, Nat.one_mul, ← List.take_add]
  have o1d := own_aft o1 (Aft.refl w).drew
  obtain ⟨_, _, hv1, _, _, r1⟩ := own_rowAt o1d (by omega)
  simp only [Value.slice.injEq, true_and, Option.some.injEq, Addr.mk.injEq, and_true] at hv1
  obtain ⟨rfl, rfl⟩ := hv1
  have l1 : (xs ++ ts).length = (n + 1) * 6 := o1.1
  obtain ⟨ds, hds⟩ : ∃ ds, xs.drop (k * 6) = ds := ⟨_, rfl⟩
  have ld : ds.length = (n - k) * 6 := by rw [← hds, List.length_drop, hx]; omega
  obtain ⟨W1, hW1⟩ : ∃ W1, W1 = w.drew.setCells g ((k + 1) * 6) ds := ⟨_, rfl⟩
  have hcp1 : ∀ ty, (Builtin.copy_ #[64, 64] ty #[.slice (some ⟨g, (k + 1) * 6, none⟩) (n - k) (cap - (k + 1)), .slice (some ⟨g, k * 6, none⟩) (n + 1 - k) (cap - k)]).run Tryz.prog w.drew = .ok (goInt ((n - k : Nat) : Int)) W1 := fun ty => by
    rw [hW1]
    refine run_copy_n w.drew _ _ ty 76 6 g ((k + 1) * 6) (n - k) (cap - (k + 1)) ⟨g, k * 6, none⟩ (n + 1 - k) (cap - k) (n - k) ds Tryz.underlying64 (by rw [hi0]; simp [hz1]) (by show min (n + 1 - k) (n - k) = n - k; omega) ld (fun j u hj => ?_) (fun j hj => ?_) (fun j hj => ?_) (fun u hu => h1 u (by rw [← hds] at hu; exact List.mem_of_mem_drop hu))
    · rw [← hds, List.getElem?_drop] at hj
      rw [Addr.add_lit]
      have h5 := ho.cells (g := g) rfl _ u hj
      rw [Addr.add_lit] at h5
      simpa using h5
    · rw [ld] at hj
      have hl : (k + 1) * 6 + j < (xs ++ ts).length := by rw [l1]; omega
      rw [r1.2.1 _ hl, List.getElem?_eq_getElem hl]; rfl
    · rw [ld] at hj
      exact r1.2.2 _ (by rw [l1]; omega)
  have o2 := own_setCells (g := g) rfl ds ((k + 1) * 6) o1d
  rw [← hW1] at o2
  obtain ⟨_, _, hv2, _, _, r2⟩ := own_rowAt o2 (by omega)
  simp only [Value.slice.injEq, true_and, Option.some.injEq, Addr.mk.injEq, and_true] at hv2
  obtain ⟨rfl, rfl⟩ := hv2
  have l2 : (setL (xs ++ ts) ((k + 1) * 6) ds).length = (n + 1) * 6 := o2.1
  have kb1 : Kb (fun x => x = g) w W1 := by rw [hW1]; exact (Kb.of_aft (Aft.refl w).drew).trans (kb_setCells g _ _ _)
  have hnb1 : W1.heap[nb]? = some (.cells #[.string x.schema, .string x.table, .int .i64 x.right, .string x.giver, .string x.to, .bool x.opt] 76 (0, 0)) := (kb1.block nb (lt_of_block hnb) hng).trans hnb
  obtain ⟨W2, hW2⟩ : ∃ W2, W2 = W1.setCells g (k * 6) [.string x.schema, .string x.table, .int .i64 x.right, .string x.giver, .string x.to, .bool x.opt] := ⟨_, rfl⟩
  have hcp2 : ∀ ty, (Builtin.copy_ #[64, 64] ty #[.slice (some ⟨g, k * 6, none⟩) (n + 1 - k) (cap - k), .slice (some ⟨nb, 0, none⟩) 1 1]).run Tryz.prog W1 = .ok (goInt 1) W2 := fun ty => by
    rw [hW2]
    refine run_copy_n W1 _ _ ty 76 6 g (k * 6) (n + 1 - k) (cap - k) ⟨nb, 0, none⟩ 1 1 1 [.string x.schema, .string x.table, .int .i64 x.right, .string x.giver, .string x.to, .bool x.opt] Tryz.underlying64 (by rw [hi0]; simp [hz1]) (by show min 1 (n + 1 - k) = 1; omega) rfl (World.news_of_block (cs := #[.string x.schema, .string x.table, .int .i64 x.right, .string x.giver, .string x.to, .bool x.opt]) (t := 76) (fr := (0, 0)) hnb1) (fun j hj => ?_) (fun j hj => ?_) (by simp [Value.oneCell'])
    · have hj' : j < 6 := hj
      have hl : k * 6 + j < (setL (xs ++ ts) ((k + 1) * 6) ds).length := by rw [l2]; omega
      rw [r2.2.1 _ hl, List.getElem?_eq_getElem hl]; rfl
    · have hj' : j < 6 := hj
      exact r2.2.2 _ (by rw [l2]; omega)
  have hov : (callFunc 156 #[.slice (some ⟨nb, 0, none⟩) 1 1, .slice (some ⟨g, (k + 1) * 6, none⟩) (n - k) (cap - (k + 1))]).run Tryz.prog w = .ok (.value (.bool false)) w := by
    rw [run_callFunc_extern Tryz.func156 (by kernel_rfl) (by kernel_rfl) (by kernel_rfl) (e := Extern.SlicesOverlaps.overlaps #[64, 64] #[4]) (by kernel_rfl),
      Lib.run_overlaps_apart w 64 4 76 Tryz.underlying64 6 (fun w => by simp [sizeOf, typeInfo, hi0, hz1]) ⟨nb, 0, none⟩ ⟨g, (k + 1) * 6, none⟩ 1 1 (n - k) (cap - (k + 1)) hng 76 76 6 (cap * 6) (by simp [World.shape?, hnb]) (by simp [World.shape?, hgg, hcs]) (by omega) (by simp [World.frozen?, hnb]) (by simp [World.frozen?, hnb])]
    rfl
  have HP := Lib.hid (show InsP 76 6 w B (.slice (some ⟨g, 0, none⟩) n cap) n k xs [.string x.schema, .string x.table, .int .i64 x.right, .string x.giver, .string x.to, .bool x.opt] (.returned (.slice (some ⟨g, 0, none⟩) (n + 1) cap)) W2 from by
    have o3 := own_setCells (g := g) rfl [.string x.schema, .string x.table, .int .i64 x.right, .string x.giver, .string x.to, .bool x.opt] (k * 6) o2
    rw [← hW2] at o3
    have e1 : (k + 1) * 6 = k * 6 + 6 := by omega
    rw [e1, ← hds, ins_same xs [.string x.schema, .string x.table, .int .i64 x.right, .string x.giver, .string x.to, .bool x.opt] ts (k * 6) 6 ((n - k) * 6) (by rw [hx]; omega) rfl lts] at o3
    refine ⟨⟨some ⟨g, 0, none⟩, n + 1, cap⟩, rfl, o3, ?_, fun x hx => .inl (Hd.mem_blk.1 hx)⟩
    rw [hW2]
    exact (kb1.trans (kb_setCells g _ _ _)).mono fun x _ e => by have e : x = g := e; subst e; rfl)
  (try simp only [Nat.mul_one] at hcp1 hcp2 hov)
  have HC1 := Lib.hid hcp1
  have HC2 := Lib.hid hcp2
  have hcap63 : cap ≤ 9223372036854775807 := by simp only [maxLen] at hcmx; omega
  have hkc : ¬ cap = k := by omega
  have hkc1 : ¬ cap = k + 1 := by omega
  have hne : ((k : Int) == (n : Int)) = false := by rw [beq_eq_false_iff_ne]; omega
  have j1 : (k : Int) ≤ (n : Int) := by omega
  have j2 : (k : Int) ≤ (n : Int) + 1 := by omega
  have j3 : (k : Int) + 1 ≤ (n : Int) + 1 := by omega
  have j4 : (0 : Int) ≤ (k : Int) + 1 := by omega
  have j5 : ¬ ((cap : Int) < (n : Int) + 1) := by omega
  have j6 : (n : Int) + 1 ≤ (cap : Int) := by omega
  have j7 : (n : Int) ≤ (cap : Int) := by omega
  have j8 : k < n := by omega
  have w2 : IntKind.i64.wrap ((k : Int) + 1) = (k : Int) + 1 := IntWalk.i64_in _ (by omega)
  have t1 : ((k : Int) + 1).toNat = k + 1 := by omega
  clear hnk hcp1 hcp2 hW1 hW2 o1 o1d o2 r1 r2 kb1 hnb1 hnb ho h1 hx l1 l2 ld hds hi0 hz0 hz1 hz2 htk hts lts hgg hcs hcmx hgB
  go_enter Tryz.func88, Tryz.ntmps88
  go_wp2_with (simp only [hov])
  go_region_law (refine step_copy_run8 rfl _ _ 64 64 rfl _ _ (by simp [Act.eval, Act.put]) (by simp [Act.eval, Act.put]) (HC1.out _) ?_)
  go_wp2_with (refine wpList_copy_run8 _ rfl _ _ 64 64 rfl _ _ rfl rfl (HC2.out _) ?_)
  go_ret
  exact HP.out
/-- Insert, whichever way -/
theorem insGra (A : Option Addr) (n cap k B nb : Nat) (xs : List Value) (x : Gra) (w : World) (ho : w.ownsRow B 76 6 (.slice A n cap) n xs) (hk : k ≤ n) (h1 : ∀ u ∈ xs, u.oneCell' = true) (hnb : w.heap[nb]? = some (.cells #[.string x.schema, .string x.table, .int .i64 x.right, .string x.giver, .string x.to, .bool x.opt] 76 (0, 0))) (hng : (Value.slice A n cap).ownBlock ≠ some nb) (hn : n ≤ 1000000) (hB : B ≤ w.heap.size) :
    Calls Tryz.prog 88 #[.slice A n cap, .int .i64 k, .slice (some ⟨nb, 0, none⟩) 1 1] w (InsP 76 6 w B (.slice A n cap) n k xs [.string x.schema, .string x.table, .int .i64 x.right, .string x.giver, .string x.to, .bool x.opt]) := by
  rcases Nat.lt_or_ge k n with hlt | hge
  · obtain ⟨g, cap', hv, hgB, hnc, hr⟩ := own_rowAt ho (by omega)
    simp only [Value.slice.injEq, true_and] at hv
    obtain ⟨rfl, rfl⟩ := hv
    rcases Nat.lt_or_ge n cap with hc | hc
    · exact insGra_in g n cap k (n - k - 1) B nb xs x w ho (by omega) hc h1 hnb (fun e => hng (by rw [e]; rfl)) hn
    · have : cap = n := by omega
      subst this
      exact insGra_new g cap k (cap - k - 1) B nb xs x w ho (by omega) h1 hnb hn hB
  · have : k = n := by omega
    subst this
    exact insGra_end A k cap B nb xs x w ho hnb hn hB
end Go.Proofs.YtlklmekapbojdaaGreat

