/- Contracts of the program, part 12. -/
import Derived.Shelf.SlSortCmp.WholeK
import Derived.WalkKit
import Derived.WalkSpells
import Derived.WalkLawsBesides
import Derived.Laws.Cells
import Derived.Laws.IdiomCopy
import Derived.Test.YtgkhmnamkfgciaaGreatRows
import Derived.Deep.AppendLies
import Derived.Deep.DeepMust
import Derived.Laws.StructEq
import Derived.OwnWalk
import Derived.Laws.AppendOwn
import Derived.ProofKit
import Derived.OpenShut
import Derived.Deep.Slices
import Derived.ChangeOld
import Derived.SizedLaws
import Derived.Lib.Hide
import Derived.Deep.QuietTactic
import Derived.BigQuiet
import Derived.Below
import Derived.Deep.Draws
import Derived.StillTailTactics
import Derived.Lib.Walk
import Derived.Laws.EntriesVeiled
import Derived.Maps.Own
import Derived.Maps.Views
import Derived.Deep.Upon
import Derived.OneCell
import Derived.OrdersHeld
import Derived.Deep.RegionHeld3
import Derived.IntWalk
import Derived.Lib.Bytealg
import Derived.Lib.SliceRun
import Derived.Deep.RegionLaw
import Derived.Lib.AppendZerosOnto
import Derived.Lib.Overlaps
import Derived.WalkMore
import Derived.WideKeyEntry
import Derived.DeepKeys3
import Derived.ChangeKeys
import Derived.Test.YtgkhmnamkfgciaaGreatPartM1
import Derived.Test.YtgkhmnamkfgciaaGreatPartM2
import Derived.Test.YtgkhmnamkfgciaaGreatPartM3
import Derived.Test.YtgkhmnamkfgciaaGreatPartM4
import Derived.Test.YtgkhmnamkfgciaaGreatPartM5
import Derived.Test.YtgkhmnamkfgciaaGreatPartM6
import Derived.Test.YtgkhmnamkfgciaaGreatPartM7
import Derived.Test.YtgkhmnamkfgciaaGreatPartM8
import Derived.Test.YtgkhmnamkfgciaaGreatPartM9
import Derived.Test.YtgkhmnamkfgciaaGreatPartM10
import Derived.Test.YtgkhmnamkfgciaaGreatPartM11
namespace Go.Proofs.YtgkhmnamkfgciaaGreat
open Go.Shelf Go.Proofs
def sortGra_ren : Go.Shelf.Ren := ⟨fun | 6 => 109 | 15 => 172 | 14 => 171 | 28 => 270 | 29 => 271 | 20 => 262 | 21 => 263 | 22 => 264 | 23 => 265 | 24 => 266 | 25 => 267 | 26 => 268 | 27 => 269 | 46 => 319 | 47 => 320 | 48 => 321 | 49 => 322 | 50 => 323 | 57 => 352 | n => n, fun | 22 => 30 | 24 => 106 | 25 => 154 | 3 => 3 | 39 => 195 | 0 => 0 | 53 => 264 | 55 => 266 | 4 => 4 | 46 => 258 | 45 => 257 | 50 => 130 | 5 => 5 | 9 => 9 | 66 => 294 | 70 => 298 | 76 => 315 | 77 => 316 | n => n, fun | n => n⟩
theorem sortGra_lays : Go.Proofs.SlLaysF0.n6 Tryz.prog sortGra_ren := {
  mixed := by kernel_rfl
  f6 := ⟨Tryz.f109.name, by decide, Tryz.func109.trans (congrArg some (by kernel_rfl))⟩
  f14 := ⟨Tryz.f171.name, by decide, Tryz.func171.trans (congrArg some (by kernel_rfl))⟩
  f15 := Tryz.func172.trans (congrArg some (by kernel_rfl))
  f20 := ⟨Tryz.f262.name, by decide, Tryz.func262.trans (congrArg some (by kernel_rfl))⟩
  f21 := ⟨Tryz.f263.name, by decide, Tryz.func263.trans (congrArg some (by kernel_rfl))⟩
  f22 := ⟨Tryz.f264.name, by decide, Tryz.func264.trans (congrArg some (by kernel_rfl))⟩
  f23 := ⟨Tryz.f265.name, by decide, Tryz.func265.trans (congrArg some (by kernel_rfl))⟩
  f24 := ⟨Tryz.f266.name, by decide, Tryz.func266.trans (congrArg some (by kernel_rfl))⟩
  f25 := ⟨Tryz.f267.name, by decide, Tryz.func267.trans (congrArg some (by kernel_rfl))⟩
  f26 := ⟨Tryz.f268.name, by decide, Tryz.func268.trans (congrArg some (by kernel_rfl))⟩
  f27 := ⟨Tryz.f269.name, by decide, Tryz.func269.trans (congrArg some (by kernel_rfl))⟩
  f28 := Tryz.func270.trans (congrArg some (by kernel_rfl))
  f29 := Tryz.func271.trans (congrArg some (by kernel_rfl))
  f46 := ⟨Tryz.f319.name, by decide, Tryz.func319.trans (congrArg some (by kernel_rfl))⟩
  f47 := Tryz.func320.trans (congrArg some (by kernel_rfl))
  f48 := Tryz.func321.trans (congrArg some (by kernel_rfl))
  f49 := ⟨Tryz.f322.name, by decide, Tryz.func322.trans (congrArg some (by kernel_rfl))⟩
  f50 := ⟨Tryz.f323.name, by decide, Tryz.func323.trans (congrArg some (by kernel_rfl))⟩
  f57 := ⟨Tryz.f352.name, by decide, Tryz.func352.trans (congrArg some (by kernel_rfl))⟩
  t0 := Tryz.underlying0
  a0 := Tryz.isAgg0
  z0 := Tryz.sizeOf0
  v0 := Tryz.zeroValue0
  t3 := Tryz.underlying3
  a3 := Tryz.isAgg3
  z3 := Tryz.sizeOf3
  v3 := Tryz.zeroValue3
  t4 := Tryz.underlying4
  a4 := Tryz.isAgg4
  z4 := Tryz.sizeOf4
  v4 := Tryz.zeroValue4
  t5 := Tryz.underlying5
  a5 := Tryz.isAgg5
  z5 := Tryz.sizeOf5
  v5 := Tryz.zeroValue5
  t9 := Tryz.underlying9
  a9 := Tryz.isAgg9
  z9 := Tryz.sizeOf9
  v9 := Tryz.zeroValue9
  t22 := Tryz.underlying30
  a22 := Tryz.isAgg30
  z22 := Tryz.sizeOf30
  v22 := Tryz.zeroValue30
  t25 := Tryz.underlying154
  a25 := Tryz.isAgg154
  z25 := Tryz.sizeOf154
  v25 := Tryz.zeroValue154
  t39 := Tryz.underlying195
  a39 := Tryz.isAgg195
  z39 := Tryz.sizeOf195
  v39 := Tryz.zeroValue195
  t45 := Tryz.underlying257
  a45 := Tryz.isAgg257
  z45 := Tryz.sizeOf257
  v45 := Tryz.zeroValue257
  t46 := Tryz.underlying258
  a46 := Tryz.isAgg258
  z46 := Tryz.sizeOf258
  v46 := Tryz.zeroValue258
  t50 := Tryz.underlying130
  a50 := Tryz.isAgg130
  z50 := Tryz.sizeOf130
  v50 := Tryz.zeroValue130
  t53 := Tryz.underlying264
  a53 := Tryz.isAgg264
  z53 := Tryz.sizeOf264
  v53 := Tryz.zeroValue264
  t55 := Tryz.underlying266
  a55 := Tryz.isAgg266
  z55 := Tryz.sizeOf266
  v55 := Tryz.zeroValue266
  t66 := Tryz.underlying294
  a66 := Tryz.isAgg294
  z66 := Tryz.sizeOf294
  v66 := Tryz.zeroValue294
  t70 := Tryz.underlying298
  a70 := Tryz.isAgg298
  z70 := Tryz.sizeOf298
  v70 := Tryz.zeroValue298
  t76 := Tryz.underlying315
  a76 := Tryz.isAgg315
  z76 := Tryz.sizeOf315
  v76 := Tryz.zeroValue315
  t77 := Tryz.underlying316
  a77 := Tryz.isAgg316
  z77 := Tryz.sizeOf316
  v77 := Tryz.zeroValue316 }
end Go.Proofs.YtgkhmnamkfgciaaGreat

namespace Go.Proofs.YtgkhmnamkfgciaaGreat
open Go.RowKit Go.Sort Go.Shelf Go.Deep
set_option maxRecDepth 100000
set_option linter.unusedVariables false
instance : Inhabited Gra := ⟨⟨ByteArray.empty, ByteArray.empty, 0, ByteArray.empty, ByteArray.empty, false⟩⟩
theorem oneC_gra (s : Gra) : ∀ u ∈ graC s, u.oneCell' = true := by intro u hu; simp only [graC, List.mem_cons, List.not_mem_nil, or_false] at hu; rcases hu with rfl | rfl | rfl | rfl | rfl | rfl <;> simp [Value.oneCell']
theorem preG : Pre8 cmpG := ⟨ordG.lt, ordG.anti, fun a b d h => by
  have := (fiveE_iff a b).1 ((cmpG_zero a b).1 h)
  unfold fkey at this
  simp only [Prod.mk.injEq] at this
  obtain ⟨h1, h2, h3, h4, h5⟩ := this
  unfold cmpG
  rw [h1, h2, h3, h4, h5]⟩
theorem sortGraF (blk cap B : Nat) (l : List Gra) (h0 : 0 < l.length) (hsz : l.length ≤ 1000000) (w : World) (ho : w.ownsRow B 106 6 (.slice (some ⟨blk, 0, none⟩) l.length cap) l.length (l.flatMap graC)) :
    Calls Tryz.prog 109 #[.slice (some ⟨blk, 0, none⟩) l.length cap, .func (.func 110) #[] #[]] w (SortedP 106 6 graC cmpG w B blk cap l) :=
  sort_own sortGra_lays 6 Tryz.isAgg106 Tryz.sizeOf106 graC (fun _ => rfl) oneC_gra cmpG preG.swo 110 #[] 106 B blk cap l h0 hsz w ho (enters (P := Tryz.prog) Tryz.func110 (by kernel_rfl) rfl) (fun W x y => orderG_gro x y W)
set_option maxHeartbeats 2000000 in
theorem ins0 (f : Value) (hf : ∃ g, f = .func (.func g) #[] #[]) (w : World) : Calls Tryz.prog 262 #[.slice none 0 0, .int .i64 0, .int .i64 0, f] w fun e w' => e = .returned (.tuple #[]) ∧ w = w' := by
  obtain ⟨g, rfl⟩ := hf
  go_enter Tryz.func262, Tryz.ntmps262
  go_wp2_with fail
  go_loopw [8] (fun i wr => i = .int .i64 1 ∧ wr = w) (fun _ _ => 0)
  case atStart => exact ⟨rfl, rfl⟩
  case round =>
    obtain ⟨rfl, rfl⟩ := hrel
    go_wp2_with fail
    go_end0
    exact ⟨rfl, rfl⟩
set_option maxHeartbeats 2000000 in
theorem len64z (w : World) : Calls Tryz.prog 271 #[.int .u64 0] w fun e w' => e = .returned (.int .i64 0) ∧ w = w' := by
  go_enter Tryz.func271, Tryz.ntmps271
  go_wp2_with fail
  go_ret
  exact ⟨Eq.trans (b := .returned (.int .i64 (wrap64 (wrap64 (Lib.len8 0))))) rfl (by rw [show wrap64 (wrap64 (Lib.len8 0)) = 0 by decide +kernel]), rfl⟩
theorem lenz (w : World) : Calls Tryz.prog 172 #[.int .u64 0] w fun e w' => e = .returned (.int .i64 0) ∧ w = w' := by
  go_enter Tryz.func172, Tryz.ntmps172
  go_wp2_with fail
  refine (len64z w).mono ?_
  rintro e w1 ⟨rfl, rfl⟩
  go_wp2_with fail
  go_ret
  exact ⟨by rfl, rfl⟩
set_option maxHeartbeats 4000000 in
theorem pdq0 (g : FuncId) (w : World) : Calls Tryz.prog 171 #[.slice none 0 0, .int .i64 0, .int .i64 0, .int .i64 0, .func (.func g) #[] #[]] w fun e w' => e = .returned (.tuple #[]) ∧ w = w' := by
  have C := Lib.hid (ins0 (.func (.func g) #[] #[]) ⟨g, rfl⟩ w)
  go_enter Tryz.func171, Tryz.ntmps171
  go_wp2_with fail
  go_loopw [1, 2, 3] (fun a b l wr => a = .int .i64 0 ∧ b = .int .i64 0 ∧ l = .int .i64 0 ∧ wr = w) (fun _ _ _ _ => 0)
  case atStart => exact ⟨rfl, rfl, rfl, rfl⟩
  case round =>
    obtain ⟨rfl, rfl, rfl, rfl⟩ := hrel
    go_wp2_with fail
    refine C.out.mono ?_
    rintro e w1 ⟨rfl, rfl⟩
    go_wp2_with fail
    refine bodyPost_ret (results_none rfl _ _ _) rfl ?_
    exact ⟨rfl, rfl⟩
set_option maxHeartbeats 4000000 in
theorem sort0 (g : FuncId) (w : World) : Calls Tryz.prog 109 #[.slice none 0 0, .func (.func g) #[] #[]] w fun e w' => e = .returned (.tuple #[]) ∧ w = w' := by
  go_enter Tryz.func109, Tryz.ntmps109
  go_wp2_with fail
  refine (lenz w).mono ?_
  rintro e w1 ⟨rfl, rfl⟩
  go_wp2_with fail
  refine (pdq0 g w).mono ?_
  rintro e w1 ⟨rfl, rfl⟩
  go_wp2_with fail
  go_end0
  exact ⟨rfl, rfl⟩
/-- whatever the row of our own: it lies in order then -/
theorem sortRow (hd : Hd) (B : Nat) (l : List Gra) (hn : l = [] → hd = ⟨none, 0, 0⟩) (hsz : l.length ≤ 1000000) (w : World) (ho : w.ownsRow B 106 6 (.slice hd.a l.length hd.c) l.length (l.flatMap graC)) :
    Calls Tryz.prog 109 #[.slice hd.a l.length hd.c, .func (.func 110) #[] #[]] w fun e w' => e = .returned (.tuple #[]) ∧
      ∃ l' : List Gra, l'.Perm l ∧ (∀ i j (hi : i < l'.length) (hj : j < l'.length), i < j → ¬ cmpG l'[j] l'[i] < 0) ∧ w'.ownsRow B 106 6 (.slice hd.a l.length hd.c) l.length (l'.flatMap graC) ∧ ∀ W, Aft W w → W.heap.size ≤ B → Aft W w' := by
  cases l with
  | nil =>
    obtain rfl := hn rfl
    refine (sort0 110 w).mono ?_
    rintro e w' ⟨rfl, rfl⟩
    exact ⟨rfl, [], .nil, fun i j hi => absurd hi (by simp), ho, fun W a _ => a⟩
  | cons x l =>
    obtain ⟨g, cap, hv, hB, _⟩ := own_rowAt ho (by simp)
    simp only [Value.slice.injEq] at hv
    rw [hv.1] at ho ⊢
    refine (sortGraF g hd.c B (x :: l) (by simp) hsz w ho).mono ?_
    rintro e w' ⟨rfl, l', h1, h2, h3, h4⟩
    exact ⟨rfl, l', h1, h2, h3, fun W a hW => h4.to_aft a fun k hk e => by omega⟩
end Go.Proofs.YtgkhmnamkfgciaaGreat

namespace Go.Proofs.YtgkhmnamkfgciaaGreat
open Go.RowKit Go.Deep
set_option maxRecDepth 100000
set_option linter.unusedVariables false
/-- what is held of five keys: 1 where a grant of the list has them -/
def hldV (l : List Gra) : List UInt8 → Value := fun s => .int .i64 (if s ∈ l.map fiveS then 1 else 0)
theorem zero_fiv (w : World) : (zeroValue 3).run Tryz.prog w = .ok (.int .i64 0) w := by kernel_rfl
theorem hldV_nil : hldV [] = fun _ => Value.int .i64 0 := by
  funext s; unfold hldV; simp
theorem hldV_key (l : List Gra) (g : Gra) (hl : ∀ x ∈ l, SmG x) (hg : SmG g) : hldV l (fiveS g) = .int .i64 (if inG l g = true then 1 else 0) := by
  unfold hldV
  congr 1
  have : (fiveS g ∈ l.map fiveS) ↔ inG l g = true := by
    rw [inG_iff, List.mem_map, List.mem_map]
    exact ⟨fun ⟨x, hx, e⟩ => ⟨x, hx, (fiveS_inj x g (hl x hx) hg).1 e⟩, fun ⟨x, hx, e⟩ => ⟨x, hx, (fiveS_inj x g (hl x hx) hg).2 e⟩⟩
  by_cases h : inG l g = true
  · rw [if_pos h, if_pos (this.2 h)]
  · rw [if_neg h, if_neg fun e => h (this.1 e)]
theorem hldV_add (l : List Gra) (g : Gra) : hldV (l ++ [g]) = fun x => if x = fiveS g then .int .i64 1 else hldV l x := by
  funext x
  unfold hldV
  by_cases h : x = fiveS g
  · rw [if_pos h, if_pos (by rw [h]; simp)]
  · rw [if_neg h]
    congr 1
    by_cases h2 : x ∈ l.map fiveS
    · rw [if_pos h2, if_pos (by rw [List.map_append]; exact List.mem_append.2 (.inl h2))]
    · rw [if_neg h2, if_neg (by rw [List.map_append, List.mem_append]; simpa [h] using h2)]
/-- what the first loop lays: at a giver's text all that the giver is -/
structure IsS (w : World) (bi : Nat) (c : Cat) (f : Txt → Value) (k : Nat) : Prop where
  all : ∀ s, f s = .slice none 0 0 ∨ ∃ (x : ByteArray) (h : Hd), txt x = s ∧ f s = h.v ∧ w.ownsRow (bi + 1) 9 1 h.v (allL c.rols x).length ((allL c.rols x).flatMap nameC) ∧ 0 < (allL c.rols x).length
  dn : ∀ j, j < k → ∀ (hj : j < c.grants.length), f (txt c.grants[j].giver) ≠ .slice none 0 0
theorem IsS.kb {Q : Nat → Prop} {w w' : World} {bi : Nat} {c : Cat} {f : Txt → Value} {k : Nat} (h : IsS w bi c f k) (kb : Kb Q w w') (hQ : ∀ g, bi + 1 ≤ g → g < w.heap.size → ¬ Q g) : IsS w' bi c f k :=
  ⟨fun s => (h.all s).imp id fun ⟨x, d, e1, e2, ho, hl⟩ => ⟨x, d, e1, e2, own_kb ho kb fun g hg => hQ g (ho.lt g hg).1 (ho.lt g hg).2, hl⟩, h.dn⟩
theorem IsS.aft {w w' : World} {bi : Nat} {c : Cat} {f : Txt → Value} {k : Nat} (h : IsS w bi c f k) (a : Aft w w') : IsS w' bi c f k := h.kb (Q := fun _ => False) (Kb.of_aft a) fun _ _ _ h => h
/-- the row at a giver's text -/
theorem IsS.at {w : World} {bi : Nat} {c : Cat} {f : Txt → Value} {k : Nat} (h : IsS w bi c f k) {g : ByteArray} (hn : f (txt g) ≠ .slice none 0 0) : ∃ d : Hd, f (txt g) = .slice d.a (allL c.rols g).length d.c ∧ w.ownsRow (bi + 1) 9 1 d.v (allL c.rols g).length ((allL c.rols g).flatMap nameC) ∧ 0 < (allL c.rols g).length := by
  rcases h.all (txt g) with e | ⟨x, d, e1, e2, ho, hl⟩
  · exact absurd e hn
  · have := txt_inj e1
    subst this
    exact ⟨d, by rw [e2]; exact own_slice ho, ho, hl⟩
theorem IsS.put {w w' : World} {bi : Nat} {c : Cat} {f : Txt → Value} {k : Nat} (h : IsS w bi c f k) (kb : Kb (fun g => g = bi) w w') {x : ByteArray} {d : Hd} (ho : w'.ownsRow (bi + 1) 9 1 d.v (allL c.rols x).length ((allL c.rols x).flatMap nameC)) (hl : 0 < (allL c.rols x).length) (hx : ∀ (hk : k < c.grants.length), c.grants[k].giver = x) :
    IsS w' bi c (fun s => if s = txt x then d.v else f s) (k + 1) := by
  have hd : d.v ≠ .slice none 0 0 := by
    rw [own_slice ho]
    intro e
    simp only [Value.slice.injEq] at e
    omega
  have h' := h.kb kb fun g hg _ e => by omega
  refine ⟨fun s => ?_, fun j hj hj2 => ?_⟩
  · by_cases e : s = txt x
    · exact .inr ⟨x, d, e.symm, by simp only [e, if_true], ho, hl⟩
    · simp only [if_neg e]; exact h'.all s
  · split
    · exact hd
    · rename_i hne
      rcases Nat.lt_or_ge j k with h1 | h1
      · exact h.dn j h1 hj2
      · have : j = k := by omega
        subst this
        exact absurd (by rw [hx hj2]) hne
theorem IsS.skip {w : World} {bi : Nat} {c : Cat} {f : Txt → Value} {k : Nat} (h : IsS w bi c f k) (hx : ∀ (hk : k < c.grants.length), f (txt c.grants[k].giver) ≠ .slice none 0 0) : IsS w bi c f (k + 1) :=
  ⟨h.all, fun j hj hj2 => by
    rcases Nat.lt_or_ge j k with h1 | h1
    · exact h.dn j h1 hj2
    · have : j = k := by omega
      subst this
      exact hx hj2⟩
structure HoS (w wr : World) (bh bi : Nat) (cb : List Value) (c : Cat) (l : List Gra) (f : Txt → Value) (k : Nat) : Prop where
  aft : Aft w wr
  box : RowAt wr w.heap.size cb
  mh : MapF Tryz.prog 151 wr bh l.length (.int .i64 0) (hldV l)
  mi : MapF Tryz.prog 9 wr bi k (.slice none 0 0) f
  is : IsS wr bi c f k
theorem HoS.to {w wr w' : World} {bh bi : Nat} {cb : List Value} {c : Cat} {l : List Gra} {f : Txt → Value} {k : Nat} (h : HoS w wr bh bi cb c l f k) (a : Aft wr w') : HoS w w' bh bi cb c l f k := ⟨h.aft.trans a, h.box.aft a, h.mh.aft a, h.mi.aft a, h.is.aft a⟩
theorem stands_allL {c : Cat} (h : standsB c = true) {g : Gra} (hg : g ∈ c.grants) : 0 < (allL c.rols g.giver).length ∧ allL c.rols g.giver = c.rols.names.filter (reachB c.rols.members g.giver) := by
  obtain ⟨_, ⟨_, h2, _, _⟩, h3, _⟩ := stands_iff.1 h
  have h4 := (ok_parts (h3 g hg)).2.2.2.1
  have e : allL c.rols g.giver = c.rols.names.filter (reachB c.rols.members g.giver) := by unfold allL; rw [h2, h4]; rfl
  refine ⟨List.length_pos_of_mem (a := g.giver) ?_, e⟩
  rw [e]
  exact List.mem_filter.2 ⟨(inB_mem _ _).1 h4, reachB_refl _ _⟩
theorem stands_tab {c : Cat} (h : standsB c = true) {g : Gra} (hg : g ∈ c.grants) : (tabF c.objs g.schema g.table).schema = g.schema ∧ (tabF c.objs g.schema g.table).name = g.table ∧ 0 ≤ schAt c.objs.schemas g.schema := by
  obtain ⟨_, ⟨h1, _, _, _⟩, h3, _⟩ := stands_iff.1 h
  have h4 := (ok_parts (h3 g hg)).1
  obtain ⟨q, hq⟩ := Int.eq_ofNat_of_zero_le h4
  have hr : tabAt c.objs.tables g.schema g.table < c.objs.tables.length := (idxP_range _ _).2
  have hl : q < c.objs.tables.length := by omega
  have e := tabF_some hq hl
  have hp := idxP_at _ c.objs.tables q hl hq
  simp only [Bool.and_eq_true, eqS_iff] at hp
  rw [e]
  refine ⟨hp.1, hp.2, ?_⟩
  have hc : rightT c.objs c.objs.tables[q] = true := by
    unfold checkO at h1
    simp only [Bool.and_eq_true, List.all_eq_true] at h1
    exact h1.2.2 _ (List.getElem_mem hl)
  unfold rightT at hc
  simp only [Bool.and_eq_true, decide_eq_true_eq] at hc
  rw [← hp.1]
  exact hc.1.2
/-- the state of the second loop: what is found, and where it lies -/
structure HoM (wF wr : World) (bh : Nat) (c : Cat) (l : List Gra) (hd : Hd) : Prop where
  kb : Kb (fun g => g = bh) wF wr
  mh : MapF Tryz.prog 151 wr bh l.length (.int .i64 0) (hldV l)
  row : wr.ownsRow wF.heap.size 106 6 hd.v l.length (l.flatMap graC)
  fnd : HeldL c l
  nil : l = [] → hd = ⟨none, 0, 0⟩
theorem HoM.to {wF wr w' : World} {bh : Nat} {c : Cat} {l : List Gra} {hd : Hd} (h : HoM wF wr bh c l hd) (a : Aft wr w') : HoM wF w' bh c l hd := ⟨h.kb.trans (Kb.of_aft a), h.mh.aft a, own_aft h.row a, h.fnd, h.nil⟩
theorem HoM.next {wF u7 u8 : World} {bh : Nat} {c : Cat} {l : List Gra} {hd : Hd} {g : Gra} {gg cap : Nat} {o : Obj} (h : HeldL c l) (hg : g ∈ c.grants) (hin : inG l g = false) (hj : justB c l g = true)
    (h7 : Kb (fun g => g = bh) wF u7 ∧ MapF Tryz.prog 151 u7 bh (l ++ [g]).length (.int .i64 0) (hldV (l ++ [g])) ∧ u7.ownsRow wF.heap.size 106 6 (.slice hd.a l.length hd.c) l.length (l.flatMap graC) ∧ wF.heap.size ≤ u7.heap.size) (zb : bh < wF.heap.size)
    (ho : u8.ownsRow wF.heap.size 106 6 (.slice (some ⟨gg, 0, none⟩) (l.length + 1) cap) (l.length + 1) (l.flatMap graC ++ graC g)) (hgr : (u7.alloc o).grownBy u8 (Value.slice hd.a l.length hd.c).ownBlock) :
    HoM wF u8 bh c (l ++ [g]) ⟨some ⟨gg, 0, none⟩, l.length + 1, cap⟩ := by
  obtain ⟨k7, m7, r7, z7⟩ := h7
  have a7 : Aft u7 (u7.alloc o) := (Aft.refl _).alloc _
  have k8 := Kb.of_grown hgr
  have hq : ∀ k, (Value.slice hd.a l.length hd.c).ownBlock = some k → wF.heap.size ≤ k := fun k e => (r7.lt k e).1
  refine ⟨?_, (m7.aft a7).kb k8 fun e => by have := hq _ e; omega, ?_, h.add hg hin hj, fun e => by simp at e⟩
  · have k9 : Kb (fun k => k = bh ∨ (Value.slice hd.a l.length hd.c).ownBlock = some k) wF u8 := ((k7.mono fun k _ e => .inl e).trans (Kb.of_aft a7)).trans (k8.mono fun k _ e => .inr e)
    exact k9.mono fun k hk e => by
      rcases e with e | e
      · exact e
      · have := hq k e; omega
  · show u8.ownsRow wF.heap.size _ 6 (.slice (some ⟨gg, 0, none⟩) (l.length + 1) cap) (l ++ [g]).length ((l ++ [g]).flatMap graC)
    rw [List.length_append, List.flatMap_append, List.flatMap_cons, List.flatMap_nil, List.append_nil]
    exact ho
def HoldP (w : World) (c : Cat) (e : Ending) (w' : World) : Prop := ∃ h : Hd, e = .returned h.v ∧ Aft w w' ∧ w'.ownsRow w.heap.size 106 6 h.v (holdL c).length ((holdL c).flatMap graC)
set_option maxHeartbeats 16000000 in
theorem holdG (c : Cat) (As : Option Addr) (caps : Nat) (At : Option Addr) (capt : Nat) (An : Option Addr) (capn : Nat) (Am : Option Addr) (capm : Nat) (Ag : Option Addr) (capg : Nat) (w : World) (H : CatAt w c As caps At capt An capn Am capm Ag capg) :
    Calls Tryz.prog 62 #[.agg #[.int .i64 c.epoch, .int .i64 c.version, .slice As c.objs.schemas.length caps, .slice At c.objs.tables.length capt, .slice An c.rols.names.length capn, .slice Am c.rols.members.length capm, .slice Ag c.grants.length capg]] w (HoldP w c) := by
  have hlen := H.gra.len
  have hmm := @run_makeMap Tryz.prog
  obtain ⟨W, hW⟩ : ∃ W, W = w.alloc (.cells #[.int .i64 c.epoch, .int .i64 c.version, .slice As c.objs.schemas.length caps, .slice At c.objs.tables.length capt, .slice An c.rols.names.length capn, .slice Am c.rols.members.length capm, .slice Ag c.grants.length capg] 32) := ⟨_, rfl⟩
  have aW : Aft w W := by rw [hW]; exact (Aft.refl w).alloc _
  have r0 : RowAt W (w.heap.size) [.int .i64 c.epoch, .int .i64 c.version, .slice As c.objs.schemas.length caps, .slice At c.objs.tables.length capt, .slice An c.rols.names.length capn, .slice Am c.rols.members.length capm, .slice Ag c.grants.length capg] := by rw [hW]; exact box_at (Aft.refl _) (by simp)
  obtain ⟨st, hst⟩ : ∃ b, standsB c = b := ⟨_, rfl⟩
  have C1 := Lib.hid (show Calls Tryz.prog 107 #[.agg #[.int .i64 c.epoch, .int .i64 c.version, .slice As c.objs.schemas.length caps, .slice At c.objs.tables.length capt, .slice An c.rols.names.length capn, .slice Am c.rols.members.length capm, .slice Ag c.grants.length capg]] W fun e w'' => e = .returned (.bool st) ∧ Aft W w'' from (standsG c As caps At capt An capn Am capm Ag capg W (H.aft aW)).mono fun e w'' ⟨he, hw⟩ => ⟨he.trans (by rw [hst]), hw⟩)
  have HST := Lib.hid hst
  have HH := Lib.hid H
  have HAW := Lib.hid aW
  have HR0 := Lib.hid r0
  obtain ⟨x0, x1, x2, x3, x4, x5, x6, xz⟩ := rowF7 r0
  clear hst H aW r0
  go_enter Tryz.func62, Tryz.ntmps62
  go_wp2_with fail
  rw [← hW]
  clear hW
  go_step3
  go_wp2_with fail
  refine C1.out.mono ?_
  rintro e w1 ⟨rfl, a1⟩
  clear C1 x0 x1 x2 x3 x4 x5 x6 xz
  cases st
  case false =>
    have HF := Lib.hid (show holdL c = [] by unfold holdL; rw [HST.out]; rfl)
    have HA := Lib.hid (HAW.out.trans a1)
    clear a1
    go_wp2_with fail
    go_ret
    exact ⟨⟨none, 0, 0⟩, rfl, HA.out, by rw [HF.out]; exact own_nil _ _ _ _⟩
  have p0 := HR0.out.aft a1
  have x6 := p0.cell (j := 6) rfl
  have xz := p0.1
  obtain ⟨bh, hbh⟩ : ∃ b, b = w1.heap.size := ⟨_, rfl⟩
  obtain ⟨bi, hbi⟩ : ∃ b, b = w1.heap.size + 1 := ⟨_, rfl⟩
  obtain ⟨cb, hcb⟩ : ∃ cb : List Value, cb = [.int .i64 c.epoch, .int .i64 c.version, .slice As c.objs.schemas.length caps, .slice At c.objs.tables.length capt, .slice An c.rols.names.length capn, .slice Am c.rols.members.length capm, .slice Ag c.grants.length capg] := ⟨_, rfl⟩
  rw [← hcb] at p0
  have HCB := Lib.hid hcb
  clear hcb
  have S0 := Lib.hid (show HoS w ((w1.alloc (.map #[] 0)).alloc (.map #[] 0)) bh bi cb c [] (fun _ => .slice none 0 0) 0 from by
    have a2 : Aft w1 (w1.alloc (.map #[] 0)) := (Aft.refl _).alloc _
    have a3 : Aft (w1.alloc (.map #[] 0)) ((w1.alloc (.map #[] 0)).alloc (.map #[] 0)) := (Aft.refl _).alloc _
    refine ⟨(HAW.out.trans a1).trans (a2.trans a3), p0.aft (a2.trans a3), ?_, ?_, fun s => .inl rfl, fun j hj => absurd hj (Nat.not_lt_zero j)⟩
    · rw [hbh, hldV_nil]; exact (mapF_made w1 _).aft a3
    · rw [hbi]
      have := mapF_made (P := Tryz.prog) (k := 9) (w1.alloc (.map #[] 0)) (.slice none 0 0)
      simpa using this)
  have hB := Lib.hid (show w.heap.size < bh ∧ bh < bi by rw [hbh, hbi]; have := (HAW.out.trans a1).size; have := HR0.out.1; have := a1.size; omega)
  clear a1 p0
  go_wp2_with fail
  rw [← hbi, ← hbh]
  have HSTD := Lib.hid (show standsB c = true from HST.out)
  have hlt64 : c.grants.length ≤ 64 := (stands_iff.1 HST.out).1
  go_loopw [20] (fun i wr => ∃ (k : Nat) (f : Txt → Value), k ≤ c.grants.length ∧ i = .int .i64 k ∧ HoS w wr bh bi cb c [] f k) (fun i _ => c.grants.length - (intOf i).toNat)
  case atStart => exact ⟨0, _, Nat.zero_le _, rfl, S0.out⟩
  case round =>
    clear S0 x6 xz hbh hbi
    obtain ⟨k, f, hk, rfl, hs⟩ := hrel
    have HS := Lib.hid hs
    by_cases hlt : k < c.grants.length
    · obtain ⟨b, off, rfl, hb, t0, t1, t2, t3, t4, t5, sg⟩ := gra_at (gras_aft hs.aft HH.out.gra) hlt
      obtain ⟨g, hg⟩ : ∃ g, c.grants[k] = g := ⟨_, rfl⟩
      rw [hg] at t0 t1 t2 t3 t4 t5 sg
      obtain ⟨X, hX⟩ : ∃ V, V = wr.alloc (.cells #[.string g.schema, .string g.table, .int .i64 g.right, .string g.giver, .string g.to, .bool g.opt] 106) := ⟨_, rfl⟩
      have aX : Aft wr X := by rw [hX]; exact (Aft.refl wr).alloc _
      have SX := Lib.hid (hs.to aX)
      have RX := Lib.hid (show RowAt X wr.heap.size [.string g.schema, .string g.table, .int .i64 g.right, .string g.giver, .string g.to, .bool g.opt] by rw [hX]; exact box_row2 (Aft.refl _))
      have HGM := Lib.hid (show g ∈ c.grants by rw [← hg]; exact List.getElem_mem hlt)
      have HG := Lib.hid (show ∀ (h : k < c.grants.length), c.grants[k].giver = g.giver from fun _ => by rw [hg])
      have LK0 := (hs.to aX).mi.look Tryz.underlying9 Tryz.underlying149 (zero_strs X) g.giver sg.2.2.1.max
      have LK : (Instr.lookup 149 (.map (some bi)) (.string g.giver) false).run Tryz.prog X = .ok (f (txt g.giver)) X := LK0
      have HSG := Lib.hid sg
      by_cases hf : f (txt g.giver) = .slice none 0 0
      · rw [hf, hX] at LK
        have HF := Lib.hid hf
        have HSTL := Lib.hid (stands_allL HSTD.out HGM.out).1
        have K3 := Lib.hid (show ∀ w', Aft X w' → Calls Tryz.prog 74 #[.agg #[.slice An c.rols.names.length capn, .slice Am c.rols.members.length capm], .string g.giver] w' (AllP c.rols g.giver w') from fun w' a => all8 c.rols An capn Am capm g.giver w' (strs_aft (SX.out.aft.trans a) HH.out.nam) (mbrs_aft (SX.out.aft.trans a) HH.out.mem) HSG.out.2.2.1)
        have KS := Lib.hid (show ∀ V, Aft X V → V.cell? ⟨w.heap.size, 4, none⟩ = some (.slice An c.rols.names.length capn) ∧ V.cell? ⟨w.heap.size, 5, none⟩ = some (.slice Am c.rols.members.length capm) ∧ V.cell? ⟨wr.heap.size, 3, none⟩ = some (.string g.giver) from fun V a => by
          have p0 := SX.out.box.aft a
          rw [HCB.out] at p0
          exact ⟨p0.cell (j := 4) rfl, p0.cell (j := 5) rfl, (RX.out.aft a).cell (j := 3) rfl⟩)
        have zbi := hs.mi.lt
        have ZX := Lib.hid (show wr.heap.size ≤ X.heap.size from aX.size)
        have KS2 := Lib.hid (show ∀ V V', Aft X V → V.grownBy V' (some bi) → V'.cell? ⟨w.heap.size, 4, none⟩ = some (.slice An c.rols.names.length capn) ∧ V'.cell? ⟨w.heap.size, 5, none⟩ = some (.slice Am c.rols.members.length capm) ∧ V'.cell? ⟨wr.heap.size, 3, none⟩ = some (.string g.giver) from fun V V' a gr => by
          obtain ⟨h4, h5, h3⟩ := KS.out V a
          have kb := Kb.of_grown gr
          have := hB.out
          exact ⟨kb.cell h4 (fun e => by simp only [Option.some.injEq] at e; omega), kb.cell h5 (fun e => by simp only [Option.some.injEq] at e; omega), kb.cell h3 (fun e => by simp only [Option.some.injEq] at e; omega)⟩)
        clear hf hs aX LK0 hg sg
        go_wp2_with fail
        rw [← hX]
        clear hX t0 t1 t2 t3 t4 t5 LK hb
        go_region_held3 (fun V => V.cell? ⟨w.heap.size, 4, none⟩ = some (.slice An c.rols.names.length capn) ∧ V.cell? ⟨w.heap.size, 5, none⟩ = some (.slice Am c.rols.members.length capm) ∧ V.cell? ⟨wr.heap.size, 3, none⟩ = some (.string g.giver))
          (first | exact KS.out _ (Aft.refl _).drew | exact KS.out _ A5.out | exact K6.out)
          ((go_at_call 74; refine (K3.out _ (Aft.refl X).drew).mono ?_; rintro e w5 ⟨d, rfl, a5, ho5⟩; have A5 := Lib.hid ((Aft.refl X).drew.trans a5); have HO5 := Lib.hid (And.intro a5 ho5); clear a5 ho5; obtain ⟨w6, p6, M6, g6⟩ := (SX.out.mi.aft A5.out).put Tryz.underlying9 Tryz.underlying149 (by unfold maxLen; omega) g.giver HSG.out.2.2.1.max d.v; have K6 := Lib.hid (KS2.out w5 w6 A5.out g6); have HM6 := Lib.hid (And.intro M6 g6); clear M6 g6))
        have HNEXT := Lib.hid (show HoS w w6 bh bi cb c [] (fun s => if s = txt g.giver then d.v else f s) (k + 1) from by
          have kb := Kb.of_grown HM6.out.2
          have kb' : Kb (fun g => g = bi) w5 w6 := kb.mono fun g _ e => (Option.some.inj e).symm
          have hbb := hB.out
          have s5 := SX.out.to A5.out
          have zX : bi < X.heap.size := Nat.lt_of_lt_of_le zbi (by have := SX.out.aft.size; exact Nat.le_of_lt (Nat.lt_of_lt_of_le zbi (ZX.out)) |> fun _ => ZX.out)
          have ho5 : w5.ownsRow (bi + 1) 9 1 d.v (allL c.rols g.giver).length ((allL c.rols g.giver).flatMap nameC) := own_down HO5.out.2 (by show bi + 1 ≤ X.heap.size; omega)
          refine ⟨kb'.to_aft s5.aft (fun g hg e => by omega), kb'.row s5.box (by omega), s5.mh.kb kb' (by omega), HM6.out.1, ?_⟩
          exact s5.is.put kb' (own_kb ho5 kb' fun g hg e => by have := (ho5.lt g hg).1; omega) HSTL.out HG.out)
        go_wp2_with fail
        go_roundw
        case rel => exact ⟨k + 1, _, by omega, by go_num, HNEXT.out⟩
        case measure => simp [intOf]; omega
      · obtain ⟨d, hd, ho, hdl⟩ := (hs.to aX).is.at hf
        rw [hd, hX] at LK
        have hd0 : ¬ (((allL c.rols g.giver).length : Nat) : Int) = 0 := by omega
        have hd1 : ((((allL c.rols g.giver).length : Nat) : Int) == 0) = false := by simpa using hd0
        have HNEXT := Lib.hid (show HoS w X bh bi cb c [] f (k + 1) from ⟨SX.out.aft, SX.out.box, SX.out.mh, SX.out.mi.mono (by omega), SX.out.is.skip fun h => by rw [HG.out h]; exact hf⟩)
        clear hf hd ho hs aX sg LK0 hg hd0
        go_wp2_with fail
        go_roundw
        case rel => exact ⟨k + 1, f, by omega, by go_num, by rw [← hX]; exact HNEXT.out⟩
        case measure => simp [intOf]; omega
    · have hkl : k = c.grants.length := by omega
      subst hkl
      clear hs
      obtain ⟨wF, hwF⟩ : ∃ V, V = wr := ⟨_, rfl⟩
      subst hwF
      have KA := Lib.hid (show ∀ V, Kb (fun g => g = bh) wF V → Aft w V ∧ RowAt V w.heap.size cb ∧ MapF Tryz.prog 9 V bi c.grants.length (.slice none 0 0) f ∧ IsS V bi c f c.grants.length from fun V kb => by
        have hb := hB.out
        exact ⟨kb.to_aft HS.out.aft fun g hg e => by omega, kb.row HS.out.box (by omega), HS.out.mi.kb kb (by omega), HS.out.is.kb kb fun g hg _ e => by omega⟩)
      have HM0 := Lib.hid (show HoM wF wF bh c [] ⟨none, 0, 0⟩ from ⟨Kb.of_aft (Aft.refl _), HS.out.mh, own_nil _ _ _ _, HeldL.nil c, fun _ => rfl⟩)
      have HSM := Lib.hid (sm_gras HH.out.gra).2
      have p0 := HS.out.box
      rw [HCB.out] at p0
      have x6 := p0.cell (j := 6) rfl
      have xz := p0.1
      have zFw := Lib.hid HS.out.aft.size
      clear p0
      go_wp2_with fail
      go_step3
      go_wp2_with fail
      go_loopw [7] (fun u7 wr => ∃ (l : List Gra) (hd : Hd), u7 = .slice hd.a l.length hd.c ∧ HoM wF wr bh c l hd) (fun u7 _ => c.grants.length - (match u7 with | .slice _ n _ => n | _ => 0))
      case atStart => exact ⟨[], ⟨none, 0, 0⟩, rfl, HM0.out⟩
      case round =>
        clear x6 xz HM0
        obtain ⟨l, hd, rfl, hm⟩ := hrel
        have HM := Lib.hid hm
        have hll := hm.fnd.len
        obtain ⟨wo, hwo⟩ : ∃ V, V = wr := ⟨_, rfl⟩
        subst hwo
        have p0 := (KA.out wo hm.kb).2.1
        rw [HCB.out] at p0
        have x6 := p0.cell (j := 6) rfl
        have xz := p0.1
        clear p0 hm
        go_wp2_with fail
        go_loopw [7, 45] (fun u7 i wr => ∃ k : Nat, u7 = .slice hd.a l.length hd.c ∧ k ≤ c.grants.length ∧ i = .int .i64 k ∧ Aft wo wr ∧ ∀ j, j < k → ∀ (hj : j < c.grants.length), inG l c.grants[j] = false → justB c l c.grants[j] = false) (fun _ i _ => c.grants.length - (intOf i).toNat)
        case atStart => exact ⟨0, rfl, Nat.zero_le _, rfl, Aft.refl _, fun j hj => absurd hj (Nat.not_lt_zero j)⟩
        case round =>
          clear x6 xz
          obtain ⟨k, rfl, hk, rfl, ha, hcl⟩ := hrel
          have HAR := Lib.hid ha
          have HCL := Lib.hid hcl
          clear ha hcl
          by_cases hlt : k < c.grants.length
          · have hm := HM.out.to HAR.out
            obtain ⟨aw, bx, mi, is⟩ := KA.out wr hm.kb
            obtain ⟨b, off, rfl, hb, t0, t1, t2, t3, t4, t5, sg⟩ := gra_at (gras_aft aw HH.out.gra) hlt
            obtain ⟨g, hg⟩ : ∃ g, c.grants[k] = g := ⟨_, rfl⟩
            rw [hg] at t0 t1 t2 t3 t4 t5 sg
            have HGM := Lib.hid (show g ∈ c.grants by rw [← hg]; exact List.getElem_mem hlt)
            have HG := Lib.hid hg
            have HSG := Lib.hid sg
            rw [HCB.out] at bx
            obtain ⟨x0, x1, x2, x3, x4, x5, x6, xz⟩ := rowF7 bx
            obtain ⟨X, hX⟩ : ∃ V, V = wr.alloc (.cells #[.string g.schema, .string g.table, .int .i64 g.right, .string g.giver, .string g.to, .bool g.opt] 106) := ⟨_, rfl⟩
            have aX : Aft wr X := by rw [hX]; exact (Aft.refl wr).alloc _
            have RX := Lib.hid (show RowAt X wr.heap.size [.string g.schema, .string g.table, .int .i64 g.right, .string g.giver, .string g.to, .bool g.opt] by rw [hX]; exact box_row2 (Aft.refl _))
            have AX := Lib.hid (HAR.out.trans aX)
            have C := Lib.hid (tableG c As caps At capt An capn Am capm (some ⟨b, off, none⟩) capg g.schema g.table X (tabs_aft (aw.trans aX) HH.out.tab))
            have HZR := Lib.hid (show bh < wr.heap.size from hm.mh.lt)
            have HZF := Lib.hid (show bh < wF.heap.size from HS.out.mh.lt)
            clear aw bx mi is hm hg aX sg
            go_wp2_with fail
            rw [← hX]
            clear hX t0 t1 t2 t3 t4 t5 x0 x1 x2 x3 x4 x5 x6 xz hb
            refine C.out.mono ?_
            rintro e w5 ⟨A2, c2, A3, c3, rfl, a5⟩
            have HTT := Lib.hid (stands_tab HSTD.out HGM.out)
            obtain ⟨T, hT⟩ : ∃ T, tabF c.objs g.schema g.table = T := ⟨_, rfl⟩
            rw [hT] at HTT ⊢
            generalize decide (0 ≤ tabAt c.objs.tables g.schema g.table) = tb
            obtain ⟨Y, hY⟩ : ∃ V, V = w5.alloc (.cells #[.string T.schema, .string T.name, .string T.owner, .slice A2 T.cols.length c2, .slice A3 T.rules.length c3] 86) := ⟨_, rfl⟩
            have aY : Aft w5 Y := by rw [hY]; exact (Aft.refl w5).alloc _
            have RY := Lib.hid (show RowAt Y w5.heap.size [.string T.schema, .string T.name, .string T.owner, .slice A2 T.cols.length c2, .slice A3 T.rules.length c3] by rw [hY]; exact box_row2 (Aft.refl _))
            have AY := Lib.hid (AX.out.trans (a5.trans aY))
            have RX5 := Lib.hid (RX.out.aft a5)
            have RXY := Lib.hid (RX.out.aft (a5.trans aY))
            obtain ⟨y0, y1, y2, y3, y4, y5, yz⟩ := rowF6 RX5.out
            have HJB := Lib.hid (show justB c l g = (bossB c.objs (allL c.rols g.giver) T || givesB l (allL c.rols g.giver) T.schema T.name g.right true) by unfold justB; rw [hT, HTT.out.1, HTT.out.2.1])
            clear a5 aY hT C
            go_wp2_with fail
            rw [← hY]
            clear hY y0 y1 y2 y3 y4 y5 yz
            refine (ofG g _).mono ?_
            rintro e w6 ⟨rfl, a6⟩
            have HM6 := Lib.hid (HM.out.to (AY.out.trans a6))
            have A6 := Lib.hid (AY.out.trans a6)
            have RX6 := Lib.hid (RXY.out.aft a6)
            have RY6 := Lib.hid (RY.out.aft a6)
            obtain ⟨aw6, bx6, mi6, is6⟩ := KA.out w6 HM6.out.kb
            have HSL := Lib.hid (show ∀ x ∈ l, SmG x from fun x hx => HSM.out x (HM6.out.fnd.sub x hx).mem)
            have LKH0 := HM6.out.mh.lookK five_keyed Tryz.underlying148 (zero_fiv w6) (fiveV g) (fiveS g) (five_key g HSG.out)
            rw [hldV_key l g HSL.out HSG.out] at LKH0
            have LKH : (Instr.lookup 148 (.map (some bh)) (.agg #[.string g.schema, .string g.table, .int .i64 g.right, .string g.giver, .string g.to]) false).run Tryz.prog w6 = .ok (.int .i64 (if inG l g = true then 1 else 0)) w6 := LKH0
            have LKI0 := mi6.look Tryz.underlying9 Tryz.underlying149 (zero_strs w6) g.giver HSG.out.2.2.1.max
            have LKI1 : (Instr.lookup 149 (.map (some bi)) (.string g.giver) false).run Tryz.prog w6 = .ok (f (txt g.giver)) w6 := LKI0
            have hfn : f (txt g.giver) ≠ .slice none 0 0 := by have := is6.dn k hlt hlt; rw [HG.out] at this; exact this
            obtain ⟨d, hfd, hod, hdl⟩ := is6.at hfn
            rw [hfd] at LKI1
            have HIS := Lib.hid (show ∀ V, Kb (fun g => g = bh) wF V → ∃ (_ : True), SlAt V 1 StrR d.a d.c (allL c.rols g.giver) ∧ (Instr.lookup 149 (.map (some bi)) (.string g.giver) false).run Tryz.prog V = .ok (.slice d.a (allL c.rols g.giver).length d.c) V from fun V kb => by
              obtain ⟨awV, bxV, miV, isV⟩ := KA.out V kb
              obtain ⟨d', hfd', hod', _⟩ := isV.at hfn
              have e1 : d'.a = d.a ∧ d'.c = d.c := by rw [hfd] at hfd'; simp only [Value.slice.injEq] at hfd'; exact ⟨hfd'.1.symm, hfd'.2.2.symm⟩
              have sn := sm_names (strs_aft awV HH.out.nam)
              have sl := own_slf (R := StrR) nameC hod' (fun x hx => ⟨rfl, rfl, sn.2 x (allL_mem hx)⟩) (by have := sn.1; have := allL_len c.rols g.giver; unfold Small at *; omega)
              rw [e1.1, e1.2] at sl
              have := miV.look Tryz.underlying9 Tryz.underlying149 (zero_strs V) g.giver HSG.out.2.2.1.max
              exact ⟨trivial, sl, this.trans (by rw [show f g.giver.data.toList = f (txt g.giver) from rfl, hfd])⟩)
            clear LKH0 LKI0 mi6 is6 hfd hod hfn a6
            rw [HCB.out] at bx6
            obtain ⟨x0, x1, x2, x3, x4, x5, x6, xz⟩ := rowF7 bx6
            have y3 := RX6.out.cell (j := 3) rfl
            have yz := RX6.out.1
            obtain ⟨v0, v1, v2, v3, v4, vz⟩ := rowF5 RY6.out
            cases hin : inG l g
            case true =>
              rw [hin, if_pos rfl] at LKH
              have HIN := Lib.hid hin
              clear hin bx6 aw6
              go_wp2_with fail
              go_roundw
              case rel => exact ⟨k + 1, rfl, by omega, by go_num, A6.out, ext_lt (p := fun j => ∀ (hj : j < c.grants.length), inG l c.grants[j] = false → justB c l c.grants[j] = false) HCL.out (fun _ h => by rw [HG.out, HIN.out] at h; cases h)⟩
              case measure => simp [intOf]; omega
            case false =>
              rw [hin, if_neg (by decide)] at LKH
              have HIN := Lib.hid hin
              obtain ⟨bb, hbb⟩ : ∃ bb, bossB c.objs (allL c.rols g.giver) T = bb := ⟨_, rfl⟩
              obtain ⟨gb, hgb⟩ : ∃ gb, givesB l (allL c.rols g.giver) T.schema T.name g.right true = gb := ⟨_, rfl⟩
              rw [hbb, hgb] at HJB
              have CB := Lib.hid (show Calls Tryz.prog 77 #[.agg #[.int .i64 c.epoch, .int .i64 c.version, .slice As c.objs.schemas.length caps, .slice At c.objs.tables.length capt, .slice An c.rols.names.length capn, .slice Am c.rols.members.length capm, .slice (some ⟨b, off, none⟩) c.grants.length capg], .slice d.a (allL c.rols g.giver).length d.c, .agg #[.string T.schema, .string T.name, .string T.owner, .slice A2 T.cols.length c2, .slice A3 T.rules.length c3]] w6 fun e w'' => e = .returned (.bool bb) ∧ Aft w6 w'' from
                hbb ▸ bossG c As caps At capt An capn Am capm (some ⟨b, off, none⟩) capg (allL c.rols g.giver) d.a d.c T.schema T.name T.owner A2 _ c2 A3 _ c3 T ⟨rfl, rfl⟩ w6 (HH.out.aft aw6) (HIS.out w6 HM6.out.kb).2.1 (by rw [HTT.out.1]; exact HTT.out.2.2))
              clear hin bx6 aw6 hbb
              go_wp2_with fail
              refine CB.out.mono ?_
              rintro e w7 ⟨rfl, a7⟩
              have HM7 := Lib.hid (HM6.out.to a7)
              have A7 := Lib.hid (A6.out.trans a7)
              have RX7 := Lib.hid (RX6.out.aft a7)
              have RY7 := Lib.hid (RY6.out.aft a7)
              clear LKH LKI1 x0 x1 x2 x3 x4 x5 x6 xz y3 yz v0 v1 v2 v3 v4 vz CB a7
              obtain ⟨y0, y1, y2, y3, y4, y5, yz⟩ := rowF6 RX7.out
              cases bb
              case true =>
                have HJ := Lib.hid (show justB c l g = true by rw [HJB.out]; rfl)
                go_wp2_with fail
                have zbh : bh < wr.heap.size := HZR.out
                have KS := Lib.hid (show ∀ V, Aft w7 V → V.cell? ⟨wr.heap.size, 0, none⟩ = some (.string g.schema) ∧ V.cell? ⟨wr.heap.size, 1, none⟩ = some (.string g.table) ∧ V.cell? ⟨wr.heap.size, 2, none⟩ = some (.int .i64 g.right) ∧ V.cell? ⟨wr.heap.size, 3, none⟩ = some (.string g.giver) ∧ V.cell? ⟨wr.heap.size, 4, none⟩ = some (.string g.to) ∧ V.cell? ⟨wr.heap.size, 5, none⟩ = some (.bool g.opt) from fun V a => by
                  have p := RX7.out.aft a
                  exact ⟨p.cell (j := 0) rfl, p.cell (j := 1) rfl, p.cell (j := 2) rfl, p.cell (j := 3) rfl, p.cell (j := 4) rfl, p.cell (j := 5) rfl⟩)
                have KS2 := Lib.hid (show ∀ V V', Aft w7 V → V.grownBy V' (some bh) → V'.cell? ⟨wr.heap.size, 0, none⟩ = some (.string g.schema) ∧ V'.cell? ⟨wr.heap.size, 1, none⟩ = some (.string g.table) ∧ V'.cell? ⟨wr.heap.size, 2, none⟩ = some (.int .i64 g.right) ∧ V'.cell? ⟨wr.heap.size, 3, none⟩ = some (.string g.giver) ∧ V'.cell? ⟨wr.heap.size, 4, none⟩ = some (.string g.to) ∧ V'.cell? ⟨wr.heap.size, 5, none⟩ = some (.bool g.opt) from fun V V' a gr => by
                  obtain ⟨h0, h1, h2, h3, h4, h5⟩ := KS.out V a
                  have kb := Kb.of_grown gr
                  exact ⟨kb.cell h0 (fun e => by simp only [Option.some.injEq] at e; omega), kb.cell h1 (fun e => by simp only [Option.some.injEq] at e; omega), kb.cell h2 (fun e => by simp only [Option.some.injEq] at e; omega), kb.cell h3 (fun e => by simp only [Option.some.injEq] at e; omega), kb.cell h4 (fun e => by simp only [Option.some.injEq] at e; omega), kb.cell h5 (fun e => by simp only [Option.some.injEq] at e; omega)⟩)
                have HMO := Lib.hid HM7.out
                have hl1 : l.length < maxLen := by unfold maxLen; omega
                clear y0 y1 y2 y3 y4 y5 yz
                go_region_held3 (fun V => V.cell? ⟨wr.heap.size, 0, none⟩ = some (.string g.schema) ∧ V.cell? ⟨wr.heap.size, 1, none⟩ = some (.string g.table) ∧ V.cell? ⟨wr.heap.size, 2, none⟩ = some (.int .i64 g.right) ∧ V.cell? ⟨wr.heap.size, 3, none⟩ = some (.string g.giver) ∧ V.cell? ⟨wr.heap.size, 4, none⟩ = some (.string g.to) ∧ V.cell? ⟨wr.heap.size, 5, none⟩ = some (.bool g.opt))
                  (first | exact KS.out _ (Aft.refl _).drew | exact KS.out _ A5.out | exact K6.out | exact K7.out)
                  ((go_at_call 108; refine (ofG g _).mono ?_; rintro e u5 ⟨rfl, a5⟩; have A5 := Lib.hid ((Aft.refl w7).drew.trans a5); clear a5; have LK9 := (HMO.out.to A5.out).mh.lookK five_keyed Tryz.underlying148 (zero_fiv u5) (fiveV g) (fiveS g) (five_key g HSG.out); rw [hldV_key l g HSL.out HSG.out, HIN.out, if_neg (by decide)] at LK9; unfold fiveV at LK9; obtain ⟨q0, st, u6, u7, E6, G6, L6, S7, M7, G7⟩ := (HMO.out.to A5.out).mh.entry five_law Tryz.underlying148 zero_fiv hl1 (fiveV g) (fiveS g) (five_key g HSG.out) (.int .i64 (IntKind.i64.wrap 1)); rw [hldV_key l g HSL.out HSG.out, HIN.out, if_neg (by decide)] at L6; unfold fiveV at E6 L6; simp only [goInt] at E6 S7; have K6 := Lib.hid (KS2.out u5 u6 A5.out G6); have K7 := Lib.hid (KS2.out u5 u7 A5.out G7); have HM7' := Lib.hid (And.intro M7 G7); clear M7 G7 G6))
                all_goals
                  have HM7 := Lib.hid (show Kb (fun g => g = bh) wF u7 ∧ MapF Tryz.prog 151 u7 bh (l ++ [g]).length (.int .i64 0) (hldV (l ++ [g])) ∧ u7.ownsRow wF.heap.size 106 6 (.slice hd.a l.length hd.c) l.length (l.flatMap graC) ∧ wF.heap.size ≤ u7.heap.size from by
                    have kb : Kb (fun g => g = bh) u5 u7 := (Kb.of_grown HM7'.out.2).mono fun g _ e => (Option.some.inj e).symm
                    have h5 := HMO.out.to A5.out
                    have hr := h5.row
                    rw [own_slice hr] at hr
                    refine ⟨h5.kb.trans kb, ?_, own_kb hr kb fun g hg e => by have := (hr.lt g hg).1; have := HZF.out; omega, Nat.le_trans h5.kb.size kb.size⟩
                    rw [hldV_add, List.length_append]
                    exact HM7'.out.1)
                  obtain ⟨k0, k1, k2, k3, k4, k5⟩ := K7.out
                  have zu : wr.heap.size < u7.heap.size := World.block_lt_of_cell? u7 ⟨wr.heap.size, 0, none⟩ k0
                  have zF7 : wF.heap.size ≤ u7.heap.size := HM7.out.2.2.2
                  have hq8 : l.length ≤ 1000000 := by omega
                  clear E6 L6 S7 LK9
                  go_wp2_with (at_builtin; go_must (refine app_gra rfl _ _ rfl wF.heap.size (.slice hd.a l.length hd.c) l.length (l.flatMap graC) rfl (own_aft HM7.out.2.2.1 ((Aft.refl u7).alloc _)) u7.heap.size g rfl (heap_alloc_new u7 _) hq8 (by simp; omega) ?_); intro gg cap' u8 hown8 hgrow hat; have HG8 := Lib.hid (And.intro hown8 (And.intro hgrow hat)); clear hown8 hgrow hat)
                  refine ⟨⟨l ++ [g], ⟨some ⟨gg, 0, none⟩, l.length + 1, cap'⟩, by simp, HoM.next HMO.out.fnd HGM.out HIN.out HJ.out HM7.out HZF.out HG8.out.1 HG8.out.2.1⟩, ?_⟩
                  show c.grants.length - (l.length + 1) < c.grants.length - l.length
                  have := (HMO.out.fnd.add HGM.out HIN.out HJ.out).len
                  rw [List.length_append] at this
                  simp only [List.length_cons, List.length_nil] at this
                  omega
              case false =>
                obtain ⟨_, sl7, LK7⟩ := HIS.out w7 HM7.out.kb
                obtain ⟨v0, v1, v2, v3, v4, vz⟩ := rowF5 RY7.out
                have slG : SlAt w7 6 GraR hd.a hd.c l := own_slf graC HM7.out.row (fun x hx => ⟨rfl, rfl, HSL.out x hx⟩) (by unfold Small; omega)
                have CG := Lib.hid (show Calls Tryz.prog 78 #[.slice hd.a l.length hd.c, .slice d.a (allL c.rols g.giver).length d.c, .agg #[.string T.schema, .string T.name, .string T.owner, .slice A2 T.cols.length c2, .slice A3 T.rules.length c3], .int .i64 g.right, .bool true] w7 fun e w'' => e = .returned (.bool gb) ∧ Aft w7 w'' from
                  hgb ▸ givenG l hd.a hd.c (allL c.rols g.giver) d.a d.c T.schema T.name T.owner A2 _ c2 A3 _ c3 g.right true w7 slG sl7)
                clear slG sl7
                go_wp2_with fail
                refine CG.out.mono ?_
                rintro e w8 ⟨rfl, a8⟩
                have HM8 := Lib.hid (HM7.out.to a8)
                have A8 := Lib.hid (A7.out.trans a8)
                have RX8 := Lib.hid (RX7.out.aft a8)
                clear y0 y1 y2 y3 y4 y5 yz v0 v1 v2 v3 v4 vz LK7 CG a8
                obtain ⟨y0, y1, y2, y3, y4, y5, yz⟩ := rowF6 RX8.out
                cases gb
                case false =>
                  have HJ := Lib.hid (show justB c l g = false by rw [HJB.out]; rfl)
                  go_wp2_with fail
                  go_roundw
                  case rel => exact ⟨k + 1, rfl, by omega, by go_num, A8.out, ext_lt (p := fun j => ∀ (hj : j < c.grants.length), inG l c.grants[j] = false → justB c l c.grants[j] = false) HCL.out (fun _ _ => by rw [HG.out, HJ.out])⟩
                  case measure => simp [intOf]; omega
                case true =>
                  have HJ := Lib.hid (show justB c l g = true by rw [HJB.out]; rfl)
                  go_wp2_with fail
                  have zbh : bh < wr.heap.size := HZR.out
                  have KS := Lib.hid (show ∀ V, Aft w8 V → V.cell? ⟨wr.heap.size, 0, none⟩ = some (.string g.schema) ∧ V.cell? ⟨wr.heap.size, 1, none⟩ = some (.string g.table) ∧ V.cell? ⟨wr.heap.size, 2, none⟩ = some (.int .i64 g.right) ∧ V.cell? ⟨wr.heap.size, 3, none⟩ = some (.string g.giver) ∧ V.cell? ⟨wr.heap.size, 4, none⟩ = some (.string g.to) ∧ V.cell? ⟨wr.heap.size, 5, none⟩ = some (.bool g.opt) from fun V a => by
                    have p := RX8.out.aft a
                    exact ⟨p.cell (j := 0) rfl, p.cell (j := 1) rfl, p.cell (j := 2) rfl, p.cell (j := 3) rfl, p.cell (j := 4) rfl, p.cell (j := 5) rfl⟩)
                  have KS2 := Lib.hid (show ∀ V V', Aft w8 V → V.grownBy V' (some bh) → V'.cell? ⟨wr.heap.size, 0, none⟩ = some (.string g.schema) ∧ V'.cell? ⟨wr.heap.size, 1, none⟩ = some (.string g.table) ∧ V'.cell? ⟨wr.heap.size, 2, none⟩ = some (.int .i64 g.right) ∧ V'.cell? ⟨wr.heap.size, 3, none⟩ = some (.string g.giver) ∧ V'.cell? ⟨wr.heap.size, 4, none⟩ = some (.string g.to) ∧ V'.cell? ⟨wr.heap.size, 5, none⟩ = some (.bool g.opt) from fun V V' a gr => by
                    obtain ⟨h0, h1, h2, h3, h4, h5⟩ := KS.out V a
                    have kb := Kb.of_grown gr
                    exact ⟨kb.cell h0 (fun e => by simp only [Option.some.injEq] at e; omega), kb.cell h1 (fun e => by simp only [Option.some.injEq] at e; omega), kb.cell h2 (fun e => by simp only [Option.some.injEq] at e; omega), kb.cell h3 (fun e => by simp only [Option.some.injEq] at e; omega), kb.cell h4 (fun e => by simp only [Option.some.injEq] at e; omega), kb.cell h5 (fun e => by simp only [Option.some.injEq] at e; omega)⟩)
                  have HMO := Lib.hid HM8.out
                  have hl1 : l.length < maxLen := by unfold maxLen; omega
                  clear y0 y1 y2 y3 y4 y5 yz
                  go_region_held3 (fun V => V.cell? ⟨wr.heap.size, 0, none⟩ = some (.string g.schema) ∧ V.cell? ⟨wr.heap.size, 1, none⟩ = some (.string g.table) ∧ V.cell? ⟨wr.heap.size, 2, none⟩ = some (.int .i64 g.right) ∧ V.cell? ⟨wr.heap.size, 3, none⟩ = some (.string g.giver) ∧ V.cell? ⟨wr.heap.size, 4, none⟩ = some (.string g.to) ∧ V.cell? ⟨wr.heap.size, 5, none⟩ = some (.bool g.opt))
                    (first | exact KS.out _ (Aft.refl _).drew | exact KS.out _ A5.out | exact K6.out | exact K7.out)
                    ((go_at_call 108; refine (ofG g _).mono ?_; rintro e u5 ⟨rfl, a5⟩; have A5 := Lib.hid ((Aft.refl w8).drew.trans a5); clear a5; have LK9 := (HMO.out.to A5.out).mh.lookK five_keyed Tryz.underlying148 (zero_fiv u5) (fiveV g) (fiveS g) (five_key g HSG.out); rw [hldV_key l g HSL.out HSG.out, HIN.out, if_neg (by decide)] at LK9; unfold fiveV at LK9; obtain ⟨q0, st, u6, u7, E6, G6, L6, S7, M7, G7⟩ := (HMO.out.to A5.out).mh.entry five_law Tryz.underlying148 zero_fiv hl1 (fiveV g) (fiveS g) (five_key g HSG.out) (.int .i64 (IntKind.i64.wrap 1)); rw [hldV_key l g HSL.out HSG.out, HIN.out, if_neg (by decide)] at L6; unfold fiveV at E6 L6; simp only [goInt] at E6 S7; have K6 := Lib.hid (KS2.out u5 u6 A5.out G6); have K7 := Lib.hid (KS2.out u5 u7 A5.out G7); have HM7' := Lib.hid (And.intro M7 G7); clear M7 G7 G6))
                  all_goals
                    have HM7 := Lib.hid (show Kb (fun g => g = bh) wF u7 ∧ MapF Tryz.prog 151 u7 bh (l ++ [g]).length (.int .i64 0) (hldV (l ++ [g])) ∧ u7.ownsRow wF.heap.size 106 6 (.slice hd.a l.length hd.c) l.length (l.flatMap graC) ∧ wF.heap.size ≤ u7.heap.size from by
                      have kb : Kb (fun g => g = bh) u5 u7 := (Kb.of_grown HM7'.out.2).mono fun g _ e => (Option.some.inj e).symm
                      have h5 := HMO.out.to A5.out
                      have hr := h5.row
                      rw [own_slice hr] at hr
                      refine ⟨h5.kb.trans kb, ?_, own_kb hr kb fun g hg e => by have := (hr.lt g hg).1; have := HZF.out; omega, Nat.le_trans h5.kb.size kb.size⟩
                      rw [hldV_add, List.length_append]
                      exact HM7'.out.1)
                    obtain ⟨k0, k1, k2, k3, k4, k5⟩ := K7.out
                    have zu : wr.heap.size < u7.heap.size := World.block_lt_of_cell? u7 ⟨wr.heap.size, 0, none⟩ k0
                    have zF7 : wF.heap.size ≤ u7.heap.size := HM7.out.2.2.2
                    have hq8 : l.length ≤ 1000000 := by omega
                    clear E6 L6 S7 LK9
                    go_wp2_with (at_builtin; go_must (refine app_gra rfl _ _ rfl wF.heap.size (.slice hd.a l.length hd.c) l.length (l.flatMap graC) rfl (own_aft HM7.out.2.2.1 ((Aft.refl u7).alloc _)) u7.heap.size g rfl (heap_alloc_new u7 _) hq8 (by simp; omega) ?_); intro gg cap' u8 hown8 hgrow hat; have HG8 := Lib.hid (And.intro hown8 (And.intro hgrow hat)); clear hown8 hgrow hat)
                    refine ⟨⟨l ++ [g], ⟨some ⟨gg, 0, none⟩, l.length + 1, cap'⟩, by simp, HoM.next HMO.out.fnd HGM.out HIN.out HJ.out HM7.out HZF.out HG8.out.1 HG8.out.2.1⟩, ?_⟩
                    show c.grants.length - (l.length + 1) < c.grants.length - l.length
                    have := (HMO.out.fnd.add HGM.out HIN.out HJ.out).len
                    rw [List.length_append] at this
                    simp only [List.length_cons, List.length_nil] at this
                    omega
          · have hm := HM.out.to HAR.out
            have hcl : ∀ g ∈ c.grants, inG l g = false → justB c l g = false := fun g hg => by
              obtain ⟨j, hj, rfl⟩ := List.getElem_of_mem hg
              exact HCL.out j (by omega) hj
            have hr := hm.row
            rw [own_slice hr] at hr
            have CS := Lib.hid (sortRow hd wF.heap.size l hm.nil (by omega) wr hr)
            have HCLO := Lib.hid hcl
            have AWr := Lib.hid (KA.out wr hm.kb).1
            clear hm hcl hr
            go_wp2_with fail
            refine CS.out.mono ?_
            rintro e w9 ⟨rfl, l', hp, hs, ho, ha⟩
            have HE := Lib.hid (show l' = holdL c from by
              have := HM.out.fnd.sorted (stands_iff.1 HSTD.out).2.2.2 HCLO.out hp (fun i j hi hj hij => Int.not_lt.2 (hs i j hi hj hij))
              rw [this]; unfold holdL; rw [if_pos HSTD.out])
            have HL := Lib.hid (show l'.length = l.length from hp.length_eq)
            have HA := Lib.hid (ha w AWr.out zFw.out)
            have HO := Lib.hid ho
            clear hp hs ho ha
            go_wp2_with fail
            rw [Exit.noGoto_ret]
            go_ret
            refine ⟨⟨hd.a, l.length, hd.c⟩, rfl, HA.out, ?_⟩
            rw [← HE.out]
            have ho := HO.out
            rw [← HL.out] at ho
            show w9.ownsRow w.heap.size _ 6 (.slice hd.a l.length hd.c) _ _
            rw [← HL.out]
            exact own_down ho zFw.out
end Go.Proofs.YtgkhmnamkfgciaaGreat

namespace Go.Proofs.YtgkhmnamkfgciaaGreat
open Go.RowKit Go.Deep
set_option maxRecDepth 100000
set_option linter.unusedVariables false
theorem wholeB_no {c : Cat} (h : standsB c = false) : wholeB c = false := by unfold wholeB; rw [h]; rfl
set_option maxHeartbeats 4000000 in
theorem wholeG (c : Cat) (As : Option Addr) (caps : Nat) (At : Option Addr) (capt : Nat) (An : Option Addr) (capn : Nat) (Am : Option Addr) (capm : Nat) (Ag : Option Addr) (capg : Nat) (w : World) (H : CatAt w c As caps At capt An capn Am capm Ag capg) :
    Calls Tryz.prog 76 #[.agg #[.int .i64 c.epoch, .int .i64 c.version, .slice As c.objs.schemas.length caps, .slice At c.objs.tables.length capt, .slice An c.rols.names.length capn, .slice Am c.rols.members.length capm, .slice Ag c.grants.length capg]] w fun e w' => e = .returned (.bool (wholeB c)) ∧ Aft w w' := by
  obtain ⟨W, hW⟩ : ∃ W, W = w.alloc (.cells #[.int .i64 c.epoch, .int .i64 c.version, .slice As c.objs.schemas.length caps, .slice At c.objs.tables.length capt, .slice An c.rols.names.length capn, .slice Am c.rols.members.length capm, .slice Ag c.grants.length capg] 32) := ⟨_, rfl⟩
  have aW : Aft w W := by rw [hW]; exact (Aft.refl w).alloc _
  have r0 : RowAt W (w.heap.size) [.int .i64 c.epoch, .int .i64 c.version, .slice As c.objs.schemas.length caps, .slice At c.objs.tables.length capt, .slice An c.rols.names.length capn, .slice Am c.rols.members.length capm, .slice Ag c.grants.length capg] := by rw [hW]; exact box_at (Aft.refl _) (by simp)
  obtain ⟨st, hst⟩ : ∃ b, standsB c = b := ⟨_, rfl⟩
  have CS := Lib.hid (show ∀ V, Aft W V → Calls Tryz.prog 107 #[.agg #[.int .i64 c.epoch, .int .i64 c.version, .slice As c.objs.schemas.length caps, .slice At c.objs.tables.length capt, .slice An c.rols.names.length capn, .slice Am c.rols.members.length capm, .slice Ag c.grants.length capg]] V fun e w'' => e = .returned (.bool st) ∧ Aft V w'' from fun V a => (standsG c As caps At capt An capn Am capm Ag capg V (H.aft (aW.trans a))).mono fun e w'' ⟨he, hw⟩ => ⟨he.trans (by rw [hst]), hw⟩)
  have CH := Lib.hid (show ∀ V, Aft W V → Calls Tryz.prog 62 #[.agg #[.int .i64 c.epoch, .int .i64 c.version, .slice As c.objs.schemas.length caps, .slice At c.objs.tables.length capt, .slice An c.rols.names.length capn, .slice Am c.rols.members.length capm, .slice Ag c.grants.length capg]] V (HoldP V c) from fun V a => holdG c As caps At capt An capn Am capm Ag capg V (H.aft (aW.trans a)))
  have KS := Lib.hid (show ∀ V, Aft W V → Aft W V ∧ V.cell? ⟨w.heap.size, 0, none⟩ = some (.int .i64 c.epoch) ∧ V.cell? ⟨w.heap.size, 1, none⟩ = some (.int .i64 c.version) ∧ V.cell? ⟨w.heap.size, 2, none⟩ = some (.slice As c.objs.schemas.length caps) ∧ V.cell? ⟨w.heap.size, 3, none⟩ = some (.slice At c.objs.tables.length capt) ∧ V.cell? ⟨w.heap.size, 4, none⟩ = some (.slice An c.rols.names.length capn) ∧ V.cell? ⟨w.heap.size, 5, none⟩ = some (.slice Am c.rols.members.length capm) ∧ V.cell? ⟨w.heap.size, 6, none⟩ = some (.slice Ag c.grants.length capg) from fun V a => by
    have p := r0.aft a
    exact ⟨a, p.cell (j := 0) rfl, p.cell (j := 1) rfl, p.cell (j := 2) rfl, p.cell (j := 3) rfl, p.cell (j := 4) rfl, p.cell (j := 5) rfl, p.cell (j := 6) rfl⟩)
  have HST := Lib.hid hst
  have HAW := Lib.hid aW
  clear hst H aW r0
  go_enter Tryz.func76, Tryz.ntmps76
  go_wp2_with fail
  rw [← hW]
  clear hW
  cases st
  case false =>
    have HF := Lib.hid (wholeB_no HST.out)
    obtain ⟨_, x0, x1, x2, x3, x4, x5, x6⟩ := KS.out W (Aft.refl W)
    have xz : w.heap.size < W.heap.size := World.block_lt_of_cell? W ⟨w.heap.size, 0, none⟩ x0
    refine wp_region_lat (by kernel_rfl) (by kernel_rfl) ?_
    repeat (go_big_quiet_step ((go_at_call 107; exact Calls.lat_of (CS.out _ ((Aft.refl W).lat _)))))
    refine wpQuiet_nil ?_
    intro _ hw'
    obtain ⟨y, hw''⟩ := hw'
    subst hw''
    go_wp2_with fail
    go_ret
    exact ⟨by rw [HF.out]; rfl, HAW.out.lat y⟩
  case true =>
    have HW := Lib.hid (show wholeB c = ((holdL c).length == c.grants.length) by unfold wholeB; rw [HST.out]; rfl)
    go_region_held3 (fun V => Aft W V ∧ V.cell? ⟨w.heap.size, 0, none⟩ = some (.int .i64 c.epoch) ∧ V.cell? ⟨w.heap.size, 1, none⟩ = some (.int .i64 c.version) ∧ V.cell? ⟨w.heap.size, 2, none⟩ = some (.slice As c.objs.schemas.length caps) ∧ V.cell? ⟨w.heap.size, 3, none⟩ = some (.slice At c.objs.tables.length capt) ∧ V.cell? ⟨w.heap.size, 4, none⟩ = some (.slice An c.rols.names.length capn) ∧ V.cell? ⟨w.heap.size, 5, none⟩ = some (.slice Am c.rols.members.length capm) ∧ V.cell? ⟨w.heap.size, 6, none⟩ = some (.slice Ag c.grants.length capg))
      (first | exact KS.out _ (Aft.refl _).drew | exact KS.out _ A5.out | exact KS.out _ A6.out)
      ((first | (go_at_call 107; refine (CS.out _ (Aft.refl W).drew).mono ?_; rintro e w5 ⟨rfl, a5⟩; have A5 := Lib.hid ((Aft.refl W).drew.trans a5); clear a5) | (go_at_call 62; refine (CH.out w5 A5.out).mono ?_; rintro e w6 ⟨h, rfl, a6, ho6⟩; have A6 := Lib.hid (A5.out.trans a6); clear a6; rw [own_slice ho6])))
    go_wp2_with fail
    go_ret
    refine ⟨Eq.trans (b := .returned (.bool _)) rfl (ret_of (bool_of ?_)), HAW.out.trans A6.out⟩
    rw [HW.out, Bool.eq_iff_iff, beq_iff_eq, beq_iff_eq]
    omega
theorem checkG (c : Cat) (As : Option Addr) (caps : Nat) (At : Option Addr) (capt : Nat) (An : Option Addr) (capn : Nat) (Am : Option Addr) (capm : Nat) (Ag : Option Addr) (capg : Nat) (w : World) (H : CatAt w c As caps At capt An capn Am capm Ag capg) :
    Calls Tryz.prog 72 #[.agg #[.int .i64 c.epoch, .int .i64 c.version, .slice As c.objs.schemas.length caps, .slice At c.objs.tables.length capt, .slice An c.rols.names.length capn, .slice Am c.rols.members.length capm, .slice Ag c.grants.length capg]] w fun e w' => e = .returned (.int .i64 (if wholeB c = true then 0 else 1)) ∧ Aft w w' := by
  obtain ⟨W, hW⟩ : ∃ W, W = w.alloc (.cells #[.int .i64 c.epoch, .int .i64 c.version, .slice As c.objs.schemas.length caps, .slice At c.objs.tables.length capt, .slice An c.rols.names.length capn, .slice Am c.rols.members.length capm, .slice Ag c.grants.length capg] 32) := ⟨_, rfl⟩
  have aW : Aft w W := by rw [hW]; exact (Aft.refl w).alloc _
  have r0 : RowAt W (w.heap.size) [.int .i64 c.epoch, .int .i64 c.version, .slice As c.objs.schemas.length caps, .slice At c.objs.tables.length capt, .slice An c.rols.names.length capn, .slice Am c.rols.members.length capm, .slice Ag c.grants.length capg] := by rw [hW]; exact box_at (Aft.refl _) (by simp)
  obtain ⟨b, hb⟩ : ∃ b, wholeB c = b := ⟨_, rfl⟩
  have C := Lib.hid (show Calls Tryz.prog 76 #[.agg #[.int .i64 c.epoch, .int .i64 c.version, .slice As c.objs.schemas.length caps, .slice At c.objs.tables.length capt, .slice An c.rols.names.length capn, .slice Am c.rols.members.length capm, .slice Ag c.grants.length capg]] W fun e w'' => e = .returned (.bool b) ∧ Aft W w'' from (wholeG c As caps At capt An capn Am capm Ag capg W (H.aft aW)).mono fun e w'' ⟨he, hw⟩ => ⟨he.trans (by rw [hb]), hw⟩)
  rw [hb]
  have HAW := Lib.hid aW
  obtain ⟨x0, x1, x2, x3, x4, x5, x6, xz⟩ := rowF7 r0
  clear hb H aW r0
  go_enter Tryz.func72, Tryz.ntmps72
  go_wp2_with fail
  rw [← hW]
  clear hW
  refine C.out.mono ?_
  rintro e w1 ⟨rfl, a1⟩
  have HA := Lib.hid (HAW.out.trans a1)
  clear a1
  cases b <;> (go_wp2_with fail; go_ret; exact ⟨rfl, HA.out⟩)
end Go.Proofs.YtgkhmnamkfgciaaGreat

namespace Go.Proofs.YtgkhmnamkfgciaaGreat
open Go.RowKit Go.Deep
set_option maxRecDepth 100000
set_option linter.unusedVariables false
theorem stands_tab2 {c : Cat} (h : standsB c = true) {s n : ByteArray} (h4 : 0 ≤ tabAt c.objs.tables s n) : (tabF c.objs s n).schema = s ∧ (tabF c.objs s n).name = n ∧ 0 ≤ schAt c.objs.schemas s := by
  obtain ⟨_, ⟨h1, _, _, _⟩, h3, _⟩ := stands_iff.1 h
  obtain ⟨q, hq⟩ := Int.eq_ofNat_of_zero_le h4
  have hr : tabAt c.objs.tables s n < c.objs.tables.length := (idxP_range _ _).2
  have hl : q < c.objs.tables.length := by omega
  have e := tabF_some hq hl
  have hp := idxP_at _ c.objs.tables q hl hq
  simp only [Bool.and_eq_true, eqS_iff] at hp
  rw [e]
  refine ⟨hp.1, hp.2, ?_⟩
  have hc : rightT c.objs c.objs.tables[q] = true := by
    unfold checkO at h1
    simp only [Bool.and_eq_true, List.all_eq_true] at h1
    exact h1.2.2 _ (List.getElem_mem hl)
  unfold rightT at hc
  simp only [Bool.and_eq_true, decide_eq_true_eq] at hc
  rw [← hp.1]
  exact hc.1.2
end Go.Proofs.YtgkhmnamkfgciaaGreat

namespace Go.Proofs.YtgkhmnamkfgciaaGreat
open Go.RowKit Go.Deep
set_option maxRecDepth 100000
set_option linter.unusedVariables false
theorem lvCat_row {W : World} {p : Nat} {a b c d e f g : Value} (h : RowAt W p [a, b, c, d, e, f, g]) : (loadVar 32 ⟨p, 0, none⟩).run Tryz.prog W = .ok (.agg #[a, b, c, d, e, f, g]) W := by
  have e0 := h.cell (j := 0) rfl
  have e1 := h.cell (j := 1) rfl
  have e2 := h.cell (j := 2) rfl
  have e3 := h.cell (j := 3) rfl
  have e4 := h.cell (j := 4) rfl
  have e5 := h.cell (j := 5) rfl
  have e6 := h.cell (j := 6) rfl
  have h1 := run_lvCat W p 0 (by rw [e0]; rfl) (by rw [e1]; rfl) (by rw [e2]; rfl) (by rw [e3]; rfl) (by rw [e4]; rfl) (by rw [e5]; rfl) (by rw [e6]; rfl)
  rw [e0, e1, e2, e3, e4, e5, e6] at h1
  exact h1
end Go.Proofs.YtgkhmnamkfgciaaGreat

