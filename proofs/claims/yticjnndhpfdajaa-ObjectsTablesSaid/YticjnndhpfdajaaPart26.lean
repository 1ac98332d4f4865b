/- Contracts of the program, part 26. -/
import Derived.Test.YticjnndhpfdajaaPart10
import Derived.Deep.RegionLaw
import Derived.Lib.Walk
import Derived.Test.YticjnndhpfdajaaPart12
import Derived.Test.YticjnndhpfdajaaPart24
import Derived.Test.YticjnndhpfdajaaPart25
import Derived.IntWalk
/- slices.Delete of one element. -/
namespace Go.Proofs.Yticjnndhpfdajaa
open Go.RowKit Go.Deep
set_option maxRecDepth 100000
set_option linter.unusedVariables false
theorem infoDTab : (Try.prog.info? 29).map (fun i => (i.zero, i.size, i.bytes)) = some (some (.agg #[.string ByteArray.empty, .string ByteArray.empty, .string ByteArray.empty, .slice none 0 0, .slice none 0 0]), 5, 96) := by kernel_rfl
set_option maxHeartbeats 8000000 in
theorem delTab (g cap i m B : Nat) (xs : List Value) (w : World) (ho : w.ownsRow B 29 5 (.slice (some ⟨g, 0, none⟩) (i + 1 + m) cap) (i + 1 + m) xs) (h1 : ∀ u ∈ xs, u.oneCell' = true) (hb : cap ≤ 9223372036854775807) :
    Calls Try.prog 33 #[.slice (some ⟨g, 0, none⟩) (i + 1 + m) cap, .int .i64 i, .int .i64 ((i : Int) + 1)] w (DelP 29 5 w B g cap i m xs) := by
  obtain ⟨i0, hi0, hz0, hz1, hz2⟩ := info_parts infoDTab
  obtain ⟨g', cap', hv', hgb, hnc, hr⟩ := own_rowAt ho (by omega)
  simp only [Value.slice.injEq, true_and, Option.some.injEq, Addr.mk.injEq, and_true] at hv'
  obtain ⟨rfl, rfl⟩ := hv'
  have hx := ho.1
  have hzr : ∀ w : World, (zeroValue 29).run Try.prog w = .ok (.agg #[.string ByteArray.empty, .string ByteArray.empty, .string ByteArray.empty, .slice none 0 0, .slice none 0 0]) w := fun w => by kernel_rfl
  obtain ⟨news, hnews⟩ : ∃ news, news = xs.drop ((i + 1) * 5) := ⟨_, rfl⟩
  have hlen : news.length = m * 5 := by rw [hnews, List.length_drop, hx]; omega
  have hsrc : ∃ A : Addr, (if cap = i + 1 then some (⟨g, 0, none⟩ : Addr) else some ⟨g, (i + 1) * 5, none⟩) = some A ∧ Hid (∀ t u, news[t]? = some u → w.drew.cell? (A.add t) = some u) := by
    by_cases h : cap = i + 1
    · refine ⟨⟨g, 0, none⟩, by simp [h], Lib.hid fun t u hu => ?_⟩
      have h0 : news.length = 0 := by rw [hlen]; omega
      rw [List.length_eq_zero_iff.1 h0] at hu
      simp at hu
    · refine ⟨⟨g, (i + 1) * 5, none⟩, by simp [h], Lib.hid fun t u hu => ?_⟩
      rw [hnews, List.getElem?_drop] at hu
      rw [Addr.add_lit]
      exact hr.cell hu
  obtain ⟨A, hA, hsrc⟩ := hsrc
  have s1 := Lib.hid hlen
  have s2 := Lib.hid (show ∀ u ∈ news, u.oneCell' = true from fun u hu => h1 u (by rw [hnews] at hu; exact List.mem_of_mem_drop hu))
  have s3 := Lib.hid (show ∀ t, t < news.length → (w.drew.cell? ⟨g, 0 + i * 5 + t, none⟩).isSome = true ∧ w.drew.frozen? ⟨g, 0 + i * 5 + t, none⟩ = false from fun t ht => by
    rw [hlen] at ht
    have hl : 0 + i * 5 + t < xs.length := by rw [hx]; omega
    exact ⟨by show (w.cell? _).isSome = true; rw [hr.2.1 _ hl, List.getElem?_eq_getElem hl]; rfl, hr.2.2 _ hl⟩)
  obtain ⟨W1, hW1⟩ : ∃ W1, W1 = w.drew.setCells g (0 + i * 5) news := ⟨_, rfl⟩
  have ho1 : W1.ownsRow B 29 5 (.slice (some ⟨g, 0, none⟩) (i + 1 + m) cap) (i + 1 + m) (setL xs (0 + i * 5) news) := by rw [hW1]; exact own_setCells (g := g) rfl news _ (own_aft ho (Aft.refl w).drew)
  obtain ⟨_, _, hv1, _, _, hr1⟩ := own_rowAt ho1 (by omega)
  simp only [Value.slice.injEq, true_and, Option.some.injEq, Addr.mk.injEq, and_true] at hv1
  obtain ⟨rfl, rfl⟩ := hv1
  have hcl : ∀ ty, (Builtin.clear_ #[23] ty #[.slice (some ⟨g, (i + m) * 5, none⟩) 1 (cap - (i + m))]).run Try.prog W1 = .ok (.tuple #[]) (W1.setCells g ((i + m) * 5) [.string ByteArray.empty, .string ByteArray.empty, .string ByteArray.empty, .slice none 0 0, .slice none 0 0]) := fun ty => by
    refine run_clear_one W1 _ _ ty _ Try.underlying23 hzr (by intro u hu; have hu : u ∈ ([.string ByteArray.empty, .string ByteArray.empty, .string ByteArray.empty, .slice none 0 0, .slice none 0 0] : List Value) := hu; simp only [List.mem_cons, List.not_mem_nil, or_false] at hu; rcases hu with rfl | rfl | rfl | rfl | rfl <;> rfl) g ((i + m) * 5) (cap - (i + m)) (fun j hj => ?_) (fun j hj => ?_)
    · have hj' : j < 5 := hj
      have hl : (i + m) * 5 + j < (setL xs (0 + i * 5) news).length := by rw [setL_len, hx]; omega
      rw [hr1.2.1 _ hl, List.getElem?_eq_getElem hl]; rfl
    · have hj' : j < 5 := hj
      exact hr1.2.2 _ (by rw [setL_len, hx]; omega)
  have HF := Lib.hid (show DelP 29 5 w B g cap i m xs (.returned (.slice (some ⟨g, 0, none⟩) (i + m) cap)) (W1.setCells g ((i + m) * 5) [.string ByteArray.empty, .string ByteArray.empty, .string ByteArray.empty, .slice none 0 0, .slice none 0 0]) from by
    refine ⟨rfl, ?_, ?_⟩
    · rw [hW1, hnews, Nat.zero_add]
      exact del_own (own_aft ho (Aft.refl w).drew) rfl
    · rw [hW1]
      exact (Kb.of_aft (Aft.refl w).drew).trans ((kb_setCells g news _ _).trans (kb_setCells g _ _ _)))
  have hW := Lib.hid hW1
  (try simp only [Nat.mul_one] at hA)
  have hic : i ≤ cap := by omega
  have hjc : i + 1 ≤ cap := by omega
  have hne : ((i : Int) == (i : Int) + 1) = false := by simp; omega
  clear hW1 ho1 hr1 hr ho hnews hlen h1 hx
  go_enter Try.func33, Try.ntmps33
  have k0 : (0 : Int) ≤ (i : Int) + 1 := by omega
  have k1 : (i : Int) + 1 ≤ (i : Int) + 1 + (m : Int) := by omega
  go_wp2_with fail
  go_region_law (refine step_append_room rfl (.tmp 22) (.tmp 25) 23 rfl 29 i0 5 Try.underlying23 hi0 hz1 g 0 i cap (by simp [Act.eval, Act.put]) A m (cap - (i + 1)) news (by simp [Act.eval, Act.put]) s1.out hsrc.out s2.out (by omega) s3.out ?_; rw [← hW.out])
  have hcl2 : ∀ ty, (Builtin.clear_ #[23] ty #[.slice (some ⟨g, (i + m) * 5, none⟩) (i + 1 + m - (i + m)) (cap - (i + m))]).run Try.prog W1 = .ok (.tuple #[]) (W1.setCells g ((i + m) * 5) [.string ByteArray.empty, .string ByteArray.empty, .string ByteArray.empty, .slice none 0 0, .slice none 0 0]) := fun ty => by
    have e1 : i + 1 + m - (i + m) = 1 := by omega
    rw [e1]; exact hcl ty
  (try simp only [Nat.mul_one] at hcl2)
  have hcm : ¬ cap = i + m := by omega
  have k3 : (i : Int) + (m : Int) ≤ (i : Int) + 1 + (m : Int) := by omega
  have k4 : (0 : Int) ≤ (i : Int) + (m : Int) := by omega
  have k5 : (i : Int) + 1 + (m : Int) ≤ (cap : Int) := by omega
  go_wp2_with fail
  go_ret
  first | exact HF.out | (have h9 := HF.out; simp only [Nat.mul_one] at h9; exact h9)
end Go.Proofs.Yticjnndhpfdajaa
/- objects.AddSchema, objects.DropSchema: the closures. -/
namespace Go.Proofs.Yticjnndhpfdajaa
open Go.RowKit Go.Deep Go.Sort
set_option maxRecDepth 100000
set_option linter.unusedVariables false
/-- the schemas lie in another row now, or the same row holds others -/
theorem ObjIn.newSch {P : Nat → Prop} {w w' : World} {B : Nat} {hs ht h' : Hd} {ss ss' : List Sch} {L : List OTab} (ob : ObjIn w B hs ht ss L) (k : Kb P w w') (hP : ∀ g, g ∈ ht.blk ++ L.flatMap OTab.blks → ¬ P g) (ho : w'.ownsRow B 51 2 h'.v ss'.length (ss'.flatMap schC)) (hb : ∀ g ∈ h'.blk, g ∈ hs.blk ∨ w.heap.size ≤ g) : ObjIn w' B h' ht ss' L := by
  refine ⟨ho, own_kb ob.tab k fun g hg => hP g (List.mem_append.2 (.inl (Hd.mem_blk.2 hg))), fun x hx => (ob.each x hx).kb k fun g hg => hP g (List.mem_append.2 (.inr (List.mem_flatMap.2 ⟨x, hx, hg⟩))), ?_⟩
  refine List.nodup_append.2 ⟨blk_nodup _, (List.nodup_append.1 ob.nd).2.1, fun a ha b hb2 e => ?_⟩
  subst e
  rcases hb a ha with h1 | h1
  · exact nodup_disj ob.nd h1 hb2
  · have := (ob.lt a (List.mem_append.2 (.inr hb2))).2
    omega
def addSchR (name owner : ByteArray) (o : Objs) : Objs × Int :=
  if (!nameB name || !nameB owner) then (zeroO, 1) else if 0 ≤ schAt o.schemas name then (zeroO, 60) else if 8 ≤ o.schemas.length then (zeroO, 2) else (⟨insAt o.schemas (posB cmpSc o.schemas ⟨name, owner⟩) ⟨name, owner⟩, o.tables⟩, 0)
def dropSchR (name : ByteArray) (o : Objs) : Objs × Int :=
  if schAt o.schemas name < 0 then (zeroO, 61) else if 0 < within o.tables name then (zeroO, 62) else (⟨o.schemas.eraseIdx (schAt o.schemas name).toNat, o.tables⟩, 0)
theorem schC_len2 (x : Sch) : (schC x).length = 2 := rfl
end Go.Proofs.Yticjnndhpfdajaa
