/- Contracts of the program, part 24. -/
import Derived.Deep.AppendLies
import Derived.Deep.DeepMust
import Derived.OwnWalk
import Derived.Laws.AppendOwn
import Derived.ProofKit
import Derived.OpenShut
import Derived.Deep.Slices
import Derived.ChangeOld
import Derived.SizedLaws
import Derived.WalkKit
import Derived.WalkSpells
import Derived.WalkLawsBesides
import Derived.Lib.Hide
import Derived.Deep.QuietTactic
import Derived.BigQuiet
import Derived.Below
import Derived.Deep.Draws
import Derived.StillTailTactics
import Derived.Laws.Cells
import Derived.Laws.IdiomCopy
import Derived.Test.YtlklmekapbojdaaGreatRows
import Derived.Lib.Walk
import Derived.Laws.EntriesVeiled
import Derived.Maps.Own
import Derived.Maps.Views
import Derived.Deep.Upon
import Derived.OneCell
import Derived.OrdersHeld
import Derived.Deep.RegionHeld3
import Derived.IntWalk
import Derived.Lib.Bytealg
import Derived.Lib.SliceRun
import Derived.Deep.RegionLaw
import Derived.Lib.AppendZerosOnto
import Derived.Lib.Overlaps
import Derived.Shelf.SlSortCmp.WholeK
import Derived.WalkMore
import Derived.Laws.StructEq
import Derived.WideKeyEntry
import Derived.DeepKeys3
import Derived.ChangeKeys
import Derived.Test.YtlklmekapbojdaaGreatPartL1
import Derived.Test.YtlklmekapbojdaaGreatPartL2
import Derived.Test.YtlklmekapbojdaaGreatPartL3
import Derived.Test.YtlklmekapbojdaaGreatPartL4
import Derived.Test.YtlklmekapbojdaaGreatPartL5
import Derived.Test.YtlklmekapbojdaaGreatPartL6
import Derived.Test.YtlklmekapbojdaaGreatPartL7
import Derived.Test.YtlklmekapbojdaaGreatPartL8
import Derived.Test.YtlklmekapbojdaaGreatPartL9
import Derived.Test.YtlklmekapbojdaaGreatPartL10
import Derived.Test.YtlklmekapbojdaaGreatPartL12
import Derived.Test.YtlklmekapbojdaaGreatPartL13
import Derived.Test.YtlklmekapbojdaaGreatPartL14
import Derived.Test.YtlklmekapbojdaaGreatPartL15
import Derived.Test.YtlklmekapbojdaaGreatPartL16
import Derived.Test.YtlklmekapbojdaaGreatPartL19
namespace Go.Proofs.YtlklmekapbojdaaGreat
open Go.RowKit
set_option linter.unusedVariables false
theorem lessG_sub (l : List Gra) (g : Gra) : (lessG l g).Sublist l := List.filter_sublist
/-- taking went well -/
theorem take_ok {c : Cat} {g : Gra} (h : (takeR c g).2 = 0) : wholeB c = true ∧ (takeR c g).1 = { c with grants := holdL { c with grants := lessG c.grants g } } := by
  unfold takeR at h ⊢
  by_cases h1 : (!wholeB c) = true
  · rw [if_pos h1] at h; exact absurd h (by decide)
  rw [if_neg h1] at h ⊢
  by_cases h2 : (!inG c.grants g) = true
  · rw [if_pos h2] at h; exact absurd h (by decide)
  rw [if_neg h2]
  exact ⟨by simpa using h1, rfl⟩
theorem hold_sub (c : Cat) : ∀ x ∈ holdL c, x ∈ c.grants := fun x hx => by
  unfold holdL at hx
  split at hx
  · exact (List.mem_filter.1 hx).1
  · simp at hx
theorem take_none {c : Cat} (g : Gra) : ∀ x ∈ holdL { c with grants := lessG c.grants g }, fiveE x g = false ∧ x ∈ c.grants := fun x hx => by
  have := hold_sub _ x hx
  have := List.mem_filter.1 (show x ∈ c.grants.filter fun y => !fiveE y g from this)
  exact ⟨by simpa using this.2, this.1⟩
end Go.Proofs.YtlklmekapbojdaaGreat

namespace Go.Proofs.YtlklmekapbojdaaGreat
open Go.RowKit Go.Deep
set_option maxRecDepth 100000
set_option linter.unusedVariables false
theorem take_err {c : Cat} {g : Gra} (h : (takeR c g).2 ≠ 0) : (takeR c g).1 = noC := by
  unfold takeR at h ⊢
  split
  · rfl
  · next h1 =>
    rw [if_neg h1] at h
    split
    · rfl
    · next h2 => rw [if_neg h2] at h; exact absurd rfl h
theorem sm_takeR {c : Cat} {g : Gra} (h : SmC c) : SmC (takeR c g).1 := by
  by_cases he : (takeR c g).2 = 0
  · obtain ⟨k1, k2⟩ := take_ok he
    rw [k2]
    refine ⟨h.1, h.2.1, ?_, fun x hx => h.2.2.2 x (take_none g x hx).2⟩
    have h64 := (stands_iff.1 (whole_iff.1 k1).1).1
    have h1 : (holdL { c with grants := lessG c.grants g }).length ≤ (lessG c.grants g).length := by
      unfold holdL
      split
      · exact List.length_filter_le _ _
      · simp
    have h2 := (lessG_sub c.grants g).length_le
    unfold Small
    show (holdL { c with grants := lessG c.grants g }).length * 16 ≤ _
    omega
  · rw [take_err he]; exact sm_noC
end Go.Proofs.YtlklmekapbojdaaGreat

