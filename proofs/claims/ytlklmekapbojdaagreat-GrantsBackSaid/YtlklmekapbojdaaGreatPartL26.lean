/- Contracts of the program, part 26. -/
import Derived.Deep.AppendLies
import Derived.Deep.DeepMust
import Derived.OwnWalk
import Derived.Laws.AppendOwn
import Derived.ProofKit
import Derived.OpenShut
import Derived.Deep.Slices
import Derived.ChangeOld
import Derived.SizedLaws
import Derived.WalkKit
import Derived.WalkSpells
import Derived.WalkLawsBesides
import Derived.Lib.Hide
import Derived.Deep.QuietTactic
import Derived.BigQuiet
import Derived.Below
import Derived.Deep.Draws
import Derived.StillTailTactics
import Derived.Laws.Cells
import Derived.Laws.IdiomCopy
import Derived.Test.YtlklmekapbojdaaGreatRows
import Derived.Lib.Walk
import Derived.Laws.EntriesVeiled
import Derived.Maps.Own
import Derived.Maps.Views
import Derived.Deep.Upon
import Derived.OneCell
import Derived.OrdersHeld
import Derived.Deep.RegionHeld3
import Derived.IntWalk
import Derived.Lib.Bytealg
import Derived.Lib.SliceRun
import Derived.Deep.RegionLaw
import Derived.Lib.AppendZerosOnto
import Derived.Lib.Overlaps
import Derived.Shelf.SlSortCmp.WholeK
import Derived.WalkMore
import Derived.Laws.StructEq
import Derived.WideKeyEntry
import Derived.DeepKeys3
import Derived.ChangeKeys
import Derived.Test.YtlklmekapbojdaaGreatPartL1
import Derived.Test.YtlklmekapbojdaaGreatPartL2
import Derived.Test.YtlklmekapbojdaaGreatPartL3
import Derived.Test.YtlklmekapbojdaaGreatPartL4
import Derived.Test.YtlklmekapbojdaaGreatPartL5
import Derived.Test.YtlklmekapbojdaaGreatPartL6
import Derived.Test.YtlklmekapbojdaaGreatPartL7
import Derived.Test.YtlklmekapbojdaaGreatPartL8
import Derived.Test.YtlklmekapbojdaaGreatPartL9
import Derived.Test.YtlklmekapbojdaaGreatPartL10
import Derived.Test.YtlklmekapbojdaaGreatPartL12
import Derived.Test.YtlklmekapbojdaaGreatPartL13
import Derived.Test.YtlklmekapbojdaaGreatPartL14
import Derived.Test.YtlklmekapbojdaaGreatPartL15
import Derived.Test.YtlklmekapbojdaaGreatPartL16
import Derived.Test.YtlklmekapbojdaaGreatPartL18
import Derived.Test.YtlklmekapbojdaaGreatPartL19
namespace Go.Proofs.YtlklmekapbojdaaGreat
open Go.RowKit
set_option linter.unusedVariables false
theorem laid_has (l : List Gra) (g : Gra) : ∃ x ∈ laid l g, fkey x = fkey g := by
  cases h : inG l g
  · rw [laid_new h]; exact ⟨g, mem_insAt.2 (.inl rfl), rfl⟩
  · obtain ⟨x, hx, e⟩ := List.mem_map.1 ((inG_iff _ _).1 h)
    exact ⟨layF g x, laid_was l g x hx, (layF_key g x).trans e⟩
theorem Gave.inX {c : Cat} {g : Gra} {x : Cat} (h : Gave c g x) : inG x.grants g = true := by
  rw [inG_iff, h.is]
  obtain ⟨y, hy, e⟩ := laid_has c.grants g
  exact List.mem_map.2 ⟨y, hy, e⟩
end Go.Proofs.YtlklmekapbojdaaGreat

namespace Go.Proofs.YtlklmekapbojdaaGreat
open Go.RowKit Go.Deep
set_option maxRecDepth 100000
set_option linter.unusedVariables false
theorem five_no {a b : Gra} (h : fiveE a b = false) : ((a.schema.toList == b.schema.toList) = false) ∨ ((a.schema.toList == b.schema.toList) = true ∧ (a.table.toList == b.table.toList) = false) ∨ ((a.schema.toList == b.schema.toList) = true ∧ (a.table.toList == b.table.toList) = true ∧ (a.right == b.right) = false) ∨ ((a.schema.toList == b.schema.toList) = true ∧ (a.table.toList == b.table.toList) = true ∧ (a.right == b.right) = true ∧ (a.giver.toList == b.giver.toList) = false) ∨ ((a.schema.toList == b.schema.toList) = true ∧ (a.table.toList == b.table.toList) = true ∧ (a.right == b.right) = true ∧ (a.giver.toList == b.giver.toList) = true ∧ (a.to.toList == b.to.toList) = false) := by
  have h' : ((a.schema.toList == b.schema.toList) && ((a.table.toList == b.table.toList) && ((a.right == b.right) && ((a.giver.toList == b.giver.toList) && (a.to.toList == b.to.toList))))) = false := h
  cases h1 : (a.schema.toList == b.schema.toList) <;> cases h2 : (a.table.toList == b.table.toList) <;> cases h3 : (a.right == b.right) <;> cases h4 : (a.giver.toList == b.giver.toList) <;> cases h5 : (a.to.toList == b.to.toList) <;> simp_all
end Go.Proofs.YtlklmekapbojdaaGreat

