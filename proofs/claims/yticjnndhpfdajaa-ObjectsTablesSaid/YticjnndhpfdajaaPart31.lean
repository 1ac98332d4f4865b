/- Contracts of the program, part 31. -/
import Derived.Test.YticjnndhpfdajaaPart30
/- objects.AddSchema, objects.DropSchema, whole. -/
namespace Go.Proofs.Yticjnndhpfdajaa
open Go.RowKit Go.Deep Go.Sort
set_option maxRecDepth 100000
set_option linter.unusedVariables false
theorem own_cap7 {w : World} {B size n : Nat} {e : TypeId} {v : Value} {xs : List Value} (h : w.ownsRow B e size v n xs) : ∀ A n c, v = .slice A n c → c ≤ 9223372036854775807 := by
  intro A n c hv
  rcases h.2 with ⟨rfl, _⟩ | ⟨g, cap, cur, rfl, _, _, _, hcm, _⟩
  · simp only [Value.slice.injEq] at hv; omega
  · simp only [Value.slice.injEq] at hv
    have : cap ≤ maxLen := hcm
    unfold maxLen at this
    omega
theorem addSchR_zero {name owner : ByteArray} {o : Objs} : (addSchR name owner o).2 ≠ 0 → (addSchR name owner o).1 = zeroO := by
  unfold addSchR
  split
  · exact fun _ => rfl
  · split
    · exact fun _ => rfl
    · split
      · exact fun _ => rfl
      · exact fun h => absurd rfl h
theorem dropSchR_zero {name : ByteArray} {o : Objs} : (dropSchR name o).2 ≠ 0 → (dropSchR name o).1 = zeroO := by
  unfold dropSchR
  split
  · exact fun _ => rfl
  · split
    · exact fun _ => rfl
    · exact fun h => absurd rfl h
end Go.Proofs.Yticjnndhpfdajaa
/- The document's AddSchema and DropSchema. -/
namespace Go.Proofs.Yticjnndhpfdajaa
open Go.RowKit Go.Deep
set_option maxRecDepth 100000
set_option linter.unusedVariables false
end Go.Proofs.Yticjnndhpfdajaa
