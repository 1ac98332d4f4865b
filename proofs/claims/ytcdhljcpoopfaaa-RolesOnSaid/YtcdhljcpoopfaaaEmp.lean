/- Empty texts. -/
import Derived.Test.YtcdhljcpoopfaaaName
namespace Go.Proofs.Ytcdhljcpoopfaaa
def emp (s : ByteArray) : Bool := s.toList.isEmpty
theorem cat_nil_iff (a b : ByteArray) : (a ++ b).toList = [] ↔ a.toList = [] ∧ b.toList = [] := by
  simp only [toList_nil_iff, ByteArray.size_append]; omega
end Go.Proofs.Ytcdhljcpoopfaaa
