/- Commands: what catalog.May, catalog.Fencing and the document's May, Fencing return. -/
import Derived.Test.YtngpojfgmpdniaaName
import Derived.Test.YtngpojfgmpdniaaBase
namespace Go.Proofs.Ytngpojfgmpdniaa
open Go.RowKit
set_option maxRecDepth 100000

def emp (s : ByteArray) : Bool := s.toList.isEmpty
theorem cat_nil_iff (a b : ByteArray) : (a ++ b).toList = [] ↔ a.toList = [] ∧ b.toList = [] := by
  simp only [toList_nil_iff, ByteArray.size_append]; omega
/-- is a rule zero? -/
def bareB (name : ByteArray) (kind : Int) (n : Nat) (low high : Int) (schema table key : ByteArray) : Bool :=
  decide (n = 0) && emp name && emp schema && emp table && emp key && (kind == 0) && (low == 0) && (high == 0)

set_option maxHeartbeats 1000000 in
theorem bare_any (name : ByteArray) (kind : Int) (A : Option Addr) (n c : Nat) (low high : Int) (schema table key : ByteArray) (w : World)
    (h1 : name.size ≤ 140737488351232) (h2 : schema.size ≤ 140737488351232) (h3 : table.size ≤ 140737488351232) (h4 : key.size ≤ 140737488351232) :
    Calls Try.prog 49 #[.agg #[.string name, .int .i64 kind, .slice A n c, .int .i64 low, .int .i64 high, .string schema, .string table, .string key]] w
      fun e w' => e = .returned (.bool (bareB name kind n low high schema table key)) ∧ Aft w w' := by
  go_enter Try.func49, Try.ntmps49
  go_wp2_with fail
  all_goals
    go_ret
    refine ⟨Eq.trans (b := .returned (.bool _)) rfl (ret_of (bool_of ?_)), (Aft.refl _).alloc _⟩
    simp_all [bareB, emp, cat_nil_iff]
set_option maxHeartbeats 1000000 in
theorem rbare_any (name : ByteArray) (kind : Int) (A : Option Addr) (n c : Nat) (low high : Int) (schema table key : ByteArray) (w : World) :
    Calls Try.prog 52 #[.agg #[.string name, .int .i64 kind, .slice A n c, .int .i64 low, .int .i64 high, .string schema, .string table, .string key]] w
      fun e w' => e = .returned (.bool (bareB name kind n low high schema table key)) ∧ Aft w w' := by
  go_enter Try.func52, Try.ntmps52
  go_wp2_with fail
  all_goals
    go_ret
    refine ⟨Eq.trans (b := .returned (.bool _)) rfl (ret_of (bool_of ?_)), (Aft.refl _).alloc _⟩
    simp_all [bareB, emp, cat_nil_iff]
end Go.Proofs.Ytngpojfgmpdniaa
