/-
  No cell of these rows narrows 'for every input' (looked for: loops, veiled, ifaces, maps, wideKeys, modest, calm, conditions, laid).
  DERIVED. THE GIVEN ROWS OF THIS SEAT. 12 by the template 'for every input the law returns true; each argument reads behind the call as it read before'; 0 by the template 'total and deterministic' (their statements: YtodifdofgjfkiaaTotals.lean).
  GIVEN WITH THE SEED: the statements are not yours to turn. If you find one false, say at which input.
  Laid BY PROGRAM, IN A SANDBOX (cutbox-rows.mjs): the forced cells as the released guide's own fill.sh prints them over the translation b910adb72a7174ae… (all of the seat's roots in one cut). By AI agents, Wed Nov 11 2026. No macro, syntax, notation, axiom, sorry.
-/
import Derived.Test.YtodifdofgjfkiaaChecked
import GoSem.Claim
import GoSem.ClaimJoined
import GoSem.ClaimMapViews
import Derived.JoinedTies
import Derived.KernelRfl
namespace Go.Proofs.Ytodifdofgjfkiaa
/- THE CELL 'sum', in the pinned program and in every row, IS THE sha256 OF THE DUMP (.gsa) THAT YtodifdofgjfkiaaProg.lean LOADS. Nothing in Lean hashes anything: it is a label: what it is worth is what the hold of that sum in a sandbox is worth. -/
noncomputable def Try.pinned : Pinned := { name := "ytodifdofgjfkiaa", sum := "b910adb72a7174ae1c423f2347940a9ce5c631c56c90fe29f55f43fd5fff32a3", checked := Try.checked }
namespace Rows
def none {H : Type} : Left H := { results := [], args := [] }

/-- 'folkmootlaw07.ObjectsChecks': WHATEVER THE INPUT: true; the input reads as it did. -/
def objectsChecksSpec : ChangeSpec := { name := "objectsChecks", fn := fun _ => fun
  | [d] => { results := [.lit (.bool true)], args := [d] }
  | _ => none }
def objectsChecksRow : OpenClaim := { program := "ytodifdofgjfkiaa", sum := "b910adb72a7174ae1c423f2347940a9ce5c631c56c90fe29f55f43fd5fff32a3", func := "folkmoot/folkmootlaw07.ObjectsChecks", spec := "objectsChecks", inPlace := ["internal/bytealg.abigen_runtime_cmpstring", "internal/bytealg.IndexByteString"], unfollowed := true, recurses := true, apart := false }
def ObjectsChecksSaid : Prop := objectsChecksRow.holds Try.pinned (OpenSpec.ofChange objectsChecksSpec)

/-- ITS FALSE NEIGHBOUR: 'it returns false'. Refute it at one input. -/
def objectsChecksWrong : ChangeSpec := { name := "objectsChecks", fn := fun _ => fun
  | [d] => { results := [.lit (.bool false)], args := [d] }
  | _ => none }
def ObjectsChecksWrongFalsely : Prop := objectsChecksRow.holds Try.pinned (OpenSpec.ofChange objectsChecksWrong)

/-- 'folkmootlaw07.ObjectsFinds': WHATEVER THE INPUT: true; the input reads as it did. -/
def objectsFindsSpec : ChangeSpec := { name := "objectsFinds", fn := fun _ => fun
  | [d1, d2, d3, d4] => { results := [.lit (.bool true)], args := [d1, d2, d3, d4] }
  | _ => none }
def objectsFindsRow : OpenClaim := { program := "ytodifdofgjfkiaa", sum := "b910adb72a7174ae1c423f2347940a9ce5c631c56c90fe29f55f43fd5fff32a3", func := "folkmoot/folkmootlaw07.ObjectsFinds", spec := "objectsFinds", inPlace := ["internal/bytealg.abigen_runtime_cmpstring", "internal/bytealg.IndexByteString"], unfollowed := true, recurses := true, apart := false }
def ObjectsFindsSaid : Prop := objectsFindsRow.holds Try.pinned (OpenSpec.ofChange objectsFindsSpec)

/-- ITS FALSE NEIGHBOUR: 'it returns false'. Refute it at one input. -/
def objectsFindsWrong : ChangeSpec := { name := "objectsFinds", fn := fun _ => fun
  | [d1, d2, d3, d4] => { results := [.lit (.bool false)], args := [d1, d2, d3, d4] }
  | _ => none }
def ObjectsFindsWrongFalsely : Prop := objectsFindsRow.holds Try.pinned (OpenSpec.ofChange objectsFindsWrong)

/-- 'folkmootlaw07.ObjectsColumns': WHATEVER THE INPUT: true; the input reads as it did. -/
def objectsColumnsSpec : ChangeSpec := { name := "objectsColumns", fn := fun _ => fun
  | [d1, d2, d3, d4] => { results := [.lit (.bool true)], args := [d1, d2, d3, d4] }
  | _ => none }
def objectsColumnsRow : OpenClaim := { program := "ytodifdofgjfkiaa", sum := "b910adb72a7174ae1c423f2347940a9ce5c631c56c90fe29f55f43fd5fff32a3", func := "folkmoot/folkmootlaw07.ObjectsColumns", spec := "objectsColumns", inPlace := ["internal/bytealg.IndexByteString", "internal/bytealg.abigen_runtime_cmpstring"], unfollowed := true, recurses := true, apart := false }
def ObjectsColumnsSaid : Prop := objectsColumnsRow.holds Try.pinned (OpenSpec.ofChange objectsColumnsSpec)

/-- ITS FALSE NEIGHBOUR: 'it returns false'. Refute it at one input. -/
def objectsColumnsWrong : ChangeSpec := { name := "objectsColumns", fn := fun _ => fun
  | [d1, d2, d3, d4] => { results := [.lit (.bool false)], args := [d1, d2, d3, d4] }
  | _ => none }
def ObjectsColumnsWrongFalsely : Prop := objectsColumnsRow.holds Try.pinned (OpenSpec.ofChange objectsColumnsWrong)

/-- 'folkmootlaw11.RowsMay': WHATEVER THE INPUT: true; the input reads as it did. -/
def rowsMaySpec : ChangeSpec := { name := "rowsMay", fn := fun _ => fun
  | [d1, d2, d3, d4] => { results := [.lit (.bool true)], args := [d1, d2, d3, d4] }
  | _ => none }
def rowsMayRow : OpenClaim := { program := "ytodifdofgjfkiaa", sum := "b910adb72a7174ae1c423f2347940a9ce5c631c56c90fe29f55f43fd5fff32a3", func := "folkmoot/folkmootlaw11.RowsMay", spec := "rowsMay", inPlace := ["internal/bytealg.IndexByteString", "internal/bytealg.abigen_runtime_cmpstring"], unfollowed := true, recurses := true, apart := false }
def RowsMaySaid : Prop := rowsMayRow.holds Try.pinned (OpenSpec.ofChange rowsMaySpec)

/-- ITS FALSE NEIGHBOUR: 'it returns false'. Refute it at one input. -/
def rowsMayWrong : ChangeSpec := { name := "rowsMay", fn := fun _ => fun
  | [d1, d2, d3, d4] => { results := [.lit (.bool false)], args := [d1, d2, d3, d4] }
  | _ => none }
def RowsMayWrongFalsely : Prop := rowsMayRow.holds Try.pinned (OpenSpec.ofChange rowsMayWrong)

/-- 'folkmootlaw11.RowsTurn': WHATEVER THE INPUT: true; the input reads as it did. -/
def rowsTurnSpec : ChangeSpec := { name := "rowsTurn", fn := fun _ => fun
  | [d1, d2, d3] => { results := [.lit (.bool true)], args := [d1, d2, d3] }
  | _ => none }
def rowsTurnRow : OpenClaim := { program := "ytodifdofgjfkiaa", sum := "b910adb72a7174ae1c423f2347940a9ce5c631c56c90fe29f55f43fd5fff32a3", func := "folkmoot/folkmootlaw11.RowsTurn", spec := "rowsTurn", inPlace := ["internal/bytealg.IndexByteString", "internal/bytealg.abigen_runtime_cmpstring"], unfollowed := true, recurses := true, apart := false }
def RowsTurnSaid : Prop := rowsTurnRow.holds Try.pinned (OpenSpec.ofChange rowsTurnSpec)

/-- ITS FALSE NEIGHBOUR: 'it returns false'. Refute it at one input. -/
def rowsTurnWrong : ChangeSpec := { name := "rowsTurn", fn := fun _ => fun
  | [d1, d2, d3] => { results := [.lit (.bool false)], args := [d1, d2, d3] }
  | _ => none }
def RowsTurnWrongFalsely : Prop := rowsTurnRow.holds Try.pinned (OpenSpec.ofChange rowsTurnWrong)

/-- 'folkmootlaw11.RowsFit': WHATEVER THE INPUT: true; the input reads as it did. -/
def rowsFitSpec : ChangeSpec := { name := "rowsFit", fn := fun _ => fun
  | [d1, d2] => { results := [.lit (.bool true)], args := [d1, d2] }
  | _ => none }
def rowsFitRow : OpenClaim := { program := "ytodifdofgjfkiaa", sum := "b910adb72a7174ae1c423f2347940a9ce5c631c56c90fe29f55f43fd5fff32a3", func := "folkmoot/folkmootlaw11.RowsFit", spec := "rowsFit", inPlace := ["internal/bytealg.IndexByteString", "internal/bytealg.abigen_runtime_cmpstring"], unfollowed := true, recurses := true, apart := false }
def RowsFitSaid : Prop := rowsFitRow.holds Try.pinned (OpenSpec.ofChange rowsFitSpec)

/-- ITS FALSE NEIGHBOUR: 'it returns false'. Refute it at one input. -/
def rowsFitWrong : ChangeSpec := { name := "rowsFit", fn := fun _ => fun
  | [d1, d2] => { results := [.lit (.bool false)], args := [d1, d2] }
  | _ => none }
def RowsFitWrongFalsely : Prop := rowsFitRow.holds Try.pinned (OpenSpec.ofChange rowsFitWrong)

/-- 'folkmootlaw11.RowsKey': WHATEVER THE INPUT: true; the input reads as it did. -/
def rowsKeySpec : ChangeSpec := { name := "rowsKey", fn := fun _ => fun
  | [d1, d2, d3] => { results := [.lit (.bool true)], args := [d1, d2, d3] }
  | _ => none }
def rowsKeyRow : OpenClaim := { program := "ytodifdofgjfkiaa", sum := "b910adb72a7174ae1c423f2347940a9ce5c631c56c90fe29f55f43fd5fff32a3", func := "folkmoot/folkmootlaw11.RowsKey", spec := "rowsKey", inPlace := ["internal/bytealg.IndexByteString", "internal/bytealg.abigen_runtime_cmpstring"], unfollowed := true, recurses := true, apart := false }
def RowsKeySaid : Prop := rowsKeyRow.holds Try.pinned (OpenSpec.ofChange rowsKeySpec)

/-- ITS FALSE NEIGHBOUR: 'it returns false'. Refute it at one input. -/
def rowsKeyWrong : ChangeSpec := { name := "rowsKey", fn := fun _ => fun
  | [d1, d2, d3] => { results := [.lit (.bool false)], args := [d1, d2, d3] }
  | _ => none }
def RowsKeyWrongFalsely : Prop := rowsKeyRow.holds Try.pinned (OpenSpec.ofChange rowsKeyWrong)

/-- 'folkmootlaw11.RowsBack': WHATEVER THE INPUT: true; the input reads as it did. -/
def rowsBackSpec : ChangeSpec := { name := "rowsBack", fn := fun _ => fun
  | [d1, d2, d3] => { results := [.lit (.bool true)], args := [d1, d2, d3] }
  | _ => none }
def rowsBackRow : OpenClaim := { program := "ytodifdofgjfkiaa", sum := "b910adb72a7174ae1c423f2347940a9ce5c631c56c90fe29f55f43fd5fff32a3", func := "folkmoot/folkmootlaw11.RowsBack", spec := "rowsBack", inPlace := ["internal/bytealg.IndexByteString", "internal/bytealg.abigen_runtime_cmpstring"], unfollowed := true, recurses := true, apart := false }
def RowsBackSaid : Prop := rowsBackRow.holds Try.pinned (OpenSpec.ofChange rowsBackSpec)

/-- ITS FALSE NEIGHBOUR: 'it returns false'. Refute it at one input. -/
def rowsBackWrong : ChangeSpec := { name := "rowsBack", fn := fun _ => fun
  | [d1, d2, d3] => { results := [.lit (.bool false)], args := [d1, d2, d3] }
  | _ => none }
def RowsBackWrongFalsely : Prop := rowsBackRow.holds Try.pinned (OpenSpec.ofChange rowsBackWrong)

/-- 'folkmootlaw11.RowsChecks': WHATEVER THE INPUT: true; the input reads as it did. -/
def rowsChecksSpec : ChangeSpec := { name := "rowsChecks", fn := fun _ => fun
  | [d1, d2] => { results := [.lit (.bool true)], args := [d1, d2] }
  | _ => none }
def rowsChecksRow : OpenClaim := { program := "ytodifdofgjfkiaa", sum := "b910adb72a7174ae1c423f2347940a9ce5c631c56c90fe29f55f43fd5fff32a3", func := "folkmoot/folkmootlaw11.RowsChecks", spec := "rowsChecks", inPlace := ["internal/bytealg.IndexByteString", "internal/bytealg.abigen_runtime_cmpstring"], unfollowed := true, recurses := true, apart := false }
def RowsChecksSaid : Prop := rowsChecksRow.holds Try.pinned (OpenSpec.ofChange rowsChecksSpec)

/-- ITS FALSE NEIGHBOUR: 'it returns false'. Refute it at one input. -/
def rowsChecksWrong : ChangeSpec := { name := "rowsChecks", fn := fun _ => fun
  | [d1, d2] => { results := [.lit (.bool false)], args := [d1, d2] }
  | _ => none }
def RowsChecksWrongFalsely : Prop := rowsChecksRow.holds Try.pinned (OpenSpec.ofChange rowsChecksWrong)

/-- 'folkmootlaw08.RolesChecks': WHATEVER THE INPUT: true; the input reads as it did. -/
def rolesChecksSpec : ChangeSpec := { name := "rolesChecks", fn := fun _ => fun
  | [d] => { results := [.lit (.bool true)], args := [d] }
  | _ => none }
def rolesChecksRow : OpenClaim := { program := "ytodifdofgjfkiaa", sum := "b910adb72a7174ae1c423f2347940a9ce5c631c56c90fe29f55f43fd5fff32a3", func := "folkmoot/folkmootlaw08.RolesChecks", spec := "rolesChecks", inPlace := ["internal/bytealg.abigen_runtime_cmpstring", "internal/bytealg.IndexByteString"], unfollowed := true, recurses := true, apart := false }
def RolesChecksSaid : Prop := rolesChecksRow.holds Try.pinned (OpenSpec.ofChange rolesChecksSpec)

/-- ITS FALSE NEIGHBOUR: 'it returns false'. Refute it at one input. -/
def rolesChecksWrong : ChangeSpec := { name := "rolesChecks", fn := fun _ => fun
  | [d] => { results := [.lit (.bool false)], args := [d] }
  | _ => none }
def RolesChecksWrongFalsely : Prop := rolesChecksRow.holds Try.pinned (OpenSpec.ofChange rolesChecksWrong)

/-- 'folkmootlaw08.RolesAll': WHATEVER THE INPUT: true; the input reads as it did. -/
def rolesAllSpec : ChangeSpec := { name := "rolesAll", fn := fun _ => fun
  | [d1, d2, d3] => { results := [.lit (.bool true)], args := [d1, d2, d3] }
  | _ => none }
def rolesAllRow : OpenClaim := { program := "ytodifdofgjfkiaa", sum := "b910adb72a7174ae1c423f2347940a9ce5c631c56c90fe29f55f43fd5fff32a3", func := "folkmoot/folkmootlaw08.RolesAll", spec := "rolesAll", inPlace := ["internal/bytealg.abigen_runtime_cmpstring", "internal/bytealg.IndexByteString"], unfollowed := true, recurses := true, apart := false }
def RolesAllSaid : Prop := rolesAllRow.holds Try.pinned (OpenSpec.ofChange rolesAllSpec)

/-- ITS FALSE NEIGHBOUR: 'it returns false'. Refute it at one input. -/
def rolesAllWrong : ChangeSpec := { name := "rolesAll", fn := fun _ => fun
  | [d1, d2, d3] => { results := [.lit (.bool false)], args := [d1, d2, d3] }
  | _ => none }
def RolesAllWrongFalsely : Prop := rolesAllRow.holds Try.pinned (OpenSpec.ofChange rolesAllWrong)

/-- 'folkmootlaw08.RolesOn': WHATEVER THE INPUT: true; the input reads as it did. -/
def rolesOnSpec : ChangeSpec := { name := "rolesOn", fn := fun _ => fun
  | [d1, d2, d3, d4] => { results := [.lit (.bool true)], args := [d1, d2, d3, d4] }
  | _ => none }
def rolesOnRow : OpenClaim := { program := "ytodifdofgjfkiaa", sum := "b910adb72a7174ae1c423f2347940a9ce5c631c56c90fe29f55f43fd5fff32a3", func := "folkmoot/folkmootlaw08.RolesOn", spec := "rolesOn", inPlace := ["internal/bytealg.abigen_runtime_cmpstring", "internal/bytealg.IndexByteString"], unfollowed := true, recurses := true, apart := false }
def RolesOnSaid : Prop := rolesOnRow.holds Try.pinned (OpenSpec.ofChange rolesOnSpec)

/-- ITS FALSE NEIGHBOUR: 'it returns false'. Refute it at one input. -/
def rolesOnWrong : ChangeSpec := { name := "rolesOn", fn := fun _ => fun
  | [d1, d2, d3, d4] => { results := [.lit (.bool false)], args := [d1, d2, d3, d4] }
  | _ => none }
def RolesOnWrongFalsely : Prop := rolesOnRow.holds Try.pinned (OpenSpec.ofChange rolesOnWrong)

/- THE SECOND FORM. 'bulk': how many values and letters a reading holds, each counted each time it is reached (what is shared counts as often as it is met; a slice's spare places count too). A statement '..UptoSaid' is the law's where the arguments, and the package variables that the reading takes, are together of bulk at most 1048576: NARROWER than '..Said'. Prove '..Said' where nothing that the law and all that it calls make is longer than what came in: it says more and counts as full. Else prove '..UptoSaid'. A law counts once. -/
mutual
def uptoBulk {H : Type} : DataW H → Nat
  | .lit (.string bytes) => bytes.length + 1
  | .lit _ => 1
  | .nil => 1
  | .ptr d => uptoBulk d + 1
  | .slice elems spare => uptoBulkAll elems + uptoBulkAll spare + 1
  | .agg parts => uptoBulkAll parts + 1
  | .iface _ d => uptoBulk d + 1
  | .map entries => uptoBulkEntries entries + 1
  | .held _ => 1
def uptoBulkAll {H : Type} : List (DataW H) → Nat
  | [] => 0
  | d :: r => uptoBulk d + uptoBulkAll r
def uptoBulkEntries {H : Type} : List (Lit × DataW H) → Nat
  | [] => 0
  | x :: r => uptoBulkEntry x + uptoBulkEntries r
def uptoBulkEntry {H : Type} : Lit × DataW H → Nat
  | (.string bytes, d) => bytes.length + uptoBulk d + 1
  | (_, d) => uptoBulk d + 1
 end
def uptoSmall : (H : Type) → List (DataW H) → Bool := fun _ ds => decide (uptoBulkAll ds ≤ 1048576)
def OpenSpec.upto (s : _root_.Go.ChangeSpec) : _root_.Go.OpenSpec := { _root_.Go.OpenSpec.ofChange s with cond := some uptoSmall }

/-- 'folkmootlaw07.ObjectsChecks', WHERE WHAT IT READS IS OF BULK AT MOST 1048576: true; the input reads as it did. -/
def objectsChecksUptoRow : OpenClaim := { program := "ytodifdofgjfkiaa", sum := "b910adb72a7174ae1c423f2347940a9ce5c631c56c90fe29f55f43fd5fff32a3", func := "folkmoot/folkmootlaw07.ObjectsChecks", spec := "objectsChecks", inPlace := ["internal/bytealg.abigen_runtime_cmpstring", "internal/bytealg.IndexByteString"], unfollowed := true, recurses := true, apart := false, narrowed := true }
def ObjectsChecksUptoSaid : Prop := objectsChecksUptoRow.holds Try.pinned (OpenSpec.upto objectsChecksSpec)

/-- 'folkmootlaw07.ObjectsFinds', WHERE WHAT IT READS IS OF BULK AT MOST 1048576: true; the input reads as it did. -/
def objectsFindsUptoRow : OpenClaim := { program := "ytodifdofgjfkiaa", sum := "b910adb72a7174ae1c423f2347940a9ce5c631c56c90fe29f55f43fd5fff32a3", func := "folkmoot/folkmootlaw07.ObjectsFinds", spec := "objectsFinds", inPlace := ["internal/bytealg.abigen_runtime_cmpstring", "internal/bytealg.IndexByteString"], unfollowed := true, recurses := true, apart := false, narrowed := true }
def ObjectsFindsUptoSaid : Prop := objectsFindsUptoRow.holds Try.pinned (OpenSpec.upto objectsFindsSpec)

/-- 'folkmootlaw07.ObjectsColumns', WHERE WHAT IT READS IS OF BULK AT MOST 1048576: true; the input reads as it did. -/
def objectsColumnsUptoRow : OpenClaim := { program := "ytodifdofgjfkiaa", sum := "b910adb72a7174ae1c423f2347940a9ce5c631c56c90fe29f55f43fd5fff32a3", func := "folkmoot/folkmootlaw07.ObjectsColumns", spec := "objectsColumns", inPlace := ["internal/bytealg.IndexByteString", "internal/bytealg.abigen_runtime_cmpstring"], unfollowed := true, recurses := true, apart := false, narrowed := true }
def ObjectsColumnsUptoSaid : Prop := objectsColumnsUptoRow.holds Try.pinned (OpenSpec.upto objectsColumnsSpec)

/-- 'folkmootlaw11.RowsMay', WHERE WHAT IT READS IS OF BULK AT MOST 1048576: true; the input reads as it did. -/
def rowsMayUptoRow : OpenClaim := { program := "ytodifdofgjfkiaa", sum := "b910adb72a7174ae1c423f2347940a9ce5c631c56c90fe29f55f43fd5fff32a3", func := "folkmoot/folkmootlaw11.RowsMay", spec := "rowsMay", inPlace := ["internal/bytealg.IndexByteString", "internal/bytealg.abigen_runtime_cmpstring"], unfollowed := true, recurses := true, apart := false, narrowed := true }
def RowsMayUptoSaid : Prop := rowsMayUptoRow.holds Try.pinned (OpenSpec.upto rowsMaySpec)

/-- 'folkmootlaw11.RowsTurn', WHERE WHAT IT READS IS OF BULK AT MOST 1048576: true; the input reads as it did. -/
def rowsTurnUptoRow : OpenClaim := { program := "ytodifdofgjfkiaa", sum := "b910adb72a7174ae1c423f2347940a9ce5c631c56c90fe29f55f43fd5fff32a3", func := "folkmoot/folkmootlaw11.RowsTurn", spec := "rowsTurn", inPlace := ["internal/bytealg.IndexByteString", "internal/bytealg.abigen_runtime_cmpstring"], unfollowed := true, recurses := true, apart := false, narrowed := true }
def RowsTurnUptoSaid : Prop := rowsTurnUptoRow.holds Try.pinned (OpenSpec.upto rowsTurnSpec)

/-- 'folkmootlaw11.RowsFit', WHERE WHAT IT READS IS OF BULK AT MOST 1048576: true; the input reads as it did. -/
def rowsFitUptoRow : OpenClaim := { program := "ytodifdofgjfkiaa", sum := "b910adb72a7174ae1c423f2347940a9ce5c631c56c90fe29f55f43fd5fff32a3", func := "folkmoot/folkmootlaw11.RowsFit", spec := "rowsFit", inPlace := ["internal/bytealg.IndexByteString", "internal/bytealg.abigen_runtime_cmpstring"], unfollowed := true, recurses := true, apart := false, narrowed := true }
def RowsFitUptoSaid : Prop := rowsFitUptoRow.holds Try.pinned (OpenSpec.upto rowsFitSpec)

/-- 'folkmootlaw11.RowsKey', WHERE WHAT IT READS IS OF BULK AT MOST 1048576: true; the input reads as it did. -/
def rowsKeyUptoRow : OpenClaim := { program := "ytodifdofgjfkiaa", sum := "b910adb72a7174ae1c423f2347940a9ce5c631c56c90fe29f55f43fd5fff32a3", func := "folkmoot/folkmootlaw11.RowsKey", spec := "rowsKey", inPlace := ["internal/bytealg.IndexByteString", "internal/bytealg.abigen_runtime_cmpstring"], unfollowed := true, recurses := true, apart := false, narrowed := true }
def RowsKeyUptoSaid : Prop := rowsKeyUptoRow.holds Try.pinned (OpenSpec.upto rowsKeySpec)

/-- 'folkmootlaw11.RowsBack', WHERE WHAT IT READS IS OF BULK AT MOST 1048576: true; the input reads as it did. -/
def rowsBackUptoRow : OpenClaim := { program := "ytodifdofgjfkiaa", sum := "b910adb72a7174ae1c423f2347940a9ce5c631c56c90fe29f55f43fd5fff32a3", func := "folkmoot/folkmootlaw11.RowsBack", spec := "rowsBack", inPlace := ["internal/bytealg.IndexByteString", "internal/bytealg.abigen_runtime_cmpstring"], unfollowed := true, recurses := true, apart := false, narrowed := true }
def RowsBackUptoSaid : Prop := rowsBackUptoRow.holds Try.pinned (OpenSpec.upto rowsBackSpec)

/-- 'folkmootlaw11.RowsChecks', WHERE WHAT IT READS IS OF BULK AT MOST 1048576: true; the input reads as it did. -/
def rowsChecksUptoRow : OpenClaim := { program := "ytodifdofgjfkiaa", sum := "b910adb72a7174ae1c423f2347940a9ce5c631c56c90fe29f55f43fd5fff32a3", func := "folkmoot/folkmootlaw11.RowsChecks", spec := "rowsChecks", inPlace := ["internal/bytealg.IndexByteString", "internal/bytealg.abigen_runtime_cmpstring"], unfollowed := true, recurses := true, apart := false, narrowed := true }
def RowsChecksUptoSaid : Prop := rowsChecksUptoRow.holds Try.pinned (OpenSpec.upto rowsChecksSpec)

/-- 'folkmootlaw08.RolesChecks', WHERE WHAT IT READS IS OF BULK AT MOST 1048576: true; the input reads as it did. -/
def rolesChecksUptoRow : OpenClaim := { program := "ytodifdofgjfkiaa", sum := "b910adb72a7174ae1c423f2347940a9ce5c631c56c90fe29f55f43fd5fff32a3", func := "folkmoot/folkmootlaw08.RolesChecks", spec := "rolesChecks", inPlace := ["internal/bytealg.abigen_runtime_cmpstring", "internal/bytealg.IndexByteString"], unfollowed := true, recurses := true, apart := false, narrowed := true }
def RolesChecksUptoSaid : Prop := rolesChecksUptoRow.holds Try.pinned (OpenSpec.upto rolesChecksSpec)

/-- 'folkmootlaw08.RolesAll', WHERE WHAT IT READS IS OF BULK AT MOST 1048576: true; the input reads as it did. -/
def rolesAllUptoRow : OpenClaim := { program := "ytodifdofgjfkiaa", sum := "b910adb72a7174ae1c423f2347940a9ce5c631c56c90fe29f55f43fd5fff32a3", func := "folkmoot/folkmootlaw08.RolesAll", spec := "rolesAll", inPlace := ["internal/bytealg.abigen_runtime_cmpstring", "internal/bytealg.IndexByteString"], unfollowed := true, recurses := true, apart := false, narrowed := true }
def RolesAllUptoSaid : Prop := rolesAllUptoRow.holds Try.pinned (OpenSpec.upto rolesAllSpec)

/-- 'folkmootlaw08.RolesOn', WHERE WHAT IT READS IS OF BULK AT MOST 1048576: true; the input reads as it did. -/
def rolesOnUptoRow : OpenClaim := { program := "ytodifdofgjfkiaa", sum := "b910adb72a7174ae1c423f2347940a9ce5c631c56c90fe29f55f43fd5fff32a3", func := "folkmoot/folkmootlaw08.RolesOn", spec := "rolesOn", inPlace := ["internal/bytealg.abigen_runtime_cmpstring", "internal/bytealg.IndexByteString"], unfollowed := true, recurses := true, apart := false, narrowed := true }
def RolesOnUptoSaid : Prop := rolesOnUptoRow.holds Try.pinned (OpenSpec.upto rolesOnSpec)

end Rows
end Go.Proofs.Ytodifdofgjfkiaa
