/-
  No cell of these rows narrows 'for every input' (looked for: loops, veiled, ifaces, maps, wideKeys, modest, calm, conditions, laid).
  DERIVED. THE GIVEN ROWS OF THIS SEAT. 8 by the template 'for every input the law returns true; each argument reads behind the call as it read before'; 0 by the template 'total and deterministic' (their statements: YtlklmekapbojdaaGreatTotals.lean).
  GIVEN WITH THE SEED: the statements are not yours to turn. If you find one false, say at which input.
  Laid BY PROGRAM, IN A SANDBOX (cutbox-rows.mjs): the forced cells as the released guide's own fill.sh prints them over the translation 54a322e3cbe2872c… (all of the seat's roots in one cut). By AI agents, Wed Nov 11 2026. No macro, syntax, notation, axiom, sorry.
-/
import Derived.Test.YtlklmekapbojdaaGreatChecked
import GoSem.Claim
import GoSem.ClaimJoined
import GoSem.ClaimMapViews
import Derived.JoinedTies
import Derived.KernelRfl
namespace Go.Proofs.YtlklmekapbojdaaGreat
/- THE CELL 'sum', in the pinned program and in every row, IS THE sha256 OF THE DUMP (.gsa) THAT YtlklmekapbojdaaGreatProg.lean LOADS. Nothing in Lean hashes anything: it is a label: what it is worth is what the hold of that sum in a sandbox is worth. -/
noncomputable def Tryz.pinned : Pinned := { name := "ytlklmekapbojdaagreat", sum := "54a322e3cbe2872cf76f5e1ad63b6f1e3727c87fc276f7f01f119e095d84683b", checked := Tryz.checked }
namespace Rows
def none {H : Type} : Left H := { results := [], args := [] }

/-- 'folkmootlaw12.StoreRuns': WHATEVER THE INPUT: true; the input reads as it did. -/
def storeRunsSpec : ChangeSpec := { name := "storeRuns", fn := fun _ => fun
  | [d] => { results := [.lit (.bool true)], args := [d] }
  | _ => none }
def storeRunsRow : OpenClaim := { program := "ytlklmekapbojdaagreat", sum := "54a322e3cbe2872cf76f5e1ad63b6f1e3727c87fc276f7f01f119e095d84683b", func := "folkmoot/folkmootlaw12.StoreRuns", spec := "storeRuns", inPlace := ["internal/bytealg.abigen_runtime_cmpstring", "internal/bytealg.IndexByteString"], unfollowed := true, recurses := true, plainKeys := false, apart := false }
def StoreRunsSaid : Prop := storeRunsRow.holds Tryz.pinned (OpenSpec.ofChange storeRunsSpec)

/-- ITS FALSE NEIGHBOUR: 'it returns false'. Refute it at one input. -/
def storeRunsWrong : ChangeSpec := { name := "storeRuns", fn := fun _ => fun
  | [d] => { results := [.lit (.bool false)], args := [d] }
  | _ => none }
def StoreRunsWrongFalsely : Prop := storeRunsRow.holds Tryz.pinned (OpenSpec.ofChange storeRunsWrong)

/-- 'folkmootlaw12.StoreKeeps': WHATEVER THE INPUT: true; the input reads as it did. -/
def storeKeepsSpec : ChangeSpec := { name := "storeKeeps", fn := fun _ => fun
  | [d1, d2] => { results := [.lit (.bool true)], args := [d1, d2] }
  | _ => none }
def storeKeepsRow : OpenClaim := { program := "ytlklmekapbojdaagreat", sum := "54a322e3cbe2872cf76f5e1ad63b6f1e3727c87fc276f7f01f119e095d84683b", func := "folkmoot/folkmootlaw12.StoreKeeps", spec := "storeKeeps", inPlace := ["internal/bytealg.abigen_runtime_cmpstring", "internal/bytealg.IndexByteString"], unfollowed := true, recurses := true, plainKeys := false, apart := false }
def StoreKeepsSaid : Prop := storeKeepsRow.holds Tryz.pinned (OpenSpec.ofChange storeKeepsSpec)

/-- ITS FALSE NEIGHBOUR: 'it returns false'. Refute it at one input. -/
def storeKeepsWrong : ChangeSpec := { name := "storeKeeps", fn := fun _ => fun
  | [d1, d2] => { results := [.lit (.bool false)], args := [d1, d2] }
  | _ => none }
def StoreKeepsWrongFalsely : Prop := storeKeepsRow.holds Tryz.pinned (OpenSpec.ofChange storeKeepsWrong)

/-- 'folkmootlaw10.CatalogChecks': WHATEVER THE INPUT: true; the input reads as it did. -/
def catalogChecksSpec : ChangeSpec := { name := "catalogChecks", fn := fun _ => fun
  | [d] => { results := [.lit (.bool true)], args := [d] }
  | _ => none }
def catalogChecksRow : OpenClaim := { program := "ytlklmekapbojdaagreat", sum := "54a322e3cbe2872cf76f5e1ad63b6f1e3727c87fc276f7f01f119e095d84683b", func := "folkmoot/folkmootlaw10.CatalogChecks", spec := "catalogChecks", inPlace := ["internal/bytealg.abigen_runtime_cmpstring", "internal/bytealg.IndexByteString"], unfollowed := true, recurses := true, plainKeys := false, apart := false }
def CatalogChecksSaid : Prop := catalogChecksRow.holds Tryz.pinned (OpenSpec.ofChange catalogChecksSpec)

/-- ITS FALSE NEIGHBOUR: 'it returns false'. Refute it at one input. -/
def catalogChecksWrong : ChangeSpec := { name := "catalogChecks", fn := fun _ => fun
  | [d] => { results := [.lit (.bool false)], args := [d] }
  | _ => none }
def CatalogChecksWrongFalsely : Prop := catalogChecksRow.holds Tryz.pinned (OpenSpec.ofChange catalogChecksWrong)

/-- 'folkmootlaw09.GrantsGive': WHATEVER THE INPUT: true; the input reads as it did. -/
def grantsGiveSpec : ChangeSpec := { name := "grantsGive", fn := fun _ => fun
  | [d1, d2] => { results := [.lit (.bool true)], args := [d1, d2] }
  | _ => none }
def grantsGiveRow : OpenClaim := { program := "ytlklmekapbojdaagreat", sum := "54a322e3cbe2872cf76f5e1ad63b6f1e3727c87fc276f7f01f119e095d84683b", func := "folkmoot/folkmootlaw09.GrantsGive", spec := "grantsGive", inPlace := ["internal/bytealg.abigen_runtime_cmpstring", "internal/bytealg.IndexByteString", "slices.overlaps[folkmoot/api.Grant]"], unfollowed := true, recurses := true, plainKeys := false, apart := false }
def GrantsGiveSaid : Prop := grantsGiveRow.holds Tryz.pinned (OpenSpec.ofChange grantsGiveSpec)

/-- ITS FALSE NEIGHBOUR: 'it returns false'. Refute it at one input. -/
def grantsGiveWrong : ChangeSpec := { name := "grantsGive", fn := fun _ => fun
  | [d1, d2] => { results := [.lit (.bool false)], args := [d1, d2] }
  | _ => none }
def GrantsGiveWrongFalsely : Prop := grantsGiveRow.holds Tryz.pinned (OpenSpec.ofChange grantsGiveWrong)

/-- 'folkmootlaw09.GrantsTake': WHATEVER THE INPUT: true; the input reads as it did. -/
def grantsTakeSpec : ChangeSpec := { name := "grantsTake", fn := fun _ => fun
  | [d1, d2] => { results := [.lit (.bool true)], args := [d1, d2] }
  | _ => none }
def grantsTakeRow : OpenClaim := { program := "ytlklmekapbojdaagreat", sum := "54a322e3cbe2872cf76f5e1ad63b6f1e3727c87fc276f7f01f119e095d84683b", func := "folkmoot/folkmootlaw09.GrantsTake", spec := "grantsTake", inPlace := ["internal/bytealg.abigen_runtime_cmpstring", "internal/bytealg.IndexByteString", "slices.overlaps[folkmoot/api.Grant]"], unfollowed := true, recurses := true, plainKeys := false, apart := false }
def GrantsTakeSaid : Prop := grantsTakeRow.holds Tryz.pinned (OpenSpec.ofChange grantsTakeSpec)

/-- ITS FALSE NEIGHBOUR: 'it returns false'. Refute it at one input. -/
def grantsTakeWrong : ChangeSpec := { name := "grantsTake", fn := fun _ => fun
  | [d1, d2] => { results := [.lit (.bool false)], args := [d1, d2] }
  | _ => none }
def GrantsTakeWrongFalsely : Prop := grantsTakeRow.holds Tryz.pinned (OpenSpec.ofChange grantsTakeWrong)

/-- 'folkmootlaw09.GrantsBack': WHATEVER THE INPUT: true; the input reads as it did. -/
def grantsBackSpec : ChangeSpec := { name := "grantsBack", fn := fun _ => fun
  | [d1, d2] => { results := [.lit (.bool true)], args := [d1, d2] }
  | _ => none }
def grantsBackRow : OpenClaim := { program := "ytlklmekapbojdaagreat", sum := "54a322e3cbe2872cf76f5e1ad63b6f1e3727c87fc276f7f01f119e095d84683b", func := "folkmoot/folkmootlaw09.GrantsBack", spec := "grantsBack", inPlace := ["internal/bytealg.abigen_runtime_cmpstring", "internal/bytealg.IndexByteString", "slices.overlaps[folkmoot/api.Grant]"], unfollowed := true, recurses := true, plainKeys := false, apart := false }
def GrantsBackSaid : Prop := grantsBackRow.holds Tryz.pinned (OpenSpec.ofChange grantsBackSpec)

/-- ITS FALSE NEIGHBOUR: 'it returns false'. Refute it at one input. -/
def grantsBackWrong : ChangeSpec := { name := "grantsBack", fn := fun _ => fun
  | [d1, d2] => { results := [.lit (.bool false)], args := [d1, d2] }
  | _ => none }
def GrantsBackWrongFalsely : Prop := grantsBackRow.holds Tryz.pinned (OpenSpec.ofChange grantsBackWrong)

/-- 'folkmootlaw09.GrantsLess': WHATEVER THE INPUT: true; the input reads as it did. -/
def grantsLessSpec : ChangeSpec := { name := "grantsLess", fn := fun _ => fun
  | [d1, d2, d3, d4, d5, d6] => { results := [.lit (.bool true)], args := [d1, d2, d3, d4, d5, d6] }
  | _ => none }
def grantsLessRow : OpenClaim := { program := "ytlklmekapbojdaagreat", sum := "54a322e3cbe2872cf76f5e1ad63b6f1e3727c87fc276f7f01f119e095d84683b", func := "folkmoot/folkmootlaw09.GrantsLess", spec := "grantsLess", inPlace := ["internal/bytealg.abigen_runtime_cmpstring", "internal/bytealg.IndexByteString", "slices.overlaps[folkmoot/api.Grant]"], unfollowed := true, recurses := true, plainKeys := false, apart := false }
def GrantsLessSaid : Prop := grantsLessRow.holds Tryz.pinned (OpenSpec.ofChange grantsLessSpec)

/-- ITS FALSE NEIGHBOUR: 'it returns false'. Refute it at one input. -/
def grantsLessWrong : ChangeSpec := { name := "grantsLess", fn := fun _ => fun
  | [d1, d2, d3, d4, d5, d6] => { results := [.lit (.bool false)], args := [d1, d2, d3, d4, d5, d6] }
  | _ => none }
def GrantsLessWrongFalsely : Prop := grantsLessRow.holds Tryz.pinned (OpenSpec.ofChange grantsLessWrong)

/-- 'folkmootlaw09.GrantsWhole': WHATEVER THE INPUT: true; the input reads as it did. -/
def grantsWholeSpec : ChangeSpec := { name := "grantsWhole", fn := fun _ => fun
  | [d1, d2] => { results := [.lit (.bool true)], args := [d1, d2] }
  | _ => none }
def grantsWholeRow : OpenClaim := { program := "ytlklmekapbojdaagreat", sum := "54a322e3cbe2872cf76f5e1ad63b6f1e3727c87fc276f7f01f119e095d84683b", func := "folkmoot/folkmootlaw09.GrantsWhole", spec := "grantsWhole", inPlace := ["internal/bytealg.abigen_runtime_cmpstring", "internal/bytealg.IndexByteString", "slices.overlaps[folkmoot/api.Grant]"], unfollowed := true, recurses := true, plainKeys := false, apart := false }
def GrantsWholeSaid : Prop := grantsWholeRow.holds Tryz.pinned (OpenSpec.ofChange grantsWholeSpec)

/-- ITS FALSE NEIGHBOUR: 'it returns false'. Refute it at one input. -/
def grantsWholeWrong : ChangeSpec := { name := "grantsWhole", fn := fun _ => fun
  | [d1, d2] => { results := [.lit (.bool false)], args := [d1, d2] }
  | _ => none }
def GrantsWholeWrongFalsely : Prop := grantsWholeRow.holds Tryz.pinned (OpenSpec.ofChange grantsWholeWrong)

/- THE SECOND FORM. 'bulk': how many values and letters a reading holds, each counted each time it is reached (what is shared counts as often as it is met; a slice's spare places count too). A statement '..UptoSaid' is the law's where the arguments, and the package variables that the reading takes, are together of bulk at most 1048576: NARROWER than '..Said'. Prove '..Said' where nothing that the law and all that it calls make is longer than what came in: it says more and counts as full. Else prove '..UptoSaid'. A law counts once. -/
mutual
def uptoBulk {H : Type} : DataW H → Nat
  | .lit (.string bytes) => bytes.length + 1
  | .lit _ => 1
  | .nil => 1
  | .ptr d => uptoBulk d + 1
  | .slice elems spare => uptoBulkAll elems + uptoBulkAll spare + 1
  | .agg parts => uptoBulkAll parts + 1
  | .iface _ d => uptoBulk d + 1
  | .map entries => uptoBulkEntries entries + 1
  | .held _ => 1
def uptoBulkAll {H : Type} : List (DataW H) → Nat
  | [] => 0
  | d :: r => uptoBulk d + uptoBulkAll r
def uptoBulkEntries {H : Type} : List (Lit × DataW H) → Nat
  | [] => 0
  | x :: r => uptoBulkEntry x + uptoBulkEntries r
def uptoBulkEntry {H : Type} : Lit × DataW H → Nat
  | (.string bytes, d) => bytes.length + uptoBulk d + 1
  | (_, d) => uptoBulk d + 1
 end
def uptoSmall : (H : Type) → List (DataW H) → Bool := fun _ ds => decide (uptoBulkAll ds ≤ 1048576)
def OpenSpec.upto (s : _root_.Go.ChangeSpec) : _root_.Go.OpenSpec := { _root_.Go.OpenSpec.ofChange s with cond := some uptoSmall }

/-- 'folkmootlaw12.StoreRuns', WHERE WHAT IT READS IS OF BULK AT MOST 1048576: true; the input reads as it did. -/
def storeRunsUptoRow : OpenClaim := { program := "ytlklmekapbojdaagreat", sum := "54a322e3cbe2872cf76f5e1ad63b6f1e3727c87fc276f7f01f119e095d84683b", func := "folkmoot/folkmootlaw12.StoreRuns", spec := "storeRuns", inPlace := ["internal/bytealg.abigen_runtime_cmpstring", "internal/bytealg.IndexByteString"], unfollowed := true, recurses := true, plainKeys := false, apart := false, narrowed := true }
def StoreRunsUptoSaid : Prop := storeRunsUptoRow.holds Tryz.pinned (OpenSpec.upto storeRunsSpec)

/-- 'folkmootlaw12.StoreKeeps', WHERE WHAT IT READS IS OF BULK AT MOST 1048576: true; the input reads as it did. -/
def storeKeepsUptoRow : OpenClaim := { program := "ytlklmekapbojdaagreat", sum := "54a322e3cbe2872cf76f5e1ad63b6f1e3727c87fc276f7f01f119e095d84683b", func := "folkmoot/folkmootlaw12.StoreKeeps", spec := "storeKeeps", inPlace := ["internal/bytealg.abigen_runtime_cmpstring", "internal/bytealg.IndexByteString"], unfollowed := true, recurses := true, plainKeys := false, apart := false, narrowed := true }
def StoreKeepsUptoSaid : Prop := storeKeepsUptoRow.holds Tryz.pinned (OpenSpec.upto storeKeepsSpec)

/-- 'folkmootlaw10.CatalogChecks', WHERE WHAT IT READS IS OF BULK AT MOST 1048576: true; the input reads as it did. -/
def catalogChecksUptoRow : OpenClaim := { program := "ytlklmekapbojdaagreat", sum := "54a322e3cbe2872cf76f5e1ad63b6f1e3727c87fc276f7f01f119e095d84683b", func := "folkmoot/folkmootlaw10.CatalogChecks", spec := "catalogChecks", inPlace := ["internal/bytealg.abigen_runtime_cmpstring", "internal/bytealg.IndexByteString"], unfollowed := true, recurses := true, plainKeys := false, apart := false, narrowed := true }
def CatalogChecksUptoSaid : Prop := catalogChecksUptoRow.holds Tryz.pinned (OpenSpec.upto catalogChecksSpec)

/-- 'folkmootlaw09.GrantsGive', WHERE WHAT IT READS IS OF BULK AT MOST 1048576: true; the input reads as it did. -/
def grantsGiveUptoRow : OpenClaim := { program := "ytlklmekapbojdaagreat", sum := "54a322e3cbe2872cf76f5e1ad63b6f1e3727c87fc276f7f01f119e095d84683b", func := "folkmoot/folkmootlaw09.GrantsGive", spec := "grantsGive", inPlace := ["internal/bytealg.abigen_runtime_cmpstring", "internal/bytealg.IndexByteString", "slices.overlaps[folkmoot/api.Grant]"], unfollowed := true, recurses := true, plainKeys := false, apart := false, narrowed := true }
def GrantsGiveUptoSaid : Prop := grantsGiveUptoRow.holds Tryz.pinned (OpenSpec.upto grantsGiveSpec)

/-- 'folkmootlaw09.GrantsTake', WHERE WHAT IT READS IS OF BULK AT MOST 1048576: true; the input reads as it did. -/
def grantsTakeUptoRow : OpenClaim := { program := "ytlklmekapbojdaagreat", sum := "54a322e3cbe2872cf76f5e1ad63b6f1e3727c87fc276f7f01f119e095d84683b", func := "folkmoot/folkmootlaw09.GrantsTake", spec := "grantsTake", inPlace := ["internal/bytealg.abigen_runtime_cmpstring", "internal/bytealg.IndexByteString", "slices.overlaps[folkmoot/api.Grant]"], unfollowed := true, recurses := true, plainKeys := false, apart := false, narrowed := true }
def GrantsTakeUptoSaid : Prop := grantsTakeUptoRow.holds Tryz.pinned (OpenSpec.upto grantsTakeSpec)

/-- 'folkmootlaw09.GrantsBack', WHERE WHAT IT READS IS OF BULK AT MOST 1048576: true; the input reads as it did. -/
def grantsBackUptoRow : OpenClaim := { program := "ytlklmekapbojdaagreat", sum := "54a322e3cbe2872cf76f5e1ad63b6f1e3727c87fc276f7f01f119e095d84683b", func := "folkmoot/folkmootlaw09.GrantsBack", spec := "grantsBack", inPlace := ["internal/bytealg.abigen_runtime_cmpstring", "internal/bytealg.IndexByteString", "slices.overlaps[folkmoot/api.Grant]"], unfollowed := true, recurses := true, plainKeys := false, apart := false, narrowed := true }
def GrantsBackUptoSaid : Prop := grantsBackUptoRow.holds Tryz.pinned (OpenSpec.upto grantsBackSpec)

/-- 'folkmootlaw09.GrantsLess', WHERE WHAT IT READS IS OF BULK AT MOST 1048576: true; the input reads as it did. -/
def grantsLessUptoRow : OpenClaim := { program := "ytlklmekapbojdaagreat", sum := "54a322e3cbe2872cf76f5e1ad63b6f1e3727c87fc276f7f01f119e095d84683b", func := "folkmoot/folkmootlaw09.GrantsLess", spec := "grantsLess", inPlace := ["internal/bytealg.abigen_runtime_cmpstring", "internal/bytealg.IndexByteString", "slices.overlaps[folkmoot/api.Grant]"], unfollowed := true, recurses := true, plainKeys := false, apart := false, narrowed := true }
def GrantsLessUptoSaid : Prop := grantsLessUptoRow.holds Tryz.pinned (OpenSpec.upto grantsLessSpec)

/-- 'folkmootlaw09.GrantsWhole', WHERE WHAT IT READS IS OF BULK AT MOST 1048576: true; the input reads as it did. -/
def grantsWholeUptoRow : OpenClaim := { program := "ytlklmekapbojdaagreat", sum := "54a322e3cbe2872cf76f5e1ad63b6f1e3727c87fc276f7f01f119e095d84683b", func := "folkmoot/folkmootlaw09.GrantsWhole", spec := "grantsWhole", inPlace := ["internal/bytealg.abigen_runtime_cmpstring", "internal/bytealg.IndexByteString", "slices.overlaps[folkmoot/api.Grant]"], unfollowed := true, recurses := true, plainKeys := false, apart := false, narrowed := true }
def GrantsWholeUptoSaid : Prop := grantsWholeUptoRow.holds Tryz.pinned (OpenSpec.upto grantsWholeSpec)

end Rows
end Go.Proofs.YtlklmekapbojdaaGreat
