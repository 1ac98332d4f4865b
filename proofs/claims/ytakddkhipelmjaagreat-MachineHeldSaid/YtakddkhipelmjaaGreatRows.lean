/-
  No cell of these rows narrows 'for every input' (looked for: loops, veiled, ifaces, maps, wideKeys, modest, calm, conditions, laid).
  DERIVED. THE GIVEN ROWS OF THIS SEAT. 2 by the template 'for every input the law returns true; each argument reads behind the call as it read before'; 0 by the template 'total and deterministic' (their statements: YtakddkhipelmjaaGreatTotals.lean).
  GIVEN WITH THE SEED: the statements are not yours to turn. If you find one false, say at which input.
  Laid BY PROGRAM, IN A SANDBOX (cutbox-rows.mjs): the forced cells as the released guide's own fill.sh prints them over the translation 1287a5e01dd2ea9b… (all of the seat's roots in one cut). By AI agents, Wed Nov 11 2026. No macro, syntax, notation, axiom, sorry.
-/
import Derived.Test.YtakddkhipelmjaaGreatChecked
import GoSem.Claim
import GoSem.ClaimJoined
import GoSem.ClaimMapViews
import Derived.JoinedTies
import Derived.KernelRfl
namespace Go.Proofs.YtakddkhipelmjaaGreat
/- THE CELL 'sum', in the pinned program and in every row, IS THE sha256 OF THE DUMP (.gsa) THAT YtakddkhipelmjaaGreatProg.lean LOADS. Nothing in Lean hashes anything: it is a label: what it is worth is what the hold of that sum in a sandbox is worth. -/
noncomputable def Tryz.pinned : Pinned := { name := "ytakddkhipelmjaagreat", sum := "1287a5e01dd2ea9b7d3564eae7c91b5d36ad8ce02a521f3647e9071313d5cbbd", checked := Tryz.checked }
namespace Rows
def none {H : Type} : Left H := { results := [], args := [] }

/-- 'folkmootlaw19.MachineFinds': WHATEVER THE INPUT: true; the input reads as it did. -/
def machineFindsSpec : ChangeSpec := { name := "machineFinds", fn := fun _ => fun
  | [d1, d2, d3] => { results := [.lit (.bool true)], args := [d1, d2, d3] }
  | _ => none }
def machineFindsRow : OpenClaim := { program := "ytakddkhipelmjaagreat", sum := "1287a5e01dd2ea9b7d3564eae7c91b5d36ad8ce02a521f3647e9071313d5cbbd", func := "folkmoot/folkmootlaw19.MachineFinds", spec := "machineFinds", inPlace := ["internal/bytealg.abigen_runtime_cmpstring", "internal/bytealg.IndexByteString", "slices.overlaps[folkmoot/api.Grant]", "slices.overlaps[string]", "slices.overlaps[folkmoot/api.Member]", "slices.overlaps[folkmoot/api.Done]", "slices.overlaps[folkmoot/api.Lease]"], unfollowed := true, recurses := true, plainKeys := false, apart := false }
def MachineFindsSaid : Prop := machineFindsRow.holds Tryz.pinned (OpenSpec.ofChange machineFindsSpec)

/-- ITS FALSE NEIGHBOUR: 'it returns false'. Refute it at one input. -/
def machineFindsWrong : ChangeSpec := { name := "machineFinds", fn := fun _ => fun
  | [d1, d2, d3] => { results := [.lit (.bool false)], args := [d1, d2, d3] }
  | _ => none }
def MachineFindsWrongFalsely : Prop := machineFindsRow.holds Tryz.pinned (OpenSpec.ofChange machineFindsWrong)

/-- 'folkmootlaw19.MachineHeld': WHATEVER THE INPUT: true; the input reads as it did. -/
def machineHeldSpec : ChangeSpec := { name := "machineHeld", fn := fun _ => fun
  | [d1, d2, d3] => { results := [.lit (.bool true)], args := [d1, d2, d3] }
  | _ => none }
def machineHeldRow : OpenClaim := { program := "ytakddkhipelmjaagreat", sum := "1287a5e01dd2ea9b7d3564eae7c91b5d36ad8ce02a521f3647e9071313d5cbbd", func := "folkmoot/folkmootlaw19.MachineHeld", spec := "machineHeld", inPlace := ["internal/bytealg.abigen_runtime_cmpstring", "internal/bytealg.IndexByteString", "slices.overlaps[folkmoot/api.Grant]", "slices.overlaps[string]", "slices.overlaps[folkmoot/api.Member]", "slices.overlaps[folkmoot/api.Done]", "slices.overlaps[folkmoot/api.Lease]"], unfollowed := true, recurses := true, plainKeys := false, apart := false }
def MachineHeldSaid : Prop := machineHeldRow.holds Tryz.pinned (OpenSpec.ofChange machineHeldSpec)

/-- ITS FALSE NEIGHBOUR: 'it returns false'. Refute it at one input. -/
def machineHeldWrong : ChangeSpec := { name := "machineHeld", fn := fun _ => fun
  | [d1, d2, d3] => { results := [.lit (.bool false)], args := [d1, d2, d3] }
  | _ => none }
def MachineHeldWrongFalsely : Prop := machineHeldRow.holds Tryz.pinned (OpenSpec.ofChange machineHeldWrong)

/- THE SECOND FORM. 'bulk': how many values and letters a reading holds, each counted each time it is reached (what is shared counts as often as it is met; a slice's spare places count too). A statement '..UptoSaid' is the law's where the arguments, and the package variables that the reading takes, are together of bulk at most 1048576: NARROWER than '..Said'. Prove '..Said' where nothing that the law and all that it calls make is longer than what came in: it says more and counts as full. Else prove '..UptoSaid'. A law counts once. -/
mutual
def uptoBulk {H : Type} : DataW H → Nat
  | .lit (.string bytes) => bytes.length + 1
  | .lit _ => 1
  | .nil => 1
  | .ptr d => uptoBulk d + 1
  | .slice elems spare => uptoBulkAll elems + uptoBulkAll spare + 1
  | .agg parts => uptoBulkAll parts + 1
  | .iface _ d => uptoBulk d + 1
  | .map entries => uptoBulkEntries entries + 1
  | .held _ => 1
def uptoBulkAll {H : Type} : List (DataW H) → Nat
  | [] => 0
  | d :: r => uptoBulk d + uptoBulkAll r
def uptoBulkEntries {H : Type} : List (Lit × DataW H) → Nat
  | [] => 0
  | x :: r => uptoBulkEntry x + uptoBulkEntries r
def uptoBulkEntry {H : Type} : Lit × DataW H → Nat
  | (.string bytes, d) => bytes.length + uptoBulk d + 1
  | (_, d) => uptoBulk d + 1
 end
def uptoSmall : (H : Type) → List (DataW H) → Bool := fun _ ds => decide (uptoBulkAll ds ≤ 1048576)
def OpenSpec.upto (s : _root_.Go.ChangeSpec) : _root_.Go.OpenSpec := { _root_.Go.OpenSpec.ofChange s with cond := some uptoSmall }

/-- 'folkmootlaw19.MachineFinds', WHERE WHAT IT READS IS OF BULK AT MOST 1048576: true; the input reads as it did. -/
def machineFindsUptoRow : OpenClaim := { program := "ytakddkhipelmjaagreat", sum := "1287a5e01dd2ea9b7d3564eae7c91b5d36ad8ce02a521f3647e9071313d5cbbd", func := "folkmoot/folkmootlaw19.MachineFinds", spec := "machineFinds", inPlace := ["internal/bytealg.abigen_runtime_cmpstring", "internal/bytealg.IndexByteString", "slices.overlaps[folkmoot/api.Grant]", "slices.overlaps[string]", "slices.overlaps[folkmoot/api.Member]", "slices.overlaps[folkmoot/api.Done]", "slices.overlaps[folkmoot/api.Lease]"], unfollowed := true, recurses := true, plainKeys := false, apart := false, narrowed := true }
def MachineFindsUptoSaid : Prop := machineFindsUptoRow.holds Tryz.pinned (OpenSpec.upto machineFindsSpec)

/-- 'folkmootlaw19.MachineHeld', WHERE WHAT IT READS IS OF BULK AT MOST 1048576: true; the input reads as it did. -/
def machineHeldUptoRow : OpenClaim := { program := "ytakddkhipelmjaagreat", sum := "1287a5e01dd2ea9b7d3564eae7c91b5d36ad8ce02a521f3647e9071313d5cbbd", func := "folkmoot/folkmootlaw19.MachineHeld", spec := "machineHeld", inPlace := ["internal/bytealg.abigen_runtime_cmpstring", "internal/bytealg.IndexByteString", "slices.overlaps[folkmoot/api.Grant]", "slices.overlaps[string]", "slices.overlaps[folkmoot/api.Member]", "slices.overlaps[folkmoot/api.Done]", "slices.overlaps[folkmoot/api.Lease]"], unfollowed := true, recurses := true, plainKeys := false, apart := false, narrowed := true }
def MachineHeldUptoSaid : Prop := machineHeldUptoRow.holds Tryz.pinned (OpenSpec.upto machineHeldSpec)

end Rows
end Go.Proofs.YtakddkhipelmjaaGreat
