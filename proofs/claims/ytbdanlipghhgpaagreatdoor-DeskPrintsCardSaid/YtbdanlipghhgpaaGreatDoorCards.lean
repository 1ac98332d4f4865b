/-
  DERIVED. GIVEN WITH THE SEED: THE CARDS: each row of YtbdanlipghhgpaaGreatDoorRows.lean that lists a variable, with what it lists TIED to the program's text (the seventh form; the later family's looks); each row that meets fmt, with fmt's text TOLD by the authors' own Lean function (tested against real Go, not proved from fmt's source: count such statements apart). THE CARD IS WHAT COUNTS. Prove the row's statement (the work); the ties are given (YtbdanlipghhgpaaGreatDoorTie.lean); close each card by the builder's one call (the guide's Derived/Test/ToyasCard.lean, 'card_holds'). Laid BY PROGRAM, IN A SANDBOX (cutbox-door.mjs). By AI agents, Wed Nov 11 2026. No macro, syntax, notation, axiom, sorry.
-/
import Derived.Test.YtbdanlipghhgpaaGreatDoorRows
import GoSem.ClaimSeven
namespace Go.Proofs.YtbdanlipghhgpaaGreatDoor
namespace Rows

/-- THE TIED CARD OF 'folkmootlaw24.DeskParses'. -/
def deskParsesCard : Claim7 := { stood := { row := deskParsesRow, standIns := [], harness := (true, "a00173425cb551362dab762dc62c306a0d423e0c80f502dea10320f85fca2996"), looks := true }, kinds := [], alts := [], laidByText := true, laidKinds := [.data, .data, .data, .data, .sentinel, .sentinel, .pinned], laidTests := true, laidLooks := .later }
def DeskParsesCardSaid : Prop := Claim7.holds Tryz.pinned (.plain (OpenSpec.ofChange deskParsesSpec)) deskParsesCard

/-- THE TIED CARD OF 'folkmootlaw24.DeskPrints'. -/
def deskPrintsCard : Claim7 := { stood := { row := deskPrintsRow, standIns := [], harness := (true, "a00173425cb551362dab762dc62c306a0d423e0c80f502dea10320f85fca2996"), looks := true }, kinds := [], alts := [], laidByText := true, laidKinds := [.data, .data, .data, .data, .sentinel, .sentinel, .pinned], laidTests := true, laidLooks := .later }
def DeskPrintsCardSaid : Prop := Claim7.holds Tryz.pinned (.plain (OpenSpec.ofChange deskPrintsSpec)) deskPrintsCard

/-- THE TIED CARD OF 'folkmootlaw24.DeskBack'. -/
def deskBackCard : Claim7 := { stood := { row := deskBackRow, standIns := [], harness := (true, "a00173425cb551362dab762dc62c306a0d423e0c80f502dea10320f85fca2996"), looks := true }, kinds := [], alts := [], laidByText := true, laidKinds := [.data, .data, .data, .data, .sentinel, .sentinel, .pinned], laidTests := true, laidLooks := .later }
def DeskBackCardSaid : Prop := Claim7.holds Tryz.pinned (.plain (OpenSpec.ofChange deskBackSpec)) deskBackCard

/-- THE SECOND FORM's CARD OF 'folkmootlaw24.DeskParses'. -/
def deskParsesUptoCard : Claim7 := { stood := { row := deskParsesUptoRow, standIns := [], harness := (true, "a00173425cb551362dab762dc62c306a0d423e0c80f502dea10320f85fca2996"), looks := true }, kinds := [], alts := [], laidByText := true, laidKinds := [.data, .data, .data, .data, .sentinel, .sentinel, .pinned], laidTests := true, laidLooks := .later }
def DeskParsesUptoCardSaid : Prop := Claim7.holds Tryz.pinned (.plain (OpenSpec.upto deskParsesSpec)) deskParsesUptoCard

/-- THE SECOND FORM's CARD OF 'folkmootlaw24.DeskPrints'. -/
def deskPrintsUptoCard : Claim7 := { stood := { row := deskPrintsUptoRow, standIns := [], harness := (true, "a00173425cb551362dab762dc62c306a0d423e0c80f502dea10320f85fca2996"), looks := true }, kinds := [], alts := [], laidByText := true, laidKinds := [.data, .data, .data, .data, .sentinel, .sentinel, .pinned], laidTests := true, laidLooks := .later }
def DeskPrintsUptoCardSaid : Prop := Claim7.holds Tryz.pinned (.plain (OpenSpec.upto deskPrintsSpec)) deskPrintsUptoCard

/-- THE SECOND FORM's CARD OF 'folkmootlaw24.DeskBack'. -/
def deskBackUptoCard : Claim7 := { stood := { row := deskBackUptoRow, standIns := [], harness := (true, "a00173425cb551362dab762dc62c306a0d423e0c80f502dea10320f85fca2996"), looks := true }, kinds := [], alts := [], laidByText := true, laidKinds := [.data, .data, .data, .data, .sentinel, .sentinel, .pinned], laidTests := true, laidLooks := .later }
def DeskBackUptoCardSaid : Prop := Claim7.holds Tryz.pinned (.plain (OpenSpec.upto deskBackSpec)) deskBackUptoCard
end Rows
end Go.Proofs.YtbdanlipghhgpaaGreatDoor
