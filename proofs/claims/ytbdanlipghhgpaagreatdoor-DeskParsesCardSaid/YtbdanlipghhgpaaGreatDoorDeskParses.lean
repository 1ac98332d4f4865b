/- For every text line: DeskParses(line) returns true, and the line reads afterwards as before; the package-level variables that the row lists are tied to the program's own text (the card). No further condition. -/
import Derived.Test.YtbdanlipghhgpaaGreatDoorTie
import Derived.Test.YtbdanlipghhgpaaGreatDoorCards
import Derived.SevenTiedAt
import Derived.OpenShut
import Derived.Stop.Joined
import Derived.Test.YtbdanlipghhgpaaGreatDoorPartD1
import Derived.Test.YtbdanlipghhgpaaGreatDoorPartD2
import Derived.Test.YtbdanlipghhgpaaGreatDoorPartD3
import Derived.Test.YtbdanlipghhgpaaGreatDoorPartD4
import Derived.Test.YtbdanlipghhgpaaGreatDoorPartD5
import Derived.Test.YtbdanlipghhgpaaGreatDoorPartD6
import Derived.Test.YtbdanlipghhgpaaGreatDoorPartD7
import Derived.Test.YtbdanlipghhgpaaGreatDoorPartD8
import Derived.Test.YtbdanlipghhgpaaGreatDoorPartD9
import Derived.Test.YtbdanlipghhgpaaGreatDoorPartD10
import Derived.Test.YtbdanlipghhgpaaGreatDoorPartD11
import Derived.Test.YtbdanlipghhgpaaGreatDoorPartD12
import Derived.Test.YtbdanlipghhgpaaGreatDoorPartD13
import Derived.Test.YtbdanlipghhgpaaGreatDoorPartD14
import Derived.Test.YtbdanlipghhgpaaGreatDoorPartD15
import Derived.Test.YtbdanlipghhgpaaGreatDoorPartD16
namespace Go.Proofs.YtbdanlipghhgpaaGreatDoor.deskParses
open Go.ChangeShapes Go.WideShapes Go.ChangeAt Go.RowKit
set_option maxRecDepth 100000
set_option linter.unusedVariables false
theorem lib_of {W : World} (h : W.ShapedOpen Tryz.prog) : LibV W := by
  exact cell_of_shapedOpen_int (g := 0) (t := 3) (zero := #[.int .i64 0]) h (of_decide_eq_true (by kernel_rfl)) (by kernel_rfl) rfl (by kernel_rfl) (by kernel_rfl) Tryz.underlying3
theorem door_met (os : Os) (args : Array Value) : laidMetH Tryz.prog Rows.deskParsesRow.laid ((World.laidAll Tryz.prog os Rows.deskParsesRow.laid).forCall (fun _ _ => 0) ⟨#[], args, []⟩).memory := by
  rw [MakeChecks.laidMetH_plain _ _ _ (by kernel_rfl)]
  exact laidMet_laidAll _ (by kernel_rfl) (by kernel_rfl)
theorem lifted (os : Os) (started : os.Started) (H : Type) (enc : TypeId × Value → H) :
    ReturnsInHanded {} Tryz.checked os 3 .any (fun w args => (Rows.deskParsesSpec.pre enc Tryz.prog Tryz.f3 Rows.deskParsesRow.domain false w args ∧ laidMetH Tryz.prog Rows.deskParsesRow.laid w) ∧ sizedMet enc Tryz.prog Tryz.f3 (OpenSpec.ofChange Rows.deskParsesSpec) false w args) (Rows.deskParsesSpec.post enc Tryz.prog Tryz.f3 false true false false) := by
  refine law_lifted_laid (C := Tryz.checked) (tb := 4) Rows.deskParsesRow.laid H enc (by kernel_rfl) started (by kernel_rfl) Tryz.func3
    (ChangeSpec.witness_shaped (enc := enc) (C := Tryz.checked) (os := os) (X := fun w _ => laidMetH Tryz.prog Rows.deskParsesRow.laid w) false (World.laidAll Tryz.prog os Rows.deskParsesRow.laid) #[.string ByteArray.empty] 8 (World.laidAll_os _ _ _) (World.shaped_of_ZipB (by kernel_rfl) (by kernel_rfl)) (by kernel_rfl) (by kernel_rfl) (by kernel_rfl) (door_met os _))
    rfl rfl Tryz.underlying4 ?_ (by kernel_rfl) ?_ ?_
  · intro ds hds
    match ds, hds with
    | [d0], _ => rfl
  · intro t ht
    have : t = 9 := by simpa [Tryz.params3] using ht
    subst this
    all_goals exact ⟨by kernel_rfl, of_decide_eq_true (by kernel_rfl)⟩
  · intro W vs hl hrd hsh hlaid
    match vs, hl with
    | [v0], _ =>
      have h0 := hrd 0 9 v0 rfl rfl
      obtain ⟨x0, rfl, z0⟩ := h0.string Tryz.underlying9
      exact law_parses24 x0 W z0 (lib_of hsh)
theorem j1 : (Rows.deskParsesRow.inPlace == Tryz.pinned.checked.prog.inPlace 3) = true := by kernel_rfl
theorem j2 : (Rows.deskParsesRow.unfollowed == Tryz.pinned.checked.prog.unfollowed 3) = true := by kernel_rfl
theorem j3 : (Rows.deskParsesRow.recurses == Tryz.pinned.checked.prog.recurses 3) = true := by kernel_rfl
theorem j4 : (Rows.deskParsesRow.named == Tryz.pinned.checked.prog.varsNamed 3) = true := by kernel_rfl
theorem joined : joinedFacts Tryz.pinned.checked.prog 3 Tryz.f3 Rows.deskParsesSpec Rows.deskParsesRow = true := by
  unfold joinedFacts
  rw [j1, j2, j3, j4]
  kernel_rfl
theorem said : Rows.DeskParsesSaid :=
  OpenClaim.holds_of_wide 3 Tryz.f3 rfl rfl rfl rfl rfl rfl rfl ⟨rfl, rfl, rfl, rfl, rfl⟩ rfl rfl rfl rfl rfl (by kernel_rfl) Tryz.func3 joined
    (of_decide_eq_true (by kernel_rfl)) (by unfold Func.isWrapper; first | (rw [if_pos (by decide +kernel)]; kernel_rfl) | (rw [if_neg (by decide +kernel)]; exact ⟨rfl, rfl⟩))
    (fun os started H enc _ => lifted os started H enc)
theorem proved : Rows.DeskParsesCardSaid :=
  Claim7.holds_tied_plain_at .later [] [.data, .data, .data, .data, .sentinel, .sentinel, .pinned] true (true, "a00173425cb551362dab762dc62c306a0d423e0c80f502dea10320f85fca2996") true said (fun _ h => by cases h) (by kernel_rfl) (fun _ h => by cases h) deskParses_row_tie rfl ⟨rfl, rfl⟩ (by kernel_rfl) rfl
    (fun f fn hf hfn => by
      obtain rfl : f = 3 := Option.some.inj ((show Tryz.prog.funcNamed "folkmoot/folkmootlaw24.DeskParses" = some 3 by kernel_rfl).symm.trans hf) |>.symm
      obtain rfl : fn = Tryz.f3 := (Option.some.inj (Tryz.func3.symm.trans hfn)).symm
      exact ⟨by kernel_rfl, fun j t ht => by
        rw [Tryz.params3] at ht
        have hm : t ∈ [9] := by simpa using Array.mem_of_getElem? ht
        have hall : ([9].all fun u => !Tryz.prog.wantsStandIn u) = true := by kernel_rfl
        exact (show Tryz.prog.wantsStandIn t = false by simpa using List.all_eq_true.1 hall t hm)⟩)
    (by kernel_rfl)
#print axioms proved
end Go.Proofs.YtbdanlipghhgpaaGreatDoor.deskParses
