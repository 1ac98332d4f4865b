/- Contracts of the program, part 16. -/
import Derived.Deep.Cut
import Derived.Deep.CutRange
import Derived.Deep.RegionHeld3
import Derived.Deep.DeepCutAuto
import Derived.ProofKit
import Derived.OpenShut
import Derived.Deep.Slices
import Derived.ChangeOld
import Derived.SizedLaws
import Derived.WalkKit
import Derived.WalkSpells
import Derived.WalkLawsBesides
import Derived.Lib.Hide
import Derived.Deep.QuietTactic
import Derived.BigQuiet
import Derived.Below
import Derived.Deep.Draws
import Derived.StillTailTactics
import Derived.Laws.Cells
import Derived.Laws.IdiomCopy
import Derived.Test.YtbdanlipghhgpaaGreatDoorRows
import Derived.Lib.Bytealg
import Derived.ShutString
import Derived.Lib.Atoi
import Derived.Lib.ItoaNum
import Derived.Lib.Split
import Derived.Lib.SplitLaws
import Derived.Lib.CutLaws
import Derived.Lib.Strings
import Derived.Lib.SlTrimSet
import Derived.OwnWalk
import Derived.Laws.AppendOwn
import Derived.Recover
import Derived.Defers
import Derived.Lib.CountLaws
import Derived.Deep.RegionLaw
import Derived.RegionDies
import Derived.Deep.AppendLies
import Derived.Laws.EntriesVeiled
import Derived.Deep.Upon
import Derived.Shelf.Strings.Builder1
import Derived.Shelf.Strings.Builder2
import Derived.Shelf.Strings.OnBuilder
import Derived.Shelf.Strings.Trim
import Derived.Shelf.Small.Utf8
import Derived.Shelf.Small.Strs
import Derived.Shelf.Small.Wraps
import Derived.Shelf.Strconv.Atoi
import Derived.Shelf.Strconv.Itoa0
import Derived.Shelf.Strconv.Itoa1
import Derived.Shelf.LaysM
import Derived.Shelf.Strconv.Itoa2
import Derived.Shelf.Strconv.Itoa3
import Derived.Shelf.Strings.Search1
import Derived.Shelf.Strings.Search2
import Derived.Shelf.Strings.Search3
import Derived.Shelf.Strings.Cut
import Derived.Shelf.Strings.Count
import Derived.Shelf.Strings.Shaped
import Derived.Shelf.Strings.Prefix
import Derived.Shelf.Strings.Split
import Derived.Shelf.Strings.Runes
import Derived.Shelf.Strings.AsciiSet
import Derived.Shelf.Unicode.DecodeSlow
import Derived.Shelf.Slices.Equal
import Derived.Shelf.Slices.Empties2
import Derived.Shelf.Strings.SlTrimAscii
import Derived.Test.YtbdanlipghhgpaaGreatDoorProg
import Derived.Lib.ItoaLen
import Derived.Deep.DeepMust
import Derived.Lib.AppendIntMem
import Derived.Test.YtbdanlipghhgpaaGreatDoorPartB1
import Derived.Test.YtbdanlipghhgpaaGreatDoorPartB2
import Derived.Test.YtbdanlipghhgpaaGreatDoorPartB3
import Derived.Test.YtbdanlipghhgpaaGreatDoorPartB4
import Derived.Test.YtbdanlipghhgpaaGreatDoorPartB5
import Derived.Test.YtbdanlipghhgpaaGreatDoorPartB6
import Derived.Test.YtbdanlipghhgpaaGreatDoorPartB7
import Derived.Test.YtbdanlipghhgpaaGreatDoorPartB8
import Derived.Test.YtbdanlipghhgpaaGreatDoorPartB9
import Derived.Test.YtbdanlipghhgpaaGreatDoorPartB10
import Derived.Test.YtbdanlipghhgpaaGreatDoorPartB11
import Derived.Test.YtbdanlipghhgpaaGreatDoorPartB12
import Derived.Test.YtbdanlipghhgpaaGreatDoorPartB13
import Derived.Test.YtbdanlipghhgpaaGreatDoorPartB14
import Derived.Test.YtbdanlipghhgpaaGreatDoorPartB15
namespace Go.Proofs.YtbdanlipghhgpaaGreatDoor
open Go.RowKit Go.Deep
set_option maxRecDepth 100000
set_option linter.unusedVariables false
theorem reg_ck {s : ByteArray} {a : Dact} (h : parseB s = some a) : a.kind = 8 → 1 ≤ a.ck := by
  unfold parseB at h
  split at h
  · exact (parseW_some h).2.2.2
  · cases h
set_option maxHeartbeats 16000000 in
theorem law_back24 (a : Dact) (A : Option Addr) (k : Nat) (A2 : Option Addr) (k2 : Nat) (A3 : Option Addr) (k3 : Nat) (line : ByteArray) (w : World) (hx : ActG w a A k A2 k2 A3 k3) (hs : Small line.size) (ht : TabW w) (hl : LibV w) :
    Calls Tryz.prog 5 #[.agg #[.int .i64 a.kind, .int .i64 a.node, .int .i64 a.n, .int .i64 a.client, .int .i64 a.number, .int .i64 a.cmd.kind, .string a.cmd.actor, .string a.cmd.schema, .string a.cmd.table, .string a.cmd.name, .string a.cmd.role, .slice A a.cmd.cols.length k, .string a.cmd.rule.name, .int .i64 a.cmd.rule.kind, .slice A2 a.cmd.rule.cols.length k2, .int .i64 a.cmd.rule.low, .int .i64 a.cmd.rule.high, .string a.cmd.rule.schema, .string a.cmd.rule.table, .string a.cmd.rule.key, .int .i64 a.cmd.right, .bool a.cmd.opt, .int .i64 a.ck, .int .i64 a.cn, .int .i64 a.row.kind, .string a.row.role, .string a.row.schema, .string a.row.table, .slice A3 a.row.row.length k3, .string a.row.col, .int .i64 a.row.v.kind, .int .i64 a.row.v.int, .string a.row.v.text], .string line] w fun e w' => e = .returned (.bool true) ∧ Aft w w' := by
  have hlen := hs
  obtain ⟨W, hW⟩ : ∃ W, W = w.alloc (.cells #[.int .i64 a.kind, .int .i64 a.node, .int .i64 a.n, .int .i64 a.client, .int .i64 a.number, .int .i64 a.cmd.kind, .string a.cmd.actor, .string a.cmd.schema, .string a.cmd.table, .string a.cmd.name, .string a.cmd.role, .slice A a.cmd.cols.length k, .string a.cmd.rule.name, .int .i64 a.cmd.rule.kind, .slice A2 a.cmd.rule.cols.length k2, .int .i64 a.cmd.rule.low, .int .i64 a.cmd.rule.high, .string a.cmd.rule.schema, .string a.cmd.rule.table, .string a.cmd.rule.key, .int .i64 a.cmd.right, .bool a.cmd.opt, .int .i64 a.ck, .int .i64 a.cn, .int .i64 a.row.kind, .string a.row.role, .string a.row.schema, .string a.row.table, .slice A3 a.row.row.length k3, .string a.row.col, .int .i64 a.row.v.kind, .int .i64 a.row.v.int, .string a.row.v.text] 43) := ⟨_, rfl⟩
  have aW : Aft w W := by rw [hW]; exact (Aft.refl w).alloc _
  have ra : RowAt W w.heap.size [.int .i64 a.kind, .int .i64 a.node, .int .i64 a.n, .int .i64 a.client, .int .i64 a.number, .int .i64 a.cmd.kind, .string a.cmd.actor, .string a.cmd.schema, .string a.cmd.table, .string a.cmd.name, .string a.cmd.role, .slice A a.cmd.cols.length k, .string a.cmd.rule.name, .int .i64 a.cmd.rule.kind, .slice A2 a.cmd.rule.cols.length k2, .int .i64 a.cmd.rule.low, .int .i64 a.cmd.rule.high, .string a.cmd.rule.schema, .string a.cmd.rule.table, .string a.cmd.rule.key, .int .i64 a.cmd.right, .bool a.cmd.opt, .int .i64 a.ck, .int .i64 a.cn, .int .i64 a.row.kind, .string a.row.role, .string a.row.schema, .string a.row.table, .slice A3 a.row.row.length k3, .string a.row.col, .int .i64 a.row.v.kind, .int .i64 a.row.v.int, .string a.row.v.text] := by rw [hW]; exact rowAt_newD w _ _
  have e1 : (lvAct ⟨w.heap.size, 0, none⟩).run Tryz.prog W = .ok (.agg #[.int .i64 a.kind, .int .i64 a.node, .int .i64 a.n, .int .i64 a.client, .int .i64 a.number, .int .i64 a.cmd.kind, .string a.cmd.actor, .string a.cmd.schema, .string a.cmd.table, .string a.cmd.name, .string a.cmd.role, .slice A a.cmd.cols.length k, .string a.cmd.rule.name, .int .i64 a.cmd.rule.kind, .slice A2 a.cmd.rule.cols.length k2, .int .i64 a.cmd.rule.low, .int .i64 a.cmd.rule.high, .string a.cmd.rule.schema, .string a.cmd.rule.table, .string a.cmd.rule.key, .int .i64 a.cmd.right, .bool a.cmd.opt, .int .i64 a.ck, .int .i64 a.cn, .int .i64 a.row.kind, .string a.row.role, .string a.row.schema, .string a.row.table, .slice A3 a.row.row.length k3, .string a.row.col, .int .i64 a.row.v.kind, .int .i64 a.row.v.int, .string a.row.v.text]) W := lvAct_row ra rfl
  have HRA := Lib.hid ra
  have HAW := Lib.hid aW
  have HX := Lib.hid (hx.aft aW)
  have HSL := Lib.hid hs
  have HLV := Lib.hid (show ∀ V, Aft W V → LibV V from fun V a => hl.kb (P := fun _ => False) (Kb.of_aft (aW.trans a)) id)
  have HTB := Lib.hid (show ∀ V, Aft W V → TabW V from fun V a => ht.aft (aW.trans a))
  have HPA := Lib.hid (show ∀ V, Aft W V → Calls Tryz.prog 8 #[] V fun e w' => e = .returned (.bool true) ∧ Aft V w' from fun V a => parses24 V (HLV.out V a))
  have HPI := Lib.hid (show ∀ V, Aft W V → Calls Tryz.prog 13 #[] V fun e w' => e = .returned (.bool true) ∧ Aft V w' from fun V a => prints24 V (HTB.out V a) (HLV.out V a))
  have HL0 := Lib.hid (large_in a A k A2 k2 A3 k3 W HX.out.x)
  clear hx hl ht ra aW hs
  have HLA2 := Lib.hid (show Calls Tryz.prog 10 #[.agg #[.int .i64 a.kind, .int .i64 a.node, .int .i64 a.n, .int .i64 a.client, .int .i64 a.number, .int .i64 a.cmd.kind, .string a.cmd.actor, .string a.cmd.schema, .string a.cmd.table, .string a.cmd.name, .string a.cmd.role, .slice A a.cmd.cols.length k, .string a.cmd.rule.name, .int .i64 a.cmd.rule.kind, .slice A2 a.cmd.rule.cols.length k2, .int .i64 a.cmd.rule.low, .int .i64 a.cmd.rule.high, .string a.cmd.rule.schema, .string a.cmd.rule.table, .string a.cmd.rule.key, .int .i64 a.cmd.right, .bool a.cmd.opt, .int .i64 a.ck, .int .i64 a.cn, .int .i64 a.row.kind, .string a.row.role, .string a.row.schema, .string a.row.table, .slice A3 a.row.row.length k3, .string a.row.col, .int .i64 a.row.v.kind, .int .i64 a.row.v.int, .string a.row.v.text]] W fun e w' => ∃ r : Bool, e = .returned (.bool r) ∧ Aft W w' from HL0.out.mono fun e w' (⟨a1, r, he, hr⟩ : LgQ _ _ _ _) => ⟨r, he, a1⟩)
  by_cases hbig : 100000 < line.size
  · have hgt : (100000 : Int) < (line.size : Int) := by omega
    clear hbig
    go_enter Tryz.func5, Tryz.ntmps5
    go_upto_region 1 with fail
    rw [← hW]
    clear hW
    go_wp2_with (first
      | (go_at_call 10; (with_reducible refine HLA2.out.mono ?_); rintro e w1 ⟨r, rfl, a1⟩; have H1 := Lib.hid a1; clear a1; cases r))
    all_goals go_ret
    all_goals exact ⟨rfl, HAW.out.trans H1.out⟩
  by_cases hfew : ¬ Few a
  · have HLA := Lib.hid (show Calls Tryz.prog 10 #[.agg #[.int .i64 a.kind, .int .i64 a.node, .int .i64 a.n, .int .i64 a.client, .int .i64 a.number, .int .i64 a.cmd.kind, .string a.cmd.actor, .string a.cmd.schema, .string a.cmd.table, .string a.cmd.name, .string a.cmd.role, .slice A a.cmd.cols.length k, .string a.cmd.rule.name, .int .i64 a.cmd.rule.kind, .slice A2 a.cmd.rule.cols.length k2, .int .i64 a.cmd.rule.low, .int .i64 a.cmd.rule.high, .string a.cmd.rule.schema, .string a.cmd.rule.table, .string a.cmd.rule.key, .int .i64 a.cmd.right, .bool a.cmd.opt, .int .i64 a.ck, .int .i64 a.cn, .int .i64 a.row.kind, .string a.row.role, .string a.row.schema, .string a.row.table, .slice A3 a.row.row.length k3, .string a.row.col, .int .i64 a.row.v.kind, .int .i64 a.row.v.int, .string a.row.v.text]] W fun e w' => e = .returned (.bool true) ∧ Aft W w' from HL0.out.mono fun e w' (⟨a1, r, he, hr⟩ : LgQ _ _ _ _) => ⟨by
      cases r
      · exact absurd (hr rfl) hfew
      · exact he, a1⟩)
    clear hbig hfew
    go_enter Tryz.func5, Tryz.ntmps5
    go_upto_region 1 with fail
    rw [← hW]
    clear hW
    go_wp2_with (first
      | (go_at_call 10; (with_reducible refine HLA.out.mono ?_); rintro e w1 ⟨rfl, a1⟩; have H1 := Lib.hid a1; clear a1))
    go_ret
    exact ⟨rfl, HAW.out.trans H1.out⟩
  have hsz : ¬ (100000 : Int) < (line.size : Int) := fun h => hbig (by omega)
  have HFE := Lib.hid (show Few a from Classical.byContradiction hfew)
  clear hbig hfew
  have HPP := Lib.hid (show ∀ V, Aft W V → Calls Tryz.prog 11 #[.agg #[.int .i64 a.kind, .int .i64 a.node, .int .i64 a.n, .int .i64 a.client, .int .i64 a.number, .int .i64 a.cmd.kind, .string a.cmd.actor, .string a.cmd.schema, .string a.cmd.table, .string a.cmd.name, .string a.cmd.role, .slice A a.cmd.cols.length k, .string a.cmd.rule.name, .int .i64 a.cmd.rule.kind, .slice A2 a.cmd.rule.cols.length k2, .int .i64 a.cmd.rule.low, .int .i64 a.cmd.rule.high, .string a.cmd.rule.schema, .string a.cmd.rule.table, .string a.cmd.rule.key, .int .i64 a.cmd.right, .bool a.cmd.opt, .int .i64 a.ck, .int .i64 a.cn, .int .i64 a.row.kind, .string a.row.role, .string a.row.schema, .string a.row.table, .slice A3 a.row.row.length k3, .string a.row.col, .int .i64 a.row.v.kind, .int .i64 a.row.v.int, .string a.row.v.text]] V (PrQ V a) from fun V aV => print_in a A k A2 k2 A3 k3 V (HX.out.aft aV) HFE.out (HTB.out V aV) (HLV.out V aV))
  clear HL0
  by_cases hpr : ∃ X, actM a = some X ∧ parseB (lineB X) = some a
  · obtain ⟨X, hX, hXp⟩ := hpr
    obtain ⟨s, hs⟩ : ∃ s, s = lineB X := ⟨_, rfl⟩
    have HPR := Lib.hid (show ∀ V, Aft W V → Calls Tryz.prog 11 #[.agg #[.int .i64 a.kind, .int .i64 a.node, .int .i64 a.n, .int .i64 a.client, .int .i64 a.number, .int .i64 a.cmd.kind, .string a.cmd.actor, .string a.cmd.schema, .string a.cmd.table, .string a.cmd.name, .string a.cmd.role, .slice A a.cmd.cols.length k, .string a.cmd.rule.name, .int .i64 a.cmd.rule.kind, .slice A2 a.cmd.rule.cols.length k2, .int .i64 a.cmd.rule.low, .int .i64 a.cmd.rule.high, .string a.cmd.rule.schema, .string a.cmd.rule.table, .string a.cmd.rule.key, .int .i64 a.cmd.right, .bool a.cmd.opt, .int .i64 a.ck, .int .i64 a.cn, .int .i64 a.row.kind, .string a.row.role, .string a.row.schema, .string a.row.table, .slice A3 a.row.row.length k3, .string a.row.col, .int .i64 a.row.v.kind, .int .i64 a.row.v.int, .string a.row.v.text]] V fun e w' => e = .returned (.tuple #[.string s, .int .i64 0]) ∧ Aft V w' from fun V aV => (HPP.out V aV).mono fun e w' ⟨a1, h⟩ => ⟨by
      rcases h with ⟨Y, h1, _, h3⟩ | ⟨h2, _⟩
      · have : Y = X := Option.some.inj (h1.symm.trans hX)
        subst this
        rw [hs]; exact h3
      · exact absurd hXp (h2 X hX), a1⟩)
    have HQS := Lib.hid (show ∀ V, Aft W V → Calls Tryz.prog 6 #[.string s] V fun e w' => ∃ B m B2 m2 B3 m3, e = .returned (.tuple #[.agg #[.int .i64 a.kind, .int .i64 a.node, .int .i64 a.n, .int .i64 a.client, .int .i64 a.number, .int .i64 a.cmd.kind, .string a.cmd.actor, .string a.cmd.schema, .string a.cmd.table, .string a.cmd.name, .string a.cmd.role, .slice B a.cmd.cols.length m, .string a.cmd.rule.name, .int .i64 a.cmd.rule.kind, .slice B2 a.cmd.rule.cols.length m2, .int .i64 a.cmd.rule.low, .int .i64 a.cmd.rule.high, .string a.cmd.rule.schema, .string a.cmd.rule.table, .string a.cmd.rule.key, .int .i64 a.cmd.right, .bool a.cmd.opt, .int .i64 a.ck, .int .i64 a.cn, .int .i64 a.row.kind, .string a.row.role, .string a.row.schema, .string a.row.table, .slice B3 a.row.row.length m3, .string a.row.col, .int .i64 a.row.v.kind, .int .i64 a.row.v.int, .string a.row.v.text], .int .i64 0]) ∧ Aft V w' ∧ ActX w' a B m B2 m2 B3 m3 from fun V aV => (parse_actG s a V (by rw [hs]; exact line_le hX HFE.out.c HFE.out.n HFE.out.v) (HLV.out V aV) (by rw [hs]; exact hXp)).mono fun e w' ⟨B, m, B2, m2, B3, m3, he, a2, hy, _⟩ => ⟨B, m, B2, m2, B3, m3, he, a2, hy.x⟩)
    have HSA := Lib.hid (show ∀ (V : World) (B : Option Addr) (m : Nat) (B2 : Option Addr) (m2 : Nat) (B3 : Option Addr) (m3 : Nat), Aft W V → ActX V a B m B2 m2 B3 m3 → Calls Tryz.prog 9 #[.agg #[.int .i64 a.kind, .int .i64 a.node, .int .i64 a.n, .int .i64 a.client, .int .i64 a.number, .int .i64 a.cmd.kind, .string a.cmd.actor, .string a.cmd.schema, .string a.cmd.table, .string a.cmd.name, .string a.cmd.role, .slice A a.cmd.cols.length k, .string a.cmd.rule.name, .int .i64 a.cmd.rule.kind, .slice A2 a.cmd.rule.cols.length k2, .int .i64 a.cmd.rule.low, .int .i64 a.cmd.rule.high, .string a.cmd.rule.schema, .string a.cmd.rule.table, .string a.cmd.rule.key, .int .i64 a.cmd.right, .bool a.cmd.opt, .int .i64 a.ck, .int .i64 a.cn, .int .i64 a.row.kind, .string a.row.role, .string a.row.schema, .string a.row.table, .slice A3 a.row.row.length k3, .string a.row.col, .int .i64 a.row.v.kind, .int .i64 a.row.v.int, .string a.row.v.text], .agg #[.int .i64 a.kind, .int .i64 a.node, .int .i64 a.n, .int .i64 a.client, .int .i64 a.number, .int .i64 a.cmd.kind, .string a.cmd.actor, .string a.cmd.schema, .string a.cmd.table, .string a.cmd.name, .string a.cmd.role, .slice B a.cmd.cols.length m, .string a.cmd.rule.name, .int .i64 a.cmd.rule.kind, .slice B2 a.cmd.rule.cols.length m2, .int .i64 a.cmd.rule.low, .int .i64 a.cmd.rule.high, .string a.cmd.rule.schema, .string a.cmd.rule.table, .string a.cmd.rule.key, .int .i64 a.cmd.right, .bool a.cmd.opt, .int .i64 a.ck, .int .i64 a.cn, .int .i64 a.row.kind, .string a.row.role, .string a.row.schema, .string a.row.table, .slice B3 a.row.row.length m3, .string a.row.col, .int .i64 a.row.v.kind, .int .i64 a.row.v.int, .string a.row.v.text]] V fun e w' => e = .returned (.bool true) ∧ Aft V w' from fun V B m B2 m2 B3 m3 aV h => (same24 a a A k A2 k2 A3 k3 B m B2 m2 B3 m3 V (HX.out.x.aft aV) h).mono fun e w' ⟨a1, r, he, hr⟩ => ⟨by rw [he, hr.2 rfl], a1⟩)
    clear hs
    clear HPP
    cases hp : parseB line with
    | none =>
      have HQL := Lib.hid (show ∀ V, Aft W V → Calls Tryz.prog 6 #[.string line] V fun e w' => ∃ C n C2 n2 C3 n3, e = .returned (.tuple #[.agg #[.int .i64 zAct.kind, .int .i64 zAct.node, .int .i64 zAct.n, .int .i64 zAct.client, .int .i64 zAct.number, .int .i64 zAct.cmd.kind, .string zAct.cmd.actor, .string zAct.cmd.schema, .string zAct.cmd.table, .string zAct.cmd.name, .string zAct.cmd.role, .slice C zAct.cmd.cols.length n, .string zAct.cmd.rule.name, .int .i64 zAct.cmd.rule.kind, .slice C2 zAct.cmd.rule.cols.length n2, .int .i64 zAct.cmd.rule.low, .int .i64 zAct.cmd.rule.high, .string zAct.cmd.rule.schema, .string zAct.cmd.rule.table, .string zAct.cmd.rule.key, .int .i64 zAct.cmd.right, .bool zAct.cmd.opt, .int .i64 zAct.ck, .int .i64 zAct.cn, .int .i64 zAct.row.kind, .string zAct.row.role, .string zAct.row.schema, .string zAct.row.table, .slice C3 zAct.row.row.length n3, .string zAct.row.col, .int .i64 zAct.row.v.kind, .int .i64 zAct.row.v.int, .string zAct.row.v.text], .int .i64 230]) ∧ Aft V w' from fun V aV => (parse_act line V HSL.out (HLV.out V aV)).mono fun e w' ⟨a2, C, n, C2, n2, C3, n3, he, hy⟩ => by
        rw [hp] at he
        exact ⟨C, n, C2, n2, C3, n3, he, a2⟩)
      clear hp
      go_enter Tryz.func5, Tryz.ntmps5
      go_upto_region 1 with fail
      rw [← hW]
      clear hW
      go_wp2_with (first
        | (go_at_call 10; (with_reducible refine HLA2.out.mono ?_); rintro e w1 ⟨r, rfl, a1⟩; have H1 := Lib.hid a1; have e2 := lvAct_row (cs := [.int .i64 a.kind, .int .i64 a.node, .int .i64 a.n, .int .i64 a.client, .int .i64 a.number, .int .i64 a.cmd.kind, .string a.cmd.actor, .string a.cmd.schema, .string a.cmd.table, .string a.cmd.name, .string a.cmd.role, .slice A a.cmd.cols.length k, .string a.cmd.rule.name, .int .i64 a.cmd.rule.kind, .slice A2 a.cmd.rule.cols.length k2, .int .i64 a.cmd.rule.low, .int .i64 a.cmd.rule.high, .string a.cmd.rule.schema, .string a.cmd.rule.table, .string a.cmd.rule.key, .int .i64 a.cmd.right, .bool a.cmd.opt, .int .i64 a.ck, .int .i64 a.cn, .int .i64 a.row.kind, .string a.row.role, .string a.row.schema, .string a.row.table, .slice A3 a.row.row.length k3, .string a.row.col, .int .i64 a.row.v.kind, .int .i64 a.row.v.int, .string a.row.v.text]) (HRA.out.aft a1) rfl; clear a1; cases r)
        | (go_at_call 11; (with_reducible refine (HPR.out _ H1.out).mono ?_); rintro e w2 ⟨rfl, a2⟩; have H2 := Lib.hid (H1.out.trans a2); clear a2)
        | (go_at_call 6; (with_reducible refine (HQS.out _ H2.out).mono ?_); rintro e w3 ⟨B, m, B2, m2, B3, m3, rfl, a3, x3⟩; have e3 := lvAct_row (cs := [.int .i64 a.kind, .int .i64 a.node, .int .i64 a.n, .int .i64 a.client, .int .i64 a.number, .int .i64 a.cmd.kind, .string a.cmd.actor, .string a.cmd.schema, .string a.cmd.table, .string a.cmd.name, .string a.cmd.role, .slice A a.cmd.cols.length k, .string a.cmd.rule.name, .int .i64 a.cmd.rule.kind, .slice A2 a.cmd.rule.cols.length k2, .int .i64 a.cmd.rule.low, .int .i64 a.cmd.rule.high, .string a.cmd.rule.schema, .string a.cmd.rule.table, .string a.cmd.rule.key, .int .i64 a.cmd.right, .bool a.cmd.opt, .int .i64 a.ck, .int .i64 a.cn, .int .i64 a.row.kind, .string a.row.role, .string a.row.schema, .string a.row.table, .slice A3 a.row.row.length k3, .string a.row.col, .int .i64 a.row.v.kind, .int .i64 a.row.v.int, .string a.row.v.text]) (HRA.out.aft (H2.out.trans (a3.alloc (.cells #[.int .i64 a.kind, .int .i64 a.node, .int .i64 a.n, .int .i64 a.client, .int .i64 a.number, .int .i64 a.cmd.kind, .string a.cmd.actor, .string a.cmd.schema, .string a.cmd.table, .string a.cmd.name, .string a.cmd.role, .slice B a.cmd.cols.length m, .string a.cmd.rule.name, .int .i64 a.cmd.rule.kind, .slice B2 a.cmd.rule.cols.length m2, .int .i64 a.cmd.rule.low, .int .i64 a.cmd.rule.high, .string a.cmd.rule.schema, .string a.cmd.rule.table, .string a.cmd.rule.key, .int .i64 a.cmd.right, .bool a.cmd.opt, .int .i64 a.ck, .int .i64 a.cn, .int .i64 a.row.kind, .string a.row.role, .string a.row.schema, .string a.row.table, .slice B3 a.row.row.length m3, .string a.row.col, .int .i64 a.row.v.kind, .int .i64 a.row.v.int, .string a.row.v.text] 43)))) rfl; have e4 := lvAct_row (cs := [.int .i64 a.kind, .int .i64 a.node, .int .i64 a.n, .int .i64 a.client, .int .i64 a.number, .int .i64 a.cmd.kind, .string a.cmd.actor, .string a.cmd.schema, .string a.cmd.table, .string a.cmd.name, .string a.cmd.role, .slice B a.cmd.cols.length m, .string a.cmd.rule.name, .int .i64 a.cmd.rule.kind, .slice B2 a.cmd.rule.cols.length m2, .int .i64 a.cmd.rule.low, .int .i64 a.cmd.rule.high, .string a.cmd.rule.schema, .string a.cmd.rule.table, .string a.cmd.rule.key, .int .i64 a.cmd.right, .bool a.cmd.opt, .int .i64 a.ck, .int .i64 a.cn, .int .i64 a.row.kind, .string a.row.role, .string a.row.schema, .string a.row.table, .slice B3 a.row.row.length m3, .string a.row.col, .int .i64 a.row.v.kind, .int .i64 a.row.v.int, .string a.row.v.text]) (rowAt_newD w3 [.int .i64 a.kind, .int .i64 a.node, .int .i64 a.n, .int .i64 a.client, .int .i64 a.number, .int .i64 a.cmd.kind, .string a.cmd.actor, .string a.cmd.schema, .string a.cmd.table, .string a.cmd.name, .string a.cmd.role, .slice B a.cmd.cols.length m, .string a.cmd.rule.name, .int .i64 a.cmd.rule.kind, .slice B2 a.cmd.rule.cols.length m2, .int .i64 a.cmd.rule.low, .int .i64 a.cmd.rule.high, .string a.cmd.rule.schema, .string a.cmd.rule.table, .string a.cmd.rule.key, .int .i64 a.cmd.right, .bool a.cmd.opt, .int .i64 a.ck, .int .i64 a.cn, .int .i64 a.row.kind, .string a.row.role, .string a.row.schema, .string a.row.table, .slice B3 a.row.row.length m3, .string a.row.col, .int .i64 a.row.v.kind, .int .i64 a.row.v.int, .string a.row.v.text] 43) rfl; have G3 := Lib.hid (x3.aft ((Aft.refl w3).alloc (.cells #[.int .i64 a.kind, .int .i64 a.node, .int .i64 a.n, .int .i64 a.client, .int .i64 a.number, .int .i64 a.cmd.kind, .string a.cmd.actor, .string a.cmd.schema, .string a.cmd.table, .string a.cmd.name, .string a.cmd.role, .slice B a.cmd.cols.length m, .string a.cmd.rule.name, .int .i64 a.cmd.rule.kind, .slice B2 a.cmd.rule.cols.length m2, .int .i64 a.cmd.rule.low, .int .i64 a.cmd.rule.high, .string a.cmd.rule.schema, .string a.cmd.rule.table, .string a.cmd.rule.key, .int .i64 a.cmd.right, .bool a.cmd.opt, .int .i64 a.ck, .int .i64 a.cn, .int .i64 a.row.kind, .string a.row.role, .string a.row.schema, .string a.row.table, .slice B3 a.row.row.length m3, .string a.row.col, .int .i64 a.row.v.kind, .int .i64 a.row.v.int, .string a.row.v.text] 43))); have H3 := Lib.hid (H2.out.trans (a3.alloc (.cells #[.int .i64 a.kind, .int .i64 a.node, .int .i64 a.n, .int .i64 a.client, .int .i64 a.number, .int .i64 a.cmd.kind, .string a.cmd.actor, .string a.cmd.schema, .string a.cmd.table, .string a.cmd.name, .string a.cmd.role, .slice B a.cmd.cols.length m, .string a.cmd.rule.name, .int .i64 a.cmd.rule.kind, .slice B2 a.cmd.rule.cols.length m2, .int .i64 a.cmd.rule.low, .int .i64 a.cmd.rule.high, .string a.cmd.rule.schema, .string a.cmd.rule.table, .string a.cmd.rule.key, .int .i64 a.cmd.right, .bool a.cmd.opt, .int .i64 a.ck, .int .i64 a.cn, .int .i64 a.row.kind, .string a.row.role, .string a.row.schema, .string a.row.table, .slice B3 a.row.row.length m3, .string a.row.col, .int .i64 a.row.v.kind, .int .i64 a.row.v.int, .string a.row.v.text] 43))); clear a3 x3)
        | (go_at_call 9; (with_reducible refine (HSA.out _ _ _ _ _ _ _ H3.out G3.out).mono ?_); rintro e w4 ⟨rfl, a4⟩; have H4 := Lib.hid (H3.out.trans a4); clear a4)
        | (go_at_call 6; (with_reducible refine (HQL.out _ H4.out).mono ?_); rintro e w5 ⟨C, n, C2, n2, C3, n3, rfl, a5⟩; have H5 := Lib.hid ((H4.out).trans (a5.alloc (.cells #[.int .i64 zAct.kind, .int .i64 zAct.node, .int .i64 zAct.n, .int .i64 zAct.client, .int .i64 zAct.number, .int .i64 zAct.cmd.kind, .string zAct.cmd.actor, .string zAct.cmd.schema, .string zAct.cmd.table, .string zAct.cmd.name, .string zAct.cmd.role, .slice C zAct.cmd.cols.length n, .string zAct.cmd.rule.name, .int .i64 zAct.cmd.rule.kind, .slice C2 zAct.cmd.rule.cols.length n2, .int .i64 zAct.cmd.rule.low, .int .i64 zAct.cmd.rule.high, .string zAct.cmd.rule.schema, .string zAct.cmd.rule.table, .string zAct.cmd.rule.key, .int .i64 zAct.cmd.right, .bool zAct.cmd.opt, .int .i64 zAct.ck, .int .i64 zAct.cn, .int .i64 zAct.row.kind, .string zAct.row.role, .string zAct.row.schema, .string zAct.row.table, .slice C3 zAct.row.row.length n3, .string zAct.row.col, .int .i64 zAct.row.v.kind, .int .i64 zAct.row.v.int, .string zAct.row.v.text] 43))); clear a5)
        | (go_at_call 8; (with_reducible refine (HPA.out _ H5.out).mono ?_); rintro e w6 ⟨rfl, a6⟩; have H6 := Lib.hid (H5.out.trans a6); clear a6)
        | (go_at_call 13; (with_reducible refine (HPI.out _ H6.out).mono ?_); rintro e w7 ⟨rfl, a7⟩; have H7 := Lib.hid (H6.out.trans a7); clear a7))
      all_goals go_ret
      · first | exact ⟨by simp, HAW.out.trans H7.out⟩ | exact ⟨rfl, HAW.out.trans H1.out⟩
      · first | exact ⟨by simp, HAW.out.trans H7.out⟩ | exact ⟨rfl, HAW.out.trans H1.out⟩
    | some y =>
      have HQL := Lib.hid (show ∀ V, Aft W V → Calls Tryz.prog 6 #[.string line] V fun e w' => ∃ C n C2 n2 C3 n3, e = .returned (.tuple #[.agg #[.int .i64 y.kind, .int .i64 y.node, .int .i64 y.n, .int .i64 y.client, .int .i64 y.number, .int .i64 y.cmd.kind, .string y.cmd.actor, .string y.cmd.schema, .string y.cmd.table, .string y.cmd.name, .string y.cmd.role, .slice C y.cmd.cols.length n, .string y.cmd.rule.name, .int .i64 y.cmd.rule.kind, .slice C2 y.cmd.rule.cols.length n2, .int .i64 y.cmd.rule.low, .int .i64 y.cmd.rule.high, .string y.cmd.rule.schema, .string y.cmd.rule.table, .string y.cmd.rule.key, .int .i64 y.cmd.right, .bool y.cmd.opt, .int .i64 y.ck, .int .i64 y.cn, .int .i64 y.row.kind, .string y.row.role, .string y.row.schema, .string y.row.table, .slice C3 y.row.row.length n3, .string y.row.col, .int .i64 y.row.v.kind, .int .i64 y.row.v.int, .string y.row.v.text], .int .i64 0]) ∧ Aft V w' ∧ ActG w' y C n C2 n2 C3 n3 ∧ Few y from fun V aV => (parse_actG line y V HSL.out (HLV.out V aV) hp).mono fun e w' ⟨C, n, C2, n2, C3, n3, he, a2, hy, hf⟩ => ⟨C, n, C2, n2, C3, n3, he, a2, hy, hf⟩)
      have HPY := Lib.hid (show ∀ (V : World) (C : Option Addr) (n : Nat) (C2 : Option Addr) (n2 : Nat) (C3 : Option Addr) (n3 : Nat), Aft W V → ActG V y C n C2 n2 C3 n3 → Few y → Calls Tryz.prog 11 #[.agg #[.int .i64 y.kind, .int .i64 y.node, .int .i64 y.n, .int .i64 y.client, .int .i64 y.number, .int .i64 y.cmd.kind, .string y.cmd.actor, .string y.cmd.schema, .string y.cmd.table, .string y.cmd.name, .string y.cmd.role, .slice C y.cmd.cols.length n, .string y.cmd.rule.name, .int .i64 y.cmd.rule.kind, .slice C2 y.cmd.rule.cols.length n2, .int .i64 y.cmd.rule.low, .int .i64 y.cmd.rule.high, .string y.cmd.rule.schema, .string y.cmd.rule.table, .string y.cmd.rule.key, .int .i64 y.cmd.right, .bool y.cmd.opt, .int .i64 y.ck, .int .i64 y.cn, .int .i64 y.row.kind, .string y.row.role, .string y.row.schema, .string y.row.table, .slice C3 y.row.row.length n3, .string y.row.col, .int .i64 y.row.v.kind, .int .i64 y.row.v.int, .string y.row.v.text]] V fun e w' => e = .returned (.tuple #[.string line, .int .i64 0]) ∧ Aft V w' from fun V C n C2 n2 C3 n3 aV hy hf => (print_in y C n C2 n2 C3 n3 V hy hf (HTB.out V aV) (HLV.out V aV)).mono fun e w' ⟨a1, h⟩ => ⟨by
        obtain ⟨Y, hY, hYl⟩ := laid_X hp (actM_of (reg_ck hp))
        rcases h with ⟨X, h1, _, h3⟩ | ⟨h1, _⟩
        · have : X = Y := Option.some.inj (h1.symm.trans hY)
          subst this
          rw [h3, hYl]
        · exact absurd (by rw [hYl]; exact hp) (h1 Y hY), a1⟩)
      clear hp
      go_enter Tryz.func5, Tryz.ntmps5
      go_upto_region 1 with fail
      rw [← hW]
      clear hW
      go_wp2_with (first
        | (go_at_call 10; (with_reducible refine HLA2.out.mono ?_); rintro e w1 ⟨r, rfl, a1⟩; have H1 := Lib.hid a1; have e2 := lvAct_row (cs := [.int .i64 a.kind, .int .i64 a.node, .int .i64 a.n, .int .i64 a.client, .int .i64 a.number, .int .i64 a.cmd.kind, .string a.cmd.actor, .string a.cmd.schema, .string a.cmd.table, .string a.cmd.name, .string a.cmd.role, .slice A a.cmd.cols.length k, .string a.cmd.rule.name, .int .i64 a.cmd.rule.kind, .slice A2 a.cmd.rule.cols.length k2, .int .i64 a.cmd.rule.low, .int .i64 a.cmd.rule.high, .string a.cmd.rule.schema, .string a.cmd.rule.table, .string a.cmd.rule.key, .int .i64 a.cmd.right, .bool a.cmd.opt, .int .i64 a.ck, .int .i64 a.cn, .int .i64 a.row.kind, .string a.row.role, .string a.row.schema, .string a.row.table, .slice A3 a.row.row.length k3, .string a.row.col, .int .i64 a.row.v.kind, .int .i64 a.row.v.int, .string a.row.v.text]) (HRA.out.aft a1) rfl; clear a1; cases r)
        | (go_at_call 11; (with_reducible refine (HPR.out _ H1.out).mono ?_); rintro e w2 ⟨rfl, a2⟩; have H2 := Lib.hid (H1.out.trans a2); clear a2)
        | (go_at_call 6; (with_reducible refine (HQS.out _ H2.out).mono ?_); rintro e w3 ⟨B, m, B2, m2, B3, m3, rfl, a3, x3⟩; have e3 := lvAct_row (cs := [.int .i64 a.kind, .int .i64 a.node, .int .i64 a.n, .int .i64 a.client, .int .i64 a.number, .int .i64 a.cmd.kind, .string a.cmd.actor, .string a.cmd.schema, .string a.cmd.table, .string a.cmd.name, .string a.cmd.role, .slice A a.cmd.cols.length k, .string a.cmd.rule.name, .int .i64 a.cmd.rule.kind, .slice A2 a.cmd.rule.cols.length k2, .int .i64 a.cmd.rule.low, .int .i64 a.cmd.rule.high, .string a.cmd.rule.schema, .string a.cmd.rule.table, .string a.cmd.rule.key, .int .i64 a.cmd.right, .bool a.cmd.opt, .int .i64 a.ck, .int .i64 a.cn, .int .i64 a.row.kind, .string a.row.role, .string a.row.schema, .string a.row.table, .slice A3 a.row.row.length k3, .string a.row.col, .int .i64 a.row.v.kind, .int .i64 a.row.v.int, .string a.row.v.text]) (HRA.out.aft (H2.out.trans (a3.alloc (.cells #[.int .i64 a.kind, .int .i64 a.node, .int .i64 a.n, .int .i64 a.client, .int .i64 a.number, .int .i64 a.cmd.kind, .string a.cmd.actor, .string a.cmd.schema, .string a.cmd.table, .string a.cmd.name, .string a.cmd.role, .slice B a.cmd.cols.length m, .string a.cmd.rule.name, .int .i64 a.cmd.rule.kind, .slice B2 a.cmd.rule.cols.length m2, .int .i64 a.cmd.rule.low, .int .i64 a.cmd.rule.high, .string a.cmd.rule.schema, .string a.cmd.rule.table, .string a.cmd.rule.key, .int .i64 a.cmd.right, .bool a.cmd.opt, .int .i64 a.ck, .int .i64 a.cn, .int .i64 a.row.kind, .string a.row.role, .string a.row.schema, .string a.row.table, .slice B3 a.row.row.length m3, .string a.row.col, .int .i64 a.row.v.kind, .int .i64 a.row.v.int, .string a.row.v.text] 43)))) rfl; have e4 := lvAct_row (cs := [.int .i64 a.kind, .int .i64 a.node, .int .i64 a.n, .int .i64 a.client, .int .i64 a.number, .int .i64 a.cmd.kind, .string a.cmd.actor, .string a.cmd.schema, .string a.cmd.table, .string a.cmd.name, .string a.cmd.role, .slice B a.cmd.cols.length m, .string a.cmd.rule.name, .int .i64 a.cmd.rule.kind, .slice B2 a.cmd.rule.cols.length m2, .int .i64 a.cmd.rule.low, .int .i64 a.cmd.rule.high, .string a.cmd.rule.schema, .string a.cmd.rule.table, .string a.cmd.rule.key, .int .i64 a.cmd.right, .bool a.cmd.opt, .int .i64 a.ck, .int .i64 a.cn, .int .i64 a.row.kind, .string a.row.role, .string a.row.schema, .string a.row.table, .slice B3 a.row.row.length m3, .string a.row.col, .int .i64 a.row.v.kind, .int .i64 a.row.v.int, .string a.row.v.text]) (rowAt_newD w3 [.int .i64 a.kind, .int .i64 a.node, .int .i64 a.n, .int .i64 a.client, .int .i64 a.number, .int .i64 a.cmd.kind, .string a.cmd.actor, .string a.cmd.schema, .string a.cmd.table, .string a.cmd.name, .string a.cmd.role, .slice B a.cmd.cols.length m, .string a.cmd.rule.name, .int .i64 a.cmd.rule.kind, .slice B2 a.cmd.rule.cols.length m2, .int .i64 a.cmd.rule.low, .int .i64 a.cmd.rule.high, .string a.cmd.rule.schema, .string a.cmd.rule.table, .string a.cmd.rule.key, .int .i64 a.cmd.right, .bool a.cmd.opt, .int .i64 a.ck, .int .i64 a.cn, .int .i64 a.row.kind, .string a.row.role, .string a.row.schema, .string a.row.table, .slice B3 a.row.row.length m3, .string a.row.col, .int .i64 a.row.v.kind, .int .i64 a.row.v.int, .string a.row.v.text] 43) rfl; have G3 := Lib.hid (x3.aft ((Aft.refl w3).alloc (.cells #[.int .i64 a.kind, .int .i64 a.node, .int .i64 a.n, .int .i64 a.client, .int .i64 a.number, .int .i64 a.cmd.kind, .string a.cmd.actor, .string a.cmd.schema, .string a.cmd.table, .string a.cmd.name, .string a.cmd.role, .slice B a.cmd.cols.length m, .string a.cmd.rule.name, .int .i64 a.cmd.rule.kind, .slice B2 a.cmd.rule.cols.length m2, .int .i64 a.cmd.rule.low, .int .i64 a.cmd.rule.high, .string a.cmd.rule.schema, .string a.cmd.rule.table, .string a.cmd.rule.key, .int .i64 a.cmd.right, .bool a.cmd.opt, .int .i64 a.ck, .int .i64 a.cn, .int .i64 a.row.kind, .string a.row.role, .string a.row.schema, .string a.row.table, .slice B3 a.row.row.length m3, .string a.row.col, .int .i64 a.row.v.kind, .int .i64 a.row.v.int, .string a.row.v.text] 43))); have H3 := Lib.hid (H2.out.trans (a3.alloc (.cells #[.int .i64 a.kind, .int .i64 a.node, .int .i64 a.n, .int .i64 a.client, .int .i64 a.number, .int .i64 a.cmd.kind, .string a.cmd.actor, .string a.cmd.schema, .string a.cmd.table, .string a.cmd.name, .string a.cmd.role, .slice B a.cmd.cols.length m, .string a.cmd.rule.name, .int .i64 a.cmd.rule.kind, .slice B2 a.cmd.rule.cols.length m2, .int .i64 a.cmd.rule.low, .int .i64 a.cmd.rule.high, .string a.cmd.rule.schema, .string a.cmd.rule.table, .string a.cmd.rule.key, .int .i64 a.cmd.right, .bool a.cmd.opt, .int .i64 a.ck, .int .i64 a.cn, .int .i64 a.row.kind, .string a.row.role, .string a.row.schema, .string a.row.table, .slice B3 a.row.row.length m3, .string a.row.col, .int .i64 a.row.v.kind, .int .i64 a.row.v.int, .string a.row.v.text] 43))); clear a3 x3)
        | (go_at_call 9; (with_reducible refine (HSA.out _ _ _ _ _ _ _ H3.out G3.out).mono ?_); rintro e w4 ⟨rfl, a4⟩; have H4 := Lib.hid (H3.out.trans a4); clear a4)
        | (go_at_call 6; (with_reducible refine (HQL.out _ H4.out).mono ?_); rintro e w5 ⟨C, n, C2, n2, C3, n3, rfl, a5, y5, f5⟩; have e5 := lvAct_row (cs := [.int .i64 y.kind, .int .i64 y.node, .int .i64 y.n, .int .i64 y.client, .int .i64 y.number, .int .i64 y.cmd.kind, .string y.cmd.actor, .string y.cmd.schema, .string y.cmd.table, .string y.cmd.name, .string y.cmd.role, .slice C y.cmd.cols.length n, .string y.cmd.rule.name, .int .i64 y.cmd.rule.kind, .slice C2 y.cmd.rule.cols.length n2, .int .i64 y.cmd.rule.low, .int .i64 y.cmd.rule.high, .string y.cmd.rule.schema, .string y.cmd.rule.table, .string y.cmd.rule.key, .int .i64 y.cmd.right, .bool y.cmd.opt, .int .i64 y.ck, .int .i64 y.cn, .int .i64 y.row.kind, .string y.row.role, .string y.row.schema, .string y.row.table, .slice C3 y.row.row.length n3, .string y.row.col, .int .i64 y.row.v.kind, .int .i64 y.row.v.int, .string y.row.v.text]) (rowAt_newD w5 [.int .i64 y.kind, .int .i64 y.node, .int .i64 y.n, .int .i64 y.client, .int .i64 y.number, .int .i64 y.cmd.kind, .string y.cmd.actor, .string y.cmd.schema, .string y.cmd.table, .string y.cmd.name, .string y.cmd.role, .slice C y.cmd.cols.length n, .string y.cmd.rule.name, .int .i64 y.cmd.rule.kind, .slice C2 y.cmd.rule.cols.length n2, .int .i64 y.cmd.rule.low, .int .i64 y.cmd.rule.high, .string y.cmd.rule.schema, .string y.cmd.rule.table, .string y.cmd.rule.key, .int .i64 y.cmd.right, .bool y.cmd.opt, .int .i64 y.ck, .int .i64 y.cn, .int .i64 y.row.kind, .string y.row.role, .string y.row.schema, .string y.row.table, .slice C3 y.row.row.length n3, .string y.row.col, .int .i64 y.row.v.kind, .int .i64 y.row.v.int, .string y.row.v.text] 43) rfl; have G5 := Lib.hid (And.intro (y5.aft ((Aft.refl w5).alloc (.cells #[.int .i64 y.kind, .int .i64 y.node, .int .i64 y.n, .int .i64 y.client, .int .i64 y.number, .int .i64 y.cmd.kind, .string y.cmd.actor, .string y.cmd.schema, .string y.cmd.table, .string y.cmd.name, .string y.cmd.role, .slice C y.cmd.cols.length n, .string y.cmd.rule.name, .int .i64 y.cmd.rule.kind, .slice C2 y.cmd.rule.cols.length n2, .int .i64 y.cmd.rule.low, .int .i64 y.cmd.rule.high, .string y.cmd.rule.schema, .string y.cmd.rule.table, .string y.cmd.rule.key, .int .i64 y.cmd.right, .bool y.cmd.opt, .int .i64 y.ck, .int .i64 y.cn, .int .i64 y.row.kind, .string y.row.role, .string y.row.schema, .string y.row.table, .slice C3 y.row.row.length n3, .string y.row.col, .int .i64 y.row.v.kind, .int .i64 y.row.v.int, .string y.row.v.text] 43))) f5); have H5 := Lib.hid ((H4.out).trans (a5.alloc (.cells #[.int .i64 y.kind, .int .i64 y.node, .int .i64 y.n, .int .i64 y.client, .int .i64 y.number, .int .i64 y.cmd.kind, .string y.cmd.actor, .string y.cmd.schema, .string y.cmd.table, .string y.cmd.name, .string y.cmd.role, .slice C y.cmd.cols.length n, .string y.cmd.rule.name, .int .i64 y.cmd.rule.kind, .slice C2 y.cmd.rule.cols.length n2, .int .i64 y.cmd.rule.low, .int .i64 y.cmd.rule.high, .string y.cmd.rule.schema, .string y.cmd.rule.table, .string y.cmd.rule.key, .int .i64 y.cmd.right, .bool y.cmd.opt, .int .i64 y.ck, .int .i64 y.cn, .int .i64 y.row.kind, .string y.row.role, .string y.row.schema, .string y.row.table, .slice C3 y.row.row.length n3, .string y.row.col, .int .i64 y.row.v.kind, .int .i64 y.row.v.int, .string y.row.v.text] 43))); clear a5 y5 f5)
        | (go_at_call 11; (with_reducible refine (HPY.out _ _ _ _ _ _ _ H5.out G5.out.1 G5.out.2).mono ?_); rintro e w8 ⟨rfl, a8⟩; have H8 := Lib.hid (H5.out.trans a8); clear a8)
        | (go_at_call 8; (with_reducible refine (HPA.out _ H8.out).mono ?_); rintro e w6 ⟨rfl, a6⟩; have H6 := Lib.hid (H8.out.trans a6); clear a6)
        | (go_at_call 13; (with_reducible refine (HPI.out _ H6.out).mono ?_); rintro e w7 ⟨rfl, a7⟩; have H7 := Lib.hid (H6.out.trans a7); clear a7))
      all_goals go_ret
      · first | exact ⟨by simp, HAW.out.trans H7.out⟩ | exact ⟨rfl, HAW.out.trans H1.out⟩
      · first | exact ⟨by simp, HAW.out.trans H7.out⟩ | exact ⟨rfl, HAW.out.trans H1.out⟩
  · have HPR := Lib.hid (show ∀ V, Aft W V → Calls Tryz.prog 11 #[.agg #[.int .i64 a.kind, .int .i64 a.node, .int .i64 a.n, .int .i64 a.client, .int .i64 a.number, .int .i64 a.cmd.kind, .string a.cmd.actor, .string a.cmd.schema, .string a.cmd.table, .string a.cmd.name, .string a.cmd.role, .slice A a.cmd.cols.length k, .string a.cmd.rule.name, .int .i64 a.cmd.rule.kind, .slice A2 a.cmd.rule.cols.length k2, .int .i64 a.cmd.rule.low, .int .i64 a.cmd.rule.high, .string a.cmd.rule.schema, .string a.cmd.rule.table, .string a.cmd.rule.key, .int .i64 a.cmd.right, .bool a.cmd.opt, .int .i64 a.ck, .int .i64 a.cn, .int .i64 a.row.kind, .string a.row.role, .string a.row.schema, .string a.row.table, .slice A3 a.row.row.length k3, .string a.row.col, .int .i64 a.row.v.kind, .int .i64 a.row.v.int, .string a.row.v.text]] V fun e w' => e = .returned (.tuple #[.string ⟨#[]⟩, .int .i64 230]) ∧ Aft V w' from fun V aV => (HPP.out V aV).mono fun e w' ⟨a1, h⟩ => ⟨by
      rcases h with ⟨X, h1, h2, _⟩ | ⟨_, h3⟩
      · exact absurd ⟨X, h1, h2⟩ hpr
      · exact h3, a1⟩)
    clear HPP
    cases hp : parseB line with
    | none =>
      have HQL := Lib.hid (show ∀ V, Aft W V → Calls Tryz.prog 6 #[.string line] V fun e w' => ∃ C n C2 n2 C3 n3, e = .returned (.tuple #[.agg #[.int .i64 zAct.kind, .int .i64 zAct.node, .int .i64 zAct.n, .int .i64 zAct.client, .int .i64 zAct.number, .int .i64 zAct.cmd.kind, .string zAct.cmd.actor, .string zAct.cmd.schema, .string zAct.cmd.table, .string zAct.cmd.name, .string zAct.cmd.role, .slice C zAct.cmd.cols.length n, .string zAct.cmd.rule.name, .int .i64 zAct.cmd.rule.kind, .slice C2 zAct.cmd.rule.cols.length n2, .int .i64 zAct.cmd.rule.low, .int .i64 zAct.cmd.rule.high, .string zAct.cmd.rule.schema, .string zAct.cmd.rule.table, .string zAct.cmd.rule.key, .int .i64 zAct.cmd.right, .bool zAct.cmd.opt, .int .i64 zAct.ck, .int .i64 zAct.cn, .int .i64 zAct.row.kind, .string zAct.row.role, .string zAct.row.schema, .string zAct.row.table, .slice C3 zAct.row.row.length n3, .string zAct.row.col, .int .i64 zAct.row.v.kind, .int .i64 zAct.row.v.int, .string zAct.row.v.text], .int .i64 230]) ∧ Aft V w' from fun V aV => (parse_act line V HSL.out (HLV.out V aV)).mono fun e w' ⟨a2, C, n, C2, n2, C3, n3, he, hy⟩ => by
        rw [hp] at he
        exact ⟨C, n, C2, n2, C3, n3, he, a2⟩)
      clear hp
      go_enter Tryz.func5, Tryz.ntmps5
      go_upto_region 1 with fail
      rw [← hW]
      clear hW
      go_wp2_with (first
        | (go_at_call 10; (with_reducible refine HLA2.out.mono ?_); rintro e w1 ⟨r, rfl, a1⟩; have H1 := Lib.hid a1; have e2 := lvAct_row (cs := [.int .i64 a.kind, .int .i64 a.node, .int .i64 a.n, .int .i64 a.client, .int .i64 a.number, .int .i64 a.cmd.kind, .string a.cmd.actor, .string a.cmd.schema, .string a.cmd.table, .string a.cmd.name, .string a.cmd.role, .slice A a.cmd.cols.length k, .string a.cmd.rule.name, .int .i64 a.cmd.rule.kind, .slice A2 a.cmd.rule.cols.length k2, .int .i64 a.cmd.rule.low, .int .i64 a.cmd.rule.high, .string a.cmd.rule.schema, .string a.cmd.rule.table, .string a.cmd.rule.key, .int .i64 a.cmd.right, .bool a.cmd.opt, .int .i64 a.ck, .int .i64 a.cn, .int .i64 a.row.kind, .string a.row.role, .string a.row.schema, .string a.row.table, .slice A3 a.row.row.length k3, .string a.row.col, .int .i64 a.row.v.kind, .int .i64 a.row.v.int, .string a.row.v.text]) (HRA.out.aft a1) rfl; clear a1; cases r)
        | (go_at_call 11; (with_reducible refine (HPR.out _ H1.out).mono ?_); rintro e w2 ⟨rfl, a2⟩; have H2 := Lib.hid (H1.out.trans a2); clear a2)
        | (go_at_call 6; (with_reducible refine (HQL.out _ H2.out).mono ?_); rintro e w5 ⟨C, n, C2, n2, C3, n3, rfl, a5⟩; have H5 := Lib.hid ((H2.out).trans (a5.alloc (.cells #[.int .i64 zAct.kind, .int .i64 zAct.node, .int .i64 zAct.n, .int .i64 zAct.client, .int .i64 zAct.number, .int .i64 zAct.cmd.kind, .string zAct.cmd.actor, .string zAct.cmd.schema, .string zAct.cmd.table, .string zAct.cmd.name, .string zAct.cmd.role, .slice C zAct.cmd.cols.length n, .string zAct.cmd.rule.name, .int .i64 zAct.cmd.rule.kind, .slice C2 zAct.cmd.rule.cols.length n2, .int .i64 zAct.cmd.rule.low, .int .i64 zAct.cmd.rule.high, .string zAct.cmd.rule.schema, .string zAct.cmd.rule.table, .string zAct.cmd.rule.key, .int .i64 zAct.cmd.right, .bool zAct.cmd.opt, .int .i64 zAct.ck, .int .i64 zAct.cn, .int .i64 zAct.row.kind, .string zAct.row.role, .string zAct.row.schema, .string zAct.row.table, .slice C3 zAct.row.row.length n3, .string zAct.row.col, .int .i64 zAct.row.v.kind, .int .i64 zAct.row.v.int, .string zAct.row.v.text] 43))); clear a5)
        | (go_at_call 8; (with_reducible refine (HPA.out _ H5.out).mono ?_); rintro e w6 ⟨rfl, a6⟩; have H6 := Lib.hid (H5.out.trans a6); clear a6)
        | (go_at_call 13; (with_reducible refine (HPI.out _ H6.out).mono ?_); rintro e w7 ⟨rfl, a7⟩; have H7 := Lib.hid (H6.out.trans a7); clear a7))
      all_goals go_ret
      · first | exact ⟨by simp, HAW.out.trans H7.out⟩ | exact ⟨rfl, HAW.out.trans H1.out⟩
      · first | exact ⟨by simp, HAW.out.trans H7.out⟩ | exact ⟨rfl, HAW.out.trans H1.out⟩
    | some y =>
      have HQL := Lib.hid (show ∀ V, Aft W V → Calls Tryz.prog 6 #[.string line] V fun e w' => ∃ C n C2 n2 C3 n3, e = .returned (.tuple #[.agg #[.int .i64 y.kind, .int .i64 y.node, .int .i64 y.n, .int .i64 y.client, .int .i64 y.number, .int .i64 y.cmd.kind, .string y.cmd.actor, .string y.cmd.schema, .string y.cmd.table, .string y.cmd.name, .string y.cmd.role, .slice C y.cmd.cols.length n, .string y.cmd.rule.name, .int .i64 y.cmd.rule.kind, .slice C2 y.cmd.rule.cols.length n2, .int .i64 y.cmd.rule.low, .int .i64 y.cmd.rule.high, .string y.cmd.rule.schema, .string y.cmd.rule.table, .string y.cmd.rule.key, .int .i64 y.cmd.right, .bool y.cmd.opt, .int .i64 y.ck, .int .i64 y.cn, .int .i64 y.row.kind, .string y.row.role, .string y.row.schema, .string y.row.table, .slice C3 y.row.row.length n3, .string y.row.col, .int .i64 y.row.v.kind, .int .i64 y.row.v.int, .string y.row.v.text], .int .i64 0]) ∧ Aft V w' ∧ ActG w' y C n C2 n2 C3 n3 ∧ Few y from fun V aV => (parse_actG line y V HSL.out (HLV.out V aV) hp).mono fun e w' ⟨C, n, C2, n2, C3, n3, he, a2, hy, hf⟩ => ⟨C, n, C2, n2, C3, n3, he, a2, hy, hf⟩)
      have HPY := Lib.hid (show ∀ (V : World) (C : Option Addr) (n : Nat) (C2 : Option Addr) (n2 : Nat) (C3 : Option Addr) (n3 : Nat), Aft W V → ActG V y C n C2 n2 C3 n3 → Few y → Calls Tryz.prog 11 #[.agg #[.int .i64 y.kind, .int .i64 y.node, .int .i64 y.n, .int .i64 y.client, .int .i64 y.number, .int .i64 y.cmd.kind, .string y.cmd.actor, .string y.cmd.schema, .string y.cmd.table, .string y.cmd.name, .string y.cmd.role, .slice C y.cmd.cols.length n, .string y.cmd.rule.name, .int .i64 y.cmd.rule.kind, .slice C2 y.cmd.rule.cols.length n2, .int .i64 y.cmd.rule.low, .int .i64 y.cmd.rule.high, .string y.cmd.rule.schema, .string y.cmd.rule.table, .string y.cmd.rule.key, .int .i64 y.cmd.right, .bool y.cmd.opt, .int .i64 y.ck, .int .i64 y.cn, .int .i64 y.row.kind, .string y.row.role, .string y.row.schema, .string y.row.table, .slice C3 y.row.row.length n3, .string y.row.col, .int .i64 y.row.v.kind, .int .i64 y.row.v.int, .string y.row.v.text]] V fun e w' => e = .returned (.tuple #[.string line, .int .i64 0]) ∧ Aft V w' from fun V C n C2 n2 C3 n3 aV hy hf => (print_in y C n C2 n2 C3 n3 V hy hf (HTB.out V aV) (HLV.out V aV)).mono fun e w' ⟨a1, h⟩ => ⟨by
        obtain ⟨Y, hY, hYl⟩ := laid_X hp (actM_of (reg_ck hp))
        rcases h with ⟨X, h1, _, h3⟩ | ⟨h1, _⟩
        · have : X = Y := Option.some.inj (h1.symm.trans hY)
          subst this
          rw [h3, hYl]
        · exact absurd (by rw [hYl]; exact hp) (h1 Y hY), a1⟩)
      clear hp
      go_enter Tryz.func5, Tryz.ntmps5
      go_upto_region 1 with fail
      rw [← hW]
      clear hW
      go_wp2_with (first
        | (go_at_call 10; (with_reducible refine HLA2.out.mono ?_); rintro e w1 ⟨r, rfl, a1⟩; have H1 := Lib.hid a1; have e2 := lvAct_row (cs := [.int .i64 a.kind, .int .i64 a.node, .int .i64 a.n, .int .i64 a.client, .int .i64 a.number, .int .i64 a.cmd.kind, .string a.cmd.actor, .string a.cmd.schema, .string a.cmd.table, .string a.cmd.name, .string a.cmd.role, .slice A a.cmd.cols.length k, .string a.cmd.rule.name, .int .i64 a.cmd.rule.kind, .slice A2 a.cmd.rule.cols.length k2, .int .i64 a.cmd.rule.low, .int .i64 a.cmd.rule.high, .string a.cmd.rule.schema, .string a.cmd.rule.table, .string a.cmd.rule.key, .int .i64 a.cmd.right, .bool a.cmd.opt, .int .i64 a.ck, .int .i64 a.cn, .int .i64 a.row.kind, .string a.row.role, .string a.row.schema, .string a.row.table, .slice A3 a.row.row.length k3, .string a.row.col, .int .i64 a.row.v.kind, .int .i64 a.row.v.int, .string a.row.v.text]) (HRA.out.aft a1) rfl; clear a1; cases r)
        | (go_at_call 11; (with_reducible refine (HPR.out _ H1.out).mono ?_); rintro e w2 ⟨rfl, a2⟩; have H2 := Lib.hid (H1.out.trans a2); clear a2)
        | (go_at_call 6; (with_reducible refine (HQL.out _ H2.out).mono ?_); rintro e w5 ⟨C, n, C2, n2, C3, n3, rfl, a5, y5, f5⟩; have e5 := lvAct_row (cs := [.int .i64 y.kind, .int .i64 y.node, .int .i64 y.n, .int .i64 y.client, .int .i64 y.number, .int .i64 y.cmd.kind, .string y.cmd.actor, .string y.cmd.schema, .string y.cmd.table, .string y.cmd.name, .string y.cmd.role, .slice C y.cmd.cols.length n, .string y.cmd.rule.name, .int .i64 y.cmd.rule.kind, .slice C2 y.cmd.rule.cols.length n2, .int .i64 y.cmd.rule.low, .int .i64 y.cmd.rule.high, .string y.cmd.rule.schema, .string y.cmd.rule.table, .string y.cmd.rule.key, .int .i64 y.cmd.right, .bool y.cmd.opt, .int .i64 y.ck, .int .i64 y.cn, .int .i64 y.row.kind, .string y.row.role, .string y.row.schema, .string y.row.table, .slice C3 y.row.row.length n3, .string y.row.col, .int .i64 y.row.v.kind, .int .i64 y.row.v.int, .string y.row.v.text]) (rowAt_newD w5 [.int .i64 y.kind, .int .i64 y.node, .int .i64 y.n, .int .i64 y.client, .int .i64 y.number, .int .i64 y.cmd.kind, .string y.cmd.actor, .string y.cmd.schema, .string y.cmd.table, .string y.cmd.name, .string y.cmd.role, .slice C y.cmd.cols.length n, .string y.cmd.rule.name, .int .i64 y.cmd.rule.kind, .slice C2 y.cmd.rule.cols.length n2, .int .i64 y.cmd.rule.low, .int .i64 y.cmd.rule.high, .string y.cmd.rule.schema, .string y.cmd.rule.table, .string y.cmd.rule.key, .int .i64 y.cmd.right, .bool y.cmd.opt, .int .i64 y.ck, .int .i64 y.cn, .int .i64 y.row.kind, .string y.row.role, .string y.row.schema, .string y.row.table, .slice C3 y.row.row.length n3, .string y.row.col, .int .i64 y.row.v.kind, .int .i64 y.row.v.int, .string y.row.v.text] 43) rfl; have G5 := Lib.hid (And.intro (y5.aft ((Aft.refl w5).alloc (.cells #[.int .i64 y.kind, .int .i64 y.node, .int .i64 y.n, .int .i64 y.client, .int .i64 y.number, .int .i64 y.cmd.kind, .string y.cmd.actor, .string y.cmd.schema, .string y.cmd.table, .string y.cmd.name, .string y.cmd.role, .slice C y.cmd.cols.length n, .string y.cmd.rule.name, .int .i64 y.cmd.rule.kind, .slice C2 y.cmd.rule.cols.length n2, .int .i64 y.cmd.rule.low, .int .i64 y.cmd.rule.high, .string y.cmd.rule.schema, .string y.cmd.rule.table, .string y.cmd.rule.key, .int .i64 y.cmd.right, .bool y.cmd.opt, .int .i64 y.ck, .int .i64 y.cn, .int .i64 y.row.kind, .string y.row.role, .string y.row.schema, .string y.row.table, .slice C3 y.row.row.length n3, .string y.row.col, .int .i64 y.row.v.kind, .int .i64 y.row.v.int, .string y.row.v.text] 43))) f5); have H5 := Lib.hid ((H2.out).trans (a5.alloc (.cells #[.int .i64 y.kind, .int .i64 y.node, .int .i64 y.n, .int .i64 y.client, .int .i64 y.number, .int .i64 y.cmd.kind, .string y.cmd.actor, .string y.cmd.schema, .string y.cmd.table, .string y.cmd.name, .string y.cmd.role, .slice C y.cmd.cols.length n, .string y.cmd.rule.name, .int .i64 y.cmd.rule.kind, .slice C2 y.cmd.rule.cols.length n2, .int .i64 y.cmd.rule.low, .int .i64 y.cmd.rule.high, .string y.cmd.rule.schema, .string y.cmd.rule.table, .string y.cmd.rule.key, .int .i64 y.cmd.right, .bool y.cmd.opt, .int .i64 y.ck, .int .i64 y.cn, .int .i64 y.row.kind, .string y.row.role, .string y.row.schema, .string y.row.table, .slice C3 y.row.row.length n3, .string y.row.col, .int .i64 y.row.v.kind, .int .i64 y.row.v.int, .string y.row.v.text] 43))); clear a5 y5 f5)
        | (go_at_call 11; (with_reducible refine (HPY.out _ _ _ _ _ _ _ H5.out G5.out.1 G5.out.2).mono ?_); rintro e w8 ⟨rfl, a8⟩; have H8 := Lib.hid (H5.out.trans a8); clear a8)
        | (go_at_call 8; (with_reducible refine (HPA.out _ H8.out).mono ?_); rintro e w6 ⟨rfl, a6⟩; have H6 := Lib.hid (H8.out.trans a6); clear a6)
        | (go_at_call 13; (with_reducible refine (HPI.out _ H6.out).mono ?_); rintro e w7 ⟨rfl, a7⟩; have H7 := Lib.hid (H6.out.trans a7); clear a7))
      all_goals go_ret
      · first | exact ⟨by simp, HAW.out.trans H7.out⟩ | exact ⟨rfl, HAW.out.trans H1.out⟩
      · first | exact ⟨by simp, HAW.out.trans H7.out⟩ | exact ⟨rfl, HAW.out.trans H1.out⟩
end Go.Proofs.YtbdanlipghhgpaaGreatDoor

namespace Go.Proofs.YtbdanlipghhgpaaGreatDoor
open Go.ChangeShapes Go.WideShapes Go.ChangeAt Go.RowKit
set_option maxRecDepth 100000
set_option linter.unusedVariables false
section
variable {H : Type} {enc : TypeId × Value → H} {w : World}
theorem rd_str {cs : List Value} (h : Rd enc Tryz.prog w 9 cs) : ∃ x, StrR w cs x := by
  obtain ⟨s, e, z⟩ := h.string Tryz.underlying9
  exact ⟨s, e, z⟩
theorem rd_strs {cs : List Value} (h : Rd enc Tryz.prog w 26 cs) : ∃ l, SlOf w 1 StrR cs l :=
  Rd.slice Tryz.underlying26 (by kernel_rfl : Tryz.prog.cellsOf 9 = 1) (by decide) (of_decide_eq_true (by kernel_rfl)) (fun _ h => rd_str h) h
theorem rd_col {cs : List Value} (h : Rd enc Tryz.prog w 67 cs) : ∃ x, ColR w cs x := by
  obtain ⟨hl, _⟩ := h.struct Tryz.underlying67
  rw [show Tryz.prog.cellsOf 67 = 3 by kernel_rfl] at hl
  match cs, hl with
  | [c0, c1, c2], _ =>
    have f0 := h.field Tryz.underlying67 0 9 0 1 rfl (by kernel_rfl)
    have f1 := h.field Tryz.underlying67 1 37 1 1 rfl (by kernel_rfl)
    have f2 := h.field Tryz.underlying67 2 4 2 1 rfl (by kernel_rfl)
    clear h
    obtain ⟨x0, e0, z0⟩ := f0.string Tryz.underlying9
    obtain ⟨x1, e1, _⟩ := f1.int Tryz.underlying37
    obtain ⟨x2, e2⟩ := f2.bool Tryz.underlying4
    simp at e0 e1 e2
    subst e0 e1 e2
    exact ⟨⟨x0, x1, x2⟩, rfl, z0⟩
theorem rd_cols {cs : List Value} (h : Rd enc Tryz.prog w 24 cs) : ∃ l, SlOf w 3 ColR cs l :=
  Rd.slice Tryz.underlying24 (by kernel_rfl : Tryz.prog.cellsOf 67 = 3) (by decide) (of_decide_eq_true (by kernel_rfl)) (fun _ h => rd_col h) h
theorem rd_rule {cs : List Value} (h : Rd enc Tryz.prog w 28 cs) : ∃ x, RulR w cs x := by
  obtain ⟨hl, _⟩ := h.struct Tryz.underlying28
  rw [show Tryz.prog.cellsOf 28 = 8 by kernel_rfl] at hl
  match cs, hl with
  | [c0, c1, c2, c3, c4, c5, c6, c7], _ =>
    have f0 := h.field Tryz.underlying28 0 9 0 1 rfl (by kernel_rfl)
    have f1 := h.field Tryz.underlying28 1 25 1 1 rfl (by kernel_rfl)
    have f2 := h.field Tryz.underlying28 2 26 2 1 rfl (by kernel_rfl)
    have f3 := h.field Tryz.underlying28 3 3 3 1 rfl (by kernel_rfl)
    have f4 := h.field Tryz.underlying28 4 3 4 1 rfl (by kernel_rfl)
    have f5 := h.field Tryz.underlying28 5 9 5 1 rfl (by kernel_rfl)
    have f6 := h.field Tryz.underlying28 6 9 6 1 rfl (by kernel_rfl)
    have f7 := h.field Tryz.underlying28 7 9 7 1 rfl (by kernel_rfl)
    clear h
    obtain ⟨x0, e0, z0⟩ := f0.string Tryz.underlying9
    obtain ⟨x1, e1, _⟩ := f1.int Tryz.underlying25
    obtain ⟨x2, A2, cap2, e2, z2⟩ := rd_strs f2
    obtain ⟨x3, e3, _⟩ := f3.int Tryz.underlying3
    obtain ⟨x4, e4, _⟩ := f4.int Tryz.underlying3
    obtain ⟨x5, e5, z5⟩ := f5.string Tryz.underlying9
    obtain ⟨x6, e6, z6⟩ := f6.string Tryz.underlying9
    obtain ⟨x7, e7, z7⟩ := f7.string Tryz.underlying9
    simp at e0 e1 e2 e3 e4 e5 e6 e7
    subst e0 e1 e2 e3 e4 e5 e6 e7
    exact ⟨⟨x0, x1, x2, x3, x4, x5, x6, x7⟩, A2, cap2, rfl, z2, z0, z5, z6, z7⟩
end
end Go.Proofs.YtbdanlipghhgpaaGreatDoor

namespace Go.Proofs.YtbdanlipghhgpaaGreatDoor
open Go.ChangeShapes Go.WideShapes Go.ChangeAt Go.RowKit
set_option maxRecDepth 100000
set_option linter.unusedVariables false
section
variable {H : Type} {enc : TypeId × Value → H} {w : World}
theorem rd_val {cs : List Value} (h : Rd enc Tryz.prog w 39 cs) : ∃ x, ValR w cs x := by
  obtain ⟨hl, _⟩ := h.struct Tryz.underlying39
  rw [show Tryz.prog.cellsOf 39 = 3 by kernel_rfl] at hl
  match cs, hl with
  | [c0, c1, c2], _ =>
    have f0 := h.field Tryz.underlying39 0 37 0 1 rfl (by kernel_rfl)
    have f1 := h.field Tryz.underlying39 1 3 1 1 rfl (by kernel_rfl)
    have f2 := h.field Tryz.underlying39 2 9 2 1 rfl (by kernel_rfl)
    clear h
    obtain ⟨x0, e0, _⟩ := f0.int Tryz.underlying37
    obtain ⟨x1, e1, _⟩ := f1.int Tryz.underlying3
    obtain ⟨x2, e2, z2⟩ := f2.string Tryz.underlying9
    simp at e0 e1 e2
    subst e0 e1 e2
    exact ⟨⟨x0, x1, x2⟩, rfl, z2⟩
theorem rd_vals {cs : List Value} (h : Rd enc Tryz.prog w 36 cs) : ∃ l, SlOf w 3 ValR cs l :=
  Rd.slice Tryz.underlying36 (by kernel_rfl : Tryz.prog.cellsOf 39 = 3) (by decide) (of_decide_eq_true (by kernel_rfl)) (fun _ h => rd_val h) h
end
end Go.Proofs.YtbdanlipghhgpaaGreatDoor

namespace Go.Proofs.YtbdanlipghhgpaaGreatDoor
open Go.ChangeShapes Go.WideShapes Go.ChangeAt Go.RowKit
set_option maxRecDepth 100000
set_option linter.unusedVariables false
section
variable {H : Type} {enc : TypeId × Value → H} {w : World}
theorem rd_cmdD {cs : List Value} (h : Rd enc Tryz.prog w 31 cs) :
    ∃ (x : Cmd) (A : Option Addr) (k : Nat) (A2 : Option Addr) (k2 : Nat), cs = cmdV x A k A2 k2 ∧ SlAt w 3 ColR A k x.cols ∧ SlAt w 1 StrR A2 k2 x.rule.cols ∧ SmC x := by
  obtain ⟨hl, hf⟩ := h.struct Tryz.underlying31
  rw [show Tryz.prog.cellsOf 31 = 17 by kernel_rfl] at hl
  match cs, hl with
  | [c0, c1, c2, c3, c4, c5, c6, c7, c8, c9, c10, c11, c12, c13, c14, c15, c16], _ =>
    have f0 := h.field Tryz.underlying31 0 23 0 1 rfl (by kernel_rfl)
    have f1 := h.field Tryz.underlying31 1 9 1 1 rfl (by kernel_rfl)
    have f2 := h.field Tryz.underlying31 2 9 2 1 rfl (by kernel_rfl)
    have f3 := h.field Tryz.underlying31 3 9 3 1 rfl (by kernel_rfl)
    have f4 := h.field Tryz.underlying31 4 9 4 1 rfl (by kernel_rfl)
    have f5 := h.field Tryz.underlying31 5 9 5 1 rfl (by kernel_rfl)
    have f6 := h.field Tryz.underlying31 6 24 6 1 rfl (by kernel_rfl)
    have f7 := h.field Tryz.underlying31 7 28 7 8 rfl (by kernel_rfl)
    have f8 := h.field Tryz.underlying31 8 29 15 1 rfl (by kernel_rfl)
    have f9 := h.field Tryz.underlying31 9 4 16 1 rfl (by kernel_rfl)
    clear h hf
    obtain ⟨k, e0, _⟩ := f0.int Tryz.underlying23
    obtain ⟨s1, e1, z1⟩ := f1.string Tryz.underlying9
    obtain ⟨s2, e2, z2⟩ := f2.string Tryz.underlying9
    obtain ⟨s3, e3, z3⟩ := f3.string Tryz.underlying9
    obtain ⟨s4, e4, z4⟩ := f4.string Tryz.underlying9
    obtain ⟨s5, e5, z5⟩ := f5.string Tryz.underlying9
    obtain ⟨l6, A, c, e6, z6⟩ := rd_cols f6
    obtain ⟨r, e8, w8⟩ := f8.int Tryz.underlying29
    obtain ⟨o, e9⟩ := f9.bool Tryz.underlying4
    obtain ⟨ru, A2, cap2, e7, z7, y0, y5, y6, y7⟩ := rd_rule f7
    simp at e0 e1 e2 e3 e4 e5 e6 e7 e8 e9
    obtain ⟨d0, d1, d2, d3, d4, d5, d6, d7⟩ := e7
    subst e0 e1 e2 e3 e4 e5 e6 e8 e9 d0 d1 d2 d3 d4 d5 d6 d7
    exact ⟨⟨k, s1, s2, s3, s4, s5, l6, ru, r, o⟩, A, c, A2, cap2, rfl, z6, z7, ⟨z1, z2, z3, z4, z5, y0, y5, y6, y7⟩⟩
theorem rd_ropD {cs : List Value} (h : Rd enc Tryz.prog w 41 cs) : ∃ (x : ROp) (A : Option Addr) (k : Nat), cs = ropV x A k ∧ SlAt w 3 ValR A k x.row ∧ SmO x := by
  obtain ⟨hl, _⟩ := h.struct Tryz.underlying41
  rw [show Tryz.prog.cellsOf 41 = 9 by kernel_rfl] at hl
  match cs, hl with
  | [c0, c1, c2, c3, c4, c5, c6, c7, c8], _ =>
    have f0 := h.field Tryz.underlying41 0 35 0 1 rfl (by kernel_rfl)
    have f1 := h.field Tryz.underlying41 1 9 1 1 rfl (by kernel_rfl)
    have f2 := h.field Tryz.underlying41 2 9 2 1 rfl (by kernel_rfl)
    have f3 := h.field Tryz.underlying41 3 9 3 1 rfl (by kernel_rfl)
    have f4 := h.field Tryz.underlying41 4 36 4 1 rfl (by kernel_rfl)
    have f5 := h.field Tryz.underlying41 5 9 5 1 rfl (by kernel_rfl)
    have f6 := h.field Tryz.underlying41 6 39 6 3 rfl (by kernel_rfl)
    clear h
    obtain ⟨x0, e0, z0⟩ := f0.int Tryz.underlying35
    obtain ⟨x1, e1, z1⟩ := rd_str f1
    obtain ⟨x2, e2, z2⟩ := rd_str f2
    obtain ⟨x3, e3, z3⟩ := rd_str f3
    obtain ⟨x4, A, cap, e4, z4⟩ := rd_vals f4
    obtain ⟨x5, e5, z5⟩ := rd_str f5
    obtain ⟨x6, e6, z6⟩ := rd_val f6
    simp at e0 e1 e2 e3 e4 e5 e6
    obtain ⟨e6, e7, e8⟩ := e6
    subst e0 e1 e2 e3 e4 e5 e6 e7 e8
    exact ⟨⟨x0, x1, x2, x3, x4, x5, x6⟩, A, cap, rfl, z4, ⟨z1, z2, z3, z5, z6⟩⟩
theorem rd_act {cs : List Value} (h : Rd enc Tryz.prog w 43 cs) : ∃ (a : Dact) (A : Option Addr) (k : Nat) (A2 : Option Addr) (k2 : Nat) (A3 : Option Addr) (k3 : Nat), cs = actV a A k A2 k2 A3 k3 ∧ ActG w a A k A2 k2 A3 k3 := by
  obtain ⟨hl, _⟩ := h.struct Tryz.underlying43
  rw [show Tryz.prog.cellsOf 43 = 33 by kernel_rfl] at hl
  match cs, hl with
  | c0 :: c1 :: c2 :: c3 :: c4 :: c5 :: c6 :: c7 :: c8 :: c9 :: c10 :: c11 :: c12 :: c13 :: c14 :: c15 :: c16 :: c17 :: c18 :: c19 :: c20 :: c21 :: c22 :: c23 :: c24 :: c25 :: c26 :: c27 :: c28 :: c29 :: c30 :: c31 :: c32 :: [], _ =>
    have f0 := h.field Tryz.underlying43 0 22 0 1 rfl (by kernel_rfl)
    have f1 := h.field Tryz.underlying43 1 3 1 1 rfl (by kernel_rfl)
    have f2 := h.field Tryz.underlying43 2 3 2 1 rfl (by kernel_rfl)
    have f3 := h.field Tryz.underlying43 3 3 3 1 rfl (by kernel_rfl)
    have f4 := h.field Tryz.underlying43 4 3 4 1 rfl (by kernel_rfl)
    have f5 := h.field Tryz.underlying43 5 31 5 17 rfl (by kernel_rfl)
    have f6 := h.field Tryz.underlying43 6 34 22 2 rfl (by kernel_rfl)
    have f7 := h.field Tryz.underlying43 7 41 24 9 rfl (by kernel_rfl)
    clear h
    have g0 := f6.field Tryz.underlying34 0 32 0 1 rfl (by kernel_rfl)
    have g1 := f6.field Tryz.underlying34 1 3 1 1 rfl (by kernel_rfl)
    obtain ⟨x0, e0, z0⟩ := f0.int Tryz.underlying22
    obtain ⟨x1, e1, z1⟩ := f1.int Tryz.underlying3
    obtain ⟨x2, e2, z2⟩ := f2.int Tryz.underlying3
    obtain ⟨x3, e3, z3⟩ := f3.int Tryz.underlying3
    obtain ⟨x4, e4, z4⟩ := f4.int Tryz.underlying3
    obtain ⟨x, A, k, A2, k2, e5, y1, y2, y3⟩ := rd_cmdD f5
    obtain ⟨k0, e6, w6⟩ := g0.int Tryz.underlying32
    obtain ⟨k1, e7, w7⟩ := g1.int Tryz.underlying3
    obtain ⟨r, A3, k3, e8, u1, u2⟩ := rd_ropD f7
    have hw : -9223372036854775808 ≤ k0 ∧ k0 ≤ 9223372036854775807 := by simpa [Lit.wf, IntKind.min, IntKind.max, IntKind.signed, IntKind.bits] using w6
    refine ⟨⟨x0, x1, x2, x3, x4, x, k0, k1, r⟩, A, k, A2, k2, A3, k3, ?_, ⟨⟨y1, y2, u1, y3.rname, y3.rs, y3.rt, y3.rk⟩, y3, u2, hw.1, hw.2⟩⟩
    simp at e0 e1 e2 e3 e4 e6 e7
    simp only [List.drop_succ_cons, List.drop_zero, List.take_succ_cons, List.take_zero] at e5 e8
    unfold actV
    rw [← e5, ← e8, e0, e1, e2, e3, e4, e6, e7]
    rfl
end
end Go.Proofs.YtbdanlipghhgpaaGreatDoor

