/- Contracts of the program, part 16. -/
import Derived.Deep.RegionHeld3
import Derived.Deep.AppendLies
import Derived.Deep.Upon
import Derived.OneCell
import Derived.OwnWalk
import Derived.Laws.AppendOwn
import Derived.ProofKit
import Derived.OpenShut
import Derived.Deep.Slices
import Derived.ChangeOld
import Derived.SizedLaws
import Derived.WalkKit
import Derived.WalkSpells
import Derived.WalkLawsBesides
import Derived.Lib.Hide
import Derived.Deep.QuietTactic
import Derived.BigQuiet
import Derived.Below
import Derived.Deep.Draws
import Derived.StillTailTactics
import Derived.Laws.Cells
import Derived.Laws.IdiomCopy
import Derived.Test.YtgkhmnamkfgciaaGreatRows
import Derived.Lib.Bytealg
import Derived.WalkMore
import Derived.Deep.DeepMust
import Derived.Lib.Walk
import Derived.Laws.EntriesVeiled
import Derived.Maps.Own
import Derived.Maps.Views
import Derived.OrdersHeld
import Derived.IntWalk
import Derived.Lib.SliceRun
import Derived.Deep.RegionLaw
import Derived.Lib.AppendZerosOnto
import Derived.Lib.Overlaps
import Derived.Shelf.SlSortCmp.WholeK
import Derived.Laws.StructEq
import Derived.WideKeyEntry
import Derived.DeepKeys3
import Derived.ChangeKeys
import Derived.Test.YtgkhmnamkfgciaaGreatPartM1
import Derived.Test.YtgkhmnamkfgciaaGreatPartM2
import Derived.Test.YtgkhmnamkfgciaaGreatPartM3
import Derived.Test.YtgkhmnamkfgciaaGreatPartM4
import Derived.Test.YtgkhmnamkfgciaaGreatPartM5
import Derived.Test.YtgkhmnamkfgciaaGreatPartM6
import Derived.Test.YtgkhmnamkfgciaaGreatPartM7
import Derived.Test.YtgkhmnamkfgciaaGreatPartM8
import Derived.Test.YtgkhmnamkfgciaaGreatPartM9
import Derived.Test.YtgkhmnamkfgciaaGreatPartM10
import Derived.Test.YtgkhmnamkfgciaaGreatPartM11
import Derived.Test.YtgkhmnamkfgciaaGreatPartM12
import Derived.Test.YtgkhmnamkfgciaaGreatPartM13
import Derived.Test.YtgkhmnamkfgciaaGreatPartM14
import Derived.Test.YtgkhmnamkfgciaaGreatPartM15
namespace Go.Proofs.YtgkhmnamkfgciaaGreat
open Go.RowKit Go.Deep
set_option maxRecDepth 100000
set_option linter.unusedVariables false
/-- a command as it lies -/
structure ShC where
  kind : Int
  actor : ByteArray
  schema : ByteArray
  table : ByteArray
  name : ByteArray
  role : ByteArray
  A : Option Addr
  n : Nat
  c : Nat
  rname : ByteArray
  rkind : Int
  A2 : Option Addr
  n2 : Nat
  c2 : Nat
  low : Int
  high : Int
  rs : ByteArray
  rt : ByteArray
  rk : ByteArray
  right : Int
  opt : Bool
structure Opr where
  kind : Int
  client : Int
  number : Int
  cmd : ShC
  node : Int
  ask : Int
  seq : Int
def SmSh (x : ShC) : Prop := (x.actor.size ≤ 140737488351232 ∧ x.schema.size ≤ 140737488351232 ∧ x.table.size ≤ 140737488351232 ∧ x.name.size ≤ 140737488351232 ∧ x.role.size ≤ 140737488351232) ∧ x.rname.size ≤ 140737488351232 ∧ x.rs.size ≤ 140737488351232 ∧ x.rt.size ≤ 140737488351232 ∧ x.rk.size ≤ 140737488351232
def zeroB (x : ShC) : Bool := bareB x.rname x.rkind x.n2 x.low x.high x.rs x.rt x.rk && (x.kind == 0) && (emp x.actor && emp x.schema && emp x.table && emp x.name && emp x.role) && decide (x.n = 0) && (x.right == 0) && !x.opt
def silB (o : Opr) : Bool := (o.client == 0) && (o.number == 0) && zeroB o.cmd
def opMayB (o : Opr) : Bool :=
  if o.kind = 1 then wiB o.client 1 4 && numB o.number && (o.node == 0) && (o.ask == 0) && (o.seq == 0)
  else if o.kind = 2 then silB o && nodB o.node && numB o.ask && (o.seq == 0)
  else if o.kind = 3 then silB o && nodB o.node && numB o.seq && (o.ask == 0)
  else if o.kind = 4 then silB o && numB o.seq && (o.node == 0) && (o.ask == 0)
  else false
set_option maxHeartbeats 8000000 in
theorem mbare (x : ShC) (sm : SmSh x) (w : World) : Calls Tryz.prog 80 #[.agg #[.int .i64 x.kind, .string x.actor, .string x.schema, .string x.table, .string x.name, .string x.role, .slice x.A x.n x.c, .string x.rname, .int .i64 x.rkind, .slice x.A2 x.n2 x.c2, .int .i64 x.low, .int .i64 x.high, .string x.rs, .string x.rt, .string x.rk, .int .i64 x.right, .bool x.opt]] w fun e w' => e = .returned (.bool (zeroB x)) ∧ Aft w w' := by
  obtain ⟨kind, actor, schema, table, name, role, A, n, c, rname, rkind, A2, n2, c2, low, high, rs, rt, rk, right, opt⟩ := x
  obtain ⟨⟨h1, h2, h3, h4, h5⟩, h6, h7, h8, h9⟩ := sm
  simp only at h1 h2 h3 h4 h5 h6 h7 h8 h9 ⊢
  have HB := Lib.hid (show zeroB ⟨kind, actor, schema, table, name, role, A, n, c, rname, rkind, A2, n2, c2, low, high, rs, rt, rk, right, opt⟩ = ((decide (n2 = 0) && emp rname && emp rs && emp rt && emp rk && (rkind == 0) && (low == 0) && (high == 0)) && (kind == 0) && (emp actor && emp schema && emp table && emp name && emp role) && decide (n = 0) && (right == 0) && !opt) from rfl)
  have e1 : w.heap.size < w.heap.size + 1 := by omega
  have HA := Lib.hid (show ∀ o1, Aft w (w.alloc o1) from fun o1 => (Aft.refl _).alloc _)
  have HA2 := Lib.hid (show ∀ o1 o2, Aft w ((w.alloc o1).alloc o2) from fun o1 o2 => ((Aft.refl _).alloc _).alloc _)
  go_enter Tryz.func80, Tryz.ntmps80
  go_wp2_with fail
  all_goals
    go_ret
    refine ⟨Eq.trans (b := .returned (.bool _)) rfl (ret_of (bool_of ?_)), by first | exact HA2.out _ _ | exact HA.out _⟩
    rw [HB.out]
    clear HB HA HA2
    simp_all [emp, cat_nil_iff]
set_option maxHeartbeats 8000000 in
theorem rbare19 (x : ShC) (sm : SmSh x) (w : World) : Calls Tryz.prog 47 #[.agg #[.int .i64 x.kind, .string x.actor, .string x.schema, .string x.table, .string x.name, .string x.role, .slice x.A x.n x.c, .string x.rname, .int .i64 x.rkind, .slice x.A2 x.n2 x.c2, .int .i64 x.low, .int .i64 x.high, .string x.rs, .string x.rt, .string x.rk, .int .i64 x.right, .bool x.opt]] w fun e w' => e = .returned (.bool (zeroB x)) ∧ Aft w w' := by
  obtain ⟨kind, actor, schema, table, name, role, A, n, c, rname, rkind, A2, n2, c2, low, high, rs, rt, rk, right, opt⟩ := x
  obtain ⟨⟨h1, h2, h3, h4, h5⟩, h6, h7, h8, h9⟩ := sm
  simp only at h1 h2 h3 h4 h5 h6 h7 h8 h9 ⊢
  have HB := Lib.hid (show zeroB ⟨kind, actor, schema, table, name, role, A, n, c, rname, rkind, A2, n2, c2, low, high, rs, rt, rk, right, opt⟩ = ((decide (n2 = 0) && emp rname && emp rs && emp rt && emp rk && (rkind == 0) && (low == 0) && (high == 0)) && (kind == 0) && (emp actor && emp schema && emp table && emp name && emp role) && decide (n = 0) && (right == 0) && !opt) from rfl)
  have e1 : w.heap.size < w.heap.size + 1 := by omega
  have HA := Lib.hid (show ∀ o1, Aft w (w.alloc o1) from fun o1 => (Aft.refl _).alloc _)
  have HA2 := Lib.hid (show ∀ o1 o2, Aft w ((w.alloc o1).alloc o2) from fun o1 o2 => ((Aft.refl _).alloc _).alloc _)
  go_enter Tryz.func47, Tryz.ntmps47
  go_wp2_with fail
  all_goals
    go_ret
    refine ⟨Eq.trans (b := .returned (.bool _)) rfl (ret_of (bool_of ?_)), by first | exact HA2.out _ _ | exact HA.out _⟩
    rw [HB.out]
    clear HB HA HA2
    simp_all [emp, cat_nil_iff]
set_option maxHeartbeats 8000000 in
theorem msilent (o : Opr) (sm : SmSh o.cmd) (w : World) : Calls Tryz.prog 46 #[.agg #[.int .i64 o.kind, .int .i64 o.client, .int .i64 o.number, .int .i64 o.cmd.kind, .string o.cmd.actor, .string o.cmd.schema, .string o.cmd.table, .string o.cmd.name, .string o.cmd.role, .slice o.cmd.A o.cmd.n o.cmd.c, .string o.cmd.rname, .int .i64 o.cmd.rkind, .slice o.cmd.A2 o.cmd.n2 o.cmd.c2, .int .i64 o.cmd.low, .int .i64 o.cmd.high, .string o.cmd.rs, .string o.cmd.rt, .string o.cmd.rk, .int .i64 o.cmd.right, .bool o.cmd.opt, .int .i64 o.node, .int .i64 o.ask, .int .i64 o.seq]] w fun e w' => e = .returned (.bool (silB o)) ∧ Aft w w' := by
  obtain ⟨kind, client, number, cmd, node, ask, seq⟩ := o
  simp only at sm ⊢
  obtain ⟨b, hb⟩ : ∃ b, zeroB cmd = b := ⟨_, rfl⟩
  have CB := Lib.hid (fun V => hb ▸ mbare cmd sm V)
  have HR := Lib.hid (show silB (Opr.mk kind client number cmd node ask seq) = ((client == 0) && (number == 0) && b) by unfold silB; rw [hb])
  have HA := Lib.hid (show ∀ o1, Aft w (w.alloc o1) from fun o1 => (Aft.refl _).alloc _)
  clear hb
  by_cases h1 : client = 0
  case neg =>
    have HV := Lib.hid (show silB (Opr.mk kind client number cmd node ask seq) = false by rw [HR.out]; simp [h1])
    go_enter Tryz.func46, Tryz.ntmps46
    go_wp2_with fail
    go_ret
    exact ⟨by rw [HV.out]; rfl, HA.out _⟩
  subst h1
  by_cases h2 : number = 0
  case neg =>
    have HV := Lib.hid (show silB (Opr.mk kind 0 number cmd node ask seq) = false by rw [HR.out]; simp [h2])
    go_enter Tryz.func46, Tryz.ntmps46
    go_wp2_with fail
    go_ret
    exact ⟨by rw [HV.out]; rfl, HA.out _⟩
  subst h2
  have HV := Lib.hid (show silB (Opr.mk kind 0 0 cmd node ask seq) = b by rw [HR.out]; rfl)
  clear HR
  go_enter Tryz.func46, Tryz.ntmps46
  go_wp2_with fail
  refine (CB.out _).mono ?_
  rintro e w1 ⟨rfl, a1⟩
  have A1 := Lib.hid ((HA.out _).trans a1)
  clear a1
  go_wp2_with fail
  go_ret
  exact ⟨by rw [HV.out]; rfl, A1.out⟩
set_option maxHeartbeats 16000000 in
theorem mmay (o : Opr) (sm : SmSh o.cmd) (w : World) : Calls Tryz.prog 15 #[.agg #[.int .i64 o.kind, .int .i64 o.client, .int .i64 o.number, .int .i64 o.cmd.kind, .string o.cmd.actor, .string o.cmd.schema, .string o.cmd.table, .string o.cmd.name, .string o.cmd.role, .slice o.cmd.A o.cmd.n o.cmd.c, .string o.cmd.rname, .int .i64 o.cmd.rkind, .slice o.cmd.A2 o.cmd.n2 o.cmd.c2, .int .i64 o.cmd.low, .int .i64 o.cmd.high, .string o.cmd.rs, .string o.cmd.rt, .string o.cmd.rk, .int .i64 o.cmd.right, .bool o.cmd.opt, .int .i64 o.node, .int .i64 o.ask, .int .i64 o.seq]] w fun e w' => e = .returned (.bool (opMayB o)) ∧ Aft w w' := by
  obtain ⟨kind, client, number, cmd, node, ask, seq⟩ := o
  simp only at sm ⊢
  obtain ⟨s, hs⟩ : ∃ b, silB (Opr.mk kind client number cmd node ask seq) = b := ⟨_, rfl⟩
  obtain ⟨b1, hb1⟩ : ∃ b, wiB client 1 4 = b := ⟨_, rfl⟩
  obtain ⟨b2, hb2⟩ : ∃ b, numB number = b := ⟨_, rfl⟩
  obtain ⟨b3, hb3⟩ : ∃ b, nodB node = b := ⟨_, rfl⟩
  obtain ⟨b4, hb4⟩ : ∃ b, numB ask = b := ⟨_, rfl⟩
  obtain ⟨b5, hb5⟩ : ∃ b, numB seq = b := ⟨_, rfl⟩
  have C1 := Lib.hid (fun V => hb1 ▸ mwithin client 1 4 V)
  have C2 := Lib.hid (fun V => hb2 ▸ mnumber number V)
  have C3 := Lib.hid (fun V => hb3 ▸ mnode node V)
  have C4 := Lib.hid (fun V => hb4 ▸ mnumber ask V)
  have C5 := Lib.hid (fun V => hb5 ▸ mnumber seq V)
  have CS := Lib.hid (fun V => hs ▸ msilent (Opr.mk kind client number cmd node ask seq) sm V)
  obtain ⟨r, hr⟩ : ∃ b, opMayB (Opr.mk kind client number cmd node ask seq) = b := ⟨_, rfl⟩
  have HR := Lib.hid (show r = (if kind = 1 then b1 && b2 && (node == 0) && (ask == 0) && (seq == 0) else if kind = 2 then s && b3 && b4 && (seq == 0) else if kind = 3 then s && b3 && b5 && (ask == 0) else if kind = 4 then s && b5 && (node == 0) && (ask == 0) else false) by rw [← hr, ← hs, ← hb1, ← hb2, ← hb3, ← hb4, ← hb5]; rfl)
  have HA := Lib.hid (show ∀ o1, Aft w (w.alloc o1) from fun o1 => (Aft.refl _).alloc _)
  rw [hr]
  clear hs hb1 hb2 hb3 hb4 hb5 hr
  by_cases h1 : kind = 1
  case pos =>
    subst h1
    have HV := Lib.hid (show r = (b1 && b2 && (node == 0) && (ask == 0) && (seq == 0)) by rw [HR.out, if_pos rfl])
    clear HR
    go_enter Tryz.func15, Tryz.ntmps15
    go_wp2_with fail
    refine (C1.out _).mono ?_
    rintro e w1 ⟨rfl, rfl⟩
    cases b1
    case false =>
      go_wp2_with fail
      go_ret
      exact ⟨by rw [HV.out]; first | rfl | simp, HA.out _⟩
    go_wp2_with fail
    refine (C2.out _).mono ?_
    rintro e w2 ⟨rfl, rfl⟩
    cases b2
    case false =>
      go_wp2_with fail
      go_ret
      exact ⟨by rw [HV.out]; first | rfl | simp, HA.out _⟩
    go_wp2_with fail
    all_goals
      go_ret
      refine ⟨Eq.trans (b := .returned (.bool _)) rfl (ret_of (bool_of ?_)), HA.out _⟩
      rw [HV.out]
      simp_all
  by_cases h2 : kind = 2
  case pos =>
    subst h2
    have HV := Lib.hid (show r = (s && b3 && b4 && (seq == 0)) by rw [HR.out, if_neg (by decide), if_pos rfl])
    clear HR
    go_enter Tryz.func15, Tryz.ntmps15
    obtain ⟨W, hW⟩ : ∃ W, W = w.alloc (.cells #[.int .i64 2, .int .i64 client, .int .i64 number, .int .i64 cmd.kind, .string cmd.actor, .string cmd.schema, .string cmd.table, .string cmd.name, .string cmd.role, .slice cmd.A cmd.n cmd.c, .string cmd.rname, .int .i64 cmd.rkind, .slice cmd.A2 cmd.n2 cmd.c2, .int .i64 cmd.low, .int .i64 cmd.high, .string cmd.rs, .string cmd.rt, .string cmd.rk, .int .i64 cmd.right, .bool cmd.opt, .int .i64 node, .int .i64 ask, .int .i64 seq] 47) := ⟨_, rfl⟩
    have aW : Aft w W := by rw [hW]; exact (Aft.refl _).alloc _
    have r0 : RowAt W w.heap.size [.int .i64 2, .int .i64 client, .int .i64 number, .int .i64 cmd.kind, .string cmd.actor, .string cmd.schema, .string cmd.table, .string cmd.name, .string cmd.role, .slice cmd.A cmd.n cmd.c, .string cmd.rname, .int .i64 cmd.rkind, .slice cmd.A2 cmd.n2 cmd.c2, .int .i64 cmd.low, .int .i64 cmd.high, .string cmd.rs, .string cmd.rt, .string cmd.rk, .int .i64 cmd.right, .bool cmd.opt, .int .i64 node, .int .i64 ask, .int .i64 seq] := by rw [hW]; exact box_row2 (Aft.refl _)
    go_wp2_with fail
    rw [← hW]
    clear hW
    refine (CS.out _).mono ?_
    rintro e w7 ⟨rfl, a7⟩
    have A7 := Lib.hid (aW.trans a7)
    have R1 := r0.aft a7
    have x20 := R1.cell (j := 20) rfl
    have x21 := R1.cell (j := 21) rfl
    have x22 := R1.cell (j := 22) rfl
    have xz := R1.1
    clear R1 r0 aW a7
    cases s
    case false =>
      go_wp2_with fail
      go_ret
      exact ⟨by rw [HV.out]; first | rfl | simp, A7.out⟩
    go_wp2_with fail
    refine (C3.out _).mono ?_
    rintro e w3 ⟨rfl, rfl⟩
    cases b3
    case false =>
      go_wp2_with fail
      go_ret
      exact ⟨by rw [HV.out]; first | rfl | simp, A7.out⟩
    go_wp2_with fail
    refine (C4.out _).mono ?_
    rintro e w4 ⟨rfl, rfl⟩
    cases b4
    case false =>
      go_wp2_with fail
      go_ret
      exact ⟨by rw [HV.out]; first | rfl | simp, A7.out⟩
    go_wp2_with fail
    all_goals
      go_ret
      refine ⟨Eq.trans (b := .returned (.bool _)) rfl (ret_of (bool_of ?_)), A7.out⟩
      rw [HV.out]
      simp_all
  by_cases h3 : kind = 3
  case pos =>
    subst h3
    have HV := Lib.hid (show r = (s && b3 && b5 && (ask == 0)) by rw [HR.out, if_neg (by decide), if_neg (by decide), if_pos rfl])
    clear HR
    go_enter Tryz.func15, Tryz.ntmps15
    obtain ⟨W, hW⟩ : ∃ W, W = w.alloc (.cells #[.int .i64 3, .int .i64 client, .int .i64 number, .int .i64 cmd.kind, .string cmd.actor, .string cmd.schema, .string cmd.table, .string cmd.name, .string cmd.role, .slice cmd.A cmd.n cmd.c, .string cmd.rname, .int .i64 cmd.rkind, .slice cmd.A2 cmd.n2 cmd.c2, .int .i64 cmd.low, .int .i64 cmd.high, .string cmd.rs, .string cmd.rt, .string cmd.rk, .int .i64 cmd.right, .bool cmd.opt, .int .i64 node, .int .i64 ask, .int .i64 seq] 47) := ⟨_, rfl⟩
    have aW : Aft w W := by rw [hW]; exact (Aft.refl _).alloc _
    have r0 : RowAt W w.heap.size [.int .i64 3, .int .i64 client, .int .i64 number, .int .i64 cmd.kind, .string cmd.actor, .string cmd.schema, .string cmd.table, .string cmd.name, .string cmd.role, .slice cmd.A cmd.n cmd.c, .string cmd.rname, .int .i64 cmd.rkind, .slice cmd.A2 cmd.n2 cmd.c2, .int .i64 cmd.low, .int .i64 cmd.high, .string cmd.rs, .string cmd.rt, .string cmd.rk, .int .i64 cmd.right, .bool cmd.opt, .int .i64 node, .int .i64 ask, .int .i64 seq] := by rw [hW]; exact box_row2 (Aft.refl _)
    go_wp2_with fail
    rw [← hW]
    clear hW
    refine (CS.out _).mono ?_
    rintro e w7 ⟨rfl, a7⟩
    have A7 := Lib.hid (aW.trans a7)
    have R1 := r0.aft a7
    have x20 := R1.cell (j := 20) rfl
    have x21 := R1.cell (j := 21) rfl
    have x22 := R1.cell (j := 22) rfl
    have xz := R1.1
    clear R1 r0 aW a7
    cases s
    case false =>
      go_wp2_with fail
      go_ret
      exact ⟨by rw [HV.out]; first | rfl | simp, A7.out⟩
    go_wp2_with fail
    refine (C3.out _).mono ?_
    rintro e w3 ⟨rfl, rfl⟩
    cases b3
    case false =>
      go_wp2_with fail
      go_ret
      exact ⟨by rw [HV.out]; first | rfl | simp, A7.out⟩
    go_wp2_with fail
    refine (C5.out _).mono ?_
    rintro e w5 ⟨rfl, rfl⟩
    cases b5
    case false =>
      go_wp2_with fail
      go_ret
      exact ⟨by rw [HV.out]; first | rfl | simp, A7.out⟩
    go_wp2_with fail
    all_goals
      go_ret
      refine ⟨Eq.trans (b := .returned (.bool _)) rfl (ret_of (bool_of ?_)), A7.out⟩
      rw [HV.out]
      simp_all
  by_cases h4 : kind = 4
  case pos =>
    subst h4
    have HV := Lib.hid (show r = (s && b5 && (node == 0) && (ask == 0)) by rw [HR.out, if_neg (by decide), if_neg (by decide), if_neg (by decide), if_pos rfl])
    clear HR
    go_enter Tryz.func15, Tryz.ntmps15
    obtain ⟨W, hW⟩ : ∃ W, W = w.alloc (.cells #[.int .i64 4, .int .i64 client, .int .i64 number, .int .i64 cmd.kind, .string cmd.actor, .string cmd.schema, .string cmd.table, .string cmd.name, .string cmd.role, .slice cmd.A cmd.n cmd.c, .string cmd.rname, .int .i64 cmd.rkind, .slice cmd.A2 cmd.n2 cmd.c2, .int .i64 cmd.low, .int .i64 cmd.high, .string cmd.rs, .string cmd.rt, .string cmd.rk, .int .i64 cmd.right, .bool cmd.opt, .int .i64 node, .int .i64 ask, .int .i64 seq] 47) := ⟨_, rfl⟩
    have aW : Aft w W := by rw [hW]; exact (Aft.refl _).alloc _
    have r0 : RowAt W w.heap.size [.int .i64 4, .int .i64 client, .int .i64 number, .int .i64 cmd.kind, .string cmd.actor, .string cmd.schema, .string cmd.table, .string cmd.name, .string cmd.role, .slice cmd.A cmd.n cmd.c, .string cmd.rname, .int .i64 cmd.rkind, .slice cmd.A2 cmd.n2 cmd.c2, .int .i64 cmd.low, .int .i64 cmd.high, .string cmd.rs, .string cmd.rt, .string cmd.rk, .int .i64 cmd.right, .bool cmd.opt, .int .i64 node, .int .i64 ask, .int .i64 seq] := by rw [hW]; exact box_row2 (Aft.refl _)
    go_wp2_with fail
    rw [← hW]
    clear hW
    refine (CS.out _).mono ?_
    rintro e w7 ⟨rfl, a7⟩
    have A7 := Lib.hid (aW.trans a7)
    have R1 := r0.aft a7
    have x20 := R1.cell (j := 20) rfl
    have x21 := R1.cell (j := 21) rfl
    have x22 := R1.cell (j := 22) rfl
    have xz := R1.1
    clear R1 r0 aW a7
    cases s
    case false =>
      go_wp2_with fail
      go_ret
      exact ⟨by rw [HV.out]; first | rfl | simp, A7.out⟩
    go_wp2_with fail
    refine (C5.out _).mono ?_
    rintro e w5 ⟨rfl, rfl⟩
    cases b5
    case false =>
      go_wp2_with fail
      go_ret
      exact ⟨by rw [HV.out]; first | rfl | simp, A7.out⟩
    go_wp2_with fail
    all_goals
      go_ret
      refine ⟨Eq.trans (b := .returned (.bool _)) rfl (ret_of (bool_of ?_)), A7.out⟩
      rw [HV.out]
      simp_all
  have HV := Lib.hid (show r = false by rw [HR.out, if_neg h1, if_neg h2, if_neg h3, if_neg h4])
  clear HR
  go_enter Tryz.func15, Tryz.ntmps15
  go_wp2_with fail
  go_ret
  exact ⟨by rw [HV.out]; first | rfl | simp, HA.out _⟩
set_option maxHeartbeats 16000000 in
theorem rmay19 (o : Opr) (sm : SmSh o.cmd) (w : World) : Calls Tryz.prog 16 #[.agg #[.int .i64 o.kind, .int .i64 o.client, .int .i64 o.number, .int .i64 o.cmd.kind, .string o.cmd.actor, .string o.cmd.schema, .string o.cmd.table, .string o.cmd.name, .string o.cmd.role, .slice o.cmd.A o.cmd.n o.cmd.c, .string o.cmd.rname, .int .i64 o.cmd.rkind, .slice o.cmd.A2 o.cmd.n2 o.cmd.c2, .int .i64 o.cmd.low, .int .i64 o.cmd.high, .string o.cmd.rs, .string o.cmd.rt, .string o.cmd.rk, .int .i64 o.cmd.right, .bool o.cmd.opt, .int .i64 o.node, .int .i64 o.ask, .int .i64 o.seq]] w fun e w' => e = .returned (.bool (opMayB o)) ∧ Aft w w' := by
  obtain ⟨kind, client, number, cmd, node, ask, seq⟩ := o
  simp only at sm ⊢
  obtain ⟨s, hs⟩ : ∃ b, silB (Opr.mk kind client number cmd node ask seq) = b := ⟨_, rfl⟩
  obtain ⟨b1, hb1⟩ : ∃ b, wiB client 1 4 = b := ⟨_, rfl⟩
  obtain ⟨b2, hb2⟩ : ∃ b, numB number = b := ⟨_, rfl⟩
  obtain ⟨b3, hb3⟩ : ∃ b, nodB node = b := ⟨_, rfl⟩
  obtain ⟨b4, hb4⟩ : ∃ b, numB ask = b := ⟨_, rfl⟩
  obtain ⟨b5, hb5⟩ : ∃ b, numB seq = b := ⟨_, rfl⟩
  have C1 := Lib.hid (fun V => hb1 ▸ rwithin client 1 4 V)
  have C2 := Lib.hid (fun V => hb2 ▸ rnumber number V)
  have C3 := Lib.hid (fun V => hb3 ▸ rnode node V)
  have C4 := Lib.hid (fun V => hb4 ▸ rnumber ask V)
  have C5 := Lib.hid (fun V => hb5 ▸ rnumber seq V)
  obtain ⟨z, hz⟩ : ∃ b, zeroB cmd = b := ⟨_, rfl⟩
  have CZ := Lib.hid (fun V => hz ▸ rbare19 cmd sm V)
  have HS := Lib.hid (show s = ((client == 0) && (number == 0) && z) by rw [← hs, ← hz]; rfl)
  obtain ⟨r, hr⟩ : ∃ b, opMayB (Opr.mk kind client number cmd node ask seq) = b := ⟨_, rfl⟩
  have HR := Lib.hid (show r = (if kind = 1 then b1 && b2 && (node == 0) && (ask == 0) && (seq == 0) else if kind = 2 then s && b3 && b4 && (seq == 0) else if kind = 3 then s && b3 && b5 && (ask == 0) else if kind = 4 then s && b5 && (node == 0) && (ask == 0) else false) by rw [← hr, ← hs, ← hb1, ← hb2, ← hb3, ← hb4, ← hb5]; rfl)
  have HA := Lib.hid (show ∀ o1, Aft w (w.alloc o1) from fun o1 => (Aft.refl _).alloc _)
  rw [hr]
  clear hs hb1 hb2 hb3 hb4 hb5 hr hz
  by_cases c1 : client = 0
  case neg =>
    have hsf : s = false := by rw [HS.out]; simp [c1]
    subst hsf
    clear HS CZ
    by_cases h1 : kind = 1
    case pos =>
      subst h1
      have HV := Lib.hid (show r = (b1 && b2 && (node == 0) && (ask == 0) && (seq == 0)) by rw [HR.out, if_pos rfl])
      clear HR
      go_enter Tryz.func16, Tryz.ntmps16
      go_wp2_with fail
      refine (C1.out _).mono ?_
      rintro e w1 ⟨rfl, rfl⟩
      cases b1
      case false =>
        go_wp2_with fail
        go_ret
        exact ⟨by rw [HV.out]; first | rfl | simp, HA.out _⟩
      go_wp2_with fail
      refine (C2.out _).mono ?_
      rintro e w2 ⟨rfl, rfl⟩
      cases b2
      case false =>
        go_wp2_with fail
        go_ret
        exact ⟨by rw [HV.out]; first | rfl | simp, HA.out _⟩
      go_wp2_with fail
      all_goals
        go_ret
        refine ⟨Eq.trans (b := .returned (.bool _)) rfl (ret_of (bool_of ?_)), HA.out _⟩
        rw [HV.out]
        simp_all
    by_cases h2 : kind = 2
    case pos =>
      subst h2
      have HV := Lib.hid (show r = (false && b3 && b4 && (seq == 0)) by rw [HR.out, if_neg (by decide), if_pos rfl])
      clear HR
      go_enter Tryz.func16, Tryz.ntmps16
      go_wp2_with fail
      go_ret
      exact ⟨by rw [HV.out]; first | rfl | simp, HA.out _⟩
    by_cases h3 : kind = 3
    case pos =>
      subst h3
      have HV := Lib.hid (show r = (false && b3 && b5 && (ask == 0)) by rw [HR.out, if_neg (by decide), if_neg (by decide), if_pos rfl])
      clear HR
      go_enter Tryz.func16, Tryz.ntmps16
      go_wp2_with fail
      go_ret
      exact ⟨by rw [HV.out]; first | rfl | simp, HA.out _⟩
    by_cases h4 : kind = 4
    case pos =>
      subst h4
      have HV := Lib.hid (show r = (false && b5 && (node == 0) && (ask == 0)) by rw [HR.out, if_neg (by decide), if_neg (by decide), if_neg (by decide), if_pos rfl])
      clear HR
      go_enter Tryz.func16, Tryz.ntmps16
      go_wp2_with fail
      go_ret
      exact ⟨by rw [HV.out]; first | rfl | simp, HA.out _⟩
    have HV := Lib.hid (show r = false by rw [HR.out, if_neg h1, if_neg h2, if_neg h3, if_neg h4])
    clear HR
    go_enter Tryz.func16, Tryz.ntmps16
    go_wp2_with fail
    go_ret
    exact ⟨by rw [HV.out]; first | rfl | simp, HA.out _⟩
  subst c1
  by_cases c2 : number = 0
  case neg =>
    have hsf : s = false := by rw [HS.out]; simp [c2]
    subst hsf
    clear HS CZ
    by_cases h1 : kind = 1
    case pos =>
      subst h1
      have HV := Lib.hid (show r = (b1 && b2 && (node == 0) && (ask == 0) && (seq == 0)) by rw [HR.out, if_pos rfl])
      clear HR
      go_enter Tryz.func16, Tryz.ntmps16
      go_wp2_with fail
      refine (C1.out _).mono ?_
      rintro e w1 ⟨rfl, rfl⟩
      cases b1
      case false =>
        go_wp2_with fail
        go_ret
        exact ⟨by rw [HV.out]; first | rfl | simp, HA.out _⟩
      go_wp2_with fail
      refine (C2.out _).mono ?_
      rintro e w2 ⟨rfl, rfl⟩
      cases b2
      case false =>
        go_wp2_with fail
        go_ret
        exact ⟨by rw [HV.out]; first | rfl | simp, HA.out _⟩
      go_wp2_with fail
      all_goals
        go_ret
        refine ⟨Eq.trans (b := .returned (.bool _)) rfl (ret_of (bool_of ?_)), HA.out _⟩
        rw [HV.out]
        simp_all
    by_cases h2 : kind = 2
    case pos =>
      subst h2
      have HV := Lib.hid (show r = (false && b3 && b4 && (seq == 0)) by rw [HR.out, if_neg (by decide), if_pos rfl])
      clear HR
      go_enter Tryz.func16, Tryz.ntmps16
      go_wp2_with fail
      go_ret
      exact ⟨by rw [HV.out]; first | rfl | simp, HA.out _⟩
    by_cases h3 : kind = 3
    case pos =>
      subst h3
      have HV := Lib.hid (show r = (false && b3 && b5 && (ask == 0)) by rw [HR.out, if_neg (by decide), if_neg (by decide), if_pos rfl])
      clear HR
      go_enter Tryz.func16, Tryz.ntmps16
      go_wp2_with fail
      go_ret
      exact ⟨by rw [HV.out]; first | rfl | simp, HA.out _⟩
    by_cases h4 : kind = 4
    case pos =>
      subst h4
      have HV := Lib.hid (show r = (false && b5 && (node == 0) && (ask == 0)) by rw [HR.out, if_neg (by decide), if_neg (by decide), if_neg (by decide), if_pos rfl])
      clear HR
      go_enter Tryz.func16, Tryz.ntmps16
      go_wp2_with fail
      go_ret
      exact ⟨by rw [HV.out]; first | rfl | simp, HA.out _⟩
    have HV := Lib.hid (show r = false by rw [HR.out, if_neg h1, if_neg h2, if_neg h3, if_neg h4])
    clear HR
    go_enter Tryz.func16, Tryz.ntmps16
    go_wp2_with fail
    go_ret
    exact ⟨by rw [HV.out]; first | rfl | simp, HA.out _⟩
  subst c2
  have hsz : s = z := by rw [HS.out]; rfl
  subst hsz
  clear HS
  by_cases h1 : kind = 1
  case pos =>
    subst h1
    have HV := Lib.hid (show r = (b1 && b2 && (node == 0) && (ask == 0) && (seq == 0)) by rw [HR.out, if_pos rfl])
    clear HR
    go_enter Tryz.func16, Tryz.ntmps16
    obtain ⟨W, hW⟩ : ∃ W, W = w.alloc (.cells #[.int .i64 1, .int .i64 0, .int .i64 0, .int .i64 cmd.kind, .string cmd.actor, .string cmd.schema, .string cmd.table, .string cmd.name, .string cmd.role, .slice cmd.A cmd.n cmd.c, .string cmd.rname, .int .i64 cmd.rkind, .slice cmd.A2 cmd.n2 cmd.c2, .int .i64 cmd.low, .int .i64 cmd.high, .string cmd.rs, .string cmd.rt, .string cmd.rk, .int .i64 cmd.right, .bool cmd.opt, .int .i64 node, .int .i64 ask, .int .i64 seq] 47) := ⟨_, rfl⟩
    have aW : Aft w W := by rw [hW]; exact (Aft.refl _).alloc _
    have r0 : RowAt W w.heap.size [.int .i64 1, .int .i64 0, .int .i64 0, .int .i64 cmd.kind, .string cmd.actor, .string cmd.schema, .string cmd.table, .string cmd.name, .string cmd.role, .slice cmd.A cmd.n cmd.c, .string cmd.rname, .int .i64 cmd.rkind, .slice cmd.A2 cmd.n2 cmd.c2, .int .i64 cmd.low, .int .i64 cmd.high, .string cmd.rs, .string cmd.rt, .string cmd.rk, .int .i64 cmd.right, .bool cmd.opt, .int .i64 node, .int .i64 ask, .int .i64 seq] := by rw [hW]; exact box_row2 (Aft.refl _)
    go_wp2_with fail
    rw [← hW]
    clear hW
    refine (CZ.out _).mono ?_
    rintro e w7 ⟨rfl, a7⟩
    have A7 := Lib.hid (aW.trans a7)
    have R1 := r0.aft a7
    have x0 := R1.cell (j := 0) rfl
    have x1 := R1.cell (j := 1) rfl
    have x2 := R1.cell (j := 2) rfl
    have x20 := R1.cell (j := 20) rfl
    have x21 := R1.cell (j := 21) rfl
    have x22 := R1.cell (j := 22) rfl
    have xz := R1.1
    clear R1 r0 aW a7
    go_wp2_with fail
    refine (C1.out _).mono ?_
    rintro e w1 ⟨rfl, rfl⟩
    cases b1
    case false =>
      go_wp2_with fail
      go_ret
      exact ⟨by rw [HV.out]; first | rfl | simp, A7.out⟩
    go_wp2_with fail
    refine (C2.out _).mono ?_
    rintro e w2 ⟨rfl, rfl⟩
    cases b2
    case false =>
      go_wp2_with fail
      go_ret
      exact ⟨by rw [HV.out]; first | rfl | simp, A7.out⟩
    go_wp2_with fail
    all_goals
      go_ret
      refine ⟨Eq.trans (b := .returned (.bool _)) rfl (ret_of (bool_of ?_)), A7.out⟩
      rw [HV.out]
      simp_all
  by_cases h2 : kind = 2
  case pos =>
    subst h2
    have HV := Lib.hid (show r = (s && b3 && b4 && (seq == 0)) by rw [HR.out, if_neg (by decide), if_pos rfl])
    clear HR
    go_enter Tryz.func16, Tryz.ntmps16
    obtain ⟨W, hW⟩ : ∃ W, W = w.alloc (.cells #[.int .i64 2, .int .i64 0, .int .i64 0, .int .i64 cmd.kind, .string cmd.actor, .string cmd.schema, .string cmd.table, .string cmd.name, .string cmd.role, .slice cmd.A cmd.n cmd.c, .string cmd.rname, .int .i64 cmd.rkind, .slice cmd.A2 cmd.n2 cmd.c2, .int .i64 cmd.low, .int .i64 cmd.high, .string cmd.rs, .string cmd.rt, .string cmd.rk, .int .i64 cmd.right, .bool cmd.opt, .int .i64 node, .int .i64 ask, .int .i64 seq] 47) := ⟨_, rfl⟩
    have aW : Aft w W := by rw [hW]; exact (Aft.refl _).alloc _
    have r0 : RowAt W w.heap.size [.int .i64 2, .int .i64 0, .int .i64 0, .int .i64 cmd.kind, .string cmd.actor, .string cmd.schema, .string cmd.table, .string cmd.name, .string cmd.role, .slice cmd.A cmd.n cmd.c, .string cmd.rname, .int .i64 cmd.rkind, .slice cmd.A2 cmd.n2 cmd.c2, .int .i64 cmd.low, .int .i64 cmd.high, .string cmd.rs, .string cmd.rt, .string cmd.rk, .int .i64 cmd.right, .bool cmd.opt, .int .i64 node, .int .i64 ask, .int .i64 seq] := by rw [hW]; exact box_row2 (Aft.refl _)
    go_wp2_with fail
    rw [← hW]
    clear hW
    refine (CZ.out _).mono ?_
    rintro e w7 ⟨rfl, a7⟩
    have A7 := Lib.hid (aW.trans a7)
    have R1 := r0.aft a7
    have x0 := R1.cell (j := 0) rfl
    have x1 := R1.cell (j := 1) rfl
    have x2 := R1.cell (j := 2) rfl
    have x20 := R1.cell (j := 20) rfl
    have x21 := R1.cell (j := 21) rfl
    have x22 := R1.cell (j := 22) rfl
    have xz := R1.1
    clear R1 r0 aW a7
    cases s
    case false =>
      go_wp2_with fail
      go_ret
      exact ⟨by rw [HV.out]; first | rfl | simp, A7.out⟩
    go_wp2_with fail
    refine (C3.out _).mono ?_
    rintro e w3 ⟨rfl, rfl⟩
    cases b3
    case false =>
      go_wp2_with fail
      go_ret
      exact ⟨by rw [HV.out]; first | rfl | simp, A7.out⟩
    go_wp2_with fail
    refine (C4.out _).mono ?_
    rintro e w4 ⟨rfl, rfl⟩
    cases b4
    case false =>
      go_wp2_with fail
      go_ret
      exact ⟨by rw [HV.out]; first | rfl | simp, A7.out⟩
    go_wp2_with fail
    all_goals
      go_ret
      refine ⟨Eq.trans (b := .returned (.bool _)) rfl (ret_of (bool_of ?_)), A7.out⟩
      rw [HV.out]
      simp_all
  by_cases h3 : kind = 3
  case pos =>
    subst h3
    have HV := Lib.hid (show r = (s && b3 && b5 && (ask == 0)) by rw [HR.out, if_neg (by decide), if_neg (by decide), if_pos rfl])
    clear HR
    go_enter Tryz.func16, Tryz.ntmps16
    obtain ⟨W, hW⟩ : ∃ W, W = w.alloc (.cells #[.int .i64 3, .int .i64 0, .int .i64 0, .int .i64 cmd.kind, .string cmd.actor, .string cmd.schema, .string cmd.table, .string cmd.name, .string cmd.role, .slice cmd.A cmd.n cmd.c, .string cmd.rname, .int .i64 cmd.rkind, .slice cmd.A2 cmd.n2 cmd.c2, .int .i64 cmd.low, .int .i64 cmd.high, .string cmd.rs, .string cmd.rt, .string cmd.rk, .int .i64 cmd.right, .bool cmd.opt, .int .i64 node, .int .i64 ask, .int .i64 seq] 47) := ⟨_, rfl⟩
    have aW : Aft w W := by rw [hW]; exact (Aft.refl _).alloc _
    have r0 : RowAt W w.heap.size [.int .i64 3, .int .i64 0, .int .i64 0, .int .i64 cmd.kind, .string cmd.actor, .string cmd.schema, .string cmd.table, .string cmd.name, .string cmd.role, .slice cmd.A cmd.n cmd.c, .string cmd.rname, .int .i64 cmd.rkind, .slice cmd.A2 cmd.n2 cmd.c2, .int .i64 cmd.low, .int .i64 cmd.high, .string cmd.rs, .string cmd.rt, .string cmd.rk, .int .i64 cmd.right, .bool cmd.opt, .int .i64 node, .int .i64 ask, .int .i64 seq] := by rw [hW]; exact box_row2 (Aft.refl _)
    go_wp2_with fail
    rw [← hW]
    clear hW
    refine (CZ.out _).mono ?_
    rintro e w7 ⟨rfl, a7⟩
    have A7 := Lib.hid (aW.trans a7)
    have R1 := r0.aft a7
    have x0 := R1.cell (j := 0) rfl
    have x1 := R1.cell (j := 1) rfl
    have x2 := R1.cell (j := 2) rfl
    have x20 := R1.cell (j := 20) rfl
    have x21 := R1.cell (j := 21) rfl
    have x22 := R1.cell (j := 22) rfl
    have xz := R1.1
    clear R1 r0 aW a7
    cases s
    case false =>
      go_wp2_with fail
      go_ret
      exact ⟨by rw [HV.out]; first | rfl | simp, A7.out⟩
    go_wp2_with fail
    refine (C3.out _).mono ?_
    rintro e w3 ⟨rfl, rfl⟩
    cases b3
    case false =>
      go_wp2_with fail
      go_ret
      exact ⟨by rw [HV.out]; first | rfl | simp, A7.out⟩
    go_wp2_with fail
    refine (C5.out _).mono ?_
    rintro e w5 ⟨rfl, rfl⟩
    cases b5
    case false =>
      go_wp2_with fail
      go_ret
      exact ⟨by rw [HV.out]; first | rfl | simp, A7.out⟩
    go_wp2_with fail
    all_goals
      go_ret
      refine ⟨Eq.trans (b := .returned (.bool _)) rfl (ret_of (bool_of ?_)), A7.out⟩
      rw [HV.out]
      simp_all
  by_cases h4 : kind = 4
  case pos =>
    subst h4
    have HV := Lib.hid (show r = (s && b5 && (node == 0) && (ask == 0)) by rw [HR.out, if_neg (by decide), if_neg (by decide), if_neg (by decide), if_pos rfl])
    clear HR
    go_enter Tryz.func16, Tryz.ntmps16
    obtain ⟨W, hW⟩ : ∃ W, W = w.alloc (.cells #[.int .i64 4, .int .i64 0, .int .i64 0, .int .i64 cmd.kind, .string cmd.actor, .string cmd.schema, .string cmd.table, .string cmd.name, .string cmd.role, .slice cmd.A cmd.n cmd.c, .string cmd.rname, .int .i64 cmd.rkind, .slice cmd.A2 cmd.n2 cmd.c2, .int .i64 cmd.low, .int .i64 cmd.high, .string cmd.rs, .string cmd.rt, .string cmd.rk, .int .i64 cmd.right, .bool cmd.opt, .int .i64 node, .int .i64 ask, .int .i64 seq] 47) := ⟨_, rfl⟩
    have aW : Aft w W := by rw [hW]; exact (Aft.refl _).alloc _
    have r0 : RowAt W w.heap.size [.int .i64 4, .int .i64 0, .int .i64 0, .int .i64 cmd.kind, .string cmd.actor, .string cmd.schema, .string cmd.table, .string cmd.name, .string cmd.role, .slice cmd.A cmd.n cmd.c, .string cmd.rname, .int .i64 cmd.rkind, .slice cmd.A2 cmd.n2 cmd.c2, .int .i64 cmd.low, .int .i64 cmd.high, .string cmd.rs, .string cmd.rt, .string cmd.rk, .int .i64 cmd.right, .bool cmd.opt, .int .i64 node, .int .i64 ask, .int .i64 seq] := by rw [hW]; exact box_row2 (Aft.refl _)
    go_wp2_with fail
    rw [← hW]
    clear hW
    refine (CZ.out _).mono ?_
    rintro e w7 ⟨rfl, a7⟩
    have A7 := Lib.hid (aW.trans a7)
    have R1 := r0.aft a7
    have x0 := R1.cell (j := 0) rfl
    have x1 := R1.cell (j := 1) rfl
    have x2 := R1.cell (j := 2) rfl
    have x20 := R1.cell (j := 20) rfl
    have x21 := R1.cell (j := 21) rfl
    have x22 := R1.cell (j := 22) rfl
    have xz := R1.1
    clear R1 r0 aW a7
    cases s
    case false =>
      go_wp2_with fail
      go_ret
      exact ⟨by rw [HV.out]; first | rfl | simp, A7.out⟩
    go_wp2_with fail
    refine (C5.out _).mono ?_
    rintro e w5 ⟨rfl, rfl⟩
    cases b5
    case false =>
      go_wp2_with fail
      go_ret
      exact ⟨by rw [HV.out]; first | rfl | simp, A7.out⟩
    go_wp2_with fail
    all_goals
      go_ret
      refine ⟨Eq.trans (b := .returned (.bool _)) rfl (ret_of (bool_of ?_)), A7.out⟩
      rw [HV.out]
      simp_all
  have HV := Lib.hid (show r = false by rw [HR.out, if_neg h1, if_neg h2, if_neg h3, if_neg h4])
  clear HR
  go_enter Tryz.func16, Tryz.ntmps16
  obtain ⟨W, hW⟩ : ∃ W, W = w.alloc (.cells #[.int .i64 kind, .int .i64 0, .int .i64 0, .int .i64 cmd.kind, .string cmd.actor, .string cmd.schema, .string cmd.table, .string cmd.name, .string cmd.role, .slice cmd.A cmd.n cmd.c, .string cmd.rname, .int .i64 cmd.rkind, .slice cmd.A2 cmd.n2 cmd.c2, .int .i64 cmd.low, .int .i64 cmd.high, .string cmd.rs, .string cmd.rt, .string cmd.rk, .int .i64 cmd.right, .bool cmd.opt, .int .i64 node, .int .i64 ask, .int .i64 seq] 47) := ⟨_, rfl⟩
  have aW : Aft w W := by rw [hW]; exact (Aft.refl _).alloc _
  have r0 : RowAt W w.heap.size [.int .i64 kind, .int .i64 0, .int .i64 0, .int .i64 cmd.kind, .string cmd.actor, .string cmd.schema, .string cmd.table, .string cmd.name, .string cmd.role, .slice cmd.A cmd.n cmd.c, .string cmd.rname, .int .i64 cmd.rkind, .slice cmd.A2 cmd.n2 cmd.c2, .int .i64 cmd.low, .int .i64 cmd.high, .string cmd.rs, .string cmd.rt, .string cmd.rk, .int .i64 cmd.right, .bool cmd.opt, .int .i64 node, .int .i64 ask, .int .i64 seq] := by rw [hW]; exact box_row2 (Aft.refl _)
  go_wp2_with fail
  rw [← hW]
  clear hW
  refine (CZ.out _).mono ?_
  rintro e w7 ⟨rfl, a7⟩
  have A7 := Lib.hid (aW.trans a7)
  have R1 := r0.aft a7
  have x0 := R1.cell (j := 0) rfl
  have x1 := R1.cell (j := 1) rfl
  have x2 := R1.cell (j := 2) rfl
  have x20 := R1.cell (j := 20) rfl
  have x21 := R1.cell (j := 21) rfl
  have x22 := R1.cell (j := 22) rfl
  have xz := R1.1
  clear R1 r0 aW a7
  go_wp2_with fail
  go_ret
  exact ⟨by rw [HV.out]; first | rfl | simp, A7.out⟩
end Go.Proofs.YtgkhmnamkfgciaaGreat

namespace Go.Proofs.YtgkhmnamkfgciaaGreat
open Go.RowKit Go.Deep
set_option maxRecDepth 100000
set_option linter.unusedVariables false
set_option maxHeartbeats 8000000 in
theorem msameN (a b : Nat) (w : World) (Ha : CatAt w newC none 0 none 0 (some ⟨a, 0, none⟩) 1 none 0 none 0) (Hb : CatAt w newC none 0 none 0 (some ⟨b, 0, none⟩) 1 none 0 none 0) :
    Calls Tryz.prog 11 #[.agg #[.int .i64 0, .int .i64 0, .slice none 0 0, .slice none 0 0, .slice (some ⟨a, 0, none⟩) 1 1, .slice none 0 0, .slice none 0 0, .slice none 0 0, .slice none 0 0, .int .i64 0], .agg #[.int .i64 0, .int .i64 0, .slice none 0 0, .slice none 0 0, .slice (some ⟨b, 0, none⟩) 1 1, .slice none 0 0, .slice none 0 0, .slice none 0 0, .slice none 0 0, .int .i64 0]] w fun e w' => e = .returned (.bool true) ∧ Aft w w' := by
  obtain ⟨W, hW⟩ : ∃ W, W = (w.alloc (.cells #[.int .i64 0, .int .i64 0, .slice none 0 0, .slice none 0 0, .slice (some ⟨a, 0, none⟩) 1 1, .slice none 0 0, .slice none 0 0, .slice none 0 0, .slice none 0 0, .int .i64 0] 36)).alloc (.cells #[.int .i64 0, .int .i64 0, .slice none 0 0, .slice none 0 0, .slice (some ⟨b, 0, none⟩) 1 1, .slice none 0 0, .slice none 0 0, .slice none 0 0, .slice none 0 0, .int .i64 0] 36) := ⟨_, rfl⟩
  have aW : Aft w W := by rw [hW]; exact ((Aft.refl w).alloc _).alloc _
  have r0 : RowAt W (w.heap.size) [.int .i64 0, .int .i64 0, .slice none 0 0, .slice none 0 0, .slice (some ⟨a, 0, none⟩) 1 1, .slice none 0 0, .slice none 0 0, .slice none 0 0, .slice none 0 0, .int .i64 0] := by rw [hW]; exact RowAt.up (box_at (Aft.refl _) (by simp))
  have r1 : RowAt W (w.heap.size + 1) [.int .i64 0, .int .i64 0, .slice none 0 0, .slice none 0 0, .slice (some ⟨b, 0, none⟩) 1 1, .slice none 0 0, .slice none 0 0, .slice none 0 0, .slice none 0 0, .int .i64 0] := by rw [hW]; exact box_at (Aft.refl _) (by simp)
  have C1 := Lib.hid (show Calls Tryz.prog 24 #[.agg #[.int .i64 0, .int .i64 0, .slice none 0 0, .slice none 0 0, .slice (some ⟨a, 0, none⟩) 1 1, .slice none 0 0, .slice none 0 0], .agg #[.int .i64 0, .int .i64 0, .slice none 0 0, .slice none 0 0, .slice (some ⟨b, 0, none⟩) 1 1, .slice none 0 0, .slice none 0 0]] W fun e w'' => e = .returned (.bool true) ∧ Aft W w'' from same9 newC none 0 none 0 (some ⟨a, 0, none⟩) 1 none 0 none 0 none 0 none 0 (some ⟨b, 0, none⟩) 1 none 0 none 0 W (Ha.aft aW) (Hb.aft aW))
  have HAW := Lib.hid aW
  have R0 := Lib.hid r0
  have R1 := Lib.hid r1
  obtain ⟨x0, x1, x2, x3, x4, x5, x6, x7, x8, x9, xz⟩ := rowF10 r0
  obtain ⟨y0, y1, y2, y3, y4, y5, y6, y7, y8, y9, yz⟩ := rowF10 r1
  clear Ha Hb r0 r1 aW
  go_enter Tryz.func11, Tryz.ntmps11
  go_wp2_with fail
  rw [← hW]
  clear hW
  go_wp2_with fail
  refine C1.out.mono ?_
  rintro e w1 ⟨rfl, a1⟩
  have A1 := Lib.hid (HAW.out.trans a1)
  have p0 := R0.out.aft a1
  have p1 := R1.out.aft a1
  clear x0 x1 x2 x3 x4 x5 x6 x7 x8 x9 xz y0 y1 y2 y3 y4 y5 y6 y7 y8 y9 yz a1
  obtain ⟨x0, x1, x2, x3, x4, x5, x6, x7, x8, x9, xz⟩ := rowF10 p0
  obtain ⟨y0, y1, y2, y3, y4, y5, y6, y7, y8, y9, yz⟩ := rowF10 p1
  clear p0 p1
  go_wp2_with fail
  go_loop [5] (fun i => i = .int .i64 0) (fun i => 2 - (intOf i).toNat)
  case atStart => rfl
  case round =>
    subst hrel
    go_wp2_with fail
    go_loop [6] (fun i => i = .int .i64 0) (fun i => 2 - (intOf i).toNat)
    case atStart => rfl
    case round =>
      subst hrel
      go_wp2_with fail
      go_ret
      exact ⟨rfl, A1.out⟩
theorem lvOpr_row {W : World} {p : Nat} {v0 v1 v2 v3 v4 v5 v6 v7 v8 v9 v10 v11 v12 v13 v14 v15 v16 v17 v18 v19 v20 v21 v22 : Value} (R : RowAt W p [v0, v1, v2, v3, v4, v5, v6, v7, v8, v9, v10, v11, v12, v13, v14, v15, v16, v17, v18, v19, v20, v21, v22]) : (loadVar 47 ⟨p, 0, none⟩).run Tryz.prog W = .ok (.agg #[v0, v1, v2, v3, v4, v5, v6, v7, v8, v9, v10, v11, v12, v13, v14, v15, v16, v17, v18, v19, v20, v21, v22]) W := by
  have e0 := R.cell (j := 0) rfl
  have e1 := R.cell (j := 1) rfl
  have e2 := R.cell (j := 2) rfl
  have e3 := R.cell (j := 3) rfl
  have e4 := R.cell (j := 4) rfl
  have e5 := R.cell (j := 5) rfl
  have e6 := R.cell (j := 6) rfl
  have e7 := R.cell (j := 7) rfl
  have e8 := R.cell (j := 8) rfl
  have e9 := R.cell (j := 9) rfl
  have e10 := R.cell (j := 10) rfl
  have e11 := R.cell (j := 11) rfl
  have e12 := R.cell (j := 12) rfl
  have e13 := R.cell (j := 13) rfl
  have e14 := R.cell (j := 14) rfl
  have e15 := R.cell (j := 15) rfl
  have e16 := R.cell (j := 16) rfl
  have e17 := R.cell (j := 17) rfl
  have e18 := R.cell (j := 18) rfl
  have e19 := R.cell (j := 19) rfl
  have e20 := R.cell (j := 20) rfl
  have e21 := R.cell (j := 21) rfl
  have e22 := R.cell (j := 22) rfl
  have h1 := run_lvOpr W p 0 (by rw [e0]; rfl) (by rw [e1]; rfl) (by rw [e2]; rfl) (by rw [e3]; rfl) (by rw [e4]; rfl) (by rw [e5]; rfl) (by rw [e6]; rfl) (by rw [e7]; rfl) (by rw [e8]; rfl) (by rw [e9]; rfl) (by rw [e10]; rfl) (by rw [e11]; rfl) (by rw [e12]; rfl) (by rw [e13]; rfl) (by rw [e14]; rfl) (by rw [e15]; rfl) (by rw [e16]; rfl) (by rw [e17]; rfl) (by rw [e18]; rfl) (by rw [e19]; rfl) (by rw [e20]; rfl) (by rw [e21]; rfl) (by rw [e22]; rfl)
  rw [e0, e1, e2, e3, e4, e5, e6, e7, e8, e9, e10, e11, e12, e13, e14, e15, e16, e17, e18, e19, e20, e21, e22] at h1
  exact h1
def opOne : Opr := ⟨1, 1, 1, ⟨1, ⟨#[114, 111, 111, 116]⟩, ⟨#[115]⟩, ⟨#[]⟩, ⟨#[]⟩, ⟨#[]⟩, none, 0, 0, ⟨#[]⟩, 0, none, 0, 0, 0, 0, ⟨#[]⟩, ⟨#[]⟩, ⟨#[]⟩, 0, false⟩, 0, 0, 0⟩
def opNone : Opr := ⟨0, 0, 0, ⟨0, ⟨#[]⟩, ⟨#[]⟩, ⟨#[]⟩, ⟨#[]⟩, ⟨#[]⟩, none, 0, 0, ⟨#[]⟩, 0, none, 0, 0, 0, 0, ⟨#[]⟩, ⟨#[]⟩, ⟨#[]⟩, 0, false⟩, 0, 0, 0⟩
theorem sm_opOne : SmSh opOne.cmd := ⟨⟨by decide, by decide, by decide, by decide, by decide⟩, by decide, by decide, by decide, by decide⟩
theorem sm_opNone : SmSh opNone.cmd := ⟨⟨by decide, by decide, by decide, by decide, by decide⟩, by decide, by decide, by decide, by decide⟩
theorem opOne_may : opMayB opOne = true := by decide +kernel
theorem opNone_may : opMayB opNone = false := by decide +kernel
set_option maxHeartbeats 4000000 in
theorem mone19 (w : World) : Calls Tryz.prog 41 #[.int .i64 1] w fun e w' => e = .returned (.agg #[.int .i64 1, .int .i64 1, .int .i64 1, .int .i64 1, .string ⟨#[114, 111, 111, 116]⟩, .string ⟨#[115]⟩, .string ⟨#[]⟩, .string ⟨#[]⟩, .string ⟨#[]⟩, .slice none 0 0, .string ⟨#[]⟩, .int .i64 0, .slice none 0 0, .int .i64 0, .int .i64 0, .string ⟨#[]⟩, .string ⟨#[]⟩, .string ⟨#[]⟩, .int .i64 0, .bool false, .int .i64 0, .int .i64 0, .int .i64 0]) ∧ Aft w w' := by
  go_enter Tryz.func41, Tryz.ntmps41
  go_wp2_with fail
  refine bodyPost_ret (results_cell (v := .agg #[.int .i64 1, .int .i64 1, .int .i64 1, .int .i64 1, .string ⟨#[114, 111, 111, 116]⟩, .string ⟨#[115]⟩, .string ⟨#[]⟩, .string ⟨#[]⟩, .string ⟨#[]⟩, .slice none 0 0, .string ⟨#[]⟩, .int .i64 0, .slice none 0 0, .int .i64 0, .int .i64 0, .string ⟨#[]⟩, .string ⟨#[]⟩, .string ⟨#[]⟩, .int .i64 0, .bool false, .int .i64 0, .int .i64 0, .int .i64 0]) rfl _ rfl (lvOpr_row (box_row2 (Aft.refl _)))) rfl ⟨rfl, (Aft.refl _).alloc _⟩
set_option maxHeartbeats 8000000 in
theorem fresh19 (w : World) : Calls Tryz.prog 10 #[] w fun e w' => e = .returned (.bool true) ∧ Aft w w' := by
  have CM1 := Lib.hid (show ∀ V, Calls Tryz.prog 15 #[.agg #[.int .i64 1, .int .i64 1, .int .i64 1, .int .i64 1, .string ⟨#[114, 111, 111, 116]⟩, .string ⟨#[115]⟩, .string ⟨#[]⟩, .string ⟨#[]⟩, .string ⟨#[]⟩, .slice none 0 0, .string ⟨#[]⟩, .int .i64 0, .slice none 0 0, .int .i64 0, .int .i64 0, .string ⟨#[]⟩, .string ⟨#[]⟩, .string ⟨#[]⟩, .int .i64 0, .bool false, .int .i64 0, .int .i64 0, .int .i64 0]] V fun e w' => e = .returned (.bool true) ∧ Aft V w' from fun V => (mmay opOne sm_opOne V).mono fun e w' ⟨he, h⟩ => ⟨he.trans (by rw [opOne_may]), h⟩)
  have CM2 := Lib.hid (show ∀ V, Calls Tryz.prog 15 #[.agg #[.int .i64 0, .int .i64 0, .int .i64 0, .int .i64 0, .string ⟨#[]⟩, .string ⟨#[]⟩, .string ⟨#[]⟩, .string ⟨#[]⟩, .string ⟨#[]⟩, .slice none 0 0, .string ⟨#[]⟩, .int .i64 0, .slice none 0 0, .int .i64 0, .int .i64 0, .string ⟨#[]⟩, .string ⟨#[]⟩, .string ⟨#[]⟩, .int .i64 0, .bool false, .int .i64 0, .int .i64 0, .int .i64 0]] V fun e w' => e = .returned (.bool false) ∧ Aft V w' from fun V => (mmay opNone sm_opNone V).mono fun e w' ⟨he, h⟩ => ⟨he.trans (by rw [opNone_may]), h⟩)
  go_enter Tryz.func10, Tryz.ntmps10
  go_wp2_with fail
  refine (mnew _).mono ?_
  rintro e w1 ⟨b, rfl, a1, H1⟩
  obtain ⟨X, hX⟩ : ∃ V, V = w1.alloc (.cells #[.int .i64 0, .int .i64 0, .slice none 0 0, .slice none 0 0, .slice (some ⟨b, 0, none⟩) 1 1, .slice none 0 0, .slice none 0 0, .slice none 0 0, .slice none 0 0, .int .i64 0] 36) := ⟨_, rfl⟩
  have aX : Aft w1 X := by rw [hX]; exact (Aft.refl _).alloc _
  have RX : RowAt X w1.heap.size [.int .i64 0, .int .i64 0, .slice none 0 0, .slice none 0 0, .slice (some ⟨b, 0, none⟩) 1 1, .slice none 0 0, .slice none 0 0, .slice none 0 0, .slice none 0 0, .int .i64 0] := by rw [hX]; exact box_row2 (Aft.refl _)
  have C1 := Lib.hid (show Calls Tryz.prog 9 #[.agg #[.int .i64 0, .int .i64 0, .slice none 0 0, .slice none 0 0, .slice (some ⟨b, 0, none⟩) 1 1, .slice none 0 0, .slice none 0 0, .slice none 0 0, .slice none 0 0, .int .i64 0]] X fun e w'' => e = .returned (.int .i64 0) ∧ Aft X w'' from (mcheck newM none 0 none 0 (some ⟨b, 0, none⟩) 1 none 0 none 0 none 0 none 0 X (H1.aft aX)).mono fun e w'' ⟨he, hw⟩ => ⟨he.trans (by rw [newM_right]; rfl), hw⟩)
  have AX := Lib.hid (a1.trans aX)
  obtain ⟨x0, x1, x2, x3, x4, x5, x6, x7, x8, x9, xz⟩ := rowF10 RX
  have HX := Lib.hid hX
  rw [hX] at x0 x1 x2 x3 x4 x5 x6 x7 x8 x9 xz
  clear a1 H1 aX RX hX
  go_wp2_with fail
  rw [← HX.out]
  refine C1.out.mono ?_
  rintro e w2 ⟨rfl, a2⟩
  have A2 := Lib.hid (AX.out.trans a2)
  clear a2 x0 x1 x2 x3 x4 x5 x6 x7 x8 x9 xz
  go_wp2_with fail
  refine (mone19 _).mono ?_
  rintro e w3 ⟨rfl, a3⟩
  have A3 := Lib.hid (A2.out.trans a3)
  clear a3
  go_wp2_with fail
  refine (CM1.out _).mono ?_
  rintro e w4 ⟨rfl, a4⟩
  have A4 := Lib.hid (A3.out.trans a4)
  clear a4
  go_wp2_with fail
  refine (CM2.out _).mono ?_
  rintro e w5 ⟨rfl, a5⟩
  have A5 := Lib.hid (A4.out.trans a5)
  clear a5
  go_wp2_with fail
  go_ret
  exact ⟨rfl, A5.out⟩
def AnyB (w : World) (e : Ending) (w' : World) : Prop := ∃ b : Bool, e = .returned (.bool b) ∧ Aft w w'
set_option maxHeartbeats 8000000 in
theorem large19 (m : Mac) (As : Option Addr) (caps : Nat) (At : Option Addr) (capt : Nat) (An : Option Addr) (capn : Nat) (Am : Option Addr) (capm : Nat) (Ag : Option Addr) (capg : Nat) (Ad : Option Addr) (capd : Nat) (Al : Option Addr) (capl : Nat) (x : ShC) (hx : x.n ≤ 9223372036854775807) (hx2 : x.n2 ≤ 9223372036854775807) (w : World) (H : MacAt w m As caps At capt An capn Am capm Ag capg Ad capd Al capl) :
    Calls Tryz.prog 8 #[.agg #[.int .i64 m.cat.epoch, .int .i64 m.cat.version, .slice As m.cat.objs.schemas.length caps, .slice At m.cat.objs.tables.length capt, .slice An m.cat.rols.names.length capn, .slice Am m.cat.rols.members.length capm, .slice Ag m.cat.grants.length capg, .slice Ad m.dones.length capd, .slice Al m.leas.length capl, .int .i64 m.last], .agg #[.int .i64 x.kind, .string x.actor, .string x.schema, .string x.table, .string x.name, .string x.role, .slice x.A x.n x.c, .string x.rname, .int .i64 x.rkind, .slice x.A2 x.n2 x.c2, .int .i64 x.low, .int .i64 x.high, .string x.rs, .string x.rt, .string x.rk, .int .i64 x.right, .bool x.opt]] w (AnyB w) := by
  obtain ⟨W, hW⟩ : ∃ W, W = (w.alloc (.cells #[.int .i64 m.cat.epoch, .int .i64 m.cat.version, .slice As m.cat.objs.schemas.length caps, .slice At m.cat.objs.tables.length capt, .slice An m.cat.rols.names.length capn, .slice Am m.cat.rols.members.length capm, .slice Ag m.cat.grants.length capg, .slice Ad m.dones.length capd, .slice Al m.leas.length capl, .int .i64 m.last] 36)).alloc (.cells #[.int .i64 x.kind, .string x.actor, .string x.schema, .string x.table, .string x.name, .string x.role, .slice x.A x.n x.c, .string x.rname, .int .i64 x.rkind, .slice x.A2 x.n2 x.c2, .int .i64 x.low, .int .i64 x.high, .string x.rs, .string x.rt, .string x.rk, .int .i64 x.right, .bool x.opt] 45) := ⟨_, rfl⟩
  have aW : Aft w W := by rw [hW]; exact ((Aft.refl w).alloc _).alloc _
  have r0 : RowAt W (w.heap.size) [.int .i64 m.cat.epoch, .int .i64 m.cat.version, .slice As m.cat.objs.schemas.length caps, .slice At m.cat.objs.tables.length capt, .slice An m.cat.rols.names.length capn, .slice Am m.cat.rols.members.length capm, .slice Ag m.cat.grants.length capg, .slice Ad m.dones.length capd, .slice Al m.leas.length capl, .int .i64 m.last] := by rw [hW]; exact RowAt.up (box_at (Aft.refl _) (by simp))
  have r1 : RowAt W (w.heap.size + 1) [.int .i64 x.kind, .string x.actor, .string x.schema, .string x.table, .string x.name, .string x.role, .slice x.A x.n x.c, .string x.rname, .int .i64 x.rkind, .slice x.A2 x.n2 x.c2, .int .i64 x.low, .int .i64 x.high, .string x.rs, .string x.rt, .string x.rk, .int .i64 x.right, .bool x.opt] := by rw [hW]; exact box_at (Aft.refl _) (by simp)
  have hlen : m.dones.length * 16 ≤ 140737488351232 := H.don.2.1
  have hlen2 : m.leas.length * 16 ≤ 140737488351232 := H.lea.2.1
  have CL := Lib.hid (large9 m.cat As caps At capt An capn Am capm Ag capg W (H.cat.aft aW))
  have HAW := Lib.hid aW
  have R0 := Lib.hid r0
  have R1 := Lib.hid r1
  obtain ⟨x0, x1, x2, x3, x4, x5, x6, x7, x8, x9, xz⟩ := rowF10 r0
  clear H r0 r1 aW
  go_enter Tryz.func8, Tryz.ntmps8
  go_wp2_with fail
  rw [← hW]
  clear hW
  go_wp2_with fail
  refine CL.out.mono ?_
  rintro e w1 ⟨bg, rfl, hmod, a1⟩
  have A1 := Lib.hid (HAW.out.trans a1)
  have p0 := R0.out.aft a1
  have p1 := R1.out.aft a1
  clear x0 x1 x2 x3 x4 x5 x6 x7 x8 x9 xz a1 hmod CL
  have x7 := p0.cell (j := 7) rfl
  have x8 := p0.cell (j := 8) rfl
  have xz := p0.1
  have y6 := p1.cell (j := 6) rfl
  have y9 := p1.cell (j := 9) rfl
  have yz := p1.1
  clear p0 p1
  cases bg
  all_goals
    go_wp2_with fail
    all_goals
      go_ret
      exact ⟨_, rfl, A1.out⟩
end Go.Proofs.YtgkhmnamkfgciaaGreat

