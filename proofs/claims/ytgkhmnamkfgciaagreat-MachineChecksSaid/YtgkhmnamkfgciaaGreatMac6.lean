/- The law MachineChecks, walked. -/
import Derived.Test.YtgkhmnamkfgciaaGreatPartM1
import Derived.Test.YtgkhmnamkfgciaaGreatPartM2
import Derived.Test.YtgkhmnamkfgciaaGreatPartM3
import Derived.Test.YtgkhmnamkfgciaaGreatPartM4
import Derived.Test.YtgkhmnamkfgciaaGreatPartM5
import Derived.Test.YtgkhmnamkfgciaaGreatPartM6
import Derived.Test.YtgkhmnamkfgciaaGreatPartM7
import Derived.Test.YtgkhmnamkfgciaaGreatPartM8
import Derived.Test.YtgkhmnamkfgciaaGreatPartM9
import Derived.Test.YtgkhmnamkfgciaaGreatPartM10
import Derived.Test.YtgkhmnamkfgciaaGreatPartM11
import Derived.Test.YtgkhmnamkfgciaaGreatPartM12
import Derived.Test.YtgkhmnamkfgciaaGreatPartM13
import Derived.Test.YtgkhmnamkfgciaaGreatPartM14
import Derived.Test.YtgkhmnamkfgciaaGreatPartM15
import Derived.Test.YtgkhmnamkfgciaaGreatPartM16
namespace Go.Proofs.YtgkhmnamkfgciaaGreat
open Go.RowKit Go.Deep
set_option maxRecDepth 100000
set_option linter.unusedVariables false
set_option maxHeartbeats 32000000 in
theorem law_checks19 (m : Mac) (As : Option Addr) (caps : Nat) (At : Option Addr) (capt : Nat) (An : Option Addr) (capn : Nat) (Am : Option Addr) (capm : Nat) (Ag : Option Addr) (capg : Nat) (Ad : Option Addr) (capd : Nat) (Al : Option Addr) (capl : Nat) (p : Opr) (sm : SmSh p.cmd) (hx : p.cmd.n ≤ 9223372036854775807) (hx2 : p.cmd.n2 ≤ 9223372036854775807) (w : World) (H : MacAt w m As caps At capt An capn Am capm Ag capg Ad capd Al capl) :
    Calls Tryz.prog 3 #[.agg #[.int .i64 m.cat.epoch, .int .i64 m.cat.version, .slice As m.cat.objs.schemas.length caps, .slice At m.cat.objs.tables.length capt, .slice An m.cat.rols.names.length capn, .slice Am m.cat.rols.members.length capm, .slice Ag m.cat.grants.length capg, .slice Ad m.dones.length capd, .slice Al m.leas.length capl, .int .i64 m.last], .agg #[.int .i64 p.kind, .int .i64 p.client, .int .i64 p.number, .int .i64 p.cmd.kind, .string p.cmd.actor, .string p.cmd.schema, .string p.cmd.table, .string p.cmd.name, .string p.cmd.role, .slice p.cmd.A p.cmd.n p.cmd.c, .string p.cmd.rname, .int .i64 p.cmd.rkind, .slice p.cmd.A2 p.cmd.n2 p.cmd.c2, .int .i64 p.cmd.low, .int .i64 p.cmd.high, .string p.cmd.rs, .string p.cmd.rt, .string p.cmd.rk, .int .i64 p.cmd.right, .bool p.cmd.opt, .int .i64 p.node, .int .i64 p.ask, .int .i64 p.seq]] w fun e w' => e = .returned (.bool true) ∧ Aft w w' := by
  obtain ⟨W, hW⟩ : ∃ W, W = (w.alloc (.cells #[.int .i64 m.cat.epoch, .int .i64 m.cat.version, .slice As m.cat.objs.schemas.length caps, .slice At m.cat.objs.tables.length capt, .slice An m.cat.rols.names.length capn, .slice Am m.cat.rols.members.length capm, .slice Ag m.cat.grants.length capg, .slice Ad m.dones.length capd, .slice Al m.leas.length capl, .int .i64 m.last] 36)).alloc (.cells #[.int .i64 p.kind, .int .i64 p.client, .int .i64 p.number, .int .i64 p.cmd.kind, .string p.cmd.actor, .string p.cmd.schema, .string p.cmd.table, .string p.cmd.name, .string p.cmd.role, .slice p.cmd.A p.cmd.n p.cmd.c, .string p.cmd.rname, .int .i64 p.cmd.rkind, .slice p.cmd.A2 p.cmd.n2 p.cmd.c2, .int .i64 p.cmd.low, .int .i64 p.cmd.high, .string p.cmd.rs, .string p.cmd.rt, .string p.cmd.rk, .int .i64 p.cmd.right, .bool p.cmd.opt, .int .i64 p.node, .int .i64 p.ask, .int .i64 p.seq] 47) := ⟨_, rfl⟩
  have aW : Aft w W := by rw [hW]; exact ((Aft.refl w).alloc _).alloc _
  have r0 : RowAt W (w.heap.size) [.int .i64 m.cat.epoch, .int .i64 m.cat.version, .slice As m.cat.objs.schemas.length caps, .slice At m.cat.objs.tables.length capt, .slice An m.cat.rols.names.length capn, .slice Am m.cat.rols.members.length capm, .slice Ag m.cat.grants.length capg, .slice Ad m.dones.length capd, .slice Al m.leas.length capl, .int .i64 m.last] := by rw [hW]; exact RowAt.up (box_at (Aft.refl _) (by simp))
  have r1 : RowAt W (w.heap.size + 1) [.int .i64 p.kind, .int .i64 p.client, .int .i64 p.number, .int .i64 p.cmd.kind, .string p.cmd.actor, .string p.cmd.schema, .string p.cmd.table, .string p.cmd.name, .string p.cmd.role, .slice p.cmd.A p.cmd.n p.cmd.c, .string p.cmd.rname, .int .i64 p.cmd.rkind, .slice p.cmd.A2 p.cmd.n2 p.cmd.c2, .int .i64 p.cmd.low, .int .i64 p.cmd.high, .string p.cmd.rs, .string p.cmd.rt, .string p.cmd.rk, .int .i64 p.cmd.right, .bool p.cmd.opt, .int .i64 p.node, .int .i64 p.ask, .int .i64 p.seq] := by rw [hW]; exact box_at (Aft.refl _) (by simp)
  obtain ⟨r, hr⟩ : ∃ b, machB m = b := ⟨_, rfl⟩
  obtain ⟨q, hq⟩ : ∃ b, opMayB p = b := ⟨_, rfl⟩
  obtain ⟨z, hz⟩ : ∃ z : Int, (if machB m = true then (0 : Int) else 1) = z := ⟨_, rfl⟩
  have HZ := Lib.hid (show (r = true ∧ z = 0) ∨ (r = false ∧ z = 1) from by rw [← hz, hr]; cases r <;> simp)
  have CL := Lib.hid (large19 m As caps At capt An capn Am capm Ag capg Ad capd Al capl p.cmd hx hx2 W (H.aft aW))
  have C1 := Lib.hid (show ∀ V, Aft W V → Calls Tryz.prog 9 #[.agg #[.int .i64 m.cat.epoch, .int .i64 m.cat.version, .slice As m.cat.objs.schemas.length caps, .slice At m.cat.objs.tables.length capt, .slice An m.cat.rols.names.length capn, .slice Am m.cat.rols.members.length capm, .slice Ag m.cat.grants.length capg, .slice Ad m.dones.length capd, .slice Al m.leas.length capl, .int .i64 m.last]] V fun e w'' => e = .returned (.int .i64 z) ∧ Aft V w'' from fun V a => hz ▸ mcheck m As caps At capt An capn Am capm Ag capg Ad capd Al capl V (H.aft (aW.trans a)))
  have C2 := Lib.hid (show ∀ V, Aft W V → Calls Tryz.prog 14 #[.agg #[.int .i64 m.cat.epoch, .int .i64 m.cat.version, .slice As m.cat.objs.schemas.length caps, .slice At m.cat.objs.tables.length capt, .slice An m.cat.rols.names.length capn, .slice Am m.cat.rols.members.length capm, .slice Ag m.cat.grants.length capg, .slice Ad m.dones.length capd, .slice Al m.leas.length capl, .int .i64 m.last]] V fun e w'' => e = .returned (.bool r) ∧ Aft V w'' from fun V a => hr ▸ rright19 m As caps At capt An capn Am capm Ag capg Ad capd Al capl V (H.aft (aW.trans a)))
  have C3 := Lib.hid (show ∀ V, Calls Tryz.prog 15 #[.agg #[.int .i64 p.kind, .int .i64 p.client, .int .i64 p.number, .int .i64 p.cmd.kind, .string p.cmd.actor, .string p.cmd.schema, .string p.cmd.table, .string p.cmd.name, .string p.cmd.role, .slice p.cmd.A p.cmd.n p.cmd.c, .string p.cmd.rname, .int .i64 p.cmd.rkind, .slice p.cmd.A2 p.cmd.n2 p.cmd.c2, .int .i64 p.cmd.low, .int .i64 p.cmd.high, .string p.cmd.rs, .string p.cmd.rt, .string p.cmd.rk, .int .i64 p.cmd.right, .bool p.cmd.opt, .int .i64 p.node, .int .i64 p.ask, .int .i64 p.seq]] V fun e w'' => e = .returned (.bool q) ∧ Aft V w'' from fun V => hq ▸ mmay p sm V)
  have C4 := Lib.hid (show ∀ V, Calls Tryz.prog 16 #[.agg #[.int .i64 p.kind, .int .i64 p.client, .int .i64 p.number, .int .i64 p.cmd.kind, .string p.cmd.actor, .string p.cmd.schema, .string p.cmd.table, .string p.cmd.name, .string p.cmd.role, .slice p.cmd.A p.cmd.n p.cmd.c, .string p.cmd.rname, .int .i64 p.cmd.rkind, .slice p.cmd.A2 p.cmd.n2 p.cmd.c2, .int .i64 p.cmd.low, .int .i64 p.cmd.high, .string p.cmd.rs, .string p.cmd.rt, .string p.cmd.rk, .int .i64 p.cmd.right, .bool p.cmd.opt, .int .i64 p.node, .int .i64 p.ask, .int .i64 p.seq]] V fun e w'' => e = .returned (.bool q) ∧ Aft V w'' from fun V => hq ▸ rmay19 p sm V)
  have C5 := Lib.hid (show ∀ V a b, CatAt V newC none 0 none 0 (some ⟨a, 0, none⟩) 1 none 0 none 0 → CatAt V newC none 0 none 0 (some ⟨b, 0, none⟩) 1 none 0 none 0 → Calls Tryz.prog 11 #[.agg #[.int .i64 0, .int .i64 0, .slice none 0 0, .slice none 0 0, .slice (some ⟨a, 0, none⟩) 1 1, .slice none 0 0, .slice none 0 0, .slice none 0 0, .slice none 0 0, .int .i64 0], .agg #[.int .i64 0, .int .i64 0, .slice none 0 0, .slice none 0 0, .slice (some ⟨b, 0, none⟩) 1 1, .slice none 0 0, .slice none 0 0, .slice none 0 0, .slice none 0 0, .int .i64 0]] V fun e w'' => e = .returned (.bool true) ∧ Aft V w'' from fun V a b h1 h2 => msameN a b V h1 h2)
  have KS := Lib.hid (show ∀ V, Aft W V → (Aft W V ∧ V.cell? ⟨w.heap.size, 0, none⟩ = some (.int .i64 m.cat.epoch) ∧ V.cell? ⟨w.heap.size, 1, none⟩ = some (.int .i64 m.cat.version) ∧ V.cell? ⟨w.heap.size, 2, none⟩ = some (.slice As m.cat.objs.schemas.length caps) ∧ V.cell? ⟨w.heap.size, 3, none⟩ = some (.slice At m.cat.objs.tables.length capt) ∧ V.cell? ⟨w.heap.size, 4, none⟩ = some (.slice An m.cat.rols.names.length capn) ∧ V.cell? ⟨w.heap.size, 5, none⟩ = some (.slice Am m.cat.rols.members.length capm) ∧ V.cell? ⟨w.heap.size, 6, none⟩ = some (.slice Ag m.cat.grants.length capg) ∧ V.cell? ⟨w.heap.size, 7, none⟩ = some (.slice Ad m.dones.length capd) ∧ V.cell? ⟨w.heap.size, 8, none⟩ = some (.slice Al m.leas.length capl) ∧ V.cell? ⟨w.heap.size, 9, none⟩ = some (.int .i64 m.last) ∧ V.cell? ⟨w.heap.size + 1, 0, none⟩ = some (.int .i64 p.kind) ∧ V.cell? ⟨w.heap.size + 1, 1, none⟩ = some (.int .i64 p.client) ∧ V.cell? ⟨w.heap.size + 1, 2, none⟩ = some (.int .i64 p.number) ∧ V.cell? ⟨w.heap.size + 1, 3, none⟩ = some (.int .i64 p.cmd.kind) ∧ V.cell? ⟨w.heap.size + 1, 4, none⟩ = some (.string p.cmd.actor) ∧ V.cell? ⟨w.heap.size + 1, 5, none⟩ = some (.string p.cmd.schema) ∧ V.cell? ⟨w.heap.size + 1, 6, none⟩ = some (.string p.cmd.table) ∧ V.cell? ⟨w.heap.size + 1, 7, none⟩ = some (.string p.cmd.name) ∧ V.cell? ⟨w.heap.size + 1, 8, none⟩ = some (.string p.cmd.role) ∧ V.cell? ⟨w.heap.size + 1, 9, none⟩ = some (.slice p.cmd.A p.cmd.n p.cmd.c) ∧ V.cell? ⟨w.heap.size + 1, 10, none⟩ = some (.string p.cmd.rname) ∧ V.cell? ⟨w.heap.size + 1, 11, none⟩ = some (.int .i64 p.cmd.rkind) ∧ V.cell? ⟨w.heap.size + 1, 12, none⟩ = some (.slice p.cmd.A2 p.cmd.n2 p.cmd.c2) ∧ V.cell? ⟨w.heap.size + 1, 13, none⟩ = some (.int .i64 p.cmd.low) ∧ V.cell? ⟨w.heap.size + 1, 14, none⟩ = some (.int .i64 p.cmd.high) ∧ V.cell? ⟨w.heap.size + 1, 15, none⟩ = some (.string p.cmd.rs) ∧ V.cell? ⟨w.heap.size + 1, 16, none⟩ = some (.string p.cmd.rt) ∧ V.cell? ⟨w.heap.size + 1, 17, none⟩ = some (.string p.cmd.rk) ∧ V.cell? ⟨w.heap.size + 1, 18, none⟩ = some (.int .i64 p.cmd.right) ∧ V.cell? ⟨w.heap.size + 1, 19, none⟩ = some (.bool p.cmd.opt) ∧ V.cell? ⟨w.heap.size + 1, 20, none⟩ = some (.int .i64 p.node) ∧ V.cell? ⟨w.heap.size + 1, 21, none⟩ = some (.int .i64 p.ask) ∧ V.cell? ⟨w.heap.size + 1, 22, none⟩ = some (.int .i64 p.seq)) from fun V a => by
    have s0 := r0.aft a
    have s1 := r1.aft a
    exact ⟨a, s0.cell (j := 0) rfl, s0.cell (j := 1) rfl, s0.cell (j := 2) rfl, s0.cell (j := 3) rfl, s0.cell (j := 4) rfl, s0.cell (j := 5) rfl, s0.cell (j := 6) rfl, s0.cell (j := 7) rfl, s0.cell (j := 8) rfl, s0.cell (j := 9) rfl, s1.cell (j := 0) rfl, s1.cell (j := 1) rfl, s1.cell (j := 2) rfl, s1.cell (j := 3) rfl, s1.cell (j := 4) rfl, s1.cell (j := 5) rfl, s1.cell (j := 6) rfl, s1.cell (j := 7) rfl, s1.cell (j := 8) rfl, s1.cell (j := 9) rfl, s1.cell (j := 10) rfl, s1.cell (j := 11) rfl, s1.cell (j := 12) rfl, s1.cell (j := 13) rfl, s1.cell (j := 14) rfl, s1.cell (j := 15) rfl, s1.cell (j := 16) rfl, s1.cell (j := 17) rfl, s1.cell (j := 18) rfl, s1.cell (j := 19) rfl, s1.cell (j := 20) rfl, s1.cell (j := 21) rfl, s1.cell (j := 22) rfl⟩)
  have KZ := Lib.hid (show ∀ V, Aft W V → w.heap.size < V.heap.size ∧ w.heap.size + 1 < V.heap.size from fun V a => ⟨(r0.aft a).1, (r1.aft a).1⟩)
  have HAW := Lib.hid aW
  obtain ⟨x0, x1, x2, x3, x4, x5, x6, x7, x8, x9, xz⟩ := rowF10 r0
  have y0 := r1.cell (j := 0) rfl
  have y1 := r1.cell (j := 1) rfl
  have y2 := r1.cell (j := 2) rfl
  have y3 := r1.cell (j := 3) rfl
  have y4 := r1.cell (j := 4) rfl
  have y5 := r1.cell (j := 5) rfl
  have y6 := r1.cell (j := 6) rfl
  have y7 := r1.cell (j := 7) rfl
  have y8 := r1.cell (j := 8) rfl
  have y9 := r1.cell (j := 9) rfl
  have y10 := r1.cell (j := 10) rfl
  have y11 := r1.cell (j := 11) rfl
  have y12 := r1.cell (j := 12) rfl
  have y13 := r1.cell (j := 13) rfl
  have y14 := r1.cell (j := 14) rfl
  have y15 := r1.cell (j := 15) rfl
  have y16 := r1.cell (j := 16) rfl
  have y17 := r1.cell (j := 17) rfl
  have y18 := r1.cell (j := 18) rfl
  have y19 := r1.cell (j := 19) rfl
  have y20 := r1.cell (j := 20) rfl
  have y21 := r1.cell (j := 21) rfl
  have y22 := r1.cell (j := 22) rfl
  have yz := r1.1
  clear hr hq hz H r0 r1 aW
  go_enter Tryz.func3, Tryz.ntmps3
  go_wp2_with fail
  rw [← hW]
  clear hW
  go_wp2_with fail
  refine CL.out.mono ?_
  rintro e w1 ⟨bg, rfl, a1⟩
  have A1 := Lib.hid a1
  clear CL x0 x1 x2 x3 x4 x5 x6 x7 x8 x9 xz y0 y1 y2 y3 y4 y5 y6 y7 y8 y9 y10 y11 y12 y13 y14 y15 y16 y17 y18 y19 y20 y21 y22 yz a1
  cases bg
  case true =>
    go_wp2_with fail
    go_ret
    exact ⟨rfl, HAW.out.trans A1.out⟩
  obtain ⟨_, x0, x1, x2, x3, x4, x5, x6, x7, x8, x9, y0, y1, y2, y3, y4, y5, y6, y7, y8, y9, y10, y11, y12, y13, y14, y15, y16, y17, y18, y19, y20, y21, y22⟩ := KS.out w1 A1.out
  obtain ⟨xz, yz⟩ := KZ.out w1 A1.out
  go_wp2_with fail
  refine (C1.out _ A1.out).mono ?_
  rintro e w2 ⟨rfl, a2⟩
  have A2 := Lib.hid (A1.out.trans a2)
  clear x0 x1 x2 x3 x4 x5 x6 x7 x8 x9 xz y0 y1 y2 y3 y4 y5 y6 y7 y8 y9 y10 y11 y12 y13 y14 y15 y16 y17 y18 y19 y20 y21 y22 yz a2
  obtain ⟨_, x0, x1, x2, x3, x4, x5, x6, x7, x8, x9, y0, y1, y2, y3, y4, y5, y6, y7, y8, y9, y10, y11, y12, y13, y14, y15, y16, y17, y18, y19, y20, y21, y22⟩ := KS.out w2 A2.out
  obtain ⟨xz, yz⟩ := KZ.out w2 A2.out
  have Q0 := Lib.hid A2.out.drew
  rcases HZ.out with ⟨rfl, rfl⟩ | ⟨rfl, rfl⟩
  · go_wp2_with fail
    clear x0 x1 x2 x3 x4 x5 x6 x7 x8 x9 y0 y1 y2 y3 y4 y5 y6 y7 y8 y9 y10 y11 y12 y13 y14 y15 y16 y17 y18 y19 y20 y21 y22 xz yz
    refine wp_region_held_drew (S := fun V => Aft W V ∧ V.cell? ⟨w.heap.size, 0, none⟩ = some (.int .i64 m.cat.epoch) ∧ V.cell? ⟨w.heap.size, 1, none⟩ = some (.int .i64 m.cat.version) ∧ V.cell? ⟨w.heap.size, 2, none⟩ = some (.slice As m.cat.objs.schemas.length caps) ∧ V.cell? ⟨w.heap.size, 3, none⟩ = some (.slice At m.cat.objs.tables.length capt) ∧ V.cell? ⟨w.heap.size, 4, none⟩ = some (.slice An m.cat.rols.names.length capn) ∧ V.cell? ⟨w.heap.size, 5, none⟩ = some (.slice Am m.cat.rols.members.length capm) ∧ V.cell? ⟨w.heap.size, 6, none⟩ = some (.slice Ag m.cat.grants.length capg) ∧ V.cell? ⟨w.heap.size, 7, none⟩ = some (.slice Ad m.dones.length capd) ∧ V.cell? ⟨w.heap.size, 8, none⟩ = some (.slice Al m.leas.length capl) ∧ V.cell? ⟨w.heap.size, 9, none⟩ = some (.int .i64 m.last) ∧ V.cell? ⟨w.heap.size + 1, 0, none⟩ = some (.int .i64 p.kind) ∧ V.cell? ⟨w.heap.size + 1, 1, none⟩ = some (.int .i64 p.client) ∧ V.cell? ⟨w.heap.size + 1, 2, none⟩ = some (.int .i64 p.number) ∧ V.cell? ⟨w.heap.size + 1, 3, none⟩ = some (.int .i64 p.cmd.kind) ∧ V.cell? ⟨w.heap.size + 1, 4, none⟩ = some (.string p.cmd.actor) ∧ V.cell? ⟨w.heap.size + 1, 5, none⟩ = some (.string p.cmd.schema) ∧ V.cell? ⟨w.heap.size + 1, 6, none⟩ = some (.string p.cmd.table) ∧ V.cell? ⟨w.heap.size + 1, 7, none⟩ = some (.string p.cmd.name) ∧ V.cell? ⟨w.heap.size + 1, 8, none⟩ = some (.string p.cmd.role) ∧ V.cell? ⟨w.heap.size + 1, 9, none⟩ = some (.slice p.cmd.A p.cmd.n p.cmd.c) ∧ V.cell? ⟨w.heap.size + 1, 10, none⟩ = some (.string p.cmd.rname) ∧ V.cell? ⟨w.heap.size + 1, 11, none⟩ = some (.int .i64 p.cmd.rkind) ∧ V.cell? ⟨w.heap.size + 1, 12, none⟩ = some (.slice p.cmd.A2 p.cmd.n2 p.cmd.c2) ∧ V.cell? ⟨w.heap.size + 1, 13, none⟩ = some (.int .i64 p.cmd.low) ∧ V.cell? ⟨w.heap.size + 1, 14, none⟩ = some (.int .i64 p.cmd.high) ∧ V.cell? ⟨w.heap.size + 1, 15, none⟩ = some (.string p.cmd.rs) ∧ V.cell? ⟨w.heap.size + 1, 16, none⟩ = some (.string p.cmd.rt) ∧ V.cell? ⟨w.heap.size + 1, 17, none⟩ = some (.string p.cmd.rk) ∧ V.cell? ⟨w.heap.size + 1, 18, none⟩ = some (.int .i64 p.cmd.right) ∧ V.cell? ⟨w.heap.size + 1, 19, none⟩ = some (.bool p.cmd.opt) ∧ V.cell? ⟨w.heap.size + 1, 20, none⟩ = some (.int .i64 p.node) ∧ V.cell? ⟨w.heap.size + 1, 21, none⟩ = some (.int .i64 p.ask) ∧ V.cell? ⟨w.heap.size + 1, 22, none⟩ = some (.int .i64 p.seq)) (by kernel_rfl) (KS.out _ Q0.out) (fun hHeld => ?_)
    refine wpAnyH_ready (rs := [0]) (by kernel_rfl) (by simp) ?_
    refine AllReadyH.cons rfl (fun K hK => ?_) AllReadyH.nil
    (go_simp; go_at_call 10; refine (fresh19 _).mono ?_; rintro e w4 ⟨rfl, a4⟩; have p4 := Lib.hid (Q0.out.trans a4); clear a4)
    (try dsimp only)
    clear hHeld
    refine hK.out _ _ (KS.out _ p4.out) (fun hHeld => ?_)
    clear hK K
    (try simp only [Act.put, List.setIfInBounds_toArray, List.set_cons_zero, List.set_cons_succ])
    refine wpAnyH_take (i := 1) (v := ?v0_1) rfl (by kernel_rfl) (by kernel_rfl) (by kernel_rfl) (fun _ _ _ h => h) (Or.inl ⟨by rfl, ?hy0_1⟩) hHeld ?rest0_1
    case hy0_1 =>
      intro w hSw
      (try dsimp only at hSw)
      go_simp
      (try with_reducible rfl)
    (try simp only [Act.put, List.setIfInBounds_toArray])
    refine wpAnyH_ready (rs := [2]) (by kernel_rfl) (by simp) ?_
    refine AllReadyH.cons rfl (fun K hK => ?_) AllReadyH.nil
    (go_simp; go_at_call 12; refine (mnew _).mono ?_; rintro e w5 ⟨b1, rfl, a5, N1⟩; have p5 := Lib.hid (p4.out.trans a5); have K1 := Lib.hid N1.cat; clear N1 a5)
    (try dsimp only)
    clear hHeld
    refine hK.out _ _ (KS.out _ p5.out) (fun hHeld => ?_)
    clear hK K
    (try simp only [Act.put, List.setIfInBounds_toArray, List.set_cons_zero, List.set_cons_succ])
    refine wpAnyH_ready (rs := [3]) (by kernel_rfl) (by simp) ?_
    refine AllReadyH.cons rfl (fun K hK => ?_) AllReadyH.nil
    (go_simp; go_at_call 13; refine (rnew19 _).mono ?_; rintro e w6 ⟨b2, rfl, a6, N2⟩; have p6 := Lib.hid (p5.out.trans a6); have K2 := Lib.hid N2.cat; have K3 := Lib.hid (K1.out.aft a6); clear N2 a6)
    (try dsimp only)
    clear hHeld
    refine hK.out _ _ (KS.out _ p6.out) (fun hHeld => ?_)
    clear hK K
    (try simp only [Act.put, List.setIfInBounds_toArray, List.set_cons_zero, List.set_cons_succ])
    refine wpAnyH_ready (rs := [4]) (by kernel_rfl) (by simp) ?_
    refine AllReadyH.cons rfl (fun K hK => ?_) AllReadyH.nil
    (go_simp; go_at_call 11; refine (C5.out _ _ _ K3.out K2.out).mono ?_; rintro e w7 ⟨rfl, a7⟩; have p7 := Lib.hid (p6.out.trans a7); clear a7)
    (try dsimp only)
    clear hHeld
    refine hK.out _ _ (KS.out _ p7.out) (fun hHeld => ?_)
    clear hK K
    (try simp only [Act.put, List.setIfInBounds_toArray, List.set_cons_zero, List.set_cons_succ])
    refine wpAnyH_take (i := 5) (v := ?v0_5) rfl (by kernel_rfl) (by kernel_rfl) (by kernel_rfl) (fun _ _ _ h => h) (Or.inl ⟨by rfl, ?hy0_5⟩) hHeld ?rest0_5
    case hy0_5 =>
      intro w hSw
      (try dsimp only at hSw)
      go_simp
      (try with_reducible rfl)
    (try simp only [Act.put, List.setIfInBounds_toArray])
    refine wpAnyH_take (i := 6) (v := ?v0_6) rfl (by kernel_rfl) (by kernel_rfl) (by kernel_rfl) (fun _ _ _ h => h) (Or.inl ⟨by rfl, ?hy0_6⟩) hHeld ?rest0_6
    case hy0_6 =>
      intro w hSw
      (try dsimp only at hSw)
      go_simp
      (try with_reducible rfl)
    (try simp only [Act.put])
    refine wpAnyH_take (i := 7) (v := ?v0_7) rfl (by kernel_rfl) (by kernel_rfl) (by kernel_rfl) (fun _ _ _ h => h) (Or.inl ⟨by rfl, ?hy0_7⟩) hHeld ?rest0_7
    case hy0_7 =>
      intro w hSw
      (try dsimp only at hSw)
      go_simp
      (try with_reducible rfl)
    (try simp only [Act.put])
    refine wpAnyH_take (i := 8) (v := ?v0_8) rfl (by kernel_rfl) (by kernel_rfl) (by kernel_rfl) (fun _ _ _ h => h) (Or.inl ⟨by rfl, ?hy0_8⟩) hHeld ?rest0_8
    case hy0_8 =>
      intro w hSw
      (try dsimp only at hSw)
      go_simp
      (try with_reducible rfl)
    (try simp only [Act.put])
    refine wpAnyH_take (i := 9) (v := ?v0_9) rfl (by kernel_rfl) (by kernel_rfl) (by kernel_rfl) (fun _ _ _ h => h) (Or.inl ⟨by rfl, ?hy0_9⟩) hHeld ?rest0_9
    case hy0_9 =>
      intro w hSw
      (try dsimp only at hSw)
      go_simp
      (try with_reducible rfl)
    (try simp only [Act.put])
    refine wpAnyH_ready (rs := [10]) (by kernel_rfl) (by simp) ?_
    refine AllReadyH.cons rfl (fun K hK => ?_) AllReadyH.nil
    (go_simp; go_at_call 14; refine (C2.out _ p7.out).mono ?_; rintro e w8 ⟨rfl, a8⟩; have p8 := Lib.hid (p7.out.trans a8); clear a8)
    (try dsimp only)
    clear hHeld
    refine hK.out _ _ (KS.out _ p8.out) (fun hHeld => ?_)
    clear hK K
    (try simp only [Act.put, List.setIfInBounds_toArray, List.set_cons_zero, List.set_cons_succ])
    refine wpAnyH_take (i := 11) (v := ?v0_11) rfl (by kernel_rfl) (by kernel_rfl) (by kernel_rfl) (fun _ _ _ h => h) (Or.inl ⟨by rfl, ?hy0_11⟩) hHeld ?rest0_11
    case hy0_11 =>
      intro w hSw
      (try dsimp only at hSw)
      go_simp
      (try with_reducible rfl)
    (try simp only [Act.put, List.setIfInBounds_toArray])
    refine wpAnyH_take (i := 12) (v := ?v0_12) rfl (by kernel_rfl) (by kernel_rfl) (by kernel_rfl) (fun _ _ _ h => h) (Or.inl ⟨by rfl, ?hy0_12⟩) hHeld ?rest0_12
    case hy0_12 =>
      intro w hSw
      (try dsimp only at hSw)
      go_simp
      (try with_reducible rfl)
    (try simp only [Act.put])
    refine wpAnyH_take (i := 13) (v := ?v0_13) rfl (by kernel_rfl) (by kernel_rfl) (by kernel_rfl) (fun _ _ _ h => h) (Or.inl ⟨by rfl, ?hy0_13⟩) hHeld ?rest0_13
    case hy0_13 =>
      intro w hSw
      (try dsimp only at hSw)
      go_simp
      (try with_reducible rfl)
    (try simp only [Act.put])
    refine wpAnyH_take (i := 14) (v := ?v0_14) rfl (by kernel_rfl) (by kernel_rfl) (by kernel_rfl) (fun _ _ _ h => h) (Or.inl ⟨by rfl, ?hy0_14⟩) hHeld ?rest0_14
    case hy0_14 =>
      intro w hSw
      (try dsimp only at hSw)
      go_simp
      (try with_reducible rfl)
    (try simp only [Act.put])
    refine wpAnyH_take (i := 15) (v := ?v0_15) rfl (by kernel_rfl) (by kernel_rfl) (by kernel_rfl) (fun _ _ _ h => h) (Or.inl ⟨by rfl, ?hy0_15⟩) hHeld ?rest0_15
    case hy0_15 =>
      intro w hSw
      (try dsimp only at hSw)
      go_simp
      (try with_reducible rfl)
    (try simp only [Act.put])
    refine wpAnyH_take (i := 16) (v := ?v0_16) rfl (by kernel_rfl) (by kernel_rfl) (by kernel_rfl) (fun _ _ _ h => h) (Or.inl ⟨by rfl, ?hy0_16⟩) hHeld ?rest0_16
    case hy0_16 =>
      intro w hSw
      (try dsimp only at hSw)
      go_simp
      (try with_reducible rfl)
    (try simp only [Act.put])
    refine wpAnyH_ready (rs := [17]) (by kernel_rfl) (by simp) ?_
    refine AllReadyH.cons rfl (fun K hK => ?_) AllReadyH.nil
    go_simp
    clear hHeld
    refine hK.out _ _ (KS.out _ p8.out) (fun hHeld => ?_)
    clear hK K
    (try simp only [Act.put, List.setIfInBounds_toArray, List.set_cons_zero, List.set_cons_succ])
    refine wpAnyH_ready (rs := [18]) (by kernel_rfl) (by simp) ?_
    refine AllReadyH.cons rfl (fun K hK => ?_) AllReadyH.nil
    go_simp
    clear hHeld
    refine hK.out _ _ (KS.out _ p8.out) (fun hHeld => ?_)
    clear hK K
    (try simp only [Act.put, List.setIfInBounds_toArray, List.set_cons_zero, List.set_cons_succ])
    refine wpAnyH_take (i := 19) (v := ?v0_19) rfl (by kernel_rfl) (by kernel_rfl) (by kernel_rfl) (fun _ _ _ h => h) (Or.inl ⟨by rfl, ?hy0_19⟩) hHeld ?rest0_19
    case hy0_19 =>
      intro w hSw
      (try dsimp only at hSw)
      go_simp
      (try with_reducible rfl)
    (try simp only [Act.put, List.setIfInBounds_toArray])
    refine wpAnyH_take (i := 20) (v := ?v0_20) rfl (by kernel_rfl) (by kernel_rfl) (by kernel_rfl) (fun _ _ _ h => h) (Or.inl ⟨by rfl, ?hy0_20⟩) hHeld ?rest0_20
    case hy0_20 =>
      intro w hSw
      (try dsimp only at hSw)
      go_simp
      (try with_reducible rfl)
    (try simp only [Act.put])
    refine wpAnyH_take (i := 21) (v := ?v0_21) rfl (by kernel_rfl) (by kernel_rfl) (by kernel_rfl) (fun _ _ _ h => h) (Or.inl ⟨by rfl, ?hy0_21⟩) hHeld ?rest0_21
    case hy0_21 =>
      intro w hSw
      (try dsimp only at hSw)
      go_simp
      (try with_reducible rfl)
    (try simp only [Act.put])
    refine wpAnyH_take (i := 22) (v := ?v0_22) rfl (by kernel_rfl) (by kernel_rfl) (by kernel_rfl) (fun _ _ _ h => h) (Or.inl ⟨by rfl, ?hy0_22⟩) hHeld ?rest0_22
    case hy0_22 =>
      intro w hSw
      (try dsimp only at hSw)
      go_simp
      (try with_reducible rfl)
    (try simp only [Act.put])
    refine wpAnyH_take (i := 24) (v := ?v0_24) rfl (by kernel_rfl) (by kernel_rfl) (by kernel_rfl) (fun _ _ _ h => h) (Or.inl ⟨by rfl, ?hy0_24⟩) hHeld ?rest0_24
    case hy0_24 =>
      intro w hSw
      (try dsimp only at hSw)
      go_simp
      (try with_reducible rfl)
    (try simp only [Act.put])
    refine wpAnyH_ready (rs := [23]) (by kernel_rfl) (by simp) ?_
    refine AllReadyH.cons rfl (fun K hK => ?_) AllReadyH.nil
    (go_simp; go_at_call 15; refine (C3.out _).mono ?_; rintro e w9 ⟨rfl, a9⟩; have p9 := Lib.hid (p8.out.trans a9); clear a9)
    (try dsimp only)
    clear hHeld
    refine hK.out _ _ (KS.out _ p9.out) (fun hHeld => ?_)
    clear hK K
    (try simp only [Act.put, List.setIfInBounds_toArray, List.set_cons_zero, List.set_cons_succ])
    refine wpAnyH_ready (rs := [25]) (by kernel_rfl) (by simp) ?_
    refine AllReadyH.cons rfl (fun K hK => ?_) AllReadyH.nil
    (go_simp; go_at_call 16; refine (C4.out _).mono ?_; rintro e w10 ⟨rfl, a10⟩; have p10 := Lib.hid (p9.out.trans a10); clear a10)
    (try dsimp only)
    clear hHeld
    refine hK.out _ _ (KS.out _ p10.out) (fun hHeld => ?_)
    clear hK K
    (try simp only [Act.put, List.setIfInBounds_toArray, List.set_cons_zero, List.set_cons_succ])
    refine wpAnyH_take (i := 26) (v := ?v0_26) rfl (by kernel_rfl) (by kernel_rfl) (by kernel_rfl) (fun _ _ _ h => h) (Or.inl ⟨by rfl, ?hy0_26⟩) hHeld ?rest0_26
    case hy0_26 =>
      intro w hSw
      (try dsimp only at hSw)
      go_simp
      (try with_reducible rfl)
    (try simp only [Act.put, List.setIfInBounds_toArray])
    refine wpAnyH_take (i := 27) (v := ?v0_27) rfl (by kernel_rfl) (by kernel_rfl) (by kernel_rfl) (fun _ _ _ h => h) (Or.inl ⟨by rfl, ?hy0_27⟩) hHeld ?rest0_27
    case hy0_27 =>
      intro w hSw
      (try dsimp only at hSw)
      go_simp
      (try with_reducible rfl)
    (try simp only [Act.put])
    refine wpAnyH_ready (rs := [28]) (by kernel_rfl) (by simp) ?_
    refine AllReadyH.cons rfl (fun K hK => ?_) AllReadyH.nil
    go_simp
    clear hHeld
    refine hK.out _ _ (KS.out _ p10.out) (fun hHeld => ?_)
    clear hK K
    (try simp only [Act.put, List.setIfInBounds_toArray, List.set_cons_zero, List.set_cons_succ])
    refine wpAnyH_done (by kernel_rfl) ?_ _
    go_wp2_with fail
    go_ret
    exact ⟨by cases q <;> rfl, HAW.out.trans p10.out⟩
  · go_wp2_with fail
    clear x0 x1 x2 x3 x4 x5 x6 x7 x8 x9 y0 y1 y2 y3 y4 y5 y6 y7 y8 y9 y10 y11 y12 y13 y14 y15 y16 y17 y18 y19 y20 y21 y22 xz yz
    refine wp_region_held_drew (S := fun V => Aft W V ∧ V.cell? ⟨w.heap.size, 0, none⟩ = some (.int .i64 m.cat.epoch) ∧ V.cell? ⟨w.heap.size, 1, none⟩ = some (.int .i64 m.cat.version) ∧ V.cell? ⟨w.heap.size, 2, none⟩ = some (.slice As m.cat.objs.schemas.length caps) ∧ V.cell? ⟨w.heap.size, 3, none⟩ = some (.slice At m.cat.objs.tables.length capt) ∧ V.cell? ⟨w.heap.size, 4, none⟩ = some (.slice An m.cat.rols.names.length capn) ∧ V.cell? ⟨w.heap.size, 5, none⟩ = some (.slice Am m.cat.rols.members.length capm) ∧ V.cell? ⟨w.heap.size, 6, none⟩ = some (.slice Ag m.cat.grants.length capg) ∧ V.cell? ⟨w.heap.size, 7, none⟩ = some (.slice Ad m.dones.length capd) ∧ V.cell? ⟨w.heap.size, 8, none⟩ = some (.slice Al m.leas.length capl) ∧ V.cell? ⟨w.heap.size, 9, none⟩ = some (.int .i64 m.last) ∧ V.cell? ⟨w.heap.size + 1, 0, none⟩ = some (.int .i64 p.kind) ∧ V.cell? ⟨w.heap.size + 1, 1, none⟩ = some (.int .i64 p.client) ∧ V.cell? ⟨w.heap.size + 1, 2, none⟩ = some (.int .i64 p.number) ∧ V.cell? ⟨w.heap.size + 1, 3, none⟩ = some (.int .i64 p.cmd.kind) ∧ V.cell? ⟨w.heap.size + 1, 4, none⟩ = some (.string p.cmd.actor) ∧ V.cell? ⟨w.heap.size + 1, 5, none⟩ = some (.string p.cmd.schema) ∧ V.cell? ⟨w.heap.size + 1, 6, none⟩ = some (.string p.cmd.table) ∧ V.cell? ⟨w.heap.size + 1, 7, none⟩ = some (.string p.cmd.name) ∧ V.cell? ⟨w.heap.size + 1, 8, none⟩ = some (.string p.cmd.role) ∧ V.cell? ⟨w.heap.size + 1, 9, none⟩ = some (.slice p.cmd.A p.cmd.n p.cmd.c) ∧ V.cell? ⟨w.heap.size + 1, 10, none⟩ = some (.string p.cmd.rname) ∧ V.cell? ⟨w.heap.size + 1, 11, none⟩ = some (.int .i64 p.cmd.rkind) ∧ V.cell? ⟨w.heap.size + 1, 12, none⟩ = some (.slice p.cmd.A2 p.cmd.n2 p.cmd.c2) ∧ V.cell? ⟨w.heap.size + 1, 13, none⟩ = some (.int .i64 p.cmd.low) ∧ V.cell? ⟨w.heap.size + 1, 14, none⟩ = some (.int .i64 p.cmd.high) ∧ V.cell? ⟨w.heap.size + 1, 15, none⟩ = some (.string p.cmd.rs) ∧ V.cell? ⟨w.heap.size + 1, 16, none⟩ = some (.string p.cmd.rt) ∧ V.cell? ⟨w.heap.size + 1, 17, none⟩ = some (.string p.cmd.rk) ∧ V.cell? ⟨w.heap.size + 1, 18, none⟩ = some (.int .i64 p.cmd.right) ∧ V.cell? ⟨w.heap.size + 1, 19, none⟩ = some (.bool p.cmd.opt) ∧ V.cell? ⟨w.heap.size + 1, 20, none⟩ = some (.int .i64 p.node) ∧ V.cell? ⟨w.heap.size + 1, 21, none⟩ = some (.int .i64 p.ask) ∧ V.cell? ⟨w.heap.size + 1, 22, none⟩ = some (.int .i64 p.seq)) (by kernel_rfl) (KS.out _ Q0.out) (fun hHeld => ?_)
    refine wpAnyH_ready (rs := [0]) (by kernel_rfl) (by simp) ?_
    refine AllReadyH.cons rfl (fun K hK => ?_) AllReadyH.nil
    (go_simp; go_at_call 10; refine (fresh19 _).mono ?_; rintro e w4 ⟨rfl, a4⟩; have p4 := Lib.hid (Q0.out.trans a4); clear a4)
    (try dsimp only)
    clear hHeld
    refine hK.out _ _ (KS.out _ p4.out) (fun hHeld => ?_)
    clear hK K
    (try simp only [Act.put, List.setIfInBounds_toArray, List.set_cons_zero, List.set_cons_succ])
    refine wpAnyH_take (i := 1) (v := ?v1_1) rfl (by kernel_rfl) (by kernel_rfl) (by kernel_rfl) (fun _ _ _ h => h) (Or.inl ⟨by rfl, ?hy1_1⟩) hHeld ?rest1_1
    case hy1_1 =>
      intro w hSw
      (try dsimp only at hSw)
      go_simp
      (try with_reducible rfl)
    (try simp only [Act.put, List.setIfInBounds_toArray])
    refine wpAnyH_ready (rs := [2]) (by kernel_rfl) (by simp) ?_
    refine AllReadyH.cons rfl (fun K hK => ?_) AllReadyH.nil
    (go_simp; go_at_call 12; refine (mnew _).mono ?_; rintro e w5 ⟨b1, rfl, a5, N1⟩; have p5 := Lib.hid (p4.out.trans a5); have K1 := Lib.hid N1.cat; clear N1 a5)
    (try dsimp only)
    clear hHeld
    refine hK.out _ _ (KS.out _ p5.out) (fun hHeld => ?_)
    clear hK K
    (try simp only [Act.put, List.setIfInBounds_toArray, List.set_cons_zero, List.set_cons_succ])
    refine wpAnyH_ready (rs := [3]) (by kernel_rfl) (by simp) ?_
    refine AllReadyH.cons rfl (fun K hK => ?_) AllReadyH.nil
    (go_simp; go_at_call 13; refine (rnew19 _).mono ?_; rintro e w6 ⟨b2, rfl, a6, N2⟩; have p6 := Lib.hid (p5.out.trans a6); have K2 := Lib.hid N2.cat; have K3 := Lib.hid (K1.out.aft a6); clear N2 a6)
    (try dsimp only)
    clear hHeld
    refine hK.out _ _ (KS.out _ p6.out) (fun hHeld => ?_)
    clear hK K
    (try simp only [Act.put, List.setIfInBounds_toArray, List.set_cons_zero, List.set_cons_succ])
    refine wpAnyH_ready (rs := [4]) (by kernel_rfl) (by simp) ?_
    refine AllReadyH.cons rfl (fun K hK => ?_) AllReadyH.nil
    (go_simp; go_at_call 11; refine (C5.out _ _ _ K3.out K2.out).mono ?_; rintro e w7 ⟨rfl, a7⟩; have p7 := Lib.hid (p6.out.trans a7); clear a7)
    (try dsimp only)
    clear hHeld
    refine hK.out _ _ (KS.out _ p7.out) (fun hHeld => ?_)
    clear hK K
    (try simp only [Act.put, List.setIfInBounds_toArray, List.set_cons_zero, List.set_cons_succ])
    refine wpAnyH_take (i := 5) (v := ?v1_5) rfl (by kernel_rfl) (by kernel_rfl) (by kernel_rfl) (fun _ _ _ h => h) (Or.inl ⟨by rfl, ?hy1_5⟩) hHeld ?rest1_5
    case hy1_5 =>
      intro w hSw
      (try dsimp only at hSw)
      go_simp
      (try with_reducible rfl)
    (try simp only [Act.put, List.setIfInBounds_toArray])
    refine wpAnyH_take (i := 6) (v := ?v1_6) rfl (by kernel_rfl) (by kernel_rfl) (by kernel_rfl) (fun _ _ _ h => h) (Or.inl ⟨by rfl, ?hy1_6⟩) hHeld ?rest1_6
    case hy1_6 =>
      intro w hSw
      (try dsimp only at hSw)
      go_simp
      (try with_reducible rfl)
    (try simp only [Act.put])
    refine wpAnyH_take (i := 7) (v := ?v1_7) rfl (by kernel_rfl) (by kernel_rfl) (by kernel_rfl) (fun _ _ _ h => h) (Or.inl ⟨by rfl, ?hy1_7⟩) hHeld ?rest1_7
    case hy1_7 =>
      intro w hSw
      (try dsimp only at hSw)
      go_simp
      (try with_reducible rfl)
    (try simp only [Act.put])
    refine wpAnyH_take (i := 8) (v := ?v1_8) rfl (by kernel_rfl) (by kernel_rfl) (by kernel_rfl) (fun _ _ _ h => h) (Or.inl ⟨by rfl, ?hy1_8⟩) hHeld ?rest1_8
    case hy1_8 =>
      intro w hSw
      (try dsimp only at hSw)
      go_simp
      (try with_reducible rfl)
    (try simp only [Act.put])
    refine wpAnyH_take (i := 9) (v := ?v1_9) rfl (by kernel_rfl) (by kernel_rfl) (by kernel_rfl) (fun _ _ _ h => h) (Or.inl ⟨by rfl, ?hy1_9⟩) hHeld ?rest1_9
    case hy1_9 =>
      intro w hSw
      (try dsimp only at hSw)
      go_simp
      (try with_reducible rfl)
    (try simp only [Act.put])
    refine wpAnyH_ready (rs := [10]) (by kernel_rfl) (by simp) ?_
    refine AllReadyH.cons rfl (fun K hK => ?_) AllReadyH.nil
    (go_simp; go_at_call 14; refine (C2.out _ p7.out).mono ?_; rintro e w8 ⟨rfl, a8⟩; have p8 := Lib.hid (p7.out.trans a8); clear a8)
    (try dsimp only)
    clear hHeld
    refine hK.out _ _ (KS.out _ p8.out) (fun hHeld => ?_)
    clear hK K
    (try simp only [Act.put, List.setIfInBounds_toArray, List.set_cons_zero, List.set_cons_succ])
    refine wpAnyH_take (i := 11) (v := ?v1_11) rfl (by kernel_rfl) (by kernel_rfl) (by kernel_rfl) (fun _ _ _ h => h) (Or.inl ⟨by rfl, ?hy1_11⟩) hHeld ?rest1_11
    case hy1_11 =>
      intro w hSw
      (try dsimp only at hSw)
      go_simp
      (try with_reducible rfl)
    (try simp only [Act.put, List.setIfInBounds_toArray])
    refine wpAnyH_take (i := 12) (v := ?v1_12) rfl (by kernel_rfl) (by kernel_rfl) (by kernel_rfl) (fun _ _ _ h => h) (Or.inl ⟨by rfl, ?hy1_12⟩) hHeld ?rest1_12
    case hy1_12 =>
      intro w hSw
      (try dsimp only at hSw)
      go_simp
      (try with_reducible rfl)
    (try simp only [Act.put])
    refine wpAnyH_take (i := 13) (v := ?v1_13) rfl (by kernel_rfl) (by kernel_rfl) (by kernel_rfl) (fun _ _ _ h => h) (Or.inl ⟨by rfl, ?hy1_13⟩) hHeld ?rest1_13
    case hy1_13 =>
      intro w hSw
      (try dsimp only at hSw)
      go_simp
      (try with_reducible rfl)
    (try simp only [Act.put])
    refine wpAnyH_take (i := 14) (v := ?v1_14) rfl (by kernel_rfl) (by kernel_rfl) (by kernel_rfl) (fun _ _ _ h => h) (Or.inl ⟨by rfl, ?hy1_14⟩) hHeld ?rest1_14
    case hy1_14 =>
      intro w hSw
      (try dsimp only at hSw)
      go_simp
      (try with_reducible rfl)
    (try simp only [Act.put])
    refine wpAnyH_take (i := 15) (v := ?v1_15) rfl (by kernel_rfl) (by kernel_rfl) (by kernel_rfl) (fun _ _ _ h => h) (Or.inl ⟨by rfl, ?hy1_15⟩) hHeld ?rest1_15
    case hy1_15 =>
      intro w hSw
      (try dsimp only at hSw)
      go_simp
      (try with_reducible rfl)
    (try simp only [Act.put])
    refine wpAnyH_take (i := 16) (v := ?v1_16) rfl (by kernel_rfl) (by kernel_rfl) (by kernel_rfl) (fun _ _ _ h => h) (Or.inl ⟨by rfl, ?hy1_16⟩) hHeld ?rest1_16
    case hy1_16 =>
      intro w hSw
      (try dsimp only at hSw)
      go_simp
      (try with_reducible rfl)
    (try simp only [Act.put])
    refine wpAnyH_take (i := 17) (v := ?v1_17) rfl (by kernel_rfl) (by kernel_rfl) (by kernel_rfl) (fun _ _ _ h => h) (Or.inl ⟨by rfl, ?hy1_17⟩) hHeld ?rest1_17
    case hy1_17 =>
      intro w hSw
      (try dsimp only at hSw)
      go_simp
      (try with_reducible rfl)
    (try simp only [Act.put])
    refine wpAnyH_ready (rs := [18]) (by kernel_rfl) (by simp) ?_
    refine AllReadyH.cons rfl (fun K hK => ?_) AllReadyH.nil
    go_simp
    clear hHeld
    refine hK.out _ _ (KS.out _ p8.out) (fun hHeld => ?_)
    clear hK K
    (try simp only [Act.put, List.setIfInBounds_toArray, List.set_cons_zero, List.set_cons_succ])
    refine wpAnyH_take (i := 19) (v := ?v1_19) rfl (by kernel_rfl) (by kernel_rfl) (by kernel_rfl) (fun _ _ _ h => h) (Or.inl ⟨by rfl, ?hy1_19⟩) hHeld ?rest1_19
    case hy1_19 =>
      intro w hSw
      (try dsimp only at hSw)
      go_simp
      (try with_reducible rfl)
    (try simp only [Act.put, List.setIfInBounds_toArray])
    refine wpAnyH_take (i := 20) (v := ?v1_20) rfl (by kernel_rfl) (by kernel_rfl) (by kernel_rfl) (fun _ _ _ h => h) (Or.inl ⟨by rfl, ?hy1_20⟩) hHeld ?rest1_20
    case hy1_20 =>
      intro w hSw
      (try dsimp only at hSw)
      go_simp
      (try with_reducible rfl)
    (try simp only [Act.put])
    refine wpAnyH_take (i := 21) (v := ?v1_21) rfl (by kernel_rfl) (by kernel_rfl) (by kernel_rfl) (fun _ _ _ h => h) (Or.inl ⟨by rfl, ?hy1_21⟩) hHeld ?rest1_21
    case hy1_21 =>
      intro w hSw
      (try dsimp only at hSw)
      go_simp
      (try with_reducible rfl)
    (try simp only [Act.put])
    refine wpAnyH_take (i := 22) (v := ?v1_22) rfl (by kernel_rfl) (by kernel_rfl) (by kernel_rfl) (fun _ _ _ h => h) (Or.inl ⟨by rfl, ?hy1_22⟩) hHeld ?rest1_22
    case hy1_22 =>
      intro w hSw
      (try dsimp only at hSw)
      go_simp
      (try with_reducible rfl)
    (try simp only [Act.put])
    refine wpAnyH_take (i := 24) (v := ?v1_24) rfl (by kernel_rfl) (by kernel_rfl) (by kernel_rfl) (fun _ _ _ h => h) (Or.inl ⟨by rfl, ?hy1_24⟩) hHeld ?rest1_24
    case hy1_24 =>
      intro w hSw
      (try dsimp only at hSw)
      go_simp
      (try with_reducible rfl)
    (try simp only [Act.put])
    refine wpAnyH_ready (rs := [23]) (by kernel_rfl) (by simp) ?_
    refine AllReadyH.cons rfl (fun K hK => ?_) AllReadyH.nil
    (go_simp; go_at_call 15; refine (C3.out _).mono ?_; rintro e w9 ⟨rfl, a9⟩; have p9 := Lib.hid (p8.out.trans a9); clear a9)
    (try dsimp only)
    clear hHeld
    refine hK.out _ _ (KS.out _ p9.out) (fun hHeld => ?_)
    clear hK K
    (try simp only [Act.put, List.setIfInBounds_toArray, List.set_cons_zero, List.set_cons_succ])
    refine wpAnyH_ready (rs := [25]) (by kernel_rfl) (by simp) ?_
    refine AllReadyH.cons rfl (fun K hK => ?_) AllReadyH.nil
    (go_simp; go_at_call 16; refine (C4.out _).mono ?_; rintro e w10 ⟨rfl, a10⟩; have p10 := Lib.hid (p9.out.trans a10); clear a10)
    (try dsimp only)
    clear hHeld
    refine hK.out _ _ (KS.out _ p10.out) (fun hHeld => ?_)
    clear hK K
    (try simp only [Act.put, List.setIfInBounds_toArray, List.set_cons_zero, List.set_cons_succ])
    refine wpAnyH_take (i := 26) (v := ?v1_26) rfl (by kernel_rfl) (by kernel_rfl) (by kernel_rfl) (fun _ _ _ h => h) (Or.inl ⟨by rfl, ?hy1_26⟩) hHeld ?rest1_26
    case hy1_26 =>
      intro w hSw
      (try dsimp only at hSw)
      go_simp
      (try with_reducible rfl)
    (try simp only [Act.put, List.setIfInBounds_toArray])
    refine wpAnyH_take (i := 27) (v := ?v1_27) rfl (by kernel_rfl) (by kernel_rfl) (by kernel_rfl) (fun _ _ _ h => h) (Or.inl ⟨by rfl, ?hy1_27⟩) hHeld ?rest1_27
    case hy1_27 =>
      intro w hSw
      (try dsimp only at hSw)
      go_simp
      (try with_reducible rfl)
    (try simp only [Act.put])
    refine wpAnyH_ready (rs := [28]) (by kernel_rfl) (by simp) ?_
    refine AllReadyH.cons rfl (fun K hK => ?_) AllReadyH.nil
    go_simp
    clear hHeld
    refine hK.out _ _ (KS.out _ p10.out) (fun hHeld => ?_)
    clear hK K
    (try simp only [Act.put, List.setIfInBounds_toArray, List.set_cons_zero, List.set_cons_succ])
    refine wpAnyH_done (by kernel_rfl) ?_ _
    go_wp2_with fail
    go_ret
    exact ⟨by cases q <;> rfl, HAW.out.trans p10.out⟩
end Go.Proofs.YtgkhmnamkfgciaaGreat
