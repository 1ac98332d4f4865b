/- Contracts of the program, part 17. -/
import Derived.Laws.StructEq
import Derived.Deep.AppendLies
import Derived.Deep.DeepMust
import Derived.OwnWalk
import Derived.Laws.AppendOwn
import Derived.ProofKit
import Derived.OpenShut
import Derived.Deep.Slices
import Derived.ChangeOld
import Derived.SizedLaws
import Derived.WalkKit
import Derived.WalkSpells
import Derived.WalkLawsBesides
import Derived.Lib.Hide
import Derived.Deep.QuietTactic
import Derived.BigQuiet
import Derived.Below
import Derived.Deep.Draws
import Derived.StillTailTactics
import Derived.Laws.Cells
import Derived.Laws.IdiomCopy
import Derived.Test.YtlklmekapbojdaaGreatRows
import Derived.Lib.Walk
import Derived.Laws.EntriesVeiled
import Derived.Maps.Own
import Derived.Maps.Views
import Derived.Deep.Upon
import Derived.OneCell
import Derived.OrdersHeld
import Derived.Deep.RegionHeld3
import Derived.IntWalk
import Derived.Lib.Bytealg
import Derived.Lib.SliceRun
import Derived.Deep.RegionLaw
import Derived.Lib.AppendZerosOnto
import Derived.Lib.Overlaps
import Derived.Shelf.SlSortCmp.WholeK
import Derived.WalkMore
import Derived.WideKeyEntry
import Derived.DeepKeys3
import Derived.ChangeKeys
import Derived.Test.YtlklmekapbojdaaGreatPartL1
import Derived.Test.YtlklmekapbojdaaGreatPartL2
import Derived.Test.YtlklmekapbojdaaGreatPartL3
import Derived.Test.YtlklmekapbojdaaGreatPartL4
import Derived.Test.YtlklmekapbojdaaGreatPartL5
import Derived.Test.YtlklmekapbojdaaGreatPartL6
import Derived.Test.YtlklmekapbojdaaGreatPartL7
import Derived.Test.YtlklmekapbojdaaGreatPartL8
import Derived.Test.YtlklmekapbojdaaGreatPartL9
import Derived.Test.YtlklmekapbojdaaGreatPartL10
namespace Go.Proofs.YtlklmekapbojdaaGreat
open Go.RowKit
set_option maxRecDepth 100000
set_option linter.unusedVariables false
def graE (a b : Gra) : Bool := gra6 a.schema a.table a.right a.giver a.to a.opt b.schema b.table b.right b.giver b.to b.opt
theorem graE_iff (a b : Gra) : graE a b = true ↔ a = b := by
  unfold graE gra6
  simp only [Bool.and_eq_true, eqS_iff, beq_iff_eq]
  constructor
  · rintro ⟨h1, h2, h3, h4, h5, h6⟩
    cases a; cases b; simp_all
  · rintro rfl; simp
end Go.Proofs.YtlklmekapbojdaaGreat

namespace Go.Proofs.YtlklmekapbojdaaGreat
open Go.RowKit Go.Deep
set_option maxRecDepth 100000
set_option linter.unusedVariables false
/-- the same grants -/
def eqGs : List Gra → List Gra → Bool
  | [], [] => true
  | a :: l, b :: m => graE a b && eqGs l m
  | _, _ => false
theorem eqGs_iff : ∀ (l m : List Gra), eqGs l m = true ↔ l = m
  | [], [] => by simp [eqGs]
  | [], b :: m => by simp [eqGs]
  | a :: l, [] => by simp [eqGs]
  | a :: l, b :: m => by rw [eqGs, Bool.and_eq_true, graE_iff, eqGs_iff l m, List.cons.injEq]
theorem eqGs_no (l m : List Gra) (k : Nat) (h1 : k < l.length) (h2 : k < m.length) (h : graE l[k] m[k] = false) : eqGs l m = false := by
  rw [Bool.eq_false_iff]
  intro e
  have := (eqGs_iff l m).1 e
  subst this
  rw [(graE_iff _ _).2 rfl] at h; cases h
theorem eqGs_len (l m : List Gra) (h : ¬ l.length = m.length) : eqGs l m = false := by
  rw [Bool.eq_false_iff]
  exact fun e => h (by rw [(eqGs_iff l m).1 e])
theorem eqGs_yes (l m : List Gra) (hl : l.length = m.length) (h : ∀ k (h1 : k < l.length) (h2 : k < m.length), graE l[k] m[k] = true) : eqGs l m = true :=
  (eqGs_iff l m).2 (List.ext_getElem hl fun k h1 h2 => (graE_iff _ _).1 (h k h1 h2))
set_option maxHeartbeats 4000000 in
theorem rgrants (l m : List Gra) (A : Option Addr) (cap : Nat) (B : Option Addr) (capB : Nat) (w : World) (h : SlAt w 6 GraR A cap l) (h2 : SlAt w 6 GraR B capB m) :
    Calls Tryz.prog 76 #[.slice A l.length cap, .slice B m.length capB] w fun e w' => e = .returned (.bool (eqGs l m)) ∧ Aft w w' := by
  have hlen := h.len
  have hlen2 := h2.len
  have HL := Lib.hid (And.intro h h2)
  go_enter Tryz.func76, Tryz.ntmps76
  by_cases hlm : l.length = m.length
  case neg =>
    have HN := Lib.hid (eqGs_len l m hlm)
    have hne : ((l.length : Int) != (m.length : Int)) = true := by simp; omega
    clear h h2
    go_wp2_with fail
    go_ret
    exact ⟨by rw [HN.out]; rfl, Aft.refl _⟩
  have hne : ((l.length : Int) != (m.length : Int)) = false := by simp; omega
  have HLM := Lib.hid hlm
  have hle1 : ∀ k : Nat, k < l.length → k < m.length := fun k hk => by omega
  have hml := Lib.hid hle1
  clear hlm h h2 hle1
  go_wp2_with fail
  go_loopw [5] (fun i wr => ∃ k : Nat, k ≤ l.length ∧ i = .int .i64 k ∧ Aft w wr ∧ ∀ j, j < k → ∀ (h1 : j < l.length) (h2 : j < m.length), graE l[j] m[j] = true) (fun i _ => l.length - (intOf i).toNat)
  case atStart => exact ⟨0, Nat.zero_le _, rfl, Aft.refl _, fun j hj => absurd hj (Nat.not_lt_zero j)⟩
  case round =>
    obtain ⟨k, hk, rfl, ha, hp⟩ := hrel
    have HA := Lib.hid ha
    have HP := Lib.hid hp
    by_cases hlt : k < l.length
    · have hlt2 := hml.out k hlt
      obtain ⟨b, off, rfl, hb, t0, t1, t2, t3, t4, t5, _⟩ := gra_at (gras_aft ha HL.out.1) hlt
      obtain ⟨b2, off2, rfl, hb2, s0, s1, s2, s3, s4, s5, _⟩ := gra_at (gras_aft ha HL.out.2) hlt2
      obtain ⟨x, hx⟩ : ∃ x, l[k] = x := ⟨_, rfl⟩
      obtain ⟨y, hy⟩ : ∃ y, m[k] = y := ⟨_, rfl⟩
      rw [hx] at t0 t1 t2 t3 t4 t5
      rw [hy] at s0 s1 s2 s3 s4 s5
      obtain ⟨q, hq⟩ : ∃ q, gra6 x.schema x.table x.right x.giver x.to x.opt y.schema y.table y.right y.giver y.to y.opt = q := ⟨_, rfl⟩
      have HQ := Lib.hid (show graE l[k] m[k] = q by rw [hx, hy]; exact hq)
      clear ha hp hx hy
      cases q
      all_goals
        go_wp2_with fail
        refine wp_region_lat (by kernel_rfl) (by kernel_rfl) ?_
        repeat (go_big_quiet_step (fail))
        refine wpQuiet_nil ?_
        intro _ hw'
        obtain ⟨y', hw''⟩ := hw'
        subst hw''
      · go_wp2_with fail
        go_ret
        exact ⟨by rw [eqGs_no l m k hlt hlt2 HQ.out]; rfl, HA.out.lat y'⟩
      · go_wp2_with fail
        go_roundw
        case rel => exact ⟨k + 1, by omega, by go_num, HA.out.lat y', ext_lt (p := fun j => ∀ (h1 : j < l.length) (h2 : j < m.length), graE l[j] m[j] = true) HP.out (fun _ _ => HQ.out)⟩
        case measure => simp [intOf]; omega
    · clear ha hp
      go_wp2_with fail
      go_ret
      exact ⟨by rw [eqGs_yes l m HLM.out fun j h1 h2 => HP.out j (by omega) h1 h2]; rfl, HA.out⟩
end Go.Proofs.YtlklmekapbojdaaGreat

namespace Go.Proofs.YtlklmekapbojdaaGreat
open Go.RowKit
set_option maxRecDepth 100000
set_option linter.unusedVariables false
set_option maxHeartbeats 8000000 in
theorem sameT_any (t : Tab) (A : Option Addr) (cap : Nat) (A2 : Option Addr) (cap2 : Nat) (B : Option Addr) (capB : Nat) (B2 : Option Addr) (capB2 : Nat) (w : World) (h1 : SlAt w 3 ColR A cap t.cols) (h2 : SlAt w 8 RulR A2 cap2 t.rules) (h3 : SlAt w 3 ColR B capB t.cols) (h4 : SlAt w 8 RulR B2 capB2 t.rules) :
    Calls Tryz.prog 52 #[.agg #[.string t.schema, .string t.name, .string t.owner, .slice A t.cols.length cap, .slice A2 t.rules.length cap2], .agg #[.string t.schema, .string t.name, .string t.owner, .slice B t.cols.length capB, .slice B2 t.rules.length capB2]] w
      fun e w' => e = .returned (.bool true) ∧ Aft w w' := by
  have hlen := h1.len
  have hlen2 := h2.len
  obtain ⟨W, hW⟩ : ∃ W, W = (w.alloc (.cells #[.string t.schema, .string t.name, .string t.owner, .slice A t.cols.length cap, .slice A2 t.rules.length cap2] 89)).alloc (.cells #[.string t.schema, .string t.name, .string t.owner, .slice B t.cols.length capB, .slice B2 t.rules.length capB2] 89) := ⟨_, rfl⟩
  have aW : Aft w W := by rw [hW]; exact ((Aft.refl w).alloc _).alloc _
  have hbb := aft_box2 (w := w) (w1 := W) (by rw [← hW]; exact Aft.refl W)
  obtain ⟨ha0, hb0, hz, _⟩ := hbb
  have HAW := Lib.hid aW
  go_enter Tryz.func52, Tryz.ntmps52
  go_wp2_with fail
  rw [← hW]
  clear hW
  go_loopw [5] (fun i wr => ∃ k : Nat, k ≤ t.cols.length ∧ i = .int .i64 k ∧ Aft W wr) (fun i _ => t.cols.length - (intOf i).toNat)
  case atStart => exact ⟨0, Nat.zero_le _, rfl, Aft.refl _⟩
  case round =>
    obtain ⟨k, hk, rfl, ha⟩ := hrel
    have x3 := ha.cell_kept (show W.cell? ⟨w.heap.size, 3, none⟩ = some (.slice A t.cols.length cap) from ha0 3)
    have y3 := ha.cell_kept (show W.cell? ⟨w.heap.size + 1, 3, none⟩ = some (.slice B t.cols.length capB) from hb0 3)
    have HAR := Lib.hid ha
    by_cases hlt : k < t.cols.length
    · obtain ⟨b, off, rfl, hb, c0, c1, c2, _⟩ := col_at (cols_aft (HAW.out.trans ha) h1) hlt
      obtain ⟨b2, off2, rfl, hb2, d0, d1, d2, _⟩ := col_at (cols_aft (HAW.out.trans ha) h3) hlt
      have lx := World.block_lt_of_cell? _ _ x3
      have ly := World.block_lt_of_cell? _ _ y3
      clear ha
      go_wp2_with fail
      refine wp_region_lat (by kernel_rfl) (by kernel_rfl) ?_
      repeat (go_big_quiet_step (fail))
      refine wpQuiet_nil ?_
      intro _ hw'
      obtain ⟨x, hw''⟩ := hw'
      subst hw''
      go_wp2_with fail
      go_roundw
      case rel => exact ⟨k + 1, by omega, by go_num, HAR.out.lat x⟩
      case measure => simp [intOf]; omega
    go_wp2_with fail
    go_loopw [6] (fun i wrr => ∃ k : Nat, k ≤ t.rules.length ∧ i = .int .i64 k ∧ Aft W wrr) (fun i _ => t.rules.length - (intOf i).toNat)
    case atStart => exact ⟨0, Nat.zero_le _, rfl, ha⟩
    case round =>
      clear ha HAR x3 y3
      obtain ⟨k2, hk2, rfl, ha⟩ := hrel
      have x4 := ha.cell_kept (show W.cell? ⟨w.heap.size, 4, none⟩ = some (.slice A2 t.rules.length cap2) from ha0 4)
      have y4 := ha.cell_kept (show W.cell? ⟨w.heap.size + 1, 4, none⟩ = some (.slice B2 t.rules.length capB2) from hb0 4)
      have HAR := Lib.hid ha
      by_cases hlt2 : k2 < t.rules.length
      · obtain ⟨b, off, D, capD, rfl, hb, c0, c1, c2, c3, c4, c5, c6, c7, hcs, _⟩ := rul_at (ruls_aft (HAW.out.trans ha) h2) hlt2
        obtain ⟨b2, off2, E, capE, rfl, hb2, d0, d1, d2, d3, d4, d5, d6, d7, hds, _⟩ := rul_at (ruls_aft (HAW.out.trans ha) h4) hlt2
        obtain ⟨p, hpp⟩ : ∃ p, t.rules[k2] = p := ⟨_, rfl⟩
        rw [hpp] at c0 c1 c2 c3 c4 c5 c6 c7 hcs d0 d1 d2 d3 d4 d5 d6 d7 hds
        have hlp := hcs.len
        have lx : w.heap.size < wr.heap.size := World.block_lt_of_cell? _ _ x4
        have ly : w.heap.size + 1 < wr.heap.size := World.block_lt_of_cell? _ _ y4
        have lyy : w.heap.size + 1 < wr.heap.size + 1 := by omega
        have lb2 : b2 < wr.heap.size + 1 := by omega
        obtain ⟨V, hV⟩ : ∃ V, V = (wr.alloc (.cells #[.string p.name, .int .i64 p.kind, .slice D p.cols.length capD, .int .i64 p.low, .int .i64 p.high, .string p.schema, .string p.table, .string p.key] 121)).alloc (.cells #[.string p.name, .int .i64 p.kind, .slice E p.cols.length capE, .int .i64 p.low, .int .i64 p.high, .string p.schema, .string p.table, .string p.key] 121) := ⟨_, rfl⟩
        have aV : Aft wr V := by rw [hV]; exact ((Aft.refl wr).alloc _).alloc _
        obtain ⟨va0, vb0, vz, _⟩ := aft_box2 (w := wr) (w1 := V) (by rw [← hV]; exact Aft.refl V)
        have HAV := Lib.hid (HAR.out.trans aV)
        have hcsV := strs_aft aV hcs
        have hdsV := strs_aft aV hds
        obtain ⟨n1, hn1⟩ : ∃ n, n = wr.heap.size := ⟨_, rfl⟩
        have l1 : wr.heap.size < wr.heap.size + 1 := by omega
        have l2 : wr.heap.size < wr.heap.size + 1 + 1 := by omega
        clear hpp aV
        go_wp2_with fail
        rw [← hV]
        clear hV c0 c1 c2 c3 c4 c5 c6 c7 d0 d1 d2 d3 d4 d5 d6 d7 x4 y4 hcs hds
        have z2 : V.cell? ⟨wr.heap.size, 2, none⟩ = some (.slice D p.cols.length capD) := va0 2
        have u2 : V.cell? ⟨wr.heap.size + 1, 2, none⟩ = some (.slice E p.cols.length capE) := vb0 2
        rw [← hn1] at z2 u2 ⊢
        clear va0 vb0 vz hn1 ha
        go_wp2_with fail
        go_loopw [9] (fun i wrr => ∃ k : Nat, k ≤ p.cols.length ∧ i = .int .i64 k ∧ Aft V wrr) (fun i _ => p.cols.length - (intOf i).toNat)
        case atStart => exact ⟨0, Nat.zero_le _, rfl, Aft.refl _⟩
        case round =>
          obtain ⟨k3, hk3, rfl, ha⟩ := hrel
          have HA3 := Lib.hid ha
          have z2' := ha.cell_kept z2
          have u2' := ha.cell_kept u2
          by_cases hlt3 : k3 < p.cols.length
          · obtain ⟨b5, off5, hD, hb5, g5, _⟩ := str_at (strs_aft ha hcsV) hlt3
            subst hD
            obtain ⟨b6, off6, hE, hb6, g6, _⟩ := str_at (strs_aft ha hdsV) hlt3
            subst hE
            have lz := World.block_lt_of_cell? _ _ z2'
            have lu := World.block_lt_of_cell? _ _ u2'
            clear ha
            go_wp2_with fail
            refine wp_region_lat (by kernel_rfl) (by kernel_rfl) ?_
            repeat (go_big_quiet_step (fail))
            refine wpQuiet_nil ?_
            intro _ hw'
            obtain ⟨x, hw''⟩ := hw'
            subst hw''
            go_wp2_with fail
            go_roundw
            case rel => exact ⟨k3 + 1, by omega, by go_num, HA3.out.lat x⟩
            case measure => simp [intOf]; omega
          · clear ha
            go_wp2_with fail
            go_roundw
            case rel => exact ⟨k2 + 1, by omega, by go_num, HAV.out.trans HA3.out⟩
            case measure => simp [intOf]; omega
      · clear ha
        go_wp2_with fail
        go_ret
        exact ⟨rfl, HAW.out.trans HAR.out⟩
set_option maxHeartbeats 8000000 in
theorem sameO_any (o : Objs) (A : Option Addr) (cap : Nat) (A2 : Option Addr) (cap2 : Nat) (B : Option Addr) (capB : Nat) (B2 : Option Addr) (capB2 : Nat) (w : World) (h1 : SlAt w 2 SchR A cap o.schemas) (h2 : SlAt w 5 TabR A2 cap2 o.tables) (h3 : SlAt w 2 SchR B capB o.schemas) (h4 : SlAt w 5 TabR B2 capB2 o.tables) :
    Calls Tryz.prog 16 #[.agg #[.slice A o.schemas.length cap, .slice A2 o.tables.length cap2], .agg #[.slice B o.schemas.length capB, .slice B2 o.tables.length capB2]] w
      fun e w' => e = .returned (.bool true) ∧ Aft w w' := by
  have hlen := h1.len
  have hlen2 := h2.len
  obtain ⟨W, hW⟩ : ∃ W, W = (w.alloc (.cells #[.slice A o.schemas.length cap, .slice A2 o.tables.length cap2] 29)).alloc (.cells #[.slice B o.schemas.length capB, .slice B2 o.tables.length capB2] 29) := ⟨_, rfl⟩
  have aW : Aft w W := by rw [hW]; exact ((Aft.refl w).alloc _).alloc _
  obtain ⟨ha0, hb0, hz, _⟩ := aft_box2 (w := w) (w1 := W) (by rw [← hW]; exact Aft.refl W)
  have HAW := Lib.hid aW
  go_enter Tryz.func16, Tryz.ntmps16
  go_wp2_with fail
  rw [← hW]
  clear hW
  go_loopw [5] (fun i wr => ∃ k : Nat, k ≤ o.schemas.length ∧ i = .int .i64 k ∧ Aft W wr) (fun i _ => o.schemas.length - (intOf i).toNat)
  case atStart => exact ⟨0, Nat.zero_le _, rfl, Aft.refl _⟩
  case round =>
    obtain ⟨k, hk, rfl, ha⟩ := hrel
    have x3 := ha.cell_kept (show W.cell? ⟨w.heap.size, 0, none⟩ = some (.slice A o.schemas.length cap) from ha0 0)
    have y3 := ha.cell_kept (show W.cell? ⟨w.heap.size + 1, 0, none⟩ = some (.slice B o.schemas.length capB) from hb0 0)
    have HAR := Lib.hid ha
    by_cases hlt : k < o.schemas.length
    · obtain ⟨b, off, rfl, hb, c0, c1, _⟩ := sch_at (schs_aft (HAW.out.trans ha) h1) hlt
      obtain ⟨b2, off2, rfl, hb2, d0, d1, _⟩ := sch_at (schs_aft (HAW.out.trans ha) h3) hlt
      have lx := World.block_lt_of_cell? _ _ x3
      have ly := World.block_lt_of_cell? _ _ y3
      clear ha
      go_wp2_with fail
      refine wp_region_lat (by kernel_rfl) (by kernel_rfl) ?_
      repeat (go_big_quiet_step (fail))
      refine wpQuiet_nil ?_
      intro _ hw'
      obtain ⟨x, hw''⟩ := hw'
      subst hw''
      go_wp2_with fail
      go_roundw
      case rel => exact ⟨k + 1, by omega, by go_num, HAR.out.lat x⟩
      case measure => simp [intOf]; omega
    go_wp2_with fail
    go_loopw [6] (fun i wrr => ∃ k : Nat, k ≤ o.tables.length ∧ i = .int .i64 k ∧ Aft W wrr) (fun i _ => o.tables.length - (intOf i).toNat)
    case atStart => exact ⟨0, Nat.zero_le _, rfl, ha⟩
    case round =>
      clear ha HAR x3 y3
      obtain ⟨k2, hk2, rfl, ha⟩ := hrel
      have x4 := ha.cell_kept (show W.cell? ⟨w.heap.size, 1, none⟩ = some (.slice A2 o.tables.length cap2) from ha0 1)
      have y4 := ha.cell_kept (show W.cell? ⟨w.heap.size + 1, 1, none⟩ = some (.slice B2 o.tables.length capB2) from hb0 1)
      have HAR := Lib.hid ha
      by_cases hlt2 : k2 < o.tables.length
      · obtain ⟨b, off, D, capD, D2, capD2, rfl, hb, c0, c1, c2, c3, c4, hcc, hcr, _⟩ := tab_at (tabs_aft (HAW.out.trans ha) h2) hlt2
        obtain ⟨b2, off2, E, capE, E2, capE2, rfl, hb2, d0, d1, d2, d3, d4, hdc, hdr, _⟩ := tab_at (tabs_aft (HAW.out.trans ha) h4) hlt2
        have lx : w.heap.size < wr.heap.size := World.block_lt_of_cell? _ _ x4
        have ly : w.heap.size + 1 < wr.heap.size := World.block_lt_of_cell? _ _ y4
        have Cs := Lib.hid (show ∀ x : Lat wr, _ from fun x => sameT_any o.tables[k2] D capD D2 capD2 E capE E2 capE2 (lat wr x) (cols_aft ((Aft.refl wr).lat x) hcc) (ruls_aft ((Aft.refl wr).lat x) hcr) (cols_aft ((Aft.refl wr).lat x) hdc) (ruls_aft ((Aft.refl wr).lat x) hdr))
        clear ha hcc hcr hdc hdr
        go_wp2_with fail
        refine wp_region_lat (by kernel_rfl) (by kernel_rfl) ?_
        repeat (go_big_quiet_step ((first | (go_at_call 52; exact Calls.lat_of (Cs.out _)))))
        refine wpQuiet_nil ?_
        intro _ hw'
        obtain ⟨x, hw''⟩ := hw'
        subst hw''
        go_wp2_with fail
        go_roundw
        case rel => exact ⟨k2 + 1, by omega, by go_num, HAR.out.lat x⟩
        case measure => simp [intOf]; omega
      · clear ha
        go_wp2_with fail
        go_ret
        exact ⟨rfl, HAW.out.trans HAR.out⟩
end Go.Proofs.YtlklmekapbojdaaGreat

namespace Go.Proofs.YtlklmekapbojdaaGreat
open Go.RowKit Go.Deep
set_option maxRecDepth 100000
set_option linter.unusedVariables false
set_option maxHeartbeats 8000000 in
theorem same8 (r : Rls) (An : Option Addr) (capn : Nat) (Am : Option Addr) (capm : Nat) (Bn : Option Addr) (capbn : Nat) (Bm : Option Addr) (capbm : Nat) (w : World) (h1 : SlAt w 1 StrR An capn r.names) (h2 : SlAt w 2 MbrR Am capm r.members) (h3 : SlAt w 1 StrR Bn capbn r.names) (h4 : SlAt w 2 MbrR Bm capbm r.members) :
    Calls Tryz.prog 75 #[.agg #[.slice An r.names.length capn, .slice Am r.members.length capm], .agg #[.slice Bn r.names.length capbn, .slice Bm r.members.length capbm]] w
      fun e w' => e = .returned (.bool true) ∧ Aft w w' := by
  have hlen := h1.len
  have hlen2 := h2.len
  obtain ⟨W, hW⟩ : ∃ W, W = (w.alloc (.cells #[.slice An r.names.length capn, .slice Am r.members.length capm] 63)).alloc (.cells #[.slice Bn r.names.length capbn, .slice Bm r.members.length capbm] 63) := ⟨_, rfl⟩
  have aW : Aft w W := by rw [hW]; exact ((Aft.refl w).alloc _).alloc _
  have hbb := aft_box2 (w := w) (w1 := W) (by rw [← hW]; exact Aft.refl W)
  obtain ⟨ha0, hb0, hz, _⟩ := hbb
  have HAW := Lib.hid aW
  have l1 : w.heap.size < w.heap.size + 1 + 1 := by omega
  go_enter Tryz.func75, Tryz.ntmps75
  go_wp2_with fail
  rw [← hW]
  clear hW
  go_loopw [5] (fun i wr => ∃ k : Nat, k ≤ r.names.length ∧ i = .int .i64 k ∧ Aft W wr) (fun i _ => r.names.length - (intOf i).toNat)
  case atStart => exact ⟨0, Nat.zero_le _, rfl, Aft.refl _⟩
  case round =>
    obtain ⟨k, hk, rfl, ha⟩ := hrel
    have x3 := ha.cell_kept (show W.cell? ⟨w.heap.size, 0, none⟩ = some (.slice An r.names.length capn) from ha0 0)
    have y3 := ha.cell_kept (show W.cell? ⟨w.heap.size + 1, 0, none⟩ = some (.slice Bn r.names.length capbn) from hb0 0)
    have lx : w.heap.size < wr.heap.size := World.block_lt_of_cell? _ _ x3
    have ly : w.heap.size + 1 < wr.heap.size := World.block_lt_of_cell? _ _ y3
    have HAR := Lib.hid ha
    by_cases hlt : k < r.names.length
    · obtain ⟨b, off, rfl, hb, c0, _⟩ := str_at (strs_aft (HAW.out.trans ha) h1) hlt
      obtain ⟨b2, off2, rfl, hb2, d0, _⟩ := str_at (strs_aft (HAW.out.trans ha) h3) hlt
      clear ha
      go_wp2_with fail
      refine wp_region_lat (by kernel_rfl) (by kernel_rfl) ?_
      repeat (go_big_quiet_step (fail))
      refine wpQuiet_nil ?_
      intro _ hw'
      obtain ⟨x, hw''⟩ := hw'
      subst hw''
      go_wp2_with fail
      go_roundw
      case rel => exact ⟨k + 1, by omega, by go_num, HAR.out.lat x⟩
      case measure => simp [intOf]; omega
    go_wp2_with fail
    go_loopw [6] (fun i wrr => ∃ k : Nat, k ≤ r.members.length ∧ i = .int .i64 k ∧ Aft W wrr) (fun i _ => r.members.length - (intOf i).toNat)
    case atStart => exact ⟨0, Nat.zero_le _, rfl, ha⟩
    case round =>
      clear ha HAR x3 y3 lx ly
      obtain ⟨k2, hk2, rfl, ha⟩ := hrel
      have x4 := ha.cell_kept (show W.cell? ⟨w.heap.size, 1, none⟩ = some (.slice Am r.members.length capm) from ha0 1)
      have y4 := ha.cell_kept (show W.cell? ⟨w.heap.size + 1, 1, none⟩ = some (.slice Bm r.members.length capbm) from hb0 1)
      have lx : w.heap.size < wr.heap.size := World.block_lt_of_cell? _ _ x4
      have ly : w.heap.size + 1 < wr.heap.size := World.block_lt_of_cell? _ _ y4
      have HAR := Lib.hid ha
      by_cases hlt2 : k2 < r.members.length
      · obtain ⟨b, off, rfl, hb, c0, c1, _, _⟩ := mbr_at (mbrs_aft (HAW.out.trans ha) h2) hlt2
        obtain ⟨b2, off2, rfl, hb2, d0, d1, _, _⟩ := mbr_at (mbrs_aft (HAW.out.trans ha) h4) hlt2
        clear ha
        go_wp2_with fail
        refine wp_region_lat (by kernel_rfl) (by kernel_rfl) ?_
        repeat (go_big_quiet_step (fail))
        refine wpQuiet_nil ?_
        intro _ hw'
        obtain ⟨x, hw''⟩ := hw'
        subst hw''
        go_wp2_with fail
        go_roundw
        case rel => exact ⟨k2 + 1, by omega, by go_num, HAR.out.lat x⟩
        case measure => simp [intOf]; omega
      · clear ha
        go_wp2_with fail
        go_ret
        exact ⟨rfl, HAW.out.trans HAR.out⟩
end Go.Proofs.YtlklmekapbojdaaGreat

namespace Go.Proofs.YtlklmekapbojdaaGreat
open Go.RowKit Go.Deep
set_option maxRecDepth 100000
set_option linter.unusedVariables false
set_option maxHeartbeats 16000000 in
theorem same9 (c : Cat) (As : Option Addr) (caps : Nat) (At : Option Addr) (capt : Nat) (An : Option Addr) (capn : Nat) (Am : Option Addr) (capm : Nat) (Ag : Option Addr) (capg : Nat) (Bs : Option Addr) (bcs : Nat) (Bt : Option Addr) (bct : Nat) (Bn : Option Addr) (bcn : Nat) (Bm : Option Addr) (bcm : Nat) (Bg : Option Addr) (bcg : Nat) (w : World) (H : CatAt w c As caps At capt An capn Am capm Ag capg) (K : CatAt w c Bs bcs Bt bct Bn bcn Bm bcm Bg bcg) :
    Calls Tryz.prog 31 #[.agg #[.int .i64 c.epoch, .int .i64 c.version, .slice As c.objs.schemas.length caps, .slice At c.objs.tables.length capt, .slice An c.rols.names.length capn, .slice Am c.rols.members.length capm, .slice Ag c.grants.length capg], .agg #[.int .i64 c.epoch, .int .i64 c.version, .slice Bs c.objs.schemas.length bcs, .slice Bt c.objs.tables.length bct, .slice Bn c.rols.names.length bcn, .slice Bm c.rols.members.length bcm, .slice Bg c.grants.length bcg]] w fun e w' => e = .returned (.bool true) ∧ Aft w w' := by
  have l1 : w.heap.size < w.heap.size + 1 := by omega
  have l2 : w.heap.size < w.heap.size + 1 + 1 := by omega
  obtain ⟨W, hW⟩ : ∃ W, W = (w.alloc (.cells #[.int .i64 c.epoch, .int .i64 c.version, .slice As c.objs.schemas.length caps, .slice At c.objs.tables.length capt, .slice An c.rols.names.length capn, .slice Am c.rols.members.length capm, .slice Ag c.grants.length capg] 66)).alloc (.cells #[.int .i64 c.epoch, .int .i64 c.version, .slice Bs c.objs.schemas.length bcs, .slice Bt c.objs.tables.length bct, .slice Bn c.rols.names.length bcn, .slice Bm c.rols.members.length bcm, .slice Bg c.grants.length bcg] 66) := ⟨_, rfl⟩
  have aW : Aft w W := by rw [hW]; exact ((Aft.refl w).alloc _).alloc _
  have r0 : RowAt W (w.heap.size) [.int .i64 c.epoch, .int .i64 c.version, .slice As c.objs.schemas.length caps, .slice At c.objs.tables.length capt, .slice An c.rols.names.length capn, .slice Am c.rols.members.length capm, .slice Ag c.grants.length capg] := by rw [hW]; exact RowAt.up (box_at (Aft.refl _) (by simp))
  have r1 : RowAt W (w.heap.size + 1) [.int .i64 c.epoch, .int .i64 c.version, .slice Bs c.objs.schemas.length bcs, .slice Bt c.objs.tables.length bct, .slice Bn c.rols.names.length bcn, .slice Bm c.rols.members.length bcm, .slice Bg c.grants.length bcg] := by rw [hW]; exact box_at (Aft.refl _) (by simp)
  have HR := Lib.hid (And.intro r0 r1)
  have HAW := Lib.hid aW
  have C1 := Lib.hid (sameO_any c.objs As caps At capt Bs bcs Bt bct W (schs_aft aW H.sch) (tabs_aft aW H.tab) (schs_aft aW K.sch) (tabs_aft aW K.tab))
  have C2 := Lib.hid (show ∀ V, Aft W V → _ from fun V a => same8 c.rols An capn Am capm Bn bcn Bm bcm V (strs_aft (aW.trans a) H.nam) (mbrs_aft (aW.trans a) H.mem) (strs_aft (aW.trans a) K.nam) (mbrs_aft (aW.trans a) K.mem))
  have C3 := Lib.hid (show ∀ V, Aft W V → _ from fun V a => (eqGs_iff c.grants c.grants).2 rfl ▸ rgrants c.grants c.grants Ag capg Bg bcg V (gras_aft (aW.trans a) H.gra) (gras_aft (aW.trans a) K.gra))
  obtain ⟨x0, x1, x2, x3, x4, x5, x6, xz⟩ := rowF7 r0
  obtain ⟨y0, y1, y2, y3, y4, y5, y6, yz⟩ := rowF7 r1
  clear H K r0 r1 aW
  go_enter Tryz.func31, Tryz.ntmps31
  go_wp2_with fail
  rw [← hW]
  clear hW
  go_wp2_with fail
  refine C1.out.mono ?_
  rintro e w1 ⟨rfl, a1⟩
  have A1 := Lib.hid a1
  have p0 := HR.out.1.aft a1
  have p1 := HR.out.2.aft a1
  clear a1 x0 x1 x2 x3 x4 x5 x6 xz y0 y1 y2 y3 y4 y5 y6 yz
  obtain ⟨x0, x1, x2, x3, x4, x5, x6, xz⟩ := rowF7 p0
  obtain ⟨y0, y1, y2, y3, y4, y5, y6, yz⟩ := rowF7 p1
  clear p0 p1
  go_wp2_with fail
  refine (C2.out w1 A1.out).mono ?_
  rintro e w2 ⟨rfl, a2⟩
  have A2 := Lib.hid (A1.out.trans a2)
  have p0 := HR.out.1.aft A2.out
  have p1 := HR.out.2.aft A2.out
  clear a2 x0 x1 x2 x3 x4 x5 x6 xz y0 y1 y2 y3 y4 y5 y6 yz
  obtain ⟨x0, x1, x2, x3, x4, x5, x6, xz⟩ := rowF7 p0
  obtain ⟨y0, y1, y2, y3, y4, y5, y6, yz⟩ := rowF7 p1
  clear p0 p1
  go_wp2_with fail
  refine (C3.out w2 A2.out).mono ?_
  rintro e w3 ⟨rfl, a3⟩
  have A3 := Lib.hid (HAW.out.trans (A2.out.trans a3))
  clear a3
  go_wp2_with fail
  go_ret
  exact ⟨rfl, A3.out⟩
end Go.Proofs.YtlklmekapbojdaaGreat

