/- Contracts of the program, part 16. -/
import Derived.Deep.Onto
import Derived.LaidEqlPtr
import Derived.OwnWalk
import Derived.Laws.AppendOwn
import Derived.ProofKit
import Derived.OpenShut
import Derived.Deep.Slices
import Derived.ChangeOld
import Derived.SizedLaws
import Derived.WalkKit
import Derived.WalkSpells
import Derived.WalkLawsBesides
import Derived.Lib.Hide
import Derived.Deep.QuietTactic
import Derived.BigQuiet
import Derived.Below
import Derived.Deep.Draws
import Derived.StillTailTactics
import Derived.Laws.Cells
import Derived.Laws.IdiomCopy
import Derived.Test.YtiadkchlkdaceaaGreatRows
import Derived.Lib.Bytealg
import Derived.IntWalk
import Derived.ShutString
import Derived.Shelf.SlSortCmp.WholeK
import Derived.Lib.SliceRun
import Derived.Deep.AppendLies
import Derived.Deep.Upon
import Derived.OneCell
import Derived.Deep.DeepMust
import Derived.Deep.RegionLaw
import Derived.Deep.RegionHeld3
import Derived.Shelf.RegionOpen
import Derived.Sort.BigQuietIn
import Derived.RangeFuncNested
import Derived.RangeFuncBound
import Derived.RangeFuncCalls
import Derived.RangeFuncLeaves
import Derived.Shelf.Abstract
import Derived.OwnWalkIn
import Derived.TacticsInMore
import Derived.LoopNIn
import Derived.LoopIn
import Derived.Sort.QuietTacIn
import Derived.NoCompiler
import Derived.OrdersHeld
import Derived.Lib.Walk
import Derived.Test.YtiadkchlkdaceaaGreatPartK1
import Derived.Test.YtiadkchlkdaceaaGreatPartK2
import Derived.Test.YtiadkchlkdaceaaGreatPartK3
import Derived.Test.YtiadkchlkdaceaaGreatPartK4
import Derived.Test.YtiadkchlkdaceaaGreatPartK5
import Derived.Test.YtiadkchlkdaceaaGreatPartK6
import Derived.Test.YtiadkchlkdaceaaGreatPartK7
import Derived.Test.YtiadkchlkdaceaaGreatPartK8
import Derived.Test.YtiadkchlkdaceaaGreatPartK9
import Derived.Test.YtiadkchlkdaceaaGreatPartK10
import Derived.Test.YtiadkchlkdaceaaGreatPartK11
import Derived.Test.YtiadkchlkdaceaaGreatPartK12
import Derived.Test.YtiadkchlkdaceaaGreatPartK13
import Derived.Test.YtiadkchlkdaceaaGreatPartK14
import Derived.Test.YtiadkchlkdaceaaGreatPartK15
namespace Go.Proofs.YtiadkchlkdaceaaGreat
open Go.RowKit Go.Deep
set_option maxRecDepth 100000
set_option linter.unusedVariables false
/-- lists of rows -/
def RowsLR (w : World) (cs : List Value) (l : List (List Val)) : Prop := SlOf w 1 RowsR cs l
def DmpR (w : World) (cs : List Value) (d : Dmp) : Prop := ∃ Ac cc Ar cr, cs = [.string d.schema, .string d.name, .slice Ac d.cols.length cc, .slice Ar d.rows.length cr] ∧ SlAt w 3 ColR Ac cc d.cols ∧ SlAt w 1 RowsR Ar cr d.rows
theorem rowsl_aft {w w' : World} {A : Option Addr} {cap : Nat} {l : List (List (List Val))} (hw : Aft w w') (h : SlAt w 1 RowsLR A cap l) : SlAt w' 1 RowsLR A cap l := h.aft hw fun cs x ⟨A, cap, e, h1⟩ => ⟨A, cap, e, rows_aft hw h1⟩
theorem dmpr_aft {w w' : World} {A : Option Addr} {cap : Nat} {l : List Dmp} (hw : Aft w w') (h : SlAt w 4 DmpR A cap l) : SlAt w' 4 DmpR A cap l := h.aft hw fun cs x ⟨A, ca, B, cb, e, h1, h2⟩ => ⟨A, ca, B, cb, e, cols_aft hw h1, rows_aft hw h2⟩
theorem rowsl_at {w : World} {A : Option Addr} {cap : Nat} {l : List (List (List Val))} (h : SlAt w 1 RowsLR A cap l) {k : Nat} (hk : k < l.length) :
    ∃ b off A2 cap2, A = some ⟨b, off, none⟩ ∧ b < w.heap.size ∧ w.cell? ⟨b, off + k, none⟩ = some (.slice A2 l[k].length cap2) ∧ SlAt w 1 RowsR A2 cap2 l[k] := by
  obtain ⟨b, off, cs, hA, hb, hl, ⟨A2, cap2, rfl, hr⟩, hc⟩ := h.2.2 k hk
  refine ⟨b, off, A2, cap2, hA, hb, ?_, hr⟩
  have := hc 0 (by omega)
  simpa using this
theorem dmpr_at {w : World} {A : Option Addr} {cap : Nat} {l : List Dmp} (h : SlAt w 4 DmpR A cap l) {k : Nat} (hk : k < l.length) :
    ∃ b off Ac cc Ar cr, A = some ⟨b, off, none⟩ ∧ b < w.heap.size ∧ w.cell? ⟨b, off + k * 4, none⟩ = some (.string l[k].schema) ∧ w.cell? ⟨b, off + k * 4 + 1, none⟩ = some (.string l[k].name) ∧ w.cell? ⟨b, off + k * 4 + 2, none⟩ = some (.slice Ac l[k].cols.length cc) ∧ w.cell? ⟨b, off + k * 4 + 3, none⟩ = some (.slice Ar l[k].rows.length cr) ∧ SlAt w 3 ColR Ac cc l[k].cols ∧ SlAt w 1 RowsR Ar cr l[k].rows := by
  obtain ⟨b, off, cs, hA, hb, hl, ⟨Ac, cc, Ar, cr, e, h1, h2⟩, hc⟩ := h.2.2 k hk
  have g : ∀ j u, j < 4 → cs[j]? = some u → w.cell? ⟨b, off + k * 4 + j, none⟩ = some u := fun j u hj hu => by
    rw [Nat.add_assoc, hc j hj, hu]
  subst e
  exact ⟨b, off, Ac, cc, Ar, cr, hA, hb, g 0 _ (by omega) rfl, g 1 _ (by omega) rfl, g 2 _ (by omega) rfl, g 3 _ (by omega) rfl, h1, h2⟩
theorem nameB_small {s : ByteArray} (h : nameB s = true) : Small s.size := by
  by_cases h0 : 0 < s.size
  · rw [nameB_of s h0] at h
    simp only [Bool.and_eq_true, decide_eq_true_eq] at h
    unfold Small; omega
  · unfold Small; omega
theorem cols_small {l : List Col} (h : colsOk l = true) : Small (l.length * 16) ∧ ∀ c ∈ l, Small c.name.size := by
  refine ⟨by have := cols_len h; unfold Small; omega, fun c hc => nameB_small ?_⟩
  have h2 := ((colsOk_iff l).1 h).2.1 c hc
  unfold colOk at h2
  rw [Bool.and_eq_true] at h2
  exact h2.1
theorem DmpsIn.at {w : World} {B : Nat} {h : Hd} {D : List ODmp} {S : List Shf} {ss : List Sch} (hd : DmpsIn w B h D) (e : D.map ODmp.s = dumpS S) (ok : SOk S ss) : SlAt w 4 DmpR h.a h.c (dumpS S) := by
  have hl : D.length = S.length := by have := congrArg List.length e; simpa [dumpS] using this
  have h64 : S.length ≤ 64 := by have := ok.good.nt; simpa using this
  have hm : ∀ y ∈ D, ∃ x ∈ S, y.cols = x.t.cols ∧ y.rows.map ORow.vals = x.rows := fun y hy => by
    have h1 : y.s ∈ dumpS S := by rw [← e]; exact List.mem_map_of_mem hy
    obtain ⟨x, hx, e1⟩ := List.mem_map.1 h1
    exact ⟨x, hx, (congrArg Dmp.cols e1).symm, (congrArg Dmp.rows e1).symm⟩
  rw [← e]
  refine own_slo ODmp.cells ODmp.s hd.lst (fun y hy => ⟨rfl, y.hc.a, y.hc.c, y.hr.a, y.hr.c, ?_, ?_, ?_⟩) (by unfold Small; omega)
  · unfold ODmp.cells
    rw [own_slice (hd.each y hy).col, own_slice (hd.each y hy).row.own]
    simp [ODmp.s]
  · obtain ⟨x, hx, e1, e2⟩ := hm y hy
    have hs := cols_small (ok.tab hx).cols
    rw [← e1] at hs
    exact own_slf colC (hd.each y hy).col (fun c hc => ⟨rfl, rfl, hs.2 c hc⟩) hs.1
  · obtain ⟨x, hx, e1, e2⟩ := hm y hy
    have hok := ok.shf hx
    have hlen : y.rows.length = x.rows.length := by rw [← e2, List.length_map]
    refine RowsIn.at (hd.each y hy).row (by omega) fun o ho => row_small hok.2.1 (hok.2.2 o.vals ?_)
    rw [← e2]
    exact List.mem_map_of_mem ho
set_option maxHeartbeats 8000000 in
theorem rsame12 (S : List Shf) (s : Nat) (vs : Value) (At : Option Addr) (capt : Nat) (Rs : Option Addr) (capr : Nat) (A : Option Addr) (cap : Nat) (w : World) (hrow : RowAt w s [vs, .slice At S.length capt, .slice Rs S.length capr]) (htab : SlAt w 5 TabR At capt (S.map (·.t))) (hrows : SlAt w 1 RowsLR Rs capr (S.map (·.rows))) (hd : SlAt w 4 DmpR A cap (dumpS S)) :
    Calls Tryz.prog 16 #[.pointer (some ⟨s, 0, none⟩), .slice A S.length cap] w fun e w' => e = .returned (.bool true) ∧ Aft w w' := by
  have hlen : S.length * 16 ≤ 140737488351232 := by have := hd.len; simpa [dumpS] using this
  have HT := Lib.hid htab
  have HR := Lib.hid hrows
  have HD := Lib.hid hd
  have KS := Lib.hid (show ∀ V, Aft w V → (V.cell? ⟨s, 1, none⟩ = some (.slice At S.length capt) ∧ V.cell? ⟨s, 2, none⟩ = some (.slice Rs S.length capr) ∧ s < V.heap.size) from fun V a => by
    have r := hrow.aft a
    exact ⟨r.cell (j := 1) rfl, r.cell (j := 2) rfl, r.1⟩)
  clear htab hrows hd hrow
  obtain ⟨s1, s2, sz⟩ := KS.out w (Aft.refl w)
  go_enter Tryz.func16, Tryz.ntmps16
  go_wp2_with fail
  clear s1 s2 sz
  go_loopw [5] (fun i wr => ∃ k : Nat, k ≤ S.length ∧ i = .int .i64 k ∧ Aft w wr) (fun i _ => S.length - (intOf i).toNat)
  case atStart => exact ⟨0, Nat.zero_le _, rfl, Aft.refl _⟩
  case round =>
    obtain ⟨k, hk, rfl, ha⟩ := hrel
    have HA := Lib.hid ha
    clear ha
    obtain ⟨V0, hV0⟩ : ∃ V0, V0 = wr := ⟨_, rfl⟩
    subst hV0
    by_cases hlt : k < S.length
    · obtain ⟨b, off, A2, cap2, A3, cap3, hA, hb, c0, c1, c2, c3, c4, hcs, hrs, _⟩ := tab_at (tabs_aft HA.out HT.out) (k := k) (by simpa using hlt)
      obtain ⟨b5, off5, A5, cap5, hA5, hb5, r0, hrr⟩ := rowsl_at (rowsl_aft HA.out HR.out) (k := k) (by simpa using hlt)
      obtain ⟨b6, off6, Ac, cc, Ar, cr, hA6, hb6, d0, d1, d2, d3, hdc, hdr⟩ := dmpr_at (dmpr_aft HA.out HD.out) (k := k) (by simpa [dumpS] using hlt)
      simp only [List.getElem_map, dumpS] at c0 c1 c2 c3 c4 hcs hrs r0 hrr d0 d1 d2 d3 hdc hdr
      obtain ⟨y, hy⟩ : ∃ y, S[k] = y := ⟨_, rfl⟩
      rw [hy] at c0 c1 c2 c3 c4 hcs hrs r0 hrr d0 d1 d2 d3 hdc hdr
      obtain ⟨s1, s2, sz⟩ := KS.out V0 HA.out
      rw [hA] at s1
      rw [hA5] at s2
      rw [hA6]
      obtain ⟨W, hW⟩ : ∃ W, W = V0.alloc (.cells #[.string y.t.schema, .string y.t.name, .string y.t.owner, .slice A2 y.t.cols.length cap2, .slice A3 y.t.rules.length cap3] 76) := ⟨_, rfl⟩
      have aW : Aft V0 W := by rw [hW]; exact (Aft.refl V0).alloc _
      have rW : RowAt W V0.heap.size [.string y.t.schema, .string y.t.name, .string y.t.owner, .slice A2 y.t.cols.length cap2, .slice A3 y.t.rules.length cap3] := by rw [hW]; exact box_row2 (Aft.refl _)
      have HRW := Lib.hid rW
      have HAW := Lib.hid aW
      have C := Lib.hid (show ∀ x : Lat W, Calls Tryz.prog 13 #[.slice Ar y.rows.length cr, .slice A5 y.rows.length cap5] (lat W x) fun e w'' => e = .returned (.bool true) ∧ Aft (lat W x) w'' from fun x => rows11_same y.rows Ar cr A5 cap5 (lat W x) (rows_aft (aW.trans ((Aft.refl W).lat x)) hdr) (rows_aft (aW.trans ((Aft.refl W).lat x)) hrr))
      have KD := Lib.hid (show ∀ V, Aft V0 V → (V.cell? ⟨b6, off6 + k * 4, none⟩ = some (.string y.t.schema) ∧ V.cell? ⟨b6, off6 + k * 4 + 1, none⟩ = some (.string y.t.name) ∧ V.cell? ⟨b6, off6 + k * 4 + 2, none⟩ = some (.slice Ac y.t.cols.length cc) ∧ V.cell? ⟨b6, off6 + k * 4 + 3, none⟩ = some (.slice Ar y.rows.length cr) ∧ b6 < V.heap.size) from fun V a =>
        ⟨(Below.cell a (p := ⟨b6, _, none⟩) hb6).trans d0, (Below.cell a (p := ⟨b6, _, none⟩) hb6).trans d1, (Below.cell a (p := ⟨b6, _, none⟩) hb6).trans d2, (Below.cell a (p := ⟨b6, _, none⟩) hb6).trans d3, Nat.lt_of_lt_of_le hb6 a.size⟩)
      have HDC := Lib.hid hdc
      have HCS := Lib.hid hcs
      have x0 := rW.cell (j := 0) rfl
      have x1 := rW.cell (j := 1) rfl
      have x3 := rW.cell (j := 3) rfl
      have xz := rW.1
      obtain ⟨t1, t2, tz⟩ := KS.out W (HA.out.trans aW)
      rw [hA] at t1
      rw [hA5] at t2
      have r0W : W.cell? ⟨b5, off5 + k, none⟩ = some (.slice A5 y.rows.length cap5) := (Below.cell aW (p := ⟨b5, _, none⟩) hb5).trans r0
      have hb5W := Nat.lt_of_lt_of_le hb5 aW.size
      obtain ⟨e0, e1, e2, e3, ez⟩ := KD.out W aW
      clear aW rW hdc hcs hrs hdr hrr d0 d1 d2 d3 r0 hA hA5 hA6 hy
      go_wp2_with fail
      rw [← hW]
      clear hW c0 c1 c2 c3 c4 hb hb5 hb6 s1 s2 sz
      refine wp_region_lat (by kernel_rfl) (by kernel_rfl) ?_
      repeat (go_big_quiet_step ((go_at_call 13; exact Calls.lat_of (C.out _))))
      refine wpQuiet_nil ?_
      intro Z hw'
      have aZ : Aft W Z := by obtain ⟨x9, hw''⟩ := hw'; rw [hw'']; exact (Aft.refl W).lat x9
      have HWZ := Lib.hid aZ
      have y3 := (HRW.out.aft aZ).cell (j := 3) rfl
      have yz := (HRW.out.aft aZ).1
      clear hw' x0 x1 x3 xz t1 t2 tz r0W hb5W e0 e1 e2 e3 ez aZ C
      go_wp2_with fail
      clear y3 yz
      go_loopw [7] (fun i wr => ∃ k2 : Nat, k2 ≤ y.t.cols.length ∧ i = .int .i64 k2 ∧ Aft W wr) (fun i _ => y.t.cols.length - (intOf i).toNat)
      case atStart => exact ⟨0, Nat.zero_le _, rfl, HWZ.out⟩
      case round =>
        obtain ⟨k2, hk2, rfl, ha2⟩ := hrel
        have HW2 := Lib.hid ha2
        clear ha2
        have y3 := (HRW.out.aft HW2.out).cell (j := 3) rfl
        have yz := (HRW.out.aft HW2.out).1
        have hlen2 := HCS.out.len
        by_cases hlt2 : k2 < y.t.cols.length
        · obtain ⟨b8, off8, hA8, hb8, f0, f1, f2, _⟩ := col_at (cols_aft (HAW.out.trans HW2.out) HCS.out) hlt2
          obtain ⟨b9, off9, hA9, hb9, g0, g1, g2, _⟩ := col_at (cols_aft (HAW.out.trans HW2.out) HDC.out) hlt2
          obtain ⟨_, _, e2, _, ez⟩ := KD.out wr (HAW.out.trans HW2.out)
          obtain ⟨u, hu⟩ : ∃ u, y.t.cols[k2] = u := ⟨_, rfl⟩
          rw [hu] at f0 f1 f2 g0 g1 g2
          rw [hA8] at y3
          rw [hA9] at e2
          clear hu
          go_wp2_with fail
          refine wp_region_lat (by kernel_rfl) (by kernel_rfl) ?_
          repeat (go_big_quiet_step (fail))
          refine wpQuiet_nil ?_
          intro Z3 hw'
          have a3 : Aft wr Z3 := by obtain ⟨x9, hw''⟩ := hw'; rw [hw'']; exact (Aft.refl wr).lat x9
          have HW3 := Lib.hid (HW2.out.trans a3)
          clear hw' a3
          go_wp2_with fail
          go_roundw
          case rel => exact ⟨k2 + 1, by omega, by go_num, HW3.out⟩
          case measure => simp [intOf]; omega
        · go_wp2_with fail
          go_roundw
          case rel => exact ⟨k + 1, by omega, by go_num, HA.out.trans (HAW.out.trans HW2.out)⟩
          case measure => simp [intOf]; omega
    · go_wp2_with fail
      go_ret
      exact ⟨rfl, HA.out⟩
end Go.Proofs.YtiadkchlkdaceaaGreat

namespace Go.Proofs.YtiadkchlkdaceaaGreat
open Go.RowKit
set_option maxRecDepth 100000
set_option linter.unusedVariables false
set_option maxHeartbeats 4000000 in
theorem rform_any (A : Option Addr) (cap : Nat) (l : List Col) (A2 : Option Addr) (cap2 : Nat) (m : List Val) (w : World) (h : SlAt w 3 ColR A cap l) (h2 : SlAt w 3 ValR A2 cap2 m) :
    Calls Tryz.prog 65 #[.slice A l.length cap, .slice A2 m.length cap2] w fun e w' => e = .returned (.bool (besideB formB l m)) ∧ Aft w w' := by
  have hlen := h.len
  have hlen2 := h2.len
  by_cases hl : l.length = m.length
  · have e1 : ((m.length : Int) != (l.length : Int)) = false := by simp [hl]
    go_enter Tryz.func65, Tryz.ntmps65
    go_wp2_with fail
    go_loopw [5] (fun i wr => ∃ k : Nat, k ≤ m.length ∧ i = .int .i64 k ∧ Aft w wr ∧ ∀ j, j < k → ∀ (hj : j < l.length) (hj2 : j < m.length), formB l[j] m[j] = true) (fun i _ => m.length - (intOf i).toNat)
    case atStart => exact ⟨0, Nat.zero_le _, rfl, Aft.refl _, fun j hj => absurd hj (Nat.not_lt_zero j)⟩
    case round =>
      obtain ⟨k, hk, rfl, ha, hp⟩ := hrel
      have HA := Lib.hid ha
      have HP := Lib.hid hp; clear hp
      by_cases hlt2 : k < m.length
      · have hlt : k < l.length := by omega
        obtain ⟨b, off, rfl, hb, c0, c1, c2, _⟩ := col_at (cols_aft ha h) hlt
        obtain ⟨b2, off2, rfl, hb2, d0, d1, d2, hs⟩ := val_at (vals_aft ha h2) hlt2
        clear ha
        obtain ⟨r, hr⟩ : ∃ r, mayV m[k] = r := ⟨_, rfl⟩
        have HF := Lib.hid (show formB l[k] m[k] = (r && (m[k].kind == l[k].kind || m[k].kind == 1)) by unfold formB; rw [hr])
        have Cm := Lib.hid (show ∀ x : Lat wr, Calls Tryz.prog 73 #[.agg #[.int .i64 m[k].kind, .int .i64 m[k].int, .string m[k].text]] (lat wr x) fun e w'' => e = .returned (.bool r) ∧ Aft (lat wr x) w'' from
          fun x => (rmay_any m[k] (lat wr x) hs).mono fun e w'' ⟨he, hw⟩ => ⟨he.trans (by rw [hr]), hw⟩)
        clear hr
        cases r
        · have HN := Lib.hid (besideB_false formB l m k hlt hlt2 (by rw [HF.out]; rfl))
          go_wp2_with fail
          refine wp_region_lat (by kernel_rfl) (by kernel_rfl) ?_
          repeat (go_big_quiet_step ((first | (go_at_call 73; exact Calls.lat_of (Cm.out _)))))
          refine wpQuiet_nil ?_
          intro _ hw'
          obtain ⟨x, hw''⟩ := hw'
          subst hw''
          go_wp2_with fail
          go_ret
          exact ⟨by rw [HN.out]; rfl, HA.out.lat x⟩
        cases g1 : (m[k].kind != 1)
        · have HN := Lib.hid (ext_lt (p := fun j => ∀ (hj : j < l.length) (hj2 : j < m.length), formB l[j] m[j] = true) HP.out (fun _ _ => by rw [HF.out, show (m[k].kind == 1) = true by simpa using g1]; simp))
          go_wp2_with fail
          refine wp_region_lat (by kernel_rfl) (by kernel_rfl) ?_
          repeat (go_big_quiet_step ((first | (go_at_call 73; exact Calls.lat_of (Cm.out _)))))
          refine wpQuiet_nil ?_
          intro _ hw'
          obtain ⟨x, hw''⟩ := hw'
          subst hw''
          go_wp2_with fail
          go_roundw
          case rel => exact ⟨k + 1, by omega, by go_num, HA.out.lat x, HN.out⟩
          case measure => simp [intOf]; omega
        cases g2 : (m[k].kind != l[k].kind)
        · have HN := Lib.hid (ext_lt (p := fun j => ∀ (hj : j < l.length) (hj2 : j < m.length), formB l[j] m[j] = true) HP.out (fun _ _ => by rw [HF.out, show (m[k].kind == l[k].kind) = true by simpa using g2]; simp))
          go_wp2_with fail
          refine wp_region_lat (by kernel_rfl) (by kernel_rfl) ?_
          repeat (go_big_quiet_step ((first | (go_at_call 73; exact Calls.lat_of (Cm.out _)))))
          refine wpQuiet_nil ?_
          intro _ hw'
          obtain ⟨x, hw''⟩ := hw'
          subst hw''
          go_wp2_with fail
          go_roundw
          case rel => exact ⟨k + 1, by omega, by go_num, HA.out.lat x, HN.out⟩
          case measure => simp [intOf]; omega
        · have HN := Lib.hid (besideB_false formB l m k hlt hlt2 (by rw [HF.out, show (m[k].kind == l[k].kind) = false by simpa using g2, show (m[k].kind == 1) = false by simpa using g1]; rfl))
          go_wp2_with fail
          refine wp_region_lat (by kernel_rfl) (by kernel_rfl) ?_
          repeat (go_big_quiet_step ((first | (go_at_call 73; exact Calls.lat_of (Cm.out _)))))
          refine wpQuiet_nil ?_
          intro _ hw'
          obtain ⟨x, hw''⟩ := hw'
          subst hw''
          go_wp2_with fail
          go_ret
          exact ⟨by rw [HN.out]; rfl, HA.out.lat x⟩
      · have HN := Lib.hid (besideB_true formB l m hl fun j hj hj2 => HP.out j (by omega) hj hj2)
        clear ha
        go_wp2_with fail
        go_ret
        exact ⟨by rw [HN.out]; rfl, HA.out⟩
  · have e1 : ((m.length : Int) != (l.length : Int)) = true := by simp; omega
    have HN := Lib.hid (besideB_len formB l m hl)
    go_enter Tryz.func65, Tryz.ntmps65
    go_wp2_with fail
    go_ret
    exact ⟨by rw [HN.out]; rfl, Aft.refl _⟩
theorem tableOk_rule (t : Tab) (k : Nat) (hk : k < t.rules.length) (h : fitsOk t.cols t.rules[k] = false) : tableOk t = false := by
  unfold tableOk; rw [all_false _ _ k hk h]; simp
theorem tableOk_rise (t : Tab) (k : Nat) (hk : k < t.rules.length) (h0 : 0 < k) (h : ltS (t.rules[k - 1]'(by omega)).name t.rules[k].name = false) : tableOk t = false := by
  have h1 : k - 1 + 1 < t.rules.length := by omega
  have e : (t.rules[k - 1 + 1]'h1) = t.rules[k] := by congr 1; omega
  unfold tableOk
  rw [risesB_false (fun a b : Rul => cmpS a.name b.name) _ (k - 1) h1]
  · simp
  · rw [e]
    rw [← cmpS_lt] at h
    have := of_decide_eq_false h
    omega
theorem rises_pred' {α : Type} (c : α → α → Int) (l : List α) (h : ∀ k, 1 ≤ k → ∀ (hk : k < l.length), c (l[k - 1]'(by omega)) l[k] < 0) : risesB c l = true :=
  (risesB_iff c l).2 fun k hk => h (k + 1) (by omega) hk
set_option maxHeartbeats 8000000 in
theorem rtable_any (t : Tab) (A : Option Addr) (cap : Nat) (A2 : Option Addr) (cap2 : Nat) (w : World) (h : SlAt w 3 ColR A cap t.cols) (h2 : SlAt w 8 RulR A2 cap2 t.rules) :
    Calls Tryz.prog 81 #[.agg #[.string t.schema, .string t.name, .string t.owner, .slice A t.cols.length cap, .slice A2 t.rules.length cap2]] w
      fun e w' => e = .returned (.bool (tableOk t)) ∧ Aft w w' := by
  have hlen2 := h2.len
  obtain ⟨m, hm⟩ : ∃ m, colsOk t.cols = m := ⟨_, rfl⟩
  have HR1 := Lib.hid (show tableOk t = (m && decide (t.rules.length ≤ 8) && (t.rules.all (fitsOk t.cols) && risesB (fun a b => cmpS a.name b.name) t.rules)) by unfold tableOk; rw [hm])
  have Cm := Lib.hid (show ∀ w', Aft w w' → Calls Tryz.prog 64 #[.slice A t.cols.length cap] w' fun e w'' => e = .returned (.bool m) ∧ Aft w' w'' from
    fun w' a => (rcols_any A cap t.cols w' (cols_aft a h)).mono fun e w'' ⟨he, hw⟩ => ⟨he.trans (by rw [← hm]), hw⟩)
  clear hm
  go_enter Tryz.func81, Tryz.ntmps81
  go_wp2_with fail
  refine (Cm.out _ ((Aft.refl w).alloc _)).mono ?_
  rintro e w1 ⟨rfl, a1⟩
  obtain ⟨hbt, hfr, hz, hzk, HA⟩ := aft_box a1
  have HAB := Lib.hid a1
  clear a1 Cm
  cases m
  · have HN := Lib.hid (show tableOk t = false by rw [HR1.out]; rfl)
    go_wp2_with fail
    go_ret
    exact ⟨by rw [HN.out]; rfl, HA.out⟩
  by_cases h8 : 8 < t.rules.length
  · have HN := Lib.hid (show tableOk t = false by rw [HR1.out, decide_eq_false (show ¬ t.rules.length ≤ 8 by omega)]; rfl)
    have h8' : (8 : Int) < (t.rules.length : Int) := by omega
    go_wp2_with fail
    go_ret
    exact ⟨by rw [HN.out]; rfl, HA.out⟩
  have h8' : (t.rules.length : Int) ≤ 8 := by omega
  have d8 : decide ((8 : Int) < (t.rules.length : Int)) = false := decide_eq_false (by omega)
  have HR2 := Lib.hid (show tableOk t = (t.rules.all (fitsOk t.cols) && risesB (fun a b => cmpS a.name b.name) t.rules) by rw [HR1.out, decide_eq_true (show t.rules.length ≤ 8 by omega)]; rfl)
  clear HR1
  go_wp2_with fail
  go_loopw [3] (fun i wr => ∃ k : Nat, k ≤ t.rules.length ∧ i = .int .i64 k ∧ Aft (w.alloc (.cells #[.string t.schema, .string t.name, .string t.owner, .slice A t.cols.length cap, .slice A2 t.rules.length cap2] 76)) wr ∧ ∀ j, j < k → ∀ (hj : j < t.rules.length), fitsOk t.cols t.rules[j] = true ∧ (0 < j → ltS (t.rules[j - 1]'(by omega)).name t.rules[j].name = true)) (fun i _ => t.rules.length - (intOf i).toNat)
  case atStart => exact ⟨0, Nat.zero_le _, rfl, HAB.out, fun j hj => absurd hj (Nat.not_lt_zero j)⟩
  case round =>
    clear hbt hfr hz hzk HA HAB
    obtain ⟨k, hk, rfl, ha, hp⟩ := hrel
    obtain ⟨hbt, hfr, hz, hzk, HA⟩ := aft_box ha
    have HAB := Lib.hid ha
    have HP := Lib.hid hp; clear hp ha
    by_cases hlt : k < t.rules.length
    · have hr := ruls_aft HA.out h2
      obtain ⟨b, off, D2, capD2, rfl, hb, c0, c1, c2, c3, c4, c5, c6, c7, hcs, s0, s1, s2, s3⟩ := rul_at hr hlt
      obtain ⟨p, hpp⟩ : ∃ p, t.rules[k] = p := ⟨_, rfl⟩
      rw [hpp] at c0 c1 c2 c3 c4 c5 c6 c7 hcs s0 s1 s2 s3
      have HPP := Lib.hid hpp
      obtain ⟨f, hf⟩ : ∃ f, fitsOk t.cols p = f := ⟨_, rfl⟩
      have HO := Lib.hid (show fitsOk t.cols t.rules[k] = f by rw [hpp]; exact hf)
      have Cm := Lib.hid (show ∀ x : Lat wr, Calls Tryz.prog 79 #[.slice A t.cols.length cap, .agg #[.string p.name, .int .i64 p.kind, .slice D2 p.cols.length capD2, .int .i64 p.low, .int .i64 p.high, .string p.schema, .string p.table, .string p.key]] (lat wr x) fun e w'' => e = .returned (.bool f) ∧ Aft (lat wr x) w'' from
        fun x => (rfits_any A cap t.cols p D2 capD2 (lat wr x) (cols_aft (HA.out.lat x) h) (strs_aft ((Aft.refl wr).lat x) hcs) s0 s1 s2 s3).mono fun e w'' ⟨he, hw⟩ => ⟨he.trans (by rw [← hf]), hw⟩)
      clear hf hcs
      by_cases h0 : 0 < k
      · have hk1 : k - 1 < t.rules.length := by omega
        obtain ⟨b', off', D2', capD2', hA', hb', e0, _, _, _, _, _, _, _, _⟩ := rul_at hr hk1
        simp only [Option.some.injEq, Addr.mk.injEq, and_true] at hA'
        obtain ⟨rfl, rfl⟩ := hA'
        obtain ⟨p', hpp'⟩ : ∃ p', (t.rules[k - 1]'(by omega)) = p' := ⟨_, rfl⟩
        rw [hpp'] at e0
        have HPP' := Lib.hid hpp'
        have w1' : IntKind.i64.wrap ((k : Int) - 1) = (k : Int) - 1 := IntWalk.i64_in _ (by omega)
        have w2' : (0 : Int) ≤ (k : Int) - 1 := by omega
        have w3' : ((k : Int) - 1).toNat = k - 1 := by omega
        have w4' : (k : Int) - 1 < (t.rules.length : Int) := by omega
        have w5' : decide ((0 : Int) < (k : Int)) = true := decide_eq_true (by omega)
        clear hpp hpp' hr
        cases hL : ltS p'.name p.name
        · have hL' : Op.bytesLess p'.name.toList p.name.toList = false := hL
          have HN := Lib.hid (tableOk_rise t k hlt h0 (by rw [HPP.out, HPP'.out]; exact hL))
          clear hL
          go_wp2_with fail
          refine wp_region_lat (by kernel_rfl) (by kernel_rfl) ?_
          repeat (go_big_quiet_step ((first | (go_at_call 79; exact Calls.lat_of (Cm.out _)))))
          refine wpQuiet_nil ?_
          intro _ hw'
          obtain ⟨x, hw''⟩ := hw'
          subst hw''
          go_wp2_with fail
          go_ret
          exact ⟨by rw [HN.out]; rfl, HA.out.lat x⟩
        have hL' : Op.bytesLess p'.name.toList p.name.toList = true := hL
        have HLT := Lib.hid (show 0 < k → ltS (t.rules[k - 1]'(by omega)).name t.rules[k].name = true by intro _; rw [HPP.out, HPP'.out]; exact hL)
        clear hL
        cases f
        · have HN := Lib.hid (tableOk_rule t k hlt HO.out)
          go_wp2_with fail
          refine wp_region_lat (by kernel_rfl) (by kernel_rfl) ?_
          repeat (go_big_quiet_step ((first | (go_at_call 79; exact Calls.lat_of (Cm.out _)))))
          refine wpQuiet_nil ?_
          intro _ hw'
          obtain ⟨x, hw''⟩ := hw'
          subst hw''
          go_wp2_with fail
          go_ret
          exact ⟨by rw [HN.out]; rfl, HA.out.lat x⟩
        · have HN := Lib.hid (ext_lt (p := fun j => ∀ (hj : j < t.rules.length), fitsOk t.cols t.rules[j] = true ∧ (0 < j → ltS (t.rules[j - 1]'(by omega)).name t.rules[j].name = true)) HP.out (fun _ => ⟨HO.out, HLT.out⟩))
          go_wp2_with fail
          refine wp_region_lat (by kernel_rfl) (by kernel_rfl) ?_
          repeat (go_big_quiet_step ((first | (go_at_call 79; exact Calls.lat_of (Cm.out _)))))
          refine wpQuiet_nil ?_
          intro _ hw'
          obtain ⟨x, hw''⟩ := hw'
          subst hw''
          go_wp2_with fail
          go_roundw
          case rel => exact ⟨k + 1, by omega, by go_num, HAB.out.lat x, HN.out⟩
          case measure => simp [intOf]; omega
      · have w5' : decide ((0 : Int) < (k : Int)) = false := decide_eq_false (by omega)
        have w6' : (k : Int) ≤ 0 := by omega
        have HLT := Lib.hid (show 0 < k → ltS (t.rules[k - 1]'(by omega)).name t.rules[k].name = true from fun h => absurd h h0)
        clear hpp hr
        cases f
        · have HN := Lib.hid (tableOk_rule t k hlt HO.out)
          go_wp2_with fail
          refine wp_region_lat (by kernel_rfl) (by kernel_rfl) ?_
          repeat (go_big_quiet_step ((first | (go_at_call 79; exact Calls.lat_of (Cm.out _)))))
          refine wpQuiet_nil ?_
          intro _ hw'
          obtain ⟨x, hw''⟩ := hw'
          subst hw''
          go_wp2_with fail
          go_ret
          exact ⟨by rw [HN.out]; rfl, HA.out.lat x⟩
        · have HN := Lib.hid (ext_lt (p := fun j => ∀ (hj : j < t.rules.length), fitsOk t.cols t.rules[j] = true ∧ (0 < j → ltS (t.rules[j - 1]'(by omega)).name t.rules[j].name = true)) HP.out (fun _ => ⟨HO.out, HLT.out⟩))
          go_wp2_with fail
          refine wp_region_lat (by kernel_rfl) (by kernel_rfl) ?_
          repeat (go_big_quiet_step ((first | (go_at_call 79; exact Calls.lat_of (Cm.out _)))))
          refine wpQuiet_nil ?_
          intro _ hw'
          obtain ⟨x, hw''⟩ := hw'
          subst hw''
          go_wp2_with fail
          go_roundw
          case rel => exact ⟨k + 1, by omega, by go_num, HAB.out.lat x, HN.out⟩
          case measure => simp [intOf]; omega
    · have HN := Lib.hid (show tableOk t = true by
        rw [HR2.out, all_true _ _ fun j hj => (HP.out j (by omega) hj).1, rises_pred' (fun a b : Rul => cmpS a.name b.name) _ fun j hj1 hj => (cmpS_lt_iff _ _).2 ((HP.out j (by omega) hj).2 (by omega))]; rfl)
      go_wp2_with fail
      go_ret
      exact ⟨by rw [HN.out]; rfl, HA.out⟩
end Go.Proofs.YtiadkchlkdaceaaGreat

namespace Go.Proofs.YtiadkchlkdaceaaGreat
open Go.RowKit
set_option maxRecDepth 100000
set_option linter.unusedVariables false
set_option maxHeartbeats 4000000 in
theorem of_any (l : List Col) (cs : List ByteArray) (row : List Val) (A : Option Addr) (cap : Nat) (A2 : Option Addr) (cap2 : Nat) (B : Option Addr) (capB : Nat) (w : World) (h : SlAt w 3 ColR A cap l) (h2 : SlAt w 1 StrR A2 cap2 cs) (h3 : SlAt w 3 ValR B capB row) (h8 : cs.length ≤ 8) (hof : ∀ k (hk : k < cs.length), ∃ q : Nat, colAt l cs[k] = q ∧ q < row.length) :
    Calls Tryz.prog 48 #[.slice A l.length cap, .slice A2 cs.length cap2, .slice B row.length capB] w (OfP w (ofVs l cs row) (wholeV (ofVs l cs row))) := by
  have hlen := h.len
  have hlen3 := h3.len
  have HOF := Lib.hid hof
  obtain ⟨i0, hi, hz0, hz1, hz2⟩ := info_parts infoV
  have HI := Lib.hid hi
  have HZ0 := Lib.hid hz0
  have HZ1 := Lib.hid hz1
  have HZ2 := Lib.hid hz2
  clear hi hz0 hz1 hz2 hof
  go_enter Tryz.func48, Tryz.ntmps48
  go_wp2_with fail
  go_loopw [8, 9, 10] (fun v wb i wr => ∃ k : Nat, k ≤ cs.length ∧ i = .int .i64 k ∧ wb = .bool (wholeV (ofVs l (cs.take k) row)) ∧ Aft w wr ∧ wr.ownsRow w.heap.size 37 3 v k ((ofVs l (cs.take k) row).flatMap cellsV)) (fun _ _ i _ => cs.length - (intOf i).toNat)
  case atStart => exact ⟨0, Nat.zero_le _, rfl, rfl, Aft.refl _, own_nil _ _ _ _⟩
  case round =>
    obtain ⟨k, hk, rfl, rfl, ha, hown⟩ := hrel
    have HA := Lib.hid ha
    have HO := Lib.hid hown
    clear hown
    obtain ⟨wb, hwb⟩ : ∃ wb, wholeV (ofVs l (cs.take k) row) = wb := ⟨_, rfl⟩
    by_cases hlt : k < cs.length
    · obtain ⟨b5, off5, hD, hb5, g5, _⟩ := str_at (strs_aft ha h2) hlt
      subst hD
      obtain ⟨z, hz0, hzr⟩ := HOF.out k hlt
      obtain ⟨b6, off6, hBB, hb6, v0, v1, v2, _⟩ := val_at (vals_aft ha h3) hzr
      subst hBB
      have HS := Lib.hid (show ofVs l (cs.take (k + 1)) row = ofVs l (cs.take k) row ++ [row[z]] by rw [ofVs_succ _ _ _ k hlt, hz0, valAt_get hzr])
      have HW := Lib.hid (show wholeV (ofVs l (cs.take (k + 1)) row) = (wb && row[z].kind != 1) by rw [HS.out, wholeV_snoc, hwb])
      have Cp := Lib.hid (show Calls Tryz.prog 37 #[.slice A l.length cap, .string cs[k]] wr fun e w'' => e = .returned (.int .i64 z) ∧ wr = w'' from
        (rcol_any A cap l cs[k] wr (cols_aft ha h)).mono fun e w'' ⟨he, hw⟩ => ⟨he.trans (by rw [← hz0]; rfl), hw⟩)
      rw [hwb]
      clear ha hz0 hwb
      cases wb
      all_goals
        go_wp2_with fail
        refine Cp.out.mono ?_
        rintro e w4 ⟨rfl, hw4⟩
        subst hw4
        go_wp2_with (at_builtin; refine wpList_append_own _ rfl (.tmp 33) (.tmp 35) 34 rfl w.heap.size 37 i0 (.agg #[.int .i64 0, .int .i64 0, .string ByteArray.empty]) 3 32 Tryz.underlying34 HI.out HZ0.out HZ1.out HZ2.out rfl (by decide) _ _ _ rfl ((HO.out.alloc _).alloc _) ⟨wr.heap.size + 1, 0, none⟩ 1 1 [.int .i64 row[z].kind, .int .i64 row[z].int, .string row[z].text] rfl rfl ?c1 ?c2 ?c3 ?c4 ?c5 ?_)
        case c1 => intro j u hj; rw [add_mk, Nat.zero_add]; exact (World.cell?_alloc_at _ _ _ _ (by simp)).trans (by simpa using hj)
        case c2 => intro u hu; simp only [List.mem_cons, List.not_mem_nil, or_false] at hu; rcases hu with rfl | rfl | rfl <;> simp [Value.oneCell']
        case c3 => unfold maxLen; omega
        case c4 => omega
        case c5 => have := HA.out.size; simp; omega
        intro v' w5 hown' hgrow _
        have HA5 := Lib.hid (aft_grown ((HO.out.alloc _).alloc _) ((HA.out.alloc _).alloc _) hgrow)
        have HO5 := Lib.hid hown'
        clear hown' hgrow
        go_wp2_with fail
        go_roundw
        case rel => exact ⟨k + 1, by omega, by go_num, by rw [HW.out]; rfl, HA5.out, by rw [HS.out]; simpa [List.flatMap_append, cellsV] using HO5.out⟩
        case measure => simp [intOf]; omega
    · have e1 : cs.take k = cs := List.take_of_length_le (by omega)
      have e2 : k = cs.length := by omega
      have ho := HO.out
      rw [e1, e2, ← ofVs_len l cs row] at ho
      have HOO := Lib.hid ho
      have HWW := Lib.hid (show wholeV (ofVs l cs row) = wb by rw [← hwb, e1])
      rw [hwb]
      clear ha ho hwb e1
      go_wp2_with fail
      go_ret2
      exact ⟨_, by rw [HWW.out]; rfl, HA.out, HOO.out⟩
end Go.Proofs.YtiadkchlkdaceaaGreat

namespace Go.Proofs.YtiadkchlkdaceaaGreat
open Go.RowKit Go.Deep
set_option maxRecDepth 100000
set_option linter.unusedVariables false
def OfS (w : World) (l : List Val) (b : Bool) (e : Ending) (w' : World) : Prop := ∃ A cap, e = .returned (.tuple #[.slice A l.length cap, .bool b]) ∧ Aft w w' ∧ SlAt w' 3 ValR A cap l
theorem of12 (l : List Col) (cs : List ByteArray) (row : List Val) (A : Option Addr) (cap : Nat) (A2 : Option Addr) (cap2 : Nat) (B : Option Addr) (capB : Nat) (w : World) (h : SlAt w 3 ColR A cap l) (h2 : SlAt w 1 StrR A2 cap2 cs) (h3 : SlAt w 3 ValR B capB row) (ok : OkN l cs) (hf : besideB formB l row = true) :
    Calls Tryz.prog 48 #[.slice A l.length cap, .slice A2 cs.length cap2, .slice B row.length capB] w (OfS w (ofVs l cs row) (wholeV (ofVs l cs row))) := by
  refine (of_any l cs row A cap A2 cap2 B capB w h h2 h3 ok.1 (okN_at ok hf)).mono ?_
  rintro e w' ⟨v, rfl, a, o⟩
  obtain ⟨hd, rfl, hn⟩ := own_head o
  have hs := ofVs_small ok hf (fun v hv => by obtain ⟨i, hi, rfl⟩ := List.getElem_of_mem hv; exact val_small h3 i hi)
  exact ⟨hd.a, hd.c, by rw [own_slice o], a, own_slf cellsV o (fun v hv => ⟨rfl, rfl, hs.2 v hv⟩) hs.1⟩
theorem cntS_succ {l : List Col} {rows : List (List Val)} {cs : List ByteArray} {want : List Val} {k : Nat} (hk : k < rows.length) : cntS l (rows.take (k + 1)) cs want = cntS l (rows.take k) cs want + if eqVs (ofVs l cs rows[k]) want then 1 else 0 := by
  unfold cntS
  rw [List.take_succ_eq_append_getElem hk, List.countP_append, List.countP_singleton]
theorem cntS_le {l : List Col} {rows : List (List Val)} {cs : List ByteArray} {want : List Val} : cntS l rows cs want ≤ rows.length := List.countP_le_length
set_option maxHeartbeats 8000000 in
theorem count12 (l : List Col) (rows : List (List Val)) (cs : List ByteArray) (want : List Val) (A : Option Addr) (cap : Nat) (A1 : Option Addr) (cap1 : Nat) (A2 : Option Addr) (cap2 : Nat) (B : Option Addr) (capB : Nat) (w : World) (h : SlAt w 3 ColR A cap l) (h1 : SlAt w 1 RowsR A1 cap1 rows) (h2 : SlAt w 1 StrR A2 cap2 cs) (h3 : SlAt w 3 ValR B capB want) (ok : OkN l cs) (hf : ∀ r ∈ rows, besideB formB l r = true) :
    Calls Tryz.prog 49 #[.slice A l.length cap, .slice A1 rows.length cap1, .slice A2 cs.length cap2, .slice B want.length capB] w fun e w' => e = .returned (.int .i64 (cntS l rows cs want)) ∧ Aft w w' := by
  have hlen := h1.len
  have H := Lib.hid h
  have H1 := Lib.hid h1
  have H2 := Lib.hid h2
  have H3 := Lib.hid h3
  have HF := Lib.hid hf
  have HOK := Lib.hid ok
  clear h h1 h2 h3 hf ok
  go_enter Tryz.func49, Tryz.ntmps49
  go_wp2_with fail
  go_loopw [9, 10] (fun n i wr => ∃ k : Nat, k ≤ rows.length ∧ i = .int .i64 k ∧ n = .int .i64 (cntS l (rows.take k) cs want) ∧ Aft w wr) (fun _ i _ => rows.length - (intOf i).toNat)
  case atStart => exact ⟨0, Nat.zero_le _, rfl, rfl, Aft.refl _⟩
  case round =>
    obtain ⟨k, hk, rfl, rfl, ha⟩ := hrel
    have HA := Lib.hid ha
    clear ha
    by_cases hlt : k < rows.length
    · obtain ⟨b, off, A4, cap4, hA, hb, c0, hv⟩ := row_at (rows_aft HA.out H1.out) hlt
      have HS := Lib.hid (cntS_succ (l := l) (cs := cs) (want := want) hlt)
      have hle := cntS_le (l := l) (rows := rows.take k) (cs := cs) (want := want)
      have hle2 : (rows.take k).length ≤ k := by rw [List.length_take]; omega
      obtain ⟨u, hu⟩ : ∃ u, rows[k] = u := ⟨_, rfl⟩
      have hm : u ∈ rows := by rw [← hu]; exact List.getElem_mem hlt
      rw [hu] at c0 hv HS
      have C := Lib.hid (of12 l cs u A cap A2 cap2 A4 cap4 wr (cols_aft HA.out H.out) (strs_aft HA.out H2.out) hv HOK.out (HF.out u hm))
      rw [hA]
      clear hu hv hA
      obtain ⟨n0, hn0⟩ : ∃ n0, cntS l (rows.take k) cs want = n0 := ⟨_, rfl⟩
      rw [hn0] at hle HS ⊢
      go_wp2_with fail
      refine C.out.mono ?_
      rintro e V ⟨A5, cap5, rfl, aV, hV⟩
      have C2 := Lib.hid (rsame_any A5 cap5 (ofVs l cs u) B capB want V hV (vals_aft (HA.out.trans aV) H3.out))
      have HAV := Lib.hid (HA.out.trans aV)
      obtain ⟨b1, hb1⟩ : ∃ b1, eqVs (ofVs l cs u) want = b1 := ⟨_, rfl⟩
      rw [hb1] at C2 HS
      clear C aV hV c0 hb1
      go_wp2_with fail
      refine C2.out.mono ?_
      rintro e V2 ⟨rfl, aV2⟩
      have HAV2 := Lib.hid (HAV.out.trans aV2)
      clear C2 aV2
      cases b1
      · go_wp2_with fail
        go_roundw
        case rel => exact ⟨k + 1, by omega, by go_num, by rw [HS.out]; rfl, HAV2.out⟩
        case measure => simp [intOf]; omega
      · go_wp2_with fail
        go_roundw
        case rel => exact ⟨k + 1, by omega, by go_num, by rw [HS.out, if_pos trivial]; rfl, HAV2.out⟩
        case measure => simp [intOf]; omega
    · have e : rows.take k = rows := List.take_of_length_le (by omega)
      rw [e]
      go_wp2_with fail
      go_ret
      exact ⟨rfl, HA.out⟩
end Go.Proofs.YtiadkchlkdaceaaGreat

namespace Go.Proofs.YtiadkchlkdaceaaGreat
open Go.RowKit
set_option maxRecDepth 100000
set_option linter.unusedVariables false
theorem name_eq33 {a b c : ByteArray} (h1 : eqS a c = true) (h2 : eqS b c = true) : cmpS a b = 0 := by
  rw [(eqS_iff9 _ _).1 h1, (eqS_iff9 _ _).1 h2]
  exact (cmpS_eq _ _).2 (by unfold eqS; simp)
theorem rul_one33 {l : List Rul} {name : ByteArray} (hr : ∀ (a b : Nat) (ha : a < l.length) (hb : b < l.length), a < b → cmpRl l[a] l[b] < 0) {x y : Rul} (hx : x ∈ l) (hy : y ∈ l) (h1 : eqS x.name name = true) (h2 : eqS y.name name = true) : x = y := by
  obtain ⟨i, hi, rfl⟩ := List.getElem_of_mem hx
  obtain ⟨j, hj, rfl⟩ := List.getElem_of_mem hy
  have e1 : cmpRl l[i] l[j] = 0 := name_eq33 h1 h2
  have e2 : cmpRl l[j] l[i] = 0 := name_eq33 h2 h1
  rcases Nat.lt_trichotomy i j with h | h | h
  · have := hr i j hi hj h; omega
  · subst h; rfl
  · have := hr j i hj hi h; omega
theorem tabAt_shf (S : List Shf) (s n : ByteArray) : tabAt (S.map (·.t)) s n = shfAt S s n := idxP_mapS (fun t : Tab => eqS t.schema s && eqS t.name n) Shf.t S
theorem far_key {S : List Shf} {ss : List Sch} (ok : SOk S ss) {x : Shf} (hx : x ∈ S) {r : Rul} (hr : r ∈ x.t.rules) (hk : r.kind = 4) :
    ∃ q q2 : Nat, shfAt S r.schema r.table = q ∧ ∃ hq : q < S.length, idxP (fun c : Rul => eqS c.name r.key) S[q].t.rules = q2 ∧ ∃ h2 : q2 < S[q].t.rules.length, S[q].t.rules[q2].cols = keyOf S[q].t r.key := by
  obtain ⟨t, ht, h1, h2, k, hkm, h3, h4, _⟩ := (ok.tab hx).key r hr hk
  obtain ⟨y, hy, rfl⟩ := List.mem_map.1 ht
  obtain ⟨q, hq, rfl⟩ := List.getElem_of_mem hy
  have hs := own_shf ok hq
  rw [h1, h2] at hs
  have hri : ∀ (a b : Nat) (ha : a < S[q].t.rules.length) (hb : b < S[q].t.rules.length), a < b → cmpRl S[q].t.rules[a] S[q].t.rules[b] < 0 := fun a b ha hb hab => rises_lt preRl.tr (ok.tab hy).rises a b ha hb hab
  have hkn : eqS k.name r.key = true := (eqS_iff9 _ _).2 h3
  have hi : 0 ≤ idxP (fun c : Rul => eqS c.name r.key) S[q].t.rules := (any_iff _ _).1 (List.any_eq_true.2 ⟨k, hkm, hkn⟩)
  obtain ⟨q2, hq2⟩ := Int.eq_ofNat_of_zero_le hi
  have hlt : q2 < S[q].t.rules.length := by
    have := (idxP_range (fun c : Rul => eqS c.name r.key) S[q].t.rules).2
    omega
  have hat : eqS S[q].t.rules[q2].name r.key = true := idxP_at (fun c : Rul => eqS c.name r.key) S[q].t.rules q2 hlt hq2
  have e := rul_one33 hri (List.getElem_mem hlt) hkm hat hkn
  refine ⟨q, q2, hs, hq, hq2, hlt, ?_⟩
  unfold keyOf
  rw [uniq_find (isKey r.key) S[q].t.rules S[q].t.rules[q2] (List.getElem_mem hlt) (by rw [e]; unfold isKey; rw [h4, hkn]; rfl) (fun y hy hp => by
    unfold isKey at hp
    rw [Bool.and_eq_true] at hp
    exact rul_one33 hri hy (List.getElem_mem hlt) hp.2 hat)]
  rfl
end Go.Proofs.YtiadkchlkdaceaaGreat

namespace Go.Proofs.YtiadkchlkdaceaaGreat
open Go.RowKit
set_option maxRecDepth 100000
set_option linter.unusedVariables false
set_option maxHeartbeats 8000000 in
theorem rfit_any (t : Tab) (row : List Val) (A : Option Addr) (cap : Nat) (A2 : Option Addr) (cap2 : Nat) (B : Option Addr) (capB : Nat) (w : World) (h : SlAt w 3 ColR A cap t.cols) (h2 : SlAt w 8 RulR A2 cap2 t.rules) (h3 : SlAt w 3 ValR B capB row) :
    Calls Tryz.prog 47 #[.agg #[.string t.schema, .string t.name, .string t.owner, .slice A t.cols.length cap, .slice A2 t.rules.length cap2], .slice B row.length capB] w
      fun e w' => e = .returned (.int .i64 (fitE t row)) ∧ Aft w w' := by
  obtain ⟨c, hc⟩ : ∃ c, tableOk t = c := ⟨_, rfl⟩
  obtain ⟨f, hf⟩ : ∃ f, besideB formB t.cols row = f := ⟨_, rfl⟩
  have Ck := Lib.hid (show ∀ w', Aft w w' → Calls Tryz.prog 81 #[.agg #[.string t.schema, .string t.name, .string t.owner, .slice A t.cols.length cap, .slice A2 t.rules.length cap2]] w' fun e w'' => e = .returned (.bool c) ∧ Aft w' w'' from
    fun w' a => (rtable_any t A cap A2 cap2 w' (cols_aft a h) (ruls_aft a h2)).mono fun e w'' ⟨he, hw⟩ => ⟨he.trans (by rw [hc]), hw⟩)
  have Cf := Lib.hid (show ∀ w', Aft w w' → Calls Tryz.prog 65 #[.slice A t.cols.length cap, .slice B row.length capB] w' fun e w'' => e = .returned (.bool f) ∧ Aft w' w'' from
    fun w' a => (rform_any A cap t.cols B capB row w' (cols_aft a h) (vals_aft a h3)).mono fun e w'' ⟨he, hw⟩ => ⟨he.trans (by rw [hf]), hw⟩)
  have HT := Lib.hid hc
  have HFo := Lib.hid hf
  have hlen := h.len
  have hlen2 := h2.len
  have hlen3 := h3.len
  clear hc hf
  go_enter Tryz.func47, Tryz.ntmps47
  go_wp2_with fail
  refine (Ck.out _ ((Aft.refl w).alloc _)).mono ?_
  rintro e w1 ⟨rfl, a1⟩
  obtain ⟨hbt, hfr, hz, hzk, HA⟩ := aft_box a1
  have HAB := Lib.hid a1
  clear a1 Ck
  cases c
  · have HR := Lib.hid (fitE_1 (row := row) HT.out)
    go_wp2_with fail
    go_ret
    exact ⟨by rw [HR.out]; rfl, HA.out⟩
  go_wp2_with fail
  refine (Cf.out _ HA.out).mono ?_
  rintro e w2 ⟨rfl, a2⟩
  have HAB2 := Lib.hid (HAB.out.trans a2)
  clear a2 Cf HA HAB hbt hfr hz hzk
  obtain ⟨hbt, hfr, hz, hzk, HA⟩ := aft_box HAB2.out
  cases f
  · have HR := Lib.hid (fitE_100 HT.out HFo.out)
    go_wp2_with fail
    go_ret
    exact ⟨by rw [HR.out]; rfl, HA.out⟩
  have HLL := Lib.hid (show t.cols.length = row.length from ((besideB_iff formB t.cols row).1 HFo.out).1)
  go_wp2_with fail
  go_loop [5] (fun i => ∃ k : Nat, k ≤ row.length ∧ i = .int .i64 k ∧ ∀ j, j < k → ∀ (hj : j < t.cols.length) (hj2 : j < row.length), nullB t.cols[j] row[j] = true) (fun i => row.length - (intOf i).toNat)
  case atStart => exact ⟨0, Nat.zero_le _, rfl, fun j hj => absurd hj (Nat.not_lt_zero j)⟩
  case round =>
    obtain ⟨k0, hk0, rfl, hp⟩ := hrel
    have HP0 := Lib.hid hp; clear hp
    by_cases hlt0 : k0 < row.length
    · have hlc : k0 < t.cols.length := by have := HLL.out; omega
      obtain ⟨b, off, rfl, hb, c0, c1, c2, _⟩ := col_at (cols_aft HA.out h) hlc
      obtain ⟨b2, off2, rfl, hb2, d0, d1, d2, _⟩ := val_at (vals_aft HA.out h3) hlt0
      cases g1 : (row[k0].kind == 1)
      · have HN := Lib.hid (ext_lt (p := fun j => ∀ (hj : j < t.cols.length) (hj2 : j < row.length), nullB t.cols[j] row[j] = true) HP0.out (fun _ _ => by unfold nullB; rw [show (row[k0].kind != 1) = true by simpa using g1]; simp))
        go_wp2_with fail
        go_round
        case rel => exact ⟨k0 + 1, by omega, by go_num, HN.out⟩
        case measure => simp [intOf]; omega
      · cases g2 : t.cols[k0].null
        · have HR := Lib.hid (fitE_101 HT.out HFo.out (besideB_false nullB t.cols row k0 hlc hlt0 (by unfold nullB; rw [g2, show (row[k0].kind != 1) = false by simpa using g1]; rfl)))
          go_wp2_with fail
          go_ret
          exact ⟨by rw [HR.out]; rfl, HA.out⟩
        · have HN := Lib.hid (ext_lt (p := fun j => ∀ (hj : j < t.cols.length) (hj2 : j < row.length), nullB t.cols[j] row[j] = true) HP0.out (fun _ _ => by unfold nullB; rw [g2]; rfl))
          go_wp2_with fail
          go_round
          case rel => exact ⟨k0 + 1, by omega, by go_num, HN.out⟩
          case measure => simp [intOf]; omega
    have HNu := Lib.hid (besideB_true nullB t.cols row HLL.out fun j hj hj2 => HP0.out j (by omega) hj hj2)
    have HR := Lib.hid (fitE_any HT.out HFo.out HNu.out)
    clear HP0
    go_wp2_with fail
    go_loopw [6] (fun i wr => ∃ k : Nat, k ≤ t.rules.length ∧ i = .int .i64 k ∧ Aft (w.alloc (.cells #[.string t.schema, .string t.name, .string t.owner, .slice A t.cols.length cap, .slice A2 t.rules.length cap2] 76)) wr ∧ ∀ j, j < k → ∀ (hj : j < t.rules.length), badR t.cols row t.rules[j] = false) (fun i _ => t.rules.length - (intOf i).toNat)
    case atStart => exact ⟨0, Nat.zero_le _, rfl, HAB2.out, fun j hj => absurd hj (Nat.not_lt_zero j)⟩
    case round =>
      clear hbt hfr hz hzk HA HAB2
      obtain ⟨k, hk, rfl, ha, hp⟩ := hrel
      obtain ⟨hbt, hfr, hz, hzk, HA⟩ := aft_box ha
      have HAB := Lib.hid ha
      have HP := Lib.hid hp; clear hp ha
      by_cases hlt : k < t.rules.length
      · have hr := ruls_aft HA.out h2
        have htf := table_fits HT.out hlt
        obtain ⟨b, off, D2, capD2, rfl, hb, c0, c1, c2, c3, c4, c5, c6, c7, hcs, _⟩ := rul_at hr hlt
        obtain ⟨p, hpp⟩ : ∃ p, t.rules[k] = p := ⟨_, rfl⟩
        rw [hpp] at c0 c1 c2 c3 c4 c5 c6 c7 hcs htf
        have HPP := Lib.hid hpp
        clear hr hpp
        cases h3k : (p.kind != 3)
        · have h3' : (p.kind == 3) = true := by simpa using h3k
          have hp0 := fits_pos htf
          have hq0 := fits_cols htf hp0
          obtain ⟨q, hq⟩ := Int.eq_ofNat_of_zero_le hq0
          have hql := colAt_lt hq
          have hqr : q < row.length := by have := HLL.out; omega
          have HBD := Lib.hid (show badR t.cols row t.rules[k] = outB row[q] p by rw [HPP.out]; exact badR_of h3' hp0 hq hqr)
          obtain ⟨W, hW⟩ : ∃ W, W = wr.alloc (.cells #[.string p.name, .int .i64 p.kind, .slice D2 p.cols.length capD2, .int .i64 p.low, .int .i64 p.high, .string p.schema, .string p.table, .string p.key] 108) := ⟨_, rfl⟩
          have aW : Aft wr W := by rw [hW]; exact (Aft.refl wr).alloc _
          have hbW : ∀ o, W.cell? ⟨wr.heap.size, o, none⟩ = (#[.string p.name, .int .i64 p.kind, .slice D2 p.cols.length capD2, .int .i64 p.low, .int .i64 p.high, .string p.schema, .string p.table, .string p.key] : Array Value)[o]? := by intro o; rw [hW]; simp
          obtain ⟨b5, off5, hD, hb5, g5, _⟩ := str_at (strs_aft aW hcs) hp0
          subst hD
          obtain ⟨b6, off6, hBB, hb6, v0, v1, v2, _⟩ := val_at (vals_aft (HA.out.trans aW) h3) hqr
          subst hBB
          have g5' : W.cell? ⟨b5, off5, none⟩ = some (.string p.cols[0]) := by simpa using g5
          have t3 : W.cell? ⟨w.heap.size, 3, none⟩ = some (.slice A t.cols.length cap) := aW.cell_kept (hbt 3)
          have r2 : W.cell? ⟨wr.heap.size, 2, none⟩ = some (.slice (some ⟨b5, off5, none⟩) p.cols.length capD2) := hbW 2
          have r3 : W.cell? ⟨wr.heap.size, 3, none⟩ = some (.int .i64 p.low) := hbW 3
          have r4 : W.cell? ⟨wr.heap.size, 4, none⟩ = some (.int .i64 p.high) := hbW 4
          have HAW := Lib.hid (HA.out.trans aW)
          have HABW := Lib.hid (HAB.out.trans aW)
          have Cp := Lib.hid (show ∀ w', Aft W w' → Calls Tryz.prog 37 #[.slice A t.cols.length cap, .string p.cols[0]] w' fun e w'' => e = .returned (.int .i64 q) ∧ w' = w'' from
            fun w' a => (rcol_any A cap t.cols p.cols[0] w' (cols_aft (HAW.out.trans a) h)).mono fun e w'' ⟨he, hw⟩ => ⟨he.trans (by rw [← hq]; rfl), hw⟩)
          have hzr : wr.heap.size < W.heap.size := by rw [hW]; simp
          clear hq hq0 htf
          go_wp2_with fail
          rw [← hW]
          clear hW
          have KF := Lib.hid (show ∀ w', Aft W w' → (Aft W w' ∧ w'.cell? ⟨w.heap.size, 3, none⟩ = some (.slice A t.cols.length cap) ∧ w'.cell? ⟨wr.heap.size, 2, none⟩ = some (.slice (some ⟨b5, off5, none⟩) p.cols.length capD2) ∧ w'.cell? ⟨b5, off5, none⟩ = some (.string p.cols[0]) ∧ w'.cell? ⟨b6, off6 + q * 3, none⟩ = some (.int .i64 row[q].kind) ∧ w'.cell? ⟨b6, off6 + q * 3 + 1, none⟩ = some (.int .i64 row[q].int) ∧ w'.cell? ⟨b6, off6 + q * 3 + 2, none⟩ = some (.string row[q].text)) from fun w' a => ⟨a, a.cell_kept t3, a.cell_kept r2, a.cell_kept g5', a.cell_kept v0, a.cell_kept v1, a.cell_kept v2⟩)
          go_region_held3 (fun w' => Aft W w' ∧ w'.cell? ⟨w.heap.size, 3, none⟩ = some (.slice A t.cols.length cap) ∧ w'.cell? ⟨wr.heap.size, 2, none⟩ = some (.slice (some ⟨b5, off5, none⟩) p.cols.length capD2) ∧ w'.cell? ⟨b5, off5, none⟩ = some (.string p.cols[0]) ∧ w'.cell? ⟨b6, off6 + q * 3, none⟩ = some (.int .i64 row[q].kind) ∧ w'.cell? ⟨b6, off6 + q * 3 + 1, none⟩ = some (.int .i64 row[q].int) ∧ w'.cell? ⟨b6, off6 + q * 3 + 2, none⟩ = some (.string row[q].text))
            (first | exact KF.out _ (Aft.refl _).drew | assumption | exact KF.out _ (Aft.drew (Aft.alloc (Aft.refl W) _)))
            ((go_at_call 37; refine (Cp.out _ (And.left (by assumption : Aft W _ ∧ _))).mono ?_; rintro e w4 ⟨rfl, rfl⟩))
          all_goals
            obtain ⟨E, hE⟩ : ∃ E, E = (W.alloc (.cells #[.int .i64 row[q].kind, .int .i64 row[q].int, .string row[q].text] 37)).drew := ⟨_, rfl⟩
            have aE : Aft W E := by rw [hE]; exact ((Aft.refl W).alloc _).drew
            have x0 : E.cell? ⟨W.heap.size, 0, none⟩ = some (.int .i64 row[q].kind) := by rw [hE]; exact World.cell?_alloc_at _ _ _ _ rfl
            have x1 : E.cell? ⟨W.heap.size, 1, none⟩ = some (.int .i64 row[q].int) := by rw [hE]; exact World.cell?_alloc_at _ _ _ _ rfl
            have y3 : E.cell? ⟨wr.heap.size, 3, none⟩ = some (.int .i64 p.low) := aE.cell_kept r3
            have y4 : E.cell? ⟨wr.heap.size, 4, none⟩ = some (.int .i64 p.high) := aE.cell_kept r4
            have HAE := Lib.hid (HABW.out.trans aE)
            have HAE0 := Lib.hid (HAW.out.trans aE)
            rw [← hE]
            clear hE aE
            cases g2 : (row[q].kind == 2)
            · have HN := Lib.hid (ext_lt (p := fun j => ∀ (hj : j < t.rules.length), badR t.cols row t.rules[j] = false) HP.out (fun _ => by rw [HBD.out]; unfold outB; rw [g2]; rfl))
              go_wp2_with fail
              go_roundw
              case rel => exact ⟨k + 1, by omega, by go_num, HAE.out, HN.out⟩
              case measure => simp [intOf]; omega
            by_cases gl : row[q].int < p.low
            · have HX := Lib.hid (show fitE t row = 102 by rw [HR.out, any_true _ _ k hlt (by rw [HBD.out]; unfold outB; rw [g2, decide_eq_true gl]; rfl)]; rfl)
              have dl : decide (row[q].int < p.low) = true := decide_eq_true gl
              go_wp2_with fail
              go_ret
              exact ⟨by rw [HX.out]; rfl, HAE0.out⟩
            have dl : decide (row[q].int < p.low) = false := decide_eq_false gl
            by_cases gh : p.high < row[q].int
            · have HX := Lib.hid (show fitE t row = 102 by rw [HR.out, any_true _ _ k hlt (by rw [HBD.out]; unfold outB; rw [g2, dl, decide_eq_true gh]; rfl)]; rfl)
              have dh : decide (p.high < row[q].int) = true := decide_eq_true gh
              go_wp2_with fail
              go_ret
              exact ⟨by rw [HX.out]; rfl, HAE0.out⟩
            · have dh : decide (p.high < row[q].int) = false := decide_eq_false gh
              have HN := Lib.hid (ext_lt (p := fun j => ∀ (hj : j < t.rules.length), badR t.cols row t.rules[j] = false) HP.out (fun _ => by rw [HBD.out]; unfold outB; rw [g2, dl, dh]; rfl))
              go_wp2_with fail
              go_roundw
              case rel => exact ⟨k + 1, by omega, by go_num, HAE.out, HN.out⟩
              case measure => simp [intOf]; omega
        · have HN := Lib.hid (ext_lt (p := fun j => ∀ (hj : j < t.rules.length), badR t.cols row t.rules[j] = false) HP.out (fun _ => by rw [HPP.out]; unfold badR; rw [show (p.kind == 3) = false by simpa using h3k]; rfl))
          go_wp2_with fail
          go_roundw
          case rel => exact ⟨k + 1, by omega, by go_num, HAB.out.alloc _, HN.out⟩
          case measure => simp [intOf]; omega
      · have HF := Lib.hid (show fitE t row = 0 by rw [HR.out, any_false _ _ fun j hj => HP.out j (by omega) hj]; rfl)
        go_wp2_with fail
        go_ret
        exact ⟨by rw [HF.out]; rfl, HA.out⟩
end Go.Proofs.YtiadkchlkdaceaaGreat

