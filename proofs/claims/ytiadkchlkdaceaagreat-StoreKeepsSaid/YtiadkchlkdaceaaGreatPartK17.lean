/- Contracts of the program, part 17. -/
import Derived.Deep.Onto
import Derived.LaidEqlPtr
import Derived.OwnWalk
import Derived.Laws.AppendOwn
import Derived.ProofKit
import Derived.OpenShut
import Derived.Deep.Slices
import Derived.ChangeOld
import Derived.SizedLaws
import Derived.WalkKit
import Derived.WalkSpells
import Derived.WalkLawsBesides
import Derived.Lib.Hide
import Derived.Deep.QuietTactic
import Derived.BigQuiet
import Derived.Below
import Derived.Deep.Draws
import Derived.StillTailTactics
import Derived.Laws.Cells
import Derived.Laws.IdiomCopy
import Derived.Test.YtiadkchlkdaceaaGreatRows
import Derived.Lib.Bytealg
import Derived.IntWalk
import Derived.ShutString
import Derived.Shelf.SlSortCmp.WholeK
import Derived.Lib.SliceRun
import Derived.Deep.AppendLies
import Derived.Deep.Upon
import Derived.OneCell
import Derived.Deep.DeepMust
import Derived.Deep.RegionLaw
import Derived.Deep.RegionHeld3
import Derived.Shelf.RegionOpen
import Derived.Sort.BigQuietIn
import Derived.RangeFuncNested
import Derived.RangeFuncBound
import Derived.RangeFuncCalls
import Derived.RangeFuncLeaves
import Derived.Shelf.Abstract
import Derived.OwnWalkIn
import Derived.TacticsInMore
import Derived.LoopNIn
import Derived.LoopIn
import Derived.Sort.QuietTacIn
import Derived.NoCompiler
import Derived.OrdersHeld
import Derived.Lib.Walk
import Derived.Test.YtiadkchlkdaceaaGreatPartK1
import Derived.Test.YtiadkchlkdaceaaGreatPartK2
import Derived.Test.YtiadkchlkdaceaaGreatPartK3
import Derived.Test.YtiadkchlkdaceaaGreatPartK4
import Derived.Test.YtiadkchlkdaceaaGreatPartK5
import Derived.Test.YtiadkchlkdaceaaGreatPartK6
import Derived.Test.YtiadkchlkdaceaaGreatPartK7
import Derived.Test.YtiadkchlkdaceaaGreatPartK8
import Derived.Test.YtiadkchlkdaceaaGreatPartK9
import Derived.Test.YtiadkchlkdaceaaGreatPartK10
import Derived.Test.YtiadkchlkdaceaaGreatPartK11
import Derived.Test.YtiadkchlkdaceaaGreatPartK12
import Derived.Test.YtiadkchlkdaceaaGreatPartK13
import Derived.Test.YtiadkchlkdaceaaGreatPartK14
import Derived.Test.YtiadkchlkdaceaaGreatPartK15
import Derived.Test.YtiadkchlkdaceaaGreatPartK16
namespace Go.Proofs.YtiadkchlkdaceaaGreat
open Go.RowKit Go.Deep
set_option maxRecDepth 100000
set_option linter.unusedVariables false
theorem info2Rwl : (Tryz.prog.info? 47).map (fun i => (i.zero, i.size, i.bytes)) = some (some (.slice none 0 0), 1, 24) := by kernel_rfl
theorem DmpsIn.rowsAt {w : World} {B : Nat} {h : Hd} {D : List ODmp} {S : List Shf} {ss : List Sch} (hd : DmpsIn w B h D) (e : D.map ODmp.s = dumpS S) (ok : SOk S ss) {y : ODmp} (hy : y ∈ D) : SlAt w 1 RowsR y.hr.a y.hr.c (y.rows.map ORow.vals) := by
  have h1 : y.s ∈ dumpS S := by rw [← e]; exact List.mem_map_of_mem hy
  obtain ⟨x, hx, e1⟩ := List.mem_map.1 h1
  have e2 : y.rows.map ORow.vals = x.rows := (congrArg Dmp.rows e1).symm
  have hok := ok.shf hx
  have hlen : y.rows.length = x.rows.length := by rw [← e2, List.length_map]
  refine RowsIn.at (hd.each y hy).row (by omega) fun o ho => row_small hok.2.1 (hok.2.2 o.vals ?_)
  rw [← e2]
  exact List.mem_map_of_mem ho
theorem dump_rows {D : List ODmp} {S : List Shf} (e : D.map ODmp.s = dumpS S) : S.map (·.rows) = D.map fun d => d.rows.map ORow.vals := by
  have := congrArg (List.map Dmp.rows) e
  rw [List.map_map] at this
  rw [show D.map (fun d => d.rows.map ORow.vals) = D.map (Dmp.rows ∘ ODmp.s) from rfl, this]
  unfold dumpS
  rw [List.map_map]
  rfl
def hrC (d : ODmp) : List Value := [d.hr.v]
set_option maxHeartbeats 8000000 in
theorem keeps12 (ss : List Sch) (S : List Shf) (As : Option Addr) (caps : Nat) (At : Option Addr) (capt : Nat) (h : Hd) (D : List ODmp) (B : Nat) (w : World) (ok : SOk S ss) (kp : KeepS S) (hsch : SlAt w 2 SchR As caps ss) (htab : SlAt w 5 TabR At capt (S.map (·.t))) (hd : DmpsIn w B h D) (hD : D.map ODmp.s = dumpS S) :
    Calls Tryz.prog 21 #[.agg #[.slice As ss.length caps, .slice At S.length capt], .slice h.a S.length h.c] w fun e w' => e = .returned (.bool true) ∧ Aft w w' := by
  obtain ⟨i0, hi, hz0, hz1, hz2⟩ := info_parts info2Rwl
  have HI := Lib.hid hi
  have HZ0 := Lib.hid hz0
  have HZ1 := Lib.hid hz1
  have HZ2 := Lib.hid hz2
  have HT := Lib.hid htab
  have HIN := Lib.hid hd
  have HD := Lib.hid hD
  have OK := Lib.hid ok
  have KP := Lib.hid kp
  have hlen : S.length ≤ 64 := by have := ok.good.nt; simpa using this
  have hdl : D.length = S.length := by have := congrArg List.length hD; simpa [dumpS] using this
  have HDL := Lib.hid hdl
  have HLEN := Lib.hid hlen
  have HVL := Lib.hid (show ∀ d ∈ D, d.hr.v = .slice d.hr.a d.rows.length d.hr.c from fun d hdm => own_slice (hd.each d hdm).row.own)
  obtain ⟨W, hW⟩ : ∃ W, W = (w.alloc (.cells #[.slice As ss.length caps, .slice At S.length capt] 29)).alloc (.cells #[.slice As ss.length caps, .slice At S.length capt, .slice none 0 0] 32) := ⟨_, rfl⟩
  have aW : Aft w W := by rw [hW]; exact ((Aft.refl w).alloc _).alloc _
  have r0 : RowAt W w.heap.size [.slice As ss.length caps, .slice At S.length capt] := by rw [hW]; exact (box_row2 (Aft.refl _)).aft ((Aft.refl _).alloc _)
  have r1 : RowAt W (w.heap.size + 1) [.slice As ss.length caps, .slice At S.length capt, .slice none 0 0] := by
    rw [hW]
    have := box_row2 (w := w.alloc (.cells #[.slice As ss.length caps, .slice At S.length capt] 29)) (c := [.slice As ss.length caps, .slice At S.length capt, .slice none 0 0]) (t := 32) (Aft.refl _)
    simpa using this
  have hWz : W.heap.size = w.heap.size + 2 := by rw [hW]; simp
  have HWZ := Lib.hid hWz
  have HAW := Lib.hid aW
  have HR0 := Lib.hid r0
  have HR1 := Lib.hid r1
  have lw := Nat.lt_succ_self w.heap.size
  clear hi hz0 hz1 hz2 htab hd hD ok kp hdl aW r0 r1 hWz
  go_enter Tryz.func21, Tryz.ntmps21
  go_wp2_with fail
  rw [← hW]
  clear hW
  go_loopw [6] (fun i wr => ∃ (k : Nat) (m : Hd), k ≤ S.length ∧ i = .int .i64 k ∧ Aft w wr ∧ RowAt wr w.heap.size [.slice As ss.length caps, .slice At S.length capt] ∧ RowAt wr (w.heap.size + 1) [.slice As ss.length caps, .slice At S.length capt, .slice m.a k m.c] ∧ wr.ownsRow (w.heap.size + 2) 47 1 (.slice m.a k m.c) k ((D.take k).flatMap hrC)) (fun i _ => S.length - (intOf i).toNat)
  case atStart => exact ⟨0, ⟨none, 0, 0⟩, Nat.zero_le _, rfl, HAW.out, HR0.out, HR1.out, own_nil _ _ _ _⟩
  case round =>
    obtain ⟨k, m, hk, rfl, ha, hr0, hr1, hown⟩ := hrel
    have HA := Lib.hid ha
    have R0 := Lib.hid hr0
    have R1 := Lib.hid hr1
    have HOW := Lib.hid hown
    clear ha hr0 hr1 hown
    by_cases hlt : k < S.length
    · have hkD : k < D.length := by rw [HDL.out]; exact hlt
      obtain ⟨g, hh, hg0, _, _, d3'⟩ := dmp_at HIN.out hkD
      have d3 := (Below.cell HA.out (p := ⟨g, k * 4 + 3, none⟩) hg0).trans d3'
      have hg := Nat.lt_of_lt_of_le hg0 HA.out.size
      clear d3'
      have HTK := Lib.hid (List.take_succ_eq_append_getElem hkD)
      have HVK := Lib.hid (HVL.out _ (List.getElem_mem hkD))
      obtain ⟨d, hdk⟩ : ∃ d, D[k] = d := ⟨_, rfl⟩
      rw [hdk] at d3 HTK HVK
      have c2 := R1.out.cell (j := 2) rfl
      have cz := R1.out.1
      have hk1 := HA.out.size
      have n1 : ¬ InV (.slice m.a k m.c) (w.heap.size + 1) := fun hg => by have := (HOW.out.lt _ hg).1; omega
      have n2 : ¬ InV (.slice m.a k m.c) g := fun hg => by have := (HOW.out.lt _ hg).1; omega
      rw [hh]
      clear hdk hh
      go_wp2_with fail
      refine wp_region_reads 10 12 (fun w' => ∃ x : KLat (.slice m.a k m.c) wr, w' = klat (.slice m.a k m.c) wr x) (by kernel_rfl) (by kernel_rfl) (KL.aft (Aft.refl wr).drew) ?_
      simp only [List.take_succ_cons, List.take_zero, List.drop_succ_cons, List.drop_zero]
      repeat (go_big_quiet_step (fail))
      refine wpQuiet_nil ?_
      refine wpChain_step (fun K hK => ?_)
      go_simp
      obtain ⟨D9, hD9⟩ : ∃ D9, D9 = wr.drew := ⟨_, rfl⟩
      have aD : Aft wr D9 := by rw [hD9]; exact (Aft.refl wr).drew
      rw [show (wr.alloc (.cells #[.slice d.hr.a d.rows.length d.hr.c] 47)).drew = wr.drew.alloc (.cells #[.slice d.hr.a d.rows.length d.hr.c] 47) from rfl, ← hD9, show wr.heap.size = D9.heap.size from by rw [hD9]; rfl]
      refine hK _ _ (fun _ => KL.aft (aD.alloc _)) ?_
      clear hK K hD9
      have zD := aD.size
      refine wpChain_step (fun K hK => ?_)
      refine wp_append_lies _ (.tmp 31) (.tmp 37) 30 rfl (w.heap.size + 2) 47 i0 _ 1 24 Tryz.underlying30 HI.out HZ0.out HZ1.out HZ2.out rfl (by decide) (.slice m.a k m.c) k ((D.take k).flatMap hrC) (by rfl) ((own_aft HOW.out aD).alloc _) ⟨D9.heap.size, 0, none⟩ 1 1 [.slice d.hr.a d.rows.length d.hr.c] (by rfl) rfl (World.news_of_block (cs := #[.slice d.hr.a d.rows.length d.hr.c]) (t := 47) (fr := (0, 0)) (heap_alloc_new D9 _)) (by simp [Value.oneCell']) (by omega) (by unfold maxLen; omega) (by omega) (by simp; omega) (D9.heap.size + 1) (by simp) ?_
      intro gg cap' w5 hown5 hgrow hat hgl
      refine hK _ _ (fun _ => KL.of ((Kb.of_aft (aD.alloc _)).trans (kb_in hgrow))) ?_
      clear hK K
      refine wpChain_list _ (by simp) (by decide) ?_
      have k5 := Kb.of_grown hgrow
      have n0 : ¬ InV (.slice m.a k m.c) w.heap.size := fun hg => by have := (HOW.out.lt _ hg).1; omega
      have q1 : RowAt w5 (w.heap.size + 1) [.slice As ss.length caps, .slice At S.length capt, .slice m.a k m.c] := k5.row (R1.out.aft (aD.alloc _)) n1
      have q0 : RowAt w5 w.heap.size [.slice As ss.length caps, .slice At S.length capt] := k5.row (R0.out.aft (aD.alloc _)) n0
      have f2 := q1.2.2 2 (by simp)
      have g2 := q1.cell (j := 2) rfl
      have z2 := q1.1
      have kset := Kb.set w5 (w.heap.size + 1) 2 (.slice (some ⟨gg, 0, none⟩) (k + 1) cap')
      have HA6 := Lib.hid (show Aft w (w5.setCell ⟨w.heap.size + 1, 2, none⟩ (.slice (some ⟨gg, 0, none⟩) (k + 1) cap')) from (aft_grown (own_down (own_aft HOW.out (aD.alloc (.cells #[.slice d.hr.a d.rows.length d.hr.c] 47))) (by omega)) ((HA.out.trans aD).alloc _) hgrow).setCell _ _ (by simp))
      have HQ0 := Lib.hid (show RowAt (w5.setCell ⟨w.heap.size + 1, 2, none⟩ (.slice (some ⟨gg, 0, none⟩) (k + 1) cap')) w.heap.size [.slice As ss.length caps, .slice At S.length capt] from kset.row q0 (by omega))
      have HQ1 := Lib.hid (show RowAt (w5.setCell ⟨w.heap.size + 1, 2, none⟩ (.slice (some ⟨gg, 0, none⟩) (k + 1) cap')) (w.heap.size + 1) [.slice As ss.length caps, .slice At S.length capt, .slice (some ⟨gg, 0, none⟩) (k + 1) cap'] from q1.set 2 _ (by simp))
      have HO6 := Lib.hid (show World.ownsRow (w5.setCell ⟨w.heap.size + 1, 2, none⟩ (.slice (some ⟨gg, 0, none⟩) (k + 1) cap')) (w.heap.size + 2) 47 1 (.slice (some ⟨gg, 0, none⟩) (k + 1) cap') (k + 1) ((D.take (k + 1)).flatMap hrC) from by
        refine own_kb ?_ kset fun g2 h2 e => ?_
        · rw [HTK.out, List.flatMap_append, List.flatMap_cons, List.flatMap_nil, List.append_nil]
          unfold hrC
          rw [HVK.out]
          exact hown5
        · have := (hown5.lt _ h2).1
          omega)
      clear hown5 hgrow hat hgl k5 q1 q0 kset c2 cz
      go_wp2_with fail
      refine NoPanic.normal ?_
      clear f2 g2 z2
      go_wp2_with fail
      go_roundw
      case rel => have := HLEN.out; exact ⟨k + 1, ⟨some ⟨gg, 0, none⟩, k + 1, cap'⟩, by omega, by go_num, HA6.out, HQ0.out, HQ1.out, HO6.out⟩
      case measure => have := HLEN.out; simp [intOf]; omega
    · have e1 : k = S.length := by omega
      have e2 : D.take k = D := List.take_of_length_le (by rw [HDL.out]; omega)
      rw [e2, e1] at HOW
      rw [e1] at R1
      subst e1
      obtain ⟨V1, hV1⟩ : ∃ V1, V1 = wr := ⟨_, rfl⟩
      subst hV1
      have hRL : SlAt V1 1 RowsLR m.a m.c (S.map (·.rows)) := by
        rw [dump_rows HD.out]
        have hl2 := HDL.out
        refine own_slo (w := V1) (B := w.heap.size + 2) (e := 47) (h := ⟨m.a, S.length, m.c⟩) hrC (fun d => d.rows.map ORow.vals) (by rw [hl2]; exact HOW.out) (fun d hdm => ⟨rfl, d.hr.a, d.hr.c, by unfold hrC; rw [HVL.out d hdm, List.length_map], (HIN.out.aft HA.out).rowsAt HD.out OK.out hdm⟩) (by have := HLEN.out; unfold Small; omega)
      have CS := Lib.hid (rsame12 S (w.heap.size + 1) (.slice As ss.length caps) At capt m.a m.c h.a h.c V1 R1.out (tabs_aft HA.out HT.out) hRL ((HIN.out.aft HA.out).at HD.out OK.out))
      clear hRL
      go_wp2_with fail
      refine CS.out.mono ?_
      rintro e V2 ⟨rfl, aV2⟩
      have HA2 := Lib.hid (HA.out.trans aV2)
      have HR02 := Lib.hid (R0.out.aft aV2)
      clear CS HOW R1 R0 HA aV2
      go_wp2_with fail
      go_loopw [7] (fun i wr => ∃ k : Nat, k ≤ S.length ∧ i = .int .i64 k ∧ Aft V2 wr) (fun i _ => S.length - (intOf i).toNat)
      case atStart => exact ⟨0, Nat.zero_le _, rfl, Aft.refl _⟩
      case round =>
        obtain ⟨k, hk, rfl, ha⟩ := hrel
        have HB := Lib.hid ha
        have HA := Lib.hid (HA2.out.trans ha)
        clear ha
        obtain ⟨V3, hV3⟩ : ∃ V3, V3 = wr := ⟨_, rfl⟩
        subst hV3
        by_cases hlt : k < S.length
        · obtain ⟨b, off, A2, cap2, A3, cap3, hA, hb, c0, c1, c2, c3, c4, hcs, hrs, _⟩ := tab_at (tabs_aft HA.out HT.out) (k := k) (by simpa using hlt)
          have hkD : k < D.length := by rw [HDL.out]; exact hlt
          obtain ⟨g, hh, hg, _, _, d3⟩ := dmp_at (HIN.out.aft HA2.out) hkD
          obtain ⟨_, _, _, e3, hrw⟩ := dmp_rows (HIN.out.aft HA2.out) HD.out OK.out hkD
          have e4 : D[k].rows.length = S[k].rows.length := by rw [← e3, List.length_map]
          rw [e4] at d3
          have s1 := (HR02.out.aft HB.out).cell (j := 1) rfl
          have sz := (HR02.out.aft HB.out).1
          simp only [List.getElem_map] at c0 c1 c2 c3 c4 hcs hrs
          have hm := List.getElem_mem hlt
          obtain ⟨y, hy⟩ : ∃ y, S[k] = y := ⟨_, rfl⟩
          obtain ⟨hr9, hhr⟩ : ∃ q, D[k].hr = q := ⟨_, rfl⟩
          rw [hy] at c0 c1 c2 c3 c4 hcs hrs d3 hm hrw
          rw [hhr] at d3 hrw
          rw [hA] at s1
          rw [hh]
          have HH := Lib.hid hh
          have HM := Lib.hid hm
          have HCS := Lib.hid hcs
          have HRS := Lib.hid hrs
          have HRW := Lib.hid hrw
          obtain ⟨Wt, hWt⟩ : ∃ Wt, Wt = V3.alloc (.cells #[.string y.t.schema, .string y.t.name, .string y.t.owner, .slice A2 y.t.cols.length cap2, .slice A3 y.t.rules.length cap3] 76) := ⟨_, rfl⟩
          have aWt : Aft V3 Wt := by rw [hWt]; exact (Aft.refl V3).alloc _
          have rWt : RowAt Wt V3.heap.size [.string y.t.schema, .string y.t.name, .string y.t.owner, .slice A2 y.t.cols.length cap2, .slice A3 y.t.rules.length cap3] := by rw [hWt]; exact box_row2 (Aft.refl _)
          have HAT := Lib.hid aWt
          have HRT := Lib.hid rWt
          have HAA := Lib.hid (HA.out.trans aWt)
          have KD := Lib.hid (show ∀ V, Aft V2 V → (V.cell? ⟨g, k * 4 + 3, none⟩ = some (.slice hr9.a y.rows.length hr9.c) ∧ g < V.heap.size) from fun V a => ⟨(Below.cell a (p := ⟨g, _, none⟩) hg).trans d3, Nat.lt_of_lt_of_le hg a.size⟩)
          have HBT := Lib.hid (HB.out.trans aWt)
          clear e3 e4 hcs hrs hrw hy hhr hh d3 hg aWt rWt hm hA
          go_wp2_with fail
          rw [← hWt]
          clear hWt c0 c1 c2 c3 c4 hb s1 sz
          go_wp2_with fail
          go_loopw [9] (fun i wr => ∃ k : Nat, k ≤ y.rows.length ∧ i = .int .i64 k ∧ Aft Wt wr) (fun i _ => y.rows.length - (intOf i).toNat)
          case atStart => exact ⟨0, Nat.zero_le _, rfl, Aft.refl _⟩
          case round =>
            obtain ⟨k2, hk2, rfl, ha⟩ := hrel
            have HW4 := Lib.hid ha
            clear ha
            obtain ⟨V4, hV4⟩ : ∃ V4, V4 = wr := ⟨_, rfl⟩
            subst hV4
            obtain ⟨d3, hg⟩ := KD.out V4 (HBT.out.trans HW4.out)
            have hlenR := HRW.out.len
            by_cases hlt2 : k2 < y.rows.length
            · obtain ⟨b6, off6, A6, cap6, hA6, hb6, u0, hv⟩ := row_at (rows_aft (HBT.out.trans HW4.out) HRW.out) hlt2
              have hum := List.getElem_mem hlt2
              obtain ⟨u, hu⟩ : ∃ u, y.rows[k2] = u := ⟨_, rfl⟩
              rw [hu] at u0 hv hum
              have HUM := Lib.hid hum
              have HV := Lib.hid hv
              have rt := HRT.out.aft HW4.out
              have x0 := rt.cell (j := 0) rfl
              have x1 := rt.cell (j := 1) rfl
              have x2 := rt.cell (j := 2) rfl
              have x3 := rt.cell (j := 3) rfl
              have x4 := rt.cell (j := 4) rfl
              have xz := rt.1
              have CF := Lib.hid (rfit_any y.t u A2 cap2 A3 cap3 A6 cap6 V4 (cols_aft (HAT.out.trans HW4.out) HCS.out) (ruls_aft (HAT.out.trans HW4.out) HRS.out) hv)
              rw [KP.out.fit y HM.out u hum] at CF
              rw [hA6] at d3
              clear hu hv hum rt hA6
              go_wp2_with fail
              refine CF.out.mono ?_
              rintro e V5 ⟨rfl, a5⟩
              have HW5 := Lib.hid (HW4.out.trans a5)
              have H45 := Lib.hid a5
              have x4 := (HRT.out.aft HW5.out).cell (j := 4) rfl
              have xz := (HRT.out.aft HW5.out).1
              clear CF a5 d3 hg u0 x0 x1 x2 x3 hb6
              go_wp2_with fail
              clear x4 xz
              go_loopw [11] (fun i wr => ∃ k : Nat, k ≤ y.t.rules.length ∧ i = .int .i64 k ∧ Aft V5 wr) (fun i _ => y.t.rules.length - (intOf i).toNat)
              case atStart => exact ⟨0, Nat.zero_le _, rfl, Aft.refl _⟩
              case round =>
                obtain ⟨k3, hk3, rfl, ha⟩ := hrel
                have H56 := Lib.hid ha
                have HW6 := Lib.hid (HW5.out.trans ha)
                clear ha
                obtain ⟨V6, hV6⟩ : ∃ V6, V6 = wr := ⟨_, rfl⟩
                subst hV6
                have x4 := (HRT.out.aft HW6.out).cell (j := 4) rfl
                have xz := (HRT.out.aft HW6.out).1
                have hlenU := HRS.out.len
                by_cases hlt3 : k3 < y.t.rules.length
                · obtain ⟨b7, off7, N7, cap7, hA7, hb7, r0, r1, r2, r3, r4, r5, r6, r7, hns, _⟩ := rul_at (ruls_aft (HAT.out.trans HW6.out) HRS.out) hlt3
                  have hpm := List.getElem_mem hlt3
                  obtain ⟨p, hp⟩ : ∃ p, y.t.rules[k3] = p := ⟨_, rfl⟩
                  rw [hp] at r0 r1 r2 r3 r4 r5 r6 r7 hns hpm
                  have HPM := Lib.hid hpm
                  have HNS := Lib.hid hns
                  rw [hA7] at x4
                  obtain ⟨Wp, hWp⟩ : ∃ Wp, Wp = V6.alloc (.cells #[.string p.name, .int .i64 p.kind, .slice N7 p.cols.length cap7, .int .i64 p.low, .int .i64 p.high, .string p.schema, .string p.table, .string p.key] 108) := ⟨_, rfl⟩
                  have aWp : Aft V6 Wp := by rw [hWp]; exact (Aft.refl V6).alloc _
                  have rWp : RowAt Wp V6.heap.size [.string p.name, .int .i64 p.kind, .slice N7 p.cols.length cap7, .int .i64 p.low, .int .i64 p.high, .string p.schema, .string p.table, .string p.key] := by rw [hWp]; exact box_row2 (Aft.refl _)
                  have HRP := Lib.hid rWp
                  have HAP := Lib.hid aWp
                  have HWP := Lib.hid (HW6.out.trans aWp)
                  have hok := OK.out.cols HM.out hpm
                  have HOK := Lib.hid hok
                  have CO := Lib.hid (of12 y.t.cols p.cols u A2 cap2 N7 cap7 A6 cap6 Wp (cols_aft (HAT.out.trans HWP.out) HCS.out) (strs_aft aWp hns) (vals_aft (H45.out.trans (H56.out.trans aWp)) HV.out) hok (OK.out.form y HM.out u HUM.out))
                  clear hp hns hpm aWp rWp hok x4 xz
                  have x3 := (HRT.out.aft HW6.out).cell (j := 3) rfl
                  have x4 := (HRT.out.aft HW6.out).cell (j := 4) rfl
                  have xz6 := (HRT.out.aft HW6.out).1
                  rw [hA7] at x4
                  clear hA7
                  obtain ⟨L, hL⟩ : ∃ L, ofVs y.t.cols p.cols u = L := ⟨_, rfl⟩
                  have HL := Lib.hid hL
                  rw [hL] at CO
                  obtain ⟨wv, hwv⟩ : ∃ wv, wholeV L = wv := ⟨_, rfl⟩
                  have HWV := Lib.hid hwv
                  rw [hwv] at CO
                  clear hL hwv
                  go_wp2_with fail
                  rw [← hWp]
                  clear hWp r0 r1 r2 r3 r4 r5 r6 r7 hb7 x3 x4 xz6
                  refine CO.out.mono ?_
                  rintro e Z ⟨A8, cap8, rfl, aZ, hLZ⟩
                  have HWZ2 := Lib.hid (HWP.out.trans aZ)
                  have HPZ := Lib.hid aZ
                  have H6Z := Lib.hid (H56.out.trans (HAP.out.trans aZ))
                  have HLZ := Lib.hid hLZ
                  have q1 := (HRP.out.aft aZ).cell (j := 1) rfl
                  have q2' := (HRP.out.aft aZ).cell (j := 2) rfl
                  have qz' := (HRP.out.aft aZ).1
                  have x3' := (HRT.out.aft HWZ2.out).cell (j := 3) rfl
                  have xz' := (HRT.out.aft HWZ2.out).1
                  obtain ⟨d3, hg⟩ := KD.out Z (HBT.out.trans HWZ2.out)
                  clear aZ hLZ CO
                  go_wp2_with fail
                  obtain ⟨kd, hkd⟩ : ∃ kd, p.kind = kd := ⟨_, rfl⟩
                  rw [hkd] at q1
                  have HKD := Lib.hid hkd
                  clear hkd
                  by_cases h2 : kd = 2
                  · subst h2
                    cases wv
                    · refine wp_region_lat (by kernel_rfl) (by kernel_rfl) ?_
                      repeat (go_big_quiet_step (fail))
                      refine wpQuiet_nil ?_
                      intro Z2 hw'
                      have aZ2 : Aft Z Z2 := by obtain ⟨x9, hw''⟩ := hw'; rw [hw'']; exact (Aft.refl Z).lat x9
                      clear hw'
                      have HZ2 := Lib.hid (H6Z.out.trans aZ2)
                      have HPZ2 := Lib.hid (HPZ.out.trans aZ2)
                      have HWZ3 := Lib.hid (HWZ2.out.trans aZ2)
                      have q1 := (HRP.out.aft HPZ2.out).cell (j := 1) rfl
                      have qz := (HRP.out.aft HPZ2.out).1
                      rw [HKD.out] at q1
                      clear q2' x3' d3 aZ2
                      go_wp2_with fail
                      go_roundw
                      case rel => exact ⟨k3 + 1, by omega, by go_num, HZ2.out⟩
                      case measure => simp [intOf]; omega
                    · have hcnt := KP.out.key y HM.out p HPM.out HKD.out u HUM.out (by rw [HL.out]; exact HWV.out)
                      rw [HL.out] at hcnt
                      have CC := Lib.hid (show ∀ x9 : Lat Z, Calls Tryz.prog 49 #[.slice A2 y.t.cols.length cap2, .slice hr9.a y.rows.length hr9.c, .slice N7 p.cols.length cap7, .slice A8 L.length cap8] (lat Z x9) fun e w'' => e = .returned (.int .i64 1) ∧ Aft (lat Z x9) w'' from fun x9 => by
                        have aL := (Aft.refl Z).lat x9
                        have := count12 y.t.cols y.rows p.cols L A2 cap2 hr9.a hr9.c N7 cap7 A8 cap8 (lat Z x9) (cols_aft (HAT.out.trans (HWZ2.out.trans aL)) HCS.out) (rows_aft (HBT.out.trans (HWZ2.out.trans aL)) HRW.out) (strs_aft (HAP.out.trans (HPZ.out.trans aL)) HNS.out) (vals_aft aL HLZ.out) HOK.out (fun r hr => OK.out.form y HM.out r hr)
                        rw [hcnt] at this
                        exact this)
                      clear hcnt
                      refine wp_region_lat (by kernel_rfl) (by kernel_rfl) ?_
                      repeat (go_big_quiet_step ((go_at_call 49; exact Calls.lat_of (CC.out _))))
                      refine wpQuiet_nil ?_
                      intro Z2 hw'
                      have aZ2 : Aft Z Z2 := by obtain ⟨x9, hw''⟩ := hw'; rw [hw'']; exact (Aft.refl Z).lat x9
                      clear hw'
                      have HZ2 := Lib.hid (H6Z.out.trans aZ2)
                      have HPZ2 := Lib.hid (HPZ.out.trans aZ2)
                      have HWZ3 := Lib.hid (HWZ2.out.trans aZ2)
                      have q1 := (HRP.out.aft HPZ2.out).cell (j := 1) rfl
                      have qz := (HRP.out.aft HPZ2.out).1
                      rw [HKD.out] at q1
                      clear q2' x3' d3 aZ2 CC
                      go_wp2_with fail
                      go_roundw
                      case rel => exact ⟨k3 + 1, by omega, by go_num, HZ2.out⟩
                      case measure => simp [intOf]; omega
                  · have hd2 : (kd == 2) = false := by simpa using h2
                    refine wp_region_lat (by kernel_rfl) (by kernel_rfl) ?_
                    repeat (go_big_quiet_step (fail))
                    refine wpQuiet_nil ?_
                    intro Z2 hw'
                    have aZ2 : Aft Z Z2 := by obtain ⟨x9, hw''⟩ := hw'; rw [hw'']; exact (Aft.refl Z).lat x9
                    clear hw'
                    have HZ2 := Lib.hid (H6Z.out.trans aZ2)
                    have HPZ2 := Lib.hid (HPZ.out.trans aZ2)
                    have HWZ3 := Lib.hid (HWZ2.out.trans aZ2)
                    have q1 := (HRP.out.aft HPZ2.out).cell (j := 1) rfl
                    have qz := (HRP.out.aft HPZ2.out).1
                    rw [HKD.out] at q1
                    have HLZ2 := Lib.hid (vals_aft aZ2 HLZ.out)
                    clear aZ2
                    by_cases h4 : kd = 4
                    · subst h4
                      cases wv
                      · go_wp2_with fail
                        go_roundw
                        case rel => exact ⟨k3 + 1, by omega, by go_num, HZ2.out⟩
                        case measure => simp [intOf]; omega
                      · obtain ⟨q, q2, hq1, hq, hr2, h2q, hcols⟩ := far_key OK.out HM.out HPM.out HKD.out
                        have hqD : q < D.length := by rw [HDL.out]; exact hq
                        have CTb := Lib.hid (rtab_any (.slice As ss.length caps) At capt (S.map (·.t)) p.schema p.table Z2 (tabs_aft (HA.out.trans (HAT.out.trans HWZ3.out)) HT.out))
                        rw [tabAt_shf, hq1, List.length_map] at CTb
                        obtain ⟨g2, hh2, hg2, _, _, e3⟩ := dmp_at (HIN.out.aft HA2.out) hqD
                        obtain ⟨_, _, _, e5, hrwq⟩ := dmp_rows (HIN.out.aft HA2.out) HD.out OK.out hqD
                        have e4 : D[q].rows.length = S[q].rows.length := by rw [← e5, List.length_map]
                        rw [e4] at e3
                        have hgg : g2 = g := by have e6 := hh2; rw [HH.out] at e6; injection e6 with e6; injection e6 with e6; exact e6.symm
                        subst hgg
                        have hfar := KP.out.far y HM.out p HPM.out HKD.out u HUM.out (by rw [HL.out]; exact HWV.out)
                        rw [hq1, HL.out, Int.toNat_natCast, shfN_get hq] at hfar
                        have hzm := List.getElem_mem hq
                        have KQ := Lib.hid (show ∀ V, Aft V2 V → (V.cell? ⟨g2, q * 4 + 3, none⟩ = some (.slice D[q].hr.a S[q].rows.length D[q].hr.c) ∧ g2 < V.heap.size ∧ SlAt V 1 RowsR D[q].hr.a D[q].hr.c S[q].rows) from fun V a => ⟨(Below.cell a (p := ⟨g2, _, none⟩) hg2).trans e3, Nat.lt_of_lt_of_le hg2 a.size, rows_aft a hrwq⟩)
                        have KT := Lib.hid (show ∀ V, Aft w V → _ from fun V a => tab_at (tabs_aft a HT.out) (k := q) (by simpa using hq))
                        simp only [List.getElem_map] at KT
                        obtain ⟨hq9, hhq⟩ : ∃ hq9, D[q].hr = hq9 := ⟨_, rfl⟩
                        rw [hhq] at KQ
                        obtain ⟨z, hz⟩ : ∃ z, S[q] = z := ⟨_, rfl⟩
                        have HLQ := Lib.hid hq
                        simp only [hz] at KQ KT hfar hcols h2q hr2 hzm
                        have HZM := Lib.hid hzm
                        have hc9 := cnt_has.1 hfar
                        have HC9 := Lib.hid hc9
                        have q5 := (HRP.out.aft HPZ2.out).cell (j := 5) rfl
                        have q6 := (HRP.out.aft HPZ2.out).cell (j := 6) rfl
                        have o0 := (HR02.out.aft (HBT.out.trans HWZ3.out)).cell (j := 0) rfl
                        have o1 := (HR02.out.aft (HBT.out.trans HWZ3.out)).cell (j := 1) rfl
                        have oz := (HR02.out.aft (HBT.out.trans HWZ3.out)).1
                        have HR2 := Lib.hid hr2
                        have H2Q := Lib.hid h2q
                        clear hq1 e3 e4 e5 hrwq hfar hzm hhq hc9 hg2 hh2 hr2
                        go_wp2_with fail
                        refine CTb.out.mono ?_
                        rintro e V7 ⟨rfl, a7⟩
                        have HLZ7 := Lib.hid (vals_aft a7 HLZ2.out)
                        have HZ7 := Lib.hid (HZ2.out.trans a7)
                        have HP7 := Lib.hid (HPZ2.out.trans a7)
                        have HW7 := Lib.hid (HWZ3.out.trans a7)
                        obtain ⟨b1, off1, B2, capb2, B3, capb3, hB1, hb1, f0, f1, f2, f3, f4, gcs, grs, _⟩ := KT.out V7 (HA.out.trans (HAT.out.trans HW7.out))
                        have o1 := (HR02.out.aft (HBT.out.trans HW7.out)).cell (j := 1) rfl
                        have oz := (HR02.out.aft (HBT.out.trans HW7.out)).1
                        rw [hB1] at o1
                        obtain ⟨Wq, hWq⟩ : ∃ Wq, Wq = V7.alloc (.cells #[.string z.t.schema, .string z.t.name, .string z.t.owner, .slice B2 z.t.cols.length capb2, .slice B3 z.t.rules.length capb3] 76) := ⟨_, rfl⟩
                        have aWq : Aft V7 Wq := by rw [hWq]; exact (Aft.refl V7).alloc _
                        have rWq : RowAt Wq V7.heap.size [.string z.t.schema, .string z.t.name, .string z.t.owner, .slice B2 z.t.cols.length capb2, .slice B3 z.t.rules.length capb3] := by rw [hWq]; exact box_row2 (Aft.refl _)
                        obtain ⟨b2, off2, M7, capm, hB3, hb2, _, _, m2, _, _, _, _, _, hms, _⟩ := rul_at (ruls_aft aWq grs) H2Q.out
                        rw [hcols] at m2 hms
                        have CR := Lib.hid (show ∀ x9 : Lat Wq, Calls Tryz.prog 50 #[.slice B3 z.t.rules.length capb3, .string p.key] (lat Wq x9) fun e w'' => e = .returned (.int .i64 q2) ∧ lat Wq x9 = w'' from fun x9 => by
                          have := rrul_any B3 capb3 z.t.rules p.key (lat Wq x9) (ruls_aft (aWq.trans ((Aft.refl Wq).lat x9)) grs)
                          rw [HR2.out] at this
                          exact this)
                        have HRQ := Lib.hid rWq
                        have HAQ := Lib.hid aWq
                        have HWQ := Lib.hid (HW7.out.trans aWq)
                        have HMS := Lib.hid hms
                        have GCS := Lib.hid gcs
                        have x4 := rWq.cell (j := 4) rfl
                        have xz := rWq.1
                        have q7 := (HRP.out.aft (HP7.out.trans aWq)).cell (j := 7) rfl
                        have qz := (HRP.out.aft (HP7.out.trans aWq)).1
                        have HB3 := Lib.hid hB3
                        have h2q' := H2Q.out
                        clear CTb a7 q1 q5 q6 o0 aWq rWq gcs grs hms hB1 hB3
                        go_wp2_with fail
                        rw [← hWq]
                        clear hWq o1 oz f0 f1 f2 f3 f4 hb1
                        rw [HB3.out] at x4
                        refine wp_region_lat (by kernel_rfl) (by kernel_rfl) ?_
                        repeat (go_big_quiet_step ((go_at_call 50; (try rw [← HB3.out]); exact Calls.lat_same (CR.out _))))
                        refine wpQuiet_nil ?_
                        intro Z8 hw'
                        have a8 : Aft Wq Z8 := by obtain ⟨x9, hw''⟩ := hw'; rw [hw'']; exact (Aft.refl Wq).lat x9
                        clear hw'
                        have HW8 := Lib.hid (HWQ.out.trans a8)
                        have HQ8 := Lib.hid a8
                        have HZ8 := Lib.hid (HZ7.out.trans (HAQ.out.trans a8))
                        have HP8 := Lib.hid (HP7.out.trans (HAQ.out.trans a8))
                        obtain ⟨n9, hn9⟩ : ∃ n9, cntS z.t.cols z.rows (keyOf z.t p.key) L = n9 + 1 := ⟨_, (Nat.succ_pred_eq_of_pos HC9.out).symm⟩
                        have hle9 := cntS_le (l := z.t.cols) (rows := z.rows) (cs := keyOf z.t p.key) (want := L)
                        have hm64 := OK.out.most z HZM.out
                        obtain ⟨e3, hg2, hrw8⟩ := KQ.out Z8 (HBT.out.trans HW8.out)
                        have y3 := (HRQ.out.aft a8).cell (j := 3) rfl
                        have yz := (HRQ.out.aft a8).1
                        have CC := Lib.hid (show ∀ x9 : Lat Z8, Calls Tryz.prog 49 #[.slice B2 z.t.cols.length capb2, .slice hq9.a z.rows.length hq9.c, .slice M7 (keyOf z.t p.key).length capm, .slice A8 L.length cap8] (lat Z8 x9) fun e w'' => e = .returned (.int .i64 (n9 + 1 : Nat)) ∧ Aft (lat Z8 x9) w'' from fun x9 => by
                          have aL := (Aft.refl Z8).lat x9
                          have := count12 z.t.cols z.rows (keyOf z.t p.key) L B2 capb2 hq9.a hq9.c M7 capm A8 cap8 (lat Z8 x9) (cols_aft (HAQ.out.trans (a8.trans aL)) GCS.out) (rows_aft aL hrw8) (strs_aft (a8.trans aL) HMS.out) (vals_aft (HAQ.out.trans (a8.trans aL)) HLZ7.out) (OK.out.keyOf HZM.out p.key) (fun r hr => OK.out.form z HZM.out r hr)
                          rw [hn9] at this
                          exact this)
                        have hd9 : (((n9 + 1 : Nat) : Int) == 0) = false := by simp; omega
                        have hd8 : (((n9 : Int) + 1) == 0) = false := by simp; omega
                        clear x4 xz q7 qz m2 hb2 CR a8 hrw8 hle9 hm64
                        go_wp2_with fail
                        refine wp_region_lat (by kernel_rfl) (by kernel_rfl) ?_
                        repeat (go_big_quiet_step ((go_at_call 49; exact Calls.lat_of (CC.out _))))
                        refine wpQuiet_nil ?_
                        intro Z9 hw'
                        have a9 : Aft Z8 Z9 := by obtain ⟨x9, hw''⟩ := hw'; rw [hw'']; exact (Aft.refl Z8).lat x9
                        have HZ9 := Lib.hid (HZ8.out.trans a9)
                        clear hw' a9 CC e3 hg2 y3 yz
                        go_wp2_with fail
                        go_roundw
                        case rel => exact ⟨k3 + 1, by omega, by go_num, HZ9.out⟩
                        case measure => simp [intOf]; omega
                    · have hd4 : (kd == 4) = false := by simpa using h4
                      go_wp2_with fail
                      go_roundw
                      case rel => exact ⟨k3 + 1, by omega, by go_num, HZ2.out⟩
                      case measure => simp [intOf]; omega
                · go_wp2_with fail
                  go_roundw
                  case rel => exact ⟨k2 + 1, by omega, by go_num, HW6.out⟩
                  case measure => have := HLEN.out; simp [intOf]; omega
            · go_wp2_with fail
              go_roundw
              case rel => have := HLEN.out; exact ⟨k + 1, by omega, by go_num, HBT.out.trans HW4.out⟩
              case measure => have := HLEN.out; simp [intOf]; omega
        · go_wp2_with fail
          go_ret
          exact ⟨rfl, HA.out⟩
end Go.Proofs.YtiadkchlkdaceaaGreat

namespace Go.Proofs.YtiadkchlkdaceaaGreat
open Go.RowKit
set_option maxRecDepth 100000
set_option linter.unusedVariables false
set_option maxHeartbeats 8000000 in
theorem large12 (o : Objs) (As : Option Addr) (caps : Nat) (At : Option Addr) (capt : Nat) (w : World) (hsch : SlAt w 2 SchR As caps o.schemas) (htab : SlAt w 5 TabR At capt o.tables) :
    Calls Tryz.prog 19 #[.agg #[.int .i64 0, .int .i64 0, .slice As o.schemas.length caps, .slice At o.tables.length capt, .slice none 0 0, .slice none 0 0, .slice none 0 0]] w (LargeP w o) := by
  have hlen := hsch.len
  have hlen2 := htab.len
  obtain ⟨W, hW⟩ : ∃ W, W = (w.alloc (.cells #[.int .i64 0, .int .i64 0, .slice As o.schemas.length caps, .slice At o.tables.length capt, .slice none 0 0, .slice none 0 0, .slice none 0 0] 66)).alloc (.cells #[.slice As o.schemas.length caps, .slice At o.tables.length capt] 29) := ⟨_, rfl⟩
  have aW : Aft w W := by rw [hW]; exact ((Aft.refl w).alloc _).alloc _
  have r0 : RowAt W (w.heap.size) [.int .i64 0, .int .i64 0, .slice As o.schemas.length caps, .slice At o.tables.length capt, .slice none 0 0, .slice none 0 0, .slice none 0 0] := by rw [hW]; exact (box_row2 (Aft.refl _)).aft ((Aft.refl _).alloc _)
  have r1 : RowAt W (w.heap.size + 1) [.slice As o.schemas.length caps, .slice At o.tables.length capt] := by
    rw [hW]
    have := box_row2 (w := w.alloc (.cells #[.int .i64 0, .int .i64 0, .slice As o.schemas.length caps, .slice At o.tables.length capt, .slice none 0 0, .slice none 0 0, .slice none 0 0] 66)) (c := [.slice As o.schemas.length caps, .slice At o.tables.length capt]) (t := 29) (Aft.refl _)
    simpa using this
  have HR := Lib.hid r1
  have HAW := Lib.hid aW
  have HT := Lib.hid htab
  clear hsch htab r0 r1 aW
  go_enter Tryz.func19, Tryz.ntmps19
  go_wp2_with fail
  rw [← hW]
  go_loopw [4, 5] (fun n i wr => ∃ (k : Nat) (z : Int), k ≤ o.tables.length ∧ n = .int .i64 z ∧ i = .int .i64 k ∧ 0 ≤ z ∧ z ≤ 140737488351232 ∧ (z ≤ 3000 → (o.schemas.length ≤ 3000 ∧ o.tables.length ≤ 3000) ∧ ModTs (o.tables.take k)) ∧ Aft W wr) (fun _ i _ => o.tables.length - (intOf i).toNat)
  case atStart => exact ⟨0, _, Nat.zero_le _, rfl, rfl, by omega, by omega, fun h => ⟨⟨by omega, by omega⟩, fun t ht => by simp at ht⟩, Aft.refl _⟩
  case round =>
    clear hW
    obtain ⟨k, z, hk, rfl, rfl, hz1, hz2, hmod, ha⟩ := hrel
    have HA := Lib.hid ha
    have p0 := HR.out.aft ha
    have x1 := p0.cell (j := 1) rfl
    have xz := p0.1
    have HM := Lib.hid hmod
    clear hmod p0
    by_cases hlt : k < o.tables.length
    · by_cases hz0 : z ≤ 3000
      · obtain ⟨b, off, B2, capB2, B3, capB3, rfl, hb, c0, c1, c2, c3, c4, hcols, hrules, hss⟩ := tab_at (tabs_aft (HAW.out.trans ha) HT.out) hlt
        obtain ⟨t, ht0⟩ : ∃ t, o.tables[k] = t := ⟨_, rfl⟩
        rw [ht0] at c0 c1 c2 c3 c4 hcols hrules
        have HTT := Lib.hid ht0
        clear ht0 hss ha
        have hl2 := hcols.len
        have hl3 := hrules.len
        go_wp2_with fail
        go_loop [4, 7] (fun n i => ∃ (m : Nat) (z : Int), m ≤ t.rules.length ∧ n = .int .i64 z ∧ i = .int .i64 m ∧ 0 ≤ z ∧ z ≤ 140737488351232 ∧ (z ≤ 3000 → (t.cols.length ≤ 3000 ∧ t.rules.length ≤ 3000) ∧ ∀ r ∈ t.rules.take m, r.cols.length ≤ 3000)) (fun _ i => t.rules.length - (intOf i).toNat)
        case atStart => exact ⟨0, _, Nat.zero_le _, rfl, rfl, by omega, by omega, fun h => ⟨⟨by omega, by omega⟩, fun r hr => by simp at hr⟩⟩
        case round =>
          obtain ⟨m, z2, hm, rfl, rfl, hy1, hy2, hmod⟩ := hrel
          have HN := Lib.hid hmod
          clear hmod
          by_cases hlt2 : m < t.rules.length
          · by_cases hz2 : z2 ≤ 3000
            · obtain ⟨b3, off3, D2, capD2, rfl, hb3, e0, e1, e2, e3, e4, e5, e6, e7, hcs, hss3⟩ := rul_at hrules hlt2
              have hl4 := hcs.len
              go_wp2_with fail
              go_round
              case rel => exact ⟨m + 1, _, by omega, rfl, by go_num, by omega, by omega, fun h => ⟨(HN.out hz2).1, mem_snoc_all (P := fun r : Rul => r.cols.length ≤ 3000) hlt2 (HN.out hz2).2 (by omega)⟩⟩
              case measure => simp [intOf]; omega
            · go_wp2_with fail
              go_roundw
              case rel => exact ⟨k + 1, _, by omega, rfl, by go_num, hy1, hy2, fun h => absurd h hz2, HA.out.alloc _⟩
              case measure => simp [intOf]; omega
          · go_wp2_with fail
            go_roundw
            case rel =>
              refine ⟨k + 1, _, by omega, rfl, by go_num, hy1, hy2, fun h => ⟨(HM.out hz0).1, ?_⟩, HA.out.alloc _⟩
              have hn := HN.out h
              rw [List.take_of_length_le (by omega)] at hn
              exact (HM.out hz0).2.snoc hlt (by rw [HTT.out]; exact hn.1.1) (by rw [HTT.out]; exact hn.1.2) (by rw [HTT.out]; exact hn.2)
            case measure => simp [intOf]; omega
      · clear ha
        go_wp2_with fail
        go_ret
        exact ⟨_, rfl, fun h => absurd h (by first | (simp; done) | (simp; omega)), HAW.out.trans HA.out⟩
    · clear ha
      go_wp2_with fail
      go_ret
      refine ⟨_, rfl, fun h => ?_, HAW.out.trans HA.out⟩
      have h3 : z ≤ 3000 := by simpa using h
      obtain ⟨h1, h2⟩ := HM.out h3
      rw [List.take_of_length_le (by omega)] at h2
      exact ⟨by omega, by omega, fun t ht => ⟨by have := (h2 t ht).1; omega, by have := (h2 t ht).2.1; omega, fun r hr => by have := (h2 t ht).2.2 r hr; omega⟩⟩
end Go.Proofs.YtiadkchlkdaceaaGreat

namespace Go.Proofs.YtiadkchlkdaceaaGreat
open Go.RowKit Go.Deep
set_option maxRecDepth 100000
set_option linter.unusedVariables false
theorem AwI.toK {w W : World} {S : List Shf} (h : AwI w W S) : Aft w W := by obtain ⟨_, _, _, _, _, q⟩ := h; exact q
theorem rop_at3 {w : World} {A : Option Addr} {cap : Nat} {l : List ROp} (h : SlAt w 9 RopR A cap l) {k : Nat} (hk : k < l.length) :
    ∃ b off A4 cap4, A = some ⟨b, off, none⟩ ∧ (∀ V, Aft w V → b < V.heap.size ∧ V.cell? ⟨b, off + k * 9, none⟩ = some (.int .i64 l[k].kind) ∧ V.cell? ⟨b, off + k * 9 + 1, none⟩ = some (.string l[k].role) ∧ V.cell? ⟨b, off + k * 9 + 2, none⟩ = some (.string l[k].schema) ∧ V.cell? ⟨b, off + k * 9 + 3, none⟩ = some (.string l[k].table) ∧
      V.cell? ⟨b, off + k * 9 + 4, none⟩ = some (.slice A4 l[k].row.length cap4) ∧ V.cell? ⟨b, off + k * 9 + 5, none⟩ = some (.string l[k].col) ∧ V.cell? ⟨b, off + k * 9 + 6, none⟩ = some (.int .i64 l[k].v.kind) ∧ V.cell? ⟨b, off + k * 9 + 7, none⟩ = some (.int .i64 l[k].v.int) ∧ V.cell? ⟨b, off + k * 9 + 8, none⟩ = some (.string l[k].v.text) ∧
      SlAt V 3 ValR A4 cap4 l[k].row) ∧ Small l[k].col.size ∧ Small l[k].v.text.size ∧ (∀ g o2, A4 = some ⟨g, o2, none⟩ → 0 < l[k].row.length → g < w.heap.size) := by
  obtain ⟨b, off, A4, cap4, hA, hb, c0, c1, c2, c3, c4, c5, c6, c7, c8, hr, s1, s2, _, _⟩ := rop_at h hk
  have g : ∀ {V : World} (a : Aft w V) {o2 : Nat} {u : Value}, w.cell? ⟨b, o2, none⟩ = some u → V.cell? ⟨b, o2, none⟩ = some u := @fun V a o2 u hu => (Below.cell a (p := ⟨b, o2, none⟩) hb).trans hu
  refine ⟨b, off, A4, cap4, hA, fun V a => ⟨Nat.lt_of_lt_of_le hb a.size, g a c0, g a c1, g a c2, g a c3, g a c4, g a c5, g a c6, g a c7, g a c8, vals_aft a hr⟩, s1, s2, fun g2 o2 e h0 => ?_⟩
  obtain ⟨b2, off2, cs, hA2, hb2, _⟩ := hr.2.2 0 h0
  rw [hA2] at e
  injection e with e
  injection e with e1
  omega
theorem do_tabs (S : List Shf) (x : ROp) : (doS S x).1.map (·.t) = S.map (·.t) := by
  rw [doS_is']
  split
  · rfl
  split
  · rfl
  split
  · rfl
  split
  · split
    · rfl
    · exact putS_tabs _ _ _
  · split
    · unfold removeS
      split
      · rfl
      · exact putS_tabs _ _ _
    · rfl
theorem load_tabs {o : Objs} (S : List Shf) (h : checkO o = true) : (loadS S o).1.map (·.t) = o.tables := by
  unfold loadS
  rw [if_pos h]
  show (o.tables.map (turnS S)).map (·.t) = o.tables
  rw [List.map_map]
  exact (List.map_congr_left fun a _ => rfl).trans (List.map_id _)
theorem loadS_c {S : List Shf} {o : Objs} : (loadS S o).2 = if checkO o = true then 0 else 63 := by
  unfold loadS
  split <;> rfl
set_option maxHeartbeats 8000000 in
theorem law_skeep (o : Objs) (As : Option Addr) (caps : Nat) (At : Option Addr) (capt : Nat) (ops : List ROp) (R : Option Addr) (capR : Nat) (w : World) (hsch : SlAt w 2 SchR As caps o.schemas) (htab : SlAt w 5 TabR At capt o.tables) (hops : SlAt w 9 RopR R capR ops) :
    Calls Tryz.prog 4 #[.agg #[.slice As o.schemas.length caps, .slice At o.tables.length capt], .slice R ops.length capR] w fun e w' => e = .returned (.bool true) ∧ Aft w w' := by
  have hlen := hops.len
  have CL := Lib.hid (show ∀ V, Aft w V → Calls Tryz.prog 19 #[.agg #[.int .i64 0, .int .i64 0, .slice As o.schemas.length caps, .slice At o.tables.length capt, .slice none 0 0, .slice none 0 0, .slice none 0 0]] V (LargeP V o) from fun V a => large12 o As caps At capt V (schs_aft a hsch) (tabs_aft a htab))
  have HS := Lib.hid hsch
  have HT := Lib.hid htab
  have HO := Lib.hid hops
  obtain ⟨W, hW⟩ : ∃ W, W = w.alloc (.cells #[.slice As o.schemas.length caps, .slice At o.tables.length capt] 29) := ⟨_, rfl⟩
  have aW : Aft w W := by rw [hW]; exact (Aft.refl w).alloc _
  have r0 : RowAt W w.heap.size [.slice As o.schemas.length caps, .slice At o.tables.length capt] := by rw [hW]; exact box_row2 (Aft.refl _)
  have HAW := Lib.hid aW
  have KF := Lib.hid (show ∀ V, Aft W V → (V.cell? ⟨w.heap.size, 0, none⟩ = some (.slice As o.schemas.length caps) ∧ V.cell? ⟨w.heap.size, 1, none⟩ = some (.slice At o.tables.length capt) ∧ w.heap.size < V.heap.size) from fun V a => by
    have r := r0.aft a
    exact ⟨r.cell (j := 0) rfl, r.cell (j := 1) rfl, r.1⟩)
  clear aW r0 hsch htab hops
  go_enter Tryz.func4, Tryz.ntmps4
  go_wp2_with fail
  rw [← hW]
  clear hW
  obtain ⟨a0, a1, az⟩ := KF.out W (Aft.refl W)
  go_wp2_with fail
  refine (CL.out W HAW.out).mono ?_
  rintro e X ⟨b, rfl, _, aX⟩
  have HWX := Lib.hid aX
  have HX := Lib.hid (HAW.out.trans aX)
  clear a0 a1 az CL aX
  cases b
  · by_cases hr : (100 : Int) < (ops.length : Int)
    · go_wp2_with fail
      go_ret
      exact ⟨rfl, HX.out⟩
    · go_wp2_with fail
      refine (new_aw X).mono ?_
      rintro e V0 ⟨rfl, hI⟩
      obtain ⟨a0, a1, az⟩ := KF.out V0 (HWX.out.trans hI.toK)
      have aV := HX.out.trans hI.toK
      have L1 := Lib.hid (load_aw o As caps At capt hI (Aft.refl V0) nil_ok (schs_aft aV HS.out) (tabs_aft aV HT.out))
      clear hI aV
      go_wp2_with fail
      refine L1.out.mono ?_
      rintro e V1 ⟨rfl, hI⟩
      rw [loadS_c]
      obtain ⟨S0, hS0⟩ : ∃ S0, (loadS [] o).1 = S0 := ⟨_, rfl⟩
      rw [hS0] at hI
      have I1 := Lib.hid hI
      clear hI L1 a0 a1 az
      by_cases h0 : checkO o = true
      · have OK1 := Lib.hid (show SOk S0 o.schemas by rw [← hS0]; exact loadS_ok nil_ok h0)
        have KP1 := Lib.hid (show KeepS S0 by rw [← hS0]; exact keep_load h0)
        have TB1 := Lib.hid (show S0.map (·.t) = o.tables by rw [← hS0]; exact load_tabs [] h0)
        rw [if_pos h0]
        clear hS0
        go_wp2_with fail
        go_loopw [6] (fun i wr => ∃ (k : Nat) (S : List Shf), k ≤ ops.length ∧ i = .int .i64 k ∧ AwI X wr S ∧ SOk S o.schemas ∧ KeepS S ∧ S.map (·.t) = o.tables) (fun i _ => ops.length - (intOf i).toNat)
        case atStart => exact ⟨0, S0, Nat.zero_le _, rfl, I1.out, OK1.out, KP1.out, TB1.out⟩
        case round =>
          obtain ⟨k, S, hk, rfl, hI2, hok2, hkp2, htb2⟩ := hrel
          have KI := Lib.hid hI2
          have KO := Lib.hid hok2
          have KK := Lib.hid hkp2
          have KT := Lib.hid htb2
          have HR := Lib.hid (HX.out.trans hI2.toK)
          clear hI2 hok2 hkp2 htb2
          by_cases hlt : k < ops.length
          · obtain ⟨b, off, A4, cap4, hA, hCO, s1, s2, hab⟩ := rop_at3 HO.out hlt
            obtain ⟨hb, c0, c1, c2, c3, c4, c5, c6, c7, c8, hrow⟩ := hCO wr HR.out
            have D1 := Lib.hid (do_awB ops[k] A4 cap4 KI.out (Aft.refl wr) KO.out hrow (fun g o2 e h => Nat.lt_of_lt_of_le (hab g o2 e h) HX.out.size) s1 s2)
            have O3 := Lib.hid (doS_ok ops[k] KO.out)
            have K3 := Lib.hid (keep_do ops[k] KO.out KK.out)
            have T3 := Lib.hid ((do_tabs S ops[k]).trans KT.out)
            obtain ⟨x, hx⟩ : ∃ x, ops[k] = x := ⟨_, rfl⟩
            rw [hx] at c0 c1 c2 c3 c4 c5 c6 c7 c8 D1 O3 K3 T3
            rw [hA]
            clear hx hrow s1 s2 hab hA hCO
            by_cases hr2 : (1000 : Int) < (x.row.length : Int)
            · go_wp2_with fail
              go_ret
              exact ⟨rfl, HR.out⟩
            · go_wp2_with fail
              refine D1.out.mono ?_
              rintro e V2 ⟨A5, q5, rfl, hI3⟩
              obtain ⟨S2, hS2⟩ : ∃ S2, (doS S x).1 = S2 := ⟨_, rfl⟩
              rw [hS2] at hI3 O3 K3 T3
              have I3 := Lib.hid hI3
              have HR2 := Lib.hid (HX.out.trans hI3.toK)
              have HL2 := Lib.hid (show S2.length = o.tables.length by rw [← T3.out, List.length_map])
              obtain ⟨a0, a1, az⟩ := KF.out V2 (HWX.out.trans hI3.toK)
              clear hI3 hS2 D1 c0 c1 c2 c3 c4 c5 c6 c7 c8 hb
              go_wp2_with fail
              have DM := Lib.hid (fun V (a : Aft V2 V) => dump_aw I3.out a O3.out)
              have hDl : (dumpS S2).length = o.tables.length := by rw [← HL2.out]; simp [dumpS]
              have HDL := Lib.hid hDl
              clear hDl
              refine wp_region_mix [true, false, false, false, false] 3 (fun w' => ∃ x : Lat V2, w' = lat V2 x) (by kernel_rfl) (by kernel_rfl) ((Aft.refl V2).drew).to ?_
              refine wpMix_reads 1 rfl rfl ?_
              simp only [List.take_succ_cons, List.take_zero, List.drop_succ_cons, List.drop_zero]
              repeat (go_big_quiet_step (fail))
              refine wpQuiet_nil ?_
              refine wpMix_step rfl (fun K hK => ?_)
              go_simp
              refine hK _ _ (fun _ => ((Aft.refl V2).drew).to) ?_
              clear hK K
              refine wpMix_step rfl (fun K hK => ?_)
              go_simp
              obtain ⟨D9, hD9⟩ : ∃ D9, D9 = V2.drew := ⟨_, rfl⟩
              have aD : Aft V2 D9 := by rw [hD9]; exact (Aft.refl V2).drew
              rw [← hD9]
              go_at_call 15
              refine (DM.out D9 aD).mono ?_
              rintro e Z ⟨h, D, hD, rfl, aZ, inD⟩
              dsimp only
              rw [HDL.out]
              refine hK _ _ (fun _ => (aD.trans aZ).to) ?_
              clear hK K hD9
              have HZ := Lib.hid (HR2.out.trans (aD.trans aZ))
              have HVZ := Lib.hid (aD.trans aZ)
              have CK : Calls Tryz.prog 21 #[.agg #[.slice As o.schemas.length caps, .slice At o.tables.length capt], .slice h.a o.tables.length h.c] Z fun e w' => e = .returned (.bool true) ∧ Aft Z w' := by
                have := keeps12 o.schemas S2 As caps At capt h D D9.heap.size Z O3.out K3.out (schs_aft HZ.out HS.out) (by rw [T3.out]; exact tabs_aft HZ.out HT.out) inD hD
                rwa [HL2.out] at this
              have CK := Lib.hid CK
              clear hD inD aZ aD
              refine wpMix_step rfl (fun K hK => ?_)
              go_simp
              go_at_call 21
              refine CK.out.mono ?_
              rintro e Z2 ⟨rfl, aZ2⟩
              dsimp only
              refine hK _ _ (fun h => absurd h (by decide)) ?_
              clear hK K CK
              have HVZ2 := Lib.hid (HVZ.out.trans aZ2)
              clear aZ2
              refine wpMix_step rfl (fun K hK => ?_)
              go_simp
              refine hK _ _ (fun h => absurd h (by decide)) ?_
              clear hK K
              refine NoPanic.normal ?_
              clear a0 a1 az
              go_wp2_with fail
              go_roundw
              case rel => exact ⟨k + 1, S2, by omega, by go_num, I3.out.aft HVZ2.out, O3.out, K3.out, T3.out⟩
              case measure => simp [intOf]; omega
          · go_wp2_with fail
            refine (awake12 wr).mono ?_
            rintro e Z ⟨rfl, aZ⟩
            go_wp2_with fail
            go_ret
            exact ⟨rfl, HR.out.trans aZ⟩
      · rw [if_neg h0]
        have HV1 := Lib.hid (HX.out.trans I1.out.toK)
        have HWV := Lib.hid (HWX.out.trans I1.out.toK)
        clear hS0
        go_wp2_with fail
        refine (awake12 V1).mono ?_
        rintro e Z ⟨rfl, aZ⟩
        obtain ⟨a0, a1, az⟩ := KF.out Z (HWV.out.trans aZ)
        have CR := Lib.hid (rRight_any o As caps At capt Z (schs_aft (HV1.out.trans aZ) HS.out) (tabs_aft (HV1.out.trans aZ) HT.out))
        rw [Bool.eq_false_iff.2 h0] at CR
        have HZ := Lib.hid (HV1.out.trans aZ)
        clear aZ
        go_wp2_with fail
        refine CR.out.mono ?_
        rintro e Z2 ⟨rfl, aZ2⟩
        go_wp2_with fail
        go_ret
        exact ⟨rfl, HZ.out.trans aZ2⟩
  · go_wp2_with fail
    go_ret
    exact ⟨rfl, HX.out⟩
end Go.Proofs.YtiadkchlkdaceaaGreat

namespace Go.Proofs.YtiadkchlkdaceaaGreat
open Go.ChangeShapes Go.WideShapes Go.ChangeAt Go.RowKit
set_option maxRecDepth 100000
set_option linter.unusedVariables false
section
variable {H : Type} {enc : TypeId × Value → H} {w : World}
theorem rd_rops {cs : List Value} (h : Rd enc Tryz.prog w 58 cs) : ∃ l, SlOf w 9 RopR cs l :=
  Rd.slice Tryz.underlying58 (by kernel_rfl : Tryz.prog.cellsOf 39 = 9) (by decide) (of_decide_eq_true (by kernel_rfl)) (fun _ h => rd_rop h) h
end
end Go.Proofs.YtiadkchlkdaceaaGreat

