/- Contracts of the program, part 13. -/
import Derived.Deep.Onto
import Derived.LaidEqlPtr
import Derived.OwnWalk
import Derived.Laws.AppendOwn
import Derived.ProofKit
import Derived.OpenShut
import Derived.Deep.Slices
import Derived.ChangeOld
import Derived.SizedLaws
import Derived.WalkKit
import Derived.WalkSpells
import Derived.WalkLawsBesides
import Derived.Lib.Hide
import Derived.Deep.QuietTactic
import Derived.BigQuiet
import Derived.Below
import Derived.Deep.Draws
import Derived.StillTailTactics
import Derived.Laws.Cells
import Derived.Laws.IdiomCopy
import Derived.Test.YtiadkchlkdaceaaGreatRows
import Derived.Lib.Bytealg
import Derived.IntWalk
import Derived.ShutString
import Derived.Shelf.SlSortCmp.WholeK
import Derived.Lib.SliceRun
import Derived.Deep.AppendLies
import Derived.Deep.Upon
import Derived.OneCell
import Derived.Deep.DeepMust
import Derived.Deep.RegionLaw
import Derived.Deep.RegionHeld3
import Derived.Shelf.RegionOpen
import Derived.Sort.BigQuietIn
import Derived.RangeFuncNested
import Derived.RangeFuncBound
import Derived.RangeFuncCalls
import Derived.RangeFuncLeaves
import Derived.Shelf.Abstract
import Derived.OwnWalkIn
import Derived.TacticsInMore
import Derived.LoopNIn
import Derived.LoopIn
import Derived.Sort.QuietTacIn
import Derived.NoCompiler
import Derived.OrdersHeld
import Derived.Lib.Walk
import Derived.Test.YtiadkchlkdaceaaGreatPartR1
import Derived.Test.YtiadkchlkdaceaaGreatPartR2
import Derived.Test.YtiadkchlkdaceaaGreatPartR3
import Derived.Test.YtiadkchlkdaceaaGreatPartR4
import Derived.Test.YtiadkchlkdaceaaGreatPartR5
import Derived.Test.YtiadkchlkdaceaaGreatPartR6
import Derived.Test.YtiadkchlkdaceaaGreatPartR7
import Derived.Test.YtiadkchlkdaceaaGreatPartR8
import Derived.Test.YtiadkchlkdaceaaGreatPartR9
import Derived.Test.YtiadkchlkdaceaaGreatPartR10
import Derived.Test.YtiadkchlkdaceaaGreatPartR11
import Derived.Test.YtiadkchlkdaceaaGreatPartR12
namespace Go.Proofs.YtiadkchlkdaceaaGreat
open Go.RowKit Go.Deep
set_option maxRecDepth 100000
set_option linter.unusedVariables false
theorem do_may {S : List Shf} {x : ROp} (h : mayO x = false) : doS S x = (S, [], 1) := by rw [doS_is', if_pos h]
theorem do_tab {S : List Shf} {x : ROp} (h : mayO x = true) (h2 : shfAt S x.schema x.table < 0) : doS S x = (S, [], 110) := by rw [doS_is', if_neg (by rw [h]; simp), if_pos h2]
theorem do_col {S : List Shf} {x : ROp} {q : Nat} (h : mayO x = true) (h2 : shfAt S x.schema x.table = q) (h3 : emp x.col = false) (h4 : colAt (shfN S q).t.cols x.col < 0) : doS S x = (S, [], 110) := by
  rw [doS_is', if_neg (by rw [h]; simp), h2, if_neg (by omega), Int.toNat_natCast, if_pos ⟨h3, h4⟩]
theorem do_rest {S : List Shf} {x : ROp} {q : Nat} (h : mayO x = true) (h2 : shfAt S x.schema x.table = q) (h3 : ¬ (emp x.col = false ∧ colAt (shfN S q).t.cols x.col < 0)) : doS S x = if x.kind = 1 then insS S q x.row else if x.kind = 2 then removeS S q x.col x.v else chooseS S q x.col x.v := by
  rw [doS_is', if_neg (by rw [h]; simp), h2, if_neg (by omega), Int.toNat_natCast, if_neg h3]
  rfl
theorem may_emp {x : ROp} (h : mayO x = true) (he : emp x.col = true) : x.kind ≠ 2 := fun hk => by
  unfold mayO at h
  rw [hk] at h
  have hc : x.col = ⟨#[]⟩ := (eqS_iff9 _ _).1 (by
    unfold emp at he
    unfold eqS
    rw [List.isEmpty_iff.1 he]
    decide +kernel)
  rw [hc, show nameB ⟨#[]⟩ = false by decide +kernel] at h
  simp at h
theorem may_col {x : ROp} (h : mayO x = true) (he : emp x.col = false) : x.kind ≠ 1 := fun hk => by
  unfold mayO at h
  rw [hk, he] at h
  simp at h
section
variable {w : World} {B s : Nat} {hs ht hm : Hd} {ss : List Sch} {L : List RShf}
set_option maxHeartbeats 16000000 in
theorem rdo12 (hin : RefIn w B s hs ht hm ss L) (ok : SOk (refS L) ss) (sm : SmO (objOf ss (L.map RShf.x))) (x : ROp) (A : Option Addr) (cap : Nat) (hrow : SlAt w 3 ValR A cap x.row) (hc : Small x.col.size) (hv : Small x.v.text.size) :
    Calls Tryz.prog 12 #[.pointer (some ⟨s, 0, none⟩), .agg #[.int .i64 x.kind, .string x.role, .string x.schema, .string x.table, .slice A x.row.length cap, .string x.col, .int .i64 x.v.kind, .int .i64 x.v.int, .string x.v.text]] w (RefDoQ w B s hs ht hm ss L (doS (refS L) x)) := by
  have CM := Lib.hid (show ∀ V, Calls Tryz.prog 36 #[.agg #[.int .i64 x.kind, .string x.role, .string x.schema, .string x.table, .slice A x.row.length cap, .string x.col, .int .i64 x.v.kind, .int .i64 x.v.int, .string x.v.text]] V fun e w' => e = .returned (.bool (mayO x)) ∧ Aft V w' from fun V => rmayO12 x A cap V hc hv)
  obtain ⟨mb, hmb⟩ : ∃ mb, mayO x = mb := ⟨_, rfl⟩
  rw [hmb] at CM
  have HMB := Lib.hid hmb
  have HIN := Lib.hid hin
  have RA := hin.at ok sm
  have OK0 := Lib.hid ok
  have HSM := Lib.hid sm
  obtain ⟨S, hS⟩ : ∃ S, refS L = S := ⟨_, rfl⟩
  have HSL := Lib.hid hS
  rw [hS] at RA ok
  rw [hS]
  have HR := Lib.hid RA
  have OK := Lib.hid ok
  have h64 : S.length ≤ 64 := by have := ok.good.nt; simpa using this
  have HDM := Lib.hid (fun h : mb = false => do_may (S := S) (x := x) (hmb.trans h))
  have HDT := Lib.hid (fun (h : mb = true) (h2 : shfAt S x.schema x.table < 0) => do_tab (hmb.trans h) h2)
  have HDC := Lib.hid (fun (h : mb = true) (q : Nat) (h2 : shfAt S x.schema x.table = q) h3 h4 => do_col (S := S) (hmb.trans h) h2 h3 h4)
  have HDR := Lib.hid (fun (h : mb = true) (q : Nat) (h2 : shfAt S x.schema x.table = q) h3 => do_rest (S := S) (hmb.trans h) h2 h3)
  have HME := Lib.hid (fun (h : mb = true) he => may_emp (hmb.trans h) he)
  have HMC := Lib.hid (fun (h : mb = true) he => may_col (hmb.trans h) he)
  have HROW := Lib.hid hrow
  have HDX := Lib.hid (show doS S x = doS S x from rfl)
  obtain ⟨kd, role, schema, table, row, col, v⟩ := x
  simp only at HDT HDC HDR HME HMC HROW CM ⊢
  obtain ⟨RS, hRS⟩ : ∃ RS, doS S ⟨kd, role, schema, table, row, col, v⟩ = RS := ⟨_, rfl⟩
  rw [hRS] at HDM HDT HDC HDR ⊢
  clear hRS hmb hin RA ok hS sm hrow HDX
  obtain ⟨W, hW⟩ : ∃ W, W = w.alloc (.cells #[.int .i64 kd, .string role, .string schema, .string table, .slice A row.length cap, .string col, .int .i64 v.kind, .int .i64 v.int, .string v.text] 39) := ⟨_, rfl⟩
  have aW : Aft w W := by rw [hW]; exact (Aft.refl w).alloc _
  have rW : RowAt W w.heap.size [.int .i64 kd, .string role, .string schema, .string table, .slice A row.length cap, .string col, .int .i64 v.kind, .int .i64 v.int, .string v.text] := by rw [hW]; exact box_row2 (Aft.refl _)
  have HAW := Lib.hid aW
  have HRX := Lib.hid rW
  have c0 := rW.cell (j := 0) rfl
  have c1 := rW.cell (j := 1) rfl
  have c2 := rW.cell (j := 2) rfl
  have c3 := rW.cell (j := 3) rfl
  have c4 := rW.cell (j := 4) rfl
  have c5 := rW.cell (j := 5) rfl
  have c6 := rW.cell (j := 6) rfl
  have c7 := rW.cell (j := 7) rfl
  have c8 := rW.cell (j := 8) rfl
  have cz := rW.1
  clear aW rW
  go_enter Tryz.func12, Tryz.ntmps12
  go_wp2_with fail
  rw [← hW]
  clear hW
  go_wp2_with fail
  refine (CM.out W).mono ?_
  rintro e V ⟨rfl, aV⟩
  have HWV := Lib.hid aV
  have HV := Lib.hid (HAW.out.trans aV)
  clear c0 c1 c2 c3 c4 c5 c6 c7 c8 cz CM aV
  cases mb
  case false =>
    have HI := Lib.hid (HDM.out (by first | trivial | rfl))
    go_wp2_with fail
    go_ret2
    rw [HI.out, ← HSL.out]
    exact refDo_no HIN.out HV.out 1
  case true =>
    have x2 := (HRX.out.aft HWV.out).cell (j := 2) rfl
    have x3 := (HRX.out.aft HWV.out).cell (j := 3) rfl
    have xz := (HRX.out.aft HWV.out).1
    have s0 := (HR.out.row.aft HV.out).cell (j := 0) rfl
    have s1 := (HR.out.row.aft HV.out).cell (j := 1) rfl
    have sz := (HR.out.row.aft HV.out).1
    obtain ⟨at0, hat⟩ : ∃ at0, shfAt S schema table = at0 := ⟨_, rfl⟩
    have HAT := Lib.hid hat
    have CC := Lib.hid (show ∀ x9 : Lat V, Calls Tryz.prog 27 #[.agg #[.slice hs.a ss.length hs.c, .slice ht.a S.length ht.c], .string schema, .string table] (lat V x9) fun e w'' => e = .returned (.int .i64 at0) ∧ Aft (lat V x9) w'' from fun x9 => by
      have := rtab_any (.slice hs.a ss.length hs.c) ht.a ht.c (S.map (·.t)) schema table (lat V x9) (HR.out.aft (HV.out.trans ((Aft.refl V).lat x9))).tab
      rw [tabAt_shf, hat, List.length_map] at this
      exact this)
    have hr1 := (idxP_range (fun y : Shf => eqS y.t.schema schema && eqS y.t.name table) S)
    have hrg : at0 < S.length := by unfold shfAt at hat; rw [hat] at hr1; exact hr1.2
    have hrl : -1 ≤ at0 := by unfold shfAt at hat; rw [hat] at hr1; exact hr1.1
    rw [hat] at HDT HDC HDR
    clear hat hr1
    go_wp2_with fail
    refine wp_region_lat (by kernel_rfl) (by kernel_rfl) ?_
    repeat (go_big_quiet_step ((go_at_call 27; exact Calls.lat_of (CC.out _))))
    refine wpQuiet_nil ?_
    intro V2 hw'
    have aV2 : Aft V V2 := by obtain ⟨x9, hw''⟩ := hw'; rw [hw'']; exact (Aft.refl V).lat x9
    have HV2 := Lib.hid (HV.out.trans aV2)
    have HWV2 := Lib.hid (HWV.out.trans aV2)
    clear hw' aV2 CC x2 x3 xz s0 s1 sz
    by_cases hat0 : at0 < 0
    case pos =>
      have HI := Lib.hid (HDT.out (by first | trivial | rfl) hat0)
      go_wp2_with fail
      go_ret2
      rw [HI.out, ← HSL.out]
      exact refDo_no HIN.out HV2.out 110
    case neg =>
      obtain ⟨q, rfl⟩ : ∃ q : Nat, at0 = q := ⟨at0.toNat, by omega⟩
      have hqS : q < S.length := by omega
      have hq : q < L.length := by have := congrArg List.length HSL.out; simp [refS] at this; omega
      have HDC2 := Lib.hid (fun h3 h4 => HDC.out (by first | trivial | rfl) q rfl h3 h4)
      have HDR2 := Lib.hid (fun h3 => HDR.out (by first | trivial | rfl) q rfl h3)
      have HME2 := Lib.hid (HME.out (by first | trivial | rfl))
      have HMC2 := Lib.hid (HMC.out (by first | trivial | rfl))
      clear HDM HDT HDC HDR HME HMC
      obtain ⟨b, off, B2, capb2, B3, capb3, hA, hb, c0, c1, c2, c3, c4, hcs, hrs⟩ := (HR.out.aft HV2.out).tabAt hqS
      have hmem := List.getElem_mem hqS
      have hsn : shfN S q = S[q] := shfN_get hqS
      obtain ⟨y, hy⟩ : ∃ y, S[q] = y := ⟨_, rfl⟩
      rw [hy] at c0 c1 c2 c3 c4 hcs hrs hmem hsn
      rw [hsn] at HDC2 HDR2
      have HSN := Lib.hid hsn
      have HYE := Lib.hid hy
      have HM := Lib.hid hmem
      obtain ⟨ci, hci⟩ : ∃ ci, colAt y.t.cols col = ci := ⟨_, rfl⟩
      have HCI := Lib.hid hci
      have CC := Lib.hid (show ∀ x9 : Lat V2, Calls Tryz.prog 37 #[.slice B2 y.t.cols.length capb2, .string col] (lat V2 x9) fun e w'' => e = .returned (.int .i64 ci) ∧ lat V2 x9 = w'' from fun x9 => by
        have := rcol_any B2 capb2 y.t.cols col (lat V2 x9) (cols_aft ((Aft.refl V2).lat x9) hcs)
        rw [show idxP (fun c : Col => eqS c.name col) y.t.cols = ci from hci] at this
        exact this)
      rw [hci] at HDC2 HDR2
      have x5 := (HRX.out.aft HWV2.out).cell (j := 5) rfl
      have xz := (HRX.out.aft HWV2.out).1
      have s1 := (HR.out.row.aft HV2.out).cell (j := 1) rfl
      have sz := (HR.out.row.aft HV2.out).1
      rw [hA] at s1
      clear hsn hy hmem hci hcs hrs hA
      go_wp2_with fail
      refine wp_region_lat (by kernel_rfl) (by kernel_rfl) ?_
      repeat (go_big_quiet_step ((go_at_call 37; exact Calls.lat_same (CC.out _))))
      refine wpQuiet_nil ?_
      intro V3 hw'
      have aV3 : Aft V2 V3 := by obtain ⟨x9, hw''⟩ := hw'; rw [hw'']; exact (Aft.refl V2).lat x9
      have HV3 := Lib.hid (HV2.out.trans aV3)
      have HWV3 := Lib.hid (HWV2.out.trans aV3)
      clear hw' aV3 CC x5 xz s1 sz c0 c1 c2 c3 c4 hb
      have x5 := (HRX.out.aft HWV3.out).cell (j := 5) rfl
      have x0 := (HRX.out.aft HWV3.out).cell (j := 0) rfl
      have xz := (HRX.out.aft HWV3.out).1
      obtain ⟨em, hem⟩ : ∃ em, emp col = em := ⟨_, rfl⟩
      rw [hem] at HDC2 HDR2 HME2 HMC2
      have HEM := Lib.hid hem
      clear hem
      cases em
      case false =>
        have em1 : col.toList.isEmpty = false := HEM.out
        have em2 : ¬ col.toList = [] := by intro h; rw [h] at em1; cases em1
        by_cases hci0 : ci < 0
        case pos =>
          have HI := Lib.hid (HDC2.out (by first | trivial | rfl) hci0)
          go_wp2_with fail
          go_ret2
          rw [HI.out, ← HSL.out]
          exact refDo_no HIN.out HV3.out 110
        case neg =>
          have hk1 := HMC2.out (by first | trivial | rfl)
          obtain ⟨cq, rfl⟩ := Int.eq_ofNat_of_zero_le (show 0 ≤ ci by omega)
          obtain ⟨b5, hR5, hb5, hB5, r0, hfz, hrr⟩ := (HIN.out.aft HV3.out).rowAt OK0.out hq
          obtain ⟨y9, hy9⟩ : ∃ y9, L[q] = y9 := ⟨_, rfl⟩
          rw [hy9] at r0 hrr
          have HY9 := Lib.hid (show y9 ∈ L by rw [← hy9]; exact List.getElem_mem hq)
          have hyr : y9.rows.map (·.vals) = y.rows := by
            have e1 := HYE.out
            rw [← e1, ← hy9]
            simp only [← HSL.out]
            simp [refS, RShf.s]
          have HYR := Lib.hid hyr
          have hy64 := OK.out.most y HM.out
          have hor64 : y9.rows.length ≤ 64 := by rw [← List.length_map (f := ORow.vals), hyr]; exact hy64
          have HSMO := Lib.hid (show ∀ o ∈ y9.rows, Small (o.vals.length * 16) ∧ ∀ v ∈ o.vals, Small v.text.size from fun o ho => row_small (OK.out.shf HM.out).2.1 (OK.out.form y HM.out o.vals (by rw [← hyr]; exact List.mem_map_of_mem ho)))
          have HFO := Lib.hid (show ∀ o ∈ y9.rows, besideB formB y.t.cols o.vals = true from fun o ho => OK.out.form y HM.out o.vals (by rw [← hyr]; exact List.mem_map_of_mem ho))
          have HNN := Lib.hid (show ∀ o ∈ y9.rows, o.h.n = o.vals.length from fun o ho => own_n ((HIN.out.each y9 HY9.out).each o ho))
          have hoat := ((HIN.out.aft HV3.out).each y9 HY9.out).oat (by omega) HSMO.out
          have HRI := Lib.hid (HIN.out.each y9 HY9.out)
          obtain ⟨OR, hOR⟩ : ∃ OR, y9.rows = OR := ⟨_, rfl⟩
          rw [hOR] at r0 hoat HYR HSMO HFO HNN HRI hor64
          have HORE := Lib.hid hOR
          obtain ⟨A5, hA5⟩ : ∃ A5, y9.hr.a = A5 := ⟨_, rfl⟩
          obtain ⟨c5, hc5⟩ : ∃ c5, y9.hr.c = c5 := ⟨_, rfl⟩
          rw [hA5, hc5] at r0 hoat
          have HOR := Lib.hid hoat
          have HQ9 := Lib.hid hy9
          have HB5 := Lib.hid hB5
          have HFZ := Lib.hid hfz
          have HRs := Lib.hid hR5
          have HOL := Lib.hid hor64
          have KO := Lib.hid (show ∀ V, Aft V3 V → (V.cell? ⟨b5, q, none⟩ = some (.slice A5 OR.length c5) ∧ b5 < V.heap.size) from fun V a => ⟨(Below.cell a (p := ⟨b5, _, none⟩) hb5).trans r0, Nat.lt_of_lt_of_le hb5 a.size⟩)
          have HLE := Lib.hid (show ∀ k, ((OR.take k).filter (inO y.t.cols col v)).length ≤ 64 ∧ ((OR.take k).filter fun o => !inO y.t.cols col v o).length ≤ 64 from fun k => ⟨Nat.le_trans (List.length_filter_le _ _) (by simp; omega), Nat.le_trans (List.length_filter_le _ _) (by simp; omega)⟩)
          obtain ⟨i0, hi, hz0, hz1, hz2⟩ := info_parts info2Row
          have HI0 := Lib.hid hi
          have HZ0 := Lib.hid hz0
          have HZ1 := Lib.hid hz1
          have HZ2 := Lib.hid hz2
          have hk1b : (kd == 1) = false := by simpa using hk1
          clear hi hz0 hz1 hz2 hrr hyr hoat hOR hA5 hc5 hy9 hB5 hfz hR5 hb5 r0 hor64
          go_wp2_with fail
          clear x0 x5 xz
          go_loopw [8, 9, 10] (fun v1 v2 i wr => ∃ k : Nat, k ≤ OR.length ∧ i = .int .i64 k ∧ Aft V3 wr ∧ wr.ownsRow V3.heap.size 34 1 v1 ((OR.take k).filter (inO y.t.cols col v)).length (((OR.take k).filter (inO y.t.cols col v)).flatMap ORow.cells) ∧ wr.ownsRow V3.heap.size 34 1 v2 ((OR.take k).filter fun o => !inO y.t.cols col v o).length (((OR.take k).filter fun o => !inO y.t.cols col v o).flatMap ORow.cells) ∧ Apart v1 v2) (fun _ _ i _ => OR.length - (intOf i).toNat)
          case atStart => exact ⟨0, Nat.zero_le _, rfl, Aft.refl _, own_nil _ _ _ _, own_nil _ _ _ _, fun g h => by cases h⟩
          case round =>
            obtain ⟨k, hk, rfl, ha, ho1, ho2, hd⟩ := hrel
            have HA := Lib.hid ha
            have O1 := Lib.hid ho1
            have O2 := Lib.hid ho2
            have HD := Lib.hid hd
            clear ha ho1 ho2 hd
            obtain ⟨V4, hV4⟩ : ∃ V4, V4 = wr := ⟨_, rfl⟩
            subst hV4
            have HOL2 := HOL.out
            obtain ⟨o5, oz⟩ := KO.out V4 HA.out
            have s2 := (HR.out.row.aft (HV3.out.trans HA.out)).cell (j := 2) rfl
            have sz := (HR.out.row.aft (HV3.out.trans HA.out)).1
            rw [HRs.out] at s2
            by_cases hlt : k < OR.length
            · obtain ⟨b6, off6, hA6, hb6, c0, hv9⟩ := orow_at (orows_aft HA.out HOR.out) hlt
              have hF := HFO.out _ (List.getElem_mem hlt)
              have HN := Lib.hid (HNN.out _ (List.getElem_mem hlt))
              have HF1 := Lib.hid (filter_succ (inO y.t.cols col v) OR k hlt)
              have HF2 := Lib.hid (filter_succ (fun o => !inO y.t.cols col v o) OR k hlt)
              have HLL := Lib.hid (show y.t.cols.length = OR[k].vals.length from ((besideB_iff formB _ _).1 hF).1)
              have t6 := (HRX.out.aft (HWV3.out.trans HA.out)).cell (j := 6) rfl
              have t7 := (HRX.out.aft (HWV3.out.trans HA.out)).cell (j := 7) rfl
              have t8 := (HRX.out.aft (HWV3.out.trans HA.out)).cell (j := 8) rfl
              have tz := (HRX.out.aft (HWV3.out.trans HA.out)).1
              rw [hA6] at o5
              clear hF hA6
              have hql := colAt_lt HCI.out
              have hqr : cq < OR[k].vals.length := by have := HLL.out; omega
              obtain ⟨b8, off8, hB8, hb8, v0', v1', v2', _⟩ := val_at hv9 hqr
              have dx : decide ((cq : Int) < 0) = false := decide_eq_false (by omega)
              have hq0 : (0 : Int) ≤ (cq : Int) := by omega
              have hq1 : (cq : Int) < (OR[k].vals.length : Int) := by omega
              obtain ⟨bb, hbb⟩ : ∃ b, eqV OR[k].vals[cq] v = b := ⟨_, rfl⟩
              have HB := Lib.hid (show inO y.t.cols col v OR[k] = bb by unfold inO inS; rw [HCI.out, valAt_get hqr, hbb, dx]; rfl)
              rw [HB.out] at HF1 HF2
              have h3 : eqV3 OR[k].vals[cq].kind OR[k].vals[cq].int OR[k].vals[cq].text v.kind v.int v.text = bb := hbb
              have HB8 := Lib.hid hB8
              rw [hB8] at c0
              clear hbb hB8
              cases bb
              · go_wp2_with fail
                refine wp_region_lat (by kernel_rfl) (by kernel_rfl) ?_
                repeat (go_big_quiet_step (fail))
                refine wpQuiet_nil ?_
                intro _ hw'
                obtain ⟨z9, hw''⟩ := hw'
                subst hw''
                obtain ⟨W9, hW9⟩ : ∃ W9, W9 = lat V4 z9 := ⟨_, rfl⟩
                have a9 : Aft V4 W9 := by rw [hW9]; exact (Aft.refl V4).lat z9
                have O1 := Lib.hid (own_aft O1.out a9)
                have O2 := Lib.hid (own_aft O2.out a9)
                have HAW9 := Lib.hid (HA.out.trans a9)
                rw [← hW9]
                clear hW9 a9 o5 oz s2 sz c0 hb6 t6 t7 t8 tz hv9 hb8 v0' v1' v2'
                go_wp2_with (at_builtin; refine wpList_append_own2 _ rfl (.tmp 92) (.tmp 94) 47 rfl V3.heap.size 34 i0 (.slice none 0 0) 1 24 Tryz.underlying47 HI0.out HZ0.out HZ1.out HZ2.out rfl (by decide) _ _ _ rfl (own_aft O2.out ((Aft.refl _).alloc _)) (some ⟨W9.heap.size, 0, none⟩) 1 1 [.slice (some ⟨b8, off8, none⟩) OR[k].vals.length OR[k].h.c] rfl rfl ?c0 ?c1 ?c2 ?c3 ?c4 ?c5 ?_)
                case c0 => intro h; cases h
                case c1 =>
                  intro ad had j u hj
                  injection had with had; subst had
                  rw [add_mk, Nat.zero_add]; exact (World.cell?_alloc_at _ _ _ _ rfl).trans (by simpa using hj)
                case c2 => intro u hu; simp only [List.mem_cons, List.not_mem_nil, or_false] at hu; subst hu; simp [Value.oneCell']
                case c3 => have := HLE.out k; unfold maxLen; omega
                case c4 => have := HLE.out k; omega
                case c5 => have := HAW9.out.size; simp; omega
                intro A' cap' w5 hown' hgrow hblk
                have HA5w := Lib.hid (aft_grown (own_aft O2.out ((Aft.refl _).alloc _)) (HAW9.out.alloc _) hgrow)
                have HO5 := Lib.hid hown'
                have HO6 := Lib.hid (show w5.ownsRow V3.heap.size 34 1 u8 _ _ from own_far (O1.out) HD.out.symm hgrow)
                have HD6 := Lib.hid (apart_grown HD.out.symm O1.out hblk)
                clear hown' hgrow hblk
                go_wp2_with fail
                go_roundw
                case rel => exact ⟨k + 1, by omega, by go_num, HA5w.out, by rw [HF1.out]; simpa [List.flatMap_append, ORow.cells, Hd.v, HN.out, HB8.out] using HO6.out, by rw [HF2.out]; simpa [List.flatMap_append, ORow.cells, Hd.v, HN.out, HB8.out] using HO5.out, HD6.out.symm⟩
                case measure => simp [intOf]; omega
              · go_wp2_with fail
                refine wp_region_lat (by kernel_rfl) (by kernel_rfl) ?_
                repeat (go_big_quiet_step (fail))
                refine wpQuiet_nil ?_
                intro _ hw'
                obtain ⟨z9, hw''⟩ := hw'
                subst hw''
                obtain ⟨W9, hW9⟩ : ∃ W9, W9 = lat V4 z9 := ⟨_, rfl⟩
                have a9 : Aft V4 W9 := by rw [hW9]; exact (Aft.refl V4).lat z9
                have O1 := Lib.hid (own_aft O1.out a9)
                have O2 := Lib.hid (own_aft O2.out a9)
                have HAW9 := Lib.hid (HA.out.trans a9)
                rw [← hW9]
                clear hW9 a9 o5 oz s2 sz c0 hb6 t6 t7 t8 tz hv9 hb8 v0' v1' v2'
                go_wp2_with (at_builtin; refine wpList_append_own2 _ rfl (.tmp 88) (.tmp 90) 47 rfl V3.heap.size 34 i0 (.slice none 0 0) 1 24 Tryz.underlying47 HI0.out HZ0.out HZ1.out HZ2.out rfl (by decide) _ _ _ rfl (own_aft O1.out ((Aft.refl _).alloc _)) (some ⟨W9.heap.size, 0, none⟩) 1 1 [.slice (some ⟨b8, off8, none⟩) OR[k].vals.length OR[k].h.c] rfl rfl ?c0 ?c1 ?c2 ?c3 ?c4 ?c5 ?_)
                case c0 => intro h; cases h
                case c1 =>
                  intro ad had j u hj
                  injection had with had; subst had
                  rw [add_mk, Nat.zero_add]; exact (World.cell?_alloc_at _ _ _ _ rfl).trans (by simpa using hj)
                case c2 => intro u hu; simp only [List.mem_cons, List.not_mem_nil, or_false] at hu; subst hu; simp [Value.oneCell']
                case c3 => have := HLE.out k; unfold maxLen; omega
                case c4 => have := HLE.out k; omega
                case c5 => have := HAW9.out.size; simp; omega
                intro A' cap' w5 hown' hgrow hblk
                have HA5w := Lib.hid (aft_grown (own_aft O1.out ((Aft.refl _).alloc _)) (HAW9.out.alloc _) hgrow)
                have HO5 := Lib.hid hown'
                have HO6 := Lib.hid (show w5.ownsRow V3.heap.size 34 1 u9 _ _ from own_far (O2.out) HD.out hgrow)
                have HD6 := Lib.hid (apart_grown HD.out O2.out hblk)
                clear hown' hgrow hblk
                go_wp2_with fail
                go_roundw
                case rel => exact ⟨k + 1, by omega, by go_num, HA5w.out, by rw [HF1.out]; simpa [List.flatMap_append, ORow.cells, Hd.v, HN.out, HB8.out] using HO5.out, by rw [HF2.out]; simpa [List.flatMap_append, ORow.cells, Hd.v, HN.out, HB8.out] using HO6.out, HD6.out⟩
                case measure => simp [intOf]; omega
            · have e1 : OR.take k = OR := List.take_of_length_le (by omega)
              have o1 := O1.out
              have o2 := O2.out
              rw [e1] at o1 o2
              obtain ⟨G, hG⟩ : ∃ G, OR.filter (inO y.t.cols col v) = G := ⟨_, rfl⟩
              obtain ⟨F, hF⟩ : ∃ F, (OR.filter fun o => !inO y.t.cols col v o) = F := ⟨_, rfl⟩
              rw [hG] at o1
              rw [hF] at o2
              obtain ⟨h1, rfl, hn1⟩ := own_head o1
              obtain ⟨h2, rfl, hn2⟩ := own_head o2
              have HGM := Lib.hid (show ∀ o ∈ G, o ∈ OR from fun o ho => by rw [← hG] at ho; exact (List.mem_filter.1 ho).1)
              have HFM := Lib.hid (show ∀ o ∈ F, o ∈ OR from fun o ho => by rw [← hF] at ho; exact (List.mem_filter.1 ho).1)
              have HGV := Lib.hid (show goneS S q col v = G.map ORow.vals by unfold goneS; rw [HSN.out, ← HYR.out, ← hG, filter_inO])
              have HFV := Lib.hid (show leftS S q col v = F.map ORow.vals by unfold leftS; rw [HSN.out, ← HYR.out, ← hF, filter_notO])
              have HO1 := Lib.hid o1
              have HO2 := Lib.hid o2
              have v1e : h1.v = .slice h1.a G.length h1.c := own_slice o1
              have v2e : h2.v = .slice h2.a F.length h2.c := own_slice o2
              have HGL := Lib.hid (show G.length ≤ 64 by rw [← hG]; exact Nat.le_trans (List.length_filter_le _ _) HOL.out)
              have HFL := Lib.hid (show F.length ≤ 64 by rw [← hF]; exact Nat.le_trans (List.length_filter_le _ _) HOL.out)
              have hBV : B ≤ V3.heap.size := by have h8 := (HIN.out.lt s (List.mem_cons_self ..)); have h9 := HV3.out.size; omega
              have HBV := Lib.hid hBV
              have RG := Lib.hid (show RowsIn V4 B h1 G from ⟨own_down o1 hBV, fun o ho => own_aft (HRI.out.each o (HGM.out o ho)) (HV3.out.trans HA.out)⟩)
              have RF := Lib.hid (show RowsIn V4 B h2 F from ⟨own_down o2 hBV, fun o ho => own_aft (HRI.out.each o (HFM.out o ho)) (HV3.out.trans HA.out)⟩)
              have SG := Lib.hid (show SlAt V4 1 RowsR h1.a h1.c (G.map ORow.vals) from RG.out.at (by have := HGL.out; omega) fun o ho => HSMO.out o (HGM.out o ho))
              have SF := Lib.hid (show SlAt V4 1 RowsR h2.a h2.c (F.map ORow.vals) from RF.out.at (by have := HFL.out; omega) fun o ho => HSMO.out o (HFM.out o ho))
              have HVF := Lib.hid (HV3.out.trans HA.out)
              have x0 := (HRX.out.aft (HWV3.out.trans HA.out)).cell (j := 0) rfl
              have xz := (HRX.out.aft (HWV3.out.trans HA.out)).1
              rw [v1e, v2e]
              have HAP := Lib.hid HD.out
              clear o1 o2 e1 O1 O2 hG hF hn1 hn2 v1e v2e hBV
              by_cases hk2 : kd = 2
              case neg =>
                have HI := Lib.hid (show RS = (S, goneS S q col v, 0) by rw [HDR2.out (fun h => by have := h.2; omega), if_neg hk1, if_neg hk2]; rfl)
                have hk2b : (kd == 2) = false := by simpa using hk2
                go_wp2_with fail
                go_ret2
                rw [HI.out, HGV.out]
                exact ⟨L, h1.a, h1.c, HSL.out, rfl, by simp only [List.length_map]; rfl, Kb.of_aft HVF.out, HIN.out.aft HVF.out, SG.out, fun g hg => .inl hg⟩
              case pos =>
                subst hk2
                have HI := Lib.hid (show RS = removeS S q col v by rw [HDR2.out (fun h => by have := h.2; omega), if_neg hk1, if_pos rfl])
                have CH := Lib.hid (show Calls Tryz.prog 39 #[.pointer (some ⟨s, 0, none⟩), .int .i64 q, .slice h2.a F.length h2.c, .slice h1.a G.length h1.c] V4 (fun e w' => e = .returned (.bool (heldS S q (leftS S q col v) (goneS S q col v))) ∧ Aft V4 w') from by
                  have := rheld OK.out (HR.out.aft HVF.out) q hqS (F.map ORow.vals) (G.map ORow.vals) h2.a h2.c h1.a h1.c SF.out SG.out (fun r hr => by rw [HYE.out]; obtain ⟨o, ho, rfl⟩ := List.mem_map.1 hr; exact HFO.out o (HFM.out o ho)) (fun r hr => by rw [HYE.out]; obtain ⟨o, ho, rfl⟩ := List.mem_map.1 hr; exact HFO.out o (HGM.out o ho))
                  rw [List.length_map, List.length_map] at this
                  rw [HGV.out, HFV.out]
                  exact this)
                obtain ⟨hb9, hhb⟩ : ∃ hb9, heldS S q (leftS S q col v) (goneS S q col v) = hb9 := ⟨_, rfl⟩
                rw [hhb] at CH
                have HHB := Lib.hid hhb
                clear hhb
                go_wp2_with fail
                refine CH.out.mono ?_
                rintro e V5 ⟨rfl, a5⟩
                have HA5w := Lib.hid a5
                have HVG := Lib.hid (HVF.out.trans a5)
                clear CH a5 o5 oz s2 sz x0 xz
                cases hb9
                case true =>
                  have HI2 := Lib.hid (show RS = (S, [], 113) by rw [HI.out]; unfold removeS; rw [if_pos HHB.out])
                  go_wp2_with fail
                  go_ret2
                  rw [HI2.out, ← HSL.out]
                  exact refDo_no HIN.out HVG.out 113
                case false =>
                  have HI2 := Lib.hid (show RS = (putS S q (leftS S q col v), goneS S q col v, 0) by rw [HI.out]; unfold removeS; rw [if_neg (by rw [HHB.out]; simp)])
                  have hbW : b5 < w.heap.size := (HIN.out.lt b5 (List.mem_cons_of_mem _ (List.mem_append.2 (.inl (Hd.mem_blk.2 (show hm.v.ownBlock = some b5 by unfold Hd.v; rw [HRs.out]; rfl)))))).2
                  have zw := HV3.out.size
                  have bl : ∀ g ∈ rowBlks h2 F, g ∈ immB hs ht L ∨ V3.heap.size ≤ g := fun g hg => by
                    rcases List.mem_append.1 hg with hg | hg
                    · exact .inr (blk_lt HO2.out g hg).1
                    · obtain ⟨o, ho, hg⟩ := List.mem_flatMap.1 hg
                      exact .inl (mem_immR HY9.out (List.mem_append.2 (.inr (List.mem_flatMap.2 ⟨o, by rw [HORE.out]; exact HFM.out o ho, hg⟩))))
                  have bl2 : ∀ g ∈ rowBlks h2 F, g ≠ s ∧ g ∉ hm.blk := fun g hg => by
                    rcases bl g hg with h8 | h8
                    · exact ⟨fun e => HIN.out.fs (List.mem_append.2 (.inr (by rw [← e]; exact h8))), fun h9 => HIN.out.fm g h9 h8⟩
                    · refine ⟨fun e => ?_, fun h9 => ?_⟩
                      · have := (HIN.out.lt s (List.mem_cons_self ..)).2; omega
                      · have := (HIN.out.lt g (List.mem_cons_of_mem _ (List.mem_append.2 (.inl h9)))).2; omega
                  have rf5 : RowsIn V5 B h2 F := RF.out.aft HA5w.out
                  have tn := (HIN.out.aft HVG.out).turn hq HRs.out rf5 bl2
                  have v2e : h2.v = .slice h2.a F.length h2.c := own_slice HO2.out
                  rw [v2e] at tn
                  have HTN := Lib.hid tn
                  have HKB := Lib.hid (show Kb (fun g => g ∈ hm.blk) w (V5.setCell ⟨b5, q, none⟩ (.slice h2.a F.length h2.c)) from ((Kb.of_aft HVG.out).trans (Kb.set _ _ _ _)).mono fun g _ e => by
                    rw [e]; exact Hd.mem_blk.2 (show hm.v.ownBlock = some b5 by unfold Hd.v; rw [HRs.out]; rfl))
                  have HBL := Lib.hid (show ∀ g ∈ refB s hs ht hm (L.set q (RShf.mk L[q].x F h2)), g ∈ refB s hs ht hm L ∨ w.heap.size ≤ g from fun g hg => by
                    rcases List.mem_cons.1 hg with h8 | hg
                    · exact .inl (by rw [h8]; exact List.mem_cons_self ..)
                    rcases List.mem_append.1 hg with hg | hg
                    · exact .inl (List.mem_cons_of_mem _ (List.mem_append.2 (.inl hg)))
                    · rcases imm_set hq hg with h8 | h8
                      · exact .inl (List.mem_cons_of_mem _ (List.mem_append.2 (.inr h8)))
                      · rcases bl g h8 with h9 | h9
                        · exact .inl (List.mem_cons_of_mem _ (List.mem_append.2 (.inr h9)))
                        · exact .inr (by omega))
                  have HRS4 := Lib.hid (show refS (L.set q (RShf.mk L[q].x F h2)) = putS S q (leftS S q col v) by rw [refS_set hq, HSL.out, HFV.out])
                  have SG5 := Lib.hid (show SlAt (V5.setCell ⟨b5, q, none⟩ (.slice h2.a F.length h2.c)) 1 RowsR h1.a h1.c (G.map ORow.vals) from by
                    refine RowsIn.at (B := B) ((RG.out.aft HA5w.out).kb (Kb.set V5 b5 q _) fun g hg e => ?_) (by have := HGL.out; omega) fun o ho => HSMO.out o (HGM.out o ho)
                    rcases List.mem_append.1 hg with hg | hg
                    · have := (blk_lt HO1.out g hg).1; omega
                    · obtain ⟨o, ho, hg⟩ := List.mem_flatMap.1 hg
                      have h8 := mem_immR (hs := hs) (ht := ht) HY9.out (List.mem_append.2 (.inr (List.mem_flatMap.2 ⟨o, by rw [HORE.out]; exact HGM.out o ho, hg⟩)))
                      exact HIN.out.fm b5 (Hd.mem_blk.2 (show hm.v.ownBlock = some b5 by unfold Hd.v; rw [HRs.out]; rfl)) (by rw [← e]; exact h8))
                  obtain ⟨o5, oz⟩ := KO.out V5 (HA.out.trans HA5w.out)
                  have of5 : V5.frozen? ⟨b5, q, none⟩ = false := (Below.frozen (HA.out.trans HA5w.out) (p := ⟨b5, q, none⟩) (KO.out V3 (Aft.refl _)).2).trans HFZ.out
                  have s2 := (HR.out.row.aft HVG.out).cell (j := 2) rfl
                  have sz := (HR.out.row.aft HVG.out).1
                  rw [HRs.out] at s2
                  clear bl bl2 rf5 tn v2e
                  go_wp2_with fail
                  clear o5 oz s2 sz of5
                  go_wp2_with fail
                  go_ret2
                  rw [HI2.out, HGV.out]
                  exact ⟨_, h1.a, h1.c, HRS4.out, refS_x hq, by simp only [List.length_map]; rfl, HKB.out, HTN.out, SG5.out, HBL.out⟩
      case true =>
        have em1 : col.toList.isEmpty = true := HEM.out
        have em2 : col.toList = [] := by simpa using em1
        have hci0 : ci < 0 := by
          rw [← HCI.out]
          have hce : col = ⟨#[]⟩ := (eqS_iff9 _ _).1 (by unfold eqS; rw [em2]; decide +kernel)
          rw [hce]
          exact col_none (OK.out.tab HM.out).cols
        have hk2 := HME2.out (by first | trivial | rfl)
        by_cases hk1 : kd = 1
        case pos =>
          have x4 := (HRX.out.aft HWV3.out).cell (j := 4) rfl
          have CI := Lib.hid (show Calls Tryz.prog 38 #[.pointer (some ⟨s, 0, none⟩), .int .i64 q, .slice A row.length cap] V3 (RefDoQ V3 B s hs ht hm ss L (insS S q row)) from by
            have := rinsert (HIN.out.aft HV3.out) OK0.out HSM.out q hq row A cap (vals_aft HV3.out HROW.out)
            rw [HSL.out] at this
            exact this)
          have HI := Lib.hid (show RS = insS S q row by rw [HDR2.out (fun h => by cases h.1), if_pos hk1])
          subst hk1
          clear HDR2 HDC2 HME2 HMC2
          go_wp2_with fail
          refine CI.out.mono ?_
          rintro e V4 ⟨L', A9, c9, q1, q2, rfl, q4, q5, q6, q7⟩
          have Q := Lib.hid (And.intro q1 (And.intro q2 (And.intro q4 (And.intro q5 (And.intro q6 q7)))))
          clear q1 q2 q4 q5 q6 q7 CI x5 x0 xz x4
          go_wp2_with fail
          go_ret2
          rw [HI.out]
          obtain ⟨q1, q2, q4, q5, q6, q7⟩ := Q.out
          refine ⟨L', A9, c9, q1, q2, rfl, (Kb.of_aft HV3.out).trans q4, q5, q6, fun g hg => (q7 g hg).imp_right fun h => Nat.le_trans HV3.out.size h⟩
        case neg =>
          obtain ⟨b5, hR5, hb5, hB5, r0, hfz, hrr⟩ := (HIN.out.aft HV3.out).rowAt OK0.out hq
          obtain ⟨y9, hy9⟩ : ∃ y9, L[q] = y9 := ⟨_, rfl⟩
          rw [hy9] at r0 hrr
          have HY9 := Lib.hid (show y9 ∈ L by rw [← hy9]; exact List.getElem_mem hq)
          have hyr : y9.rows.map (·.vals) = y.rows := by
            have e1 := HYE.out
            rw [← e1, ← hy9]
            simp only [← HSL.out]
            simp [refS, RShf.s]
          have HYR := Lib.hid hyr
          have hy64 := OK.out.most y HM.out
          have hor64 : y9.rows.length ≤ 64 := by rw [← List.length_map (f := ORow.vals), hyr]; exact hy64
          have HSMO := Lib.hid (show ∀ o ∈ y9.rows, Small (o.vals.length * 16) ∧ ∀ v ∈ o.vals, Small v.text.size from fun o ho => row_small (OK.out.shf HM.out).2.1 (OK.out.form y HM.out o.vals (by rw [← hyr]; exact List.mem_map_of_mem ho)))
          have HFO := Lib.hid (show ∀ o ∈ y9.rows, besideB formB y.t.cols o.vals = true from fun o ho => OK.out.form y HM.out o.vals (by rw [← hyr]; exact List.mem_map_of_mem ho))
          have HNN := Lib.hid (show ∀ o ∈ y9.rows, o.h.n = o.vals.length from fun o ho => own_n ((HIN.out.each y9 HY9.out).each o ho))
          have hoat := ((HIN.out.aft HV3.out).each y9 HY9.out).oat (by omega) HSMO.out
          have HRI := Lib.hid (HIN.out.each y9 HY9.out)
          obtain ⟨OR, hOR⟩ : ∃ OR, y9.rows = OR := ⟨_, rfl⟩
          rw [hOR] at r0 hoat HYR HSMO HFO HNN HRI hor64
          have HORE := Lib.hid hOR
          obtain ⟨A5, hA5⟩ : ∃ A5, y9.hr.a = A5 := ⟨_, rfl⟩
          obtain ⟨c5, hc5⟩ : ∃ c5, y9.hr.c = c5 := ⟨_, rfl⟩
          rw [hA5, hc5] at r0 hoat
          have HOR := Lib.hid hoat
          have HQ9 := Lib.hid hy9
          have HB5 := Lib.hid hB5
          have HFZ := Lib.hid hfz
          have HRs := Lib.hid hR5
          have HOL := Lib.hid hor64
          have KO := Lib.hid (show ∀ V, Aft V3 V → (V.cell? ⟨b5, q, none⟩ = some (.slice A5 OR.length c5) ∧ b5 < V.heap.size) from fun V a => ⟨(Below.cell a (p := ⟨b5, _, none⟩) hb5).trans r0, Nat.lt_of_lt_of_le hb5 a.size⟩)
          have HLE := Lib.hid (show ∀ k, ((OR.take k).filter (inO y.t.cols col v)).length ≤ 64 ∧ ((OR.take k).filter fun o => !inO y.t.cols col v o).length ≤ 64 from fun k => ⟨Nat.le_trans (List.length_filter_le _ _) (by simp; omega), Nat.le_trans (List.length_filter_le _ _) (by simp; omega)⟩)
          obtain ⟨i0, hi, hz0, hz1, hz2⟩ := info_parts info2Row
          have HI0 := Lib.hid hi
          have HZ0 := Lib.hid hz0
          have HZ1 := Lib.hid hz1
          have HZ2 := Lib.hid hz2
          have hk1b : (kd == 1) = false := by simpa using hk1
          clear hi hz0 hz1 hz2 hrr hyr hoat hOR hA5 hc5 hy9 hB5 hfz hR5 hb5 r0 hor64
          go_wp2_with fail
          clear x0 x5 xz
          go_loopw [8, 9, 10] (fun v1 v2 i wr => ∃ k : Nat, k ≤ OR.length ∧ i = .int .i64 k ∧ Aft V3 wr ∧ wr.ownsRow V3.heap.size 34 1 v1 ((OR.take k).filter (inO y.t.cols col v)).length (((OR.take k).filter (inO y.t.cols col v)).flatMap ORow.cells) ∧ wr.ownsRow V3.heap.size 34 1 v2 ((OR.take k).filter fun o => !inO y.t.cols col v o).length (((OR.take k).filter fun o => !inO y.t.cols col v o).flatMap ORow.cells) ∧ Apart v1 v2) (fun _ _ i _ => OR.length - (intOf i).toNat)
          case atStart => exact ⟨0, Nat.zero_le _, rfl, Aft.refl _, own_nil _ _ _ _, own_nil _ _ _ _, fun g h => by cases h⟩
          case round =>
            obtain ⟨k, hk, rfl, ha, ho1, ho2, hd⟩ := hrel
            have HA := Lib.hid ha
            have O1 := Lib.hid ho1
            have O2 := Lib.hid ho2
            have HD := Lib.hid hd
            clear ha ho1 ho2 hd
            obtain ⟨V4, hV4⟩ : ∃ V4, V4 = wr := ⟨_, rfl⟩
            subst hV4
            have HOL2 := HOL.out
            obtain ⟨o5, oz⟩ := KO.out V4 HA.out
            have s2 := (HR.out.row.aft (HV3.out.trans HA.out)).cell (j := 2) rfl
            have sz := (HR.out.row.aft (HV3.out.trans HA.out)).1
            rw [HRs.out] at s2
            by_cases hlt : k < OR.length
            · obtain ⟨b6, off6, hA6, hb6, c0, hv9⟩ := orow_at (orows_aft HA.out HOR.out) hlt
              have hF := HFO.out _ (List.getElem_mem hlt)
              have HN := Lib.hid (HNN.out _ (List.getElem_mem hlt))
              have HF1 := Lib.hid (filter_succ (inO y.t.cols col v) OR k hlt)
              have HF2 := Lib.hid (filter_succ (fun o => !inO y.t.cols col v o) OR k hlt)
              have HLL := Lib.hid (show y.t.cols.length = OR[k].vals.length from ((besideB_iff formB _ _).1 hF).1)
              have t6 := (HRX.out.aft (HWV3.out.trans HA.out)).cell (j := 6) rfl
              have t7 := (HRX.out.aft (HWV3.out.trans HA.out)).cell (j := 7) rfl
              have t8 := (HRX.out.aft (HWV3.out.trans HA.out)).cell (j := 8) rfl
              have tz := (HRX.out.aft (HWV3.out.trans HA.out)).1
              rw [hA6] at o5
              clear hF hA6
              have HB := Lib.hid (show inO y.t.cols col v OR[k] = true by unfold inO inS; rw [HCI.out]; simp [hci0])
              rw [HB.out] at HF1 HF2
              have HB8 := Lib.hid (trivial : True)
              have dx : decide (ci < 0) = true := decide_eq_true hci0
              go_wp2_with fail
              refine wp_region_lat (by kernel_rfl) (by kernel_rfl) ?_
              repeat (go_big_quiet_step (fail))
              refine wpQuiet_nil ?_
              intro _ hw'
              obtain ⟨z9, hw''⟩ := hw'
              subst hw''
              obtain ⟨W9, hW9⟩ : ∃ W9, W9 = lat V4 z9 := ⟨_, rfl⟩
              have a9 : Aft V4 W9 := by rw [hW9]; exact (Aft.refl V4).lat z9
              have O1 := Lib.hid (own_aft O1.out a9)
              have O2 := Lib.hid (own_aft O2.out a9)
              have HAW9 := Lib.hid (HA.out.trans a9)
              rw [← hW9]
              clear hW9 a9 o5 oz s2 sz c0 hb6 t6 t7 t8 tz hv9
              go_wp2_with (at_builtin; refine wpList_append_own2 _ rfl (.tmp 88) (.tmp 90) 47 rfl V3.heap.size 34 i0 (.slice none 0 0) 1 24 Tryz.underlying47 HI0.out HZ0.out HZ1.out HZ2.out rfl (by decide) _ _ _ rfl (own_aft O1.out ((Aft.refl _).alloc _)) (some ⟨W9.heap.size, 0, none⟩) 1 1 [.slice OR[k].h.a OR[k].vals.length OR[k].h.c] rfl rfl ?c0 ?c1 ?c2 ?c3 ?c4 ?c5 ?_)
              case c0 => intro h; cases h
              case c1 =>
                intro ad had j u hj
                injection had with had; subst had
                rw [add_mk, Nat.zero_add]; exact (World.cell?_alloc_at _ _ _ _ rfl).trans (by simpa using hj)
              case c2 => intro u hu; simp only [List.mem_cons, List.not_mem_nil, or_false] at hu; subst hu; simp [Value.oneCell']
              case c3 => have := HLE.out k; unfold maxLen; omega
              case c4 => have := HLE.out k; omega
              case c5 => have := HAW9.out.size; simp; omega
              intro A' cap' w5 hown' hgrow hblk
              have HA5w := Lib.hid (aft_grown (own_aft O1.out ((Aft.refl _).alloc _)) (HAW9.out.alloc _) hgrow)
              have HO5 := Lib.hid hown'
              have HO6 := Lib.hid (show w5.ownsRow V3.heap.size 34 1 u9 _ _ from own_far (O2.out) HD.out hgrow)
              have HD6 := Lib.hid (apart_grown HD.out O2.out hblk)
              clear hown' hgrow hblk
              go_wp2_with fail
              go_roundw
              case rel => exact ⟨k + 1, by omega, by go_num, HA5w.out, by rw [HF1.out]; simpa [List.flatMap_append, ORow.cells, Hd.v, HN.out] using HO5.out, by rw [HF2.out]; simpa [List.flatMap_append, ORow.cells, Hd.v, HN.out] using HO6.out, HD6.out⟩
              case measure => simp [intOf]; omega
            · have e1 : OR.take k = OR := List.take_of_length_le (by omega)
              have o1 := O1.out
              have o2 := O2.out
              rw [e1] at o1 o2
              obtain ⟨G, hG⟩ : ∃ G, OR.filter (inO y.t.cols col v) = G := ⟨_, rfl⟩
              obtain ⟨F, hF⟩ : ∃ F, (OR.filter fun o => !inO y.t.cols col v o) = F := ⟨_, rfl⟩
              rw [hG] at o1
              rw [hF] at o2
              obtain ⟨h1, rfl, hn1⟩ := own_head o1
              obtain ⟨h2, rfl, hn2⟩ := own_head o2
              have HGM := Lib.hid (show ∀ o ∈ G, o ∈ OR from fun o ho => by rw [← hG] at ho; exact (List.mem_filter.1 ho).1)
              have HFM := Lib.hid (show ∀ o ∈ F, o ∈ OR from fun o ho => by rw [← hF] at ho; exact (List.mem_filter.1 ho).1)
              have HGV := Lib.hid (show goneS S q col v = G.map ORow.vals by unfold goneS; rw [HSN.out, ← HYR.out, ← hG, filter_inO])
              have HFV := Lib.hid (show leftS S q col v = F.map ORow.vals by unfold leftS; rw [HSN.out, ← HYR.out, ← hF, filter_notO])
              have HO1 := Lib.hid o1
              have HO2 := Lib.hid o2
              have v1e : h1.v = .slice h1.a G.length h1.c := own_slice o1
              have v2e : h2.v = .slice h2.a F.length h2.c := own_slice o2
              have HGL := Lib.hid (show G.length ≤ 64 by rw [← hG]; exact Nat.le_trans (List.length_filter_le _ _) HOL.out)
              have HFL := Lib.hid (show F.length ≤ 64 by rw [← hF]; exact Nat.le_trans (List.length_filter_le _ _) HOL.out)
              have hBV : B ≤ V3.heap.size := by have h8 := (HIN.out.lt s (List.mem_cons_self ..)); have h9 := HV3.out.size; omega
              have HBV := Lib.hid hBV
              have RG := Lib.hid (show RowsIn V4 B h1 G from ⟨own_down o1 hBV, fun o ho => own_aft (HRI.out.each o (HGM.out o ho)) (HV3.out.trans HA.out)⟩)
              have RF := Lib.hid (show RowsIn V4 B h2 F from ⟨own_down o2 hBV, fun o ho => own_aft (HRI.out.each o (HFM.out o ho)) (HV3.out.trans HA.out)⟩)
              have SG := Lib.hid (show SlAt V4 1 RowsR h1.a h1.c (G.map ORow.vals) from RG.out.at (by have := HGL.out; omega) fun o ho => HSMO.out o (HGM.out o ho))
              have SF := Lib.hid (show SlAt V4 1 RowsR h2.a h2.c (F.map ORow.vals) from RF.out.at (by have := HFL.out; omega) fun o ho => HSMO.out o (HFM.out o ho))
              have HVF := Lib.hid (HV3.out.trans HA.out)
              have x0 := (HRX.out.aft (HWV3.out.trans HA.out)).cell (j := 0) rfl
              have xz := (HRX.out.aft (HWV3.out.trans HA.out)).1
              rw [v1e, v2e]
              have HAP := Lib.hid HD.out
              clear o1 o2 e1 O1 O2 hG hF hn1 hn2 v1e v2e hBV
              have HI := Lib.hid (show RS = (S, goneS S q col v, 0) by rw [HDR2.out (fun h => by cases h.1), if_neg hk1, if_neg hk2]; rfl)
              have hk2b : (kd == 2) = false := by simpa using hk2
              go_wp2_with fail
              go_ret2
              rw [HI.out, HGV.out]
              exact ⟨L, h1.a, h1.c, HSL.out, rfl, by simp only [List.length_map]; rfl, Kb.of_aft HVF.out, HIN.out.aft HVF.out, SG.out, fun g hg => .inl hg⟩
end
end Go.Proofs.YtiadkchlkdaceaaGreat

namespace Go.Proofs.YtiadkchlkdaceaaGreat
open Go.RowKit
set_option maxRecDepth 100000
set_option linter.unusedVariables false
set_option maxHeartbeats 8000000 in
theorem rturn_any (l m : List Col) (row : List Val) (A : Option Addr) (cap : Nat) (A2 : Option Addr) (cap2 : Nat) (B : Option Addr) (capB : Nat) (w : World) (h : SlAt w 3 ColR A cap l) (h2 : SlAt w 3 ColR A2 cap2 m) (h3 : SlAt w 3 ValR B capB row) :
    Calls Tryz.prog 28 #[.slice A l.length cap, .slice A2 m.length cap2, .slice B row.length capB] w (TurnP w (turned l m row) (turnC l m row)) := by
  have hlen := h.len
  have hlen2 := h2.len
  have hlen3 := h3.len
  obtain ⟨c1, hc1⟩ : ∃ c, colsOk l = c := ⟨_, rfl⟩
  obtain ⟨c2, hc2⟩ : ∃ c, colsOk m = c := ⟨_, rfl⟩
  obtain ⟨f, hf⟩ : ∃ f, besideB formB l row = f := ⟨_, rfl⟩
  have K1 := Lib.hid (show ∀ w', Aft w w' → Calls Tryz.prog 64 #[.slice A l.length cap] w' fun e w'' => e = .returned (.bool c1) ∧ Aft w' w'' from
    fun w' a => (rcols_any A cap l w' (cols_aft a h)).mono fun e w'' ⟨he, hw⟩ => ⟨he.trans (by rw [hc1]), hw⟩)
  have K2 := Lib.hid (show ∀ w', Aft w w' → Calls Tryz.prog 64 #[.slice A2 m.length cap2] w' fun e w'' => e = .returned (.bool c2) ∧ Aft w' w'' from
    fun w' a => (rcols_any A2 cap2 m w' (cols_aft a h2)).mono fun e w'' ⟨he, hw⟩ => ⟨he.trans (by rw [hc2]), hw⟩)
  have K3 := Lib.hid (show ∀ w', Aft w w' → Calls Tryz.prog 65 #[.slice A l.length cap, .slice B row.length capB] w' fun e w'' => e = .returned (.bool f) ∧ Aft w' w'' from
    fun w' a => (rform_any A cap l B capB row w' (cols_aft a h) (vals_aft a h3)).mono fun e w'' ⟨he, hw⟩ => ⟨he.trans (by rw [hf]), hw⟩)
  have H1 := Lib.hid hc1
  have H2 := Lib.hid hc2
  have H3 := Lib.hid hf
  clear hc1 hc2 hf
  obtain ⟨i0, hi, hz0, hz1, hz2⟩ := info_parts infoV
  have HI := Lib.hid hi
  have HZ0 := Lib.hid hz0
  have HZ1 := Lib.hid hz1
  have HZ2 := Lib.hid hz2
  clear hi hz0 hz1 hz2
  go_enter Tryz.func28, Tryz.ntmps28
  go_wp2_with fail
  refine (K1.out _ (Aft.refl w)).mono ?_
  rintro e w1 ⟨rfl, a1⟩
  have HA1 := Lib.hid a1
  clear a1 K1
  cases c1
  · have HC := Lib.hid (turnC_1 (m := m) (row := row) H1.out)
    go_wp2_with fail
    go_ret2
    exact ⟨_, by rw [HC.out]; rfl, HA1.out, by rw [turned_no (by rw [HC.out]; decide)]; exact own_nil _ _ _ _⟩
  go_wp2_with fail
  refine (K2.out _ HA1.out).mono ?_
  rintro e w2 ⟨rfl, a2⟩
  have HA2 := Lib.hid (HA1.out.trans a2)
  clear a2 K2 HA1
  cases c2
  · have HC := Lib.hid (turnC_1' (row := row) H1.out H2.out)
    go_wp2_with fail
    go_ret2
    exact ⟨_, by rw [HC.out]; rfl, HA2.out, by rw [turned_no (by rw [HC.out]; decide)]; exact own_nil _ _ _ _⟩
  go_wp2_with fail
  refine (K3.out _ HA2.out).mono ?_
  rintro e w3 ⟨rfl, a3⟩
  have HA3 := Lib.hid (HA2.out.trans a3)
  clear a3 K3 HA2
  cases f
  · have HC := Lib.hid (turnC_100 H1.out H2.out H3.out)
    go_wp2_with fail
    go_ret2
    exact ⟨_, by rw [HC.out]; rfl, HA3.out, by rw [turned_no (by rw [HC.out]; decide)]; exact own_nil _ _ _ _⟩
  have HC := Lib.hid (turnC_0 H1.out H2.out H3.out)
  have HTV := Lib.hid (turned_yes HC.out)
  have HLL := Lib.hid (show l.length = row.length from ((besideB_iff formB l row).1 H3.out).1)
  have hm8 := cols_len H2.out
  go_wp2_with fail
  go_loopw [8, 9] (fun v i wr => ∃ k : Nat, k ≤ m.length ∧ i = .int .i64 k ∧ Aft w wr ∧ wr.ownsRow w.heap.size 37 3 v k ((turnVs l (m.take k) row).flatMap cellsV)) (fun _ i _ => m.length - (intOf i).toNat)
  case atStart => exact ⟨0, Nat.zero_le _, rfl, HA3.out, own_nil _ _ _ _⟩
  case round =>
    obtain ⟨k, hk, rfl, ha, hown⟩ := hrel
    have HA := Lib.hid ha
    have HO := Lib.hid hown
    clear HA3
    by_cases hlt : k < m.length
    · obtain ⟨b, off, hAm, hb, c0, c1, c2, _⟩ := col_at (cols_aft ha h2) hlt
      subst hAm
      obtain ⟨c, hcc⟩ : ∃ c, m[k] = c := ⟨_, rfl⟩
      rw [hcc] at c0 c1 c2
      have HS := Lib.hid (show turnVs l (m.take (k + 1)) row = turnVs l (m.take k) row ++ [turn1 l row c] by rw [turnVs_succ l m row k hlt, hcc])
      obtain ⟨x, hx⟩ : ∃ x, colAt l c.name = x := ⟨_, rfl⟩
      have hol := own_lt hown
      clear hcc hown
      obtain ⟨W, hW⟩ : ∃ W, W = wr.alloc (.cells #[.int .i64 1, .int .i64 0, .string ⟨#[]⟩] 37) := ⟨_, rfl⟩
      have aW : Aft wr W := by rw [hW]; exact (Aft.refl wr).alloc _
      have rv : RowAt W wr.heap.size [.int .i64 1, .int .i64 0, .string ⟨#[]⟩] := by rw [hW]; exact rowAt_new _ _ _
      have ck := aW.cell_kept c1
      have cn := aW.cell_kept c0
      have hbW := Nat.lt_of_lt_of_le hb aW.size
      have HA0 := Lib.hid (HA.out.trans aW)
      have O0 := Lib.hid (own_aft HO.out aW)
      have Cp := Lib.hid (show ∀ w', Aft wr w' → Calls Tryz.prog 37 #[.slice A l.length cap, .string c.name] w' fun e w'' => e = .returned (.int .i64 x) ∧ w' = w'' from
        fun w' a => (rcol_any A cap l c.name w' (cols_aft (HA.out.trans a) h)).mono fun e w'' ⟨he, hw⟩ => ⟨he.trans (by rw [← hx]; rfl), hw⟩)
      go_wp2_with fail
      rw [← hW]
      refine (Cp.out W aW).mono ?_
      rintro e w1 ⟨rfl, hw1⟩
      have a1 : Aft W w1 := by rw [← hw1]; exact Aft.refl _
      clear hw1
      have HA1 := Lib.hid (HA0.out.trans a1)
      have O1 := Lib.hid (own_aft O0.out a1)
      have rv1 := rv.aft a1
      have ck1 := a1.cell_kept ck
      have lk1 := World.block_lt_of_cell? _ _ ck1
      clear hW Cp ck cn rv aW
      by_cases hx0 : x < 0
      · have HV := Lib.hid (turn1_miss (row := row) (by rw [hx]; exact hx0))
        have dx : decide (0 ≤ x) = false := decide_eq_false (by omega)
        have dx' : ¬ 0 ≤ x := by omega
        clear hx
        go_wp2_with fail
        refine wp_region_lat (by kernel_rfl) (by kernel_rfl) ?_
        repeat (go_big_quiet_step (fail))
        refine wpQuiet_nil ?_
        intro _ hw'
        obtain ⟨z, hw''⟩ := hw'
        subst hw''
        obtain ⟨L, hL⟩ : ∃ L, L = lat w1 z := ⟨_, rfl⟩
        have aL : Aft w1 L := by rw [hL]; exact (Aft.refl w1).lat z
        have rL := rv1.aft aL
        have y0 := rL.cell (j := 0) rfl
        have y1 := rL.cell (j := 1) rfl
        have y2 := rL.cell (j := 2) rfl
        have yz := rL.1
        have OL := Lib.hid (own_aft O1.out aL)
        have HAL := Lib.hid (HA1.out.trans aL)
        rw [← hL]
        clear hL
        clear rL aL
        go_wp2_with (at_builtin; refine wpList_append_own _ rfl (.tmp 57) (.tmp 59) 34 rfl w.heap.size 37 i0 (.agg #[.int .i64 0, .int .i64 0, .string ByteArray.empty]) 3 32 Tryz.underlying34 HI.out HZ0.out HZ1.out HZ2.out rfl (by decide) _ _ _ rfl (OL.out.alloc _) ⟨L.heap.size, 0, none⟩ 1 1 [.int .i64 1, .int .i64 0, .string ⟨#[]⟩] rfl rfl ?c1 ?c2 ?c3 ?c4 ?c5 ?_)
        case c1 => intro j u hj; rw [add_mk, Nat.zero_add]; exact (World.cell?_alloc_at _ _ _ _ rfl).trans (by simpa using hj)
        case c2 => intro u hu; simp only [List.mem_cons, List.not_mem_nil, or_false] at hu; rcases hu with rfl | rfl | rfl <;> simp [Value.oneCell']
        case c3 => unfold maxLen; omega
        case c4 => omega
        case c5 => have := HAL.out.size; simp; omega
        intro v' w2 hown' hgrow _
        have HA2 := Lib.hid (aft_grown (OL.out.alloc _) (HAL.out.alloc _) hgrow)
        have HO2 := Lib.hid hown'
        clear hown' hgrow
        go_wp2_with fail
        go_roundw
        case rel => exact ⟨k + 1, by omega, by go_num, HA2.out, by rw [HS.out, HV.out]; simpa [List.flatMap_append, cellsV, nullV] using HO2.out⟩
        case measure => simp [intOf]; omega
      obtain ⟨q, rfl⟩ := Int.eq_ofNat_of_zero_le (show 0 ≤ x by omega)
      have hql := colAt_lt hx
      have hqr : q < row.length := by have := HLL.out; omega
      have dx : decide ((0 : Int) ≤ (q : Int)) = true := decide_eq_true (by omega)
      obtain ⟨b7, off7, hA7, hb7, d70, d71, d72, _⟩ := col_at (cols_aft HA1.out h) hql
      subst hA7
      cases hkk : (l[q].kind == c.kind)
      · have HV := Lib.hid (turn1_other (row := row) hx hql (by simpa using hkk))
        clear hx
        go_wp2_with fail
        refine wp_region_lat (by kernel_rfl) (by kernel_rfl) ?_
        repeat (go_big_quiet_step (fail))
        refine wpQuiet_nil ?_
        intro _ hw'
        obtain ⟨z, hw''⟩ := hw'
        subst hw''
        obtain ⟨L, hL⟩ : ∃ L, L = lat w1 z := ⟨_, rfl⟩
        have aL : Aft w1 L := by rw [hL]; exact (Aft.refl w1).lat z
        have rL := rv1.aft aL
        have y0 := rL.cell (j := 0) rfl
        have y1 := rL.cell (j := 1) rfl
        have y2 := rL.cell (j := 2) rfl
        have yz := rL.1
        have OL := Lib.hid (own_aft O1.out aL)
        have HAL := Lib.hid (HA1.out.trans aL)
        rw [← hL]
        clear hL
        clear rL aL
        go_wp2_with (at_builtin; refine wpList_append_own _ rfl (.tmp 57) (.tmp 59) 34 rfl w.heap.size 37 i0 (.agg #[.int .i64 0, .int .i64 0, .string ByteArray.empty]) 3 32 Tryz.underlying34 HI.out HZ0.out HZ1.out HZ2.out rfl (by decide) _ _ _ rfl (OL.out.alloc _) ⟨L.heap.size, 0, none⟩ 1 1 [.int .i64 1, .int .i64 0, .string ⟨#[]⟩] rfl rfl ?c1 ?c2 ?c3 ?c4 ?c5 ?_)
        case c1 => intro j u hj; rw [add_mk, Nat.zero_add]; exact (World.cell?_alloc_at _ _ _ _ rfl).trans (by simpa using hj)
        case c2 => intro u hu; simp only [List.mem_cons, List.not_mem_nil, or_false] at hu; rcases hu with rfl | rfl | rfl <;> simp [Value.oneCell']
        case c3 => unfold maxLen; omega
        case c4 => omega
        case c5 => have := HAL.out.size; simp; omega
        intro v' w2 hown' hgrow _
        have HA2 := Lib.hid (aft_grown (OL.out.alloc _) (HAL.out.alloc _) hgrow)
        have HO2 := Lib.hid hown'
        clear hown' hgrow
        go_wp2_with fail
        go_roundw
        case rel => exact ⟨k + 1, by omega, by go_num, HA2.out, by rw [HS.out, HV.out]; simpa [List.flatMap_append, cellsV, nullV] using HO2.out⟩
        case measure => simp [intOf]; omega
      · have HV := Lib.hid (turn1_hit hx hql hqr (by simpa using hkk))
        obtain ⟨b8, off8, hB8, hb8, v0, v1, v2, _⟩ := val_at (vals_aft HA1.out h3) hqr
        subst hB8
        clear hx
        go_wp2_with fail
        refine wp_region_lat (by kernel_rfl) (by kernel_rfl) ?_
        repeat (go_big_quiet_step (fail))
        refine wpQuiet_nil ?_
        intro _ hw'
        obtain ⟨z, hw''⟩ := hw'
        subst hw''
        obtain ⟨L, hL⟩ : ∃ L, L = lat w1 z := ⟨_, rfl⟩
        have aL : Aft w1 L := by rw [hL]; exact (Aft.refl w1).lat z
        have rL := rv1.aft aL
        have y0 := rL.cell (j := 0) rfl
        have y1 := rL.cell (j := 1) rfl
        have y2 := rL.cell (j := 2) rfl
        have yz := rL.1
        have OL := Lib.hid (own_aft O1.out aL)
        have HAL := Lib.hid (HA1.out.trans aL)
        rw [← hL]
        clear hL
        have p0 := aL.cell_kept v0
        have p1 := aL.cell_kept v1
        have p2 := aL.cell_kept v2
        have f0 := rL.2.2 0 (by simp)
        have f1 := rL.2.2 1 (by simp)
        have f2 := rL.2.2 2 (by simp)
        have hne : u8.ownBlock ≠ some wr.heap.size := fun e => by have := hol _ e; omega
        have hge : w.heap.size ≤ wr.heap.size := by have := HA.out.size; omega
        go_wp2_with fail
        obtain ⟨S, hS⟩ : ∃ S, S = ((L.setCell ⟨wr.heap.size, 0, none⟩ (.int .i64 row[q].kind)).setCell ⟨wr.heap.size, 1, none⟩ (.int .i64 row[q].int)).setCell ⟨wr.heap.size, 2, none⟩ (.string row[q].text) := ⟨_, rfl⟩
        have rS : RowAt S wr.heap.size [.int .i64 row[q].kind, .int .i64 row[q].int, .string row[q].text] := by rw [hS]; exact ((rL.set 0 _ (by simp)).set 1 _ (by simp)).set 2 _ (by simp)
        have OS := Lib.hid (show S.ownsRow w.heap.size 37 3 u8 k ((turnVs l (m.take k) row).flatMap cellsV) by rw [hS]; exact ownsRow_setCell_other (ownsRow_setCell_other (ownsRow_setCell_other OL.out hne _) hne _) hne _)
        have HAS := Lib.hid (show Aft w S by rw [hS]; exact ((HAL.out.setCell _ _ hge).setCell _ _ hge).setCell _ _ hge)
        have s0 := rS.cell (j := 0) rfl
        have s1 := rS.cell (j := 1) rfl
        have s2 := rS.cell (j := 2) rfl
        have sz := rS.1
        rw [← hS]
        have hlv : (lvVal ⟨wr.heap.size, 0, none⟩).run Tryz.prog S = .ok (.agg #[.int .i64 row[q].kind, .int .i64 row[q].int, .string row[q].text]) S := by
          have h9 := run_lvVal S wr.heap.size 0 (by rw [s0]; rfl) (by rw [s1]; rfl) (by rw [s2]; rfl)
          rw [s0, s1, s2] at h9
          exact h9
        rw [hlv]
        simp only [Result.andThen]
        rw [Oper.upon_value]
        clear hlv hS rS y0 y1 y2 yz p0 p1 p2 f0 f1 f2
        clear rL aL
        go_wp2_with (at_builtin; refine wpList_append_own _ rfl (.tmp 57) (.tmp 59) 34 rfl w.heap.size 37 i0 (.agg #[.int .i64 0, .int .i64 0, .string ByteArray.empty]) 3 32 Tryz.underlying34 HI.out HZ0.out HZ1.out HZ2.out rfl (by decide) _ _ _ rfl (OS.out.alloc _) ⟨S.heap.size, 0, none⟩ 1 1 [.int .i64 row[q].kind, .int .i64 row[q].int, .string row[q].text] rfl rfl ?c1 ?c2 ?c3 ?c4 ?c5 ?_)
        case c1 => intro j u hj; rw [add_mk, Nat.zero_add]; exact (World.cell?_alloc_at _ _ _ _ rfl).trans (by simpa using hj)
        case c2 => intro u hu; simp only [List.mem_cons, List.not_mem_nil, or_false] at hu; rcases hu with rfl | rfl | rfl <;> simp [Value.oneCell']
        case c3 => unfold maxLen; omega
        case c4 => omega
        case c5 => have := HAS.out.size; simp; omega
        intro v' w2 hown' hgrow _
        have HA2 := Lib.hid (aft_grown (OS.out.alloc _) (HAS.out.alloc _) hgrow)
        have HO2 := Lib.hid hown'
        clear hown' hgrow
        go_wp2_with fail
        go_roundw
        case rel => exact ⟨k + 1, by omega, by go_num, HA2.out, by rw [HS.out, HV.out]; simpa [List.flatMap_append, cellsV, nullV] using HO2.out⟩
        case measure => simp [intOf]; omega
    · clear ha hown
      go_wp2_with fail
      go_ret2
      have e1 : m.take k = m := List.take_of_length_le (by omega)
      have e2 : k = m.length := by omega
      have ho := HO.out
      rw [e1] at ho
      refine ⟨_, by rw [HC.out]; rfl, HA.out, ?_⟩
      rw [HTV.out, turnVs_len, ← e2]; exact ho
end Go.Proofs.YtiadkchlkdaceaaGreat

namespace Go.Proofs.YtiadkchlkdaceaaGreat
open Go.RowKit Go.Deep
set_option maxRecDepth 100000
set_option linter.unusedVariables false
theorem info2Rw2 : (Tryz.prog.info? 47).map (fun i => (i.zero, i.size, i.bytes)) = some (some (.slice none 0 0), 1, 24) := by kernel_rfl
def rlC (p : List ORow × Hd) : List Value := [p.2.v]
/-- tables' rows in a list of their own -/
structure AllIn (w : World) (B : Nat) (h : Hd) (P : List (List ORow × Hd)) : Prop where
  lst : w.ownsRow B 47 1 h.v P.length (P.flatMap rlC)
  each : ∀ p ∈ P, RowsIn w B p.2 p.1
  far : ∀ g ∈ h.blk, ∀ p ∈ P, g ∉ rowBlks p.2 p.1
theorem AllIn.nil (w : World) (B : Nat) : AllIn w B ⟨none, 0, 0⟩ [] := ⟨own_nil _ _ _ _, (fun p h => by cases h), fun g h => by simp [blk_nil] at h⟩
theorem AllIn.kb {P : Nat → Prop} {w w' : World} {B : Nat} {h : Hd} {l : List (List ORow × Hd)} (r : AllIn w B h l) (k : Kb P w w') (hne : ∀ g, B ≤ g → ¬ P g) : AllIn w' B h l :=
  ⟨own_kb r.lst k fun g hg => hne g (r.lst.lt g hg).1, fun p hp => (r.each p hp).kb k fun g hg => hne g ((r.each p hp).lt g hg).1, r.far⟩
theorem AllIn.aft {w w' : World} {B : Nat} {h : Hd} {P : List (List ORow × Hd)} (r : AllIn w B h P) (a : Aft w w') : AllIn w' B h P :=
  ⟨own_aft r.lst a, fun p hp => (r.each p hp).aft a, r.far⟩
theorem AllIn.push {wr w4 w5 : World} {B n : Nat} {h : Hd} {P : List (List ORow × Hd)} {p : List ORow × Hd} {A' : Option Addr} {cap' : Nat} {ob : Obj} (r : AllIn wr B h P) (a4 : Aft wr w4) (hp : RowsIn w4 wr.heap.size p.2 p.1) (hB : B ≤ wr.heap.size) (hn : n = P.length + 1)
    (hg : (w4.alloc ob).grownBy w5 h.v.ownBlock) (hown : w5.ownsRow B 47 1 (.slice A' n cap') n (P.flatMap rlC ++ [p.2.v])) (hblk : ∀ g ∈ (Hd.mk A' n cap').blk, h.v.ownBlock = some g ∨ w4.heap.size + 1 ≤ g) : AllIn w5 B ⟨A', n, cap'⟩ (P ++ [p]) := by
  have k := Kb.of_grown hg
  have hz := a4.size
  refine ⟨?_, fun x hx => ?_, fun g hg2 x hx hx2 => ?_⟩
  · have e : (P ++ [p]).length = n := by simp [hn]
    rw [e]
    simpa [List.flatMap_append, rlC, Hd.v] using hown
  · rcases List.mem_append.1 hx with hx | hx
    · refine ((r.each x hx).aft (a4.alloc ob)).kb k fun g hg2 e => ?_
      exact r.far g (Hd.mem_blk.2 e) x hx hg2
    · rw [List.mem_singleton] at hx
      subst hx
      refine ((hp.aft ((Aft.refl w4).alloc ob)).kb k fun g hg2 e => ?_).down hB
      have h1 := (r.lst.lt g e).2
      have h2 := (hp.lt g hg2).1
      omega
  · rcases List.mem_append.1 hx with hx | hx
    · have h3 := (r.each x hx).lt g hx2
      rcases hblk g hg2 with h1 | h1
      · exact r.far g (Hd.mem_blk.2 h1) x hx hx2
      · omega
    · rw [List.mem_singleton] at hx
      subst hx
      have h3 := hp.lt g hx2
      rcases hblk g hg2 with h1 | h1
      · have := (r.lst.lt g h1).2; omega
      · omega
def mkR (x : OTab) (p : List ORow × Hd) : RShf := ⟨x, p.1, p.2⟩
theorem zip_x : ∀ (Lx : List OTab) (P : List (List ORow × Hd)), Lx.length = P.length → (List.zipWith mkR Lx P).map RShf.x = Lx
  | [], _, _ => rfl
  | x :: l, [], h => by simp at h
  | x :: l, p :: r, h => by
    rw [List.zipWith_cons_cons, List.map_cons, zip_x l r (by simpa using h)]
    rfl
theorem zip_c : ∀ (Lx : List OTab) (P : List (List ORow × Hd)), Lx.length = P.length → (List.zipWith mkR Lx P).flatMap hrR = P.flatMap rlC
  | [], [], _ => rfl
  | [], p :: r, h => by simp at h
  | x :: l, [], h => by simp at h
  | x :: l, p :: r, h => by
    rw [List.zipWith_cons_cons, List.flatMap_cons, List.flatMap_cons, zip_c l r (by simpa using h)]
    rfl
theorem zip_mem : ∀ (Lx : List OTab) (P : List (List ORow × Hd)) {y : RShf}, y ∈ List.zipWith mkR Lx P → ∃ p ∈ P, y.rows = p.1 ∧ y.hr = p.2
  | [], _, y, h => by simp at h
  | x :: l, [], y, h => by simp at h
  | x :: l, p :: r, y, h => by
    rw [List.zipWith_cons_cons] at h
    rcases List.mem_cons.1 h with rfl | h
    · exact ⟨p, List.mem_cons_self .., rfl, rfl⟩
    · obtain ⟨q, hq, e⟩ := zip_mem l r h
      exact ⟨q, List.mem_cons_of_mem _ hq, e⟩
theorem zip_s : ∀ (Lx : List OTab) (P : List (List ORow × Hd)) (T : List Tab) (f : Tab → Shf), (∀ t, (f t).t = t) → Lx.map OTab.t = T → P.map (fun p => p.1.map (·.vals)) = T.map (fun t => (f t).rows) → refS (List.zipWith mkR Lx P) = T.map f
  | [], P, T, f, h0, h1, h2 => by
    subst h1
    rfl
  | x :: l, [], T, f, h0, h1, h2 => by
    subst h1
    simp at h2
  | x :: l, p :: r, T, f, h0, h1, h2 => by
    subst h1
    rw [List.map_cons, List.map_cons, List.map_cons, List.cons.injEq] at h2
    rw [List.zipWith_cons_cons, List.map_cons, List.map_cons]
    have e := zip_s l r _ f h0 rfl h2.2
    unfold refS at e ⊢
    rw [List.map_cons, e]
    congr 1
    show Shf.mk x.t (p.1.map (·.vals)) = f x.t
    rw [h2.1]
    have := h0 x.t
    cases hf : f x.t
    rw [hf] at this
    simp only at this
    rw [this]
theorem all_blk {w : World} {B : Nat} {hs ht hm : Hd} {ss : List Sch} {Lx : List OTab} {P : List (List ORow × Hd)} (hl : Lx.length = P.length) (ha : AllIn w B hm P) (ho : ObjIn w B hs ht ss Lx) : ∀ g ∈ hm.blk ++ immB hs ht (List.zipWith mkR Lx P), B ≤ g := fun g hg => by
  rcases List.mem_append.1 hg with hg | hg
  · exact (blk_lt ha.lst g hg).1
  rcases List.mem_append.1 hg with hg | hg
  · rw [zip_x Lx P hl] at hg
    exact (ho.lt g hg).1
  · obtain ⟨y, hy, hg⟩ := List.mem_flatMap.1 hg
    obtain ⟨p, hp, e1, e2⟩ := zip_mem Lx P hy
    unfold RShf.rblk at hg
    rw [e1, e2] at hg
    exact ((ha.each p hp).lt g hg).1
theorem RefIn.make {w : World} {B B2 s C : Nat} {hs ht hm : Hd} {ss : List Sch} {Lx : List OTab} {P : List (List ORow × Hd)} (hl : Lx.length = P.length) (ha : AllIn w B2 hm P) (ho : ObjIn w B2 hs ht ss Lx) (hrow : RowAt w s [hs.v, ht.v, hm.v]) (hge : B ≤ s) (hB : B ≤ B2) (hs2 : s < B2)
    (hoc : ∀ g ∈ hs.blk ++ (ht.blk ++ Lx.flatMap OTab.blks), C ≤ g) (hmc : ∀ g ∈ hm.blk, g < C) : RefIn w B s hs ht hm ss (List.zipWith mkR Lx P) := by
  have hz : (List.zipWith mkR Lx P).length = P.length := by rw [List.length_zipWith, hl, Nat.min_self]
  refine ⟨hge, hrow, ?_, ?_, fun y hy => ?_, fun h => ?_, fun g hg h => ?_⟩
  · rw [zip_x Lx P hl]
    exact ⟨own_down ho.sch hB, own_down ho.tab hB, fun x hx => (ho.each x hx).down hB, ho.nd⟩
  · rw [hz, zip_c Lx P hl]
    exact own_down ha.lst hB
  · obtain ⟨p, hp, e1, e2⟩ := zip_mem Lx P hy
    rw [e1, e2]
    exact (ha.each p hp).down hB
  · have := all_blk hl ha ho s h
    omega
  · rcases List.mem_append.1 h with h | h
    · rw [zip_x Lx P hl] at h
      have h1 := hoc g h
      have h2 := hmc g hg
      omega
    · obtain ⟨y, hy, h⟩ := List.mem_flatMap.1 h
      obtain ⟨p, hp, e1, e2⟩ := zip_mem Lx P hy
      unfold RShf.rblk at h
      rw [e1, e2] at h
      exact ha.far g hg p hp h
/-- what a Load on the document's store leaves -/
def RefLoadQ (w : World) (B s : Nat) (hs ht hm : Hd) (ss : List Sch) (L : List RShf) (o : Objs) (e : Ending) (w' : World) : Prop :=
  (checkO o = false ∧ e = .returned (.int .i64 63) ∧ Aft w w') ∨ (checkO o = true ∧ ∃ hs' ht' hm' L', refS L' = o.tables.map (turnS (refS L)) ∧ (L'.map RShf.x).map OTab.t = o.tables ∧ e = .returned (.int .i64 0) ∧ Kb (fun g => g = s) w w' ∧ RefIn w' B s hs' ht' hm' o.schemas L' ∧ ∀ g ∈ hm'.blk ++ immB hs' ht' L', w.heap.size ≤ g)
section
variable {w : World} {B s : Nat} {hs ht hm : Hd} {ss : List Sch} {L : List RShf}
set_option maxHeartbeats 16000000 in
theorem rload12 (hin : RefIn w B s hs ht hm ss L) (ok : SOk (refS L) ss) (sm : SmO (objOf ss (L.map RShf.x))) (o : Objs) (As : Option Addr) (caps : Nat) (At : Option Addr) (capt : Nat) (hsch : SlAt w 2 SchR As caps o.schemas) (htab : SlAt w 5 TabR At capt o.tables) (hmod : ModO o) :
    Calls Tryz.prog 9 #[.pointer (some ⟨s, 0, none⟩), .agg #[.slice As o.schemas.length caps, .slice At o.tables.length capt]] w (RefLoadQ w B s hs ht hm ss L o) := by
  have hlen := htab.len
  have HIN := Lib.hid hin
  have RA := hin.at ok sm
  have OK0 := Lib.hid ok
  obtain ⟨S, hS⟩ : ∃ S, refS L = S := ⟨_, rfl⟩
  have HSL := Lib.hid hS
  rw [hS] at RA ok
  have HR := Lib.hid RA
  have OK := Lib.hid ok
  have h64 : S.length ≤ 64 := by have := ok.good.nt; simpa using this
  have HSC := Lib.hid hsch
  have HT := Lib.hid htab
  have HMD := Lib.hid hmod
  obtain ⟨i0, hi, hz0, hz1, hz2⟩ := info_parts info2Row
  have HI0 := Lib.hid hi
  have HZ0 := Lib.hid hz0
  have HZ1 := Lib.hid hz1
  have HZ2 := Lib.hid hz2
  clear hi hz0 hz1 hz2
  obtain ⟨i1, hi, hz0, hz1, hz2⟩ := info_parts info2Rw2
  have JI := Lib.hid hi
  have JZ0 := Lib.hid hz0
  have JZ1 := Lib.hid hz1
  have JZ2 := Lib.hid hz2
  clear hi hz0 hz1 hz2
  obtain ⟨W, hW⟩ : ∃ W, W = w.alloc (.cells #[.slice As o.schemas.length caps, .slice At o.tables.length capt] 29) := ⟨_, rfl⟩
  have aW : Aft w W := by rw [hW]; exact (Aft.refl w).alloc _
  have rW : RowAt W w.heap.size [.slice As o.schemas.length caps, .slice At o.tables.length capt] := by rw [hW]; exact box_row2 (Aft.refl _)
  have HAW := Lib.hid aW
  have HRX := Lib.hid rW
  have a0 := rW.cell (j := 0) rfl
  have a1 := rW.cell (j := 1) rfl
  have az := rW.1
  have CR := Lib.hid (rRight_any o As caps At capt W (schs_aft aW hsch) (tabs_aft aW htab))
  obtain ⟨ck, hck⟩ : ∃ ck, checkO o = ck := ⟨_, rfl⟩
  rw [hck] at CR
  have HCK := Lib.hid hck
  clear aW rW hin RA ok hS hsch htab hmod hck
  go_enter Tryz.func9, Tryz.ntmps9
  go_wp2_with fail
  rw [← hW]
  clear hW
  go_wp2_with fail
  refine CR.out.mono ?_
  rintro e V ⟨rfl, aV⟩
  have HV := Lib.hid (HAW.out.trans aV)
  have HWV := Lib.hid aV
  clear a0 a1 az CR aV
  cases ck
  case false =>
    go_wp2_with fail
    go_ret
    exact .inl ⟨HCK.out, rfl, HV.out⟩
  case true =>
    have HG := Lib.hid ((good_iff o).1 HCK.out)
    have ht64 : o.tables.length ≤ 64 := HG.out.nt
    go_wp2_with fail
    go_loopw [5, 6] (fun va i wr => ∃ (k : Nat) (h : Hd) (P : List (List ORow × Hd)), k ≤ o.tables.length ∧ i = .int .i64 k ∧ va = .slice h.a k h.c ∧ Aft V wr ∧ AllIn wr V.heap.size h P ∧ P.map (fun p => p.1.map (·.vals)) = (o.tables.take k).map (fun t => (turnS S t).rows)) (fun _ i _ => o.tables.length - (intOf i).toNat)
    case atStart => exact ⟨0, ⟨none, 0, 0⟩, [], Nat.zero_le _, rfl, rfl, Aft.refl _, AllIn.nil _ _, rfl⟩
    case round =>
      obtain ⟨k, h, P, hk, rfl, rfl, ha, hal, hPm⟩ := hrel
      have HA := Lib.hid ha
      have HAw := Lib.hid (HV.out.trans ha)
      have HAL := Lib.hid hal
      have HPM := Lib.hid hPm
      have HPL := Lib.hid (show P.length = k by have := congrArg List.length hPm; simpa [Nat.min_eq_left hk] using this)
      clear ha hal hPm
      obtain ⟨V1, hV1⟩ : ∃ V1, V1 = wr := ⟨_, rfl⟩
      subst hV1
      have a0 := (HRX.out.aft (HWV.out.trans HA.out)).cell (j := 0) rfl
      have a1 := (HRX.out.aft (HWV.out.trans HA.out)).cell (j := 1) rfl
      have az := (HRX.out.aft (HWV.out.trans HA.out)).1
      by_cases hlt : k < o.tables.length
      · obtain ⟨b, off, C2, capc2, C3, capc3, hA, hb, c0, c1, c2, c3, c4, hcs, hrs, _⟩ := tab_at (tabs_aft HAw.out HT.out) hlt
        have htm := List.getElem_mem hlt
        have HTK := Lib.hid (show (o.tables.take (k + 1)).map (fun t => (turnS S t).rows) = (o.tables.take k).map (fun t => (turnS S t).rows) ++ [(turnS S o.tables[k]).rows] by rw [List.take_succ_eq_append_getElem hlt, List.map_append]; rfl)
        obtain ⟨t, ht0⟩ : ∃ t, o.tables[k] = t := ⟨_, rfl⟩
        rw [ht0] at c0 c1 c2 c3 c4 hcs hrs htm HTK
        have HTM := Lib.hid htm
        have HCS := Lib.hid hcs
        rw [hA] at a1
        obtain ⟨Wt, hWt⟩ : ∃ Wt, Wt = V1.alloc (.cells #[.string t.schema, .string t.name, .string t.owner, .slice C2 t.cols.length capc2, .slice C3 t.rules.length capc3] 76) := ⟨_, rfl⟩
        have aWt : Aft V1 Wt := by rw [hWt]; exact (Aft.refl V1).alloc _
        have rWt : RowAt Wt V1.heap.size [.string t.schema, .string t.name, .string t.owner, .slice C2 t.cols.length capc2, .slice C3 t.rules.length capc3] := by rw [hWt]; exact box_row2 (Aft.refl _)
        have HAT := Lib.hid aWt
        have HRT := Lib.hid rWt
        have HATw := Lib.hid (HAw.out.trans aWt)
        obtain ⟨at0, hat⟩ : ∃ at0, shfAt S t.schema t.name = at0 := ⟨_, rfl⟩
        have HAT0 := Lib.hid hat
        have CC := Lib.hid (show ∀ x9 : Lat Wt, Calls Tryz.prog 27 #[.agg #[.slice hs.a ss.length hs.c, .slice ht.a S.length ht.c], .string t.schema, .string t.name] (lat Wt x9) fun e w'' => e = .returned (.int .i64 at0) ∧ Aft (lat Wt x9) w'' from fun x9 => by
          have := rtab_any (.slice hs.a ss.length hs.c) ht.a ht.c (S.map (·.t)) t.schema t.name (lat Wt x9) (HR.out.aft (HATw.out.trans ((Aft.refl Wt).lat x9))).tab
          rw [tabAt_shf, hat, List.length_map] at this
          exact this)
        have hr1 := (idxP_range (fun y : Shf => eqS y.t.schema t.schema && eqS y.t.name t.name) S)
        have hrg : at0 < S.length := by unfold shfAt at hat; rw [hat] at hr1; exact hr1.2
        have hrl : -1 ≤ at0 := by unfold shfAt at hat; rw [hat] at hr1; exact hr1.1
        have x0 := rWt.cell (j := 0) rfl
        have x1 := rWt.cell (j := 1) rfl
        have xz := rWt.1
        have s0 := (HR.out.row.aft HATw.out).cell (j := 0) rfl
        have s1 := (HR.out.row.aft HATw.out).cell (j := 1) rfl
        have sz := (HR.out.row.aft HATw.out).1
        clear ht0 htm hcs hrs hat hr1 aWt rWt hA
        go_wp2_with fail
        rw [← hWt]
        clear hWt c0 c1 c2 c3 c4 hb a0 a1 az
        refine wp_region_lat (by kernel_rfl) (by kernel_rfl) ?_
        repeat (go_big_quiet_step ((go_at_call 27; exact Calls.lat_of (CC.out _))))
        refine wpQuiet_nil ?_
        intro V2 hw'
        have aV2 : Aft Wt V2 := by obtain ⟨x9, hw''⟩ := hw'; rw [hw'']; exact (Aft.refl Wt).lat x9
        have H2 := Lib.hid (HATw.out.trans aV2)
        have H12 := Lib.hid (HAT.out.trans aV2)
        have HT2 := Lib.hid (HRT.out.aft aV2)
        clear hw' aV2 CC x0 x1 xz s0 s1 sz
        have zV := HA.out.size
        have z12 := H12.out.size
        by_cases hat0 : at0 < 0
        case pos =>
          have dx : decide (0 ≤ at0) = false := decide_eq_false (by omega)
          have HTR := Lib.hid (show (turnS S t).rows = [] by unfold turnS; rw [HAT0.out]; simp only; rw [if_pos hat0])
          go_wp2_with fail
          go_loopw [8, 10] (fun v i wr => i = .int .i64 0 ∧ v = .slice none 0 0 ∧ wr = V2) (fun _ i _ => 0)
          case atStart => exact ⟨rfl, rfl, rfl⟩
          case round =>
            obtain ⟨rfl, rfl, rfl⟩ := hrel
            have HOW := Lib.hid (show V1.ownsRow V.heap.size 47 1 (.slice h.a k h.c) k (P.flatMap rlC) from by
              have h8 := HAL.out.lst
              rw [own_slice h8, HPL.out] at h8
              exact h8)
            have HHV := Lib.hid (show h.v = .slice h.a k h.c from by rw [own_slice HAL.out.lst, HPL.out])
            have HLV := Lib.hid (show (Hd.mk none 0 0).v = .slice none 0 0 from rfl)
            have HPN := Lib.hid (show (P ++ [(([] : List ORow), (⟨none, 0, 0⟩ : Hd))]).map (fun p => p.1.map (·.vals)) = (o.tables.take (k + 1)).map (fun t => (turnS S t).rows) by rw [HTK.out, List.map_append, HPM.out, HTR.out]; rfl)
            go_wp2_with (at_builtin; refine wpList_append_own2 _ rfl (.tmp 82) (.tmp 84) 30 rfl V.heap.size 47 i1 (.slice none 0 0) 1 24 Tryz.underlying30 JI.out JZ0.out JZ1.out JZ2.out rfl (by decide) (.slice h.a k h.c) k (P.flatMap rlC) rfl (own_aft HOW.out (((H12.out).alloc _))) (some ⟨wr.heap.size, 0, none⟩) 1 1 [.slice none 0 0] rfl rfl ?c0 ?c1 ?c2 ?c3 ?c4 ?c5 ?_)
            case c0 => intro h; cases h
            case c1 =>
              intro ad had j u hj
              injection had with had; subst had
              rw [add_mk, Nat.zero_add]; exact (World.cell?_alloc_at _ _ _ _ rfl).trans (by simpa using hj)
            case c2 => intro u hu; simp only [List.mem_cons, List.not_mem_nil, or_false] at hu; subst hu; simp [Value.oneCell']
            case c3 => unfold maxLen; omega
            case c4 => omega
            case c5 => have := (H12.out).size; simp; omega
            intro A' cap' w5 hown' hgrow hblk
            have HP := Lib.hid (show AllIn w5 V.heap.size ⟨A', k + 1, cap'⟩ (P ++ [([], ⟨none, 0, 0⟩)]) from HAL.out.push (ob := .cells #[.slice none 0 0] 47) (H12.out) (rowsIn_nil _ _) zV (by rw [HPL.out]) (by rw [HHV.out]; exact hgrow) (by rw [HLV.out]; exact hown') (by rw [HHV.out]; intro g hg; simpa using hblk g hg))
            have HA5 := Lib.hid (show Aft V w5 from aft_grown (own_aft HOW.out (((H12.out).alloc _))) ((HA.out.trans (H12.out)).alloc _) hgrow)
            clear hown' hgrow hblk
            go_wp2_with fail
            go_roundw
            case rel => exact ⟨k + 1, ⟨A', k + 1, cap'⟩, _, by omega, by go_num, rfl, HA5.out, HP.out, HPN.out⟩
            case measure => simp [intOf]; omega
        case neg =>
          obtain ⟨q, rfl⟩ : ∃ q : Nat, at0 = q := ⟨at0.toNat, by omega⟩
          have hqS : q < S.length := by omega
          have hq : q < L.length := by have := congrArg List.length HSL.out; simp [refS] at this; omega
          have dx : decide (0 ≤ (q : Int)) = true := decide_eq_true (by omega)
          obtain ⟨b5, hR5, hb5, _, r0, _, hrr⟩ := (HIN.out.aft H2.out).rowAt OK0.out hq
          obtain ⟨b1, off1, B2, capb2, B3, capb3, hB1, hb1, f0, f1, f2, f3, f4, gcs, _⟩ := (HR.out.aft H2.out).tabAt hqS
          have hmem := List.getElem_mem hqS
          obtain ⟨y, hy⟩ : ∃ y, S[q] = y := ⟨_, rfl⟩
          obtain ⟨y9, hy9⟩ : ∃ y9, L[q] = y9 := ⟨_, rfl⟩
          rw [hy] at f0 f1 f2 f3 f4 gcs hmem
          rw [hy9] at r0 hrr
          have HM := Lib.hid hmem
          have hyr : y9.rows.map (·.vals) = y.rows := by
            rw [← hy, ← hy9]
            simp only [← HSL.out]
            simp [refS, RShf.s]
          have hyl : y9.rows.length = y.rows.length := by rw [← hyr, List.length_map]
          rw [hyr] at hrr
          rw [hyl] at r0
          have hy64 := OK.out.most y hmem
          have HTR := Lib.hid (show (turnS S t).rows = y.rows.map (turnVs y.t.cols t.cols) by
            unfold turnS
            rw [HAT0.out]
            simp only
            rw [if_neg hat0, Int.toNat_natCast, shfN_get hqS, hy])
          have HTC := Lib.hid (show ∀ r ∈ y.rows, turnC y.t.cols t.cols r = 0 from fun r hr => turnC_0 (OK.out.tab hmem).cols (HG.out.tab t HTM.out).cols (OK.out.form y hmem r hr))
          obtain ⟨A5, hA5⟩ : ∃ A5, y9.hr.a = A5 := ⟨_, rfl⟩
          obtain ⟨c5, hc5⟩ : ∃ c5, y9.hr.c = c5 := ⟨_, rfl⟩
          rw [hA5, hc5] at r0 hrr
          have HRR := Lib.hid hrr
          have GCS := Lib.hid gcs
          have HRs := Lib.hid hR5
          have HB1 := Lib.hid hB1
          have KO := Lib.hid (show ∀ V, Aft V2 V → (V.cell? ⟨b5, q, none⟩ = some (.slice A5 y.rows.length c5) ∧ b5 < V.heap.size ∧ V.cell? ⟨b1, off1 + q * 5 + 3, none⟩ = some (.slice B2 y.t.cols.length capb2) ∧ b1 < V.heap.size) from fun V a => ⟨(Below.cell a (p := ⟨b5, _, none⟩) hb5).trans r0, Nat.lt_of_lt_of_le hb5 a.size, (Below.cell a (p := ⟨b1, _, none⟩) hb1).trans f3, Nat.lt_of_lt_of_le hb1 a.size⟩)
          clear hR5 hB1 hy hy9 hyr hyl hA5 hc5 hrr gcs r0 f0 f1 f2 f3 f4 hb5 hb1 hmem
          go_wp2_with fail
          go_loopw [8, 10] (fun v i wr => ∃ (n : Nat) (h2 : Hd) (R : List ORow), n ≤ y.rows.length ∧ i = .int .i64 n ∧ v = .slice h2.a n h2.c ∧ Aft V2 wr ∧ RowsIn wr V2.heap.size h2 R ∧ (h2.blk ++ R.flatMap (·.h.blk)).Nodup ∧ R.map ORow.vals = (y.rows.take n).map (turnVs y.t.cols t.cols)) (fun _ i _ => y.rows.length - (intOf i).toNat)
          case atStart => exact ⟨0, ⟨none, 0, 0⟩, [], Nat.zero_le _, rfl, rfl, Aft.refl _, rowsIn_nil _ _, by simp [blk_nil], rfl⟩
          case round =>
            obtain ⟨n, h2, R, hn, rfl, rfl, ha, hri, hnd, hRm⟩ := hrel
            have HB := Lib.hid ha
            have HBw := Lib.hid (H2.out.trans ha)
            have HRI := Lib.hid hri
            have HND := Lib.hid hnd
            have HRM := Lib.hid hRm
            have HRL := Lib.hid (show R.length = n by have := congrArg List.length hRm; simpa [Nat.min_eq_left hn] using this)
            clear ha hri hnd hRm
            obtain ⟨V4, hV4⟩ : ∃ V4, V4 = wr := ⟨_, rfl⟩
            subst hV4
            obtain ⟨o5, oz, g3, gz⟩ := KO.out V4 HB.out
            have s1 := (HR.out.row.aft HBw.out).cell (j := 1) rfl
            have s2 := (HR.out.row.aft HBw.out).cell (j := 2) rfl
            have sz := (HR.out.row.aft HBw.out).1
            rw [HRs.out] at s2
            rw [HB1.out] at s1
            have zB := HB.out.size
            by_cases hltn : n < y.rows.length
            · obtain ⟨b8, off8, A8, cap8, hA8, hb8, u0, hv⟩ := row_at (rows_aft HB.out HRR.out) hltn
              have HTV := Lib.hid (turned_yes (HTC.out _ (List.getElem_mem hltn)))
              have HT0 := Lib.hid (HTC.out _ (List.getElem_mem hltn))
              have HRT2 := Lib.hid (show (y.rows.take (n + 1)).map (turnVs y.t.cols t.cols) = (y.rows.take n).map (turnVs y.t.cols t.cols) ++ [turnVs y.t.cols t.cols y.rows[n]] by rw [List.take_succ_eq_append_getElem hltn, List.map_append]; rfl)
              obtain ⟨u, hu⟩ : ∃ u, y.rows[n] = u := ⟨_, rfl⟩
              rw [hu] at u0 hv HTV HT0 HRT2
              rw [hA8] at o5
              have CT := Lib.hid (show ∀ V, Aft V4 V → Calls Tryz.prog 28 #[.slice B2 y.t.cols.length capb2, .slice C2 t.cols.length capc2, .slice A8 u.length cap8] V (TurnP V (turnVs y.t.cols t.cols u) 0) from fun V a => by
                have h8 := rturn_any y.t.cols t.cols u B2 capb2 C2 capc2 A8 cap8 V (cols_aft (HB.out.trans a) GCS.out) (cols_aft (H12.out.trans (HB.out.trans a)) HCS.out) (vals_aft a hv)
                rw [HTV.out, HT0.out] at h8
                exact h8)
              have x3 := (HT2.out.aft HB.out).cell (j := 3) rfl
              have xz := (HT2.out.aft HB.out).1
              clear hu hv hA8
              go_wp2_with fail
              refine wp_region_mix [true, true, true, true, true, true, true, true, true, true, true, true, true, true, true, true, true, true, true, true, true, false, true, true, true, true, false] 26 (fun w' => ∃ x : Lat V4, w' = lat V4 x) (by kernel_rfl) (by kernel_rfl) ((Aft.refl V4).drew).to ?_
              refine wpMix_reads 21 rfl rfl ?_
              simp only [List.take_succ_cons, List.take_zero, List.drop_succ_cons, List.drop_zero]
              repeat (go_big_quiet_step (fail))
              refine wpQuiet_nil ?_
              refine wpMix_step rfl (fun K hK => ?_)
              go_simp
              obtain ⟨D9, hD9⟩ : ∃ D9, D9 = V4.drew := ⟨_, rfl⟩
              have aD : Aft V4 D9 := by rw [hD9]; exact (Aft.refl V4).drew
              rw [← hD9]
              go_at_call 28
              refine (CT.out D9 aD).mono ?_
              rintro e Z ⟨v9, rfl, aZ, ho9⟩
              dsimp only
              refine hK _ _ (fun _ => (aD.trans aZ).to) ?_
              clear hK K hD9
              refine wpMix_reads 4 rfl rfl ?_
              simp only [List.take_succ_cons, List.take_zero, List.drop_succ_cons, List.drop_zero]
              repeat (go_big_quiet_step (fail))
              refine wpQuiet_nil ?_
              refine wpMix_step rfl (fun K hK => ?_)
              go_simp
              refine hK _ _ (fun h => absurd h (by decide)) ?_
              clear hK K
              refine NoPanic.normal ?_
              have HZ := Lib.hid (aD.trans aZ)
              obtain ⟨h9, rfl, hn9⟩ := own_head ho9
              have HO9 := Lib.hid (own_down ho9 aD.size)
              clear ho9 aD aZ CT o5 oz g3 gz s1 s2 sz x3 xz u0 hb8 hn9
              obtain ⟨n9, hn9⟩ : ∃ n9, (turnVs y.t.cols t.cols u).length = n9 := ⟨_, rfl⟩
              have e9 : h9.v = .slice h9.a n9 h9.c := by rw [← hn9]; exact own_slice HO9.out
              have HE9 := Lib.hid e9
              rw [e9]
              have e2 : h2.v = .slice h2.a n h2.c := by rw [own_slice HRI.out.own, HRL.out]
              have HE2 := Lib.hid e2
              have HOW2 := Lib.hid (show Z.ownsRow V2.heap.size 34 1 (.slice h2.a n h2.c) n (R.flatMap ORow.cells) from by
                have h8 := own_aft HRI.out.own HZ.out
                rw [HRL.out, e2] at h8
                exact h8)
              have zZ := HZ.out.size
              clear e9 e2 hn9
              go_wp2_with (at_builtin; refine wpList_append_own2 _ rfl (.tmp 78) (.tmp 80) 47 rfl V2.heap.size 34 i0 (.slice none 0 0) 1 24 Tryz.underlying47 HI0.out HZ0.out HZ1.out HZ2.out rfl (by decide) (.slice h2.a n h2.c) n (R.flatMap ORow.cells) rfl (own_aft HOW2.out ((Aft.refl _).alloc _)) (some ⟨Z.heap.size, 0, none⟩) 1 1 [.slice h9.a n9 h9.c] rfl rfl ?c0 ?c1 ?c2 ?c3 ?c4 ?c5 ?_)
              case c0 => intro h; cases h
              case c1 =>
                intro ad had j u hj
                injection had with had; subst had
                rw [add_mk, Nat.zero_add]; exact (World.cell?_alloc_at _ _ _ _ rfl).trans (by simpa using hj)
              case c2 => intro u hu; simp only [List.mem_cons, List.not_mem_nil, or_false] at hu; subst hu; simp [Value.oneCell']
              case c3 => unfold maxLen; omega
              case c4 => omega
              case c5 => simp; omega
              intro A' cap' w5 hown' hgrow hblk
              have HPU := Lib.hid (rows_push (o := ⟨turnVs y.t.cols t.cols u, h9⟩) (ob := .cells #[.slice h9.a n9 h9.c] 34) HRI.out HND.out HZ.out HO9.out zB (by rw [HE2.out]; exact hgrow) (show n + 1 = R.length + 1 by rw [HRL.out]) (by rw [HE9.out]; exact hown') (by rw [HE2.out]; intro g hg; simpa using hblk g hg))
              have HA9 := Lib.hid (show Aft V2 w5 from aft_grown (own_aft HOW2.out ((Aft.refl Z).alloc (.cells #[.slice h9.a n9 h9.c] 34))) ((HB.out.trans HZ.out).alloc _) hgrow)
              have HR9 := Lib.hid (show (R ++ [(⟨turnVs y.t.cols t.cols u, h9⟩ : ORow)]).map ORow.vals = (y.rows.take (n + 1)).map (turnVs y.t.cols t.cols) by rw [List.map_append, HRM.out, HRT2.out]; rfl)
              clear hown' hgrow hblk
              go_wp2_with fail
              go_roundw
              case rel => exact ⟨n + 1, ⟨A', n + 1, cap'⟩, _, by omega, by go_num, rfl, HA9.out, HPU.out.1, HPU.out.2, HR9.out⟩
              case measure => simp [intOf]; omega
            · have hnl : n = y.rows.length := by omega
              have htk : y.rows.take n = y.rows := List.take_of_length_le (by omega)
              have HOW := Lib.hid (show V1.ownsRow V.heap.size 47 1 (.slice h.a k h.c) k (P.flatMap rlC) from by
                have h8 := HAL.out.lst
                rw [own_slice h8, HPL.out] at h8
                exact h8)
              have HHV := Lib.hid (show h.v = .slice h.a k h.c from by rw [own_slice HAL.out.lst, HPL.out])
              have HLV := Lib.hid (show h2.v = .slice h2.a n h2.c from by rw [own_slice HRI.out.own, HRL.out])
              have HPN := Lib.hid (show (P ++ [(R, h2)]).map (fun p => p.1.map (·.vals)) = (o.tables.take (k + 1)).map (fun t => (turnS S t).rows) by
                rw [HTK.out, List.map_append, HPM.out, HTR.out]
                rw [htk] at HRM
                rw [← HRM.out]
                rfl)
              have HRI2 := Lib.hid (show RowsIn V4 V1.heap.size h2 R from HRI.out.down z12)
              have H14 := Lib.hid (H12.out.trans HB.out)
              clear hnl htk
              go_wp2_with (at_builtin; refine wpList_append_own2 _ rfl (.tmp 82) (.tmp 84) 30 rfl V.heap.size 47 i1 (.slice none 0 0) 1 24 Tryz.underlying30 JI.out JZ0.out JZ1.out JZ2.out rfl (by decide) (.slice h.a k h.c) k (P.flatMap rlC) rfl (own_aft HOW.out (((H14.out).alloc _))) (some ⟨V4.heap.size, 0, none⟩) 1 1 [.slice h2.a n h2.c] rfl rfl ?c0 ?c1 ?c2 ?c3 ?c4 ?c5 ?_)
              case c0 => intro h; cases h
              case c1 =>
                intro ad had j u hj
                injection had with had; subst had
                rw [add_mk, Nat.zero_add]; exact (World.cell?_alloc_at _ _ _ _ rfl).trans (by simpa using hj)
              case c2 => intro u hu; simp only [List.mem_cons, List.not_mem_nil, or_false] at hu; subst hu; simp [Value.oneCell']
              case c3 => unfold maxLen; omega
              case c4 => omega
              case c5 => have := (H14.out).size; simp; omega
              intro A' cap' w5 hown' hgrow hblk
              have HP := Lib.hid (show AllIn w5 V.heap.size ⟨A', k + 1, cap'⟩ (P ++ [(R, h2)]) from HAL.out.push (ob := .cells #[.slice h2.a n h2.c] 47) (H14.out) HRI2.out zV (by rw [HPL.out]) (by rw [HHV.out]; exact hgrow) (by rw [HLV.out]; exact hown') (by rw [HHV.out]; intro g hg; simpa using hblk g hg))
              have HA5 := Lib.hid (show Aft V w5 from aft_grown (own_aft HOW.out (((H14.out).alloc _))) ((HA.out.trans (H14.out)).alloc _) hgrow)
              clear hown' hgrow hblk
              go_wp2_with fail
              go_roundw
              case rel => exact ⟨k + 1, ⟨A', k + 1, cap'⟩, _, by omega, by go_num, rfl, HA5.out, HP.out, HPN.out⟩
              case measure => simp [intOf]; omega
      · obtain rfl : k = o.tables.length := by omega
        have htk : o.tables.take o.tables.length = o.tables := List.take_of_length_le (Nat.le_refl _)
        have HPM2 := Lib.hid (show P.map (fun p => p.1.map (·.vals)) = o.tables.map (fun t => (turnS S t).rows) by have h8 := HPM.out; rw [htk] at h8; exact h8)
        have CO := Lib.hid (rOwn_in o As caps At capt V1 (schs_aft HAw.out HSC.out) (tabs_aft HAw.out HT.out) HMD.out)
        have HHV := Lib.hid (show h.v = .slice h.a o.tables.length h.c from by rw [own_slice HAL.out.lst, HPL.out])
        clear htk
        go_wp2_with fail
        refine CO.out.mono ?_
        rintro e X ⟨hs', ht', Lx, hLx, rfl, aX, obX⟩
        have HX := Lib.hid (HAw.out.trans aX)
        have H1X := Lib.hid aX
        have HOX := Lib.hid obX
        have HLX := Lib.hid hLx
        have rs := HIN.out.row.aft HX.out
        have HRS := Lib.hid rs
        have fr0 := rs.2.2 0 (by simp)
        have fr1 := rs.2.2 1 (by simp)
        have fr2 := rs.2.2 2 (by simp)
        have c0 := rs.cell (j := 0) rfl
        have c1 := rs.cell (j := 1) rfl
        have c2 := rs.cell (j := 2) rfl
        have cz := rs.1
        clear a0 a1 az CO aX obX hLx rs
        go_wp2_with fail
        have HW6 := Lib.hid (show RefLoadQ w B s hs ht hm ss L o (.returned (.int .i64 0)) (((X.setCell ⟨s, 0, none⟩ (.slice hs'.a o.schemas.length hs'.c)).setCell ⟨s, 1, none⟩ (.slice ht'.a o.tables.length ht'.c)).setCell ⟨s, 2, none⟩ (.slice h.a o.tables.length h.c)) from by
          have hsw := (HIN.out.lt s (List.mem_cons_self ..)).2
          have zV := HV.out.size
          have zA := HA.out.size
          have hll : Lx.length = P.length := by rw [HPL.out, ← HLX.out, List.length_map]
          have k6 : Kb (fun g => g = s) X (((X.setCell ⟨s, 0, none⟩ (.slice hs'.a o.schemas.length hs'.c)).setCell ⟨s, 1, none⟩ (.slice ht'.a o.tables.length ht'.c)).setCell ⟨s, 2, none⟩ (.slice h.a o.tables.length h.c)) := ((Kb.set X s 0 _).trans (Kb.set _ s 1 _)).trans (Kb.set _ s 2 _)
          have v1 : hs'.v = .slice hs'.a o.schemas.length hs'.c := own_slice HOX.out.sch
          have v2 : ht'.v = .slice ht'.a o.tables.length ht'.c := by rw [own_slice HOX.out.tab, hll, HPL.out]
          have r6 : RowAt (((X.setCell ⟨s, 0, none⟩ (.slice hs'.a o.schemas.length hs'.c)).setCell ⟨s, 1, none⟩ (.slice ht'.a o.tables.length ht'.c)).setCell ⟨s, 2, none⟩ (.slice h.a o.tables.length h.c)) s [hs'.v, ht'.v, h.v] := by
            rw [v1, v2, HHV.out]
            exact (((HRS.out.set 0 _ (by simp)).set 1 _ (by simp)).set 2 _ (by simp))
          have al6 := (HAL.out.aft H1X.out).kb k6 (fun g hg e => by omega)
          have ob6 : ObjIn (((X.setCell ⟨s, 0, none⟩ (.slice hs'.a o.schemas.length hs'.c)).setCell ⟨s, 1, none⟩ (.slice ht'.a o.tables.length ht'.c)).setCell ⟨s, 2, none⟩ (.slice h.a o.tables.length h.c)) V.heap.size hs' ht' o.schemas Lx := by
            have h8 := HOX.out.kb k6 (fun g hg e => by have := (HOX.out.lt g hg).1; omega)
            exact ⟨own_down h8.sch zA, own_down h8.tab zA, fun x hx => (h8.each x hx).down zA, h8.nd⟩
          refine .inr ⟨HCK.out, hs', ht', h, List.zipWith mkR Lx P, ?_, ?_, rfl, (Kb.of_aft HX.out).trans k6, ?_, fun g hg => Nat.le_trans zV (all_blk hll al6 ob6 g hg)⟩
          · rw [HSL.out]
            exact zip_s Lx P o.tables (turnS S) (fun t => rfl) HLX.out HPM2.out
          · rw [zip_x Lx P hll]
            exact HLX.out
          · exact RefIn.make (C := V1.heap.size) hll al6 ob6 r6 HIN.out.ge (by have := HIN.out.ge; omega) (by omega) (fun g hg => (HOX.out.lt g hg).1) (fun g hg => (blk_lt HAL.out.lst g hg).2))
        clear fr0 fr1 fr2 c0 c1 c2 cz
        go_wp2_with fail
        go_ret
        exact HW6.out
end
end Go.Proofs.YtiadkchlkdaceaaGreat

namespace Go.Proofs.YtiadkchlkdaceaaGreat
open Go.RowKit Go.Deep
set_option maxRecDepth 100000
set_option linter.unusedVariables false
/-- cells of some blocks were written over -/
structure Ovr (LB : Nat → Prop) (w wr : World) : Prop where
  kb : Kb LB w wr
  fz : ∀ g j, wr.frozen? ⟨g, j, none⟩ = w.frozen? ⟨g, j, none⟩
  has : ∀ g j, (w.cell? ⟨g, j, none⟩).isSome → (wr.cell? ⟨g, j, none⟩).isSome
section
variable {LB : Nat → Prop} {w wr : World}
theorem Ovr.refl (w : World) : Ovr LB w w := ⟨Kb.refl _ _, fun _ _ => rfl, fun _ _ h => h⟩
theorem Ovr.set (h : Ovr LB w wr) {g : Nat} (hg : LB g) (j : Nat) (v : Value) (hc : (wr.cell? ⟨g, j, none⟩).isSome) : Ovr LB w (wr.setCell ⟨g, j, none⟩ v) := by
  refine ⟨h.kb.trans ((Kb.set wr g j v).mono fun k _ e => by rw [e]; exact hg), fun a b => ?_, fun a b hs => ?_⟩
  · rw [World.frozen?_setCell]
    exact h.fz a b
  · by_cases e : (⟨a, b, none⟩ : Addr) = ⟨g, j, none⟩
    · injection e with e1 e2
      subst e1
      subst e2
      obtain ⟨u, hu⟩ := Option.isSome_iff_exists.1 hc
      rw [World.cell?_setCell_same _ _ _ hu]
      rfl
    · rw [World.cell?_setCell_other _ _ _ _ (fun e2 => e e2.symm)]
      exact h.has a b hs
/-- a list of rows whose values were written over: its heads stand -/
theorem Ovr.row {B : Nat} {h : Hd} {R : List ORow} (o : Ovr LB w wr) (r : RowsIn w B h R) (hh : ∀ g ∈ h.blk, ¬ LB g) {k : Nat} (hk : k < R.length) :
    ∃ g, h.a = some ⟨g, 0, none⟩ ∧ g < wr.heap.size ∧ wr.cell? ⟨g, k, none⟩ = some (.slice R[k].h.a R[k].vals.length R[k].h.c) := by
  obtain ⟨g, ha, _, rr⟩ := own_place r.own (by omega)
  have e := flatMap_get ORow.cells 1 (fun _ => rfl) R k 0 hk (by decide)
  rw [Nat.mul_one, Nat.add_zero] at e
  have hlt : k < (R.flatMap ORow.cells).length := by
    rcases Nat.lt_or_ge k (R.flatMap ORow.cells).length with h1 | h1
    · exact h1
    · rw [List.getElem?_eq_none h1] at e; cases e
  have hg : ¬ LB g := hh g (Hd.mem_blk.2 (by unfold Hd.v; rw [ha]; rfl))
  refine ⟨g, ha, Nat.lt_of_lt_of_le rr.1 o.kb.size, o.kb.cell (p := ⟨g, k, none⟩) ?_ hg⟩
  rw [rr.2.1 k hlt, e]
  show some R[k].h.v = _
  rw [own_slice (r.each R[k] (List.getElem_mem hk))]
theorem Ovr.val {B : Nat} {h : Hd} {R : List ORow} (o : Ovr LB w wr) (r : RowsIn w B h R) (hl : ∀ x ∈ R, ∀ g ∈ x.h.blk, LB g) {k n : Nat} (hk : k < R.length) (hn : n < R[k].vals.length) :
    ∃ g, R[k].h.a = some ⟨g, 0, none⟩ ∧ LB g ∧ g < wr.heap.size ∧ (∃ u, wr.cell? ⟨g, n * 3 + 1, none⟩ = some u) ∧ wr.frozen? ⟨g, n * 3 + 1, none⟩ = false := by
  obtain ⟨g, ha, _, rr⟩ := own_place (r.each R[k] (List.getElem_mem hk)) (by omega)
  have hlt : n * 3 + 1 < (R[k].vals.flatMap cellsV).length := by
    rw [flatMap_len (f := cellsV) (size := 3) (fun _ => rfl)]
    omega
  have hg : LB g := hl R[k] (List.getElem_mem hk) g (Hd.mem_blk.2 (by unfold Hd.v; rw [ha]; rfl))
  refine ⟨g, ha, hg, Nat.lt_of_lt_of_le rr.1 o.kb.size, Option.isSome_iff_exists.1 (o.has g _ ?_), (o.fz g _).trans (rr.2.2 _ hlt)⟩
  rw [rr.2.1 _ hlt, List.getElem?_eq_getElem hlt]
  rfl
theorem Ovr.col {B n : Nat} {h : Hd} {l : List Col} (o : Ovr LB w wr) (r : w.ownsRow B 93 3 h.v l.length (l.flatMap colC)) (hl : ∀ g ∈ h.blk, LB g) (hn : n < l.length) :
    ∃ g, h.a = some ⟨g, 0, none⟩ ∧ LB g ∧ g < wr.heap.size ∧ (∃ u, wr.cell? ⟨g, n * 3, none⟩ = some u) ∧ wr.frozen? ⟨g, n * 3, none⟩ = false := by
  obtain ⟨g, ha, _, rr⟩ := own_place r (by omega)
  have hlt : n * 3 < (l.flatMap colC).length := by
    rw [flatMap_len (f := colC) (size := 3) (fun _ => rfl)]
    omega
  have hg : LB g := hl g (Hd.mem_blk.2 (by unfold Hd.v; rw [ha]; rfl))
  refine ⟨g, ha, hg, Nat.lt_of_lt_of_le rr.1 o.kb.size, Option.isSome_iff_exists.1 (o.has g _ ?_), (o.fz g _).trans (rr.2.2 _ hlt)⟩
  rw [rr.2.1 _ hlt, List.getElem?_eq_getElem hlt]
  rfl
end
/-- the blocks of a dump that are written over -/
def leafB (d : ODmp) : List Nat := d.hc.blk ++ d.rows.flatMap (·.h.blk)
theorem leaf_sub {d : ODmp} {g : Nat} (h : g ∈ leafB d) : g ∈ d.blks := by
  unfold ODmp.blks
  rcases List.mem_append.1 h with h | h
  · exact List.mem_append.2 (.inl h)
  · exact List.mem_append.2 (.inr (List.mem_append.2 (.inr h)))
theorem hr_out : ∀ (D : List ODmp), (D.flatMap ODmp.blks).Nodup → ∀ d ∈ D, ∀ g ∈ d.hr.blk, g ∉ D.flatMap leafB
  | [], _, d, hd, g, hg => by cases hd
  | x :: l, hn, d, hd, g, hg => by
    rw [List.flatMap_cons] at hn
    obtain ⟨nx, nl, dj⟩ := List.nodup_append.1 hn
    have hin : ∀ d : ODmp, g ∈ d.hr.blk → g ∈ d.blks := fun d h => List.mem_append.2 (.inr (List.mem_append.2 (.inl h)))
    rw [List.flatMap_cons]
    intro hm
    rcases List.mem_cons.1 hd with rfl | hd
    · rcases List.mem_append.1 hm with hm | hm
      · obtain ⟨n1, n2, d1⟩ := List.nodup_append.1 nx
        obtain ⟨n3, n4, d2⟩ := List.nodup_append.1 n2
        rcases List.mem_append.1 hm with hm | hm
        · exact d1 g hm g (List.mem_append.2 (.inl hg)) rfl
        · exact d2 g hg g hm rfl
      · obtain ⟨y, hy, hm⟩ := List.mem_flatMap.1 hm
        exact dj g (hin _ hg) g (List.mem_flatMap.2 ⟨y, hy, leaf_sub hm⟩) rfl
    · rcases List.mem_append.1 hm with hm | hm
      · exact dj g (leaf_sub hm) g (List.mem_flatMap.2 ⟨d, hd, hin _ hg⟩) rfl
      · exact hr_out l nl d hd g hg hm
theorem dmp_at4 {w : World} {B : Nat} {h : Hd} {D : List ODmp} (hd : DmpsIn w B h D) {k : Nat} (hk : k < D.length) :
    ∃ g, h.a = some ⟨g, 0, none⟩ ∧ g < w.heap.size ∧ g ∈ h.blk ∧ w.cell? ⟨g, k * 4 + 2, none⟩ = some (.slice D[k].hc.a D[k].cols.length D[k].hc.c) ∧ w.cell? ⟨g, k * 4 + 3, none⟩ = some (.slice D[k].hr.a D[k].rows.length D[k].hr.c) := by
  obtain ⟨g, ha, _, hr⟩ := own_place hd.lst (by omega)
  have hl : ∀ d : ODmp, d.cells.length = 4 := fun d => rfl
  have q : ∀ j u, j < 4 → D[k].cells[j]? = some u → w.cell? ⟨g, k * 4 + j, none⟩ = some u := fun j u hj hu => by
    have e := flatMap_get ODmp.cells 4 hl D k j hk hj
    rw [hu] at e
    have hlt : k * 4 + j < (D.flatMap ODmp.cells).length := (List.getElem?_eq_some_iff.1 e).1
    rw [hr.2.1 _ hlt, e]
  have hdk := hd.each _ (List.getElem_mem hk)
  refine ⟨g, ha, hr.1, Hd.mem_blk.2 (by unfold Hd.v; rw [ha]; rfl), q 2 _ (by omega) ?_, q 3 _ (by omega) ?_⟩
  · show some D[k].hc.v = _
    rw [own_slice hdk.col]
  · show some D[k].hr.v = _
    rw [own_slice hdk.row.own]
set_option maxHeartbeats 8000000 in
theorem over12 (B : Nat) (h : Hd) (D : List ODmp) (w : World) (hd : DmpsIn w B h D) (hl : D.length ≤ 1000000 ∧ ∀ d ∈ D, d.rows.length ≤ 1000000 ∧ d.cols.length ≤ 1000000 ∧ ∀ o ∈ d.rows, o.vals.length ≤ 1000000) :
    Calls Tryz.prog 17 #[.slice h.a D.length h.c] w fun e w' => e = .returned (.tuple #[]) ∧ Kb (fun g => B ≤ g) w w' := by
  obtain ⟨LB, hLB⟩ : ∃ LB : Nat → Prop, LB = fun g => g ∈ D.flatMap leafB := ⟨_, rfl⟩
  have nd := List.nodup_append.1 hd.nd
  have hLh : ∀ g ∈ h.blk, ¬ LB g := fun g hg hm => by
    rw [hLB] at hm
    obtain ⟨y, hy, hm⟩ := List.mem_flatMap.1 hm
    exact nd.2.2 g hg g (List.mem_flatMap.2 ⟨y, hy, leaf_sub hm⟩) rfl
  have hLr : ∀ d ∈ D, ∀ g ∈ d.hr.blk, ¬ LB g := fun d hdm g hg hm => by
    rw [hLB] at hm
    exact hr_out D nd.2.1 d hdm g hg hm
  have hLo : ∀ d ∈ D, ∀ x ∈ d.rows, ∀ g ∈ x.h.blk, LB g := fun d hdm x hx g hg => by
    rw [hLB]
    exact List.mem_flatMap.2 ⟨d, hdm, List.mem_append.2 (.inr (List.mem_flatMap.2 ⟨x, hx, hg⟩))⟩
  have hLc : ∀ d ∈ D, ∀ g ∈ d.hc.blk, LB g := fun d hdm g hg => by
    rw [hLB]
    exact List.mem_flatMap.2 ⟨d, hdm, List.mem_append.2 (.inl hg)⟩
  have hLBB : ∀ g, LB g → B ≤ g := fun g hg => by
    rw [hLB] at hg
    obtain ⟨y, hy, hg⟩ := List.mem_flatMap.1 hg
    exact ((hd.each y hy).lt g (leaf_sub hg)).1
  have HD := Lib.hid hd
  have HLH := Lib.hid hLh
  have HLR := Lib.hid hLr
  have HLO := Lib.hid hLo
  have HLC := Lib.hid hLc
  have HLB := Lib.hid hLBB
  have HL := Lib.hid hl.2
  have hl1 := hl.1
  clear hLB nd hLh hLr hLo hLc hLBB hd hl
  go_enter Tryz.func17, Tryz.ntmps17
  go_wp2_with fail
  go_loopw [2] (fun i wr => ∃ k : Nat, k ≤ D.length ∧ i = .int .i64 k ∧ Ovr LB w wr) (fun i _ => D.length - (intOf i).toNat)
  case atStart => exact ⟨0, Nat.zero_le _, rfl, Ovr.refl _⟩
  case round =>
    obtain ⟨k, hk, rfl, ha⟩ := hrel
    have HA := Lib.hid ha
    clear ha
    by_cases hlt : k < D.length
    · obtain ⟨g, hh, hg, hgb, d2, d3⟩ := dmp_at4 HD.out hlt
      have hdm := List.getElem_mem hlt
      obtain ⟨d, hdk⟩ : ∃ d, D[k] = d := ⟨_, rfl⟩
      rw [hdk] at d2 d3 hdm
      have HM := Lib.hid hdm
      have hls := HL.out d hdm
      have KH := Lib.hid (show ∀ V, Ovr LB w V → (g < V.heap.size ∧ V.cell? ⟨g, k * 4 + 2, none⟩ = some (.slice d.hc.a d.cols.length d.hc.c) ∧ V.cell? ⟨g, k * 4 + 3, none⟩ = some (.slice d.hr.a d.rows.length d.hr.c)) from fun V a => ⟨Nat.lt_of_lt_of_le hg a.kb.size, a.kb.cell (p := ⟨g, _, none⟩) d2 (HLH.out g hgb), a.kb.cell (p := ⟨g, _, none⟩) d3 (HLH.out g hgb)⟩)
      have hls1 := hls.1
      have hls2 := hls.2.1
      have HLV := Lib.hid hls.2.2
      have RI := Lib.hid (HD.out.each d hdm).row
      have CI := Lib.hid (HD.out.each d hdm).col
      rw [hh]
      clear hdk hdm hh hls d2 d3 hg hgb
      go_wp2_with fail
      go_loopw [3] (fun i wr => ∃ n : Nat, n ≤ d.rows.length ∧ i = .int .i64 n ∧ Ovr LB w wr) (fun i _ => d.rows.length - (intOf i).toNat)
      case atStart => exact ⟨0, Nat.zero_le _, rfl, HA.out⟩
      case round =>
        obtain ⟨n, hn, rfl, ha⟩ := hrel
        have HB := Lib.hid ha
        clear ha
        obtain ⟨hg, d2, d3⟩ := KH.out wr HB.out
        by_cases hltn : n < d.rows.length
        · have hom := List.getElem_mem hltn
          obtain ⟨ow, how⟩ : ∃ ow, d.rows[n] = ow := ⟨_, rfl⟩
          rw [how] at hom
          have HOM := Lib.hid hom
          have hlv := HLV.out ow hom
          have KR := Lib.hid (show ∀ V, Ovr LB w V → ∃ g2, d.hr.a = some ⟨g2, 0, none⟩ ∧ g2 < V.heap.size ∧ V.cell? ⟨g2, n, none⟩ = some (.slice ow.h.a ow.vals.length ow.h.c) from fun V a => by
            have h8 := a.row RI.out (HLR.out d HM.out) hltn
            rw [how] at h8
            exact h8)
          have KV := Lib.hid (show ∀ V, Ovr LB w V → ∀ m, m < ow.vals.length → ∃ g2, ow.h.a = some ⟨g2, 0, none⟩ ∧ LB g2 ∧ g2 < V.heap.size ∧ (∃ u, V.cell? ⟨g2, m * 3 + 1, none⟩ = some u) ∧ V.frozen? ⟨g2, m * 3 + 1, none⟩ = false from fun V a m hm => by
            have h8 := a.val RI.out (HLO.out d HM.out) hltn (n := m) (by rw [how]; exact hm)
            rw [how] at h8
            exact h8)
          clear how hom
          go_wp2_with fail
          go_loopw [4] (fun i wr => ∃ m : Nat, m ≤ ow.vals.length ∧ i = .int .i64 m ∧ Ovr LB w wr) (fun i _ => ow.vals.length - (intOf i).toNat)
          case atStart => exact ⟨0, Nat.zero_le _, rfl, HB.out⟩
          case round =>
            obtain ⟨m, hm, rfl, ha⟩ := hrel
            have HC := Lib.hid ha
            clear ha d2 d3 hg
            obtain ⟨hg, d2, d3⟩ := KH.out wr HC.out
            obtain ⟨g2, hg2a, hg2, e2⟩ := KR.out wr HC.out
            rw [hg2a] at d3
            clear hg2a
            by_cases hltm : m < ow.vals.length
            · obtain ⟨g3, hg3a, hl3, hg3, ⟨u3, f3⟩, z3⟩ := KV.out wr HC.out m hltm
              rw [hg3a] at e2
              have HC2 := Lib.hid (HC.out.set hl3 (m * 3 + 1) (.int .i64 77) (by rw [f3]; rfl))
              clear hg3a
              go_wp2_with fail
              go_roundw
              case rel => exact ⟨m + 1, by omega, by go_num, HC2.out⟩
              case measure => simp [intOf]; omega
            · go_wp2_with fail
              go_roundw
              case rel => exact ⟨n + 1, by omega, by go_num, HC.out⟩
              case measure => simp [intOf]; omega
        · go_wp2_with fail
          go_loopw [5] (fun i wr => ∃ m : Nat, m ≤ d.cols.length ∧ i = .int .i64 m ∧ Ovr LB w wr) (fun i _ => d.cols.length - (intOf i).toNat)
          case atStart => exact ⟨0, Nat.zero_le _, rfl, HB.out⟩
          case round =>
            obtain ⟨m, hm, rfl, ha⟩ := hrel
            have HC := Lib.hid ha
            clear ha d2 d3 hg
            obtain ⟨hg, d2, d3⟩ := KH.out wr HC.out
            by_cases hltm : m < d.cols.length
            · obtain ⟨g3, hg3a, hl3, hg3, ⟨u3, f3⟩, z3⟩ := HC.out.col CI.out (HLC.out d HM.out) hltm
              rw [hg3a] at d2
              have HC2 := Lib.hid (HC.out.set hl3 (m * 3) (.string ⟨#[111, 118, 101, 114]⟩) (by rw [f3]; rfl))
              clear hg3a
              go_wp2_with fail
              go_roundw
              case rel => exact ⟨m + 1, by omega, by go_num, HC2.out⟩
              case measure => simp [intOf]; omega
            · go_wp2_with fail
              go_roundw
              case rel => exact ⟨k + 1, by omega, by go_num, HC.out⟩
              case measure => simp [intOf]; omega
    · go_wp2_with fail
      go_end0
      exact ⟨rfl, HA.out.kb.mono fun g _ hg => HLB.out g hg⟩
end Go.Proofs.YtiadkchlkdaceaaGreat

