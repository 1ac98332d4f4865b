/- Contracts of the program, part 13. -/
import Derived.Deep.DeepMust
import Derived.Lib.AppendIntMem
import Derived.Recover
import Derived.Defers
import Derived.Deep.Cut
import Derived.Lib.SplitLaws
import Derived.Lib.CountLaws
import Derived.Deep.RegionLaw
import Derived.RegionDies
import Derived.Deep.AppendLies
import Derived.Laws.EntriesVeiled
import Derived.WalkKit
import Derived.WalkSpells
import Derived.WalkLawsBesides
import Derived.Laws.Cells
import Derived.Laws.IdiomCopy
import Derived.Test.YtbdanlipghhgpaaGreatDoorRows
import Derived.Lib.Bytealg
import Derived.Lib.Hide
import Derived.ProofKit
import Derived.OpenShut
import Derived.Deep.Slices
import Derived.ChangeOld
import Derived.SizedLaws
import Derived.Deep.QuietTactic
import Derived.BigQuiet
import Derived.Below
import Derived.Deep.Draws
import Derived.StillTailTactics
import Derived.ShutString
import Derived.Lib.Atoi
import Derived.Lib.ItoaNum
import Derived.Lib.Split
import Derived.Lib.CutLaws
import Derived.Lib.Strings
import Derived.Lib.SlTrimSet
import Derived.Deep.Upon
import Derived.OwnWalk
import Derived.Laws.AppendOwn
import Derived.Shelf.Strings.Builder1
import Derived.Shelf.Strings.Builder2
import Derived.Shelf.Strings.OnBuilder
import Derived.Shelf.Strings.Trim
import Derived.Shelf.Small.Utf8
import Derived.Shelf.Small.Strs
import Derived.Shelf.Small.Wraps
import Derived.Shelf.Strconv.Atoi
import Derived.Shelf.Strconv.Itoa0
import Derived.Shelf.Strconv.Itoa1
import Derived.Shelf.LaysM
import Derived.Shelf.Strconv.Itoa2
import Derived.Shelf.Strconv.Itoa3
import Derived.Shelf.Strings.Search1
import Derived.Shelf.Strings.Search2
import Derived.Shelf.Strings.Search3
import Derived.Shelf.Strings.Cut
import Derived.Shelf.Strings.Count
import Derived.Shelf.Strings.Shaped
import Derived.Shelf.Strings.Prefix
import Derived.Shelf.Strings.Split
import Derived.Shelf.Strings.Runes
import Derived.Shelf.Strings.AsciiSet
import Derived.Shelf.Unicode.DecodeSlow
import Derived.Shelf.Slices.Equal
import Derived.Shelf.Slices.Empties2
import Derived.Shelf.Strings.SlTrimAscii
import Derived.Test.YtbdanlipghhgpaaGreatDoorProg
import Derived.Test.YtbdanlipghhgpaaGreatDoorPartB1
import Derived.Test.YtbdanlipghhgpaaGreatDoorPartB2
import Derived.Test.YtbdanlipghhgpaaGreatDoorPartB3
import Derived.Test.YtbdanlipghhgpaaGreatDoorPartB4
import Derived.Test.YtbdanlipghhgpaaGreatDoorPartB5
import Derived.Test.YtbdanlipghhgpaaGreatDoorPartB6
import Derived.Test.YtbdanlipghhgpaaGreatDoorPartB7
import Derived.Test.YtbdanlipghhgpaaGreatDoorPartB8
import Derived.Test.YtbdanlipghhgpaaGreatDoorPartB9
import Derived.Test.YtbdanlipghhgpaaGreatDoorPartB10
import Derived.Test.YtbdanlipghhgpaaGreatDoorPartB11
import Derived.Test.YtbdanlipghhgpaaGreatDoorPartB12
namespace Go.Proofs.YtbdanlipghhgpaaGreatDoor
open Go.RowKit Go.Deep
set_option maxRecDepth 100000
set_option linter.unusedVariables false
structure SmO (r : ROp) : Prop where
  role : Small r.role.size
  schema : Small r.schema.size
  table : Small r.table.size
  col : Small r.col.size
  text : Small r.v.text.size
theorem isEmp_eqS (s : ByteArray) : s.toList.isEmpty = eqS s zBy := by
  unfold eqS zBy
  cases h : s.toList <;> simp
set_option maxHeartbeats 4000000 in
theorem row_k1 (w0 : World) (Q : List (Nat × Obj)) (b : Nat) (L : Ws) (r : ROp) (A3 : Option Addr) (k3 : Nat) (w : World) (h : LyS w0 Q b L w) (ht : TabW w0) (sm : SmO r) (hn : L.length ≤ 100) (hv : SlAt w0 3 ValR A3 k3 r.row) (hlr : r.row.length ≤ 4100) (hk : r.kind = 1) :
    Calls Tryz.prog 64 #[.pointer (some ⟨b, 0, none⟩), .agg #[.int .i64 r.kind, .string r.role, .string r.schema, .string r.table, .slice A3 r.row.length k3, .string r.col, .int .i64 r.v.kind, .int .i64 r.v.int, .string r.v.text]] w (LyQ w0 Q b L (rowL r)) := by
  have b1 : (r.kind == 1) = true := by simp [hk]
  have b1n : (r.kind != 1) = false := by simp [hk]
  have HK := Lib.hid hk
  clear hk
  have HT := Lib.hid ht
  have hsm := Lib.hid sm
  have HV := Lib.hid hv
  clear ht sm hv
  rcases nms_cases [r.role, r.schema, r.table] with q1 | q1
  · have H0 := Lib.hid (h.push (.cells #[.int .i64 r.kind, .string r.role, .string r.schema, .string r.table, .slice A3 r.row.length k3, .string r.col, .int .i64 r.v.kind, .int .i64 r.v.int, .string r.v.text] 41))
    have HM0 := Lib.hid (show ∀ L' V, LyS w0 ((w.heap.size, .cells #[.int .i64 r.kind, .string r.role, .string r.schema, .string r.table, .slice A3 r.row.length k3, .string r.col, .int .i64 r.v.kind, .int .i64 r.v.int, .string r.v.text] 41) :: Q) b L' V → RowAt V (w.heap.size) [.int .i64 r.kind, .string r.role, .string r.schema, .string r.table, .slice A3 r.row.length k3, .string r.col, .int .i64 r.v.kind, .int .i64 r.v.int, .string r.v.text] from fun L' V h => h.same List.mem_cons_self)
    have HE0 := Lib.hid (show w.heap.size + 1 = (w.alloc (.cells #[.int .i64 r.kind, .string r.role, .string r.schema, .string r.table, .slice A3 r.row.length k3, .string r.col, .int .i64 r.v.kind, .int .i64 r.v.int, .string r.v.text] 41)).heap.size from by simp)
    have HZ0 := Lib.hid (show (L).length ≤ 40000 from by (try simp only [List.length_append, List.length_cons, List.length_nil, List.length_map]); omega)
    have HZ1 := Lib.hid (show (L ++ [(⟨#[105, 110, 115, 101, 114, 116]⟩ : ByteArray)]).length ≤ 45000 from by (try simp only [List.length_append, List.length_cons, List.length_nil, List.length_map]); omega)
    have HQ1 := Lib.hid q1
    have HS := Lib.hid (show rowL r = none from by simp [rowL, andL, HK.out, b_insert, HQ1.out])
    clear h q1
    go_enter Tryz.func64, Tryz.ntmps64
    go_wp2_with (first
      | (go_at_call 61; (with_reducible refine (lay2 w0 _ b _ _ _ _ H0.out HZ0.out HE0.out).mono ?_); rintro e w1 ⟨rfl, h⟩; have r0b0 := HM0.out _ _ h; have yb0b0 := r0b0.1; have y0b0c1 := r0b0.cell (j := 1) rfl; have y0b0c2 := r0b0.cell (j := 2) rfl; have y0b0c3 := r0b0.cell (j := 3) rfl; clear r0b0; have H1 := Lib.hid h; clear h)
      | (go_at_call 91; (with_reducible refine (nam3 w0 _ b _ _ _ _ _ _ H1.out HT.out HZ1.out rfl hsm.out.role hsm.out.schema hsm.out.table).mono ?_); rintro e w2 h; rw [HQ1.out] at h; obtain ⟨he, h⟩ := h; have H2 := Lib.hid h; clear h; unfold NoL at he; subst he))
    rw [HS.out]
    exact ⟨rfl, rfl, H2.out⟩
  · rcases vals_cases r.row with q2 | q2
    · have H0 := Lib.hid (h.push (.cells #[.int .i64 r.kind, .string r.role, .string r.schema, .string r.table, .slice A3 r.row.length k3, .string r.col, .int .i64 r.v.kind, .int .i64 r.v.int, .string r.v.text] 41))
      have HM0 := Lib.hid (show ∀ L' V, LyS w0 ((w.heap.size, .cells #[.int .i64 r.kind, .string r.role, .string r.schema, .string r.table, .slice A3 r.row.length k3, .string r.col, .int .i64 r.v.kind, .int .i64 r.v.int, .string r.v.text] 41) :: Q) b L' V → RowAt V (w.heap.size) [.int .i64 r.kind, .string r.role, .string r.schema, .string r.table, .slice A3 r.row.length k3, .string r.col, .int .i64 r.v.kind, .int .i64 r.v.int, .string r.v.text] from fun L' V h => h.same List.mem_cons_self)
      have HE0 := Lib.hid (show w.heap.size + 1 = (w.alloc (.cells #[.int .i64 r.kind, .string r.role, .string r.schema, .string r.table, .slice A3 r.row.length k3, .string r.col, .int .i64 r.v.kind, .int .i64 r.v.int, .string r.v.text] 41)).heap.size from by simp)
      have HZ0 := Lib.hid (show (L).length ≤ 40000 from by (try simp only [List.length_append, List.length_cons, List.length_nil, List.length_map]); omega)
      have HZ1 := Lib.hid (show (L ++ [(⟨#[105, 110, 115, 101, 114, 116]⟩ : ByteArray)]).length ≤ 45000 from by (try simp only [List.length_append, List.length_cons, List.length_nil, List.length_map]); omega)
      have HQ1 := Lib.hid q1
      have HZ2 := Lib.hid (show (L ++ [(⟨#[105, 110, 115, 101, 114, 116]⟩ : ByteArray)] ++ [r.role, r.schema, r.table]).length + r.row.length ≤ 50000 from by (try simp only [List.length_append, List.length_cons, List.length_nil, List.length_map]); omega)
      have HQ2 := Lib.hid q2
      have HS := Lib.hid (show rowL r = none from by simp [rowL, andL, HK.out, b_insert, HQ1.out, HQ2.out])
      clear h q1 q2
      go_enter Tryz.func64, Tryz.ntmps64
      go_wp2_with (first
        | (go_at_call 61; (with_reducible refine (lay2 w0 _ b _ _ _ _ H0.out HZ0.out HE0.out).mono ?_); rintro e w1 ⟨rfl, h⟩; have r0b0 := HM0.out _ _ h; have yb0b0 := r0b0.1; have y0b0c1 := r0b0.cell (j := 1) rfl; have y0b0c2 := r0b0.cell (j := 2) rfl; have y0b0c3 := r0b0.cell (j := 3) rfl; clear r0b0; have H1 := Lib.hid h; clear h)
        | (go_at_call 91; (with_reducible refine (nam3 w0 _ b _ _ _ _ _ _ H1.out HT.out HZ1.out rfl hsm.out.role hsm.out.schema hsm.out.table).mono ?_); rintro e w2 h; rw [HQ1.out] at h; obtain ⟨rfl, h⟩ := h; have r1b0 := HM0.out _ _ h; have yb1b0 := r1b0.1; have y1b0c0 := r1b0.cell (j := 0) rfl; have y1b0c5 := r1b0.cell (j := 5) rfl; have y1b0c6 := r1b0.cell (j := 6) rfl; have y1b0c7 := r1b0.cell (j := 7) rfl; have y1b0c8 := r1b0.cell (j := 8) rfl; have y1b0c4 := r1b0.cell (j := 4) rfl; clear r1b0; have H2 := Lib.hid h; clear h)
        | (go_at_call 96; (with_reducible refine (values_in w0 _ b _ r.row A3 k3 _ H2.out (fun L' V h => vals_aft h.aft HV.out) HT.out HZ2.out).mono ?_); rintro e w3 h; rw [HQ2.out] at h; obtain ⟨he, h⟩ := h; have H3 := Lib.hid h; clear h; unfold NoL at he; subst he))
      rw [HS.out]
      exact ⟨rfl, rfl, H3.out⟩
    · have H0 := Lib.hid (h.push (.cells #[.int .i64 r.kind, .string r.role, .string r.schema, .string r.table, .slice A3 r.row.length k3, .string r.col, .int .i64 r.v.kind, .int .i64 r.v.int, .string r.v.text] 41))
      have HM0 := Lib.hid (show ∀ L' V, LyS w0 ((w.heap.size, .cells #[.int .i64 r.kind, .string r.role, .string r.schema, .string r.table, .slice A3 r.row.length k3, .string r.col, .int .i64 r.v.kind, .int .i64 r.v.int, .string r.v.text] 41) :: Q) b L' V → RowAt V (w.heap.size) [.int .i64 r.kind, .string r.role, .string r.schema, .string r.table, .slice A3 r.row.length k3, .string r.col, .int .i64 r.v.kind, .int .i64 r.v.int, .string r.v.text] from fun L' V h => h.same List.mem_cons_self)
      have HE0 := Lib.hid (show w.heap.size + 1 = (w.alloc (.cells #[.int .i64 r.kind, .string r.role, .string r.schema, .string r.table, .slice A3 r.row.length k3, .string r.col, .int .i64 r.v.kind, .int .i64 r.v.int, .string r.v.text] 41)).heap.size from by simp)
      have HZ0 := Lib.hid (show (L).length ≤ 40000 from by (try simp only [List.length_append, List.length_cons, List.length_nil, List.length_map]); omega)
      have HZ1 := Lib.hid (show (L ++ [(⟨#[105, 110, 115, 101, 114, 116]⟩ : ByteArray)]).length ≤ 45000 from by (try simp only [List.length_append, List.length_cons, List.length_nil, List.length_map]); omega)
      have HQ1 := Lib.hid q1
      have HZ2 := Lib.hid (show (L ++ [(⟨#[105, 110, 115, 101, 114, 116]⟩ : ByteArray)] ++ [r.role, r.schema, r.table]).length + r.row.length ≤ 50000 from by (try simp only [List.length_append, List.length_cons, List.length_nil, List.length_map]); omega)
      have HQ2 := Lib.hid q2
      have HS := Lib.hid (show rowL r = some ([(⟨#[105, 110, 115, 101, 114, 116]⟩ : ByteArray)] ++ ([r.role, r.schema, r.table] ++ (List.map valT r.row))) from by simp [rowL, andL, HK.out, b_insert, HQ1.out, HQ2.out])
      clear h q1 q2
      go_enter Tryz.func64, Tryz.ntmps64
      go_wp2_with (first
        | (go_at_call 61; (with_reducible refine (lay2 w0 _ b _ _ _ _ H0.out HZ0.out HE0.out).mono ?_); rintro e w1 ⟨rfl, h⟩; have r0b0 := HM0.out _ _ h; have yb0b0 := r0b0.1; have y0b0c1 := r0b0.cell (j := 1) rfl; have y0b0c2 := r0b0.cell (j := 2) rfl; have y0b0c3 := r0b0.cell (j := 3) rfl; clear r0b0; have H1 := Lib.hid h; clear h)
        | (go_at_call 91; (with_reducible refine (nam3 w0 _ b _ _ _ _ _ _ H1.out HT.out HZ1.out rfl hsm.out.role hsm.out.schema hsm.out.table).mono ?_); rintro e w2 h; rw [HQ1.out] at h; obtain ⟨rfl, h⟩ := h; have r1b0 := HM0.out _ _ h; have yb1b0 := r1b0.1; have y1b0c0 := r1b0.cell (j := 0) rfl; have y1b0c5 := r1b0.cell (j := 5) rfl; have y1b0c6 := r1b0.cell (j := 6) rfl; have y1b0c7 := r1b0.cell (j := 7) rfl; have y1b0c8 := r1b0.cell (j := 8) rfl; have y1b0c4 := r1b0.cell (j := 4) rfl; clear r1b0; have H2 := Lib.hid h; clear h)
        | (go_at_call 96; (with_reducible refine (values_in w0 _ b _ r.row A3 k3 _ H2.out (fun L' V h => vals_aft h.aft HV.out) HT.out HZ2.out).mono ?_); rintro e w3 h; rw [HQ2.out] at h; obtain ⟨rfl, h⟩ := h; have H3 := Lib.hid h; clear h))
      go_end0
      rw [HS.out]
      exact ⟨rfl, LyS.conv (by first | (simp only [List.append_assoc]; rfl) | simp only [List.append_assoc]) H3.out.pop⟩
set_option maxHeartbeats 4000000 in
theorem row_k2c (w0 : World) (Q : List (Nat × Obj)) (b : Nat) (L : Ws) (r : ROp) (A3 : Option Addr) (k3 : Nat) (w : World) (h : LyS w0 Q b L w) (ht : TabW w0) (sm : SmO r) (hn : L.length ≤ 100) (hv : SlAt w0 3 ValR A3 k3 r.row) (hlr : r.row.length ≤ 4100) (hk : r.kind = 2) (hc : eqS r.col zBy = false) :
    Calls Tryz.prog 64 #[.pointer (some ⟨b, 0, none⟩), .agg #[.int .i64 r.kind, .string r.role, .string r.schema, .string r.table, .slice A3 r.row.length k3, .string r.col, .int .i64 r.v.kind, .int .i64 r.v.int, .string r.v.text]] w (LyQ w0 Q b L (rowL r)) := by
  have b1 : (r.kind == 1) = false := by simp [hk]
  have b1n : (r.kind != 1) = true := by simp [hk]
  have b2 : (r.kind == 2) = true := by simp [hk]
  have HK := Lib.hid hk
  clear hk
  have e1 : r.col.toList.isEmpty = false := (isEmp_eqS r.col).trans hc
  have HE := Lib.hid hc
  clear hc
  have HT := Lib.hid ht
  have hsm := Lib.hid sm
  have HV := Lib.hid hv
  clear ht sm hv
  rcases nms_cases [r.role, r.schema, r.table] with q1 | q1
  · have H0 := Lib.hid (h.push (.cells #[.int .i64 r.kind, .string r.role, .string r.schema, .string r.table, .slice A3 r.row.length k3, .string r.col, .int .i64 r.v.kind, .int .i64 r.v.int, .string r.v.text] 41))
    have HM0 := Lib.hid (show ∀ L' V, LyS w0 ((w.heap.size, .cells #[.int .i64 r.kind, .string r.role, .string r.schema, .string r.table, .slice A3 r.row.length k3, .string r.col, .int .i64 r.v.kind, .int .i64 r.v.int, .string r.v.text] 41) :: Q) b L' V → RowAt V (w.heap.size) [.int .i64 r.kind, .string r.role, .string r.schema, .string r.table, .slice A3 r.row.length k3, .string r.col, .int .i64 r.v.kind, .int .i64 r.v.int, .string r.v.text] from fun L' V h => h.same List.mem_cons_self)
    have HE0 := Lib.hid (show w.heap.size + 1 = (w.alloc (.cells #[.int .i64 r.kind, .string r.role, .string r.schema, .string r.table, .slice A3 r.row.length k3, .string r.col, .int .i64 r.v.kind, .int .i64 r.v.int, .string r.v.text] 41)).heap.size from by simp)
    have HZ0 := Lib.hid (show (L).length ≤ 40000 from by (try simp only [List.length_append, List.length_cons, List.length_nil, List.length_map]); omega)
    have HZ1 := Lib.hid (show (L ++ [(⟨#[114, 101, 109, 111, 118, 101]⟩ : ByteArray)]).length ≤ 45000 from by (try simp only [List.length_append, List.length_cons, List.length_nil, List.length_map]); omega)
    have HQ1 := Lib.hid q1
    have HS := Lib.hid (show rowL r = none from by simp [rowL, andL, HK.out, HE.out, b_remove, HQ1.out])
    clear h q1
    go_enter Tryz.func64, Tryz.ntmps64
    go_wp2_with (first
      | (go_at_call 61; (with_reducible refine (lay2 w0 _ b _ _ _ _ H0.out HZ0.out HE0.out).mono ?_); rintro e w1 ⟨rfl, h⟩; have r0b0 := HM0.out _ _ h; have yb0b0 := r0b0.1; have y0b0c1 := r0b0.cell (j := 1) rfl; have y0b0c2 := r0b0.cell (j := 2) rfl; have y0b0c3 := r0b0.cell (j := 3) rfl; clear r0b0; have H1 := Lib.hid h; clear h)
      | (go_at_call 91; (with_reducible refine (nam3 w0 _ b _ _ _ _ _ _ H1.out HT.out HZ1.out rfl hsm.out.role hsm.out.schema hsm.out.table).mono ?_); rintro e w2 h; rw [HQ1.out] at h; obtain ⟨he, h⟩ := h; have H2 := Lib.hid h; clear h; unfold NoL at he; subst he))
    rw [HS.out]
    exact ⟨rfl, rfl, H2.out⟩
  · rcases nms_cases [r.col] with q2 | q2
    · have H0 := Lib.hid (h.push (.cells #[.int .i64 r.kind, .string r.role, .string r.schema, .string r.table, .slice A3 r.row.length k3, .string r.col, .int .i64 r.v.kind, .int .i64 r.v.int, .string r.v.text] 41))
      have HM0 := Lib.hid (show ∀ L' V, LyS w0 ((w.heap.size, .cells #[.int .i64 r.kind, .string r.role, .string r.schema, .string r.table, .slice A3 r.row.length k3, .string r.col, .int .i64 r.v.kind, .int .i64 r.v.int, .string r.v.text] 41) :: Q) b L' V → RowAt V (w.heap.size) [.int .i64 r.kind, .string r.role, .string r.schema, .string r.table, .slice A3 r.row.length k3, .string r.col, .int .i64 r.v.kind, .int .i64 r.v.int, .string r.v.text] from fun L' V h => h.same List.mem_cons_self)
      have HE0 := Lib.hid (show w.heap.size + 1 = (w.alloc (.cells #[.int .i64 r.kind, .string r.role, .string r.schema, .string r.table, .slice A3 r.row.length k3, .string r.col, .int .i64 r.v.kind, .int .i64 r.v.int, .string r.v.text] 41)).heap.size from by simp)
      have HZ0 := Lib.hid (show (L).length ≤ 40000 from by (try simp only [List.length_append, List.length_cons, List.length_nil, List.length_map]); omega)
      have HZ1 := Lib.hid (show (L ++ [(⟨#[114, 101, 109, 111, 118, 101]⟩ : ByteArray)]).length ≤ 45000 from by (try simp only [List.length_append, List.length_cons, List.length_nil, List.length_map]); omega)
      have HQ1 := Lib.hid q1
      have HZ2 := Lib.hid (show (L ++ [(⟨#[114, 101, 109, 111, 118, 101]⟩ : ByteArray)] ++ [r.role, r.schema, r.table]).length ≤ 45000 from by (try simp only [List.length_append, List.length_cons, List.length_nil, List.length_map]); omega)
      have HQ2 := Lib.hid q2
      have HS := Lib.hid (show rowL r = none from by simp [rowL, andL, HK.out, HE.out, b_remove, HQ1.out, HQ2.out])
      clear h q1 q2
      go_enter Tryz.func64, Tryz.ntmps64
      go_wp2_with (first
        | (go_at_call 61; (with_reducible refine (lay2 w0 _ b _ _ _ _ H0.out HZ0.out HE0.out).mono ?_); rintro e w1 ⟨rfl, h⟩; have r0b0 := HM0.out _ _ h; have yb0b0 := r0b0.1; have y0b0c1 := r0b0.cell (j := 1) rfl; have y0b0c2 := r0b0.cell (j := 2) rfl; have y0b0c3 := r0b0.cell (j := 3) rfl; clear r0b0; have H1 := Lib.hid h; clear h)
        | (go_at_call 91; (with_reducible refine (nam3 w0 _ b _ _ _ _ _ _ H1.out HT.out HZ1.out rfl hsm.out.role hsm.out.schema hsm.out.table).mono ?_); rintro e w2 h; rw [HQ1.out] at h; obtain ⟨rfl, h⟩ := h; have r1b0 := HM0.out _ _ h; have yb1b0 := r1b0.1; have y1b0c0 := r1b0.cell (j := 0) rfl; have y1b0c5 := r1b0.cell (j := 5) rfl; have y1b0c6 := r1b0.cell (j := 6) rfl; have y1b0c7 := r1b0.cell (j := 7) rfl; have y1b0c8 := r1b0.cell (j := 8) rfl; have y1b0c4 := r1b0.cell (j := 4) rfl; clear r1b0; have H2 := Lib.hid h; clear h)
        | (go_at_call 91; (with_reducible refine (nam1 w0 _ b _ _ _ _ H2.out HT.out HZ2.out rfl hsm.out.col).mono ?_); rintro e w3 h; rw [HQ2.out] at h; obtain ⟨he, h⟩ := h; have H3 := Lib.hid h; clear h; unfold NoL at he; subst he))
      rw [HS.out]
      exact ⟨rfl, rfl, H3.out⟩
    · rcases vals_cases [r.v] with q3 | q3
      · have H0 := Lib.hid (h.push (.cells #[.int .i64 r.kind, .string r.role, .string r.schema, .string r.table, .slice A3 r.row.length k3, .string r.col, .int .i64 r.v.kind, .int .i64 r.v.int, .string r.v.text] 41))
        have HM0 := Lib.hid (show ∀ L' V, LyS w0 ((w.heap.size, .cells #[.int .i64 r.kind, .string r.role, .string r.schema, .string r.table, .slice A3 r.row.length k3, .string r.col, .int .i64 r.v.kind, .int .i64 r.v.int, .string r.v.text] 41) :: Q) b L' V → RowAt V (w.heap.size) [.int .i64 r.kind, .string r.role, .string r.schema, .string r.table, .slice A3 r.row.length k3, .string r.col, .int .i64 r.v.kind, .int .i64 r.v.int, .string r.v.text] from fun L' V h => h.same List.mem_cons_self)
        have HE0 := Lib.hid (show w.heap.size + 1 = (w.alloc (.cells #[.int .i64 r.kind, .string r.role, .string r.schema, .string r.table, .slice A3 r.row.length k3, .string r.col, .int .i64 r.v.kind, .int .i64 r.v.int, .string r.v.text] 41)).heap.size from by simp)
        have HZ0 := Lib.hid (show (L).length ≤ 40000 from by (try simp only [List.length_append, List.length_cons, List.length_nil, List.length_map]); omega)
        have HZ1 := Lib.hid (show (L ++ [(⟨#[114, 101, 109, 111, 118, 101]⟩ : ByteArray)]).length ≤ 45000 from by (try simp only [List.length_append, List.length_cons, List.length_nil, List.length_map]); omega)
        have HQ1 := Lib.hid q1
        have HZ2 := Lib.hid (show (L ++ [(⟨#[114, 101, 109, 111, 118, 101]⟩ : ByteArray)] ++ [r.role, r.schema, r.table]).length ≤ 45000 from by (try simp only [List.length_append, List.length_cons, List.length_nil, List.length_map]); omega)
        have HQ2 := Lib.hid q2
        have HZ3 := Lib.hid (show (L ++ [(⟨#[114, 101, 109, 111, 118, 101]⟩ : ByteArray)] ++ [r.role, r.schema, r.table] ++ [r.col]).length ≤ 45000 from by (try simp only [List.length_append, List.length_cons, List.length_nil, List.length_map]); omega)
        have HQ3 := Lib.hid q3
        have HS := Lib.hid (show rowL r = none from by simp [rowL, andL, HK.out, HE.out, b_remove, HQ1.out, HQ2.out, HQ3.out])
        clear h q1 q2 q3
        go_enter Tryz.func64, Tryz.ntmps64
        go_wp2_with (first
          | (go_at_call 61; (with_reducible refine (lay2 w0 _ b _ _ _ _ H0.out HZ0.out HE0.out).mono ?_); rintro e w1 ⟨rfl, h⟩; have r0b0 := HM0.out _ _ h; have yb0b0 := r0b0.1; have y0b0c1 := r0b0.cell (j := 1) rfl; have y0b0c2 := r0b0.cell (j := 2) rfl; have y0b0c3 := r0b0.cell (j := 3) rfl; clear r0b0; have H1 := Lib.hid h; clear h)
          | (go_at_call 91; (with_reducible refine (nam3 w0 _ b _ _ _ _ _ _ H1.out HT.out HZ1.out rfl hsm.out.role hsm.out.schema hsm.out.table).mono ?_); rintro e w2 h; rw [HQ1.out] at h; obtain ⟨rfl, h⟩ := h; have r1b0 := HM0.out _ _ h; have yb1b0 := r1b0.1; have y1b0c0 := r1b0.cell (j := 0) rfl; have y1b0c5 := r1b0.cell (j := 5) rfl; have y1b0c6 := r1b0.cell (j := 6) rfl; have y1b0c7 := r1b0.cell (j := 7) rfl; have y1b0c8 := r1b0.cell (j := 8) rfl; have y1b0c4 := r1b0.cell (j := 4) rfl; clear r1b0; have H2 := Lib.hid h; clear h)
          | (go_at_call 91; (with_reducible refine (nam1 w0 _ b _ _ _ _ H2.out HT.out HZ2.out rfl hsm.out.col).mono ?_); rintro e w3 h; rw [HQ2.out] at h; obtain ⟨rfl, h⟩ := h; have r2b0 := HM0.out _ _ h; have yb2b0 := r2b0.1; have y2b0c6 := r2b0.cell (j := 6) rfl; have y2b0c7 := r2b0.cell (j := 7) rfl; have y2b0c8 := r2b0.cell (j := 8) rfl; have y2b0c4 := r2b0.cell (j := 4) rfl; clear r2b0; have H3 := Lib.hid h; clear h)
          | (go_at_call 96; (with_reducible refine (val1 w0 _ b _ _ _ _ H3.out HT.out HZ3.out rfl hsm.out.text).mono ?_); rintro e w4 h; rw [HQ3.out] at h; obtain ⟨he, h⟩ := h; have H4 := Lib.hid h; clear h; unfold NoL at he; subst he))
        rw [HS.out]
        exact ⟨rfl, rfl, H4.out⟩
      · rcases vals_cases r.row with q4 | q4
        · have H0 := Lib.hid (h.push (.cells #[.int .i64 r.kind, .string r.role, .string r.schema, .string r.table, .slice A3 r.row.length k3, .string r.col, .int .i64 r.v.kind, .int .i64 r.v.int, .string r.v.text] 41))
          have HM0 := Lib.hid (show ∀ L' V, LyS w0 ((w.heap.size, .cells #[.int .i64 r.kind, .string r.role, .string r.schema, .string r.table, .slice A3 r.row.length k3, .string r.col, .int .i64 r.v.kind, .int .i64 r.v.int, .string r.v.text] 41) :: Q) b L' V → RowAt V (w.heap.size) [.int .i64 r.kind, .string r.role, .string r.schema, .string r.table, .slice A3 r.row.length k3, .string r.col, .int .i64 r.v.kind, .int .i64 r.v.int, .string r.v.text] from fun L' V h => h.same List.mem_cons_self)
          have HE0 := Lib.hid (show w.heap.size + 1 = (w.alloc (.cells #[.int .i64 r.kind, .string r.role, .string r.schema, .string r.table, .slice A3 r.row.length k3, .string r.col, .int .i64 r.v.kind, .int .i64 r.v.int, .string r.v.text] 41)).heap.size from by simp)
          have HZ0 := Lib.hid (show (L).length ≤ 40000 from by (try simp only [List.length_append, List.length_cons, List.length_nil, List.length_map]); omega)
          have HZ1 := Lib.hid (show (L ++ [(⟨#[114, 101, 109, 111, 118, 101]⟩ : ByteArray)]).length ≤ 45000 from by (try simp only [List.length_append, List.length_cons, List.length_nil, List.length_map]); omega)
          have HQ1 := Lib.hid q1
          have HZ2 := Lib.hid (show (L ++ [(⟨#[114, 101, 109, 111, 118, 101]⟩ : ByteArray)] ++ [r.role, r.schema, r.table]).length ≤ 45000 from by (try simp only [List.length_append, List.length_cons, List.length_nil, List.length_map]); omega)
          have HQ2 := Lib.hid q2
          have HZ3 := Lib.hid (show (L ++ [(⟨#[114, 101, 109, 111, 118, 101]⟩ : ByteArray)] ++ [r.role, r.schema, r.table] ++ [r.col]).length ≤ 45000 from by (try simp only [List.length_append, List.length_cons, List.length_nil, List.length_map]); omega)
          have HQ3 := Lib.hid q3
          have HZ4 := Lib.hid (show (L ++ [(⟨#[114, 101, 109, 111, 118, 101]⟩ : ByteArray)] ++ [r.role, r.schema, r.table] ++ [r.col] ++ List.map valT [r.v]).length + r.row.length ≤ 50000 from by (try simp only [List.length_append, List.length_cons, List.length_nil, List.length_map]); omega)
          have HQ4 := Lib.hid q4
          have HS := Lib.hid (show rowL r = none from by simp [rowL, andL, HK.out, HE.out, b_remove, HQ1.out, HQ2.out, HQ3.out, HQ4.out])
          clear h q1 q2 q3 q4
          go_enter Tryz.func64, Tryz.ntmps64
          go_wp2_with (first
            | (go_at_call 61; (with_reducible refine (lay2 w0 _ b _ _ _ _ H0.out HZ0.out HE0.out).mono ?_); rintro e w1 ⟨rfl, h⟩; have r0b0 := HM0.out _ _ h; have yb0b0 := r0b0.1; have y0b0c1 := r0b0.cell (j := 1) rfl; have y0b0c2 := r0b0.cell (j := 2) rfl; have y0b0c3 := r0b0.cell (j := 3) rfl; clear r0b0; have H1 := Lib.hid h; clear h)
            | (go_at_call 91; (with_reducible refine (nam3 w0 _ b _ _ _ _ _ _ H1.out HT.out HZ1.out rfl hsm.out.role hsm.out.schema hsm.out.table).mono ?_); rintro e w2 h; rw [HQ1.out] at h; obtain ⟨rfl, h⟩ := h; have r1b0 := HM0.out _ _ h; have yb1b0 := r1b0.1; have y1b0c0 := r1b0.cell (j := 0) rfl; have y1b0c5 := r1b0.cell (j := 5) rfl; have y1b0c6 := r1b0.cell (j := 6) rfl; have y1b0c7 := r1b0.cell (j := 7) rfl; have y1b0c8 := r1b0.cell (j := 8) rfl; have y1b0c4 := r1b0.cell (j := 4) rfl; clear r1b0; have H2 := Lib.hid h; clear h)
            | (go_at_call 91; (with_reducible refine (nam1 w0 _ b _ _ _ _ H2.out HT.out HZ2.out rfl hsm.out.col).mono ?_); rintro e w3 h; rw [HQ2.out] at h; obtain ⟨rfl, h⟩ := h; have r2b0 := HM0.out _ _ h; have yb2b0 := r2b0.1; have y2b0c6 := r2b0.cell (j := 6) rfl; have y2b0c7 := r2b0.cell (j := 7) rfl; have y2b0c8 := r2b0.cell (j := 8) rfl; have y2b0c4 := r2b0.cell (j := 4) rfl; clear r2b0; have H3 := Lib.hid h; clear h)
            | (go_at_call 96; (with_reducible refine (val1 w0 _ b _ _ _ _ H3.out HT.out HZ3.out rfl hsm.out.text).mono ?_); rintro e w4 h; rw [HQ3.out] at h; obtain ⟨rfl, h⟩ := h; have r3b0 := HM0.out _ _ h; have yb3b0 := r3b0.1; have y3b0c4 := r3b0.cell (j := 4) rfl; clear r3b0; have H4 := Lib.hid h; clear h)
            | (go_at_call 96; (with_reducible refine (values_in w0 _ b _ r.row A3 k3 _ H4.out (fun L' V h => vals_aft h.aft HV.out) HT.out HZ4.out).mono ?_); rintro e w5 h; rw [HQ4.out] at h; obtain ⟨he, h⟩ := h; have H5 := Lib.hid h; clear h; unfold NoL at he; subst he))
          rw [HS.out]
          exact ⟨rfl, rfl, H5.out⟩
        · have H0 := Lib.hid (h.push (.cells #[.int .i64 r.kind, .string r.role, .string r.schema, .string r.table, .slice A3 r.row.length k3, .string r.col, .int .i64 r.v.kind, .int .i64 r.v.int, .string r.v.text] 41))
          have HM0 := Lib.hid (show ∀ L' V, LyS w0 ((w.heap.size, .cells #[.int .i64 r.kind, .string r.role, .string r.schema, .string r.table, .slice A3 r.row.length k3, .string r.col, .int .i64 r.v.kind, .int .i64 r.v.int, .string r.v.text] 41) :: Q) b L' V → RowAt V (w.heap.size) [.int .i64 r.kind, .string r.role, .string r.schema, .string r.table, .slice A3 r.row.length k3, .string r.col, .int .i64 r.v.kind, .int .i64 r.v.int, .string r.v.text] from fun L' V h => h.same List.mem_cons_self)
          have HE0 := Lib.hid (show w.heap.size + 1 = (w.alloc (.cells #[.int .i64 r.kind, .string r.role, .string r.schema, .string r.table, .slice A3 r.row.length k3, .string r.col, .int .i64 r.v.kind, .int .i64 r.v.int, .string r.v.text] 41)).heap.size from by simp)
          have HZ0 := Lib.hid (show (L).length ≤ 40000 from by (try simp only [List.length_append, List.length_cons, List.length_nil, List.length_map]); omega)
          have HZ1 := Lib.hid (show (L ++ [(⟨#[114, 101, 109, 111, 118, 101]⟩ : ByteArray)]).length ≤ 45000 from by (try simp only [List.length_append, List.length_cons, List.length_nil, List.length_map]); omega)
          have HQ1 := Lib.hid q1
          have HZ2 := Lib.hid (show (L ++ [(⟨#[114, 101, 109, 111, 118, 101]⟩ : ByteArray)] ++ [r.role, r.schema, r.table]).length ≤ 45000 from by (try simp only [List.length_append, List.length_cons, List.length_nil, List.length_map]); omega)
          have HQ2 := Lib.hid q2
          have HZ3 := Lib.hid (show (L ++ [(⟨#[114, 101, 109, 111, 118, 101]⟩ : ByteArray)] ++ [r.role, r.schema, r.table] ++ [r.col]).length ≤ 45000 from by (try simp only [List.length_append, List.length_cons, List.length_nil, List.length_map]); omega)
          have HQ3 := Lib.hid q3
          have HZ4 := Lib.hid (show (L ++ [(⟨#[114, 101, 109, 111, 118, 101]⟩ : ByteArray)] ++ [r.role, r.schema, r.table] ++ [r.col] ++ List.map valT [r.v]).length + r.row.length ≤ 50000 from by (try simp only [List.length_append, List.length_cons, List.length_nil, List.length_map]); omega)
          have HQ4 := Lib.hid q4
          have HS := Lib.hid (show rowL r = some ([(⟨#[114, 101, 109, 111, 118, 101]⟩ : ByteArray)] ++ ([r.role, r.schema, r.table] ++ ([r.col] ++ (List.map valT [r.v] ++ (List.map valT r.row))))) from by simp [rowL, andL, HK.out, HE.out, b_remove, HQ1.out, HQ2.out, HQ3.out, HQ4.out])
          clear h q1 q2 q3 q4
          go_enter Tryz.func64, Tryz.ntmps64
          go_wp2_with (first
            | (go_at_call 61; (with_reducible refine (lay2 w0 _ b _ _ _ _ H0.out HZ0.out HE0.out).mono ?_); rintro e w1 ⟨rfl, h⟩; have r0b0 := HM0.out _ _ h; have yb0b0 := r0b0.1; have y0b0c1 := r0b0.cell (j := 1) rfl; have y0b0c2 := r0b0.cell (j := 2) rfl; have y0b0c3 := r0b0.cell (j := 3) rfl; clear r0b0; have H1 := Lib.hid h; clear h)
            | (go_at_call 91; (with_reducible refine (nam3 w0 _ b _ _ _ _ _ _ H1.out HT.out HZ1.out rfl hsm.out.role hsm.out.schema hsm.out.table).mono ?_); rintro e w2 h; rw [HQ1.out] at h; obtain ⟨rfl, h⟩ := h; have r1b0 := HM0.out _ _ h; have yb1b0 := r1b0.1; have y1b0c0 := r1b0.cell (j := 0) rfl; have y1b0c5 := r1b0.cell (j := 5) rfl; have y1b0c6 := r1b0.cell (j := 6) rfl; have y1b0c7 := r1b0.cell (j := 7) rfl; have y1b0c8 := r1b0.cell (j := 8) rfl; have y1b0c4 := r1b0.cell (j := 4) rfl; clear r1b0; have H2 := Lib.hid h; clear h)
            | (go_at_call 91; (with_reducible refine (nam1 w0 _ b _ _ _ _ H2.out HT.out HZ2.out rfl hsm.out.col).mono ?_); rintro e w3 h; rw [HQ2.out] at h; obtain ⟨rfl, h⟩ := h; have r2b0 := HM0.out _ _ h; have yb2b0 := r2b0.1; have y2b0c6 := r2b0.cell (j := 6) rfl; have y2b0c7 := r2b0.cell (j := 7) rfl; have y2b0c8 := r2b0.cell (j := 8) rfl; have y2b0c4 := r2b0.cell (j := 4) rfl; clear r2b0; have H3 := Lib.hid h; clear h)
            | (go_at_call 96; (with_reducible refine (val1 w0 _ b _ _ _ _ H3.out HT.out HZ3.out rfl hsm.out.text).mono ?_); rintro e w4 h; rw [HQ3.out] at h; obtain ⟨rfl, h⟩ := h; have r3b0 := HM0.out _ _ h; have yb3b0 := r3b0.1; have y3b0c4 := r3b0.cell (j := 4) rfl; clear r3b0; have H4 := Lib.hid h; clear h)
            | (go_at_call 96; (with_reducible refine (values_in w0 _ b _ r.row A3 k3 _ H4.out (fun L' V h => vals_aft h.aft HV.out) HT.out HZ4.out).mono ?_); rintro e w5 h; rw [HQ4.out] at h; obtain ⟨rfl, h⟩ := h; have H5 := Lib.hid h; clear h))
          go_end0
          rw [HS.out]
          exact ⟨rfl, LyS.conv (by first | (simp only [List.append_assoc]; rfl) | simp only [List.append_assoc]) H5.out.pop⟩
set_option maxHeartbeats 4000000 in
theorem row_k2n (w0 : World) (Q : List (Nat × Obj)) (b : Nat) (L : Ws) (r : ROp) (A3 : Option Addr) (k3 : Nat) (w : World) (h : LyS w0 Q b L w) (ht : TabW w0) (sm : SmO r) (hn : L.length ≤ 100) (hv : SlAt w0 3 ValR A3 k3 r.row) (hlr : r.row.length ≤ 4100) (hk : r.kind = 2) (hc : eqS r.col zBy = true) :
    Calls Tryz.prog 64 #[.pointer (some ⟨b, 0, none⟩), .agg #[.int .i64 r.kind, .string r.role, .string r.schema, .string r.table, .slice A3 r.row.length k3, .string r.col, .int .i64 r.v.kind, .int .i64 r.v.int, .string r.v.text]] w (LyQ w0 Q b L (rowL r)) := by
  have b1 : (r.kind == 1) = false := by simp [hk]
  have b1n : (r.kind != 1) = true := by simp [hk]
  have b2 : (r.kind == 2) = true := by simp [hk]
  have HK := Lib.hid hk
  clear hk
  have e1 : r.col.toList.isEmpty = true := (isEmp_eqS r.col).trans hc
  have HE := Lib.hid hc
  clear hc
  have HT := Lib.hid ht
  have hsm := Lib.hid sm
  have HV := Lib.hid hv
  clear ht sm hv
  rcases nms_cases [r.role, r.schema, r.table] with q1 | q1
  · have H0 := Lib.hid (h.push (.cells #[.int .i64 r.kind, .string r.role, .string r.schema, .string r.table, .slice A3 r.row.length k3, .string r.col, .int .i64 r.v.kind, .int .i64 r.v.int, .string r.v.text] 41))
    have HM0 := Lib.hid (show ∀ L' V, LyS w0 ((w.heap.size, .cells #[.int .i64 r.kind, .string r.role, .string r.schema, .string r.table, .slice A3 r.row.length k3, .string r.col, .int .i64 r.v.kind, .int .i64 r.v.int, .string r.v.text] 41) :: Q) b L' V → RowAt V (w.heap.size) [.int .i64 r.kind, .string r.role, .string r.schema, .string r.table, .slice A3 r.row.length k3, .string r.col, .int .i64 r.v.kind, .int .i64 r.v.int, .string r.v.text] from fun L' V h => h.same List.mem_cons_self)
    have HE0 := Lib.hid (show w.heap.size + 1 = (w.alloc (.cells #[.int .i64 r.kind, .string r.role, .string r.schema, .string r.table, .slice A3 r.row.length k3, .string r.col, .int .i64 r.v.kind, .int .i64 r.v.int, .string r.v.text] 41)).heap.size from by simp)
    have HZ0 := Lib.hid (show (L).length ≤ 40000 from by (try simp only [List.length_append, List.length_cons, List.length_nil, List.length_map]); omega)
    have HZ1 := Lib.hid (show (L ++ [(⟨#[114, 101, 109, 111, 118, 101]⟩ : ByteArray)]).length ≤ 45000 from by (try simp only [List.length_append, List.length_cons, List.length_nil, List.length_map]); omega)
    have HQ1 := Lib.hid q1
    have HS := Lib.hid (show rowL r = none from by simp [rowL, andL, HK.out, HE.out, b_remove, HQ1.out])
    clear h q1
    go_enter Tryz.func64, Tryz.ntmps64
    go_wp2_with (first
      | (go_at_call 61; (with_reducible refine (lay2 w0 _ b _ _ _ _ H0.out HZ0.out HE0.out).mono ?_); rintro e w1 ⟨rfl, h⟩; have r0b0 := HM0.out _ _ h; have yb0b0 := r0b0.1; have y0b0c1 := r0b0.cell (j := 1) rfl; have y0b0c2 := r0b0.cell (j := 2) rfl; have y0b0c3 := r0b0.cell (j := 3) rfl; clear r0b0; have H1 := Lib.hid h; clear h)
      | (go_at_call 91; (with_reducible refine (nam3 w0 _ b _ _ _ _ _ _ H1.out HT.out HZ1.out rfl hsm.out.role hsm.out.schema hsm.out.table).mono ?_); rintro e w2 h; rw [HQ1.out] at h; obtain ⟨he, h⟩ := h; have H2 := Lib.hid h; clear h; unfold NoL at he; subst he))
    rw [HS.out]
    exact ⟨rfl, rfl, H2.out⟩
  · rcases vals_cases r.row with q2 | q2
    · have H0 := Lib.hid (h.push (.cells #[.int .i64 r.kind, .string r.role, .string r.schema, .string r.table, .slice A3 r.row.length k3, .string r.col, .int .i64 r.v.kind, .int .i64 r.v.int, .string r.v.text] 41))
      have HM0 := Lib.hid (show ∀ L' V, LyS w0 ((w.heap.size, .cells #[.int .i64 r.kind, .string r.role, .string r.schema, .string r.table, .slice A3 r.row.length k3, .string r.col, .int .i64 r.v.kind, .int .i64 r.v.int, .string r.v.text] 41) :: Q) b L' V → RowAt V (w.heap.size) [.int .i64 r.kind, .string r.role, .string r.schema, .string r.table, .slice A3 r.row.length k3, .string r.col, .int .i64 r.v.kind, .int .i64 r.v.int, .string r.v.text] from fun L' V h => h.same List.mem_cons_self)
      have HE0 := Lib.hid (show w.heap.size + 1 = (w.alloc (.cells #[.int .i64 r.kind, .string r.role, .string r.schema, .string r.table, .slice A3 r.row.length k3, .string r.col, .int .i64 r.v.kind, .int .i64 r.v.int, .string r.v.text] 41)).heap.size from by simp)
      have HZ0 := Lib.hid (show (L).length ≤ 40000 from by (try simp only [List.length_append, List.length_cons, List.length_nil, List.length_map]); omega)
      have HZ1 := Lib.hid (show (L ++ [(⟨#[114, 101, 109, 111, 118, 101]⟩ : ByteArray)]).length ≤ 45000 from by (try simp only [List.length_append, List.length_cons, List.length_nil, List.length_map]); omega)
      have HQ1 := Lib.hid q1
      have HZ2 := Lib.hid (show (L ++ [(⟨#[114, 101, 109, 111, 118, 101]⟩ : ByteArray)] ++ [r.role, r.schema, r.table]).length + r.row.length ≤ 50000 from by (try simp only [List.length_append, List.length_cons, List.length_nil, List.length_map]); omega)
      have HQ2 := Lib.hid q2
      have HS := Lib.hid (show rowL r = none from by simp [rowL, andL, HK.out, HE.out, b_remove, HQ1.out, HQ2.out])
      clear h q1 q2
      go_enter Tryz.func64, Tryz.ntmps64
      go_wp2_with (first
        | (go_at_call 61; (with_reducible refine (lay2 w0 _ b _ _ _ _ H0.out HZ0.out HE0.out).mono ?_); rintro e w1 ⟨rfl, h⟩; have r0b0 := HM0.out _ _ h; have yb0b0 := r0b0.1; have y0b0c1 := r0b0.cell (j := 1) rfl; have y0b0c2 := r0b0.cell (j := 2) rfl; have y0b0c3 := r0b0.cell (j := 3) rfl; clear r0b0; have H1 := Lib.hid h; clear h)
        | (go_at_call 91; (with_reducible refine (nam3 w0 _ b _ _ _ _ _ _ H1.out HT.out HZ1.out rfl hsm.out.role hsm.out.schema hsm.out.table).mono ?_); rintro e w2 h; rw [HQ1.out] at h; obtain ⟨rfl, h⟩ := h; have r1b0 := HM0.out _ _ h; have yb1b0 := r1b0.1; have y1b0c0 := r1b0.cell (j := 0) rfl; have y1b0c5 := r1b0.cell (j := 5) rfl; have y1b0c6 := r1b0.cell (j := 6) rfl; have y1b0c7 := r1b0.cell (j := 7) rfl; have y1b0c8 := r1b0.cell (j := 8) rfl; have y1b0c4 := r1b0.cell (j := 4) rfl; clear r1b0; have H2 := Lib.hid h; clear h)
        | (go_at_call 96; (with_reducible refine (values_in w0 _ b _ r.row A3 k3 _ H2.out (fun L' V h => vals_aft h.aft HV.out) HT.out HZ2.out).mono ?_); rintro e w3 h; rw [HQ2.out] at h; obtain ⟨he, h⟩ := h; have H3 := Lib.hid h; clear h; unfold NoL at he; subst he))
      rw [HS.out]
      exact ⟨rfl, rfl, H3.out⟩
    · have H0 := Lib.hid (h.push (.cells #[.int .i64 r.kind, .string r.role, .string r.schema, .string r.table, .slice A3 r.row.length k3, .string r.col, .int .i64 r.v.kind, .int .i64 r.v.int, .string r.v.text] 41))
      have HM0 := Lib.hid (show ∀ L' V, LyS w0 ((w.heap.size, .cells #[.int .i64 r.kind, .string r.role, .string r.schema, .string r.table, .slice A3 r.row.length k3, .string r.col, .int .i64 r.v.kind, .int .i64 r.v.int, .string r.v.text] 41) :: Q) b L' V → RowAt V (w.heap.size) [.int .i64 r.kind, .string r.role, .string r.schema, .string r.table, .slice A3 r.row.length k3, .string r.col, .int .i64 r.v.kind, .int .i64 r.v.int, .string r.v.text] from fun L' V h => h.same List.mem_cons_self)
      have HE0 := Lib.hid (show w.heap.size + 1 = (w.alloc (.cells #[.int .i64 r.kind, .string r.role, .string r.schema, .string r.table, .slice A3 r.row.length k3, .string r.col, .int .i64 r.v.kind, .int .i64 r.v.int, .string r.v.text] 41)).heap.size from by simp)
      have HZ0 := Lib.hid (show (L).length ≤ 40000 from by (try simp only [List.length_append, List.length_cons, List.length_nil, List.length_map]); omega)
      have HZ1 := Lib.hid (show (L ++ [(⟨#[114, 101, 109, 111, 118, 101]⟩ : ByteArray)]).length ≤ 45000 from by (try simp only [List.length_append, List.length_cons, List.length_nil, List.length_map]); omega)
      have HQ1 := Lib.hid q1
      have HZ2 := Lib.hid (show (L ++ [(⟨#[114, 101, 109, 111, 118, 101]⟩ : ByteArray)] ++ [r.role, r.schema, r.table]).length + r.row.length ≤ 50000 from by (try simp only [List.length_append, List.length_cons, List.length_nil, List.length_map]); omega)
      have HQ2 := Lib.hid q2
      have HS := Lib.hid (show rowL r = some ([(⟨#[114, 101, 109, 111, 118, 101]⟩ : ByteArray)] ++ ([r.role, r.schema, r.table] ++ (List.map valT r.row))) from by simp [rowL, andL, HK.out, HE.out, b_remove, HQ1.out, HQ2.out])
      clear h q1 q2
      go_enter Tryz.func64, Tryz.ntmps64
      go_wp2_with (first
        | (go_at_call 61; (with_reducible refine (lay2 w0 _ b _ _ _ _ H0.out HZ0.out HE0.out).mono ?_); rintro e w1 ⟨rfl, h⟩; have r0b0 := HM0.out _ _ h; have yb0b0 := r0b0.1; have y0b0c1 := r0b0.cell (j := 1) rfl; have y0b0c2 := r0b0.cell (j := 2) rfl; have y0b0c3 := r0b0.cell (j := 3) rfl; clear r0b0; have H1 := Lib.hid h; clear h)
        | (go_at_call 91; (with_reducible refine (nam3 w0 _ b _ _ _ _ _ _ H1.out HT.out HZ1.out rfl hsm.out.role hsm.out.schema hsm.out.table).mono ?_); rintro e w2 h; rw [HQ1.out] at h; obtain ⟨rfl, h⟩ := h; have r1b0 := HM0.out _ _ h; have yb1b0 := r1b0.1; have y1b0c0 := r1b0.cell (j := 0) rfl; have y1b0c5 := r1b0.cell (j := 5) rfl; have y1b0c6 := r1b0.cell (j := 6) rfl; have y1b0c7 := r1b0.cell (j := 7) rfl; have y1b0c8 := r1b0.cell (j := 8) rfl; have y1b0c4 := r1b0.cell (j := 4) rfl; clear r1b0; have H2 := Lib.hid h; clear h)
        | (go_at_call 96; (with_reducible refine (values_in w0 _ b _ r.row A3 k3 _ H2.out (fun L' V h => vals_aft h.aft HV.out) HT.out HZ2.out).mono ?_); rintro e w3 h; rw [HQ2.out] at h; obtain ⟨rfl, h⟩ := h; have H3 := Lib.hid h; clear h))
      go_end0
      rw [HS.out]
      exact ⟨rfl, LyS.conv (by first | (simp only [List.append_assoc]; rfl) | simp only [List.append_assoc]) H3.out.pop⟩
set_option maxHeartbeats 4000000 in
theorem row_k3c (w0 : World) (Q : List (Nat × Obj)) (b : Nat) (L : Ws) (r : ROp) (A3 : Option Addr) (k3 : Nat) (w : World) (h : LyS w0 Q b L w) (ht : TabW w0) (sm : SmO r) (hn : L.length ≤ 100) (hv : SlAt w0 3 ValR A3 k3 r.row) (hlr : r.row.length ≤ 4100) (hk : r.kind ≠ 1) (hk2 : r.kind ≠ 2) (hc : eqS r.col zBy = false) :
    Calls Tryz.prog 64 #[.pointer (some ⟨b, 0, none⟩), .agg #[.int .i64 r.kind, .string r.role, .string r.schema, .string r.table, .slice A3 r.row.length k3, .string r.col, .int .i64 r.v.kind, .int .i64 r.v.int, .string r.v.text]] w (LyQ w0 Q b L (rowL r)) := by
  have b1 : (r.kind == 1) = false := by simp [hk]
  have b1n : (r.kind != 1) = true := by simp [hk]
  have b2 : (r.kind == 2) = false := by simp [hk2]
  have HK := Lib.hid hk
  have HK2 := Lib.hid hk2
  clear hk hk2
  have e1 : r.col.toList.isEmpty = false := (isEmp_eqS r.col).trans hc
  have HE := Lib.hid hc
  clear hc
  have HT := Lib.hid ht
  have hsm := Lib.hid sm
  have HV := Lib.hid hv
  clear ht sm hv
  rcases nms_cases [r.role, r.schema, r.table] with q1 | q1
  · have H0 := Lib.hid (h.push (.cells #[.int .i64 r.kind, .string r.role, .string r.schema, .string r.table, .slice A3 r.row.length k3, .string r.col, .int .i64 r.v.kind, .int .i64 r.v.int, .string r.v.text] 41))
    have HM0 := Lib.hid (show ∀ L' V, LyS w0 ((w.heap.size, .cells #[.int .i64 r.kind, .string r.role, .string r.schema, .string r.table, .slice A3 r.row.length k3, .string r.col, .int .i64 r.v.kind, .int .i64 r.v.int, .string r.v.text] 41) :: Q) b L' V → RowAt V (w.heap.size) [.int .i64 r.kind, .string r.role, .string r.schema, .string r.table, .slice A3 r.row.length k3, .string r.col, .int .i64 r.v.kind, .int .i64 r.v.int, .string r.v.text] from fun L' V h => h.same List.mem_cons_self)
    have HE0 := Lib.hid (show w.heap.size + 1 = (w.alloc (.cells #[.int .i64 r.kind, .string r.role, .string r.schema, .string r.table, .slice A3 r.row.length k3, .string r.col, .int .i64 r.v.kind, .int .i64 r.v.int, .string r.v.text] 41)).heap.size from by simp)
    have HZ0 := Lib.hid (show (L).length ≤ 40000 from by (try simp only [List.length_append, List.length_cons, List.length_nil, List.length_map]); omega)
    have HZ1 := Lib.hid (show (L ++ [(⟨#[115, 101, 108, 101, 99, 116]⟩ : ByteArray)]).length ≤ 45000 from by (try simp only [List.length_append, List.length_cons, List.length_nil, List.length_map]); omega)
    have HQ1 := Lib.hid q1
    have HS := Lib.hid (show rowL r = none from by simp [rowL, andL, HK.out, HK2.out, HE.out, b_select, HQ1.out])
    clear h q1
    go_enter Tryz.func64, Tryz.ntmps64
    go_wp2_with (first
      | (go_at_call 61; (with_reducible refine (lay2 w0 _ b _ _ _ _ H0.out HZ0.out HE0.out).mono ?_); rintro e w1 ⟨rfl, h⟩; have r0b0 := HM0.out _ _ h; have yb0b0 := r0b0.1; have y0b0c1 := r0b0.cell (j := 1) rfl; have y0b0c2 := r0b0.cell (j := 2) rfl; have y0b0c3 := r0b0.cell (j := 3) rfl; clear r0b0; have H1 := Lib.hid h; clear h)
      | (go_at_call 91; (with_reducible refine (nam3 w0 _ b _ _ _ _ _ _ H1.out HT.out HZ1.out rfl hsm.out.role hsm.out.schema hsm.out.table).mono ?_); rintro e w2 h; rw [HQ1.out] at h; obtain ⟨he, h⟩ := h; have H2 := Lib.hid h; clear h; unfold NoL at he; subst he))
    rw [HS.out]
    exact ⟨rfl, rfl, H2.out⟩
  · rcases nms_cases [r.col] with q2 | q2
    · have H0 := Lib.hid (h.push (.cells #[.int .i64 r.kind, .string r.role, .string r.schema, .string r.table, .slice A3 r.row.length k3, .string r.col, .int .i64 r.v.kind, .int .i64 r.v.int, .string r.v.text] 41))
      have HM0 := Lib.hid (show ∀ L' V, LyS w0 ((w.heap.size, .cells #[.int .i64 r.kind, .string r.role, .string r.schema, .string r.table, .slice A3 r.row.length k3, .string r.col, .int .i64 r.v.kind, .int .i64 r.v.int, .string r.v.text] 41) :: Q) b L' V → RowAt V (w.heap.size) [.int .i64 r.kind, .string r.role, .string r.schema, .string r.table, .slice A3 r.row.length k3, .string r.col, .int .i64 r.v.kind, .int .i64 r.v.int, .string r.v.text] from fun L' V h => h.same List.mem_cons_self)
      have HE0 := Lib.hid (show w.heap.size + 1 = (w.alloc (.cells #[.int .i64 r.kind, .string r.role, .string r.schema, .string r.table, .slice A3 r.row.length k3, .string r.col, .int .i64 r.v.kind, .int .i64 r.v.int, .string r.v.text] 41)).heap.size from by simp)
      have HZ0 := Lib.hid (show (L).length ≤ 40000 from by (try simp only [List.length_append, List.length_cons, List.length_nil, List.length_map]); omega)
      have HZ1 := Lib.hid (show (L ++ [(⟨#[115, 101, 108, 101, 99, 116]⟩ : ByteArray)]).length ≤ 45000 from by (try simp only [List.length_append, List.length_cons, List.length_nil, List.length_map]); omega)
      have HQ1 := Lib.hid q1
      have HZ2 := Lib.hid (show (L ++ [(⟨#[115, 101, 108, 101, 99, 116]⟩ : ByteArray)] ++ [r.role, r.schema, r.table]).length ≤ 45000 from by (try simp only [List.length_append, List.length_cons, List.length_nil, List.length_map]); omega)
      have HQ2 := Lib.hid q2
      have HS := Lib.hid (show rowL r = none from by simp [rowL, andL, HK.out, HK2.out, HE.out, b_select, HQ1.out, HQ2.out])
      clear h q1 q2
      go_enter Tryz.func64, Tryz.ntmps64
      go_wp2_with (first
        | (go_at_call 61; (with_reducible refine (lay2 w0 _ b _ _ _ _ H0.out HZ0.out HE0.out).mono ?_); rintro e w1 ⟨rfl, h⟩; have r0b0 := HM0.out _ _ h; have yb0b0 := r0b0.1; have y0b0c1 := r0b0.cell (j := 1) rfl; have y0b0c2 := r0b0.cell (j := 2) rfl; have y0b0c3 := r0b0.cell (j := 3) rfl; clear r0b0; have H1 := Lib.hid h; clear h)
        | (go_at_call 91; (with_reducible refine (nam3 w0 _ b _ _ _ _ _ _ H1.out HT.out HZ1.out rfl hsm.out.role hsm.out.schema hsm.out.table).mono ?_); rintro e w2 h; rw [HQ1.out] at h; obtain ⟨rfl, h⟩ := h; have r1b0 := HM0.out _ _ h; have yb1b0 := r1b0.1; have y1b0c0 := r1b0.cell (j := 0) rfl; have y1b0c5 := r1b0.cell (j := 5) rfl; have y1b0c6 := r1b0.cell (j := 6) rfl; have y1b0c7 := r1b0.cell (j := 7) rfl; have y1b0c8 := r1b0.cell (j := 8) rfl; have y1b0c4 := r1b0.cell (j := 4) rfl; clear r1b0; have H2 := Lib.hid h; clear h)
        | (go_at_call 91; (with_reducible refine (nam1 w0 _ b _ _ _ _ H2.out HT.out HZ2.out rfl hsm.out.col).mono ?_); rintro e w3 h; rw [HQ2.out] at h; obtain ⟨he, h⟩ := h; have H3 := Lib.hid h; clear h; unfold NoL at he; subst he))
      rw [HS.out]
      exact ⟨rfl, rfl, H3.out⟩
    · rcases vals_cases [r.v] with q3 | q3
      · have H0 := Lib.hid (h.push (.cells #[.int .i64 r.kind, .string r.role, .string r.schema, .string r.table, .slice A3 r.row.length k3, .string r.col, .int .i64 r.v.kind, .int .i64 r.v.int, .string r.v.text] 41))
        have HM0 := Lib.hid (show ∀ L' V, LyS w0 ((w.heap.size, .cells #[.int .i64 r.kind, .string r.role, .string r.schema, .string r.table, .slice A3 r.row.length k3, .string r.col, .int .i64 r.v.kind, .int .i64 r.v.int, .string r.v.text] 41) :: Q) b L' V → RowAt V (w.heap.size) [.int .i64 r.kind, .string r.role, .string r.schema, .string r.table, .slice A3 r.row.length k3, .string r.col, .int .i64 r.v.kind, .int .i64 r.v.int, .string r.v.text] from fun L' V h => h.same List.mem_cons_self)
        have HE0 := Lib.hid (show w.heap.size + 1 = (w.alloc (.cells #[.int .i64 r.kind, .string r.role, .string r.schema, .string r.table, .slice A3 r.row.length k3, .string r.col, .int .i64 r.v.kind, .int .i64 r.v.int, .string r.v.text] 41)).heap.size from by simp)
        have HZ0 := Lib.hid (show (L).length ≤ 40000 from by (try simp only [List.length_append, List.length_cons, List.length_nil, List.length_map]); omega)
        have HZ1 := Lib.hid (show (L ++ [(⟨#[115, 101, 108, 101, 99, 116]⟩ : ByteArray)]).length ≤ 45000 from by (try simp only [List.length_append, List.length_cons, List.length_nil, List.length_map]); omega)
        have HQ1 := Lib.hid q1
        have HZ2 := Lib.hid (show (L ++ [(⟨#[115, 101, 108, 101, 99, 116]⟩ : ByteArray)] ++ [r.role, r.schema, r.table]).length ≤ 45000 from by (try simp only [List.length_append, List.length_cons, List.length_nil, List.length_map]); omega)
        have HQ2 := Lib.hid q2
        have HZ3 := Lib.hid (show (L ++ [(⟨#[115, 101, 108, 101, 99, 116]⟩ : ByteArray)] ++ [r.role, r.schema, r.table] ++ [r.col]).length ≤ 45000 from by (try simp only [List.length_append, List.length_cons, List.length_nil, List.length_map]); omega)
        have HQ3 := Lib.hid q3
        have HS := Lib.hid (show rowL r = none from by simp [rowL, andL, HK.out, HK2.out, HE.out, b_select, HQ1.out, HQ2.out, HQ3.out])
        clear h q1 q2 q3
        go_enter Tryz.func64, Tryz.ntmps64
        go_wp2_with (first
          | (go_at_call 61; (with_reducible refine (lay2 w0 _ b _ _ _ _ H0.out HZ0.out HE0.out).mono ?_); rintro e w1 ⟨rfl, h⟩; have r0b0 := HM0.out _ _ h; have yb0b0 := r0b0.1; have y0b0c1 := r0b0.cell (j := 1) rfl; have y0b0c2 := r0b0.cell (j := 2) rfl; have y0b0c3 := r0b0.cell (j := 3) rfl; clear r0b0; have H1 := Lib.hid h; clear h)
          | (go_at_call 91; (with_reducible refine (nam3 w0 _ b _ _ _ _ _ _ H1.out HT.out HZ1.out rfl hsm.out.role hsm.out.schema hsm.out.table).mono ?_); rintro e w2 h; rw [HQ1.out] at h; obtain ⟨rfl, h⟩ := h; have r1b0 := HM0.out _ _ h; have yb1b0 := r1b0.1; have y1b0c0 := r1b0.cell (j := 0) rfl; have y1b0c5 := r1b0.cell (j := 5) rfl; have y1b0c6 := r1b0.cell (j := 6) rfl; have y1b0c7 := r1b0.cell (j := 7) rfl; have y1b0c8 := r1b0.cell (j := 8) rfl; have y1b0c4 := r1b0.cell (j := 4) rfl; clear r1b0; have H2 := Lib.hid h; clear h)
          | (go_at_call 91; (with_reducible refine (nam1 w0 _ b _ _ _ _ H2.out HT.out HZ2.out rfl hsm.out.col).mono ?_); rintro e w3 h; rw [HQ2.out] at h; obtain ⟨rfl, h⟩ := h; have r2b0 := HM0.out _ _ h; have yb2b0 := r2b0.1; have y2b0c6 := r2b0.cell (j := 6) rfl; have y2b0c7 := r2b0.cell (j := 7) rfl; have y2b0c8 := r2b0.cell (j := 8) rfl; have y2b0c4 := r2b0.cell (j := 4) rfl; clear r2b0; have H3 := Lib.hid h; clear h)
          | (go_at_call 96; (with_reducible refine (val1 w0 _ b _ _ _ _ H3.out HT.out HZ3.out rfl hsm.out.text).mono ?_); rintro e w4 h; rw [HQ3.out] at h; obtain ⟨he, h⟩ := h; have H4 := Lib.hid h; clear h; unfold NoL at he; subst he))
        rw [HS.out]
        exact ⟨rfl, rfl, H4.out⟩
      · rcases vals_cases r.row with q4 | q4
        · have H0 := Lib.hid (h.push (.cells #[.int .i64 r.kind, .string r.role, .string r.schema, .string r.table, .slice A3 r.row.length k3, .string r.col, .int .i64 r.v.kind, .int .i64 r.v.int, .string r.v.text] 41))
          have HM0 := Lib.hid (show ∀ L' V, LyS w0 ((w.heap.size, .cells #[.int .i64 r.kind, .string r.role, .string r.schema, .string r.table, .slice A3 r.row.length k3, .string r.col, .int .i64 r.v.kind, .int .i64 r.v.int, .string r.v.text] 41) :: Q) b L' V → RowAt V (w.heap.size) [.int .i64 r.kind, .string r.role, .string r.schema, .string r.table, .slice A3 r.row.length k3, .string r.col, .int .i64 r.v.kind, .int .i64 r.v.int, .string r.v.text] from fun L' V h => h.same List.mem_cons_self)
          have HE0 := Lib.hid (show w.heap.size + 1 = (w.alloc (.cells #[.int .i64 r.kind, .string r.role, .string r.schema, .string r.table, .slice A3 r.row.length k3, .string r.col, .int .i64 r.v.kind, .int .i64 r.v.int, .string r.v.text] 41)).heap.size from by simp)
          have HZ0 := Lib.hid (show (L).length ≤ 40000 from by (try simp only [List.length_append, List.length_cons, List.length_nil, List.length_map]); omega)
          have HZ1 := Lib.hid (show (L ++ [(⟨#[115, 101, 108, 101, 99, 116]⟩ : ByteArray)]).length ≤ 45000 from by (try simp only [List.length_append, List.length_cons, List.length_nil, List.length_map]); omega)
          have HQ1 := Lib.hid q1
          have HZ2 := Lib.hid (show (L ++ [(⟨#[115, 101, 108, 101, 99, 116]⟩ : ByteArray)] ++ [r.role, r.schema, r.table]).length ≤ 45000 from by (try simp only [List.length_append, List.length_cons, List.length_nil, List.length_map]); omega)
          have HQ2 := Lib.hid q2
          have HZ3 := Lib.hid (show (L ++ [(⟨#[115, 101, 108, 101, 99, 116]⟩ : ByteArray)] ++ [r.role, r.schema, r.table] ++ [r.col]).length ≤ 45000 from by (try simp only [List.length_append, List.length_cons, List.length_nil, List.length_map]); omega)
          have HQ3 := Lib.hid q3
          have HZ4 := Lib.hid (show (L ++ [(⟨#[115, 101, 108, 101, 99, 116]⟩ : ByteArray)] ++ [r.role, r.schema, r.table] ++ [r.col] ++ List.map valT [r.v]).length + r.row.length ≤ 50000 from by (try simp only [List.length_append, List.length_cons, List.length_nil, List.length_map]); omega)
          have HQ4 := Lib.hid q4
          have HS := Lib.hid (show rowL r = none from by simp [rowL, andL, HK.out, HK2.out, HE.out, b_select, HQ1.out, HQ2.out, HQ3.out, HQ4.out])
          clear h q1 q2 q3 q4
          go_enter Tryz.func64, Tryz.ntmps64
          go_wp2_with (first
            | (go_at_call 61; (with_reducible refine (lay2 w0 _ b _ _ _ _ H0.out HZ0.out HE0.out).mono ?_); rintro e w1 ⟨rfl, h⟩; have r0b0 := HM0.out _ _ h; have yb0b0 := r0b0.1; have y0b0c1 := r0b0.cell (j := 1) rfl; have y0b0c2 := r0b0.cell (j := 2) rfl; have y0b0c3 := r0b0.cell (j := 3) rfl; clear r0b0; have H1 := Lib.hid h; clear h)
            | (go_at_call 91; (with_reducible refine (nam3 w0 _ b _ _ _ _ _ _ H1.out HT.out HZ1.out rfl hsm.out.role hsm.out.schema hsm.out.table).mono ?_); rintro e w2 h; rw [HQ1.out] at h; obtain ⟨rfl, h⟩ := h; have r1b0 := HM0.out _ _ h; have yb1b0 := r1b0.1; have y1b0c0 := r1b0.cell (j := 0) rfl; have y1b0c5 := r1b0.cell (j := 5) rfl; have y1b0c6 := r1b0.cell (j := 6) rfl; have y1b0c7 := r1b0.cell (j := 7) rfl; have y1b0c8 := r1b0.cell (j := 8) rfl; have y1b0c4 := r1b0.cell (j := 4) rfl; clear r1b0; have H2 := Lib.hid h; clear h)
            | (go_at_call 91; (with_reducible refine (nam1 w0 _ b _ _ _ _ H2.out HT.out HZ2.out rfl hsm.out.col).mono ?_); rintro e w3 h; rw [HQ2.out] at h; obtain ⟨rfl, h⟩ := h; have r2b0 := HM0.out _ _ h; have yb2b0 := r2b0.1; have y2b0c6 := r2b0.cell (j := 6) rfl; have y2b0c7 := r2b0.cell (j := 7) rfl; have y2b0c8 := r2b0.cell (j := 8) rfl; have y2b0c4 := r2b0.cell (j := 4) rfl; clear r2b0; have H3 := Lib.hid h; clear h)
            | (go_at_call 96; (with_reducible refine (val1 w0 _ b _ _ _ _ H3.out HT.out HZ3.out rfl hsm.out.text).mono ?_); rintro e w4 h; rw [HQ3.out] at h; obtain ⟨rfl, h⟩ := h; have r3b0 := HM0.out _ _ h; have yb3b0 := r3b0.1; have y3b0c4 := r3b0.cell (j := 4) rfl; clear r3b0; have H4 := Lib.hid h; clear h)
            | (go_at_call 96; (with_reducible refine (values_in w0 _ b _ r.row A3 k3 _ H4.out (fun L' V h => vals_aft h.aft HV.out) HT.out HZ4.out).mono ?_); rintro e w5 h; rw [HQ4.out] at h; obtain ⟨he, h⟩ := h; have H5 := Lib.hid h; clear h; unfold NoL at he; subst he))
          rw [HS.out]
          exact ⟨rfl, rfl, H5.out⟩
        · have H0 := Lib.hid (h.push (.cells #[.int .i64 r.kind, .string r.role, .string r.schema, .string r.table, .slice A3 r.row.length k3, .string r.col, .int .i64 r.v.kind, .int .i64 r.v.int, .string r.v.text] 41))
          have HM0 := Lib.hid (show ∀ L' V, LyS w0 ((w.heap.size, .cells #[.int .i64 r.kind, .string r.role, .string r.schema, .string r.table, .slice A3 r.row.length k3, .string r.col, .int .i64 r.v.kind, .int .i64 r.v.int, .string r.v.text] 41) :: Q) b L' V → RowAt V (w.heap.size) [.int .i64 r.kind, .string r.role, .string r.schema, .string r.table, .slice A3 r.row.length k3, .string r.col, .int .i64 r.v.kind, .int .i64 r.v.int, .string r.v.text] from fun L' V h => h.same List.mem_cons_self)
          have HE0 := Lib.hid (show w.heap.size + 1 = (w.alloc (.cells #[.int .i64 r.kind, .string r.role, .string r.schema, .string r.table, .slice A3 r.row.length k3, .string r.col, .int .i64 r.v.kind, .int .i64 r.v.int, .string r.v.text] 41)).heap.size from by simp)
          have HZ0 := Lib.hid (show (L).length ≤ 40000 from by (try simp only [List.length_append, List.length_cons, List.length_nil, List.length_map]); omega)
          have HZ1 := Lib.hid (show (L ++ [(⟨#[115, 101, 108, 101, 99, 116]⟩ : ByteArray)]).length ≤ 45000 from by (try simp only [List.length_append, List.length_cons, List.length_nil, List.length_map]); omega)
          have HQ1 := Lib.hid q1
          have HZ2 := Lib.hid (show (L ++ [(⟨#[115, 101, 108, 101, 99, 116]⟩ : ByteArray)] ++ [r.role, r.schema, r.table]).length ≤ 45000 from by (try simp only [List.length_append, List.length_cons, List.length_nil, List.length_map]); omega)
          have HQ2 := Lib.hid q2
          have HZ3 := Lib.hid (show (L ++ [(⟨#[115, 101, 108, 101, 99, 116]⟩ : ByteArray)] ++ [r.role, r.schema, r.table] ++ [r.col]).length ≤ 45000 from by (try simp only [List.length_append, List.length_cons, List.length_nil, List.length_map]); omega)
          have HQ3 := Lib.hid q3
          have HZ4 := Lib.hid (show (L ++ [(⟨#[115, 101, 108, 101, 99, 116]⟩ : ByteArray)] ++ [r.role, r.schema, r.table] ++ [r.col] ++ List.map valT [r.v]).length + r.row.length ≤ 50000 from by (try simp only [List.length_append, List.length_cons, List.length_nil, List.length_map]); omega)
          have HQ4 := Lib.hid q4
          have HS := Lib.hid (show rowL r = some ([(⟨#[115, 101, 108, 101, 99, 116]⟩ : ByteArray)] ++ ([r.role, r.schema, r.table] ++ ([r.col] ++ (List.map valT [r.v] ++ (List.map valT r.row))))) from by simp [rowL, andL, HK.out, HK2.out, HE.out, b_select, HQ1.out, HQ2.out, HQ3.out, HQ4.out])
          clear h q1 q2 q3 q4
          go_enter Tryz.func64, Tryz.ntmps64
          go_wp2_with (first
            | (go_at_call 61; (with_reducible refine (lay2 w0 _ b _ _ _ _ H0.out HZ0.out HE0.out).mono ?_); rintro e w1 ⟨rfl, h⟩; have r0b0 := HM0.out _ _ h; have yb0b0 := r0b0.1; have y0b0c1 := r0b0.cell (j := 1) rfl; have y0b0c2 := r0b0.cell (j := 2) rfl; have y0b0c3 := r0b0.cell (j := 3) rfl; clear r0b0; have H1 := Lib.hid h; clear h)
            | (go_at_call 91; (with_reducible refine (nam3 w0 _ b _ _ _ _ _ _ H1.out HT.out HZ1.out rfl hsm.out.role hsm.out.schema hsm.out.table).mono ?_); rintro e w2 h; rw [HQ1.out] at h; obtain ⟨rfl, h⟩ := h; have r1b0 := HM0.out _ _ h; have yb1b0 := r1b0.1; have y1b0c0 := r1b0.cell (j := 0) rfl; have y1b0c5 := r1b0.cell (j := 5) rfl; have y1b0c6 := r1b0.cell (j := 6) rfl; have y1b0c7 := r1b0.cell (j := 7) rfl; have y1b0c8 := r1b0.cell (j := 8) rfl; have y1b0c4 := r1b0.cell (j := 4) rfl; clear r1b0; have H2 := Lib.hid h; clear h)
            | (go_at_call 91; (with_reducible refine (nam1 w0 _ b _ _ _ _ H2.out HT.out HZ2.out rfl hsm.out.col).mono ?_); rintro e w3 h; rw [HQ2.out] at h; obtain ⟨rfl, h⟩ := h; have r2b0 := HM0.out _ _ h; have yb2b0 := r2b0.1; have y2b0c6 := r2b0.cell (j := 6) rfl; have y2b0c7 := r2b0.cell (j := 7) rfl; have y2b0c8 := r2b0.cell (j := 8) rfl; have y2b0c4 := r2b0.cell (j := 4) rfl; clear r2b0; have H3 := Lib.hid h; clear h)
            | (go_at_call 96; (with_reducible refine (val1 w0 _ b _ _ _ _ H3.out HT.out HZ3.out rfl hsm.out.text).mono ?_); rintro e w4 h; rw [HQ3.out] at h; obtain ⟨rfl, h⟩ := h; have r3b0 := HM0.out _ _ h; have yb3b0 := r3b0.1; have y3b0c4 := r3b0.cell (j := 4) rfl; clear r3b0; have H4 := Lib.hid h; clear h)
            | (go_at_call 96; (with_reducible refine (values_in w0 _ b _ r.row A3 k3 _ H4.out (fun L' V h => vals_aft h.aft HV.out) HT.out HZ4.out).mono ?_); rintro e w5 h; rw [HQ4.out] at h; obtain ⟨rfl, h⟩ := h; have H5 := Lib.hid h; clear h))
          go_end0
          rw [HS.out]
          exact ⟨rfl, LyS.conv (by first | (simp only [List.append_assoc]; rfl) | simp only [List.append_assoc]) H5.out.pop⟩
set_option maxHeartbeats 4000000 in
theorem row_k3n (w0 : World) (Q : List (Nat × Obj)) (b : Nat) (L : Ws) (r : ROp) (A3 : Option Addr) (k3 : Nat) (w : World) (h : LyS w0 Q b L w) (ht : TabW w0) (sm : SmO r) (hn : L.length ≤ 100) (hv : SlAt w0 3 ValR A3 k3 r.row) (hlr : r.row.length ≤ 4100) (hk : r.kind ≠ 1) (hk2 : r.kind ≠ 2) (hc : eqS r.col zBy = true) :
    Calls Tryz.prog 64 #[.pointer (some ⟨b, 0, none⟩), .agg #[.int .i64 r.kind, .string r.role, .string r.schema, .string r.table, .slice A3 r.row.length k3, .string r.col, .int .i64 r.v.kind, .int .i64 r.v.int, .string r.v.text]] w (LyQ w0 Q b L (rowL r)) := by
  have b1 : (r.kind == 1) = false := by simp [hk]
  have b1n : (r.kind != 1) = true := by simp [hk]
  have b2 : (r.kind == 2) = false := by simp [hk2]
  have HK := Lib.hid hk
  have HK2 := Lib.hid hk2
  clear hk hk2
  have e1 : r.col.toList.isEmpty = true := (isEmp_eqS r.col).trans hc
  have HE := Lib.hid hc
  clear hc
  have HT := Lib.hid ht
  have hsm := Lib.hid sm
  have HV := Lib.hid hv
  clear ht sm hv
  rcases nms_cases [r.role, r.schema, r.table] with q1 | q1
  · have H0 := Lib.hid (h.push (.cells #[.int .i64 r.kind, .string r.role, .string r.schema, .string r.table, .slice A3 r.row.length k3, .string r.col, .int .i64 r.v.kind, .int .i64 r.v.int, .string r.v.text] 41))
    have HM0 := Lib.hid (show ∀ L' V, LyS w0 ((w.heap.size, .cells #[.int .i64 r.kind, .string r.role, .string r.schema, .string r.table, .slice A3 r.row.length k3, .string r.col, .int .i64 r.v.kind, .int .i64 r.v.int, .string r.v.text] 41) :: Q) b L' V → RowAt V (w.heap.size) [.int .i64 r.kind, .string r.role, .string r.schema, .string r.table, .slice A3 r.row.length k3, .string r.col, .int .i64 r.v.kind, .int .i64 r.v.int, .string r.v.text] from fun L' V h => h.same List.mem_cons_self)
    have HE0 := Lib.hid (show w.heap.size + 1 = (w.alloc (.cells #[.int .i64 r.kind, .string r.role, .string r.schema, .string r.table, .slice A3 r.row.length k3, .string r.col, .int .i64 r.v.kind, .int .i64 r.v.int, .string r.v.text] 41)).heap.size from by simp)
    have HZ0 := Lib.hid (show (L).length ≤ 40000 from by (try simp only [List.length_append, List.length_cons, List.length_nil, List.length_map]); omega)
    have HZ1 := Lib.hid (show (L ++ [(⟨#[115, 101, 108, 101, 99, 116]⟩ : ByteArray)]).length ≤ 45000 from by (try simp only [List.length_append, List.length_cons, List.length_nil, List.length_map]); omega)
    have HQ1 := Lib.hid q1
    have HS := Lib.hid (show rowL r = none from by simp [rowL, andL, HK.out, HK2.out, HE.out, b_select, HQ1.out])
    clear h q1
    go_enter Tryz.func64, Tryz.ntmps64
    go_wp2_with (first
      | (go_at_call 61; (with_reducible refine (lay2 w0 _ b _ _ _ _ H0.out HZ0.out HE0.out).mono ?_); rintro e w1 ⟨rfl, h⟩; have r0b0 := HM0.out _ _ h; have yb0b0 := r0b0.1; have y0b0c1 := r0b0.cell (j := 1) rfl; have y0b0c2 := r0b0.cell (j := 2) rfl; have y0b0c3 := r0b0.cell (j := 3) rfl; clear r0b0; have H1 := Lib.hid h; clear h)
      | (go_at_call 91; (with_reducible refine (nam3 w0 _ b _ _ _ _ _ _ H1.out HT.out HZ1.out rfl hsm.out.role hsm.out.schema hsm.out.table).mono ?_); rintro e w2 h; rw [HQ1.out] at h; obtain ⟨he, h⟩ := h; have H2 := Lib.hid h; clear h; unfold NoL at he; subst he))
    rw [HS.out]
    exact ⟨rfl, rfl, H2.out⟩
  · rcases vals_cases r.row with q2 | q2
    · have H0 := Lib.hid (h.push (.cells #[.int .i64 r.kind, .string r.role, .string r.schema, .string r.table, .slice A3 r.row.length k3, .string r.col, .int .i64 r.v.kind, .int .i64 r.v.int, .string r.v.text] 41))
      have HM0 := Lib.hid (show ∀ L' V, LyS w0 ((w.heap.size, .cells #[.int .i64 r.kind, .string r.role, .string r.schema, .string r.table, .slice A3 r.row.length k3, .string r.col, .int .i64 r.v.kind, .int .i64 r.v.int, .string r.v.text] 41) :: Q) b L' V → RowAt V (w.heap.size) [.int .i64 r.kind, .string r.role, .string r.schema, .string r.table, .slice A3 r.row.length k3, .string r.col, .int .i64 r.v.kind, .int .i64 r.v.int, .string r.v.text] from fun L' V h => h.same List.mem_cons_self)
      have HE0 := Lib.hid (show w.heap.size + 1 = (w.alloc (.cells #[.int .i64 r.kind, .string r.role, .string r.schema, .string r.table, .slice A3 r.row.length k3, .string r.col, .int .i64 r.v.kind, .int .i64 r.v.int, .string r.v.text] 41)).heap.size from by simp)
      have HZ0 := Lib.hid (show (L).length ≤ 40000 from by (try simp only [List.length_append, List.length_cons, List.length_nil, List.length_map]); omega)
      have HZ1 := Lib.hid (show (L ++ [(⟨#[115, 101, 108, 101, 99, 116]⟩ : ByteArray)]).length ≤ 45000 from by (try simp only [List.length_append, List.length_cons, List.length_nil, List.length_map]); omega)
      have HQ1 := Lib.hid q1
      have HZ2 := Lib.hid (show (L ++ [(⟨#[115, 101, 108, 101, 99, 116]⟩ : ByteArray)] ++ [r.role, r.schema, r.table]).length + r.row.length ≤ 50000 from by (try simp only [List.length_append, List.length_cons, List.length_nil, List.length_map]); omega)
      have HQ2 := Lib.hid q2
      have HS := Lib.hid (show rowL r = none from by simp [rowL, andL, HK.out, HK2.out, HE.out, b_select, HQ1.out, HQ2.out])
      clear h q1 q2
      go_enter Tryz.func64, Tryz.ntmps64
      go_wp2_with (first
        | (go_at_call 61; (with_reducible refine (lay2 w0 _ b _ _ _ _ H0.out HZ0.out HE0.out).mono ?_); rintro e w1 ⟨rfl, h⟩; have r0b0 := HM0.out _ _ h; have yb0b0 := r0b0.1; have y0b0c1 := r0b0.cell (j := 1) rfl; have y0b0c2 := r0b0.cell (j := 2) rfl; have y0b0c3 := r0b0.cell (j := 3) rfl; clear r0b0; have H1 := Lib.hid h; clear h)
        | (go_at_call 91; (with_reducible refine (nam3 w0 _ b _ _ _ _ _ _ H1.out HT.out HZ1.out rfl hsm.out.role hsm.out.schema hsm.out.table).mono ?_); rintro e w2 h; rw [HQ1.out] at h; obtain ⟨rfl, h⟩ := h; have r1b0 := HM0.out _ _ h; have yb1b0 := r1b0.1; have y1b0c0 := r1b0.cell (j := 0) rfl; have y1b0c5 := r1b0.cell (j := 5) rfl; have y1b0c6 := r1b0.cell (j := 6) rfl; have y1b0c7 := r1b0.cell (j := 7) rfl; have y1b0c8 := r1b0.cell (j := 8) rfl; have y1b0c4 := r1b0.cell (j := 4) rfl; clear r1b0; have H2 := Lib.hid h; clear h)
        | (go_at_call 96; (with_reducible refine (values_in w0 _ b _ r.row A3 k3 _ H2.out (fun L' V h => vals_aft h.aft HV.out) HT.out HZ2.out).mono ?_); rintro e w3 h; rw [HQ2.out] at h; obtain ⟨he, h⟩ := h; have H3 := Lib.hid h; clear h; unfold NoL at he; subst he))
      rw [HS.out]
      exact ⟨rfl, rfl, H3.out⟩
    · have H0 := Lib.hid (h.push (.cells #[.int .i64 r.kind, .string r.role, .string r.schema, .string r.table, .slice A3 r.row.length k3, .string r.col, .int .i64 r.v.kind, .int .i64 r.v.int, .string r.v.text] 41))
      have HM0 := Lib.hid (show ∀ L' V, LyS w0 ((w.heap.size, .cells #[.int .i64 r.kind, .string r.role, .string r.schema, .string r.table, .slice A3 r.row.length k3, .string r.col, .int .i64 r.v.kind, .int .i64 r.v.int, .string r.v.text] 41) :: Q) b L' V → RowAt V (w.heap.size) [.int .i64 r.kind, .string r.role, .string r.schema, .string r.table, .slice A3 r.row.length k3, .string r.col, .int .i64 r.v.kind, .int .i64 r.v.int, .string r.v.text] from fun L' V h => h.same List.mem_cons_self)
      have HE0 := Lib.hid (show w.heap.size + 1 = (w.alloc (.cells #[.int .i64 r.kind, .string r.role, .string r.schema, .string r.table, .slice A3 r.row.length k3, .string r.col, .int .i64 r.v.kind, .int .i64 r.v.int, .string r.v.text] 41)).heap.size from by simp)
      have HZ0 := Lib.hid (show (L).length ≤ 40000 from by (try simp only [List.length_append, List.length_cons, List.length_nil, List.length_map]); omega)
      have HZ1 := Lib.hid (show (L ++ [(⟨#[115, 101, 108, 101, 99, 116]⟩ : ByteArray)]).length ≤ 45000 from by (try simp only [List.length_append, List.length_cons, List.length_nil, List.length_map]); omega)
      have HQ1 := Lib.hid q1
      have HZ2 := Lib.hid (show (L ++ [(⟨#[115, 101, 108, 101, 99, 116]⟩ : ByteArray)] ++ [r.role, r.schema, r.table]).length + r.row.length ≤ 50000 from by (try simp only [List.length_append, List.length_cons, List.length_nil, List.length_map]); omega)
      have HQ2 := Lib.hid q2
      have HS := Lib.hid (show rowL r = some ([(⟨#[115, 101, 108, 101, 99, 116]⟩ : ByteArray)] ++ ([r.role, r.schema, r.table] ++ (List.map valT r.row))) from by simp [rowL, andL, HK.out, HK2.out, HE.out, b_select, HQ1.out, HQ2.out])
      clear h q1 q2
      go_enter Tryz.func64, Tryz.ntmps64
      go_wp2_with (first
        | (go_at_call 61; (with_reducible refine (lay2 w0 _ b _ _ _ _ H0.out HZ0.out HE0.out).mono ?_); rintro e w1 ⟨rfl, h⟩; have r0b0 := HM0.out _ _ h; have yb0b0 := r0b0.1; have y0b0c1 := r0b0.cell (j := 1) rfl; have y0b0c2 := r0b0.cell (j := 2) rfl; have y0b0c3 := r0b0.cell (j := 3) rfl; clear r0b0; have H1 := Lib.hid h; clear h)
        | (go_at_call 91; (with_reducible refine (nam3 w0 _ b _ _ _ _ _ _ H1.out HT.out HZ1.out rfl hsm.out.role hsm.out.schema hsm.out.table).mono ?_); rintro e w2 h; rw [HQ1.out] at h; obtain ⟨rfl, h⟩ := h; have r1b0 := HM0.out _ _ h; have yb1b0 := r1b0.1; have y1b0c0 := r1b0.cell (j := 0) rfl; have y1b0c5 := r1b0.cell (j := 5) rfl; have y1b0c6 := r1b0.cell (j := 6) rfl; have y1b0c7 := r1b0.cell (j := 7) rfl; have y1b0c8 := r1b0.cell (j := 8) rfl; have y1b0c4 := r1b0.cell (j := 4) rfl; clear r1b0; have H2 := Lib.hid h; clear h)
        | (go_at_call 96; (with_reducible refine (values_in w0 _ b _ r.row A3 k3 _ H2.out (fun L' V h => vals_aft h.aft HV.out) HT.out HZ2.out).mono ?_); rintro e w3 h; rw [HQ2.out] at h; obtain ⟨rfl, h⟩ := h; have H3 := Lib.hid h; clear h))
      go_end0
      rw [HS.out]
      exact ⟨rfl, LyS.conv (by first | (simp only [List.append_assoc]; rfl) | simp only [List.append_assoc]) H3.out.pop⟩
theorem row_in (w0 : World) (Q : List (Nat × Obj)) (b : Nat) (L : Ws) (r : ROp) (A3 : Option Addr) (k3 : Nat) (w : World) (h : LyS w0 Q b L w) (ht : TabW w0) (sm : SmO r) (hn : L.length ≤ 100) (hv : SlAt w0 3 ValR A3 k3 r.row) (hlr : r.row.length ≤ 4100) :
    Calls Tryz.prog 64 #[.pointer (some ⟨b, 0, none⟩), .agg #[.int .i64 r.kind, .string r.role, .string r.schema, .string r.table, .slice A3 r.row.length k3, .string r.col, .int .i64 r.v.kind, .int .i64 r.v.int, .string r.v.text]] w (LyQ w0 Q b L (rowL r)) := by
  by_cases h1 : r.kind = 1
  · exact row_k1 w0 Q b L r A3 k3 w h ht sm hn hv hlr h1
  by_cases h2 : r.kind = 2
  · cases hc : eqS r.col zBy
    · exact row_k2c w0 Q b L r A3 k3 w h ht sm hn hv hlr h2 hc
    · exact row_k2n w0 Q b L r A3 k3 w h ht sm hn hv hlr h2 hc
  · cases hc : eqS r.col zBy
    · exact row_k3c w0 Q b L r A3 k3 w h ht sm hn hv hlr h1 h2 hc
    · exact row_k3n w0 Q b L r A3 k3 w h ht sm hn hv hlr h1 h2 hc
end Go.Proofs.YtbdanlipghhgpaaGreatDoor

