/- Contracts of the program, part 14. -/
import Derived.Deep.DeepMust
import Derived.Lib.AppendIntMem
import Derived.Recover
import Derived.Defers
import Derived.Deep.Cut
import Derived.Lib.SplitLaws
import Derived.Lib.CountLaws
import Derived.Deep.RegionLaw
import Derived.RegionDies
import Derived.Deep.AppendLies
import Derived.Laws.EntriesVeiled
import Derived.WalkKit
import Derived.WalkSpells
import Derived.WalkLawsBesides
import Derived.Laws.Cells
import Derived.Laws.IdiomCopy
import Derived.Test.YtbdanlipghhgpaaGreatDoorRows
import Derived.Lib.Bytealg
import Derived.Lib.Hide
import Derived.ProofKit
import Derived.OpenShut
import Derived.Deep.Slices
import Derived.ChangeOld
import Derived.SizedLaws
import Derived.Deep.QuietTactic
import Derived.BigQuiet
import Derived.Below
import Derived.Deep.Draws
import Derived.StillTailTactics
import Derived.ShutString
import Derived.Lib.Atoi
import Derived.Lib.ItoaNum
import Derived.Lib.Split
import Derived.Lib.CutLaws
import Derived.Lib.Strings
import Derived.Lib.SlTrimSet
import Derived.Deep.Upon
import Derived.OwnWalk
import Derived.Laws.AppendOwn
import Derived.Shelf.Strings.Builder1
import Derived.Shelf.Strings.Builder2
import Derived.Shelf.Strings.OnBuilder
import Derived.Shelf.Strings.Trim
import Derived.Shelf.Small.Utf8
import Derived.Shelf.Small.Strs
import Derived.Shelf.Small.Wraps
import Derived.Shelf.Strconv.Atoi
import Derived.Shelf.Strconv.Itoa0
import Derived.Shelf.Strconv.Itoa1
import Derived.Shelf.LaysM
import Derived.Shelf.Strconv.Itoa2
import Derived.Shelf.Strconv.Itoa3
import Derived.Shelf.Strings.Search1
import Derived.Shelf.Strings.Search2
import Derived.Shelf.Strings.Search3
import Derived.Shelf.Strings.Cut
import Derived.Shelf.Strings.Count
import Derived.Shelf.Strings.Shaped
import Derived.Shelf.Strings.Prefix
import Derived.Shelf.Strings.Split
import Derived.Shelf.Strings.Runes
import Derived.Shelf.Strings.AsciiSet
import Derived.Shelf.Unicode.DecodeSlow
import Derived.Shelf.Slices.Equal
import Derived.Shelf.Slices.Empties2
import Derived.Shelf.Strings.SlTrimAscii
import Derived.Test.YtbdanlipghhgpaaGreatDoorProg
import Derived.Test.YtbdanlipghhgpaaGreatDoorPartB1
import Derived.Test.YtbdanlipghhgpaaGreatDoorPartB2
import Derived.Test.YtbdanlipghhgpaaGreatDoorPartB3
import Derived.Test.YtbdanlipghhgpaaGreatDoorPartB4
import Derived.Test.YtbdanlipghhgpaaGreatDoorPartB5
import Derived.Test.YtbdanlipghhgpaaGreatDoorPartB6
import Derived.Test.YtbdanlipghhgpaaGreatDoorPartB7
import Derived.Test.YtbdanlipghhgpaaGreatDoorPartB8
import Derived.Test.YtbdanlipghhgpaaGreatDoorPartB9
import Derived.Test.YtbdanlipghhgpaaGreatDoorPartB10
import Derived.Test.YtbdanlipghhgpaaGreatDoorPartB11
import Derived.Test.YtbdanlipghhgpaaGreatDoorPartB12
import Derived.Test.YtbdanlipghhgpaaGreatDoorPartB13
namespace Go.Proofs.YtbdanlipghhgpaaGreatDoor
open Go.RowKit Go.Deep
set_option maxRecDepth 100000
set_option linter.unusedVariables false
def chgX (k : Int) : ByteArray := if k = -9223372036854775808 then b_remove else chgW k
def actM (a : Dact) : Option Ws := if a.kind = 8 then andL (some [chgX a.ck]) (nusL [a.node, a.cn]) else actL a
theorem actM_of {a : Dact} (h : a.kind = 8 → 1 ≤ a.ck) : actM a = actL a := by
  unfold actM
  by_cases hk : a.kind = 8
  · have h1 := h hk
    rw [if_pos hk]
    simp [actL, hk, chgX, show ¬ a.ck = -9223372036854775808 by omega]
  · rw [if_neg hk]
set_option maxHeartbeats 8000000 in
theorem act_k1 (w0 : World) (Q : List (Nat × Obj)) (b : Nat) (L : Ws) (a : Dact) (A : Option Addr) (k : Nat) (A2 : Option Addr) (k2 : Nat) (A3 : Option Addr) (k3 : Nat) (w : World) (h : LyS w0 Q b L w) (ht : TabW w0) (sm : SmC a.cmd) (so : SmO a.row) (hn : L.length ≤ 10) (hcc : SlAt w0 3 ColR A k a.cmd.cols) (hc : SlAt w0 1 StrR A2 k2 a.cmd.rule.cols) (hv : SlAt w0 3 ValR A3 k3 a.row.row) (hlc : a.cmd.cols.length ≤ 4100) (hl : a.cmd.rule.cols.length ≤ 4100) (hlr : a.row.row.length ≤ 4100) (hk : a.kind = 1) :
    Calls Tryz.prog 36 #[.pointer (some ⟨b, 0, none⟩), .agg #[.int .i64 a.kind, .int .i64 a.node, .int .i64 a.n, .int .i64 a.client, .int .i64 a.number, .int .i64 a.cmd.kind, .string a.cmd.actor, .string a.cmd.schema, .string a.cmd.table, .string a.cmd.name, .string a.cmd.role, .slice A a.cmd.cols.length k, .string a.cmd.rule.name, .int .i64 a.cmd.rule.kind, .slice A2 a.cmd.rule.cols.length k2, .int .i64 a.cmd.rule.low, .int .i64 a.cmd.rule.high, .string a.cmd.rule.schema, .string a.cmd.rule.table, .string a.cmd.rule.key, .int .i64 a.cmd.right, .bool a.cmd.opt, .int .i64 a.ck, .int .i64 a.cn, .int .i64 a.row.kind, .string a.row.role, .string a.row.schema, .string a.row.table, .slice A3 a.row.row.length k3, .string a.row.col, .int .i64 a.row.v.kind, .int .i64 a.row.v.int, .string a.row.v.text]] w (LyQ w0 Q b L (actM a)) := by
  have b1 : (a.kind == 1) = true := by simp [hk]
  have b2 : (a.kind == 2) = false := by simp [hk]
  have b12 : (a.kind == 12) = false := by simp [hk]
  have b3 : (a.kind == 3) = false := by simp [hk]
  have b4 : (a.kind == 4) = false := by simp [hk]
  have b5 : (a.kind == 5) = false := by simp [hk]
  have b6 : (a.kind == 6) = false := by simp [hk]
  have b7 : (a.kind == 7) = false := by simp [hk]
  have b8 : (a.kind == 8) = false := by simp [hk]
  have b9 : (a.kind == 9) = false := by simp [hk]
  have b10 : (a.kind == 10) = false := by simp [hk]
  have b11 : (a.kind == 11) = false := by simp [hk]
  have HT := Lib.hid ht
  have HSM := Lib.hid sm
  have HSO := Lib.hid so
  have HC := Lib.hid hc
  have HCC := Lib.hid hcc
  have HV := Lib.hid hv
  clear ht sm so hc hcc hv
  have HK := Lib.hid hk
  clear hk
  rcases nus_cases [a.node] with q1 | q1
  · have H0 := Lib.hid (h.push (.cells #[.int .i64 a.kind, .int .i64 a.node, .int .i64 a.n, .int .i64 a.client, .int .i64 a.number, .int .i64 a.cmd.kind, .string a.cmd.actor, .string a.cmd.schema, .string a.cmd.table, .string a.cmd.name, .string a.cmd.role, .slice A a.cmd.cols.length k, .string a.cmd.rule.name, .int .i64 a.cmd.rule.kind, .slice A2 a.cmd.rule.cols.length k2, .int .i64 a.cmd.rule.low, .int .i64 a.cmd.rule.high, .string a.cmd.rule.schema, .string a.cmd.rule.table, .string a.cmd.rule.key, .int .i64 a.cmd.right, .bool a.cmd.opt, .int .i64 a.ck, .int .i64 a.cn, .int .i64 a.row.kind, .string a.row.role, .string a.row.schema, .string a.row.table, .slice A3 a.row.row.length k3, .string a.row.col, .int .i64 a.row.v.kind, .int .i64 a.row.v.int, .string a.row.v.text] 43))
    have HM0 := Lib.hid (show ∀ L' V, LyS w0 ((w.heap.size, .cells #[.int .i64 a.kind, .int .i64 a.node, .int .i64 a.n, .int .i64 a.client, .int .i64 a.number, .int .i64 a.cmd.kind, .string a.cmd.actor, .string a.cmd.schema, .string a.cmd.table, .string a.cmd.name, .string a.cmd.role, .slice A a.cmd.cols.length k, .string a.cmd.rule.name, .int .i64 a.cmd.rule.kind, .slice A2 a.cmd.rule.cols.length k2, .int .i64 a.cmd.rule.low, .int .i64 a.cmd.rule.high, .string a.cmd.rule.schema, .string a.cmd.rule.table, .string a.cmd.rule.key, .int .i64 a.cmd.right, .bool a.cmd.opt, .int .i64 a.ck, .int .i64 a.cn, .int .i64 a.row.kind, .string a.row.role, .string a.row.schema, .string a.row.table, .slice A3 a.row.row.length k3, .string a.row.col, .int .i64 a.row.v.kind, .int .i64 a.row.v.int, .string a.row.v.text] 43) :: Q) b L' V → RowAt V (w.heap.size) [.int .i64 a.kind, .int .i64 a.node, .int .i64 a.n, .int .i64 a.client, .int .i64 a.number, .int .i64 a.cmd.kind, .string a.cmd.actor, .string a.cmd.schema, .string a.cmd.table, .string a.cmd.name, .string a.cmd.role, .slice A a.cmd.cols.length k, .string a.cmd.rule.name, .int .i64 a.cmd.rule.kind, .slice A2 a.cmd.rule.cols.length k2, .int .i64 a.cmd.rule.low, .int .i64 a.cmd.rule.high, .string a.cmd.rule.schema, .string a.cmd.rule.table, .string a.cmd.rule.key, .int .i64 a.cmd.right, .bool a.cmd.opt, .int .i64 a.ck, .int .i64 a.cn, .int .i64 a.row.kind, .string a.row.role, .string a.row.schema, .string a.row.table, .slice A3 a.row.row.length k3, .string a.row.col, .int .i64 a.row.v.kind, .int .i64 a.row.v.int, .string a.row.v.text] from fun L' V h => h.same List.mem_cons_self)
    have HE0 := Lib.hid (show w.heap.size + 1 = (w.alloc (.cells #[.int .i64 a.kind, .int .i64 a.node, .int .i64 a.n, .int .i64 a.client, .int .i64 a.number, .int .i64 a.cmd.kind, .string a.cmd.actor, .string a.cmd.schema, .string a.cmd.table, .string a.cmd.name, .string a.cmd.role, .slice A a.cmd.cols.length k, .string a.cmd.rule.name, .int .i64 a.cmd.rule.kind, .slice A2 a.cmd.rule.cols.length k2, .int .i64 a.cmd.rule.low, .int .i64 a.cmd.rule.high, .string a.cmd.rule.schema, .string a.cmd.rule.table, .string a.cmd.rule.key, .int .i64 a.cmd.right, .bool a.cmd.opt, .int .i64 a.ck, .int .i64 a.cn, .int .i64 a.row.kind, .string a.row.role, .string a.row.schema, .string a.row.table, .slice A3 a.row.row.length k3, .string a.row.col, .int .i64 a.row.v.kind, .int .i64 a.row.v.int, .string a.row.v.text] 43)).heap.size from by simp)
    have HZ0 := Lib.hid (show (L).length ≤ 40000 from by (try simp only [List.length_append, List.length_cons, List.length_nil, List.length_map]); omega)
    have HZ1 := Lib.hid (show (L ++ [(⟨#[116, 105, 99, 107]⟩ : ByteArray)]).length ≤ 50000 from by (try simp only [List.length_append, List.length_cons, List.length_nil, List.length_map]); omega)
    have HQ1 := Lib.hid q1
    have HS := Lib.hid (show actM a = none from by simp [actM, actL, andL, HK.out, b_tick, HQ1.out])
    clear h q1
    go_enter Tryz.func36, Tryz.ntmps36
    go_wp2_with (first
      | (go_at_call 61; (with_reducible refine (lay2 w0 _ b _ _ _ _ H0.out HZ0.out HE0.out).mono ?_); rintro e w1 ⟨rfl, h⟩; have r0b0 := HM0.out _ _ h; have yb0b0 := r0b0.1; have y0b0c1 := r0b0.cell (j := 1) rfl; clear r0b0; have H1 := Lib.hid h; clear h)
      | (go_at_call 62; (with_reducible refine (num1 w0 _ b _ _ _ _ H1.out HT.out HZ1.out rfl).mono ?_); rintro e w2 h; rw [HQ1.out] at h; obtain ⟨he, h⟩ := h; have H2 := Lib.hid h; clear h; unfold NoL at he; subst he))
    rw [HS.out]
    exact ⟨rfl, rfl, H2.out⟩
  · have H0 := Lib.hid (h.push (.cells #[.int .i64 a.kind, .int .i64 a.node, .int .i64 a.n, .int .i64 a.client, .int .i64 a.number, .int .i64 a.cmd.kind, .string a.cmd.actor, .string a.cmd.schema, .string a.cmd.table, .string a.cmd.name, .string a.cmd.role, .slice A a.cmd.cols.length k, .string a.cmd.rule.name, .int .i64 a.cmd.rule.kind, .slice A2 a.cmd.rule.cols.length k2, .int .i64 a.cmd.rule.low, .int .i64 a.cmd.rule.high, .string a.cmd.rule.schema, .string a.cmd.rule.table, .string a.cmd.rule.key, .int .i64 a.cmd.right, .bool a.cmd.opt, .int .i64 a.ck, .int .i64 a.cn, .int .i64 a.row.kind, .string a.row.role, .string a.row.schema, .string a.row.table, .slice A3 a.row.row.length k3, .string a.row.col, .int .i64 a.row.v.kind, .int .i64 a.row.v.int, .string a.row.v.text] 43))
    have HM0 := Lib.hid (show ∀ L' V, LyS w0 ((w.heap.size, .cells #[.int .i64 a.kind, .int .i64 a.node, .int .i64 a.n, .int .i64 a.client, .int .i64 a.number, .int .i64 a.cmd.kind, .string a.cmd.actor, .string a.cmd.schema, .string a.cmd.table, .string a.cmd.name, .string a.cmd.role, .slice A a.cmd.cols.length k, .string a.cmd.rule.name, .int .i64 a.cmd.rule.kind, .slice A2 a.cmd.rule.cols.length k2, .int .i64 a.cmd.rule.low, .int .i64 a.cmd.rule.high, .string a.cmd.rule.schema, .string a.cmd.rule.table, .string a.cmd.rule.key, .int .i64 a.cmd.right, .bool a.cmd.opt, .int .i64 a.ck, .int .i64 a.cn, .int .i64 a.row.kind, .string a.row.role, .string a.row.schema, .string a.row.table, .slice A3 a.row.row.length k3, .string a.row.col, .int .i64 a.row.v.kind, .int .i64 a.row.v.int, .string a.row.v.text] 43) :: Q) b L' V → RowAt V (w.heap.size) [.int .i64 a.kind, .int .i64 a.node, .int .i64 a.n, .int .i64 a.client, .int .i64 a.number, .int .i64 a.cmd.kind, .string a.cmd.actor, .string a.cmd.schema, .string a.cmd.table, .string a.cmd.name, .string a.cmd.role, .slice A a.cmd.cols.length k, .string a.cmd.rule.name, .int .i64 a.cmd.rule.kind, .slice A2 a.cmd.rule.cols.length k2, .int .i64 a.cmd.rule.low, .int .i64 a.cmd.rule.high, .string a.cmd.rule.schema, .string a.cmd.rule.table, .string a.cmd.rule.key, .int .i64 a.cmd.right, .bool a.cmd.opt, .int .i64 a.ck, .int .i64 a.cn, .int .i64 a.row.kind, .string a.row.role, .string a.row.schema, .string a.row.table, .slice A3 a.row.row.length k3, .string a.row.col, .int .i64 a.row.v.kind, .int .i64 a.row.v.int, .string a.row.v.text] from fun L' V h => h.same List.mem_cons_self)
    have HE0 := Lib.hid (show w.heap.size + 1 = (w.alloc (.cells #[.int .i64 a.kind, .int .i64 a.node, .int .i64 a.n, .int .i64 a.client, .int .i64 a.number, .int .i64 a.cmd.kind, .string a.cmd.actor, .string a.cmd.schema, .string a.cmd.table, .string a.cmd.name, .string a.cmd.role, .slice A a.cmd.cols.length k, .string a.cmd.rule.name, .int .i64 a.cmd.rule.kind, .slice A2 a.cmd.rule.cols.length k2, .int .i64 a.cmd.rule.low, .int .i64 a.cmd.rule.high, .string a.cmd.rule.schema, .string a.cmd.rule.table, .string a.cmd.rule.key, .int .i64 a.cmd.right, .bool a.cmd.opt, .int .i64 a.ck, .int .i64 a.cn, .int .i64 a.row.kind, .string a.row.role, .string a.row.schema, .string a.row.table, .slice A3 a.row.row.length k3, .string a.row.col, .int .i64 a.row.v.kind, .int .i64 a.row.v.int, .string a.row.v.text] 43)).heap.size from by simp)
    have HZ0 := Lib.hid (show (L).length ≤ 40000 from by (try simp only [List.length_append, List.length_cons, List.length_nil, List.length_map]); omega)
    have HZ1 := Lib.hid (show (L ++ [(⟨#[116, 105, 99, 107]⟩ : ByteArray)]).length ≤ 50000 from by (try simp only [List.length_append, List.length_cons, List.length_nil, List.length_map]); omega)
    have HQ1 := Lib.hid q1
    have HS := Lib.hid (show actM a = some ([(⟨#[116, 105, 99, 107]⟩ : ByteArray)] ++ (List.map itoaB [a.node])) from by simp [actM, actL, andL, HK.out, b_tick, HQ1.out])
    clear h q1
    go_enter Tryz.func36, Tryz.ntmps36
    go_wp2_with (first
      | (go_at_call 61; (with_reducible refine (lay2 w0 _ b _ _ _ _ H0.out HZ0.out HE0.out).mono ?_); rintro e w1 ⟨rfl, h⟩; have r0b0 := HM0.out _ _ h; have yb0b0 := r0b0.1; have y0b0c1 := r0b0.cell (j := 1) rfl; clear r0b0; have H1 := Lib.hid h; clear h)
      | (go_at_call 62; (with_reducible refine (num1 w0 _ b _ _ _ _ H1.out HT.out HZ1.out rfl).mono ?_); rintro e w2 h; rw [HQ1.out] at h; obtain ⟨rfl, h⟩ := h; have H2 := Lib.hid h; clear h))
    go_end0
    rw [HS.out]
    exact ⟨rfl, LyS.conv (by first | (simp only [List.append_assoc]; rfl) | simp only [List.append_assoc]) H2.out.pop⟩
set_option maxHeartbeats 8000000 in
theorem act_k2 (w0 : World) (Q : List (Nat × Obj)) (b : Nat) (L : Ws) (a : Dact) (A : Option Addr) (k : Nat) (A2 : Option Addr) (k2 : Nat) (A3 : Option Addr) (k3 : Nat) (w : World) (h : LyS w0 Q b L w) (ht : TabW w0) (sm : SmC a.cmd) (so : SmO a.row) (hn : L.length ≤ 10) (hcc : SlAt w0 3 ColR A k a.cmd.cols) (hc : SlAt w0 1 StrR A2 k2 a.cmd.rule.cols) (hv : SlAt w0 3 ValR A3 k3 a.row.row) (hlc : a.cmd.cols.length ≤ 4100) (hl : a.cmd.rule.cols.length ≤ 4100) (hlr : a.row.row.length ≤ 4100) (hk : a.kind = 2) :
    Calls Tryz.prog 36 #[.pointer (some ⟨b, 0, none⟩), .agg #[.int .i64 a.kind, .int .i64 a.node, .int .i64 a.n, .int .i64 a.client, .int .i64 a.number, .int .i64 a.cmd.kind, .string a.cmd.actor, .string a.cmd.schema, .string a.cmd.table, .string a.cmd.name, .string a.cmd.role, .slice A a.cmd.cols.length k, .string a.cmd.rule.name, .int .i64 a.cmd.rule.kind, .slice A2 a.cmd.rule.cols.length k2, .int .i64 a.cmd.rule.low, .int .i64 a.cmd.rule.high, .string a.cmd.rule.schema, .string a.cmd.rule.table, .string a.cmd.rule.key, .int .i64 a.cmd.right, .bool a.cmd.opt, .int .i64 a.ck, .int .i64 a.cn, .int .i64 a.row.kind, .string a.row.role, .string a.row.schema, .string a.row.table, .slice A3 a.row.row.length k3, .string a.row.col, .int .i64 a.row.v.kind, .int .i64 a.row.v.int, .string a.row.v.text]] w (LyQ w0 Q b L (actM a)) := by
  have b1 : (a.kind == 1) = false := by simp [hk]
  have b2 : (a.kind == 2) = true := by simp [hk]
  have b12 : (a.kind == 12) = false := by simp [hk]
  have b3 : (a.kind == 3) = false := by simp [hk]
  have b4 : (a.kind == 4) = false := by simp [hk]
  have b5 : (a.kind == 5) = false := by simp [hk]
  have b6 : (a.kind == 6) = false := by simp [hk]
  have b7 : (a.kind == 7) = false := by simp [hk]
  have b8 : (a.kind == 8) = false := by simp [hk]
  have b9 : (a.kind == 9) = false := by simp [hk]
  have b10 : (a.kind == 10) = false := by simp [hk]
  have b11 : (a.kind == 11) = false := by simp [hk]
  have HT := Lib.hid ht
  have HSM := Lib.hid sm
  have HSO := Lib.hid so
  have HC := Lib.hid hc
  have HCC := Lib.hid hcc
  have HV := Lib.hid hv
  clear ht sm so hc hcc hv
  have HK := Lib.hid hk
  clear hk
  have H0 := Lib.hid (h.push (.cells #[.int .i64 a.kind, .int .i64 a.node, .int .i64 a.n, .int .i64 a.client, .int .i64 a.number, .int .i64 a.cmd.kind, .string a.cmd.actor, .string a.cmd.schema, .string a.cmd.table, .string a.cmd.name, .string a.cmd.role, .slice A a.cmd.cols.length k, .string a.cmd.rule.name, .int .i64 a.cmd.rule.kind, .slice A2 a.cmd.rule.cols.length k2, .int .i64 a.cmd.rule.low, .int .i64 a.cmd.rule.high, .string a.cmd.rule.schema, .string a.cmd.rule.table, .string a.cmd.rule.key, .int .i64 a.cmd.right, .bool a.cmd.opt, .int .i64 a.ck, .int .i64 a.cn, .int .i64 a.row.kind, .string a.row.role, .string a.row.schema, .string a.row.table, .slice A3 a.row.row.length k3, .string a.row.col, .int .i64 a.row.v.kind, .int .i64 a.row.v.int, .string a.row.v.text] 43))
  have HM0 := Lib.hid (show ∀ L' V, LyS w0 ((w.heap.size, .cells #[.int .i64 a.kind, .int .i64 a.node, .int .i64 a.n, .int .i64 a.client, .int .i64 a.number, .int .i64 a.cmd.kind, .string a.cmd.actor, .string a.cmd.schema, .string a.cmd.table, .string a.cmd.name, .string a.cmd.role, .slice A a.cmd.cols.length k, .string a.cmd.rule.name, .int .i64 a.cmd.rule.kind, .slice A2 a.cmd.rule.cols.length k2, .int .i64 a.cmd.rule.low, .int .i64 a.cmd.rule.high, .string a.cmd.rule.schema, .string a.cmd.rule.table, .string a.cmd.rule.key, .int .i64 a.cmd.right, .bool a.cmd.opt, .int .i64 a.ck, .int .i64 a.cn, .int .i64 a.row.kind, .string a.row.role, .string a.row.schema, .string a.row.table, .slice A3 a.row.row.length k3, .string a.row.col, .int .i64 a.row.v.kind, .int .i64 a.row.v.int, .string a.row.v.text] 43) :: Q) b L' V → RowAt V (w.heap.size) [.int .i64 a.kind, .int .i64 a.node, .int .i64 a.n, .int .i64 a.client, .int .i64 a.number, .int .i64 a.cmd.kind, .string a.cmd.actor, .string a.cmd.schema, .string a.cmd.table, .string a.cmd.name, .string a.cmd.role, .slice A a.cmd.cols.length k, .string a.cmd.rule.name, .int .i64 a.cmd.rule.kind, .slice A2 a.cmd.rule.cols.length k2, .int .i64 a.cmd.rule.low, .int .i64 a.cmd.rule.high, .string a.cmd.rule.schema, .string a.cmd.rule.table, .string a.cmd.rule.key, .int .i64 a.cmd.right, .bool a.cmd.opt, .int .i64 a.ck, .int .i64 a.cn, .int .i64 a.row.kind, .string a.row.role, .string a.row.schema, .string a.row.table, .slice A3 a.row.row.length k3, .string a.row.col, .int .i64 a.row.v.kind, .int .i64 a.row.v.int, .string a.row.v.text] from fun L' V h => h.same List.mem_cons_self)
  have HE0 := Lib.hid (show w.heap.size + 1 = (w.alloc (.cells #[.int .i64 a.kind, .int .i64 a.node, .int .i64 a.n, .int .i64 a.client, .int .i64 a.number, .int .i64 a.cmd.kind, .string a.cmd.actor, .string a.cmd.schema, .string a.cmd.table, .string a.cmd.name, .string a.cmd.role, .slice A a.cmd.cols.length k, .string a.cmd.rule.name, .int .i64 a.cmd.rule.kind, .slice A2 a.cmd.rule.cols.length k2, .int .i64 a.cmd.rule.low, .int .i64 a.cmd.rule.high, .string a.cmd.rule.schema, .string a.cmd.rule.table, .string a.cmd.rule.key, .int .i64 a.cmd.right, .bool a.cmd.opt, .int .i64 a.ck, .int .i64 a.cn, .int .i64 a.row.kind, .string a.row.role, .string a.row.schema, .string a.row.table, .slice A3 a.row.row.length k3, .string a.row.col, .int .i64 a.row.v.kind, .int .i64 a.row.v.int, .string a.row.v.text] 43)).heap.size from by simp)
  have HZ0 := Lib.hid (show (L).length ≤ 40000 from by (try simp only [List.length_append, List.length_cons, List.length_nil, List.length_map]); omega)
  have HS := Lib.hid (show actM a = some ([(⟨#[119, 111, 114, 108, 100]⟩ : ByteArray)]) from by simp [actM, actL, andL, HK.out, b_world])
  clear h 
  go_enter Tryz.func36, Tryz.ntmps36
  go_wp2_with (first
    | (go_at_call 61; (with_reducible refine (lay2 w0 _ b _ _ _ _ H0.out HZ0.out HE0.out).mono ?_); rintro e w1 ⟨rfl, h⟩; have H1 := Lib.hid h; clear h))
  go_end0
  rw [HS.out]
  exact ⟨rfl, LyS.conv (by first | (simp only [List.append_assoc]; rfl) | simp only [List.append_assoc]) H1.out.pop⟩
set_option maxHeartbeats 8000000 in
theorem act_k12 (w0 : World) (Q : List (Nat × Obj)) (b : Nat) (L : Ws) (a : Dact) (A : Option Addr) (k : Nat) (A2 : Option Addr) (k2 : Nat) (A3 : Option Addr) (k3 : Nat) (w : World) (h : LyS w0 Q b L w) (ht : TabW w0) (sm : SmC a.cmd) (so : SmO a.row) (hn : L.length ≤ 10) (hcc : SlAt w0 3 ColR A k a.cmd.cols) (hc : SlAt w0 1 StrR A2 k2 a.cmd.rule.cols) (hv : SlAt w0 3 ValR A3 k3 a.row.row) (hlc : a.cmd.cols.length ≤ 4100) (hl : a.cmd.rule.cols.length ≤ 4100) (hlr : a.row.row.length ≤ 4100) (hk : a.kind = 12) :
    Calls Tryz.prog 36 #[.pointer (some ⟨b, 0, none⟩), .agg #[.int .i64 a.kind, .int .i64 a.node, .int .i64 a.n, .int .i64 a.client, .int .i64 a.number, .int .i64 a.cmd.kind, .string a.cmd.actor, .string a.cmd.schema, .string a.cmd.table, .string a.cmd.name, .string a.cmd.role, .slice A a.cmd.cols.length k, .string a.cmd.rule.name, .int .i64 a.cmd.rule.kind, .slice A2 a.cmd.rule.cols.length k2, .int .i64 a.cmd.rule.low, .int .i64 a.cmd.rule.high, .string a.cmd.rule.schema, .string a.cmd.rule.table, .string a.cmd.rule.key, .int .i64 a.cmd.right, .bool a.cmd.opt, .int .i64 a.ck, .int .i64 a.cn, .int .i64 a.row.kind, .string a.row.role, .string a.row.schema, .string a.row.table, .slice A3 a.row.row.length k3, .string a.row.col, .int .i64 a.row.v.kind, .int .i64 a.row.v.int, .string a.row.v.text]] w (LyQ w0 Q b L (actM a)) := by
  have b1 : (a.kind == 1) = false := by simp [hk]
  have b2 : (a.kind == 2) = false := by simp [hk]
  have b12 : (a.kind == 12) = true := by simp [hk]
  have b3 : (a.kind == 3) = false := by simp [hk]
  have b4 : (a.kind == 4) = false := by simp [hk]
  have b5 : (a.kind == 5) = false := by simp [hk]
  have b6 : (a.kind == 6) = false := by simp [hk]
  have b7 : (a.kind == 7) = false := by simp [hk]
  have b8 : (a.kind == 8) = false := by simp [hk]
  have b9 : (a.kind == 9) = false := by simp [hk]
  have b10 : (a.kind == 10) = false := by simp [hk]
  have b11 : (a.kind == 11) = false := by simp [hk]
  have HT := Lib.hid ht
  have HSM := Lib.hid sm
  have HSO := Lib.hid so
  have HC := Lib.hid hc
  have HCC := Lib.hid hcc
  have HV := Lib.hid hv
  clear ht sm so hc hcc hv
  have HK := Lib.hid hk
  clear hk
  rcases nus_cases [a.node] with q1 | q1
  · have H0 := Lib.hid (h.push (.cells #[.int .i64 a.kind, .int .i64 a.node, .int .i64 a.n, .int .i64 a.client, .int .i64 a.number, .int .i64 a.cmd.kind, .string a.cmd.actor, .string a.cmd.schema, .string a.cmd.table, .string a.cmd.name, .string a.cmd.role, .slice A a.cmd.cols.length k, .string a.cmd.rule.name, .int .i64 a.cmd.rule.kind, .slice A2 a.cmd.rule.cols.length k2, .int .i64 a.cmd.rule.low, .int .i64 a.cmd.rule.high, .string a.cmd.rule.schema, .string a.cmd.rule.table, .string a.cmd.rule.key, .int .i64 a.cmd.right, .bool a.cmd.opt, .int .i64 a.ck, .int .i64 a.cn, .int .i64 a.row.kind, .string a.row.role, .string a.row.schema, .string a.row.table, .slice A3 a.row.row.length k3, .string a.row.col, .int .i64 a.row.v.kind, .int .i64 a.row.v.int, .string a.row.v.text] 43))
    have HM0 := Lib.hid (show ∀ L' V, LyS w0 ((w.heap.size, .cells #[.int .i64 a.kind, .int .i64 a.node, .int .i64 a.n, .int .i64 a.client, .int .i64 a.number, .int .i64 a.cmd.kind, .string a.cmd.actor, .string a.cmd.schema, .string a.cmd.table, .string a.cmd.name, .string a.cmd.role, .slice A a.cmd.cols.length k, .string a.cmd.rule.name, .int .i64 a.cmd.rule.kind, .slice A2 a.cmd.rule.cols.length k2, .int .i64 a.cmd.rule.low, .int .i64 a.cmd.rule.high, .string a.cmd.rule.schema, .string a.cmd.rule.table, .string a.cmd.rule.key, .int .i64 a.cmd.right, .bool a.cmd.opt, .int .i64 a.ck, .int .i64 a.cn, .int .i64 a.row.kind, .string a.row.role, .string a.row.schema, .string a.row.table, .slice A3 a.row.row.length k3, .string a.row.col, .int .i64 a.row.v.kind, .int .i64 a.row.v.int, .string a.row.v.text] 43) :: Q) b L' V → RowAt V (w.heap.size) [.int .i64 a.kind, .int .i64 a.node, .int .i64 a.n, .int .i64 a.client, .int .i64 a.number, .int .i64 a.cmd.kind, .string a.cmd.actor, .string a.cmd.schema, .string a.cmd.table, .string a.cmd.name, .string a.cmd.role, .slice A a.cmd.cols.length k, .string a.cmd.rule.name, .int .i64 a.cmd.rule.kind, .slice A2 a.cmd.rule.cols.length k2, .int .i64 a.cmd.rule.low, .int .i64 a.cmd.rule.high, .string a.cmd.rule.schema, .string a.cmd.rule.table, .string a.cmd.rule.key, .int .i64 a.cmd.right, .bool a.cmd.opt, .int .i64 a.ck, .int .i64 a.cn, .int .i64 a.row.kind, .string a.row.role, .string a.row.schema, .string a.row.table, .slice A3 a.row.row.length k3, .string a.row.col, .int .i64 a.row.v.kind, .int .i64 a.row.v.int, .string a.row.v.text] from fun L' V h => h.same List.mem_cons_self)
    have HE0 := Lib.hid (show w.heap.size + 1 = (w.alloc (.cells #[.int .i64 a.kind, .int .i64 a.node, .int .i64 a.n, .int .i64 a.client, .int .i64 a.number, .int .i64 a.cmd.kind, .string a.cmd.actor, .string a.cmd.schema, .string a.cmd.table, .string a.cmd.name, .string a.cmd.role, .slice A a.cmd.cols.length k, .string a.cmd.rule.name, .int .i64 a.cmd.rule.kind, .slice A2 a.cmd.rule.cols.length k2, .int .i64 a.cmd.rule.low, .int .i64 a.cmd.rule.high, .string a.cmd.rule.schema, .string a.cmd.rule.table, .string a.cmd.rule.key, .int .i64 a.cmd.right, .bool a.cmd.opt, .int .i64 a.ck, .int .i64 a.cn, .int .i64 a.row.kind, .string a.row.role, .string a.row.schema, .string a.row.table, .slice A3 a.row.row.length k3, .string a.row.col, .int .i64 a.row.v.kind, .int .i64 a.row.v.int, .string a.row.v.text] 43)).heap.size from by simp)
    have HZ0 := Lib.hid (show (L).length ≤ 40000 from by (try simp only [List.length_append, List.length_cons, List.length_nil, List.length_map]); omega)
    have HZ1 := Lib.hid (show (L ++ [(⟨#[115, 116, 97, 114, 116]⟩ : ByteArray)]).length ≤ 50000 from by (try simp only [List.length_append, List.length_cons, List.length_nil, List.length_map]); omega)
    have HQ1 := Lib.hid q1
    have HS := Lib.hid (show actM a = none from by simp [actM, actL, andL, HK.out, b_start, HQ1.out])
    clear h q1
    go_enter Tryz.func36, Tryz.ntmps36
    go_wp2_with (first
      | (go_at_call 61; (with_reducible refine (lay2 w0 _ b _ _ _ _ H0.out HZ0.out HE0.out).mono ?_); rintro e w1 ⟨rfl, h⟩; have r0b0 := HM0.out _ _ h; have yb0b0 := r0b0.1; have y0b0c1 := r0b0.cell (j := 1) rfl; clear r0b0; have H1 := Lib.hid h; clear h)
      | (go_at_call 62; (with_reducible refine (num1 w0 _ b _ _ _ _ H1.out HT.out HZ1.out rfl).mono ?_); rintro e w2 h; rw [HQ1.out] at h; obtain ⟨he, h⟩ := h; have H2 := Lib.hid h; clear h; unfold NoL at he; subst he))
    rw [HS.out]
    exact ⟨rfl, rfl, H2.out⟩
  · have H0 := Lib.hid (h.push (.cells #[.int .i64 a.kind, .int .i64 a.node, .int .i64 a.n, .int .i64 a.client, .int .i64 a.number, .int .i64 a.cmd.kind, .string a.cmd.actor, .string a.cmd.schema, .string a.cmd.table, .string a.cmd.name, .string a.cmd.role, .slice A a.cmd.cols.length k, .string a.cmd.rule.name, .int .i64 a.cmd.rule.kind, .slice A2 a.cmd.rule.cols.length k2, .int .i64 a.cmd.rule.low, .int .i64 a.cmd.rule.high, .string a.cmd.rule.schema, .string a.cmd.rule.table, .string a.cmd.rule.key, .int .i64 a.cmd.right, .bool a.cmd.opt, .int .i64 a.ck, .int .i64 a.cn, .int .i64 a.row.kind, .string a.row.role, .string a.row.schema, .string a.row.table, .slice A3 a.row.row.length k3, .string a.row.col, .int .i64 a.row.v.kind, .int .i64 a.row.v.int, .string a.row.v.text] 43))
    have HM0 := Lib.hid (show ∀ L' V, LyS w0 ((w.heap.size, .cells #[.int .i64 a.kind, .int .i64 a.node, .int .i64 a.n, .int .i64 a.client, .int .i64 a.number, .int .i64 a.cmd.kind, .string a.cmd.actor, .string a.cmd.schema, .string a.cmd.table, .string a.cmd.name, .string a.cmd.role, .slice A a.cmd.cols.length k, .string a.cmd.rule.name, .int .i64 a.cmd.rule.kind, .slice A2 a.cmd.rule.cols.length k2, .int .i64 a.cmd.rule.low, .int .i64 a.cmd.rule.high, .string a.cmd.rule.schema, .string a.cmd.rule.table, .string a.cmd.rule.key, .int .i64 a.cmd.right, .bool a.cmd.opt, .int .i64 a.ck, .int .i64 a.cn, .int .i64 a.row.kind, .string a.row.role, .string a.row.schema, .string a.row.table, .slice A3 a.row.row.length k3, .string a.row.col, .int .i64 a.row.v.kind, .int .i64 a.row.v.int, .string a.row.v.text] 43) :: Q) b L' V → RowAt V (w.heap.size) [.int .i64 a.kind, .int .i64 a.node, .int .i64 a.n, .int .i64 a.client, .int .i64 a.number, .int .i64 a.cmd.kind, .string a.cmd.actor, .string a.cmd.schema, .string a.cmd.table, .string a.cmd.name, .string a.cmd.role, .slice A a.cmd.cols.length k, .string a.cmd.rule.name, .int .i64 a.cmd.rule.kind, .slice A2 a.cmd.rule.cols.length k2, .int .i64 a.cmd.rule.low, .int .i64 a.cmd.rule.high, .string a.cmd.rule.schema, .string a.cmd.rule.table, .string a.cmd.rule.key, .int .i64 a.cmd.right, .bool a.cmd.opt, .int .i64 a.ck, .int .i64 a.cn, .int .i64 a.row.kind, .string a.row.role, .string a.row.schema, .string a.row.table, .slice A3 a.row.row.length k3, .string a.row.col, .int .i64 a.row.v.kind, .int .i64 a.row.v.int, .string a.row.v.text] from fun L' V h => h.same List.mem_cons_self)
    have HE0 := Lib.hid (show w.heap.size + 1 = (w.alloc (.cells #[.int .i64 a.kind, .int .i64 a.node, .int .i64 a.n, .int .i64 a.client, .int .i64 a.number, .int .i64 a.cmd.kind, .string a.cmd.actor, .string a.cmd.schema, .string a.cmd.table, .string a.cmd.name, .string a.cmd.role, .slice A a.cmd.cols.length k, .string a.cmd.rule.name, .int .i64 a.cmd.rule.kind, .slice A2 a.cmd.rule.cols.length k2, .int .i64 a.cmd.rule.low, .int .i64 a.cmd.rule.high, .string a.cmd.rule.schema, .string a.cmd.rule.table, .string a.cmd.rule.key, .int .i64 a.cmd.right, .bool a.cmd.opt, .int .i64 a.ck, .int .i64 a.cn, .int .i64 a.row.kind, .string a.row.role, .string a.row.schema, .string a.row.table, .slice A3 a.row.row.length k3, .string a.row.col, .int .i64 a.row.v.kind, .int .i64 a.row.v.int, .string a.row.v.text] 43)).heap.size from by simp)
    have HZ0 := Lib.hid (show (L).length ≤ 40000 from by (try simp only [List.length_append, List.length_cons, List.length_nil, List.length_map]); omega)
    have HZ1 := Lib.hid (show (L ++ [(⟨#[115, 116, 97, 114, 116]⟩ : ByteArray)]).length ≤ 50000 from by (try simp only [List.length_append, List.length_cons, List.length_nil, List.length_map]); omega)
    have HQ1 := Lib.hid q1
    have HS := Lib.hid (show actM a = some ([(⟨#[115, 116, 97, 114, 116]⟩ : ByteArray)] ++ (List.map itoaB [a.node])) from by simp [actM, actL, andL, HK.out, b_start, HQ1.out])
    clear h q1
    go_enter Tryz.func36, Tryz.ntmps36
    go_wp2_with (first
      | (go_at_call 61; (with_reducible refine (lay2 w0 _ b _ _ _ _ H0.out HZ0.out HE0.out).mono ?_); rintro e w1 ⟨rfl, h⟩; have r0b0 := HM0.out _ _ h; have yb0b0 := r0b0.1; have y0b0c1 := r0b0.cell (j := 1) rfl; clear r0b0; have H1 := Lib.hid h; clear h)
      | (go_at_call 62; (with_reducible refine (num1 w0 _ b _ _ _ _ H1.out HT.out HZ1.out rfl).mono ?_); rintro e w2 h; rw [HQ1.out] at h; obtain ⟨rfl, h⟩ := h; have H2 := Lib.hid h; clear h))
    go_end0
    rw [HS.out]
    exact ⟨rfl, LyS.conv (by first | (simp only [List.append_assoc]; rfl) | simp only [List.append_assoc]) H2.out.pop⟩
set_option maxHeartbeats 8000000 in
theorem act_k3 (w0 : World) (Q : List (Nat × Obj)) (b : Nat) (L : Ws) (a : Dact) (A : Option Addr) (k : Nat) (A2 : Option Addr) (k2 : Nat) (A3 : Option Addr) (k3 : Nat) (w : World) (h : LyS w0 Q b L w) (ht : TabW w0) (sm : SmC a.cmd) (so : SmO a.row) (hn : L.length ≤ 10) (hcc : SlAt w0 3 ColR A k a.cmd.cols) (hc : SlAt w0 1 StrR A2 k2 a.cmd.rule.cols) (hv : SlAt w0 3 ValR A3 k3 a.row.row) (hlc : a.cmd.cols.length ≤ 4100) (hl : a.cmd.rule.cols.length ≤ 4100) (hlr : a.row.row.length ≤ 4100) (hk : a.kind = 3) :
    Calls Tryz.prog 36 #[.pointer (some ⟨b, 0, none⟩), .agg #[.int .i64 a.kind, .int .i64 a.node, .int .i64 a.n, .int .i64 a.client, .int .i64 a.number, .int .i64 a.cmd.kind, .string a.cmd.actor, .string a.cmd.schema, .string a.cmd.table, .string a.cmd.name, .string a.cmd.role, .slice A a.cmd.cols.length k, .string a.cmd.rule.name, .int .i64 a.cmd.rule.kind, .slice A2 a.cmd.rule.cols.length k2, .int .i64 a.cmd.rule.low, .int .i64 a.cmd.rule.high, .string a.cmd.rule.schema, .string a.cmd.rule.table, .string a.cmd.rule.key, .int .i64 a.cmd.right, .bool a.cmd.opt, .int .i64 a.ck, .int .i64 a.cn, .int .i64 a.row.kind, .string a.row.role, .string a.row.schema, .string a.row.table, .slice A3 a.row.row.length k3, .string a.row.col, .int .i64 a.row.v.kind, .int .i64 a.row.v.int, .string a.row.v.text]] w (LyQ w0 Q b L (actM a)) := by
  have b1 : (a.kind == 1) = false := by simp [hk]
  have b2 : (a.kind == 2) = false := by simp [hk]
  have b12 : (a.kind == 12) = false := by simp [hk]
  have b3 : (a.kind == 3) = true := by simp [hk]
  have b4 : (a.kind == 4) = false := by simp [hk]
  have b5 : (a.kind == 5) = false := by simp [hk]
  have b6 : (a.kind == 6) = false := by simp [hk]
  have b7 : (a.kind == 7) = false := by simp [hk]
  have b8 : (a.kind == 8) = false := by simp [hk]
  have b9 : (a.kind == 9) = false := by simp [hk]
  have b10 : (a.kind == 10) = false := by simp [hk]
  have b11 : (a.kind == 11) = false := by simp [hk]
  have HT := Lib.hid ht
  have HSM := Lib.hid sm
  have HSO := Lib.hid so
  have HC := Lib.hid hc
  have HCC := Lib.hid hcc
  have HV := Lib.hid hv
  clear ht sm so hc hcc hv
  have HK := Lib.hid hk
  clear hk
  rcases nus_cases [a.n] with q1 | q1
  · have H0 := Lib.hid (h.push (.cells #[.int .i64 a.kind, .int .i64 a.node, .int .i64 a.n, .int .i64 a.client, .int .i64 a.number, .int .i64 a.cmd.kind, .string a.cmd.actor, .string a.cmd.schema, .string a.cmd.table, .string a.cmd.name, .string a.cmd.role, .slice A a.cmd.cols.length k, .string a.cmd.rule.name, .int .i64 a.cmd.rule.kind, .slice A2 a.cmd.rule.cols.length k2, .int .i64 a.cmd.rule.low, .int .i64 a.cmd.rule.high, .string a.cmd.rule.schema, .string a.cmd.rule.table, .string a.cmd.rule.key, .int .i64 a.cmd.right, .bool a.cmd.opt, .int .i64 a.ck, .int .i64 a.cn, .int .i64 a.row.kind, .string a.row.role, .string a.row.schema, .string a.row.table, .slice A3 a.row.row.length k3, .string a.row.col, .int .i64 a.row.v.kind, .int .i64 a.row.v.int, .string a.row.v.text] 43))
    have HM0 := Lib.hid (show ∀ L' V, LyS w0 ((w.heap.size, .cells #[.int .i64 a.kind, .int .i64 a.node, .int .i64 a.n, .int .i64 a.client, .int .i64 a.number, .int .i64 a.cmd.kind, .string a.cmd.actor, .string a.cmd.schema, .string a.cmd.table, .string a.cmd.name, .string a.cmd.role, .slice A a.cmd.cols.length k, .string a.cmd.rule.name, .int .i64 a.cmd.rule.kind, .slice A2 a.cmd.rule.cols.length k2, .int .i64 a.cmd.rule.low, .int .i64 a.cmd.rule.high, .string a.cmd.rule.schema, .string a.cmd.rule.table, .string a.cmd.rule.key, .int .i64 a.cmd.right, .bool a.cmd.opt, .int .i64 a.ck, .int .i64 a.cn, .int .i64 a.row.kind, .string a.row.role, .string a.row.schema, .string a.row.table, .slice A3 a.row.row.length k3, .string a.row.col, .int .i64 a.row.v.kind, .int .i64 a.row.v.int, .string a.row.v.text] 43) :: Q) b L' V → RowAt V (w.heap.size) [.int .i64 a.kind, .int .i64 a.node, .int .i64 a.n, .int .i64 a.client, .int .i64 a.number, .int .i64 a.cmd.kind, .string a.cmd.actor, .string a.cmd.schema, .string a.cmd.table, .string a.cmd.name, .string a.cmd.role, .slice A a.cmd.cols.length k, .string a.cmd.rule.name, .int .i64 a.cmd.rule.kind, .slice A2 a.cmd.rule.cols.length k2, .int .i64 a.cmd.rule.low, .int .i64 a.cmd.rule.high, .string a.cmd.rule.schema, .string a.cmd.rule.table, .string a.cmd.rule.key, .int .i64 a.cmd.right, .bool a.cmd.opt, .int .i64 a.ck, .int .i64 a.cn, .int .i64 a.row.kind, .string a.row.role, .string a.row.schema, .string a.row.table, .slice A3 a.row.row.length k3, .string a.row.col, .int .i64 a.row.v.kind, .int .i64 a.row.v.int, .string a.row.v.text] from fun L' V h => h.same List.mem_cons_self)
    have HE0 := Lib.hid (show w.heap.size + 1 = (w.alloc (.cells #[.int .i64 a.kind, .int .i64 a.node, .int .i64 a.n, .int .i64 a.client, .int .i64 a.number, .int .i64 a.cmd.kind, .string a.cmd.actor, .string a.cmd.schema, .string a.cmd.table, .string a.cmd.name, .string a.cmd.role, .slice A a.cmd.cols.length k, .string a.cmd.rule.name, .int .i64 a.cmd.rule.kind, .slice A2 a.cmd.rule.cols.length k2, .int .i64 a.cmd.rule.low, .int .i64 a.cmd.rule.high, .string a.cmd.rule.schema, .string a.cmd.rule.table, .string a.cmd.rule.key, .int .i64 a.cmd.right, .bool a.cmd.opt, .int .i64 a.ck, .int .i64 a.cn, .int .i64 a.row.kind, .string a.row.role, .string a.row.schema, .string a.row.table, .slice A3 a.row.row.length k3, .string a.row.col, .int .i64 a.row.v.kind, .int .i64 a.row.v.int, .string a.row.v.text] 43)).heap.size from by simp)
    have HZ0 := Lib.hid (show (L).length ≤ 40000 from by (try simp only [List.length_append, List.length_cons, List.length_nil, List.length_map]); omega)
    have HZ1 := Lib.hid (show (L ++ [(⟨#[100, 101, 108, 105, 118, 101, 114]⟩ : ByteArray)]).length ≤ 50000 from by (try simp only [List.length_append, List.length_cons, List.length_nil, List.length_map]); omega)
    have HQ1 := Lib.hid q1
    have HS := Lib.hid (show actM a = none from by simp [actM, actL, andL, HK.out, b_deliver, HQ1.out])
    clear h q1
    go_enter Tryz.func36, Tryz.ntmps36
    go_wp2_with (first
      | (go_at_call 61; (with_reducible refine (lay2 w0 _ b _ _ _ _ H0.out HZ0.out HE0.out).mono ?_); rintro e w1 ⟨rfl, h⟩; have r0b0 := HM0.out _ _ h; have yb0b0 := r0b0.1; have y0b0c2 := r0b0.cell (j := 2) rfl; clear r0b0; have H1 := Lib.hid h; clear h)
      | (go_at_call 62; (with_reducible refine (num1 w0 _ b _ _ _ _ H1.out HT.out HZ1.out rfl).mono ?_); rintro e w2 h; rw [HQ1.out] at h; obtain ⟨he, h⟩ := h; have H2 := Lib.hid h; clear h; unfold NoL at he; subst he))
    rw [HS.out]
    exact ⟨rfl, rfl, H2.out⟩
  · have H0 := Lib.hid (h.push (.cells #[.int .i64 a.kind, .int .i64 a.node, .int .i64 a.n, .int .i64 a.client, .int .i64 a.number, .int .i64 a.cmd.kind, .string a.cmd.actor, .string a.cmd.schema, .string a.cmd.table, .string a.cmd.name, .string a.cmd.role, .slice A a.cmd.cols.length k, .string a.cmd.rule.name, .int .i64 a.cmd.rule.kind, .slice A2 a.cmd.rule.cols.length k2, .int .i64 a.cmd.rule.low, .int .i64 a.cmd.rule.high, .string a.cmd.rule.schema, .string a.cmd.rule.table, .string a.cmd.rule.key, .int .i64 a.cmd.right, .bool a.cmd.opt, .int .i64 a.ck, .int .i64 a.cn, .int .i64 a.row.kind, .string a.row.role, .string a.row.schema, .string a.row.table, .slice A3 a.row.row.length k3, .string a.row.col, .int .i64 a.row.v.kind, .int .i64 a.row.v.int, .string a.row.v.text] 43))
    have HM0 := Lib.hid (show ∀ L' V, LyS w0 ((w.heap.size, .cells #[.int .i64 a.kind, .int .i64 a.node, .int .i64 a.n, .int .i64 a.client, .int .i64 a.number, .int .i64 a.cmd.kind, .string a.cmd.actor, .string a.cmd.schema, .string a.cmd.table, .string a.cmd.name, .string a.cmd.role, .slice A a.cmd.cols.length k, .string a.cmd.rule.name, .int .i64 a.cmd.rule.kind, .slice A2 a.cmd.rule.cols.length k2, .int .i64 a.cmd.rule.low, .int .i64 a.cmd.rule.high, .string a.cmd.rule.schema, .string a.cmd.rule.table, .string a.cmd.rule.key, .int .i64 a.cmd.right, .bool a.cmd.opt, .int .i64 a.ck, .int .i64 a.cn, .int .i64 a.row.kind, .string a.row.role, .string a.row.schema, .string a.row.table, .slice A3 a.row.row.length k3, .string a.row.col, .int .i64 a.row.v.kind, .int .i64 a.row.v.int, .string a.row.v.text] 43) :: Q) b L' V → RowAt V (w.heap.size) [.int .i64 a.kind, .int .i64 a.node, .int .i64 a.n, .int .i64 a.client, .int .i64 a.number, .int .i64 a.cmd.kind, .string a.cmd.actor, .string a.cmd.schema, .string a.cmd.table, .string a.cmd.name, .string a.cmd.role, .slice A a.cmd.cols.length k, .string a.cmd.rule.name, .int .i64 a.cmd.rule.kind, .slice A2 a.cmd.rule.cols.length k2, .int .i64 a.cmd.rule.low, .int .i64 a.cmd.rule.high, .string a.cmd.rule.schema, .string a.cmd.rule.table, .string a.cmd.rule.key, .int .i64 a.cmd.right, .bool a.cmd.opt, .int .i64 a.ck, .int .i64 a.cn, .int .i64 a.row.kind, .string a.row.role, .string a.row.schema, .string a.row.table, .slice A3 a.row.row.length k3, .string a.row.col, .int .i64 a.row.v.kind, .int .i64 a.row.v.int, .string a.row.v.text] from fun L' V h => h.same List.mem_cons_self)
    have HE0 := Lib.hid (show w.heap.size + 1 = (w.alloc (.cells #[.int .i64 a.kind, .int .i64 a.node, .int .i64 a.n, .int .i64 a.client, .int .i64 a.number, .int .i64 a.cmd.kind, .string a.cmd.actor, .string a.cmd.schema, .string a.cmd.table, .string a.cmd.name, .string a.cmd.role, .slice A a.cmd.cols.length k, .string a.cmd.rule.name, .int .i64 a.cmd.rule.kind, .slice A2 a.cmd.rule.cols.length k2, .int .i64 a.cmd.rule.low, .int .i64 a.cmd.rule.high, .string a.cmd.rule.schema, .string a.cmd.rule.table, .string a.cmd.rule.key, .int .i64 a.cmd.right, .bool a.cmd.opt, .int .i64 a.ck, .int .i64 a.cn, .int .i64 a.row.kind, .string a.row.role, .string a.row.schema, .string a.row.table, .slice A3 a.row.row.length k3, .string a.row.col, .int .i64 a.row.v.kind, .int .i64 a.row.v.int, .string a.row.v.text] 43)).heap.size from by simp)
    have HZ0 := Lib.hid (show (L).length ≤ 40000 from by (try simp only [List.length_append, List.length_cons, List.length_nil, List.length_map]); omega)
    have HZ1 := Lib.hid (show (L ++ [(⟨#[100, 101, 108, 105, 118, 101, 114]⟩ : ByteArray)]).length ≤ 50000 from by (try simp only [List.length_append, List.length_cons, List.length_nil, List.length_map]); omega)
    have HQ1 := Lib.hid q1
    have HS := Lib.hid (show actM a = some ([(⟨#[100, 101, 108, 105, 118, 101, 114]⟩ : ByteArray)] ++ (List.map itoaB [a.n])) from by simp [actM, actL, andL, HK.out, b_deliver, HQ1.out])
    clear h q1
    go_enter Tryz.func36, Tryz.ntmps36
    go_wp2_with (first
      | (go_at_call 61; (with_reducible refine (lay2 w0 _ b _ _ _ _ H0.out HZ0.out HE0.out).mono ?_); rintro e w1 ⟨rfl, h⟩; have r0b0 := HM0.out _ _ h; have yb0b0 := r0b0.1; have y0b0c2 := r0b0.cell (j := 2) rfl; clear r0b0; have H1 := Lib.hid h; clear h)
      | (go_at_call 62; (with_reducible refine (num1 w0 _ b _ _ _ _ H1.out HT.out HZ1.out rfl).mono ?_); rintro e w2 h; rw [HQ1.out] at h; obtain ⟨rfl, h⟩ := h; have H2 := Lib.hid h; clear h))
    go_end0
    rw [HS.out]
    exact ⟨rfl, LyS.conv (by first | (simp only [List.append_assoc]; rfl) | simp only [List.append_assoc]) H2.out.pop⟩
set_option maxHeartbeats 8000000 in
theorem act_k4 (w0 : World) (Q : List (Nat × Obj)) (b : Nat) (L : Ws) (a : Dact) (A : Option Addr) (k : Nat) (A2 : Option Addr) (k2 : Nat) (A3 : Option Addr) (k3 : Nat) (w : World) (h : LyS w0 Q b L w) (ht : TabW w0) (sm : SmC a.cmd) (so : SmO a.row) (hn : L.length ≤ 10) (hcc : SlAt w0 3 ColR A k a.cmd.cols) (hc : SlAt w0 1 StrR A2 k2 a.cmd.rule.cols) (hv : SlAt w0 3 ValR A3 k3 a.row.row) (hlc : a.cmd.cols.length ≤ 4100) (hl : a.cmd.rule.cols.length ≤ 4100) (hlr : a.row.row.length ≤ 4100) (hk : a.kind = 4) :
    Calls Tryz.prog 36 #[.pointer (some ⟨b, 0, none⟩), .agg #[.int .i64 a.kind, .int .i64 a.node, .int .i64 a.n, .int .i64 a.client, .int .i64 a.number, .int .i64 a.cmd.kind, .string a.cmd.actor, .string a.cmd.schema, .string a.cmd.table, .string a.cmd.name, .string a.cmd.role, .slice A a.cmd.cols.length k, .string a.cmd.rule.name, .int .i64 a.cmd.rule.kind, .slice A2 a.cmd.rule.cols.length k2, .int .i64 a.cmd.rule.low, .int .i64 a.cmd.rule.high, .string a.cmd.rule.schema, .string a.cmd.rule.table, .string a.cmd.rule.key, .int .i64 a.cmd.right, .bool a.cmd.opt, .int .i64 a.ck, .int .i64 a.cn, .int .i64 a.row.kind, .string a.row.role, .string a.row.schema, .string a.row.table, .slice A3 a.row.row.length k3, .string a.row.col, .int .i64 a.row.v.kind, .int .i64 a.row.v.int, .string a.row.v.text]] w (LyQ w0 Q b L (actM a)) := by
  have b1 : (a.kind == 1) = false := by simp [hk]
  have b2 : (a.kind == 2) = false := by simp [hk]
  have b12 : (a.kind == 12) = false := by simp [hk]
  have b3 : (a.kind == 3) = false := by simp [hk]
  have b4 : (a.kind == 4) = true := by simp [hk]
  have b5 : (a.kind == 5) = false := by simp [hk]
  have b6 : (a.kind == 6) = false := by simp [hk]
  have b7 : (a.kind == 7) = false := by simp [hk]
  have b8 : (a.kind == 8) = false := by simp [hk]
  have b9 : (a.kind == 9) = false := by simp [hk]
  have b10 : (a.kind == 10) = false := by simp [hk]
  have b11 : (a.kind == 11) = false := by simp [hk]
  have HT := Lib.hid ht
  have HSM := Lib.hid sm
  have HSO := Lib.hid so
  have HC := Lib.hid hc
  have HCC := Lib.hid hcc
  have HV := Lib.hid hv
  clear ht sm so hc hcc hv
  have HK := Lib.hid hk
  clear hk
  rcases nus_cases [a.n] with q1 | q1
  · have H0 := Lib.hid (h.push (.cells #[.int .i64 a.kind, .int .i64 a.node, .int .i64 a.n, .int .i64 a.client, .int .i64 a.number, .int .i64 a.cmd.kind, .string a.cmd.actor, .string a.cmd.schema, .string a.cmd.table, .string a.cmd.name, .string a.cmd.role, .slice A a.cmd.cols.length k, .string a.cmd.rule.name, .int .i64 a.cmd.rule.kind, .slice A2 a.cmd.rule.cols.length k2, .int .i64 a.cmd.rule.low, .int .i64 a.cmd.rule.high, .string a.cmd.rule.schema, .string a.cmd.rule.table, .string a.cmd.rule.key, .int .i64 a.cmd.right, .bool a.cmd.opt, .int .i64 a.ck, .int .i64 a.cn, .int .i64 a.row.kind, .string a.row.role, .string a.row.schema, .string a.row.table, .slice A3 a.row.row.length k3, .string a.row.col, .int .i64 a.row.v.kind, .int .i64 a.row.v.int, .string a.row.v.text] 43))
    have HM0 := Lib.hid (show ∀ L' V, LyS w0 ((w.heap.size, .cells #[.int .i64 a.kind, .int .i64 a.node, .int .i64 a.n, .int .i64 a.client, .int .i64 a.number, .int .i64 a.cmd.kind, .string a.cmd.actor, .string a.cmd.schema, .string a.cmd.table, .string a.cmd.name, .string a.cmd.role, .slice A a.cmd.cols.length k, .string a.cmd.rule.name, .int .i64 a.cmd.rule.kind, .slice A2 a.cmd.rule.cols.length k2, .int .i64 a.cmd.rule.low, .int .i64 a.cmd.rule.high, .string a.cmd.rule.schema, .string a.cmd.rule.table, .string a.cmd.rule.key, .int .i64 a.cmd.right, .bool a.cmd.opt, .int .i64 a.ck, .int .i64 a.cn, .int .i64 a.row.kind, .string a.row.role, .string a.row.schema, .string a.row.table, .slice A3 a.row.row.length k3, .string a.row.col, .int .i64 a.row.v.kind, .int .i64 a.row.v.int, .string a.row.v.text] 43) :: Q) b L' V → RowAt V (w.heap.size) [.int .i64 a.kind, .int .i64 a.node, .int .i64 a.n, .int .i64 a.client, .int .i64 a.number, .int .i64 a.cmd.kind, .string a.cmd.actor, .string a.cmd.schema, .string a.cmd.table, .string a.cmd.name, .string a.cmd.role, .slice A a.cmd.cols.length k, .string a.cmd.rule.name, .int .i64 a.cmd.rule.kind, .slice A2 a.cmd.rule.cols.length k2, .int .i64 a.cmd.rule.low, .int .i64 a.cmd.rule.high, .string a.cmd.rule.schema, .string a.cmd.rule.table, .string a.cmd.rule.key, .int .i64 a.cmd.right, .bool a.cmd.opt, .int .i64 a.ck, .int .i64 a.cn, .int .i64 a.row.kind, .string a.row.role, .string a.row.schema, .string a.row.table, .slice A3 a.row.row.length k3, .string a.row.col, .int .i64 a.row.v.kind, .int .i64 a.row.v.int, .string a.row.v.text] from fun L' V h => h.same List.mem_cons_self)
    have HE0 := Lib.hid (show w.heap.size + 1 = (w.alloc (.cells #[.int .i64 a.kind, .int .i64 a.node, .int .i64 a.n, .int .i64 a.client, .int .i64 a.number, .int .i64 a.cmd.kind, .string a.cmd.actor, .string a.cmd.schema, .string a.cmd.table, .string a.cmd.name, .string a.cmd.role, .slice A a.cmd.cols.length k, .string a.cmd.rule.name, .int .i64 a.cmd.rule.kind, .slice A2 a.cmd.rule.cols.length k2, .int .i64 a.cmd.rule.low, .int .i64 a.cmd.rule.high, .string a.cmd.rule.schema, .string a.cmd.rule.table, .string a.cmd.rule.key, .int .i64 a.cmd.right, .bool a.cmd.opt, .int .i64 a.ck, .int .i64 a.cn, .int .i64 a.row.kind, .string a.row.role, .string a.row.schema, .string a.row.table, .slice A3 a.row.row.length k3, .string a.row.col, .int .i64 a.row.v.kind, .int .i64 a.row.v.int, .string a.row.v.text] 43)).heap.size from by simp)
    have HZ0 := Lib.hid (show (L).length ≤ 40000 from by (try simp only [List.length_append, List.length_cons, List.length_nil, List.length_map]); omega)
    have HZ1 := Lib.hid (show (L ++ [(⟨#[100, 114, 111, 112]⟩ : ByteArray)]).length ≤ 50000 from by (try simp only [List.length_append, List.length_cons, List.length_nil, List.length_map]); omega)
    have HQ1 := Lib.hid q1
    have HS := Lib.hid (show actM a = none from by simp [actM, actL, andL, HK.out, b_drop, HQ1.out])
    clear h q1
    go_enter Tryz.func36, Tryz.ntmps36
    go_wp2_with (first
      | (go_at_call 61; (with_reducible refine (lay2 w0 _ b _ _ _ _ H0.out HZ0.out HE0.out).mono ?_); rintro e w1 ⟨rfl, h⟩; have r0b0 := HM0.out _ _ h; have yb0b0 := r0b0.1; have y0b0c2 := r0b0.cell (j := 2) rfl; clear r0b0; have H1 := Lib.hid h; clear h)
      | (go_at_call 62; (with_reducible refine (num1 w0 _ b _ _ _ _ H1.out HT.out HZ1.out rfl).mono ?_); rintro e w2 h; rw [HQ1.out] at h; obtain ⟨he, h⟩ := h; have H2 := Lib.hid h; clear h; unfold NoL at he; subst he))
    rw [HS.out]
    exact ⟨rfl, rfl, H2.out⟩
  · have H0 := Lib.hid (h.push (.cells #[.int .i64 a.kind, .int .i64 a.node, .int .i64 a.n, .int .i64 a.client, .int .i64 a.number, .int .i64 a.cmd.kind, .string a.cmd.actor, .string a.cmd.schema, .string a.cmd.table, .string a.cmd.name, .string a.cmd.role, .slice A a.cmd.cols.length k, .string a.cmd.rule.name, .int .i64 a.cmd.rule.kind, .slice A2 a.cmd.rule.cols.length k2, .int .i64 a.cmd.rule.low, .int .i64 a.cmd.rule.high, .string a.cmd.rule.schema, .string a.cmd.rule.table, .string a.cmd.rule.key, .int .i64 a.cmd.right, .bool a.cmd.opt, .int .i64 a.ck, .int .i64 a.cn, .int .i64 a.row.kind, .string a.row.role, .string a.row.schema, .string a.row.table, .slice A3 a.row.row.length k3, .string a.row.col, .int .i64 a.row.v.kind, .int .i64 a.row.v.int, .string a.row.v.text] 43))
    have HM0 := Lib.hid (show ∀ L' V, LyS w0 ((w.heap.size, .cells #[.int .i64 a.kind, .int .i64 a.node, .int .i64 a.n, .int .i64 a.client, .int .i64 a.number, .int .i64 a.cmd.kind, .string a.cmd.actor, .string a.cmd.schema, .string a.cmd.table, .string a.cmd.name, .string a.cmd.role, .slice A a.cmd.cols.length k, .string a.cmd.rule.name, .int .i64 a.cmd.rule.kind, .slice A2 a.cmd.rule.cols.length k2, .int .i64 a.cmd.rule.low, .int .i64 a.cmd.rule.high, .string a.cmd.rule.schema, .string a.cmd.rule.table, .string a.cmd.rule.key, .int .i64 a.cmd.right, .bool a.cmd.opt, .int .i64 a.ck, .int .i64 a.cn, .int .i64 a.row.kind, .string a.row.role, .string a.row.schema, .string a.row.table, .slice A3 a.row.row.length k3, .string a.row.col, .int .i64 a.row.v.kind, .int .i64 a.row.v.int, .string a.row.v.text] 43) :: Q) b L' V → RowAt V (w.heap.size) [.int .i64 a.kind, .int .i64 a.node, .int .i64 a.n, .int .i64 a.client, .int .i64 a.number, .int .i64 a.cmd.kind, .string a.cmd.actor, .string a.cmd.schema, .string a.cmd.table, .string a.cmd.name, .string a.cmd.role, .slice A a.cmd.cols.length k, .string a.cmd.rule.name, .int .i64 a.cmd.rule.kind, .slice A2 a.cmd.rule.cols.length k2, .int .i64 a.cmd.rule.low, .int .i64 a.cmd.rule.high, .string a.cmd.rule.schema, .string a.cmd.rule.table, .string a.cmd.rule.key, .int .i64 a.cmd.right, .bool a.cmd.opt, .int .i64 a.ck, .int .i64 a.cn, .int .i64 a.row.kind, .string a.row.role, .string a.row.schema, .string a.row.table, .slice A3 a.row.row.length k3, .string a.row.col, .int .i64 a.row.v.kind, .int .i64 a.row.v.int, .string a.row.v.text] from fun L' V h => h.same List.mem_cons_self)
    have HE0 := Lib.hid (show w.heap.size + 1 = (w.alloc (.cells #[.int .i64 a.kind, .int .i64 a.node, .int .i64 a.n, .int .i64 a.client, .int .i64 a.number, .int .i64 a.cmd.kind, .string a.cmd.actor, .string a.cmd.schema, .string a.cmd.table, .string a.cmd.name, .string a.cmd.role, .slice A a.cmd.cols.length k, .string a.cmd.rule.name, .int .i64 a.cmd.rule.kind, .slice A2 a.cmd.rule.cols.length k2, .int .i64 a.cmd.rule.low, .int .i64 a.cmd.rule.high, .string a.cmd.rule.schema, .string a.cmd.rule.table, .string a.cmd.rule.key, .int .i64 a.cmd.right, .bool a.cmd.opt, .int .i64 a.ck, .int .i64 a.cn, .int .i64 a.row.kind, .string a.row.role, .string a.row.schema, .string a.row.table, .slice A3 a.row.row.length k3, .string a.row.col, .int .i64 a.row.v.kind, .int .i64 a.row.v.int, .string a.row.v.text] 43)).heap.size from by simp)
    have HZ0 := Lib.hid (show (L).length ≤ 40000 from by (try simp only [List.length_append, List.length_cons, List.length_nil, List.length_map]); omega)
    have HZ1 := Lib.hid (show (L ++ [(⟨#[100, 114, 111, 112]⟩ : ByteArray)]).length ≤ 50000 from by (try simp only [List.length_append, List.length_cons, List.length_nil, List.length_map]); omega)
    have HQ1 := Lib.hid q1
    have HS := Lib.hid (show actM a = some ([(⟨#[100, 114, 111, 112]⟩ : ByteArray)] ++ (List.map itoaB [a.n])) from by simp [actM, actL, andL, HK.out, b_drop, HQ1.out])
    clear h q1
    go_enter Tryz.func36, Tryz.ntmps36
    go_wp2_with (first
      | (go_at_call 61; (with_reducible refine (lay2 w0 _ b _ _ _ _ H0.out HZ0.out HE0.out).mono ?_); rintro e w1 ⟨rfl, h⟩; have r0b0 := HM0.out _ _ h; have yb0b0 := r0b0.1; have y0b0c2 := r0b0.cell (j := 2) rfl; clear r0b0; have H1 := Lib.hid h; clear h)
      | (go_at_call 62; (with_reducible refine (num1 w0 _ b _ _ _ _ H1.out HT.out HZ1.out rfl).mono ?_); rintro e w2 h; rw [HQ1.out] at h; obtain ⟨rfl, h⟩ := h; have H2 := Lib.hid h; clear h))
    go_end0
    rw [HS.out]
    exact ⟨rfl, LyS.conv (by first | (simp only [List.append_assoc]; rfl) | simp only [List.append_assoc]) H2.out.pop⟩
set_option maxHeartbeats 8000000 in
theorem act_k5 (w0 : World) (Q : List (Nat × Obj)) (b : Nat) (L : Ws) (a : Dact) (A : Option Addr) (k : Nat) (A2 : Option Addr) (k2 : Nat) (A3 : Option Addr) (k3 : Nat) (w : World) (h : LyS w0 Q b L w) (ht : TabW w0) (sm : SmC a.cmd) (so : SmO a.row) (hn : L.length ≤ 10) (hcc : SlAt w0 3 ColR A k a.cmd.cols) (hc : SlAt w0 1 StrR A2 k2 a.cmd.rule.cols) (hv : SlAt w0 3 ValR A3 k3 a.row.row) (hlc : a.cmd.cols.length ≤ 4100) (hl : a.cmd.rule.cols.length ≤ 4100) (hlr : a.row.row.length ≤ 4100) (hk : a.kind = 5) :
    Calls Tryz.prog 36 #[.pointer (some ⟨b, 0, none⟩), .agg #[.int .i64 a.kind, .int .i64 a.node, .int .i64 a.n, .int .i64 a.client, .int .i64 a.number, .int .i64 a.cmd.kind, .string a.cmd.actor, .string a.cmd.schema, .string a.cmd.table, .string a.cmd.name, .string a.cmd.role, .slice A a.cmd.cols.length k, .string a.cmd.rule.name, .int .i64 a.cmd.rule.kind, .slice A2 a.cmd.rule.cols.length k2, .int .i64 a.cmd.rule.low, .int .i64 a.cmd.rule.high, .string a.cmd.rule.schema, .string a.cmd.rule.table, .string a.cmd.rule.key, .int .i64 a.cmd.right, .bool a.cmd.opt, .int .i64 a.ck, .int .i64 a.cn, .int .i64 a.row.kind, .string a.row.role, .string a.row.schema, .string a.row.table, .slice A3 a.row.row.length k3, .string a.row.col, .int .i64 a.row.v.kind, .int .i64 a.row.v.int, .string a.row.v.text]] w (LyQ w0 Q b L (actM a)) := by
  have b1 : (a.kind == 1) = false := by simp [hk]
  have b2 : (a.kind == 2) = false := by simp [hk]
  have b12 : (a.kind == 12) = false := by simp [hk]
  have b3 : (a.kind == 3) = false := by simp [hk]
  have b4 : (a.kind == 4) = false := by simp [hk]
  have b5 : (a.kind == 5) = true := by simp [hk]
  have b6 : (a.kind == 6) = false := by simp [hk]
  have b7 : (a.kind == 7) = false := by simp [hk]
  have b8 : (a.kind == 8) = false := by simp [hk]
  have b9 : (a.kind == 9) = false := by simp [hk]
  have b10 : (a.kind == 10) = false := by simp [hk]
  have b11 : (a.kind == 11) = false := by simp [hk]
  have HT := Lib.hid ht
  have HSM := Lib.hid sm
  have HSO := Lib.hid so
  have HC := Lib.hid hc
  have HCC := Lib.hid hcc
  have HV := Lib.hid hv
  clear ht sm so hc hcc hv
  have HK := Lib.hid hk
  clear hk
  rcases nus_cases [a.n] with q1 | q1
  · have H0 := Lib.hid (h.push (.cells #[.int .i64 a.kind, .int .i64 a.node, .int .i64 a.n, .int .i64 a.client, .int .i64 a.number, .int .i64 a.cmd.kind, .string a.cmd.actor, .string a.cmd.schema, .string a.cmd.table, .string a.cmd.name, .string a.cmd.role, .slice A a.cmd.cols.length k, .string a.cmd.rule.name, .int .i64 a.cmd.rule.kind, .slice A2 a.cmd.rule.cols.length k2, .int .i64 a.cmd.rule.low, .int .i64 a.cmd.rule.high, .string a.cmd.rule.schema, .string a.cmd.rule.table, .string a.cmd.rule.key, .int .i64 a.cmd.right, .bool a.cmd.opt, .int .i64 a.ck, .int .i64 a.cn, .int .i64 a.row.kind, .string a.row.role, .string a.row.schema, .string a.row.table, .slice A3 a.row.row.length k3, .string a.row.col, .int .i64 a.row.v.kind, .int .i64 a.row.v.int, .string a.row.v.text] 43))
    have HM0 := Lib.hid (show ∀ L' V, LyS w0 ((w.heap.size, .cells #[.int .i64 a.kind, .int .i64 a.node, .int .i64 a.n, .int .i64 a.client, .int .i64 a.number, .int .i64 a.cmd.kind, .string a.cmd.actor, .string a.cmd.schema, .string a.cmd.table, .string a.cmd.name, .string a.cmd.role, .slice A a.cmd.cols.length k, .string a.cmd.rule.name, .int .i64 a.cmd.rule.kind, .slice A2 a.cmd.rule.cols.length k2, .int .i64 a.cmd.rule.low, .int .i64 a.cmd.rule.high, .string a.cmd.rule.schema, .string a.cmd.rule.table, .string a.cmd.rule.key, .int .i64 a.cmd.right, .bool a.cmd.opt, .int .i64 a.ck, .int .i64 a.cn, .int .i64 a.row.kind, .string a.row.role, .string a.row.schema, .string a.row.table, .slice A3 a.row.row.length k3, .string a.row.col, .int .i64 a.row.v.kind, .int .i64 a.row.v.int, .string a.row.v.text] 43) :: Q) b L' V → RowAt V (w.heap.size) [.int .i64 a.kind, .int .i64 a.node, .int .i64 a.n, .int .i64 a.client, .int .i64 a.number, .int .i64 a.cmd.kind, .string a.cmd.actor, .string a.cmd.schema, .string a.cmd.table, .string a.cmd.name, .string a.cmd.role, .slice A a.cmd.cols.length k, .string a.cmd.rule.name, .int .i64 a.cmd.rule.kind, .slice A2 a.cmd.rule.cols.length k2, .int .i64 a.cmd.rule.low, .int .i64 a.cmd.rule.high, .string a.cmd.rule.schema, .string a.cmd.rule.table, .string a.cmd.rule.key, .int .i64 a.cmd.right, .bool a.cmd.opt, .int .i64 a.ck, .int .i64 a.cn, .int .i64 a.row.kind, .string a.row.role, .string a.row.schema, .string a.row.table, .slice A3 a.row.row.length k3, .string a.row.col, .int .i64 a.row.v.kind, .int .i64 a.row.v.int, .string a.row.v.text] from fun L' V h => h.same List.mem_cons_self)
    have HE0 := Lib.hid (show w.heap.size + 1 = (w.alloc (.cells #[.int .i64 a.kind, .int .i64 a.node, .int .i64 a.n, .int .i64 a.client, .int .i64 a.number, .int .i64 a.cmd.kind, .string a.cmd.actor, .string a.cmd.schema, .string a.cmd.table, .string a.cmd.name, .string a.cmd.role, .slice A a.cmd.cols.length k, .string a.cmd.rule.name, .int .i64 a.cmd.rule.kind, .slice A2 a.cmd.rule.cols.length k2, .int .i64 a.cmd.rule.low, .int .i64 a.cmd.rule.high, .string a.cmd.rule.schema, .string a.cmd.rule.table, .string a.cmd.rule.key, .int .i64 a.cmd.right, .bool a.cmd.opt, .int .i64 a.ck, .int .i64 a.cn, .int .i64 a.row.kind, .string a.row.role, .string a.row.schema, .string a.row.table, .slice A3 a.row.row.length k3, .string a.row.col, .int .i64 a.row.v.kind, .int .i64 a.row.v.int, .string a.row.v.text] 43)).heap.size from by simp)
    have HZ0 := Lib.hid (show (L).length ≤ 40000 from by (try simp only [List.length_append, List.length_cons, List.length_nil, List.length_map]); omega)
    have HZ1 := Lib.hid (show (L ++ [(⟨#[100, 111, 117, 98, 108, 101]⟩ : ByteArray)]).length ≤ 50000 from by (try simp only [List.length_append, List.length_cons, List.length_nil, List.length_map]); omega)
    have HQ1 := Lib.hid q1
    have HS := Lib.hid (show actM a = none from by simp [actM, actL, andL, HK.out, b_double, HQ1.out])
    clear h q1
    go_enter Tryz.func36, Tryz.ntmps36
    go_wp2_with (first
      | (go_at_call 61; (with_reducible refine (lay2 w0 _ b _ _ _ _ H0.out HZ0.out HE0.out).mono ?_); rintro e w1 ⟨rfl, h⟩; have r0b0 := HM0.out _ _ h; have yb0b0 := r0b0.1; have y0b0c2 := r0b0.cell (j := 2) rfl; clear r0b0; have H1 := Lib.hid h; clear h)
      | (go_at_call 62; (with_reducible refine (num1 w0 _ b _ _ _ _ H1.out HT.out HZ1.out rfl).mono ?_); rintro e w2 h; rw [HQ1.out] at h; obtain ⟨he, h⟩ := h; have H2 := Lib.hid h; clear h; unfold NoL at he; subst he))
    rw [HS.out]
    exact ⟨rfl, rfl, H2.out⟩
  · have H0 := Lib.hid (h.push (.cells #[.int .i64 a.kind, .int .i64 a.node, .int .i64 a.n, .int .i64 a.client, .int .i64 a.number, .int .i64 a.cmd.kind, .string a.cmd.actor, .string a.cmd.schema, .string a.cmd.table, .string a.cmd.name, .string a.cmd.role, .slice A a.cmd.cols.length k, .string a.cmd.rule.name, .int .i64 a.cmd.rule.kind, .slice A2 a.cmd.rule.cols.length k2, .int .i64 a.cmd.rule.low, .int .i64 a.cmd.rule.high, .string a.cmd.rule.schema, .string a.cmd.rule.table, .string a.cmd.rule.key, .int .i64 a.cmd.right, .bool a.cmd.opt, .int .i64 a.ck, .int .i64 a.cn, .int .i64 a.row.kind, .string a.row.role, .string a.row.schema, .string a.row.table, .slice A3 a.row.row.length k3, .string a.row.col, .int .i64 a.row.v.kind, .int .i64 a.row.v.int, .string a.row.v.text] 43))
    have HM0 := Lib.hid (show ∀ L' V, LyS w0 ((w.heap.size, .cells #[.int .i64 a.kind, .int .i64 a.node, .int .i64 a.n, .int .i64 a.client, .int .i64 a.number, .int .i64 a.cmd.kind, .string a.cmd.actor, .string a.cmd.schema, .string a.cmd.table, .string a.cmd.name, .string a.cmd.role, .slice A a.cmd.cols.length k, .string a.cmd.rule.name, .int .i64 a.cmd.rule.kind, .slice A2 a.cmd.rule.cols.length k2, .int .i64 a.cmd.rule.low, .int .i64 a.cmd.rule.high, .string a.cmd.rule.schema, .string a.cmd.rule.table, .string a.cmd.rule.key, .int .i64 a.cmd.right, .bool a.cmd.opt, .int .i64 a.ck, .int .i64 a.cn, .int .i64 a.row.kind, .string a.row.role, .string a.row.schema, .string a.row.table, .slice A3 a.row.row.length k3, .string a.row.col, .int .i64 a.row.v.kind, .int .i64 a.row.v.int, .string a.row.v.text] 43) :: Q) b L' V → RowAt V (w.heap.size) [.int .i64 a.kind, .int .i64 a.node, .int .i64 a.n, .int .i64 a.client, .int .i64 a.number, .int .i64 a.cmd.kind, .string a.cmd.actor, .string a.cmd.schema, .string a.cmd.table, .string a.cmd.name, .string a.cmd.role, .slice A a.cmd.cols.length k, .string a.cmd.rule.name, .int .i64 a.cmd.rule.kind, .slice A2 a.cmd.rule.cols.length k2, .int .i64 a.cmd.rule.low, .int .i64 a.cmd.rule.high, .string a.cmd.rule.schema, .string a.cmd.rule.table, .string a.cmd.rule.key, .int .i64 a.cmd.right, .bool a.cmd.opt, .int .i64 a.ck, .int .i64 a.cn, .int .i64 a.row.kind, .string a.row.role, .string a.row.schema, .string a.row.table, .slice A3 a.row.row.length k3, .string a.row.col, .int .i64 a.row.v.kind, .int .i64 a.row.v.int, .string a.row.v.text] from fun L' V h => h.same List.mem_cons_self)
    have HE0 := Lib.hid (show w.heap.size + 1 = (w.alloc (.cells #[.int .i64 a.kind, .int .i64 a.node, .int .i64 a.n, .int .i64 a.client, .int .i64 a.number, .int .i64 a.cmd.kind, .string a.cmd.actor, .string a.cmd.schema, .string a.cmd.table, .string a.cmd.name, .string a.cmd.role, .slice A a.cmd.cols.length k, .string a.cmd.rule.name, .int .i64 a.cmd.rule.kind, .slice A2 a.cmd.rule.cols.length k2, .int .i64 a.cmd.rule.low, .int .i64 a.cmd.rule.high, .string a.cmd.rule.schema, .string a.cmd.rule.table, .string a.cmd.rule.key, .int .i64 a.cmd.right, .bool a.cmd.opt, .int .i64 a.ck, .int .i64 a.cn, .int .i64 a.row.kind, .string a.row.role, .string a.row.schema, .string a.row.table, .slice A3 a.row.row.length k3, .string a.row.col, .int .i64 a.row.v.kind, .int .i64 a.row.v.int, .string a.row.v.text] 43)).heap.size from by simp)
    have HZ0 := Lib.hid (show (L).length ≤ 40000 from by (try simp only [List.length_append, List.length_cons, List.length_nil, List.length_map]); omega)
    have HZ1 := Lib.hid (show (L ++ [(⟨#[100, 111, 117, 98, 108, 101]⟩ : ByteArray)]).length ≤ 50000 from by (try simp only [List.length_append, List.length_cons, List.length_nil, List.length_map]); omega)
    have HQ1 := Lib.hid q1
    have HS := Lib.hid (show actM a = some ([(⟨#[100, 111, 117, 98, 108, 101]⟩ : ByteArray)] ++ (List.map itoaB [a.n])) from by simp [actM, actL, andL, HK.out, b_double, HQ1.out])
    clear h q1
    go_enter Tryz.func36, Tryz.ntmps36
    go_wp2_with (first
      | (go_at_call 61; (with_reducible refine (lay2 w0 _ b _ _ _ _ H0.out HZ0.out HE0.out).mono ?_); rintro e w1 ⟨rfl, h⟩; have r0b0 := HM0.out _ _ h; have yb0b0 := r0b0.1; have y0b0c2 := r0b0.cell (j := 2) rfl; clear r0b0; have H1 := Lib.hid h; clear h)
      | (go_at_call 62; (with_reducible refine (num1 w0 _ b _ _ _ _ H1.out HT.out HZ1.out rfl).mono ?_); rintro e w2 h; rw [HQ1.out] at h; obtain ⟨rfl, h⟩ := h; have H2 := Lib.hid h; clear h))
    go_end0
    rw [HS.out]
    exact ⟨rfl, LyS.conv (by first | (simp only [List.append_assoc]; rfl) | simp only [List.append_assoc]) H2.out.pop⟩
set_option maxHeartbeats 8000000 in
theorem act_k6 (w0 : World) (Q : List (Nat × Obj)) (b : Nat) (L : Ws) (a : Dact) (A : Option Addr) (k : Nat) (A2 : Option Addr) (k2 : Nat) (A3 : Option Addr) (k3 : Nat) (w : World) (h : LyS w0 Q b L w) (ht : TabW w0) (sm : SmC a.cmd) (so : SmO a.row) (hn : L.length ≤ 10) (hcc : SlAt w0 3 ColR A k a.cmd.cols) (hc : SlAt w0 1 StrR A2 k2 a.cmd.rule.cols) (hv : SlAt w0 3 ValR A3 k3 a.row.row) (hlc : a.cmd.cols.length ≤ 4100) (hl : a.cmd.rule.cols.length ≤ 4100) (hlr : a.row.row.length ≤ 4100) (hk : a.kind = 6) :
    Calls Tryz.prog 36 #[.pointer (some ⟨b, 0, none⟩), .agg #[.int .i64 a.kind, .int .i64 a.node, .int .i64 a.n, .int .i64 a.client, .int .i64 a.number, .int .i64 a.cmd.kind, .string a.cmd.actor, .string a.cmd.schema, .string a.cmd.table, .string a.cmd.name, .string a.cmd.role, .slice A a.cmd.cols.length k, .string a.cmd.rule.name, .int .i64 a.cmd.rule.kind, .slice A2 a.cmd.rule.cols.length k2, .int .i64 a.cmd.rule.low, .int .i64 a.cmd.rule.high, .string a.cmd.rule.schema, .string a.cmd.rule.table, .string a.cmd.rule.key, .int .i64 a.cmd.right, .bool a.cmd.opt, .int .i64 a.ck, .int .i64 a.cn, .int .i64 a.row.kind, .string a.row.role, .string a.row.schema, .string a.row.table, .slice A3 a.row.row.length k3, .string a.row.col, .int .i64 a.row.v.kind, .int .i64 a.row.v.int, .string a.row.v.text]] w (LyQ w0 Q b L (actM a)) := by
  have b1 : (a.kind == 1) = false := by simp [hk]
  have b2 : (a.kind == 2) = false := by simp [hk]
  have b12 : (a.kind == 12) = false := by simp [hk]
  have b3 : (a.kind == 3) = false := by simp [hk]
  have b4 : (a.kind == 4) = false := by simp [hk]
  have b5 : (a.kind == 5) = false := by simp [hk]
  have b6 : (a.kind == 6) = true := by simp [hk]
  have b7 : (a.kind == 7) = false := by simp [hk]
  have b8 : (a.kind == 8) = false := by simp [hk]
  have b9 : (a.kind == 9) = false := by simp [hk]
  have b10 : (a.kind == 10) = false := by simp [hk]
  have b11 : (a.kind == 11) = false := by simp [hk]
  have HT := Lib.hid ht
  have HSM := Lib.hid sm
  have HSO := Lib.hid so
  have HC := Lib.hid hc
  have HCC := Lib.hid hcc
  have HV := Lib.hid hv
  clear ht sm so hc hcc hv
  have HK := Lib.hid hk
  clear hk
  rcases nus_cases [a.node, a.client, a.number] with q1 | q1
  · have H0 := Lib.hid (h.push (.cells #[.int .i64 a.kind, .int .i64 a.node, .int .i64 a.n, .int .i64 a.client, .int .i64 a.number, .int .i64 a.cmd.kind, .string a.cmd.actor, .string a.cmd.schema, .string a.cmd.table, .string a.cmd.name, .string a.cmd.role, .slice A a.cmd.cols.length k, .string a.cmd.rule.name, .int .i64 a.cmd.rule.kind, .slice A2 a.cmd.rule.cols.length k2, .int .i64 a.cmd.rule.low, .int .i64 a.cmd.rule.high, .string a.cmd.rule.schema, .string a.cmd.rule.table, .string a.cmd.rule.key, .int .i64 a.cmd.right, .bool a.cmd.opt, .int .i64 a.ck, .int .i64 a.cn, .int .i64 a.row.kind, .string a.row.role, .string a.row.schema, .string a.row.table, .slice A3 a.row.row.length k3, .string a.row.col, .int .i64 a.row.v.kind, .int .i64 a.row.v.int, .string a.row.v.text] 43))
    have HM0 := Lib.hid (show ∀ L' V, LyS w0 ((w.heap.size, .cells #[.int .i64 a.kind, .int .i64 a.node, .int .i64 a.n, .int .i64 a.client, .int .i64 a.number, .int .i64 a.cmd.kind, .string a.cmd.actor, .string a.cmd.schema, .string a.cmd.table, .string a.cmd.name, .string a.cmd.role, .slice A a.cmd.cols.length k, .string a.cmd.rule.name, .int .i64 a.cmd.rule.kind, .slice A2 a.cmd.rule.cols.length k2, .int .i64 a.cmd.rule.low, .int .i64 a.cmd.rule.high, .string a.cmd.rule.schema, .string a.cmd.rule.table, .string a.cmd.rule.key, .int .i64 a.cmd.right, .bool a.cmd.opt, .int .i64 a.ck, .int .i64 a.cn, .int .i64 a.row.kind, .string a.row.role, .string a.row.schema, .string a.row.table, .slice A3 a.row.row.length k3, .string a.row.col, .int .i64 a.row.v.kind, .int .i64 a.row.v.int, .string a.row.v.text] 43) :: Q) b L' V → RowAt V (w.heap.size) [.int .i64 a.kind, .int .i64 a.node, .int .i64 a.n, .int .i64 a.client, .int .i64 a.number, .int .i64 a.cmd.kind, .string a.cmd.actor, .string a.cmd.schema, .string a.cmd.table, .string a.cmd.name, .string a.cmd.role, .slice A a.cmd.cols.length k, .string a.cmd.rule.name, .int .i64 a.cmd.rule.kind, .slice A2 a.cmd.rule.cols.length k2, .int .i64 a.cmd.rule.low, .int .i64 a.cmd.rule.high, .string a.cmd.rule.schema, .string a.cmd.rule.table, .string a.cmd.rule.key, .int .i64 a.cmd.right, .bool a.cmd.opt, .int .i64 a.ck, .int .i64 a.cn, .int .i64 a.row.kind, .string a.row.role, .string a.row.schema, .string a.row.table, .slice A3 a.row.row.length k3, .string a.row.col, .int .i64 a.row.v.kind, .int .i64 a.row.v.int, .string a.row.v.text] from fun L' V h => h.same List.mem_cons_self)
    have HE0 := Lib.hid (show w.heap.size + 1 = (w.alloc (.cells #[.int .i64 a.kind, .int .i64 a.node, .int .i64 a.n, .int .i64 a.client, .int .i64 a.number, .int .i64 a.cmd.kind, .string a.cmd.actor, .string a.cmd.schema, .string a.cmd.table, .string a.cmd.name, .string a.cmd.role, .slice A a.cmd.cols.length k, .string a.cmd.rule.name, .int .i64 a.cmd.rule.kind, .slice A2 a.cmd.rule.cols.length k2, .int .i64 a.cmd.rule.low, .int .i64 a.cmd.rule.high, .string a.cmd.rule.schema, .string a.cmd.rule.table, .string a.cmd.rule.key, .int .i64 a.cmd.right, .bool a.cmd.opt, .int .i64 a.ck, .int .i64 a.cn, .int .i64 a.row.kind, .string a.row.role, .string a.row.schema, .string a.row.table, .slice A3 a.row.row.length k3, .string a.row.col, .int .i64 a.row.v.kind, .int .i64 a.row.v.int, .string a.row.v.text] 43)).heap.size from by simp)
    have HZ0 := Lib.hid (show (L).length ≤ 40000 from by (try simp only [List.length_append, List.length_cons, List.length_nil, List.length_map]); omega)
    have HZ1 := Lib.hid (show (L ++ [(⟨#[97, 115, 107]⟩ : ByteArray)]).length ≤ 50000 from by (try simp only [List.length_append, List.length_cons, List.length_nil, List.length_map]); omega)
    have HQ1 := Lib.hid q1
    have HS := Lib.hid (show actM a = none from by simp [actM, actL, andL, HK.out, b_ask, HQ1.out])
    clear h q1
    go_enter Tryz.func36, Tryz.ntmps36
    go_wp2_with (first
      | (go_at_call 61; (with_reducible refine (lay2 w0 _ b _ _ _ _ H0.out HZ0.out HE0.out).mono ?_); rintro e w1 ⟨rfl, h⟩; have r0b0 := HM0.out _ _ h; have yb0b0 := r0b0.1; have y0b0c1 := r0b0.cell (j := 1) rfl; have y0b0c3 := r0b0.cell (j := 3) rfl; have y0b0c4 := r0b0.cell (j := 4) rfl; clear r0b0; have H1 := Lib.hid h; clear h)
      | (go_at_call 62; (with_reducible refine (num3 w0 _ b _ _ _ _ _ _ H1.out HT.out HZ1.out rfl).mono ?_); rintro e w2 h; rw [HQ1.out] at h; obtain ⟨he, h⟩ := h; have H2 := Lib.hid h; clear h; unfold NoL at he; subst he))
    rw [HS.out]
    exact ⟨rfl, rfl, H2.out⟩
  · obtain ⟨o2, q2⟩ : ∃ o, cmdL a.cmd = o := ⟨_, rfl⟩
    cases o2 with
    | none =>
      have H0 := Lib.hid (h.push (.cells #[.int .i64 a.kind, .int .i64 a.node, .int .i64 a.n, .int .i64 a.client, .int .i64 a.number, .int .i64 a.cmd.kind, .string a.cmd.actor, .string a.cmd.schema, .string a.cmd.table, .string a.cmd.name, .string a.cmd.role, .slice A a.cmd.cols.length k, .string a.cmd.rule.name, .int .i64 a.cmd.rule.kind, .slice A2 a.cmd.rule.cols.length k2, .int .i64 a.cmd.rule.low, .int .i64 a.cmd.rule.high, .string a.cmd.rule.schema, .string a.cmd.rule.table, .string a.cmd.rule.key, .int .i64 a.cmd.right, .bool a.cmd.opt, .int .i64 a.ck, .int .i64 a.cn, .int .i64 a.row.kind, .string a.row.role, .string a.row.schema, .string a.row.table, .slice A3 a.row.row.length k3, .string a.row.col, .int .i64 a.row.v.kind, .int .i64 a.row.v.int, .string a.row.v.text] 43))
      have HM0 := Lib.hid (show ∀ L' V, LyS w0 ((w.heap.size, .cells #[.int .i64 a.kind, .int .i64 a.node, .int .i64 a.n, .int .i64 a.client, .int .i64 a.number, .int .i64 a.cmd.kind, .string a.cmd.actor, .string a.cmd.schema, .string a.cmd.table, .string a.cmd.name, .string a.cmd.role, .slice A a.cmd.cols.length k, .string a.cmd.rule.name, .int .i64 a.cmd.rule.kind, .slice A2 a.cmd.rule.cols.length k2, .int .i64 a.cmd.rule.low, .int .i64 a.cmd.rule.high, .string a.cmd.rule.schema, .string a.cmd.rule.table, .string a.cmd.rule.key, .int .i64 a.cmd.right, .bool a.cmd.opt, .int .i64 a.ck, .int .i64 a.cn, .int .i64 a.row.kind, .string a.row.role, .string a.row.schema, .string a.row.table, .slice A3 a.row.row.length k3, .string a.row.col, .int .i64 a.row.v.kind, .int .i64 a.row.v.int, .string a.row.v.text] 43) :: Q) b L' V → RowAt V (w.heap.size) [.int .i64 a.kind, .int .i64 a.node, .int .i64 a.n, .int .i64 a.client, .int .i64 a.number, .int .i64 a.cmd.kind, .string a.cmd.actor, .string a.cmd.schema, .string a.cmd.table, .string a.cmd.name, .string a.cmd.role, .slice A a.cmd.cols.length k, .string a.cmd.rule.name, .int .i64 a.cmd.rule.kind, .slice A2 a.cmd.rule.cols.length k2, .int .i64 a.cmd.rule.low, .int .i64 a.cmd.rule.high, .string a.cmd.rule.schema, .string a.cmd.rule.table, .string a.cmd.rule.key, .int .i64 a.cmd.right, .bool a.cmd.opt, .int .i64 a.ck, .int .i64 a.cn, .int .i64 a.row.kind, .string a.row.role, .string a.row.schema, .string a.row.table, .slice A3 a.row.row.length k3, .string a.row.col, .int .i64 a.row.v.kind, .int .i64 a.row.v.int, .string a.row.v.text] from fun L' V h => h.same List.mem_cons_self)
      have HE0 := Lib.hid (show w.heap.size + 1 = (w.alloc (.cells #[.int .i64 a.kind, .int .i64 a.node, .int .i64 a.n, .int .i64 a.client, .int .i64 a.number, .int .i64 a.cmd.kind, .string a.cmd.actor, .string a.cmd.schema, .string a.cmd.table, .string a.cmd.name, .string a.cmd.role, .slice A a.cmd.cols.length k, .string a.cmd.rule.name, .int .i64 a.cmd.rule.kind, .slice A2 a.cmd.rule.cols.length k2, .int .i64 a.cmd.rule.low, .int .i64 a.cmd.rule.high, .string a.cmd.rule.schema, .string a.cmd.rule.table, .string a.cmd.rule.key, .int .i64 a.cmd.right, .bool a.cmd.opt, .int .i64 a.ck, .int .i64 a.cn, .int .i64 a.row.kind, .string a.row.role, .string a.row.schema, .string a.row.table, .slice A3 a.row.row.length k3, .string a.row.col, .int .i64 a.row.v.kind, .int .i64 a.row.v.int, .string a.row.v.text] 43)).heap.size from by simp)
      have HZ0 := Lib.hid (show (L).length ≤ 40000 from by (try simp only [List.length_append, List.length_cons, List.length_nil, List.length_map]); omega)
      have HZ1 := Lib.hid (show (L ++ [(⟨#[97, 115, 107]⟩ : ByteArray)]).length ≤ 50000 from by (try simp only [List.length_append, List.length_cons, List.length_nil, List.length_map]); omega)
      have HQ1 := Lib.hid q1
      have HZ2 := Lib.hid (show (L ++ [(⟨#[97, 115, 107]⟩ : ByteArray)] ++ List.map itoaB [a.node, a.client, a.number]).length ≤ 50 from by (try simp only [List.length_append, List.length_cons, List.length_nil, List.length_map]); omega)
      have HQ2 := Lib.hid q2
      have HS := Lib.hid (show actM a = none from by simp [actM, actL, andL, HK.out, b_ask, HQ1.out, HQ2.out])
      clear h q1 q2
      go_enter Tryz.func36, Tryz.ntmps36
      go_wp2_with (first
        | (go_at_call 61; (with_reducible refine (lay2 w0 _ b _ _ _ _ H0.out HZ0.out HE0.out).mono ?_); rintro e w1 ⟨rfl, h⟩; have r0b0 := HM0.out _ _ h; have yb0b0 := r0b0.1; have y0b0c1 := r0b0.cell (j := 1) rfl; have y0b0c3 := r0b0.cell (j := 3) rfl; have y0b0c4 := r0b0.cell (j := 4) rfl; clear r0b0; have H1 := Lib.hid h; clear h)
        | (go_at_call 62; (with_reducible refine (num3 w0 _ b _ _ _ _ _ _ H1.out HT.out HZ1.out rfl).mono ?_); rintro e w2 h; rw [HQ1.out] at h; obtain ⟨rfl, h⟩ := h; have r1b0 := HM0.out _ _ h; have yb1b0 := r1b0.1; have y1b0c5 := r1b0.cell (j := 5) rfl; have y1b0c6 := r1b0.cell (j := 6) rfl; have y1b0c7 := r1b0.cell (j := 7) rfl; have y1b0c8 := r1b0.cell (j := 8) rfl; have y1b0c9 := r1b0.cell (j := 9) rfl; have y1b0c10 := r1b0.cell (j := 10) rfl; have y1b0c11 := r1b0.cell (j := 11) rfl; have y1b0c12 := r1b0.cell (j := 12) rfl; have y1b0c13 := r1b0.cell (j := 13) rfl; have y1b0c14 := r1b0.cell (j := 14) rfl; have y1b0c15 := r1b0.cell (j := 15) rfl; have y1b0c16 := r1b0.cell (j := 16) rfl; have y1b0c17 := r1b0.cell (j := 17) rfl; have y1b0c18 := r1b0.cell (j := 18) rfl; have y1b0c19 := r1b0.cell (j := 19) rfl; have y1b0c20 := r1b0.cell (j := 20) rfl; have y1b0c21 := r1b0.cell (j := 21) rfl; clear r1b0; have H2 := Lib.hid h; clear h)
        | (go_at_call 63; (with_reducible refine (cmd_in w0 _ b _ a.cmd A k A2 k2 _ H2.out HT.out HSM.out HZ2.out HCC.out HC.out hlc hl).mono ?_); rintro e w3 h; rw [HQ2.out] at h; obtain ⟨he, h⟩ := h; have H3 := Lib.hid h; clear h; unfold NoL at he; subst he))
      rw [HS.out]
      exact ⟨rfl, rfl, H3.out⟩
    | some W2 =>
      have H0 := Lib.hid (h.push (.cells #[.int .i64 a.kind, .int .i64 a.node, .int .i64 a.n, .int .i64 a.client, .int .i64 a.number, .int .i64 a.cmd.kind, .string a.cmd.actor, .string a.cmd.schema, .string a.cmd.table, .string a.cmd.name, .string a.cmd.role, .slice A a.cmd.cols.length k, .string a.cmd.rule.name, .int .i64 a.cmd.rule.kind, .slice A2 a.cmd.rule.cols.length k2, .int .i64 a.cmd.rule.low, .int .i64 a.cmd.rule.high, .string a.cmd.rule.schema, .string a.cmd.rule.table, .string a.cmd.rule.key, .int .i64 a.cmd.right, .bool a.cmd.opt, .int .i64 a.ck, .int .i64 a.cn, .int .i64 a.row.kind, .string a.row.role, .string a.row.schema, .string a.row.table, .slice A3 a.row.row.length k3, .string a.row.col, .int .i64 a.row.v.kind, .int .i64 a.row.v.int, .string a.row.v.text] 43))
      have HM0 := Lib.hid (show ∀ L' V, LyS w0 ((w.heap.size, .cells #[.int .i64 a.kind, .int .i64 a.node, .int .i64 a.n, .int .i64 a.client, .int .i64 a.number, .int .i64 a.cmd.kind, .string a.cmd.actor, .string a.cmd.schema, .string a.cmd.table, .string a.cmd.name, .string a.cmd.role, .slice A a.cmd.cols.length k, .string a.cmd.rule.name, .int .i64 a.cmd.rule.kind, .slice A2 a.cmd.rule.cols.length k2, .int .i64 a.cmd.rule.low, .int .i64 a.cmd.rule.high, .string a.cmd.rule.schema, .string a.cmd.rule.table, .string a.cmd.rule.key, .int .i64 a.cmd.right, .bool a.cmd.opt, .int .i64 a.ck, .int .i64 a.cn, .int .i64 a.row.kind, .string a.row.role, .string a.row.schema, .string a.row.table, .slice A3 a.row.row.length k3, .string a.row.col, .int .i64 a.row.v.kind, .int .i64 a.row.v.int, .string a.row.v.text] 43) :: Q) b L' V → RowAt V (w.heap.size) [.int .i64 a.kind, .int .i64 a.node, .int .i64 a.n, .int .i64 a.client, .int .i64 a.number, .int .i64 a.cmd.kind, .string a.cmd.actor, .string a.cmd.schema, .string a.cmd.table, .string a.cmd.name, .string a.cmd.role, .slice A a.cmd.cols.length k, .string a.cmd.rule.name, .int .i64 a.cmd.rule.kind, .slice A2 a.cmd.rule.cols.length k2, .int .i64 a.cmd.rule.low, .int .i64 a.cmd.rule.high, .string a.cmd.rule.schema, .string a.cmd.rule.table, .string a.cmd.rule.key, .int .i64 a.cmd.right, .bool a.cmd.opt, .int .i64 a.ck, .int .i64 a.cn, .int .i64 a.row.kind, .string a.row.role, .string a.row.schema, .string a.row.table, .slice A3 a.row.row.length k3, .string a.row.col, .int .i64 a.row.v.kind, .int .i64 a.row.v.int, .string a.row.v.text] from fun L' V h => h.same List.mem_cons_self)
      have HE0 := Lib.hid (show w.heap.size + 1 = (w.alloc (.cells #[.int .i64 a.kind, .int .i64 a.node, .int .i64 a.n, .int .i64 a.client, .int .i64 a.number, .int .i64 a.cmd.kind, .string a.cmd.actor, .string a.cmd.schema, .string a.cmd.table, .string a.cmd.name, .string a.cmd.role, .slice A a.cmd.cols.length k, .string a.cmd.rule.name, .int .i64 a.cmd.rule.kind, .slice A2 a.cmd.rule.cols.length k2, .int .i64 a.cmd.rule.low, .int .i64 a.cmd.rule.high, .string a.cmd.rule.schema, .string a.cmd.rule.table, .string a.cmd.rule.key, .int .i64 a.cmd.right, .bool a.cmd.opt, .int .i64 a.ck, .int .i64 a.cn, .int .i64 a.row.kind, .string a.row.role, .string a.row.schema, .string a.row.table, .slice A3 a.row.row.length k3, .string a.row.col, .int .i64 a.row.v.kind, .int .i64 a.row.v.int, .string a.row.v.text] 43)).heap.size from by simp)
      have HZ0 := Lib.hid (show (L).length ≤ 40000 from by (try simp only [List.length_append, List.length_cons, List.length_nil, List.length_map]); omega)
      have HZ1 := Lib.hid (show (L ++ [(⟨#[97, 115, 107]⟩ : ByteArray)]).length ≤ 50000 from by (try simp only [List.length_append, List.length_cons, List.length_nil, List.length_map]); omega)
      have HQ1 := Lib.hid q1
      have HZ2 := Lib.hid (show (L ++ [(⟨#[97, 115, 107]⟩ : ByteArray)] ++ List.map itoaB [a.node, a.client, a.number]).length ≤ 50 from by (try simp only [List.length_append, List.length_cons, List.length_nil, List.length_map]); omega)
      have HQ2 := Lib.hid q2
      have HS := Lib.hid (show actM a = some ([(⟨#[97, 115, 107]⟩ : ByteArray)] ++ (List.map itoaB [a.node, a.client, a.number] ++ (W2))) from by simp [actM, actL, andL, HK.out, b_ask, HQ1.out, HQ2.out])
      clear h q1 q2
      go_enter Tryz.func36, Tryz.ntmps36
      go_wp2_with (first
        | (go_at_call 61; (with_reducible refine (lay2 w0 _ b _ _ _ _ H0.out HZ0.out HE0.out).mono ?_); rintro e w1 ⟨rfl, h⟩; have r0b0 := HM0.out _ _ h; have yb0b0 := r0b0.1; have y0b0c1 := r0b0.cell (j := 1) rfl; have y0b0c3 := r0b0.cell (j := 3) rfl; have y0b0c4 := r0b0.cell (j := 4) rfl; clear r0b0; have H1 := Lib.hid h; clear h)
        | (go_at_call 62; (with_reducible refine (num3 w0 _ b _ _ _ _ _ _ H1.out HT.out HZ1.out rfl).mono ?_); rintro e w2 h; rw [HQ1.out] at h; obtain ⟨rfl, h⟩ := h; have r1b0 := HM0.out _ _ h; have yb1b0 := r1b0.1; have y1b0c5 := r1b0.cell (j := 5) rfl; have y1b0c6 := r1b0.cell (j := 6) rfl; have y1b0c7 := r1b0.cell (j := 7) rfl; have y1b0c8 := r1b0.cell (j := 8) rfl; have y1b0c9 := r1b0.cell (j := 9) rfl; have y1b0c10 := r1b0.cell (j := 10) rfl; have y1b0c11 := r1b0.cell (j := 11) rfl; have y1b0c12 := r1b0.cell (j := 12) rfl; have y1b0c13 := r1b0.cell (j := 13) rfl; have y1b0c14 := r1b0.cell (j := 14) rfl; have y1b0c15 := r1b0.cell (j := 15) rfl; have y1b0c16 := r1b0.cell (j := 16) rfl; have y1b0c17 := r1b0.cell (j := 17) rfl; have y1b0c18 := r1b0.cell (j := 18) rfl; have y1b0c19 := r1b0.cell (j := 19) rfl; have y1b0c20 := r1b0.cell (j := 20) rfl; have y1b0c21 := r1b0.cell (j := 21) rfl; clear r1b0; have H2 := Lib.hid h; clear h)
        | (go_at_call 63; (with_reducible refine (cmd_in w0 _ b _ a.cmd A k A2 k2 _ H2.out HT.out HSM.out HZ2.out HCC.out HC.out hlc hl).mono ?_); rintro e w3 h; rw [HQ2.out] at h; obtain ⟨rfl, h⟩ := h; have H3 := Lib.hid h; clear h))
      go_end0
      rw [HS.out]
      exact ⟨rfl, LyS.conv (by first | (simp only [List.append_assoc]; rfl) | simp only [List.append_assoc]) H3.out.pop⟩
set_option maxHeartbeats 8000000 in
theorem act_k7 (w0 : World) (Q : List (Nat × Obj)) (b : Nat) (L : Ws) (a : Dact) (A : Option Addr) (k : Nat) (A2 : Option Addr) (k2 : Nat) (A3 : Option Addr) (k3 : Nat) (w : World) (h : LyS w0 Q b L w) (ht : TabW w0) (sm : SmC a.cmd) (so : SmO a.row) (hn : L.length ≤ 10) (hcc : SlAt w0 3 ColR A k a.cmd.cols) (hc : SlAt w0 1 StrR A2 k2 a.cmd.rule.cols) (hv : SlAt w0 3 ValR A3 k3 a.row.row) (hlc : a.cmd.cols.length ≤ 4100) (hl : a.cmd.rule.cols.length ≤ 4100) (hlr : a.row.row.length ≤ 4100) (hk : a.kind = 7) :
    Calls Tryz.prog 36 #[.pointer (some ⟨b, 0, none⟩), .agg #[.int .i64 a.kind, .int .i64 a.node, .int .i64 a.n, .int .i64 a.client, .int .i64 a.number, .int .i64 a.cmd.kind, .string a.cmd.actor, .string a.cmd.schema, .string a.cmd.table, .string a.cmd.name, .string a.cmd.role, .slice A a.cmd.cols.length k, .string a.cmd.rule.name, .int .i64 a.cmd.rule.kind, .slice A2 a.cmd.rule.cols.length k2, .int .i64 a.cmd.rule.low, .int .i64 a.cmd.rule.high, .string a.cmd.rule.schema, .string a.cmd.rule.table, .string a.cmd.rule.key, .int .i64 a.cmd.right, .bool a.cmd.opt, .int .i64 a.ck, .int .i64 a.cn, .int .i64 a.row.kind, .string a.row.role, .string a.row.schema, .string a.row.table, .slice A3 a.row.row.length k3, .string a.row.col, .int .i64 a.row.v.kind, .int .i64 a.row.v.int, .string a.row.v.text]] w (LyQ w0 Q b L (actM a)) := by
  have b1 : (a.kind == 1) = false := by simp [hk]
  have b2 : (a.kind == 2) = false := by simp [hk]
  have b12 : (a.kind == 12) = false := by simp [hk]
  have b3 : (a.kind == 3) = false := by simp [hk]
  have b4 : (a.kind == 4) = false := by simp [hk]
  have b5 : (a.kind == 5) = false := by simp [hk]
  have b6 : (a.kind == 6) = false := by simp [hk]
  have b7 : (a.kind == 7) = true := by simp [hk]
  have b8 : (a.kind == 8) = false := by simp [hk]
  have b9 : (a.kind == 9) = false := by simp [hk]
  have b10 : (a.kind == 10) = false := by simp [hk]
  have b11 : (a.kind == 11) = false := by simp [hk]
  have HT := Lib.hid ht
  have HSM := Lib.hid sm
  have HSO := Lib.hid so
  have HC := Lib.hid hc
  have HCC := Lib.hid hcc
  have HV := Lib.hid hv
  clear ht sm so hc hcc hv
  have HK := Lib.hid hk
  clear hk
  rcases nus_cases [a.node, a.client, a.number] with q1 | q1
  · have H0 := Lib.hid (h.push (.cells #[.int .i64 a.kind, .int .i64 a.node, .int .i64 a.n, .int .i64 a.client, .int .i64 a.number, .int .i64 a.cmd.kind, .string a.cmd.actor, .string a.cmd.schema, .string a.cmd.table, .string a.cmd.name, .string a.cmd.role, .slice A a.cmd.cols.length k, .string a.cmd.rule.name, .int .i64 a.cmd.rule.kind, .slice A2 a.cmd.rule.cols.length k2, .int .i64 a.cmd.rule.low, .int .i64 a.cmd.rule.high, .string a.cmd.rule.schema, .string a.cmd.rule.table, .string a.cmd.rule.key, .int .i64 a.cmd.right, .bool a.cmd.opt, .int .i64 a.ck, .int .i64 a.cn, .int .i64 a.row.kind, .string a.row.role, .string a.row.schema, .string a.row.table, .slice A3 a.row.row.length k3, .string a.row.col, .int .i64 a.row.v.kind, .int .i64 a.row.v.int, .string a.row.v.text] 43))
    have HM0 := Lib.hid (show ∀ L' V, LyS w0 ((w.heap.size, .cells #[.int .i64 a.kind, .int .i64 a.node, .int .i64 a.n, .int .i64 a.client, .int .i64 a.number, .int .i64 a.cmd.kind, .string a.cmd.actor, .string a.cmd.schema, .string a.cmd.table, .string a.cmd.name, .string a.cmd.role, .slice A a.cmd.cols.length k, .string a.cmd.rule.name, .int .i64 a.cmd.rule.kind, .slice A2 a.cmd.rule.cols.length k2, .int .i64 a.cmd.rule.low, .int .i64 a.cmd.rule.high, .string a.cmd.rule.schema, .string a.cmd.rule.table, .string a.cmd.rule.key, .int .i64 a.cmd.right, .bool a.cmd.opt, .int .i64 a.ck, .int .i64 a.cn, .int .i64 a.row.kind, .string a.row.role, .string a.row.schema, .string a.row.table, .slice A3 a.row.row.length k3, .string a.row.col, .int .i64 a.row.v.kind, .int .i64 a.row.v.int, .string a.row.v.text] 43) :: Q) b L' V → RowAt V (w.heap.size) [.int .i64 a.kind, .int .i64 a.node, .int .i64 a.n, .int .i64 a.client, .int .i64 a.number, .int .i64 a.cmd.kind, .string a.cmd.actor, .string a.cmd.schema, .string a.cmd.table, .string a.cmd.name, .string a.cmd.role, .slice A a.cmd.cols.length k, .string a.cmd.rule.name, .int .i64 a.cmd.rule.kind, .slice A2 a.cmd.rule.cols.length k2, .int .i64 a.cmd.rule.low, .int .i64 a.cmd.rule.high, .string a.cmd.rule.schema, .string a.cmd.rule.table, .string a.cmd.rule.key, .int .i64 a.cmd.right, .bool a.cmd.opt, .int .i64 a.ck, .int .i64 a.cn, .int .i64 a.row.kind, .string a.row.role, .string a.row.schema, .string a.row.table, .slice A3 a.row.row.length k3, .string a.row.col, .int .i64 a.row.v.kind, .int .i64 a.row.v.int, .string a.row.v.text] from fun L' V h => h.same List.mem_cons_self)
    have HE0 := Lib.hid (show w.heap.size + 1 = (w.alloc (.cells #[.int .i64 a.kind, .int .i64 a.node, .int .i64 a.n, .int .i64 a.client, .int .i64 a.number, .int .i64 a.cmd.kind, .string a.cmd.actor, .string a.cmd.schema, .string a.cmd.table, .string a.cmd.name, .string a.cmd.role, .slice A a.cmd.cols.length k, .string a.cmd.rule.name, .int .i64 a.cmd.rule.kind, .slice A2 a.cmd.rule.cols.length k2, .int .i64 a.cmd.rule.low, .int .i64 a.cmd.rule.high, .string a.cmd.rule.schema, .string a.cmd.rule.table, .string a.cmd.rule.key, .int .i64 a.cmd.right, .bool a.cmd.opt, .int .i64 a.ck, .int .i64 a.cn, .int .i64 a.row.kind, .string a.row.role, .string a.row.schema, .string a.row.table, .slice A3 a.row.row.length k3, .string a.row.col, .int .i64 a.row.v.kind, .int .i64 a.row.v.int, .string a.row.v.text] 43)).heap.size from by simp)
    have HZ0 := Lib.hid (show (L).length ≤ 40000 from by (try simp only [List.length_append, List.length_cons, List.length_nil, List.length_map]); omega)
    have HZ1 := Lib.hid (show (L ++ [(⟨#[114, 101, 97, 100]⟩ : ByteArray)]).length ≤ 50000 from by (try simp only [List.length_append, List.length_cons, List.length_nil, List.length_map]); omega)
    have HQ1 := Lib.hid q1
    have HS := Lib.hid (show actM a = none from by simp [actM, actL, andL, HK.out, b_read, HQ1.out])
    clear h q1
    go_enter Tryz.func36, Tryz.ntmps36
    go_wp2_with (first
      | (go_at_call 61; (with_reducible refine (lay2 w0 _ b _ _ _ _ H0.out HZ0.out HE0.out).mono ?_); rintro e w1 ⟨rfl, h⟩; have r0b0 := HM0.out _ _ h; have yb0b0 := r0b0.1; have y0b0c1 := r0b0.cell (j := 1) rfl; have y0b0c3 := r0b0.cell (j := 3) rfl; have y0b0c4 := r0b0.cell (j := 4) rfl; clear r0b0; have H1 := Lib.hid h; clear h)
      | (go_at_call 62; (with_reducible refine (num3 w0 _ b _ _ _ _ _ _ H1.out HT.out HZ1.out rfl).mono ?_); rintro e w2 h; rw [HQ1.out] at h; obtain ⟨he, h⟩ := h; have H2 := Lib.hid h; clear h; unfold NoL at he; subst he))
    rw [HS.out]
    exact ⟨rfl, rfl, H2.out⟩
  · have H0 := Lib.hid (h.push (.cells #[.int .i64 a.kind, .int .i64 a.node, .int .i64 a.n, .int .i64 a.client, .int .i64 a.number, .int .i64 a.cmd.kind, .string a.cmd.actor, .string a.cmd.schema, .string a.cmd.table, .string a.cmd.name, .string a.cmd.role, .slice A a.cmd.cols.length k, .string a.cmd.rule.name, .int .i64 a.cmd.rule.kind, .slice A2 a.cmd.rule.cols.length k2, .int .i64 a.cmd.rule.low, .int .i64 a.cmd.rule.high, .string a.cmd.rule.schema, .string a.cmd.rule.table, .string a.cmd.rule.key, .int .i64 a.cmd.right, .bool a.cmd.opt, .int .i64 a.ck, .int .i64 a.cn, .int .i64 a.row.kind, .string a.row.role, .string a.row.schema, .string a.row.table, .slice A3 a.row.row.length k3, .string a.row.col, .int .i64 a.row.v.kind, .int .i64 a.row.v.int, .string a.row.v.text] 43))
    have HM0 := Lib.hid (show ∀ L' V, LyS w0 ((w.heap.size, .cells #[.int .i64 a.kind, .int .i64 a.node, .int .i64 a.n, .int .i64 a.client, .int .i64 a.number, .int .i64 a.cmd.kind, .string a.cmd.actor, .string a.cmd.schema, .string a.cmd.table, .string a.cmd.name, .string a.cmd.role, .slice A a.cmd.cols.length k, .string a.cmd.rule.name, .int .i64 a.cmd.rule.kind, .slice A2 a.cmd.rule.cols.length k2, .int .i64 a.cmd.rule.low, .int .i64 a.cmd.rule.high, .string a.cmd.rule.schema, .string a.cmd.rule.table, .string a.cmd.rule.key, .int .i64 a.cmd.right, .bool a.cmd.opt, .int .i64 a.ck, .int .i64 a.cn, .int .i64 a.row.kind, .string a.row.role, .string a.row.schema, .string a.row.table, .slice A3 a.row.row.length k3, .string a.row.col, .int .i64 a.row.v.kind, .int .i64 a.row.v.int, .string a.row.v.text] 43) :: Q) b L' V → RowAt V (w.heap.size) [.int .i64 a.kind, .int .i64 a.node, .int .i64 a.n, .int .i64 a.client, .int .i64 a.number, .int .i64 a.cmd.kind, .string a.cmd.actor, .string a.cmd.schema, .string a.cmd.table, .string a.cmd.name, .string a.cmd.role, .slice A a.cmd.cols.length k, .string a.cmd.rule.name, .int .i64 a.cmd.rule.kind, .slice A2 a.cmd.rule.cols.length k2, .int .i64 a.cmd.rule.low, .int .i64 a.cmd.rule.high, .string a.cmd.rule.schema, .string a.cmd.rule.table, .string a.cmd.rule.key, .int .i64 a.cmd.right, .bool a.cmd.opt, .int .i64 a.ck, .int .i64 a.cn, .int .i64 a.row.kind, .string a.row.role, .string a.row.schema, .string a.row.table, .slice A3 a.row.row.length k3, .string a.row.col, .int .i64 a.row.v.kind, .int .i64 a.row.v.int, .string a.row.v.text] from fun L' V h => h.same List.mem_cons_self)
    have HE0 := Lib.hid (show w.heap.size + 1 = (w.alloc (.cells #[.int .i64 a.kind, .int .i64 a.node, .int .i64 a.n, .int .i64 a.client, .int .i64 a.number, .int .i64 a.cmd.kind, .string a.cmd.actor, .string a.cmd.schema, .string a.cmd.table, .string a.cmd.name, .string a.cmd.role, .slice A a.cmd.cols.length k, .string a.cmd.rule.name, .int .i64 a.cmd.rule.kind, .slice A2 a.cmd.rule.cols.length k2, .int .i64 a.cmd.rule.low, .int .i64 a.cmd.rule.high, .string a.cmd.rule.schema, .string a.cmd.rule.table, .string a.cmd.rule.key, .int .i64 a.cmd.right, .bool a.cmd.opt, .int .i64 a.ck, .int .i64 a.cn, .int .i64 a.row.kind, .string a.row.role, .string a.row.schema, .string a.row.table, .slice A3 a.row.row.length k3, .string a.row.col, .int .i64 a.row.v.kind, .int .i64 a.row.v.int, .string a.row.v.text] 43)).heap.size from by simp)
    have HZ0 := Lib.hid (show (L).length ≤ 40000 from by (try simp only [List.length_append, List.length_cons, List.length_nil, List.length_map]); omega)
    have HZ1 := Lib.hid (show (L ++ [(⟨#[114, 101, 97, 100]⟩ : ByteArray)]).length ≤ 50000 from by (try simp only [List.length_append, List.length_cons, List.length_nil, List.length_map]); omega)
    have HQ1 := Lib.hid q1
    have HS := Lib.hid (show actM a = some ([(⟨#[114, 101, 97, 100]⟩ : ByteArray)] ++ (List.map itoaB [a.node, a.client, a.number])) from by simp [actM, actL, andL, HK.out, b_read, HQ1.out])
    clear h q1
    go_enter Tryz.func36, Tryz.ntmps36
    go_wp2_with (first
      | (go_at_call 61; (with_reducible refine (lay2 w0 _ b _ _ _ _ H0.out HZ0.out HE0.out).mono ?_); rintro e w1 ⟨rfl, h⟩; have r0b0 := HM0.out _ _ h; have yb0b0 := r0b0.1; have y0b0c1 := r0b0.cell (j := 1) rfl; have y0b0c3 := r0b0.cell (j := 3) rfl; have y0b0c4 := r0b0.cell (j := 4) rfl; clear r0b0; have H1 := Lib.hid h; clear h)
      | (go_at_call 62; (with_reducible refine (num3 w0 _ b _ _ _ _ _ _ H1.out HT.out HZ1.out rfl).mono ?_); rintro e w2 h; rw [HQ1.out] at h; obtain ⟨rfl, h⟩ := h; have H2 := Lib.hid h; clear h))
    go_end0
    rw [HS.out]
    exact ⟨rfl, LyS.conv (by first | (simp only [List.append_assoc]; rfl) | simp only [List.append_assoc]) H2.out.pop⟩
set_option maxHeartbeats 8000000 in
theorem act_k9 (w0 : World) (Q : List (Nat × Obj)) (b : Nat) (L : Ws) (a : Dact) (A : Option Addr) (k : Nat) (A2 : Option Addr) (k2 : Nat) (A3 : Option Addr) (k3 : Nat) (w : World) (h : LyS w0 Q b L w) (ht : TabW w0) (sm : SmC a.cmd) (so : SmO a.row) (hn : L.length ≤ 10) (hcc : SlAt w0 3 ColR A k a.cmd.cols) (hc : SlAt w0 1 StrR A2 k2 a.cmd.rule.cols) (hv : SlAt w0 3 ValR A3 k3 a.row.row) (hlc : a.cmd.cols.length ≤ 4100) (hl : a.cmd.rule.cols.length ≤ 4100) (hlr : a.row.row.length ≤ 4100) (hk : a.kind = 9) :
    Calls Tryz.prog 36 #[.pointer (some ⟨b, 0, none⟩), .agg #[.int .i64 a.kind, .int .i64 a.node, .int .i64 a.n, .int .i64 a.client, .int .i64 a.number, .int .i64 a.cmd.kind, .string a.cmd.actor, .string a.cmd.schema, .string a.cmd.table, .string a.cmd.name, .string a.cmd.role, .slice A a.cmd.cols.length k, .string a.cmd.rule.name, .int .i64 a.cmd.rule.kind, .slice A2 a.cmd.rule.cols.length k2, .int .i64 a.cmd.rule.low, .int .i64 a.cmd.rule.high, .string a.cmd.rule.schema, .string a.cmd.rule.table, .string a.cmd.rule.key, .int .i64 a.cmd.right, .bool a.cmd.opt, .int .i64 a.ck, .int .i64 a.cn, .int .i64 a.row.kind, .string a.row.role, .string a.row.schema, .string a.row.table, .slice A3 a.row.row.length k3, .string a.row.col, .int .i64 a.row.v.kind, .int .i64 a.row.v.int, .string a.row.v.text]] w (LyQ w0 Q b L (actM a)) := by
  have b1 : (a.kind == 1) = false := by simp [hk]
  have b2 : (a.kind == 2) = false := by simp [hk]
  have b12 : (a.kind == 12) = false := by simp [hk]
  have b3 : (a.kind == 3) = false := by simp [hk]
  have b4 : (a.kind == 4) = false := by simp [hk]
  have b5 : (a.kind == 5) = false := by simp [hk]
  have b6 : (a.kind == 6) = false := by simp [hk]
  have b7 : (a.kind == 7) = false := by simp [hk]
  have b8 : (a.kind == 8) = false := by simp [hk]
  have b9 : (a.kind == 9) = true := by simp [hk]
  have b10 : (a.kind == 10) = false := by simp [hk]
  have b11 : (a.kind == 11) = false := by simp [hk]
  have HT := Lib.hid ht
  have HSM := Lib.hid sm
  have HSO := Lib.hid so
  have HC := Lib.hid hc
  have HCC := Lib.hid hcc
  have HV := Lib.hid hv
  clear ht sm so hc hcc hv
  have HK := Lib.hid hk
  clear hk
  rcases nus_cases [a.n, a.node] with q1 | q1
  · have H0 := Lib.hid (h.push (.cells #[.int .i64 a.kind, .int .i64 a.node, .int .i64 a.n, .int .i64 a.client, .int .i64 a.number, .int .i64 a.cmd.kind, .string a.cmd.actor, .string a.cmd.schema, .string a.cmd.table, .string a.cmd.name, .string a.cmd.role, .slice A a.cmd.cols.length k, .string a.cmd.rule.name, .int .i64 a.cmd.rule.kind, .slice A2 a.cmd.rule.cols.length k2, .int .i64 a.cmd.rule.low, .int .i64 a.cmd.rule.high, .string a.cmd.rule.schema, .string a.cmd.rule.table, .string a.cmd.rule.key, .int .i64 a.cmd.right, .bool a.cmd.opt, .int .i64 a.ck, .int .i64 a.cn, .int .i64 a.row.kind, .string a.row.role, .string a.row.schema, .string a.row.table, .slice A3 a.row.row.length k3, .string a.row.col, .int .i64 a.row.v.kind, .int .i64 a.row.v.int, .string a.row.v.text] 43))
    have HM0 := Lib.hid (show ∀ L' V, LyS w0 ((w.heap.size, .cells #[.int .i64 a.kind, .int .i64 a.node, .int .i64 a.n, .int .i64 a.client, .int .i64 a.number, .int .i64 a.cmd.kind, .string a.cmd.actor, .string a.cmd.schema, .string a.cmd.table, .string a.cmd.name, .string a.cmd.role, .slice A a.cmd.cols.length k, .string a.cmd.rule.name, .int .i64 a.cmd.rule.kind, .slice A2 a.cmd.rule.cols.length k2, .int .i64 a.cmd.rule.low, .int .i64 a.cmd.rule.high, .string a.cmd.rule.schema, .string a.cmd.rule.table, .string a.cmd.rule.key, .int .i64 a.cmd.right, .bool a.cmd.opt, .int .i64 a.ck, .int .i64 a.cn, .int .i64 a.row.kind, .string a.row.role, .string a.row.schema, .string a.row.table, .slice A3 a.row.row.length k3, .string a.row.col, .int .i64 a.row.v.kind, .int .i64 a.row.v.int, .string a.row.v.text] 43) :: Q) b L' V → RowAt V (w.heap.size) [.int .i64 a.kind, .int .i64 a.node, .int .i64 a.n, .int .i64 a.client, .int .i64 a.number, .int .i64 a.cmd.kind, .string a.cmd.actor, .string a.cmd.schema, .string a.cmd.table, .string a.cmd.name, .string a.cmd.role, .slice A a.cmd.cols.length k, .string a.cmd.rule.name, .int .i64 a.cmd.rule.kind, .slice A2 a.cmd.rule.cols.length k2, .int .i64 a.cmd.rule.low, .int .i64 a.cmd.rule.high, .string a.cmd.rule.schema, .string a.cmd.rule.table, .string a.cmd.rule.key, .int .i64 a.cmd.right, .bool a.cmd.opt, .int .i64 a.ck, .int .i64 a.cn, .int .i64 a.row.kind, .string a.row.role, .string a.row.schema, .string a.row.table, .slice A3 a.row.row.length k3, .string a.row.col, .int .i64 a.row.v.kind, .int .i64 a.row.v.int, .string a.row.v.text] from fun L' V h => h.same List.mem_cons_self)
    have HE0 := Lib.hid (show w.heap.size + 1 = (w.alloc (.cells #[.int .i64 a.kind, .int .i64 a.node, .int .i64 a.n, .int .i64 a.client, .int .i64 a.number, .int .i64 a.cmd.kind, .string a.cmd.actor, .string a.cmd.schema, .string a.cmd.table, .string a.cmd.name, .string a.cmd.role, .slice A a.cmd.cols.length k, .string a.cmd.rule.name, .int .i64 a.cmd.rule.kind, .slice A2 a.cmd.rule.cols.length k2, .int .i64 a.cmd.rule.low, .int .i64 a.cmd.rule.high, .string a.cmd.rule.schema, .string a.cmd.rule.table, .string a.cmd.rule.key, .int .i64 a.cmd.right, .bool a.cmd.opt, .int .i64 a.ck, .int .i64 a.cn, .int .i64 a.row.kind, .string a.row.role, .string a.row.schema, .string a.row.table, .slice A3 a.row.row.length k3, .string a.row.col, .int .i64 a.row.v.kind, .int .i64 a.row.v.int, .string a.row.v.text] 43)).heap.size from by simp)
    have HZ0 := Lib.hid (show (L).length ≤ 40000 from by (try simp only [List.length_append, List.length_cons, List.length_nil, List.length_map]); omega)
    have HZ1 := Lib.hid (show (L ++ [(⟨#[108, 101, 97, 115, 101]⟩ : ByteArray)]).length ≤ 50000 from by (try simp only [List.length_append, List.length_cons, List.length_nil, List.length_map]); omega)
    have HQ1 := Lib.hid q1
    have HS := Lib.hid (show actM a = none from by simp [actM, actL, andL, HK.out, b_lease, HQ1.out])
    clear h q1
    go_enter Tryz.func36, Tryz.ntmps36
    go_wp2_with (first
      | (go_at_call 61; (with_reducible refine (lay2 w0 _ b _ _ _ _ H0.out HZ0.out HE0.out).mono ?_); rintro e w1 ⟨rfl, h⟩; have r0b0 := HM0.out _ _ h; have yb0b0 := r0b0.1; have y0b0c2 := r0b0.cell (j := 2) rfl; have y0b0c1 := r0b0.cell (j := 1) rfl; clear r0b0; have H1 := Lib.hid h; clear h)
      | (go_at_call 62; (with_reducible refine (num2 w0 _ b _ _ _ _ _ H1.out HT.out HZ1.out rfl).mono ?_); rintro e w2 h; rw [HQ1.out] at h; obtain ⟨he, h⟩ := h; have H2 := Lib.hid h; clear h; unfold NoL at he; subst he))
    rw [HS.out]
    exact ⟨rfl, rfl, H2.out⟩
  · have H0 := Lib.hid (h.push (.cells #[.int .i64 a.kind, .int .i64 a.node, .int .i64 a.n, .int .i64 a.client, .int .i64 a.number, .int .i64 a.cmd.kind, .string a.cmd.actor, .string a.cmd.schema, .string a.cmd.table, .string a.cmd.name, .string a.cmd.role, .slice A a.cmd.cols.length k, .string a.cmd.rule.name, .int .i64 a.cmd.rule.kind, .slice A2 a.cmd.rule.cols.length k2, .int .i64 a.cmd.rule.low, .int .i64 a.cmd.rule.high, .string a.cmd.rule.schema, .string a.cmd.rule.table, .string a.cmd.rule.key, .int .i64 a.cmd.right, .bool a.cmd.opt, .int .i64 a.ck, .int .i64 a.cn, .int .i64 a.row.kind, .string a.row.role, .string a.row.schema, .string a.row.table, .slice A3 a.row.row.length k3, .string a.row.col, .int .i64 a.row.v.kind, .int .i64 a.row.v.int, .string a.row.v.text] 43))
    have HM0 := Lib.hid (show ∀ L' V, LyS w0 ((w.heap.size, .cells #[.int .i64 a.kind, .int .i64 a.node, .int .i64 a.n, .int .i64 a.client, .int .i64 a.number, .int .i64 a.cmd.kind, .string a.cmd.actor, .string a.cmd.schema, .string a.cmd.table, .string a.cmd.name, .string a.cmd.role, .slice A a.cmd.cols.length k, .string a.cmd.rule.name, .int .i64 a.cmd.rule.kind, .slice A2 a.cmd.rule.cols.length k2, .int .i64 a.cmd.rule.low, .int .i64 a.cmd.rule.high, .string a.cmd.rule.schema, .string a.cmd.rule.table, .string a.cmd.rule.key, .int .i64 a.cmd.right, .bool a.cmd.opt, .int .i64 a.ck, .int .i64 a.cn, .int .i64 a.row.kind, .string a.row.role, .string a.row.schema, .string a.row.table, .slice A3 a.row.row.length k3, .string a.row.col, .int .i64 a.row.v.kind, .int .i64 a.row.v.int, .string a.row.v.text] 43) :: Q) b L' V → RowAt V (w.heap.size) [.int .i64 a.kind, .int .i64 a.node, .int .i64 a.n, .int .i64 a.client, .int .i64 a.number, .int .i64 a.cmd.kind, .string a.cmd.actor, .string a.cmd.schema, .string a.cmd.table, .string a.cmd.name, .string a.cmd.role, .slice A a.cmd.cols.length k, .string a.cmd.rule.name, .int .i64 a.cmd.rule.kind, .slice A2 a.cmd.rule.cols.length k2, .int .i64 a.cmd.rule.low, .int .i64 a.cmd.rule.high, .string a.cmd.rule.schema, .string a.cmd.rule.table, .string a.cmd.rule.key, .int .i64 a.cmd.right, .bool a.cmd.opt, .int .i64 a.ck, .int .i64 a.cn, .int .i64 a.row.kind, .string a.row.role, .string a.row.schema, .string a.row.table, .slice A3 a.row.row.length k3, .string a.row.col, .int .i64 a.row.v.kind, .int .i64 a.row.v.int, .string a.row.v.text] from fun L' V h => h.same List.mem_cons_self)
    have HE0 := Lib.hid (show w.heap.size + 1 = (w.alloc (.cells #[.int .i64 a.kind, .int .i64 a.node, .int .i64 a.n, .int .i64 a.client, .int .i64 a.number, .int .i64 a.cmd.kind, .string a.cmd.actor, .string a.cmd.schema, .string a.cmd.table, .string a.cmd.name, .string a.cmd.role, .slice A a.cmd.cols.length k, .string a.cmd.rule.name, .int .i64 a.cmd.rule.kind, .slice A2 a.cmd.rule.cols.length k2, .int .i64 a.cmd.rule.low, .int .i64 a.cmd.rule.high, .string a.cmd.rule.schema, .string a.cmd.rule.table, .string a.cmd.rule.key, .int .i64 a.cmd.right, .bool a.cmd.opt, .int .i64 a.ck, .int .i64 a.cn, .int .i64 a.row.kind, .string a.row.role, .string a.row.schema, .string a.row.table, .slice A3 a.row.row.length k3, .string a.row.col, .int .i64 a.row.v.kind, .int .i64 a.row.v.int, .string a.row.v.text] 43)).heap.size from by simp)
    have HZ0 := Lib.hid (show (L).length ≤ 40000 from by (try simp only [List.length_append, List.length_cons, List.length_nil, List.length_map]); omega)
    have HZ1 := Lib.hid (show (L ++ [(⟨#[108, 101, 97, 115, 101]⟩ : ByteArray)]).length ≤ 50000 from by (try simp only [List.length_append, List.length_cons, List.length_nil, List.length_map]); omega)
    have HQ1 := Lib.hid q1
    have HS := Lib.hid (show actM a = some ([(⟨#[108, 101, 97, 115, 101]⟩ : ByteArray)] ++ (List.map itoaB [a.n, a.node])) from by simp [actM, actL, andL, HK.out, b_lease, HQ1.out])
    clear h q1
    go_enter Tryz.func36, Tryz.ntmps36
    go_wp2_with (first
      | (go_at_call 61; (with_reducible refine (lay2 w0 _ b _ _ _ _ H0.out HZ0.out HE0.out).mono ?_); rintro e w1 ⟨rfl, h⟩; have r0b0 := HM0.out _ _ h; have yb0b0 := r0b0.1; have y0b0c2 := r0b0.cell (j := 2) rfl; have y0b0c1 := r0b0.cell (j := 1) rfl; clear r0b0; have H1 := Lib.hid h; clear h)
      | (go_at_call 62; (with_reducible refine (num2 w0 _ b _ _ _ _ _ H1.out HT.out HZ1.out rfl).mono ?_); rintro e w2 h; rw [HQ1.out] at h; obtain ⟨rfl, h⟩ := h; have H2 := Lib.hid h; clear h))
    go_end0
    rw [HS.out]
    exact ⟨rfl, LyS.conv (by first | (simp only [List.append_assoc]; rfl) | simp only [List.append_assoc]) H2.out.pop⟩
set_option maxHeartbeats 8000000 in
theorem act_k10 (w0 : World) (Q : List (Nat × Obj)) (b : Nat) (L : Ws) (a : Dact) (A : Option Addr) (k : Nat) (A2 : Option Addr) (k2 : Nat) (A3 : Option Addr) (k3 : Nat) (w : World) (h : LyS w0 Q b L w) (ht : TabW w0) (sm : SmC a.cmd) (so : SmO a.row) (hn : L.length ≤ 10) (hcc : SlAt w0 3 ColR A k a.cmd.cols) (hc : SlAt w0 1 StrR A2 k2 a.cmd.rule.cols) (hv : SlAt w0 3 ValR A3 k3 a.row.row) (hlc : a.cmd.cols.length ≤ 4100) (hl : a.cmd.rule.cols.length ≤ 4100) (hlr : a.row.row.length ≤ 4100) (hk : a.kind = 10) :
    Calls Tryz.prog 36 #[.pointer (some ⟨b, 0, none⟩), .agg #[.int .i64 a.kind, .int .i64 a.node, .int .i64 a.n, .int .i64 a.client, .int .i64 a.number, .int .i64 a.cmd.kind, .string a.cmd.actor, .string a.cmd.schema, .string a.cmd.table, .string a.cmd.name, .string a.cmd.role, .slice A a.cmd.cols.length k, .string a.cmd.rule.name, .int .i64 a.cmd.rule.kind, .slice A2 a.cmd.rule.cols.length k2, .int .i64 a.cmd.rule.low, .int .i64 a.cmd.rule.high, .string a.cmd.rule.schema, .string a.cmd.rule.table, .string a.cmd.rule.key, .int .i64 a.cmd.right, .bool a.cmd.opt, .int .i64 a.ck, .int .i64 a.cn, .int .i64 a.row.kind, .string a.row.role, .string a.row.schema, .string a.row.table, .slice A3 a.row.row.length k3, .string a.row.col, .int .i64 a.row.v.kind, .int .i64 a.row.v.int, .string a.row.v.text]] w (LyQ w0 Q b L (actM a)) := by
  have b1 : (a.kind == 1) = false := by simp [hk]
  have b2 : (a.kind == 2) = false := by simp [hk]
  have b12 : (a.kind == 12) = false := by simp [hk]
  have b3 : (a.kind == 3) = false := by simp [hk]
  have b4 : (a.kind == 4) = false := by simp [hk]
  have b5 : (a.kind == 5) = false := by simp [hk]
  have b6 : (a.kind == 6) = false := by simp [hk]
  have b7 : (a.kind == 7) = false := by simp [hk]
  have b8 : (a.kind == 8) = false := by simp [hk]
  have b9 : (a.kind == 9) = false := by simp [hk]
  have b10 : (a.kind == 10) = true := by simp [hk]
  have b11 : (a.kind == 11) = false := by simp [hk]
  have HT := Lib.hid ht
  have HSM := Lib.hid sm
  have HSO := Lib.hid so
  have HC := Lib.hid hc
  have HCC := Lib.hid hcc
  have HV := Lib.hid hv
  clear ht sm so hc hcc hv
  have HK := Lib.hid hk
  clear hk
  rcases nus_cases [a.n] with q1 | q1
  · have H0 := Lib.hid (h.push (.cells #[.int .i64 a.kind, .int .i64 a.node, .int .i64 a.n, .int .i64 a.client, .int .i64 a.number, .int .i64 a.cmd.kind, .string a.cmd.actor, .string a.cmd.schema, .string a.cmd.table, .string a.cmd.name, .string a.cmd.role, .slice A a.cmd.cols.length k, .string a.cmd.rule.name, .int .i64 a.cmd.rule.kind, .slice A2 a.cmd.rule.cols.length k2, .int .i64 a.cmd.rule.low, .int .i64 a.cmd.rule.high, .string a.cmd.rule.schema, .string a.cmd.rule.table, .string a.cmd.rule.key, .int .i64 a.cmd.right, .bool a.cmd.opt, .int .i64 a.ck, .int .i64 a.cn, .int .i64 a.row.kind, .string a.row.role, .string a.row.schema, .string a.row.table, .slice A3 a.row.row.length k3, .string a.row.col, .int .i64 a.row.v.kind, .int .i64 a.row.v.int, .string a.row.v.text] 43))
    have HM0 := Lib.hid (show ∀ L' V, LyS w0 ((w.heap.size, .cells #[.int .i64 a.kind, .int .i64 a.node, .int .i64 a.n, .int .i64 a.client, .int .i64 a.number, .int .i64 a.cmd.kind, .string a.cmd.actor, .string a.cmd.schema, .string a.cmd.table, .string a.cmd.name, .string a.cmd.role, .slice A a.cmd.cols.length k, .string a.cmd.rule.name, .int .i64 a.cmd.rule.kind, .slice A2 a.cmd.rule.cols.length k2, .int .i64 a.cmd.rule.low, .int .i64 a.cmd.rule.high, .string a.cmd.rule.schema, .string a.cmd.rule.table, .string a.cmd.rule.key, .int .i64 a.cmd.right, .bool a.cmd.opt, .int .i64 a.ck, .int .i64 a.cn, .int .i64 a.row.kind, .string a.row.role, .string a.row.schema, .string a.row.table, .slice A3 a.row.row.length k3, .string a.row.col, .int .i64 a.row.v.kind, .int .i64 a.row.v.int, .string a.row.v.text] 43) :: Q) b L' V → RowAt V (w.heap.size) [.int .i64 a.kind, .int .i64 a.node, .int .i64 a.n, .int .i64 a.client, .int .i64 a.number, .int .i64 a.cmd.kind, .string a.cmd.actor, .string a.cmd.schema, .string a.cmd.table, .string a.cmd.name, .string a.cmd.role, .slice A a.cmd.cols.length k, .string a.cmd.rule.name, .int .i64 a.cmd.rule.kind, .slice A2 a.cmd.rule.cols.length k2, .int .i64 a.cmd.rule.low, .int .i64 a.cmd.rule.high, .string a.cmd.rule.schema, .string a.cmd.rule.table, .string a.cmd.rule.key, .int .i64 a.cmd.right, .bool a.cmd.opt, .int .i64 a.ck, .int .i64 a.cn, .int .i64 a.row.kind, .string a.row.role, .string a.row.schema, .string a.row.table, .slice A3 a.row.row.length k3, .string a.row.col, .int .i64 a.row.v.kind, .int .i64 a.row.v.int, .string a.row.v.text] from fun L' V h => h.same List.mem_cons_self)
    have HE0 := Lib.hid (show w.heap.size + 1 = (w.alloc (.cells #[.int .i64 a.kind, .int .i64 a.node, .int .i64 a.n, .int .i64 a.client, .int .i64 a.number, .int .i64 a.cmd.kind, .string a.cmd.actor, .string a.cmd.schema, .string a.cmd.table, .string a.cmd.name, .string a.cmd.role, .slice A a.cmd.cols.length k, .string a.cmd.rule.name, .int .i64 a.cmd.rule.kind, .slice A2 a.cmd.rule.cols.length k2, .int .i64 a.cmd.rule.low, .int .i64 a.cmd.rule.high, .string a.cmd.rule.schema, .string a.cmd.rule.table, .string a.cmd.rule.key, .int .i64 a.cmd.right, .bool a.cmd.opt, .int .i64 a.ck, .int .i64 a.cn, .int .i64 a.row.kind, .string a.row.role, .string a.row.schema, .string a.row.table, .slice A3 a.row.row.length k3, .string a.row.col, .int .i64 a.row.v.kind, .int .i64 a.row.v.int, .string a.row.v.text] 43)).heap.size from by simp)
    have HZ0 := Lib.hid (show (L).length ≤ 40000 from by (try simp only [List.length_append, List.length_cons, List.length_nil, List.length_map]); omega)
    have HZ1 := Lib.hid (show (L ++ [(⟨#[114, 111, 119]⟩ : ByteArray)]).length ≤ 50000 from by (try simp only [List.length_append, List.length_cons, List.length_nil, List.length_map]); omega)
    have HQ1 := Lib.hid q1
    have HS := Lib.hid (show actM a = none from by simp [actM, actL, andL, HK.out, b_row, HQ1.out])
    clear h q1
    go_enter Tryz.func36, Tryz.ntmps36
    go_wp2_with (first
      | (go_at_call 61; (with_reducible refine (lay2 w0 _ b _ _ _ _ H0.out HZ0.out HE0.out).mono ?_); rintro e w1 ⟨rfl, h⟩; have r0b0 := HM0.out _ _ h; have yb0b0 := r0b0.1; have y0b0c2 := r0b0.cell (j := 2) rfl; clear r0b0; have H1 := Lib.hid h; clear h)
      | (go_at_call 62; (with_reducible refine (num1 w0 _ b _ _ _ _ H1.out HT.out HZ1.out rfl).mono ?_); rintro e w2 h; rw [HQ1.out] at h; obtain ⟨he, h⟩ := h; have H2 := Lib.hid h; clear h; unfold NoL at he; subst he))
    rw [HS.out]
    exact ⟨rfl, rfl, H2.out⟩
  · obtain ⟨o2, q2⟩ : ∃ o, rowL a.row = o := ⟨_, rfl⟩
    cases o2 with
    | none =>
      have H0 := Lib.hid (h.push (.cells #[.int .i64 a.kind, .int .i64 a.node, .int .i64 a.n, .int .i64 a.client, .int .i64 a.number, .int .i64 a.cmd.kind, .string a.cmd.actor, .string a.cmd.schema, .string a.cmd.table, .string a.cmd.name, .string a.cmd.role, .slice A a.cmd.cols.length k, .string a.cmd.rule.name, .int .i64 a.cmd.rule.kind, .slice A2 a.cmd.rule.cols.length k2, .int .i64 a.cmd.rule.low, .int .i64 a.cmd.rule.high, .string a.cmd.rule.schema, .string a.cmd.rule.table, .string a.cmd.rule.key, .int .i64 a.cmd.right, .bool a.cmd.opt, .int .i64 a.ck, .int .i64 a.cn, .int .i64 a.row.kind, .string a.row.role, .string a.row.schema, .string a.row.table, .slice A3 a.row.row.length k3, .string a.row.col, .int .i64 a.row.v.kind, .int .i64 a.row.v.int, .string a.row.v.text] 43))
      have HM0 := Lib.hid (show ∀ L' V, LyS w0 ((w.heap.size, .cells #[.int .i64 a.kind, .int .i64 a.node, .int .i64 a.n, .int .i64 a.client, .int .i64 a.number, .int .i64 a.cmd.kind, .string a.cmd.actor, .string a.cmd.schema, .string a.cmd.table, .string a.cmd.name, .string a.cmd.role, .slice A a.cmd.cols.length k, .string a.cmd.rule.name, .int .i64 a.cmd.rule.kind, .slice A2 a.cmd.rule.cols.length k2, .int .i64 a.cmd.rule.low, .int .i64 a.cmd.rule.high, .string a.cmd.rule.schema, .string a.cmd.rule.table, .string a.cmd.rule.key, .int .i64 a.cmd.right, .bool a.cmd.opt, .int .i64 a.ck, .int .i64 a.cn, .int .i64 a.row.kind, .string a.row.role, .string a.row.schema, .string a.row.table, .slice A3 a.row.row.length k3, .string a.row.col, .int .i64 a.row.v.kind, .int .i64 a.row.v.int, .string a.row.v.text] 43) :: Q) b L' V → RowAt V (w.heap.size) [.int .i64 a.kind, .int .i64 a.node, .int .i64 a.n, .int .i64 a.client, .int .i64 a.number, .int .i64 a.cmd.kind, .string a.cmd.actor, .string a.cmd.schema, .string a.cmd.table, .string a.cmd.name, .string a.cmd.role, .slice A a.cmd.cols.length k, .string a.cmd.rule.name, .int .i64 a.cmd.rule.kind, .slice A2 a.cmd.rule.cols.length k2, .int .i64 a.cmd.rule.low, .int .i64 a.cmd.rule.high, .string a.cmd.rule.schema, .string a.cmd.rule.table, .string a.cmd.rule.key, .int .i64 a.cmd.right, .bool a.cmd.opt, .int .i64 a.ck, .int .i64 a.cn, .int .i64 a.row.kind, .string a.row.role, .string a.row.schema, .string a.row.table, .slice A3 a.row.row.length k3, .string a.row.col, .int .i64 a.row.v.kind, .int .i64 a.row.v.int, .string a.row.v.text] from fun L' V h => h.same List.mem_cons_self)
      have HE0 := Lib.hid (show w.heap.size + 1 = (w.alloc (.cells #[.int .i64 a.kind, .int .i64 a.node, .int .i64 a.n, .int .i64 a.client, .int .i64 a.number, .int .i64 a.cmd.kind, .string a.cmd.actor, .string a.cmd.schema, .string a.cmd.table, .string a.cmd.name, .string a.cmd.role, .slice A a.cmd.cols.length k, .string a.cmd.rule.name, .int .i64 a.cmd.rule.kind, .slice A2 a.cmd.rule.cols.length k2, .int .i64 a.cmd.rule.low, .int .i64 a.cmd.rule.high, .string a.cmd.rule.schema, .string a.cmd.rule.table, .string a.cmd.rule.key, .int .i64 a.cmd.right, .bool a.cmd.opt, .int .i64 a.ck, .int .i64 a.cn, .int .i64 a.row.kind, .string a.row.role, .string a.row.schema, .string a.row.table, .slice A3 a.row.row.length k3, .string a.row.col, .int .i64 a.row.v.kind, .int .i64 a.row.v.int, .string a.row.v.text] 43)).heap.size from by simp)
      have HZ0 := Lib.hid (show (L).length ≤ 40000 from by (try simp only [List.length_append, List.length_cons, List.length_nil, List.length_map]); omega)
      have HZ1 := Lib.hid (show (L ++ [(⟨#[114, 111, 119]⟩ : ByteArray)]).length ≤ 50000 from by (try simp only [List.length_append, List.length_cons, List.length_nil, List.length_map]); omega)
      have HQ1 := Lib.hid q1
      have HZ2 := Lib.hid (show (L ++ [(⟨#[114, 111, 119]⟩ : ByteArray)] ++ List.map itoaB [a.n]).length ≤ 50 from by (try simp only [List.length_append, List.length_cons, List.length_nil, List.length_map]); omega)
      have HQ2 := Lib.hid q2
      have HS := Lib.hid (show actM a = none from by simp [actM, actL, andL, HK.out, b_row, HQ1.out, HQ2.out])
      clear h q1 q2
      go_enter Tryz.func36, Tryz.ntmps36
      go_wp2_with (first
        | (go_at_call 61; (with_reducible refine (lay2 w0 _ b _ _ _ _ H0.out HZ0.out HE0.out).mono ?_); rintro e w1 ⟨rfl, h⟩; have r0b0 := HM0.out _ _ h; have yb0b0 := r0b0.1; have y0b0c2 := r0b0.cell (j := 2) rfl; clear r0b0; have H1 := Lib.hid h; clear h)
        | (go_at_call 62; (with_reducible refine (num1 w0 _ b _ _ _ _ H1.out HT.out HZ1.out rfl).mono ?_); rintro e w2 h; rw [HQ1.out] at h; obtain ⟨rfl, h⟩ := h; have r1b0 := HM0.out _ _ h; have yb1b0 := r1b0.1; have y1b0c24 := r1b0.cell (j := 24) rfl; have y1b0c25 := r1b0.cell (j := 25) rfl; have y1b0c26 := r1b0.cell (j := 26) rfl; have y1b0c27 := r1b0.cell (j := 27) rfl; have y1b0c28 := r1b0.cell (j := 28) rfl; have y1b0c29 := r1b0.cell (j := 29) rfl; have y1b0c30 := r1b0.cell (j := 30) rfl; have y1b0c31 := r1b0.cell (j := 31) rfl; have y1b0c32 := r1b0.cell (j := 32) rfl; clear r1b0; have H2 := Lib.hid h; clear h)
        | (go_at_call 64; (with_reducible refine (row_in w0 _ b _ a.row A3 k3 _ H2.out HT.out HSO.out (Nat.le_trans HZ2.out (by decide)) HV.out hlr).mono ?_); rintro e w3 h; rw [HQ2.out] at h; obtain ⟨he, h⟩ := h; have H3 := Lib.hid h; clear h; unfold NoL at he; subst he))
      rw [HS.out]
      exact ⟨rfl, rfl, H3.out⟩
    | some W2 =>
      have H0 := Lib.hid (h.push (.cells #[.int .i64 a.kind, .int .i64 a.node, .int .i64 a.n, .int .i64 a.client, .int .i64 a.number, .int .i64 a.cmd.kind, .string a.cmd.actor, .string a.cmd.schema, .string a.cmd.table, .string a.cmd.name, .string a.cmd.role, .slice A a.cmd.cols.length k, .string a.cmd.rule.name, .int .i64 a.cmd.rule.kind, .slice A2 a.cmd.rule.cols.length k2, .int .i64 a.cmd.rule.low, .int .i64 a.cmd.rule.high, .string a.cmd.rule.schema, .string a.cmd.rule.table, .string a.cmd.rule.key, .int .i64 a.cmd.right, .bool a.cmd.opt, .int .i64 a.ck, .int .i64 a.cn, .int .i64 a.row.kind, .string a.row.role, .string a.row.schema, .string a.row.table, .slice A3 a.row.row.length k3, .string a.row.col, .int .i64 a.row.v.kind, .int .i64 a.row.v.int, .string a.row.v.text] 43))
      have HM0 := Lib.hid (show ∀ L' V, LyS w0 ((w.heap.size, .cells #[.int .i64 a.kind, .int .i64 a.node, .int .i64 a.n, .int .i64 a.client, .int .i64 a.number, .int .i64 a.cmd.kind, .string a.cmd.actor, .string a.cmd.schema, .string a.cmd.table, .string a.cmd.name, .string a.cmd.role, .slice A a.cmd.cols.length k, .string a.cmd.rule.name, .int .i64 a.cmd.rule.kind, .slice A2 a.cmd.rule.cols.length k2, .int .i64 a.cmd.rule.low, .int .i64 a.cmd.rule.high, .string a.cmd.rule.schema, .string a.cmd.rule.table, .string a.cmd.rule.key, .int .i64 a.cmd.right, .bool a.cmd.opt, .int .i64 a.ck, .int .i64 a.cn, .int .i64 a.row.kind, .string a.row.role, .string a.row.schema, .string a.row.table, .slice A3 a.row.row.length k3, .string a.row.col, .int .i64 a.row.v.kind, .int .i64 a.row.v.int, .string a.row.v.text] 43) :: Q) b L' V → RowAt V (w.heap.size) [.int .i64 a.kind, .int .i64 a.node, .int .i64 a.n, .int .i64 a.client, .int .i64 a.number, .int .i64 a.cmd.kind, .string a.cmd.actor, .string a.cmd.schema, .string a.cmd.table, .string a.cmd.name, .string a.cmd.role, .slice A a.cmd.cols.length k, .string a.cmd.rule.name, .int .i64 a.cmd.rule.kind, .slice A2 a.cmd.rule.cols.length k2, .int .i64 a.cmd.rule.low, .int .i64 a.cmd.rule.high, .string a.cmd.rule.schema, .string a.cmd.rule.table, .string a.cmd.rule.key, .int .i64 a.cmd.right, .bool a.cmd.opt, .int .i64 a.ck, .int .i64 a.cn, .int .i64 a.row.kind, .string a.row.role, .string a.row.schema, .string a.row.table, .slice A3 a.row.row.length k3, .string a.row.col, .int .i64 a.row.v.kind, .int .i64 a.row.v.int, .string a.row.v.text] from fun L' V h => h.same List.mem_cons_self)
      have HE0 := Lib.hid (show w.heap.size + 1 = (w.alloc (.cells #[.int .i64 a.kind, .int .i64 a.node, .int .i64 a.n, .int .i64 a.client, .int .i64 a.number, .int .i64 a.cmd.kind, .string a.cmd.actor, .string a.cmd.schema, .string a.cmd.table, .string a.cmd.name, .string a.cmd.role, .slice A a.cmd.cols.length k, .string a.cmd.rule.name, .int .i64 a.cmd.rule.kind, .slice A2 a.cmd.rule.cols.length k2, .int .i64 a.cmd.rule.low, .int .i64 a.cmd.rule.high, .string a.cmd.rule.schema, .string a.cmd.rule.table, .string a.cmd.rule.key, .int .i64 a.cmd.right, .bool a.cmd.opt, .int .i64 a.ck, .int .i64 a.cn, .int .i64 a.row.kind, .string a.row.role, .string a.row.schema, .string a.row.table, .slice A3 a.row.row.length k3, .string a.row.col, .int .i64 a.row.v.kind, .int .i64 a.row.v.int, .string a.row.v.text] 43)).heap.size from by simp)
      have HZ0 := Lib.hid (show (L).length ≤ 40000 from by (try simp only [List.length_append, List.length_cons, List.length_nil, List.length_map]); omega)
      have HZ1 := Lib.hid (show (L ++ [(⟨#[114, 111, 119]⟩ : ByteArray)]).length ≤ 50000 from by (try simp only [List.length_append, List.length_cons, List.length_nil, List.length_map]); omega)
      have HQ1 := Lib.hid q1
      have HZ2 := Lib.hid (show (L ++ [(⟨#[114, 111, 119]⟩ : ByteArray)] ++ List.map itoaB [a.n]).length ≤ 50 from by (try simp only [List.length_append, List.length_cons, List.length_nil, List.length_map]); omega)
      have HQ2 := Lib.hid q2
      have HS := Lib.hid (show actM a = some ([(⟨#[114, 111, 119]⟩ : ByteArray)] ++ (List.map itoaB [a.n] ++ (W2))) from by simp [actM, actL, andL, HK.out, b_row, HQ1.out, HQ2.out])
      clear h q1 q2
      go_enter Tryz.func36, Tryz.ntmps36
      go_wp2_with (first
        | (go_at_call 61; (with_reducible refine (lay2 w0 _ b _ _ _ _ H0.out HZ0.out HE0.out).mono ?_); rintro e w1 ⟨rfl, h⟩; have r0b0 := HM0.out _ _ h; have yb0b0 := r0b0.1; have y0b0c2 := r0b0.cell (j := 2) rfl; clear r0b0; have H1 := Lib.hid h; clear h)
        | (go_at_call 62; (with_reducible refine (num1 w0 _ b _ _ _ _ H1.out HT.out HZ1.out rfl).mono ?_); rintro e w2 h; rw [HQ1.out] at h; obtain ⟨rfl, h⟩ := h; have r1b0 := HM0.out _ _ h; have yb1b0 := r1b0.1; have y1b0c24 := r1b0.cell (j := 24) rfl; have y1b0c25 := r1b0.cell (j := 25) rfl; have y1b0c26 := r1b0.cell (j := 26) rfl; have y1b0c27 := r1b0.cell (j := 27) rfl; have y1b0c28 := r1b0.cell (j := 28) rfl; have y1b0c29 := r1b0.cell (j := 29) rfl; have y1b0c30 := r1b0.cell (j := 30) rfl; have y1b0c31 := r1b0.cell (j := 31) rfl; have y1b0c32 := r1b0.cell (j := 32) rfl; clear r1b0; have H2 := Lib.hid h; clear h)
        | (go_at_call 64; (with_reducible refine (row_in w0 _ b _ a.row A3 k3 _ H2.out HT.out HSO.out (Nat.le_trans HZ2.out (by decide)) HV.out hlr).mono ?_); rintro e w3 h; rw [HQ2.out] at h; obtain ⟨rfl, h⟩ := h; have H3 := Lib.hid h; clear h))
      go_end0
      rw [HS.out]
      exact ⟨rfl, LyS.conv (by first | (simp only [List.append_assoc]; rfl) | simp only [List.append_assoc]) H3.out.pop⟩
set_option maxHeartbeats 8000000 in
theorem act_k11 (w0 : World) (Q : List (Nat × Obj)) (b : Nat) (L : Ws) (a : Dact) (A : Option Addr) (k : Nat) (A2 : Option Addr) (k2 : Nat) (A3 : Option Addr) (k3 : Nat) (w : World) (h : LyS w0 Q b L w) (ht : TabW w0) (sm : SmC a.cmd) (so : SmO a.row) (hn : L.length ≤ 10) (hcc : SlAt w0 3 ColR A k a.cmd.cols) (hc : SlAt w0 1 StrR A2 k2 a.cmd.rule.cols) (hv : SlAt w0 3 ValR A3 k3 a.row.row) (hlc : a.cmd.cols.length ≤ 4100) (hl : a.cmd.rule.cols.length ≤ 4100) (hlr : a.row.row.length ≤ 4100) (hk : a.kind = 11) :
    Calls Tryz.prog 36 #[.pointer (some ⟨b, 0, none⟩), .agg #[.int .i64 a.kind, .int .i64 a.node, .int .i64 a.n, .int .i64 a.client, .int .i64 a.number, .int .i64 a.cmd.kind, .string a.cmd.actor, .string a.cmd.schema, .string a.cmd.table, .string a.cmd.name, .string a.cmd.role, .slice A a.cmd.cols.length k, .string a.cmd.rule.name, .int .i64 a.cmd.rule.kind, .slice A2 a.cmd.rule.cols.length k2, .int .i64 a.cmd.rule.low, .int .i64 a.cmd.rule.high, .string a.cmd.rule.schema, .string a.cmd.rule.table, .string a.cmd.rule.key, .int .i64 a.cmd.right, .bool a.cmd.opt, .int .i64 a.ck, .int .i64 a.cn, .int .i64 a.row.kind, .string a.row.role, .string a.row.schema, .string a.row.table, .slice A3 a.row.row.length k3, .string a.row.col, .int .i64 a.row.v.kind, .int .i64 a.row.v.int, .string a.row.v.text]] w (LyQ w0 Q b L (actM a)) := by
  have b1 : (a.kind == 1) = false := by simp [hk]
  have b2 : (a.kind == 2) = false := by simp [hk]
  have b12 : (a.kind == 12) = false := by simp [hk]
  have b3 : (a.kind == 3) = false := by simp [hk]
  have b4 : (a.kind == 4) = false := by simp [hk]
  have b5 : (a.kind == 5) = false := by simp [hk]
  have b6 : (a.kind == 6) = false := by simp [hk]
  have b7 : (a.kind == 7) = false := by simp [hk]
  have b8 : (a.kind == 8) = false := by simp [hk]
  have b9 : (a.kind == 9) = false := by simp [hk]
  have b10 : (a.kind == 10) = false := by simp [hk]
  have b11 : (a.kind == 11) = true := by simp [hk]
  have HT := Lib.hid ht
  have HSM := Lib.hid sm
  have HSO := Lib.hid so
  have HC := Lib.hid hc
  have HCC := Lib.hid hcc
  have HV := Lib.hid hv
  clear ht sm so hc hcc hv
  have HK := Lib.hid hk
  clear hk
  rcases nus_cases [a.node, a.n] with q1 | q1
  · have H0 := Lib.hid (h.push (.cells #[.int .i64 a.kind, .int .i64 a.node, .int .i64 a.n, .int .i64 a.client, .int .i64 a.number, .int .i64 a.cmd.kind, .string a.cmd.actor, .string a.cmd.schema, .string a.cmd.table, .string a.cmd.name, .string a.cmd.role, .slice A a.cmd.cols.length k, .string a.cmd.rule.name, .int .i64 a.cmd.rule.kind, .slice A2 a.cmd.rule.cols.length k2, .int .i64 a.cmd.rule.low, .int .i64 a.cmd.rule.high, .string a.cmd.rule.schema, .string a.cmd.rule.table, .string a.cmd.rule.key, .int .i64 a.cmd.right, .bool a.cmd.opt, .int .i64 a.ck, .int .i64 a.cn, .int .i64 a.row.kind, .string a.row.role, .string a.row.schema, .string a.row.table, .slice A3 a.row.row.length k3, .string a.row.col, .int .i64 a.row.v.kind, .int .i64 a.row.v.int, .string a.row.v.text] 43))
    have HM0 := Lib.hid (show ∀ L' V, LyS w0 ((w.heap.size, .cells #[.int .i64 a.kind, .int .i64 a.node, .int .i64 a.n, .int .i64 a.client, .int .i64 a.number, .int .i64 a.cmd.kind, .string a.cmd.actor, .string a.cmd.schema, .string a.cmd.table, .string a.cmd.name, .string a.cmd.role, .slice A a.cmd.cols.length k, .string a.cmd.rule.name, .int .i64 a.cmd.rule.kind, .slice A2 a.cmd.rule.cols.length k2, .int .i64 a.cmd.rule.low, .int .i64 a.cmd.rule.high, .string a.cmd.rule.schema, .string a.cmd.rule.table, .string a.cmd.rule.key, .int .i64 a.cmd.right, .bool a.cmd.opt, .int .i64 a.ck, .int .i64 a.cn, .int .i64 a.row.kind, .string a.row.role, .string a.row.schema, .string a.row.table, .slice A3 a.row.row.length k3, .string a.row.col, .int .i64 a.row.v.kind, .int .i64 a.row.v.int, .string a.row.v.text] 43) :: Q) b L' V → RowAt V (w.heap.size) [.int .i64 a.kind, .int .i64 a.node, .int .i64 a.n, .int .i64 a.client, .int .i64 a.number, .int .i64 a.cmd.kind, .string a.cmd.actor, .string a.cmd.schema, .string a.cmd.table, .string a.cmd.name, .string a.cmd.role, .slice A a.cmd.cols.length k, .string a.cmd.rule.name, .int .i64 a.cmd.rule.kind, .slice A2 a.cmd.rule.cols.length k2, .int .i64 a.cmd.rule.low, .int .i64 a.cmd.rule.high, .string a.cmd.rule.schema, .string a.cmd.rule.table, .string a.cmd.rule.key, .int .i64 a.cmd.right, .bool a.cmd.opt, .int .i64 a.ck, .int .i64 a.cn, .int .i64 a.row.kind, .string a.row.role, .string a.row.schema, .string a.row.table, .slice A3 a.row.row.length k3, .string a.row.col, .int .i64 a.row.v.kind, .int .i64 a.row.v.int, .string a.row.v.text] from fun L' V h => h.same List.mem_cons_self)
    have HE0 := Lib.hid (show w.heap.size + 1 = (w.alloc (.cells #[.int .i64 a.kind, .int .i64 a.node, .int .i64 a.n, .int .i64 a.client, .int .i64 a.number, .int .i64 a.cmd.kind, .string a.cmd.actor, .string a.cmd.schema, .string a.cmd.table, .string a.cmd.name, .string a.cmd.role, .slice A a.cmd.cols.length k, .string a.cmd.rule.name, .int .i64 a.cmd.rule.kind, .slice A2 a.cmd.rule.cols.length k2, .int .i64 a.cmd.rule.low, .int .i64 a.cmd.rule.high, .string a.cmd.rule.schema, .string a.cmd.rule.table, .string a.cmd.rule.key, .int .i64 a.cmd.right, .bool a.cmd.opt, .int .i64 a.ck, .int .i64 a.cn, .int .i64 a.row.kind, .string a.row.role, .string a.row.schema, .string a.row.table, .slice A3 a.row.row.length k3, .string a.row.col, .int .i64 a.row.v.kind, .int .i64 a.row.v.int, .string a.row.v.text] 43)).heap.size from by simp)
    have HZ0 := Lib.hid (show (L).length ≤ 40000 from by (try simp only [List.length_append, List.length_cons, List.length_nil, List.length_map]); omega)
    have HZ1 := Lib.hid (show (L ++ [(⟨#[99, 114, 97, 115, 104]⟩ : ByteArray)]).length ≤ 50000 from by (try simp only [List.length_append, List.length_cons, List.length_nil, List.length_map]); omega)
    have HQ1 := Lib.hid q1
    have HS := Lib.hid (show actM a = none from by simp [actM, actL, andL, HK.out, b_crash, HQ1.out])
    clear h q1
    go_enter Tryz.func36, Tryz.ntmps36
    go_wp2_with (first
      | (go_at_call 61; (with_reducible refine (lay2 w0 _ b _ _ _ _ H0.out HZ0.out HE0.out).mono ?_); rintro e w1 ⟨rfl, h⟩; have r0b0 := HM0.out _ _ h; have yb0b0 := r0b0.1; have y0b0c1 := r0b0.cell (j := 1) rfl; have y0b0c2 := r0b0.cell (j := 2) rfl; clear r0b0; have H1 := Lib.hid h; clear h)
      | (go_at_call 62; (with_reducible refine (num2 w0 _ b _ _ _ _ _ H1.out HT.out HZ1.out rfl).mono ?_); rintro e w2 h; rw [HQ1.out] at h; obtain ⟨he, h⟩ := h; have H2 := Lib.hid h; clear h; unfold NoL at he; subst he))
    rw [HS.out]
    exact ⟨rfl, rfl, H2.out⟩
  · have H0 := Lib.hid (h.push (.cells #[.int .i64 a.kind, .int .i64 a.node, .int .i64 a.n, .int .i64 a.client, .int .i64 a.number, .int .i64 a.cmd.kind, .string a.cmd.actor, .string a.cmd.schema, .string a.cmd.table, .string a.cmd.name, .string a.cmd.role, .slice A a.cmd.cols.length k, .string a.cmd.rule.name, .int .i64 a.cmd.rule.kind, .slice A2 a.cmd.rule.cols.length k2, .int .i64 a.cmd.rule.low, .int .i64 a.cmd.rule.high, .string a.cmd.rule.schema, .string a.cmd.rule.table, .string a.cmd.rule.key, .int .i64 a.cmd.right, .bool a.cmd.opt, .int .i64 a.ck, .int .i64 a.cn, .int .i64 a.row.kind, .string a.row.role, .string a.row.schema, .string a.row.table, .slice A3 a.row.row.length k3, .string a.row.col, .int .i64 a.row.v.kind, .int .i64 a.row.v.int, .string a.row.v.text] 43))
    have HM0 := Lib.hid (show ∀ L' V, LyS w0 ((w.heap.size, .cells #[.int .i64 a.kind, .int .i64 a.node, .int .i64 a.n, .int .i64 a.client, .int .i64 a.number, .int .i64 a.cmd.kind, .string a.cmd.actor, .string a.cmd.schema, .string a.cmd.table, .string a.cmd.name, .string a.cmd.role, .slice A a.cmd.cols.length k, .string a.cmd.rule.name, .int .i64 a.cmd.rule.kind, .slice A2 a.cmd.rule.cols.length k2, .int .i64 a.cmd.rule.low, .int .i64 a.cmd.rule.high, .string a.cmd.rule.schema, .string a.cmd.rule.table, .string a.cmd.rule.key, .int .i64 a.cmd.right, .bool a.cmd.opt, .int .i64 a.ck, .int .i64 a.cn, .int .i64 a.row.kind, .string a.row.role, .string a.row.schema, .string a.row.table, .slice A3 a.row.row.length k3, .string a.row.col, .int .i64 a.row.v.kind, .int .i64 a.row.v.int, .string a.row.v.text] 43) :: Q) b L' V → RowAt V (w.heap.size) [.int .i64 a.kind, .int .i64 a.node, .int .i64 a.n, .int .i64 a.client, .int .i64 a.number, .int .i64 a.cmd.kind, .string a.cmd.actor, .string a.cmd.schema, .string a.cmd.table, .string a.cmd.name, .string a.cmd.role, .slice A a.cmd.cols.length k, .string a.cmd.rule.name, .int .i64 a.cmd.rule.kind, .slice A2 a.cmd.rule.cols.length k2, .int .i64 a.cmd.rule.low, .int .i64 a.cmd.rule.high, .string a.cmd.rule.schema, .string a.cmd.rule.table, .string a.cmd.rule.key, .int .i64 a.cmd.right, .bool a.cmd.opt, .int .i64 a.ck, .int .i64 a.cn, .int .i64 a.row.kind, .string a.row.role, .string a.row.schema, .string a.row.table, .slice A3 a.row.row.length k3, .string a.row.col, .int .i64 a.row.v.kind, .int .i64 a.row.v.int, .string a.row.v.text] from fun L' V h => h.same List.mem_cons_self)
    have HE0 := Lib.hid (show w.heap.size + 1 = (w.alloc (.cells #[.int .i64 a.kind, .int .i64 a.node, .int .i64 a.n, .int .i64 a.client, .int .i64 a.number, .int .i64 a.cmd.kind, .string a.cmd.actor, .string a.cmd.schema, .string a.cmd.table, .string a.cmd.name, .string a.cmd.role, .slice A a.cmd.cols.length k, .string a.cmd.rule.name, .int .i64 a.cmd.rule.kind, .slice A2 a.cmd.rule.cols.length k2, .int .i64 a.cmd.rule.low, .int .i64 a.cmd.rule.high, .string a.cmd.rule.schema, .string a.cmd.rule.table, .string a.cmd.rule.key, .int .i64 a.cmd.right, .bool a.cmd.opt, .int .i64 a.ck, .int .i64 a.cn, .int .i64 a.row.kind, .string a.row.role, .string a.row.schema, .string a.row.table, .slice A3 a.row.row.length k3, .string a.row.col, .int .i64 a.row.v.kind, .int .i64 a.row.v.int, .string a.row.v.text] 43)).heap.size from by simp)
    have HZ0 := Lib.hid (show (L).length ≤ 40000 from by (try simp only [List.length_append, List.length_cons, List.length_nil, List.length_map]); omega)
    have HZ1 := Lib.hid (show (L ++ [(⟨#[99, 114, 97, 115, 104]⟩ : ByteArray)]).length ≤ 50000 from by (try simp only [List.length_append, List.length_cons, List.length_nil, List.length_map]); omega)
    have HQ1 := Lib.hid q1
    have HS := Lib.hid (show actM a = some ([(⟨#[99, 114, 97, 115, 104]⟩ : ByteArray)] ++ (List.map itoaB [a.node, a.n])) from by simp [actM, actL, andL, HK.out, b_crash, HQ1.out])
    clear h q1
    go_enter Tryz.func36, Tryz.ntmps36
    go_wp2_with (first
      | (go_at_call 61; (with_reducible refine (lay2 w0 _ b _ _ _ _ H0.out HZ0.out HE0.out).mono ?_); rintro e w1 ⟨rfl, h⟩; have r0b0 := HM0.out _ _ h; have yb0b0 := r0b0.1; have y0b0c1 := r0b0.cell (j := 1) rfl; have y0b0c2 := r0b0.cell (j := 2) rfl; clear r0b0; have H1 := Lib.hid h; clear h)
      | (go_at_call 62; (with_reducible refine (num2 w0 _ b _ _ _ _ _ H1.out HT.out HZ1.out rfl).mono ?_); rintro e w2 h; rw [HQ1.out] at h; obtain ⟨rfl, h⟩ := h; have H2 := Lib.hid h; clear h))
    go_end0
    rw [HS.out]
    exact ⟨rfl, LyS.conv (by first | (simp only [List.append_assoc]; rfl) | simp only [List.append_assoc]) H2.out.pop⟩
set_option maxHeartbeats 8000000 in
theorem act_k81 (w0 : World) (Q : List (Nat × Obj)) (b : Nat) (L : Ws) (a : Dact) (A : Option Addr) (k : Nat) (A2 : Option Addr) (k2 : Nat) (A3 : Option Addr) (k3 : Nat) (w : World) (h : LyS w0 Q b L w) (ht : TabW w0) (sm : SmC a.cmd) (so : SmO a.row) (hn : L.length ≤ 10) (hcc : SlAt w0 3 ColR A k a.cmd.cols) (hc : SlAt w0 1 StrR A2 k2 a.cmd.rule.cols) (hv : SlAt w0 3 ValR A3 k3 a.row.row) (hlc : a.cmd.cols.length ≤ 4100) (hl : a.cmd.rule.cols.length ≤ 4100) (hlr : a.row.row.length ≤ 4100) (hk : a.kind = 8) (hc1 : a.ck ≤ 1) (hc2 : ¬ a.ck = -9223372036854775808) (hr1 : -9223372036854775808 ≤ a.ck) (hr2 : a.ck ≤ 9223372036854775807) :
    Calls Tryz.prog 36 #[.pointer (some ⟨b, 0, none⟩), .agg #[.int .i64 a.kind, .int .i64 a.node, .int .i64 a.n, .int .i64 a.client, .int .i64 a.number, .int .i64 a.cmd.kind, .string a.cmd.actor, .string a.cmd.schema, .string a.cmd.table, .string a.cmd.name, .string a.cmd.role, .slice A a.cmd.cols.length k, .string a.cmd.rule.name, .int .i64 a.cmd.rule.kind, .slice A2 a.cmd.rule.cols.length k2, .int .i64 a.cmd.rule.low, .int .i64 a.cmd.rule.high, .string a.cmd.rule.schema, .string a.cmd.rule.table, .string a.cmd.rule.key, .int .i64 a.cmd.right, .bool a.cmd.opt, .int .i64 a.ck, .int .i64 a.cn, .int .i64 a.row.kind, .string a.row.role, .string a.row.schema, .string a.row.table, .slice A3 a.row.row.length k3, .string a.row.col, .int .i64 a.row.v.kind, .int .i64 a.row.v.int, .string a.row.v.text]] w (LyQ w0 Q b L (actM a)) := by
  have b1 : (a.kind == 1) = false := by simp [hk]
  have b2 : (a.kind == 2) = false := by simp [hk]
  have b12 : (a.kind == 12) = false := by simp [hk]
  have b3 : (a.kind == 3) = false := by simp [hk]
  have b4 : (a.kind == 4) = false := by simp [hk]
  have b5 : (a.kind == 5) = false := by simp [hk]
  have b6 : (a.kind == 6) = false := by simp [hk]
  have b7 : (a.kind == 7) = false := by simp [hk]
  have b8 : (a.kind == 8) = true := by simp [hk]
  have b9 : (a.kind == 9) = false := by simp [hk]
  have b10 : (a.kind == 10) = false := by simp [hk]
  have b11 : (a.kind == 11) = false := by simp [hk]
  have HT := Lib.hid ht
  have HSM := Lib.hid sm
  have HSO := Lib.hid so
  have HC := Lib.hid hc
  have HCC := Lib.hid hcc
  have HV := Lib.hid hv
  clear ht sm so hc hcc hv
  have HK := Lib.hid hk
  have HX := Lib.hid (show chgX a.ck = b_learner from by
    unfold chgX chgW
    rw [if_neg hc2, if_pos hc1])
  have hix : (min (max 0 (a.ck - 1)) 2).toNat = 0 := by omega
  clear hk 
  rcases nus_cases [a.node, a.cn] with q1 | q1
  · have H0 := Lib.hid (h.push (.cells #[.int .i64 a.kind, .int .i64 a.node, .int .i64 a.n, .int .i64 a.client, .int .i64 a.number, .int .i64 a.cmd.kind, .string a.cmd.actor, .string a.cmd.schema, .string a.cmd.table, .string a.cmd.name, .string a.cmd.role, .slice A a.cmd.cols.length k, .string a.cmd.rule.name, .int .i64 a.cmd.rule.kind, .slice A2 a.cmd.rule.cols.length k2, .int .i64 a.cmd.rule.low, .int .i64 a.cmd.rule.high, .string a.cmd.rule.schema, .string a.cmd.rule.table, .string a.cmd.rule.key, .int .i64 a.cmd.right, .bool a.cmd.opt, .int .i64 a.ck, .int .i64 a.cn, .int .i64 a.row.kind, .string a.row.role, .string a.row.schema, .string a.row.table, .slice A3 a.row.row.length k3, .string a.row.col, .int .i64 a.row.v.kind, .int .i64 a.row.v.int, .string a.row.v.text] 43))
    have HM0 := Lib.hid (show ∀ L' V, LyS w0 ((w.heap.size, .cells #[.int .i64 a.kind, .int .i64 a.node, .int .i64 a.n, .int .i64 a.client, .int .i64 a.number, .int .i64 a.cmd.kind, .string a.cmd.actor, .string a.cmd.schema, .string a.cmd.table, .string a.cmd.name, .string a.cmd.role, .slice A a.cmd.cols.length k, .string a.cmd.rule.name, .int .i64 a.cmd.rule.kind, .slice A2 a.cmd.rule.cols.length k2, .int .i64 a.cmd.rule.low, .int .i64 a.cmd.rule.high, .string a.cmd.rule.schema, .string a.cmd.rule.table, .string a.cmd.rule.key, .int .i64 a.cmd.right, .bool a.cmd.opt, .int .i64 a.ck, .int .i64 a.cn, .int .i64 a.row.kind, .string a.row.role, .string a.row.schema, .string a.row.table, .slice A3 a.row.row.length k3, .string a.row.col, .int .i64 a.row.v.kind, .int .i64 a.row.v.int, .string a.row.v.text] 43) :: Q) b L' V → RowAt V (w.heap.size) [.int .i64 a.kind, .int .i64 a.node, .int .i64 a.n, .int .i64 a.client, .int .i64 a.number, .int .i64 a.cmd.kind, .string a.cmd.actor, .string a.cmd.schema, .string a.cmd.table, .string a.cmd.name, .string a.cmd.role, .slice A a.cmd.cols.length k, .string a.cmd.rule.name, .int .i64 a.cmd.rule.kind, .slice A2 a.cmd.rule.cols.length k2, .int .i64 a.cmd.rule.low, .int .i64 a.cmd.rule.high, .string a.cmd.rule.schema, .string a.cmd.rule.table, .string a.cmd.rule.key, .int .i64 a.cmd.right, .bool a.cmd.opt, .int .i64 a.ck, .int .i64 a.cn, .int .i64 a.row.kind, .string a.row.role, .string a.row.schema, .string a.row.table, .slice A3 a.row.row.length k3, .string a.row.col, .int .i64 a.row.v.kind, .int .i64 a.row.v.int, .string a.row.v.text] from fun L' V h => h.same List.mem_cons_self)
    have HE0 := Lib.hid (show w.heap.size + 1 = (w.alloc (.cells #[.int .i64 a.kind, .int .i64 a.node, .int .i64 a.n, .int .i64 a.client, .int .i64 a.number, .int .i64 a.cmd.kind, .string a.cmd.actor, .string a.cmd.schema, .string a.cmd.table, .string a.cmd.name, .string a.cmd.role, .slice A a.cmd.cols.length k, .string a.cmd.rule.name, .int .i64 a.cmd.rule.kind, .slice A2 a.cmd.rule.cols.length k2, .int .i64 a.cmd.rule.low, .int .i64 a.cmd.rule.high, .string a.cmd.rule.schema, .string a.cmd.rule.table, .string a.cmd.rule.key, .int .i64 a.cmd.right, .bool a.cmd.opt, .int .i64 a.ck, .int .i64 a.cn, .int .i64 a.row.kind, .string a.row.role, .string a.row.schema, .string a.row.table, .slice A3 a.row.row.length k3, .string a.row.col, .int .i64 a.row.v.kind, .int .i64 a.row.v.int, .string a.row.v.text] 43)).heap.size from by simp)
    have H0 := Lib.hid (H0.out.trans ((Aft.refl _).alloc (.cells #[.string (⟨#[108, 101, 97, 114, 110, 101, 114]⟩ : ByteArray), .string (⟨#[118, 111, 116, 101, 114]⟩ : ByteArray), .string (⟨#[114, 101, 109, 111, 118, 101]⟩ : ByteArray)] 9)))
    have HE0 := Lib.hid (show w.heap.size + 2 = ((w.alloc (.cells #[.int .i64 a.kind, .int .i64 a.node, .int .i64 a.n, .int .i64 a.client, .int .i64 a.number, .int .i64 a.cmd.kind, .string a.cmd.actor, .string a.cmd.schema, .string a.cmd.table, .string a.cmd.name, .string a.cmd.role, .slice A a.cmd.cols.length k, .string a.cmd.rule.name, .int .i64 a.cmd.rule.kind, .slice A2 a.cmd.rule.cols.length k2, .int .i64 a.cmd.rule.low, .int .i64 a.cmd.rule.high, .string a.cmd.rule.schema, .string a.cmd.rule.table, .string a.cmd.rule.key, .int .i64 a.cmd.right, .bool a.cmd.opt, .int .i64 a.ck, .int .i64 a.cn, .int .i64 a.row.kind, .string a.row.role, .string a.row.schema, .string a.row.table, .slice A3 a.row.row.length k3, .string a.row.col, .int .i64 a.row.v.kind, .int .i64 a.row.v.int, .string a.row.v.text] 43)).alloc (.cells #[.string (⟨#[108, 101, 97, 114, 110, 101, 114]⟩ : ByteArray), .string (⟨#[118, 111, 116, 101, 114]⟩ : ByteArray), .string (⟨#[114, 101, 109, 111, 118, 101]⟩ : ByteArray)] 9)).heap.size from by simp)
    have HZ0 := Lib.hid (show (L).length ≤ 40000 from by (try simp only [List.length_append, List.length_cons, List.length_nil, List.length_map]); omega)
    have HZ1 := Lib.hid (show (L ++ [(⟨#[108, 101, 97, 114, 110, 101, 114]⟩ : ByteArray)]).length ≤ 50000 from by (try simp only [List.length_append, List.length_cons, List.length_nil, List.length_map]); omega)
    have HQ1 := Lib.hid q1
    have HS := Lib.hid (show actM a = none from by simp [actM, andL, HK.out, HX.out, b_learner, HQ1.out])
    clear h q1
    go_enter Tryz.func36, Tryz.ntmps36
    go_wp2_with (first
      | (go_at_call 61; (with_reducible refine (lay2 w0 _ b _ _ _ _ H0.out HZ0.out HE0.out).mono ?_); rintro e w1 ⟨rfl, h⟩; have r0b0 := HM0.out _ _ h; have yb0b0 := r0b0.1; have y0b0c1 := r0b0.cell (j := 1) rfl; have y0b0c23 := r0b0.cell (j := 23) rfl; clear r0b0; have H1 := Lib.hid h; clear h)
      | (go_at_call 62; (with_reducible refine (num2 w0 _ b _ _ _ _ _ H1.out HT.out HZ1.out rfl).mono ?_); rintro e w2 h; rw [HQ1.out] at h; obtain ⟨he, h⟩ := h; have H2 := Lib.hid h; clear h; unfold NoL at he; subst he))
    rw [HS.out]
    exact ⟨rfl, rfl, H2.out⟩
  · have H0 := Lib.hid (h.push (.cells #[.int .i64 a.kind, .int .i64 a.node, .int .i64 a.n, .int .i64 a.client, .int .i64 a.number, .int .i64 a.cmd.kind, .string a.cmd.actor, .string a.cmd.schema, .string a.cmd.table, .string a.cmd.name, .string a.cmd.role, .slice A a.cmd.cols.length k, .string a.cmd.rule.name, .int .i64 a.cmd.rule.kind, .slice A2 a.cmd.rule.cols.length k2, .int .i64 a.cmd.rule.low, .int .i64 a.cmd.rule.high, .string a.cmd.rule.schema, .string a.cmd.rule.table, .string a.cmd.rule.key, .int .i64 a.cmd.right, .bool a.cmd.opt, .int .i64 a.ck, .int .i64 a.cn, .int .i64 a.row.kind, .string a.row.role, .string a.row.schema, .string a.row.table, .slice A3 a.row.row.length k3, .string a.row.col, .int .i64 a.row.v.kind, .int .i64 a.row.v.int, .string a.row.v.text] 43))
    have HM0 := Lib.hid (show ∀ L' V, LyS w0 ((w.heap.size, .cells #[.int .i64 a.kind, .int .i64 a.node, .int .i64 a.n, .int .i64 a.client, .int .i64 a.number, .int .i64 a.cmd.kind, .string a.cmd.actor, .string a.cmd.schema, .string a.cmd.table, .string a.cmd.name, .string a.cmd.role, .slice A a.cmd.cols.length k, .string a.cmd.rule.name, .int .i64 a.cmd.rule.kind, .slice A2 a.cmd.rule.cols.length k2, .int .i64 a.cmd.rule.low, .int .i64 a.cmd.rule.high, .string a.cmd.rule.schema, .string a.cmd.rule.table, .string a.cmd.rule.key, .int .i64 a.cmd.right, .bool a.cmd.opt, .int .i64 a.ck, .int .i64 a.cn, .int .i64 a.row.kind, .string a.row.role, .string a.row.schema, .string a.row.table, .slice A3 a.row.row.length k3, .string a.row.col, .int .i64 a.row.v.kind, .int .i64 a.row.v.int, .string a.row.v.text] 43) :: Q) b L' V → RowAt V (w.heap.size) [.int .i64 a.kind, .int .i64 a.node, .int .i64 a.n, .int .i64 a.client, .int .i64 a.number, .int .i64 a.cmd.kind, .string a.cmd.actor, .string a.cmd.schema, .string a.cmd.table, .string a.cmd.name, .string a.cmd.role, .slice A a.cmd.cols.length k, .string a.cmd.rule.name, .int .i64 a.cmd.rule.kind, .slice A2 a.cmd.rule.cols.length k2, .int .i64 a.cmd.rule.low, .int .i64 a.cmd.rule.high, .string a.cmd.rule.schema, .string a.cmd.rule.table, .string a.cmd.rule.key, .int .i64 a.cmd.right, .bool a.cmd.opt, .int .i64 a.ck, .int .i64 a.cn, .int .i64 a.row.kind, .string a.row.role, .string a.row.schema, .string a.row.table, .slice A3 a.row.row.length k3, .string a.row.col, .int .i64 a.row.v.kind, .int .i64 a.row.v.int, .string a.row.v.text] from fun L' V h => h.same List.mem_cons_self)
    have HE0 := Lib.hid (show w.heap.size + 1 = (w.alloc (.cells #[.int .i64 a.kind, .int .i64 a.node, .int .i64 a.n, .int .i64 a.client, .int .i64 a.number, .int .i64 a.cmd.kind, .string a.cmd.actor, .string a.cmd.schema, .string a.cmd.table, .string a.cmd.name, .string a.cmd.role, .slice A a.cmd.cols.length k, .string a.cmd.rule.name, .int .i64 a.cmd.rule.kind, .slice A2 a.cmd.rule.cols.length k2, .int .i64 a.cmd.rule.low, .int .i64 a.cmd.rule.high, .string a.cmd.rule.schema, .string a.cmd.rule.table, .string a.cmd.rule.key, .int .i64 a.cmd.right, .bool a.cmd.opt, .int .i64 a.ck, .int .i64 a.cn, .int .i64 a.row.kind, .string a.row.role, .string a.row.schema, .string a.row.table, .slice A3 a.row.row.length k3, .string a.row.col, .int .i64 a.row.v.kind, .int .i64 a.row.v.int, .string a.row.v.text] 43)).heap.size from by simp)
    have H0 := Lib.hid (H0.out.trans ((Aft.refl _).alloc (.cells #[.string (⟨#[108, 101, 97, 114, 110, 101, 114]⟩ : ByteArray), .string (⟨#[118, 111, 116, 101, 114]⟩ : ByteArray), .string (⟨#[114, 101, 109, 111, 118, 101]⟩ : ByteArray)] 9)))
    have HE0 := Lib.hid (show w.heap.size + 2 = ((w.alloc (.cells #[.int .i64 a.kind, .int .i64 a.node, .int .i64 a.n, .int .i64 a.client, .int .i64 a.number, .int .i64 a.cmd.kind, .string a.cmd.actor, .string a.cmd.schema, .string a.cmd.table, .string a.cmd.name, .string a.cmd.role, .slice A a.cmd.cols.length k, .string a.cmd.rule.name, .int .i64 a.cmd.rule.kind, .slice A2 a.cmd.rule.cols.length k2, .int .i64 a.cmd.rule.low, .int .i64 a.cmd.rule.high, .string a.cmd.rule.schema, .string a.cmd.rule.table, .string a.cmd.rule.key, .int .i64 a.cmd.right, .bool a.cmd.opt, .int .i64 a.ck, .int .i64 a.cn, .int .i64 a.row.kind, .string a.row.role, .string a.row.schema, .string a.row.table, .slice A3 a.row.row.length k3, .string a.row.col, .int .i64 a.row.v.kind, .int .i64 a.row.v.int, .string a.row.v.text] 43)).alloc (.cells #[.string (⟨#[108, 101, 97, 114, 110, 101, 114]⟩ : ByteArray), .string (⟨#[118, 111, 116, 101, 114]⟩ : ByteArray), .string (⟨#[114, 101, 109, 111, 118, 101]⟩ : ByteArray)] 9)).heap.size from by simp)
    have HZ0 := Lib.hid (show (L).length ≤ 40000 from by (try simp only [List.length_append, List.length_cons, List.length_nil, List.length_map]); omega)
    have HZ1 := Lib.hid (show (L ++ [(⟨#[108, 101, 97, 114, 110, 101, 114]⟩ : ByteArray)]).length ≤ 50000 from by (try simp only [List.length_append, List.length_cons, List.length_nil, List.length_map]); omega)
    have HQ1 := Lib.hid q1
    have HS := Lib.hid (show actM a = some ([(⟨#[108, 101, 97, 114, 110, 101, 114]⟩ : ByteArray)] ++ (List.map itoaB [a.node, a.cn])) from by simp [actM, andL, HK.out, HX.out, b_learner, HQ1.out])
    clear h q1
    go_enter Tryz.func36, Tryz.ntmps36
    go_wp2_with (first
      | (go_at_call 61; (with_reducible refine (lay2 w0 _ b _ _ _ _ H0.out HZ0.out HE0.out).mono ?_); rintro e w1 ⟨rfl, h⟩; have r0b0 := HM0.out _ _ h; have yb0b0 := r0b0.1; have y0b0c1 := r0b0.cell (j := 1) rfl; have y0b0c23 := r0b0.cell (j := 23) rfl; clear r0b0; have H1 := Lib.hid h; clear h)
      | (go_at_call 62; (with_reducible refine (num2 w0 _ b _ _ _ _ _ H1.out HT.out HZ1.out rfl).mono ?_); rintro e w2 h; rw [HQ1.out] at h; obtain ⟨rfl, h⟩ := h; have H2 := Lib.hid h; clear h))
    go_end0
    rw [HS.out]
    exact ⟨rfl, LyS.conv (by first | (simp only [List.append_assoc]; rfl) | simp only [List.append_assoc]) H2.out.pop⟩
set_option maxHeartbeats 8000000 in
theorem act_k82 (w0 : World) (Q : List (Nat × Obj)) (b : Nat) (L : Ws) (a : Dact) (A : Option Addr) (k : Nat) (A2 : Option Addr) (k2 : Nat) (A3 : Option Addr) (k3 : Nat) (w : World) (h : LyS w0 Q b L w) (ht : TabW w0) (sm : SmC a.cmd) (so : SmO a.row) (hn : L.length ≤ 10) (hcc : SlAt w0 3 ColR A k a.cmd.cols) (hc : SlAt w0 1 StrR A2 k2 a.cmd.rule.cols) (hv : SlAt w0 3 ValR A3 k3 a.row.row) (hlc : a.cmd.cols.length ≤ 4100) (hl : a.cmd.rule.cols.length ≤ 4100) (hlr : a.row.row.length ≤ 4100) (hk : a.kind = 8) (hc1 : a.ck = 2) (hr1 : -9223372036854775808 ≤ a.ck) (hr2 : a.ck ≤ 9223372036854775807) :
    Calls Tryz.prog 36 #[.pointer (some ⟨b, 0, none⟩), .agg #[.int .i64 a.kind, .int .i64 a.node, .int .i64 a.n, .int .i64 a.client, .int .i64 a.number, .int .i64 a.cmd.kind, .string a.cmd.actor, .string a.cmd.schema, .string a.cmd.table, .string a.cmd.name, .string a.cmd.role, .slice A a.cmd.cols.length k, .string a.cmd.rule.name, .int .i64 a.cmd.rule.kind, .slice A2 a.cmd.rule.cols.length k2, .int .i64 a.cmd.rule.low, .int .i64 a.cmd.rule.high, .string a.cmd.rule.schema, .string a.cmd.rule.table, .string a.cmd.rule.key, .int .i64 a.cmd.right, .bool a.cmd.opt, .int .i64 a.ck, .int .i64 a.cn, .int .i64 a.row.kind, .string a.row.role, .string a.row.schema, .string a.row.table, .slice A3 a.row.row.length k3, .string a.row.col, .int .i64 a.row.v.kind, .int .i64 a.row.v.int, .string a.row.v.text]] w (LyQ w0 Q b L (actM a)) := by
  have b1 : (a.kind == 1) = false := by simp [hk]
  have b2 : (a.kind == 2) = false := by simp [hk]
  have b12 : (a.kind == 12) = false := by simp [hk]
  have b3 : (a.kind == 3) = false := by simp [hk]
  have b4 : (a.kind == 4) = false := by simp [hk]
  have b5 : (a.kind == 5) = false := by simp [hk]
  have b6 : (a.kind == 6) = false := by simp [hk]
  have b7 : (a.kind == 7) = false := by simp [hk]
  have b8 : (a.kind == 8) = true := by simp [hk]
  have b9 : (a.kind == 9) = false := by simp [hk]
  have b10 : (a.kind == 10) = false := by simp [hk]
  have b11 : (a.kind == 11) = false := by simp [hk]
  have HT := Lib.hid ht
  have HSM := Lib.hid sm
  have HSO := Lib.hid so
  have HC := Lib.hid hc
  have HCC := Lib.hid hcc
  have HV := Lib.hid hv
  clear ht sm so hc hcc hv
  have HK := Lib.hid hk
  have HX := Lib.hid (show chgX a.ck = b_voter from by
    unfold chgX chgW
    rw [if_neg (by omega), if_neg (by omega), if_pos hc1])
  have hr3 : 0 ≤ a.ck := by omega
  have hr4 : a.ck ≤ 5 := by omega
  have hix : (min (max 0 (a.ck - 1)) 2).toNat = 1 := by omega
  clear hk hc1
  rcases nus_cases [a.node, a.cn] with q1 | q1
  · have H0 := Lib.hid (h.push (.cells #[.int .i64 a.kind, .int .i64 a.node, .int .i64 a.n, .int .i64 a.client, .int .i64 a.number, .int .i64 a.cmd.kind, .string a.cmd.actor, .string a.cmd.schema, .string a.cmd.table, .string a.cmd.name, .string a.cmd.role, .slice A a.cmd.cols.length k, .string a.cmd.rule.name, .int .i64 a.cmd.rule.kind, .slice A2 a.cmd.rule.cols.length k2, .int .i64 a.cmd.rule.low, .int .i64 a.cmd.rule.high, .string a.cmd.rule.schema, .string a.cmd.rule.table, .string a.cmd.rule.key, .int .i64 a.cmd.right, .bool a.cmd.opt, .int .i64 a.ck, .int .i64 a.cn, .int .i64 a.row.kind, .string a.row.role, .string a.row.schema, .string a.row.table, .slice A3 a.row.row.length k3, .string a.row.col, .int .i64 a.row.v.kind, .int .i64 a.row.v.int, .string a.row.v.text] 43))
    have HM0 := Lib.hid (show ∀ L' V, LyS w0 ((w.heap.size, .cells #[.int .i64 a.kind, .int .i64 a.node, .int .i64 a.n, .int .i64 a.client, .int .i64 a.number, .int .i64 a.cmd.kind, .string a.cmd.actor, .string a.cmd.schema, .string a.cmd.table, .string a.cmd.name, .string a.cmd.role, .slice A a.cmd.cols.length k, .string a.cmd.rule.name, .int .i64 a.cmd.rule.kind, .slice A2 a.cmd.rule.cols.length k2, .int .i64 a.cmd.rule.low, .int .i64 a.cmd.rule.high, .string a.cmd.rule.schema, .string a.cmd.rule.table, .string a.cmd.rule.key, .int .i64 a.cmd.right, .bool a.cmd.opt, .int .i64 a.ck, .int .i64 a.cn, .int .i64 a.row.kind, .string a.row.role, .string a.row.schema, .string a.row.table, .slice A3 a.row.row.length k3, .string a.row.col, .int .i64 a.row.v.kind, .int .i64 a.row.v.int, .string a.row.v.text] 43) :: Q) b L' V → RowAt V (w.heap.size) [.int .i64 a.kind, .int .i64 a.node, .int .i64 a.n, .int .i64 a.client, .int .i64 a.number, .int .i64 a.cmd.kind, .string a.cmd.actor, .string a.cmd.schema, .string a.cmd.table, .string a.cmd.name, .string a.cmd.role, .slice A a.cmd.cols.length k, .string a.cmd.rule.name, .int .i64 a.cmd.rule.kind, .slice A2 a.cmd.rule.cols.length k2, .int .i64 a.cmd.rule.low, .int .i64 a.cmd.rule.high, .string a.cmd.rule.schema, .string a.cmd.rule.table, .string a.cmd.rule.key, .int .i64 a.cmd.right, .bool a.cmd.opt, .int .i64 a.ck, .int .i64 a.cn, .int .i64 a.row.kind, .string a.row.role, .string a.row.schema, .string a.row.table, .slice A3 a.row.row.length k3, .string a.row.col, .int .i64 a.row.v.kind, .int .i64 a.row.v.int, .string a.row.v.text] from fun L' V h => h.same List.mem_cons_self)
    have HE0 := Lib.hid (show w.heap.size + 1 = (w.alloc (.cells #[.int .i64 a.kind, .int .i64 a.node, .int .i64 a.n, .int .i64 a.client, .int .i64 a.number, .int .i64 a.cmd.kind, .string a.cmd.actor, .string a.cmd.schema, .string a.cmd.table, .string a.cmd.name, .string a.cmd.role, .slice A a.cmd.cols.length k, .string a.cmd.rule.name, .int .i64 a.cmd.rule.kind, .slice A2 a.cmd.rule.cols.length k2, .int .i64 a.cmd.rule.low, .int .i64 a.cmd.rule.high, .string a.cmd.rule.schema, .string a.cmd.rule.table, .string a.cmd.rule.key, .int .i64 a.cmd.right, .bool a.cmd.opt, .int .i64 a.ck, .int .i64 a.cn, .int .i64 a.row.kind, .string a.row.role, .string a.row.schema, .string a.row.table, .slice A3 a.row.row.length k3, .string a.row.col, .int .i64 a.row.v.kind, .int .i64 a.row.v.int, .string a.row.v.text] 43)).heap.size from by simp)
    have H0 := Lib.hid (H0.out.trans ((Aft.refl _).alloc (.cells #[.string (⟨#[108, 101, 97, 114, 110, 101, 114]⟩ : ByteArray), .string (⟨#[118, 111, 116, 101, 114]⟩ : ByteArray), .string (⟨#[114, 101, 109, 111, 118, 101]⟩ : ByteArray)] 9)))
    have HE0 := Lib.hid (show w.heap.size + 2 = ((w.alloc (.cells #[.int .i64 a.kind, .int .i64 a.node, .int .i64 a.n, .int .i64 a.client, .int .i64 a.number, .int .i64 a.cmd.kind, .string a.cmd.actor, .string a.cmd.schema, .string a.cmd.table, .string a.cmd.name, .string a.cmd.role, .slice A a.cmd.cols.length k, .string a.cmd.rule.name, .int .i64 a.cmd.rule.kind, .slice A2 a.cmd.rule.cols.length k2, .int .i64 a.cmd.rule.low, .int .i64 a.cmd.rule.high, .string a.cmd.rule.schema, .string a.cmd.rule.table, .string a.cmd.rule.key, .int .i64 a.cmd.right, .bool a.cmd.opt, .int .i64 a.ck, .int .i64 a.cn, .int .i64 a.row.kind, .string a.row.role, .string a.row.schema, .string a.row.table, .slice A3 a.row.row.length k3, .string a.row.col, .int .i64 a.row.v.kind, .int .i64 a.row.v.int, .string a.row.v.text] 43)).alloc (.cells #[.string (⟨#[108, 101, 97, 114, 110, 101, 114]⟩ : ByteArray), .string (⟨#[118, 111, 116, 101, 114]⟩ : ByteArray), .string (⟨#[114, 101, 109, 111, 118, 101]⟩ : ByteArray)] 9)).heap.size from by simp)
    have HZ0 := Lib.hid (show (L).length ≤ 40000 from by (try simp only [List.length_append, List.length_cons, List.length_nil, List.length_map]); omega)
    have HZ1 := Lib.hid (show (L ++ [(⟨#[118, 111, 116, 101, 114]⟩ : ByteArray)]).length ≤ 50000 from by (try simp only [List.length_append, List.length_cons, List.length_nil, List.length_map]); omega)
    have HQ1 := Lib.hid q1
    have HS := Lib.hid (show actM a = none from by simp [actM, andL, HK.out, HX.out, b_voter, HQ1.out])
    clear h q1
    go_enter Tryz.func36, Tryz.ntmps36
    go_wp2_with (first
      | (go_at_call 61; (with_reducible refine (lay2 w0 _ b _ _ _ _ H0.out HZ0.out HE0.out).mono ?_); rintro e w1 ⟨rfl, h⟩; have r0b0 := HM0.out _ _ h; have yb0b0 := r0b0.1; have y0b0c1 := r0b0.cell (j := 1) rfl; have y0b0c23 := r0b0.cell (j := 23) rfl; clear r0b0; have H1 := Lib.hid h; clear h)
      | (go_at_call 62; (with_reducible refine (num2 w0 _ b _ _ _ _ _ H1.out HT.out HZ1.out rfl).mono ?_); rintro e w2 h; rw [HQ1.out] at h; obtain ⟨he, h⟩ := h; have H2 := Lib.hid h; clear h; unfold NoL at he; subst he))
    rw [HS.out]
    exact ⟨rfl, rfl, H2.out⟩
  · have H0 := Lib.hid (h.push (.cells #[.int .i64 a.kind, .int .i64 a.node, .int .i64 a.n, .int .i64 a.client, .int .i64 a.number, .int .i64 a.cmd.kind, .string a.cmd.actor, .string a.cmd.schema, .string a.cmd.table, .string a.cmd.name, .string a.cmd.role, .slice A a.cmd.cols.length k, .string a.cmd.rule.name, .int .i64 a.cmd.rule.kind, .slice A2 a.cmd.rule.cols.length k2, .int .i64 a.cmd.rule.low, .int .i64 a.cmd.rule.high, .string a.cmd.rule.schema, .string a.cmd.rule.table, .string a.cmd.rule.key, .int .i64 a.cmd.right, .bool a.cmd.opt, .int .i64 a.ck, .int .i64 a.cn, .int .i64 a.row.kind, .string a.row.role, .string a.row.schema, .string a.row.table, .slice A3 a.row.row.length k3, .string a.row.col, .int .i64 a.row.v.kind, .int .i64 a.row.v.int, .string a.row.v.text] 43))
    have HM0 := Lib.hid (show ∀ L' V, LyS w0 ((w.heap.size, .cells #[.int .i64 a.kind, .int .i64 a.node, .int .i64 a.n, .int .i64 a.client, .int .i64 a.number, .int .i64 a.cmd.kind, .string a.cmd.actor, .string a.cmd.schema, .string a.cmd.table, .string a.cmd.name, .string a.cmd.role, .slice A a.cmd.cols.length k, .string a.cmd.rule.name, .int .i64 a.cmd.rule.kind, .slice A2 a.cmd.rule.cols.length k2, .int .i64 a.cmd.rule.low, .int .i64 a.cmd.rule.high, .string a.cmd.rule.schema, .string a.cmd.rule.table, .string a.cmd.rule.key, .int .i64 a.cmd.right, .bool a.cmd.opt, .int .i64 a.ck, .int .i64 a.cn, .int .i64 a.row.kind, .string a.row.role, .string a.row.schema, .string a.row.table, .slice A3 a.row.row.length k3, .string a.row.col, .int .i64 a.row.v.kind, .int .i64 a.row.v.int, .string a.row.v.text] 43) :: Q) b L' V → RowAt V (w.heap.size) [.int .i64 a.kind, .int .i64 a.node, .int .i64 a.n, .int .i64 a.client, .int .i64 a.number, .int .i64 a.cmd.kind, .string a.cmd.actor, .string a.cmd.schema, .string a.cmd.table, .string a.cmd.name, .string a.cmd.role, .slice A a.cmd.cols.length k, .string a.cmd.rule.name, .int .i64 a.cmd.rule.kind, .slice A2 a.cmd.rule.cols.length k2, .int .i64 a.cmd.rule.low, .int .i64 a.cmd.rule.high, .string a.cmd.rule.schema, .string a.cmd.rule.table, .string a.cmd.rule.key, .int .i64 a.cmd.right, .bool a.cmd.opt, .int .i64 a.ck, .int .i64 a.cn, .int .i64 a.row.kind, .string a.row.role, .string a.row.schema, .string a.row.table, .slice A3 a.row.row.length k3, .string a.row.col, .int .i64 a.row.v.kind, .int .i64 a.row.v.int, .string a.row.v.text] from fun L' V h => h.same List.mem_cons_self)
    have HE0 := Lib.hid (show w.heap.size + 1 = (w.alloc (.cells #[.int .i64 a.kind, .int .i64 a.node, .int .i64 a.n, .int .i64 a.client, .int .i64 a.number, .int .i64 a.cmd.kind, .string a.cmd.actor, .string a.cmd.schema, .string a.cmd.table, .string a.cmd.name, .string a.cmd.role, .slice A a.cmd.cols.length k, .string a.cmd.rule.name, .int .i64 a.cmd.rule.kind, .slice A2 a.cmd.rule.cols.length k2, .int .i64 a.cmd.rule.low, .int .i64 a.cmd.rule.high, .string a.cmd.rule.schema, .string a.cmd.rule.table, .string a.cmd.rule.key, .int .i64 a.cmd.right, .bool a.cmd.opt, .int .i64 a.ck, .int .i64 a.cn, .int .i64 a.row.kind, .string a.row.role, .string a.row.schema, .string a.row.table, .slice A3 a.row.row.length k3, .string a.row.col, .int .i64 a.row.v.kind, .int .i64 a.row.v.int, .string a.row.v.text] 43)).heap.size from by simp)
    have H0 := Lib.hid (H0.out.trans ((Aft.refl _).alloc (.cells #[.string (⟨#[108, 101, 97, 114, 110, 101, 114]⟩ : ByteArray), .string (⟨#[118, 111, 116, 101, 114]⟩ : ByteArray), .string (⟨#[114, 101, 109, 111, 118, 101]⟩ : ByteArray)] 9)))
    have HE0 := Lib.hid (show w.heap.size + 2 = ((w.alloc (.cells #[.int .i64 a.kind, .int .i64 a.node, .int .i64 a.n, .int .i64 a.client, .int .i64 a.number, .int .i64 a.cmd.kind, .string a.cmd.actor, .string a.cmd.schema, .string a.cmd.table, .string a.cmd.name, .string a.cmd.role, .slice A a.cmd.cols.length k, .string a.cmd.rule.name, .int .i64 a.cmd.rule.kind, .slice A2 a.cmd.rule.cols.length k2, .int .i64 a.cmd.rule.low, .int .i64 a.cmd.rule.high, .string a.cmd.rule.schema, .string a.cmd.rule.table, .string a.cmd.rule.key, .int .i64 a.cmd.right, .bool a.cmd.opt, .int .i64 a.ck, .int .i64 a.cn, .int .i64 a.row.kind, .string a.row.role, .string a.row.schema, .string a.row.table, .slice A3 a.row.row.length k3, .string a.row.col, .int .i64 a.row.v.kind, .int .i64 a.row.v.int, .string a.row.v.text] 43)).alloc (.cells #[.string (⟨#[108, 101, 97, 114, 110, 101, 114]⟩ : ByteArray), .string (⟨#[118, 111, 116, 101, 114]⟩ : ByteArray), .string (⟨#[114, 101, 109, 111, 118, 101]⟩ : ByteArray)] 9)).heap.size from by simp)
    have HZ0 := Lib.hid (show (L).length ≤ 40000 from by (try simp only [List.length_append, List.length_cons, List.length_nil, List.length_map]); omega)
    have HZ1 := Lib.hid (show (L ++ [(⟨#[118, 111, 116, 101, 114]⟩ : ByteArray)]).length ≤ 50000 from by (try simp only [List.length_append, List.length_cons, List.length_nil, List.length_map]); omega)
    have HQ1 := Lib.hid q1
    have HS := Lib.hid (show actM a = some ([(⟨#[118, 111, 116, 101, 114]⟩ : ByteArray)] ++ (List.map itoaB [a.node, a.cn])) from by simp [actM, andL, HK.out, HX.out, b_voter, HQ1.out])
    clear h q1
    go_enter Tryz.func36, Tryz.ntmps36
    go_wp2_with (first
      | (go_at_call 61; (with_reducible refine (lay2 w0 _ b _ _ _ _ H0.out HZ0.out HE0.out).mono ?_); rintro e w1 ⟨rfl, h⟩; have r0b0 := HM0.out _ _ h; have yb0b0 := r0b0.1; have y0b0c1 := r0b0.cell (j := 1) rfl; have y0b0c23 := r0b0.cell (j := 23) rfl; clear r0b0; have H1 := Lib.hid h; clear h)
      | (go_at_call 62; (with_reducible refine (num2 w0 _ b _ _ _ _ _ H1.out HT.out HZ1.out rfl).mono ?_); rintro e w2 h; rw [HQ1.out] at h; obtain ⟨rfl, h⟩ := h; have H2 := Lib.hid h; clear h))
    go_end0
    rw [HS.out]
    exact ⟨rfl, LyS.conv (by first | (simp only [List.append_assoc]; rfl) | simp only [List.append_assoc]) H2.out.pop⟩
set_option maxHeartbeats 8000000 in
theorem act_k83 (w0 : World) (Q : List (Nat × Obj)) (b : Nat) (L : Ws) (a : Dact) (A : Option Addr) (k : Nat) (A2 : Option Addr) (k2 : Nat) (A3 : Option Addr) (k3 : Nat) (w : World) (h : LyS w0 Q b L w) (ht : TabW w0) (sm : SmC a.cmd) (so : SmO a.row) (hn : L.length ≤ 10) (hcc : SlAt w0 3 ColR A k a.cmd.cols) (hc : SlAt w0 1 StrR A2 k2 a.cmd.rule.cols) (hv : SlAt w0 3 ValR A3 k3 a.row.row) (hlc : a.cmd.cols.length ≤ 4100) (hl : a.cmd.rule.cols.length ≤ 4100) (hlr : a.row.row.length ≤ 4100) (hk : a.kind = 8) (hc1 : 3 ≤ a.ck) (hr1 : -9223372036854775808 ≤ a.ck) (hr2 : a.ck ≤ 9223372036854775807) :
    Calls Tryz.prog 36 #[.pointer (some ⟨b, 0, none⟩), .agg #[.int .i64 a.kind, .int .i64 a.node, .int .i64 a.n, .int .i64 a.client, .int .i64 a.number, .int .i64 a.cmd.kind, .string a.cmd.actor, .string a.cmd.schema, .string a.cmd.table, .string a.cmd.name, .string a.cmd.role, .slice A a.cmd.cols.length k, .string a.cmd.rule.name, .int .i64 a.cmd.rule.kind, .slice A2 a.cmd.rule.cols.length k2, .int .i64 a.cmd.rule.low, .int .i64 a.cmd.rule.high, .string a.cmd.rule.schema, .string a.cmd.rule.table, .string a.cmd.rule.key, .int .i64 a.cmd.right, .bool a.cmd.opt, .int .i64 a.ck, .int .i64 a.cn, .int .i64 a.row.kind, .string a.row.role, .string a.row.schema, .string a.row.table, .slice A3 a.row.row.length k3, .string a.row.col, .int .i64 a.row.v.kind, .int .i64 a.row.v.int, .string a.row.v.text]] w (LyQ w0 Q b L (actM a)) := by
  have b1 : (a.kind == 1) = false := by simp [hk]
  have b2 : (a.kind == 2) = false := by simp [hk]
  have b12 : (a.kind == 12) = false := by simp [hk]
  have b3 : (a.kind == 3) = false := by simp [hk]
  have b4 : (a.kind == 4) = false := by simp [hk]
  have b5 : (a.kind == 5) = false := by simp [hk]
  have b6 : (a.kind == 6) = false := by simp [hk]
  have b7 : (a.kind == 7) = false := by simp [hk]
  have b8 : (a.kind == 8) = true := by simp [hk]
  have b9 : (a.kind == 9) = false := by simp [hk]
  have b10 : (a.kind == 10) = false := by simp [hk]
  have b11 : (a.kind == 11) = false := by simp [hk]
  have HT := Lib.hid ht
  have HSM := Lib.hid sm
  have HSO := Lib.hid so
  have HC := Lib.hid hc
  have HCC := Lib.hid hcc
  have HV := Lib.hid hv
  clear ht sm so hc hcc hv
  have HK := Lib.hid hk
  have HX := Lib.hid (show chgX a.ck = b_remove from by
    unfold chgX chgW
    rw [if_neg (by omega), if_neg (by omega), if_neg (by omega)])
  have hix : (min (max 0 (a.ck - 1)) 2).toNat = 2 := by omega
  clear hk 
  rcases nus_cases [a.node, a.cn] with q1 | q1
  · have H0 := Lib.hid (h.push (.cells #[.int .i64 a.kind, .int .i64 a.node, .int .i64 a.n, .int .i64 a.client, .int .i64 a.number, .int .i64 a.cmd.kind, .string a.cmd.actor, .string a.cmd.schema, .string a.cmd.table, .string a.cmd.name, .string a.cmd.role, .slice A a.cmd.cols.length k, .string a.cmd.rule.name, .int .i64 a.cmd.rule.kind, .slice A2 a.cmd.rule.cols.length k2, .int .i64 a.cmd.rule.low, .int .i64 a.cmd.rule.high, .string a.cmd.rule.schema, .string a.cmd.rule.table, .string a.cmd.rule.key, .int .i64 a.cmd.right, .bool a.cmd.opt, .int .i64 a.ck, .int .i64 a.cn, .int .i64 a.row.kind, .string a.row.role, .string a.row.schema, .string a.row.table, .slice A3 a.row.row.length k3, .string a.row.col, .int .i64 a.row.v.kind, .int .i64 a.row.v.int, .string a.row.v.text] 43))
    have HM0 := Lib.hid (show ∀ L' V, LyS w0 ((w.heap.size, .cells #[.int .i64 a.kind, .int .i64 a.node, .int .i64 a.n, .int .i64 a.client, .int .i64 a.number, .int .i64 a.cmd.kind, .string a.cmd.actor, .string a.cmd.schema, .string a.cmd.table, .string a.cmd.name, .string a.cmd.role, .slice A a.cmd.cols.length k, .string a.cmd.rule.name, .int .i64 a.cmd.rule.kind, .slice A2 a.cmd.rule.cols.length k2, .int .i64 a.cmd.rule.low, .int .i64 a.cmd.rule.high, .string a.cmd.rule.schema, .string a.cmd.rule.table, .string a.cmd.rule.key, .int .i64 a.cmd.right, .bool a.cmd.opt, .int .i64 a.ck, .int .i64 a.cn, .int .i64 a.row.kind, .string a.row.role, .string a.row.schema, .string a.row.table, .slice A3 a.row.row.length k3, .string a.row.col, .int .i64 a.row.v.kind, .int .i64 a.row.v.int, .string a.row.v.text] 43) :: Q) b L' V → RowAt V (w.heap.size) [.int .i64 a.kind, .int .i64 a.node, .int .i64 a.n, .int .i64 a.client, .int .i64 a.number, .int .i64 a.cmd.kind, .string a.cmd.actor, .string a.cmd.schema, .string a.cmd.table, .string a.cmd.name, .string a.cmd.role, .slice A a.cmd.cols.length k, .string a.cmd.rule.name, .int .i64 a.cmd.rule.kind, .slice A2 a.cmd.rule.cols.length k2, .int .i64 a.cmd.rule.low, .int .i64 a.cmd.rule.high, .string a.cmd.rule.schema, .string a.cmd.rule.table, .string a.cmd.rule.key, .int .i64 a.cmd.right, .bool a.cmd.opt, .int .i64 a.ck, .int .i64 a.cn, .int .i64 a.row.kind, .string a.row.role, .string a.row.schema, .string a.row.table, .slice A3 a.row.row.length k3, .string a.row.col, .int .i64 a.row.v.kind, .int .i64 a.row.v.int, .string a.row.v.text] from fun L' V h => h.same List.mem_cons_self)
    have HE0 := Lib.hid (show w.heap.size + 1 = (w.alloc (.cells #[.int .i64 a.kind, .int .i64 a.node, .int .i64 a.n, .int .i64 a.client, .int .i64 a.number, .int .i64 a.cmd.kind, .string a.cmd.actor, .string a.cmd.schema, .string a.cmd.table, .string a.cmd.name, .string a.cmd.role, .slice A a.cmd.cols.length k, .string a.cmd.rule.name, .int .i64 a.cmd.rule.kind, .slice A2 a.cmd.rule.cols.length k2, .int .i64 a.cmd.rule.low, .int .i64 a.cmd.rule.high, .string a.cmd.rule.schema, .string a.cmd.rule.table, .string a.cmd.rule.key, .int .i64 a.cmd.right, .bool a.cmd.opt, .int .i64 a.ck, .int .i64 a.cn, .int .i64 a.row.kind, .string a.row.role, .string a.row.schema, .string a.row.table, .slice A3 a.row.row.length k3, .string a.row.col, .int .i64 a.row.v.kind, .int .i64 a.row.v.int, .string a.row.v.text] 43)).heap.size from by simp)
    have H0 := Lib.hid (H0.out.trans ((Aft.refl _).alloc (.cells #[.string (⟨#[108, 101, 97, 114, 110, 101, 114]⟩ : ByteArray), .string (⟨#[118, 111, 116, 101, 114]⟩ : ByteArray), .string (⟨#[114, 101, 109, 111, 118, 101]⟩ : ByteArray)] 9)))
    have HE0 := Lib.hid (show w.heap.size + 2 = ((w.alloc (.cells #[.int .i64 a.kind, .int .i64 a.node, .int .i64 a.n, .int .i64 a.client, .int .i64 a.number, .int .i64 a.cmd.kind, .string a.cmd.actor, .string a.cmd.schema, .string a.cmd.table, .string a.cmd.name, .string a.cmd.role, .slice A a.cmd.cols.length k, .string a.cmd.rule.name, .int .i64 a.cmd.rule.kind, .slice A2 a.cmd.rule.cols.length k2, .int .i64 a.cmd.rule.low, .int .i64 a.cmd.rule.high, .string a.cmd.rule.schema, .string a.cmd.rule.table, .string a.cmd.rule.key, .int .i64 a.cmd.right, .bool a.cmd.opt, .int .i64 a.ck, .int .i64 a.cn, .int .i64 a.row.kind, .string a.row.role, .string a.row.schema, .string a.row.table, .slice A3 a.row.row.length k3, .string a.row.col, .int .i64 a.row.v.kind, .int .i64 a.row.v.int, .string a.row.v.text] 43)).alloc (.cells #[.string (⟨#[108, 101, 97, 114, 110, 101, 114]⟩ : ByteArray), .string (⟨#[118, 111, 116, 101, 114]⟩ : ByteArray), .string (⟨#[114, 101, 109, 111, 118, 101]⟩ : ByteArray)] 9)).heap.size from by simp)
    have HZ0 := Lib.hid (show (L).length ≤ 40000 from by (try simp only [List.length_append, List.length_cons, List.length_nil, List.length_map]); omega)
    have HZ1 := Lib.hid (show (L ++ [(⟨#[114, 101, 109, 111, 118, 101]⟩ : ByteArray)]).length ≤ 50000 from by (try simp only [List.length_append, List.length_cons, List.length_nil, List.length_map]); omega)
    have HQ1 := Lib.hid q1
    have HS := Lib.hid (show actM a = none from by simp [actM, andL, HK.out, HX.out, b_remove, HQ1.out])
    clear h q1
    go_enter Tryz.func36, Tryz.ntmps36
    go_wp2_with (first
      | (go_at_call 61; (with_reducible refine (lay2 w0 _ b _ _ _ _ H0.out HZ0.out HE0.out).mono ?_); rintro e w1 ⟨rfl, h⟩; have r0b0 := HM0.out _ _ h; have yb0b0 := r0b0.1; have y0b0c1 := r0b0.cell (j := 1) rfl; have y0b0c23 := r0b0.cell (j := 23) rfl; clear r0b0; have H1 := Lib.hid h; clear h)
      | (go_at_call 62; (with_reducible refine (num2 w0 _ b _ _ _ _ _ H1.out HT.out HZ1.out rfl).mono ?_); rintro e w2 h; rw [HQ1.out] at h; obtain ⟨he, h⟩ := h; have H2 := Lib.hid h; clear h; unfold NoL at he; subst he))
    rw [HS.out]
    exact ⟨rfl, rfl, H2.out⟩
  · have H0 := Lib.hid (h.push (.cells #[.int .i64 a.kind, .int .i64 a.node, .int .i64 a.n, .int .i64 a.client, .int .i64 a.number, .int .i64 a.cmd.kind, .string a.cmd.actor, .string a.cmd.schema, .string a.cmd.table, .string a.cmd.name, .string a.cmd.role, .slice A a.cmd.cols.length k, .string a.cmd.rule.name, .int .i64 a.cmd.rule.kind, .slice A2 a.cmd.rule.cols.length k2, .int .i64 a.cmd.rule.low, .int .i64 a.cmd.rule.high, .string a.cmd.rule.schema, .string a.cmd.rule.table, .string a.cmd.rule.key, .int .i64 a.cmd.right, .bool a.cmd.opt, .int .i64 a.ck, .int .i64 a.cn, .int .i64 a.row.kind, .string a.row.role, .string a.row.schema, .string a.row.table, .slice A3 a.row.row.length k3, .string a.row.col, .int .i64 a.row.v.kind, .int .i64 a.row.v.int, .string a.row.v.text] 43))
    have HM0 := Lib.hid (show ∀ L' V, LyS w0 ((w.heap.size, .cells #[.int .i64 a.kind, .int .i64 a.node, .int .i64 a.n, .int .i64 a.client, .int .i64 a.number, .int .i64 a.cmd.kind, .string a.cmd.actor, .string a.cmd.schema, .string a.cmd.table, .string a.cmd.name, .string a.cmd.role, .slice A a.cmd.cols.length k, .string a.cmd.rule.name, .int .i64 a.cmd.rule.kind, .slice A2 a.cmd.rule.cols.length k2, .int .i64 a.cmd.rule.low, .int .i64 a.cmd.rule.high, .string a.cmd.rule.schema, .string a.cmd.rule.table, .string a.cmd.rule.key, .int .i64 a.cmd.right, .bool a.cmd.opt, .int .i64 a.ck, .int .i64 a.cn, .int .i64 a.row.kind, .string a.row.role, .string a.row.schema, .string a.row.table, .slice A3 a.row.row.length k3, .string a.row.col, .int .i64 a.row.v.kind, .int .i64 a.row.v.int, .string a.row.v.text] 43) :: Q) b L' V → RowAt V (w.heap.size) [.int .i64 a.kind, .int .i64 a.node, .int .i64 a.n, .int .i64 a.client, .int .i64 a.number, .int .i64 a.cmd.kind, .string a.cmd.actor, .string a.cmd.schema, .string a.cmd.table, .string a.cmd.name, .string a.cmd.role, .slice A a.cmd.cols.length k, .string a.cmd.rule.name, .int .i64 a.cmd.rule.kind, .slice A2 a.cmd.rule.cols.length k2, .int .i64 a.cmd.rule.low, .int .i64 a.cmd.rule.high, .string a.cmd.rule.schema, .string a.cmd.rule.table, .string a.cmd.rule.key, .int .i64 a.cmd.right, .bool a.cmd.opt, .int .i64 a.ck, .int .i64 a.cn, .int .i64 a.row.kind, .string a.row.role, .string a.row.schema, .string a.row.table, .slice A3 a.row.row.length k3, .string a.row.col, .int .i64 a.row.v.kind, .int .i64 a.row.v.int, .string a.row.v.text] from fun L' V h => h.same List.mem_cons_self)
    have HE0 := Lib.hid (show w.heap.size + 1 = (w.alloc (.cells #[.int .i64 a.kind, .int .i64 a.node, .int .i64 a.n, .int .i64 a.client, .int .i64 a.number, .int .i64 a.cmd.kind, .string a.cmd.actor, .string a.cmd.schema, .string a.cmd.table, .string a.cmd.name, .string a.cmd.role, .slice A a.cmd.cols.length k, .string a.cmd.rule.name, .int .i64 a.cmd.rule.kind, .slice A2 a.cmd.rule.cols.length k2, .int .i64 a.cmd.rule.low, .int .i64 a.cmd.rule.high, .string a.cmd.rule.schema, .string a.cmd.rule.table, .string a.cmd.rule.key, .int .i64 a.cmd.right, .bool a.cmd.opt, .int .i64 a.ck, .int .i64 a.cn, .int .i64 a.row.kind, .string a.row.role, .string a.row.schema, .string a.row.table, .slice A3 a.row.row.length k3, .string a.row.col, .int .i64 a.row.v.kind, .int .i64 a.row.v.int, .string a.row.v.text] 43)).heap.size from by simp)
    have H0 := Lib.hid (H0.out.trans ((Aft.refl _).alloc (.cells #[.string (⟨#[108, 101, 97, 114, 110, 101, 114]⟩ : ByteArray), .string (⟨#[118, 111, 116, 101, 114]⟩ : ByteArray), .string (⟨#[114, 101, 109, 111, 118, 101]⟩ : ByteArray)] 9)))
    have HE0 := Lib.hid (show w.heap.size + 2 = ((w.alloc (.cells #[.int .i64 a.kind, .int .i64 a.node, .int .i64 a.n, .int .i64 a.client, .int .i64 a.number, .int .i64 a.cmd.kind, .string a.cmd.actor, .string a.cmd.schema, .string a.cmd.table, .string a.cmd.name, .string a.cmd.role, .slice A a.cmd.cols.length k, .string a.cmd.rule.name, .int .i64 a.cmd.rule.kind, .slice A2 a.cmd.rule.cols.length k2, .int .i64 a.cmd.rule.low, .int .i64 a.cmd.rule.high, .string a.cmd.rule.schema, .string a.cmd.rule.table, .string a.cmd.rule.key, .int .i64 a.cmd.right, .bool a.cmd.opt, .int .i64 a.ck, .int .i64 a.cn, .int .i64 a.row.kind, .string a.row.role, .string a.row.schema, .string a.row.table, .slice A3 a.row.row.length k3, .string a.row.col, .int .i64 a.row.v.kind, .int .i64 a.row.v.int, .string a.row.v.text] 43)).alloc (.cells #[.string (⟨#[108, 101, 97, 114, 110, 101, 114]⟩ : ByteArray), .string (⟨#[118, 111, 116, 101, 114]⟩ : ByteArray), .string (⟨#[114, 101, 109, 111, 118, 101]⟩ : ByteArray)] 9)).heap.size from by simp)
    have HZ0 := Lib.hid (show (L).length ≤ 40000 from by (try simp only [List.length_append, List.length_cons, List.length_nil, List.length_map]); omega)
    have HZ1 := Lib.hid (show (L ++ [(⟨#[114, 101, 109, 111, 118, 101]⟩ : ByteArray)]).length ≤ 50000 from by (try simp only [List.length_append, List.length_cons, List.length_nil, List.length_map]); omega)
    have HQ1 := Lib.hid q1
    have HS := Lib.hid (show actM a = some ([(⟨#[114, 101, 109, 111, 118, 101]⟩ : ByteArray)] ++ (List.map itoaB [a.node, a.cn])) from by simp [actM, andL, HK.out, HX.out, b_remove, HQ1.out])
    clear h q1
    go_enter Tryz.func36, Tryz.ntmps36
    go_wp2_with (first
      | (go_at_call 61; (with_reducible refine (lay2 w0 _ b _ _ _ _ H0.out HZ0.out HE0.out).mono ?_); rintro e w1 ⟨rfl, h⟩; have r0b0 := HM0.out _ _ h; have yb0b0 := r0b0.1; have y0b0c1 := r0b0.cell (j := 1) rfl; have y0b0c23 := r0b0.cell (j := 23) rfl; clear r0b0; have H1 := Lib.hid h; clear h)
      | (go_at_call 62; (with_reducible refine (num2 w0 _ b _ _ _ _ _ H1.out HT.out HZ1.out rfl).mono ?_); rintro e w2 h; rw [HQ1.out] at h; obtain ⟨rfl, h⟩ := h; have H2 := Lib.hid h; clear h))
    go_end0
    rw [HS.out]
    exact ⟨rfl, LyS.conv (by first | (simp only [List.append_assoc]; rfl) | simp only [List.append_assoc]) H2.out.pop⟩
set_option maxHeartbeats 8000000 in
theorem act_k84 (w0 : World) (Q : List (Nat × Obj)) (b : Nat) (L : Ws) (a : Dact) (A : Option Addr) (k : Nat) (A2 : Option Addr) (k2 : Nat) (A3 : Option Addr) (k3 : Nat) (w : World) (h : LyS w0 Q b L w) (ht : TabW w0) (sm : SmC a.cmd) (so : SmO a.row) (hn : L.length ≤ 10) (hcc : SlAt w0 3 ColR A k a.cmd.cols) (hc : SlAt w0 1 StrR A2 k2 a.cmd.rule.cols) (hv : SlAt w0 3 ValR A3 k3 a.row.row) (hlc : a.cmd.cols.length ≤ 4100) (hl : a.cmd.rule.cols.length ≤ 4100) (hlr : a.row.row.length ≤ 4100) (hk : a.kind = 8) (hc1 : a.ck = -9223372036854775808) (hr1 : -9223372036854775808 ≤ a.ck) (hr2 : a.ck ≤ 9223372036854775807) :
    Calls Tryz.prog 36 #[.pointer (some ⟨b, 0, none⟩), .agg #[.int .i64 a.kind, .int .i64 a.node, .int .i64 a.n, .int .i64 a.client, .int .i64 a.number, .int .i64 a.cmd.kind, .string a.cmd.actor, .string a.cmd.schema, .string a.cmd.table, .string a.cmd.name, .string a.cmd.role, .slice A a.cmd.cols.length k, .string a.cmd.rule.name, .int .i64 a.cmd.rule.kind, .slice A2 a.cmd.rule.cols.length k2, .int .i64 a.cmd.rule.low, .int .i64 a.cmd.rule.high, .string a.cmd.rule.schema, .string a.cmd.rule.table, .string a.cmd.rule.key, .int .i64 a.cmd.right, .bool a.cmd.opt, .int .i64 a.ck, .int .i64 a.cn, .int .i64 a.row.kind, .string a.row.role, .string a.row.schema, .string a.row.table, .slice A3 a.row.row.length k3, .string a.row.col, .int .i64 a.row.v.kind, .int .i64 a.row.v.int, .string a.row.v.text]] w (LyQ w0 Q b L (actM a)) := by
  have b1 : (a.kind == 1) = false := by simp [hk]
  have b2 : (a.kind == 2) = false := by simp [hk]
  have b12 : (a.kind == 12) = false := by simp [hk]
  have b3 : (a.kind == 3) = false := by simp [hk]
  have b4 : (a.kind == 4) = false := by simp [hk]
  have b5 : (a.kind == 5) = false := by simp [hk]
  have b6 : (a.kind == 6) = false := by simp [hk]
  have b7 : (a.kind == 7) = false := by simp [hk]
  have b8 : (a.kind == 8) = true := by simp [hk]
  have b9 : (a.kind == 9) = false := by simp [hk]
  have b10 : (a.kind == 10) = false := by simp [hk]
  have b11 : (a.kind == 11) = false := by simp [hk]
  have HT := Lib.hid ht
  have HSM := Lib.hid sm
  have HSO := Lib.hid so
  have HC := Lib.hid hc
  have HCC := Lib.hid hcc
  have HV := Lib.hid hv
  clear ht sm so hc hcc hv
  have HK := Lib.hid hk
  have HX := Lib.hid (show chgX a.ck = b_remove from by
    unfold chgX chgW
    rw [if_pos hc1])
  have hix : (min (max 0 (wrap64 (a.ck - 1))) 2).toNat = 2 := by rw [hc1]; decide +kernel
  clear hk hc1 hr1 hr2
  rcases nus_cases [a.node, a.cn] with q1 | q1
  · have H0 := Lib.hid (h.push (.cells #[.int .i64 a.kind, .int .i64 a.node, .int .i64 a.n, .int .i64 a.client, .int .i64 a.number, .int .i64 a.cmd.kind, .string a.cmd.actor, .string a.cmd.schema, .string a.cmd.table, .string a.cmd.name, .string a.cmd.role, .slice A a.cmd.cols.length k, .string a.cmd.rule.name, .int .i64 a.cmd.rule.kind, .slice A2 a.cmd.rule.cols.length k2, .int .i64 a.cmd.rule.low, .int .i64 a.cmd.rule.high, .string a.cmd.rule.schema, .string a.cmd.rule.table, .string a.cmd.rule.key, .int .i64 a.cmd.right, .bool a.cmd.opt, .int .i64 a.ck, .int .i64 a.cn, .int .i64 a.row.kind, .string a.row.role, .string a.row.schema, .string a.row.table, .slice A3 a.row.row.length k3, .string a.row.col, .int .i64 a.row.v.kind, .int .i64 a.row.v.int, .string a.row.v.text] 43))
    have HM0 := Lib.hid (show ∀ L' V, LyS w0 ((w.heap.size, .cells #[.int .i64 a.kind, .int .i64 a.node, .int .i64 a.n, .int .i64 a.client, .int .i64 a.number, .int .i64 a.cmd.kind, .string a.cmd.actor, .string a.cmd.schema, .string a.cmd.table, .string a.cmd.name, .string a.cmd.role, .slice A a.cmd.cols.length k, .string a.cmd.rule.name, .int .i64 a.cmd.rule.kind, .slice A2 a.cmd.rule.cols.length k2, .int .i64 a.cmd.rule.low, .int .i64 a.cmd.rule.high, .string a.cmd.rule.schema, .string a.cmd.rule.table, .string a.cmd.rule.key, .int .i64 a.cmd.right, .bool a.cmd.opt, .int .i64 a.ck, .int .i64 a.cn, .int .i64 a.row.kind, .string a.row.role, .string a.row.schema, .string a.row.table, .slice A3 a.row.row.length k3, .string a.row.col, .int .i64 a.row.v.kind, .int .i64 a.row.v.int, .string a.row.v.text] 43) :: Q) b L' V → RowAt V (w.heap.size) [.int .i64 a.kind, .int .i64 a.node, .int .i64 a.n, .int .i64 a.client, .int .i64 a.number, .int .i64 a.cmd.kind, .string a.cmd.actor, .string a.cmd.schema, .string a.cmd.table, .string a.cmd.name, .string a.cmd.role, .slice A a.cmd.cols.length k, .string a.cmd.rule.name, .int .i64 a.cmd.rule.kind, .slice A2 a.cmd.rule.cols.length k2, .int .i64 a.cmd.rule.low, .int .i64 a.cmd.rule.high, .string a.cmd.rule.schema, .string a.cmd.rule.table, .string a.cmd.rule.key, .int .i64 a.cmd.right, .bool a.cmd.opt, .int .i64 a.ck, .int .i64 a.cn, .int .i64 a.row.kind, .string a.row.role, .string a.row.schema, .string a.row.table, .slice A3 a.row.row.length k3, .string a.row.col, .int .i64 a.row.v.kind, .int .i64 a.row.v.int, .string a.row.v.text] from fun L' V h => h.same List.mem_cons_self)
    have HE0 := Lib.hid (show w.heap.size + 1 = (w.alloc (.cells #[.int .i64 a.kind, .int .i64 a.node, .int .i64 a.n, .int .i64 a.client, .int .i64 a.number, .int .i64 a.cmd.kind, .string a.cmd.actor, .string a.cmd.schema, .string a.cmd.table, .string a.cmd.name, .string a.cmd.role, .slice A a.cmd.cols.length k, .string a.cmd.rule.name, .int .i64 a.cmd.rule.kind, .slice A2 a.cmd.rule.cols.length k2, .int .i64 a.cmd.rule.low, .int .i64 a.cmd.rule.high, .string a.cmd.rule.schema, .string a.cmd.rule.table, .string a.cmd.rule.key, .int .i64 a.cmd.right, .bool a.cmd.opt, .int .i64 a.ck, .int .i64 a.cn, .int .i64 a.row.kind, .string a.row.role, .string a.row.schema, .string a.row.table, .slice A3 a.row.row.length k3, .string a.row.col, .int .i64 a.row.v.kind, .int .i64 a.row.v.int, .string a.row.v.text] 43)).heap.size from by simp)
    have H0 := Lib.hid (H0.out.trans ((Aft.refl _).alloc (.cells #[.string (⟨#[108, 101, 97, 114, 110, 101, 114]⟩ : ByteArray), .string (⟨#[118, 111, 116, 101, 114]⟩ : ByteArray), .string (⟨#[114, 101, 109, 111, 118, 101]⟩ : ByteArray)] 9)))
    have HE0 := Lib.hid (show w.heap.size + 2 = ((w.alloc (.cells #[.int .i64 a.kind, .int .i64 a.node, .int .i64 a.n, .int .i64 a.client, .int .i64 a.number, .int .i64 a.cmd.kind, .string a.cmd.actor, .string a.cmd.schema, .string a.cmd.table, .string a.cmd.name, .string a.cmd.role, .slice A a.cmd.cols.length k, .string a.cmd.rule.name, .int .i64 a.cmd.rule.kind, .slice A2 a.cmd.rule.cols.length k2, .int .i64 a.cmd.rule.low, .int .i64 a.cmd.rule.high, .string a.cmd.rule.schema, .string a.cmd.rule.table, .string a.cmd.rule.key, .int .i64 a.cmd.right, .bool a.cmd.opt, .int .i64 a.ck, .int .i64 a.cn, .int .i64 a.row.kind, .string a.row.role, .string a.row.schema, .string a.row.table, .slice A3 a.row.row.length k3, .string a.row.col, .int .i64 a.row.v.kind, .int .i64 a.row.v.int, .string a.row.v.text] 43)).alloc (.cells #[.string (⟨#[108, 101, 97, 114, 110, 101, 114]⟩ : ByteArray), .string (⟨#[118, 111, 116, 101, 114]⟩ : ByteArray), .string (⟨#[114, 101, 109, 111, 118, 101]⟩ : ByteArray)] 9)).heap.size from by simp)
    have HZ0 := Lib.hid (show (L).length ≤ 40000 from by (try simp only [List.length_append, List.length_cons, List.length_nil, List.length_map]); omega)
    have HZ1 := Lib.hid (show (L ++ [(⟨#[114, 101, 109, 111, 118, 101]⟩ : ByteArray)]).length ≤ 50000 from by (try simp only [List.length_append, List.length_cons, List.length_nil, List.length_map]); omega)
    have HQ1 := Lib.hid q1
    have HS := Lib.hid (show actM a = none from by simp [actM, andL, HK.out, HX.out, b_remove, HQ1.out])
    clear h q1
    go_enter Tryz.func36, Tryz.ntmps36
    go_wp2_with (first
      | (go_at_call 61; (with_reducible refine (lay2 w0 _ b _ _ _ _ H0.out HZ0.out HE0.out).mono ?_); rintro e w1 ⟨rfl, h⟩; have r0b0 := HM0.out _ _ h; have yb0b0 := r0b0.1; have y0b0c1 := r0b0.cell (j := 1) rfl; have y0b0c23 := r0b0.cell (j := 23) rfl; clear r0b0; have H1 := Lib.hid h; clear h)
      | (go_at_call 62; (with_reducible refine (num2 w0 _ b _ _ _ _ _ H1.out HT.out HZ1.out rfl).mono ?_); rintro e w2 h; rw [HQ1.out] at h; obtain ⟨he, h⟩ := h; have H2 := Lib.hid h; clear h; unfold NoL at he; subst he))
    rw [HS.out]
    exact ⟨rfl, rfl, H2.out⟩
  · have H0 := Lib.hid (h.push (.cells #[.int .i64 a.kind, .int .i64 a.node, .int .i64 a.n, .int .i64 a.client, .int .i64 a.number, .int .i64 a.cmd.kind, .string a.cmd.actor, .string a.cmd.schema, .string a.cmd.table, .string a.cmd.name, .string a.cmd.role, .slice A a.cmd.cols.length k, .string a.cmd.rule.name, .int .i64 a.cmd.rule.kind, .slice A2 a.cmd.rule.cols.length k2, .int .i64 a.cmd.rule.low, .int .i64 a.cmd.rule.high, .string a.cmd.rule.schema, .string a.cmd.rule.table, .string a.cmd.rule.key, .int .i64 a.cmd.right, .bool a.cmd.opt, .int .i64 a.ck, .int .i64 a.cn, .int .i64 a.row.kind, .string a.row.role, .string a.row.schema, .string a.row.table, .slice A3 a.row.row.length k3, .string a.row.col, .int .i64 a.row.v.kind, .int .i64 a.row.v.int, .string a.row.v.text] 43))
    have HM0 := Lib.hid (show ∀ L' V, LyS w0 ((w.heap.size, .cells #[.int .i64 a.kind, .int .i64 a.node, .int .i64 a.n, .int .i64 a.client, .int .i64 a.number, .int .i64 a.cmd.kind, .string a.cmd.actor, .string a.cmd.schema, .string a.cmd.table, .string a.cmd.name, .string a.cmd.role, .slice A a.cmd.cols.length k, .string a.cmd.rule.name, .int .i64 a.cmd.rule.kind, .slice A2 a.cmd.rule.cols.length k2, .int .i64 a.cmd.rule.low, .int .i64 a.cmd.rule.high, .string a.cmd.rule.schema, .string a.cmd.rule.table, .string a.cmd.rule.key, .int .i64 a.cmd.right, .bool a.cmd.opt, .int .i64 a.ck, .int .i64 a.cn, .int .i64 a.row.kind, .string a.row.role, .string a.row.schema, .string a.row.table, .slice A3 a.row.row.length k3, .string a.row.col, .int .i64 a.row.v.kind, .int .i64 a.row.v.int, .string a.row.v.text] 43) :: Q) b L' V → RowAt V (w.heap.size) [.int .i64 a.kind, .int .i64 a.node, .int .i64 a.n, .int .i64 a.client, .int .i64 a.number, .int .i64 a.cmd.kind, .string a.cmd.actor, .string a.cmd.schema, .string a.cmd.table, .string a.cmd.name, .string a.cmd.role, .slice A a.cmd.cols.length k, .string a.cmd.rule.name, .int .i64 a.cmd.rule.kind, .slice A2 a.cmd.rule.cols.length k2, .int .i64 a.cmd.rule.low, .int .i64 a.cmd.rule.high, .string a.cmd.rule.schema, .string a.cmd.rule.table, .string a.cmd.rule.key, .int .i64 a.cmd.right, .bool a.cmd.opt, .int .i64 a.ck, .int .i64 a.cn, .int .i64 a.row.kind, .string a.row.role, .string a.row.schema, .string a.row.table, .slice A3 a.row.row.length k3, .string a.row.col, .int .i64 a.row.v.kind, .int .i64 a.row.v.int, .string a.row.v.text] from fun L' V h => h.same List.mem_cons_self)
    have HE0 := Lib.hid (show w.heap.size + 1 = (w.alloc (.cells #[.int .i64 a.kind, .int .i64 a.node, .int .i64 a.n, .int .i64 a.client, .int .i64 a.number, .int .i64 a.cmd.kind, .string a.cmd.actor, .string a.cmd.schema, .string a.cmd.table, .string a.cmd.name, .string a.cmd.role, .slice A a.cmd.cols.length k, .string a.cmd.rule.name, .int .i64 a.cmd.rule.kind, .slice A2 a.cmd.rule.cols.length k2, .int .i64 a.cmd.rule.low, .int .i64 a.cmd.rule.high, .string a.cmd.rule.schema, .string a.cmd.rule.table, .string a.cmd.rule.key, .int .i64 a.cmd.right, .bool a.cmd.opt, .int .i64 a.ck, .int .i64 a.cn, .int .i64 a.row.kind, .string a.row.role, .string a.row.schema, .string a.row.table, .slice A3 a.row.row.length k3, .string a.row.col, .int .i64 a.row.v.kind, .int .i64 a.row.v.int, .string a.row.v.text] 43)).heap.size from by simp)
    have H0 := Lib.hid (H0.out.trans ((Aft.refl _).alloc (.cells #[.string (⟨#[108, 101, 97, 114, 110, 101, 114]⟩ : ByteArray), .string (⟨#[118, 111, 116, 101, 114]⟩ : ByteArray), .string (⟨#[114, 101, 109, 111, 118, 101]⟩ : ByteArray)] 9)))
    have HE0 := Lib.hid (show w.heap.size + 2 = ((w.alloc (.cells #[.int .i64 a.kind, .int .i64 a.node, .int .i64 a.n, .int .i64 a.client, .int .i64 a.number, .int .i64 a.cmd.kind, .string a.cmd.actor, .string a.cmd.schema, .string a.cmd.table, .string a.cmd.name, .string a.cmd.role, .slice A a.cmd.cols.length k, .string a.cmd.rule.name, .int .i64 a.cmd.rule.kind, .slice A2 a.cmd.rule.cols.length k2, .int .i64 a.cmd.rule.low, .int .i64 a.cmd.rule.high, .string a.cmd.rule.schema, .string a.cmd.rule.table, .string a.cmd.rule.key, .int .i64 a.cmd.right, .bool a.cmd.opt, .int .i64 a.ck, .int .i64 a.cn, .int .i64 a.row.kind, .string a.row.role, .string a.row.schema, .string a.row.table, .slice A3 a.row.row.length k3, .string a.row.col, .int .i64 a.row.v.kind, .int .i64 a.row.v.int, .string a.row.v.text] 43)).alloc (.cells #[.string (⟨#[108, 101, 97, 114, 110, 101, 114]⟩ : ByteArray), .string (⟨#[118, 111, 116, 101, 114]⟩ : ByteArray), .string (⟨#[114, 101, 109, 111, 118, 101]⟩ : ByteArray)] 9)).heap.size from by simp)
    have HZ0 := Lib.hid (show (L).length ≤ 40000 from by (try simp only [List.length_append, List.length_cons, List.length_nil, List.length_map]); omega)
    have HZ1 := Lib.hid (show (L ++ [(⟨#[114, 101, 109, 111, 118, 101]⟩ : ByteArray)]).length ≤ 50000 from by (try simp only [List.length_append, List.length_cons, List.length_nil, List.length_map]); omega)
    have HQ1 := Lib.hid q1
    have HS := Lib.hid (show actM a = some ([(⟨#[114, 101, 109, 111, 118, 101]⟩ : ByteArray)] ++ (List.map itoaB [a.node, a.cn])) from by simp [actM, andL, HK.out, HX.out, b_remove, HQ1.out])
    clear h q1
    go_enter Tryz.func36, Tryz.ntmps36
    go_wp2_with (first
      | (go_at_call 61; (with_reducible refine (lay2 w0 _ b _ _ _ _ H0.out HZ0.out HE0.out).mono ?_); rintro e w1 ⟨rfl, h⟩; have r0b0 := HM0.out _ _ h; have yb0b0 := r0b0.1; have y0b0c1 := r0b0.cell (j := 1) rfl; have y0b0c23 := r0b0.cell (j := 23) rfl; clear r0b0; have H1 := Lib.hid h; clear h)
      | (go_at_call 62; (with_reducible refine (num2 w0 _ b _ _ _ _ _ H1.out HT.out HZ1.out rfl).mono ?_); rintro e w2 h; rw [HQ1.out] at h; obtain ⟨rfl, h⟩ := h; have H2 := Lib.hid h; clear h))
    go_end0
    rw [HS.out]
    exact ⟨rfl, LyS.conv (by first | (simp only [List.append_assoc]; rfl) | simp only [List.append_assoc]) H2.out.pop⟩
set_option maxHeartbeats 8000000 in
theorem act_k0 (w0 : World) (Q : List (Nat × Obj)) (b : Nat) (L : Ws) (a : Dact) (A : Option Addr) (k : Nat) (A2 : Option Addr) (k2 : Nat) (A3 : Option Addr) (k3 : Nat) (w : World) (h : LyS w0 Q b L w) (ht : TabW w0) (sm : SmC a.cmd) (so : SmO a.row) (hn : L.length ≤ 10) (hcc : SlAt w0 3 ColR A k a.cmd.cols) (hc : SlAt w0 1 StrR A2 k2 a.cmd.rule.cols) (hv : SlAt w0 3 ValR A3 k3 a.row.row) (hlc : a.cmd.cols.length ≤ 4100) (hl : a.cmd.rule.cols.length ≤ 4100) (hlr : a.row.row.length ≤ 4100) (h1 : a.kind ≠ 1) (h2 : a.kind ≠ 2) (h12 : a.kind ≠ 12) (h3 : a.kind ≠ 3) (h4 : a.kind ≠ 4) (h5 : a.kind ≠ 5) (h6 : a.kind ≠ 6) (h7 : a.kind ≠ 7) (h8 : a.kind ≠ 8) (h9 : a.kind ≠ 9) (h10 : a.kind ≠ 10) (h11 : a.kind ≠ 11) :
    Calls Tryz.prog 36 #[.pointer (some ⟨b, 0, none⟩), .agg #[.int .i64 a.kind, .int .i64 a.node, .int .i64 a.n, .int .i64 a.client, .int .i64 a.number, .int .i64 a.cmd.kind, .string a.cmd.actor, .string a.cmd.schema, .string a.cmd.table, .string a.cmd.name, .string a.cmd.role, .slice A a.cmd.cols.length k, .string a.cmd.rule.name, .int .i64 a.cmd.rule.kind, .slice A2 a.cmd.rule.cols.length k2, .int .i64 a.cmd.rule.low, .int .i64 a.cmd.rule.high, .string a.cmd.rule.schema, .string a.cmd.rule.table, .string a.cmd.rule.key, .int .i64 a.cmd.right, .bool a.cmd.opt, .int .i64 a.ck, .int .i64 a.cn, .int .i64 a.row.kind, .string a.row.role, .string a.row.schema, .string a.row.table, .slice A3 a.row.row.length k3, .string a.row.col, .int .i64 a.row.v.kind, .int .i64 a.row.v.int, .string a.row.v.text]] w (LyQ w0 Q b L (actM a)) := by
  have b1 : (a.kind == 1) = false := by simp [h1]
  have b2 : (a.kind == 2) = false := by simp [h2]
  have b12 : (a.kind == 12) = false := by simp [h12]
  have b3 : (a.kind == 3) = false := by simp [h3]
  have b4 : (a.kind == 4) = false := by simp [h4]
  have b5 : (a.kind == 5) = false := by simp [h5]
  have b6 : (a.kind == 6) = false := by simp [h6]
  have b7 : (a.kind == 7) = false := by simp [h7]
  have b8 : (a.kind == 8) = false := by simp [h8]
  have b9 : (a.kind == 9) = false := by simp [h9]
  have b10 : (a.kind == 10) = false := by simp [h10]
  have b11 : (a.kind == 11) = false := by simp [h11]
  have HS := Lib.hid (show actM a = none from by simp [actM, actL, h1, h2, h12, h3, h4, h5, h6, h7, h8, h9, h10, h11])
  have HA := Lib.hid h.aft
  clear h1 h2 h12 h3 h4 h5 h6 h7 h8 h9 h10 h11 h
  go_enter Tryz.func36, Tryz.ntmps36
  go_wp2_with (first
    | (go_at_call 18; with_reducible refine (dis_no _).mono ?_; rintro e w3 ⟨he, rfl⟩; unfold NoL at he; subst he))
  rw [HS.out]
  exact ⟨rfl, rfl, HA.out.alloc _⟩
theorem act_in (w0 : World) (Q : List (Nat × Obj)) (b : Nat) (L : Ws) (a : Dact) (A : Option Addr) (k : Nat) (A2 : Option Addr) (k2 : Nat) (A3 : Option Addr) (k3 : Nat) (w : World) (h : LyS w0 Q b L w) (ht : TabW w0) (sm : SmC a.cmd) (so : SmO a.row) (hn : L.length ≤ 10) (hcc : SlAt w0 3 ColR A k a.cmd.cols) (hc : SlAt w0 1 StrR A2 k2 a.cmd.rule.cols) (hv : SlAt w0 3 ValR A3 k3 a.row.row) (hlc : a.cmd.cols.length ≤ 4100) (hl : a.cmd.rule.cols.length ≤ 4100) (hlr : a.row.row.length ≤ 4100) (hr1 : -9223372036854775808 ≤ a.ck) (hr2 : a.ck ≤ 9223372036854775807) :
    Calls Tryz.prog 36 #[.pointer (some ⟨b, 0, none⟩), .agg #[.int .i64 a.kind, .int .i64 a.node, .int .i64 a.n, .int .i64 a.client, .int .i64 a.number, .int .i64 a.cmd.kind, .string a.cmd.actor, .string a.cmd.schema, .string a.cmd.table, .string a.cmd.name, .string a.cmd.role, .slice A a.cmd.cols.length k, .string a.cmd.rule.name, .int .i64 a.cmd.rule.kind, .slice A2 a.cmd.rule.cols.length k2, .int .i64 a.cmd.rule.low, .int .i64 a.cmd.rule.high, .string a.cmd.rule.schema, .string a.cmd.rule.table, .string a.cmd.rule.key, .int .i64 a.cmd.right, .bool a.cmd.opt, .int .i64 a.ck, .int .i64 a.cn, .int .i64 a.row.kind, .string a.row.role, .string a.row.schema, .string a.row.table, .slice A3 a.row.row.length k3, .string a.row.col, .int .i64 a.row.v.kind, .int .i64 a.row.v.int, .string a.row.v.text]] w (LyQ w0 Q b L (actM a)) := by
  by_cases h1 : a.kind = 1
  · exact act_k1 w0 Q b L a A k A2 k2 A3 k3 w h ht sm so hn hcc hc hv hlc hl hlr h1
  by_cases h2 : a.kind = 2
  · exact act_k2 w0 Q b L a A k A2 k2 A3 k3 w h ht sm so hn hcc hc hv hlc hl hlr h2
  by_cases h12 : a.kind = 12
  · exact act_k12 w0 Q b L a A k A2 k2 A3 k3 w h ht sm so hn hcc hc hv hlc hl hlr h12
  by_cases h3 : a.kind = 3
  · exact act_k3 w0 Q b L a A k A2 k2 A3 k3 w h ht sm so hn hcc hc hv hlc hl hlr h3
  by_cases h4 : a.kind = 4
  · exact act_k4 w0 Q b L a A k A2 k2 A3 k3 w h ht sm so hn hcc hc hv hlc hl hlr h4
  by_cases h5 : a.kind = 5
  · exact act_k5 w0 Q b L a A k A2 k2 A3 k3 w h ht sm so hn hcc hc hv hlc hl hlr h5
  by_cases h6 : a.kind = 6
  · exact act_k6 w0 Q b L a A k A2 k2 A3 k3 w h ht sm so hn hcc hc hv hlc hl hlr h6
  by_cases h7 : a.kind = 7
  · exact act_k7 w0 Q b L a A k A2 k2 A3 k3 w h ht sm so hn hcc hc hv hlc hl hlr h7
  by_cases h9 : a.kind = 9
  · exact act_k9 w0 Q b L a A k A2 k2 A3 k3 w h ht sm so hn hcc hc hv hlc hl hlr h9
  by_cases h10 : a.kind = 10
  · exact act_k10 w0 Q b L a A k A2 k2 A3 k3 w h ht sm so hn hcc hc hv hlc hl hlr h10
  by_cases h11 : a.kind = 11
  · exact act_k11 w0 Q b L a A k A2 k2 A3 k3 w h ht sm so hn hcc hc hv hlc hl hlr h11
  by_cases h8 : a.kind = 8
  · by_cases c1 : a.ck = -9223372036854775808
    · exact act_k84 w0 Q b L a A k A2 k2 A3 k3 w h ht sm so hn hcc hc hv hlc hl hlr h8 c1 hr1 hr2
    by_cases c2 : a.ck ≤ 1
    · exact act_k81 w0 Q b L a A k A2 k2 A3 k3 w h ht sm so hn hcc hc hv hlc hl hlr h8 c2 c1 hr1 hr2
    by_cases c3 : a.ck = 2
    · exact act_k82 w0 Q b L a A k A2 k2 A3 k3 w h ht sm so hn hcc hc hv hlc hl hlr h8 c3 hr1 hr2
    · exact act_k83 w0 Q b L a A k A2 k2 A3 k3 w h ht sm so hn hcc hc hv hlc hl hlr h8 (by omega) hr1 hr2
  exact act_k0 w0 Q b L a A k A2 k2 A3 k3 w h ht sm so hn hcc hc hv hlc hl hlr h1 h2 h12 h3 h4 h5 h6 h7 h8 h9 h10 h11
end Go.Proofs.YtbdanlipghhgpaaGreatDoor

