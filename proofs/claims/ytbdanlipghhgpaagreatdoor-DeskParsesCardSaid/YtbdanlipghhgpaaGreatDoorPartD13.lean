/- Contracts of the program, part 13. -/
import Derived.Laws.EntriesVeiled
import Derived.WalkKit
import Derived.WalkSpells
import Derived.WalkLawsBesides
import Derived.Laws.Cells
import Derived.Laws.IdiomCopy
import Derived.Test.YtbdanlipghhgpaaGreatDoorRows
import Derived.Lib.Bytealg
import Derived.Lib.Hide
import Derived.ProofKit
import Derived.OpenShut
import Derived.Deep.Slices
import Derived.ChangeOld
import Derived.SizedLaws
import Derived.Deep.QuietTactic
import Derived.BigQuiet
import Derived.Below
import Derived.Deep.Draws
import Derived.StillTailTactics
import Derived.ShutString
import Derived.Lib.Atoi
import Derived.Lib.ItoaNum
import Derived.Lib.Split
import Derived.Lib.SplitLaws
import Derived.Lib.CutLaws
import Derived.Lib.Strings
import Derived.Lib.SlTrimSet
import Derived.Deep.Upon
import Derived.OwnWalk
import Derived.Laws.AppendOwn
import Derived.Shelf.Strings.Builder1
import Derived.Shelf.Strings.Builder2
import Derived.Shelf.Strings.OnBuilder
import Derived.Shelf.Strings.Trim
import Derived.Shelf.Small.Utf8
import Derived.Shelf.Small.Strs
import Derived.Shelf.Small.Wraps
import Derived.Shelf.Strconv.Atoi
import Derived.Shelf.Strconv.Itoa0
import Derived.Shelf.Strconv.Itoa1
import Derived.Shelf.LaysM
import Derived.Shelf.Strconv.Itoa2
import Derived.Shelf.Strconv.Itoa3
import Derived.Shelf.Strings.Search1
import Derived.Shelf.Strings.Search2
import Derived.Shelf.Strings.Search3
import Derived.Shelf.Strings.Cut
import Derived.Shelf.Strings.Count
import Derived.Shelf.Strings.Shaped
import Derived.Shelf.Strings.Prefix
import Derived.Shelf.Strings.Split
import Derived.Shelf.Strings.Runes
import Derived.Shelf.Strings.AsciiSet
import Derived.Shelf.Unicode.DecodeSlow
import Derived.Shelf.Slices.Equal
import Derived.Shelf.Slices.Empties2
import Derived.Shelf.Strings.SlTrimAscii
import Derived.Test.YtbdanlipghhgpaaGreatDoorProg
import Derived.Deep.AppendLies
import Derived.Recover
import Derived.Defers
import Derived.Deep.Cut
import Derived.Lib.CountLaws
import Derived.Deep.RegionLaw
import Derived.RegionDies
import Derived.Test.YtbdanlipghhgpaaGreatDoorPartD1
import Derived.Test.YtbdanlipghhgpaaGreatDoorPartD2
import Derived.Test.YtbdanlipghhgpaaGreatDoorPartD3
import Derived.Test.YtbdanlipghhgpaaGreatDoorPartD4
import Derived.Test.YtbdanlipghhgpaaGreatDoorPartD5
import Derived.Test.YtbdanlipghhgpaaGreatDoorPartD6
import Derived.Test.YtbdanlipghhgpaaGreatDoorPartD7
import Derived.Test.YtbdanlipghhgpaaGreatDoorPartD8
import Derived.Test.YtbdanlipghhgpaaGreatDoorPartD9
import Derived.Test.YtbdanlipghhgpaaGreatDoorPartD10
import Derived.Test.YtbdanlipghhgpaaGreatDoorPartD11
import Derived.Test.YtbdanlipghhgpaaGreatDoorPartD12
namespace Go.Proofs.YtbdanlipghhgpaaGreatDoor
open Go.RowKit Go.Deep
set_option maxRecDepth 100000
set_option linter.unusedVariables false
theorem lmore_at {b p : Nat} {W : Ws} {d m : Bool} (h : moreD W d = m) : ∀ V, LnS V b p W d → Calls Tryz.prog 54 #[.pointer (some ⟨b, 0, none⟩)] V fun e w' => e = .returned (.bool m) ∧ V = w' := fun V hl => h ▸ more_dn b p W d V hl
theorem more_word {W W1 : Ws} {d d1 : Bool} {f : ByteArray} (hm : moreD W d = true) (hq : wordD W d = (f, W1, d1)) : d1 = false := by
  cases W with
  | nil => simp [moreD] at hm
  | cons s W =>
    cases d with
    | true => simp [moreD] at hm
    | false => cases hq; rfl

set_option maxHeartbeats 2000000 in
theorem commandN_15_read_end_false (f : ByteArray) (W : Ws) (d : Bool) (W0 : Ws) (q0 : wordD W d = (f, W0, false)) (hk : kindB f = 15) (s1 : ByteArray) (W1 : Ws) (d1 : Bool) (q1 : nameD W0 false = (s1, W1, d1)) (s2 : ByteArray) (W2 : Ws) (d2 : Bool) (q2 : nameD W1 d1 = (s2, W2, d2)) (s3 : ByteArray) (W3 : Ws) (d3 : Bool) (q3 : nameD W2 d2 = (s3, W3, d3)) (f4 : ByteArray) (W4 : Ws) (d4 : Bool) (q4 : wordD W3 d3 = (f4, W4, d4)) (hr : eqS f4 b_read = true) (b p : Nat) (w : World) (hl : LnS w b p W d) (s5 : ByteArray) (W5 : Ws) (d5 : Bool) (q5 : nameD W4 d4 = (s5, W5, d5)) : Calls Tryz.prog 34 #[.pointer (some ⟨b, 0, none⟩)] w (RdN b p w (CmdN b w.heap.size) (cmdD W d)) := by
  have H0 := Lib.hid (lword_at (b := b) (p := p) q0)
  have HK := Lib.hid (lkind_at hk)
  have qk := one_kind q0 hk
  have HX0 := Lib.hid (Nr.start hl [.int .i64 0, .string ⟨#[]⟩, .string ⟨#[]⟩, .string ⟨#[]⟩, .string ⟨#[]⟩, .string ⟨#[]⟩, .slice none 0 0, .string ⟨#[]⟩, .int .i64 0, .slice none 0 0, .int .i64 0, .int .i64 0, .string ⟨#[]⟩, .string ⟨#[]⟩, .string ⟨#[]⟩, .int .i64 0, .bool false] 31)
  have hb := hl.lt
  have HB := Lib.hid hb
  have qk : oneD (fun s => (s, kindB s != 0)) W d = (f, W0, false) := qk
  have qr : oneD rightV W3 d3 = (1, W4, d4) := by rw [one_word, q4]; simp [rightV, hr]
  have e : cmdD W d = ({ zCmd with kind := 15, actor := s1, schema := s2, table := s3, right := 1, role := s5 }, W5, d5) := by
    unfold cmdD
    rw [qk]
    simp [bindD, hk, tailD, grantD, q1, q2, q3, qr, q5]
  rw [e]
  have H1 := Lib.hid (lname_at (b := b) (p := p) q1)
  have H2 := Lib.hid (lname_at (b := b) (p := p) q2)
  have H3 := Lib.hid (lname_at (b := b) (p := p) q3)
  have H5 := Lib.hid (lname_at (b := b) (p := p) q5)
  have H4 := Lib.hid (lword_at (b := b) (p := p) q4)
  have ihr := eqS_as hr
  unfold b_read at ihr
  simp only at ihr
  clear e hl qk q0 hk q1 q2 q3 q4 q5 qr hr
  go_enter Tryz.func34, Tryz.ntmps34
  go_wp2_with (first
    | (go_at_call 32; with_reducible refine (H0.out _ HX0.out.ds).mono ?_; rintro e w0 ⟨rfl, g0, l0, k0⟩; have X0 := HX0.out.call k0 l0; have y1 := l0.c1; have y2 := l0.f1; have y3 := l0.lt; have X1 := X0.boxBad false [.int .i64 15, .string ⟨#[]⟩, .string ⟨#[]⟩, .string ⟨#[]⟩, .string ⟨#[]⟩, .string ⟨#[]⟩, .slice none 0 0, .string ⟨#[]⟩, .int .i64 0, .slice none 0 0, .int .i64 0, .int .i64 0, .string ⟨#[]⟩, .string ⟨#[]⟩, .string ⟨#[]⟩, .int .i64 0, .bool false] 31; have z0 := X1.lt; obtain ⟨z00, z01, z02⟩ := z0; have X0s := Lib.hid X1; clear l0 k0 X0 X1)
    | (go_at_call 56; with_reducible refine (HK.out _).mono ?_; rintro e wk ⟨rfl, rfl⟩)
    | (go_at_call 57; with_reducible refine (H1.out _ X0s.out.nr.ds).mono ?_; rintro e w1 ⟨rfl, g1, m1, k1⟩; have X1 := X0s.out.call k1 m1; obtain ⟨ca1, fa1⟩ := X1.cf 1 (by simp); obtain ⟨cb1, fb1⟩ := X1.cf 0 (by simp); have z1 := X1.lt; obtain ⟨z10, z11, z12⟩ := z1; have X1s : Nx b p w.heap.size w0.heap.size w _ _ _ [.int .i64 0, .string ⟨#[]⟩, .string ⟨#[]⟩, .string ⟨#[]⟩, .string ⟨#[]⟩, .string ⟨#[]⟩, .slice none 0 0, .string ⟨#[]⟩, .int .i64 0, .slice none 0 0, .int .i64 0, .int .i64 0, .string ⟨#[]⟩, .string ⟨#[]⟩, .string ⟨#[]⟩, .int .i64 0, .bool false] [.int .i64 15, .string s1, .string ⟨#[]⟩, .string ⟨#[]⟩, .string ⟨#[]⟩, .string ⟨#[]⟩, .slice none 0 0, .string ⟨#[]⟩, .int .i64 0, .slice none 0 0, .int .i64 0, .int .i64 0, .string ⟨#[]⟩, .string ⟨#[]⟩, .string ⟨#[]⟩, .int .i64 0, .bool false] := X1.set 1 (.string s1) (by simp); have X1s := Lib.hid X1s; clear m1 k1 X1)
    | (go_at_call 57; with_reducible refine (H2.out _ X1s.out.nr.ds).mono ?_; rintro e w2 ⟨rfl, g2, m2, k2⟩; have X2 := X1s.out.call k2 m2; obtain ⟨ca2, fa2⟩ := X2.cf 2 (by simp); obtain ⟨cb2, fb2⟩ := X2.cf 0 (by simp); have z2 := X2.lt; obtain ⟨z20, z21, z22⟩ := z2; have X2s : Nx b p w.heap.size w0.heap.size w _ _ _ [.int .i64 0, .string ⟨#[]⟩, .string ⟨#[]⟩, .string ⟨#[]⟩, .string ⟨#[]⟩, .string ⟨#[]⟩, .slice none 0 0, .string ⟨#[]⟩, .int .i64 0, .slice none 0 0, .int .i64 0, .int .i64 0, .string ⟨#[]⟩, .string ⟨#[]⟩, .string ⟨#[]⟩, .int .i64 0, .bool false] [.int .i64 15, .string s1, .string s2, .string ⟨#[]⟩, .string ⟨#[]⟩, .string ⟨#[]⟩, .slice none 0 0, .string ⟨#[]⟩, .int .i64 0, .slice none 0 0, .int .i64 0, .int .i64 0, .string ⟨#[]⟩, .string ⟨#[]⟩, .string ⟨#[]⟩, .int .i64 0, .bool false] := X2.set 2 (.string s2) (by simp); have X2s := Lib.hid X2s; clear m2 k2 X2)
    | (go_at_call 57; with_reducible refine (H3.out _ X2s.out.nr.ds).mono ?_; rintro e w3 ⟨rfl, g3, m3, k3⟩; have X3 := X2s.out.call k3 m3; obtain ⟨ca3, fa3⟩ := X3.cf 3 (by simp); obtain ⟨cb3, fb3⟩ := X3.cf 0 (by simp); have z3 := X3.lt; obtain ⟨z30, z31, z32⟩ := z3; have X3s : Nx b p w.heap.size w0.heap.size w _ _ _ [.int .i64 0, .string ⟨#[]⟩, .string ⟨#[]⟩, .string ⟨#[]⟩, .string ⟨#[]⟩, .string ⟨#[]⟩, .slice none 0 0, .string ⟨#[]⟩, .int .i64 0, .slice none 0 0, .int .i64 0, .int .i64 0, .string ⟨#[]⟩, .string ⟨#[]⟩, .string ⟨#[]⟩, .int .i64 0, .bool false] [.int .i64 15, .string s1, .string s2, .string s3, .string ⟨#[]⟩, .string ⟨#[]⟩, .slice none 0 0, .string ⟨#[]⟩, .int .i64 0, .slice none 0 0, .int .i64 0, .int .i64 0, .string ⟨#[]⟩, .string ⟨#[]⟩, .string ⟨#[]⟩, .int .i64 0, .bool false] := X3.set 3 (.string s3) (by simp); have X3s := Lib.hid X3s; clear m3 k3 X3)
    | (go_at_call 32; with_reducible refine (H4.out _ X3s.out.nr.ds).mono ?_; rintro e w4 ⟨rfl, g4, m4, k4⟩; have X4 := X3s.out.call k4 m4; obtain ⟨ca4, fa4⟩ := X4.cf 15 (by simp); have z4 := X4.lt; obtain ⟨z40, z41, z42⟩ := z4; have X4s : Nx b p w.heap.size w0.heap.size w _ _ _ [.int .i64 0, .string ⟨#[]⟩, .string ⟨#[]⟩, .string ⟨#[]⟩, .string ⟨#[]⟩, .string ⟨#[]⟩, .slice none 0 0, .string ⟨#[]⟩, .int .i64 0, .slice none 0 0, .int .i64 0, .int .i64 0, .string ⟨#[]⟩, .string ⟨#[]⟩, .string ⟨#[]⟩, .int .i64 0, .bool false] [.int .i64 15, .string s1, .string s2, .string s3, .string ⟨#[]⟩, .string ⟨#[]⟩, .slice none 0 0, .string ⟨#[]⟩, .int .i64 0, .slice none 0 0, .int .i64 0, .int .i64 0, .string ⟨#[]⟩, .string ⟨#[]⟩, .string ⟨#[]⟩, .int .i64 1, .bool false] := X4.set 15 (.int .i64 1) (by simp); have X4s := Lib.hid X4s; clear m4 k4 X4)
    | (go_at_call 57; with_reducible refine (H5.out _ X4s.out.nr.ds).mono ?_; rintro e w5 ⟨rfl, g5, m5, k5⟩; have X5 := X4s.out.call k5 m5; obtain ⟨ca5, fa5⟩ := X5.cf 5 (by simp); obtain ⟨cb5, fb5⟩ := X5.cf 0 (by simp); have z5 := X5.lt; obtain ⟨z50, z51, z52⟩ := z5; have X5s : Nx b p w.heap.size w0.heap.size w _ _ _ [.int .i64 0, .string ⟨#[]⟩, .string ⟨#[]⟩, .string ⟨#[]⟩, .string ⟨#[]⟩, .string ⟨#[]⟩, .slice none 0 0, .string ⟨#[]⟩, .int .i64 0, .slice none 0 0, .int .i64 0, .int .i64 0, .string ⟨#[]⟩, .string ⟨#[]⟩, .string ⟨#[]⟩, .int .i64 0, .bool false] [.int .i64 15, .string s1, .string s2, .string s3, .string ⟨#[]⟩, .string s5, .slice none 0 0, .string ⟨#[]⟩, .int .i64 0, .slice none 0 0, .int .i64 0, .int .i64 0, .string ⟨#[]⟩, .string ⟨#[]⟩, .string ⟨#[]⟩, .int .i64 1, .bool false] := X5.set 5 (.string s5) (by simp); have X5s := Lib.hid X5s; have e1 := lvCmd_row X5s.out.row rfl; have e2 := svCmd_row X5s.out.nr.res rfl rfl (vs := [.int .i64 15, .string s1, .string s2, .string s3, .string ⟨#[]⟩, .string s5, .slice none 0 0, .string ⟨#[]⟩, .int .i64 0, .slice none 0 0, .int .i64 0, .int .i64 0, .string ⟨#[]⟩, .string ⟨#[]⟩, .string ⟨#[]⟩, .int .i64 1, .bool false]) (by simp [Value.oneCell']); clear m5 k5 X5))
  have XR := X5s.out.nr.sets (cs := [.int .i64 15, .string s1, .string s2, .string s3, .string ⟨#[]⟩, .string s5, .slice none 0 0, .string ⟨#[]⟩, .int .i64 0, .slice none 0 0, .int .i64 0, .int .i64 0, .string ⟨#[]⟩, .string ⟨#[]⟩, .string ⟨#[]⟩, .int .i64 1, .bool false]) rfl
  refine bodyPost_ret (results_cell rfl _ rfl (lv_row (T := 31) Tryz.underlying31 (by kernel_rfl) XR.res rfl)) rfl ?_
  exact ⟨XR.kw, _, rfl, ⟨none, 0, none, 0, rfl, colsN_nil _ _ _ HB.out, namesN_nil _ _ _ HB.out, g1, g2, g3, szZ, g5, szZ, szZ, szZ, szZ⟩, XR.ds⟩
set_option maxHeartbeats 2000000 in
theorem commandN_15_read_end_true (f : ByteArray) (W : Ws) (d : Bool) (W0 : Ws) (q0 : wordD W d = (f, W0, true)) (hk : kindB f = 15) (s1 : ByteArray) (W1 : Ws) (d1 : Bool) (q1 : nameD W0 true = (s1, W1, d1)) (s2 : ByteArray) (W2 : Ws) (d2 : Bool) (q2 : nameD W1 d1 = (s2, W2, d2)) (s3 : ByteArray) (W3 : Ws) (d3 : Bool) (q3 : nameD W2 d2 = (s3, W3, d3)) (f4 : ByteArray) (W4 : Ws) (d4 : Bool) (q4 : wordD W3 d3 = (f4, W4, d4)) (hr : eqS f4 b_read = true) (b p : Nat) (w : World) (hl : LnS w b p W d) (s5 : ByteArray) (W5 : Ws) (d5 : Bool) (q5 : nameD W4 d4 = (s5, W5, d5)) : Calls Tryz.prog 34 #[.pointer (some ⟨b, 0, none⟩)] w (RdN b p w (CmdN b w.heap.size) (cmdD W d)) := by
  have H0 := Lib.hid (lword_at (b := b) (p := p) q0)
  have HK := Lib.hid (lkind_at hk)
  have qk := one_kind q0 hk
  have HX0 := Lib.hid (Nr.start hl [.int .i64 0, .string ⟨#[]⟩, .string ⟨#[]⟩, .string ⟨#[]⟩, .string ⟨#[]⟩, .string ⟨#[]⟩, .slice none 0 0, .string ⟨#[]⟩, .int .i64 0, .slice none 0 0, .int .i64 0, .int .i64 0, .string ⟨#[]⟩, .string ⟨#[]⟩, .string ⟨#[]⟩, .int .i64 0, .bool false] 31)
  have hb := hl.lt
  have HB := Lib.hid hb
  have qk : oneD (fun s => (s, kindB s != 0)) W d = (f, W0, true) := qk
  have qr : oneD rightV W3 d3 = (1, W4, d4) := by rw [one_word, q4]; simp [rightV, hr]
  have e : cmdD W d = ({ zCmd with kind := 15, actor := s1, schema := s2, table := s3, right := 1, role := s5 }, W5, d5) := by
    unfold cmdD
    rw [qk]
    simp [bindD, hk, tailD, grantD, q1, q2, q3, qr, q5]
  rw [e]
  have H1 := Lib.hid (lname_at (b := b) (p := p) q1)
  have H2 := Lib.hid (lname_at (b := b) (p := p) q2)
  have H3 := Lib.hid (lname_at (b := b) (p := p) q3)
  have H5 := Lib.hid (lname_at (b := b) (p := p) q5)
  have H4 := Lib.hid (lword_at (b := b) (p := p) q4)
  have ihr := eqS_as hr
  unfold b_read at ihr
  simp only at ihr
  clear e hl qk q0 hk q1 q2 q3 q4 q5 qr hr
  go_enter Tryz.func34, Tryz.ntmps34
  go_wp2_with (first
    | (go_at_call 32; with_reducible refine (H0.out _ HX0.out.ds).mono ?_; rintro e w0 ⟨rfl, g0, l0, k0⟩; have X0 := HX0.out.call k0 l0; have y1 := l0.c1; have y2 := l0.f1; have y3 := l0.lt; have X1 := X0.boxBad true [.int .i64 15, .string ⟨#[]⟩, .string ⟨#[]⟩, .string ⟨#[]⟩, .string ⟨#[]⟩, .string ⟨#[]⟩, .slice none 0 0, .string ⟨#[]⟩, .int .i64 0, .slice none 0 0, .int .i64 0, .int .i64 0, .string ⟨#[]⟩, .string ⟨#[]⟩, .string ⟨#[]⟩, .int .i64 0, .bool false] 31; have z0 := X1.lt; obtain ⟨z00, z01, z02⟩ := z0; have X0s := Lib.hid X1; clear l0 k0 X0 X1)
    | (go_at_call 56; with_reducible refine (HK.out _).mono ?_; rintro e wk ⟨rfl, rfl⟩)
    | (go_at_call 57; with_reducible refine (H1.out _ X0s.out.nr.ds).mono ?_; rintro e w1 ⟨rfl, g1, m1, k1⟩; have X1 := X0s.out.call k1 m1; obtain ⟨ca1, fa1⟩ := X1.cf 1 (by simp); obtain ⟨cb1, fb1⟩ := X1.cf 0 (by simp); have z1 := X1.lt; obtain ⟨z10, z11, z12⟩ := z1; have X1s : Nx b p w.heap.size w0.heap.size w _ _ _ [.int .i64 0, .string ⟨#[]⟩, .string ⟨#[]⟩, .string ⟨#[]⟩, .string ⟨#[]⟩, .string ⟨#[]⟩, .slice none 0 0, .string ⟨#[]⟩, .int .i64 0, .slice none 0 0, .int .i64 0, .int .i64 0, .string ⟨#[]⟩, .string ⟨#[]⟩, .string ⟨#[]⟩, .int .i64 0, .bool false] [.int .i64 15, .string s1, .string ⟨#[]⟩, .string ⟨#[]⟩, .string ⟨#[]⟩, .string ⟨#[]⟩, .slice none 0 0, .string ⟨#[]⟩, .int .i64 0, .slice none 0 0, .int .i64 0, .int .i64 0, .string ⟨#[]⟩, .string ⟨#[]⟩, .string ⟨#[]⟩, .int .i64 0, .bool false] := X1.set 1 (.string s1) (by simp); have X1s := Lib.hid X1s; clear m1 k1 X1)
    | (go_at_call 57; with_reducible refine (H2.out _ X1s.out.nr.ds).mono ?_; rintro e w2 ⟨rfl, g2, m2, k2⟩; have X2 := X1s.out.call k2 m2; obtain ⟨ca2, fa2⟩ := X2.cf 2 (by simp); obtain ⟨cb2, fb2⟩ := X2.cf 0 (by simp); have z2 := X2.lt; obtain ⟨z20, z21, z22⟩ := z2; have X2s : Nx b p w.heap.size w0.heap.size w _ _ _ [.int .i64 0, .string ⟨#[]⟩, .string ⟨#[]⟩, .string ⟨#[]⟩, .string ⟨#[]⟩, .string ⟨#[]⟩, .slice none 0 0, .string ⟨#[]⟩, .int .i64 0, .slice none 0 0, .int .i64 0, .int .i64 0, .string ⟨#[]⟩, .string ⟨#[]⟩, .string ⟨#[]⟩, .int .i64 0, .bool false] [.int .i64 15, .string s1, .string s2, .string ⟨#[]⟩, .string ⟨#[]⟩, .string ⟨#[]⟩, .slice none 0 0, .string ⟨#[]⟩, .int .i64 0, .slice none 0 0, .int .i64 0, .int .i64 0, .string ⟨#[]⟩, .string ⟨#[]⟩, .string ⟨#[]⟩, .int .i64 0, .bool false] := X2.set 2 (.string s2) (by simp); have X2s := Lib.hid X2s; clear m2 k2 X2)
    | (go_at_call 57; with_reducible refine (H3.out _ X2s.out.nr.ds).mono ?_; rintro e w3 ⟨rfl, g3, m3, k3⟩; have X3 := X2s.out.call k3 m3; obtain ⟨ca3, fa3⟩ := X3.cf 3 (by simp); obtain ⟨cb3, fb3⟩ := X3.cf 0 (by simp); have z3 := X3.lt; obtain ⟨z30, z31, z32⟩ := z3; have X3s : Nx b p w.heap.size w0.heap.size w _ _ _ [.int .i64 0, .string ⟨#[]⟩, .string ⟨#[]⟩, .string ⟨#[]⟩, .string ⟨#[]⟩, .string ⟨#[]⟩, .slice none 0 0, .string ⟨#[]⟩, .int .i64 0, .slice none 0 0, .int .i64 0, .int .i64 0, .string ⟨#[]⟩, .string ⟨#[]⟩, .string ⟨#[]⟩, .int .i64 0, .bool false] [.int .i64 15, .string s1, .string s2, .string s3, .string ⟨#[]⟩, .string ⟨#[]⟩, .slice none 0 0, .string ⟨#[]⟩, .int .i64 0, .slice none 0 0, .int .i64 0, .int .i64 0, .string ⟨#[]⟩, .string ⟨#[]⟩, .string ⟨#[]⟩, .int .i64 0, .bool false] := X3.set 3 (.string s3) (by simp); have X3s := Lib.hid X3s; clear m3 k3 X3)
    | (go_at_call 32; with_reducible refine (H4.out _ X3s.out.nr.ds).mono ?_; rintro e w4 ⟨rfl, g4, m4, k4⟩; have X4 := X3s.out.call k4 m4; obtain ⟨ca4, fa4⟩ := X4.cf 15 (by simp); have z4 := X4.lt; obtain ⟨z40, z41, z42⟩ := z4; have X4s : Nx b p w.heap.size w0.heap.size w _ _ _ [.int .i64 0, .string ⟨#[]⟩, .string ⟨#[]⟩, .string ⟨#[]⟩, .string ⟨#[]⟩, .string ⟨#[]⟩, .slice none 0 0, .string ⟨#[]⟩, .int .i64 0, .slice none 0 0, .int .i64 0, .int .i64 0, .string ⟨#[]⟩, .string ⟨#[]⟩, .string ⟨#[]⟩, .int .i64 0, .bool false] [.int .i64 15, .string s1, .string s2, .string s3, .string ⟨#[]⟩, .string ⟨#[]⟩, .slice none 0 0, .string ⟨#[]⟩, .int .i64 0, .slice none 0 0, .int .i64 0, .int .i64 0, .string ⟨#[]⟩, .string ⟨#[]⟩, .string ⟨#[]⟩, .int .i64 1, .bool false] := X4.set 15 (.int .i64 1) (by simp); have X4s := Lib.hid X4s; clear m4 k4 X4)
    | (go_at_call 57; with_reducible refine (H5.out _ X4s.out.nr.ds).mono ?_; rintro e w5 ⟨rfl, g5, m5, k5⟩; have X5 := X4s.out.call k5 m5; obtain ⟨ca5, fa5⟩ := X5.cf 5 (by simp); obtain ⟨cb5, fb5⟩ := X5.cf 0 (by simp); have z5 := X5.lt; obtain ⟨z50, z51, z52⟩ := z5; have X5s : Nx b p w.heap.size w0.heap.size w _ _ _ [.int .i64 0, .string ⟨#[]⟩, .string ⟨#[]⟩, .string ⟨#[]⟩, .string ⟨#[]⟩, .string ⟨#[]⟩, .slice none 0 0, .string ⟨#[]⟩, .int .i64 0, .slice none 0 0, .int .i64 0, .int .i64 0, .string ⟨#[]⟩, .string ⟨#[]⟩, .string ⟨#[]⟩, .int .i64 0, .bool false] [.int .i64 15, .string s1, .string s2, .string s3, .string ⟨#[]⟩, .string s5, .slice none 0 0, .string ⟨#[]⟩, .int .i64 0, .slice none 0 0, .int .i64 0, .int .i64 0, .string ⟨#[]⟩, .string ⟨#[]⟩, .string ⟨#[]⟩, .int .i64 1, .bool false] := X5.set 5 (.string s5) (by simp); have X5s := Lib.hid X5s; have e1 := lvCmd_row X5s.out.row rfl; have e2 := svCmd_row X5s.out.nr.res rfl rfl (vs := [.int .i64 15, .string s1, .string s2, .string s3, .string ⟨#[]⟩, .string s5, .slice none 0 0, .string ⟨#[]⟩, .int .i64 0, .slice none 0 0, .int .i64 0, .int .i64 0, .string ⟨#[]⟩, .string ⟨#[]⟩, .string ⟨#[]⟩, .int .i64 1, .bool false]) (by simp [Value.oneCell']); clear m5 k5 X5))
  have XR := X5s.out.nr.sets (cs := [.int .i64 15, .string s1, .string s2, .string s3, .string ⟨#[]⟩, .string s5, .slice none 0 0, .string ⟨#[]⟩, .int .i64 0, .slice none 0 0, .int .i64 0, .int .i64 0, .string ⟨#[]⟩, .string ⟨#[]⟩, .string ⟨#[]⟩, .int .i64 1, .bool false]) rfl
  refine bodyPost_ret (results_cell rfl _ rfl (lv_row (T := 31) Tryz.underlying31 (by kernel_rfl) XR.res rfl)) rfl ?_
  exact ⟨XR.kw, _, rfl, ⟨none, 0, none, 0, rfl, colsN_nil _ _ _ HB.out, namesN_nil _ _ _ HB.out, g1, g2, g3, szZ, g5, szZ, szZ, szZ, szZ⟩, XR.ds⟩
set_option maxHeartbeats 2000000 in
theorem commandN_15_write_end_false (f : ByteArray) (W : Ws) (d : Bool) (W0 : Ws) (q0 : wordD W d = (f, W0, false)) (hk : kindB f = 15) (s1 : ByteArray) (W1 : Ws) (d1 : Bool) (q1 : nameD W0 false = (s1, W1, d1)) (s2 : ByteArray) (W2 : Ws) (d2 : Bool) (q2 : nameD W1 d1 = (s2, W2, d2)) (s3 : ByteArray) (W3 : Ws) (d3 : Bool) (q3 : nameD W2 d2 = (s3, W3, d3)) (f4 : ByteArray) (W4 : Ws) (d4 : Bool) (q4 : wordD W3 d3 = (f4, W4, d4)) (hr0 : eqS f4 b_read = false) (hr : eqS f4 b_write = true) (b p : Nat) (w : World) (hl : LnS w b p W d) (s5 : ByteArray) (W5 : Ws) (d5 : Bool) (q5 : nameD W4 d4 = (s5, W5, d5)) : Calls Tryz.prog 34 #[.pointer (some ⟨b, 0, none⟩)] w (RdN b p w (CmdN b w.heap.size) (cmdD W d)) := by
  have H0 := Lib.hid (lword_at (b := b) (p := p) q0)
  have HK := Lib.hid (lkind_at hk)
  have qk := one_kind q0 hk
  have HX0 := Lib.hid (Nr.start hl [.int .i64 0, .string ⟨#[]⟩, .string ⟨#[]⟩, .string ⟨#[]⟩, .string ⟨#[]⟩, .string ⟨#[]⟩, .slice none 0 0, .string ⟨#[]⟩, .int .i64 0, .slice none 0 0, .int .i64 0, .int .i64 0, .string ⟨#[]⟩, .string ⟨#[]⟩, .string ⟨#[]⟩, .int .i64 0, .bool false] 31)
  have hb := hl.lt
  have HB := Lib.hid hb
  have qk : oneD (fun s => (s, kindB s != 0)) W d = (f, W0, false) := qk
  have qr : oneD rightV W3 d3 = (2, W4, d4) := by rw [one_word, q4]; simp [rightV, hr0, hr]
  have e : cmdD W d = ({ zCmd with kind := 15, actor := s1, schema := s2, table := s3, right := 2, role := s5 }, W5, d5) := by
    unfold cmdD
    rw [qk]
    simp [bindD, hk, tailD, grantD, q1, q2, q3, qr, q5]
  rw [e]
  have H1 := Lib.hid (lname_at (b := b) (p := p) q1)
  have H2 := Lib.hid (lname_at (b := b) (p := p) q2)
  have H3 := Lib.hid (lname_at (b := b) (p := p) q3)
  have H5 := Lib.hid (lname_at (b := b) (p := p) q5)
  have H4 := Lib.hid (lword_at (b := b) (p := p) q4)
  have ihr0 := eqS_as hr0
  unfold b_read at ihr0
  simp only at ihr0
  have ihr := eqS_as hr
  unfold b_write at ihr
  simp only at ihr
  clear e hl qk q0 hk q1 q2 q3 q4 q5 qr hr0 hr
  go_enter Tryz.func34, Tryz.ntmps34
  go_wp2_with (first
    | (go_at_call 32; with_reducible refine (H0.out _ HX0.out.ds).mono ?_; rintro e w0 ⟨rfl, g0, l0, k0⟩; have X0 := HX0.out.call k0 l0; have y1 := l0.c1; have y2 := l0.f1; have y3 := l0.lt; have X1 := X0.boxBad false [.int .i64 15, .string ⟨#[]⟩, .string ⟨#[]⟩, .string ⟨#[]⟩, .string ⟨#[]⟩, .string ⟨#[]⟩, .slice none 0 0, .string ⟨#[]⟩, .int .i64 0, .slice none 0 0, .int .i64 0, .int .i64 0, .string ⟨#[]⟩, .string ⟨#[]⟩, .string ⟨#[]⟩, .int .i64 0, .bool false] 31; have z0 := X1.lt; obtain ⟨z00, z01, z02⟩ := z0; have X0s := Lib.hid X1; clear l0 k0 X0 X1)
    | (go_at_call 56; with_reducible refine (HK.out _).mono ?_; rintro e wk ⟨rfl, rfl⟩)
    | (go_at_call 57; with_reducible refine (H1.out _ X0s.out.nr.ds).mono ?_; rintro e w1 ⟨rfl, g1, m1, k1⟩; have X1 := X0s.out.call k1 m1; obtain ⟨ca1, fa1⟩ := X1.cf 1 (by simp); obtain ⟨cb1, fb1⟩ := X1.cf 0 (by simp); have z1 := X1.lt; obtain ⟨z10, z11, z12⟩ := z1; have X1s : Nx b p w.heap.size w0.heap.size w _ _ _ [.int .i64 0, .string ⟨#[]⟩, .string ⟨#[]⟩, .string ⟨#[]⟩, .string ⟨#[]⟩, .string ⟨#[]⟩, .slice none 0 0, .string ⟨#[]⟩, .int .i64 0, .slice none 0 0, .int .i64 0, .int .i64 0, .string ⟨#[]⟩, .string ⟨#[]⟩, .string ⟨#[]⟩, .int .i64 0, .bool false] [.int .i64 15, .string s1, .string ⟨#[]⟩, .string ⟨#[]⟩, .string ⟨#[]⟩, .string ⟨#[]⟩, .slice none 0 0, .string ⟨#[]⟩, .int .i64 0, .slice none 0 0, .int .i64 0, .int .i64 0, .string ⟨#[]⟩, .string ⟨#[]⟩, .string ⟨#[]⟩, .int .i64 0, .bool false] := X1.set 1 (.string s1) (by simp); have X1s := Lib.hid X1s; clear m1 k1 X1)
    | (go_at_call 57; with_reducible refine (H2.out _ X1s.out.nr.ds).mono ?_; rintro e w2 ⟨rfl, g2, m2, k2⟩; have X2 := X1s.out.call k2 m2; obtain ⟨ca2, fa2⟩ := X2.cf 2 (by simp); obtain ⟨cb2, fb2⟩ := X2.cf 0 (by simp); have z2 := X2.lt; obtain ⟨z20, z21, z22⟩ := z2; have X2s : Nx b p w.heap.size w0.heap.size w _ _ _ [.int .i64 0, .string ⟨#[]⟩, .string ⟨#[]⟩, .string ⟨#[]⟩, .string ⟨#[]⟩, .string ⟨#[]⟩, .slice none 0 0, .string ⟨#[]⟩, .int .i64 0, .slice none 0 0, .int .i64 0, .int .i64 0, .string ⟨#[]⟩, .string ⟨#[]⟩, .string ⟨#[]⟩, .int .i64 0, .bool false] [.int .i64 15, .string s1, .string s2, .string ⟨#[]⟩, .string ⟨#[]⟩, .string ⟨#[]⟩, .slice none 0 0, .string ⟨#[]⟩, .int .i64 0, .slice none 0 0, .int .i64 0, .int .i64 0, .string ⟨#[]⟩, .string ⟨#[]⟩, .string ⟨#[]⟩, .int .i64 0, .bool false] := X2.set 2 (.string s2) (by simp); have X2s := Lib.hid X2s; clear m2 k2 X2)
    | (go_at_call 57; with_reducible refine (H3.out _ X2s.out.nr.ds).mono ?_; rintro e w3 ⟨rfl, g3, m3, k3⟩; have X3 := X2s.out.call k3 m3; obtain ⟨ca3, fa3⟩ := X3.cf 3 (by simp); obtain ⟨cb3, fb3⟩ := X3.cf 0 (by simp); have z3 := X3.lt; obtain ⟨z30, z31, z32⟩ := z3; have X3s : Nx b p w.heap.size w0.heap.size w _ _ _ [.int .i64 0, .string ⟨#[]⟩, .string ⟨#[]⟩, .string ⟨#[]⟩, .string ⟨#[]⟩, .string ⟨#[]⟩, .slice none 0 0, .string ⟨#[]⟩, .int .i64 0, .slice none 0 0, .int .i64 0, .int .i64 0, .string ⟨#[]⟩, .string ⟨#[]⟩, .string ⟨#[]⟩, .int .i64 0, .bool false] [.int .i64 15, .string s1, .string s2, .string s3, .string ⟨#[]⟩, .string ⟨#[]⟩, .slice none 0 0, .string ⟨#[]⟩, .int .i64 0, .slice none 0 0, .int .i64 0, .int .i64 0, .string ⟨#[]⟩, .string ⟨#[]⟩, .string ⟨#[]⟩, .int .i64 0, .bool false] := X3.set 3 (.string s3) (by simp); have X3s := Lib.hid X3s; clear m3 k3 X3)
    | (go_at_call 32; with_reducible refine (H4.out _ X3s.out.nr.ds).mono ?_; rintro e w4 ⟨rfl, g4, m4, k4⟩; have X4 := X3s.out.call k4 m4; obtain ⟨ca4, fa4⟩ := X4.cf 15 (by simp); have z4 := X4.lt; obtain ⟨z40, z41, z42⟩ := z4; have X4s : Nx b p w.heap.size w0.heap.size w _ _ _ [.int .i64 0, .string ⟨#[]⟩, .string ⟨#[]⟩, .string ⟨#[]⟩, .string ⟨#[]⟩, .string ⟨#[]⟩, .slice none 0 0, .string ⟨#[]⟩, .int .i64 0, .slice none 0 0, .int .i64 0, .int .i64 0, .string ⟨#[]⟩, .string ⟨#[]⟩, .string ⟨#[]⟩, .int .i64 0, .bool false] [.int .i64 15, .string s1, .string s2, .string s3, .string ⟨#[]⟩, .string ⟨#[]⟩, .slice none 0 0, .string ⟨#[]⟩, .int .i64 0, .slice none 0 0, .int .i64 0, .int .i64 0, .string ⟨#[]⟩, .string ⟨#[]⟩, .string ⟨#[]⟩, .int .i64 2, .bool false] := X4.set 15 (.int .i64 2) (by simp); have X4s := Lib.hid X4s; clear m4 k4 X4)
    | (go_at_call 57; with_reducible refine (H5.out _ X4s.out.nr.ds).mono ?_; rintro e w5 ⟨rfl, g5, m5, k5⟩; have X5 := X4s.out.call k5 m5; obtain ⟨ca5, fa5⟩ := X5.cf 5 (by simp); obtain ⟨cb5, fb5⟩ := X5.cf 0 (by simp); have z5 := X5.lt; obtain ⟨z50, z51, z52⟩ := z5; have X5s : Nx b p w.heap.size w0.heap.size w _ _ _ [.int .i64 0, .string ⟨#[]⟩, .string ⟨#[]⟩, .string ⟨#[]⟩, .string ⟨#[]⟩, .string ⟨#[]⟩, .slice none 0 0, .string ⟨#[]⟩, .int .i64 0, .slice none 0 0, .int .i64 0, .int .i64 0, .string ⟨#[]⟩, .string ⟨#[]⟩, .string ⟨#[]⟩, .int .i64 0, .bool false] [.int .i64 15, .string s1, .string s2, .string s3, .string ⟨#[]⟩, .string s5, .slice none 0 0, .string ⟨#[]⟩, .int .i64 0, .slice none 0 0, .int .i64 0, .int .i64 0, .string ⟨#[]⟩, .string ⟨#[]⟩, .string ⟨#[]⟩, .int .i64 2, .bool false] := X5.set 5 (.string s5) (by simp); have X5s := Lib.hid X5s; have e1 := lvCmd_row X5s.out.row rfl; have e2 := svCmd_row X5s.out.nr.res rfl rfl (vs := [.int .i64 15, .string s1, .string s2, .string s3, .string ⟨#[]⟩, .string s5, .slice none 0 0, .string ⟨#[]⟩, .int .i64 0, .slice none 0 0, .int .i64 0, .int .i64 0, .string ⟨#[]⟩, .string ⟨#[]⟩, .string ⟨#[]⟩, .int .i64 2, .bool false]) (by simp [Value.oneCell']); clear m5 k5 X5))
  have XR := X5s.out.nr.sets (cs := [.int .i64 15, .string s1, .string s2, .string s3, .string ⟨#[]⟩, .string s5, .slice none 0 0, .string ⟨#[]⟩, .int .i64 0, .slice none 0 0, .int .i64 0, .int .i64 0, .string ⟨#[]⟩, .string ⟨#[]⟩, .string ⟨#[]⟩, .int .i64 2, .bool false]) rfl
  refine bodyPost_ret (results_cell rfl _ rfl (lv_row (T := 31) Tryz.underlying31 (by kernel_rfl) XR.res rfl)) rfl ?_
  exact ⟨XR.kw, _, rfl, ⟨none, 0, none, 0, rfl, colsN_nil _ _ _ HB.out, namesN_nil _ _ _ HB.out, g1, g2, g3, szZ, g5, szZ, szZ, szZ, szZ⟩, XR.ds⟩
set_option maxHeartbeats 2000000 in
theorem commandN_15_write_end_true (f : ByteArray) (W : Ws) (d : Bool) (W0 : Ws) (q0 : wordD W d = (f, W0, true)) (hk : kindB f = 15) (s1 : ByteArray) (W1 : Ws) (d1 : Bool) (q1 : nameD W0 true = (s1, W1, d1)) (s2 : ByteArray) (W2 : Ws) (d2 : Bool) (q2 : nameD W1 d1 = (s2, W2, d2)) (s3 : ByteArray) (W3 : Ws) (d3 : Bool) (q3 : nameD W2 d2 = (s3, W3, d3)) (f4 : ByteArray) (W4 : Ws) (d4 : Bool) (q4 : wordD W3 d3 = (f4, W4, d4)) (hr0 : eqS f4 b_read = false) (hr : eqS f4 b_write = true) (b p : Nat) (w : World) (hl : LnS w b p W d) (s5 : ByteArray) (W5 : Ws) (d5 : Bool) (q5 : nameD W4 d4 = (s5, W5, d5)) : Calls Tryz.prog 34 #[.pointer (some ⟨b, 0, none⟩)] w (RdN b p w (CmdN b w.heap.size) (cmdD W d)) := by
  have H0 := Lib.hid (lword_at (b := b) (p := p) q0)
  have HK := Lib.hid (lkind_at hk)
  have qk := one_kind q0 hk
  have HX0 := Lib.hid (Nr.start hl [.int .i64 0, .string ⟨#[]⟩, .string ⟨#[]⟩, .string ⟨#[]⟩, .string ⟨#[]⟩, .string ⟨#[]⟩, .slice none 0 0, .string ⟨#[]⟩, .int .i64 0, .slice none 0 0, .int .i64 0, .int .i64 0, .string ⟨#[]⟩, .string ⟨#[]⟩, .string ⟨#[]⟩, .int .i64 0, .bool false] 31)
  have hb := hl.lt
  have HB := Lib.hid hb
  have qk : oneD (fun s => (s, kindB s != 0)) W d = (f, W0, true) := qk
  have qr : oneD rightV W3 d3 = (2, W4, d4) := by rw [one_word, q4]; simp [rightV, hr0, hr]
  have e : cmdD W d = ({ zCmd with kind := 15, actor := s1, schema := s2, table := s3, right := 2, role := s5 }, W5, d5) := by
    unfold cmdD
    rw [qk]
    simp [bindD, hk, tailD, grantD, q1, q2, q3, qr, q5]
  rw [e]
  have H1 := Lib.hid (lname_at (b := b) (p := p) q1)
  have H2 := Lib.hid (lname_at (b := b) (p := p) q2)
  have H3 := Lib.hid (lname_at (b := b) (p := p) q3)
  have H5 := Lib.hid (lname_at (b := b) (p := p) q5)
  have H4 := Lib.hid (lword_at (b := b) (p := p) q4)
  have ihr0 := eqS_as hr0
  unfold b_read at ihr0
  simp only at ihr0
  have ihr := eqS_as hr
  unfold b_write at ihr
  simp only at ihr
  clear e hl qk q0 hk q1 q2 q3 q4 q5 qr hr0 hr
  go_enter Tryz.func34, Tryz.ntmps34
  go_wp2_with (first
    | (go_at_call 32; with_reducible refine (H0.out _ HX0.out.ds).mono ?_; rintro e w0 ⟨rfl, g0, l0, k0⟩; have X0 := HX0.out.call k0 l0; have y1 := l0.c1; have y2 := l0.f1; have y3 := l0.lt; have X1 := X0.boxBad true [.int .i64 15, .string ⟨#[]⟩, .string ⟨#[]⟩, .string ⟨#[]⟩, .string ⟨#[]⟩, .string ⟨#[]⟩, .slice none 0 0, .string ⟨#[]⟩, .int .i64 0, .slice none 0 0, .int .i64 0, .int .i64 0, .string ⟨#[]⟩, .string ⟨#[]⟩, .string ⟨#[]⟩, .int .i64 0, .bool false] 31; have z0 := X1.lt; obtain ⟨z00, z01, z02⟩ := z0; have X0s := Lib.hid X1; clear l0 k0 X0 X1)
    | (go_at_call 56; with_reducible refine (HK.out _).mono ?_; rintro e wk ⟨rfl, rfl⟩)
    | (go_at_call 57; with_reducible refine (H1.out _ X0s.out.nr.ds).mono ?_; rintro e w1 ⟨rfl, g1, m1, k1⟩; have X1 := X0s.out.call k1 m1; obtain ⟨ca1, fa1⟩ := X1.cf 1 (by simp); obtain ⟨cb1, fb1⟩ := X1.cf 0 (by simp); have z1 := X1.lt; obtain ⟨z10, z11, z12⟩ := z1; have X1s : Nx b p w.heap.size w0.heap.size w _ _ _ [.int .i64 0, .string ⟨#[]⟩, .string ⟨#[]⟩, .string ⟨#[]⟩, .string ⟨#[]⟩, .string ⟨#[]⟩, .slice none 0 0, .string ⟨#[]⟩, .int .i64 0, .slice none 0 0, .int .i64 0, .int .i64 0, .string ⟨#[]⟩, .string ⟨#[]⟩, .string ⟨#[]⟩, .int .i64 0, .bool false] [.int .i64 15, .string s1, .string ⟨#[]⟩, .string ⟨#[]⟩, .string ⟨#[]⟩, .string ⟨#[]⟩, .slice none 0 0, .string ⟨#[]⟩, .int .i64 0, .slice none 0 0, .int .i64 0, .int .i64 0, .string ⟨#[]⟩, .string ⟨#[]⟩, .string ⟨#[]⟩, .int .i64 0, .bool false] := X1.set 1 (.string s1) (by simp); have X1s := Lib.hid X1s; clear m1 k1 X1)
    | (go_at_call 57; with_reducible refine (H2.out _ X1s.out.nr.ds).mono ?_; rintro e w2 ⟨rfl, g2, m2, k2⟩; have X2 := X1s.out.call k2 m2; obtain ⟨ca2, fa2⟩ := X2.cf 2 (by simp); obtain ⟨cb2, fb2⟩ := X2.cf 0 (by simp); have z2 := X2.lt; obtain ⟨z20, z21, z22⟩ := z2; have X2s : Nx b p w.heap.size w0.heap.size w _ _ _ [.int .i64 0, .string ⟨#[]⟩, .string ⟨#[]⟩, .string ⟨#[]⟩, .string ⟨#[]⟩, .string ⟨#[]⟩, .slice none 0 0, .string ⟨#[]⟩, .int .i64 0, .slice none 0 0, .int .i64 0, .int .i64 0, .string ⟨#[]⟩, .string ⟨#[]⟩, .string ⟨#[]⟩, .int .i64 0, .bool false] [.int .i64 15, .string s1, .string s2, .string ⟨#[]⟩, .string ⟨#[]⟩, .string ⟨#[]⟩, .slice none 0 0, .string ⟨#[]⟩, .int .i64 0, .slice none 0 0, .int .i64 0, .int .i64 0, .string ⟨#[]⟩, .string ⟨#[]⟩, .string ⟨#[]⟩, .int .i64 0, .bool false] := X2.set 2 (.string s2) (by simp); have X2s := Lib.hid X2s; clear m2 k2 X2)
    | (go_at_call 57; with_reducible refine (H3.out _ X2s.out.nr.ds).mono ?_; rintro e w3 ⟨rfl, g3, m3, k3⟩; have X3 := X2s.out.call k3 m3; obtain ⟨ca3, fa3⟩ := X3.cf 3 (by simp); obtain ⟨cb3, fb3⟩ := X3.cf 0 (by simp); have z3 := X3.lt; obtain ⟨z30, z31, z32⟩ := z3; have X3s : Nx b p w.heap.size w0.heap.size w _ _ _ [.int .i64 0, .string ⟨#[]⟩, .string ⟨#[]⟩, .string ⟨#[]⟩, .string ⟨#[]⟩, .string ⟨#[]⟩, .slice none 0 0, .string ⟨#[]⟩, .int .i64 0, .slice none 0 0, .int .i64 0, .int .i64 0, .string ⟨#[]⟩, .string ⟨#[]⟩, .string ⟨#[]⟩, .int .i64 0, .bool false] [.int .i64 15, .string s1, .string s2, .string s3, .string ⟨#[]⟩, .string ⟨#[]⟩, .slice none 0 0, .string ⟨#[]⟩, .int .i64 0, .slice none 0 0, .int .i64 0, .int .i64 0, .string ⟨#[]⟩, .string ⟨#[]⟩, .string ⟨#[]⟩, .int .i64 0, .bool false] := X3.set 3 (.string s3) (by simp); have X3s := Lib.hid X3s; clear m3 k3 X3)
    | (go_at_call 32; with_reducible refine (H4.out _ X3s.out.nr.ds).mono ?_; rintro e w4 ⟨rfl, g4, m4, k4⟩; have X4 := X3s.out.call k4 m4; obtain ⟨ca4, fa4⟩ := X4.cf 15 (by simp); have z4 := X4.lt; obtain ⟨z40, z41, z42⟩ := z4; have X4s : Nx b p w.heap.size w0.heap.size w _ _ _ [.int .i64 0, .string ⟨#[]⟩, .string ⟨#[]⟩, .string ⟨#[]⟩, .string ⟨#[]⟩, .string ⟨#[]⟩, .slice none 0 0, .string ⟨#[]⟩, .int .i64 0, .slice none 0 0, .int .i64 0, .int .i64 0, .string ⟨#[]⟩, .string ⟨#[]⟩, .string ⟨#[]⟩, .int .i64 0, .bool false] [.int .i64 15, .string s1, .string s2, .string s3, .string ⟨#[]⟩, .string ⟨#[]⟩, .slice none 0 0, .string ⟨#[]⟩, .int .i64 0, .slice none 0 0, .int .i64 0, .int .i64 0, .string ⟨#[]⟩, .string ⟨#[]⟩, .string ⟨#[]⟩, .int .i64 2, .bool false] := X4.set 15 (.int .i64 2) (by simp); have X4s := Lib.hid X4s; clear m4 k4 X4)
    | (go_at_call 57; with_reducible refine (H5.out _ X4s.out.nr.ds).mono ?_; rintro e w5 ⟨rfl, g5, m5, k5⟩; have X5 := X4s.out.call k5 m5; obtain ⟨ca5, fa5⟩ := X5.cf 5 (by simp); obtain ⟨cb5, fb5⟩ := X5.cf 0 (by simp); have z5 := X5.lt; obtain ⟨z50, z51, z52⟩ := z5; have X5s : Nx b p w.heap.size w0.heap.size w _ _ _ [.int .i64 0, .string ⟨#[]⟩, .string ⟨#[]⟩, .string ⟨#[]⟩, .string ⟨#[]⟩, .string ⟨#[]⟩, .slice none 0 0, .string ⟨#[]⟩, .int .i64 0, .slice none 0 0, .int .i64 0, .int .i64 0, .string ⟨#[]⟩, .string ⟨#[]⟩, .string ⟨#[]⟩, .int .i64 0, .bool false] [.int .i64 15, .string s1, .string s2, .string s3, .string ⟨#[]⟩, .string s5, .slice none 0 0, .string ⟨#[]⟩, .int .i64 0, .slice none 0 0, .int .i64 0, .int .i64 0, .string ⟨#[]⟩, .string ⟨#[]⟩, .string ⟨#[]⟩, .int .i64 2, .bool false] := X5.set 5 (.string s5) (by simp); have X5s := Lib.hid X5s; have e1 := lvCmd_row X5s.out.row rfl; have e2 := svCmd_row X5s.out.nr.res rfl rfl (vs := [.int .i64 15, .string s1, .string s2, .string s3, .string ⟨#[]⟩, .string s5, .slice none 0 0, .string ⟨#[]⟩, .int .i64 0, .slice none 0 0, .int .i64 0, .int .i64 0, .string ⟨#[]⟩, .string ⟨#[]⟩, .string ⟨#[]⟩, .int .i64 2, .bool false]) (by simp [Value.oneCell']); clear m5 k5 X5))
  have XR := X5s.out.nr.sets (cs := [.int .i64 15, .string s1, .string s2, .string s3, .string ⟨#[]⟩, .string s5, .slice none 0 0, .string ⟨#[]⟩, .int .i64 0, .slice none 0 0, .int .i64 0, .int .i64 0, .string ⟨#[]⟩, .string ⟨#[]⟩, .string ⟨#[]⟩, .int .i64 2, .bool false]) rfl
  refine bodyPost_ret (results_cell rfl _ rfl (lv_row (T := 31) Tryz.underlying31 (by kernel_rfl) XR.res rfl)) rfl ?_
  exact ⟨XR.kw, _, rfl, ⟨none, 0, none, 0, rfl, colsN_nil _ _ _ HB.out, namesN_nil _ _ _ HB.out, g1, g2, g3, szZ, g5, szZ, szZ, szZ, szZ⟩, XR.ds⟩
set_option maxHeartbeats 2000000 in
theorem commandN_15_other_end_false (f : ByteArray) (W : Ws) (d : Bool) (W0 : Ws) (q0 : wordD W d = (f, W0, false)) (hk : kindB f = 15) (s1 : ByteArray) (W1 : Ws) (d1 : Bool) (q1 : nameD W0 false = (s1, W1, d1)) (s2 : ByteArray) (W2 : Ws) (d2 : Bool) (q2 : nameD W1 d1 = (s2, W2, d2)) (s3 : ByteArray) (W3 : Ws) (d3 : Bool) (q3 : nameD W2 d2 = (s3, W3, d3)) (f4 : ByteArray) (W4 : Ws) (d4 : Bool) (q4 : wordD W3 d3 = (f4, W4, d4)) (hr0 : eqS f4 b_read = false) (hr1 : eqS f4 b_write = false) (b p : Nat) (w : World) (hl : LnS w b p W d) (s5 : ByteArray) (W5 : Ws) (d5 : Bool) (q5 : nameD W4 true = (s5, W5, d5)) : Calls Tryz.prog 34 #[.pointer (some ⟨b, 0, none⟩)] w (RdN b p w (CmdN b w.heap.size) (cmdD W d)) := by
  have H0 := Lib.hid (lword_at (b := b) (p := p) q0)
  have HK := Lib.hid (lkind_at hk)
  have qk := one_kind q0 hk
  have HX0 := Lib.hid (Nr.start hl [.int .i64 0, .string ⟨#[]⟩, .string ⟨#[]⟩, .string ⟨#[]⟩, .string ⟨#[]⟩, .string ⟨#[]⟩, .slice none 0 0, .string ⟨#[]⟩, .int .i64 0, .slice none 0 0, .int .i64 0, .int .i64 0, .string ⟨#[]⟩, .string ⟨#[]⟩, .string ⟨#[]⟩, .int .i64 0, .bool false] 31)
  have hb := hl.lt
  have HB := Lib.hid hb
  have qk : oneD (fun s => (s, kindB s != 0)) W d = (f, W0, false) := qk
  have qr : oneD rightV W3 d3 = (0, W4, true) := by rw [one_word, q4]; simp [rightV, hr0, hr1]
  have e : cmdD W d = ({ zCmd with kind := 15, actor := s1, schema := s2, table := s3, right := 0, role := s5 }, W5, d5) := by
    unfold cmdD
    rw [qk]
    simp [bindD, hk, tailD, grantD, q1, q2, q3, qr, q5]
  rw [e]
  have H1 := Lib.hid (lname_at (b := b) (p := p) q1)
  have H2 := Lib.hid (lname_at (b := b) (p := p) q2)
  have H3 := Lib.hid (lname_at (b := b) (p := p) q3)
  have H5 := Lib.hid (lname_at (b := b) (p := p) q5)
  have H4 := Lib.hid (lword_at (b := b) (p := p) q4)
  have ihr0 := eqS_as hr0
  unfold b_read at ihr0
  simp only at ihr0
  have ihr1 := eqS_as hr1
  unfold b_write at ihr1
  simp only at ihr1
  clear e hl qk q0 hk q1 q2 q3 q4 q5 qr hr0 hr1
  go_enter Tryz.func34, Tryz.ntmps34
  go_wp2_with (first
    | (go_at_call 32; with_reducible refine (H0.out _ HX0.out.ds).mono ?_; rintro e w0 ⟨rfl, g0, l0, k0⟩; have X0 := HX0.out.call k0 l0; have y1 := l0.c1; have y2 := l0.f1; have y3 := l0.lt; have X1 := X0.boxBad false [.int .i64 15, .string ⟨#[]⟩, .string ⟨#[]⟩, .string ⟨#[]⟩, .string ⟨#[]⟩, .string ⟨#[]⟩, .slice none 0 0, .string ⟨#[]⟩, .int .i64 0, .slice none 0 0, .int .i64 0, .int .i64 0, .string ⟨#[]⟩, .string ⟨#[]⟩, .string ⟨#[]⟩, .int .i64 0, .bool false] 31; have z0 := X1.lt; obtain ⟨z00, z01, z02⟩ := z0; have X0s := Lib.hid X1; clear l0 k0 X0 X1)
    | (go_at_call 56; with_reducible refine (HK.out _).mono ?_; rintro e wk ⟨rfl, rfl⟩)
    | (go_at_call 57; with_reducible refine (H1.out _ X0s.out.nr.ds).mono ?_; rintro e w1 ⟨rfl, g1, m1, k1⟩; have X1 := X0s.out.call k1 m1; obtain ⟨ca1, fa1⟩ := X1.cf 1 (by simp); obtain ⟨cb1, fb1⟩ := X1.cf 0 (by simp); have z1 := X1.lt; obtain ⟨z10, z11, z12⟩ := z1; have X1s : Nx b p w.heap.size w0.heap.size w _ _ _ [.int .i64 0, .string ⟨#[]⟩, .string ⟨#[]⟩, .string ⟨#[]⟩, .string ⟨#[]⟩, .string ⟨#[]⟩, .slice none 0 0, .string ⟨#[]⟩, .int .i64 0, .slice none 0 0, .int .i64 0, .int .i64 0, .string ⟨#[]⟩, .string ⟨#[]⟩, .string ⟨#[]⟩, .int .i64 0, .bool false] [.int .i64 15, .string s1, .string ⟨#[]⟩, .string ⟨#[]⟩, .string ⟨#[]⟩, .string ⟨#[]⟩, .slice none 0 0, .string ⟨#[]⟩, .int .i64 0, .slice none 0 0, .int .i64 0, .int .i64 0, .string ⟨#[]⟩, .string ⟨#[]⟩, .string ⟨#[]⟩, .int .i64 0, .bool false] := X1.set 1 (.string s1) (by simp); have X1s := Lib.hid X1s; clear m1 k1 X1)
    | (go_at_call 57; with_reducible refine (H2.out _ X1s.out.nr.ds).mono ?_; rintro e w2 ⟨rfl, g2, m2, k2⟩; have X2 := X1s.out.call k2 m2; obtain ⟨ca2, fa2⟩ := X2.cf 2 (by simp); obtain ⟨cb2, fb2⟩ := X2.cf 0 (by simp); have z2 := X2.lt; obtain ⟨z20, z21, z22⟩ := z2; have X2s : Nx b p w.heap.size w0.heap.size w _ _ _ [.int .i64 0, .string ⟨#[]⟩, .string ⟨#[]⟩, .string ⟨#[]⟩, .string ⟨#[]⟩, .string ⟨#[]⟩, .slice none 0 0, .string ⟨#[]⟩, .int .i64 0, .slice none 0 0, .int .i64 0, .int .i64 0, .string ⟨#[]⟩, .string ⟨#[]⟩, .string ⟨#[]⟩, .int .i64 0, .bool false] [.int .i64 15, .string s1, .string s2, .string ⟨#[]⟩, .string ⟨#[]⟩, .string ⟨#[]⟩, .slice none 0 0, .string ⟨#[]⟩, .int .i64 0, .slice none 0 0, .int .i64 0, .int .i64 0, .string ⟨#[]⟩, .string ⟨#[]⟩, .string ⟨#[]⟩, .int .i64 0, .bool false] := X2.set 2 (.string s2) (by simp); have X2s := Lib.hid X2s; clear m2 k2 X2)
    | (go_at_call 57; with_reducible refine (H3.out _ X2s.out.nr.ds).mono ?_; rintro e w3 ⟨rfl, g3, m3, k3⟩; have X3 := X2s.out.call k3 m3; obtain ⟨ca3, fa3⟩ := X3.cf 3 (by simp); obtain ⟨cb3, fb3⟩ := X3.cf 0 (by simp); have z3 := X3.lt; obtain ⟨z30, z31, z32⟩ := z3; have X3s : Nx b p w.heap.size w0.heap.size w _ _ _ [.int .i64 0, .string ⟨#[]⟩, .string ⟨#[]⟩, .string ⟨#[]⟩, .string ⟨#[]⟩, .string ⟨#[]⟩, .slice none 0 0, .string ⟨#[]⟩, .int .i64 0, .slice none 0 0, .int .i64 0, .int .i64 0, .string ⟨#[]⟩, .string ⟨#[]⟩, .string ⟨#[]⟩, .int .i64 0, .bool false] [.int .i64 15, .string s1, .string s2, .string s3, .string ⟨#[]⟩, .string ⟨#[]⟩, .slice none 0 0, .string ⟨#[]⟩, .int .i64 0, .slice none 0 0, .int .i64 0, .int .i64 0, .string ⟨#[]⟩, .string ⟨#[]⟩, .string ⟨#[]⟩, .int .i64 0, .bool false] := X3.set 3 (.string s3) (by simp); have X3s := Lib.hid X3s; clear m3 k3 X3)
    | (go_at_call 32; with_reducible refine (H4.out _ X3s.out.nr.ds).mono ?_; rintro e w4 ⟨rfl, g4, m4, k4⟩; have X4 := X3s.out.call k4 m4; have yy1 := m4.c1; have yy2 := m4.f1; have z4 := X4.lt; obtain ⟨z40, z41, z42⟩ := z4; have X4s := Lib.hid (X4.bad true); clear m4 k4 X4)
    | (go_at_call 57; with_reducible refine (H5.out _ X4s.out.nr.ds).mono ?_; rintro e w5 ⟨rfl, g5, m5, k5⟩; have X5 := X4s.out.call k5 m5; obtain ⟨ca5, fa5⟩ := X5.cf 5 (by simp); obtain ⟨cb5, fb5⟩ := X5.cf 0 (by simp); have z5 := X5.lt; obtain ⟨z50, z51, z52⟩ := z5; have X5s : Nx b p w.heap.size w0.heap.size w _ _ _ [.int .i64 0, .string ⟨#[]⟩, .string ⟨#[]⟩, .string ⟨#[]⟩, .string ⟨#[]⟩, .string ⟨#[]⟩, .slice none 0 0, .string ⟨#[]⟩, .int .i64 0, .slice none 0 0, .int .i64 0, .int .i64 0, .string ⟨#[]⟩, .string ⟨#[]⟩, .string ⟨#[]⟩, .int .i64 0, .bool false] [.int .i64 15, .string s1, .string s2, .string s3, .string ⟨#[]⟩, .string s5, .slice none 0 0, .string ⟨#[]⟩, .int .i64 0, .slice none 0 0, .int .i64 0, .int .i64 0, .string ⟨#[]⟩, .string ⟨#[]⟩, .string ⟨#[]⟩, .int .i64 0, .bool false] := X5.set 5 (.string s5) (by simp); have X5s := Lib.hid X5s; have e1 := lvCmd_row X5s.out.row rfl; have e2 := svCmd_row X5s.out.nr.res rfl rfl (vs := [.int .i64 15, .string s1, .string s2, .string s3, .string ⟨#[]⟩, .string s5, .slice none 0 0, .string ⟨#[]⟩, .int .i64 0, .slice none 0 0, .int .i64 0, .int .i64 0, .string ⟨#[]⟩, .string ⟨#[]⟩, .string ⟨#[]⟩, .int .i64 0, .bool false]) (by simp [Value.oneCell']); clear m5 k5 X5))
  have XR := X5s.out.nr.sets (cs := [.int .i64 15, .string s1, .string s2, .string s3, .string ⟨#[]⟩, .string s5, .slice none 0 0, .string ⟨#[]⟩, .int .i64 0, .slice none 0 0, .int .i64 0, .int .i64 0, .string ⟨#[]⟩, .string ⟨#[]⟩, .string ⟨#[]⟩, .int .i64 0, .bool false]) rfl
  refine bodyPost_ret (results_cell rfl _ rfl (lv_row (T := 31) Tryz.underlying31 (by kernel_rfl) XR.res rfl)) rfl ?_
  exact ⟨XR.kw, _, rfl, ⟨none, 0, none, 0, rfl, colsN_nil _ _ _ HB.out, namesN_nil _ _ _ HB.out, g1, g2, g3, szZ, g5, szZ, szZ, szZ, szZ⟩, XR.ds⟩
set_option maxHeartbeats 2000000 in
theorem commandN_15_other_end_true (f : ByteArray) (W : Ws) (d : Bool) (W0 : Ws) (q0 : wordD W d = (f, W0, true)) (hk : kindB f = 15) (s1 : ByteArray) (W1 : Ws) (d1 : Bool) (q1 : nameD W0 true = (s1, W1, d1)) (s2 : ByteArray) (W2 : Ws) (d2 : Bool) (q2 : nameD W1 d1 = (s2, W2, d2)) (s3 : ByteArray) (W3 : Ws) (d3 : Bool) (q3 : nameD W2 d2 = (s3, W3, d3)) (f4 : ByteArray) (W4 : Ws) (d4 : Bool) (q4 : wordD W3 d3 = (f4, W4, d4)) (hr0 : eqS f4 b_read = false) (hr1 : eqS f4 b_write = false) (b p : Nat) (w : World) (hl : LnS w b p W d) (s5 : ByteArray) (W5 : Ws) (d5 : Bool) (q5 : nameD W4 true = (s5, W5, d5)) : Calls Tryz.prog 34 #[.pointer (some ⟨b, 0, none⟩)] w (RdN b p w (CmdN b w.heap.size) (cmdD W d)) := by
  have H0 := Lib.hid (lword_at (b := b) (p := p) q0)
  have HK := Lib.hid (lkind_at hk)
  have qk := one_kind q0 hk
  have HX0 := Lib.hid (Nr.start hl [.int .i64 0, .string ⟨#[]⟩, .string ⟨#[]⟩, .string ⟨#[]⟩, .string ⟨#[]⟩, .string ⟨#[]⟩, .slice none 0 0, .string ⟨#[]⟩, .int .i64 0, .slice none 0 0, .int .i64 0, .int .i64 0, .string ⟨#[]⟩, .string ⟨#[]⟩, .string ⟨#[]⟩, .int .i64 0, .bool false] 31)
  have hb := hl.lt
  have HB := Lib.hid hb
  have qk : oneD (fun s => (s, kindB s != 0)) W d = (f, W0, true) := qk
  have qr : oneD rightV W3 d3 = (0, W4, true) := by rw [one_word, q4]; simp [rightV, hr0, hr1]
  have e : cmdD W d = ({ zCmd with kind := 15, actor := s1, schema := s2, table := s3, right := 0, role := s5 }, W5, d5) := by
    unfold cmdD
    rw [qk]
    simp [bindD, hk, tailD, grantD, q1, q2, q3, qr, q5]
  rw [e]
  have H1 := Lib.hid (lname_at (b := b) (p := p) q1)
  have H2 := Lib.hid (lname_at (b := b) (p := p) q2)
  have H3 := Lib.hid (lname_at (b := b) (p := p) q3)
  have H5 := Lib.hid (lname_at (b := b) (p := p) q5)
  have H4 := Lib.hid (lword_at (b := b) (p := p) q4)
  have ihr0 := eqS_as hr0
  unfold b_read at ihr0
  simp only at ihr0
  have ihr1 := eqS_as hr1
  unfold b_write at ihr1
  simp only at ihr1
  clear e hl qk q0 hk q1 q2 q3 q4 q5 qr hr0 hr1
  go_enter Tryz.func34, Tryz.ntmps34
  go_wp2_with (first
    | (go_at_call 32; with_reducible refine (H0.out _ HX0.out.ds).mono ?_; rintro e w0 ⟨rfl, g0, l0, k0⟩; have X0 := HX0.out.call k0 l0; have y1 := l0.c1; have y2 := l0.f1; have y3 := l0.lt; have X1 := X0.boxBad true [.int .i64 15, .string ⟨#[]⟩, .string ⟨#[]⟩, .string ⟨#[]⟩, .string ⟨#[]⟩, .string ⟨#[]⟩, .slice none 0 0, .string ⟨#[]⟩, .int .i64 0, .slice none 0 0, .int .i64 0, .int .i64 0, .string ⟨#[]⟩, .string ⟨#[]⟩, .string ⟨#[]⟩, .int .i64 0, .bool false] 31; have z0 := X1.lt; obtain ⟨z00, z01, z02⟩ := z0; have X0s := Lib.hid X1; clear l0 k0 X0 X1)
    | (go_at_call 56; with_reducible refine (HK.out _).mono ?_; rintro e wk ⟨rfl, rfl⟩)
    | (go_at_call 57; with_reducible refine (H1.out _ X0s.out.nr.ds).mono ?_; rintro e w1 ⟨rfl, g1, m1, k1⟩; have X1 := X0s.out.call k1 m1; obtain ⟨ca1, fa1⟩ := X1.cf 1 (by simp); obtain ⟨cb1, fb1⟩ := X1.cf 0 (by simp); have z1 := X1.lt; obtain ⟨z10, z11, z12⟩ := z1; have X1s : Nx b p w.heap.size w0.heap.size w _ _ _ [.int .i64 0, .string ⟨#[]⟩, .string ⟨#[]⟩, .string ⟨#[]⟩, .string ⟨#[]⟩, .string ⟨#[]⟩, .slice none 0 0, .string ⟨#[]⟩, .int .i64 0, .slice none 0 0, .int .i64 0, .int .i64 0, .string ⟨#[]⟩, .string ⟨#[]⟩, .string ⟨#[]⟩, .int .i64 0, .bool false] [.int .i64 15, .string s1, .string ⟨#[]⟩, .string ⟨#[]⟩, .string ⟨#[]⟩, .string ⟨#[]⟩, .slice none 0 0, .string ⟨#[]⟩, .int .i64 0, .slice none 0 0, .int .i64 0, .int .i64 0, .string ⟨#[]⟩, .string ⟨#[]⟩, .string ⟨#[]⟩, .int .i64 0, .bool false] := X1.set 1 (.string s1) (by simp); have X1s := Lib.hid X1s; clear m1 k1 X1)
    | (go_at_call 57; with_reducible refine (H2.out _ X1s.out.nr.ds).mono ?_; rintro e w2 ⟨rfl, g2, m2, k2⟩; have X2 := X1s.out.call k2 m2; obtain ⟨ca2, fa2⟩ := X2.cf 2 (by simp); obtain ⟨cb2, fb2⟩ := X2.cf 0 (by simp); have z2 := X2.lt; obtain ⟨z20, z21, z22⟩ := z2; have X2s : Nx b p w.heap.size w0.heap.size w _ _ _ [.int .i64 0, .string ⟨#[]⟩, .string ⟨#[]⟩, .string ⟨#[]⟩, .string ⟨#[]⟩, .string ⟨#[]⟩, .slice none 0 0, .string ⟨#[]⟩, .int .i64 0, .slice none 0 0, .int .i64 0, .int .i64 0, .string ⟨#[]⟩, .string ⟨#[]⟩, .string ⟨#[]⟩, .int .i64 0, .bool false] [.int .i64 15, .string s1, .string s2, .string ⟨#[]⟩, .string ⟨#[]⟩, .string ⟨#[]⟩, .slice none 0 0, .string ⟨#[]⟩, .int .i64 0, .slice none 0 0, .int .i64 0, .int .i64 0, .string ⟨#[]⟩, .string ⟨#[]⟩, .string ⟨#[]⟩, .int .i64 0, .bool false] := X2.set 2 (.string s2) (by simp); have X2s := Lib.hid X2s; clear m2 k2 X2)
    | (go_at_call 57; with_reducible refine (H3.out _ X2s.out.nr.ds).mono ?_; rintro e w3 ⟨rfl, g3, m3, k3⟩; have X3 := X2s.out.call k3 m3; obtain ⟨ca3, fa3⟩ := X3.cf 3 (by simp); obtain ⟨cb3, fb3⟩ := X3.cf 0 (by simp); have z3 := X3.lt; obtain ⟨z30, z31, z32⟩ := z3; have X3s : Nx b p w.heap.size w0.heap.size w _ _ _ [.int .i64 0, .string ⟨#[]⟩, .string ⟨#[]⟩, .string ⟨#[]⟩, .string ⟨#[]⟩, .string ⟨#[]⟩, .slice none 0 0, .string ⟨#[]⟩, .int .i64 0, .slice none 0 0, .int .i64 0, .int .i64 0, .string ⟨#[]⟩, .string ⟨#[]⟩, .string ⟨#[]⟩, .int .i64 0, .bool false] [.int .i64 15, .string s1, .string s2, .string s3, .string ⟨#[]⟩, .string ⟨#[]⟩, .slice none 0 0, .string ⟨#[]⟩, .int .i64 0, .slice none 0 0, .int .i64 0, .int .i64 0, .string ⟨#[]⟩, .string ⟨#[]⟩, .string ⟨#[]⟩, .int .i64 0, .bool false] := X3.set 3 (.string s3) (by simp); have X3s := Lib.hid X3s; clear m3 k3 X3)
    | (go_at_call 32; with_reducible refine (H4.out _ X3s.out.nr.ds).mono ?_; rintro e w4 ⟨rfl, g4, m4, k4⟩; have X4 := X3s.out.call k4 m4; have yy1 := m4.c1; have yy2 := m4.f1; have z4 := X4.lt; obtain ⟨z40, z41, z42⟩ := z4; have X4s := Lib.hid (X4.bad true); clear m4 k4 X4)
    | (go_at_call 57; with_reducible refine (H5.out _ X4s.out.nr.ds).mono ?_; rintro e w5 ⟨rfl, g5, m5, k5⟩; have X5 := X4s.out.call k5 m5; obtain ⟨ca5, fa5⟩ := X5.cf 5 (by simp); obtain ⟨cb5, fb5⟩ := X5.cf 0 (by simp); have z5 := X5.lt; obtain ⟨z50, z51, z52⟩ := z5; have X5s : Nx b p w.heap.size w0.heap.size w _ _ _ [.int .i64 0, .string ⟨#[]⟩, .string ⟨#[]⟩, .string ⟨#[]⟩, .string ⟨#[]⟩, .string ⟨#[]⟩, .slice none 0 0, .string ⟨#[]⟩, .int .i64 0, .slice none 0 0, .int .i64 0, .int .i64 0, .string ⟨#[]⟩, .string ⟨#[]⟩, .string ⟨#[]⟩, .int .i64 0, .bool false] [.int .i64 15, .string s1, .string s2, .string s3, .string ⟨#[]⟩, .string s5, .slice none 0 0, .string ⟨#[]⟩, .int .i64 0, .slice none 0 0, .int .i64 0, .int .i64 0, .string ⟨#[]⟩, .string ⟨#[]⟩, .string ⟨#[]⟩, .int .i64 0, .bool false] := X5.set 5 (.string s5) (by simp); have X5s := Lib.hid X5s; have e1 := lvCmd_row X5s.out.row rfl; have e2 := svCmd_row X5s.out.nr.res rfl rfl (vs := [.int .i64 15, .string s1, .string s2, .string s3, .string ⟨#[]⟩, .string s5, .slice none 0 0, .string ⟨#[]⟩, .int .i64 0, .slice none 0 0, .int .i64 0, .int .i64 0, .string ⟨#[]⟩, .string ⟨#[]⟩, .string ⟨#[]⟩, .int .i64 0, .bool false]) (by simp [Value.oneCell']); clear m5 k5 X5))
  have XR := X5s.out.nr.sets (cs := [.int .i64 15, .string s1, .string s2, .string s3, .string ⟨#[]⟩, .string s5, .slice none 0 0, .string ⟨#[]⟩, .int .i64 0, .slice none 0 0, .int .i64 0, .int .i64 0, .string ⟨#[]⟩, .string ⟨#[]⟩, .string ⟨#[]⟩, .int .i64 0, .bool false]) rfl
  refine bodyPost_ret (results_cell rfl _ rfl (lv_row (T := 31) Tryz.underlying31 (by kernel_rfl) XR.res rfl)) rfl ?_
  exact ⟨XR.kw, _, rfl, ⟨none, 0, none, 0, rfl, colsN_nil _ _ _ HB.out, namesN_nil _ _ _ HB.out, g1, g2, g3, szZ, g5, szZ, szZ, szZ, szZ⟩, XR.ds⟩
set_option maxHeartbeats 2000000 in
theorem commandN_14_read_nomore_false (f : ByteArray) (W : Ws) (d : Bool) (W0 : Ws) (q0 : wordD W d = (f, W0, false)) (hk : kindB f = 14) (s1 : ByteArray) (W1 : Ws) (d1 : Bool) (q1 : nameD W0 false = (s1, W1, d1)) (s2 : ByteArray) (W2 : Ws) (d2 : Bool) (q2 : nameD W1 d1 = (s2, W2, d2)) (s3 : ByteArray) (W3 : Ws) (d3 : Bool) (q3 : nameD W2 d2 = (s3, W3, d3)) (f4 : ByteArray) (W4 : Ws) (d4 : Bool) (q4 : wordD W3 d3 = (f4, W4, d4)) (hr : eqS f4 b_read = true) (b p : Nat) (w : World) (hl : LnS w b p W d) (s5 : ByteArray) (W5 : Ws) (d5 : Bool) (q5 : nameD W4 d4 = (s5, W5, d5)) (hm : moreD W5 d5 = false) : Calls Tryz.prog 34 #[.pointer (some ⟨b, 0, none⟩)] w (RdN b p w (CmdN b w.heap.size) (cmdD W d)) := by
  have H0 := Lib.hid (lword_at (b := b) (p := p) q0)
  have HK := Lib.hid (lkind_at hk)
  have qk := one_kind q0 hk
  have HX0 := Lib.hid (Nr.start hl [.int .i64 0, .string ⟨#[]⟩, .string ⟨#[]⟩, .string ⟨#[]⟩, .string ⟨#[]⟩, .string ⟨#[]⟩, .slice none 0 0, .string ⟨#[]⟩, .int .i64 0, .slice none 0 0, .int .i64 0, .int .i64 0, .string ⟨#[]⟩, .string ⟨#[]⟩, .string ⟨#[]⟩, .int .i64 0, .bool false] 31)
  have hb := hl.lt
  have HB := Lib.hid hb
  have qk : oneD (fun s => (s, kindB s != 0)) W d = (f, W0, false) := qk
  have qr : oneD rightV W3 d3 = (1, W4, d4) := by rw [one_word, q4]; simp [rightV, hr]
  have e : cmdD W d = ({ zCmd with kind := 14, actor := s1, schema := s2, table := s3, right := 1, role := s5 }, W5, d5) := by
    unfold cmdD
    rw [qk]
    simp [bindD, hk, tailD, grantD, q1, q2, q3, qr, q5, hm]
  rw [e]
  have H1 := Lib.hid (lname_at (b := b) (p := p) q1)
  have H2 := Lib.hid (lname_at (b := b) (p := p) q2)
  have H3 := Lib.hid (lname_at (b := b) (p := p) q3)
  have H5 := Lib.hid (lname_at (b := b) (p := p) q5)
  have H4 := Lib.hid (lword_at (b := b) (p := p) q4)
  have HM := Lib.hid (lmore_at (b := b) (p := p) hm)
  have ihr := eqS_as hr
  unfold b_read at ihr
  simp only at ihr
  clear e hl qk q0 hk q1 q2 q3 q4 q5 qr hr hm
  go_enter Tryz.func34, Tryz.ntmps34
  go_wp2_with (first
    | (go_at_call 32; with_reducible refine (H0.out _ HX0.out.ds).mono ?_; rintro e w0 ⟨rfl, g0, l0, k0⟩; have X0 := HX0.out.call k0 l0; have y1 := l0.c1; have y2 := l0.f1; have y3 := l0.lt; have X1 := X0.boxBad false [.int .i64 14, .string ⟨#[]⟩, .string ⟨#[]⟩, .string ⟨#[]⟩, .string ⟨#[]⟩, .string ⟨#[]⟩, .slice none 0 0, .string ⟨#[]⟩, .int .i64 0, .slice none 0 0, .int .i64 0, .int .i64 0, .string ⟨#[]⟩, .string ⟨#[]⟩, .string ⟨#[]⟩, .int .i64 0, .bool false] 31; have z0 := X1.lt; obtain ⟨z00, z01, z02⟩ := z0; have X0s := Lib.hid X1; clear l0 k0 X0 X1)
    | (go_at_call 56; with_reducible refine (HK.out _).mono ?_; rintro e wk ⟨rfl, rfl⟩)
    | (go_at_call 57; with_reducible refine (H1.out _ X0s.out.nr.ds).mono ?_; rintro e w1 ⟨rfl, g1, m1, k1⟩; have X1 := X0s.out.call k1 m1; obtain ⟨ca1, fa1⟩ := X1.cf 1 (by simp); obtain ⟨cb1, fb1⟩ := X1.cf 0 (by simp); have z1 := X1.lt; obtain ⟨z10, z11, z12⟩ := z1; have X1s : Nx b p w.heap.size w0.heap.size w _ _ _ [.int .i64 0, .string ⟨#[]⟩, .string ⟨#[]⟩, .string ⟨#[]⟩, .string ⟨#[]⟩, .string ⟨#[]⟩, .slice none 0 0, .string ⟨#[]⟩, .int .i64 0, .slice none 0 0, .int .i64 0, .int .i64 0, .string ⟨#[]⟩, .string ⟨#[]⟩, .string ⟨#[]⟩, .int .i64 0, .bool false] [.int .i64 14, .string s1, .string ⟨#[]⟩, .string ⟨#[]⟩, .string ⟨#[]⟩, .string ⟨#[]⟩, .slice none 0 0, .string ⟨#[]⟩, .int .i64 0, .slice none 0 0, .int .i64 0, .int .i64 0, .string ⟨#[]⟩, .string ⟨#[]⟩, .string ⟨#[]⟩, .int .i64 0, .bool false] := X1.set 1 (.string s1) (by simp); have X1s := Lib.hid X1s; clear m1 k1 X1)
    | (go_at_call 57; with_reducible refine (H2.out _ X1s.out.nr.ds).mono ?_; rintro e w2 ⟨rfl, g2, m2, k2⟩; have X2 := X1s.out.call k2 m2; obtain ⟨ca2, fa2⟩ := X2.cf 2 (by simp); obtain ⟨cb2, fb2⟩ := X2.cf 0 (by simp); have z2 := X2.lt; obtain ⟨z20, z21, z22⟩ := z2; have X2s : Nx b p w.heap.size w0.heap.size w _ _ _ [.int .i64 0, .string ⟨#[]⟩, .string ⟨#[]⟩, .string ⟨#[]⟩, .string ⟨#[]⟩, .string ⟨#[]⟩, .slice none 0 0, .string ⟨#[]⟩, .int .i64 0, .slice none 0 0, .int .i64 0, .int .i64 0, .string ⟨#[]⟩, .string ⟨#[]⟩, .string ⟨#[]⟩, .int .i64 0, .bool false] [.int .i64 14, .string s1, .string s2, .string ⟨#[]⟩, .string ⟨#[]⟩, .string ⟨#[]⟩, .slice none 0 0, .string ⟨#[]⟩, .int .i64 0, .slice none 0 0, .int .i64 0, .int .i64 0, .string ⟨#[]⟩, .string ⟨#[]⟩, .string ⟨#[]⟩, .int .i64 0, .bool false] := X2.set 2 (.string s2) (by simp); have X2s := Lib.hid X2s; clear m2 k2 X2)
    | (go_at_call 57; with_reducible refine (H3.out _ X2s.out.nr.ds).mono ?_; rintro e w3 ⟨rfl, g3, m3, k3⟩; have X3 := X2s.out.call k3 m3; obtain ⟨ca3, fa3⟩ := X3.cf 3 (by simp); obtain ⟨cb3, fb3⟩ := X3.cf 0 (by simp); have z3 := X3.lt; obtain ⟨z30, z31, z32⟩ := z3; have X3s : Nx b p w.heap.size w0.heap.size w _ _ _ [.int .i64 0, .string ⟨#[]⟩, .string ⟨#[]⟩, .string ⟨#[]⟩, .string ⟨#[]⟩, .string ⟨#[]⟩, .slice none 0 0, .string ⟨#[]⟩, .int .i64 0, .slice none 0 0, .int .i64 0, .int .i64 0, .string ⟨#[]⟩, .string ⟨#[]⟩, .string ⟨#[]⟩, .int .i64 0, .bool false] [.int .i64 14, .string s1, .string s2, .string s3, .string ⟨#[]⟩, .string ⟨#[]⟩, .slice none 0 0, .string ⟨#[]⟩, .int .i64 0, .slice none 0 0, .int .i64 0, .int .i64 0, .string ⟨#[]⟩, .string ⟨#[]⟩, .string ⟨#[]⟩, .int .i64 0, .bool false] := X3.set 3 (.string s3) (by simp); have X3s := Lib.hid X3s; clear m3 k3 X3)
    | (go_at_call 32; with_reducible refine (H4.out _ X3s.out.nr.ds).mono ?_; rintro e w4 ⟨rfl, g4, m4, k4⟩; have X4 := X3s.out.call k4 m4; obtain ⟨ca4, fa4⟩ := X4.cf 15 (by simp); have z4 := X4.lt; obtain ⟨z40, z41, z42⟩ := z4; have X4s : Nx b p w.heap.size w0.heap.size w _ _ _ [.int .i64 0, .string ⟨#[]⟩, .string ⟨#[]⟩, .string ⟨#[]⟩, .string ⟨#[]⟩, .string ⟨#[]⟩, .slice none 0 0, .string ⟨#[]⟩, .int .i64 0, .slice none 0 0, .int .i64 0, .int .i64 0, .string ⟨#[]⟩, .string ⟨#[]⟩, .string ⟨#[]⟩, .int .i64 0, .bool false] [.int .i64 14, .string s1, .string s2, .string s3, .string ⟨#[]⟩, .string ⟨#[]⟩, .slice none 0 0, .string ⟨#[]⟩, .int .i64 0, .slice none 0 0, .int .i64 0, .int .i64 0, .string ⟨#[]⟩, .string ⟨#[]⟩, .string ⟨#[]⟩, .int .i64 1, .bool false] := X4.set 15 (.int .i64 1) (by simp); have X4s := Lib.hid X4s; clear m4 k4 X4)
    | (go_at_call 57; with_reducible refine (H5.out _ X4s.out.nr.ds).mono ?_; rintro e w5 ⟨rfl, g5, m5, k5⟩; have X5 := X4s.out.call k5 m5; obtain ⟨ca5, fa5⟩ := X5.cf 5 (by simp); obtain ⟨cb5, fb5⟩ := X5.cf 0 (by simp); have z5 := X5.lt; obtain ⟨z50, z51, z52⟩ := z5; have X5s : Nx b p w.heap.size w0.heap.size w _ _ _ [.int .i64 0, .string ⟨#[]⟩, .string ⟨#[]⟩, .string ⟨#[]⟩, .string ⟨#[]⟩, .string ⟨#[]⟩, .slice none 0 0, .string ⟨#[]⟩, .int .i64 0, .slice none 0 0, .int .i64 0, .int .i64 0, .string ⟨#[]⟩, .string ⟨#[]⟩, .string ⟨#[]⟩, .int .i64 0, .bool false] [.int .i64 14, .string s1, .string s2, .string s3, .string ⟨#[]⟩, .string s5, .slice none 0 0, .string ⟨#[]⟩, .int .i64 0, .slice none 0 0, .int .i64 0, .int .i64 0, .string ⟨#[]⟩, .string ⟨#[]⟩, .string ⟨#[]⟩, .int .i64 1, .bool false] := X5.set 5 (.string s5) (by simp); have X5s := Lib.hid X5s; have e1 := lvCmd_row X5s.out.row rfl; have e2 := svCmd_row X5s.out.nr.res rfl rfl (vs := [.int .i64 14, .string s1, .string s2, .string s3, .string ⟨#[]⟩, .string s5, .slice none 0 0, .string ⟨#[]⟩, .int .i64 0, .slice none 0 0, .int .i64 0, .int .i64 0, .string ⟨#[]⟩, .string ⟨#[]⟩, .string ⟨#[]⟩, .int .i64 1, .bool false]) (by simp [Value.oneCell']); clear m5 k5 X5)
    | (go_at_call 54; with_reducible refine (HM.out _ X5s.out.nr.ds).mono ?_; rintro e wm ⟨rfl, rfl⟩))
  have XR := X5s.out.nr.sets (cs := [.int .i64 14, .string s1, .string s2, .string s3, .string ⟨#[]⟩, .string s5, .slice none 0 0, .string ⟨#[]⟩, .int .i64 0, .slice none 0 0, .int .i64 0, .int .i64 0, .string ⟨#[]⟩, .string ⟨#[]⟩, .string ⟨#[]⟩, .int .i64 1, .bool false]) rfl
  refine bodyPost_ret (results_cell rfl _ rfl (lv_row (T := 31) Tryz.underlying31 (by kernel_rfl) XR.res rfl)) rfl ?_
  exact ⟨XR.kw, _, rfl, ⟨none, 0, none, 0, rfl, colsN_nil _ _ _ HB.out, namesN_nil _ _ _ HB.out, g1, g2, g3, szZ, g5, szZ, szZ, szZ, szZ⟩, XR.ds⟩
set_option maxHeartbeats 2000000 in
theorem commandN_14_read_nomore_true (f : ByteArray) (W : Ws) (d : Bool) (W0 : Ws) (q0 : wordD W d = (f, W0, true)) (hk : kindB f = 14) (s1 : ByteArray) (W1 : Ws) (d1 : Bool) (q1 : nameD W0 true = (s1, W1, d1)) (s2 : ByteArray) (W2 : Ws) (d2 : Bool) (q2 : nameD W1 d1 = (s2, W2, d2)) (s3 : ByteArray) (W3 : Ws) (d3 : Bool) (q3 : nameD W2 d2 = (s3, W3, d3)) (f4 : ByteArray) (W4 : Ws) (d4 : Bool) (q4 : wordD W3 d3 = (f4, W4, d4)) (hr : eqS f4 b_read = true) (b p : Nat) (w : World) (hl : LnS w b p W d) (s5 : ByteArray) (W5 : Ws) (d5 : Bool) (q5 : nameD W4 d4 = (s5, W5, d5)) (hm : moreD W5 d5 = false) : Calls Tryz.prog 34 #[.pointer (some ⟨b, 0, none⟩)] w (RdN b p w (CmdN b w.heap.size) (cmdD W d)) := by
  have H0 := Lib.hid (lword_at (b := b) (p := p) q0)
  have HK := Lib.hid (lkind_at hk)
  have qk := one_kind q0 hk
  have HX0 := Lib.hid (Nr.start hl [.int .i64 0, .string ⟨#[]⟩, .string ⟨#[]⟩, .string ⟨#[]⟩, .string ⟨#[]⟩, .string ⟨#[]⟩, .slice none 0 0, .string ⟨#[]⟩, .int .i64 0, .slice none 0 0, .int .i64 0, .int .i64 0, .string ⟨#[]⟩, .string ⟨#[]⟩, .string ⟨#[]⟩, .int .i64 0, .bool false] 31)
  have hb := hl.lt
  have HB := Lib.hid hb
  have qk : oneD (fun s => (s, kindB s != 0)) W d = (f, W0, true) := qk
  have qr : oneD rightV W3 d3 = (1, W4, d4) := by rw [one_word, q4]; simp [rightV, hr]
  have e : cmdD W d = ({ zCmd with kind := 14, actor := s1, schema := s2, table := s3, right := 1, role := s5 }, W5, d5) := by
    unfold cmdD
    rw [qk]
    simp [bindD, hk, tailD, grantD, q1, q2, q3, qr, q5, hm]
  rw [e]
  have H1 := Lib.hid (lname_at (b := b) (p := p) q1)
  have H2 := Lib.hid (lname_at (b := b) (p := p) q2)
  have H3 := Lib.hid (lname_at (b := b) (p := p) q3)
  have H5 := Lib.hid (lname_at (b := b) (p := p) q5)
  have H4 := Lib.hid (lword_at (b := b) (p := p) q4)
  have HM := Lib.hid (lmore_at (b := b) (p := p) hm)
  have ihr := eqS_as hr
  unfold b_read at ihr
  simp only at ihr
  clear e hl qk q0 hk q1 q2 q3 q4 q5 qr hr hm
  go_enter Tryz.func34, Tryz.ntmps34
  go_wp2_with (first
    | (go_at_call 32; with_reducible refine (H0.out _ HX0.out.ds).mono ?_; rintro e w0 ⟨rfl, g0, l0, k0⟩; have X0 := HX0.out.call k0 l0; have y1 := l0.c1; have y2 := l0.f1; have y3 := l0.lt; have X1 := X0.boxBad true [.int .i64 14, .string ⟨#[]⟩, .string ⟨#[]⟩, .string ⟨#[]⟩, .string ⟨#[]⟩, .string ⟨#[]⟩, .slice none 0 0, .string ⟨#[]⟩, .int .i64 0, .slice none 0 0, .int .i64 0, .int .i64 0, .string ⟨#[]⟩, .string ⟨#[]⟩, .string ⟨#[]⟩, .int .i64 0, .bool false] 31; have z0 := X1.lt; obtain ⟨z00, z01, z02⟩ := z0; have X0s := Lib.hid X1; clear l0 k0 X0 X1)
    | (go_at_call 56; with_reducible refine (HK.out _).mono ?_; rintro e wk ⟨rfl, rfl⟩)
    | (go_at_call 57; with_reducible refine (H1.out _ X0s.out.nr.ds).mono ?_; rintro e w1 ⟨rfl, g1, m1, k1⟩; have X1 := X0s.out.call k1 m1; obtain ⟨ca1, fa1⟩ := X1.cf 1 (by simp); obtain ⟨cb1, fb1⟩ := X1.cf 0 (by simp); have z1 := X1.lt; obtain ⟨z10, z11, z12⟩ := z1; have X1s : Nx b p w.heap.size w0.heap.size w _ _ _ [.int .i64 0, .string ⟨#[]⟩, .string ⟨#[]⟩, .string ⟨#[]⟩, .string ⟨#[]⟩, .string ⟨#[]⟩, .slice none 0 0, .string ⟨#[]⟩, .int .i64 0, .slice none 0 0, .int .i64 0, .int .i64 0, .string ⟨#[]⟩, .string ⟨#[]⟩, .string ⟨#[]⟩, .int .i64 0, .bool false] [.int .i64 14, .string s1, .string ⟨#[]⟩, .string ⟨#[]⟩, .string ⟨#[]⟩, .string ⟨#[]⟩, .slice none 0 0, .string ⟨#[]⟩, .int .i64 0, .slice none 0 0, .int .i64 0, .int .i64 0, .string ⟨#[]⟩, .string ⟨#[]⟩, .string ⟨#[]⟩, .int .i64 0, .bool false] := X1.set 1 (.string s1) (by simp); have X1s := Lib.hid X1s; clear m1 k1 X1)
    | (go_at_call 57; with_reducible refine (H2.out _ X1s.out.nr.ds).mono ?_; rintro e w2 ⟨rfl, g2, m2, k2⟩; have X2 := X1s.out.call k2 m2; obtain ⟨ca2, fa2⟩ := X2.cf 2 (by simp); obtain ⟨cb2, fb2⟩ := X2.cf 0 (by simp); have z2 := X2.lt; obtain ⟨z20, z21, z22⟩ := z2; have X2s : Nx b p w.heap.size w0.heap.size w _ _ _ [.int .i64 0, .string ⟨#[]⟩, .string ⟨#[]⟩, .string ⟨#[]⟩, .string ⟨#[]⟩, .string ⟨#[]⟩, .slice none 0 0, .string ⟨#[]⟩, .int .i64 0, .slice none 0 0, .int .i64 0, .int .i64 0, .string ⟨#[]⟩, .string ⟨#[]⟩, .string ⟨#[]⟩, .int .i64 0, .bool false] [.int .i64 14, .string s1, .string s2, .string ⟨#[]⟩, .string ⟨#[]⟩, .string ⟨#[]⟩, .slice none 0 0, .string ⟨#[]⟩, .int .i64 0, .slice none 0 0, .int .i64 0, .int .i64 0, .string ⟨#[]⟩, .string ⟨#[]⟩, .string ⟨#[]⟩, .int .i64 0, .bool false] := X2.set 2 (.string s2) (by simp); have X2s := Lib.hid X2s; clear m2 k2 X2)
    | (go_at_call 57; with_reducible refine (H3.out _ X2s.out.nr.ds).mono ?_; rintro e w3 ⟨rfl, g3, m3, k3⟩; have X3 := X2s.out.call k3 m3; obtain ⟨ca3, fa3⟩ := X3.cf 3 (by simp); obtain ⟨cb3, fb3⟩ := X3.cf 0 (by simp); have z3 := X3.lt; obtain ⟨z30, z31, z32⟩ := z3; have X3s : Nx b p w.heap.size w0.heap.size w _ _ _ [.int .i64 0, .string ⟨#[]⟩, .string ⟨#[]⟩, .string ⟨#[]⟩, .string ⟨#[]⟩, .string ⟨#[]⟩, .slice none 0 0, .string ⟨#[]⟩, .int .i64 0, .slice none 0 0, .int .i64 0, .int .i64 0, .string ⟨#[]⟩, .string ⟨#[]⟩, .string ⟨#[]⟩, .int .i64 0, .bool false] [.int .i64 14, .string s1, .string s2, .string s3, .string ⟨#[]⟩, .string ⟨#[]⟩, .slice none 0 0, .string ⟨#[]⟩, .int .i64 0, .slice none 0 0, .int .i64 0, .int .i64 0, .string ⟨#[]⟩, .string ⟨#[]⟩, .string ⟨#[]⟩, .int .i64 0, .bool false] := X3.set 3 (.string s3) (by simp); have X3s := Lib.hid X3s; clear m3 k3 X3)
    | (go_at_call 32; with_reducible refine (H4.out _ X3s.out.nr.ds).mono ?_; rintro e w4 ⟨rfl, g4, m4, k4⟩; have X4 := X3s.out.call k4 m4; obtain ⟨ca4, fa4⟩ := X4.cf 15 (by simp); have z4 := X4.lt; obtain ⟨z40, z41, z42⟩ := z4; have X4s : Nx b p w.heap.size w0.heap.size w _ _ _ [.int .i64 0, .string ⟨#[]⟩, .string ⟨#[]⟩, .string ⟨#[]⟩, .string ⟨#[]⟩, .string ⟨#[]⟩, .slice none 0 0, .string ⟨#[]⟩, .int .i64 0, .slice none 0 0, .int .i64 0, .int .i64 0, .string ⟨#[]⟩, .string ⟨#[]⟩, .string ⟨#[]⟩, .int .i64 0, .bool false] [.int .i64 14, .string s1, .string s2, .string s3, .string ⟨#[]⟩, .string ⟨#[]⟩, .slice none 0 0, .string ⟨#[]⟩, .int .i64 0, .slice none 0 0, .int .i64 0, .int .i64 0, .string ⟨#[]⟩, .string ⟨#[]⟩, .string ⟨#[]⟩, .int .i64 1, .bool false] := X4.set 15 (.int .i64 1) (by simp); have X4s := Lib.hid X4s; clear m4 k4 X4)
    | (go_at_call 57; with_reducible refine (H5.out _ X4s.out.nr.ds).mono ?_; rintro e w5 ⟨rfl, g5, m5, k5⟩; have X5 := X4s.out.call k5 m5; obtain ⟨ca5, fa5⟩ := X5.cf 5 (by simp); obtain ⟨cb5, fb5⟩ := X5.cf 0 (by simp); have z5 := X5.lt; obtain ⟨z50, z51, z52⟩ := z5; have X5s : Nx b p w.heap.size w0.heap.size w _ _ _ [.int .i64 0, .string ⟨#[]⟩, .string ⟨#[]⟩, .string ⟨#[]⟩, .string ⟨#[]⟩, .string ⟨#[]⟩, .slice none 0 0, .string ⟨#[]⟩, .int .i64 0, .slice none 0 0, .int .i64 0, .int .i64 0, .string ⟨#[]⟩, .string ⟨#[]⟩, .string ⟨#[]⟩, .int .i64 0, .bool false] [.int .i64 14, .string s1, .string s2, .string s3, .string ⟨#[]⟩, .string s5, .slice none 0 0, .string ⟨#[]⟩, .int .i64 0, .slice none 0 0, .int .i64 0, .int .i64 0, .string ⟨#[]⟩, .string ⟨#[]⟩, .string ⟨#[]⟩, .int .i64 1, .bool false] := X5.set 5 (.string s5) (by simp); have X5s := Lib.hid X5s; have e1 := lvCmd_row X5s.out.row rfl; have e2 := svCmd_row X5s.out.nr.res rfl rfl (vs := [.int .i64 14, .string s1, .string s2, .string s3, .string ⟨#[]⟩, .string s5, .slice none 0 0, .string ⟨#[]⟩, .int .i64 0, .slice none 0 0, .int .i64 0, .int .i64 0, .string ⟨#[]⟩, .string ⟨#[]⟩, .string ⟨#[]⟩, .int .i64 1, .bool false]) (by simp [Value.oneCell']); clear m5 k5 X5)
    | (go_at_call 54; with_reducible refine (HM.out _ X5s.out.nr.ds).mono ?_; rintro e wm ⟨rfl, rfl⟩))
  have XR := X5s.out.nr.sets (cs := [.int .i64 14, .string s1, .string s2, .string s3, .string ⟨#[]⟩, .string s5, .slice none 0 0, .string ⟨#[]⟩, .int .i64 0, .slice none 0 0, .int .i64 0, .int .i64 0, .string ⟨#[]⟩, .string ⟨#[]⟩, .string ⟨#[]⟩, .int .i64 1, .bool false]) rfl
  refine bodyPost_ret (results_cell rfl _ rfl (lv_row (T := 31) Tryz.underlying31 (by kernel_rfl) XR.res rfl)) rfl ?_
  exact ⟨XR.kw, _, rfl, ⟨none, 0, none, 0, rfl, colsN_nil _ _ _ HB.out, namesN_nil _ _ _ HB.out, g1, g2, g3, szZ, g5, szZ, szZ, szZ, szZ⟩, XR.ds⟩
set_option maxHeartbeats 2000000 in
theorem commandN_14_read_opt_false (f : ByteArray) (W : Ws) (d : Bool) (W0 : Ws) (q0 : wordD W d = (f, W0, false)) (hk : kindB f = 14) (s1 : ByteArray) (W1 : Ws) (d1 : Bool) (q1 : nameD W0 false = (s1, W1, d1)) (s2 : ByteArray) (W2 : Ws) (d2 : Bool) (q2 : nameD W1 d1 = (s2, W2, d2)) (s3 : ByteArray) (W3 : Ws) (d3 : Bool) (q3 : nameD W2 d2 = (s3, W3, d3)) (f4 : ByteArray) (W4 : Ws) (d4 : Bool) (q4 : wordD W3 d3 = (f4, W4, d4)) (hr : eqS f4 b_read = true) (b p : Nat) (w : World) (hl : LnS w b p W d) (s5 : ByteArray) (W5 : Ws) (d5 : Bool) (q5 : nameD W4 d4 = (s5, W5, d5)) (hm : moreD W5 d5 = true) (f6 : ByteArray) (W6 : Ws) (q6 : wordD W5 d5 = (f6, W6, false)) (ho : eqS f6 b_option = true) : Calls Tryz.prog 34 #[.pointer (some ⟨b, 0, none⟩)] w (RdN b p w (CmdN b w.heap.size) (cmdD W d)) := by
  have H0 := Lib.hid (lword_at (b := b) (p := p) q0)
  have HK := Lib.hid (lkind_at hk)
  have qk := one_kind q0 hk
  have HX0 := Lib.hid (Nr.start hl [.int .i64 0, .string ⟨#[]⟩, .string ⟨#[]⟩, .string ⟨#[]⟩, .string ⟨#[]⟩, .string ⟨#[]⟩, .slice none 0 0, .string ⟨#[]⟩, .int .i64 0, .slice none 0 0, .int .i64 0, .int .i64 0, .string ⟨#[]⟩, .string ⟨#[]⟩, .string ⟨#[]⟩, .int .i64 0, .bool false] 31)
  have hb := hl.lt
  have HB := Lib.hid hb
  have qk : oneD (fun s => (s, kindB s != 0)) W d = (f, W0, false) := qk
  have qr : oneD rightV W3 d3 = (1, W4, d4) := by rw [one_word, q4]; simp [rightV, hr]
  have qo : oneD (fun s => (s, eqS s b_option)) W5 d5 = (f6, W6, false) := by rw [one_word, q6]; simp [ho]
  have e : cmdD W d = ({ zCmd with kind := 14, actor := s1, schema := s2, table := s3, right := 1, role := s5, opt := true }, W6, false) := by
    unfold cmdD
    rw [qk]
    simp [bindD, hk, tailD, grantD, q1, q2, q3, qr, q5, hm, qo]
  rw [e]
  have H1 := Lib.hid (lname_at (b := b) (p := p) q1)
  have H2 := Lib.hid (lname_at (b := b) (p := p) q2)
  have H3 := Lib.hid (lname_at (b := b) (p := p) q3)
  have H5 := Lib.hid (lname_at (b := b) (p := p) q5)
  have H4 := Lib.hid (lword_at (b := b) (p := p) q4)
  have HM := Lib.hid (lmore_at (b := b) (p := p) hm)
  have H6 := Lib.hid (lword_at (b := b) (p := p) q6)
  have io := eqS_as ho
  unfold b_option at io
  simp only at io
  have io' : (f6.toList != [111, 112, 116, 105, 111, 110]) = !(f6.toList == [111, 112, 116, 105, 111, 110]) := rfl
  rw [io] at io'
  have ihr := eqS_as hr
  unfold b_read at ihr
  simp only at ihr
  clear e hl qk q0 hk q1 q2 q3 q4 q5 qr hr hm q6 ho qo
  go_enter Tryz.func34, Tryz.ntmps34
  go_wp2_with (first
    | (go_at_call 32; with_reducible refine (H0.out _ HX0.out.ds).mono ?_; rintro e w0 ⟨rfl, g0, l0, k0⟩; have X0 := HX0.out.call k0 l0; have y1 := l0.c1; have y2 := l0.f1; have y3 := l0.lt; have X1 := X0.boxBad false [.int .i64 14, .string ⟨#[]⟩, .string ⟨#[]⟩, .string ⟨#[]⟩, .string ⟨#[]⟩, .string ⟨#[]⟩, .slice none 0 0, .string ⟨#[]⟩, .int .i64 0, .slice none 0 0, .int .i64 0, .int .i64 0, .string ⟨#[]⟩, .string ⟨#[]⟩, .string ⟨#[]⟩, .int .i64 0, .bool false] 31; have z0 := X1.lt; obtain ⟨z00, z01, z02⟩ := z0; have X0s := Lib.hid X1; clear l0 k0 X0 X1)
    | (go_at_call 56; with_reducible refine (HK.out _).mono ?_; rintro e wk ⟨rfl, rfl⟩)
    | (go_at_call 57; with_reducible refine (H1.out _ X0s.out.nr.ds).mono ?_; rintro e w1 ⟨rfl, g1, m1, k1⟩; have X1 := X0s.out.call k1 m1; obtain ⟨ca1, fa1⟩ := X1.cf 1 (by simp); obtain ⟨cb1, fb1⟩ := X1.cf 0 (by simp); have z1 := X1.lt; obtain ⟨z10, z11, z12⟩ := z1; have X1s : Nx b p w.heap.size w0.heap.size w _ _ _ [.int .i64 0, .string ⟨#[]⟩, .string ⟨#[]⟩, .string ⟨#[]⟩, .string ⟨#[]⟩, .string ⟨#[]⟩, .slice none 0 0, .string ⟨#[]⟩, .int .i64 0, .slice none 0 0, .int .i64 0, .int .i64 0, .string ⟨#[]⟩, .string ⟨#[]⟩, .string ⟨#[]⟩, .int .i64 0, .bool false] [.int .i64 14, .string s1, .string ⟨#[]⟩, .string ⟨#[]⟩, .string ⟨#[]⟩, .string ⟨#[]⟩, .slice none 0 0, .string ⟨#[]⟩, .int .i64 0, .slice none 0 0, .int .i64 0, .int .i64 0, .string ⟨#[]⟩, .string ⟨#[]⟩, .string ⟨#[]⟩, .int .i64 0, .bool false] := X1.set 1 (.string s1) (by simp); have X1s := Lib.hid X1s; clear m1 k1 X1)
    | (go_at_call 57; with_reducible refine (H2.out _ X1s.out.nr.ds).mono ?_; rintro e w2 ⟨rfl, g2, m2, k2⟩; have X2 := X1s.out.call k2 m2; obtain ⟨ca2, fa2⟩ := X2.cf 2 (by simp); obtain ⟨cb2, fb2⟩ := X2.cf 0 (by simp); have z2 := X2.lt; obtain ⟨z20, z21, z22⟩ := z2; have X2s : Nx b p w.heap.size w0.heap.size w _ _ _ [.int .i64 0, .string ⟨#[]⟩, .string ⟨#[]⟩, .string ⟨#[]⟩, .string ⟨#[]⟩, .string ⟨#[]⟩, .slice none 0 0, .string ⟨#[]⟩, .int .i64 0, .slice none 0 0, .int .i64 0, .int .i64 0, .string ⟨#[]⟩, .string ⟨#[]⟩, .string ⟨#[]⟩, .int .i64 0, .bool false] [.int .i64 14, .string s1, .string s2, .string ⟨#[]⟩, .string ⟨#[]⟩, .string ⟨#[]⟩, .slice none 0 0, .string ⟨#[]⟩, .int .i64 0, .slice none 0 0, .int .i64 0, .int .i64 0, .string ⟨#[]⟩, .string ⟨#[]⟩, .string ⟨#[]⟩, .int .i64 0, .bool false] := X2.set 2 (.string s2) (by simp); have X2s := Lib.hid X2s; clear m2 k2 X2)
    | (go_at_call 57; with_reducible refine (H3.out _ X2s.out.nr.ds).mono ?_; rintro e w3 ⟨rfl, g3, m3, k3⟩; have X3 := X2s.out.call k3 m3; obtain ⟨ca3, fa3⟩ := X3.cf 3 (by simp); obtain ⟨cb3, fb3⟩ := X3.cf 0 (by simp); have z3 := X3.lt; obtain ⟨z30, z31, z32⟩ := z3; have X3s : Nx b p w.heap.size w0.heap.size w _ _ _ [.int .i64 0, .string ⟨#[]⟩, .string ⟨#[]⟩, .string ⟨#[]⟩, .string ⟨#[]⟩, .string ⟨#[]⟩, .slice none 0 0, .string ⟨#[]⟩, .int .i64 0, .slice none 0 0, .int .i64 0, .int .i64 0, .string ⟨#[]⟩, .string ⟨#[]⟩, .string ⟨#[]⟩, .int .i64 0, .bool false] [.int .i64 14, .string s1, .string s2, .string s3, .string ⟨#[]⟩, .string ⟨#[]⟩, .slice none 0 0, .string ⟨#[]⟩, .int .i64 0, .slice none 0 0, .int .i64 0, .int .i64 0, .string ⟨#[]⟩, .string ⟨#[]⟩, .string ⟨#[]⟩, .int .i64 0, .bool false] := X3.set 3 (.string s3) (by simp); have X3s := Lib.hid X3s; clear m3 k3 X3)
    | (go_at_call 32; with_reducible refine (H4.out _ X3s.out.nr.ds).mono ?_; rintro e w4 ⟨rfl, g4, m4, k4⟩; have X4 := X3s.out.call k4 m4; obtain ⟨ca4, fa4⟩ := X4.cf 15 (by simp); have z4 := X4.lt; obtain ⟨z40, z41, z42⟩ := z4; have X4s : Nx b p w.heap.size w0.heap.size w _ _ _ [.int .i64 0, .string ⟨#[]⟩, .string ⟨#[]⟩, .string ⟨#[]⟩, .string ⟨#[]⟩, .string ⟨#[]⟩, .slice none 0 0, .string ⟨#[]⟩, .int .i64 0, .slice none 0 0, .int .i64 0, .int .i64 0, .string ⟨#[]⟩, .string ⟨#[]⟩, .string ⟨#[]⟩, .int .i64 0, .bool false] [.int .i64 14, .string s1, .string s2, .string s3, .string ⟨#[]⟩, .string ⟨#[]⟩, .slice none 0 0, .string ⟨#[]⟩, .int .i64 0, .slice none 0 0, .int .i64 0, .int .i64 0, .string ⟨#[]⟩, .string ⟨#[]⟩, .string ⟨#[]⟩, .int .i64 1, .bool false] := X4.set 15 (.int .i64 1) (by simp); have X4s := Lib.hid X4s; clear m4 k4 X4)
    | (go_at_call 57; with_reducible refine (H5.out _ X4s.out.nr.ds).mono ?_; rintro e w5 ⟨rfl, g5, m5, k5⟩; have X5 := X4s.out.call k5 m5; obtain ⟨ca5, fa5⟩ := X5.cf 5 (by simp); obtain ⟨cb5, fb5⟩ := X5.cf 0 (by simp); obtain ⟨cd5, fd5⟩ := X5.cf 16 (by simp); have z5 := X5.lt; obtain ⟨z50, z51, z52⟩ := z5; have X5s : Nx b p w.heap.size w0.heap.size w _ _ _ [.int .i64 0, .string ⟨#[]⟩, .string ⟨#[]⟩, .string ⟨#[]⟩, .string ⟨#[]⟩, .string ⟨#[]⟩, .slice none 0 0, .string ⟨#[]⟩, .int .i64 0, .slice none 0 0, .int .i64 0, .int .i64 0, .string ⟨#[]⟩, .string ⟨#[]⟩, .string ⟨#[]⟩, .int .i64 0, .bool false] [.int .i64 14, .string s1, .string s2, .string s3, .string ⟨#[]⟩, .string s5, .slice none 0 0, .string ⟨#[]⟩, .int .i64 0, .slice none 0 0, .int .i64 0, .int .i64 0, .string ⟨#[]⟩, .string ⟨#[]⟩, .string ⟨#[]⟩, .int .i64 1, .bool false] := X5.set 5 (.string s5) (by simp); have X5s := Lib.hid X5s; have X5o : Nx b p w.heap.size w0.heap.size w _ _ _ [.int .i64 0, .string ⟨#[]⟩, .string ⟨#[]⟩, .string ⟨#[]⟩, .string ⟨#[]⟩, .string ⟨#[]⟩, .slice none 0 0, .string ⟨#[]⟩, .int .i64 0, .slice none 0 0, .int .i64 0, .int .i64 0, .string ⟨#[]⟩, .string ⟨#[]⟩, .string ⟨#[]⟩, .int .i64 0, .bool false] [.int .i64 14, .string s1, .string s2, .string s3, .string ⟨#[]⟩, .string s5, .slice none 0 0, .string ⟨#[]⟩, .int .i64 0, .slice none 0 0, .int .i64 0, .int .i64 0, .string ⟨#[]⟩, .string ⟨#[]⟩, .string ⟨#[]⟩, .int .i64 1, .bool true] := X5s.out.set 16 (.bool true) (by simp); have X5o := Lib.hid X5o; clear m5 k5 X5)
    | (go_at_call 54; with_reducible refine (HM.out _ X5s.out.nr.ds).mono ?_; rintro e wm ⟨rfl, rfl⟩)
    | (go_at_call 32; with_reducible refine (H6.out _ X5o.out.nr.ds).mono ?_; rintro e w6 ⟨rfl, g6, m6, k6⟩; have X6 := X5o.out.call k6 m6; have yz1 := m6.c1; have yz2 := m6.f1; have z6 := X6.lt; obtain ⟨z60, z61, z62⟩ := z6; have X6s := Lib.hid (X6.bad false); have e1 := lvCmd_row X6s.out.row rfl; have e2 := svCmd_row X6s.out.nr.res rfl rfl (vs := [.int .i64 14, .string s1, .string s2, .string s3, .string ⟨#[]⟩, .string s5, .slice none 0 0, .string ⟨#[]⟩, .int .i64 0, .slice none 0 0, .int .i64 0, .int .i64 0, .string ⟨#[]⟩, .string ⟨#[]⟩, .string ⟨#[]⟩, .int .i64 1, .bool true]) (by simp [Value.oneCell']); clear m6 k6 X6))
  have XR := X6s.out.nr.sets (cs := [.int .i64 14, .string s1, .string s2, .string s3, .string ⟨#[]⟩, .string s5, .slice none 0 0, .string ⟨#[]⟩, .int .i64 0, .slice none 0 0, .int .i64 0, .int .i64 0, .string ⟨#[]⟩, .string ⟨#[]⟩, .string ⟨#[]⟩, .int .i64 1, .bool true]) rfl
  refine bodyPost_ret (results_cell rfl _ rfl (lv_row (T := 31) Tryz.underlying31 (by kernel_rfl) XR.res rfl)) rfl ?_
  exact ⟨XR.kw, _, rfl, ⟨none, 0, none, 0, rfl, colsN_nil _ _ _ HB.out, namesN_nil _ _ _ HB.out, g1, g2, g3, szZ, g5, szZ, szZ, szZ, szZ⟩, XR.ds⟩
set_option maxHeartbeats 2000000 in
theorem commandN_14_read_opt_true (f : ByteArray) (W : Ws) (d : Bool) (W0 : Ws) (q0 : wordD W d = (f, W0, true)) (hk : kindB f = 14) (s1 : ByteArray) (W1 : Ws) (d1 : Bool) (q1 : nameD W0 true = (s1, W1, d1)) (s2 : ByteArray) (W2 : Ws) (d2 : Bool) (q2 : nameD W1 d1 = (s2, W2, d2)) (s3 : ByteArray) (W3 : Ws) (d3 : Bool) (q3 : nameD W2 d2 = (s3, W3, d3)) (f4 : ByteArray) (W4 : Ws) (d4 : Bool) (q4 : wordD W3 d3 = (f4, W4, d4)) (hr : eqS f4 b_read = true) (b p : Nat) (w : World) (hl : LnS w b p W d) (s5 : ByteArray) (W5 : Ws) (d5 : Bool) (q5 : nameD W4 d4 = (s5, W5, d5)) (hm : moreD W5 d5 = true) (f6 : ByteArray) (W6 : Ws) (q6 : wordD W5 d5 = (f6, W6, false)) (ho : eqS f6 b_option = true) : Calls Tryz.prog 34 #[.pointer (some ⟨b, 0, none⟩)] w (RdN b p w (CmdN b w.heap.size) (cmdD W d)) := by
  have H0 := Lib.hid (lword_at (b := b) (p := p) q0)
  have HK := Lib.hid (lkind_at hk)
  have qk := one_kind q0 hk
  have HX0 := Lib.hid (Nr.start hl [.int .i64 0, .string ⟨#[]⟩, .string ⟨#[]⟩, .string ⟨#[]⟩, .string ⟨#[]⟩, .string ⟨#[]⟩, .slice none 0 0, .string ⟨#[]⟩, .int .i64 0, .slice none 0 0, .int .i64 0, .int .i64 0, .string ⟨#[]⟩, .string ⟨#[]⟩, .string ⟨#[]⟩, .int .i64 0, .bool false] 31)
  have hb := hl.lt
  have HB := Lib.hid hb
  have qk : oneD (fun s => (s, kindB s != 0)) W d = (f, W0, true) := qk
  have qr : oneD rightV W3 d3 = (1, W4, d4) := by rw [one_word, q4]; simp [rightV, hr]
  have qo : oneD (fun s => (s, eqS s b_option)) W5 d5 = (f6, W6, false) := by rw [one_word, q6]; simp [ho]
  have e : cmdD W d = ({ zCmd with kind := 14, actor := s1, schema := s2, table := s3, right := 1, role := s5, opt := true }, W6, false) := by
    unfold cmdD
    rw [qk]
    simp [bindD, hk, tailD, grantD, q1, q2, q3, qr, q5, hm, qo]
  rw [e]
  have H1 := Lib.hid (lname_at (b := b) (p := p) q1)
  have H2 := Lib.hid (lname_at (b := b) (p := p) q2)
  have H3 := Lib.hid (lname_at (b := b) (p := p) q3)
  have H5 := Lib.hid (lname_at (b := b) (p := p) q5)
  have H4 := Lib.hid (lword_at (b := b) (p := p) q4)
  have HM := Lib.hid (lmore_at (b := b) (p := p) hm)
  have H6 := Lib.hid (lword_at (b := b) (p := p) q6)
  have io := eqS_as ho
  unfold b_option at io
  simp only at io
  have io' : (f6.toList != [111, 112, 116, 105, 111, 110]) = !(f6.toList == [111, 112, 116, 105, 111, 110]) := rfl
  rw [io] at io'
  have ihr := eqS_as hr
  unfold b_read at ihr
  simp only at ihr
  clear e hl qk q0 hk q1 q2 q3 q4 q5 qr hr hm q6 ho qo
  go_enter Tryz.func34, Tryz.ntmps34
  go_wp2_with (first
    | (go_at_call 32; with_reducible refine (H0.out _ HX0.out.ds).mono ?_; rintro e w0 ⟨rfl, g0, l0, k0⟩; have X0 := HX0.out.call k0 l0; have y1 := l0.c1; have y2 := l0.f1; have y3 := l0.lt; have X1 := X0.boxBad true [.int .i64 14, .string ⟨#[]⟩, .string ⟨#[]⟩, .string ⟨#[]⟩, .string ⟨#[]⟩, .string ⟨#[]⟩, .slice none 0 0, .string ⟨#[]⟩, .int .i64 0, .slice none 0 0, .int .i64 0, .int .i64 0, .string ⟨#[]⟩, .string ⟨#[]⟩, .string ⟨#[]⟩, .int .i64 0, .bool false] 31; have z0 := X1.lt; obtain ⟨z00, z01, z02⟩ := z0; have X0s := Lib.hid X1; clear l0 k0 X0 X1)
    | (go_at_call 56; with_reducible refine (HK.out _).mono ?_; rintro e wk ⟨rfl, rfl⟩)
    | (go_at_call 57; with_reducible refine (H1.out _ X0s.out.nr.ds).mono ?_; rintro e w1 ⟨rfl, g1, m1, k1⟩; have X1 := X0s.out.call k1 m1; obtain ⟨ca1, fa1⟩ := X1.cf 1 (by simp); obtain ⟨cb1, fb1⟩ := X1.cf 0 (by simp); have z1 := X1.lt; obtain ⟨z10, z11, z12⟩ := z1; have X1s : Nx b p w.heap.size w0.heap.size w _ _ _ [.int .i64 0, .string ⟨#[]⟩, .string ⟨#[]⟩, .string ⟨#[]⟩, .string ⟨#[]⟩, .string ⟨#[]⟩, .slice none 0 0, .string ⟨#[]⟩, .int .i64 0, .slice none 0 0, .int .i64 0, .int .i64 0, .string ⟨#[]⟩, .string ⟨#[]⟩, .string ⟨#[]⟩, .int .i64 0, .bool false] [.int .i64 14, .string s1, .string ⟨#[]⟩, .string ⟨#[]⟩, .string ⟨#[]⟩, .string ⟨#[]⟩, .slice none 0 0, .string ⟨#[]⟩, .int .i64 0, .slice none 0 0, .int .i64 0, .int .i64 0, .string ⟨#[]⟩, .string ⟨#[]⟩, .string ⟨#[]⟩, .int .i64 0, .bool false] := X1.set 1 (.string s1) (by simp); have X1s := Lib.hid X1s; clear m1 k1 X1)
    | (go_at_call 57; with_reducible refine (H2.out _ X1s.out.nr.ds).mono ?_; rintro e w2 ⟨rfl, g2, m2, k2⟩; have X2 := X1s.out.call k2 m2; obtain ⟨ca2, fa2⟩ := X2.cf 2 (by simp); obtain ⟨cb2, fb2⟩ := X2.cf 0 (by simp); have z2 := X2.lt; obtain ⟨z20, z21, z22⟩ := z2; have X2s : Nx b p w.heap.size w0.heap.size w _ _ _ [.int .i64 0, .string ⟨#[]⟩, .string ⟨#[]⟩, .string ⟨#[]⟩, .string ⟨#[]⟩, .string ⟨#[]⟩, .slice none 0 0, .string ⟨#[]⟩, .int .i64 0, .slice none 0 0, .int .i64 0, .int .i64 0, .string ⟨#[]⟩, .string ⟨#[]⟩, .string ⟨#[]⟩, .int .i64 0, .bool false] [.int .i64 14, .string s1, .string s2, .string ⟨#[]⟩, .string ⟨#[]⟩, .string ⟨#[]⟩, .slice none 0 0, .string ⟨#[]⟩, .int .i64 0, .slice none 0 0, .int .i64 0, .int .i64 0, .string ⟨#[]⟩, .string ⟨#[]⟩, .string ⟨#[]⟩, .int .i64 0, .bool false] := X2.set 2 (.string s2) (by simp); have X2s := Lib.hid X2s; clear m2 k2 X2)
    | (go_at_call 57; with_reducible refine (H3.out _ X2s.out.nr.ds).mono ?_; rintro e w3 ⟨rfl, g3, m3, k3⟩; have X3 := X2s.out.call k3 m3; obtain ⟨ca3, fa3⟩ := X3.cf 3 (by simp); obtain ⟨cb3, fb3⟩ := X3.cf 0 (by simp); have z3 := X3.lt; obtain ⟨z30, z31, z32⟩ := z3; have X3s : Nx b p w.heap.size w0.heap.size w _ _ _ [.int .i64 0, .string ⟨#[]⟩, .string ⟨#[]⟩, .string ⟨#[]⟩, .string ⟨#[]⟩, .string ⟨#[]⟩, .slice none 0 0, .string ⟨#[]⟩, .int .i64 0, .slice none 0 0, .int .i64 0, .int .i64 0, .string ⟨#[]⟩, .string ⟨#[]⟩, .string ⟨#[]⟩, .int .i64 0, .bool false] [.int .i64 14, .string s1, .string s2, .string s3, .string ⟨#[]⟩, .string ⟨#[]⟩, .slice none 0 0, .string ⟨#[]⟩, .int .i64 0, .slice none 0 0, .int .i64 0, .int .i64 0, .string ⟨#[]⟩, .string ⟨#[]⟩, .string ⟨#[]⟩, .int .i64 0, .bool false] := X3.set 3 (.string s3) (by simp); have X3s := Lib.hid X3s; clear m3 k3 X3)
    | (go_at_call 32; with_reducible refine (H4.out _ X3s.out.nr.ds).mono ?_; rintro e w4 ⟨rfl, g4, m4, k4⟩; have X4 := X3s.out.call k4 m4; obtain ⟨ca4, fa4⟩ := X4.cf 15 (by simp); have z4 := X4.lt; obtain ⟨z40, z41, z42⟩ := z4; have X4s : Nx b p w.heap.size w0.heap.size w _ _ _ [.int .i64 0, .string ⟨#[]⟩, .string ⟨#[]⟩, .string ⟨#[]⟩, .string ⟨#[]⟩, .string ⟨#[]⟩, .slice none 0 0, .string ⟨#[]⟩, .int .i64 0, .slice none 0 0, .int .i64 0, .int .i64 0, .string ⟨#[]⟩, .string ⟨#[]⟩, .string ⟨#[]⟩, .int .i64 0, .bool false] [.int .i64 14, .string s1, .string s2, .string s3, .string ⟨#[]⟩, .string ⟨#[]⟩, .slice none 0 0, .string ⟨#[]⟩, .int .i64 0, .slice none 0 0, .int .i64 0, .int .i64 0, .string ⟨#[]⟩, .string ⟨#[]⟩, .string ⟨#[]⟩, .int .i64 1, .bool false] := X4.set 15 (.int .i64 1) (by simp); have X4s := Lib.hid X4s; clear m4 k4 X4)
    | (go_at_call 57; with_reducible refine (H5.out _ X4s.out.nr.ds).mono ?_; rintro e w5 ⟨rfl, g5, m5, k5⟩; have X5 := X4s.out.call k5 m5; obtain ⟨ca5, fa5⟩ := X5.cf 5 (by simp); obtain ⟨cb5, fb5⟩ := X5.cf 0 (by simp); obtain ⟨cd5, fd5⟩ := X5.cf 16 (by simp); have z5 := X5.lt; obtain ⟨z50, z51, z52⟩ := z5; have X5s : Nx b p w.heap.size w0.heap.size w _ _ _ [.int .i64 0, .string ⟨#[]⟩, .string ⟨#[]⟩, .string ⟨#[]⟩, .string ⟨#[]⟩, .string ⟨#[]⟩, .slice none 0 0, .string ⟨#[]⟩, .int .i64 0, .slice none 0 0, .int .i64 0, .int .i64 0, .string ⟨#[]⟩, .string ⟨#[]⟩, .string ⟨#[]⟩, .int .i64 0, .bool false] [.int .i64 14, .string s1, .string s2, .string s3, .string ⟨#[]⟩, .string s5, .slice none 0 0, .string ⟨#[]⟩, .int .i64 0, .slice none 0 0, .int .i64 0, .int .i64 0, .string ⟨#[]⟩, .string ⟨#[]⟩, .string ⟨#[]⟩, .int .i64 1, .bool false] := X5.set 5 (.string s5) (by simp); have X5s := Lib.hid X5s; have X5o : Nx b p w.heap.size w0.heap.size w _ _ _ [.int .i64 0, .string ⟨#[]⟩, .string ⟨#[]⟩, .string ⟨#[]⟩, .string ⟨#[]⟩, .string ⟨#[]⟩, .slice none 0 0, .string ⟨#[]⟩, .int .i64 0, .slice none 0 0, .int .i64 0, .int .i64 0, .string ⟨#[]⟩, .string ⟨#[]⟩, .string ⟨#[]⟩, .int .i64 0, .bool false] [.int .i64 14, .string s1, .string s2, .string s3, .string ⟨#[]⟩, .string s5, .slice none 0 0, .string ⟨#[]⟩, .int .i64 0, .slice none 0 0, .int .i64 0, .int .i64 0, .string ⟨#[]⟩, .string ⟨#[]⟩, .string ⟨#[]⟩, .int .i64 1, .bool true] := X5s.out.set 16 (.bool true) (by simp); have X5o := Lib.hid X5o; clear m5 k5 X5)
    | (go_at_call 54; with_reducible refine (HM.out _ X5s.out.nr.ds).mono ?_; rintro e wm ⟨rfl, rfl⟩)
    | (go_at_call 32; with_reducible refine (H6.out _ X5o.out.nr.ds).mono ?_; rintro e w6 ⟨rfl, g6, m6, k6⟩; have X6 := X5o.out.call k6 m6; have yz1 := m6.c1; have yz2 := m6.f1; have z6 := X6.lt; obtain ⟨z60, z61, z62⟩ := z6; have X6s := Lib.hid (X6.bad false); have e1 := lvCmd_row X6s.out.row rfl; have e2 := svCmd_row X6s.out.nr.res rfl rfl (vs := [.int .i64 14, .string s1, .string s2, .string s3, .string ⟨#[]⟩, .string s5, .slice none 0 0, .string ⟨#[]⟩, .int .i64 0, .slice none 0 0, .int .i64 0, .int .i64 0, .string ⟨#[]⟩, .string ⟨#[]⟩, .string ⟨#[]⟩, .int .i64 1, .bool true]) (by simp [Value.oneCell']); clear m6 k6 X6))
  have XR := X6s.out.nr.sets (cs := [.int .i64 14, .string s1, .string s2, .string s3, .string ⟨#[]⟩, .string s5, .slice none 0 0, .string ⟨#[]⟩, .int .i64 0, .slice none 0 0, .int .i64 0, .int .i64 0, .string ⟨#[]⟩, .string ⟨#[]⟩, .string ⟨#[]⟩, .int .i64 1, .bool true]) rfl
  refine bodyPost_ret (results_cell rfl _ rfl (lv_row (T := 31) Tryz.underlying31 (by kernel_rfl) XR.res rfl)) rfl ?_
  exact ⟨XR.kw, _, rfl, ⟨none, 0, none, 0, rfl, colsN_nil _ _ _ HB.out, namesN_nil _ _ _ HB.out, g1, g2, g3, szZ, g5, szZ, szZ, szZ, szZ⟩, XR.ds⟩
set_option maxHeartbeats 2000000 in
theorem commandN_14_read_noopt_false (f : ByteArray) (W : Ws) (d : Bool) (W0 : Ws) (q0 : wordD W d = (f, W0, false)) (hk : kindB f = 14) (s1 : ByteArray) (W1 : Ws) (d1 : Bool) (q1 : nameD W0 false = (s1, W1, d1)) (s2 : ByteArray) (W2 : Ws) (d2 : Bool) (q2 : nameD W1 d1 = (s2, W2, d2)) (s3 : ByteArray) (W3 : Ws) (d3 : Bool) (q3 : nameD W2 d2 = (s3, W3, d3)) (f4 : ByteArray) (W4 : Ws) (d4 : Bool) (q4 : wordD W3 d3 = (f4, W4, d4)) (hr : eqS f4 b_read = true) (b p : Nat) (w : World) (hl : LnS w b p W d) (s5 : ByteArray) (W5 : Ws) (d5 : Bool) (q5 : nameD W4 d4 = (s5, W5, d5)) (hm : moreD W5 d5 = true) (f6 : ByteArray) (W6 : Ws) (q6 : wordD W5 d5 = (f6, W6, false)) (ho : eqS f6 b_option = false) : Calls Tryz.prog 34 #[.pointer (some ⟨b, 0, none⟩)] w (RdN b p w (CmdN b w.heap.size) (cmdD W d)) := by
  have H0 := Lib.hid (lword_at (b := b) (p := p) q0)
  have HK := Lib.hid (lkind_at hk)
  have qk := one_kind q0 hk
  have HX0 := Lib.hid (Nr.start hl [.int .i64 0, .string ⟨#[]⟩, .string ⟨#[]⟩, .string ⟨#[]⟩, .string ⟨#[]⟩, .string ⟨#[]⟩, .slice none 0 0, .string ⟨#[]⟩, .int .i64 0, .slice none 0 0, .int .i64 0, .int .i64 0, .string ⟨#[]⟩, .string ⟨#[]⟩, .string ⟨#[]⟩, .int .i64 0, .bool false] 31)
  have hb := hl.lt
  have HB := Lib.hid hb
  have qk : oneD (fun s => (s, kindB s != 0)) W d = (f, W0, false) := qk
  have qr : oneD rightV W3 d3 = (1, W4, d4) := by rw [one_word, q4]; simp [rightV, hr]
  have qo : oneD (fun s => (s, eqS s b_option)) W5 d5 = (f6, W6, true) := by rw [one_word, q6]; simp [ho]
  have e : cmdD W d = ({ zCmd with kind := 14, actor := s1, schema := s2, table := s3, right := 1, role := s5, opt := true }, W6, true) := by
    unfold cmdD
    rw [qk]
    simp [bindD, hk, tailD, grantD, q1, q2, q3, qr, q5, hm, qo]
  rw [e]
  have H1 := Lib.hid (lname_at (b := b) (p := p) q1)
  have H2 := Lib.hid (lname_at (b := b) (p := p) q2)
  have H3 := Lib.hid (lname_at (b := b) (p := p) q3)
  have H5 := Lib.hid (lname_at (b := b) (p := p) q5)
  have H4 := Lib.hid (lword_at (b := b) (p := p) q4)
  have HM := Lib.hid (lmore_at (b := b) (p := p) hm)
  have H6 := Lib.hid (lword_at (b := b) (p := p) q6)
  have io := eqS_as ho
  unfold b_option at io
  simp only at io
  have io' : (f6.toList != [111, 112, 116, 105, 111, 110]) = !(f6.toList == [111, 112, 116, 105, 111, 110]) := rfl
  rw [io] at io'
  have ihr := eqS_as hr
  unfold b_read at ihr
  simp only at ihr
  clear e hl qk q0 hk q1 q2 q3 q4 q5 qr hr hm q6 ho qo
  go_enter Tryz.func34, Tryz.ntmps34
  go_wp2_with (first
    | (go_at_call 32; with_reducible refine (H0.out _ HX0.out.ds).mono ?_; rintro e w0 ⟨rfl, g0, l0, k0⟩; have X0 := HX0.out.call k0 l0; have y1 := l0.c1; have y2 := l0.f1; have y3 := l0.lt; have X1 := X0.boxBad false [.int .i64 14, .string ⟨#[]⟩, .string ⟨#[]⟩, .string ⟨#[]⟩, .string ⟨#[]⟩, .string ⟨#[]⟩, .slice none 0 0, .string ⟨#[]⟩, .int .i64 0, .slice none 0 0, .int .i64 0, .int .i64 0, .string ⟨#[]⟩, .string ⟨#[]⟩, .string ⟨#[]⟩, .int .i64 0, .bool false] 31; have z0 := X1.lt; obtain ⟨z00, z01, z02⟩ := z0; have X0s := Lib.hid X1; clear l0 k0 X0 X1)
    | (go_at_call 56; with_reducible refine (HK.out _).mono ?_; rintro e wk ⟨rfl, rfl⟩)
    | (go_at_call 57; with_reducible refine (H1.out _ X0s.out.nr.ds).mono ?_; rintro e w1 ⟨rfl, g1, m1, k1⟩; have X1 := X0s.out.call k1 m1; obtain ⟨ca1, fa1⟩ := X1.cf 1 (by simp); obtain ⟨cb1, fb1⟩ := X1.cf 0 (by simp); have z1 := X1.lt; obtain ⟨z10, z11, z12⟩ := z1; have X1s : Nx b p w.heap.size w0.heap.size w _ _ _ [.int .i64 0, .string ⟨#[]⟩, .string ⟨#[]⟩, .string ⟨#[]⟩, .string ⟨#[]⟩, .string ⟨#[]⟩, .slice none 0 0, .string ⟨#[]⟩, .int .i64 0, .slice none 0 0, .int .i64 0, .int .i64 0, .string ⟨#[]⟩, .string ⟨#[]⟩, .string ⟨#[]⟩, .int .i64 0, .bool false] [.int .i64 14, .string s1, .string ⟨#[]⟩, .string ⟨#[]⟩, .string ⟨#[]⟩, .string ⟨#[]⟩, .slice none 0 0, .string ⟨#[]⟩, .int .i64 0, .slice none 0 0, .int .i64 0, .int .i64 0, .string ⟨#[]⟩, .string ⟨#[]⟩, .string ⟨#[]⟩, .int .i64 0, .bool false] := X1.set 1 (.string s1) (by simp); have X1s := Lib.hid X1s; clear m1 k1 X1)
    | (go_at_call 57; with_reducible refine (H2.out _ X1s.out.nr.ds).mono ?_; rintro e w2 ⟨rfl, g2, m2, k2⟩; have X2 := X1s.out.call k2 m2; obtain ⟨ca2, fa2⟩ := X2.cf 2 (by simp); obtain ⟨cb2, fb2⟩ := X2.cf 0 (by simp); have z2 := X2.lt; obtain ⟨z20, z21, z22⟩ := z2; have X2s : Nx b p w.heap.size w0.heap.size w _ _ _ [.int .i64 0, .string ⟨#[]⟩, .string ⟨#[]⟩, .string ⟨#[]⟩, .string ⟨#[]⟩, .string ⟨#[]⟩, .slice none 0 0, .string ⟨#[]⟩, .int .i64 0, .slice none 0 0, .int .i64 0, .int .i64 0, .string ⟨#[]⟩, .string ⟨#[]⟩, .string ⟨#[]⟩, .int .i64 0, .bool false] [.int .i64 14, .string s1, .string s2, .string ⟨#[]⟩, .string ⟨#[]⟩, .string ⟨#[]⟩, .slice none 0 0, .string ⟨#[]⟩, .int .i64 0, .slice none 0 0, .int .i64 0, .int .i64 0, .string ⟨#[]⟩, .string ⟨#[]⟩, .string ⟨#[]⟩, .int .i64 0, .bool false] := X2.set 2 (.string s2) (by simp); have X2s := Lib.hid X2s; clear m2 k2 X2)
    | (go_at_call 57; with_reducible refine (H3.out _ X2s.out.nr.ds).mono ?_; rintro e w3 ⟨rfl, g3, m3, k3⟩; have X3 := X2s.out.call k3 m3; obtain ⟨ca3, fa3⟩ := X3.cf 3 (by simp); obtain ⟨cb3, fb3⟩ := X3.cf 0 (by simp); have z3 := X3.lt; obtain ⟨z30, z31, z32⟩ := z3; have X3s : Nx b p w.heap.size w0.heap.size w _ _ _ [.int .i64 0, .string ⟨#[]⟩, .string ⟨#[]⟩, .string ⟨#[]⟩, .string ⟨#[]⟩, .string ⟨#[]⟩, .slice none 0 0, .string ⟨#[]⟩, .int .i64 0, .slice none 0 0, .int .i64 0, .int .i64 0, .string ⟨#[]⟩, .string ⟨#[]⟩, .string ⟨#[]⟩, .int .i64 0, .bool false] [.int .i64 14, .string s1, .string s2, .string s3, .string ⟨#[]⟩, .string ⟨#[]⟩, .slice none 0 0, .string ⟨#[]⟩, .int .i64 0, .slice none 0 0, .int .i64 0, .int .i64 0, .string ⟨#[]⟩, .string ⟨#[]⟩, .string ⟨#[]⟩, .int .i64 0, .bool false] := X3.set 3 (.string s3) (by simp); have X3s := Lib.hid X3s; clear m3 k3 X3)
    | (go_at_call 32; with_reducible refine (H4.out _ X3s.out.nr.ds).mono ?_; rintro e w4 ⟨rfl, g4, m4, k4⟩; have X4 := X3s.out.call k4 m4; obtain ⟨ca4, fa4⟩ := X4.cf 15 (by simp); have z4 := X4.lt; obtain ⟨z40, z41, z42⟩ := z4; have X4s : Nx b p w.heap.size w0.heap.size w _ _ _ [.int .i64 0, .string ⟨#[]⟩, .string ⟨#[]⟩, .string ⟨#[]⟩, .string ⟨#[]⟩, .string ⟨#[]⟩, .slice none 0 0, .string ⟨#[]⟩, .int .i64 0, .slice none 0 0, .int .i64 0, .int .i64 0, .string ⟨#[]⟩, .string ⟨#[]⟩, .string ⟨#[]⟩, .int .i64 0, .bool false] [.int .i64 14, .string s1, .string s2, .string s3, .string ⟨#[]⟩, .string ⟨#[]⟩, .slice none 0 0, .string ⟨#[]⟩, .int .i64 0, .slice none 0 0, .int .i64 0, .int .i64 0, .string ⟨#[]⟩, .string ⟨#[]⟩, .string ⟨#[]⟩, .int .i64 1, .bool false] := X4.set 15 (.int .i64 1) (by simp); have X4s := Lib.hid X4s; clear m4 k4 X4)
    | (go_at_call 57; with_reducible refine (H5.out _ X4s.out.nr.ds).mono ?_; rintro e w5 ⟨rfl, g5, m5, k5⟩; have X5 := X4s.out.call k5 m5; obtain ⟨ca5, fa5⟩ := X5.cf 5 (by simp); obtain ⟨cb5, fb5⟩ := X5.cf 0 (by simp); obtain ⟨cd5, fd5⟩ := X5.cf 16 (by simp); have z5 := X5.lt; obtain ⟨z50, z51, z52⟩ := z5; have X5s : Nx b p w.heap.size w0.heap.size w _ _ _ [.int .i64 0, .string ⟨#[]⟩, .string ⟨#[]⟩, .string ⟨#[]⟩, .string ⟨#[]⟩, .string ⟨#[]⟩, .slice none 0 0, .string ⟨#[]⟩, .int .i64 0, .slice none 0 0, .int .i64 0, .int .i64 0, .string ⟨#[]⟩, .string ⟨#[]⟩, .string ⟨#[]⟩, .int .i64 0, .bool false] [.int .i64 14, .string s1, .string s2, .string s3, .string ⟨#[]⟩, .string s5, .slice none 0 0, .string ⟨#[]⟩, .int .i64 0, .slice none 0 0, .int .i64 0, .int .i64 0, .string ⟨#[]⟩, .string ⟨#[]⟩, .string ⟨#[]⟩, .int .i64 1, .bool false] := X5.set 5 (.string s5) (by simp); have X5s := Lib.hid X5s; have X5o : Nx b p w.heap.size w0.heap.size w _ _ _ [.int .i64 0, .string ⟨#[]⟩, .string ⟨#[]⟩, .string ⟨#[]⟩, .string ⟨#[]⟩, .string ⟨#[]⟩, .slice none 0 0, .string ⟨#[]⟩, .int .i64 0, .slice none 0 0, .int .i64 0, .int .i64 0, .string ⟨#[]⟩, .string ⟨#[]⟩, .string ⟨#[]⟩, .int .i64 0, .bool false] [.int .i64 14, .string s1, .string s2, .string s3, .string ⟨#[]⟩, .string s5, .slice none 0 0, .string ⟨#[]⟩, .int .i64 0, .slice none 0 0, .int .i64 0, .int .i64 0, .string ⟨#[]⟩, .string ⟨#[]⟩, .string ⟨#[]⟩, .int .i64 1, .bool true] := X5s.out.set 16 (.bool true) (by simp); have X5o := Lib.hid X5o; clear m5 k5 X5)
    | (go_at_call 54; with_reducible refine (HM.out _ X5s.out.nr.ds).mono ?_; rintro e wm ⟨rfl, rfl⟩)
    | (go_at_call 32; with_reducible refine (H6.out _ X5o.out.nr.ds).mono ?_; rintro e w6 ⟨rfl, g6, m6, k6⟩; have X6 := X5o.out.call k6 m6; have yz1 := m6.c1; have yz2 := m6.f1; have z6 := X6.lt; obtain ⟨z60, z61, z62⟩ := z6; have X6s := Lib.hid (X6.bad true); have e1 := lvCmd_row X6s.out.row rfl; have e2 := svCmd_row X6s.out.nr.res rfl rfl (vs := [.int .i64 14, .string s1, .string s2, .string s3, .string ⟨#[]⟩, .string s5, .slice none 0 0, .string ⟨#[]⟩, .int .i64 0, .slice none 0 0, .int .i64 0, .int .i64 0, .string ⟨#[]⟩, .string ⟨#[]⟩, .string ⟨#[]⟩, .int .i64 1, .bool true]) (by simp [Value.oneCell']); clear m6 k6 X6))
  have XR := X6s.out.nr.sets (cs := [.int .i64 14, .string s1, .string s2, .string s3, .string ⟨#[]⟩, .string s5, .slice none 0 0, .string ⟨#[]⟩, .int .i64 0, .slice none 0 0, .int .i64 0, .int .i64 0, .string ⟨#[]⟩, .string ⟨#[]⟩, .string ⟨#[]⟩, .int .i64 1, .bool true]) rfl
  refine bodyPost_ret (results_cell rfl _ rfl (lv_row (T := 31) Tryz.underlying31 (by kernel_rfl) XR.res rfl)) rfl ?_
  exact ⟨XR.kw, _, rfl, ⟨none, 0, none, 0, rfl, colsN_nil _ _ _ HB.out, namesN_nil _ _ _ HB.out, g1, g2, g3, szZ, g5, szZ, szZ, szZ, szZ⟩, XR.ds⟩
set_option maxHeartbeats 2000000 in
theorem commandN_14_read_noopt_true (f : ByteArray) (W : Ws) (d : Bool) (W0 : Ws) (q0 : wordD W d = (f, W0, true)) (hk : kindB f = 14) (s1 : ByteArray) (W1 : Ws) (d1 : Bool) (q1 : nameD W0 true = (s1, W1, d1)) (s2 : ByteArray) (W2 : Ws) (d2 : Bool) (q2 : nameD W1 d1 = (s2, W2, d2)) (s3 : ByteArray) (W3 : Ws) (d3 : Bool) (q3 : nameD W2 d2 = (s3, W3, d3)) (f4 : ByteArray) (W4 : Ws) (d4 : Bool) (q4 : wordD W3 d3 = (f4, W4, d4)) (hr : eqS f4 b_read = true) (b p : Nat) (w : World) (hl : LnS w b p W d) (s5 : ByteArray) (W5 : Ws) (d5 : Bool) (q5 : nameD W4 d4 = (s5, W5, d5)) (hm : moreD W5 d5 = true) (f6 : ByteArray) (W6 : Ws) (q6 : wordD W5 d5 = (f6, W6, false)) (ho : eqS f6 b_option = false) : Calls Tryz.prog 34 #[.pointer (some ⟨b, 0, none⟩)] w (RdN b p w (CmdN b w.heap.size) (cmdD W d)) := by
  have H0 := Lib.hid (lword_at (b := b) (p := p) q0)
  have HK := Lib.hid (lkind_at hk)
  have qk := one_kind q0 hk
  have HX0 := Lib.hid (Nr.start hl [.int .i64 0, .string ⟨#[]⟩, .string ⟨#[]⟩, .string ⟨#[]⟩, .string ⟨#[]⟩, .string ⟨#[]⟩, .slice none 0 0, .string ⟨#[]⟩, .int .i64 0, .slice none 0 0, .int .i64 0, .int .i64 0, .string ⟨#[]⟩, .string ⟨#[]⟩, .string ⟨#[]⟩, .int .i64 0, .bool false] 31)
  have hb := hl.lt
  have HB := Lib.hid hb
  have qk : oneD (fun s => (s, kindB s != 0)) W d = (f, W0, true) := qk
  have qr : oneD rightV W3 d3 = (1, W4, d4) := by rw [one_word, q4]; simp [rightV, hr]
  have qo : oneD (fun s => (s, eqS s b_option)) W5 d5 = (f6, W6, true) := by rw [one_word, q6]; simp [ho]
  have e : cmdD W d = ({ zCmd with kind := 14, actor := s1, schema := s2, table := s3, right := 1, role := s5, opt := true }, W6, true) := by
    unfold cmdD
    rw [qk]
    simp [bindD, hk, tailD, grantD, q1, q2, q3, qr, q5, hm, qo]
  rw [e]
  have H1 := Lib.hid (lname_at (b := b) (p := p) q1)
  have H2 := Lib.hid (lname_at (b := b) (p := p) q2)
  have H3 := Lib.hid (lname_at (b := b) (p := p) q3)
  have H5 := Lib.hid (lname_at (b := b) (p := p) q5)
  have H4 := Lib.hid (lword_at (b := b) (p := p) q4)
  have HM := Lib.hid (lmore_at (b := b) (p := p) hm)
  have H6 := Lib.hid (lword_at (b := b) (p := p) q6)
  have io := eqS_as ho
  unfold b_option at io
  simp only at io
  have io' : (f6.toList != [111, 112, 116, 105, 111, 110]) = !(f6.toList == [111, 112, 116, 105, 111, 110]) := rfl
  rw [io] at io'
  have ihr := eqS_as hr
  unfold b_read at ihr
  simp only at ihr
  clear e hl qk q0 hk q1 q2 q3 q4 q5 qr hr hm q6 ho qo
  go_enter Tryz.func34, Tryz.ntmps34
  go_wp2_with (first
    | (go_at_call 32; with_reducible refine (H0.out _ HX0.out.ds).mono ?_; rintro e w0 ⟨rfl, g0, l0, k0⟩; have X0 := HX0.out.call k0 l0; have y1 := l0.c1; have y2 := l0.f1; have y3 := l0.lt; have X1 := X0.boxBad true [.int .i64 14, .string ⟨#[]⟩, .string ⟨#[]⟩, .string ⟨#[]⟩, .string ⟨#[]⟩, .string ⟨#[]⟩, .slice none 0 0, .string ⟨#[]⟩, .int .i64 0, .slice none 0 0, .int .i64 0, .int .i64 0, .string ⟨#[]⟩, .string ⟨#[]⟩, .string ⟨#[]⟩, .int .i64 0, .bool false] 31; have z0 := X1.lt; obtain ⟨z00, z01, z02⟩ := z0; have X0s := Lib.hid X1; clear l0 k0 X0 X1)
    | (go_at_call 56; with_reducible refine (HK.out _).mono ?_; rintro e wk ⟨rfl, rfl⟩)
    | (go_at_call 57; with_reducible refine (H1.out _ X0s.out.nr.ds).mono ?_; rintro e w1 ⟨rfl, g1, m1, k1⟩; have X1 := X0s.out.call k1 m1; obtain ⟨ca1, fa1⟩ := X1.cf 1 (by simp); obtain ⟨cb1, fb1⟩ := X1.cf 0 (by simp); have z1 := X1.lt; obtain ⟨z10, z11, z12⟩ := z1; have X1s : Nx b p w.heap.size w0.heap.size w _ _ _ [.int .i64 0, .string ⟨#[]⟩, .string ⟨#[]⟩, .string ⟨#[]⟩, .string ⟨#[]⟩, .string ⟨#[]⟩, .slice none 0 0, .string ⟨#[]⟩, .int .i64 0, .slice none 0 0, .int .i64 0, .int .i64 0, .string ⟨#[]⟩, .string ⟨#[]⟩, .string ⟨#[]⟩, .int .i64 0, .bool false] [.int .i64 14, .string s1, .string ⟨#[]⟩, .string ⟨#[]⟩, .string ⟨#[]⟩, .string ⟨#[]⟩, .slice none 0 0, .string ⟨#[]⟩, .int .i64 0, .slice none 0 0, .int .i64 0, .int .i64 0, .string ⟨#[]⟩, .string ⟨#[]⟩, .string ⟨#[]⟩, .int .i64 0, .bool false] := X1.set 1 (.string s1) (by simp); have X1s := Lib.hid X1s; clear m1 k1 X1)
    | (go_at_call 57; with_reducible refine (H2.out _ X1s.out.nr.ds).mono ?_; rintro e w2 ⟨rfl, g2, m2, k2⟩; have X2 := X1s.out.call k2 m2; obtain ⟨ca2, fa2⟩ := X2.cf 2 (by simp); obtain ⟨cb2, fb2⟩ := X2.cf 0 (by simp); have z2 := X2.lt; obtain ⟨z20, z21, z22⟩ := z2; have X2s : Nx b p w.heap.size w0.heap.size w _ _ _ [.int .i64 0, .string ⟨#[]⟩, .string ⟨#[]⟩, .string ⟨#[]⟩, .string ⟨#[]⟩, .string ⟨#[]⟩, .slice none 0 0, .string ⟨#[]⟩, .int .i64 0, .slice none 0 0, .int .i64 0, .int .i64 0, .string ⟨#[]⟩, .string ⟨#[]⟩, .string ⟨#[]⟩, .int .i64 0, .bool false] [.int .i64 14, .string s1, .string s2, .string ⟨#[]⟩, .string ⟨#[]⟩, .string ⟨#[]⟩, .slice none 0 0, .string ⟨#[]⟩, .int .i64 0, .slice none 0 0, .int .i64 0, .int .i64 0, .string ⟨#[]⟩, .string ⟨#[]⟩, .string ⟨#[]⟩, .int .i64 0, .bool false] := X2.set 2 (.string s2) (by simp); have X2s := Lib.hid X2s; clear m2 k2 X2)
    | (go_at_call 57; with_reducible refine (H3.out _ X2s.out.nr.ds).mono ?_; rintro e w3 ⟨rfl, g3, m3, k3⟩; have X3 := X2s.out.call k3 m3; obtain ⟨ca3, fa3⟩ := X3.cf 3 (by simp); obtain ⟨cb3, fb3⟩ := X3.cf 0 (by simp); have z3 := X3.lt; obtain ⟨z30, z31, z32⟩ := z3; have X3s : Nx b p w.heap.size w0.heap.size w _ _ _ [.int .i64 0, .string ⟨#[]⟩, .string ⟨#[]⟩, .string ⟨#[]⟩, .string ⟨#[]⟩, .string ⟨#[]⟩, .slice none 0 0, .string ⟨#[]⟩, .int .i64 0, .slice none 0 0, .int .i64 0, .int .i64 0, .string ⟨#[]⟩, .string ⟨#[]⟩, .string ⟨#[]⟩, .int .i64 0, .bool false] [.int .i64 14, .string s1, .string s2, .string s3, .string ⟨#[]⟩, .string ⟨#[]⟩, .slice none 0 0, .string ⟨#[]⟩, .int .i64 0, .slice none 0 0, .int .i64 0, .int .i64 0, .string ⟨#[]⟩, .string ⟨#[]⟩, .string ⟨#[]⟩, .int .i64 0, .bool false] := X3.set 3 (.string s3) (by simp); have X3s := Lib.hid X3s; clear m3 k3 X3)
    | (go_at_call 32; with_reducible refine (H4.out _ X3s.out.nr.ds).mono ?_; rintro e w4 ⟨rfl, g4, m4, k4⟩; have X4 := X3s.out.call k4 m4; obtain ⟨ca4, fa4⟩ := X4.cf 15 (by simp); have z4 := X4.lt; obtain ⟨z40, z41, z42⟩ := z4; have X4s : Nx b p w.heap.size w0.heap.size w _ _ _ [.int .i64 0, .string ⟨#[]⟩, .string ⟨#[]⟩, .string ⟨#[]⟩, .string ⟨#[]⟩, .string ⟨#[]⟩, .slice none 0 0, .string ⟨#[]⟩, .int .i64 0, .slice none 0 0, .int .i64 0, .int .i64 0, .string ⟨#[]⟩, .string ⟨#[]⟩, .string ⟨#[]⟩, .int .i64 0, .bool false] [.int .i64 14, .string s1, .string s2, .string s3, .string ⟨#[]⟩, .string ⟨#[]⟩, .slice none 0 0, .string ⟨#[]⟩, .int .i64 0, .slice none 0 0, .int .i64 0, .int .i64 0, .string ⟨#[]⟩, .string ⟨#[]⟩, .string ⟨#[]⟩, .int .i64 1, .bool false] := X4.set 15 (.int .i64 1) (by simp); have X4s := Lib.hid X4s; clear m4 k4 X4)
    | (go_at_call 57; with_reducible refine (H5.out _ X4s.out.nr.ds).mono ?_; rintro e w5 ⟨rfl, g5, m5, k5⟩; have X5 := X4s.out.call k5 m5; obtain ⟨ca5, fa5⟩ := X5.cf 5 (by simp); obtain ⟨cb5, fb5⟩ := X5.cf 0 (by simp); obtain ⟨cd5, fd5⟩ := X5.cf 16 (by simp); have z5 := X5.lt; obtain ⟨z50, z51, z52⟩ := z5; have X5s : Nx b p w.heap.size w0.heap.size w _ _ _ [.int .i64 0, .string ⟨#[]⟩, .string ⟨#[]⟩, .string ⟨#[]⟩, .string ⟨#[]⟩, .string ⟨#[]⟩, .slice none 0 0, .string ⟨#[]⟩, .int .i64 0, .slice none 0 0, .int .i64 0, .int .i64 0, .string ⟨#[]⟩, .string ⟨#[]⟩, .string ⟨#[]⟩, .int .i64 0, .bool false] [.int .i64 14, .string s1, .string s2, .string s3, .string ⟨#[]⟩, .string s5, .slice none 0 0, .string ⟨#[]⟩, .int .i64 0, .slice none 0 0, .int .i64 0, .int .i64 0, .string ⟨#[]⟩, .string ⟨#[]⟩, .string ⟨#[]⟩, .int .i64 1, .bool false] := X5.set 5 (.string s5) (by simp); have X5s := Lib.hid X5s; have X5o : Nx b p w.heap.size w0.heap.size w _ _ _ [.int .i64 0, .string ⟨#[]⟩, .string ⟨#[]⟩, .string ⟨#[]⟩, .string ⟨#[]⟩, .string ⟨#[]⟩, .slice none 0 0, .string ⟨#[]⟩, .int .i64 0, .slice none 0 0, .int .i64 0, .int .i64 0, .string ⟨#[]⟩, .string ⟨#[]⟩, .string ⟨#[]⟩, .int .i64 0, .bool false] [.int .i64 14, .string s1, .string s2, .string s3, .string ⟨#[]⟩, .string s5, .slice none 0 0, .string ⟨#[]⟩, .int .i64 0, .slice none 0 0, .int .i64 0, .int .i64 0, .string ⟨#[]⟩, .string ⟨#[]⟩, .string ⟨#[]⟩, .int .i64 1, .bool true] := X5s.out.set 16 (.bool true) (by simp); have X5o := Lib.hid X5o; clear m5 k5 X5)
    | (go_at_call 54; with_reducible refine (HM.out _ X5s.out.nr.ds).mono ?_; rintro e wm ⟨rfl, rfl⟩)
    | (go_at_call 32; with_reducible refine (H6.out _ X5o.out.nr.ds).mono ?_; rintro e w6 ⟨rfl, g6, m6, k6⟩; have X6 := X5o.out.call k6 m6; have yz1 := m6.c1; have yz2 := m6.f1; have z6 := X6.lt; obtain ⟨z60, z61, z62⟩ := z6; have X6s := Lib.hid (X6.bad true); have e1 := lvCmd_row X6s.out.row rfl; have e2 := svCmd_row X6s.out.nr.res rfl rfl (vs := [.int .i64 14, .string s1, .string s2, .string s3, .string ⟨#[]⟩, .string s5, .slice none 0 0, .string ⟨#[]⟩, .int .i64 0, .slice none 0 0, .int .i64 0, .int .i64 0, .string ⟨#[]⟩, .string ⟨#[]⟩, .string ⟨#[]⟩, .int .i64 1, .bool true]) (by simp [Value.oneCell']); clear m6 k6 X6))
  have XR := X6s.out.nr.sets (cs := [.int .i64 14, .string s1, .string s2, .string s3, .string ⟨#[]⟩, .string s5, .slice none 0 0, .string ⟨#[]⟩, .int .i64 0, .slice none 0 0, .int .i64 0, .int .i64 0, .string ⟨#[]⟩, .string ⟨#[]⟩, .string ⟨#[]⟩, .int .i64 1, .bool true]) rfl
  refine bodyPost_ret (results_cell rfl _ rfl (lv_row (T := 31) Tryz.underlying31 (by kernel_rfl) XR.res rfl)) rfl ?_
  exact ⟨XR.kw, _, rfl, ⟨none, 0, none, 0, rfl, colsN_nil _ _ _ HB.out, namesN_nil _ _ _ HB.out, g1, g2, g3, szZ, g5, szZ, szZ, szZ, szZ⟩, XR.ds⟩
set_option maxHeartbeats 2000000 in
theorem commandN_14_write_nomore_false (f : ByteArray) (W : Ws) (d : Bool) (W0 : Ws) (q0 : wordD W d = (f, W0, false)) (hk : kindB f = 14) (s1 : ByteArray) (W1 : Ws) (d1 : Bool) (q1 : nameD W0 false = (s1, W1, d1)) (s2 : ByteArray) (W2 : Ws) (d2 : Bool) (q2 : nameD W1 d1 = (s2, W2, d2)) (s3 : ByteArray) (W3 : Ws) (d3 : Bool) (q3 : nameD W2 d2 = (s3, W3, d3)) (f4 : ByteArray) (W4 : Ws) (d4 : Bool) (q4 : wordD W3 d3 = (f4, W4, d4)) (hr0 : eqS f4 b_read = false) (hr : eqS f4 b_write = true) (b p : Nat) (w : World) (hl : LnS w b p W d) (s5 : ByteArray) (W5 : Ws) (d5 : Bool) (q5 : nameD W4 d4 = (s5, W5, d5)) (hm : moreD W5 d5 = false) : Calls Tryz.prog 34 #[.pointer (some ⟨b, 0, none⟩)] w (RdN b p w (CmdN b w.heap.size) (cmdD W d)) := by
  have H0 := Lib.hid (lword_at (b := b) (p := p) q0)
  have HK := Lib.hid (lkind_at hk)
  have qk := one_kind q0 hk
  have HX0 := Lib.hid (Nr.start hl [.int .i64 0, .string ⟨#[]⟩, .string ⟨#[]⟩, .string ⟨#[]⟩, .string ⟨#[]⟩, .string ⟨#[]⟩, .slice none 0 0, .string ⟨#[]⟩, .int .i64 0, .slice none 0 0, .int .i64 0, .int .i64 0, .string ⟨#[]⟩, .string ⟨#[]⟩, .string ⟨#[]⟩, .int .i64 0, .bool false] 31)
  have hb := hl.lt
  have HB := Lib.hid hb
  have qk : oneD (fun s => (s, kindB s != 0)) W d = (f, W0, false) := qk
  have qr : oneD rightV W3 d3 = (2, W4, d4) := by rw [one_word, q4]; simp [rightV, hr0, hr]
  have e : cmdD W d = ({ zCmd with kind := 14, actor := s1, schema := s2, table := s3, right := 2, role := s5 }, W5, d5) := by
    unfold cmdD
    rw [qk]
    simp [bindD, hk, tailD, grantD, q1, q2, q3, qr, q5, hm]
  rw [e]
  have H1 := Lib.hid (lname_at (b := b) (p := p) q1)
  have H2 := Lib.hid (lname_at (b := b) (p := p) q2)
  have H3 := Lib.hid (lname_at (b := b) (p := p) q3)
  have H5 := Lib.hid (lname_at (b := b) (p := p) q5)
  have H4 := Lib.hid (lword_at (b := b) (p := p) q4)
  have HM := Lib.hid (lmore_at (b := b) (p := p) hm)
  have ihr0 := eqS_as hr0
  unfold b_read at ihr0
  simp only at ihr0
  have ihr := eqS_as hr
  unfold b_write at ihr
  simp only at ihr
  clear e hl qk q0 hk q1 q2 q3 q4 q5 qr hr0 hr hm
  go_enter Tryz.func34, Tryz.ntmps34
  go_wp2_with (first
    | (go_at_call 32; with_reducible refine (H0.out _ HX0.out.ds).mono ?_; rintro e w0 ⟨rfl, g0, l0, k0⟩; have X0 := HX0.out.call k0 l0; have y1 := l0.c1; have y2 := l0.f1; have y3 := l0.lt; have X1 := X0.boxBad false [.int .i64 14, .string ⟨#[]⟩, .string ⟨#[]⟩, .string ⟨#[]⟩, .string ⟨#[]⟩, .string ⟨#[]⟩, .slice none 0 0, .string ⟨#[]⟩, .int .i64 0, .slice none 0 0, .int .i64 0, .int .i64 0, .string ⟨#[]⟩, .string ⟨#[]⟩, .string ⟨#[]⟩, .int .i64 0, .bool false] 31; have z0 := X1.lt; obtain ⟨z00, z01, z02⟩ := z0; have X0s := Lib.hid X1; clear l0 k0 X0 X1)
    | (go_at_call 56; with_reducible refine (HK.out _).mono ?_; rintro e wk ⟨rfl, rfl⟩)
    | (go_at_call 57; with_reducible refine (H1.out _ X0s.out.nr.ds).mono ?_; rintro e w1 ⟨rfl, g1, m1, k1⟩; have X1 := X0s.out.call k1 m1; obtain ⟨ca1, fa1⟩ := X1.cf 1 (by simp); obtain ⟨cb1, fb1⟩ := X1.cf 0 (by simp); have z1 := X1.lt; obtain ⟨z10, z11, z12⟩ := z1; have X1s : Nx b p w.heap.size w0.heap.size w _ _ _ [.int .i64 0, .string ⟨#[]⟩, .string ⟨#[]⟩, .string ⟨#[]⟩, .string ⟨#[]⟩, .string ⟨#[]⟩, .slice none 0 0, .string ⟨#[]⟩, .int .i64 0, .slice none 0 0, .int .i64 0, .int .i64 0, .string ⟨#[]⟩, .string ⟨#[]⟩, .string ⟨#[]⟩, .int .i64 0, .bool false] [.int .i64 14, .string s1, .string ⟨#[]⟩, .string ⟨#[]⟩, .string ⟨#[]⟩, .string ⟨#[]⟩, .slice none 0 0, .string ⟨#[]⟩, .int .i64 0, .slice none 0 0, .int .i64 0, .int .i64 0, .string ⟨#[]⟩, .string ⟨#[]⟩, .string ⟨#[]⟩, .int .i64 0, .bool false] := X1.set 1 (.string s1) (by simp); have X1s := Lib.hid X1s; clear m1 k1 X1)
    | (go_at_call 57; with_reducible refine (H2.out _ X1s.out.nr.ds).mono ?_; rintro e w2 ⟨rfl, g2, m2, k2⟩; have X2 := X1s.out.call k2 m2; obtain ⟨ca2, fa2⟩ := X2.cf 2 (by simp); obtain ⟨cb2, fb2⟩ := X2.cf 0 (by simp); have z2 := X2.lt; obtain ⟨z20, z21, z22⟩ := z2; have X2s : Nx b p w.heap.size w0.heap.size w _ _ _ [.int .i64 0, .string ⟨#[]⟩, .string ⟨#[]⟩, .string ⟨#[]⟩, .string ⟨#[]⟩, .string ⟨#[]⟩, .slice none 0 0, .string ⟨#[]⟩, .int .i64 0, .slice none 0 0, .int .i64 0, .int .i64 0, .string ⟨#[]⟩, .string ⟨#[]⟩, .string ⟨#[]⟩, .int .i64 0, .bool false] [.int .i64 14, .string s1, .string s2, .string ⟨#[]⟩, .string ⟨#[]⟩, .string ⟨#[]⟩, .slice none 0 0, .string ⟨#[]⟩, .int .i64 0, .slice none 0 0, .int .i64 0, .int .i64 0, .string ⟨#[]⟩, .string ⟨#[]⟩, .string ⟨#[]⟩, .int .i64 0, .bool false] := X2.set 2 (.string s2) (by simp); have X2s := Lib.hid X2s; clear m2 k2 X2)
    | (go_at_call 57; with_reducible refine (H3.out _ X2s.out.nr.ds).mono ?_; rintro e w3 ⟨rfl, g3, m3, k3⟩; have X3 := X2s.out.call k3 m3; obtain ⟨ca3, fa3⟩ := X3.cf 3 (by simp); obtain ⟨cb3, fb3⟩ := X3.cf 0 (by simp); have z3 := X3.lt; obtain ⟨z30, z31, z32⟩ := z3; have X3s : Nx b p w.heap.size w0.heap.size w _ _ _ [.int .i64 0, .string ⟨#[]⟩, .string ⟨#[]⟩, .string ⟨#[]⟩, .string ⟨#[]⟩, .string ⟨#[]⟩, .slice none 0 0, .string ⟨#[]⟩, .int .i64 0, .slice none 0 0, .int .i64 0, .int .i64 0, .string ⟨#[]⟩, .string ⟨#[]⟩, .string ⟨#[]⟩, .int .i64 0, .bool false] [.int .i64 14, .string s1, .string s2, .string s3, .string ⟨#[]⟩, .string ⟨#[]⟩, .slice none 0 0, .string ⟨#[]⟩, .int .i64 0, .slice none 0 0, .int .i64 0, .int .i64 0, .string ⟨#[]⟩, .string ⟨#[]⟩, .string ⟨#[]⟩, .int .i64 0, .bool false] := X3.set 3 (.string s3) (by simp); have X3s := Lib.hid X3s; clear m3 k3 X3)
    | (go_at_call 32; with_reducible refine (H4.out _ X3s.out.nr.ds).mono ?_; rintro e w4 ⟨rfl, g4, m4, k4⟩; have X4 := X3s.out.call k4 m4; obtain ⟨ca4, fa4⟩ := X4.cf 15 (by simp); have z4 := X4.lt; obtain ⟨z40, z41, z42⟩ := z4; have X4s : Nx b p w.heap.size w0.heap.size w _ _ _ [.int .i64 0, .string ⟨#[]⟩, .string ⟨#[]⟩, .string ⟨#[]⟩, .string ⟨#[]⟩, .string ⟨#[]⟩, .slice none 0 0, .string ⟨#[]⟩, .int .i64 0, .slice none 0 0, .int .i64 0, .int .i64 0, .string ⟨#[]⟩, .string ⟨#[]⟩, .string ⟨#[]⟩, .int .i64 0, .bool false] [.int .i64 14, .string s1, .string s2, .string s3, .string ⟨#[]⟩, .string ⟨#[]⟩, .slice none 0 0, .string ⟨#[]⟩, .int .i64 0, .slice none 0 0, .int .i64 0, .int .i64 0, .string ⟨#[]⟩, .string ⟨#[]⟩, .string ⟨#[]⟩, .int .i64 2, .bool false] := X4.set 15 (.int .i64 2) (by simp); have X4s := Lib.hid X4s; clear m4 k4 X4)
    | (go_at_call 57; with_reducible refine (H5.out _ X4s.out.nr.ds).mono ?_; rintro e w5 ⟨rfl, g5, m5, k5⟩; have X5 := X4s.out.call k5 m5; obtain ⟨ca5, fa5⟩ := X5.cf 5 (by simp); obtain ⟨cb5, fb5⟩ := X5.cf 0 (by simp); have z5 := X5.lt; obtain ⟨z50, z51, z52⟩ := z5; have X5s : Nx b p w.heap.size w0.heap.size w _ _ _ [.int .i64 0, .string ⟨#[]⟩, .string ⟨#[]⟩, .string ⟨#[]⟩, .string ⟨#[]⟩, .string ⟨#[]⟩, .slice none 0 0, .string ⟨#[]⟩, .int .i64 0, .slice none 0 0, .int .i64 0, .int .i64 0, .string ⟨#[]⟩, .string ⟨#[]⟩, .string ⟨#[]⟩, .int .i64 0, .bool false] [.int .i64 14, .string s1, .string s2, .string s3, .string ⟨#[]⟩, .string s5, .slice none 0 0, .string ⟨#[]⟩, .int .i64 0, .slice none 0 0, .int .i64 0, .int .i64 0, .string ⟨#[]⟩, .string ⟨#[]⟩, .string ⟨#[]⟩, .int .i64 2, .bool false] := X5.set 5 (.string s5) (by simp); have X5s := Lib.hid X5s; have e1 := lvCmd_row X5s.out.row rfl; have e2 := svCmd_row X5s.out.nr.res rfl rfl (vs := [.int .i64 14, .string s1, .string s2, .string s3, .string ⟨#[]⟩, .string s5, .slice none 0 0, .string ⟨#[]⟩, .int .i64 0, .slice none 0 0, .int .i64 0, .int .i64 0, .string ⟨#[]⟩, .string ⟨#[]⟩, .string ⟨#[]⟩, .int .i64 2, .bool false]) (by simp [Value.oneCell']); clear m5 k5 X5)
    | (go_at_call 54; with_reducible refine (HM.out _ X5s.out.nr.ds).mono ?_; rintro e wm ⟨rfl, rfl⟩))
  have XR := X5s.out.nr.sets (cs := [.int .i64 14, .string s1, .string s2, .string s3, .string ⟨#[]⟩, .string s5, .slice none 0 0, .string ⟨#[]⟩, .int .i64 0, .slice none 0 0, .int .i64 0, .int .i64 0, .string ⟨#[]⟩, .string ⟨#[]⟩, .string ⟨#[]⟩, .int .i64 2, .bool false]) rfl
  refine bodyPost_ret (results_cell rfl _ rfl (lv_row (T := 31) Tryz.underlying31 (by kernel_rfl) XR.res rfl)) rfl ?_
  exact ⟨XR.kw, _, rfl, ⟨none, 0, none, 0, rfl, colsN_nil _ _ _ HB.out, namesN_nil _ _ _ HB.out, g1, g2, g3, szZ, g5, szZ, szZ, szZ, szZ⟩, XR.ds⟩
set_option maxHeartbeats 2000000 in
theorem commandN_14_write_nomore_true (f : ByteArray) (W : Ws) (d : Bool) (W0 : Ws) (q0 : wordD W d = (f, W0, true)) (hk : kindB f = 14) (s1 : ByteArray) (W1 : Ws) (d1 : Bool) (q1 : nameD W0 true = (s1, W1, d1)) (s2 : ByteArray) (W2 : Ws) (d2 : Bool) (q2 : nameD W1 d1 = (s2, W2, d2)) (s3 : ByteArray) (W3 : Ws) (d3 : Bool) (q3 : nameD W2 d2 = (s3, W3, d3)) (f4 : ByteArray) (W4 : Ws) (d4 : Bool) (q4 : wordD W3 d3 = (f4, W4, d4)) (hr0 : eqS f4 b_read = false) (hr : eqS f4 b_write = true) (b p : Nat) (w : World) (hl : LnS w b p W d) (s5 : ByteArray) (W5 : Ws) (d5 : Bool) (q5 : nameD W4 d4 = (s5, W5, d5)) (hm : moreD W5 d5 = false) : Calls Tryz.prog 34 #[.pointer (some ⟨b, 0, none⟩)] w (RdN b p w (CmdN b w.heap.size) (cmdD W d)) := by
  have H0 := Lib.hid (lword_at (b := b) (p := p) q0)
  have HK := Lib.hid (lkind_at hk)
  have qk := one_kind q0 hk
  have HX0 := Lib.hid (Nr.start hl [.int .i64 0, .string ⟨#[]⟩, .string ⟨#[]⟩, .string ⟨#[]⟩, .string ⟨#[]⟩, .string ⟨#[]⟩, .slice none 0 0, .string ⟨#[]⟩, .int .i64 0, .slice none 0 0, .int .i64 0, .int .i64 0, .string ⟨#[]⟩, .string ⟨#[]⟩, .string ⟨#[]⟩, .int .i64 0, .bool false] 31)
  have hb := hl.lt
  have HB := Lib.hid hb
  have qk : oneD (fun s => (s, kindB s != 0)) W d = (f, W0, true) := qk
  have qr : oneD rightV W3 d3 = (2, W4, d4) := by rw [one_word, q4]; simp [rightV, hr0, hr]
  have e : cmdD W d = ({ zCmd with kind := 14, actor := s1, schema := s2, table := s3, right := 2, role := s5 }, W5, d5) := by
    unfold cmdD
    rw [qk]
    simp [bindD, hk, tailD, grantD, q1, q2, q3, qr, q5, hm]
  rw [e]
  have H1 := Lib.hid (lname_at (b := b) (p := p) q1)
  have H2 := Lib.hid (lname_at (b := b) (p := p) q2)
  have H3 := Lib.hid (lname_at (b := b) (p := p) q3)
  have H5 := Lib.hid (lname_at (b := b) (p := p) q5)
  have H4 := Lib.hid (lword_at (b := b) (p := p) q4)
  have HM := Lib.hid (lmore_at (b := b) (p := p) hm)
  have ihr0 := eqS_as hr0
  unfold b_read at ihr0
  simp only at ihr0
  have ihr := eqS_as hr
  unfold b_write at ihr
  simp only at ihr
  clear e hl qk q0 hk q1 q2 q3 q4 q5 qr hr0 hr hm
  go_enter Tryz.func34, Tryz.ntmps34
  go_wp2_with (first
    | (go_at_call 32; with_reducible refine (H0.out _ HX0.out.ds).mono ?_; rintro e w0 ⟨rfl, g0, l0, k0⟩; have X0 := HX0.out.call k0 l0; have y1 := l0.c1; have y2 := l0.f1; have y3 := l0.lt; have X1 := X0.boxBad true [.int .i64 14, .string ⟨#[]⟩, .string ⟨#[]⟩, .string ⟨#[]⟩, .string ⟨#[]⟩, .string ⟨#[]⟩, .slice none 0 0, .string ⟨#[]⟩, .int .i64 0, .slice none 0 0, .int .i64 0, .int .i64 0, .string ⟨#[]⟩, .string ⟨#[]⟩, .string ⟨#[]⟩, .int .i64 0, .bool false] 31; have z0 := X1.lt; obtain ⟨z00, z01, z02⟩ := z0; have X0s := Lib.hid X1; clear l0 k0 X0 X1)
    | (go_at_call 56; with_reducible refine (HK.out _).mono ?_; rintro e wk ⟨rfl, rfl⟩)
    | (go_at_call 57; with_reducible refine (H1.out _ X0s.out.nr.ds).mono ?_; rintro e w1 ⟨rfl, g1, m1, k1⟩; have X1 := X0s.out.call k1 m1; obtain ⟨ca1, fa1⟩ := X1.cf 1 (by simp); obtain ⟨cb1, fb1⟩ := X1.cf 0 (by simp); have z1 := X1.lt; obtain ⟨z10, z11, z12⟩ := z1; have X1s : Nx b p w.heap.size w0.heap.size w _ _ _ [.int .i64 0, .string ⟨#[]⟩, .string ⟨#[]⟩, .string ⟨#[]⟩, .string ⟨#[]⟩, .string ⟨#[]⟩, .slice none 0 0, .string ⟨#[]⟩, .int .i64 0, .slice none 0 0, .int .i64 0, .int .i64 0, .string ⟨#[]⟩, .string ⟨#[]⟩, .string ⟨#[]⟩, .int .i64 0, .bool false] [.int .i64 14, .string s1, .string ⟨#[]⟩, .string ⟨#[]⟩, .string ⟨#[]⟩, .string ⟨#[]⟩, .slice none 0 0, .string ⟨#[]⟩, .int .i64 0, .slice none 0 0, .int .i64 0, .int .i64 0, .string ⟨#[]⟩, .string ⟨#[]⟩, .string ⟨#[]⟩, .int .i64 0, .bool false] := X1.set 1 (.string s1) (by simp); have X1s := Lib.hid X1s; clear m1 k1 X1)
    | (go_at_call 57; with_reducible refine (H2.out _ X1s.out.nr.ds).mono ?_; rintro e w2 ⟨rfl, g2, m2, k2⟩; have X2 := X1s.out.call k2 m2; obtain ⟨ca2, fa2⟩ := X2.cf 2 (by simp); obtain ⟨cb2, fb2⟩ := X2.cf 0 (by simp); have z2 := X2.lt; obtain ⟨z20, z21, z22⟩ := z2; have X2s : Nx b p w.heap.size w0.heap.size w _ _ _ [.int .i64 0, .string ⟨#[]⟩, .string ⟨#[]⟩, .string ⟨#[]⟩, .string ⟨#[]⟩, .string ⟨#[]⟩, .slice none 0 0, .string ⟨#[]⟩, .int .i64 0, .slice none 0 0, .int .i64 0, .int .i64 0, .string ⟨#[]⟩, .string ⟨#[]⟩, .string ⟨#[]⟩, .int .i64 0, .bool false] [.int .i64 14, .string s1, .string s2, .string ⟨#[]⟩, .string ⟨#[]⟩, .string ⟨#[]⟩, .slice none 0 0, .string ⟨#[]⟩, .int .i64 0, .slice none 0 0, .int .i64 0, .int .i64 0, .string ⟨#[]⟩, .string ⟨#[]⟩, .string ⟨#[]⟩, .int .i64 0, .bool false] := X2.set 2 (.string s2) (by simp); have X2s := Lib.hid X2s; clear m2 k2 X2)
    | (go_at_call 57; with_reducible refine (H3.out _ X2s.out.nr.ds).mono ?_; rintro e w3 ⟨rfl, g3, m3, k3⟩; have X3 := X2s.out.call k3 m3; obtain ⟨ca3, fa3⟩ := X3.cf 3 (by simp); obtain ⟨cb3, fb3⟩ := X3.cf 0 (by simp); have z3 := X3.lt; obtain ⟨z30, z31, z32⟩ := z3; have X3s : Nx b p w.heap.size w0.heap.size w _ _ _ [.int .i64 0, .string ⟨#[]⟩, .string ⟨#[]⟩, .string ⟨#[]⟩, .string ⟨#[]⟩, .string ⟨#[]⟩, .slice none 0 0, .string ⟨#[]⟩, .int .i64 0, .slice none 0 0, .int .i64 0, .int .i64 0, .string ⟨#[]⟩, .string ⟨#[]⟩, .string ⟨#[]⟩, .int .i64 0, .bool false] [.int .i64 14, .string s1, .string s2, .string s3, .string ⟨#[]⟩, .string ⟨#[]⟩, .slice none 0 0, .string ⟨#[]⟩, .int .i64 0, .slice none 0 0, .int .i64 0, .int .i64 0, .string ⟨#[]⟩, .string ⟨#[]⟩, .string ⟨#[]⟩, .int .i64 0, .bool false] := X3.set 3 (.string s3) (by simp); have X3s := Lib.hid X3s; clear m3 k3 X3)
    | (go_at_call 32; with_reducible refine (H4.out _ X3s.out.nr.ds).mono ?_; rintro e w4 ⟨rfl, g4, m4, k4⟩; have X4 := X3s.out.call k4 m4; obtain ⟨ca4, fa4⟩ := X4.cf 15 (by simp); have z4 := X4.lt; obtain ⟨z40, z41, z42⟩ := z4; have X4s : Nx b p w.heap.size w0.heap.size w _ _ _ [.int .i64 0, .string ⟨#[]⟩, .string ⟨#[]⟩, .string ⟨#[]⟩, .string ⟨#[]⟩, .string ⟨#[]⟩, .slice none 0 0, .string ⟨#[]⟩, .int .i64 0, .slice none 0 0, .int .i64 0, .int .i64 0, .string ⟨#[]⟩, .string ⟨#[]⟩, .string ⟨#[]⟩, .int .i64 0, .bool false] [.int .i64 14, .string s1, .string s2, .string s3, .string ⟨#[]⟩, .string ⟨#[]⟩, .slice none 0 0, .string ⟨#[]⟩, .int .i64 0, .slice none 0 0, .int .i64 0, .int .i64 0, .string ⟨#[]⟩, .string ⟨#[]⟩, .string ⟨#[]⟩, .int .i64 2, .bool false] := X4.set 15 (.int .i64 2) (by simp); have X4s := Lib.hid X4s; clear m4 k4 X4)
    | (go_at_call 57; with_reducible refine (H5.out _ X4s.out.nr.ds).mono ?_; rintro e w5 ⟨rfl, g5, m5, k5⟩; have X5 := X4s.out.call k5 m5; obtain ⟨ca5, fa5⟩ := X5.cf 5 (by simp); obtain ⟨cb5, fb5⟩ := X5.cf 0 (by simp); have z5 := X5.lt; obtain ⟨z50, z51, z52⟩ := z5; have X5s : Nx b p w.heap.size w0.heap.size w _ _ _ [.int .i64 0, .string ⟨#[]⟩, .string ⟨#[]⟩, .string ⟨#[]⟩, .string ⟨#[]⟩, .string ⟨#[]⟩, .slice none 0 0, .string ⟨#[]⟩, .int .i64 0, .slice none 0 0, .int .i64 0, .int .i64 0, .string ⟨#[]⟩, .string ⟨#[]⟩, .string ⟨#[]⟩, .int .i64 0, .bool false] [.int .i64 14, .string s1, .string s2, .string s3, .string ⟨#[]⟩, .string s5, .slice none 0 0, .string ⟨#[]⟩, .int .i64 0, .slice none 0 0, .int .i64 0, .int .i64 0, .string ⟨#[]⟩, .string ⟨#[]⟩, .string ⟨#[]⟩, .int .i64 2, .bool false] := X5.set 5 (.string s5) (by simp); have X5s := Lib.hid X5s; have e1 := lvCmd_row X5s.out.row rfl; have e2 := svCmd_row X5s.out.nr.res rfl rfl (vs := [.int .i64 14, .string s1, .string s2, .string s3, .string ⟨#[]⟩, .string s5, .slice none 0 0, .string ⟨#[]⟩, .int .i64 0, .slice none 0 0, .int .i64 0, .int .i64 0, .string ⟨#[]⟩, .string ⟨#[]⟩, .string ⟨#[]⟩, .int .i64 2, .bool false]) (by simp [Value.oneCell']); clear m5 k5 X5)
    | (go_at_call 54; with_reducible refine (HM.out _ X5s.out.nr.ds).mono ?_; rintro e wm ⟨rfl, rfl⟩))
  have XR := X5s.out.nr.sets (cs := [.int .i64 14, .string s1, .string s2, .string s3, .string ⟨#[]⟩, .string s5, .slice none 0 0, .string ⟨#[]⟩, .int .i64 0, .slice none 0 0, .int .i64 0, .int .i64 0, .string ⟨#[]⟩, .string ⟨#[]⟩, .string ⟨#[]⟩, .int .i64 2, .bool false]) rfl
  refine bodyPost_ret (results_cell rfl _ rfl (lv_row (T := 31) Tryz.underlying31 (by kernel_rfl) XR.res rfl)) rfl ?_
  exact ⟨XR.kw, _, rfl, ⟨none, 0, none, 0, rfl, colsN_nil _ _ _ HB.out, namesN_nil _ _ _ HB.out, g1, g2, g3, szZ, g5, szZ, szZ, szZ, szZ⟩, XR.ds⟩
set_option maxHeartbeats 2000000 in
theorem commandN_14_write_opt_false (f : ByteArray) (W : Ws) (d : Bool) (W0 : Ws) (q0 : wordD W d = (f, W0, false)) (hk : kindB f = 14) (s1 : ByteArray) (W1 : Ws) (d1 : Bool) (q1 : nameD W0 false = (s1, W1, d1)) (s2 : ByteArray) (W2 : Ws) (d2 : Bool) (q2 : nameD W1 d1 = (s2, W2, d2)) (s3 : ByteArray) (W3 : Ws) (d3 : Bool) (q3 : nameD W2 d2 = (s3, W3, d3)) (f4 : ByteArray) (W4 : Ws) (d4 : Bool) (q4 : wordD W3 d3 = (f4, W4, d4)) (hr0 : eqS f4 b_read = false) (hr : eqS f4 b_write = true) (b p : Nat) (w : World) (hl : LnS w b p W d) (s5 : ByteArray) (W5 : Ws) (d5 : Bool) (q5 : nameD W4 d4 = (s5, W5, d5)) (hm : moreD W5 d5 = true) (f6 : ByteArray) (W6 : Ws) (q6 : wordD W5 d5 = (f6, W6, false)) (ho : eqS f6 b_option = true) : Calls Tryz.prog 34 #[.pointer (some ⟨b, 0, none⟩)] w (RdN b p w (CmdN b w.heap.size) (cmdD W d)) := by
  have H0 := Lib.hid (lword_at (b := b) (p := p) q0)
  have HK := Lib.hid (lkind_at hk)
  have qk := one_kind q0 hk
  have HX0 := Lib.hid (Nr.start hl [.int .i64 0, .string ⟨#[]⟩, .string ⟨#[]⟩, .string ⟨#[]⟩, .string ⟨#[]⟩, .string ⟨#[]⟩, .slice none 0 0, .string ⟨#[]⟩, .int .i64 0, .slice none 0 0, .int .i64 0, .int .i64 0, .string ⟨#[]⟩, .string ⟨#[]⟩, .string ⟨#[]⟩, .int .i64 0, .bool false] 31)
  have hb := hl.lt
  have HB := Lib.hid hb
  have qk : oneD (fun s => (s, kindB s != 0)) W d = (f, W0, false) := qk
  have qr : oneD rightV W3 d3 = (2, W4, d4) := by rw [one_word, q4]; simp [rightV, hr0, hr]
  have qo : oneD (fun s => (s, eqS s b_option)) W5 d5 = (f6, W6, false) := by rw [one_word, q6]; simp [ho]
  have e : cmdD W d = ({ zCmd with kind := 14, actor := s1, schema := s2, table := s3, right := 2, role := s5, opt := true }, W6, false) := by
    unfold cmdD
    rw [qk]
    simp [bindD, hk, tailD, grantD, q1, q2, q3, qr, q5, hm, qo]
  rw [e]
  have H1 := Lib.hid (lname_at (b := b) (p := p) q1)
  have H2 := Lib.hid (lname_at (b := b) (p := p) q2)
  have H3 := Lib.hid (lname_at (b := b) (p := p) q3)
  have H5 := Lib.hid (lname_at (b := b) (p := p) q5)
  have H4 := Lib.hid (lword_at (b := b) (p := p) q4)
  have HM := Lib.hid (lmore_at (b := b) (p := p) hm)
  have H6 := Lib.hid (lword_at (b := b) (p := p) q6)
  have io := eqS_as ho
  unfold b_option at io
  simp only at io
  have io' : (f6.toList != [111, 112, 116, 105, 111, 110]) = !(f6.toList == [111, 112, 116, 105, 111, 110]) := rfl
  rw [io] at io'
  have ihr0 := eqS_as hr0
  unfold b_read at ihr0
  simp only at ihr0
  have ihr := eqS_as hr
  unfold b_write at ihr
  simp only at ihr
  clear e hl qk q0 hk q1 q2 q3 q4 q5 qr hr0 hr hm q6 ho qo
  go_enter Tryz.func34, Tryz.ntmps34
  go_wp2_with (first
    | (go_at_call 32; with_reducible refine (H0.out _ HX0.out.ds).mono ?_; rintro e w0 ⟨rfl, g0, l0, k0⟩; have X0 := HX0.out.call k0 l0; have y1 := l0.c1; have y2 := l0.f1; have y3 := l0.lt; have X1 := X0.boxBad false [.int .i64 14, .string ⟨#[]⟩, .string ⟨#[]⟩, .string ⟨#[]⟩, .string ⟨#[]⟩, .string ⟨#[]⟩, .slice none 0 0, .string ⟨#[]⟩, .int .i64 0, .slice none 0 0, .int .i64 0, .int .i64 0, .string ⟨#[]⟩, .string ⟨#[]⟩, .string ⟨#[]⟩, .int .i64 0, .bool false] 31; have z0 := X1.lt; obtain ⟨z00, z01, z02⟩ := z0; have X0s := Lib.hid X1; clear l0 k0 X0 X1)
    | (go_at_call 56; with_reducible refine (HK.out _).mono ?_; rintro e wk ⟨rfl, rfl⟩)
    | (go_at_call 57; with_reducible refine (H1.out _ X0s.out.nr.ds).mono ?_; rintro e w1 ⟨rfl, g1, m1, k1⟩; have X1 := X0s.out.call k1 m1; obtain ⟨ca1, fa1⟩ := X1.cf 1 (by simp); obtain ⟨cb1, fb1⟩ := X1.cf 0 (by simp); have z1 := X1.lt; obtain ⟨z10, z11, z12⟩ := z1; have X1s : Nx b p w.heap.size w0.heap.size w _ _ _ [.int .i64 0, .string ⟨#[]⟩, .string ⟨#[]⟩, .string ⟨#[]⟩, .string ⟨#[]⟩, .string ⟨#[]⟩, .slice none 0 0, .string ⟨#[]⟩, .int .i64 0, .slice none 0 0, .int .i64 0, .int .i64 0, .string ⟨#[]⟩, .string ⟨#[]⟩, .string ⟨#[]⟩, .int .i64 0, .bool false] [.int .i64 14, .string s1, .string ⟨#[]⟩, .string ⟨#[]⟩, .string ⟨#[]⟩, .string ⟨#[]⟩, .slice none 0 0, .string ⟨#[]⟩, .int .i64 0, .slice none 0 0, .int .i64 0, .int .i64 0, .string ⟨#[]⟩, .string ⟨#[]⟩, .string ⟨#[]⟩, .int .i64 0, .bool false] := X1.set 1 (.string s1) (by simp); have X1s := Lib.hid X1s; clear m1 k1 X1)
    | (go_at_call 57; with_reducible refine (H2.out _ X1s.out.nr.ds).mono ?_; rintro e w2 ⟨rfl, g2, m2, k2⟩; have X2 := X1s.out.call k2 m2; obtain ⟨ca2, fa2⟩ := X2.cf 2 (by simp); obtain ⟨cb2, fb2⟩ := X2.cf 0 (by simp); have z2 := X2.lt; obtain ⟨z20, z21, z22⟩ := z2; have X2s : Nx b p w.heap.size w0.heap.size w _ _ _ [.int .i64 0, .string ⟨#[]⟩, .string ⟨#[]⟩, .string ⟨#[]⟩, .string ⟨#[]⟩, .string ⟨#[]⟩, .slice none 0 0, .string ⟨#[]⟩, .int .i64 0, .slice none 0 0, .int .i64 0, .int .i64 0, .string ⟨#[]⟩, .string ⟨#[]⟩, .string ⟨#[]⟩, .int .i64 0, .bool false] [.int .i64 14, .string s1, .string s2, .string ⟨#[]⟩, .string ⟨#[]⟩, .string ⟨#[]⟩, .slice none 0 0, .string ⟨#[]⟩, .int .i64 0, .slice none 0 0, .int .i64 0, .int .i64 0, .string ⟨#[]⟩, .string ⟨#[]⟩, .string ⟨#[]⟩, .int .i64 0, .bool false] := X2.set 2 (.string s2) (by simp); have X2s := Lib.hid X2s; clear m2 k2 X2)
    | (go_at_call 57; with_reducible refine (H3.out _ X2s.out.nr.ds).mono ?_; rintro e w3 ⟨rfl, g3, m3, k3⟩; have X3 := X2s.out.call k3 m3; obtain ⟨ca3, fa3⟩ := X3.cf 3 (by simp); obtain ⟨cb3, fb3⟩ := X3.cf 0 (by simp); have z3 := X3.lt; obtain ⟨z30, z31, z32⟩ := z3; have X3s : Nx b p w.heap.size w0.heap.size w _ _ _ [.int .i64 0, .string ⟨#[]⟩, .string ⟨#[]⟩, .string ⟨#[]⟩, .string ⟨#[]⟩, .string ⟨#[]⟩, .slice none 0 0, .string ⟨#[]⟩, .int .i64 0, .slice none 0 0, .int .i64 0, .int .i64 0, .string ⟨#[]⟩, .string ⟨#[]⟩, .string ⟨#[]⟩, .int .i64 0, .bool false] [.int .i64 14, .string s1, .string s2, .string s3, .string ⟨#[]⟩, .string ⟨#[]⟩, .slice none 0 0, .string ⟨#[]⟩, .int .i64 0, .slice none 0 0, .int .i64 0, .int .i64 0, .string ⟨#[]⟩, .string ⟨#[]⟩, .string ⟨#[]⟩, .int .i64 0, .bool false] := X3.set 3 (.string s3) (by simp); have X3s := Lib.hid X3s; clear m3 k3 X3)
    | (go_at_call 32; with_reducible refine (H4.out _ X3s.out.nr.ds).mono ?_; rintro e w4 ⟨rfl, g4, m4, k4⟩; have X4 := X3s.out.call k4 m4; obtain ⟨ca4, fa4⟩ := X4.cf 15 (by simp); have z4 := X4.lt; obtain ⟨z40, z41, z42⟩ := z4; have X4s : Nx b p w.heap.size w0.heap.size w _ _ _ [.int .i64 0, .string ⟨#[]⟩, .string ⟨#[]⟩, .string ⟨#[]⟩, .string ⟨#[]⟩, .string ⟨#[]⟩, .slice none 0 0, .string ⟨#[]⟩, .int .i64 0, .slice none 0 0, .int .i64 0, .int .i64 0, .string ⟨#[]⟩, .string ⟨#[]⟩, .string ⟨#[]⟩, .int .i64 0, .bool false] [.int .i64 14, .string s1, .string s2, .string s3, .string ⟨#[]⟩, .string ⟨#[]⟩, .slice none 0 0, .string ⟨#[]⟩, .int .i64 0, .slice none 0 0, .int .i64 0, .int .i64 0, .string ⟨#[]⟩, .string ⟨#[]⟩, .string ⟨#[]⟩, .int .i64 2, .bool false] := X4.set 15 (.int .i64 2) (by simp); have X4s := Lib.hid X4s; clear m4 k4 X4)
    | (go_at_call 57; with_reducible refine (H5.out _ X4s.out.nr.ds).mono ?_; rintro e w5 ⟨rfl, g5, m5, k5⟩; have X5 := X4s.out.call k5 m5; obtain ⟨ca5, fa5⟩ := X5.cf 5 (by simp); obtain ⟨cb5, fb5⟩ := X5.cf 0 (by simp); obtain ⟨cd5, fd5⟩ := X5.cf 16 (by simp); have z5 := X5.lt; obtain ⟨z50, z51, z52⟩ := z5; have X5s : Nx b p w.heap.size w0.heap.size w _ _ _ [.int .i64 0, .string ⟨#[]⟩, .string ⟨#[]⟩, .string ⟨#[]⟩, .string ⟨#[]⟩, .string ⟨#[]⟩, .slice none 0 0, .string ⟨#[]⟩, .int .i64 0, .slice none 0 0, .int .i64 0, .int .i64 0, .string ⟨#[]⟩, .string ⟨#[]⟩, .string ⟨#[]⟩, .int .i64 0, .bool false] [.int .i64 14, .string s1, .string s2, .string s3, .string ⟨#[]⟩, .string s5, .slice none 0 0, .string ⟨#[]⟩, .int .i64 0, .slice none 0 0, .int .i64 0, .int .i64 0, .string ⟨#[]⟩, .string ⟨#[]⟩, .string ⟨#[]⟩, .int .i64 2, .bool false] := X5.set 5 (.string s5) (by simp); have X5s := Lib.hid X5s; have X5o : Nx b p w.heap.size w0.heap.size w _ _ _ [.int .i64 0, .string ⟨#[]⟩, .string ⟨#[]⟩, .string ⟨#[]⟩, .string ⟨#[]⟩, .string ⟨#[]⟩, .slice none 0 0, .string ⟨#[]⟩, .int .i64 0, .slice none 0 0, .int .i64 0, .int .i64 0, .string ⟨#[]⟩, .string ⟨#[]⟩, .string ⟨#[]⟩, .int .i64 0, .bool false] [.int .i64 14, .string s1, .string s2, .string s3, .string ⟨#[]⟩, .string s5, .slice none 0 0, .string ⟨#[]⟩, .int .i64 0, .slice none 0 0, .int .i64 0, .int .i64 0, .string ⟨#[]⟩, .string ⟨#[]⟩, .string ⟨#[]⟩, .int .i64 2, .bool true] := X5s.out.set 16 (.bool true) (by simp); have X5o := Lib.hid X5o; clear m5 k5 X5)
    | (go_at_call 54; with_reducible refine (HM.out _ X5s.out.nr.ds).mono ?_; rintro e wm ⟨rfl, rfl⟩)
    | (go_at_call 32; with_reducible refine (H6.out _ X5o.out.nr.ds).mono ?_; rintro e w6 ⟨rfl, g6, m6, k6⟩; have X6 := X5o.out.call k6 m6; have yz1 := m6.c1; have yz2 := m6.f1; have z6 := X6.lt; obtain ⟨z60, z61, z62⟩ := z6; have X6s := Lib.hid (X6.bad false); have e1 := lvCmd_row X6s.out.row rfl; have e2 := svCmd_row X6s.out.nr.res rfl rfl (vs := [.int .i64 14, .string s1, .string s2, .string s3, .string ⟨#[]⟩, .string s5, .slice none 0 0, .string ⟨#[]⟩, .int .i64 0, .slice none 0 0, .int .i64 0, .int .i64 0, .string ⟨#[]⟩, .string ⟨#[]⟩, .string ⟨#[]⟩, .int .i64 2, .bool true]) (by simp [Value.oneCell']); clear m6 k6 X6))
  have XR := X6s.out.nr.sets (cs := [.int .i64 14, .string s1, .string s2, .string s3, .string ⟨#[]⟩, .string s5, .slice none 0 0, .string ⟨#[]⟩, .int .i64 0, .slice none 0 0, .int .i64 0, .int .i64 0, .string ⟨#[]⟩, .string ⟨#[]⟩, .string ⟨#[]⟩, .int .i64 2, .bool true]) rfl
  refine bodyPost_ret (results_cell rfl _ rfl (lv_row (T := 31) Tryz.underlying31 (by kernel_rfl) XR.res rfl)) rfl ?_
  exact ⟨XR.kw, _, rfl, ⟨none, 0, none, 0, rfl, colsN_nil _ _ _ HB.out, namesN_nil _ _ _ HB.out, g1, g2, g3, szZ, g5, szZ, szZ, szZ, szZ⟩, XR.ds⟩
set_option maxHeartbeats 2000000 in
theorem commandN_14_write_opt_true (f : ByteArray) (W : Ws) (d : Bool) (W0 : Ws) (q0 : wordD W d = (f, W0, true)) (hk : kindB f = 14) (s1 : ByteArray) (W1 : Ws) (d1 : Bool) (q1 : nameD W0 true = (s1, W1, d1)) (s2 : ByteArray) (W2 : Ws) (d2 : Bool) (q2 : nameD W1 d1 = (s2, W2, d2)) (s3 : ByteArray) (W3 : Ws) (d3 : Bool) (q3 : nameD W2 d2 = (s3, W3, d3)) (f4 : ByteArray) (W4 : Ws) (d4 : Bool) (q4 : wordD W3 d3 = (f4, W4, d4)) (hr0 : eqS f4 b_read = false) (hr : eqS f4 b_write = true) (b p : Nat) (w : World) (hl : LnS w b p W d) (s5 : ByteArray) (W5 : Ws) (d5 : Bool) (q5 : nameD W4 d4 = (s5, W5, d5)) (hm : moreD W5 d5 = true) (f6 : ByteArray) (W6 : Ws) (q6 : wordD W5 d5 = (f6, W6, false)) (ho : eqS f6 b_option = true) : Calls Tryz.prog 34 #[.pointer (some ⟨b, 0, none⟩)] w (RdN b p w (CmdN b w.heap.size) (cmdD W d)) := by
  have H0 := Lib.hid (lword_at (b := b) (p := p) q0)
  have HK := Lib.hid (lkind_at hk)
  have qk := one_kind q0 hk
  have HX0 := Lib.hid (Nr.start hl [.int .i64 0, .string ⟨#[]⟩, .string ⟨#[]⟩, .string ⟨#[]⟩, .string ⟨#[]⟩, .string ⟨#[]⟩, .slice none 0 0, .string ⟨#[]⟩, .int .i64 0, .slice none 0 0, .int .i64 0, .int .i64 0, .string ⟨#[]⟩, .string ⟨#[]⟩, .string ⟨#[]⟩, .int .i64 0, .bool false] 31)
  have hb := hl.lt
  have HB := Lib.hid hb
  have qk : oneD (fun s => (s, kindB s != 0)) W d = (f, W0, true) := qk
  have qr : oneD rightV W3 d3 = (2, W4, d4) := by rw [one_word, q4]; simp [rightV, hr0, hr]
  have qo : oneD (fun s => (s, eqS s b_option)) W5 d5 = (f6, W6, false) := by rw [one_word, q6]; simp [ho]
  have e : cmdD W d = ({ zCmd with kind := 14, actor := s1, schema := s2, table := s3, right := 2, role := s5, opt := true }, W6, false) := by
    unfold cmdD
    rw [qk]
    simp [bindD, hk, tailD, grantD, q1, q2, q3, qr, q5, hm, qo]
  rw [e]
  have H1 := Lib.hid (lname_at (b := b) (p := p) q1)
  have H2 := Lib.hid (lname_at (b := b) (p := p) q2)
  have H3 := Lib.hid (lname_at (b := b) (p := p) q3)
  have H5 := Lib.hid (lname_at (b := b) (p := p) q5)
  have H4 := Lib.hid (lword_at (b := b) (p := p) q4)
  have HM := Lib.hid (lmore_at (b := b) (p := p) hm)
  have H6 := Lib.hid (lword_at (b := b) (p := p) q6)
  have io := eqS_as ho
  unfold b_option at io
  simp only at io
  have io' : (f6.toList != [111, 112, 116, 105, 111, 110]) = !(f6.toList == [111, 112, 116, 105, 111, 110]) := rfl
  rw [io] at io'
  have ihr0 := eqS_as hr0
  unfold b_read at ihr0
  simp only at ihr0
  have ihr := eqS_as hr
  unfold b_write at ihr
  simp only at ihr
  clear e hl qk q0 hk q1 q2 q3 q4 q5 qr hr0 hr hm q6 ho qo
  go_enter Tryz.func34, Tryz.ntmps34
  go_wp2_with (first
    | (go_at_call 32; with_reducible refine (H0.out _ HX0.out.ds).mono ?_; rintro e w0 ⟨rfl, g0, l0, k0⟩; have X0 := HX0.out.call k0 l0; have y1 := l0.c1; have y2 := l0.f1; have y3 := l0.lt; have X1 := X0.boxBad true [.int .i64 14, .string ⟨#[]⟩, .string ⟨#[]⟩, .string ⟨#[]⟩, .string ⟨#[]⟩, .string ⟨#[]⟩, .slice none 0 0, .string ⟨#[]⟩, .int .i64 0, .slice none 0 0, .int .i64 0, .int .i64 0, .string ⟨#[]⟩, .string ⟨#[]⟩, .string ⟨#[]⟩, .int .i64 0, .bool false] 31; have z0 := X1.lt; obtain ⟨z00, z01, z02⟩ := z0; have X0s := Lib.hid X1; clear l0 k0 X0 X1)
    | (go_at_call 56; with_reducible refine (HK.out _).mono ?_; rintro e wk ⟨rfl, rfl⟩)
    | (go_at_call 57; with_reducible refine (H1.out _ X0s.out.nr.ds).mono ?_; rintro e w1 ⟨rfl, g1, m1, k1⟩; have X1 := X0s.out.call k1 m1; obtain ⟨ca1, fa1⟩ := X1.cf 1 (by simp); obtain ⟨cb1, fb1⟩ := X1.cf 0 (by simp); have z1 := X1.lt; obtain ⟨z10, z11, z12⟩ := z1; have X1s : Nx b p w.heap.size w0.heap.size w _ _ _ [.int .i64 0, .string ⟨#[]⟩, .string ⟨#[]⟩, .string ⟨#[]⟩, .string ⟨#[]⟩, .string ⟨#[]⟩, .slice none 0 0, .string ⟨#[]⟩, .int .i64 0, .slice none 0 0, .int .i64 0, .int .i64 0, .string ⟨#[]⟩, .string ⟨#[]⟩, .string ⟨#[]⟩, .int .i64 0, .bool false] [.int .i64 14, .string s1, .string ⟨#[]⟩, .string ⟨#[]⟩, .string ⟨#[]⟩, .string ⟨#[]⟩, .slice none 0 0, .string ⟨#[]⟩, .int .i64 0, .slice none 0 0, .int .i64 0, .int .i64 0, .string ⟨#[]⟩, .string ⟨#[]⟩, .string ⟨#[]⟩, .int .i64 0, .bool false] := X1.set 1 (.string s1) (by simp); have X1s := Lib.hid X1s; clear m1 k1 X1)
    | (go_at_call 57; with_reducible refine (H2.out _ X1s.out.nr.ds).mono ?_; rintro e w2 ⟨rfl, g2, m2, k2⟩; have X2 := X1s.out.call k2 m2; obtain ⟨ca2, fa2⟩ := X2.cf 2 (by simp); obtain ⟨cb2, fb2⟩ := X2.cf 0 (by simp); have z2 := X2.lt; obtain ⟨z20, z21, z22⟩ := z2; have X2s : Nx b p w.heap.size w0.heap.size w _ _ _ [.int .i64 0, .string ⟨#[]⟩, .string ⟨#[]⟩, .string ⟨#[]⟩, .string ⟨#[]⟩, .string ⟨#[]⟩, .slice none 0 0, .string ⟨#[]⟩, .int .i64 0, .slice none 0 0, .int .i64 0, .int .i64 0, .string ⟨#[]⟩, .string ⟨#[]⟩, .string ⟨#[]⟩, .int .i64 0, .bool false] [.int .i64 14, .string s1, .string s2, .string ⟨#[]⟩, .string ⟨#[]⟩, .string ⟨#[]⟩, .slice none 0 0, .string ⟨#[]⟩, .int .i64 0, .slice none 0 0, .int .i64 0, .int .i64 0, .string ⟨#[]⟩, .string ⟨#[]⟩, .string ⟨#[]⟩, .int .i64 0, .bool false] := X2.set 2 (.string s2) (by simp); have X2s := Lib.hid X2s; clear m2 k2 X2)
    | (go_at_call 57; with_reducible refine (H3.out _ X2s.out.nr.ds).mono ?_; rintro e w3 ⟨rfl, g3, m3, k3⟩; have X3 := X2s.out.call k3 m3; obtain ⟨ca3, fa3⟩ := X3.cf 3 (by simp); obtain ⟨cb3, fb3⟩ := X3.cf 0 (by simp); have z3 := X3.lt; obtain ⟨z30, z31, z32⟩ := z3; have X3s : Nx b p w.heap.size w0.heap.size w _ _ _ [.int .i64 0, .string ⟨#[]⟩, .string ⟨#[]⟩, .string ⟨#[]⟩, .string ⟨#[]⟩, .string ⟨#[]⟩, .slice none 0 0, .string ⟨#[]⟩, .int .i64 0, .slice none 0 0, .int .i64 0, .int .i64 0, .string ⟨#[]⟩, .string ⟨#[]⟩, .string ⟨#[]⟩, .int .i64 0, .bool false] [.int .i64 14, .string s1, .string s2, .string s3, .string ⟨#[]⟩, .string ⟨#[]⟩, .slice none 0 0, .string ⟨#[]⟩, .int .i64 0, .slice none 0 0, .int .i64 0, .int .i64 0, .string ⟨#[]⟩, .string ⟨#[]⟩, .string ⟨#[]⟩, .int .i64 0, .bool false] := X3.set 3 (.string s3) (by simp); have X3s := Lib.hid X3s; clear m3 k3 X3)
    | (go_at_call 32; with_reducible refine (H4.out _ X3s.out.nr.ds).mono ?_; rintro e w4 ⟨rfl, g4, m4, k4⟩; have X4 := X3s.out.call k4 m4; obtain ⟨ca4, fa4⟩ := X4.cf 15 (by simp); have z4 := X4.lt; obtain ⟨z40, z41, z42⟩ := z4; have X4s : Nx b p w.heap.size w0.heap.size w _ _ _ [.int .i64 0, .string ⟨#[]⟩, .string ⟨#[]⟩, .string ⟨#[]⟩, .string ⟨#[]⟩, .string ⟨#[]⟩, .slice none 0 0, .string ⟨#[]⟩, .int .i64 0, .slice none 0 0, .int .i64 0, .int .i64 0, .string ⟨#[]⟩, .string ⟨#[]⟩, .string ⟨#[]⟩, .int .i64 0, .bool false] [.int .i64 14, .string s1, .string s2, .string s3, .string ⟨#[]⟩, .string ⟨#[]⟩, .slice none 0 0, .string ⟨#[]⟩, .int .i64 0, .slice none 0 0, .int .i64 0, .int .i64 0, .string ⟨#[]⟩, .string ⟨#[]⟩, .string ⟨#[]⟩, .int .i64 2, .bool false] := X4.set 15 (.int .i64 2) (by simp); have X4s := Lib.hid X4s; clear m4 k4 X4)
    | (go_at_call 57; with_reducible refine (H5.out _ X4s.out.nr.ds).mono ?_; rintro e w5 ⟨rfl, g5, m5, k5⟩; have X5 := X4s.out.call k5 m5; obtain ⟨ca5, fa5⟩ := X5.cf 5 (by simp); obtain ⟨cb5, fb5⟩ := X5.cf 0 (by simp); obtain ⟨cd5, fd5⟩ := X5.cf 16 (by simp); have z5 := X5.lt; obtain ⟨z50, z51, z52⟩ := z5; have X5s : Nx b p w.heap.size w0.heap.size w _ _ _ [.int .i64 0, .string ⟨#[]⟩, .string ⟨#[]⟩, .string ⟨#[]⟩, .string ⟨#[]⟩, .string ⟨#[]⟩, .slice none 0 0, .string ⟨#[]⟩, .int .i64 0, .slice none 0 0, .int .i64 0, .int .i64 0, .string ⟨#[]⟩, .string ⟨#[]⟩, .string ⟨#[]⟩, .int .i64 0, .bool false] [.int .i64 14, .string s1, .string s2, .string s3, .string ⟨#[]⟩, .string s5, .slice none 0 0, .string ⟨#[]⟩, .int .i64 0, .slice none 0 0, .int .i64 0, .int .i64 0, .string ⟨#[]⟩, .string ⟨#[]⟩, .string ⟨#[]⟩, .int .i64 2, .bool false] := X5.set 5 (.string s5) (by simp); have X5s := Lib.hid X5s; have X5o : Nx b p w.heap.size w0.heap.size w _ _ _ [.int .i64 0, .string ⟨#[]⟩, .string ⟨#[]⟩, .string ⟨#[]⟩, .string ⟨#[]⟩, .string ⟨#[]⟩, .slice none 0 0, .string ⟨#[]⟩, .int .i64 0, .slice none 0 0, .int .i64 0, .int .i64 0, .string ⟨#[]⟩, .string ⟨#[]⟩, .string ⟨#[]⟩, .int .i64 0, .bool false] [.int .i64 14, .string s1, .string s2, .string s3, .string ⟨#[]⟩, .string s5, .slice none 0 0, .string ⟨#[]⟩, .int .i64 0, .slice none 0 0, .int .i64 0, .int .i64 0, .string ⟨#[]⟩, .string ⟨#[]⟩, .string ⟨#[]⟩, .int .i64 2, .bool true] := X5s.out.set 16 (.bool true) (by simp); have X5o := Lib.hid X5o; clear m5 k5 X5)
    | (go_at_call 54; with_reducible refine (HM.out _ X5s.out.nr.ds).mono ?_; rintro e wm ⟨rfl, rfl⟩)
    | (go_at_call 32; with_reducible refine (H6.out _ X5o.out.nr.ds).mono ?_; rintro e w6 ⟨rfl, g6, m6, k6⟩; have X6 := X5o.out.call k6 m6; have yz1 := m6.c1; have yz2 := m6.f1; have z6 := X6.lt; obtain ⟨z60, z61, z62⟩ := z6; have X6s := Lib.hid (X6.bad false); have e1 := lvCmd_row X6s.out.row rfl; have e2 := svCmd_row X6s.out.nr.res rfl rfl (vs := [.int .i64 14, .string s1, .string s2, .string s3, .string ⟨#[]⟩, .string s5, .slice none 0 0, .string ⟨#[]⟩, .int .i64 0, .slice none 0 0, .int .i64 0, .int .i64 0, .string ⟨#[]⟩, .string ⟨#[]⟩, .string ⟨#[]⟩, .int .i64 2, .bool true]) (by simp [Value.oneCell']); clear m6 k6 X6))
  have XR := X6s.out.nr.sets (cs := [.int .i64 14, .string s1, .string s2, .string s3, .string ⟨#[]⟩, .string s5, .slice none 0 0, .string ⟨#[]⟩, .int .i64 0, .slice none 0 0, .int .i64 0, .int .i64 0, .string ⟨#[]⟩, .string ⟨#[]⟩, .string ⟨#[]⟩, .int .i64 2, .bool true]) rfl
  refine bodyPost_ret (results_cell rfl _ rfl (lv_row (T := 31) Tryz.underlying31 (by kernel_rfl) XR.res rfl)) rfl ?_
  exact ⟨XR.kw, _, rfl, ⟨none, 0, none, 0, rfl, colsN_nil _ _ _ HB.out, namesN_nil _ _ _ HB.out, g1, g2, g3, szZ, g5, szZ, szZ, szZ, szZ⟩, XR.ds⟩
set_option maxHeartbeats 2000000 in
theorem commandN_14_write_noopt_false (f : ByteArray) (W : Ws) (d : Bool) (W0 : Ws) (q0 : wordD W d = (f, W0, false)) (hk : kindB f = 14) (s1 : ByteArray) (W1 : Ws) (d1 : Bool) (q1 : nameD W0 false = (s1, W1, d1)) (s2 : ByteArray) (W2 : Ws) (d2 : Bool) (q2 : nameD W1 d1 = (s2, W2, d2)) (s3 : ByteArray) (W3 : Ws) (d3 : Bool) (q3 : nameD W2 d2 = (s3, W3, d3)) (f4 : ByteArray) (W4 : Ws) (d4 : Bool) (q4 : wordD W3 d3 = (f4, W4, d4)) (hr0 : eqS f4 b_read = false) (hr : eqS f4 b_write = true) (b p : Nat) (w : World) (hl : LnS w b p W d) (s5 : ByteArray) (W5 : Ws) (d5 : Bool) (q5 : nameD W4 d4 = (s5, W5, d5)) (hm : moreD W5 d5 = true) (f6 : ByteArray) (W6 : Ws) (q6 : wordD W5 d5 = (f6, W6, false)) (ho : eqS f6 b_option = false) : Calls Tryz.prog 34 #[.pointer (some ⟨b, 0, none⟩)] w (RdN b p w (CmdN b w.heap.size) (cmdD W d)) := by
  have H0 := Lib.hid (lword_at (b := b) (p := p) q0)
  have HK := Lib.hid (lkind_at hk)
  have qk := one_kind q0 hk
  have HX0 := Lib.hid (Nr.start hl [.int .i64 0, .string ⟨#[]⟩, .string ⟨#[]⟩, .string ⟨#[]⟩, .string ⟨#[]⟩, .string ⟨#[]⟩, .slice none 0 0, .string ⟨#[]⟩, .int .i64 0, .slice none 0 0, .int .i64 0, .int .i64 0, .string ⟨#[]⟩, .string ⟨#[]⟩, .string ⟨#[]⟩, .int .i64 0, .bool false] 31)
  have hb := hl.lt
  have HB := Lib.hid hb
  have qk : oneD (fun s => (s, kindB s != 0)) W d = (f, W0, false) := qk
  have qr : oneD rightV W3 d3 = (2, W4, d4) := by rw [one_word, q4]; simp [rightV, hr0, hr]
  have qo : oneD (fun s => (s, eqS s b_option)) W5 d5 = (f6, W6, true) := by rw [one_word, q6]; simp [ho]
  have e : cmdD W d = ({ zCmd with kind := 14, actor := s1, schema := s2, table := s3, right := 2, role := s5, opt := true }, W6, true) := by
    unfold cmdD
    rw [qk]
    simp [bindD, hk, tailD, grantD, q1, q2, q3, qr, q5, hm, qo]
  rw [e]
  have H1 := Lib.hid (lname_at (b := b) (p := p) q1)
  have H2 := Lib.hid (lname_at (b := b) (p := p) q2)
  have H3 := Lib.hid (lname_at (b := b) (p := p) q3)
  have H5 := Lib.hid (lname_at (b := b) (p := p) q5)
  have H4 := Lib.hid (lword_at (b := b) (p := p) q4)
  have HM := Lib.hid (lmore_at (b := b) (p := p) hm)
  have H6 := Lib.hid (lword_at (b := b) (p := p) q6)
  have io := eqS_as ho
  unfold b_option at io
  simp only at io
  have io' : (f6.toList != [111, 112, 116, 105, 111, 110]) = !(f6.toList == [111, 112, 116, 105, 111, 110]) := rfl
  rw [io] at io'
  have ihr0 := eqS_as hr0
  unfold b_read at ihr0
  simp only at ihr0
  have ihr := eqS_as hr
  unfold b_write at ihr
  simp only at ihr
  clear e hl qk q0 hk q1 q2 q3 q4 q5 qr hr0 hr hm q6 ho qo
  go_enter Tryz.func34, Tryz.ntmps34
  go_wp2_with (first
    | (go_at_call 32; with_reducible refine (H0.out _ HX0.out.ds).mono ?_; rintro e w0 ⟨rfl, g0, l0, k0⟩; have X0 := HX0.out.call k0 l0; have y1 := l0.c1; have y2 := l0.f1; have y3 := l0.lt; have X1 := X0.boxBad false [.int .i64 14, .string ⟨#[]⟩, .string ⟨#[]⟩, .string ⟨#[]⟩, .string ⟨#[]⟩, .string ⟨#[]⟩, .slice none 0 0, .string ⟨#[]⟩, .int .i64 0, .slice none 0 0, .int .i64 0, .int .i64 0, .string ⟨#[]⟩, .string ⟨#[]⟩, .string ⟨#[]⟩, .int .i64 0, .bool false] 31; have z0 := X1.lt; obtain ⟨z00, z01, z02⟩ := z0; have X0s := Lib.hid X1; clear l0 k0 X0 X1)
    | (go_at_call 56; with_reducible refine (HK.out _).mono ?_; rintro e wk ⟨rfl, rfl⟩)
    | (go_at_call 57; with_reducible refine (H1.out _ X0s.out.nr.ds).mono ?_; rintro e w1 ⟨rfl, g1, m1, k1⟩; have X1 := X0s.out.call k1 m1; obtain ⟨ca1, fa1⟩ := X1.cf 1 (by simp); obtain ⟨cb1, fb1⟩ := X1.cf 0 (by simp); have z1 := X1.lt; obtain ⟨z10, z11, z12⟩ := z1; have X1s : Nx b p w.heap.size w0.heap.size w _ _ _ [.int .i64 0, .string ⟨#[]⟩, .string ⟨#[]⟩, .string ⟨#[]⟩, .string ⟨#[]⟩, .string ⟨#[]⟩, .slice none 0 0, .string ⟨#[]⟩, .int .i64 0, .slice none 0 0, .int .i64 0, .int .i64 0, .string ⟨#[]⟩, .string ⟨#[]⟩, .string ⟨#[]⟩, .int .i64 0, .bool false] [.int .i64 14, .string s1, .string ⟨#[]⟩, .string ⟨#[]⟩, .string ⟨#[]⟩, .string ⟨#[]⟩, .slice none 0 0, .string ⟨#[]⟩, .int .i64 0, .slice none 0 0, .int .i64 0, .int .i64 0, .string ⟨#[]⟩, .string ⟨#[]⟩, .string ⟨#[]⟩, .int .i64 0, .bool false] := X1.set 1 (.string s1) (by simp); have X1s := Lib.hid X1s; clear m1 k1 X1)
    | (go_at_call 57; with_reducible refine (H2.out _ X1s.out.nr.ds).mono ?_; rintro e w2 ⟨rfl, g2, m2, k2⟩; have X2 := X1s.out.call k2 m2; obtain ⟨ca2, fa2⟩ := X2.cf 2 (by simp); obtain ⟨cb2, fb2⟩ := X2.cf 0 (by simp); have z2 := X2.lt; obtain ⟨z20, z21, z22⟩ := z2; have X2s : Nx b p w.heap.size w0.heap.size w _ _ _ [.int .i64 0, .string ⟨#[]⟩, .string ⟨#[]⟩, .string ⟨#[]⟩, .string ⟨#[]⟩, .string ⟨#[]⟩, .slice none 0 0, .string ⟨#[]⟩, .int .i64 0, .slice none 0 0, .int .i64 0, .int .i64 0, .string ⟨#[]⟩, .string ⟨#[]⟩, .string ⟨#[]⟩, .int .i64 0, .bool false] [.int .i64 14, .string s1, .string s2, .string ⟨#[]⟩, .string ⟨#[]⟩, .string ⟨#[]⟩, .slice none 0 0, .string ⟨#[]⟩, .int .i64 0, .slice none 0 0, .int .i64 0, .int .i64 0, .string ⟨#[]⟩, .string ⟨#[]⟩, .string ⟨#[]⟩, .int .i64 0, .bool false] := X2.set 2 (.string s2) (by simp); have X2s := Lib.hid X2s; clear m2 k2 X2)
    | (go_at_call 57; with_reducible refine (H3.out _ X2s.out.nr.ds).mono ?_; rintro e w3 ⟨rfl, g3, m3, k3⟩; have X3 := X2s.out.call k3 m3; obtain ⟨ca3, fa3⟩ := X3.cf 3 (by simp); obtain ⟨cb3, fb3⟩ := X3.cf 0 (by simp); have z3 := X3.lt; obtain ⟨z30, z31, z32⟩ := z3; have X3s : Nx b p w.heap.size w0.heap.size w _ _ _ [.int .i64 0, .string ⟨#[]⟩, .string ⟨#[]⟩, .string ⟨#[]⟩, .string ⟨#[]⟩, .string ⟨#[]⟩, .slice none 0 0, .string ⟨#[]⟩, .int .i64 0, .slice none 0 0, .int .i64 0, .int .i64 0, .string ⟨#[]⟩, .string ⟨#[]⟩, .string ⟨#[]⟩, .int .i64 0, .bool false] [.int .i64 14, .string s1, .string s2, .string s3, .string ⟨#[]⟩, .string ⟨#[]⟩, .slice none 0 0, .string ⟨#[]⟩, .int .i64 0, .slice none 0 0, .int .i64 0, .int .i64 0, .string ⟨#[]⟩, .string ⟨#[]⟩, .string ⟨#[]⟩, .int .i64 0, .bool false] := X3.set 3 (.string s3) (by simp); have X3s := Lib.hid X3s; clear m3 k3 X3)
    | (go_at_call 32; with_reducible refine (H4.out _ X3s.out.nr.ds).mono ?_; rintro e w4 ⟨rfl, g4, m4, k4⟩; have X4 := X3s.out.call k4 m4; obtain ⟨ca4, fa4⟩ := X4.cf 15 (by simp); have z4 := X4.lt; obtain ⟨z40, z41, z42⟩ := z4; have X4s : Nx b p w.heap.size w0.heap.size w _ _ _ [.int .i64 0, .string ⟨#[]⟩, .string ⟨#[]⟩, .string ⟨#[]⟩, .string ⟨#[]⟩, .string ⟨#[]⟩, .slice none 0 0, .string ⟨#[]⟩, .int .i64 0, .slice none 0 0, .int .i64 0, .int .i64 0, .string ⟨#[]⟩, .string ⟨#[]⟩, .string ⟨#[]⟩, .int .i64 0, .bool false] [.int .i64 14, .string s1, .string s2, .string s3, .string ⟨#[]⟩, .string ⟨#[]⟩, .slice none 0 0, .string ⟨#[]⟩, .int .i64 0, .slice none 0 0, .int .i64 0, .int .i64 0, .string ⟨#[]⟩, .string ⟨#[]⟩, .string ⟨#[]⟩, .int .i64 2, .bool false] := X4.set 15 (.int .i64 2) (by simp); have X4s := Lib.hid X4s; clear m4 k4 X4)
    | (go_at_call 57; with_reducible refine (H5.out _ X4s.out.nr.ds).mono ?_; rintro e w5 ⟨rfl, g5, m5, k5⟩; have X5 := X4s.out.call k5 m5; obtain ⟨ca5, fa5⟩ := X5.cf 5 (by simp); obtain ⟨cb5, fb5⟩ := X5.cf 0 (by simp); obtain ⟨cd5, fd5⟩ := X5.cf 16 (by simp); have z5 := X5.lt; obtain ⟨z50, z51, z52⟩ := z5; have X5s : Nx b p w.heap.size w0.heap.size w _ _ _ [.int .i64 0, .string ⟨#[]⟩, .string ⟨#[]⟩, .string ⟨#[]⟩, .string ⟨#[]⟩, .string ⟨#[]⟩, .slice none 0 0, .string ⟨#[]⟩, .int .i64 0, .slice none 0 0, .int .i64 0, .int .i64 0, .string ⟨#[]⟩, .string ⟨#[]⟩, .string ⟨#[]⟩, .int .i64 0, .bool false] [.int .i64 14, .string s1, .string s2, .string s3, .string ⟨#[]⟩, .string s5, .slice none 0 0, .string ⟨#[]⟩, .int .i64 0, .slice none 0 0, .int .i64 0, .int .i64 0, .string ⟨#[]⟩, .string ⟨#[]⟩, .string ⟨#[]⟩, .int .i64 2, .bool false] := X5.set 5 (.string s5) (by simp); have X5s := Lib.hid X5s; have X5o : Nx b p w.heap.size w0.heap.size w _ _ _ [.int .i64 0, .string ⟨#[]⟩, .string ⟨#[]⟩, .string ⟨#[]⟩, .string ⟨#[]⟩, .string ⟨#[]⟩, .slice none 0 0, .string ⟨#[]⟩, .int .i64 0, .slice none 0 0, .int .i64 0, .int .i64 0, .string ⟨#[]⟩, .string ⟨#[]⟩, .string ⟨#[]⟩, .int .i64 0, .bool false] [.int .i64 14, .string s1, .string s2, .string s3, .string ⟨#[]⟩, .string s5, .slice none 0 0, .string ⟨#[]⟩, .int .i64 0, .slice none 0 0, .int .i64 0, .int .i64 0, .string ⟨#[]⟩, .string ⟨#[]⟩, .string ⟨#[]⟩, .int .i64 2, .bool true] := X5s.out.set 16 (.bool true) (by simp); have X5o := Lib.hid X5o; clear m5 k5 X5)
    | (go_at_call 54; with_reducible refine (HM.out _ X5s.out.nr.ds).mono ?_; rintro e wm ⟨rfl, rfl⟩)
    | (go_at_call 32; with_reducible refine (H6.out _ X5o.out.nr.ds).mono ?_; rintro e w6 ⟨rfl, g6, m6, k6⟩; have X6 := X5o.out.call k6 m6; have yz1 := m6.c1; have yz2 := m6.f1; have z6 := X6.lt; obtain ⟨z60, z61, z62⟩ := z6; have X6s := Lib.hid (X6.bad true); have e1 := lvCmd_row X6s.out.row rfl; have e2 := svCmd_row X6s.out.nr.res rfl rfl (vs := [.int .i64 14, .string s1, .string s2, .string s3, .string ⟨#[]⟩, .string s5, .slice none 0 0, .string ⟨#[]⟩, .int .i64 0, .slice none 0 0, .int .i64 0, .int .i64 0, .string ⟨#[]⟩, .string ⟨#[]⟩, .string ⟨#[]⟩, .int .i64 2, .bool true]) (by simp [Value.oneCell']); clear m6 k6 X6))
  have XR := X6s.out.nr.sets (cs := [.int .i64 14, .string s1, .string s2, .string s3, .string ⟨#[]⟩, .string s5, .slice none 0 0, .string ⟨#[]⟩, .int .i64 0, .slice none 0 0, .int .i64 0, .int .i64 0, .string ⟨#[]⟩, .string ⟨#[]⟩, .string ⟨#[]⟩, .int .i64 2, .bool true]) rfl
  refine bodyPost_ret (results_cell rfl _ rfl (lv_row (T := 31) Tryz.underlying31 (by kernel_rfl) XR.res rfl)) rfl ?_
  exact ⟨XR.kw, _, rfl, ⟨none, 0, none, 0, rfl, colsN_nil _ _ _ HB.out, namesN_nil _ _ _ HB.out, g1, g2, g3, szZ, g5, szZ, szZ, szZ, szZ⟩, XR.ds⟩
set_option maxHeartbeats 2000000 in
theorem commandN_14_write_noopt_true (f : ByteArray) (W : Ws) (d : Bool) (W0 : Ws) (q0 : wordD W d = (f, W0, true)) (hk : kindB f = 14) (s1 : ByteArray) (W1 : Ws) (d1 : Bool) (q1 : nameD W0 true = (s1, W1, d1)) (s2 : ByteArray) (W2 : Ws) (d2 : Bool) (q2 : nameD W1 d1 = (s2, W2, d2)) (s3 : ByteArray) (W3 : Ws) (d3 : Bool) (q3 : nameD W2 d2 = (s3, W3, d3)) (f4 : ByteArray) (W4 : Ws) (d4 : Bool) (q4 : wordD W3 d3 = (f4, W4, d4)) (hr0 : eqS f4 b_read = false) (hr : eqS f4 b_write = true) (b p : Nat) (w : World) (hl : LnS w b p W d) (s5 : ByteArray) (W5 : Ws) (d5 : Bool) (q5 : nameD W4 d4 = (s5, W5, d5)) (hm : moreD W5 d5 = true) (f6 : ByteArray) (W6 : Ws) (q6 : wordD W5 d5 = (f6, W6, false)) (ho : eqS f6 b_option = false) : Calls Tryz.prog 34 #[.pointer (some ⟨b, 0, none⟩)] w (RdN b p w (CmdN b w.heap.size) (cmdD W d)) := by
  have H0 := Lib.hid (lword_at (b := b) (p := p) q0)
  have HK := Lib.hid (lkind_at hk)
  have qk := one_kind q0 hk
  have HX0 := Lib.hid (Nr.start hl [.int .i64 0, .string ⟨#[]⟩, .string ⟨#[]⟩, .string ⟨#[]⟩, .string ⟨#[]⟩, .string ⟨#[]⟩, .slice none 0 0, .string ⟨#[]⟩, .int .i64 0, .slice none 0 0, .int .i64 0, .int .i64 0, .string ⟨#[]⟩, .string ⟨#[]⟩, .string ⟨#[]⟩, .int .i64 0, .bool false] 31)
  have hb := hl.lt
  have HB := Lib.hid hb
  have qk : oneD (fun s => (s, kindB s != 0)) W d = (f, W0, true) := qk
  have qr : oneD rightV W3 d3 = (2, W4, d4) := by rw [one_word, q4]; simp [rightV, hr0, hr]
  have qo : oneD (fun s => (s, eqS s b_option)) W5 d5 = (f6, W6, true) := by rw [one_word, q6]; simp [ho]
  have e : cmdD W d = ({ zCmd with kind := 14, actor := s1, schema := s2, table := s3, right := 2, role := s5, opt := true }, W6, true) := by
    unfold cmdD
    rw [qk]
    simp [bindD, hk, tailD, grantD, q1, q2, q3, qr, q5, hm, qo]
  rw [e]
  have H1 := Lib.hid (lname_at (b := b) (p := p) q1)
  have H2 := Lib.hid (lname_at (b := b) (p := p) q2)
  have H3 := Lib.hid (lname_at (b := b) (p := p) q3)
  have H5 := Lib.hid (lname_at (b := b) (p := p) q5)
  have H4 := Lib.hid (lword_at (b := b) (p := p) q4)
  have HM := Lib.hid (lmore_at (b := b) (p := p) hm)
  have H6 := Lib.hid (lword_at (b := b) (p := p) q6)
  have io := eqS_as ho
  unfold b_option at io
  simp only at io
  have io' : (f6.toList != [111, 112, 116, 105, 111, 110]) = !(f6.toList == [111, 112, 116, 105, 111, 110]) := rfl
  rw [io] at io'
  have ihr0 := eqS_as hr0
  unfold b_read at ihr0
  simp only at ihr0
  have ihr := eqS_as hr
  unfold b_write at ihr
  simp only at ihr
  clear e hl qk q0 hk q1 q2 q3 q4 q5 qr hr0 hr hm q6 ho qo
  go_enter Tryz.func34, Tryz.ntmps34
  go_wp2_with (first
    | (go_at_call 32; with_reducible refine (H0.out _ HX0.out.ds).mono ?_; rintro e w0 ⟨rfl, g0, l0, k0⟩; have X0 := HX0.out.call k0 l0; have y1 := l0.c1; have y2 := l0.f1; have y3 := l0.lt; have X1 := X0.boxBad true [.int .i64 14, .string ⟨#[]⟩, .string ⟨#[]⟩, .string ⟨#[]⟩, .string ⟨#[]⟩, .string ⟨#[]⟩, .slice none 0 0, .string ⟨#[]⟩, .int .i64 0, .slice none 0 0, .int .i64 0, .int .i64 0, .string ⟨#[]⟩, .string ⟨#[]⟩, .string ⟨#[]⟩, .int .i64 0, .bool false] 31; have z0 := X1.lt; obtain ⟨z00, z01, z02⟩ := z0; have X0s := Lib.hid X1; clear l0 k0 X0 X1)
    | (go_at_call 56; with_reducible refine (HK.out _).mono ?_; rintro e wk ⟨rfl, rfl⟩)
    | (go_at_call 57; with_reducible refine (H1.out _ X0s.out.nr.ds).mono ?_; rintro e w1 ⟨rfl, g1, m1, k1⟩; have X1 := X0s.out.call k1 m1; obtain ⟨ca1, fa1⟩ := X1.cf 1 (by simp); obtain ⟨cb1, fb1⟩ := X1.cf 0 (by simp); have z1 := X1.lt; obtain ⟨z10, z11, z12⟩ := z1; have X1s : Nx b p w.heap.size w0.heap.size w _ _ _ [.int .i64 0, .string ⟨#[]⟩, .string ⟨#[]⟩, .string ⟨#[]⟩, .string ⟨#[]⟩, .string ⟨#[]⟩, .slice none 0 0, .string ⟨#[]⟩, .int .i64 0, .slice none 0 0, .int .i64 0, .int .i64 0, .string ⟨#[]⟩, .string ⟨#[]⟩, .string ⟨#[]⟩, .int .i64 0, .bool false] [.int .i64 14, .string s1, .string ⟨#[]⟩, .string ⟨#[]⟩, .string ⟨#[]⟩, .string ⟨#[]⟩, .slice none 0 0, .string ⟨#[]⟩, .int .i64 0, .slice none 0 0, .int .i64 0, .int .i64 0, .string ⟨#[]⟩, .string ⟨#[]⟩, .string ⟨#[]⟩, .int .i64 0, .bool false] := X1.set 1 (.string s1) (by simp); have X1s := Lib.hid X1s; clear m1 k1 X1)
    | (go_at_call 57; with_reducible refine (H2.out _ X1s.out.nr.ds).mono ?_; rintro e w2 ⟨rfl, g2, m2, k2⟩; have X2 := X1s.out.call k2 m2; obtain ⟨ca2, fa2⟩ := X2.cf 2 (by simp); obtain ⟨cb2, fb2⟩ := X2.cf 0 (by simp); have z2 := X2.lt; obtain ⟨z20, z21, z22⟩ := z2; have X2s : Nx b p w.heap.size w0.heap.size w _ _ _ [.int .i64 0, .string ⟨#[]⟩, .string ⟨#[]⟩, .string ⟨#[]⟩, .string ⟨#[]⟩, .string ⟨#[]⟩, .slice none 0 0, .string ⟨#[]⟩, .int .i64 0, .slice none 0 0, .int .i64 0, .int .i64 0, .string ⟨#[]⟩, .string ⟨#[]⟩, .string ⟨#[]⟩, .int .i64 0, .bool false] [.int .i64 14, .string s1, .string s2, .string ⟨#[]⟩, .string ⟨#[]⟩, .string ⟨#[]⟩, .slice none 0 0, .string ⟨#[]⟩, .int .i64 0, .slice none 0 0, .int .i64 0, .int .i64 0, .string ⟨#[]⟩, .string ⟨#[]⟩, .string ⟨#[]⟩, .int .i64 0, .bool false] := X2.set 2 (.string s2) (by simp); have X2s := Lib.hid X2s; clear m2 k2 X2)
    | (go_at_call 57; with_reducible refine (H3.out _ X2s.out.nr.ds).mono ?_; rintro e w3 ⟨rfl, g3, m3, k3⟩; have X3 := X2s.out.call k3 m3; obtain ⟨ca3, fa3⟩ := X3.cf 3 (by simp); obtain ⟨cb3, fb3⟩ := X3.cf 0 (by simp); have z3 := X3.lt; obtain ⟨z30, z31, z32⟩ := z3; have X3s : Nx b p w.heap.size w0.heap.size w _ _ _ [.int .i64 0, .string ⟨#[]⟩, .string ⟨#[]⟩, .string ⟨#[]⟩, .string ⟨#[]⟩, .string ⟨#[]⟩, .slice none 0 0, .string ⟨#[]⟩, .int .i64 0, .slice none 0 0, .int .i64 0, .int .i64 0, .string ⟨#[]⟩, .string ⟨#[]⟩, .string ⟨#[]⟩, .int .i64 0, .bool false] [.int .i64 14, .string s1, .string s2, .string s3, .string ⟨#[]⟩, .string ⟨#[]⟩, .slice none 0 0, .string ⟨#[]⟩, .int .i64 0, .slice none 0 0, .int .i64 0, .int .i64 0, .string ⟨#[]⟩, .string ⟨#[]⟩, .string ⟨#[]⟩, .int .i64 0, .bool false] := X3.set 3 (.string s3) (by simp); have X3s := Lib.hid X3s; clear m3 k3 X3)
    | (go_at_call 32; with_reducible refine (H4.out _ X3s.out.nr.ds).mono ?_; rintro e w4 ⟨rfl, g4, m4, k4⟩; have X4 := X3s.out.call k4 m4; obtain ⟨ca4, fa4⟩ := X4.cf 15 (by simp); have z4 := X4.lt; obtain ⟨z40, z41, z42⟩ := z4; have X4s : Nx b p w.heap.size w0.heap.size w _ _ _ [.int .i64 0, .string ⟨#[]⟩, .string ⟨#[]⟩, .string ⟨#[]⟩, .string ⟨#[]⟩, .string ⟨#[]⟩, .slice none 0 0, .string ⟨#[]⟩, .int .i64 0, .slice none 0 0, .int .i64 0, .int .i64 0, .string ⟨#[]⟩, .string ⟨#[]⟩, .string ⟨#[]⟩, .int .i64 0, .bool false] [.int .i64 14, .string s1, .string s2, .string s3, .string ⟨#[]⟩, .string ⟨#[]⟩, .slice none 0 0, .string ⟨#[]⟩, .int .i64 0, .slice none 0 0, .int .i64 0, .int .i64 0, .string ⟨#[]⟩, .string ⟨#[]⟩, .string ⟨#[]⟩, .int .i64 2, .bool false] := X4.set 15 (.int .i64 2) (by simp); have X4s := Lib.hid X4s; clear m4 k4 X4)
    | (go_at_call 57; with_reducible refine (H5.out _ X4s.out.nr.ds).mono ?_; rintro e w5 ⟨rfl, g5, m5, k5⟩; have X5 := X4s.out.call k5 m5; obtain ⟨ca5, fa5⟩ := X5.cf 5 (by simp); obtain ⟨cb5, fb5⟩ := X5.cf 0 (by simp); obtain ⟨cd5, fd5⟩ := X5.cf 16 (by simp); have z5 := X5.lt; obtain ⟨z50, z51, z52⟩ := z5; have X5s : Nx b p w.heap.size w0.heap.size w _ _ _ [.int .i64 0, .string ⟨#[]⟩, .string ⟨#[]⟩, .string ⟨#[]⟩, .string ⟨#[]⟩, .string ⟨#[]⟩, .slice none 0 0, .string ⟨#[]⟩, .int .i64 0, .slice none 0 0, .int .i64 0, .int .i64 0, .string ⟨#[]⟩, .string ⟨#[]⟩, .string ⟨#[]⟩, .int .i64 0, .bool false] [.int .i64 14, .string s1, .string s2, .string s3, .string ⟨#[]⟩, .string s5, .slice none 0 0, .string ⟨#[]⟩, .int .i64 0, .slice none 0 0, .int .i64 0, .int .i64 0, .string ⟨#[]⟩, .string ⟨#[]⟩, .string ⟨#[]⟩, .int .i64 2, .bool false] := X5.set 5 (.string s5) (by simp); have X5s := Lib.hid X5s; have X5o : Nx b p w.heap.size w0.heap.size w _ _ _ [.int .i64 0, .string ⟨#[]⟩, .string ⟨#[]⟩, .string ⟨#[]⟩, .string ⟨#[]⟩, .string ⟨#[]⟩, .slice none 0 0, .string ⟨#[]⟩, .int .i64 0, .slice none 0 0, .int .i64 0, .int .i64 0, .string ⟨#[]⟩, .string ⟨#[]⟩, .string ⟨#[]⟩, .int .i64 0, .bool false] [.int .i64 14, .string s1, .string s2, .string s3, .string ⟨#[]⟩, .string s5, .slice none 0 0, .string ⟨#[]⟩, .int .i64 0, .slice none 0 0, .int .i64 0, .int .i64 0, .string ⟨#[]⟩, .string ⟨#[]⟩, .string ⟨#[]⟩, .int .i64 2, .bool true] := X5s.out.set 16 (.bool true) (by simp); have X5o := Lib.hid X5o; clear m5 k5 X5)
    | (go_at_call 54; with_reducible refine (HM.out _ X5s.out.nr.ds).mono ?_; rintro e wm ⟨rfl, rfl⟩)
    | (go_at_call 32; with_reducible refine (H6.out _ X5o.out.nr.ds).mono ?_; rintro e w6 ⟨rfl, g6, m6, k6⟩; have X6 := X5o.out.call k6 m6; have yz1 := m6.c1; have yz2 := m6.f1; have z6 := X6.lt; obtain ⟨z60, z61, z62⟩ := z6; have X6s := Lib.hid (X6.bad true); have e1 := lvCmd_row X6s.out.row rfl; have e2 := svCmd_row X6s.out.nr.res rfl rfl (vs := [.int .i64 14, .string s1, .string s2, .string s3, .string ⟨#[]⟩, .string s5, .slice none 0 0, .string ⟨#[]⟩, .int .i64 0, .slice none 0 0, .int .i64 0, .int .i64 0, .string ⟨#[]⟩, .string ⟨#[]⟩, .string ⟨#[]⟩, .int .i64 2, .bool true]) (by simp [Value.oneCell']); clear m6 k6 X6))
  have XR := X6s.out.nr.sets (cs := [.int .i64 14, .string s1, .string s2, .string s3, .string ⟨#[]⟩, .string s5, .slice none 0 0, .string ⟨#[]⟩, .int .i64 0, .slice none 0 0, .int .i64 0, .int .i64 0, .string ⟨#[]⟩, .string ⟨#[]⟩, .string ⟨#[]⟩, .int .i64 2, .bool true]) rfl
  refine bodyPost_ret (results_cell rfl _ rfl (lv_row (T := 31) Tryz.underlying31 (by kernel_rfl) XR.res rfl)) rfl ?_
  exact ⟨XR.kw, _, rfl, ⟨none, 0, none, 0, rfl, colsN_nil _ _ _ HB.out, namesN_nil _ _ _ HB.out, g1, g2, g3, szZ, g5, szZ, szZ, szZ, szZ⟩, XR.ds⟩
set_option maxHeartbeats 2000000 in
theorem commandN_14_other_nomore_false (f : ByteArray) (W : Ws) (d : Bool) (W0 : Ws) (q0 : wordD W d = (f, W0, false)) (hk : kindB f = 14) (s1 : ByteArray) (W1 : Ws) (d1 : Bool) (q1 : nameD W0 false = (s1, W1, d1)) (s2 : ByteArray) (W2 : Ws) (d2 : Bool) (q2 : nameD W1 d1 = (s2, W2, d2)) (s3 : ByteArray) (W3 : Ws) (d3 : Bool) (q3 : nameD W2 d2 = (s3, W3, d3)) (f4 : ByteArray) (W4 : Ws) (d4 : Bool) (q4 : wordD W3 d3 = (f4, W4, d4)) (hr0 : eqS f4 b_read = false) (hr1 : eqS f4 b_write = false) (b p : Nat) (w : World) (hl : LnS w b p W d) (s5 : ByteArray) (W5 : Ws) (d5 : Bool) (q5 : nameD W4 true = (s5, W5, d5)) (hm : moreD W5 d5 = false) : Calls Tryz.prog 34 #[.pointer (some ⟨b, 0, none⟩)] w (RdN b p w (CmdN b w.heap.size) (cmdD W d)) := by
  have H0 := Lib.hid (lword_at (b := b) (p := p) q0)
  have HK := Lib.hid (lkind_at hk)
  have qk := one_kind q0 hk
  have HX0 := Lib.hid (Nr.start hl [.int .i64 0, .string ⟨#[]⟩, .string ⟨#[]⟩, .string ⟨#[]⟩, .string ⟨#[]⟩, .string ⟨#[]⟩, .slice none 0 0, .string ⟨#[]⟩, .int .i64 0, .slice none 0 0, .int .i64 0, .int .i64 0, .string ⟨#[]⟩, .string ⟨#[]⟩, .string ⟨#[]⟩, .int .i64 0, .bool false] 31)
  have hb := hl.lt
  have HB := Lib.hid hb
  have qk : oneD (fun s => (s, kindB s != 0)) W d = (f, W0, false) := qk
  have qr : oneD rightV W3 d3 = (0, W4, true) := by rw [one_word, q4]; simp [rightV, hr0, hr1]
  have e : cmdD W d = ({ zCmd with kind := 14, actor := s1, schema := s2, table := s3, right := 0, role := s5 }, W5, d5) := by
    unfold cmdD
    rw [qk]
    simp [bindD, hk, tailD, grantD, q1, q2, q3, qr, q5, hm]
  rw [e]
  have H1 := Lib.hid (lname_at (b := b) (p := p) q1)
  have H2 := Lib.hid (lname_at (b := b) (p := p) q2)
  have H3 := Lib.hid (lname_at (b := b) (p := p) q3)
  have H5 := Lib.hid (lname_at (b := b) (p := p) q5)
  have H4 := Lib.hid (lword_at (b := b) (p := p) q4)
  have HM := Lib.hid (lmore_at (b := b) (p := p) hm)
  have ihr0 := eqS_as hr0
  unfold b_read at ihr0
  simp only at ihr0
  have ihr1 := eqS_as hr1
  unfold b_write at ihr1
  simp only at ihr1
  clear e hl qk q0 hk q1 q2 q3 q4 q5 qr hr0 hr1 hm
  go_enter Tryz.func34, Tryz.ntmps34
  go_wp2_with (first
    | (go_at_call 32; with_reducible refine (H0.out _ HX0.out.ds).mono ?_; rintro e w0 ⟨rfl, g0, l0, k0⟩; have X0 := HX0.out.call k0 l0; have y1 := l0.c1; have y2 := l0.f1; have y3 := l0.lt; have X1 := X0.boxBad false [.int .i64 14, .string ⟨#[]⟩, .string ⟨#[]⟩, .string ⟨#[]⟩, .string ⟨#[]⟩, .string ⟨#[]⟩, .slice none 0 0, .string ⟨#[]⟩, .int .i64 0, .slice none 0 0, .int .i64 0, .int .i64 0, .string ⟨#[]⟩, .string ⟨#[]⟩, .string ⟨#[]⟩, .int .i64 0, .bool false] 31; have z0 := X1.lt; obtain ⟨z00, z01, z02⟩ := z0; have X0s := Lib.hid X1; clear l0 k0 X0 X1)
    | (go_at_call 56; with_reducible refine (HK.out _).mono ?_; rintro e wk ⟨rfl, rfl⟩)
    | (go_at_call 57; with_reducible refine (H1.out _ X0s.out.nr.ds).mono ?_; rintro e w1 ⟨rfl, g1, m1, k1⟩; have X1 := X0s.out.call k1 m1; obtain ⟨ca1, fa1⟩ := X1.cf 1 (by simp); obtain ⟨cb1, fb1⟩ := X1.cf 0 (by simp); have z1 := X1.lt; obtain ⟨z10, z11, z12⟩ := z1; have X1s : Nx b p w.heap.size w0.heap.size w _ _ _ [.int .i64 0, .string ⟨#[]⟩, .string ⟨#[]⟩, .string ⟨#[]⟩, .string ⟨#[]⟩, .string ⟨#[]⟩, .slice none 0 0, .string ⟨#[]⟩, .int .i64 0, .slice none 0 0, .int .i64 0, .int .i64 0, .string ⟨#[]⟩, .string ⟨#[]⟩, .string ⟨#[]⟩, .int .i64 0, .bool false] [.int .i64 14, .string s1, .string ⟨#[]⟩, .string ⟨#[]⟩, .string ⟨#[]⟩, .string ⟨#[]⟩, .slice none 0 0, .string ⟨#[]⟩, .int .i64 0, .slice none 0 0, .int .i64 0, .int .i64 0, .string ⟨#[]⟩, .string ⟨#[]⟩, .string ⟨#[]⟩, .int .i64 0, .bool false] := X1.set 1 (.string s1) (by simp); have X1s := Lib.hid X1s; clear m1 k1 X1)
    | (go_at_call 57; with_reducible refine (H2.out _ X1s.out.nr.ds).mono ?_; rintro e w2 ⟨rfl, g2, m2, k2⟩; have X2 := X1s.out.call k2 m2; obtain ⟨ca2, fa2⟩ := X2.cf 2 (by simp); obtain ⟨cb2, fb2⟩ := X2.cf 0 (by simp); have z2 := X2.lt; obtain ⟨z20, z21, z22⟩ := z2; have X2s : Nx b p w.heap.size w0.heap.size w _ _ _ [.int .i64 0, .string ⟨#[]⟩, .string ⟨#[]⟩, .string ⟨#[]⟩, .string ⟨#[]⟩, .string ⟨#[]⟩, .slice none 0 0, .string ⟨#[]⟩, .int .i64 0, .slice none 0 0, .int .i64 0, .int .i64 0, .string ⟨#[]⟩, .string ⟨#[]⟩, .string ⟨#[]⟩, .int .i64 0, .bool false] [.int .i64 14, .string s1, .string s2, .string ⟨#[]⟩, .string ⟨#[]⟩, .string ⟨#[]⟩, .slice none 0 0, .string ⟨#[]⟩, .int .i64 0, .slice none 0 0, .int .i64 0, .int .i64 0, .string ⟨#[]⟩, .string ⟨#[]⟩, .string ⟨#[]⟩, .int .i64 0, .bool false] := X2.set 2 (.string s2) (by simp); have X2s := Lib.hid X2s; clear m2 k2 X2)
    | (go_at_call 57; with_reducible refine (H3.out _ X2s.out.nr.ds).mono ?_; rintro e w3 ⟨rfl, g3, m3, k3⟩; have X3 := X2s.out.call k3 m3; obtain ⟨ca3, fa3⟩ := X3.cf 3 (by simp); obtain ⟨cb3, fb3⟩ := X3.cf 0 (by simp); have z3 := X3.lt; obtain ⟨z30, z31, z32⟩ := z3; have X3s : Nx b p w.heap.size w0.heap.size w _ _ _ [.int .i64 0, .string ⟨#[]⟩, .string ⟨#[]⟩, .string ⟨#[]⟩, .string ⟨#[]⟩, .string ⟨#[]⟩, .slice none 0 0, .string ⟨#[]⟩, .int .i64 0, .slice none 0 0, .int .i64 0, .int .i64 0, .string ⟨#[]⟩, .string ⟨#[]⟩, .string ⟨#[]⟩, .int .i64 0, .bool false] [.int .i64 14, .string s1, .string s2, .string s3, .string ⟨#[]⟩, .string ⟨#[]⟩, .slice none 0 0, .string ⟨#[]⟩, .int .i64 0, .slice none 0 0, .int .i64 0, .int .i64 0, .string ⟨#[]⟩, .string ⟨#[]⟩, .string ⟨#[]⟩, .int .i64 0, .bool false] := X3.set 3 (.string s3) (by simp); have X3s := Lib.hid X3s; clear m3 k3 X3)
    | (go_at_call 32; with_reducible refine (H4.out _ X3s.out.nr.ds).mono ?_; rintro e w4 ⟨rfl, g4, m4, k4⟩; have X4 := X3s.out.call k4 m4; have yy1 := m4.c1; have yy2 := m4.f1; have z4 := X4.lt; obtain ⟨z40, z41, z42⟩ := z4; have X4s := Lib.hid (X4.bad true); clear m4 k4 X4)
    | (go_at_call 57; with_reducible refine (H5.out _ X4s.out.nr.ds).mono ?_; rintro e w5 ⟨rfl, g5, m5, k5⟩; have X5 := X4s.out.call k5 m5; obtain ⟨ca5, fa5⟩ := X5.cf 5 (by simp); obtain ⟨cb5, fb5⟩ := X5.cf 0 (by simp); have z5 := X5.lt; obtain ⟨z50, z51, z52⟩ := z5; have X5s : Nx b p w.heap.size w0.heap.size w _ _ _ [.int .i64 0, .string ⟨#[]⟩, .string ⟨#[]⟩, .string ⟨#[]⟩, .string ⟨#[]⟩, .string ⟨#[]⟩, .slice none 0 0, .string ⟨#[]⟩, .int .i64 0, .slice none 0 0, .int .i64 0, .int .i64 0, .string ⟨#[]⟩, .string ⟨#[]⟩, .string ⟨#[]⟩, .int .i64 0, .bool false] [.int .i64 14, .string s1, .string s2, .string s3, .string ⟨#[]⟩, .string s5, .slice none 0 0, .string ⟨#[]⟩, .int .i64 0, .slice none 0 0, .int .i64 0, .int .i64 0, .string ⟨#[]⟩, .string ⟨#[]⟩, .string ⟨#[]⟩, .int .i64 0, .bool false] := X5.set 5 (.string s5) (by simp); have X5s := Lib.hid X5s; have e1 := lvCmd_row X5s.out.row rfl; have e2 := svCmd_row X5s.out.nr.res rfl rfl (vs := [.int .i64 14, .string s1, .string s2, .string s3, .string ⟨#[]⟩, .string s5, .slice none 0 0, .string ⟨#[]⟩, .int .i64 0, .slice none 0 0, .int .i64 0, .int .i64 0, .string ⟨#[]⟩, .string ⟨#[]⟩, .string ⟨#[]⟩, .int .i64 0, .bool false]) (by simp [Value.oneCell']); clear m5 k5 X5)
    | (go_at_call 54; with_reducible refine (HM.out _ X5s.out.nr.ds).mono ?_; rintro e wm ⟨rfl, rfl⟩))
  have XR := X5s.out.nr.sets (cs := [.int .i64 14, .string s1, .string s2, .string s3, .string ⟨#[]⟩, .string s5, .slice none 0 0, .string ⟨#[]⟩, .int .i64 0, .slice none 0 0, .int .i64 0, .int .i64 0, .string ⟨#[]⟩, .string ⟨#[]⟩, .string ⟨#[]⟩, .int .i64 0, .bool false]) rfl
  refine bodyPost_ret (results_cell rfl _ rfl (lv_row (T := 31) Tryz.underlying31 (by kernel_rfl) XR.res rfl)) rfl ?_
  exact ⟨XR.kw, _, rfl, ⟨none, 0, none, 0, rfl, colsN_nil _ _ _ HB.out, namesN_nil _ _ _ HB.out, g1, g2, g3, szZ, g5, szZ, szZ, szZ, szZ⟩, XR.ds⟩
set_option maxHeartbeats 2000000 in
theorem commandN_14_other_nomore_true (f : ByteArray) (W : Ws) (d : Bool) (W0 : Ws) (q0 : wordD W d = (f, W0, true)) (hk : kindB f = 14) (s1 : ByteArray) (W1 : Ws) (d1 : Bool) (q1 : nameD W0 true = (s1, W1, d1)) (s2 : ByteArray) (W2 : Ws) (d2 : Bool) (q2 : nameD W1 d1 = (s2, W2, d2)) (s3 : ByteArray) (W3 : Ws) (d3 : Bool) (q3 : nameD W2 d2 = (s3, W3, d3)) (f4 : ByteArray) (W4 : Ws) (d4 : Bool) (q4 : wordD W3 d3 = (f4, W4, d4)) (hr0 : eqS f4 b_read = false) (hr1 : eqS f4 b_write = false) (b p : Nat) (w : World) (hl : LnS w b p W d) (s5 : ByteArray) (W5 : Ws) (d5 : Bool) (q5 : nameD W4 true = (s5, W5, d5)) (hm : moreD W5 d5 = false) : Calls Tryz.prog 34 #[.pointer (some ⟨b, 0, none⟩)] w (RdN b p w (CmdN b w.heap.size) (cmdD W d)) := by
  have H0 := Lib.hid (lword_at (b := b) (p := p) q0)
  have HK := Lib.hid (lkind_at hk)
  have qk := one_kind q0 hk
  have HX0 := Lib.hid (Nr.start hl [.int .i64 0, .string ⟨#[]⟩, .string ⟨#[]⟩, .string ⟨#[]⟩, .string ⟨#[]⟩, .string ⟨#[]⟩, .slice none 0 0, .string ⟨#[]⟩, .int .i64 0, .slice none 0 0, .int .i64 0, .int .i64 0, .string ⟨#[]⟩, .string ⟨#[]⟩, .string ⟨#[]⟩, .int .i64 0, .bool false] 31)
  have hb := hl.lt
  have HB := Lib.hid hb
  have qk : oneD (fun s => (s, kindB s != 0)) W d = (f, W0, true) := qk
  have qr : oneD rightV W3 d3 = (0, W4, true) := by rw [one_word, q4]; simp [rightV, hr0, hr1]
  have e : cmdD W d = ({ zCmd with kind := 14, actor := s1, schema := s2, table := s3, right := 0, role := s5 }, W5, d5) := by
    unfold cmdD
    rw [qk]
    simp [bindD, hk, tailD, grantD, q1, q2, q3, qr, q5, hm]
  rw [e]
  have H1 := Lib.hid (lname_at (b := b) (p := p) q1)
  have H2 := Lib.hid (lname_at (b := b) (p := p) q2)
  have H3 := Lib.hid (lname_at (b := b) (p := p) q3)
  have H5 := Lib.hid (lname_at (b := b) (p := p) q5)
  have H4 := Lib.hid (lword_at (b := b) (p := p) q4)
  have HM := Lib.hid (lmore_at (b := b) (p := p) hm)
  have ihr0 := eqS_as hr0
  unfold b_read at ihr0
  simp only at ihr0
  have ihr1 := eqS_as hr1
  unfold b_write at ihr1
  simp only at ihr1
  clear e hl qk q0 hk q1 q2 q3 q4 q5 qr hr0 hr1 hm
  go_enter Tryz.func34, Tryz.ntmps34
  go_wp2_with (first
    | (go_at_call 32; with_reducible refine (H0.out _ HX0.out.ds).mono ?_; rintro e w0 ⟨rfl, g0, l0, k0⟩; have X0 := HX0.out.call k0 l0; have y1 := l0.c1; have y2 := l0.f1; have y3 := l0.lt; have X1 := X0.boxBad true [.int .i64 14, .string ⟨#[]⟩, .string ⟨#[]⟩, .string ⟨#[]⟩, .string ⟨#[]⟩, .string ⟨#[]⟩, .slice none 0 0, .string ⟨#[]⟩, .int .i64 0, .slice none 0 0, .int .i64 0, .int .i64 0, .string ⟨#[]⟩, .string ⟨#[]⟩, .string ⟨#[]⟩, .int .i64 0, .bool false] 31; have z0 := X1.lt; obtain ⟨z00, z01, z02⟩ := z0; have X0s := Lib.hid X1; clear l0 k0 X0 X1)
    | (go_at_call 56; with_reducible refine (HK.out _).mono ?_; rintro e wk ⟨rfl, rfl⟩)
    | (go_at_call 57; with_reducible refine (H1.out _ X0s.out.nr.ds).mono ?_; rintro e w1 ⟨rfl, g1, m1, k1⟩; have X1 := X0s.out.call k1 m1; obtain ⟨ca1, fa1⟩ := X1.cf 1 (by simp); obtain ⟨cb1, fb1⟩ := X1.cf 0 (by simp); have z1 := X1.lt; obtain ⟨z10, z11, z12⟩ := z1; have X1s : Nx b p w.heap.size w0.heap.size w _ _ _ [.int .i64 0, .string ⟨#[]⟩, .string ⟨#[]⟩, .string ⟨#[]⟩, .string ⟨#[]⟩, .string ⟨#[]⟩, .slice none 0 0, .string ⟨#[]⟩, .int .i64 0, .slice none 0 0, .int .i64 0, .int .i64 0, .string ⟨#[]⟩, .string ⟨#[]⟩, .string ⟨#[]⟩, .int .i64 0, .bool false] [.int .i64 14, .string s1, .string ⟨#[]⟩, .string ⟨#[]⟩, .string ⟨#[]⟩, .string ⟨#[]⟩, .slice none 0 0, .string ⟨#[]⟩, .int .i64 0, .slice none 0 0, .int .i64 0, .int .i64 0, .string ⟨#[]⟩, .string ⟨#[]⟩, .string ⟨#[]⟩, .int .i64 0, .bool false] := X1.set 1 (.string s1) (by simp); have X1s := Lib.hid X1s; clear m1 k1 X1)
    | (go_at_call 57; with_reducible refine (H2.out _ X1s.out.nr.ds).mono ?_; rintro e w2 ⟨rfl, g2, m2, k2⟩; have X2 := X1s.out.call k2 m2; obtain ⟨ca2, fa2⟩ := X2.cf 2 (by simp); obtain ⟨cb2, fb2⟩ := X2.cf 0 (by simp); have z2 := X2.lt; obtain ⟨z20, z21, z22⟩ := z2; have X2s : Nx b p w.heap.size w0.heap.size w _ _ _ [.int .i64 0, .string ⟨#[]⟩, .string ⟨#[]⟩, .string ⟨#[]⟩, .string ⟨#[]⟩, .string ⟨#[]⟩, .slice none 0 0, .string ⟨#[]⟩, .int .i64 0, .slice none 0 0, .int .i64 0, .int .i64 0, .string ⟨#[]⟩, .string ⟨#[]⟩, .string ⟨#[]⟩, .int .i64 0, .bool false] [.int .i64 14, .string s1, .string s2, .string ⟨#[]⟩, .string ⟨#[]⟩, .string ⟨#[]⟩, .slice none 0 0, .string ⟨#[]⟩, .int .i64 0, .slice none 0 0, .int .i64 0, .int .i64 0, .string ⟨#[]⟩, .string ⟨#[]⟩, .string ⟨#[]⟩, .int .i64 0, .bool false] := X2.set 2 (.string s2) (by simp); have X2s := Lib.hid X2s; clear m2 k2 X2)
    | (go_at_call 57; with_reducible refine (H3.out _ X2s.out.nr.ds).mono ?_; rintro e w3 ⟨rfl, g3, m3, k3⟩; have X3 := X2s.out.call k3 m3; obtain ⟨ca3, fa3⟩ := X3.cf 3 (by simp); obtain ⟨cb3, fb3⟩ := X3.cf 0 (by simp); have z3 := X3.lt; obtain ⟨z30, z31, z32⟩ := z3; have X3s : Nx b p w.heap.size w0.heap.size w _ _ _ [.int .i64 0, .string ⟨#[]⟩, .string ⟨#[]⟩, .string ⟨#[]⟩, .string ⟨#[]⟩, .string ⟨#[]⟩, .slice none 0 0, .string ⟨#[]⟩, .int .i64 0, .slice none 0 0, .int .i64 0, .int .i64 0, .string ⟨#[]⟩, .string ⟨#[]⟩, .string ⟨#[]⟩, .int .i64 0, .bool false] [.int .i64 14, .string s1, .string s2, .string s3, .string ⟨#[]⟩, .string ⟨#[]⟩, .slice none 0 0, .string ⟨#[]⟩, .int .i64 0, .slice none 0 0, .int .i64 0, .int .i64 0, .string ⟨#[]⟩, .string ⟨#[]⟩, .string ⟨#[]⟩, .int .i64 0, .bool false] := X3.set 3 (.string s3) (by simp); have X3s := Lib.hid X3s; clear m3 k3 X3)
    | (go_at_call 32; with_reducible refine (H4.out _ X3s.out.nr.ds).mono ?_; rintro e w4 ⟨rfl, g4, m4, k4⟩; have X4 := X3s.out.call k4 m4; have yy1 := m4.c1; have yy2 := m4.f1; have z4 := X4.lt; obtain ⟨z40, z41, z42⟩ := z4; have X4s := Lib.hid (X4.bad true); clear m4 k4 X4)
    | (go_at_call 57; with_reducible refine (H5.out _ X4s.out.nr.ds).mono ?_; rintro e w5 ⟨rfl, g5, m5, k5⟩; have X5 := X4s.out.call k5 m5; obtain ⟨ca5, fa5⟩ := X5.cf 5 (by simp); obtain ⟨cb5, fb5⟩ := X5.cf 0 (by simp); have z5 := X5.lt; obtain ⟨z50, z51, z52⟩ := z5; have X5s : Nx b p w.heap.size w0.heap.size w _ _ _ [.int .i64 0, .string ⟨#[]⟩, .string ⟨#[]⟩, .string ⟨#[]⟩, .string ⟨#[]⟩, .string ⟨#[]⟩, .slice none 0 0, .string ⟨#[]⟩, .int .i64 0, .slice none 0 0, .int .i64 0, .int .i64 0, .string ⟨#[]⟩, .string ⟨#[]⟩, .string ⟨#[]⟩, .int .i64 0, .bool false] [.int .i64 14, .string s1, .string s2, .string s3, .string ⟨#[]⟩, .string s5, .slice none 0 0, .string ⟨#[]⟩, .int .i64 0, .slice none 0 0, .int .i64 0, .int .i64 0, .string ⟨#[]⟩, .string ⟨#[]⟩, .string ⟨#[]⟩, .int .i64 0, .bool false] := X5.set 5 (.string s5) (by simp); have X5s := Lib.hid X5s; have e1 := lvCmd_row X5s.out.row rfl; have e2 := svCmd_row X5s.out.nr.res rfl rfl (vs := [.int .i64 14, .string s1, .string s2, .string s3, .string ⟨#[]⟩, .string s5, .slice none 0 0, .string ⟨#[]⟩, .int .i64 0, .slice none 0 0, .int .i64 0, .int .i64 0, .string ⟨#[]⟩, .string ⟨#[]⟩, .string ⟨#[]⟩, .int .i64 0, .bool false]) (by simp [Value.oneCell']); clear m5 k5 X5)
    | (go_at_call 54; with_reducible refine (HM.out _ X5s.out.nr.ds).mono ?_; rintro e wm ⟨rfl, rfl⟩))
  have XR := X5s.out.nr.sets (cs := [.int .i64 14, .string s1, .string s2, .string s3, .string ⟨#[]⟩, .string s5, .slice none 0 0, .string ⟨#[]⟩, .int .i64 0, .slice none 0 0, .int .i64 0, .int .i64 0, .string ⟨#[]⟩, .string ⟨#[]⟩, .string ⟨#[]⟩, .int .i64 0, .bool false]) rfl
  refine bodyPost_ret (results_cell rfl _ rfl (lv_row (T := 31) Tryz.underlying31 (by kernel_rfl) XR.res rfl)) rfl ?_
  exact ⟨XR.kw, _, rfl, ⟨none, 0, none, 0, rfl, colsN_nil _ _ _ HB.out, namesN_nil _ _ _ HB.out, g1, g2, g3, szZ, g5, szZ, szZ, szZ, szZ⟩, XR.ds⟩
set_option maxHeartbeats 2000000 in
theorem commandN_14_other_opt_false (f : ByteArray) (W : Ws) (d : Bool) (W0 : Ws) (q0 : wordD W d = (f, W0, false)) (hk : kindB f = 14) (s1 : ByteArray) (W1 : Ws) (d1 : Bool) (q1 : nameD W0 false = (s1, W1, d1)) (s2 : ByteArray) (W2 : Ws) (d2 : Bool) (q2 : nameD W1 d1 = (s2, W2, d2)) (s3 : ByteArray) (W3 : Ws) (d3 : Bool) (q3 : nameD W2 d2 = (s3, W3, d3)) (f4 : ByteArray) (W4 : Ws) (d4 : Bool) (q4 : wordD W3 d3 = (f4, W4, d4)) (hr0 : eqS f4 b_read = false) (hr1 : eqS f4 b_write = false) (b p : Nat) (w : World) (hl : LnS w b p W d) (s5 : ByteArray) (W5 : Ws) (d5 : Bool) (q5 : nameD W4 true = (s5, W5, d5)) (hm : moreD W5 d5 = true) (f6 : ByteArray) (W6 : Ws) (q6 : wordD W5 d5 = (f6, W6, false)) (ho : eqS f6 b_option = true) : Calls Tryz.prog 34 #[.pointer (some ⟨b, 0, none⟩)] w (RdN b p w (CmdN b w.heap.size) (cmdD W d)) := by
  have H0 := Lib.hid (lword_at (b := b) (p := p) q0)
  have HK := Lib.hid (lkind_at hk)
  have qk := one_kind q0 hk
  have HX0 := Lib.hid (Nr.start hl [.int .i64 0, .string ⟨#[]⟩, .string ⟨#[]⟩, .string ⟨#[]⟩, .string ⟨#[]⟩, .string ⟨#[]⟩, .slice none 0 0, .string ⟨#[]⟩, .int .i64 0, .slice none 0 0, .int .i64 0, .int .i64 0, .string ⟨#[]⟩, .string ⟨#[]⟩, .string ⟨#[]⟩, .int .i64 0, .bool false] 31)
  have hb := hl.lt
  have HB := Lib.hid hb
  have qk : oneD (fun s => (s, kindB s != 0)) W d = (f, W0, false) := qk
  have qr : oneD rightV W3 d3 = (0, W4, true) := by rw [one_word, q4]; simp [rightV, hr0, hr1]
  have qo : oneD (fun s => (s, eqS s b_option)) W5 d5 = (f6, W6, false) := by rw [one_word, q6]; simp [ho]
  have e : cmdD W d = ({ zCmd with kind := 14, actor := s1, schema := s2, table := s3, right := 0, role := s5, opt := true }, W6, false) := by
    unfold cmdD
    rw [qk]
    simp [bindD, hk, tailD, grantD, q1, q2, q3, qr, q5, hm, qo]
  rw [e]
  have H1 := Lib.hid (lname_at (b := b) (p := p) q1)
  have H2 := Lib.hid (lname_at (b := b) (p := p) q2)
  have H3 := Lib.hid (lname_at (b := b) (p := p) q3)
  have H5 := Lib.hid (lname_at (b := b) (p := p) q5)
  have H4 := Lib.hid (lword_at (b := b) (p := p) q4)
  have HM := Lib.hid (lmore_at (b := b) (p := p) hm)
  have H6 := Lib.hid (lword_at (b := b) (p := p) q6)
  have io := eqS_as ho
  unfold b_option at io
  simp only at io
  have io' : (f6.toList != [111, 112, 116, 105, 111, 110]) = !(f6.toList == [111, 112, 116, 105, 111, 110]) := rfl
  rw [io] at io'
  have ihr0 := eqS_as hr0
  unfold b_read at ihr0
  simp only at ihr0
  have ihr1 := eqS_as hr1
  unfold b_write at ihr1
  simp only at ihr1
  clear e hl qk q0 hk q1 q2 q3 q4 q5 qr hr0 hr1 hm q6 ho qo
  go_enter Tryz.func34, Tryz.ntmps34
  go_wp2_with (first
    | (go_at_call 32; with_reducible refine (H0.out _ HX0.out.ds).mono ?_; rintro e w0 ⟨rfl, g0, l0, k0⟩; have X0 := HX0.out.call k0 l0; have y1 := l0.c1; have y2 := l0.f1; have y3 := l0.lt; have X1 := X0.boxBad false [.int .i64 14, .string ⟨#[]⟩, .string ⟨#[]⟩, .string ⟨#[]⟩, .string ⟨#[]⟩, .string ⟨#[]⟩, .slice none 0 0, .string ⟨#[]⟩, .int .i64 0, .slice none 0 0, .int .i64 0, .int .i64 0, .string ⟨#[]⟩, .string ⟨#[]⟩, .string ⟨#[]⟩, .int .i64 0, .bool false] 31; have z0 := X1.lt; obtain ⟨z00, z01, z02⟩ := z0; have X0s := Lib.hid X1; clear l0 k0 X0 X1)
    | (go_at_call 56; with_reducible refine (HK.out _).mono ?_; rintro e wk ⟨rfl, rfl⟩)
    | (go_at_call 57; with_reducible refine (H1.out _ X0s.out.nr.ds).mono ?_; rintro e w1 ⟨rfl, g1, m1, k1⟩; have X1 := X0s.out.call k1 m1; obtain ⟨ca1, fa1⟩ := X1.cf 1 (by simp); obtain ⟨cb1, fb1⟩ := X1.cf 0 (by simp); have z1 := X1.lt; obtain ⟨z10, z11, z12⟩ := z1; have X1s : Nx b p w.heap.size w0.heap.size w _ _ _ [.int .i64 0, .string ⟨#[]⟩, .string ⟨#[]⟩, .string ⟨#[]⟩, .string ⟨#[]⟩, .string ⟨#[]⟩, .slice none 0 0, .string ⟨#[]⟩, .int .i64 0, .slice none 0 0, .int .i64 0, .int .i64 0, .string ⟨#[]⟩, .string ⟨#[]⟩, .string ⟨#[]⟩, .int .i64 0, .bool false] [.int .i64 14, .string s1, .string ⟨#[]⟩, .string ⟨#[]⟩, .string ⟨#[]⟩, .string ⟨#[]⟩, .slice none 0 0, .string ⟨#[]⟩, .int .i64 0, .slice none 0 0, .int .i64 0, .int .i64 0, .string ⟨#[]⟩, .string ⟨#[]⟩, .string ⟨#[]⟩, .int .i64 0, .bool false] := X1.set 1 (.string s1) (by simp); have X1s := Lib.hid X1s; clear m1 k1 X1)
    | (go_at_call 57; with_reducible refine (H2.out _ X1s.out.nr.ds).mono ?_; rintro e w2 ⟨rfl, g2, m2, k2⟩; have X2 := X1s.out.call k2 m2; obtain ⟨ca2, fa2⟩ := X2.cf 2 (by simp); obtain ⟨cb2, fb2⟩ := X2.cf 0 (by simp); have z2 := X2.lt; obtain ⟨z20, z21, z22⟩ := z2; have X2s : Nx b p w.heap.size w0.heap.size w _ _ _ [.int .i64 0, .string ⟨#[]⟩, .string ⟨#[]⟩, .string ⟨#[]⟩, .string ⟨#[]⟩, .string ⟨#[]⟩, .slice none 0 0, .string ⟨#[]⟩, .int .i64 0, .slice none 0 0, .int .i64 0, .int .i64 0, .string ⟨#[]⟩, .string ⟨#[]⟩, .string ⟨#[]⟩, .int .i64 0, .bool false] [.int .i64 14, .string s1, .string s2, .string ⟨#[]⟩, .string ⟨#[]⟩, .string ⟨#[]⟩, .slice none 0 0, .string ⟨#[]⟩, .int .i64 0, .slice none 0 0, .int .i64 0, .int .i64 0, .string ⟨#[]⟩, .string ⟨#[]⟩, .string ⟨#[]⟩, .int .i64 0, .bool false] := X2.set 2 (.string s2) (by simp); have X2s := Lib.hid X2s; clear m2 k2 X2)
    | (go_at_call 57; with_reducible refine (H3.out _ X2s.out.nr.ds).mono ?_; rintro e w3 ⟨rfl, g3, m3, k3⟩; have X3 := X2s.out.call k3 m3; obtain ⟨ca3, fa3⟩ := X3.cf 3 (by simp); obtain ⟨cb3, fb3⟩ := X3.cf 0 (by simp); have z3 := X3.lt; obtain ⟨z30, z31, z32⟩ := z3; have X3s : Nx b p w.heap.size w0.heap.size w _ _ _ [.int .i64 0, .string ⟨#[]⟩, .string ⟨#[]⟩, .string ⟨#[]⟩, .string ⟨#[]⟩, .string ⟨#[]⟩, .slice none 0 0, .string ⟨#[]⟩, .int .i64 0, .slice none 0 0, .int .i64 0, .int .i64 0, .string ⟨#[]⟩, .string ⟨#[]⟩, .string ⟨#[]⟩, .int .i64 0, .bool false] [.int .i64 14, .string s1, .string s2, .string s3, .string ⟨#[]⟩, .string ⟨#[]⟩, .slice none 0 0, .string ⟨#[]⟩, .int .i64 0, .slice none 0 0, .int .i64 0, .int .i64 0, .string ⟨#[]⟩, .string ⟨#[]⟩, .string ⟨#[]⟩, .int .i64 0, .bool false] := X3.set 3 (.string s3) (by simp); have X3s := Lib.hid X3s; clear m3 k3 X3)
    | (go_at_call 32; with_reducible refine (H4.out _ X3s.out.nr.ds).mono ?_; rintro e w4 ⟨rfl, g4, m4, k4⟩; have X4 := X3s.out.call k4 m4; have yy1 := m4.c1; have yy2 := m4.f1; have z4 := X4.lt; obtain ⟨z40, z41, z42⟩ := z4; have X4s := Lib.hid (X4.bad true); clear m4 k4 X4)
    | (go_at_call 57; with_reducible refine (H5.out _ X4s.out.nr.ds).mono ?_; rintro e w5 ⟨rfl, g5, m5, k5⟩; have X5 := X4s.out.call k5 m5; obtain ⟨ca5, fa5⟩ := X5.cf 5 (by simp); obtain ⟨cb5, fb5⟩ := X5.cf 0 (by simp); obtain ⟨cd5, fd5⟩ := X5.cf 16 (by simp); have z5 := X5.lt; obtain ⟨z50, z51, z52⟩ := z5; have X5s : Nx b p w.heap.size w0.heap.size w _ _ _ [.int .i64 0, .string ⟨#[]⟩, .string ⟨#[]⟩, .string ⟨#[]⟩, .string ⟨#[]⟩, .string ⟨#[]⟩, .slice none 0 0, .string ⟨#[]⟩, .int .i64 0, .slice none 0 0, .int .i64 0, .int .i64 0, .string ⟨#[]⟩, .string ⟨#[]⟩, .string ⟨#[]⟩, .int .i64 0, .bool false] [.int .i64 14, .string s1, .string s2, .string s3, .string ⟨#[]⟩, .string s5, .slice none 0 0, .string ⟨#[]⟩, .int .i64 0, .slice none 0 0, .int .i64 0, .int .i64 0, .string ⟨#[]⟩, .string ⟨#[]⟩, .string ⟨#[]⟩, .int .i64 0, .bool false] := X5.set 5 (.string s5) (by simp); have X5s := Lib.hid X5s; have X5o : Nx b p w.heap.size w0.heap.size w _ _ _ [.int .i64 0, .string ⟨#[]⟩, .string ⟨#[]⟩, .string ⟨#[]⟩, .string ⟨#[]⟩, .string ⟨#[]⟩, .slice none 0 0, .string ⟨#[]⟩, .int .i64 0, .slice none 0 0, .int .i64 0, .int .i64 0, .string ⟨#[]⟩, .string ⟨#[]⟩, .string ⟨#[]⟩, .int .i64 0, .bool false] [.int .i64 14, .string s1, .string s2, .string s3, .string ⟨#[]⟩, .string s5, .slice none 0 0, .string ⟨#[]⟩, .int .i64 0, .slice none 0 0, .int .i64 0, .int .i64 0, .string ⟨#[]⟩, .string ⟨#[]⟩, .string ⟨#[]⟩, .int .i64 0, .bool true] := X5s.out.set 16 (.bool true) (by simp); have X5o := Lib.hid X5o; clear m5 k5 X5)
    | (go_at_call 54; with_reducible refine (HM.out _ X5s.out.nr.ds).mono ?_; rintro e wm ⟨rfl, rfl⟩)
    | (go_at_call 32; with_reducible refine (H6.out _ X5o.out.nr.ds).mono ?_; rintro e w6 ⟨rfl, g6, m6, k6⟩; have X6 := X5o.out.call k6 m6; have yz1 := m6.c1; have yz2 := m6.f1; have z6 := X6.lt; obtain ⟨z60, z61, z62⟩ := z6; have X6s := Lib.hid (X6.bad false); have e1 := lvCmd_row X6s.out.row rfl; have e2 := svCmd_row X6s.out.nr.res rfl rfl (vs := [.int .i64 14, .string s1, .string s2, .string s3, .string ⟨#[]⟩, .string s5, .slice none 0 0, .string ⟨#[]⟩, .int .i64 0, .slice none 0 0, .int .i64 0, .int .i64 0, .string ⟨#[]⟩, .string ⟨#[]⟩, .string ⟨#[]⟩, .int .i64 0, .bool true]) (by simp [Value.oneCell']); clear m6 k6 X6))
  have XR := X6s.out.nr.sets (cs := [.int .i64 14, .string s1, .string s2, .string s3, .string ⟨#[]⟩, .string s5, .slice none 0 0, .string ⟨#[]⟩, .int .i64 0, .slice none 0 0, .int .i64 0, .int .i64 0, .string ⟨#[]⟩, .string ⟨#[]⟩, .string ⟨#[]⟩, .int .i64 0, .bool true]) rfl
  refine bodyPost_ret (results_cell rfl _ rfl (lv_row (T := 31) Tryz.underlying31 (by kernel_rfl) XR.res rfl)) rfl ?_
  exact ⟨XR.kw, _, rfl, ⟨none, 0, none, 0, rfl, colsN_nil _ _ _ HB.out, namesN_nil _ _ _ HB.out, g1, g2, g3, szZ, g5, szZ, szZ, szZ, szZ⟩, XR.ds⟩
set_option maxHeartbeats 2000000 in
theorem commandN_14_other_opt_true (f : ByteArray) (W : Ws) (d : Bool) (W0 : Ws) (q0 : wordD W d = (f, W0, true)) (hk : kindB f = 14) (s1 : ByteArray) (W1 : Ws) (d1 : Bool) (q1 : nameD W0 true = (s1, W1, d1)) (s2 : ByteArray) (W2 : Ws) (d2 : Bool) (q2 : nameD W1 d1 = (s2, W2, d2)) (s3 : ByteArray) (W3 : Ws) (d3 : Bool) (q3 : nameD W2 d2 = (s3, W3, d3)) (f4 : ByteArray) (W4 : Ws) (d4 : Bool) (q4 : wordD W3 d3 = (f4, W4, d4)) (hr0 : eqS f4 b_read = false) (hr1 : eqS f4 b_write = false) (b p : Nat) (w : World) (hl : LnS w b p W d) (s5 : ByteArray) (W5 : Ws) (d5 : Bool) (q5 : nameD W4 true = (s5, W5, d5)) (hm : moreD W5 d5 = true) (f6 : ByteArray) (W6 : Ws) (q6 : wordD W5 d5 = (f6, W6, false)) (ho : eqS f6 b_option = true) : Calls Tryz.prog 34 #[.pointer (some ⟨b, 0, none⟩)] w (RdN b p w (CmdN b w.heap.size) (cmdD W d)) := by
  have H0 := Lib.hid (lword_at (b := b) (p := p) q0)
  have HK := Lib.hid (lkind_at hk)
  have qk := one_kind q0 hk
  have HX0 := Lib.hid (Nr.start hl [.int .i64 0, .string ⟨#[]⟩, .string ⟨#[]⟩, .string ⟨#[]⟩, .string ⟨#[]⟩, .string ⟨#[]⟩, .slice none 0 0, .string ⟨#[]⟩, .int .i64 0, .slice none 0 0, .int .i64 0, .int .i64 0, .string ⟨#[]⟩, .string ⟨#[]⟩, .string ⟨#[]⟩, .int .i64 0, .bool false] 31)
  have hb := hl.lt
  have HB := Lib.hid hb
  have qk : oneD (fun s => (s, kindB s != 0)) W d = (f, W0, true) := qk
  have qr : oneD rightV W3 d3 = (0, W4, true) := by rw [one_word, q4]; simp [rightV, hr0, hr1]
  have qo : oneD (fun s => (s, eqS s b_option)) W5 d5 = (f6, W6, false) := by rw [one_word, q6]; simp [ho]
  have e : cmdD W d = ({ zCmd with kind := 14, actor := s1, schema := s2, table := s3, right := 0, role := s5, opt := true }, W6, false) := by
    unfold cmdD
    rw [qk]
    simp [bindD, hk, tailD, grantD, q1, q2, q3, qr, q5, hm, qo]
  rw [e]
  have H1 := Lib.hid (lname_at (b := b) (p := p) q1)
  have H2 := Lib.hid (lname_at (b := b) (p := p) q2)
  have H3 := Lib.hid (lname_at (b := b) (p := p) q3)
  have H5 := Lib.hid (lname_at (b := b) (p := p) q5)
  have H4 := Lib.hid (lword_at (b := b) (p := p) q4)
  have HM := Lib.hid (lmore_at (b := b) (p := p) hm)
  have H6 := Lib.hid (lword_at (b := b) (p := p) q6)
  have io := eqS_as ho
  unfold b_option at io
  simp only at io
  have io' : (f6.toList != [111, 112, 116, 105, 111, 110]) = !(f6.toList == [111, 112, 116, 105, 111, 110]) := rfl
  rw [io] at io'
  have ihr0 := eqS_as hr0
  unfold b_read at ihr0
  simp only at ihr0
  have ihr1 := eqS_as hr1
  unfold b_write at ihr1
  simp only at ihr1
  clear e hl qk q0 hk q1 q2 q3 q4 q5 qr hr0 hr1 hm q6 ho qo
  go_enter Tryz.func34, Tryz.ntmps34
  go_wp2_with (first
    | (go_at_call 32; with_reducible refine (H0.out _ HX0.out.ds).mono ?_; rintro e w0 ⟨rfl, g0, l0, k0⟩; have X0 := HX0.out.call k0 l0; have y1 := l0.c1; have y2 := l0.f1; have y3 := l0.lt; have X1 := X0.boxBad true [.int .i64 14, .string ⟨#[]⟩, .string ⟨#[]⟩, .string ⟨#[]⟩, .string ⟨#[]⟩, .string ⟨#[]⟩, .slice none 0 0, .string ⟨#[]⟩, .int .i64 0, .slice none 0 0, .int .i64 0, .int .i64 0, .string ⟨#[]⟩, .string ⟨#[]⟩, .string ⟨#[]⟩, .int .i64 0, .bool false] 31; have z0 := X1.lt; obtain ⟨z00, z01, z02⟩ := z0; have X0s := Lib.hid X1; clear l0 k0 X0 X1)
    | (go_at_call 56; with_reducible refine (HK.out _).mono ?_; rintro e wk ⟨rfl, rfl⟩)
    | (go_at_call 57; with_reducible refine (H1.out _ X0s.out.nr.ds).mono ?_; rintro e w1 ⟨rfl, g1, m1, k1⟩; have X1 := X0s.out.call k1 m1; obtain ⟨ca1, fa1⟩ := X1.cf 1 (by simp); obtain ⟨cb1, fb1⟩ := X1.cf 0 (by simp); have z1 := X1.lt; obtain ⟨z10, z11, z12⟩ := z1; have X1s : Nx b p w.heap.size w0.heap.size w _ _ _ [.int .i64 0, .string ⟨#[]⟩, .string ⟨#[]⟩, .string ⟨#[]⟩, .string ⟨#[]⟩, .string ⟨#[]⟩, .slice none 0 0, .string ⟨#[]⟩, .int .i64 0, .slice none 0 0, .int .i64 0, .int .i64 0, .string ⟨#[]⟩, .string ⟨#[]⟩, .string ⟨#[]⟩, .int .i64 0, .bool false] [.int .i64 14, .string s1, .string ⟨#[]⟩, .string ⟨#[]⟩, .string ⟨#[]⟩, .string ⟨#[]⟩, .slice none 0 0, .string ⟨#[]⟩, .int .i64 0, .slice none 0 0, .int .i64 0, .int .i64 0, .string ⟨#[]⟩, .string ⟨#[]⟩, .string ⟨#[]⟩, .int .i64 0, .bool false] := X1.set 1 (.string s1) (by simp); have X1s := Lib.hid X1s; clear m1 k1 X1)
    | (go_at_call 57; with_reducible refine (H2.out _ X1s.out.nr.ds).mono ?_; rintro e w2 ⟨rfl, g2, m2, k2⟩; have X2 := X1s.out.call k2 m2; obtain ⟨ca2, fa2⟩ := X2.cf 2 (by simp); obtain ⟨cb2, fb2⟩ := X2.cf 0 (by simp); have z2 := X2.lt; obtain ⟨z20, z21, z22⟩ := z2; have X2s : Nx b p w.heap.size w0.heap.size w _ _ _ [.int .i64 0, .string ⟨#[]⟩, .string ⟨#[]⟩, .string ⟨#[]⟩, .string ⟨#[]⟩, .string ⟨#[]⟩, .slice none 0 0, .string ⟨#[]⟩, .int .i64 0, .slice none 0 0, .int .i64 0, .int .i64 0, .string ⟨#[]⟩, .string ⟨#[]⟩, .string ⟨#[]⟩, .int .i64 0, .bool false] [.int .i64 14, .string s1, .string s2, .string ⟨#[]⟩, .string ⟨#[]⟩, .string ⟨#[]⟩, .slice none 0 0, .string ⟨#[]⟩, .int .i64 0, .slice none 0 0, .int .i64 0, .int .i64 0, .string ⟨#[]⟩, .string ⟨#[]⟩, .string ⟨#[]⟩, .int .i64 0, .bool false] := X2.set 2 (.string s2) (by simp); have X2s := Lib.hid X2s; clear m2 k2 X2)
    | (go_at_call 57; with_reducible refine (H3.out _ X2s.out.nr.ds).mono ?_; rintro e w3 ⟨rfl, g3, m3, k3⟩; have X3 := X2s.out.call k3 m3; obtain ⟨ca3, fa3⟩ := X3.cf 3 (by simp); obtain ⟨cb3, fb3⟩ := X3.cf 0 (by simp); have z3 := X3.lt; obtain ⟨z30, z31, z32⟩ := z3; have X3s : Nx b p w.heap.size w0.heap.size w _ _ _ [.int .i64 0, .string ⟨#[]⟩, .string ⟨#[]⟩, .string ⟨#[]⟩, .string ⟨#[]⟩, .string ⟨#[]⟩, .slice none 0 0, .string ⟨#[]⟩, .int .i64 0, .slice none 0 0, .int .i64 0, .int .i64 0, .string ⟨#[]⟩, .string ⟨#[]⟩, .string ⟨#[]⟩, .int .i64 0, .bool false] [.int .i64 14, .string s1, .string s2, .string s3, .string ⟨#[]⟩, .string ⟨#[]⟩, .slice none 0 0, .string ⟨#[]⟩, .int .i64 0, .slice none 0 0, .int .i64 0, .int .i64 0, .string ⟨#[]⟩, .string ⟨#[]⟩, .string ⟨#[]⟩, .int .i64 0, .bool false] := X3.set 3 (.string s3) (by simp); have X3s := Lib.hid X3s; clear m3 k3 X3)
    | (go_at_call 32; with_reducible refine (H4.out _ X3s.out.nr.ds).mono ?_; rintro e w4 ⟨rfl, g4, m4, k4⟩; have X4 := X3s.out.call k4 m4; have yy1 := m4.c1; have yy2 := m4.f1; have z4 := X4.lt; obtain ⟨z40, z41, z42⟩ := z4; have X4s := Lib.hid (X4.bad true); clear m4 k4 X4)
    | (go_at_call 57; with_reducible refine (H5.out _ X4s.out.nr.ds).mono ?_; rintro e w5 ⟨rfl, g5, m5, k5⟩; have X5 := X4s.out.call k5 m5; obtain ⟨ca5, fa5⟩ := X5.cf 5 (by simp); obtain ⟨cb5, fb5⟩ := X5.cf 0 (by simp); obtain ⟨cd5, fd5⟩ := X5.cf 16 (by simp); have z5 := X5.lt; obtain ⟨z50, z51, z52⟩ := z5; have X5s : Nx b p w.heap.size w0.heap.size w _ _ _ [.int .i64 0, .string ⟨#[]⟩, .string ⟨#[]⟩, .string ⟨#[]⟩, .string ⟨#[]⟩, .string ⟨#[]⟩, .slice none 0 0, .string ⟨#[]⟩, .int .i64 0, .slice none 0 0, .int .i64 0, .int .i64 0, .string ⟨#[]⟩, .string ⟨#[]⟩, .string ⟨#[]⟩, .int .i64 0, .bool false] [.int .i64 14, .string s1, .string s2, .string s3, .string ⟨#[]⟩, .string s5, .slice none 0 0, .string ⟨#[]⟩, .int .i64 0, .slice none 0 0, .int .i64 0, .int .i64 0, .string ⟨#[]⟩, .string ⟨#[]⟩, .string ⟨#[]⟩, .int .i64 0, .bool false] := X5.set 5 (.string s5) (by simp); have X5s := Lib.hid X5s; have X5o : Nx b p w.heap.size w0.heap.size w _ _ _ [.int .i64 0, .string ⟨#[]⟩, .string ⟨#[]⟩, .string ⟨#[]⟩, .string ⟨#[]⟩, .string ⟨#[]⟩, .slice none 0 0, .string ⟨#[]⟩, .int .i64 0, .slice none 0 0, .int .i64 0, .int .i64 0, .string ⟨#[]⟩, .string ⟨#[]⟩, .string ⟨#[]⟩, .int .i64 0, .bool false] [.int .i64 14, .string s1, .string s2, .string s3, .string ⟨#[]⟩, .string s5, .slice none 0 0, .string ⟨#[]⟩, .int .i64 0, .slice none 0 0, .int .i64 0, .int .i64 0, .string ⟨#[]⟩, .string ⟨#[]⟩, .string ⟨#[]⟩, .int .i64 0, .bool true] := X5s.out.set 16 (.bool true) (by simp); have X5o := Lib.hid X5o; clear m5 k5 X5)
    | (go_at_call 54; with_reducible refine (HM.out _ X5s.out.nr.ds).mono ?_; rintro e wm ⟨rfl, rfl⟩)
    | (go_at_call 32; with_reducible refine (H6.out _ X5o.out.nr.ds).mono ?_; rintro e w6 ⟨rfl, g6, m6, k6⟩; have X6 := X5o.out.call k6 m6; have yz1 := m6.c1; have yz2 := m6.f1; have z6 := X6.lt; obtain ⟨z60, z61, z62⟩ := z6; have X6s := Lib.hid (X6.bad false); have e1 := lvCmd_row X6s.out.row rfl; have e2 := svCmd_row X6s.out.nr.res rfl rfl (vs := [.int .i64 14, .string s1, .string s2, .string s3, .string ⟨#[]⟩, .string s5, .slice none 0 0, .string ⟨#[]⟩, .int .i64 0, .slice none 0 0, .int .i64 0, .int .i64 0, .string ⟨#[]⟩, .string ⟨#[]⟩, .string ⟨#[]⟩, .int .i64 0, .bool true]) (by simp [Value.oneCell']); clear m6 k6 X6))
  have XR := X6s.out.nr.sets (cs := [.int .i64 14, .string s1, .string s2, .string s3, .string ⟨#[]⟩, .string s5, .slice none 0 0, .string ⟨#[]⟩, .int .i64 0, .slice none 0 0, .int .i64 0, .int .i64 0, .string ⟨#[]⟩, .string ⟨#[]⟩, .string ⟨#[]⟩, .int .i64 0, .bool true]) rfl
  refine bodyPost_ret (results_cell rfl _ rfl (lv_row (T := 31) Tryz.underlying31 (by kernel_rfl) XR.res rfl)) rfl ?_
  exact ⟨XR.kw, _, rfl, ⟨none, 0, none, 0, rfl, colsN_nil _ _ _ HB.out, namesN_nil _ _ _ HB.out, g1, g2, g3, szZ, g5, szZ, szZ, szZ, szZ⟩, XR.ds⟩
set_option maxHeartbeats 2000000 in
theorem commandN_14_other_noopt_false (f : ByteArray) (W : Ws) (d : Bool) (W0 : Ws) (q0 : wordD W d = (f, W0, false)) (hk : kindB f = 14) (s1 : ByteArray) (W1 : Ws) (d1 : Bool) (q1 : nameD W0 false = (s1, W1, d1)) (s2 : ByteArray) (W2 : Ws) (d2 : Bool) (q2 : nameD W1 d1 = (s2, W2, d2)) (s3 : ByteArray) (W3 : Ws) (d3 : Bool) (q3 : nameD W2 d2 = (s3, W3, d3)) (f4 : ByteArray) (W4 : Ws) (d4 : Bool) (q4 : wordD W3 d3 = (f4, W4, d4)) (hr0 : eqS f4 b_read = false) (hr1 : eqS f4 b_write = false) (b p : Nat) (w : World) (hl : LnS w b p W d) (s5 : ByteArray) (W5 : Ws) (d5 : Bool) (q5 : nameD W4 true = (s5, W5, d5)) (hm : moreD W5 d5 = true) (f6 : ByteArray) (W6 : Ws) (q6 : wordD W5 d5 = (f6, W6, false)) (ho : eqS f6 b_option = false) : Calls Tryz.prog 34 #[.pointer (some ⟨b, 0, none⟩)] w (RdN b p w (CmdN b w.heap.size) (cmdD W d)) := by
  have H0 := Lib.hid (lword_at (b := b) (p := p) q0)
  have HK := Lib.hid (lkind_at hk)
  have qk := one_kind q0 hk
  have HX0 := Lib.hid (Nr.start hl [.int .i64 0, .string ⟨#[]⟩, .string ⟨#[]⟩, .string ⟨#[]⟩, .string ⟨#[]⟩, .string ⟨#[]⟩, .slice none 0 0, .string ⟨#[]⟩, .int .i64 0, .slice none 0 0, .int .i64 0, .int .i64 0, .string ⟨#[]⟩, .string ⟨#[]⟩, .string ⟨#[]⟩, .int .i64 0, .bool false] 31)
  have hb := hl.lt
  have HB := Lib.hid hb
  have qk : oneD (fun s => (s, kindB s != 0)) W d = (f, W0, false) := qk
  have qr : oneD rightV W3 d3 = (0, W4, true) := by rw [one_word, q4]; simp [rightV, hr0, hr1]
  have qo : oneD (fun s => (s, eqS s b_option)) W5 d5 = (f6, W6, true) := by rw [one_word, q6]; simp [ho]
  have e : cmdD W d = ({ zCmd with kind := 14, actor := s1, schema := s2, table := s3, right := 0, role := s5, opt := true }, W6, true) := by
    unfold cmdD
    rw [qk]
    simp [bindD, hk, tailD, grantD, q1, q2, q3, qr, q5, hm, qo]
  rw [e]
  have H1 := Lib.hid (lname_at (b := b) (p := p) q1)
  have H2 := Lib.hid (lname_at (b := b) (p := p) q2)
  have H3 := Lib.hid (lname_at (b := b) (p := p) q3)
  have H5 := Lib.hid (lname_at (b := b) (p := p) q5)
  have H4 := Lib.hid (lword_at (b := b) (p := p) q4)
  have HM := Lib.hid (lmore_at (b := b) (p := p) hm)
  have H6 := Lib.hid (lword_at (b := b) (p := p) q6)
  have io := eqS_as ho
  unfold b_option at io
  simp only at io
  have io' : (f6.toList != [111, 112, 116, 105, 111, 110]) = !(f6.toList == [111, 112, 116, 105, 111, 110]) := rfl
  rw [io] at io'
  have ihr0 := eqS_as hr0
  unfold b_read at ihr0
  simp only at ihr0
  have ihr1 := eqS_as hr1
  unfold b_write at ihr1
  simp only at ihr1
  clear e hl qk q0 hk q1 q2 q3 q4 q5 qr hr0 hr1 hm q6 ho qo
  go_enter Tryz.func34, Tryz.ntmps34
  go_wp2_with (first
    | (go_at_call 32; with_reducible refine (H0.out _ HX0.out.ds).mono ?_; rintro e w0 ⟨rfl, g0, l0, k0⟩; have X0 := HX0.out.call k0 l0; have y1 := l0.c1; have y2 := l0.f1; have y3 := l0.lt; have X1 := X0.boxBad false [.int .i64 14, .string ⟨#[]⟩, .string ⟨#[]⟩, .string ⟨#[]⟩, .string ⟨#[]⟩, .string ⟨#[]⟩, .slice none 0 0, .string ⟨#[]⟩, .int .i64 0, .slice none 0 0, .int .i64 0, .int .i64 0, .string ⟨#[]⟩, .string ⟨#[]⟩, .string ⟨#[]⟩, .int .i64 0, .bool false] 31; have z0 := X1.lt; obtain ⟨z00, z01, z02⟩ := z0; have X0s := Lib.hid X1; clear l0 k0 X0 X1)
    | (go_at_call 56; with_reducible refine (HK.out _).mono ?_; rintro e wk ⟨rfl, rfl⟩)
    | (go_at_call 57; with_reducible refine (H1.out _ X0s.out.nr.ds).mono ?_; rintro e w1 ⟨rfl, g1, m1, k1⟩; have X1 := X0s.out.call k1 m1; obtain ⟨ca1, fa1⟩ := X1.cf 1 (by simp); obtain ⟨cb1, fb1⟩ := X1.cf 0 (by simp); have z1 := X1.lt; obtain ⟨z10, z11, z12⟩ := z1; have X1s : Nx b p w.heap.size w0.heap.size w _ _ _ [.int .i64 0, .string ⟨#[]⟩, .string ⟨#[]⟩, .string ⟨#[]⟩, .string ⟨#[]⟩, .string ⟨#[]⟩, .slice none 0 0, .string ⟨#[]⟩, .int .i64 0, .slice none 0 0, .int .i64 0, .int .i64 0, .string ⟨#[]⟩, .string ⟨#[]⟩, .string ⟨#[]⟩, .int .i64 0, .bool false] [.int .i64 14, .string s1, .string ⟨#[]⟩, .string ⟨#[]⟩, .string ⟨#[]⟩, .string ⟨#[]⟩, .slice none 0 0, .string ⟨#[]⟩, .int .i64 0, .slice none 0 0, .int .i64 0, .int .i64 0, .string ⟨#[]⟩, .string ⟨#[]⟩, .string ⟨#[]⟩, .int .i64 0, .bool false] := X1.set 1 (.string s1) (by simp); have X1s := Lib.hid X1s; clear m1 k1 X1)
    | (go_at_call 57; with_reducible refine (H2.out _ X1s.out.nr.ds).mono ?_; rintro e w2 ⟨rfl, g2, m2, k2⟩; have X2 := X1s.out.call k2 m2; obtain ⟨ca2, fa2⟩ := X2.cf 2 (by simp); obtain ⟨cb2, fb2⟩ := X2.cf 0 (by simp); have z2 := X2.lt; obtain ⟨z20, z21, z22⟩ := z2; have X2s : Nx b p w.heap.size w0.heap.size w _ _ _ [.int .i64 0, .string ⟨#[]⟩, .string ⟨#[]⟩, .string ⟨#[]⟩, .string ⟨#[]⟩, .string ⟨#[]⟩, .slice none 0 0, .string ⟨#[]⟩, .int .i64 0, .slice none 0 0, .int .i64 0, .int .i64 0, .string ⟨#[]⟩, .string ⟨#[]⟩, .string ⟨#[]⟩, .int .i64 0, .bool false] [.int .i64 14, .string s1, .string s2, .string ⟨#[]⟩, .string ⟨#[]⟩, .string ⟨#[]⟩, .slice none 0 0, .string ⟨#[]⟩, .int .i64 0, .slice none 0 0, .int .i64 0, .int .i64 0, .string ⟨#[]⟩, .string ⟨#[]⟩, .string ⟨#[]⟩, .int .i64 0, .bool false] := X2.set 2 (.string s2) (by simp); have X2s := Lib.hid X2s; clear m2 k2 X2)
    | (go_at_call 57; with_reducible refine (H3.out _ X2s.out.nr.ds).mono ?_; rintro e w3 ⟨rfl, g3, m3, k3⟩; have X3 := X2s.out.call k3 m3; obtain ⟨ca3, fa3⟩ := X3.cf 3 (by simp); obtain ⟨cb3, fb3⟩ := X3.cf 0 (by simp); have z3 := X3.lt; obtain ⟨z30, z31, z32⟩ := z3; have X3s : Nx b p w.heap.size w0.heap.size w _ _ _ [.int .i64 0, .string ⟨#[]⟩, .string ⟨#[]⟩, .string ⟨#[]⟩, .string ⟨#[]⟩, .string ⟨#[]⟩, .slice none 0 0, .string ⟨#[]⟩, .int .i64 0, .slice none 0 0, .int .i64 0, .int .i64 0, .string ⟨#[]⟩, .string ⟨#[]⟩, .string ⟨#[]⟩, .int .i64 0, .bool false] [.int .i64 14, .string s1, .string s2, .string s3, .string ⟨#[]⟩, .string ⟨#[]⟩, .slice none 0 0, .string ⟨#[]⟩, .int .i64 0, .slice none 0 0, .int .i64 0, .int .i64 0, .string ⟨#[]⟩, .string ⟨#[]⟩, .string ⟨#[]⟩, .int .i64 0, .bool false] := X3.set 3 (.string s3) (by simp); have X3s := Lib.hid X3s; clear m3 k3 X3)
    | (go_at_call 32; with_reducible refine (H4.out _ X3s.out.nr.ds).mono ?_; rintro e w4 ⟨rfl, g4, m4, k4⟩; have X4 := X3s.out.call k4 m4; have yy1 := m4.c1; have yy2 := m4.f1; have z4 := X4.lt; obtain ⟨z40, z41, z42⟩ := z4; have X4s := Lib.hid (X4.bad true); clear m4 k4 X4)
    | (go_at_call 57; with_reducible refine (H5.out _ X4s.out.nr.ds).mono ?_; rintro e w5 ⟨rfl, g5, m5, k5⟩; have X5 := X4s.out.call k5 m5; obtain ⟨ca5, fa5⟩ := X5.cf 5 (by simp); obtain ⟨cb5, fb5⟩ := X5.cf 0 (by simp); obtain ⟨cd5, fd5⟩ := X5.cf 16 (by simp); have z5 := X5.lt; obtain ⟨z50, z51, z52⟩ := z5; have X5s : Nx b p w.heap.size w0.heap.size w _ _ _ [.int .i64 0, .string ⟨#[]⟩, .string ⟨#[]⟩, .string ⟨#[]⟩, .string ⟨#[]⟩, .string ⟨#[]⟩, .slice none 0 0, .string ⟨#[]⟩, .int .i64 0, .slice none 0 0, .int .i64 0, .int .i64 0, .string ⟨#[]⟩, .string ⟨#[]⟩, .string ⟨#[]⟩, .int .i64 0, .bool false] [.int .i64 14, .string s1, .string s2, .string s3, .string ⟨#[]⟩, .string s5, .slice none 0 0, .string ⟨#[]⟩, .int .i64 0, .slice none 0 0, .int .i64 0, .int .i64 0, .string ⟨#[]⟩, .string ⟨#[]⟩, .string ⟨#[]⟩, .int .i64 0, .bool false] := X5.set 5 (.string s5) (by simp); have X5s := Lib.hid X5s; have X5o : Nx b p w.heap.size w0.heap.size w _ _ _ [.int .i64 0, .string ⟨#[]⟩, .string ⟨#[]⟩, .string ⟨#[]⟩, .string ⟨#[]⟩, .string ⟨#[]⟩, .slice none 0 0, .string ⟨#[]⟩, .int .i64 0, .slice none 0 0, .int .i64 0, .int .i64 0, .string ⟨#[]⟩, .string ⟨#[]⟩, .string ⟨#[]⟩, .int .i64 0, .bool false] [.int .i64 14, .string s1, .string s2, .string s3, .string ⟨#[]⟩, .string s5, .slice none 0 0, .string ⟨#[]⟩, .int .i64 0, .slice none 0 0, .int .i64 0, .int .i64 0, .string ⟨#[]⟩, .string ⟨#[]⟩, .string ⟨#[]⟩, .int .i64 0, .bool true] := X5s.out.set 16 (.bool true) (by simp); have X5o := Lib.hid X5o; clear m5 k5 X5)
    | (go_at_call 54; with_reducible refine (HM.out _ X5s.out.nr.ds).mono ?_; rintro e wm ⟨rfl, rfl⟩)
    | (go_at_call 32; with_reducible refine (H6.out _ X5o.out.nr.ds).mono ?_; rintro e w6 ⟨rfl, g6, m6, k6⟩; have X6 := X5o.out.call k6 m6; have yz1 := m6.c1; have yz2 := m6.f1; have z6 := X6.lt; obtain ⟨z60, z61, z62⟩ := z6; have X6s := Lib.hid (X6.bad true); have e1 := lvCmd_row X6s.out.row rfl; have e2 := svCmd_row X6s.out.nr.res rfl rfl (vs := [.int .i64 14, .string s1, .string s2, .string s3, .string ⟨#[]⟩, .string s5, .slice none 0 0, .string ⟨#[]⟩, .int .i64 0, .slice none 0 0, .int .i64 0, .int .i64 0, .string ⟨#[]⟩, .string ⟨#[]⟩, .string ⟨#[]⟩, .int .i64 0, .bool true]) (by simp [Value.oneCell']); clear m6 k6 X6))
  have XR := X6s.out.nr.sets (cs := [.int .i64 14, .string s1, .string s2, .string s3, .string ⟨#[]⟩, .string s5, .slice none 0 0, .string ⟨#[]⟩, .int .i64 0, .slice none 0 0, .int .i64 0, .int .i64 0, .string ⟨#[]⟩, .string ⟨#[]⟩, .string ⟨#[]⟩, .int .i64 0, .bool true]) rfl
  refine bodyPost_ret (results_cell rfl _ rfl (lv_row (T := 31) Tryz.underlying31 (by kernel_rfl) XR.res rfl)) rfl ?_
  exact ⟨XR.kw, _, rfl, ⟨none, 0, none, 0, rfl, colsN_nil _ _ _ HB.out, namesN_nil _ _ _ HB.out, g1, g2, g3, szZ, g5, szZ, szZ, szZ, szZ⟩, XR.ds⟩
set_option maxHeartbeats 2000000 in
theorem commandN_14_other_noopt_true (f : ByteArray) (W : Ws) (d : Bool) (W0 : Ws) (q0 : wordD W d = (f, W0, true)) (hk : kindB f = 14) (s1 : ByteArray) (W1 : Ws) (d1 : Bool) (q1 : nameD W0 true = (s1, W1, d1)) (s2 : ByteArray) (W2 : Ws) (d2 : Bool) (q2 : nameD W1 d1 = (s2, W2, d2)) (s3 : ByteArray) (W3 : Ws) (d3 : Bool) (q3 : nameD W2 d2 = (s3, W3, d3)) (f4 : ByteArray) (W4 : Ws) (d4 : Bool) (q4 : wordD W3 d3 = (f4, W4, d4)) (hr0 : eqS f4 b_read = false) (hr1 : eqS f4 b_write = false) (b p : Nat) (w : World) (hl : LnS w b p W d) (s5 : ByteArray) (W5 : Ws) (d5 : Bool) (q5 : nameD W4 true = (s5, W5, d5)) (hm : moreD W5 d5 = true) (f6 : ByteArray) (W6 : Ws) (q6 : wordD W5 d5 = (f6, W6, false)) (ho : eqS f6 b_option = false) : Calls Tryz.prog 34 #[.pointer (some ⟨b, 0, none⟩)] w (RdN b p w (CmdN b w.heap.size) (cmdD W d)) := by
  have H0 := Lib.hid (lword_at (b := b) (p := p) q0)
  have HK := Lib.hid (lkind_at hk)
  have qk := one_kind q0 hk
  have HX0 := Lib.hid (Nr.start hl [.int .i64 0, .string ⟨#[]⟩, .string ⟨#[]⟩, .string ⟨#[]⟩, .string ⟨#[]⟩, .string ⟨#[]⟩, .slice none 0 0, .string ⟨#[]⟩, .int .i64 0, .slice none 0 0, .int .i64 0, .int .i64 0, .string ⟨#[]⟩, .string ⟨#[]⟩, .string ⟨#[]⟩, .int .i64 0, .bool false] 31)
  have hb := hl.lt
  have HB := Lib.hid hb
  have qk : oneD (fun s => (s, kindB s != 0)) W d = (f, W0, true) := qk
  have qr : oneD rightV W3 d3 = (0, W4, true) := by rw [one_word, q4]; simp [rightV, hr0, hr1]
  have qo : oneD (fun s => (s, eqS s b_option)) W5 d5 = (f6, W6, true) := by rw [one_word, q6]; simp [ho]
  have e : cmdD W d = ({ zCmd with kind := 14, actor := s1, schema := s2, table := s3, right := 0, role := s5, opt := true }, W6, true) := by
    unfold cmdD
    rw [qk]
    simp [bindD, hk, tailD, grantD, q1, q2, q3, qr, q5, hm, qo]
  rw [e]
  have H1 := Lib.hid (lname_at (b := b) (p := p) q1)
  have H2 := Lib.hid (lname_at (b := b) (p := p) q2)
  have H3 := Lib.hid (lname_at (b := b) (p := p) q3)
  have H5 := Lib.hid (lname_at (b := b) (p := p) q5)
  have H4 := Lib.hid (lword_at (b := b) (p := p) q4)
  have HM := Lib.hid (lmore_at (b := b) (p := p) hm)
  have H6 := Lib.hid (lword_at (b := b) (p := p) q6)
  have io := eqS_as ho
  unfold b_option at io
  simp only at io
  have io' : (f6.toList != [111, 112, 116, 105, 111, 110]) = !(f6.toList == [111, 112, 116, 105, 111, 110]) := rfl
  rw [io] at io'
  have ihr0 := eqS_as hr0
  unfold b_read at ihr0
  simp only at ihr0
  have ihr1 := eqS_as hr1
  unfold b_write at ihr1
  simp only at ihr1
  clear e hl qk q0 hk q1 q2 q3 q4 q5 qr hr0 hr1 hm q6 ho qo
  go_enter Tryz.func34, Tryz.ntmps34
  go_wp2_with (first
    | (go_at_call 32; with_reducible refine (H0.out _ HX0.out.ds).mono ?_; rintro e w0 ⟨rfl, g0, l0, k0⟩; have X0 := HX0.out.call k0 l0; have y1 := l0.c1; have y2 := l0.f1; have y3 := l0.lt; have X1 := X0.boxBad true [.int .i64 14, .string ⟨#[]⟩, .string ⟨#[]⟩, .string ⟨#[]⟩, .string ⟨#[]⟩, .string ⟨#[]⟩, .slice none 0 0, .string ⟨#[]⟩, .int .i64 0, .slice none 0 0, .int .i64 0, .int .i64 0, .string ⟨#[]⟩, .string ⟨#[]⟩, .string ⟨#[]⟩, .int .i64 0, .bool false] 31; have z0 := X1.lt; obtain ⟨z00, z01, z02⟩ := z0; have X0s := Lib.hid X1; clear l0 k0 X0 X1)
    | (go_at_call 56; with_reducible refine (HK.out _).mono ?_; rintro e wk ⟨rfl, rfl⟩)
    | (go_at_call 57; with_reducible refine (H1.out _ X0s.out.nr.ds).mono ?_; rintro e w1 ⟨rfl, g1, m1, k1⟩; have X1 := X0s.out.call k1 m1; obtain ⟨ca1, fa1⟩ := X1.cf 1 (by simp); obtain ⟨cb1, fb1⟩ := X1.cf 0 (by simp); have z1 := X1.lt; obtain ⟨z10, z11, z12⟩ := z1; have X1s : Nx b p w.heap.size w0.heap.size w _ _ _ [.int .i64 0, .string ⟨#[]⟩, .string ⟨#[]⟩, .string ⟨#[]⟩, .string ⟨#[]⟩, .string ⟨#[]⟩, .slice none 0 0, .string ⟨#[]⟩, .int .i64 0, .slice none 0 0, .int .i64 0, .int .i64 0, .string ⟨#[]⟩, .string ⟨#[]⟩, .string ⟨#[]⟩, .int .i64 0, .bool false] [.int .i64 14, .string s1, .string ⟨#[]⟩, .string ⟨#[]⟩, .string ⟨#[]⟩, .string ⟨#[]⟩, .slice none 0 0, .string ⟨#[]⟩, .int .i64 0, .slice none 0 0, .int .i64 0, .int .i64 0, .string ⟨#[]⟩, .string ⟨#[]⟩, .string ⟨#[]⟩, .int .i64 0, .bool false] := X1.set 1 (.string s1) (by simp); have X1s := Lib.hid X1s; clear m1 k1 X1)
    | (go_at_call 57; with_reducible refine (H2.out _ X1s.out.nr.ds).mono ?_; rintro e w2 ⟨rfl, g2, m2, k2⟩; have X2 := X1s.out.call k2 m2; obtain ⟨ca2, fa2⟩ := X2.cf 2 (by simp); obtain ⟨cb2, fb2⟩ := X2.cf 0 (by simp); have z2 := X2.lt; obtain ⟨z20, z21, z22⟩ := z2; have X2s : Nx b p w.heap.size w0.heap.size w _ _ _ [.int .i64 0, .string ⟨#[]⟩, .string ⟨#[]⟩, .string ⟨#[]⟩, .string ⟨#[]⟩, .string ⟨#[]⟩, .slice none 0 0, .string ⟨#[]⟩, .int .i64 0, .slice none 0 0, .int .i64 0, .int .i64 0, .string ⟨#[]⟩, .string ⟨#[]⟩, .string ⟨#[]⟩, .int .i64 0, .bool false] [.int .i64 14, .string s1, .string s2, .string ⟨#[]⟩, .string ⟨#[]⟩, .string ⟨#[]⟩, .slice none 0 0, .string ⟨#[]⟩, .int .i64 0, .slice none 0 0, .int .i64 0, .int .i64 0, .string ⟨#[]⟩, .string ⟨#[]⟩, .string ⟨#[]⟩, .int .i64 0, .bool false] := X2.set 2 (.string s2) (by simp); have X2s := Lib.hid X2s; clear m2 k2 X2)
    | (go_at_call 57; with_reducible refine (H3.out _ X2s.out.nr.ds).mono ?_; rintro e w3 ⟨rfl, g3, m3, k3⟩; have X3 := X2s.out.call k3 m3; obtain ⟨ca3, fa3⟩ := X3.cf 3 (by simp); obtain ⟨cb3, fb3⟩ := X3.cf 0 (by simp); have z3 := X3.lt; obtain ⟨z30, z31, z32⟩ := z3; have X3s : Nx b p w.heap.size w0.heap.size w _ _ _ [.int .i64 0, .string ⟨#[]⟩, .string ⟨#[]⟩, .string ⟨#[]⟩, .string ⟨#[]⟩, .string ⟨#[]⟩, .slice none 0 0, .string ⟨#[]⟩, .int .i64 0, .slice none 0 0, .int .i64 0, .int .i64 0, .string ⟨#[]⟩, .string ⟨#[]⟩, .string ⟨#[]⟩, .int .i64 0, .bool false] [.int .i64 14, .string s1, .string s2, .string s3, .string ⟨#[]⟩, .string ⟨#[]⟩, .slice none 0 0, .string ⟨#[]⟩, .int .i64 0, .slice none 0 0, .int .i64 0, .int .i64 0, .string ⟨#[]⟩, .string ⟨#[]⟩, .string ⟨#[]⟩, .int .i64 0, .bool false] := X3.set 3 (.string s3) (by simp); have X3s := Lib.hid X3s; clear m3 k3 X3)
    | (go_at_call 32; with_reducible refine (H4.out _ X3s.out.nr.ds).mono ?_; rintro e w4 ⟨rfl, g4, m4, k4⟩; have X4 := X3s.out.call k4 m4; have yy1 := m4.c1; have yy2 := m4.f1; have z4 := X4.lt; obtain ⟨z40, z41, z42⟩ := z4; have X4s := Lib.hid (X4.bad true); clear m4 k4 X4)
    | (go_at_call 57; with_reducible refine (H5.out _ X4s.out.nr.ds).mono ?_; rintro e w5 ⟨rfl, g5, m5, k5⟩; have X5 := X4s.out.call k5 m5; obtain ⟨ca5, fa5⟩ := X5.cf 5 (by simp); obtain ⟨cb5, fb5⟩ := X5.cf 0 (by simp); obtain ⟨cd5, fd5⟩ := X5.cf 16 (by simp); have z5 := X5.lt; obtain ⟨z50, z51, z52⟩ := z5; have X5s : Nx b p w.heap.size w0.heap.size w _ _ _ [.int .i64 0, .string ⟨#[]⟩, .string ⟨#[]⟩, .string ⟨#[]⟩, .string ⟨#[]⟩, .string ⟨#[]⟩, .slice none 0 0, .string ⟨#[]⟩, .int .i64 0, .slice none 0 0, .int .i64 0, .int .i64 0, .string ⟨#[]⟩, .string ⟨#[]⟩, .string ⟨#[]⟩, .int .i64 0, .bool false] [.int .i64 14, .string s1, .string s2, .string s3, .string ⟨#[]⟩, .string s5, .slice none 0 0, .string ⟨#[]⟩, .int .i64 0, .slice none 0 0, .int .i64 0, .int .i64 0, .string ⟨#[]⟩, .string ⟨#[]⟩, .string ⟨#[]⟩, .int .i64 0, .bool false] := X5.set 5 (.string s5) (by simp); have X5s := Lib.hid X5s; have X5o : Nx b p w.heap.size w0.heap.size w _ _ _ [.int .i64 0, .string ⟨#[]⟩, .string ⟨#[]⟩, .string ⟨#[]⟩, .string ⟨#[]⟩, .string ⟨#[]⟩, .slice none 0 0, .string ⟨#[]⟩, .int .i64 0, .slice none 0 0, .int .i64 0, .int .i64 0, .string ⟨#[]⟩, .string ⟨#[]⟩, .string ⟨#[]⟩, .int .i64 0, .bool false] [.int .i64 14, .string s1, .string s2, .string s3, .string ⟨#[]⟩, .string s5, .slice none 0 0, .string ⟨#[]⟩, .int .i64 0, .slice none 0 0, .int .i64 0, .int .i64 0, .string ⟨#[]⟩, .string ⟨#[]⟩, .string ⟨#[]⟩, .int .i64 0, .bool true] := X5s.out.set 16 (.bool true) (by simp); have X5o := Lib.hid X5o; clear m5 k5 X5)
    | (go_at_call 54; with_reducible refine (HM.out _ X5s.out.nr.ds).mono ?_; rintro e wm ⟨rfl, rfl⟩)
    | (go_at_call 32; with_reducible refine (H6.out _ X5o.out.nr.ds).mono ?_; rintro e w6 ⟨rfl, g6, m6, k6⟩; have X6 := X5o.out.call k6 m6; have yz1 := m6.c1; have yz2 := m6.f1; have z6 := X6.lt; obtain ⟨z60, z61, z62⟩ := z6; have X6s := Lib.hid (X6.bad true); have e1 := lvCmd_row X6s.out.row rfl; have e2 := svCmd_row X6s.out.nr.res rfl rfl (vs := [.int .i64 14, .string s1, .string s2, .string s3, .string ⟨#[]⟩, .string s5, .slice none 0 0, .string ⟨#[]⟩, .int .i64 0, .slice none 0 0, .int .i64 0, .int .i64 0, .string ⟨#[]⟩, .string ⟨#[]⟩, .string ⟨#[]⟩, .int .i64 0, .bool true]) (by simp [Value.oneCell']); clear m6 k6 X6))
  have XR := X6s.out.nr.sets (cs := [.int .i64 14, .string s1, .string s2, .string s3, .string ⟨#[]⟩, .string s5, .slice none 0 0, .string ⟨#[]⟩, .int .i64 0, .slice none 0 0, .int .i64 0, .int .i64 0, .string ⟨#[]⟩, .string ⟨#[]⟩, .string ⟨#[]⟩, .int .i64 0, .bool true]) rfl
  refine bodyPost_ret (results_cell rfl _ rfl (lv_row (T := 31) Tryz.underlying31 (by kernel_rfl) XR.res rfl)) rfl ?_
  exact ⟨XR.kw, _, rfl, ⟨none, 0, none, 0, rfl, colsN_nil _ _ _ HB.out, namesN_nil _ _ _ HB.out, g1, g2, g3, szZ, g5, szZ, szZ, szZ, szZ⟩, XR.ds⟩
theorem commandN_15 (f : ByteArray) (W : Ws) (d : Bool) (W0 : Ws) (d0 : Bool) (q0 : wordD W d = (f, W0, d0)) (hk : kindB f = 15) (b p : Nat) (w : World) (hl : LnS w b p W d) : Calls Tryz.prog 34 #[.pointer (some ⟨b, 0, none⟩)] w (RdN b p w (CmdN b w.heap.size) (cmdD W d)) := by
  cases d0
  ·
    obtain ⟨s1, W1, d1, q1⟩ : ∃ a c e, nameD W0 false = (a, c, e) := ⟨_, _, _, rfl⟩
    obtain ⟨s2, W2, d2, q2⟩ : ∃ a c e, nameD W1 d1 = (a, c, e) := ⟨_, _, _, rfl⟩
    obtain ⟨s3, W3, d3, q3⟩ : ∃ a c e, nameD W2 d2 = (a, c, e) := ⟨_, _, _, rfl⟩
    obtain ⟨f4, W4, d4, q4⟩ : ∃ a c e, wordD W3 d3 = (a, c, e) := ⟨_, _, _, rfl⟩
    cases hr0 : eqS f4 b_read with
    | true =>
      obtain ⟨s5, W5, d5, q5⟩ : ∃ a c e, nameD W4 d4 = (a, c, e) := ⟨_, _, _, rfl⟩
      exact commandN_15_read_end_false f W d W0 q0 hk s1 W1 d1 q1 s2 W2 d2 q2 s3 W3 d3 q3 f4 W4 d4 q4 hr0 b p w hl s5 W5 d5 q5
    | false =>
      cases hr1 : eqS f4 b_write with
      | true =>
        obtain ⟨s5, W5, d5, q5⟩ : ∃ a c e, nameD W4 d4 = (a, c, e) := ⟨_, _, _, rfl⟩
        exact commandN_15_write_end_false f W d W0 q0 hk s1 W1 d1 q1 s2 W2 d2 q2 s3 W3 d3 q3 f4 W4 d4 q4 hr0 hr1 b p w hl s5 W5 d5 q5
      | false =>
        obtain ⟨s5, W5, d5, q5⟩ : ∃ a c e, nameD W4 true = (a, c, e) := ⟨_, _, _, rfl⟩
        exact commandN_15_other_end_false f W d W0 q0 hk s1 W1 d1 q1 s2 W2 d2 q2 s3 W3 d3 q3 f4 W4 d4 q4 hr0 hr1 b p w hl s5 W5 d5 q5
  ·
    obtain ⟨s1, W1, d1, q1⟩ : ∃ a c e, nameD W0 true = (a, c, e) := ⟨_, _, _, rfl⟩
    obtain ⟨s2, W2, d2, q2⟩ : ∃ a c e, nameD W1 d1 = (a, c, e) := ⟨_, _, _, rfl⟩
    obtain ⟨s3, W3, d3, q3⟩ : ∃ a c e, nameD W2 d2 = (a, c, e) := ⟨_, _, _, rfl⟩
    obtain ⟨f4, W4, d4, q4⟩ : ∃ a c e, wordD W3 d3 = (a, c, e) := ⟨_, _, _, rfl⟩
    cases hr0 : eqS f4 b_read with
    | true =>
      obtain ⟨s5, W5, d5, q5⟩ : ∃ a c e, nameD W4 d4 = (a, c, e) := ⟨_, _, _, rfl⟩
      exact commandN_15_read_end_true f W d W0 q0 hk s1 W1 d1 q1 s2 W2 d2 q2 s3 W3 d3 q3 f4 W4 d4 q4 hr0 b p w hl s5 W5 d5 q5
    | false =>
      cases hr1 : eqS f4 b_write with
      | true =>
        obtain ⟨s5, W5, d5, q5⟩ : ∃ a c e, nameD W4 d4 = (a, c, e) := ⟨_, _, _, rfl⟩
        exact commandN_15_write_end_true f W d W0 q0 hk s1 W1 d1 q1 s2 W2 d2 q2 s3 W3 d3 q3 f4 W4 d4 q4 hr0 hr1 b p w hl s5 W5 d5 q5
      | false =>
        obtain ⟨s5, W5, d5, q5⟩ : ∃ a c e, nameD W4 true = (a, c, e) := ⟨_, _, _, rfl⟩
        exact commandN_15_other_end_true f W d W0 q0 hk s1 W1 d1 q1 s2 W2 d2 q2 s3 W3 d3 q3 f4 W4 d4 q4 hr0 hr1 b p w hl s5 W5 d5 q5
theorem commandN_14 (f : ByteArray) (W : Ws) (d : Bool) (W0 : Ws) (d0 : Bool) (q0 : wordD W d = (f, W0, d0)) (hk : kindB f = 14) (b p : Nat) (w : World) (hl : LnS w b p W d) : Calls Tryz.prog 34 #[.pointer (some ⟨b, 0, none⟩)] w (RdN b p w (CmdN b w.heap.size) (cmdD W d)) := by
  cases d0
  ·
    obtain ⟨s1, W1, d1, q1⟩ : ∃ a c e, nameD W0 false = (a, c, e) := ⟨_, _, _, rfl⟩
    obtain ⟨s2, W2, d2, q2⟩ : ∃ a c e, nameD W1 d1 = (a, c, e) := ⟨_, _, _, rfl⟩
    obtain ⟨s3, W3, d3, q3⟩ : ∃ a c e, nameD W2 d2 = (a, c, e) := ⟨_, _, _, rfl⟩
    obtain ⟨f4, W4, d4, q4⟩ : ∃ a c e, wordD W3 d3 = (a, c, e) := ⟨_, _, _, rfl⟩
    cases hr0 : eqS f4 b_read with
    | true =>
      obtain ⟨s5, W5, d5, q5⟩ : ∃ a c e, nameD W4 d4 = (a, c, e) := ⟨_, _, _, rfl⟩
      cases hm : moreD W5 d5 with
      | false => exact commandN_14_read_nomore_false f W d W0 q0 hk s1 W1 d1 q1 s2 W2 d2 q2 s3 W3 d3 q3 f4 W4 d4 q4 hr0 b p w hl s5 W5 d5 q5 hm
      | true =>
        obtain ⟨f6, W6, d6, q6⟩ : ∃ a c e, wordD W5 d5 = (a, c, e) := ⟨_, _, _, rfl⟩
        obtain rfl := more_word hm q6
        cases ho : eqS f6 b_option with
        | true => exact commandN_14_read_opt_false f W d W0 q0 hk s1 W1 d1 q1 s2 W2 d2 q2 s3 W3 d3 q3 f4 W4 d4 q4 hr0 b p w hl s5 W5 d5 q5 hm f6 W6 q6 ho
        | false => exact commandN_14_read_noopt_false f W d W0 q0 hk s1 W1 d1 q1 s2 W2 d2 q2 s3 W3 d3 q3 f4 W4 d4 q4 hr0 b p w hl s5 W5 d5 q5 hm f6 W6 q6 ho
    | false =>
      cases hr1 : eqS f4 b_write with
      | true =>
        obtain ⟨s5, W5, d5, q5⟩ : ∃ a c e, nameD W4 d4 = (a, c, e) := ⟨_, _, _, rfl⟩
        cases hm : moreD W5 d5 with
        | false => exact commandN_14_write_nomore_false f W d W0 q0 hk s1 W1 d1 q1 s2 W2 d2 q2 s3 W3 d3 q3 f4 W4 d4 q4 hr0 hr1 b p w hl s5 W5 d5 q5 hm
        | true =>
          obtain ⟨f6, W6, d6, q6⟩ : ∃ a c e, wordD W5 d5 = (a, c, e) := ⟨_, _, _, rfl⟩
          obtain rfl := more_word hm q6
          cases ho : eqS f6 b_option with
          | true => exact commandN_14_write_opt_false f W d W0 q0 hk s1 W1 d1 q1 s2 W2 d2 q2 s3 W3 d3 q3 f4 W4 d4 q4 hr0 hr1 b p w hl s5 W5 d5 q5 hm f6 W6 q6 ho
          | false => exact commandN_14_write_noopt_false f W d W0 q0 hk s1 W1 d1 q1 s2 W2 d2 q2 s3 W3 d3 q3 f4 W4 d4 q4 hr0 hr1 b p w hl s5 W5 d5 q5 hm f6 W6 q6 ho
      | false =>
        obtain ⟨s5, W5, d5, q5⟩ : ∃ a c e, nameD W4 true = (a, c, e) := ⟨_, _, _, rfl⟩
        cases hm : moreD W5 d5 with
        | false => exact commandN_14_other_nomore_false f W d W0 q0 hk s1 W1 d1 q1 s2 W2 d2 q2 s3 W3 d3 q3 f4 W4 d4 q4 hr0 hr1 b p w hl s5 W5 d5 q5 hm
        | true =>
          obtain ⟨f6, W6, d6, q6⟩ : ∃ a c e, wordD W5 d5 = (a, c, e) := ⟨_, _, _, rfl⟩
          obtain rfl := more_word hm q6
          cases ho : eqS f6 b_option with
          | true => exact commandN_14_other_opt_false f W d W0 q0 hk s1 W1 d1 q1 s2 W2 d2 q2 s3 W3 d3 q3 f4 W4 d4 q4 hr0 hr1 b p w hl s5 W5 d5 q5 hm f6 W6 q6 ho
          | false => exact commandN_14_other_noopt_false f W d W0 q0 hk s1 W1 d1 q1 s2 W2 d2 q2 s3 W3 d3 q3 f4 W4 d4 q4 hr0 hr1 b p w hl s5 W5 d5 q5 hm f6 W6 q6 ho
  ·
    obtain ⟨s1, W1, d1, q1⟩ : ∃ a c e, nameD W0 true = (a, c, e) := ⟨_, _, _, rfl⟩
    obtain ⟨s2, W2, d2, q2⟩ : ∃ a c e, nameD W1 d1 = (a, c, e) := ⟨_, _, _, rfl⟩
    obtain ⟨s3, W3, d3, q3⟩ : ∃ a c e, nameD W2 d2 = (a, c, e) := ⟨_, _, _, rfl⟩
    obtain ⟨f4, W4, d4, q4⟩ : ∃ a c e, wordD W3 d3 = (a, c, e) := ⟨_, _, _, rfl⟩
    cases hr0 : eqS f4 b_read with
    | true =>
      obtain ⟨s5, W5, d5, q5⟩ : ∃ a c e, nameD W4 d4 = (a, c, e) := ⟨_, _, _, rfl⟩
      cases hm : moreD W5 d5 with
      | false => exact commandN_14_read_nomore_true f W d W0 q0 hk s1 W1 d1 q1 s2 W2 d2 q2 s3 W3 d3 q3 f4 W4 d4 q4 hr0 b p w hl s5 W5 d5 q5 hm
      | true =>
        obtain ⟨f6, W6, d6, q6⟩ : ∃ a c e, wordD W5 d5 = (a, c, e) := ⟨_, _, _, rfl⟩
        obtain rfl := more_word hm q6
        cases ho : eqS f6 b_option with
        | true => exact commandN_14_read_opt_true f W d W0 q0 hk s1 W1 d1 q1 s2 W2 d2 q2 s3 W3 d3 q3 f4 W4 d4 q4 hr0 b p w hl s5 W5 d5 q5 hm f6 W6 q6 ho
        | false => exact commandN_14_read_noopt_true f W d W0 q0 hk s1 W1 d1 q1 s2 W2 d2 q2 s3 W3 d3 q3 f4 W4 d4 q4 hr0 b p w hl s5 W5 d5 q5 hm f6 W6 q6 ho
    | false =>
      cases hr1 : eqS f4 b_write with
      | true =>
        obtain ⟨s5, W5, d5, q5⟩ : ∃ a c e, nameD W4 d4 = (a, c, e) := ⟨_, _, _, rfl⟩
        cases hm : moreD W5 d5 with
        | false => exact commandN_14_write_nomore_true f W d W0 q0 hk s1 W1 d1 q1 s2 W2 d2 q2 s3 W3 d3 q3 f4 W4 d4 q4 hr0 hr1 b p w hl s5 W5 d5 q5 hm
        | true =>
          obtain ⟨f6, W6, d6, q6⟩ : ∃ a c e, wordD W5 d5 = (a, c, e) := ⟨_, _, _, rfl⟩
          obtain rfl := more_word hm q6
          cases ho : eqS f6 b_option with
          | true => exact commandN_14_write_opt_true f W d W0 q0 hk s1 W1 d1 q1 s2 W2 d2 q2 s3 W3 d3 q3 f4 W4 d4 q4 hr0 hr1 b p w hl s5 W5 d5 q5 hm f6 W6 q6 ho
          | false => exact commandN_14_write_noopt_true f W d W0 q0 hk s1 W1 d1 q1 s2 W2 d2 q2 s3 W3 d3 q3 f4 W4 d4 q4 hr0 hr1 b p w hl s5 W5 d5 q5 hm f6 W6 q6 ho
      | false =>
        obtain ⟨s5, W5, d5, q5⟩ : ∃ a c e, nameD W4 true = (a, c, e) := ⟨_, _, _, rfl⟩
        cases hm : moreD W5 d5 with
        | false => exact commandN_14_other_nomore_true f W d W0 q0 hk s1 W1 d1 q1 s2 W2 d2 q2 s3 W3 d3 q3 f4 W4 d4 q4 hr0 hr1 b p w hl s5 W5 d5 q5 hm
        | true =>
          obtain ⟨f6, W6, d6, q6⟩ : ∃ a c e, wordD W5 d5 = (a, c, e) := ⟨_, _, _, rfl⟩
          obtain rfl := more_word hm q6
          cases ho : eqS f6 b_option with
          | true => exact commandN_14_other_opt_true f W d W0 q0 hk s1 W1 d1 q1 s2 W2 d2 q2 s3 W3 d3 q3 f4 W4 d4 q4 hr0 hr1 b p w hl s5 W5 d5 q5 hm f6 W6 q6 ho
          | false => exact commandN_14_other_noopt_true f W d W0 q0 hk s1 W1 d1 q1 s2 W2 d2 q2 s3 W3 d3 q3 f4 W4 d4 q4 hr0 hr1 b p w hl s5 W5 d5 q5 hm f6 W6 q6 ho
end Go.Proofs.YtbdanlipghhgpaaGreatDoor

