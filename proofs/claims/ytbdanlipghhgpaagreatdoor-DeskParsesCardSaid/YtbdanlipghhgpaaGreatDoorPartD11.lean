/- Contracts of the program, part 11. -/
import Derived.Laws.EntriesVeiled
import Derived.WalkKit
import Derived.WalkSpells
import Derived.WalkLawsBesides
import Derived.Laws.Cells
import Derived.Laws.IdiomCopy
import Derived.Test.YtbdanlipghhgpaaGreatDoorRows
import Derived.Lib.Bytealg
import Derived.Lib.Hide
import Derived.ProofKit
import Derived.OpenShut
import Derived.Deep.Slices
import Derived.ChangeOld
import Derived.SizedLaws
import Derived.Deep.QuietTactic
import Derived.BigQuiet
import Derived.Below
import Derived.Deep.Draws
import Derived.StillTailTactics
import Derived.ShutString
import Derived.Lib.Atoi
import Derived.Lib.ItoaNum
import Derived.Lib.Split
import Derived.Lib.SplitLaws
import Derived.Lib.CutLaws
import Derived.Lib.Strings
import Derived.Lib.SlTrimSet
import Derived.Deep.Upon
import Derived.OwnWalk
import Derived.Laws.AppendOwn
import Derived.Shelf.Strings.Builder1
import Derived.Shelf.Strings.Builder2
import Derived.Shelf.Strings.OnBuilder
import Derived.Shelf.Strings.Trim
import Derived.Shelf.Small.Utf8
import Derived.Shelf.Small.Strs
import Derived.Shelf.Small.Wraps
import Derived.Shelf.Strconv.Atoi
import Derived.Shelf.Strconv.Itoa0
import Derived.Shelf.Strconv.Itoa1
import Derived.Shelf.LaysM
import Derived.Shelf.Strconv.Itoa2
import Derived.Shelf.Strconv.Itoa3
import Derived.Shelf.Strings.Search1
import Derived.Shelf.Strings.Search2
import Derived.Shelf.Strings.Search3
import Derived.Shelf.Strings.Cut
import Derived.Shelf.Strings.Count
import Derived.Shelf.Strings.Shaped
import Derived.Shelf.Strings.Prefix
import Derived.Shelf.Strings.Split
import Derived.Shelf.Strings.Runes
import Derived.Shelf.Strings.AsciiSet
import Derived.Shelf.Unicode.DecodeSlow
import Derived.Shelf.Slices.Equal
import Derived.Shelf.Slices.Empties2
import Derived.Shelf.Strings.SlTrimAscii
import Derived.Test.YtbdanlipghhgpaaGreatDoorProg
import Derived.Deep.AppendLies
import Derived.Recover
import Derived.Defers
import Derived.Deep.Cut
import Derived.Lib.CountLaws
import Derived.Deep.RegionLaw
import Derived.RegionDies
import Derived.Test.YtbdanlipghhgpaaGreatDoorPartD1
import Derived.Test.YtbdanlipghhgpaaGreatDoorPartD2
import Derived.Test.YtbdanlipghhgpaaGreatDoorPartD3
import Derived.Test.YtbdanlipghhgpaaGreatDoorPartD4
import Derived.Test.YtbdanlipghhgpaaGreatDoorPartD5
import Derived.Test.YtbdanlipghhgpaaGreatDoorPartD6
import Derived.Test.YtbdanlipghhgpaaGreatDoorPartD7
import Derived.Test.YtbdanlipghhgpaaGreatDoorPartD8
import Derived.Test.YtbdanlipghhgpaaGreatDoorPartD9
import Derived.Test.YtbdanlipghhgpaaGreatDoorPartD10
namespace Go.Proofs.YtbdanlipghhgpaaGreatDoor
open Go.RowKit Go.Deep
set_option maxRecDepth 100000
set_option linter.unusedVariables false
def ColsN (b B : Nat) (w' : World) (v : Value) (l : List Col) : Prop := OwnR 67 3 colC b B w' v l ∧ l.length ≤ 4098 ∧ ∀ c ∈ l, c.name.size ≤ 4096
theorem ColsN.hi {b B : Nat} {w w' : World} {v : Value} {l : List Col} {P : Nat → Prop} (h : ColsN b B w v l) (k : Kb P w w') (hp : ∀ g, P g → g < B) : ColsN b B w' v l := ⟨h.1.hi k hp, h.2⟩
theorem ColsN.down {b B B0 : Nat} {w : World} {v : Value} {l : List Col} (h : ColsN b B w v l) (hB : B0 ≤ B) (hb : b < B0) : ColsN b B0 w v l := ⟨h.1.down hB hb, h.2⟩
theorem colsN_nil (b B : Nat) (w : World) (hb : b < B) : ColsN b B w (.slice none 0 0) [] := ⟨own_nilD _ _ _ b B w hb, by simp, by simp⟩
structure CmdZ (c : Cmd) : Prop where
  actor : SzS c.actor
  schema : SzS c.schema
  table : SzS c.table
  name : SzS c.name
  role : SzS c.role
  rname : SzS c.rule.name
  rs : SzS c.rule.schema
  rt : SzS c.rule.table
  rk : SzS c.rule.key
theorem Nr.boxBad {b p r : Nat} {w V : World} {W : Ws} {d : Bool} {zs : List Value} (X : Nr b p r w V W d zs) (y : Bool) (cs : List Value) (t : TypeId) : Nx b p r V.heap.size w ((V.setCell ⟨b, 1, none⟩ (.bool y)).alloc (.cells cs.toArray t)) W y zs cs := by
  have h := (X.bad y).box cs t
  rw [show (V.setCell ⟨b, 1, none⟩ (.bool y)).heap.size = V.heap.size by simp] at h
  exact h
theorem szZ : SzS zBy := Nat.zero_le _
def CmdN (b B : Nat) (w' : World) (v : Value) (c : Cmd) : Prop :=
  ∃ A k A2 k2, v = .agg (cmdV c A k A2 k2).toArray ∧ ColsN b B w' (.slice A c.cols.length k) c.cols ∧ NamesN b B w' (.slice A2 c.rule.cols.length k2) c.rule.cols ∧ CmdZ c
theorem lkind_at {f : ByteArray} {k : Int} (h : kindB f = k) : ∀ V : World, Calls Tryz.prog 56 #[.string f] V fun e w' => e = .returned (.int .i64 k) ∧ V = w' := fun V => h ▸ kind_dn f V
theorem one_kind {W W1 : Ws} {d d1 : Bool} {f : ByteArray} {k : Int} (hq : wordD W d = (f, W1, d1)) (hk : kindB f = k) : oneD (fun s => (s, kindB s != 0)) W d = (f, W1, d1 || !(k != 0)) := by rw [one_word, hq, hk]
set_option maxHeartbeats 2000000 in
theorem commandN_0 (f : ByteArray) (W : Ws) (d : Bool) (W0 : Ws) (d0 : Bool) (q0 : wordD W d = (f, W0, d0)) (hk : kindB f = 0) (b p : Nat) (w : World) (hl : LnS w b p W d) : Calls Tryz.prog 34 #[.pointer (some ⟨b, 0, none⟩)] w (RdN b p w (CmdN b w.heap.size) (cmdD W d)) := by
  have H0 := Lib.hid (lword_at (b := b) (p := p) q0)
  have HK := Lib.hid (lkind_at hk)
  have qk := one_kind q0 hk
  have HX0 := Lib.hid (Nr.start hl [.int .i64 0, .string ⟨#[]⟩, .string ⟨#[]⟩, .string ⟨#[]⟩, .string ⟨#[]⟩, .string ⟨#[]⟩, .slice none 0 0, .string ⟨#[]⟩, .int .i64 0, .slice none 0 0, .int .i64 0, .int .i64 0, .string ⟨#[]⟩, .string ⟨#[]⟩, .string ⟨#[]⟩, .int .i64 0, .bool false] 31)
  have hb := hl.lt
  have HB := Lib.hid hb
  cases d0
  · have qk : oneD (fun s => (s, kindB s != 0)) W d = (f, W0, true) := qk
    obtain ⟨s1, W1, d1, q1⟩ : ∃ a c e, nameD W0 true = (a, c, e) := ⟨_, _, _, rfl⟩
    obtain ⟨s2, W2, d2, q2⟩ : ∃ a c e, nameD W1 d1 = (a, c, e) := ⟨_, _, _, rfl⟩
    obtain ⟨s3, W3, d3, q3⟩ : ∃ a c e, nameD W2 d2 = (a, c, e) := ⟨_, _, _, rfl⟩
    have e : cmdD W d = ({ zCmd with kind := 0, actor := s1, schema := s2, table := s3 }, W3, d3) := by
      unfold cmdD
      rw [qk]
      simp [bindD, hk, tailD, q1, q2, q3]
    rw [e]
    have H1 := Lib.hid (lname_at (b := b) (p := p) q1)
    have H2 := Lib.hid (lname_at (b := b) (p := p) q2)
    have H3 := Lib.hid (lname_at (b := b) (p := p) q3)
    clear e hl qk q0 hk q1 q2 q3
    go_enter Tryz.func34, Tryz.ntmps34
    go_wp2_with (first
      | (go_at_call 32; with_reducible refine (H0.out _ HX0.out.ds).mono ?_; rintro e w0 ⟨rfl, g0, l0, k0⟩; have X0 := HX0.out.call k0 l0; have y1 := l0.c1; have y2 := l0.f1; have y3 := l0.lt; have X1 := X0.boxBad true [.int .i64 0, .string ⟨#[]⟩, .string ⟨#[]⟩, .string ⟨#[]⟩, .string ⟨#[]⟩, .string ⟨#[]⟩, .slice none 0 0, .string ⟨#[]⟩, .int .i64 0, .slice none 0 0, .int .i64 0, .int .i64 0, .string ⟨#[]⟩, .string ⟨#[]⟩, .string ⟨#[]⟩, .int .i64 0, .bool false] 31; have z0 := X1.lt; obtain ⟨z00, z01, z02⟩ := z0; have X0s := Lib.hid X1; clear l0 k0 X0 X1)
      | (go_at_call 56; with_reducible refine (HK.out _).mono ?_; rintro e wk ⟨rfl, rfl⟩)
      | (go_at_call 57; with_reducible refine (H1.out _ X0s.out.nr.ds).mono ?_; rintro e w1 ⟨rfl, g1, m1, k1⟩; have X1 := X0s.out.call k1 m1; obtain ⟨ca1, fa1⟩ := X1.cf 1 (by simp); obtain ⟨cb1, fb1⟩ := X1.cf 0 (by simp); have z1 := X1.lt; obtain ⟨z10, z11, z12⟩ := z1; have X1s : Nx b p w.heap.size w0.heap.size w _ _ _ [.int .i64 0, .string ⟨#[]⟩, .string ⟨#[]⟩, .string ⟨#[]⟩, .string ⟨#[]⟩, .string ⟨#[]⟩, .slice none 0 0, .string ⟨#[]⟩, .int .i64 0, .slice none 0 0, .int .i64 0, .int .i64 0, .string ⟨#[]⟩, .string ⟨#[]⟩, .string ⟨#[]⟩, .int .i64 0, .bool false] [.int .i64 0, .string s1, .string ⟨#[]⟩, .string ⟨#[]⟩, .string ⟨#[]⟩, .string ⟨#[]⟩, .slice none 0 0, .string ⟨#[]⟩, .int .i64 0, .slice none 0 0, .int .i64 0, .int .i64 0, .string ⟨#[]⟩, .string ⟨#[]⟩, .string ⟨#[]⟩, .int .i64 0, .bool false] := X1.set 1 (.string s1) (by simp); have X1s := Lib.hid X1s; clear m1 k1 X1)
      | (go_at_call 57; with_reducible refine (H2.out _ X1s.out.nr.ds).mono ?_; rintro e w2 ⟨rfl, g2, m2, k2⟩; have X2 := X1s.out.call k2 m2; obtain ⟨ca2, fa2⟩ := X2.cf 2 (by simp); obtain ⟨cb2, fb2⟩ := X2.cf 0 (by simp); have z2 := X2.lt; obtain ⟨z20, z21, z22⟩ := z2; have X2s : Nx b p w.heap.size w0.heap.size w _ _ _ [.int .i64 0, .string ⟨#[]⟩, .string ⟨#[]⟩, .string ⟨#[]⟩, .string ⟨#[]⟩, .string ⟨#[]⟩, .slice none 0 0, .string ⟨#[]⟩, .int .i64 0, .slice none 0 0, .int .i64 0, .int .i64 0, .string ⟨#[]⟩, .string ⟨#[]⟩, .string ⟨#[]⟩, .int .i64 0, .bool false] [.int .i64 0, .string s1, .string s2, .string ⟨#[]⟩, .string ⟨#[]⟩, .string ⟨#[]⟩, .slice none 0 0, .string ⟨#[]⟩, .int .i64 0, .slice none 0 0, .int .i64 0, .int .i64 0, .string ⟨#[]⟩, .string ⟨#[]⟩, .string ⟨#[]⟩, .int .i64 0, .bool false] := X2.set 2 (.string s2) (by simp); have X2s := Lib.hid X2s; clear m2 k2 X2)
      | (go_at_call 57; with_reducible refine (H3.out _ X2s.out.nr.ds).mono ?_; rintro e w3 ⟨rfl, g3, m3, k3⟩; have X3 := X2s.out.call k3 m3; obtain ⟨ca3, fa3⟩ := X3.cf 3 (by simp); obtain ⟨cb3, fb3⟩ := X3.cf 0 (by simp); have z3 := X3.lt; obtain ⟨z30, z31, z32⟩ := z3; have X3s : Nx b p w.heap.size w0.heap.size w _ _ _ [.int .i64 0, .string ⟨#[]⟩, .string ⟨#[]⟩, .string ⟨#[]⟩, .string ⟨#[]⟩, .string ⟨#[]⟩, .slice none 0 0, .string ⟨#[]⟩, .int .i64 0, .slice none 0 0, .int .i64 0, .int .i64 0, .string ⟨#[]⟩, .string ⟨#[]⟩, .string ⟨#[]⟩, .int .i64 0, .bool false] [.int .i64 0, .string s1, .string s2, .string s3, .string ⟨#[]⟩, .string ⟨#[]⟩, .slice none 0 0, .string ⟨#[]⟩, .int .i64 0, .slice none 0 0, .int .i64 0, .int .i64 0, .string ⟨#[]⟩, .string ⟨#[]⟩, .string ⟨#[]⟩, .int .i64 0, .bool false] := X3.set 3 (.string s3) (by simp); have X3s := Lib.hid X3s; have e1 := lvCmd_row X3s.out.row rfl; have e2 := svCmd_row X3s.out.nr.res rfl rfl (vs := [.int .i64 0, .string s1, .string s2, .string s3, .string ⟨#[]⟩, .string ⟨#[]⟩, .slice none 0 0, .string ⟨#[]⟩, .int .i64 0, .slice none 0 0, .int .i64 0, .int .i64 0, .string ⟨#[]⟩, .string ⟨#[]⟩, .string ⟨#[]⟩, .int .i64 0, .bool false]) (by simp [Value.oneCell']); clear m3 k3 X3))
    have XR := X3s.out.nr.sets (cs := [.int .i64 0, .string s1, .string s2, .string s3, .string ⟨#[]⟩, .string ⟨#[]⟩, .slice none 0 0, .string ⟨#[]⟩, .int .i64 0, .slice none 0 0, .int .i64 0, .int .i64 0, .string ⟨#[]⟩, .string ⟨#[]⟩, .string ⟨#[]⟩, .int .i64 0, .bool false]) rfl
    refine bodyPost_ret (results_cell rfl _ rfl (lv_row (T := 31) Tryz.underlying31 (by kernel_rfl) XR.res rfl)) rfl ?_
    exact ⟨XR.kw, _, rfl, ⟨none, 0, none, 0, rfl, colsN_nil _ _ _ HB.out, namesN_nil _ _ _ HB.out, g1, g2, g3, szZ, szZ, szZ, szZ, szZ, szZ⟩, XR.ds⟩
  · have qk : oneD (fun s => (s, kindB s != 0)) W d = (f, W0, true) := qk
    obtain ⟨s1, W1, d1, q1⟩ : ∃ a c e, nameD W0 true = (a, c, e) := ⟨_, _, _, rfl⟩
    obtain ⟨s2, W2, d2, q2⟩ : ∃ a c e, nameD W1 d1 = (a, c, e) := ⟨_, _, _, rfl⟩
    obtain ⟨s3, W3, d3, q3⟩ : ∃ a c e, nameD W2 d2 = (a, c, e) := ⟨_, _, _, rfl⟩
    have e : cmdD W d = ({ zCmd with kind := 0, actor := s1, schema := s2, table := s3 }, W3, d3) := by
      unfold cmdD
      rw [qk]
      simp [bindD, hk, tailD, q1, q2, q3]
    rw [e]
    have H1 := Lib.hid (lname_at (b := b) (p := p) q1)
    have H2 := Lib.hid (lname_at (b := b) (p := p) q2)
    have H3 := Lib.hid (lname_at (b := b) (p := p) q3)
    clear e hl qk q0 hk q1 q2 q3
    go_enter Tryz.func34, Tryz.ntmps34
    go_wp2_with (first
      | (go_at_call 32; with_reducible refine (H0.out _ HX0.out.ds).mono ?_; rintro e w0 ⟨rfl, g0, l0, k0⟩; have X0 := HX0.out.call k0 l0; have y1 := l0.c1; have y2 := l0.f1; have y3 := l0.lt; have X1 := X0.boxBad true [.int .i64 0, .string ⟨#[]⟩, .string ⟨#[]⟩, .string ⟨#[]⟩, .string ⟨#[]⟩, .string ⟨#[]⟩, .slice none 0 0, .string ⟨#[]⟩, .int .i64 0, .slice none 0 0, .int .i64 0, .int .i64 0, .string ⟨#[]⟩, .string ⟨#[]⟩, .string ⟨#[]⟩, .int .i64 0, .bool false] 31; have z0 := X1.lt; obtain ⟨z00, z01, z02⟩ := z0; have X0s := Lib.hid X1; clear l0 k0 X0 X1)
      | (go_at_call 56; with_reducible refine (HK.out _).mono ?_; rintro e wk ⟨rfl, rfl⟩)
      | (go_at_call 57; with_reducible refine (H1.out _ X0s.out.nr.ds).mono ?_; rintro e w1 ⟨rfl, g1, m1, k1⟩; have X1 := X0s.out.call k1 m1; obtain ⟨ca1, fa1⟩ := X1.cf 1 (by simp); obtain ⟨cb1, fb1⟩ := X1.cf 0 (by simp); have z1 := X1.lt; obtain ⟨z10, z11, z12⟩ := z1; have X1s : Nx b p w.heap.size w0.heap.size w _ _ _ [.int .i64 0, .string ⟨#[]⟩, .string ⟨#[]⟩, .string ⟨#[]⟩, .string ⟨#[]⟩, .string ⟨#[]⟩, .slice none 0 0, .string ⟨#[]⟩, .int .i64 0, .slice none 0 0, .int .i64 0, .int .i64 0, .string ⟨#[]⟩, .string ⟨#[]⟩, .string ⟨#[]⟩, .int .i64 0, .bool false] [.int .i64 0, .string s1, .string ⟨#[]⟩, .string ⟨#[]⟩, .string ⟨#[]⟩, .string ⟨#[]⟩, .slice none 0 0, .string ⟨#[]⟩, .int .i64 0, .slice none 0 0, .int .i64 0, .int .i64 0, .string ⟨#[]⟩, .string ⟨#[]⟩, .string ⟨#[]⟩, .int .i64 0, .bool false] := X1.set 1 (.string s1) (by simp); have X1s := Lib.hid X1s; clear m1 k1 X1)
      | (go_at_call 57; with_reducible refine (H2.out _ X1s.out.nr.ds).mono ?_; rintro e w2 ⟨rfl, g2, m2, k2⟩; have X2 := X1s.out.call k2 m2; obtain ⟨ca2, fa2⟩ := X2.cf 2 (by simp); obtain ⟨cb2, fb2⟩ := X2.cf 0 (by simp); have z2 := X2.lt; obtain ⟨z20, z21, z22⟩ := z2; have X2s : Nx b p w.heap.size w0.heap.size w _ _ _ [.int .i64 0, .string ⟨#[]⟩, .string ⟨#[]⟩, .string ⟨#[]⟩, .string ⟨#[]⟩, .string ⟨#[]⟩, .slice none 0 0, .string ⟨#[]⟩, .int .i64 0, .slice none 0 0, .int .i64 0, .int .i64 0, .string ⟨#[]⟩, .string ⟨#[]⟩, .string ⟨#[]⟩, .int .i64 0, .bool false] [.int .i64 0, .string s1, .string s2, .string ⟨#[]⟩, .string ⟨#[]⟩, .string ⟨#[]⟩, .slice none 0 0, .string ⟨#[]⟩, .int .i64 0, .slice none 0 0, .int .i64 0, .int .i64 0, .string ⟨#[]⟩, .string ⟨#[]⟩, .string ⟨#[]⟩, .int .i64 0, .bool false] := X2.set 2 (.string s2) (by simp); have X2s := Lib.hid X2s; clear m2 k2 X2)
      | (go_at_call 57; with_reducible refine (H3.out _ X2s.out.nr.ds).mono ?_; rintro e w3 ⟨rfl, g3, m3, k3⟩; have X3 := X2s.out.call k3 m3; obtain ⟨ca3, fa3⟩ := X3.cf 3 (by simp); obtain ⟨cb3, fb3⟩ := X3.cf 0 (by simp); have z3 := X3.lt; obtain ⟨z30, z31, z32⟩ := z3; have X3s : Nx b p w.heap.size w0.heap.size w _ _ _ [.int .i64 0, .string ⟨#[]⟩, .string ⟨#[]⟩, .string ⟨#[]⟩, .string ⟨#[]⟩, .string ⟨#[]⟩, .slice none 0 0, .string ⟨#[]⟩, .int .i64 0, .slice none 0 0, .int .i64 0, .int .i64 0, .string ⟨#[]⟩, .string ⟨#[]⟩, .string ⟨#[]⟩, .int .i64 0, .bool false] [.int .i64 0, .string s1, .string s2, .string s3, .string ⟨#[]⟩, .string ⟨#[]⟩, .slice none 0 0, .string ⟨#[]⟩, .int .i64 0, .slice none 0 0, .int .i64 0, .int .i64 0, .string ⟨#[]⟩, .string ⟨#[]⟩, .string ⟨#[]⟩, .int .i64 0, .bool false] := X3.set 3 (.string s3) (by simp); have X3s := Lib.hid X3s; have e1 := lvCmd_row X3s.out.row rfl; have e2 := svCmd_row X3s.out.nr.res rfl rfl (vs := [.int .i64 0, .string s1, .string s2, .string s3, .string ⟨#[]⟩, .string ⟨#[]⟩, .slice none 0 0, .string ⟨#[]⟩, .int .i64 0, .slice none 0 0, .int .i64 0, .int .i64 0, .string ⟨#[]⟩, .string ⟨#[]⟩, .string ⟨#[]⟩, .int .i64 0, .bool false]) (by simp [Value.oneCell']); clear m3 k3 X3))
    have XR := X3s.out.nr.sets (cs := [.int .i64 0, .string s1, .string s2, .string s3, .string ⟨#[]⟩, .string ⟨#[]⟩, .slice none 0 0, .string ⟨#[]⟩, .int .i64 0, .slice none 0 0, .int .i64 0, .int .i64 0, .string ⟨#[]⟩, .string ⟨#[]⟩, .string ⟨#[]⟩, .int .i64 0, .bool false]) rfl
    refine bodyPost_ret (results_cell rfl _ rfl (lv_row (T := 31) Tryz.underlying31 (by kernel_rfl) XR.res rfl)) rfl ?_
    exact ⟨XR.kw, _, rfl, ⟨none, 0, none, 0, rfl, colsN_nil _ _ _ HB.out, namesN_nil _ _ _ HB.out, g1, g2, g3, szZ, szZ, szZ, szZ, szZ, szZ⟩, XR.ds⟩
set_option maxHeartbeats 2000000 in
theorem commandN_1 (f : ByteArray) (W : Ws) (d : Bool) (W0 : Ws) (d0 : Bool) (q0 : wordD W d = (f, W0, d0)) (hk : kindB f = 1) (b p : Nat) (w : World) (hl : LnS w b p W d) : Calls Tryz.prog 34 #[.pointer (some ⟨b, 0, none⟩)] w (RdN b p w (CmdN b w.heap.size) (cmdD W d)) := by
  have H0 := Lib.hid (lword_at (b := b) (p := p) q0)
  have HK := Lib.hid (lkind_at hk)
  have qk := one_kind q0 hk
  have HX0 := Lib.hid (Nr.start hl [.int .i64 0, .string ⟨#[]⟩, .string ⟨#[]⟩, .string ⟨#[]⟩, .string ⟨#[]⟩, .string ⟨#[]⟩, .slice none 0 0, .string ⟨#[]⟩, .int .i64 0, .slice none 0 0, .int .i64 0, .int .i64 0, .string ⟨#[]⟩, .string ⟨#[]⟩, .string ⟨#[]⟩, .int .i64 0, .bool false] 31)
  have hb := hl.lt
  have HB := Lib.hid hb
  cases d0
  · have qk : oneD (fun s => (s, kindB s != 0)) W d = (f, W0, false) := qk
    obtain ⟨s1, W1, d1, q1⟩ : ∃ a c e, nameD W0 false = (a, c, e) := ⟨_, _, _, rfl⟩
    obtain ⟨s2, W2, d2, q2⟩ : ∃ a c e, nameD W1 d1 = (a, c, e) := ⟨_, _, _, rfl⟩
    have e : cmdD W d = ({ zCmd with kind := 1, actor := s1, schema := s2 }, W2, d2) := by
      unfold cmdD
      rw [qk]
      simp [bindD, hk, tailD, q1, q2]
    rw [e]
    have H1 := Lib.hid (lname_at (b := b) (p := p) q1)
    have H2 := Lib.hid (lname_at (b := b) (p := p) q2)
    clear e hl qk q0 hk q1 q2
    go_enter Tryz.func34, Tryz.ntmps34
    go_wp2_with (first
      | (go_at_call 32; with_reducible refine (H0.out _ HX0.out.ds).mono ?_; rintro e w0 ⟨rfl, g0, l0, k0⟩; have X0 := HX0.out.call k0 l0; have y1 := l0.c1; have y2 := l0.f1; have y3 := l0.lt; have X1 := X0.boxBad false [.int .i64 1, .string ⟨#[]⟩, .string ⟨#[]⟩, .string ⟨#[]⟩, .string ⟨#[]⟩, .string ⟨#[]⟩, .slice none 0 0, .string ⟨#[]⟩, .int .i64 0, .slice none 0 0, .int .i64 0, .int .i64 0, .string ⟨#[]⟩, .string ⟨#[]⟩, .string ⟨#[]⟩, .int .i64 0, .bool false] 31; have z0 := X1.lt; obtain ⟨z00, z01, z02⟩ := z0; have X0s := Lib.hid X1; clear l0 k0 X0 X1)
      | (go_at_call 56; with_reducible refine (HK.out _).mono ?_; rintro e wk ⟨rfl, rfl⟩)
      | (go_at_call 57; with_reducible refine (H1.out _ X0s.out.nr.ds).mono ?_; rintro e w1 ⟨rfl, g1, m1, k1⟩; have X1 := X0s.out.call k1 m1; obtain ⟨ca1, fa1⟩ := X1.cf 1 (by simp); obtain ⟨cb1, fb1⟩ := X1.cf 0 (by simp); have z1 := X1.lt; obtain ⟨z10, z11, z12⟩ := z1; have X1s : Nx b p w.heap.size w0.heap.size w _ _ _ [.int .i64 0, .string ⟨#[]⟩, .string ⟨#[]⟩, .string ⟨#[]⟩, .string ⟨#[]⟩, .string ⟨#[]⟩, .slice none 0 0, .string ⟨#[]⟩, .int .i64 0, .slice none 0 0, .int .i64 0, .int .i64 0, .string ⟨#[]⟩, .string ⟨#[]⟩, .string ⟨#[]⟩, .int .i64 0, .bool false] [.int .i64 1, .string s1, .string ⟨#[]⟩, .string ⟨#[]⟩, .string ⟨#[]⟩, .string ⟨#[]⟩, .slice none 0 0, .string ⟨#[]⟩, .int .i64 0, .slice none 0 0, .int .i64 0, .int .i64 0, .string ⟨#[]⟩, .string ⟨#[]⟩, .string ⟨#[]⟩, .int .i64 0, .bool false] := X1.set 1 (.string s1) (by simp); have X1s := Lib.hid X1s; clear m1 k1 X1)
      | (go_at_call 57; with_reducible refine (H2.out _ X1s.out.nr.ds).mono ?_; rintro e w2 ⟨rfl, g2, m2, k2⟩; have X2 := X1s.out.call k2 m2; obtain ⟨ca2, fa2⟩ := X2.cf 2 (by simp); obtain ⟨cb2, fb2⟩ := X2.cf 0 (by simp); have z2 := X2.lt; obtain ⟨z20, z21, z22⟩ := z2; have X2s : Nx b p w.heap.size w0.heap.size w _ _ _ [.int .i64 0, .string ⟨#[]⟩, .string ⟨#[]⟩, .string ⟨#[]⟩, .string ⟨#[]⟩, .string ⟨#[]⟩, .slice none 0 0, .string ⟨#[]⟩, .int .i64 0, .slice none 0 0, .int .i64 0, .int .i64 0, .string ⟨#[]⟩, .string ⟨#[]⟩, .string ⟨#[]⟩, .int .i64 0, .bool false] [.int .i64 1, .string s1, .string s2, .string ⟨#[]⟩, .string ⟨#[]⟩, .string ⟨#[]⟩, .slice none 0 0, .string ⟨#[]⟩, .int .i64 0, .slice none 0 0, .int .i64 0, .int .i64 0, .string ⟨#[]⟩, .string ⟨#[]⟩, .string ⟨#[]⟩, .int .i64 0, .bool false] := X2.set 2 (.string s2) (by simp); have X2s := Lib.hid X2s; have e1 := lvCmd_row X2s.out.row rfl; have e2 := svCmd_row X2s.out.nr.res rfl rfl (vs := [.int .i64 1, .string s1, .string s2, .string ⟨#[]⟩, .string ⟨#[]⟩, .string ⟨#[]⟩, .slice none 0 0, .string ⟨#[]⟩, .int .i64 0, .slice none 0 0, .int .i64 0, .int .i64 0, .string ⟨#[]⟩, .string ⟨#[]⟩, .string ⟨#[]⟩, .int .i64 0, .bool false]) (by simp [Value.oneCell']); clear m2 k2 X2))
    have XR := X2s.out.nr.sets (cs := [.int .i64 1, .string s1, .string s2, .string ⟨#[]⟩, .string ⟨#[]⟩, .string ⟨#[]⟩, .slice none 0 0, .string ⟨#[]⟩, .int .i64 0, .slice none 0 0, .int .i64 0, .int .i64 0, .string ⟨#[]⟩, .string ⟨#[]⟩, .string ⟨#[]⟩, .int .i64 0, .bool false]) rfl
    refine bodyPost_ret (results_cell rfl _ rfl (lv_row (T := 31) Tryz.underlying31 (by kernel_rfl) XR.res rfl)) rfl ?_
    exact ⟨XR.kw, _, rfl, ⟨none, 0, none, 0, rfl, colsN_nil _ _ _ HB.out, namesN_nil _ _ _ HB.out, g1, g2, szZ, szZ, szZ, szZ, szZ, szZ, szZ⟩, XR.ds⟩
  · have qk : oneD (fun s => (s, kindB s != 0)) W d = (f, W0, true) := qk
    obtain ⟨s1, W1, d1, q1⟩ : ∃ a c e, nameD W0 true = (a, c, e) := ⟨_, _, _, rfl⟩
    obtain ⟨s2, W2, d2, q2⟩ : ∃ a c e, nameD W1 d1 = (a, c, e) := ⟨_, _, _, rfl⟩
    have e : cmdD W d = ({ zCmd with kind := 1, actor := s1, schema := s2 }, W2, d2) := by
      unfold cmdD
      rw [qk]
      simp [bindD, hk, tailD, q1, q2]
    rw [e]
    have H1 := Lib.hid (lname_at (b := b) (p := p) q1)
    have H2 := Lib.hid (lname_at (b := b) (p := p) q2)
    clear e hl qk q0 hk q1 q2
    go_enter Tryz.func34, Tryz.ntmps34
    go_wp2_with (first
      | (go_at_call 32; with_reducible refine (H0.out _ HX0.out.ds).mono ?_; rintro e w0 ⟨rfl, g0, l0, k0⟩; have X0 := HX0.out.call k0 l0; have y1 := l0.c1; have y2 := l0.f1; have y3 := l0.lt; have X1 := X0.boxBad true [.int .i64 1, .string ⟨#[]⟩, .string ⟨#[]⟩, .string ⟨#[]⟩, .string ⟨#[]⟩, .string ⟨#[]⟩, .slice none 0 0, .string ⟨#[]⟩, .int .i64 0, .slice none 0 0, .int .i64 0, .int .i64 0, .string ⟨#[]⟩, .string ⟨#[]⟩, .string ⟨#[]⟩, .int .i64 0, .bool false] 31; have z0 := X1.lt; obtain ⟨z00, z01, z02⟩ := z0; have X0s := Lib.hid X1; clear l0 k0 X0 X1)
      | (go_at_call 56; with_reducible refine (HK.out _).mono ?_; rintro e wk ⟨rfl, rfl⟩)
      | (go_at_call 57; with_reducible refine (H1.out _ X0s.out.nr.ds).mono ?_; rintro e w1 ⟨rfl, g1, m1, k1⟩; have X1 := X0s.out.call k1 m1; obtain ⟨ca1, fa1⟩ := X1.cf 1 (by simp); obtain ⟨cb1, fb1⟩ := X1.cf 0 (by simp); have z1 := X1.lt; obtain ⟨z10, z11, z12⟩ := z1; have X1s : Nx b p w.heap.size w0.heap.size w _ _ _ [.int .i64 0, .string ⟨#[]⟩, .string ⟨#[]⟩, .string ⟨#[]⟩, .string ⟨#[]⟩, .string ⟨#[]⟩, .slice none 0 0, .string ⟨#[]⟩, .int .i64 0, .slice none 0 0, .int .i64 0, .int .i64 0, .string ⟨#[]⟩, .string ⟨#[]⟩, .string ⟨#[]⟩, .int .i64 0, .bool false] [.int .i64 1, .string s1, .string ⟨#[]⟩, .string ⟨#[]⟩, .string ⟨#[]⟩, .string ⟨#[]⟩, .slice none 0 0, .string ⟨#[]⟩, .int .i64 0, .slice none 0 0, .int .i64 0, .int .i64 0, .string ⟨#[]⟩, .string ⟨#[]⟩, .string ⟨#[]⟩, .int .i64 0, .bool false] := X1.set 1 (.string s1) (by simp); have X1s := Lib.hid X1s; clear m1 k1 X1)
      | (go_at_call 57; with_reducible refine (H2.out _ X1s.out.nr.ds).mono ?_; rintro e w2 ⟨rfl, g2, m2, k2⟩; have X2 := X1s.out.call k2 m2; obtain ⟨ca2, fa2⟩ := X2.cf 2 (by simp); obtain ⟨cb2, fb2⟩ := X2.cf 0 (by simp); have z2 := X2.lt; obtain ⟨z20, z21, z22⟩ := z2; have X2s : Nx b p w.heap.size w0.heap.size w _ _ _ [.int .i64 0, .string ⟨#[]⟩, .string ⟨#[]⟩, .string ⟨#[]⟩, .string ⟨#[]⟩, .string ⟨#[]⟩, .slice none 0 0, .string ⟨#[]⟩, .int .i64 0, .slice none 0 0, .int .i64 0, .int .i64 0, .string ⟨#[]⟩, .string ⟨#[]⟩, .string ⟨#[]⟩, .int .i64 0, .bool false] [.int .i64 1, .string s1, .string s2, .string ⟨#[]⟩, .string ⟨#[]⟩, .string ⟨#[]⟩, .slice none 0 0, .string ⟨#[]⟩, .int .i64 0, .slice none 0 0, .int .i64 0, .int .i64 0, .string ⟨#[]⟩, .string ⟨#[]⟩, .string ⟨#[]⟩, .int .i64 0, .bool false] := X2.set 2 (.string s2) (by simp); have X2s := Lib.hid X2s; have e1 := lvCmd_row X2s.out.row rfl; have e2 := svCmd_row X2s.out.nr.res rfl rfl (vs := [.int .i64 1, .string s1, .string s2, .string ⟨#[]⟩, .string ⟨#[]⟩, .string ⟨#[]⟩, .slice none 0 0, .string ⟨#[]⟩, .int .i64 0, .slice none 0 0, .int .i64 0, .int .i64 0, .string ⟨#[]⟩, .string ⟨#[]⟩, .string ⟨#[]⟩, .int .i64 0, .bool false]) (by simp [Value.oneCell']); clear m2 k2 X2))
    have XR := X2s.out.nr.sets (cs := [.int .i64 1, .string s1, .string s2, .string ⟨#[]⟩, .string ⟨#[]⟩, .string ⟨#[]⟩, .slice none 0 0, .string ⟨#[]⟩, .int .i64 0, .slice none 0 0, .int .i64 0, .int .i64 0, .string ⟨#[]⟩, .string ⟨#[]⟩, .string ⟨#[]⟩, .int .i64 0, .bool false]) rfl
    refine bodyPost_ret (results_cell rfl _ rfl (lv_row (T := 31) Tryz.underlying31 (by kernel_rfl) XR.res rfl)) rfl ?_
    exact ⟨XR.kw, _, rfl, ⟨none, 0, none, 0, rfl, colsN_nil _ _ _ HB.out, namesN_nil _ _ _ HB.out, g1, g2, szZ, szZ, szZ, szZ, szZ, szZ, szZ⟩, XR.ds⟩
set_option maxHeartbeats 2000000 in
theorem commandN_2 (f : ByteArray) (W : Ws) (d : Bool) (W0 : Ws) (d0 : Bool) (q0 : wordD W d = (f, W0, d0)) (hk : kindB f = 2) (b p : Nat) (w : World) (hl : LnS w b p W d) : Calls Tryz.prog 34 #[.pointer (some ⟨b, 0, none⟩)] w (RdN b p w (CmdN b w.heap.size) (cmdD W d)) := by
  have H0 := Lib.hid (lword_at (b := b) (p := p) q0)
  have HK := Lib.hid (lkind_at hk)
  have qk := one_kind q0 hk
  have HX0 := Lib.hid (Nr.start hl [.int .i64 0, .string ⟨#[]⟩, .string ⟨#[]⟩, .string ⟨#[]⟩, .string ⟨#[]⟩, .string ⟨#[]⟩, .slice none 0 0, .string ⟨#[]⟩, .int .i64 0, .slice none 0 0, .int .i64 0, .int .i64 0, .string ⟨#[]⟩, .string ⟨#[]⟩, .string ⟨#[]⟩, .int .i64 0, .bool false] 31)
  have hb := hl.lt
  have HB := Lib.hid hb
  cases d0
  · have qk : oneD (fun s => (s, kindB s != 0)) W d = (f, W0, false) := qk
    obtain ⟨s1, W1, d1, q1⟩ : ∃ a c e, nameD W0 false = (a, c, e) := ⟨_, _, _, rfl⟩
    obtain ⟨s2, W2, d2, q2⟩ : ∃ a c e, nameD W1 d1 = (a, c, e) := ⟨_, _, _, rfl⟩
    have e : cmdD W d = ({ zCmd with kind := 2, actor := s1, schema := s2 }, W2, d2) := by
      unfold cmdD
      rw [qk]
      simp [bindD, hk, tailD, q1, q2]
    rw [e]
    have H1 := Lib.hid (lname_at (b := b) (p := p) q1)
    have H2 := Lib.hid (lname_at (b := b) (p := p) q2)
    clear e hl qk q0 hk q1 q2
    go_enter Tryz.func34, Tryz.ntmps34
    go_wp2_with (first
      | (go_at_call 32; with_reducible refine (H0.out _ HX0.out.ds).mono ?_; rintro e w0 ⟨rfl, g0, l0, k0⟩; have X0 := HX0.out.call k0 l0; have y1 := l0.c1; have y2 := l0.f1; have y3 := l0.lt; have X1 := X0.boxBad false [.int .i64 2, .string ⟨#[]⟩, .string ⟨#[]⟩, .string ⟨#[]⟩, .string ⟨#[]⟩, .string ⟨#[]⟩, .slice none 0 0, .string ⟨#[]⟩, .int .i64 0, .slice none 0 0, .int .i64 0, .int .i64 0, .string ⟨#[]⟩, .string ⟨#[]⟩, .string ⟨#[]⟩, .int .i64 0, .bool false] 31; have z0 := X1.lt; obtain ⟨z00, z01, z02⟩ := z0; have X0s := Lib.hid X1; clear l0 k0 X0 X1)
      | (go_at_call 56; with_reducible refine (HK.out _).mono ?_; rintro e wk ⟨rfl, rfl⟩)
      | (go_at_call 57; with_reducible refine (H1.out _ X0s.out.nr.ds).mono ?_; rintro e w1 ⟨rfl, g1, m1, k1⟩; have X1 := X0s.out.call k1 m1; obtain ⟨ca1, fa1⟩ := X1.cf 1 (by simp); obtain ⟨cb1, fb1⟩ := X1.cf 0 (by simp); have z1 := X1.lt; obtain ⟨z10, z11, z12⟩ := z1; have X1s : Nx b p w.heap.size w0.heap.size w _ _ _ [.int .i64 0, .string ⟨#[]⟩, .string ⟨#[]⟩, .string ⟨#[]⟩, .string ⟨#[]⟩, .string ⟨#[]⟩, .slice none 0 0, .string ⟨#[]⟩, .int .i64 0, .slice none 0 0, .int .i64 0, .int .i64 0, .string ⟨#[]⟩, .string ⟨#[]⟩, .string ⟨#[]⟩, .int .i64 0, .bool false] [.int .i64 2, .string s1, .string ⟨#[]⟩, .string ⟨#[]⟩, .string ⟨#[]⟩, .string ⟨#[]⟩, .slice none 0 0, .string ⟨#[]⟩, .int .i64 0, .slice none 0 0, .int .i64 0, .int .i64 0, .string ⟨#[]⟩, .string ⟨#[]⟩, .string ⟨#[]⟩, .int .i64 0, .bool false] := X1.set 1 (.string s1) (by simp); have X1s := Lib.hid X1s; clear m1 k1 X1)
      | (go_at_call 57; with_reducible refine (H2.out _ X1s.out.nr.ds).mono ?_; rintro e w2 ⟨rfl, g2, m2, k2⟩; have X2 := X1s.out.call k2 m2; obtain ⟨ca2, fa2⟩ := X2.cf 2 (by simp); obtain ⟨cb2, fb2⟩ := X2.cf 0 (by simp); have z2 := X2.lt; obtain ⟨z20, z21, z22⟩ := z2; have X2s : Nx b p w.heap.size w0.heap.size w _ _ _ [.int .i64 0, .string ⟨#[]⟩, .string ⟨#[]⟩, .string ⟨#[]⟩, .string ⟨#[]⟩, .string ⟨#[]⟩, .slice none 0 0, .string ⟨#[]⟩, .int .i64 0, .slice none 0 0, .int .i64 0, .int .i64 0, .string ⟨#[]⟩, .string ⟨#[]⟩, .string ⟨#[]⟩, .int .i64 0, .bool false] [.int .i64 2, .string s1, .string s2, .string ⟨#[]⟩, .string ⟨#[]⟩, .string ⟨#[]⟩, .slice none 0 0, .string ⟨#[]⟩, .int .i64 0, .slice none 0 0, .int .i64 0, .int .i64 0, .string ⟨#[]⟩, .string ⟨#[]⟩, .string ⟨#[]⟩, .int .i64 0, .bool false] := X2.set 2 (.string s2) (by simp); have X2s := Lib.hid X2s; have e1 := lvCmd_row X2s.out.row rfl; have e2 := svCmd_row X2s.out.nr.res rfl rfl (vs := [.int .i64 2, .string s1, .string s2, .string ⟨#[]⟩, .string ⟨#[]⟩, .string ⟨#[]⟩, .slice none 0 0, .string ⟨#[]⟩, .int .i64 0, .slice none 0 0, .int .i64 0, .int .i64 0, .string ⟨#[]⟩, .string ⟨#[]⟩, .string ⟨#[]⟩, .int .i64 0, .bool false]) (by simp [Value.oneCell']); clear m2 k2 X2))
    have XR := X2s.out.nr.sets (cs := [.int .i64 2, .string s1, .string s2, .string ⟨#[]⟩, .string ⟨#[]⟩, .string ⟨#[]⟩, .slice none 0 0, .string ⟨#[]⟩, .int .i64 0, .slice none 0 0, .int .i64 0, .int .i64 0, .string ⟨#[]⟩, .string ⟨#[]⟩, .string ⟨#[]⟩, .int .i64 0, .bool false]) rfl
    refine bodyPost_ret (results_cell rfl _ rfl (lv_row (T := 31) Tryz.underlying31 (by kernel_rfl) XR.res rfl)) rfl ?_
    exact ⟨XR.kw, _, rfl, ⟨none, 0, none, 0, rfl, colsN_nil _ _ _ HB.out, namesN_nil _ _ _ HB.out, g1, g2, szZ, szZ, szZ, szZ, szZ, szZ, szZ⟩, XR.ds⟩
  · have qk : oneD (fun s => (s, kindB s != 0)) W d = (f, W0, true) := qk
    obtain ⟨s1, W1, d1, q1⟩ : ∃ a c e, nameD W0 true = (a, c, e) := ⟨_, _, _, rfl⟩
    obtain ⟨s2, W2, d2, q2⟩ : ∃ a c e, nameD W1 d1 = (a, c, e) := ⟨_, _, _, rfl⟩
    have e : cmdD W d = ({ zCmd with kind := 2, actor := s1, schema := s2 }, W2, d2) := by
      unfold cmdD
      rw [qk]
      simp [bindD, hk, tailD, q1, q2]
    rw [e]
    have H1 := Lib.hid (lname_at (b := b) (p := p) q1)
    have H2 := Lib.hid (lname_at (b := b) (p := p) q2)
    clear e hl qk q0 hk q1 q2
    go_enter Tryz.func34, Tryz.ntmps34
    go_wp2_with (first
      | (go_at_call 32; with_reducible refine (H0.out _ HX0.out.ds).mono ?_; rintro e w0 ⟨rfl, g0, l0, k0⟩; have X0 := HX0.out.call k0 l0; have y1 := l0.c1; have y2 := l0.f1; have y3 := l0.lt; have X1 := X0.boxBad true [.int .i64 2, .string ⟨#[]⟩, .string ⟨#[]⟩, .string ⟨#[]⟩, .string ⟨#[]⟩, .string ⟨#[]⟩, .slice none 0 0, .string ⟨#[]⟩, .int .i64 0, .slice none 0 0, .int .i64 0, .int .i64 0, .string ⟨#[]⟩, .string ⟨#[]⟩, .string ⟨#[]⟩, .int .i64 0, .bool false] 31; have z0 := X1.lt; obtain ⟨z00, z01, z02⟩ := z0; have X0s := Lib.hid X1; clear l0 k0 X0 X1)
      | (go_at_call 56; with_reducible refine (HK.out _).mono ?_; rintro e wk ⟨rfl, rfl⟩)
      | (go_at_call 57; with_reducible refine (H1.out _ X0s.out.nr.ds).mono ?_; rintro e w1 ⟨rfl, g1, m1, k1⟩; have X1 := X0s.out.call k1 m1; obtain ⟨ca1, fa1⟩ := X1.cf 1 (by simp); obtain ⟨cb1, fb1⟩ := X1.cf 0 (by simp); have z1 := X1.lt; obtain ⟨z10, z11, z12⟩ := z1; have X1s : Nx b p w.heap.size w0.heap.size w _ _ _ [.int .i64 0, .string ⟨#[]⟩, .string ⟨#[]⟩, .string ⟨#[]⟩, .string ⟨#[]⟩, .string ⟨#[]⟩, .slice none 0 0, .string ⟨#[]⟩, .int .i64 0, .slice none 0 0, .int .i64 0, .int .i64 0, .string ⟨#[]⟩, .string ⟨#[]⟩, .string ⟨#[]⟩, .int .i64 0, .bool false] [.int .i64 2, .string s1, .string ⟨#[]⟩, .string ⟨#[]⟩, .string ⟨#[]⟩, .string ⟨#[]⟩, .slice none 0 0, .string ⟨#[]⟩, .int .i64 0, .slice none 0 0, .int .i64 0, .int .i64 0, .string ⟨#[]⟩, .string ⟨#[]⟩, .string ⟨#[]⟩, .int .i64 0, .bool false] := X1.set 1 (.string s1) (by simp); have X1s := Lib.hid X1s; clear m1 k1 X1)
      | (go_at_call 57; with_reducible refine (H2.out _ X1s.out.nr.ds).mono ?_; rintro e w2 ⟨rfl, g2, m2, k2⟩; have X2 := X1s.out.call k2 m2; obtain ⟨ca2, fa2⟩ := X2.cf 2 (by simp); obtain ⟨cb2, fb2⟩ := X2.cf 0 (by simp); have z2 := X2.lt; obtain ⟨z20, z21, z22⟩ := z2; have X2s : Nx b p w.heap.size w0.heap.size w _ _ _ [.int .i64 0, .string ⟨#[]⟩, .string ⟨#[]⟩, .string ⟨#[]⟩, .string ⟨#[]⟩, .string ⟨#[]⟩, .slice none 0 0, .string ⟨#[]⟩, .int .i64 0, .slice none 0 0, .int .i64 0, .int .i64 0, .string ⟨#[]⟩, .string ⟨#[]⟩, .string ⟨#[]⟩, .int .i64 0, .bool false] [.int .i64 2, .string s1, .string s2, .string ⟨#[]⟩, .string ⟨#[]⟩, .string ⟨#[]⟩, .slice none 0 0, .string ⟨#[]⟩, .int .i64 0, .slice none 0 0, .int .i64 0, .int .i64 0, .string ⟨#[]⟩, .string ⟨#[]⟩, .string ⟨#[]⟩, .int .i64 0, .bool false] := X2.set 2 (.string s2) (by simp); have X2s := Lib.hid X2s; have e1 := lvCmd_row X2s.out.row rfl; have e2 := svCmd_row X2s.out.nr.res rfl rfl (vs := [.int .i64 2, .string s1, .string s2, .string ⟨#[]⟩, .string ⟨#[]⟩, .string ⟨#[]⟩, .slice none 0 0, .string ⟨#[]⟩, .int .i64 0, .slice none 0 0, .int .i64 0, .int .i64 0, .string ⟨#[]⟩, .string ⟨#[]⟩, .string ⟨#[]⟩, .int .i64 0, .bool false]) (by simp [Value.oneCell']); clear m2 k2 X2))
    have XR := X2s.out.nr.sets (cs := [.int .i64 2, .string s1, .string s2, .string ⟨#[]⟩, .string ⟨#[]⟩, .string ⟨#[]⟩, .slice none 0 0, .string ⟨#[]⟩, .int .i64 0, .slice none 0 0, .int .i64 0, .int .i64 0, .string ⟨#[]⟩, .string ⟨#[]⟩, .string ⟨#[]⟩, .int .i64 0, .bool false]) rfl
    refine bodyPost_ret (results_cell rfl _ rfl (lv_row (T := 31) Tryz.underlying31 (by kernel_rfl) XR.res rfl)) rfl ?_
    exact ⟨XR.kw, _, rfl, ⟨none, 0, none, 0, rfl, colsN_nil _ _ _ HB.out, namesN_nil _ _ _ HB.out, g1, g2, szZ, szZ, szZ, szZ, szZ, szZ, szZ⟩, XR.ds⟩
set_option maxHeartbeats 2000000 in
theorem commandN_4 (f : ByteArray) (W : Ws) (d : Bool) (W0 : Ws) (d0 : Bool) (q0 : wordD W d = (f, W0, d0)) (hk : kindB f = 4) (b p : Nat) (w : World) (hl : LnS w b p W d) : Calls Tryz.prog 34 #[.pointer (some ⟨b, 0, none⟩)] w (RdN b p w (CmdN b w.heap.size) (cmdD W d)) := by
  have H0 := Lib.hid (lword_at (b := b) (p := p) q0)
  have HK := Lib.hid (lkind_at hk)
  have qk := one_kind q0 hk
  have HX0 := Lib.hid (Nr.start hl [.int .i64 0, .string ⟨#[]⟩, .string ⟨#[]⟩, .string ⟨#[]⟩, .string ⟨#[]⟩, .string ⟨#[]⟩, .slice none 0 0, .string ⟨#[]⟩, .int .i64 0, .slice none 0 0, .int .i64 0, .int .i64 0, .string ⟨#[]⟩, .string ⟨#[]⟩, .string ⟨#[]⟩, .int .i64 0, .bool false] 31)
  have hb := hl.lt
  have HB := Lib.hid hb
  cases d0
  · have qk : oneD (fun s => (s, kindB s != 0)) W d = (f, W0, false) := qk
    obtain ⟨s1, W1, d1, q1⟩ : ∃ a c e, nameD W0 false = (a, c, e) := ⟨_, _, _, rfl⟩
    obtain ⟨s2, W2, d2, q2⟩ : ∃ a c e, nameD W1 d1 = (a, c, e) := ⟨_, _, _, rfl⟩
    obtain ⟨s3, W3, d3, q3⟩ : ∃ a c e, nameD W2 d2 = (a, c, e) := ⟨_, _, _, rfl⟩
    have e : cmdD W d = ({ zCmd with kind := 4, actor := s1, schema := s2, table := s3 }, W3, d3) := by
      unfold cmdD
      rw [qk]
      simp [bindD, hk, tailD, q1, q2, q3]
    rw [e]
    have H1 := Lib.hid (lname_at (b := b) (p := p) q1)
    have H2 := Lib.hid (lname_at (b := b) (p := p) q2)
    have H3 := Lib.hid (lname_at (b := b) (p := p) q3)
    clear e hl qk q0 hk q1 q2 q3
    go_enter Tryz.func34, Tryz.ntmps34
    go_wp2_with (first
      | (go_at_call 32; with_reducible refine (H0.out _ HX0.out.ds).mono ?_; rintro e w0 ⟨rfl, g0, l0, k0⟩; have X0 := HX0.out.call k0 l0; have y1 := l0.c1; have y2 := l0.f1; have y3 := l0.lt; have X1 := X0.boxBad false [.int .i64 4, .string ⟨#[]⟩, .string ⟨#[]⟩, .string ⟨#[]⟩, .string ⟨#[]⟩, .string ⟨#[]⟩, .slice none 0 0, .string ⟨#[]⟩, .int .i64 0, .slice none 0 0, .int .i64 0, .int .i64 0, .string ⟨#[]⟩, .string ⟨#[]⟩, .string ⟨#[]⟩, .int .i64 0, .bool false] 31; have z0 := X1.lt; obtain ⟨z00, z01, z02⟩ := z0; have X0s := Lib.hid X1; clear l0 k0 X0 X1)
      | (go_at_call 56; with_reducible refine (HK.out _).mono ?_; rintro e wk ⟨rfl, rfl⟩)
      | (go_at_call 57; with_reducible refine (H1.out _ X0s.out.nr.ds).mono ?_; rintro e w1 ⟨rfl, g1, m1, k1⟩; have X1 := X0s.out.call k1 m1; obtain ⟨ca1, fa1⟩ := X1.cf 1 (by simp); obtain ⟨cb1, fb1⟩ := X1.cf 0 (by simp); have z1 := X1.lt; obtain ⟨z10, z11, z12⟩ := z1; have X1s : Nx b p w.heap.size w0.heap.size w _ _ _ [.int .i64 0, .string ⟨#[]⟩, .string ⟨#[]⟩, .string ⟨#[]⟩, .string ⟨#[]⟩, .string ⟨#[]⟩, .slice none 0 0, .string ⟨#[]⟩, .int .i64 0, .slice none 0 0, .int .i64 0, .int .i64 0, .string ⟨#[]⟩, .string ⟨#[]⟩, .string ⟨#[]⟩, .int .i64 0, .bool false] [.int .i64 4, .string s1, .string ⟨#[]⟩, .string ⟨#[]⟩, .string ⟨#[]⟩, .string ⟨#[]⟩, .slice none 0 0, .string ⟨#[]⟩, .int .i64 0, .slice none 0 0, .int .i64 0, .int .i64 0, .string ⟨#[]⟩, .string ⟨#[]⟩, .string ⟨#[]⟩, .int .i64 0, .bool false] := X1.set 1 (.string s1) (by simp); have X1s := Lib.hid X1s; clear m1 k1 X1)
      | (go_at_call 57; with_reducible refine (H2.out _ X1s.out.nr.ds).mono ?_; rintro e w2 ⟨rfl, g2, m2, k2⟩; have X2 := X1s.out.call k2 m2; obtain ⟨ca2, fa2⟩ := X2.cf 2 (by simp); obtain ⟨cb2, fb2⟩ := X2.cf 0 (by simp); have z2 := X2.lt; obtain ⟨z20, z21, z22⟩ := z2; have X2s : Nx b p w.heap.size w0.heap.size w _ _ _ [.int .i64 0, .string ⟨#[]⟩, .string ⟨#[]⟩, .string ⟨#[]⟩, .string ⟨#[]⟩, .string ⟨#[]⟩, .slice none 0 0, .string ⟨#[]⟩, .int .i64 0, .slice none 0 0, .int .i64 0, .int .i64 0, .string ⟨#[]⟩, .string ⟨#[]⟩, .string ⟨#[]⟩, .int .i64 0, .bool false] [.int .i64 4, .string s1, .string s2, .string ⟨#[]⟩, .string ⟨#[]⟩, .string ⟨#[]⟩, .slice none 0 0, .string ⟨#[]⟩, .int .i64 0, .slice none 0 0, .int .i64 0, .int .i64 0, .string ⟨#[]⟩, .string ⟨#[]⟩, .string ⟨#[]⟩, .int .i64 0, .bool false] := X2.set 2 (.string s2) (by simp); have X2s := Lib.hid X2s; clear m2 k2 X2)
      | (go_at_call 57; with_reducible refine (H3.out _ X2s.out.nr.ds).mono ?_; rintro e w3 ⟨rfl, g3, m3, k3⟩; have X3 := X2s.out.call k3 m3; obtain ⟨ca3, fa3⟩ := X3.cf 3 (by simp); obtain ⟨cb3, fb3⟩ := X3.cf 0 (by simp); have z3 := X3.lt; obtain ⟨z30, z31, z32⟩ := z3; have X3s : Nx b p w.heap.size w0.heap.size w _ _ _ [.int .i64 0, .string ⟨#[]⟩, .string ⟨#[]⟩, .string ⟨#[]⟩, .string ⟨#[]⟩, .string ⟨#[]⟩, .slice none 0 0, .string ⟨#[]⟩, .int .i64 0, .slice none 0 0, .int .i64 0, .int .i64 0, .string ⟨#[]⟩, .string ⟨#[]⟩, .string ⟨#[]⟩, .int .i64 0, .bool false] [.int .i64 4, .string s1, .string s2, .string s3, .string ⟨#[]⟩, .string ⟨#[]⟩, .slice none 0 0, .string ⟨#[]⟩, .int .i64 0, .slice none 0 0, .int .i64 0, .int .i64 0, .string ⟨#[]⟩, .string ⟨#[]⟩, .string ⟨#[]⟩, .int .i64 0, .bool false] := X3.set 3 (.string s3) (by simp); have X3s := Lib.hid X3s; have e1 := lvCmd_row X3s.out.row rfl; have e2 := svCmd_row X3s.out.nr.res rfl rfl (vs := [.int .i64 4, .string s1, .string s2, .string s3, .string ⟨#[]⟩, .string ⟨#[]⟩, .slice none 0 0, .string ⟨#[]⟩, .int .i64 0, .slice none 0 0, .int .i64 0, .int .i64 0, .string ⟨#[]⟩, .string ⟨#[]⟩, .string ⟨#[]⟩, .int .i64 0, .bool false]) (by simp [Value.oneCell']); clear m3 k3 X3))
    have XR := X3s.out.nr.sets (cs := [.int .i64 4, .string s1, .string s2, .string s3, .string ⟨#[]⟩, .string ⟨#[]⟩, .slice none 0 0, .string ⟨#[]⟩, .int .i64 0, .slice none 0 0, .int .i64 0, .int .i64 0, .string ⟨#[]⟩, .string ⟨#[]⟩, .string ⟨#[]⟩, .int .i64 0, .bool false]) rfl
    refine bodyPost_ret (results_cell rfl _ rfl (lv_row (T := 31) Tryz.underlying31 (by kernel_rfl) XR.res rfl)) rfl ?_
    exact ⟨XR.kw, _, rfl, ⟨none, 0, none, 0, rfl, colsN_nil _ _ _ HB.out, namesN_nil _ _ _ HB.out, g1, g2, g3, szZ, szZ, szZ, szZ, szZ, szZ⟩, XR.ds⟩
  · have qk : oneD (fun s => (s, kindB s != 0)) W d = (f, W0, true) := qk
    obtain ⟨s1, W1, d1, q1⟩ : ∃ a c e, nameD W0 true = (a, c, e) := ⟨_, _, _, rfl⟩
    obtain ⟨s2, W2, d2, q2⟩ : ∃ a c e, nameD W1 d1 = (a, c, e) := ⟨_, _, _, rfl⟩
    obtain ⟨s3, W3, d3, q3⟩ : ∃ a c e, nameD W2 d2 = (a, c, e) := ⟨_, _, _, rfl⟩
    have e : cmdD W d = ({ zCmd with kind := 4, actor := s1, schema := s2, table := s3 }, W3, d3) := by
      unfold cmdD
      rw [qk]
      simp [bindD, hk, tailD, q1, q2, q3]
    rw [e]
    have H1 := Lib.hid (lname_at (b := b) (p := p) q1)
    have H2 := Lib.hid (lname_at (b := b) (p := p) q2)
    have H3 := Lib.hid (lname_at (b := b) (p := p) q3)
    clear e hl qk q0 hk q1 q2 q3
    go_enter Tryz.func34, Tryz.ntmps34
    go_wp2_with (first
      | (go_at_call 32; with_reducible refine (H0.out _ HX0.out.ds).mono ?_; rintro e w0 ⟨rfl, g0, l0, k0⟩; have X0 := HX0.out.call k0 l0; have y1 := l0.c1; have y2 := l0.f1; have y3 := l0.lt; have X1 := X0.boxBad true [.int .i64 4, .string ⟨#[]⟩, .string ⟨#[]⟩, .string ⟨#[]⟩, .string ⟨#[]⟩, .string ⟨#[]⟩, .slice none 0 0, .string ⟨#[]⟩, .int .i64 0, .slice none 0 0, .int .i64 0, .int .i64 0, .string ⟨#[]⟩, .string ⟨#[]⟩, .string ⟨#[]⟩, .int .i64 0, .bool false] 31; have z0 := X1.lt; obtain ⟨z00, z01, z02⟩ := z0; have X0s := Lib.hid X1; clear l0 k0 X0 X1)
      | (go_at_call 56; with_reducible refine (HK.out _).mono ?_; rintro e wk ⟨rfl, rfl⟩)
      | (go_at_call 57; with_reducible refine (H1.out _ X0s.out.nr.ds).mono ?_; rintro e w1 ⟨rfl, g1, m1, k1⟩; have X1 := X0s.out.call k1 m1; obtain ⟨ca1, fa1⟩ := X1.cf 1 (by simp); obtain ⟨cb1, fb1⟩ := X1.cf 0 (by simp); have z1 := X1.lt; obtain ⟨z10, z11, z12⟩ := z1; have X1s : Nx b p w.heap.size w0.heap.size w _ _ _ [.int .i64 0, .string ⟨#[]⟩, .string ⟨#[]⟩, .string ⟨#[]⟩, .string ⟨#[]⟩, .string ⟨#[]⟩, .slice none 0 0, .string ⟨#[]⟩, .int .i64 0, .slice none 0 0, .int .i64 0, .int .i64 0, .string ⟨#[]⟩, .string ⟨#[]⟩, .string ⟨#[]⟩, .int .i64 0, .bool false] [.int .i64 4, .string s1, .string ⟨#[]⟩, .string ⟨#[]⟩, .string ⟨#[]⟩, .string ⟨#[]⟩, .slice none 0 0, .string ⟨#[]⟩, .int .i64 0, .slice none 0 0, .int .i64 0, .int .i64 0, .string ⟨#[]⟩, .string ⟨#[]⟩, .string ⟨#[]⟩, .int .i64 0, .bool false] := X1.set 1 (.string s1) (by simp); have X1s := Lib.hid X1s; clear m1 k1 X1)
      | (go_at_call 57; with_reducible refine (H2.out _ X1s.out.nr.ds).mono ?_; rintro e w2 ⟨rfl, g2, m2, k2⟩; have X2 := X1s.out.call k2 m2; obtain ⟨ca2, fa2⟩ := X2.cf 2 (by simp); obtain ⟨cb2, fb2⟩ := X2.cf 0 (by simp); have z2 := X2.lt; obtain ⟨z20, z21, z22⟩ := z2; have X2s : Nx b p w.heap.size w0.heap.size w _ _ _ [.int .i64 0, .string ⟨#[]⟩, .string ⟨#[]⟩, .string ⟨#[]⟩, .string ⟨#[]⟩, .string ⟨#[]⟩, .slice none 0 0, .string ⟨#[]⟩, .int .i64 0, .slice none 0 0, .int .i64 0, .int .i64 0, .string ⟨#[]⟩, .string ⟨#[]⟩, .string ⟨#[]⟩, .int .i64 0, .bool false] [.int .i64 4, .string s1, .string s2, .string ⟨#[]⟩, .string ⟨#[]⟩, .string ⟨#[]⟩, .slice none 0 0, .string ⟨#[]⟩, .int .i64 0, .slice none 0 0, .int .i64 0, .int .i64 0, .string ⟨#[]⟩, .string ⟨#[]⟩, .string ⟨#[]⟩, .int .i64 0, .bool false] := X2.set 2 (.string s2) (by simp); have X2s := Lib.hid X2s; clear m2 k2 X2)
      | (go_at_call 57; with_reducible refine (H3.out _ X2s.out.nr.ds).mono ?_; rintro e w3 ⟨rfl, g3, m3, k3⟩; have X3 := X2s.out.call k3 m3; obtain ⟨ca3, fa3⟩ := X3.cf 3 (by simp); obtain ⟨cb3, fb3⟩ := X3.cf 0 (by simp); have z3 := X3.lt; obtain ⟨z30, z31, z32⟩ := z3; have X3s : Nx b p w.heap.size w0.heap.size w _ _ _ [.int .i64 0, .string ⟨#[]⟩, .string ⟨#[]⟩, .string ⟨#[]⟩, .string ⟨#[]⟩, .string ⟨#[]⟩, .slice none 0 0, .string ⟨#[]⟩, .int .i64 0, .slice none 0 0, .int .i64 0, .int .i64 0, .string ⟨#[]⟩, .string ⟨#[]⟩, .string ⟨#[]⟩, .int .i64 0, .bool false] [.int .i64 4, .string s1, .string s2, .string s3, .string ⟨#[]⟩, .string ⟨#[]⟩, .slice none 0 0, .string ⟨#[]⟩, .int .i64 0, .slice none 0 0, .int .i64 0, .int .i64 0, .string ⟨#[]⟩, .string ⟨#[]⟩, .string ⟨#[]⟩, .int .i64 0, .bool false] := X3.set 3 (.string s3) (by simp); have X3s := Lib.hid X3s; have e1 := lvCmd_row X3s.out.row rfl; have e2 := svCmd_row X3s.out.nr.res rfl rfl (vs := [.int .i64 4, .string s1, .string s2, .string s3, .string ⟨#[]⟩, .string ⟨#[]⟩, .slice none 0 0, .string ⟨#[]⟩, .int .i64 0, .slice none 0 0, .int .i64 0, .int .i64 0, .string ⟨#[]⟩, .string ⟨#[]⟩, .string ⟨#[]⟩, .int .i64 0, .bool false]) (by simp [Value.oneCell']); clear m3 k3 X3))
    have XR := X3s.out.nr.sets (cs := [.int .i64 4, .string s1, .string s2, .string s3, .string ⟨#[]⟩, .string ⟨#[]⟩, .slice none 0 0, .string ⟨#[]⟩, .int .i64 0, .slice none 0 0, .int .i64 0, .int .i64 0, .string ⟨#[]⟩, .string ⟨#[]⟩, .string ⟨#[]⟩, .int .i64 0, .bool false]) rfl
    refine bodyPost_ret (results_cell rfl _ rfl (lv_row (T := 31) Tryz.underlying31 (by kernel_rfl) XR.res rfl)) rfl ?_
    exact ⟨XR.kw, _, rfl, ⟨none, 0, none, 0, rfl, colsN_nil _ _ _ HB.out, namesN_nil _ _ _ HB.out, g1, g2, g3, szZ, szZ, szZ, szZ, szZ, szZ⟩, XR.ds⟩
set_option maxHeartbeats 2000000 in
theorem commandN_6 (f : ByteArray) (W : Ws) (d : Bool) (W0 : Ws) (d0 : Bool) (q0 : wordD W d = (f, W0, d0)) (hk : kindB f = 6) (b p : Nat) (w : World) (hl : LnS w b p W d) : Calls Tryz.prog 34 #[.pointer (some ⟨b, 0, none⟩)] w (RdN b p w (CmdN b w.heap.size) (cmdD W d)) := by
  have H0 := Lib.hid (lword_at (b := b) (p := p) q0)
  have HK := Lib.hid (lkind_at hk)
  have qk := one_kind q0 hk
  have HX0 := Lib.hid (Nr.start hl [.int .i64 0, .string ⟨#[]⟩, .string ⟨#[]⟩, .string ⟨#[]⟩, .string ⟨#[]⟩, .string ⟨#[]⟩, .slice none 0 0, .string ⟨#[]⟩, .int .i64 0, .slice none 0 0, .int .i64 0, .int .i64 0, .string ⟨#[]⟩, .string ⟨#[]⟩, .string ⟨#[]⟩, .int .i64 0, .bool false] 31)
  have hb := hl.lt
  have HB := Lib.hid hb
  cases d0
  · have qk : oneD (fun s => (s, kindB s != 0)) W d = (f, W0, false) := qk
    obtain ⟨s1, W1, d1, q1⟩ : ∃ a c e, nameD W0 false = (a, c, e) := ⟨_, _, _, rfl⟩
    obtain ⟨s2, W2, d2, q2⟩ : ∃ a c e, nameD W1 d1 = (a, c, e) := ⟨_, _, _, rfl⟩
    obtain ⟨s3, W3, d3, q3⟩ : ∃ a c e, nameD W2 d2 = (a, c, e) := ⟨_, _, _, rfl⟩
    obtain ⟨s4, W4, d4, q4⟩ : ∃ a c e, nameD W3 d3 = (a, c, e) := ⟨_, _, _, rfl⟩
    have e : cmdD W d = ({ zCmd with kind := 6, actor := s1, schema := s2, table := s3, name := s4 }, W4, d4) := by
      unfold cmdD
      rw [qk]
      simp [bindD, hk, tailD, q1, q2, q3, q4]
    rw [e]
    have H1 := Lib.hid (lname_at (b := b) (p := p) q1)
    have H2 := Lib.hid (lname_at (b := b) (p := p) q2)
    have H3 := Lib.hid (lname_at (b := b) (p := p) q3)
    have H4 := Lib.hid (lname_at (b := b) (p := p) q4)
    clear e hl qk q0 hk q1 q2 q3 q4
    go_enter Tryz.func34, Tryz.ntmps34
    go_wp2_with (first
      | (go_at_call 32; with_reducible refine (H0.out _ HX0.out.ds).mono ?_; rintro e w0 ⟨rfl, g0, l0, k0⟩; have X0 := HX0.out.call k0 l0; have y1 := l0.c1; have y2 := l0.f1; have y3 := l0.lt; have X1 := X0.boxBad false [.int .i64 6, .string ⟨#[]⟩, .string ⟨#[]⟩, .string ⟨#[]⟩, .string ⟨#[]⟩, .string ⟨#[]⟩, .slice none 0 0, .string ⟨#[]⟩, .int .i64 0, .slice none 0 0, .int .i64 0, .int .i64 0, .string ⟨#[]⟩, .string ⟨#[]⟩, .string ⟨#[]⟩, .int .i64 0, .bool false] 31; have z0 := X1.lt; obtain ⟨z00, z01, z02⟩ := z0; have X0s := Lib.hid X1; clear l0 k0 X0 X1)
      | (go_at_call 56; with_reducible refine (HK.out _).mono ?_; rintro e wk ⟨rfl, rfl⟩)
      | (go_at_call 57; with_reducible refine (H1.out _ X0s.out.nr.ds).mono ?_; rintro e w1 ⟨rfl, g1, m1, k1⟩; have X1 := X0s.out.call k1 m1; obtain ⟨ca1, fa1⟩ := X1.cf 1 (by simp); obtain ⟨cb1, fb1⟩ := X1.cf 0 (by simp); have z1 := X1.lt; obtain ⟨z10, z11, z12⟩ := z1; have X1s : Nx b p w.heap.size w0.heap.size w _ _ _ [.int .i64 0, .string ⟨#[]⟩, .string ⟨#[]⟩, .string ⟨#[]⟩, .string ⟨#[]⟩, .string ⟨#[]⟩, .slice none 0 0, .string ⟨#[]⟩, .int .i64 0, .slice none 0 0, .int .i64 0, .int .i64 0, .string ⟨#[]⟩, .string ⟨#[]⟩, .string ⟨#[]⟩, .int .i64 0, .bool false] [.int .i64 6, .string s1, .string ⟨#[]⟩, .string ⟨#[]⟩, .string ⟨#[]⟩, .string ⟨#[]⟩, .slice none 0 0, .string ⟨#[]⟩, .int .i64 0, .slice none 0 0, .int .i64 0, .int .i64 0, .string ⟨#[]⟩, .string ⟨#[]⟩, .string ⟨#[]⟩, .int .i64 0, .bool false] := X1.set 1 (.string s1) (by simp); have X1s := Lib.hid X1s; clear m1 k1 X1)
      | (go_at_call 57; with_reducible refine (H2.out _ X1s.out.nr.ds).mono ?_; rintro e w2 ⟨rfl, g2, m2, k2⟩; have X2 := X1s.out.call k2 m2; obtain ⟨ca2, fa2⟩ := X2.cf 2 (by simp); obtain ⟨cb2, fb2⟩ := X2.cf 0 (by simp); have z2 := X2.lt; obtain ⟨z20, z21, z22⟩ := z2; have X2s : Nx b p w.heap.size w0.heap.size w _ _ _ [.int .i64 0, .string ⟨#[]⟩, .string ⟨#[]⟩, .string ⟨#[]⟩, .string ⟨#[]⟩, .string ⟨#[]⟩, .slice none 0 0, .string ⟨#[]⟩, .int .i64 0, .slice none 0 0, .int .i64 0, .int .i64 0, .string ⟨#[]⟩, .string ⟨#[]⟩, .string ⟨#[]⟩, .int .i64 0, .bool false] [.int .i64 6, .string s1, .string s2, .string ⟨#[]⟩, .string ⟨#[]⟩, .string ⟨#[]⟩, .slice none 0 0, .string ⟨#[]⟩, .int .i64 0, .slice none 0 0, .int .i64 0, .int .i64 0, .string ⟨#[]⟩, .string ⟨#[]⟩, .string ⟨#[]⟩, .int .i64 0, .bool false] := X2.set 2 (.string s2) (by simp); have X2s := Lib.hid X2s; clear m2 k2 X2)
      | (go_at_call 57; with_reducible refine (H3.out _ X2s.out.nr.ds).mono ?_; rintro e w3 ⟨rfl, g3, m3, k3⟩; have X3 := X2s.out.call k3 m3; obtain ⟨ca3, fa3⟩ := X3.cf 3 (by simp); obtain ⟨cb3, fb3⟩ := X3.cf 0 (by simp); have z3 := X3.lt; obtain ⟨z30, z31, z32⟩ := z3; have X3s : Nx b p w.heap.size w0.heap.size w _ _ _ [.int .i64 0, .string ⟨#[]⟩, .string ⟨#[]⟩, .string ⟨#[]⟩, .string ⟨#[]⟩, .string ⟨#[]⟩, .slice none 0 0, .string ⟨#[]⟩, .int .i64 0, .slice none 0 0, .int .i64 0, .int .i64 0, .string ⟨#[]⟩, .string ⟨#[]⟩, .string ⟨#[]⟩, .int .i64 0, .bool false] [.int .i64 6, .string s1, .string s2, .string s3, .string ⟨#[]⟩, .string ⟨#[]⟩, .slice none 0 0, .string ⟨#[]⟩, .int .i64 0, .slice none 0 0, .int .i64 0, .int .i64 0, .string ⟨#[]⟩, .string ⟨#[]⟩, .string ⟨#[]⟩, .int .i64 0, .bool false] := X3.set 3 (.string s3) (by simp); have X3s := Lib.hid X3s; clear m3 k3 X3)
      | (go_at_call 57; with_reducible refine (H4.out _ X3s.out.nr.ds).mono ?_; rintro e w4 ⟨rfl, g4, m4, k4⟩; have X4 := X3s.out.call k4 m4; obtain ⟨ca4, fa4⟩ := X4.cf 4 (by simp); obtain ⟨cb4, fb4⟩ := X4.cf 0 (by simp); have z4 := X4.lt; obtain ⟨z40, z41, z42⟩ := z4; have X4s : Nx b p w.heap.size w0.heap.size w _ _ _ [.int .i64 0, .string ⟨#[]⟩, .string ⟨#[]⟩, .string ⟨#[]⟩, .string ⟨#[]⟩, .string ⟨#[]⟩, .slice none 0 0, .string ⟨#[]⟩, .int .i64 0, .slice none 0 0, .int .i64 0, .int .i64 0, .string ⟨#[]⟩, .string ⟨#[]⟩, .string ⟨#[]⟩, .int .i64 0, .bool false] [.int .i64 6, .string s1, .string s2, .string s3, .string s4, .string ⟨#[]⟩, .slice none 0 0, .string ⟨#[]⟩, .int .i64 0, .slice none 0 0, .int .i64 0, .int .i64 0, .string ⟨#[]⟩, .string ⟨#[]⟩, .string ⟨#[]⟩, .int .i64 0, .bool false] := X4.set 4 (.string s4) (by simp); have X4s := Lib.hid X4s; have e1 := lvCmd_row X4s.out.row rfl; have e2 := svCmd_row X4s.out.nr.res rfl rfl (vs := [.int .i64 6, .string s1, .string s2, .string s3, .string s4, .string ⟨#[]⟩, .slice none 0 0, .string ⟨#[]⟩, .int .i64 0, .slice none 0 0, .int .i64 0, .int .i64 0, .string ⟨#[]⟩, .string ⟨#[]⟩, .string ⟨#[]⟩, .int .i64 0, .bool false]) (by simp [Value.oneCell']); clear m4 k4 X4))
    have XR := X4s.out.nr.sets (cs := [.int .i64 6, .string s1, .string s2, .string s3, .string s4, .string ⟨#[]⟩, .slice none 0 0, .string ⟨#[]⟩, .int .i64 0, .slice none 0 0, .int .i64 0, .int .i64 0, .string ⟨#[]⟩, .string ⟨#[]⟩, .string ⟨#[]⟩, .int .i64 0, .bool false]) rfl
    refine bodyPost_ret (results_cell rfl _ rfl (lv_row (T := 31) Tryz.underlying31 (by kernel_rfl) XR.res rfl)) rfl ?_
    exact ⟨XR.kw, _, rfl, ⟨none, 0, none, 0, rfl, colsN_nil _ _ _ HB.out, namesN_nil _ _ _ HB.out, g1, g2, g3, g4, szZ, szZ, szZ, szZ, szZ⟩, XR.ds⟩
  · have qk : oneD (fun s => (s, kindB s != 0)) W d = (f, W0, true) := qk
    obtain ⟨s1, W1, d1, q1⟩ : ∃ a c e, nameD W0 true = (a, c, e) := ⟨_, _, _, rfl⟩
    obtain ⟨s2, W2, d2, q2⟩ : ∃ a c e, nameD W1 d1 = (a, c, e) := ⟨_, _, _, rfl⟩
    obtain ⟨s3, W3, d3, q3⟩ : ∃ a c e, nameD W2 d2 = (a, c, e) := ⟨_, _, _, rfl⟩
    obtain ⟨s4, W4, d4, q4⟩ : ∃ a c e, nameD W3 d3 = (a, c, e) := ⟨_, _, _, rfl⟩
    have e : cmdD W d = ({ zCmd with kind := 6, actor := s1, schema := s2, table := s3, name := s4 }, W4, d4) := by
      unfold cmdD
      rw [qk]
      simp [bindD, hk, tailD, q1, q2, q3, q4]
    rw [e]
    have H1 := Lib.hid (lname_at (b := b) (p := p) q1)
    have H2 := Lib.hid (lname_at (b := b) (p := p) q2)
    have H3 := Lib.hid (lname_at (b := b) (p := p) q3)
    have H4 := Lib.hid (lname_at (b := b) (p := p) q4)
    clear e hl qk q0 hk q1 q2 q3 q4
    go_enter Tryz.func34, Tryz.ntmps34
    go_wp2_with (first
      | (go_at_call 32; with_reducible refine (H0.out _ HX0.out.ds).mono ?_; rintro e w0 ⟨rfl, g0, l0, k0⟩; have X0 := HX0.out.call k0 l0; have y1 := l0.c1; have y2 := l0.f1; have y3 := l0.lt; have X1 := X0.boxBad true [.int .i64 6, .string ⟨#[]⟩, .string ⟨#[]⟩, .string ⟨#[]⟩, .string ⟨#[]⟩, .string ⟨#[]⟩, .slice none 0 0, .string ⟨#[]⟩, .int .i64 0, .slice none 0 0, .int .i64 0, .int .i64 0, .string ⟨#[]⟩, .string ⟨#[]⟩, .string ⟨#[]⟩, .int .i64 0, .bool false] 31; have z0 := X1.lt; obtain ⟨z00, z01, z02⟩ := z0; have X0s := Lib.hid X1; clear l0 k0 X0 X1)
      | (go_at_call 56; with_reducible refine (HK.out _).mono ?_; rintro e wk ⟨rfl, rfl⟩)
      | (go_at_call 57; with_reducible refine (H1.out _ X0s.out.nr.ds).mono ?_; rintro e w1 ⟨rfl, g1, m1, k1⟩; have X1 := X0s.out.call k1 m1; obtain ⟨ca1, fa1⟩ := X1.cf 1 (by simp); obtain ⟨cb1, fb1⟩ := X1.cf 0 (by simp); have z1 := X1.lt; obtain ⟨z10, z11, z12⟩ := z1; have X1s : Nx b p w.heap.size w0.heap.size w _ _ _ [.int .i64 0, .string ⟨#[]⟩, .string ⟨#[]⟩, .string ⟨#[]⟩, .string ⟨#[]⟩, .string ⟨#[]⟩, .slice none 0 0, .string ⟨#[]⟩, .int .i64 0, .slice none 0 0, .int .i64 0, .int .i64 0, .string ⟨#[]⟩, .string ⟨#[]⟩, .string ⟨#[]⟩, .int .i64 0, .bool false] [.int .i64 6, .string s1, .string ⟨#[]⟩, .string ⟨#[]⟩, .string ⟨#[]⟩, .string ⟨#[]⟩, .slice none 0 0, .string ⟨#[]⟩, .int .i64 0, .slice none 0 0, .int .i64 0, .int .i64 0, .string ⟨#[]⟩, .string ⟨#[]⟩, .string ⟨#[]⟩, .int .i64 0, .bool false] := X1.set 1 (.string s1) (by simp); have X1s := Lib.hid X1s; clear m1 k1 X1)
      | (go_at_call 57; with_reducible refine (H2.out _ X1s.out.nr.ds).mono ?_; rintro e w2 ⟨rfl, g2, m2, k2⟩; have X2 := X1s.out.call k2 m2; obtain ⟨ca2, fa2⟩ := X2.cf 2 (by simp); obtain ⟨cb2, fb2⟩ := X2.cf 0 (by simp); have z2 := X2.lt; obtain ⟨z20, z21, z22⟩ := z2; have X2s : Nx b p w.heap.size w0.heap.size w _ _ _ [.int .i64 0, .string ⟨#[]⟩, .string ⟨#[]⟩, .string ⟨#[]⟩, .string ⟨#[]⟩, .string ⟨#[]⟩, .slice none 0 0, .string ⟨#[]⟩, .int .i64 0, .slice none 0 0, .int .i64 0, .int .i64 0, .string ⟨#[]⟩, .string ⟨#[]⟩, .string ⟨#[]⟩, .int .i64 0, .bool false] [.int .i64 6, .string s1, .string s2, .string ⟨#[]⟩, .string ⟨#[]⟩, .string ⟨#[]⟩, .slice none 0 0, .string ⟨#[]⟩, .int .i64 0, .slice none 0 0, .int .i64 0, .int .i64 0, .string ⟨#[]⟩, .string ⟨#[]⟩, .string ⟨#[]⟩, .int .i64 0, .bool false] := X2.set 2 (.string s2) (by simp); have X2s := Lib.hid X2s; clear m2 k2 X2)
      | (go_at_call 57; with_reducible refine (H3.out _ X2s.out.nr.ds).mono ?_; rintro e w3 ⟨rfl, g3, m3, k3⟩; have X3 := X2s.out.call k3 m3; obtain ⟨ca3, fa3⟩ := X3.cf 3 (by simp); obtain ⟨cb3, fb3⟩ := X3.cf 0 (by simp); have z3 := X3.lt; obtain ⟨z30, z31, z32⟩ := z3; have X3s : Nx b p w.heap.size w0.heap.size w _ _ _ [.int .i64 0, .string ⟨#[]⟩, .string ⟨#[]⟩, .string ⟨#[]⟩, .string ⟨#[]⟩, .string ⟨#[]⟩, .slice none 0 0, .string ⟨#[]⟩, .int .i64 0, .slice none 0 0, .int .i64 0, .int .i64 0, .string ⟨#[]⟩, .string ⟨#[]⟩, .string ⟨#[]⟩, .int .i64 0, .bool false] [.int .i64 6, .string s1, .string s2, .string s3, .string ⟨#[]⟩, .string ⟨#[]⟩, .slice none 0 0, .string ⟨#[]⟩, .int .i64 0, .slice none 0 0, .int .i64 0, .int .i64 0, .string ⟨#[]⟩, .string ⟨#[]⟩, .string ⟨#[]⟩, .int .i64 0, .bool false] := X3.set 3 (.string s3) (by simp); have X3s := Lib.hid X3s; clear m3 k3 X3)
      | (go_at_call 57; with_reducible refine (H4.out _ X3s.out.nr.ds).mono ?_; rintro e w4 ⟨rfl, g4, m4, k4⟩; have X4 := X3s.out.call k4 m4; obtain ⟨ca4, fa4⟩ := X4.cf 4 (by simp); obtain ⟨cb4, fb4⟩ := X4.cf 0 (by simp); have z4 := X4.lt; obtain ⟨z40, z41, z42⟩ := z4; have X4s : Nx b p w.heap.size w0.heap.size w _ _ _ [.int .i64 0, .string ⟨#[]⟩, .string ⟨#[]⟩, .string ⟨#[]⟩, .string ⟨#[]⟩, .string ⟨#[]⟩, .slice none 0 0, .string ⟨#[]⟩, .int .i64 0, .slice none 0 0, .int .i64 0, .int .i64 0, .string ⟨#[]⟩, .string ⟨#[]⟩, .string ⟨#[]⟩, .int .i64 0, .bool false] [.int .i64 6, .string s1, .string s2, .string s3, .string s4, .string ⟨#[]⟩, .slice none 0 0, .string ⟨#[]⟩, .int .i64 0, .slice none 0 0, .int .i64 0, .int .i64 0, .string ⟨#[]⟩, .string ⟨#[]⟩, .string ⟨#[]⟩, .int .i64 0, .bool false] := X4.set 4 (.string s4) (by simp); have X4s := Lib.hid X4s; have e1 := lvCmd_row X4s.out.row rfl; have e2 := svCmd_row X4s.out.nr.res rfl rfl (vs := [.int .i64 6, .string s1, .string s2, .string s3, .string s4, .string ⟨#[]⟩, .slice none 0 0, .string ⟨#[]⟩, .int .i64 0, .slice none 0 0, .int .i64 0, .int .i64 0, .string ⟨#[]⟩, .string ⟨#[]⟩, .string ⟨#[]⟩, .int .i64 0, .bool false]) (by simp [Value.oneCell']); clear m4 k4 X4))
    have XR := X4s.out.nr.sets (cs := [.int .i64 6, .string s1, .string s2, .string s3, .string s4, .string ⟨#[]⟩, .slice none 0 0, .string ⟨#[]⟩, .int .i64 0, .slice none 0 0, .int .i64 0, .int .i64 0, .string ⟨#[]⟩, .string ⟨#[]⟩, .string ⟨#[]⟩, .int .i64 0, .bool false]) rfl
    refine bodyPost_ret (results_cell rfl _ rfl (lv_row (T := 31) Tryz.underlying31 (by kernel_rfl) XR.res rfl)) rfl ?_
    exact ⟨XR.kw, _, rfl, ⟨none, 0, none, 0, rfl, colsN_nil _ _ _ HB.out, namesN_nil _ _ _ HB.out, g1, g2, g3, g4, szZ, szZ, szZ, szZ, szZ⟩, XR.ds⟩
set_option maxHeartbeats 2000000 in
theorem commandN_8 (f : ByteArray) (W : Ws) (d : Bool) (W0 : Ws) (d0 : Bool) (q0 : wordD W d = (f, W0, d0)) (hk : kindB f = 8) (b p : Nat) (w : World) (hl : LnS w b p W d) : Calls Tryz.prog 34 #[.pointer (some ⟨b, 0, none⟩)] w (RdN b p w (CmdN b w.heap.size) (cmdD W d)) := by
  have H0 := Lib.hid (lword_at (b := b) (p := p) q0)
  have HK := Lib.hid (lkind_at hk)
  have qk := one_kind q0 hk
  have HX0 := Lib.hid (Nr.start hl [.int .i64 0, .string ⟨#[]⟩, .string ⟨#[]⟩, .string ⟨#[]⟩, .string ⟨#[]⟩, .string ⟨#[]⟩, .slice none 0 0, .string ⟨#[]⟩, .int .i64 0, .slice none 0 0, .int .i64 0, .int .i64 0, .string ⟨#[]⟩, .string ⟨#[]⟩, .string ⟨#[]⟩, .int .i64 0, .bool false] 31)
  have hb := hl.lt
  have HB := Lib.hid hb
  cases d0
  · have qk : oneD (fun s => (s, kindB s != 0)) W d = (f, W0, false) := qk
    obtain ⟨s1, W1, d1, q1⟩ : ∃ a c e, nameD W0 false = (a, c, e) := ⟨_, _, _, rfl⟩
    obtain ⟨s2, W2, d2, q2⟩ : ∃ a c e, nameD W1 d1 = (a, c, e) := ⟨_, _, _, rfl⟩
    obtain ⟨s3, W3, d3, q3⟩ : ∃ a c e, nameD W2 d2 = (a, c, e) := ⟨_, _, _, rfl⟩
    obtain ⟨s4, W4, d4, q4⟩ : ∃ a c e, nameD W3 d3 = (a, c, e) := ⟨_, _, _, rfl⟩
    have e : cmdD W d = ({ zCmd with kind := 8, actor := s1, schema := s2, table := s3, name := s4 }, W4, d4) := by
      unfold cmdD
      rw [qk]
      simp [bindD, hk, tailD, q1, q2, q3, q4]
    rw [e]
    have H1 := Lib.hid (lname_at (b := b) (p := p) q1)
    have H2 := Lib.hid (lname_at (b := b) (p := p) q2)
    have H3 := Lib.hid (lname_at (b := b) (p := p) q3)
    have H4 := Lib.hid (lname_at (b := b) (p := p) q4)
    clear e hl qk q0 hk q1 q2 q3 q4
    go_enter Tryz.func34, Tryz.ntmps34
    go_wp2_with (first
      | (go_at_call 32; with_reducible refine (H0.out _ HX0.out.ds).mono ?_; rintro e w0 ⟨rfl, g0, l0, k0⟩; have X0 := HX0.out.call k0 l0; have y1 := l0.c1; have y2 := l0.f1; have y3 := l0.lt; have X1 := X0.boxBad false [.int .i64 8, .string ⟨#[]⟩, .string ⟨#[]⟩, .string ⟨#[]⟩, .string ⟨#[]⟩, .string ⟨#[]⟩, .slice none 0 0, .string ⟨#[]⟩, .int .i64 0, .slice none 0 0, .int .i64 0, .int .i64 0, .string ⟨#[]⟩, .string ⟨#[]⟩, .string ⟨#[]⟩, .int .i64 0, .bool false] 31; have z0 := X1.lt; obtain ⟨z00, z01, z02⟩ := z0; have X0s := Lib.hid X1; clear l0 k0 X0 X1)
      | (go_at_call 56; with_reducible refine (HK.out _).mono ?_; rintro e wk ⟨rfl, rfl⟩)
      | (go_at_call 57; with_reducible refine (H1.out _ X0s.out.nr.ds).mono ?_; rintro e w1 ⟨rfl, g1, m1, k1⟩; have X1 := X0s.out.call k1 m1; obtain ⟨ca1, fa1⟩ := X1.cf 1 (by simp); obtain ⟨cb1, fb1⟩ := X1.cf 0 (by simp); have z1 := X1.lt; obtain ⟨z10, z11, z12⟩ := z1; have X1s : Nx b p w.heap.size w0.heap.size w _ _ _ [.int .i64 0, .string ⟨#[]⟩, .string ⟨#[]⟩, .string ⟨#[]⟩, .string ⟨#[]⟩, .string ⟨#[]⟩, .slice none 0 0, .string ⟨#[]⟩, .int .i64 0, .slice none 0 0, .int .i64 0, .int .i64 0, .string ⟨#[]⟩, .string ⟨#[]⟩, .string ⟨#[]⟩, .int .i64 0, .bool false] [.int .i64 8, .string s1, .string ⟨#[]⟩, .string ⟨#[]⟩, .string ⟨#[]⟩, .string ⟨#[]⟩, .slice none 0 0, .string ⟨#[]⟩, .int .i64 0, .slice none 0 0, .int .i64 0, .int .i64 0, .string ⟨#[]⟩, .string ⟨#[]⟩, .string ⟨#[]⟩, .int .i64 0, .bool false] := X1.set 1 (.string s1) (by simp); have X1s := Lib.hid X1s; clear m1 k1 X1)
      | (go_at_call 57; with_reducible refine (H2.out _ X1s.out.nr.ds).mono ?_; rintro e w2 ⟨rfl, g2, m2, k2⟩; have X2 := X1s.out.call k2 m2; obtain ⟨ca2, fa2⟩ := X2.cf 2 (by simp); obtain ⟨cb2, fb2⟩ := X2.cf 0 (by simp); have z2 := X2.lt; obtain ⟨z20, z21, z22⟩ := z2; have X2s : Nx b p w.heap.size w0.heap.size w _ _ _ [.int .i64 0, .string ⟨#[]⟩, .string ⟨#[]⟩, .string ⟨#[]⟩, .string ⟨#[]⟩, .string ⟨#[]⟩, .slice none 0 0, .string ⟨#[]⟩, .int .i64 0, .slice none 0 0, .int .i64 0, .int .i64 0, .string ⟨#[]⟩, .string ⟨#[]⟩, .string ⟨#[]⟩, .int .i64 0, .bool false] [.int .i64 8, .string s1, .string s2, .string ⟨#[]⟩, .string ⟨#[]⟩, .string ⟨#[]⟩, .slice none 0 0, .string ⟨#[]⟩, .int .i64 0, .slice none 0 0, .int .i64 0, .int .i64 0, .string ⟨#[]⟩, .string ⟨#[]⟩, .string ⟨#[]⟩, .int .i64 0, .bool false] := X2.set 2 (.string s2) (by simp); have X2s := Lib.hid X2s; clear m2 k2 X2)
      | (go_at_call 57; with_reducible refine (H3.out _ X2s.out.nr.ds).mono ?_; rintro e w3 ⟨rfl, g3, m3, k3⟩; have X3 := X2s.out.call k3 m3; obtain ⟨ca3, fa3⟩ := X3.cf 3 (by simp); obtain ⟨cb3, fb3⟩ := X3.cf 0 (by simp); have z3 := X3.lt; obtain ⟨z30, z31, z32⟩ := z3; have X3s : Nx b p w.heap.size w0.heap.size w _ _ _ [.int .i64 0, .string ⟨#[]⟩, .string ⟨#[]⟩, .string ⟨#[]⟩, .string ⟨#[]⟩, .string ⟨#[]⟩, .slice none 0 0, .string ⟨#[]⟩, .int .i64 0, .slice none 0 0, .int .i64 0, .int .i64 0, .string ⟨#[]⟩, .string ⟨#[]⟩, .string ⟨#[]⟩, .int .i64 0, .bool false] [.int .i64 8, .string s1, .string s2, .string s3, .string ⟨#[]⟩, .string ⟨#[]⟩, .slice none 0 0, .string ⟨#[]⟩, .int .i64 0, .slice none 0 0, .int .i64 0, .int .i64 0, .string ⟨#[]⟩, .string ⟨#[]⟩, .string ⟨#[]⟩, .int .i64 0, .bool false] := X3.set 3 (.string s3) (by simp); have X3s := Lib.hid X3s; clear m3 k3 X3)
      | (go_at_call 57; with_reducible refine (H4.out _ X3s.out.nr.ds).mono ?_; rintro e w4 ⟨rfl, g4, m4, k4⟩; have X4 := X3s.out.call k4 m4; obtain ⟨ca4, fa4⟩ := X4.cf 4 (by simp); obtain ⟨cb4, fb4⟩ := X4.cf 0 (by simp); have z4 := X4.lt; obtain ⟨z40, z41, z42⟩ := z4; have X4s : Nx b p w.heap.size w0.heap.size w _ _ _ [.int .i64 0, .string ⟨#[]⟩, .string ⟨#[]⟩, .string ⟨#[]⟩, .string ⟨#[]⟩, .string ⟨#[]⟩, .slice none 0 0, .string ⟨#[]⟩, .int .i64 0, .slice none 0 0, .int .i64 0, .int .i64 0, .string ⟨#[]⟩, .string ⟨#[]⟩, .string ⟨#[]⟩, .int .i64 0, .bool false] [.int .i64 8, .string s1, .string s2, .string s3, .string s4, .string ⟨#[]⟩, .slice none 0 0, .string ⟨#[]⟩, .int .i64 0, .slice none 0 0, .int .i64 0, .int .i64 0, .string ⟨#[]⟩, .string ⟨#[]⟩, .string ⟨#[]⟩, .int .i64 0, .bool false] := X4.set 4 (.string s4) (by simp); have X4s := Lib.hid X4s; have e1 := lvCmd_row X4s.out.row rfl; have e2 := svCmd_row X4s.out.nr.res rfl rfl (vs := [.int .i64 8, .string s1, .string s2, .string s3, .string s4, .string ⟨#[]⟩, .slice none 0 0, .string ⟨#[]⟩, .int .i64 0, .slice none 0 0, .int .i64 0, .int .i64 0, .string ⟨#[]⟩, .string ⟨#[]⟩, .string ⟨#[]⟩, .int .i64 0, .bool false]) (by simp [Value.oneCell']); clear m4 k4 X4))
    have XR := X4s.out.nr.sets (cs := [.int .i64 8, .string s1, .string s2, .string s3, .string s4, .string ⟨#[]⟩, .slice none 0 0, .string ⟨#[]⟩, .int .i64 0, .slice none 0 0, .int .i64 0, .int .i64 0, .string ⟨#[]⟩, .string ⟨#[]⟩, .string ⟨#[]⟩, .int .i64 0, .bool false]) rfl
    refine bodyPost_ret (results_cell rfl _ rfl (lv_row (T := 31) Tryz.underlying31 (by kernel_rfl) XR.res rfl)) rfl ?_
    exact ⟨XR.kw, _, rfl, ⟨none, 0, none, 0, rfl, colsN_nil _ _ _ HB.out, namesN_nil _ _ _ HB.out, g1, g2, g3, g4, szZ, szZ, szZ, szZ, szZ⟩, XR.ds⟩
  · have qk : oneD (fun s => (s, kindB s != 0)) W d = (f, W0, true) := qk
    obtain ⟨s1, W1, d1, q1⟩ : ∃ a c e, nameD W0 true = (a, c, e) := ⟨_, _, _, rfl⟩
    obtain ⟨s2, W2, d2, q2⟩ : ∃ a c e, nameD W1 d1 = (a, c, e) := ⟨_, _, _, rfl⟩
    obtain ⟨s3, W3, d3, q3⟩ : ∃ a c e, nameD W2 d2 = (a, c, e) := ⟨_, _, _, rfl⟩
    obtain ⟨s4, W4, d4, q4⟩ : ∃ a c e, nameD W3 d3 = (a, c, e) := ⟨_, _, _, rfl⟩
    have e : cmdD W d = ({ zCmd with kind := 8, actor := s1, schema := s2, table := s3, name := s4 }, W4, d4) := by
      unfold cmdD
      rw [qk]
      simp [bindD, hk, tailD, q1, q2, q3, q4]
    rw [e]
    have H1 := Lib.hid (lname_at (b := b) (p := p) q1)
    have H2 := Lib.hid (lname_at (b := b) (p := p) q2)
    have H3 := Lib.hid (lname_at (b := b) (p := p) q3)
    have H4 := Lib.hid (lname_at (b := b) (p := p) q4)
    clear e hl qk q0 hk q1 q2 q3 q4
    go_enter Tryz.func34, Tryz.ntmps34
    go_wp2_with (first
      | (go_at_call 32; with_reducible refine (H0.out _ HX0.out.ds).mono ?_; rintro e w0 ⟨rfl, g0, l0, k0⟩; have X0 := HX0.out.call k0 l0; have y1 := l0.c1; have y2 := l0.f1; have y3 := l0.lt; have X1 := X0.boxBad true [.int .i64 8, .string ⟨#[]⟩, .string ⟨#[]⟩, .string ⟨#[]⟩, .string ⟨#[]⟩, .string ⟨#[]⟩, .slice none 0 0, .string ⟨#[]⟩, .int .i64 0, .slice none 0 0, .int .i64 0, .int .i64 0, .string ⟨#[]⟩, .string ⟨#[]⟩, .string ⟨#[]⟩, .int .i64 0, .bool false] 31; have z0 := X1.lt; obtain ⟨z00, z01, z02⟩ := z0; have X0s := Lib.hid X1; clear l0 k0 X0 X1)
      | (go_at_call 56; with_reducible refine (HK.out _).mono ?_; rintro e wk ⟨rfl, rfl⟩)
      | (go_at_call 57; with_reducible refine (H1.out _ X0s.out.nr.ds).mono ?_; rintro e w1 ⟨rfl, g1, m1, k1⟩; have X1 := X0s.out.call k1 m1; obtain ⟨ca1, fa1⟩ := X1.cf 1 (by simp); obtain ⟨cb1, fb1⟩ := X1.cf 0 (by simp); have z1 := X1.lt; obtain ⟨z10, z11, z12⟩ := z1; have X1s : Nx b p w.heap.size w0.heap.size w _ _ _ [.int .i64 0, .string ⟨#[]⟩, .string ⟨#[]⟩, .string ⟨#[]⟩, .string ⟨#[]⟩, .string ⟨#[]⟩, .slice none 0 0, .string ⟨#[]⟩, .int .i64 0, .slice none 0 0, .int .i64 0, .int .i64 0, .string ⟨#[]⟩, .string ⟨#[]⟩, .string ⟨#[]⟩, .int .i64 0, .bool false] [.int .i64 8, .string s1, .string ⟨#[]⟩, .string ⟨#[]⟩, .string ⟨#[]⟩, .string ⟨#[]⟩, .slice none 0 0, .string ⟨#[]⟩, .int .i64 0, .slice none 0 0, .int .i64 0, .int .i64 0, .string ⟨#[]⟩, .string ⟨#[]⟩, .string ⟨#[]⟩, .int .i64 0, .bool false] := X1.set 1 (.string s1) (by simp); have X1s := Lib.hid X1s; clear m1 k1 X1)
      | (go_at_call 57; with_reducible refine (H2.out _ X1s.out.nr.ds).mono ?_; rintro e w2 ⟨rfl, g2, m2, k2⟩; have X2 := X1s.out.call k2 m2; obtain ⟨ca2, fa2⟩ := X2.cf 2 (by simp); obtain ⟨cb2, fb2⟩ := X2.cf 0 (by simp); have z2 := X2.lt; obtain ⟨z20, z21, z22⟩ := z2; have X2s : Nx b p w.heap.size w0.heap.size w _ _ _ [.int .i64 0, .string ⟨#[]⟩, .string ⟨#[]⟩, .string ⟨#[]⟩, .string ⟨#[]⟩, .string ⟨#[]⟩, .slice none 0 0, .string ⟨#[]⟩, .int .i64 0, .slice none 0 0, .int .i64 0, .int .i64 0, .string ⟨#[]⟩, .string ⟨#[]⟩, .string ⟨#[]⟩, .int .i64 0, .bool false] [.int .i64 8, .string s1, .string s2, .string ⟨#[]⟩, .string ⟨#[]⟩, .string ⟨#[]⟩, .slice none 0 0, .string ⟨#[]⟩, .int .i64 0, .slice none 0 0, .int .i64 0, .int .i64 0, .string ⟨#[]⟩, .string ⟨#[]⟩, .string ⟨#[]⟩, .int .i64 0, .bool false] := X2.set 2 (.string s2) (by simp); have X2s := Lib.hid X2s; clear m2 k2 X2)
      | (go_at_call 57; with_reducible refine (H3.out _ X2s.out.nr.ds).mono ?_; rintro e w3 ⟨rfl, g3, m3, k3⟩; have X3 := X2s.out.call k3 m3; obtain ⟨ca3, fa3⟩ := X3.cf 3 (by simp); obtain ⟨cb3, fb3⟩ := X3.cf 0 (by simp); have z3 := X3.lt; obtain ⟨z30, z31, z32⟩ := z3; have X3s : Nx b p w.heap.size w0.heap.size w _ _ _ [.int .i64 0, .string ⟨#[]⟩, .string ⟨#[]⟩, .string ⟨#[]⟩, .string ⟨#[]⟩, .string ⟨#[]⟩, .slice none 0 0, .string ⟨#[]⟩, .int .i64 0, .slice none 0 0, .int .i64 0, .int .i64 0, .string ⟨#[]⟩, .string ⟨#[]⟩, .string ⟨#[]⟩, .int .i64 0, .bool false] [.int .i64 8, .string s1, .string s2, .string s3, .string ⟨#[]⟩, .string ⟨#[]⟩, .slice none 0 0, .string ⟨#[]⟩, .int .i64 0, .slice none 0 0, .int .i64 0, .int .i64 0, .string ⟨#[]⟩, .string ⟨#[]⟩, .string ⟨#[]⟩, .int .i64 0, .bool false] := X3.set 3 (.string s3) (by simp); have X3s := Lib.hid X3s; clear m3 k3 X3)
      | (go_at_call 57; with_reducible refine (H4.out _ X3s.out.nr.ds).mono ?_; rintro e w4 ⟨rfl, g4, m4, k4⟩; have X4 := X3s.out.call k4 m4; obtain ⟨ca4, fa4⟩ := X4.cf 4 (by simp); obtain ⟨cb4, fb4⟩ := X4.cf 0 (by simp); have z4 := X4.lt; obtain ⟨z40, z41, z42⟩ := z4; have X4s : Nx b p w.heap.size w0.heap.size w _ _ _ [.int .i64 0, .string ⟨#[]⟩, .string ⟨#[]⟩, .string ⟨#[]⟩, .string ⟨#[]⟩, .string ⟨#[]⟩, .slice none 0 0, .string ⟨#[]⟩, .int .i64 0, .slice none 0 0, .int .i64 0, .int .i64 0, .string ⟨#[]⟩, .string ⟨#[]⟩, .string ⟨#[]⟩, .int .i64 0, .bool false] [.int .i64 8, .string s1, .string s2, .string s3, .string s4, .string ⟨#[]⟩, .slice none 0 0, .string ⟨#[]⟩, .int .i64 0, .slice none 0 0, .int .i64 0, .int .i64 0, .string ⟨#[]⟩, .string ⟨#[]⟩, .string ⟨#[]⟩, .int .i64 0, .bool false] := X4.set 4 (.string s4) (by simp); have X4s := Lib.hid X4s; have e1 := lvCmd_row X4s.out.row rfl; have e2 := svCmd_row X4s.out.nr.res rfl rfl (vs := [.int .i64 8, .string s1, .string s2, .string s3, .string s4, .string ⟨#[]⟩, .slice none 0 0, .string ⟨#[]⟩, .int .i64 0, .slice none 0 0, .int .i64 0, .int .i64 0, .string ⟨#[]⟩, .string ⟨#[]⟩, .string ⟨#[]⟩, .int .i64 0, .bool false]) (by simp [Value.oneCell']); clear m4 k4 X4))
    have XR := X4s.out.nr.sets (cs := [.int .i64 8, .string s1, .string s2, .string s3, .string s4, .string ⟨#[]⟩, .slice none 0 0, .string ⟨#[]⟩, .int .i64 0, .slice none 0 0, .int .i64 0, .int .i64 0, .string ⟨#[]⟩, .string ⟨#[]⟩, .string ⟨#[]⟩, .int .i64 0, .bool false]) rfl
    refine bodyPost_ret (results_cell rfl _ rfl (lv_row (T := 31) Tryz.underlying31 (by kernel_rfl) XR.res rfl)) rfl ?_
    exact ⟨XR.kw, _, rfl, ⟨none, 0, none, 0, rfl, colsN_nil _ _ _ HB.out, namesN_nil _ _ _ HB.out, g1, g2, g3, g4, szZ, szZ, szZ, szZ, szZ⟩, XR.ds⟩
set_option maxHeartbeats 2000000 in
theorem commandN_9 (f : ByteArray) (W : Ws) (d : Bool) (W0 : Ws) (d0 : Bool) (q0 : wordD W d = (f, W0, d0)) (hk : kindB f = 9) (b p : Nat) (w : World) (hl : LnS w b p W d) : Calls Tryz.prog 34 #[.pointer (some ⟨b, 0, none⟩)] w (RdN b p w (CmdN b w.heap.size) (cmdD W d)) := by
  have H0 := Lib.hid (lword_at (b := b) (p := p) q0)
  have HK := Lib.hid (lkind_at hk)
  have qk := one_kind q0 hk
  have HX0 := Lib.hid (Nr.start hl [.int .i64 0, .string ⟨#[]⟩, .string ⟨#[]⟩, .string ⟨#[]⟩, .string ⟨#[]⟩, .string ⟨#[]⟩, .slice none 0 0, .string ⟨#[]⟩, .int .i64 0, .slice none 0 0, .int .i64 0, .int .i64 0, .string ⟨#[]⟩, .string ⟨#[]⟩, .string ⟨#[]⟩, .int .i64 0, .bool false] 31)
  have hb := hl.lt
  have HB := Lib.hid hb
  cases d0
  · have qk : oneD (fun s => (s, kindB s != 0)) W d = (f, W0, false) := qk
    obtain ⟨s1, W1, d1, q1⟩ : ∃ a c e, nameD W0 false = (a, c, e) := ⟨_, _, _, rfl⟩
    obtain ⟨s2, W2, d2, q2⟩ : ∃ a c e, nameD W1 d1 = (a, c, e) := ⟨_, _, _, rfl⟩
    obtain ⟨s3, W3, d3, q3⟩ : ∃ a c e, nameD W2 d2 = (a, c, e) := ⟨_, _, _, rfl⟩
    obtain ⟨s4, W4, d4, q4⟩ : ∃ a c e, nameD W3 d3 = (a, c, e) := ⟨_, _, _, rfl⟩
    have e : cmdD W d = ({ zCmd with kind := 9, actor := s1, schema := s2, table := s3, role := s4 }, W4, d4) := by
      unfold cmdD
      rw [qk]
      simp [bindD, hk, tailD, q1, q2, q3, q4]
    rw [e]
    have H1 := Lib.hid (lname_at (b := b) (p := p) q1)
    have H2 := Lib.hid (lname_at (b := b) (p := p) q2)
    have H3 := Lib.hid (lname_at (b := b) (p := p) q3)
    have H4 := Lib.hid (lname_at (b := b) (p := p) q4)
    clear e hl qk q0 hk q1 q2 q3 q4
    go_enter Tryz.func34, Tryz.ntmps34
    go_wp2_with (first
      | (go_at_call 32; with_reducible refine (H0.out _ HX0.out.ds).mono ?_; rintro e w0 ⟨rfl, g0, l0, k0⟩; have X0 := HX0.out.call k0 l0; have y1 := l0.c1; have y2 := l0.f1; have y3 := l0.lt; have X1 := X0.boxBad false [.int .i64 9, .string ⟨#[]⟩, .string ⟨#[]⟩, .string ⟨#[]⟩, .string ⟨#[]⟩, .string ⟨#[]⟩, .slice none 0 0, .string ⟨#[]⟩, .int .i64 0, .slice none 0 0, .int .i64 0, .int .i64 0, .string ⟨#[]⟩, .string ⟨#[]⟩, .string ⟨#[]⟩, .int .i64 0, .bool false] 31; have z0 := X1.lt; obtain ⟨z00, z01, z02⟩ := z0; have X0s := Lib.hid X1; clear l0 k0 X0 X1)
      | (go_at_call 56; with_reducible refine (HK.out _).mono ?_; rintro e wk ⟨rfl, rfl⟩)
      | (go_at_call 57; with_reducible refine (H1.out _ X0s.out.nr.ds).mono ?_; rintro e w1 ⟨rfl, g1, m1, k1⟩; have X1 := X0s.out.call k1 m1; obtain ⟨ca1, fa1⟩ := X1.cf 1 (by simp); obtain ⟨cb1, fb1⟩ := X1.cf 0 (by simp); have z1 := X1.lt; obtain ⟨z10, z11, z12⟩ := z1; have X1s : Nx b p w.heap.size w0.heap.size w _ _ _ [.int .i64 0, .string ⟨#[]⟩, .string ⟨#[]⟩, .string ⟨#[]⟩, .string ⟨#[]⟩, .string ⟨#[]⟩, .slice none 0 0, .string ⟨#[]⟩, .int .i64 0, .slice none 0 0, .int .i64 0, .int .i64 0, .string ⟨#[]⟩, .string ⟨#[]⟩, .string ⟨#[]⟩, .int .i64 0, .bool false] [.int .i64 9, .string s1, .string ⟨#[]⟩, .string ⟨#[]⟩, .string ⟨#[]⟩, .string ⟨#[]⟩, .slice none 0 0, .string ⟨#[]⟩, .int .i64 0, .slice none 0 0, .int .i64 0, .int .i64 0, .string ⟨#[]⟩, .string ⟨#[]⟩, .string ⟨#[]⟩, .int .i64 0, .bool false] := X1.set 1 (.string s1) (by simp); have X1s := Lib.hid X1s; clear m1 k1 X1)
      | (go_at_call 57; with_reducible refine (H2.out _ X1s.out.nr.ds).mono ?_; rintro e w2 ⟨rfl, g2, m2, k2⟩; have X2 := X1s.out.call k2 m2; obtain ⟨ca2, fa2⟩ := X2.cf 2 (by simp); obtain ⟨cb2, fb2⟩ := X2.cf 0 (by simp); have z2 := X2.lt; obtain ⟨z20, z21, z22⟩ := z2; have X2s : Nx b p w.heap.size w0.heap.size w _ _ _ [.int .i64 0, .string ⟨#[]⟩, .string ⟨#[]⟩, .string ⟨#[]⟩, .string ⟨#[]⟩, .string ⟨#[]⟩, .slice none 0 0, .string ⟨#[]⟩, .int .i64 0, .slice none 0 0, .int .i64 0, .int .i64 0, .string ⟨#[]⟩, .string ⟨#[]⟩, .string ⟨#[]⟩, .int .i64 0, .bool false] [.int .i64 9, .string s1, .string s2, .string ⟨#[]⟩, .string ⟨#[]⟩, .string ⟨#[]⟩, .slice none 0 0, .string ⟨#[]⟩, .int .i64 0, .slice none 0 0, .int .i64 0, .int .i64 0, .string ⟨#[]⟩, .string ⟨#[]⟩, .string ⟨#[]⟩, .int .i64 0, .bool false] := X2.set 2 (.string s2) (by simp); have X2s := Lib.hid X2s; clear m2 k2 X2)
      | (go_at_call 57; with_reducible refine (H3.out _ X2s.out.nr.ds).mono ?_; rintro e w3 ⟨rfl, g3, m3, k3⟩; have X3 := X2s.out.call k3 m3; obtain ⟨ca3, fa3⟩ := X3.cf 3 (by simp); obtain ⟨cb3, fb3⟩ := X3.cf 0 (by simp); have z3 := X3.lt; obtain ⟨z30, z31, z32⟩ := z3; have X3s : Nx b p w.heap.size w0.heap.size w _ _ _ [.int .i64 0, .string ⟨#[]⟩, .string ⟨#[]⟩, .string ⟨#[]⟩, .string ⟨#[]⟩, .string ⟨#[]⟩, .slice none 0 0, .string ⟨#[]⟩, .int .i64 0, .slice none 0 0, .int .i64 0, .int .i64 0, .string ⟨#[]⟩, .string ⟨#[]⟩, .string ⟨#[]⟩, .int .i64 0, .bool false] [.int .i64 9, .string s1, .string s2, .string s3, .string ⟨#[]⟩, .string ⟨#[]⟩, .slice none 0 0, .string ⟨#[]⟩, .int .i64 0, .slice none 0 0, .int .i64 0, .int .i64 0, .string ⟨#[]⟩, .string ⟨#[]⟩, .string ⟨#[]⟩, .int .i64 0, .bool false] := X3.set 3 (.string s3) (by simp); have X3s := Lib.hid X3s; clear m3 k3 X3)
      | (go_at_call 57; with_reducible refine (H4.out _ X3s.out.nr.ds).mono ?_; rintro e w4 ⟨rfl, g4, m4, k4⟩; have X4 := X3s.out.call k4 m4; obtain ⟨ca4, fa4⟩ := X4.cf 5 (by simp); obtain ⟨cb4, fb4⟩ := X4.cf 0 (by simp); have z4 := X4.lt; obtain ⟨z40, z41, z42⟩ := z4; have X4s : Nx b p w.heap.size w0.heap.size w _ _ _ [.int .i64 0, .string ⟨#[]⟩, .string ⟨#[]⟩, .string ⟨#[]⟩, .string ⟨#[]⟩, .string ⟨#[]⟩, .slice none 0 0, .string ⟨#[]⟩, .int .i64 0, .slice none 0 0, .int .i64 0, .int .i64 0, .string ⟨#[]⟩, .string ⟨#[]⟩, .string ⟨#[]⟩, .int .i64 0, .bool false] [.int .i64 9, .string s1, .string s2, .string s3, .string ⟨#[]⟩, .string s4, .slice none 0 0, .string ⟨#[]⟩, .int .i64 0, .slice none 0 0, .int .i64 0, .int .i64 0, .string ⟨#[]⟩, .string ⟨#[]⟩, .string ⟨#[]⟩, .int .i64 0, .bool false] := X4.set 5 (.string s4) (by simp); have X4s := Lib.hid X4s; have e1 := lvCmd_row X4s.out.row rfl; have e2 := svCmd_row X4s.out.nr.res rfl rfl (vs := [.int .i64 9, .string s1, .string s2, .string s3, .string ⟨#[]⟩, .string s4, .slice none 0 0, .string ⟨#[]⟩, .int .i64 0, .slice none 0 0, .int .i64 0, .int .i64 0, .string ⟨#[]⟩, .string ⟨#[]⟩, .string ⟨#[]⟩, .int .i64 0, .bool false]) (by simp [Value.oneCell']); clear m4 k4 X4))
    have XR := X4s.out.nr.sets (cs := [.int .i64 9, .string s1, .string s2, .string s3, .string ⟨#[]⟩, .string s4, .slice none 0 0, .string ⟨#[]⟩, .int .i64 0, .slice none 0 0, .int .i64 0, .int .i64 0, .string ⟨#[]⟩, .string ⟨#[]⟩, .string ⟨#[]⟩, .int .i64 0, .bool false]) rfl
    refine bodyPost_ret (results_cell rfl _ rfl (lv_row (T := 31) Tryz.underlying31 (by kernel_rfl) XR.res rfl)) rfl ?_
    exact ⟨XR.kw, _, rfl, ⟨none, 0, none, 0, rfl, colsN_nil _ _ _ HB.out, namesN_nil _ _ _ HB.out, g1, g2, g3, szZ, g4, szZ, szZ, szZ, szZ⟩, XR.ds⟩
  · have qk : oneD (fun s => (s, kindB s != 0)) W d = (f, W0, true) := qk
    obtain ⟨s1, W1, d1, q1⟩ : ∃ a c e, nameD W0 true = (a, c, e) := ⟨_, _, _, rfl⟩
    obtain ⟨s2, W2, d2, q2⟩ : ∃ a c e, nameD W1 d1 = (a, c, e) := ⟨_, _, _, rfl⟩
    obtain ⟨s3, W3, d3, q3⟩ : ∃ a c e, nameD W2 d2 = (a, c, e) := ⟨_, _, _, rfl⟩
    obtain ⟨s4, W4, d4, q4⟩ : ∃ a c e, nameD W3 d3 = (a, c, e) := ⟨_, _, _, rfl⟩
    have e : cmdD W d = ({ zCmd with kind := 9, actor := s1, schema := s2, table := s3, role := s4 }, W4, d4) := by
      unfold cmdD
      rw [qk]
      simp [bindD, hk, tailD, q1, q2, q3, q4]
    rw [e]
    have H1 := Lib.hid (lname_at (b := b) (p := p) q1)
    have H2 := Lib.hid (lname_at (b := b) (p := p) q2)
    have H3 := Lib.hid (lname_at (b := b) (p := p) q3)
    have H4 := Lib.hid (lname_at (b := b) (p := p) q4)
    clear e hl qk q0 hk q1 q2 q3 q4
    go_enter Tryz.func34, Tryz.ntmps34
    go_wp2_with (first
      | (go_at_call 32; with_reducible refine (H0.out _ HX0.out.ds).mono ?_; rintro e w0 ⟨rfl, g0, l0, k0⟩; have X0 := HX0.out.call k0 l0; have y1 := l0.c1; have y2 := l0.f1; have y3 := l0.lt; have X1 := X0.boxBad true [.int .i64 9, .string ⟨#[]⟩, .string ⟨#[]⟩, .string ⟨#[]⟩, .string ⟨#[]⟩, .string ⟨#[]⟩, .slice none 0 0, .string ⟨#[]⟩, .int .i64 0, .slice none 0 0, .int .i64 0, .int .i64 0, .string ⟨#[]⟩, .string ⟨#[]⟩, .string ⟨#[]⟩, .int .i64 0, .bool false] 31; have z0 := X1.lt; obtain ⟨z00, z01, z02⟩ := z0; have X0s := Lib.hid X1; clear l0 k0 X0 X1)
      | (go_at_call 56; with_reducible refine (HK.out _).mono ?_; rintro e wk ⟨rfl, rfl⟩)
      | (go_at_call 57; with_reducible refine (H1.out _ X0s.out.nr.ds).mono ?_; rintro e w1 ⟨rfl, g1, m1, k1⟩; have X1 := X0s.out.call k1 m1; obtain ⟨ca1, fa1⟩ := X1.cf 1 (by simp); obtain ⟨cb1, fb1⟩ := X1.cf 0 (by simp); have z1 := X1.lt; obtain ⟨z10, z11, z12⟩ := z1; have X1s : Nx b p w.heap.size w0.heap.size w _ _ _ [.int .i64 0, .string ⟨#[]⟩, .string ⟨#[]⟩, .string ⟨#[]⟩, .string ⟨#[]⟩, .string ⟨#[]⟩, .slice none 0 0, .string ⟨#[]⟩, .int .i64 0, .slice none 0 0, .int .i64 0, .int .i64 0, .string ⟨#[]⟩, .string ⟨#[]⟩, .string ⟨#[]⟩, .int .i64 0, .bool false] [.int .i64 9, .string s1, .string ⟨#[]⟩, .string ⟨#[]⟩, .string ⟨#[]⟩, .string ⟨#[]⟩, .slice none 0 0, .string ⟨#[]⟩, .int .i64 0, .slice none 0 0, .int .i64 0, .int .i64 0, .string ⟨#[]⟩, .string ⟨#[]⟩, .string ⟨#[]⟩, .int .i64 0, .bool false] := X1.set 1 (.string s1) (by simp); have X1s := Lib.hid X1s; clear m1 k1 X1)
      | (go_at_call 57; with_reducible refine (H2.out _ X1s.out.nr.ds).mono ?_; rintro e w2 ⟨rfl, g2, m2, k2⟩; have X2 := X1s.out.call k2 m2; obtain ⟨ca2, fa2⟩ := X2.cf 2 (by simp); obtain ⟨cb2, fb2⟩ := X2.cf 0 (by simp); have z2 := X2.lt; obtain ⟨z20, z21, z22⟩ := z2; have X2s : Nx b p w.heap.size w0.heap.size w _ _ _ [.int .i64 0, .string ⟨#[]⟩, .string ⟨#[]⟩, .string ⟨#[]⟩, .string ⟨#[]⟩, .string ⟨#[]⟩, .slice none 0 0, .string ⟨#[]⟩, .int .i64 0, .slice none 0 0, .int .i64 0, .int .i64 0, .string ⟨#[]⟩, .string ⟨#[]⟩, .string ⟨#[]⟩, .int .i64 0, .bool false] [.int .i64 9, .string s1, .string s2, .string ⟨#[]⟩, .string ⟨#[]⟩, .string ⟨#[]⟩, .slice none 0 0, .string ⟨#[]⟩, .int .i64 0, .slice none 0 0, .int .i64 0, .int .i64 0, .string ⟨#[]⟩, .string ⟨#[]⟩, .string ⟨#[]⟩, .int .i64 0, .bool false] := X2.set 2 (.string s2) (by simp); have X2s := Lib.hid X2s; clear m2 k2 X2)
      | (go_at_call 57; with_reducible refine (H3.out _ X2s.out.nr.ds).mono ?_; rintro e w3 ⟨rfl, g3, m3, k3⟩; have X3 := X2s.out.call k3 m3; obtain ⟨ca3, fa3⟩ := X3.cf 3 (by simp); obtain ⟨cb3, fb3⟩ := X3.cf 0 (by simp); have z3 := X3.lt; obtain ⟨z30, z31, z32⟩ := z3; have X3s : Nx b p w.heap.size w0.heap.size w _ _ _ [.int .i64 0, .string ⟨#[]⟩, .string ⟨#[]⟩, .string ⟨#[]⟩, .string ⟨#[]⟩, .string ⟨#[]⟩, .slice none 0 0, .string ⟨#[]⟩, .int .i64 0, .slice none 0 0, .int .i64 0, .int .i64 0, .string ⟨#[]⟩, .string ⟨#[]⟩, .string ⟨#[]⟩, .int .i64 0, .bool false] [.int .i64 9, .string s1, .string s2, .string s3, .string ⟨#[]⟩, .string ⟨#[]⟩, .slice none 0 0, .string ⟨#[]⟩, .int .i64 0, .slice none 0 0, .int .i64 0, .int .i64 0, .string ⟨#[]⟩, .string ⟨#[]⟩, .string ⟨#[]⟩, .int .i64 0, .bool false] := X3.set 3 (.string s3) (by simp); have X3s := Lib.hid X3s; clear m3 k3 X3)
      | (go_at_call 57; with_reducible refine (H4.out _ X3s.out.nr.ds).mono ?_; rintro e w4 ⟨rfl, g4, m4, k4⟩; have X4 := X3s.out.call k4 m4; obtain ⟨ca4, fa4⟩ := X4.cf 5 (by simp); obtain ⟨cb4, fb4⟩ := X4.cf 0 (by simp); have z4 := X4.lt; obtain ⟨z40, z41, z42⟩ := z4; have X4s : Nx b p w.heap.size w0.heap.size w _ _ _ [.int .i64 0, .string ⟨#[]⟩, .string ⟨#[]⟩, .string ⟨#[]⟩, .string ⟨#[]⟩, .string ⟨#[]⟩, .slice none 0 0, .string ⟨#[]⟩, .int .i64 0, .slice none 0 0, .int .i64 0, .int .i64 0, .string ⟨#[]⟩, .string ⟨#[]⟩, .string ⟨#[]⟩, .int .i64 0, .bool false] [.int .i64 9, .string s1, .string s2, .string s3, .string ⟨#[]⟩, .string s4, .slice none 0 0, .string ⟨#[]⟩, .int .i64 0, .slice none 0 0, .int .i64 0, .int .i64 0, .string ⟨#[]⟩, .string ⟨#[]⟩, .string ⟨#[]⟩, .int .i64 0, .bool false] := X4.set 5 (.string s4) (by simp); have X4s := Lib.hid X4s; have e1 := lvCmd_row X4s.out.row rfl; have e2 := svCmd_row X4s.out.nr.res rfl rfl (vs := [.int .i64 9, .string s1, .string s2, .string s3, .string ⟨#[]⟩, .string s4, .slice none 0 0, .string ⟨#[]⟩, .int .i64 0, .slice none 0 0, .int .i64 0, .int .i64 0, .string ⟨#[]⟩, .string ⟨#[]⟩, .string ⟨#[]⟩, .int .i64 0, .bool false]) (by simp [Value.oneCell']); clear m4 k4 X4))
    have XR := X4s.out.nr.sets (cs := [.int .i64 9, .string s1, .string s2, .string s3, .string ⟨#[]⟩, .string s4, .slice none 0 0, .string ⟨#[]⟩, .int .i64 0, .slice none 0 0, .int .i64 0, .int .i64 0, .string ⟨#[]⟩, .string ⟨#[]⟩, .string ⟨#[]⟩, .int .i64 0, .bool false]) rfl
    refine bodyPost_ret (results_cell rfl _ rfl (lv_row (T := 31) Tryz.underlying31 (by kernel_rfl) XR.res rfl)) rfl ?_
    exact ⟨XR.kw, _, rfl, ⟨none, 0, none, 0, rfl, colsN_nil _ _ _ HB.out, namesN_nil _ _ _ HB.out, g1, g2, g3, szZ, g4, szZ, szZ, szZ, szZ⟩, XR.ds⟩
set_option maxHeartbeats 2000000 in
theorem commandN_10 (f : ByteArray) (W : Ws) (d : Bool) (W0 : Ws) (d0 : Bool) (q0 : wordD W d = (f, W0, d0)) (hk : kindB f = 10) (b p : Nat) (w : World) (hl : LnS w b p W d) : Calls Tryz.prog 34 #[.pointer (some ⟨b, 0, none⟩)] w (RdN b p w (CmdN b w.heap.size) (cmdD W d)) := by
  have H0 := Lib.hid (lword_at (b := b) (p := p) q0)
  have HK := Lib.hid (lkind_at hk)
  have qk := one_kind q0 hk
  have HX0 := Lib.hid (Nr.start hl [.int .i64 0, .string ⟨#[]⟩, .string ⟨#[]⟩, .string ⟨#[]⟩, .string ⟨#[]⟩, .string ⟨#[]⟩, .slice none 0 0, .string ⟨#[]⟩, .int .i64 0, .slice none 0 0, .int .i64 0, .int .i64 0, .string ⟨#[]⟩, .string ⟨#[]⟩, .string ⟨#[]⟩, .int .i64 0, .bool false] 31)
  have hb := hl.lt
  have HB := Lib.hid hb
  cases d0
  · have qk : oneD (fun s => (s, kindB s != 0)) W d = (f, W0, false) := qk
    obtain ⟨s1, W1, d1, q1⟩ : ∃ a c e, nameD W0 false = (a, c, e) := ⟨_, _, _, rfl⟩
    obtain ⟨s2, W2, d2, q2⟩ : ∃ a c e, nameD W1 d1 = (a, c, e) := ⟨_, _, _, rfl⟩
    have e : cmdD W d = ({ zCmd with kind := 10, actor := s1, role := s2 }, W2, d2) := by
      unfold cmdD
      rw [qk]
      simp [bindD, hk, tailD, q1, q2]
    rw [e]
    have H1 := Lib.hid (lname_at (b := b) (p := p) q1)
    have H2 := Lib.hid (lname_at (b := b) (p := p) q2)
    clear e hl qk q0 hk q1 q2
    go_enter Tryz.func34, Tryz.ntmps34
    go_wp2_with (first
      | (go_at_call 32; with_reducible refine (H0.out _ HX0.out.ds).mono ?_; rintro e w0 ⟨rfl, g0, l0, k0⟩; have X0 := HX0.out.call k0 l0; have y1 := l0.c1; have y2 := l0.f1; have y3 := l0.lt; have X1 := X0.boxBad false [.int .i64 10, .string ⟨#[]⟩, .string ⟨#[]⟩, .string ⟨#[]⟩, .string ⟨#[]⟩, .string ⟨#[]⟩, .slice none 0 0, .string ⟨#[]⟩, .int .i64 0, .slice none 0 0, .int .i64 0, .int .i64 0, .string ⟨#[]⟩, .string ⟨#[]⟩, .string ⟨#[]⟩, .int .i64 0, .bool false] 31; have z0 := X1.lt; obtain ⟨z00, z01, z02⟩ := z0; have X0s := Lib.hid X1; clear l0 k0 X0 X1)
      | (go_at_call 56; with_reducible refine (HK.out _).mono ?_; rintro e wk ⟨rfl, rfl⟩)
      | (go_at_call 57; with_reducible refine (H1.out _ X0s.out.nr.ds).mono ?_; rintro e w1 ⟨rfl, g1, m1, k1⟩; have X1 := X0s.out.call k1 m1; obtain ⟨ca1, fa1⟩ := X1.cf 1 (by simp); obtain ⟨cb1, fb1⟩ := X1.cf 0 (by simp); have z1 := X1.lt; obtain ⟨z10, z11, z12⟩ := z1; have X1s : Nx b p w.heap.size w0.heap.size w _ _ _ [.int .i64 0, .string ⟨#[]⟩, .string ⟨#[]⟩, .string ⟨#[]⟩, .string ⟨#[]⟩, .string ⟨#[]⟩, .slice none 0 0, .string ⟨#[]⟩, .int .i64 0, .slice none 0 0, .int .i64 0, .int .i64 0, .string ⟨#[]⟩, .string ⟨#[]⟩, .string ⟨#[]⟩, .int .i64 0, .bool false] [.int .i64 10, .string s1, .string ⟨#[]⟩, .string ⟨#[]⟩, .string ⟨#[]⟩, .string ⟨#[]⟩, .slice none 0 0, .string ⟨#[]⟩, .int .i64 0, .slice none 0 0, .int .i64 0, .int .i64 0, .string ⟨#[]⟩, .string ⟨#[]⟩, .string ⟨#[]⟩, .int .i64 0, .bool false] := X1.set 1 (.string s1) (by simp); have X1s := Lib.hid X1s; clear m1 k1 X1)
      | (go_at_call 57; with_reducible refine (H2.out _ X1s.out.nr.ds).mono ?_; rintro e w2 ⟨rfl, g2, m2, k2⟩; have X2 := X1s.out.call k2 m2; obtain ⟨ca2, fa2⟩ := X2.cf 5 (by simp); obtain ⟨cb2, fb2⟩ := X2.cf 0 (by simp); have z2 := X2.lt; obtain ⟨z20, z21, z22⟩ := z2; have X2s : Nx b p w.heap.size w0.heap.size w _ _ _ [.int .i64 0, .string ⟨#[]⟩, .string ⟨#[]⟩, .string ⟨#[]⟩, .string ⟨#[]⟩, .string ⟨#[]⟩, .slice none 0 0, .string ⟨#[]⟩, .int .i64 0, .slice none 0 0, .int .i64 0, .int .i64 0, .string ⟨#[]⟩, .string ⟨#[]⟩, .string ⟨#[]⟩, .int .i64 0, .bool false] [.int .i64 10, .string s1, .string ⟨#[]⟩, .string ⟨#[]⟩, .string ⟨#[]⟩, .string s2, .slice none 0 0, .string ⟨#[]⟩, .int .i64 0, .slice none 0 0, .int .i64 0, .int .i64 0, .string ⟨#[]⟩, .string ⟨#[]⟩, .string ⟨#[]⟩, .int .i64 0, .bool false] := X2.set 5 (.string s2) (by simp); have X2s := Lib.hid X2s; have e1 := lvCmd_row X2s.out.row rfl; have e2 := svCmd_row X2s.out.nr.res rfl rfl (vs := [.int .i64 10, .string s1, .string ⟨#[]⟩, .string ⟨#[]⟩, .string ⟨#[]⟩, .string s2, .slice none 0 0, .string ⟨#[]⟩, .int .i64 0, .slice none 0 0, .int .i64 0, .int .i64 0, .string ⟨#[]⟩, .string ⟨#[]⟩, .string ⟨#[]⟩, .int .i64 0, .bool false]) (by simp [Value.oneCell']); clear m2 k2 X2))
    have XR := X2s.out.nr.sets (cs := [.int .i64 10, .string s1, .string ⟨#[]⟩, .string ⟨#[]⟩, .string ⟨#[]⟩, .string s2, .slice none 0 0, .string ⟨#[]⟩, .int .i64 0, .slice none 0 0, .int .i64 0, .int .i64 0, .string ⟨#[]⟩, .string ⟨#[]⟩, .string ⟨#[]⟩, .int .i64 0, .bool false]) rfl
    refine bodyPost_ret (results_cell rfl _ rfl (lv_row (T := 31) Tryz.underlying31 (by kernel_rfl) XR.res rfl)) rfl ?_
    exact ⟨XR.kw, _, rfl, ⟨none, 0, none, 0, rfl, colsN_nil _ _ _ HB.out, namesN_nil _ _ _ HB.out, g1, szZ, szZ, szZ, g2, szZ, szZ, szZ, szZ⟩, XR.ds⟩
  · have qk : oneD (fun s => (s, kindB s != 0)) W d = (f, W0, true) := qk
    obtain ⟨s1, W1, d1, q1⟩ : ∃ a c e, nameD W0 true = (a, c, e) := ⟨_, _, _, rfl⟩
    obtain ⟨s2, W2, d2, q2⟩ : ∃ a c e, nameD W1 d1 = (a, c, e) := ⟨_, _, _, rfl⟩
    have e : cmdD W d = ({ zCmd with kind := 10, actor := s1, role := s2 }, W2, d2) := by
      unfold cmdD
      rw [qk]
      simp [bindD, hk, tailD, q1, q2]
    rw [e]
    have H1 := Lib.hid (lname_at (b := b) (p := p) q1)
    have H2 := Lib.hid (lname_at (b := b) (p := p) q2)
    clear e hl qk q0 hk q1 q2
    go_enter Tryz.func34, Tryz.ntmps34
    go_wp2_with (first
      | (go_at_call 32; with_reducible refine (H0.out _ HX0.out.ds).mono ?_; rintro e w0 ⟨rfl, g0, l0, k0⟩; have X0 := HX0.out.call k0 l0; have y1 := l0.c1; have y2 := l0.f1; have y3 := l0.lt; have X1 := X0.boxBad true [.int .i64 10, .string ⟨#[]⟩, .string ⟨#[]⟩, .string ⟨#[]⟩, .string ⟨#[]⟩, .string ⟨#[]⟩, .slice none 0 0, .string ⟨#[]⟩, .int .i64 0, .slice none 0 0, .int .i64 0, .int .i64 0, .string ⟨#[]⟩, .string ⟨#[]⟩, .string ⟨#[]⟩, .int .i64 0, .bool false] 31; have z0 := X1.lt; obtain ⟨z00, z01, z02⟩ := z0; have X0s := Lib.hid X1; clear l0 k0 X0 X1)
      | (go_at_call 56; with_reducible refine (HK.out _).mono ?_; rintro e wk ⟨rfl, rfl⟩)
      | (go_at_call 57; with_reducible refine (H1.out _ X0s.out.nr.ds).mono ?_; rintro e w1 ⟨rfl, g1, m1, k1⟩; have X1 := X0s.out.call k1 m1; obtain ⟨ca1, fa1⟩ := X1.cf 1 (by simp); obtain ⟨cb1, fb1⟩ := X1.cf 0 (by simp); have z1 := X1.lt; obtain ⟨z10, z11, z12⟩ := z1; have X1s : Nx b p w.heap.size w0.heap.size w _ _ _ [.int .i64 0, .string ⟨#[]⟩, .string ⟨#[]⟩, .string ⟨#[]⟩, .string ⟨#[]⟩, .string ⟨#[]⟩, .slice none 0 0, .string ⟨#[]⟩, .int .i64 0, .slice none 0 0, .int .i64 0, .int .i64 0, .string ⟨#[]⟩, .string ⟨#[]⟩, .string ⟨#[]⟩, .int .i64 0, .bool false] [.int .i64 10, .string s1, .string ⟨#[]⟩, .string ⟨#[]⟩, .string ⟨#[]⟩, .string ⟨#[]⟩, .slice none 0 0, .string ⟨#[]⟩, .int .i64 0, .slice none 0 0, .int .i64 0, .int .i64 0, .string ⟨#[]⟩, .string ⟨#[]⟩, .string ⟨#[]⟩, .int .i64 0, .bool false] := X1.set 1 (.string s1) (by simp); have X1s := Lib.hid X1s; clear m1 k1 X1)
      | (go_at_call 57; with_reducible refine (H2.out _ X1s.out.nr.ds).mono ?_; rintro e w2 ⟨rfl, g2, m2, k2⟩; have X2 := X1s.out.call k2 m2; obtain ⟨ca2, fa2⟩ := X2.cf 5 (by simp); obtain ⟨cb2, fb2⟩ := X2.cf 0 (by simp); have z2 := X2.lt; obtain ⟨z20, z21, z22⟩ := z2; have X2s : Nx b p w.heap.size w0.heap.size w _ _ _ [.int .i64 0, .string ⟨#[]⟩, .string ⟨#[]⟩, .string ⟨#[]⟩, .string ⟨#[]⟩, .string ⟨#[]⟩, .slice none 0 0, .string ⟨#[]⟩, .int .i64 0, .slice none 0 0, .int .i64 0, .int .i64 0, .string ⟨#[]⟩, .string ⟨#[]⟩, .string ⟨#[]⟩, .int .i64 0, .bool false] [.int .i64 10, .string s1, .string ⟨#[]⟩, .string ⟨#[]⟩, .string ⟨#[]⟩, .string s2, .slice none 0 0, .string ⟨#[]⟩, .int .i64 0, .slice none 0 0, .int .i64 0, .int .i64 0, .string ⟨#[]⟩, .string ⟨#[]⟩, .string ⟨#[]⟩, .int .i64 0, .bool false] := X2.set 5 (.string s2) (by simp); have X2s := Lib.hid X2s; have e1 := lvCmd_row X2s.out.row rfl; have e2 := svCmd_row X2s.out.nr.res rfl rfl (vs := [.int .i64 10, .string s1, .string ⟨#[]⟩, .string ⟨#[]⟩, .string ⟨#[]⟩, .string s2, .slice none 0 0, .string ⟨#[]⟩, .int .i64 0, .slice none 0 0, .int .i64 0, .int .i64 0, .string ⟨#[]⟩, .string ⟨#[]⟩, .string ⟨#[]⟩, .int .i64 0, .bool false]) (by simp [Value.oneCell']); clear m2 k2 X2))
    have XR := X2s.out.nr.sets (cs := [.int .i64 10, .string s1, .string ⟨#[]⟩, .string ⟨#[]⟩, .string ⟨#[]⟩, .string s2, .slice none 0 0, .string ⟨#[]⟩, .int .i64 0, .slice none 0 0, .int .i64 0, .int .i64 0, .string ⟨#[]⟩, .string ⟨#[]⟩, .string ⟨#[]⟩, .int .i64 0, .bool false]) rfl
    refine bodyPost_ret (results_cell rfl _ rfl (lv_row (T := 31) Tryz.underlying31 (by kernel_rfl) XR.res rfl)) rfl ?_
    exact ⟨XR.kw, _, rfl, ⟨none, 0, none, 0, rfl, colsN_nil _ _ _ HB.out, namesN_nil _ _ _ HB.out, g1, szZ, szZ, szZ, g2, szZ, szZ, szZ, szZ⟩, XR.ds⟩
set_option maxHeartbeats 2000000 in
theorem commandN_11 (f : ByteArray) (W : Ws) (d : Bool) (W0 : Ws) (d0 : Bool) (q0 : wordD W d = (f, W0, d0)) (hk : kindB f = 11) (b p : Nat) (w : World) (hl : LnS w b p W d) : Calls Tryz.prog 34 #[.pointer (some ⟨b, 0, none⟩)] w (RdN b p w (CmdN b w.heap.size) (cmdD W d)) := by
  have H0 := Lib.hid (lword_at (b := b) (p := p) q0)
  have HK := Lib.hid (lkind_at hk)
  have qk := one_kind q0 hk
  have HX0 := Lib.hid (Nr.start hl [.int .i64 0, .string ⟨#[]⟩, .string ⟨#[]⟩, .string ⟨#[]⟩, .string ⟨#[]⟩, .string ⟨#[]⟩, .slice none 0 0, .string ⟨#[]⟩, .int .i64 0, .slice none 0 0, .int .i64 0, .int .i64 0, .string ⟨#[]⟩, .string ⟨#[]⟩, .string ⟨#[]⟩, .int .i64 0, .bool false] 31)
  have hb := hl.lt
  have HB := Lib.hid hb
  cases d0
  · have qk : oneD (fun s => (s, kindB s != 0)) W d = (f, W0, false) := qk
    obtain ⟨s1, W1, d1, q1⟩ : ∃ a c e, nameD W0 false = (a, c, e) := ⟨_, _, _, rfl⟩
    obtain ⟨s2, W2, d2, q2⟩ : ∃ a c e, nameD W1 d1 = (a, c, e) := ⟨_, _, _, rfl⟩
    have e : cmdD W d = ({ zCmd with kind := 11, actor := s1, role := s2 }, W2, d2) := by
      unfold cmdD
      rw [qk]
      simp [bindD, hk, tailD, q1, q2]
    rw [e]
    have H1 := Lib.hid (lname_at (b := b) (p := p) q1)
    have H2 := Lib.hid (lname_at (b := b) (p := p) q2)
    clear e hl qk q0 hk q1 q2
    go_enter Tryz.func34, Tryz.ntmps34
    go_wp2_with (first
      | (go_at_call 32; with_reducible refine (H0.out _ HX0.out.ds).mono ?_; rintro e w0 ⟨rfl, g0, l0, k0⟩; have X0 := HX0.out.call k0 l0; have y1 := l0.c1; have y2 := l0.f1; have y3 := l0.lt; have X1 := X0.boxBad false [.int .i64 11, .string ⟨#[]⟩, .string ⟨#[]⟩, .string ⟨#[]⟩, .string ⟨#[]⟩, .string ⟨#[]⟩, .slice none 0 0, .string ⟨#[]⟩, .int .i64 0, .slice none 0 0, .int .i64 0, .int .i64 0, .string ⟨#[]⟩, .string ⟨#[]⟩, .string ⟨#[]⟩, .int .i64 0, .bool false] 31; have z0 := X1.lt; obtain ⟨z00, z01, z02⟩ := z0; have X0s := Lib.hid X1; clear l0 k0 X0 X1)
      | (go_at_call 56; with_reducible refine (HK.out _).mono ?_; rintro e wk ⟨rfl, rfl⟩)
      | (go_at_call 57; with_reducible refine (H1.out _ X0s.out.nr.ds).mono ?_; rintro e w1 ⟨rfl, g1, m1, k1⟩; have X1 := X0s.out.call k1 m1; obtain ⟨ca1, fa1⟩ := X1.cf 1 (by simp); obtain ⟨cb1, fb1⟩ := X1.cf 0 (by simp); have z1 := X1.lt; obtain ⟨z10, z11, z12⟩ := z1; have X1s : Nx b p w.heap.size w0.heap.size w _ _ _ [.int .i64 0, .string ⟨#[]⟩, .string ⟨#[]⟩, .string ⟨#[]⟩, .string ⟨#[]⟩, .string ⟨#[]⟩, .slice none 0 0, .string ⟨#[]⟩, .int .i64 0, .slice none 0 0, .int .i64 0, .int .i64 0, .string ⟨#[]⟩, .string ⟨#[]⟩, .string ⟨#[]⟩, .int .i64 0, .bool false] [.int .i64 11, .string s1, .string ⟨#[]⟩, .string ⟨#[]⟩, .string ⟨#[]⟩, .string ⟨#[]⟩, .slice none 0 0, .string ⟨#[]⟩, .int .i64 0, .slice none 0 0, .int .i64 0, .int .i64 0, .string ⟨#[]⟩, .string ⟨#[]⟩, .string ⟨#[]⟩, .int .i64 0, .bool false] := X1.set 1 (.string s1) (by simp); have X1s := Lib.hid X1s; clear m1 k1 X1)
      | (go_at_call 57; with_reducible refine (H2.out _ X1s.out.nr.ds).mono ?_; rintro e w2 ⟨rfl, g2, m2, k2⟩; have X2 := X1s.out.call k2 m2; obtain ⟨ca2, fa2⟩ := X2.cf 5 (by simp); obtain ⟨cb2, fb2⟩ := X2.cf 0 (by simp); have z2 := X2.lt; obtain ⟨z20, z21, z22⟩ := z2; have X2s : Nx b p w.heap.size w0.heap.size w _ _ _ [.int .i64 0, .string ⟨#[]⟩, .string ⟨#[]⟩, .string ⟨#[]⟩, .string ⟨#[]⟩, .string ⟨#[]⟩, .slice none 0 0, .string ⟨#[]⟩, .int .i64 0, .slice none 0 0, .int .i64 0, .int .i64 0, .string ⟨#[]⟩, .string ⟨#[]⟩, .string ⟨#[]⟩, .int .i64 0, .bool false] [.int .i64 11, .string s1, .string ⟨#[]⟩, .string ⟨#[]⟩, .string ⟨#[]⟩, .string s2, .slice none 0 0, .string ⟨#[]⟩, .int .i64 0, .slice none 0 0, .int .i64 0, .int .i64 0, .string ⟨#[]⟩, .string ⟨#[]⟩, .string ⟨#[]⟩, .int .i64 0, .bool false] := X2.set 5 (.string s2) (by simp); have X2s := Lib.hid X2s; have e1 := lvCmd_row X2s.out.row rfl; have e2 := svCmd_row X2s.out.nr.res rfl rfl (vs := [.int .i64 11, .string s1, .string ⟨#[]⟩, .string ⟨#[]⟩, .string ⟨#[]⟩, .string s2, .slice none 0 0, .string ⟨#[]⟩, .int .i64 0, .slice none 0 0, .int .i64 0, .int .i64 0, .string ⟨#[]⟩, .string ⟨#[]⟩, .string ⟨#[]⟩, .int .i64 0, .bool false]) (by simp [Value.oneCell']); clear m2 k2 X2))
    have XR := X2s.out.nr.sets (cs := [.int .i64 11, .string s1, .string ⟨#[]⟩, .string ⟨#[]⟩, .string ⟨#[]⟩, .string s2, .slice none 0 0, .string ⟨#[]⟩, .int .i64 0, .slice none 0 0, .int .i64 0, .int .i64 0, .string ⟨#[]⟩, .string ⟨#[]⟩, .string ⟨#[]⟩, .int .i64 0, .bool false]) rfl
    refine bodyPost_ret (results_cell rfl _ rfl (lv_row (T := 31) Tryz.underlying31 (by kernel_rfl) XR.res rfl)) rfl ?_
    exact ⟨XR.kw, _, rfl, ⟨none, 0, none, 0, rfl, colsN_nil _ _ _ HB.out, namesN_nil _ _ _ HB.out, g1, szZ, szZ, szZ, g2, szZ, szZ, szZ, szZ⟩, XR.ds⟩
  · have qk : oneD (fun s => (s, kindB s != 0)) W d = (f, W0, true) := qk
    obtain ⟨s1, W1, d1, q1⟩ : ∃ a c e, nameD W0 true = (a, c, e) := ⟨_, _, _, rfl⟩
    obtain ⟨s2, W2, d2, q2⟩ : ∃ a c e, nameD W1 d1 = (a, c, e) := ⟨_, _, _, rfl⟩
    have e : cmdD W d = ({ zCmd with kind := 11, actor := s1, role := s2 }, W2, d2) := by
      unfold cmdD
      rw [qk]
      simp [bindD, hk, tailD, q1, q2]
    rw [e]
    have H1 := Lib.hid (lname_at (b := b) (p := p) q1)
    have H2 := Lib.hid (lname_at (b := b) (p := p) q2)
    clear e hl qk q0 hk q1 q2
    go_enter Tryz.func34, Tryz.ntmps34
    go_wp2_with (first
      | (go_at_call 32; with_reducible refine (H0.out _ HX0.out.ds).mono ?_; rintro e w0 ⟨rfl, g0, l0, k0⟩; have X0 := HX0.out.call k0 l0; have y1 := l0.c1; have y2 := l0.f1; have y3 := l0.lt; have X1 := X0.boxBad true [.int .i64 11, .string ⟨#[]⟩, .string ⟨#[]⟩, .string ⟨#[]⟩, .string ⟨#[]⟩, .string ⟨#[]⟩, .slice none 0 0, .string ⟨#[]⟩, .int .i64 0, .slice none 0 0, .int .i64 0, .int .i64 0, .string ⟨#[]⟩, .string ⟨#[]⟩, .string ⟨#[]⟩, .int .i64 0, .bool false] 31; have z0 := X1.lt; obtain ⟨z00, z01, z02⟩ := z0; have X0s := Lib.hid X1; clear l0 k0 X0 X1)
      | (go_at_call 56; with_reducible refine (HK.out _).mono ?_; rintro e wk ⟨rfl, rfl⟩)
      | (go_at_call 57; with_reducible refine (H1.out _ X0s.out.nr.ds).mono ?_; rintro e w1 ⟨rfl, g1, m1, k1⟩; have X1 := X0s.out.call k1 m1; obtain ⟨ca1, fa1⟩ := X1.cf 1 (by simp); obtain ⟨cb1, fb1⟩ := X1.cf 0 (by simp); have z1 := X1.lt; obtain ⟨z10, z11, z12⟩ := z1; have X1s : Nx b p w.heap.size w0.heap.size w _ _ _ [.int .i64 0, .string ⟨#[]⟩, .string ⟨#[]⟩, .string ⟨#[]⟩, .string ⟨#[]⟩, .string ⟨#[]⟩, .slice none 0 0, .string ⟨#[]⟩, .int .i64 0, .slice none 0 0, .int .i64 0, .int .i64 0, .string ⟨#[]⟩, .string ⟨#[]⟩, .string ⟨#[]⟩, .int .i64 0, .bool false] [.int .i64 11, .string s1, .string ⟨#[]⟩, .string ⟨#[]⟩, .string ⟨#[]⟩, .string ⟨#[]⟩, .slice none 0 0, .string ⟨#[]⟩, .int .i64 0, .slice none 0 0, .int .i64 0, .int .i64 0, .string ⟨#[]⟩, .string ⟨#[]⟩, .string ⟨#[]⟩, .int .i64 0, .bool false] := X1.set 1 (.string s1) (by simp); have X1s := Lib.hid X1s; clear m1 k1 X1)
      | (go_at_call 57; with_reducible refine (H2.out _ X1s.out.nr.ds).mono ?_; rintro e w2 ⟨rfl, g2, m2, k2⟩; have X2 := X1s.out.call k2 m2; obtain ⟨ca2, fa2⟩ := X2.cf 5 (by simp); obtain ⟨cb2, fb2⟩ := X2.cf 0 (by simp); have z2 := X2.lt; obtain ⟨z20, z21, z22⟩ := z2; have X2s : Nx b p w.heap.size w0.heap.size w _ _ _ [.int .i64 0, .string ⟨#[]⟩, .string ⟨#[]⟩, .string ⟨#[]⟩, .string ⟨#[]⟩, .string ⟨#[]⟩, .slice none 0 0, .string ⟨#[]⟩, .int .i64 0, .slice none 0 0, .int .i64 0, .int .i64 0, .string ⟨#[]⟩, .string ⟨#[]⟩, .string ⟨#[]⟩, .int .i64 0, .bool false] [.int .i64 11, .string s1, .string ⟨#[]⟩, .string ⟨#[]⟩, .string ⟨#[]⟩, .string s2, .slice none 0 0, .string ⟨#[]⟩, .int .i64 0, .slice none 0 0, .int .i64 0, .int .i64 0, .string ⟨#[]⟩, .string ⟨#[]⟩, .string ⟨#[]⟩, .int .i64 0, .bool false] := X2.set 5 (.string s2) (by simp); have X2s := Lib.hid X2s; have e1 := lvCmd_row X2s.out.row rfl; have e2 := svCmd_row X2s.out.nr.res rfl rfl (vs := [.int .i64 11, .string s1, .string ⟨#[]⟩, .string ⟨#[]⟩, .string ⟨#[]⟩, .string s2, .slice none 0 0, .string ⟨#[]⟩, .int .i64 0, .slice none 0 0, .int .i64 0, .int .i64 0, .string ⟨#[]⟩, .string ⟨#[]⟩, .string ⟨#[]⟩, .int .i64 0, .bool false]) (by simp [Value.oneCell']); clear m2 k2 X2))
    have XR := X2s.out.nr.sets (cs := [.int .i64 11, .string s1, .string ⟨#[]⟩, .string ⟨#[]⟩, .string ⟨#[]⟩, .string s2, .slice none 0 0, .string ⟨#[]⟩, .int .i64 0, .slice none 0 0, .int .i64 0, .int .i64 0, .string ⟨#[]⟩, .string ⟨#[]⟩, .string ⟨#[]⟩, .int .i64 0, .bool false]) rfl
    refine bodyPost_ret (results_cell rfl _ rfl (lv_row (T := 31) Tryz.underlying31 (by kernel_rfl) XR.res rfl)) rfl ?_
    exact ⟨XR.kw, _, rfl, ⟨none, 0, none, 0, rfl, colsN_nil _ _ _ HB.out, namesN_nil _ _ _ HB.out, g1, szZ, szZ, szZ, g2, szZ, szZ, szZ, szZ⟩, XR.ds⟩
set_option maxHeartbeats 2000000 in
theorem commandN_12 (f : ByteArray) (W : Ws) (d : Bool) (W0 : Ws) (d0 : Bool) (q0 : wordD W d = (f, W0, d0)) (hk : kindB f = 12) (b p : Nat) (w : World) (hl : LnS w b p W d) : Calls Tryz.prog 34 #[.pointer (some ⟨b, 0, none⟩)] w (RdN b p w (CmdN b w.heap.size) (cmdD W d)) := by
  have H0 := Lib.hid (lword_at (b := b) (p := p) q0)
  have HK := Lib.hid (lkind_at hk)
  have qk := one_kind q0 hk
  have HX0 := Lib.hid (Nr.start hl [.int .i64 0, .string ⟨#[]⟩, .string ⟨#[]⟩, .string ⟨#[]⟩, .string ⟨#[]⟩, .string ⟨#[]⟩, .slice none 0 0, .string ⟨#[]⟩, .int .i64 0, .slice none 0 0, .int .i64 0, .int .i64 0, .string ⟨#[]⟩, .string ⟨#[]⟩, .string ⟨#[]⟩, .int .i64 0, .bool false] 31)
  have hb := hl.lt
  have HB := Lib.hid hb
  cases d0
  · have qk : oneD (fun s => (s, kindB s != 0)) W d = (f, W0, false) := qk
    obtain ⟨s1, W1, d1, q1⟩ : ∃ a c e, nameD W0 false = (a, c, e) := ⟨_, _, _, rfl⟩
    obtain ⟨s2, W2, d2, q2⟩ : ∃ a c e, nameD W1 d1 = (a, c, e) := ⟨_, _, _, rfl⟩
    obtain ⟨s3, W3, d3, q3⟩ : ∃ a c e, nameD W2 d2 = (a, c, e) := ⟨_, _, _, rfl⟩
    have e : cmdD W d = ({ zCmd with kind := 12, actor := s1, role := s2, name := s3 }, W3, d3) := by
      unfold cmdD
      rw [qk]
      simp [bindD, hk, tailD, q1, q2, q3]
    rw [e]
    have H1 := Lib.hid (lname_at (b := b) (p := p) q1)
    have H2 := Lib.hid (lname_at (b := b) (p := p) q2)
    have H3 := Lib.hid (lname_at (b := b) (p := p) q3)
    clear e hl qk q0 hk q1 q2 q3
    go_enter Tryz.func34, Tryz.ntmps34
    go_wp2_with (first
      | (go_at_call 32; with_reducible refine (H0.out _ HX0.out.ds).mono ?_; rintro e w0 ⟨rfl, g0, l0, k0⟩; have X0 := HX0.out.call k0 l0; have y1 := l0.c1; have y2 := l0.f1; have y3 := l0.lt; have X1 := X0.boxBad false [.int .i64 12, .string ⟨#[]⟩, .string ⟨#[]⟩, .string ⟨#[]⟩, .string ⟨#[]⟩, .string ⟨#[]⟩, .slice none 0 0, .string ⟨#[]⟩, .int .i64 0, .slice none 0 0, .int .i64 0, .int .i64 0, .string ⟨#[]⟩, .string ⟨#[]⟩, .string ⟨#[]⟩, .int .i64 0, .bool false] 31; have z0 := X1.lt; obtain ⟨z00, z01, z02⟩ := z0; have X0s := Lib.hid X1; clear l0 k0 X0 X1)
      | (go_at_call 56; with_reducible refine (HK.out _).mono ?_; rintro e wk ⟨rfl, rfl⟩)
      | (go_at_call 57; with_reducible refine (H1.out _ X0s.out.nr.ds).mono ?_; rintro e w1 ⟨rfl, g1, m1, k1⟩; have X1 := X0s.out.call k1 m1; obtain ⟨ca1, fa1⟩ := X1.cf 1 (by simp); obtain ⟨cb1, fb1⟩ := X1.cf 0 (by simp); have z1 := X1.lt; obtain ⟨z10, z11, z12⟩ := z1; have X1s : Nx b p w.heap.size w0.heap.size w _ _ _ [.int .i64 0, .string ⟨#[]⟩, .string ⟨#[]⟩, .string ⟨#[]⟩, .string ⟨#[]⟩, .string ⟨#[]⟩, .slice none 0 0, .string ⟨#[]⟩, .int .i64 0, .slice none 0 0, .int .i64 0, .int .i64 0, .string ⟨#[]⟩, .string ⟨#[]⟩, .string ⟨#[]⟩, .int .i64 0, .bool false] [.int .i64 12, .string s1, .string ⟨#[]⟩, .string ⟨#[]⟩, .string ⟨#[]⟩, .string ⟨#[]⟩, .slice none 0 0, .string ⟨#[]⟩, .int .i64 0, .slice none 0 0, .int .i64 0, .int .i64 0, .string ⟨#[]⟩, .string ⟨#[]⟩, .string ⟨#[]⟩, .int .i64 0, .bool false] := X1.set 1 (.string s1) (by simp); have X1s := Lib.hid X1s; clear m1 k1 X1)
      | (go_at_call 57; with_reducible refine (H2.out _ X1s.out.nr.ds).mono ?_; rintro e w2 ⟨rfl, g2, m2, k2⟩; have X2 := X1s.out.call k2 m2; obtain ⟨ca2, fa2⟩ := X2.cf 5 (by simp); obtain ⟨cb2, fb2⟩ := X2.cf 0 (by simp); have z2 := X2.lt; obtain ⟨z20, z21, z22⟩ := z2; have X2s : Nx b p w.heap.size w0.heap.size w _ _ _ [.int .i64 0, .string ⟨#[]⟩, .string ⟨#[]⟩, .string ⟨#[]⟩, .string ⟨#[]⟩, .string ⟨#[]⟩, .slice none 0 0, .string ⟨#[]⟩, .int .i64 0, .slice none 0 0, .int .i64 0, .int .i64 0, .string ⟨#[]⟩, .string ⟨#[]⟩, .string ⟨#[]⟩, .int .i64 0, .bool false] [.int .i64 12, .string s1, .string ⟨#[]⟩, .string ⟨#[]⟩, .string ⟨#[]⟩, .string s2, .slice none 0 0, .string ⟨#[]⟩, .int .i64 0, .slice none 0 0, .int .i64 0, .int .i64 0, .string ⟨#[]⟩, .string ⟨#[]⟩, .string ⟨#[]⟩, .int .i64 0, .bool false] := X2.set 5 (.string s2) (by simp); have X2s := Lib.hid X2s; clear m2 k2 X2)
      | (go_at_call 57; with_reducible refine (H3.out _ X2s.out.nr.ds).mono ?_; rintro e w3 ⟨rfl, g3, m3, k3⟩; have X3 := X2s.out.call k3 m3; obtain ⟨ca3, fa3⟩ := X3.cf 4 (by simp); obtain ⟨cb3, fb3⟩ := X3.cf 0 (by simp); have z3 := X3.lt; obtain ⟨z30, z31, z32⟩ := z3; have X3s : Nx b p w.heap.size w0.heap.size w _ _ _ [.int .i64 0, .string ⟨#[]⟩, .string ⟨#[]⟩, .string ⟨#[]⟩, .string ⟨#[]⟩, .string ⟨#[]⟩, .slice none 0 0, .string ⟨#[]⟩, .int .i64 0, .slice none 0 0, .int .i64 0, .int .i64 0, .string ⟨#[]⟩, .string ⟨#[]⟩, .string ⟨#[]⟩, .int .i64 0, .bool false] [.int .i64 12, .string s1, .string ⟨#[]⟩, .string ⟨#[]⟩, .string s3, .string s2, .slice none 0 0, .string ⟨#[]⟩, .int .i64 0, .slice none 0 0, .int .i64 0, .int .i64 0, .string ⟨#[]⟩, .string ⟨#[]⟩, .string ⟨#[]⟩, .int .i64 0, .bool false] := X3.set 4 (.string s3) (by simp); have X3s := Lib.hid X3s; have e1 := lvCmd_row X3s.out.row rfl; have e2 := svCmd_row X3s.out.nr.res rfl rfl (vs := [.int .i64 12, .string s1, .string ⟨#[]⟩, .string ⟨#[]⟩, .string s3, .string s2, .slice none 0 0, .string ⟨#[]⟩, .int .i64 0, .slice none 0 0, .int .i64 0, .int .i64 0, .string ⟨#[]⟩, .string ⟨#[]⟩, .string ⟨#[]⟩, .int .i64 0, .bool false]) (by simp [Value.oneCell']); clear m3 k3 X3))
    have XR := X3s.out.nr.sets (cs := [.int .i64 12, .string s1, .string ⟨#[]⟩, .string ⟨#[]⟩, .string s3, .string s2, .slice none 0 0, .string ⟨#[]⟩, .int .i64 0, .slice none 0 0, .int .i64 0, .int .i64 0, .string ⟨#[]⟩, .string ⟨#[]⟩, .string ⟨#[]⟩, .int .i64 0, .bool false]) rfl
    refine bodyPost_ret (results_cell rfl _ rfl (lv_row (T := 31) Tryz.underlying31 (by kernel_rfl) XR.res rfl)) rfl ?_
    exact ⟨XR.kw, _, rfl, ⟨none, 0, none, 0, rfl, colsN_nil _ _ _ HB.out, namesN_nil _ _ _ HB.out, g1, szZ, szZ, g3, g2, szZ, szZ, szZ, szZ⟩, XR.ds⟩
  · have qk : oneD (fun s => (s, kindB s != 0)) W d = (f, W0, true) := qk
    obtain ⟨s1, W1, d1, q1⟩ : ∃ a c e, nameD W0 true = (a, c, e) := ⟨_, _, _, rfl⟩
    obtain ⟨s2, W2, d2, q2⟩ : ∃ a c e, nameD W1 d1 = (a, c, e) := ⟨_, _, _, rfl⟩
    obtain ⟨s3, W3, d3, q3⟩ : ∃ a c e, nameD W2 d2 = (a, c, e) := ⟨_, _, _, rfl⟩
    have e : cmdD W d = ({ zCmd with kind := 12, actor := s1, role := s2, name := s3 }, W3, d3) := by
      unfold cmdD
      rw [qk]
      simp [bindD, hk, tailD, q1, q2, q3]
    rw [e]
    have H1 := Lib.hid (lname_at (b := b) (p := p) q1)
    have H2 := Lib.hid (lname_at (b := b) (p := p) q2)
    have H3 := Lib.hid (lname_at (b := b) (p := p) q3)
    clear e hl qk q0 hk q1 q2 q3
    go_enter Tryz.func34, Tryz.ntmps34
    go_wp2_with (first
      | (go_at_call 32; with_reducible refine (H0.out _ HX0.out.ds).mono ?_; rintro e w0 ⟨rfl, g0, l0, k0⟩; have X0 := HX0.out.call k0 l0; have y1 := l0.c1; have y2 := l0.f1; have y3 := l0.lt; have X1 := X0.boxBad true [.int .i64 12, .string ⟨#[]⟩, .string ⟨#[]⟩, .string ⟨#[]⟩, .string ⟨#[]⟩, .string ⟨#[]⟩, .slice none 0 0, .string ⟨#[]⟩, .int .i64 0, .slice none 0 0, .int .i64 0, .int .i64 0, .string ⟨#[]⟩, .string ⟨#[]⟩, .string ⟨#[]⟩, .int .i64 0, .bool false] 31; have z0 := X1.lt; obtain ⟨z00, z01, z02⟩ := z0; have X0s := Lib.hid X1; clear l0 k0 X0 X1)
      | (go_at_call 56; with_reducible refine (HK.out _).mono ?_; rintro e wk ⟨rfl, rfl⟩)
      | (go_at_call 57; with_reducible refine (H1.out _ X0s.out.nr.ds).mono ?_; rintro e w1 ⟨rfl, g1, m1, k1⟩; have X1 := X0s.out.call k1 m1; obtain ⟨ca1, fa1⟩ := X1.cf 1 (by simp); obtain ⟨cb1, fb1⟩ := X1.cf 0 (by simp); have z1 := X1.lt; obtain ⟨z10, z11, z12⟩ := z1; have X1s : Nx b p w.heap.size w0.heap.size w _ _ _ [.int .i64 0, .string ⟨#[]⟩, .string ⟨#[]⟩, .string ⟨#[]⟩, .string ⟨#[]⟩, .string ⟨#[]⟩, .slice none 0 0, .string ⟨#[]⟩, .int .i64 0, .slice none 0 0, .int .i64 0, .int .i64 0, .string ⟨#[]⟩, .string ⟨#[]⟩, .string ⟨#[]⟩, .int .i64 0, .bool false] [.int .i64 12, .string s1, .string ⟨#[]⟩, .string ⟨#[]⟩, .string ⟨#[]⟩, .string ⟨#[]⟩, .slice none 0 0, .string ⟨#[]⟩, .int .i64 0, .slice none 0 0, .int .i64 0, .int .i64 0, .string ⟨#[]⟩, .string ⟨#[]⟩, .string ⟨#[]⟩, .int .i64 0, .bool false] := X1.set 1 (.string s1) (by simp); have X1s := Lib.hid X1s; clear m1 k1 X1)
      | (go_at_call 57; with_reducible refine (H2.out _ X1s.out.nr.ds).mono ?_; rintro e w2 ⟨rfl, g2, m2, k2⟩; have X2 := X1s.out.call k2 m2; obtain ⟨ca2, fa2⟩ := X2.cf 5 (by simp); obtain ⟨cb2, fb2⟩ := X2.cf 0 (by simp); have z2 := X2.lt; obtain ⟨z20, z21, z22⟩ := z2; have X2s : Nx b p w.heap.size w0.heap.size w _ _ _ [.int .i64 0, .string ⟨#[]⟩, .string ⟨#[]⟩, .string ⟨#[]⟩, .string ⟨#[]⟩, .string ⟨#[]⟩, .slice none 0 0, .string ⟨#[]⟩, .int .i64 0, .slice none 0 0, .int .i64 0, .int .i64 0, .string ⟨#[]⟩, .string ⟨#[]⟩, .string ⟨#[]⟩, .int .i64 0, .bool false] [.int .i64 12, .string s1, .string ⟨#[]⟩, .string ⟨#[]⟩, .string ⟨#[]⟩, .string s2, .slice none 0 0, .string ⟨#[]⟩, .int .i64 0, .slice none 0 0, .int .i64 0, .int .i64 0, .string ⟨#[]⟩, .string ⟨#[]⟩, .string ⟨#[]⟩, .int .i64 0, .bool false] := X2.set 5 (.string s2) (by simp); have X2s := Lib.hid X2s; clear m2 k2 X2)
      | (go_at_call 57; with_reducible refine (H3.out _ X2s.out.nr.ds).mono ?_; rintro e w3 ⟨rfl, g3, m3, k3⟩; have X3 := X2s.out.call k3 m3; obtain ⟨ca3, fa3⟩ := X3.cf 4 (by simp); obtain ⟨cb3, fb3⟩ := X3.cf 0 (by simp); have z3 := X3.lt; obtain ⟨z30, z31, z32⟩ := z3; have X3s : Nx b p w.heap.size w0.heap.size w _ _ _ [.int .i64 0, .string ⟨#[]⟩, .string ⟨#[]⟩, .string ⟨#[]⟩, .string ⟨#[]⟩, .string ⟨#[]⟩, .slice none 0 0, .string ⟨#[]⟩, .int .i64 0, .slice none 0 0, .int .i64 0, .int .i64 0, .string ⟨#[]⟩, .string ⟨#[]⟩, .string ⟨#[]⟩, .int .i64 0, .bool false] [.int .i64 12, .string s1, .string ⟨#[]⟩, .string ⟨#[]⟩, .string s3, .string s2, .slice none 0 0, .string ⟨#[]⟩, .int .i64 0, .slice none 0 0, .int .i64 0, .int .i64 0, .string ⟨#[]⟩, .string ⟨#[]⟩, .string ⟨#[]⟩, .int .i64 0, .bool false] := X3.set 4 (.string s3) (by simp); have X3s := Lib.hid X3s; have e1 := lvCmd_row X3s.out.row rfl; have e2 := svCmd_row X3s.out.nr.res rfl rfl (vs := [.int .i64 12, .string s1, .string ⟨#[]⟩, .string ⟨#[]⟩, .string s3, .string s2, .slice none 0 0, .string ⟨#[]⟩, .int .i64 0, .slice none 0 0, .int .i64 0, .int .i64 0, .string ⟨#[]⟩, .string ⟨#[]⟩, .string ⟨#[]⟩, .int .i64 0, .bool false]) (by simp [Value.oneCell']); clear m3 k3 X3))
    have XR := X3s.out.nr.sets (cs := [.int .i64 12, .string s1, .string ⟨#[]⟩, .string ⟨#[]⟩, .string s3, .string s2, .slice none 0 0, .string ⟨#[]⟩, .int .i64 0, .slice none 0 0, .int .i64 0, .int .i64 0, .string ⟨#[]⟩, .string ⟨#[]⟩, .string ⟨#[]⟩, .int .i64 0, .bool false]) rfl
    refine bodyPost_ret (results_cell rfl _ rfl (lv_row (T := 31) Tryz.underlying31 (by kernel_rfl) XR.res rfl)) rfl ?_
    exact ⟨XR.kw, _, rfl, ⟨none, 0, none, 0, rfl, colsN_nil _ _ _ HB.out, namesN_nil _ _ _ HB.out, g1, szZ, szZ, g3, g2, szZ, szZ, szZ, szZ⟩, XR.ds⟩
set_option maxHeartbeats 2000000 in
theorem commandN_13 (f : ByteArray) (W : Ws) (d : Bool) (W0 : Ws) (d0 : Bool) (q0 : wordD W d = (f, W0, d0)) (hk : kindB f = 13) (b p : Nat) (w : World) (hl : LnS w b p W d) : Calls Tryz.prog 34 #[.pointer (some ⟨b, 0, none⟩)] w (RdN b p w (CmdN b w.heap.size) (cmdD W d)) := by
  have H0 := Lib.hid (lword_at (b := b) (p := p) q0)
  have HK := Lib.hid (lkind_at hk)
  have qk := one_kind q0 hk
  have HX0 := Lib.hid (Nr.start hl [.int .i64 0, .string ⟨#[]⟩, .string ⟨#[]⟩, .string ⟨#[]⟩, .string ⟨#[]⟩, .string ⟨#[]⟩, .slice none 0 0, .string ⟨#[]⟩, .int .i64 0, .slice none 0 0, .int .i64 0, .int .i64 0, .string ⟨#[]⟩, .string ⟨#[]⟩, .string ⟨#[]⟩, .int .i64 0, .bool false] 31)
  have hb := hl.lt
  have HB := Lib.hid hb
  cases d0
  · have qk : oneD (fun s => (s, kindB s != 0)) W d = (f, W0, false) := qk
    obtain ⟨s1, W1, d1, q1⟩ : ∃ a c e, nameD W0 false = (a, c, e) := ⟨_, _, _, rfl⟩
    obtain ⟨s2, W2, d2, q2⟩ : ∃ a c e, nameD W1 d1 = (a, c, e) := ⟨_, _, _, rfl⟩
    obtain ⟨s3, W3, d3, q3⟩ : ∃ a c e, nameD W2 d2 = (a, c, e) := ⟨_, _, _, rfl⟩
    have e : cmdD W d = ({ zCmd with kind := 13, actor := s1, role := s2, name := s3 }, W3, d3) := by
      unfold cmdD
      rw [qk]
      simp [bindD, hk, tailD, q1, q2, q3]
    rw [e]
    have H1 := Lib.hid (lname_at (b := b) (p := p) q1)
    have H2 := Lib.hid (lname_at (b := b) (p := p) q2)
    have H3 := Lib.hid (lname_at (b := b) (p := p) q3)
    clear e hl qk q0 hk q1 q2 q3
    go_enter Tryz.func34, Tryz.ntmps34
    go_wp2_with (first
      | (go_at_call 32; with_reducible refine (H0.out _ HX0.out.ds).mono ?_; rintro e w0 ⟨rfl, g0, l0, k0⟩; have X0 := HX0.out.call k0 l0; have y1 := l0.c1; have y2 := l0.f1; have y3 := l0.lt; have X1 := X0.boxBad false [.int .i64 13, .string ⟨#[]⟩, .string ⟨#[]⟩, .string ⟨#[]⟩, .string ⟨#[]⟩, .string ⟨#[]⟩, .slice none 0 0, .string ⟨#[]⟩, .int .i64 0, .slice none 0 0, .int .i64 0, .int .i64 0, .string ⟨#[]⟩, .string ⟨#[]⟩, .string ⟨#[]⟩, .int .i64 0, .bool false] 31; have z0 := X1.lt; obtain ⟨z00, z01, z02⟩ := z0; have X0s := Lib.hid X1; clear l0 k0 X0 X1)
      | (go_at_call 56; with_reducible refine (HK.out _).mono ?_; rintro e wk ⟨rfl, rfl⟩)
      | (go_at_call 57; with_reducible refine (H1.out _ X0s.out.nr.ds).mono ?_; rintro e w1 ⟨rfl, g1, m1, k1⟩; have X1 := X0s.out.call k1 m1; obtain ⟨ca1, fa1⟩ := X1.cf 1 (by simp); obtain ⟨cb1, fb1⟩ := X1.cf 0 (by simp); have z1 := X1.lt; obtain ⟨z10, z11, z12⟩ := z1; have X1s : Nx b p w.heap.size w0.heap.size w _ _ _ [.int .i64 0, .string ⟨#[]⟩, .string ⟨#[]⟩, .string ⟨#[]⟩, .string ⟨#[]⟩, .string ⟨#[]⟩, .slice none 0 0, .string ⟨#[]⟩, .int .i64 0, .slice none 0 0, .int .i64 0, .int .i64 0, .string ⟨#[]⟩, .string ⟨#[]⟩, .string ⟨#[]⟩, .int .i64 0, .bool false] [.int .i64 13, .string s1, .string ⟨#[]⟩, .string ⟨#[]⟩, .string ⟨#[]⟩, .string ⟨#[]⟩, .slice none 0 0, .string ⟨#[]⟩, .int .i64 0, .slice none 0 0, .int .i64 0, .int .i64 0, .string ⟨#[]⟩, .string ⟨#[]⟩, .string ⟨#[]⟩, .int .i64 0, .bool false] := X1.set 1 (.string s1) (by simp); have X1s := Lib.hid X1s; clear m1 k1 X1)
      | (go_at_call 57; with_reducible refine (H2.out _ X1s.out.nr.ds).mono ?_; rintro e w2 ⟨rfl, g2, m2, k2⟩; have X2 := X1s.out.call k2 m2; obtain ⟨ca2, fa2⟩ := X2.cf 5 (by simp); obtain ⟨cb2, fb2⟩ := X2.cf 0 (by simp); have z2 := X2.lt; obtain ⟨z20, z21, z22⟩ := z2; have X2s : Nx b p w.heap.size w0.heap.size w _ _ _ [.int .i64 0, .string ⟨#[]⟩, .string ⟨#[]⟩, .string ⟨#[]⟩, .string ⟨#[]⟩, .string ⟨#[]⟩, .slice none 0 0, .string ⟨#[]⟩, .int .i64 0, .slice none 0 0, .int .i64 0, .int .i64 0, .string ⟨#[]⟩, .string ⟨#[]⟩, .string ⟨#[]⟩, .int .i64 0, .bool false] [.int .i64 13, .string s1, .string ⟨#[]⟩, .string ⟨#[]⟩, .string ⟨#[]⟩, .string s2, .slice none 0 0, .string ⟨#[]⟩, .int .i64 0, .slice none 0 0, .int .i64 0, .int .i64 0, .string ⟨#[]⟩, .string ⟨#[]⟩, .string ⟨#[]⟩, .int .i64 0, .bool false] := X2.set 5 (.string s2) (by simp); have X2s := Lib.hid X2s; clear m2 k2 X2)
      | (go_at_call 57; with_reducible refine (H3.out _ X2s.out.nr.ds).mono ?_; rintro e w3 ⟨rfl, g3, m3, k3⟩; have X3 := X2s.out.call k3 m3; obtain ⟨ca3, fa3⟩ := X3.cf 4 (by simp); obtain ⟨cb3, fb3⟩ := X3.cf 0 (by simp); have z3 := X3.lt; obtain ⟨z30, z31, z32⟩ := z3; have X3s : Nx b p w.heap.size w0.heap.size w _ _ _ [.int .i64 0, .string ⟨#[]⟩, .string ⟨#[]⟩, .string ⟨#[]⟩, .string ⟨#[]⟩, .string ⟨#[]⟩, .slice none 0 0, .string ⟨#[]⟩, .int .i64 0, .slice none 0 0, .int .i64 0, .int .i64 0, .string ⟨#[]⟩, .string ⟨#[]⟩, .string ⟨#[]⟩, .int .i64 0, .bool false] [.int .i64 13, .string s1, .string ⟨#[]⟩, .string ⟨#[]⟩, .string s3, .string s2, .slice none 0 0, .string ⟨#[]⟩, .int .i64 0, .slice none 0 0, .int .i64 0, .int .i64 0, .string ⟨#[]⟩, .string ⟨#[]⟩, .string ⟨#[]⟩, .int .i64 0, .bool false] := X3.set 4 (.string s3) (by simp); have X3s := Lib.hid X3s; have e1 := lvCmd_row X3s.out.row rfl; have e2 := svCmd_row X3s.out.nr.res rfl rfl (vs := [.int .i64 13, .string s1, .string ⟨#[]⟩, .string ⟨#[]⟩, .string s3, .string s2, .slice none 0 0, .string ⟨#[]⟩, .int .i64 0, .slice none 0 0, .int .i64 0, .int .i64 0, .string ⟨#[]⟩, .string ⟨#[]⟩, .string ⟨#[]⟩, .int .i64 0, .bool false]) (by simp [Value.oneCell']); clear m3 k3 X3))
    have XR := X3s.out.nr.sets (cs := [.int .i64 13, .string s1, .string ⟨#[]⟩, .string ⟨#[]⟩, .string s3, .string s2, .slice none 0 0, .string ⟨#[]⟩, .int .i64 0, .slice none 0 0, .int .i64 0, .int .i64 0, .string ⟨#[]⟩, .string ⟨#[]⟩, .string ⟨#[]⟩, .int .i64 0, .bool false]) rfl
    refine bodyPost_ret (results_cell rfl _ rfl (lv_row (T := 31) Tryz.underlying31 (by kernel_rfl) XR.res rfl)) rfl ?_
    exact ⟨XR.kw, _, rfl, ⟨none, 0, none, 0, rfl, colsN_nil _ _ _ HB.out, namesN_nil _ _ _ HB.out, g1, szZ, szZ, g3, g2, szZ, szZ, szZ, szZ⟩, XR.ds⟩
  · have qk : oneD (fun s => (s, kindB s != 0)) W d = (f, W0, true) := qk
    obtain ⟨s1, W1, d1, q1⟩ : ∃ a c e, nameD W0 true = (a, c, e) := ⟨_, _, _, rfl⟩
    obtain ⟨s2, W2, d2, q2⟩ : ∃ a c e, nameD W1 d1 = (a, c, e) := ⟨_, _, _, rfl⟩
    obtain ⟨s3, W3, d3, q3⟩ : ∃ a c e, nameD W2 d2 = (a, c, e) := ⟨_, _, _, rfl⟩
    have e : cmdD W d = ({ zCmd with kind := 13, actor := s1, role := s2, name := s3 }, W3, d3) := by
      unfold cmdD
      rw [qk]
      simp [bindD, hk, tailD, q1, q2, q3]
    rw [e]
    have H1 := Lib.hid (lname_at (b := b) (p := p) q1)
    have H2 := Lib.hid (lname_at (b := b) (p := p) q2)
    have H3 := Lib.hid (lname_at (b := b) (p := p) q3)
    clear e hl qk q0 hk q1 q2 q3
    go_enter Tryz.func34, Tryz.ntmps34
    go_wp2_with (first
      | (go_at_call 32; with_reducible refine (H0.out _ HX0.out.ds).mono ?_; rintro e w0 ⟨rfl, g0, l0, k0⟩; have X0 := HX0.out.call k0 l0; have y1 := l0.c1; have y2 := l0.f1; have y3 := l0.lt; have X1 := X0.boxBad true [.int .i64 13, .string ⟨#[]⟩, .string ⟨#[]⟩, .string ⟨#[]⟩, .string ⟨#[]⟩, .string ⟨#[]⟩, .slice none 0 0, .string ⟨#[]⟩, .int .i64 0, .slice none 0 0, .int .i64 0, .int .i64 0, .string ⟨#[]⟩, .string ⟨#[]⟩, .string ⟨#[]⟩, .int .i64 0, .bool false] 31; have z0 := X1.lt; obtain ⟨z00, z01, z02⟩ := z0; have X0s := Lib.hid X1; clear l0 k0 X0 X1)
      | (go_at_call 56; with_reducible refine (HK.out _).mono ?_; rintro e wk ⟨rfl, rfl⟩)
      | (go_at_call 57; with_reducible refine (H1.out _ X0s.out.nr.ds).mono ?_; rintro e w1 ⟨rfl, g1, m1, k1⟩; have X1 := X0s.out.call k1 m1; obtain ⟨ca1, fa1⟩ := X1.cf 1 (by simp); obtain ⟨cb1, fb1⟩ := X1.cf 0 (by simp); have z1 := X1.lt; obtain ⟨z10, z11, z12⟩ := z1; have X1s : Nx b p w.heap.size w0.heap.size w _ _ _ [.int .i64 0, .string ⟨#[]⟩, .string ⟨#[]⟩, .string ⟨#[]⟩, .string ⟨#[]⟩, .string ⟨#[]⟩, .slice none 0 0, .string ⟨#[]⟩, .int .i64 0, .slice none 0 0, .int .i64 0, .int .i64 0, .string ⟨#[]⟩, .string ⟨#[]⟩, .string ⟨#[]⟩, .int .i64 0, .bool false] [.int .i64 13, .string s1, .string ⟨#[]⟩, .string ⟨#[]⟩, .string ⟨#[]⟩, .string ⟨#[]⟩, .slice none 0 0, .string ⟨#[]⟩, .int .i64 0, .slice none 0 0, .int .i64 0, .int .i64 0, .string ⟨#[]⟩, .string ⟨#[]⟩, .string ⟨#[]⟩, .int .i64 0, .bool false] := X1.set 1 (.string s1) (by simp); have X1s := Lib.hid X1s; clear m1 k1 X1)
      | (go_at_call 57; with_reducible refine (H2.out _ X1s.out.nr.ds).mono ?_; rintro e w2 ⟨rfl, g2, m2, k2⟩; have X2 := X1s.out.call k2 m2; obtain ⟨ca2, fa2⟩ := X2.cf 5 (by simp); obtain ⟨cb2, fb2⟩ := X2.cf 0 (by simp); have z2 := X2.lt; obtain ⟨z20, z21, z22⟩ := z2; have X2s : Nx b p w.heap.size w0.heap.size w _ _ _ [.int .i64 0, .string ⟨#[]⟩, .string ⟨#[]⟩, .string ⟨#[]⟩, .string ⟨#[]⟩, .string ⟨#[]⟩, .slice none 0 0, .string ⟨#[]⟩, .int .i64 0, .slice none 0 0, .int .i64 0, .int .i64 0, .string ⟨#[]⟩, .string ⟨#[]⟩, .string ⟨#[]⟩, .int .i64 0, .bool false] [.int .i64 13, .string s1, .string ⟨#[]⟩, .string ⟨#[]⟩, .string ⟨#[]⟩, .string s2, .slice none 0 0, .string ⟨#[]⟩, .int .i64 0, .slice none 0 0, .int .i64 0, .int .i64 0, .string ⟨#[]⟩, .string ⟨#[]⟩, .string ⟨#[]⟩, .int .i64 0, .bool false] := X2.set 5 (.string s2) (by simp); have X2s := Lib.hid X2s; clear m2 k2 X2)
      | (go_at_call 57; with_reducible refine (H3.out _ X2s.out.nr.ds).mono ?_; rintro e w3 ⟨rfl, g3, m3, k3⟩; have X3 := X2s.out.call k3 m3; obtain ⟨ca3, fa3⟩ := X3.cf 4 (by simp); obtain ⟨cb3, fb3⟩ := X3.cf 0 (by simp); have z3 := X3.lt; obtain ⟨z30, z31, z32⟩ := z3; have X3s : Nx b p w.heap.size w0.heap.size w _ _ _ [.int .i64 0, .string ⟨#[]⟩, .string ⟨#[]⟩, .string ⟨#[]⟩, .string ⟨#[]⟩, .string ⟨#[]⟩, .slice none 0 0, .string ⟨#[]⟩, .int .i64 0, .slice none 0 0, .int .i64 0, .int .i64 0, .string ⟨#[]⟩, .string ⟨#[]⟩, .string ⟨#[]⟩, .int .i64 0, .bool false] [.int .i64 13, .string s1, .string ⟨#[]⟩, .string ⟨#[]⟩, .string s3, .string s2, .slice none 0 0, .string ⟨#[]⟩, .int .i64 0, .slice none 0 0, .int .i64 0, .int .i64 0, .string ⟨#[]⟩, .string ⟨#[]⟩, .string ⟨#[]⟩, .int .i64 0, .bool false] := X3.set 4 (.string s3) (by simp); have X3s := Lib.hid X3s; have e1 := lvCmd_row X3s.out.row rfl; have e2 := svCmd_row X3s.out.nr.res rfl rfl (vs := [.int .i64 13, .string s1, .string ⟨#[]⟩, .string ⟨#[]⟩, .string s3, .string s2, .slice none 0 0, .string ⟨#[]⟩, .int .i64 0, .slice none 0 0, .int .i64 0, .int .i64 0, .string ⟨#[]⟩, .string ⟨#[]⟩, .string ⟨#[]⟩, .int .i64 0, .bool false]) (by simp [Value.oneCell']); clear m3 k3 X3))
    have XR := X3s.out.nr.sets (cs := [.int .i64 13, .string s1, .string ⟨#[]⟩, .string ⟨#[]⟩, .string s3, .string s2, .slice none 0 0, .string ⟨#[]⟩, .int .i64 0, .slice none 0 0, .int .i64 0, .int .i64 0, .string ⟨#[]⟩, .string ⟨#[]⟩, .string ⟨#[]⟩, .int .i64 0, .bool false]) rfl
    refine bodyPost_ret (results_cell rfl _ rfl (lv_row (T := 31) Tryz.underlying31 (by kernel_rfl) XR.res rfl)) rfl ?_
    exact ⟨XR.kw, _, rfl, ⟨none, 0, none, 0, rfl, colsN_nil _ _ _ HB.out, namesN_nil _ _ _ HB.out, g1, szZ, szZ, g3, g2, szZ, szZ, szZ, szZ⟩, XR.ds⟩
end Go.Proofs.YtbdanlipghhgpaaGreatDoor

