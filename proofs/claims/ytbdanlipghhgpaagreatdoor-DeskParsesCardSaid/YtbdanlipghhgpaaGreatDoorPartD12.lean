/- Contracts of the program, part 12. -/
import Derived.Laws.EntriesVeiled
import Derived.WalkKit
import Derived.WalkSpells
import Derived.WalkLawsBesides
import Derived.Laws.Cells
import Derived.Laws.IdiomCopy
import Derived.Test.YtbdanlipghhgpaaGreatDoorRows
import Derived.Lib.Bytealg
import Derived.Lib.Hide
import Derived.ProofKit
import Derived.OpenShut
import Derived.Deep.Slices
import Derived.ChangeOld
import Derived.SizedLaws
import Derived.Deep.QuietTactic
import Derived.BigQuiet
import Derived.Below
import Derived.Deep.Draws
import Derived.StillTailTactics
import Derived.ShutString
import Derived.Lib.Atoi
import Derived.Lib.ItoaNum
import Derived.Lib.Split
import Derived.Lib.SplitLaws
import Derived.Lib.CutLaws
import Derived.Lib.Strings
import Derived.Lib.SlTrimSet
import Derived.Deep.Upon
import Derived.OwnWalk
import Derived.Laws.AppendOwn
import Derived.Shelf.Strings.Builder1
import Derived.Shelf.Strings.Builder2
import Derived.Shelf.Strings.OnBuilder
import Derived.Shelf.Strings.Trim
import Derived.Shelf.Small.Utf8
import Derived.Shelf.Small.Strs
import Derived.Shelf.Small.Wraps
import Derived.Shelf.Strconv.Atoi
import Derived.Shelf.Strconv.Itoa0
import Derived.Shelf.Strconv.Itoa1
import Derived.Shelf.LaysM
import Derived.Shelf.Strconv.Itoa2
import Derived.Shelf.Strconv.Itoa3
import Derived.Shelf.Strings.Search1
import Derived.Shelf.Strings.Search2
import Derived.Shelf.Strings.Search3
import Derived.Shelf.Strings.Cut
import Derived.Shelf.Strings.Count
import Derived.Shelf.Strings.Shaped
import Derived.Shelf.Strings.Prefix
import Derived.Shelf.Strings.Split
import Derived.Shelf.Strings.Runes
import Derived.Shelf.Strings.AsciiSet
import Derived.Shelf.Unicode.DecodeSlow
import Derived.Shelf.Slices.Equal
import Derived.Shelf.Slices.Empties2
import Derived.Shelf.Strings.SlTrimAscii
import Derived.Test.YtbdanlipghhgpaaGreatDoorProg
import Derived.Deep.AppendLies
import Derived.Recover
import Derived.Defers
import Derived.Deep.Cut
import Derived.Lib.CountLaws
import Derived.Deep.RegionLaw
import Derived.RegionDies
import Derived.Test.YtbdanlipghhgpaaGreatDoorPartD1
import Derived.Test.YtbdanlipghhgpaaGreatDoorPartD2
import Derived.Test.YtbdanlipghhgpaaGreatDoorPartD3
import Derived.Test.YtbdanlipghhgpaaGreatDoorPartD4
import Derived.Test.YtbdanlipghhgpaaGreatDoorPartD5
import Derived.Test.YtbdanlipghhgpaaGreatDoorPartD6
import Derived.Test.YtbdanlipghhgpaaGreatDoorPartD7
import Derived.Test.YtbdanlipghhgpaaGreatDoorPartD8
import Derived.Test.YtbdanlipghhgpaaGreatDoorPartD9
import Derived.Test.YtbdanlipghhgpaaGreatDoorPartD10
import Derived.Test.YtbdanlipghhgpaaGreatDoorPartD11
namespace Go.Proofs.YtbdanlipghhgpaaGreatDoor
open Go.RowKit Go.Deep
set_option maxRecDepth 100000
set_option linter.unusedVariables false
theorem heap_new2 (w : World) (o1 o2 : Obj) : ((w.alloc o1).alloc o2).heap[w.heap.size + 1]? = some o2 := by
  have h := heap_alloc_new (w.alloc o1) o2
  rw [show (w.alloc o1).heap.size = w.heap.size + 1 by simp] at h
  exact h
theorem size_new2 (w : World) (o1 o2 : Obj) : w.heap.size ≤ ((w.alloc o1).alloc o2).heap.size := by simp; omega
theorem aft_app2 {w w5 : World} {o1 o2 : Obj} (hg : ((w.alloc o1).alloc o2).grownBy w5 (Value.slice none 0 0).ownBlock) : Aft w w5 := ((Aft.refl w).alloc o1).trans (aft_app hg)
theorem ColsN.one {w1 w5 : World} {b gg cap : Nat} {c : Col} (h : w5.ownsRow w1.heap.size 67 3 (.slice (some ⟨gg, 0, none⟩) (0 + 1) cap) (0 + 1) ([] ++ [.string c.name, .int .i64 c.kind, .bool c.null])) (hb : b < w1.heap.size) (hs : c.name.size ≤ 4096) : ColsN b w1.heap.size w5 (.slice (some ⟨gg, 0, none⟩) 1 cap) [c] :=
  ⟨⟨⟨some ⟨gg, 0, none⟩, 1, cap⟩, rfl, h, hb⟩, by simp, by
    intro x hx
    rw [List.mem_singleton.1 hx]
    exact hs⟩
theorem Nx.setsAt {b p r x n : Nat} {w V : World} {W : Ws} {d : Bool} {zs pre mid post vs : List Value} (X : Nx b p r x w V W d zs (pre ++ (mid ++ post))) (hp : pre.length = n) (hm : mid.length = vs.length) : Nx b p r x w (V.setCells x n vs) W d zs (pre ++ (vs ++ post)) := by
  subst hp
  have := X.nr.fb
  have := X.nr.fp
  have := X.fx
  have kb := kb_setCellsD x vs V pre.length
  refine ⟨⟨X.nr.ds.kb kb (by omega) (by omega), kb.row X.nr.res X.fn, ?_, X.nr.fb, X.nr.fp, X.nr.fr⟩, row_setMid vs mid post V pre X.row hm, X.fx, X.fn⟩
  exact ⟨kb.os.trans X.nr.kw.os, kb.tape.trans X.nr.kw.tape, kb.output.trans X.nr.kw.output, Nat.le_trans X.nr.kw.size kb.size, fun j hj hne => (kb.block j (Nat.lt_of_lt_of_le hj X.nr.kw.size) (by omega)).trans (X.nr.kw.block j hj hne)⟩
theorem svRul_at {V : World} {x n : Nat} {pre mid post vs : List Value} (h : RowAt V x (pre ++ (mid ++ post))) (hp : pre.length = n) (hm : mid.length = 8) (hv : vs.length = 8) (h1 : ∀ v ∈ vs, v.oneCell' = true) :
    (svRul ⟨x, n, none⟩ (.agg vs.toArray)).run Tryz.prog V = .ok () (V.setCells x n vs) := by
  subst hp
  exact sv_at (T := 28) (by kernel_rfl) h hm hv h1
theorem lrule_at {b p : Nat} {W W1 : Ws} {d d1 : Bool} {f : ByteArray} {r : Rul} (hq : ruleD f W d = (r, W1, d1)) : ∀ V, LnS V b p W d → Calls Tryz.prog 59 #[.pointer (some ⟨b, 0, none⟩), .string f] V fun e w' => ∃ A c, e = .returned (.agg #[.string r.name, .int .i64 r.kind, .slice A r.cols.length c, .int .i64 r.low, .int .i64 r.high, .string r.schema, .string r.table, .string r.key]) ∧ (NamesN b V.heap.size w' (.slice A r.cols.length c) r.cols ∧ r.name.size ≤ 4096 ∧ r.schema.size ≤ 4096 ∧ r.table.size ≤ 4096 ∧ r.key.size ≤ 4096) ∧ LnS w' b p W1 d1 ∧ Kw b V w' := fun V h =>
  (rule_dn f b p W d V h).mono fun e w' ⟨k, v, h1, h2, h3⟩ => by
    rw [hq] at h2 h3
    obtain ⟨A, c, h4, h5⟩ := h2
    exact ⟨A, c, by rw [h1, h4], h5, h3, k⟩
set_option maxHeartbeats 2000000 in
theorem commandN_5 (f : ByteArray) (W : Ws) (d : Bool) (W0 : Ws) (d0 : Bool) (q0 : wordD W d = (f, W0, d0)) (hk : kindB f = 5) (b p : Nat) (w : World) (hl : LnS w b p W d) : Calls Tryz.prog 34 #[.pointer (some ⟨b, 0, none⟩)] w (RdN b p w (CmdN b w.heap.size) (cmdD W d)) := by
  have H0 := Lib.hid (lword_at (b := b) (p := p) q0)
  have HK := Lib.hid (lkind_at hk)
  have qk := one_kind q0 hk
  have HX0 := Lib.hid (Nr.start hl [.int .i64 0, .string ⟨#[]⟩, .string ⟨#[]⟩, .string ⟨#[]⟩, .string ⟨#[]⟩, .string ⟨#[]⟩, .slice none 0 0, .string ⟨#[]⟩, .int .i64 0, .slice none 0 0, .int .i64 0, .int .i64 0, .string ⟨#[]⟩, .string ⟨#[]⟩, .string ⟨#[]⟩, .int .i64 0, .bool false] 31)
  have hb := hl.lt
  have HB := Lib.hid hb
  cases d0
  · have qk : oneD (fun s => (s, kindB s != 0)) W d = (f, W0, false) := qk
    obtain ⟨s1, W1, d1, q1⟩ : ∃ a c e, nameD W0 false = (a, c, e) := ⟨_, _, _, rfl⟩
    obtain ⟨s2, W2, d2, q2⟩ : ∃ a c e, nameD W1 d1 = (a, c, e) := ⟨_, _, _, rfl⟩
    obtain ⟨s3, W3, d3, q3⟩ : ∃ a c e, nameD W2 d2 = (a, c, e) := ⟨_, _, _, rfl⟩
    obtain ⟨x4, W4, d4, q4⟩ : ∃ a c e, colD W3 d3 = (a, c, e) := ⟨_, _, _, rfl⟩
    have H4 := Lib.hid (lcol_at (b := b) (p := p) q4)
    have e : cmdD W d = ({ zCmd with kind := 5, actor := s1, schema := s2, table := s3, cols := [x4] }, W4, d4) := by
      unfold cmdD
      rw [qk]
      simp [bindD, hk, tailD, q1, q2, q3, q4]
    rw [e]
    have H1 := Lib.hid (lname_at (b := b) (p := p) q1)
    have H2 := Lib.hid (lname_at (b := b) (p := p) q2)
    have H3 := Lib.hid (lname_at (b := b) (p := p) q3)
    clear e hl qk q0 hk q1 q2 q3 q4
    go_enter Tryz.func34, Tryz.ntmps34
    go_wp2_with (first
      | (go_at_call 32; with_reducible refine (H0.out _ HX0.out.ds).mono ?_; rintro e w0 ⟨rfl, g0, l0, k0⟩; have X0 := HX0.out.call k0 l0; have y1 := l0.c1; have y2 := l0.f1; have y3 := l0.lt; have X1 := X0.boxBad false [.int .i64 5, .string ⟨#[]⟩, .string ⟨#[]⟩, .string ⟨#[]⟩, .string ⟨#[]⟩, .string ⟨#[]⟩, .slice none 0 0, .string ⟨#[]⟩, .int .i64 0, .slice none 0 0, .int .i64 0, .int .i64 0, .string ⟨#[]⟩, .string ⟨#[]⟩, .string ⟨#[]⟩, .int .i64 0, .bool false] 31; have z0 := X1.lt; obtain ⟨z00, z01, z02⟩ := z0; have X0s := Lib.hid X1; clear l0 k0 X0 X1)
      | (go_at_call 56; with_reducible refine (HK.out _).mono ?_; rintro e wk ⟨rfl, rfl⟩)
      | (go_at_call 57; with_reducible refine (H1.out _ X0s.out.nr.ds).mono ?_; rintro e w1 ⟨rfl, g1, m1, k1⟩; have X1 := X0s.out.call k1 m1; obtain ⟨ca1, fa1⟩ := X1.cf 1 (by simp); obtain ⟨cb1, fb1⟩ := X1.cf 0 (by simp); have z1 := X1.lt; obtain ⟨z10, z11, z12⟩ := z1; have X1s : Nx b p w.heap.size w0.heap.size w _ _ _ [.int .i64 0, .string ⟨#[]⟩, .string ⟨#[]⟩, .string ⟨#[]⟩, .string ⟨#[]⟩, .string ⟨#[]⟩, .slice none 0 0, .string ⟨#[]⟩, .int .i64 0, .slice none 0 0, .int .i64 0, .int .i64 0, .string ⟨#[]⟩, .string ⟨#[]⟩, .string ⟨#[]⟩, .int .i64 0, .bool false] [.int .i64 5, .string s1, .string ⟨#[]⟩, .string ⟨#[]⟩, .string ⟨#[]⟩, .string ⟨#[]⟩, .slice none 0 0, .string ⟨#[]⟩, .int .i64 0, .slice none 0 0, .int .i64 0, .int .i64 0, .string ⟨#[]⟩, .string ⟨#[]⟩, .string ⟨#[]⟩, .int .i64 0, .bool false] := X1.set 1 (.string s1) (by simp); have X1s := Lib.hid X1s; clear m1 k1 X1)
      | (go_at_call 57; with_reducible refine (H2.out _ X1s.out.nr.ds).mono ?_; rintro e w2 ⟨rfl, g2, m2, k2⟩; have X2 := X1s.out.call k2 m2; obtain ⟨ca2, fa2⟩ := X2.cf 2 (by simp); obtain ⟨cb2, fb2⟩ := X2.cf 0 (by simp); have z2 := X2.lt; obtain ⟨z20, z21, z22⟩ := z2; have X2s : Nx b p w.heap.size w0.heap.size w _ _ _ [.int .i64 0, .string ⟨#[]⟩, .string ⟨#[]⟩, .string ⟨#[]⟩, .string ⟨#[]⟩, .string ⟨#[]⟩, .slice none 0 0, .string ⟨#[]⟩, .int .i64 0, .slice none 0 0, .int .i64 0, .int .i64 0, .string ⟨#[]⟩, .string ⟨#[]⟩, .string ⟨#[]⟩, .int .i64 0, .bool false] [.int .i64 5, .string s1, .string s2, .string ⟨#[]⟩, .string ⟨#[]⟩, .string ⟨#[]⟩, .slice none 0 0, .string ⟨#[]⟩, .int .i64 0, .slice none 0 0, .int .i64 0, .int .i64 0, .string ⟨#[]⟩, .string ⟨#[]⟩, .string ⟨#[]⟩, .int .i64 0, .bool false] := X2.set 2 (.string s2) (by simp); have X2s := Lib.hid X2s; clear m2 k2 X2)
      | (go_at_call 57; with_reducible refine (H3.out _ X2s.out.nr.ds).mono ?_; rintro e w3 ⟨rfl, g3, m3, k3⟩; have X3 := X2s.out.call k3 m3; obtain ⟨ca3, fa3⟩ := X3.cf 3 (by simp); obtain ⟨cb3, fb3⟩ := X3.cf 0 (by simp); have z3 := X3.lt; obtain ⟨z30, z31, z32⟩ := z3; have X3s : Nx b p w.heap.size w0.heap.size w _ _ _ [.int .i64 0, .string ⟨#[]⟩, .string ⟨#[]⟩, .string ⟨#[]⟩, .string ⟨#[]⟩, .string ⟨#[]⟩, .slice none 0 0, .string ⟨#[]⟩, .int .i64 0, .slice none 0 0, .int .i64 0, .int .i64 0, .string ⟨#[]⟩, .string ⟨#[]⟩, .string ⟨#[]⟩, .int .i64 0, .bool false] [.int .i64 5, .string s1, .string s2, .string s3, .string ⟨#[]⟩, .string ⟨#[]⟩, .slice none 0 0, .string ⟨#[]⟩, .int .i64 0, .slice none 0 0, .int .i64 0, .int .i64 0, .string ⟨#[]⟩, .string ⟨#[]⟩, .string ⟨#[]⟩, .int .i64 0, .bool false] := X3.set 3 (.string s3) (by simp); have X3s := Lib.hid X3s; clear m3 k3 X3)
      | (go_at_call 58; with_reducible refine (H4.out _ X3s.out.nr.ds).mono ?_; rintro e w4 ⟨rfl, g4, m4, k4⟩; have X4 := X3s.out.call k4 m4; obtain ⟨ca4, fa4⟩ := X4.cf 6 (by simp); obtain ⟨cb4, fb4⟩ := X4.cf 0 (by simp); have z4 := X4.lt; obtain ⟨z40, z41, z42⟩ := z4; have X4s := Lib.hid X4; clear m4 k4 X4)
      | (at_builtin; go_must (refine app_desk Tryz.underlying24 infoDC rfl (by decide) (by decide) rfl _ _ rfl w4.heap.size (.slice none 0 0) 0 [] rfl (own_nilN _) (w4.heap.size + 1) [.string x4.name, .int .i64 x4.kind, .bool x4.null] rfl (heap_new2 w4 _ _) rfl (by simp [Value.oneCell']) (by omega) (size_new2 w4 _ _) ?_); intro gg cap' w5 hown5 hgrow hat; have X5 := X4s.out.aft (aft_app2 hgrow); have G5 := Lib.hid (ColsN.one hown5 z40 g4); obtain ⟨ca5, fa5⟩ := X5.cf 6 (by simp); have z5 := X5.lt; obtain ⟨z50, z51, z52⟩ := z5; have X5s : Nx b p w.heap.size w0.heap.size w _ _ _ [.int .i64 0, .string ⟨#[]⟩, .string ⟨#[]⟩, .string ⟨#[]⟩, .string ⟨#[]⟩, .string ⟨#[]⟩, .slice none 0 0, .string ⟨#[]⟩, .int .i64 0, .slice none 0 0, .int .i64 0, .int .i64 0, .string ⟨#[]⟩, .string ⟨#[]⟩, .string ⟨#[]⟩, .int .i64 0, .bool false] [.int .i64 5, .string s1, .string s2, .string s3, .string ⟨#[]⟩, .string ⟨#[]⟩, .slice (some ⟨gg, 0, none⟩) 1 cap', .string ⟨#[]⟩, .int .i64 0, .slice none 0 0, .int .i64 0, .int .i64 0, .string ⟨#[]⟩, .string ⟨#[]⟩, .string ⟨#[]⟩, .int .i64 0, .bool false] := X5.set 6 (.slice (some ⟨gg, 0, none⟩) 1 cap') (by simp); have X5s := Lib.hid X5s; have e1 := lvCmd_row X5s.out.row rfl; have e2 := svCmd_row X5s.out.nr.res rfl rfl (vs := [.int .i64 5, .string s1, .string s2, .string s3, .string ⟨#[]⟩, .string ⟨#[]⟩, .slice (some ⟨gg, 0, none⟩) 1 cap', .string ⟨#[]⟩, .int .i64 0, .slice none 0 0, .int .i64 0, .int .i64 0, .string ⟨#[]⟩, .string ⟨#[]⟩, .string ⟨#[]⟩, .int .i64 0, .bool false]) (by simp [Value.oneCell']); clear hown5 hgrow hat X5))
    have XR := X5s.out.nr.sets (cs := [.int .i64 5, .string s1, .string s2, .string s3, .string ⟨#[]⟩, .string ⟨#[]⟩, .slice (some ⟨gg, 0, none⟩) 1 cap', .string ⟨#[]⟩, .int .i64 0, .slice none 0 0, .int .i64 0, .int .i64 0, .string ⟨#[]⟩, .string ⟨#[]⟩, .string ⟨#[]⟩, .int .i64 0, .bool false]) rfl
    refine bodyPost_ret (results_cell rfl _ rfl (lv_row (T := 31) Tryz.underlying31 (by kernel_rfl) XR.res rfl)) rfl ?_
    have S := X4s.out.lt
    have S2 := X4s.out.nr.kw.size
    have G := ((G5.out.hi (Kb.set w5 w0.heap.size 6 (.slice (some ⟨gg, 0, none⟩) 1 cap')) (fun g e => by have e' : g = w0.heap.size := e; omega)).hi (kb_setCellsD w.heap.size [.int .i64 5, .string s1, .string s2, .string s3, .string ⟨#[]⟩, .string ⟨#[]⟩, .slice (some ⟨gg, 0, none⟩) 1 cap', .string ⟨#[]⟩, .int .i64 0, .slice none 0 0, .int .i64 0, .int .i64 0, .string ⟨#[]⟩, .string ⟨#[]⟩, .string ⟨#[]⟩, .int .i64 0, .bool false] _ 0) (fun g e => by have e' : g = w.heap.size := e; omega)).down (B0 := w.heap.size) S2 HB.out
    exact ⟨XR.kw, _, rfl, ⟨some ⟨gg, 0, none⟩, cap', none, 0, rfl, G, namesN_nil _ _ _ HB.out, g1, g2, g3, szZ, szZ, szZ, szZ, szZ, szZ⟩, XR.ds⟩
  · have qk : oneD (fun s => (s, kindB s != 0)) W d = (f, W0, true) := qk
    obtain ⟨s1, W1, d1, q1⟩ : ∃ a c e, nameD W0 true = (a, c, e) := ⟨_, _, _, rfl⟩
    obtain ⟨s2, W2, d2, q2⟩ : ∃ a c e, nameD W1 d1 = (a, c, e) := ⟨_, _, _, rfl⟩
    obtain ⟨s3, W3, d3, q3⟩ : ∃ a c e, nameD W2 d2 = (a, c, e) := ⟨_, _, _, rfl⟩
    obtain ⟨x4, W4, d4, q4⟩ : ∃ a c e, colD W3 d3 = (a, c, e) := ⟨_, _, _, rfl⟩
    have H4 := Lib.hid (lcol_at (b := b) (p := p) q4)
    have e : cmdD W d = ({ zCmd with kind := 5, actor := s1, schema := s2, table := s3, cols := [x4] }, W4, d4) := by
      unfold cmdD
      rw [qk]
      simp [bindD, hk, tailD, q1, q2, q3, q4]
    rw [e]
    have H1 := Lib.hid (lname_at (b := b) (p := p) q1)
    have H2 := Lib.hid (lname_at (b := b) (p := p) q2)
    have H3 := Lib.hid (lname_at (b := b) (p := p) q3)
    clear e hl qk q0 hk q1 q2 q3 q4
    go_enter Tryz.func34, Tryz.ntmps34
    go_wp2_with (first
      | (go_at_call 32; with_reducible refine (H0.out _ HX0.out.ds).mono ?_; rintro e w0 ⟨rfl, g0, l0, k0⟩; have X0 := HX0.out.call k0 l0; have y1 := l0.c1; have y2 := l0.f1; have y3 := l0.lt; have X1 := X0.boxBad true [.int .i64 5, .string ⟨#[]⟩, .string ⟨#[]⟩, .string ⟨#[]⟩, .string ⟨#[]⟩, .string ⟨#[]⟩, .slice none 0 0, .string ⟨#[]⟩, .int .i64 0, .slice none 0 0, .int .i64 0, .int .i64 0, .string ⟨#[]⟩, .string ⟨#[]⟩, .string ⟨#[]⟩, .int .i64 0, .bool false] 31; have z0 := X1.lt; obtain ⟨z00, z01, z02⟩ := z0; have X0s := Lib.hid X1; clear l0 k0 X0 X1)
      | (go_at_call 56; with_reducible refine (HK.out _).mono ?_; rintro e wk ⟨rfl, rfl⟩)
      | (go_at_call 57; with_reducible refine (H1.out _ X0s.out.nr.ds).mono ?_; rintro e w1 ⟨rfl, g1, m1, k1⟩; have X1 := X0s.out.call k1 m1; obtain ⟨ca1, fa1⟩ := X1.cf 1 (by simp); obtain ⟨cb1, fb1⟩ := X1.cf 0 (by simp); have z1 := X1.lt; obtain ⟨z10, z11, z12⟩ := z1; have X1s : Nx b p w.heap.size w0.heap.size w _ _ _ [.int .i64 0, .string ⟨#[]⟩, .string ⟨#[]⟩, .string ⟨#[]⟩, .string ⟨#[]⟩, .string ⟨#[]⟩, .slice none 0 0, .string ⟨#[]⟩, .int .i64 0, .slice none 0 0, .int .i64 0, .int .i64 0, .string ⟨#[]⟩, .string ⟨#[]⟩, .string ⟨#[]⟩, .int .i64 0, .bool false] [.int .i64 5, .string s1, .string ⟨#[]⟩, .string ⟨#[]⟩, .string ⟨#[]⟩, .string ⟨#[]⟩, .slice none 0 0, .string ⟨#[]⟩, .int .i64 0, .slice none 0 0, .int .i64 0, .int .i64 0, .string ⟨#[]⟩, .string ⟨#[]⟩, .string ⟨#[]⟩, .int .i64 0, .bool false] := X1.set 1 (.string s1) (by simp); have X1s := Lib.hid X1s; clear m1 k1 X1)
      | (go_at_call 57; with_reducible refine (H2.out _ X1s.out.nr.ds).mono ?_; rintro e w2 ⟨rfl, g2, m2, k2⟩; have X2 := X1s.out.call k2 m2; obtain ⟨ca2, fa2⟩ := X2.cf 2 (by simp); obtain ⟨cb2, fb2⟩ := X2.cf 0 (by simp); have z2 := X2.lt; obtain ⟨z20, z21, z22⟩ := z2; have X2s : Nx b p w.heap.size w0.heap.size w _ _ _ [.int .i64 0, .string ⟨#[]⟩, .string ⟨#[]⟩, .string ⟨#[]⟩, .string ⟨#[]⟩, .string ⟨#[]⟩, .slice none 0 0, .string ⟨#[]⟩, .int .i64 0, .slice none 0 0, .int .i64 0, .int .i64 0, .string ⟨#[]⟩, .string ⟨#[]⟩, .string ⟨#[]⟩, .int .i64 0, .bool false] [.int .i64 5, .string s1, .string s2, .string ⟨#[]⟩, .string ⟨#[]⟩, .string ⟨#[]⟩, .slice none 0 0, .string ⟨#[]⟩, .int .i64 0, .slice none 0 0, .int .i64 0, .int .i64 0, .string ⟨#[]⟩, .string ⟨#[]⟩, .string ⟨#[]⟩, .int .i64 0, .bool false] := X2.set 2 (.string s2) (by simp); have X2s := Lib.hid X2s; clear m2 k2 X2)
      | (go_at_call 57; with_reducible refine (H3.out _ X2s.out.nr.ds).mono ?_; rintro e w3 ⟨rfl, g3, m3, k3⟩; have X3 := X2s.out.call k3 m3; obtain ⟨ca3, fa3⟩ := X3.cf 3 (by simp); obtain ⟨cb3, fb3⟩ := X3.cf 0 (by simp); have z3 := X3.lt; obtain ⟨z30, z31, z32⟩ := z3; have X3s : Nx b p w.heap.size w0.heap.size w _ _ _ [.int .i64 0, .string ⟨#[]⟩, .string ⟨#[]⟩, .string ⟨#[]⟩, .string ⟨#[]⟩, .string ⟨#[]⟩, .slice none 0 0, .string ⟨#[]⟩, .int .i64 0, .slice none 0 0, .int .i64 0, .int .i64 0, .string ⟨#[]⟩, .string ⟨#[]⟩, .string ⟨#[]⟩, .int .i64 0, .bool false] [.int .i64 5, .string s1, .string s2, .string s3, .string ⟨#[]⟩, .string ⟨#[]⟩, .slice none 0 0, .string ⟨#[]⟩, .int .i64 0, .slice none 0 0, .int .i64 0, .int .i64 0, .string ⟨#[]⟩, .string ⟨#[]⟩, .string ⟨#[]⟩, .int .i64 0, .bool false] := X3.set 3 (.string s3) (by simp); have X3s := Lib.hid X3s; clear m3 k3 X3)
      | (go_at_call 58; with_reducible refine (H4.out _ X3s.out.nr.ds).mono ?_; rintro e w4 ⟨rfl, g4, m4, k4⟩; have X4 := X3s.out.call k4 m4; obtain ⟨ca4, fa4⟩ := X4.cf 6 (by simp); obtain ⟨cb4, fb4⟩ := X4.cf 0 (by simp); have z4 := X4.lt; obtain ⟨z40, z41, z42⟩ := z4; have X4s := Lib.hid X4; clear m4 k4 X4)
      | (at_builtin; go_must (refine app_desk Tryz.underlying24 infoDC rfl (by decide) (by decide) rfl _ _ rfl w4.heap.size (.slice none 0 0) 0 [] rfl (own_nilN _) (w4.heap.size + 1) [.string x4.name, .int .i64 x4.kind, .bool x4.null] rfl (heap_new2 w4 _ _) rfl (by simp [Value.oneCell']) (by omega) (size_new2 w4 _ _) ?_); intro gg cap' w5 hown5 hgrow hat; have X5 := X4s.out.aft (aft_app2 hgrow); have G5 := Lib.hid (ColsN.one hown5 z40 g4); obtain ⟨ca5, fa5⟩ := X5.cf 6 (by simp); have z5 := X5.lt; obtain ⟨z50, z51, z52⟩ := z5; have X5s : Nx b p w.heap.size w0.heap.size w _ _ _ [.int .i64 0, .string ⟨#[]⟩, .string ⟨#[]⟩, .string ⟨#[]⟩, .string ⟨#[]⟩, .string ⟨#[]⟩, .slice none 0 0, .string ⟨#[]⟩, .int .i64 0, .slice none 0 0, .int .i64 0, .int .i64 0, .string ⟨#[]⟩, .string ⟨#[]⟩, .string ⟨#[]⟩, .int .i64 0, .bool false] [.int .i64 5, .string s1, .string s2, .string s3, .string ⟨#[]⟩, .string ⟨#[]⟩, .slice (some ⟨gg, 0, none⟩) 1 cap', .string ⟨#[]⟩, .int .i64 0, .slice none 0 0, .int .i64 0, .int .i64 0, .string ⟨#[]⟩, .string ⟨#[]⟩, .string ⟨#[]⟩, .int .i64 0, .bool false] := X5.set 6 (.slice (some ⟨gg, 0, none⟩) 1 cap') (by simp); have X5s := Lib.hid X5s; have e1 := lvCmd_row X5s.out.row rfl; have e2 := svCmd_row X5s.out.nr.res rfl rfl (vs := [.int .i64 5, .string s1, .string s2, .string s3, .string ⟨#[]⟩, .string ⟨#[]⟩, .slice (some ⟨gg, 0, none⟩) 1 cap', .string ⟨#[]⟩, .int .i64 0, .slice none 0 0, .int .i64 0, .int .i64 0, .string ⟨#[]⟩, .string ⟨#[]⟩, .string ⟨#[]⟩, .int .i64 0, .bool false]) (by simp [Value.oneCell']); clear hown5 hgrow hat X5))
    have XR := X5s.out.nr.sets (cs := [.int .i64 5, .string s1, .string s2, .string s3, .string ⟨#[]⟩, .string ⟨#[]⟩, .slice (some ⟨gg, 0, none⟩) 1 cap', .string ⟨#[]⟩, .int .i64 0, .slice none 0 0, .int .i64 0, .int .i64 0, .string ⟨#[]⟩, .string ⟨#[]⟩, .string ⟨#[]⟩, .int .i64 0, .bool false]) rfl
    refine bodyPost_ret (results_cell rfl _ rfl (lv_row (T := 31) Tryz.underlying31 (by kernel_rfl) XR.res rfl)) rfl ?_
    have S := X4s.out.lt
    have S2 := X4s.out.nr.kw.size
    have G := ((G5.out.hi (Kb.set w5 w0.heap.size 6 (.slice (some ⟨gg, 0, none⟩) 1 cap')) (fun g e => by have e' : g = w0.heap.size := e; omega)).hi (kb_setCellsD w.heap.size [.int .i64 5, .string s1, .string s2, .string s3, .string ⟨#[]⟩, .string ⟨#[]⟩, .slice (some ⟨gg, 0, none⟩) 1 cap', .string ⟨#[]⟩, .int .i64 0, .slice none 0 0, .int .i64 0, .int .i64 0, .string ⟨#[]⟩, .string ⟨#[]⟩, .string ⟨#[]⟩, .int .i64 0, .bool false] _ 0) (fun g e => by have e' : g = w.heap.size := e; omega)).down (B0 := w.heap.size) S2 HB.out
    exact ⟨XR.kw, _, rfl, ⟨some ⟨gg, 0, none⟩, cap', none, 0, rfl, G, namesN_nil _ _ _ HB.out, g1, g2, g3, szZ, szZ, szZ, szZ, szZ, szZ⟩, XR.ds⟩
set_option maxHeartbeats 2000000 in
theorem commandN_7 (f : ByteArray) (W : Ws) (d : Bool) (W0 : Ws) (d0 : Bool) (q0 : wordD W d = (f, W0, d0)) (hk : kindB f = 7) (b p : Nat) (w : World) (hl : LnS w b p W d) : Calls Tryz.prog 34 #[.pointer (some ⟨b, 0, none⟩)] w (RdN b p w (CmdN b w.heap.size) (cmdD W d)) := by
  have H0 := Lib.hid (lword_at (b := b) (p := p) q0)
  have HK := Lib.hid (lkind_at hk)
  have qk := one_kind q0 hk
  have HX0 := Lib.hid (Nr.start hl [.int .i64 0, .string ⟨#[]⟩, .string ⟨#[]⟩, .string ⟨#[]⟩, .string ⟨#[]⟩, .string ⟨#[]⟩, .slice none 0 0, .string ⟨#[]⟩, .int .i64 0, .slice none 0 0, .int .i64 0, .int .i64 0, .string ⟨#[]⟩, .string ⟨#[]⟩, .string ⟨#[]⟩, .int .i64 0, .bool false] 31)
  have hb := hl.lt
  have HB := Lib.hid hb
  cases d0
  · have qk : oneD (fun s => (s, kindB s != 0)) W d = (f, W0, false) := qk
    obtain ⟨s1, W1, d1, q1⟩ : ∃ a c e, nameD W0 false = (a, c, e) := ⟨_, _, _, rfl⟩
    obtain ⟨s2, W2, d2, q2⟩ : ∃ a c e, nameD W1 d1 = (a, c, e) := ⟨_, _, _, rfl⟩
    obtain ⟨s3, W3, d3, q3⟩ : ∃ a c e, nameD W2 d2 = (a, c, e) := ⟨_, _, _, rfl⟩
    obtain ⟨x4, W4, d4, q4⟩ : ∃ a c e, ruleD f W3 d3 = (a, c, e) := ⟨_, _, _, rfl⟩
    have H4 := Lib.hid (lrule_at (b := b) (p := p) q4)
    have e : cmdD W d = ({ zCmd with kind := 7, actor := s1, schema := s2, table := s3, rule := x4 }, W4, d4) := by
      unfold cmdD
      rw [qk]
      simp [bindD, hk, tailD, q1, q2, q3, q4]
    rw [e]
    have H1 := Lib.hid (lname_at (b := b) (p := p) q1)
    have H2 := Lib.hid (lname_at (b := b) (p := p) q2)
    have H3 := Lib.hid (lname_at (b := b) (p := p) q3)
    clear e hl qk q0 hk q1 q2 q3 q4
    go_enter Tryz.func34, Tryz.ntmps34
    go_wp2_with (first
      | (go_at_call 32; with_reducible refine (H0.out _ HX0.out.ds).mono ?_; rintro e w0 ⟨rfl, g0, l0, k0⟩; have X0 := HX0.out.call k0 l0; have y1 := l0.c1; have y2 := l0.f1; have y3 := l0.lt; have X1 := X0.boxBad false [.int .i64 7, .string ⟨#[]⟩, .string ⟨#[]⟩, .string ⟨#[]⟩, .string ⟨#[]⟩, .string ⟨#[]⟩, .slice none 0 0, .string ⟨#[]⟩, .int .i64 0, .slice none 0 0, .int .i64 0, .int .i64 0, .string ⟨#[]⟩, .string ⟨#[]⟩, .string ⟨#[]⟩, .int .i64 0, .bool false] 31; have z0 := X1.lt; obtain ⟨z00, z01, z02⟩ := z0; have X0s := Lib.hid X1; clear l0 k0 X0 X1)
      | (go_at_call 56; with_reducible refine (HK.out _).mono ?_; rintro e wk ⟨rfl, rfl⟩)
      | (go_at_call 57; with_reducible refine (H1.out _ X0s.out.nr.ds).mono ?_; rintro e w1 ⟨rfl, g1, m1, k1⟩; have X1 := X0s.out.call k1 m1; obtain ⟨ca1, fa1⟩ := X1.cf 1 (by simp); obtain ⟨cb1, fb1⟩ := X1.cf 0 (by simp); have z1 := X1.lt; obtain ⟨z10, z11, z12⟩ := z1; have X1s : Nx b p w.heap.size w0.heap.size w _ _ _ [.int .i64 0, .string ⟨#[]⟩, .string ⟨#[]⟩, .string ⟨#[]⟩, .string ⟨#[]⟩, .string ⟨#[]⟩, .slice none 0 0, .string ⟨#[]⟩, .int .i64 0, .slice none 0 0, .int .i64 0, .int .i64 0, .string ⟨#[]⟩, .string ⟨#[]⟩, .string ⟨#[]⟩, .int .i64 0, .bool false] [.int .i64 7, .string s1, .string ⟨#[]⟩, .string ⟨#[]⟩, .string ⟨#[]⟩, .string ⟨#[]⟩, .slice none 0 0, .string ⟨#[]⟩, .int .i64 0, .slice none 0 0, .int .i64 0, .int .i64 0, .string ⟨#[]⟩, .string ⟨#[]⟩, .string ⟨#[]⟩, .int .i64 0, .bool false] := X1.set 1 (.string s1) (by simp); have X1s := Lib.hid X1s; clear m1 k1 X1)
      | (go_at_call 57; with_reducible refine (H2.out _ X1s.out.nr.ds).mono ?_; rintro e w2 ⟨rfl, g2, m2, k2⟩; have X2 := X1s.out.call k2 m2; obtain ⟨ca2, fa2⟩ := X2.cf 2 (by simp); obtain ⟨cb2, fb2⟩ := X2.cf 0 (by simp); have z2 := X2.lt; obtain ⟨z20, z21, z22⟩ := z2; have X2s : Nx b p w.heap.size w0.heap.size w _ _ _ [.int .i64 0, .string ⟨#[]⟩, .string ⟨#[]⟩, .string ⟨#[]⟩, .string ⟨#[]⟩, .string ⟨#[]⟩, .slice none 0 0, .string ⟨#[]⟩, .int .i64 0, .slice none 0 0, .int .i64 0, .int .i64 0, .string ⟨#[]⟩, .string ⟨#[]⟩, .string ⟨#[]⟩, .int .i64 0, .bool false] [.int .i64 7, .string s1, .string s2, .string ⟨#[]⟩, .string ⟨#[]⟩, .string ⟨#[]⟩, .slice none 0 0, .string ⟨#[]⟩, .int .i64 0, .slice none 0 0, .int .i64 0, .int .i64 0, .string ⟨#[]⟩, .string ⟨#[]⟩, .string ⟨#[]⟩, .int .i64 0, .bool false] := X2.set 2 (.string s2) (by simp); have X2s := Lib.hid X2s; clear m2 k2 X2)
      | (go_at_call 57; with_reducible refine (H3.out _ X2s.out.nr.ds).mono ?_; rintro e w3 ⟨rfl, g3, m3, k3⟩; have X3 := X2s.out.call k3 m3; obtain ⟨ca3, fa3⟩ := X3.cf 3 (by simp); obtain ⟨cb3, fb3⟩ := X3.cf 0 (by simp); have z3 := X3.lt; obtain ⟨z30, z31, z32⟩ := z3; have X3s : Nx b p w.heap.size w0.heap.size w _ _ _ [.int .i64 0, .string ⟨#[]⟩, .string ⟨#[]⟩, .string ⟨#[]⟩, .string ⟨#[]⟩, .string ⟨#[]⟩, .slice none 0 0, .string ⟨#[]⟩, .int .i64 0, .slice none 0 0, .int .i64 0, .int .i64 0, .string ⟨#[]⟩, .string ⟨#[]⟩, .string ⟨#[]⟩, .int .i64 0, .bool false] [.int .i64 7, .string s1, .string s2, .string s3, .string ⟨#[]⟩, .string ⟨#[]⟩, .slice none 0 0, .string ⟨#[]⟩, .int .i64 0, .slice none 0 0, .int .i64 0, .int .i64 0, .string ⟨#[]⟩, .string ⟨#[]⟩, .string ⟨#[]⟩, .int .i64 0, .bool false] := X3.set 3 (.string s3) (by simp); have X3s := Lib.hid X3s; clear m3 k3 X3)
      | (go_at_call 59; with_reducible refine (H4.out _ X3s.out.nr.ds).mono ?_; rintro e w4 ⟨A4, c4, rfl, g4, m4, k4⟩; have X4 := X3s.out.call k4 m4; have z4 := X4.lt; obtain ⟨z40, z41, z42⟩ := z4; have e0 := svRul_at (n := 7) (pre := [.int .i64 7, .string s1, .string s2, .string s3, .string ⟨#[]⟩, .string ⟨#[]⟩, .slice none 0 0]) (mid := [.string ⟨#[]⟩, .int .i64 0, .slice none 0 0, .int .i64 0, .int .i64 0, .string ⟨#[]⟩, .string ⟨#[]⟩, .string ⟨#[]⟩]) (post := [.int .i64 0, .bool false]) (vs := [.string x4.name, .int .i64 x4.kind, .slice A4 x4.cols.length c4, .int .i64 x4.low, .int .i64 x4.high, .string x4.schema, .string x4.table, .string x4.key]) X4.row rfl rfl rfl (by simp [Value.oneCell']); have X4t := X4.setsAt (pre := [.int .i64 7, .string s1, .string s2, .string s3, .string ⟨#[]⟩, .string ⟨#[]⟩, .slice none 0 0]) (mid := [.string ⟨#[]⟩, .int .i64 0, .slice none 0 0, .int .i64 0, .int .i64 0, .string ⟨#[]⟩, .string ⟨#[]⟩, .string ⟨#[]⟩]) (post := [.int .i64 0, .bool false]) (n := 7) (vs := [.string x4.name, .int .i64 x4.kind, .slice A4 x4.cols.length c4, .int .i64 x4.low, .int .i64 x4.high, .string x4.schema, .string x4.table, .string x4.key]) rfl rfl; have X4s : Nx b p w.heap.size w0.heap.size w _ _ _ [.int .i64 0, .string ⟨#[]⟩, .string ⟨#[]⟩, .string ⟨#[]⟩, .string ⟨#[]⟩, .string ⟨#[]⟩, .slice none 0 0, .string ⟨#[]⟩, .int .i64 0, .slice none 0 0, .int .i64 0, .int .i64 0, .string ⟨#[]⟩, .string ⟨#[]⟩, .string ⟨#[]⟩, .int .i64 0, .bool false] [.int .i64 7, .string s1, .string s2, .string s3, .string ⟨#[]⟩, .string ⟨#[]⟩, .slice none 0 0, .string x4.name, .int .i64 x4.kind, .slice A4 x4.cols.length c4, .int .i64 x4.low, .int .i64 x4.high, .string x4.schema, .string x4.table, .string x4.key, .int .i64 0, .bool false] := X4t; have X4s := Lib.hid X4s; have e1 := lvCmd_row X4s.out.row rfl; have e2 := svCmd_row X4s.out.nr.res rfl rfl (vs := [.int .i64 7, .string s1, .string s2, .string s3, .string ⟨#[]⟩, .string ⟨#[]⟩, .slice none 0 0, .string x4.name, .int .i64 x4.kind, .slice A4 x4.cols.length c4, .int .i64 x4.low, .int .i64 x4.high, .string x4.schema, .string x4.table, .string x4.key, .int .i64 0, .bool false]) (by simp [Value.oneCell']); clear m4 X4 X4t))
    have XR := X4s.out.nr.sets (cs := [.int .i64 7, .string s1, .string s2, .string s3, .string ⟨#[]⟩, .string ⟨#[]⟩, .slice none 0 0, .string x4.name, .int .i64 x4.kind, .slice A4 x4.cols.length c4, .int .i64 x4.low, .int .i64 x4.high, .string x4.schema, .string x4.table, .string x4.key, .int .i64 0, .bool false]) rfl
    refine bodyPost_ret (results_cell rfl _ rfl (lv_row (T := 31) Tryz.underlying31 (by kernel_rfl) XR.res rfl)) rfl ?_
    have S := X3s.out.lt
    have S2 := X3s.out.nr.kw.size
    have G := ((g4.1.hi (kb_setCellsD w0.heap.size [.string x4.name, .int .i64 x4.kind, .slice A4 x4.cols.length c4, .int .i64 x4.low, .int .i64 x4.high, .string x4.schema, .string x4.table, .string x4.key] w4 7) (fun g e => by have e' : g = w0.heap.size := e; omega)).hi (kb_setCellsD w.heap.size [.int .i64 7, .string s1, .string s2, .string s3, .string ⟨#[]⟩, .string ⟨#[]⟩, .slice none 0 0, .string x4.name, .int .i64 x4.kind, .slice A4 x4.cols.length c4, .int .i64 x4.low, .int .i64 x4.high, .string x4.schema, .string x4.table, .string x4.key, .int .i64 0, .bool false] _ 0) (fun g e => by have e' : g = w.heap.size := e; omega)).down (B0 := w.heap.size) S2 HB.out
    exact ⟨XR.kw, _, rfl, ⟨none, 0, A4, c4, rfl, colsN_nil _ _ _ HB.out, G, g1, g2, g3, szZ, szZ, g4.2.1, g4.2.2.1, g4.2.2.2.1, g4.2.2.2.2⟩, XR.ds⟩
  · have qk : oneD (fun s => (s, kindB s != 0)) W d = (f, W0, true) := qk
    obtain ⟨s1, W1, d1, q1⟩ : ∃ a c e, nameD W0 true = (a, c, e) := ⟨_, _, _, rfl⟩
    obtain ⟨s2, W2, d2, q2⟩ : ∃ a c e, nameD W1 d1 = (a, c, e) := ⟨_, _, _, rfl⟩
    obtain ⟨s3, W3, d3, q3⟩ : ∃ a c e, nameD W2 d2 = (a, c, e) := ⟨_, _, _, rfl⟩
    obtain ⟨x4, W4, d4, q4⟩ : ∃ a c e, ruleD f W3 d3 = (a, c, e) := ⟨_, _, _, rfl⟩
    have H4 := Lib.hid (lrule_at (b := b) (p := p) q4)
    have e : cmdD W d = ({ zCmd with kind := 7, actor := s1, schema := s2, table := s3, rule := x4 }, W4, d4) := by
      unfold cmdD
      rw [qk]
      simp [bindD, hk, tailD, q1, q2, q3, q4]
    rw [e]
    have H1 := Lib.hid (lname_at (b := b) (p := p) q1)
    have H2 := Lib.hid (lname_at (b := b) (p := p) q2)
    have H3 := Lib.hid (lname_at (b := b) (p := p) q3)
    clear e hl qk q0 hk q1 q2 q3 q4
    go_enter Tryz.func34, Tryz.ntmps34
    go_wp2_with (first
      | (go_at_call 32; with_reducible refine (H0.out _ HX0.out.ds).mono ?_; rintro e w0 ⟨rfl, g0, l0, k0⟩; have X0 := HX0.out.call k0 l0; have y1 := l0.c1; have y2 := l0.f1; have y3 := l0.lt; have X1 := X0.boxBad true [.int .i64 7, .string ⟨#[]⟩, .string ⟨#[]⟩, .string ⟨#[]⟩, .string ⟨#[]⟩, .string ⟨#[]⟩, .slice none 0 0, .string ⟨#[]⟩, .int .i64 0, .slice none 0 0, .int .i64 0, .int .i64 0, .string ⟨#[]⟩, .string ⟨#[]⟩, .string ⟨#[]⟩, .int .i64 0, .bool false] 31; have z0 := X1.lt; obtain ⟨z00, z01, z02⟩ := z0; have X0s := Lib.hid X1; clear l0 k0 X0 X1)
      | (go_at_call 56; with_reducible refine (HK.out _).mono ?_; rintro e wk ⟨rfl, rfl⟩)
      | (go_at_call 57; with_reducible refine (H1.out _ X0s.out.nr.ds).mono ?_; rintro e w1 ⟨rfl, g1, m1, k1⟩; have X1 := X0s.out.call k1 m1; obtain ⟨ca1, fa1⟩ := X1.cf 1 (by simp); obtain ⟨cb1, fb1⟩ := X1.cf 0 (by simp); have z1 := X1.lt; obtain ⟨z10, z11, z12⟩ := z1; have X1s : Nx b p w.heap.size w0.heap.size w _ _ _ [.int .i64 0, .string ⟨#[]⟩, .string ⟨#[]⟩, .string ⟨#[]⟩, .string ⟨#[]⟩, .string ⟨#[]⟩, .slice none 0 0, .string ⟨#[]⟩, .int .i64 0, .slice none 0 0, .int .i64 0, .int .i64 0, .string ⟨#[]⟩, .string ⟨#[]⟩, .string ⟨#[]⟩, .int .i64 0, .bool false] [.int .i64 7, .string s1, .string ⟨#[]⟩, .string ⟨#[]⟩, .string ⟨#[]⟩, .string ⟨#[]⟩, .slice none 0 0, .string ⟨#[]⟩, .int .i64 0, .slice none 0 0, .int .i64 0, .int .i64 0, .string ⟨#[]⟩, .string ⟨#[]⟩, .string ⟨#[]⟩, .int .i64 0, .bool false] := X1.set 1 (.string s1) (by simp); have X1s := Lib.hid X1s; clear m1 k1 X1)
      | (go_at_call 57; with_reducible refine (H2.out _ X1s.out.nr.ds).mono ?_; rintro e w2 ⟨rfl, g2, m2, k2⟩; have X2 := X1s.out.call k2 m2; obtain ⟨ca2, fa2⟩ := X2.cf 2 (by simp); obtain ⟨cb2, fb2⟩ := X2.cf 0 (by simp); have z2 := X2.lt; obtain ⟨z20, z21, z22⟩ := z2; have X2s : Nx b p w.heap.size w0.heap.size w _ _ _ [.int .i64 0, .string ⟨#[]⟩, .string ⟨#[]⟩, .string ⟨#[]⟩, .string ⟨#[]⟩, .string ⟨#[]⟩, .slice none 0 0, .string ⟨#[]⟩, .int .i64 0, .slice none 0 0, .int .i64 0, .int .i64 0, .string ⟨#[]⟩, .string ⟨#[]⟩, .string ⟨#[]⟩, .int .i64 0, .bool false] [.int .i64 7, .string s1, .string s2, .string ⟨#[]⟩, .string ⟨#[]⟩, .string ⟨#[]⟩, .slice none 0 0, .string ⟨#[]⟩, .int .i64 0, .slice none 0 0, .int .i64 0, .int .i64 0, .string ⟨#[]⟩, .string ⟨#[]⟩, .string ⟨#[]⟩, .int .i64 0, .bool false] := X2.set 2 (.string s2) (by simp); have X2s := Lib.hid X2s; clear m2 k2 X2)
      | (go_at_call 57; with_reducible refine (H3.out _ X2s.out.nr.ds).mono ?_; rintro e w3 ⟨rfl, g3, m3, k3⟩; have X3 := X2s.out.call k3 m3; obtain ⟨ca3, fa3⟩ := X3.cf 3 (by simp); obtain ⟨cb3, fb3⟩ := X3.cf 0 (by simp); have z3 := X3.lt; obtain ⟨z30, z31, z32⟩ := z3; have X3s : Nx b p w.heap.size w0.heap.size w _ _ _ [.int .i64 0, .string ⟨#[]⟩, .string ⟨#[]⟩, .string ⟨#[]⟩, .string ⟨#[]⟩, .string ⟨#[]⟩, .slice none 0 0, .string ⟨#[]⟩, .int .i64 0, .slice none 0 0, .int .i64 0, .int .i64 0, .string ⟨#[]⟩, .string ⟨#[]⟩, .string ⟨#[]⟩, .int .i64 0, .bool false] [.int .i64 7, .string s1, .string s2, .string s3, .string ⟨#[]⟩, .string ⟨#[]⟩, .slice none 0 0, .string ⟨#[]⟩, .int .i64 0, .slice none 0 0, .int .i64 0, .int .i64 0, .string ⟨#[]⟩, .string ⟨#[]⟩, .string ⟨#[]⟩, .int .i64 0, .bool false] := X3.set 3 (.string s3) (by simp); have X3s := Lib.hid X3s; clear m3 k3 X3)
      | (go_at_call 59; with_reducible refine (H4.out _ X3s.out.nr.ds).mono ?_; rintro e w4 ⟨A4, c4, rfl, g4, m4, k4⟩; have X4 := X3s.out.call k4 m4; have z4 := X4.lt; obtain ⟨z40, z41, z42⟩ := z4; have e0 := svRul_at (n := 7) (pre := [.int .i64 7, .string s1, .string s2, .string s3, .string ⟨#[]⟩, .string ⟨#[]⟩, .slice none 0 0]) (mid := [.string ⟨#[]⟩, .int .i64 0, .slice none 0 0, .int .i64 0, .int .i64 0, .string ⟨#[]⟩, .string ⟨#[]⟩, .string ⟨#[]⟩]) (post := [.int .i64 0, .bool false]) (vs := [.string x4.name, .int .i64 x4.kind, .slice A4 x4.cols.length c4, .int .i64 x4.low, .int .i64 x4.high, .string x4.schema, .string x4.table, .string x4.key]) X4.row rfl rfl rfl (by simp [Value.oneCell']); have X4t := X4.setsAt (pre := [.int .i64 7, .string s1, .string s2, .string s3, .string ⟨#[]⟩, .string ⟨#[]⟩, .slice none 0 0]) (mid := [.string ⟨#[]⟩, .int .i64 0, .slice none 0 0, .int .i64 0, .int .i64 0, .string ⟨#[]⟩, .string ⟨#[]⟩, .string ⟨#[]⟩]) (post := [.int .i64 0, .bool false]) (n := 7) (vs := [.string x4.name, .int .i64 x4.kind, .slice A4 x4.cols.length c4, .int .i64 x4.low, .int .i64 x4.high, .string x4.schema, .string x4.table, .string x4.key]) rfl rfl; have X4s : Nx b p w.heap.size w0.heap.size w _ _ _ [.int .i64 0, .string ⟨#[]⟩, .string ⟨#[]⟩, .string ⟨#[]⟩, .string ⟨#[]⟩, .string ⟨#[]⟩, .slice none 0 0, .string ⟨#[]⟩, .int .i64 0, .slice none 0 0, .int .i64 0, .int .i64 0, .string ⟨#[]⟩, .string ⟨#[]⟩, .string ⟨#[]⟩, .int .i64 0, .bool false] [.int .i64 7, .string s1, .string s2, .string s3, .string ⟨#[]⟩, .string ⟨#[]⟩, .slice none 0 0, .string x4.name, .int .i64 x4.kind, .slice A4 x4.cols.length c4, .int .i64 x4.low, .int .i64 x4.high, .string x4.schema, .string x4.table, .string x4.key, .int .i64 0, .bool false] := X4t; have X4s := Lib.hid X4s; have e1 := lvCmd_row X4s.out.row rfl; have e2 := svCmd_row X4s.out.nr.res rfl rfl (vs := [.int .i64 7, .string s1, .string s2, .string s3, .string ⟨#[]⟩, .string ⟨#[]⟩, .slice none 0 0, .string x4.name, .int .i64 x4.kind, .slice A4 x4.cols.length c4, .int .i64 x4.low, .int .i64 x4.high, .string x4.schema, .string x4.table, .string x4.key, .int .i64 0, .bool false]) (by simp [Value.oneCell']); clear m4 X4 X4t))
    have XR := X4s.out.nr.sets (cs := [.int .i64 7, .string s1, .string s2, .string s3, .string ⟨#[]⟩, .string ⟨#[]⟩, .slice none 0 0, .string x4.name, .int .i64 x4.kind, .slice A4 x4.cols.length c4, .int .i64 x4.low, .int .i64 x4.high, .string x4.schema, .string x4.table, .string x4.key, .int .i64 0, .bool false]) rfl
    refine bodyPost_ret (results_cell rfl _ rfl (lv_row (T := 31) Tryz.underlying31 (by kernel_rfl) XR.res rfl)) rfl ?_
    have S := X3s.out.lt
    have S2 := X3s.out.nr.kw.size
    have G := ((g4.1.hi (kb_setCellsD w0.heap.size [.string x4.name, .int .i64 x4.kind, .slice A4 x4.cols.length c4, .int .i64 x4.low, .int .i64 x4.high, .string x4.schema, .string x4.table, .string x4.key] w4 7) (fun g e => by have e' : g = w0.heap.size := e; omega)).hi (kb_setCellsD w.heap.size [.int .i64 7, .string s1, .string s2, .string s3, .string ⟨#[]⟩, .string ⟨#[]⟩, .slice none 0 0, .string x4.name, .int .i64 x4.kind, .slice A4 x4.cols.length c4, .int .i64 x4.low, .int .i64 x4.high, .string x4.schema, .string x4.table, .string x4.key, .int .i64 0, .bool false] _ 0) (fun g e => by have e' : g = w.heap.size := e; omega)).down (B0 := w.heap.size) S2 HB.out
    exact ⟨XR.kw, _, rfl, ⟨none, 0, A4, c4, rfl, colsN_nil _ _ _ HB.out, G, g1, g2, g3, szZ, szZ, g4.2.1, g4.2.2.1, g4.2.2.2.1, g4.2.2.2.2⟩, XR.ds⟩
end Go.Proofs.YtbdanlipghhgpaaGreatDoor

