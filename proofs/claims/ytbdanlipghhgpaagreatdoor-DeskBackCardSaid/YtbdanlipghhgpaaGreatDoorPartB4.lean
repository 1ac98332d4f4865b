/- Contracts of the program, part 4. -/
import Derived.Laws.EntriesVeiled
import Derived.WalkKit
import Derived.WalkSpells
import Derived.WalkLawsBesides
import Derived.Laws.Cells
import Derived.Laws.IdiomCopy
import Derived.Test.YtbdanlipghhgpaaGreatDoorRows
import Derived.Lib.Bytealg
import Derived.Lib.Hide
import Derived.ProofKit
import Derived.OpenShut
import Derived.Deep.Slices
import Derived.ChangeOld
import Derived.SizedLaws
import Derived.Deep.QuietTactic
import Derived.BigQuiet
import Derived.Below
import Derived.Deep.Draws
import Derived.StillTailTactics
import Derived.ShutString
import Derived.Lib.Atoi
import Derived.Lib.ItoaNum
import Derived.Lib.Split
import Derived.Lib.SplitLaws
import Derived.Lib.CutLaws
import Derived.Lib.Strings
import Derived.Lib.SlTrimSet
import Derived.Deep.Upon
import Derived.OwnWalk
import Derived.Laws.AppendOwn
import Derived.Shelf.Strings.Builder1
import Derived.Shelf.Strings.Builder2
import Derived.Shelf.Strings.OnBuilder
import Derived.Shelf.Strings.Trim
import Derived.Shelf.Small.Utf8
import Derived.Shelf.Small.Strs
import Derived.Shelf.Small.Wraps
import Derived.Shelf.Strconv.Atoi
import Derived.Shelf.Strconv.Itoa0
import Derived.Shelf.Strconv.Itoa1
import Derived.Shelf.LaysM
import Derived.Shelf.Strconv.Itoa2
import Derived.Shelf.Strconv.Itoa3
import Derived.Shelf.Strings.Search1
import Derived.Shelf.Strings.Search2
import Derived.Shelf.Strings.Search3
import Derived.Shelf.Strings.Cut
import Derived.Shelf.Strings.Count
import Derived.Shelf.Strings.Shaped
import Derived.Shelf.Strings.Prefix
import Derived.Shelf.Strings.Split
import Derived.Shelf.Strings.Runes
import Derived.Shelf.Strings.AsciiSet
import Derived.Shelf.Unicode.DecodeSlow
import Derived.Shelf.Slices.Equal
import Derived.Shelf.Slices.Empties2
import Derived.Shelf.Strings.SlTrimAscii
import Derived.Test.YtbdanlipghhgpaaGreatDoorProg
import Derived.Deep.AppendLies
import Derived.Test.YtbdanlipghhgpaaGreatDoorPartB1
import Derived.Test.YtbdanlipghhgpaaGreatDoorPartB2
import Derived.Test.YtbdanlipghhgpaaGreatDoorPartB3
namespace Go.Proofs.YtbdanlipghhgpaaGreatDoor
open Go.RowKit Go.Deep
set_option maxRecDepth 100000
set_option linter.unusedVariables false
theorem eqS_as {a b : ByteArray} {q : Bool} (h : eqS a b = q) : (a.toList == b.data.toList) = q := by rw [← ByteArray.toList_eq]; exact h
def Kn (n : Nat) (w w' : World) : Prop := Kb (fun k => n ≤ k) w w'
theorem Kn.refl (n : Nat) (w : World) : Kn n w w := Kb.refl _ w
theorem Kn.aft {n : Nat} {w w1 w2 : World} (h : Kn n w w1) (a : Aft w1 w2) : Kn n w w2 := Kb.trans h (Kb.of_aft a)
theorem Kn.alloc {n : Nat} {w w1 : World} (h : Kn n w w1) (o : Obj) : Kn n w (w1.alloc o) := h.aft ((Aft.refl _).alloc o)
theorem Kn.set {n : Nat} {w w1 : World} (h : Kn n w w1) (g j : Nat) (v : Value) (hg : n ≤ g) : Kn n w (w1.setCell ⟨g, j, none⟩ v) :=
  ⟨h.os, h.tape, h.output, by simpa using h.size, fun k hk hn => by
    have hne : ¬ k = g := by have hn' : ¬ n ≤ k := hn; omega
    rw [Below.heap_setCell _ _ _ _ hne]
    exact h.block k hk hn⟩
theorem Kw.kn {b n : Nat} {w w1 w2 : World} (h : Kw b w w1) (k : Kn n w1 w2) (hn : w.heap.size ≤ n) : Kw b w w2 :=
  ⟨k.os.trans h.os, k.tape.trans h.tape, k.output.trans h.output, Nat.le_trans h.size k.size, fun j hj hne => (k.block j (Nat.lt_of_lt_of_le hj h.size) (by omega)).trans (h.block j hj hne)⟩
theorem WdS.kn {b p n : Nat} {w1 w2 : World} {W : Ws} (h : WdS w1 b p W) (k : Kn n w1 w2) (hb : b < n) (hp : p < n) : WdS w2 b p W := h.kb k (by omega) (by omega) (by omega)
theorem WdS.plt {w : World} {b p : Nat} {W : Ws} (h : WdS w b p W) : p < w.heap.size := by obtain ⟨o, c, _, h2⟩ := h.ex; exact h2.2.1
theorem lvCol_at {V : World} {r : Nat} {v0 v1 v2 : Value} (h0 : V.cell? ⟨r, 0, none⟩ = some v0) (h1 : V.cell? ⟨r, 1, none⟩ = some v1) (h2 : V.cell? ⟨r, 2, none⟩ = some v2) :
    (loadVar 67 ⟨r, 0, none⟩).run Tryz.prog V = .ok (.agg #[v0, v1, v2]) V := by
  have h := run_lvCol V r 0 (by rw [h0]; rfl) (by rw [Nat.zero_add, h1]; rfl) (by rw [Nat.zero_add, h2]; rfl)
  simp only [Nat.zero_add, h0, h1, h2, Option.getD_some] at h
  exact h
theorem lvVal_at {V : World} {r : Nat} {v0 v1 v2 : Value} (h0 : V.cell? ⟨r, 0, none⟩ = some v0) (h1 : V.cell? ⟨r, 1, none⟩ = some v1) (h2 : V.cell? ⟨r, 2, none⟩ = some v2) :
    (loadVar 39 ⟨r, 0, none⟩).run Tryz.prog V = .ok (.agg #[v0, v1, v2]) V := by
  have h := run_lvVal V r 0 (by rw [h0]; rfl) (by rw [Nat.zero_add, h1]; rfl) (by rw [Nat.zero_add, h2]; rfl)
  simp only [Nat.zero_add, h0, h1, h2, Option.getD_some] at h
  exact h
theorem set3 (w2 : World) (r : Nat) (v0 v1 v2 : Value) (h0 : (w2.cell? ⟨r, 0, none⟩).isSome = true) (h1 : (w2.cell? ⟨r, 1, none⟩).isSome = true) (h2 : (w2.cell? ⟨r, 2, none⟩).isSome = true) :
    (((w2.setCell ⟨r, 0, none⟩ v0).setCell ⟨r, 1, none⟩ v1).setCell ⟨r, 2, none⟩ v2).cell? ⟨r, 0, none⟩ = some v0 ∧ (((w2.setCell ⟨r, 0, none⟩ v0).setCell ⟨r, 1, none⟩ v1).setCell ⟨r, 2, none⟩ v2).cell? ⟨r, 1, none⟩ = some v1 ∧
    (((w2.setCell ⟨r, 0, none⟩ v0).setCell ⟨r, 1, none⟩ v1).setCell ⟨r, 2, none⟩ v2).cell? ⟨r, 2, none⟩ = some v2 := by
  refine ⟨?_, ?_, ?_⟩ <;> go_simp
theorem lvCol_set (w2 : World) (r : Nat) (v0 v1 v2 : Value) (o : Obj) (hr : r < w2.heap.size) (h0 : (w2.cell? ⟨r, 0, none⟩).isSome = true) (h1 : (w2.cell? ⟨r, 1, none⟩).isSome = true) (h2 : (w2.cell? ⟨r, 2, none⟩).isSome = true) :
    (loadVar 67 ⟨r, 0, none⟩).run Tryz.prog ((((w2.setCell ⟨r, 0, none⟩ v0).setCell ⟨r, 1, none⟩ v1).setCell ⟨r, 2, none⟩ v2).alloc o) = .ok (.agg #[v0, v1, v2]) ((((w2.setCell ⟨r, 0, none⟩ v0).setCell ⟨r, 1, none⟩ v1).setCell ⟨r, 2, none⟩ v2).alloc o) := by
  obtain ⟨a, b, c⟩ := set3 w2 r v0 v1 v2 h0 h1 h2
  have hl : r < (((w2.setCell ⟨r, 0, none⟩ v0).setCell ⟨r, 1, none⟩ v1).setCell ⟨r, 2, none⟩ v2).heap.size := by simpa using hr
  exact lvCol_at ((World.cell?_alloc_past _ _ _ hl).trans a) ((World.cell?_alloc_past _ _ _ hl).trans b) ((World.cell?_alloc_past _ _ _ hl).trans c)
theorem lvVal_set (w2 : World) (r : Nat) (v0 v1 v2 : Value) (h0 : (w2.cell? ⟨r, 0, none⟩).isSome = true) (h1 : (w2.cell? ⟨r, 1, none⟩).isSome = true) (h2 : (w2.cell? ⟨r, 2, none⟩).isSome = true) :
    (loadVar 39 ⟨r, 0, none⟩).run Tryz.prog (((w2.setCell ⟨r, 0, none⟩ v0).setCell ⟨r, 1, none⟩ v1).setCell ⟨r, 2, none⟩ v2) = .ok (.agg #[v0, v1, v2]) (((w2.setCell ⟨r, 0, none⟩ v0).setCell ⟨r, 1, none⟩ v1).setCell ⟨r, 2, none⟩ v2) := by
  obtain ⟨a, b, c⟩ := set3 w2 r v0 v1 v2 h0 h1 h2
  exact lvVal_at a b c
theorem kw_box {b : Nat} {w w1 : World} {c : Array Value} {t : TypeId} (h : Kw b (w.alloc (.cells c t)) w1) (hb : b < w.heap.size) :
    (∀ o, w1.cell? ⟨w.heap.size, o, none⟩ = c[o]?) ∧ (∀ o, w1.frozen? ⟨w.heap.size, o, none⟩ = false) ∧ w.heap.size < w1.heap.size := by
  have h1 := h.block w.heap.size (by simp) (by omega)
  have hz := h.size
  have hz' : (w.alloc (.cells c t)).heap.size = w.heap.size + 1 := by simp
  rw [hz'] at hz
  refine ⟨fun o => ?_, fun o => ?_, by omega⟩
  · have h2 : (w.alloc (.cells c t)).cell? ⟨w.heap.size, o, none⟩ = c[o]? := by simp
    rw [← h2]; simp [World.cell?, h1]
  · have h2 : (w.alloc (.cells c t)).frozen? ⟨w.heap.size, o, none⟩ = false := World.frozen?_alloc_at _ _ _ _ rfl
    rw [← h2]; simp [World.frozen?, h1]
theorem small_z : Small zBy.size := by unfold Small zBy; decide
theorem colP_cons (s : ByteArray) (W : Ws) : colP (s :: W) = (colB s).map fun x => (x, W) := rfl
theorem valP_cons (s : ByteArray) (W : Ws) : valP (s :: W) = (valB s).map fun x => (x, W) := rfl
theorem column_rd (b p : Nat) (W : Ws) (w : World) (h : WdS w b p W) : Calls Tryz.prog 50 #[.pointer (some ⟨b, 0, none⟩)] w (RdQ b p w ColV (colP W)) := by
  cases W with
  | nil =>
    have HM := Lib.hid (fun w1 (h : WdS w1 b p []) => word_no b p w1 h)
    have HH := Lib.hid (h.aft ((Aft.refl w).alloc (.cells #[.string ⟨#[]⟩, .int .i64 0, .bool false] 67)))
    clear h
    go_enter Tryz.func50, Tryz.ntmps50
    go_wp2_with (first | (go_at_call 27; refine (HM.out _ HH.out).mono ?_; rintro e w' ⟨he, rfl⟩; unfold NoL at he; subst he))
    exact ⟨rfl, (Kw.refl _ _).alloc _, rfl⟩
  | cons s W =>
    have HM := Lib.hid (fun w1 (h : WdS w1 b p (s :: W)) => word_yes b p s W w1 h)
    have HH := Lib.hid (h.aft ((Aft.refl w).alloc (.cells #[.string ⟨#[]⟩, .int .i64 0, .bool false] 67)))
    have hs := h.small
    have hle := h.le
    have hb := h.lt
    have HPL := Lib.hid h.plt
    clear h
    obtain ⟨t, ht⟩ : ∃ t, nulless s = t := ⟨_, rfl⟩
    have KS := Lib.hid (show ∀ w1 : World, Calls Tryz.prog 82 #[.string s, .string ⟨#[63]⟩] w1 fun e w' => e = .returned (.tuple #[.string t, .bool (nulB s)]) ∧ w' = w1 from fun w1 => ht ▸ Tryz.strings_CutSuffix s ⟨#[63]⟩ w1 hs.le)
    have htz : t.size ≤ 4096 := by have := nulless_le s; rw [ht] at this; omega
    obtain ⟨n, hn⟩ : ∃ n, cutN t = n := ⟨_, rfl⟩
    obtain ⟨k, hk⟩ : ∃ k, cutK t = k := ⟨_, rfl⟩
    have KC := Lib.hid (show ∀ w1 : World, LibV w1 → Calls Tryz.prog 83 #[.string t, .string ⟨#[58]⟩] w1 fun e w' => ∃ f, e = .returned (.tuple #[.string n, .string k, .bool f]) ∧ Aft w1 w' from
      fun w1 ⟨m, hm⟩ => (Tryz.strings_Cut t ⟨#[58]⟩ m w1 (by omega) hm).mono fun e w' ⟨he, q, hq⟩ => ⟨(Lib.cut t.data.toList [58]).2.2, by rw [he, ← hn, ← hk]; rfl, by subst hq; exact (Aft.refl _).drewN q⟩)
    have hnz : n.size ≤ 4096 := by have := cutN_le t; rw [hn] at this; omega
    obtain ⟨q, hq⟩ : ∃ q, nameB n = q := ⟨_, rfl⟩
    have HN := Lib.hid (show ∀ w1 : World, Calls Tryz.prog 81 #[.string n] w1 fun e w' => e = .returned (.bool q) ∧ w1 = w' from fun w1 => hq ▸ name_any n w1 (Small.max (Nat.le_trans hnz (by decide))))
    obtain ⟨q1, hq1⟩ : ∃ q, eqS k b_int = q := ⟨_, rfl⟩
    obtain ⟨q2, hq2⟩ : ∃ q, eqS k b_text = q := ⟨_, rfl⟩
    have e1 := eqS_as hq1
    have e2 := eqS_as hq2
    have HC := Lib.hid (show colB s = if q && (q1 || q2) then some ⟨n, if q2 then 3 else 2, nulB s⟩ else none by unfold colB; rw [ht, hn, hk, hq, hq1, hq2])
    unfold b_int at e1
    unfold b_text at e2
    simp only at e1 e2
    generalize nulB s = u at *
    clear hq hq1 hq2 hn hk ht hs hle htz
    cases q <;> cases q1 <;> cases q2
    all_goals
      simp only [Bool.false_and, Bool.true_and, Bool.false_or, Bool.true_or, Bool.or_false, Bool.or_true, if_true, if_false, Bool.false_eq_true] at HC
      go_enter Tryz.func50, Tryz.ntmps50
      go_wp2_with (first | (go_at_call 27; refine (HM.out _ HH.out).mono ?_; rintro e w1 ⟨rfl, d1, k1⟩; have D1 := Lib.hid d1; have K1 := Lib.hid (((Kw.refl b w).alloc _).trans k1); have KB := Lib.hid (kw_box k1 hb); clear d1 k1) | (go_at_call 82; refine (KS.out _).mono ?_; rintro e w' ⟨rfl, rfl⟩) | (go_at_call 83; refine (KC.out _ D1.out.lib).mono ?_; rintro e w2 ⟨f, rfl, a2⟩; have A2 := Lib.hid a2; obtain ⟨cb, cf, ⟨cz, -, cz1, cz2, -, -⟩, -⟩ := box_aft KB.out.1 KB.out.2.1 KB.out.2.2 a2; have c0 := cb 0; have c1 := cb 1; have c2 := cb 2; simp at c0 c1 c2; have f0 := cf 0; have f1 := cf 1; have f2 := cf 2; clear a2 cb cf) | (go_at_call 81; refine (HN.out _).mono ?_; rintro e w' ⟨rfl, rfl⟩) | (go_at_call 18; first | (refine (dis_no _).mono ?_; rintro e w' ⟨he, rfl⟩; unfold NoL at he; subst he) | (refine (dis_ok _).mono ?_; rintro e w' ⟨rfl, rfl⟩)))
    all_goals first
      | (refine ⟨rfl, K1.out.aft A2.out, ?_⟩
         have e : colP (s :: W) = none := by simp [colP, oneP, HC.out]
         rw [e]; rfl)
      | (refine bodyPost_ret (results_cell rfl _ rfl (lvCol_set w2 w.heap.size _ _ _ _ cz (by rw [c0]; rfl) (by rw [c1]; rfl) (by rw [c2]; rfl))) rfl ?_
         refine ⟨(K1.out.aft A2.out).kn (((((Kn.refl w.heap.size w2).set w.heap.size 0 _ (Nat.le_refl _)).set w.heap.size 1 _ (Nat.le_refl _)).set w.heap.size 2 _ (Nat.le_refl _)).alloc _) (Nat.le_refl _), ?_⟩
         rw [colP_cons, HC.out]
         exact ⟨_, rfl, ⟨rfl, Nat.le_trans hnz (by decide)⟩, (D1.out.aft A2.out).kn (((((Kn.refl w.heap.size w2).set w.heap.size 0 _ (Nat.le_refl _)).set w.heap.size 1 _ (Nat.le_refl _)).set w.heap.size 2 _ (Nat.le_refl _)).alloc _) hb HPL.out⟩)
theorem value_rd (b p : Nat) (W : Ws) (w : World) (h : WdS w b p W) : Calls Tryz.prog 53 #[.pointer (some ⟨b, 0, none⟩)] w (RdQ b p w ValV (valP W)) := by
  cases W with
  | nil =>
    have HM := Lib.hid (fun w1 (h : WdS w1 b p []) => word_no b p w1 h)
    have HH := Lib.hid (h.aft ((Aft.refl w).alloc (.cells #[.int .i64 0, .int .i64 0, .string ⟨#[]⟩] 39)))
    clear h
    go_enter Tryz.func53, Tryz.ntmps53
    go_wp2_with (first | (go_at_call 27; refine (HM.out _ HH.out).mono ?_; rintro e w' ⟨he, rfl⟩; unfold NoL at he; subst he))
    exact ⟨rfl, (Kw.refl _ _).alloc _, rfl⟩
  | cons s W =>
    have HM := Lib.hid (fun w1 (h : WdS w1 b p (s :: W)) => word_yes b p s W w1 h)
    have HH := Lib.hid (h.aft ((Aft.refl w).alloc (.cells #[.int .i64 0, .int .i64 0, .string ⟨#[]⟩] 39)))
    have hs := h.small
    have hle := h.le
    have hb := h.lt
    have HPL := Lib.hid h.plt
    clear h
    obtain ⟨t, ht⟩ : ∃ t, quoless s = t := ⟨_, rfl⟩
    have KS := Lib.hid (show ∀ w1 : World, Calls Tryz.prog 85 #[.string s, .string ⟨#[39]⟩] w1 fun e w' => e = .returned (.tuple #[.string t, .bool (quoB s)]) ∧ w' = w1 from fun w1 => ht ▸ Tryz.strings_CutPrefix s ⟨#[39]⟩ w1)
    have htz : t.size ≤ 4096 := by have := quoless_le s; rw [ht] at this; omega
    obtain ⟨q, hq⟩ : ∃ q, txtB t = q := ⟨_, rfl⟩
    have HP := Lib.hid (show ∀ w1 : World, Calls Tryz.prog 86 #[.string t] w1 fun e w' => e = .returned (.bool q) ∧ w1 = w' from fun w1 => hq ▸ dplain_any t w1 (Nat.le_trans htz (by decide)))
    obtain ⟨q1, hq1⟩ : ∃ q, eqS s b_null = q := ⟨_, rfl⟩
    have e1 := eqS_as hq1
    unfold b_null at e1
    simp only at e1
    obtain ⟨q2, hq2⟩ : ∃ q, quoB s = q := ⟨_, rfl⟩
    rw [hq2] at KS
    obtain ⟨m, hm⟩ : ∃ m, numB s = m := ⟨_, rfl⟩
    have HN := Lib.hid (show ∀ w1 : World, Calls Tryz.prog 47 #[.string s] w1 fun e w' => Aft w1 w' ∧ ∃ n, e = .returned (.tuple #[.int .i64 n, .bool m.isSome]) ∧ ∀ k, m = some k → n = k from fun w1 => by rw [← hm]; exact toNumber_any s w1 hs)
    have HV := Lib.hid (show valB s = if q1 then some ⟨1, 0, zBy⟩ else if q2 then (if q then some ⟨3, 0, t⟩ else none) else m.map fun n => ⟨2, n, zBy⟩ by unfold valB; rw [ht, hq, hq1, hq2, hm])
    clear hq hq1 hq2 hm ht hs hle
    have fin3 : ∀ (w2 : World) (v0 v1 v2 : Value), Kw b w w2 → WdS w2 b p W → Kw b w (((w2.setCell ⟨w.heap.size, 0, none⟩ v0).setCell ⟨w.heap.size, 1, none⟩ v1).setCell ⟨w.heap.size, 2, none⟩ v2) ∧ WdS (((w2.setCell ⟨w.heap.size, 0, none⟩ v0).setCell ⟨w.heap.size, 1, none⟩ v1).setCell ⟨w.heap.size, 2, none⟩ v2) b p W := by
      intro w2 v0 v1 v2 k d
      have kn := (((Kn.refl w.heap.size w2).set w.heap.size 0 v0 (Nat.le_refl _)).set w.heap.size 1 v1 (Nat.le_refl _)).set w.heap.size 2 v2 (Nat.le_refl _)
      exact ⟨k.kn kn (Nat.le_refl _), d.kn kn hb HPL.out⟩
    have FIN := Lib.hid fin3
    clear fin3
    cases q1
    · cases q2
      · cases m with
        | none =>
          go_enter Tryz.func53, Tryz.ntmps53
          go_wp2_with (first | (go_at_call 27; refine (HM.out _ HH.out).mono ?_; rintro e w1 ⟨rfl, d1, k1⟩; have D1 := Lib.hid d1; have K1 := Lib.hid (((Kw.refl b w).alloc _).trans k1); clear d1 k1) | (go_at_call 85; refine (KS.out _).mono ?_; rintro e w' ⟨rfl, rfl⟩) | (go_at_call 47; refine (HN.out _).mono ?_; rintro e w2 ⟨a2, n, rfl, hn⟩; have A2 := Lib.hid a2; clear a2 hn) | (go_at_call 18; refine (dis_no _).mono ?_; rintro e w' ⟨he, rfl⟩; unfold NoL at he; subst he))
          refine ⟨rfl, K1.out.aft A2.out, ?_⟩
          rw [valP_cons, HV.out]; rfl
        | some n =>
          go_enter Tryz.func53, Tryz.ntmps53
          go_wp2_with (first | (go_at_call 27; refine (HM.out _ HH.out).mono ?_; rintro e w1 ⟨rfl, d1, k1⟩; have D1 := Lib.hid d1; have K1 := Lib.hid (((Kw.refl b w).alloc _).trans k1); have KB := Lib.hid (kw_box k1 hb); clear d1 k1) | (go_at_call 85; refine (KS.out _).mono ?_; rintro e w' ⟨rfl, rfl⟩) | (go_at_call 47; refine (HN.out _).mono ?_; rintro e w2 ⟨a2, n', rfl, hn⟩; have A2 := Lib.hid a2; obtain rfl := hn n rfl; obtain ⟨cb, cf, ⟨cz, -, cz1, cz2, -, -⟩, -⟩ := box_aft KB.out.1 KB.out.2.1 KB.out.2.2 a2; have c0 := cb 0; have c1 := cb 1; have c2 := cb 2; simp at c0 c1 c2; have f0 := cf 0; have f1 := cf 1; have f2 := cf 2; clear a2 hn cb cf) | (go_at_call 18; refine (dis_ok _).mono ?_; rintro e w' ⟨rfl, rfl⟩))
          refine bodyPost_ret (results_cell rfl _ rfl (lvVal_set w2 w.heap.size _ _ _ (by rw [c0]; rfl) (by rw [c1]; rfl) (by rw [c2]; rfl))) rfl ?_
          obtain ⟨g1, g2⟩ := FIN.out w2 (.int .i64 2) (.int .i64 n') (.string ⟨#[]⟩) (K1.out.aft A2.out) (D1.out.aft A2.out)
          refine ⟨g1, ?_⟩
          rw [valP_cons, HV.out]
          exact ⟨_, rfl, ⟨rfl, small_z⟩, g2⟩
      · cases q
        · go_enter Tryz.func53, Tryz.ntmps53
          go_wp2_with (first | (go_at_call 27; refine (HM.out _ HH.out).mono ?_; rintro e w1 ⟨rfl, d1, k1⟩; have D1 := Lib.hid d1; have K1 := Lib.hid (((Kw.refl b w).alloc _).trans k1); clear d1 k1) | (go_at_call 85; refine (KS.out _).mono ?_; rintro e w' ⟨rfl, rfl⟩) | (go_at_call 86; refine (HP.out _).mono ?_; rintro e w' ⟨rfl, rfl⟩) | (go_at_call 18; refine (dis_no _).mono ?_; rintro e w' ⟨he, rfl⟩; unfold NoL at he; subst he))
          refine ⟨rfl, K1.out, ?_⟩
          rw [valP_cons, HV.out]; rfl
        · go_enter Tryz.func53, Tryz.ntmps53
          go_wp2_with (first | (go_at_call 27; refine (HM.out _ HH.out).mono ?_; rintro e w1 ⟨rfl, d1, k1⟩; have D1 := Lib.hid d1; have K1 := Lib.hid (((Kw.refl b w).alloc _).trans k1); obtain ⟨cb, cf, cz⟩ := kw_box k1 hb; have c0 := cb 0; have c1 := cb 1; have c2 := cb 2; simp at c0 c1 c2; have f0 := cf 0; have f1 := cf 1; have f2 := cf 2; clear d1 k1 cb cf) | (go_at_call 85; refine (KS.out _).mono ?_; rintro e w' ⟨rfl, rfl⟩) | (go_at_call 86; refine (HP.out _).mono ?_; rintro e w' ⟨rfl, rfl⟩) | (go_at_call 18; refine (dis_ok _).mono ?_; rintro e w' ⟨rfl, rfl⟩))
          refine bodyPost_ret (results_cell rfl _ rfl (lvVal_set _ w.heap.size _ _ _ (by rw [c0]; rfl) (by rw [c1]; rfl) (by rw [c2]; rfl))) rfl ?_
          obtain ⟨g1, g2⟩ := FIN.out _ (.int .i64 3) (.int .i64 0) (.string t) K1.out D1.out
          refine ⟨g1, ?_⟩
          rw [valP_cons, HV.out]
          exact ⟨_, rfl, ⟨rfl, Nat.le_trans htz (by decide)⟩, g2⟩
    · go_enter Tryz.func53, Tryz.ntmps53
      go_wp2_with (first | (go_at_call 27; refine (HM.out _ HH.out).mono ?_; rintro e w1 ⟨rfl, d1, k1⟩; have D1 := Lib.hid d1; have K1 := Lib.hid (((Kw.refl b w).alloc _).trans k1); obtain ⟨cb, cf, cz⟩ := kw_box k1 hb; have c0 := cb 0; have c1 := cb 1; have c2 := cb 2; simp at c0 c1 c2; have f0 := cf 0; have f1 := cf 1; have f2 := cf 2; clear d1 k1 cb cf))
      refine bodyPost_ret (results_cell rfl _ rfl (lvVal_set _ w.heap.size _ _ _ (by rw [c0]; rfl) (by rw [c1]; rfl) (by rw [c2]; rfl))) rfl ?_
      obtain ⟨g1, g2⟩ := FIN.out _ (.int .i64 1) (.int .i64 0) (.string ⟨#[]⟩) K1.out D1.out
      refine ⟨g1, ?_⟩
      rw [valP_cons, HV.out]
      exact ⟨_, rfl, ⟨rfl, small_z⟩, g2⟩
end Go.Proofs.YtbdanlipghhgpaaGreatDoor

namespace Go.Proofs.YtbdanlipghhgpaaGreatDoor
open Go.RowKit Go.Deep
set_option maxRecDepth 100000
set_option linter.unusedVariables false
theorem infoDS : (Tryz.prog.info? 9).map (fun i => (i.zero, i.size, i.bytes)) = some (some (.string ByteArray.empty), 1, 16) := by kernel_rfl
theorem infoDC : (Tryz.prog.info? 67).map (fun i => (i.zero, i.size, i.bytes)) = some (some (.agg #[.string ByteArray.empty, .int .i64 0, .bool false]), 3, 32) := by kernel_rfl
theorem infoDV : (Tryz.prog.info? 39).map (fun i => (i.zero, i.size, i.bytes)) = some (some (.agg #[.int .i64 0, .int .i64 0, .string ByteArray.empty]), 3, 32) := by kernel_rfl
theorem info_partsD {t : TypeId} {z : Value} {k n : Nat} (h : (Tryz.prog.info? t).map (fun i => (i.zero, i.size, i.bytes)) = some (some z, k, n)) : ∃ i, Tryz.prog.info? t = some i ∧ i.zero = some z ∧ i.size = k ∧ i.bytes = n := by
  cases hq : Tryz.prog.info? t with
  | none => rw [hq] at h; cases h
  | some i =>
    rw [hq] at h
    simp only [Option.map_some, Option.some.injEq, Prod.mk.injEq] at h
    exact ⟨i, rfl, h⟩
def valC (v : Val) : List Value := [.int .i64 v.kind, .int .i64 v.int, .string v.text]
def OwnR {α : Type} (ty : TypeId) (size : Nat) (cells : α → List Value) (b B : Nat) (w' : World) (v : Value) (l : List α) : Prop :=
  ∃ h : Hd, v = .slice h.a l.length h.c ∧ w'.ownsRow B ty size (.slice h.a l.length h.c) l.length (l.flatMap cells) ∧ b < B
theorem OwnR.kw {α : Type} {ty : TypeId} {size : Nat} {cells : α → List Value} {b B : Nat} {w w' : World} {v : Value} {l : List α} (h : OwnR ty size cells b B w v l) (k : Kw b w w') : OwnR ty size cells b B w' v l := by
  obtain ⟨hd, h1, h2, h3⟩ := h
  exact ⟨hd, h1, own_kb h2 k (fun g hg e => by have := (h2.lt g hg).1; have e' : g = b := e; omega), h3⟩
theorem own_one (w : World) (B : Nat) (ty : TypeId) (size : Nat) (cs : List Value) (hs : cs.length = size) (hB : B ≤ w.heap.size) : (w.alloc (.cells cs.toArray ty)).ownsRow B ty size (.slice (some ⟨w.heap.size, 0, none⟩) 1 1) 1 cs :=
  ⟨by omega, .inr ⟨w.heap.size, 1, cs.toArray, rfl, hB, heap_alloc_new w _, by omega, by unfold maxLen; omega, by simp [hs], by simp [← hs]⟩⟩
theorem many_done {α : Type} {f : ByteArray → Option α} {W : Ws} {l : List α} (hl : l ≠ []) (h : W.mapM f = some l) : manyP f W = some (l, []) := by
  unfold manyP
  have hW : W ≠ [] := by rintro rfl; simp at h; exact hl h
  rw [if_neg hW, h]; rfl
theorem mapM_app {α : Type} {f : ByteArray → Option α} : ∀ {W V : Ws} {l : List α}, W.mapM f = some l → (W ++ V).mapM f = (V.mapM f).map (l ++ ·)
  | [], V, l, h => by simp at h; subst h; simp
  | s :: W, V, l, h => by
    rw [List.mapM_cons] at h
    simp only [bind, Option.bind_eq_some_iff, pure, Option.some.injEq] at h
    obtain ⟨x, h1, m, h2, rfl⟩ := h
    rw [List.cons_append, List.mapM_cons, mapM_app (V := V) h2, h1]
    cases V.mapM f <;> rfl
theorem many_fail {α : Type} {f : ByteArray → Option α} {W V : Ws} {s : ByteArray} {l : List α} (h : W.mapM f = some l) (hs : f s = none) : manyP f (W ++ s :: V) = none := by
  unfold manyP
  rw [if_neg (by simp), mapM_app h, List.mapM_cons, hs]; rfl
theorem many_step {α : Type} {f : ByteArray → Option α} {W : Ws} {s : ByteArray} {l : List α} {x : α} (h : W.mapM f = some l) (hs : f s = some x) : (W ++ [s]).mapM f = some (l ++ [x]) := by
  rw [mapM_app h, List.mapM_cons, hs]; rfl
theorem app_desk {ops : Array Oper} {rest : List Oper} {o : Oper} {a : Act} {w : World} {Q : Exit → Act → World → Prop} {ts ty : TypeId} {size : Nat} {z : Value} {bytes : Nat} (hu : Tryz.prog.underlying ts = some (.slice ty))
    (hin : (Tryz.prog.info? ty).map (fun i => (i.zero, i.size, i.bytes)) = some (some z, size, bytes)) (hz : z.cells.size = size) (h1 : 0 < size) (hb1 : bytes ≤ 64) (hgd : o.guard = none) (s x : Operand)
    (ho : o.op = .call { callee := .builtin .append, args := #[s, x], argTypes := #[ts, ts] }) (base : Nat) (v : Value) (n : Nat) (xs : List Value) (hs : a.eval s = v) (hown : w.ownsRow base ty size v n xs)
    (b : Nat) (cs : List Value) (hx : a.eval x = .slice (some ⟨b, 0, none⟩) 1 1) (hb : w.heap[b]? = some (.cells cs.toArray ty)) (hcs : cs.length = size) (hone : ∀ u ∈ cs, u.oneCell' = true) (hn : n ≤ 1000000) (hbase : base ≤ w.heap.size)
    (h : ∀ g cap w', w'.ownsRow base ty size (.slice (some ⟨g, 0, none⟩) (n + 1) cap) (n + 1) (xs ++ cs) → w.grownBy w' v.ownBlock → (v.ownBlock = some g ∨ g = w.heap.size) → wpList Tryz.prog ops Q rest (a.put o.dst (.slice (some ⟨g, 0, none⟩) (n + 1) cap)) w') : wpList Tryz.prog ops Q (o :: rest) a w := by
  obtain ⟨i0, hi0, hz0, hz1, hz2⟩ := info_partsD hin
  exact wpList_append_lies w hgd s x ts ho base ty i0 z size bytes hu hi0 hz0 hz1 hz2 hz h1 v n xs hs hown ⟨b, 0, none⟩ 1 1 cs hx (by omega) (World.news_of_block (cs := cs.toArray) (t := ty) (fr := (0, 0)) hb) hone (by omega) (by unfold maxLen; omega)
    (by have : (n + 1) * bytes ≤ (n + 1) * 64 := Nat.mul_le_mul_left _ hb1
        omega) hbase _ rfl fun g cap w' h1 h2 h3 _ => h g cap w' h1 h2 h3
structure Grow {α : Type} (ty : TypeId) (size : Nat) (cells : α → List Value) (f : ByteArray → Option α) (b p : Nat) (w : World) (W : Ws) (wr : World) (pre rest : Ws) (l : List α) (h : Hd) : Prop where
  split : W = pre ++ rest
  some : pre.mapM f = Option.some l
  ne : l ≠ []
  ds : WdS wr b p rest
  kw : Kw b w wr
  own : wr.ownsRow w.heap.size ty size (.slice h.a l.length h.c) l.length (l.flatMap cells)
  lt : b < w.heap.size
  plt : p < w.heap.size
section
variable {α : Type} {ty : TypeId} {size : Nat} {cells : α → List Value} {f : ByteArray → Option α} {b p : Nat} {w : World} {W : Ws} {wr : World} {pre rest : Ws} {l : List α} {h : Hd}
theorem mapM_len {α β : Type} {f : α → Option β} : ∀ {W : List α} {l : List β}, W.mapM f = some l → W.length = l.length
  | [], l, h => by simp at h; subst h; rfl
  | s :: W, l, h => by
    rw [List.mapM_cons] at h
    simp only [bind, Option.bind_eq_some_iff, pure, Option.some.injEq] at h
    obtain ⟨x, h1, m, h2, rfl⟩ := h
    simp [mapM_len h2]
theorem Grow.small (g : Grow ty size cells f b p w W wr pre rest l h) (hW : W.length ≤ 4097) : l.length ≤ 4097 := by
  have := mapM_len g.some
  have := congrArg List.length g.split
  simp at this
  omega
theorem Grow.more (g : Grow ty size cells f b p w W wr pre rest l h) {s : ByteArray} {r : Ws} (hr : rest = s :: r) : l.length < W.length := by
  have := mapM_len g.some
  have := congrArg List.length g.split
  simp [hr] at this
  omega
theorem Grow.step {s : ByteArray} (g : Grow ty size cells f b p w W wr pre (s :: rest) l h) {x : α} {w1 w5 : World} {o : Obj} {gg cap : Nat} (hs : f s = Option.some x) (k1 : Kw b wr w1) (d1 : WdS w1 b p rest)
    (ho : w5.ownsRow w.heap.size ty size (.slice (Option.some ⟨gg, 0, none⟩) (l.length + 1) cap) (l.length + 1) (l.flatMap cells ++ cells x)) (hg : (w1.alloc o).grownBy w5 (Value.slice h.a l.length h.c).ownBlock) :
    Grow ty size cells f b p w W w5 (pre ++ [s]) rest (l ++ [x]) ⟨Option.some ⟨gg, 0, none⟩, l.length + 1, cap⟩ := by
  have hB : ∀ k, (Value.slice h.a l.length h.c).ownBlock = Option.some k → w.heap.size ≤ k := fun k hk => (g.own.lt k hk).1
  have kz := (g.kw.trans k1).size
  have hz : w1.heap.size ≤ (w1.alloc o).heap.size := by simp
  have kb : Kw b w w5 := by
    refine ⟨hg.os.trans (g.kw.trans k1).os, hg.tape.trans (g.kw.trans k1).tape, hg.output.trans (g.kw.trans k1).output, Nat.le_trans kz (Nat.le_trans hz hg.size), fun k hk hn => ?_⟩
    have h2 := ((g.kw.trans k1).alloc o).block k hk hn
    exact (hg.block k (by omega) (fun e => by have := hB k e.symm; omega)).trans h2
  have kn : Kn w.heap.size (w1.alloc o) w5 := ⟨hg.os, hg.tape, hg.output, hg.size, fun k hk hn => hg.block k hk (fun e => hn (hB k e.symm))⟩
  exact ⟨by rw [g.split]; simp, many_step g.some hs, by simp, (d1.aft ((Aft.refl _).alloc o)).kn kn g.lt g.plt, kb, by rw [List.length_append, List.flatMap_append, List.flatMap_cons, List.flatMap_nil, List.append_nil]; exact ho, g.lt, g.plt⟩
end
def lenV : Value → Nat
  | .slice _ n _ => n
  | _ => 0
theorem rd_cons {α : Type} {b p : Nat} {w : World} {V : World → Value → α → Prop} {f : ByteArray → Option α} {s : ByteArray} {W : Ws} {e : Ending} {w' : World} (h : RdQ b p w V (oneP f (s :: W)) e w') :
    (f s = none ∧ e = NoL ∧ Kw b w w') ∨ (∃ x v, f s = some x ∧ e = .returned v ∧ V w' v x ∧ WdS w' b p W ∧ Kw b w w') := by
  obtain ⟨k, h2⟩ := h
  simp only [oneP] at h2
  cases hq : f s with
  | none => rw [hq] at h2; exact .inl ⟨rfl, h2, k⟩
  | some x =>
    rw [hq] at h2
    obtain ⟨v, h3, h4, h5⟩ := h2
    exact .inr ⟨x, v, rfl, h3, h4, h5, k⟩
def NamesV (b B : Nat) (w' : World) (v : Value) (l : List ByteArray) : Prop := OwnR 9 1 nameC b B w' v l ∧ l.length ≤ 4097 ∧ ∀ x ∈ l, nameB x = true
theorem names_ok : ∀ {W l : Ws}, W.mapM nameO = some l → ∀ x ∈ l, nameB x = true
  | [], l, h => by simp at h; subst h; simp
  | s :: W, l, h => by
    rw [List.mapM_cons] at h
    simp only [bind, Option.bind_eq_some_iff, pure, Option.some.injEq] at h
    obtain ⟨x, h1, m, h2, rfl⟩ := h
    obtain ⟨rfl, h3⟩ := nameO_some.1 h1
    simpa [h3] using names_ok h2
set_option maxHeartbeats 1000000 in
theorem names_rd (b p : Nat) (W : Ws) (w : World) (h : WdS w b p W) : Calls Tryz.prog 84 #[.pointer (some ⟨b, 0, none⟩)] w (RdQ b p w (NamesV b w.heap.size) (namesP W)) := by
  have hbig := h.big
  have hb := h.lt
  have hpl := h.plt
  cases W with
  | nil =>
    have HM := Lib.hid (name_rd b p [] w h)
    clear h
    go_enter Tryz.func84, Tryz.ntmps84
    go_wp2_with (first | (go_at_call 48; refine HM.out.mono ?_; rintro e w1 ⟨k1, he⟩; have he : e = NoL := he; have K1 := Lib.hid k1; clear k1; unfold NoL at he; subst he))
    exact ⟨rfl, K1.out, rfl⟩
  | cons s W =>
    obtain ⟨q, hq⟩ : ∃ q, nameO s = q := ⟨_, rfl⟩
    have HM := Lib.hid (name_rd b p (s :: W) w h)
    have HQ := Lib.hid hq
    have HZ := Lib.hid hbig
    have HB := Lib.hid hb
    have HPL := Lib.hid hpl
    clear h hbig hb hpl
    cases q with
    | none =>
      have HM' := Lib.hid (HM.out.mono fun e w1 (h : RdQ _ _ _ _ _ _ _) => (rd_cons h).elim (fun h => h.2) (fun ⟨x, v, h, _⟩ => absurd (hq.symm.trans h) (by simp)))
      clear hq HM
      go_enter Tryz.func84, Tryz.ntmps84
      go_wp2_with (first | (go_at_call 48; refine HM'.out.mono ?_; rintro e w1 ⟨he, k1⟩; have K1 := Lib.hid k1; clear k1; unfold NoL at he; subst he))
      refine ⟨rfl, K1.out, ?_⟩
      have : namesP (s :: W) = none := many_fail (W := []) (l := []) rfl HQ.out
      rw [this]; rfl
    | some x =>
      have HM' := Lib.hid (HM.out.mono fun e w1 (h : RdQ _ _ _ _ _ _ _) => (rd_cons h).elim (fun ⟨h, _⟩ => absurd (hq.symm.trans h) (by simp)) (fun ⟨y, v, h1, h2, h3, h4, h5⟩ => (show e = Ending.returned (.string x) ∧ WdS w1 b p W ∧ Kw b w w1 from by
        rw [hq] at h1; cases h1; exact ⟨by rw [h2, h3.1], h4, h5⟩)))
      clear hq HM
      go_enter Tryz.func84, Tryz.ntmps84
      go_wp2_with (first | (go_at_call 48; refine HM'.out.mono ?_; rintro e w1 ⟨rfl, d1, k1⟩; have D1 := Lib.hid d1; have K1 := Lib.hid k1; clear d1 k1))
      go_loopw [3] (fun u3 wr => ∃ (pre rest l : Ws) (h : Hd), u3 = .slice h.a l.length h.c ∧ Grow 9 1 nameC nameO b p w (s :: W) wr pre rest l h) (fun u3 _ => (s :: W).length - lenV u3)
      case atStart =>
        refine ⟨[s], W, [x], ⟨_, 1, 1⟩, rfl, ⟨rfl, ?_, by simp, D1.out.aft ((Aft.refl _).alloc _), K1.out.alloc _, ?_, HB.out, HPL.out⟩⟩
        · rw [List.mapM_cons, HQ.out]; rfl
        · exact own_one w1 w.heap.size _ 1 [.string x] rfl K1.out.size
      case round =>
        obtain ⟨pre, rest, l, h, rfl, g⟩ := hrel
        have hz := g.small HZ.out
        have G := Lib.hid g
        cases rest with
        | nil =>
          have HN := Lib.hid (more_no b p wr g.ds)
          clear g
          go_wp2_with (first | (go_at_call 19; refine HN.out.mono ?_; rintro e w' ⟨rfl, rfl⟩))
          go_ret
          refine ⟨G.out.kw, ?_⟩
          have e1 : s :: W = pre := by have := G.out.split; simpa using this
          have : namesP (s :: W) = some (l, []) := by rw [e1]; exact many_done G.out.ne G.out.some
          rw [this]
          exact ⟨_, rfl, ⟨⟨h, rfl, G.out.own, HB.out⟩, hz, names_ok G.out.some⟩, G.out.ds⟩
        | cons t rest =>
          have HN := Lib.hid (more_yes b p t rest wr g.ds)
          have HT := Lib.hid (name_rd b p (t :: rest) wr g.ds)
          have HL := Lib.hid (g.more rfl)
          clear g
          obtain ⟨q, hq⟩ : ∃ q, nameO t = q := ⟨_, rfl⟩
          have HQT := Lib.hid hq
          cases q with
          | none =>
            have HT' := Lib.hid (HT.out.mono fun e w1 (h : RdQ _ _ _ _ _ _ _) => (rd_cons h).elim (fun h => h.2) (fun ⟨x, v, h, _⟩ => absurd (hq.symm.trans h) (by simp)))
            clear hq HT
            go_wp2_with (first | (go_at_call 19; refine HN.out.mono ?_; rintro e w' ⟨rfl, rfl⟩) | (go_at_call 48; refine HT'.out.mono ?_; rintro e w1 ⟨he, k1⟩; have K2 := Lib.hid k1; clear k1; unfold NoL at he; subst he))
            refine ⟨rfl, G.out.kw.trans K2.out, ?_⟩
            have : namesP (s :: W) = none := by rw [G.out.split]; exact many_fail G.out.some HQT.out
            rw [this]; rfl
          | some y =>
            have HT' := Lib.hid (HT.out.mono fun e w1 (h : RdQ _ _ _ _ _ _ _) => (rd_cons h).elim (fun ⟨h, _⟩ => absurd (hq.symm.trans h) (by simp)) (fun ⟨z, v, h1, h2, h3, h4, h5⟩ => (show e = Ending.returned (.string y) ∧ WdS w1 b p rest ∧ Kw b wr w1 from by
              rw [hq] at h1; cases h1; exact ⟨by rw [h2, h3.1], h4, h5⟩)))
            clear hq HT
            go_wp2_with (first | (go_at_call 19; refine HN.out.mono ?_; rintro e w' ⟨rfl, rfl⟩) | (go_at_call 48; refine HT'.out.mono ?_; rintro e w2 ⟨rfl, d2, k2⟩; have D2 := Lib.hid d2; have K2 := Lib.hid k2; clear d2 k2; have OW := Lib.hid (own_kb G.out.own K2.out (fun g hg e => by have := (G.out.own.lt g hg).1; have := HB.out; have e' : g = b := e; omega))) | (at_builtin; go_must (refine app_desk Tryz.underlying26 infoDS rfl (by decide) (by decide) rfl _ _ rfl w.heap.size (.slice h.a l.length h.c) l.length (l.flatMap nameC) rfl (OW.out.alloc _) w2.heap.size [.string y] rfl (heap_alloc_new w2 _) rfl (by simp [Value.oneCell']) (by omega) ?qb ?_); rotate_left; intro gg cap' w5 hown5 hgrow hat; have G5 := Lib.hid (G.out.step HQT.out K2.out D2.out hown5 hgrow); clear hown5 hgrow hat))
            case qb =>
              have h1 := K2.out.size
              have h2 := G.out.kw.size
              have h3 : (w2.alloc (.cells #[.string y] 9)).heap.size = w2.heap.size + 1 := by simp
              omega
            go_roundw
            case rel => exact ⟨pre ++ [t], rest, l ++ [y], ⟨some ⟨gg, 0, none⟩, l.length + 1, cap'⟩, by simp, G5.out⟩
            case measure => have := HL.out; rw [List.length_cons] at this; simp [lenV]; omega
end Go.Proofs.YtbdanlipghhgpaaGreatDoor

namespace Go.Proofs.YtbdanlipghhgpaaGreatDoor
open Go.RowKit Go.Deep
set_option maxRecDepth 100000
set_option linter.unusedVariables false
theorem rowAt_newD (w : World) (c : List Value) (t : TypeId) : RowAt (w.alloc (.cells c.toArray t)) w.heap.size c :=
  ⟨by simp, fun j hj => by simp, fun j hj => World.frozen?_alloc_at _ _ _ _ rfl⟩
def Kx (b x : Nat) (w w' : World) : Prop := Kb (fun k => k = b ∨ k = x) w w'
theorem Kx.trans {b x : Nat} {w w1 w2 : World} (h : Kx b x w w1) (h2 : Kx b x w1 w2) : Kx b x w w2 := Kb.trans h h2
theorem Kw.kx {b : Nat} {w w1 : World} (h : Kw b w w1) (x : Nat) : Kx b x w w1 := Kb.mono h fun k _ e => .inl e
theorem Kx.set {b x : Nat} {w w1 : World} (h : Kx b x w w1) (j : Nat) (v : Value) : Kx b x w (w1.setCell ⟨x, j, none⟩ v) :=
  h.trans (Kb.mono (Kb.set w1 x j v) fun k _ e => .inr e)
theorem Kx.kw {b x : Nat} {w w1 w2 : World} (h : Kw b w w1) (k : Kx b x w1 w2) (hx : w.heap.size ≤ x) : Kw b w w2 :=
  ⟨k.os.trans h.os, k.tape.trans h.tape, k.output.trans h.output, Nat.le_trans h.size k.size, fun j hj hne => (k.block j (Nat.lt_of_lt_of_le hj h.size) (by intro e; rcases e with e | e <;> omega)).trans (h.block j hj hne)⟩
theorem RowAt.kw {b x : Nat} {w w' : World} {xs : List Value} (h : RowAt w x xs) (k : Kw b w w') (hne : ¬ x = b) : RowAt w' x xs := Kb.row k h hne
theorem RowAt.kx {b x r : Nat} {w w' : World} {xs : List Value} (h : RowAt w r xs) (k : Kx b x w w') (hb : ¬ r = b) (hx : ¬ r = x) : RowAt w' r xs := Kb.row k h (by intro e; rcases e with e | e; exact hb e; exact hx e)
theorem WdS.set {w : World} {b p x : Nat} {W : Ws} (h : WdS w b p W) (j : Nat) (v : Value) (hb : ¬ x = b) (hp : ¬ x = p) (h0 : ¬ x = 0) : WdS (w.setCell ⟨x, j, none⟩ v) b p W :=
  h.kb (Kb.set w x j v) (fun e => hb e.symm) (fun e => hp e.symm) (fun e => h0 e.symm)
def RdX (b p x : Nat) (w : World) (cs : List Value) (o : Option (List (Nat × Value) × Ws)) (e : Ending) (w' : World) : Prop :=
  Kx b x w w' ∧ match o with
  | some (l, W) => e = .returned (.tuple #[]) ∧ RowAt w' x (l.foldl (fun cs u => cs.set u.1 u.2) cs) ∧ WdS w' b p W
  | none => e = NoL
def tabL (W : Ws) : Option (List (Nat × Value) × Ws) := (nameP W).bind fun (s, W) => (nameP W).map fun (t, W) => ([(2, Value.string s), (3, Value.string t)], W)
theorem name_cases {b p : Nat} {W : Ws} {w : World} {e : Ending} {w' : World} (h : RdQ b p w (fun _ v x => v = .string x ∧ nameB x = true) (nameP W) e w') :
    (nameP W = none ∧ e = .panicked [{ v := .iface 74 (.agg #[]), recovered := false }] ∧ Kw b w w') ∨ ∃ s W', nameP W = some (s, W') ∧ e = .returned (.string s) ∧ nameB s = true ∧ WdS w' b p W' ∧ Kw b w w' := by
  obtain ⟨k, h2⟩ := h
  cases hq : nameP W with
  | none => rw [hq] at h2; exact .inl ⟨rfl, h2, k⟩
  | some y =>
    obtain ⟨s, W'⟩ := y
    rw [hq] at h2
    obtain ⟨v, rfl, ⟨rfl, h3⟩, h4⟩ := h2
    exact .inr ⟨s, W', rfl, rfl, h3, h4, k⟩
theorem RowAt.ltD {w : World} {x : Nat} {cs : List Value} (h : RowAt w x cs) : x < w.heap.size := h.1
theorem rowC {w : World} {x : Nat} {cs : List Value} (h : RowAt w x cs) (j : Nat) (hj : j < cs.length) : w.cell? ⟨x, j, none⟩ = some cs[j] ∧ w.frozen? ⟨x, j, none⟩ = false :=
  ⟨h.cell (List.getElem?_eq_getElem hj), h.2.2 j hj⟩
theorem table_rd (b p x : Nat) (W : Ws) (w : World) (cs : List Value) (h : WdS w b p W) (hx : RowAt w x cs) (hl : cs.length = 17) (hb : ¬ x = b) (hp : ¬ x = p) (h0 : ¬ x = 0) :
    Calls Tryz.prog 49 #[.pointer (some ⟨b, 0, none⟩), .pointer (some ⟨x, 0, none⟩)] w (RdX b p x w cs (tabL W)) := by
  have HN := Lib.hid (fun w1 W (h : WdS w1 b p W) => name_rd b p W w1 h)
  have HH := Lib.hid h
  have HX := Lib.hid hx
  clear h hx
  go_enter Tryz.func49, Tryz.ntmps49
  go_wp2_with (first
    | (go_at_call 48; with_reducible refine (HN.out _ _ HH.out).mono ?_; rintro e w1 q1; rcases name_cases q1 with ⟨n1, rfl, k1⟩ | ⟨s, W1, n1, rfl, -, d1, k1⟩; all_goals (have N1 := Lib.hid n1; have K1 := Lib.hid k1; clear n1 k1 q1; try have D1 := Lib.hid d1))
    | (go_at_call 48; with_reducible refine (HN.out _ _ D1.out).mono ?_; rintro e w2 q2; rcases name_cases q2 with ⟨n2, rfl, k2⟩ | ⟨t, W2, n2, rfl, -, d2, k2⟩; all_goals (have X2 := Lib.hid ((HX.out.kw K1.out hb).kw k2 hb); have xz := X2.out.ltD; obtain ⟨c2, f2⟩ := rowC X2.out 2 (by omega); obtain ⟨c3, f3⟩ := rowC X2.out 3 (by omega); have N2 := Lib.hid n2; have K2 := Lib.hid (K1.out.trans k2); clear n2 k2 q2; try (have D2 := Lib.hid d2; clear d2))))
  · exact ⟨rfl, K1.out.kx x, by rw [show tabL W = none by simp only [tabL, N1.out, Option.bind_none]]; rfl⟩
  · exact ⟨rfl, K2.out.kx x, by rw [show tabL W = none by simp only [tabL, N1.out, N2.out, Option.bind_some, Option.map_none]]; rfl⟩
  · go_end0
    refine ⟨((K2.out.kx x).set 2 _).set 3 _, ?_⟩
    rw [show tabL W = some ([(2, Value.string s), (3, Value.string t)], W2) by simp only [tabL, N1.out, N2.out, Option.bind_some, Option.map_some]]
    exact ⟨rfl, (X2.out.set 2 _ (by omega)).set 3 _ (by rw [List.length_set]; omega), (D2.out.set 2 _ hb hp h0).set 3 _ hb hp h0⟩
theorem word_rd (b p : Nat) (W : Ws) (w : World) (h : WdS w b p W) : Calls Tryz.prog 27 #[.pointer (some ⟨b, 0, none⟩)] w (RdQ b p w (fun _ v x => v = .string x) (wordP W)) := by
  cases W with
  | nil => exact (word_no b p w h).mono fun e w' ⟨he, hw⟩ => ⟨hw ▸ Kw.refl b w, he⟩
  | cons s W => exact (word_yes b p s W w h).mono fun e w' ⟨he, d, k⟩ => ⟨k, .string s, he, rfl, d⟩
theorem word_cases {b p : Nat} {W : Ws} {w : World} {e : Ending} {w' : World} (h : RdQ b p w (fun _ v x => v = .string x) (wordP W) e w') :
    (wordP W = none ∧ e = .panicked [{ v := .iface 74 (.agg #[]), recovered := false }] ∧ Kw b w w') ∨ ∃ s W', W = s :: W' ∧ e = .returned (.string s) ∧ WdS w' b p W' ∧ Kw b w w' := by
  obtain ⟨k, h2⟩ := h
  cases W with
  | nil => exact .inl ⟨rfl, h2, k⟩
  | cons s W =>
    obtain ⟨v, rfl, rfl, h3⟩ := h2
    exact .inr ⟨s, W, rfl, rfl, h3, k⟩
theorem number_cases {b p : Nat} {W : Ws} {w : World} {e : Ending} {w' : World} (h : RdQ b p w (fun _ v x => v = .int .i64 x) (numP W) e w') :
    (numP W = none ∧ e = .panicked [{ v := .iface 74 (.agg #[]), recovered := false }] ∧ Kw b w w') ∨ ∃ n W', numP W = some (n, W') ∧ e = .returned (.int .i64 n) ∧ WdS w' b p W' ∧ Kw b w w' := by
  obtain ⟨k, h2⟩ := h
  cases hq : numP W with
  | none => rw [hq] at h2; exact .inl ⟨rfl, h2, k⟩
  | some y =>
    obtain ⟨s, W'⟩ := y
    rw [hq] at h2
    obtain ⟨v, rfl, rfl, h4⟩ := h2
    exact .inr ⟨s, W', rfl, rfl, h4, k⟩
def rgtL (W : Ws) : Option (List (Nat × Value) × Ws) := (oneP rightO W).bind fun (r, W) => (nameP W).map fun (t, W) => ([(15, Value.int .i64 r), (5, Value.string t)], W)
theorem right_rd (b p x : Nat) (W : Ws) (w : World) (cs : List Value) (h : WdS w b p W) (hx : RowAt w x cs) (hl : cs.length = 17) (hb : ¬ x = b) (hp : ¬ x = p) (h0 : ¬ x = 0) :
    Calls Tryz.prog 52 #[.pointer (some ⟨b, 0, none⟩), .pointer (some ⟨x, 0, none⟩)] w (RdX b p x w cs (rgtL W)) := by
  have HN := Lib.hid (fun w1 W (h : WdS w1 b p W) => name_rd b p W w1 h)
  have HW := Lib.hid (word_rd b p W w h)
  have HX := Lib.hid hx
  have hb' : ¬ b = x := fun e => hb e.symm
  clear h hx
  go_enter Tryz.func52, Tryz.ntmps52
  go_wp2_with (first
    | (go_at_call 27; with_reducible refine HW.out.mono ?_; rintro e w1 q1; rcases word_cases q1 with ⟨n1, rfl, k1⟩ | ⟨s, W1, n1, rfl, d1, k1⟩; (rotate_left; obtain ⟨q3, e3⟩ : ∃ q, eqS s b_read = q := ⟨_, rfl⟩; obtain ⟨q4, e4⟩ : ∃ q, eqS s b_write = q := ⟨_, rfl⟩; have e3' := eqS_as e3; have e4' := eqS_as e4; unfold b_read at e3'; unfold b_write at e4'; simp only at e3' e4'; have E3 := Lib.hid e3; have E4 := Lib.hid e4; clear e3 e4; cases q3 <;> cases q4); all_goals (have N1 := Lib.hid n1; have K1 := Lib.hid k1; clear n1 k1 q1; try (have X1 := Lib.hid (HX.out.kw K1.out hb); have D1 := Lib.hid (d1.set (x := x) 15 (.int .i64 1) hb hp h0); have D1' := Lib.hid (d1.set (x := x) 15 (.int .i64 2) hb hp h0); have xz := X1.out.ltD; obtain ⟨c1, f1⟩ := rowC X1.out 15 (by omega))))
    | (go_at_call 18; refine (dis_no _).mono ?_; rintro e w' ⟨he, rfl⟩; unfold NoL at he; subst he)
    | (go_at_call 48; (first | (with_reducible refine (HN.out _ _ D1.out).mono ?_) | (with_reducible refine (HN.out _ _ D1'.out).mono ?_)); rintro e w2 q2; rcases name_cases q2 with ⟨n2, rfl, k2⟩ | ⟨t, W2, n2, rfl, -, d2, k2⟩; all_goals (have X2 := Lib.hid ((X1.out.set 15 _ (by omega)).kw k2 hb); have xz2 := X2.out.ltD; obtain ⟨c2, f2⟩ := rowC X2.out 5 (by rw [List.length_set]; omega); have N2 := Lib.hid n2; have K2 := Lib.hid k2; clear n2 k2 q2; try (have D2 := Lib.hid d2; clear d2))))
  all_goals first
    | (refine ⟨rfl, K1.out.kx x, ?_⟩
       have : rgtL W = none := by
         have n1 := N1.out
         first
           | (simp only [rgtL, n1, oneP, rightO, E3.out, E4.out, Option.map_none, Option.bind_none, Bool.false_eq_true, if_false]; done)
           | (cases W with
              | nil => rfl
              | cons a W => cases n1)
       rw [this]; rfl)
    | (refine ⟨rfl, ((K1.out.kx x).set 15 _).trans (K2.out.kx x), ?_⟩
       have : rgtL W = none := by simp only [rgtL, N1.out, oneP, rightO, E3.out, E4.out, Option.map_some, Option.bind_some, Bool.false_eq_true, if_true, if_false, N2.out, Option.map_none]
       rw [this]; rfl)
    | (go_end0
       refine ⟨(((K1.out.kx x).set 15 _).trans (K2.out.kx x)).set 5 _, ?_⟩
       have : rgtL W = some ([(15, Value.int .i64 1), (5, Value.string t)], W2) := by simp only [rgtL, N1.out, oneP, rightO, E3.out, E4.out, Option.map_some, Option.bind_some, Bool.false_eq_true, if_true, if_false, N2.out]
       rw [this]
       exact ⟨rfl, X2.out.set 5 _ (by rw [List.length_set]; omega), D2.out.set 5 _ hb hp h0⟩)
    | (go_end0
       refine ⟨(((K1.out.kx x).set 15 _).trans (K2.out.kx x)).set 5 _, ?_⟩
       have : rgtL W = some ([(15, Value.int .i64 2), (5, Value.string t)], W2) := by simp only [rgtL, N1.out, oneP, rightO, E3.out, E4.out, Option.map_some, Option.bind_some, Bool.false_eq_true, if_true, if_false, N2.out]
       rw [this]
       exact ⟨rfl, X2.out.set 5 _ (by rw [List.length_set]; omega), D2.out.set 5 _ hb hp h0⟩)
end Go.Proofs.YtbdanlipghhgpaaGreatDoor

namespace Go.Proofs.YtbdanlipghhgpaaGreatDoor
open Go.RowKit Go.Deep
set_option maxRecDepth 100000
set_option linter.unusedVariables false
theorem lv_row {T : TypeId} {fs : Array Field} {k : Nat} (hu : Tryz.prog.underlying T = some (.struct fs)) (hi : (Tryz.prog.info? T).map (·.size) = some k) {V : World} {x : Nat} {cs : List Value} (h : RowAt V x cs) (hk : cs.length = k) :
    (loadVar T ⟨x, 0, none⟩).run Tryz.prog V = .ok (.agg cs.toArray) V := by
  rw [run_lv V T _ k x 0 hu rfl hi (fun j hj => by rw [Nat.zero_add, h.2.1 j (by omega), List.getElem?_eq_getElem (by omega)]; rfl)]
  congr 2
  congr 1
  apply List.ext_getElem
  · simp [hk]
  · intro j h1 h2
    simp only [List.getElem_map, List.getElem_range, Nat.zero_add]
    rw [h.2.1 j h2, List.getElem?_eq_getElem h2]; rfl
theorem row_setCells {x : Nat} : ∀ (vs : List Value) (V : World) (pre cs : List Value), RowAt V x (pre ++ cs) → cs.length = vs.length → RowAt (V.setCells x pre.length vs) x (pre ++ vs)
  | [], V, pre, cs, h, hl => by
    have : cs = [] := List.eq_nil_of_length_eq_zero hl
    subst this; exact h
  | v :: vs, V, pre, [], h, hl => by simp at hl
  | v :: vs, V, pre, c :: cs, h, hl => by
    have h1 := h.set pre.length v (by simp)
    have e : (pre ++ c :: cs).set pre.length v = (pre ++ [v]) ++ cs := by simp
    rw [e] at h1
    have h2 := row_setCells vs _ (pre ++ [v]) cs h1 (by simpa using hl)
    rw [show (pre ++ [v]).length = pre.length + 1 by simp, List.append_assoc] at h2
    exact h2
theorem kb_setCellsD (g : Nat) : ∀ (vs : List Value) (w : World) (o : Nat), Kb (fun k => k = g) w (w.setCells g o vs)
  | [], w, o => Kb.refl _ w
  | v :: vs, w, o => (Kb.set w g o v).trans (kb_setCellsD g vs _ (o + 1))
theorem sv_row {T : TypeId} {k : Nat} (hi : (Tryz.prog.info? T).map (·.size) = some k) {V : World} {r : Nat} {zs vs : List Value} (h : RowAt V r zs) (hz : zs.length = k) (hv : vs.length = k) (h1 : ∀ v ∈ vs, v.oneCell' = true) :
    (storeVar T ⟨r, 0, none⟩ (.agg vs.toArray)).run Tryz.prog V = .ok () (V.setCells r 0 vs) := by
  refine run_sv V T r 0 vs (by rw [hv]; exact hi) fun j hj => ⟨?_, ?_, ?_⟩
  · rw [Nat.zero_add, h.2.1 j (by omega), List.getElem?_eq_getElem (by omega)]; rfl
  · rw [Nat.zero_add]; exact h.2.2 j (by omega)
  · rw [List.getD, List.getElem?_eq_getElem hj]; exact h1 _ (List.getElem_mem hj)
theorem lvRul_row {V : World} {x : Nat} {cs : List Value} (h : RowAt V x cs) (hk : cs.length = 8) : (lvRul ⟨x, 0, none⟩).run Tryz.prog V = .ok (.agg cs.toArray) V :=
  lv_row (T := 28) Tryz.underlying28 (by kernel_rfl) h hk
theorem svRul_row {V : World} {r : Nat} {zs vs : List Value} (h : RowAt V r zs) (hz : zs.length = 8) (hv : vs.length = 8) (h1 : ∀ v ∈ vs, v.oneCell' = true) : (svRul ⟨r, 0, none⟩ (.agg vs.toArray)).run Tryz.prog V = .ok () (V.setCells r 0 vs) :=
  sv_row (T := 28) (by kernel_rfl) h hz hv h1
theorem lvCmd_row {V : World} {x : Nat} {cs : List Value} (h : RowAt V x cs) (hk : cs.length = 17) : (lvCmd ⟨x, 0, none⟩).run Tryz.prog V = .ok (.agg cs.toArray) V :=
  lv_row (T := 31) Tryz.underlying31 (by kernel_rfl) h hk
theorem svCmd_row {V : World} {r : Nat} {zs vs : List Value} (h : RowAt V r zs) (hz : zs.length = 17) (hv : vs.length = 17) (h1 : ∀ v ∈ vs, v.oneCell' = true) : (svCmd ⟨r, 0, none⟩ (.agg vs.toArray)).run Tryz.prog V = .ok () (V.setCells r 0 vs) :=
  sv_row (T := 31) (by kernel_rfl) h hz hv h1
theorem lvRop_row {V : World} {x : Nat} {cs : List Value} (h : RowAt V x cs) (hk : cs.length = 9) : (lvRop ⟨x, 0, none⟩).run Tryz.prog V = .ok (.agg cs.toArray) V :=
  lv_row (T := 41) Tryz.underlying41 (by kernel_rfl) h hk
theorem svRop_row {V : World} {r : Nat} {zs vs : List Value} (h : RowAt V r zs) (hz : zs.length = 9) (hv : vs.length = 9) (h1 : ∀ v ∈ vs, v.oneCell' = true) : (svRop ⟨r, 0, none⟩ (.agg vs.toArray)).run Tryz.prog V = .ok () (V.setCells r 0 vs) :=
  sv_row (T := 41) (by kernel_rfl) h hz hv h1
theorem lvAct_row {V : World} {x : Nat} {cs : List Value} (h : RowAt V x cs) (hk : cs.length = 33) : (lvAct ⟨x, 0, none⟩).run Tryz.prog V = .ok (.agg cs.toArray) V :=
  lv_row (T := 43) Tryz.underlying43 (by kernel_rfl) h hk
theorem svAct_row {V : World} {r : Nat} {zs vs : List Value} (h : RowAt V r zs) (hz : zs.length = 33) (hv : vs.length = 33) (h1 : ∀ v ∈ vs, v.oneCell' = true) : (svAct ⟨r, 0, none⟩ (.agg vs.toArray)).run Tryz.prog V = .ok () (V.setCells r 0 vs) :=
  sv_row (T := 43) (by kernel_rfl) h hz hv h1
structure Bs (b p r x : Nat) (w : World) : Prop where
  fb : b < w.heap.size
  fp : p < w.heap.size
  fl : 0 < b
  fr : w.heap.size ≤ r
  fx : w.heap.size ≤ x
  fn : ¬ r = x
theorem Bs.xb {b p r x : Nat} {w : World} (S : Bs b p r x w) : ¬ x = b := by have := S.fb; have := S.fx; omega
theorem Bs.xp {b p r x : Nat} {w : World} (S : Bs b p r x w) : ¬ x = p := by have := S.fp; have := S.fx; omega
theorem Bs.x0 {b p r x : Nat} {w : World} (S : Bs b p r x w) : ¬ x = 0 := by have := S.fl; have := S.fb; have := S.fx; omega
structure Bx (b p r x : Nat) (w V : World) (W : Ws) (zs cs : List Value) : Prop where
  ds : WdS V b p W
  row : RowAt V x cs
  res : RowAt V r zs
  kw : Kw b w V
section
variable {b p r x : Nat} {w V V1 : World} {W W1 : Ws} {zs cs : List Value}
theorem Bx.call (X : Bx b p r x w V W zs cs) (S : Bs b p r x w) (k : Kw b V V1) (d : WdS V1 b p W1) : Bx b p r x w V1 W1 zs cs :=
  ⟨d, X.row.kw k (by have := S.fb; have := S.fx; omega), X.res.kw k (by have := S.fb; have := S.fr; omega), X.kw.trans k⟩
theorem Bx.set (X : Bx b p r x w V W zs cs) (S : Bs b p r x w) (j : Nat) (v : Value) (hj : j < cs.length) : Bx b p r x w (V.setCell ⟨x, j, none⟩ v) W zs (cs.set j v) :=
  ⟨X.ds.set j v (by have := S.fb; have := S.fx; omega) (by have := S.fp; have := S.fx; omega) (by have := S.fb; have := S.fl; have := S.fx; omega), X.row.set j v hj, Kb.row (Kb.set V x j v) X.res S.fn, X.kw.set x j v (.inr S.fx)⟩
theorem Bx.alloc (X : Bx b p r x w V W zs cs) (o : Obj) : Bx b p r x w (V.alloc o) W zs cs :=
  ⟨X.ds.aft ((Aft.refl _).alloc o), X.row.aft ((Aft.refl _).alloc o), X.res.aft ((Aft.refl _).alloc o), X.kw.alloc o⟩
theorem Bx.kx (X : Bx b p r x w V W zs cs) (S : Bs b p r x w) (k : Kx b x V V1) (d : WdS V1 b p W1) {cs1 : List Value} (hr : RowAt V1 x cs1) : Bx b p r x w V1 W1 zs cs1 :=
  ⟨d, hr, X.res.kx k (by have := S.fb; have := S.fr; omega) S.fn, Kx.kw X.kw k S.fx⟩
theorem Bx.cf (X : Bx b p r x w V W zs cs) (j : Nat) (hj : j < cs.length) : V.cell? ⟨x, j, none⟩ = some cs[j] ∧ V.frozen? ⟨x, j, none⟩ = false := rowC X.row j hj
theorem Bx.fin (X : Bx b p r x w V W zs cs) (S : Bs b p r x w) (hz : zs.length = cs.length) :
    RowAt (V.setCells r 0 cs) r cs ∧ Kw b w (V.setCells r 0 cs) ∧ WdS (V.setCells r 0 cs) b p W ∧ Kb (fun k => k = r) V (V.setCells r 0 cs) := by
  have kb := kb_setCellsD r cs V 0
  refine ⟨by simpa using row_setCells cs V [] zs X.res hz, ?_, X.ds.kb kb (by have := S.fb; have := S.fr; omega) (by have := S.fp; have := S.fr; omega) (by have := S.fb; have := S.fl; have := S.fr; omega), kb⟩
  exact ⟨kb.os.trans X.kw.os, kb.tape.trans X.kw.tape, kb.output.trans X.kw.output, Nat.le_trans X.kw.size kb.size, fun j hj hne => (kb.block j (Nat.lt_of_lt_of_le hj X.kw.size) (by have := S.fr; omega)).trans (X.kw.block j hj hne)⟩
end
theorem endsRul {b p r x : Nat} {w V : World} {W : Ws} {zs cs : List Value} (X : Bx b p r x w V W zs cs) (hz : zs.length = 8) (hk : cs.length = 8) (h1 : ∀ v ∈ cs, v.oneCell' = true) :
    (lvRul ⟨x, 0, none⟩).run Tryz.prog V = .ok (.agg cs.toArray) V ∧ (svRul ⟨r, 0, none⟩ (.agg cs.toArray)).run Tryz.prog V = .ok () (V.setCells r 0 cs) := ⟨lvRul_row X.row hk, svRul_row X.res hz hk h1⟩
theorem endsCmd {b p r x : Nat} {w V : World} {W : Ws} {zs cs : List Value} (X : Bx b p r x w V W zs cs) (hz : zs.length = 17) (hk : cs.length = 17) (h1 : ∀ v ∈ cs, v.oneCell' = true) :
    (lvCmd ⟨x, 0, none⟩).run Tryz.prog V = .ok (.agg cs.toArray) V ∧ (svCmd ⟨r, 0, none⟩ (.agg cs.toArray)).run Tryz.prog V = .ok () (V.setCells r 0 cs) := ⟨lvCmd_row X.row hk, svCmd_row X.res hz hk h1⟩
theorem endsRop {b p r x : Nat} {w V : World} {W : Ws} {zs cs : List Value} (X : Bx b p r x w V W zs cs) (hz : zs.length = 9) (hk : cs.length = 9) (h1 : ∀ v ∈ cs, v.oneCell' = true) :
    (lvRop ⟨x, 0, none⟩).run Tryz.prog V = .ok (.agg cs.toArray) V ∧ (svRop ⟨r, 0, none⟩ (.agg cs.toArray)).run Tryz.prog V = .ok () (V.setCells r 0 cs) := ⟨lvRop_row X.row hk, svRop_row X.res hz hk h1⟩
theorem endsAct {b p r x : Nat} {w V : World} {W : Ws} {zs cs : List Value} (X : Bx b p r x w V W zs cs) (hz : zs.length = 33) (hk : cs.length = 33) (h1 : ∀ v ∈ cs, v.oneCell' = true) :
    (lvAct ⟨x, 0, none⟩).run Tryz.prog V = .ok (.agg cs.toArray) V ∧ (svAct ⟨r, 0, none⟩ (.agg cs.toArray)).run Tryz.prog V = .ok () (V.setCells r 0 cs) := ⟨lvAct_row X.row hk, svAct_row X.res hz hk h1⟩
theorem OwnR.kb {α : Type} {ty : TypeId} {size : Nat} {cells : α → List Value} {b B : Nat} {w w' : World} {v : Value} {l : List α} {P : Nat → Prop} (h : OwnR ty size cells b B w v l) (k : Kb P w w') (hp : ∀ g, v.ownBlock = some g → B ≤ g → ¬ P g) : OwnR ty size cells b B w' v l := by
  obtain ⟨hd, h1, h2, h3⟩ := h
  exact ⟨hd, h1, own_kb h2 k (fun g hg => hp g (by rw [h1]; exact hg) (h2.lt g hg).1), h3⟩
theorem OwnR.hi {α : Type} {ty : TypeId} {size : Nat} {cells : α → List Value} {b B : Nat} {w w' : World} {v : Value} {l : List α} {P : Nat → Prop} (h : OwnR ty size cells b B w v l) (k : Kb P w w') (hp : ∀ g, P g → g < B) : OwnR ty size cells b B w' v l :=
  h.kb k fun g _ hg hP => by have := hp g hP; omega
theorem OwnR.down {α : Type} {ty : TypeId} {size : Nat} {cells : α → List Value} {b B B0 : Nat} {w : World} {v : Value} {l : List α} (h : OwnR ty size cells b B w v l) (hB : B0 ≤ B) (hb : b < B0) : OwnR ty size cells b B0 w v l := by
  obtain ⟨hd, h1, h2, h3⟩ := h
  exact ⟨hd, h1, own_down h2 hB, hb⟩
theorem NamesV.hi {b B : Nat} {w w' : World} {v : Value} {l : List ByteArray} {P : Nat → Prop} (h : NamesV b B w v l) (k : Kb P w w') (hp : ∀ g, P g → g < B) : NamesV b B w' v l := ⟨h.1.hi k hp, h.2⟩
theorem NamesV.down {b B B0 : Nat} {w : World} {v : Value} {l : List ByteArray} (h : NamesV b B w v l) (hB : B0 ≤ B) (hb : b < B0) : NamesV b B0 w v l := ⟨h.1.down hB hb, h.2⟩
theorem NamesV.kw {b B : Nat} {w w' : World} {v : Value} {l : List ByteArray} (h : NamesV b B w v l) (k : Kw b w w') : NamesV b B w' v l := ⟨h.1.kw k, h.2⟩
theorem names_one (V : World) (x j : Nat) (u : Value) (b : Nat) (s : ByteArray) (hb : b < V.heap.size) (hs : nameB s = true) : NamesV b V.heap.size ((V.setCell ⟨x, j, none⟩ u).alloc (.cells #[.string s] 9)) (.slice (some ⟨V.heap.size, 0, none⟩) 1 1) [s] := by
  have hz : (V.setCell ⟨x, j, none⟩ u).heap.size = V.heap.size := by simp
  have h := own_one (V.setCell ⟨x, j, none⟩ u) V.heap.size 9 1 [.string s] rfl (by omega)
  rw [hz] at h
  exact ⟨⟨⟨some ⟨V.heap.size, 0, none⟩, 1, 1⟩, rfl, h, hb⟩, by simp, by simpa using hs⟩
def RulV (b B : Nat) (w' : World) (v : Value) (r : Rul) : Prop :=
  ∃ u, v = .agg #[.string r.name, .int .i64 r.kind, u, .int .i64 r.low, .int .i64 r.high, .string r.schema, .string r.table, .string r.key] ∧ NamesV b B w' u r.cols ∧ nameB r.name = true ∧ (r.schema = zBy ∨ nameB r.schema = true) ∧ (r.table = zBy ∨ nameB r.table = true) ∧ (r.key = zBy ∨ nameB r.key = true)
theorem names_cases {b p B : Nat} {W : Ws} {w : World} {e : Ending} {w' : World} (h : RdQ b p w (NamesV b B) (namesP W) e w') :
    (namesP W = none ∧ e = .panicked [{ v := .iface 74 (.agg #[]), recovered := false }] ∧ Kw b w w') ∨ ∃ A c l W', namesP W = some (l, W') ∧ e = .returned (.slice A l.length c) ∧ NamesV b B w' (.slice A l.length c) l ∧ WdS w' b p W' ∧ Kw b w w' := by
  obtain ⟨k, h2⟩ := h
  cases hq : namesP W with
  | none => rw [hq] at h2; exact .inl ⟨rfl, h2, k⟩
  | some y =>
    obtain ⟨l, W'⟩ := y
    rw [hq] at h2
    obtain ⟨v, rfl, h3, h4⟩ := h2
    obtain ⟨⟨hd, rfl, h5⟩, h6⟩ := h3
    exact .inr ⟨hd.a, hd.c, l, W', rfl, rfl, ⟨⟨hd, rfl, h5⟩, h6⟩, h4, k⟩
theorem bx_start {b p : Nat} {w w1 : World} {W : Ws} {zs : List Value} {t t2 : TypeId} (hb : b < w.heap.size) (hp : p < w.heap.size) (hl : 0 < b) (k : Kw b (w.alloc (.cells zs.toArray t)) w1) (d : WdS w1 b p W) (cs : List Value) :
    Bs b p w.heap.size w1.heap.size w ∧ Bx b p w.heap.size w1.heap.size w (w1.alloc (.cells cs.toArray t2)) W zs cs := by
  have hz : (w.alloc (.cells zs.toArray t)).heap.size = w.heap.size + 1 := by simp
  have kz := k.size
  rw [hz] at kz
  exact ⟨⟨hb, hp, hl, Nat.le_refl _, by omega, by omega⟩, d.aft ((Aft.refl _).alloc _), rowAt_newD _ _ _, ((rowAt_newD w zs t).kw k (by omega)).aft ((Aft.refl _).alloc _), (((Kw.refl b w).alloc _).trans k).alloc _⟩

set_option maxHeartbeats 4000000 in
theorem rule_check (b p : Nat) (W : Ws) (w : World) (h : WdS w b p W) : Calls Tryz.prog 51 #[.pointer (some ⟨b, 0, none⟩), .int .i64 3] w (RdQ b p w (RulV b w.heap.size) (ruleP 3 W)) := by
  have HN := Lib.hid (fun w1 W (h : WdS w1 b p W) => name_rd b p W w1 h)
  have HI := Lib.hid (fun w1 W (h : WdS w1 b p W) => number_rd b p W w1 h)
  have HL := Lib.hid (fun w1 W (h : WdS w1 b p W) => names_rd b p W w1 h)
  have HH := Lib.hid (h.aft ((Aft.refl w).alloc (.cells #[.string ⟨#[]⟩, .int .i64 0, .slice none 0 0, .int .i64 0, .int .i64 0, .string ⟨#[]⟩, .string ⟨#[]⟩, .string ⟨#[]⟩] 28)))
  have hb := h.lt
  have HPL := Lib.hid h.plt
  have HLO := Lib.hid h.low
  clear h
  go_enter Tryz.func51, Tryz.ntmps51
  go_wp2_with (first
    | (go_at_call 48; with_reducible refine (HN.out _ _ HH.out).mono ?_; rintro e w1 q; rcases name_cases q with ⟨n, rfl, k⟩ | ⟨s1, W1, n, rfl, g1, d, k⟩; all_goals (have N1 := Lib.hid n; have K1 := Lib.hid (((Kw.refl b w).alloc _).trans k); clear n q; try (have ST := bx_start (t2 := 28) (zs := [.string ⟨#[]⟩, .int .i64 0, .slice none 0 0, .int .i64 0, .int .i64 0, .string ⟨#[]⟩, .string ⟨#[]⟩, .string ⟨#[]⟩]) hb HPL.out HLO.out k d [.string s1, .int .i64 3, .slice none 0 0, .int .i64 0, .int .i64 0, .string ⟨#[]⟩, .string ⟨#[]⟩, .string ⟨#[]⟩]; have S := Lib.hid ST.1; have X1 := Lib.hid ST.2; clear d ST)))
    | (go_at_call 48; with_reducible refine (HN.out _ _ X1.out.ds).mono ?_; rintro e w2 q; rcases name_cases q with ⟨n, rfl, k⟩ | ⟨s2, W2, n, rfl, g2, d, k⟩; all_goals (have N2 := Lib.hid n; have K2 := Lib.hid (X1.out.kw.trans k); clear n q; try (have X2 := Lib.hid (X1.out.call S.out k d); have xz2 := X2.out.row.ltD; have rz2 := X2.out.res.ltD; obtain ⟨c2_2, f2_2⟩ := X2.out.cf 2 (by simp); have X2s := Lib.hid ((X2.out.set S.out 2 (.slice (some ⟨w2.heap.size, 0, none⟩) 1 1) (by simp)).alloc (.cells #[.string s2] 9)); have O2 := Lib.hid (names_one w2 w1.heap.size 2 (.slice (some ⟨w2.heap.size, 0, none⟩) 1 1) b s2 X2.out.ds.lt g2); clear d)))
    | (go_at_call 28; with_reducible refine (HI.out _ _ X2s.out.ds).mono ?_; rintro e w3 q; rcases number_cases q with ⟨n, rfl, k⟩ | ⟨s3, W3, n, rfl, d, k⟩; all_goals (have N3 := Lib.hid n; have K3 := Lib.hid (X2s.out.kw.trans k); clear n q; try (have X3 := Lib.hid (X2s.out.call S.out k d); have xz3 := X3.out.row.ltD; have rz3 := X3.out.res.ltD; have O3 := Lib.hid (O2.out.kw k); clear d)))
    | (go_at_call 28; with_reducible refine (HI.out _ _ X3.out.ds).mono ?_; rintro e w4 q; rcases number_cases q with ⟨n, rfl, k⟩ | ⟨s4, W4, n, rfl, d, k⟩; all_goals (have N4 := Lib.hid n; have K4 := Lib.hid (X3.out.kw.trans k); clear n q; try (have X4 := Lib.hid (X3.out.call S.out k d); have xz4 := X4.out.row.ltD; have rz4 := X4.out.res.ltD; obtain ⟨c4_3, f4_3⟩ := X4.out.cf 3 (by simp); obtain ⟨c4_4, f4_4⟩ := X4.out.cf 4 (by simp); have O4 := Lib.hid (O3.out.kw k); have XF := (X4.out.set S.out 3 (.int .i64 s3) (by simp)).set S.out 4 (.int .i64 s4) (by simp); simp only [List.set_cons_succ, List.set_cons_zero] at XF; have XF := Lib.hid XF; obtain ⟨e1, e2⟩ := endsRul XF.out rfl rfl (by simp [Value.oneCell']); clear d))))
  · exact ⟨rfl, K1.out, by rw [show ruleP 3 W = none by simp only [ruleP, N1.out, Option.bind_some, Option.bind_none, if_true]]; rfl⟩
  · exact ⟨rfl, K2.out, by rw [show ruleP 3 W = none by simp only [ruleP, N1.out, N2.out, Option.bind_some, Option.bind_none, if_true]]; rfl⟩
  · exact ⟨rfl, K3.out, by rw [show ruleP 3 W = none by simp only [ruleP, N1.out, N2.out, N3.out, Option.bind_some, Option.bind_none, if_true]]; rfl⟩
  · exact ⟨rfl, K4.out, by rw [show ruleP 3 W = none by simp only [ruleP, N1.out, N2.out, N3.out, N4.out, Option.bind_some, Option.bind_none, if_true]]; rfl⟩
  · obtain ⟨rf, kwf, wdf, kbf⟩ := XF.out.fin S.out rfl
    refine bodyPost_ret (results_cell rfl _ rfl (lv_row (T := 28) Tryz.underlying28 (by kernel_rfl) rf rfl)) rfl ?_
    have S := S.out
    have sb := S.fb
    have sr := S.fr
    have sx := S.fx
    have z2 := X2.out.row.ltD
    have z3 := X2.out.res.ltD
    have z4 := X2.out.ds.lt
    have z5 := X2.out.kw.size
    refine ⟨kwf, ?_⟩
    rw [show ruleP 3 W = some (⟨s1, 3, [s2], s3, s4, zBy, zBy, zBy⟩, W4) by simp only [ruleP, N1.out, N2.out, N3.out, N4.out, Option.bind_some, if_true]]
    exact ⟨_, rfl, ⟨_, rfl, ((((O4.out.hi (Kb.set _ _ _ _) (fun g e => by have e' : g = _ := e; omega)).hi (Kb.set _ _ _ _) (fun g e => by have e' : g = _ := e; omega)).hi kbf (fun g e => by have e' : g = _ := e; omega)).down (by omega) (by omega)), g1, .inl rfl, .inl rfl, .inl rfl⟩, wdf⟩

set_option maxHeartbeats 4000000 in
theorem rule_foreign (b p : Nat) (W : Ws) (w : World) (h : WdS w b p W) : Calls Tryz.prog 51 #[.pointer (some ⟨b, 0, none⟩), .int .i64 4] w (RdQ b p w (RulV b w.heap.size) (ruleP 4 W)) := by
  have HN := Lib.hid (fun w1 W (h : WdS w1 b p W) => name_rd b p W w1 h)
  have HI := Lib.hid (fun w1 W (h : WdS w1 b p W) => number_rd b p W w1 h)
  have HL := Lib.hid (fun w1 W (h : WdS w1 b p W) => names_rd b p W w1 h)
  have HH := Lib.hid (h.aft ((Aft.refl w).alloc (.cells #[.string ⟨#[]⟩, .int .i64 0, .slice none 0 0, .int .i64 0, .int .i64 0, .string ⟨#[]⟩, .string ⟨#[]⟩, .string ⟨#[]⟩] 28)))
  have hb := h.lt
  have HPL := Lib.hid h.plt
  have HLO := Lib.hid h.low
  clear h
  go_enter Tryz.func51, Tryz.ntmps51
  go_wp2_with (first
    | (go_at_call 48; with_reducible refine (HN.out _ _ HH.out).mono ?_; rintro e w1 q; rcases name_cases q with ⟨n, rfl, k⟩ | ⟨s1, W1, n, rfl, g1, d, k⟩; all_goals (have N1 := Lib.hid n; have K1 := Lib.hid (((Kw.refl b w).alloc _).trans k); clear n q; try (have ST := bx_start (t2 := 28) (zs := [.string ⟨#[]⟩, .int .i64 0, .slice none 0 0, .int .i64 0, .int .i64 0, .string ⟨#[]⟩, .string ⟨#[]⟩, .string ⟨#[]⟩]) hb HPL.out HLO.out k d [.string s1, .int .i64 4, .slice none 0 0, .int .i64 0, .int .i64 0, .string ⟨#[]⟩, .string ⟨#[]⟩, .string ⟨#[]⟩]; have S := Lib.hid ST.1; have X1 := Lib.hid ST.2; clear d ST)))
    | (go_at_call 48; with_reducible refine (HN.out _ _ X1.out.ds).mono ?_; rintro e w2 q; rcases name_cases q with ⟨n, rfl, k⟩ | ⟨s2, W2, n, rfl, g2, d, k⟩; all_goals (have N2 := Lib.hid n; have K2 := Lib.hid (X1.out.kw.trans k); clear n q; try (have X2 := Lib.hid (X1.out.call S.out k d); have xz2 := X2.out.row.ltD; have rz2 := X2.out.res.ltD; clear d)))
    | (go_at_call 48; with_reducible refine (HN.out _ _ X2.out.ds).mono ?_; rintro e w3 q; rcases name_cases q with ⟨n, rfl, k⟩ | ⟨s3, W3, n, rfl, g3, d, k⟩; all_goals (have N3 := Lib.hid n; have K3 := Lib.hid (X2.out.kw.trans k); clear n q; try (have X3 := Lib.hid (X2.out.call S.out k d); have xz3 := X3.out.row.ltD; have rz3 := X3.out.res.ltD; clear d)))
    | (go_at_call 48; with_reducible refine (HN.out _ _ X3.out.ds).mono ?_; rintro e w4 q; rcases name_cases q with ⟨n, rfl, k⟩ | ⟨s4, W4, n, rfl, g4, d, k⟩; all_goals (have N4 := Lib.hid n; have K4 := Lib.hid (X3.out.kw.trans k); clear n q; try (have X4 := Lib.hid (X3.out.call S.out k d); have xz4 := X4.out.row.ltD; have rz4 := X4.out.res.ltD; obtain ⟨c4_5, f4_5⟩ := X4.out.cf 5 (by simp); obtain ⟨c4_6, f4_6⟩ := X4.out.cf 6 (by simp); obtain ⟨c4_7, f4_7⟩ := X4.out.cf 7 (by simp); have X4s := Lib.hid (((X4.out.set S.out 5 (.string s2) (by simp)).set S.out 6 (.string s3) (by simp)).set S.out 7 (.string s4) (by simp)); clear d)))
    | (go_at_call 84; with_reducible refine (HL.out _ _ X4s.out.ds).mono ?_; rintro e w5 q; rcases names_cases q with ⟨n, rfl, k⟩ | ⟨A5, q5, l5, W5, n, rfl, g5, d, k⟩; all_goals (have N5 := Lib.hid n; have K5 := Lib.hid (X4s.out.kw.trans k); clear n q; try (have X5 := Lib.hid (X4s.out.call S.out k d); have xz5 := X5.out.row.ltD; have rz5 := X5.out.res.ltD; obtain ⟨c5_2, f5_2⟩ := X5.out.cf 2 (by simp); have XF := X5.out.set S.out 2 (.slice A5 l5.length q5) (by simp); simp only [List.set_cons_succ, List.set_cons_zero] at XF; have XF := Lib.hid XF; obtain ⟨e1, e2⟩ := endsRul XF.out rfl rfl (by simp [Value.oneCell']); clear d))))
  · exact ⟨rfl, K1.out, by rw [show ruleP 4 W = none by simp only [ruleP, N1.out, Option.bind_some, Option.bind_none, if_true, show ¬ (4 : Int) = 3 by decide, if_false]]; rfl⟩
  · exact ⟨rfl, K2.out, by rw [show ruleP 4 W = none by simp only [ruleP, N1.out, N2.out, Option.bind_some, Option.bind_none, if_true, show ¬ (4 : Int) = 3 by decide, if_false]]; rfl⟩
  · exact ⟨rfl, K3.out, by rw [show ruleP 4 W = none by simp only [ruleP, N1.out, N2.out, N3.out, Option.bind_some, Option.bind_none, if_true, show ¬ (4 : Int) = 3 by decide, if_false]]; rfl⟩
  · exact ⟨rfl, K4.out, by rw [show ruleP 4 W = none by simp only [ruleP, N1.out, N2.out, N3.out, N4.out, Option.bind_some, Option.bind_none, if_true, show ¬ (4 : Int) = 3 by decide, if_false]]; rfl⟩
  · exact ⟨rfl, K5.out, by rw [show ruleP 4 W = none by simp only [ruleP, N1.out, N2.out, N3.out, N4.out, N5.out, Option.bind_some, Option.bind_none, if_true, show ¬ (4 : Int) = 3 by decide, if_false]]; rfl⟩
  · obtain ⟨rf, kwf, wdf, kbf⟩ := XF.out.fin S.out rfl
    refine bodyPost_ret (results_cell rfl _ rfl (lv_row (T := 28) Tryz.underlying28 (by kernel_rfl) rf rfl)) rfl ?_
    have S := S.out
    have sb := S.fb
    have sr := S.fr
    have sx := S.fx
    have z2 := X4s.out.row.ltD
    have z3 := X4s.out.res.ltD
    have z4 := X4s.out.ds.lt
    have z5 := X4s.out.kw.size
    refine ⟨kwf, ?_⟩
    rw [show ruleP 4 W = some (⟨s1, 4, l5, 0, 0, s2, s3, s4⟩, W5) by simp only [ruleP, N1.out, N2.out, N3.out, N4.out, N5.out, Option.bind_some, if_true, show ¬ (4 : Int) = 3 by decide, if_false]]
    exact ⟨_, rfl, ⟨_, rfl, (((g5.hi (Kb.set _ _ _ _) (fun g e => by have e' : g = _ := e; omega)).hi kbf (fun g e => by have e' : g = _ := e; omega)).down (by omega) (by omega)), g1, .inr g2, .inr g3, .inr g4⟩, wdf⟩

set_option maxHeartbeats 4000000 in
theorem rule_index (b p : Nat) (W : Ws) (w : World) (h : WdS w b p W) : Calls Tryz.prog 51 #[.pointer (some ⟨b, 0, none⟩), .int .i64 1] w (RdQ b p w (RulV b w.heap.size) (ruleP 1 W)) := by
  have HN := Lib.hid (fun w1 W (h : WdS w1 b p W) => name_rd b p W w1 h)
  have HI := Lib.hid (fun w1 W (h : WdS w1 b p W) => number_rd b p W w1 h)
  have HL := Lib.hid (fun w1 W (h : WdS w1 b p W) => names_rd b p W w1 h)
  have HH := Lib.hid (h.aft ((Aft.refl w).alloc (.cells #[.string ⟨#[]⟩, .int .i64 0, .slice none 0 0, .int .i64 0, .int .i64 0, .string ⟨#[]⟩, .string ⟨#[]⟩, .string ⟨#[]⟩] 28)))
  have hb := h.lt
  have HPL := Lib.hid h.plt
  have HLO := Lib.hid h.low
  clear h
  go_enter Tryz.func51, Tryz.ntmps51
  go_wp2_with (first
    | (go_at_call 48; with_reducible refine (HN.out _ _ HH.out).mono ?_; rintro e w1 q; rcases name_cases q with ⟨n, rfl, k⟩ | ⟨s1, W1, n, rfl, g1, d, k⟩; all_goals (have N1 := Lib.hid n; have K1 := Lib.hid (((Kw.refl b w).alloc _).trans k); clear n q; try (have ST := bx_start (t2 := 28) (zs := [.string ⟨#[]⟩, .int .i64 0, .slice none 0 0, .int .i64 0, .int .i64 0, .string ⟨#[]⟩, .string ⟨#[]⟩, .string ⟨#[]⟩]) hb HPL.out HLO.out k d [.string s1, .int .i64 1, .slice none 0 0, .int .i64 0, .int .i64 0, .string ⟨#[]⟩, .string ⟨#[]⟩, .string ⟨#[]⟩]; have S := Lib.hid ST.1; have X1 := Lib.hid ST.2; clear d ST)))
    | (go_at_call 84; with_reducible refine (HL.out _ _ X1.out.ds).mono ?_; rintro e w2 q; rcases names_cases q with ⟨n, rfl, k⟩ | ⟨A2, q2, l2, W2, n, rfl, g2, d, k⟩; all_goals (have N2 := Lib.hid n; have K2 := Lib.hid (X1.out.kw.trans k); clear n q; try (have X2 := Lib.hid (X1.out.call S.out k d); have xz2 := X2.out.row.ltD; have rz2 := X2.out.res.ltD; obtain ⟨c2_2, f2_2⟩ := X2.out.cf 2 (by simp); have XF := X2.out.set S.out 2 (.slice A2 l2.length q2) (by simp); simp only [List.set_cons_succ, List.set_cons_zero] at XF; have XF := Lib.hid XF; obtain ⟨e1, e2⟩ := endsRul XF.out rfl rfl (by simp [Value.oneCell']); clear d))))
  · exact ⟨rfl, K1.out, by rw [show ruleP 1 W = none by simp only [ruleP, N1.out, Option.bind_some, Option.bind_none, show ¬ (1 : Int) = 3 by decide, show ¬ (1 : Int) = 4 by decide, if_false]]; rfl⟩
  · exact ⟨rfl, K2.out, by rw [show ruleP 1 W = none by simp only [ruleP, N1.out, N2.out, Option.bind_some, Option.bind_none, show ¬ (1 : Int) = 3 by decide, show ¬ (1 : Int) = 4 by decide, if_false]]; rfl⟩
  · obtain ⟨rf, kwf, wdf, kbf⟩ := XF.out.fin S.out rfl
    refine bodyPost_ret (results_cell rfl _ rfl (lv_row (T := 28) Tryz.underlying28 (by kernel_rfl) rf rfl)) rfl ?_
    have S := S.out
    have sb := S.fb
    have sr := S.fr
    have sx := S.fx
    have z2 := X1.out.row.ltD
    have z3 := X1.out.res.ltD
    have z4 := X1.out.ds.lt
    have z5 := X1.out.kw.size
    refine ⟨kwf, ?_⟩
    rw [show ruleP 1 W = some (⟨s1, 1, l2, 0, 0, zBy, zBy, zBy⟩, W2) by simp only [ruleP, N1.out, N2.out, Option.bind_some, show ¬ (1 : Int) = 3 by decide, show ¬ (1 : Int) = 4 by decide, if_false]]
    exact ⟨_, rfl, ⟨_, rfl, (((g2.hi (Kb.set _ _ _ _) (fun g e => by have e' : g = _ := e; omega)).hi kbf (fun g e => by have e' : g = _ := e; omega)).down (by omega) (by omega)), g1, .inl rfl, .inl rfl, .inl rfl⟩, wdf⟩

set_option maxHeartbeats 4000000 in
theorem rule_key (b p : Nat) (W : Ws) (w : World) (h : WdS w b p W) : Calls Tryz.prog 51 #[.pointer (some ⟨b, 0, none⟩), .int .i64 2] w (RdQ b p w (RulV b w.heap.size) (ruleP 2 W)) := by
  have HN := Lib.hid (fun w1 W (h : WdS w1 b p W) => name_rd b p W w1 h)
  have HI := Lib.hid (fun w1 W (h : WdS w1 b p W) => number_rd b p W w1 h)
  have HL := Lib.hid (fun w1 W (h : WdS w1 b p W) => names_rd b p W w1 h)
  have HH := Lib.hid (h.aft ((Aft.refl w).alloc (.cells #[.string ⟨#[]⟩, .int .i64 0, .slice none 0 0, .int .i64 0, .int .i64 0, .string ⟨#[]⟩, .string ⟨#[]⟩, .string ⟨#[]⟩] 28)))
  have hb := h.lt
  have HPL := Lib.hid h.plt
  have HLO := Lib.hid h.low
  clear h
  go_enter Tryz.func51, Tryz.ntmps51
  go_wp2_with (first
    | (go_at_call 48; with_reducible refine (HN.out _ _ HH.out).mono ?_; rintro e w1 q; rcases name_cases q with ⟨n, rfl, k⟩ | ⟨s1, W1, n, rfl, g1, d, k⟩; all_goals (have N1 := Lib.hid n; have K1 := Lib.hid (((Kw.refl b w).alloc _).trans k); clear n q; try (have ST := bx_start (t2 := 28) (zs := [.string ⟨#[]⟩, .int .i64 0, .slice none 0 0, .int .i64 0, .int .i64 0, .string ⟨#[]⟩, .string ⟨#[]⟩, .string ⟨#[]⟩]) hb HPL.out HLO.out k d [.string s1, .int .i64 2, .slice none 0 0, .int .i64 0, .int .i64 0, .string ⟨#[]⟩, .string ⟨#[]⟩, .string ⟨#[]⟩]; have S := Lib.hid ST.1; have X1 := Lib.hid ST.2; clear d ST)))
    | (go_at_call 84; with_reducible refine (HL.out _ _ X1.out.ds).mono ?_; rintro e w2 q; rcases names_cases q with ⟨n, rfl, k⟩ | ⟨A2, q2, l2, W2, n, rfl, g2, d, k⟩; all_goals (have N2 := Lib.hid n; have K2 := Lib.hid (X1.out.kw.trans k); clear n q; try (have X2 := Lib.hid (X1.out.call S.out k d); have xz2 := X2.out.row.ltD; have rz2 := X2.out.res.ltD; obtain ⟨c2_2, f2_2⟩ := X2.out.cf 2 (by simp); have XF := X2.out.set S.out 2 (.slice A2 l2.length q2) (by simp); simp only [List.set_cons_succ, List.set_cons_zero] at XF; have XF := Lib.hid XF; obtain ⟨e1, e2⟩ := endsRul XF.out rfl rfl (by simp [Value.oneCell']); clear d))))
  · exact ⟨rfl, K1.out, by rw [show ruleP 2 W = none by simp only [ruleP, N1.out, Option.bind_some, Option.bind_none, show ¬ (2 : Int) = 3 by decide, show ¬ (2 : Int) = 4 by decide, if_false]]; rfl⟩
  · exact ⟨rfl, K2.out, by rw [show ruleP 2 W = none by simp only [ruleP, N1.out, N2.out, Option.bind_some, Option.bind_none, show ¬ (2 : Int) = 3 by decide, show ¬ (2 : Int) = 4 by decide, if_false]]; rfl⟩
  · obtain ⟨rf, kwf, wdf, kbf⟩ := XF.out.fin S.out rfl
    refine bodyPost_ret (results_cell rfl _ rfl (lv_row (T := 28) Tryz.underlying28 (by kernel_rfl) rf rfl)) rfl ?_
    have S := S.out
    have sb := S.fb
    have sr := S.fr
    have sx := S.fx
    have z2 := X1.out.row.ltD
    have z3 := X1.out.res.ltD
    have z4 := X1.out.ds.lt
    have z5 := X1.out.kw.size
    refine ⟨kwf, ?_⟩
    rw [show ruleP 2 W = some (⟨s1, 2, l2, 0, 0, zBy, zBy, zBy⟩, W2) by simp only [ruleP, N1.out, N2.out, Option.bind_some, show ¬ (2 : Int) = 3 by decide, show ¬ (2 : Int) = 4 by decide, if_false]]
    exact ⟨_, rfl, ⟨_, rfl, (((g2.hi (Kb.set _ _ _ _) (fun g e => by have e' : g = _ := e; omega)).hi kbf (fun g e => by have e' : g = _ := e; omega)).down (by omega) (by omega)), g1, .inl rfl, .inl rfl, .inl rfl⟩, wdf⟩

end Go.Proofs.YtbdanlipghhgpaaGreatDoor

