/- Contracts of the program, part 3. -/
import Derived.Deep.Upon
import Derived.OwnWalk
import Derived.Laws.AppendOwn
import Derived.ProofKit
import Derived.OpenShut
import Derived.Deep.Slices
import Derived.ChangeOld
import Derived.SizedLaws
import Derived.WalkKit
import Derived.WalkSpells
import Derived.WalkLawsBesides
import Derived.Lib.Hide
import Derived.Deep.QuietTactic
import Derived.BigQuiet
import Derived.Below
import Derived.Deep.Draws
import Derived.StillTailTactics
import Derived.Laws.Cells
import Derived.Laws.IdiomCopy
import Derived.Test.YtbdanlipghhgpaaGreatDoorRows
import Derived.Laws.EntriesVeiled
import Derived.Lib.Bytealg
import Derived.ShutString
import Derived.Lib.Atoi
import Derived.Lib.ItoaNum
import Derived.Lib.Split
import Derived.Lib.SplitLaws
import Derived.Lib.CutLaws
import Derived.Lib.Strings
import Derived.Lib.SlTrimSet
import Derived.Shelf.Strings.Builder1
import Derived.Shelf.Strings.Builder2
import Derived.Shelf.Strings.OnBuilder
import Derived.Shelf.Strings.Trim
import Derived.Shelf.Small.Utf8
import Derived.Shelf.Small.Strs
import Derived.Shelf.Small.Wraps
import Derived.Shelf.Strconv.Atoi
import Derived.Shelf.Strconv.Itoa0
import Derived.Shelf.Strconv.Itoa1
import Derived.Shelf.LaysM
import Derived.Shelf.Strconv.Itoa2
import Derived.Shelf.Strconv.Itoa3
import Derived.Shelf.Strings.Search1
import Derived.Shelf.Strings.Search2
import Derived.Shelf.Strings.Search3
import Derived.Shelf.Strings.Cut
import Derived.Shelf.Strings.Count
import Derived.Shelf.Strings.Shaped
import Derived.Shelf.Strings.Prefix
import Derived.Shelf.Strings.Split
import Derived.Shelf.Strings.Runes
import Derived.Shelf.Strings.AsciiSet
import Derived.Shelf.Unicode.DecodeSlow
import Derived.Shelf.Slices.Equal
import Derived.Shelf.Slices.Empties2
import Derived.Shelf.Strings.SlTrimAscii
import Derived.Test.YtbdanlipghhgpaaGreatDoorProg
import Derived.Test.YtbdanlipghhgpaaGreatDoorPartB1
import Derived.Test.YtbdanlipghhgpaaGreatDoorPartB2
namespace Go.Proofs.YtbdanlipghhgpaaGreatDoor
open Go.RowKit Go.Deep
set_option linter.unusedVariables false
structure Kb (P : Nat → Prop) (w w' : World) : Prop where
  os : w'.os = w.os
  tape : w'.tape = w.tape
  output : w'.output = w.output
  size : w.heap.size ≤ w'.heap.size
  block : ∀ k, k < w.heap.size → ¬ P k → w'.heap[k]? = w.heap[k]?
theorem Kb.refl (P : Nat → Prop) (w : World) : Kb P w w := ⟨rfl, rfl, rfl, Nat.le_refl _, fun _ _ _ => rfl⟩
theorem Kb.of_aft {P : Nat → Prop} {w w' : World} (a : Aft w w') : Kb P w w' := ⟨a.os, a.tape, a.output, a.size, fun k hk _ => a.block k hk⟩
theorem Kb.of_grown {w w' : World} {row : Option Nat} (h : w.grownBy w' row) : Kb (fun k => row = some k) w w' := ⟨h.os, h.tape, h.output, h.size, fun k hk hn => h.block k hk fun e => hn e.symm⟩
theorem Kb.mono {P Q : Nat → Prop} {w w' : World} (h : Kb P w w') (hq : ∀ k, k < w.heap.size → P k → Q k) : Kb Q w w' := ⟨h.os, h.tape, h.output, h.size, fun k hk hn => h.block k hk fun hp => hn (hq k hk hp)⟩
theorem Kb.trans {P : Nat → Prop} {w w' w'' : World} (h : Kb P w w') (h' : Kb P w' w'') : Kb P w w'' :=
  ⟨h'.os.trans h.os, h'.tape.trans h.tape, h'.output.trans h.output, Nat.le_trans h.size h'.size, fun k hk hn => (h'.block k (Nat.lt_of_lt_of_le hk h.size) hn).trans (h.block k hk hn)⟩
theorem Kb.set (w : World) (g j : Nat) (v : Value) : Kb (fun k => k = g) w (w.setCell ⟨g, j, none⟩ v) :=
  ⟨rfl, rfl, rfl, by simp, fun k hk hn => Below.heap_setCell _ _ _ _ hn⟩
theorem Kb.to_aft {P : Nat → Prop} {W w w' : World} (h : Kb P w w') (a : Aft W w) (hP : ∀ k, k < W.heap.size → ¬ P k) : Aft W w' :=
  ⟨h.os.trans a.os, h.tape.trans a.tape, h.output.trans a.output, Nat.le_trans a.size h.size, fun k hk => (h.block k (Nat.lt_of_lt_of_le hk a.size) (hP k hk)).trans (a.block k hk)⟩
theorem Kb.cell {P : Nat → Prop} {w w' : World} (h : Kb P w w') {p : Addr} {v : Value} (hc : w.cell? p = some v) (hb : ¬ P p.block) : w'.cell? p = some v := by
  have := h.block p.block (World.block_lt_of_cell? w p hc) hb
  unfold World.cell? at hc ⊢
  rw [this]; exact hc
theorem Kb.row {P : Nat → Prop} {w w' : World} (h : Kb P w w') {g : Nat} {xs : List Value} (hr : RowAt w g xs) (hb : ¬ P g) : RowAt w' g xs := by
  have := h.block g hr.1 hb
  refine ⟨Nat.lt_of_lt_of_le hr.1 h.size, fun j hj => ?_, fun j hj => ?_⟩
  · rw [← hr.2.1 j hj]; simp [World.cell?, this]
  · rw [← hr.2.2 j hj]; simp [World.frozen?, this]
theorem own_kb {P : Nat → Prop} {w w' : World} {B size n : Nat} {e : TypeId} {v : Value} {xs : List Value} (h : w.ownsRow B e size v n xs) (k : Kb P w w') (hne : ∀ g, v.ownBlock = some g → ¬ P g) : w'.ownsRow B e size v n xs := by
  refine ⟨h.1, ?_⟩
  rcases h.2 with hn | ⟨g, cap, cur, rfl, hb, hgg, rest⟩
  · exact .inl hn
  · exact .inr ⟨g, cap, cur, rfl, hb, (k.block g (lt_of_block hgg) (hne g rfl)).trans hgg, rest⟩
theorem own_base {w : World} {B B' size n : Nat} {e : TypeId} {v : Value} {xs : List Value} (h : w.ownsRow B e size v n xs) (hb : ∀ g, v.ownBlock = some g → B' ≤ g) : w.ownsRow B' e size v n xs := by
  refine ⟨h.1, ?_⟩
  rcases h.2 with hn | ⟨g, cap, cur, rfl, hb', rest⟩
  · exact .inl hn
  · exact .inr ⟨g, cap, cur, rfl, hb g rfl, rest⟩
theorem own_down {w : World} {B B' size n : Nat} {e : TypeId} {v : Value} {xs : List Value} (h : w.ownsRow B e size v n xs) (hb : B' ≤ B) : w.ownsRow B' e size v n xs :=
  own_base h fun g hg => Nat.le_trans hb (h.lt g hg).1
theorem own_sl {α : Type} {w : World} {B size : Nat} {e : TypeId} {h : Hd} {l : List α} {css : List (List Value)} {R : World → List Value → α → Prop} (o : w.ownsRow B e size h.v l.length css.flatten) (hc : Chunks w size R css l) (hs : Small (l.length * 16)) : SlAt w size R h.a h.c l := by
  obtain ⟨A, cap, hv, sl⟩ := rowV_slAt (own_rowV o) hc hs
  unfold Hd.v at hv
  simp only [Value.slice.injEq] at hv
  rw [hv.1, hv.2.2]; exact sl
theorem chunks_map {α : Type} {w : World} {size : Nat} {R : World → List Value → α → Prop} (f : α → List Value) (l : List α) (hf : ∀ x ∈ l, (f x).length = size ∧ R w (f x) x) : Chunks w size R (l.map f) l :=
  ⟨by simp, fun i h h' => by simpa using hf l[i] (List.getElem_mem h')⟩
theorem own_slf {α : Type} {w : World} {B size : Nat} {e : TypeId} {h : Hd} {l : List α} {R : World → List Value → α → Prop} (f : α → List Value) (o : w.ownsRow B e size h.v l.length (l.flatMap f)) (hf : ∀ x ∈ l, (f x).length = size ∧ R w (f x) x) (hs : Small (l.length * 16)) : SlAt w size R h.a h.c l :=
  own_sl (css := l.map f) (by rw [← List.flatMap_def]; exact o) (chunks_map f l hf) hs

def nameC (s : ByteArray) : List Value := [.string s]
def colC (c : Col) : List Value := [.string c.name, .int .i64 c.kind, .bool c.null]
end Go.Proofs.YtbdanlipghhgpaaGreatDoor

namespace Go.Proofs.YtbdanlipghhgpaaGreatDoor
open Go.RowKit Go.Deep
set_option maxRecDepth 100000
set_option linter.unusedVariables false
def NoL : Ending := .panicked [{ v := .iface 74 (.agg #[]), recovered := false }]
theorem dis_ok (w : World) : Calls Tryz.prog 18 #[.bool true] w fun e w' => e = .returned (.tuple #[]) ∧ w = w' := by
  go_enter Tryz.func18, Tryz.ntmps18
  go_wp2_with fail
  go_end0
  exact ⟨rfl, rfl⟩
theorem dis_no (w : World) : Calls Tryz.prog 18 #[.bool false] w fun e w' => e = NoL ∧ w = w' := by
  go_enter Tryz.func18, Tryz.ntmps18
  go_wp2_with fail
  exact ⟨rfl, rfl, rfl⟩
def Pcs (w : World) (p o c : Nat) (W : Ws) : Prop := W.length ≤ c ∧ p < w.heap.size ∧ ∀ i (h : i < W.length), w.cell? ⟨p, o + i, none⟩ = some (.string W[i]) ∧ W[i].size ≤ 4096
theorem Pcs.kb {w w' : World} {p o c : Nat} {W : Ws} {P : Nat → Prop} (h : Pcs w p o c W) (k : Kb P w w') (hp : ¬ P p) : Pcs w' p o c W :=
  ⟨h.1, Nat.lt_of_lt_of_le h.2.1 k.size, fun i hi => ⟨k.cell (h.2.2 i hi).1 hp, (h.2.2 i hi).2⟩⟩
theorem Pcs.tail {w : World} {p o c : Nat} {s : ByteArray} {W : Ws} (h : Pcs w p o c (s :: W)) : Pcs w p (o + 1) (c - 1) W := by
  have h1 := h.1
  simp only [List.length_cons] at h1
  refine ⟨by omega, h.2.1, fun i hi => ?_⟩
  have := h.2.2 (i + 1) (by simpa using hi)
  rw [show o + 1 + i = o + (i + 1) by omega]
  simpa using this
def LibV (w : World) : Prop := ∃ m, w.cell? ⟨0, 0, none⟩ = some (.int .i64 m)
theorem LibV.kb {w w' : World} {P : Nat → Prop} (h : LibV w) (k : Kb P w w') (hp : ¬ P 0) : LibV w' := by
  obtain ⟨m, hm⟩ := h
  exact ⟨m, k.cell hm hp⟩
structure WdS (w : World) (b p : Nat) (W : Ws) : Prop where
  ex : ∃ o c, w.cell? ⟨b, 0, none⟩ = some (.slice (some ⟨p, o, none⟩) W.length c) ∧ Pcs w p o c W
  lt : b < w.heap.size
  free : w.frozen? ⟨b, 0, none⟩ = false
  ne : ¬ p = b
  big : W.length ≤ 4097
  lib : LibV w
  low : 0 < b
def Kw (b : Nat) (w w' : World) : Prop := Kb (fun k => k = b) w w'
theorem Kw.refl (b : Nat) (w : World) : Kw b w w := Kb.refl _ w
theorem Kw.trans {b : Nat} {w w1 w2 : World} (h : Kw b w w1) (h2 : Kw b w1 w2) : Kw b w w2 := Kb.trans h h2
theorem Kw.aft {b : Nat} {w w1 w2 : World} (h : Kw b w w1) (a : Aft w1 w2) : Kw b w w2 := Kb.trans h (Kb.of_aft a)
theorem Kw.alloc {b : Nat} {w w1 : World} (h : Kw b w w1) (o : Obj) : Kw b w (w1.alloc o) := h.aft ((Aft.refl _).alloc o)
theorem Kw.drew {b : Nat} {w w1 : World} (h : Kw b w w1) : Kw b w w1.drew := h.aft (Aft.refl _).drew
theorem Kw.set {b : Nat} {w w1 : World} (h : Kw b w w1) (g j : Nat) (v : Value) (hg : g = b ∨ w.heap.size ≤ g) : Kw b w (w1.setCell ⟨g, j, none⟩ v) :=
  ⟨h.os, h.tape, h.output, by simpa using h.size, fun k hk hn => by
    have hne : ¬ k = g := by
      rcases hg with rfl | hg
      · exact hn
      · omega
    rw [Below.heap_setCell _ _ _ _ hne]
    exact h.block k hk hn⟩
theorem WdS.kb {w w' : World} {b p : Nat} {W : Ws} {P : Nat → Prop} (h : WdS w b p W) (k : Kb P w w') (hb : ¬ P b) (hp : ¬ P p) (h0 : ¬ P 0) : WdS w' b p W := by
  obtain ⟨o, c, h1, h2⟩ := h.ex
  have := k.block b h.lt hb
  exact ⟨⟨o, c, k.cell h1 hb, h2.kb k hp⟩, Nat.lt_of_lt_of_le h.lt k.size, by simpa [World.frozen?, this] using h.free, h.ne, h.big, h.lib.kb k h0, h.low⟩
theorem WdS.aft {w w' : World} {b p : Nat} {W : Ws} (h : WdS w b p W) (a : Aft w w') : WdS w' b p W := h.kb (P := fun _ => False) (Kb.of_aft a) id id id
theorem WdS.le {w : World} {b p : Nat} {s : ByteArray} {W : Ws} (h : WdS w b p (s :: W)) : s.size ≤ 4096 := by
  obtain ⟨o, c, _, h2⟩ := h.ex
  exact (h2.2.2 0 (by simp)).2
theorem WdS.small {w : World} {b p : Nat} {s : ByteArray} {W : Ws} (h : WdS w b p (s :: W)) : Small s.size := Nat.le_trans h.le (by decide)
theorem wds_set {w : World} {b p o c : Nat} {W W0 : Ws} (h : WdS w b p W0) (hl : W.length ≤ W0.length) (hp : Pcs w p o c W) :
    WdS (w.setCell ⟨b, 0, none⟩ (.slice (some ⟨p, o, none⟩) W.length c)) b p W ∧ Kw b w (w.setCell ⟨b, 0, none⟩ (.slice (some ⟨p, o, none⟩) W.length c)) := by
  have hk : Kw b w (w.setCell ⟨b, 0, none⟩ (.slice (some ⟨p, o, none⟩) W.length c)) := (Kw.refl b w).set b 0 _ (.inl rfl)
  obtain ⟨o0, c0, h1, _⟩ := h.ex
  exact ⟨⟨⟨o, c, World.cell?_setCell_same _ _ _ h1, hp.kb hk h.ne⟩, by simpa using h.lt, by simpa using h.free, h.ne, Nat.le_trans hl h.big, h.lib.kb hk (by have := h.low; omega), h.low⟩, hk⟩
theorem more_yes (b p : Nat) (s : ByteArray) (W : Ws) (w : World) (h : WdS w b p (s :: W)) : Calls Tryz.prog 19 #[.pointer (some ⟨b, 0, none⟩)] w fun e w' => e = .returned (.bool true) ∧ w = w' := by
  obtain ⟨o, c, c0, hp⟩ := h.ex
  have hb := h.lt
  have hl := hp.1
  have hz := h.big
  rw [List.length_cons] at c0 hl hz
  generalize W.length = n at *
  clear h hp
  go_enter Tryz.func19, Tryz.ntmps19
  go_wp2_with fail
  go_ret
  refine ⟨?_, rfl⟩
  refine Eq.trans (b := .returned (.bool _)) rfl (ret_of (bool_of ?_))
  first | rfl | (simp; done) | (simp; omega)
theorem more_no (b p : Nat) (w : World) (h : WdS w b p []) : Calls Tryz.prog 19 #[.pointer (some ⟨b, 0, none⟩)] w fun e w' => e = .returned (.bool false) ∧ w = w' := by
  obtain ⟨o, c, c0, hp⟩ := h.ex
  have hb := h.lt
  rw [List.length_nil] at c0
  clear h hp
  go_enter Tryz.func19, Tryz.ntmps19
  go_wp2_with fail
  go_ret
  exact ⟨rfl, rfl⟩
theorem word_yes (b p : Nat) (s : ByteArray) (W : Ws) (w : World) (h : WdS w b p (s :: W)) : Calls Tryz.prog 27 #[.pointer (some ⟨b, 0, none⟩)] w fun e w' => e = .returned (.string s) ∧ WdS w' b p W ∧ Kw b w w' := by
  have HM := Lib.hid (more_yes b p s W w h)
  have HH := Lib.hid h
  obtain ⟨o, c, c0, hp⟩ := h.ex
  have hb := h.lt
  have hf := h.free
  have hne := h.ne
  have hl := hp.1
  have hz := h.big
  have hpl := hp.2.1
  obtain ⟨c1, -⟩ := hp.2.2 0 (by simp)
  simp only [List.getElem_cons_zero, Nat.add_zero] at c1
  have HP := Lib.hid hp.tail
  rw [List.length_cons] at c0 hl hz
  clear h hp
  go_enter Tryz.func27, Tryz.ntmps27
  go_wp2_with (first | (go_at_call 19; refine HM.out.mono ?_; rintro e w' ⟨rfl, rfl⟩) | (go_at_call 18; refine (dis_ok _).mono ?_; rintro e w' ⟨rfl, rfl⟩))
  · have hW : W = [] := List.eq_nil_of_length_eq_zero (by omega)
    go_ret
    refine ⟨rfl, wds_set HH.out (by simp) ?_⟩
    subst hW
    exact ⟨Nat.zero_le _, hpl, fun i hi => absurd hi (by simp)⟩
  · go_ret
    exact ⟨rfl, wds_set HH.out (by simp) HP.out⟩
theorem word_no (b p : Nat) (w : World) (h : WdS w b p []) : Calls Tryz.prog 27 #[.pointer (some ⟨b, 0, none⟩)] w fun e w' => e = NoL ∧ w = w' := by
  have HM := Lib.hid (more_no b p w h)
  clear h
  go_enter Tryz.func27, Tryz.ntmps27
  go_wp2_with (first | (go_at_call 19; refine HM.out.mono ?_; rintro e w' ⟨rfl, rfl⟩) | (go_at_call 18; refine (dis_no _).mono ?_; rintro e w' ⟨he, rfl⟩; unfold NoL at he; subst he))
  all_goals exact ⟨rfl, rfl, rfl⟩
def RdQ {α : Type} (b p : Nat) (w : World) (V : World → Value → α → Prop) (o : Option (α × Ws)) (e : Ending) (w' : World) : Prop :=
  Kw b w w' ∧ match o with
  | some (x, W) => ∃ v, e = .returned v ∧ V w' v x ∧ WdS w' b p W
  | none => e = NoL
theorem name_rd (b p : Nat) (W : Ws) (w : World) (h : WdS w b p W) : Calls Tryz.prog 48 #[.pointer (some ⟨b, 0, none⟩)] w (RdQ b p w (fun _ v x => v = .string x ∧ nameB x = true) (nameP W)) := by
  cases W with
  | nil =>
    have HM := Lib.hid (word_no b p w h)
    clear h
    go_enter Tryz.func48, Tryz.ntmps48
    go_wp2_with (first | (go_at_call 27; refine HM.out.mono ?_; rintro e w' ⟨he, rfl⟩; unfold NoL at he; subst he))
    exact ⟨rfl, Kw.refl _ _, rfl⟩
  | cons s W =>
    have HM := Lib.hid (word_yes b p s W w h)
    have hs := h.small
    obtain ⟨q, hq⟩ : ∃ q, nameB s = q := ⟨_, rfl⟩
    have HN := Lib.hid (show ∀ w1 : World, Calls Tryz.prog 81 #[.string s] w1 fun e w' => e = .returned (.bool q) ∧ w1 = w' from fun w1 => hq ▸ name_any s w1 hs.max)
    have HQ := Lib.hid hq
    clear h hq hs
    cases q
    · go_enter Tryz.func48, Tryz.ntmps48
      go_wp2_with (first | (go_at_call 27; refine HM.out.mono ?_; rintro e w1 ⟨rfl, d1, k1⟩; have D1 := Lib.hid d1; have K1 := Lib.hid k1; clear d1 k1) | (go_at_call 81; refine (HN.out _).mono ?_; rintro e w' ⟨rfl, rfl⟩) | (go_at_call 18; refine (dis_no _).mono ?_; rintro e w' ⟨he, rfl⟩; unfold NoL at he; subst he))
      refine ⟨rfl, K1.out, ?_⟩
      have : nameP (s :: W) = none := by simp [nameP, oneP, nameO, HQ.out]
      rw [this]; rfl
    · go_enter Tryz.func48, Tryz.ntmps48
      go_wp2_with (first | (go_at_call 27; refine HM.out.mono ?_; rintro e w1 ⟨rfl, d1, k1⟩; have D1 := Lib.hid d1; have K1 := Lib.hid k1; clear d1 k1) | (go_at_call 81; refine (HN.out _).mono ?_; rintro e w' ⟨rfl, rfl⟩) | (go_at_call 18; refine (dis_ok _).mono ?_; rintro e w' ⟨rfl, rfl⟩))
      go_ret
      have : nameP (s :: W) = some (s, W) := by simp [nameP, oneP, nameO, HQ.out]
      unfold RdQ
      rw [this]
      exact ⟨K1.out, _, rfl, ⟨rfl, HQ.out⟩, D1.out⟩
end Go.Proofs.YtbdanlipghhgpaaGreatDoor

/-
  DERIVED: THE SHELF's CONTRACTS AT THIS DUMP, IN PLAIN WORDS (tools/lay-plain.mjs out of 'TryzShelf.lean', which tools/lay-shelf.mjs wrote): THE SAME DECLARATIONS UNDER THE SAME NAMES: 'import', 'namespace', 'open', 'def', 'theorem' AND NOTHING ELSE: no command of the shelf's: FOR A HAND-IN. Each laying: the table of numbers ('.._ren') and one theorem, a field a fact of the dump's own or the kernel's comparison; each contract: ONE APPLICATION.
-/
namespace Go.Proofs
open Go.Shelf
def Tryz.lays156_ren : Go.Shelf.Ren := ⟨fun | 156 => 37 | 165 => 65 | 166 => 66 | 169 => 67 | 240 => 97 | 241 => 98 | 276 => 121 | 277 => 122 | n => n, fun | 31 => 26 | 9 => 9 | 3 => 3 | 4 => 4 | 0 => 0 | 20 => 20 | 72 => 109 | 76 => 113 | 70 => 106 | 37 => 107 | 75 => 112 | 127 => 133 | 164 => 145 | 5 => 5 | 80 => 76 | n => n, fun | n => n⟩
theorem Tryz.lays156 : Go.Proofs.Lays.n156 Tryz.prog Tryz.lays156_ren := {
  mixed := by kernel_rfl
  f156 := Tryz.func37.trans (congrArg some (by kernel_rfl))
  f165 := Tryz.func65.trans (congrArg some (by kernel_rfl))
  f166 := Tryz.func66.trans (congrArg some (by kernel_rfl))
  f169 := Tryz.func67.trans (congrArg some (by kernel_rfl))
  f240 := Tryz.func97.trans (congrArg some (by kernel_rfl))
  f241 := Tryz.func98.trans (congrArg some (by kernel_rfl))
  f276 := Tryz.func121.trans (congrArg some (by kernel_rfl))
  f277 := Tryz.func122.trans (congrArg some (by kernel_rfl))
  t0 := Tryz.underlying0
  a0 := Tryz.isAgg0
  z0 := Tryz.sizeOf0
  v0 := Tryz.zeroValue0
  t3 := Tryz.underlying3
  a3 := Tryz.isAgg3
  z3 := Tryz.sizeOf3
  v3 := Tryz.zeroValue3
  t4 := Tryz.underlying4
  a4 := Tryz.isAgg4
  z4 := Tryz.sizeOf4
  v4 := Tryz.zeroValue4
  t9 := Tryz.underlying9
  a9 := Tryz.isAgg9
  z9 := Tryz.sizeOf9
  v9 := Tryz.zeroValue9
  t20 := Tryz.underlying20
  a20 := Tryz.isAgg20
  z20 := Tryz.sizeOf20
  v20 := Tryz.zeroValue20
  t31 := Tryz.underlying26
  a31 := Tryz.isAgg26
  z31 := Tryz.sizeOf26
  v31 := Tryz.zeroValue26
  t37 := Tryz.underlying107
  a37 := Tryz.isAgg107
  z37 := Tryz.sizeOf107
  v37 := Tryz.zeroValue107
  t70 := Tryz.underlying106
  a70 := Tryz.isAgg106
  z70 := Tryz.sizeOf106
  v70 := Tryz.zeroValue106
  t72 := Tryz.underlying109
  a72 := Tryz.isAgg109
  z72 := Tryz.sizeOf109
  v72 := Tryz.zeroValue109
  t75 := Tryz.underlying112
  a75 := Tryz.isAgg112
  z75 := Tryz.sizeOf112
  v75 := Tryz.zeroValue112
  t76 := Tryz.underlying113
  a76 := Tryz.isAgg113
  z76 := Tryz.sizeOf113
  v76 := Tryz.zeroValue113
  t127 := Tryz.underlying133
  a127 := Tryz.isAgg133
  z127 := Tryz.sizeOf133
  v127 := Tryz.zeroValue133
  t164 := Tryz.underlying145
  a164 := Tryz.isAgg145
  z164 := Tryz.sizeOf145
  v164 := Tryz.zeroValue145 }
theorem Tryz.Builder_Extra_156 : Builder.Extra Tryz.prog Tryz.lays156_ren := {
  sizeBuilder := by kernel_rfl
  liesBuilder := by kernel_rfl
  t5 := Tryz.underlying5
  a5 := Tryz.isAgg5
  z5 := Tryz.sizeOf5
  v5 := Tryz.zeroValue5
  infoByte := by kernel_rfl
  cellsByte := by kernel_rfl
  sizeByte := by kernel_rfl
  neB5 := by decide }
open Go.RowKit in
theorem Tryz.strings_Join (bk o c : Nat) (xs : List ByteArray) (sep : ByteArray) (w : World) (hcells : ∀ (j : Nat) x, xs[j]? = some x → w.cell? ⟨bk, o + j, none⟩ = some (.string x)) (hbk : bk < w.heap.size) (hN : xs.length ≤ 140737488355328) (hcap : xs.length ≤ c) (hlen : (Lib.join (xs.map (·.data.toList)) sep.data.toList).length ≤ 140737488355328) :
    Calls Tryz.prog 37 #[.slice (some ⟨bk, o, none⟩) xs.length c, .string sep] w fun e w' => e = .returned (.string ⟨(Lib.join (xs.map (·.data.toList)) sep.data.toList).toArray⟩) ∧ Below w.heap.size w w' := Any.strings_Join Tryz.lays156 Tryz.Builder_Extra_156 bk o c xs sep w hcells hbk hN hcap hlen
def Tryz.lays160_ren : Go.Shelf.Ren := ⟨fun | 160 => 79 | 232 => 106 | 231 => 105 | 227 => 107 | 234 => 109 | 233 => 108 | 236 => 111 | 235 => 110 | 228 => 126 | 271 => 128 | 151 => 127 | 197 => 75 | 120 => 137 | 152 => 136 | 260 => 99 | 137 => 114 | 119 => 145 | 224 => 102 | 225 => 101 | 217 => 100 | 266 => 123 | n => n, fun | 9 => 9 | 4 => 4 | 3 => 3 | 5 => 5 | 117 => 139 | 116 => 138 | 0 => 0 | 124 => 142 | 21 => 21 | 105 => 120 | 46 => 135 | 119 => 148 | 139 => 151 | 138 => 150 | n => n, fun | 3 => 1 | 4 => 2 | n => n⟩
theorem Tryz.lays160 : Go.Proofs.Lays.n160 Tryz.prog Tryz.lays160_ren := {
  mixed := by kernel_rfl
  f119 := Tryz.func145.trans (congrArg some (by kernel_rfl))
  f120 := Tryz.func137.trans (congrArg some (by kernel_rfl))
  f137 := Tryz.func114.trans (congrArg some (by kernel_rfl))
  f151 := Tryz.func127.trans (congrArg some (by kernel_rfl))
  f152 := Tryz.func136.trans (congrArg some (by kernel_rfl))
  f160 := Tryz.func79.trans (congrArg some (by kernel_rfl))
  f197 := Tryz.func75.trans (congrArg some (by kernel_rfl))
  f217 := Tryz.func100.trans (congrArg some (by kernel_rfl))
  f224 := Tryz.func102.trans (congrArg some (by kernel_rfl))
  f225 := Tryz.func101.trans (congrArg some (by kernel_rfl))
  f227 := Tryz.func107.trans (congrArg some (by kernel_rfl))
  f228 := Tryz.func126.trans (congrArg some (by kernel_rfl))
  f231 := Tryz.func105.trans (congrArg some (by kernel_rfl))
  f232 := Tryz.func106.trans (congrArg some (by kernel_rfl))
  f233 := Tryz.func108.trans (congrArg some (by kernel_rfl))
  f234 := Tryz.func109.trans (congrArg some (by kernel_rfl))
  f235 := Tryz.func110.trans (congrArg some (by kernel_rfl))
  f236 := Tryz.func111.trans (congrArg some (by kernel_rfl))
  f260 := Tryz.func99.trans (congrArg some (by kernel_rfl))
  f266 := Tryz.func123.trans (congrArg some (by kernel_rfl))
  f271 := Tryz.func128.trans (congrArg some (by kernel_rfl))
  t0 := Tryz.underlying0
  a0 := Tryz.isAgg0
  z0 := Tryz.sizeOf0
  v0 := Tryz.zeroValue0
  t3 := Tryz.underlying3
  a3 := Tryz.isAgg3
  z3 := Tryz.sizeOf3
  v3 := Tryz.zeroValue3
  t4 := Tryz.underlying4
  a4 := Tryz.isAgg4
  z4 := Tryz.sizeOf4
  v4 := Tryz.zeroValue4
  t5 := Tryz.underlying5
  a5 := Tryz.isAgg5
  z5 := Tryz.sizeOf5
  v5 := Tryz.zeroValue5
  t9 := Tryz.underlying9
  a9 := Tryz.isAgg9
  z9 := Tryz.sizeOf9
  v9 := Tryz.zeroValue9
  t21 := Tryz.underlying21
  a21 := Tryz.isAgg21
  z21 := Tryz.sizeOf21
  v21 := Tryz.zeroValue21
  t46 := Tryz.underlying135
  a46 := Tryz.isAgg135
  z46 := Tryz.sizeOf135
  v46 := Tryz.zeroValue135
  t105 := Tryz.underlying120
  a105 := Tryz.isAgg120
  z105 := Tryz.sizeOf120
  v105 := Tryz.zeroValue120
  t116 := Tryz.underlying138
  a116 := Tryz.isAgg138
  z116 := Tryz.sizeOf138
  t117 := Tryz.underlying139
  a117 := Tryz.isAgg139
  z117 := Tryz.sizeOf139
  v117 := Tryz.zeroValue139
  t119 := Tryz.underlying148
  a119 := Tryz.isAgg148
  z119 := Tryz.sizeOf148
  t124 := Tryz.underlying142
  a124 := Tryz.isAgg142
  z124 := Tryz.sizeOf142
  v124 := Tryz.zeroValue142
  t138 := Tryz.underlying150
  a138 := Tryz.isAgg150
  z138 := Tryz.sizeOf150
  v138 := Tryz.zeroValue150
  t139 := Tryz.underlying151
  a139 := Tryz.isAgg151
  z139 := Tryz.sizeOf151
  v139 := Tryz.zeroValue151
  g3 := by kernel_rfl
  g4 := by kernel_rfl }
def Tryz.lays103_ren : Go.Shelf.Ren := ⟨fun | 103 => 85 | 210 => 118 | 206 => 125 | n => n, fun | 9 => 9 | 4 => 4 | 24 => 124 | 3 => 3 | n => n, fun | n => n⟩
theorem Tryz.lays103 : Go.Proofs.Lays.n103 Tryz.prog Tryz.lays103_ren := {
  mixed := by kernel_rfl
  f103 := Tryz.func85.trans (congrArg some (by kernel_rfl))
  f206 := Tryz.func125.trans (congrArg some (by kernel_rfl))
  f210 := Tryz.func118.trans (congrArg some (by kernel_rfl))
  t3 := Tryz.underlying3
  a3 := Tryz.isAgg3
  z3 := Tryz.sizeOf3
  v3 := Tryz.zeroValue3
  t4 := Tryz.underlying4
  a4 := Tryz.isAgg4
  z4 := Tryz.sizeOf4
  v4 := Tryz.zeroValue4
  t9 := Tryz.underlying9
  a9 := Tryz.isAgg9
  z9 := Tryz.sizeOf9
  v9 := Tryz.zeroValue9
  t24 := Tryz.underlying124
  a24 := Tryz.isAgg124
  z24 := Tryz.sizeOf124
  v24 := Tryz.zeroValue124 }
open Go.RowKit in
theorem Tryz.strings_CutPrefix (s p : ByteArray) (w : World) :
    Calls Tryz.prog 85 #[.string s, .string p] w fun e w' => e = .returned (.tuple #[.string ⟨(Lib.trimPrefix s.data.toList p.data.toList).toArray⟩, .bool (Lib.hasPrefix s.data.toList p.data.toList)]) ∧ w' = w := Any.strings_CutPrefix Tryz.lays103 s p w
def Tryz.lays104_ren : Go.Shelf.Ren := ⟨fun | 104 => 82 | 211 => 116 | 207 => 134 | n => n, fun | 9 => 9 | 4 => 4 | 24 => 124 | 3 => 3 | n => n, fun | n => n⟩
theorem Tryz.lays104 : Go.Proofs.Lays.n104 Tryz.prog Tryz.lays104_ren := {
  mixed := by kernel_rfl
  f104 := Tryz.func82.trans (congrArg some (by kernel_rfl))
  f207 := Tryz.func134.trans (congrArg some (by kernel_rfl))
  f211 := Tryz.func116.trans (congrArg some (by kernel_rfl))
  t3 := Tryz.underlying3
  a3 := Tryz.isAgg3
  z3 := Tryz.sizeOf3
  v3 := Tryz.zeroValue3
  t4 := Tryz.underlying4
  a4 := Tryz.isAgg4
  z4 := Tryz.sizeOf4
  v4 := Tryz.zeroValue4
  t9 := Tryz.underlying9
  a9 := Tryz.isAgg9
  z9 := Tryz.sizeOf9
  v9 := Tryz.zeroValue9
  t24 := Tryz.underlying124
  a24 := Tryz.isAgg124
  z24 := Tryz.sizeOf124
  v24 := Tryz.zeroValue124 }
open Go.RowKit in
theorem Tryz.strings_CutSuffix (s p : ByteArray) (w : World) (hs : s.size ≤ 9223372036854775807) :
    Calls Tryz.prog 82 #[.string s, .string p] w fun e w' => e = .returned (.tuple #[.string ⟨(Lib.trimSuffix s.data.toList p.data.toList).toArray⟩, .bool (Lib.hasSuffix s.data.toList p.data.toList)]) ∧ w' = w := Any.strings_CutSuffix Tryz.lays104 s p w hs
def Tryz.lays172_ren : Go.Shelf.Ren := ⟨fun | 172 => 80 | 244 => 112 | 245 => 113 | 247 => 129 | 279 => 130 | 280 => 131 | 281 => 132 | 282 => 133 | 287 => 138 | 316 => 139 | 171 => 90 | 205 => 140 | 321 => 146 | 322 => 147 | 243 => 119 | 246 => 135 | 283 => 141 | 284 => 142 | 285 => 143 | 286 => 144 | 129 => 149 | 317 => 148 | 318 => 150 | 319 => 151 | 320 => 152 | 337 => 153 | 338 => 154 | n => n, fun | 9 => 9 | 3 => 3 | 75 => 112 | 76 => 113 | 4 => 4 | 5 => 5 | 167 => 158 | 37 => 107 | 0 => 0 | 85 => 159 | 2 => 2 | 168 => 161 | 53 => 166 | 175 => 167 | 46 => 135 | 210 => 170 | 127 => 133 | 145 => 181 | 143 => 179 | 21 => 21 | 171 => 172 | 173 => 175 | 212 => 183 | 51 => 152 | 20 => 20 | 213 => 184 | 232 => 188 | 233 => 189 | 80 => 76 | n => n, fun | 15 => 3 | 16 => 4 | 17 => 5 | 18 => 6 | 19 => 7 | n => n⟩
theorem Tryz.lays172 : Go.Proofs.Lays.n172 Tryz.prog Tryz.lays172_ren := {
  mixed := by kernel_rfl
  f129 := Tryz.func149.trans (congrArg some (by kernel_rfl))
  f171 := Tryz.func90.trans (congrArg some (by kernel_rfl))
  f172 := Tryz.func80.trans (congrArg some (by kernel_rfl))
  f205 := Tryz.func140.trans (congrArg some (by kernel_rfl))
  f243 := Tryz.func119.trans (congrArg some (by kernel_rfl))
  f244 := Tryz.func112.trans (congrArg some (by kernel_rfl))
  f245 := Tryz.func113.trans (congrArg some (by kernel_rfl))
  f246 := Tryz.func135.trans (congrArg some (by kernel_rfl))
  f247 := Tryz.func129.trans (congrArg some (by kernel_rfl))
  f279 := Tryz.func130.trans (congrArg some (by kernel_rfl))
  f280 := Tryz.func131.trans (congrArg some (by kernel_rfl))
  f281 := Tryz.func132.trans (congrArg some (by kernel_rfl))
  f282 := Tryz.func133.trans (congrArg some (by kernel_rfl))
  f283 := Tryz.func141.trans (congrArg some (by kernel_rfl))
  f284 := Tryz.func142.trans (congrArg some (by kernel_rfl))
  f285 := Tryz.func143.trans (congrArg some (by kernel_rfl))
  f286 := Tryz.func144.trans (congrArg some (by kernel_rfl))
  f287 := Tryz.func138.trans (congrArg some (by kernel_rfl))
  f316 := Tryz.func139.trans (congrArg some (by kernel_rfl))
  f317 := Tryz.func148.trans (congrArg some (by kernel_rfl))
  f318 := Tryz.func150.trans (congrArg some (by kernel_rfl))
  f319 := Tryz.func151.trans (congrArg some (by kernel_rfl))
  f320 := Tryz.func152.trans (congrArg some (by kernel_rfl))
  f321 := Tryz.func146.trans (congrArg some (by kernel_rfl))
  f322 := Tryz.func147.trans (congrArg some (by kernel_rfl))
  f337 := Tryz.func153.trans (congrArg some (by kernel_rfl))
  f338 := Tryz.func154.trans (congrArg some (by kernel_rfl))
  t0 := Tryz.underlying0
  a0 := Tryz.isAgg0
  z0 := Tryz.sizeOf0
  v0 := Tryz.zeroValue0
  t2 := Tryz.underlying2
  a2 := Tryz.isAgg2
  z2 := Tryz.sizeOf2
  v2 := Tryz.zeroValue2
  t3 := Tryz.underlying3
  a3 := Tryz.isAgg3
  z3 := Tryz.sizeOf3
  v3 := Tryz.zeroValue3
  t4 := Tryz.underlying4
  a4 := Tryz.isAgg4
  z4 := Tryz.sizeOf4
  v4 := Tryz.zeroValue4
  t5 := Tryz.underlying5
  a5 := Tryz.isAgg5
  z5 := Tryz.sizeOf5
  v5 := Tryz.zeroValue5
  t9 := Tryz.underlying9
  a9 := Tryz.isAgg9
  z9 := Tryz.sizeOf9
  v9 := Tryz.zeroValue9
  t20 := Tryz.underlying20
  a20 := Tryz.isAgg20
  z20 := Tryz.sizeOf20
  v20 := Tryz.zeroValue20
  t21 := Tryz.underlying21
  a21 := Tryz.isAgg21
  z21 := Tryz.sizeOf21
  v21 := Tryz.zeroValue21
  t37 := Tryz.underlying107
  a37 := Tryz.isAgg107
  z37 := Tryz.sizeOf107
  v37 := Tryz.zeroValue107
  t46 := Tryz.underlying135
  a46 := Tryz.isAgg135
  z46 := Tryz.sizeOf135
  v46 := Tryz.zeroValue135
  t51 := Tryz.underlying152
  a51 := Tryz.isAgg152
  z51 := Tryz.sizeOf152
  v51 := Tryz.zeroValue152
  t53 := Tryz.underlying166
  a53 := Tryz.isAgg166
  z53 := Tryz.sizeOf166
  v53 := Tryz.zeroValue166
  t75 := Tryz.underlying112
  a75 := Tryz.isAgg112
  z75 := Tryz.sizeOf112
  v75 := Tryz.zeroValue112
  t76 := Tryz.underlying113
  a76 := Tryz.isAgg113
  z76 := Tryz.sizeOf113
  v76 := Tryz.zeroValue113
  t85 := Tryz.underlying159
  a85 := Tryz.isAgg159
  z85 := Tryz.sizeOf159
  v85 := Tryz.zeroValue159
  t127 := Tryz.underlying133
  a127 := Tryz.isAgg133
  z127 := Tryz.sizeOf133
  v127 := Tryz.zeroValue133
  t143 := Tryz.underlying179
  a143 := Tryz.isAgg179
  z143 := Tryz.sizeOf179
  v143 := Tryz.zeroValue179
  t145 := Tryz.underlying181
  a145 := Tryz.isAgg181
  z145 := Tryz.sizeOf181
  v145 := Tryz.zeroValue181
  t167 := Tryz.underlying158
  a167 := Tryz.isAgg158
  z167 := Tryz.sizeOf158
  v167 := Tryz.zeroValue158
  t168 := Tryz.underlying161
  a168 := Tryz.isAgg161
  z168 := Tryz.sizeOf161
  v168 := Tryz.zeroValue161
  t171 := Tryz.underlying172
  a171 := Tryz.isAgg172
  z171 := Tryz.sizeOf172
  v171 := Tryz.zeroValue172
  t173 := Tryz.underlying175
  a173 := Tryz.isAgg175
  z173 := Tryz.sizeOf175
  v173 := Tryz.zeroValue175
  t175 := Tryz.underlying167
  a175 := Tryz.isAgg167
  z175 := Tryz.sizeOf167
  v175 := Tryz.zeroValue167
  t210 := Tryz.underlying170
  a210 := Tryz.isAgg170
  z210 := Tryz.sizeOf170
  v210 := Tryz.zeroValue170
  t212 := Tryz.underlying183
  a212 := Tryz.isAgg183
  z212 := Tryz.sizeOf183
  v212 := Tryz.zeroValue183
  t213 := Tryz.underlying184
  a213 := Tryz.isAgg184
  z213 := Tryz.sizeOf184
  t232 := Tryz.underlying188
  a232 := Tryz.isAgg188
  z232 := Tryz.sizeOf188
  v232 := Tryz.zeroValue188
  t233 := Tryz.underlying189
  a233 := Tryz.isAgg189
  z233 := Tryz.sizeOf189
  v233 := Tryz.zeroValue189
  g15 := by kernel_rfl
  g16 := by kernel_rfl
  g17 := by kernel_rfl
  g18 := by kernel_rfl
  g19 := by kernel_rfl }
open Go.RowKit in
theorem Tryz.strconv_Atoi (s : ByteArray) (n : Int) (hl : s.size ≤ 18) (h : Lib.atoi s.data.toList = some n) (w : World) :
    Calls Tryz.prog 80 #[.string s] w fun e w' => e = .returned (.tuple #[.int .i64 n, .nilIface]) ∧ ∃ t, w' = Lib.bytesWorld w 5 t := Any.strconv_Atoi Tryz.lays172 s n hl h w
def Tryz.laysM171_ren : Go.Shelf.Ren := ⟨fun | 171 => 90 | 243 => 119 | 246 => 135 | 283 => 141 | 284 => 142 | 285 => 143 | 286 => 144 | 129 => 149 | 317 => 148 | 318 => 150 | 319 => 151 | 320 => 152 | 337 => 153 | 338 => 154 | n => n, fun | 3 => 3 | 9 => 9 | 2 => 2 | 4 => 4 | 171 => 172 | 0 => 0 | 53 => 166 | 37 => 107 | 5 => 5 | 173 => 175 | 212 => 183 | 51 => 152 | 20 => 20 | 213 => 184 | 46 => 135 | 232 => 188 | 233 => 189 | n => n, fun | 17 => 5 | 18 => 6 | 19 => 7 | n => n⟩
theorem Tryz.laysM171 : Go.Proofs.LaysM.n171 Tryz.prog Tryz.laysM171_ren := {
  mixed := by kernel_rfl
  f129 := Tryz.func149.trans (congrArg some (by kernel_rfl))
  f171 := Tryz.func90.trans (congrArg some (by kernel_rfl))
  f243 := Tryz.func119.trans (congrArg some (by kernel_rfl))
  f246 := Tryz.func135.trans (congrArg some (by kernel_rfl))
  f283 := Tryz.func141.trans (congrArg some (by kernel_rfl))
  f284 := Tryz.func142.trans (congrArg some (by kernel_rfl))
  f285 := Tryz.func143.trans (congrArg some (by kernel_rfl))
  f286 := Tryz.func144.trans (congrArg some (by kernel_rfl))
  f317 := Tryz.func148.trans (congrArg some (by kernel_rfl))
  f318 := Tryz.func150.trans (congrArg some (by kernel_rfl))
  f319 := Tryz.func151.trans (congrArg some (by kernel_rfl))
  f320 := Tryz.func152.trans (congrArg some (by kernel_rfl))
  f337 := Tryz.func153.trans (congrArg some (by kernel_rfl))
  f338 := Tryz.func154.trans (congrArg some (by kernel_rfl))
  t0 := Tryz.underlying0
  a0 := Tryz.isAgg0
  z0 := Tryz.sizeOf0
  v0 := Tryz.zeroValue0
  t2 := Tryz.underlying2
  a2 := Tryz.isAgg2
  z2 := Tryz.sizeOf2
  v2 := Tryz.zeroValue2
  t3 := Tryz.underlying3
  a3 := Tryz.isAgg3
  z3 := Tryz.sizeOf3
  v3 := Tryz.zeroValue3
  t4 := Tryz.underlying4
  a4 := Tryz.isAgg4
  z4 := Tryz.sizeOf4
  v4 := Tryz.zeroValue4
  t5 := Tryz.underlying5
  a5 := Tryz.isAgg5
  z5 := Tryz.sizeOf5
  v5 := Tryz.zeroValue5
  t9 := Tryz.underlying9
  a9 := Tryz.isAgg9
  z9 := Tryz.sizeOf9
  v9 := Tryz.zeroValue9
  t20 := Tryz.underlying20
  a20 := Tryz.isAgg20
  z20 := Tryz.sizeOf20
  v20 := Tryz.zeroValue20
  t37 := Tryz.underlying107
  a37 := Tryz.isAgg107
  z37 := Tryz.sizeOf107
  v37 := Tryz.zeroValue107
  t46 := Tryz.underlying135
  a46 := Tryz.isAgg135
  z46 := Tryz.sizeOf135
  v46 := Tryz.zeroValue135
  t51 := Tryz.underlying152
  a51 := Tryz.isAgg152
  z51 := Tryz.sizeOf152
  v51 := Tryz.zeroValue152
  t53 := Tryz.underlying166
  a53 := Tryz.isAgg166
  z53 := Tryz.sizeOf166
  v53 := Tryz.zeroValue166
  t171 := Tryz.underlying172
  a171 := Tryz.isAgg172
  z171 := Tryz.sizeOf172
  v171 := Tryz.zeroValue172
  t173 := Tryz.underlying175
  a173 := Tryz.isAgg175
  z173 := Tryz.sizeOf175
  v173 := Tryz.zeroValue175
  t212 := Tryz.underlying183
  a212 := Tryz.isAgg183
  z212 := Tryz.sizeOf183
  v212 := Tryz.zeroValue183
  t213 := Tryz.underlying184
  a213 := Tryz.isAgg184
  z213 := Tryz.sizeOf184
  t232 := Tryz.underlying188
  a232 := Tryz.isAgg188
  z232 := Tryz.sizeOf188
  v232 := Tryz.zeroValue188
  t233 := Tryz.underlying189
  a233 := Tryz.isAgg189
  z233 := Tryz.sizeOf189
  v233 := Tryz.zeroValue189
  g17 := by kernel_rfl
  g18 := by kernel_rfl
  g19 := by kernel_rfl
  i0 := by kernel_rfl
  i2 := by kernel_rfl
  i3 := by kernel_rfl
  i4 := by kernel_rfl
  i5 := by kernel_rfl
  i9 := by kernel_rfl
  i20 := by kernel_rfl
  i37 := by kernel_rfl
  i46 := by kernel_rfl
  i51 := by kernel_rfl
  i53 := by kernel_rfl
  i171 := by kernel_rfl
  i173 := by kernel_rfl
  i212 := by kernel_rfl
  i232 := by kernel_rfl
  i233 := by kernel_rfl
  m17 := by kernel_rfl
  m18 := by kernel_rfl
  m19 := by kernel_rfl }
open Go.RowKit Go.Sort Go.Lib in
theorem Tryz.strconv_Itoa (n : Int) (h0 : -9223372036854775808 ≤ n) (h1 : n ≤ 9223372036854775807) (w : World) (htab : Lib.TabIs Tryz.prog w "internal/strconv.uint64pow10" .u64 Lib.pow10Tab) :
    Calls Tryz.prog 90 #[.int .i64 n] w fun e w' => e = .returned (.string ⟨(Lib.itoa n).toArray⟩) ∧ ∃ k os, w' = grow (w.drewN k) os := Any.strconv_Itoa Tryz.laysM171 n h0 h1 w htab
def Tryz.lays145_ren : Go.Shelf.Ren := ⟨fun | 145 => 83 | 220 => 117 | 219 => 77 | 217 => 100 | 225 => 101 | 224 => 102 | 267 => 103 | 266 => 123 | 314 => 124 | n => n, fun | 9 => 9 | 4 => 4 | 59 => 126 | 3 => 3 | 5 => 5 | 46 => 135 | 146 => 153 | 51 => 152 | n => n, fun | 1 => 0 | n => n⟩
theorem Tryz.lays145 : Go.Proofs.Lays.n145 Tryz.prog Tryz.lays145_ren := {
  mixed := by kernel_rfl
  f145 := Tryz.func83.trans (congrArg some (by kernel_rfl))
  f217 := Tryz.func100.trans (congrArg some (by kernel_rfl))
  f219 := Tryz.func77.trans (congrArg some (by kernel_rfl))
  f220 := Tryz.func117.trans (congrArg some (by kernel_rfl))
  f224 := Tryz.func102.trans (congrArg some (by kernel_rfl))
  f225 := Tryz.func101.trans (congrArg some (by kernel_rfl))
  f266 := Tryz.func123.trans (congrArg some (by kernel_rfl))
  f267 := Tryz.func103.trans (congrArg some (by kernel_rfl))
  f314 := Tryz.func124.trans (congrArg some (by kernel_rfl))
  t3 := Tryz.underlying3
  a3 := Tryz.isAgg3
  z3 := Tryz.sizeOf3
  v3 := Tryz.zeroValue3
  t4 := Tryz.underlying4
  a4 := Tryz.isAgg4
  z4 := Tryz.sizeOf4
  v4 := Tryz.zeroValue4
  t5 := Tryz.underlying5
  a5 := Tryz.isAgg5
  z5 := Tryz.sizeOf5
  v5 := Tryz.zeroValue5
  t9 := Tryz.underlying9
  a9 := Tryz.isAgg9
  z9 := Tryz.sizeOf9
  v9 := Tryz.zeroValue9
  t46 := Tryz.underlying135
  a46 := Tryz.isAgg135
  z46 := Tryz.sizeOf135
  v46 := Tryz.zeroValue135
  t51 := Tryz.underlying152
  a51 := Tryz.isAgg152
  z51 := Tryz.sizeOf152
  v51 := Tryz.zeroValue152
  t59 := Tryz.underlying126
  a59 := Tryz.isAgg126
  z59 := Tryz.sizeOf126
  v59 := Tryz.zeroValue126
  t146 := Tryz.underlying153
  a146 := Tryz.isAgg153
  z146 := Tryz.sizeOf153
  v146 := Tryz.zeroValue153
  g1 := by kernel_rfl }
open Go.RowKit Go.Lib in
theorem Tryz.strings_Cut (s sep : ByteArray) (m : Int) (w : World) (hs : s.size < 4294967281) (hm : w.cell? ⟨0, 0, none⟩ = some (.int .i64 m)) :
    Calls Tryz.prog 83 #[.string s, .string sep] w fun e w' => e = .returned (.tuple #[.string ⟨(Lib.cut s.data.toList sep.data.toList).1.toArray⟩, .string ⟨(Lib.cut s.data.toList sep.data.toList).2.1.toArray⟩, .bool (Lib.cut s.data.toList sep.data.toList).2.2]) ∧ ∃ n, w' = w.drewN n := Any.strings_Cut Tryz.lays145 s sep m w hs hm
def Tryz.lays101_ren : Go.Shelf.Ren := ⟨fun | 101 => 78 | 208 => 104 | 206 => 125 | n => n, fun | 9 => 9 | 4 => 4 | 3 => 3 | n => n, fun | n => n⟩
theorem Tryz.lays101 : Go.Proofs.Lays.n101 Tryz.prog Tryz.lays101_ren := {
  mixed := by kernel_rfl
  f101 := Tryz.func78.trans (congrArg some (by kernel_rfl))
  f206 := Tryz.func125.trans (congrArg some (by kernel_rfl))
  f208 := Tryz.func104.trans (congrArg some (by kernel_rfl))
  t3 := Tryz.underlying3
  a3 := Tryz.isAgg3
  z3 := Tryz.sizeOf3
  v3 := Tryz.zeroValue3
  t4 := Tryz.underlying4
  a4 := Tryz.isAgg4
  z4 := Tryz.sizeOf4
  v4 := Tryz.zeroValue4
  t9 := Tryz.underlying9
  a9 := Tryz.isAgg9
  z9 := Tryz.sizeOf9
  v9 := Tryz.zeroValue9 }
open Go.RowKit Go.Lib in
theorem Tryz.strings_TrimPrefix (s p : ByteArray) (w : World) :
    Calls Tryz.prog 78 #[.string s, .string p] w fun e w' => e = .returned (.string ⟨(Lib.trimPrefix s.data.toList p.data.toList).toArray⟩) ∧ w' = w := Any.strings_TrimPrefix Tryz.lays101 s p w
def Tryz.lays146_ren : Go.Shelf.Ren := ⟨fun | 146 => 16 | 221 => 26 | 268 => 44 | 138 => 45 | 143 => 46 | 195 => 74 | 197 => 75 | 218 => 76 | 219 => 77 | 260 => 99 | 217 => 100 | 225 => 101 | 224 => 102 | 267 => 103 | 266 => 123 | 314 => 124 | n => n, fun | 9 => 9 | 31 => 26 | 3 => 3 | 4 => 4 | 0 => 0 | 105 => 120 | 21 => 21 | 5 => 5 | 46 => 135 | 119 => 148 | 139 => 151 | 138 => 150 | 146 => 153 | 51 => 152 | n => n, fun | 1 => 0 | 3 => 1 | 4 => 2 | n => n⟩
theorem Tryz.lays146 : Go.Proofs.Lays.n146 Tryz.prog Tryz.lays146_ren := {
  mixed := by kernel_rfl
  f138 := Tryz.func45.trans (congrArg some (by kernel_rfl))
  f143 := Tryz.func46.trans (congrArg some (by kernel_rfl))
  f146 := Tryz.func16.trans (congrArg some (by kernel_rfl))
  f195 := Tryz.func74.trans (congrArg some (by kernel_rfl))
  f197 := Tryz.func75.trans (congrArg some (by kernel_rfl))
  f217 := Tryz.func100.trans (congrArg some (by kernel_rfl))
  f218 := Tryz.func76.trans (congrArg some (by kernel_rfl))
  f219 := Tryz.func77.trans (congrArg some (by kernel_rfl))
  f221 := Tryz.func26.trans (congrArg some (by kernel_rfl))
  f224 := Tryz.func102.trans (congrArg some (by kernel_rfl))
  f225 := Tryz.func101.trans (congrArg some (by kernel_rfl))
  f260 := Tryz.func99.trans (congrArg some (by kernel_rfl))
  f266 := Tryz.func123.trans (congrArg some (by kernel_rfl))
  f267 := Tryz.func103.trans (congrArg some (by kernel_rfl))
  f268 := Tryz.func44.trans (congrArg some (by kernel_rfl))
  f314 := Tryz.func124.trans (congrArg some (by kernel_rfl))
  t0 := Tryz.underlying0
  a0 := Tryz.isAgg0
  z0 := Tryz.sizeOf0
  v0 := Tryz.zeroValue0
  t3 := Tryz.underlying3
  a3 := Tryz.isAgg3
  z3 := Tryz.sizeOf3
  v3 := Tryz.zeroValue3
  t4 := Tryz.underlying4
  a4 := Tryz.isAgg4
  z4 := Tryz.sizeOf4
  v4 := Tryz.zeroValue4
  t5 := Tryz.underlying5
  a5 := Tryz.isAgg5
  z5 := Tryz.sizeOf5
  v5 := Tryz.zeroValue5
  t9 := Tryz.underlying9
  a9 := Tryz.isAgg9
  z9 := Tryz.sizeOf9
  v9 := Tryz.zeroValue9
  t21 := Tryz.underlying21
  a21 := Tryz.isAgg21
  z21 := Tryz.sizeOf21
  v21 := Tryz.zeroValue21
  t31 := Tryz.underlying26
  a31 := Tryz.isAgg26
  z31 := Tryz.sizeOf26
  v31 := Tryz.zeroValue26
  t46 := Tryz.underlying135
  a46 := Tryz.isAgg135
  z46 := Tryz.sizeOf135
  v46 := Tryz.zeroValue135
  t51 := Tryz.underlying152
  a51 := Tryz.isAgg152
  z51 := Tryz.sizeOf152
  v51 := Tryz.zeroValue152
  t105 := Tryz.underlying120
  a105 := Tryz.isAgg120
  z105 := Tryz.sizeOf120
  v105 := Tryz.zeroValue120
  t119 := Tryz.underlying148
  a119 := Tryz.isAgg148
  z119 := Tryz.sizeOf148
  t138 := Tryz.underlying150
  a138 := Tryz.isAgg150
  z138 := Tryz.sizeOf150
  v138 := Tryz.zeroValue150
  t139 := Tryz.underlying151
  a139 := Tryz.isAgg151
  z139 := Tryz.sizeOf151
  v139 := Tryz.zeroValue151
  t146 := Tryz.underlying153
  a146 := Tryz.isAgg153
  z146 := Tryz.sizeOf153
  v146 := Tryz.zeroValue153
  g1 := by kernel_rfl
  g3 := by kernel_rfl
  g4 := by kernel_rfl }
open Go.RowKit Go.Lib in
theorem Tryz.strings_Split (s sep : ByteArray) (m : Int) (w : World) (hs : s.size < 4294967281) (hm : w.cell? ⟨0, 0, none⟩ = some (.int .i64 m)) (h1 : 1 ≤ sep.size) :
    Calls Tryz.prog 16 #[.string s, .string sep] w fun e w' =>
      e = .returned (.slice (some ⟨w.heap.size, 0, none⟩) (Lib.countB s sep + 1) (Lib.countB s sep + 1)) ∧ w' = w.alloc (.cells ((Lib.splitB sep 0 (Lib.countB s sep) s).map Value.string).toArray 9) := Any.strings_Split Tryz.lays146 (by kernel_rfl) s sep m w hs hm h1
open Go.RowKit Go.Lib in
theorem Tryz.strings_Trim (s cutset : ByteArray) (w : World) (hs : s.size ≤ 9223372036854775807) (hcs : cutset.size < 4294967281) (hascii : ∀ (j : Nat) b, cutset.data.toList[j]? = some b → b.toNat < 128) :
    Calls Tryz.prog 79 #[.string s, .string cutset] w fun e w' => e = .returned (.string ⟨(Lib.trimS s.data.toList cutset.data.toList).toArray⟩) ∧ Below w.heap.size w w' :=
  Any.strings_Trim_laid Tryz.lays160 (by kernel_rfl) s cutset w hs hcs hascii
end Go.Proofs

namespace Go.Proofs.YtbdanlipghhgpaaGreatDoor
set_option linter.unusedVariables false
theorem eqS_no {a b : ByteArray} (h : a.data ≠ b.data) : eqS a b = false := by
  cases hq : eqS a b with
  | false => rfl
  | true => rw [eqS_iffD] at hq; subst hq; exact absurd rfl h
theorem eqS_yes (a : ByteArray) : eqS a a = true := (eqS_iffD a a).2 rfl
theorem neB {a b : ByteArray} (h : a.data ≠ b.data) : ¬ eqS a b = true := by rw [eqS_no h]; decide
end Go.Proofs.YtbdanlipghhgpaaGreatDoor

namespace Go.Proofs.YtbdanlipghhgpaaGreatDoor
open Go.RowKit Go.Deep
set_option maxRecDepth 100000
set_option linter.unusedVariables false
theorem dw_nil {α : Type} (p : α → Bool) : ∀ l : List α, l.dropWhile p = [] ↔ ∀ x ∈ l, p x = true
  | [] => by simp
  | a :: l => by
    rw [List.dropWhile_cons]
    cases h : p a with
    | true => simp [dw_nil p l, h]
    | false => simp [h]
theorem trim_digits (l : Bts) : (Lib.trimS l [48, 49, 50, 51, 52, 53, 54, 55, 56, 57] = []) ↔ l.all isDig = true := by
  have e : ∀ b : UInt8, [48, 49, 50, 51, 52, 53, 54, 55, 56, 57].contains b = isDig b := by
    intro b
    have := all256 (p := fun b => [48, 49, 50, 51, 52, 53, 54, 55, 56, 57].contains b == isDig b) (by decide +kernel) b
    simpa using this
  have e' : (fun b : UInt8 => [48, 49, 50, 51, 52, 53, 54, 55, 56, 57].contains b) = isDig := funext e
  unfold Lib.trimS Lib.trimLeftS Lib.trimRightS
  rw [e', dw_nil]
  constructor
  · intro h
    have h2 : l.reverse.dropWhile isDig = [] := by
      cases hq : l.reverse.dropWhile isDig with
      | nil => rfl
      | cons x r =>
        have h3 := List.head_dropWhile_not isDig (l := l.reverse) (by rw [hq]; simp)
        have h4 := h x (by rw [hq]; simp)
        simp only [hq, List.head_cons] at h3
        rw [h3] at h4; cases h4
    rw [dw_nil] at h2
    rw [List.all_eq_true]
    exact fun x hx => h2 x (by simpa using hx)
  · intro h x hx
    rw [List.all_eq_true] at h
    refine h x ?_
    have := (List.dropWhile_sublist isDig (l := l.reverse)).subset (by simpa using hx)
    simpa using this
theorem aft_bytes (w : World) (e : TypeId) (s : ByteArray) : Aft w (Lib.bytesWorld w e s) := ⟨rfl, rfl, rfl, by rw [Lib.bytesWorld_size]; omega, fun j hj => Lib.bytesWorld_at_old w e s j hj⟩
theorem ba_nil (s : ByteArray) : s.toList = [] ↔ s.data.toList = [] := by rw [ByteArray.toList_eq]
def dgs (s : ByteArray) : ByteArray := wd (minusless s.data.toList)
theorem num_long {s : ByteArray} (h : 10 < (dgs s).size) : numB s = none := by
  have : formN s.data.toList = false := by
    unfold formN
    rw [show decide ((minusless s.data.toList).length ≤ 10) = false from decide_eq_false (by rw [← wd_size]; exact Nat.not_le.2 h)]
    simp
  unfold numB numL; rw [this]; rfl
theorem num_empty {s : ByteArray} (h : (dgs s).size = 0) : numB s = none := by
  have : formN s.data.toList = false := by
    unfold formN
    have : minusless s.data.toList = [] := List.eq_nil_of_length_eq_zero (by rw [← wd_size]; exact h)
    rw [this]; rfl
  unfold numB numL; rw [this]; rfl
theorem num_alien {s : ByteArray} (h : (minusless s.data.toList).all isDig = false) : numB s = none := by
  have : formN s.data.toList = false := by unfold formN; rw [h]; simp
  unfold numB numL; rw [this]; rfl
theorem dgs_head {s : ByteArray} (h : 0 < (dgs s).size) : (minusless s.data.toList).head? = some (dgs s)[0] := by
  have h1 : (minusless s.data.toList) = (dgs s).data.toList := (wd_data _).symm
  rw [h1, ← head_get _ h]
  cases hq : (dgs s).data.toList with
  | nil => rw [Lib.size_eq, hq] at h; simp at h
  | cons a l => rfl
theorem num_zero {s : ByteArray} (h : 0 < (dgs s).size) (h0 : (dgs s)[0] = 48) (hn : eqS s ⟨#[48]⟩ = false) : numB s = none := by
  have : formN s.data.toList = false := by
    unfold formN
    rw [dgs_head h, h0]
    have h2 : s.data.toList ≠ [48] := by
      intro e
      have : s = ⟨#[48]⟩ := ba_ext e
      subst this
      rw [eqS_yes] at hn; cases hn
    rw [show (s.data.toList != [48]) = true from bne_iff_ne.2 h2]
    simp
  unfold numB numL; rw [this]; rfl
theorem num_form {s : ByteArray} (h1 : 0 < (dgs s).size) (h2 : (dgs s).size ≤ 10) (h3 : (minusless s.data.toList).all isDig = true) (h4 : (dgs s)[0] ≠ 48 ∨ eqS s ⟨#[48]⟩ = true) : formN s.data.toList = true := by
  unfold formN
  rw [dgs_head h1, h3]
  have h5 : (minusless s.data.toList).isEmpty = false := by
    cases hq : minusless s.data.toList with
    | nil => rw [show (dgs s).size = (minusless s.data.toList).length from wd_size _, hq] at h1; simp at h1
    | cons _ _ => rfl
  rw [h5, show decide ((minusless s.data.toList).length ≤ 10) = true from decide_eq_true (by rw [← wd_size]; exact h2)]
  rcases h4 with h4 | h4
  · rw [show (some (dgs s)[0] == some 48) = false by simpa using h4]; rfl
  · rw [eqS_iffD] at h4
    subst h4; rfl
theorem num_atoi {s : ByteArray} (h : formN s.data.toList = true) : ∃ n, Lib.atoi s.data.toList = some n ∧ s.size ≤ 11 ∧ numB s = if inN n then some n else none := by
  have hf := h
  unfold formN at h
  simp only [Bool.and_eq_true, decide_eq_true_eq, Bool.not_eq_true'] at h
  obtain ⟨⟨⟨h1, h2⟩, h3⟩, h4⟩ := h
  have hsz : s.size = s.data.toList.length := Lib.size_eq s
  have key : ∃ n, Lib.atoi s.data.toList = some n ∧ s.data.toList.length ≤ 11 := by
    generalize s.data.toList = l at *
    cases l with
    | nil => simp [minusless, Lib.trimPrefix, Lib.hasPrefix] at h1
    | cons c r =>
      by_cases hc : c = 45
      · subst hc
        rw [minus_yes] at h1 h2 h3
        cases r with
        | nil => simp at h1
        | cons b r =>
          exact ⟨_, by simp only [Lib.atoi, Lib.decNat, List.isEmpty_cons, Bool.false_eq_true, if_false, beq_self_eq_true, if_true, dec_all _ _ h3, Option.map_some]; rfl, by simp at h2 ⊢; omega⟩
      · rw [minus_no c r hc] at h1 h2 h3
        have hc2 : c ≠ 43 := by intro e; subst e; simp [isDig] at h3
        have e1 : (c == 45) = false := by rw [beq_eq_false_iff_ne]; exact hc
        have e2 : (c == 43) = false := by rw [beq_eq_false_iff_ne]; exact hc2
        exact ⟨_, by simp only [Lib.atoi, e1, e2, Bool.false_eq_true, if_false, Lib.decNat, List.isEmpty_cons, dec_all _ _ h3, Option.map_some]; rfl, by simp at h2 ⊢; omega⟩
  obtain ⟨n, hn, hl⟩ := key
  refine ⟨n, hn, by omega, ?_⟩
  unfold numB numL
  rw [hf, if_pos rfl, hn]; rfl
def ToN (s : ByteArray) (w : World) (e : Ending) (w' : World) : Prop := Aft w w' ∧ ∃ n, e = .returned (.tuple #[.int .i64 n, .bool (numB s).isSome]) ∧ ∀ m, numB s = some m → n = m
theorem toN_none {s : ByteArray} {w w' : World} (n : Int) (h : numB s = none) (a : Aft w w') : ToN s w (.returned (.tuple #[.int .i64 n, .bool false])) w' := ⟨a, n, by rw [h]; rfl, fun m hm => by rw [h] at hm; cases hm⟩
set_option maxHeartbeats 1000000 in
theorem toNumber_any (s : ByteArray) (w : World) (hs : Small s.size) : Calls Tryz.prog 47 #[.string s] w (ToN s w) := by
  have KP := Lib.hid (show ∀ w : World, Calls Tryz.prog 78 #[.string s, .string ⟨#[45]⟩] w fun e w' => e = .returned (.string (dgs s)) ∧ w' = w from fun w => Tryz.strings_TrimPrefix s ⟨#[45]⟩ w)
  obtain ⟨d, hd⟩ : ∃ d, dgs s = d := ⟨_, rfl⟩
  have hdz : d.size ≤ maxLen := by
    have h1 : (minusless s.data.toList).length ≤ s.data.toList.length := by
      unfold minusless Lib.trimPrefix
      split
      · simp
      · exact Nat.le_refl _
    rw [← hd, show (dgs s).size = _ from wd_size _]
    have := Lib.size_eq s
    have := hs.max
    omega
  rw [hd] at KP
  have hdd : minusless s.data.toList = d.data.toList := by rw [← hd]; exact (wd_data _).symm
  have KT := Lib.hid (show ∀ w : World, Calls Tryz.prog 79 #[.string d, .string ⟨#[48, 49, 50, 51, 52, 53, 54, 55, 56, 57]⟩] w fun e w' => e = .returned (.string ⟨(Lib.trimS d.data.toList [48, 49, 50, 51, 52, 53, 54, 55, 56, 57]).toArray⟩) ∧ Aft w w' from
    fun w => (Tryz.strings_Trim d ⟨#[48, 49, 50, 51, 52, 53, 54, 55, 56, 57]⟩ w (by unfold maxLen at hdz; omega) (by decide) (ascii_of_all (by decide))))
  obtain ⟨q, hq⟩ : ∃ q : ByteArray, (⟨(Lib.trimS d.data.toList [48, 49, 50, 51, 52, 53, 54, 55, 56, 57]).toArray⟩ : ByteArray) = q := ⟨_, rfl⟩
  rw [hq] at KT
  have hqe : q.toList = [] ↔ (minusless s.data.toList).all isDig = true := by
    rw [ba_nil, hdd, ← trim_digits, ← hq]
  unfold maxLen at hdz
  have HD := Lib.hid hd
  by_cases h0 : d.size = 0
  · have H0 := Lib.hid (num_empty (s := s) (by rw [hd]; exact h0))
    have e1 : d.toList = [] := by rw [toList_nil_iff]; exact h0
    have e2 : d.toList.isEmpty = true := by rw [e1]; rfl
    clear hdd hqe hq hd KT h0
    go_enter Tryz.func47, Tryz.ntmps47
    go_wp2_with (first | (go_at_call 78; refine (KP.out _).mono ?_; rintro e w' ⟨rfl, rfl⟩))
    go_ret2
    exact toN_none 0 H0.out (Aft.refl _)
  · have hz : 0 < d.size := by omega
    have e1 : ¬ d.toList = [] := by rw [toList_nil_iff]; exact h0
    have e2 : d.toList.isEmpty = false := by
      cases hx : d.toList with
      | nil => exact absurd hx e1
      | cons _ _ => rfl
    by_cases h1 : 10 < d.size
    · have H0 := Lib.hid (num_long (s := s) (by rw [hd]; exact h1))
      clear hdd hqe hq hd KT h0
      go_enter Tryz.func47, Tryz.ntmps47
      go_wp2_with (first | (go_at_call 78; refine (KP.out _).mono ?_; rintro e w' ⟨rfl, rfl⟩))
      go_ret2
      exact toN_none 0 H0.out (Aft.refl _)
    · have h1' : ¬ (10 : Int) < (d.size : Int) := by omega
      have h1d : decide ((10 : Int) < (d.size : Int)) = false := decide_eq_false h1'
      cases hall : (minusless s.data.toList).all isDig
      · have H0 := Lib.hid (num_alien hall)
        have q1 : ¬ q.toList = [] := by rw [hqe, hall]; decide
        have q2 : q.toList.isEmpty = false := by
          cases hx : q.toList with
          | nil => exact absurd hx q1
          | cons _ _ => rfl
        clear hdd hqe hq hd h0 hall
        go_enter Tryz.func47, Tryz.ntmps47
        go_wp2_with (first | (go_at_call 78; refine (KP.out _).mono ?_; rintro e w' ⟨rfl, rfl⟩) | (go_at_call 79; refine (KT.out _).mono ?_; rintro e w1 ⟨rfl, a1⟩; have A1 := Lib.hid a1; clear a1))
        go_ret2
        exact toN_none 0 H0.out A1.out
      · have q1 : q.toList = [] := by rw [hqe, hall]
        have q2 : q.toList.isEmpty = true := by rw [q1]; rfl
        have hdl : 0 < (dgs s).size := by rw [hd]; exact hz
        by_cases h4 : d[0] = 48 ∧ eqS s ⟨#[48]⟩ = false
        · obtain ⟨h4, h5⟩ := h4
          have H0 := Lib.hid (num_zero (s := s) hdl (by subst hd; exact h4) h5)
          have h4' : (d[0].toNat : Int) = 48 := by rw [h4]; rfl
          have h5' : (s.toList == [48]) = false := by
            have e : (⟨#[48]⟩ : ByteArray).toList = [48] := by rw [ByteArray.toList_eq]
            unfold eqS at h5; rwa [e] at h5
          have h6 : ¬ s.toList = [48] := by simpa using h5'
          clear h5
          clear hdd hqe hq hd h0 hall hdl h4
          go_enter Tryz.func47, Tryz.ntmps47
          go_wp2_with (first | (go_at_call 78; refine (KP.out _).mono ?_; rintro e w' ⟨rfl, rfl⟩) | (go_at_call 79; refine (KT.out _).mono ?_; rintro e w1 ⟨rfl, a1⟩; have A1 := Lib.hid a1; clear a1))
          go_ret2
          exact toN_none 0 H0.out A1.out
        · have h7 : d[0] ≠ 48 ∨ eqS s ⟨#[48]⟩ = true := by
            by_cases hx : d[0] = 48
            · right
              cases hy : eqS s ⟨#[48]⟩ with
              | true => rfl
              | false => exact absurd ⟨hx, hy⟩ h4
            · exact .inl hx
          obtain ⟨n, hn, hsz, hr⟩ := num_atoi (num_form (s := s) hdl (by rw [hd]; omega) hall (by subst hd; exact h7))
          have KA := Lib.hid (show ∀ w : World, Calls Tryz.prog 80 #[.string s] w fun e w' => e = .returned (.tuple #[.int .i64 n, .nilIface]) ∧ Aft w w' from
            fun w => (Tryz.strconv_Atoi s n (by omega) hn w).mono fun e w' ⟨he, t, ht⟩ => ⟨he, by subst ht; exact aft_bytes w _ t⟩)
          have e48 : (⟨#[48]⟩ : ByteArray).toList = [48] := by rw [ByteArray.toList_eq]
          have HR := Lib.hid hr
          clear hr hn hsz hdd hqe hq hd h0 hall hdl h4
          have fin : ∀ w2, Aft w w2 → ToN s w (.returned (.tuple #[.int .i64 n, .bool (inN n)])) w2 := by
            intro w2 a2
            refine ⟨a2, n, ?_, ?_⟩
            · rw [HR.out]; cases inN n <;> rfl
            · intro m hm
              rw [HR.out] at hm
              split at hm
              · simpa using hm
              · cases hm
          have FIN := Lib.hid fin
          clear fin
          unfold inN at FIN
          rcases h7 with h7 | h7
          · have h8 : ¬ (d[0].toNat : Int) = 48 := by
              intro e; apply h7; rw [← UInt8.toNat_inj]; exact Int.ofNat.inj e
            have h8' : ((d[0].toNat : Int) == 48) = false := by rw [beq_eq_false_iff_ne]; exact h8
            clear h7
            by_cases g1 : -1000000000 ≤ n
            all_goals
              go_enter Tryz.func47, Tryz.ntmps47
              go_wp2_with (first | (go_at_call 78; refine (KP.out _).mono ?_; rintro e w' ⟨rfl, rfl⟩) | (go_at_call 79; refine (KT.out _).mono ?_; rintro e w1 ⟨rfl, a1⟩; have A1 := Lib.hid a1; clear a1) | (go_at_call 80; refine (KA.out _).mono ?_; rintro e w2 ⟨rfl, a2⟩; have A2 := Lib.hid (A1.out.trans a2); clear a2))
            · go_ret2
              have := FIN.out w2 A2.out
              rw [decide_eq_true g1, Bool.true_and] at this
              exact this
            · go_ret2
              have := FIN.out w2 A2.out
              rw [decide_eq_false (show ¬ (-1000000000 : Int) ≤ n by omega), Bool.false_and] at this
              exact this
          · have h7' : s = ⟨#[48]⟩ := (eqS_iffD _ _).1 h7
            have h9 : (s.toList == [48]) = true := by rw [h7', e48]; rfl
            have h10 : s.toList = [48] := by simpa using h9
            clear h7' h7
            by_cases h8 : (d[0].toNat : Int) = 48
            all_goals
              by_cases g1 : -1000000000 ≤ n
              all_goals
                go_enter Tryz.func47, Tryz.ntmps47
                go_wp2_with (first | (go_at_call 78; refine (KP.out _).mono ?_; rintro e w' ⟨rfl, rfl⟩) | (go_at_call 79; refine (KT.out _).mono ?_; rintro e w1 ⟨rfl, a1⟩; have A1 := Lib.hid a1; clear a1) | (go_at_call 80; refine (KA.out _).mono ?_; rintro e w2 ⟨rfl, a2⟩; have A2 := Lib.hid (A1.out.trans a2); clear a2))
                go_ret2
                have := FIN.out w2 A2.out
                first | rw [decide_eq_true g1, Bool.true_and] at this | rw [decide_eq_false (show ¬ (-1000000000 : Int) ≤ n by omega), Bool.false_and] at this
                exact this
theorem dplain_any (s : ByteArray) (w : World) (hs : Small s.size) : Calls Tryz.prog 86 #[.string s] w fun e w' => e = .returned (.bool (txtB s)) ∧ w = w' := by
  have hs' := hs.max
  unfold maxLen at hs'
  go_enter Tryz.func86, Tryz.ntmps86
  go_wp2_with fail
  go_loop [6] (fun i => ∃ k : Nat, k ≤ s.size ∧ i = .int .i64 k ∧ (s.data.toList.take k).all isPl = true) (fun i => s.size - (intOf i).toNat)
  case atStart => exact ⟨0, Nat.zero_le _, rfl, rfl⟩
  case round =>
    obtain ⟨k, hk, rfl, ha⟩ := hrel
    have HA := Lib.hid ha; clear ha
    by_cases hlt : k < s.size
    · go_wp2_with (go_at_call 114; refine (indexPl _ _).mono ?_; rintro e w' ⟨rfl, rfl⟩)
      · have hp : isPl s[k] = false := (plIdx_iff _).1 (by assumption)
        go_ret
        exact ⟨by unfold txtB; rw [pl_false s k hlt hp]; rfl, rfl⟩
      · have hp : isPl s[k] = true := by
          have h0 : 0 ≤ plIdx s[k] := by assumption
          have := plIdx_iff s[k]
          cases h : isPl s[k]
          · have := this.2 h; omega
          · rfl
        go_round
        case rel => exact ⟨k + 1, by omega, by go_num, by rw [pl_succ s k hlt, HA.out, hp]; rfl⟩
        case measure => simp [intOf]; omega
    · go_wp2_with fail
      go_ret
      refine ⟨?_, rfl⟩
      refine Eq.trans (b := .returned (.bool _)) rfl (ret_of (bool_of ?_))
      unfold txtB
      rw [pl_true s k hlt HA.out, Bool.true_and]
      by_cases h32 : s.size ≤ 32
      · rw [decide_eq_true h32]; exact decide_eq_true (by omega)
      · rw [decide_eq_false h32]; exact decide_eq_false (by omega)
theorem number_rd (b p : Nat) (W : Ws) (w : World) (h : WdS w b p W) : Calls Tryz.prog 28 #[.pointer (some ⟨b, 0, none⟩)] w (RdQ b p w (fun _ v x => v = .int .i64 x) (numP W)) := by
  cases W with
  | nil =>
    have HM := Lib.hid (word_no b p w h)
    clear h
    go_enter Tryz.func28, Tryz.ntmps28
    go_wp2_with (first | (go_at_call 27; refine HM.out.mono ?_; rintro e w' ⟨he, rfl⟩; unfold NoL at he; subst he))
    exact ⟨rfl, Kw.refl _ _, rfl⟩
  | cons s W =>
    have HM := Lib.hid (word_yes b p s W w h)
    have hs := h.small
    obtain ⟨q, hq⟩ : ∃ q, numB s = q := ⟨_, rfl⟩
    have HN := Lib.hid (show ∀ w1 : World, Calls Tryz.prog 47 #[.string s] w1 fun e w' => Aft w1 w' ∧ ∃ n, e = .returned (.tuple #[.int .i64 n, .bool q.isSome]) ∧ ∀ m, q = some m → n = m from fun w1 => by rw [← hq]; exact toNumber_any s w1 hs)
    have HQ := Lib.hid hq
    clear h hq hs
    cases q with
    | none =>
      go_enter Tryz.func28, Tryz.ntmps28
      go_wp2_with (first | (go_at_call 27; refine HM.out.mono ?_; rintro e w1 ⟨rfl, d1, k1⟩; have D1 := Lib.hid d1; have K1 := Lib.hid k1; clear d1 k1) | (go_at_call 47; refine (HN.out _).mono ?_; rintro e w2 ⟨a2, n, rfl, hn⟩; have A2 := Lib.hid a2; clear a2 hn) | (go_at_call 18; refine (dis_no _).mono ?_; rintro e w' ⟨he, rfl⟩; unfold NoL at he; subst he))
      refine ⟨rfl, K1.out.aft A2.out, ?_⟩
      have : numP (s :: W) = none := by simp [numP, oneP, HQ.out]
      rw [this]; rfl
    | some n =>
      go_enter Tryz.func28, Tryz.ntmps28
      go_wp2_with (first | (go_at_call 27; refine HM.out.mono ?_; rintro e w1 ⟨rfl, d1, k1⟩; have D1 := Lib.hid d1; have K1 := Lib.hid k1; clear d1 k1) | (go_at_call 47; refine (HN.out _).mono ?_; rintro e w2 ⟨a2, n', rfl, hn⟩; have A2 := Lib.hid a2; clear a2; obtain rfl := hn n rfl; clear hn) | (go_at_call 18; refine (dis_ok _).mono ?_; rintro e w' ⟨rfl, rfl⟩))
      go_ret
      have : numP (s :: W) = some (n', W) := by simp [numP, oneP, HQ.out]
      unfold RdQ
      rw [this]
      exact ⟨K1.out.aft A2.out, _, rfl, rfl, D1.out.aft A2.out⟩
def ColV (_ : World) (v : Value) (c : Col) : Prop := v = .agg #[.string c.name, .int .i64 c.kind, .bool c.null] ∧ Small c.name.size
def ValV (_ : World) (v : Value) (x : Val) : Prop := v = .agg #[.int .i64 x.kind, .int .i64 x.int, .string x.text] ∧ Small x.text.size
theorem trimSuf_le (l x : Bts) : (Lib.trimSuffix l x).length ≤ l.length := by
  unfold Lib.trimSuffix
  split
  · rw [List.length_take]; omega
  · exact Nat.le_refl _
theorem trimPre_le (l x : Bts) : (Lib.trimPrefix l x).length ≤ l.length := by
  unfold Lib.trimPrefix
  split
  · rw [List.length_drop]; omega
  · exact Nat.le_refl _
theorem nulless_le (s : ByteArray) : (nulless s).size ≤ s.size := by
  unfold nulless; rw [wd_size, Lib.size_eq]; exact trimSuf_le _ _
theorem quoless_le (s : ByteArray) : (quoless s).size ≤ s.size := by
  unfold quoless; rw [wd_size, Lib.size_eq]; exact trimPre_le _ _
theorem cutN_le (s : ByteArray) : (cutN s).size ≤ s.size := by
  unfold cutN; rw [wd_size, Lib.size_eq]; unfold Lib.cut
  split
  · simp only; rw [List.length_take]; omega
  · exact Nat.le_refl _
end Go.Proofs.YtbdanlipghhgpaaGreatDoor

