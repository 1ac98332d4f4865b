/- Contracts of the program, part 2. -/
import Derived.OwnWalk
import Derived.Laws.AppendOwn
import Derived.ProofKit
import Derived.OpenShut
import Derived.Deep.Slices
import Derived.ChangeOld
import Derived.SizedLaws
import Derived.WalkKit
import Derived.WalkSpells
import Derived.WalkLawsBesides
import Derived.Lib.Hide
import Derived.Deep.QuietTactic
import Derived.BigQuiet
import Derived.Below
import Derived.Deep.Draws
import Derived.StillTailTactics
import Derived.Laws.Cells
import Derived.Laws.IdiomCopy
import Derived.Test.YtlklmekapbojdaaGreatRows
import Derived.OneCell
import Derived.Deep.Upon
import Derived.Deep.AppendLies
import Derived.Maps.Own
import Derived.Maps.Views
import Derived.Test.YtlklmekapbojdaaGreatPartL1
namespace Go.Proofs.YtlklmekapbojdaaGreat
open Go.RowKit
set_option linter.unusedVariables false
theorem Aft.cell_kept {w w' : World} (h : Aft w w') {a : Addr} {v : Value} (hc : w.cell? a = some v) : w'.cell? a = some v := (Below.cell h (World.block_lt_of_cell? w a hc)).trans hc
/-- a block that may be written and that begins with these cells -/
def RowAt (w : World) (g : Nat) (xs : List Value) : Prop := g < w.heap.size ∧ (∀ j, j < xs.length → w.cell? ⟨g, j, none⟩ = xs[j]?) ∧ ∀ j, j < xs.length → w.frozen? ⟨g, j, none⟩ = false
theorem RowAt.aft {w w' : World} {g : Nat} {xs : List Value} (h : RowAt w g xs) (a : Aft w w') : RowAt w' g xs :=
  ⟨Nat.lt_of_lt_of_le h.1 a.size, fun j hj => (Below.cell a (p := ⟨g, j, none⟩) h.1).trans (h.2.1 j hj), fun j hj => (Below.frozen a (p := ⟨g, j, none⟩) h.1).trans (h.2.2 j hj)⟩
theorem RowAt.cell {w : World} {g : Nat} {xs : List Value} (h : RowAt w g xs) {j : Nat} {v : Value} (hj : xs[j]? = some v) : w.cell? ⟨g, j, none⟩ = some v :=
  (h.2.1 j (List.getElem?_eq_some_iff.1 hj).1).trans hj
theorem RowAt.set {w : World} {g : Nat} {xs : List Value} (h : RowAt w g xs) (j : Nat) (v : Value) (hj : j < xs.length) : RowAt (w.setCell ⟨g, j, none⟩ v) g (xs.set j v) := by
  have hc : w.cell? ⟨g, j, none⟩ = some xs[j] := (h.2.1 j hj).trans (List.getElem?_eq_getElem hj)
  refine ⟨by simpa using h.1, fun k hk => ?_, fun k hk => ?_⟩
  · rw [List.length_set] at hk
    by_cases e : k = j
    · subst e
      rw [World.cell?_setCell_same (h := hc), List.getElem?_set_self hj]
    · rw [World.cell?_setCell_other (h := by intro e2; injection e2 with _ e3 _; exact e e3.symm), List.getElem?_set_ne (fun e2 => e e2.symm)]
      exact h.2.1 k hk
  · rw [List.length_set] at hk
    rw [World.frozen?_setCell]; exact h.2.2 k hk
/-- a slice value that leads to such a row -/
def RowV (w : World) (base : Nat) (v : Value) (n : Nat) (xs : List Value) : Prop := ∃ A cap, v = .slice A n cap ∧ n ≤ cap ∧ (0 < n → ∃ g, A = some ⟨g, 0, none⟩ ∧ base ≤ g ∧ RowAt w g xs)
theorem RowV.aft {w w' : World} {base n : Nat} {v : Value} {xs : List Value} (h : RowV w base v n xs) (a : Aft w w') : RowV w' base v n xs := by
  obtain ⟨A, cap, e, hc, hg⟩ := h
  exact ⟨A, cap, e, hc, fun h0 => by obtain ⟨g, hA, hb, hr⟩ := hg h0; exact ⟨g, hA, hb, hr.aft a⟩⟩
theorem own_rowV {w : World} {base size n : Nat} {e : TypeId} {v : Value} {xs : List Value} (h : w.ownsRow base e size v n xs) : RowV w base v n xs := by
  rcases h.2 with ⟨rfl, hn⟩ | ⟨g, cap, cur, rfl, hb, hgg, hnc, _, hcs, htk⟩
  · exact ⟨none, 0, by rw [hn], by omega, fun h0 => by omega⟩
  · refine ⟨_, cap, rfl, hnc, fun _ => ⟨g, rfl, hb, (Array.getElem?_eq_some_iff.1 hgg).1, fun j hj => ?_, fun j _ => ?_⟩⟩
    · rw [h.1] at hj
      rw [← htk, List.getElem?_take_of_lt hj]
      simp [World.cell?, hgg]
    · simp [World.frozen?, hgg]

section
variable {α : Type} {size : Nat} {R : World → List Value → α → Prop} {w w' : World}
theorem flat_len : ∀ (css : List (List Value)), (∀ c ∈ css, c.length = size) → css.flatten.length = css.length * size
  | [], _ => by simp
  | c :: css, h => by
    rw [List.flatten_cons, List.length_append, h c (by simp), flat_len css fun x hx => h x (by simp [hx]), List.length_cons, Nat.succ_mul]; omega
theorem flat_get : ∀ (css : List (List Value)), (∀ c ∈ css, c.length = size) → ∀ i j (hi : i < css.length), j < size → css.flatten[i * size + j]? = css[i][j]?
  | [], _, i, j, hi, _ => by simp at hi
  | c :: css, h, 0, j, _, hj => by
    rw [List.flatten_cons, Nat.zero_mul, Nat.zero_add, List.getElem?_append_left (by rw [h c (by simp)]; exact hj)]; rfl
  | c :: css, h, i + 1, j, hi, hj => by
    have e : (i + 1) * size + j = size + (i * size + j) := by rw [Nat.succ_mul]; omega
    rw [List.flatten_cons, e, List.getElem?_append_right (by rw [h c (by simp)]; omega), h c (by simp), Nat.add_sub_cancel_left]
    exact flat_get css (fun x hx => h x (by simp [hx])) i j (by simpa using hi) hj
theorem flat_set : ∀ (css : List (List Value)), (∀ c ∈ css, c.length = size) → ∀ i j (hi : i < css.length) (v : Value), j < size → css.flatten.set (i * size + j) v = (css.set i (css[i].set j v)).flatten
  | [], _, i, j, hi, _, _ => by simp at hi
  | c :: css, h, 0, j, _, v, hj => by
    rw [List.flatten_cons, Nat.zero_mul, Nat.zero_add, List.set_append_left _ _ (by rw [h c (by simp)]; exact hj)]; rfl
  | c :: css, h, i + 1, j, hi, v, hj => by
    have e : (i + 1) * size + j = size + (i * size + j) := by rw [Nat.succ_mul]; omega
    rw [List.flatten_cons, e, List.set_append_right _ _ (by rw [h c (by simp)]; omega), h c (by simp), Nat.add_sub_cancel_left, flat_set css (fun x hx => h x (by simp [hx])) i j (by simpa using hi) v hj]
    rfl
/-- the cells of each element -/
def Chunks (w : World) (size : Nat) (R : World → List Value → α → Prop) (css : List (List Value)) (l : List α) : Prop := css.length = l.length ∧ ∀ i (h : i < css.length) (h' : i < l.length), css[i].length = size ∧ R w css[i] l[i]
theorem Chunks.all {css : List (List Value)} {l : List α} (h : Chunks w size R css l) : ∀ c ∈ css, c.length = size := by
  intro c hc
  obtain ⟨i, hi, rfl⟩ := List.getElem_of_mem hc
  exact (h.2 i hi (by rw [← h.1]; exact hi)).1
theorem Chunks.len {css : List (List Value)} {l : List α} (h : Chunks w size R css l) : css.flatten.length = l.length * size := by rw [flat_len css h.all, h.1]
theorem Chunks.aft {css : List (List Value)} {l : List α} (h : Chunks w size R css l) (hR : ∀ cs x, R w cs x → R w' cs x) : Chunks w' size R css l := ⟨h.1, fun i h1 h2 => ⟨(h.2 i h1 h2).1, hR _ _ (h.2 i h1 h2).2⟩⟩
theorem Chunks.nil : Chunks w size R [] ([] : List α) := ⟨rfl, fun i h => by simp at h⟩
theorem Chunks.snoc {css : List (List Value)} {l : List α} (h : Chunks w size R css l) {c : List Value} {x : α} (hl : c.length = size) (hR : R w c x) : Chunks w size R (css ++ [c]) (l ++ [x]) := by
  refine ⟨by simp [h.1], fun i h1 h2 => ?_⟩
  by_cases hi : i < css.length
  · rw [List.getElem_append_left hi, List.getElem_append_left (by rw [← h.1]; exact hi)]
    exact h.2 i hi (by rw [← h.1]; exact hi)
  · have e : i = css.length := by simp at h1; omega
    subst e
    have e2 : l.length = css.length := h.1.symm
    simp only [List.getElem_append_right (Nat.le_refl _), Nat.sub_self, List.getElem_cons_zero]
    rw [List.getElem_append_right (by omega)]
    simp only [e2, Nat.sub_self, List.getElem_cons_zero]
    exact ⟨hl, hR⟩
theorem Chunks.set {css : List (List Value)} {l : List α} (h : Chunks w size R css l) {k : Nat} {c : List Value} {x : α} (hl : c.length = size) (hR : R w c x) : Chunks w size R (css.set k c) (l.set k x) := by
  refine ⟨by simp [h.1], fun i h1 h2 => ?_⟩
  simp only [List.length_set] at h1 h2
  by_cases e : k = i
  · subst e
    simp only [List.getElem_set_self]
    exact ⟨hl, hR⟩
  · rw [List.getElem_set_ne e, List.getElem_set_ne e]
    exact h.2 i h1 h2
theorem SlAt.css {A : Option Addr} {cap : Nat} {l : List α} (h : SlAt w size R A cap l) (h0 : 0 < l.length) (hs : 0 < size) :
    ∃ b off css, A = some ⟨b, off, none⟩ ∧ b < w.heap.size ∧ Chunks w size R css l ∧ ∀ p, p < l.length * size → w.cell? ⟨b, off + p, none⟩ = css.flatten[p]? := by
  obtain ⟨b, off, cs0, hA, hb, _⟩ := h.2.2 0 h0
  have hex : ∀ i, i < l.length → ∃ cs : List Value, ∀ hi : i < l.length, cs.length = size ∧ R w cs l[i] ∧ ∀ j, j < size → w.cell? ⟨b, off + (i * size + j), none⟩ = cs[j]? := by
    intro i hi
    obtain ⟨b', off', cs, hA', hb', hl, hR, hc⟩ := h.2.2 i hi
    rw [hA] at hA'
    simp only [Option.some.injEq, Addr.mk.injEq, and_true] at hA'
    obtain ⟨rfl, rfl⟩ := hA'
    exact ⟨cs, fun _ => ⟨hl, hR, hc⟩⟩
  obtain ⟨css, hcl, hp⟩ := choose_list l.length _ hex
  have hch : Chunks w size R css l := ⟨hcl, fun i h1 h2 => ⟨(hp i h1 h2).1, (hp i h1 h2).2.1⟩⟩
  refine ⟨b, off, css, hA, hb, hch, fun p hpl => ?_⟩
  have e : p = p / size * size + p % size := by rw [Nat.mul_comm]; exact (Nat.div_add_mod p size).symm
  have hi : p / size < l.length := Nat.div_lt_of_lt_mul (by rw [Nat.mul_comm]; exact hpl)
  have hj : p % size < size := Nat.mod_lt _ hs
  have h1 := (hp (p / size) (by rw [hcl]; exact hi) hi).2.2 (p % size) hj
  rw [← e] at h1
  rw [h1, ← flat_get css hch.all (p / size) (p % size) (by rw [hcl]; exact hi) hj, ← e]
theorem row_slAt {g cap : Nat} {css : List (List Value)} {l : List α} (hr : RowAt w g css.flatten) (hc : Chunks w size R css l) (hcap : l.length ≤ cap) (hs : Small (l.length * 16)) : SlAt w size R (some ⟨g, 0, none⟩) cap l := by
  refine ⟨hcap, hs, fun i hi => ?_⟩
  have hi' : i < css.length := by rw [hc.1]; exact hi
  refine ⟨g, 0, css[i], rfl, hr.1, (hc.2 i hi' hi).1, (hc.2 i hi' hi).2, fun j hj => ?_⟩
  rw [Nat.zero_add, ← flat_get css hc.all i j hi' hj]
  refine hr.2.1 _ ?_
  rw [hc.len]
  have : (i + 1) * size ≤ l.length * size := Nat.mul_le_mul_right _ hi
  rw [Nat.succ_mul] at this; omega
theorem rowV_slAt {base : Nat} {v : Value} {css : List (List Value)} {l : List α} (h : RowV w base v l.length css.flatten) (hc : Chunks w size R css l) (hs : Small (l.length * 16)) : ∃ A cap, v = .slice A l.length cap ∧ SlAt w size R A cap l := by
  obtain ⟨A, cap, e, hcap, hg⟩ := h
  by_cases h0 : 0 < l.length
  · obtain ⟨g, rfl, _, hr⟩ := hg h0
    exact ⟨_, cap, e, row_slAt hr hc hcap hs⟩
  · have : l = [] := List.eq_nil_of_length_eq_zero (by omega)
    subst this
    exact ⟨A, cap, e, hcap, hs, fun i hi => by simp at hi⟩
/-- one cell of one element is written -/
theorem RowAt.put {g : Nat} {css : List (List Value)} (hr : RowAt w g css.flatten) (hl : ∀ c ∈ css, c.length = size) (i j : Nat) (hi : i < css.length) (hj : j < size) (v : Value) : RowAt (w.setCell ⟨g, i * size + j, none⟩ v) g (css.set i (css[i].set j v)).flatten := by
  rw [← flat_set css hl i j hi v hj]
  refine hr.set _ v ?_
  rw [flat_len css hl]
  have : (i + 1) * size ≤ css.length * size := Nat.mul_le_mul_right _ hi
  rw [Nat.succ_mul] at this; omega
end
end Go.Proofs.YtlklmekapbojdaaGreat

namespace Go.Proofs.YtlklmekapbojdaaGreat
open Go.RowKit
set_option maxRecDepth 100000
set_option linter.unusedVariables false
/-- what Clone gives: a row of its own, with the same cells -/
def CloneQ {α : Type} (ty : TypeId) (size : Nat) (R : World → List Value → α → Prop) (w0 w : World) (l : List α) (e : Ending) (w' : World) : Prop :=
  ∃ v css, e = .returned v ∧ Aft w w' ∧ w'.ownsRow w.heap.size ty size v l.length css.flatten ∧ Chunks w0 size R css l
theorem info2Str : (Tryz.prog.info? 9).map (fun i => (i.zero, i.size, i.bytes)) = some (some (.string ByteArray.empty), 1, 16) := by kernel_rfl
set_option maxHeartbeats 2000000 in
theorem clone2Str (A : Option Addr) (cap : Nat) (l : List ByteArray) (w0 w : World) (ha : Aft w0 w) (h : SlAt w0 1 StrR A cap l) (hb : l.length ≤ 1000000) :
    Calls Tryz.prog 143 #[.slice A l.length cap] w (CloneQ 9 1 StrR w0 w l) := by
  obtain ⟨i0, hi, hz0, hz1, hz2⟩ := info_parts info2Str
  have q22 : ∀ (w : World) (a : Option Addr) (n c n' c' : Nat), (binOp .eql 60 (.slice a n c) (.slice none n' c')).run Tryz.prog w = .ok (.bool a.isNone) w := fun w a n c n' c' => Lib.run_eql_slice_nil w _ _ a n c n' c' Tryz.underlying60
  cases A with
  | none =>
    have hl0 : l = [] := by
      cases l with
      | nil => rfl
      | cons x l => obtain ⟨b, off, cs, hA, _⟩ := h.2.2 0 (by simp); cases hA
    subst hl0
    go_enter Tryz.func143, Tryz.ntmps143
    go_wp2_with fail
    go_ret
    exact ⟨_, [], rfl, Aft.refl _, own_nil _ _ _ _, Chunks.nil⟩
  | some ad =>
    have HC : ∃ css, Chunks w0 1 StrR css l ∧ ∀ p u, css.flatten[p]? = some u → w.cell? (ad.add p) = some u := by
      by_cases h0 : 0 < l.length
      · obtain ⟨b, off, css, hA, hb', hch, hc⟩ := h.css h0 (by decide)
        simp only [Option.some.injEq] at hA
        subst hA
        refine ⟨css, hch, fun p u hp => ?_⟩
        have hlt : p < l.length * 1 := by rw [← hch.len]; exact (List.getElem?_eq_some_iff.1 hp).1
        rw [add_mk]; exact ha.cell_kept ((hc p hlt).trans hp)
      · have hl0 : l = [] := List.eq_nil_of_length_eq_zero (by omega)
        subst hl0
        exact ⟨[], Chunks.nil, fun p u hp => by simp at hp⟩
    obtain ⟨css, hch, hcell⟩ := HC
    have H1 := Lib.hid hcell
    have H2 : Hid (∀ u ∈ css.flatten, u.oneCell' = true) := Lib.hid (by
      intro u hu
      obtain ⟨c, hc, hu⟩ := List.mem_flatten.1 hu
      obtain ⟨i, hi, rfl⟩ := List.getElem_of_mem hc
      have h3 := (hch.2 i hi (by rw [← hch.1]; exact hi)).2
      obtain ⟨hcs, _⟩ := h3
      rw [hcs] at hu
      simp only [List.mem_cons, List.not_mem_nil, or_false] at hu
      rcases hu with rfl <;> simp [Value.oneCell'])
    have H3 := Lib.hid hch
    have HI := Lib.hid hi
    have HZ0 := Lib.hid hz0
    have HZ1 := Lib.hid hz1
    have HZ2 := Lib.hid hz2
    clear hcell hch hi hz0 hz1 hz2 h ha
    go_enter Tryz.func143, Tryz.ntmps143
    go_wp2_with (at_builtin; refine wpList_append_own _ rfl _ _ 60 rfl w.heap.size 9 i0 (.string ByteArray.empty) 1 16 Tryz.underlying60 HI.out HZ0.out HZ1.out HZ2.out rfl (by decide) _ _ _ rfl (World.ownsRow_made w #[] 0 (Nat.le_refl _) (Nat.zero_le _) rfl) ad l.length cap css.flatten rfl ?qc1 ?qc2 ?qc3 ?qc4 ?qc5 ?qc6 ?_)
    case qc1 => exact H3.out.len
    case qc2 =>
      intro j u hj
      exact Lib.cell?_alloc_some _ (H1.out j u hj)
    case qc3 => exact H2.out
    case qc4 => unfold maxLen; omega
    case qc5 => omega
    case qc6 => simp
    intro v' w1 hown hgrow hnil
    have HO := Lib.hid hown
    have HA := Lib.hid (show Aft w w1 from ((Below.refl _ w).alloc (Nat.le_refl _) _).grown hgrow (by simp) (by intro k hk; simp [Value.ownBlock] at hk; omega))
    clear hown hgrow hnil
    go_wp2_with fail
    go_ret
    refine ⟨v', css, rfl, HA.out, ?_, H3.out⟩
    simpa using HO.out
end Go.Proofs.YtlklmekapbojdaaGreat

namespace Go.Proofs.YtlklmekapbojdaaGreat
open Go.RowKit
set_option linter.unusedVariables false
/-- all but the blocks from B up to B' is as it was -/
structure Kp (B B' : Nat) (w w' : World) : Prop where
  os : w'.os = w.os
  tape : w'.tape = w.tape
  output : w'.output = w.output
  size : w.heap.size ≤ w'.heap.size
  block : ∀ k, k < w.heap.size → (k < B ∨ B' ≤ k) → w'.heap[k]? = w.heap[k]?
theorem Kp.refl (B B' : Nat) (w : World) : Kp B B' w w := ⟨rfl, rfl, rfl, Nat.le_refl _, fun _ _ _ => rfl⟩
theorem Kp.aft {B B' : Nat} {w w' w'' : World} (h : Kp B B' w w') (a : Aft w' w'') : Kp B B' w w'' :=
  ⟨a.os.trans h.os, a.tape.trans h.tape, a.output.trans h.output, Nat.le_trans h.size a.size, fun k hk hb => (a.block k (Nat.lt_of_lt_of_le hk h.size)).trans (h.block k hk hb)⟩
theorem Kp.trans {B B' : Nat} {w w' w'' : World} (h : Kp B B' w w') (a : Kp B B' w' w'') : Kp B B' w w'' :=
  ⟨a.os.trans h.os, a.tape.trans h.tape, a.output.trans h.output, Nat.le_trans h.size a.size, fun k hk hb => (a.block k (Nat.lt_of_lt_of_le hk h.size) hb).trans (h.block k hk hb)⟩
theorem Kp.of_aft {B B' : Nat} {w w' : World} (a : Aft w w') : Kp B B' w w' := (Kp.refl B B' w).aft a
theorem Kp.set {B B' : Nat} {w w' : World} (h : Kp B B' w w') (p : Addr) (v : Value) (h1 : B ≤ p.block) (h2 : p.block < B') : Kp B B' w (w'.setCell p v) :=
  ⟨h.os, h.tape, h.output, by simpa using h.size, fun k hk hb => by rw [Below.heap_setCell _ _ _ _ (by omega)]; exact h.block k hk hb⟩
theorem Kp.cell {B B' : Nat} {w w' : World} (h : Kp B B' w w') {p : Addr} {v : Value} (hc : w.cell? p = some v) (hb : p.block < B ∨ B' ≤ p.block) : w'.cell? p = some v := by
  have := h.block p.block (World.block_lt_of_cell? w p hc) hb
  unfold World.cell? at hc ⊢
  rw [this]; exact hc
theorem Kp.to_aft {B B' : Nat} {W0 w w' : World} (h : Kp B B' w w') (a : Aft W0 w) (hB : W0.heap.size ≤ B) : Aft W0 w' :=
  ⟨h.os.trans a.os, h.tape.trans a.tape, h.output.trans a.output, Nat.le_trans a.size h.size, fun k hk => (h.block k (Nat.lt_of_lt_of_le hk a.size) (.inl (Nat.lt_of_lt_of_le hk hB))).trans (a.block k hk)⟩
/-- a block of a kind, that may be written -/
def Blk (w : World) (B B' g : Nat) (e : TypeId) (n : Nat) : Prop := B ≤ g ∧ g < B' ∧ ∃ cur, w.heap[g]? = some (.cells cur e (0, 0)) ∧ n ≤ cur.size
theorem Blk.lt {w : World} {B B' g n : Nat} {e : TypeId} (h : Blk w B B' g e n) : g < w.heap.size := by
  obtain ⟨_, _, cur, hg, _⟩ := h; exact lt_of_block hg
theorem Blk.cell {w : World} {B B' g n : Nat} {e : TypeId} (h : Blk w B B' g e n) {j : Nat} (hj : j < n) : ∃ v, w.cell? ⟨g, j, none⟩ = some v := by
  obtain ⟨_, _, cur, hg, hn⟩ := h
  exact ⟨cur[j]'(by omega), by simp [World.cell?, hg]⟩
theorem Blk.free {w : World} {B B' g n : Nat} {e : TypeId} (h : Blk w B B' g e n) (j : Nat) : w.frozen? ⟨g, j, none⟩ = false := by
  obtain ⟨_, _, cur, hg, hn⟩ := h
  simp [World.frozen?, hg]
theorem Blk.aft {w w' : World} {B B' g n : Nat} {e : TypeId} (h : Blk w B B' g e n) (a : Aft w w') : Blk w' B B' g e n := by
  have hl := h.lt
  obtain ⟨h1, h2, cur, hg, hn⟩ := h
  exact ⟨h1, h2, cur, (a.block g hl).trans hg, hn⟩
theorem Blk.set {w : World} {B B' g n : Nat} {e : TypeId} (h : Blk w B B' g e n) (g0 j0 : Nat) (v : Value) : Blk (w.setCell ⟨g0, j0, none⟩ v) B B' g e n := by
  have hl := h.lt
  obtain ⟨h1, h2, cur, hg, hn⟩ := h
  by_cases hgg : g0 = g
  · subst hgg
    refine ⟨h1, h2, cur.setIfInBounds j0 v, ?_, by simpa using hn⟩
    have h' : w.heap[g0] = .cells cur e (0, 0) := by simpa [Array.getElem?_eq_getElem hl] using hg
    show (w.heap.modify g0 _)[g0]? = _
    rw [Array.getElem?_eq_getElem (by simpa using hl), Array.getElem_modify_self, h']
    simp
  · exact ⟨h1, h2, cur, by rw [Below.heap_setCell _ _ _ _ (by simpa using fun e => hgg e.symm)]; exact hg, hn⟩
/-- a slice's head -/
structure Hd where
  a : Option Addr
  n : Nat
  c : Nat
def Hd.v (h : Hd) : Value := .slice h.a h.n h.c
structure Lay where
  col : Nat → Hd
  rul : Nat → Hd
  nam : Nat → Nat → Hd
def ShV (w : World) (B B' : Nat) (e : TypeId) (size : Nat) (h : Hd) : Prop := h.n * 16 ≤ 140737488351232 ∧ (0 < h.n → ∃ g, h.a = some ⟨g, 0, none⟩ ∧ Blk w B B' g e (h.n * size))
theorem ShV.aft {w w' : World} {B B' size : Nat} {e : TypeId} {h : Hd} (s : ShV w B B' e size h) (a : Aft w w') : ShV w' B B' e size h :=
  ⟨s.1, fun h0 => by obtain ⟨g, hg, hb⟩ := s.2 h0; exact ⟨g, hg, hb.aft a⟩⟩
theorem ShV.set {w : World} {B B' size : Nat} {e : TypeId} {h : Hd} (s : ShV w B B' e size h) (g0 j0 : Nat) (v : Value) : ShV (w.setCell ⟨g0, j0, none⟩ v) B B' e size h :=
  ⟨s.1, fun h0 => by obtain ⟨g, hg, hb⟩ := s.2 h0; exact ⟨g, hg, hb.set g0 j0 v⟩⟩
/-- rules of our own: each has its names -/
def ShR (w : World) (B B' : Nat) (h : Hd) (nam : Nat → Hd) : Prop := h.n * 16 ≤ 140737488351232 ∧ (0 < h.n → ∃ g, h.a = some ⟨g, 0, none⟩ ∧ Blk w B B' g 121 (h.n * 8) ∧ ∀ j, j < h.n → w.cell? ⟨g, j * 8 + 2, none⟩ = some (nam j).v) ∧ ∀ j, j < h.n → ShV w B B' 9 1 (nam j)
/-- tables of our own -/
def ShT (w : World) (B B' : Nat) (h : Hd) (L : Lay) : Prop := h.n * 16 ≤ 140737488351232 ∧ (0 < h.n → ∃ g, h.a = some ⟨g, 0, none⟩ ∧ Blk w B B' g 89 (h.n * 5) ∧ ∀ i, i < h.n → w.cell? ⟨g, i * 5 + 3, none⟩ = some (L.col i).v ∧ w.cell? ⟨g, i * 5 + 4, none⟩ = some (L.rul i).v) ∧
  ∀ i, i < h.n → ShV w B B' 106 3 (L.col i) ∧ ShR w B B' (L.rul i) (L.nam i)
/-- a store that leaves the heads alone -/
def OkW (w : World) (g0 j0 : Nat) : Prop := ∃ cur e0 f, w.heap[g0]? = some (.cells cur e0 f) ∧ (e0 = 121 → j0 % 8 ≠ 2) ∧ (e0 = 89 → j0 % 5 ≠ 3 ∧ j0 % 5 ≠ 4)
theorem cell_far {w : World} {g j g0 j0 : Nat} {v u : Value} (hc : w.cell? ⟨g, j, none⟩ = some u) (hne : ¬ (g0 = g ∧ j0 = j)) : (w.setCell ⟨g0, j0, none⟩ v).cell? ⟨g, j, none⟩ = some u := by
  refine (World.cell?_setCell_other _ _ _ _ ?_).trans hc
  intro e; injection e with e1 e2 _; exact hne ⟨e1, e2⟩
theorem ok_rule {w : World} {g0 j0 g n B B' i : Nat} (ok : OkW w g0 j0) (b : Blk w B B' g 121 n) : ¬ (g0 = g ∧ j0 = i * 8 + 2) := by
  rintro ⟨rfl, rfl⟩
  obtain ⟨cur, e0, f, hg, h1, _⟩ := ok
  obtain ⟨_, _, cur', hg', _⟩ := b
  rw [hg] at hg'
  simp only [Option.some.injEq, Obj.cells.injEq] at hg'
  exact h1 hg'.2.1 (by omega)
theorem ok_tab {w : World} {g0 j0 g n B B' i : Nat} (ok : OkW w g0 j0) (b : Blk w B B' g 89 n) : ¬ (g0 = g ∧ j0 = i * 5 + 3) ∧ ¬ (g0 = g ∧ j0 = i * 5 + 4) := by
  obtain ⟨cur, e0, f, hg, _, h1⟩ := ok
  obtain ⟨_, _, cur', hg', _⟩ := b
  constructor
  · rintro ⟨rfl, rfl⟩
    rw [hg] at hg'
    simp only [Option.some.injEq, Obj.cells.injEq] at hg'
    exact (h1 hg'.2.1).1 (by omega)
  · rintro ⟨rfl, rfl⟩
    rw [hg] at hg'
    simp only [Option.some.injEq, Obj.cells.injEq] at hg'
    exact (h1 hg'.2.1).2 (by omega)
theorem ShR.set {w : World} {B B' : Nat} {h : Hd} {nam : Nat → Hd} (s : ShR w B B' h nam) {g0 j0 : Nat} (ok : OkW w g0 j0) (v : Value) : ShR (w.setCell ⟨g0, j0, none⟩ v) B B' h nam :=
  ⟨s.1, fun h0 => by obtain ⟨g, hg, hb, hc⟩ := s.2.1 h0; exact ⟨g, hg, hb.set g0 j0 v, fun j hj => cell_far (hc j hj) (ok_rule ok hb)⟩, fun j hj => (s.2.2 j hj).set g0 j0 v⟩
theorem ShT.set {w : World} {B B' : Nat} {h : Hd} {L : Lay} (s : ShT w B B' h L) {g0 j0 : Nat} (ok : OkW w g0 j0) (v : Value) : ShT (w.setCell ⟨g0, j0, none⟩ v) B B' h L :=
  ⟨s.1, fun h0 => by obtain ⟨g, hg, hb, hc⟩ := s.2.1 h0; exact ⟨g, hg, hb.set g0 j0 v, fun i hi => ⟨cell_far (hc i hi).1 (ok_tab ok hb).1, cell_far (hc i hi).2 (ok_tab ok hb).2⟩⟩, fun i hi => ⟨(s.2.2 i hi).1.set g0 j0 v, (s.2.2 i hi).2.set ok v⟩⟩
theorem ShR.aft {w w' : World} {B B' : Nat} {h : Hd} {nam : Nat → Hd} (s : ShR w B B' h nam) (a : Aft w w') : ShR w' B B' h nam :=
  ⟨s.1, fun h0 => by obtain ⟨g, hg, hb, hc⟩ := s.2.1 h0; exact ⟨g, hg, hb.aft a, fun j hj => a.cell_kept (hc j hj)⟩, fun j hj => (s.2.2 j hj).aft a⟩
theorem ShT.aft {w w' : World} {B B' : Nat} {h : Hd} {L : Lay} (s : ShT w B B' h L) (a : Aft w w') : ShT w' B B' h L :=
  ⟨s.1, fun h0 => by obtain ⟨g, hg, hb, hc⟩ := s.2.1 h0; exact ⟨g, hg, hb.aft a, fun i hi => ⟨a.cell_kept (hc i hi).1, a.cell_kept (hc i hi).2⟩⟩, fun i hi => ⟨(s.2.2 i hi).1.aft a, (s.2.2 i hi).2.aft a⟩⟩
theorem Blk.ok {w : World} {B B' g n : Nat} {e : TypeId} (h : Blk w B B' g e n) (j : Nat) (h1 : e = 121 → j % 8 ≠ 2) (h2 : e = 89 → j % 5 ≠ 3 ∧ j % 5 ≠ 4) : OkW w g j := by
  obtain ⟨_, _, cur, hg, _⟩ := h
  exact ⟨cur, e, (0, 0), hg, h1, h2⟩
/-- objects of our own -/
structure Sh (w : World) (B B' : Nat) (hs ht : Hd) (L : Lay) : Prop where
  sch : ShV w B B' 101 2 hs
  tab : ShT w B B' ht L
theorem Sh.set {w : World} {B B' : Nat} {hs ht : Hd} {L : Lay} (s : Sh w B B' hs ht L) {g0 j0 : Nat} (ok : OkW w g0 j0) (v : Value) : Sh (w.setCell ⟨g0, j0, none⟩ v) B B' hs ht L := ⟨s.sch.set g0 j0 v, s.tab.set ok v⟩
theorem Sh.aft {w w' : World} {B B' : Nat} {hs ht : Hd} {L : Lay} (s : Sh w B B' hs ht L) (a : Aft w w') : Sh w' B B' hs ht L := ⟨s.sch.aft a, s.tab.aft a⟩
end Go.Proofs.YtlklmekapbojdaaGreat

namespace Go.Proofs.YtlklmekapbojdaaGreat
open Go.RowKit Go.Deep
set_option linter.unusedVariables false
def Hd.blk (h : Hd) : List Nat := match h.a with | some p => [p.block] | none => []
theorem Hd.mem_blk {h : Hd} {g : Nat} : g ∈ h.blk ↔ h.v.ownBlock = some g := by
  obtain ⟨a, n, c⟩ := h
  cases a <;> simp [Hd.blk, Hd.v, Value.ownBlock, eq_comm]
/-- all but the blocks that P names is as it was -/
structure Kb (P : Nat → Prop) (w w' : World) : Prop where
  os : w'.os = w.os
  tape : w'.tape = w.tape
  output : w'.output = w.output
  size : w.heap.size ≤ w'.heap.size
  block : ∀ k, k < w.heap.size → ¬ P k → w'.heap[k]? = w.heap[k]?
theorem Kb.refl (P : Nat → Prop) (w : World) : Kb P w w := ⟨rfl, rfl, rfl, Nat.le_refl _, fun _ _ _ => rfl⟩
theorem Kb.of_aft {P : Nat → Prop} {w w' : World} (a : Aft w w') : Kb P w w' := ⟨a.os, a.tape, a.output, a.size, fun k hk _ => a.block k hk⟩
theorem Kb.of_grown {w w' : World} {row : Option Nat} (h : w.grownBy w' row) : Kb (fun k => row = some k) w w' := ⟨h.os, h.tape, h.output, h.size, fun k hk hn => h.block k hk fun e => hn e.symm⟩
theorem Kb.mono {P Q : Nat → Prop} {w w' : World} (h : Kb P w w') (hq : ∀ k, k < w.heap.size → P k → Q k) : Kb Q w w' := ⟨h.os, h.tape, h.output, h.size, fun k hk hn => h.block k hk fun hp => hn (hq k hk hp)⟩
theorem Kb.trans {P : Nat → Prop} {w w' w'' : World} (h : Kb P w w') (h' : Kb P w' w'') : Kb P w w'' :=
  ⟨h'.os.trans h.os, h'.tape.trans h.tape, h'.output.trans h.output, Nat.le_trans h.size h'.size, fun k hk hn => (h'.block k (Nat.lt_of_lt_of_le hk h.size) hn).trans (h.block k hk hn)⟩
theorem Kb.set (w : World) (g j : Nat) (v : Value) : Kb (fun k => k = g) w (w.setCell ⟨g, j, none⟩ v) :=
  ⟨rfl, rfl, rfl, by simp, fun k hk hn => Below.heap_setCell _ _ _ _ hn⟩
theorem Kb.to_aft {P : Nat → Prop} {W w w' : World} (h : Kb P w w') (a : Aft W w) (hP : ∀ k, k < W.heap.size → ¬ P k) : Aft W w' :=
  ⟨h.os.trans a.os, h.tape.trans a.tape, h.output.trans a.output, Nat.le_trans a.size h.size, fun k hk => (h.block k (Nat.lt_of_lt_of_le hk a.size) (hP k hk)).trans (a.block k hk)⟩
theorem Kb.cell {P : Nat → Prop} {w w' : World} (h : Kb P w w') {p : Addr} {v : Value} (hc : w.cell? p = some v) (hb : ¬ P p.block) : w'.cell? p = some v := by
  have := h.block p.block (World.block_lt_of_cell? w p hc) hb
  unfold World.cell? at hc ⊢
  rw [this]; exact hc
theorem Kb.row {P : Nat → Prop} {w w' : World} (h : Kb P w w') {g : Nat} {xs : List Value} (hr : RowAt w g xs) (hb : ¬ P g) : RowAt w' g xs := by
  have := h.block g hr.1 hb
  refine ⟨Nat.lt_of_lt_of_le hr.1 h.size, fun j hj => ?_, fun j hj => ?_⟩
  · rw [← hr.2.1 j hj]; simp [World.cell?, this]
  · rw [← hr.2.2 j hj]; simp [World.frozen?, this]
theorem own_kb {P : Nat → Prop} {w w' : World} {B size n : Nat} {e : TypeId} {v : Value} {xs : List Value} (h : w.ownsRow B e size v n xs) (k : Kb P w w') (hne : ∀ g, v.ownBlock = some g → ¬ P g) : w'.ownsRow B e size v n xs := by
  refine ⟨h.1, ?_⟩
  rcases h.2 with hn | ⟨g, cap, cur, rfl, hb, hgg, rest⟩
  · exact .inl hn
  · exact .inr ⟨g, cap, cur, rfl, hb, (k.block g (lt_of_block hgg) (hne g rfl)).trans hgg, rest⟩
theorem own_n {w : World} {B size n : Nat} {e : TypeId} {h : Hd} {xs : List Value} (o : w.ownsRow B e size h.v n xs) : h.n = n := by
  rcases o.2 with ⟨hv, hn⟩ | ⟨g, cap, cur, hv, _⟩
  · unfold Hd.v at hv; simp only [Value.slice.injEq] at hv; omega
  · unfold Hd.v at hv; simp only [Value.slice.injEq] at hv; exact hv.2.1
theorem own_head {w : World} {B size n : Nat} {e : TypeId} {v : Value} {xs : List Value} (o : w.ownsRow B e size v n xs) : ∃ h : Hd, v = h.v ∧ h.n = n := by
  rcases o.2 with ⟨hv, hn⟩ | ⟨g, cap, cur, hv, _⟩
  · exact ⟨⟨none, 0, 0⟩, hv, hn.symm⟩
  · exact ⟨⟨_, n, cap⟩, hv, rfl⟩
theorem own_slice {w : World} {B size n : Nat} {e : TypeId} {h : Hd} {xs : List Value} (o : w.ownsRow B e size h.v n xs) : h.v = .slice h.a n h.c := by
  have := own_n o
  unfold Hd.v; rw [this]
theorem own_base {w : World} {B B' size n : Nat} {e : TypeId} {v : Value} {xs : List Value} (h : w.ownsRow B e size v n xs) (hb : ∀ g, v.ownBlock = some g → B' ≤ g) : w.ownsRow B' e size v n xs := by
  refine ⟨h.1, ?_⟩
  rcases h.2 with hn | ⟨g, cap, cur, rfl, hb', rest⟩
  · exact .inl hn
  · exact .inr ⟨g, cap, cur, rfl, hb g rfl, rest⟩
theorem own_down {w : World} {B B' size n : Nat} {e : TypeId} {v : Value} {xs : List Value} (h : w.ownsRow B e size v n xs) (hb : B' ≤ B) : w.ownsRow B' e size v n xs :=
  own_base h fun g hg => Nat.le_trans hb (h.lt g hg).1
/-- an owned row's cells -/
theorem own_rowAt {w : World} {B size n : Nat} {e : TypeId} {v : Value} {xs : List Value} (h : w.ownsRow B e size v n xs) (hn : 0 < n) : ∃ g cap, v = .slice (some ⟨g, 0, none⟩) n cap ∧ B ≤ g ∧ n ≤ cap ∧ RowAt w g xs := by
  obtain ⟨A, cap, e, hc, hg⟩ := own_rowV h
  obtain ⟨g, hA, hb, hr⟩ := hg hn
  exact ⟨g, cap, by rw [e, hA], hb, hc, hr⟩
theorem setCell_heap_same (w : World) (g j : Nat) (v : Value) {cur : Array Value} {e : TypeId} {f : Nat × Nat} (h : w.heap[g]? = some (.cells cur e f)) : (w.setCell ⟨g, j, none⟩ v).heap[g]? = some (.cells (cur.setIfInBounds j v) e f) := by
  have hl : g < w.heap.size := lt_of_block h
  have h' : w.heap[g] = .cells cur e f := by simpa [Array.getElem?_eq_getElem hl] using h
  show (w.heap.modify g _)[g]? = _
  rw [Array.getElem?_eq_getElem (by simpa using hl), Array.getElem_modify_self, h']
  simp
theorem own_set {w : World} {B size n : Nat} {e : TypeId} {v : Value} {xs : List Value} (h : w.ownsRow B e size v n xs) {g : Nat} (hg : v.ownBlock = some g) (j : Nat) (u : Value) : (w.setCell ⟨g, j, none⟩ u).ownsRow B e size v n (xs.set j u) := by
  refine ⟨by rw [List.length_set]; exact h.1, ?_⟩
  rcases h.2 with ⟨rfl, _⟩ | ⟨g', cap, cur, rfl, hb, hgg, hnc, hm, hcs, htk⟩
  · simp [Value.ownBlock] at hg
  · have : g' = g := by simpa [Value.ownBlock] using hg
    subst this
    refine .inr ⟨g', cap, cur.setIfInBounds j u, rfl, hb, setCell_heap_same w g' j u hgg, hnc, hm, by simpa using hcs, ?_⟩
    rw [Array.toList_setIfInBounds, List.take_set, htk]
/-- an owned row is read as a slice -/
theorem own_sl {α : Type} {w : World} {B size : Nat} {e : TypeId} {h : Hd} {l : List α} {css : List (List Value)} {R : World → List Value → α → Prop} (o : w.ownsRow B e size h.v l.length css.flatten) (hc : Chunks w size R css l) (hs : Small (l.length * 16)) : SlAt w size R h.a h.c l := by
  obtain ⟨A, cap, hv, sl⟩ := rowV_slAt (own_rowV o) hc hs
  unfold Hd.v at hv
  simp only [Value.slice.injEq] at hv
  rw [hv.1, hv.2.2]; exact sl
theorem chunks_map {α : Type} {w : World} {size : Nat} {R : World → List Value → α → Prop} (f : α → List Value) (l : List α) (hf : ∀ x ∈ l, (f x).length = size ∧ R w (f x) x) : Chunks w size R (l.map f) l :=
  ⟨by simp, fun i h h' => by simpa using hf l[i] (List.getElem_mem h')⟩
theorem own_slf {α : Type} {w : World} {B size : Nat} {e : TypeId} {h : Hd} {l : List α} {R : World → List Value → α → Prop} (f : α → List Value) (o : w.ownsRow B e size h.v l.length (l.flatMap f)) (hf : ∀ x ∈ l, (f x).length = size ∧ R w (f x) x) (hs : Small (l.length * 16)) : SlAt w size R h.a h.c l :=
  own_sl (css := l.map f) (by rw [← List.flatMap_def]; exact o) (chunks_map f l hf) hs

def nameC (s : ByteArray) : List Value := [.string s]
def colC (c : Col) : List Value := [.string c.name, .int .i64 c.kind, .bool c.null]
def schC (s : Sch) : List Value := [.string s.name, .string s.owner]
def rulC (r : Rul) (h : Hd) : List Value := [.string r.name, .int .i64 r.kind, h.v, .int .i64 r.low, .int .i64 r.high, .string r.schema, .string r.table, .string r.key]
/-- a rule, and where its names lie -/
structure ORul where
  r : Rul
  h : Hd
def ORul.cells (x : ORul) : List Value := rulC x.r x.h
/-- a table, and where its rows lie -/
structure OTab where
  schema : ByteArray
  name : ByteArray
  owner : ByteArray
  cols : List Col
  rules : List ORul
  hc : Hd
  hr : Hd
def OTab.t (x : OTab) : Tab := ⟨x.schema, x.name, x.owner, x.cols, x.rules.map (·.r)⟩
def OTab.cells (x : OTab) : List Value := [.string x.schema, .string x.name, .string x.owner, x.hc.v, x.hr.v]
def OTab.blks (x : OTab) : List Nat := x.hc.blk ++ (x.hr.blk ++ x.rules.flatMap (·.h.blk))
structure RulIn (w : World) (B : Nat) (x : ORul) : Prop where
  nam : w.ownsRow B 9 1 x.h.v x.r.cols.length (x.r.cols.flatMap nameC)
structure TabIn (w : World) (B : Nat) (x : OTab) : Prop where
  col : w.ownsRow B 106 3 x.hc.v x.cols.length (x.cols.flatMap colC)
  rul : w.ownsRow B 121 8 x.hr.v x.rules.length (x.rules.flatMap ORul.cells)
  each : ∀ r ∈ x.rules, RulIn w B r
structure ObjIn (w : World) (B : Nat) (hs ht : Hd) (ss : List Sch) (L : List OTab) : Prop where
  sch : w.ownsRow B 101 2 hs.v ss.length (ss.flatMap schC)
  tab : w.ownsRow B 89 5 ht.v L.length (L.flatMap OTab.cells)
  each : ∀ x ∈ L, TabIn w B x
  nd : (hs.blk ++ (ht.blk ++ L.flatMap OTab.blks)).Nodup
theorem RulIn.kb {P : Nat → Prop} {w w' : World} {B : Nat} {x : ORul} (h : RulIn w B x) (k : Kb P w w') (hne : ∀ g ∈ x.h.blk, ¬ P g) : RulIn w' B x := ⟨own_kb h.nam k fun g hg => hne g (Hd.mem_blk.2 hg)⟩
theorem TabIn.kb {P : Nat → Prop} {w w' : World} {B : Nat} {x : OTab} (h : TabIn w B x) (k : Kb P w w') (hne : ∀ g ∈ x.blks, ¬ P g) : TabIn w' B x :=
  ⟨own_kb h.col k fun g hg => hne g (by unfold OTab.blks; simp [Hd.mem_blk.2 hg]), own_kb h.rul k fun g hg => hne g (by unfold OTab.blks; simp [Hd.mem_blk.2 hg]),
   fun r hr => (h.each r hr).kb k fun g hg => hne g (by unfold OTab.blks; simp only [List.mem_append, List.mem_flatMap]; exact .inr (.inr ⟨r, hr, hg⟩))⟩
theorem ObjIn.kb {P : Nat → Prop} {w w' : World} {B : Nat} {hs ht : Hd} {ss : List Sch} {L : List OTab} (h : ObjIn w B hs ht ss L) (k : Kb P w w') (hne : ∀ g ∈ hs.blk ++ (ht.blk ++ L.flatMap OTab.blks), ¬ P g) : ObjIn w' B hs ht ss L :=
  ⟨own_kb h.sch k fun g hg => hne g (by simp [Hd.mem_blk.2 hg]), own_kb h.tab k fun g hg => hne g (by simp [Hd.mem_blk.2 hg]),
   fun x hx => (h.each x hx).kb k fun g hg => hne g (by simp only [List.mem_append, List.mem_flatMap]; exact .inr (.inr ⟨x, hx, hg⟩)), h.nd⟩
theorem RulIn.aft {w w' : World} {B : Nat} {x : ORul} (h : RulIn w B x) (a : Aft w w') : RulIn w' B x := h.kb (P := fun _ => False) (Kb.of_aft a) fun _ _ h => h
theorem TabIn.aft {w w' : World} {B : Nat} {x : OTab} (h : TabIn w B x) (a : Aft w w') : TabIn w' B x := h.kb (P := fun _ => False) (Kb.of_aft a) fun _ _ h => h
theorem ObjIn.aft {w w' : World} {B : Nat} {hs ht : Hd} {ss : List Sch} {L : List OTab} (h : ObjIn w B hs ht ss L) (a : Aft w w') : ObjIn w' B hs ht ss L := h.kb (P := fun _ => False) (Kb.of_aft a) fun _ _ h => h
theorem blk_lt {w : World} {B size n : Nat} {e : TypeId} {h : Hd} {xs : List Value} (o : w.ownsRow B e size h.v n xs) : ∀ g ∈ h.blk, B ≤ g ∧ g < w.heap.size := fun g hg => o.lt g (Hd.mem_blk.1 hg)
theorem TabIn.lt {w : World} {B : Nat} {x : OTab} (h : TabIn w B x) : ∀ g ∈ x.blks, B ≤ g ∧ g < w.heap.size := by
  intro g hg
  unfold OTab.blks at hg
  simp only [List.mem_append, List.mem_flatMap] at hg
  rcases hg with hg | hg | ⟨r, hr, hg⟩
  · exact blk_lt h.col g hg
  · exact blk_lt h.rul g hg
  · exact blk_lt (h.each r hr).nam g hg
theorem ObjIn.lt {w : World} {B : Nat} {hs ht : Hd} {ss : List Sch} {L : List OTab} (h : ObjIn w B hs ht ss L) : ∀ g ∈ hs.blk ++ (ht.blk ++ L.flatMap OTab.blks), B ≤ g ∧ g < w.heap.size := by
  intro g hg
  simp only [List.mem_append, List.mem_flatMap] at hg
  rcases hg with hg | hg | ⟨x, hx, hg⟩
  · exact blk_lt h.sch g hg
  · exact blk_lt h.tab g hg
  · exact (h.each x hx).lt g hg
theorem RulIn.down {w : World} {B B' : Nat} {x : ORul} (h : RulIn w B x) (hb : B' ≤ B) : RulIn w B' x := ⟨own_down h.nam hb⟩
theorem TabIn.down {w : World} {B B' : Nat} {x : OTab} (h : TabIn w B x) (hb : B' ≤ B) : TabIn w B' x := ⟨own_down h.col hb, own_down h.rul hb, fun r hr => (h.each r hr).down hb⟩
theorem ObjIn.down {w : World} {B B' : Nat} {hs ht : Hd} {ss : List Sch} {L : List OTab} (h : ObjIn w B hs ht ss L) (hb : B' ≤ B) : ObjIn w B' hs ht ss L := ⟨own_down h.sch hb, own_down h.tab hb, fun x hx => (h.each x hx).down hb, h.nd⟩

/-- all that a struct holds is short -/
def SmR (r : Rul) : Prop := Small (r.cols.length * 16) ∧ (∀ s ∈ r.cols, Small s.size) ∧ Small r.name.size ∧ Small r.schema.size ∧ Small r.table.size ∧ Small r.key.size
def SmT (t : Tab) : Prop := (Small (t.cols.length * 16) ∧ ∀ c ∈ t.cols, Small c.name.size) ∧ (Small (t.rules.length * 16) ∧ ∀ r ∈ t.rules, SmR r) ∧ Small t.schema.size ∧ Small t.name.size ∧ Small t.owner.size
def SmS (l : List Sch) : Prop := Small (l.length * 16) ∧ ∀ s ∈ l, Small s.name.size ∧ Small s.owner.size
def SmO (o : Objs) : Prop := SmS o.schemas ∧ Small (o.tables.length * 16) ∧ ∀ t ∈ o.tables, SmT t
theorem sm_mem {α : Type} {w : World} {size : Nat} {R : World → List Value → α → Prop} {A : Option Addr} {cap : Nat} {l : List α} (h : SlAt w size R A cap l) {P : α → Prop} (hp : ∀ cs x, R w cs x → P x) : Small (l.length * 16) ∧ ∀ x ∈ l, P x := by
  refine ⟨h.2.1, fun x hx => ?_⟩
  obtain ⟨i, hi, rfl⟩ := List.getElem_of_mem hx
  obtain ⟨b, off, cs, _, _, _, hR, _⟩ := h.2.2 i hi
  exact hp cs _ hR
theorem sm_names {w : World} {A : Option Addr} {cap : Nat} {l : List ByteArray} (h : SlAt w 1 StrR A cap l) : Small (l.length * 16) ∧ ∀ s ∈ l, Small s.size := sm_mem h fun _ _ h => h.2
theorem sm_cols {w : World} {A : Option Addr} {cap : Nat} {l : List Col} (h : SlAt w 3 ColR A cap l) : Small (l.length * 16) ∧ ∀ c ∈ l, Small c.name.size := sm_mem h fun _ _ h => h.2
theorem sm_schs {w : World} {A : Option Addr} {cap : Nat} {l : List Sch} (h : SlAt w 2 SchR A cap l) : SmS l := sm_mem h fun _ _ h => h.2
theorem sm_rul {w : World} {cs : List Value} {r : Rul} (h : RulR w cs r) : SmR r := by
  obtain ⟨A, cap, _, hs, h1⟩ := h
  exact ⟨(sm_names hs).1, (sm_names hs).2, h1⟩
theorem sm_ruls {w : World} {A : Option Addr} {cap : Nat} {l : List Rul} (h : SlAt w 8 RulR A cap l) : Small (l.length * 16) ∧ ∀ r ∈ l, SmR r := sm_mem h fun _ _ h => sm_rul h
theorem sm_tab {w : World} {cs : List Value} {t : Tab} (h : TabR w cs t) : SmT t := by
  obtain ⟨A, cap, A2, cap2, _, hs, hr, h1⟩ := h
  exact ⟨sm_cols hs, sm_ruls hr, h1⟩
theorem sm_tabs {w : World} {A : Option Addr} {cap : Nat} {l : List Tab} (h : SlAt w 5 TabR A cap l) : Small (l.length * 16) ∧ ∀ t ∈ l, SmT t := sm_mem h fun _ _ h => sm_tab h

/-- our own rows, read -/
theorem RulIn.rulR {w : World} {B : Nat} {x : ORul} (h : RulIn w B x) (hs : SmR x.r) : RulR w x.cells x.r :=
  ⟨x.h.a, x.h.c, by unfold ORul.cells rulC; rw [own_slice h.nam], own_slf nameC h.nam (fun s hm => ⟨rfl, rfl, hs.2.1 s hm⟩) hs.1, hs.2.2⟩
theorem TabIn.cols {w : World} {B : Nat} {x : OTab} (h : TabIn w B x) (hs : SmT x.t) : SlAt w 3 ColR x.hc.a x.hc.c x.cols :=
  own_slf colC h.col (fun c hm => ⟨rfl, rfl, hs.1.2 c hm⟩) hs.1.1
theorem chunks_over {α β : Type} {w : World} {size : Nat} {R : World → List Value → β → Prop} (f : α → List Value) (g : α → β) (l : List α) (hf : ∀ x ∈ l, (f x).length = size ∧ R w (f x) (g x)) : Chunks w size R (l.map f) (l.map g) :=
  ⟨by simp, fun i h h' => by
    have hi : i < l.length := by simpa using h
    simpa using hf l[i] (List.getElem_mem hi)⟩
theorem own_slo {α β : Type} {w : World} {B size : Nat} {e : TypeId} {h : Hd} {l : List α} {R : World → List Value → β → Prop} (f : α → List Value) (g : α → β) (o : w.ownsRow B e size h.v l.length (l.flatMap f)) (hf : ∀ x ∈ l, (f x).length = size ∧ R w (f x) (g x)) (hs : Small (l.length * 16)) : SlAt w size R h.a h.c (l.map g) :=
  own_sl (css := l.map f) (by rw [← List.flatMap_def, List.length_map]; exact o) (chunks_over f g l hf) (by simpa using hs)
theorem TabIn.ruls {w : World} {B : Nat} {x : OTab} (h : TabIn w B x) (hs : SmT x.t) : SlAt w 8 RulR x.hr.a x.hr.c (x.rules.map (·.r)) :=
  own_slo ORul.cells (·.r) h.rul (fun r hm => ⟨rfl, (h.each r hm).rulR (hs.2.1.2 r.r (List.mem_map_of_mem hm))⟩) (by simpa [OTab.t] using hs.2.1.1)
theorem TabIn.tabR {w : World} {B : Nat} {x : OTab} (h : TabIn w B x) (hs : SmT x.t) : TabR w x.cells x.t :=
  ⟨x.hc.a, x.hc.c, x.hr.a, x.hr.c, by unfold OTab.cells; rw [own_slice h.col, own_slice h.rul]; simp [OTab.t], h.cols hs, h.ruls hs, hs.2.2⟩
def objOf (ss : List Sch) (L : List OTab) : Objs := ⟨ss, L.map OTab.t⟩
theorem ObjIn.schs {w : World} {B : Nat} {hs ht : Hd} {ss : List Sch} {L : List OTab} (h : ObjIn w B hs ht ss L) (sm : SmO (objOf ss L)) : SlAt w 2 SchR hs.a hs.c ss :=
  own_slf schC h.sch (fun s hm => ⟨rfl, rfl, sm.1.2 s hm⟩) sm.1.1
theorem ObjIn.tabs {w : World} {B : Nat} {hs ht : Hd} {ss : List Sch} {L : List OTab} (h : ObjIn w B hs ht ss L) (sm : SmO (objOf ss L)) : SlAt w 5 TabR ht.a ht.c (L.map OTab.t) :=
  own_slo OTab.cells OTab.t h.tab (fun x hm => ⟨rfl, (h.each x hm).tabR (sm.2.2 _ (List.mem_map_of_mem hm))⟩) (by simpa [objOf] using sm.2.1)
theorem own_cell {α : Type} {w : World} {B size : Nat} {e : TypeId} {h : Hd} {l : List α} {f : α → List Value} (o : w.ownsRow B e size h.v l.length (l.flatMap f)) (hf : ∀ x, (f x).length = size) {g : Nat} (hg : h.a = some ⟨g, 0, none⟩) {i j : Nat} (hi : i < l.length) (hj : j < size) : w.cell? ⟨g, i * size + j, none⟩ = (f l[i])[j]? := by
  obtain ⟨g', cap, hv, _, _, hr⟩ := own_rowAt o (by omega)
  unfold Hd.v at hv
  simp only [Value.slice.injEq] at hv
  rw [hg] at hv
  simp only [Option.some.injEq, Addr.mk.injEq, and_true, true_and] at hv
  obtain ⟨rfl, _⟩ := hv
  rw [hr.2.1 _ (by rw [o.1]; have : (i + 1) * size ≤ l.length * size := Nat.mul_le_mul_right _ hi; rw [Nat.succ_mul] at this; omega)]
  exact flatMap_get f size hf l i j hi hj
end Go.Proofs.YtlklmekapbojdaaGreat

namespace Go.Proofs.YtlklmekapbojdaaGreat
open Go.RowKit Go.Deep
set_option linter.unusedVariables false
theorem own_lit {w : World} {B size n : Nat} {e : TypeId} {v : Value} {xs : List Value} (o : w.ownsRow B e size v n xs) : ∃ A cap, v = .slice A n cap := by
  obtain ⟨h, hv, hn⟩ := own_head o
  exact ⟨h.a, h.c, by rw [hv, ← hn]; rfl⟩
theorem chunks_flat {α : Type} {w : World} {size : Nat} {R : World → List Value → α → Prop} {f : α → List Value} (hf : ∀ cs x, R w cs x → cs = f x) : ∀ {css : List (List Value)} {l : List α}, Chunks w size R css l → css.flatten = l.flatMap f := by
  intro css l h
  have : css = l.map f := by
    refine List.ext_getElem (by rw [h.1]; simp) fun i h1 h2 => ?_
    have hi : i < l.length := by simpa using h2
    rw [List.getElem_map]
    exact hf _ _ (h.2 i h1 hi).2
  rw [this, List.flatMap_def]
theorem flat_names {w : World} {css : List (List Value)} {l : List ByteArray} (h : Chunks w 1 StrR css l) : css.flatten = l.flatMap nameC := chunks_flat (fun _ _ h => h.1) h
theorem flatMap_len {α : Type} {f : α → List Value} {size : Nat} (hf : ∀ x, (f x).length = size) (l : List α) : (l.flatMap f).length = l.length * size := by
  rw [List.flatMap_def, flat_len _ (by intro c hc; obtain ⟨x, _, rfl⟩ := List.mem_map.1 hc; exact hf x), List.length_map]
theorem flatMap_set {α : Type} {f : α → List Value} {size : Nat} (hf : ∀ x, (f x).length = size) (l : List α) (k j : Nat) (hk : k < l.length) (hj : j < size) (u : Value) (y : α) (hy : f y = (f l[k]).set j u) : (l.flatMap f).set (k * size + j) u = (l.set k y).flatMap f := by
  rw [List.flatMap_def, List.flatMap_def, flat_set _ (by intro c hc; obtain ⟨x, _, rfl⟩ := List.mem_map.1 hc; exact hf x) k j (by simpa using hk) u hj, List.map_set]
  congr 1
  rw [hy]; simp
theorem nodup_more {l m : List Nat} {N : Nat} (h : l.Nodup) (hm : m.Nodup) (h1 : ∀ g ∈ l, g < N) (h2 : ∀ g ∈ m, N ≤ g) : (l ++ m).Nodup :=
  List.nodup_append.2 ⟨h, hm, fun a ha b hb e => by have := h1 a ha; have := h2 b hb; omega⟩
theorem blk_nodup (h : Hd) : h.blk.Nodup := by
  obtain ⟨a, n, c⟩ := h
  cases a <;> simp [Hd.blk]
theorem blk_nil (n c : Nat) : (Hd.mk none n c).blk = [] := rfl
theorem blk_some (p : Addr) (n c : Nat) : (Hd.mk (some p) n c).blk = [p.block] := rfl
/-- where a row of our own lies -/
theorem own_place {w : World} {B size n : Nat} {e : TypeId} {h : Hd} {xs : List Value} (o : w.ownsRow B e size h.v n xs) (hn : 0 < n) : ∃ g, h.a = some ⟨g, 0, none⟩ ∧ B ≤ g ∧ RowAt w g xs := by
  obtain ⟨g, cap, hv, hb, _, hr⟩ := own_rowAt o hn
  unfold Hd.v at hv
  simp only [Value.slice.injEq] at hv
  exact ⟨g, hv.1, hb, hr⟩
theorem oneC_cells {α : Type} {f : α → List Value} (hf : ∀ x, ∀ u ∈ f x, u.oneCell' = true) (l : List α) : ∀ u ∈ l.flatMap f, u.oneCell' = true := by
  intro u hu
  obtain ⟨x, _, hu⟩ := List.mem_flatMap.1 hu
  exact hf x u hu
theorem info2Str2 : (Tryz.prog.info? 9).map (fun i => (i.zero, i.size, i.bytes)) = some (some (.string ByteArray.empty), 1, 16) := by kernel_rfl
/-- a table in memory of its own -/
def CopyO (w : World) (t : Tab) (e : Ending) (w' : World) : Prop :=
  ∃ x : OTab, x.t = t ∧ e = .returned (.agg #[.string t.schema, .string t.name, .string t.owner, .slice x.hc.a t.cols.length x.hc.c, .slice x.hr.a t.rules.length x.hr.c]) ∧ Aft w w' ∧ TabIn w' w.heap.size x ∧ x.blks.Nodup
def ModO (o : Objs) : Prop := o.schemas.length ≤ 1000000 ∧ o.tables.length ≤ 1000000 ∧ ∀ t ∈ o.tables, t.cols.length ≤ 1000000 ∧ t.rules.length ≤ 1000000 ∧ ∀ r ∈ t.rules, r.cols.length ≤ 1000000
end Go.Proofs.YtlklmekapbojdaaGreat

namespace Go.Proofs.YtlklmekapbojdaaGreat
open Go.RowKit Go.Deep
set_option linter.unusedVariables false
def heldR (v : Value) : Option (DataW Value × List MemPlace) := some (.held v, [])
/-- block b is a map of at most n entries; at the text s it holds f s, which is z where there is none -/
def MapF (P : Program) (k : TypeId) (w : World) (b n : Nat) (z : Value) (f : List UInt8 → Value) : Prop :=
  ∃ D : DataW Value, Maps.IsMap D ∧ w.ownsMap P k heldR b n D ∧ ∀ s, D.atKey (.string s) (.held z) = .held (f s)
section
variable {P : Program} {k : TypeId} {w w' : World} {b n : Nat} {z : Value} {f : List UInt8 → Value}
theorem MapF.lt (h : MapF P k w b n z f) : b < w.heap.size := by obtain ⟨D, _, ho, _⟩ := h; exact ho.lt
theorem MapF.kb {Q : Nat → Prop} (h : MapF P k w b n z f) (kb : Kb Q w w') (hb : ¬ Q b) : MapF P k w' b n z f := by
  obtain ⟨D, hD, ho, hf⟩ := h
  have hl := ho.lt
  obtain ⟨es, clock, hh, F, hs, he⟩ := ho
  exact ⟨D, hD, ⟨es, clock, (kb.block b hl hb).trans hh, F, hs, he⟩, hf⟩
theorem MapF.aft (h : MapF P k w b n z f) (a : Aft w w') : MapF P k w' b n z f := h.kb (Q := fun _ => False) (Kb.of_aft a) (fun h => h)
theorem MapF.mono (h : MapF P k w b n z f) {n' : Nat} (hn : n ≤ n') : MapF P k w b n' z f := by
  obtain ⟨D, hD, ho, hf⟩ := h; exact ⟨D, hD, ho.mono hn, hf⟩
theorem mapF_made (w : World) (z : Value) : MapF P k (w.alloc (.map #[] 0)) w.heap.size 0 z (fun _ => z) :=
  ⟨.map [], Maps.isMap_empty, World.ownsMap_made w P k heldR, fun s => rfl⟩
theorem key_string (hk : P.underlying k = some .string) (s : ByteArray) (hs : s.size ≤ maxLen) : keyOf P k (.string s) = some (.string s.data.toList) := by
  simp [keyOf, hk, mapKey, hs]
theorem MapF.look {t e : TypeId} (h : MapF P k w b n z f) (hk : P.underlying k = some .string) (ht : P.underlying t = some (.map k e)) (hz : (zeroValue e).run P w = .ok z w) (s : ByteArray) (hs : s.size ≤ maxLen) :
    (Instr.lookup t (.map (some b)) (.string s) false).run P w = .ok (f s.data.toList) w := by
  obtain ⟨D, hD, ho, hf⟩ := h
  obtain ⟨v, ps, hrun, hv⟩ := ho.lookup (Maps.string_keyed hk) ht hz (zd := .held z) (zp := []) rfl (key_string hk s hs)
  rw [hf] at hv
  unfold heldR at hv
  simp only [Option.some.injEq, Prod.mk.injEq, DataW.held.injEq] at hv
  rw [hrun, hv.1]
theorem MapF.put {t e : TypeId} (h : MapF P k w b n z f) (hk : P.underlying k = some .string) (ht : P.underlying t = some (.map k e)) (hn : n < maxLen) (s : ByteArray) (hs : s.size ≤ maxLen) (v : Value) :
    ∃ w', (Instr.mapUpdate t (.map (some b)) (.string s) v).run P w = .ok () w' ∧ MapF P k w' b (n + 1) z (fun x => if x = s.data.toList then v else f x) ∧ w.grownBy w' (some b) := by
  obtain ⟨D, hD, ho, hf⟩ := h
  obtain ⟨w', hrun, h1, h2⟩ := ho.update (Maps.string_keyed hk) ht hn (key_string hk s hs) (val := v) (d := .held v) (ps := []) rfl
  refine ⟨w', hrun, ⟨D.put (.string s.data.toList) (.held v), hD.put _ _, h1, fun x => ?_⟩, h2⟩
  show _ = DataW.held (if x = s.data.toList then v else f x)
  by_cases e : x = s.data.toList
  · subst e
    rw [if_pos rfl]
    exact Maps.atKey_put_same hD (by trivial) _ _
  · rw [if_neg e, Maps.atKey_put_other (by intro e2; exact e (Lit.string.inj e2))]
    exact hf x
end
end Go.Proofs.YtlklmekapbojdaaGreat

namespace Go.Proofs.YtlklmekapbojdaaGreat
open Go.RowKit
set_option linter.unusedVariables false
structure Mbr where
  role : ByteArray
  of : ByteArray
structure Rls where
  names : List ByteArray
  members : List Mbr
def MbrR (_ : World) (cs : List Value) (m : Mbr) : Prop := cs = [.string m.role, .string m.of] ∧ Small m.role.size ∧ Small m.of.size
def mbrC (m : Mbr) : List Value := [.string m.role, .string m.of]
abbrev Txt := List UInt8
def txt (s : ByteArray) : Txt := s.data.toList
/-- whom a role joins -/
def succ (ms : List Mbr) (s : Txt) : List ByteArray := (ms.filter fun m => txt m.role == s).map (·.of)
inductive Reach (ms : List Mbr) : Txt → Txt → Prop
  | refl (s : Txt) : Reach ms s s
  | step {s t u : Txt} {x : ByteArray} : Reach ms s t → x ∈ succ ms t → txt x = u → Reach ms s u
theorem Reach.trans {ms : List Mbr} {s t u : Txt} (h1 : Reach ms s t) (h2 : Reach ms t u) : Reach ms s u := by
  induction h2 with
  | refl => exact h1
  | step _ hx he ih => exact .step ih hx he
theorem Reach.head {ms : List Mbr} {s u : Txt} {x : ByteArray} (hx : x ∈ succ ms s) (h : Reach ms (txt x) u) : Reach ms s u := (Reach.step (.refl s) hx rfl).trans h
/-- a set that holds s and all that each of its own joins holds all that s reaches -/
theorem Reach.closed {ms : List Mbr} {s u : Txt} (h : Reach ms s u) (p : Txt → Prop) (h0 : p s) (hc : ∀ t, p t → ∀ x ∈ succ ms t, p (txt x)) : p u := by
  induction h with
  | refl => exact h0
  | step _ hx he ih => rw [← he]; exact hc _ ih _ hx
/-- how many edges of those not yet seen -/
def phi (ms : List Mbr) (U : List Txt) (c : Txt → Nat) : Nat := (U.map fun s => if c s = 0 then (succ ms s).length else 0).sum
def mu (U : List Txt) (c : Txt → Nat) : Nat := (U.filter fun s => c s == 0).length
theorem phi_mono {ms : List Mbr} {U : List Txt} {c c' : Txt → Nat} (h : ∀ s, c s ≤ c' s) : phi ms U c' ≤ phi ms U c := by
  induction U with
  | nil => simp [phi]
  | cons a U ih =>
    unfold phi at ih ⊢
    simp only [List.map_cons, List.sum_cons]
    have := h a
    by_cases h1 : c a = 0
    · by_cases h2 : c' a = 0 <;> simp [h1, h2] <;> omega
    · have h2 : c' a ≠ 0 := by omega
      simp [h1, h2]; omega
theorem mu_mono {U : List Txt} {c c' : Txt → Nat} (h : ∀ s, c s ≤ c' s) : mu U c' ≤ mu U c := by
  induction U with
  | nil => simp [mu]
  | cons a U ih =>
    unfold mu at ih ⊢
    have := h a
    by_cases h1 : c a = 0
    · by_cases h2 : c' a = 0 <;> simp [h1, h2] <;> omega
    · have h2 : c' a ≠ 0 := by omega
      simp [h1, h2]; omega
/-- s is seen once more -/
def bump (c : Txt → Nat) (s : Txt) : Txt → Nat := fun x => if x = s then c s + 1 else c x
theorem bump_le (c : Txt → Nat) (s x : Txt) : c x ≤ bump c s x := by unfold bump; split <;> simp_all
theorem phi_bump {ms : List Mbr} {U : List Txt} {c : Txt → Nat} {s : Txt} (hs : s ∈ U) (h0 : c s = 0) : phi ms U (bump c s) + (succ ms s).length ≤ phi ms U c := by
  induction U with
  | nil => simp at hs
  | cons a U ih =>
    unfold phi at ih ⊢
    simp only [List.map_cons, List.sum_cons]
    by_cases e : a = s
    · subst e
      have hm : phi ms U (bump c a) ≤ phi ms U c := phi_mono (bump_le c a)
      unfold phi at hm
      have hb : bump c a a ≠ 0 := by simp [bump]
      simp only [h0, if_true, if_neg hb]
      omega
    · have hs' : s ∈ U := (List.mem_cons.1 hs).resolve_left (fun h => e h.symm)
      have := ih hs'
      have hb : bump c s a = c a := by simp [bump, e]
      rw [hb]; omega
theorem mu_bump {U : List Txt} {c : Txt → Nat} {s : Txt} (hs : s ∈ U) (h0 : c s = 0) : mu U (bump c s) < mu U c := by
  induction U with
  | nil => simp at hs
  | cons a U ih =>
    unfold mu at ih ⊢
    by_cases e : a = s
    · subst e
      have hm : mu U (bump c a) ≤ mu U c := mu_mono (bump_le c a)
      unfold mu at hm
      have hb : (bump c a a == 0) = false := by simp [bump]
      simp only [List.filter_cons, h0, hb, beq_self_eq_true, if_true, Bool.false_eq_true, if_false, List.length_cons]
      omega
    · have hs' : s ∈ U := (List.mem_cons.1 hs).resolve_left (fun h => e h.symm)
      have := ih hs'
      have hb : bump c s a = c a := by simp [bump, e]
      simp only [List.filter_cons, hb]
      split <;> simp <;> omega
/-- what a call of 'walk' at r makes of the counts -/
structure Grown (ms : List Mbr) (U : List Txt) (r : Txt) (c : Txt → Nat) (n : Nat) (c' : Txt → Nat) (n' : Nat) : Prop where
  le : ∀ s, c s ≤ c' s
  has : 0 < c' r
  bd : ∀ s, c' s ≤ n'
  src : ∀ s, 0 < c' s → 0 < c s ∨ Reach ms r s
  shut : ∀ s, 0 < c' s → 0 < c s ∨ ∀ x ∈ succ ms s, 0 < c' (txt x)
  size : n' + phi ms U c' ≤ n + 1 + phi ms U c
/-- the same, after k of those that r joins -/
structure Mid (ms : List Mbr) (U : List Txt) (r : Txt) (c : Txt → Nat) (n k : Nat) (c' : Txt → Nat) (n' : Nat) : Prop where
  le : ∀ s, c s ≤ c' s
  has : 0 < c' r
  bd : ∀ s, c' s ≤ n'
  src : ∀ s, 0 < c' s → 0 < c s ∨ Reach ms r s
  did : ∀ x ∈ (succ ms r).take k, 0 < c' (txt x)
  shut : ∀ s, 0 < c' s → 0 < c s ∨ s = r ∨ ∀ x ∈ succ ms s, 0 < c' (txt x)
  size : n' + phi ms U c' + (succ ms r).length ≤ n + 1 + k + phi ms U c
  mu : mu U c' < mu U c
theorem bump_pos {c : Txt → Nat} {r s : Txt} (h : 0 < bump c r s) : 0 < c s ∨ s = r := by
  unfold bump at h
  by_cases e : s = r
  · exact .inr e
  · rw [if_neg e] at h; exact .inl h
theorem bump_self (c : Txt → Nat) (r : Txt) : bump c r r = c r + 1 := by simp [bump]
theorem bump_bd {c : Txt → Nat} {r : Txt} {n : Nat} (h : ∀ s, c s ≤ n) (s : Txt) : bump c r s ≤ n + 1 := by
  unfold bump
  have h1 := h s
  have h2 := h r
  split <;> omega
theorem Grown.again {ms : List Mbr} {U : List Txt} {r : Txt} {c : Txt → Nat} {n : Nat} (h : ∀ s, c s ≤ n) (h0 : 0 < c r) : Grown ms U r c n (bump c r) (n + 1) :=
  ⟨bump_le c r, by rw [bump_self]; omega, bump_bd h, fun s hs => by
    rcases bump_pos hs with h1 | rfl
    · exact .inl h1
    · exact .inl h0, fun s hs => by
    rcases bump_pos hs with h1 | rfl
    · exact .inl h1
    · exact .inl h0, by have := phi_mono (ms := ms) (U := U) (bump_le c r); omega⟩
theorem Mid.start {ms : List Mbr} {U : List Txt} {r : Txt} {c : Txt → Nat} {n : Nat} (h : ∀ s, c s ≤ n) (hr : r ∈ U) (h0 : c r = 0) : Mid ms U r c n 0 (bump c r) (n + 1) :=
  ⟨bump_le c r, by rw [bump_self]; omega, bump_bd h, fun s hs => by
    rcases bump_pos hs with h1 | rfl
    · exact .inl h1
    · exact .inr (.refl _), fun x hx => by simp at hx, fun s hs => by
    rcases bump_pos hs with h1 | rfl
    · exact .inl h1
    · exact .inr (.inl rfl), by have := phi_bump (ms := ms) hr h0; omega, mu_bump hr h0⟩
theorem Mid.step {ms : List Mbr} {U : List Txt} {r : Txt} {c c1 c2 : Txt → Nat} {n n1 n2 k : Nat} (h : Mid ms U r c n k c1 n1) (hk : k < (succ ms r).length) (g : Grown ms U (txt (succ ms r)[k]) c1 n1 c2 n2) : Mid ms U r c n (k + 1) c2 n2 :=
  ⟨fun s => Nat.le_trans (h.le s) (g.le s), Nat.lt_of_lt_of_le h.has (g.le r), g.bd, fun s hs => by
    rcases g.src s hs with h1 | h1
    · exact h.src s h1
    · exact .inr (.head (List.getElem_mem hk) h1), fun x hx => by
    rw [List.take_succ_eq_append_getElem hk, List.mem_append, List.mem_singleton] at hx
    rcases hx with hx | rfl
    · exact Nat.lt_of_lt_of_le (h.did x hx) (g.le _)
    · exact g.has, fun s hs => by
    rcases g.shut s hs with h1 | h1
    · rcases h.shut s h1 with h2 | h2 | h2
      · exact .inl h2
      · exact .inr (.inl h2)
      · exact .inr (.inr fun x hx => Nat.lt_of_lt_of_le (h2 x hx) (g.le _))
    · exact .inr (.inr h1), by have := h.size; have := g.size; omega, Nat.lt_of_le_of_lt (mu_mono g.le) h.mu⟩
theorem Mid.all {ms : List Mbr} {U : List Txt} {r : Txt} {c c' : Txt → Nat} {n n' k : Nat} (h : Mid ms U r c n k c' n') (hk : k = (succ ms r).length) : Grown ms U r c n c' n' :=
  ⟨h.le, h.has, h.bd, h.src, fun s hs => by
    rcases h.shut s hs with h1 | rfl | h1
    · exact .inl h1
    · exact .inr fun x hx => h.did x (by rw [hk, List.take_length]; exact hx)
    · exact .inr h1, by have := h.size; omega⟩
/-- from no counts: what is counted is what is reached -/
theorem Grown.reach {ms : List Mbr} {U : List Txt} {r : Txt} {n : Nat} {c' : Txt → Nat} {n' : Nat} (g : Grown ms U r (fun _ => 0) n c' n') (s : Txt) : 0 < c' s ↔ Reach ms r s := by
  constructor
  · intro h
    rcases g.src s h with h1 | h1
    · omega
    · exact h1
  · intro h
    refine h.closed (fun t => 0 < c' t) g.has fun t ht x hx => ?_
    rcases g.shut t ht with h1 | h1
    · omega
    · exact h1 x hx
end Go.Proofs.YtlklmekapbojdaaGreat

namespace Go.Proofs.YtlklmekapbojdaaGreat
open Go.RowKit Go.Deep
set_option maxRecDepth 100000
set_option linter.unusedVariables false
def cntV (c : Txt → Nat) : Txt → Value := fun s => .int .i64 (c s)
theorem zero_int (w : World) : (zeroValue 3).run Tryz.prog w = .ok (.int .i64 0) w := by kernel_rfl
theorem zero_strs (w : World) : (zeroValue 60).run Tryz.prog w = .ok (.slice none 0 0) w := by kernel_rfl
/-- at each text, whom it joins; bf is the other map's block -/
def NextAt (w : World) (ms : List Mbr) (bf bn N : Nat) : Prop :=
  ∃ nx : Txt → Value, MapF Tryz.prog 9 w bn N (.slice none 0 0) nx ∧ ∀ s, ∃ h : Hd, nx s = h.v ∧ w.ownsRow 0 9 1 h.v (succ ms s).length ((succ ms s).flatMap nameC) ∧ bf ∉ h.blk
structure SeenIn (w : World) (ms : List Mbr) (pf pn pw bf bn N : Nat) : Prop where
  cf : w.cell? ⟨pf, 0, none⟩ = some (.map (some bf))
  cn : w.cell? ⟨pn, 0, none⟩ = some (.map (some bn))
  cw : w.cell? ⟨pw, 0, none⟩ = some (.func (.func 192) #[] #[.pointer (some ⟨pf, 0, none⟩), .pointer (some ⟨pn, 0, none⟩), .pointer (some ⟨pw, 0, none⟩)])
  nx : NextAt w ms bf bn N
  ne : pf ≠ bf ∧ pn ≠ bf ∧ pw ≠ bf ∧ bn ≠ bf
theorem NextAt.kb {w w' : World} {ms : List Mbr} {bf bn N : Nat} (h : NextAt w ms bf bn N) (k : Kb (fun g => g = bf) w w') (hb : bn ≠ bf) : NextAt w' ms bf bn N := by
  obtain ⟨nx, h1, h2⟩ := h
  refine ⟨nx, h1.kb k hb, fun s => ?_⟩
  obtain ⟨h, e, o, n⟩ := h2 s
  exact ⟨h, e, own_kb o k fun g hg e2 => n (by subst e2; exact Hd.mem_blk.2 hg), n⟩
theorem SeenIn.kb {w w' : World} {ms : List Mbr} {pf pn pw bf bn N : Nat} (h : SeenIn w ms pf pn pw bf bn N) (k : Kb (fun g => g = bf) w w') : SeenIn w' ms pf pn pw bf bn N :=
  ⟨k.cell h.cf h.ne.1, k.cell h.cn h.ne.2.1, k.cell h.cw h.ne.2.2.1, h.nx.kb k h.ne.2.2.2, h.ne⟩
def SeenP (w : World) (ms : List Mbr) (U : List Txt) (bf : Nat) (r : Txt) (c : Txt → Nat) (n : Nat) (e : Ending) (w' : World) : Prop :=
  e = .returned (.tuple #[]) ∧ Kb (fun g => g = bf) w w' ∧ ∃ (c' : Txt → Nat) (n' : Nat), MapF Tryz.prog 9 w' bf n' (.int .i64 0) (cntV c') ∧ Grown ms U r c n c' n'
def MidP (w : World) (ms : List Mbr) (U : List Txt) (bf : Nat) (r : Txt) (c : Txt → Nat) (n k : Nat) (w' : World) : Prop :=
  Kb (fun g => g = bf) w w' ∧ ∃ (c' : Txt → Nat) (n' : Nat), MapF Tryz.prog 9 w' bf n' (.int .i64 0) (cntV c') ∧ Mid ms U r c n k c' n'
theorem succ_small {ms : List Mbr} (sm : Small (ms.length * 16) ∧ ∀ m ∈ ms, Small m.of.size) (s : Txt) : Small ((succ ms s).length * 16) ∧ ∀ x ∈ succ ms s, Small x.size := by
  unfold succ
  constructor
  · have h1 := sm.1
    have h2 : (ms.filter fun m => txt m.role == s).length ≤ ms.length := List.length_filter_le _ _
    unfold Small at h1 ⊢
    rw [List.length_map]
    omega
  · intro x hx
    rw [List.mem_map] at hx
    obtain ⟨m, hm, rfl⟩ := hx
    exact sm.2 m (List.mem_filter.1 hm).1
theorem cnt_bump {c : Txt → Nat} {r : Txt} : (fun x => if x = r then Value.int .i64 ((c r : Int) + 1) else cntV c x) = cntV (bump c r) := by
  funext x
  unfold cntV bump
  split <;> simp_all
/-- the state behind the count of role -/
theorem seen1_head {ms : List Mbr} {pf pn pw bf bn N : Nat} {role : ByteArray} {c : Txt → Nat} {n : Nat} {w : World} (hrs : Small role.size) (hn : n < 140737488351232) (S : SeenIn w ms pf pn pw bf bn N) (M : MapF Tryz.prog 9 w bf n (.int .i64 0) (cntV c)) :
    (Instr.lookup 182 (.map (some bf)) (.string role) false).run Tryz.prog w = .ok (.int .i64 (c (txt role))) w ∧
    ∃ w1, (Instr.mapUpdate 182 (.map (some bf)) (.string role) (.int .i64 ((c (txt role) : Int) + 1))).run Tryz.prog w = .ok () w1 ∧ (Instr.lookup 182 (.map (some bf)) (.string role) false).run Tryz.prog w1 = .ok (.int .i64 ((c (txt role) : Int) + 1)) w1 ∧ SeenIn w1 ms pf pn pw bf bn N ∧ MapF Tryz.prog 9 w1 bf (n + 1) (.int .i64 0) (cntV (bump c (txt role))) ∧ Kb (fun g => g = bf) w w1 := by
  obtain ⟨w1, p1, M1, g1⟩ := M.put Tryz.underlying9 Tryz.underlying182 (by unfold maxLen; omega) role hrs.max (Value.int .i64 ((c (txt role) : Int) + 1))
  have k1 : Kb (fun g => g = bf) w w1 := (Kb.of_grown g1).mono fun g _ e => (Option.some.inj e).symm
  have M2 : MapF Tryz.prog 9 w1 bf (n + 1) (.int .i64 0) (cntV (bump c (txt role))) := by rw [← cnt_bump]; exact M1
  refine ⟨M.look Tryz.underlying9 Tryz.underlying182 (zero_int w) role hrs.max, w1, p1, ?_, S.kb k1, M2, k1⟩
  rw [M2.look Tryz.underlying9 Tryz.underlying182 (zero_int w1) role hrs.max]
  show Result.ok (Value.int .i64 ((bump c (txt role) (txt role) : Nat) : Int)) w1 = _
  rw [bump_self]; simp
set_option maxHeartbeats 4000000 in
theorem seen1_again (ms : List Mbr) (U : List Txt) (pf pn pw bf bn N : Nat) (role : ByteArray) (c : Txt → Nat) (n : Nat) (w : World) (hrs : Small role.size) (hn : n < 140737488351232) (hbd : ∀ s, c s ≤ n) (S : SeenIn w ms pf pn pw bf bn N) (M : MapF Tryz.prog 9 w bf n (.int .i64 0) (cntV c)) (h0 : 0 < c (txt role)) :
    Calls Tryz.prog 192 #[.string role, .pointer (some ⟨pf, 0, none⟩), .pointer (some ⟨pn, 0, none⟩), .pointer (some ⟨pw, 0, none⟩)] w (SeenP w ms U bf (txt role) c n) := by
  have cf := S.cf
  have hcn := hbd (txt role)
  obtain ⟨l1, w1, p1, l2, S1, M1, k1⟩ := seen1_head hrs hn S M
  have cf1 := S1.cf
  have H1 := Lib.hid (And.intro S1 (And.intro M1 k1))
  have HB := Lib.hid hbd
  have H0 := Lib.hid h0
  obtain ⟨q, hq⟩ : ∃ q, q = c (txt role) := ⟨_, rfl⟩
  rw [← hq] at l1 p1 l2 hcn h0
  have HQ := Lib.hid hq
  clear S M S1 M1 k1 hbd hq
  go_enter Tryz.func192, Tryz.ntmps192
  go_wp2_with fail
  go_end0
  exact ⟨rfl, H1.out.2.2, _, _, H1.out.2.1, Grown.again HB.out H0.out⟩
set_option maxHeartbeats 4000000 in
theorem seen1_first (ms : List Mbr) (U : List Txt) (pf pn pw bf bn N : Nat) (sm : Small (ms.length * 16) ∧ ∀ m ∈ ms, Small m.of.size) (hU : ∀ s ∈ U, ∀ x ∈ succ ms s, txt x ∈ U) (role : ByteArray) (c : Txt → Nat) (n : Nat) (w : World) (hrs : Small role.size) (hrU : txt role ∈ U) (hbd : ∀ s, c s ≤ n) (hsz : n + 1 + phi ms U c ≤ 140737488351232) (S : SeenIn w ms pf pn pw bf bn N) (M : MapF Tryz.prog 9 w bf n (.int .i64 0) (cntV c)) (h0 : c (txt role) = 0)
    (ih : ∀ (x : ByteArray) (c1 : Txt → Nat) (n1 : Nat) (w1 : World), mu U c1 < mu U c → Small x.size → txt x ∈ U → (∀ s, c1 s ≤ n1) → n1 + 1 + phi ms U c1 ≤ 140737488351232 → SeenIn w1 ms pf pn pw bf bn N → MapF Tryz.prog 9 w1 bf n1 (.int .i64 0) (cntV c1) →
      Calls Tryz.prog 192 #[.string x, .pointer (some ⟨pf, 0, none⟩), .pointer (some ⟨pn, 0, none⟩), .pointer (some ⟨pw, 0, none⟩)] w1 (SeenP w1 ms U bf (txt x) c1 n1)) :
    Calls Tryz.prog 192 #[.string role, .pointer (some ⟨pf, 0, none⟩), .pointer (some ⟨pn, 0, none⟩), .pointer (some ⟨pw, 0, none⟩)] w (SeenP w ms U bf (txt role) c n) := by
  have cf := S.cf
  obtain ⟨l1, w1, p1, l2, S1, M1, k1⟩ := seen1_head hrs (by omega) S M
  rw [h0] at l1 p1 l2
  simp only [Int.natCast_zero, Int.zero_add] at l1 p1 l2
  have cf1 := S1.cf
  have cn1 := S1.cn
  obtain ⟨nx, N1, N2⟩ := S.nx
  obtain ⟨h, hh, ho, hb⟩ := N2 (txt role)
  have l3 := (N1.kb k1 S.ne.2.2.2).look Tryz.underlying9 Tryz.underlying199 (zero_strs w1) role hrs.max
  replace l3 : _ = Result.ok (Value.slice h.a (succ ms (txt role)).length h.c) w1 := l3.trans (by rw [show nx role.data.toList = nx (txt role) from rfl, hh, own_slice ho])
  obtain ⟨sl, ss⟩ := succ_small sm (txt role)
  have hsl : ∀ w', Kb (fun g => g = bf) w w' → SlAt w' 1 StrR h.a h.c (succ ms (txt role)) := fun w' k => own_slf nameC (own_kb ho k fun g hg e2 => hb (by subst e2; exact Hd.mem_blk.2 hg)) (fun x hx => ⟨rfl, rfl, ss x hx⟩) sl
  have hlen := (hsl w1 k1).len
  have HS := Lib.hid hsl
  have H1 := Lib.hid S
  have HM := Lib.hid (show MidP w ms U bf (txt role) c n 0 w1 from ⟨k1, _, _, M1, Mid.start hbd hrU h0⟩)
  have HU := Lib.hid (show ∀ x ∈ succ ms (txt role), txt x ∈ U ∧ Small x.size from fun x hx => ⟨hU _ hrU x hx, ss x hx⟩)
  have IH := Lib.hid ih
  have HSZ := Lib.hid hsz
  obtain ⟨ha, hn, hc⟩ := h
  dsimp only at l3 HS
  obtain ⟨l, hl⟩ : ∃ l, l = succ ms (txt role) := ⟨_, rfl⟩
  rw [← hl] at l3 hlen HS HU
  have HL := Lib.hid hl
  clear S M S1 M1 k1 hbd N1 N2 hh ho hb sm hU hrU ih sl ss hsl hl h0 hsz
  go_enter Tryz.func192, Tryz.ntmps192
  go_wp2_with fail
  go_loopw [19] (fun i wr => ∃ k : Nat, k ≤ l.length ∧ i = .int .i64 k ∧ MidP w ms U bf (txt role) c n k wr) (fun i _ => l.length - (intOf i).toNat)
  case atStart => exact ⟨0, Nat.zero_le _, rfl, HM.out⟩
  case round =>
    clear HM l1 l2 l3 p1 cf cf1 cn1
    obtain ⟨k, hk, rfl, hmid⟩ := hrel
    by_cases hlt : k < l.length
    · obtain ⟨kb, c', n', M', md⟩ := hmid
      have S' := H1.out.kb kb
      obtain ⟨b, off, rfl, hb, d0, ds⟩ := str_at (HS.out wr kb) hlt
      obtain ⟨x, hx⟩ : ∃ x, l[k] = x := ⟨_, rfl⟩
      rw [hx] at d0 ds
      have cw := S'.cw
      have hxl : x ∈ l := by rw [← hx]; exact List.getElem_mem hlt
      have hk' : k < (succ ms (txt role)).length := by rw [← HL.out]; exact hlt
      have hx' : (succ ms (txt role))[k] = x := by rw [← hx]; congr 1; exact HL.out.symm
      have C := Lib.hid (IH.out x c' n' wr md.mu (HU.out x hxl).2 (HU.out x hxl).1 md.bd (by have := md.size; have := HSZ.out; omega) S' M')
      have HMD := Lib.hid (And.intro kb md)
      clear kb M' md S' hx hxl
      go_wp2_with (go_at_call 192; refine C.out.mono ?_; rintro e w2 ⟨rfl, kb2, c2, n2, M2, g2⟩; have HMN := Lib.hid (show MidP w ms U bf (txt role) c n (k + 1) w2 from ⟨HMD.out.1.trans kb2, c2, n2, M2, HMD.out.2.step hk' (by rw [hx']; exact g2)⟩); clear kb2 M2 g2)
      go_roundw
      case rel => exact ⟨k + 1, by omega, by go_num, HMN.out⟩
      case measure => simp [intOf]; omega
    · have HMD := Lib.hid hmid
      clear hmid
      go_wp2_with fail
      go_end0
      have hkl : k = (succ ms (txt role)).length := by rw [← HL.out]; omega
      obtain ⟨kb, c', n', M', md⟩ := HMD.out
      exact ⟨rfl, kb, c', n', M', md.all hkl⟩
theorem mu_zero {U : List Txt} {c : Txt → Nat} {r : Txt} (hr : r ∈ U) (h : mu U c = 0) : c r ≠ 0 := by
  intro e
  unfold mu at h
  have : r ∈ U.filter fun s => c s == 0 := List.mem_filter.2 ⟨hr, by simp [e]⟩
  rw [List.eq_nil_of_length_eq_zero h] at this
  simp at this
theorem seen1_in (ms : List Mbr) (U : List Txt) (pf pn pw bf bn N : Nat) (sm : Small (ms.length * 16) ∧ ∀ m ∈ ms, Small m.of.size) (hU : ∀ s ∈ U, ∀ x ∈ succ ms s, txt x ∈ U) :
    ∀ (m : Nat) (role : ByteArray) (c : Txt → Nat) (n : Nat) (w : World), mu U c ≤ m → Small role.size → txt role ∈ U → (∀ s, c s ≤ n) → n + 1 + phi ms U c ≤ 140737488351232 → SeenIn w ms pf pn pw bf bn N → MapF Tryz.prog 9 w bf n (.int .i64 0) (cntV c) →
      Calls Tryz.prog 192 #[.string role, .pointer (some ⟨pf, 0, none⟩), .pointer (some ⟨pn, 0, none⟩), .pointer (some ⟨pw, 0, none⟩)] w (SeenP w ms U bf (txt role) c n) := by
  intro m
  induction m with
  | zero =>
    intro role c n w hmu hrs hrU hbd hsz S M
    exact seen1_again ms U pf pn pw bf bn N role c n w hrs (by omega) hbd S M (Nat.pos_of_ne_zero (mu_zero hrU (by omega)))
  | succ m ih =>
    intro role c n w hmu hrs hrU hbd hsz S M
    by_cases h0 : c (txt role) = 0
    · exact seen1_first ms U pf pn pw bf bn N sm hU role c n w hrs hrU hbd hsz S M h0 fun x c1 n1 w1 h1 h2 h3 h4 h5 h6 h7 => ih x c1 n1 w1 (by omega) h2 h3 h4 h5 h6 h7
    · exact seen1_again ms U pf pn pw bf bn N role c n w hrs (by omega) hbd S M (Nat.pos_of_ne_zero h0)
end Go.Proofs.YtlklmekapbojdaaGreat

