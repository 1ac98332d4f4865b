/- Contracts of the program, part 4. -/
import Derived.Deep.AppendLies
import Derived.Deep.Upon
import Derived.OneCell
import Derived.OwnWalk
import Derived.Laws.AppendOwn
import Derived.ProofKit
import Derived.OpenShut
import Derived.Deep.Slices
import Derived.ChangeOld
import Derived.SizedLaws
import Derived.WalkKit
import Derived.WalkSpells
import Derived.WalkLawsBesides
import Derived.Lib.Hide
import Derived.Deep.QuietTactic
import Derived.BigQuiet
import Derived.Below
import Derived.Deep.Draws
import Derived.StillTailTactics
import Derived.Laws.Cells
import Derived.Laws.IdiomCopy
import Derived.Test.YtgkhmnamkfgciaaGreatRows
import Derived.Maps.Own
import Derived.Maps.Views
import Derived.OrdersHeld
import Derived.Deep.RegionHeld3
import Derived.Laws.EntriesVeiled
import Derived.Lib.Bytealg
import Derived.Test.YtgkhmnamkfgciaaGreatPartM1
import Derived.Test.YtgkhmnamkfgciaaGreatPartM2
import Derived.Test.YtgkhmnamkfgciaaGreatPartM3
namespace Go.Proofs.YtgkhmnamkfgciaaGreat
open Go.RowKit
set_option linter.unusedVariables false
structure Mbr where
  role : ByteArray
  of : ByteArray
structure Rls where
  names : List ByteArray
  members : List Mbr
def MbrR (_ : World) (cs : List Value) (m : Mbr) : Prop := cs = [.string m.role, .string m.of] ∧ Small m.role.size ∧ Small m.of.size
def mbrC (m : Mbr) : List Value := [.string m.role, .string m.of]
abbrev Txt := List UInt8
def txt (s : ByteArray) : Txt := s.data.toList
/-- whom a role joins -/
def succ (ms : List Mbr) (s : Txt) : List ByteArray := (ms.filter fun m => txt m.role == s).map (·.of)
inductive Reach (ms : List Mbr) : Txt → Txt → Prop
  | refl (s : Txt) : Reach ms s s
  | step {s t u : Txt} {x : ByteArray} : Reach ms s t → x ∈ succ ms t → txt x = u → Reach ms s u
theorem Reach.trans {ms : List Mbr} {s t u : Txt} (h1 : Reach ms s t) (h2 : Reach ms t u) : Reach ms s u := by
  induction h2 with
  | refl => exact h1
  | step _ hx he ih => exact .step ih hx he
theorem Reach.head {ms : List Mbr} {s u : Txt} {x : ByteArray} (hx : x ∈ succ ms s) (h : Reach ms (txt x) u) : Reach ms s u := (Reach.step (.refl s) hx rfl).trans h
/-- a set that holds s and all that each of its own joins holds all that s reaches -/
theorem Reach.closed {ms : List Mbr} {s u : Txt} (h : Reach ms s u) (p : Txt → Prop) (h0 : p s) (hc : ∀ t, p t → ∀ x ∈ succ ms t, p (txt x)) : p u := by
  induction h with
  | refl => exact h0
  | step _ hx he ih => rw [← he]; exact hc _ ih _ hx
/-- how many edges of those not yet seen -/
def phi (ms : List Mbr) (U : List Txt) (c : Txt → Nat) : Nat := (U.map fun s => if c s = 0 then (succ ms s).length else 0).sum
def mu (U : List Txt) (c : Txt → Nat) : Nat := (U.filter fun s => c s == 0).length
theorem phi_mono {ms : List Mbr} {U : List Txt} {c c' : Txt → Nat} (h : ∀ s, c s ≤ c' s) : phi ms U c' ≤ phi ms U c := by
  induction U with
  | nil => simp [phi]
  | cons a U ih =>
    unfold phi at ih ⊢
    simp only [List.map_cons, List.sum_cons]
    have := h a
    by_cases h1 : c a = 0
    · by_cases h2 : c' a = 0 <;> simp [h1, h2] <;> omega
    · have h2 : c' a ≠ 0 := by omega
      simp [h1, h2]; omega
theorem mu_mono {U : List Txt} {c c' : Txt → Nat} (h : ∀ s, c s ≤ c' s) : mu U c' ≤ mu U c := by
  induction U with
  | nil => simp [mu]
  | cons a U ih =>
    unfold mu at ih ⊢
    have := h a
    by_cases h1 : c a = 0
    · by_cases h2 : c' a = 0 <;> simp [h1, h2] <;> omega
    · have h2 : c' a ≠ 0 := by omega
      simp [h1, h2]; omega
/-- s is seen once more -/
def bump (c : Txt → Nat) (s : Txt) : Txt → Nat := fun x => if x = s then c s + 1 else c x
theorem bump_le (c : Txt → Nat) (s x : Txt) : c x ≤ bump c s x := by unfold bump; split <;> simp_all
theorem phi_bump {ms : List Mbr} {U : List Txt} {c : Txt → Nat} {s : Txt} (hs : s ∈ U) (h0 : c s = 0) : phi ms U (bump c s) + (succ ms s).length ≤ phi ms U c := by
  induction U with
  | nil => simp at hs
  | cons a U ih =>
    unfold phi at ih ⊢
    simp only [List.map_cons, List.sum_cons]
    by_cases e : a = s
    · subst e
      have hm : phi ms U (bump c a) ≤ phi ms U c := phi_mono (bump_le c a)
      unfold phi at hm
      have hb : bump c a a ≠ 0 := by simp [bump]
      simp only [h0, if_true, if_neg hb]
      omega
    · have hs' : s ∈ U := (List.mem_cons.1 hs).resolve_left (fun h => e h.symm)
      have := ih hs'
      have hb : bump c s a = c a := by simp [bump, e]
      rw [hb]; omega
theorem mu_bump {U : List Txt} {c : Txt → Nat} {s : Txt} (hs : s ∈ U) (h0 : c s = 0) : mu U (bump c s) < mu U c := by
  induction U with
  | nil => simp at hs
  | cons a U ih =>
    unfold mu at ih ⊢
    by_cases e : a = s
    · subst e
      have hm : mu U (bump c a) ≤ mu U c := mu_mono (bump_le c a)
      unfold mu at hm
      have hb : (bump c a a == 0) = false := by simp [bump]
      simp only [List.filter_cons, h0, hb, beq_self_eq_true, if_true, Bool.false_eq_true, if_false, List.length_cons]
      omega
    · have hs' : s ∈ U := (List.mem_cons.1 hs).resolve_left (fun h => e h.symm)
      have := ih hs'
      have hb : bump c s a = c a := by simp [bump, e]
      simp only [List.filter_cons, hb]
      split <;> simp <;> omega
/-- what a call of 'walk' at r makes of the counts -/
structure Grown (ms : List Mbr) (U : List Txt) (r : Txt) (c : Txt → Nat) (n : Nat) (c' : Txt → Nat) (n' : Nat) : Prop where
  le : ∀ s, c s ≤ c' s
  has : 0 < c' r
  bd : ∀ s, c' s ≤ n'
  src : ∀ s, 0 < c' s → 0 < c s ∨ Reach ms r s
  shut : ∀ s, 0 < c' s → 0 < c s ∨ ∀ x ∈ succ ms s, 0 < c' (txt x)
  size : n' + phi ms U c' ≤ n + 1 + phi ms U c
/-- the same, after k of those that r joins -/
structure Mid (ms : List Mbr) (U : List Txt) (r : Txt) (c : Txt → Nat) (n k : Nat) (c' : Txt → Nat) (n' : Nat) : Prop where
  le : ∀ s, c s ≤ c' s
  has : 0 < c' r
  bd : ∀ s, c' s ≤ n'
  src : ∀ s, 0 < c' s → 0 < c s ∨ Reach ms r s
  did : ∀ x ∈ (succ ms r).take k, 0 < c' (txt x)
  shut : ∀ s, 0 < c' s → 0 < c s ∨ s = r ∨ ∀ x ∈ succ ms s, 0 < c' (txt x)
  size : n' + phi ms U c' + (succ ms r).length ≤ n + 1 + k + phi ms U c
  mu : mu U c' < mu U c
theorem bump_pos {c : Txt → Nat} {r s : Txt} (h : 0 < bump c r s) : 0 < c s ∨ s = r := by
  unfold bump at h
  by_cases e : s = r
  · exact .inr e
  · rw [if_neg e] at h; exact .inl h
theorem bump_self (c : Txt → Nat) (r : Txt) : bump c r r = c r + 1 := by simp [bump]
theorem bump_bd {c : Txt → Nat} {r : Txt} {n : Nat} (h : ∀ s, c s ≤ n) (s : Txt) : bump c r s ≤ n + 1 := by
  unfold bump
  have h1 := h s
  have h2 := h r
  split <;> omega
theorem Grown.again {ms : List Mbr} {U : List Txt} {r : Txt} {c : Txt → Nat} {n : Nat} (h : ∀ s, c s ≤ n) (h0 : 0 < c r) : Grown ms U r c n (bump c r) (n + 1) :=
  ⟨bump_le c r, by rw [bump_self]; omega, bump_bd h, fun s hs => by
    rcases bump_pos hs with h1 | rfl
    · exact .inl h1
    · exact .inl h0, fun s hs => by
    rcases bump_pos hs with h1 | rfl
    · exact .inl h1
    · exact .inl h0, by have := phi_mono (ms := ms) (U := U) (bump_le c r); omega⟩
theorem Mid.start {ms : List Mbr} {U : List Txt} {r : Txt} {c : Txt → Nat} {n : Nat} (h : ∀ s, c s ≤ n) (hr : r ∈ U) (h0 : c r = 0) : Mid ms U r c n 0 (bump c r) (n + 1) :=
  ⟨bump_le c r, by rw [bump_self]; omega, bump_bd h, fun s hs => by
    rcases bump_pos hs with h1 | rfl
    · exact .inl h1
    · exact .inr (.refl _), fun x hx => by simp at hx, fun s hs => by
    rcases bump_pos hs with h1 | rfl
    · exact .inl h1
    · exact .inr (.inl rfl), by have := phi_bump (ms := ms) hr h0; omega, mu_bump hr h0⟩
theorem Mid.step {ms : List Mbr} {U : List Txt} {r : Txt} {c c1 c2 : Txt → Nat} {n n1 n2 k : Nat} (h : Mid ms U r c n k c1 n1) (hk : k < (succ ms r).length) (g : Grown ms U (txt (succ ms r)[k]) c1 n1 c2 n2) : Mid ms U r c n (k + 1) c2 n2 :=
  ⟨fun s => Nat.le_trans (h.le s) (g.le s), Nat.lt_of_lt_of_le h.has (g.le r), g.bd, fun s hs => by
    rcases g.src s hs with h1 | h1
    · exact h.src s h1
    · exact .inr (.head (List.getElem_mem hk) h1), fun x hx => by
    rw [List.take_succ_eq_append_getElem hk, List.mem_append, List.mem_singleton] at hx
    rcases hx with hx | rfl
    · exact Nat.lt_of_lt_of_le (h.did x hx) (g.le _)
    · exact g.has, fun s hs => by
    rcases g.shut s hs with h1 | h1
    · rcases h.shut s h1 with h2 | h2 | h2
      · exact .inl h2
      · exact .inr (.inl h2)
      · exact .inr (.inr fun x hx => Nat.lt_of_lt_of_le (h2 x hx) (g.le _))
    · exact .inr (.inr h1), by have := h.size; have := g.size; omega, Nat.lt_of_le_of_lt (mu_mono g.le) h.mu⟩
theorem Mid.all {ms : List Mbr} {U : List Txt} {r : Txt} {c c' : Txt → Nat} {n n' k : Nat} (h : Mid ms U r c n k c' n') (hk : k = (succ ms r).length) : Grown ms U r c n c' n' :=
  ⟨h.le, h.has, h.bd, h.src, fun s hs => by
    rcases h.shut s hs with h1 | rfl | h1
    · exact .inl h1
    · exact .inr fun x hx => h.did x (by rw [hk, List.take_length]; exact hx)
    · exact .inr h1, by have := h.size; omega⟩
/-- from no counts: what is counted is what is reached -/
theorem Grown.reach {ms : List Mbr} {U : List Txt} {r : Txt} {n : Nat} {c' : Txt → Nat} {n' : Nat} (g : Grown ms U r (fun _ => 0) n c' n') (s : Txt) : 0 < c' s ↔ Reach ms r s := by
  constructor
  · intro h
    rcases g.src s h with h1 | h1
    · omega
    · exact h1
  · intro h
    refine h.closed (fun t => 0 < c' t) g.has fun t ht x hx => ?_
    rcases g.shut t ht with h1 | h1
    · omega
    · exact h1 x hx
end Go.Proofs.YtgkhmnamkfgciaaGreat

namespace Go.Proofs.YtgkhmnamkfgciaaGreat
open Go.RowKit Go.Deep
set_option maxRecDepth 100000
set_option linter.unusedVariables false
def cntV (c : Txt → Nat) : Txt → Value := fun s => .int .i64 (c s)
theorem zero_int (w : World) : (zeroValue 3).run Tryz.prog w = .ok (.int .i64 0) w := by kernel_rfl
theorem zero_strs (w : World) : (zeroValue 26).run Tryz.prog w = .ok (.slice none 0 0) w := by kernel_rfl
/-- at each text, whom it joins; bf is the other map's block -/
def NextAt (w : World) (ms : List Mbr) (bf bn N : Nat) : Prop :=
  ∃ nx : Txt → Value, MapF Tryz.prog 9 w bn N (.slice none 0 0) nx ∧ ∀ s, ∃ h : Hd, nx s = h.v ∧ w.ownsRow 0 9 1 h.v (succ ms s).length ((succ ms s).flatMap nameC) ∧ bf ∉ h.blk
structure SeenIn (w : World) (ms : List Mbr) (pf pn pw bf bn N : Nat) : Prop where
  cf : w.cell? ⟨pf, 0, none⟩ = some (.map (some bf))
  cn : w.cell? ⟨pn, 0, none⟩ = some (.map (some bn))
  cw : w.cell? ⟨pw, 0, none⟩ = some (.func (.func 205) #[] #[.pointer (some ⟨pf, 0, none⟩), .pointer (some ⟨pn, 0, none⟩), .pointer (some ⟨pw, 0, none⟩)])
  nx : NextAt w ms bf bn N
  ne : pf ≠ bf ∧ pn ≠ bf ∧ pw ≠ bf ∧ bn ≠ bf
theorem NextAt.kb {w w' : World} {ms : List Mbr} {bf bn N : Nat} (h : NextAt w ms bf bn N) (k : Kb (fun g => g = bf) w w') (hb : bn ≠ bf) : NextAt w' ms bf bn N := by
  obtain ⟨nx, h1, h2⟩ := h
  refine ⟨nx, h1.kb k hb, fun s => ?_⟩
  obtain ⟨h, e, o, n⟩ := h2 s
  exact ⟨h, e, own_kb o k fun g hg e2 => n (by subst e2; exact Hd.mem_blk.2 hg), n⟩
theorem SeenIn.kb {w w' : World} {ms : List Mbr} {pf pn pw bf bn N : Nat} (h : SeenIn w ms pf pn pw bf bn N) (k : Kb (fun g => g = bf) w w') : SeenIn w' ms pf pn pw bf bn N :=
  ⟨k.cell h.cf h.ne.1, k.cell h.cn h.ne.2.1, k.cell h.cw h.ne.2.2.1, h.nx.kb k h.ne.2.2.2, h.ne⟩
def SeenP (w : World) (ms : List Mbr) (U : List Txt) (bf : Nat) (r : Txt) (c : Txt → Nat) (n : Nat) (e : Ending) (w' : World) : Prop :=
  e = .returned (.tuple #[]) ∧ Kb (fun g => g = bf) w w' ∧ ∃ (c' : Txt → Nat) (n' : Nat), MapF Tryz.prog 9 w' bf n' (.int .i64 0) (cntV c') ∧ Grown ms U r c n c' n'
def MidP (w : World) (ms : List Mbr) (U : List Txt) (bf : Nat) (r : Txt) (c : Txt → Nat) (n k : Nat) (w' : World) : Prop :=
  Kb (fun g => g = bf) w w' ∧ ∃ (c' : Txt → Nat) (n' : Nat), MapF Tryz.prog 9 w' bf n' (.int .i64 0) (cntV c') ∧ Mid ms U r c n k c' n'
theorem succ_small {ms : List Mbr} (sm : Small (ms.length * 16) ∧ ∀ m ∈ ms, Small m.of.size) (s : Txt) : Small ((succ ms s).length * 16) ∧ ∀ x ∈ succ ms s, Small x.size := by
  unfold succ
  constructor
  · have h1 := sm.1
    have h2 : (ms.filter fun m => txt m.role == s).length ≤ ms.length := List.length_filter_le _ _
    unfold Small at h1 ⊢
    rw [List.length_map]
    omega
  · intro x hx
    rw [List.mem_map] at hx
    obtain ⟨m, hm, rfl⟩ := hx
    exact sm.2 m (List.mem_filter.1 hm).1
theorem cnt_bump {c : Txt → Nat} {r : Txt} : (fun x => if x = r then Value.int .i64 ((c r : Int) + 1) else cntV c x) = cntV (bump c r) := by
  funext x
  unfold cntV bump
  split <;> simp_all
/-- the state behind the count of role -/
theorem seen1_head {ms : List Mbr} {pf pn pw bf bn N : Nat} {role : ByteArray} {c : Txt → Nat} {n : Nat} {w : World} (hrs : Small role.size) (hn : n < 140737488351232) (S : SeenIn w ms pf pn pw bf bn N) (M : MapF Tryz.prog 9 w bf n (.int .i64 0) (cntV c)) :
    (Instr.lookup 168 (.map (some bf)) (.string role) false).run Tryz.prog w = .ok (.int .i64 (c (txt role))) w ∧
    ∃ w1, (Instr.mapUpdate 168 (.map (some bf)) (.string role) (.int .i64 ((c (txt role) : Int) + 1))).run Tryz.prog w = .ok () w1 ∧ (Instr.lookup 168 (.map (some bf)) (.string role) false).run Tryz.prog w1 = .ok (.int .i64 ((c (txt role) : Int) + 1)) w1 ∧ SeenIn w1 ms pf pn pw bf bn N ∧ MapF Tryz.prog 9 w1 bf (n + 1) (.int .i64 0) (cntV (bump c (txt role))) ∧ Kb (fun g => g = bf) w w1 := by
  obtain ⟨w1, p1, M1, g1⟩ := M.put Tryz.underlying9 Tryz.underlying168 (by unfold maxLen; omega) role hrs.max (Value.int .i64 ((c (txt role) : Int) + 1))
  have k1 : Kb (fun g => g = bf) w w1 := (Kb.of_grown g1).mono fun g _ e => (Option.some.inj e).symm
  have M2 : MapF Tryz.prog 9 w1 bf (n + 1) (.int .i64 0) (cntV (bump c (txt role))) := by rw [← cnt_bump]; exact M1
  refine ⟨M.look Tryz.underlying9 Tryz.underlying168 (zero_int w) role hrs.max, w1, p1, ?_, S.kb k1, M2, k1⟩
  rw [M2.look Tryz.underlying9 Tryz.underlying168 (zero_int w1) role hrs.max]
  show Result.ok (Value.int .i64 ((bump c (txt role) (txt role) : Nat) : Int)) w1 = _
  rw [bump_self]; simp
set_option maxHeartbeats 4000000 in
theorem seen1_again (ms : List Mbr) (U : List Txt) (pf pn pw bf bn N : Nat) (role : ByteArray) (c : Txt → Nat) (n : Nat) (w : World) (hrs : Small role.size) (hn : n < 140737488351232) (hbd : ∀ s, c s ≤ n) (S : SeenIn w ms pf pn pw bf bn N) (M : MapF Tryz.prog 9 w bf n (.int .i64 0) (cntV c)) (h0 : 0 < c (txt role)) :
    Calls Tryz.prog 205 #[.string role, .pointer (some ⟨pf, 0, none⟩), .pointer (some ⟨pn, 0, none⟩), .pointer (some ⟨pw, 0, none⟩)] w (SeenP w ms U bf (txt role) c n) := by
  have cf := S.cf
  have hcn := hbd (txt role)
  obtain ⟨l1, w1, p1, l2, S1, M1, k1⟩ := seen1_head hrs hn S M
  have cf1 := S1.cf
  have H1 := Lib.hid (And.intro S1 (And.intro M1 k1))
  have HB := Lib.hid hbd
  have H0 := Lib.hid h0
  obtain ⟨q, hq⟩ : ∃ q, q = c (txt role) := ⟨_, rfl⟩
  rw [← hq] at l1 p1 l2 hcn h0
  have HQ := Lib.hid hq
  clear S M S1 M1 k1 hbd hq
  go_enter Tryz.func205, Tryz.ntmps205
  go_wp2_with fail
  go_end0
  exact ⟨rfl, H1.out.2.2, _, _, H1.out.2.1, Grown.again HB.out H0.out⟩
set_option maxHeartbeats 4000000 in
theorem seen1_first (ms : List Mbr) (U : List Txt) (pf pn pw bf bn N : Nat) (sm : Small (ms.length * 16) ∧ ∀ m ∈ ms, Small m.of.size) (hU : ∀ s ∈ U, ∀ x ∈ succ ms s, txt x ∈ U) (role : ByteArray) (c : Txt → Nat) (n : Nat) (w : World) (hrs : Small role.size) (hrU : txt role ∈ U) (hbd : ∀ s, c s ≤ n) (hsz : n + 1 + phi ms U c ≤ 140737488351232) (S : SeenIn w ms pf pn pw bf bn N) (M : MapF Tryz.prog 9 w bf n (.int .i64 0) (cntV c)) (h0 : c (txt role) = 0)
    (ih : ∀ (x : ByteArray) (c1 : Txt → Nat) (n1 : Nat) (w1 : World), mu U c1 < mu U c → Small x.size → txt x ∈ U → (∀ s, c1 s ≤ n1) → n1 + 1 + phi ms U c1 ≤ 140737488351232 → SeenIn w1 ms pf pn pw bf bn N → MapF Tryz.prog 9 w1 bf n1 (.int .i64 0) (cntV c1) →
      Calls Tryz.prog 205 #[.string x, .pointer (some ⟨pf, 0, none⟩), .pointer (some ⟨pn, 0, none⟩), .pointer (some ⟨pw, 0, none⟩)] w1 (SeenP w1 ms U bf (txt x) c1 n1)) :
    Calls Tryz.prog 205 #[.string role, .pointer (some ⟨pf, 0, none⟩), .pointer (some ⟨pn, 0, none⟩), .pointer (some ⟨pw, 0, none⟩)] w (SeenP w ms U bf (txt role) c n) := by
  have cf := S.cf
  obtain ⟨l1, w1, p1, l2, S1, M1, k1⟩ := seen1_head hrs (by omega) S M
  rw [h0] at l1 p1 l2
  simp only [Int.natCast_zero, Int.zero_add] at l1 p1 l2
  have cf1 := S1.cf
  have cn1 := S1.cn
  obtain ⟨nx, N1, N2⟩ := S.nx
  obtain ⟨h, hh, ho, hb⟩ := N2 (txt role)
  have l3 := (N1.kb k1 S.ne.2.2.2).look Tryz.underlying9 Tryz.underlying149 (zero_strs w1) role hrs.max
  replace l3 : _ = Result.ok (Value.slice h.a (succ ms (txt role)).length h.c) w1 := l3.trans (by rw [show nx role.data.toList = nx (txt role) from rfl, hh, own_slice ho])
  obtain ⟨sl, ss⟩ := succ_small sm (txt role)
  have hsl : ∀ w', Kb (fun g => g = bf) w w' → SlAt w' 1 StrR h.a h.c (succ ms (txt role)) := fun w' k => own_slf nameC (own_kb ho k fun g hg e2 => hb (by subst e2; exact Hd.mem_blk.2 hg)) (fun x hx => ⟨rfl, rfl, ss x hx⟩) sl
  have hlen := (hsl w1 k1).len
  have HS := Lib.hid hsl
  have H1 := Lib.hid S
  have HM := Lib.hid (show MidP w ms U bf (txt role) c n 0 w1 from ⟨k1, _, _, M1, Mid.start hbd hrU h0⟩)
  have HU := Lib.hid (show ∀ x ∈ succ ms (txt role), txt x ∈ U ∧ Small x.size from fun x hx => ⟨hU _ hrU x hx, ss x hx⟩)
  have IH := Lib.hid ih
  have HSZ := Lib.hid hsz
  obtain ⟨ha, hn, hc⟩ := h
  dsimp only at l3 HS
  obtain ⟨l, hl⟩ : ∃ l, l = succ ms (txt role) := ⟨_, rfl⟩
  rw [← hl] at l3 hlen HS HU
  have HL := Lib.hid hl
  clear S M S1 M1 k1 hbd N1 N2 hh ho hb sm hU hrU ih sl ss hsl hl h0 hsz
  go_enter Tryz.func205, Tryz.ntmps205
  go_wp2_with fail
  go_loopw [19] (fun i wr => ∃ k : Nat, k ≤ l.length ∧ i = .int .i64 k ∧ MidP w ms U bf (txt role) c n k wr) (fun i _ => l.length - (intOf i).toNat)
  case atStart => exact ⟨0, Nat.zero_le _, rfl, HM.out⟩
  case round =>
    clear HM l1 l2 l3 p1 cf cf1 cn1
    obtain ⟨k, hk, rfl, hmid⟩ := hrel
    by_cases hlt : k < l.length
    · obtain ⟨kb, c', n', M', md⟩ := hmid
      have S' := H1.out.kb kb
      obtain ⟨b, off, rfl, hb, d0, ds⟩ := str_at (HS.out wr kb) hlt
      obtain ⟨x, hx⟩ : ∃ x, l[k] = x := ⟨_, rfl⟩
      rw [hx] at d0 ds
      have cw := S'.cw
      have hxl : x ∈ l := by rw [← hx]; exact List.getElem_mem hlt
      have hk' : k < (succ ms (txt role)).length := by rw [← HL.out]; exact hlt
      have hx' : (succ ms (txt role))[k] = x := by rw [← hx]; congr 1; exact HL.out.symm
      have C := Lib.hid (IH.out x c' n' wr md.mu (HU.out x hxl).2 (HU.out x hxl).1 md.bd (by have := md.size; have := HSZ.out; omega) S' M')
      have HMD := Lib.hid (And.intro kb md)
      clear kb M' md S' hx hxl
      go_wp2_with (go_at_call 205; refine C.out.mono ?_; rintro e w2 ⟨rfl, kb2, c2, n2, M2, g2⟩; have HMN := Lib.hid (show MidP w ms U bf (txt role) c n (k + 1) w2 from ⟨HMD.out.1.trans kb2, c2, n2, M2, HMD.out.2.step hk' (by rw [hx']; exact g2)⟩); clear kb2 M2 g2)
      go_roundw
      case rel => exact ⟨k + 1, by omega, by go_num, HMN.out⟩
      case measure => simp [intOf]; omega
    · have HMD := Lib.hid hmid
      clear hmid
      go_wp2_with fail
      go_end0
      have hkl : k = (succ ms (txt role)).length := by rw [← HL.out]; omega
      obtain ⟨kb, c', n', M', md⟩ := HMD.out
      exact ⟨rfl, kb, c', n', M', md.all hkl⟩
theorem mu_zero {U : List Txt} {c : Txt → Nat} {r : Txt} (hr : r ∈ U) (h : mu U c = 0) : c r ≠ 0 := by
  intro e
  unfold mu at h
  have : r ∈ U.filter fun s => c s == 0 := List.mem_filter.2 ⟨hr, by simp [e]⟩
  rw [List.eq_nil_of_length_eq_zero h] at this
  simp at this
theorem seen1_in (ms : List Mbr) (U : List Txt) (pf pn pw bf bn N : Nat) (sm : Small (ms.length * 16) ∧ ∀ m ∈ ms, Small m.of.size) (hU : ∀ s ∈ U, ∀ x ∈ succ ms s, txt x ∈ U) :
    ∀ (m : Nat) (role : ByteArray) (c : Txt → Nat) (n : Nat) (w : World), mu U c ≤ m → Small role.size → txt role ∈ U → (∀ s, c s ≤ n) → n + 1 + phi ms U c ≤ 140737488351232 → SeenIn w ms pf pn pw bf bn N → MapF Tryz.prog 9 w bf n (.int .i64 0) (cntV c) →
      Calls Tryz.prog 205 #[.string role, .pointer (some ⟨pf, 0, none⟩), .pointer (some ⟨pn, 0, none⟩), .pointer (some ⟨pw, 0, none⟩)] w (SeenP w ms U bf (txt role) c n) := by
  intro m
  induction m with
  | zero =>
    intro role c n w hmu hrs hrU hbd hsz S M
    exact seen1_again ms U pf pn pw bf bn N role c n w hrs (by omega) hbd S M (Nat.pos_of_ne_zero (mu_zero hrU (by omega)))
  | succ m ih =>
    intro role c n w hmu hrs hrU hbd hsz S M
    by_cases h0 : c (txt role) = 0
    · exact seen1_first ms U pf pn pw bf bn N sm hU role c n w hrs hrU hbd hsz S M h0 fun x c1 n1 w1 h1 h2 h3 h4 h5 h6 h7 => ih x c1 n1 w1 (by omega) h2 h3 h4 h5 h6 h7
    · exact seen1_again ms U pf pn pw bf bn N role c n w hrs (by omega) hbd S M (Nat.pos_of_ne_zero h0)
end Go.Proofs.YtgkhmnamkfgciaaGreat

namespace Go.Proofs.YtgkhmnamkfgciaaGreat
open Go.RowKit
section
variable {P : Program} {ops : Array Oper} {Q : Exit → Act → World → Prop} {md : Region.Mode} {T : World → Prop} {m : Nat}
def wpAnyS (P : Program) (md : Region.Mode) (ops : Array Oper) (Q : Exit → Act → World → Prop) (T : World → Prop) (m : Nat) : Nat → Array Bool → Act → World → Prop
  | 0, listed, a, w => Region.ready md ops listed = [] ∧ Q .normal a w
  | fuel + 1, listed, a, w =>
    (Region.ready md ops listed = [] → Q .normal a w) ∧
    ∀ i ∈ Region.ready md ops listed, wpOp P ops Q i (fun a' w' => ((listed.setIfInBounds i true).getD m false = false → T w') ∧ wpAnyS P md ops Q T m fuel (listed.setIfInBounds i true) a' w') a w
theorem wpAny_of_S : ∀ (fuel : Nat) (listed : Array Bool) (a : Act) (w : World), wpAnyS P md ops Q T m fuel listed a w → wpAny P md ops Q fuel listed a w
  | 0, _, _, _, h => h
  | fuel + 1, _, _, _, h => ⟨h.1, fun i hi => wpOp_mono (fun a' w' h' => wpAny_of_S fuel _ a' w' h'.2) (h.2 i hi)⟩
theorem getD_set_other {listed : Array Bool} {i j : Nat} (d : Bool) (h : i ≠ j) : (listed.setIfInBounds i true).getD j d = listed.getD j d := by
  simp [Array.getElem?_setIfInBounds_ne h]
theorem wpAnyS_first {i : Nat} {oi : Oper} {v : Value} (hi : ops[i]? = some oi) (hsel : ∀ (j : Nat) (o : Oper) cs b, ops[j]? = some o → o.op ≠ .select cs b)
    (hQ : ∀ c a w, Q (.panic c) (a.put oi.dst v) w → Q (.panic c) a w) (hne : i ≠ m) (hm : ∀ om, ops[m]? = some om → ∃ e ∈ om.after, Region.binds md e = true ∧ e.on = i) :
    ∀ (fuel : Nat) (listed : Array Bool) (a : Act) (w : World),
      (∀ j oj, ops[j]? = some oj → j ≠ i → listed.getD j true = false → (∀ e ∈ oj.after, Region.binds md e = true → e.on ≠ i) → oi.apart ops oj = true) →
      i ∈ Region.ready md ops listed → YieldsIf P ops T oi v a → T w → listed.getD m false = false →
      wpAnyS P md ops Q T m fuel (listed.setIfInBounds i true) (a.put oi.dst v) w → wpAnyS P md ops Q T m (fuel + 1) listed a w := by
  intro fuel
  induction fuel with
  | zero =>
    intro listed a w _ hr hy hS hlm H
    refine ⟨fun h => (by rw [h] at hr; cases hr), fun j hj => ?_⟩
    by_cases hji : j = i
    · subst hji; exact hy.wpOp hi hS ⟨fun _ => hS, H⟩
    · have := ready_mono hj hji
      rw [H.1] at this
      cases this
  | succ fuel ih =>
    intro listed a w hfree hr hy hS hlm H
    refine ⟨fun h => (by rw [h] at hr; cases hr), fun j hj => ?_⟩
    by_cases hji : j = i
    · subst hji; exact hy.wpOp hi hS ⟨fun _ => hS, H⟩
    · have h1 := H.2 j (ready_mono hj hji)
      obtain ⟨hjun, oj, hoj, hall⟩ := mem_ready.1 hj
      have hnot : ∀ e ∈ oj.after, Region.binds md e = true → e.on ≠ i := fun e he hb heq => by
        have h1 := hall e he hb
        have h0 := (mem_ready.1 hr).1
        rw [heq] at h1
        rcases Nat.lt_or_ge i listed.size with h' | h'
        · simp [h'] at h0 h1; rw [h0] at h1; cases h1
        · simp [Array.getElem?_eq_none h'] at h1
      have hjm : j ≠ m := fun e => by
        subst e
        obtain ⟨e, he, hb, hei⟩ := hm oj hoj
        exact hnot e he hb hei
      have h2 := wpOp_putIf hoj (hfree j oj hoj hji hjun hnot) (fun cs b => hsel i oi cs b hi) (fun cs b => hsel j oj cs b hoj) hQ hy h1
      have hfree' : ∀ k ok, ops[k]? = some ok → k ≠ i → (listed.setIfInBounds j true).getD k true = false →
          (∀ e ∈ ok.after, Region.binds md e = true → e.on ≠ i) → oi.apart ops ok = true := fun k ok hk hki hun hno => by
        refine hfree k ok hk hki ?_ hno
        by_cases hjk : j = k
        · subst hjk; exact hjun
        · rw [getD_set_ne true hjk] at hun; exact hun
      have hlm' : (listed.setIfInBounds j true).getD m false = false := by rw [getD_set_other false hjm]; exact hlm
      have hlm2 : ((listed.setIfInBounds i true).setIfInBounds j true).getD m false = false := by rw [getD_set_other false hjm, getD_set_other false hne]; exact hlm
      refine wpOp_mono (fun a' w' h3 => ⟨fun _ => h3.2.1 hlm2, ih (listed.setIfInBounds j true) a' w' hfree' (ready_mono hr (Ne.symm hji)) h3.1 (h3.2.1 hlm2) hlm' ?_⟩) h2
      rw [Array.setIfInBounds_comm _ _ hji]
      exact h3.2.2
theorem andThen_inv {α β : Type} {r : Result α} {f : α → World → Result β} {n : β} {w' : World} (h : r.andThen f = .ok n w') : ∃ a w1, r = .ok a w1 ∧ f a w1 = .ok n w' := by
  cases r with
  | ok a w1 => exact ⟨a, w1, rfl, h⟩
  | halt x w1 => simp [Result.andThen] at h
/-- an operation that reads -/
def readB (o : Oper) : Bool := o.guard.isNone && match o.op with | .load .. | .fieldAddr .. | .indexAddr .. | .move .. | .nilCheck .. | .assign .. | .lookup .. => true | _ => false
theorem read_value {o : Oper} {ev : Operand → Value} {w w' : World} {n : Next} (h : readB o = true) (hr : (execOp ev o).run P w = .ok n w') : ∃ v, n = .value v := by
  unfold readB at h
  simp only [Bool.and_eq_true] at h
  obtain ⟨_, h⟩ := h
  unfold execOp at hr
  cases ho : o.op <;> rw [ho] at h hr <;> simp only [Bool.false_eq_true] at h
  case nilCheck x =>
    simp only at hr
    split at hr
    · simp [runtimePanic] at hr
    · simp [runtimePanic] at hr
    · simp [runtimePanic] at hr
    · split at hr
      · simp [runtimePanic] at hr
      · simp only [Sem.run_bind] at hr
        obtain ⟨p, w1, _, h1⟩ := andThen_inv hr
        obtain ⟨q, w2, _, h2⟩ := andThen_inv h1
        split at h2
        · rw [Sem.run_bind] at h2
          obtain ⟨r, w3, h3, _⟩ := andThen_inv h2
          simp [unsupported] at h3
        · simp only [Sem.run_pure, Result.ok.injEq] at h2; exact ⟨_, h2.1.symm⟩
      · simp only [Sem.run_pure, Result.ok.injEq] at hr; exact ⟨_, hr.1.symm⟩
    · simp only [Sem.run_pure, Result.ok.injEq] at hr; exact ⟨_, hr.1.symm⟩
  all_goals
    simp only [Sem.run_bind, Sem.run_pure] at hr
    first
      | (simp only [Result.ok.injEq] at hr; exact ⟨_, hr.1.symm⟩)
      | (generalize Sem.run P _ w = r at hr; cases r <;> simp [Result.andThen] at hr; exact ⟨_, hr.1.symm⟩)
theorem read_yields {o : Oper} {v : Value} {a : Act} (hb : readB o = true) (h : ∀ w, T w → o.quietAt P a T w v) : YieldsIf P ops T o v a := by
  have hg : o.guard = none := by unfold readB at hb; simp only [Bool.and_eq_true, Option.isNone_iff_eq_none] at hb; exact hb.1
  refine .inl ⟨by simp [Region.wanted, hg], fun w hw => ?_⟩
  have h1 := h w hw
  unfold Oper.quietAt at h1
  cases hr : (execOp a.eval o).run P w with
  | ok n w' =>
    obtain ⟨u, rfl⟩ := read_value hb hr
    rw [hr] at h1
    simp only [Oper.quietUpon] at h1
    rw [h1.1, h1.2]
  | halt x w' =>
    rw [hr] at h1
    simp only [Oper.quietUpon] at h1
/-- the first k are done -/
def lk (n k : Nat) : Array Bool := (Array.range n).map fun j => decide (j < k)
theorem lk_get {n k j : Nat} (hj : j < n) (d : Bool) : (lk n k).getD j d = decide (j < k) := by
  simp [lk, hj]
theorem lk_zero (n : Nat) : lk n 0 = Array.replicate n false := by
  apply Array.ext
  · simp [lk]
  · intro i h1 h2; simp [lk]
theorem lk_set {n k : Nat} (hk : k < n) : (lk n k).setIfInBounds k true = lk n (k + 1) := by
  apply Array.ext
  · simp [lk]
  · intro i h1 h2
    by_cases e : k = i
    · subst e; simp [lk]
    · rw [Array.getElem_setIfInBounds_ne (by simpa using h1) e]
      simp only [lk, Array.getElem_map, Array.getElem_range]
      have : (i < k) = (i < k + 1) := by
        apply propext; omega
      simp [this]
/-- the chain: what is asked of the world behind each operation ahead of m -/
def wpChain (P : Program) (ops : Array Oper) (Q : Exit → Act → World → Prop) (T : World → Prop) (m : Nat) : Nat → List Oper → Act → World → Prop
  | _, [], a, w => Q .normal a w
  | k, o :: r, a, w => o.wp P a w (fun a' w' => (k < m → T w') ∧ wpChain P ops Q T m (k + 1) r a' w') Q ∨ (o.asks P a w ∧ LetsOut Q)
theorem wpChain_step {k : Nat} {o : Oper} {r : List Oper} {a : Act} {w : World} (h : ∀ K : Act → World → Prop, (∀ a' w', (k < m → T w') → wpChain P ops Q T m (k + 1) r a' w' → K a' w') → o.wp P a w K Q) : wpChain P ops Q T m k (o :: r) a w :=
  .inl (h _ fun _ _ h1 h2 => ⟨h1, h2⟩)
/-- behind m the chain is a list like any other -/
theorem wpChain_list : ∀ (l : List Oper) {k : Nat} {a : Act} {w : World}, (∀ o ∈ l, o.guard = none) → m ≤ k → wpList P ops Q l a w → wpChain P ops Q T m k l a w
  | [], k, a, w, _, _, h => h
  | o :: r, k, a, w, hg, hk, h => by
    unfold wpList at h
    rw [if_pos (by simp [Region.wanted, hg o (by simp)])] at h
    rcases h with h | h
    · exact .inl (Oper.wp_mono (fun a' w' h' => ⟨fun hlt => absurd hlt (by omega), wpChain_list r (fun o ho => hg o (by simp [ho])) (by omega) h'⟩) h)
    · exact .inr h
def readsB (ops : Array Oper) (n m : Nat) : Bool :=
  Region.noSelect ops && decide (n ≤ m) && decide (m < ops.size) &&
  (List.range ops.size).all (fun k => match ops[k]? with
    | none => false
    | some o => if k < n then readB o && o.after.all (fun e => !Region.binds .any e || decide (e.on < k)) && Region.free .any ops (lk ops.size k) k && (match ops[m]? with | some om => om.after.any (fun e => Region.binds .any e && e.on == k) | none => false)
      else o.guard.isNone && (Region.ready .any ops (lk ops.size k) == [k])) && (Region.ready .any ops (lk ops.size ops.size) == [])
theorem chain_any {n : Nat} (hnm : n ≤ m) (hms : m < ops.size) (hc : ∀ k, n ≤ k → k < ops.size → ∃ o, ops[k]? = some o ∧ o.guard = none ∧ Region.ready .any ops (lk ops.size k) = [k]) (hz : Region.ready .any ops (lk ops.size ops.size) = []) :
    ∀ (l : List Oper) (k : Nat) (a : Act) (w : World), n ≤ k → k + l.length = ops.size → (∀ j (hj : j < l.length), ops[k + j]? = some l[j]) → wpChain P ops Q T m k l a w → wpAnyS P .any ops Q T m l.length (lk ops.size k) a w
  | [], k, a, w, _, hl, _, h => by
    have e : k = ops.size := by simpa using hl
    subst e
    exact ⟨hz, h⟩
  | o :: r, k, a, w, hk, hl, ho, h => by
    simp only [List.length_cons] at hl
    have hks : k < ops.size := by omega
    obtain ⟨o', ho', hg, hr⟩ := hc k hk hks
    have h0 := ho 0 (by simp)
    simp only [Nat.add_zero, List.getElem_cons_zero] at h0
    rw [h0] at ho'
    simp only [Option.some.injEq] at ho'
    subst ho'
    refine ⟨fun e => absurd (hr.symm.trans e) (by simp), fun i hi => ?_⟩
    rw [hr, List.mem_singleton] at hi
    subst hi
    unfold wpOp
    simp only [h0]
    rw [if_pos (by simp [Region.wanted, hg])]
    rcases h with h | h
    case inr => exact .inr h
    refine .inl (Oper.wp_mono (fun a' w' h' => ?_) h)
    refine ⟨fun hm => h'.1 ?_, ?_⟩
    · rw [lk_set hks, lk_get hms] at hm
      simp at hm; omega
    · rw [lk_set hks]
      exact chain_any hnm hms hc hz r (i + 1) a' w' (by omega) (by omega) (fun j hj => by have := ho (j + 1) (by simpa using hj); simpa [Nat.add_assoc, Nat.add_comm 1 j] using this) h'.2
theorem reads_any {n : Nat} (hsel : Region.noSelect ops = true) (hnm : n ≤ m) (hms : m < ops.size) (hQ : ∀ c a d v w, Q (.panic c) (Act.put a d v) w → Q (.panic c) a w)
    (hr : ∀ k, k < n → ∃ o, ops[k]? = some o ∧ readB o = true ∧ (∀ e ∈ o.after, Region.binds .any e = true → e.on < k) ∧ Region.free .any ops (lk ops.size k) k = true ∧ ∀ om, ops[m]? = some om → ∃ e ∈ om.after, Region.binds .any e = true ∧ e.on = k)
    (hc : ∀ k, n ≤ k → k < ops.size → ∃ o, ops[k]? = some o ∧ o.guard = none ∧ Region.ready .any ops (lk ops.size k) = [k]) (hz : Region.ready .any ops (lk ops.size ops.size) = []) (tl : List Oper) (htl : n + tl.length = ops.size) (hto : ∀ j (hj : j < tl.length), ops[n + j]? = some tl[j]) (w : World) (hT : T w) :
    ∀ (l : List Oper) (k : Nat) (a : Act), k + l.length = n → (∀ j (hj : j < l.length), ops[k + j]? = some l[j]) → wpQuiet P ops T (fun a' => wpChain P ops Q T m n tl a' w) l a → wpAnyS P .any ops Q T m (l.length + tl.length) (lk ops.size k) a w
  | [], k, a, hl, _, h => by
    have e : k = n := by simpa using hl
    subst e
    simp only [List.length_nil, Nat.zero_add]
    exact chain_any hnm hms hc hz tl k a w (Nat.le_refl _) htl hto h
  | o :: r, k, a, hl, ho, h => by
    simp only [List.length_cons] at hl
    have hkn : k < n := by omega
    have hks : k < ops.size := by omega
    obtain ⟨o', ho', hb, he, hf, hm⟩ := hr k hkn
    have h0 := ho 0 (by simp)
    simp only [Nat.add_zero, List.getElem_cons_zero] at h0
    rw [h0] at ho'
    simp only [Option.some.injEq] at ho'
    subst ho'
    have hg : o.guard = none := by unfold readB at hb; simp only [Bool.and_eq_true, Option.isNone_iff_eq_none] at hb; exact hb.1
    unfold wpQuiet at h
    rw [if_pos (by simp [Region.wanted, hg])] at h
    obtain ⟨v, hv, hn⟩ := h
    have e1 : (o :: r).length + tl.length = (r.length + tl.length) + 1 := by simp; omega
    rw [e1]
    refine wpAnyS_first h0 (Region.noSelect_spec hsel) (fun c a w h => hQ c a _ _ w h) (by omega) hm _ _ a w (Region.free_spec h0 hf) ?_ (read_yields hb hv) hT (by rw [lk_get hms]; simp; omega) ?_
    · rw [mem_ready]
      refine ⟨by rw [lk_get hks]; simp, o, h0, fun e hem hbd => ?_⟩
      have := he e hem hbd
      rw [lk_get (by omega)]
      simpa using this
    · rw [lk_set hks]
      exact reads_any hsel hnm hms hQ hr hc hz tl htl hto w hT r (k + 1) _ (by omega) (fun j hj => by have := ho (j + 1) (by simpa using hj); simpa [Nat.add_assoc, Nat.add_comm 1 j] using this) hn
theorem wp_region_reads0 {id : Nat} {a : Act} {w : World} {l : List Oper} (n m : Nat) (T : World → Prop) (hm : P.follows .mixedOrders = true) (hB : readsB l.toArray n m = true) (hQ : ∀ c a d v w, Q (.panic c) (Act.put a d v) w → Q (.panic c) a w) (hT : T w.drew)
    (h : wpQuiet P l.toArray T (fun a' => wpChain P l.toArray Q T m n (l.drop n) a' w.drew) (l.take n) a) : (Code.region id l.toArray true).wp P Q a w := by
  unfold readsB at hB
  simp only [Bool.and_eq_true, decide_eq_true_eq, List.all_eq_true, List.mem_range, beq_iff_eq] at hB
  obtain ⟨⟨⟨⟨hsel, hnm⟩, hms⟩, hall⟩, hz⟩ := hB
  have hml : m < l.length := by simpa using hms
  have hnl : n ≤ l.length := by omega
  refine wp_region_any hm (wpAny_of_S (T := T) (m := m) _ _ _ _ ?_)
  rw [← lk_zero]
  have htake : (l.take n).length = n := by rw [List.length_take]; omega
  have hsz : l.toArray.size = (l.take n).length + (l.drop n).length := by simp; omega
  have hopt : ∀ k (hk : k < l.length), l.toArray[k]? = some l[k] := fun k hk => by simp
  have key := reads_any (P := P) (ops := l.toArray) (Q := Q) (T := T) (m := m) (n := n) hsel hnm hms hQ ?_ ?_ hz (l.drop n) (by simp; omega) (fun j hj => by simp at hj ⊢) w.drew hT (l.take n) 0 a (by simpa using htake) (fun j hj => by simp only [List.length_take] at hj; simp) h
  · have e : (l.take n).length + (l.drop n).length = l.toArray.size := hsz.symm
    rw [e] at key
    exact key
  · intro k hk
    have hkl : k < l.length := by omega
    have := hall k (by simpa using hkl)
    rw [hopt k hkl] at this
    simp only [if_pos hk, Bool.and_eq_true] at this
    obtain ⟨⟨⟨h1, h2⟩, h3⟩, h4⟩ := this
    refine ⟨l[k], hopt k hkl, h1, fun e he hb => ?_, h3, fun om hom => ?_⟩
    · have := Array.all_eq_true_iff_forall_mem.1 h2 e he
      simp [hb] at this
      exact this
    · rw [hom] at h4
      simp only at h4
      obtain ⟨e, he, hb⟩ := Array.any_eq_true'.1 h4
      simp only [Bool.and_eq_true, beq_iff_eq] at hb
      exact ⟨e, he, hb.1, hb.2⟩
  · intro k hk hks
    have hkl : k < l.length := by simpa using hks
    have := hall k hks
    rw [hopt k hkl] at this
    simp only [if_neg (by omega : ¬ k < n), Bool.and_eq_true, Option.isNone_iff_eq_none, beq_iff_eq] at this
    exact ⟨l[k], hopt k hkl, this.1, this.2⟩
theorem wp_region_reads {id : Nat} {a : Act} {w : World} {l : List Oper} (n m : Nat) (T : World → Prop) (hm : P.follows .mixedOrders = true) (hB : readsB l.toArray n m = true) (hT : T w.drew)
    (h : wpQuiet P l.toArray T (fun a' => wpChain P l.toArray (NoPanic Q) T m n (l.drop n) a' w.drew) (l.take n) a) : (Code.region id l.toArray true).wp P Q a w :=
  wp_region_noPanic (wp_region_reads0 n m T hm hB (fun _ _ _ _ _ h => h) hT h)
end
end Go.Proofs.YtgkhmnamkfgciaaGreat

namespace Go.Proofs.YtgkhmnamkfgciaaGreat
open Go.RowKit
set_option linter.unusedVariables false
def InV (v : Value) (g : Nat) : Prop := v.ownBlock = some g
structure KLat (v : Value) (w : World) where
  to : World
  kb : Kb (InV v) w to
instance (v : Value) (w : World) : Nonempty (KLat v w) := ⟨⟨w, Kb.refl _ _⟩⟩
def klat (v : Value) (w : World) (x : KLat v w) : World := x.to
@[go_sem] theorem cell?_klat (v : Value) (w : World) (x : KLat v w) (b o : Nat) (h : b < w.heap.size) (hn : ¬ InV v b) : (klat v w x).cell? ⟨b, o, none⟩ = w.cell? ⟨b, o, none⟩ := by
  have := x.kb.block b h hn
  simp [World.cell?, klat, this]
@[go_sem] theorem frozen?_klat (v : Value) (w : World) (x : KLat v w) (b o : Nat) (h : b < w.heap.size) (hn : ¬ InV v b) : (klat v w x).frozen? ⟨b, o, none⟩ = w.frozen? ⟨b, o, none⟩ := by
  have := x.kb.block b h hn
  simp [World.frozen?, klat, this]
@[go_sem] theorem lt_klat (v : Value) (w : World) (x : KLat v w) (b : Nat) (h : b < w.heap.size) : b < (klat v w x).heap.size := Nat.lt_of_lt_of_le h x.kb.size
def KL (v : Value) (w w' : World) : Prop := ∃ x : KLat v w, w' = klat v w x
theorem KL.of {v : Value} {w w' : World} (h : Kb (InV v) w w') : ∃ x : KLat v w, w' = klat v w x := ⟨⟨w', h⟩, rfl⟩
theorem KL.aft {v : Value} {w w' : World} (h : Aft w w') : ∃ x : KLat v w, w' = klat v w x := KL.of (Kb.of_aft h)
theorem kb_in {v : Value} {w w' : World} (h : w.grownBy w' v.ownBlock) : Kb (InV v) w w' := Kb.of_grown h
theorem not_in {v : Value} {w : World} {B size n : Nat} {e : TypeId} {xs : List Value} (o : w.ownsRow B e size v n xs) {g : Nat} (hg : g < B) : ¬ InV v g := fun h => by have := (o.lt g h).1; omega
end Go.Proofs.YtgkhmnamkfgciaaGreat

namespace Go.Proofs.YtgkhmnamkfgciaaGreat
open Go.RowKit Go.Deep
set_option maxRecDepth 100000
set_option linter.unusedVariables false
theorem mbr_at {w : World} {A : Option Addr} {cap : Nat} {l : List Mbr} (h : SlAt w 2 MbrR A cap l) {k : Nat} (hk : k < l.length) :
    ∃ b off, A = some ⟨b, off, none⟩ ∧ b < w.heap.size ∧ w.cell? ⟨b, off + k * 2, none⟩ = some (.string l[k].role) ∧ w.cell? ⟨b, off + k * 2 + 1, none⟩ = some (.string l[k].of) ∧ Small l[k].role.size ∧ Small l[k].of.size := by
  obtain ⟨b, off, cs, hA, hb, hl, ⟨rfl, hs⟩, hc⟩ := h.2.2 k hk
  refine ⟨b, off, hA, hb, ?_, ?_, hs⟩
  · simpa using hc 0 (by omega)
  · simpa [Nat.add_assoc] using hc 1 (by omega)
theorem mbrs_aft {w w' : World} (a : Aft w w') {A : Option Addr} {cap : Nat} {l : List Mbr} (h : SlAt w 2 MbrR A cap l) : SlAt w' 2 MbrR A cap l := h.aft a fun _ _ h => h
theorem succ_snoc (ms : List Mbr) (m : Mbr) (s : Txt) : succ (ms ++ [m]) s = succ ms s ++ if txt m.role = s then [m.of] else [] := by
  unfold succ
  rw [List.filter_append, List.map_append]
  congr 1
  by_cases e : txt m.role = s <;> simp [e]
/-- the map that is made: at each text whom it joins, each row our own, no two in one block -/
structure NxIn (w : World) (B bn k : Nat) (ms : List Mbr) (H : Txt → Hd) : Prop where
  mp : MapF Tryz.prog 9 w bn k (.slice none 0 0) (fun s => (H s).v)
  row : ∀ s, w.ownsRow B 9 1 (H s).v (succ ms s).length ((succ ms s).flatMap nameC)
  dis : ∀ s t g, g ∈ (H s).blk → g ∈ (H t).blk → s = t
  lt : bn < B
theorem NxIn.kb {Q : Nat → Prop} {w w' : World} {B bn k : Nat} {ms : List Mbr} {H : Txt → Hd} (h : NxIn w B bn k ms H) (kb : Kb Q w w') (h1 : ¬ Q bn) (h2 : ∀ g, B ≤ g → ¬ Q g) : NxIn w' B bn k ms H :=
  ⟨h.mp.kb kb h1, fun s => own_kb (h.row s) kb fun g hg => h2 g ((h.row s).lt g hg).1, h.dis, h.lt⟩
theorem NxIn.aft {w w' : World} {B bn k : Nat} {ms : List Mbr} {H : Txt → Hd} (h : NxIn w B bn k ms H) (a : Aft w w') : NxIn w' B bn k ms H := h.kb (Q := fun _ => False) (Kb.of_aft a) (fun h => h) fun _ _ h => h
theorem NxIn.step {w w5 : World} {B bn k : Nat} {ms : List Mbr} {H : Txt → Hd} (h : NxIn w B bn k ms H) (hBw : B ≤ w.heap.size) (m : Mbr) (hs : m.role.size ≤ maxLen) (hk : k < maxLen) {v' : Hd} (kb : Kb (InV (H (txt m.role)).v) w w5)
    (ho : w5.ownsRow B 9 1 v'.v ((succ ms (txt m.role)).length + 1) ((succ ms (txt m.role)).flatMap nameC ++ [.string m.of])) (hat : ∀ g ∈ v'.blk, g ∈ (H (txt m.role)).blk ∨ w.heap.size ≤ g) :
    ∃ w6, (Instr.mapUpdate 149 (.map (some bn)) (.string m.role) v'.v).run Tryz.prog w5 = .ok () w6 ∧ NxIn w6 B bn (k + 1) (ms ++ [m]) (fun x => if x = txt m.role then v' else H x) ∧ Kb (fun g => g = bn) w5 w6 := by
  have hlt := h.lt
  have hb : ¬ InV (H (txt m.role)).v bn := fun e => by have := ((h.row (txt m.role)).lt bn e).1; omega
  obtain ⟨w6, p6, M6, g6⟩ := (h.mp.kb kb hb).put Tryz.underlying9 Tryz.underlying149 hk m.role hs v'.v
  have k6 : Kb (fun g => g = bn) w5 w6 := (Kb.of_grown g6).mono fun g _ e => (Option.some.inj e).symm
  refine ⟨w6, p6, ⟨?_, ?_, ?_, hlt⟩, k6⟩
  · have e : (fun s => ((fun x => if x = txt m.role then v' else H x) s).v) = fun x => if x = m.role.data.toList then v'.v else (H x).v := by
      funext x
      show (if x = m.role.data.toList then v' else H x).v = _
      split <;> rfl
    rw [e]; exact M6
  · intro s
    rw [succ_snoc]
    by_cases e : s = txt m.role
    · subst e
      rw [if_pos rfl, if_pos rfl, List.length_append, List.flatMap_append]
      exact own_kb ho k6 fun g hg e => by have := (ho.lt g hg).1; omega
    · have e2 : ¬ txt m.role = s := fun h => e h.symm
      rw [if_neg e, if_neg e2, List.append_nil]
      refine own_kb (own_kb (h.row s) kb fun g hg h2 => e (h.dis s (txt m.role) g (Hd.mem_blk.2 hg) (Hd.mem_blk.2 h2))) k6 fun g hg e => ?_
      have := ((h.row s).lt g hg).1
      omega
  · have hx : ∀ s g, ¬ s = txt m.role → g ∈ v'.blk → g ∈ (H s).blk → False := fun s g e h1 h2 => by
      rcases hat g h1 with h3 | h3
      · exact e (h.dis s _ g h2 h3)
      · have := ((h.row s).lt g (Hd.mem_blk.1 h2)).2
        omega
    intro s t g h1 h2
    by_cases e1 : s = txt m.role
    · by_cases e2 : t = txt m.role
      · rw [e1, e2]
      · rw [if_pos e1] at h1
        rw [if_neg e2] at h2
        exact absurd h2 (fun h2 => hx t g e2 h1 h2)
    · rw [if_neg e1] at h1
      by_cases e2 : t = txt m.role
      · rw [if_pos e2] at h2
        exact absurd h1 (fun h1 => hx s g e1 h2 h1)
      · rw [if_neg e2] at h2
        exact h.dis s t g h1 h2
theorem NxIn.next {w : World} {B bn k bf : Nat} {ms : List Mbr} {H : Txt → Hd} (h : NxIn w B bn k ms H) (hbf : ∀ s, bf ∉ (H s).blk) : NextAt w ms bf bn k :=
  ⟨_, h.mp, fun s => ⟨H s, rfl, own_down (h.row s) (Nat.zero_le _), hbf s⟩⟩
theorem NextAt.aft2 {w w' : World} {ms : List Mbr} {bf bn N : Nat} (h : NextAt w ms bf bn N) (a : Aft w w') : NextAt w' ms bf bn N := by
  obtain ⟨nx, h1, h2⟩ := h
  exact ⟨nx, h1.aft a, fun s => by obtain ⟨h, e, o, n⟩ := h2 s; exact ⟨h, e, own_aft o a, n⟩⟩
theorem nxIn_made (w : World) (B : Nat) (hB : w.heap.size < B) : NxIn (w.alloc (.map #[] 0)) B w.heap.size 0 [] (fun _ => ⟨none, 0, 0⟩) :=
  ⟨mapF_made w _, fun s => own_nil _ _ _ _, fun s t g h => by simp [blk_nil] at h, hB⟩
theorem dedup_list (l : List Txt) : ∃ U : List Txt, U.Nodup ∧ ∀ x, x ∈ U ↔ x ∈ l := by
  induction l with
  | nil => exact ⟨[], by simp, by simp⟩
  | cons a l ih =>
    obtain ⟨U, h1, h2⟩ := ih
    by_cases e : a ∈ U
    · exact ⟨U, h1, fun x => by rw [List.mem_cons, h2]; exact ⟨.inr, fun h => h.elim (fun h => h ▸ (h2 a).1 e) id⟩⟩
    · exact ⟨a :: U, List.nodup_cons.2 ⟨e, h1⟩, fun x => by rw [List.mem_cons, List.mem_cons, h2]⟩
theorem ind_out {U : List Txt} {a : Txt} (h : a ∉ U) : (U.map fun s => if a = s then 1 else 0).sum = 0 := by
  induction U with
  | nil => rfl
  | cons b U ih =>
    rw [List.mem_cons, not_or] at h
    simp only [List.map_cons, List.sum_cons, if_neg h.1, ih h.2]
theorem ind_one {U : List Txt} (hU : U.Nodup) (a : Txt) : (U.map fun s => if a = s then 1 else 0).sum ≤ 1 := by
  induction U with
  | nil => simp
  | cons b U ih =>
    rw [List.nodup_cons] at hU
    simp only [List.map_cons, List.sum_cons]
    by_cases e : a = b
    · subst e
      rw [ind_out hU.1]; simp
    · rw [if_neg e]
      have := ih hU.2
      omega
theorem sum_add (U : List Txt) (f g : Txt → Nat) : (U.map fun s => f s + g s).sum = (U.map f).sum + (U.map g).sum := by
  induction U with
  | nil => rfl
  | cons a U ih => simp only [List.map_cons, List.sum_cons, ih]; omega
theorem phi_le {U : List Txt} (hU : U.Nodup) (ms : List Mbr) : phi ms U (fun _ => 0) ≤ ms.length := by
  unfold phi
  simp only [if_true]
  induction ms with
  | nil =>
    have : (U.map fun s => (succ [] s).length).sum = 0 := by
      clear hU
      induction U with
      | nil => rfl
      | cons a U ih => simp only [List.map_cons, List.sum_cons, ih]; rfl
    rw [this]; simp
  | cons m ms ih =>
    have e : (fun s => (succ (m :: ms) s).length) = fun s => (succ ms s).length + if txt m.role = s then 1 else 0 := by
      funext s
      unfold succ
      by_cases e : txt m.role = s <;> simp [e]
    rw [e, sum_add]
    have := ind_one hU (txt m.role)
    simp only [List.length_cons]
    omega
/-- what comes back: a map of our own; what it counts is what is reached -/
def SawP (w : World) (ms : List Mbr) (role : ByteArray) (e : Ending) (w' : World) : Prop :=
  ∃ bf, e = .returned (.map (some bf)) ∧ Aft w w' ∧ ∃ (c : Txt → Nat) (n : Nat), MapF Tryz.prog 9 w' bf n (.int .i64 0) (cntV c) ∧ (∀ s, c s ≤ 140737488351232) ∧ ∀ s, 0 < c s ↔ Reach ms (txt role) s
structure NxS (w wr : World) (ms : List Mbr) (k : Nat) (H : Txt → Hd) : Prop where
  aft : Aft w wr
  pn : wr.cell? ⟨w.heap.size + 2, 0, none⟩ = some (.map (some (w.heap.size + 1)))
  nx : NxIn wr (w.heap.size + 3) (w.heap.size + 1) k (ms.take k) H
  sz : w.heap.size + 3 ≤ wr.heap.size
set_option maxHeartbeats 8000000 in
theorem seen_in (r : Rls) (An : Option Addr) (capn : Nat) (Am : Option Addr) (capm : Nat) (role : ByteArray) (w : World) (hm : SlAt w 2 MbrR Am capm r.members) (hrs : Small role.size) :
    Calls Tryz.prog 130 #[.agg #[.slice An r.names.length capn, .slice Am r.members.length capm], .string role] w (SawP w r.members role) := by
  have hlen := hm.len
  have hmm := @run_makeMap Tryz.prog
  have l1 : w.heap.size < w.heap.size + 1 := by omega
  have l2 : w.heap.size < w.heap.size + 1 + 1 := by omega
  have l3 : w.heap.size < w.heap.size + 1 + 1 + 1 := by omega
  have HM := Lib.hid hm
  go_enter Tryz.func130, Tryz.ntmps130
  go_wp2_with fail
  go_loopw [14] (fun i wr => ∃ (k : Nat) (H : Txt → Hd), k ≤ r.members.length ∧ i = .int .i64 k ∧ NxS w wr r.members k H) (fun i _ => r.members.length - (intOf i).toNat)
  case atStart =>
    refine ⟨0, fun _ => ⟨none, 0, 0⟩, Nat.zero_le _, rfl, ((((Aft.refl w).alloc _).alloc _).alloc _), ?_, ?_, by simp⟩
    · obtain ⟨hb, _, _, _, _⟩ := aft_box (Aft.refl (((w.alloc (.cells #[.slice An r.names.length capn, .slice Am r.members.length capm] 29)).alloc (.map #[] 0)).alloc (.cells #[.map (some (w.heap.size + 1))] 149)))
      have := hb 0
      simpa [World.size_alloc] using this
    · have := nxIn_made (w.alloc (.cells #[.slice An r.names.length capn, .slice Am r.members.length capm] 29)) (w.heap.size + 3) (by simp)
      simp only [World.size_alloc] at this
      exact this.aft ((Aft.refl _).alloc _)
  case round =>
    obtain ⟨k, H, hk, rfl, hs⟩ := hrel
    have HS := Lib.hid hs
    have pn := hs.pn
    have sz := hs.sz
    by_cases hlt : k < r.members.length
    · obtain ⟨b, off, rfl, hb, t0, t1, hs1, hs2⟩ := mbr_at (mbrs_aft hs.aft HM.out) hlt
      obtain ⟨m, hmm2⟩ : ∃ m, r.members[k] = m := ⟨_, rfl⟩
      rw [hmm2] at t0 t1 hs1 hs2
      obtain ⟨W, hW⟩ : ∃ W, W = wr.alloc (.cells #[.string m.role, .string m.of] 142) := ⟨_, rfl⟩
      have aW : Aft wr W := by rw [hW]; exact (Aft.refl _).alloc _
      have zW : W.heap.size = wr.heap.size + 1 := by rw [hW]; simp
      have hnx := hs.nx.aft aW
      have hrow := hnx.row (txt m.role)
      obtain ⟨a0, n0, c0, hv⟩ : ∃ a0 n0 c0, H (txt m.role) = ⟨a0, n0, c0⟩ := ⟨_, _, _, rfl⟩
      have hn0 := own_n hrow
      rw [hv] at hrow hn0
      dsimp only at hn0
      have HLEN := Lib.hid hn0
      have hle : n0 ≤ k := by
        rw [hn0]
        unfold succ
        rw [List.length_map]
        refine Nat.le_trans (List.length_filter_le _ _) ?_
        rw [List.length_take]; omega
      rw [← hn0] at hrow
      have HOW := Lib.hid (show W.ownsRow (w.heap.size + 3) 9 1 (.slice a0 n0 c0) n0 ((succ (r.members.take k) (txt m.role)).flatMap nameC) from hrow)
      have hlook : ∀ x : KLat (.slice a0 n0 c0) W, (Instr.lookup 149 (.map (some (w.heap.size + 1))) (.string m.role) false).run Tryz.prog (klat (.slice a0 n0 c0) W x) = .ok (.slice a0 n0 c0) (klat (.slice a0 n0 c0) W x) := fun x => by
        have h1 := (hnx.mp.kb x.kb (not_in HOW.out (by omega))).look Tryz.underlying9 Tryz.underlying149 (zero_strs _) m.role hs1.max
        rw [show H m.role.data.toList = ⟨a0, n0, c0⟩ from hv] at h1
        exact h1
      have p1 := aW.cell_kept pn
      have q0 : W.cell? ⟨wr.heap.size, 0, none⟩ = some (.string m.role) := by
        rw [hW]
        simp
      have q1 : W.cell? ⟨wr.heap.size, 1, none⟩ = some (.string m.of) := by
        rw [hW]
        simp
      have e1 : w.heap.size + 2 < W.heap.size := by omega
      have e1' : w.heap.size + 1 + 1 < W.heap.size := by omega
      have e2 : wr.heap.size < W.heap.size := by omega
      have n1 : ¬ InV (.slice a0 n0 c0) (w.heap.size + 2) := not_in HOW.out (by omega)
      have n1' : ¬ InV (.slice a0 n0 c0) (w.heap.size + 1 + 1) := not_in HOW.out (by omega)
      have n2 : ¬ InV (.slice a0 n0 c0) wr.heap.size := fun h => by
        have := ((hs.nx.row (txt m.role)).lt wr.heap.size (by rw [hv]; exact h)).2
        omega
      obtain ⟨i0, hi0, hz0, hz1, hz2⟩ := info_parts info2Str2
      have HI := Lib.hid hi0
      have HZ := Lib.hid (And.intro hz0 (And.intro hz1 hz2))
      have HN := Lib.hid (And.intro hnx (And.intro hv (And.intro hmm2 (And.intro (hs.aft.trans aW) (And.intro aW hs1)))))
      have HZW := Lib.hid (And.intro sz (And.intro zW hle))
      have hk63 : n0 + 1 ≤ 140737488351232 := by omega
      clear hi0 hz0 hz1 hz2 hs hnx hv hrow hn0 hle aW hmm2 hs1 hs2
      go_wp2_with fail
      rw [← hW]
      clear hW zW
      go_wp2_with fail
      refine wp_region_reads 9 11 (fun w' => ∃ x : KLat (.slice a0 n0 c0) W, w' = klat (.slice a0 n0 c0) W x) (by kernel_rfl) (by kernel_rfl) (KL.aft (Aft.refl W).drew) ?_
      simp only [List.take_succ_cons, List.take_zero, List.drop_succ_cons, List.drop_zero]
      repeat (go_big_quiet_step (fail))
      refine wpQuiet_nil ?_
      refine wpChain_step (fun K hK => ?_)
      go_simp
      refine hK _ _ (fun _ => KL.aft (((Aft.refl W).alloc _).drew)) ?_
      clear hK K
      refine wpChain_step (fun K hK => ?_)
      refine wp_append_lies _ (.tmp 24) (.tmp 27) 26 rfl (w.heap.size + 3) 9 i0 _ 1 16 Tryz.underlying26 HI.out HZ.out.1 HZ.out.2.1 HZ.out.2.2 rfl (by decide) (.slice a0 n0 c0) n0 ((succ (r.members.take k) (txt m.role)).flatMap nameC) (by rfl) ((HOW.out.alloc _).drew) ⟨W.heap.size, 0, none⟩ 1 1 [.string m.of] (by rfl) (by rfl) (World.news_of_block (cs := #[.string m.of]) (t := 9) (fr := (0, 0)) (heap_alloc_new W _)) (by simp [Value.oneCell']) (by omega) (by unfold maxLen; omega) (by have := HZW.out; omega) (by have := HZW.out; simp; omega) (W.heap.size + 1) (by simp) ?_
      intro gg cap' w5 hown5 hgrow hat hgl
      refine hK _ _ (fun _ => KL.of ((Kb.of_aft (((Aft.refl W).alloc _).drew)).trans (kb_in hgrow))) ?_
      clear hK K
      refine wpChain_list _ (by simp) (by decide) ?_
      have kw5 : Kb (InV (.slice a0 n0 c0)) W w5 := (Kb.of_aft (((Aft.refl W).alloc _).drew)).trans (kb_in hgrow)
      obtain ⟨hnx, hv, hmk, hwW, haW, hsr⟩ := HN.out
      have hBW : w.heap.size + 3 ≤ W.heap.size := by omega
      obtain ⟨w6, p6, nx6, k6⟩ := hnx.step (v' := ⟨some ⟨gg, 0, none⟩, n0 + 1, cap'⟩) hBW m hsr.max (by unfold maxLen; omega) (by rw [hv]; exact kw5) (by rw [← HLEN.out]; exact hown5) (fun g hg => by
        rw [blk_some, List.mem_singleton] at hg
        have hg : g = gg := hg
        rcases hat with h1 | h1
        · exact .inl (by rw [hv, hg]; exact Hd.mem_blk.2 h1)
        · exact .inr (by omega))
      have hnv : ∀ g, g < w.heap.size + 3 → ¬ InV (.slice a0 n0 c0) g := fun g hg => not_in HOW.out hg
      have HNEXT := Lib.hid (show ∃ H', NxS w w6 r.members (k + 1) H' from ⟨_, (k6.to_aft (kw5.to_aft hwW (fun g hg => hnv g (by omega))) (fun g hg => by omega)),
        k6.cell (kw5.cell p1 n1) (by show ¬ w.heap.size + 2 = w.heap.size + 1; omega), by rw [List.take_succ_eq_append_getElem hlt, hmk]; exact nx6, by have := kw5.size; have := k6.size; omega⟩)
      change (Instr.mapUpdate 149 (.map (some (w.heap.size + 1))) (.string m.role) (.slice (some ⟨gg, 0, none⟩) (n0 + 1) cap')).run Tryz.prog w5 = .ok () w6 at p6
      clear hnx hv hmk hwW haW hsr hnv nx6 k6 kw5 hown5 hgrow hat hgl hlook
      go_wp2_with fail
      refine NoPanic.normal ?_
      go_wp2_with fail
      go_roundw
      case rel => obtain ⟨H', hx⟩ := HNEXT.out; exact ⟨k + 1, H', by omega, by go_num, hx⟩
      case measure => simp [intOf]; omega
    · have hke : k = r.members.length := by omega
      subst hke
      have hnx := hs.nx
      rw [List.take_length] at hnx
      have m1 : wr.heap.size + 1 + 1 < wr.heap.size + 1 + 1 + 1 := by omega
      have m2 : wr.heap.size + 1 < wr.heap.size + 1 + 1 + 1 := by omega
      have m3 : wr.heap.size < wr.heap.size + 1 + 1 + 1 := by omega
      have m4 : w.heap.size + 2 < wr.heap.size := by omega
      obtain ⟨F, hF⟩ : ∃ F, F = ((wr.alloc (.map #[] 0)).alloc (.cells #[.map (some wr.heap.size)] 168)).alloc (.cells #[.func (.func 205) #[] #[.pointer (some ⟨wr.heap.size + 1, 0, none⟩), .pointer (some ⟨w.heap.size + 1 + 1, 0, none⟩), .pointer (some ⟨wr.heap.size + 1 + 1, 0, none⟩)]] 211) := ⟨_, rfl⟩
      have aF : Aft wr F := by rw [hF]; exact (((Aft.refl wr).alloc _).alloc _).alloc _
      have MF : MapF Tryz.prog 9 F wr.heap.size 0 (.int .i64 0) (cntV fun _ => 0) := by rw [hF]; exact (mapF_made wr _).aft (((Aft.refl _).alloc _).alloc _)
      have d1 : F.cell? ⟨wr.heap.size + 1, 0, none⟩ = some (.map (some wr.heap.size)) := by
        rw [hF]
        obtain ⟨hb, _, _, _, _⟩ := aft_box ((Aft.refl ((wr.alloc (.map #[] 0)).alloc (.cells #[.map (some wr.heap.size)] 168))).alloc (.cells #[.func (.func 205) #[] #[.pointer (some ⟨wr.heap.size + 1, 0, none⟩), .pointer (some ⟨w.heap.size + 1 + 1, 0, none⟩), .pointer (some ⟨wr.heap.size + 1 + 1, 0, none⟩)]] 211))
        have := hb 0
        simpa [World.size_alloc] using this
      have d2 : F.cell? ⟨wr.heap.size + 2, 0, none⟩ = some (.func (.func 205) #[] #[.pointer (some ⟨wr.heap.size + 1, 0, none⟩), .pointer (some ⟨w.heap.size + 1 + 1, 0, none⟩), .pointer (some ⟨wr.heap.size + 1 + 1, 0, none⟩)]) := by
        rw [hF]
        obtain ⟨hb, _, _, _, _⟩ := aft_box (Aft.refl (((wr.alloc (.map #[] 0)).alloc (.cells #[.map (some wr.heap.size)] 168)).alloc (.cells #[.func (.func 205) #[] #[.pointer (some ⟨wr.heap.size + 1, 0, none⟩), .pointer (some ⟨w.heap.size + 1 + 1, 0, none⟩), .pointer (some ⟨wr.heap.size + 1 + 1, 0, none⟩)]] 211)))
        have := hb 0
        simpa [World.size_alloc] using this
      have SI : SeenIn F r.members (wr.heap.size + 1) (w.heap.size + 2) (wr.heap.size + 2) wr.heap.size (w.heap.size + 1) r.members.length :=
        ⟨d1, aF.cell_kept pn, d2, (hnx.next (bf := wr.heap.size) fun s h => by have := ((hnx.row s).lt _ (Hd.mem_blk.1 h)).2; omega).aft2 aF, by omega, by omega, by omega, by omega⟩
      obtain ⟨U, u1, u2⟩ := dedup_list (txt role :: r.members.map fun m => txt m.of)
      have hsm := sm_mem HM.out (P := fun m : Mbr => Small m.of.size) fun _ _ h => h.2.2
      have C := Lib.hid (seen1_in r.members U (wr.heap.size + 1) (w.heap.size + 2) (wr.heap.size + 2) wr.heap.size (w.heap.size + 1) r.members.length hsm
        (fun s _ x hx => by
          rw [u2]
          unfold succ at hx
          rw [List.mem_map] at hx
          obtain ⟨m, hm, rfl⟩ := hx
          exact List.mem_cons.2 (.inr (List.mem_map.2 ⟨m, (List.mem_filter.1 hm).1, rfl⟩)))
        _ role (fun _ => 0) 0 F (Nat.le_refl _) hrs (by rw [u2]; simp) (fun _ => Nat.le_refl _) (by have := phi_le u1 r.members; omega) SI MF)
      have HPH := Lib.hid (And.intro (phi_le u1 r.members) (And.intro hlen (And.intro (hs.aft.trans aF) (And.intro d1 hs.aft.size))))
      rw [hF] at C
      clear hs hnx MF d1 d2 SI u1 u2 hsm
      go_wp2_with (go_at_call 205; refine C.out.mono ?_; rintro e w2 ⟨rfl, kb2, c2, n2, M2, g2⟩; rw [← hF] at kb2; have dd := kb2.cell HPH.out.2.2.2.1 (by show ¬ wr.heap.size + 1 = wr.heap.size; omega))
      go_ret
      refine ⟨_, rfl, kb2.to_aft HPH.out.2.2.1 (fun k hk => by omega), c2, n2, M2, fun s => ?_, fun s => g2.reach s⟩
      have := g2.bd s
      have := g2.size
      have := HPH.out.1
      have := HPH.out.2.1
      omega
end Go.Proofs.YtgkhmnamkfgciaaGreat

namespace Go.Proofs.YtgkhmnamkfgciaaGreat
open Go.RowKit
set_option maxRecDepth 100000
set_option linter.unusedVariables false
def cmpS (a b : ByteArray) : Int := Lib.compareBytes a.data.toList b.data.toList
set_option maxHeartbeats 400000 in
theorem cmpString (a b : ByteArray) (w : World) :
    Calls Tryz.prog 209 #[.string a, .string b] w fun e w' => e = .returned (.int .i64 (cmpS a b)) ∧ w = w' := by
  go_enter Tryz.func209, Tryz.ntmps209
  go_wp2
  rw [run_callFunc_extern Tryz.func295 (by kernel_rfl) (by kernel_rfl) (by kernel_rfl) (e := Extern.BytealgCompare.compare) (by kernel_rfl), Lib.run_compareString]
  simp only [Result.andThen]
  rw [Oper.upon_value]
  go_wp2
  go_ret
  exact ⟨rfl, rfl⟩
theorem compare_any (a b : ByteArray) (w : World) :
    Calls Tryz.prog 144 #[.string a, .string b] w fun e w' => e = .returned (.int .i64 (cmpS a b)) ∧ w = w' := by
  go_enter Tryz.func144, Tryz.ntmps144
  go_wp2_with (go_at_call 209; refine (cmpString _ _ _).mono ?_; rintro e w' ⟨rfl, rfl⟩)
  go_ret
  exact ⟨rfl, rfl⟩
theorem compare_still (a b : ByteArray) (w : World) :
    Calls Tryz.prog 144 #[.string a, .string b] w fun e w' => e = .returned (.int .i64 (cmpS a b)) ∧ w' = w := (compare_any a b w).mono fun e w' ⟨h1, h2⟩ => ⟨h1, h2.symm⟩
/-- the first that is not 0 -/
def or2 (a b : Int) : Int := if a == 0 then b else a
set_option maxHeartbeats 1000000 in
theorem or_any (a b : Int) (g : Nat) (w : World) (hg : g < w.heap.size) (h0 : w.cell? ⟨g, 0, none⟩ = some (.int .i64 a)) (h1 : w.cell? ⟨g, 1, none⟩ = some (.int .i64 b)) :
    Calls Tryz.prog 173 #[.slice (some ⟨g, 0, none⟩) 2 2] w fun e w' => e = .returned (.int .i64 (or2 a b)) ∧ Aft w w' := by
  cases ha : (a != 0)
  · have ha0 : a = 0 := by simpa using ha
    subst ha0
    have HO := Lib.hid (show or2 0 b = b by simp [or2])
    clear ha
    cases hb : (b != 0)
    · have hb0 : b = 0 := by simpa using hb
      subst hb0
      clear hb
      go_enter Tryz.func173, Tryz.ntmps173
      go_wp2_with fail
      go_loop [8] (fun i => ∃ k : Nat, k ≤ 2 ∧ i = .int .i64 k) (fun i => 2 - (intOf i).toNat)
      case atStart => exact ⟨0, by omega, rfl⟩
      case round =>
        obtain ⟨k, hk, rfl⟩ := hrel
        have hk2 : k = 0 ∨ k = 1 ∨ k = 2 := by omega
        clear hk
        rcases hk2 with rfl | rfl | rfl
        · go_wp2_with fail
          go_round
          case rel => exact ⟨1, by omega, rfl⟩
          case measure => simp [intOf]
        · go_wp2_with fail
          go_round
          case rel => exact ⟨2, by omega, rfl⟩
          case measure => simp [intOf]
        · go_wp2_with fail
          go_ret
          exact ⟨by rw [HO.out]; rfl, Aft.refl _⟩
    · go_enter Tryz.func173, Tryz.ntmps173
      go_wp2_with fail
      go_loop [8] (fun i => ∃ k : Nat, k ≤ 1 ∧ i = .int .i64 k) (fun i => 2 - (intOf i).toNat)
      case atStart => exact ⟨0, by omega, rfl⟩
      case round =>
        obtain ⟨k, hk, rfl⟩ := hrel
        have hk2 : k = 0 ∨ k = 1 := by omega
        clear hk
        rcases hk2 with rfl | rfl
        · go_wp2_with fail
          go_round
          case rel => exact ⟨1, by omega, rfl⟩
          case measure => simp [intOf]
        · go_wp2_with fail
          go_ret
          exact ⟨by rw [HO.out]; rfl, Aft.refl _⟩
  · have HO := Lib.hid (show or2 a b = a by have : ¬ a = 0 := by simpa using ha
                                            simp [or2, this])
    go_enter Tryz.func173, Tryz.ntmps173
    go_wp2_with fail
    go_loop [8] (fun i => i = .int .i64 0) (fun i => 2 - (intOf i).toNat)
    case atStart => rfl
    case round =>
      subst hrel
      go_wp2_with fail
      go_ret
      exact ⟨by rw [HO.out]; rfl, Aft.refl _⟩
set_option maxHeartbeats 1000000 in
theorem order_any (s1 n1 o1 : ByteArray) (v1 v2 : Value) (s2 n2 o2 : ByteArray) (v3 v4 : Value) (w : World) :
    Calls Tryz.prog 141 #[.agg #[.string s1, .string n1, .string o1, v1, v2], .agg #[.string s2, .string n2, .string o2, v3, v4]] w fun e w' => e = .returned (.int .i64 (or2 (cmpS s1 s2) (cmpS n1 n2))) ∧ Aft w w' := by
  go_enter Tryz.func141, Tryz.ntmps141
  go_wp2_with fail
  refine wp_region_tail 10 (by kernel_rfl) (by kernel_rfl) ?_
  intro w1 a1
  obtain ⟨hb1, hb2, hz, HA⟩ := aft_box2 a1
  clear a1
  simp only [List.take_succ_cons, List.take_zero, List.drop_succ_cons, List.drop_zero]
  repeat still_step
  still_call (compare_still _ _ _)
  repeat still_step
  still_call (compare_still _ _ _)
  refine wpStill_nil ?_
  go_wp2_with fail
  refine (or_any (cmpS s1 s2) (cmpS n1 n2) w1.heap.size _ (by simp) (by simp) (by simp)).mono ?_
  rintro e w2 ⟨rfl, a2⟩
  have HA2 := Lib.hid ((HA.out.alloc _).trans a2)
  clear a2
  go_wp2_with fail
  go_ret
  exact ⟨rfl, HA2.out⟩
end Go.Proofs.YtgkhmnamkfgciaaGreat

