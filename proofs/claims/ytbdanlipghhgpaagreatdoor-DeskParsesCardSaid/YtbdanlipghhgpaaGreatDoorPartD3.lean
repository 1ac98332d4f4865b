/- Contracts of the program, part 3. -/
import Derived.ProofKit
import Derived.OpenShut
import Derived.Deep.Slices
import Derived.ChangeOld
import Derived.SizedLaws
import Derived.WalkKit
import Derived.WalkSpells
import Derived.WalkLawsBesides
import Derived.Lib.Hide
import Derived.Deep.QuietTactic
import Derived.BigQuiet
import Derived.Below
import Derived.Deep.Draws
import Derived.StillTailTactics
import Derived.Laws.Cells
import Derived.Laws.IdiomCopy
import Derived.Test.YtbdanlipghhgpaaGreatDoorRows
import Derived.Lib.Bytealg
import Derived.ShutString
import Derived.Lib.Atoi
import Derived.Lib.ItoaNum
import Derived.Lib.Split
import Derived.Lib.SplitLaws
import Derived.Lib.CutLaws
import Derived.Lib.Strings
import Derived.Lib.SlTrimSet
import Derived.Laws.EntriesVeiled
import Derived.Deep.Upon
import Derived.OwnWalk
import Derived.Laws.AppendOwn
import Derived.Shelf.Strings.Builder1
import Derived.Shelf.Strings.Builder2
import Derived.Shelf.Strings.OnBuilder
import Derived.Shelf.Strings.Trim
import Derived.Shelf.Small.Utf8
import Derived.Shelf.Small.Strs
import Derived.Shelf.Small.Wraps
import Derived.Shelf.Strconv.Atoi
import Derived.Shelf.Strconv.Itoa0
import Derived.Shelf.Strconv.Itoa1
import Derived.Shelf.LaysM
import Derived.Shelf.Strconv.Itoa2
import Derived.Shelf.Strconv.Itoa3
import Derived.Shelf.Strings.Search1
import Derived.Shelf.Strings.Search2
import Derived.Shelf.Strings.Search3
import Derived.Shelf.Strings.Cut
import Derived.Shelf.Strings.Count
import Derived.Shelf.Strings.Shaped
import Derived.Shelf.Strings.Prefix
import Derived.Shelf.Strings.Split
import Derived.Shelf.Strings.Runes
import Derived.Shelf.Strings.AsciiSet
import Derived.Shelf.Unicode.DecodeSlow
import Derived.Shelf.Slices.Equal
import Derived.Shelf.Slices.Empties2
import Derived.Shelf.Strings.SlTrimAscii
import Derived.Test.YtbdanlipghhgpaaGreatDoorProg
import Derived.Deep.AppendLies
import Derived.Test.YtbdanlipghhgpaaGreatDoorPartD1
import Derived.Test.YtbdanlipghhgpaaGreatDoorPartD2
namespace Go.Proofs.YtbdanlipghhgpaaGreatDoor
set_option linter.unusedVariables false
abbrev RD (α : Type) := α × Ws × Bool
def bindD {α β : Type} (r : RD α) (g : α → Ws → Bool → RD β) : RD β := g r.1 r.2.1 r.2.2
def moreD (W : Ws) (b : Bool) : Bool := !W.isEmpty && !b
def oneD {α : Type} (f : ByteArray → α × Bool) (W : Ws) (b : Bool) : RD α :=
  match W, b with
  | s :: W, false => ((f s).1, W, !(f s).2)
  | W, _ => ((f zBy).1, W, true)
def manyD {α : Type} (f : ByteArray → α × Bool) : Ws → RD (List α)
  | [] => ([(f zBy).1], [], true)
  | s :: W => if (f s).2 then (if W.isEmpty then ([(f s).1], [], false) else ((f s).1 :: (manyD f W).1, (manyD f W).2)) else ([(f s).1], W, true)
def manyB {α : Type} (f : ByteArray → α × Bool) (W : Ws) (b : Bool) : RD (List α) := if b then ([(f zBy).1], W, true) else manyD f W
def numV (s : ByteArray) : Int × Bool := ((numB s).getD 0, (numB s).isSome)
def nameV (s : ByteArray) : ByteArray × Bool := (s, nameB s)
def colsS (s : ByteArray) : Ws := (cutL 58 s.data.toList).map wd
def colV (s : ByteArray) : Col × Bool :=
  if decide ((colsS (nulless s)).length = 2) && nameB ((colsS (nulless s)).getD 0 zBy) && (eqS ((colsS (nulless s)).getD 1 zBy) b_int || eqS ((colsS (nulless s)).getD 1 zBy) b_text) then
    (⟨(colsS (nulless s)).getD 0 zBy, if eqS ((colsS (nulless s)).getD 1 zBy) b_text then 3 else 2, nulB s⟩, true)
  else (⟨zBy, 0, nulB s⟩, false)
def valV (s : ByteArray) : Val × Bool :=
  if eqS s b_null then (⟨1, 0, zBy⟩, true)
  else if quoB s then (⟨3, 0, quoless s⟩, txtB (quoless s))
  else (⟨2, (numV s).1, zBy⟩, (numV s).2)
def wordD : Ws → Bool → RD ByteArray := oneD fun s => (s, true)
def nameD : Ws → Bool → RD ByteArray := oneD nameV
def numD : Ws → Bool → RD Int := oneD numV
def colD : Ws → Bool → RD Col := oneD colV
def valD : Ws → Bool → RD Val := oneD valV
def kindB (w : ByteArray) : Int :=
  if eqS w b_schema then 1
  else if eqS w b_dropschema then 2
  else if eqS w b_table then 3
  else if eqS w b_droptable then 4
  else if eqS w b_column then 5
  else if eqS w b_dropcolumn then 6
  else if eqS w b_index then 7
  else if eqS w b_key then 7
  else if eqS w b_check then 7
  else if eqS w b_foreign then 7
  else if eqS w b_droprule then 8
  else if eqS w b_owner then 9
  else if eqS w b_role then 10
  else if eqS w b_droprole then 11
  else if eqS w b_member then 12
  else if eqS w b_unmember then 13
  else if eqS w b_grant then 14
  else if eqS w b_revoke then 15
  else 0
def ruleD (w : ByteArray) (W : Ws) (b : Bool) : RD Rul :=
  bindD (nameD W b) fun n W b =>
  if eqS w b_index then bindD (manyB nameV W b) fun l W b => (⟨n, 1, l, 0, 0, zBy, zBy, zBy⟩, W, b)
  else if eqS w b_key then bindD (manyB nameV W b) fun l W b => (⟨n, 2, l, 0, 0, zBy, zBy, zBy⟩, W, b)
  else if eqS w b_check then bindD (nameD W b) fun c W b => bindD (numD W b) fun lo W b => bindD (numD W b) fun hi W b => (⟨n, 3, [c], lo, hi, zBy, zBy, zBy⟩, W, b)
  else if eqS w b_foreign then bindD (nameD W b) fun s W b => bindD (nameD W b) fun t W b => bindD (nameD W b) fun q W b => bindD (manyB nameV W b) fun l W b => (⟨n, 4, l, 0, 0, s, t, q⟩, W, b)
  else (⟨n, 0, [], 0, 0, zBy, zBy, zBy⟩, W, b)
def rightV (s : ByteArray) : Int × Bool := if eqS s b_read then (1, true) else if eqS s b_write then (2, true) else (0, false)
def grantD (k : Int) (x : Cmd) (W : Ws) (b : Bool) : RD Cmd :=
  bindD (oneD rightV W b) fun r W b => bindD (nameD W b) fun t W b =>
  if k = 14 ∧ moreD W b = true then bindD (oneD (fun s => (s, eqS s b_option)) W b) fun _ W b => ({ x with right := r, role := t, opt := true }, W, b)
  else ({ x with right := r, role := t }, W, b)
def tailD (w : ByteArray) (k : Int) (x : Cmd) (W : Ws) (b : Bool) : RD Cmd :=
  if k = 3 then bindD (manyB colV W b) fun l W b => ({ x with cols := l }, W, b)
  else if k = 5 then bindD (colD W b) fun c W b => ({ x with cols := [c] }, W, b)
  else if k = 6 ∨ k = 8 then bindD (nameD W b) fun s W b => ({ x with name := s }, W, b)
  else if k = 7 then bindD (ruleD w W b) fun r W b => ({ x with rule := r }, W, b)
  else if k = 9 then bindD (nameD W b) fun s W b => ({ x with role := s }, W, b)
  else if k = 14 ∨ k = 15 then grantD k x W b
  else (x, W, b)
def cmdD (W : Ws) (b : Bool) : RD Cmd :=
  bindD (oneD (fun s => (s, kindB s != 0)) W b) fun w W b => bindD (nameD W b) fun a W b =>
  if 10 ≤ kindB w ∧ kindB w ≤ 13 then bindD (nameD W b) fun r W b =>
    if 12 ≤ kindB w then bindD (nameD W b) fun n W b => ({ zCmd with kind := kindB w, actor := a, role := r, name := n }, W, b)
    else ({ zCmd with kind := kindB w, actor := a, role := r }, W, b)
  else bindD (nameD W b) fun s W b =>
    if kindB w ≠ 1 ∧ kindB w ≠ 2 then bindD (nameD W b) fun t W b => tailD w (kindB w) { zCmd with kind := kindB w, actor := a, schema := s, table := t } W b
    else ({ zCmd with kind := kindB w, actor := a, schema := s }, W, b)
def rowD (W : Ws) (b : Bool) : RD ROp :=
  bindD (wordD W b) fun f W b => bindD (nameD W b) fun r W b => bindD (nameD W b) fun s W b => bindD (nameD W b) fun t W b =>
  if eqS f b_insert then bindD (manyB valV W b) fun l W b => (⟨1, r, s, t, l, zBy, zVal⟩, W, b)
  else if eqS f b_remove then bindD (nameD W b) fun c W b => bindD (valD W b) fun v W b => (⟨2, r, s, t, [], c, v⟩, W, b)
  else if eqS f b_select then (if moreD W b = true then bindD (nameD W b) fun c W b => bindD (valD W b) fun v W b => (⟨3, r, s, t, [], c, v⟩, W, b) else (⟨3, r, s, t, [], zBy, zVal⟩, W, b))
  else (⟨0, r, s, t, [], zBy, zVal⟩, W, true)
def chgD (k : Int) (W : Ws) (b : Bool) : RD Dact := bindD (numD W b) fun n W b => bindD (numD W b) fun m W b => ({ zAct with kind := 8, node := n, ck := k, cn := m }, W, b)
def threeD (k : Int) (W : Ws) (b : Bool) : RD Dact := bindD (numD W b) fun x W b => bindD (numD W b) fun y W b => bindD (numD W b) fun z W b => ({ zAct with kind := k, node := x, client := y, number := z }, W, b)
def actD (W : Ws) (b : Bool) : RD Dact :=
  bindD (wordD W b) fun f W b =>
  if eqS f b_tick then bindD (numD W b) fun n W b => ({ zAct with kind := 1, node := n }, W, b)
  else if eqS f b_world then ({ zAct with kind := 2 }, W, b)
  else if eqS f b_start then bindD (numD W b) fun n W b => ({ zAct with kind := 12, node := n }, W, b)
  else if eqS f b_deliver then bindD (numD W b) fun n W b => ({ zAct with kind := 3, n := n }, W, b)
  else if eqS f b_drop then bindD (numD W b) fun n W b => ({ zAct with kind := 4, n := n }, W, b)
  else if eqS f b_double then bindD (numD W b) fun n W b => ({ zAct with kind := 5, n := n }, W, b)
  else if eqS f b_ask then bindD (threeD 6 W b) fun a W b => bindD (cmdD W b) fun x W b => ({ a with cmd := x }, W, b)
  else if eqS f b_read then threeD 7 W b
  else if eqS f b_learner then chgD 1 W b
  else if eqS f b_voter then chgD 2 W b
  else if eqS f b_remove then chgD 3 W b
  else if eqS f b_lease then bindD (numD W b) fun n W b => bindD (numD W b) fun m W b => ({ zAct with kind := 9, n := n, node := m }, W, b)
  else if eqS f b_row then bindD (numD W b) fun n W b => bindD (rowD W b) fun x W b => ({ zAct with kind := 10, n := n, row := x }, W, b)
  else if eqS f b_crash then bindD (numD W b) fun n W b => bindD (numD W b) fun m W b => ({ zAct with kind := 11, node := n, n := m }, W, b)
  else (zAct, W, true)
def parseD (s : ByteArray) : Option Dact :=
  if s.size ≤ 4096 then (if (actD (wordsB s) false).2.2 || !(actD (wordsB s) false).2.1.isEmpty then none else some (actD (wordsB s) false).1) else none

def Rl {α : Type} (r : RD α) (o : Option (α × Ws)) : Prop :=
  match o with
  | some (x, W) => r = (x, W, false)
  | none => r.2.2 = true
structure RR {α : Type} (g : Ws → Bool → RD α) (h : Ws → Option (α × Ws)) : Prop where
  same : ∀ W, Rl (g W false) (h W)
  stay : ∀ W, (g W true).2.2 = true
theorem RR.bind {α β : Type} {g : Ws → Bool → RD α} {h : Ws → Option (α × Ws)} {g2 : α → Ws → Bool → RD β} {h2 : α × Ws → Option (β × Ws)} (H : RR g h) (H2 : ∀ x, RR (g2 x) (fun W => h2 (x, W))) :
    RR (fun W b => bindD (g W b) g2) (fun W => (h W).bind h2) := by
  refine ⟨fun W => ?_, fun W => ?_⟩
  · have h0 := H.same W
    unfold bindD
    cases hq : h W with
    | none =>
      rw [hq] at h0
      show Rl _ none
      have h0' : (g W false).2.2 = true := h0
      show (g2 _ _ (g W false).2.2).2.2 = true
      rw [h0']
      exact (H2 _).stay _
    | some y =>
      obtain ⟨x, W1⟩ := y
      rw [hq] at h0
      have h0' : g W false = (x, W1, false) := h0
      rw [h0']
      exact (H2 x).same W1
  · unfold bindD
    rw [H.stay W]
    exact (H2 _).stay _
theorem RR.done {α : Type} (x : α) : RR (fun W b => (x, W, b)) (fun W => some (x, W)) := ⟨fun _ => rfl, fun _ => rfl⟩
theorem RR.fail {α : Type} (x : α) : RR (fun W b => (x, W, true)) (fun _ => none) := ⟨fun _ => rfl, fun _ => rfl⟩
theorem RR.ite {α : Type} {c : Prop} [Decidable c] {g g' : Ws → Bool → RD α} {h h' : Ws → Option (α × Ws)} (H : RR g h) (H' : RR g' h') : RR (fun W b => if c then g W b else g' W b) (fun W => if c then h W else h' W) := by
  by_cases hc : c
  · simp only [if_pos hc]; exact H
  · simp only [if_neg hc]; exact H'
theorem RR.one {α : Type} {f : ByteArray → α × Bool} {p : ByteArray → Option α} (hf : ∀ s, (f s).2 = (p s).isSome ∧ ∀ x, p s = some x → (f s).1 = x) : RR (oneD f) (oneP p) := by
  refine ⟨fun W => ?_, fun W => by cases W <;> rfl⟩
  cases W with
  | nil => rfl
  | cons s W =>
    obtain ⟨h1, h2⟩ := hf s
    cases hq : p s with
    | none =>
      rw [hq] at h1
      simp only [oneP, hq, Option.map_none]
      show (!(f s).2) = true
      rw [h1]; rfl
    | some x =>
      rw [hq] at h1
      simp only [oneP, hq, Option.map_some]
      show ((f s).1, W, !(f s).2) = (x, W, false)
      rw [h1, h2 x hq]; rfl
theorem many_same {α : Type} {f : ByteArray → α × Bool} {p : ByteArray → Option α} (hf : ∀ s, (f s).2 = (p s).isSome ∧ ∀ x, p s = some x → (f s).1 = x) : ∀ W, Rl (manyD f W) (manyP p W)
  | [] => rfl
  | s :: W => by
    obtain ⟨h1, h2⟩ := hf s
    have ih := many_same hf W
    unfold manyD manyP
    rw [List.mapM_cons]
    cases hq : p s with
    | none =>
      rw [hq] at h1
      have h1' : (f s).2 = false := h1
      rw [h1', if_neg (by decide), if_neg (by simp)]
      rfl
    | some x =>
      rw [hq] at h1
      have h1' : (f s).2 = true := h1
      rw [if_pos h1', h2 x hq, if_neg (show ¬ s :: W = [] by simp)]
      cases W with
      | nil => rfl
      | cons t W =>
        rw [if_neg (by simp)]
        unfold manyP at ih
        rw [if_neg (by simp)] at ih
        cases hm : (t :: W).mapM p with
        | none =>
          rw [hm] at ih
          exact ih
        | some l =>
          rw [hm] at ih
          have ih' : manyD f (t :: W) = (l, [], false) := ih
          rw [ih']; rfl
theorem RR.many {α : Type} {f : ByteArray → α × Bool} {p : ByteArray → Option α} (hf : ∀ s, (f s).2 = (p s).isSome ∧ ∀ x, p s = some x → (f s).1 = x) : RR (manyB f) (manyP p) :=
  ⟨fun W => by unfold manyB; rw [if_neg (by simp)]; exact many_same hf W, fun W => rfl⟩
theorem nameV_ok (s : ByteArray) : (nameV s).2 = (nameO s).isSome ∧ ∀ x, nameO s = some x → (nameV s).1 = x := by
  unfold nameV nameO
  cases nameB s <;> simp
theorem numV_ok (s : ByteArray) : (numV s).2 = (numB s).isSome ∧ ∀ x, numB s = some x → (numV s).1 = x := by
  unfold numV
  cases numB s <;> simp
theorem valV_ok (s : ByteArray) : (valV s).2 = (valB s).isSome ∧ ∀ x, valB s = some x → (valV s).1 = x := by
  unfold valV valB
  cases eqS s b_null with
  | true => simp
  | false =>
    cases quoB s with
    | true => cases txtB (quoless s) <;> simp
    | false => unfold numV; cases numB s <;> simp
theorem cut_first (b : UInt8) : ∀ l : Bts, cutL b l = [l] ∧ b ∉ l ∨ ∃ w r, l = w ++ b :: r ∧ b ∉ w ∧ cutL b l = w :: cutL b r
  | [] => .inl ⟨rfl, by simp⟩
  | c :: l => by
    by_cases h : c = b
    · subst h
      exact .inr ⟨[], l, rfl, by simp, by simp [cutL]⟩
    · rcases cut_first b l with ⟨h1, h2⟩ | ⟨w, r, rfl, h2, h3⟩
      · exact .inl ⟨cut_free b _ (by simp [h2, Ne.symm h]), by simp [h2, Ne.symm h]⟩
      · have h4 : b ∉ c :: w := by simp [h2, Ne.symm h]
        exact .inr ⟨c :: w, r, rfl, h4, cut_pre b (c :: w) r h4⟩
theorem colV_ok (s : ByteArray) : (colV s).2 = (colB s).isSome ∧ ∀ x, colB s = some x → (colV s).1 = x := by
  have e1 : (nulless s).data.toList = Lib.trimSuffix s.data.toList [63] := wd_data _
  generalize hl : (nulless s).data.toList = l at *
  rcases cut_first 58 l with ⟨h1, h2⟩ | ⟨w, r, h1, h2, h3⟩
  · have c0 : Lib.index l [58] = -1 := by
      rw [Lib.index_one]
      rcases Int.lt_or_le (Lib.indexByte l 58) 0 with h | h
      · have := Lib.indexByte_ge l 58; omega
      · obtain ⟨o, h⟩ : ∃ o : Nat, Lib.indexByte l 58 = o := ⟨_, (Int.toNat_of_nonneg h).symm⟩
        obtain ⟨h5, _⟩ := Lib.indexByte_some h
        exact absurd (List.mem_of_getElem? h5) h2
    have c1 : cutK (nulless s) = zBy := by unfold cutK Lib.cut; rw [hl, c0]; rfl
    have c2 : colsS (nulless s) = [wd l] := by unfold colsS; rw [hl, h1]; rfl
    unfold colV colB
    rw [c1, c2]
    simp [eqS, zBy, b_int, b_text]
  · have c0 : Lib.index l [58] = (w.length : Nat) := by
      rw [Lib.index_one]
      rcases Int.lt_or_le (Lib.indexByte l 58) 0 with h | h
      · have h5 := Lib.indexByte_none (l := l) (c := 58) (by have := Lib.indexByte_ge l 58; omega) w.length
        rw [h1] at h5
        simp at h5
      · obtain ⟨o, h⟩ : ∃ o : Nat, Lib.indexByte l 58 = o := ⟨_, (Int.toNat_of_nonneg h).symm⟩
        obtain ⟨h5, h6⟩ := Lib.indexByte_some h
        rw [h]
        congr 1
        rcases Nat.lt_trichotomy o w.length with h7 | h7 | h7
        · rw [h1, List.getElem?_append_left h7] at h5
          exact absurd (List.mem_of_getElem? h5) h2
        · exact h7
        · have := h6 _ h7
          rw [h1] at this
          simp at this
    have c1 : cutN (nulless s) = wd w := by unfold cutN Lib.cut; rw [hl, c0, h1]; simp
    have c2 : cutK (nulless s) = wd r := by unfold cutK Lib.cut; rw [hl, c0, h1, if_pos (by omega)]; simp only [Int.toNat_natCast, List.length_cons, List.length_nil]; rw [show List.length w + (0 + 1) = (w ++ [58]).length by simp, show w ++ 58 :: r = (w ++ [58]) ++ r by simp, List.drop_left]
    have c3 : colsS (nulless s) = wd w :: (cutL 58 r).map wd := by unfold colsS; rw [hl, h3]; rfl
    unfold colV colB
    rw [c1, c2, c3]
    rcases cut_first 58 r with ⟨h4, h5⟩ | ⟨v, q, h4, h5, h6⟩
    · rw [h4]
      simp only [List.map_cons, List.map_nil, List.length_cons, List.length_nil, List.getD_cons_zero, List.getD_cons_succ]
      cases nameB (wd w) <;> cases eqS (wd r) b_int <;> cases eqS (wd r) b_text <;> simp
    · have hn := cutL_ne 58 q
      have k1 : eqS (wd r) b_int = false := by
        cases hq : eqS (wd r) b_int with
        | false => rfl
        | true =>
          rw [eqS_iffD] at hq
          have := congrArg (fun b : ByteArray => b.data.toList) hq
          simp only [wd_data] at this
          rw [this] at h4
          have := congrArg (fun l : Bts => (58 : UInt8) ∈ l) h4
          simp [b_int] at this
      have k2 : eqS (wd r) b_text = false := by
        cases hq : eqS (wd r) b_text with
        | false => rfl
        | true =>
          rw [eqS_iffD] at hq
          have := congrArg (fun b : ByteArray => b.data.toList) hq
          simp only [wd_data] at this
          rw [this] at h4
          have := congrArg (fun l : Bts => (58 : UInt8) ∈ l) h4
          simp [b_text] at this
      rw [k1, k2, h6]
      simp [hn]
theorem RR.name : RR nameD nameP := RR.one nameV_ok
theorem RR.num : RR numD numP := RR.one numV_ok
theorem RR.col : RR colD colP := RR.one colV_ok
theorem RR.val : RR valD valP := RR.one valV_ok
theorem RR.word : RR wordD wordP := RR.one fun s => ⟨rfl, fun x h => by simpa using h⟩
theorem RR.names : RR (manyB nameV) namesP := RR.many nameV_ok
theorem RR.cols : RR (manyB colV) colsP := RR.many colV_ok
theorem RR.vals : RR (manyB valV) valsP := RR.many valV_ok
theorem RR.eq {α : Type} {g g' : Ws → Bool → RD α} {h h' : Ws → Option (α × Ws)} (H : RR g h) (e : g' = g) (e' : h' = h) : RR g' h' := by rw [e, e']; exact H
theorem RR.chg (k : Int) : RR (chgD k) (chgP k) := RR.num.bind fun n => RR.num.bind fun m => RR.done _
theorem RR.three (k : Int) : RR (threeD k) (threeP k) := RR.num.bind fun n => RR.num.bind fun m => RR.num.bind fun q => RR.done _
theorem RR.row : RR rowD rowP := by
  refine RR.word.bind fun f => RR.name.bind fun r => RR.name.bind fun s => RR.name.bind fun t => ?_
  refine RR.ite (RR.vals.bind fun l => RR.done _) (RR.ite (RR.name.bind fun c => RR.val.bind fun v => RR.done _) (RR.ite ?_ (RR.fail _)))
  have H : RR (fun W b => bindD (nameD W b) fun c W b => bindD (valD W b) fun v W b => ((⟨3, r, s, t, [], c, v⟩ : ROp), W, b)) (fun W => (nameP W).bind fun (c, W) => (valP W).bind fun (v, W) => some ((⟨3, r, s, t, [], c, v⟩ : ROp), W)) := RR.name.bind fun c => RR.val.bind fun v => RR.done _
  refine ⟨fun W => ?_, fun W => ?_⟩
  · cases W with
    | nil => rfl
    | cons x W =>
      rw [if_pos (by simp [moreD]), if_neg (by simp)]
      exact H.same (x :: W)
  · rw [if_neg (by simp [moreD])]
theorem eqS_no {a b : ByteArray} (h : a.data ≠ b.data) : eqS a b = false := by
  cases hq : eqS a b with
  | false => rfl
  | true => rw [eqS_iffD] at hq; subst hq; exact absurd rfl h
theorem eqS_yes (a : ByteArray) : eqS a a = true := (eqS_iffD a a).2 rfl
theorem RR.posD {α : Type} {c : Prop} [Decidable c] {g g' : Ws → Bool → RD α} {h : Ws → Option (α × Ws)} (hc : c) (H : RR g h) : RR (fun W b => if c then g W b else g' W b) h := by simp only [if_pos hc]; exact H
theorem RR.negD {α : Type} {c : Prop} [Decidable c] {g g' : Ws → Bool → RD α} {h : Ws → Option (α × Ws)} (hc : ¬ c) (H : RR g' h) : RR (fun W b => if c then g W b else g' W b) h := by simp only [if_neg hc]; exact H
theorem RR.posP {α : Type} {c : Prop} [Decidable c] {g : Ws → Bool → RD α} {h h' : Ws → Option (α × Ws)} (hc : c) (H : RR g h) : RR g (fun W => if c then h W else h' W) := by simp only [if_pos hc]; exact H
theorem RR.negP {α : Type} {c : Prop} [Decidable c] {g : Ws → Bool → RD α} {h h' : Ws → Option (α × Ws)} (hc : ¬ c) (H : RR g h') : RR g (fun W => if c then h W else h' W) := by simp only [if_neg hc]; exact H
theorem neB {a b : ByteArray} (h : a.data ≠ b.data) : ¬ eqS a b = true := by rw [eqS_no h]; decide
theorem RR.rule (w : ByteArray) (k : Int) (hw : (w = b_index ∧ k = 1) ∨ (w = b_key ∧ k = 2) ∨ (w = b_check ∧ k = 3) ∨ (w = b_foreign ∧ k = 4)) : RR (ruleD w) (ruleP k) := by
  refine RR.name.bind fun n => ?_
  rcases hw with ⟨rfl, rfl⟩ | ⟨rfl, rfl⟩ | ⟨rfl, rfl⟩ | ⟨rfl, rfl⟩
  · exact RR.posD (eqS_yes _) (RR.negP (by decide) (RR.negP (by decide) (RR.names.bind fun l => RR.done _)))
  · exact RR.negD (neB (by decide)) (RR.posD (eqS_yes _) (RR.negP (by decide) (RR.negP (by decide) (RR.names.bind fun l => RR.done _))))
  · exact RR.negD (neB (by decide)) (RR.negD (neB (by decide)) (RR.posD (eqS_yes _) (RR.posP rfl (RR.name.bind fun c => RR.num.bind fun lo => RR.num.bind fun hi => RR.done _))))
  · exact RR.negD (neB (by decide)) (RR.negD (neB (by decide)) (RR.negD (neB (by decide)) (RR.posD (eqS_yes _) (RR.negP (by decide) (RR.posP rfl (RR.name.bind fun s => RR.name.bind fun t => RR.name.bind fun q => RR.names.bind fun l => RR.done _))))))
theorem rightV_ok (s : ByteArray) : (rightV s).2 = (rightO s).isSome ∧ ∀ x, rightO s = some x → (rightV s).1 = x := by
  unfold rightV rightO
  cases eqS s b_read <;> cases eqS s b_write <;> simp
theorem RR.revoke (x : Cmd) : RR (grantD 15 x) (rightP x) := by
  refine (RR.one rightV_ok).bind fun r => RR.name.bind fun t => ?_
  exact RR.done _
theorem RR.grant (x : Cmd) : RR (grantD 14 x) (fun W => (rightP x W).bind fun (y, W) => optP y W) := by
  have H : RR (grantD 14 x) (fun W => (oneP rightO W).bind fun (r, W) => (nameP W).bind fun (t, W) => optP { x with right := r, role := t } W) := by
    refine (RR.one rightV_ok).bind fun r => RR.name.bind fun t => ?_
    refine ⟨fun W => ?_, fun W => ?_⟩
    · cases W with
      | nil => rfl
      | cons s W =>
        rw [if_pos ⟨rfl, by simp [moreD]⟩]
        simp only [optP, bindD, oneD]
        cases eqS s b_option <;> rfl
    · rw [if_neg (by simp [moreD])]
  refine H.eq rfl ?_
  funext W
  unfold rightP
  cases hq : oneP rightO W with
  | none => rfl
  | some y =>
    simp only [Option.bind_some]
    cases hq2 : nameP y.2 with
    | none => rfl
    | some z => rfl
theorem RR.table (x : Cmd) {g : ByteArray → ByteArray → Ws → Bool → RD Cmd} {h : Cmd × Ws → Option (Cmd × Ws)} (H : ∀ s t, RR (g s t) (fun W => h ({ x with schema := s, table := t }, W))) :
    RR (fun W b => bindD (nameD W b) fun s W b => bindD (nameD W b) fun t W b => g s t W b) (fun W => (tableP x W).bind h) := by
  have H1 : RR (fun W b => bindD (nameD W b) fun s W b => bindD (nameD W b) fun t W b => g s t W b) (fun W => (nameP W).bind fun (s, W) => (nameP W).bind fun (t, W) => h ({ x with schema := s, table := t }, W)) :=
    RR.name.bind fun s => RR.name.bind fun t => H s t
  refine H1.eq rfl ?_
  funext W
  unfold tableP
  cases hq : nameP W with
  | none => rfl
  | some y =>
    simp only [Option.bind_some]
    cases hq2 : nameP y.2 with
    | none => rfl
    | some z => rfl
def Stay {α : Type} (g : Ws → Bool → RD α) : Prop := ∀ W, (g W true).2.2 = true
theorem Stay.bind {α β : Type} {g : Ws → Bool → RD α} {g2 : α → Ws → Bool → RD β} (H : Stay g) (H2 : ∀ x, Stay (g2 x)) : Stay (fun W b => bindD (g W b) g2) := fun W => by
  show (g2 (g W true).1 (g W true).2.1 (g W true).2.2).2.2 = true
  rw [H W]; exact H2 _ _
theorem Stay.done {α : Type} (x : α) : Stay (fun W b => (x, W, b)) := fun _ => rfl
def restD (w a : ByteArray) (W : Ws) (b : Bool) : RD Cmd :=
  if 10 ≤ kindB w ∧ kindB w ≤ 13 then bindD (nameD W b) fun r W b =>
    if 12 ≤ kindB w then bindD (nameD W b) fun n W b => ({ zCmd with kind := kindB w, actor := a, role := r, name := n }, W, b)
    else ({ zCmd with kind := kindB w, actor := a, role := r }, W, b)
  else bindD (nameD W b) fun s W b =>
    if kindB w ≠ 1 ∧ kindB w ≠ 2 then bindD (nameD W b) fun t W b => tailD w (kindB w) { zCmd with kind := kindB w, actor := a, schema := s, table := t } W b
    else ({ zCmd with kind := kindB w, actor := a, schema := s }, W, b)
theorem cmdD_rest (W : Ws) (b : Bool) : cmdD W b = bindD (oneD (fun s => (s, kindB s != 0)) W b) fun w W b => bindD (nameD W b) fun a W b => restD w a W b := rfl
theorem rest_none (w a : ByteArray) (h : kindB w = 0) : Stay (restD w a) := by
  have e : restD w a = fun W b => bindD (nameD W b) fun s W b => bindD (nameD W b) fun t W b => ({ zCmd with actor := a, schema := s, table := t }, W, b) := by
    funext W b
    unfold restD
    rw [h]; rfl
  rw [e]
  exact Stay.bind RR.name.stay fun s => Stay.bind RR.name.stay fun t => Stay.done _
theorem body_none (f : ByteArray) (x : Cmd) (W : Ws) (h : kindB f = 0) : bodyP f x W = none := by
  unfold kindB at h
  unfold bodyP
  have h' := ite_or h; clear h; rcases h' with ⟨-, h⟩ | ⟨e0, h⟩
  · exact absurd h (by decide)
  have h' := ite_or h; clear h; rcases h' with ⟨-, h⟩ | ⟨e1, h⟩
  · exact absurd h (by decide)
  have h' := ite_or h; clear h; rcases h' with ⟨-, h⟩ | ⟨e2, h⟩
  · exact absurd h (by decide)
  have h' := ite_or h; clear h; rcases h' with ⟨-, h⟩ | ⟨e3, h⟩
  · exact absurd h (by decide)
  have h' := ite_or h; clear h; rcases h' with ⟨-, h⟩ | ⟨e4, h⟩
  · exact absurd h (by decide)
  have h' := ite_or h; clear h; rcases h' with ⟨-, h⟩ | ⟨e5, h⟩
  · exact absurd h (by decide)
  have h' := ite_or h; clear h; rcases h' with ⟨-, h⟩ | ⟨e6, h⟩
  · exact absurd h (by decide)
  have h' := ite_or h; clear h; rcases h' with ⟨-, h⟩ | ⟨e7, h⟩
  · exact absurd h (by decide)
  have h' := ite_or h; clear h; rcases h' with ⟨-, h⟩ | ⟨e8, h⟩
  · exact absurd h (by decide)
  have h' := ite_or h; clear h; rcases h' with ⟨-, h⟩ | ⟨e9, h⟩
  · exact absurd h (by decide)
  have h' := ite_or h; clear h; rcases h' with ⟨-, h⟩ | ⟨e10, h⟩
  · exact absurd h (by decide)
  have h' := ite_or h; clear h; rcases h' with ⟨-, h⟩ | ⟨e11, h⟩
  · exact absurd h (by decide)
  have h' := ite_or h; clear h; rcases h' with ⟨-, h⟩ | ⟨e12, h⟩
  · exact absurd h (by decide)
  have h' := ite_or h; clear h; rcases h' with ⟨-, h⟩ | ⟨e13, h⟩
  · exact absurd h (by decide)
  have h' := ite_or h; clear h; rcases h' with ⟨-, h⟩ | ⟨e14, h⟩
  · exact absurd h (by decide)
  have h' := ite_or h; clear h; rcases h' with ⟨-, h⟩ | ⟨e15, h⟩
  · exact absurd h (by decide)
  have h' := ite_or h; clear h; rcases h' with ⟨-, h⟩ | ⟨e16, h⟩
  · exact absurd h (by decide)
  have h' := ite_or h; clear h; rcases h' with ⟨-, h⟩ | ⟨e17, h⟩
  · exact absurd h (by decide)
  rw [if_neg e0, if_neg e1, if_neg e2, if_neg e3, if_neg e4, if_neg e5, if_neg e6, if_neg e7, if_neg e8, if_neg e9, if_neg e10, if_neg e11, if_neg e12, if_neg e13, if_neg e14, if_neg e15, if_neg e16, if_neg e17]
theorem RR.rest (w a : ByteArray) (h : kindB w ≠ 0) : RR (restD w a) (fun W => bodyP w { zCmd with actor := a } W) := by
  unfold kindB at h
  by_cases e : eqS w b_schema = true
  · rw [eqS_iffD] at e; subst e; clear h
    have k : kindB b_schema = 1 := by decide +kernel
    unfold restD; rw [k]
    exact RR.posP (eqS_yes _) (RR.negD (by decide +kernel) (RR.name.bind fun s => RR.negD (by decide +kernel) (RR.done _)))
  rw [if_neg e] at h; clear e
  by_cases e : eqS w b_dropschema = true
  · rw [eqS_iffD] at e; subst e; clear h
    have k : kindB b_dropschema = 2 := by decide +kernel
    unfold restD; rw [k]
    exact RR.negP (neB (by decide)) (RR.posP (eqS_yes _) (RR.negD (by decide +kernel) (RR.name.bind fun s => RR.negD (by decide +kernel) (RR.done _))))
  rw [if_neg e] at h; clear e
  by_cases e : eqS w b_table = true
  · rw [eqS_iffD] at e; subst e; clear h
    have k : kindB b_table = 3 := by decide +kernel
    have e : restD b_table a = fun W b => bindD (nameD W b) fun s W b => bindD (nameD W b) fun t W b => tailD b_table 3 { zCmd with kind := 3, actor := a, schema := s, table := t } W b := by funext W b; unfold restD; rw [k]; rfl
    rw [e]
    exact RR.negP (neB (by decide)) (RR.negP (neB (by decide)) (RR.posP (eqS_yes _) (RR.table _ fun s t => RR.posD (by decide +kernel) (RR.cols.bind fun l => RR.done _))))
  rw [if_neg e] at h; clear e
  by_cases e : eqS w b_droptable = true
  · rw [eqS_iffD] at e; subst e; clear h
    have k : kindB b_droptable = 4 := by decide +kernel
    have e : restD b_droptable a = fun W b => bindD (nameD W b) fun s W b => bindD (nameD W b) fun t W b => tailD b_droptable 4 { zCmd with kind := 4, actor := a, schema := s, table := t } W b := by funext W b; unfold restD; rw [k]; rfl
    rw [e]
    refine RR.negP (neB (by decide)) (RR.negP (neB (by decide)) (RR.negP (neB (by decide)) (RR.posP (eqS_yes _) (?_))))
    have H := RR.table { zCmd with actor := a, kind := 4 } (g := fun s t W b => tailD b_droptable 4 { zCmd with kind := 4, actor := a, schema := s, table := t } W b) (h := fun y => some y) fun s t => RR.negD (by decide +kernel) (RR.negD (by decide +kernel) (RR.negD (by decide +kernel) (RR.negD (by decide +kernel) (RR.negD (by decide +kernel) (RR.negD (by decide +kernel) (RR.done _))))))
    exact H.eq rfl (by funext W; simp)
  rw [if_neg e] at h; clear e
  by_cases e : eqS w b_column = true
  · rw [eqS_iffD] at e; subst e; clear h
    have k : kindB b_column = 5 := by decide +kernel
    have e : restD b_column a = fun W b => bindD (nameD W b) fun s W b => bindD (nameD W b) fun t W b => tailD b_column 5 { zCmd with kind := 5, actor := a, schema := s, table := t } W b := by funext W b; unfold restD; rw [k]; rfl
    rw [e]
    exact RR.negP (neB (by decide)) (RR.negP (neB (by decide)) (RR.negP (neB (by decide)) (RR.negP (neB (by decide)) (RR.posP (eqS_yes _) (RR.table _ fun s t => RR.negD (by decide +kernel) (RR.posD (by decide +kernel) (RR.col.bind fun l => RR.done _)))))))
  rw [if_neg e] at h; clear e
  by_cases e : eqS w b_dropcolumn = true
  · rw [eqS_iffD] at e; subst e; clear h
    have k : kindB b_dropcolumn = 6 := by decide +kernel
    have e : restD b_dropcolumn a = fun W b => bindD (nameD W b) fun s W b => bindD (nameD W b) fun t W b => tailD b_dropcolumn 6 { zCmd with kind := 6, actor := a, schema := s, table := t } W b := by funext W b; unfold restD; rw [k]; rfl
    rw [e]
    exact RR.negP (neB (by decide)) (RR.negP (neB (by decide)) (RR.negP (neB (by decide)) (RR.negP (neB (by decide)) (RR.negP (neB (by decide)) (RR.posP (eqS_yes _) (RR.table _ fun s t => RR.negD (by decide +kernel) (RR.negD (by decide +kernel) (RR.posD (by decide +kernel) (RR.name.bind fun l => RR.done _)))))))))
  rw [if_neg e] at h; clear e
  by_cases e : eqS w b_index = true
  · rw [eqS_iffD] at e; subst e; clear h
    have k : kindB b_index = 7 := by decide +kernel
    have e : restD b_index a = fun W b => bindD (nameD W b) fun s W b => bindD (nameD W b) fun t W b => tailD b_index 7 { zCmd with kind := 7, actor := a, schema := s, table := t } W b := by funext W b; unfold restD; rw [k]; rfl
    rw [e]
    exact RR.negP (neB (by decide)) (RR.negP (neB (by decide)) (RR.negP (neB (by decide)) (RR.negP (neB (by decide)) (RR.negP (neB (by decide)) (RR.negP (neB (by decide)) (RR.posP (eqS_yes _) (RR.table _ fun s t => RR.negD (by decide +kernel) (RR.negD (by decide +kernel) (RR.negD (by decide +kernel) (RR.posD (by decide +kernel) ((RR.rule b_index 1 (.inl ⟨rfl, rfl⟩)).bind fun r => RR.done _)))))))))))
  rw [if_neg e] at h; clear e
  by_cases e : eqS w b_key = true
  · rw [eqS_iffD] at e; subst e; clear h
    have k : kindB b_key = 7 := by decide +kernel
    have e : restD b_key a = fun W b => bindD (nameD W b) fun s W b => bindD (nameD W b) fun t W b => tailD b_key 7 { zCmd with kind := 7, actor := a, schema := s, table := t } W b := by funext W b; unfold restD; rw [k]; rfl
    rw [e]
    exact RR.negP (neB (by decide)) (RR.negP (neB (by decide)) (RR.negP (neB (by decide)) (RR.negP (neB (by decide)) (RR.negP (neB (by decide)) (RR.negP (neB (by decide)) (RR.negP (neB (by decide)) (RR.posP (eqS_yes _) (RR.table _ fun s t => RR.negD (by decide +kernel) (RR.negD (by decide +kernel) (RR.negD (by decide +kernel) (RR.posD (by decide +kernel) ((RR.rule b_key 2 (.inr (.inl ⟨rfl, rfl⟩))).bind fun r => RR.done _))))))))))))
  rw [if_neg e] at h; clear e
  by_cases e : eqS w b_check = true
  · rw [eqS_iffD] at e; subst e; clear h
    have k : kindB b_check = 7 := by decide +kernel
    have e : restD b_check a = fun W b => bindD (nameD W b) fun s W b => bindD (nameD W b) fun t W b => tailD b_check 7 { zCmd with kind := 7, actor := a, schema := s, table := t } W b := by funext W b; unfold restD; rw [k]; rfl
    rw [e]
    exact RR.negP (neB (by decide)) (RR.negP (neB (by decide)) (RR.negP (neB (by decide)) (RR.negP (neB (by decide)) (RR.negP (neB (by decide)) (RR.negP (neB (by decide)) (RR.negP (neB (by decide)) (RR.negP (neB (by decide)) (RR.posP (eqS_yes _) (RR.table _ fun s t => RR.negD (by decide +kernel) (RR.negD (by decide +kernel) (RR.negD (by decide +kernel) (RR.posD (by decide +kernel) ((RR.rule b_check 3 (.inr (.inr (.inl ⟨rfl, rfl⟩)))).bind fun r => RR.done _)))))))))))))
  rw [if_neg e] at h; clear e
  by_cases e : eqS w b_foreign = true
  · rw [eqS_iffD] at e; subst e; clear h
    have k : kindB b_foreign = 7 := by decide +kernel
    have e : restD b_foreign a = fun W b => bindD (nameD W b) fun s W b => bindD (nameD W b) fun t W b => tailD b_foreign 7 { zCmd with kind := 7, actor := a, schema := s, table := t } W b := by funext W b; unfold restD; rw [k]; rfl
    rw [e]
    exact RR.negP (neB (by decide)) (RR.negP (neB (by decide)) (RR.negP (neB (by decide)) (RR.negP (neB (by decide)) (RR.negP (neB (by decide)) (RR.negP (neB (by decide)) (RR.negP (neB (by decide)) (RR.negP (neB (by decide)) (RR.negP (neB (by decide)) (RR.posP (eqS_yes _) (RR.table _ fun s t => RR.negD (by decide +kernel) (RR.negD (by decide +kernel) (RR.negD (by decide +kernel) (RR.posD (by decide +kernel) ((RR.rule b_foreign 4 (.inr (.inr (.inr ⟨rfl, rfl⟩)))).bind fun r => RR.done _))))))))))))))
  rw [if_neg e] at h; clear e
  by_cases e : eqS w b_droprule = true
  · rw [eqS_iffD] at e; subst e; clear h
    have k : kindB b_droprule = 8 := by decide +kernel
    have e : restD b_droprule a = fun W b => bindD (nameD W b) fun s W b => bindD (nameD W b) fun t W b => tailD b_droprule 8 { zCmd with kind := 8, actor := a, schema := s, table := t } W b := by funext W b; unfold restD; rw [k]; rfl
    rw [e]
    exact RR.negP (neB (by decide)) (RR.negP (neB (by decide)) (RR.negP (neB (by decide)) (RR.negP (neB (by decide)) (RR.negP (neB (by decide)) (RR.negP (neB (by decide)) (RR.negP (neB (by decide)) (RR.negP (neB (by decide)) (RR.negP (neB (by decide)) (RR.negP (neB (by decide)) (RR.posP (eqS_yes _) (RR.table _ fun s t => RR.negD (by decide +kernel) (RR.negD (by decide +kernel) (RR.posD (by decide +kernel) (RR.name.bind fun l => RR.done _))))))))))))))
  rw [if_neg e] at h; clear e
  by_cases e : eqS w b_owner = true
  · rw [eqS_iffD] at e; subst e; clear h
    have k : kindB b_owner = 9 := by decide +kernel
    have e : restD b_owner a = fun W b => bindD (nameD W b) fun s W b => bindD (nameD W b) fun t W b => tailD b_owner 9 { zCmd with kind := 9, actor := a, schema := s, table := t } W b := by funext W b; unfold restD; rw [k]; rfl
    rw [e]
    exact RR.negP (neB (by decide)) (RR.negP (neB (by decide)) (RR.negP (neB (by decide)) (RR.negP (neB (by decide)) (RR.negP (neB (by decide)) (RR.negP (neB (by decide)) (RR.negP (neB (by decide)) (RR.negP (neB (by decide)) (RR.negP (neB (by decide)) (RR.negP (neB (by decide)) (RR.negP (neB (by decide)) (RR.posP (eqS_yes _) (RR.table _ fun s t => RR.negD (by decide +kernel) (RR.negD (by decide +kernel) (RR.negD (by decide +kernel) (RR.negD (by decide +kernel) (RR.posD (by decide +kernel) (RR.name.bind fun l => RR.done _)))))))))))))))))
  rw [if_neg e] at h; clear e
  by_cases e : eqS w b_role = true
  · rw [eqS_iffD] at e; subst e; clear h
    have k : kindB b_role = 10 := by decide +kernel
    unfold restD; rw [k]
    exact RR.negP (neB (by decide)) (RR.negP (neB (by decide)) (RR.negP (neB (by decide)) (RR.negP (neB (by decide)) (RR.negP (neB (by decide)) (RR.negP (neB (by decide)) (RR.negP (neB (by decide)) (RR.negP (neB (by decide)) (RR.negP (neB (by decide)) (RR.negP (neB (by decide)) (RR.negP (neB (by decide)) (RR.negP (neB (by decide)) (RR.posP (eqS_yes _) (RR.posD (by decide +kernel) (RR.name.bind fun s => RR.negD (by decide +kernel) (RR.done _)))))))))))))))
  rw [if_neg e] at h; clear e
  by_cases e : eqS w b_droprole = true
  · rw [eqS_iffD] at e; subst e; clear h
    have k : kindB b_droprole = 11 := by decide +kernel
    unfold restD; rw [k]
    exact RR.negP (neB (by decide)) (RR.negP (neB (by decide)) (RR.negP (neB (by decide)) (RR.negP (neB (by decide)) (RR.negP (neB (by decide)) (RR.negP (neB (by decide)) (RR.negP (neB (by decide)) (RR.negP (neB (by decide)) (RR.negP (neB (by decide)) (RR.negP (neB (by decide)) (RR.negP (neB (by decide)) (RR.negP (neB (by decide)) (RR.negP (neB (by decide)) (RR.posP (eqS_yes _) (RR.posD (by decide +kernel) (RR.name.bind fun s => RR.negD (by decide +kernel) (RR.done _))))))))))))))))
  rw [if_neg e] at h; clear e
  by_cases e : eqS w b_member = true
  · rw [eqS_iffD] at e; subst e; clear h
    have k : kindB b_member = 12 := by decide +kernel
    unfold restD; rw [k]
    exact RR.negP (neB (by decide)) (RR.negP (neB (by decide)) (RR.negP (neB (by decide)) (RR.negP (neB (by decide)) (RR.negP (neB (by decide)) (RR.negP (neB (by decide)) (RR.negP (neB (by decide)) (RR.negP (neB (by decide)) (RR.negP (neB (by decide)) (RR.negP (neB (by decide)) (RR.negP (neB (by decide)) (RR.negP (neB (by decide)) (RR.negP (neB (by decide)) (RR.negP (neB (by decide)) (RR.posP (eqS_yes _) (RR.posD (by decide +kernel) (RR.name.bind fun s => RR.posD (by decide +kernel) (RR.name.bind fun t => RR.done _)))))))))))))))))
  rw [if_neg e] at h; clear e
  by_cases e : eqS w b_unmember = true
  · rw [eqS_iffD] at e; subst e; clear h
    have k : kindB b_unmember = 13 := by decide +kernel
    unfold restD; rw [k]
    exact RR.negP (neB (by decide)) (RR.negP (neB (by decide)) (RR.negP (neB (by decide)) (RR.negP (neB (by decide)) (RR.negP (neB (by decide)) (RR.negP (neB (by decide)) (RR.negP (neB (by decide)) (RR.negP (neB (by decide)) (RR.negP (neB (by decide)) (RR.negP (neB (by decide)) (RR.negP (neB (by decide)) (RR.negP (neB (by decide)) (RR.negP (neB (by decide)) (RR.negP (neB (by decide)) (RR.negP (neB (by decide)) (RR.posP (eqS_yes _) (RR.posD (by decide +kernel) (RR.name.bind fun s => RR.posD (by decide +kernel) (RR.name.bind fun t => RR.done _))))))))))))))))))
  rw [if_neg e] at h; clear e
  by_cases e : eqS w b_grant = true
  · rw [eqS_iffD] at e; subst e; clear h
    have k : kindB b_grant = 14 := by decide +kernel
    have e : restD b_grant a = fun W b => bindD (nameD W b) fun s W b => bindD (nameD W b) fun t W b => tailD b_grant 14 { zCmd with kind := 14, actor := a, schema := s, table := t } W b := by funext W b; unfold restD; rw [k]; rfl
    rw [e]
    exact RR.negP (neB (by decide)) (RR.negP (neB (by decide)) (RR.negP (neB (by decide)) (RR.negP (neB (by decide)) (RR.negP (neB (by decide)) (RR.negP (neB (by decide)) (RR.negP (neB (by decide)) (RR.negP (neB (by decide)) (RR.negP (neB (by decide)) (RR.negP (neB (by decide)) (RR.negP (neB (by decide)) (RR.negP (neB (by decide)) (RR.negP (neB (by decide)) (RR.negP (neB (by decide)) (RR.negP (neB (by decide)) (RR.negP (neB (by decide)) (RR.posP (eqS_yes _) (RR.table _ fun s t => RR.negD (by decide +kernel) (RR.negD (by decide +kernel) (RR.negD (by decide +kernel) (RR.negD (by decide +kernel) (RR.negD (by decide +kernel) (RR.posD (by decide +kernel) (RR.grant _)))))))))))))))))))))))
  rw [if_neg e] at h; clear e
  by_cases e : eqS w b_revoke = true
  · rw [eqS_iffD] at e; subst e; clear h
    have k : kindB b_revoke = 15 := by decide +kernel
    have e : restD b_revoke a = fun W b => bindD (nameD W b) fun s W b => bindD (nameD W b) fun t W b => tailD b_revoke 15 { zCmd with kind := 15, actor := a, schema := s, table := t } W b := by funext W b; unfold restD; rw [k]; rfl
    rw [e]
    exact RR.negP (neB (by decide)) (RR.negP (neB (by decide)) (RR.negP (neB (by decide)) (RR.negP (neB (by decide)) (RR.negP (neB (by decide)) (RR.negP (neB (by decide)) (RR.negP (neB (by decide)) (RR.negP (neB (by decide)) (RR.negP (neB (by decide)) (RR.negP (neB (by decide)) (RR.negP (neB (by decide)) (RR.negP (neB (by decide)) (RR.negP (neB (by decide)) (RR.negP (neB (by decide)) (RR.negP (neB (by decide)) (RR.negP (neB (by decide)) (RR.negP (neB (by decide)) (RR.posP (eqS_yes _) (RR.table _ fun s t => RR.negD (by decide +kernel) (RR.negD (by decide +kernel) (RR.negD (by decide +kernel) (RR.negD (by decide +kernel) (RR.negD (by decide +kernel) (RR.posD (by decide +kernel) (RR.revoke _))))))))))))))))))))))))
  rw [if_neg e] at h; clear e
  exact absurd rfl h
theorem RR.cmd : RR cmdD cmdP := by
  refine ⟨fun W => ?_, fun W => ?_⟩
  · cases W with
    | nil =>
      rw [cmdD_rest]
      exact Stay.bind RR.name.stay (fun x => rest_none zBy x (by decide +kernel)) []
    | cons f W =>
      rw [cmdD_rest]
      by_cases hk : kindB f = 0
      · have e1 : cmdP (f :: W) = none := by
          unfold cmdP wordP oneP
          simp only [Option.map_some, Option.bind_some]
          cases nameP W with
          | none => rfl
          | some y => exact body_none f _ _ hk
        rw [e1]
        show (bindD (f, W, !(kindB f != 0)) _).2.2 = true
        rw [hk]
        exact Stay.bind RR.name.stay (fun x => rest_none f x hk) W
      · have e2 : oneD (fun s => (s, kindB s != 0)) (f :: W) false = (f, W, false) := by
          show (f, W, !(kindB f != 0)) = _
          rw [bne_iff_ne.2 hk]; rfl
        rw [e2]
        have H : RR (fun W b => bindD (nameD W b) fun a W b => restD f a W b) (fun W => (nameP W).bind fun (a, W) => bodyP f { zCmd with actor := a } W) := RR.name.bind fun a => RR.rest f a hk
        exact H.same W
  · rw [cmdD_rest]
    show (bindD (oneD _ W true) _).2.2 = true
    have e3 : oneD (fun s => (s, kindB s != 0)) W true = (zBy, W, true) := by cases W <;> rfl
    rw [e3]
    exact Stay.bind RR.name.stay (fun x => rest_none zBy x (by decide +kernel)) W
theorem RR.act : RR actD actP := by
  refine RR.word.bind fun f => ?_
  refine RR.ite (RR.num.bind fun n => RR.done _) (RR.ite (RR.done _) (RR.ite (RR.num.bind fun n => RR.done _) (RR.ite (RR.num.bind fun n => RR.done _) (RR.ite (RR.num.bind fun n => RR.done _) (RR.ite (RR.num.bind fun n => RR.done _) ?_)))))
  refine RR.ite ((RR.three 6).bind fun a => RR.cmd.bind fun x => RR.done _) (RR.ite (RR.three 7) (RR.ite (RR.chg 1) (RR.ite (RR.chg 2) (RR.ite (RR.chg 3) ?_))))
  exact RR.ite (RR.num.bind fun n => RR.num.bind fun m => RR.done _) (RR.ite (RR.num.bind fun n => RR.row.bind fun x => RR.done _) (RR.ite (RR.num.bind fun n => RR.num.bind fun m => RR.done _) (RR.fail _)))
theorem parse_same (s : ByteArray) : parseD s = parseB s := by
  unfold parseD parseB
  split
  · have h := RR.act.same (wordsB s)
    unfold parseW
    cases hq : actP (wordsB s) with
    | none =>
      rw [hq] at h
      have h' : (actD (wordsB s) false).2.2 = true := h
      rw [h']; rfl
    | some y =>
      obtain ⟨x, W⟩ := y
      rw [hq] at h
      have h' : actD (wordsB s) false = (x, W, false) := h
      rw [h']
      cases W <;> rfl
  · rfl
end Go.Proofs.YtbdanlipghhgpaaGreatDoor

namespace Go.Proofs.YtbdanlipghhgpaaGreatDoor
open Go.RowKit Go.Deep
set_option maxRecDepth 100000
set_option linter.unusedVariables false
theorem dw_nil {α : Type} (p : α → Bool) : ∀ l : List α, l.dropWhile p = [] ↔ ∀ x ∈ l, p x = true
  | [] => by simp
  | a :: l => by
    rw [List.dropWhile_cons]
    cases h : p a with
    | true => simp [dw_nil p l, h]
    | false => simp [h]
theorem trim_digits (l : Bts) : (Lib.trimS l [48, 49, 50, 51, 52, 53, 54, 55, 56, 57] = []) ↔ l.all isDig = true := by
  have e : ∀ b : UInt8, [48, 49, 50, 51, 52, 53, 54, 55, 56, 57].contains b = isDig b := by
    intro b
    have := all256 (p := fun b => [48, 49, 50, 51, 52, 53, 54, 55, 56, 57].contains b == isDig b) (by decide +kernel) b
    simpa using this
  have e' : (fun b : UInt8 => [48, 49, 50, 51, 52, 53, 54, 55, 56, 57].contains b) = isDig := funext e
  unfold Lib.trimS Lib.trimLeftS Lib.trimRightS
  rw [e', dw_nil]
  constructor
  · intro h
    have h2 : l.reverse.dropWhile isDig = [] := by
      cases hq : l.reverse.dropWhile isDig with
      | nil => rfl
      | cons x r =>
        have h3 := List.head_dropWhile_not isDig (l := l.reverse) (by rw [hq]; simp)
        have h4 := h x (by rw [hq]; simp)
        simp only [hq, List.head_cons] at h3
        rw [h3] at h4; cases h4
    rw [dw_nil] at h2
    rw [List.all_eq_true]
    exact fun x hx => h2 x (by simpa using hx)
  · intro h x hx
    rw [List.all_eq_true] at h
    refine h x ?_
    have := (List.dropWhile_sublist isDig (l := l.reverse)).subset (by simpa using hx)
    simpa using this
theorem aft_bytes (w : World) (e : TypeId) (s : ByteArray) : Aft w (Lib.bytesWorld w e s) := ⟨rfl, rfl, rfl, by rw [Lib.bytesWorld_size]; omega, fun j hj => Lib.bytesWorld_at_old w e s j hj⟩
theorem ba_nil (s : ByteArray) : s.toList = [] ↔ s.data.toList = [] := by rw [ByteArray.toList_eq]
def dgs (s : ByteArray) : ByteArray := wd (minusless s.data.toList)
theorem num_long {s : ByteArray} (h : 10 < (dgs s).size) : numB s = none := by
  have : formN s.data.toList = false := by
    unfold formN
    rw [show decide ((minusless s.data.toList).length ≤ 10) = false from decide_eq_false (by rw [← wd_size]; exact Nat.not_le.2 h)]
    simp
  unfold numB numL; rw [this]; rfl
theorem num_empty {s : ByteArray} (h : (dgs s).size = 0) : numB s = none := by
  have : formN s.data.toList = false := by
    unfold formN
    have : minusless s.data.toList = [] := List.eq_nil_of_length_eq_zero (by rw [← wd_size]; exact h)
    rw [this]; rfl
  unfold numB numL; rw [this]; rfl
theorem num_alien {s : ByteArray} (h : (minusless s.data.toList).all isDig = false) : numB s = none := by
  have : formN s.data.toList = false := by unfold formN; rw [h]; simp
  unfold numB numL; rw [this]; rfl
theorem dgs_head {s : ByteArray} (h : 0 < (dgs s).size) : (minusless s.data.toList).head? = some (dgs s)[0] := by
  have h1 : (minusless s.data.toList) = (dgs s).data.toList := (wd_data _).symm
  rw [h1, ← head_get _ h]
  cases hq : (dgs s).data.toList with
  | nil => rw [Lib.size_eq, hq] at h; simp at h
  | cons a l => rfl
theorem num_zero {s : ByteArray} (h : 0 < (dgs s).size) (h0 : (dgs s)[0] = 48) (hn : eqS s ⟨#[48]⟩ = false) : numB s = none := by
  have : formN s.data.toList = false := by
    unfold formN
    rw [dgs_head h, h0]
    have h2 : s.data.toList ≠ [48] := by
      intro e
      have : s = ⟨#[48]⟩ := ba_ext e
      subst this
      rw [eqS_yes] at hn; cases hn
    rw [show (s.data.toList != [48]) = true from bne_iff_ne.2 h2]
    simp
  unfold numB numL; rw [this]; rfl
theorem num_form {s : ByteArray} (h1 : 0 < (dgs s).size) (h2 : (dgs s).size ≤ 10) (h3 : (minusless s.data.toList).all isDig = true) (h4 : (dgs s)[0] ≠ 48 ∨ eqS s ⟨#[48]⟩ = true) : formN s.data.toList = true := by
  unfold formN
  rw [dgs_head h1, h3]
  have h5 : (minusless s.data.toList).isEmpty = false := by
    cases hq : minusless s.data.toList with
    | nil => rw [show (dgs s).size = (minusless s.data.toList).length from wd_size _, hq] at h1; simp at h1
    | cons _ _ => rfl
  rw [h5, show decide ((minusless s.data.toList).length ≤ 10) = true from decide_eq_true (by rw [← wd_size]; exact h2)]
  rcases h4 with h4 | h4
  · rw [show (some (dgs s)[0] == some 48) = false by simpa using h4]; rfl
  · rw [eqS_iffD] at h4
    subst h4; rfl
theorem num_atoi {s : ByteArray} (h : formN s.data.toList = true) : ∃ n, Lib.atoi s.data.toList = some n ∧ s.size ≤ 11 ∧ numB s = if inN n then some n else none := by
  have hf := h
  unfold formN at h
  simp only [Bool.and_eq_true, decide_eq_true_eq, Bool.not_eq_true'] at h
  obtain ⟨⟨⟨h1, h2⟩, h3⟩, h4⟩ := h
  have hsz : s.size = s.data.toList.length := Lib.size_eq s
  have key : ∃ n, Lib.atoi s.data.toList = some n ∧ s.data.toList.length ≤ 11 := by
    generalize s.data.toList = l at *
    cases l with
    | nil => simp [minusless, Lib.trimPrefix, Lib.hasPrefix] at h1
    | cons c r =>
      by_cases hc : c = 45
      · subst hc
        rw [minus_yes] at h1 h2 h3
        cases r with
        | nil => simp at h1
        | cons b r =>
          exact ⟨_, by simp only [Lib.atoi, Lib.decNat, List.isEmpty_cons, Bool.false_eq_true, if_false, beq_self_eq_true, if_true, dec_all _ _ h3, Option.map_some]; rfl, by simp at h2 ⊢; omega⟩
      · rw [minus_no c r hc] at h1 h2 h3
        have hc2 : c ≠ 43 := by intro e; subst e; simp [isDig] at h3
        have e1 : (c == 45) = false := by rw [beq_eq_false_iff_ne]; exact hc
        have e2 : (c == 43) = false := by rw [beq_eq_false_iff_ne]; exact hc2
        exact ⟨_, by simp only [Lib.atoi, e1, e2, Bool.false_eq_true, if_false, Lib.decNat, List.isEmpty_cons, dec_all _ _ h3, Option.map_some]; rfl, by simp at h2 ⊢; omega⟩
  obtain ⟨n, hn, hl⟩ := key
  refine ⟨n, hn, by omega, ?_⟩
  unfold numB numL
  rw [hf, if_pos rfl, hn]; rfl
def ToN (s : ByteArray) (w : World) (e : Ending) (w' : World) : Prop := Aft w w' ∧ ∃ n, e = .returned (.tuple #[.int .i64 n, .bool (numB s).isSome]) ∧ ∀ m, numB s = some m → n = m
theorem toN_none {s : ByteArray} {w w' : World} (n : Int) (h : numB s = none) (a : Aft w w') : ToN s w (.returned (.tuple #[.int .i64 n, .bool false])) w' := ⟨a, n, by rw [h]; rfl, fun m hm => by rw [h] at hm; cases hm⟩
set_option maxHeartbeats 1000000 in
theorem toNumber_any (s : ByteArray) (w : World) (hs : Small s.size) : Calls Tryz.prog 47 #[.string s] w (ToN s w) := by
  have KP := Lib.hid (show ∀ w : World, Calls Tryz.prog 78 #[.string s, .string ⟨#[45]⟩] w fun e w' => e = .returned (.string (dgs s)) ∧ w' = w from fun w => Tryz.strings_TrimPrefix s ⟨#[45]⟩ w)
  obtain ⟨d, hd⟩ : ∃ d, dgs s = d := ⟨_, rfl⟩
  have hdz : d.size ≤ maxLen := by
    have h1 : (minusless s.data.toList).length ≤ s.data.toList.length := by
      unfold minusless Lib.trimPrefix
      split
      · simp
      · exact Nat.le_refl _
    rw [← hd, show (dgs s).size = _ from wd_size _]
    have := Lib.size_eq s
    have := hs.max
    omega
  rw [hd] at KP
  have hdd : minusless s.data.toList = d.data.toList := by rw [← hd]; exact (wd_data _).symm
  have KT := Lib.hid (show ∀ w : World, Calls Tryz.prog 79 #[.string d, .string ⟨#[48, 49, 50, 51, 52, 53, 54, 55, 56, 57]⟩] w fun e w' => e = .returned (.string ⟨(Lib.trimS d.data.toList [48, 49, 50, 51, 52, 53, 54, 55, 56, 57]).toArray⟩) ∧ Aft w w' from
    fun w => (Tryz.strings_Trim d ⟨#[48, 49, 50, 51, 52, 53, 54, 55, 56, 57]⟩ w (by unfold maxLen at hdz; omega) (by decide) (ascii_of_all (by decide))))
  obtain ⟨q, hq⟩ : ∃ q : ByteArray, (⟨(Lib.trimS d.data.toList [48, 49, 50, 51, 52, 53, 54, 55, 56, 57]).toArray⟩ : ByteArray) = q := ⟨_, rfl⟩
  rw [hq] at KT
  have hqe : q.toList = [] ↔ (minusless s.data.toList).all isDig = true := by
    rw [ba_nil, hdd, ← trim_digits, ← hq]
  unfold maxLen at hdz
  have HD := Lib.hid hd
  by_cases h0 : d.size = 0
  · have H0 := Lib.hid (num_empty (s := s) (by rw [hd]; exact h0))
    have e1 : d.toList = [] := by rw [toList_nil_iff]; exact h0
    have e2 : d.toList.isEmpty = true := by rw [e1]; rfl
    clear hdd hqe hq hd KT h0
    go_enter Tryz.func47, Tryz.ntmps47
    go_wp2_with (first | (go_at_call 78; refine (KP.out _).mono ?_; rintro e w' ⟨rfl, rfl⟩))
    go_ret2
    exact toN_none 0 H0.out (Aft.refl _)
  · have hz : 0 < d.size := by omega
    have e1 : ¬ d.toList = [] := by rw [toList_nil_iff]; exact h0
    have e2 : d.toList.isEmpty = false := by
      cases hx : d.toList with
      | nil => exact absurd hx e1
      | cons _ _ => rfl
    by_cases h1 : 10 < d.size
    · have H0 := Lib.hid (num_long (s := s) (by rw [hd]; exact h1))
      clear hdd hqe hq hd KT h0
      go_enter Tryz.func47, Tryz.ntmps47
      go_wp2_with (first | (go_at_call 78; refine (KP.out _).mono ?_; rintro e w' ⟨rfl, rfl⟩))
      go_ret2
      exact toN_none 0 H0.out (Aft.refl _)
    · have h1' : ¬ (10 : Int) < (d.size : Int) := by omega
      have h1d : decide ((10 : Int) < (d.size : Int)) = false := decide_eq_false h1'
      cases hall : (minusless s.data.toList).all isDig
      · have H0 := Lib.hid (num_alien hall)
        have q1 : ¬ q.toList = [] := by rw [hqe, hall]; decide
        have q2 : q.toList.isEmpty = false := by
          cases hx : q.toList with
          | nil => exact absurd hx q1
          | cons _ _ => rfl
        clear hdd hqe hq hd h0 hall
        go_enter Tryz.func47, Tryz.ntmps47
        go_wp2_with (first | (go_at_call 78; refine (KP.out _).mono ?_; rintro e w' ⟨rfl, rfl⟩) | (go_at_call 79; refine (KT.out _).mono ?_; rintro e w1 ⟨rfl, a1⟩; have A1 := Lib.hid a1; clear a1))
        go_ret2
        exact toN_none 0 H0.out A1.out
      · have q1 : q.toList = [] := by rw [hqe, hall]
        have q2 : q.toList.isEmpty = true := by rw [q1]; rfl
        have hdl : 0 < (dgs s).size := by rw [hd]; exact hz
        by_cases h4 : d[0] = 48 ∧ eqS s ⟨#[48]⟩ = false
        · obtain ⟨h4, h5⟩ := h4
          have H0 := Lib.hid (num_zero (s := s) hdl (by subst hd; exact h4) h5)
          have h4' : (d[0].toNat : Int) = 48 := by rw [h4]; rfl
          have h5' : (s.toList == [48]) = false := by
            have e : (⟨#[48]⟩ : ByteArray).toList = [48] := by rw [ByteArray.toList_eq]
            unfold eqS at h5; rwa [e] at h5
          have h6 : ¬ s.toList = [48] := by simpa using h5'
          clear h5
          clear hdd hqe hq hd h0 hall hdl h4
          go_enter Tryz.func47, Tryz.ntmps47
          go_wp2_with (first | (go_at_call 78; refine (KP.out _).mono ?_; rintro e w' ⟨rfl, rfl⟩) | (go_at_call 79; refine (KT.out _).mono ?_; rintro e w1 ⟨rfl, a1⟩; have A1 := Lib.hid a1; clear a1))
          go_ret2
          exact toN_none 0 H0.out A1.out
        · have h7 : d[0] ≠ 48 ∨ eqS s ⟨#[48]⟩ = true := by
            by_cases hx : d[0] = 48
            · right
              cases hy : eqS s ⟨#[48]⟩ with
              | true => rfl
              | false => exact absurd ⟨hx, hy⟩ h4
            · exact .inl hx
          obtain ⟨n, hn, hsz, hr⟩ := num_atoi (num_form (s := s) hdl (by rw [hd]; omega) hall (by subst hd; exact h7))
          have KA := Lib.hid (show ∀ w : World, Calls Tryz.prog 80 #[.string s] w fun e w' => e = .returned (.tuple #[.int .i64 n, .nilIface]) ∧ Aft w w' from
            fun w => (Tryz.strconv_Atoi s n (by omega) hn w).mono fun e w' ⟨he, t, ht⟩ => ⟨he, by subst ht; exact aft_bytes w _ t⟩)
          have e48 : (⟨#[48]⟩ : ByteArray).toList = [48] := by rw [ByteArray.toList_eq]
          have HR := Lib.hid hr
          clear hr hn hsz hdd hqe hq hd h0 hall hdl h4
          have fin : ∀ w2, Aft w w2 → ToN s w (.returned (.tuple #[.int .i64 n, .bool (inN n)])) w2 := by
            intro w2 a2
            refine ⟨a2, n, ?_, ?_⟩
            · rw [HR.out]; cases inN n <;> rfl
            · intro m hm
              rw [HR.out] at hm
              split at hm
              · simpa using hm
              · cases hm
          have FIN := Lib.hid fin
          clear fin
          unfold inN at FIN
          rcases h7 with h7 | h7
          · have h8 : ¬ (d[0].toNat : Int) = 48 := by
              intro e; apply h7; rw [← UInt8.toNat_inj]; exact Int.ofNat.inj e
            have h8' : ((d[0].toNat : Int) == 48) = false := by rw [beq_eq_false_iff_ne]; exact h8
            clear h7
            by_cases g1 : -1000000000 ≤ n
            all_goals
              go_enter Tryz.func47, Tryz.ntmps47
              go_wp2_with (first | (go_at_call 78; refine (KP.out _).mono ?_; rintro e w' ⟨rfl, rfl⟩) | (go_at_call 79; refine (KT.out _).mono ?_; rintro e w1 ⟨rfl, a1⟩; have A1 := Lib.hid a1; clear a1) | (go_at_call 80; refine (KA.out _).mono ?_; rintro e w2 ⟨rfl, a2⟩; have A2 := Lib.hid (A1.out.trans a2); clear a2))
            · go_ret2
              have := FIN.out w2 A2.out
              rw [decide_eq_true g1, Bool.true_and] at this
              exact this
            · go_ret2
              have := FIN.out w2 A2.out
              rw [decide_eq_false (show ¬ (-1000000000 : Int) ≤ n by omega), Bool.false_and] at this
              exact this
          · have h7' : s = ⟨#[48]⟩ := (eqS_iffD _ _).1 h7
            have h9 : (s.toList == [48]) = true := by rw [h7', e48]; rfl
            have h10 : s.toList = [48] := by simpa using h9
            clear h7' h7
            by_cases h8 : (d[0].toNat : Int) = 48
            all_goals
              by_cases g1 : -1000000000 ≤ n
              all_goals
                go_enter Tryz.func47, Tryz.ntmps47
                go_wp2_with (first | (go_at_call 78; refine (KP.out _).mono ?_; rintro e w' ⟨rfl, rfl⟩) | (go_at_call 79; refine (KT.out _).mono ?_; rintro e w1 ⟨rfl, a1⟩; have A1 := Lib.hid a1; clear a1) | (go_at_call 80; refine (KA.out _).mono ?_; rintro e w2 ⟨rfl, a2⟩; have A2 := Lib.hid (A1.out.trans a2); clear a2))
                go_ret2
                have := FIN.out w2 A2.out
                first | rw [decide_eq_true g1, Bool.true_and] at this | rw [decide_eq_false (show ¬ (-1000000000 : Int) ≤ n by omega), Bool.false_and] at this
                exact this
theorem dplain_any (s : ByteArray) (w : World) (hs : Small s.size) : Calls Tryz.prog 86 #[.string s] w fun e w' => e = .returned (.bool (txtB s)) ∧ w = w' := by
  have hs' := hs.max
  unfold maxLen at hs'
  go_enter Tryz.func86, Tryz.ntmps86
  go_wp2_with fail
  go_loop [6] (fun i => ∃ k : Nat, k ≤ s.size ∧ i = .int .i64 k ∧ (s.data.toList.take k).all isPl = true) (fun i => s.size - (intOf i).toNat)
  case atStart => exact ⟨0, Nat.zero_le _, rfl, rfl⟩
  case round =>
    obtain ⟨k, hk, rfl, ha⟩ := hrel
    have HA := Lib.hid ha; clear ha
    by_cases hlt : k < s.size
    · go_wp2_with (go_at_call 114; refine (indexPl _ _).mono ?_; rintro e w' ⟨rfl, rfl⟩)
      · have hp : isPl s[k] = false := (plIdx_iff _).1 (by assumption)
        go_ret
        exact ⟨by unfold txtB; rw [pl_false s k hlt hp]; rfl, rfl⟩
      · have hp : isPl s[k] = true := by
          have h0 : 0 ≤ plIdx s[k] := by assumption
          have := plIdx_iff s[k]
          cases h : isPl s[k]
          · have := this.2 h; omega
          · rfl
        go_round
        case rel => exact ⟨k + 1, by omega, by go_num, by rw [pl_succ s k hlt, HA.out, hp]; rfl⟩
        case measure => simp [intOf]; omega
    · go_wp2_with fail
      go_ret
      refine ⟨?_, rfl⟩
      refine Eq.trans (b := .returned (.bool _)) rfl (ret_of (bool_of ?_))
      unfold txtB
      rw [pl_true s k hlt HA.out, Bool.true_and]
      by_cases h32 : s.size ≤ 32
      · rw [decide_eq_true h32]; exact decide_eq_true (by omega)
      · rw [decide_eq_false h32]; exact decide_eq_false (by omega)
theorem number_rd (b p : Nat) (W : Ws) (w : World) (h : WdS w b p W) : Calls Tryz.prog 28 #[.pointer (some ⟨b, 0, none⟩)] w (RdQ b p w (fun _ v x => v = .int .i64 x) (numP W)) := by
  cases W with
  | nil =>
    have HM := Lib.hid (word_no b p w h)
    clear h
    go_enter Tryz.func28, Tryz.ntmps28
    go_wp2_with (first | (go_at_call 27; refine HM.out.mono ?_; rintro e w' ⟨he, rfl⟩; unfold NoL at he; subst he))
    exact ⟨rfl, Kw.refl _ _, rfl⟩
  | cons s W =>
    have HM := Lib.hid (word_yes b p s W w h)
    have hs := h.small
    obtain ⟨q, hq⟩ : ∃ q, numB s = q := ⟨_, rfl⟩
    have HN := Lib.hid (show ∀ w1 : World, Calls Tryz.prog 47 #[.string s] w1 fun e w' => Aft w1 w' ∧ ∃ n, e = .returned (.tuple #[.int .i64 n, .bool q.isSome]) ∧ ∀ m, q = some m → n = m from fun w1 => by rw [← hq]; exact toNumber_any s w1 hs)
    have HQ := Lib.hid hq
    clear h hq hs
    cases q with
    | none =>
      go_enter Tryz.func28, Tryz.ntmps28
      go_wp2_with (first | (go_at_call 27; refine HM.out.mono ?_; rintro e w1 ⟨rfl, d1, k1⟩; have D1 := Lib.hid d1; have K1 := Lib.hid k1; clear d1 k1) | (go_at_call 47; refine (HN.out _).mono ?_; rintro e w2 ⟨a2, n, rfl, hn⟩; have A2 := Lib.hid a2; clear a2 hn) | (go_at_call 18; refine (dis_no _).mono ?_; rintro e w' ⟨he, rfl⟩; unfold NoL at he; subst he))
      refine ⟨rfl, K1.out.aft A2.out, ?_⟩
      have : numP (s :: W) = none := by simp [numP, oneP, HQ.out]
      rw [this]; rfl
    | some n =>
      go_enter Tryz.func28, Tryz.ntmps28
      go_wp2_with (first | (go_at_call 27; refine HM.out.mono ?_; rintro e w1 ⟨rfl, d1, k1⟩; have D1 := Lib.hid d1; have K1 := Lib.hid k1; clear d1 k1) | (go_at_call 47; refine (HN.out _).mono ?_; rintro e w2 ⟨a2, n', rfl, hn⟩; have A2 := Lib.hid a2; clear a2; obtain rfl := hn n rfl; clear hn) | (go_at_call 18; refine (dis_ok _).mono ?_; rintro e w' ⟨rfl, rfl⟩))
      go_ret
      have : numP (s :: W) = some (n', W) := by simp [numP, oneP, HQ.out]
      unfold RdQ
      rw [this]
      exact ⟨K1.out.aft A2.out, _, rfl, rfl, D1.out.aft A2.out⟩
def ColV (_ : World) (v : Value) (c : Col) : Prop := v = .agg #[.string c.name, .int .i64 c.kind, .bool c.null] ∧ Small c.name.size
def ValV (_ : World) (v : Value) (x : Val) : Prop := v = .agg #[.int .i64 x.kind, .int .i64 x.int, .string x.text] ∧ Small x.text.size
theorem trimSuf_le (l x : Bts) : (Lib.trimSuffix l x).length ≤ l.length := by
  unfold Lib.trimSuffix
  split
  · rw [List.length_take]; omega
  · exact Nat.le_refl _
theorem trimPre_le (l x : Bts) : (Lib.trimPrefix l x).length ≤ l.length := by
  unfold Lib.trimPrefix
  split
  · rw [List.length_drop]; omega
  · exact Nat.le_refl _
theorem nulless_le (s : ByteArray) : (nulless s).size ≤ s.size := by
  unfold nulless; rw [wd_size, Lib.size_eq]; exact trimSuf_le _ _
theorem quoless_le (s : ByteArray) : (quoless s).size ≤ s.size := by
  unfold quoless; rw [wd_size, Lib.size_eq]; exact trimPre_le _ _
theorem cutN_le (s : ByteArray) : (cutN s).size ≤ s.size := by
  unfold cutN; rw [wd_size, Lib.size_eq]; unfold Lib.cut
  split
  · simp only; rw [List.length_take]; omega
  · exact Nat.le_refl _
end Go.Proofs.YtbdanlipghhgpaaGreatDoor

namespace Go.Proofs.YtbdanlipghhgpaaGreatDoor
open Go.RowKit Go.Deep
set_option maxRecDepth 100000
set_option linter.unusedVariables false
theorem eqS_as {a b : ByteArray} {q : Bool} (h : eqS a b = q) : (a.toList == b.data.toList) = q := by rw [← ByteArray.toList_eq]; exact h
def Kn (n : Nat) (w w' : World) : Prop := Kb (fun k => n ≤ k) w w'
theorem Kn.refl (n : Nat) (w : World) : Kn n w w := Kb.refl _ w
theorem Kn.aft {n : Nat} {w w1 w2 : World} (h : Kn n w w1) (a : Aft w1 w2) : Kn n w w2 := Kb.trans h (Kb.of_aft a)
theorem Kn.alloc {n : Nat} {w w1 : World} (h : Kn n w w1) (o : Obj) : Kn n w (w1.alloc o) := h.aft ((Aft.refl _).alloc o)
theorem Kn.set {n : Nat} {w w1 : World} (h : Kn n w w1) (g j : Nat) (v : Value) (hg : n ≤ g) : Kn n w (w1.setCell ⟨g, j, none⟩ v) :=
  ⟨h.os, h.tape, h.output, by simpa using h.size, fun k hk hn => by
    have hne : ¬ k = g := by have hn' : ¬ n ≤ k := hn; omega
    rw [Below.heap_setCell _ _ _ _ hne]
    exact h.block k hk hn⟩
theorem Kw.kn {b n : Nat} {w w1 w2 : World} (h : Kw b w w1) (k : Kn n w1 w2) (hn : w.heap.size ≤ n) : Kw b w w2 :=
  ⟨k.os.trans h.os, k.tape.trans h.tape, k.output.trans h.output, Nat.le_trans h.size k.size, fun j hj hne => (k.block j (Nat.lt_of_lt_of_le hj h.size) (by omega)).trans (h.block j hj hne)⟩
theorem WdS.kn {b p n : Nat} {w1 w2 : World} {W : Ws} (h : WdS w1 b p W) (k : Kn n w1 w2) (hb : b < n) (hp : p < n) : WdS w2 b p W := h.kb k (by omega) (by omega) (by omega)
theorem WdS.plt {w : World} {b p : Nat} {W : Ws} (h : WdS w b p W) : p < w.heap.size := by obtain ⟨o, c, _, h2⟩ := h.ex; exact h2.2.1
theorem lvCol_at {V : World} {r : Nat} {v0 v1 v2 : Value} (h0 : V.cell? ⟨r, 0, none⟩ = some v0) (h1 : V.cell? ⟨r, 1, none⟩ = some v1) (h2 : V.cell? ⟨r, 2, none⟩ = some v2) :
    (loadVar 67 ⟨r, 0, none⟩).run Tryz.prog V = .ok (.agg #[v0, v1, v2]) V := by
  have h := run_lvCol V r 0 (by rw [h0]; rfl) (by rw [Nat.zero_add, h1]; rfl) (by rw [Nat.zero_add, h2]; rfl)
  simp only [Nat.zero_add, h0, h1, h2, Option.getD_some] at h
  exact h
theorem lvVal_at {V : World} {r : Nat} {v0 v1 v2 : Value} (h0 : V.cell? ⟨r, 0, none⟩ = some v0) (h1 : V.cell? ⟨r, 1, none⟩ = some v1) (h2 : V.cell? ⟨r, 2, none⟩ = some v2) :
    (loadVar 39 ⟨r, 0, none⟩).run Tryz.prog V = .ok (.agg #[v0, v1, v2]) V := by
  have h := run_lvVal V r 0 (by rw [h0]; rfl) (by rw [Nat.zero_add, h1]; rfl) (by rw [Nat.zero_add, h2]; rfl)
  simp only [Nat.zero_add, h0, h1, h2, Option.getD_some] at h
  exact h
theorem set3 (w2 : World) (r : Nat) (v0 v1 v2 : Value) (h0 : (w2.cell? ⟨r, 0, none⟩).isSome = true) (h1 : (w2.cell? ⟨r, 1, none⟩).isSome = true) (h2 : (w2.cell? ⟨r, 2, none⟩).isSome = true) :
    (((w2.setCell ⟨r, 0, none⟩ v0).setCell ⟨r, 1, none⟩ v1).setCell ⟨r, 2, none⟩ v2).cell? ⟨r, 0, none⟩ = some v0 ∧ (((w2.setCell ⟨r, 0, none⟩ v0).setCell ⟨r, 1, none⟩ v1).setCell ⟨r, 2, none⟩ v2).cell? ⟨r, 1, none⟩ = some v1 ∧
    (((w2.setCell ⟨r, 0, none⟩ v0).setCell ⟨r, 1, none⟩ v1).setCell ⟨r, 2, none⟩ v2).cell? ⟨r, 2, none⟩ = some v2 := by
  refine ⟨?_, ?_, ?_⟩ <;> go_simp
theorem lvCol_set (w2 : World) (r : Nat) (v0 v1 v2 : Value) (o : Obj) (hr : r < w2.heap.size) (h0 : (w2.cell? ⟨r, 0, none⟩).isSome = true) (h1 : (w2.cell? ⟨r, 1, none⟩).isSome = true) (h2 : (w2.cell? ⟨r, 2, none⟩).isSome = true) :
    (loadVar 67 ⟨r, 0, none⟩).run Tryz.prog ((((w2.setCell ⟨r, 0, none⟩ v0).setCell ⟨r, 1, none⟩ v1).setCell ⟨r, 2, none⟩ v2).alloc o) = .ok (.agg #[v0, v1, v2]) ((((w2.setCell ⟨r, 0, none⟩ v0).setCell ⟨r, 1, none⟩ v1).setCell ⟨r, 2, none⟩ v2).alloc o) := by
  obtain ⟨a, b, c⟩ := set3 w2 r v0 v1 v2 h0 h1 h2
  have hl : r < (((w2.setCell ⟨r, 0, none⟩ v0).setCell ⟨r, 1, none⟩ v1).setCell ⟨r, 2, none⟩ v2).heap.size := by simpa using hr
  exact lvCol_at ((World.cell?_alloc_past _ _ _ hl).trans a) ((World.cell?_alloc_past _ _ _ hl).trans b) ((World.cell?_alloc_past _ _ _ hl).trans c)
theorem lvVal_set (w2 : World) (r : Nat) (v0 v1 v2 : Value) (h0 : (w2.cell? ⟨r, 0, none⟩).isSome = true) (h1 : (w2.cell? ⟨r, 1, none⟩).isSome = true) (h2 : (w2.cell? ⟨r, 2, none⟩).isSome = true) :
    (loadVar 39 ⟨r, 0, none⟩).run Tryz.prog (((w2.setCell ⟨r, 0, none⟩ v0).setCell ⟨r, 1, none⟩ v1).setCell ⟨r, 2, none⟩ v2) = .ok (.agg #[v0, v1, v2]) (((w2.setCell ⟨r, 0, none⟩ v0).setCell ⟨r, 1, none⟩ v1).setCell ⟨r, 2, none⟩ v2) := by
  obtain ⟨a, b, c⟩ := set3 w2 r v0 v1 v2 h0 h1 h2
  exact lvVal_at a b c
theorem kw_box {b : Nat} {w w1 : World} {c : Array Value} {t : TypeId} (h : Kw b (w.alloc (.cells c t)) w1) (hb : b < w.heap.size) :
    (∀ o, w1.cell? ⟨w.heap.size, o, none⟩ = c[o]?) ∧ (∀ o, w1.frozen? ⟨w.heap.size, o, none⟩ = false) ∧ w.heap.size < w1.heap.size := by
  have h1 := h.block w.heap.size (by simp) (by omega)
  have hz := h.size
  have hz' : (w.alloc (.cells c t)).heap.size = w.heap.size + 1 := by simp
  rw [hz'] at hz
  refine ⟨fun o => ?_, fun o => ?_, by omega⟩
  · have h2 : (w.alloc (.cells c t)).cell? ⟨w.heap.size, o, none⟩ = c[o]? := by simp
    rw [← h2]; simp [World.cell?, h1]
  · have h2 : (w.alloc (.cells c t)).frozen? ⟨w.heap.size, o, none⟩ = false := World.frozen?_alloc_at _ _ _ _ rfl
    rw [← h2]; simp [World.frozen?, h1]
theorem small_z : Small zBy.size := by unfold Small zBy; decide
theorem colP_cons (s : ByteArray) (W : Ws) : colP (s :: W) = (colB s).map fun x => (x, W) := rfl
theorem valP_cons (s : ByteArray) (W : Ws) : valP (s :: W) = (valB s).map fun x => (x, W) := rfl
theorem column_rd (b p : Nat) (W : Ws) (w : World) (h : WdS w b p W) : Calls Tryz.prog 50 #[.pointer (some ⟨b, 0, none⟩)] w (RdQ b p w ColV (colP W)) := by
  cases W with
  | nil =>
    have HM := Lib.hid (fun w1 (h : WdS w1 b p []) => word_no b p w1 h)
    have HH := Lib.hid (h.aft ((Aft.refl w).alloc (.cells #[.string ⟨#[]⟩, .int .i64 0, .bool false] 67)))
    clear h
    go_enter Tryz.func50, Tryz.ntmps50
    go_wp2_with (first | (go_at_call 27; refine (HM.out _ HH.out).mono ?_; rintro e w' ⟨he, rfl⟩; unfold NoL at he; subst he))
    exact ⟨rfl, (Kw.refl _ _).alloc _, rfl⟩
  | cons s W =>
    have HM := Lib.hid (fun w1 (h : WdS w1 b p (s :: W)) => word_yes b p s W w1 h)
    have HH := Lib.hid (h.aft ((Aft.refl w).alloc (.cells #[.string ⟨#[]⟩, .int .i64 0, .bool false] 67)))
    have hs := h.small
    have hle := h.le
    have hb := h.lt
    have HPL := Lib.hid h.plt
    clear h
    obtain ⟨t, ht⟩ : ∃ t, nulless s = t := ⟨_, rfl⟩
    have KS := Lib.hid (show ∀ w1 : World, Calls Tryz.prog 82 #[.string s, .string ⟨#[63]⟩] w1 fun e w' => e = .returned (.tuple #[.string t, .bool (nulB s)]) ∧ w' = w1 from fun w1 => ht ▸ Tryz.strings_CutSuffix s ⟨#[63]⟩ w1 hs.le)
    have htz : t.size ≤ 4096 := by have := nulless_le s; rw [ht] at this; omega
    obtain ⟨n, hn⟩ : ∃ n, cutN t = n := ⟨_, rfl⟩
    obtain ⟨k, hk⟩ : ∃ k, cutK t = k := ⟨_, rfl⟩
    have KC := Lib.hid (show ∀ w1 : World, LibV w1 → Calls Tryz.prog 83 #[.string t, .string ⟨#[58]⟩] w1 fun e w' => ∃ f, e = .returned (.tuple #[.string n, .string k, .bool f]) ∧ Aft w1 w' from
      fun w1 ⟨m, hm⟩ => (Tryz.strings_Cut t ⟨#[58]⟩ m w1 (by omega) hm).mono fun e w' ⟨he, q, hq⟩ => ⟨(Lib.cut t.data.toList [58]).2.2, by rw [he, ← hn, ← hk]; rfl, by subst hq; exact (Aft.refl _).drewN q⟩)
    have hnz : n.size ≤ 4096 := by have := cutN_le t; rw [hn] at this; omega
    obtain ⟨q, hq⟩ : ∃ q, nameB n = q := ⟨_, rfl⟩
    have HN := Lib.hid (show ∀ w1 : World, Calls Tryz.prog 81 #[.string n] w1 fun e w' => e = .returned (.bool q) ∧ w1 = w' from fun w1 => hq ▸ name_any n w1 (Small.max (Nat.le_trans hnz (by decide))))
    obtain ⟨q1, hq1⟩ : ∃ q, eqS k b_int = q := ⟨_, rfl⟩
    obtain ⟨q2, hq2⟩ : ∃ q, eqS k b_text = q := ⟨_, rfl⟩
    have e1 := eqS_as hq1
    have e2 := eqS_as hq2
    have HC := Lib.hid (show colB s = if q && (q1 || q2) then some ⟨n, if q2 then 3 else 2, nulB s⟩ else none by unfold colB; rw [ht, hn, hk, hq, hq1, hq2])
    unfold b_int at e1
    unfold b_text at e2
    simp only at e1 e2
    generalize nulB s = u at *
    clear hq hq1 hq2 hn hk ht hs hle htz
    cases q <;> cases q1 <;> cases q2
    all_goals
      simp only [Bool.false_and, Bool.true_and, Bool.false_or, Bool.true_or, Bool.or_false, Bool.or_true, if_true, if_false, Bool.false_eq_true] at HC
      go_enter Tryz.func50, Tryz.ntmps50
      go_wp2_with (first | (go_at_call 27; refine (HM.out _ HH.out).mono ?_; rintro e w1 ⟨rfl, d1, k1⟩; have D1 := Lib.hid d1; have K1 := Lib.hid (((Kw.refl b w).alloc _).trans k1); have KB := Lib.hid (kw_box k1 hb); clear d1 k1) | (go_at_call 82; refine (KS.out _).mono ?_; rintro e w' ⟨rfl, rfl⟩) | (go_at_call 83; refine (KC.out _ D1.out.lib).mono ?_; rintro e w2 ⟨f, rfl, a2⟩; have A2 := Lib.hid a2; obtain ⟨cb, cf, ⟨cz, -, cz1, cz2, -, -⟩, -⟩ := box_aft KB.out.1 KB.out.2.1 KB.out.2.2 a2; have c0 := cb 0; have c1 := cb 1; have c2 := cb 2; simp at c0 c1 c2; have f0 := cf 0; have f1 := cf 1; have f2 := cf 2; clear a2 cb cf) | (go_at_call 81; refine (HN.out _).mono ?_; rintro e w' ⟨rfl, rfl⟩) | (go_at_call 18; first | (refine (dis_no _).mono ?_; rintro e w' ⟨he, rfl⟩; unfold NoL at he; subst he) | (refine (dis_ok _).mono ?_; rintro e w' ⟨rfl, rfl⟩)))
    all_goals first
      | (refine ⟨rfl, K1.out.aft A2.out, ?_⟩
         have e : colP (s :: W) = none := by simp [colP, oneP, HC.out]
         rw [e]; rfl)
      | (refine bodyPost_ret (results_cell rfl _ rfl (lvCol_set w2 w.heap.size _ _ _ _ cz (by rw [c0]; rfl) (by rw [c1]; rfl) (by rw [c2]; rfl))) rfl ?_
         refine ⟨(K1.out.aft A2.out).kn (((((Kn.refl w.heap.size w2).set w.heap.size 0 _ (Nat.le_refl _)).set w.heap.size 1 _ (Nat.le_refl _)).set w.heap.size 2 _ (Nat.le_refl _)).alloc _) (Nat.le_refl _), ?_⟩
         rw [colP_cons, HC.out]
         exact ⟨_, rfl, ⟨rfl, Nat.le_trans hnz (by decide)⟩, (D1.out.aft A2.out).kn (((((Kn.refl w.heap.size w2).set w.heap.size 0 _ (Nat.le_refl _)).set w.heap.size 1 _ (Nat.le_refl _)).set w.heap.size 2 _ (Nat.le_refl _)).alloc _) hb HPL.out⟩)
theorem value_rd (b p : Nat) (W : Ws) (w : World) (h : WdS w b p W) : Calls Tryz.prog 53 #[.pointer (some ⟨b, 0, none⟩)] w (RdQ b p w ValV (valP W)) := by
  cases W with
  | nil =>
    have HM := Lib.hid (fun w1 (h : WdS w1 b p []) => word_no b p w1 h)
    have HH := Lib.hid (h.aft ((Aft.refl w).alloc (.cells #[.int .i64 0, .int .i64 0, .string ⟨#[]⟩] 39)))
    clear h
    go_enter Tryz.func53, Tryz.ntmps53
    go_wp2_with (first | (go_at_call 27; refine (HM.out _ HH.out).mono ?_; rintro e w' ⟨he, rfl⟩; unfold NoL at he; subst he))
    exact ⟨rfl, (Kw.refl _ _).alloc _, rfl⟩
  | cons s W =>
    have HM := Lib.hid (fun w1 (h : WdS w1 b p (s :: W)) => word_yes b p s W w1 h)
    have HH := Lib.hid (h.aft ((Aft.refl w).alloc (.cells #[.int .i64 0, .int .i64 0, .string ⟨#[]⟩] 39)))
    have hs := h.small
    have hle := h.le
    have hb := h.lt
    have HPL := Lib.hid h.plt
    clear h
    obtain ⟨t, ht⟩ : ∃ t, quoless s = t := ⟨_, rfl⟩
    have KS := Lib.hid (show ∀ w1 : World, Calls Tryz.prog 85 #[.string s, .string ⟨#[39]⟩] w1 fun e w' => e = .returned (.tuple #[.string t, .bool (quoB s)]) ∧ w' = w1 from fun w1 => ht ▸ Tryz.strings_CutPrefix s ⟨#[39]⟩ w1)
    have htz : t.size ≤ 4096 := by have := quoless_le s; rw [ht] at this; omega
    obtain ⟨q, hq⟩ : ∃ q, txtB t = q := ⟨_, rfl⟩
    have HP := Lib.hid (show ∀ w1 : World, Calls Tryz.prog 86 #[.string t] w1 fun e w' => e = .returned (.bool q) ∧ w1 = w' from fun w1 => hq ▸ dplain_any t w1 (Nat.le_trans htz (by decide)))
    obtain ⟨q1, hq1⟩ : ∃ q, eqS s b_null = q := ⟨_, rfl⟩
    have e1 := eqS_as hq1
    unfold b_null at e1
    simp only at e1
    obtain ⟨q2, hq2⟩ : ∃ q, quoB s = q := ⟨_, rfl⟩
    rw [hq2] at KS
    obtain ⟨m, hm⟩ : ∃ m, numB s = m := ⟨_, rfl⟩
    have HN := Lib.hid (show ∀ w1 : World, Calls Tryz.prog 47 #[.string s] w1 fun e w' => Aft w1 w' ∧ ∃ n, e = .returned (.tuple #[.int .i64 n, .bool m.isSome]) ∧ ∀ k, m = some k → n = k from fun w1 => by rw [← hm]; exact toNumber_any s w1 hs)
    have HV := Lib.hid (show valB s = if q1 then some ⟨1, 0, zBy⟩ else if q2 then (if q then some ⟨3, 0, t⟩ else none) else m.map fun n => ⟨2, n, zBy⟩ by unfold valB; rw [ht, hq, hq1, hq2, hm])
    clear hq hq1 hq2 hm ht hs hle
    have fin3 : ∀ (w2 : World) (v0 v1 v2 : Value), Kw b w w2 → WdS w2 b p W → Kw b w (((w2.setCell ⟨w.heap.size, 0, none⟩ v0).setCell ⟨w.heap.size, 1, none⟩ v1).setCell ⟨w.heap.size, 2, none⟩ v2) ∧ WdS (((w2.setCell ⟨w.heap.size, 0, none⟩ v0).setCell ⟨w.heap.size, 1, none⟩ v1).setCell ⟨w.heap.size, 2, none⟩ v2) b p W := by
      intro w2 v0 v1 v2 k d
      have kn := (((Kn.refl w.heap.size w2).set w.heap.size 0 v0 (Nat.le_refl _)).set w.heap.size 1 v1 (Nat.le_refl _)).set w.heap.size 2 v2 (Nat.le_refl _)
      exact ⟨k.kn kn (Nat.le_refl _), d.kn kn hb HPL.out⟩
    have FIN := Lib.hid fin3
    clear fin3
    cases q1
    · cases q2
      · cases m with
        | none =>
          go_enter Tryz.func53, Tryz.ntmps53
          go_wp2_with (first | (go_at_call 27; refine (HM.out _ HH.out).mono ?_; rintro e w1 ⟨rfl, d1, k1⟩; have D1 := Lib.hid d1; have K1 := Lib.hid (((Kw.refl b w).alloc _).trans k1); clear d1 k1) | (go_at_call 85; refine (KS.out _).mono ?_; rintro e w' ⟨rfl, rfl⟩) | (go_at_call 47; refine (HN.out _).mono ?_; rintro e w2 ⟨a2, n, rfl, hn⟩; have A2 := Lib.hid a2; clear a2 hn) | (go_at_call 18; refine (dis_no _).mono ?_; rintro e w' ⟨he, rfl⟩; unfold NoL at he; subst he))
          refine ⟨rfl, K1.out.aft A2.out, ?_⟩
          rw [valP_cons, HV.out]; rfl
        | some n =>
          go_enter Tryz.func53, Tryz.ntmps53
          go_wp2_with (first | (go_at_call 27; refine (HM.out _ HH.out).mono ?_; rintro e w1 ⟨rfl, d1, k1⟩; have D1 := Lib.hid d1; have K1 := Lib.hid (((Kw.refl b w).alloc _).trans k1); have KB := Lib.hid (kw_box k1 hb); clear d1 k1) | (go_at_call 85; refine (KS.out _).mono ?_; rintro e w' ⟨rfl, rfl⟩) | (go_at_call 47; refine (HN.out _).mono ?_; rintro e w2 ⟨a2, n', rfl, hn⟩; have A2 := Lib.hid a2; obtain rfl := hn n rfl; obtain ⟨cb, cf, ⟨cz, -, cz1, cz2, -, -⟩, -⟩ := box_aft KB.out.1 KB.out.2.1 KB.out.2.2 a2; have c0 := cb 0; have c1 := cb 1; have c2 := cb 2; simp at c0 c1 c2; have f0 := cf 0; have f1 := cf 1; have f2 := cf 2; clear a2 hn cb cf) | (go_at_call 18; refine (dis_ok _).mono ?_; rintro e w' ⟨rfl, rfl⟩))
          refine bodyPost_ret (results_cell rfl _ rfl (lvVal_set w2 w.heap.size _ _ _ (by rw [c0]; rfl) (by rw [c1]; rfl) (by rw [c2]; rfl))) rfl ?_
          obtain ⟨g1, g2⟩ := FIN.out w2 (.int .i64 2) (.int .i64 n') (.string ⟨#[]⟩) (K1.out.aft A2.out) (D1.out.aft A2.out)
          refine ⟨g1, ?_⟩
          rw [valP_cons, HV.out]
          exact ⟨_, rfl, ⟨rfl, small_z⟩, g2⟩
      · cases q
        · go_enter Tryz.func53, Tryz.ntmps53
          go_wp2_with (first | (go_at_call 27; refine (HM.out _ HH.out).mono ?_; rintro e w1 ⟨rfl, d1, k1⟩; have D1 := Lib.hid d1; have K1 := Lib.hid (((Kw.refl b w).alloc _).trans k1); clear d1 k1) | (go_at_call 85; refine (KS.out _).mono ?_; rintro e w' ⟨rfl, rfl⟩) | (go_at_call 86; refine (HP.out _).mono ?_; rintro e w' ⟨rfl, rfl⟩) | (go_at_call 18; refine (dis_no _).mono ?_; rintro e w' ⟨he, rfl⟩; unfold NoL at he; subst he))
          refine ⟨rfl, K1.out, ?_⟩
          rw [valP_cons, HV.out]; rfl
        · go_enter Tryz.func53, Tryz.ntmps53
          go_wp2_with (first | (go_at_call 27; refine (HM.out _ HH.out).mono ?_; rintro e w1 ⟨rfl, d1, k1⟩; have D1 := Lib.hid d1; have K1 := Lib.hid (((Kw.refl b w).alloc _).trans k1); obtain ⟨cb, cf, cz⟩ := kw_box k1 hb; have c0 := cb 0; have c1 := cb 1; have c2 := cb 2; simp at c0 c1 c2; have f0 := cf 0; have f1 := cf 1; have f2 := cf 2; clear d1 k1 cb cf) | (go_at_call 85; refine (KS.out _).mono ?_; rintro e w' ⟨rfl, rfl⟩) | (go_at_call 86; refine (HP.out _).mono ?_; rintro e w' ⟨rfl, rfl⟩) | (go_at_call 18; refine (dis_ok _).mono ?_; rintro e w' ⟨rfl, rfl⟩))
          refine bodyPost_ret (results_cell rfl _ rfl (lvVal_set _ w.heap.size _ _ _ (by rw [c0]; rfl) (by rw [c1]; rfl) (by rw [c2]; rfl))) rfl ?_
          obtain ⟨g1, g2⟩ := FIN.out _ (.int .i64 3) (.int .i64 0) (.string t) K1.out D1.out
          refine ⟨g1, ?_⟩
          rw [valP_cons, HV.out]
          exact ⟨_, rfl, ⟨rfl, Nat.le_trans htz (by decide)⟩, g2⟩
    · go_enter Tryz.func53, Tryz.ntmps53
      go_wp2_with (first | (go_at_call 27; refine (HM.out _ HH.out).mono ?_; rintro e w1 ⟨rfl, d1, k1⟩; have D1 := Lib.hid d1; have K1 := Lib.hid (((Kw.refl b w).alloc _).trans k1); obtain ⟨cb, cf, cz⟩ := kw_box k1 hb; have c0 := cb 0; have c1 := cb 1; have c2 := cb 2; simp at c0 c1 c2; have f0 := cf 0; have f1 := cf 1; have f2 := cf 2; clear d1 k1 cb cf))
      refine bodyPost_ret (results_cell rfl _ rfl (lvVal_set _ w.heap.size _ _ _ (by rw [c0]; rfl) (by rw [c1]; rfl) (by rw [c2]; rfl))) rfl ?_
      obtain ⟨g1, g2⟩ := FIN.out _ (.int .i64 1) (.int .i64 0) (.string ⟨#[]⟩) K1.out D1.out
      refine ⟨g1, ?_⟩
      rw [valP_cons, HV.out]
      exact ⟨_, rfl, ⟨rfl, small_z⟩, g2⟩
end Go.Proofs.YtbdanlipghhgpaaGreatDoor

namespace Go.Proofs.YtbdanlipghhgpaaGreatDoor
open Go.RowKit Go.Deep
set_option maxRecDepth 100000
set_option linter.unusedVariables false
theorem infoDS : (Tryz.prog.info? 9).map (fun i => (i.zero, i.size, i.bytes)) = some (some (.string ByteArray.empty), 1, 16) := by kernel_rfl
theorem infoDC : (Tryz.prog.info? 67).map (fun i => (i.zero, i.size, i.bytes)) = some (some (.agg #[.string ByteArray.empty, .int .i64 0, .bool false]), 3, 32) := by kernel_rfl
theorem infoDV : (Tryz.prog.info? 39).map (fun i => (i.zero, i.size, i.bytes)) = some (some (.agg #[.int .i64 0, .int .i64 0, .string ByteArray.empty]), 3, 32) := by kernel_rfl
theorem info_partsD {t : TypeId} {z : Value} {k n : Nat} (h : (Tryz.prog.info? t).map (fun i => (i.zero, i.size, i.bytes)) = some (some z, k, n)) : ∃ i, Tryz.prog.info? t = some i ∧ i.zero = some z ∧ i.size = k ∧ i.bytes = n := by
  cases hq : Tryz.prog.info? t with
  | none => rw [hq] at h; cases h
  | some i =>
    rw [hq] at h
    simp only [Option.map_some, Option.some.injEq, Prod.mk.injEq] at h
    exact ⟨i, rfl, h⟩
def valC (v : Val) : List Value := [.int .i64 v.kind, .int .i64 v.int, .string v.text]
def OwnR {α : Type} (ty : TypeId) (size : Nat) (cells : α → List Value) (b B : Nat) (w' : World) (v : Value) (l : List α) : Prop :=
  ∃ h : Hd, v = .slice h.a l.length h.c ∧ w'.ownsRow B ty size (.slice h.a l.length h.c) l.length (l.flatMap cells) ∧ b < B
theorem OwnR.kw {α : Type} {ty : TypeId} {size : Nat} {cells : α → List Value} {b B : Nat} {w w' : World} {v : Value} {l : List α} (h : OwnR ty size cells b B w v l) (k : Kw b w w') : OwnR ty size cells b B w' v l := by
  obtain ⟨hd, h1, h2, h3⟩ := h
  exact ⟨hd, h1, own_kb h2 k (fun g hg e => by have := (h2.lt g hg).1; have e' : g = b := e; omega), h3⟩
theorem own_one (w : World) (B : Nat) (ty : TypeId) (size : Nat) (cs : List Value) (hs : cs.length = size) (hB : B ≤ w.heap.size) : (w.alloc (.cells cs.toArray ty)).ownsRow B ty size (.slice (some ⟨w.heap.size, 0, none⟩) 1 1) 1 cs :=
  ⟨by omega, .inr ⟨w.heap.size, 1, cs.toArray, rfl, hB, heap_alloc_new w _, by omega, by unfold maxLen; omega, by simp [hs], by simp [← hs]⟩⟩
theorem many_done {α : Type} {f : ByteArray → Option α} {W : Ws} {l : List α} (hl : l ≠ []) (h : W.mapM f = some l) : manyP f W = some (l, []) := by
  unfold manyP
  have hW : W ≠ [] := by rintro rfl; simp at h; exact hl h
  rw [if_neg hW, h]; rfl
theorem mapM_app {α : Type} {f : ByteArray → Option α} : ∀ {W V : Ws} {l : List α}, W.mapM f = some l → (W ++ V).mapM f = (V.mapM f).map (l ++ ·)
  | [], V, l, h => by simp at h; subst h; simp
  | s :: W, V, l, h => by
    rw [List.mapM_cons] at h
    simp only [bind, Option.bind_eq_some_iff, pure, Option.some.injEq] at h
    obtain ⟨x, h1, m, h2, rfl⟩ := h
    rw [List.cons_append, List.mapM_cons, mapM_app (V := V) h2, h1]
    cases V.mapM f <;> rfl
theorem many_fail {α : Type} {f : ByteArray → Option α} {W V : Ws} {s : ByteArray} {l : List α} (h : W.mapM f = some l) (hs : f s = none) : manyP f (W ++ s :: V) = none := by
  unfold manyP
  rw [if_neg (by simp), mapM_app h, List.mapM_cons, hs]; rfl
theorem many_step {α : Type} {f : ByteArray → Option α} {W : Ws} {s : ByteArray} {l : List α} {x : α} (h : W.mapM f = some l) (hs : f s = some x) : (W ++ [s]).mapM f = some (l ++ [x]) := by
  rw [mapM_app h, List.mapM_cons, hs]; rfl
theorem app_desk {ops : Array Oper} {rest : List Oper} {o : Oper} {a : Act} {w : World} {Q : Exit → Act → World → Prop} {ts ty : TypeId} {size : Nat} {z : Value} {bytes : Nat} (hu : Tryz.prog.underlying ts = some (.slice ty))
    (hin : (Tryz.prog.info? ty).map (fun i => (i.zero, i.size, i.bytes)) = some (some z, size, bytes)) (hz : z.cells.size = size) (h1 : 0 < size) (hb1 : bytes ≤ 64) (hgd : o.guard = none) (s x : Operand)
    (ho : o.op = .call { callee := .builtin .append, args := #[s, x], argTypes := #[ts, ts] }) (base : Nat) (v : Value) (n : Nat) (xs : List Value) (hs : a.eval s = v) (hown : w.ownsRow base ty size v n xs)
    (b : Nat) (cs : List Value) (hx : a.eval x = .slice (some ⟨b, 0, none⟩) 1 1) (hb : w.heap[b]? = some (.cells cs.toArray ty)) (hcs : cs.length = size) (hone : ∀ u ∈ cs, u.oneCell' = true) (hn : n ≤ 1000000) (hbase : base ≤ w.heap.size)
    (h : ∀ g cap w', w'.ownsRow base ty size (.slice (some ⟨g, 0, none⟩) (n + 1) cap) (n + 1) (xs ++ cs) → w.grownBy w' v.ownBlock → (v.ownBlock = some g ∨ g = w.heap.size) → wpList Tryz.prog ops Q rest (a.put o.dst (.slice (some ⟨g, 0, none⟩) (n + 1) cap)) w') : wpList Tryz.prog ops Q (o :: rest) a w := by
  obtain ⟨i0, hi0, hz0, hz1, hz2⟩ := info_partsD hin
  exact wpList_append_lies w hgd s x ts ho base ty i0 z size bytes hu hi0 hz0 hz1 hz2 hz h1 v n xs hs hown ⟨b, 0, none⟩ 1 1 cs hx (by omega) (World.news_of_block (cs := cs.toArray) (t := ty) (fr := (0, 0)) hb) hone (by omega) (by unfold maxLen; omega)
    (by have : (n + 1) * bytes ≤ (n + 1) * 64 := Nat.mul_le_mul_left _ hb1
        omega) hbase _ rfl fun g cap w' h1 h2 h3 _ => h g cap w' h1 h2 h3
structure Grow {α : Type} (ty : TypeId) (size : Nat) (cells : α → List Value) (f : ByteArray → Option α) (b p : Nat) (w : World) (W : Ws) (wr : World) (pre rest : Ws) (l : List α) (h : Hd) : Prop where
  split : W = pre ++ rest
  some : pre.mapM f = Option.some l
  ne : l ≠ []
  ds : WdS wr b p rest
  kw : Kw b w wr
  own : wr.ownsRow w.heap.size ty size (.slice h.a l.length h.c) l.length (l.flatMap cells)
  lt : b < w.heap.size
  plt : p < w.heap.size
section
variable {α : Type} {ty : TypeId} {size : Nat} {cells : α → List Value} {f : ByteArray → Option α} {b p : Nat} {w : World} {W : Ws} {wr : World} {pre rest : Ws} {l : List α} {h : Hd}
theorem mapM_len {α β : Type} {f : α → Option β} : ∀ {W : List α} {l : List β}, W.mapM f = some l → W.length = l.length
  | [], l, h => by simp at h; subst h; rfl
  | s :: W, l, h => by
    rw [List.mapM_cons] at h
    simp only [bind, Option.bind_eq_some_iff, pure, Option.some.injEq] at h
    obtain ⟨x, h1, m, h2, rfl⟩ := h
    simp [mapM_len h2]
theorem Grow.small (g : Grow ty size cells f b p w W wr pre rest l h) (hW : W.length ≤ 4097) : l.length ≤ 4097 := by
  have := mapM_len g.some
  have := congrArg List.length g.split
  simp at this
  omega
theorem Grow.more (g : Grow ty size cells f b p w W wr pre rest l h) {s : ByteArray} {r : Ws} (hr : rest = s :: r) : l.length < W.length := by
  have := mapM_len g.some
  have := congrArg List.length g.split
  simp [hr] at this
  omega
theorem Grow.step {s : ByteArray} (g : Grow ty size cells f b p w W wr pre (s :: rest) l h) {x : α} {w1 w5 : World} {o : Obj} {gg cap : Nat} (hs : f s = Option.some x) (k1 : Kw b wr w1) (d1 : WdS w1 b p rest)
    (ho : w5.ownsRow w.heap.size ty size (.slice (Option.some ⟨gg, 0, none⟩) (l.length + 1) cap) (l.length + 1) (l.flatMap cells ++ cells x)) (hg : (w1.alloc o).grownBy w5 (Value.slice h.a l.length h.c).ownBlock) :
    Grow ty size cells f b p w W w5 (pre ++ [s]) rest (l ++ [x]) ⟨Option.some ⟨gg, 0, none⟩, l.length + 1, cap⟩ := by
  have hB : ∀ k, (Value.slice h.a l.length h.c).ownBlock = Option.some k → w.heap.size ≤ k := fun k hk => (g.own.lt k hk).1
  have kz := (g.kw.trans k1).size
  have hz : w1.heap.size ≤ (w1.alloc o).heap.size := by simp
  have kb : Kw b w w5 := by
    refine ⟨hg.os.trans (g.kw.trans k1).os, hg.tape.trans (g.kw.trans k1).tape, hg.output.trans (g.kw.trans k1).output, Nat.le_trans kz (Nat.le_trans hz hg.size), fun k hk hn => ?_⟩
    have h2 := ((g.kw.trans k1).alloc o).block k hk hn
    exact (hg.block k (by omega) (fun e => by have := hB k e.symm; omega)).trans h2
  have kn : Kn w.heap.size (w1.alloc o) w5 := ⟨hg.os, hg.tape, hg.output, hg.size, fun k hk hn => hg.block k hk (fun e => hn (hB k e.symm))⟩
  exact ⟨by rw [g.split]; simp, many_step g.some hs, by simp, (d1.aft ((Aft.refl _).alloc o)).kn kn g.lt g.plt, kb, by rw [List.length_append, List.flatMap_append, List.flatMap_cons, List.flatMap_nil, List.append_nil]; exact ho, g.lt, g.plt⟩
end
def lenV : Value → Nat
  | .slice _ n _ => n
  | _ => 0
theorem rd_cons {α : Type} {b p : Nat} {w : World} {V : World → Value → α → Prop} {f : ByteArray → Option α} {s : ByteArray} {W : Ws} {e : Ending} {w' : World} (h : RdQ b p w V (oneP f (s :: W)) e w') :
    (f s = none ∧ e = NoL ∧ Kw b w w') ∨ (∃ x v, f s = some x ∧ e = .returned v ∧ V w' v x ∧ WdS w' b p W ∧ Kw b w w') := by
  obtain ⟨k, h2⟩ := h
  simp only [oneP] at h2
  cases hq : f s with
  | none => rw [hq] at h2; exact .inl ⟨rfl, h2, k⟩
  | some x =>
    rw [hq] at h2
    obtain ⟨v, h3, h4, h5⟩ := h2
    exact .inr ⟨x, v, rfl, h3, h4, h5, k⟩
def NamesV (b B : Nat) (w' : World) (v : Value) (l : List ByteArray) : Prop := OwnR 9 1 nameC b B w' v l ∧ l.length ≤ 4097 ∧ ∀ x ∈ l, nameB x = true
theorem names_ok : ∀ {W l : Ws}, W.mapM nameO = some l → ∀ x ∈ l, nameB x = true
  | [], l, h => by simp at h; subst h; simp
  | s :: W, l, h => by
    rw [List.mapM_cons] at h
    simp only [bind, Option.bind_eq_some_iff, pure, Option.some.injEq] at h
    obtain ⟨x, h1, m, h2, rfl⟩ := h
    obtain ⟨rfl, h3⟩ := nameO_some.1 h1
    simpa [h3] using names_ok h2
set_option maxHeartbeats 1000000 in
theorem names_rd (b p : Nat) (W : Ws) (w : World) (h : WdS w b p W) : Calls Tryz.prog 84 #[.pointer (some ⟨b, 0, none⟩)] w (RdQ b p w (NamesV b w.heap.size) (namesP W)) := by
  have hbig := h.big
  have hb := h.lt
  have hpl := h.plt
  cases W with
  | nil =>
    have HM := Lib.hid (name_rd b p [] w h)
    clear h
    go_enter Tryz.func84, Tryz.ntmps84
    go_wp2_with (first | (go_at_call 48; refine HM.out.mono ?_; rintro e w1 ⟨k1, he⟩; have he : e = NoL := he; have K1 := Lib.hid k1; clear k1; unfold NoL at he; subst he))
    exact ⟨rfl, K1.out, rfl⟩
  | cons s W =>
    obtain ⟨q, hq⟩ : ∃ q, nameO s = q := ⟨_, rfl⟩
    have HM := Lib.hid (name_rd b p (s :: W) w h)
    have HQ := Lib.hid hq
    have HZ := Lib.hid hbig
    have HB := Lib.hid hb
    have HPL := Lib.hid hpl
    clear h hbig hb hpl
    cases q with
    | none =>
      have HM' := Lib.hid (HM.out.mono fun e w1 (h : RdQ _ _ _ _ _ _ _) => (rd_cons h).elim (fun h => h.2) (fun ⟨x, v, h, _⟩ => absurd (hq.symm.trans h) (by simp)))
      clear hq HM
      go_enter Tryz.func84, Tryz.ntmps84
      go_wp2_with (first | (go_at_call 48; refine HM'.out.mono ?_; rintro e w1 ⟨he, k1⟩; have K1 := Lib.hid k1; clear k1; unfold NoL at he; subst he))
      refine ⟨rfl, K1.out, ?_⟩
      have : namesP (s :: W) = none := many_fail (W := []) (l := []) rfl HQ.out
      rw [this]; rfl
    | some x =>
      have HM' := Lib.hid (HM.out.mono fun e w1 (h : RdQ _ _ _ _ _ _ _) => (rd_cons h).elim (fun ⟨h, _⟩ => absurd (hq.symm.trans h) (by simp)) (fun ⟨y, v, h1, h2, h3, h4, h5⟩ => (show e = Ending.returned (.string x) ∧ WdS w1 b p W ∧ Kw b w w1 from by
        rw [hq] at h1; cases h1; exact ⟨by rw [h2, h3.1], h4, h5⟩)))
      clear hq HM
      go_enter Tryz.func84, Tryz.ntmps84
      go_wp2_with (first | (go_at_call 48; refine HM'.out.mono ?_; rintro e w1 ⟨rfl, d1, k1⟩; have D1 := Lib.hid d1; have K1 := Lib.hid k1; clear d1 k1))
      go_loopw [3] (fun u3 wr => ∃ (pre rest l : Ws) (h : Hd), u3 = .slice h.a l.length h.c ∧ Grow 9 1 nameC nameO b p w (s :: W) wr pre rest l h) (fun u3 _ => (s :: W).length - lenV u3)
      case atStart =>
        refine ⟨[s], W, [x], ⟨_, 1, 1⟩, rfl, ⟨rfl, ?_, by simp, D1.out.aft ((Aft.refl _).alloc _), K1.out.alloc _, ?_, HB.out, HPL.out⟩⟩
        · rw [List.mapM_cons, HQ.out]; rfl
        · exact own_one w1 w.heap.size _ 1 [.string x] rfl K1.out.size
      case round =>
        obtain ⟨pre, rest, l, h, rfl, g⟩ := hrel
        have hz := g.small HZ.out
        have G := Lib.hid g
        cases rest with
        | nil =>
          have HN := Lib.hid (more_no b p wr g.ds)
          clear g
          go_wp2_with (first | (go_at_call 19; refine HN.out.mono ?_; rintro e w' ⟨rfl, rfl⟩))
          go_ret
          refine ⟨G.out.kw, ?_⟩
          have e1 : s :: W = pre := by have := G.out.split; simpa using this
          have : namesP (s :: W) = some (l, []) := by rw [e1]; exact many_done G.out.ne G.out.some
          rw [this]
          exact ⟨_, rfl, ⟨⟨h, rfl, G.out.own, HB.out⟩, hz, names_ok G.out.some⟩, G.out.ds⟩
        | cons t rest =>
          have HN := Lib.hid (more_yes b p t rest wr g.ds)
          have HT := Lib.hid (name_rd b p (t :: rest) wr g.ds)
          have HL := Lib.hid (g.more rfl)
          clear g
          obtain ⟨q, hq⟩ : ∃ q, nameO t = q := ⟨_, rfl⟩
          have HQT := Lib.hid hq
          cases q with
          | none =>
            have HT' := Lib.hid (HT.out.mono fun e w1 (h : RdQ _ _ _ _ _ _ _) => (rd_cons h).elim (fun h => h.2) (fun ⟨x, v, h, _⟩ => absurd (hq.symm.trans h) (by simp)))
            clear hq HT
            go_wp2_with (first | (go_at_call 19; refine HN.out.mono ?_; rintro e w' ⟨rfl, rfl⟩) | (go_at_call 48; refine HT'.out.mono ?_; rintro e w1 ⟨he, k1⟩; have K2 := Lib.hid k1; clear k1; unfold NoL at he; subst he))
            refine ⟨rfl, G.out.kw.trans K2.out, ?_⟩
            have : namesP (s :: W) = none := by rw [G.out.split]; exact many_fail G.out.some HQT.out
            rw [this]; rfl
          | some y =>
            have HT' := Lib.hid (HT.out.mono fun e w1 (h : RdQ _ _ _ _ _ _ _) => (rd_cons h).elim (fun ⟨h, _⟩ => absurd (hq.symm.trans h) (by simp)) (fun ⟨z, v, h1, h2, h3, h4, h5⟩ => (show e = Ending.returned (.string y) ∧ WdS w1 b p rest ∧ Kw b wr w1 from by
              rw [hq] at h1; cases h1; exact ⟨by rw [h2, h3.1], h4, h5⟩)))
            clear hq HT
            go_wp2_with (first | (go_at_call 19; refine HN.out.mono ?_; rintro e w' ⟨rfl, rfl⟩) | (go_at_call 48; refine HT'.out.mono ?_; rintro e w2 ⟨rfl, d2, k2⟩; have D2 := Lib.hid d2; have K2 := Lib.hid k2; clear d2 k2; have OW := Lib.hid (own_kb G.out.own K2.out (fun g hg e => by have := (G.out.own.lt g hg).1; have := HB.out; have e' : g = b := e; omega))) | (at_builtin; go_must (refine app_desk Tryz.underlying26 infoDS rfl (by decide) (by decide) rfl _ _ rfl w.heap.size (.slice h.a l.length h.c) l.length (l.flatMap nameC) rfl (OW.out.alloc _) w2.heap.size [.string y] rfl (heap_alloc_new w2 _) rfl (by simp [Value.oneCell']) (by omega) ?qb ?_); rotate_left; intro gg cap' w5 hown5 hgrow hat; have G5 := Lib.hid (G.out.step HQT.out K2.out D2.out hown5 hgrow); clear hown5 hgrow hat))
            case qb =>
              have h1 := K2.out.size
              have h2 := G.out.kw.size
              have h3 : (w2.alloc (.cells #[.string y] 9)).heap.size = w2.heap.size + 1 := by simp
              omega
            go_roundw
            case rel => exact ⟨pre ++ [t], rest, l ++ [y], ⟨some ⟨gg, 0, none⟩, l.length + 1, cap'⟩, by simp, G5.out⟩
            case measure => have := HL.out; rw [List.length_cons] at this; simp [lenV]; omega
end Go.Proofs.YtbdanlipghhgpaaGreatDoor

namespace Go.Proofs.YtbdanlipghhgpaaGreatDoor
open Go.RowKit Go.Deep
set_option maxRecDepth 100000
set_option linter.unusedVariables false
theorem rowAt_newD (w : World) (c : List Value) (t : TypeId) : RowAt (w.alloc (.cells c.toArray t)) w.heap.size c :=
  ⟨by simp, fun j hj => by simp, fun j hj => World.frozen?_alloc_at _ _ _ _ rfl⟩
def Kx (b x : Nat) (w w' : World) : Prop := Kb (fun k => k = b ∨ k = x) w w'
theorem Kx.trans {b x : Nat} {w w1 w2 : World} (h : Kx b x w w1) (h2 : Kx b x w1 w2) : Kx b x w w2 := Kb.trans h h2
theorem Kw.kx {b : Nat} {w w1 : World} (h : Kw b w w1) (x : Nat) : Kx b x w w1 := Kb.mono h fun k _ e => .inl e
theorem Kx.set {b x : Nat} {w w1 : World} (h : Kx b x w w1) (j : Nat) (v : Value) : Kx b x w (w1.setCell ⟨x, j, none⟩ v) :=
  h.trans (Kb.mono (Kb.set w1 x j v) fun k _ e => .inr e)
theorem Kx.kw {b x : Nat} {w w1 w2 : World} (h : Kw b w w1) (k : Kx b x w1 w2) (hx : w.heap.size ≤ x) : Kw b w w2 :=
  ⟨k.os.trans h.os, k.tape.trans h.tape, k.output.trans h.output, Nat.le_trans h.size k.size, fun j hj hne => (k.block j (Nat.lt_of_lt_of_le hj h.size) (by intro e; rcases e with e | e <;> omega)).trans (h.block j hj hne)⟩
theorem RowAt.kw {b x : Nat} {w w' : World} {xs : List Value} (h : RowAt w x xs) (k : Kw b w w') (hne : ¬ x = b) : RowAt w' x xs := Kb.row k h hne
theorem RowAt.kx {b x r : Nat} {w w' : World} {xs : List Value} (h : RowAt w r xs) (k : Kx b x w w') (hb : ¬ r = b) (hx : ¬ r = x) : RowAt w' r xs := Kb.row k h (by intro e; rcases e with e | e; exact hb e; exact hx e)
theorem WdS.set {w : World} {b p x : Nat} {W : Ws} (h : WdS w b p W) (j : Nat) (v : Value) (hb : ¬ x = b) (hp : ¬ x = p) (h0 : ¬ x = 0) : WdS (w.setCell ⟨x, j, none⟩ v) b p W :=
  h.kb (Kb.set w x j v) (fun e => hb e.symm) (fun e => hp e.symm) (fun e => h0 e.symm)
def RdX (b p x : Nat) (w : World) (cs : List Value) (o : Option (List (Nat × Value) × Ws)) (e : Ending) (w' : World) : Prop :=
  Kx b x w w' ∧ match o with
  | some (l, W) => e = .returned (.tuple #[]) ∧ RowAt w' x (l.foldl (fun cs u => cs.set u.1 u.2) cs) ∧ WdS w' b p W
  | none => e = NoL
def tabL (W : Ws) : Option (List (Nat × Value) × Ws) := (nameP W).bind fun (s, W) => (nameP W).map fun (t, W) => ([(2, Value.string s), (3, Value.string t)], W)
theorem name_cases {b p : Nat} {W : Ws} {w : World} {e : Ending} {w' : World} (h : RdQ b p w (fun _ v x => v = .string x ∧ nameB x = true) (nameP W) e w') :
    (nameP W = none ∧ e = .panicked [{ v := .iface 74 (.agg #[]), recovered := false }] ∧ Kw b w w') ∨ ∃ s W', nameP W = some (s, W') ∧ e = .returned (.string s) ∧ nameB s = true ∧ WdS w' b p W' ∧ Kw b w w' := by
  obtain ⟨k, h2⟩ := h
  cases hq : nameP W with
  | none => rw [hq] at h2; exact .inl ⟨rfl, h2, k⟩
  | some y =>
    obtain ⟨s, W'⟩ := y
    rw [hq] at h2
    obtain ⟨v, rfl, ⟨rfl, h3⟩, h4⟩ := h2
    exact .inr ⟨s, W', rfl, rfl, h3, h4, k⟩
theorem RowAt.ltD {w : World} {x : Nat} {cs : List Value} (h : RowAt w x cs) : x < w.heap.size := h.1
theorem rowC {w : World} {x : Nat} {cs : List Value} (h : RowAt w x cs) (j : Nat) (hj : j < cs.length) : w.cell? ⟨x, j, none⟩ = some cs[j] ∧ w.frozen? ⟨x, j, none⟩ = false :=
  ⟨h.cell (List.getElem?_eq_getElem hj), h.2.2 j hj⟩
theorem table_rd (b p x : Nat) (W : Ws) (w : World) (cs : List Value) (h : WdS w b p W) (hx : RowAt w x cs) (hl : cs.length = 17) (hb : ¬ x = b) (hp : ¬ x = p) (h0 : ¬ x = 0) :
    Calls Tryz.prog 49 #[.pointer (some ⟨b, 0, none⟩), .pointer (some ⟨x, 0, none⟩)] w (RdX b p x w cs (tabL W)) := by
  have HN := Lib.hid (fun w1 W (h : WdS w1 b p W) => name_rd b p W w1 h)
  have HH := Lib.hid h
  have HX := Lib.hid hx
  clear h hx
  go_enter Tryz.func49, Tryz.ntmps49
  go_wp2_with (first
    | (go_at_call 48; with_reducible refine (HN.out _ _ HH.out).mono ?_; rintro e w1 q1; rcases name_cases q1 with ⟨n1, rfl, k1⟩ | ⟨s, W1, n1, rfl, -, d1, k1⟩; all_goals (have N1 := Lib.hid n1; have K1 := Lib.hid k1; clear n1 k1 q1; try have D1 := Lib.hid d1))
    | (go_at_call 48; with_reducible refine (HN.out _ _ D1.out).mono ?_; rintro e w2 q2; rcases name_cases q2 with ⟨n2, rfl, k2⟩ | ⟨t, W2, n2, rfl, -, d2, k2⟩; all_goals (have X2 := Lib.hid ((HX.out.kw K1.out hb).kw k2 hb); have xz := X2.out.ltD; obtain ⟨c2, f2⟩ := rowC X2.out 2 (by omega); obtain ⟨c3, f3⟩ := rowC X2.out 3 (by omega); have N2 := Lib.hid n2; have K2 := Lib.hid (K1.out.trans k2); clear n2 k2 q2; try (have D2 := Lib.hid d2; clear d2))))
  · exact ⟨rfl, K1.out.kx x, by rw [show tabL W = none by simp only [tabL, N1.out, Option.bind_none]]; rfl⟩
  · exact ⟨rfl, K2.out.kx x, by rw [show tabL W = none by simp only [tabL, N1.out, N2.out, Option.bind_some, Option.map_none]]; rfl⟩
  · go_end0
    refine ⟨((K2.out.kx x).set 2 _).set 3 _, ?_⟩
    rw [show tabL W = some ([(2, Value.string s), (3, Value.string t)], W2) by simp only [tabL, N1.out, N2.out, Option.bind_some, Option.map_some]]
    exact ⟨rfl, (X2.out.set 2 _ (by omega)).set 3 _ (by rw [List.length_set]; omega), (D2.out.set 2 _ hb hp h0).set 3 _ hb hp h0⟩
theorem word_rd (b p : Nat) (W : Ws) (w : World) (h : WdS w b p W) : Calls Tryz.prog 27 #[.pointer (some ⟨b, 0, none⟩)] w (RdQ b p w (fun _ v x => v = .string x) (wordP W)) := by
  cases W with
  | nil => exact (word_no b p w h).mono fun e w' ⟨he, hw⟩ => ⟨hw ▸ Kw.refl b w, he⟩
  | cons s W => exact (word_yes b p s W w h).mono fun e w' ⟨he, d, k⟩ => ⟨k, .string s, he, rfl, d⟩
theorem word_cases {b p : Nat} {W : Ws} {w : World} {e : Ending} {w' : World} (h : RdQ b p w (fun _ v x => v = .string x) (wordP W) e w') :
    (wordP W = none ∧ e = .panicked [{ v := .iface 74 (.agg #[]), recovered := false }] ∧ Kw b w w') ∨ ∃ s W', W = s :: W' ∧ e = .returned (.string s) ∧ WdS w' b p W' ∧ Kw b w w' := by
  obtain ⟨k, h2⟩ := h
  cases W with
  | nil => exact .inl ⟨rfl, h2, k⟩
  | cons s W =>
    obtain ⟨v, rfl, rfl, h3⟩ := h2
    exact .inr ⟨s, W, rfl, rfl, h3, k⟩
theorem number_cases {b p : Nat} {W : Ws} {w : World} {e : Ending} {w' : World} (h : RdQ b p w (fun _ v x => v = .int .i64 x) (numP W) e w') :
    (numP W = none ∧ e = .panicked [{ v := .iface 74 (.agg #[]), recovered := false }] ∧ Kw b w w') ∨ ∃ n W', numP W = some (n, W') ∧ e = .returned (.int .i64 n) ∧ WdS w' b p W' ∧ Kw b w w' := by
  obtain ⟨k, h2⟩ := h
  cases hq : numP W with
  | none => rw [hq] at h2; exact .inl ⟨rfl, h2, k⟩
  | some y =>
    obtain ⟨s, W'⟩ := y
    rw [hq] at h2
    obtain ⟨v, rfl, rfl, h4⟩ := h2
    exact .inr ⟨s, W', rfl, rfl, h4, k⟩
def rgtL (W : Ws) : Option (List (Nat × Value) × Ws) := (oneP rightO W).bind fun (r, W) => (nameP W).map fun (t, W) => ([(15, Value.int .i64 r), (5, Value.string t)], W)
theorem right_rd (b p x : Nat) (W : Ws) (w : World) (cs : List Value) (h : WdS w b p W) (hx : RowAt w x cs) (hl : cs.length = 17) (hb : ¬ x = b) (hp : ¬ x = p) (h0 : ¬ x = 0) :
    Calls Tryz.prog 52 #[.pointer (some ⟨b, 0, none⟩), .pointer (some ⟨x, 0, none⟩)] w (RdX b p x w cs (rgtL W)) := by
  have HN := Lib.hid (fun w1 W (h : WdS w1 b p W) => name_rd b p W w1 h)
  have HW := Lib.hid (word_rd b p W w h)
  have HX := Lib.hid hx
  have hb' : ¬ b = x := fun e => hb e.symm
  clear h hx
  go_enter Tryz.func52, Tryz.ntmps52
  go_wp2_with (first
    | (go_at_call 27; with_reducible refine HW.out.mono ?_; rintro e w1 q1; rcases word_cases q1 with ⟨n1, rfl, k1⟩ | ⟨s, W1, n1, rfl, d1, k1⟩; (rotate_left; obtain ⟨q3, e3⟩ : ∃ q, eqS s b_read = q := ⟨_, rfl⟩; obtain ⟨q4, e4⟩ : ∃ q, eqS s b_write = q := ⟨_, rfl⟩; have e3' := eqS_as e3; have e4' := eqS_as e4; unfold b_read at e3'; unfold b_write at e4'; simp only at e3' e4'; have E3 := Lib.hid e3; have E4 := Lib.hid e4; clear e3 e4; cases q3 <;> cases q4); all_goals (have N1 := Lib.hid n1; have K1 := Lib.hid k1; clear n1 k1 q1; try (have X1 := Lib.hid (HX.out.kw K1.out hb); have D1 := Lib.hid (d1.set (x := x) 15 (.int .i64 1) hb hp h0); have D1' := Lib.hid (d1.set (x := x) 15 (.int .i64 2) hb hp h0); have xz := X1.out.ltD; obtain ⟨c1, f1⟩ := rowC X1.out 15 (by omega))))
    | (go_at_call 18; refine (dis_no _).mono ?_; rintro e w' ⟨he, rfl⟩; unfold NoL at he; subst he)
    | (go_at_call 48; (first | (with_reducible refine (HN.out _ _ D1.out).mono ?_) | (with_reducible refine (HN.out _ _ D1'.out).mono ?_)); rintro e w2 q2; rcases name_cases q2 with ⟨n2, rfl, k2⟩ | ⟨t, W2, n2, rfl, -, d2, k2⟩; all_goals (have X2 := Lib.hid ((X1.out.set 15 _ (by omega)).kw k2 hb); have xz2 := X2.out.ltD; obtain ⟨c2, f2⟩ := rowC X2.out 5 (by rw [List.length_set]; omega); have N2 := Lib.hid n2; have K2 := Lib.hid k2; clear n2 k2 q2; try (have D2 := Lib.hid d2; clear d2))))
  all_goals first
    | (refine ⟨rfl, K1.out.kx x, ?_⟩
       have : rgtL W = none := by
         have n1 := N1.out
         first
           | (simp only [rgtL, n1, oneP, rightO, E3.out, E4.out, Option.map_none, Option.bind_none, Bool.false_eq_true, if_false]; done)
           | (cases W with
              | nil => rfl
              | cons a W => cases n1)
       rw [this]; rfl)
    | (refine ⟨rfl, ((K1.out.kx x).set 15 _).trans (K2.out.kx x), ?_⟩
       have : rgtL W = none := by simp only [rgtL, N1.out, oneP, rightO, E3.out, E4.out, Option.map_some, Option.bind_some, Bool.false_eq_true, if_true, if_false, N2.out, Option.map_none]
       rw [this]; rfl)
    | (go_end0
       refine ⟨(((K1.out.kx x).set 15 _).trans (K2.out.kx x)).set 5 _, ?_⟩
       have : rgtL W = some ([(15, Value.int .i64 1), (5, Value.string t)], W2) := by simp only [rgtL, N1.out, oneP, rightO, E3.out, E4.out, Option.map_some, Option.bind_some, Bool.false_eq_true, if_true, if_false, N2.out]
       rw [this]
       exact ⟨rfl, X2.out.set 5 _ (by rw [List.length_set]; omega), D2.out.set 5 _ hb hp h0⟩)
    | (go_end0
       refine ⟨(((K1.out.kx x).set 15 _).trans (K2.out.kx x)).set 5 _, ?_⟩
       have : rgtL W = some ([(15, Value.int .i64 2), (5, Value.string t)], W2) := by simp only [rgtL, N1.out, oneP, rightO, E3.out, E4.out, Option.map_some, Option.bind_some, Bool.false_eq_true, if_true, if_false, N2.out]
       rw [this]
       exact ⟨rfl, X2.out.set 5 _ (by rw [List.length_set]; omega), D2.out.set 5 _ hb hp h0⟩)
end Go.Proofs.YtbdanlipghhgpaaGreatDoor

