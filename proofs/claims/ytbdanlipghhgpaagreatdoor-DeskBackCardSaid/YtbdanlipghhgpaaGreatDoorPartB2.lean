/- Contracts of the program, part 2. -/
import Derived.ProofKit
import Derived.OpenShut
import Derived.Deep.Slices
import Derived.ChangeOld
import Derived.SizedLaws
import Derived.WalkKit
import Derived.WalkSpells
import Derived.WalkLawsBesides
import Derived.Lib.Hide
import Derived.Deep.QuietTactic
import Derived.BigQuiet
import Derived.Below
import Derived.Deep.Draws
import Derived.StillTailTactics
import Derived.Laws.Cells
import Derived.Laws.IdiomCopy
import Derived.Test.YtbdanlipghhgpaaGreatDoorRows
import Derived.Lib.Bytealg
import Derived.ShutString
import Derived.Lib.Atoi
import Derived.Lib.ItoaNum
import Derived.Lib.Split
import Derived.Lib.SplitLaws
import Derived.Lib.CutLaws
import Derived.Lib.Strings
import Derived.Lib.SlTrimSet
import Derived.OwnWalk
import Derived.Laws.AppendOwn
import Derived.Deep.Cut
import Derived.Deep.DeepCutAuto
import Derived.Test.YtbdanlipghhgpaaGreatDoorPartB1
namespace Go.Proofs.YtbdanlipghhgpaaGreatDoor
set_option linter.unusedVariables false
def itoaB (n : Int) : ByteArray := wd (Lib.itoa n)
def catB (a b : ByteArray) : ByteArray := wd (a.data.toList ++ b.data.toList)
def b_cint : ByteArray := ⟨#[58, 105, 110, 116]⟩
def b_ctext : ByteArray := ⟨#[58, 116, 101, 120, 116]⟩
def b_nul : ByteArray := ⟨#[63]⟩
def b_quo : ByteArray := ⟨#[39]⟩
def colT (c : Col) : ByteArray := if c.null then catB (catB c.name (if c.kind = 2 then b_cint else b_ctext)) b_nul else catB c.name (if c.kind = 2 then b_cint else b_ctext)
def valT (v : Val) : ByteArray := if v.kind = 1 then b_null else if v.kind = 2 then itoaB v.int else catB b_quo v.text
def nmsL (l : List ByteArray) : Option Ws := if l.all nameB then some l else none
def nusL (l : List Int) : Option Ws := if l.all inN then some (l.map itoaB) else none
def colsL (l : List Col) : Option Ws := if l.all (fun c => nameB c.name) then some (l.map colT) else none
def okV (v : Val) : Bool := if v.kind = 2 then inN v.int else txtB v.text
def valsL (l : List Val) : Option Ws := if l.all okV then some (l.map valT) else none
def andL (a b : Option Ws) : Option Ws := a.bind fun l => b.map (l ++ ·)
def ruleL (x : Cmd) : Option Ws :=
  andL (if x.rule.kind = 1 then some [b_index] else if x.rule.kind = 2 then some [b_key] else if x.rule.kind = 3 then some [b_check] else if x.rule.kind = 4 then some [b_foreign] else none)
    (andL (nmsL [x.actor, x.schema, x.table, x.rule.name]) (andL (if x.rule.kind = 4 then nmsL [x.rule.schema, x.rule.table, x.rule.key] else some [])
      (andL (nmsL x.rule.cols) (if x.rule.kind = 3 then nusL [x.rule.low, x.rule.high] else some []))))
def onTabL (w : ByteArray) (x : Cmd) : Option Ws := andL (some [w]) (nmsL [x.actor, x.schema, x.table])
def rightL (x : Cmd) : Option Ws := andL (some [if x.right = 1 then b_read else b_write]) (andL (nmsL [x.role]) (some (if x.opt then [b_option] else [])))
def cmdL (x : Cmd) : Option Ws :=
  if x.kind = 1 then andL (some [b_schema]) (nmsL [x.actor, x.schema])
  else if x.kind = 2 then andL (some [b_dropschema]) (nmsL [x.actor, x.schema])
  else if x.kind = 3 then andL (onTabL b_table x) (colsL x.cols)
  else if x.kind = 4 then onTabL b_droptable x
  else if x.kind = 5 then andL (onTabL b_column x) (colsL x.cols)
  else if x.kind = 6 then andL (onTabL b_dropcolumn x) (nmsL [x.name])
  else if x.kind = 7 then ruleL x
  else if x.kind = 8 then andL (onTabL b_droprule x) (nmsL [x.name])
  else if x.kind = 9 then andL (onTabL b_owner x) (nmsL [x.role])
  else if x.kind = 10 then andL (some [b_role]) (nmsL [x.actor, x.role])
  else if x.kind = 11 then andL (some [b_droprole]) (nmsL [x.actor, x.role])
  else if x.kind = 12 then andL (some [b_member]) (nmsL [x.actor, x.role, x.name])
  else if x.kind = 13 then andL (some [b_unmember]) (nmsL [x.actor, x.role, x.name])
  else if x.kind = 14 then andL (onTabL b_grant x) (rightL x)
  else if x.kind = 15 then andL (onTabL b_revoke x) (rightL x)
  else none
def rowL (x : ROp) : Option Ws :=
  andL (some [if x.kind = 1 then b_insert else if x.kind = 2 then b_remove else b_select]) (andL (nmsL [x.role, x.schema, x.table])
    (andL (if x.kind ≠ 1 ∧ eqS x.col zBy = false then andL (nmsL [x.col]) (valsL [x.v]) else some []) (valsL x.row)))
def chgW (k : Int) : ByteArray := if k ≤ 1 then b_learner else if k = 2 then b_voter else b_remove
def actL (a : Dact) : Option Ws :=
  if a.kind = 1 then andL (some [b_tick]) (nusL [a.node])
  else if a.kind = 2 then some [b_world]
  else if a.kind = 12 then andL (some [b_start]) (nusL [a.node])
  else if a.kind = 3 then andL (some [b_deliver]) (nusL [a.n])
  else if a.kind = 4 then andL (some [b_drop]) (nusL [a.n])
  else if a.kind = 5 then andL (some [b_double]) (nusL [a.n])
  else if a.kind = 6 then andL (some [b_ask]) (andL (nusL [a.node, a.client, a.number]) (cmdL a.cmd))
  else if a.kind = 7 then andL (some [b_read]) (nusL [a.node, a.client, a.number])
  else if a.kind = 8 then andL (some [chgW a.ck]) (nusL [a.node, a.cn])
  else if a.kind = 9 then andL (some [b_lease]) (nusL [a.n, a.node])
  else if a.kind = 10 then andL (some [b_row]) (andL (nusL [a.n]) (rowL a.row))
  else if a.kind = 11 then andL (some [b_crash]) (nusL [a.node, a.n])
  else none
def lineB (W : Ws) : ByteArray := wd (joinL 32 (W.map (·.data.toList)))
def laidB (a : Dact) : Option ByteArray := (actL a).map lineB

theorem eqS_iffD (a b : ByteArray) : eqS a b = true ↔ a = b := by
  unfold eqS
  rw [beq_iff_eq]
  constructor
  · intro h
    have h2 := congrArg List.toArray h
    rw [ByteArray.toList_eq, ByteArray.toList_eq] at h
    exact ba_ext h
  · rintro rfl; rfl
theorem oneP_some {α : Type} {f : ByteArray → Option α} {W W' : Ws} {x : α} : oneP f W = some (x, W') ↔ ∃ s, W = s :: W' ∧ f s = some x := by
  cases W with
  | nil => simp [oneP]
  | cons s W =>
    simp only [oneP, Option.map_eq_some_iff, Prod.mk.injEq, List.cons.injEq]
    constructor
    · rintro ⟨y, h, rfl, rfl⟩; exact ⟨s, ⟨rfl, rfl⟩, h⟩
    · rintro ⟨_, ⟨rfl, rfl⟩, h⟩; exact ⟨x, h, rfl, rfl⟩
theorem nameO_some {s t : ByteArray} : nameO s = some t ↔ t = s ∧ nameB s = true := by
  unfold nameO
  split
  · rename_i h
    rw [Option.some.injEq]
    exact ⟨fun e => ⟨e.symm, h⟩, fun e => e.1.symm⟩
  · rename_i h
    exact ⟨fun e => (nomatch e), fun e => absurd e.2 h⟩
theorem wordP_some {W W' : Ws} {x : ByteArray} (h : wordP W = some (x, W')) : W = x :: W' := by
  obtain ⟨s, h1, h2⟩ := oneP_some.1 h
  simp at h2; subst h2; exact h1
theorem nameP_some {W W' : Ws} {x : ByteArray} (h : nameP W = some (x, W')) : W = x :: W' ∧ nameB x = true := by
  obtain ⟨s, h1, h2⟩ := oneP_some.1 h
  obtain ⟨rfl, h3⟩ := nameO_some.1 h2; exact ⟨h1, h3⟩
theorem numB_some {s : ByteArray} {n : Int} (h : numB s = some n) : s = itoaB n ∧ inN n = true := by
  obtain ⟨h1, h2⟩ := num_word h
  exact ⟨by unfold itoaB; rw [← h1, wd_of], h2⟩
theorem numP_some {W W' : Ws} {n : Int} (h : numP W = some (n, W')) : W = itoaB n :: W' ∧ inN n = true := by
  obtain ⟨s, h1, h2⟩ := oneP_some.1 h
  obtain ⟨rfl, h3⟩ := numB_some h2; exact ⟨h1, h3⟩
theorem cut_back (l : Bts) (h : (Lib.cut l [58]).2.1 ≠ []) : l = (Lib.cut l [58]).1 ++ 58 :: (Lib.cut l [58]).2.1 := by
  unfold Lib.cut at h ⊢
  split
  · rename_i h0
    obtain ⟨o, ho⟩ : ∃ o : Nat, Lib.index l [58] = o := ⟨_, (Int.toNat_of_nonneg h0).symm⟩
    rw [ho]
    simp only [Int.toNat_natCast, List.length_cons, List.length_nil, Nat.zero_add]
    obtain ⟨h1, _⟩ := Lib.indexByte_some ((Lib.index_one l 58).symm.trans ho)
    obtain ⟨h2, h3⟩ := List.getElem?_eq_some_iff.1 h1
    have : l.drop o = 58 :: l.drop (o + 1) := by rw [List.drop_eq_getElem_cons h2, h3]
    rw [← this, List.take_append_drop]
  · rename_i h0
    simp [h0] at h
theorem suf_back (l : Bts) (h : Lib.hasSuffix l [63] = true) : l = Lib.trimSuffix l [63] ++ [63] := by
  have h' := h
  unfold Lib.trimSuffix
  rw [if_pos h]
  unfold Lib.hasSuffix at h'
  obtain ⟨t, ht⟩ := List.isSuffixOf_iff_suffix.1 h'
  subst ht
  simp
theorem suf_no (l : Bts) (h : Lib.hasSuffix l [63] = false) : l = Lib.trimSuffix l [63] := by unfold Lib.trimSuffix; rw [h]; rfl
theorem colB_some {s : ByteArray} {c : Col} (h : colB s = some c) : s = colT c ∧ nameB c.name = true ∧ (c.kind = 2 ∨ c.kind = 3) := by
  unfold colB at h
  split at h
  · rename_i hc
    simp only [Bool.and_eq_true, Bool.or_eq_true] at hc
    obtain ⟨hn, hk⟩ := hc
    simp only [Option.some.injEq] at h
    subst h
    have e1 : (nulless s).data.toList = Lib.trimSuffix s.data.toList [63] := wd_data _
    have hne : (Lib.cut (nulless s).data.toList [58]).2.1 ≠ [] := by
      intro e
      rcases hk with hk | hk
      all_goals
        rw [eqS_iffD] at hk
        have := congrArg (fun b : ByteArray => b.data.toList) hk
        simp only [cutK, wd_data, e] at this
        simp [b_int, b_text] at this
    have h2 := cut_back _ hne
    have e2 : (cutN (nulless s)).data.toList = (Lib.cut (nulless s).data.toList [58]).1 := wd_data _
    have e3 : (cutK (nulless s)).data.toList = (Lib.cut (nulless s).data.toList [58]).2.1 := wd_data _
    rw [← e2, ← e3] at h2
    refine ⟨?_, hn, ?_⟩
    · apply ba_ext
      have e4 : (colT ⟨cutN (nulless s), if eqS (cutK (nulless s)) b_text = true then 3 else 2, nulB s⟩).data.toList = (nulless s).data.toList ++ if nulB s then [63] else [] := by
        have e5 : (catB (cutN (nulless s)) (if (if eqS (cutK (nulless s)) b_text = true then (3 : Int) else 2) = 2 then b_cint else b_ctext)).data.toList = (nulless s).data.toList := by
          unfold catB
          rw [wd_data, h2]
          congr 1
          cases ht : eqS (cutK (nulless s)) b_text with
          | true =>
            rw [eqS_iffD] at ht
            rw [ht]; rfl
          | false =>
            rw [ht] at hk
            rcases hk with hk | hk
            · rw [eqS_iffD] at hk
              rw [hk]; rfl
            · cases hk
        generalize (if eqS (cutK (nulless s)) b_text = true then (3 : Int) else 2) = q at e5 ⊢
        cases nulB s with
        | true =>
          show (catB (catB (cutN (nulless s)) (if q = 2 then b_cint else b_ctext)) b_nul).data.toList = (nulless s).data.toList ++ [63]
          rw [catB, wd_data, e5]; rfl
        | false =>
          show (catB (cutN (nulless s)) (if q = 2 then b_cint else b_ctext)).data.toList = (nulless s).data.toList ++ []
          rw [e5, List.append_nil]
      rw [e4]
      cases hb : nulB s with
      | true => rw [if_pos rfl, e1]; exact suf_back _ hb
      | false => rw [if_neg (by decide), e1, List.append_nil]; exact suf_no _ hb
    · simp only
      split
      · exact .inr rfl
      · exact .inl rfl
  · cases h
theorem colP_some {W W' : Ws} {c : Col} (h : colP W = some (c, W')) : W = colT c :: W' ∧ nameB c.name = true ∧ (c.kind = 2 ∨ c.kind = 3) := by
  obtain ⟨s, h1, h2⟩ := oneP_some.1 h
  obtain ⟨rfl, h3⟩ := colB_some h2; exact ⟨h1, h3⟩
theorem pre_back (l : Bts) (h : Lib.hasPrefix l [39] = true) : l = 39 :: Lib.trimPrefix l [39] := by
  have h' := h
  unfold Lib.trimPrefix
  rw [if_pos h]
  unfold Lib.hasPrefix at h'
  obtain ⟨t, ht⟩ := List.isPrefixOf_iff_prefix.1 h'
  subst ht
  simp
theorem valB_some {s : ByteArray} {v : Val} (h : valB s = some v) : s = valT v ∧ okV v = true ∧ (v.kind = 1 ∨ v.kind = 2 ∨ v.kind = 3) := by
  unfold valB at h
  split at h
  · rename_i h0
    rw [eqS_iffD] at h0
    simp only [Option.some.injEq] at h
    subst h; subst h0
    exact ⟨rfl, by decide, .inl rfl⟩
  · split at h
    · rename_i h1
      split at h
      · rename_i h2
        simp only [Option.some.injEq] at h
        subst h
        refine ⟨?_, ?_, .inr (.inr rfl)⟩
        · apply ba_ext
          have := pre_back _ h1
          simp only [valT, quoless, catB, wd_data]
          simpa [b_quo, wd_data] using this
        · unfold okV; rw [if_neg (show ¬ (3 : Int) = 2 by decide)]; exact h2
      · cases h
    · rw [Option.map_eq_some_iff] at h
      obtain ⟨n, hn, rfl⟩ := h
      obtain ⟨e, hi⟩ := numB_some hn
      refine ⟨?_, ?_, .inr (.inl rfl)⟩
      · exact e
      · exact hi
theorem valP_some {W W' : Ws} {v : Val} (h : valP W = some (v, W')) : W = valT v :: W' ∧ okV v = true ∧ (v.kind = 1 ∨ v.kind = 2 ∨ v.kind = 3) := by
  obtain ⟨s, h1, h2⟩ := oneP_some.1 h
  obtain ⟨rfl, h3⟩ := valB_some h2; exact ⟨h1, h3⟩
theorem mapM_words {α : Type} {f : ByteArray → Option α} {T : α → ByteArray} {p : α → Prop} (hf : ∀ s x, f s = some x → s = T x ∧ p x) : ∀ {W : Ws} {l : List α}, W.mapM f = some l → W = l.map T ∧ ∀ x ∈ l, p x
  | [], l, h => by simp at h; subst h; exact ⟨rfl, by simp⟩
  | s :: W, l, h => by
    rw [List.mapM_cons] at h
    simp only [bind, Option.bind_eq_some_iff, pure, Option.some.injEq] at h
    obtain ⟨x, h1, m, h2, rfl⟩ := h
    obtain ⟨rfl, hp⟩ := hf s x h1
    obtain ⟨rfl, hq⟩ := mapM_words hf h2
    exact ⟨rfl, by simpa using ⟨hp, hq⟩⟩
theorem manyP_some {α : Type} {f : ByteArray → Option α} {T : α → ByteArray} {p : α → Prop} (hf : ∀ s x, f s = some x → s = T x ∧ p x) {W W' : Ws} {l : List α} (h : manyP f W = some (l, W')) : W' = [] ∧ l ≠ [] ∧ W = l.map T ∧ ∀ x ∈ l, p x := by
  unfold manyP at h
  split at h
  · cases h
  · rename_i hW
    simp only [Option.map_eq_some_iff, Prod.mk.injEq] at h
    obtain ⟨m, hm, rfl, rfl⟩ := h
    obtain ⟨rfl, hp⟩ := mapM_words hf hm
    exact ⟨rfl, by intro e; subst e; exact hW rfl, rfl, hp⟩
theorem namesP_some {W W' : Ws} {l : List ByteArray} (h : namesP W = some (l, W')) : W' = [] ∧ l ≠ [] ∧ W = l ∧ ∀ x ∈ l, nameB x = true := by
  obtain ⟨h1, h2, h3, h4⟩ := manyP_some (T := id) (p := fun x => nameB x = true) (fun s x hx => by obtain ⟨rfl, h⟩ := nameO_some.1 hx; exact ⟨rfl, h⟩) h
  exact ⟨h1, h2, by simpa using h3, h4⟩
theorem colsP_some {W W' : Ws} {l : List Col} (h : colsP W = some (l, W')) : W' = [] ∧ l ≠ [] ∧ W = l.map colT ∧ ∀ c ∈ l, nameB c.name = true ∧ (c.kind = 2 ∨ c.kind = 3) :=
  manyP_some (fun _ _ h => colB_some h) h
theorem valsP_some {W W' : Ws} {l : List Val} (h : valsP W = some (l, W')) : W' = [] ∧ l ≠ [] ∧ W = l.map valT ∧ ∀ v ∈ l, okV v = true ∧ (v.kind = 1 ∨ v.kind = 2 ∨ v.kind = 3) :=
  manyP_some (fun _ _ h => valB_some h) h
theorem nms_all {l : List ByteArray} (h : ∀ x ∈ l, nameB x = true) : nmsL l = some l := by unfold nmsL; rw [if_pos (List.all_eq_true.2 h)]
theorem nus_all {l : List Int} (h : ∀ x ∈ l, inN x = true) : nusL l = some (l.map itoaB) := by unfold nusL; rw [if_pos (List.all_eq_true.2 h)]
theorem cols_all {l : List Col} (h : ∀ c ∈ l, nameB c.name = true) : colsL l = some (l.map colT) := by unfold colsL; rw [if_pos (List.all_eq_true.2 h)]
theorem vals_all {l : List Val} (h : ∀ c ∈ l, okV c = true) : valsL l = some (l.map valT) := by unfold valsL; rw [if_pos (List.all_eq_true.2 h)]
theorem nms1 {a : ByteArray} (h : nameB a = true) : nmsL [a] = some [a] := nms_all (by simpa using h)
theorem nms2 {a b : ByteArray} (h : nameB a = true) (h2 : nameB b = true) : nmsL [a, b] = some [a, b] := nms_all (by simp [h, h2])
theorem nms3 {a b c : ByteArray} (h : nameB a = true) (h2 : nameB b = true) (h3 : nameB c = true) : nmsL [a, b, c] = some [a, b, c] := nms_all (by simp [h, h2, h3])
theorem nms4 {a b c d : ByteArray} (h : nameB a = true) (h2 : nameB b = true) (h3 : nameB c = true) (h4 : nameB d = true) : nmsL [a, b, c, d] = some [a, b, c, d] := nms_all (by simp [h, h2, h3, h4])
theorem nus1 {a : Int} (h : inN a = true) : nusL [a] = some [itoaB a] := nus_all (by simpa using h)
theorem nus2 {a b : Int} (h : inN a = true) (h2 : inN b = true) : nusL [a, b] = some [itoaB a, itoaB b] := nus_all (by simp [h, h2])
theorem nus3 {a b c : Int} (h : inN a = true) (h2 : inN b = true) (h3 : inN c = true) : nusL [a, b, c] = some [itoaB a, itoaB b, itoaB c] := nus_all (by simp [h, h2, h3])
theorem ite_or {α : Type} {c : Prop} [Decidable c] {a b x : α} (h : (if c then a else b) = x) : (c ∧ a = x) ∨ (¬ c ∧ b = x) := by
  by_cases hc : c
  · rw [if_pos hc] at h; exact .inl ⟨hc, h⟩
  · rw [if_neg hc] at h; exact .inr ⟨hc, h⟩
theorem andL_some (a b : Ws) : andL (some a) (some b) = some (a ++ b) := rfl
theorem tableP_some {x y : Cmd} {W W' : Ws} (h : tableP x W = some (y, W')) : ∃ s t, W = s :: t :: W' ∧ nameB s = true ∧ nameB t = true ∧ y = { x with schema := s, table := t } := by
  unfold tableP at h
  simp only [Option.bind_eq_some_iff, Prod.exists, Option.some.injEq, Prod.mk.injEq] at h
  obtain ⟨s, W1, h1, t, W2, h2, rfl, rfl⟩ := h
  obtain ⟨rfl, n1⟩ := nameP_some h1
  obtain ⟨rfl, n2⟩ := nameP_some h2
  exact ⟨s, t, rfl, n1, n2, rfl⟩
theorem rightP_some {x y : Cmd} {W W' : Ws} (h : rightP x W = some (y, W')) : ∃ r t, W = (if r = 1 then b_read else b_write) :: t :: W' ∧ nameB t = true ∧ (r = 1 ∨ r = 2) ∧ y = { x with right := r, role := t } := by
  unfold rightP at h
  simp only [Option.bind_eq_some_iff, Prod.exists, Option.some.injEq, Prod.mk.injEq] at h
  obtain ⟨r, W1, h1, t, W2, h2, rfl, rfl⟩ := h
  obtain ⟨s, rfl, h3⟩ := oneP_some.1 h1
  obtain ⟨rfl, n2⟩ := nameP_some h2
  unfold rightO at h3
  split at h3
  · rename_i e
    rw [eqS_iffD] at e
    cases h3; subst e
    exact ⟨1, t, rfl, n2, .inl rfl, rfl⟩
  · split at h3
    · rename_i e
      rw [eqS_iffD] at e
      cases h3; subst e
      exact ⟨2, t, rfl, n2, .inr rfl, rfl⟩
    · cases h3
def ruleW (r : Rul) : Ws := r.name :: ((if r.kind = 4 then [r.schema, r.table, r.key] else []) ++ (r.cols ++ if r.kind = 3 then [itoaB r.low, itoaB r.high] else []))
structure OkRul (r : Rul) : Prop where
  name : nameB r.name = true
  far : r.kind = 4 → nameB r.schema = true ∧ nameB r.table = true ∧ nameB r.key = true
  cols : ∀ x ∈ r.cols, nameB x = true
  low : r.kind = 3 → inN r.low = true ∧ inN r.high = true
theorem ruleP_some {k : Int} {r : Rul} {W W' : Ws} (h : ruleP k W = some (r, W')) : W = ruleW r ++ W' ∧ r.kind = k ∧ OkRul r := by
  unfold ruleP at h
  rw [Option.bind_eq_some_iff] at h
  obtain ⟨⟨n, W1⟩, h1, h⟩ := h
  obtain ⟨rfl, n1⟩ := nameP_some h1
  simp only at h
  split at h
  · rename_i hk
    simp only [Option.bind_eq_some_iff, Prod.exists, Option.some.injEq, Prod.mk.injEq] at h
    obtain ⟨c, W2, h2, lo, W3, h3, hi, W4, h4, rfl, rfl⟩ := h
    obtain ⟨rfl, n2⟩ := nameP_some h2
    obtain ⟨rfl, n3⟩ := numP_some h3
    obtain ⟨rfl, n4⟩ := numP_some h4
    exact ⟨rfl, hk.symm, n1, fun e => by simp at e, by simpa using n2, fun _ => ⟨n3, n4⟩⟩
  · split at h
    · rename_i hk
      simp only [Option.bind_eq_some_iff, Prod.exists, Option.some.injEq, Prod.mk.injEq] at h
      obtain ⟨s, W2, h2, t, W3, h3, q, W4, h4, l, W5, h5, rfl, rfl⟩ := h
      obtain ⟨rfl, n2⟩ := nameP_some h2
      obtain ⟨rfl, n3⟩ := nameP_some h3
      obtain ⟨rfl, n4⟩ := nameP_some h4
      obtain ⟨rfl, _, rfl, n5⟩ := namesP_some h5
      exact ⟨by simp [ruleW], hk.symm, n1, fun _ => ⟨n2, n3, n4⟩, n5, fun e => by simp at e⟩
    · rename_i k3 k4
      simp only [Option.bind_eq_some_iff, Prod.exists, Option.some.injEq, Prod.mk.injEq] at h
      obtain ⟨l, W5, h5, rfl, rfl⟩ := h
      obtain ⟨rfl, _, rfl, n5⟩ := namesP_some h5
      exact ⟨by simp [ruleW, k3, k4], rfl, n1, fun e => absurd e k4, n5, fun e => absurd e k3⟩
theorem ruleL_of {x : Cmd} {w : ByteArray} (h : OkRul x.rule) (ha : nameB x.actor = true) (hs : nameB x.schema = true) (ht : nameB x.table = true)
    (hw : (if x.rule.kind = 1 then some [b_index] else if x.rule.kind = 2 then some [b_key] else if x.rule.kind = 3 then some [b_check] else if x.rule.kind = 4 then some [b_foreign] else none) = some [w]) :
    ruleL x = some (w :: x.actor :: x.schema :: x.table :: ruleW x.rule) := by
  unfold ruleL
  rw [hw, nms4 ha hs ht h.name, nms_all h.cols]
  unfold ruleW
  by_cases h4 : x.rule.kind = 4
  · obtain ⟨a, b, c⟩ := h.far h4
    rw [if_pos h4, if_pos h4, nms3 a b c, if_neg (by omega), if_neg (by omega)]
    simp [andL_some]
  · rw [if_neg h4, if_neg h4]
    by_cases h3 : x.rule.kind = 3
    · obtain ⟨a, b⟩ := h.low h3
      rw [if_pos h3, if_pos h3, nus2 a b]
      simp [andL_some]
    · rw [if_neg h3, if_neg h3]
      simp [andL_some]
theorem onTabL_of {w : ByteArray} {x : Cmd} (ha : nameB x.actor = true) (hs : nameB x.schema = true) (ht : nameB x.table = true) : onTabL w x = some [w, x.actor, x.schema, x.table] := by
  unfold onTabL; rw [nms3 ha hs ht]; rfl
def regC (x : Cmd) : Prop := ∀ c ∈ x.cols, c.kind = 2 ∨ c.kind = 3
def regR (x : ROp) : Prop := (x.kind = 2 → eqS x.col zBy = false) ∧ (x.kind ≠ 1 → x.row = [])
def regA (a : Dact) : Prop := regC a.cmd ∧ regR a.row ∧ (a.kind = 8 → 1 ≤ a.ck)
theorem regC_z {x : Cmd} (h : x.cols = []) : regC x := fun c hc => by rw [h] at hc; cases hc
theorem regR_z : regR zROp := ⟨fun h => (by cases h), fun _ => rfl⟩
set_option maxHeartbeats 2000000 in
theorem bodyP_some {f a : ByteArray} {y : Cmd} {W W' : Ws} (ha : nameB a = true) (h : bodyP f { zCmd with actor := a } W = some (y, W')) : ∃ V, cmdL y = some V ∧ regC y ∧ f :: a :: W = V ++ W' := by
  unfold bodyP at h
  have h' := ite_or h; clear h; rcases h' with ⟨e, h⟩ | ⟨-, h⟩
  · rw [eqS_iffD] at e; subst e
    simp only [Option.bind_eq_some_iff, Prod.exists, Option.some.injEq, Prod.mk.injEq] at h
    obtain ⟨s, W1, h1, rfl, rfl⟩ := h
    obtain ⟨rfl, n1⟩ := nameP_some h1
    refine ⟨[b_schema, a, s], ?_, regC_z rfl, rfl⟩
    unfold cmdL; dsimp only; rw [if_pos rfl]
    rw [nms2 ha n1]; rfl
  have h' := ite_or h; clear h; rcases h' with ⟨e, h⟩ | ⟨-, h⟩
  · rw [eqS_iffD] at e; subst e
    simp only [Option.bind_eq_some_iff, Prod.exists, Option.some.injEq, Prod.mk.injEq] at h
    obtain ⟨s, W1, h1, rfl, rfl⟩ := h
    obtain ⟨rfl, n1⟩ := nameP_some h1
    refine ⟨[b_dropschema, a, s], ?_, regC_z rfl, rfl⟩
    unfold cmdL; dsimp only; rw [if_neg (show ¬ (2 : Int) = 1 by decide), if_pos rfl]
    rw [nms2 ha n1]; rfl
  have h' := ite_or h; clear h; rcases h' with ⟨e, h⟩ | ⟨-, h⟩
  · rw [eqS_iffD] at e; subst e
    simp only [Option.bind_eq_some_iff, Prod.exists, Option.some.injEq, Prod.mk.injEq] at h
    obtain ⟨x, W1, h1, l, W2, h2, rfl, rfl⟩ := h
    obtain ⟨s, t, rfl, n1, n2, rfl⟩ := tableP_some h1
    obtain ⟨rfl, _, rfl, n3⟩ := colsP_some h2
    refine ⟨_, ?_, fun c hc => (n3 c hc).2, (List.append_nil _).symm⟩
    unfold cmdL; dsimp only; rw [if_neg (show ¬ (3 : Int) = 1 by decide), if_neg (show ¬ (3 : Int) = 2 by decide), if_pos rfl]
    rw [onTabL_of ha n1 n2, cols_all (fun c hc => (n3 c hc).1)]; rfl
  have h' := ite_or h; clear h; rcases h' with ⟨e, h⟩ | ⟨-, h⟩
  · rw [eqS_iffD] at e; subst e
    obtain ⟨s, t, rfl, n1, n2, rfl⟩ := tableP_some h
    refine ⟨[b_droptable, a, s, t], ?_, regC_z rfl, rfl⟩
    unfold cmdL; dsimp only; rw [if_neg (show ¬ (4 : Int) = 1 by decide), if_neg (show ¬ (4 : Int) = 2 by decide), if_neg (show ¬ (4 : Int) = 3 by decide), if_pos rfl]
    exact onTabL_of ha n1 n2
  have h' := ite_or h; clear h; rcases h' with ⟨e, h⟩ | ⟨-, h⟩
  · rw [eqS_iffD] at e; subst e
    simp only [Option.bind_eq_some_iff, Prod.exists, Option.some.injEq, Prod.mk.injEq] at h
    obtain ⟨x, W1, h1, l, W2, h2, rfl, rfl⟩ := h
    obtain ⟨s, t, rfl, n1, n2, rfl⟩ := tableP_some h1
    obtain ⟨rfl, n3⟩ := colP_some h2
    refine ⟨[b_column, a, s, t, colT l], ?_, fun c hc => by rw [List.mem_singleton] at hc; subst hc; exact n3.2, rfl⟩
    unfold cmdL; dsimp only; rw [if_neg (show ¬ (5 : Int) = 1 by decide), if_neg (show ¬ (5 : Int) = 2 by decide), if_neg (show ¬ (5 : Int) = 3 by decide), if_neg (show ¬ (5 : Int) = 4 by decide), if_pos rfl]
    rw [onTabL_of ha n1 n2, cols_all (l := [l]) (by simpa using n3.1)]; rfl
  have h' := ite_or h; clear h; rcases h' with ⟨e, h⟩ | ⟨-, h⟩
  · rw [eqS_iffD] at e; subst e
    simp only [Option.bind_eq_some_iff, Prod.exists, Option.some.injEq, Prod.mk.injEq] at h
    obtain ⟨x, W1, h1, c, W2, h2, rfl, rfl⟩ := h
    obtain ⟨s, t, rfl, n1, n2, rfl⟩ := tableP_some h1
    obtain ⟨rfl, n3⟩ := nameP_some h2
    refine ⟨[b_dropcolumn, a, s, t, c], ?_, regC_z rfl, rfl⟩
    unfold cmdL; dsimp only; rw [if_neg (show ¬ (6 : Int) = 1 by decide), if_neg (show ¬ (6 : Int) = 2 by decide), if_neg (show ¬ (6 : Int) = 3 by decide), if_neg (show ¬ (6 : Int) = 4 by decide), if_neg (show ¬ (6 : Int) = 5 by decide), if_pos rfl]
    rw [onTabL_of ha n1 n2, nms1 n3]; rfl
  have h' := ite_or h; clear h; rcases h' with ⟨e, h⟩ | ⟨-, h⟩
  · rw [eqS_iffD] at e; subst e
    simp only [Option.bind_eq_some_iff, Prod.exists, Option.some.injEq, Prod.mk.injEq] at h
    obtain ⟨x, W1, h1, r, W2, h2, rfl, rfl⟩ := h
    obtain ⟨s, t, rfl, n1, n2, rfl⟩ := tableP_some h1
    obtain ⟨rfl, hk, ok⟩ := ruleP_some h2
    refine ⟨b_index :: a :: s :: t :: ruleW r, ?_, regC_z rfl, rfl⟩
    unfold cmdL; dsimp only; rw [if_neg (show ¬ (7 : Int) = 1 by decide), if_neg (show ¬ (7 : Int) = 2 by decide), if_neg (show ¬ (7 : Int) = 3 by decide), if_neg (show ¬ (7 : Int) = 4 by decide), if_neg (show ¬ (7 : Int) = 5 by decide), if_neg (show ¬ (7 : Int) = 6 by decide), if_pos rfl]
    exact ruleL_of ok ha n1 n2 (by dsimp only; rw [hk]; rfl)
  have h' := ite_or h; clear h; rcases h' with ⟨e, h⟩ | ⟨-, h⟩
  · rw [eqS_iffD] at e; subst e
    simp only [Option.bind_eq_some_iff, Prod.exists, Option.some.injEq, Prod.mk.injEq] at h
    obtain ⟨x, W1, h1, r, W2, h2, rfl, rfl⟩ := h
    obtain ⟨s, t, rfl, n1, n2, rfl⟩ := tableP_some h1
    obtain ⟨rfl, hk, ok⟩ := ruleP_some h2
    refine ⟨b_key :: a :: s :: t :: ruleW r, ?_, regC_z rfl, rfl⟩
    unfold cmdL; dsimp only; rw [if_neg (show ¬ (7 : Int) = 1 by decide), if_neg (show ¬ (7 : Int) = 2 by decide), if_neg (show ¬ (7 : Int) = 3 by decide), if_neg (show ¬ (7 : Int) = 4 by decide), if_neg (show ¬ (7 : Int) = 5 by decide), if_neg (show ¬ (7 : Int) = 6 by decide), if_pos rfl]
    exact ruleL_of ok ha n1 n2 (by dsimp only; rw [hk]; rfl)
  have h' := ite_or h; clear h; rcases h' with ⟨e, h⟩ | ⟨-, h⟩
  · rw [eqS_iffD] at e; subst e
    simp only [Option.bind_eq_some_iff, Prod.exists, Option.some.injEq, Prod.mk.injEq] at h
    obtain ⟨x, W1, h1, r, W2, h2, rfl, rfl⟩ := h
    obtain ⟨s, t, rfl, n1, n2, rfl⟩ := tableP_some h1
    obtain ⟨rfl, hk, ok⟩ := ruleP_some h2
    refine ⟨b_check :: a :: s :: t :: ruleW r, ?_, regC_z rfl, rfl⟩
    unfold cmdL; dsimp only; rw [if_neg (show ¬ (7 : Int) = 1 by decide), if_neg (show ¬ (7 : Int) = 2 by decide), if_neg (show ¬ (7 : Int) = 3 by decide), if_neg (show ¬ (7 : Int) = 4 by decide), if_neg (show ¬ (7 : Int) = 5 by decide), if_neg (show ¬ (7 : Int) = 6 by decide), if_pos rfl]
    exact ruleL_of ok ha n1 n2 (by dsimp only; rw [hk]; rfl)
  have h' := ite_or h; clear h; rcases h' with ⟨e, h⟩ | ⟨-, h⟩
  · rw [eqS_iffD] at e; subst e
    simp only [Option.bind_eq_some_iff, Prod.exists, Option.some.injEq, Prod.mk.injEq] at h
    obtain ⟨x, W1, h1, r, W2, h2, rfl, rfl⟩ := h
    obtain ⟨s, t, rfl, n1, n2, rfl⟩ := tableP_some h1
    obtain ⟨rfl, hk, ok⟩ := ruleP_some h2
    refine ⟨b_foreign :: a :: s :: t :: ruleW r, ?_, regC_z rfl, rfl⟩
    unfold cmdL; dsimp only; rw [if_neg (show ¬ (7 : Int) = 1 by decide), if_neg (show ¬ (7 : Int) = 2 by decide), if_neg (show ¬ (7 : Int) = 3 by decide), if_neg (show ¬ (7 : Int) = 4 by decide), if_neg (show ¬ (7 : Int) = 5 by decide), if_neg (show ¬ (7 : Int) = 6 by decide), if_pos rfl]
    exact ruleL_of ok ha n1 n2 (by dsimp only; rw [hk]; rfl)
  have h' := ite_or h; clear h; rcases h' with ⟨e, h⟩ | ⟨-, h⟩
  · rw [eqS_iffD] at e; subst e
    simp only [Option.bind_eq_some_iff, Prod.exists, Option.some.injEq, Prod.mk.injEq] at h
    obtain ⟨x, W1, h1, c, W2, h2, rfl, rfl⟩ := h
    obtain ⟨s, t, rfl, n1, n2, rfl⟩ := tableP_some h1
    obtain ⟨rfl, n3⟩ := nameP_some h2
    refine ⟨[b_droprule, a, s, t, c], ?_, regC_z rfl, rfl⟩
    unfold cmdL; dsimp only; rw [if_neg (show ¬ (8 : Int) = 1 by decide), if_neg (show ¬ (8 : Int) = 2 by decide), if_neg (show ¬ (8 : Int) = 3 by decide), if_neg (show ¬ (8 : Int) = 4 by decide), if_neg (show ¬ (8 : Int) = 5 by decide), if_neg (show ¬ (8 : Int) = 6 by decide), if_neg (show ¬ (8 : Int) = 7 by decide), if_pos rfl]
    rw [onTabL_of ha n1 n2, nms1 n3]; rfl
  have h' := ite_or h; clear h; rcases h' with ⟨e, h⟩ | ⟨-, h⟩
  · rw [eqS_iffD] at e; subst e
    simp only [Option.bind_eq_some_iff, Prod.exists, Option.some.injEq, Prod.mk.injEq] at h
    obtain ⟨x, W1, h1, c, W2, h2, rfl, rfl⟩ := h
    obtain ⟨s, t, rfl, n1, n2, rfl⟩ := tableP_some h1
    obtain ⟨rfl, n3⟩ := nameP_some h2
    refine ⟨[b_owner, a, s, t, c], ?_, regC_z rfl, rfl⟩
    unfold cmdL; dsimp only; rw [if_neg (show ¬ (9 : Int) = 1 by decide), if_neg (show ¬ (9 : Int) = 2 by decide), if_neg (show ¬ (9 : Int) = 3 by decide), if_neg (show ¬ (9 : Int) = 4 by decide), if_neg (show ¬ (9 : Int) = 5 by decide), if_neg (show ¬ (9 : Int) = 6 by decide), if_neg (show ¬ (9 : Int) = 7 by decide), if_neg (show ¬ (9 : Int) = 8 by decide), if_pos rfl]
    rw [onTabL_of ha n1 n2, nms1 n3]; rfl
  have h' := ite_or h; clear h; rcases h' with ⟨e, h⟩ | ⟨-, h⟩
  · rw [eqS_iffD] at e; subst e
    simp only [Option.bind_eq_some_iff, Prod.exists, Option.some.injEq, Prod.mk.injEq] at h
    obtain ⟨s, W1, h1, rfl, rfl⟩ := h
    obtain ⟨rfl, n1⟩ := nameP_some h1
    refine ⟨[b_role, a, s], ?_, regC_z rfl, rfl⟩
    unfold cmdL; dsimp only; rw [if_neg (show ¬ (10 : Int) = 1 by decide), if_neg (show ¬ (10 : Int) = 2 by decide), if_neg (show ¬ (10 : Int) = 3 by decide), if_neg (show ¬ (10 : Int) = 4 by decide), if_neg (show ¬ (10 : Int) = 5 by decide), if_neg (show ¬ (10 : Int) = 6 by decide), if_neg (show ¬ (10 : Int) = 7 by decide), if_neg (show ¬ (10 : Int) = 8 by decide), if_neg (show ¬ (10 : Int) = 9 by decide), if_pos rfl]
    rw [nms2 ha n1]; rfl
  have h' := ite_or h; clear h; rcases h' with ⟨e, h⟩ | ⟨-, h⟩
  · rw [eqS_iffD] at e; subst e
    simp only [Option.bind_eq_some_iff, Prod.exists, Option.some.injEq, Prod.mk.injEq] at h
    obtain ⟨s, W1, h1, rfl, rfl⟩ := h
    obtain ⟨rfl, n1⟩ := nameP_some h1
    refine ⟨[b_droprole, a, s], ?_, regC_z rfl, rfl⟩
    unfold cmdL; dsimp only; rw [if_neg (show ¬ (11 : Int) = 1 by decide), if_neg (show ¬ (11 : Int) = 2 by decide), if_neg (show ¬ (11 : Int) = 3 by decide), if_neg (show ¬ (11 : Int) = 4 by decide), if_neg (show ¬ (11 : Int) = 5 by decide), if_neg (show ¬ (11 : Int) = 6 by decide), if_neg (show ¬ (11 : Int) = 7 by decide), if_neg (show ¬ (11 : Int) = 8 by decide), if_neg (show ¬ (11 : Int) = 9 by decide), if_neg (show ¬ (11 : Int) = 10 by decide), if_pos rfl]
    rw [nms2 ha n1]; rfl
  have h' := ite_or h; clear h; rcases h' with ⟨e, h⟩ | ⟨-, h⟩
  · rw [eqS_iffD] at e; subst e
    simp only [Option.bind_eq_some_iff, Prod.exists, Option.some.injEq, Prod.mk.injEq] at h
    obtain ⟨s, W1, h1, t, W2, h2, rfl, rfl⟩ := h
    obtain ⟨rfl, n1⟩ := nameP_some h1
    obtain ⟨rfl, n2⟩ := nameP_some h2
    refine ⟨[b_member, a, s, t], ?_, regC_z rfl, rfl⟩
    unfold cmdL; dsimp only; rw [if_neg (show ¬ (12 : Int) = 1 by decide), if_neg (show ¬ (12 : Int) = 2 by decide), if_neg (show ¬ (12 : Int) = 3 by decide), if_neg (show ¬ (12 : Int) = 4 by decide), if_neg (show ¬ (12 : Int) = 5 by decide), if_neg (show ¬ (12 : Int) = 6 by decide), if_neg (show ¬ (12 : Int) = 7 by decide), if_neg (show ¬ (12 : Int) = 8 by decide), if_neg (show ¬ (12 : Int) = 9 by decide), if_neg (show ¬ (12 : Int) = 10 by decide), if_neg (show ¬ (12 : Int) = 11 by decide), if_pos rfl]
    rw [nms3 ha n1 n2]; rfl
  have h' := ite_or h; clear h; rcases h' with ⟨e, h⟩ | ⟨-, h⟩
  · rw [eqS_iffD] at e; subst e
    simp only [Option.bind_eq_some_iff, Prod.exists, Option.some.injEq, Prod.mk.injEq] at h
    obtain ⟨s, W1, h1, t, W2, h2, rfl, rfl⟩ := h
    obtain ⟨rfl, n1⟩ := nameP_some h1
    obtain ⟨rfl, n2⟩ := nameP_some h2
    refine ⟨[b_unmember, a, s, t], ?_, regC_z rfl, rfl⟩
    unfold cmdL; dsimp only; rw [if_neg (show ¬ (13 : Int) = 1 by decide), if_neg (show ¬ (13 : Int) = 2 by decide), if_neg (show ¬ (13 : Int) = 3 by decide), if_neg (show ¬ (13 : Int) = 4 by decide), if_neg (show ¬ (13 : Int) = 5 by decide), if_neg (show ¬ (13 : Int) = 6 by decide), if_neg (show ¬ (13 : Int) = 7 by decide), if_neg (show ¬ (13 : Int) = 8 by decide), if_neg (show ¬ (13 : Int) = 9 by decide), if_neg (show ¬ (13 : Int) = 10 by decide), if_neg (show ¬ (13 : Int) = 11 by decide), if_neg (show ¬ (13 : Int) = 12 by decide), if_pos rfl]
    rw [nms3 ha n1 n2]; rfl
  have h' := ite_or h; clear h; rcases h' with ⟨e, h⟩ | ⟨-, h⟩
  · rw [eqS_iffD] at e; subst e
    simp only [Option.bind_eq_some_iff, Prod.exists, Option.some.injEq, Prod.mk.injEq] at h
    obtain ⟨x, W1, h1, y1, W2, h2, h⟩ := h
    obtain ⟨s, t, rfl, n1, n2, rfl⟩ := tableP_some h1
    obtain ⟨r, q, rfl, n3, hr, rfl⟩ := rightP_some h2
    have e1 : (if r = 1 then some [b_read] else some [b_write]) = some [if r = 1 then b_read else b_write] := by split <;> rfl
    cases W2 with
    | nil =>
      cases h
      refine ⟨[b_grant, a, s, t, if r = 1 then b_read else b_write, q], ?_, regC_z rfl, rfl⟩
      unfold cmdL; dsimp only; rw [if_neg (show ¬ (14 : Int) = 1 by decide), if_neg (show ¬ (14 : Int) = 2 by decide), if_neg (show ¬ (14 : Int) = 3 by decide), if_neg (show ¬ (14 : Int) = 4 by decide), if_neg (show ¬ (14 : Int) = 5 by decide), if_neg (show ¬ (14 : Int) = 6 by decide), if_neg (show ¬ (14 : Int) = 7 by decide), if_neg (show ¬ (14 : Int) = 8 by decide), if_neg (show ¬ (14 : Int) = 9 by decide), if_neg (show ¬ (14 : Int) = 10 by decide), if_neg (show ¬ (14 : Int) = 11 by decide), if_neg (show ¬ (14 : Int) = 12 by decide), if_neg (show ¬ (14 : Int) = 13 by decide), if_pos rfl]
      rw [onTabL_of ha n1 n2]; unfold rightL; rw [nms1 n3]; rfl
    | cons v W2 =>
      simp only [optP] at h
      split at h
      · rename_i e; rw [eqS_iffD] at e; subst e
        cases h
        refine ⟨[b_grant, a, s, t, if r = 1 then b_read else b_write, q, b_option], ?_, regC_z rfl, rfl⟩
        unfold cmdL; dsimp only; rw [if_neg (show ¬ (14 : Int) = 1 by decide), if_neg (show ¬ (14 : Int) = 2 by decide), if_neg (show ¬ (14 : Int) = 3 by decide), if_neg (show ¬ (14 : Int) = 4 by decide), if_neg (show ¬ (14 : Int) = 5 by decide), if_neg (show ¬ (14 : Int) = 6 by decide), if_neg (show ¬ (14 : Int) = 7 by decide), if_neg (show ¬ (14 : Int) = 8 by decide), if_neg (show ¬ (14 : Int) = 9 by decide), if_neg (show ¬ (14 : Int) = 10 by decide), if_neg (show ¬ (14 : Int) = 11 by decide), if_neg (show ¬ (14 : Int) = 12 by decide), if_neg (show ¬ (14 : Int) = 13 by decide), if_pos rfl]
        rw [onTabL_of ha n1 n2]; unfold rightL; rw [nms1 n3]; rfl
      · cases h
  have h' := ite_or h; clear h; rcases h' with ⟨e, h⟩ | ⟨-, h⟩
  · rw [eqS_iffD] at e; subst e
    simp only [Option.bind_eq_some_iff, Prod.exists] at h
    obtain ⟨x, W1, h1, h2⟩ := h
    obtain ⟨s, t, rfl, n1, n2, rfl⟩ := tableP_some h1
    obtain ⟨r, q, rfl, n3, hr, rfl⟩ := rightP_some h2
    refine ⟨[b_revoke, a, s, t, if r = 1 then b_read else b_write, q], ?_, regC_z rfl, rfl⟩
    unfold cmdL; dsimp only; rw [if_neg (show ¬ (15 : Int) = 1 by decide), if_neg (show ¬ (15 : Int) = 2 by decide), if_neg (show ¬ (15 : Int) = 3 by decide), if_neg (show ¬ (15 : Int) = 4 by decide), if_neg (show ¬ (15 : Int) = 5 by decide), if_neg (show ¬ (15 : Int) = 6 by decide), if_neg (show ¬ (15 : Int) = 7 by decide), if_neg (show ¬ (15 : Int) = 8 by decide), if_neg (show ¬ (15 : Int) = 9 by decide), if_neg (show ¬ (15 : Int) = 10 by decide), if_neg (show ¬ (15 : Int) = 11 by decide), if_neg (show ¬ (15 : Int) = 12 by decide), if_neg (show ¬ (15 : Int) = 13 by decide), if_neg (show ¬ (15 : Int) = 14 by decide), if_pos rfl]
    rw [onTabL_of ha n1 n2]; unfold rightL; rw [nms1 n3]; rfl
  cases h
theorem cmdP_some {y : Cmd} {W W' : Ws} (h : cmdP W = some (y, W')) : ∃ V, cmdL y = some V ∧ regC y ∧ W = V ++ W' := by
  unfold cmdP at h
  simp only [Option.bind_eq_some_iff, Prod.exists] at h
  obtain ⟨f, W1, h1, a, W2, h2, h⟩ := h
  obtain rfl := wordP_some h1
  obtain ⟨rfl, n1⟩ := nameP_some h2
  exact bodyP_some n1 h
theorem rowP_some {y : ROp} {W W' : Ws} (h : rowP W = some (y, W')) : ∃ V, rowL y = some V ∧ regR y ∧ W = V ++ W' := by
  unfold rowP at h
  rw [Option.bind_eq_some_iff] at h
  obtain ⟨⟨f, W1⟩, h1, h⟩ := h
  obtain rfl := wordP_some h1
  simp only [Option.bind_eq_some_iff, Prod.exists] at h
  obtain ⟨r, W2, h2, s, W3, h3, t, W4, h4, h⟩ := h
  obtain ⟨rfl, n2⟩ := nameP_some h2
  obtain ⟨rfl, n3⟩ := nameP_some h3
  obtain ⟨rfl, n4⟩ := nameP_some h4
  have hne : ∀ c : ByteArray, nameB c = true → eqS c zBy = false := by
    intro c hc
    cases hq : eqS c zBy with
    | false => rfl
    | true =>
      rw [eqS_iffD] at hq
      subst hq
      rw [show nameB zBy = false by decide] at hc
      cases hc
  split at h
  · rename_i e
    rw [eqS_iffD] at e; subst e
    simp only [Option.bind_eq_some_iff, Prod.exists, Option.some.injEq, Prod.mk.injEq] at h
    obtain ⟨l, W5, h5, rfl, rfl⟩ := h
    obtain ⟨rfl, _, rfl, n5⟩ := valsP_some h5
    refine ⟨_, ?_, ⟨fun h => (by cases h), fun h => absurd rfl h⟩, (List.append_nil _).symm⟩
    unfold rowL; dsimp only; rw [nms3 n2 n3 n4, vals_all (fun v hv => (n5 v hv).1)]
    rfl
  · split at h
    · rename_i e
      rw [eqS_iffD] at e; subst e
      simp only [Option.bind_eq_some_iff, Prod.exists, Option.some.injEq, Prod.mk.injEq] at h
      obtain ⟨c, W5, h5, v, W6, h6, rfl, rfl⟩ := h
      obtain ⟨rfl, n5⟩ := nameP_some h5
      obtain ⟨rfl, n6, _⟩ := valP_some h6
      refine ⟨[b_remove, r, s, t, c, valT v], ?_, ⟨fun _ => hne c n5, fun _ => rfl⟩, rfl⟩
      unfold rowL; dsimp only; rw [nms3 n2 n3 n4, vals_all (l := [v]) (by simpa using n6), vals_all (l := []) (by simp), nms1 n5]
      rw [if_neg (show ¬ (2 : Int) = 1 by decide), if_pos rfl, if_pos ⟨by decide, hne c n5⟩]
      rfl
    · split at h
      · rename_i e
        rw [eqS_iffD] at e; subst e
        split at h
        · rename_i e
          subst e
          simp only [Option.some.injEq, Prod.mk.injEq] at h
          obtain ⟨rfl, rfl⟩ := h
          refine ⟨[b_select, r, s, t], ?_, ⟨fun h => (by cases h), fun _ => rfl⟩, rfl⟩
          unfold rowL; dsimp only; rw [nms3 n2 n3 n4, vals_all (l := []) (by simp)]
          rw [if_neg (show ¬ (3 : Int) = 1 by decide), if_neg (show ¬ (3 : Int) = 2 by decide), if_neg (by rintro ⟨_, h⟩; rw [(eqS_iffD zBy zBy).2 rfl] at h; cases h)]
          rfl
        · simp only [Option.bind_eq_some_iff, Prod.exists, Option.some.injEq, Prod.mk.injEq] at h
          obtain ⟨c, W5, h5, v, W6, h6, rfl, rfl⟩ := h
          obtain ⟨rfl, n5⟩ := nameP_some h5
          obtain ⟨rfl, n6, _⟩ := valP_some h6
          refine ⟨[b_select, r, s, t, c, valT v], ?_, ⟨fun h => (by cases h), fun _ => rfl⟩, rfl⟩
          unfold rowL; dsimp only; rw [nms3 n2 n3 n4, vals_all (l := [v]) (by simpa using n6), vals_all (l := []) (by simp), nms1 n5]
          rw [if_neg (show ¬ (3 : Int) = 1 by decide), if_neg (show ¬ (3 : Int) = 2 by decide), if_pos ⟨by decide, hne c n5⟩]
          rfl
      · cases h
theorem chgP_some {k : Int} {y : Dact} {W W' : Ws} (h : chgP k W = some (y, W')) : ∃ n m, y = { zAct with kind := 8, node := n, ck := k, cn := m } ∧ inN n = true ∧ inN m = true ∧ W = itoaB n :: itoaB m :: W' := by
  unfold chgP at h
  simp only [Option.bind_eq_some_iff, Prod.exists, Option.some.injEq, Prod.mk.injEq] at h
  obtain ⟨n, W1, h1, m, W2, h2, rfl, rfl⟩ := h
  obtain ⟨rfl, n1⟩ := numP_some h1
  obtain ⟨rfl, n2⟩ := numP_some h2
  exact ⟨n, m, rfl, n1, n2, rfl⟩
theorem threeP_some {k : Int} {y : Dact} {W W' : Ws} (h : threeP k W = some (y, W')) : ∃ a b c, y = { zAct with kind := k, node := a, client := b, number := c } ∧ inN a = true ∧ inN b = true ∧ inN c = true ∧ W = itoaB a :: itoaB b :: itoaB c :: W' := by
  unfold threeP at h
  simp only [Option.bind_eq_some_iff, Prod.exists, Option.some.injEq, Prod.mk.injEq] at h
  obtain ⟨n, W1, h1, m, W2, h2, q, W3, h3, rfl, rfl⟩ := h
  obtain ⟨rfl, n1⟩ := numP_some h1
  obtain ⟨rfl, n2⟩ := numP_some h2
  obtain ⟨rfl, n3⟩ := numP_some h3
  exact ⟨n, m, q, rfl, n1, n2, n3, rfl⟩
theorem actP_some {y : Dact} {W W' : Ws} (h : actP W = some (y, W')) : ∃ V, actL y = some V ∧ regA y ∧ W = V ++ W' := by
  unfold actP at h
  rw [Option.bind_eq_some_iff] at h
  obtain ⟨⟨f, W1⟩, h1, h⟩ := h
  obtain rfl := wordP_some h1
  simp only at h
  have h' := ite_or h; clear h; rcases h' with ⟨e, h⟩ | ⟨-, h⟩
  · rw [eqS_iffD] at e; subst e
    simp only [Option.bind_eq_some_iff, Prod.exists, Option.some.injEq, Prod.mk.injEq] at h
    obtain ⟨n, W2, h2, rfl, rfl⟩ := h
    obtain ⟨rfl, n1⟩ := numP_some h2
    refine ⟨[b_tick, itoaB n], ?_, ⟨regC_z rfl, regR_z, fun h => by cases h⟩, rfl⟩
    unfold actL; dsimp only; rw [if_pos rfl]
    rw [nus1 n1]; rfl
  have h' := ite_or h; clear h; rcases h' with ⟨e, h⟩ | ⟨-, h⟩
  · rw [eqS_iffD] at e; subst e
    cases h
    refine ⟨[b_world], ?_, ⟨regC_z rfl, regR_z, fun h => by cases h⟩, rfl⟩
    unfold actL; dsimp only; rw [if_neg (show ¬ (2 : Int) = 1 by decide), if_pos rfl]
  have h' := ite_or h; clear h; rcases h' with ⟨e, h⟩ | ⟨-, h⟩
  · rw [eqS_iffD] at e; subst e
    simp only [Option.bind_eq_some_iff, Prod.exists, Option.some.injEq, Prod.mk.injEq] at h
    obtain ⟨n, W2, h2, rfl, rfl⟩ := h
    obtain ⟨rfl, n1⟩ := numP_some h2
    refine ⟨[b_start, itoaB n], ?_, ⟨regC_z rfl, regR_z, fun h => by cases h⟩, rfl⟩
    unfold actL; dsimp only; rw [if_neg (show ¬ (12 : Int) = 1 by decide), if_neg (show ¬ (12 : Int) = 2 by decide), if_pos rfl]
    rw [nus1 n1]; rfl
  have h' := ite_or h; clear h; rcases h' with ⟨e, h⟩ | ⟨-, h⟩
  · rw [eqS_iffD] at e; subst e
    simp only [Option.bind_eq_some_iff, Prod.exists, Option.some.injEq, Prod.mk.injEq] at h
    obtain ⟨n, W2, h2, rfl, rfl⟩ := h
    obtain ⟨rfl, n1⟩ := numP_some h2
    refine ⟨[b_deliver, itoaB n], ?_, ⟨regC_z rfl, regR_z, fun h => by cases h⟩, rfl⟩
    unfold actL; dsimp only; rw [if_neg (show ¬ (3 : Int) = 1 by decide), if_neg (show ¬ (3 : Int) = 2 by decide), if_neg (show ¬ (3 : Int) = 12 by decide), if_pos rfl]
    rw [nus1 n1]; rfl
  have h' := ite_or h; clear h; rcases h' with ⟨e, h⟩ | ⟨-, h⟩
  · rw [eqS_iffD] at e; subst e
    simp only [Option.bind_eq_some_iff, Prod.exists, Option.some.injEq, Prod.mk.injEq] at h
    obtain ⟨n, W2, h2, rfl, rfl⟩ := h
    obtain ⟨rfl, n1⟩ := numP_some h2
    refine ⟨[b_drop, itoaB n], ?_, ⟨regC_z rfl, regR_z, fun h => by cases h⟩, rfl⟩
    unfold actL; dsimp only; rw [if_neg (show ¬ (4 : Int) = 1 by decide), if_neg (show ¬ (4 : Int) = 2 by decide), if_neg (show ¬ (4 : Int) = 12 by decide), if_neg (show ¬ (4 : Int) = 3 by decide), if_pos rfl]
    rw [nus1 n1]; rfl
  have h' := ite_or h; clear h; rcases h' with ⟨e, h⟩ | ⟨-, h⟩
  · rw [eqS_iffD] at e; subst e
    simp only [Option.bind_eq_some_iff, Prod.exists, Option.some.injEq, Prod.mk.injEq] at h
    obtain ⟨n, W2, h2, rfl, rfl⟩ := h
    obtain ⟨rfl, n1⟩ := numP_some h2
    refine ⟨[b_double, itoaB n], ?_, ⟨regC_z rfl, regR_z, fun h => by cases h⟩, rfl⟩
    unfold actL; dsimp only; rw [if_neg (show ¬ (5 : Int) = 1 by decide), if_neg (show ¬ (5 : Int) = 2 by decide), if_neg (show ¬ (5 : Int) = 12 by decide), if_neg (show ¬ (5 : Int) = 3 by decide), if_neg (show ¬ (5 : Int) = 4 by decide), if_pos rfl]
    rw [nus1 n1]; rfl
  have h' := ite_or h; clear h; rcases h' with ⟨e, h⟩ | ⟨-, h⟩
  · rw [eqS_iffD] at e; subst e
    simp only [Option.bind_eq_some_iff, Prod.exists, Option.some.injEq, Prod.mk.injEq] at h
    obtain ⟨a, W2, h2, x, W3, h3, rfl, rfl⟩ := h
    obtain ⟨n, m, q, rfl, n1, n2, n3, rfl⟩ := threeP_some h2
    obtain ⟨V, h4, g4, rfl⟩ := cmdP_some h3
    refine ⟨b_ask :: itoaB n :: itoaB m :: itoaB q :: V, ?_, ⟨g4, regR_z, fun h => by cases h⟩, rfl⟩
    unfold actL; dsimp only; rw [if_neg (show ¬ (6 : Int) = 1 by decide), if_neg (show ¬ (6 : Int) = 2 by decide), if_neg (show ¬ (6 : Int) = 12 by decide), if_neg (show ¬ (6 : Int) = 3 by decide), if_neg (show ¬ (6 : Int) = 4 by decide), if_neg (show ¬ (6 : Int) = 5 by decide), if_pos rfl]
    rw [nus3 n1 n2 n3, h4]; rfl
  have h' := ite_or h; clear h; rcases h' with ⟨e, h⟩ | ⟨-, h⟩
  · rw [eqS_iffD] at e; subst e
    obtain ⟨n, m, q, rfl, n1, n2, n3, rfl⟩ := threeP_some h
    refine ⟨[b_read, itoaB n, itoaB m, itoaB q], ?_, ⟨regC_z rfl, regR_z, fun h => by cases h⟩, rfl⟩
    unfold actL; dsimp only; rw [if_neg (show ¬ (7 : Int) = 1 by decide), if_neg (show ¬ (7 : Int) = 2 by decide), if_neg (show ¬ (7 : Int) = 12 by decide), if_neg (show ¬ (7 : Int) = 3 by decide), if_neg (show ¬ (7 : Int) = 4 by decide), if_neg (show ¬ (7 : Int) = 5 by decide), if_neg (show ¬ (7 : Int) = 6 by decide), if_pos rfl]
    rw [nus3 n1 n2 n3]; rfl
  have h' := ite_or h; clear h; rcases h' with ⟨e, h⟩ | ⟨-, h⟩
  · rw [eqS_iffD] at e; subst e
    obtain ⟨n, m, rfl, n1, n2, rfl⟩ := chgP_some h
    refine ⟨[b_learner, itoaB n, itoaB m], ?_, ⟨regC_z rfl, regR_z, fun _ => (show (1 : Int) ≤ 1 by decide)⟩, rfl⟩
    unfold actL; dsimp only; rw [if_neg (show ¬ (8 : Int) = 1 by decide), if_neg (show ¬ (8 : Int) = 2 by decide), if_neg (show ¬ (8 : Int) = 12 by decide), if_neg (show ¬ (8 : Int) = 3 by decide), if_neg (show ¬ (8 : Int) = 4 by decide), if_neg (show ¬ (8 : Int) = 5 by decide), if_neg (show ¬ (8 : Int) = 6 by decide), if_neg (show ¬ (8 : Int) = 7 by decide), if_pos rfl]
    rw [nus2 n1 n2]; rfl
  have h' := ite_or h; clear h; rcases h' with ⟨e, h⟩ | ⟨-, h⟩
  · rw [eqS_iffD] at e; subst e
    obtain ⟨n, m, rfl, n1, n2, rfl⟩ := chgP_some h
    refine ⟨[b_voter, itoaB n, itoaB m], ?_, ⟨regC_z rfl, regR_z, fun _ => (show (1 : Int) ≤ 2 by decide)⟩, rfl⟩
    unfold actL; dsimp only; rw [if_neg (show ¬ (8 : Int) = 1 by decide), if_neg (show ¬ (8 : Int) = 2 by decide), if_neg (show ¬ (8 : Int) = 12 by decide), if_neg (show ¬ (8 : Int) = 3 by decide), if_neg (show ¬ (8 : Int) = 4 by decide), if_neg (show ¬ (8 : Int) = 5 by decide), if_neg (show ¬ (8 : Int) = 6 by decide), if_neg (show ¬ (8 : Int) = 7 by decide), if_pos rfl]
    rw [nus2 n1 n2]; rfl
  have h' := ite_or h; clear h; rcases h' with ⟨e, h⟩ | ⟨-, h⟩
  · rw [eqS_iffD] at e; subst e
    obtain ⟨n, m, rfl, n1, n2, rfl⟩ := chgP_some h
    refine ⟨[b_remove, itoaB n, itoaB m], ?_, ⟨regC_z rfl, regR_z, fun _ => (show (1 : Int) ≤ 3 by decide)⟩, rfl⟩
    unfold actL; dsimp only; rw [if_neg (show ¬ (8 : Int) = 1 by decide), if_neg (show ¬ (8 : Int) = 2 by decide), if_neg (show ¬ (8 : Int) = 12 by decide), if_neg (show ¬ (8 : Int) = 3 by decide), if_neg (show ¬ (8 : Int) = 4 by decide), if_neg (show ¬ (8 : Int) = 5 by decide), if_neg (show ¬ (8 : Int) = 6 by decide), if_neg (show ¬ (8 : Int) = 7 by decide), if_pos rfl]
    rw [nus2 n1 n2]; rfl
  have h' := ite_or h; clear h; rcases h' with ⟨e, h⟩ | ⟨-, h⟩
  · rw [eqS_iffD] at e; subst e
    simp only [Option.bind_eq_some_iff, Prod.exists, Option.some.injEq, Prod.mk.injEq] at h
    obtain ⟨n, W2, h2, m, W3, h3, rfl, rfl⟩ := h
    obtain ⟨rfl, n1⟩ := numP_some h2
    obtain ⟨rfl, n2⟩ := numP_some h3
    refine ⟨[b_lease, itoaB n, itoaB m], ?_, ⟨regC_z rfl, regR_z, fun h => by cases h⟩, rfl⟩
    unfold actL; dsimp only; rw [if_neg (show ¬ (9 : Int) = 1 by decide), if_neg (show ¬ (9 : Int) = 2 by decide), if_neg (show ¬ (9 : Int) = 12 by decide), if_neg (show ¬ (9 : Int) = 3 by decide), if_neg (show ¬ (9 : Int) = 4 by decide), if_neg (show ¬ (9 : Int) = 5 by decide), if_neg (show ¬ (9 : Int) = 6 by decide), if_neg (show ¬ (9 : Int) = 7 by decide), if_neg (show ¬ (9 : Int) = 8 by decide), if_pos rfl]
    rw [nus2 n1 n2]; rfl
  have h' := ite_or h; clear h; rcases h' with ⟨e, h⟩ | ⟨-, h⟩
  · rw [eqS_iffD] at e; subst e
    simp only [Option.bind_eq_some_iff, Prod.exists, Option.some.injEq, Prod.mk.injEq] at h
    obtain ⟨n, W2, h2, x, W3, h3, rfl, rfl⟩ := h
    obtain ⟨rfl, n1⟩ := numP_some h2
    obtain ⟨V, h4, g4, rfl⟩ := rowP_some h3
    refine ⟨b_row :: itoaB n :: V, ?_, ⟨regC_z rfl, g4, fun h => by cases h⟩, rfl⟩
    unfold actL; dsimp only; rw [if_neg (show ¬ (10 : Int) = 1 by decide), if_neg (show ¬ (10 : Int) = 2 by decide), if_neg (show ¬ (10 : Int) = 12 by decide), if_neg (show ¬ (10 : Int) = 3 by decide), if_neg (show ¬ (10 : Int) = 4 by decide), if_neg (show ¬ (10 : Int) = 5 by decide), if_neg (show ¬ (10 : Int) = 6 by decide), if_neg (show ¬ (10 : Int) = 7 by decide), if_neg (show ¬ (10 : Int) = 8 by decide), if_neg (show ¬ (10 : Int) = 9 by decide), if_pos rfl]
    rw [nus1 n1, h4]; rfl
  have h' := ite_or h; clear h; rcases h' with ⟨e, h⟩ | ⟨-, h⟩
  · rw [eqS_iffD] at e; subst e
    simp only [Option.bind_eq_some_iff, Prod.exists, Option.some.injEq, Prod.mk.injEq] at h
    obtain ⟨n, W2, h2, m, W3, h3, rfl, rfl⟩ := h
    obtain ⟨rfl, n1⟩ := numP_some h2
    obtain ⟨rfl, n2⟩ := numP_some h3
    refine ⟨[b_crash, itoaB n, itoaB m], ?_, ⟨regC_z rfl, regR_z, fun h => by cases h⟩, rfl⟩
    unfold actL; dsimp only; rw [if_neg (show ¬ (11 : Int) = 1 by decide), if_neg (show ¬ (11 : Int) = 2 by decide), if_neg (show ¬ (11 : Int) = 12 by decide), if_neg (show ¬ (11 : Int) = 3 by decide), if_neg (show ¬ (11 : Int) = 4 by decide), if_neg (show ¬ (11 : Int) = 5 by decide), if_neg (show ¬ (11 : Int) = 6 by decide), if_neg (show ¬ (11 : Int) = 7 by decide), if_neg (show ¬ (11 : Int) = 8 by decide), if_neg (show ¬ (11 : Int) = 9 by decide), if_neg (show ¬ (11 : Int) = 10 by decide), if_pos rfl]
    rw [nus2 n1 n2]; rfl
  cases h
theorem parseW_some {a : Dact} {W : Ws} (h : parseW W = some a) : actL a = some W ∧ regA a := by
  unfold parseW at h
  simp only [Option.bind_eq_some_iff, Prod.exists] at h
  obtain ⟨b, W1, h1, h⟩ := h
  split at h
  · rename_i e
    subst e
    cases h
    obtain ⟨V, h2, g2, rfl⟩ := actP_some h1
    rw [h2, List.append_nil]
    exact ⟨rfl, g2⟩
  · cases h
theorem words_line (s : ByteArray) : lineB (wordsB s) = s := by
  unfold lineB wordsB
  rw [List.map_map]
  have : (fun b : ByteArray => b.data.toList) ∘ wd = id := by funext l; exact wd_data l
  rw [this, List.map_id, join_cut, wd_of]
theorem laid_of_parse {s : ByteArray} {a : Dact} (h : parseB s = some a) : laidB a = some s := by
  unfold parseB at h
  split at h
  · unfold laidB; rw [(parseW_some h).1, Option.map_some, words_line]
  · cases h
end Go.Proofs.YtbdanlipghhgpaaGreatDoor

namespace Go.Proofs.YtbdanlipghhgpaaGreatDoor
open Go.RowKit
theorem results_cell {fn : Func} {a : Tmp} {t : TypeId} (h : fn.results = #[.cell a t]) (tmps : Array Value) {P : Program} {w : World} {p : Addr} {v : Value} (ha : tmps.getD a undef = .pointer (some p)) (hl : (loadVar t p).run P w = .ok v w) :
    (results fn tmps).run P w = .ok v w := by
  rw [Array.getD_eq_getD_getElem?] at ha
  simp [results, h, ha, asAddr, hl]
end Go.Proofs.YtbdanlipghhgpaaGreatDoor

namespace Go.Proofs.YtbdanlipghhgpaaGreatDoor
open Go.RowKit
set_option linter.unusedVariables false
theorem Aft.cell_kept {w w' : World} (h : Aft w w') {a : Addr} {v : Value} (hc : w.cell? a = some v) : w'.cell? a = some v := (Below.cell h (World.block_lt_of_cell? w a hc)).trans hc
def RowAt (w : World) (g : Nat) (xs : List Value) : Prop := g < w.heap.size ∧ (∀ j, j < xs.length → w.cell? ⟨g, j, none⟩ = xs[j]?) ∧ ∀ j, j < xs.length → w.frozen? ⟨g, j, none⟩ = false
theorem RowAt.aft {w w' : World} {g : Nat} {xs : List Value} (h : RowAt w g xs) (a : Aft w w') : RowAt w' g xs :=
  ⟨Nat.lt_of_lt_of_le h.1 a.size, fun j hj => (Below.cell a (p := ⟨g, j, none⟩) h.1).trans (h.2.1 j hj), fun j hj => (Below.frozen a (p := ⟨g, j, none⟩) h.1).trans (h.2.2 j hj)⟩
theorem RowAt.cell {w : World} {g : Nat} {xs : List Value} (h : RowAt w g xs) {j : Nat} {v : Value} (hj : xs[j]? = some v) : w.cell? ⟨g, j, none⟩ = some v :=
  (h.2.1 j (List.getElem?_eq_some_iff.1 hj).1).trans hj
theorem RowAt.set {w : World} {g : Nat} {xs : List Value} (h : RowAt w g xs) (j : Nat) (v : Value) (hj : j < xs.length) : RowAt (w.setCell ⟨g, j, none⟩ v) g (xs.set j v) := by
  have hc : w.cell? ⟨g, j, none⟩ = some xs[j] := (h.2.1 j hj).trans (List.getElem?_eq_getElem hj)
  refine ⟨by simpa using h.1, fun k hk => ?_, fun k hk => ?_⟩
  · rw [List.length_set] at hk
    by_cases e : k = j
    · subst e
      rw [World.cell?_setCell_same (h := hc), List.getElem?_set_self hj]
    · rw [World.cell?_setCell_other (h := by intro e2; injection e2 with _ e3 _; exact e e3.symm), List.getElem?_set_ne (fun e2 => e e2.symm)]
      exact h.2.1 k hk
  · rw [List.length_set] at hk
    rw [World.frozen?_setCell]; exact h.2.2 k hk
def RowV (w : World) (base : Nat) (v : Value) (n : Nat) (xs : List Value) : Prop := ∃ A cap, v = .slice A n cap ∧ n ≤ cap ∧ (0 < n → ∃ g, A = some ⟨g, 0, none⟩ ∧ base ≤ g ∧ RowAt w g xs)
theorem own_rowV {w : World} {base size n : Nat} {e : TypeId} {v : Value} {xs : List Value} (h : w.ownsRow base e size v n xs) : RowV w base v n xs := by
  rcases h.2 with ⟨rfl, hn⟩ | ⟨g, cap, cur, rfl, hb, hgg, hnc, _, hcs, htk⟩
  · exact ⟨none, 0, by rw [hn], by omega, fun h0 => by omega⟩
  · refine ⟨_, cap, rfl, hnc, fun _ => ⟨g, rfl, hb, (Array.getElem?_eq_some_iff.1 hgg).1, fun j hj => ?_, fun j _ => ?_⟩⟩
    · rw [h.1] at hj
      rw [← htk, List.getElem?_take_of_lt hj]
      simp [World.cell?, hgg]
    · simp [World.frozen?, hgg]

section
variable {α : Type} {size : Nat} {R : World → List Value → α → Prop} {w w' : World}
theorem flat_len : ∀ (css : List (List Value)), (∀ c ∈ css, c.length = size) → css.flatten.length = css.length * size
  | [], _ => by simp
  | c :: css, h => by
    rw [List.flatten_cons, List.length_append, h c (by simp), flat_len css fun x hx => h x (by simp [hx]), List.length_cons, Nat.succ_mul]; omega
theorem flat_get : ∀ (css : List (List Value)), (∀ c ∈ css, c.length = size) → ∀ i j (hi : i < css.length), j < size → css.flatten[i * size + j]? = css[i][j]?
  | [], _, i, j, hi, _ => by simp at hi
  | c :: css, h, 0, j, _, hj => by
    rw [List.flatten_cons, Nat.zero_mul, Nat.zero_add, List.getElem?_append_left (by rw [h c (by simp)]; exact hj)]; rfl
  | c :: css, h, i + 1, j, hi, hj => by
    have e : (i + 1) * size + j = size + (i * size + j) := by rw [Nat.succ_mul]; omega
    rw [List.flatten_cons, e, List.getElem?_append_right (by rw [h c (by simp)]; omega), h c (by simp), Nat.add_sub_cancel_left]
    exact flat_get css (fun x hx => h x (by simp [hx])) i j (by simpa using hi) hj
def Chunks (w : World) (size : Nat) (R : World → List Value → α → Prop) (css : List (List Value)) (l : List α) : Prop := css.length = l.length ∧ ∀ i (h : i < css.length) (h' : i < l.length), css[i].length = size ∧ R w css[i] l[i]
theorem Chunks.all {css : List (List Value)} {l : List α} (h : Chunks w size R css l) : ∀ c ∈ css, c.length = size := by
  intro c hc
  obtain ⟨i, hi, rfl⟩ := List.getElem_of_mem hc
  exact (h.2 i hi (by rw [← h.1]; exact hi)).1
theorem Chunks.len {css : List (List Value)} {l : List α} (h : Chunks w size R css l) : css.flatten.length = l.length * size := by rw [flat_len css h.all, h.1]
theorem row_slAt {g cap : Nat} {css : List (List Value)} {l : List α} (hr : RowAt w g css.flatten) (hc : Chunks w size R css l) (hcap : l.length ≤ cap) (hs : Small (l.length * 16)) : SlAt w size R (some ⟨g, 0, none⟩) cap l := by
  refine ⟨hcap, hs, fun i hi => ?_⟩
  have hi' : i < css.length := by rw [hc.1]; exact hi
  refine ⟨g, 0, css[i], rfl, hr.1, (hc.2 i hi' hi).1, (hc.2 i hi' hi).2, fun j hj => ?_⟩
  rw [Nat.zero_add, ← flat_get css hc.all i j hi' hj]
  refine hr.2.1 _ ?_
  rw [hc.len]
  have : (i + 1) * size ≤ l.length * size := Nat.mul_le_mul_right _ hi
  rw [Nat.succ_mul] at this; omega
theorem rowV_slAt {base : Nat} {v : Value} {css : List (List Value)} {l : List α} (h : RowV w base v l.length css.flatten) (hc : Chunks w size R css l) (hs : Small (l.length * 16)) : ∃ A cap, v = .slice A l.length cap ∧ SlAt w size R A cap l := by
  obtain ⟨A, cap, e, hcap, hg⟩ := h
  by_cases h0 : 0 < l.length
  · obtain ⟨g, rfl, _, hr⟩ := hg h0
    exact ⟨_, cap, e, row_slAt hr hc hcap hs⟩
  · have : l = [] := List.eq_nil_of_length_eq_zero (by omega)
    subst this
    exact ⟨A, cap, e, hcap, hs, fun i hi => by simp at hi⟩
end
end Go.Proofs.YtbdanlipghhgpaaGreatDoor

namespace Go.Proofs.YtbdanlipghhgpaaGreatDoor
open Go.RowKit
set_option maxRecDepth 100000
set_option linter.unusedVariables false
def SameQ (w : World) (p : Prop) (e : Ending) (w' : World) : Prop := Aft w w' ∧ ∃ r, e = .returned (.bool r) ∧ (r = true ↔ p)
theorem SameQ.no {w w' : World} {p : Prop} (h : ¬ p) (a : Aft w w') : SameQ w p (.returned (.bool false)) w' := ⟨a, false, rfl, fun e => (by cases e), fun e => absurd e h⟩
theorem SameQ.yes {w w' : World} {p : Prop} (h : p) (a : Aft w w') : SameQ w p (.returned (.bool true)) w' := ⟨a, true, rfl, fun _ => h, fun _ => rfl⟩
theorem eqL_iff (a b : ByteArray) : (a.toList == b.toList) = true ↔ a = b := eqS_iffD a b
theorem eqL_no {a b : ByteArray} (h : (a.toList == b.toList) = false) : ¬ a = b := fun e => by rw [(eqL_iff a b).2 e] at h; cases h
theorem eqI_no {a b : Int} (h : (a == b) = false) : ¬ a = b := fun e => by simp [e] at h
theorem eqI_yes {a b : Int} (h : (a == b) = true) : a = b := by simpa using h
theorem eqB_no {a b : Bool} (h : (a == b) = false) : ¬ a = b := fun e => by simp [e] at h
theorem eqB_yes {a b : Bool} (h : (a == b) = true) : a = b := by simpa using h
def eqC3 (n : ByteArray) (k : Int) (b : Bool) (n' : ByteArray) (k' : Int) (b' : Bool) : Bool := eqS n n' && (k == k' && b == b')
theorem run_eqCol (w : World) (n : ByteArray) (k : Int) (b : Bool) (n' : ByteArray) (k' : Int) (b' : Bool) :
    (Op.equalIn 10000 67 (.agg #[.string n, .int .i64 k, .bool b]) (.agg #[.string n', .int .i64 k', .bool b'])).run Tryz.prog w = .ok (eqC3 n k b n' k' b') w := by
  cases h1 : (k == k') <;> cases b <;> cases b' <;> cases h3 : eqS n n' <;> (have h3' := h3; unfold eqS at h3') <;> go_simp <;> simp_all [eqC3]
@[go_sem ↓] theorem run_eqlCol (w : World) (n : ByteArray) (k : Int) (b : Bool) (n' : ByteArray) (k' : Int) (b' : Bool) :
    (binOp .eql 67 (.agg #[.string n, .int .i64 k, .bool b]) (.agg #[.string n', .int .i64 k', .bool b'])).run Tryz.prog w = .ok (.bool (eqC3 n k b n' k' b')) w := by
  rw [run_eql_struct, run_eqCol]; rfl
@[go_sem ↓] theorem run_neqCol (w : World) (n : ByteArray) (k : Int) (b : Bool) (n' : ByteArray) (k' : Int) (b' : Bool) :
    (binOp .neq 67 (.agg #[.string n, .int .i64 k, .bool b]) (.agg #[.string n', .int .i64 k', .bool b'])).run Tryz.prog w = .ok (.bool (!eqC3 n k b n' k' b')) w := by
  rw [run_neq_struct, run_eqCol]; rfl
theorem eqC_iff (c d : Col) : eqC3 c.name c.kind c.null d.name d.kind d.null = true ↔ c = d := by
  obtain ⟨n, k, b⟩ := c
  obtain ⟨n', k', b'⟩ := d
  simp only [eqC3, Bool.and_eq_true, eqS_iffD, beq_iff_eq, Col.mk.injEq]
theorem eqVd_iff (c d : Val) : eqV3 c.kind c.int c.text d.kind d.int d.text = true ↔ c = d := by
  obtain ⟨n, k, b⟩ := c
  obtain ⟨n', k', b'⟩ := d
  simp only [eqV3, Bool.and_eq_true, eqS_iffD, beq_iff_eq, Val.mk.injEq]
theorem eqVs_iff : ∀ l m : List Val, eqVs l m = true ↔ l = m
  | [], [] => by simp [eqVs]
  | [], _ :: _ => by simp [eqVs]
  | _ :: _, [] => by simp [eqVs]
  | a :: l, b :: m => by
    rw [eqVs, Bool.and_eq_true, eqVs_iff l m, List.cons.injEq, show eqV a b = eqV3 a.kind a.int a.text b.kind b.int b.text from rfl, eqVd_iff]
theorem list_ne {α : Type} {l m : List α} {k : Nat} (h1 : k < l.length) (h2 : k < m.length) (h : ¬ l[k] = m[k]) : ¬ l = m := fun e => h (by subst e; rfl)
theorem list_eq {α : Type} {l m : List α} (hl : l.length = m.length) (h : ∀ j, j < l.length → ∀ (hj : j < l.length) (hj2 : j < m.length), l[j] = m[j]) : l = m := List.ext_getElem hl fun j h1 h2 => h j h1 h1 h2

set_option maxHeartbeats 1000000 in
theorem eqCols (A : Option Addr) (cap : Nat) (l : List Col) (A2 : Option Addr) (cap2 : Nat) (l2 : List Col) (w : World) (h : SlAt w 3 ColR A cap l) (h2 : SlAt w 3 ColR A2 cap2 l2) :
    Calls Tryz.prog 40 #[.slice A l.length cap, .slice A2 l2.length cap2] w (SameQ w (l = l2)) := by
  have hlen := h.len
  have hlen2 := h2.len
  by_cases hl : l.length = l2.length
  · have e1 : ((l.length : Int) != (l2.length : Int)) = false := by simp [hl]
    go_enter Tryz.func40, Tryz.ntmps40
    go_wp2_with fail
    go_loopw [13] (fun i wr => ∃ k : Nat, k ≤ l.length ∧ i = .int .i64 k ∧ Aft w wr ∧ ∀ j, j < k → ∀ (hj : j < l.length) (hj2 : j < l2.length), l[j] = l2[j]) (fun i _ => l.length - (intOf i).toNat)
    case atStart => exact ⟨0, Nat.zero_le _, rfl, Aft.refl _, fun j hj => absurd hj (Nat.not_lt_zero j)⟩
    case round =>
      obtain ⟨k, hk, rfl, ha, hp⟩ := hrel
      have HA := Lib.hid ha
      have HP := Lib.hid hp; clear hp
      by_cases hlt : k < l.length
      · have hlt2 : k < l2.length := by omega
        obtain ⟨b, off, rfl, hb, c0, c1, c2, _⟩ := col_at (cols_aft ha h) hlt
        obtain ⟨b2, off2, rfl, hb2, d0, d1, d2, _⟩ := col_at (cols_aft ha h2) hlt2
        clear ha
        cases h3 : eqC3 l[k].name l[k].kind l[k].null l2[k].name l2[k].kind l2[k].null
        · have HN := Lib.hid (list_ne hlt hlt2 (fun e => by rw [(eqC_iff l[k] l2[k]).2 e] at h3; cases h3))
          go_wp2_with fail
          refine wp_region_lat (by kernel_rfl) (by kernel_rfl) ?_
          repeat (go_big_quiet_step (fail))
          refine wpQuiet_nil ?_
          intro _ hw'
          obtain ⟨x, hw''⟩ := hw'
          subst hw''
          go_wp2_with fail
          go_ret
          exact .no HN.out (HA.out.lat x)
        · have HN := Lib.hid (ext_lt (p := fun j => ∀ (hj : j < l.length) (hj2 : j < l2.length), l[j] = l2[j]) HP.out (fun _ _ => (eqC_iff l[k] l2[k]).1 h3))
          go_wp2_with fail
          refine wp_region_lat (by kernel_rfl) (by kernel_rfl) ?_
          repeat (go_big_quiet_step (fail))
          refine wpQuiet_nil ?_
          intro _ hw'
          obtain ⟨x, hw''⟩ := hw'
          subst hw''
          go_wp2_with fail
          go_roundw
          case rel => exact ⟨k + 1, by omega, by go_num, HA.out.lat x, HN.out⟩
          case measure => simp [intOf]; omega
      · have HN := Lib.hid (list_eq hl fun j hj _ hj2 => HP.out j (by omega) hj hj2)
        clear ha
        go_wp2_with fail
        go_ret
        exact .yes HN.out HA.out
  · have e1 : ((l.length : Int) != (l2.length : Int)) = true := by simp; omega
    have HN := Lib.hid (show ¬ l = l2 from fun e => hl (by rw [e]))
    go_enter Tryz.func40, Tryz.ntmps40
    go_wp2_with fail
    go_ret
    exact .no HN.out (Aft.refl _)
set_option maxHeartbeats 1000000 in
theorem eqStrs (A : Option Addr) (cap : Nat) (l : List ByteArray) (A2 : Option Addr) (cap2 : Nat) (l2 : List ByteArray) (w : World) (h : SlAt w 1 StrR A cap l) (h2 : SlAt w 1 StrR A2 cap2 l2) :
    Calls Tryz.prog 38 #[.slice A l.length cap, .slice A2 l2.length cap2] w (SameQ w (l = l2)) := by
  have hlen := h.len
  have hlen2 := h2.len
  by_cases hl : l.length = l2.length
  · have e1 : ((l.length : Int) != (l2.length : Int)) = false := by simp [hl]
    go_enter Tryz.func38, Tryz.ntmps38
    go_wp2_with fail
    go_loopw [13] (fun i wr => ∃ k : Nat, k ≤ l.length ∧ i = .int .i64 k ∧ Aft w wr ∧ ∀ j, j < k → ∀ (hj : j < l.length) (hj2 : j < l2.length), l[j] = l2[j]) (fun i _ => l.length - (intOf i).toNat)
    case atStart => exact ⟨0, Nat.zero_le _, rfl, Aft.refl _, fun j hj => absurd hj (Nat.not_lt_zero j)⟩
    case round =>
      obtain ⟨k, hk, rfl, ha, hp⟩ := hrel
      have HA := Lib.hid ha
      have HP := Lib.hid hp; clear hp
      by_cases hlt : k < l.length
      · have hlt2 : k < l2.length := by omega
        obtain ⟨b, off, rfl, hb, c0, _⟩ := str_at (strs_aft ha h) hlt
        obtain ⟨b2, off2, rfl, hb2, d0, _⟩ := str_at (strs_aft ha h2) hlt2
        clear ha
        cases h3 : (l[k].toList == l2[k].toList)
        · have HN := Lib.hid (list_ne hlt hlt2 (fun e => by rw [(eqL_iff l[k] l2[k]).2 e] at h3; cases h3))
          go_wp2_with fail
          refine wp_region_lat (by kernel_rfl) (by kernel_rfl) ?_
          repeat (go_big_quiet_step (fail))
          refine wpQuiet_nil ?_
          intro _ hw'
          obtain ⟨x, hw''⟩ := hw'
          subst hw''
          go_wp2_with fail
          go_ret
          exact .no HN.out (HA.out.lat x)
        · have HN := Lib.hid (ext_lt (p := fun j => ∀ (hj : j < l.length) (hj2 : j < l2.length), l[j] = l2[j]) HP.out (fun _ _ => (eqL_iff l[k] l2[k]).1 h3))
          go_wp2_with fail
          refine wp_region_lat (by kernel_rfl) (by kernel_rfl) ?_
          repeat (go_big_quiet_step (fail))
          refine wpQuiet_nil ?_
          intro _ hw'
          obtain ⟨x, hw''⟩ := hw'
          subst hw''
          go_wp2_with fail
          go_roundw
          case rel => exact ⟨k + 1, by omega, by go_num, HA.out.lat x, HN.out⟩
          case measure => simp [intOf]; omega
      · have HN := Lib.hid (list_eq hl fun j hj _ hj2 => HP.out j (by omega) hj hj2)
        clear ha
        go_wp2_with fail
        go_ret
        exact .yes HN.out HA.out
  · have e1 : ((l.length : Int) != (l2.length : Int)) = true := by simp; omega
    have HN := Lib.hid (show ¬ l = l2 from fun e => hl (by rw [e]))
    go_enter Tryz.func38, Tryz.ntmps38
    go_wp2_with fail
    go_ret
    exact .no HN.out (Aft.refl _)
set_option maxHeartbeats 8000000 in
theorem samet24 (c1 c2 : List Col) (l1 l2 : List Rul) (A : Option Addr) (cap : Nat) (A2 : Option Addr) (cap2 : Nat) (B : Option Addr) (capB : Nat) (B2 : Option Addr) (capB2 : Nat) (w : World) (h1 : SlAt w 3 ColR A cap c1) (h2 : SlAt w 8 RulR A2 cap2 l1) (h3 : SlAt w 3 ColR B capB c2) (h4 : SlAt w 8 RulR B2 capB2 l2) (hll : l1.length = l2.length) :
    Calls Tryz.prog 22 #[.agg #[.string ⟨#[]⟩, .string ⟨#[]⟩, .string ⟨#[]⟩, .slice A c1.length cap, .slice A2 l1.length cap2], .agg #[.string ⟨#[]⟩, .string ⟨#[]⟩, .string ⟨#[]⟩, .slice B c2.length capB, .slice B2 l2.length capB2]] w (SameQ w (c1 = c2 ∧ l1 = l2)) := by
  have hlen := h1.len
  have hlen2 := h2.len
  have hlen3 := h3.len
  have hlen4 := h4.len
  have hst : ((⟨#[]⟩ : ByteArray).toList == (⟨#[]⟩ : ByteArray).toList) = true := by simp
  have e2 : ((l1.length : Int) != (l2.length : Int)) = false := by simp [hll]
  obtain ⟨W, hW⟩ : ∃ W, W = (w.alloc (.cells #[.string ⟨#[]⟩, .string ⟨#[]⟩, .string ⟨#[]⟩, .slice A c1.length cap, .slice A2 l1.length cap2] 71)).alloc (.cells #[.string ⟨#[]⟩, .string ⟨#[]⟩, .string ⟨#[]⟩, .slice B c2.length capB, .slice B2 l2.length capB2] 71) := ⟨_, rfl⟩
  have aW : Aft w W := by rw [hW]; exact ((Aft.refl w).alloc _).alloc _
  have hbb := aft_box2 (w := w) (w1 := W) (by rw [← hW]; exact Aft.refl W)
  obtain ⟨ha0, hb0, hz, _⟩ := hbb
  have HAW := Lib.hid aW
  have HLL := Lib.hid hll
  by_cases hl : c1.length = c2.length
  · have e1 : ((c1.length : Int) != (c2.length : Int)) = false := by simp [hl]
    have HL := Lib.hid hl
    clear hl hll
    go_enter Tryz.func22, Tryz.ntmps22
    go_upto_region 1 with fail
    rw [← hW]
    clear hW
    have x0 : W.cell? ⟨w.heap.size, 0, none⟩ = some (.string ⟨#[]⟩) := ha0 0
    have x1 : W.cell? ⟨w.heap.size, 1, none⟩ = some (.string ⟨#[]⟩) := ha0 1
    have x2 : W.cell? ⟨w.heap.size, 2, none⟩ = some (.string ⟨#[]⟩) := ha0 2
    have x3 : W.cell? ⟨w.heap.size, 3, none⟩ = some (.slice A c1.length cap) := ha0 3
    have x4 : W.cell? ⟨w.heap.size, 4, none⟩ = some (.slice A2 l1.length cap2) := ha0 4
    have y0 : W.cell? ⟨w.heap.size + 1, 0, none⟩ = some (.string ⟨#[]⟩) := hb0 0
    have y1 : W.cell? ⟨w.heap.size + 1, 1, none⟩ = some (.string ⟨#[]⟩) := hb0 1
    have y2 : W.cell? ⟨w.heap.size + 1, 2, none⟩ = some (.string ⟨#[]⟩) := hb0 2
    have y3 : W.cell? ⟨w.heap.size + 1, 3, none⟩ = some (.slice B c2.length capB) := hb0 3
    have y4 : W.cell? ⟨w.heap.size + 1, 4, none⟩ = some (.slice B2 l2.length capB2) := hb0 4
    clear ha0 hb0
    go_wp2_with fail
    go_loopw [5] (fun i wr => ∃ k : Nat, k ≤ c1.length ∧ i = .int .i64 k ∧ Aft W wr ∧ ∀ j, j < k → ∀ (hj : j < c1.length) (hj2 : j < c2.length), c1[j] = c2[j]) (fun i _ => c1.length - (intOf i).toNat)
    case atStart => exact ⟨0, Nat.zero_le _, rfl, Aft.refl _, fun j hj => absurd hj (Nat.not_lt_zero j)⟩
    case round =>
      obtain ⟨k, hk, rfl, ha, hp⟩ := hrel
      have HP := Lib.hid hp; clear hp
      have x3' := ha.cell_kept x3
      have y3' := ha.cell_kept y3
      have HAR := Lib.hid ha
      by_cases hlt : k < c1.length
      · have hlt2 : k < c2.length := by have := HL.out; omega
        obtain ⟨b, off, hAe, hb, g0, g1, g2, _⟩ := col_at (cols_aft (HAW.out.trans ha) h1) hlt
        obtain ⟨b2, off2, hBe, hb2, d0, d1, d2, _⟩ := col_at (cols_aft (HAW.out.trans ha) h3) hlt2
        subst hAe
        subst hBe
        have lx := World.block_lt_of_cell? _ _ x3'
        have ly := World.block_lt_of_cell? _ _ y3'
        clear ha
        cases h9 : eqC3 c1[k].name c1[k].kind c1[k].null c2[k].name c2[k].kind c2[k].null
        · have HN := Lib.hid (show ¬ (c1 = c2 ∧ l1 = l2) from fun e => list_ne hlt hlt2 (fun e => by rw [(eqC_iff c1[k] c2[k]).2 e] at h9; cases h9) e.1)
          go_wp2_with fail
          refine wp_region_lat (by kernel_rfl) (by kernel_rfl) ?_
          repeat (go_big_quiet_step (fail))
          refine wpQuiet_nil ?_
          intro _ hw'
          obtain ⟨x, hw''⟩ := hw'
          subst hw''
          go_wp2_with fail
          go_ret
          exact .no HN.out (HAW.out.trans (HAR.out.lat x))
        · have HN := Lib.hid (ext_lt (p := fun j => ∀ (hj : j < c1.length) (hj2 : j < c2.length), c1[j] = c2[j]) HP.out (fun _ _ => (eqC_iff c1[k] c2[k]).1 h9))
          go_wp2_with fail
          refine wp_region_lat (by kernel_rfl) (by kernel_rfl) ?_
          repeat (go_big_quiet_step (fail))
          refine wpQuiet_nil ?_
          intro _ hw'
          obtain ⟨x, hw''⟩ := hw'
          subst hw''
          go_wp2_with fail
          go_roundw
          case rel => exact ⟨k + 1, by omega, by go_num, HAR.out.lat x, HN.out⟩
          case measure => simp [intOf]; omega
      have HC := Lib.hid (show c1 = c2 from list_eq HL.out fun j hj _ hj2 => HP.out j (by omega) hj hj2)
      go_wp2_with fail
      go_loopw [6] (fun i wrr => ∃ k : Nat, k ≤ l1.length ∧ i = .int .i64 k ∧ Aft W wrr ∧ ∀ j, j < k → ∀ (hj : j < l1.length) (hj2 : j < l2.length), l1[j] = l2[j]) (fun i _ => l1.length - (intOf i).toNat)
      case atStart => exact ⟨0, Nat.zero_le _, rfl, ha, fun j hj => absurd hj (Nat.not_lt_zero j)⟩
      case round =>
        clear ha HAR x3' y3'
        obtain ⟨k2, hk2, rfl, ha, hp2⟩ := hrel
        have HP2 := Lib.hid hp2; clear hp2
        have x4' := ha.cell_kept x4
        have y4' := ha.cell_kept y4
        have HAR := Lib.hid ha
        by_cases hlt2 : k2 < l1.length
        · have hlt5 : k2 < l2.length := by have := HLL.out; omega
          obtain ⟨b, off, D, capD, hA2, hb, g0, g1, g2, g3, g4, g5, g6, g7, hcs, _⟩ := rul_at (ruls_aft (HAW.out.trans ha) h2) hlt2
          obtain ⟨b2, off2, E, capE, hB2, hb2, d0, d1, d2, d3, d4, d5, d6, d7, hds, _⟩ := rul_at (ruls_aft (HAW.out.trans ha) h4) hlt5
          subst hA2
          subst hB2
          obtain ⟨p, hpp⟩ : ∃ p, l1[k2] = p := ⟨_, rfl⟩
          obtain ⟨q, hqq⟩ : ∃ q, l2[k2] = q := ⟨_, rfl⟩
          have hpe : l1 = l2 → p = q := fun e => by subst e; rw [← hpp, ← hqq]
          rw [hpp] at g0 g1 g2 g3 g4 g5 g6 g7 hcs
          rw [hqq] at d0 d1 d2 d3 d4 d5 d6 d7 hds
          have hlp := hcs.len
          have hlq := hds.len
          have lx : w.heap.size < wr.heap.size := World.block_lt_of_cell? _ _ x4'
          have ly : w.heap.size + 1 < wr.heap.size := World.block_lt_of_cell? _ _ y4'
          have lyy : w.heap.size + 1 < wr.heap.size + 1 := by omega
          have lb2 : b2 < wr.heap.size + 1 := by omega
          obtain ⟨V, hV⟩ : ∃ V, V = (wr.alloc (.cells #[.string p.name, .int .i64 p.kind, .slice D p.cols.length capD, .int .i64 p.low, .int .i64 p.high, .string p.schema, .string p.table, .string p.key] 28)).alloc (.cells #[.string q.name, .int .i64 q.kind, .slice E q.cols.length capE, .int .i64 q.low, .int .i64 q.high, .string q.schema, .string q.table, .string q.key] 28) := ⟨_, rfl⟩
          have aV : Aft wr V := by rw [hV]; exact ((Aft.refl wr).alloc _).alloc _
          obtain ⟨va0, vb0, vz, _⟩ := aft_box2 (w := wr) (w1 := V) (by rw [← hV]; exact Aft.refl V)
          have HRV := Lib.hid (HAR.out.trans aV)
          have HAV := Lib.hid (HAW.out.trans (HAR.out.trans aV))
          have hcsV := strs_aft aV hcs
          have hdsV := strs_aft aV hds
          obtain ⟨n1, hn1⟩ : ∃ n, n = wr.heap.size := ⟨_, rfl⟩
          have l1' : wr.heap.size < wr.heap.size + 1 := by omega
          have l2' : wr.heap.size < wr.heap.size + 1 + 1 := by omega
          clear aV
          go_upto_region 13 with fail
          rw [← hV]
          clear hV g0 g1 g2 g3 g4 g5 g6 g7 d0 d1 d2 d3 d4 d5 d6 d7 x4' y4' hcs hds
          have z0 : V.cell? ⟨wr.heap.size, 0, none⟩ = some (.string p.name) := va0 0
          have z1 : V.cell? ⟨wr.heap.size, 1, none⟩ = some (.int .i64 p.kind) := va0 1
          have z2 : V.cell? ⟨wr.heap.size, 2, none⟩ = some (.slice D p.cols.length capD) := va0 2
          have z3 : V.cell? ⟨wr.heap.size, 3, none⟩ = some (.int .i64 p.low) := va0 3
          have z4 : V.cell? ⟨wr.heap.size, 4, none⟩ = some (.int .i64 p.high) := va0 4
          have z5 : V.cell? ⟨wr.heap.size, 5, none⟩ = some (.string p.schema) := va0 5
          have z6 : V.cell? ⟨wr.heap.size, 6, none⟩ = some (.string p.table) := va0 6
          have z7 : V.cell? ⟨wr.heap.size, 7, none⟩ = some (.string p.key) := va0 7
          have u0 : V.cell? ⟨wr.heap.size + 1, 0, none⟩ = some (.string q.name) := vb0 0
          have u1 : V.cell? ⟨wr.heap.size + 1, 1, none⟩ = some (.int .i64 q.kind) := vb0 1
          have u2 : V.cell? ⟨wr.heap.size + 1, 2, none⟩ = some (.slice E q.cols.length capE) := vb0 2
          have u3 : V.cell? ⟨wr.heap.size + 1, 3, none⟩ = some (.int .i64 q.low) := vb0 3
          have u4 : V.cell? ⟨wr.heap.size + 1, 4, none⟩ = some (.int .i64 q.high) := vb0 4
          have u5 : V.cell? ⟨wr.heap.size + 1, 5, none⟩ = some (.string q.schema) := vb0 5
          have u6 : V.cell? ⟨wr.heap.size + 1, 6, none⟩ = some (.string q.table) := vb0 6
          have u7 : V.cell? ⟨wr.heap.size + 1, 7, none⟩ = some (.string q.key) := vb0 7
          rw [← hn1] at z0 z1 z2 z3 z4 z5 z6 z7 u0 u1 u2 u3 u4 u5 u6 u7 ⊢
          clear va0 vb0 vz hn1 ha
          cases b0 : (p.name.toList == q.name.toList)
          · have HN := Lib.hid (show ¬ (c1 = c2 ∧ l1 = l2) from fun e => eqL_no b0 (by rw [hpe e.2]))
            go_wp2_with fail
            go_ret
            exact .no HN.out (HAV.out)
          · cases b1 : (p.kind == q.kind)
            · have HN := Lib.hid (show ¬ (c1 = c2 ∧ l1 = l2) from fun e => eqI_no b1 (by rw [hpe e.2]))
              have b1x : (p.kind != q.kind) = true := by simp [bne, b1]
              go_wp2_with fail
              go_ret
              exact .no HN.out (HAV.out)
            · have b1x : (p.kind != q.kind) = false := by simp [bne, b1]
              cases b2 : (p.low == q.low)
              · have HN := Lib.hid (show ¬ (c1 = c2 ∧ l1 = l2) from fun e => eqI_no b2 (by rw [hpe e.2]))
                have b2x : (p.low != q.low) = true := by simp [bne, b2]
                go_wp2_with fail
                go_ret
                exact .no HN.out (HAV.out)
              · have b2x : (p.low != q.low) = false := by simp [bne, b2]
                cases b3 : (p.high == q.high)
                · have HN := Lib.hid (show ¬ (c1 = c2 ∧ l1 = l2) from fun e => eqI_no b3 (by rw [hpe e.2]))
                  have b3x : (p.high != q.high) = true := by simp [bne, b3]
                  go_wp2_with fail
                  go_ret
                  exact .no HN.out (HAV.out)
                · have b3x : (p.high != q.high) = false := by simp [bne, b3]
                  cases b4 : (p.schema.toList == q.schema.toList)
                  · have HN := Lib.hid (show ¬ (c1 = c2 ∧ l1 = l2) from fun e => eqL_no b4 (by rw [hpe e.2]))
                    go_wp2_with fail
                    go_ret
                    exact .no HN.out (HAV.out)
                  · cases b5 : (p.table.toList == q.table.toList)
                    · have HN := Lib.hid (show ¬ (c1 = c2 ∧ l1 = l2) from fun e => eqL_no b5 (by rw [hpe e.2]))
                      go_wp2_with fail
                      go_ret
                      exact .no HN.out (HAV.out)
                    · cases b6 : (p.key.toList == q.key.toList)
                      · have HN := Lib.hid (show ¬ (c1 = c2 ∧ l1 = l2) from fun e => eqL_no b6 (by rw [hpe e.2]))
                        go_wp2_with fail
                        go_ret
                        exact .no HN.out (HAV.out)
                      · by_cases hcl : p.cols.length = q.cols.length
                        · have e5 : ((p.cols.length : Int) != (q.cols.length : Int)) = false := by simp [hcl]
                          have HPQ := Lib.hid (show p.cols = q.cols → p = q from fun e => by
                            obtain ⟨pn, pk, pc, pl, ph, ps, pt, py⟩ := p
                            obtain ⟨qn, qk, qc, ql, qh, qs, qt, qy⟩ := q
                            simp only at b0 b1 b2 b3 b4 b5 b6 e
                            simp only [Rul.mk.injEq]
                            exact ⟨(eqL_iff _ _).1 b0, eqI_yes b1, e, eqI_yes b2, eqI_yes b3, (eqL_iff _ _).1 b4, (eqL_iff _ _).1 b5, (eqL_iff _ _).1 b6⟩)
                          have HCL := Lib.hid hcl
                          clear hcl
                          go_wp2_with fail
                          go_loopw [9] (fun i wrr => ∃ k : Nat, k ≤ p.cols.length ∧ i = .int .i64 k ∧ Aft V wrr ∧ ∀ j, j < k → ∀ (hj : j < p.cols.length) (hj2 : j < q.cols.length), p.cols[j] = q.cols[j]) (fun i _ => p.cols.length - (intOf i).toNat)
                          case atStart => exact ⟨0, Nat.zero_le _, rfl, Aft.refl _, fun j hj => absurd hj (Nat.not_lt_zero j)⟩
                          case round =>
                            obtain ⟨k3, hk3, rfl, ha, hp3⟩ := hrel
                            have HA3 := Lib.hid ha
                            have HP3 := Lib.hid hp3; clear hp3
                            have z2' := ha.cell_kept z2
                            have u2' := ha.cell_kept u2
                            by_cases hlt3 : k3 < p.cols.length
                            · have hlt4 : k3 < q.cols.length := by have := HCL.out; omega
                              obtain ⟨b5', off5, hD, hb5, g5, _⟩ := str_at (strs_aft ha hcsV) hlt3
                              subst hD
                              obtain ⟨b6', off6, hE, hb6, g6, _⟩ := str_at (strs_aft ha hdsV) hlt4
                              subst hE
                              have lz := World.block_lt_of_cell? _ _ z2'
                              have lu := World.block_lt_of_cell? _ _ u2'
                              clear ha
                              cases h9 : (p.cols[k3].toList == q.cols[k3].toList)
                              · have HN := Lib.hid (show ¬ (c1 = c2 ∧ l1 = l2) from fun e => list_ne hlt3 hlt4 (eqL_no h9) (by rw [hpe e.2]))
                                go_wp2_with fail
                                refine wp_region_lat (by kernel_rfl) (by kernel_rfl) ?_
                                repeat (go_big_quiet_step (fail))
                                refine wpQuiet_nil ?_
                                intro _ hw'
                                obtain ⟨x, hw''⟩ := hw'
                                subst hw''
                                go_wp2_with fail
                                go_ret
                                exact .no HN.out (HAV.out.trans (HA3.out.lat x))
                              · have HN := Lib.hid (ext_lt (p := fun j => ∀ (hj : j < p.cols.length) (hj2 : j < q.cols.length), p.cols[j] = q.cols[j]) HP3.out (fun _ _ => (eqL_iff _ _).1 h9))
                                go_wp2_with fail
                                refine wp_region_lat (by kernel_rfl) (by kernel_rfl) ?_
                                repeat (go_big_quiet_step (fail))
                                refine wpQuiet_nil ?_
                                intro _ hw'
                                obtain ⟨x, hw''⟩ := hw'
                                subst hw''
                                go_wp2_with fail
                                go_roundw
                                case rel => exact ⟨k3 + 1, by omega, by go_num, HA3.out.lat x, HN.out⟩
                                case measure => simp [intOf]; omega
                            · have HN := Lib.hid (HPQ.out (list_eq HCL.out fun j hj _ hj2 => HP3.out j (by omega) hj hj2))
                              have HE := Lib.hid (ext_lt (p := fun j => ∀ (hj : j < l1.length) (hj2 : j < l2.length), l1[j] = l2[j]) HP2.out (fun _ _ => by rw [hpp, hqq]; exact HN.out))
                              clear ha
                              go_wp2_with fail
                              go_roundw
                              case rel => exact ⟨k2 + 1, by omega, by go_num, HRV.out.trans HA3.out, HE.out⟩
                              case measure => simp [intOf]; omega
                        · have e5 : ((p.cols.length : Int) != (q.cols.length : Int)) = true := by simp; omega
                          have HN := Lib.hid (show ¬ (c1 = c2 ∧ l1 = l2) from fun e => hcl (by rw [hpe e.2]))
                          go_wp2_with fail
                          go_ret
                          exact .no HN.out HAV.out
        · have HN := Lib.hid (show c1 = c2 ∧ l1 = l2 from ⟨HC.out, list_eq HLL.out fun j hj _ hj2 => HP2.out j (by omega) hj hj2⟩)
          clear ha
          go_wp2_with fail
          go_ret
          exact .yes HN.out (HAW.out.trans HAR.out)
  · have e1 : ((c1.length : Int) != (c2.length : Int)) = true := by simp; omega
    have HN := Lib.hid (show ¬ (c1 = c2 ∧ l1 = l2) from fun e => hl (by rw [e.1]))
    clear hl hll
    go_enter Tryz.func22, Tryz.ntmps22
    go_upto_region 1 with fail
    rw [← hW]
    clear hW
    have x0 : W.cell? ⟨w.heap.size, 0, none⟩ = some (.string ⟨#[]⟩) := ha0 0
    have x1 : W.cell? ⟨w.heap.size, 1, none⟩ = some (.string ⟨#[]⟩) := ha0 1
    have x2 : W.cell? ⟨w.heap.size, 2, none⟩ = some (.string ⟨#[]⟩) := ha0 2
    have x3 : W.cell? ⟨w.heap.size, 3, none⟩ = some (.slice A c1.length cap) := ha0 3
    have y0 : W.cell? ⟨w.heap.size + 1, 0, none⟩ = some (.string ⟨#[]⟩) := hb0 0
    have y1 : W.cell? ⟨w.heap.size + 1, 1, none⟩ = some (.string ⟨#[]⟩) := hb0 1
    have y2 : W.cell? ⟨w.heap.size + 1, 2, none⟩ = some (.string ⟨#[]⟩) := hb0 2
    have y3 : W.cell? ⟨w.heap.size + 1, 3, none⟩ = some (.slice B c2.length capB) := hb0 3
    clear ha0 hb0
    go_wp2_with fail
    go_ret
    exact .no HN.out HAW.out
end Go.Proofs.YtbdanlipghhgpaaGreatDoor

namespace Go.Proofs.YtbdanlipghhgpaaGreatDoor
open Go.RowKit
def lvAct (a : Addr) : Sem Value := loadVar 43 a
@[go_sem ↓] theorem lvAct_eq (a : Addr) : loadVar 43 a = lvAct a := rfl
@[go_sem] theorem run_lvAct (w : World) (b o : Nat) (h0 : (w.cell? ⟨b, o, none⟩).isSome = true) (h1 : (w.cell? ⟨b, o + 1, none⟩).isSome = true) (h2 : (w.cell? ⟨b, o + 2, none⟩).isSome = true) (h3 : (w.cell? ⟨b, o + 3, none⟩).isSome = true) (h4 : (w.cell? ⟨b, o + 4, none⟩).isSome = true) (h5 : (w.cell? ⟨b, o + 5, none⟩).isSome = true) (h6 : (w.cell? ⟨b, o + 6, none⟩).isSome = true) (h7 : (w.cell? ⟨b, o + 7, none⟩).isSome = true) (h8 : (w.cell? ⟨b, o + 8, none⟩).isSome = true) (h9 : (w.cell? ⟨b, o + 9, none⟩).isSome = true) (h10 : (w.cell? ⟨b, o + 10, none⟩).isSome = true) (h11 : (w.cell? ⟨b, o + 11, none⟩).isSome = true) (h12 : (w.cell? ⟨b, o + 12, none⟩).isSome = true) (h13 : (w.cell? ⟨b, o + 13, none⟩).isSome = true) (h14 : (w.cell? ⟨b, o + 14, none⟩).isSome = true) (h15 : (w.cell? ⟨b, o + 15, none⟩).isSome = true) (h16 : (w.cell? ⟨b, o + 16, none⟩).isSome = true) (h17 : (w.cell? ⟨b, o + 17, none⟩).isSome = true) (h18 : (w.cell? ⟨b, o + 18, none⟩).isSome = true) (h19 : (w.cell? ⟨b, o + 19, none⟩).isSome = true) (h20 : (w.cell? ⟨b, o + 20, none⟩).isSome = true) (h21 : (w.cell? ⟨b, o + 21, none⟩).isSome = true) (h22 : (w.cell? ⟨b, o + 22, none⟩).isSome = true) (h23 : (w.cell? ⟨b, o + 23, none⟩).isSome = true) (h24 : (w.cell? ⟨b, o + 24, none⟩).isSome = true) (h25 : (w.cell? ⟨b, o + 25, none⟩).isSome = true) (h26 : (w.cell? ⟨b, o + 26, none⟩).isSome = true) (h27 : (w.cell? ⟨b, o + 27, none⟩).isSome = true) (h28 : (w.cell? ⟨b, o + 28, none⟩).isSome = true) (h29 : (w.cell? ⟨b, o + 29, none⟩).isSome = true) (h30 : (w.cell? ⟨b, o + 30, none⟩).isSome = true) (h31 : (w.cell? ⟨b, o + 31, none⟩).isSome = true) (h32 : (w.cell? ⟨b, o + 32, none⟩).isSome = true) : (lvAct ⟨b, o, none⟩).run Tryz.prog w = .ok (.agg #[(w.cell? ⟨b, o, none⟩).getD undef, (w.cell? ⟨b, o + 1, none⟩).getD undef, (w.cell? ⟨b, o + 2, none⟩).getD undef, (w.cell? ⟨b, o + 3, none⟩).getD undef, (w.cell? ⟨b, o + 4, none⟩).getD undef, (w.cell? ⟨b, o + 5, none⟩).getD undef, (w.cell? ⟨b, o + 6, none⟩).getD undef, (w.cell? ⟨b, o + 7, none⟩).getD undef, (w.cell? ⟨b, o + 8, none⟩).getD undef, (w.cell? ⟨b, o + 9, none⟩).getD undef, (w.cell? ⟨b, o + 10, none⟩).getD undef, (w.cell? ⟨b, o + 11, none⟩).getD undef, (w.cell? ⟨b, o + 12, none⟩).getD undef, (w.cell? ⟨b, o + 13, none⟩).getD undef, (w.cell? ⟨b, o + 14, none⟩).getD undef, (w.cell? ⟨b, o + 15, none⟩).getD undef, (w.cell? ⟨b, o + 16, none⟩).getD undef, (w.cell? ⟨b, o + 17, none⟩).getD undef, (w.cell? ⟨b, o + 18, none⟩).getD undef, (w.cell? ⟨b, o + 19, none⟩).getD undef, (w.cell? ⟨b, o + 20, none⟩).getD undef, (w.cell? ⟨b, o + 21, none⟩).getD undef, (w.cell? ⟨b, o + 22, none⟩).getD undef, (w.cell? ⟨b, o + 23, none⟩).getD undef, (w.cell? ⟨b, o + 24, none⟩).getD undef, (w.cell? ⟨b, o + 25, none⟩).getD undef, (w.cell? ⟨b, o + 26, none⟩).getD undef, (w.cell? ⟨b, o + 27, none⟩).getD undef, (w.cell? ⟨b, o + 28, none⟩).getD undef, (w.cell? ⟨b, o + 29, none⟩).getD undef, (w.cell? ⟨b, o + 30, none⟩).getD undef, (w.cell? ⟨b, o + 31, none⟩).getD undef, (w.cell? ⟨b, o + 32, none⟩).getD undef]) w := run_lv (P := Tryz.prog) w 43 _ 33 b o Tryz.underlying43 rfl (by kernel_rfl) (forall_lt_succ _ _ (forall_lt_succ _ _ (forall_lt_succ _ _ (forall_lt_succ _ _ (forall_lt_succ _ _ (forall_lt_succ _ _ (forall_lt_succ _ _ (forall_lt_succ _ _ (forall_lt_succ _ _ (forall_lt_succ _ _ (forall_lt_succ _ _ (forall_lt_succ _ _ (forall_lt_succ _ _ (forall_lt_succ _ _ (forall_lt_succ _ _ (forall_lt_succ _ _ (forall_lt_succ _ _ (forall_lt_succ _ _ (forall_lt_succ _ _ (forall_lt_succ _ _ (forall_lt_succ _ _ (forall_lt_succ _ _ (forall_lt_succ _ _ (forall_lt_succ _ _ (forall_lt_succ _ _ (forall_lt_succ _ _ (forall_lt_succ _ _ (forall_lt_succ _ _ (forall_lt_succ _ _ (forall_lt_succ _ _ (forall_lt_succ _ _ (forall_lt_succ _ _ (forall_lt_succ _ _ (fun j hj => absurd hj (Nat.not_lt_zero j)) h0) h1) h2) h3) h4) h5) h6) h7) h8) h9) h10) h11) h12) h13) h14) h15) h16) h17) h18) h19) h20) h21) h22) h23) h24) h25) h26) h27) h28) h29) h30) h31) h32)
def svAct (a : Addr) (v : Value) : Sem Unit := storeVar 43 a v
@[go_sem ↓] theorem svAct_eq (a : Addr) (v : Value) : storeVar 43 a v = svAct a v := rfl
@[go_sem] theorem run_svAct (w : World) (b o : Nat) (v0 v1 v2 v3 v4 v5 v6 v7 v8 v9 v10 v11 v12 v13 v14 v15 v16 v17 v18 v19 v20 v21 v22 v23 v24 v25 v26 v27 v28 v29 v30 v31 v32 : Value) (h0 : (w.cell? ⟨b, o, none⟩).isSome = true) (h1 : (w.cell? ⟨b, o + 1, none⟩).isSome = true) (h2 : (w.cell? ⟨b, o + 2, none⟩).isSome = true) (h3 : (w.cell? ⟨b, o + 3, none⟩).isSome = true) (h4 : (w.cell? ⟨b, o + 4, none⟩).isSome = true) (h5 : (w.cell? ⟨b, o + 5, none⟩).isSome = true) (h6 : (w.cell? ⟨b, o + 6, none⟩).isSome = true) (h7 : (w.cell? ⟨b, o + 7, none⟩).isSome = true) (h8 : (w.cell? ⟨b, o + 8, none⟩).isSome = true) (h9 : (w.cell? ⟨b, o + 9, none⟩).isSome = true) (h10 : (w.cell? ⟨b, o + 10, none⟩).isSome = true) (h11 : (w.cell? ⟨b, o + 11, none⟩).isSome = true) (h12 : (w.cell? ⟨b, o + 12, none⟩).isSome = true) (h13 : (w.cell? ⟨b, o + 13, none⟩).isSome = true) (h14 : (w.cell? ⟨b, o + 14, none⟩).isSome = true) (h15 : (w.cell? ⟨b, o + 15, none⟩).isSome = true) (h16 : (w.cell? ⟨b, o + 16, none⟩).isSome = true) (h17 : (w.cell? ⟨b, o + 17, none⟩).isSome = true) (h18 : (w.cell? ⟨b, o + 18, none⟩).isSome = true) (h19 : (w.cell? ⟨b, o + 19, none⟩).isSome = true) (h20 : (w.cell? ⟨b, o + 20, none⟩).isSome = true) (h21 : (w.cell? ⟨b, o + 21, none⟩).isSome = true) (h22 : (w.cell? ⟨b, o + 22, none⟩).isSome = true) (h23 : (w.cell? ⟨b, o + 23, none⟩).isSome = true) (h24 : (w.cell? ⟨b, o + 24, none⟩).isSome = true) (h25 : (w.cell? ⟨b, o + 25, none⟩).isSome = true) (h26 : (w.cell? ⟨b, o + 26, none⟩).isSome = true) (h27 : (w.cell? ⟨b, o + 27, none⟩).isSome = true) (h28 : (w.cell? ⟨b, o + 28, none⟩).isSome = true) (h29 : (w.cell? ⟨b, o + 29, none⟩).isSome = true) (h30 : (w.cell? ⟨b, o + 30, none⟩).isSome = true) (h31 : (w.cell? ⟨b, o + 31, none⟩).isSome = true) (h32 : (w.cell? ⟨b, o + 32, none⟩).isSome = true) (f0 : w.frozen? ⟨b, o, none⟩ = false) (f1 : w.frozen? ⟨b, o + 1, none⟩ = false) (f2 : w.frozen? ⟨b, o + 2, none⟩ = false) (f3 : w.frozen? ⟨b, o + 3, none⟩ = false) (f4 : w.frozen? ⟨b, o + 4, none⟩ = false) (f5 : w.frozen? ⟨b, o + 5, none⟩ = false) (f6 : w.frozen? ⟨b, o + 6, none⟩ = false) (f7 : w.frozen? ⟨b, o + 7, none⟩ = false) (f8 : w.frozen? ⟨b, o + 8, none⟩ = false) (f9 : w.frozen? ⟨b, o + 9, none⟩ = false) (f10 : w.frozen? ⟨b, o + 10, none⟩ = false) (f11 : w.frozen? ⟨b, o + 11, none⟩ = false) (f12 : w.frozen? ⟨b, o + 12, none⟩ = false) (f13 : w.frozen? ⟨b, o + 13, none⟩ = false) (f14 : w.frozen? ⟨b, o + 14, none⟩ = false) (f15 : w.frozen? ⟨b, o + 15, none⟩ = false) (f16 : w.frozen? ⟨b, o + 16, none⟩ = false) (f17 : w.frozen? ⟨b, o + 17, none⟩ = false) (f18 : w.frozen? ⟨b, o + 18, none⟩ = false) (f19 : w.frozen? ⟨b, o + 19, none⟩ = false) (f20 : w.frozen? ⟨b, o + 20, none⟩ = false) (f21 : w.frozen? ⟨b, o + 21, none⟩ = false) (f22 : w.frozen? ⟨b, o + 22, none⟩ = false) (f23 : w.frozen? ⟨b, o + 23, none⟩ = false) (f24 : w.frozen? ⟨b, o + 24, none⟩ = false) (f25 : w.frozen? ⟨b, o + 25, none⟩ = false) (f26 : w.frozen? ⟨b, o + 26, none⟩ = false) (f27 : w.frozen? ⟨b, o + 27, none⟩ = false) (f28 : w.frozen? ⟨b, o + 28, none⟩ = false) (f29 : w.frozen? ⟨b, o + 29, none⟩ = false) (f30 : w.frozen? ⟨b, o + 30, none⟩ = false) (f31 : w.frozen? ⟨b, o + 31, none⟩ = false) (f32 : w.frozen? ⟨b, o + 32, none⟩ = false) (o0 : v0.oneCell' = true) (o1 : v1.oneCell' = true) (o2 : v2.oneCell' = true) (o3 : v3.oneCell' = true) (o4 : v4.oneCell' = true) (o5 : v5.oneCell' = true) (o6 : v6.oneCell' = true) (o7 : v7.oneCell' = true) (o8 : v8.oneCell' = true) (o9 : v9.oneCell' = true) (o10 : v10.oneCell' = true) (o11 : v11.oneCell' = true) (o12 : v12.oneCell' = true) (o13 : v13.oneCell' = true) (o14 : v14.oneCell' = true) (o15 : v15.oneCell' = true) (o16 : v16.oneCell' = true) (o17 : v17.oneCell' = true) (o18 : v18.oneCell' = true) (o19 : v19.oneCell' = true) (o20 : v20.oneCell' = true) (o21 : v21.oneCell' = true) (o22 : v22.oneCell' = true) (o23 : v23.oneCell' = true) (o24 : v24.oneCell' = true) (o25 : v25.oneCell' = true) (o26 : v26.oneCell' = true) (o27 : v27.oneCell' = true) (o28 : v28.oneCell' = true) (o29 : v29.oneCell' = true) (o30 : v30.oneCell' = true) (o31 : v31.oneCell' = true) (o32 : v32.oneCell' = true) : (svAct ⟨b, o, none⟩ (.agg #[v0, v1, v2, v3, v4, v5, v6, v7, v8, v9, v10, v11, v12, v13, v14, v15, v16, v17, v18, v19, v20, v21, v22, v23, v24, v25, v26, v27, v28, v29, v30, v31, v32])).run Tryz.prog w = .ok () (((((((((((((((((((((((((((((((((w.setCell ⟨b, o, none⟩ v0).setCell ⟨b, o + 1, none⟩ v1).setCell ⟨b, o + 2, none⟩ v2).setCell ⟨b, o + 3, none⟩ v3).setCell ⟨b, o + 4, none⟩ v4).setCell ⟨b, o + 5, none⟩ v5).setCell ⟨b, o + 6, none⟩ v6).setCell ⟨b, o + 7, none⟩ v7).setCell ⟨b, o + 8, none⟩ v8).setCell ⟨b, o + 9, none⟩ v9).setCell ⟨b, o + 10, none⟩ v10).setCell ⟨b, o + 11, none⟩ v11).setCell ⟨b, o + 12, none⟩ v12).setCell ⟨b, o + 13, none⟩ v13).setCell ⟨b, o + 14, none⟩ v14).setCell ⟨b, o + 15, none⟩ v15).setCell ⟨b, o + 16, none⟩ v16).setCell ⟨b, o + 17, none⟩ v17).setCell ⟨b, o + 18, none⟩ v18).setCell ⟨b, o + 19, none⟩ v19).setCell ⟨b, o + 20, none⟩ v20).setCell ⟨b, o + 21, none⟩ v21).setCell ⟨b, o + 22, none⟩ v22).setCell ⟨b, o + 23, none⟩ v23).setCell ⟨b, o + 24, none⟩ v24).setCell ⟨b, o + 25, none⟩ v25).setCell ⟨b, o + 26, none⟩ v26).setCell ⟨b, o + 27, none⟩ v27).setCell ⟨b, o + 28, none⟩ v28).setCell ⟨b, o + 29, none⟩ v29).setCell ⟨b, o + 30, none⟩ v30).setCell ⟨b, o + 31, none⟩ v31).setCell ⟨b, o + 32, none⟩ v32) := run_sv (P := Tryz.prog) w 43 b o [v0, v1, v2, v3, v4, v5, v6, v7, v8, v9, v10, v11, v12, v13, v14, v15, v16, v17, v18, v19, v20, v21, v22, v23, v24, v25, v26, v27, v28, v29, v30, v31, v32] (by kernel_rfl) (forall_lt_succ _ _ (forall_lt_succ _ _ (forall_lt_succ _ _ (forall_lt_succ _ _ (forall_lt_succ _ _ (forall_lt_succ _ _ (forall_lt_succ _ _ (forall_lt_succ _ _ (forall_lt_succ _ _ (forall_lt_succ _ _ (forall_lt_succ _ _ (forall_lt_succ _ _ (forall_lt_succ _ _ (forall_lt_succ _ _ (forall_lt_succ _ _ (forall_lt_succ _ _ (forall_lt_succ _ _ (forall_lt_succ _ _ (forall_lt_succ _ _ (forall_lt_succ _ _ (forall_lt_succ _ _ (forall_lt_succ _ _ (forall_lt_succ _ _ (forall_lt_succ _ _ (forall_lt_succ _ _ (forall_lt_succ _ _ (forall_lt_succ _ _ (forall_lt_succ _ _ (forall_lt_succ _ _ (forall_lt_succ _ _ (forall_lt_succ _ _ (forall_lt_succ _ _ (forall_lt_succ _ _ (fun j hj => absurd hj (Nat.not_lt_zero j)) ⟨h0, f0, o0⟩) ⟨h1, f1, o1⟩) ⟨h2, f2, o2⟩) ⟨h3, f3, o3⟩) ⟨h4, f4, o4⟩) ⟨h5, f5, o5⟩) ⟨h6, f6, o6⟩) ⟨h7, f7, o7⟩) ⟨h8, f8, o8⟩) ⟨h9, f9, o9⟩) ⟨h10, f10, o10⟩) ⟨h11, f11, o11⟩) ⟨h12, f12, o12⟩) ⟨h13, f13, o13⟩) ⟨h14, f14, o14⟩) ⟨h15, f15, o15⟩) ⟨h16, f16, o16⟩) ⟨h17, f17, o17⟩) ⟨h18, f18, o18⟩) ⟨h19, f19, o19⟩) ⟨h20, f20, o20⟩) ⟨h21, f21, o21⟩) ⟨h22, f22, o22⟩) ⟨h23, f23, o23⟩) ⟨h24, f24, o24⟩) ⟨h25, f25, o25⟩) ⟨h26, f26, o26⟩) ⟨h27, f27, o27⟩) ⟨h28, f28, o28⟩) ⟨h29, f29, o29⟩) ⟨h30, f30, o30⟩) ⟨h31, f31, o31⟩) ⟨h32, f32, o32⟩)
def lvRop (a : Addr) : Sem Value := loadVar 41 a
@[go_sem ↓] theorem lvRop_eq (a : Addr) : loadVar 41 a = lvRop a := rfl
@[go_sem] theorem run_lvRop (w : World) (b o : Nat) (h0 : (w.cell? ⟨b, o, none⟩).isSome = true) (h1 : (w.cell? ⟨b, o + 1, none⟩).isSome = true) (h2 : (w.cell? ⟨b, o + 2, none⟩).isSome = true) (h3 : (w.cell? ⟨b, o + 3, none⟩).isSome = true) (h4 : (w.cell? ⟨b, o + 4, none⟩).isSome = true) (h5 : (w.cell? ⟨b, o + 5, none⟩).isSome = true) (h6 : (w.cell? ⟨b, o + 6, none⟩).isSome = true) (h7 : (w.cell? ⟨b, o + 7, none⟩).isSome = true) (h8 : (w.cell? ⟨b, o + 8, none⟩).isSome = true) : (lvRop ⟨b, o, none⟩).run Tryz.prog w = .ok (.agg #[(w.cell? ⟨b, o, none⟩).getD undef, (w.cell? ⟨b, o + 1, none⟩).getD undef, (w.cell? ⟨b, o + 2, none⟩).getD undef, (w.cell? ⟨b, o + 3, none⟩).getD undef, (w.cell? ⟨b, o + 4, none⟩).getD undef, (w.cell? ⟨b, o + 5, none⟩).getD undef, (w.cell? ⟨b, o + 6, none⟩).getD undef, (w.cell? ⟨b, o + 7, none⟩).getD undef, (w.cell? ⟨b, o + 8, none⟩).getD undef]) w := run_lv (P := Tryz.prog) w 41 _ 9 b o Tryz.underlying41 rfl (by kernel_rfl) (forall_lt_succ _ _ (forall_lt_succ _ _ (forall_lt_succ _ _ (forall_lt_succ _ _ (forall_lt_succ _ _ (forall_lt_succ _ _ (forall_lt_succ _ _ (forall_lt_succ _ _ (forall_lt_succ _ _ (fun j hj => absurd hj (Nat.not_lt_zero j)) h0) h1) h2) h3) h4) h5) h6) h7) h8)
def svRop (a : Addr) (v : Value) : Sem Unit := storeVar 41 a v
@[go_sem ↓] theorem svRop_eq (a : Addr) (v : Value) : storeVar 41 a v = svRop a v := rfl
@[go_sem] theorem run_svRop (w : World) (b o : Nat) (v0 v1 v2 v3 v4 v5 v6 v7 v8 : Value) (h0 : (w.cell? ⟨b, o, none⟩).isSome = true) (h1 : (w.cell? ⟨b, o + 1, none⟩).isSome = true) (h2 : (w.cell? ⟨b, o + 2, none⟩).isSome = true) (h3 : (w.cell? ⟨b, o + 3, none⟩).isSome = true) (h4 : (w.cell? ⟨b, o + 4, none⟩).isSome = true) (h5 : (w.cell? ⟨b, o + 5, none⟩).isSome = true) (h6 : (w.cell? ⟨b, o + 6, none⟩).isSome = true) (h7 : (w.cell? ⟨b, o + 7, none⟩).isSome = true) (h8 : (w.cell? ⟨b, o + 8, none⟩).isSome = true) (f0 : w.frozen? ⟨b, o, none⟩ = false) (f1 : w.frozen? ⟨b, o + 1, none⟩ = false) (f2 : w.frozen? ⟨b, o + 2, none⟩ = false) (f3 : w.frozen? ⟨b, o + 3, none⟩ = false) (f4 : w.frozen? ⟨b, o + 4, none⟩ = false) (f5 : w.frozen? ⟨b, o + 5, none⟩ = false) (f6 : w.frozen? ⟨b, o + 6, none⟩ = false) (f7 : w.frozen? ⟨b, o + 7, none⟩ = false) (f8 : w.frozen? ⟨b, o + 8, none⟩ = false) (o0 : v0.oneCell' = true) (o1 : v1.oneCell' = true) (o2 : v2.oneCell' = true) (o3 : v3.oneCell' = true) (o4 : v4.oneCell' = true) (o5 : v5.oneCell' = true) (o6 : v6.oneCell' = true) (o7 : v7.oneCell' = true) (o8 : v8.oneCell' = true) : (svRop ⟨b, o, none⟩ (.agg #[v0, v1, v2, v3, v4, v5, v6, v7, v8])).run Tryz.prog w = .ok () (((((((((w.setCell ⟨b, o, none⟩ v0).setCell ⟨b, o + 1, none⟩ v1).setCell ⟨b, o + 2, none⟩ v2).setCell ⟨b, o + 3, none⟩ v3).setCell ⟨b, o + 4, none⟩ v4).setCell ⟨b, o + 5, none⟩ v5).setCell ⟨b, o + 6, none⟩ v6).setCell ⟨b, o + 7, none⟩ v7).setCell ⟨b, o + 8, none⟩ v8) := run_sv (P := Tryz.prog) w 41 b o [v0, v1, v2, v3, v4, v5, v6, v7, v8] (by kernel_rfl) (forall_lt_succ _ _ (forall_lt_succ _ _ (forall_lt_succ _ _ (forall_lt_succ _ _ (forall_lt_succ _ _ (forall_lt_succ _ _ (forall_lt_succ _ _ (forall_lt_succ _ _ (forall_lt_succ _ _ (fun j hj => absurd hj (Nat.not_lt_zero j)) ⟨h0, f0, o0⟩) ⟨h1, f1, o1⟩) ⟨h2, f2, o2⟩) ⟨h3, f3, o3⟩) ⟨h4, f4, o4⟩) ⟨h5, f5, o5⟩) ⟨h6, f6, o6⟩) ⟨h7, f7, o7⟩) ⟨h8, f8, o8⟩)
def lvWds (a : Addr) : Sem Value := loadVar 59 a
@[go_sem ↓] theorem lvWds_eq (a : Addr) : loadVar 59 a = lvWds a := rfl
@[go_sem] theorem run_lvWds (w : World) (b o : Nat) (h0 : (w.cell? ⟨b, o, none⟩).isSome = true) : (lvWds ⟨b, o, none⟩).run Tryz.prog w = .ok (.agg #[(w.cell? ⟨b, o, none⟩).getD undef]) w := run_lv (P := Tryz.prog) w 59 _ 1 b o Tryz.underlying59 rfl (by kernel_rfl) (forall_lt_succ _ _ (fun j hj => absurd hj (Nat.not_lt_zero j)) h0)
def svWds (a : Addr) (v : Value) : Sem Unit := storeVar 59 a v
@[go_sem ↓] theorem svWds_eq (a : Addr) (v : Value) : storeVar 59 a v = svWds a v := rfl
@[go_sem] theorem run_svWds (w : World) (b o : Nat) (v0 : Value) (h0 : (w.cell? ⟨b, o, none⟩).isSome = true) (f0 : w.frozen? ⟨b, o, none⟩ = false) (o0 : v0.oneCell' = true) : (svWds ⟨b, o, none⟩ (.agg #[v0])).run Tryz.prog w = .ok () (w.setCell ⟨b, o, none⟩ v0) := run_sv (P := Tryz.prog) w 59 b o [v0] (by kernel_rfl) (forall_lt_succ _ _ (fun j hj => absurd hj (Nat.not_lt_zero j)) ⟨h0, f0, o0⟩)
def lvLne (a : Addr) : Sem Value := loadVar 82 a
@[go_sem ↓] theorem lvLne_eq (a : Addr) : loadVar 82 a = lvLne a := rfl
@[go_sem] theorem run_lvLne (w : World) (b o : Nat) (h0 : (w.cell? ⟨b, o, none⟩).isSome = true) : (lvLne ⟨b, o, none⟩).run Tryz.prog w = .ok (.agg #[(w.cell? ⟨b, o, none⟩).getD undef]) w := run_lv (P := Tryz.prog) w 82 _ 1 b o Tryz.underlying82 rfl (by kernel_rfl) (forall_lt_succ _ _ (fun j hj => absurd hj (Nat.not_lt_zero j)) h0)
def svLne (a : Addr) (v : Value) : Sem Unit := storeVar 82 a v
@[go_sem ↓] theorem svLne_eq (a : Addr) (v : Value) : storeVar 82 a v = svLne a v := rfl
@[go_sem] theorem run_svLne (w : World) (b o : Nat) (v0 : Value) (h0 : (w.cell? ⟨b, o, none⟩).isSome = true) (f0 : w.frozen? ⟨b, o, none⟩ = false) (o0 : v0.oneCell' = true) : (svLne ⟨b, o, none⟩ (.agg #[v0])).run Tryz.prog w = .ok () (w.setCell ⟨b, o, none⟩ v0) := run_sv (P := Tryz.prog) w 82 b o [v0] (by kernel_rfl) (forall_lt_succ _ _ (fun j hj => absurd hj (Nat.not_lt_zero j)) ⟨h0, f0, o0⟩)
def lvLin (a : Addr) : Sem Value := loadVar 65 a
@[go_sem ↓] theorem lvLin_eq (a : Addr) : loadVar 65 a = lvLin a := rfl
@[go_sem] theorem run_lvLin (w : World) (b o : Nat) (h0 : (w.cell? ⟨b, o, none⟩).isSome = true) (h1 : (w.cell? ⟨b, o + 1, none⟩).isSome = true) : (lvLin ⟨b, o, none⟩).run Tryz.prog w = .ok (.agg #[(w.cell? ⟨b, o, none⟩).getD undef, (w.cell? ⟨b, o + 1, none⟩).getD undef]) w := run_lv (P := Tryz.prog) w 65 _ 2 b o Tryz.underlying65 rfl (by kernel_rfl) (forall_lt_succ _ _ (forall_lt_succ _ _ (fun j hj => absurd hj (Nat.not_lt_zero j)) h0) h1)
def svLin (a : Addr) (v : Value) : Sem Unit := storeVar 65 a v
@[go_sem ↓] theorem svLin_eq (a : Addr) (v : Value) : storeVar 65 a v = svLin a v := rfl
@[go_sem] theorem run_svLin (w : World) (b o : Nat) (v0 v1 : Value) (h0 : (w.cell? ⟨b, o, none⟩).isSome = true) (h1 : (w.cell? ⟨b, o + 1, none⟩).isSome = true) (f0 : w.frozen? ⟨b, o, none⟩ = false) (f1 : w.frozen? ⟨b, o + 1, none⟩ = false) (o0 : v0.oneCell' = true) (o1 : v1.oneCell' = true) : (svLin ⟨b, o, none⟩ (.agg #[v0, v1])).run Tryz.prog w = .ok () ((w.setCell ⟨b, o, none⟩ v0).setCell ⟨b, o + 1, none⟩ v1) := run_sv (P := Tryz.prog) w 65 b o [v0, v1] (by kernel_rfl) (forall_lt_succ _ _ (forall_lt_succ _ _ (fun j hj => absurd hj (Nat.not_lt_zero j)) ⟨h0, f0, o0⟩) ⟨h1, f1, o1⟩)
end Go.Proofs.YtbdanlipghhgpaaGreatDoor

namespace Go.Proofs.YtbdanlipghhgpaaGreatDoor
open Go.RowKit
structure Hd where
  a : Option Addr
  n : Nat
  c : Nat
def Hd.v (h : Hd) : Value := .slice h.a h.n h.c
end Go.Proofs.YtbdanlipghhgpaaGreatDoor

