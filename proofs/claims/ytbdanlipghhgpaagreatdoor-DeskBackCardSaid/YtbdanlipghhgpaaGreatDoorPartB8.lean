/- Contracts of the program, part 8. -/
import Derived.Deep.RegionLaw
import Derived.RegionDies
import Derived.Deep.AppendLies
import Derived.Laws.EntriesVeiled
import Derived.WalkKit
import Derived.WalkSpells
import Derived.WalkLawsBesides
import Derived.Laws.Cells
import Derived.Laws.IdiomCopy
import Derived.Test.YtbdanlipghhgpaaGreatDoorRows
import Derived.Lib.Bytealg
import Derived.Lib.Hide
import Derived.ProofKit
import Derived.OpenShut
import Derived.Deep.Slices
import Derived.ChangeOld
import Derived.SizedLaws
import Derived.Deep.QuietTactic
import Derived.BigQuiet
import Derived.Below
import Derived.Deep.Draws
import Derived.StillTailTactics
import Derived.ShutString
import Derived.Lib.Atoi
import Derived.Lib.ItoaNum
import Derived.Lib.Split
import Derived.Lib.SplitLaws
import Derived.Lib.CutLaws
import Derived.Lib.Strings
import Derived.Lib.SlTrimSet
import Derived.Deep.Upon
import Derived.OwnWalk
import Derived.Laws.AppendOwn
import Derived.Shelf.Strings.Builder1
import Derived.Shelf.Strings.Builder2
import Derived.Shelf.Strings.OnBuilder
import Derived.Shelf.Strings.Trim
import Derived.Shelf.Small.Utf8
import Derived.Shelf.Small.Strs
import Derived.Shelf.Small.Wraps
import Derived.Shelf.Strconv.Atoi
import Derived.Shelf.Strconv.Itoa0
import Derived.Shelf.Strconv.Itoa1
import Derived.Shelf.LaysM
import Derived.Shelf.Strconv.Itoa2
import Derived.Shelf.Strconv.Itoa3
import Derived.Shelf.Strings.Search1
import Derived.Shelf.Strings.Search2
import Derived.Shelf.Strings.Search3
import Derived.Shelf.Strings.Cut
import Derived.Shelf.Strings.Count
import Derived.Shelf.Strings.Shaped
import Derived.Shelf.Strings.Prefix
import Derived.Shelf.Strings.Split
import Derived.Shelf.Strings.Runes
import Derived.Shelf.Strings.AsciiSet
import Derived.Shelf.Unicode.DecodeSlow
import Derived.Shelf.Slices.Equal
import Derived.Shelf.Slices.Empties2
import Derived.Shelf.Strings.SlTrimAscii
import Derived.Test.YtbdanlipghhgpaaGreatDoorProg
import Derived.Test.YtbdanlipghhgpaaGreatDoorPartB1
import Derived.Test.YtbdanlipghhgpaaGreatDoorPartB2
import Derived.Test.YtbdanlipghhgpaaGreatDoorPartB3
import Derived.Test.YtbdanlipghhgpaaGreatDoorPartB4
import Derived.Test.YtbdanlipghhgpaaGreatDoorPartB5
import Derived.Test.YtbdanlipghhgpaaGreatDoorPartB6
import Derived.Test.YtbdanlipghhgpaaGreatDoorPartB7
namespace Go.Proofs.YtbdanlipghhgpaaGreatDoor
open Go.RowKit Go.Deep
set_option maxRecDepth 100000
set_option linter.unusedVariables false
def actV (a : Dact) (A : Option Addr) (k : Nat) (A2 : Option Addr) (k2 : Nat) (A3 : Option Addr) (k3 : Nat) : List Value :=
  [.int .i64 a.kind, .int .i64 a.node, .int .i64 a.n, .int .i64 a.client, .int .i64 a.number] ++ (cmdV a.cmd A k A2 k2 ++ ([.int .i64 a.ck, .int .i64 a.cn] ++ ropV a.row A3 k3))
structure RopOk (x : ROp) : Prop where
  role : NmZ x.role
  schema : NmZ x.schema
  table : NmZ x.table
  col : NmZ x.col
  text : Small x.v.text.size
def ActV (b B : Nat) (w' : World) (v : Value) (a : Dact) : Prop :=
  ∃ A k A2 k2 A3 k3, v = .agg (actV a A k A2 k2 A3 k3).toArray ∧ ColsV b B w' (.slice A a.cmd.cols.length k) a.cmd.cols ∧ NamesV b B w' (.slice A2 a.cmd.rule.cols.length k2) a.cmd.rule.cols ∧ ValsV b B w' (.slice A3 a.row.row.length k3) a.row.row ∧ CmdOk a.cmd ∧ RopOk a.row
theorem cmdOk_z : CmdOk zCmd := ⟨.inl rfl, .inl rfl, .inl rfl, .inl rfl, .inl rfl, .inl rfl, .inl rfl, .inl rfl, .inl rfl⟩
theorem ropOk_z : RopOk zROp := ⟨.inl rfl, .inl rfl, .inl rfl, .inl rfl, small_z⟩
theorem actV_plain {b B : Nat} {w : World} {v : Value} {a : Dact} (hb : b < B) (hv : v = .agg (actV a none 0 none 0 none 0).toArray) (hc : a.cmd = zCmd) (hr : a.row = zROp) : ActV b B w v a :=
  ⟨none, 0, none, 0, none, 0, hv, by rw [hc]; exact cols_nil b B w hb, by rw [hc]; exact names_nil b B w hb, by rw [hr]; exact vals_nil b B w hb, by rw [hc]; exact cmdOk_z, by rw [hr]; exact ropOk_z⟩
theorem act_cases {b p B : Nat} {W : Ws} {w : World} {o : Option (Dact × Ws)} {e : Ending} {w' : World} (h : RdQ b p w (ActV b B) o e w') :
    (o = none ∧ e = .panicked [{ v := .iface 74 (.agg #[]), recovered := false }] ∧ Kw b w w') ∨ ∃ a A k A2 k2 A3 k3 W', o = some (a, W') ∧ e = .returned (.agg (actV a A k A2 k2 A3 k3).toArray) ∧
      (ColsV b B w' (.slice A a.cmd.cols.length k) a.cmd.cols ∧ NamesV b B w' (.slice A2 a.cmd.rule.cols.length k2) a.cmd.rule.cols ∧ ValsV b B w' (.slice A3 a.row.row.length k3) a.row.row ∧ CmdOk a.cmd ∧ RopOk a.row) ∧ WdS w' b p W' ∧ Kw b w w' := by
  obtain ⟨k, h2⟩ := h
  cases o with
  | none => exact .inl ⟨rfl, h2, k⟩
  | some y =>
    obtain ⟨a, W'⟩ := y
    obtain ⟨v, rfl, ⟨A, q, A2, q2, A3, q3, rfl, h3⟩, h4⟩ := h2
    exact .inr ⟨a, A, q, A2, q2, A3, q3, W', rfl, rfl, h3, h4, k⟩
structure Br (b p r : Nat) (w V : World) (W : Ws) (zs : List Value) : Prop where
  ds : WdS V b p W
  res : RowAt V r zs
  kw : Kw b w V
  fb : b < w.heap.size
  fp : p < w.heap.size
  fl : 0 < b
  fr : w.heap.size ≤ r
theorem Br.call {b p r : Nat} {w V V1 : World} {W W1 : Ws} {zs : List Value} (X : Br b p r w V W zs) (k : Kw b V V1) (d : WdS V1 b p W1) : Br b p r w V1 W1 zs :=
  ⟨d, X.res.kw k (by have := X.fb; have := X.fr; omega), X.kw.trans k, X.fb, X.fp, X.fl, X.fr⟩
theorem Br.start {b p : Nat} {w w1 : World} {W : Ws} {zs : List Value} {t : TypeId} (hb : b < w.heap.size) (hp : p < w.heap.size) (hl : 0 < b) (k : Kw b (w.alloc (.cells zs.toArray t)) w1) (d : WdS w1 b p W) : Br b p w.heap.size w w1 W zs :=
  ⟨d, (rowAt_newD w zs t).kw k (by omega), ((Kw.refl b w).alloc _).trans k, hb, hp, hl, Nat.le_refl _⟩
theorem Br.fin {b p r : Nat} {w V : World} {W : Ws} {zs cs : List Value} (X : Br b p r w V W zs) (hz : zs.length = cs.length) :
    RowAt (V.setCells r 0 cs) r cs ∧ Kw b w (V.setCells r 0 cs) ∧ WdS (V.setCells r 0 cs) b p W ∧ Kb (fun k => k = r) V (V.setCells r 0 cs) := by
  have kb := kb_setCellsD r cs V 0
  refine ⟨by simpa using row_setCells cs V [] zs X.res hz, ?_, X.ds.kb kb (by have := X.fb; have := X.fr; omega) (by have := X.fp; have := X.fr; omega) (by have := X.fb; have := X.fl; have := X.fr; omega), kb⟩
  exact ⟨kb.os.trans X.kw.os, kb.tape.trans X.kw.tape, kb.output.trans X.kw.output, Nat.le_trans X.kw.size kb.size, fun j hj hne => (kb.block j (Nat.lt_of_lt_of_le hj X.kw.size) (by have := X.fr; omega)).trans (X.kw.block j hj hne)⟩
theorem row_setMid {x : Nat} : ∀ (vs mid post : List Value) (V : World) (pre : List Value), RowAt V x (pre ++ (mid ++ post)) → mid.length = vs.length → RowAt (V.setCells x pre.length vs) x (pre ++ (vs ++ post))
  | [], mid, post, V, pre, h, hl => by
    have : mid = [] := List.eq_nil_of_length_eq_zero hl
    subst this; exact h
  | v :: vs, [], post, V, pre, h, hl => by simp at hl
  | v :: vs, c :: mid, post, V, pre, h, hl => by
    have h1 := h.set pre.length v (by simp)
    have e : (pre ++ (c :: mid ++ post)).set pre.length v = (pre ++ [v]) ++ (mid ++ post) := by simp
    rw [e] at h1
    have h2 := row_setMid vs mid post _ (pre ++ [v]) h1 (by simpa using hl)
    rw [show (pre ++ [v]).length = pre.length + 1 by simp, List.append_assoc] at h2
    exact h2
theorem Bx.sets {b p r x : Nat} {w V : World} {W : Ws} {zs : List Value} {pre mid post vs : List Value} (X : Bx b p r x w V W zs (pre ++ (mid ++ post))) (S : Bs b p r x w) (hm : mid.length = vs.length) : Bx b p r x w (V.setCells x pre.length vs) W zs (pre ++ (vs ++ post)) := by
  have kb := kb_setCellsD x vs V pre.length
  refine ⟨X.ds.kb kb (by have := S.fb; have := S.fx; omega) (by have := S.fp; have := S.fx; omega) (by have := S.fb; have := S.fl; have := S.fx; omega), ?_, Kb.row kb X.res S.fn, ?_⟩
  · exact row_setMid vs mid post V pre X.row hm
  · exact ⟨kb.os.trans X.kw.os, kb.tape.trans X.kw.tape, kb.output.trans X.kw.output, Nat.le_trans X.kw.size kb.size, fun j hj hne => (kb.block j (Nat.lt_of_lt_of_le hj X.kw.size) (by have := S.fx; omega)).trans (X.kw.block j hj hne)⟩
def actT (f : ByteArray) (W : Ws) : Option (Dact × Ws) :=
  if eqS f b_tick then (numP W).bind fun (n, W) => some ({ zAct with kind := 1, node := n }, W)
  else if eqS f b_world then some ({ zAct with kind := 2 }, W)
  else if eqS f b_start then (numP W).bind fun (n, W) => some ({ zAct with kind := 12, node := n }, W)
  else if eqS f b_deliver then (numP W).bind fun (n, W) => some ({ zAct with kind := 3, n := n }, W)
  else if eqS f b_drop then (numP W).bind fun (n, W) => some ({ zAct with kind := 4, n := n }, W)
  else if eqS f b_double then (numP W).bind fun (n, W) => some ({ zAct with kind := 5, n := n }, W)
  else if eqS f b_ask then (threeP 6 W).bind fun (a, W) => (cmdP W).bind fun (x, W) => some ({ a with cmd := x }, W)
  else if eqS f b_read then threeP 7 W
  else if eqS f b_learner then chgP 1 W
  else if eqS f b_voter then chgP 2 W
  else if eqS f b_remove then chgP 3 W
  else if eqS f b_lease then (numP W).bind fun (n, W) => (numP W).bind fun (m, W) => some ({ zAct with kind := 9, n := n, node := m }, W)
  else if eqS f b_row then (numP W).bind fun (n, W) => (rowP W).bind fun (x, W) => some ({ zAct with kind := 10, n := n, row := x }, W)
  else if eqS f b_crash then (numP W).bind fun (n, W) => (numP W).bind fun (m, W) => some ({ zAct with kind := 11, node := n, n := m }, W)
  else none
theorem actP_cons (f : ByteArray) (W : Ws) : actP (f :: W) = actT f W := rfl
theorem act_tick (W : Ws) : actP (b_tick :: W) = ((numP W).bind fun (n, W) => some ({ zAct with kind := 1, node := n }, W)) := by
  rw [actP_cons]; unfold actT
  rw [if_pos (eqS_yes _)]
theorem act_world (W : Ws) : actP (b_world :: W) = (some ({ zAct with kind := 2 }, W)) := by
  rw [actP_cons]; unfold actT
  rw [if_neg (neB (by decide)), if_pos (eqS_yes _)]
theorem act_start (W : Ws) : actP (b_start :: W) = ((numP W).bind fun (n, W) => some ({ zAct with kind := 12, node := n }, W)) := by
  rw [actP_cons]; unfold actT
  rw [if_neg (neB (by decide)), if_neg (neB (by decide)), if_pos (eqS_yes _)]
theorem act_deliver (W : Ws) : actP (b_deliver :: W) = ((numP W).bind fun (n, W) => some ({ zAct with kind := 3, n := n }, W)) := by
  rw [actP_cons]; unfold actT
  rw [if_neg (neB (by decide)), if_neg (neB (by decide)), if_neg (neB (by decide)), if_pos (eqS_yes _)]
theorem act_drop (W : Ws) : actP (b_drop :: W) = ((numP W).bind fun (n, W) => some ({ zAct with kind := 4, n := n }, W)) := by
  rw [actP_cons]; unfold actT
  rw [if_neg (neB (by decide)), if_neg (neB (by decide)), if_neg (neB (by decide)), if_neg (neB (by decide)), if_pos (eqS_yes _)]
theorem act_double (W : Ws) : actP (b_double :: W) = ((numP W).bind fun (n, W) => some ({ zAct with kind := 5, n := n }, W)) := by
  rw [actP_cons]; unfold actT
  rw [if_neg (neB (by decide)), if_neg (neB (by decide)), if_neg (neB (by decide)), if_neg (neB (by decide)), if_neg (neB (by decide)), if_pos (eqS_yes _)]
theorem act_ask (W : Ws) : actP (b_ask :: W) = ((threeP 6 W).bind fun (a, W) => (cmdP W).bind fun (x, W) => some ({ a with cmd := x }, W)) := by
  rw [actP_cons]; unfold actT
  rw [if_neg (neB (by decide)), if_neg (neB (by decide)), if_neg (neB (by decide)), if_neg (neB (by decide)), if_neg (neB (by decide)), if_neg (neB (by decide)), if_pos (eqS_yes _)]
theorem act_read (W : Ws) : actP (b_read :: W) = (threeP 7 W) := by
  rw [actP_cons]; unfold actT
  rw [if_neg (neB (by decide)), if_neg (neB (by decide)), if_neg (neB (by decide)), if_neg (neB (by decide)), if_neg (neB (by decide)), if_neg (neB (by decide)), if_neg (neB (by decide)), if_pos (eqS_yes _)]
theorem act_learner (W : Ws) : actP (b_learner :: W) = (chgP 1 W) := by
  rw [actP_cons]; unfold actT
  rw [if_neg (neB (by decide)), if_neg (neB (by decide)), if_neg (neB (by decide)), if_neg (neB (by decide)), if_neg (neB (by decide)), if_neg (neB (by decide)), if_neg (neB (by decide)), if_neg (neB (by decide)), if_pos (eqS_yes _)]
theorem act_voter (W : Ws) : actP (b_voter :: W) = (chgP 2 W) := by
  rw [actP_cons]; unfold actT
  rw [if_neg (neB (by decide)), if_neg (neB (by decide)), if_neg (neB (by decide)), if_neg (neB (by decide)), if_neg (neB (by decide)), if_neg (neB (by decide)), if_neg (neB (by decide)), if_neg (neB (by decide)), if_neg (neB (by decide)), if_pos (eqS_yes _)]
theorem act_remove (W : Ws) : actP (b_remove :: W) = (chgP 3 W) := by
  rw [actP_cons]; unfold actT
  rw [if_neg (neB (by decide)), if_neg (neB (by decide)), if_neg (neB (by decide)), if_neg (neB (by decide)), if_neg (neB (by decide)), if_neg (neB (by decide)), if_neg (neB (by decide)), if_neg (neB (by decide)), if_neg (neB (by decide)), if_neg (neB (by decide)), if_pos (eqS_yes _)]
theorem act_lease (W : Ws) : actP (b_lease :: W) = ((numP W).bind fun (n, W) => (numP W).bind fun (m, W) => some ({ zAct with kind := 9, n := n, node := m }, W)) := by
  rw [actP_cons]; unfold actT
  rw [if_neg (neB (by decide)), if_neg (neB (by decide)), if_neg (neB (by decide)), if_neg (neB (by decide)), if_neg (neB (by decide)), if_neg (neB (by decide)), if_neg (neB (by decide)), if_neg (neB (by decide)), if_neg (neB (by decide)), if_neg (neB (by decide)), if_neg (neB (by decide)), if_pos (eqS_yes _)]
theorem act_row (W : Ws) : actP (b_row :: W) = ((numP W).bind fun (n, W) => (rowP W).bind fun (x, W) => some ({ zAct with kind := 10, n := n, row := x }, W)) := by
  rw [actP_cons]; unfold actT
  rw [if_neg (neB (by decide)), if_neg (neB (by decide)), if_neg (neB (by decide)), if_neg (neB (by decide)), if_neg (neB (by decide)), if_neg (neB (by decide)), if_neg (neB (by decide)), if_neg (neB (by decide)), if_neg (neB (by decide)), if_neg (neB (by decide)), if_neg (neB (by decide)), if_neg (neB (by decide)), if_pos (eqS_yes _)]
theorem act_crash (W : Ws) : actP (b_crash :: W) = ((numP W).bind fun (n, W) => (numP W).bind fun (m, W) => some ({ zAct with kind := 11, node := n, n := m }, W)) := by
  rw [actP_cons]; unfold actT
  rw [if_neg (neB (by decide)), if_neg (neB (by decide)), if_neg (neB (by decide)), if_neg (neB (by decide)), if_neg (neB (by decide)), if_neg (neB (by decide)), if_neg (neB (by decide)), if_neg (neB (by decide)), if_neg (neB (by decide)), if_neg (neB (by decide)), if_neg (neB (by decide)), if_neg (neB (by decide)), if_neg (neB (by decide)), if_pos (eqS_yes _)]
set_option maxHeartbeats 4000000 in
theorem change_rd (k : Int) (b p : Nat) (W : Ws) (w : World) (h : WdS w b p W) : Calls Tryz.prog 30 #[.pointer (some ⟨b, 0, none⟩), .int .i64 k] w (RdQ b p w (ActV b w.heap.size) (chgP k W)) := by
  have HI := Lib.hid (fun w1 W (h : WdS w1 b p W) => number_rd b p W w1 h)
  have HH := Lib.hid (h.aft ((Aft.refl w).alloc (.cells #[.int .i64 0, .int .i64 0, .int .i64 0, .int .i64 0, .int .i64 0, .int .i64 0, .string ⟨#[]⟩, .string ⟨#[]⟩, .string ⟨#[]⟩, .string ⟨#[]⟩, .string ⟨#[]⟩, .slice none 0 0, .string ⟨#[]⟩, .int .i64 0, .slice none 0 0, .int .i64 0, .int .i64 0, .string ⟨#[]⟩, .string ⟨#[]⟩, .string ⟨#[]⟩, .int .i64 0, .bool false, .int .i64 0, .int .i64 0, .int .i64 0, .string ⟨#[]⟩, .string ⟨#[]⟩, .string ⟨#[]⟩, .slice none 0 0, .string ⟨#[]⟩, .int .i64 0, .int .i64 0, .string ⟨#[]⟩] 43)))
  have hb := h.lt
  have HPL := Lib.hid h.plt
  have HLO := Lib.hid h.low
  clear h
  go_enter Tryz.func30, Tryz.ntmps30
  go_wp2_with (first
    | (go_at_call 28; with_reducible refine (HI.out _ _ HH.out).mono ?_; rintro e w1 q; rcases number_cases q with ⟨n, rfl, k1⟩ | ⟨s1, W1, n, rfl, d, k1⟩; all_goals (have N1 := Lib.hid n; have K1 := Lib.hid (((Kw.refl b w).alloc _).trans k1); clear n q; try (have X1 := Lib.hid (Br.start (zs := [.int .i64 0, .int .i64 0, .int .i64 0, .int .i64 0, .int .i64 0, .int .i64 0, .string ⟨#[]⟩, .string ⟨#[]⟩, .string ⟨#[]⟩, .string ⟨#[]⟩, .string ⟨#[]⟩, .slice none 0 0, .string ⟨#[]⟩, .int .i64 0, .slice none 0 0, .int .i64 0, .int .i64 0, .string ⟨#[]⟩, .string ⟨#[]⟩, .string ⟨#[]⟩, .int .i64 0, .bool false, .int .i64 0, .int .i64 0, .int .i64 0, .string ⟨#[]⟩, .string ⟨#[]⟩, .string ⟨#[]⟩, .slice none 0 0, .string ⟨#[]⟩, .int .i64 0, .int .i64 0, .string ⟨#[]⟩]) hb HPL.out HLO.out k1 d); clear d k1)))
    | (go_at_call 28; with_reducible refine (HI.out _ _ X1.out.ds).mono ?_; rintro e w2 q; rcases number_cases q with ⟨n, rfl, k1⟩ | ⟨s2, W2, n, rfl, d, k1⟩; all_goals (have N2 := Lib.hid n; have K2 := Lib.hid (X1.out.kw.trans k1); clear n q; try (have X2 := Lib.hid (X1.out.call k1 d); have e2 := svAct_row (vs := [.int .i64 8, .int .i64 s1, .int .i64 0, .int .i64 0, .int .i64 0, .int .i64 0, .string ⟨#[]⟩, .string ⟨#[]⟩, .string ⟨#[]⟩, .string ⟨#[]⟩, .string ⟨#[]⟩, .slice none 0 0, .string ⟨#[]⟩, .int .i64 0, .slice none 0 0, .int .i64 0, .int .i64 0, .string ⟨#[]⟩, .string ⟨#[]⟩, .string ⟨#[]⟩, .int .i64 0, .bool false, .int .i64 k, .int .i64 s2, .int .i64 0, .string ⟨#[]⟩, .string ⟨#[]⟩, .string ⟨#[]⟩, .slice none 0 0, .string ⟨#[]⟩, .int .i64 0, .int .i64 0, .string ⟨#[]⟩]) X2.out.res rfl rfl (by simp [Value.oneCell']); clear d k1))))
  · exact ⟨rfl, K1.out, by rw [show chgP k W = none by simp only [chgP, N1.out, Option.bind_none]]; rfl⟩
  · exact ⟨rfl, K2.out, by rw [show chgP k W = none by simp only [chgP, N1.out, N2.out, Option.bind_some, Option.bind_none]]; rfl⟩
  · obtain ⟨rf, kwf, wdf, kbf⟩ := X2.out.fin (cs := [.int .i64 8, .int .i64 s1, .int .i64 0, .int .i64 0, .int .i64 0, .int .i64 0, .string ⟨#[]⟩, .string ⟨#[]⟩, .string ⟨#[]⟩, .string ⟨#[]⟩, .string ⟨#[]⟩, .slice none 0 0, .string ⟨#[]⟩, .int .i64 0, .slice none 0 0, .int .i64 0, .int .i64 0, .string ⟨#[]⟩, .string ⟨#[]⟩, .string ⟨#[]⟩, .int .i64 0, .bool false, .int .i64 k, .int .i64 s2, .int .i64 0, .string ⟨#[]⟩, .string ⟨#[]⟩, .string ⟨#[]⟩, .slice none 0 0, .string ⟨#[]⟩, .int .i64 0, .int .i64 0, .string ⟨#[]⟩]) rfl
    refine bodyPost_ret (results_cell rfl _ rfl (lv_row (T := 43) Tryz.underlying43 (by kernel_rfl) rf rfl)) rfl ?_
    refine ⟨kwf, ?_⟩
    rw [show chgP k W = some ({ zAct with kind := 8, node := s1, ck := k, cn := s2 }, W2) by simp only [chgP, N1.out, N2.out, Option.bind_some]]
    exact ⟨_, rfl, actV_plain hb rfl rfl rfl, wdf⟩
set_option maxHeartbeats 8000000 in
theorem rdact_tick (b p : Nat) (WW : Ws) (w : World) (h : WdS w b p (b_tick :: WW)) : Calls Tryz.prog 17 #[.pointer (some ⟨b, 0, none⟩)] w (RdQ b p w (ActV b w.heap.size) (actP (b_tick :: WW))) := by
  have HI := Lib.hid (fun w1 W (h : WdS w1 b p W) => number_rd b p W w1 h)
  have HW0 := Lib.hid (show Calls Tryz.prog 27 #[.pointer (some ⟨b, 0, none⟩)] (w.alloc (.cells #[.int .i64 0, .int .i64 0, .int .i64 0, .int .i64 0, .int .i64 0, .int .i64 0, .string ⟨#[]⟩, .string ⟨#[]⟩, .string ⟨#[]⟩, .string ⟨#[]⟩, .string ⟨#[]⟩, .slice none 0 0, .string ⟨#[]⟩, .int .i64 0, .slice none 0 0, .int .i64 0, .int .i64 0, .string ⟨#[]⟩, .string ⟨#[]⟩, .string ⟨#[]⟩, .int .i64 0, .bool false, .int .i64 0, .int .i64 0, .int .i64 0, .string ⟨#[]⟩, .string ⟨#[]⟩, .string ⟨#[]⟩, .slice none 0 0, .string ⟨#[]⟩, .int .i64 0, .int .i64 0, .string ⟨#[]⟩] 43)) fun e w' => e = .returned (.string ⟨#[116, 105, 99, 107]⟩) ∧ WdS w' b p WW ∧ Kw b (w.alloc (.cells #[.int .i64 0, .int .i64 0, .int .i64 0, .int .i64 0, .int .i64 0, .int .i64 0, .string ⟨#[]⟩, .string ⟨#[]⟩, .string ⟨#[]⟩, .string ⟨#[]⟩, .string ⟨#[]⟩, .slice none 0 0, .string ⟨#[]⟩, .int .i64 0, .slice none 0 0, .int .i64 0, .int .i64 0, .string ⟨#[]⟩, .string ⟨#[]⟩, .string ⟨#[]⟩, .int .i64 0, .bool false, .int .i64 0, .int .i64 0, .int .i64 0, .string ⟨#[]⟩, .string ⟨#[]⟩, .string ⟨#[]⟩, .slice none 0 0, .string ⟨#[]⟩, .int .i64 0, .int .i64 0, .string ⟨#[]⟩] 43)) w' from word_yes b p b_tick WW _ (h.aft ((Aft.refl w).alloc _)))
  have hb := h.lt
  have HPL := Lib.hid h.plt
  have HLO := Lib.hid h.low
  clear h
  go_enter Tryz.func17, Tryz.ntmps17
  go_wp2_with (first
    | (go_at_call 27; with_reducible refine HW0.out.mono ?_; rintro e w1 ⟨rfl, d, k1⟩; have X1 := Lib.hid (Br.start (zs := [.int .i64 0, .int .i64 0, .int .i64 0, .int .i64 0, .int .i64 0, .int .i64 0, .string ⟨#[]⟩, .string ⟨#[]⟩, .string ⟨#[]⟩, .string ⟨#[]⟩, .string ⟨#[]⟩, .slice none 0 0, .string ⟨#[]⟩, .int .i64 0, .slice none 0 0, .int .i64 0, .int .i64 0, .string ⟨#[]⟩, .string ⟨#[]⟩, .string ⟨#[]⟩, .int .i64 0, .bool false, .int .i64 0, .int .i64 0, .int .i64 0, .string ⟨#[]⟩, .string ⟨#[]⟩, .string ⟨#[]⟩, .slice none 0 0, .string ⟨#[]⟩, .int .i64 0, .int .i64 0, .string ⟨#[]⟩]) hb HPL.out HLO.out k1 d); clear d k1)
    | (go_at_call 28; with_reducible refine (HI.out _ _ X1.out.ds).mono ?_; rintro e w2 q; rcases number_cases q with ⟨n, rfl, k1⟩ | ⟨s2, W2, n, rfl, d, k1⟩; all_goals (have N2 := Lib.hid n; have K2 := Lib.hid (X1.out.kw.trans k1); clear n q; try (have X2 := Lib.hid (X1.out.call k1 d); have e2 := svAct_row (vs := [.int .i64 1, .int .i64 s2, .int .i64 0, .int .i64 0, .int .i64 0, .int .i64 0, .string ⟨#[]⟩, .string ⟨#[]⟩, .string ⟨#[]⟩, .string ⟨#[]⟩, .string ⟨#[]⟩, .slice none 0 0, .string ⟨#[]⟩, .int .i64 0, .slice none 0 0, .int .i64 0, .int .i64 0, .string ⟨#[]⟩, .string ⟨#[]⟩, .string ⟨#[]⟩, .int .i64 0, .bool false, .int .i64 0, .int .i64 0, .int .i64 0, .string ⟨#[]⟩, .string ⟨#[]⟩, .string ⟨#[]⟩, .slice none 0 0, .string ⟨#[]⟩, .int .i64 0, .int .i64 0, .string ⟨#[]⟩]) X2.out.res rfl rfl (by simp [Value.oneCell']); clear d k1))))
  · exact ⟨rfl, K2.out, by rw [show actP (b_tick :: WW) = none by simp only [act_tick, N2.out, Option.bind_some, Option.bind_none]]; rfl⟩
  · obtain ⟨rf, kwf, wdf, kbf⟩ := X2.out.fin (cs := [.int .i64 1, .int .i64 s2, .int .i64 0, .int .i64 0, .int .i64 0, .int .i64 0, .string ⟨#[]⟩, .string ⟨#[]⟩, .string ⟨#[]⟩, .string ⟨#[]⟩, .string ⟨#[]⟩, .slice none 0 0, .string ⟨#[]⟩, .int .i64 0, .slice none 0 0, .int .i64 0, .int .i64 0, .string ⟨#[]⟩, .string ⟨#[]⟩, .string ⟨#[]⟩, .int .i64 0, .bool false, .int .i64 0, .int .i64 0, .int .i64 0, .string ⟨#[]⟩, .string ⟨#[]⟩, .string ⟨#[]⟩, .slice none 0 0, .string ⟨#[]⟩, .int .i64 0, .int .i64 0, .string ⟨#[]⟩]) rfl
    refine bodyPost_ret (results_cell rfl _ rfl (lv_row (T := 43) Tryz.underlying43 (by kernel_rfl) rf rfl)) rfl ?_
    refine ⟨kwf, ?_⟩
    rw [show actP (b_tick :: WW) = some ({ zAct with kind := 1, node := s2 }, W2) by simp only [act_tick, N2.out, Option.bind_some]]
    exact ⟨_, rfl, actV_plain hb rfl rfl rfl, wdf⟩
set_option maxHeartbeats 8000000 in
theorem rdact_start (b p : Nat) (WW : Ws) (w : World) (h : WdS w b p (b_start :: WW)) : Calls Tryz.prog 17 #[.pointer (some ⟨b, 0, none⟩)] w (RdQ b p w (ActV b w.heap.size) (actP (b_start :: WW))) := by
  have HI := Lib.hid (fun w1 W (h : WdS w1 b p W) => number_rd b p W w1 h)
  have HW0 := Lib.hid (show Calls Tryz.prog 27 #[.pointer (some ⟨b, 0, none⟩)] (w.alloc (.cells #[.int .i64 0, .int .i64 0, .int .i64 0, .int .i64 0, .int .i64 0, .int .i64 0, .string ⟨#[]⟩, .string ⟨#[]⟩, .string ⟨#[]⟩, .string ⟨#[]⟩, .string ⟨#[]⟩, .slice none 0 0, .string ⟨#[]⟩, .int .i64 0, .slice none 0 0, .int .i64 0, .int .i64 0, .string ⟨#[]⟩, .string ⟨#[]⟩, .string ⟨#[]⟩, .int .i64 0, .bool false, .int .i64 0, .int .i64 0, .int .i64 0, .string ⟨#[]⟩, .string ⟨#[]⟩, .string ⟨#[]⟩, .slice none 0 0, .string ⟨#[]⟩, .int .i64 0, .int .i64 0, .string ⟨#[]⟩] 43)) fun e w' => e = .returned (.string ⟨#[115, 116, 97, 114, 116]⟩) ∧ WdS w' b p WW ∧ Kw b (w.alloc (.cells #[.int .i64 0, .int .i64 0, .int .i64 0, .int .i64 0, .int .i64 0, .int .i64 0, .string ⟨#[]⟩, .string ⟨#[]⟩, .string ⟨#[]⟩, .string ⟨#[]⟩, .string ⟨#[]⟩, .slice none 0 0, .string ⟨#[]⟩, .int .i64 0, .slice none 0 0, .int .i64 0, .int .i64 0, .string ⟨#[]⟩, .string ⟨#[]⟩, .string ⟨#[]⟩, .int .i64 0, .bool false, .int .i64 0, .int .i64 0, .int .i64 0, .string ⟨#[]⟩, .string ⟨#[]⟩, .string ⟨#[]⟩, .slice none 0 0, .string ⟨#[]⟩, .int .i64 0, .int .i64 0, .string ⟨#[]⟩] 43)) w' from word_yes b p b_start WW _ (h.aft ((Aft.refl w).alloc _)))
  have hb := h.lt
  have HPL := Lib.hid h.plt
  have HLO := Lib.hid h.low
  clear h
  go_enter Tryz.func17, Tryz.ntmps17
  go_wp2_with (first
    | (go_at_call 27; with_reducible refine HW0.out.mono ?_; rintro e w1 ⟨rfl, d, k1⟩; have X1 := Lib.hid (Br.start (zs := [.int .i64 0, .int .i64 0, .int .i64 0, .int .i64 0, .int .i64 0, .int .i64 0, .string ⟨#[]⟩, .string ⟨#[]⟩, .string ⟨#[]⟩, .string ⟨#[]⟩, .string ⟨#[]⟩, .slice none 0 0, .string ⟨#[]⟩, .int .i64 0, .slice none 0 0, .int .i64 0, .int .i64 0, .string ⟨#[]⟩, .string ⟨#[]⟩, .string ⟨#[]⟩, .int .i64 0, .bool false, .int .i64 0, .int .i64 0, .int .i64 0, .string ⟨#[]⟩, .string ⟨#[]⟩, .string ⟨#[]⟩, .slice none 0 0, .string ⟨#[]⟩, .int .i64 0, .int .i64 0, .string ⟨#[]⟩]) hb HPL.out HLO.out k1 d); clear d k1)
    | (go_at_call 28; with_reducible refine (HI.out _ _ X1.out.ds).mono ?_; rintro e w2 q; rcases number_cases q with ⟨n, rfl, k1⟩ | ⟨s2, W2, n, rfl, d, k1⟩; all_goals (have N2 := Lib.hid n; have K2 := Lib.hid (X1.out.kw.trans k1); clear n q; try (have X2 := Lib.hid (X1.out.call k1 d); have e2 := svAct_row (vs := [.int .i64 12, .int .i64 s2, .int .i64 0, .int .i64 0, .int .i64 0, .int .i64 0, .string ⟨#[]⟩, .string ⟨#[]⟩, .string ⟨#[]⟩, .string ⟨#[]⟩, .string ⟨#[]⟩, .slice none 0 0, .string ⟨#[]⟩, .int .i64 0, .slice none 0 0, .int .i64 0, .int .i64 0, .string ⟨#[]⟩, .string ⟨#[]⟩, .string ⟨#[]⟩, .int .i64 0, .bool false, .int .i64 0, .int .i64 0, .int .i64 0, .string ⟨#[]⟩, .string ⟨#[]⟩, .string ⟨#[]⟩, .slice none 0 0, .string ⟨#[]⟩, .int .i64 0, .int .i64 0, .string ⟨#[]⟩]) X2.out.res rfl rfl (by simp [Value.oneCell']); clear d k1))))
  · exact ⟨rfl, K2.out, by rw [show actP (b_start :: WW) = none by simp only [act_start, N2.out, Option.bind_some, Option.bind_none]]; rfl⟩
  · obtain ⟨rf, kwf, wdf, kbf⟩ := X2.out.fin (cs := [.int .i64 12, .int .i64 s2, .int .i64 0, .int .i64 0, .int .i64 0, .int .i64 0, .string ⟨#[]⟩, .string ⟨#[]⟩, .string ⟨#[]⟩, .string ⟨#[]⟩, .string ⟨#[]⟩, .slice none 0 0, .string ⟨#[]⟩, .int .i64 0, .slice none 0 0, .int .i64 0, .int .i64 0, .string ⟨#[]⟩, .string ⟨#[]⟩, .string ⟨#[]⟩, .int .i64 0, .bool false, .int .i64 0, .int .i64 0, .int .i64 0, .string ⟨#[]⟩, .string ⟨#[]⟩, .string ⟨#[]⟩, .slice none 0 0, .string ⟨#[]⟩, .int .i64 0, .int .i64 0, .string ⟨#[]⟩]) rfl
    refine bodyPost_ret (results_cell rfl _ rfl (lv_row (T := 43) Tryz.underlying43 (by kernel_rfl) rf rfl)) rfl ?_
    refine ⟨kwf, ?_⟩
    rw [show actP (b_start :: WW) = some ({ zAct with kind := 12, node := s2 }, W2) by simp only [act_start, N2.out, Option.bind_some]]
    exact ⟨_, rfl, actV_plain hb rfl rfl rfl, wdf⟩
set_option maxHeartbeats 8000000 in
theorem rdact_deliver (b p : Nat) (WW : Ws) (w : World) (h : WdS w b p (b_deliver :: WW)) : Calls Tryz.prog 17 #[.pointer (some ⟨b, 0, none⟩)] w (RdQ b p w (ActV b w.heap.size) (actP (b_deliver :: WW))) := by
  have HI := Lib.hid (fun w1 W (h : WdS w1 b p W) => number_rd b p W w1 h)
  have HW0 := Lib.hid (show Calls Tryz.prog 27 #[.pointer (some ⟨b, 0, none⟩)] (w.alloc (.cells #[.int .i64 0, .int .i64 0, .int .i64 0, .int .i64 0, .int .i64 0, .int .i64 0, .string ⟨#[]⟩, .string ⟨#[]⟩, .string ⟨#[]⟩, .string ⟨#[]⟩, .string ⟨#[]⟩, .slice none 0 0, .string ⟨#[]⟩, .int .i64 0, .slice none 0 0, .int .i64 0, .int .i64 0, .string ⟨#[]⟩, .string ⟨#[]⟩, .string ⟨#[]⟩, .int .i64 0, .bool false, .int .i64 0, .int .i64 0, .int .i64 0, .string ⟨#[]⟩, .string ⟨#[]⟩, .string ⟨#[]⟩, .slice none 0 0, .string ⟨#[]⟩, .int .i64 0, .int .i64 0, .string ⟨#[]⟩] 43)) fun e w' => e = .returned (.string ⟨#[100, 101, 108, 105, 118, 101, 114]⟩) ∧ WdS w' b p WW ∧ Kw b (w.alloc (.cells #[.int .i64 0, .int .i64 0, .int .i64 0, .int .i64 0, .int .i64 0, .int .i64 0, .string ⟨#[]⟩, .string ⟨#[]⟩, .string ⟨#[]⟩, .string ⟨#[]⟩, .string ⟨#[]⟩, .slice none 0 0, .string ⟨#[]⟩, .int .i64 0, .slice none 0 0, .int .i64 0, .int .i64 0, .string ⟨#[]⟩, .string ⟨#[]⟩, .string ⟨#[]⟩, .int .i64 0, .bool false, .int .i64 0, .int .i64 0, .int .i64 0, .string ⟨#[]⟩, .string ⟨#[]⟩, .string ⟨#[]⟩, .slice none 0 0, .string ⟨#[]⟩, .int .i64 0, .int .i64 0, .string ⟨#[]⟩] 43)) w' from word_yes b p b_deliver WW _ (h.aft ((Aft.refl w).alloc _)))
  have hb := h.lt
  have HPL := Lib.hid h.plt
  have HLO := Lib.hid h.low
  clear h
  go_enter Tryz.func17, Tryz.ntmps17
  go_wp2_with (first
    | (go_at_call 27; with_reducible refine HW0.out.mono ?_; rintro e w1 ⟨rfl, d, k1⟩; have X1 := Lib.hid (Br.start (zs := [.int .i64 0, .int .i64 0, .int .i64 0, .int .i64 0, .int .i64 0, .int .i64 0, .string ⟨#[]⟩, .string ⟨#[]⟩, .string ⟨#[]⟩, .string ⟨#[]⟩, .string ⟨#[]⟩, .slice none 0 0, .string ⟨#[]⟩, .int .i64 0, .slice none 0 0, .int .i64 0, .int .i64 0, .string ⟨#[]⟩, .string ⟨#[]⟩, .string ⟨#[]⟩, .int .i64 0, .bool false, .int .i64 0, .int .i64 0, .int .i64 0, .string ⟨#[]⟩, .string ⟨#[]⟩, .string ⟨#[]⟩, .slice none 0 0, .string ⟨#[]⟩, .int .i64 0, .int .i64 0, .string ⟨#[]⟩]) hb HPL.out HLO.out k1 d); clear d k1)
    | (go_at_call 28; with_reducible refine (HI.out _ _ X1.out.ds).mono ?_; rintro e w2 q; rcases number_cases q with ⟨n, rfl, k1⟩ | ⟨s2, W2, n, rfl, d, k1⟩; all_goals (have N2 := Lib.hid n; have K2 := Lib.hid (X1.out.kw.trans k1); clear n q; try (have X2 := Lib.hid (X1.out.call k1 d); have e2 := svAct_row (vs := [.int .i64 3, .int .i64 0, .int .i64 s2, .int .i64 0, .int .i64 0, .int .i64 0, .string ⟨#[]⟩, .string ⟨#[]⟩, .string ⟨#[]⟩, .string ⟨#[]⟩, .string ⟨#[]⟩, .slice none 0 0, .string ⟨#[]⟩, .int .i64 0, .slice none 0 0, .int .i64 0, .int .i64 0, .string ⟨#[]⟩, .string ⟨#[]⟩, .string ⟨#[]⟩, .int .i64 0, .bool false, .int .i64 0, .int .i64 0, .int .i64 0, .string ⟨#[]⟩, .string ⟨#[]⟩, .string ⟨#[]⟩, .slice none 0 0, .string ⟨#[]⟩, .int .i64 0, .int .i64 0, .string ⟨#[]⟩]) X2.out.res rfl rfl (by simp [Value.oneCell']); clear d k1))))
  · exact ⟨rfl, K2.out, by rw [show actP (b_deliver :: WW) = none by simp only [act_deliver, N2.out, Option.bind_some, Option.bind_none]]; rfl⟩
  · obtain ⟨rf, kwf, wdf, kbf⟩ := X2.out.fin (cs := [.int .i64 3, .int .i64 0, .int .i64 s2, .int .i64 0, .int .i64 0, .int .i64 0, .string ⟨#[]⟩, .string ⟨#[]⟩, .string ⟨#[]⟩, .string ⟨#[]⟩, .string ⟨#[]⟩, .slice none 0 0, .string ⟨#[]⟩, .int .i64 0, .slice none 0 0, .int .i64 0, .int .i64 0, .string ⟨#[]⟩, .string ⟨#[]⟩, .string ⟨#[]⟩, .int .i64 0, .bool false, .int .i64 0, .int .i64 0, .int .i64 0, .string ⟨#[]⟩, .string ⟨#[]⟩, .string ⟨#[]⟩, .slice none 0 0, .string ⟨#[]⟩, .int .i64 0, .int .i64 0, .string ⟨#[]⟩]) rfl
    refine bodyPost_ret (results_cell rfl _ rfl (lv_row (T := 43) Tryz.underlying43 (by kernel_rfl) rf rfl)) rfl ?_
    refine ⟨kwf, ?_⟩
    rw [show actP (b_deliver :: WW) = some ({ zAct with kind := 3, n := s2 }, W2) by simp only [act_deliver, N2.out, Option.bind_some]]
    exact ⟨_, rfl, actV_plain hb rfl rfl rfl, wdf⟩
set_option maxHeartbeats 8000000 in
theorem rdact_drop (b p : Nat) (WW : Ws) (w : World) (h : WdS w b p (b_drop :: WW)) : Calls Tryz.prog 17 #[.pointer (some ⟨b, 0, none⟩)] w (RdQ b p w (ActV b w.heap.size) (actP (b_drop :: WW))) := by
  have HI := Lib.hid (fun w1 W (h : WdS w1 b p W) => number_rd b p W w1 h)
  have HW0 := Lib.hid (show Calls Tryz.prog 27 #[.pointer (some ⟨b, 0, none⟩)] (w.alloc (.cells #[.int .i64 0, .int .i64 0, .int .i64 0, .int .i64 0, .int .i64 0, .int .i64 0, .string ⟨#[]⟩, .string ⟨#[]⟩, .string ⟨#[]⟩, .string ⟨#[]⟩, .string ⟨#[]⟩, .slice none 0 0, .string ⟨#[]⟩, .int .i64 0, .slice none 0 0, .int .i64 0, .int .i64 0, .string ⟨#[]⟩, .string ⟨#[]⟩, .string ⟨#[]⟩, .int .i64 0, .bool false, .int .i64 0, .int .i64 0, .int .i64 0, .string ⟨#[]⟩, .string ⟨#[]⟩, .string ⟨#[]⟩, .slice none 0 0, .string ⟨#[]⟩, .int .i64 0, .int .i64 0, .string ⟨#[]⟩] 43)) fun e w' => e = .returned (.string ⟨#[100, 114, 111, 112]⟩) ∧ WdS w' b p WW ∧ Kw b (w.alloc (.cells #[.int .i64 0, .int .i64 0, .int .i64 0, .int .i64 0, .int .i64 0, .int .i64 0, .string ⟨#[]⟩, .string ⟨#[]⟩, .string ⟨#[]⟩, .string ⟨#[]⟩, .string ⟨#[]⟩, .slice none 0 0, .string ⟨#[]⟩, .int .i64 0, .slice none 0 0, .int .i64 0, .int .i64 0, .string ⟨#[]⟩, .string ⟨#[]⟩, .string ⟨#[]⟩, .int .i64 0, .bool false, .int .i64 0, .int .i64 0, .int .i64 0, .string ⟨#[]⟩, .string ⟨#[]⟩, .string ⟨#[]⟩, .slice none 0 0, .string ⟨#[]⟩, .int .i64 0, .int .i64 0, .string ⟨#[]⟩] 43)) w' from word_yes b p b_drop WW _ (h.aft ((Aft.refl w).alloc _)))
  have hb := h.lt
  have HPL := Lib.hid h.plt
  have HLO := Lib.hid h.low
  clear h
  go_enter Tryz.func17, Tryz.ntmps17
  go_wp2_with (first
    | (go_at_call 27; with_reducible refine HW0.out.mono ?_; rintro e w1 ⟨rfl, d, k1⟩; have X1 := Lib.hid (Br.start (zs := [.int .i64 0, .int .i64 0, .int .i64 0, .int .i64 0, .int .i64 0, .int .i64 0, .string ⟨#[]⟩, .string ⟨#[]⟩, .string ⟨#[]⟩, .string ⟨#[]⟩, .string ⟨#[]⟩, .slice none 0 0, .string ⟨#[]⟩, .int .i64 0, .slice none 0 0, .int .i64 0, .int .i64 0, .string ⟨#[]⟩, .string ⟨#[]⟩, .string ⟨#[]⟩, .int .i64 0, .bool false, .int .i64 0, .int .i64 0, .int .i64 0, .string ⟨#[]⟩, .string ⟨#[]⟩, .string ⟨#[]⟩, .slice none 0 0, .string ⟨#[]⟩, .int .i64 0, .int .i64 0, .string ⟨#[]⟩]) hb HPL.out HLO.out k1 d); clear d k1)
    | (go_at_call 28; with_reducible refine (HI.out _ _ X1.out.ds).mono ?_; rintro e w2 q; rcases number_cases q with ⟨n, rfl, k1⟩ | ⟨s2, W2, n, rfl, d, k1⟩; all_goals (have N2 := Lib.hid n; have K2 := Lib.hid (X1.out.kw.trans k1); clear n q; try (have X2 := Lib.hid (X1.out.call k1 d); have e2 := svAct_row (vs := [.int .i64 4, .int .i64 0, .int .i64 s2, .int .i64 0, .int .i64 0, .int .i64 0, .string ⟨#[]⟩, .string ⟨#[]⟩, .string ⟨#[]⟩, .string ⟨#[]⟩, .string ⟨#[]⟩, .slice none 0 0, .string ⟨#[]⟩, .int .i64 0, .slice none 0 0, .int .i64 0, .int .i64 0, .string ⟨#[]⟩, .string ⟨#[]⟩, .string ⟨#[]⟩, .int .i64 0, .bool false, .int .i64 0, .int .i64 0, .int .i64 0, .string ⟨#[]⟩, .string ⟨#[]⟩, .string ⟨#[]⟩, .slice none 0 0, .string ⟨#[]⟩, .int .i64 0, .int .i64 0, .string ⟨#[]⟩]) X2.out.res rfl rfl (by simp [Value.oneCell']); clear d k1))))
  · exact ⟨rfl, K2.out, by rw [show actP (b_drop :: WW) = none by simp only [act_drop, N2.out, Option.bind_some, Option.bind_none]]; rfl⟩
  · obtain ⟨rf, kwf, wdf, kbf⟩ := X2.out.fin (cs := [.int .i64 4, .int .i64 0, .int .i64 s2, .int .i64 0, .int .i64 0, .int .i64 0, .string ⟨#[]⟩, .string ⟨#[]⟩, .string ⟨#[]⟩, .string ⟨#[]⟩, .string ⟨#[]⟩, .slice none 0 0, .string ⟨#[]⟩, .int .i64 0, .slice none 0 0, .int .i64 0, .int .i64 0, .string ⟨#[]⟩, .string ⟨#[]⟩, .string ⟨#[]⟩, .int .i64 0, .bool false, .int .i64 0, .int .i64 0, .int .i64 0, .string ⟨#[]⟩, .string ⟨#[]⟩, .string ⟨#[]⟩, .slice none 0 0, .string ⟨#[]⟩, .int .i64 0, .int .i64 0, .string ⟨#[]⟩]) rfl
    refine bodyPost_ret (results_cell rfl _ rfl (lv_row (T := 43) Tryz.underlying43 (by kernel_rfl) rf rfl)) rfl ?_
    refine ⟨kwf, ?_⟩
    rw [show actP (b_drop :: WW) = some ({ zAct with kind := 4, n := s2 }, W2) by simp only [act_drop, N2.out, Option.bind_some]]
    exact ⟨_, rfl, actV_plain hb rfl rfl rfl, wdf⟩
set_option maxHeartbeats 8000000 in
theorem rdact_double (b p : Nat) (WW : Ws) (w : World) (h : WdS w b p (b_double :: WW)) : Calls Tryz.prog 17 #[.pointer (some ⟨b, 0, none⟩)] w (RdQ b p w (ActV b w.heap.size) (actP (b_double :: WW))) := by
  have HI := Lib.hid (fun w1 W (h : WdS w1 b p W) => number_rd b p W w1 h)
  have HW0 := Lib.hid (show Calls Tryz.prog 27 #[.pointer (some ⟨b, 0, none⟩)] (w.alloc (.cells #[.int .i64 0, .int .i64 0, .int .i64 0, .int .i64 0, .int .i64 0, .int .i64 0, .string ⟨#[]⟩, .string ⟨#[]⟩, .string ⟨#[]⟩, .string ⟨#[]⟩, .string ⟨#[]⟩, .slice none 0 0, .string ⟨#[]⟩, .int .i64 0, .slice none 0 0, .int .i64 0, .int .i64 0, .string ⟨#[]⟩, .string ⟨#[]⟩, .string ⟨#[]⟩, .int .i64 0, .bool false, .int .i64 0, .int .i64 0, .int .i64 0, .string ⟨#[]⟩, .string ⟨#[]⟩, .string ⟨#[]⟩, .slice none 0 0, .string ⟨#[]⟩, .int .i64 0, .int .i64 0, .string ⟨#[]⟩] 43)) fun e w' => e = .returned (.string ⟨#[100, 111, 117, 98, 108, 101]⟩) ∧ WdS w' b p WW ∧ Kw b (w.alloc (.cells #[.int .i64 0, .int .i64 0, .int .i64 0, .int .i64 0, .int .i64 0, .int .i64 0, .string ⟨#[]⟩, .string ⟨#[]⟩, .string ⟨#[]⟩, .string ⟨#[]⟩, .string ⟨#[]⟩, .slice none 0 0, .string ⟨#[]⟩, .int .i64 0, .slice none 0 0, .int .i64 0, .int .i64 0, .string ⟨#[]⟩, .string ⟨#[]⟩, .string ⟨#[]⟩, .int .i64 0, .bool false, .int .i64 0, .int .i64 0, .int .i64 0, .string ⟨#[]⟩, .string ⟨#[]⟩, .string ⟨#[]⟩, .slice none 0 0, .string ⟨#[]⟩, .int .i64 0, .int .i64 0, .string ⟨#[]⟩] 43)) w' from word_yes b p b_double WW _ (h.aft ((Aft.refl w).alloc _)))
  have hb := h.lt
  have HPL := Lib.hid h.plt
  have HLO := Lib.hid h.low
  clear h
  go_enter Tryz.func17, Tryz.ntmps17
  go_wp2_with (first
    | (go_at_call 27; with_reducible refine HW0.out.mono ?_; rintro e w1 ⟨rfl, d, k1⟩; have X1 := Lib.hid (Br.start (zs := [.int .i64 0, .int .i64 0, .int .i64 0, .int .i64 0, .int .i64 0, .int .i64 0, .string ⟨#[]⟩, .string ⟨#[]⟩, .string ⟨#[]⟩, .string ⟨#[]⟩, .string ⟨#[]⟩, .slice none 0 0, .string ⟨#[]⟩, .int .i64 0, .slice none 0 0, .int .i64 0, .int .i64 0, .string ⟨#[]⟩, .string ⟨#[]⟩, .string ⟨#[]⟩, .int .i64 0, .bool false, .int .i64 0, .int .i64 0, .int .i64 0, .string ⟨#[]⟩, .string ⟨#[]⟩, .string ⟨#[]⟩, .slice none 0 0, .string ⟨#[]⟩, .int .i64 0, .int .i64 0, .string ⟨#[]⟩]) hb HPL.out HLO.out k1 d); clear d k1)
    | (go_at_call 28; with_reducible refine (HI.out _ _ X1.out.ds).mono ?_; rintro e w2 q; rcases number_cases q with ⟨n, rfl, k1⟩ | ⟨s2, W2, n, rfl, d, k1⟩; all_goals (have N2 := Lib.hid n; have K2 := Lib.hid (X1.out.kw.trans k1); clear n q; try (have X2 := Lib.hid (X1.out.call k1 d); have e2 := svAct_row (vs := [.int .i64 5, .int .i64 0, .int .i64 s2, .int .i64 0, .int .i64 0, .int .i64 0, .string ⟨#[]⟩, .string ⟨#[]⟩, .string ⟨#[]⟩, .string ⟨#[]⟩, .string ⟨#[]⟩, .slice none 0 0, .string ⟨#[]⟩, .int .i64 0, .slice none 0 0, .int .i64 0, .int .i64 0, .string ⟨#[]⟩, .string ⟨#[]⟩, .string ⟨#[]⟩, .int .i64 0, .bool false, .int .i64 0, .int .i64 0, .int .i64 0, .string ⟨#[]⟩, .string ⟨#[]⟩, .string ⟨#[]⟩, .slice none 0 0, .string ⟨#[]⟩, .int .i64 0, .int .i64 0, .string ⟨#[]⟩]) X2.out.res rfl rfl (by simp [Value.oneCell']); clear d k1))))
  · exact ⟨rfl, K2.out, by rw [show actP (b_double :: WW) = none by simp only [act_double, N2.out, Option.bind_some, Option.bind_none]]; rfl⟩
  · obtain ⟨rf, kwf, wdf, kbf⟩ := X2.out.fin (cs := [.int .i64 5, .int .i64 0, .int .i64 s2, .int .i64 0, .int .i64 0, .int .i64 0, .string ⟨#[]⟩, .string ⟨#[]⟩, .string ⟨#[]⟩, .string ⟨#[]⟩, .string ⟨#[]⟩, .slice none 0 0, .string ⟨#[]⟩, .int .i64 0, .slice none 0 0, .int .i64 0, .int .i64 0, .string ⟨#[]⟩, .string ⟨#[]⟩, .string ⟨#[]⟩, .int .i64 0, .bool false, .int .i64 0, .int .i64 0, .int .i64 0, .string ⟨#[]⟩, .string ⟨#[]⟩, .string ⟨#[]⟩, .slice none 0 0, .string ⟨#[]⟩, .int .i64 0, .int .i64 0, .string ⟨#[]⟩]) rfl
    refine bodyPost_ret (results_cell rfl _ rfl (lv_row (T := 43) Tryz.underlying43 (by kernel_rfl) rf rfl)) rfl ?_
    refine ⟨kwf, ?_⟩
    rw [show actP (b_double :: WW) = some ({ zAct with kind := 5, n := s2 }, W2) by simp only [act_double, N2.out, Option.bind_some]]
    exact ⟨_, rfl, actV_plain hb rfl rfl rfl, wdf⟩
set_option maxHeartbeats 8000000 in
theorem rdact_world (b p : Nat) (WW : Ws) (w : World) (h : WdS w b p (b_world :: WW)) : Calls Tryz.prog 17 #[.pointer (some ⟨b, 0, none⟩)] w (RdQ b p w (ActV b w.heap.size) (actP (b_world :: WW))) := by
  have HI := Lib.hid (fun w1 W (h : WdS w1 b p W) => number_rd b p W w1 h)
  have HW0 := Lib.hid (show Calls Tryz.prog 27 #[.pointer (some ⟨b, 0, none⟩)] (w.alloc (.cells #[.int .i64 0, .int .i64 0, .int .i64 0, .int .i64 0, .int .i64 0, .int .i64 0, .string ⟨#[]⟩, .string ⟨#[]⟩, .string ⟨#[]⟩, .string ⟨#[]⟩, .string ⟨#[]⟩, .slice none 0 0, .string ⟨#[]⟩, .int .i64 0, .slice none 0 0, .int .i64 0, .int .i64 0, .string ⟨#[]⟩, .string ⟨#[]⟩, .string ⟨#[]⟩, .int .i64 0, .bool false, .int .i64 0, .int .i64 0, .int .i64 0, .string ⟨#[]⟩, .string ⟨#[]⟩, .string ⟨#[]⟩, .slice none 0 0, .string ⟨#[]⟩, .int .i64 0, .int .i64 0, .string ⟨#[]⟩] 43)) fun e w' => e = .returned (.string ⟨#[119, 111, 114, 108, 100]⟩) ∧ WdS w' b p WW ∧ Kw b (w.alloc (.cells #[.int .i64 0, .int .i64 0, .int .i64 0, .int .i64 0, .int .i64 0, .int .i64 0, .string ⟨#[]⟩, .string ⟨#[]⟩, .string ⟨#[]⟩, .string ⟨#[]⟩, .string ⟨#[]⟩, .slice none 0 0, .string ⟨#[]⟩, .int .i64 0, .slice none 0 0, .int .i64 0, .int .i64 0, .string ⟨#[]⟩, .string ⟨#[]⟩, .string ⟨#[]⟩, .int .i64 0, .bool false, .int .i64 0, .int .i64 0, .int .i64 0, .string ⟨#[]⟩, .string ⟨#[]⟩, .string ⟨#[]⟩, .slice none 0 0, .string ⟨#[]⟩, .int .i64 0, .int .i64 0, .string ⟨#[]⟩] 43)) w' from word_yes b p b_world WW _ (h.aft ((Aft.refl w).alloc _)))
  have hb := h.lt
  have HPL := Lib.hid h.plt
  have HLO := Lib.hid h.low
  clear h
  go_enter Tryz.func17, Tryz.ntmps17
  go_wp2_with (first
    | (go_at_call 27; with_reducible refine HW0.out.mono ?_; rintro e w1 ⟨rfl, d, k1⟩; have X1 := Lib.hid (Br.start (zs := [.int .i64 0, .int .i64 0, .int .i64 0, .int .i64 0, .int .i64 0, .int .i64 0, .string ⟨#[]⟩, .string ⟨#[]⟩, .string ⟨#[]⟩, .string ⟨#[]⟩, .string ⟨#[]⟩, .slice none 0 0, .string ⟨#[]⟩, .int .i64 0, .slice none 0 0, .int .i64 0, .int .i64 0, .string ⟨#[]⟩, .string ⟨#[]⟩, .string ⟨#[]⟩, .int .i64 0, .bool false, .int .i64 0, .int .i64 0, .int .i64 0, .string ⟨#[]⟩, .string ⟨#[]⟩, .string ⟨#[]⟩, .slice none 0 0, .string ⟨#[]⟩, .int .i64 0, .int .i64 0, .string ⟨#[]⟩]) hb HPL.out HLO.out k1 d); have e2 := svAct_row (vs := [.int .i64 2, .int .i64 0, .int .i64 0, .int .i64 0, .int .i64 0, .int .i64 0, .string ⟨#[]⟩, .string ⟨#[]⟩, .string ⟨#[]⟩, .string ⟨#[]⟩, .string ⟨#[]⟩, .slice none 0 0, .string ⟨#[]⟩, .int .i64 0, .slice none 0 0, .int .i64 0, .int .i64 0, .string ⟨#[]⟩, .string ⟨#[]⟩, .string ⟨#[]⟩, .int .i64 0, .bool false, .int .i64 0, .int .i64 0, .int .i64 0, .string ⟨#[]⟩, .string ⟨#[]⟩, .string ⟨#[]⟩, .slice none 0 0, .string ⟨#[]⟩, .int .i64 0, .int .i64 0, .string ⟨#[]⟩]) X1.out.res rfl rfl (by simp [Value.oneCell']); clear d k1))
  · obtain ⟨rf, kwf, wdf, kbf⟩ := X1.out.fin (cs := [.int .i64 2, .int .i64 0, .int .i64 0, .int .i64 0, .int .i64 0, .int .i64 0, .string ⟨#[]⟩, .string ⟨#[]⟩, .string ⟨#[]⟩, .string ⟨#[]⟩, .string ⟨#[]⟩, .slice none 0 0, .string ⟨#[]⟩, .int .i64 0, .slice none 0 0, .int .i64 0, .int .i64 0, .string ⟨#[]⟩, .string ⟨#[]⟩, .string ⟨#[]⟩, .int .i64 0, .bool false, .int .i64 0, .int .i64 0, .int .i64 0, .string ⟨#[]⟩, .string ⟨#[]⟩, .string ⟨#[]⟩, .slice none 0 0, .string ⟨#[]⟩, .int .i64 0, .int .i64 0, .string ⟨#[]⟩]) rfl
    refine bodyPost_ret (results_cell rfl _ rfl (lv_row (T := 43) Tryz.underlying43 (by kernel_rfl) rf rfl)) rfl ?_
    refine ⟨kwf, ?_⟩
    rw [show actP (b_world :: WW) = some ({ zAct with kind := 2 }, WW) by simp only [act_world]]
    exact ⟨_, rfl, actV_plain hb rfl rfl rfl, wdf⟩
set_option maxHeartbeats 8000000 in
theorem rdact_learner (b p : Nat) (WW : Ws) (w : World) (h : WdS w b p (b_learner :: WW)) : Calls Tryz.prog 17 #[.pointer (some ⟨b, 0, none⟩)] w (RdQ b p w (ActV b w.heap.size) (actP (b_learner :: WW))) := by
  have HI := Lib.hid (fun w1 W (h : WdS w1 b p W) => number_rd b p W w1 h)
  have HW0 := Lib.hid (show Calls Tryz.prog 27 #[.pointer (some ⟨b, 0, none⟩)] (w.alloc (.cells #[.int .i64 0, .int .i64 0, .int .i64 0, .int .i64 0, .int .i64 0, .int .i64 0, .string ⟨#[]⟩, .string ⟨#[]⟩, .string ⟨#[]⟩, .string ⟨#[]⟩, .string ⟨#[]⟩, .slice none 0 0, .string ⟨#[]⟩, .int .i64 0, .slice none 0 0, .int .i64 0, .int .i64 0, .string ⟨#[]⟩, .string ⟨#[]⟩, .string ⟨#[]⟩, .int .i64 0, .bool false, .int .i64 0, .int .i64 0, .int .i64 0, .string ⟨#[]⟩, .string ⟨#[]⟩, .string ⟨#[]⟩, .slice none 0 0, .string ⟨#[]⟩, .int .i64 0, .int .i64 0, .string ⟨#[]⟩] 43)) fun e w' => e = .returned (.string ⟨#[108, 101, 97, 114, 110, 101, 114]⟩) ∧ WdS w' b p WW ∧ Kw b (w.alloc (.cells #[.int .i64 0, .int .i64 0, .int .i64 0, .int .i64 0, .int .i64 0, .int .i64 0, .string ⟨#[]⟩, .string ⟨#[]⟩, .string ⟨#[]⟩, .string ⟨#[]⟩, .string ⟨#[]⟩, .slice none 0 0, .string ⟨#[]⟩, .int .i64 0, .slice none 0 0, .int .i64 0, .int .i64 0, .string ⟨#[]⟩, .string ⟨#[]⟩, .string ⟨#[]⟩, .int .i64 0, .bool false, .int .i64 0, .int .i64 0, .int .i64 0, .string ⟨#[]⟩, .string ⟨#[]⟩, .string ⟨#[]⟩, .slice none 0 0, .string ⟨#[]⟩, .int .i64 0, .int .i64 0, .string ⟨#[]⟩] 43)) w' from word_yes b p b_learner WW _ (h.aft ((Aft.refl w).alloc _)))
  have hb := h.lt
  have HPL := Lib.hid h.plt
  have HLO := Lib.hid h.low
  clear h
  go_enter Tryz.func17, Tryz.ntmps17
  go_wp2_with (first
    | (go_at_call 27; with_reducible refine HW0.out.mono ?_; rintro e w1 ⟨rfl, d, k1⟩; have X1 := Lib.hid (Br.start (zs := [.int .i64 0, .int .i64 0, .int .i64 0, .int .i64 0, .int .i64 0, .int .i64 0, .string ⟨#[]⟩, .string ⟨#[]⟩, .string ⟨#[]⟩, .string ⟨#[]⟩, .string ⟨#[]⟩, .slice none 0 0, .string ⟨#[]⟩, .int .i64 0, .slice none 0 0, .int .i64 0, .int .i64 0, .string ⟨#[]⟩, .string ⟨#[]⟩, .string ⟨#[]⟩, .int .i64 0, .bool false, .int .i64 0, .int .i64 0, .int .i64 0, .string ⟨#[]⟩, .string ⟨#[]⟩, .string ⟨#[]⟩, .slice none 0 0, .string ⟨#[]⟩, .int .i64 0, .int .i64 0, .string ⟨#[]⟩]) hb HPL.out HLO.out k1 d); have rz1 := Lib.hid X1.out.res.ltD; clear d k1)
    | (go_at_call 30; with_reducible refine (change_rd 1 b p _ _ X1.out.ds).mono ?_; rintro e w2 q; rcases act_cases (W := WW) q with ⟨n, rfl, k1⟩ | ⟨a, A, c, A2, c2, A3, c3, W2, n, rfl, g, d, k1⟩; all_goals (have N2 := Lib.hid n; have K2 := Lib.hid (X1.out.kw.trans k1); clear n q; try (have X2 := Lib.hid (X1.out.call k1 d); have e2 := svAct_row (vs := actV a A c A2 c2 A3 c3) X2.out.res rfl rfl (by simp [actV, cmdV, ropV, Value.oneCell']); clear d k1))))
  · exact ⟨rfl, K2.out, by rw [act_learner, N2.out]; rfl⟩
  · obtain ⟨rf, kwf, wdf, kbf⟩ := X2.out.fin (cs := actV a A c A2 c2 A3 c3) rfl
    refine bodyPost_ret (results_cell rfl _ rfl (lv_row (T := 43) Tryz.underlying43 (by kernel_rfl) rf rfl)) rfl ?_
    refine ⟨kwf, ?_⟩
    have z1 := rz1.out
    rw [act_learner, N2.out]
    obtain ⟨g1, g2, g3, g4, g5⟩ := g
    exact ⟨_, rfl, ⟨_, _, _, _, _, _, rfl, (g1.hi kbf (fun g e => by have e' : g = _ := e; omega)).down (by omega) (by omega), (g2.hi kbf (fun g e => by have e' : g = _ := e; omega)).down (by omega) (by omega), ⟨(g3.1.hi kbf (fun g e => by have e' : g = _ := e; omega)).down (by omega) (by omega), g3.2⟩, g4, g5⟩, wdf⟩
set_option maxHeartbeats 8000000 in
theorem rdact_voter (b p : Nat) (WW : Ws) (w : World) (h : WdS w b p (b_voter :: WW)) : Calls Tryz.prog 17 #[.pointer (some ⟨b, 0, none⟩)] w (RdQ b p w (ActV b w.heap.size) (actP (b_voter :: WW))) := by
  have HI := Lib.hid (fun w1 W (h : WdS w1 b p W) => number_rd b p W w1 h)
  have HW0 := Lib.hid (show Calls Tryz.prog 27 #[.pointer (some ⟨b, 0, none⟩)] (w.alloc (.cells #[.int .i64 0, .int .i64 0, .int .i64 0, .int .i64 0, .int .i64 0, .int .i64 0, .string ⟨#[]⟩, .string ⟨#[]⟩, .string ⟨#[]⟩, .string ⟨#[]⟩, .string ⟨#[]⟩, .slice none 0 0, .string ⟨#[]⟩, .int .i64 0, .slice none 0 0, .int .i64 0, .int .i64 0, .string ⟨#[]⟩, .string ⟨#[]⟩, .string ⟨#[]⟩, .int .i64 0, .bool false, .int .i64 0, .int .i64 0, .int .i64 0, .string ⟨#[]⟩, .string ⟨#[]⟩, .string ⟨#[]⟩, .slice none 0 0, .string ⟨#[]⟩, .int .i64 0, .int .i64 0, .string ⟨#[]⟩] 43)) fun e w' => e = .returned (.string ⟨#[118, 111, 116, 101, 114]⟩) ∧ WdS w' b p WW ∧ Kw b (w.alloc (.cells #[.int .i64 0, .int .i64 0, .int .i64 0, .int .i64 0, .int .i64 0, .int .i64 0, .string ⟨#[]⟩, .string ⟨#[]⟩, .string ⟨#[]⟩, .string ⟨#[]⟩, .string ⟨#[]⟩, .slice none 0 0, .string ⟨#[]⟩, .int .i64 0, .slice none 0 0, .int .i64 0, .int .i64 0, .string ⟨#[]⟩, .string ⟨#[]⟩, .string ⟨#[]⟩, .int .i64 0, .bool false, .int .i64 0, .int .i64 0, .int .i64 0, .string ⟨#[]⟩, .string ⟨#[]⟩, .string ⟨#[]⟩, .slice none 0 0, .string ⟨#[]⟩, .int .i64 0, .int .i64 0, .string ⟨#[]⟩] 43)) w' from word_yes b p b_voter WW _ (h.aft ((Aft.refl w).alloc _)))
  have hb := h.lt
  have HPL := Lib.hid h.plt
  have HLO := Lib.hid h.low
  clear h
  go_enter Tryz.func17, Tryz.ntmps17
  go_wp2_with (first
    | (go_at_call 27; with_reducible refine HW0.out.mono ?_; rintro e w1 ⟨rfl, d, k1⟩; have X1 := Lib.hid (Br.start (zs := [.int .i64 0, .int .i64 0, .int .i64 0, .int .i64 0, .int .i64 0, .int .i64 0, .string ⟨#[]⟩, .string ⟨#[]⟩, .string ⟨#[]⟩, .string ⟨#[]⟩, .string ⟨#[]⟩, .slice none 0 0, .string ⟨#[]⟩, .int .i64 0, .slice none 0 0, .int .i64 0, .int .i64 0, .string ⟨#[]⟩, .string ⟨#[]⟩, .string ⟨#[]⟩, .int .i64 0, .bool false, .int .i64 0, .int .i64 0, .int .i64 0, .string ⟨#[]⟩, .string ⟨#[]⟩, .string ⟨#[]⟩, .slice none 0 0, .string ⟨#[]⟩, .int .i64 0, .int .i64 0, .string ⟨#[]⟩]) hb HPL.out HLO.out k1 d); have rz1 := Lib.hid X1.out.res.ltD; clear d k1)
    | (go_at_call 30; with_reducible refine (change_rd 2 b p _ _ X1.out.ds).mono ?_; rintro e w2 q; rcases act_cases (W := WW) q with ⟨n, rfl, k1⟩ | ⟨a, A, c, A2, c2, A3, c3, W2, n, rfl, g, d, k1⟩; all_goals (have N2 := Lib.hid n; have K2 := Lib.hid (X1.out.kw.trans k1); clear n q; try (have X2 := Lib.hid (X1.out.call k1 d); have e2 := svAct_row (vs := actV a A c A2 c2 A3 c3) X2.out.res rfl rfl (by simp [actV, cmdV, ropV, Value.oneCell']); clear d k1))))
  · exact ⟨rfl, K2.out, by rw [act_voter, N2.out]; rfl⟩
  · obtain ⟨rf, kwf, wdf, kbf⟩ := X2.out.fin (cs := actV a A c A2 c2 A3 c3) rfl
    refine bodyPost_ret (results_cell rfl _ rfl (lv_row (T := 43) Tryz.underlying43 (by kernel_rfl) rf rfl)) rfl ?_
    refine ⟨kwf, ?_⟩
    have z1 := rz1.out
    rw [act_voter, N2.out]
    obtain ⟨g1, g2, g3, g4, g5⟩ := g
    exact ⟨_, rfl, ⟨_, _, _, _, _, _, rfl, (g1.hi kbf (fun g e => by have e' : g = _ := e; omega)).down (by omega) (by omega), (g2.hi kbf (fun g e => by have e' : g = _ := e; omega)).down (by omega) (by omega), ⟨(g3.1.hi kbf (fun g e => by have e' : g = _ := e; omega)).down (by omega) (by omega), g3.2⟩, g4, g5⟩, wdf⟩
set_option maxHeartbeats 8000000 in
theorem rdact_remove (b p : Nat) (WW : Ws) (w : World) (h : WdS w b p (b_remove :: WW)) : Calls Tryz.prog 17 #[.pointer (some ⟨b, 0, none⟩)] w (RdQ b p w (ActV b w.heap.size) (actP (b_remove :: WW))) := by
  have HI := Lib.hid (fun w1 W (h : WdS w1 b p W) => number_rd b p W w1 h)
  have HW0 := Lib.hid (show Calls Tryz.prog 27 #[.pointer (some ⟨b, 0, none⟩)] (w.alloc (.cells #[.int .i64 0, .int .i64 0, .int .i64 0, .int .i64 0, .int .i64 0, .int .i64 0, .string ⟨#[]⟩, .string ⟨#[]⟩, .string ⟨#[]⟩, .string ⟨#[]⟩, .string ⟨#[]⟩, .slice none 0 0, .string ⟨#[]⟩, .int .i64 0, .slice none 0 0, .int .i64 0, .int .i64 0, .string ⟨#[]⟩, .string ⟨#[]⟩, .string ⟨#[]⟩, .int .i64 0, .bool false, .int .i64 0, .int .i64 0, .int .i64 0, .string ⟨#[]⟩, .string ⟨#[]⟩, .string ⟨#[]⟩, .slice none 0 0, .string ⟨#[]⟩, .int .i64 0, .int .i64 0, .string ⟨#[]⟩] 43)) fun e w' => e = .returned (.string ⟨#[114, 101, 109, 111, 118, 101]⟩) ∧ WdS w' b p WW ∧ Kw b (w.alloc (.cells #[.int .i64 0, .int .i64 0, .int .i64 0, .int .i64 0, .int .i64 0, .int .i64 0, .string ⟨#[]⟩, .string ⟨#[]⟩, .string ⟨#[]⟩, .string ⟨#[]⟩, .string ⟨#[]⟩, .slice none 0 0, .string ⟨#[]⟩, .int .i64 0, .slice none 0 0, .int .i64 0, .int .i64 0, .string ⟨#[]⟩, .string ⟨#[]⟩, .string ⟨#[]⟩, .int .i64 0, .bool false, .int .i64 0, .int .i64 0, .int .i64 0, .string ⟨#[]⟩, .string ⟨#[]⟩, .string ⟨#[]⟩, .slice none 0 0, .string ⟨#[]⟩, .int .i64 0, .int .i64 0, .string ⟨#[]⟩] 43)) w' from word_yes b p b_remove WW _ (h.aft ((Aft.refl w).alloc _)))
  have hb := h.lt
  have HPL := Lib.hid h.plt
  have HLO := Lib.hid h.low
  clear h
  go_enter Tryz.func17, Tryz.ntmps17
  go_wp2_with (first
    | (go_at_call 27; with_reducible refine HW0.out.mono ?_; rintro e w1 ⟨rfl, d, k1⟩; have X1 := Lib.hid (Br.start (zs := [.int .i64 0, .int .i64 0, .int .i64 0, .int .i64 0, .int .i64 0, .int .i64 0, .string ⟨#[]⟩, .string ⟨#[]⟩, .string ⟨#[]⟩, .string ⟨#[]⟩, .string ⟨#[]⟩, .slice none 0 0, .string ⟨#[]⟩, .int .i64 0, .slice none 0 0, .int .i64 0, .int .i64 0, .string ⟨#[]⟩, .string ⟨#[]⟩, .string ⟨#[]⟩, .int .i64 0, .bool false, .int .i64 0, .int .i64 0, .int .i64 0, .string ⟨#[]⟩, .string ⟨#[]⟩, .string ⟨#[]⟩, .slice none 0 0, .string ⟨#[]⟩, .int .i64 0, .int .i64 0, .string ⟨#[]⟩]) hb HPL.out HLO.out k1 d); have rz1 := Lib.hid X1.out.res.ltD; clear d k1)
    | (go_at_call 30; with_reducible refine (change_rd 3 b p _ _ X1.out.ds).mono ?_; rintro e w2 q; rcases act_cases (W := WW) q with ⟨n, rfl, k1⟩ | ⟨a, A, c, A2, c2, A3, c3, W2, n, rfl, g, d, k1⟩; all_goals (have N2 := Lib.hid n; have K2 := Lib.hid (X1.out.kw.trans k1); clear n q; try (have X2 := Lib.hid (X1.out.call k1 d); have e2 := svAct_row (vs := actV a A c A2 c2 A3 c3) X2.out.res rfl rfl (by simp [actV, cmdV, ropV, Value.oneCell']); clear d k1))))
  · exact ⟨rfl, K2.out, by rw [act_remove, N2.out]; rfl⟩
  · obtain ⟨rf, kwf, wdf, kbf⟩ := X2.out.fin (cs := actV a A c A2 c2 A3 c3) rfl
    refine bodyPost_ret (results_cell rfl _ rfl (lv_row (T := 43) Tryz.underlying43 (by kernel_rfl) rf rfl)) rfl ?_
    refine ⟨kwf, ?_⟩
    have z1 := rz1.out
    rw [act_remove, N2.out]
    obtain ⟨g1, g2, g3, g4, g5⟩ := g
    exact ⟨_, rfl, ⟨_, _, _, _, _, _, rfl, (g1.hi kbf (fun g e => by have e' : g = _ := e; omega)).down (by omega) (by omega), (g2.hi kbf (fun g e => by have e' : g = _ := e; omega)).down (by omega) (by omega), ⟨(g3.1.hi kbf (fun g e => by have e' : g = _ := e; omega)).down (by omega) (by omega), g3.2⟩, g4, g5⟩, wdf⟩
set_option maxHeartbeats 8000000 in
theorem rdact_lease (b p : Nat) (WW : Ws) (w : World) (h : WdS w b p (b_lease :: WW)) : Calls Tryz.prog 17 #[.pointer (some ⟨b, 0, none⟩)] w (RdQ b p w (ActV b w.heap.size) (actP (b_lease :: WW))) := by
  have HI := Lib.hid (fun w1 W (h : WdS w1 b p W) => number_rd b p W w1 h)
  have HW0 := Lib.hid (show Calls Tryz.prog 27 #[.pointer (some ⟨b, 0, none⟩)] (w.alloc (.cells #[.int .i64 0, .int .i64 0, .int .i64 0, .int .i64 0, .int .i64 0, .int .i64 0, .string ⟨#[]⟩, .string ⟨#[]⟩, .string ⟨#[]⟩, .string ⟨#[]⟩, .string ⟨#[]⟩, .slice none 0 0, .string ⟨#[]⟩, .int .i64 0, .slice none 0 0, .int .i64 0, .int .i64 0, .string ⟨#[]⟩, .string ⟨#[]⟩, .string ⟨#[]⟩, .int .i64 0, .bool false, .int .i64 0, .int .i64 0, .int .i64 0, .string ⟨#[]⟩, .string ⟨#[]⟩, .string ⟨#[]⟩, .slice none 0 0, .string ⟨#[]⟩, .int .i64 0, .int .i64 0, .string ⟨#[]⟩] 43)) fun e w' => e = .returned (.string ⟨#[108, 101, 97, 115, 101]⟩) ∧ WdS w' b p WW ∧ Kw b (w.alloc (.cells #[.int .i64 0, .int .i64 0, .int .i64 0, .int .i64 0, .int .i64 0, .int .i64 0, .string ⟨#[]⟩, .string ⟨#[]⟩, .string ⟨#[]⟩, .string ⟨#[]⟩, .string ⟨#[]⟩, .slice none 0 0, .string ⟨#[]⟩, .int .i64 0, .slice none 0 0, .int .i64 0, .int .i64 0, .string ⟨#[]⟩, .string ⟨#[]⟩, .string ⟨#[]⟩, .int .i64 0, .bool false, .int .i64 0, .int .i64 0, .int .i64 0, .string ⟨#[]⟩, .string ⟨#[]⟩, .string ⟨#[]⟩, .slice none 0 0, .string ⟨#[]⟩, .int .i64 0, .int .i64 0, .string ⟨#[]⟩] 43)) w' from word_yes b p b_lease WW _ (h.aft ((Aft.refl w).alloc _)))
  have hb := h.lt
  have HPL := Lib.hid h.plt
  have HLO := Lib.hid h.low
  clear h
  go_enter Tryz.func17, Tryz.ntmps17
  go_wp2_with (first
    | (go_at_call 27; with_reducible refine HW0.out.mono ?_; rintro e w1 ⟨rfl, d, k1⟩; have ST := bx_start (t2 := 43) (zs := [.int .i64 0, .int .i64 0, .int .i64 0, .int .i64 0, .int .i64 0, .int .i64 0, .string ⟨#[]⟩, .string ⟨#[]⟩, .string ⟨#[]⟩, .string ⟨#[]⟩, .string ⟨#[]⟩, .slice none 0 0, .string ⟨#[]⟩, .int .i64 0, .slice none 0 0, .int .i64 0, .int .i64 0, .string ⟨#[]⟩, .string ⟨#[]⟩, .string ⟨#[]⟩, .int .i64 0, .bool false, .int .i64 0, .int .i64 0, .int .i64 0, .string ⟨#[]⟩, .string ⟨#[]⟩, .string ⟨#[]⟩, .slice none 0 0, .string ⟨#[]⟩, .int .i64 0, .int .i64 0, .string ⟨#[]⟩]) hb HPL.out HLO.out k1 d [.int .i64 9, .int .i64 0, .int .i64 0, .int .i64 0, .int .i64 0, .int .i64 0, .string ⟨#[]⟩, .string ⟨#[]⟩, .string ⟨#[]⟩, .string ⟨#[]⟩, .string ⟨#[]⟩, .slice none 0 0, .string ⟨#[]⟩, .int .i64 0, .slice none 0 0, .int .i64 0, .int .i64 0, .string ⟨#[]⟩, .string ⟨#[]⟩, .string ⟨#[]⟩, .int .i64 0, .bool false, .int .i64 0, .int .i64 0, .int .i64 0, .string ⟨#[]⟩, .string ⟨#[]⟩, .string ⟨#[]⟩, .slice none 0 0, .string ⟨#[]⟩, .int .i64 0, .int .i64 0, .string ⟨#[]⟩]; have S := Lib.hid ST.1; have X1 := Lib.hid ST.2; clear d k1 ST)
    | (go_at_call 28; with_reducible refine (HI.out _ _ X1.out.ds).mono ?_; rintro e w2 q; rcases number_cases q with ⟨n, rfl, k⟩ | ⟨s2, W2, n, rfl, d, k⟩; all_goals (have N2 := Lib.hid n; have K2 := Lib.hid (X1.out.kw.trans k); clear n q; try (have X2 := Lib.hid (X1.out.call S.out k d); have xz2 := X2.out.row.ltD; have rz2 := X2.out.res.ltD; clear d)))
    | (go_at_call 28; with_reducible refine (HI.out _ _ X2.out.ds).mono ?_; rintro e w3 q; rcases number_cases q with ⟨n, rfl, k⟩ | ⟨s3, W3, n, rfl, d, k⟩; all_goals (have N3 := Lib.hid n; have K3 := Lib.hid (X2.out.kw.trans k); clear n q; try (have X3 := Lib.hid (X2.out.call S.out k d); have xz3 := X3.out.row.ltD; have rz3 := X3.out.res.ltD; obtain ⟨c3_1, f3_1⟩ := X3.out.cf 1 (by simp); obtain ⟨c3_2, f3_2⟩ := X3.out.cf 2 (by simp); have XF := (X3.out.set S.out 2 (.int .i64 s2) (by simp)).set S.out 1 (.int .i64 s3) (by simp); simp only [List.set_cons_succ, List.set_cons_zero] at XF; have XF := Lib.hid XF; obtain ⟨e1, e2⟩ := endsAct XF.out rfl rfl (by simp [Value.oneCell']); clear d))))
  · exact ⟨rfl, K2.out, by rw [show actP (b_lease :: WW) = none by simp only [act_lease, N2.out, Option.bind_some, Option.bind_none]]; rfl⟩
  · exact ⟨rfl, K3.out, by rw [show actP (b_lease :: WW) = none by simp only [act_lease, N2.out, N3.out, Option.bind_some, Option.bind_none]]; rfl⟩
  · obtain ⟨rf, kwf, wdf, kbf⟩ := XF.out.fin S.out rfl
    refine bodyPost_ret (results_cell rfl _ rfl (lv_row (T := 43) Tryz.underlying43 (by kernel_rfl) rf rfl)) rfl ?_
    have S := S.out
    have sb := S.fb
    have sr := S.fr
    have sx := S.fx
    refine ⟨kwf, ?_⟩
    rw [show actP (b_lease :: WW) = some ({ zAct with kind := 9, n := s2, node := s3 }, W3) by simp only [act_lease, N2.out, N3.out, Option.bind_some]]
    exact ⟨_, rfl, actV_plain hb rfl rfl rfl, wdf⟩
set_option maxHeartbeats 8000000 in
theorem rdact_crash (b p : Nat) (WW : Ws) (w : World) (h : WdS w b p (b_crash :: WW)) : Calls Tryz.prog 17 #[.pointer (some ⟨b, 0, none⟩)] w (RdQ b p w (ActV b w.heap.size) (actP (b_crash :: WW))) := by
  have HI := Lib.hid (fun w1 W (h : WdS w1 b p W) => number_rd b p W w1 h)
  have HW0 := Lib.hid (show Calls Tryz.prog 27 #[.pointer (some ⟨b, 0, none⟩)] (w.alloc (.cells #[.int .i64 0, .int .i64 0, .int .i64 0, .int .i64 0, .int .i64 0, .int .i64 0, .string ⟨#[]⟩, .string ⟨#[]⟩, .string ⟨#[]⟩, .string ⟨#[]⟩, .string ⟨#[]⟩, .slice none 0 0, .string ⟨#[]⟩, .int .i64 0, .slice none 0 0, .int .i64 0, .int .i64 0, .string ⟨#[]⟩, .string ⟨#[]⟩, .string ⟨#[]⟩, .int .i64 0, .bool false, .int .i64 0, .int .i64 0, .int .i64 0, .string ⟨#[]⟩, .string ⟨#[]⟩, .string ⟨#[]⟩, .slice none 0 0, .string ⟨#[]⟩, .int .i64 0, .int .i64 0, .string ⟨#[]⟩] 43)) fun e w' => e = .returned (.string ⟨#[99, 114, 97, 115, 104]⟩) ∧ WdS w' b p WW ∧ Kw b (w.alloc (.cells #[.int .i64 0, .int .i64 0, .int .i64 0, .int .i64 0, .int .i64 0, .int .i64 0, .string ⟨#[]⟩, .string ⟨#[]⟩, .string ⟨#[]⟩, .string ⟨#[]⟩, .string ⟨#[]⟩, .slice none 0 0, .string ⟨#[]⟩, .int .i64 0, .slice none 0 0, .int .i64 0, .int .i64 0, .string ⟨#[]⟩, .string ⟨#[]⟩, .string ⟨#[]⟩, .int .i64 0, .bool false, .int .i64 0, .int .i64 0, .int .i64 0, .string ⟨#[]⟩, .string ⟨#[]⟩, .string ⟨#[]⟩, .slice none 0 0, .string ⟨#[]⟩, .int .i64 0, .int .i64 0, .string ⟨#[]⟩] 43)) w' from word_yes b p b_crash WW _ (h.aft ((Aft.refl w).alloc _)))
  have hb := h.lt
  have HPL := Lib.hid h.plt
  have HLO := Lib.hid h.low
  clear h
  go_enter Tryz.func17, Tryz.ntmps17
  go_wp2_with (first
    | (go_at_call 27; with_reducible refine HW0.out.mono ?_; rintro e w1 ⟨rfl, d, k1⟩; have ST := bx_start (t2 := 43) (zs := [.int .i64 0, .int .i64 0, .int .i64 0, .int .i64 0, .int .i64 0, .int .i64 0, .string ⟨#[]⟩, .string ⟨#[]⟩, .string ⟨#[]⟩, .string ⟨#[]⟩, .string ⟨#[]⟩, .slice none 0 0, .string ⟨#[]⟩, .int .i64 0, .slice none 0 0, .int .i64 0, .int .i64 0, .string ⟨#[]⟩, .string ⟨#[]⟩, .string ⟨#[]⟩, .int .i64 0, .bool false, .int .i64 0, .int .i64 0, .int .i64 0, .string ⟨#[]⟩, .string ⟨#[]⟩, .string ⟨#[]⟩, .slice none 0 0, .string ⟨#[]⟩, .int .i64 0, .int .i64 0, .string ⟨#[]⟩]) hb HPL.out HLO.out k1 d [.int .i64 11, .int .i64 0, .int .i64 0, .int .i64 0, .int .i64 0, .int .i64 0, .string ⟨#[]⟩, .string ⟨#[]⟩, .string ⟨#[]⟩, .string ⟨#[]⟩, .string ⟨#[]⟩, .slice none 0 0, .string ⟨#[]⟩, .int .i64 0, .slice none 0 0, .int .i64 0, .int .i64 0, .string ⟨#[]⟩, .string ⟨#[]⟩, .string ⟨#[]⟩, .int .i64 0, .bool false, .int .i64 0, .int .i64 0, .int .i64 0, .string ⟨#[]⟩, .string ⟨#[]⟩, .string ⟨#[]⟩, .slice none 0 0, .string ⟨#[]⟩, .int .i64 0, .int .i64 0, .string ⟨#[]⟩]; have S := Lib.hid ST.1; have X1 := Lib.hid ST.2; clear d k1 ST)
    | (go_at_call 28; with_reducible refine (HI.out _ _ X1.out.ds).mono ?_; rintro e w2 q; rcases number_cases q with ⟨n, rfl, k⟩ | ⟨s2, W2, n, rfl, d, k⟩; all_goals (have N2 := Lib.hid n; have K2 := Lib.hid (X1.out.kw.trans k); clear n q; try (have X2 := Lib.hid (X1.out.call S.out k d); have xz2 := X2.out.row.ltD; have rz2 := X2.out.res.ltD; clear d)))
    | (go_at_call 28; with_reducible refine (HI.out _ _ X2.out.ds).mono ?_; rintro e w3 q; rcases number_cases q with ⟨n, rfl, k⟩ | ⟨s3, W3, n, rfl, d, k⟩; all_goals (have N3 := Lib.hid n; have K3 := Lib.hid (X2.out.kw.trans k); clear n q; try (have X3 := Lib.hid (X2.out.call S.out k d); have xz3 := X3.out.row.ltD; have rz3 := X3.out.res.ltD; obtain ⟨c3_1, f3_1⟩ := X3.out.cf 1 (by simp); obtain ⟨c3_2, f3_2⟩ := X3.out.cf 2 (by simp); have XF := (X3.out.set S.out 1 (.int .i64 s2) (by simp)).set S.out 2 (.int .i64 s3) (by simp); simp only [List.set_cons_succ, List.set_cons_zero] at XF; have XF := Lib.hid XF; obtain ⟨e1, e2⟩ := endsAct XF.out rfl rfl (by simp [Value.oneCell']); clear d))))
  · exact ⟨rfl, K2.out, by rw [show actP (b_crash :: WW) = none by simp only [act_crash, N2.out, Option.bind_some, Option.bind_none]]; rfl⟩
  · exact ⟨rfl, K3.out, by rw [show actP (b_crash :: WW) = none by simp only [act_crash, N2.out, N3.out, Option.bind_some, Option.bind_none]]; rfl⟩
  · obtain ⟨rf, kwf, wdf, kbf⟩ := XF.out.fin S.out rfl
    refine bodyPost_ret (results_cell rfl _ rfl (lv_row (T := 43) Tryz.underlying43 (by kernel_rfl) rf rfl)) rfl ?_
    have S := S.out
    have sb := S.fb
    have sr := S.fr
    have sx := S.fx
    refine ⟨kwf, ?_⟩
    rw [show actP (b_crash :: WW) = some ({ zAct with kind := 11, node := s2, n := s3 }, W3) by simp only [act_crash, N2.out, N3.out, Option.bind_some]]
    exact ⟨_, rfl, actV_plain hb rfl rfl rfl, wdf⟩
set_option maxHeartbeats 8000000 in
theorem rdact_read (b p : Nat) (WW : Ws) (w : World) (h : WdS w b p (b_read :: WW)) : Calls Tryz.prog 17 #[.pointer (some ⟨b, 0, none⟩)] w (RdQ b p w (ActV b w.heap.size) (actP (b_read :: WW))) := by
  have HI := Lib.hid (fun w1 W (h : WdS w1 b p W) => number_rd b p W w1 h)
  have HW0 := Lib.hid (show Calls Tryz.prog 27 #[.pointer (some ⟨b, 0, none⟩)] (w.alloc (.cells #[.int .i64 0, .int .i64 0, .int .i64 0, .int .i64 0, .int .i64 0, .int .i64 0, .string ⟨#[]⟩, .string ⟨#[]⟩, .string ⟨#[]⟩, .string ⟨#[]⟩, .string ⟨#[]⟩, .slice none 0 0, .string ⟨#[]⟩, .int .i64 0, .slice none 0 0, .int .i64 0, .int .i64 0, .string ⟨#[]⟩, .string ⟨#[]⟩, .string ⟨#[]⟩, .int .i64 0, .bool false, .int .i64 0, .int .i64 0, .int .i64 0, .string ⟨#[]⟩, .string ⟨#[]⟩, .string ⟨#[]⟩, .slice none 0 0, .string ⟨#[]⟩, .int .i64 0, .int .i64 0, .string ⟨#[]⟩] 43)) fun e w' => e = .returned (.string ⟨#[114, 101, 97, 100]⟩) ∧ WdS w' b p WW ∧ Kw b (w.alloc (.cells #[.int .i64 0, .int .i64 0, .int .i64 0, .int .i64 0, .int .i64 0, .int .i64 0, .string ⟨#[]⟩, .string ⟨#[]⟩, .string ⟨#[]⟩, .string ⟨#[]⟩, .string ⟨#[]⟩, .slice none 0 0, .string ⟨#[]⟩, .int .i64 0, .slice none 0 0, .int .i64 0, .int .i64 0, .string ⟨#[]⟩, .string ⟨#[]⟩, .string ⟨#[]⟩, .int .i64 0, .bool false, .int .i64 0, .int .i64 0, .int .i64 0, .string ⟨#[]⟩, .string ⟨#[]⟩, .string ⟨#[]⟩, .slice none 0 0, .string ⟨#[]⟩, .int .i64 0, .int .i64 0, .string ⟨#[]⟩] 43)) w' from word_yes b p b_read WW _ (h.aft ((Aft.refl w).alloc _)))
  have hb := h.lt
  have HPL := Lib.hid h.plt
  have HLO := Lib.hid h.low
  clear h
  go_enter Tryz.func17, Tryz.ntmps17
  go_wp2_with (first
    | (go_at_call 27; with_reducible refine HW0.out.mono ?_; rintro e w1 ⟨rfl, d, k1⟩; have ST := bx_start (t2 := 43) (zs := [.int .i64 0, .int .i64 0, .int .i64 0, .int .i64 0, .int .i64 0, .int .i64 0, .string ⟨#[]⟩, .string ⟨#[]⟩, .string ⟨#[]⟩, .string ⟨#[]⟩, .string ⟨#[]⟩, .slice none 0 0, .string ⟨#[]⟩, .int .i64 0, .slice none 0 0, .int .i64 0, .int .i64 0, .string ⟨#[]⟩, .string ⟨#[]⟩, .string ⟨#[]⟩, .int .i64 0, .bool false, .int .i64 0, .int .i64 0, .int .i64 0, .string ⟨#[]⟩, .string ⟨#[]⟩, .string ⟨#[]⟩, .slice none 0 0, .string ⟨#[]⟩, .int .i64 0, .int .i64 0, .string ⟨#[]⟩]) hb HPL.out HLO.out k1 d [.int .i64 7, .int .i64 0, .int .i64 0, .int .i64 0, .int .i64 0, .int .i64 0, .string ⟨#[]⟩, .string ⟨#[]⟩, .string ⟨#[]⟩, .string ⟨#[]⟩, .string ⟨#[]⟩, .slice none 0 0, .string ⟨#[]⟩, .int .i64 0, .slice none 0 0, .int .i64 0, .int .i64 0, .string ⟨#[]⟩, .string ⟨#[]⟩, .string ⟨#[]⟩, .int .i64 0, .bool false, .int .i64 0, .int .i64 0, .int .i64 0, .string ⟨#[]⟩, .string ⟨#[]⟩, .string ⟨#[]⟩, .slice none 0 0, .string ⟨#[]⟩, .int .i64 0, .int .i64 0, .string ⟨#[]⟩]; have S := Lib.hid ST.1; have X1 := Lib.hid ST.2; clear d k1 ST)
    | (go_at_call 28; with_reducible refine (HI.out _ _ X1.out.ds).mono ?_; rintro e w2 q; rcases number_cases q with ⟨n, rfl, k⟩ | ⟨s2, W2, n, rfl, d, k⟩; all_goals (have N2 := Lib.hid n; have K2 := Lib.hid (X1.out.kw.trans k); clear n q; try (have X2 := Lib.hid (X1.out.call S.out k d); have xz2 := X2.out.row.ltD; have rz2 := X2.out.res.ltD; clear d)))
    | (go_at_call 28; with_reducible refine (HI.out _ _ X2.out.ds).mono ?_; rintro e w3 q; rcases number_cases q with ⟨n, rfl, k⟩ | ⟨s3, W3, n, rfl, d, k⟩; all_goals (have N3 := Lib.hid n; have K3 := Lib.hid (X2.out.kw.trans k); clear n q; try (have X3 := Lib.hid (X2.out.call S.out k d); have xz3 := X3.out.row.ltD; have rz3 := X3.out.res.ltD; clear d)))
    | (go_at_call 28; with_reducible refine (HI.out _ _ X3.out.ds).mono ?_; rintro e w4 q; rcases number_cases q with ⟨n, rfl, k⟩ | ⟨s4, W4, n, rfl, d, k⟩; all_goals (have N4 := Lib.hid n; have K4 := Lib.hid (X3.out.kw.trans k); clear n q; try (have X4 := Lib.hid (X3.out.call S.out k d); have xz4 := X4.out.row.ltD; have rz4 := X4.out.res.ltD; obtain ⟨c4_1, f4_1⟩ := X4.out.cf 1 (by simp); obtain ⟨c4_3, f4_3⟩ := X4.out.cf 3 (by simp); obtain ⟨c4_4, f4_4⟩ := X4.out.cf 4 (by simp); have XF := ((X4.out.set S.out 1 (.int .i64 s2) (by simp)).set S.out 3 (.int .i64 s3) (by simp)).set S.out 4 (.int .i64 s4) (by simp); simp only [List.set_cons_succ, List.set_cons_zero] at XF; have XF := Lib.hid XF; obtain ⟨e1, e2⟩ := endsAct XF.out rfl rfl (by simp [Value.oneCell']); clear d))))
  · exact ⟨rfl, K2.out, by rw [show actP (b_read :: WW) = none by simp only [act_read, N2.out, Option.bind_some, Option.bind_none, threeP]]; rfl⟩
  · exact ⟨rfl, K3.out, by rw [show actP (b_read :: WW) = none by simp only [act_read, N2.out, N3.out, Option.bind_some, Option.bind_none, threeP]]; rfl⟩
  · exact ⟨rfl, K4.out, by rw [show actP (b_read :: WW) = none by simp only [act_read, N2.out, N3.out, N4.out, Option.bind_some, Option.bind_none, threeP]]; rfl⟩
  · obtain ⟨rf, kwf, wdf, kbf⟩ := XF.out.fin S.out rfl
    refine bodyPost_ret (results_cell rfl _ rfl (lv_row (T := 43) Tryz.underlying43 (by kernel_rfl) rf rfl)) rfl ?_
    have S := S.out
    have sb := S.fb
    have sr := S.fr
    have sx := S.fx
    refine ⟨kwf, ?_⟩
    rw [show actP (b_read :: WW) = some ({ zAct with kind := 7, node := s2, client := s3, number := s4 }, W4) by simp only [act_read, N2.out, N3.out, N4.out, Option.bind_some, threeP]]
    exact ⟨_, rfl, actV_plain hb rfl rfl rfl, wdf⟩
theorem cmd_cases {b p B : Nat} {W : Ws} {w : World} {e : Ending} {w' : World} (h : RdQ b p w (CmdV b B) (cmdP W) e w') :
    (cmdP W = none ∧ e = .panicked [{ v := .iface 74 (.agg #[]), recovered := false }] ∧ Kw b w w') ∨ ∃ c A k A2 k2 W', cmdP W = some (c, W') ∧ e = .returned (.agg (cmdV c A k A2 k2).toArray) ∧
      (ColsV b B w' (.slice A c.cols.length k) c.cols ∧ NamesV b B w' (.slice A2 c.rule.cols.length k2) c.rule.cols ∧ CmdOk c) ∧ WdS w' b p W' ∧ Kw b w w' := by
  obtain ⟨k, h2⟩ := h
  cases hq : cmdP W with
  | none => rw [hq] at h2; exact .inl ⟨rfl, h2, k⟩
  | some y =>
    obtain ⟨c, W'⟩ := y
    rw [hq] at h2
    obtain ⟨v, rfl, ⟨A, q, A2, q2, rfl, h3⟩, h4⟩ := h2
    exact .inr ⟨c, A, q, A2, q2, W', rfl, rfl, h3, h4, k⟩
theorem rop_cases {b p B : Nat} {W : Ws} {w : World} {e : Ending} {w' : World} (h : RdQ b p w (RopV b B) (rowP W) e w') :
    (rowP W = none ∧ e = .panicked [{ v := .iface 74 (.agg #[]), recovered := false }] ∧ Kw b w w') ∨ ∃ c A k W', rowP W = some (c, W') ∧ e = .returned (.agg (ropV c A k).toArray) ∧
      (ValsV b B w' (.slice A c.row.length k) c.row ∧ RopOk c) ∧ WdS w' b p W' ∧ Kw b w w' := by
  obtain ⟨k, h2⟩ := h
  cases hq : rowP W with
  | none => rw [hq] at h2; exact .inl ⟨rfl, h2, k⟩
  | some y =>
    obtain ⟨c, W'⟩ := y
    rw [hq] at h2
    obtain ⟨v, rfl, ⟨A, q, rfl, h3, h5, h6, h7, h8, h9⟩, h4⟩ := h2
    exact .inr ⟨c, A, q, W', rfl, rfl, ⟨h3, ⟨h5, h6, h7, h8, h9⟩⟩, h4, k⟩
theorem sv_at {T : TypeId} {k : Nat} (hi : (Tryz.prog.info? T).map (·.size) = some k) {V : World} {x : Nat} {pre mid post vs : List Value} (h : RowAt V x (pre ++ (mid ++ post))) (hm : mid.length = k) (hv : vs.length = k) (h1 : ∀ v ∈ vs, v.oneCell' = true) :
    (storeVar T ⟨x, pre.length, none⟩ (.agg vs.toArray)).run Tryz.prog V = .ok () (V.setCells x pre.length vs) := by
  refine run_sv V T x pre.length vs (by rw [hv]; exact hi) fun j hj => ⟨?_, ?_, ?_⟩
  · rw [h.2.1 (pre.length + j) (by simp; omega), List.getElem?_eq_getElem (by simp; omega)]; rfl
  · exact h.2.2 (pre.length + j) (by simp; omega)
  · rw [List.getD, List.getElem?_eq_getElem hj]; exact h1 _ (List.getElem_mem hj)
theorem svCmd_at {V : World} {x n : Nat} {pre mid post : List Value} (c : Cmd) (A : Option Addr) (k : Nat) (A2 : Option Addr) (k2 : Nat) (h : RowAt V x (pre ++ (mid ++ post))) (hp : pre.length = n) (hm : mid.length = 17) :
    (svCmd ⟨x, n, none⟩ (.agg (cmdV c A k A2 k2).toArray)).run Tryz.prog V = .ok () (V.setCells x n (cmdV c A k A2 k2)) := by
  subst hp
  exact sv_at (T := 31) (by kernel_rfl) h hm rfl (by simp [cmdV, Value.oneCell'])
theorem svRop_at {V : World} {x n : Nat} {pre mid post : List Value} (c : ROp) (A : Option Addr) (k : Nat) (h : RowAt V x (pre ++ (mid ++ post))) (hp : pre.length = n) (hm : mid.length = 9) :
    (svRop ⟨x, n, none⟩ (.agg (ropV c A k).toArray)).run Tryz.prog V = .ok () (V.setCells x n (ropV c A k)) := by
  subst hp
  exact sv_at (T := 41) (by kernel_rfl) h hm rfl (by simp [ropV, Value.oneCell'])
theorem Bx.setsAt {b p r x n : Nat} {w V : World} {W : Ws} {zs : List Value} {pre mid post vs : List Value} (X : Bx b p r x w V W zs (pre ++ (mid ++ post))) (S : Bs b p r x w) (hp : pre.length = n) (hm : mid.length = vs.length) : Bx b p r x w (V.setCells x n vs) W zs (pre ++ (vs ++ post)) := by
  subst hp; exact X.sets S hm
theorem ask_eq (s2 s3 s4 : Int) (c : Cmd) (A : Option Addr) (k : Nat) (A2 : Option Addr) (k2 : Nat) : [.int .i64 6, .int .i64 s2, .int .i64 0, .int .i64 s3, .int .i64 s4] ++ (cmdV c A k A2 k2 ++ [.int .i64 0, .int .i64 0, .int .i64 0, .string ⟨#[]⟩, .string ⟨#[]⟩, .string ⟨#[]⟩, .slice none 0 0, .string ⟨#[]⟩, .int .i64 0, .int .i64 0, .string ⟨#[]⟩]) = actV { zAct with kind := 6, node := s2, client := s3, number := s4, cmd := c } A k A2 k2 none 0 := rfl
theorem rowact_eq (s2 : Int) (c : ROp) (A : Option Addr) (k : Nat) : [.int .i64 10, .int .i64 0, .int .i64 s2, .int .i64 0, .int .i64 0, .int .i64 0, .string ⟨#[]⟩, .string ⟨#[]⟩, .string ⟨#[]⟩, .string ⟨#[]⟩, .string ⟨#[]⟩, .slice none 0 0, .string ⟨#[]⟩, .int .i64 0, .slice none 0 0, .int .i64 0, .int .i64 0, .string ⟨#[]⟩, .string ⟨#[]⟩, .string ⟨#[]⟩, .int .i64 0, .bool false, .int .i64 0, .int .i64 0] ++ (ropV c A k ++ []) = actV { zAct with kind := 10, n := s2, row := c } none 0 none 0 A k := rfl
theorem actV_len (a : Dact) (A : Option Addr) (k : Nat) (A2 : Option Addr) (k2 : Nat) (A3 : Option Addr) (k3 : Nat) : (actV a A k A2 k2 A3 k3).length = 33 := rfl
theorem actV_one (a : Dact) (A : Option Addr) (k : Nat) (A2 : Option Addr) (k2 : Nat) (A3 : Option Addr) (k3 : Nat) : ∀ v ∈ actV a A k A2 k2 A3 k3, v.oneCell' = true := by simp [actV, cmdV, ropV, Value.oneCell']
theorem cmdV_len (c : Cmd) (A : Option Addr) (k : Nat) (A2 : Option Addr) (k2 : Nat) : (cmdV c A k A2 k2).length = 17 := rfl
theorem ropV_len (c : ROp) (A : Option Addr) (k : Nat) : (ropV c A k).length = 9 := rfl
set_option maxHeartbeats 8000000 in
theorem rdact_ask (b p : Nat) (WW : Ws) (w : World) (h : WdS w b p (b_ask :: WW)) : Calls Tryz.prog 17 #[.pointer (some ⟨b, 0, none⟩)] w (RdQ b p w (ActV b w.heap.size) (actP (b_ask :: WW))) := by
  have HI := Lib.hid (fun w1 W (h : WdS w1 b p W) => number_rd b p W w1 h)
  have HW0 := Lib.hid (show Calls Tryz.prog 27 #[.pointer (some ⟨b, 0, none⟩)] (w.alloc (.cells #[.int .i64 0, .int .i64 0, .int .i64 0, .int .i64 0, .int .i64 0, .int .i64 0, .string ⟨#[]⟩, .string ⟨#[]⟩, .string ⟨#[]⟩, .string ⟨#[]⟩, .string ⟨#[]⟩, .slice none 0 0, .string ⟨#[]⟩, .int .i64 0, .slice none 0 0, .int .i64 0, .int .i64 0, .string ⟨#[]⟩, .string ⟨#[]⟩, .string ⟨#[]⟩, .int .i64 0, .bool false, .int .i64 0, .int .i64 0, .int .i64 0, .string ⟨#[]⟩, .string ⟨#[]⟩, .string ⟨#[]⟩, .slice none 0 0, .string ⟨#[]⟩, .int .i64 0, .int .i64 0, .string ⟨#[]⟩] 43)) fun e w' => e = .returned (.string ⟨#[97, 115, 107]⟩) ∧ WdS w' b p WW ∧ Kw b (w.alloc (.cells #[.int .i64 0, .int .i64 0, .int .i64 0, .int .i64 0, .int .i64 0, .int .i64 0, .string ⟨#[]⟩, .string ⟨#[]⟩, .string ⟨#[]⟩, .string ⟨#[]⟩, .string ⟨#[]⟩, .slice none 0 0, .string ⟨#[]⟩, .int .i64 0, .slice none 0 0, .int .i64 0, .int .i64 0, .string ⟨#[]⟩, .string ⟨#[]⟩, .string ⟨#[]⟩, .int .i64 0, .bool false, .int .i64 0, .int .i64 0, .int .i64 0, .string ⟨#[]⟩, .string ⟨#[]⟩, .string ⟨#[]⟩, .slice none 0 0, .string ⟨#[]⟩, .int .i64 0, .int .i64 0, .string ⟨#[]⟩] 43)) w' from word_yes b p b_ask WW _ (h.aft ((Aft.refl w).alloc _)))
  have hb := h.lt
  have HPL := Lib.hid h.plt
  have HLO := Lib.hid h.low
  have HC := Lib.hid (fun w1 W (h : WdS w1 b p W) => command_rd b p W w1 h)
  clear h
  go_enter Tryz.func17, Tryz.ntmps17
  go_wp2_with (first
    | (go_at_call 27; with_reducible refine HW0.out.mono ?_; rintro e w1 ⟨rfl, d, k1⟩; have ST := bx_start (t2 := 43) (zs := [.int .i64 0, .int .i64 0, .int .i64 0, .int .i64 0, .int .i64 0, .int .i64 0, .string ⟨#[]⟩, .string ⟨#[]⟩, .string ⟨#[]⟩, .string ⟨#[]⟩, .string ⟨#[]⟩, .slice none 0 0, .string ⟨#[]⟩, .int .i64 0, .slice none 0 0, .int .i64 0, .int .i64 0, .string ⟨#[]⟩, .string ⟨#[]⟩, .string ⟨#[]⟩, .int .i64 0, .bool false, .int .i64 0, .int .i64 0, .int .i64 0, .string ⟨#[]⟩, .string ⟨#[]⟩, .string ⟨#[]⟩, .slice none 0 0, .string ⟨#[]⟩, .int .i64 0, .int .i64 0, .string ⟨#[]⟩]) hb HPL.out HLO.out k1 d [.int .i64 6, .int .i64 0, .int .i64 0, .int .i64 0, .int .i64 0, .int .i64 0, .string ⟨#[]⟩, .string ⟨#[]⟩, .string ⟨#[]⟩, .string ⟨#[]⟩, .string ⟨#[]⟩, .slice none 0 0, .string ⟨#[]⟩, .int .i64 0, .slice none 0 0, .int .i64 0, .int .i64 0, .string ⟨#[]⟩, .string ⟨#[]⟩, .string ⟨#[]⟩, .int .i64 0, .bool false, .int .i64 0, .int .i64 0, .int .i64 0, .string ⟨#[]⟩, .string ⟨#[]⟩, .string ⟨#[]⟩, .slice none 0 0, .string ⟨#[]⟩, .int .i64 0, .int .i64 0, .string ⟨#[]⟩]; have S := Lib.hid ST.1; have X1 := Lib.hid ST.2; clear d k1 ST)
    | (go_at_call 28; with_reducible refine (HI.out _ _ X1.out.ds).mono ?_; rintro e w2 q; rcases number_cases q with ⟨n, rfl, k⟩ | ⟨s2, W2, n, rfl, d, k⟩; all_goals (have N2 := Lib.hid n; have K2 := Lib.hid (X1.out.kw.trans k); clear n q; try (have X2 := Lib.hid (X1.out.call S.out k d); have xz2 := X2.out.row.ltD; have rz2 := X2.out.res.ltD; clear d)))
    | (go_at_call 28; with_reducible refine (HI.out _ _ X2.out.ds).mono ?_; rintro e w3 q; rcases number_cases q with ⟨n, rfl, k⟩ | ⟨s3, W3, n, rfl, d, k⟩; all_goals (have N3 := Lib.hid n; have K3 := Lib.hid (X2.out.kw.trans k); clear n q; try (have X3 := Lib.hid (X2.out.call S.out k d); have xz3 := X3.out.row.ltD; have rz3 := X3.out.res.ltD; clear d)))
    | (go_at_call 28; with_reducible refine (HI.out _ _ X3.out.ds).mono ?_; rintro e w4 q; rcases number_cases q with ⟨n, rfl, k⟩ | ⟨s4, W4, n, rfl, d, k⟩; all_goals (have N4 := Lib.hid n; have K4 := Lib.hid (X3.out.kw.trans k); clear n q; try (have X4 := Lib.hid (X3.out.call S.out k d); have xz4 := X4.out.row.ltD; have rz4 := X4.out.res.ltD; obtain ⟨c4_1, f4_1⟩ := X4.out.cf 1 (by simp); obtain ⟨c4_3, f4_3⟩ := X4.out.cf 3 (by simp); obtain ⟨c4_4, f4_4⟩ := X4.out.cf 4 (by simp); have X4s := Lib.hid (((X4.out.set S.out 1 (.int .i64 s2) (by simp)).set S.out 3 (.int .i64 s3) (by simp)).set S.out 4 (.int .i64 s4) (by simp)); clear d)))
    | (go_at_call 29; with_reducible refine (HC.out _ _ X4s.out.ds).mono ?_; rintro e w5 q; rcases cmd_cases q with ⟨n, rfl, k1⟩ | ⟨c, A, k, A2, k2, W5, n, rfl, g, d, k1⟩; all_goals (have N5 := Lib.hid n; have K5 := Lib.hid (X4s.out.kw.trans k1); clear n q; try (have X5 := Lib.hid (X4s.out.call S.out k1 d); have xz5 := X5.out.row.ltD; have X5p : Bx b p w.heap.size w1.heap.size w w5 W5 [.int .i64 0, .int .i64 0, .int .i64 0, .int .i64 0, .int .i64 0, .int .i64 0, .string ⟨#[]⟩, .string ⟨#[]⟩, .string ⟨#[]⟩, .string ⟨#[]⟩, .string ⟨#[]⟩, .slice none 0 0, .string ⟨#[]⟩, .int .i64 0, .slice none 0 0, .int .i64 0, .int .i64 0, .string ⟨#[]⟩, .string ⟨#[]⟩, .string ⟨#[]⟩, .int .i64 0, .bool false, .int .i64 0, .int .i64 0, .int .i64 0, .string ⟨#[]⟩, .string ⟨#[]⟩, .string ⟨#[]⟩, .slice none 0 0, .string ⟨#[]⟩, .int .i64 0, .int .i64 0, .string ⟨#[]⟩] ([.int .i64 6, .int .i64 s2, .int .i64 0, .int .i64 s3, .int .i64 s4] ++ ([.int .i64 0, .string ⟨#[]⟩, .string ⟨#[]⟩, .string ⟨#[]⟩, .string ⟨#[]⟩, .string ⟨#[]⟩, .slice none 0 0, .string ⟨#[]⟩, .int .i64 0, .slice none 0 0, .int .i64 0, .int .i64 0, .string ⟨#[]⟩, .string ⟨#[]⟩, .string ⟨#[]⟩, .int .i64 0, .bool false] ++ [.int .i64 0, .int .i64 0, .int .i64 0, .string ⟨#[]⟩, .string ⟨#[]⟩, .string ⟨#[]⟩, .slice none 0 0, .string ⟨#[]⟩, .int .i64 0, .int .i64 0, .string ⟨#[]⟩])) := (by have := X5.out; simpa only [List.set_cons_succ, List.set_cons_zero, List.cons_append, List.nil_append, List.append_nil] using this); have e5 := svCmd_at c A k A2 k2 X5p.row (n := 5) (by simp) (by simp); have XF := X5p.setsAt (n := 5) (vs := cmdV c A k A2 k2) S.out (by simp) (by simp [cmdV_len]); rw [ask_eq] at XF; have XF := Lib.hid XF; obtain ⟨e1, e2⟩ := endsAct XF.out rfl (actV_len _ _ _ _ _ _ _) (actV_one _ _ _ _ _ _ _); clear d k1 X5p))))
  · exact ⟨rfl, K2.out, by rw [show actP (b_ask :: WW) = none by simp only [act_ask, N2.out, Option.bind_some, Option.bind_none, threeP]]; rfl⟩
  · exact ⟨rfl, K3.out, by rw [show actP (b_ask :: WW) = none by simp only [act_ask, N2.out, N3.out, Option.bind_some, Option.bind_none, threeP]]; rfl⟩
  · exact ⟨rfl, K4.out, by rw [show actP (b_ask :: WW) = none by simp only [act_ask, N2.out, N3.out, N4.out, Option.bind_some, Option.bind_none, threeP]]; rfl⟩
  · exact ⟨rfl, K5.out, by rw [show actP (b_ask :: WW) = none by simp only [act_ask, N2.out, N3.out, N4.out, N5.out, Option.bind_some, Option.bind_none, threeP]]; rfl⟩
  · obtain ⟨rf, kwf, wdf, kbf⟩ := XF.out.fin S.out rfl
    refine bodyPost_ret (results_cell rfl _ rfl (lv_row (T := 43) Tryz.underlying43 (by kernel_rfl) rf rfl)) rfl ?_
    have S := S.out
    have sb := S.fb
    have sr := S.fr
    have sx := S.fx
    obtain ⟨g1, g2, g3⟩ := g
    have z2 := X4s.out.row.ltD
    have z3 := X4s.out.res.ltD
    have z4 := X4s.out.ds.lt
    have kx := kb_setCellsD w1.heap.size (cmdV c A k A2 k2) w5 5
    refine ⟨kwf, ?_⟩
    rw [show actP (b_ask :: WW) = some ({ zAct with kind := 6, node := s2, client := s3, number := s4, cmd := c }, W5) by simp only [act_ask, N2.out, N3.out, N4.out, N5.out, Option.bind_some, threeP]]
    exact ⟨_, rfl, ⟨_, _, _, _, _, _, rfl, ((g1.hi kx (fun g e => by have e' : g = _ := e; omega)).hi kbf (fun g e => by have e' : g = _ := e; omega)).down (by omega) (by omega), ((g2.hi kx (fun g e => by have e' : g = _ := e; omega)).hi kbf (fun g e => by have e' : g = _ := e; omega)).down (by omega) (by omega), vals_nil b _ _ sb, g3, ropOk_z⟩, wdf⟩
set_option maxHeartbeats 8000000 in
theorem rdact_row (b p : Nat) (WW : Ws) (w : World) (h : WdS w b p (b_row :: WW)) : Calls Tryz.prog 17 #[.pointer (some ⟨b, 0, none⟩)] w (RdQ b p w (ActV b w.heap.size) (actP (b_row :: WW))) := by
  have HI := Lib.hid (fun w1 W (h : WdS w1 b p W) => number_rd b p W w1 h)
  have HW0 := Lib.hid (show Calls Tryz.prog 27 #[.pointer (some ⟨b, 0, none⟩)] (w.alloc (.cells #[.int .i64 0, .int .i64 0, .int .i64 0, .int .i64 0, .int .i64 0, .int .i64 0, .string ⟨#[]⟩, .string ⟨#[]⟩, .string ⟨#[]⟩, .string ⟨#[]⟩, .string ⟨#[]⟩, .slice none 0 0, .string ⟨#[]⟩, .int .i64 0, .slice none 0 0, .int .i64 0, .int .i64 0, .string ⟨#[]⟩, .string ⟨#[]⟩, .string ⟨#[]⟩, .int .i64 0, .bool false, .int .i64 0, .int .i64 0, .int .i64 0, .string ⟨#[]⟩, .string ⟨#[]⟩, .string ⟨#[]⟩, .slice none 0 0, .string ⟨#[]⟩, .int .i64 0, .int .i64 0, .string ⟨#[]⟩] 43)) fun e w' => e = .returned (.string ⟨#[114, 111, 119]⟩) ∧ WdS w' b p WW ∧ Kw b (w.alloc (.cells #[.int .i64 0, .int .i64 0, .int .i64 0, .int .i64 0, .int .i64 0, .int .i64 0, .string ⟨#[]⟩, .string ⟨#[]⟩, .string ⟨#[]⟩, .string ⟨#[]⟩, .string ⟨#[]⟩, .slice none 0 0, .string ⟨#[]⟩, .int .i64 0, .slice none 0 0, .int .i64 0, .int .i64 0, .string ⟨#[]⟩, .string ⟨#[]⟩, .string ⟨#[]⟩, .int .i64 0, .bool false, .int .i64 0, .int .i64 0, .int .i64 0, .string ⟨#[]⟩, .string ⟨#[]⟩, .string ⟨#[]⟩, .slice none 0 0, .string ⟨#[]⟩, .int .i64 0, .int .i64 0, .string ⟨#[]⟩] 43)) w' from word_yes b p b_row WW _ (h.aft ((Aft.refl w).alloc _)))
  have hb := h.lt
  have HPL := Lib.hid h.plt
  have HLO := Lib.hid h.low
  have HR := Lib.hid (fun w1 W (h : WdS w1 b p W) => row_rd b p W w1 h)
  clear h
  go_enter Tryz.func17, Tryz.ntmps17
  go_wp2_with (first
    | (go_at_call 27; with_reducible refine HW0.out.mono ?_; rintro e w1 ⟨rfl, d, k1⟩; have D1 := Lib.hid d; have R1 := Lib.hid k1; clear d k1)
    | (go_at_call 28; with_reducible refine (HI.out _ _ D1.out).mono ?_; rintro e w2 q; rcases number_cases q with ⟨n, rfl, k1⟩ | ⟨s2, W2, n, rfl, d, k1⟩; all_goals (have N2 := Lib.hid n; have R2 := Lib.hid (R1.out.trans k1); have K2 := Lib.hid (((Kw.refl b w).alloc _).trans R2.out); clear n q; try (have ST := bx_start (t2 := 43) (zs := [.int .i64 0, .int .i64 0, .int .i64 0, .int .i64 0, .int .i64 0, .int .i64 0, .string ⟨#[]⟩, .string ⟨#[]⟩, .string ⟨#[]⟩, .string ⟨#[]⟩, .string ⟨#[]⟩, .slice none 0 0, .string ⟨#[]⟩, .int .i64 0, .slice none 0 0, .int .i64 0, .int .i64 0, .string ⟨#[]⟩, .string ⟨#[]⟩, .string ⟨#[]⟩, .int .i64 0, .bool false, .int .i64 0, .int .i64 0, .int .i64 0, .string ⟨#[]⟩, .string ⟨#[]⟩, .string ⟨#[]⟩, .slice none 0 0, .string ⟨#[]⟩, .int .i64 0, .int .i64 0, .string ⟨#[]⟩]) hb HPL.out HLO.out R2.out d [.int .i64 10, .int .i64 0, .int .i64 s2, .int .i64 0, .int .i64 0, .int .i64 0, .string ⟨#[]⟩, .string ⟨#[]⟩, .string ⟨#[]⟩, .string ⟨#[]⟩, .string ⟨#[]⟩, .slice none 0 0, .string ⟨#[]⟩, .int .i64 0, .slice none 0 0, .int .i64 0, .int .i64 0, .string ⟨#[]⟩, .string ⟨#[]⟩, .string ⟨#[]⟩, .int .i64 0, .bool false, .int .i64 0, .int .i64 0, .int .i64 0, .string ⟨#[]⟩, .string ⟨#[]⟩, .string ⟨#[]⟩, .slice none 0 0, .string ⟨#[]⟩, .int .i64 0, .int .i64 0, .string ⟨#[]⟩]; have S := Lib.hid ST.1; have X2 := Lib.hid ST.2; clear d k1 ST)))
    | (go_at_call 31; with_reducible refine (HR.out _ _ X2.out.ds).mono ?_; rintro e w3 q; rcases rop_cases q with ⟨n, rfl, k1⟩ | ⟨c, A, k, W3, n, rfl, g, d, k1⟩; all_goals (have N3 := Lib.hid n; have K3 := Lib.hid (X2.out.kw.trans k1); clear n q; try (have X3 := Lib.hid (X2.out.call S.out k1 d); have xz3 := X3.out.row.ltD; have X3p : Bx b p w.heap.size w2.heap.size w w3 W3 [.int .i64 0, .int .i64 0, .int .i64 0, .int .i64 0, .int .i64 0, .int .i64 0, .string ⟨#[]⟩, .string ⟨#[]⟩, .string ⟨#[]⟩, .string ⟨#[]⟩, .string ⟨#[]⟩, .slice none 0 0, .string ⟨#[]⟩, .int .i64 0, .slice none 0 0, .int .i64 0, .int .i64 0, .string ⟨#[]⟩, .string ⟨#[]⟩, .string ⟨#[]⟩, .int .i64 0, .bool false, .int .i64 0, .int .i64 0, .int .i64 0, .string ⟨#[]⟩, .string ⟨#[]⟩, .string ⟨#[]⟩, .slice none 0 0, .string ⟨#[]⟩, .int .i64 0, .int .i64 0, .string ⟨#[]⟩] ([.int .i64 10, .int .i64 0, .int .i64 s2, .int .i64 0, .int .i64 0, .int .i64 0, .string ⟨#[]⟩, .string ⟨#[]⟩, .string ⟨#[]⟩, .string ⟨#[]⟩, .string ⟨#[]⟩, .slice none 0 0, .string ⟨#[]⟩, .int .i64 0, .slice none 0 0, .int .i64 0, .int .i64 0, .string ⟨#[]⟩, .string ⟨#[]⟩, .string ⟨#[]⟩, .int .i64 0, .bool false, .int .i64 0, .int .i64 0] ++ ([.int .i64 0, .string ⟨#[]⟩, .string ⟨#[]⟩, .string ⟨#[]⟩, .slice none 0 0, .string ⟨#[]⟩, .int .i64 0, .int .i64 0, .string ⟨#[]⟩] ++ [])) := (by have := X3.out; simpa only [List.set_cons_succ, List.set_cons_zero, List.cons_append, List.nil_append, List.append_nil] using this); have e5 := svRop_at c A k X3p.row (n := 24) (by simp) (by simp); have XF := X3p.setsAt (n := 24) (vs := ropV c A k) S.out (by simp) (by simp [ropV_len]); rw [rowact_eq] at XF; have XF := Lib.hid XF; obtain ⟨e1, e2⟩ := endsAct XF.out rfl (actV_len _ _ _ _ _ _ _) (actV_one _ _ _ _ _ _ _); clear d k1 X3p))))
  · exact ⟨rfl, K2.out, by rw [show actP (b_row :: WW) = none by simp only [act_row, N2.out, Option.bind_some, Option.bind_none]]; rfl⟩
  · exact ⟨rfl, K3.out, by rw [show actP (b_row :: WW) = none by simp only [act_row, N2.out, N3.out, Option.bind_some, Option.bind_none]]; rfl⟩
  · obtain ⟨rf, kwf, wdf, kbf⟩ := XF.out.fin S.out rfl
    refine bodyPost_ret (results_cell rfl _ rfl (lv_row (T := 43) Tryz.underlying43 (by kernel_rfl) rf rfl)) rfl ?_
    have S := S.out
    have sb := S.fb
    have sr := S.fr
    have sx := S.fx
    obtain ⟨g1, g2⟩ := g
    have z2 := X2.out.row.ltD
    have z3 := X2.out.res.ltD
    have z4 := X2.out.ds.lt
    have kx := kb_setCellsD w2.heap.size (ropV c A k) w3 24
    refine ⟨kwf, ?_⟩
    rw [show actP (b_row :: WW) = some ({ zAct with kind := 10, n := s2, row := c }, W3) by simp only [act_row, N2.out, N3.out, Option.bind_some]]
    exact ⟨_, rfl, ⟨_, _, _, _, _, _, rfl, cols_nil b _ _ sb, names_nil b _ _ sb, ⟨((g1.1.hi kx (fun g e => by have e' : g = _ := e; omega)).hi kbf (fun g e => by have e' : g = _ := e; omega)).down (by omega) (by omega), g1.2⟩, cmdOk_z, g2⟩, wdf⟩
set_option maxHeartbeats 8000000 in
theorem rdact_none (b p : Nat) (f : ByteArray) (WW : Ws) (w : World) (h : WdS w b p (f :: WW)) (h0 : eqS f b_tick = false) (h1 : eqS f b_world = false) (h2 : eqS f b_start = false) (h3 : eqS f b_deliver = false) (h4 : eqS f b_drop = false) (h5 : eqS f b_double = false) (h6 : eqS f b_ask = false) (h7 : eqS f b_read = false) (h8 : eqS f b_learner = false) (h9 : eqS f b_voter = false) (h10 : eqS f b_remove = false) (h11 : eqS f b_lease = false) (h12 : eqS f b_row = false) (h13 : eqS f b_crash = false) : Calls Tryz.prog 17 #[.pointer (some ⟨b, 0, none⟩)] w (RdQ b p w (ActV b w.heap.size) (actP (f :: WW))) := by
  have HI := Lib.hid (fun w1 W (h : WdS w1 b p W) => number_rd b p W w1 h)
  have HW0 := Lib.hid (show Calls Tryz.prog 27 #[.pointer (some ⟨b, 0, none⟩)] (w.alloc (.cells #[.int .i64 0, .int .i64 0, .int .i64 0, .int .i64 0, .int .i64 0, .int .i64 0, .string ⟨#[]⟩, .string ⟨#[]⟩, .string ⟨#[]⟩, .string ⟨#[]⟩, .string ⟨#[]⟩, .slice none 0 0, .string ⟨#[]⟩, .int .i64 0, .slice none 0 0, .int .i64 0, .int .i64 0, .string ⟨#[]⟩, .string ⟨#[]⟩, .string ⟨#[]⟩, .int .i64 0, .bool false, .int .i64 0, .int .i64 0, .int .i64 0, .string ⟨#[]⟩, .string ⟨#[]⟩, .string ⟨#[]⟩, .slice none 0 0, .string ⟨#[]⟩, .int .i64 0, .int .i64 0, .string ⟨#[]⟩] 43)) fun e w' => e = .returned (.string f) ∧ WdS w' b p WW ∧ Kw b (w.alloc (.cells #[.int .i64 0, .int .i64 0, .int .i64 0, .int .i64 0, .int .i64 0, .int .i64 0, .string ⟨#[]⟩, .string ⟨#[]⟩, .string ⟨#[]⟩, .string ⟨#[]⟩, .string ⟨#[]⟩, .slice none 0 0, .string ⟨#[]⟩, .int .i64 0, .slice none 0 0, .int .i64 0, .int .i64 0, .string ⟨#[]⟩, .string ⟨#[]⟩, .string ⟨#[]⟩, .int .i64 0, .bool false, .int .i64 0, .int .i64 0, .int .i64 0, .string ⟨#[]⟩, .string ⟨#[]⟩, .string ⟨#[]⟩, .slice none 0 0, .string ⟨#[]⟩, .int .i64 0, .int .i64 0, .string ⟨#[]⟩] 43)) w' from word_yes b p f WW _ (h.aft ((Aft.refl w).alloc _)))
  have hb := h.lt
  have HPL := Lib.hid h.plt
  have HLO := Lib.hid h.low
  have q0 : (f.toList == [116, 105, 99, 107]) = false := by have := eqS_as h0; exact this
  have q1 : (f.toList == [119, 111, 114, 108, 100]) = false := by have := eqS_as h1; exact this
  have q2 : (f.toList == [115, 116, 97, 114, 116]) = false := by have := eqS_as h2; exact this
  have q3 : (f.toList == [100, 101, 108, 105, 118, 101, 114]) = false := by have := eqS_as h3; exact this
  have q4 : (f.toList == [100, 114, 111, 112]) = false := by have := eqS_as h4; exact this
  have q5 : (f.toList == [100, 111, 117, 98, 108, 101]) = false := by have := eqS_as h5; exact this
  have q6 : (f.toList == [97, 115, 107]) = false := by have := eqS_as h6; exact this
  have q7 : (f.toList == [114, 101, 97, 100]) = false := by have := eqS_as h7; exact this
  have q8 : (f.toList == [108, 101, 97, 114, 110, 101, 114]) = false := by have := eqS_as h8; exact this
  have q9 : (f.toList == [118, 111, 116, 101, 114]) = false := by have := eqS_as h9; exact this
  have q10 : (f.toList == [114, 101, 109, 111, 118, 101]) = false := by have := eqS_as h10; exact this
  have q11 : (f.toList == [108, 101, 97, 115, 101]) = false := by have := eqS_as h11; exact this
  have q12 : (f.toList == [114, 111, 119]) = false := by have := eqS_as h12; exact this
  have q13 : (f.toList == [99, 114, 97, 115, 104]) = false := by have := eqS_as h13; exact this
  have HB := Lib.hid (show actP (f :: WW) = none by rw [actP_cons]; unfold actT; simp only [h0, h1, h2, h3, h4, h5, h6, h7, h8, h9, h10, h11, h12, h13, Bool.false_eq_true, if_false])
  clear h0 h1 h2 h3 h4 h5 h6 h7 h8 h9 h10 h11 h12 h13
  clear h
  go_enter Tryz.func17, Tryz.ntmps17
  go_wp2_with (first
    | (go_at_call 27; with_reducible refine HW0.out.mono ?_; rintro e w1 ⟨rfl, d, k1⟩; have X1 := Lib.hid (Br.start (zs := [.int .i64 0, .int .i64 0, .int .i64 0, .int .i64 0, .int .i64 0, .int .i64 0, .string ⟨#[]⟩, .string ⟨#[]⟩, .string ⟨#[]⟩, .string ⟨#[]⟩, .string ⟨#[]⟩, .slice none 0 0, .string ⟨#[]⟩, .int .i64 0, .slice none 0 0, .int .i64 0, .int .i64 0, .string ⟨#[]⟩, .string ⟨#[]⟩, .string ⟨#[]⟩, .int .i64 0, .bool false, .int .i64 0, .int .i64 0, .int .i64 0, .string ⟨#[]⟩, .string ⟨#[]⟩, .string ⟨#[]⟩, .slice none 0 0, .string ⟨#[]⟩, .int .i64 0, .int .i64 0, .string ⟨#[]⟩]) hb HPL.out HLO.out k1 d); clear d k1))
  · exact ⟨rfl, X1.out.kw, by rw [HB.out]; rfl⟩
theorem act_rd (b p : Nat) (W : Ws) (w : World) (h : WdS w b p W) : Calls Tryz.prog 17 #[.pointer (some ⟨b, 0, none⟩)] w (RdQ b p w (ActV b w.heap.size) (actP W)) := by
  cases W with
  | nil =>
    have HW0 := Lib.hid (word_no b p _ (h.aft ((Aft.refl w).alloc (.cells #[.int .i64 0, .int .i64 0, .int .i64 0, .int .i64 0, .int .i64 0, .int .i64 0, .string ⟨#[]⟩, .string ⟨#[]⟩, .string ⟨#[]⟩, .string ⟨#[]⟩, .string ⟨#[]⟩, .slice none 0 0, .string ⟨#[]⟩, .int .i64 0, .slice none 0 0, .int .i64 0, .int .i64 0, .string ⟨#[]⟩, .string ⟨#[]⟩, .string ⟨#[]⟩, .int .i64 0, .bool false, .int .i64 0, .int .i64 0, .int .i64 0, .string ⟨#[]⟩, .string ⟨#[]⟩, .string ⟨#[]⟩, .slice none 0 0, .string ⟨#[]⟩, .int .i64 0, .int .i64 0, .string ⟨#[]⟩] 43))))
    clear h
    go_enter Tryz.func17, Tryz.ntmps17
    go_wp2_with (first | (go_at_call 27; refine HW0.out.mono ?_; rintro e w' ⟨he, rfl⟩; unfold NoL at he; subst he))
    exact ⟨rfl, (Kw.refl _ _).alloc _, rfl⟩
  | cons f WW =>
    cases h0 : eqS f b_tick with
    | true => rw [eqS_iffD] at h0; subst h0; exact rdact_tick b p WW w h
    | false =>
    cases h1 : eqS f b_world with
    | true => rw [eqS_iffD] at h1; subst h1; exact rdact_world b p WW w h
    | false =>
    cases h2 : eqS f b_start with
    | true => rw [eqS_iffD] at h2; subst h2; exact rdact_start b p WW w h
    | false =>
    cases h3 : eqS f b_deliver with
    | true => rw [eqS_iffD] at h3; subst h3; exact rdact_deliver b p WW w h
    | false =>
    cases h4 : eqS f b_drop with
    | true => rw [eqS_iffD] at h4; subst h4; exact rdact_drop b p WW w h
    | false =>
    cases h5 : eqS f b_double with
    | true => rw [eqS_iffD] at h5; subst h5; exact rdact_double b p WW w h
    | false =>
    cases h6 : eqS f b_ask with
    | true => rw [eqS_iffD] at h6; subst h6; exact rdact_ask b p WW w h
    | false =>
    cases h7 : eqS f b_read with
    | true => rw [eqS_iffD] at h7; subst h7; exact rdact_read b p WW w h
    | false =>
    cases h8 : eqS f b_learner with
    | true => rw [eqS_iffD] at h8; subst h8; exact rdact_learner b p WW w h
    | false =>
    cases h9 : eqS f b_voter with
    | true => rw [eqS_iffD] at h9; subst h9; exact rdact_voter b p WW w h
    | false =>
    cases h10 : eqS f b_remove with
    | true => rw [eqS_iffD] at h10; subst h10; exact rdact_remove b p WW w h
    | false =>
    cases h11 : eqS f b_lease with
    | true => rw [eqS_iffD] at h11; subst h11; exact rdact_lease b p WW w h
    | false =>
    cases h12 : eqS f b_row with
    | true => rw [eqS_iffD] at h12; subst h12; exact rdact_row b p WW w h
    | false =>
    cases h13 : eqS f b_crash with
    | true => rw [eqS_iffD] at h13; subst h13; exact rdact_crash b p WW w h
    | false =>
    exact rdact_none b p f WW w h h0 h1 h2 h3 h4 h5 h6 h7 h8 h9 h10 h11 h12 h13
end Go.Proofs.YtbdanlipghhgpaaGreatDoor

