/- Contracts of the program, part 4. -/
import Derived.Deep.AppendLies
import Derived.Laws.EntriesVeiled
import Derived.WalkKit
import Derived.WalkSpells
import Derived.WalkLawsBesides
import Derived.Laws.Cells
import Derived.Laws.IdiomCopy
import Derived.Test.YtbdanlipghhgpaaGreatDoorRows
import Derived.Lib.Bytealg
import Derived.Lib.Hide
import Derived.ProofKit
import Derived.OpenShut
import Derived.Deep.Slices
import Derived.ChangeOld
import Derived.SizedLaws
import Derived.Deep.QuietTactic
import Derived.BigQuiet
import Derived.Below
import Derived.Deep.Draws
import Derived.StillTailTactics
import Derived.ShutString
import Derived.Lib.Atoi
import Derived.Lib.ItoaNum
import Derived.Lib.Split
import Derived.Lib.SplitLaws
import Derived.Lib.CutLaws
import Derived.Lib.Strings
import Derived.Lib.SlTrimSet
import Derived.Deep.Upon
import Derived.OwnWalk
import Derived.Laws.AppendOwn
import Derived.Shelf.Strings.Builder1
import Derived.Shelf.Strings.Builder2
import Derived.Shelf.Strings.OnBuilder
import Derived.Shelf.Strings.Trim
import Derived.Shelf.Small.Utf8
import Derived.Shelf.Small.Strs
import Derived.Shelf.Small.Wraps
import Derived.Shelf.Strconv.Atoi
import Derived.Shelf.Strconv.Itoa0
import Derived.Shelf.Strconv.Itoa1
import Derived.Shelf.LaysM
import Derived.Shelf.Strconv.Itoa2
import Derived.Shelf.Strconv.Itoa3
import Derived.Shelf.Strings.Search1
import Derived.Shelf.Strings.Search2
import Derived.Shelf.Strings.Search3
import Derived.Shelf.Strings.Cut
import Derived.Shelf.Strings.Count
import Derived.Shelf.Strings.Shaped
import Derived.Shelf.Strings.Prefix
import Derived.Shelf.Strings.Split
import Derived.Shelf.Strings.Runes
import Derived.Shelf.Strings.AsciiSet
import Derived.Shelf.Unicode.DecodeSlow
import Derived.Shelf.Slices.Equal
import Derived.Shelf.Slices.Empties2
import Derived.Shelf.Strings.SlTrimAscii
import Derived.Test.YtbdanlipghhgpaaGreatDoorProg
import Derived.Test.YtbdanlipghhgpaaGreatDoorPartD1
import Derived.Test.YtbdanlipghhgpaaGreatDoorPartD2
import Derived.Test.YtbdanlipghhgpaaGreatDoorPartD3
namespace Go.Proofs.YtbdanlipghhgpaaGreatDoor
open Go.RowKit Go.Deep
set_option maxRecDepth 100000
set_option linter.unusedVariables false
theorem lv_row {T : TypeId} {fs : Array Field} {k : Nat} (hu : Tryz.prog.underlying T = some (.struct fs)) (hi : (Tryz.prog.info? T).map (·.size) = some k) {V : World} {x : Nat} {cs : List Value} (h : RowAt V x cs) (hk : cs.length = k) :
    (loadVar T ⟨x, 0, none⟩).run Tryz.prog V = .ok (.agg cs.toArray) V := by
  rw [run_lv V T _ k x 0 hu rfl hi (fun j hj => by rw [Nat.zero_add, h.2.1 j (by omega), List.getElem?_eq_getElem (by omega)]; rfl)]
  congr 2
  congr 1
  apply List.ext_getElem
  · simp [hk]
  · intro j h1 h2
    simp only [List.getElem_map, List.getElem_range, Nat.zero_add]
    rw [h.2.1 j h2, List.getElem?_eq_getElem h2]; rfl
theorem row_setCells {x : Nat} : ∀ (vs : List Value) (V : World) (pre cs : List Value), RowAt V x (pre ++ cs) → cs.length = vs.length → RowAt (V.setCells x pre.length vs) x (pre ++ vs)
  | [], V, pre, cs, h, hl => by
    have : cs = [] := List.eq_nil_of_length_eq_zero hl
    subst this; exact h
  | v :: vs, V, pre, [], h, hl => by simp at hl
  | v :: vs, V, pre, c :: cs, h, hl => by
    have h1 := h.set pre.length v (by simp)
    have e : (pre ++ c :: cs).set pre.length v = (pre ++ [v]) ++ cs := by simp
    rw [e] at h1
    have h2 := row_setCells vs _ (pre ++ [v]) cs h1 (by simpa using hl)
    rw [show (pre ++ [v]).length = pre.length + 1 by simp, List.append_assoc] at h2
    exact h2
theorem kb_setCellsD (g : Nat) : ∀ (vs : List Value) (w : World) (o : Nat), Kb (fun k => k = g) w (w.setCells g o vs)
  | [], w, o => Kb.refl _ w
  | v :: vs, w, o => (Kb.set w g o v).trans (kb_setCellsD g vs _ (o + 1))
theorem sv_row {T : TypeId} {k : Nat} (hi : (Tryz.prog.info? T).map (·.size) = some k) {V : World} {r : Nat} {zs vs : List Value} (h : RowAt V r zs) (hz : zs.length = k) (hv : vs.length = k) (h1 : ∀ v ∈ vs, v.oneCell' = true) :
    (storeVar T ⟨r, 0, none⟩ (.agg vs.toArray)).run Tryz.prog V = .ok () (V.setCells r 0 vs) := by
  refine run_sv V T r 0 vs (by rw [hv]; exact hi) fun j hj => ⟨?_, ?_, ?_⟩
  · rw [Nat.zero_add, h.2.1 j (by omega), List.getElem?_eq_getElem (by omega)]; rfl
  · rw [Nat.zero_add]; exact h.2.2 j (by omega)
  · rw [List.getD, List.getElem?_eq_getElem hj]; exact h1 _ (List.getElem_mem hj)
theorem lvRul_row {V : World} {x : Nat} {cs : List Value} (h : RowAt V x cs) (hk : cs.length = 8) : (lvRul ⟨x, 0, none⟩).run Tryz.prog V = .ok (.agg cs.toArray) V :=
  lv_row (T := 28) Tryz.underlying28 (by kernel_rfl) h hk
theorem svRul_row {V : World} {r : Nat} {zs vs : List Value} (h : RowAt V r zs) (hz : zs.length = 8) (hv : vs.length = 8) (h1 : ∀ v ∈ vs, v.oneCell' = true) : (svRul ⟨r, 0, none⟩ (.agg vs.toArray)).run Tryz.prog V = .ok () (V.setCells r 0 vs) :=
  sv_row (T := 28) (by kernel_rfl) h hz hv h1
theorem lvCmd_row {V : World} {x : Nat} {cs : List Value} (h : RowAt V x cs) (hk : cs.length = 17) : (lvCmd ⟨x, 0, none⟩).run Tryz.prog V = .ok (.agg cs.toArray) V :=
  lv_row (T := 31) Tryz.underlying31 (by kernel_rfl) h hk
theorem svCmd_row {V : World} {r : Nat} {zs vs : List Value} (h : RowAt V r zs) (hz : zs.length = 17) (hv : vs.length = 17) (h1 : ∀ v ∈ vs, v.oneCell' = true) : (svCmd ⟨r, 0, none⟩ (.agg vs.toArray)).run Tryz.prog V = .ok () (V.setCells r 0 vs) :=
  sv_row (T := 31) (by kernel_rfl) h hz hv h1
theorem lvRop_row {V : World} {x : Nat} {cs : List Value} (h : RowAt V x cs) (hk : cs.length = 9) : (lvRop ⟨x, 0, none⟩).run Tryz.prog V = .ok (.agg cs.toArray) V :=
  lv_row (T := 41) Tryz.underlying41 (by kernel_rfl) h hk
theorem svRop_row {V : World} {r : Nat} {zs vs : List Value} (h : RowAt V r zs) (hz : zs.length = 9) (hv : vs.length = 9) (h1 : ∀ v ∈ vs, v.oneCell' = true) : (svRop ⟨r, 0, none⟩ (.agg vs.toArray)).run Tryz.prog V = .ok () (V.setCells r 0 vs) :=
  sv_row (T := 41) (by kernel_rfl) h hz hv h1
theorem lvAct_row {V : World} {x : Nat} {cs : List Value} (h : RowAt V x cs) (hk : cs.length = 33) : (lvAct ⟨x, 0, none⟩).run Tryz.prog V = .ok (.agg cs.toArray) V :=
  lv_row (T := 43) Tryz.underlying43 (by kernel_rfl) h hk
theorem svAct_row {V : World} {r : Nat} {zs vs : List Value} (h : RowAt V r zs) (hz : zs.length = 33) (hv : vs.length = 33) (h1 : ∀ v ∈ vs, v.oneCell' = true) : (svAct ⟨r, 0, none⟩ (.agg vs.toArray)).run Tryz.prog V = .ok () (V.setCells r 0 vs) :=
  sv_row (T := 43) (by kernel_rfl) h hz hv h1
structure Bs (b p r x : Nat) (w : World) : Prop where
  fb : b < w.heap.size
  fp : p < w.heap.size
  fl : 0 < b
  fr : w.heap.size ≤ r
  fx : w.heap.size ≤ x
  fn : ¬ r = x
theorem Bs.xb {b p r x : Nat} {w : World} (S : Bs b p r x w) : ¬ x = b := by have := S.fb; have := S.fx; omega
theorem Bs.xp {b p r x : Nat} {w : World} (S : Bs b p r x w) : ¬ x = p := by have := S.fp; have := S.fx; omega
theorem Bs.x0 {b p r x : Nat} {w : World} (S : Bs b p r x w) : ¬ x = 0 := by have := S.fl; have := S.fb; have := S.fx; omega
structure Bx (b p r x : Nat) (w V : World) (W : Ws) (zs cs : List Value) : Prop where
  ds : WdS V b p W
  row : RowAt V x cs
  res : RowAt V r zs
  kw : Kw b w V
section
variable {b p r x : Nat} {w V V1 : World} {W W1 : Ws} {zs cs : List Value}
theorem Bx.call (X : Bx b p r x w V W zs cs) (S : Bs b p r x w) (k : Kw b V V1) (d : WdS V1 b p W1) : Bx b p r x w V1 W1 zs cs :=
  ⟨d, X.row.kw k (by have := S.fb; have := S.fx; omega), X.res.kw k (by have := S.fb; have := S.fr; omega), X.kw.trans k⟩
theorem Bx.set (X : Bx b p r x w V W zs cs) (S : Bs b p r x w) (j : Nat) (v : Value) (hj : j < cs.length) : Bx b p r x w (V.setCell ⟨x, j, none⟩ v) W zs (cs.set j v) :=
  ⟨X.ds.set j v (by have := S.fb; have := S.fx; omega) (by have := S.fp; have := S.fx; omega) (by have := S.fb; have := S.fl; have := S.fx; omega), X.row.set j v hj, Kb.row (Kb.set V x j v) X.res S.fn, X.kw.set x j v (.inr S.fx)⟩
theorem Bx.alloc (X : Bx b p r x w V W zs cs) (o : Obj) : Bx b p r x w (V.alloc o) W zs cs :=
  ⟨X.ds.aft ((Aft.refl _).alloc o), X.row.aft ((Aft.refl _).alloc o), X.res.aft ((Aft.refl _).alloc o), X.kw.alloc o⟩
theorem Bx.kx (X : Bx b p r x w V W zs cs) (S : Bs b p r x w) (k : Kx b x V V1) (d : WdS V1 b p W1) {cs1 : List Value} (hr : RowAt V1 x cs1) : Bx b p r x w V1 W1 zs cs1 :=
  ⟨d, hr, X.res.kx k (by have := S.fb; have := S.fr; omega) S.fn, Kx.kw X.kw k S.fx⟩
theorem Bx.cf (X : Bx b p r x w V W zs cs) (j : Nat) (hj : j < cs.length) : V.cell? ⟨x, j, none⟩ = some cs[j] ∧ V.frozen? ⟨x, j, none⟩ = false := rowC X.row j hj
theorem Bx.fin (X : Bx b p r x w V W zs cs) (S : Bs b p r x w) (hz : zs.length = cs.length) :
    RowAt (V.setCells r 0 cs) r cs ∧ Kw b w (V.setCells r 0 cs) ∧ WdS (V.setCells r 0 cs) b p W ∧ Kb (fun k => k = r) V (V.setCells r 0 cs) := by
  have kb := kb_setCellsD r cs V 0
  refine ⟨by simpa using row_setCells cs V [] zs X.res hz, ?_, X.ds.kb kb (by have := S.fb; have := S.fr; omega) (by have := S.fp; have := S.fr; omega) (by have := S.fb; have := S.fl; have := S.fr; omega), kb⟩
  exact ⟨kb.os.trans X.kw.os, kb.tape.trans X.kw.tape, kb.output.trans X.kw.output, Nat.le_trans X.kw.size kb.size, fun j hj hne => (kb.block j (Nat.lt_of_lt_of_le hj X.kw.size) (by have := S.fr; omega)).trans (X.kw.block j hj hne)⟩
end
theorem endsRul {b p r x : Nat} {w V : World} {W : Ws} {zs cs : List Value} (X : Bx b p r x w V W zs cs) (hz : zs.length = 8) (hk : cs.length = 8) (h1 : ∀ v ∈ cs, v.oneCell' = true) :
    (lvRul ⟨x, 0, none⟩).run Tryz.prog V = .ok (.agg cs.toArray) V ∧ (svRul ⟨r, 0, none⟩ (.agg cs.toArray)).run Tryz.prog V = .ok () (V.setCells r 0 cs) := ⟨lvRul_row X.row hk, svRul_row X.res hz hk h1⟩
theorem endsCmd {b p r x : Nat} {w V : World} {W : Ws} {zs cs : List Value} (X : Bx b p r x w V W zs cs) (hz : zs.length = 17) (hk : cs.length = 17) (h1 : ∀ v ∈ cs, v.oneCell' = true) :
    (lvCmd ⟨x, 0, none⟩).run Tryz.prog V = .ok (.agg cs.toArray) V ∧ (svCmd ⟨r, 0, none⟩ (.agg cs.toArray)).run Tryz.prog V = .ok () (V.setCells r 0 cs) := ⟨lvCmd_row X.row hk, svCmd_row X.res hz hk h1⟩
theorem endsRop {b p r x : Nat} {w V : World} {W : Ws} {zs cs : List Value} (X : Bx b p r x w V W zs cs) (hz : zs.length = 9) (hk : cs.length = 9) (h1 : ∀ v ∈ cs, v.oneCell' = true) :
    (lvRop ⟨x, 0, none⟩).run Tryz.prog V = .ok (.agg cs.toArray) V ∧ (svRop ⟨r, 0, none⟩ (.agg cs.toArray)).run Tryz.prog V = .ok () (V.setCells r 0 cs) := ⟨lvRop_row X.row hk, svRop_row X.res hz hk h1⟩
theorem endsAct {b p r x : Nat} {w V : World} {W : Ws} {zs cs : List Value} (X : Bx b p r x w V W zs cs) (hz : zs.length = 33) (hk : cs.length = 33) (h1 : ∀ v ∈ cs, v.oneCell' = true) :
    (lvAct ⟨x, 0, none⟩).run Tryz.prog V = .ok (.agg cs.toArray) V ∧ (svAct ⟨r, 0, none⟩ (.agg cs.toArray)).run Tryz.prog V = .ok () (V.setCells r 0 cs) := ⟨lvAct_row X.row hk, svAct_row X.res hz hk h1⟩
theorem OwnR.kb {α : Type} {ty : TypeId} {size : Nat} {cells : α → List Value} {b B : Nat} {w w' : World} {v : Value} {l : List α} {P : Nat → Prop} (h : OwnR ty size cells b B w v l) (k : Kb P w w') (hp : ∀ g, v.ownBlock = some g → B ≤ g → ¬ P g) : OwnR ty size cells b B w' v l := by
  obtain ⟨hd, h1, h2, h3⟩ := h
  exact ⟨hd, h1, own_kb h2 k (fun g hg => hp g (by rw [h1]; exact hg) (h2.lt g hg).1), h3⟩
theorem OwnR.hi {α : Type} {ty : TypeId} {size : Nat} {cells : α → List Value} {b B : Nat} {w w' : World} {v : Value} {l : List α} {P : Nat → Prop} (h : OwnR ty size cells b B w v l) (k : Kb P w w') (hp : ∀ g, P g → g < B) : OwnR ty size cells b B w' v l :=
  h.kb k fun g _ hg hP => by have := hp g hP; omega
theorem OwnR.down {α : Type} {ty : TypeId} {size : Nat} {cells : α → List Value} {b B B0 : Nat} {w : World} {v : Value} {l : List α} (h : OwnR ty size cells b B w v l) (hB : B0 ≤ B) (hb : b < B0) : OwnR ty size cells b B0 w v l := by
  obtain ⟨hd, h1, h2, h3⟩ := h
  exact ⟨hd, h1, own_down h2 hB, hb⟩
theorem NamesV.hi {b B : Nat} {w w' : World} {v : Value} {l : List ByteArray} {P : Nat → Prop} (h : NamesV b B w v l) (k : Kb P w w') (hp : ∀ g, P g → g < B) : NamesV b B w' v l := ⟨h.1.hi k hp, h.2⟩
theorem NamesV.down {b B B0 : Nat} {w : World} {v : Value} {l : List ByteArray} (h : NamesV b B w v l) (hB : B0 ≤ B) (hb : b < B0) : NamesV b B0 w v l := ⟨h.1.down hB hb, h.2⟩
theorem NamesV.kw {b B : Nat} {w w' : World} {v : Value} {l : List ByteArray} (h : NamesV b B w v l) (k : Kw b w w') : NamesV b B w' v l := ⟨h.1.kw k, h.2⟩
theorem names_one (V : World) (x j : Nat) (u : Value) (b : Nat) (s : ByteArray) (hb : b < V.heap.size) (hs : nameB s = true) : NamesV b V.heap.size ((V.setCell ⟨x, j, none⟩ u).alloc (.cells #[.string s] 9)) (.slice (some ⟨V.heap.size, 0, none⟩) 1 1) [s] := by
  have hz : (V.setCell ⟨x, j, none⟩ u).heap.size = V.heap.size := by simp
  have h := own_one (V.setCell ⟨x, j, none⟩ u) V.heap.size 9 1 [.string s] rfl (by omega)
  rw [hz] at h
  exact ⟨⟨⟨some ⟨V.heap.size, 0, none⟩, 1, 1⟩, rfl, h, hb⟩, by simp, by simpa using hs⟩
def RulV (b B : Nat) (w' : World) (v : Value) (r : Rul) : Prop :=
  ∃ u, v = .agg #[.string r.name, .int .i64 r.kind, u, .int .i64 r.low, .int .i64 r.high, .string r.schema, .string r.table, .string r.key] ∧ NamesV b B w' u r.cols ∧ nameB r.name = true ∧ (r.schema = zBy ∨ nameB r.schema = true) ∧ (r.table = zBy ∨ nameB r.table = true) ∧ (r.key = zBy ∨ nameB r.key = true)
theorem names_cases {b p B : Nat} {W : Ws} {w : World} {e : Ending} {w' : World} (h : RdQ b p w (NamesV b B) (namesP W) e w') :
    (namesP W = none ∧ e = .panicked [{ v := .iface 74 (.agg #[]), recovered := false }] ∧ Kw b w w') ∨ ∃ A c l W', namesP W = some (l, W') ∧ e = .returned (.slice A l.length c) ∧ NamesV b B w' (.slice A l.length c) l ∧ WdS w' b p W' ∧ Kw b w w' := by
  obtain ⟨k, h2⟩ := h
  cases hq : namesP W with
  | none => rw [hq] at h2; exact .inl ⟨rfl, h2, k⟩
  | some y =>
    obtain ⟨l, W'⟩ := y
    rw [hq] at h2
    obtain ⟨v, rfl, h3, h4⟩ := h2
    obtain ⟨⟨hd, rfl, h5⟩, h6⟩ := h3
    exact .inr ⟨hd.a, hd.c, l, W', rfl, rfl, ⟨⟨hd, rfl, h5⟩, h6⟩, h4, k⟩
theorem bx_start {b p : Nat} {w w1 : World} {W : Ws} {zs : List Value} {t t2 : TypeId} (hb : b < w.heap.size) (hp : p < w.heap.size) (hl : 0 < b) (k : Kw b (w.alloc (.cells zs.toArray t)) w1) (d : WdS w1 b p W) (cs : List Value) :
    Bs b p w.heap.size w1.heap.size w ∧ Bx b p w.heap.size w1.heap.size w (w1.alloc (.cells cs.toArray t2)) W zs cs := by
  have hz : (w.alloc (.cells zs.toArray t)).heap.size = w.heap.size + 1 := by simp
  have kz := k.size
  rw [hz] at kz
  exact ⟨⟨hb, hp, hl, Nat.le_refl _, by omega, by omega⟩, d.aft ((Aft.refl _).alloc _), rowAt_newD _ _ _, ((rowAt_newD w zs t).kw k (by omega)).aft ((Aft.refl _).alloc _), (((Kw.refl b w).alloc _).trans k).alloc _⟩

set_option maxHeartbeats 4000000 in
theorem rule_check (b p : Nat) (W : Ws) (w : World) (h : WdS w b p W) : Calls Tryz.prog 51 #[.pointer (some ⟨b, 0, none⟩), .int .i64 3] w (RdQ b p w (RulV b w.heap.size) (ruleP 3 W)) := by
  have HN := Lib.hid (fun w1 W (h : WdS w1 b p W) => name_rd b p W w1 h)
  have HI := Lib.hid (fun w1 W (h : WdS w1 b p W) => number_rd b p W w1 h)
  have HL := Lib.hid (fun w1 W (h : WdS w1 b p W) => names_rd b p W w1 h)
  have HH := Lib.hid (h.aft ((Aft.refl w).alloc (.cells #[.string ⟨#[]⟩, .int .i64 0, .slice none 0 0, .int .i64 0, .int .i64 0, .string ⟨#[]⟩, .string ⟨#[]⟩, .string ⟨#[]⟩] 28)))
  have hb := h.lt
  have HPL := Lib.hid h.plt
  have HLO := Lib.hid h.low
  clear h
  go_enter Tryz.func51, Tryz.ntmps51
  go_wp2_with (first
    | (go_at_call 48; with_reducible refine (HN.out _ _ HH.out).mono ?_; rintro e w1 q; rcases name_cases q with ⟨n, rfl, k⟩ | ⟨s1, W1, n, rfl, g1, d, k⟩; all_goals (have N1 := Lib.hid n; have K1 := Lib.hid (((Kw.refl b w).alloc _).trans k); clear n q; try (have ST := bx_start (t2 := 28) (zs := [.string ⟨#[]⟩, .int .i64 0, .slice none 0 0, .int .i64 0, .int .i64 0, .string ⟨#[]⟩, .string ⟨#[]⟩, .string ⟨#[]⟩]) hb HPL.out HLO.out k d [.string s1, .int .i64 3, .slice none 0 0, .int .i64 0, .int .i64 0, .string ⟨#[]⟩, .string ⟨#[]⟩, .string ⟨#[]⟩]; have S := Lib.hid ST.1; have X1 := Lib.hid ST.2; clear d ST)))
    | (go_at_call 48; with_reducible refine (HN.out _ _ X1.out.ds).mono ?_; rintro e w2 q; rcases name_cases q with ⟨n, rfl, k⟩ | ⟨s2, W2, n, rfl, g2, d, k⟩; all_goals (have N2 := Lib.hid n; have K2 := Lib.hid (X1.out.kw.trans k); clear n q; try (have X2 := Lib.hid (X1.out.call S.out k d); have xz2 := X2.out.row.ltD; have rz2 := X2.out.res.ltD; obtain ⟨c2_2, f2_2⟩ := X2.out.cf 2 (by simp); have X2s := Lib.hid ((X2.out.set S.out 2 (.slice (some ⟨w2.heap.size, 0, none⟩) 1 1) (by simp)).alloc (.cells #[.string s2] 9)); have O2 := Lib.hid (names_one w2 w1.heap.size 2 (.slice (some ⟨w2.heap.size, 0, none⟩) 1 1) b s2 X2.out.ds.lt g2); clear d)))
    | (go_at_call 28; with_reducible refine (HI.out _ _ X2s.out.ds).mono ?_; rintro e w3 q; rcases number_cases q with ⟨n, rfl, k⟩ | ⟨s3, W3, n, rfl, d, k⟩; all_goals (have N3 := Lib.hid n; have K3 := Lib.hid (X2s.out.kw.trans k); clear n q; try (have X3 := Lib.hid (X2s.out.call S.out k d); have xz3 := X3.out.row.ltD; have rz3 := X3.out.res.ltD; have O3 := Lib.hid (O2.out.kw k); clear d)))
    | (go_at_call 28; with_reducible refine (HI.out _ _ X3.out.ds).mono ?_; rintro e w4 q; rcases number_cases q with ⟨n, rfl, k⟩ | ⟨s4, W4, n, rfl, d, k⟩; all_goals (have N4 := Lib.hid n; have K4 := Lib.hid (X3.out.kw.trans k); clear n q; try (have X4 := Lib.hid (X3.out.call S.out k d); have xz4 := X4.out.row.ltD; have rz4 := X4.out.res.ltD; obtain ⟨c4_3, f4_3⟩ := X4.out.cf 3 (by simp); obtain ⟨c4_4, f4_4⟩ := X4.out.cf 4 (by simp); have O4 := Lib.hid (O3.out.kw k); have XF := (X4.out.set S.out 3 (.int .i64 s3) (by simp)).set S.out 4 (.int .i64 s4) (by simp); simp only [List.set_cons_succ, List.set_cons_zero] at XF; have XF := Lib.hid XF; obtain ⟨e1, e2⟩ := endsRul XF.out rfl rfl (by simp [Value.oneCell']); clear d))))
  · exact ⟨rfl, K1.out, by rw [show ruleP 3 W = none by simp only [ruleP, N1.out, Option.bind_some, Option.bind_none, if_true]]; rfl⟩
  · exact ⟨rfl, K2.out, by rw [show ruleP 3 W = none by simp only [ruleP, N1.out, N2.out, Option.bind_some, Option.bind_none, if_true]]; rfl⟩
  · exact ⟨rfl, K3.out, by rw [show ruleP 3 W = none by simp only [ruleP, N1.out, N2.out, N3.out, Option.bind_some, Option.bind_none, if_true]]; rfl⟩
  · exact ⟨rfl, K4.out, by rw [show ruleP 3 W = none by simp only [ruleP, N1.out, N2.out, N3.out, N4.out, Option.bind_some, Option.bind_none, if_true]]; rfl⟩
  · obtain ⟨rf, kwf, wdf, kbf⟩ := XF.out.fin S.out rfl
    refine bodyPost_ret (results_cell rfl _ rfl (lv_row (T := 28) Tryz.underlying28 (by kernel_rfl) rf rfl)) rfl ?_
    have S := S.out
    have sb := S.fb
    have sr := S.fr
    have sx := S.fx
    have z2 := X2.out.row.ltD
    have z3 := X2.out.res.ltD
    have z4 := X2.out.ds.lt
    have z5 := X2.out.kw.size
    refine ⟨kwf, ?_⟩
    rw [show ruleP 3 W = some (⟨s1, 3, [s2], s3, s4, zBy, zBy, zBy⟩, W4) by simp only [ruleP, N1.out, N2.out, N3.out, N4.out, Option.bind_some, if_true]]
    exact ⟨_, rfl, ⟨_, rfl, ((((O4.out.hi (Kb.set _ _ _ _) (fun g e => by have e' : g = _ := e; omega)).hi (Kb.set _ _ _ _) (fun g e => by have e' : g = _ := e; omega)).hi kbf (fun g e => by have e' : g = _ := e; omega)).down (by omega) (by omega)), g1, .inl rfl, .inl rfl, .inl rfl⟩, wdf⟩

set_option maxHeartbeats 4000000 in
theorem rule_foreign (b p : Nat) (W : Ws) (w : World) (h : WdS w b p W) : Calls Tryz.prog 51 #[.pointer (some ⟨b, 0, none⟩), .int .i64 4] w (RdQ b p w (RulV b w.heap.size) (ruleP 4 W)) := by
  have HN := Lib.hid (fun w1 W (h : WdS w1 b p W) => name_rd b p W w1 h)
  have HI := Lib.hid (fun w1 W (h : WdS w1 b p W) => number_rd b p W w1 h)
  have HL := Lib.hid (fun w1 W (h : WdS w1 b p W) => names_rd b p W w1 h)
  have HH := Lib.hid (h.aft ((Aft.refl w).alloc (.cells #[.string ⟨#[]⟩, .int .i64 0, .slice none 0 0, .int .i64 0, .int .i64 0, .string ⟨#[]⟩, .string ⟨#[]⟩, .string ⟨#[]⟩] 28)))
  have hb := h.lt
  have HPL := Lib.hid h.plt
  have HLO := Lib.hid h.low
  clear h
  go_enter Tryz.func51, Tryz.ntmps51
  go_wp2_with (first
    | (go_at_call 48; with_reducible refine (HN.out _ _ HH.out).mono ?_; rintro e w1 q; rcases name_cases q with ⟨n, rfl, k⟩ | ⟨s1, W1, n, rfl, g1, d, k⟩; all_goals (have N1 := Lib.hid n; have K1 := Lib.hid (((Kw.refl b w).alloc _).trans k); clear n q; try (have ST := bx_start (t2 := 28) (zs := [.string ⟨#[]⟩, .int .i64 0, .slice none 0 0, .int .i64 0, .int .i64 0, .string ⟨#[]⟩, .string ⟨#[]⟩, .string ⟨#[]⟩]) hb HPL.out HLO.out k d [.string s1, .int .i64 4, .slice none 0 0, .int .i64 0, .int .i64 0, .string ⟨#[]⟩, .string ⟨#[]⟩, .string ⟨#[]⟩]; have S := Lib.hid ST.1; have X1 := Lib.hid ST.2; clear d ST)))
    | (go_at_call 48; with_reducible refine (HN.out _ _ X1.out.ds).mono ?_; rintro e w2 q; rcases name_cases q with ⟨n, rfl, k⟩ | ⟨s2, W2, n, rfl, g2, d, k⟩; all_goals (have N2 := Lib.hid n; have K2 := Lib.hid (X1.out.kw.trans k); clear n q; try (have X2 := Lib.hid (X1.out.call S.out k d); have xz2 := X2.out.row.ltD; have rz2 := X2.out.res.ltD; clear d)))
    | (go_at_call 48; with_reducible refine (HN.out _ _ X2.out.ds).mono ?_; rintro e w3 q; rcases name_cases q with ⟨n, rfl, k⟩ | ⟨s3, W3, n, rfl, g3, d, k⟩; all_goals (have N3 := Lib.hid n; have K3 := Lib.hid (X2.out.kw.trans k); clear n q; try (have X3 := Lib.hid (X2.out.call S.out k d); have xz3 := X3.out.row.ltD; have rz3 := X3.out.res.ltD; clear d)))
    | (go_at_call 48; with_reducible refine (HN.out _ _ X3.out.ds).mono ?_; rintro e w4 q; rcases name_cases q with ⟨n, rfl, k⟩ | ⟨s4, W4, n, rfl, g4, d, k⟩; all_goals (have N4 := Lib.hid n; have K4 := Lib.hid (X3.out.kw.trans k); clear n q; try (have X4 := Lib.hid (X3.out.call S.out k d); have xz4 := X4.out.row.ltD; have rz4 := X4.out.res.ltD; obtain ⟨c4_5, f4_5⟩ := X4.out.cf 5 (by simp); obtain ⟨c4_6, f4_6⟩ := X4.out.cf 6 (by simp); obtain ⟨c4_7, f4_7⟩ := X4.out.cf 7 (by simp); have X4s := Lib.hid (((X4.out.set S.out 5 (.string s2) (by simp)).set S.out 6 (.string s3) (by simp)).set S.out 7 (.string s4) (by simp)); clear d)))
    | (go_at_call 84; with_reducible refine (HL.out _ _ X4s.out.ds).mono ?_; rintro e w5 q; rcases names_cases q with ⟨n, rfl, k⟩ | ⟨A5, q5, l5, W5, n, rfl, g5, d, k⟩; all_goals (have N5 := Lib.hid n; have K5 := Lib.hid (X4s.out.kw.trans k); clear n q; try (have X5 := Lib.hid (X4s.out.call S.out k d); have xz5 := X5.out.row.ltD; have rz5 := X5.out.res.ltD; obtain ⟨c5_2, f5_2⟩ := X5.out.cf 2 (by simp); have XF := X5.out.set S.out 2 (.slice A5 l5.length q5) (by simp); simp only [List.set_cons_succ, List.set_cons_zero] at XF; have XF := Lib.hid XF; obtain ⟨e1, e2⟩ := endsRul XF.out rfl rfl (by simp [Value.oneCell']); clear d))))
  · exact ⟨rfl, K1.out, by rw [show ruleP 4 W = none by simp only [ruleP, N1.out, Option.bind_some, Option.bind_none, if_true, show ¬ (4 : Int) = 3 by decide, if_false]]; rfl⟩
  · exact ⟨rfl, K2.out, by rw [show ruleP 4 W = none by simp only [ruleP, N1.out, N2.out, Option.bind_some, Option.bind_none, if_true, show ¬ (4 : Int) = 3 by decide, if_false]]; rfl⟩
  · exact ⟨rfl, K3.out, by rw [show ruleP 4 W = none by simp only [ruleP, N1.out, N2.out, N3.out, Option.bind_some, Option.bind_none, if_true, show ¬ (4 : Int) = 3 by decide, if_false]]; rfl⟩
  · exact ⟨rfl, K4.out, by rw [show ruleP 4 W = none by simp only [ruleP, N1.out, N2.out, N3.out, N4.out, Option.bind_some, Option.bind_none, if_true, show ¬ (4 : Int) = 3 by decide, if_false]]; rfl⟩
  · exact ⟨rfl, K5.out, by rw [show ruleP 4 W = none by simp only [ruleP, N1.out, N2.out, N3.out, N4.out, N5.out, Option.bind_some, Option.bind_none, if_true, show ¬ (4 : Int) = 3 by decide, if_false]]; rfl⟩
  · obtain ⟨rf, kwf, wdf, kbf⟩ := XF.out.fin S.out rfl
    refine bodyPost_ret (results_cell rfl _ rfl (lv_row (T := 28) Tryz.underlying28 (by kernel_rfl) rf rfl)) rfl ?_
    have S := S.out
    have sb := S.fb
    have sr := S.fr
    have sx := S.fx
    have z2 := X4s.out.row.ltD
    have z3 := X4s.out.res.ltD
    have z4 := X4s.out.ds.lt
    have z5 := X4s.out.kw.size
    refine ⟨kwf, ?_⟩
    rw [show ruleP 4 W = some (⟨s1, 4, l5, 0, 0, s2, s3, s4⟩, W5) by simp only [ruleP, N1.out, N2.out, N3.out, N4.out, N5.out, Option.bind_some, if_true, show ¬ (4 : Int) = 3 by decide, if_false]]
    exact ⟨_, rfl, ⟨_, rfl, (((g5.hi (Kb.set _ _ _ _) (fun g e => by have e' : g = _ := e; omega)).hi kbf (fun g e => by have e' : g = _ := e; omega)).down (by omega) (by omega)), g1, .inr g2, .inr g3, .inr g4⟩, wdf⟩

set_option maxHeartbeats 4000000 in
theorem rule_index (b p : Nat) (W : Ws) (w : World) (h : WdS w b p W) : Calls Tryz.prog 51 #[.pointer (some ⟨b, 0, none⟩), .int .i64 1] w (RdQ b p w (RulV b w.heap.size) (ruleP 1 W)) := by
  have HN := Lib.hid (fun w1 W (h : WdS w1 b p W) => name_rd b p W w1 h)
  have HI := Lib.hid (fun w1 W (h : WdS w1 b p W) => number_rd b p W w1 h)
  have HL := Lib.hid (fun w1 W (h : WdS w1 b p W) => names_rd b p W w1 h)
  have HH := Lib.hid (h.aft ((Aft.refl w).alloc (.cells #[.string ⟨#[]⟩, .int .i64 0, .slice none 0 0, .int .i64 0, .int .i64 0, .string ⟨#[]⟩, .string ⟨#[]⟩, .string ⟨#[]⟩] 28)))
  have hb := h.lt
  have HPL := Lib.hid h.plt
  have HLO := Lib.hid h.low
  clear h
  go_enter Tryz.func51, Tryz.ntmps51
  go_wp2_with (first
    | (go_at_call 48; with_reducible refine (HN.out _ _ HH.out).mono ?_; rintro e w1 q; rcases name_cases q with ⟨n, rfl, k⟩ | ⟨s1, W1, n, rfl, g1, d, k⟩; all_goals (have N1 := Lib.hid n; have K1 := Lib.hid (((Kw.refl b w).alloc _).trans k); clear n q; try (have ST := bx_start (t2 := 28) (zs := [.string ⟨#[]⟩, .int .i64 0, .slice none 0 0, .int .i64 0, .int .i64 0, .string ⟨#[]⟩, .string ⟨#[]⟩, .string ⟨#[]⟩]) hb HPL.out HLO.out k d [.string s1, .int .i64 1, .slice none 0 0, .int .i64 0, .int .i64 0, .string ⟨#[]⟩, .string ⟨#[]⟩, .string ⟨#[]⟩]; have S := Lib.hid ST.1; have X1 := Lib.hid ST.2; clear d ST)))
    | (go_at_call 84; with_reducible refine (HL.out _ _ X1.out.ds).mono ?_; rintro e w2 q; rcases names_cases q with ⟨n, rfl, k⟩ | ⟨A2, q2, l2, W2, n, rfl, g2, d, k⟩; all_goals (have N2 := Lib.hid n; have K2 := Lib.hid (X1.out.kw.trans k); clear n q; try (have X2 := Lib.hid (X1.out.call S.out k d); have xz2 := X2.out.row.ltD; have rz2 := X2.out.res.ltD; obtain ⟨c2_2, f2_2⟩ := X2.out.cf 2 (by simp); have XF := X2.out.set S.out 2 (.slice A2 l2.length q2) (by simp); simp only [List.set_cons_succ, List.set_cons_zero] at XF; have XF := Lib.hid XF; obtain ⟨e1, e2⟩ := endsRul XF.out rfl rfl (by simp [Value.oneCell']); clear d))))
  · exact ⟨rfl, K1.out, by rw [show ruleP 1 W = none by simp only [ruleP, N1.out, Option.bind_some, Option.bind_none, show ¬ (1 : Int) = 3 by decide, show ¬ (1 : Int) = 4 by decide, if_false]]; rfl⟩
  · exact ⟨rfl, K2.out, by rw [show ruleP 1 W = none by simp only [ruleP, N1.out, N2.out, Option.bind_some, Option.bind_none, show ¬ (1 : Int) = 3 by decide, show ¬ (1 : Int) = 4 by decide, if_false]]; rfl⟩
  · obtain ⟨rf, kwf, wdf, kbf⟩ := XF.out.fin S.out rfl
    refine bodyPost_ret (results_cell rfl _ rfl (lv_row (T := 28) Tryz.underlying28 (by kernel_rfl) rf rfl)) rfl ?_
    have S := S.out
    have sb := S.fb
    have sr := S.fr
    have sx := S.fx
    have z2 := X1.out.row.ltD
    have z3 := X1.out.res.ltD
    have z4 := X1.out.ds.lt
    have z5 := X1.out.kw.size
    refine ⟨kwf, ?_⟩
    rw [show ruleP 1 W = some (⟨s1, 1, l2, 0, 0, zBy, zBy, zBy⟩, W2) by simp only [ruleP, N1.out, N2.out, Option.bind_some, show ¬ (1 : Int) = 3 by decide, show ¬ (1 : Int) = 4 by decide, if_false]]
    exact ⟨_, rfl, ⟨_, rfl, (((g2.hi (Kb.set _ _ _ _) (fun g e => by have e' : g = _ := e; omega)).hi kbf (fun g e => by have e' : g = _ := e; omega)).down (by omega) (by omega)), g1, .inl rfl, .inl rfl, .inl rfl⟩, wdf⟩

set_option maxHeartbeats 4000000 in
theorem rule_key (b p : Nat) (W : Ws) (w : World) (h : WdS w b p W) : Calls Tryz.prog 51 #[.pointer (some ⟨b, 0, none⟩), .int .i64 2] w (RdQ b p w (RulV b w.heap.size) (ruleP 2 W)) := by
  have HN := Lib.hid (fun w1 W (h : WdS w1 b p W) => name_rd b p W w1 h)
  have HI := Lib.hid (fun w1 W (h : WdS w1 b p W) => number_rd b p W w1 h)
  have HL := Lib.hid (fun w1 W (h : WdS w1 b p W) => names_rd b p W w1 h)
  have HH := Lib.hid (h.aft ((Aft.refl w).alloc (.cells #[.string ⟨#[]⟩, .int .i64 0, .slice none 0 0, .int .i64 0, .int .i64 0, .string ⟨#[]⟩, .string ⟨#[]⟩, .string ⟨#[]⟩] 28)))
  have hb := h.lt
  have HPL := Lib.hid h.plt
  have HLO := Lib.hid h.low
  clear h
  go_enter Tryz.func51, Tryz.ntmps51
  go_wp2_with (first
    | (go_at_call 48; with_reducible refine (HN.out _ _ HH.out).mono ?_; rintro e w1 q; rcases name_cases q with ⟨n, rfl, k⟩ | ⟨s1, W1, n, rfl, g1, d, k⟩; all_goals (have N1 := Lib.hid n; have K1 := Lib.hid (((Kw.refl b w).alloc _).trans k); clear n q; try (have ST := bx_start (t2 := 28) (zs := [.string ⟨#[]⟩, .int .i64 0, .slice none 0 0, .int .i64 0, .int .i64 0, .string ⟨#[]⟩, .string ⟨#[]⟩, .string ⟨#[]⟩]) hb HPL.out HLO.out k d [.string s1, .int .i64 2, .slice none 0 0, .int .i64 0, .int .i64 0, .string ⟨#[]⟩, .string ⟨#[]⟩, .string ⟨#[]⟩]; have S := Lib.hid ST.1; have X1 := Lib.hid ST.2; clear d ST)))
    | (go_at_call 84; with_reducible refine (HL.out _ _ X1.out.ds).mono ?_; rintro e w2 q; rcases names_cases q with ⟨n, rfl, k⟩ | ⟨A2, q2, l2, W2, n, rfl, g2, d, k⟩; all_goals (have N2 := Lib.hid n; have K2 := Lib.hid (X1.out.kw.trans k); clear n q; try (have X2 := Lib.hid (X1.out.call S.out k d); have xz2 := X2.out.row.ltD; have rz2 := X2.out.res.ltD; obtain ⟨c2_2, f2_2⟩ := X2.out.cf 2 (by simp); have XF := X2.out.set S.out 2 (.slice A2 l2.length q2) (by simp); simp only [List.set_cons_succ, List.set_cons_zero] at XF; have XF := Lib.hid XF; obtain ⟨e1, e2⟩ := endsRul XF.out rfl rfl (by simp [Value.oneCell']); clear d))))
  · exact ⟨rfl, K1.out, by rw [show ruleP 2 W = none by simp only [ruleP, N1.out, Option.bind_some, Option.bind_none, show ¬ (2 : Int) = 3 by decide, show ¬ (2 : Int) = 4 by decide, if_false]]; rfl⟩
  · exact ⟨rfl, K2.out, by rw [show ruleP 2 W = none by simp only [ruleP, N1.out, N2.out, Option.bind_some, Option.bind_none, show ¬ (2 : Int) = 3 by decide, show ¬ (2 : Int) = 4 by decide, if_false]]; rfl⟩
  · obtain ⟨rf, kwf, wdf, kbf⟩ := XF.out.fin S.out rfl
    refine bodyPost_ret (results_cell rfl _ rfl (lv_row (T := 28) Tryz.underlying28 (by kernel_rfl) rf rfl)) rfl ?_
    have S := S.out
    have sb := S.fb
    have sr := S.fr
    have sx := S.fx
    have z2 := X1.out.row.ltD
    have z3 := X1.out.res.ltD
    have z4 := X1.out.ds.lt
    have z5 := X1.out.kw.size
    refine ⟨kwf, ?_⟩
    rw [show ruleP 2 W = some (⟨s1, 2, l2, 0, 0, zBy, zBy, zBy⟩, W2) by simp only [ruleP, N1.out, N2.out, Option.bind_some, show ¬ (2 : Int) = 3 by decide, show ¬ (2 : Int) = 4 by decide, if_false]]
    exact ⟨_, rfl, ⟨_, rfl, (((g2.hi (Kb.set _ _ _ _) (fun g e => by have e' : g = _ := e; omega)).hi kbf (fun g e => by have e' : g = _ := e; omega)).down (by omega) (by omega)), g1, .inl rfl, .inl rfl, .inl rfl⟩, wdf⟩

end Go.Proofs.YtbdanlipghhgpaaGreatDoor

namespace Go.Proofs.YtbdanlipghhgpaaGreatDoor
open Go.RowKit Go.Deep
set_option maxRecDepth 100000
set_option linter.unusedVariables false
def ColsV (b B : Nat) (w' : World) (v : Value) (l : List Col) : Prop := OwnR 67 3 colC b B w' v l ∧ l.length ≤ 4097 ∧ ∀ c ∈ l, Small c.name.size
theorem ColsV.hi {b B : Nat} {w w' : World} {v : Value} {l : List Col} {P : Nat → Prop} (h : ColsV b B w v l) (k : Kb P w w') (hp : ∀ g, P g → g < B) : ColsV b B w' v l := ⟨h.1.hi k hp, h.2⟩
theorem ColsV.down {b B B0 : Nat} {w : World} {v : Value} {l : List Col} (h : ColsV b B w v l) (hB : B0 ≤ B) (hb : b < B0) : ColsV b B0 w v l := ⟨h.1.down hB hb, h.2⟩
theorem cols_one (V : World) (x j : Nat) (u : Value) (b : Nat) (c : Col) (hb : b < V.heap.size) (hs : Small c.name.size) : ColsV b V.heap.size ((V.setCell ⟨x, j, none⟩ u).alloc (.cells #[.string c.name, .int .i64 c.kind, .bool c.null] 67)) (.slice (some ⟨V.heap.size, 0, none⟩) 1 1) [c] := by
  have hz : (V.setCell ⟨x, j, none⟩ u).heap.size = V.heap.size := by simp
  have h := own_one (V.setCell ⟨x, j, none⟩ u) V.heap.size 67 3 [.string c.name, .int .i64 c.kind, .bool c.null] rfl (by omega)
  rw [hz] at h
  exact ⟨⟨⟨some ⟨V.heap.size, 0, none⟩, 1, 1⟩, rfl, h, hb⟩, by simp, by simpa using hs⟩
theorem own_nilD {α : Type} (ty : TypeId) (size : Nat) (cells : α → List Value) (b B : Nat) (w : World) (hb : b < B) : OwnR ty size cells b B w (.slice none 0 0) ([] : List α) := ⟨⟨none, 0, 0⟩, rfl, ⟨by simp, .inl ⟨rfl, rfl⟩⟩, hb⟩
theorem cols_nil (b B : Nat) (w : World) (hb : b < B) : ColsV b B w (.slice none 0 0) [] := ⟨own_nilD _ _ _ b B w hb, by simp, by simp⟩
theorem names_nil (b B : Nat) (w : World) (hb : b < B) : NamesV b B w (.slice none 0 0) [] := ⟨own_nilD _ _ _ b B w hb, by simp, by simp⟩
def NmZ (s : ByteArray) : Prop := s = zBy ∨ nameB s = true
def cmdV (c : Cmd) (A : Option Addr) (k : Nat) (A2 : Option Addr) (k2 : Nat) : List Value :=
  [.int .i64 c.kind, .string c.actor, .string c.schema, .string c.table, .string c.name, .string c.role, .slice A c.cols.length k, .string c.rule.name, .int .i64 c.rule.kind, .slice A2 c.rule.cols.length k2, .int .i64 c.rule.low, .int .i64 c.rule.high, .string c.rule.schema, .string c.rule.table, .string c.rule.key, .int .i64 c.right, .bool c.opt]
structure CmdOk (c : Cmd) : Prop where
  actor : NmZ c.actor
  schema : NmZ c.schema
  table : NmZ c.table
  name : NmZ c.name
  role : NmZ c.role
  rname : NmZ c.rule.name
  rs : NmZ c.rule.schema
  rt : NmZ c.rule.table
  rk : NmZ c.rule.key
def CmdV (b B : Nat) (w' : World) (v : Value) (c : Cmd) : Prop :=
  ∃ A k A2 k2, v = .agg (cmdV c A k A2 k2).toArray ∧ ColsV b B w' (.slice A c.cols.length k) c.cols ∧ NamesV b B w' (.slice A2 c.rule.cols.length k2) c.rule.cols ∧ CmdOk c
theorem tab_cases {b p x : Nat} {W : Ws} {w : World} {cs : List Value} {e : Ending} {w' : World} (h : RdX b p x w cs (tabL W) e w') :
    ((∀ y, tableP y W = none) ∧ e = .panicked [{ v := .iface 74 (.agg #[]), recovered := false }] ∧ Kx b x w w') ∨
    ∃ s t W', (∀ y, tableP y W = some ({ y with schema := s, table := t }, W')) ∧ e = .returned (.tuple #[]) ∧ (nameB s = true ∧ nameB t = true ∧ RowAt w' x ((cs.set 2 (.string s)).set 3 (.string t))) ∧ WdS w' b p W' ∧ Kx b x w w' := by
  obtain ⟨k, h2⟩ := h
  unfold tabL at h2
  cases h1 : nameP W with
  | none =>
    rw [h1] at h2
    exact .inl ⟨fun y => by simp only [tableP, h1, Option.bind_none], h2, k⟩
  | some y =>
    obtain ⟨s, W1⟩ := y
    rw [h1] at h2
    simp only [Option.bind_some] at h2
    cases h3 : nameP W1 with
    | none =>
      rw [h3] at h2
      exact .inl ⟨fun y => by simp only [tableP, h1, h3, Option.bind_some, Option.bind_none], h2, k⟩
    | some z =>
      obtain ⟨t, W2⟩ := z
      rw [h3] at h2
      obtain ⟨h4, h5, h6⟩ := h2
      exact .inr ⟨s, t, W2, fun y => by simp only [tableP, h1, h3, Option.bind_some], h4, ⟨(nameP_some h1).2, (nameP_some h3).2, h5⟩, h6, k⟩
theorem rgt_cases {b p x : Nat} {W : Ws} {w : World} {cs : List Value} {e : Ending} {w' : World} (h : RdX b p x w cs (rgtL W) e w') :
    ((∀ y, rightP y W = none) ∧ e = .panicked [{ v := .iface 74 (.agg #[]), recovered := false }] ∧ Kx b x w w') ∨
    ∃ r t W', (∀ y, rightP y W = some ({ y with right := r, role := t }, W')) ∧ e = .returned (.tuple #[]) ∧ (nameB t = true ∧ RowAt w' x ((cs.set 15 (.int .i64 r)).set 5 (.string t))) ∧ WdS w' b p W' ∧ Kx b x w w' := by
  obtain ⟨k, h2⟩ := h
  unfold rgtL at h2
  cases h1 : oneP rightO W with
  | none =>
    rw [h1] at h2
    exact .inl ⟨fun y => by simp only [rightP, h1, Option.bind_none], h2, k⟩
  | some y =>
    obtain ⟨s, W1⟩ := y
    rw [h1] at h2
    simp only [Option.bind_some] at h2
    cases h3 : nameP W1 with
    | none =>
      rw [h3] at h2
      exact .inl ⟨fun y => by simp only [rightP, h1, h3, Option.bind_some, Option.bind_none], h2, k⟩
    | some z =>
      obtain ⟨t, W2⟩ := z
      rw [h3] at h2
      obtain ⟨h4, h5, h6⟩ := h2
      exact .inr ⟨s, t, W2, fun y => by simp only [rightP, h1, h3, Option.bind_some], h4, ⟨(nameP_some h3).2, h5⟩, h6, k⟩
theorem col_cases {b p : Nat} {W : Ws} {w : World} {e : Ending} {w' : World} (h : RdQ b p w ColV (colP W) e w') :
    (colP W = none ∧ e = .panicked [{ v := .iface 74 (.agg #[]), recovered := false }] ∧ Kw b w w') ∨ ∃ c W', colP W = some (c, W') ∧ e = .returned (.agg #[.string c.name, .int .i64 c.kind, .bool c.null]) ∧ Small c.name.size ∧ WdS w' b p W' ∧ Kw b w w' := by
  obtain ⟨k, h2⟩ := h
  cases hq : colP W with
  | none => rw [hq] at h2; exact .inl ⟨rfl, h2, k⟩
  | some y =>
    obtain ⟨c, W'⟩ := y
    rw [hq] at h2
    obtain ⟨v, rfl, ⟨rfl, h3⟩, h4⟩ := h2
    exact .inr ⟨c, W', rfl, rfl, h3, h4, k⟩
theorem rule_cases {b p B : Nat} {k0 : Int} {W : Ws} {w : World} {e : Ending} {w' : World} (h : RdQ b p w (RulV b B) (ruleP k0 W) e w') :
    (ruleP k0 W = none ∧ e = .panicked [{ v := .iface 74 (.agg #[]), recovered := false }] ∧ Kw b w w') ∨ ∃ A c r W', ruleP k0 W = some (r, W') ∧
      e = .returned (.agg #[.string r.name, .int .i64 r.kind, .slice A r.cols.length c, .int .i64 r.low, .int .i64 r.high, .string r.schema, .string r.table, .string r.key]) ∧ (NamesV b B w' (.slice A r.cols.length c) r.cols ∧ NmZ r.name ∧ NmZ r.schema ∧ NmZ r.table ∧ NmZ r.key) ∧ WdS w' b p W' ∧ Kw b w w' := by
  obtain ⟨k, h2⟩ := h
  cases hq : ruleP k0 W with
  | none => rw [hq] at h2; exact .inl ⟨rfl, h2, k⟩
  | some y =>
    obtain ⟨r, W'⟩ := y
    rw [hq] at h2
    obtain ⟨v, rfl, ⟨u, rfl, g1, g2, g3, g4, g5⟩, h4⟩ := h2
    obtain ⟨⟨hd, rfl, h5⟩, h6⟩ := g1
    exact .inr ⟨hd.a, hd.c, r, W', rfl, rfl, ⟨⟨⟨hd, rfl, h5⟩, h6⟩, .inr g2, g3, g4, g5⟩, h4, k⟩

theorem cmdP_cons (f : ByteArray) (W : Ws) : cmdP (f :: W) = (nameP W).bind fun y => bodyP f { zCmd with actor := y.1 } y.2 := rfl
theorem body_schema (x : Cmd) (W : Ws) : bodyP b_schema x W = ((nameP W).bind fun (s, W) => some ({ x with kind := 1, schema := s }, W)) := by
  unfold bodyP
  rw [if_pos (eqS_yes _)]
theorem body_dropschema (x : Cmd) (W : Ws) : bodyP b_dropschema x W = ((nameP W).bind fun (s, W) => some ({ x with kind := 2, schema := s }, W)) := by
  unfold bodyP
  rw [if_neg (neB (by decide)), if_pos (eqS_yes _)]
theorem body_table (x : Cmd) (W : Ws) : bodyP b_table x W = ((tableP { x with kind := 3 } W).bind fun (x, W) => (colsP W).bind fun (l, W) => some ({ x with cols := l }, W)) := by
  unfold bodyP
  rw [if_neg (neB (by decide)), if_neg (neB (by decide)), if_pos (eqS_yes _)]
theorem body_droptable (x : Cmd) (W : Ws) : bodyP b_droptable x W = (tableP { x with kind := 4 } W) := by
  unfold bodyP
  rw [if_neg (neB (by decide)), if_neg (neB (by decide)), if_neg (neB (by decide)), if_pos (eqS_yes _)]
theorem body_column (x : Cmd) (W : Ws) : bodyP b_column x W = ((tableP { x with kind := 5 } W).bind fun (x, W) => (colP W).bind fun (c, W) => some ({ x with cols := [c] }, W)) := by
  unfold bodyP
  rw [if_neg (neB (by decide)), if_neg (neB (by decide)), if_neg (neB (by decide)), if_neg (neB (by decide)), if_pos (eqS_yes _)]
theorem body_dropcolumn (x : Cmd) (W : Ws) : bodyP b_dropcolumn x W = ((tableP { x with kind := 6 } W).bind fun (x, W) => (nameP W).bind fun (s, W) => some ({ x with name := s }, W)) := by
  unfold bodyP
  rw [if_neg (neB (by decide)), if_neg (neB (by decide)), if_neg (neB (by decide)), if_neg (neB (by decide)), if_neg (neB (by decide)), if_pos (eqS_yes _)]
theorem body_index (x : Cmd) (W : Ws) : bodyP b_index x W = ((tableP { x with kind := 7 } W).bind fun (x, W) => (ruleP 1 W).bind fun (r, W) => some ({ x with rule := r }, W)) := by
  unfold bodyP
  rw [if_neg (neB (by decide)), if_neg (neB (by decide)), if_neg (neB (by decide)), if_neg (neB (by decide)), if_neg (neB (by decide)), if_neg (neB (by decide)), if_pos (eqS_yes _)]
theorem body_key (x : Cmd) (W : Ws) : bodyP b_key x W = ((tableP { x with kind := 7 } W).bind fun (x, W) => (ruleP 2 W).bind fun (r, W) => some ({ x with rule := r }, W)) := by
  unfold bodyP
  rw [if_neg (neB (by decide)), if_neg (neB (by decide)), if_neg (neB (by decide)), if_neg (neB (by decide)), if_neg (neB (by decide)), if_neg (neB (by decide)), if_neg (neB (by decide)), if_pos (eqS_yes _)]
theorem body_check (x : Cmd) (W : Ws) : bodyP b_check x W = ((tableP { x with kind := 7 } W).bind fun (x, W) => (ruleP 3 W).bind fun (r, W) => some ({ x with rule := r }, W)) := by
  unfold bodyP
  rw [if_neg (neB (by decide)), if_neg (neB (by decide)), if_neg (neB (by decide)), if_neg (neB (by decide)), if_neg (neB (by decide)), if_neg (neB (by decide)), if_neg (neB (by decide)), if_neg (neB (by decide)), if_pos (eqS_yes _)]
theorem body_foreign (x : Cmd) (W : Ws) : bodyP b_foreign x W = ((tableP { x with kind := 7 } W).bind fun (x, W) => (ruleP 4 W).bind fun (r, W) => some ({ x with rule := r }, W)) := by
  unfold bodyP
  rw [if_neg (neB (by decide)), if_neg (neB (by decide)), if_neg (neB (by decide)), if_neg (neB (by decide)), if_neg (neB (by decide)), if_neg (neB (by decide)), if_neg (neB (by decide)), if_neg (neB (by decide)), if_neg (neB (by decide)), if_pos (eqS_yes _)]
theorem body_droprule (x : Cmd) (W : Ws) : bodyP b_droprule x W = ((tableP { x with kind := 8 } W).bind fun (x, W) => (nameP W).bind fun (s, W) => some ({ x with name := s }, W)) := by
  unfold bodyP
  rw [if_neg (neB (by decide)), if_neg (neB (by decide)), if_neg (neB (by decide)), if_neg (neB (by decide)), if_neg (neB (by decide)), if_neg (neB (by decide)), if_neg (neB (by decide)), if_neg (neB (by decide)), if_neg (neB (by decide)), if_neg (neB (by decide)), if_pos (eqS_yes _)]
theorem body_owner (x : Cmd) (W : Ws) : bodyP b_owner x W = ((tableP { x with kind := 9 } W).bind fun (x, W) => (nameP W).bind fun (s, W) => some ({ x with role := s }, W)) := by
  unfold bodyP
  rw [if_neg (neB (by decide)), if_neg (neB (by decide)), if_neg (neB (by decide)), if_neg (neB (by decide)), if_neg (neB (by decide)), if_neg (neB (by decide)), if_neg (neB (by decide)), if_neg (neB (by decide)), if_neg (neB (by decide)), if_neg (neB (by decide)), if_neg (neB (by decide)), if_pos (eqS_yes _)]
theorem body_role (x : Cmd) (W : Ws) : bodyP b_role x W = ((nameP W).bind fun (s, W) => some ({ x with kind := 10, role := s }, W)) := by
  unfold bodyP
  rw [if_neg (neB (by decide)), if_neg (neB (by decide)), if_neg (neB (by decide)), if_neg (neB (by decide)), if_neg (neB (by decide)), if_neg (neB (by decide)), if_neg (neB (by decide)), if_neg (neB (by decide)), if_neg (neB (by decide)), if_neg (neB (by decide)), if_neg (neB (by decide)), if_neg (neB (by decide)), if_pos (eqS_yes _)]
theorem body_droprole (x : Cmd) (W : Ws) : bodyP b_droprole x W = ((nameP W).bind fun (s, W) => some ({ x with kind := 11, role := s }, W)) := by
  unfold bodyP
  rw [if_neg (neB (by decide)), if_neg (neB (by decide)), if_neg (neB (by decide)), if_neg (neB (by decide)), if_neg (neB (by decide)), if_neg (neB (by decide)), if_neg (neB (by decide)), if_neg (neB (by decide)), if_neg (neB (by decide)), if_neg (neB (by decide)), if_neg (neB (by decide)), if_neg (neB (by decide)), if_neg (neB (by decide)), if_pos (eqS_yes _)]
theorem body_member (x : Cmd) (W : Ws) : bodyP b_member x W = ((nameP W).bind fun (s, W) => (nameP W).bind fun (t, W) => some ({ x with kind := 12, role := s, name := t }, W)) := by
  unfold bodyP
  rw [if_neg (neB (by decide)), if_neg (neB (by decide)), if_neg (neB (by decide)), if_neg (neB (by decide)), if_neg (neB (by decide)), if_neg (neB (by decide)), if_neg (neB (by decide)), if_neg (neB (by decide)), if_neg (neB (by decide)), if_neg (neB (by decide)), if_neg (neB (by decide)), if_neg (neB (by decide)), if_neg (neB (by decide)), if_neg (neB (by decide)), if_pos (eqS_yes _)]
theorem body_unmember (x : Cmd) (W : Ws) : bodyP b_unmember x W = ((nameP W).bind fun (s, W) => (nameP W).bind fun (t, W) => some ({ x with kind := 13, role := s, name := t }, W)) := by
  unfold bodyP
  rw [if_neg (neB (by decide)), if_neg (neB (by decide)), if_neg (neB (by decide)), if_neg (neB (by decide)), if_neg (neB (by decide)), if_neg (neB (by decide)), if_neg (neB (by decide)), if_neg (neB (by decide)), if_neg (neB (by decide)), if_neg (neB (by decide)), if_neg (neB (by decide)), if_neg (neB (by decide)), if_neg (neB (by decide)), if_neg (neB (by decide)), if_neg (neB (by decide)), if_pos (eqS_yes _)]
theorem body_grant (x : Cmd) (W : Ws) : bodyP b_grant x W = ((tableP { x with kind := 14 } W).bind fun (x, W) => (rightP x W).bind fun (x, W) => optP x W) := by
  unfold bodyP
  rw [if_neg (neB (by decide)), if_neg (neB (by decide)), if_neg (neB (by decide)), if_neg (neB (by decide)), if_neg (neB (by decide)), if_neg (neB (by decide)), if_neg (neB (by decide)), if_neg (neB (by decide)), if_neg (neB (by decide)), if_neg (neB (by decide)), if_neg (neB (by decide)), if_neg (neB (by decide)), if_neg (neB (by decide)), if_neg (neB (by decide)), if_neg (neB (by decide)), if_neg (neB (by decide)), if_pos (eqS_yes _)]
theorem body_revoke (x : Cmd) (W : Ws) : bodyP b_revoke x W = ((tableP { x with kind := 15 } W).bind fun (x, W) => rightP x W) := by
  unfold bodyP
  rw [if_neg (neB (by decide)), if_neg (neB (by decide)), if_neg (neB (by decide)), if_neg (neB (by decide)), if_neg (neB (by decide)), if_neg (neB (by decide)), if_neg (neB (by decide)), if_neg (neB (by decide)), if_neg (neB (by decide)), if_neg (neB (by decide)), if_neg (neB (by decide)), if_neg (neB (by decide)), if_neg (neB (by decide)), if_neg (neB (by decide)), if_neg (neB (by decide)), if_neg (neB (by decide)), if_neg (neB (by decide)), if_pos (eqS_yes _)]
set_option maxHeartbeats 8000000 in
theorem command_schema (b p : Nat) (a : ByteArray) (WW : Ws) (w : World) (h : WdS w b p (b_schema :: a :: WW)) : Calls Tryz.prog 29 #[.pointer (some ⟨b, 0, none⟩)] w (RdQ b p w (CmdV b w.heap.size) (cmdP (b_schema :: a :: WW))) := by
  have HN := Lib.hid (fun w1 W (h : WdS w1 b p W) => name_rd b p W w1 h)
  have HW0 := Lib.hid (show Calls Tryz.prog 27 #[.pointer (some ⟨b, 0, none⟩)] (w.alloc (.cells #[.int .i64 0, .string ⟨#[]⟩, .string ⟨#[]⟩, .string ⟨#[]⟩, .string ⟨#[]⟩, .string ⟨#[]⟩, .slice none 0 0, .string ⟨#[]⟩, .int .i64 0, .slice none 0 0, .int .i64 0, .int .i64 0, .string ⟨#[]⟩, .string ⟨#[]⟩, .string ⟨#[]⟩, .int .i64 0, .bool false] 31)) fun e w' => e = .returned (.string ⟨#[115, 99, 104, 101, 109, 97]⟩) ∧ WdS w' b p (a :: WW) ∧ Kw b (w.alloc (.cells #[.int .i64 0, .string ⟨#[]⟩, .string ⟨#[]⟩, .string ⟨#[]⟩, .string ⟨#[]⟩, .string ⟨#[]⟩, .slice none 0 0, .string ⟨#[]⟩, .int .i64 0, .slice none 0 0, .int .i64 0, .int .i64 0, .string ⟨#[]⟩, .string ⟨#[]⟩, .string ⟨#[]⟩, .int .i64 0, .bool false] 31)) w' from word_yes b p b_schema (a :: WW) _ (h.aft ((Aft.refl w).alloc _)))
  have hb := h.lt
  have HPL := Lib.hid h.plt
  have HLO := Lib.hid h.low
  clear h
  go_enter Tryz.func29, Tryz.ntmps29
  go_wp2_with (first
    | (go_at_call 27; with_reducible refine HW0.out.mono ?_; rintro e w1 ⟨rfl, d, k⟩; have ST := bx_start (t2 := 31) (zs := [.int .i64 0, .string ⟨#[]⟩, .string ⟨#[]⟩, .string ⟨#[]⟩, .string ⟨#[]⟩, .string ⟨#[]⟩, .slice none 0 0, .string ⟨#[]⟩, .int .i64 0, .slice none 0 0, .int .i64 0, .int .i64 0, .string ⟨#[]⟩, .string ⟨#[]⟩, .string ⟨#[]⟩, .int .i64 0, .bool false]) hb HPL.out HLO.out k d [.int .i64 0, .string ⟨#[]⟩, .string ⟨#[]⟩, .string ⟨#[]⟩, .string ⟨#[]⟩, .string ⟨#[]⟩, .slice none 0 0, .string ⟨#[]⟩, .int .i64 0, .slice none 0 0, .int .i64 0, .int .i64 0, .string ⟨#[]⟩, .string ⟨#[]⟩, .string ⟨#[]⟩, .int .i64 0, .bool false]; have S := Lib.hid ST.1; have X1 := Lib.hid ST.2; clear d k ST)
    | (go_at_call 19; with_reducible refine (more_yes b p a WW _ X1.out.ds).mono ?_; rintro e w' ⟨rfl, rfl⟩)
    | (go_at_call 48; with_reducible refine (HN.out _ _ X1.out.ds).mono ?_; rintro e w2 q; rcases name_cases q with ⟨n, rfl, k⟩ | ⟨s2, W2, n, rfl, g2, d, k⟩; all_goals (have N2 := Lib.hid n; have K2 := Lib.hid (X1.out.kw.trans k); clear n q; try (have X2 := Lib.hid (X1.out.call S.out k d); have xz2 := X2.out.row.ltD; have rz2 := X2.out.res.ltD; obtain ⟨c2_1, f2_1⟩ := X2.out.cf 1 (by simp); have X2s := Lib.hid (X2.out.set S.out 1 (.string s2) (by simp)); clear d)))
    | (go_at_call 48; with_reducible refine (HN.out _ _ X2s.out.ds).mono ?_; rintro e w3 q; rcases name_cases q with ⟨n, rfl, k⟩ | ⟨s3, W3, n, rfl, g3, d, k⟩; all_goals (have N3 := Lib.hid n; have K3 := Lib.hid (X2s.out.kw.trans k); clear n q; try (have X3 := Lib.hid (X2s.out.call S.out k d); have xz3 := X3.out.row.ltD; have rz3 := X3.out.res.ltD; obtain ⟨c3_0, f3_0⟩ := X3.out.cf 0 (by simp); obtain ⟨c3_2, f3_2⟩ := X3.out.cf 2 (by simp); have XF := (X3.out.set S.out 0 (.int .i64 1) (by simp)).set S.out 2 (.string s3) (by simp); simp only [List.set_cons_succ, List.set_cons_zero] at XF; have XF := Lib.hid XF; obtain ⟨e1, e2⟩ := endsCmd XF.out rfl rfl (by simp [Value.oneCell']); clear d))))
  · exact ⟨rfl, K2.out, by rw [show cmdP (b_schema :: a :: WW) = none by simp only [cmdP_cons, body_schema, N2.out, Option.bind_some, Option.bind_none]]; rfl⟩
  · exact ⟨rfl, K3.out, by rw [show cmdP (b_schema :: a :: WW) = none by simp only [cmdP_cons, body_schema, N2.out, N3.out, Option.bind_some, Option.bind_none]]; rfl⟩
  · obtain ⟨rf, kwf, wdf, kbf⟩ := XF.out.fin S.out rfl
    refine bodyPost_ret (results_cell rfl _ rfl (lv_row (T := 31) Tryz.underlying31 (by kernel_rfl) rf rfl)) rfl ?_
    have S := S.out
    have sb := S.fb
    have sr := S.fr
    have sx := S.fx
    refine ⟨kwf, ?_⟩
    rw [show cmdP (b_schema :: a :: WW) = some ({ zCmd with actor := s2, kind := 1, schema := s3 }, W3) by simp only [cmdP_cons, body_schema, N2.out, N3.out, Option.bind_some]]
    exact ⟨_, rfl, ⟨_, _, _, _, rfl, cols_nil b _ _ sb, names_nil b _ _ sb, ⟨.inr g2, .inr g3, .inl rfl, .inl rfl, .inl rfl, .inl rfl, .inl rfl, .inl rfl, .inl rfl⟩⟩, wdf⟩

set_option maxHeartbeats 8000000 in
theorem command_dropschema (b p : Nat) (a : ByteArray) (WW : Ws) (w : World) (h : WdS w b p (b_dropschema :: a :: WW)) : Calls Tryz.prog 29 #[.pointer (some ⟨b, 0, none⟩)] w (RdQ b p w (CmdV b w.heap.size) (cmdP (b_dropschema :: a :: WW))) := by
  have HN := Lib.hid (fun w1 W (h : WdS w1 b p W) => name_rd b p W w1 h)
  have HW0 := Lib.hid (show Calls Tryz.prog 27 #[.pointer (some ⟨b, 0, none⟩)] (w.alloc (.cells #[.int .i64 0, .string ⟨#[]⟩, .string ⟨#[]⟩, .string ⟨#[]⟩, .string ⟨#[]⟩, .string ⟨#[]⟩, .slice none 0 0, .string ⟨#[]⟩, .int .i64 0, .slice none 0 0, .int .i64 0, .int .i64 0, .string ⟨#[]⟩, .string ⟨#[]⟩, .string ⟨#[]⟩, .int .i64 0, .bool false] 31)) fun e w' => e = .returned (.string ⟨#[100, 114, 111, 112, 115, 99, 104, 101, 109, 97]⟩) ∧ WdS w' b p (a :: WW) ∧ Kw b (w.alloc (.cells #[.int .i64 0, .string ⟨#[]⟩, .string ⟨#[]⟩, .string ⟨#[]⟩, .string ⟨#[]⟩, .string ⟨#[]⟩, .slice none 0 0, .string ⟨#[]⟩, .int .i64 0, .slice none 0 0, .int .i64 0, .int .i64 0, .string ⟨#[]⟩, .string ⟨#[]⟩, .string ⟨#[]⟩, .int .i64 0, .bool false] 31)) w' from word_yes b p b_dropschema (a :: WW) _ (h.aft ((Aft.refl w).alloc _)))
  have hb := h.lt
  have HPL := Lib.hid h.plt
  have HLO := Lib.hid h.low
  clear h
  go_enter Tryz.func29, Tryz.ntmps29
  go_wp2_with (first
    | (go_at_call 27; with_reducible refine HW0.out.mono ?_; rintro e w1 ⟨rfl, d, k⟩; have ST := bx_start (t2 := 31) (zs := [.int .i64 0, .string ⟨#[]⟩, .string ⟨#[]⟩, .string ⟨#[]⟩, .string ⟨#[]⟩, .string ⟨#[]⟩, .slice none 0 0, .string ⟨#[]⟩, .int .i64 0, .slice none 0 0, .int .i64 0, .int .i64 0, .string ⟨#[]⟩, .string ⟨#[]⟩, .string ⟨#[]⟩, .int .i64 0, .bool false]) hb HPL.out HLO.out k d [.int .i64 0, .string ⟨#[]⟩, .string ⟨#[]⟩, .string ⟨#[]⟩, .string ⟨#[]⟩, .string ⟨#[]⟩, .slice none 0 0, .string ⟨#[]⟩, .int .i64 0, .slice none 0 0, .int .i64 0, .int .i64 0, .string ⟨#[]⟩, .string ⟨#[]⟩, .string ⟨#[]⟩, .int .i64 0, .bool false]; have S := Lib.hid ST.1; have X1 := Lib.hid ST.2; clear d k ST)
    | (go_at_call 19; with_reducible refine (more_yes b p a WW _ X1.out.ds).mono ?_; rintro e w' ⟨rfl, rfl⟩)
    | (go_at_call 48; with_reducible refine (HN.out _ _ X1.out.ds).mono ?_; rintro e w2 q; rcases name_cases q with ⟨n, rfl, k⟩ | ⟨s2, W2, n, rfl, g2, d, k⟩; all_goals (have N2 := Lib.hid n; have K2 := Lib.hid (X1.out.kw.trans k); clear n q; try (have X2 := Lib.hid (X1.out.call S.out k d); have xz2 := X2.out.row.ltD; have rz2 := X2.out.res.ltD; obtain ⟨c2_1, f2_1⟩ := X2.out.cf 1 (by simp); have X2s := Lib.hid (X2.out.set S.out 1 (.string s2) (by simp)); clear d)))
    | (go_at_call 48; with_reducible refine (HN.out _ _ X2s.out.ds).mono ?_; rintro e w3 q; rcases name_cases q with ⟨n, rfl, k⟩ | ⟨s3, W3, n, rfl, g3, d, k⟩; all_goals (have N3 := Lib.hid n; have K3 := Lib.hid (X2s.out.kw.trans k); clear n q; try (have X3 := Lib.hid (X2s.out.call S.out k d); have xz3 := X3.out.row.ltD; have rz3 := X3.out.res.ltD; obtain ⟨c3_0, f3_0⟩ := X3.out.cf 0 (by simp); obtain ⟨c3_2, f3_2⟩ := X3.out.cf 2 (by simp); have XF := (X3.out.set S.out 0 (.int .i64 2) (by simp)).set S.out 2 (.string s3) (by simp); simp only [List.set_cons_succ, List.set_cons_zero] at XF; have XF := Lib.hid XF; obtain ⟨e1, e2⟩ := endsCmd XF.out rfl rfl (by simp [Value.oneCell']); clear d))))
  · exact ⟨rfl, K2.out, by rw [show cmdP (b_dropschema :: a :: WW) = none by simp only [cmdP_cons, body_dropschema, N2.out, Option.bind_some, Option.bind_none]]; rfl⟩
  · exact ⟨rfl, K3.out, by rw [show cmdP (b_dropschema :: a :: WW) = none by simp only [cmdP_cons, body_dropschema, N2.out, N3.out, Option.bind_some, Option.bind_none]]; rfl⟩
  · obtain ⟨rf, kwf, wdf, kbf⟩ := XF.out.fin S.out rfl
    refine bodyPost_ret (results_cell rfl _ rfl (lv_row (T := 31) Tryz.underlying31 (by kernel_rfl) rf rfl)) rfl ?_
    have S := S.out
    have sb := S.fb
    have sr := S.fr
    have sx := S.fx
    refine ⟨kwf, ?_⟩
    rw [show cmdP (b_dropschema :: a :: WW) = some ({ zCmd with actor := s2, kind := 2, schema := s3 }, W3) by simp only [cmdP_cons, body_dropschema, N2.out, N3.out, Option.bind_some]]
    exact ⟨_, rfl, ⟨_, _, _, _, rfl, cols_nil b _ _ sb, names_nil b _ _ sb, ⟨.inr g2, .inr g3, .inl rfl, .inl rfl, .inl rfl, .inl rfl, .inl rfl, .inl rfl, .inl rfl⟩⟩, wdf⟩

set_option maxHeartbeats 8000000 in
theorem command_droptable (b p : Nat) (a : ByteArray) (WW : Ws) (w : World) (h : WdS w b p (b_droptable :: a :: WW)) : Calls Tryz.prog 29 #[.pointer (some ⟨b, 0, none⟩)] w (RdQ b p w (CmdV b w.heap.size) (cmdP (b_droptable :: a :: WW))) := by
  have HN := Lib.hid (fun w1 W (h : WdS w1 b p W) => name_rd b p W w1 h)
  have HT := Lib.hid (fun x w1 W cs (h : WdS w1 b p W) (hx : RowAt w1 x cs) (hl : cs.length = 17) (hb : ¬ x = b) (hp : ¬ x = p) h0 => table_rd b p x W w1 cs h hx hl hb hp h0)
  have HW0 := Lib.hid (show Calls Tryz.prog 27 #[.pointer (some ⟨b, 0, none⟩)] (w.alloc (.cells #[.int .i64 0, .string ⟨#[]⟩, .string ⟨#[]⟩, .string ⟨#[]⟩, .string ⟨#[]⟩, .string ⟨#[]⟩, .slice none 0 0, .string ⟨#[]⟩, .int .i64 0, .slice none 0 0, .int .i64 0, .int .i64 0, .string ⟨#[]⟩, .string ⟨#[]⟩, .string ⟨#[]⟩, .int .i64 0, .bool false] 31)) fun e w' => e = .returned (.string ⟨#[100, 114, 111, 112, 116, 97, 98, 108, 101]⟩) ∧ WdS w' b p (a :: WW) ∧ Kw b (w.alloc (.cells #[.int .i64 0, .string ⟨#[]⟩, .string ⟨#[]⟩, .string ⟨#[]⟩, .string ⟨#[]⟩, .string ⟨#[]⟩, .slice none 0 0, .string ⟨#[]⟩, .int .i64 0, .slice none 0 0, .int .i64 0, .int .i64 0, .string ⟨#[]⟩, .string ⟨#[]⟩, .string ⟨#[]⟩, .int .i64 0, .bool false] 31)) w' from word_yes b p b_droptable (a :: WW) _ (h.aft ((Aft.refl w).alloc _)))
  have hb := h.lt
  have HPL := Lib.hid h.plt
  have HLO := Lib.hid h.low
  clear h
  go_enter Tryz.func29, Tryz.ntmps29
  go_wp2_with (first
    | (go_at_call 27; with_reducible refine HW0.out.mono ?_; rintro e w1 ⟨rfl, d, k⟩; have ST := bx_start (t2 := 31) (zs := [.int .i64 0, .string ⟨#[]⟩, .string ⟨#[]⟩, .string ⟨#[]⟩, .string ⟨#[]⟩, .string ⟨#[]⟩, .slice none 0 0, .string ⟨#[]⟩, .int .i64 0, .slice none 0 0, .int .i64 0, .int .i64 0, .string ⟨#[]⟩, .string ⟨#[]⟩, .string ⟨#[]⟩, .int .i64 0, .bool false]) hb HPL.out HLO.out k d [.int .i64 0, .string ⟨#[]⟩, .string ⟨#[]⟩, .string ⟨#[]⟩, .string ⟨#[]⟩, .string ⟨#[]⟩, .slice none 0 0, .string ⟨#[]⟩, .int .i64 0, .slice none 0 0, .int .i64 0, .int .i64 0, .string ⟨#[]⟩, .string ⟨#[]⟩, .string ⟨#[]⟩, .int .i64 0, .bool false]; have S := Lib.hid ST.1; have X1 := Lib.hid ST.2; clear d k ST)
    | (go_at_call 19; with_reducible refine (more_yes b p a WW _ X1.out.ds).mono ?_; rintro e w' ⟨rfl, rfl⟩)
    | (go_at_call 48; with_reducible refine (HN.out _ _ X1.out.ds).mono ?_; rintro e w2 q; rcases name_cases q with ⟨n, rfl, k⟩ | ⟨s2, W2, n, rfl, g2, d, k⟩; all_goals (have N2 := Lib.hid n; have K2 := Lib.hid (X1.out.kw.trans k); clear n q; try (have X2 := Lib.hid (X1.out.call S.out k d); have xz2 := X2.out.row.ltD; have rz2 := X2.out.res.ltD; obtain ⟨c2_1, f2_1⟩ := X2.out.cf 1 (by simp); obtain ⟨c2_0, f2_0⟩ := X2.out.cf 0 (by simp); have X2s := Lib.hid ((X2.out.set S.out 1 (.string s2) (by simp)).set S.out 0 (.int .i64 4) (by simp)); clear d)))
    | (go_at_call 49; with_reducible refine (HT.out _ _ _ _ X2s.out.ds X2s.out.row (by simp) (S.out.xb) (S.out.xp) (S.out.x0)).mono ?_; rintro e w3 q; rcases tab_cases q with ⟨n, rfl, k⟩ | ⟨s3, t3, W3, n, rfl, ⟨g3, u3, r⟩, d, k⟩; all_goals (have N3 := Lib.hid n; have K3 := Lib.hid (Kx.kw X2s.out.kw k S.out.fx); clear n q; try (have X3 := Lib.hid (X2s.out.kx S.out k d r); have xz3 := X3.out.row.ltD; have rz3 := X3.out.res.ltD; have XF := X3.out; simp only [List.set_cons_succ, List.set_cons_zero] at XF; have XF := Lib.hid XF; obtain ⟨e1, e2⟩ := endsCmd XF.out rfl rfl (by simp [Value.oneCell']); clear d r))))
  · exact ⟨rfl, K2.out, by rw [show cmdP (b_droptable :: a :: WW) = none by simp only [cmdP_cons, body_droptable, N2.out, Option.bind_some, Option.bind_none]]; rfl⟩
  · exact ⟨rfl, K3.out, by rw [show cmdP (b_droptable :: a :: WW) = none by simp only [cmdP_cons, body_droptable, N2.out, N3.out, Option.bind_some, Option.bind_none]]; rfl⟩
  · obtain ⟨rf, kwf, wdf, kbf⟩ := XF.out.fin S.out rfl
    refine bodyPost_ret (results_cell rfl _ rfl (lv_row (T := 31) Tryz.underlying31 (by kernel_rfl) rf rfl)) rfl ?_
    have S := S.out
    have sb := S.fb
    have sr := S.fr
    have sx := S.fx
    refine ⟨kwf, ?_⟩
    rw [show cmdP (b_droptable :: a :: WW) = some ({ zCmd with actor := s2, kind := 4, schema := s3, table := t3 }, W3) by simp only [cmdP_cons, body_droptable, N2.out, N3.out, Option.bind_some]]
    exact ⟨_, rfl, ⟨_, _, _, _, rfl, cols_nil b _ _ sb, names_nil b _ _ sb, ⟨.inr g2, .inr g3, .inr u3, .inl rfl, .inl rfl, .inl rfl, .inl rfl, .inl rfl, .inl rfl⟩⟩, wdf⟩

set_option maxHeartbeats 8000000 in
theorem command_dropcolumn (b p : Nat) (a : ByteArray) (WW : Ws) (w : World) (h : WdS w b p (b_dropcolumn :: a :: WW)) : Calls Tryz.prog 29 #[.pointer (some ⟨b, 0, none⟩)] w (RdQ b p w (CmdV b w.heap.size) (cmdP (b_dropcolumn :: a :: WW))) := by
  have HN := Lib.hid (fun w1 W (h : WdS w1 b p W) => name_rd b p W w1 h)
  have HT := Lib.hid (fun x w1 W cs (h : WdS w1 b p W) (hx : RowAt w1 x cs) (hl : cs.length = 17) (hb : ¬ x = b) (hp : ¬ x = p) h0 => table_rd b p x W w1 cs h hx hl hb hp h0)
  have HW0 := Lib.hid (show Calls Tryz.prog 27 #[.pointer (some ⟨b, 0, none⟩)] (w.alloc (.cells #[.int .i64 0, .string ⟨#[]⟩, .string ⟨#[]⟩, .string ⟨#[]⟩, .string ⟨#[]⟩, .string ⟨#[]⟩, .slice none 0 0, .string ⟨#[]⟩, .int .i64 0, .slice none 0 0, .int .i64 0, .int .i64 0, .string ⟨#[]⟩, .string ⟨#[]⟩, .string ⟨#[]⟩, .int .i64 0, .bool false] 31)) fun e w' => e = .returned (.string ⟨#[100, 114, 111, 112, 99, 111, 108, 117, 109, 110]⟩) ∧ WdS w' b p (a :: WW) ∧ Kw b (w.alloc (.cells #[.int .i64 0, .string ⟨#[]⟩, .string ⟨#[]⟩, .string ⟨#[]⟩, .string ⟨#[]⟩, .string ⟨#[]⟩, .slice none 0 0, .string ⟨#[]⟩, .int .i64 0, .slice none 0 0, .int .i64 0, .int .i64 0, .string ⟨#[]⟩, .string ⟨#[]⟩, .string ⟨#[]⟩, .int .i64 0, .bool false] 31)) w' from word_yes b p b_dropcolumn (a :: WW) _ (h.aft ((Aft.refl w).alloc _)))
  have hb := h.lt
  have HPL := Lib.hid h.plt
  have HLO := Lib.hid h.low
  clear h
  go_enter Tryz.func29, Tryz.ntmps29
  go_wp2_with (first
    | (go_at_call 27; with_reducible refine HW0.out.mono ?_; rintro e w1 ⟨rfl, d, k⟩; have ST := bx_start (t2 := 31) (zs := [.int .i64 0, .string ⟨#[]⟩, .string ⟨#[]⟩, .string ⟨#[]⟩, .string ⟨#[]⟩, .string ⟨#[]⟩, .slice none 0 0, .string ⟨#[]⟩, .int .i64 0, .slice none 0 0, .int .i64 0, .int .i64 0, .string ⟨#[]⟩, .string ⟨#[]⟩, .string ⟨#[]⟩, .int .i64 0, .bool false]) hb HPL.out HLO.out k d [.int .i64 0, .string ⟨#[]⟩, .string ⟨#[]⟩, .string ⟨#[]⟩, .string ⟨#[]⟩, .string ⟨#[]⟩, .slice none 0 0, .string ⟨#[]⟩, .int .i64 0, .slice none 0 0, .int .i64 0, .int .i64 0, .string ⟨#[]⟩, .string ⟨#[]⟩, .string ⟨#[]⟩, .int .i64 0, .bool false]; have S := Lib.hid ST.1; have X1 := Lib.hid ST.2; clear d k ST)
    | (go_at_call 19; with_reducible refine (more_yes b p a WW _ X1.out.ds).mono ?_; rintro e w' ⟨rfl, rfl⟩)
    | (go_at_call 48; with_reducible refine (HN.out _ _ X1.out.ds).mono ?_; rintro e w2 q; rcases name_cases q with ⟨n, rfl, k⟩ | ⟨s2, W2, n, rfl, g2, d, k⟩; all_goals (have N2 := Lib.hid n; have K2 := Lib.hid (X1.out.kw.trans k); clear n q; try (have X2 := Lib.hid (X1.out.call S.out k d); have xz2 := X2.out.row.ltD; have rz2 := X2.out.res.ltD; obtain ⟨c2_1, f2_1⟩ := X2.out.cf 1 (by simp); obtain ⟨c2_0, f2_0⟩ := X2.out.cf 0 (by simp); have X2s := Lib.hid ((X2.out.set S.out 1 (.string s2) (by simp)).set S.out 0 (.int .i64 6) (by simp)); clear d)))
    | (go_at_call 49; with_reducible refine (HT.out _ _ _ _ X2s.out.ds X2s.out.row (by simp) (S.out.xb) (S.out.xp) (S.out.x0)).mono ?_; rintro e w3 q; rcases tab_cases q with ⟨n, rfl, k⟩ | ⟨s3, t3, W3, n, rfl, ⟨g3, u3, r⟩, d, k⟩; all_goals (have N3 := Lib.hid n; have K3 := Lib.hid (Kx.kw X2s.out.kw k S.out.fx); clear n q; try (have X3 := Lib.hid (X2s.out.kx S.out k d r); have xz3 := X3.out.row.ltD; have rz3 := X3.out.res.ltD; clear d r)))
    | (go_at_call 48; with_reducible refine (HN.out _ _ X3.out.ds).mono ?_; rintro e w4 q; rcases name_cases q with ⟨n, rfl, k⟩ | ⟨s4, W4, n, rfl, g4, d, k⟩; all_goals (have N4 := Lib.hid n; have K4 := Lib.hid (X3.out.kw.trans k); clear n q; try (have X4 := Lib.hid (X3.out.call S.out k d); have xz4 := X4.out.row.ltD; have rz4 := X4.out.res.ltD; obtain ⟨c4_4, f4_4⟩ := X4.out.cf 4 (by simp); have XF := X4.out.set S.out 4 (.string s4) (by simp); simp only [List.set_cons_succ, List.set_cons_zero] at XF; have XF := Lib.hid XF; obtain ⟨e1, e2⟩ := endsCmd XF.out rfl rfl (by simp [Value.oneCell']); clear d))))
  · exact ⟨rfl, K2.out, by rw [show cmdP (b_dropcolumn :: a :: WW) = none by simp only [cmdP_cons, body_dropcolumn, N2.out, Option.bind_some, Option.bind_none]]; rfl⟩
  · exact ⟨rfl, K3.out, by rw [show cmdP (b_dropcolumn :: a :: WW) = none by simp only [cmdP_cons, body_dropcolumn, N2.out, N3.out, Option.bind_some, Option.bind_none]]; rfl⟩
  · exact ⟨rfl, K4.out, by rw [show cmdP (b_dropcolumn :: a :: WW) = none by simp only [cmdP_cons, body_dropcolumn, N2.out, N3.out, N4.out, Option.bind_some, Option.bind_none]]; rfl⟩
  · obtain ⟨rf, kwf, wdf, kbf⟩ := XF.out.fin S.out rfl
    refine bodyPost_ret (results_cell rfl _ rfl (lv_row (T := 31) Tryz.underlying31 (by kernel_rfl) rf rfl)) rfl ?_
    have S := S.out
    have sb := S.fb
    have sr := S.fr
    have sx := S.fx
    refine ⟨kwf, ?_⟩
    rw [show cmdP (b_dropcolumn :: a :: WW) = some ({ zCmd with actor := s2, kind := 6, schema := s3, table := t3, name := s4 }, W4) by simp only [cmdP_cons, body_dropcolumn, N2.out, N3.out, N4.out, Option.bind_some]]
    exact ⟨_, rfl, ⟨_, _, _, _, rfl, cols_nil b _ _ sb, names_nil b _ _ sb, ⟨.inr g2, .inr g3, .inr u3, .inr g4, .inl rfl, .inl rfl, .inl rfl, .inl rfl, .inl rfl⟩⟩, wdf⟩

set_option maxHeartbeats 8000000 in
theorem command_droprule (b p : Nat) (a : ByteArray) (WW : Ws) (w : World) (h : WdS w b p (b_droprule :: a :: WW)) : Calls Tryz.prog 29 #[.pointer (some ⟨b, 0, none⟩)] w (RdQ b p w (CmdV b w.heap.size) (cmdP (b_droprule :: a :: WW))) := by
  have HN := Lib.hid (fun w1 W (h : WdS w1 b p W) => name_rd b p W w1 h)
  have HT := Lib.hid (fun x w1 W cs (h : WdS w1 b p W) (hx : RowAt w1 x cs) (hl : cs.length = 17) (hb : ¬ x = b) (hp : ¬ x = p) h0 => table_rd b p x W w1 cs h hx hl hb hp h0)
  have HW0 := Lib.hid (show Calls Tryz.prog 27 #[.pointer (some ⟨b, 0, none⟩)] (w.alloc (.cells #[.int .i64 0, .string ⟨#[]⟩, .string ⟨#[]⟩, .string ⟨#[]⟩, .string ⟨#[]⟩, .string ⟨#[]⟩, .slice none 0 0, .string ⟨#[]⟩, .int .i64 0, .slice none 0 0, .int .i64 0, .int .i64 0, .string ⟨#[]⟩, .string ⟨#[]⟩, .string ⟨#[]⟩, .int .i64 0, .bool false] 31)) fun e w' => e = .returned (.string ⟨#[100, 114, 111, 112, 114, 117, 108, 101]⟩) ∧ WdS w' b p (a :: WW) ∧ Kw b (w.alloc (.cells #[.int .i64 0, .string ⟨#[]⟩, .string ⟨#[]⟩, .string ⟨#[]⟩, .string ⟨#[]⟩, .string ⟨#[]⟩, .slice none 0 0, .string ⟨#[]⟩, .int .i64 0, .slice none 0 0, .int .i64 0, .int .i64 0, .string ⟨#[]⟩, .string ⟨#[]⟩, .string ⟨#[]⟩, .int .i64 0, .bool false] 31)) w' from word_yes b p b_droprule (a :: WW) _ (h.aft ((Aft.refl w).alloc _)))
  have hb := h.lt
  have HPL := Lib.hid h.plt
  have HLO := Lib.hid h.low
  clear h
  go_enter Tryz.func29, Tryz.ntmps29
  go_wp2_with (first
    | (go_at_call 27; with_reducible refine HW0.out.mono ?_; rintro e w1 ⟨rfl, d, k⟩; have ST := bx_start (t2 := 31) (zs := [.int .i64 0, .string ⟨#[]⟩, .string ⟨#[]⟩, .string ⟨#[]⟩, .string ⟨#[]⟩, .string ⟨#[]⟩, .slice none 0 0, .string ⟨#[]⟩, .int .i64 0, .slice none 0 0, .int .i64 0, .int .i64 0, .string ⟨#[]⟩, .string ⟨#[]⟩, .string ⟨#[]⟩, .int .i64 0, .bool false]) hb HPL.out HLO.out k d [.int .i64 0, .string ⟨#[]⟩, .string ⟨#[]⟩, .string ⟨#[]⟩, .string ⟨#[]⟩, .string ⟨#[]⟩, .slice none 0 0, .string ⟨#[]⟩, .int .i64 0, .slice none 0 0, .int .i64 0, .int .i64 0, .string ⟨#[]⟩, .string ⟨#[]⟩, .string ⟨#[]⟩, .int .i64 0, .bool false]; have S := Lib.hid ST.1; have X1 := Lib.hid ST.2; clear d k ST)
    | (go_at_call 19; with_reducible refine (more_yes b p a WW _ X1.out.ds).mono ?_; rintro e w' ⟨rfl, rfl⟩)
    | (go_at_call 48; with_reducible refine (HN.out _ _ X1.out.ds).mono ?_; rintro e w2 q; rcases name_cases q with ⟨n, rfl, k⟩ | ⟨s2, W2, n, rfl, g2, d, k⟩; all_goals (have N2 := Lib.hid n; have K2 := Lib.hid (X1.out.kw.trans k); clear n q; try (have X2 := Lib.hid (X1.out.call S.out k d); have xz2 := X2.out.row.ltD; have rz2 := X2.out.res.ltD; obtain ⟨c2_1, f2_1⟩ := X2.out.cf 1 (by simp); obtain ⟨c2_0, f2_0⟩ := X2.out.cf 0 (by simp); have X2s := Lib.hid ((X2.out.set S.out 1 (.string s2) (by simp)).set S.out 0 (.int .i64 8) (by simp)); clear d)))
    | (go_at_call 49; with_reducible refine (HT.out _ _ _ _ X2s.out.ds X2s.out.row (by simp) (S.out.xb) (S.out.xp) (S.out.x0)).mono ?_; rintro e w3 q; rcases tab_cases q with ⟨n, rfl, k⟩ | ⟨s3, t3, W3, n, rfl, ⟨g3, u3, r⟩, d, k⟩; all_goals (have N3 := Lib.hid n; have K3 := Lib.hid (Kx.kw X2s.out.kw k S.out.fx); clear n q; try (have X3 := Lib.hid (X2s.out.kx S.out k d r); have xz3 := X3.out.row.ltD; have rz3 := X3.out.res.ltD; clear d r)))
    | (go_at_call 48; with_reducible refine (HN.out _ _ X3.out.ds).mono ?_; rintro e w4 q; rcases name_cases q with ⟨n, rfl, k⟩ | ⟨s4, W4, n, rfl, g4, d, k⟩; all_goals (have N4 := Lib.hid n; have K4 := Lib.hid (X3.out.kw.trans k); clear n q; try (have X4 := Lib.hid (X3.out.call S.out k d); have xz4 := X4.out.row.ltD; have rz4 := X4.out.res.ltD; obtain ⟨c4_4, f4_4⟩ := X4.out.cf 4 (by simp); have XF := X4.out.set S.out 4 (.string s4) (by simp); simp only [List.set_cons_succ, List.set_cons_zero] at XF; have XF := Lib.hid XF; obtain ⟨e1, e2⟩ := endsCmd XF.out rfl rfl (by simp [Value.oneCell']); clear d))))
  · exact ⟨rfl, K2.out, by rw [show cmdP (b_droprule :: a :: WW) = none by simp only [cmdP_cons, body_droprule, N2.out, Option.bind_some, Option.bind_none]]; rfl⟩
  · exact ⟨rfl, K3.out, by rw [show cmdP (b_droprule :: a :: WW) = none by simp only [cmdP_cons, body_droprule, N2.out, N3.out, Option.bind_some, Option.bind_none]]; rfl⟩
  · exact ⟨rfl, K4.out, by rw [show cmdP (b_droprule :: a :: WW) = none by simp only [cmdP_cons, body_droprule, N2.out, N3.out, N4.out, Option.bind_some, Option.bind_none]]; rfl⟩
  · obtain ⟨rf, kwf, wdf, kbf⟩ := XF.out.fin S.out rfl
    refine bodyPost_ret (results_cell rfl _ rfl (lv_row (T := 31) Tryz.underlying31 (by kernel_rfl) rf rfl)) rfl ?_
    have S := S.out
    have sb := S.fb
    have sr := S.fr
    have sx := S.fx
    refine ⟨kwf, ?_⟩
    rw [show cmdP (b_droprule :: a :: WW) = some ({ zCmd with actor := s2, kind := 8, schema := s3, table := t3, name := s4 }, W4) by simp only [cmdP_cons, body_droprule, N2.out, N3.out, N4.out, Option.bind_some]]
    exact ⟨_, rfl, ⟨_, _, _, _, rfl, cols_nil b _ _ sb, names_nil b _ _ sb, ⟨.inr g2, .inr g3, .inr u3, .inr g4, .inl rfl, .inl rfl, .inl rfl, .inl rfl, .inl rfl⟩⟩, wdf⟩

set_option maxHeartbeats 8000000 in
theorem command_owner (b p : Nat) (a : ByteArray) (WW : Ws) (w : World) (h : WdS w b p (b_owner :: a :: WW)) : Calls Tryz.prog 29 #[.pointer (some ⟨b, 0, none⟩)] w (RdQ b p w (CmdV b w.heap.size) (cmdP (b_owner :: a :: WW))) := by
  have HN := Lib.hid (fun w1 W (h : WdS w1 b p W) => name_rd b p W w1 h)
  have HT := Lib.hid (fun x w1 W cs (h : WdS w1 b p W) (hx : RowAt w1 x cs) (hl : cs.length = 17) (hb : ¬ x = b) (hp : ¬ x = p) h0 => table_rd b p x W w1 cs h hx hl hb hp h0)
  have HW0 := Lib.hid (show Calls Tryz.prog 27 #[.pointer (some ⟨b, 0, none⟩)] (w.alloc (.cells #[.int .i64 0, .string ⟨#[]⟩, .string ⟨#[]⟩, .string ⟨#[]⟩, .string ⟨#[]⟩, .string ⟨#[]⟩, .slice none 0 0, .string ⟨#[]⟩, .int .i64 0, .slice none 0 0, .int .i64 0, .int .i64 0, .string ⟨#[]⟩, .string ⟨#[]⟩, .string ⟨#[]⟩, .int .i64 0, .bool false] 31)) fun e w' => e = .returned (.string ⟨#[111, 119, 110, 101, 114]⟩) ∧ WdS w' b p (a :: WW) ∧ Kw b (w.alloc (.cells #[.int .i64 0, .string ⟨#[]⟩, .string ⟨#[]⟩, .string ⟨#[]⟩, .string ⟨#[]⟩, .string ⟨#[]⟩, .slice none 0 0, .string ⟨#[]⟩, .int .i64 0, .slice none 0 0, .int .i64 0, .int .i64 0, .string ⟨#[]⟩, .string ⟨#[]⟩, .string ⟨#[]⟩, .int .i64 0, .bool false] 31)) w' from word_yes b p b_owner (a :: WW) _ (h.aft ((Aft.refl w).alloc _)))
  have hb := h.lt
  have HPL := Lib.hid h.plt
  have HLO := Lib.hid h.low
  clear h
  go_enter Tryz.func29, Tryz.ntmps29
  go_wp2_with (first
    | (go_at_call 27; with_reducible refine HW0.out.mono ?_; rintro e w1 ⟨rfl, d, k⟩; have ST := bx_start (t2 := 31) (zs := [.int .i64 0, .string ⟨#[]⟩, .string ⟨#[]⟩, .string ⟨#[]⟩, .string ⟨#[]⟩, .string ⟨#[]⟩, .slice none 0 0, .string ⟨#[]⟩, .int .i64 0, .slice none 0 0, .int .i64 0, .int .i64 0, .string ⟨#[]⟩, .string ⟨#[]⟩, .string ⟨#[]⟩, .int .i64 0, .bool false]) hb HPL.out HLO.out k d [.int .i64 0, .string ⟨#[]⟩, .string ⟨#[]⟩, .string ⟨#[]⟩, .string ⟨#[]⟩, .string ⟨#[]⟩, .slice none 0 0, .string ⟨#[]⟩, .int .i64 0, .slice none 0 0, .int .i64 0, .int .i64 0, .string ⟨#[]⟩, .string ⟨#[]⟩, .string ⟨#[]⟩, .int .i64 0, .bool false]; have S := Lib.hid ST.1; have X1 := Lib.hid ST.2; clear d k ST)
    | (go_at_call 19; with_reducible refine (more_yes b p a WW _ X1.out.ds).mono ?_; rintro e w' ⟨rfl, rfl⟩)
    | (go_at_call 48; with_reducible refine (HN.out _ _ X1.out.ds).mono ?_; rintro e w2 q; rcases name_cases q with ⟨n, rfl, k⟩ | ⟨s2, W2, n, rfl, g2, d, k⟩; all_goals (have N2 := Lib.hid n; have K2 := Lib.hid (X1.out.kw.trans k); clear n q; try (have X2 := Lib.hid (X1.out.call S.out k d); have xz2 := X2.out.row.ltD; have rz2 := X2.out.res.ltD; obtain ⟨c2_1, f2_1⟩ := X2.out.cf 1 (by simp); obtain ⟨c2_0, f2_0⟩ := X2.out.cf 0 (by simp); have X2s := Lib.hid ((X2.out.set S.out 1 (.string s2) (by simp)).set S.out 0 (.int .i64 9) (by simp)); clear d)))
    | (go_at_call 49; with_reducible refine (HT.out _ _ _ _ X2s.out.ds X2s.out.row (by simp) (S.out.xb) (S.out.xp) (S.out.x0)).mono ?_; rintro e w3 q; rcases tab_cases q with ⟨n, rfl, k⟩ | ⟨s3, t3, W3, n, rfl, ⟨g3, u3, r⟩, d, k⟩; all_goals (have N3 := Lib.hid n; have K3 := Lib.hid (Kx.kw X2s.out.kw k S.out.fx); clear n q; try (have X3 := Lib.hid (X2s.out.kx S.out k d r); have xz3 := X3.out.row.ltD; have rz3 := X3.out.res.ltD; clear d r)))
    | (go_at_call 48; with_reducible refine (HN.out _ _ X3.out.ds).mono ?_; rintro e w4 q; rcases name_cases q with ⟨n, rfl, k⟩ | ⟨s4, W4, n, rfl, g4, d, k⟩; all_goals (have N4 := Lib.hid n; have K4 := Lib.hid (X3.out.kw.trans k); clear n q; try (have X4 := Lib.hid (X3.out.call S.out k d); have xz4 := X4.out.row.ltD; have rz4 := X4.out.res.ltD; obtain ⟨c4_5, f4_5⟩ := X4.out.cf 5 (by simp); have XF := X4.out.set S.out 5 (.string s4) (by simp); simp only [List.set_cons_succ, List.set_cons_zero] at XF; have XF := Lib.hid XF; obtain ⟨e1, e2⟩ := endsCmd XF.out rfl rfl (by simp [Value.oneCell']); clear d))))
  · exact ⟨rfl, K2.out, by rw [show cmdP (b_owner :: a :: WW) = none by simp only [cmdP_cons, body_owner, N2.out, Option.bind_some, Option.bind_none]]; rfl⟩
  · exact ⟨rfl, K3.out, by rw [show cmdP (b_owner :: a :: WW) = none by simp only [cmdP_cons, body_owner, N2.out, N3.out, Option.bind_some, Option.bind_none]]; rfl⟩
  · exact ⟨rfl, K4.out, by rw [show cmdP (b_owner :: a :: WW) = none by simp only [cmdP_cons, body_owner, N2.out, N3.out, N4.out, Option.bind_some, Option.bind_none]]; rfl⟩
  · obtain ⟨rf, kwf, wdf, kbf⟩ := XF.out.fin S.out rfl
    refine bodyPost_ret (results_cell rfl _ rfl (lv_row (T := 31) Tryz.underlying31 (by kernel_rfl) rf rfl)) rfl ?_
    have S := S.out
    have sb := S.fb
    have sr := S.fr
    have sx := S.fx
    refine ⟨kwf, ?_⟩
    rw [show cmdP (b_owner :: a :: WW) = some ({ zCmd with actor := s2, kind := 9, schema := s3, table := t3, role := s4 }, W4) by simp only [cmdP_cons, body_owner, N2.out, N3.out, N4.out, Option.bind_some]]
    exact ⟨_, rfl, ⟨_, _, _, _, rfl, cols_nil b _ _ sb, names_nil b _ _ sb, ⟨.inr g2, .inr g3, .inr u3, .inl rfl, .inr g4, .inl rfl, .inl rfl, .inl rfl, .inl rfl⟩⟩, wdf⟩

set_option maxHeartbeats 8000000 in
theorem command_role (b p : Nat) (a : ByteArray) (WW : Ws) (w : World) (h : WdS w b p (b_role :: a :: WW)) : Calls Tryz.prog 29 #[.pointer (some ⟨b, 0, none⟩)] w (RdQ b p w (CmdV b w.heap.size) (cmdP (b_role :: a :: WW))) := by
  have HN := Lib.hid (fun w1 W (h : WdS w1 b p W) => name_rd b p W w1 h)
  have HW0 := Lib.hid (show Calls Tryz.prog 27 #[.pointer (some ⟨b, 0, none⟩)] (w.alloc (.cells #[.int .i64 0, .string ⟨#[]⟩, .string ⟨#[]⟩, .string ⟨#[]⟩, .string ⟨#[]⟩, .string ⟨#[]⟩, .slice none 0 0, .string ⟨#[]⟩, .int .i64 0, .slice none 0 0, .int .i64 0, .int .i64 0, .string ⟨#[]⟩, .string ⟨#[]⟩, .string ⟨#[]⟩, .int .i64 0, .bool false] 31)) fun e w' => e = .returned (.string ⟨#[114, 111, 108, 101]⟩) ∧ WdS w' b p (a :: WW) ∧ Kw b (w.alloc (.cells #[.int .i64 0, .string ⟨#[]⟩, .string ⟨#[]⟩, .string ⟨#[]⟩, .string ⟨#[]⟩, .string ⟨#[]⟩, .slice none 0 0, .string ⟨#[]⟩, .int .i64 0, .slice none 0 0, .int .i64 0, .int .i64 0, .string ⟨#[]⟩, .string ⟨#[]⟩, .string ⟨#[]⟩, .int .i64 0, .bool false] 31)) w' from word_yes b p b_role (a :: WW) _ (h.aft ((Aft.refl w).alloc _)))
  have hb := h.lt
  have HPL := Lib.hid h.plt
  have HLO := Lib.hid h.low
  clear h
  go_enter Tryz.func29, Tryz.ntmps29
  go_wp2_with (first
    | (go_at_call 27; with_reducible refine HW0.out.mono ?_; rintro e w1 ⟨rfl, d, k⟩; have ST := bx_start (t2 := 31) (zs := [.int .i64 0, .string ⟨#[]⟩, .string ⟨#[]⟩, .string ⟨#[]⟩, .string ⟨#[]⟩, .string ⟨#[]⟩, .slice none 0 0, .string ⟨#[]⟩, .int .i64 0, .slice none 0 0, .int .i64 0, .int .i64 0, .string ⟨#[]⟩, .string ⟨#[]⟩, .string ⟨#[]⟩, .int .i64 0, .bool false]) hb HPL.out HLO.out k d [.int .i64 0, .string ⟨#[]⟩, .string ⟨#[]⟩, .string ⟨#[]⟩, .string ⟨#[]⟩, .string ⟨#[]⟩, .slice none 0 0, .string ⟨#[]⟩, .int .i64 0, .slice none 0 0, .int .i64 0, .int .i64 0, .string ⟨#[]⟩, .string ⟨#[]⟩, .string ⟨#[]⟩, .int .i64 0, .bool false]; have S := Lib.hid ST.1; have X1 := Lib.hid ST.2; clear d k ST)
    | (go_at_call 19; with_reducible refine (more_yes b p a WW _ X1.out.ds).mono ?_; rintro e w' ⟨rfl, rfl⟩)
    | (go_at_call 48; with_reducible refine (HN.out _ _ X1.out.ds).mono ?_; rintro e w2 q; rcases name_cases q with ⟨n, rfl, k⟩ | ⟨s2, W2, n, rfl, g2, d, k⟩; all_goals (have N2 := Lib.hid n; have K2 := Lib.hid (X1.out.kw.trans k); clear n q; try (have X2 := Lib.hid (X1.out.call S.out k d); have xz2 := X2.out.row.ltD; have rz2 := X2.out.res.ltD; obtain ⟨c2_1, f2_1⟩ := X2.out.cf 1 (by simp); have X2s := Lib.hid (X2.out.set S.out 1 (.string s2) (by simp)); clear d)))
    | (go_at_call 48; with_reducible refine (HN.out _ _ X2s.out.ds).mono ?_; rintro e w3 q; rcases name_cases q with ⟨n, rfl, k⟩ | ⟨s3, W3, n, rfl, g3, d, k⟩; all_goals (have N3 := Lib.hid n; have K3 := Lib.hid (X2s.out.kw.trans k); clear n q; try (have X3 := Lib.hid (X2s.out.call S.out k d); have xz3 := X3.out.row.ltD; have rz3 := X3.out.res.ltD; obtain ⟨c3_0, f3_0⟩ := X3.out.cf 0 (by simp); obtain ⟨c3_5, f3_5⟩ := X3.out.cf 5 (by simp); have XF := (X3.out.set S.out 0 (.int .i64 10) (by simp)).set S.out 5 (.string s3) (by simp); simp only [List.set_cons_succ, List.set_cons_zero] at XF; have XF := Lib.hid XF; obtain ⟨e1, e2⟩ := endsCmd XF.out rfl rfl (by simp [Value.oneCell']); clear d))))
  · exact ⟨rfl, K2.out, by rw [show cmdP (b_role :: a :: WW) = none by simp only [cmdP_cons, body_role, N2.out, Option.bind_some, Option.bind_none]]; rfl⟩
  · exact ⟨rfl, K3.out, by rw [show cmdP (b_role :: a :: WW) = none by simp only [cmdP_cons, body_role, N2.out, N3.out, Option.bind_some, Option.bind_none]]; rfl⟩
  · obtain ⟨rf, kwf, wdf, kbf⟩ := XF.out.fin S.out rfl
    refine bodyPost_ret (results_cell rfl _ rfl (lv_row (T := 31) Tryz.underlying31 (by kernel_rfl) rf rfl)) rfl ?_
    have S := S.out
    have sb := S.fb
    have sr := S.fr
    have sx := S.fx
    refine ⟨kwf, ?_⟩
    rw [show cmdP (b_role :: a :: WW) = some ({ zCmd with actor := s2, kind := 10, role := s3 }, W3) by simp only [cmdP_cons, body_role, N2.out, N3.out, Option.bind_some]]
    exact ⟨_, rfl, ⟨_, _, _, _, rfl, cols_nil b _ _ sb, names_nil b _ _ sb, ⟨.inr g2, .inl rfl, .inl rfl, .inl rfl, .inr g3, .inl rfl, .inl rfl, .inl rfl, .inl rfl⟩⟩, wdf⟩

set_option maxHeartbeats 8000000 in
theorem command_droprole (b p : Nat) (a : ByteArray) (WW : Ws) (w : World) (h : WdS w b p (b_droprole :: a :: WW)) : Calls Tryz.prog 29 #[.pointer (some ⟨b, 0, none⟩)] w (RdQ b p w (CmdV b w.heap.size) (cmdP (b_droprole :: a :: WW))) := by
  have HN := Lib.hid (fun w1 W (h : WdS w1 b p W) => name_rd b p W w1 h)
  have HW0 := Lib.hid (show Calls Tryz.prog 27 #[.pointer (some ⟨b, 0, none⟩)] (w.alloc (.cells #[.int .i64 0, .string ⟨#[]⟩, .string ⟨#[]⟩, .string ⟨#[]⟩, .string ⟨#[]⟩, .string ⟨#[]⟩, .slice none 0 0, .string ⟨#[]⟩, .int .i64 0, .slice none 0 0, .int .i64 0, .int .i64 0, .string ⟨#[]⟩, .string ⟨#[]⟩, .string ⟨#[]⟩, .int .i64 0, .bool false] 31)) fun e w' => e = .returned (.string ⟨#[100, 114, 111, 112, 114, 111, 108, 101]⟩) ∧ WdS w' b p (a :: WW) ∧ Kw b (w.alloc (.cells #[.int .i64 0, .string ⟨#[]⟩, .string ⟨#[]⟩, .string ⟨#[]⟩, .string ⟨#[]⟩, .string ⟨#[]⟩, .slice none 0 0, .string ⟨#[]⟩, .int .i64 0, .slice none 0 0, .int .i64 0, .int .i64 0, .string ⟨#[]⟩, .string ⟨#[]⟩, .string ⟨#[]⟩, .int .i64 0, .bool false] 31)) w' from word_yes b p b_droprole (a :: WW) _ (h.aft ((Aft.refl w).alloc _)))
  have hb := h.lt
  have HPL := Lib.hid h.plt
  have HLO := Lib.hid h.low
  clear h
  go_enter Tryz.func29, Tryz.ntmps29
  go_wp2_with (first
    | (go_at_call 27; with_reducible refine HW0.out.mono ?_; rintro e w1 ⟨rfl, d, k⟩; have ST := bx_start (t2 := 31) (zs := [.int .i64 0, .string ⟨#[]⟩, .string ⟨#[]⟩, .string ⟨#[]⟩, .string ⟨#[]⟩, .string ⟨#[]⟩, .slice none 0 0, .string ⟨#[]⟩, .int .i64 0, .slice none 0 0, .int .i64 0, .int .i64 0, .string ⟨#[]⟩, .string ⟨#[]⟩, .string ⟨#[]⟩, .int .i64 0, .bool false]) hb HPL.out HLO.out k d [.int .i64 0, .string ⟨#[]⟩, .string ⟨#[]⟩, .string ⟨#[]⟩, .string ⟨#[]⟩, .string ⟨#[]⟩, .slice none 0 0, .string ⟨#[]⟩, .int .i64 0, .slice none 0 0, .int .i64 0, .int .i64 0, .string ⟨#[]⟩, .string ⟨#[]⟩, .string ⟨#[]⟩, .int .i64 0, .bool false]; have S := Lib.hid ST.1; have X1 := Lib.hid ST.2; clear d k ST)
    | (go_at_call 19; with_reducible refine (more_yes b p a WW _ X1.out.ds).mono ?_; rintro e w' ⟨rfl, rfl⟩)
    | (go_at_call 48; with_reducible refine (HN.out _ _ X1.out.ds).mono ?_; rintro e w2 q; rcases name_cases q with ⟨n, rfl, k⟩ | ⟨s2, W2, n, rfl, g2, d, k⟩; all_goals (have N2 := Lib.hid n; have K2 := Lib.hid (X1.out.kw.trans k); clear n q; try (have X2 := Lib.hid (X1.out.call S.out k d); have xz2 := X2.out.row.ltD; have rz2 := X2.out.res.ltD; obtain ⟨c2_1, f2_1⟩ := X2.out.cf 1 (by simp); have X2s := Lib.hid (X2.out.set S.out 1 (.string s2) (by simp)); clear d)))
    | (go_at_call 48; with_reducible refine (HN.out _ _ X2s.out.ds).mono ?_; rintro e w3 q; rcases name_cases q with ⟨n, rfl, k⟩ | ⟨s3, W3, n, rfl, g3, d, k⟩; all_goals (have N3 := Lib.hid n; have K3 := Lib.hid (X2s.out.kw.trans k); clear n q; try (have X3 := Lib.hid (X2s.out.call S.out k d); have xz3 := X3.out.row.ltD; have rz3 := X3.out.res.ltD; obtain ⟨c3_0, f3_0⟩ := X3.out.cf 0 (by simp); obtain ⟨c3_5, f3_5⟩ := X3.out.cf 5 (by simp); have XF := (X3.out.set S.out 0 (.int .i64 11) (by simp)).set S.out 5 (.string s3) (by simp); simp only [List.set_cons_succ, List.set_cons_zero] at XF; have XF := Lib.hid XF; obtain ⟨e1, e2⟩ := endsCmd XF.out rfl rfl (by simp [Value.oneCell']); clear d))))
  · exact ⟨rfl, K2.out, by rw [show cmdP (b_droprole :: a :: WW) = none by simp only [cmdP_cons, body_droprole, N2.out, Option.bind_some, Option.bind_none]]; rfl⟩
  · exact ⟨rfl, K3.out, by rw [show cmdP (b_droprole :: a :: WW) = none by simp only [cmdP_cons, body_droprole, N2.out, N3.out, Option.bind_some, Option.bind_none]]; rfl⟩
  · obtain ⟨rf, kwf, wdf, kbf⟩ := XF.out.fin S.out rfl
    refine bodyPost_ret (results_cell rfl _ rfl (lv_row (T := 31) Tryz.underlying31 (by kernel_rfl) rf rfl)) rfl ?_
    have S := S.out
    have sb := S.fb
    have sr := S.fr
    have sx := S.fx
    refine ⟨kwf, ?_⟩
    rw [show cmdP (b_droprole :: a :: WW) = some ({ zCmd with actor := s2, kind := 11, role := s3 }, W3) by simp only [cmdP_cons, body_droprole, N2.out, N3.out, Option.bind_some]]
    exact ⟨_, rfl, ⟨_, _, _, _, rfl, cols_nil b _ _ sb, names_nil b _ _ sb, ⟨.inr g2, .inl rfl, .inl rfl, .inl rfl, .inr g3, .inl rfl, .inl rfl, .inl rfl, .inl rfl⟩⟩, wdf⟩

set_option maxHeartbeats 8000000 in
theorem command_member (b p : Nat) (a : ByteArray) (WW : Ws) (w : World) (h : WdS w b p (b_member :: a :: WW)) : Calls Tryz.prog 29 #[.pointer (some ⟨b, 0, none⟩)] w (RdQ b p w (CmdV b w.heap.size) (cmdP (b_member :: a :: WW))) := by
  have HN := Lib.hid (fun w1 W (h : WdS w1 b p W) => name_rd b p W w1 h)
  have HW0 := Lib.hid (show Calls Tryz.prog 27 #[.pointer (some ⟨b, 0, none⟩)] (w.alloc (.cells #[.int .i64 0, .string ⟨#[]⟩, .string ⟨#[]⟩, .string ⟨#[]⟩, .string ⟨#[]⟩, .string ⟨#[]⟩, .slice none 0 0, .string ⟨#[]⟩, .int .i64 0, .slice none 0 0, .int .i64 0, .int .i64 0, .string ⟨#[]⟩, .string ⟨#[]⟩, .string ⟨#[]⟩, .int .i64 0, .bool false] 31)) fun e w' => e = .returned (.string ⟨#[109, 101, 109, 98, 101, 114]⟩) ∧ WdS w' b p (a :: WW) ∧ Kw b (w.alloc (.cells #[.int .i64 0, .string ⟨#[]⟩, .string ⟨#[]⟩, .string ⟨#[]⟩, .string ⟨#[]⟩, .string ⟨#[]⟩, .slice none 0 0, .string ⟨#[]⟩, .int .i64 0, .slice none 0 0, .int .i64 0, .int .i64 0, .string ⟨#[]⟩, .string ⟨#[]⟩, .string ⟨#[]⟩, .int .i64 0, .bool false] 31)) w' from word_yes b p b_member (a :: WW) _ (h.aft ((Aft.refl w).alloc _)))
  have hb := h.lt
  have HPL := Lib.hid h.plt
  have HLO := Lib.hid h.low
  clear h
  go_enter Tryz.func29, Tryz.ntmps29
  go_wp2_with (first
    | (go_at_call 27; with_reducible refine HW0.out.mono ?_; rintro e w1 ⟨rfl, d, k⟩; have ST := bx_start (t2 := 31) (zs := [.int .i64 0, .string ⟨#[]⟩, .string ⟨#[]⟩, .string ⟨#[]⟩, .string ⟨#[]⟩, .string ⟨#[]⟩, .slice none 0 0, .string ⟨#[]⟩, .int .i64 0, .slice none 0 0, .int .i64 0, .int .i64 0, .string ⟨#[]⟩, .string ⟨#[]⟩, .string ⟨#[]⟩, .int .i64 0, .bool false]) hb HPL.out HLO.out k d [.int .i64 0, .string ⟨#[]⟩, .string ⟨#[]⟩, .string ⟨#[]⟩, .string ⟨#[]⟩, .string ⟨#[]⟩, .slice none 0 0, .string ⟨#[]⟩, .int .i64 0, .slice none 0 0, .int .i64 0, .int .i64 0, .string ⟨#[]⟩, .string ⟨#[]⟩, .string ⟨#[]⟩, .int .i64 0, .bool false]; have S := Lib.hid ST.1; have X1 := Lib.hid ST.2; clear d k ST)
    | (go_at_call 19; with_reducible refine (more_yes b p a WW _ X1.out.ds).mono ?_; rintro e w' ⟨rfl, rfl⟩)
    | (go_at_call 48; with_reducible refine (HN.out _ _ X1.out.ds).mono ?_; rintro e w2 q; rcases name_cases q with ⟨n, rfl, k⟩ | ⟨s2, W2, n, rfl, g2, d, k⟩; all_goals (have N2 := Lib.hid n; have K2 := Lib.hid (X1.out.kw.trans k); clear n q; try (have X2 := Lib.hid (X1.out.call S.out k d); have xz2 := X2.out.row.ltD; have rz2 := X2.out.res.ltD; obtain ⟨c2_1, f2_1⟩ := X2.out.cf 1 (by simp); have X2s := Lib.hid (X2.out.set S.out 1 (.string s2) (by simp)); clear d)))
    | (go_at_call 48; with_reducible refine (HN.out _ _ X2s.out.ds).mono ?_; rintro e w3 q; rcases name_cases q with ⟨n, rfl, k⟩ | ⟨s3, W3, n, rfl, g3, d, k⟩; all_goals (have N3 := Lib.hid n; have K3 := Lib.hid (X2s.out.kw.trans k); clear n q; try (have X3 := Lib.hid (X2s.out.call S.out k d); have xz3 := X3.out.row.ltD; have rz3 := X3.out.res.ltD; clear d)))
    | (go_at_call 48; with_reducible refine (HN.out _ _ X3.out.ds).mono ?_; rintro e w4 q; rcases name_cases q with ⟨n, rfl, k⟩ | ⟨s4, W4, n, rfl, g4, d, k⟩; all_goals (have N4 := Lib.hid n; have K4 := Lib.hid (X3.out.kw.trans k); clear n q; try (have X4 := Lib.hid (X3.out.call S.out k d); have xz4 := X4.out.row.ltD; have rz4 := X4.out.res.ltD; obtain ⟨c4_0, f4_0⟩ := X4.out.cf 0 (by simp); obtain ⟨c4_5, f4_5⟩ := X4.out.cf 5 (by simp); obtain ⟨c4_4, f4_4⟩ := X4.out.cf 4 (by simp); have XF := ((X4.out.set S.out 0 (.int .i64 12) (by simp)).set S.out 5 (.string s3) (by simp)).set S.out 4 (.string s4) (by simp); simp only [List.set_cons_succ, List.set_cons_zero] at XF; have XF := Lib.hid XF; obtain ⟨e1, e2⟩ := endsCmd XF.out rfl rfl (by simp [Value.oneCell']); clear d))))
  · exact ⟨rfl, K2.out, by rw [show cmdP (b_member :: a :: WW) = none by simp only [cmdP_cons, body_member, N2.out, Option.bind_some, Option.bind_none]]; rfl⟩
  · exact ⟨rfl, K3.out, by rw [show cmdP (b_member :: a :: WW) = none by simp only [cmdP_cons, body_member, N2.out, N3.out, Option.bind_some, Option.bind_none]]; rfl⟩
  · exact ⟨rfl, K4.out, by rw [show cmdP (b_member :: a :: WW) = none by simp only [cmdP_cons, body_member, N2.out, N3.out, N4.out, Option.bind_some, Option.bind_none]]; rfl⟩
  · obtain ⟨rf, kwf, wdf, kbf⟩ := XF.out.fin S.out rfl
    refine bodyPost_ret (results_cell rfl _ rfl (lv_row (T := 31) Tryz.underlying31 (by kernel_rfl) rf rfl)) rfl ?_
    have S := S.out
    have sb := S.fb
    have sr := S.fr
    have sx := S.fx
    refine ⟨kwf, ?_⟩
    rw [show cmdP (b_member :: a :: WW) = some ({ zCmd with actor := s2, kind := 12, role := s3, name := s4 }, W4) by simp only [cmdP_cons, body_member, N2.out, N3.out, N4.out, Option.bind_some]]
    exact ⟨_, rfl, ⟨_, _, _, _, rfl, cols_nil b _ _ sb, names_nil b _ _ sb, ⟨.inr g2, .inl rfl, .inl rfl, .inr g4, .inr g3, .inl rfl, .inl rfl, .inl rfl, .inl rfl⟩⟩, wdf⟩

set_option maxHeartbeats 8000000 in
theorem command_unmember (b p : Nat) (a : ByteArray) (WW : Ws) (w : World) (h : WdS w b p (b_unmember :: a :: WW)) : Calls Tryz.prog 29 #[.pointer (some ⟨b, 0, none⟩)] w (RdQ b p w (CmdV b w.heap.size) (cmdP (b_unmember :: a :: WW))) := by
  have HN := Lib.hid (fun w1 W (h : WdS w1 b p W) => name_rd b p W w1 h)
  have HW0 := Lib.hid (show Calls Tryz.prog 27 #[.pointer (some ⟨b, 0, none⟩)] (w.alloc (.cells #[.int .i64 0, .string ⟨#[]⟩, .string ⟨#[]⟩, .string ⟨#[]⟩, .string ⟨#[]⟩, .string ⟨#[]⟩, .slice none 0 0, .string ⟨#[]⟩, .int .i64 0, .slice none 0 0, .int .i64 0, .int .i64 0, .string ⟨#[]⟩, .string ⟨#[]⟩, .string ⟨#[]⟩, .int .i64 0, .bool false] 31)) fun e w' => e = .returned (.string ⟨#[117, 110, 109, 101, 109, 98, 101, 114]⟩) ∧ WdS w' b p (a :: WW) ∧ Kw b (w.alloc (.cells #[.int .i64 0, .string ⟨#[]⟩, .string ⟨#[]⟩, .string ⟨#[]⟩, .string ⟨#[]⟩, .string ⟨#[]⟩, .slice none 0 0, .string ⟨#[]⟩, .int .i64 0, .slice none 0 0, .int .i64 0, .int .i64 0, .string ⟨#[]⟩, .string ⟨#[]⟩, .string ⟨#[]⟩, .int .i64 0, .bool false] 31)) w' from word_yes b p b_unmember (a :: WW) _ (h.aft ((Aft.refl w).alloc _)))
  have hb := h.lt
  have HPL := Lib.hid h.plt
  have HLO := Lib.hid h.low
  clear h
  go_enter Tryz.func29, Tryz.ntmps29
  go_wp2_with (first
    | (go_at_call 27; with_reducible refine HW0.out.mono ?_; rintro e w1 ⟨rfl, d, k⟩; have ST := bx_start (t2 := 31) (zs := [.int .i64 0, .string ⟨#[]⟩, .string ⟨#[]⟩, .string ⟨#[]⟩, .string ⟨#[]⟩, .string ⟨#[]⟩, .slice none 0 0, .string ⟨#[]⟩, .int .i64 0, .slice none 0 0, .int .i64 0, .int .i64 0, .string ⟨#[]⟩, .string ⟨#[]⟩, .string ⟨#[]⟩, .int .i64 0, .bool false]) hb HPL.out HLO.out k d [.int .i64 0, .string ⟨#[]⟩, .string ⟨#[]⟩, .string ⟨#[]⟩, .string ⟨#[]⟩, .string ⟨#[]⟩, .slice none 0 0, .string ⟨#[]⟩, .int .i64 0, .slice none 0 0, .int .i64 0, .int .i64 0, .string ⟨#[]⟩, .string ⟨#[]⟩, .string ⟨#[]⟩, .int .i64 0, .bool false]; have S := Lib.hid ST.1; have X1 := Lib.hid ST.2; clear d k ST)
    | (go_at_call 19; with_reducible refine (more_yes b p a WW _ X1.out.ds).mono ?_; rintro e w' ⟨rfl, rfl⟩)
    | (go_at_call 48; with_reducible refine (HN.out _ _ X1.out.ds).mono ?_; rintro e w2 q; rcases name_cases q with ⟨n, rfl, k⟩ | ⟨s2, W2, n, rfl, g2, d, k⟩; all_goals (have N2 := Lib.hid n; have K2 := Lib.hid (X1.out.kw.trans k); clear n q; try (have X2 := Lib.hid (X1.out.call S.out k d); have xz2 := X2.out.row.ltD; have rz2 := X2.out.res.ltD; obtain ⟨c2_1, f2_1⟩ := X2.out.cf 1 (by simp); have X2s := Lib.hid (X2.out.set S.out 1 (.string s2) (by simp)); clear d)))
    | (go_at_call 48; with_reducible refine (HN.out _ _ X2s.out.ds).mono ?_; rintro e w3 q; rcases name_cases q with ⟨n, rfl, k⟩ | ⟨s3, W3, n, rfl, g3, d, k⟩; all_goals (have N3 := Lib.hid n; have K3 := Lib.hid (X2s.out.kw.trans k); clear n q; try (have X3 := Lib.hid (X2s.out.call S.out k d); have xz3 := X3.out.row.ltD; have rz3 := X3.out.res.ltD; clear d)))
    | (go_at_call 48; with_reducible refine (HN.out _ _ X3.out.ds).mono ?_; rintro e w4 q; rcases name_cases q with ⟨n, rfl, k⟩ | ⟨s4, W4, n, rfl, g4, d, k⟩; all_goals (have N4 := Lib.hid n; have K4 := Lib.hid (X3.out.kw.trans k); clear n q; try (have X4 := Lib.hid (X3.out.call S.out k d); have xz4 := X4.out.row.ltD; have rz4 := X4.out.res.ltD; obtain ⟨c4_0, f4_0⟩ := X4.out.cf 0 (by simp); obtain ⟨c4_5, f4_5⟩ := X4.out.cf 5 (by simp); obtain ⟨c4_4, f4_4⟩ := X4.out.cf 4 (by simp); have XF := ((X4.out.set S.out 0 (.int .i64 13) (by simp)).set S.out 5 (.string s3) (by simp)).set S.out 4 (.string s4) (by simp); simp only [List.set_cons_succ, List.set_cons_zero] at XF; have XF := Lib.hid XF; obtain ⟨e1, e2⟩ := endsCmd XF.out rfl rfl (by simp [Value.oneCell']); clear d))))
  · exact ⟨rfl, K2.out, by rw [show cmdP (b_unmember :: a :: WW) = none by simp only [cmdP_cons, body_unmember, N2.out, Option.bind_some, Option.bind_none]]; rfl⟩
  · exact ⟨rfl, K3.out, by rw [show cmdP (b_unmember :: a :: WW) = none by simp only [cmdP_cons, body_unmember, N2.out, N3.out, Option.bind_some, Option.bind_none]]; rfl⟩
  · exact ⟨rfl, K4.out, by rw [show cmdP (b_unmember :: a :: WW) = none by simp only [cmdP_cons, body_unmember, N2.out, N3.out, N4.out, Option.bind_some, Option.bind_none]]; rfl⟩
  · obtain ⟨rf, kwf, wdf, kbf⟩ := XF.out.fin S.out rfl
    refine bodyPost_ret (results_cell rfl _ rfl (lv_row (T := 31) Tryz.underlying31 (by kernel_rfl) rf rfl)) rfl ?_
    have S := S.out
    have sb := S.fb
    have sr := S.fr
    have sx := S.fx
    refine ⟨kwf, ?_⟩
    rw [show cmdP (b_unmember :: a :: WW) = some ({ zCmd with actor := s2, kind := 13, role := s3, name := s4 }, W4) by simp only [cmdP_cons, body_unmember, N2.out, N3.out, N4.out, Option.bind_some]]
    exact ⟨_, rfl, ⟨_, _, _, _, rfl, cols_nil b _ _ sb, names_nil b _ _ sb, ⟨.inr g2, .inl rfl, .inl rfl, .inr g4, .inr g3, .inl rfl, .inl rfl, .inl rfl, .inl rfl⟩⟩, wdf⟩

end Go.Proofs.YtbdanlipghhgpaaGreatDoor

