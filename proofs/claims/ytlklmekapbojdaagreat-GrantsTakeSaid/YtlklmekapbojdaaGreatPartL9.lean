/- Contracts of the program, part 9. -/
import Derived.Deep.AppendLies
import Derived.Deep.DeepMust
import Derived.OwnWalk
import Derived.Laws.AppendOwn
import Derived.ProofKit
import Derived.OpenShut
import Derived.Deep.Slices
import Derived.ChangeOld
import Derived.SizedLaws
import Derived.WalkKit
import Derived.WalkSpells
import Derived.WalkLawsBesides
import Derived.Lib.Hide
import Derived.Deep.QuietTactic
import Derived.BigQuiet
import Derived.Below
import Derived.Deep.Draws
import Derived.StillTailTactics
import Derived.Laws.Cells
import Derived.Laws.IdiomCopy
import Derived.Test.YtlklmekapbojdaaGreatRows
import Derived.Lib.Walk
import Derived.Laws.EntriesVeiled
import Derived.Maps.Own
import Derived.Maps.Views
import Derived.Deep.Upon
import Derived.OneCell
import Derived.OrdersHeld
import Derived.Deep.RegionHeld3
import Derived.IntWalk
import Derived.Lib.Bytealg
import Derived.Lib.SliceRun
import Derived.Deep.RegionLaw
import Derived.Lib.AppendZerosOnto
import Derived.Lib.Overlaps
import Derived.Shelf.SlSortCmp.WholeK
import Derived.DeepKeys3
import Derived.ChangeKeys
import Derived.WideKeyEntry
import Derived.Laws.StructEq
import Derived.Test.YtlklmekapbojdaaGreatPartL1
import Derived.Test.YtlklmekapbojdaaGreatPartL2
import Derived.Test.YtlklmekapbojdaaGreatPartL3
import Derived.Test.YtlklmekapbojdaaGreatPartL4
import Derived.Test.YtlklmekapbojdaaGreatPartL5
import Derived.Test.YtlklmekapbojdaaGreatPartL6
import Derived.Test.YtlklmekapbojdaaGreatPartL7
import Derived.Test.YtlklmekapbojdaaGreatPartL8
namespace Go.Proofs.YtlklmekapbojdaaGreat
open Go.RowKit
set_option linter.unusedVariables false
/-- a grant is laid among others -/
def laid (l : List Gra) (g : Gra) : List Gra := if inG l g then l.map (fun y => if fiveE y g then { y with opt := y.opt || g.opt } else y) else insAt l (posB cmpG l g) g
noncomputable def mayR (c : Cat) (role s n : ByteArray) (r : Int) : Bool := wholeB c && (decide (0 ≤ tabAt c.objs.tables s n) && inB c.rols.names role) && kindB r && (bossB c.objs (allL c.rols role) (tabF c.objs s n) || givesB c.grants (allL c.rols role) s n r false)
theorem rises_pairG {l : List Gra} : risesB cmpG l = true ↔ l.Pairwise fun a b => cmpG a b < 0 := by
  constructor
  · exact fun h => List.pairwise_iff_getElem.2 fun i j hi hj hij => rises_lt ordG.lt h i j hi hj hij
  · exact fun h => (risesB_iff _ _).2 fun k hk => List.pairwise_iff_getElem.1 h k (k + 1) (by omega) hk (by omega)
theorem stands_iff {c : Cat} : standsB c = true ↔ c.grants.length ≤ 64 ∧ (checkO c.objs = true ∧ rightR c.rols = true ∧ inB c.rols.names bRoot = true ∧ ownersB c = true) ∧ (∀ g ∈ c.grants, graOk c g = true) ∧ risesB cmpG c.grants = true := by
  unfold standsB
  simp only [Bool.and_eq_true, decide_eq_true_eq, List.all_eq_true]
  exact ⟨fun h => ⟨h.1.1.1.1.1, ⟨h.1.1.1.1.2, h.1.1.1.2, h.1.1.2, h.1.2⟩, h.2⟩, fun h => ⟨⟨⟨⟨⟨h.1, h.2.1.1⟩, h.2.1.2.1⟩, h.2.1.2.2.1⟩, h.2.1.2.2.2⟩, h.2.2⟩⟩
theorem whole_iff {c : Cat} : wholeB c = true ↔ standsB c = true ∧ ∀ g ∈ c.grants, Held c g := by
  unfold wholeB
  rw [Bool.and_eq_true, beq_iff_eq]
  constructor
  · rintro ⟨h1, h2⟩
    refine ⟨h1, fun g hg => ?_⟩
    unfold holdL at h2
    rw [if_pos h1, List.length_filter_eq_length_iff] at h2
    exact heldB_iff.1 (h2 g hg)
  · rintro ⟨h1, h2⟩
    refine ⟨h1, ?_⟩
    unfold holdL
    rw [if_pos h1, List.length_filter_eq_length_iff]
    exact fun g hg => heldB_iff.2 (h2 g hg)
theorem held_map {c c' : Cat} (ho : c'.objs = c.objs) (hr : c'.rols = c.rols) (f : Gra → Gra) (hf : ∀ x ∈ c.grants, f x ∈ c'.grants ∧ fkey (f x) = fkey x ∧ (x.opt = true → (f x).opt = true)) : ∀ g, Held c g → Held c' (f g) := by
  intro g hg
  induction hg with
  | mk g l hg hl hj ih =>
    obtain ⟨h1, h2, h3⟩ := hf g hg
    refine .mk (f g) (l.map f) h1 (fun x hx => ?_) ?_
    · obtain ⟨y, hy, rfl⟩ := List.mem_map.1 hx
      exact ih y hy
    · unfold fkey at h2
      simp only [Prod.mk.injEq] at h2
      obtain ⟨e1, e2, e3, e4, e5⟩ := h2
      unfold justB at hj ⊢
      rw [ho, hr, e4, e1, e2, e3]
      rw [Bool.or_eq_true] at hj ⊢
      refine hj.imp id fun hj => ?_
      unfold givesB at hj ⊢
      rw [List.any_eq_true] at hj ⊢
      obtain ⟨x, hx, hx2⟩ := hj
      obtain ⟨k1, k2, k3⟩ := hf x (hl x hx).mem
      unfold fkey at k2
      simp only [Prod.mk.injEq] at k2
      obtain ⟨d1, d2, d3, d4, d5⟩ := k2
      refine ⟨f x, List.mem_map.2 ⟨x, hx, rfl⟩, ?_⟩
      rw [d1, d2, d3, d5]
      simp only [Bool.and_eq_true, Bool.not_true, Bool.or_false] at hx2 ⊢
      exact ⟨⟨hx2.1.1, k3 hx2.1.2⟩, hx2.2⟩
theorem cmpG_keys {a b x y : Gra} (h1 : fkey a = fkey x) (h2 : fkey b = fkey y) : cmpG a b = cmpG x y := by
  unfold fkey at h1 h2
  simp only [Prod.mk.injEq] at h1 h2
  obtain ⟨a1, a2, a3, a4, a5⟩ := h1
  obtain ⟨b1, b2, b3, b4, b5⟩ := h2
  unfold cmpG
  rw [a1, a2, a3, a4, a5, b1, b2, b3, b4, b5]
theorem graOk_key {c c' : Cat} (ho : c'.objs = c.objs) (hr : c'.rols = c.rols) {a b : Gra} (h : fkey a = fkey b) : graOk c' a = graOk c b := by
  unfold fkey at h
  simp only [Prod.mk.injEq] at h
  obtain ⟨a1, a2, a3, a4, a5⟩ := h
  unfold graOk
  rw [ho, hr, a1, a2, a3, a4, a5]
/-- the change that laying makes of the grants that were there -/
def layF (g y : Gra) : Gra := if fiveE y g then { y with opt := y.opt || g.opt } else y
theorem layF_key (g y : Gra) : fkey (layF g y) = fkey y := by unfold layF; split <;> rfl
theorem layF_opt (g y : Gra) (h : y.opt = true) : (layF g y).opt = true := by unfold layF; split <;> simp [h]
theorem inG_false {l : List Gra} {g : Gra} (h : inG l g = false) : ∀ y ∈ l, fiveE y g = false := by
  unfold inG at h
  rw [List.any_eq_false] at h
  exact fun y hy => by simpa using h y hy
theorem laid_new {l : List Gra} {g : Gra} (h : inG l g = false) : laid l g = insAt l (posB cmpG l g) g := by unfold laid; rw [h]; rfl
theorem laid_old {l : List Gra} {g : Gra} (h : inG l g = true) : laid l g = l.map (layF g) := by unfold laid; rw [h]; rfl
theorem laid_was (l : List Gra) (g x : Gra) (hx : x ∈ l) : layF g x ∈ laid l g := by
  cases h : inG l g
  · rw [laid_new h]
    have : layF g x = x := by unfold layF; rw [inG_false h x hx]; rfl
    rw [this]
    exact mem_insAt.2 (.inr hx)
  · rw [laid_old h]; exact List.mem_map.2 ⟨x, hx, rfl⟩
theorem laid_mem {l : List Gra} {g x : Gra} (h : x ∈ laid l g) : fkey x = fkey g ∨ ∃ y ∈ l, x = layF g y := by
  cases hi : inG l g
  · rw [laid_new hi] at h
    rcases mem_insAt.1 h with e | e
    · exact .inl (by rw [e])
    · exact .inr ⟨x, e, by unfold layF; rw [inG_false hi x e]; rfl⟩
  · rw [laid_old hi] at h
    obtain ⟨y, hy, e⟩ := List.mem_map.1 h
    exact .inr ⟨y, hy, e.symm⟩
theorem laid_rises {l : List Gra} {g : Gra} (hr : risesB cmpG l = true) : risesB cmpG (laid l g) = true := by
  cases hi : inG l g
  · rw [laid_new hi]
    refine rises_ins' ordG.lt ordG.anti hr fun y hy e => ?_
    have := inG_false hi y hy
    rw [(cmpG_zero _ _).1 e] at this; cases this
  · rw [laid_old hi]
    refine rises_pairG.2 (List.pairwise_map.2 ((rises_pairG.1 hr).imp fun {a b} h => ?_))
    rw [cmpG_keys (layF_key g a) (layF_key g b)]; exact h
theorem laid_len {l : List Gra} {g : Gra} (h : l.length ≤ 64) (hn : ¬ (64 ≤ l.length ∧ inG l g = false)) : (laid l g).length ≤ 64 := by
  cases hi : inG l g
  · rw [laid_new hi, insAt_len _ _ _ (posB_le _ _ _)]
    have : ¬ 64 ≤ l.length := fun h => hn ⟨h, hi⟩
    omega
  · rw [laid_old hi]; simpa using h
/-- giving went well -/
structure Gave (c : Cat) (g : Gra) (x : Cat) : Prop where
  whole : wholeB c = true
  ok : graOk c g = true
  just : justB c c.grants g = true
  room : ¬ (64 ≤ c.grants.length ∧ inG c.grants g = false)
  is : x = { c with grants := laid c.grants g }
theorem Gave.wholeX {c : Cat} {g : Gra} {x : Cat} (h : Gave c g x) : wholeB x = true := by
  obtain ⟨h1, h2⟩ := whole_iff.1 h.whole
  obtain ⟨k1, k2, k3, k4⟩ := stands_iff.1 h1
  have hx := h.is
  have ho : x.objs = c.objs := by rw [hx]
  have hr : x.rols = c.rols := by rw [hx]
  have hg : x.grants = laid c.grants g := by rw [hx]
  have hm : ∀ y ∈ c.grants, Held x (layF g y) := fun y hy => held_map ho hr (layF g) (fun z hz => ⟨by rw [hg]; exact laid_was _ _ _ hz, layF_key _ _, layF_opt _ _⟩) y (h2 y hy)
  refine whole_iff.2 ⟨stands_iff.2 ⟨by rw [hg]; exact laid_len k1 h.room, by rw [hx]; exact k2, fun y hy => ?_, by rw [hg]; exact laid_rises k4⟩, fun y hy => ?_⟩
  · rw [hg] at hy
    rcases laid_mem hy with e | ⟨z, hz, e⟩
    · rw [graOk_key ho hr e]; exact h.ok
    · rw [graOk_key ho hr (show fkey y = fkey z by rw [e]; exact layF_key _ _)]; exact k3 z hz
  · rw [hg] at hy
    rcases laid_mem hy with e | ⟨z, hz, e⟩
    · refine .mk y (c.grants.map (layF g)) (by rw [hg]; exact hy) (fun v hv => ?_) ?_
      · obtain ⟨u, hu, rfl⟩ := List.mem_map.1 hv
        exact hm u hu
      · have hj := h.just
        unfold fkey at e
        simp only [Prod.mk.injEq] at e
        obtain ⟨e1, e2, e3, e4, e5⟩ := e
        unfold justB at hj ⊢
        rw [ho, hr, e4, e1, e2, e3]
        rw [Bool.or_eq_true] at hj ⊢
        refine hj.imp id fun hj => ?_
        unfold givesB at hj ⊢
        rw [List.any_eq_true] at hj ⊢
        obtain ⟨u, hu, hu2⟩ := hj
        refine ⟨layF g u, List.mem_map.2 ⟨u, hu, rfl⟩, ?_⟩
        have k := layF_key g u
        unfold fkey at k
        simp only [Prod.mk.injEq] at k
        obtain ⟨d1, d2, d3, d4, d5⟩ := k
        rw [d1, d2, d3, d5]
        simp only [Bool.and_eq_true, Bool.not_true, Bool.or_false] at hu2 ⊢
        exact ⟨⟨hu2.1.1, layF_opt g u hu2.1.2⟩, hu2.2⟩
    · rw [e]; exact hm z hz
theorem ok_parts {c : Cat} {g : Gra} (h : graOk c g = true) : 0 ≤ tabAt c.objs.tables g.schema g.table ∧ kindB g.right = true ∧ eqS g.giver g.to = false ∧ inB c.rols.names g.giver = true ∧ inB c.rols.names g.to = true := by
  unfold graOk at h
  simp only [Bool.and_eq_true, decide_eq_true_eq, Bool.not_eq_true'] at h
  exact ⟨h.1.1.1.1, h.1.1.1.2, h.1.1.2, h.1.2, h.2⟩
/-- what is given takes nothing from anybody -/
theorem Gave.more {c : Cat} {g : Gra} {x : Cat} (h : Gave c g x) {role s n : ByteArray} {r : Int} (hm : mayR c role s n r = true) : mayR x role s n r = true := by
  have ho : x.objs = c.objs := by rw [h.is]
  have hr : x.rols = c.rols := by rw [h.is]
  unfold mayR at hm ⊢
  rw [h.wholeX, ho, hr]
  rw [h.whole] at hm
  simp only [Bool.and_eq_true, Bool.or_eq_true] at hm ⊢
  refine ⟨hm.1, hm.2.imp id fun hg => ?_⟩
  unfold givesB at hg ⊢
  rw [List.any_eq_true] at hg ⊢
  obtain ⟨u, hu, hu2⟩ := hg
  refine ⟨layF g u, by rw [h.is]; exact laid_was _ _ _ hu, ?_⟩
  have k := layF_key g u
  unfold fkey at k
  simp only [Prod.mk.injEq] at k
  obtain ⟨d1, d2, d3, d4, d5⟩ := k
  rw [d1, d2, d3, d5]
  simp only [Bool.and_eq_true, Bool.not_false, Bool.or_true] at hu2 ⊢
  exact hu2
end Go.Proofs.YtlklmekapbojdaaGreat

namespace Go.Proofs.YtlklmekapbojdaaGreat
open Go.RowKit Go.Deep
set_option maxRecDepth 100000
set_option linter.unusedVariables false
section
variable {P : Program} {k : TypeId} {w w' : World} {b n : Nat} {z : Value} {f : List UInt8 → Value}
theorem MapF.lookK {t e : TypeId} (h : MapF P k w b n z f) (K : Maps.Keyed P k) (ht : P.underlying t = some (.map k e)) (hz : (zeroValue e).run P w = .ok z w) (key : Value) (s : List UInt8) (hs : keyOf P k key = some (.string s)) :
    (Instr.lookup t (.map (some b)) key false).run P w = .ok (f s) w := by
  obtain ⟨D, hD, ho, hf⟩ := h
  obtain ⟨v, ps, hrun, hv⟩ := ho.lookup K ht hz (zd := .held z) (zp := []) rfl hs
  rw [hf] at hv
  unfold heldR at hv
  simp only [Option.some.injEq, Prod.mk.injEq, DataW.held.injEq] at hv
  rw [hrun, hv.1]
theorem MapF.putK {t e : TypeId} (h : MapF P k w b n z f) (K : Maps.Keyed P k) (ht : P.underlying t = some (.map k e)) (hn : n < maxLen) (key : Value) (s : List UInt8) (hs : keyOf P k key = some (.string s)) (v : Value) :
    ∃ w', (Instr.mapUpdate t (.map (some b)) key v).run P w = .ok () w' ∧ MapF P k w' b (n + 1) z (fun x => if x = s then v else f x) ∧ w.grownBy w' (some b) := by
  obtain ⟨D, hD, ho, hf⟩ := h
  obtain ⟨w', hrun, h1, h2⟩ := ho.update K ht hn hs (val := v) (d := .held v) (ps := []) rfl
  refine ⟨w', hrun, ⟨D.put (.string s) (.held v), hD.put _ _, h1, fun x => ?_⟩, h2⟩
  show _ = DataW.held (if x = s then v else f x)
  by_cases e : x = s
  · subst e
    rw [if_pos rfl]
    exact Maps.atKey_put_same hD (by trivial) _ _
  · rw [if_neg e, Maps.atKey_put_other (by intro e2; exact e (Lit.string.inj e2))]
    exact hf x
end
/-- the five of a grant, as a key and as bytes -/
def fiveV (g : Gra) : Value := .agg #[.string g.schema, .string g.table, .int .i64 g.right, .string g.giver, .string g.to]
def fiveL (g : Gra) : List Lit := [.string g.schema.data.toList, .string g.table.data.toList, .int .i64 g.right, .string g.giver.data.toList, .string g.to.data.toList]
def fiveS (g : Gra) : List UInt8 := keyBytes (fiveL g)
theorem five_keyed : Maps.Keyed Tryz.prog 201 := Maps.Keyed.of_law (deep_law (m := 3) (by decide) (by kernel_rfl) (by kernel_rfl) (by kernel_rfl))
theorem lits_str {P : Program} {t : TypeId} (h : P.underlying t = some .string) (d : Nat) (s : ByteArray) (hs : s.size ≤ maxLen) : P.keyLits (d + 1) t [.string s] = some [.string s.data.toList] := by simp [Program.keyLits, h, hs]
theorem lits_int {P : Program} {t : TypeId} {q : IntKind} (h : P.underlying t = some (.int q)) (d : Nat) (n : Int) (hn : (Lit.int q n).wf = true) : P.keyLits (d + 1) t [.int q n] = some [.int q n] := by simp [Program.keyLits, h, hn]
theorem five_lits (g : Gra) (h : SmG g) (d : Nat) : Tryz.prog.keyLits (d + 2) 201 [.string g.schema, .string g.table, .int .i64 g.right, .string g.giver, .string g.to] = some (fiveL g) := by
  have e1 := fun s hs => lits_str Tryz.underlying9 d s hs
  have e2 := lits_int Tryz.underlying74 d g.right h.2.2.2.2
  have k1 : Tryz.prog.cellsOf 201 = 5 := by kernel_rfl
  have k2 : Tryz.prog.cellsOf 9 = 1 := by kernel_rfl
  have k3 : Tryz.prog.cellsOf 74 = 1 := by kernel_rfl
  unfold Program.keyLits
  simp only [Tryz.underlying201]
  simp [k1, k2, k3, e1 _ h.1.max, e1 _ h.2.1.max, e1 _ h.2.2.1.max, e1 _ h.2.2.2.1.max, e2, fiveL]
theorem five_key (g : Gra) (h : SmG g) : keyOf Tryz.prog 201 (fiveV g) = some (.string (fiveS g)) := by
  obtain ⟨d, hd⟩ : ∃ d, Tryz.prog.types.size + 1 = d + 2 := ⟨Tryz.prog.types.size - 1, by kernel_rfl⟩
  have k : (Tryz.prog.keyType 201 && (fiveV g).formed Tryz.prog 201) = true := by
    rw [Bool.and_eq_true]; exact ⟨by kernel_rfl, by unfold fiveV; kernel_rfl⟩
  have e := five_lits g h d
  unfold keyOf
  rw [Tryz.underlying201, hd]
  simp only [k, if_true]
  unfold fiveV
  simp only [Value.cells]
  rw [e]
  rfl
theorem fiveS_inj (g h : Gra) (hg : SmG g) (hh : SmG h) : fiveS g = fiveS h ↔ fkey g = fkey h := by
  constructor
  · intro e
    have := keyBytes_inj (l := fiveL g) (l' := fiveL h) (by simp [fiveL, Alike, Lit.sameKind]) (fun a ha => ?_) (fun a ha => ?_) e
    · unfold fiveL at this
      simp only [List.cons.injEq, Lit.string.injEq, Lit.int.injEq, and_true, true_and] at this
      obtain ⟨e1, e2, e3, e4, e5⟩ := this
      unfold fkey
      rw [txt_inj e1, txt_inj e2, e3, txt_inj e4, txt_inj e5]
    · simp only [fiveL, List.mem_cons, List.not_mem_nil, or_false] at ha
      rcases ha with rfl | rfl | rfl | rfl | rfl
      · simpa [Lit.keyWf] using hg.1.max
      · simpa [Lit.keyWf] using hg.2.1.max
      · exact hg.2.2.2.2
      · simpa [Lit.keyWf] using hg.2.2.1.max
      · simpa [Lit.keyWf] using hg.2.2.2.1.max
    · simp only [fiveL, List.mem_cons, List.not_mem_nil, or_false] at ha
      rcases ha with rfl | rfl | rfl | rfl | rfl
      · simpa [Lit.keyWf] using hh.1.max
      · simpa [Lit.keyWf] using hh.2.1.max
      · exact hh.2.2.2.2
      · simpa [Lit.keyWf] using hh.2.2.1.max
      · simpa [Lit.keyWf] using hh.2.2.2.1.max
  · intro e
    unfold fkey at e
    simp only [Prod.mk.injEq] at e
    obtain ⟨e1, e2, e3, e4, e5⟩ := e
    unfold fiveS fiveL
    rw [e1, e2, e3, e4, e5]
end Go.Proofs.YtlklmekapbojdaaGreat

namespace Go.Proofs.YtlklmekapbojdaaGreat
open Go.RowKit Go.Deep Go.WideElems Go.ChangeMaps
set_option maxRecDepth 100000
set_option linter.unusedVariables false
section
variable {P : Program} {k : TypeId} {w w' : World} {b n : Nat} {z : Value} {f : List UInt8 → Value}
theorem set_same {b : Nat} {o : Obj} (hb : w.heap[b]? = some o) : setBlock w b o = w := by
  obtain ⟨h1, h2⟩ := Array.getElem?_eq_some_iff.1 hb
  unfold setBlock
  have : w.heap.setIfInBounds b o = w.heap := by
    apply Array.ext
    · simp
    · intro i hi1 hi2
      rw [Array.getElem_setIfInBounds hi2]
      split
      · rename_i e; subst e; exact h2.symm
      · rfl
  rw [this]
/-- behind the entry a look-up sees what it saw -/
theorem entry_look {t e : TypeId} (K : WideMaps.KeyLaw P k) (ht : P.underlying t = some (.map k e)) (hz : ∀ u : World, (zeroValue e).run P u = .ok z u) {es : Array MapEntry} {clock : Nat} (hb : w.heap[b]? = some (.map es clock)) (F : Fit P k heldR es clock) {key : Value} {kl : Lit} (hkey : keyOf P k key = some kl) {v : Value} {w1 : World}
    (hE : (Instr.mapEntry t (.map (some b)) key).run P w = .ok v w1) : ∃ v0, (Instr.lookup t (.map (some b)) key false).run P w = .ok v0 w ∧ (Instr.lookup t (.map (some b)) key false).run P w1 = .ok v0 w1 := by
  have look : ∀ (u : World) (l : Array MapEntry) (c : Nat), u.heap[b]? = some (.map l c) → ∀ a, (Instr.findKey k key l.toList).run P u = .ok a u → (Instr.lookup t (.map (some b)) key false).run P u = .ok (match a with | some (_, y) => y | none => z) u := fun u l c hu a ha => by
    cases a with
    | none => simp [Instr.lookup, run_underlying ht, MapKept.run_getObj_map hu, K.check u _ hkey, ha, hz, Result.andThen]
    | some q => obtain ⟨j, y⟩ := q; simp [Instr.lookup, run_underlying ht, MapKept.run_getObj_map hu, K.check u _ hkey, ha, Result.andThen]
  rcases K.find w hkey es.toList F.keys with ⟨h1, h2⟩ | ⟨j, e0, h1, h2, h3⟩
  · have e1 : w1 = setBlock w b (.map (es.push ⟨key, z, clock⟩) (clock + 1)) := by
      simp [Instr.mapEntry, run_underlying ht, MapKept.run_getObj_map hb, K.check w false hkey, h1, hz, MapKept.run_setObj_map _ hb, Result.andThen] at hE
      rw [← hE.2]; rfl
    have hb1 : w1.heap[b]? = some (.map (es.push ⟨key, z, clock⟩) (clock + 1)) := by rw [e1]; exact heap_setBlock_same hb _
    refine ⟨z, look w es clock hb none h1, ?_⟩
    have hk1 : ∀ x ∈ (es.push ⟨key, z, clock⟩).toList, ∃ l, keyOf P k x.key = some l := fun x hx => by
      rw [Array.toList_push, List.mem_append, List.mem_singleton] at hx
      rcases hx with hx | rfl
      · exact F.keys x hx
      · exact ⟨_, hkey⟩
    rcases K.find w1 hkey _ hk1 with ⟨g1, g2⟩ | ⟨j', e', g1, g2, g3⟩
    · exact absurd rfl (g2 ⟨key, z, clock⟩ (by simp))
    · have hm : e' ∈ (es.push ⟨key, z, clock⟩).toList := List.mem_of_getElem? g2
      rw [Array.toList_push, List.mem_append, List.mem_singleton] at hm
      rcases hm with hm | hm
      · exact absurd g3 (h2 e' hm)
      · have := look w1 _ _ hb1 _ g1
        rw [hm] at this
        exact this
  · have hj : es[j]? = some e0 := by simpa using h2
    have hsame : es.modify j (fun e => { e with key := key }) = es := by
      apply Array.ext'
      rw [Array.toList_modify, modify_eq_set _ _ _ _ h2]
      have : ({ e0 with key := key } : MapEntry) = e0 := by rw [← h3]
      rw [this]
      exact set_self _ _ _ h2
    have e1 : w1 = w := by
      simp [Instr.mapEntry, run_underlying ht, MapKept.run_getObj_map hb, K.check w false hkey, h1, hj, h3, K.stays w hkey, hsame, MapKept.run_setObj_map _ hb, Result.andThen] at hE
      rw [← hE.2]
      exact set_same hb
    subst e1
    exact ⟨_, look _ es clock hb _ h1, look _ es clock hb _ h1⟩
theorem MapF.entry {t e : TypeId} (h : MapF P k w b n z f) (K : WideMaps.KeyLaw P k) (ht : P.underlying t = some (.map k e)) (hz : ∀ u : World, (zeroValue e).run P u = .ok z u) (hn : n < maxLen) (key : Value) (s : List UInt8) (hs : keyOf P k key = some (.string s)) (v : Value) :
    ∃ v0 st w1 w2, (Instr.mapEntry t (.map (some b)) key).run P w = .ok (.tuple #[v0, goInt st]) w1 ∧ w.grownBy w1 (some b) ∧ (Instr.lookup t (.map (some b)) key false).run P w1 = .ok (f s) w1 ∧
      (Instr.entryStore t (.map (some b)) (goInt st) v).run P w1 = .ok () w2 ∧ MapF P k w2 b (n + 1) z (fun x => if x = s then v else f x) ∧ w.grownBy w2 (some b) := by
  have hl := h.lookK (Maps.Keyed.of_law K) ht (hz w) key s hs
  obtain ⟨w', hrun, hM, hg⟩ := h.putK (Maps.Keyed.of_law K) ht hn key s hs v
  obtain ⟨D, hD, ho, hf⟩ := h
  obtain ⟨es, clock, hb, F, hsz, he⟩ := ho
  obtain ⟨v0, st, es1, clock1, hE, _, hS⟩ := entry_then_store K ht hz hb F hs
  have hb1 : (setBlock w b (.map es1 clock1)).heap[b]? = some (.map es1 clock1) := heap_setBlock_same hb _
  obtain ⟨es', clock', hSt, hUp⟩ := hS (setBlock w b (.map es1 clock1)) v hb1
  have e2 : setBlock (setBlock w b (.map es1 clock1)) b (.map es' clock') = setBlock w b (.map es' clock') := by
    unfold setBlock
    simp
  have e3 : w' = setBlock w b (.map es' clock') := by
    rw [hrun] at hUp
    simpa using hUp
  obtain ⟨u0, k1, k2⟩ := entry_look K ht hz hb F hs hE
  have e4 : u0 = f s := by rw [hl] at k1; simpa using k1.symm
  subst e4
  refine ⟨v0, st, _, _, hE, ?_, k2, hSt, ?_, ?_⟩
  · exact ⟨rfl, rfl, rfl, by simp [setBlock], fun i _ hi => heap_setBlock_other hb _ (fun e => hi (by rw [e]))⟩
  · rw [e2, ← e3]; exact hM
  · rw [e2, ← e3]; exact hg
end
theorem five_law : WideMaps.KeyLaw Tryz.prog 201 := deep_law (m := 3) (by decide) (by kernel_rfl) (by kernel_rfl) (by kernel_rfl)
end Go.Proofs.YtlklmekapbojdaaGreat

namespace Go.Proofs.YtlklmekapbojdaaGreat
open Go.RowKit Go.Deep
set_option maxRecDepth 100000
set_option linter.unusedVariables false
theorem info2Gra : (Tryz.prog.info? 76).map (fun i => (i.zero, i.size, i.bytes)) = some (some (.agg #[.string ByteArray.empty, .string ByteArray.empty, .int .i64 0, .string ByteArray.empty, .string ByteArray.empty, .bool false]), 6, 80) := by kernel_rfl
theorem app_gra {ops : Array Oper} {rest : List Oper} {o : Oper} {a : Act} {w : World} {Q : Exit → Act → World → Prop} (hgd : o.guard = none) (s x : Operand)
    (ho : o.op = .call { callee := .builtin .append, args := #[s, x], argTypes := #[64, 64] }) (base : Nat) (v : Value) (n : Nat) (xs : List Value) (hs : a.eval s = v) (hown : w.ownsRow base 76 6 v n xs)
    (b : Nat) (y : Gra) (hx : a.eval x = .slice (some ⟨b, 0, none⟩) 1 1) (hb : w.heap[b]? = some (.cells #[.string y.schema, .string y.table, .int .i64 y.right, .string y.giver, .string y.to, .bool y.opt] 76)) (hn : n ≤ 1000000) (hbase : base ≤ w.heap.size)
    (h : ∀ g cap w', w'.ownsRow base 76 6 (.slice (some ⟨g, 0, none⟩) (n + 1) cap) (n + 1) (xs ++ graC y) → w.grownBy w' v.ownBlock → (v.ownBlock = some g ∨ g = w.heap.size) → wpList Tryz.prog ops Q rest (a.put o.dst (.slice (some ⟨g, 0, none⟩) (n + 1) cap)) w') : wpList Tryz.prog ops Q (o :: rest) a w := by
  obtain ⟨i0, hi0, hz0, hz1, hz2⟩ := info_parts info2Gra
  exact wpList_append_lies w hgd s x 64 ho base 76 i0 _ 6 80 Tryz.underlying64 hi0 hz0 hz1 hz2 rfl (by decide) v n xs hs hown ⟨b, 0, none⟩ 1 1 [.string y.schema, .string y.table, .int .i64 y.right, .string y.giver, .string y.to, .bool y.opt] hx rfl (World.news_of_block (cs := #[.string y.schema, .string y.table, .int .i64 y.right, .string y.giver, .string y.to, .bool y.opt]) (t := 76) (fr := (0, 0)) hb) (by simp [Value.oneCell']) (by omega) (by unfold maxLen; omega) (by omega) hbase _ rfl fun g cap w' h1 h2 h3 _ => h g cap w' h1 h2 h3
/-- a row that grows from a world on -/
def GrG (X wr : World) (h : Hd) (l : List Gra) : Prop := Aft X wr ∧ wr.ownsRow X.heap.size 76 6 h.v l.length (l.flatMap graC)
theorem GrG.start (X : World) : GrG X X ⟨none, 0, 0⟩ [] := ⟨Aft.refl X, own_nil _ _ _ _⟩
theorem GrG.aft {X wr w' : World} {h : Hd} {l : List Gra} (g : GrG X wr h l) (a : Aft wr w') : GrG X w' h l := ⟨g.1.trans a, own_aft g.2 a⟩
theorem GrG.own {X wr : World} {h : Hd} {l : List Gra} (g : GrG X wr h l) : wr.ownsRow X.heap.size 76 6 (.slice h.a l.length h.c) l.length (l.flatMap graC) := by
  have := g.2
  rw [own_slice this] at this
  exact this
theorem GrG.sl {X wr : World} {h : Hd} {l : List Gra} (g : GrG X wr h l) (hs : ∀ x ∈ l, SmG x) (hl : l.length ≤ 1000000) : SlAt wr 6 GraR h.a h.c l := own_slf graC g.2 (fun x hx => ⟨rfl, rfl, hs x hx⟩) (by unfold Small; omega)
theorem GrG.grow {X wr w4 w5 : World} {h : Hd} {l : List Gra} {y : Gra} {gg cap : Nat} (g : GrG X wr h l) (a4 : Aft wr w4) (ho : w5.ownsRow X.heap.size 76 6 (.slice (some ⟨gg, 0, none⟩) (l.length + 1) cap) (l.length + 1) (l.flatMap graC ++ graC y)) (hg : w4.grownBy w5 (Value.slice h.a l.length h.c).ownBlock) :
    GrG X w5 ⟨some ⟨gg, 0, none⟩, l.length + 1, cap⟩ (l ++ [y]) :=
  ⟨aft_grown (own_aft g.own a4) (g.1.trans a4) hg, by rw [List.length_append, List.flatMap_append, List.flatMap_cons, List.flatMap_nil, List.append_nil]; exact ho⟩
end Go.Proofs.YtlklmekapbojdaaGreat

namespace Go.Proofs.YtlklmekapbojdaaGreat
open Go.Shelf Go.Proofs
def sortGra_ren : Go.Shelf.Ren := ⟨fun | 6 => 160 | 15 => 197 | 14 => 196 | 28 => 234 | 29 => 235 | 20 => 226 | 21 => 227 | 22 => 228 | 23 => 229 | 24 => 230 | 25 => 231 | 26 => 232 | 27 => 233 | 46 => 242 | 47 => 243 | 48 => 244 | 49 => 245 | 50 => 246 | 57 => 247 | n => n, fun | 22 => 64 | 24 => 76 | 25 => 136 | 3 => 3 | 39 => 178 | 0 => 0 | 53 => 256 | 55 => 258 | 4 => 4 | 46 => 250 | 45 => 249 | 50 => 134 | 5 => 5 | 9 => 9 | 66 => 262 | 70 => 266 | 76 => 268 | 77 => 269 | n => n, fun | n => n⟩
theorem sortGra_lays : Go.Proofs.SlLaysF0.n6 Tryz.prog sortGra_ren := {
  mixed := by kernel_rfl
  f6 := ⟨Tryz.f160.name, by decide, Tryz.func160.trans (congrArg some (by kernel_rfl))⟩
  f14 := ⟨Tryz.f196.name, by decide, Tryz.func196.trans (congrArg some (by kernel_rfl))⟩
  f15 := Tryz.func197.trans (congrArg some (by kernel_rfl))
  f20 := ⟨Tryz.f226.name, by decide, Tryz.func226.trans (congrArg some (by kernel_rfl))⟩
  f21 := ⟨Tryz.f227.name, by decide, Tryz.func227.trans (congrArg some (by kernel_rfl))⟩
  f22 := ⟨Tryz.f228.name, by decide, Tryz.func228.trans (congrArg some (by kernel_rfl))⟩
  f23 := ⟨Tryz.f229.name, by decide, Tryz.func229.trans (congrArg some (by kernel_rfl))⟩
  f24 := ⟨Tryz.f230.name, by decide, Tryz.func230.trans (congrArg some (by kernel_rfl))⟩
  f25 := ⟨Tryz.f231.name, by decide, Tryz.func231.trans (congrArg some (by kernel_rfl))⟩
  f26 := ⟨Tryz.f232.name, by decide, Tryz.func232.trans (congrArg some (by kernel_rfl))⟩
  f27 := ⟨Tryz.f233.name, by decide, Tryz.func233.trans (congrArg some (by kernel_rfl))⟩
  f28 := Tryz.func234.trans (congrArg some (by kernel_rfl))
  f29 := Tryz.func235.trans (congrArg some (by kernel_rfl))
  f46 := ⟨Tryz.f242.name, by decide, Tryz.func242.trans (congrArg some (by kernel_rfl))⟩
  f47 := Tryz.func243.trans (congrArg some (by kernel_rfl))
  f48 := Tryz.func244.trans (congrArg some (by kernel_rfl))
  f49 := ⟨Tryz.f245.name, by decide, Tryz.func245.trans (congrArg some (by kernel_rfl))⟩
  f50 := ⟨Tryz.f246.name, by decide, Tryz.func246.trans (congrArg some (by kernel_rfl))⟩
  f57 := ⟨Tryz.f247.name, by decide, Tryz.func247.trans (congrArg some (by kernel_rfl))⟩
  t0 := Tryz.underlying0
  a0 := Tryz.isAgg0
  z0 := Tryz.sizeOf0
  v0 := Tryz.zeroValue0
  t3 := Tryz.underlying3
  a3 := Tryz.isAgg3
  z3 := Tryz.sizeOf3
  v3 := Tryz.zeroValue3
  t4 := Tryz.underlying4
  a4 := Tryz.isAgg4
  z4 := Tryz.sizeOf4
  v4 := Tryz.zeroValue4
  t5 := Tryz.underlying5
  a5 := Tryz.isAgg5
  z5 := Tryz.sizeOf5
  v5 := Tryz.zeroValue5
  t9 := Tryz.underlying9
  a9 := Tryz.isAgg9
  z9 := Tryz.sizeOf9
  v9 := Tryz.zeroValue9
  t22 := Tryz.underlying64
  a22 := Tryz.isAgg64
  z22 := Tryz.sizeOf64
  v22 := Tryz.zeroValue64
  t25 := Tryz.underlying136
  a25 := Tryz.isAgg136
  z25 := Tryz.sizeOf136
  v25 := Tryz.zeroValue136
  t39 := Tryz.underlying178
  a39 := Tryz.isAgg178
  z39 := Tryz.sizeOf178
  v39 := Tryz.zeroValue178
  t45 := Tryz.underlying249
  a45 := Tryz.isAgg249
  z45 := Tryz.sizeOf249
  v45 := Tryz.zeroValue249
  t46 := Tryz.underlying250
  a46 := Tryz.isAgg250
  z46 := Tryz.sizeOf250
  v46 := Tryz.zeroValue250
  t50 := Tryz.underlying134
  a50 := Tryz.isAgg134
  z50 := Tryz.sizeOf134
  v50 := Tryz.zeroValue134
  t53 := Tryz.underlying256
  a53 := Tryz.isAgg256
  z53 := Tryz.sizeOf256
  v53 := Tryz.zeroValue256
  t55 := Tryz.underlying258
  a55 := Tryz.isAgg258
  z55 := Tryz.sizeOf258
  v55 := Tryz.zeroValue258
  t66 := Tryz.underlying262
  a66 := Tryz.isAgg262
  z66 := Tryz.sizeOf262
  v66 := Tryz.zeroValue262
  t70 := Tryz.underlying266
  a70 := Tryz.isAgg266
  z70 := Tryz.sizeOf266
  v70 := Tryz.zeroValue266
  t76 := Tryz.underlying268
  a76 := Tryz.isAgg268
  z76 := Tryz.sizeOf268
  v76 := Tryz.zeroValue268
  t77 := Tryz.underlying269
  a77 := Tryz.isAgg269
  z77 := Tryz.sizeOf269
  v77 := Tryz.zeroValue269 }
end Go.Proofs.YtlklmekapbojdaaGreat

namespace Go.Proofs.YtlklmekapbojdaaGreat
open Go.RowKit Go.Sort Go.Shelf Go.Deep
set_option maxRecDepth 100000
set_option linter.unusedVariables false
instance : Inhabited Gra := ⟨⟨ByteArray.empty, ByteArray.empty, 0, ByteArray.empty, ByteArray.empty, false⟩⟩
theorem oneC_gra (s : Gra) : ∀ u ∈ graC s, u.oneCell' = true := by intro u hu; simp only [graC, List.mem_cons, List.not_mem_nil, or_false] at hu; rcases hu with rfl | rfl | rfl | rfl | rfl | rfl <;> simp [Value.oneCell']
theorem preG : Pre8 cmpG := ⟨ordG.lt, ordG.anti, fun a b d h => by
  have := (fiveE_iff a b).1 ((cmpG_zero a b).1 h)
  unfold fkey at this
  simp only [Prod.mk.injEq] at this
  obtain ⟨h1, h2, h3, h4, h5⟩ := this
  unfold cmpG
  rw [h1, h2, h3, h4, h5]⟩
theorem sortGraF (blk cap B : Nat) (l : List Gra) (h0 : 0 < l.length) (hsz : l.length ≤ 1000000) (w : World) (ho : w.ownsRow B 76 6 (.slice (some ⟨blk, 0, none⟩) l.length cap) l.length (l.flatMap graC)) :
    Calls Tryz.prog 160 #[.slice (some ⟨blk, 0, none⟩) l.length cap, .func (.func 82) #[] #[]] w (SortedP 76 6 graC cmpG w B blk cap l) :=
  sort_own sortGra_lays 6 Tryz.isAgg76 Tryz.sizeOf76 graC (fun _ => rfl) oneC_gra cmpG preG.swo 82 #[] 76 B blk cap l h0 hsz w ho (enters (P := Tryz.prog) Tryz.func82 (by kernel_rfl) rfl) (fun W x y => orderG_gro x y W)
set_option maxHeartbeats 2000000 in
theorem ins0 (f : Value) (hf : ∃ g, f = .func (.func g) #[] #[]) (w : World) : Calls Tryz.prog 226 #[.slice none 0 0, .int .i64 0, .int .i64 0, f] w fun e w' => e = .returned (.tuple #[]) ∧ w = w' := by
  obtain ⟨g, rfl⟩ := hf
  go_enter Tryz.func226, Tryz.ntmps226
  go_wp2_with fail
  go_loopw [8] (fun i wr => i = .int .i64 1 ∧ wr = w) (fun _ _ => 0)
  case atStart => exact ⟨rfl, rfl⟩
  case round =>
    obtain ⟨rfl, rfl⟩ := hrel
    go_wp2_with fail
    go_end0
    exact ⟨rfl, rfl⟩
set_option maxHeartbeats 2000000 in
theorem len64z (w : World) : Calls Tryz.prog 235 #[.int .u64 0] w fun e w' => e = .returned (.int .i64 0) ∧ w = w' := by
  go_enter Tryz.func235, Tryz.ntmps235
  go_wp2_with fail
  go_ret
  exact ⟨Eq.trans (b := .returned (.int .i64 (wrap64 (wrap64 (Lib.len8 0))))) rfl (by rw [show wrap64 (wrap64 (Lib.len8 0)) = 0 by decide +kernel]), rfl⟩
theorem lenz (w : World) : Calls Tryz.prog 197 #[.int .u64 0] w fun e w' => e = .returned (.int .i64 0) ∧ w = w' := by
  go_enter Tryz.func197, Tryz.ntmps197
  go_wp2_with fail
  refine (len64z w).mono ?_
  rintro e w1 ⟨rfl, rfl⟩
  go_wp2_with fail
  go_ret
  exact ⟨by rfl, rfl⟩
set_option maxHeartbeats 4000000 in
theorem pdq0 (g : FuncId) (w : World) : Calls Tryz.prog 196 #[.slice none 0 0, .int .i64 0, .int .i64 0, .int .i64 0, .func (.func g) #[] #[]] w fun e w' => e = .returned (.tuple #[]) ∧ w = w' := by
  have C := Lib.hid (ins0 (.func (.func g) #[] #[]) ⟨g, rfl⟩ w)
  go_enter Tryz.func196, Tryz.ntmps196
  go_wp2_with fail
  go_loopw [1, 2, 3] (fun a b l wr => a = .int .i64 0 ∧ b = .int .i64 0 ∧ l = .int .i64 0 ∧ wr = w) (fun _ _ _ _ => 0)
  case atStart => exact ⟨rfl, rfl, rfl, rfl⟩
  case round =>
    obtain ⟨rfl, rfl, rfl, rfl⟩ := hrel
    go_wp2_with fail
    refine C.out.mono ?_
    rintro e w1 ⟨rfl, rfl⟩
    go_wp2_with fail
    refine bodyPost_ret (results_none rfl _ _ _) rfl ?_
    exact ⟨rfl, rfl⟩
set_option maxHeartbeats 4000000 in
theorem sort0 (g : FuncId) (w : World) : Calls Tryz.prog 160 #[.slice none 0 0, .func (.func g) #[] #[]] w fun e w' => e = .returned (.tuple #[]) ∧ w = w' := by
  go_enter Tryz.func160, Tryz.ntmps160
  go_wp2_with fail
  refine (lenz w).mono ?_
  rintro e w1 ⟨rfl, rfl⟩
  go_wp2_with fail
  refine (pdq0 g w).mono ?_
  rintro e w1 ⟨rfl, rfl⟩
  go_wp2_with fail
  go_end0
  exact ⟨rfl, rfl⟩
/-- whatever the row of our own: it lies in order then -/
theorem sortRow (hd : Hd) (B : Nat) (l : List Gra) (hn : l = [] → hd = ⟨none, 0, 0⟩) (hsz : l.length ≤ 1000000) (w : World) (ho : w.ownsRow B 76 6 (.slice hd.a l.length hd.c) l.length (l.flatMap graC)) :
    Calls Tryz.prog 160 #[.slice hd.a l.length hd.c, .func (.func 82) #[] #[]] w fun e w' => e = .returned (.tuple #[]) ∧
      ∃ l' : List Gra, l'.Perm l ∧ (∀ i j (hi : i < l'.length) (hj : j < l'.length), i < j → ¬ cmpG l'[j] l'[i] < 0) ∧ w'.ownsRow B 76 6 (.slice hd.a l.length hd.c) l.length (l'.flatMap graC) ∧ ∀ W, Aft W w → W.heap.size ≤ B → Aft W w' := by
  cases l with
  | nil =>
    obtain rfl := hn rfl
    refine (sort0 82 w).mono ?_
    rintro e w' ⟨rfl, rfl⟩
    exact ⟨rfl, [], .nil, fun i j hi => absurd hi (by simp), ho, fun W a _ => a⟩
  | cons x l =>
    obtain ⟨g, cap, hv, hB, _⟩ := own_rowAt ho (by simp)
    simp only [Value.slice.injEq] at hv
    rw [hv.1] at ho ⊢
    refine (sortGraF g hd.c B (x :: l) (by simp) hsz w ho).mono ?_
    rintro e w' ⟨rfl, l', h1, h2, h3, h4⟩
    exact ⟨rfl, l', h1, h2, h3, fun W a hW => h4.to_aft a fun k hk e => by omega⟩
end Go.Proofs.YtlklmekapbojdaaGreat

