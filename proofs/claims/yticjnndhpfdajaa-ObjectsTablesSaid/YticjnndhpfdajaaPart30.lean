/- Contracts of the program, part 30. -/
import Derived.Test.YticjnndhpfdajaaPart26
import Derived.Test.YticjnndhpfdajaaPart27
import Derived.Test.YticjnndhpfdajaaPart29
/- The frame of the document's functions of objects; append of one schema. -/
namespace Go.Proofs.Yticjnndhpfdajaa
open Go.RowKit Go.Deep
set_option maxRecDepth 100000
set_option linter.unusedVariables false
def BoxO (w : World) (v0 v1 : Value) : World := (w.alloc (.cells #[v0, v1] 25)).alloc (.cells #[.slice none 0 0, .slice none 0 0] 25)
theorem BoxO.aft (w : World) (v0 v1 : Value) : Aft w (BoxO w v0 v1) := ((Aft.refl w).alloc _).alloc _
theorem BoxO.size (w : World) (v0 v1 : Value) : (BoxO w v0 v1).heap.size = w.heap.size + 2 := by unfold BoxO; simp
theorem BoxO.row (w : World) (v0 v1 : Value) : RowAt (BoxO w v0 v1) w.heap.size [v0, v1] := (box_row2 (w := w) (c := [v0, v1]) (t := 25) (Aft.refl _)).aft ((Aft.refl _).alloc _)
theorem BoxO.res (w : World) (v0 v1 : Value) : RowAt (BoxO w v0 v1) (w.heap.size + 1) [.slice none 0 0, .slice none 0 0] := by
  have := box_row2 (w := w.alloc (.cells #[v0, v1] 25)) (c := [.slice none 0 0, .slice none 0 0]) (t := 25) (Aft.refl _)
  unfold BoxO
  simpa using this
theorem BoxO.read {w w' : World} {v0 v1 : Value} (a : Aft (BoxO w v0 v1) w') : w'.cell? ⟨w.heap.size, 0, none⟩ = some v0 ∧ w'.cell? ⟨w.heap.size, 1, none⟩ = some v1 ∧ w.heap.size < w'.heap.size := by
  have r := (BoxO.row w v0 v1).aft a
  exact ⟨r.cell (j := 0) rfl, r.cell (j := 1) rfl, r.1⟩
theorem BoxO.out {w w' : World} {v0 v1 : Value} (a : Aft (BoxO w v0 v1) w') : w'.cell? ⟨w.heap.size + 1, 0, none⟩ = some (.slice none 0 0) ∧ w'.cell? ⟨w.heap.size + 1, 1, none⟩ = some (.slice none 0 0) ∧ w'.frozen? ⟨w.heap.size + 1, 0, none⟩ = false ∧ w'.frozen? ⟨w.heap.size + 1, 1, none⟩ = false ∧ w.heap.size + 1 < w'.heap.size := by
  have r := (BoxO.res w v0 v1).aft a
  exact ⟨r.cell (j := 0) rfl, r.cell (j := 1) rfl, r.2.2 0 (by simp), r.2.2 1 (by simp), r.1⟩
theorem BoxO.no {w w' : World} {v0 v1 : Value} (a : Aft (BoxO w v0 v1) w') (x : Int) : ObjP w (zeroO, x) (.returned (.tuple #[.agg #[.slice none 0 0, .slice none 0 0], .int .i64 x])) ((w'.setCell ⟨w.heap.size + 1, 0, none⟩ (.slice none 0 0)).setCell ⟨w.heap.size + 1, 1, none⟩ (.slice none 0 0)) :=
  objP_zset ((BoxO.aft w v0 v1).trans a) (by omega)
def OutO (w3 : World) (v0 v1 : Value) : World := w3.alloc (.cells #[v0, v1] 25)
theorem OutO.aft (w3 : World) (v0 v1 : Value) : Aft w3 (OutO w3 v0 v1) := (Aft.refl w3).alloc _
theorem OutO.size (w3 : World) (v0 v1 : Value) : (OutO w3 v0 v1).heap.size = w3.heap.size + 1 := by unfold OutO; simp
theorem OutO.row (w3 : World) (v0 v1 : Value) : RowAt (OutO w3 v0 v1) w3.heap.size [v0, v1] := box_row2 (w := w3) (c := [v0, v1]) (t := 25) (Aft.refl _)
/-- the end: the schemas in our own box are others -/
theorem endO {w w2 w3 wr : World} {v0 v1 : Value} {o : Objs} {hs ht : Hd} {L : List OTab} (a2 : Aft (BoxO w v0 v1) w2) (a3 : Aft w2 w3) (hL : L.map OTab.t = o.tables) (ob : ObjIn w3 w2.heap.size hs ht o.schemas L) (ar : Aft (OutO w3 (.slice hs.a o.schemas.length hs.c) (.slice ht.a o.tables.length ht.c)) wr) :
    ∀ (h : Hd) (l : List Sch) (n : Nat), n = l.length → wr.ownsRow (w3.heap.size + 1) 51 2 (.slice h.a n h.c) n (l.flatMap schC) →
      RowAt (wr.setCell ⟨w3.heap.size, 0, none⟩ (.slice h.a n h.c)) w3.heap.size [.slice h.a n h.c, .slice ht.a o.tables.length ht.c] ∧
      RowAt (((wr.setCell ⟨w3.heap.size, 0, none⟩ (.slice h.a n h.c)).setCell ⟨w.heap.size + 1, 0, none⟩ (.slice h.a n h.c)).setCell ⟨w.heap.size + 1, 1, none⟩ (.slice ht.a o.tables.length ht.c)) (w.heap.size + 1) [.slice h.a n h.c, .slice ht.a o.tables.length ht.c] ∧
      ObjP w (⟨l, o.tables⟩, 0) (.returned (.tuple #[.agg #[.slice h.a n h.c, .slice ht.a o.tables.length ht.c], .int .i64 0])) (((wr.setCell ⟨w3.heap.size, 0, none⟩ (.slice h.a n h.c)).setCell ⟨w.heap.size + 1, 0, none⟩ (.slice h.a n h.c)).setCell ⟨w.heap.size + 1, 1, none⟩ (.slice ht.a o.tables.length ht.c)) := by
  intro h l n hn ho
  subst hn
  have z2 := a2.size
  rw [BoxO.size] at z2
  have z3 := a3.size
  have zr := ar.size
  rw [OutO.size] at zr
  have aw := (((BoxO.aft w v0 v1).trans a2).trans a3).trans ((OutO.aft w3 (.slice hs.a o.schemas.length hs.c) (.slice ht.a o.tables.length ht.c)).trans ar)
  have rb := (OutO.row w3 (.slice hs.a o.schemas.length hs.c) (.slice ht.a o.tables.length ht.c)).aft ar
  have rr := ((BoxO.res w v0 v1).aft a2).aft (a3.trans ((OutO.aft w3 (.slice hs.a o.schemas.length hs.c) (.slice ht.a o.tables.length ht.c)).trans ar))
  have obr := ((ob.aft (OutO.aft w3 (.slice hs.a o.schemas.length hs.c) (.slice ht.a o.tables.length ht.c))).aft ar).down (B' := w.heap.size + 2) (by omega)
  have hlt := ob.lt
  have gh : ∀ g, (Value.slice h.a l.length h.c).ownBlock = some g → w3.heap.size + 1 ≤ g := fun g hg => (ho.lt g hg).1
  have ghb : ∀ g ∈ (Hd.mk h.a l.length h.c).blk, w3.heap.size + 1 ≤ g := fun g hg => gh g (Hd.mem_blk.1 hg)
  have obn : ObjIn wr (w.heap.size + 2) ⟨h.a, l.length, h.c⟩ ht l L := by
    refine ⟨own_down ho (by omega), obr.tab, obr.each, ?_⟩
    refine List.nodup_append.2 ⟨blk_nodup _, (List.nodup_append.1 obr.nd).2.1, fun a ha b hb2 e => ?_⟩
    subst e
    have := ghb a ha
    have := (hlt a (List.mem_append.2 (.inr hb2))).2
    omega
  have hlt2 := obn.lt
  have hltn : ∀ g ∈ (Hd.mk h.a l.length h.c).blk ++ (ht.blk ++ L.flatMap OTab.blks), g ≠ w3.heap.size ∧ g ≠ w.heap.size + 1 := fun g hg => by
    rcases List.mem_append.1 hg with h1 | h1
    · have := ghb g h1; omega
    · have := hlt g (List.mem_append.2 (.inr h1)); omega
  have k1 := Kb.set wr w3.heap.size 0 (.slice h.a l.length h.c)
  have k2 := Kb.set (wr.setCell ⟨w3.heap.size, 0, none⟩ (.slice h.a l.length h.c)) (w.heap.size + 1) 0 (.slice h.a l.length h.c)
  have k3 := Kb.set ((wr.setCell ⟨w3.heap.size, 0, none⟩ (.slice h.a l.length h.c)).setCell ⟨w.heap.size + 1, 0, none⟩ (.slice h.a l.length h.c)) (w.heap.size + 1) 1 (.slice ht.a o.tables.length ht.c)
  refine ⟨rb.set 0 _ (by simp), setO_row (k1.row rr (by omega)) rfl _ _, ⟨⟨h.a, l.length, h.c⟩, ht, L, hL, rfl, ?_, ?_⟩⟩
  · exact k3.to_aft (k2.to_aft (k1.to_aft aw (fun g hg e => by omega)) (fun g hg e => by omega)) (fun g hg e => by omega)
  · exact ((((obn.kb k1 fun g hg e => (hltn g hg).1 e).kb k2 fun g hg e => (hltn g hg).2 e).kb k3 fun g hg e => (hltn g hg).2 e)).down (by omega)
theorem app_sch {ops : Array Oper} {rest : List Oper} {o : Oper} {a : Act} {w : World} {Q : Exit → Act → World → Prop} (hgd : o.guard = none) (s x : Operand)
    (ho : o.op = .call { callee := .builtin .append, args := #[s, x], argTypes := #[22, 22] }) (base : Nat) (v : Value) (n : Nat) (xs : List Value) (hs : a.eval s = v) (hown : w.ownsRow base 51 2 v n xs)
    (b : Nat) (y : Sch) (hx : a.eval x = .slice (some ⟨b, 0, none⟩) 1 1) (hb : w.heap[b]? = some (.cells #[.string y.name, .string y.owner] 51)) (hn : n ≤ 1000000) (hbase : base ≤ w.heap.size)
    (h : ∀ g cap w', w'.ownsRow base 51 2 (.slice (some ⟨g, 0, none⟩) (n + 1) cap) (n + 1) (xs ++ schC y) → w.grownBy w' v.ownBlock → (v.ownBlock = some g ∨ g = w.heap.size) → wpList Try.prog ops Q rest (a.put o.dst (.slice (some ⟨g, 0, none⟩) (n + 1) cap)) w') : wpList Try.prog ops Q (o :: rest) a w := by
  obtain ⟨i0, hi0, hz0, hz1, hz2⟩ := info_parts info2Sch2
  exact wpList_append_lies w hgd s x 22 ho base 51 i0 _ 2 32 Try.underlying22 hi0 hz0 hz1 hz2 rfl (by decide) v n xs hs hown ⟨b, 0, none⟩ 1 1 [.string y.name, .string y.owner] hx rfl (World.news_of_block (cs := #[.string y.name, .string y.owner]) (t := 51) (fr := (0, 0)) hb) (by simp [Value.oneCell']) (by omega) (by unfold maxLen; omega) (by omega) hbase _ rfl fun g cap w' h1 h2 h3 _ => h g cap w' h1 h2 h3
def GrC (X wr : World) (h : Hd) (l : List Sch) : Prop := Aft X wr ∧ wr.ownsRow X.heap.size 51 2 h.v l.length (l.flatMap schC)
theorem GrC.start (X : World) : GrC X X ⟨none, 0, 0⟩ [] := ⟨Aft.refl X, own_nil _ _ _ _⟩
theorem GrC.own {X wr : World} {h : Hd} {l : List Sch} (g : GrC X wr h l) : wr.ownsRow X.heap.size 51 2 (.slice h.a l.length h.c) l.length (l.flatMap schC) := by
  have := g.2
  rw [own_slice this] at this
  exact this
theorem GrC.grow {X wr w5 : World} {h : Hd} {l : List Sch} {y : Sch} {o : Obj} {gg cap : Nat} (g : GrC X wr h l) (ho : w5.ownsRow X.heap.size 51 2 (.slice (some ⟨gg, 0, none⟩) (l.length + 1) cap) (l.length + 1) (l.flatMap schC ++ schC y)) (hg : (wr.alloc o).grownBy w5 (Value.slice h.a l.length h.c).ownBlock) :
    GrC X w5 ⟨some ⟨gg, 0, none⟩, l.length + 1, cap⟩ (l ++ [y]) :=
  ⟨aft_grown (g.own.alloc _) (g.1.alloc _) hg, by rw [List.length_append, List.flatMap_append, List.flatMap_cons, List.flatMap_nil, List.append_nil]; exact ho⟩
/-- the schema of a name stands at one place -/
theorem sch_only {o : Objs} {name : ByteArray} {p : Nat} (hr : risesB cmpSc o.schemas = true) (hp : schAt o.schemas name = p) (hpl : p < o.schemas.length) (t : Nat) (ht : t < o.schemas.length) : eqS o.schemas[t].name name = decide (t = p) := by
  have h1 : eqS o.schemas[p].name name = true := idxP_at (fun c : Sch => eqS c.name name) o.schemas p hpl hp
  rcases Nat.lt_trichotomy t p with h | h | h
  · rw [decide_eq_false (by omega), Bool.eq_false_iff]
    intro h2
    have h3 := rises_lt preSc.tr hr t p ht hpl h
    have h4 : cmpSc o.schemas[t] o.schemas[p] = 0 := (cmpS_eq _ _).2 (eqS_trans h2 (by rw [eqS_comm]; exact h1))
    omega
  · subst h; rw [h1]; simp
  · rw [decide_eq_false (by omega), Bool.eq_false_iff]
    intro h2
    have h3 := rises_lt preSc.tr hr p t hpl ht h
    have h4 : cmpSc o.schemas[p] o.schemas[t] = 0 := (cmpS_eq _ _).2 (eqS_trans h1 (by rw [eqS_comm]; exact h2))
    omega
end Go.Proofs.Yticjnndhpfdajaa
/- objects.AddSchema: the closure, walked. -/
namespace Go.Proofs.Yticjnndhpfdajaa
open Go.RowKit Go.Deep Go.Sort
set_option maxRecDepth 100000
set_option linter.unusedVariables false
theorem idxP_anyO {α : Type} (p : α → Bool) (l : List α) : decide (0 ≤ idxP p l) = l.any p := by
  induction l with
  | nil => rfl
  | cons x l ih =>
    rw [List.any_cons, ← ih]
    show decide (0 ≤ (if p x then (0 : Int) else if idxP p l < 0 then -1 else idxP p l + 1)) = _
    cases h : p x
    · simp only [Bool.false_eq_true, if_false, Bool.false_or]
      by_cases h1 : idxP p l < 0
      · rw [if_pos h1, decide_eq_false (by omega), decide_eq_false (by omega)]
      · rw [if_neg h1, decide_eq_true (by omega), decide_eq_true (by omega)]
    · simp
theorem sch_none {o : Objs} {name : ByteArray} (h : schAt o.schemas name < 0) : ∀ y ∈ o.schemas, cmpS y.name name ≠ 0 := fun y hy e => by
  obtain ⟨k, hk, rfl⟩ := List.getElem_of_mem hy
  have h1 := idxP_range (fun c : Sch => eqS c.name name) o.schemas
  have h2 : schAt o.schemas name = -1 := by unfold schAt at *; omega
  have h3 : o.schemas.any (fun c => eqS c.name name) = true := List.any_eq_true.2 ⟨_, hy, (cmpS_eq _ _).1 e⟩
  rw [← idxP_anyO] at h3
  have := of_decide_eq_true h3
  unfold schAt at h2
  omega
theorem checkO_rises {o : Objs} (h : checkO o = true) : risesB cmpTb o.tables = true ∧ risesB cmpSc o.schemas = true ∧ o.schemas.length ≤ 8 ∧ o.tables.length ≤ 64 := by
  unfold checkO headOk at h
  simp only [Bool.and_eq_true, decide_eq_true_eq] at h
  exact ⟨h.1.1.2, h.1.2, h.1.1.1.1, h.1.1.1.2⟩
end Go.Proofs.Yticjnndhpfdajaa
