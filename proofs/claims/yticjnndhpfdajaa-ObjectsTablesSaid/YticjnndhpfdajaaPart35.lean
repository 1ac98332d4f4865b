/- Contracts of the program, part 35. -/
import Derived.Test.YticjnndhpfdajaaPart30
import Derived.Test.YticjnndhpfdajaaPart34
import Derived.Test.YticjnndhpfdajaaPart31
/- The document's AddTable: append of one table, the frame of the end. -/
namespace Go.Proofs.Yticjnndhpfdajaa
open Go.RowKit Go.Deep
set_option maxRecDepth 100000
set_option linter.unusedVariables false
theorem app_tab {ops : Array Oper} {rest : List Oper} {o : Oper} {a : Act} {w : World} {Q : Exit → Act → World → Prop} (hgd : o.guard = none) (s x : Operand)
    (ho : o.op = .call { callee := .builtin .append, args := #[s, x], argTypes := #[23, 23] }) (base : Nat) (v : Value) (n : Nat) (xs : List Value) (hs : a.eval s = v) (hown : w.ownsRow base 29 5 v n xs)
    (b : Nat) (y : OTab) (c0 c1 c2 : ByteArray) (A2 : Option Addr) (n2 k2 : Nat) (A3 : Option Addr) (n3 k3 : Nat) (hy : y.cells = [.string c0, .string c1, .string c2, .slice A2 n2 k2, .slice A3 n3 k3]) (hx : a.eval x = .slice (some ⟨b, 0, none⟩) 1 1) (hb : w.heap[b]? = some (.cells #[.string c0, .string c1, .string c2, .slice A2 n2 k2, .slice A3 n3 k3] 29)) (hn : n ≤ 1000000) (hbase : base ≤ w.heap.size)
    (h : ∀ g cap w', w'.ownsRow base 29 5 (.slice (some ⟨g, 0, none⟩) (n + 1) cap) (n + 1) (xs ++ y.cells) → w.grownBy w' v.ownBlock → (v.ownBlock = some g ∨ g = w.heap.size) → wpList Try.prog ops Q rest (a.put o.dst (.slice (some ⟨g, 0, none⟩) (n + 1) cap)) w') : wpList Try.prog ops Q (o :: rest) a w := by
  obtain ⟨i0, hi0, hz0, hz1, hz2⟩ := info_parts info2Tab
  rw [hy] at h
  exact wpList_append_lies w hgd s x 23 ho base 29 i0 _ 5 96 Try.underlying23 hi0 hz0 hz1 hz2 rfl (by decide) v n xs hs hown ⟨b, 0, none⟩ 1 1 [.string c0, .string c1, .string c2, .slice A2 n2 k2, .slice A3 n3 k3] hx rfl (World.news_of_block (cs := #[.string c0, .string c1, .string c2, .slice A2 n2 k2, .slice A3 n3 k3]) (t := 29) (fr := (0, 0)) hb) (by simp [Value.oneCell']) (by omega) (by unfold maxLen; omega) (by omega) hbase _ rfl fun g cap w' h1 h2 h3 _ => h g cap w' h1 h2 h3
structure GrT (X wr : World) (h : Hd) (l xs : List OTab) : Prop where
  aft : Aft X wr
  own : wr.ownsRow X.heap.size 29 5 h.v l.length (l.flatMap OTab.cells)
  each : ∀ x ∈ xs, TabIn wr X.heap.size x
  nd : (h.blk ++ xs.flatMap OTab.blks).Nodup
theorem GrT.start (X : World) : GrT X X ⟨none, 0, 0⟩ [] [] := ⟨Aft.refl X, own_nil _ _ _ _, fun x hx => by simp at hx, by simp [blk_nil]⟩
theorem GrT.own' {X wr : World} {h : Hd} {l xs : List OTab} (g : GrT X wr h l xs) : wr.ownsRow X.heap.size 29 5 (.slice h.a l.length h.c) l.length (l.flatMap OTab.cells) := by
  have := g.own
  rw [own_slice this] at this
  exact this
theorem GrT.grow {X wr w4 w5 : World} {h : Hd} {l xs : List OTab} {y : OTab} {gg cap : Nat} (g : GrT X wr h l xs) (a4 : Aft wr w4) (ho : w5.ownsRow X.heap.size 29 5 (.slice (some ⟨gg, 0, none⟩) (l.length + 1) cap) (l.length + 1) (l.flatMap OTab.cells ++ y.cells))
    (hg : w4.grownBy w5 (Value.slice h.a l.length h.c).ownBlock) (hat : (Value.slice h.a l.length h.c).ownBlock = some gg ∨ gg = w4.heap.size) : GrT X w5 ⟨some ⟨gg, 0, none⟩, l.length + 1, cap⟩ (l ++ [y]) xs := by
  have hv : h.v = .slice h.a l.length h.c := own_slice g.own
  rw [← hv] at hg hat
  have kg : Kb (fun b => h.v.ownBlock = some b) w4 w5 := Kb.of_grown hg
  have hz := a4.size
  refine ⟨aft_grown (own_aft g.own a4) (g.aft.trans a4) hg, ?_, fun x hx => ((g.each x hx).aft a4).kb kg fun b hb hb2 => ?_, ?_⟩
  · rw [List.length_append, List.flatMap_append, List.flatMap_cons, List.flatMap_nil, List.append_nil]; exact ho
  · exact nodup_disj g.nd (Hd.mem_blk.2 hb2) (List.mem_flatMap.2 ⟨x, hx, hb⟩)
  · refine List.nodup_append.2 ⟨blk_nodup _, (List.nodup_append.1 g.nd).2.1, fun a ha b hb e => ?_⟩
    subst e
    rw [blk_some, List.mem_singleton] at ha
    subst ha
    rcases hat with h1 | h1
    · exact nodup_disj g.nd (Hd.mem_blk.2 h1) hb
    · obtain ⟨x, hx, hbx⟩ := List.mem_flatMap.1 hb
      have := ((g.each x hx).lt _ hbx).2
      omega
theorem GrT.growNew {X wr w4 w5 : World} {h : Hd} {l : List OTab} {y : OTab} {gg cap : Nat} (g : GrT X wr h l []) (a4 : Aft wr w4) (tx : TabIn w4 wr.heap.size y) (nx : y.blks.Nodup) (ho : w5.ownsRow X.heap.size 29 5 (.slice (some ⟨gg, 0, none⟩) (l.length + 1) cap) (l.length + 1) (l.flatMap OTab.cells ++ y.cells))
    (hg : w4.grownBy w5 (Value.slice h.a l.length h.c).ownBlock) (hat : (Value.slice h.a l.length h.c).ownBlock = some gg ∨ gg = w4.heap.size) : GrT X w5 ⟨some ⟨gg, 0, none⟩, l.length + 1, cap⟩ (l ++ [y]) [y] := by
  have g1 := g.grow a4 ho hg hat
  have hv : h.v = .slice h.a l.length h.c := own_slice g.own
  rw [← hv] at hg hat
  have kg : Kb (fun b => h.v.ownBlock = some b) w4 w5 := Kb.of_grown hg
  have hz := a4.size
  have hlt : ∀ b, h.v.ownBlock = some b → b < wr.heap.size := fun b hb => (g.own.lt b hb).2
  refine ⟨g1.aft, g1.own, fun x hx => ?_, ?_⟩
  · rw [List.mem_singleton] at hx
    subst hx
    exact (tx.kb kg fun b hb hb2 => by have := (tx.lt b hb).1; have := hlt b hb2; omega).down g.aft.size
  · rw [List.flatMap_cons, List.flatMap_nil, List.append_nil]
    refine List.nodup_append.2 ⟨blk_nodup _, nx, fun a ha b hb e => ?_⟩
    subst e
    rw [blk_some, List.mem_singleton] at ha
    subst ha
    have := tx.lt _ hb
    rcases hat with h1 | h1
    · have := hlt _ h1; omega
    · omega
/-- the end: the tables in our own box are others -/
theorem endT {w W w2 w3 wr : World} {b : Nat} {o : Objs} {hs ht h : Hd} {L l : List OTab} {x : OTab} (aW : Aft w W) (rW : RowAt W b [.slice none 0 0, .slice none 0 0]) (hbw : w.heap.size ≤ b) (a2 : Aft W w2) (a3 : Aft w2 w3) (hL : L.map OTab.t = o.tables) (ob : ObjIn w3 w2.heap.size hs ht o.schemas L)
    (g : GrT (OutO w3 (.slice hs.a o.schemas.length hs.c) (.slice ht.a o.tables.length ht.c)) wr h l [x]) (hp : l.Perm (L ++ [x])) (n : Nat) (hn : n = l.length) :
      RowAt (wr.setCell ⟨w3.heap.size, 1, none⟩ (.slice h.a n h.c)) w3.heap.size [.slice hs.a o.schemas.length hs.c, .slice h.a n h.c] ∧
      RowAt (((wr.setCell ⟨w3.heap.size, 1, none⟩ (.slice h.a n h.c)).setCell ⟨b, 0, none⟩ (.slice hs.a o.schemas.length hs.c)).setCell ⟨b, 1, none⟩ (.slice h.a n h.c)) b [.slice hs.a o.schemas.length hs.c, .slice h.a n h.c] ∧
      ObjP w (⟨o.schemas, l.map OTab.t⟩, 0) (.returned (.tuple #[.agg #[.slice hs.a o.schemas.length hs.c, .slice h.a n h.c], .int .i64 0])) (((wr.setCell ⟨w3.heap.size, 1, none⟩ (.slice h.a n h.c)).setCell ⟨b, 0, none⟩ (.slice hs.a o.schemas.length hs.c)).setCell ⟨b, 1, none⟩ (.slice h.a n h.c)) := by
  subst hn
  have ar := g.aft
  have ho := g.own'
  rw [OutO.size] at ho
  have z2 := a2.size
  have zb := rW.1
  have zw := aW.size
  have z3 := a3.size
  have zr := ar.size
  rw [OutO.size] at zr
  have a3r := (OutO.aft w3 (.slice hs.a o.schemas.length hs.c) (.slice ht.a o.tables.length ht.c)).trans ar
  have aw := (aW.trans a2).trans (a3.trans a3r)
  have rb := (OutO.row w3 (.slice hs.a o.schemas.length hs.c) (.slice ht.a o.tables.length ht.c)).aft ar
  have rr := (rW.aft a2).aft (a3.trans a3r)
  have hlt := ob.lt
  have tx := g.each x (by simp)
  rw [OutO.size] at tx
  have ghb : ∀ c ∈ (Hd.mk h.a l.length h.c).blk, w3.heap.size + 1 ≤ c := fun c hb => (ho.lt c (Hd.mem_blk.1 hb)).1
  have hnd := g.nd
  rw [List.flatMap_cons, List.flatMap_nil, List.append_nil] at hnd
  have hhv : ∀ c ∈ (Hd.mk h.a l.length h.c).blk, c ∈ h.blk := fun c hb => by
    rw [Hd.mem_blk] at hb ⊢
    rw [own_slice g.own]; exact hb
  have obn : ObjIn wr (W.heap.size) hs ⟨h.a, l.length, h.c⟩ o.schemas l :=
    (ob.down (B' := W.heap.size) (by omega)).newTab (P := fun _ => False) (Kb.of_aft a3r) (fun _ _ h => h) hp (own_down ho (by omega)) (tx.down (by omega)) (List.nodup_append.1 hnd).2.1 (fun c hb => by have := (tx.lt c hb).1; omega)
      (fun c hb => ⟨.inr (by have := ghb c hb; omega), fun hb2 => nodup_disj hnd (hhv c hb) hb2⟩)
  have hltn : ∀ c ∈ hs.blk ++ ((Hd.mk h.a l.length h.c).blk ++ l.flatMap OTab.blks), c ≠ w3.heap.size ∧ c ≠ b := fun c hb => by
    have hb1 := (obn.lt c hb).1
    refine ⟨fun e => ?_, by omega⟩
    rcases List.mem_append.1 hb with h1 | h1
    · have := (hlt c (List.mem_append.2 (.inl h1))).2; omega
    · rcases List.mem_append.1 h1 with h2 | h2
      · have := ghb c h2; omega
      · obtain ⟨y, hy, hby⟩ := List.mem_flatMap.1 h2
        rcases List.mem_append.1 (hp.subset hy) with h3 | h3
        · have := (hlt c (List.mem_append.2 (.inr (List.mem_append.2 (.inr (List.mem_flatMap.2 ⟨y, h3, hby⟩)))))).2; omega
        · rw [List.mem_singleton] at h3
          subst h3
          have := (tx.lt c hby).1; omega
  have k1 := Kb.set wr w3.heap.size 1 (.slice h.a l.length h.c)
  have k2 := Kb.set (wr.setCell ⟨w3.heap.size, 1, none⟩ (.slice h.a l.length h.c)) b 0 (.slice hs.a o.schemas.length hs.c)
  have k3 := Kb.set ((wr.setCell ⟨w3.heap.size, 1, none⟩ (.slice h.a l.length h.c)).setCell ⟨b, 0, none⟩ (.slice hs.a o.schemas.length hs.c)) b 1 (.slice h.a l.length h.c)
  refine ⟨rb.set 1 _ (by simp), setO_row (k1.row rr (by omega)) rfl _ _, ⟨hs, ⟨h.a, l.length, h.c⟩, l, rfl, by simp, ?_, ?_⟩⟩
  · exact k3.to_aft (k2.to_aft (k1.to_aft aw (fun g hg e => by omega)) (fun g hg e => by omega)) (fun g hg e => by omega)
  · exact ((((obn.kb k1 fun g hg e => (hltn g hg).1 e).kb k2 fun g hg e => (hltn g hg).2 e).kb k3 fun g hg e => (hltn g hg).2 e)).down (by omega)
end Go.Proofs.Yticjnndhpfdajaa
/- The document's AddTable. -/
namespace Go.Proofs.Yticjnndhpfdajaa
open Go.RowKit Go.Deep
set_option maxRecDepth 100000
set_option linter.unusedVariables false
theorem map_insAt {α β : Type} (f : α → β) (l : List α) (p : Nat) (x : α) : (insAt l p x).map f = insAt (l.map f) p (f x) := by unfold insAt; simp
theorem perm_insAt {α : Type} (l : List α) (p : Nat) (x : α) : (insAt l p x).Perm (l ++ [x]) := by
  unfold insAt
  have h1 : (l.take p ++ ([x] ++ l.drop p)).Perm (l.take p ++ (l.drop p ++ [x])) := List.perm_append_comm.append_left _
  rw [← List.append_assoc, ← List.append_assoc, List.take_append_drop] at h1
  exact h1
theorem cmpTb_less (x y : Tab) : (ltS x.schema y.schema || (eqS x.schema y.schema && ltS x.name y.name)) = decide (cmpTb x y < 0) := by
  unfold cmpTb or2
  by_cases h : cmpS x.schema y.schema = 0
  · rw [if_pos (by simpa using h), (cmpS_eq _ _).1 h, ← cmpS_lt, ← cmpS_lt, decide_eq_false (by omega : ¬ cmpS x.schema y.schema < 0)]; simp
  · have : eqS x.schema y.schema = false := by rw [Bool.eq_false_iff]; exact fun e => h ((cmpS_eq _ _).2 e)
    rw [if_neg (by simpa using h), this, ← cmpS_lt]; simp
/-- where the loop stands -/
def LsT (L : List OTab) (t : Tab) (p k : Nat) (l xs : List OTab) : Prop := (k ≤ p ∧ xs = [] ∧ l = L.take k) ∨ (p < k ∧ ∃ x, x.t = t ∧ xs = [x] ∧ l = insK L p x k)
theorem LsT.len {L : List OTab} {t : Tab} {p k : Nat} {l xs : List OTab} (h : LsT L t p k l xs) (hk : k ≤ L.length) : l.length ≤ L.length + 1 := by
  rcases h with ⟨_, _, rfl⟩ | ⟨_, x, _, _, rfl⟩
  · simp; omega
  · exact insK_len _ _ _ _ hk
theorem LsT.before {L : List OTab} {t : Tab} {p k : Nat} {l xs : List OTab} (h : LsT L t p k l xs) (hk : k < L.length) (hp : k < p) : LsT L t p (k + 1) (l ++ [L[k]]) xs := by
  rcases h with ⟨_, h2, rfl⟩ | ⟨h1, _⟩
  · exact .inl ⟨by omega, h2, (List.take_succ_eq_append_getElem hk).symm⟩
  · omega
theorem LsT.here {L : List OTab} {t : Tab} {k : Nat} {l xs : List OTab} {x : OTab} (h : LsT L t k k l xs) (hk : k < L.length) (hx : x.t = t) : xs = [] ∧ LsT L t k (k + 1) (l ++ [x] ++ [L[k]]) [x] := by
  rcases h with ⟨_, h2, rfl⟩ | ⟨h1, _⟩
  · refine ⟨h2, .inr ⟨by omega, x, hx, rfl, ?_⟩⟩
    rw [insK_at _ _ _ hk]
    unfold insK
    rw [if_neg (by omega)]
  · omega
theorem LsT.after {L : List OTab} {t : Tab} {p k : Nat} {l xs : List OTab} (h : LsT L t p k l xs) (hk : k < L.length) (hp : p < k) : LsT L t p (k + 1) (l ++ [L[k]]) xs := by
  rcases h with ⟨h1, _⟩ | ⟨_, x, hx, h2, rfl⟩
  · omega
  · exact .inr ⟨by omega, x, hx, h2, (insK_gt _ _ _ _ hk hp).symm⟩
theorem LsT.done {L : List OTab} {t : Tab} {p : Nat} {l xs : List OTab} (h : LsT L t p L.length l xs) (hp : p < L.length) : ∃ x, x.t = t ∧ xs = [x] ∧ l = insAt L p x := by
  rcases h with ⟨h1, _⟩ | ⟨_, x, hx, h2, rfl⟩
  · omega
  · exact ⟨x, hx, h2, insK_end _ _ _ hp⟩
theorem LsT.last {L : List OTab} {t : Tab} {l xs : List OTab} (h : LsT L t L.length L.length l xs) : xs = [] ∧ l = L := by
  rcases h with ⟨_, h2, h3⟩ | ⟨h1, _⟩
  · exact ⟨h2, by rw [h3, List.take_length]⟩
  · omega
set_option maxHeartbeats 16000000 in
theorem rAddTable_in (o : Objs) (As : Option Addr) (caps : Nat) (At : Option Addr) (capt : Nat) (t : Tab) (Ac : Option Addr) (cc : Nat) (Ar : Option Addr) (cr : Nat) (w : World) (hsch : SlAt w 2 SchR As caps o.schemas) (htab : SlAt w 5 TabR At capt o.tables) (hcs : SlAt w 3 ColR Ac cc t.cols) (hrs : SlAt w 8 RulR Ar cr t.rules) (h1 : Small t.schema.size) (h2 : Small t.name.size) (h3 : Small t.owner.size) :
    Calls Try.prog 7 #[.agg #[.slice As o.schemas.length caps, .slice At o.tables.length capt], .agg #[.string t.schema, .string t.name, .string t.owner, .slice Ac t.cols.length cc, .slice Ar t.rules.length cr]] w (ObjP w (chgR o (addTabR t o))) := by
  have hlen := hsch.len
  have hlen2 := htab.len
  have l1 : w.heap.size < w.heap.size + 1 := by omega
  have l2 : w.heap.size < w.heap.size + 1 + 1 := by omega
  obtain ⟨W, hW⟩ : ∃ W, W = ((w.alloc (.cells #[.slice As o.schemas.length caps, .slice At o.tables.length capt] 25)).alloc (.cells #[.string t.schema, .string t.name, .string t.owner, .slice Ac t.cols.length cc, .slice Ar t.rules.length cr] 29)).alloc (.cells #[.slice none 0 0, .slice none 0 0] 25) := ⟨_, rfl⟩
  have aW : Aft w W := by rw [hW]; exact (((Aft.refl w).alloc _).alloc _).alloc _
  have r0 : RowAt W w.heap.size [.slice As o.schemas.length caps, .slice At o.tables.length capt] := by rw [hW]; exact (box_row2 (Aft.refl _)).aft (((Aft.refl _).alloc _).alloc _)
  have r1 : RowAt W (w.heap.size + 1) [.string t.schema, .string t.name, .string t.owner, .slice Ac t.cols.length cc, .slice Ar t.rules.length cr] := by
    rw [hW]
    have := (box_row2 (w := w.alloc (.cells #[.slice As o.schemas.length caps, .slice At o.tables.length capt] 25)) (c := [.string t.schema, .string t.name, .string t.owner, .slice Ac t.cols.length cc, .slice Ar t.rules.length cr]) (t := 29) (Aft.refl _)).aft ((Aft.refl _).alloc (.cells #[.slice none 0 0, .slice none 0 0] 25))
    simpa using this
  have r2 : RowAt W (w.heap.size + 1 + 1) [.slice none 0 0, .slice none 0 0] := by
    rw [hW]
    have := (box_row2 (w := (w.alloc (.cells #[.slice As o.schemas.length caps, .slice At o.tables.length capt] 25)).alloc (.cells #[.string t.schema, .string t.name, .string t.owner, .slice Ac t.cols.length cc, .slice Ar t.rules.length cr] 29)) (c := [.slice none 0 0, .slice none 0 0]) (t := 25) (Aft.refl _))
    simpa using this
  have KF := Lib.hid (show ∀ V, Aft W V → (V.cell? ⟨w.heap.size, 0, none⟩ = some (.slice As o.schemas.length caps) ∧ V.cell? ⟨w.heap.size, 1, none⟩ = some (.slice At o.tables.length capt) ∧ w.heap.size < V.heap.size ∧ V.cell? ⟨w.heap.size + 1, 0, none⟩ = some (.string t.schema) ∧ V.cell? ⟨w.heap.size + 1, 1, none⟩ = some (.string t.name) ∧ V.cell? ⟨w.heap.size + 1, 2, none⟩ = some (.string t.owner) ∧ V.cell? ⟨w.heap.size + 1, 3, none⟩ = some (.slice Ac t.cols.length cc) ∧ V.cell? ⟨w.heap.size + 1, 4, none⟩ = some (.slice Ar t.rules.length cr) ∧ w.heap.size + 1 < V.heap.size) ∧ (V.cell? ⟨w.heap.size + 1 + 1, 0, none⟩ = some (.slice none 0 0) ∧ V.cell? ⟨w.heap.size + 1 + 1, 1, none⟩ = some (.slice none 0 0) ∧ V.frozen? ⟨w.heap.size + 1 + 1, 0, none⟩ = false ∧ V.frozen? ⟨w.heap.size + 1 + 1, 1, none⟩ = false ∧ w.heap.size + 1 + 1 < V.heap.size) from fun V a => by
    have q := r0.aft a
    have p := r1.aft a
    have z := r2.aft a
    exact ⟨⟨q.cell (j := 0) rfl, q.cell (j := 1) rfl, q.1, p.cell (j := 0) rfl, p.cell (j := 1) rfl, p.cell (j := 2) rfl, p.cell (j := 3) rfl, p.cell (j := 4) rfl, p.1⟩, ⟨z.cell (j := 0) rfl, z.cell (j := 1) rfl, z.2.2 0 (by simp), z.2.2 1 (by simp), z.1⟩⟩)
  have KN := Lib.hid (show ∀ V, Aft W V → ∀ x : Int, ObjP w (zeroO, x) (.returned (.tuple #[.agg #[.slice none 0 0, .slice none 0 0], .int .i64 x])) ((V.setCell ⟨w.heap.size + 1 + 1, 0, none⟩ (.slice none 0 0)).setCell ⟨w.heap.size + 1 + 1, 1, none⟩ (.slice none 0 0)) from fun V a x => objP_zset (aW.trans a) (by omega))
  have KB := Lib.hid (show ∀ V, Aft W V → RowAt V (w.heap.size + 1 + 1) [.slice none 0 0, .slice none 0 0] from fun V a => r2.aft a)
  have KB0 := Lib.hid r2
  obtain ⟨q, hq⟩ : ∃ q, checkO o = q := ⟨_, rfl⟩
  obtain ⟨u1, hu1⟩ : ∃ u, nameB t.name = u := ⟨_, rfl⟩
  obtain ⟨u2, hu2⟩ : ∃ u, nameB t.owner = u := ⟨_, rfl⟩
  obtain ⟨i, hi⟩ : ∃ i, schAt o.schemas t.schema = i := ⟨_, rfl⟩
  obtain ⟨j, hj⟩ : ∃ j, tabAt o.tables t.schema t.name = j := ⟨_, rfl⟩
  obtain ⟨m, hm⟩ : ∃ m, within o.tables t.schema = m := ⟨_, rfl⟩
  obtain ⟨c, hc⟩ : ∃ c, colsOk t.cols = c := ⟨_, rfl⟩
  obtain ⟨p, hp⟩ : ∃ p, posB cmpTb o.tables t = p := ⟨_, rfl⟩
  have hpl : p ≤ o.tables.length := by rw [← hp]; exact posB_le _ _ _
  have C1 := Lib.hid (show ∀ V, Aft W V → _ from fun V a => hq ▸ rRight_any o As caps At capt V (schs_aft (aW.trans a) hsch) (tabs_aft (aW.trans a) htab))
  have C2 := Lib.hid (show ∀ V, _ from fun V => hu1 ▸ rname_any t.name V h2.max)
  have C3 := Lib.hid (show ∀ V, _ from fun V => hu2 ▸ rname_any t.owner V h3.max)
  have C4 := Lib.hid (show ∀ V, Aft W V → _ from fun V a => hi ▸ rsch_any As caps o.schemas (.slice At o.tables.length capt) t.schema V (schs_aft (aW.trans a) hsch))
  have C5 := Lib.hid (show ∀ V, Aft W V → _ from fun V a => hj ▸ rtab_any (.slice As o.schemas.length caps) At capt o.tables t.schema t.name V (tabs_aft (aW.trans a) htab))
  have C6 := Lib.hid (show ∀ V, Aft W V → _ from fun V a => hm ▸ rtabs_any (.slice As o.schemas.length caps) At capt o.tables t.schema V (tabs_aft (aW.trans a) htab))
  have C7 := Lib.hid (show ∀ V, Aft W V → _ from fun V a => hc ▸ rcols_any Ac cc t.cols V (cols_aft (aW.trans a) hcs))
  have CO := Lib.hid (show q = true → ∀ V, Aft W V → _ from fun h V a => rOwn_in o As caps At capt V (schs_aft (aW.trans a) hsch) (tabs_aft (aW.trans a) htab) (check_mod (hq.trans h)))
  have CP := Lib.hid (show c = true → t.rules.length = 0 → ∀ V, Aft W V → Calls Try.prog 12 #[.agg #[.string t.schema, .string t.name, .string t.owner, .slice Ac t.cols.length cc, .slice Ar t.rules.length cr]] V (CopyO V t) from fun h1 h2 V a => rCopy_in t Ac cc Ar cr V (cols_aft (aW.trans a) hcs) (ruls_aft (aW.trans a) hrs) (by
    rw [h1] at hc
    have : t.cols.length ≤ 8 := by unfold colsOk at hc; simp only [Bool.and_eq_true, decide_eq_true_eq] at hc; exact hc.1.2
    refine ⟨by omega, by omega, fun r hr => ?_⟩
    rw [List.length_eq_zero_iff.1 h2] at hr
    cases hr))
  have HB := Lib.hid (show q = true → o.tables.length ≤ 64 ∧ Hid (j < 0 → ∀ k (hk : k < o.tables.length), (ltS t.schema o.tables[k].schema || (eqS t.schema o.tables[k].schema && ltS t.name o.tables[k].name)) = decide (p ≤ k)) from fun h => by
    have hr := checkO_rises (hq.trans h)
    refine ⟨hr.2.2.2, Lib.hid fun h0 k hk => ?_⟩
    have := new_less' preTb.tr preTb.anti hr.1 (x := t) (fun y hy => tab_none (by rw [hj]; exact h0) y hy) k hk
    rw [hp] at this
    rw [← this]
    exact cmpTb_less _ _)
  have HF := Lib.hid (show chgR o (addTabR t o) = if q then (if (!u1 || !u2) then (zeroO, 1) else if i < 0 then (zeroO, 61) else if 0 ≤ j then (zeroO, 60) else if 8 ≤ m then (zeroO, 2) else if (!c || decide (0 < t.rules.length)) then (zeroO, 63) else (⟨o.schemas, insAt o.tables p t⟩, 0)) else (zeroO, 63) from by
    unfold chgR addTabR
    rw [hq, hu1, hu2, hi, hj, hm, hc, hp])
  have HAW := Lib.hid aW
  clear hq hi hu1 hu2 hj hm hc hp hsch htab hcs hrs aW r0 r1 r2
  go_enter Try.func7, Try.ntmps7
  go_wp2_with fail
  rw [← hW]
  clear hW
  refine (C1.out _ (Aft.refl W)).mono ?_
  rintro e w1 ⟨rfl, a1⟩
  obtain ⟨⟨x0, x1, xz, t0, t1, t2, t3, t4, tz⟩, ⟨y0, y1, y2, y3, yz⟩⟩ := KF.out w1 a1
  have HA1 := Lib.hid a1
  clear a1
  cases q
  · go_wp2_with fail
    refine (rNo_in _ _).mono ?_
    rintro e w9 ⟨rfl, a2⟩
    obtain ⟨⟨_, _, _, _, _, _, _, _, _⟩, ⟨y0, y1, y2, y3, yz⟩⟩ := KF.out w9 (HA1.out.trans a2)
    have HP := Lib.hid (KN.out w9 (HA1.out.trans a2) 63)
    have HRW := Lib.hid (KB.out w9 (HA1.out.trans a2))
    clear a2
    go_wp2_with fail
    refine bodyPost_ret (results_cell_tmp (v := .agg #[.slice none 0 0, .slice none 0 0]) rfl _ rfl (lvObj_row (setO_row HRW.out rfl _ _))) rfl ?_
    rw [HF.out]
    exact HP.out
  obtain ⟨hb1, HT⟩ := HB.out (by first | trivial | rfl)
  clear HB
  go_wp2_with fail
  refine (C2.out w1).mono ?_
  rintro e w2 ⟨rfl, rfl⟩
  cases u1
  · go_wp2_with fail
    refine (rNo_in _ _).mono ?_
    rintro e w9 ⟨rfl, a2⟩
    obtain ⟨⟨_, _, _, _, _, _, _, _, _⟩, ⟨y0, y1, y2, y3, yz⟩⟩ := KF.out w9 (HA1.out.trans a2)
    have HP := Lib.hid (KN.out w9 (HA1.out.trans a2) 1)
    have HRW := Lib.hid (KB.out w9 (HA1.out.trans a2))
    clear a2
    go_wp2_with fail
    refine bodyPost_ret (results_cell_tmp (v := .agg #[.slice none 0 0, .slice none 0 0]) rfl _ rfl (lvObj_row (setO_row HRW.out rfl _ _))) rfl ?_
    rw [HF.out]
    exact HP.out
  go_wp2_with fail
  refine (C3.out w1).mono ?_
  rintro e w2 ⟨rfl, rfl⟩
  cases u2
  · go_wp2_with fail
    refine (rNo_in _ _).mono ?_
    rintro e w9 ⟨rfl, a2⟩
    obtain ⟨⟨_, _, _, _, _, _, _, _, _⟩, ⟨y0, y1, y2, y3, yz⟩⟩ := KF.out w9 (HA1.out.trans a2)
    have HP := Lib.hid (KN.out w9 (HA1.out.trans a2) 1)
    have HRW := Lib.hid (KB.out w9 (HA1.out.trans a2))
    clear a2
    go_wp2_with fail
    refine bodyPost_ret (results_cell_tmp (v := .agg #[.slice none 0 0, .slice none 0 0]) rfl _ rfl (lvObj_row (setO_row HRW.out rfl _ _))) rfl ?_
    rw [HF.out]
    exact HP.out
  go_wp2_with fail
  refine (C4.out w1 HA1.out).mono ?_
  rintro e w2 ⟨rfl, a2⟩
  obtain ⟨⟨x0, x1, xz, t0, t1, t2, t3, t4, tz⟩, ⟨y0, y1, y2, y3, yz⟩⟩ := KF.out w2 (HA1.out.trans a2)
  have HA2 := Lib.hid (HA1.out.trans a2)
  clear a2
  by_cases h0 : i < 0
  · have HH := Lib.hid h0
    go_wp2_with fail
    refine (rNo_in _ _).mono ?_
    rintro e w9 ⟨rfl, a2⟩
    obtain ⟨⟨_, _, _, _, _, _, _, _, _⟩, ⟨y0, y1, y2, y3, yz⟩⟩ := KF.out w9 (HA2.out.trans a2)
    have HP := Lib.hid (KN.out w9 (HA2.out.trans a2) 61)
    have HRW := Lib.hid (KB.out w9 (HA2.out.trans a2))
    clear a2
    go_wp2_with fail
    refine bodyPost_ret (results_cell_tmp (v := .agg #[.slice none 0 0, .slice none 0 0]) rfl _ rfl (lvObj_row (setO_row HRW.out rfl _ _))) rfl ?_
    rw [HF.out]
    simp only [Bool.not_true, Bool.not_false, Bool.or_self, Bool.or_false, Bool.false_or, Bool.true_or, Bool.or_true, Bool.false_eq_true, if_false, if_true, if_pos HH.out]
    exact HP.out
  have HH := Lib.hid h0
  go_wp2_with fail
  refine (C5.out w2 HA2.out).mono ?_
  rintro e w3 ⟨rfl, a3⟩
  obtain ⟨⟨x0, x1, xz, t0, t1, t2, t3, t4, tz⟩, ⟨y0, y1, y2, y3, yz⟩⟩ := KF.out w3 (HA2.out.trans a3)
  have HA3 := Lib.hid (HA2.out.trans a3)
  clear a3 h0
  by_cases h0 : 0 ≤ j
  · have HJ := Lib.hid h0
    go_wp2_with fail
    refine (rNo_in _ _).mono ?_
    rintro e w9 ⟨rfl, a2⟩
    obtain ⟨⟨_, _, _, _, _, _, _, _, _⟩, ⟨y0, y1, y2, y3, yz⟩⟩ := KF.out w9 (HA3.out.trans a2)
    have HP := Lib.hid (KN.out w9 (HA3.out.trans a2) 60)
    have HRW := Lib.hid (KB.out w9 (HA3.out.trans a2))
    clear a2
    go_wp2_with fail
    refine bodyPost_ret (results_cell_tmp (v := .agg #[.slice none 0 0, .slice none 0 0]) rfl _ rfl (lvObj_row (setO_row HRW.out rfl _ _))) rfl ?_
    rw [HF.out]
    simp only [Bool.not_true, Bool.not_false, Bool.or_self, Bool.or_false, Bool.false_or, Bool.true_or, Bool.or_true, Bool.false_eq_true, if_false, if_true, if_neg (show ¬ i < 0 by have := HH.out; omega), if_pos HJ.out]
    exact HP.out
  have HJ := Lib.hid h0
  have HTT := Lib.hid (HT.out (by omega))
  clear HT
  go_wp2_with fail
  refine (C6.out w3 HA3.out).mono ?_
  rintro e w4 ⟨rfl, a4⟩
  obtain ⟨⟨x0, x1, xz, t0, t1, t2, t3, t4, tz⟩, ⟨y0, y1, y2, y3, yz⟩⟩ := KF.out w4 (HA3.out.trans a4)
  have HA4 := Lib.hid (HA3.out.trans a4)
  clear a4 h0
  by_cases h8 : 8 ≤ m
  · have hd : (8 : Int) ≤ (m : Int) := by omega
    have HM := Lib.hid h8
    clear h8
    go_wp2_with fail
    refine (rNo_in _ _).mono ?_
    rintro e w9 ⟨rfl, a2⟩
    obtain ⟨⟨_, _, _, _, _, _, _, _, _⟩, ⟨y0, y1, y2, y3, yz⟩⟩ := KF.out w9 (HA4.out.trans a2)
    have HP := Lib.hid (KN.out w9 (HA4.out.trans a2) 2)
    have HRW := Lib.hid (KB.out w9 (HA4.out.trans a2))
    clear a2
    go_wp2_with fail
    refine bodyPost_ret (results_cell_tmp (v := .agg #[.slice none 0 0, .slice none 0 0]) rfl _ rfl (lvObj_row (setO_row HRW.out rfl _ _))) rfl ?_
    rw [HF.out]
    simp only [Bool.not_true, Bool.not_false, Bool.or_self, Bool.or_false, Bool.false_or, Bool.true_or, Bool.or_true, Bool.false_eq_true, if_false, if_true, if_neg (show ¬ i < 0 by have := HH.out; omega), if_neg (show ¬ 0 ≤ j by have := HJ.out; omega), if_pos HM.out]
    exact HP.out
  have hd : ¬ (8 : Int) ≤ (m : Int) := by omega
  have HM := Lib.hid h8
  clear h8
  go_wp2_with fail
  refine (C7.out w4 HA4.out).mono ?_
  rintro e w5 ⟨rfl, a5⟩
  obtain ⟨⟨x0, x1, xz, t0, t1, t2, t3, t4, tz⟩, ⟨y0, y1, y2, y3, yz⟩⟩ := KF.out w5 (HA4.out.trans a5)
  have HA5 := Lib.hid (HA4.out.trans a5)
  clear a5
  cases c
  · go_wp2_with fail
    refine (rNo_in _ _).mono ?_
    rintro e w9 ⟨rfl, a2⟩
    obtain ⟨⟨_, _, _, _, _, _, _, _, _⟩, ⟨y0, y1, y2, y3, yz⟩⟩ := KF.out w9 (HA5.out.trans a2)
    have HP := Lib.hid (KN.out w9 (HA5.out.trans a2) 63)
    have HRW := Lib.hid (KB.out w9 (HA5.out.trans a2))
    clear a2
    go_wp2_with fail
    refine bodyPost_ret (results_cell_tmp (v := .agg #[.slice none 0 0, .slice none 0 0]) rfl _ rfl (lvObj_row (setO_row HRW.out rfl _ _))) rfl ?_
    rw [HF.out]
    simp only [Bool.not_true, Bool.not_false, Bool.or_self, Bool.or_false, Bool.false_or, Bool.true_or, Bool.or_true, Bool.false_eq_true, if_false, if_true, if_neg (show ¬ i < 0 by have := HH.out; omega), if_neg (show ¬ 0 ≤ j by have := HJ.out; omega), if_neg HM.out]
    exact HP.out
  by_cases hr0 : 0 < t.rules.length
  · have hd9 : (0 : Int) < (t.rules.length : Int) := by omega
    have HR := Lib.hid hr0
    clear hr0
    go_wp2_with fail
    refine (rNo_in _ _).mono ?_
    rintro e w9 ⟨rfl, a2⟩
    obtain ⟨⟨_, _, _, _, _, _, _, _, _⟩, ⟨y0, y1, y2, y3, yz⟩⟩ := KF.out w9 (HA5.out.trans a2)
    have HP := Lib.hid (KN.out w9 (HA5.out.trans a2) 63)
    have HRW := Lib.hid (KB.out w9 (HA5.out.trans a2))
    clear a2
    go_wp2_with fail
    refine bodyPost_ret (results_cell_tmp (v := .agg #[.slice none 0 0, .slice none 0 0]) rfl _ rfl (lvObj_row (setO_row HRW.out rfl _ _))) rfl ?_
    rw [HF.out]
    simp only [Bool.not_true, Bool.not_false, Bool.or_self, Bool.or_false, Bool.false_or, Bool.true_or, Bool.or_true, Bool.false_eq_true, if_false, if_true, if_neg (show ¬ i < 0 by have := HH.out; omega), if_neg (show ¬ 0 ≤ j by have := HJ.out; omega), if_neg HM.out, decide_eq_true HR.out]
    exact HP.out
  have hd9 : ¬ (0 : Int) < (t.rules.length : Int) := by omega
  have HR := Lib.hid hr0
  have CPY := Lib.hid (CP.out (by first | trivial | rfl) (by omega))
  clear CP
  have CO' := Lib.hid (CO.out (by first | trivial | rfl) _ HA5.out)
  clear CO hr0
  go_wp2_with fail
  refine CO'.out.mono ?_
  rintro e w6 ⟨hs, ht, L, hL, rfl, a6, ob⟩
  obtain ⟨X, hX⟩ : ∃ X, X = OutO w6 (.slice hs.a o.schemas.length hs.c) (.slice ht.a o.tables.length ht.c) := ⟨_, rfl⟩
  have HAX := Lib.hid (show Aft W X by rw [hX]; exact (HA5.out.trans a6).trans (OutO.aft _ _ _))
  have zX : X.heap.size = w6.heap.size + 1 := by rw [hX]; exact OutO.size _ _ _
  have hLL : L.length = o.tables.length := by rw [← hL]; simp
  have KE := Lib.hid (show ∀ (wr : World) (h : Hd) (l : List OTab) (x : OTab), GrT X wr h l [x] → l.Perm (L ++ [x]) → ∀ n, n = l.length → _ from fun wr h l x g hp n hn => endT HAW.out KB0.out (by omega) HA5.out a6 hL ob (by rw [← hX]; exact g) hp n hn)
  have KX := Lib.hid (show ∀ V, Aft X V → (V.cell? ⟨w6.heap.size, 0, none⟩ = some (.slice hs.a o.schemas.length hs.c) ∧ V.cell? ⟨w6.heap.size, 1, none⟩ = some (.slice ht.a o.tables.length ht.c) ∧ V.frozen? ⟨w6.heap.size, 1, none⟩ = false ∧ w6.heap.size < V.heap.size) from fun V a => by
    rw [hX] at a
    have := (OutO.row w6 _ _).aft a
    exact ⟨this.cell (j := 0) rfl, this.cell (j := 1) rfl, this.2.2 1 (by simp), this.1⟩)
  have KL := Lib.hid (show ∀ k (hk : k < L.length), ∃ g, ht.a = some ⟨g, 0, none⟩ ∧ L[k].cells = [.string L[k].schema, .string L[k].name, .string L[k].owner, .slice L[k].hc.a L[k].cols.length L[k].hc.c, .slice L[k].hr.a L[k].rules.length L[k].hr.c] ∧
      ∀ V, Aft X V → (V.cell? ⟨g, k * 5, none⟩ = some (.string L[k].schema) ∧ V.cell? ⟨g, k * 5 + 1, none⟩ = some (.string L[k].name) ∧ V.cell? ⟨g, k * 5 + 2, none⟩ = some (.string L[k].owner) ∧ V.cell? ⟨g, k * 5 + 3, none⟩ = some (.slice L[k].hc.a L[k].cols.length L[k].hc.c) ∧ V.cell? ⟨g, k * 5 + 4, none⟩ = some (.slice L[k].hr.a L[k].rules.length L[k].hr.c) ∧ g < V.heap.size) from fun k hk => by
    obtain ⟨g, hga, _, _⟩ := own_place ob.tab (by omega)
    have hce := OTab.cells_of (ob.nth hk) rfl
    have hce : L[k].cells = [.string L[k].schema, .string L[k].name, .string L[k].owner, .slice L[k].hc.a L[k].cols.length L[k].hc.c, .slice L[k].hr.a L[k].rules.length L[k].hr.c] := by rw [hce]; simp [OTab.t]
    refine ⟨g, hga, hce, fun V a => ?_⟩
    have a3 : Aft w6 V := by rw [hX] at a; exact (OutO.aft _ _ _).trans a
    have c := fun (j : Nat) (hj : j < 5) => ob.cell (j := j) hga hk hj
    rw [hce] at c
    exact ⟨a3.cell_kept (c 0 (by decide)), a3.cell_kept (c 1 (by decide)), a3.cell_kept (c 2 (by decide)), a3.cell_kept (c 3 (by decide)), a3.cell_kept (c 4 (by decide)), Nat.lt_of_lt_of_le (ob.row hga hk).1 a3.size⟩)
  have HTL := Lib.hid (show ∀ k (hk : k < L.length), (ltS t.schema L[k].schema || (eqS t.schema L[k].schema && ltS t.name L[k].name)) = decide (p ≤ k) from fun k hk => by
    have := HTT.out k (by omega)
    rw [(List.getElem_of_eq hL.symm (by omega)).trans (List.getElem_map _)] at this
    exact this)
  have HZ := Lib.hid (show w.heap.size + 1 + 1 < w6.heap.size from Nat.lt_of_lt_of_le (KF.out _ HA5.out).2.2.2.2.2 a6.size)
  have HL := Lib.hid hL
  clear ob a6 hL HTT
  unfold OutO at hX
  go_wp2_with fail
  rw [← hX]
  clear hX CO'
  go_loopw [7, 8, 9] (fun u7 u8 u9 wr => ∃ (k : Nat) (h : Hd) (l xs : List OTab), u7 = .slice h.a l.length h.c ∧ u8 = .bool (decide (p < k)) ∧ u9 = .int .i64 k ∧ k ≤ o.tables.length ∧ GrT X wr h l xs ∧ LsT L t p k l xs) (fun _ _ u9 _ => o.tables.length - (intOf u9).toNat)
  case atStart => exact ⟨0, ⟨none, 0, 0⟩, [], [], rfl, by rw [decide_eq_false (Nat.not_lt_zero p)], rfl, Nat.zero_le _, GrT.start X, .inl ⟨Nat.zero_le _, rfl, by simp⟩⟩
  case round =>
    obtain ⟨k, h, l, xs, rfl, rfl, rfl, hk, hg, hls⟩ := hrel
    have HG := Lib.hid hg
    have HLS := Lib.hid hls
    have hdl := hls.len (by omega)
    obtain ⟨q0, q1, q2, qz⟩ := KX.out wr hg.aft
    obtain ⟨⟨x0, x1, xz, t0, t1, t2, t3, t4, tz⟩, ⟨y0, y1, y2, y3, yz⟩⟩ := KF.out wr (HAX.out.trans hg.aft)
    clear hg hls y0 y1 y2 y3 yz
    have hq8 : l.length ≤ 1000000 := by omega
    by_cases hlt : k < o.tables.length
    · obtain ⟨g, hga, hce, kl⟩ := KL.out k (by omega)
      obtain ⟨x, hx⟩ : ∃ x, L[k]'(by omega) = x := ⟨_, rfl⟩
      have HLE := HTL.out k (by omega)
      rw [hx] at hce kl HLE
      have HX3 := Lib.hid hx
      have HCE := Lib.hid hce
      have KLL := Lib.hid kl
      rw [hga] at q1
      clear hga
      obtain ⟨d0, d1, d2, d3, d4, dz⟩ := kl wr HG.out.aft
      have hb0 : (0 : Int) ≤ (k : Int) := by omega
      have hb1 : (k : Int) < (o.tables.length : Int) := by omega
      clear hx hce kl
      rcases Nat.lt_trichotomy k p with hc | hc | hc
      · have hp1 : decide (p < k) = false := decide_eq_false (by omega)
        rw [decide_eq_false (by omega : ¬ p ≤ k)] at HLE
        have HD := Lib.hid (show decide (p < k + 1) = false from decide_eq_false (by omega))
        have HN := Lib.hid (show LsT L t p (k + 1) (l ++ [x]) xs from by have := HLS.out.before (by omega) hc; rw [HX3.out] at this; exact this)
        rw [hp1]
        simp only [Bool.or_eq_false_iff, Bool.and_eq_false_iff] at HLE
        obtain ⟨e1, e2⟩ := HLE
        have e1 : Op.bytesLess t.schema.toList x.schema.toList = false := e1
        clear hp1 hc
        have e23 : (t.schema.toList == x.schema.toList) = false ∨ ((t.schema.toList == x.schema.toList) = true ∧ Op.bytesLess t.name.toList x.name.toList = false) := by
          by_cases e : (t.schema.toList == x.schema.toList) = true
          · exact .inr ⟨e, e2.resolve_left (fun h => by have h : (t.schema.toList == x.schema.toList) = false := h; rw [e] at h; cases h)⟩
          · exact .inl (by simpa using e)
        clear e2
        rcases e23 with e2 | ⟨e2, e3⟩
        all_goals
          go_wp2_with (at_builtin; go_must (refine app_tab rfl _ _ rfl X.heap.size (.slice h.a l.length h.c) l.length (l.flatMap OTab.cells) rfl (own_aft HG.out.own' (((Aft.refl wr).alloc _).alloc _)) _ x x.schema x.name x.owner x.hc.a x.cols.length x.hc.c x.hr.a x.rules.length x.hr.c HCE.out rfl ?qh hq8 ?qa ?_); rotate_left 2; intro gg cap' w5 hown5 hgrow hat; have HG5 := Lib.hid (HG.out.grow (((Aft.refl wr).alloc _).alloc _) hown5 hgrow hat); clear hown5 hgrow hat)
          case qh => first | exact heap_alloc_new _ _ | simpa using heap_alloc_new (wr.alloc (.cells #[.string x.schema, .string x.name, .string x.owner, .slice x.hc.a x.cols.length x.hc.c, .slice x.hr.a x.rules.length x.hr.c] 29)) _
          case qa => have := HG.out.aft.size; simp; omega
          go_roundw
          case rel => exact ⟨k + 1, ⟨some ⟨gg, 0, none⟩, l.length + 1, cap'⟩, l ++ [x], xs, by simp, by rw [HD.out], by go_num, by omega, HG5.out, HN.out⟩
          case measure => simp [intOf]; omega
      · subst hc
        have hp1 : decide (k < k) = false := decide_eq_false (by omega)
        rw [decide_eq_true (Nat.le_refl k)] at HLE
        have HD := Lib.hid (show decide (k < k + 1) = true from decide_eq_true (by omega))
        rw [hp1]
        have e123 : Op.bytesLess t.schema.toList x.schema.toList = true ∨ (Op.bytesLess t.schema.toList x.schema.toList = false ∧ (t.schema.toList == x.schema.toList) = true ∧ Op.bytesLess t.name.toList x.name.toList = true) := by
          have HLE : (Op.bytesLess t.schema.toList x.schema.toList || ((t.schema.toList == x.schema.toList) && Op.bytesLess t.name.toList x.name.toList)) = true := HLE
          cases e : Op.bytesLess t.schema.toList x.schema.toList
          · rw [e] at HLE; simp only [Bool.false_or, Bool.and_eq_true] at HLE; exact .inr ⟨rfl, HLE⟩
          · exact .inl rfl
        have KB10 := Lib.hid (show ∀ V V', Aft (wr.alloc (.cells #[.string x.schema, .string x.name, .string x.owner, .slice x.hc.a x.cols.length x.hc.c, .slice x.hr.a x.rules.length x.hr.c] 29)) V → V.grownBy V' (Value.slice h.a l.length h.c).ownBlock → RowAt V' wr.heap.size [.string x.schema, .string x.name, .string x.owner, .slice x.hc.a x.cols.length x.hc.c, .slice x.hr.a x.rules.length x.hr.c] from fun V V' a hg => by
          have r := (box_row2 (w := wr) (c := [.string x.schema, .string x.name, .string x.owner, .slice x.hc.a x.cols.length x.hc.c, .slice x.hr.a x.rules.length x.hr.c]) (t := 29) (Aft.refl _)).aft a
          exact (Kb.of_grown hg).row r (fun e => by have := (HG.out.own'.lt _ e).2; omega))
        clear hp1 HLE
        rcases e123 with e1 | ⟨e1, e2, e3⟩
        all_goals
          go_wp2_with fail
          refine (CPY.out _ (HAX.out.trans (HG.out.aft.trans ((Aft.refl _).alloc _)))).mono ?_
          rintro e w7 ⟨y, hyt, rfl, a7, tin, ynd⟩
          have HA7 := Lib.hid (((Aft.refl wr).alloc _).trans a7)
          obtain ⟨hxs, hn⟩ := HLS.out.here (by omega) hyt
          rw [HX3.out] at hn
          have HN := Lib.hid hn
          have HGN := Lib.hid (show GrT X wr h l [] from hxs ▸ HG.out)
          have HTI := Lib.hid (show TabIn w7 wr.heap.size y from tin.down (by simp))
          have HYC := Lib.hid (OTab.cells_of tin hyt)
          have HYN := Lib.hid ynd
          have HAB := Lib.hid a7
          have hq9 : (l ++ [y]).length ≤ 1000000 := by simp; omega
          clear a7 tin ynd hn hxs hyt
          go_wp2_with (first
            | (at_builtin; (refine app_tab rfl _ _ rfl X.heap.size (.slice h.a l.length h.c) l.length (l.flatMap OTab.cells) rfl (own_aft HG.out.own' (HA7.out.alloc _)) _ y t.schema t.name t.owner y.hc.a t.cols.length y.hc.c y.hr.a t.rules.length y.hr.c HYC.out rfl ?qh hq8 ?qa ?_); rotate_left 2; intro gg cap' w8 hown5 hgrow hat; have HG5 := Lib.hid (HGN.out.growNew (HA7.out.alloc _) (HTI.out.aft ((Aft.refl _).alloc _)) HYN.out hown5 hgrow hat); have r8 := KB10.out _ _ (HAB.out.alloc _) hgrow; have b0 := r8.cell (j := 0) rfl; have b1 := r8.cell (j := 1) rfl; have b2 := r8.cell (j := 2) rfl; have b3 := r8.cell (j := 3) rfl; have b4 := r8.cell (j := 4) rfl; have bz := r8.1; clear r8 hown5 hgrow hat)
            | (at_builtin; go_must (refine app_tab rfl _ _ rfl X.heap.size (.slice (some ⟨gg, 0, none⟩) (l.length + 1) cap') (l ++ [y]).length ((l ++ [y]).flatMap OTab.cells) rfl (own_aft HG5.out.own ((Aft.refl w8).alloc _)) _ x x.schema x.name x.owner x.hc.a x.cols.length x.hc.c x.hr.a x.rules.length x.hr.c HCE.out rfl ?qi hq9 ?qb ?_); rotate_left 2; intro gg2 cap2 w9 hown6 hgrow6 hat6; have HG6 := Lib.hid (HG5.out.grow ((Aft.refl w8).alloc _) hown6 hgrow6 hat6); clear hown6 hgrow6 hat6))
          case qh => exact heap_alloc_new _ _
          case qi => exact heap_alloc_new _ _
          case qa => have := HG.out.aft.size; have := HA7.out.size; simp; omega
          case qb => have := HG5.out.aft.size; simp; omega
          go_roundw
          case rel => exact ⟨k + 1, ⟨some ⟨gg2, 0, none⟩, (l ++ [y]).length + 1, cap2⟩, l ++ [y] ++ [x], [y], by simp, by rw [HD.out], by go_num, by omega, HG6.out, HN.out⟩
          case measure => simp [intOf]; omega
      · have hp1 : decide (p < k) = true := decide_eq_true (by omega)
        have HD := Lib.hid (show decide (p < k + 1) = true from decide_eq_true (by omega))
        have HN := Lib.hid (show LsT L t p (k + 1) (l ++ [x]) xs from by have := HLS.out.after (by omega) hc; rw [HX3.out] at this; exact this)
        rw [hp1]
        clear hp1 hc HLE
        go_wp2_with (at_builtin; go_must (refine app_tab rfl _ _ rfl X.heap.size (.slice h.a l.length h.c) l.length (l.flatMap OTab.cells) rfl (own_aft HG.out.own' (((Aft.refl wr).alloc _).alloc _)) _ x x.schema x.name x.owner x.hc.a x.cols.length x.hc.c x.hr.a x.rules.length x.hr.c HCE.out rfl ?qh hq8 ?qa ?_); rotate_left 2; intro gg cap' w5 hown5 hgrow hat; have HG5 := Lib.hid (HG.out.grow (((Aft.refl wr).alloc _).alloc _) hown5 hgrow hat); clear hown5 hgrow hat)
        case qh => first | exact heap_alloc_new _ _ | simpa using heap_alloc_new (wr.alloc (.cells #[.string x.schema, .string x.name, .string x.owner, .slice x.hc.a x.cols.length x.hc.c, .slice x.hr.a x.rules.length x.hr.c] 29)) _
        case qa => have := HG.out.aft.size; simp; omega
        go_roundw
        case rel => exact ⟨k + 1, ⟨some ⟨gg, 0, none⟩, l.length + 1, cap'⟩, l ++ [x], xs, by simp, by rw [HD.out], by go_num, by omega, HG5.out, HN.out⟩
        case measure => simp [intOf]; omega
    · have hk3 : k = o.tables.length := by omega
      subst hk3
      have hFF : chgR o (addTabR t o) = (⟨o.schemas, insAt o.tables p t⟩, 0) := by
        rw [HF.out]
        simp only [Bool.not_true, Bool.not_false, Bool.or_self, Bool.or_false, Bool.false_or, Bool.true_or, Bool.or_true, Bool.false_eq_true, if_false, if_true, if_neg (show ¬ i < 0 by have := HH.out; omega), if_neg (show ¬ 0 ≤ j by have := HJ.out; omega), if_neg HM.out, decide_eq_false HR.out]
      have hne1 : ¬ w6.heap.size = w.heap.size + 1 + 1 := by have := HZ.out; omega
      have hne2 : ¬ w.heap.size + 1 + 1 = w6.heap.size := by omega
      have K5 := Lib.hid (show ∀ (h : Hd) (l : List OTab) (y : OTab) (n : Nat) (V : World), GrT X V h l [y] → l.Perm (L ++ [y]) → l.map OTab.t = insAt o.tables p t → n = l.length → ((V.cell? ⟨w6.heap.size, 1, none⟩ = some (.slice ht.a o.tables.length ht.c) ∧ V.frozen? ⟨w6.heap.size, 1, none⟩ = false ∧ w6.heap.size < V.heap.size) ∧ ((V.setCell ⟨w6.heap.size, 1, none⟩ (.slice h.a n h.c)).cell? ⟨w6.heap.size, 0, none⟩ = some (.slice hs.a o.schemas.length hs.c) ∧ (V.setCell ⟨w6.heap.size, 1, none⟩ (.slice h.a n h.c)).cell? ⟨w6.heap.size, 1, none⟩ = some (.slice h.a n h.c)) ∧ (V.cell? ⟨w.heap.size + 1 + 1, 0, none⟩ = some (.slice none 0 0) ∧ V.cell? ⟨w.heap.size + 1 + 1, 1, none⟩ = some (.slice none 0 0) ∧ V.frozen? ⟨w.heap.size + 1 + 1, 0, none⟩ = false ∧ V.frozen? ⟨w.heap.size + 1 + 1, 1, none⟩ = false ∧ w.heap.size + 1 + 1 < V.heap.size) ∧
        Hid (RowAt (((V.setCell ⟨w6.heap.size, 1, none⟩ (.slice h.a n h.c)).setCell ⟨w.heap.size + 1 + 1, 0, none⟩ (.slice hs.a o.schemas.length hs.c)).setCell ⟨w.heap.size + 1 + 1, 1, none⟩ (.slice h.a n h.c)) (w.heap.size + 1 + 1) [.slice hs.a o.schemas.length hs.c, .slice h.a n h.c] ∧ ObjP w (chgR o (addTabR t o)) (.returned (.tuple #[.agg #[.slice hs.a o.schemas.length hs.c, .slice h.a n h.c], .int .i64 0])) (((V.setCell ⟨w6.heap.size, 1, none⟩ (.slice h.a n h.c)).setCell ⟨w.heap.size + 1 + 1, 0, none⟩ (.slice hs.a o.schemas.length hs.c)).setCell ⟨w.heap.size + 1 + 1, 1, none⟩ (.slice h.a n h.c)))) from fun h l y n V g hp hm hn => by
        obtain ⟨e1, e3, e4⟩ := KE.out V h l y g hp n hn
        obtain ⟨y0, y1, y2, yz⟩ := KX.out V g.aft
        rw [hFF, ← hm]
        exact ⟨⟨y1, y2, yz⟩, ⟨e1.cell (j := 0) rfl, e1.cell (j := 1) rfl⟩, (KF.out V (HAX.out.trans g.aft)).2, Lib.hid ⟨e3, e4⟩⟩)
      clear hFF
      rcases Nat.lt_or_ge p o.tables.length with hc | hc
      · have hp1 : decide (p < o.tables.length) = true := decide_eq_true hc
        have h9 : LsT L t p L.length l xs := by rw [hLL]; exact HLS.out
        obtain ⟨y, hyt, hxs, hl⟩ := h9.done (by omega)
        subst hxs
        obtain ⟨⟨f0, f1, fz⟩, ⟨g0, g1⟩, ⟨s0, s1, s2, s3, sz⟩, HE⟩ := K5.out h l y l.length wr HG.out (by rw [hl]; exact perm_insAt _ _ _) (by rw [hl, map_insAt, HL.out, hyt]) rfl
        rw [hp1]
        clear hp1 hc hl hyt
        go_wp2_with fail
        refine bodyPost_ret (results_cell_tmp (v := .agg #[.slice hs.a o.schemas.length hs.c, .slice h.a l.length h.c]) rfl _ rfl (lvObj_row HE.out.1)) rfl ?_
        exact HE.out.2
      · have hpe : p = o.tables.length := by omega
        subst hpe
        have hp1 : decide (o.tables.length < o.tables.length) = false := decide_eq_false (by omega)
        have h9 : LsT L t L.length L.length l xs := by rw [hLL]; exact HLS.out
        obtain ⟨hxs, hl⟩ := h9.last
        subst hxs
        have HLL2 := Lib.hid hl
        rw [hp1]
        clear hp1 hc hl h9
        go_wp2_with fail
        refine (CPY.out _ (HAX.out.trans HG.out.aft)).mono ?_
        rintro e w7 ⟨y, hyt, rfl, a7, tin, ynd⟩
        have HA7 := Lib.hid a7
        have HTI := Lib.hid tin
        have HYC := Lib.hid (OTab.cells_of tin hyt)
        have HYN := Lib.hid ynd
        have HM5 := Lib.hid (show (l ++ [y]).map OTab.t = insAt o.tables o.tables.length t from by rw [List.map_append, HLL2.out, HL.out]; unfold insAt; simp [hyt])
        have HP5 := Lib.hid (show (l ++ [y]).Perm (L ++ [y]) from by rw [HLL2.out])
        clear a7 tin ynd hyt
        go_wp2_with (at_builtin; go_must (refine app_tab rfl _ _ rfl X.heap.size (.slice h.a l.length h.c) l.length (l.flatMap OTab.cells) rfl (own_aft HG.out.own' (HA7.out.alloc _)) _ y t.schema t.name t.owner y.hc.a t.cols.length y.hc.c y.hr.a t.rules.length y.hr.c HYC.out rfl ?qh hq8 ?qa ?_); rotate_left 2; intro gg cap' w8 hown5 hgrow hat; have HG5 := Lib.hid (HG.out.growNew (HA7.out.alloc _) (HTI.out.aft ((Aft.refl _).alloc _)) HYN.out hown5 hgrow hat); obtain ⟨⟨f0, f1, fz⟩, ⟨g0, g1⟩, ⟨s0, s1, s2, s3, sz⟩, HE⟩ := K5.out ⟨some ⟨gg, 0, none⟩, l.length + 1, cap'⟩ (l ++ [y]) y (l.length + 1) w8 HG5.out HP5.out HM5.out (by simp); clear hown5 hgrow hat)
        case qh => exact heap_alloc_new _ _
        case qa => have := HG.out.aft.size; have := HA7.out.size; simp; omega
        refine bodyPost_ret (results_cell_tmp (v := .agg #[.slice hs.a o.schemas.length hs.c, .slice (some ⟨gg, 0, none⟩) (l.length + 1) cap']) rfl _ rfl (lvObj_row HE.out.1)) rfl ?_
        exact HE.out.2
end Go.Proofs.Yticjnndhpfdajaa
