/- Contracts of the program, part 30. -/
import Derived.Test.YtcdhljcpoopfaaaPart26
import Derived.Test.YtcdhljcpoopfaaaPart27
import Derived.Test.YtcdhljcpoopfaaaPart29
/- The frame of the document's functions of objects; append of one schema. -/
namespace Go.Proofs.Ytcdhljcpoopfaaa
open Go.RowKit Go.Deep
set_option maxRecDepth 100000
set_option linter.unusedVariables false
def BoxO (w : World) (v0 v1 : Value) : World := (w.alloc (.cells #[v0, v1] 45)).alloc (.cells #[.slice none 0 0, .slice none 0 0] 45)
theorem BoxO.aft (w : World) (v0 v1 : Value) : Aft w (BoxO w v0 v1) := ((Aft.refl w).alloc _).alloc _
theorem BoxO.size (w : World) (v0 v1 : Value) : (BoxO w v0 v1).heap.size = w.heap.size + 2 := by unfold BoxO; simp
theorem BoxO.row (w : World) (v0 v1 : Value) : RowAt (BoxO w v0 v1) w.heap.size [v0, v1] := (box_row2 (w := w) (c := [v0, v1]) (t := 45) (Aft.refl _)).aft ((Aft.refl _).alloc _)
theorem BoxO.res (w : World) (v0 v1 : Value) : RowAt (BoxO w v0 v1) (w.heap.size + 1) [.slice none 0 0, .slice none 0 0] := by
  have := box_row2 (w := w.alloc (.cells #[v0, v1] 45)) (c := [.slice none 0 0, .slice none 0 0]) (t := 45) (Aft.refl _)
  unfold BoxO
  simpa using this
theorem BoxO.read {w w' : World} {v0 v1 : Value} (a : Aft (BoxO w v0 v1) w') : w'.cell? ⟨w.heap.size, 0, none⟩ = some v0 ∧ w'.cell? ⟨w.heap.size, 1, none⟩ = some v1 ∧ w.heap.size < w'.heap.size := by
  have r := (BoxO.row w v0 v1).aft a
  exact ⟨r.cell (j := 0) rfl, r.cell (j := 1) rfl, r.1⟩
theorem BoxO.out {w w' : World} {v0 v1 : Value} (a : Aft (BoxO w v0 v1) w') : w'.cell? ⟨w.heap.size + 1, 0, none⟩ = some (.slice none 0 0) ∧ w'.cell? ⟨w.heap.size + 1, 1, none⟩ = some (.slice none 0 0) ∧ w'.frozen? ⟨w.heap.size + 1, 0, none⟩ = false ∧ w'.frozen? ⟨w.heap.size + 1, 1, none⟩ = false ∧ w.heap.size + 1 < w'.heap.size := by
  have r := (BoxO.res w v0 v1).aft a
  exact ⟨r.cell (j := 0) rfl, r.cell (j := 1) rfl, r.2.2 0 (by simp), r.2.2 1 (by simp), r.1⟩
theorem BoxO.no {w w' : World} {v0 v1 : Value} (a : Aft (BoxO w v0 v1) w') (x : Int) : ObjP w (zeroO, x) (.returned (.tuple #[.agg #[.slice none 0 0, .slice none 0 0], .int .i64 x])) ((w'.setCell ⟨w.heap.size + 1, 0, none⟩ (.slice none 0 0)).setCell ⟨w.heap.size + 1, 1, none⟩ (.slice none 0 0)) :=
  objP_zset ((BoxO.aft w v0 v1).trans a) (by omega)
def OutO (w3 : World) (v0 v1 : Value) : World := w3.alloc (.cells #[v0, v1] 45)
theorem OutO.aft (w3 : World) (v0 v1 : Value) : Aft w3 (OutO w3 v0 v1) := (Aft.refl w3).alloc _
theorem OutO.size (w3 : World) (v0 v1 : Value) : (OutO w3 v0 v1).heap.size = w3.heap.size + 1 := by unfold OutO; simp
theorem OutO.row (w3 : World) (v0 v1 : Value) : RowAt (OutO w3 v0 v1) w3.heap.size [v0, v1] := box_row2 (w := w3) (c := [v0, v1]) (t := 45) (Aft.refl _)
/-- the end: the schemas in our own box are others -/
theorem endO {w w2 w3 wr : World} {v0 v1 : Value} {o : Objs} {hs ht : Hd} {L : List OTab} (a2 : Aft (BoxO w v0 v1) w2) (a3 : Aft w2 w3) (hL : L.map OTab.t = o.tables) (ob : ObjIn w3 w2.heap.size hs ht o.schemas L) (ar : Aft (OutO w3 (.slice hs.a o.schemas.length hs.c) (.slice ht.a o.tables.length ht.c)) wr) :
    ∀ (h : Hd) (l : List Sch) (n : Nat), n = l.length → wr.ownsRow (w3.heap.size + 1) 92 2 (.slice h.a n h.c) n (l.flatMap schC) →
      RowAt (wr.setCell ⟨w3.heap.size, 0, none⟩ (.slice h.a n h.c)) w3.heap.size [.slice h.a n h.c, .slice ht.a o.tables.length ht.c] ∧
      RowAt (((wr.setCell ⟨w3.heap.size, 0, none⟩ (.slice h.a n h.c)).setCell ⟨w.heap.size + 1, 0, none⟩ (.slice h.a n h.c)).setCell ⟨w.heap.size + 1, 1, none⟩ (.slice ht.a o.tables.length ht.c)) (w.heap.size + 1) [.slice h.a n h.c, .slice ht.a o.tables.length ht.c] ∧
      ObjP w (⟨l, o.tables⟩, 0) (.returned (.tuple #[.agg #[.slice h.a n h.c, .slice ht.a o.tables.length ht.c], .int .i64 0])) (((wr.setCell ⟨w3.heap.size, 0, none⟩ (.slice h.a n h.c)).setCell ⟨w.heap.size + 1, 0, none⟩ (.slice h.a n h.c)).setCell ⟨w.heap.size + 1, 1, none⟩ (.slice ht.a o.tables.length ht.c)) := by
  intro h l n hn ho
  subst hn
  have z2 := a2.size
  rw [BoxO.size] at z2
  have z3 := a3.size
  have zr := ar.size
  rw [OutO.size] at zr
  have aw := (((BoxO.aft w v0 v1).trans a2).trans a3).trans ((OutO.aft w3 (.slice hs.a o.schemas.length hs.c) (.slice ht.a o.tables.length ht.c)).trans ar)
  have rb := (OutO.row w3 (.slice hs.a o.schemas.length hs.c) (.slice ht.a o.tables.length ht.c)).aft ar
  have rr := ((BoxO.res w v0 v1).aft a2).aft (a3.trans ((OutO.aft w3 (.slice hs.a o.schemas.length hs.c) (.slice ht.a o.tables.length ht.c)).trans ar))
  have obr := ((ob.aft (OutO.aft w3 (.slice hs.a o.schemas.length hs.c) (.slice ht.a o.tables.length ht.c))).aft ar).down (B' := w.heap.size + 2) (by omega)
  have hlt := ob.lt
  have gh : ∀ g, (Value.slice h.a l.length h.c).ownBlock = some g → w3.heap.size + 1 ≤ g := fun g hg => (ho.lt g hg).1
  have ghb : ∀ g ∈ (Hd.mk h.a l.length h.c).blk, w3.heap.size + 1 ≤ g := fun g hg => gh g (Hd.mem_blk.1 hg)
  have obn : ObjIn wr (w.heap.size + 2) ⟨h.a, l.length, h.c⟩ ht l L := by
    refine ⟨own_down ho (by omega), obr.tab, obr.each, ?_⟩
    refine List.nodup_append.2 ⟨blk_nodup _, (List.nodup_append.1 obr.nd).2.1, fun a ha b hb2 e => ?_⟩
    subst e
    have := ghb a ha
    have := (hlt a (List.mem_append.2 (.inr hb2))).2
    omega
  have hlt2 := obn.lt
  have hltn : ∀ g ∈ (Hd.mk h.a l.length h.c).blk ++ (ht.blk ++ L.flatMap OTab.blks), g ≠ w3.heap.size ∧ g ≠ w.heap.size + 1 := fun g hg => by
    rcases List.mem_append.1 hg with h1 | h1
    · have := ghb g h1; omega
    · have := hlt g (List.mem_append.2 (.inr h1)); omega
  have k1 := Kb.set wr w3.heap.size 0 (.slice h.a l.length h.c)
  have k2 := Kb.set (wr.setCell ⟨w3.heap.size, 0, none⟩ (.slice h.a l.length h.c)) (w.heap.size + 1) 0 (.slice h.a l.length h.c)
  have k3 := Kb.set ((wr.setCell ⟨w3.heap.size, 0, none⟩ (.slice h.a l.length h.c)).setCell ⟨w.heap.size + 1, 0, none⟩ (.slice h.a l.length h.c)) (w.heap.size + 1) 1 (.slice ht.a o.tables.length ht.c)
  refine ⟨rb.set 0 _ (by simp), setO_row (k1.row rr (by omega)) rfl _ _, ⟨⟨h.a, l.length, h.c⟩, ht, L, hL, rfl, ?_, ?_⟩⟩
  · exact k3.to_aft (k2.to_aft (k1.to_aft aw (fun g hg e => by omega)) (fun g hg e => by omega)) (fun g hg e => by omega)
  · exact ((((obn.kb k1 fun g hg e => (hltn g hg).1 e).kb k2 fun g hg e => (hltn g hg).2 e).kb k3 fun g hg e => (hltn g hg).2 e)).down (by omega)
theorem app_sch {ops : Array Oper} {rest : List Oper} {o : Oper} {a : Act} {w : World} {Q : Exit → Act → World → Prop} (hgd : o.guard = none) (s x : Operand)
    (ho : o.op = .call { callee := .builtin .append, args := #[s, x], argTypes := #[42, 42] }) (base : Nat) (v : Value) (n : Nat) (xs : List Value) (hs : a.eval s = v) (hown : w.ownsRow base 92 2 v n xs)
    (b : Nat) (y : Sch) (hx : a.eval x = .slice (some ⟨b, 0, none⟩) 1 1) (hb : w.heap[b]? = some (.cells #[.string y.name, .string y.owner] 92)) (hn : n ≤ 1000000) (hbase : base ≤ w.heap.size)
    (h : ∀ g cap w', w'.ownsRow base 92 2 (.slice (some ⟨g, 0, none⟩) (n + 1) cap) (n + 1) (xs ++ schC y) → w.grownBy w' v.ownBlock → (v.ownBlock = some g ∨ g = w.heap.size) → wpList Try.prog ops Q rest (a.put o.dst (.slice (some ⟨g, 0, none⟩) (n + 1) cap)) w') : wpList Try.prog ops Q (o :: rest) a w := by
  obtain ⟨i0, hi0, hz0, hz1, hz2⟩ := info_parts info2Sch2
  exact wpList_append_lies w hgd s x 42 ho base 92 i0 _ 2 32 Try.underlying42 hi0 hz0 hz1 hz2 rfl (by decide) v n xs hs hown ⟨b, 0, none⟩ 1 1 [.string y.name, .string y.owner] hx rfl (World.news_of_block (cs := #[.string y.name, .string y.owner]) (t := 92) (fr := (0, 0)) hb) (by simp [Value.oneCell']) (by omega) (by unfold maxLen; omega) (by omega) hbase _ rfl fun g cap w' h1 h2 h3 _ => h g cap w' h1 h2 h3
def GrC (X wr : World) (h : Hd) (l : List Sch) : Prop := Aft X wr ∧ wr.ownsRow X.heap.size 92 2 h.v l.length (l.flatMap schC)
theorem GrC.start (X : World) : GrC X X ⟨none, 0, 0⟩ [] := ⟨Aft.refl X, own_nil _ _ _ _⟩
theorem GrC.own {X wr : World} {h : Hd} {l : List Sch} (g : GrC X wr h l) : wr.ownsRow X.heap.size 92 2 (.slice h.a l.length h.c) l.length (l.flatMap schC) := by
  have := g.2
  rw [own_slice this] at this
  exact this
theorem GrC.grow {X wr w5 : World} {h : Hd} {l : List Sch} {y : Sch} {o : Obj} {gg cap : Nat} (g : GrC X wr h l) (ho : w5.ownsRow X.heap.size 92 2 (.slice (some ⟨gg, 0, none⟩) (l.length + 1) cap) (l.length + 1) (l.flatMap schC ++ schC y)) (hg : (wr.alloc o).grownBy w5 (Value.slice h.a l.length h.c).ownBlock) :
    GrC X w5 ⟨some ⟨gg, 0, none⟩, l.length + 1, cap⟩ (l ++ [y]) :=
  ⟨aft_grown (g.own.alloc _) (g.1.alloc _) hg, by rw [List.length_append, List.flatMap_append, List.flatMap_cons, List.flatMap_nil, List.append_nil]; exact ho⟩
/-- the schema of a name stands at one place -/
theorem sch_only {o : Objs} {name : ByteArray} {p : Nat} (hr : risesB cmpSc o.schemas = true) (hp : schAt o.schemas name = p) (hpl : p < o.schemas.length) (t : Nat) (ht : t < o.schemas.length) : eqS o.schemas[t].name name = decide (t = p) := by
  have h1 : eqS o.schemas[p].name name = true := idxP_at (fun c : Sch => eqS c.name name) o.schemas p hpl hp
  rcases Nat.lt_trichotomy t p with h | h | h
  · rw [decide_eq_false (by omega), Bool.eq_false_iff]
    intro h2
    have h3 := rises_lt preSc.tr hr t p ht hpl h
    have h4 : cmpSc o.schemas[t] o.schemas[p] = 0 := (cmpS_eq _ _).2 (eqS_trans h2 (by rw [eqS_comm]; exact h1))
    omega
  · subst h; rw [h1]; simp
  · rw [decide_eq_false (by omega), Bool.eq_false_iff]
    intro h2
    have h3 := rises_lt preSc.tr hr p t hpl ht h
    have h4 : cmpSc o.schemas[p] o.schemas[t] = 0 := (cmpS_eq _ _).2 (eqS_trans h1 (by rw [eqS_comm]; exact h2))
    omega
end Go.Proofs.Ytcdhljcpoopfaaa
/- objects.AddSchema: the closure, walked. -/
namespace Go.Proofs.Ytcdhljcpoopfaaa
open Go.RowKit Go.Deep Go.Sort
set_option maxRecDepth 100000
set_option linter.unusedVariables false
theorem idxP_anyO {α : Type} (p : α → Bool) (l : List α) : decide (0 ≤ idxP p l) = l.any p := by
  induction l with
  | nil => rfl
  | cons x l ih =>
    rw [List.any_cons, ← ih]
    show decide (0 ≤ (if p x then (0 : Int) else if idxP p l < 0 then -1 else idxP p l + 1)) = _
    cases h : p x
    · simp only [Bool.false_eq_true, if_false, Bool.false_or]
      by_cases h1 : idxP p l < 0
      · rw [if_pos h1, decide_eq_false (by omega), decide_eq_false (by omega)]
      · rw [if_neg h1, decide_eq_true (by omega), decide_eq_true (by omega)]
    · simp
theorem sch_none {o : Objs} {name : ByteArray} (h : schAt o.schemas name < 0) : ∀ y ∈ o.schemas, cmpS y.name name ≠ 0 := fun y hy e => by
  obtain ⟨k, hk, rfl⟩ := List.getElem_of_mem hy
  have h1 := idxP_range (fun c : Sch => eqS c.name name) o.schemas
  have h2 : schAt o.schemas name = -1 := by unfold schAt at *; omega
  have h3 : o.schemas.any (fun c => eqS c.name name) = true := List.any_eq_true.2 ⟨_, hy, (cmpS_eq _ _).1 e⟩
  rw [← idxP_anyO] at h3
  have := of_decide_eq_true h3
  unfold schAt at h2
  omega
theorem checkO_rises {o : Objs} (h : checkO o = true) : risesB cmpTb o.tables = true ∧ risesB cmpSc o.schemas = true ∧ o.schemas.length ≤ 8 ∧ o.tables.length ≤ 64 := by
  unfold checkO headOk at h
  simp only [Bool.and_eq_true, decide_eq_true_eq] at h
  exact ⟨h.1.1.2, h.1.2, h.1.1.1.1, h.1.1.1.2⟩
set_option maxHeartbeats 8000000 in
theorem addSch1_in (name owner : ByteArray) (o : Objs) (w : World) (hs ht : Hd) (L : List OTab) (B n3 bn bo : Nat) (hck : checkO o = true) (hbn : B ≤ n3) (hL : L.map OTab.t = o.tables) (ob : ObjIn w B hs ht o.schemas L) (hne : ∀ g ∈ hs.blk ++ (ht.blk ++ L.flatMap OTab.blks), g ≠ n3)
    (r3 : RowAt w n3 [.slice hs.a o.schemas.length hs.c, .slice ht.a o.tables.length ht.c]) (hc1 : w.cell? ⟨bn, 0, none⟩ = some (.string name)) (hc2 : w.cell? ⟨bo, 0, none⟩ = some (.string owner)) (hb1 : bn < B) (hb2 : bo < B) (sm : SmO o) (hs1 : Small name.size) (hs2 : Small owner.size) :
    Calls Try.prog 77 (#[.pointer (some ⟨n3, 0, none⟩)] ++ #[.pointer (some ⟨bn, 0, none⟩), .pointer (some ⟨bo, 0, none⟩)]) w (DoP w B n3 (addSchR name owner o)) := by
  show Calls Try.prog 77 #[.pointer (some ⟨n3, 0, none⟩), .pointer (some ⟨bn, 0, none⟩), .pointer (some ⟨bo, 0, none⟩)] w (DoP w B n3 (addSchR name owner o))
  have hoo : objOf o.schemas L = o := by unfold objOf; rw [hL]
  have hsch : SlAt w 2 SchR hs.a hs.c o.schemas := ob.schs (by rw [hoo]; exact sm)
  have hlen := hsch.len
  have z1 : bn < w.heap.size := World.block_lt_of_cell? _ _ hc1
  have z2 : bo < w.heap.size := World.block_lt_of_cell? _ _ hc2
  have x0 := r3.cell (j := 0) rfl
  have x1 := r3.cell (j := 1) rfl
  have xz := r3.1
  have xf := r3.2.2 0 (by simp)
  have hrs := checkO_rises hck
  obtain ⟨u1, hu1⟩ : ∃ u, nameB name = u := ⟨_, rfl⟩
  obtain ⟨u2, hu2⟩ : ∃ u, nameB owner = u := ⟨_, rfl⟩
  obtain ⟨i, hi⟩ : ∃ i, schAt o.schemas name = i := ⟨_, rfl⟩
  have hir : -1 ≤ i ∧ i < o.schemas.length := by rw [← hi]; exact idxP_range _ _
  have C1 := Lib.hid (show ∀ w', Calls Try.prog 68 #[.string name] w' fun e w'' => e = .returned (.bool u1) ∧ w' = w'' from fun w' => hu1 ▸ name_any name w' hs1.max)
  have C2 := Lib.hid (show ∀ w', Calls Try.prog 68 #[.string owner] w' fun e w'' => e = .returned (.bool u2) ∧ w' = w'' from fun w' => hu2 ▸ name_any owner w' hs2.max)
  have CB := Lib.hid (show ∀ x : Lat w, Calls Try.prog 78 #[.slice hs.a o.schemas.length hs.c, .string name, .func (.func 79) #[] #[]] (lat w x) fun e w'' => e = .returned (.int .i64 i) ∧ Aft (lat w x) w'' from
    fun x => (bySch hs.a hs.c o.schemas name _ (schs_aft ((Aft.refl w).lat x) hsch)).mono fun e w'' ⟨he, hw⟩ => ⟨he.trans (by rw [← hi]; rfl), hw⟩)
  have HE := Lib.hid (show addSchR name owner o = if (!u1 || !u2) then (zeroO, 1) else if 0 ≤ i then (zeroO, 60) else if 8 ≤ o.schemas.length then (zeroO, 2) else (⟨insAt o.schemas (posB cmpSc o.schemas ⟨name, owner⟩) ⟨name, owner⟩, o.tables⟩, 0) by unfold addSchR; rw [hu1, hu2, hi])
  have HI := Lib.hid (show i < 0 → ∀ y ∈ o.schemas, cmpSc y ⟨name, owner⟩ ≠ 0 from fun h => sch_none (hi ▸ h))
  have HOB := Lib.hid ob
  have HR3 := Lib.hid r3
  have HNE := Lib.hid hne
  have HL := Lib.hid hL
  have HCS := Lib.hid (show hs.v = .slice hs.a o.schemas.length hs.c from own_slice ob.sch)
  have HRS := Lib.hid hrs
  have ERR := Lib.hid (show ∀ w', Aft w w' → ∀ c : Int, c ≠ 0 → DoP w B n3 (zeroO, c) (.returned (.int .i64 c)) w' from fun w' a c hc => ⟨rfl, Kb.of_aft a, fun h => absurd h hc⟩)
  clear ob r3 hne hL hoo hck hu1 hu2 hi hsch hrs sm
  go_enter Try.func77, Try.ntmps77
  go_wp2_with fail
  refine (C1.out _).mono ?_
  rintro e w1 ⟨rfl, rfl⟩
  cases u1
  · go_wp2_with fail
    go_ret
    rw [HE.out]
    exact ERR.out _ (Aft.refl _) 1 (by decide)
  go_wp2_with fail
  refine (C2.out _).mono ?_
  rintro e w1 ⟨rfl, rfl⟩
  cases u2
  · go_wp2_with fail
    go_ret
    rw [HE.out]
    exact ERR.out _ (Aft.refl _) 1 (by decide)
  by_cases h0 : 0 ≤ i
  · have hd : decide (0 ≤ i) = true := by simpa using h0
    go_wp2_with fail
    refine wp_region_lat (by kernel_rfl) (by kernel_rfl) ?_
    repeat (go_big_quiet_step ((go_at_call 78; exact Calls.lat_of (CB.out _))))
    refine wpQuiet_nil ?_
    intro _ hw'
    obtain ⟨x, hw''⟩ := hw'
    subst hw''
    go_wp2_with fail
    go_ret
    rw [HE.out]
    simp only [Bool.not_true, Bool.or_self, Bool.false_eq_true, if_false, if_pos h0]
    exact ERR.out _ ((Aft.refl _).lat x) 60 (by decide)
  have hd : decide (0 ≤ i) = false := by simpa using h0
  have HH0 := Lib.hid h0
  clear h0
  go_wp2_with fail
  refine wp_region_lat (by kernel_rfl) (by kernel_rfl) ?_
  repeat (go_big_quiet_step ((go_at_call 78; exact Calls.lat_of (CB.out _))))
  refine wpQuiet_nil ?_
  intro _ hw'
  obtain ⟨x, hw''⟩ := hw'
  subst hw''
  obtain ⟨W, hW⟩ : ∃ W, W = lat w x := ⟨_, rfl⟩
  have aW : Aft w W := by rw [hW]; exact (Aft.refl w).lat x
  rw [← hW]
  have x0 := aW.cell_kept x0
  have hc1 := aW.cell_kept hc1
  have hc2 := aW.cell_kept hc2
  have xz := Nat.lt_of_lt_of_le xz aW.size
  have z1 := Nat.lt_of_lt_of_le z1 aW.size
  have z2 := Nat.lt_of_lt_of_le z2 aW.size
  have HAW := Lib.hid aW
  clear hW aW CB C1 C2
  by_cases h8 : 8 ≤ o.schemas.length
  · have hd8 : (8 : Int) ≤ (o.schemas.length : Int) := by omega
    have HH8 := Lib.hid h8
    clear h8
    go_wp2_with fail
    go_ret
    rw [HE.out]
    simp only [Bool.not_true, Bool.or_self, Bool.false_eq_true, if_false, if_neg (show ¬ 0 ≤ i by have := HH0.out; omega), if_pos HH8.out]
    exact ERR.out _ HAW.out 2 (by decide)
  have hd8 : ¬ (8 : Int) ≤ (o.schemas.length : Int) := by omega
  have HH8 := Lib.hid h8
  have obW := HOB.out.aft HAW.out
  have HOW := Lib.hid (show W.ownsRow B 92 2 (.slice hs.a o.schemas.length hs.c) o.schemas.length (o.schemas.flatMap schC) by rw [← HCS.out]; exact obW.sch)
  have n1 : ¬ InV (.slice hs.a o.schemas.length hs.c) n3 := fun h => HNE.out n3 (List.mem_append.2 (.inl (Hd.mem_blk.2 (by rw [HCS.out]; exact h)))) rfl
  have n2 : ¬ InV (.slice hs.a o.schemas.length hs.c) bn := fun h => by have := (HOW.out.lt bn h).1; omega
  have n4 : ¬ InV (.slice hs.a o.schemas.length hs.c) bo := fun h => by have := (HOW.out.lt bo h).1; omega
  have xf : W.frozen? ⟨n3, 0, none⟩ = false := (HR3.out.aft HAW.out).2.2 0 (by simp)
  obtain ⟨i0, hi0, hz0, hz1, hz2⟩ := info_parts info2Sch2
  have HI0 := Lib.hid hi0
  have HZ0 := Lib.hid hz0
  have HZ1 := Lib.hid hz1
  have HZ2 := Lib.hid hz2
  have HOBW := Lib.hid obW
  clear hi0 hz0 hz1 hz2 obW h8
  go_wp2_with fail
  refine wp_region_reads 7 10 (fun w' => ∃ x : KLat (.slice hs.a o.schemas.length hs.c) W, w' = klat (.slice hs.a o.schemas.length hs.c) W x) (by kernel_rfl) (by kernel_rfl) (KL.aft (Aft.refl W).drew) ?_
  simp only [List.take_succ_cons, List.take_zero, List.drop_succ_cons, List.drop_zero]
  repeat (go_big_quiet_step (fail))
  refine wpQuiet_nil ?_
  refine wpChain_step (fun K hK => ?_)
  go_simp
  refine hK _ _ (fun _ => KL.aft ((Aft.refl W).drew)) ?_
  clear hK K
  refine wpChain_step (fun K hK => ?_)
  go_simp
  refine hK _ _ (fun _ => KL.aft (((Aft.refl W).alloc _).drew)) ?_
  clear hK K
  refine wpChain_step (fun K hK => ?_)
  refine wp_append_lies _ (.tmp 33) (.tmp 37) 42 rfl B 92 i0 _ 2 32 Try.underlying42 HI0.out HZ0.out HZ1.out HZ2.out rfl (by decide) (.slice hs.a o.schemas.length hs.c) o.schemas.length (o.schemas.flatMap schC) (by rfl) ((HOW.out.alloc _).drew) ⟨W.heap.size, 0, none⟩ 1 1 [.string name, .string owner] (by rfl) rfl (World.news_of_block (cs := #[.string name, .string owner]) (t := 92) (fr := (0, 0)) (heap_alloc_new W _)) (by simp [Value.oneCell']) (by omega) (by unfold maxLen; omega) (by omega) (by simp; omega) (W.heap.size + 1) (by simp) ?_
  intro gg cap' w5 hown5 hgrow hat hgl
  refine hK _ _ (fun _ => KL.of ((Kb.of_aft (((Aft.refl W).alloc _).drew)).trans (kb_in hgrow))) ?_
  clear hK K
  refine wpChain_list _ (by simp) (by decide) ?_
  have kw5 : Kb (InV (.slice hs.a o.schemas.length hs.c)) W w5 := (Kb.of_aft (((Aft.refl W).alloc _).drew)).trans (kb_in hgrow)
  have d5 := kw5.cell x0 n1
  have row5 := kw5.row (HR3.out.aft HAW.out) n1
  have f5 : w5.frozen? ⟨n3, 0, none⟩ = false := row5.2.2 0 (by simp)
  have z5 := row5.1
  have hgn : gg ≠ n3 := fun e => by
    rcases hat with h1 | h1
    · exact n1 (by rw [← e]; exact h1)
    · omega
  have own6 : (w5.setCell ⟨n3, 0, none⟩ (.slice (some ⟨gg, 0, none⟩) (o.schemas.length + 1) cap')).ownsRow B 92 2 (.slice (some ⟨gg, 0, none⟩) (o.schemas ++ [(⟨name, owner⟩ : Sch)]).length cap') (o.schemas ++ [(⟨name, owner⟩ : Sch)]).length ((o.schemas ++ [(⟨name, owner⟩ : Sch)]).flatMap schC) := by
    rw [List.length_append, List.flatMap_append]
    exact own_kb hown5 (Kb.set w5 n3 0 _) (fun g hg e => by
      have e : g = n3 := e
      have : g = gg := by simpa [Value.ownBlock, eq_comm] using hg
      exact hgn (by rw [← this]; exact e))
  have CS := Lib.hid (sortSchF gg cap' B (o.schemas ++ [(⟨name, owner⟩ : Sch)]) (by simp) (by simp; omega) _ own6)
  have row6 := row5.set 0 (.slice (some ⟨gg, 0, none⟩) (o.schemas.length + 1) cap') (by simp)
  have HP := Lib.hid (show ∀ w7 e, SortedP 92 2 schC cmpSc (w5.setCell ⟨n3, 0, none⟩ (.slice (some ⟨gg, 0, none⟩) (o.schemas.length + 1) cap')) B gg cap' (o.schemas ++ [(⟨name, owner⟩ : Sch)]) e w7 → e = .returned (.tuple #[]) ∧ DoP w B n3 (addSchR name owner o) (.returned (.int .i64 0)) w7 from fun w7 e hs7 => by
    obtain ⟨he, l', hp, hsrt, ho7, k7⟩ := hs7
    have hlt : i < 0 := by have := HH0.out; omega
    have hl' : l' = insAt o.schemas (posB cmpSc o.schemas ⟨name, owner⟩) ⟨name, owner⟩ := sort_ins preSc.tr preSc.anti HRS.out.2.1 (HI.out hlt) hp hsrt
    have hll : l'.length = o.schemas.length + 1 := by rw [hl', insAt_len _ _ _ (posB_le _ _ _)]
    refine ⟨he, ?_⟩
    rw [HE.out]
    simp only [Bool.not_true, Bool.or_self, Bool.false_eq_true, if_false, if_neg (show ¬ 0 ≤ i by omega), if_neg HH8.out]
    rw [← hl']
    have kall : Kb (fun g => InV (.slice hs.a o.schemas.length hs.c) g ∨ g = n3 ∨ g = gg) W w7 := ((kw5.mono fun g _ h => .inl h).trans ((Kb.set w5 n3 0 _).mono fun g _ e => .inr (.inl e))).trans (k7.mono fun g _ e => .inr (.inr e))
    have hIB : ∀ g, InV (.slice hs.a o.schemas.length hs.c) g → B ≤ g := fun g hg => (HOW.out.lt g hg).1
    have hBW : B ≤ W.heap.size := by omega
    refine ⟨rfl, (Kb.of_aft HAW.out).trans (kall.mono fun g _ h => ?_), fun _ => ⟨⟨some ⟨gg, 0, none⟩, o.schemas.length + 1, cap'⟩, ht, L, HL.out, ?_, ?_⟩⟩
    · rcases h with h | h | h
      · exact hIB g h
      · omega
      · rcases hat with h1 | h1
        · exact hIB g (by rw [h]; exact h1)
        · omega
    · refine HOBW.out.newSch kall (fun g hg h => ?_) ?_ (fun g hg => ?_)
      · have hlt := HOBW.out.lt g (List.mem_append.2 (.inr hg))
        rcases h with h | h | h
        · exact nodup_disj HOBW.out.nd (Hd.mem_blk.2 (by rw [HCS.out]; exact h)) hg
        · exact HNE.out g (List.mem_append.2 (.inr hg)) h
        · rcases hat with h1 | h1
          · exact nodup_disj HOBW.out.nd (Hd.mem_blk.2 (by rw [HCS.out, h]; exact h1)) hg
          · omega
      · have := ho7
        rw [List.length_append] at this
        rw [hll]
        exact this
      · rw [blk_some, List.mem_singleton] at hg
        have hg : g = gg := hg
        rw [hg]
        rcases hat with h1 | h1
        · exact .inl (Hd.mem_blk.2 (by rw [HCS.out]; exact h1))
        · exact .inr (by omega)
    · rw [hll]
      exact k7.row row6 (fun e => hgn e.symm))
  have HROW6 := Lib.hid row6
  have c6 := row6.cell (j := 0) rfl
  have z6 := row6.1
  have CS' := Lib.hid (show Calls Try.prog 80 #[.slice (some ⟨gg, 0, none⟩) (o.schemas.length + 1) cap', .func (.func 81) #[] #[]] (w5.setCell ⟨n3, 0, none⟩ (.slice (some ⟨gg, 0, none⟩) (o.schemas.length + 1) cap')) (SortedP 92 2 schC cmpSc (w5.setCell ⟨n3, 0, none⟩ (.slice (some ⟨gg, 0, none⟩) (o.schemas.length + 1) cap')) B gg cap' (o.schemas ++ [(⟨name, owner⟩ : Sch)])) from by
    have h := CS.out
    rw [List.length_append, List.length_singleton] at h
    exact h)
  clear hown5 hgrow hat hgl kw5 row5 own6 row6 CS
  go_wp2_with fail
  refine NoPanic.normal ?_
  go_wp2_with fail
  refine CS'.out.mono ?_
  intro e w7 hs7
  obtain ⟨rfl, hp7⟩ := HP.out w7 e hs7
  have HP7 := Lib.hid hp7
  clear hs7 hp7 CS' HP
  go_wp2_with fail
  go_ret
  exact HP7.out
end Go.Proofs.Ytcdhljcpoopfaaa
