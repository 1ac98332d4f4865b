/- Contracts of the program, part 25. -/
import Derived.Test.YticjnndhpfdajaaGreatPartG24
import Derived.WideKeyEntry
import Derived.Test.YticjnndhpfdajaaGreatPartG23
import Derived.Deep.AppendLies
import Derived.Deep.DeepMust
import Derived.Shelf.SlSortCmp.WholeK
import Derived.Test.YticjnndhpfdajaaGreatPartG1
/- 'm[k] op= v' at maps that the call makes: the entry, and the store into it. -/
namespace Go.Proofs.YticjnndhpfdajaaGreat
open Go.RowKit Go.Deep Go.WideElems Go.ChangeMaps
set_option maxRecDepth 100000
set_option linter.unusedVariables false
section
variable {P : Program} {k : TypeId} {w w' : World} {b n : Nat} {z : Value} {f : List UInt8 → Value}
theorem set_same {b : Nat} {o : Obj} (hb : w.heap[b]? = some o) : setBlock w b o = w := by
  obtain ⟨h1, h2⟩ := Array.getElem?_eq_some_iff.1 hb
  unfold setBlock
  have : w.heap.setIfInBounds b o = w.heap := by
    apply Array.ext
    · simp
    · intro i hi1 hi2
      rw [Array.getElem_setIfInBounds hi2]
      split
      · rename_i e; subst e; exact h2.symm
      · rfl
  rw [this]
/-- behind the entry a look-up sees what it saw -/
theorem entry_look {t e : TypeId} (K : WideMaps.KeyLaw P k) (ht : P.underlying t = some (.map k e)) (hz : ∀ u : World, (zeroValue e).run P u = .ok z u) {es : Array MapEntry} {clock : Nat} (hb : w.heap[b]? = some (.map es clock)) (F : Fit P k heldR es clock) {key : Value} {kl : Lit} (hkey : keyOf P k key = some kl) {v : Value} {w1 : World}
    (hE : (Instr.mapEntry t (.map (some b)) key).run P w = .ok v w1) : ∃ v0, (Instr.lookup t (.map (some b)) key false).run P w = .ok v0 w ∧ (Instr.lookup t (.map (some b)) key false).run P w1 = .ok v0 w1 := by
  have look : ∀ (u : World) (l : Array MapEntry) (c : Nat), u.heap[b]? = some (.map l c) → ∀ a, (Instr.findKey k key l.toList).run P u = .ok a u → (Instr.lookup t (.map (some b)) key false).run P u = .ok (match a with | some (_, y) => y | none => z) u := fun u l c hu a ha => by
    cases a with
    | none => simp [Instr.lookup, run_underlying ht, MapKept.run_getObj_map hu, K.check u _ hkey, ha, hz, Result.andThen]
    | some q => obtain ⟨j, y⟩ := q; simp [Instr.lookup, run_underlying ht, MapKept.run_getObj_map hu, K.check u _ hkey, ha, Result.andThen]
  rcases K.find w hkey es.toList F.keys with ⟨h1, h2⟩ | ⟨j, e0, h1, h2, h3⟩
  · have e1 : w1 = setBlock w b (.map (es.push ⟨key, z, clock⟩) (clock + 1)) := by
      simp [Instr.mapEntry, run_underlying ht, MapKept.run_getObj_map hb, K.check w false hkey, h1, hz, MapKept.run_setObj_map _ hb, Result.andThen] at hE
      rw [← hE.2]; rfl
    have hb1 : w1.heap[b]? = some (.map (es.push ⟨key, z, clock⟩) (clock + 1)) := by rw [e1]; exact heap_setBlock_same hb _
    refine ⟨z, look w es clock hb none h1, ?_⟩
    have hk1 : ∀ x ∈ (es.push ⟨key, z, clock⟩).toList, ∃ l, keyOf P k x.key = some l := fun x hx => by
      rw [Array.toList_push, List.mem_append, List.mem_singleton] at hx
      rcases hx with hx | rfl
      · exact F.keys x hx
      · exact ⟨_, hkey⟩
    rcases K.find w1 hkey _ hk1 with ⟨g1, g2⟩ | ⟨j', e', g1, g2, g3⟩
    · exact absurd rfl (g2 ⟨key, z, clock⟩ (by simp))
    · have hm : e' ∈ (es.push ⟨key, z, clock⟩).toList := List.mem_of_getElem? g2
      rw [Array.toList_push, List.mem_append, List.mem_singleton] at hm
      rcases hm with hm | hm
      · exact absurd g3 (h2 e' hm)
      · have := look w1 _ _ hb1 _ g1
        rw [hm] at this
        exact this
  · have hj : es[j]? = some e0 := by simpa using h2
    have hsame : es.modify j (fun e => { e with key := key }) = es := by
      apply Array.ext'
      rw [Array.toList_modify, modify_eq_set _ _ _ _ h2]
      have : ({ e0 with key := key } : MapEntry) = e0 := by rw [← h3]
      rw [this]
      exact set_self _ _ _ h2
    have e1 : w1 = w := by
      simp [Instr.mapEntry, run_underlying ht, MapKept.run_getObj_map hb, K.check w false hkey, h1, hj, h3, K.stays w hkey, hsame, MapKept.run_setObj_map _ hb, Result.andThen] at hE
      rw [← hE.2]
      exact set_same hb
    subst e1
    exact ⟨_, look _ es clock hb _ h1, look _ es clock hb _ h1⟩
theorem MapF.entry {t e : TypeId} (h : MapF P k w b n z f) (K : WideMaps.KeyLaw P k) (ht : P.underlying t = some (.map k e)) (hz : ∀ u : World, (zeroValue e).run P u = .ok z u) (hn : n < maxLen) (key : Value) (s : List UInt8) (hs : keyOf P k key = some (.string s)) (v : Value) :
    ∃ v0 st w1 w2, (Instr.mapEntry t (.map (some b)) key).run P w = .ok (.tuple #[v0, goInt st]) w1 ∧ w.grownBy w1 (some b) ∧ (Instr.lookup t (.map (some b)) key false).run P w1 = .ok (f s) w1 ∧
      (Instr.entryStore t (.map (some b)) (goInt st) v).run P w1 = .ok () w2 ∧ MapF P k w2 b (n + 1) z (fun x => if x = s then v else f x) ∧ w.grownBy w2 (some b) := by
  have hl := h.lookK (Maps.Keyed.of_law K) ht (hz w) key s hs
  obtain ⟨w', hrun, hM, hg⟩ := h.putK (Maps.Keyed.of_law K) ht hn key s hs v
  obtain ⟨D, hD, ho, hf⟩ := h
  obtain ⟨es, clock, hb, F, hsz, he⟩ := ho
  obtain ⟨v0, st, es1, clock1, hE, _, hS⟩ := entry_then_store K ht hz hb F hs
  have hb1 : (setBlock w b (.map es1 clock1)).heap[b]? = some (.map es1 clock1) := heap_setBlock_same hb _
  obtain ⟨es', clock', hSt, hUp⟩ := hS (setBlock w b (.map es1 clock1)) v hb1
  have e2 : setBlock (setBlock w b (.map es1 clock1)) b (.map es' clock') = setBlock w b (.map es' clock') := by
    unfold setBlock
    simp
  have e3 : w' = setBlock w b (.map es' clock') := by
    rw [hrun] at hUp
    simpa using hUp
  obtain ⟨u0, k1, k2⟩ := entry_look K ht hz hb F hs hE
  have e4 : u0 = f s := by rw [hl] at k1; simpa using k1.symm
  subst e4
  refine ⟨v0, st, _, _, hE, ?_, k2, hSt, ?_, ?_⟩
  · exact ⟨rfl, rfl, rfl, by simp [setBlock], fun i _ hi => heap_setBlock_other hb _ (fun e => hi (by rw [e]))⟩
  · rw [e2, ← e3]; exact hM
  · rw [e2, ← e3]; exact hg
end
theorem five_law : WideMaps.KeyLaw Tryz.prog 135 := deep_law (m := 3) (by decide) (by kernel_rfl) (by kernel_rfl) (by kernel_rfl)
end Go.Proofs.YticjnndhpfdajaaGreat
/- A row of grants of our own that grows. -/
namespace Go.Proofs.YticjnndhpfdajaaGreat
open Go.RowKit Go.Deep
set_option maxRecDepth 100000
set_option linter.unusedVariables false
theorem info2Gra : (Tryz.prog.info? 67).map (fun i => (i.zero, i.size, i.bytes)) = some (some (.agg #[.string ByteArray.empty, .string ByteArray.empty, .int .i64 0, .string ByteArray.empty, .string ByteArray.empty, .bool false]), 6, 80) := by kernel_rfl
theorem app_gra {ops : Array Oper} {rest : List Oper} {o : Oper} {a : Act} {w : World} {Q : Exit → Act → World → Prop} (hgd : o.guard = none) (s x : Operand)
    (ho : o.op = .call { callee := .builtin .append, args := #[s, x], argTypes := #[57, 57] }) (base : Nat) (v : Value) (n : Nat) (xs : List Value) (hs : a.eval s = v) (hown : w.ownsRow base 67 6 v n xs)
    (b : Nat) (y : Gra) (hx : a.eval x = .slice (some ⟨b, 0, none⟩) 1 1) (hb : w.heap[b]? = some (.cells #[.string y.schema, .string y.table, .int .i64 y.right, .string y.giver, .string y.to, .bool y.opt] 67)) (hn : n ≤ 1000000) (hbase : base ≤ w.heap.size)
    (h : ∀ g cap w', w'.ownsRow base 67 6 (.slice (some ⟨g, 0, none⟩) (n + 1) cap) (n + 1) (xs ++ graC y) → w.grownBy w' v.ownBlock → (v.ownBlock = some g ∨ g = w.heap.size) → wpList Tryz.prog ops Q rest (a.put o.dst (.slice (some ⟨g, 0, none⟩) (n + 1) cap)) w') : wpList Tryz.prog ops Q (o :: rest) a w := by
  obtain ⟨i0, hi0, hz0, hz1, hz2⟩ := info_parts info2Gra
  exact wpList_append_lies w hgd s x 57 ho base 67 i0 _ 6 80 Tryz.underlying57 hi0 hz0 hz1 hz2 rfl (by decide) v n xs hs hown ⟨b, 0, none⟩ 1 1 [.string y.schema, .string y.table, .int .i64 y.right, .string y.giver, .string y.to, .bool y.opt] hx rfl (World.news_of_block (cs := #[.string y.schema, .string y.table, .int .i64 y.right, .string y.giver, .string y.to, .bool y.opt]) (t := 67) (fr := (0, 0)) hb) (by simp [Value.oneCell']) (by omega) (by unfold maxLen; omega) (by omega) hbase _ rfl fun g cap w' h1 h2 h3 _ => h g cap w' h1 h2 h3
/-- a row that grows from a world on -/
def GrG (X wr : World) (h : Hd) (l : List Gra) : Prop := Aft X wr ∧ wr.ownsRow X.heap.size 67 6 h.v l.length (l.flatMap graC)
theorem GrG.start (X : World) : GrG X X ⟨none, 0, 0⟩ [] := ⟨Aft.refl X, own_nil _ _ _ _⟩
theorem GrG.aft {X wr w' : World} {h : Hd} {l : List Gra} (g : GrG X wr h l) (a : Aft wr w') : GrG X w' h l := ⟨g.1.trans a, own_aft g.2 a⟩
theorem GrG.own {X wr : World} {h : Hd} {l : List Gra} (g : GrG X wr h l) : wr.ownsRow X.heap.size 67 6 (.slice h.a l.length h.c) l.length (l.flatMap graC) := by
  have := g.2
  rw [own_slice this] at this
  exact this
theorem GrG.sl {X wr : World} {h : Hd} {l : List Gra} (g : GrG X wr h l) (hs : ∀ x ∈ l, SmG x) (hl : l.length ≤ 1000000) : SlAt wr 6 GraR h.a h.c l := own_slf graC g.2 (fun x hx => ⟨rfl, rfl, hs x hx⟩) (by unfold Small; omega)
theorem GrG.grow {X wr w4 w5 : World} {h : Hd} {l : List Gra} {y : Gra} {gg cap : Nat} (g : GrG X wr h l) (a4 : Aft wr w4) (ho : w5.ownsRow X.heap.size 67 6 (.slice (some ⟨gg, 0, none⟩) (l.length + 1) cap) (l.length + 1) (l.flatMap graC ++ graC y)) (hg : w4.grownBy w5 (Value.slice h.a l.length h.c).ownBlock) :
    GrG X w5 ⟨some ⟨gg, 0, none⟩, l.length + 1, cap⟩ (l ++ [y]) :=
  ⟨aft_grown (own_aft g.own a4) (g.1.trans a4) hg, by rw [List.length_append, List.flatMap_append, List.flatMap_cons, List.flatMap_nil, List.append_nil]; exact ho⟩
end Go.Proofs.YticjnndhpfdajaaGreat
/- The kit's contract of slices.SortFunc, laid at grants. -/
namespace Go.Proofs.YticjnndhpfdajaaGreat
open Go.Shelf Go.Proofs
def sortGra_ren : Go.Shelf.Ren := ⟨fun | 6 => 121 | 15 => 148 | 14 => 183 | 28 => 202 | 29 => 203 | 20 => 233 | 21 => 234 | 22 => 235 | 23 => 236 | 24 => 237 | 25 => 238 | 26 => 239 | 27 => 240 | 46 => 263 | 47 => 245 | 48 => 246 | 49 => 264 | 50 => 265 | 57 => 270 | n => n, fun | 22 => 57 | 24 => 67 | 25 => 140 | 3 => 3 | 39 => 158 | 0 => 0 | 53 => 201 | 55 => 203 | 4 => 4 | 46 => 195 | 45 => 194 | 50 => 122 | 5 => 5 | 9 => 9 | 66 => 227 | 70 => 231 | 76 => 244 | 77 => 245 | n => n, fun | n => n⟩
theorem sortGra_lays : Go.Proofs.SlLaysF0.n6 Tryz.prog sortGra_ren := {
  mixed := by kernel_rfl
  f6 := ⟨Tryz.f121.name, by decide, Tryz.func121.trans (congrArg some (by kernel_rfl))⟩
  f14 := ⟨Tryz.f183.name, by decide, Tryz.func183.trans (congrArg some (by kernel_rfl))⟩
  f15 := Tryz.func148.trans (congrArg some (by kernel_rfl))
  f20 := ⟨Tryz.f233.name, by decide, Tryz.func233.trans (congrArg some (by kernel_rfl))⟩
  f21 := ⟨Tryz.f234.name, by decide, Tryz.func234.trans (congrArg some (by kernel_rfl))⟩
  f22 := ⟨Tryz.f235.name, by decide, Tryz.func235.trans (congrArg some (by kernel_rfl))⟩
  f23 := ⟨Tryz.f236.name, by decide, Tryz.func236.trans (congrArg some (by kernel_rfl))⟩
  f24 := ⟨Tryz.f237.name, by decide, Tryz.func237.trans (congrArg some (by kernel_rfl))⟩
  f25 := ⟨Tryz.f238.name, by decide, Tryz.func238.trans (congrArg some (by kernel_rfl))⟩
  f26 := ⟨Tryz.f239.name, by decide, Tryz.func239.trans (congrArg some (by kernel_rfl))⟩
  f27 := ⟨Tryz.f240.name, by decide, Tryz.func240.trans (congrArg some (by kernel_rfl))⟩
  f28 := Tryz.func202.trans (congrArg some (by kernel_rfl))
  f29 := Tryz.func203.trans (congrArg some (by kernel_rfl))
  f46 := ⟨Tryz.f263.name, by decide, Tryz.func263.trans (congrArg some (by kernel_rfl))⟩
  f47 := Tryz.func245.trans (congrArg some (by kernel_rfl))
  f48 := Tryz.func246.trans (congrArg some (by kernel_rfl))
  f49 := ⟨Tryz.f264.name, by decide, Tryz.func264.trans (congrArg some (by kernel_rfl))⟩
  f50 := ⟨Tryz.f265.name, by decide, Tryz.func265.trans (congrArg some (by kernel_rfl))⟩
  f57 := ⟨Tryz.f270.name, by decide, Tryz.func270.trans (congrArg some (by kernel_rfl))⟩
  t0 := Tryz.underlying0
  a0 := Tryz.isAgg0
  z0 := Tryz.sizeOf0
  v0 := Tryz.zeroValue0
  t3 := Tryz.underlying3
  a3 := Tryz.isAgg3
  z3 := Tryz.sizeOf3
  v3 := Tryz.zeroValue3
  t4 := Tryz.underlying4
  a4 := Tryz.isAgg4
  z4 := Tryz.sizeOf4
  v4 := Tryz.zeroValue4
  t5 := Tryz.underlying5
  a5 := Tryz.isAgg5
  z5 := Tryz.sizeOf5
  v5 := Tryz.zeroValue5
  t9 := Tryz.underlying9
  a9 := Tryz.isAgg9
  z9 := Tryz.sizeOf9
  v9 := Tryz.zeroValue9
  t22 := Tryz.underlying57
  a22 := Tryz.isAgg57
  z22 := Tryz.sizeOf57
  v22 := Tryz.zeroValue57
  t25 := Tryz.underlying140
  a25 := Tryz.isAgg140
  z25 := Tryz.sizeOf140
  v25 := Tryz.zeroValue140
  t39 := Tryz.underlying158
  a39 := Tryz.isAgg158
  z39 := Tryz.sizeOf158
  v39 := Tryz.zeroValue158
  t45 := Tryz.underlying194
  a45 := Tryz.isAgg194
  z45 := Tryz.sizeOf194
  v45 := Tryz.zeroValue194
  t46 := Tryz.underlying195
  a46 := Tryz.isAgg195
  z46 := Tryz.sizeOf195
  v46 := Tryz.zeroValue195
  t50 := Tryz.underlying122
  a50 := Tryz.isAgg122
  z50 := Tryz.sizeOf122
  v50 := Tryz.zeroValue122
  t53 := Tryz.underlying201
  a53 := Tryz.isAgg201
  z53 := Tryz.sizeOf201
  v53 := Tryz.zeroValue201
  t55 := Tryz.underlying203
  a55 := Tryz.isAgg203
  z55 := Tryz.sizeOf203
  v55 := Tryz.zeroValue203
  t66 := Tryz.underlying227
  a66 := Tryz.isAgg227
  z66 := Tryz.sizeOf227
  v66 := Tryz.zeroValue227
  t70 := Tryz.underlying231
  a70 := Tryz.isAgg231
  z70 := Tryz.sizeOf231
  v70 := Tryz.zeroValue231
  t76 := Tryz.underlying244
  a76 := Tryz.isAgg244
  z76 := Tryz.sizeOf244
  v76 := Tryz.zeroValue244
  t77 := Tryz.underlying245
  a77 := Tryz.isAgg245
  z77 := Tryz.sizeOf245
  v77 := Tryz.zeroValue245 }
end Go.Proofs.YticjnndhpfdajaaGreat
/- slices.SortFunc at grants, by grants.order. -/
namespace Go.Proofs.YticjnndhpfdajaaGreat
open Go.RowKit Go.Sort Go.Shelf Go.Deep
set_option maxRecDepth 100000
set_option linter.unusedVariables false
instance : Inhabited Gra := ⟨⟨ByteArray.empty, ByteArray.empty, 0, ByteArray.empty, ByteArray.empty, false⟩⟩
theorem oneC_gra (s : Gra) : ∀ u ∈ graC s, u.oneCell' = true := by intro u hu; simp only [graC, List.mem_cons, List.not_mem_nil, or_false] at hu; rcases hu with rfl | rfl | rfl | rfl | rfl | rfl <;> simp [Value.oneCell']
theorem preG : Pre8 cmpG := ⟨ordG.lt, ordG.anti, fun a b d h => by
  have := (fiveE_iff a b).1 ((cmpG_zero a b).1 h)
  unfold fkey at this
  simp only [Prod.mk.injEq] at this
  obtain ⟨h1, h2, h3, h4, h5⟩ := this
  unfold cmpG
  rw [h1, h2, h3, h4, h5]⟩
theorem sortGraF (blk cap B : Nat) (l : List Gra) (h0 : 0 < l.length) (hsz : l.length ≤ 1000000) (w : World) (ho : w.ownsRow B 67 6 (.slice (some ⟨blk, 0, none⟩) l.length cap) l.length (l.flatMap graC)) :
    Calls Tryz.prog 121 #[.slice (some ⟨blk, 0, none⟩) l.length cap, .func (.func 122) #[] #[]] w (SortedP 67 6 graC cmpG w B blk cap l) :=
  sort_own sortGra_lays 6 Tryz.isAgg67 Tryz.sizeOf67 graC (fun _ => rfl) oneC_gra cmpG preG.swo 122 #[] 67 B blk cap l h0 hsz w ho (enters (P := Tryz.prog) Tryz.func122 (by kernel_rfl) rfl) (fun W x y => orderG_gro x y W)
set_option maxHeartbeats 2000000 in
theorem ins0 (f : Value) (hf : ∃ g, f = .func (.func g) #[] #[]) (w : World) : Calls Tryz.prog 233 #[.slice none 0 0, .int .i64 0, .int .i64 0, f] w fun e w' => e = .returned (.tuple #[]) ∧ w = w' := by
  obtain ⟨g, rfl⟩ := hf
  go_enter Tryz.func233, Tryz.ntmps233
  go_wp2_with fail
  go_loopw [8] (fun i wr => i = .int .i64 1 ∧ wr = w) (fun _ _ => 0)
  case atStart => exact ⟨rfl, rfl⟩
  case round =>
    obtain ⟨rfl, rfl⟩ := hrel
    go_wp2_with fail
    go_end0
    exact ⟨rfl, rfl⟩
set_option maxHeartbeats 2000000 in
theorem len64z (w : World) : Calls Tryz.prog 203 #[.int .u64 0] w fun e w' => e = .returned (.int .i64 0) ∧ w = w' := by
  go_enter Tryz.func203, Tryz.ntmps203
  go_wp2_with fail
  go_ret
  exact ⟨Eq.trans (b := .returned (.int .i64 (wrap64 (wrap64 (Lib.len8 0))))) rfl (by rw [show wrap64 (wrap64 (Lib.len8 0)) = 0 by decide +kernel]), rfl⟩
theorem lenz (w : World) : Calls Tryz.prog 148 #[.int .u64 0] w fun e w' => e = .returned (.int .i64 0) ∧ w = w' := by
  go_enter Tryz.func148, Tryz.ntmps148
  go_wp2_with fail
  refine (len64z w).mono ?_
  rintro e w1 ⟨rfl, rfl⟩
  go_wp2_with fail
  go_ret
  exact ⟨by rfl, rfl⟩
set_option maxHeartbeats 4000000 in
theorem pdq0 (g : FuncId) (w : World) : Calls Tryz.prog 183 #[.slice none 0 0, .int .i64 0, .int .i64 0, .int .i64 0, .func (.func g) #[] #[]] w fun e w' => e = .returned (.tuple #[]) ∧ w = w' := by
  have C := Lib.hid (ins0 (.func (.func g) #[] #[]) ⟨g, rfl⟩ w)
  go_enter Tryz.func183, Tryz.ntmps183
  go_wp2_with fail
  go_loopw [1, 2, 3] (fun a b l wr => a = .int .i64 0 ∧ b = .int .i64 0 ∧ l = .int .i64 0 ∧ wr = w) (fun _ _ _ _ => 0)
  case atStart => exact ⟨rfl, rfl, rfl, rfl⟩
  case round =>
    obtain ⟨rfl, rfl, rfl, rfl⟩ := hrel
    go_wp2_with fail
    refine C.out.mono ?_
    rintro e w1 ⟨rfl, rfl⟩
    go_wp2_with fail
    refine bodyPost_ret (results_none rfl _ _ _) rfl ?_
    exact ⟨rfl, rfl⟩
set_option maxHeartbeats 4000000 in
theorem sort0 (g : FuncId) (w : World) : Calls Tryz.prog 121 #[.slice none 0 0, .func (.func g) #[] #[]] w fun e w' => e = .returned (.tuple #[]) ∧ w = w' := by
  go_enter Tryz.func121, Tryz.ntmps121
  go_wp2_with fail
  refine (lenz w).mono ?_
  rintro e w1 ⟨rfl, rfl⟩
  go_wp2_with fail
  refine (pdq0 g w).mono ?_
  rintro e w1 ⟨rfl, rfl⟩
  go_wp2_with fail
  go_end0
  exact ⟨rfl, rfl⟩
/-- whatever the row of our own: it lies in order then -/
theorem sortRow (hd : Hd) (B : Nat) (l : List Gra) (hn : l = [] → hd = ⟨none, 0, 0⟩) (hsz : l.length ≤ 1000000) (w : World) (ho : w.ownsRow B 67 6 (.slice hd.a l.length hd.c) l.length (l.flatMap graC)) :
    Calls Tryz.prog 121 #[.slice hd.a l.length hd.c, .func (.func 122) #[] #[]] w fun e w' => e = .returned (.tuple #[]) ∧
      ∃ l' : List Gra, l'.Perm l ∧ (∀ i j (hi : i < l'.length) (hj : j < l'.length), i < j → ¬ cmpG l'[j] l'[i] < 0) ∧ w'.ownsRow B 67 6 (.slice hd.a l.length hd.c) l.length (l'.flatMap graC) ∧ ∀ W, Aft W w → W.heap.size ≤ B → Aft W w' := by
  cases l with
  | nil =>
    obtain rfl := hn rfl
    refine (sort0 122 w).mono ?_
    rintro e w' ⟨rfl, rfl⟩
    exact ⟨rfl, [], .nil, fun i j hi => absurd hi (by simp), ho, fun W a _ => a⟩
  | cons x l =>
    obtain ⟨g, cap, hv, hB, _⟩ := own_rowAt ho (by simp)
    simp only [Value.slice.injEq] at hv
    rw [hv.1] at ho ⊢
    refine (sortGraF g hd.c B (x :: l) (by simp) hsz w ho).mono ?_
    rintro e w' ⟨rfl, l', h1, h2, h3, h4⟩
    exact ⟨rfl, l', h1, h2, h3, fun W a hW => h4.to_aft a fun k hk e => by omega⟩
end Go.Proofs.YticjnndhpfdajaaGreat
