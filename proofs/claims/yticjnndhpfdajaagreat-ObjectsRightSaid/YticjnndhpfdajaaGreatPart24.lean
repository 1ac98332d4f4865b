/- Contracts of the program, part 24. -/
import Derived.Test.YticjnndhpfdajaaGreatPart23
import Derived.Test.YticjnndhpfdajaaGreatPart22
/- objects.DropTable: the closure; its range over a function. -/
namespace Go.Proofs.YticjnndhpfdajaaGreat
open Go.RowKit Go.Deep Go.Shelf
set_option maxRecDepth 100000
set_option linter.unusedVariables false
theorem foreign_any (o0 o1 : Value) (s n : ByteArray) (w : World) :
    Calls Tryz.prog 77 #[.agg #[o0, o1], .string s, .string n] w fun e w' => e = .returned (.func (.func 154) #[] #[.pointer (some ⟨w.heap.size, 0, none⟩), .pointer (some ⟨w.heap.size + 1, 0, none⟩), .pointer (some ⟨w.heap.size + 1 + 1, 0, none⟩)]) ∧ w' = ((w.alloc (.cells #[o0, o1] 25)).alloc (.cells #[.string s] 9)).alloc (.cells #[.string n] 9) := by
  go_enter Tryz.func77, Tryz.ntmps77
  go_wp2_with fail
  go_ret
  exact ⟨rfl, rfl⟩
theorem foreign_stops (m : Nat) (hm : 1 ≤ m) (ts : List Tab) (At : Option Addr) (ct : Nat) (s n : ByteArray) (bo bs bt : Nat) (X : World) (htab : SlAt X 5 TabR At ct ts) (c0 : X.cell? ⟨bo, 1, none⟩ = some (.slice At ts.length ct)) (c1 : X.cell? ⟨bs, 0, none⟩ = some (.string s)) (c2 : X.cell? ⟨bt, 0, none⟩ = some (.string n)) :
    SeqStopsK Fence.wide m Tryz.prog 154 #[.pointer (some ⟨bo, 0, none⟩), .pointer (some ⟨bs, 0, none⟩), .pointer (some ⟨bt, 0, none⟩)] FP.enc (fun W W' => Kc W W' ∧ Below X.heap.size W W') (fun xs => xs.map FP.key = forP s n ts) (fun pre => pre.map FP.key <+: forP s n ts) (forP s n ts).length X := fun l J Jx W hW hJ hJx hY h0 =>
  foreign1_in m hm ts (.slice At ts.length ct) At ct s n bo bs bt l X W hW htab (World.block_lt_of_cell? _ _ c0) (World.block_lt_of_cell? _ _ c1) (World.block_lt_of_cell? _ _ c2) c0 c1 c2 J Jx hJ hY h0
def selfP (s n : ByteArray) (t : Tab) : Bool := eqS t.schema s && eqS t.name n
def usedT (o : Objs) (s n : ByteArray) : Bool := (forP s n o.tables).any fun p => !selfP s n p.1
def dropTabR (s n : ByteArray) (o : Objs) : Objs × Int :=
  if tabAt o.tables s n < 0 then (zeroO, 61) else if usedT o s n then (zeroO, 62) else (⟨o.schemas, o.tables.eraseIdx (tabAt o.tables s n).toNat⟩, 0)
theorem lvErr {W : World} {b : Nat} {v : Int} (h : W.cell? ⟨b, 0, none⟩ = some (.int .i64 v)) : (loadVar 32 ⟨b, 0, none⟩).run Tryz.prog W = .ok (.int .i64 v) W := by
  go_simp
theorem Kb.put {W : World} {D : Nat} {o : Obj} : Kb (fun g => g = D) W (W.putObj D o) :=
  ⟨rfl, rfl, rfl, by simp [World.putObj], fun k hk hn => World.putObj_heap_other hn⟩
theorem own_kbFrom {B X : Nat} {β : Type} {P : Nat → Prop} {w : World} (hX : w.heap.size ≤ X) : OwnFrom X (fun (_ : β) W => Kb P w W) := fun s W W' row h hg hr =>
  ⟨hg.os.trans h.os, hg.tape.trans h.tape, hg.output.trans h.output, Nat.le_trans h.size hg.size, fun k hk hn => (hg.block k (Nat.lt_of_lt_of_le hk h.size) (fun e => by have := (hr k e.symm).1; omega)).trans (h.block k hk hn)⟩
theorem own_cellFrom {β : Type} {X b o : Nat} {v : Value} (hb : b < X) : OwnFrom X (fun (_ : β) W => W.cell? ⟨b, o, none⟩ = some v) := fun s W W' row h hg hr => by
  have hlt := World.block_lt_of_cell? _ _ h
  have := hg.block b hlt (fun e => by have := (hr b e.symm).1; omega)
  show W'.cell? ⟨b, o, none⟩ = some v
  have h2 : W.cell? ⟨b, o, none⟩ = some v := h
  unfold World.cell? at h2 ⊢
  rw [this]; exact h2
theorem own_rowFrom {β : Type} {X b : Nat} {xs : List Value} (h0 : 0 < xs.length) : OwnFrom X (fun (_ : β) W => RowAt W b xs) := fun s W W' row h hg hr => by
  have hc : W.cell? ⟨b, 0, none⟩ = some xs[0] := by rw [h.2.1 0 h0, List.getElem?_eq_getElem h0]
  have hne : some b ≠ row := fun e => by
    obtain ⟨_, o, ho, hco⟩ := hr b e.symm
    unfold World.cell? at hc
    rw [ho] at hc
    cases o <;> first | cases hc | cases hco
  have hb := hg.block b h.1 hne
  refine ⟨Nat.lt_of_lt_of_le h.1 hg.size, fun j hj => ?_, fun j hj => ?_⟩
  · rw [← h.2.1 j hj]; simp [World.cell?, hb]
  · rw [← h.2.2 j hj]; simp [World.frozen?, hb]
theorem map_eraseIdx {α β : Type} (f : α → β) : ∀ (L : List α) (p : Nat), (L.eraseIdx p).map f = (L.map f).eraseIdx p
  | [], _ => rfl
  | _ :: _, 0 => rfl
  | a :: L, p + 1 => congrArg (f a :: ·) (map_eraseIdx f L p)
theorem sublist_flat {α β : Type} (f : α → List β) {l m : List α} (h : l.Sublist m) : (l.flatMap f).Sublist (m.flatMap f) := by
  induction h with
  | slnil => exact List.Sublist.refl _
  | cons a _ ih => rw [List.flatMap_cons]; exact ih.trans (List.sublist_append_right _ _)
  | cons_cons a _ ih => rw [List.flatMap_cons, List.flatMap_cons]; exact List.Sublist.append (List.Sublist.refl _) ih
/-- a table less -/
theorem ObjIn.cutTab {w w' : World} {B g p : Nat} {hs ht h' : Hd} {ss : List Sch} {L : List OTab} (ob : ObjIn w B hs ht ss L) (k : Kb (fun j => j = g) w w') (hg : g ∈ ht.blk) (ho : w'.ownsRow B 50 5 h'.v (L.eraseIdx p).length ((L.eraseIdx p).flatMap OTab.cells)) (hb : ∀ j ∈ h'.blk, j = g) : ObjIn w' B hs h' ss (L.eraseIdx p) := by
  have nd := ob.nd
  have nd2 := (List.nodup_append.1 nd).2.1
  refine ⟨own_kb ob.sch k fun j hj e => ?_, ho, fun x hx => (ob.each x (List.mem_of_mem_eraseIdx hx)).kb k fun j hj e => ?_, ?_⟩
  · have e : j = g := e
    exact nodup_disj nd (Hd.mem_blk.2 hj) (List.mem_append.2 (.inl (by rw [e]; exact hg)))
  · have e : j = g := e
    exact nodup_disj nd2 (by rw [← e] at hg; exact hg) (List.mem_flatMap.2 ⟨x, List.mem_of_mem_eraseIdx hx, hj⟩)
  · have hsub : ((L.eraseIdx p).flatMap OTab.blks).Sublist (L.flatMap OTab.blks) := sublist_flat OTab.blks (List.eraseIdx_sublist L p)
    refine List.nodup_append.2 ⟨(List.nodup_append.1 nd).1, List.nodup_append.2 ⟨blk_nodup _, hsub.nodup (List.nodup_append.1 nd2).2.1, fun a ha b hb2 e => ?_⟩, fun a ha b hb2 e => ?_⟩
    · subst e
      rw [hb a ha] at hb2
      exact nodup_disj nd2 hg (hsub.subset hb2)
    · subst e
      rcases List.mem_append.1 hb2 with h1 | h1
      · rw [hb a h1] at ha
        exact nodup_disj nd ha (List.mem_append.2 (.inl hg))
      · exact nodup_disj nd ha (List.mem_append.2 (.inr (hsub.subset h1)))
set_option maxHeartbeats 16000000 in
theorem dropTab1_in (s n : ByteArray) (o : Objs) (w : World) (hs ht : Hd) (L : List OTab) (B n3 bs bt : Nat) (hbn : B ≤ n3) (hL : L.map OTab.t = o.tables) (ob : ObjIn w B hs ht o.schemas L) (hne : ∀ g ∈ hs.blk ++ (ht.blk ++ L.flatMap OTab.blks), g ≠ n3)
    (r3 : RowAt w n3 [.slice hs.a o.schemas.length hs.c, .slice ht.a o.tables.length ht.c]) (hc1 : w.cell? ⟨bs, 0, none⟩ = some (.string s)) (hc2 : w.cell? ⟨bt, 0, none⟩ = some (.string n)) (sm : SmO o) :
    Calls Tryz.prog 106 (#[.pointer (some ⟨n3, 0, none⟩)] ++ #[.pointer (some ⟨bs, 0, none⟩), .pointer (some ⟨bt, 0, none⟩)]) w (DoP w B n3 (dropTabR s n o)) := by
  show Calls Tryz.prog 106 #[.pointer (some ⟨n3, 0, none⟩), .pointer (some ⟨bs, 0, none⟩), .pointer (some ⟨bt, 0, none⟩)] w (DoP w B n3 (dropTabR s n o))
  have hoo : objOf o.schemas L = o := by unfold objOf; rw [hL]
  have htab : SlAt w 5 TabR ht.a ht.c o.tables := by have := ob.tabs (by rw [hoo]; exact sm); rw [hL] at this; exact this
  have hLL : L.length = o.tables.length := by rw [← hL]; simp
  have hlen := htab.len
  have z1 : bs < w.heap.size := World.block_lt_of_cell? _ _ hc1
  have z2 : bt < w.heap.size := World.block_lt_of_cell? _ _ hc2
  have xz := r3.1
  obtain ⟨j, hj⟩ : ∃ j, tabAt o.tables s n = j := ⟨_, rfl⟩
  have hjr : -1 ≤ j ∧ j < o.tables.length := by rw [← hj]; exact idxP_range _ _
  obtain ⟨W, hW⟩ : ∃ W, W = w.alloc (.cells #[.int .i64 0] 32) := ⟨_, rfl⟩
  have aW : Aft w W := by rw [hW]; exact (Aft.refl w).alloc _
  have HRB := Lib.hid (show RowAt W w.heap.size [.int .i64 0] by rw [hW]; exact box_row2 (c := [.int .i64 0]) (Aft.refl _))
  have C0 := Lib.hid (show ∀ x : Lat W, Calls Tryz.prog 107 #[.agg #[.slice hs.a o.schemas.length hs.c, .slice ht.a o.tables.length ht.c], .string s, .string n] (lat W x) fun e w'' => e = .returned (.tuple #[.int .i64 j, .bool (decide (0 ≤ j))]) ∧ Aft (lat W x) w'' from
    fun x => (where_any _ ht.a ht.c o.tables s n _ (tabs_aft (aW.lat x) htab)).mono fun e w'' ⟨he, hw⟩ => ⟨he.trans (by rw [← hj]), hw⟩)
  have HE := Lib.hid (show dropTabR s n o = if j < 0 then (zeroO, 61) else if usedT o s n then (zeroO, 62) else (⟨o.schemas, o.tables.eraseIdx j.toNat⟩, 0) by unfold dropTabR; rw [hj])
  have KF := Lib.hid (show ∀ V, Aft W V → (V.cell? ⟨n3, 0, none⟩ = some (.slice hs.a o.schemas.length hs.c) ∧ V.cell? ⟨n3, 1, none⟩ = some (.slice ht.a o.tables.length ht.c) ∧ n3 < V.heap.size ∧ V.cell? ⟨bs, 0, none⟩ = some (.string s) ∧ V.cell? ⟨bt, 0, none⟩ = some (.string n) ∧ bs < V.heap.size ∧ bt < V.heap.size) ∧ (V.cell? ⟨w.heap.size, 0, none⟩ = some (.int .i64 0) ∧ V.frozen? ⟨w.heap.size, 0, none⟩ = false ∧ w.heap.size < V.heap.size) from fun V a => by
    have q := r3.aft (aW.trans a)
    have p := HRB.out.aft a
    have e1 := (aW.trans a).cell_kept hc1
    have e2 := (aW.trans a).cell_kept hc2
    exact ⟨⟨q.cell (j := 0) rfl, q.cell (j := 1) rfl, q.1, e1, e2, World.block_lt_of_cell? _ _ e1, World.block_lt_of_cell? _ _ e2⟩, ⟨p.cell (j := 0) rfl, p.2.2 0 (by simp), p.1⟩⟩)
  obtain ⟨⟨x0, x1, xz, y0, y1, z1, z2⟩, ⟨b0, b1, b2⟩⟩ := KF.out W (Aft.refl W)
  have HAW := Lib.hid aW
  have HOB := Lib.hid ob
  have HR3 := Lib.hid r3
  have HNE := Lib.hid hne
  have HL := Lib.hid hL
  have HT := Lib.hid htab
  have HLL := Lib.hid hLL
  have HCT := Lib.hid (show ht.v = .slice ht.a o.tables.length ht.c from by rw [own_slice ob.tab, hLL])
  clear ob r3 hne hL hoo hj htab hLL sm aW hc1 hc2
  refine (callsIn_wide (n := 8)).1 ?_
  refine callsIn_of_wp_marks Tryz.func106 rfl trivial ?_ rfl
  simp only [Tryz.ntmps106, List.size_toArray, List.length_cons, List.length_nil, Nat.reduceAdd, Nat.reduceSub, Array.replicate_succ, Array.replicate_zero, List.push_toArray, List.append_toArray, List.nil_append, List.cons_append]
  refine wpIn_wide.2 ?_
  go_wp2_with fail
  rw [← hW]
  clear hW
  refine wp_region_lat (by kernel_rfl) (by kernel_rfl) ?_
  repeat (go_big_quiet_step ((go_at_call 107; exact Calls.lat_of (C0.out _))))
  refine wpQuiet_nil ?_
  intro _ hw'
  obtain ⟨x, hw''⟩ := hw'
  subst hw''
  obtain ⟨V, hV⟩ : ∃ V, V = lat W x := ⟨_, rfl⟩
  have aV : Aft W V := by rw [hV]; exact (Aft.refl W).lat x
  rw [← hV]
  obtain ⟨⟨x0, x1, xz, y0, y1, z1, z2⟩, ⟨b0, b1, b2⟩⟩ := KF.out V aV
  have HAV := Lib.hid aV
  clear hV aV C0
  by_cases hj0 : 0 ≤ j
  case neg =>
    have hd : decide (0 ≤ j) = false := decide_eq_false hj0
    rw [hd]
    have HJ := Lib.hid hj0
    go_wp2_with fail
    refine ⟨_, results_cell (v := .int .i64 61) rfl _ rfl (lvErr (World.cell?_setCell_same' _ _ _ (by rw [b0]; rfl))), ?_⟩
    rw [HE.out, if_pos (show j < 0 by have := HJ.out; omega)]
    exact ⟨rfl, (Kb.of_aft (HAW.out.trans HAV.out)).trans ((Kb.set V w.heap.size 0 _).mono fun g _ e => by have e : g = w.heap.size := e; omega), fun h => by simp at h⟩
  have hd : decide (0 ≤ j) = true := decide_eq_true hj0
  rw [hd]
  have HJ := Lib.hid hj0
  go_wp2_with fail
  refine wp_region_tail_at 5 (by kernel_rfl) (by kernel_rfl) ?_
  intro V1 hV1
  have aV1 : Aft V V1 := by rw [hV1]; exact (Aft.refl V).drew
  obtain ⟨⟨x0, x1, xz, y0, y1, z1, z2⟩, ⟨b0, b1, b2⟩⟩ := KF.out V1 (HAV.out.trans aV1)
  have HAV1 := Lib.hid (HAV.out.trans aV1)
  clear hV1 aV1
  simp only [List.take_succ_cons, List.take_zero, List.drop_succ_cons, List.drop_zero]
  repeat still_step
  refine wpStill_nil ?_
  go_wp2_with fail
  refine (foreign_any _ _ s n V1).mono ?_
  intro e X hX
  obtain ⟨rfl, hX⟩ := hX
  have aX : Aft V1 X := by rw [hX]; exact (((Aft.refl V1).alloc _).alloc _).alloc _
  have zX : X.heap.size = V1.heap.size + 3 := by rw [hX]; simp
  have q1 : RowAt X V1.heap.size [.slice hs.a o.schemas.length hs.c, .slice ht.a o.tables.length ht.c] := by rw [hX]; exact (box_row2 (w := V1) (c := [.slice hs.a o.schemas.length hs.c, .slice ht.a o.tables.length ht.c]) (t := 25) (Aft.refl _)).aft (((Aft.refl _).alloc _).alloc _)
  have q2 : RowAt X (V1.heap.size + 1) [.string s] := by
    rw [hX]
    have := (box_row2 (w := V1.alloc (.cells #[.slice hs.a o.schemas.length hs.c, .slice ht.a o.tables.length ht.c] 25)) (c := [.string s]) (t := 9) (Aft.refl _)).aft ((Aft.refl _).alloc (.cells #[.string n] 9))
    simpa using this
  have q3 : RowAt X (V1.heap.size + 1 + 1) [.string n] := by
    rw [hX]
    have := box_row2 (w := (V1.alloc (.cells #[.slice hs.a o.schemas.length hs.c, .slice ht.a o.tables.length ht.c] 25)).alloc (.cells #[.string s] 9)) (c := [.string n]) (t := 9) (Aft.refl _)
    simpa using this
  obtain ⟨⟨x0, x1, xz, y0, y1, z1, z2⟩, ⟨b0, b1, b2⟩⟩ := KF.out X (HAV1.out.trans aX)
  have HAX := Lib.hid (HAV1.out.trans aX)
  have SEQ := Lib.hid (foreign_stops 7 (by omega) o.tables ht.a ht.c s n V1.heap.size (V1.heap.size + 1) (V1.heap.size + 1 + 1) X (tabs_aft (HAW.out.trans HAX.out) HT.out) (q1.cell (j := 1) rfl) (q2.cell (j := 0) rfl) (q3.cell (j := 0) rfl))
  clear hX aX q1 q2 q3
  go_wp2_with fail
  have hrbX : w.heap.size < X.heap.size := b2
  refine (wpIn_wide (n := 8)).1 ?_
  refine wpIn_rangeFunc_ownH (α := FP) rfl (by omega) (gf := 154) (lb := #[.pointer (some ⟨V1.heap.size, 0, none⟩), .pointer (some ⟨V1.heap.size + 1, 0, none⟩), .pointer (some ⟨V1.heap.size + 1 + 1, 0, none⟩)]) rfl trivial (enters_of Tryz.func154 (by kernel_rfl) rfl) SEQ.out
    (fun h k => ⟨h.1.trans k.1, h.2.trans k.2⟩) (fun W l o o' hl h ho hw => ⟨Kc.put h ho, belowK_b (Nat.le_refl _) W l o o' hl h ho hw⟩) (Below.refl _ _) (fun _ => rfl)
    (fun pre W' => Kb (fun _ => False) X W' ∧ pre.all (fun x => selfP s n x.t) = true)
    (fun c pre W' => (c = Code.ret ∧ ∃ x ∈ pre, selfP s n x.t = false) ∧ (Kb (fun g => g = w.heap.size) X W' ∧ W'.cell? ⟨w.heap.size, 0, none⟩ = some (.int .i64 62)))
    (OwnFrom.and (own_kbFrom (B := 0) (Nat.le_refl _)) (ownFrom_pure _ _)) (fun c => OwnFrom.and (ownFrom_pure _ _) (OwnFrom.and (own_kbFrom (B := 0) (Nat.le_refl _)) (own_cellFrom hrbX)))
    ⟨Kb.refl _ _, rfl⟩
    (fun x a' W' => ∃ Bx, RowAt W' Bx [.string x.t.schema, .string x.t.name, .string x.t.owner, .slice x.a1 x.t.cols.length x.c1, .slice x.a2 x.t.rules.length x.c2] ∧ a' = { tmps := #[.pointer (some ⟨n3, 0, none⟩), .pointer (some ⟨bs, 0, none⟩), .pointer (some ⟨bt, 0, none⟩), undef, .pointer (some ⟨w.heap.size, 0, none⟩), .int .i64 j, .bool true, .pointer (some ⟨Bx, 0, none⟩), .tuple #[.int .i64 j, .bool true], .pointer (some ⟨n3, 0, none⟩), .pointer (some ⟨n3, 0, none⟩), .agg #[.slice hs.a o.schemas.length hs.c, .slice ht.a o.tables.length ht.c], .string s, .string n, .tuple #[.int .i64 j, .bool true], .int .i64 j, .bool true, .bool true, .bool false, .pointer (some ⟨n3, 0, none⟩), .pointer (some ⟨n3, 0, none⟩), .agg #[.slice hs.a o.schemas.length hs.c, .slice ht.a o.tables.length ht.c], .string s, .string n, .func (.func 154) #[] #[.pointer (some ⟨V1.heap.size, 0, none⟩), .pointer (some ⟨V1.heap.size + 1, 0, none⟩), .pointer (some ⟨V1.heap.size + 1 + 1, 0, none⟩)], .agg #[.string x.t.schema, .string x.t.name, .string x.t.owner, .slice x.a1 x.t.cols.length x.c1, .slice x.a2 x.t.rules.length x.c2], .agg #[.string x.r.name, .int .i64 x.r.kind, .slice x.a3 x.r.cols.length x.c3, .int .i64 x.r.low, .int .i64 x.r.high, .string x.r.schema, .string x.r.table, .string x.r.key], undef, undef, undef, undef, undef, undef, undef, undef, undef, undef, undef, undef, undef, undef, undef, undef, undef, undef, undef, undef, undef], defers := [] })
    (fun x a' s' W W' row h hg hr => by
      obtain ⟨Bx, hrow, ha⟩ := h
      exact ⟨Bx, own_rowFrom (β := Unit) (by simp) () W W' row hrow hg hr, ha⟩)
    ?assign ?body ?done ?stop
  case assign =>
    intro l pre x W' K hi hK
    dsimp only [FP.enc]
    have lw := Nat.lt_succ_self W'.heap.size
    gi_wp2
    refine hK _ _ ((KeepsOthers.alloc _ _).from _) ⟨Kc.of_aft ((Aft.refl W').alloc _), (Below.refl _ W').alloc (by have := hi.1.size; omega) _⟩ ⟨hi.1.trans (Kb.of_aft ((Aft.refl W').alloc _)), hi.2⟩ ⟨W'.heap.size, box_row2 (c := [.string x.t.schema, .string x.t.name, .string x.t.owner, .slice x.a1 x.t.cols.length x.c1, .slice x.a2 x.t.rules.length x.c2]) (Aft.refl _), rfl⟩
  case body =>
    rintro l pre x a' W' hl ⟨rr, hrr⟩ ⟨hk, hall⟩ ⟨Bx, hrow, rfl⟩ hlt
    have aXW : Aft X W' := hk.to_aft (Aft.refl X) (fun _ _ h => h)
    obtain ⟨⟨x0, x1, xz, y0, y1, z1, z2⟩, ⟨b0, b1, b2⟩⟩ := KF.out W' (HAX.out.trans aXW)
    have t0 := hrow.cell (j := 0) rfl
    have t1 := hrow.cell (j := 1) rfl
    have tz := hrow.1
    have HK := Lib.hid hk
    have HAL := Lib.hid hall
    clear hk hall hrow aXW hrr hlt
    cases g1 : eqS x.t.schema s
    · have e1 : (x.t.schema.toList == s.toList) = false := g1
      have HS := Lib.hid (show selfP s n x.t = false by unfold selfP; rw [g1]; rfl)
      clear g1
      gi_wp2
      exact ⟨(KeepsOthers.setCell _ _ _).from _, ⟨rfl, x, by simp, HS.out⟩, (HK.out.mono fun _ _ h => h.elim).trans (Kb.set W' w.heap.size 0 _), World.cell?_setCell_same' _ _ _ (by rw [b0]; rfl)⟩
    · cases g2 : eqS x.t.name n
      · have e1 : (x.t.schema.toList == s.toList) = true := g1
        have e2 : (x.t.name.toList == n.toList) = false := g2
        have HS := Lib.hid (show selfP s n x.t = false by unfold selfP; rw [g1, g2]; rfl)
        clear g1 g2
        gi_wp2
        exact ⟨(KeepsOthers.setCell _ _ _).from _, ⟨rfl, x, by simp, HS.out⟩, (HK.out.mono fun _ _ h => h.elim).trans (Kb.set W' w.heap.size 0 _), World.cell?_setCell_same' _ _ _ (by rw [b0]; rfl)⟩
      · have e1 : (x.t.schema.toList == s.toList) = true := g1
        have e2 : (x.t.name.toList == n.toList) = true := g2
        have HS := Lib.hid (show selfP s n x.t = true by unfold selfP; rw [g1, g2]; rfl)
        clear g1 g2
        gi_wp2
        exact ⟨KeepsFrom.refl _ _, ⟨Kc.refl _, Below.refl _ _⟩, HK.out, by rw [List.all_append, HAL.out]; simp [HS.out]⟩
  case stop =>
    rintro D c pre W' hD hSp ⟨⟨rfl, x, hx, hxs⟩, hk, hcell⟩ hK
    have HU := Lib.hid (show usedT o s n = true by
      unfold usedT
      refine List.any_eq_true.2 ⟨FP.key x, hSp.subset (List.mem_map_of_mem hx), ?_⟩
      show (!selfP s n x.t) = true
      rw [hxs]; rfl)
    have HP := Lib.hid (show DoP w B n3 (dropTabR s n o) (.returned (.int .i64 62)) (W'.putObj D (.deferred none)) from by
      rw [HE.out, if_neg (show ¬ j < 0 by have := HJ.out; omega), HU.out]
      have a1 := HAW.out.trans HAX.out
      have z9 := a1.size
      exact ⟨rfl, ((Kb.of_aft a1).trans (hk.mono fun g _ e => by have e : g = w.heap.size := e; omega)).trans (Kb.put.mono fun g _ e => by have e : g = D := e; omega), fun h => by simp at h⟩)
    have HC := Lib.hid (show (W'.putObj D (.deferred none)).cell? ⟨w.heap.size, 0, none⟩ = some (.int .i64 62) from (World.cell?_of_block (World.putObj_heap_other (k := w.heap.size) (by omega))).trans hcell)
    clear hk hcell hSp hx hxs
    gi_wp2
    refine ⟨by simp, .inl ⟨_, _, rfl, run_takeDeferred hK, ?_⟩⟩
    exact ⟨_, results_cell (v := .int .i64 62) rfl _ rfl (lvErr HC.out), HP.out⟩
  case done =>
    rintro D xs W' hD hS ⟨hk, hall⟩ hK
    have aXW : Aft X W' := hk.to_aft (Aft.refl X) (fun _ _ h => h)
    have HU := Lib.hid (show usedT o s n = false by
      unfold usedT
      rw [← hS, Bool.eq_false_iff]
      intro h
      obtain ⟨y, hy, hy2⟩ := List.any_eq_true.1 h
      obtain ⟨x, hx, rfl⟩ := List.mem_map.1 hy
      have h3 := List.all_eq_true.1 hall x hx
      have hy2 : (!selfP s n x.t) = true := hy2
      have h3 : selfP s n x.t = true := h3
      rw [h3] at hy2; cases hy2)
    obtain ⟨⟨x0, x1, xz, y0, y1, z1, z2⟩, ⟨b0, b1, b2⟩⟩ := KF.out W' (HAX.out.trans aXW)
    have HAY := Lib.hid (HAW.out.trans (HAX.out.trans aXW))
    have HXW := Lib.hid aXW
    clear hk hall hS aXW
    obtain ⟨p, hp⟩ : ∃ p : Nat, j = p := ⟨j.toNat, by omega⟩
    subst hp
    have hpl : p < o.tables.length := by omega
    have r2 := HOB.out.aft HAY.out
    obtain ⟨g, cap, hv, hgB, hnc, hrow⟩ := own_rowAt r2.tab (by have := HLL.out; omega)
    obtain ⟨k, hkk⟩ : ∃ k, o.tables.length = p + 1 + k := ⟨o.tables.length - p - 1, by omega⟩
    have hvs : Value.slice ht.a o.tables.length ht.c = .slice (some ⟨g, 0, none⟩) (p + 1 + k) cap := by rw [← HCT.out, hv, HLL.out, hkk]
    have o2 : W'.ownsRow B 50 5 (.slice (some ⟨g, 0, none⟩) (p + 1 + k) cap) (p + 1 + k) (L.flatMap OTab.cells) := by
      have := r2.tab
      rw [hv, HLL.out, hkk] at this
      exact this
    have hcapm : cap ≤ 9223372036854775807 := own_cap7 r2.tab _ _ _ hv
    have CD := Lib.hid (delTab g cap p k B (L.flatMap OTab.cells) W' o2 (oneC_cells oneC_tab _) hcapm)
    have row2 := HR3.out.aft HAY.out
    have hgin : g ∈ ht.blk := Hd.mem_blk.2 (by rw [hv]; rfl)
    have hgb : g ≠ n3 := HNE.out g (List.mem_append.2 (.inr (List.mem_append.2 (.inl hgin))))
    have hglt : g < w.heap.size := (HOB.out.lt g (List.mem_append.2 (.inr (List.mem_append.2 (.inl hgin))))).2
    rw [hvs] at x1
    have zXX : w.heap.size < X.heap.size := hrbX
    have K2 := Lib.hid (show ∀ w3, Kb (fun j => j = g) W' w3 → w3.ownsRow B 50 5 (.slice (some ⟨g, 0, none⟩) (p + k) cap) (p + k) ((L.flatMap OTab.cells).take (p * 5) ++ (L.flatMap OTab.cells).drop ((p + 1) * 5)) → (w3.cell? ⟨n3, 1, none⟩ = some (.slice (some ⟨g, 0, none⟩) (p + 1 + k) cap) ∧ w3.frozen? ⟨n3, 1, none⟩ = false ∧ n3 < w3.heap.size ∧ w3.cell? ⟨w.heap.size, 0, none⟩ = some (.int .i64 0) ∧ w3.frozen? ⟨w.heap.size, 0, none⟩ = false ∧ w.heap.size < w3.heap.size ∧
        Hid (((w3.setCell ⟨n3, 1, none⟩ (.slice (some ⟨g, 0, none⟩) (p + k) cap)).setCell ⟨w.heap.size, 0, none⟩ (.int .i64 0)).heap[D]? = some (.deferred (some [])) ∧
          (((w3.setCell ⟨n3, 1, none⟩ (.slice (some ⟨g, 0, none⟩) (p + k) cap)).setCell ⟨w.heap.size, 0, none⟩ (.int .i64 0)).putObj D (.deferred none)).cell? ⟨w.heap.size, 0, none⟩ = some (.int .i64 0) ∧
          DoP w B n3 (dropTabR s n o) (.returned (.int .i64 0)) (((w3.setCell ⟨n3, 1, none⟩ (.slice (some ⟨g, 0, none⟩) (p + k) cap)).setCell ⟨w.heap.size, 0, none⟩ (.int .i64 0)).putObj D (.deferred none)))) from fun w3 kb o3 => by
      have row3 := kb.row row2 (fun e => hgb e.symm)
      rw [hvs] at row3
      have rb3 := kb.row ((HRB.out.aft HAX.out).aft HXW.out) (fun e => by have e : w.heap.size = g := e; omega)
      have e1 : (L.eraseIdx p).length = p + k := by rw [List.length_eraseIdx_of_lt (by have := HLL.out; omega), HLL.out]; omega
      have n3' : w3.ownsRow B 50 5 (Hd.mk (some ⟨g, 0, none⟩) (p + k) cap).v (L.eraseIdx p).length ((L.eraseIdx p).flatMap OTab.cells) := by
        rw [e1, ← flatMap_erase (size := 5) (fun _ => rfl)]; exact o3
      have ks := Kb.set w3 n3 1 (.slice (some ⟨g, 0, none⟩) (p + k) cap)
      have kr := Kb.set (w3.setCell ⟨n3, 1, none⟩ (.slice (some ⟨g, 0, none⟩) (p + k) cap)) w.heap.size 0 (.int .i64 0)
      have zW3 : X.heap.size ≤ W'.heap.size := HXW.out.size
      have hDlt : D < W'.heap.size := (Array.getElem?_eq_some_iff.1 hK).1
      have hK3 : ((w3.setCell ⟨n3, 1, none⟩ (.slice (some ⟨g, 0, none⟩) (p + k) cap)).setCell ⟨w.heap.size, 0, none⟩ (.int .i64 0)).heap[D]? = some (.deferred (some [])) := by
        rw [kr.block D (by simp; have := kb.size; omega) (fun e => by have e : D = w.heap.size := e; omega), ks.block D (by have := kb.size; omega) (fun e => by have e : D = n3 := e; omega), kb.block D hDlt (fun e => by have e : D = g := e; omega)]
        exact hK
      refine ⟨row3.cell (j := 1) rfl, row3.2.2 1 (by simp), row3.1, rb3.cell (j := 0) rfl, rb3.2.2 0 (by simp), rb3.1, Lib.hid ⟨hK3, ?_, ?_⟩⟩
      · refine (World.cell?_of_block (World.putObj_heap_other (k := w.heap.size) (by omega))).trans (World.cell?_setCell_same' _ _ _ ?_)
        rw [ks.cell (rb3.cell (j := 0) rfl) (fun e => by have e : w.heap.size = n3 := e; omega)]
        rfl
      rw [HE.out, if_neg (show ¬ (p : Int) < 0 by omega), HU.out]
      simp only [Bool.false_eq_true, if_false, Int.toNat_natCast]
      have obn := r2.cutTab kb (h' := ⟨some ⟨g, 0, none⟩, p + k, cap⟩) (p := p) hgin n3' (fun j hj => by
        rw [blk_some, List.mem_singleton] at hj
        exact hj)
      have hbl : ∀ a ∈ hs.blk ++ ((Hd.mk (some ⟨g, 0, none⟩) (p + k) cap).blk ++ (L.eraseIdx p).flatMap OTab.blks), a ≠ n3 ∧ a < w.heap.size := fun a ha => by
        have : a ∈ hs.blk ++ (ht.blk ++ L.flatMap OTab.blks) := by
          rcases List.mem_append.1 ha with h1 | h1
          · exact List.mem_append.2 (.inl h1)
          · rcases List.mem_append.1 h1 with h2 | h2
            · rw [blk_some, List.mem_singleton] at h2
              have h2 : a = g := h2
              rw [h2]
              exact List.mem_append.2 (.inr (List.mem_append.2 (.inl hgin)))
            · exact List.mem_append.2 (.inr (List.mem_append.2 (.inr ((sublist_flat OTab.blks (List.eraseIdx_sublist L p)).subset h2))))
        exact ⟨HNE.out a this, (HOB.out.lt a this).2⟩
      refine ⟨rfl, ((((Kb.of_aft HAY.out).trans (kb.mono fun a _ e => by have e : a = g := e; omega)).trans (ks.mono fun a _ e => by have e : a = n3 := e; omega)).trans (kr.mono fun a _ e => by have e : a = w.heap.size := e; omega)).trans (Kb.put.mono fun a _ e => by have e : a = D := e; omega), fun _ => ⟨hs, ⟨some ⟨g, 0, none⟩, p + k, cap⟩, L.eraseIdx p, ?_, ?_, ?_⟩⟩
      · rw [← HL.out]
        exact map_eraseIdx OTab.t L p
      · exact ((obn.kb ks fun a ha e => (hbl a ha).1 e).kb kr fun a ha e => by have := (hbl a ha).2; have e : a = w.heap.size := e; omega).kb Kb.put fun a ha e => by have := (hbl a ha).2; have e : a = D := e; omega
      · have e2 : (o.tables.eraseIdx p).length = p + k := by rw [List.length_eraseIdx_of_lt hpl]; omega
        rw [e2]
        exact Kb.put.row (kr.row (row3.set 1 (.slice (some ⟨g, 0, none⟩) (p + k) cap) (by simp)) (fun e => by have e : n3 = w.heap.size := e; omega)) (fun e => by have e : n3 = D := e; omega))
    clear r2 hv hrow o2 hvs row2 hkk hgb hgin hnc hgB
    go_wp2_with fail
    refine CD.out.mono ?_
    rintro e w3 ⟨rfl, o3, kb⟩
    obtain ⟨f0, f1, f2, f3, f4, f5, HP⟩ := K2.out w3 kb o3
    have hn8 : ¬ n3 = w.heap.size := by omega
    have hn9 : ¬ w.heap.size = n3 := by omega
    clear o3 kb
    go_wp2_with fail
    refine ⟨by simp, .inl ⟨_, _, rfl, run_takeDeferred HP.out.1, ?_⟩⟩
    exact ⟨_, results_cell (v := .int .i64 0) rfl _ rfl (lvErr HP.out.2.1), HP.out.2.2⟩
end Go.Proofs.YticjnndhpfdajaaGreat
/- A rule dropped: in plain words. -/
namespace Go.Proofs.YticjnndhpfdajaaGreat
set_option linter.unusedVariables false
/-- a rule dropped -/
def dropRulF (ts : List Tab) (s n name : ByteArray) (t : Tab) : Tab × Int :=
  if rulAt t.rules name < 0 then (t, 61) else if ((forP s n ts).any fun p => hitK (rulKind t name) name p.2) then (t, 62) else ({ t with rules := t.rules.eraseIdx (rulAt t.rules name).toNat }, 0)
theorem rulKind_at {t : Tab} {name : ByteArray} {p : Nat} (h : rulAt t.rules name = p) (hp : p < t.rules.length) : rulKind t name = t.rules[p].kind := by
  unfold rulKind
  rw [h]
  simp only [Int.toNat_natCast, List.getElem?_eq_getElem hp]
end Go.Proofs.YticjnndhpfdajaaGreat
/- The document's AddRule, DropRule: append of one rule, a row of rules that grows, the frame of the end. -/
namespace Go.Proofs.YticjnndhpfdajaaGreat
open Go.RowKit Go.Deep
set_option maxRecDepth 100000
set_option linter.unusedVariables false
theorem app_rul {ops : Array Oper} {rest : List Oper} {o : Oper} {a : Act} {w : World} {Q : Exit → Act → World → Prop} (hgd : o.guard = none) (s x : Operand)
    (ho : o.op = .call { callee := .builtin .append, args := #[s, x], argTypes := #[48, 48] }) (base : Nat) (v : Value) (n : Nat) (xs : List Value) (hs : a.eval s = v) (hown : w.ownsRow base 29 8 v n xs)
    (b : Nat) (y : ORul) (A2 : Option Addr) (n2 k2 : Nat) (hy : y.cells = [.string y.r.name, .int .i64 y.r.kind, .slice A2 n2 k2, .int .i64 y.r.low, .int .i64 y.r.high, .string y.r.schema, .string y.r.table, .string y.r.key]) (hx : a.eval x = .slice (some ⟨b, 0, none⟩) 1 1)
    (hb : w.heap[b]? = some (.cells #[.string y.r.name, .int .i64 y.r.kind, .slice A2 n2 k2, .int .i64 y.r.low, .int .i64 y.r.high, .string y.r.schema, .string y.r.table, .string y.r.key] 29)) (hn : n ≤ 1000000) (hbase : base ≤ w.heap.size)
    (h : ∀ g cap w', w'.ownsRow base 29 8 (.slice (some ⟨g, 0, none⟩) (n + 1) cap) (n + 1) (xs ++ y.cells) → w.grownBy w' v.ownBlock → wpList Tryz.prog ops Q rest (a.put o.dst (.slice (some ⟨g, 0, none⟩) (n + 1) cap)) w') : wpList Tryz.prog ops Q (o :: rest) a w := by
  obtain ⟨i0, hi0, hz0, hz1, hz2⟩ := info_parts info2Rul2
  rw [hy] at h
  exact wpList_append_lies w hgd s x 48 ho base 29 i0 _ 8 112 Tryz.underlying48 hi0 hz0 hz1 hz2 rfl (by decide) v n xs hs hown ⟨b, 0, none⟩ 1 1 [.string y.r.name, .int .i64 y.r.kind, .slice A2 n2 k2, .int .i64 y.r.low, .int .i64 y.r.high, .string y.r.schema, .string y.r.table, .string y.r.key] hx rfl (World.news_of_block (cs := #[.string y.r.name, .int .i64 y.r.kind, .slice A2 n2 k2, .int .i64 y.r.low, .int .i64 y.r.high, .string y.r.schema, .string y.r.table, .string y.r.key]) (t := 29) (fr := (0, 0)) hb) (by simp [Value.oneCell']) (by omega) (by unfold maxLen; omega) (by omega) hbase _ rfl fun g cap w' h1 h2 h3 _ => h g cap w' h1 h2
/-- a row of rules that grows -/
def GrR (X wr : World) (h : Hd) (l : List ORul) : Prop := Aft X wr ∧ wr.ownsRow X.heap.size 29 8 h.v l.length (l.flatMap ORul.cells)
theorem GrR.start (X : World) : GrR X X ⟨none, 0, 0⟩ [] := ⟨Aft.refl X, own_nil _ _ _ _⟩
theorem GrR.own {X wr : World} {h : Hd} {l : List ORul} (g : GrR X wr h l) : wr.ownsRow X.heap.size 29 8 (.slice h.a l.length h.c) l.length (l.flatMap ORul.cells) := by
  have := g.2
  rw [own_slice this] at this
  exact this
theorem GrR.grow {X wr w4 w5 : World} {h : Hd} {l : List ORul} {y : ORul} {gg cap : Nat} (g : GrR X wr h l) (a4 : Aft wr w4) (ho : w5.ownsRow X.heap.size 29 8 (.slice (some ⟨gg, 0, none⟩) (l.length + 1) cap) (l.length + 1) (l.flatMap ORul.cells ++ y.cells)) (hg : w4.grownBy w5 (Value.slice h.a l.length h.c).ownBlock) :
    GrR X w5 ⟨some ⟨gg, 0, none⟩, l.length + 1, cap⟩ (l ++ [y]) :=
  ⟨aft_grown (own_aft g.own a4) (g.1.trans a4) hg, by rw [List.length_append, List.flatMap_append, List.flatMap_cons, List.flatMap_nil, List.append_nil]; exact ho⟩
theorem ORul.cells_of {w : World} {B : Nat} {x : ORul} (h : RulIn w B x) : x.cells = [.string x.r.name, .int .i64 x.r.kind, .slice x.h.a x.r.cols.length x.h.c, .int .i64 x.r.low, .int .i64 x.r.high, .string x.r.schema, .string x.r.table, .string x.r.key] := by
  unfold ORul.cells rulC
  rw [own_slice h.nam]
/-- the rules of our own table q are others now -/
theorem endR {Y : Nat → Prop} {w5 w6 wr : World} {B' q gt : Nat} {o : Objs} {hs ht h : Hd} {L : List OTab} {l : List ORul} (ob : ObjIn w6 w5.heap.size hs ht o.schemas L) (hq : q < L.length) (hgt : ht.a = some ⟨gt, 0, none⟩) (hY : ∀ g, Y g → g < w5.heap.size) (kY : Kb Y w6 wr)
    (ho : wr.ownsRow B' 29 8 h.v l.length (l.flatMap ORul.cells)) (hB' : w6.heap.size ≤ B') (hB : w5.heap.size ≤ w6.heap.size) (hall : ∀ r ∈ l, r ∈ L[q].rules ∨ (RulIn wr w6.heap.size r ∧ ∀ g ∈ r.h.blk, g ∉ h.blk)) (hnd : (l.flatMap (·.h.blk)).Nodup) :
    ObjIn (wr.setCell ⟨gt, q * 5 + 4, none⟩ h.v) w5.heap.size hs ht o.schemas (L.set q { L[q] with rules := l, hr := h }) := by
  have hgtl := (ob.row hgt hq).1
  have hlt := fun g (hg : g ∈ h.blk) => blk_lt ho g hg
  obtain ⟨gg, hgg, hgw, hgn⟩ : ∃ gg, (∀ g ∈ h.blk, g = gg) ∧ w6.heap.size ≤ gg ∧ ∀ g, g < wr.heap.size → g ∉ h.blk → g ≠ gg := by
    obtain ⟨a, n, c⟩ := h
    cases a with
    | none => exact ⟨wr.heap.size + w6.heap.size, fun g hg => by simp [blk_nil] at hg, by omega, fun g hg _ => by omega⟩
    | some p => exact ⟨p.block, fun g hg => by rw [blk_some, List.mem_singleton] at hg; exact hg, by have := hlt p.block (by simp [blk_some]); omega, fun g _ hn e => hn (by rw [blk_some, List.mem_singleton]; exact e)⟩
  have ks := Kb.set wr gt (q * 5 + 4) h.v
  refine ob.newRul (Y := Y) (w5 := wr) (gg := gg) hq hgt hY (kY.mono fun g _ h => .inr h) (Kb.refl _ _) (.inr hgw) (own_kb (own_down ho (by omega)) ks fun g hg e => ?_) hgg (fun r hr => ?_) hnd
  · have := hlt g (Hd.mem_blk.2 hg)
    have e : g = gt := e
    omega
  · rcases hall r hr with h1 | ⟨h1, h2⟩
    · exact .inl h1
    · refine .inr ⟨(h1.down hB).kb ks fun g hg e => ?_, fun g hg => ⟨(blk_lt h1.nam g hg).1, hgn g (blk_lt h1.nam g hg).2 (h2 g hg)⟩⟩
      have := (blk_lt h1.nam g hg).1
      have e : g = gt := e
      omega
theorem fits_len8 {o : Objs} {t : Tab} {r : Rul} (hc : checkO o = true) (ht : t ∈ o.tables) (h : 8 < r.cols.length) : fitsOk t.cols r = false := by
  rw [Bool.eq_false_iff]
  intro hf
  unfold checkO at hc
  simp only [Bool.and_eq_true, List.all_eq_true] at hc
  have h1 := hc.2.2 t ht
  unfold rightT at h1
  simp only [Bool.and_eq_true] at h1
  have h2 := h1.1.1.1.2
  unfold colsOk at h2
  simp only [Bool.and_eq_true, decide_eq_true_eq] at h2
  unfold fitsOk at hf
  simp only [Bool.and_eq_true] at hf
  have := rc_len _ _ hf.1.1.1
  omega
end Go.Proofs.YticjnndhpfdajaaGreat
