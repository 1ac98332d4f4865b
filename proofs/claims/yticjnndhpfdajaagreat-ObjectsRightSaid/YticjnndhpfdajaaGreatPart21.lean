/- Contracts of the program, part 21. -/
import Derived.Test.YticjnndhpfdajaaGreatPart8
import Derived.StillTailTactics
import Derived.Test.YticjnndhpfdajaaGreatPart20
/- objects.order, exactly: what it makes behind; slices.SortFunc at tables. -/
namespace Go.Proofs.YticjnndhpfdajaaGreat
open Go.RowKit Go.Sort Go.Shelf
set_option maxRecDepth 100000
set_option linter.unusedVariables false
/-- draws and new blocks, nothing else -/
def Gro (w w' : World) : Prop := ∃ q os', w' = grow (w.drewN q) os'
theorem Gro.refl (w : World) : Gro w w := ⟨0, #[], by rw [grow_empty]; rfl⟩
theorem Gro.alloc {w w' : World} (h : Gro w w') (o : Obj) : Gro w (w'.alloc o) := by
  obtain ⟨q, os, rfl⟩ := h
  exact ⟨q, os ++ #[o], by rw [alloc_eq_grow, grow_grow]⟩
theorem Gro.drew {w w' : World} (h : Gro w w') : Gro w w'.drew := by
  obtain ⟨q, os, rfl⟩ := h
  exact ⟨q + 1, os, rfl⟩
set_option maxHeartbeats 1000000 in
theorem or_still (a b : Int) (g : Nat) (w : World) (hg : g < w.heap.size) (h0 : w.cell? ⟨g, 0, none⟩ = some (.int .i64 a)) (h1 : w.cell? ⟨g, 1, none⟩ = some (.int .i64 b)) :
    Calls Tryz.prog 163 #[.slice (some ⟨g, 0, none⟩) 2 2] w fun e w' => e = .returned (.int .i64 (or2 a b)) ∧ w' = w := by
  cases ha : (a != 0)
  · have ha0 : a = 0 := by simpa using ha
    subst ha0
    have HO := Lib.hid (show or2 0 b = b by simp [or2])
    clear ha
    cases hb : (b != 0)
    · have hb0 : b = 0 := by simpa using hb
      subst hb0
      clear hb
      go_enter Tryz.func163, Tryz.ntmps163
      go_wp2_with fail
      go_loop [8] (fun i => ∃ k : Nat, k ≤ 2 ∧ i = .int .i64 k) (fun i => 2 - (intOf i).toNat)
      case atStart => exact ⟨0, by omega, rfl⟩
      case round =>
        obtain ⟨k, hk, rfl⟩ := hrel
        have hk2 : k = 0 ∨ k = 1 ∨ k = 2 := by omega
        clear hk
        rcases hk2 with rfl | rfl | rfl
        · go_wp2_with fail
          go_round
          case rel => exact ⟨1, by omega, rfl⟩
          case measure => simp [intOf]
        · go_wp2_with fail
          go_round
          case rel => exact ⟨2, by omega, rfl⟩
          case measure => simp [intOf]
        · go_wp2_with fail
          go_ret
          exact ⟨by rw [HO.out]; rfl, rfl⟩
    · go_enter Tryz.func163, Tryz.ntmps163
      go_wp2_with fail
      go_loop [8] (fun i => ∃ k : Nat, k ≤ 1 ∧ i = .int .i64 k) (fun i => 2 - (intOf i).toNat)
      case atStart => exact ⟨0, by omega, rfl⟩
      case round =>
        obtain ⟨k, hk, rfl⟩ := hrel
        have hk2 : k = 0 ∨ k = 1 := by omega
        clear hk
        rcases hk2 with rfl | rfl
        · go_wp2_with fail
          go_round
          case rel => exact ⟨1, by omega, rfl⟩
          case measure => simp [intOf]
        · go_wp2_with fail
          go_ret
          exact ⟨by rw [HO.out]; rfl, rfl⟩
  · have HO := Lib.hid (show or2 a b = a by have : ¬ a = 0 := by simpa using ha
                                            simp [or2, this])
    go_enter Tryz.func163, Tryz.ntmps163
    go_wp2_with fail
    go_loop [8] (fun i => i = .int .i64 0) (fun i => 2 - (intOf i).toNat)
    case atStart => rfl
    case round =>
      subst hrel
      go_wp2_with fail
      go_ret
      exact ⟨by rw [HO.out]; rfl, rfl⟩
theorem wp_region_tail_eq {P : Program} {id : Nat} {Q : Exit → Act → World → Prop} {a : Act} {w : World} {l : List Oper} (n : Nat) (hm : P.follows .mixedOrders = true) (hB : Region.lexTailB .any l.toArray n = true)
    (h : ∀ w1, w1 = w.drew → wpStill P l.toArray w1 (fun a' => wpList P l.toArray Q (l.drop n) a' w1) (l.take n) a) : (Code.region id l.toArray true).wp P Q a w :=
  wp_region_still_tail n hm hB (h _ rfl)
set_option maxHeartbeats 2000000 in
theorem order_gro (s1 n1 o1 : ByteArray) (v1 v2 : Value) (s2 n2 o2 : ByteArray) (v3 v4 : Value) (w : World) :
    Calls Tryz.prog 102 #[.agg #[.string s1, .string n1, .string o1, v1, v2], .agg #[.string s2, .string n2, .string o2, v3, v4]] w fun e w' => e = .returned (.int .i64 (or2 (cmpS s1 s2) (cmpS n1 n2))) ∧ Gro w w' := by
  go_enter Tryz.func102, Tryz.ntmps102
  go_wp2_with fail
  have HG := Lib.hid (((Gro.refl w).alloc (.cells #[.string s1, .string n1, .string o1, v1, v2] 50)).alloc (.cells #[.string s2, .string n2, .string o2, v3, v4] 50)).drew
  refine wp_region_tail_eq 10 (by kernel_rfl) (by kernel_rfl) ?_
  intro w1 hw1
  have a1 : Aft ((w.alloc (.cells #[.string s1, .string n1, .string o1, v1, v2] 50)).alloc (.cells #[.string s2, .string n2, .string o2, v3, v4] 50)) w1 := by rw [hw1]; exact (Aft.refl _).drew
  rw [← hw1] at HG
  clear hw1
  obtain ⟨hb1, hb2, hz, HA⟩ := aft_box2 a1
  clear a1 HA
  simp only [List.take_succ_cons, List.take_zero, List.drop_succ_cons, List.drop_zero]
  repeat still_step
  still_call (compare_still _ _ _)
  repeat still_step
  still_call (compare_still _ _ _)
  refine wpStill_nil ?_
  go_wp2_with fail
  refine (or_still (cmpS s1 s2) (cmpS n1 n2) w1.heap.size _ (by simp) (by simp) (by simp)).mono ?_
  rintro e w2 ⟨rfl, rfl⟩
  have HG2 := Lib.hid (HG.out.alloc (.cells #[.int .i64 (cmpS s1 s2), .int .i64 (cmpS n1 n2)] 3))
  go_wp2_with fail
  go_ret
  exact ⟨rfl, HG2.out⟩
theorem tabLess (x y : OTab) (W : World) : Calls Tryz.prog 102 (#[.agg x.cells.toArray, .agg y.cells.toArray] ++ #[]) W fun e w' => e = .returned (.int .i64 (cmpTb x.t y.t)) ∧ ∃ q os', w' = grow (W.drewN q) os' :=
  order_gro x.schema x.name x.owner x.hc.v x.hr.v y.schema y.name y.owner y.hc.v y.hr.v W
theorem sortTabF (blk cap B : Nat) (l : List OTab) (h0 : 0 < l.length) (hsz : l.length ≤ 1000000) (w : World) (ho : w.ownsRow B 50 5 (.slice (some ⟨blk, 0, none⟩) l.length cap) l.length (l.flatMap OTab.cells)) :
    Calls Tryz.prog 112 #[.slice (some ⟨blk, 0, none⟩) l.length cap, .func (.func 102) #[] #[]] w (SortedP 50 5 OTab.cells (fun x y => cmpTb x.t y.t) w B blk cap l) :=
  sort_own sortTab_lays 5 Tryz.isAgg50 Tryz.sizeOf50 OTab.cells (fun _ => rfl) oneC_tab (fun x y => cmpTb x.t y.t) (preTb.on OTab.t).swo 102 #[] 50 B blk cap l h0 hsz w ho (enters (P := Tryz.prog) Tryz.func102 (by kernel_rfl) rfl) (fun W x y => tabLess x y W)
end Go.Proofs.YticjnndhpfdajaaGreat
/- objects.AddTable: the closure. -/
namespace Go.Proofs.YticjnndhpfdajaaGreat
open Go.RowKit Go.Deep Go.Sort
set_option maxRecDepth 100000
set_option linter.unusedVariables false
/-- the tables lie in another row now: the old ones and a new one, in whatever order -/
theorem ObjIn.newTab {P : Nat → Prop} {w w' : World} {B : Nat} {hs ht h' : Hd} {ss : List Sch} {L l' : List OTab} {x : OTab} (ob : ObjIn w B hs ht ss L) (k : Kb P w w') (hP : ∀ g, g ∈ hs.blk ++ L.flatMap OTab.blks → ¬ P g) (hp : l'.Perm (L ++ [x])) (ho : w'.ownsRow B 50 5 h'.v l'.length (l'.flatMap OTab.cells)) (tx : TabIn w' B x) (hx : x.blks.Nodup) (hxn : ∀ g ∈ x.blks, w.heap.size ≤ g) (hb : ∀ g ∈ h'.blk, (g ∈ ht.blk ∨ w.heap.size ≤ g) ∧ g ∉ x.blks) : ObjIn w' B hs h' ss l' := by
  have nd := ob.nd
  have hlt := ob.lt
  have n0 : (hs.blk ++ L.flatMap OTab.blks).Nodup := by
    refine List.nodup_append.2 ⟨(List.nodup_append.1 nd).1, (List.nodup_append.1 (List.nodup_append.1 nd).2.1).2.1, fun a ha b hb e => ?_⟩
    subst e
    exact nodup_disj nd ha (List.mem_append.2 (.inr hb))
  refine ⟨own_kb ob.sch k fun g hg => hP g (List.mem_append.2 (.inl (Hd.mem_blk.2 hg))), ho, fun y hy => ?_, ?_⟩
  · rcases List.mem_append.1 (hp.subset hy) with h1 | h1
    · exact (ob.each y h1).kb k fun g hg => hP g (List.mem_append.2 (.inr (List.mem_flatMap.2 ⟨y, h1, hg⟩)))
    · rw [List.mem_singleton] at h1; rw [h1]; exact tx
  · have hpf : (l'.flatMap OTab.blks).Perm (L.flatMap OTab.blks ++ x.blks) := by
      have := hp.flatMap_right OTab.blks
      rwa [List.flatMap_append, List.flatMap_cons, List.flatMap_nil, List.append_nil] at this
    have h1 : (hs.blk ++ (h'.blk ++ l'.flatMap OTab.blks)).Perm (hs.blk ++ (h'.blk ++ (L.flatMap OTab.blks ++ x.blks))) := (hpf.append_left _).append_left _
    refine h1.nodup_iff.2 ?_
    refine List.nodup_append.2 ⟨(List.nodup_append.1 nd).1, List.nodup_append.2 ⟨blk_nodup _, List.nodup_append.2 ⟨(List.nodup_append.1 (List.nodup_append.1 nd).2.1).2.1, hx, fun a ha b hb e => ?_⟩, fun a ha b hb2 e => ?_⟩, fun a ha b hb2 e => ?_⟩
    · subst e
      have := hxn a hb
      have := (hlt a (List.mem_append.2 (.inr (List.mem_append.2 (.inr ha))))).2
      omega
    · subst e
      rcases List.mem_append.1 hb2 with h3 | h3
      · rcases (hb a ha).1 with h4 | h4
        · exact nodup_disj (List.nodup_append.1 nd).2.1 h4 h3
        · have := (hlt a (List.mem_append.2 (.inr (List.mem_append.2 (.inr h3))))).2
          omega
      · exact (hb a ha).2 h3
    · subst e
      have hla := hlt a (List.mem_append.2 (.inl ha))
      rcases List.mem_append.1 hb2 with h3 | h3
      · rcases (hb a h3).1 with h4 | h4
        · exact nodup_disj nd ha (List.mem_append.2 (.inl h4))
        · omega
      · rcases List.mem_append.1 h3 with h4 | h4
        · exact nodup_disj nd ha (List.mem_append.2 (.inr h4))
        · have := hxn a h4
          omega
def addTabR (t : Tab) (o : Objs) : Objs × Int :=
  if (!nameB t.name || !nameB t.owner) then (zeroO, 1) else if schAt o.schemas t.schema < 0 then (zeroO, 61) else if 0 ≤ tabAt o.tables t.schema t.name then (zeroO, 60) else if 8 ≤ within o.tables t.schema then (zeroO, 2)
  else if (!colsOk t.cols || decide (0 < t.rules.length)) then (zeroO, 63) else (⟨o.schemas, insAt o.tables (posB cmpTb o.tables t) t⟩, 0)
theorem addTabR_zero {t : Tab} {o : Objs} : (addTabR t o).2 ≠ 0 → (addTabR t o).1 = zeroO := by
  unfold addTabR
  repeat (split; exact fun _ => rfl)
  exact fun h => absurd rfl h
theorem tab_none {o : Objs} {t : Tab} (h : tabAt o.tables t.schema t.name < 0) : ∀ y ∈ o.tables, cmpTb y t ≠ 0 := fun y hy e => by
  have h1 := idxP_range (fun c : Tab => eqS c.schema t.schema && eqS c.name t.name) o.tables
  have h2 : tabAt o.tables t.schema t.name = -1 := by unfold tabAt at *; omega
  have h4 : cmpS y.schema t.schema = 0 ∧ cmpS y.name t.name = 0 := by
    unfold cmpTb or2 at e
    by_cases e1 : cmpS y.schema t.schema = 0
    · rw [if_pos (by simpa using e1)] at e; exact ⟨e1, e⟩
    · rw [if_neg (by simpa using e1)] at e; exact absurd e e1
  have h3 : o.tables.any (fun c => eqS c.schema t.schema && eqS c.name t.name) = true := List.any_eq_true.2 ⟨y, hy, by rw [(cmpS_eq _ _).1 h4.1, (cmpS_eq _ _).1 h4.2]; rfl⟩
  rw [← idxP_anyO] at h3
  have := of_decide_eq_true h3
  unfold tabAt at h2
  omega
set_option maxHeartbeats 16000000 in
theorem addTab1_in (t : Tab) (Ac : Option Addr) (cc : Nat) (Ar : Option Addr) (cr : Nat) (o : Objs) (w : World) (hs ht : Hd) (L : List OTab) (B n3 bt : Nat) (hck : checkO o = true) (hbn : B ≤ n3) (hL : L.map OTab.t = o.tables) (ob : ObjIn w B hs ht o.schemas L) (hne : ∀ g ∈ hs.blk ++ (ht.blk ++ L.flatMap OTab.blks), g ≠ n3)
    (r3 : RowAt w n3 [.slice hs.a o.schemas.length hs.c, .slice ht.a o.tables.length ht.c]) (rt : RowAt w bt [.string t.schema, .string t.name, .string t.owner, .slice Ac t.cols.length cc, .slice Ar t.rules.length cr]) (hbt : bt < B) (hcs : SlAt w 3 ColR Ac cc t.cols) (hrs : SlAt w 8 RulR Ar cr t.rules) (sm : SmO o) (h1 : Small t.schema.size) (h2 : Small t.name.size) (h3 : Small t.owner.size) :
    Calls Tryz.prog 109 (#[.pointer (some ⟨n3, 0, none⟩)] ++ #[.pointer (some ⟨bt, 0, none⟩)]) w (DoP w B n3 (addTabR t o)) := by
  show Calls Tryz.prog 109 #[.pointer (some ⟨n3, 0, none⟩), .pointer (some ⟨bt, 0, none⟩)] w (DoP w B n3 (addTabR t o))
  have hoo : objOf o.schemas L = o := by unfold objOf; rw [hL]
  have hsch : SlAt w 2 SchR hs.a hs.c o.schemas := ob.schs (by rw [hoo]; exact sm)
  have htab : SlAt w 5 TabR ht.a ht.c o.tables := by have := ob.tabs (by rw [hoo]; exact sm); rw [hL] at this; exact this
  have hLL : L.length = o.tables.length := by rw [← hL]; simp
  have hlen := hsch.len
  have hlen2 := htab.len
  have hck2 := checkO_rises hck
  have x0 := r3.cell (j := 0) rfl
  have x1 := r3.cell (j := 1) rfl
  have xz := r3.1
  have t0 := rt.cell (j := 0) rfl
  have t1 := rt.cell (j := 1) rfl
  have t2 := rt.cell (j := 2) rfl
  have t3 := rt.cell (j := 3) rfl
  have t4 := rt.cell (j := 4) rfl
  have tz := rt.1
  obtain ⟨u1, hu1⟩ : ∃ u, nameB t.name = u := ⟨_, rfl⟩
  obtain ⟨u2, hu2⟩ : ∃ u, nameB t.owner = u := ⟨_, rfl⟩
  obtain ⟨i, hi⟩ : ∃ i, schAt o.schemas t.schema = i := ⟨_, rfl⟩
  obtain ⟨j, hj⟩ : ∃ j, tabAt o.tables t.schema t.name = j := ⟨_, rfl⟩
  obtain ⟨m, hm⟩ : ∃ m, within o.tables t.schema = m := ⟨_, rfl⟩
  obtain ⟨c, hc⟩ : ∃ c, colsOk t.cols = c := ⟨_, rfl⟩
  have C0 := Lib.hid (show ∀ x : Lat w, Calls Tryz.prog 107 #[.agg #[.slice hs.a o.schemas.length hs.c, .slice ht.a o.tables.length ht.c], .string t.schema, .string t.name] (lat w x) fun e w'' => e = .returned (.tuple #[.int .i64 j, .bool (decide (0 ≤ j))]) ∧ Aft (lat w x) w'' from
    fun x => (where_any _ ht.a ht.c o.tables t.schema t.name _ (tabs_aft ((Aft.refl w).lat x) htab)).mono fun e w'' ⟨he, hw⟩ => ⟨he.trans (by rw [← hj]), hw⟩)
  have C1 := Lib.hid (show ∀ w', Calls Tryz.prog 87 #[.string t.name] w' fun e w'' => e = .returned (.bool u1) ∧ w' = w'' from fun w' => hu1 ▸ name_any t.name w' h2.max)
  have C2 := Lib.hid (show ∀ w', Calls Tryz.prog 87 #[.string t.owner] w' fun e w'' => e = .returned (.bool u2) ∧ w' = w'' from fun w' => hu2 ▸ name_any t.owner w' h3.max)
  have CB := Lib.hid (show ∀ W, Aft w W → ∀ x : Lat W, Calls Tryz.prog 88 #[.slice hs.a o.schemas.length hs.c, .string t.schema, .func (.func 89) #[] #[]] (lat W x) fun e w'' => e = .returned (.int .i64 i) ∧ Aft (lat W x) w'' from
    fun W a x => (bySch hs.a hs.c o.schemas t.schema _ (schs_aft (a.lat x) hsch)).mono fun e w'' ⟨he, hw⟩ => ⟨he.trans (by rw [← hi]; rfl), hw⟩)
  have CW := Lib.hid (show ∀ W, Aft w W → ∀ x : Lat W, Calls Tryz.prog 99 #[.agg #[.slice hs.a o.schemas.length hs.c, .slice ht.a o.tables.length ht.c], .string t.schema] (lat W x) fun e w'' => e = .returned (.int .i64 m) ∧ Aft (lat W x) w'' from
    fun W a x => (within_any _ ht.a ht.c o.tables t.schema _ (tabs_aft (a.lat x) htab)).mono fun e w'' ⟨he, hw⟩ => ⟨he.trans (by rw [← hm]), hw⟩)
  have CM := Lib.hid (show ∀ W, Aft w W → Calls Tryz.prog 110 #[.slice Ac t.cols.length cc] W fun e w'' => e = .returned (.bool c) ∧ Aft W w'' from fun W a => hc ▸ mayCols_any Ac cc t.cols W (cols_aft a hcs))
  have HE := Lib.hid (show addTabR t o = if (!u1 || !u2) then (zeroO, 1) else if i < 0 then (zeroO, 61) else if 0 ≤ j then (zeroO, 60) else if 8 ≤ m then (zeroO, 2) else if (!c || decide (0 < t.rules.length)) then (zeroO, 63) else (⟨o.schemas, insAt o.tables (posB cmpTb o.tables t) t⟩, 0) by unfold addTabR; rw [hu1, hu2, hi, hj, hm, hc])
  have CP := Lib.hid (show c = true → t.rules.length = 0 → ∀ W, Aft w W → Calls Tryz.prog 111 #[.agg #[.string t.schema, .string t.name, .string t.owner, .slice Ac t.cols.length cc, .slice Ar t.rules.length cr]] W (CopyO W t) from fun h1 h2 W a => copied_in t Ac cc Ar cr W (cols_aft a hcs) (ruls_aft a hrs) (by
    rw [h1] at hc
    have : t.cols.length ≤ 8 := by unfold colsOk at hc; simp only [Bool.and_eq_true, decide_eq_true_eq] at hc; exact hc.1.2
    refine ⟨by omega, by omega, fun r hr => ?_⟩
    rw [List.length_eq_zero_iff.1 h2] at hr
    cases hr))
  have HI := Lib.hid (show j < 0 → ∀ y ∈ o.tables, cmpTb y t ≠ 0 from fun h => tab_none (hj ▸ h))
  have HOB := Lib.hid ob
  have HR3 := Lib.hid r3
  have HRT := Lib.hid rt
  have HNE := Lib.hid hne
  have HL := Lib.hid hL
  have HCT := Lib.hid (show ht.v = .slice ht.a o.tables.length ht.c from by rw [own_slice ob.tab, hLL])
  have HRS := Lib.hid hck2
  have HLL := Lib.hid hLL
  have hb64 := hck2.2.2.2
  have ERR := Lib.hid (show ∀ w', Aft w w' → ∀ c : Int, c ≠ 0 → DoP w B n3 (zeroO, c) (.returned (.int .i64 c)) w' from fun w' a c hc => ⟨rfl, Kb.of_aft a, fun h => absurd h hc⟩)
  have KF := Lib.hid (show ∀ W, Aft w W → (W.cell? ⟨n3, 0, none⟩ = some (.slice hs.a o.schemas.length hs.c) ∧ W.cell? ⟨n3, 1, none⟩ = some (.slice ht.a o.tables.length ht.c) ∧ n3 < W.heap.size ∧ W.cell? ⟨bt, 0, none⟩ = some (.string t.schema) ∧ W.cell? ⟨bt, 1, none⟩ = some (.string t.name) ∧ W.cell? ⟨bt, 2, none⟩ = some (.string t.owner) ∧ W.cell? ⟨bt, 3, none⟩ = some (.slice Ac t.cols.length cc) ∧ W.cell? ⟨bt, 4, none⟩ = some (.slice Ar t.rules.length cr) ∧ bt < W.heap.size) from fun W a => by
    have q := r3.aft a
    have p := rt.aft a
    exact ⟨q.cell (j := 0) rfl, q.cell (j := 1) rfl, q.1, p.cell (j := 0) rfl, p.cell (j := 1) rfl, p.cell (j := 2) rfl, p.cell (j := 3) rfl, p.cell (j := 4) rfl, p.1⟩)
  clear ob r3 rt hne hL hoo hck hu1 hu2 hi hj hm hc hsch htab hcs hrs hck2 hLL sm
  go_enter Tryz.func109, Tryz.ntmps109
  go_wp2_with fail
  refine wp_region_lat (by kernel_rfl) (by kernel_rfl) ?_
  repeat (go_big_quiet_step ((go_at_call 107; exact Calls.lat_of (C0.out _))))
  refine wpQuiet_nil ?_
  intro _ hw'
  obtain ⟨x, hw''⟩ := hw'
  subst hw''
  obtain ⟨W, hW⟩ : ∃ W, W = lat w x := ⟨_, rfl⟩
  have aW : Aft w W := by rw [hW]; exact (Aft.refl w).lat x
  rw [← hW]
  obtain ⟨x0, x1, xz, t0, t1, t2, t3, t4, tz⟩ := KF.out W aW
  have HAW := Lib.hid aW
  clear hW aW C0
  go_wp2_with fail
  refine (C1.out _).mono ?_
  rintro e w1 ⟨rfl, rfl⟩
  cases u1
  · go_wp2_with fail
    go_ret
    rw [HE.out]
    exact ERR.out _ HAW.out 1 (by decide)
  go_wp2_with fail
  refine (C2.out _).mono ?_
  rintro e w1 ⟨rfl, rfl⟩
  cases u2
  · go_wp2_with fail
    go_ret
    rw [HE.out]
    exact ERR.out _ HAW.out 1 (by decide)
  have CB' := Lib.hid (CB.out W HAW.out)
  clear CB C1 C2
  by_cases h0 : i < 0
  · have HH := Lib.hid h0
    go_wp2_with fail
    refine wp_region_lat (by kernel_rfl) (by kernel_rfl) ?_
    repeat (go_big_quiet_step ((go_at_call 88; exact Calls.lat_of (CB'.out _))))
    refine wpQuiet_nil ?_
    intro _ hw'
    obtain ⟨x, hw''⟩ := hw'
    subst hw''
    go_wp2_with fail
    go_ret
    rw [HE.out]
    simp only [Bool.not_true, Bool.or_self, Bool.false_eq_true, if_false, if_pos HH.out]
    exact ERR.out _ (HAW.out.lat x) 61 (by decide)
  have HH := Lib.hid h0
  go_wp2_with fail
  refine wp_region_lat (by kernel_rfl) (by kernel_rfl) ?_
  repeat (go_big_quiet_step ((go_at_call 88; exact Calls.lat_of (CB'.out _))))
  refine wpQuiet_nil ?_
  intro _ hw'
  obtain ⟨x, hw''⟩ := hw'
  subst hw''
  obtain ⟨V, hV⟩ : ∃ V, V = lat W x := ⟨_, rfl⟩
  have aV : Aft W V := by rw [hV]; exact (Aft.refl W).lat x
  rw [← hV]
  obtain ⟨x0, x1, xz, t0, t1, t2, t3, t4, tz⟩ := KF.out V (HAW.out.trans aV)
  have HAV := Lib.hid (HAW.out.trans aV)
  clear hV aV CB'
  by_cases hj0 : 0 ≤ j
  · have HJ := Lib.hid hj0
    have hd : decide (0 ≤ j) = true := decide_eq_true hj0
    rw [hd]
    go_wp2_with fail
    go_ret
    rw [HE.out]
    simp only [Bool.not_true, Bool.or_self, Bool.false_eq_true, if_false, if_neg (show ¬ i < 0 by have := HH.out; omega), if_pos HJ.out]
    exact ERR.out _ HAV.out 60 (by decide)
  have HJ := Lib.hid hj0
  have hd : decide (0 ≤ j) = false := decide_eq_false hj0
  rw [hd]
  have CW' := Lib.hid (CW.out V HAV.out)
  clear CW
  by_cases h8 : 8 ≤ m
  · have hd8 : (8 : Int) ≤ (m : Int) := by omega
    have H8 := Lib.hid h8
    clear h8
    go_wp2_with fail
    refine wp_region_lat (by kernel_rfl) (by kernel_rfl) ?_
    repeat (go_big_quiet_step ((go_at_call 99; exact Calls.lat_of (CW'.out _))))
    refine wpQuiet_nil ?_
    intro _ hw'
    obtain ⟨x, hw''⟩ := hw'
    subst hw''
    go_wp2_with fail
    go_ret
    rw [HE.out]
    simp only [Bool.not_true, Bool.or_self, Bool.false_eq_true, if_false, if_neg (show ¬ i < 0 by have := HH.out; omega), if_neg (show ¬ 0 ≤ j by have := HJ.out; omega), if_pos H8.out]
    exact ERR.out _ (HAV.out.lat x) 2 (by decide)
  have hd8 : ¬ (8 : Int) ≤ (m : Int) := by omega
  have H8 := Lib.hid h8
  clear h8
  go_wp2_with fail
  refine wp_region_lat (by kernel_rfl) (by kernel_rfl) ?_
  repeat (go_big_quiet_step ((go_at_call 99; exact Calls.lat_of (CW'.out _))))
  refine wpQuiet_nil ?_
  intro _ hw'
  obtain ⟨x, hw''⟩ := hw'
  subst hw''
  obtain ⟨U, hU⟩ : ∃ U, U = lat V x := ⟨_, rfl⟩
  have aU : Aft V U := by rw [hU]; exact (Aft.refl V).lat x
  rw [← hU]
  obtain ⟨x0, x1, xz, t0, t1, t2, t3, t4, tz⟩ := KF.out U (HAV.out.trans aU)
  have HAU := Lib.hid (HAV.out.trans aU)
  clear hU aU CW'
  go_wp2_with fail
  refine (CM.out U HAU.out).mono ?_
  rintro e X ⟨rfl, aX⟩
  obtain ⟨x0, x1, xz, t0, t1, t2, t3, t4, tz⟩ := KF.out X (HAU.out.trans aX)
  have HAX := Lib.hid (HAU.out.trans aX)
  clear aX CM
  cases c
  · go_wp2_with fail
    go_ret
    rw [HE.out]
    simp only [Bool.not_true, Bool.or_self, Bool.false_eq_true, if_false, Bool.not_false, Bool.true_or, if_true, if_neg (show ¬ i < 0 by have := HH.out; omega), if_neg (show ¬ 0 ≤ j by have := HJ.out; omega), if_neg H8.out]
    exact ERR.out _ HAX.out 63 (by decide)
  by_cases hr0 : 0 < t.rules.length
  · have hdr : (0 : Int) < (t.rules.length : Int) := by omega
    have HR0 := Lib.hid hr0
    clear hr0
    go_wp2_with fail
    go_ret
    rw [HE.out]
    simp only [Bool.not_true, Bool.or_self, Bool.false_eq_true, if_false, Bool.false_or, decide_eq_true_eq, if_neg (show ¬ i < 0 by have := HH.out; omega), if_neg (show ¬ 0 ≤ j by have := HJ.out; omega), if_neg H8.out, if_pos HR0.out]
    exact ERR.out _ HAX.out 63 (by decide)
  have hdr : ¬ (0 : Int) < (t.rules.length : Int) := by omega
  have HR0 := Lib.hid hr0
  have CPX := Lib.hid (CP.out rfl (by omega))
  have obX := HOB.out.aft HAX.out
  have HOW := Lib.hid (show X.ownsRow B 50 5 (.slice ht.a o.tables.length ht.c) o.tables.length (L.flatMap OTab.cells) by rw [← HCT.out, ← HLL.out]; exact obX.tab)
  have n1 : ¬ InV (.slice ht.a o.tables.length ht.c) n3 := fun h => HNE.out n3 (List.mem_append.2 (.inr (List.mem_append.2 (.inl (Hd.mem_blk.2 (by rw [HCT.out]; exact h)))))) rfl
  have n2 : ¬ InV (.slice ht.a o.tables.length ht.c) bt := fun h => by have := (HOW.out.lt bt h).1; omega
  have xf : X.frozen? ⟨n3, 1, none⟩ = false := (HR3.out.aft HAX.out).2.2 1 (by simp)
  obtain ⟨i0, hi0, hz0, hz1, hz2⟩ := info_parts info2Tab
  have HI0 := Lib.hid hi0
  have HZ0 := Lib.hid hz0
  have HZ1 := Lib.hid hz1
  have HZ2 := Lib.hid hz2
  have HOBX := Lib.hid obX
  clear hi0 hz0 hz1 hz2 obX hr0 CP
  go_wp2_with fail
  refine wp_region_reads 6 9 (fun w' => ∃ x : KLat (.slice ht.a o.tables.length ht.c) X, w' = klat (.slice ht.a o.tables.length ht.c) X x) (by kernel_rfl) (by kernel_rfl) (KL.aft (Aft.refl X).drew) ?_
  simp only [List.take_succ_cons, List.take_zero, List.drop_succ_cons, List.drop_zero]
  repeat (go_big_quiet_step (fail))
  refine wpQuiet_nil ?_
  refine wpChain_step (fun K hK => ?_)
  go_simp
  obtain ⟨D, hD⟩ : ∃ D, D = X.drew := ⟨_, rfl⟩
  have aD : Aft X D := by rw [hD]; exact (Aft.refl X).drew
  rw [← hD]
  go_at_call 111
  refine (CPX.out D (HAX.out.trans aD)).mono ?_
  rintro e Y ⟨x, hx, rfl, aY, tx, hxn⟩
  dsimp only
  refine hK _ _ (fun _ => KL.aft (aD.trans aY)) ?_
  clear hK K hD
  have hxt : x.t = t := hx
  have hxc : x.cells = [.string t.schema, .string t.name, .string t.owner, .slice x.hc.a t.cols.length x.hc.c, .slice x.hr.a t.rules.length x.hr.c] := by
    rw [← hxt]
    unfold OTab.cells
    rw [own_slice tx.col, own_slice tx.rul]
    simp [OTab.t]
  refine wpChain_step (fun K hK => ?_)
  go_simp
  refine hK _ _ (fun _ => KL.aft ((aD.trans aY).alloc _)) ?_
  clear hK K
  have HAY := Lib.hid (aD.trans aY)
  have zXY : X.heap.size ≤ D.heap.size ∧ D.heap.size ≤ Y.heap.size := ⟨aD.size, aY.size⟩
  refine wpChain_step (fun K hK => ?_)
  refine wp_append_lies _ (.tmp 62) (.tmp 65) 23 rfl B 50 i0 _ 5 96 Tryz.underlying23 HI0.out HZ0.out HZ1.out HZ2.out rfl (by decide) (.slice ht.a o.tables.length ht.c) o.tables.length (L.flatMap OTab.cells) (by rfl) ((own_aft HOW.out HAY.out).alloc _) ⟨Y.heap.size, 0, none⟩ 1 1 [.string t.schema, .string t.name, .string t.owner, .slice x.hc.a t.cols.length x.hc.c, .slice x.hr.a t.rules.length x.hr.c] (by rfl) rfl (World.news_of_block (cs := #[.string t.schema, .string t.name, .string t.owner, .slice x.hc.a t.cols.length x.hc.c, .slice x.hr.a t.rules.length x.hr.c]) (t := 50) (fr := (0, 0)) (heap_alloc_new Y _)) (by simp [Value.oneCell']) (by omega) (by unfold maxLen; omega) (by omega) (by simp; omega) (Y.heap.size + 1) (by simp) ?_
  intro gg cap' w5 hown5 hgrow hat hgl
  refine hK _ _ (fun _ => KL.of ((Kb.of_aft (HAY.out.alloc _)).trans (kb_in hgrow))) ?_
  clear hK K
  refine wpChain_list _ (by simp) (by decide) ?_
  have kw5 : Kb (InV (.slice ht.a o.tables.length ht.c)) X w5 := (Kb.of_aft (HAY.out.alloc _)).trans (kb_in hgrow)
  have kY5 : Kb (InV (.slice ht.a o.tables.length ht.c)) Y w5 := (Kb.of_aft ((Aft.refl Y).alloc _)).trans (kb_in hgrow)
  have d5 := kw5.cell x1 n1
  have row5 := kw5.row (HR3.out.aft HAX.out) n1
  have f5 : w5.frozen? ⟨n3, 1, none⟩ = false := row5.2.2 1 (by simp)
  have z5 := row5.1
  have hgn : gg ≠ n3 := fun e => by
    rcases hat with h1 | h1
    · exact n1 (by rw [← e]; exact h1)
    · omega
  have hIB : ∀ g, InV (.slice ht.a o.tables.length ht.c) g → B ≤ g ∧ g < X.heap.size := fun g hg => HOW.out.lt g hg
  have own6 : (w5.setCell ⟨n3, 1, none⟩ (.slice (some ⟨gg, 0, none⟩) (o.tables.length + 1) cap')).ownsRow B 50 5 (.slice (some ⟨gg, 0, none⟩) (L ++ [x]).length cap') (L ++ [x]).length ((L ++ [x]).flatMap OTab.cells) := by
    rw [List.length_append, HLL.out, List.flatMap_append, List.flatMap_cons, List.flatMap_nil, List.append_nil, hxc]
    exact own_kb hown5 (Kb.set w5 n3 1 _) (fun g hg e => by
      have e : g = n3 := e
      have : g = gg := by simpa [Value.ownBlock, eq_comm] using hg
      exact hgn (by rw [← this]; exact e))
  have CS := Lib.hid (sortTabF gg cap' B (L ++ [x]) (by simp) (by have := HLL.out; simp; omega) _ own6)
  have row6 := row5.set 1 (.slice (some ⟨gg, 0, none⟩) (o.tables.length + 1) cap') (by simp)
  have HP := Lib.hid (show ∀ w7 e, SortedP 50 5 OTab.cells (fun x y => cmpTb x.t y.t) (w5.setCell ⟨n3, 1, none⟩ (.slice (some ⟨gg, 0, none⟩) (o.tables.length + 1) cap')) B gg cap' (L ++ [x]) e w7 → e = .returned (.tuple #[]) ∧ DoP w B n3 (addTabR t o) (.returned (.int .i64 0)) w7 from fun w7 e hs7 => by
    obtain ⟨he, l', hp, hsrt, ho7, k7⟩ := hs7
    have hlt : j < 0 := by have := HJ.out; omega
    have hpm : (l'.map OTab.t).Perm (o.tables ++ [t]) := by
      have := hp.map OTab.t
      rwa [List.map_append, HL.out, List.map_cons, List.map_nil, hxt] at this
    have hl' : l'.map OTab.t = insAt o.tables (posB cmpTb o.tables t) t := sort_ins preTb.tr preTb.anti HRS.out.1 (HI.out hlt) hpm (fun a b ha hb hab => by
      have := hsrt a b (by simpa using ha) (by simpa using hb) hab
      simpa using this)
    have hll : l'.length = o.tables.length + 1 := by rw [hp.length_eq, List.length_append, HLL.out]; rfl
    refine ⟨he, ?_⟩
    rw [HE.out]
    simp only [Bool.not_true, Bool.or_self, Bool.false_eq_true, if_false, Bool.false_or, decide_eq_true_eq, if_neg (show ¬ i < 0 by have := HH.out; omega), if_neg (show ¬ 0 ≤ j by have := HJ.out; omega), if_neg H8.out, if_neg HR0.out]
    rw [← hl']
    have kall : Kb (fun g => InV (.slice ht.a o.tables.length ht.c) g ∨ g = n3 ∨ g = gg) X w7 := ((kw5.mono fun g _ h => .inl h).trans ((Kb.set w5 n3 1 _).mono fun g _ e => .inr (.inl e))).trans (k7.mono fun g _ e => .inr (.inr e))
    have kallY : Kb (fun g => InV (.slice ht.a o.tables.length ht.c) g ∨ g = n3 ∨ g = gg) Y w7 := ((kY5.mono fun g _ h => .inl h).trans ((Kb.set w5 n3 1 _).mono fun g _ e => .inr (.inl e))).trans (k7.mono fun g _ e => .inr (.inr e))
    have hgc : InV (.slice ht.a o.tables.length ht.c) gg ∨ Y.heap.size + 1 ≤ gg := by
      rcases hat with h1 | h1
      · exact .inl h1
      · exact .inr (by omega)
    have hxlt := tx.lt
    have hxD : ∀ g ∈ x.blks, X.heap.size ≤ g ∧ g < Y.heap.size := fun g hg => by have := hxlt g hg; omega
    refine ⟨rfl, (Kb.of_aft HAX.out).trans (kall.mono fun g _ h => ?_), fun _ => ⟨hs, ⟨some ⟨gg, 0, none⟩, o.tables.length + 1, cap'⟩, l', rfl, ?_, ?_⟩⟩
    · rcases h with h | h | h
      · exact (hIB g h).1
      · omega
      · rcases hgc with h1 | h1
        · rw [h]; exact (hIB gg h1).1
        · omega
    · refine HOBX.out.newTab kall (fun g hg h => ?_) hp ?_ ?_ hxn (fun g hg => (hxD g hg).1) (fun g hg => ?_)
      · have hltg := HOBX.out.lt g (by
          rcases List.mem_append.1 hg with h1 | h1
          · exact List.mem_append.2 (.inl h1)
          · exact List.mem_append.2 (.inr (List.mem_append.2 (.inr h1))))
        have hno : ∀ k, InV (.slice ht.a o.tables.length ht.c) k → k ≠ g := fun k hk e => by
          subst e
          have hkb := Hd.mem_blk.2 (show ht.v.ownBlock = some k by rw [HCT.out]; exact hk)
          rcases List.mem_append.1 hg with h1 | h1
          · exact nodup_disj HOBX.out.nd h1 (List.mem_append.2 (.inl hkb))
          · exact nodup_disj (List.nodup_append.1 HOBX.out.nd).2.1 hkb h1
        rcases h with h | h | h
        · exact hno g h rfl
        · refine HNE.out g ?_ h
          rcases List.mem_append.1 hg with h1 | h1
          · exact List.mem_append.2 (.inl h1)
          · exact List.mem_append.2 (.inr (List.mem_append.2 (.inr h1)))
        · rcases hgc with h1 | h1
          · exact hno gg h1 h.symm
          · omega
      · have := ho7
        rw [List.length_append, HLL.out] at this
        rw [hll]
        exact this
      · refine (tx.down (B' := B) (by omega)).kb kallY (fun g hg h => ?_)
        have := hxD g hg
        rcases h with h | h | h
        · have := (hIB g h).2; omega
        · omega
        · rcases hgc with h1 | h1
          · have := (hIB gg h1).2; omega
          · omega
      · rw [blk_some, List.mem_singleton] at hg
        have hg : g = gg := hg
        rw [hg]
        refine ⟨?_, fun hc => ?_⟩
        · rcases hgc with h1 | h1
          · exact .inl (Hd.mem_blk.2 (by rw [HCT.out]; exact h1))
          · exact .inr (by omega)
        · have := hxD gg hc
          rcases hgc with h1 | h1
          · have := (hIB gg h1).2; omega
          · omega
    · rw [List.length_map, hll]
      exact k7.row row6 (fun e => hgn e.symm))
  have c6 := row6.cell (j := 1) rfl
  have z6 := row6.1
  have CS' := Lib.hid (show Calls Tryz.prog 112 #[.slice (some ⟨gg, 0, none⟩) (o.tables.length + 1) cap', .func (.func 102) #[] #[]] (w5.setCell ⟨n3, 1, none⟩ (.slice (some ⟨gg, 0, none⟩) (o.tables.length + 1) cap')) (SortedP 50 5 OTab.cells (fun x y => cmpTb x.t y.t) (w5.setCell ⟨n3, 1, none⟩ (.slice (some ⟨gg, 0, none⟩) (o.tables.length + 1) cap')) B gg cap' (L ++ [x])) from by
    have h := CS.out
    rw [List.length_append, HLL.out, List.length_singleton] at h
    exact h)
  clear hown5 hgrow hat hgl kw5 kY5 row5 own6 row6 CS hxc hx hxt tx hxn aY aD HAY
  go_wp2_with fail
  refine NoPanic.normal ?_
  go_wp2_with fail
  refine CS'.out.mono ?_
  intro e w7 hs7
  obtain ⟨rfl, hp7⟩ := HP.out w7 e hs7
  have HP7 := Lib.hid hp7
  clear hs7 hp7 CS' HP
  go_wp2_with fail
  go_ret
  exact HP7.out
end Go.Proofs.YticjnndhpfdajaaGreat
/- The document's AddTable: append of one table, the frame of the end. -/
namespace Go.Proofs.YticjnndhpfdajaaGreat
open Go.RowKit Go.Deep
set_option maxRecDepth 100000
set_option linter.unusedVariables false
theorem app_tab {ops : Array Oper} {rest : List Oper} {o : Oper} {a : Act} {w : World} {Q : Exit → Act → World → Prop} (hgd : o.guard = none) (s x : Operand)
    (ho : o.op = .call { callee := .builtin .append, args := #[s, x], argTypes := #[23, 23] }) (base : Nat) (v : Value) (n : Nat) (xs : List Value) (hs : a.eval s = v) (hown : w.ownsRow base 50 5 v n xs)
    (b : Nat) (y : OTab) (c0 c1 c2 : ByteArray) (A2 : Option Addr) (n2 k2 : Nat) (A3 : Option Addr) (n3 k3 : Nat) (hy : y.cells = [.string c0, .string c1, .string c2, .slice A2 n2 k2, .slice A3 n3 k3]) (hx : a.eval x = .slice (some ⟨b, 0, none⟩) 1 1) (hb : w.heap[b]? = some (.cells #[.string c0, .string c1, .string c2, .slice A2 n2 k2, .slice A3 n3 k3] 50)) (hn : n ≤ 1000000) (hbase : base ≤ w.heap.size)
    (h : ∀ g cap w', w'.ownsRow base 50 5 (.slice (some ⟨g, 0, none⟩) (n + 1) cap) (n + 1) (xs ++ y.cells) → w.grownBy w' v.ownBlock → (v.ownBlock = some g ∨ g = w.heap.size) → wpList Tryz.prog ops Q rest (a.put o.dst (.slice (some ⟨g, 0, none⟩) (n + 1) cap)) w') : wpList Tryz.prog ops Q (o :: rest) a w := by
  obtain ⟨i0, hi0, hz0, hz1, hz2⟩ := info_parts info2Tab
  rw [hy] at h
  exact wpList_append_lies w hgd s x 23 ho base 50 i0 _ 5 96 Tryz.underlying23 hi0 hz0 hz1 hz2 rfl (by decide) v n xs hs hown ⟨b, 0, none⟩ 1 1 [.string c0, .string c1, .string c2, .slice A2 n2 k2, .slice A3 n3 k3] hx rfl (World.news_of_block (cs := #[.string c0, .string c1, .string c2, .slice A2 n2 k2, .slice A3 n3 k3]) (t := 50) (fr := (0, 0)) hb) (by simp [Value.oneCell']) (by omega) (by unfold maxLen; omega) (by omega) hbase _ rfl fun g cap w' h1 h2 h3 _ => h g cap w' h1 h2 h3
structure GrT (X wr : World) (h : Hd) (l xs : List OTab) : Prop where
  aft : Aft X wr
  own : wr.ownsRow X.heap.size 50 5 h.v l.length (l.flatMap OTab.cells)
  each : ∀ x ∈ xs, TabIn wr X.heap.size x
  nd : (h.blk ++ xs.flatMap OTab.blks).Nodup
theorem GrT.start (X : World) : GrT X X ⟨none, 0, 0⟩ [] [] := ⟨Aft.refl X, own_nil _ _ _ _, fun x hx => by simp at hx, by simp [blk_nil]⟩
theorem GrT.own' {X wr : World} {h : Hd} {l xs : List OTab} (g : GrT X wr h l xs) : wr.ownsRow X.heap.size 50 5 (.slice h.a l.length h.c) l.length (l.flatMap OTab.cells) := by
  have := g.own
  rw [own_slice this] at this
  exact this
theorem GrT.grow {X wr w4 w5 : World} {h : Hd} {l xs : List OTab} {y : OTab} {gg cap : Nat} (g : GrT X wr h l xs) (a4 : Aft wr w4) (ho : w5.ownsRow X.heap.size 50 5 (.slice (some ⟨gg, 0, none⟩) (l.length + 1) cap) (l.length + 1) (l.flatMap OTab.cells ++ y.cells))
    (hg : w4.grownBy w5 (Value.slice h.a l.length h.c).ownBlock) (hat : (Value.slice h.a l.length h.c).ownBlock = some gg ∨ gg = w4.heap.size) : GrT X w5 ⟨some ⟨gg, 0, none⟩, l.length + 1, cap⟩ (l ++ [y]) xs := by
  have hv : h.v = .slice h.a l.length h.c := own_slice g.own
  rw [← hv] at hg hat
  have kg : Kb (fun b => h.v.ownBlock = some b) w4 w5 := Kb.of_grown hg
  have hz := a4.size
  refine ⟨aft_grown (own_aft g.own a4) (g.aft.trans a4) hg, ?_, fun x hx => ((g.each x hx).aft a4).kb kg fun b hb hb2 => ?_, ?_⟩
  · rw [List.length_append, List.flatMap_append, List.flatMap_cons, List.flatMap_nil, List.append_nil]; exact ho
  · exact nodup_disj g.nd (Hd.mem_blk.2 hb2) (List.mem_flatMap.2 ⟨x, hx, hb⟩)
  · refine List.nodup_append.2 ⟨blk_nodup _, (List.nodup_append.1 g.nd).2.1, fun a ha b hb e => ?_⟩
    subst e
    rw [blk_some, List.mem_singleton] at ha
    subst ha
    rcases hat with h1 | h1
    · exact nodup_disj g.nd (Hd.mem_blk.2 h1) hb
    · obtain ⟨x, hx, hbx⟩ := List.mem_flatMap.1 hb
      have := ((g.each x hx).lt _ hbx).2
      omega
theorem GrT.growNew {X wr w4 w5 : World} {h : Hd} {l : List OTab} {y : OTab} {gg cap : Nat} (g : GrT X wr h l []) (a4 : Aft wr w4) (tx : TabIn w4 wr.heap.size y) (nx : y.blks.Nodup) (ho : w5.ownsRow X.heap.size 50 5 (.slice (some ⟨gg, 0, none⟩) (l.length + 1) cap) (l.length + 1) (l.flatMap OTab.cells ++ y.cells))
    (hg : w4.grownBy w5 (Value.slice h.a l.length h.c).ownBlock) (hat : (Value.slice h.a l.length h.c).ownBlock = some gg ∨ gg = w4.heap.size) : GrT X w5 ⟨some ⟨gg, 0, none⟩, l.length + 1, cap⟩ (l ++ [y]) [y] := by
  have g1 := g.grow a4 ho hg hat
  have hv : h.v = .slice h.a l.length h.c := own_slice g.own
  rw [← hv] at hg hat
  have kg : Kb (fun b => h.v.ownBlock = some b) w4 w5 := Kb.of_grown hg
  have hz := a4.size
  have hlt : ∀ b, h.v.ownBlock = some b → b < wr.heap.size := fun b hb => (g.own.lt b hb).2
  refine ⟨g1.aft, g1.own, fun x hx => ?_, ?_⟩
  · rw [List.mem_singleton] at hx
    subst hx
    exact (tx.kb kg fun b hb hb2 => by have := (tx.lt b hb).1; have := hlt b hb2; omega).down g.aft.size
  · rw [List.flatMap_cons, List.flatMap_nil, List.append_nil]
    refine List.nodup_append.2 ⟨blk_nodup _, nx, fun a ha b hb e => ?_⟩
    subst e
    rw [blk_some, List.mem_singleton] at ha
    subst ha
    have := tx.lt _ hb
    rcases hat with h1 | h1
    · have := hlt _ h1; omega
    · omega
/-- the end: the tables in our own box are others -/
theorem endT {w W w2 w3 wr : World} {b : Nat} {o : Objs} {hs ht h : Hd} {L l : List OTab} {x : OTab} (aW : Aft w W) (rW : RowAt W b [.slice none 0 0, .slice none 0 0]) (hbw : w.heap.size ≤ b) (a2 : Aft W w2) (a3 : Aft w2 w3) (hL : L.map OTab.t = o.tables) (ob : ObjIn w3 w2.heap.size hs ht o.schemas L)
    (g : GrT (OutO w3 (.slice hs.a o.schemas.length hs.c) (.slice ht.a o.tables.length ht.c)) wr h l [x]) (hp : l.Perm (L ++ [x])) (n : Nat) (hn : n = l.length) :
      RowAt (wr.setCell ⟨w3.heap.size, 1, none⟩ (.slice h.a n h.c)) w3.heap.size [.slice hs.a o.schemas.length hs.c, .slice h.a n h.c] ∧
      RowAt (((wr.setCell ⟨w3.heap.size, 1, none⟩ (.slice h.a n h.c)).setCell ⟨b, 0, none⟩ (.slice hs.a o.schemas.length hs.c)).setCell ⟨b, 1, none⟩ (.slice h.a n h.c)) b [.slice hs.a o.schemas.length hs.c, .slice h.a n h.c] ∧
      ObjP w (⟨o.schemas, l.map OTab.t⟩, 0) (.returned (.tuple #[.agg #[.slice hs.a o.schemas.length hs.c, .slice h.a n h.c], .int .i64 0])) (((wr.setCell ⟨w3.heap.size, 1, none⟩ (.slice h.a n h.c)).setCell ⟨b, 0, none⟩ (.slice hs.a o.schemas.length hs.c)).setCell ⟨b, 1, none⟩ (.slice h.a n h.c)) := by
  subst hn
  have ar := g.aft
  have ho := g.own'
  rw [OutO.size] at ho
  have z2 := a2.size
  have zb := rW.1
  have zw := aW.size
  have z3 := a3.size
  have zr := ar.size
  rw [OutO.size] at zr
  have a3r := (OutO.aft w3 (.slice hs.a o.schemas.length hs.c) (.slice ht.a o.tables.length ht.c)).trans ar
  have aw := (aW.trans a2).trans (a3.trans a3r)
  have rb := (OutO.row w3 (.slice hs.a o.schemas.length hs.c) (.slice ht.a o.tables.length ht.c)).aft ar
  have rr := (rW.aft a2).aft (a3.trans a3r)
  have hlt := ob.lt
  have tx := g.each x (by simp)
  rw [OutO.size] at tx
  have ghb : ∀ c ∈ (Hd.mk h.a l.length h.c).blk, w3.heap.size + 1 ≤ c := fun c hb => (ho.lt c (Hd.mem_blk.1 hb)).1
  have hnd := g.nd
  rw [List.flatMap_cons, List.flatMap_nil, List.append_nil] at hnd
  have hhv : ∀ c ∈ (Hd.mk h.a l.length h.c).blk, c ∈ h.blk := fun c hb => by
    rw [Hd.mem_blk] at hb ⊢
    rw [own_slice g.own]; exact hb
  have obn : ObjIn wr (W.heap.size) hs ⟨h.a, l.length, h.c⟩ o.schemas l :=
    (ob.down (B' := W.heap.size) (by omega)).newTab (P := fun _ => False) (Kb.of_aft a3r) (fun _ _ h => h) hp (own_down ho (by omega)) (tx.down (by omega)) (List.nodup_append.1 hnd).2.1 (fun c hb => by have := (tx.lt c hb).1; omega)
      (fun c hb => ⟨.inr (by have := ghb c hb; omega), fun hb2 => nodup_disj hnd (hhv c hb) hb2⟩)
  have hltn : ∀ c ∈ hs.blk ++ ((Hd.mk h.a l.length h.c).blk ++ l.flatMap OTab.blks), c ≠ w3.heap.size ∧ c ≠ b := fun c hb => by
    have hb1 := (obn.lt c hb).1
    refine ⟨fun e => ?_, by omega⟩
    rcases List.mem_append.1 hb with h1 | h1
    · have := (hlt c (List.mem_append.2 (.inl h1))).2; omega
    · rcases List.mem_append.1 h1 with h2 | h2
      · have := ghb c h2; omega
      · obtain ⟨y, hy, hby⟩ := List.mem_flatMap.1 h2
        rcases List.mem_append.1 (hp.subset hy) with h3 | h3
        · have := (hlt c (List.mem_append.2 (.inr (List.mem_append.2 (.inr (List.mem_flatMap.2 ⟨y, h3, hby⟩)))))).2; omega
        · rw [List.mem_singleton] at h3
          subst h3
          have := (tx.lt c hby).1; omega
  have k1 := Kb.set wr w3.heap.size 1 (.slice h.a l.length h.c)
  have k2 := Kb.set (wr.setCell ⟨w3.heap.size, 1, none⟩ (.slice h.a l.length h.c)) b 0 (.slice hs.a o.schemas.length hs.c)
  have k3 := Kb.set ((wr.setCell ⟨w3.heap.size, 1, none⟩ (.slice h.a l.length h.c)).setCell ⟨b, 0, none⟩ (.slice hs.a o.schemas.length hs.c)) b 1 (.slice h.a l.length h.c)
  refine ⟨rb.set 1 _ (by simp), setO_row (k1.row rr (by omega)) rfl _ _, ⟨hs, ⟨h.a, l.length, h.c⟩, l, rfl, by simp, ?_, ?_⟩⟩
  · exact k3.to_aft (k2.to_aft (k1.to_aft aw (fun g hg e => by omega)) (fun g hg e => by omega)) (fun g hg e => by omega)
  · exact ((((obn.kb k1 fun g hg e => (hltn g hg).1 e).kb k2 fun g hg e => (hltn g hg).2 e).kb k3 fun g hg e => (hltn g hg).2 e)).down (by omega)
end Go.Proofs.YticjnndhpfdajaaGreat
