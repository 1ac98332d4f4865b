/- Contracts of the program, part 23. -/
import Derived.Test.YticjnndhpfdajaaGreatPart14
import Derived.Test.YticjnndhpfdajaaGreatPart20
import Derived.Test.YticjnndhpfdajaaGreatPart15
import Derived.Test.YticjnndhpfdajaaGreatPart16
import Derived.RangeFuncNested
import Derived.RangeFuncBound
import Derived.RangeFuncCalls
import Derived.RangeFuncLeaves
import Derived.Shelf.Abstract
import Derived.Shelf.RegionOpen
import Derived.WalkKit
import Derived.OwnWalkIn
import Derived.TacticsInMore
import Derived.LoopNIn
import Derived.LoopIn
/- objects.tableChanged: a table of our own objects, changed by what is handed in. -/
namespace Go.Proofs.YticjnndhpfdajaaGreat
open Go.RowKit Go.Deep
set_option maxRecDepth 100000
set_option linter.unusedVariables false
/-- a table changed -/
def tabR (o : Objs) (s n : ByteArray) (f : Tab → Tab × Int) : Objs × Int :=
  match o.tables[(tabAt o.tables s n).toNat]? with
  | some t => if tabAt o.tables s n < 0 then (zeroO, 61) else if (f t).2 = 0 then (⟨o.schemas, o.tables.set (tabAt o.tables s n).toNat (f t).1⟩, 0) else (zeroO, (f t).2)
  | none => (zeroO, 61)
theorem tabR_none {o : Objs} {s n : ByteArray} {f : Tab → Tab × Int} (h : tabAt o.tables s n < 0) : tabR o s n f = (zeroO, 61) := by
  unfold tabR; split
  · rw [if_pos h]
  · rfl
theorem tabR_some {o : Objs} {s n : ByteArray} {f : Tab → Tab × Int} {q : Nat} (h : tabAt o.tables s n = q) (hq : q < o.tables.length) : tabR o s n f = if (f o.tables[q]).2 = 0 then (⟨o.schemas, o.tables.set q (f o.tables[q]).1⟩, 0) else (zeroO, (f o.tables[q]).2) := by
  unfold tabR
  rw [h]
  simp only [Int.toNat_natCast, List.getElem?_eq_getElem hq]
  rw [if_neg (by omega)]
theorem tabR_zero {o : Objs} {s n : ByteArray} {f : Tab → Tab × Int} : (tabR o s n f).2 ≠ 0 → (tabR o s n f).1 = zeroO := by
  unfold tabR
  split
  · split
    · intro _; rfl
    · split
      · intro h; exact absurd rfl h
      · intro _; rfl
  · intro _; rfl
/-- what a change makes of the table q -/
def TDoP (w : World) (B n3 : Nat) (hs ht : Hd) (ss : List Sch) (L : List OTab) (q : Nat) (r : Tab × Int) (e : Ending) (w' : World) : Prop :=
  e = .returned (.int .i64 r.2) ∧ Kb (fun g => B ≤ g) w w' ∧ (r.2 = 0 → ∃ x : OTab, x.t = r.1 ∧ ObjIn w' B hs ht ss (L.set q x) ∧ RowAt w' n3 [.slice hs.a ss.length hs.c, .slice ht.a L.length ht.c])
set_option maxHeartbeats 8000000 in
theorem tabCh1_in (o : Objs) (s n : ByteArray) (g2 : FuncId) (cs2 : Array Value) (f : Tab → Tab × Int) (w : World) (hs ht : Hd) (L : List OTab) (B n3 bs bt bd : Nat) (hL : L.map OTab.t = o.tables) (ob : ObjIn w B hs ht o.schemas L) (sm : SmO o)
    (r3 : RowAt w n3 [.slice hs.a o.schemas.length hs.c, .slice ht.a o.tables.length ht.c]) (c1 : w.cell? ⟨bs, 0, none⟩ = some (.string s)) (c2 : w.cell? ⟨bt, 0, none⟩ = some (.string n)) (c3 : w.cell? ⟨bd, 0, none⟩ = some (.func (.func g2) #[] cs2))
    (hent : ∀ (args : Array Value) (w : World), (callFunc g2 args).run Tryz.prog w = .ok (.enter g2 args) w)
    (hdo : ∀ (w' : World) (q gt : Nat) (hq : q < L.length), Aft w w' → ht.a = some ⟨gt, 0, none⟩ → tabAt o.tables s n = q → Calls Tryz.prog g2 (#[.agg #[.slice hs.a o.schemas.length hs.c, .slice ht.a o.tables.length ht.c], .pointer (some ⟨gt, q * 5, none⟩)] ++ cs2) w' (TDoP w' B n3 hs ht o.schemas L q (f L[q].t))) :
    Calls Tryz.prog 141 #[.pointer (some ⟨n3, 0, none⟩), .pointer (some ⟨bs, 0, none⟩), .pointer (some ⟨bt, 0, none⟩), .pointer (some ⟨bd, 0, none⟩)] w (DoP w B n3 (tabR o s n f)) := by
  have hoo : objOf o.schemas L = o := by unfold objOf; rw [hL]
  have tabs := ob.tabs (by rw [hoo]; exact sm)
  rw [hL] at tabs
  obtain ⟨i, hi⟩ : ∃ i, tabAt o.tables s n = i := ⟨_, rfl⟩
  have hir : -1 ≤ i ∧ i < o.tables.length := by rw [← hi]; exact idxP_range _ _
  have CW := Lib.hid (show ∀ x : Lat w, Calls Tryz.prog 107 #[.agg #[.slice hs.a o.schemas.length hs.c, .slice ht.a o.tables.length ht.c], .string s, .string n] (lat w x) fun e w' => e = .returned (.tuple #[.int .i64 i, .bool (decide (0 ≤ i))]) ∧ Aft (lat w x) w' from
    fun x => (where_any (.slice hs.a o.schemas.length hs.c) ht.a ht.c o.tables s n (lat w x) (tabs_aft ((Aft.refl w).lat x) tabs)).mono fun e w' ⟨he, hw⟩ => ⟨he.trans (by rw [hi]), hw⟩)
  have e0 := r3.cell (j := 0) rfl
  have e1 := r3.cell (j := 1) rfl
  have z3 := r3.1
  have y1 := World.block_lt_of_cell? _ _ c1
  have y2 := World.block_lt_of_cell? _ _ c2
  have y3 := World.block_lt_of_cell? _ _ c3
  have HLL := Lib.hid (show L.length = o.tables.length by rw [← hL]; simp)
  have hlen : o.tables.length * 16 ≤ 140737488351232 := tabs.len
  have HT := Lib.hid ob.tab
  have HDO := Lib.hid hdo
  have HL := Lib.hid hL
  clear hoo tabs hdo ob hL sm r3
  by_cases h0 : 0 ≤ i
  · obtain ⟨q, rfl⟩ := Int.eq_ofNat_of_zero_le h0
    have hq : q < o.tables.length := by omega
    obtain ⟨gt, hgt, hgb, _⟩ := own_place HT.out (by have := HLL.out; omega)
    obtain ⟨At, nt, ct⟩ := ht
    have hgt' : At = some ⟨gt, 0, none⟩ := hgt
    subst hgt'
    have HI := Lib.hid hi
    have hd : decide (0 ≤ (q : Int)) = true := by simp
    clear hgt hi h0 hir HT
    go_enter Tryz.func141, Tryz.ntmps141
    go_wp2_with fail
    refine wp_region_lat (by kernel_rfl) (by kernel_rfl) ?_
    repeat (go_big_quiet_step ((go_at_call 107; exact Calls.lat_of (CW.out _))))
    refine wpQuiet_nil ?_
    intro _ hw'
    obtain ⟨x, hw''⟩ := hw'
    subst hw''
    obtain ⟨W, hW⟩ : ∃ W, W = lat w x := ⟨_, rfl⟩
    have aW : Aft w W := by rw [hW]; exact (Aft.refl w).lat x
    rw [← hW]
    have E0 := aW.cell_kept e0
    have E1 := aW.cell_kept e1
    have C3 := aW.cell_kept c3
    have Z3 := Nat.lt_of_lt_of_le z3 aW.size
    have Y3 := Nat.lt_of_lt_of_le y3 aW.size
    have HAW := Lib.hid aW
    clear hW CW e0 e1 c1 c2 c3 z3 y1 y2 y3 aW
    have hqq : (q : Int) < (o.tables.length : Int) := by omega
    have hqz : (0 : Int) ≤ (q : Int) := by omega
    go_wp2_with fail
    go_still_tail 10, (by kernel_rfl)
    go_wp2_with fail
    have hqL : q < L.length := by rw [HLL.out]; exact hq
    refine (HDO.out _ q gt hqL HAW.out.drew rfl HI.out).mono ?_
    rintro e w4 ⟨rfl, k4, hz4⟩
    have htq : L[q].t = o.tables[q] := by
      have : (L.map OTab.t)[q]'(by simpa using hqL) = o.tables[q] := by simp only [HL.out]
      simpa using this
    rw [htq] at hz4 ⊢
    have HK4 := Lib.hid ((Kb.of_aft HAW.out.drew).trans k4)
    have HZ4 := Lib.hid hz4
    clear k4 hz4 htq
    have HE := Lib.hid (tabR_some (f := f) HI.out hq)
    obtain ⟨fr, hfr⟩ : ∃ fr, f o.tables[q] = fr := ⟨_, rfl⟩
    rw [hfr] at HE HZ4 ⊢
    clear hfr
    obtain ⟨r0, rc⟩ := fr
    go_wp2_with fail
    go_ret
    rw [HE.out]
    by_cases hrc : rc = 0
    · subst hrc
      rw [if_pos rfl]
      refine ⟨rfl, HK4.out, fun _ => ?_⟩
      obtain ⟨x', hx', ob', r4⟩ := HZ4.out rfl
      refine ⟨hs, ⟨some ⟨gt, 0, none⟩, nt, ct⟩, L.set q x', ?_, ob', ?_⟩
      · rw [List.map_set, HL.out, hx']
      · have hl := HLL.out
        rw [hl] at r4
        simpa using r4
    · rw [if_neg (by simpa using hrc)]
      exact ⟨rfl, HK4.out, fun h => absurd h (by simpa using hrc)⟩
  · have HI := Lib.hid hi
    have hd : decide (0 ≤ i) = false := by simpa using h0
    clear hi
    go_enter Tryz.func141, Tryz.ntmps141
    go_wp2_with fail
    refine wp_region_lat (by kernel_rfl) (by kernel_rfl) ?_
    repeat (go_big_quiet_step ((go_at_call 107; exact Calls.lat_of (CW.out _))))
    refine wpQuiet_nil ?_
    intro _ hw'
    obtain ⟨x, hw''⟩ := hw'
    subst hw''
    go_wp2_with fail
    go_ret
    rw [tabR_none (by rw [HI.out]; omega)]
    exact ⟨rfl, Kb.of_aft ((Aft.refl w).lat x), fun h => by simp at h⟩
set_option maxHeartbeats 8000000 in
theorem tabCh_in (o : Objs) (As : Option Addr) (caps : Nat) (At : Option Addr) (capt : Nat) (s n : ByteArray) (g : FuncId) (cs : Array Value) (f : Tab → Tab × Int) (w : World) (hsch : SlAt w 2 SchR As caps o.schemas) (htab : SlAt w 5 TabR At capt o.tables)
    (hent : ∀ (args : Array Value) (w : World), (callFunc g args).run Tryz.prog w = .ok (.enter g args) w)
    (hdo : checkO o = true → ∀ (w' : World) (hs ht : Hd) (L : List OTab) (B n3 q gt : Nat) (hq : q < L.length), Aft w w' → w.heap.size ≤ B → B ≤ n3 → L.map OTab.t = o.tables → ObjIn w' B hs ht o.schemas L → (∀ g ∈ hs.blk ++ (ht.blk ++ L.flatMap OTab.blks), g ≠ n3) →
      RowAt w' n3 [.slice hs.a o.schemas.length hs.c, .slice ht.a o.tables.length ht.c] → ht.a = some ⟨gt, 0, none⟩ → tabAt o.tables s n = q → Calls Tryz.prog g (#[.agg #[.slice hs.a o.schemas.length hs.c, .slice ht.a o.tables.length ht.c], .pointer (some ⟨gt, q * 5, none⟩)] ++ cs) w' (TDoP w' B n3 hs ht o.schemas L q (f L[q].t))) :
    Calls Tryz.prog 60 #[.agg #[.slice As o.schemas.length caps, .slice At o.tables.length capt], .string s, .string n, .func (.func g) #[] cs] w (ObjP w (chgR o (tabR o s n f))) := by
  have hlen := hsch.len
  have hlen2 := htab.len
  have hent1 := enters (P := Tryz.prog) Tryz.func141 (by kernel_rfl) rfl
  have l1 : w.heap.size < w.heap.size + 1 := by omega
  have l2 : w.heap.size < w.heap.size + 1 + 1 := by omega
  have l3 : w.heap.size < w.heap.size + 1 + 1 + 1 := by omega
  have l4 : w.heap.size < w.heap.size + 1 + 1 + 1 + 1 := by omega
  have l5 : w.heap.size < w.heap.size + 1 + 1 + 1 + 1 + 1 := by omega
  have sm : SmO o := ⟨sm_schs hsch, sm_tabs htab⟩
  obtain ⟨W, hW⟩ : ∃ W, W = ((((w.alloc (.cells #[.slice As o.schemas.length caps, .slice At o.tables.length capt] 25)).alloc (.cells #[.string s] 9)).alloc (.cells #[.string n] 9)).alloc (.cells #[.func (.func g) #[] cs] 88)).alloc (.cells #[.slice none 0 0, .slice none 0 0] 25) := ⟨_, rfl⟩
  have aW : Aft w W := by rw [hW]; exact (((((Aft.refl w).alloc _).alloc _).alloc _).alloc _).alloc _
  have c1 : W.cell? ⟨w.heap.size + 1, 0, none⟩ = some (.string s) := by
    rw [hW]; (repeat (refine (World.cell?_alloc_past _ _ _ (by first | (simp; done) | (simp; omega))).trans ?_)); exact World.cell?_alloc_at _ _ _ _ (by simp)
  have c2 : W.cell? ⟨w.heap.size + 1 + 1, 0, none⟩ = some (.string n) := by
    rw [hW]; (repeat (refine (World.cell?_alloc_past _ _ _ (by first | (simp; done) | (simp; omega))).trans ?_)); exact World.cell?_alloc_at _ _ _ _ (by simp)
  have c3 : W.cell? ⟨w.heap.size + 1 + 1 + 1, 0, none⟩ = some (.func (.func g) #[] cs) := by
    rw [hW]; (repeat (refine (World.cell?_alloc_past _ _ _ (by first | (simp; done) | (simp; omega))).trans ?_)); exact World.cell?_alloc_at _ _ _ _ (by simp)
  have r4 : RowAt W (w.heap.size + 1 + 1 + 1 + 1) [.slice none 0 0, .slice none 0 0] := by
    rw [hW]
    have := (box_row2 (w := (((w.alloc (.cells #[.slice As o.schemas.length caps, .slice At o.tables.length capt] 25)).alloc (.cells #[.string s] 9)).alloc (.cells #[.string n] 9)).alloc (.cells #[.func (.func g) #[] cs] 88)) (c := [.slice none 0 0, .slice none 0 0]) (t := 25) (Aft.refl _))
    simpa using this
  have zW : w.heap.size ≤ W.heap.size := aW.size
  have CC := Lib.hid (changed_in o As caps At capt 141 #[.pointer (some ⟨w.heap.size + 1, 0, none⟩), .pointer (some ⟨w.heap.size + 1 + 1, 0, none⟩), .pointer (some ⟨w.heap.size + 1 + 1 + 1, 0, none⟩)] (tabR o s n f) W (schs_aft aW hsch) (tabs_aft aW htab) hent1 tabR_zero
    (fun hck w' hs ht L B n3 a' hB hn hL ob hne r3 => tabCh1_in o s n g cs f w' hs ht L B n3 _ _ _ hL ob sm r3 (a'.cell_kept c1) (a'.cell_kept c2) (a'.cell_kept c3) hent
      (fun w'' q gt hq a'' hgt hqq => hdo hck w'' hs ht L B n3 q gt hq (aW.trans (a'.trans a'')) (Nat.le_trans zW hB) hn hL (ob.aft a'') hne (r3.aft a'') hgt hqq)))
  have HAW := Lib.hid aW
  have HR4 := Lib.hid r4
  have HZW := Lib.hid (show W.heap.size = w.heap.size + 5 by rw [hW]; simp)
  obtain ⟨rr, hrr⟩ : ∃ rr, chgR o (tabR o s n f) = rr := ⟨_, rfl⟩
  rw [hrr] at CC ⊢
  clear c1 c2 c3 r4 aW hsch htab hdo zW sm hrr
  go_enter Tryz.func60, Tryz.ntmps60
  go_wp2_with fail
  rw [← hW]
  clear hW
  refine CC.out.mono ?_
  rintro e w1 ⟨hs, ht, L, hL, rfl, a1, ob⟩
  have b4 := HR4.out.aft a1
  have d0 := b4.cell (j := 0) rfl
  have d1 := b4.cell (j := 1) rfl
  have f0 := b4.2.2 0 (by simp)
  have f1 := b4.2.2 1 (by simp)
  have z2 := b4.1
  have HB4 := Lib.hid b4
  have HA1 := Lib.hid (HAW.out.trans a1)
  have HO := Lib.hid ob
  have HL := Lib.hid hL
  clear b4 a1 ob hL CC
  go_wp2_with fail
  obtain ⟨F, hF⟩ : ∃ F, F = (w1.setCell ⟨w.heap.size + 1 + 1 + 1 + 1, 0, none⟩ (.slice hs.a rr.1.schemas.length hs.c)).setCell ⟨w.heap.size + 1 + 1 + 1 + 1, 1, none⟩ (.slice ht.a rr.1.tables.length ht.c) := ⟨_, rfl⟩
  have kF : Kb (fun g => g = w.heap.size + 1 + 1 + 1 + 1) w1 F := by rw [hF]; exact (Kb.set _ _ _ _).trans (Kb.set _ _ _ _)
  have rF : RowAt F (w.heap.size + 1 + 1 + 1 + 1) [.slice hs.a rr.1.schemas.length hs.c, .slice ht.a rr.1.tables.length ht.c] := by rw [hF]; exact (HB4.out.set 0 _ (by simp)).set 1 _ (by simp)
  rw [← hF]
  refine bodyPost_ret (results_cell_tmp (v := .agg #[.slice hs.a rr.1.schemas.length hs.c, .slice ht.a rr.1.tables.length ht.c]) rfl _ rfl ?hl) rfl ?_
  case hl => exact lvObj_row rF
  refine ⟨hs, ht, L, HL.out, rfl, kF.to_aft HA1.out (fun g hg e => by omega), ?_⟩
  have hz := HZW.out
  refine ObjIn.down (HO.out.kb kF fun g hg e => ?_) (show w.heap.size ≤ W.heap.size by omega)
  have := (HO.out.lt g hg).1
  omega
end Go.Proofs.YticjnndhpfdajaaGreat
/- Rules of our own tables: added, dropped, sorted. -/
namespace Go.Proofs.YticjnndhpfdajaaGreat
open Go.RowKit Go.Deep Go.Sort
set_option maxRecDepth 100000
set_option linter.unusedVariables false
/-- the rules of the table q lie in another row now, or the same row holds others; new ones have names of their own -/
theorem ObjIn.newRul {Y : Nat → Prop} {w w5 w7 : World} {B gt q gg : Nat} {hs ht hr' : Hd} {ss : List Sch} {L : List OTab} {l' : List ORul} (ob : ObjIn w B hs ht ss L) (hq : q < L.length) (hgt : ht.a = some ⟨gt, 0, none⟩)
    (hY : ∀ g, Y g → g < B) (k5 : Kb (fun g => L[q].hr.v.ownBlock = some g ∨ Y g) w w5) (k7 : Kb (fun g => g = gg) (w5.setCell ⟨gt, q * 5 + 4, none⟩ hr'.v) w7) (hgg : L[q].hr.v.ownBlock = some gg ∨ w.heap.size ≤ gg)
    (ho : w7.ownsRow B 29 8 hr'.v l'.length (l'.flatMap ORul.cells)) (hb : ∀ g ∈ hr'.blk, g = gg)
    (hall : ∀ r ∈ l', r ∈ L[q].rules ∨ (RulIn w7 B r ∧ ∀ g ∈ r.h.blk, w.heap.size ≤ g ∧ g ≠ gg)) (hnd : (l'.flatMap (·.h.blk)).Nodup) :
    ObjIn w7 B hs ht ss (L.set q { L[q] with rules := l', hr := hr' }) := by
  have nd := ob.nd
  have nd0 := nd_assoc.1 nd
  have tq := ob.nth hq
  have ndq : (L[q].hc.blk ++ (L[q].hr.blk ++ L[q].rules.flatMap (·.h.blk))).Nodup := tab_nodup nd0 hq
  have hlt := ob.lt
  have hin : ∀ g, g ∈ L[q].blks → g ∈ L.flatMap OTab.blks := fun g h => List.mem_flatMap.2 ⟨L[q], List.getElem_mem hq, h⟩
  have hinr : ∀ g, L[q].hr.v.ownBlock = some g → g ∈ L[q].blks := fun g h => by unfold OTab.blks; simp [Hd.mem_blk.2 h]
  have hgtm : gt ∈ ht.blk := by rw [Hd.mem_blk]; unfold Hd.v; rw [hgt]; rfl
  have kb : Kb (fun g => (L[q].hr.v.ownBlock = some g ∨ Y g) ∨ g = gt ∨ g = gg) w w7 := ((k5.mono fun g _ h => .inl h).trans ((Kb.set w5 gt (q * 5 + 4) hr'.v).mono fun g _ e => .inr (.inl e))).trans (k7.mono fun g _ e => .inr (.inr e))
  -- what stands elsewhere is not touched
  have hno : ∀ g, g ∈ hs.blk ++ (ht.blk ++ L.flatMap OTab.blks) → g ∉ L[q].hr.blk → g ≠ gt → ¬ ((L[q].hr.v.ownBlock = some g ∨ Y g) ∨ g = gt ∨ g = gg) := fun g hg h1 h2 h => by
    rcases h with (h | h) | h | h
    · exact h1 (Hd.mem_blk.2 h)
    · have := (hlt g hg).1; have := hY g h; omega
    · exact h2 h
    · rcases hgg with h3 | h3
      · exact h1 (Hd.mem_blk.2 (by rw [h]; exact h3))
      · have := (hlt g hg).2; omega
  have hfl : ∀ g, g ∈ L.flatMap OTab.blks → g ≠ gt := fun g hg e => nodup_disj (List.nodup_append.1 nd).2.1 hgtm (by rw [← e]; exact hg)
  have hqd : ∀ g, g ∈ L[q].hc.blk → g ∉ L[q].hr.blk := fun g h1 h2 => nodup_disj ndq h1 (List.mem_append.2 (.inl h2))
  have hrd : ∀ g, g ∈ L[q].rules.flatMap (·.h.blk) → g ∉ L[q].hr.blk := fun g h1 h2 => nodup_disj (List.nodup_append.1 ndq).2.1 h2 h1
  have hnew : ∀ r ∈ l', ∀ g ∈ r.h.blk, (g ∈ L[q].rules.flatMap (·.h.blk)) ∨ (w.heap.size ≤ g ∧ g ≠ gg) := fun r hr g hg => by
    rcases hall r hr with h | h
    · exact .inl (List.mem_flatMap.2 ⟨r, h, hg⟩)
    · exact .inr (h.2 g hg)
  refine ⟨?_, ?_, fun x hx => ?_, ?_⟩
  · refine own_kb ob.sch kb fun g hg => hno g (List.mem_append.2 (.inl (Hd.mem_blk.2 hg))) (fun h => ?_) (fun e => ?_)
    · exact nodup_disj nd (Hd.mem_blk.2 hg) (List.mem_append.2 (.inr (hin g (by unfold OTab.blks; simp [h]))))
    · exact nodup_disj nd (Hd.mem_blk.2 hg) (List.mem_append.2 (.inl (by rw [e]; exact hgtm)))
  · have h5 : w5.ownsRow B 50 5 ht.v L.length (L.flatMap OTab.cells) := own_kb ob.tab k5 fun g h1 h2 => by
      rcases h2 with h2 | h2
      · exact nodup_disj (List.nodup_append.1 nd).2.1 (Hd.mem_blk.2 h1) (hin g (hinr g h2))
      · have := (hlt g (List.mem_append.2 (.inr (List.mem_append.2 (.inl (Hd.mem_blk.2 h1)))))).1; have := hY g h2; omega
    have h6 := own_set h5 (Hd.mem_blk.1 hgtm) (q * 5 + 4) hr'.v
    rw [flatMap_set (size := 5) (fun _ => rfl) L q 4 hq (by decide) hr'.v { L[q] with rules := l', hr := hr' } rfl] at h6
    rw [List.length_set]
    refine own_kb h6 k7 fun g h1 e => ?_
    have hg := Hd.mem_blk.2 h1
    rcases hgg with h3 | h3
    · exact nodup_disj (List.nodup_append.1 nd).2.1 hg (hin g (hinr g (by rw [e]; exact h3)))
    · have := (hlt g (List.mem_append.2 (.inr (List.mem_append.2 (.inl hg))))).2
      have e : g = gg := e
      omega
  · rcases mem_set_cases hq hx with rfl | ⟨i, hi, hne, rfl⟩
    · refine ⟨own_kb tq.col kb fun g hg => ?_, ho, fun r hr => ?_⟩
      · have hm : g ∈ L[q].blks := by unfold OTab.blks; simp [Hd.mem_blk.2 hg]
        exact hno g (List.mem_append.2 (.inr (List.mem_append.2 (.inr (hin g hm))))) (hqd g (Hd.mem_blk.2 hg)) (hfl g (hin g hm))
      · rcases hall r hr with h | h
        · refine (tq.each r h).kb kb fun g hg => ?_
          have hm2 : g ∈ L[q].rules.flatMap (·.h.blk) := List.mem_flatMap.2 ⟨r, h, hg⟩
          have hm : g ∈ L[q].blks := by unfold OTab.blks; exact List.mem_append.2 (.inr (List.mem_append.2 (.inr hm2)))
          exact hno g (List.mem_append.2 (.inr (List.mem_append.2 (.inr (hin g hm))))) (hrd g hm2) (hfl g (hin g hm))
        · exact h.1
    · refine (ob.nth hi).kb kb fun g hg => ?_
      have hm : g ∈ L.flatMap OTab.blks := List.mem_flatMap.2 ⟨L[i], List.getElem_mem hi, hg⟩
      exact hno g (List.mem_append.2 (.inr (List.mem_append.2 (.inr hm)))) (fun h => tab_disj nd0 hq hi hne (by unfold OTab.blks; simp [h]) hg) (hfl g hm)
  · rw [nd_assoc]
    refine nodup_set (N := w.heap.size) nd0 hq ?_ ?_ (fun g hg => (ob.lt g (by rw [List.append_assoc] at hg; exact hg)).2)
    · show (L[q].hc.blk ++ (hr'.blk ++ l'.flatMap (·.h.blk))).Nodup
      refine List.nodup_append.2 ⟨blk_nodup _, List.nodup_append.2 ⟨blk_nodup _, hnd, fun a ha b hb2 e => ?_⟩, fun a ha b hb2 e => ?_⟩
      · subst e
        obtain ⟨r, hr, hg⟩ := List.mem_flatMap.1 hb2
        have ea := hb a ha
        rcases hnew r hr a hg with h | h
        · rcases hgg with h3 | h3
          · exact hrd a h (Hd.mem_blk.2 (by rw [ea]; exact h3))
          · have := (hlt a (List.mem_append.2 (.inr (List.mem_append.2 (.inr (hin a (by unfold OTab.blks; exact List.mem_append.2 (.inr (List.mem_append.2 (.inr h)))))))))).2
            omega
        · exact h.2 ea
      · subst e
        have hla := (tq.lt a (by unfold OTab.blks; exact List.mem_append.2 (.inl ha))).2
        rcases List.mem_append.1 hb2 with h1 | h1
        · have ea := hb a h1
          rcases hgg with h3 | h3
          · exact hqd a ha (Hd.mem_blk.2 (by rw [ea]; exact h3))
          · omega
        · obtain ⟨r, hr, hg⟩ := List.mem_flatMap.1 h1
          rcases hnew r hr a hg with h | h
          · exact nodup_disj ndq ha (List.mem_append.2 (.inr h))
          · omega
    · intro g hg
      have hg' : g ∈ L[q].hc.blk ++ (hr'.blk ++ l'.flatMap (·.h.blk)) := hg
      rcases List.mem_append.1 hg' with h1 | h1
      · exact .inl (by unfold OTab.blks; exact List.mem_append.2 (.inl h1))
      · rcases List.mem_append.1 h1 with h1 | h1
        · have ea := hb g h1
          rcases hgg with h3 | h3
          · exact .inl (hinr g (by rw [ea]; exact h3))
          · exact .inr (by omega)
        · obtain ⟨r, hr, hgr⟩ := List.mem_flatMap.1 h1
          rcases hnew r hr g hgr with h | h
          · exact .inl (by unfold OTab.blks; exact List.mem_append.2 (.inr (List.mem_append.2 (.inr h))))
          · exact .inr h.1
theorem ORul.cells_len (x : ORul) : x.cells.length = 8 := rfl
set_option maxHeartbeats 1000000 in
theorem rulLess (x y : ORul) (W : World) : Calls Tryz.prog 68 (#[.agg x.cells.toArray, .agg y.cells.toArray] ++ #[]) W fun e w' => e = .returned (.int .i64 (cmpRl x.r y.r)) ∧ ∃ q os', w' = grow (W.drewN q) os' := by
  show Calls Tryz.prog 68 #[.agg #[.string x.r.name, .int .i64 x.r.kind, x.h.v, .int .i64 x.r.low, .int .i64 x.r.high, .string x.r.schema, .string x.r.table, .string x.r.key], .agg #[.string y.r.name, .int .i64 y.r.kind, y.h.v, .int .i64 y.r.low, .int .i64 y.r.high, .string y.r.schema, .string y.r.table, .string y.r.key]] W _
  have hcon := fun W' => compare_any x.r.name y.r.name W'
  unfold cmpRl
  generalize cmpS x.r.name y.r.name = r at hcon ⊢
  generalize x.h.v = v1
  generalize y.h.v = v2
  have l1 : W.heap.size < W.heap.size + 1 := by omega
  have l2 : W.heap.size < W.heap.size + 1 + 1 := by omega
  go_enter Tryz.func68, Tryz.ntmps68
  go_wp2_with (go_at_call 69; refine (hcon _).mono ?_; rintro e w' ⟨rfl, rfl⟩)
  go_ret
  exact ⟨rfl, 0, _, by rw [alloc_eq_grow, alloc_eq_grow, grow_grow]; rfl⟩
theorem sortRulF (blk cap B : Nat) (l : List ORul) (h0 : 0 < l.length) (hsz : l.length ≤ 1000000) (w : World) (ho : w.ownsRow B 29 8 (.slice (some ⟨blk, 0, none⟩) l.length cap) l.length (l.flatMap ORul.cells)) :
    Calls Tryz.prog 67 #[.slice (some ⟨blk, 0, none⟩) l.length cap, .func (.func 68) #[] #[]] w (SortedP 29 8 ORul.cells (fun x y => cmpRl x.r y.r) w B blk cap l) :=
  sort_own sortRul_lays 8 Tryz.isAgg29 Tryz.sizeOf29 ORul.cells ORul.cells_len oneC_rul (fun x y => cmpRl x.r y.r) (preRl.on ORul.r).swo 68 #[] 29 B blk cap l h0 hsz w ho (enters (P := Tryz.prog) Tryz.func68 (by kernel_rfl) rfl) (fun W x y => rulLess x y W)
/-- a rule added -/
def addRulF (ts : List Tab) (r : Rul) (t : Tab) : Tab × Int :=
  if !fitsOk t.cols r then (t, 63) else if 0 ≤ rulAt t.rules r.name then (t, 60) else if 8 ≤ t.rules.length then (t, 2) else if (r.kind == 4 && keyE ts t.cols r != 0) then (t, keyE ts t.cols r)
  else ({ t with rules := insAt t.rules (posB cmpRl t.rules r) r }, 0)
theorem rul_none {l : List Rul} {s : ByteArray} (h : rulAt l s < 0) : ∀ y ∈ l, cmpS y.name s ≠ 0 := fun y hy e => by
  have h1 := idxP_range (fun c : Rul => eqS c.name s) l
  have h2 : rulAt l s = -1 := by unfold rulAt at *; omega
  have h3 : l.any (fun c => eqS c.name s) = true := List.any_eq_true.2 ⟨y, hy, (cmpS_eq _ _).1 e⟩
  rw [← idxP_anyO] at h3
  have := of_decide_eq_true h3
  unfold rulAt at h2
  omega
/-- the kind of the rule of a name -/
def rulKind (t : Tab) (name : ByteArray) : Int := match t.rules[(rulAt t.rules name).toNat]? with | some q => q.kind | none => 0
/-- is it a key, and is it named? -/
def hitK (kd : Int) (name : ByteArray) (r : Rul) : Bool := eqS r.key name && kd == 2
end Go.Proofs.YticjnndhpfdajaaGreat
/- objects.foreign: the foreign rules that name a table, with the tables that have them, one by one. -/
namespace Go.Proofs.YticjnndhpfdajaaGreat
open Go.RowKit Go.Deep Go.Shelf
set_option maxRecDepth 100000
set_option linter.unusedVariables false
@[go_sem] theorem semAt_round (l : Nat) (ρ : Operand → Value) (o : Oper) (h : ∀ c, o.op ≠ .defer c) : Oper.semAt (some l) ρ o = execOp ρ o := Oper.semAt_some l ρ o h
theorem wp_region_tail_at {P : Program} {id : Nat} {Q : Exit → Act → World → Prop} {a : Act} {w : World} {l : List Oper} (n : Nat) (hm : P.follows .mixedOrders = true) (hB : Region.lexTailB .any l.toArray n = true)
    (h : ∀ w1, w1 = w.drew → wpStill P l.toArray w1 (fun a' => wpList P l.toArray Q (l.drop n) a' w1) (l.take n) a) : (Code.region id l.toArray true).wp P Q a w :=
  wp_region_still_tail n hm hB (h _ rfl)
/-- all cells lie as they lay -/
structure Kc (W W' : World) : Prop where
  size : W.heap.size ≤ W'.heap.size
  cells : ∀ (k : Nat) (o : Obj), W.heap[k]? = some o → o.isCells = true → W'.heap[k]? = some o
theorem Kc.refl (W : World) : Kc W W := ⟨Nat.le_refl _, fun _ _ h _ => h⟩
theorem Kc.trans {A B C : World} (h : Kc A B) (k : Kc B C) : Kc A C := ⟨Nat.le_trans h.size k.size, fun j o hj ho => k.cells j o (h.cells j o hj ho) ho⟩
theorem Kc.of_aft {W W' : World} (a : Aft W W') : Kc W W' := ⟨a.size, fun k o hk _ => (a.block k (Array.getElem?_eq_some_iff.1 hk).1).trans hk⟩
theorem Kc.put {W : World} {l : Nat} {o o' : Obj} (hl : W.heap[l]? = some o) (ho : o.isCells = false) : Kc W (W.putObj l o') := by
  refine ⟨by simp [World.putObj], fun k o2 hk hc => ?_⟩
  have hne : k ≠ l := fun e => by
    subst e
    rw [hl] at hk
    cases hk
    rw [ho] at hc; cases hc
  exact (World.putObj_heap_other hne).trans hk
theorem Kc.block {W W' : World} (h : Kc W W') {p : Addr} {v : Value} (hc : W.cell? p = some v) : W'.heap[p.block]? = W.heap[p.block]? := by
  unfold World.cell? at hc
  cases hh : W.heap[p.block]? with
  | none => rw [hh] at hc; cases hc
  | some o =>
    rw [h.cells _ o hh ?_]
    rw [hh] at hc
    cases o <;> first | rfl | cases hc
theorem Kc.cell {W W' : World} (h : Kc W W') {p : Addr} {v : Value} (hc : W.cell? p = some v) : W'.cell? p = some v := by
  have := h.block hc
  unfold World.cell? at hc ⊢
  rw [this]; exact hc
theorem Kc.row {W W' : World} (h : Kc W W') {g : Nat} {xs : List Value} (hr : RowAt W g xs) (h0 : 0 < xs.length) : RowAt W' g xs := by
  have hb : W'.heap[g]? = W.heap[g]? := h.block (p := ⟨g, 0, none⟩) (v := xs[0]) (by rw [hr.2.1 0 h0, List.getElem?_eq_getElem h0])
  refine ⟨Nat.lt_of_lt_of_le hr.1 h.size, fun j hj => ?_, fun j hj => ?_⟩
  · rw [← hr.2.1 j hj]; simp [World.cell?, hb]
  · rw [← hr.2.2 j hj]; simp [World.frozen?, hb]
/-- a table and one of its rules, as they are handed over -/
structure FP where
  t : Tab
  r : Rul
  a1 : Option Addr
  c1 : Nat
  a2 : Option Addr
  c2 : Nat
  a3 : Option Addr
  c3 : Nat
def FP.enc (x : FP) : Array Value := #[.agg #[.string x.t.schema, .string x.t.name, .string x.t.owner, .slice x.a1 x.t.cols.length x.c1, .slice x.a2 x.t.rules.length x.c2],
  .agg #[.string x.r.name, .int .i64 x.r.kind, .slice x.a3 x.r.cols.length x.c3, .int .i64 x.r.low, .int .i64 x.r.high, .string x.r.schema, .string x.r.table, .string x.r.key]]
/-- does a rule name the table? -/
def namesR (s n : ByteArray) (r : Rul) : Bool := r.kind == 4 && (eqS r.schema s && eqS r.table n)
def forT (s n : ByteArray) (t : Tab) : List (Tab × Rul) := (t.rules.filter (namesR s n)).map fun r => (t, r)
def forP (s n : ByteArray) (ts : List Tab) : List (Tab × Rul) := ts.flatMap (forT s n)
def FP.key (x : FP) : Tab × Rul := (x.t, x.r)
theorem forP_succ (s n : ByteArray) (ts : List Tab) (k : Nat) (hk : k < ts.length) : forP s n (ts.take (k + 1)) = forP s n (ts.take k) ++ forT s n ts[k] := by
  unfold forP
  rw [List.take_succ_eq_append_getElem hk, List.flatMap_append]
  simp
theorem forT_succ (s n : ByteArray) (t : Tab) (k : Nat) (hk : k < t.rules.length) : ((t.rules.take (k + 1)).filter (namesR s n)).map (fun r => (t, r)) = ((t.rules.take k).filter (namesR s n)).map (fun r => (t, r)) ++ (if namesR s n t.rules[k] then [(t, t.rules[k])] else []) := by
  rw [List.take_succ_eq_append_getElem hk, List.filter_append, List.map_append]
  congr 1
  cases h : namesR s n t.rules[k] <;> simp [h]
theorem forP_pre (s n : ByteArray) (ts : List Tab) (k : Nat) (hk : k < ts.length) (m : Nat) : (forP s n (ts.take k) ++ ((ts[k].rules.take m).filter (namesR s n)).map (fun r => (ts[k], r))) <+: forP s n ts := by
  have h1 : forP s n ts = forP s n (ts.take (k + 1)) ++ forP s n (ts.drop (k + 1)) := by
    unfold forP
    rw [← List.flatMap_append, List.take_append_drop]
  have h2 : forT s n ts[k] = ((ts[k].rules.take m).filter (namesR s n)).map (fun r => (ts[k], r)) ++ ((ts[k].rules.drop m).filter (namesR s n)).map (fun r => (ts[k], r)) := by
    unfold forT
    rw [← List.map_append, ← List.filter_append, List.take_append_drop]
  rw [h1, forP_succ _ _ _ _ hk, h2]
  exact ⟨((ts[k].rules.drop m).filter (namesR s n)).map (fun r => (ts[k], r)) ++ forP s n (ts.drop (k + 1)), by simp⟩
set_option maxHeartbeats 8000000 in
theorem foreign1_in (m : Nat) (hm : 1 ≤ m) (ts : List Tab) (vs : Value) (At : Option Addr) (ct : Nat) (s n : ByteArray) (bo bs bt l : Nat) (X W : World) (aW : Aft X W) (htab : SlAt X 5 TabR At ct ts) (hbo : bo < X.heap.size) (hbs : bs < X.heap.size) (hbt : bt < X.heap.size)
    (c0 : X.cell? ⟨bo, 1, none⟩ = some (.slice At ts.length ct)) (c1 : X.cell? ⟨bs, 0, none⟩ = some (.string s)) (c2 : X.cell? ⟨bt, 0, none⟩ = some (.string n)) (J Jx : List FP → World → Prop) (hJ : AbidesFrom W.heap.size J)
    (hY : ∀ pre x W1, J pre W1 → pre.length < (forP s n ts).length → YieldAt Fence.wide (m - 1) Tryz.prog l (FP.enc x) W1 fun e W' => (e = .returned (.bool true) ∧ J (pre ++ [x]) W' ∧ (Kc W1 W' ∧ Below X.heap.size W1 W')) ∨ (e = .returned (.bool false) ∧ Jx (pre ++ [x]) W'))
    (h0 : J [] W) :
    CallsIn Fence.wide m Tryz.prog 154 #[.func (.yield l) #[] #[], .pointer (some ⟨bo, 0, none⟩), .pointer (some ⟨bs, 0, none⟩), .pointer (some ⟨bt, 0, none⟩)] W fun e W' => (∃ v, e = .returned v) ∧ ((∃ xs, xs.map FP.key = forP s n ts ∧ J xs W') ∨ (∃ pre, (pre.map FP.key <+: forP s n ts) ∧ Jx pre W')) := by
  have hlen := htab.len
  have HT := Lib.hid htab
  have HA := Lib.hid aW
  have HJ := Lib.hid hJ
  have HC := Lib.hid (show ∀ w', Aft X w' → (w'.cell? ⟨bo, 1, none⟩ = some (.slice At ts.length ct) ∧ w'.cell? ⟨bs, 0, none⟩ = some (.string s) ∧ w'.cell? ⟨bt, 0, none⟩ = some (.string n) ∧ bo < w'.heap.size ∧ bs < w'.heap.size ∧ bt < w'.heap.size) from fun w' a => ⟨a.cell_kept c0, a.cell_kept c1, a.cell_kept c2, Nat.lt_of_lt_of_le hbo a.size, Nat.lt_of_lt_of_le hbs a.size, Nat.lt_of_lt_of_le hbt a.size⟩)
  have HYY := Lib.hid hY
  have H0 := Lib.hid h0
  obtain ⟨x0, x1, x2, x3, x4, x5⟩ := HC.out W aW
  clear htab aW hJ hY h0 c0 c1 c2
  refine callsIn_of_wp Tryz.func154 rfl trivial ?_ rfl
  simp only [Tryz.ntmps154, List.size_toArray, List.length_cons, List.length_nil, Nat.reduceAdd, Nat.reduceSub, Array.replicate_succ, Array.replicate_zero, List.push_toArray, List.append_toArray, List.nil_append, List.cons_append]
  gi_wp2
  gi_loopw [12] (fun i wr => ∃ (k : Nat) (pre : List FP), k ≤ ts.length ∧ i = .int .i64 k ∧ Aft X wr ∧ W.heap.size ≤ wr.heap.size ∧ J pre wr ∧ pre.map FP.key = forP s n (ts.take k)) (fun i _ => ts.length - (intOf i).toNat)
  case atStart => exact ⟨0, [], Nat.zero_le _, rfl, HA.out, Nat.le_refl _, H0.out, rfl⟩
  case round =>
    obtain ⟨k, pre, hk, rfl, ha, hz, hj, hpk⟩ := hrel
    have HAR := Lib.hid ha
    have HZR := Lib.hid hz
    have HJR := Lib.hid hj
    have HPK := Lib.hid hpk
    clear ha hj hpk
    by_cases hlt : k < ts.length
    · obtain ⟨R, rfl⟩ : ∃ R, R = wr := ⟨_, rfl⟩
      obtain ⟨b, off, A2, cap2, A3, cap3, rfl, hb, t0, t1, t2, t3, t4, hcols, hrules, _⟩ := tab_at HT.out hlt
      have t0 := HAR.out.cell_kept t0
      have t1 := HAR.out.cell_kept t1
      have t2 := HAR.out.cell_kept t2
      have t3 := HAR.out.cell_kept t3
      have t4 := HAR.out.cell_kept t4
      have hb := Nat.lt_of_lt_of_le hb HAR.out.size
      obtain ⟨t, ht⟩ : ∃ t, ts[k] = t := ⟨_, rfl⟩
      rw [ht] at t0 t1 t2 t3 t4 hrules
      have HTK := Lib.hid ht
      have HRU := Lib.hid hrules
      have hlr := hrules.len
      have lw := Nat.lt_succ_self R.heap.size
      obtain ⟨Y, hY2⟩ : ∃ Y, Y = R.alloc (.cells #[.string t.schema, .string t.name, .string t.owner, .slice A2 t.cols.length cap2, .slice A3 t.rules.length cap3] 50) := ⟨_, rfl⟩
      have aY : Aft R Y := by rw [hY2]; exact (Aft.refl _).alloc _
      have HAY := Lib.hid aY
      have HBY := Lib.hid (show RowAt Y R.heap.size [.string t.schema, .string t.name, .string t.owner, .slice A2 t.cols.length cap2, .slice A3 t.rules.length cap3] by rw [hY2]; exact box_row2 (Aft.refl _))
      have HJY := Lib.hid (show J pre Y by rw [hY2]; exact HJ.out pre R _ none HJR.out (World.grownBy_alloc R _ none) (fun r e => by cases e))
      clear ht hcols hrules aY
      gi_wp2
      rw [← hY2]
      clear hY2
      gi_loopw [19] (fun i2 wr => ∃ (k2 : Nat) (pre2 : List FP), k2 ≤ t.rules.length ∧ i2 = .int .i64 k2 ∧ Aft X wr ∧ Kc Y wr ∧ J pre2 wr ∧ pre2.map FP.key = forP s n (ts.take k) ++ ((t.rules.take k2).filter (namesR s n)).map (fun r => (t, r))) (fun i2 _ => t.rules.length - (intOf i2).toNat)
      case atStart => exact ⟨0, pre, Nat.zero_le _, rfl, HAR.out.trans HAY.out, Kc.refl _, HJY.out, by rw [HPK.out]; simp⟩
      case round =>
        obtain ⟨k2, pre2, hk2, rfl, ha2, hc2, hj2, hpk2⟩ := hrel
        have HA2 := Lib.hid ha2
        have HC2 := Lib.hid hc2
        have HJ2 := Lib.hid hj2
        have HP2 := Lib.hid hpk2
        have hrowT := hc2.row HBY.out (by simp)
        have q0 := hrowT.cell (j := 0) rfl
        have q1 := hrowT.cell (j := 1) rfl
        have q2 := hrowT.cell (j := 2) rfl
        have q3 := hrowT.cell (j := 3) rfl
        have q4 := hrowT.cell (j := 4) rfl
        have qz := hrowT.1
        clear ha2 hc2 hj2 hpk2 hrowT
        by_cases hlt2 : k2 < t.rules.length
        · obtain ⟨b3, off3, A4, cap4, rfl, hb3, r0, r1, r2, r3, r4, r5, r6, r7, _⟩ := rul_at (ruls_aft HA2.out HRU.out) hlt2
          have hf := forT_succ s n t k2 hlt2
          obtain ⟨r, hr⟩ : ∃ r, t.rules[k2] = r := ⟨_, rfl⟩
          rw [hr] at r0 r1 r2 r3 r4 r5 r6 r7 hf
          obtain ⟨y1, y2, y3, y4, y5, y6⟩ := HC.out wr HA2.out
          have HF := Lib.hid hf
          have lw2 := Nat.lt_succ_self wr.heap.size
          have m1 : b3 < wr.heap.size + 1 := by omega
          have m2 : R.heap.size < wr.heap.size + 1 := by omega
          have m3 : bs < wr.heap.size + 1 := by omega
          have m4 : bt < wr.heap.size + 1 := by omega
          have HA3 := Lib.hid (HA2.out.alloc (.cells #[.string r.name, .int .i64 r.kind, .slice A4 r.cols.length cap4, .int .i64 r.low, .int .i64 r.high, .string r.schema, .string r.table, .string r.key] 29))
          have HC3 := Lib.hid (HC2.out.trans (Kc.of_aft ((Aft.refl wr).alloc (.cells #[.string r.name, .int .i64 r.kind, .slice A4 r.cols.length cap4, .int .i64 r.low, .int .i64 r.high, .string r.schema, .string r.table, .string r.key] 29))))
          have HJ3 := Lib.hid (HJ.out pre2 wr _ none HJ2.out (World.grownBy_alloc wr (.cells #[.string r.name, .int .i64 r.kind, .slice A4 r.cols.length cap4, .int .i64 r.low, .int .i64 r.high, .string r.schema, .string r.table, .string r.key] 29) none) (fun r e => by cases e))
          have HPR := Lib.hid (show ∀ mm, (forP s n (ts.take k) ++ ((t.rules.take mm).filter (namesR s n)).map (fun r => (t, r))) <+: forP s n ts from fun mm => by have := forP_pre s n ts k hlt mm; rw [HTK.out] at this; exact this)
          clear hr hf
          by_cases g1 : r.kind = 4
          · rw [g1] at r1 HA3 HC3 HJ3
            cases g2 : eqS r.schema s
            · have HN := Lib.hid (show namesR s n r = false by unfold namesR; rw [g2]; simp)
              have e2 : (r.schema.toList == s.toList) = false := g2
              clear g1 g2
              gi_wp2
              refine ⟨fun _ h => (by cases h), ?_⟩
              gi_wp2
              go_roundw
              case rel => exact ⟨k2 + 1, pre2, by omega, by go_num, HA3.out, HC3.out, HJ3.out, by rw [HF.out, HN.out, HP2.out]; simp⟩
              case measure => simp [intOf]; omega
            · cases g3 : eqS r.table n
              · have HN := Lib.hid (show namesR s n r = false by unfold namesR; rw [g2, g3]; simp)
                have e2 : (r.schema.toList == s.toList) = true := g2
                have e3 : (r.table.toList == n.toList) = false := g3
                clear g1 g2 g3
                gi_wp2
                refine ⟨fun _ h => (by cases h), ?_⟩
                gi_wp2
                go_roundw
                case rel => exact ⟨k2 + 1, pre2, by omega, by go_num, HA3.out, HC3.out, HJ3.out, by rw [HF.out, HN.out, HP2.out]; simp⟩
                case measure => simp [intOf]; omega
              · have HN := Lib.hid (show namesR s n r = true by unfold namesR; rw [g2, g3, g1]; rfl)
                have hx1 : (pre2 ++ [(⟨t, r, A2, cap2, some ⟨b3, off3, none⟩, cap3, A4, cap4⟩ : FP)]).map FP.key = forP s n (ts.take k) ++ ((t.rules.take (k2 + 1)).filter (namesR s n)).map (fun r => (t, r)) := by
                  rw [List.map_append, HP2.out, HF.out, HN.out]
                  simp [FP.key]
                have HX1 := Lib.hid hx1
                have hlenp : pre2.length < (forP s n ts).length := by
                  have h1 := (HPR.out (k2 + 1)).length_le
                  rw [← hx1, List.length_map, List.length_append] at h1
                  simp at h1
                  omega
                obtain ⟨fn, tmps, assign, body, hy, hR⟩ := HYY.out pre2 ⟨t, r, A2, cap2, some ⟨b3, off3, none⟩, cap3, A4, cap4⟩ _ HJ3.out hlenp
                dsimp only [FP.enc] at hy
                rw [g1] at hy
                have e2 : (r.schema.toList == s.toList) = true := g2
                have e3 : (r.table.toList == n.toList) = true := g3
                have HR := Lib.hid hR
                clear g1 g2 g3 hx1 hR hlenp
                gi_wp2
                refine HR.out.mono ?_
                rintro e W3 (⟨rfl, hJ5, hk5⟩ | ⟨rfl, hJx5⟩)
                · have HA5 := Lib.hid (show Aft X W3 from Below.trans HA3.out hk5.2)
                  have HC5 := Lib.hid (HC3.out.trans hk5.1)
                  have HJ5 := Lib.hid hJ5
                  clear hJ5 hk5
                  gi_wp2
                  go_roundw
                  case rel => exact ⟨k2 + 1, _, by omega, by go_num, HA5.out, HC5.out, HJ5.out, HX1.out⟩
                  case measure => simp [intOf]; omega
                · have HJ5 := Lib.hid hJx5
                  clear hJx5
                  gi_wp2
                  refine bodyPost_ret (results_none rfl _ _ _) rfl ?_
                  exact ⟨⟨_, rfl⟩, .inr ⟨_, by rw [HX1.out]; exact HPR.out (k2 + 1), HJ5.out⟩⟩
          · have HN := Lib.hid (show namesR s n r = false from by
              have : (r.kind == 4) = false := by simpa using g1
              unfold namesR
              rw [this]; rfl)
            have e1 : (r.kind == 4) = false := by simpa using g1
            gi_wp2
            refine ⟨fun _ h => (by cases h), ?_⟩
            gi_wp2
            go_roundw
            case rel => exact ⟨k2 + 1, pre2, by omega, by go_num, HA3.out, HC3.out, HJ3.out, by rw [HF.out, HN.out, HP2.out]; simp⟩
            case measure => simp [intOf]; omega
        · have hkk : k2 = t.rules.length := by omega
          have HP3 := Lib.hid (show pre2.map FP.key = forP s n (ts.take (k + 1)) by rw [HP2.out, hkk, List.take_length, forP_succ s n ts k hlt, HTK.out]; rfl)
          have HZ3 := Lib.hid (show W.heap.size ≤ wr.heap.size from Nat.le_trans HZR.out (Nat.le_trans HAY.out.size HC2.out.size))
          gi_wp2
          go_roundw
          case rel => exact ⟨k + 1, pre2, by omega, by go_num, HA2.out, HZ3.out, HJ2.out, HP3.out⟩
          case measure => simp [intOf]; omega
    · have hkk : k = ts.length := by omega
      have HP := Lib.hid (show pre.map FP.key = forP s n ts by rw [HPK.out, hkk, List.take_length])
      gi_wp2
      go_end0
      exact ⟨⟨_, rfl⟩, .inl ⟨pre, HP.out, HJR.out⟩⟩
end Go.Proofs.YticjnndhpfdajaaGreat
