/- objects.tableChanged: a table of our own objects, changed by what is handed in. -/
import Derived.Test.YtodifdofgjfkiaaChanged
namespace Go.Proofs.Ytodifdofgjfkiaa
open Go.RowKit Go.Deep
set_option maxRecDepth 100000
set_option linter.unusedVariables false
/-- a table changed -/
def tabR (o : Objs) (s n : ByteArray) (f : Tab → Tab × Int) : Objs × Int :=
  match o.tables[(tabAt o.tables s n).toNat]? with
  | some t => if tabAt o.tables s n < 0 then (zeroO, 61) else if (f t).2 = 0 then (⟨o.schemas, o.tables.set (tabAt o.tables s n).toNat (f t).1⟩, 0) else (zeroO, (f t).2)
  | none => (zeroO, 61)
theorem tabR_none {o : Objs} {s n : ByteArray} {f : Tab → Tab × Int} (h : tabAt o.tables s n < 0) : tabR o s n f = (zeroO, 61) := by
  unfold tabR; split
  · rw [if_pos h]
  · rfl
theorem tabR_some {o : Objs} {s n : ByteArray} {f : Tab → Tab × Int} {q : Nat} (h : tabAt o.tables s n = q) (hq : q < o.tables.length) : tabR o s n f = if (f o.tables[q]).2 = 0 then (⟨o.schemas, o.tables.set q (f o.tables[q]).1⟩, 0) else (zeroO, (f o.tables[q]).2) := by
  unfold tabR
  rw [h]
  simp only [Int.toNat_natCast, List.getElem?_eq_getElem hq]
  rw [if_neg (by omega)]
theorem tabR_zero {o : Objs} {s n : ByteArray} {f : Tab → Tab × Int} : (tabR o s n f).2 ≠ 0 → (tabR o s n f).1 = zeroO := by
  unfold tabR
  split
  · split
    · intro _; rfl
    · split
      · intro h; exact absurd rfl h
      · intro _; rfl
  · intro _; rfl
/-- what a change makes of the table q -/
def TDoP (w : World) (B n3 : Nat) (hs ht : Hd) (ss : List Sch) (L : List OTab) (q : Nat) (r : Tab × Int) (e : Ending) (w' : World) : Prop :=
  e = .returned (.int .i64 r.2) ∧ Kb (fun g => B ≤ g) w w' ∧ (r.2 = 0 → ∃ x : OTab, x.t = r.1 ∧ ObjIn w' B hs ht ss (L.set q x) ∧ RowAt w' n3 [.slice hs.a ss.length hs.c, .slice ht.a L.length ht.c])
set_option maxHeartbeats 8000000 in
theorem tabCh1_in (o : Objs) (s n : ByteArray) (g2 : FuncId) (cs2 : Array Value) (f : Tab → Tab × Int) (w : World) (hs ht : Hd) (L : List OTab) (B n3 bs bt bd : Nat) (hL : L.map OTab.t = o.tables) (ob : ObjIn w B hs ht o.schemas L) (sm : SmO o)
    (r3 : RowAt w n3 [.slice hs.a o.schemas.length hs.c, .slice ht.a o.tables.length ht.c]) (c1 : w.cell? ⟨bs, 0, none⟩ = some (.string s)) (c2 : w.cell? ⟨bt, 0, none⟩ = some (.string n)) (c3 : w.cell? ⟨bd, 0, none⟩ = some (.func (.func g2) #[] cs2))
    (hent : ∀ (args : Array Value) (w : World), (callFunc g2 args).run Try.prog w = .ok (.enter g2 args) w)
    (hdo : ∀ (w' : World) (q gt : Nat) (hq : q < L.length), Aft w w' → ht.a = some ⟨gt, 0, none⟩ → tabAt o.tables s n = q → Calls Try.prog g2 (#[.agg #[.slice hs.a o.schemas.length hs.c, .slice ht.a o.tables.length ht.c], .pointer (some ⟨gt, q * 5, none⟩)] ++ cs2) w' (TDoP w' B n3 hs ht o.schemas L q (f L[q].t))) :
    Calls Try.prog 139 #[.pointer (some ⟨n3, 0, none⟩), .pointer (some ⟨bs, 0, none⟩), .pointer (some ⟨bt, 0, none⟩), .pointer (some ⟨bd, 0, none⟩)] w (DoP w B n3 (tabR o s n f)) := by
  have hoo : objOf o.schemas L = o := by unfold objOf; rw [hL]
  have tabs := ob.tabs (by rw [hoo]; exact sm)
  rw [hL] at tabs
  obtain ⟨i, hi⟩ : ∃ i, tabAt o.tables s n = i := ⟨_, rfl⟩
  have hir : -1 ≤ i ∧ i < o.tables.length := by rw [← hi]; exact idxP_range _ _
  have CW := Lib.hid (show ∀ x : Lat w, Calls Try.prog 73 #[.agg #[.slice hs.a o.schemas.length hs.c, .slice ht.a o.tables.length ht.c], .string s, .string n] (lat w x) fun e w' => e = .returned (.tuple #[.int .i64 i, .bool (decide (0 ≤ i))]) ∧ Aft (lat w x) w' from
    fun x => (where_any (.slice hs.a o.schemas.length hs.c) ht.a ht.c o.tables s n (lat w x) (tabs_aft ((Aft.refl w).lat x) tabs)).mono fun e w' ⟨he, hw⟩ => ⟨he.trans (by rw [hi]), hw⟩)
  have e0 := r3.cell (j := 0) rfl
  have e1 := r3.cell (j := 1) rfl
  have z3 := r3.1
  have y1 := World.block_lt_of_cell? _ _ c1
  have y2 := World.block_lt_of_cell? _ _ c2
  have y3 := World.block_lt_of_cell? _ _ c3
  have HLL := Lib.hid (show L.length = o.tables.length by rw [← hL]; simp)
  have hlen : o.tables.length * 16 ≤ 140737488351232 := tabs.len
  have HT := Lib.hid ob.tab
  have HDO := Lib.hid hdo
  have HL := Lib.hid hL
  clear hoo tabs hdo ob hL sm r3
  by_cases h0 : 0 ≤ i
  · obtain ⟨q, rfl⟩ := Int.eq_ofNat_of_zero_le h0
    have hq : q < o.tables.length := by omega
    obtain ⟨gt, hgt, hgb, _⟩ := own_place HT.out (by have := HLL.out; omega)
    obtain ⟨At, nt, ct⟩ := ht
    have hgt' : At = some ⟨gt, 0, none⟩ := hgt
    subst hgt'
    have HI := Lib.hid hi
    have hd : decide (0 ≤ (q : Int)) = true := by simp
    clear hgt hi h0 hir HT
    go_enter Try.func139, Try.ntmps139
    go_wp2_with fail
    refine wp_region_lat (by kernel_rfl) (by kernel_rfl) ?_
    repeat (go_big_quiet_step ((go_at_call 73; exact Calls.lat_of (CW.out _))))
    refine wpQuiet_nil ?_
    intro _ hw'
    obtain ⟨x, hw''⟩ := hw'
    subst hw''
    obtain ⟨W, hW⟩ : ∃ W, W = lat w x := ⟨_, rfl⟩
    have aW : Aft w W := by rw [hW]; exact (Aft.refl w).lat x
    rw [← hW]
    have E0 := aW.cell_kept e0
    have E1 := aW.cell_kept e1
    have C3 := aW.cell_kept c3
    have Z3 := Nat.lt_of_lt_of_le z3 aW.size
    have Y3 := Nat.lt_of_lt_of_le y3 aW.size
    have HAW := Lib.hid aW
    clear hW CW e0 e1 c1 c2 c3 z3 y1 y2 y3 aW
    have hqq : (q : Int) < (o.tables.length : Int) := by omega
    have hqz : (0 : Int) ≤ (q : Int) := by omega
    go_wp2_with fail
    go_still_tail 10, (by kernel_rfl)
    go_wp2_with fail
    have hqL : q < L.length := by rw [HLL.out]; exact hq
    refine (HDO.out _ q gt hqL HAW.out.drew rfl HI.out).mono ?_
    rintro e w4 ⟨rfl, k4, hz4⟩
    have htq : L[q].t = o.tables[q] := by
      have : (L.map OTab.t)[q]'(by simpa using hqL) = o.tables[q] := by simp only [HL.out]
      simpa using this
    rw [htq] at hz4 ⊢
    have HK4 := Lib.hid ((Kb.of_aft HAW.out.drew).trans k4)
    have HZ4 := Lib.hid hz4
    clear k4 hz4 htq
    have HE := Lib.hid (tabR_some (f := f) HI.out hq)
    obtain ⟨fr, hfr⟩ : ∃ fr, f o.tables[q] = fr := ⟨_, rfl⟩
    rw [hfr] at HE HZ4 ⊢
    clear hfr
    obtain ⟨r0, rc⟩ := fr
    go_wp2_with fail
    go_ret
    rw [HE.out]
    by_cases hrc : rc = 0
    · subst hrc
      rw [if_pos rfl]
      refine ⟨rfl, HK4.out, fun _ => ?_⟩
      obtain ⟨x', hx', ob', r4⟩ := HZ4.out rfl
      refine ⟨hs, ⟨some ⟨gt, 0, none⟩, nt, ct⟩, L.set q x', ?_, ob', ?_⟩
      · rw [List.map_set, HL.out, hx']
      · have hl := HLL.out
        rw [hl] at r4
        simpa using r4
    · rw [if_neg (by simpa using hrc)]
      exact ⟨rfl, HK4.out, fun h => absurd h (by simpa using hrc)⟩
  · have HI := Lib.hid hi
    have hd : decide (0 ≤ i) = false := by simpa using h0
    clear hi
    go_enter Try.func139, Try.ntmps139
    go_wp2_with fail
    refine wp_region_lat (by kernel_rfl) (by kernel_rfl) ?_
    repeat (go_big_quiet_step ((go_at_call 73; exact Calls.lat_of (CW.out _))))
    refine wpQuiet_nil ?_
    intro _ hw'
    obtain ⟨x, hw''⟩ := hw'
    subst hw''
    go_wp2_with fail
    go_ret
    rw [tabR_none (by rw [HI.out]; omega)]
    exact ⟨rfl, Kb.of_aft ((Aft.refl w).lat x), fun h => by simp at h⟩
set_option maxHeartbeats 8000000 in
theorem tabCh_in (o : Objs) (As : Option Addr) (caps : Nat) (At : Option Addr) (capt : Nat) (s n : ByteArray) (g : FuncId) (cs : Array Value) (f : Tab → Tab × Int) (w : World) (hsch : SlAt w 2 SchR As caps o.schemas) (htab : SlAt w 5 TabR At capt o.tables)
    (hent : ∀ (args : Array Value) (w : World), (callFunc g args).run Try.prog w = .ok (.enter g args) w)
    (hdo : checkO o = true → ∀ (w' : World) (hs ht : Hd) (L : List OTab) (B n3 q gt : Nat) (hq : q < L.length), Aft w w' → w.heap.size ≤ B → B ≤ n3 → L.map OTab.t = o.tables → ObjIn w' B hs ht o.schemas L → (∀ g ∈ hs.blk ++ (ht.blk ++ L.flatMap OTab.blks), g ≠ n3) →
      RowAt w' n3 [.slice hs.a o.schemas.length hs.c, .slice ht.a o.tables.length ht.c] → ht.a = some ⟨gt, 0, none⟩ → tabAt o.tables s n = q → Calls Try.prog g (#[.agg #[.slice hs.a o.schemas.length hs.c, .slice ht.a o.tables.length ht.c], .pointer (some ⟨gt, q * 5, none⟩)] ++ cs) w' (TDoP w' B n3 hs ht o.schemas L q (f L[q].t))) :
    Calls Try.prog 76 #[.agg #[.slice As o.schemas.length caps, .slice At o.tables.length capt], .string s, .string n, .func (.func g) #[] cs] w (ObjP w (chgR o (tabR o s n f))) := by
  have hlen := hsch.len
  have hlen2 := htab.len
  have hent1 := enters (P := Try.prog) Try.func139 (by kernel_rfl) rfl
  have l1 : w.heap.size < w.heap.size + 1 := by omega
  have l2 : w.heap.size < w.heap.size + 1 + 1 := by omega
  have l3 : w.heap.size < w.heap.size + 1 + 1 + 1 := by omega
  have l4 : w.heap.size < w.heap.size + 1 + 1 + 1 + 1 := by omega
  have l5 : w.heap.size < w.heap.size + 1 + 1 + 1 + 1 + 1 := by omega
  have sm : SmO o := ⟨sm_schs hsch, sm_tabs htab⟩
  obtain ⟨W, hW⟩ : ∃ W, W = ((((w.alloc (.cells #[.slice As o.schemas.length caps, .slice At o.tables.length capt] 25)).alloc (.cells #[.string s] 9)).alloc (.cells #[.string n] 9)).alloc (.cells #[.func (.func g) #[] cs] 96)).alloc (.cells #[.slice none 0 0, .slice none 0 0] 25) := ⟨_, rfl⟩
  have aW : Aft w W := by rw [hW]; exact (((((Aft.refl w).alloc _).alloc _).alloc _).alloc _).alloc _
  have c1 : W.cell? ⟨w.heap.size + 1, 0, none⟩ = some (.string s) := by
    rw [hW]; (repeat (refine (World.cell?_alloc_past _ _ _ (by first | (simp; done) | (simp; omega))).trans ?_)); exact World.cell?_alloc_at _ _ _ _ (by simp)
  have c2 : W.cell? ⟨w.heap.size + 1 + 1, 0, none⟩ = some (.string n) := by
    rw [hW]; (repeat (refine (World.cell?_alloc_past _ _ _ (by first | (simp; done) | (simp; omega))).trans ?_)); exact World.cell?_alloc_at _ _ _ _ (by simp)
  have c3 : W.cell? ⟨w.heap.size + 1 + 1 + 1, 0, none⟩ = some (.func (.func g) #[] cs) := by
    rw [hW]; (repeat (refine (World.cell?_alloc_past _ _ _ (by first | (simp; done) | (simp; omega))).trans ?_)); exact World.cell?_alloc_at _ _ _ _ (by simp)
  have r4 : RowAt W (w.heap.size + 1 + 1 + 1 + 1) [.slice none 0 0, .slice none 0 0] := by
    rw [hW]
    have := (box_row2 (w := (((w.alloc (.cells #[.slice As o.schemas.length caps, .slice At o.tables.length capt] 25)).alloc (.cells #[.string s] 9)).alloc (.cells #[.string n] 9)).alloc (.cells #[.func (.func g) #[] cs] 96)) (c := [.slice none 0 0, .slice none 0 0]) (t := 25) (Aft.refl _))
    simpa using this
  have zW : w.heap.size ≤ W.heap.size := aW.size
  have CC := Lib.hid (changed_in o As caps At capt 139 #[.pointer (some ⟨w.heap.size + 1, 0, none⟩), .pointer (some ⟨w.heap.size + 1 + 1, 0, none⟩), .pointer (some ⟨w.heap.size + 1 + 1 + 1, 0, none⟩)] (tabR o s n f) W (schs_aft aW hsch) (tabs_aft aW htab) hent1 tabR_zero
    (fun hck w' hs ht L B n3 a' hB hn hL ob hne r3 => tabCh1_in o s n g cs f w' hs ht L B n3 _ _ _ hL ob sm r3 (a'.cell_kept c1) (a'.cell_kept c2) (a'.cell_kept c3) hent
      (fun w'' q gt hq a'' hgt hqq => hdo hck w'' hs ht L B n3 q gt hq (aW.trans (a'.trans a'')) (Nat.le_trans zW hB) hn hL (ob.aft a'') hne (r3.aft a'') hgt hqq)))
  have HAW := Lib.hid aW
  have HR4 := Lib.hid r4
  have HZW := Lib.hid (show W.heap.size = w.heap.size + 5 by rw [hW]; simp)
  obtain ⟨rr, hrr⟩ : ∃ rr, chgR o (tabR o s n f) = rr := ⟨_, rfl⟩
  rw [hrr] at CC ⊢
  clear c1 c2 c3 r4 aW hsch htab hdo zW sm hrr
  go_enter Try.func76, Try.ntmps76
  go_wp2_with fail
  rw [← hW]
  clear hW
  refine CC.out.mono ?_
  rintro e w1 ⟨hs, ht, L, hL, rfl, a1, ob⟩
  have b4 := HR4.out.aft a1
  have d0 := b4.cell (j := 0) rfl
  have d1 := b4.cell (j := 1) rfl
  have f0 := b4.2.2 0 (by simp)
  have f1 := b4.2.2 1 (by simp)
  have z2 := b4.1
  have HB4 := Lib.hid b4
  have HA1 := Lib.hid (HAW.out.trans a1)
  have HO := Lib.hid ob
  have HL := Lib.hid hL
  clear b4 a1 ob hL CC
  go_wp2_with fail
  obtain ⟨F, hF⟩ : ∃ F, F = (w1.setCell ⟨w.heap.size + 1 + 1 + 1 + 1, 0, none⟩ (.slice hs.a rr.1.schemas.length hs.c)).setCell ⟨w.heap.size + 1 + 1 + 1 + 1, 1, none⟩ (.slice ht.a rr.1.tables.length ht.c) := ⟨_, rfl⟩
  have kF : Kb (fun g => g = w.heap.size + 1 + 1 + 1 + 1) w1 F := by rw [hF]; exact (Kb.set _ _ _ _).trans (Kb.set _ _ _ _)
  have rF : RowAt F (w.heap.size + 1 + 1 + 1 + 1) [.slice hs.a rr.1.schemas.length hs.c, .slice ht.a rr.1.tables.length ht.c] := by rw [hF]; exact (HB4.out.set 0 _ (by simp)).set 1 _ (by simp)
  rw [← hF]
  refine bodyPost_ret (results_cell_tmp (v := .agg #[.slice hs.a rr.1.schemas.length hs.c, .slice ht.a rr.1.tables.length ht.c]) rfl _ rfl ?hl) rfl ?_
  case hl => exact lvObj_row rF
  refine ⟨hs, ht, L, HL.out, rfl, kF.to_aft HA1.out (fun g hg e => by omega), ?_⟩
  have hz := HZW.out
  refine ObjIn.down (HO.out.kb kF fun g hg e => ?_) (show w.heap.size ≤ W.heap.size by omega)
  have := (HO.out.lt g hg).1
  omega
end Go.Proofs.Ytodifdofgjfkiaa
