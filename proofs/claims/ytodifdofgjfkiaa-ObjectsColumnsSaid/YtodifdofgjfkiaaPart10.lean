/- Contracts of the program, part 10. -/
import Derived.Test.YtodifdofgjfkiaaPart9
import Derived.Test.YtodifdofgjfkiaaPart8
import Derived.Test.YtodifdofgjfkiaaPart1
import Derived.ShutString
/- objects.DropColumn. -/
namespace Go.Proofs.Ytodifdofgjfkiaa
open Go.RowKit Go.Deep
set_option maxRecDepth 100000
set_option linter.unusedVariables false
theorem idxP_any {α : Type} (p : α → Bool) (l : List α) : decide (0 ≤ idxP p l) = l.any p := by
  induction l with
  | nil => rfl
  | cons x l ih =>
    rw [List.any_cons, ← ih]
    show decide (0 ≤ (if p x then (0 : Int) else if idxP p l < 0 then -1 else idxP p l + 1)) = _
    cases h : p x
    · simp only [Bool.false_or]
      by_cases h2 : idxP p l < 0
      · simp [h2]
      · simp [h2]; omega
    · simp
set_option maxHeartbeats 1000000 in
theorem scont_any (A : Option Addr) (cap : Nat) (l : List ByteArray) (name : ByteArray) (w : World) (h : SlAt w 1 StrR A cap l) :
    Calls Try.prog 90 #[.slice A l.length cap, .string name] w fun e w' => e = .returned (.bool (l.any fun c => eqS c name)) ∧ w = w' := by
  have C := Lib.hid (sidx_any A cap l name w h)
  have HE := Lib.hid (idxP_any (fun c => eqS c name) l)
  obtain ⟨i, hi⟩ : ∃ i, idxP (fun c => eqS c name) l = i := ⟨_, rfl⟩
  rw [hi] at C HE
  clear hi
  go_enter Try.func90, Try.ntmps90
  go_wp2_with fail
  refine C.out.mono ?_
  rintro e w1 ⟨rfl, rfl⟩
  go_wp2_with fail
  go_ret
  exact ⟨by rw [← HE.out]; rfl, rfl⟩
set_option maxHeartbeats 1000000 in
theorem dropCol11_in (r : Rul) (s : ByteArray) (A : Option Addr) (cap bs : Nat) (w : World) (h : SlAt w 1 StrR A cap r.cols) (hc : w.cell? ⟨bs, 0, none⟩ = some (.string s)) :
    Calls Try.prog 89 #[.agg #[.string r.name, .int .i64 r.kind, .slice A r.cols.length cap, .int .i64 r.low, .int .i64 r.high, .string r.schema, .string r.table, .string r.key], .pointer (some ⟨bs, 0, none⟩)] w
      fun e w' => e = .returned (.bool (r.cols.any fun c => eqS c s)) ∧ Aft w w' := by
  have y1 := World.block_lt_of_cell? _ _ hc
  have l1 : bs < w.heap.size + 1 := by have : bs < w.heap.size := y1; omega
  have C := Lib.hid (scont_any A cap r.cols s (w.alloc (.cells #[.string r.name, .int .i64 r.kind, .slice A r.cols.length cap, .int .i64 r.low, .int .i64 r.high, .string r.schema, .string r.table, .string r.key] 66)) (strs_aft ((Aft.refl w).alloc _) h))
  have HA := Lib.hid (show Aft w (w.alloc (.cells #[.string r.name, .int .i64 r.kind, .slice A r.cols.length cap, .int .i64 r.low, .int .i64 r.high, .string r.schema, .string r.table, .string r.key] 66)) from (Aft.refl w).alloc _)
  obtain ⟨b, hb⟩ : ∃ b, (r.cols.any fun c => eqS c s) = b := ⟨_, rfl⟩
  rw [hb] at C ⊢
  clear hb h
  go_enter Try.func89, Try.ntmps89
  go_wp2_with fail
  refine C.out.mono ?_
  rintro e w1 ⟨rfl, rfl⟩
  go_wp2_with fail
  go_ret
  exact ⟨rfl, HA.out⟩
set_option maxHeartbeats 1000000 in
theorem contRul_any (l : List Rul) (s : ByteArray) (A : Option Addr) (cap bs : Nat) (w : World) (h : SlAt w 8 RulR A cap l) (hc : w.cell? ⟨bs, 0, none⟩ = some (.string s)) :
    Calls Try.prog 88 #[.slice A l.length cap, .func (.func 89) #[] #[.pointer (some ⟨bs, 0, none⟩)]] w
      fun e w' => e = .returned (.bool (l.any fun r => r.cols.any fun c => eqS c s)) ∧ Aft w w' := by
  have hent := enters (P := Try.prog) Try.func89 (by kernel_rfl) rfl
  have C := Lib.hid (idxRul A cap l 89 #[.pointer (some ⟨bs, 0, none⟩)] (fun r => r.cols.any fun c => eqS c s) w h hent (fun w' a i hi e1 he => by
    obtain ⟨A2, cap2, rfl, h2, _⟩ := he
    exact dropCol11_in l[i] s A2 cap2 bs w' h2 (a.cell_kept hc)))
  have HE := Lib.hid (idxP_any (fun r : Rul => r.cols.any fun c => eqS c s) l)
  obtain ⟨i, hi⟩ : ∃ i, idxP (fun r : Rul => r.cols.any fun c => eqS c s) l = i := ⟨_, rfl⟩
  rw [hi] at C HE
  clear hi
  go_enter Try.func88, Try.ntmps88
  go_wp2_with fail
  refine C.out.mono ?_
  rintro e w1 ⟨rfl, a1⟩
  have HA := Lib.hid a1
  clear a1
  go_wp2_with fail
  go_ret
  exact ⟨by rw [← HE.out]; rfl, HA.out⟩
set_option maxHeartbeats 8000000 in
theorem dropCol1_in (s : ByteArray) (o : Objs) (w : World) (hs ht : Hd) (L : List OTab) (B n3 q gt bs : Nat) (hq : q < L.length) (hbn : B ≤ n3) (hL : L.map OTab.t = o.tables) (ob : ObjIn w B hs ht o.schemas L) (hne : ∀ g ∈ hs.blk ++ (ht.blk ++ L.flatMap OTab.blks), g ≠ n3)
    (r3 : RowAt w n3 [.slice hs.a o.schemas.length hs.c, .slice ht.a o.tables.length ht.c]) (hgt : ht.a = some ⟨gt, 0, none⟩) (hc1 : w.cell? ⟨bs, 0, none⟩ = some (.string s)) (sm : SmO o) :
    Calls Try.prog 87 #[.agg #[.slice hs.a o.schemas.length hs.c, .slice ht.a o.tables.length ht.c], .pointer (some ⟨gt, q * 5, none⟩), .pointer (some ⟨bs, 0, none⟩)] w (TDoP w B n3 hs ht o.schemas L q (dropColF s L[q].t)) := by
  have hLL : L.length = o.tables.length := by rw [← hL]; simp
  have hoo : objOf o.schemas L = o := by unfold objOf; rw [hL]
  have smq : SmT L[q].t := sm.2.2 _ (by rw [← hL]; exact List.mem_map_of_mem (List.getElem_mem hq))
  have tq := ob.nth hq
  obtain ⟨z1, z2, zf⟩ := ob.row hgt hq
  obtain ⟨hA, hn, hC⟩ : ∃ x : OTab, x = L[q] ∧ True := ⟨_, rfl, trivial⟩
  clear hC
  subst hn
  have hcv : L[q].hc.v = .slice L[q].hc.a L[q].cols.length L[q].hc.c := own_slice tq.col
  have d3 : w.cell? ⟨gt, q * 5 + 3, none⟩ = some (.slice L[q].hc.a L[q].cols.length L[q].hc.c) := by rw [← hcv]; exact ob.cell hgt hq (by decide)
  have f3 := zf 3 (by decide)
  have hbq : gt ∈ ht.blk := by rw [Hd.mem_blk]; unfold Hd.v; rw [hgt]; rfl
  have nd := ob.nd
  have hgc : ∀ g, L[q].hc.v.ownBlock = some g → g ≠ gt ∧ g ≠ n3 ∧ B ≤ g := fun g h => by
    have hin : g ∈ L.flatMap OTab.blks := List.mem_flatMap.2 ⟨L[q], List.getElem_mem hq, by unfold OTab.blks; simp [Hd.mem_blk.2 h]⟩
    exact ⟨fun e => nodup_disj (List.nodup_append.1 nd).2.1 hbq (by rw [← e]; exact hin), hne g (by simp only [List.mem_append]; exact .inr (.inr hin)), (tq.col.lt g h).1⟩
  have hgn : gt ≠ n3 := hne gt (by simp [hbq])
  have cols := tq.cols smq
  have hlen := cols.len
  have ruls := tq.ruls smq
  have hrv : L[q].hr.v = .slice L[q].hr.a L[q].rules.length L[q].hr.c := own_slice tq.rul
  have d4 : w.cell? ⟨gt, q * 5 + 4, none⟩ = some (.slice L[q].hr.a L[q].rules.length L[q].hr.c) := by rw [← hrv]; exact ob.cell hgt hq (by decide)
  obtain ⟨i, hi⟩ : ∃ i, colAt L[q].cols s = i := ⟨_, rfl⟩
  have hir : -1 ≤ i ∧ i < L[q].cols.length := by rw [← hi]; exact idxP_range _ _
  obtain ⟨u, hu⟩ : ∃ u, ((L[q].rules.map (·.r)).any fun r => r.cols.any fun c => eqS c s) = u := ⟨_, rfl⟩
  have HE := Lib.hid (show dropColF s L[q].t = if i < 0 then (L[q].t, 61) else if (decide (L[q].cols.length = 1) || u) then (L[q].t, 62) else ({ L[q].t with cols := L[q].cols.eraseIdx i.toNat }, 0) by
    rw [← hi, ← hu]; rfl)
  have CB := Lib.hid (show ∀ w', Aft w w' → Calls Try.prog 83 #[.slice L[q].hc.a L[q].cols.length L[q].hc.c, .string s, .func (.func 84) #[] #[]] w' fun e w'' => e = .returned (.int .i64 i) ∧ Aft w' w'' from
    fun w' a => (byCol L[q].hc.a L[q].hc.c L[q].cols s w' (cols_aft a cols)).mono fun e w'' ⟨he, hw⟩ => ⟨he.trans (by rw [← hi]; rfl), hw⟩)
  have CR := Lib.hid (show ∀ w', Aft w w' → Calls Try.prog 88 #[.slice L[q].hr.a L[q].rules.length L[q].hr.c, .func (.func 89) #[] #[.pointer (some ⟨bs, 0, none⟩)]] w' fun e w'' => e = .returned (.bool u) ∧ Aft w' w'' from
    fun w' a => by
      have h9 := (contRul_any (L[q].rules.map (·.r)) s L[q].hr.a L[q].hr.c bs w' (ruls_aft a ruls) (a.cell_kept hc1)).mono fun e w'' ⟨he, hw⟩ => (⟨he.trans (by rw [hu]), hw⟩ : e = Ending.returned (Value.bool u) ∧ Aft w' w'')
      rw [List.length_map] at h9
      exact h9)
  have HOB := Lib.hid ob
  have HGT := Lib.hid hgt
  have HR3 := Lib.hid r3
  have HGC := Lib.hid hgc
  have HLL := Lib.hid hLL
  have HCV := Lib.hid hcv
  have y1 := World.block_lt_of_cell? _ _ hc1
  have y1 : bs < w.heap.size := y1
  have l1 : bs < w.heap.size + 1 := by omega
  have l2 : gt < w.heap.size + 1 := by omega
  obtain ⟨W, hW⟩ : ∃ W, W = w.alloc (.cells #[.slice hs.a o.schemas.length hs.c, .slice ht.a o.tables.length ht.c] 25) := ⟨_, rfl⟩
  have aW : Aft w W := by rw [hW]; exact (Aft.refl w).alloc _
  have CB' := Lib.hid (show ∀ x : Lat W, Calls Try.prog 83 #[.slice L[q].hc.a L[q].cols.length L[q].hc.c, .string s, .func (.func 84) #[] #[]] (lat W x) fun e w'' => e = .returned (.int .i64 i) ∧ Aft (lat W x) w'' from fun x => CB.out _ (aW.lat x))
  have c1 := aW.cell_kept hc1
  have d3' := aW.cell_kept d3
  have d4' := aW.cell_kept d4
  have z1' := Nat.lt_of_lt_of_le z1 aW.size
  have y1' := Nat.lt_of_lt_of_le y1 aW.size
  have HAW := Lib.hid aW
  clear ob hgt r3 hgc hLL hcv hrv hi hu cols ruls nd hoo smq hL sm tq aW hne zf CB
  go_enter Try.func87, Try.ntmps87
  go_wp2_with fail
  rw [← hW]
  clear hW
  refine wp_region_lat (by kernel_rfl) (by kernel_rfl) ?_
  repeat (go_big_quiet_step ((go_at_call 83; exact Calls.lat_of (CB'.out _))))
  refine wpQuiet_nil ?_
  intro _ hw'
  obtain ⟨x, hw''⟩ := hw'
  subst hw''
  obtain ⟨V, hV⟩ : ∃ V, V = lat W x := ⟨_, rfl⟩
  have aV : Aft W V := by rw [hV]; exact (Aft.refl W).lat x
  rw [← hV]
  have d3 := aV.cell_kept d3'
  have d4 := aV.cell_kept d4'
  have z1 := Nat.lt_of_lt_of_le z1' aV.size
  have HAV := Lib.hid (HAW.out.trans aV)
  clear hV aV d3' d4' z1' c1 y1' CB'
  by_cases h0 : i < 0
  · have hd : decide (i < 0) = true := by simpa using h0
    have HH0 := Lib.hid h0
    go_wp2_with fail
    go_ret
    rw [HE.out, if_pos (by have := HH0.out; omega)]
    exact ⟨rfl, Kb.of_aft HAV.out, fun h => absurd h (by simp)⟩
  have hd : decide (i < 0) = false := by simpa using h0
  have HH0 := Lib.hid h0
  clear h0
  by_cases h1 : L[q].cols.length = 1
  · have hd1 : ((L[q].cols.length : Int) == 1) = true := by simp [h1]
    have HH1 := Lib.hid h1
    clear h1
    go_wp2_with fail
    go_ret
    rw [HE.out, if_neg (by have := HH0.out; omega), if_pos (by rw [decide_eq_true HH1.out]; rfl)]
    exact ⟨rfl, Kb.of_aft HAV.out, fun h => absurd h (by simp)⟩
  have hd1 : ((L[q].cols.length : Int) == 1) = false := by simp; omega
  have HH1 := Lib.hid h1
  clear h1
  go_wp2_with fail
  refine (CR.out V HAV.out).mono ?_
  rintro e w2 ⟨rfl, a2⟩
  have HA2 := Lib.hid (HAV.out.trans a2)
  have d3 := a2.cell_kept d3
  have z1 := Nat.lt_of_lt_of_le z1 a2.size
  clear a2 CR d4
  cases u
  · have ob2 := HOB.out.aft HA2.out
    obtain ⟨p, rfl⟩ : ∃ p : Nat, i = p := ⟨i.toNat, by have := HH0.out; omega⟩
    obtain ⟨m, hm⟩ : ∃ m, L[q].cols.length = p + 1 + m := ⟨L[q].cols.length - (p + 1), by omega⟩
    obtain ⟨gc, cap, hv, hgcb, hnc, hrow⟩ := own_rowAt (ob2.nth hq).col (by omega)
    have hcap : cap ≤ 9223372036854775807 := by
      rcases (ob2.nth hq).col.2 with ⟨_, hn⟩ | ⟨g', cap', cur, hv', _, _, _, hcm, _⟩
      · omega
      · rw [hv] at hv'
        simp only [Value.slice.injEq] at hv'
        rw [hv'.2.2]; unfold maxLen at hcm; omega
    have hA : L[q].hc.a = some ⟨gc, 0, none⟩ ∧ L[q].hc.c = cap := by
      have := HCV.out.symm.trans hv
      simp only [Value.slice.injEq] at this
      exact ⟨this.1, this.2.2⟩
    have own2 : w2.ownsRow B 40 3 (.slice (some ⟨gc, 0, none⟩) (p + 1 + m) cap) (p + 1 + m) (L[q].cols.flatMap colC) := by
      have := (ob2.nth hq).col
      rw [hv, hm] at this
      exact this
    have CD := Lib.hid (delCol gc cap p m B (L[q].cols.flatMap colC) w2 own2 (oneC_cells oneC_col _) hcap)
    have hbl : L[q].hc.v.ownBlock = some gc := by rw [hv]; rfl
    have hg1 : gc ≠ gt := (HGC.out gc hbl).1
    have f3 : w2.frozen? ⟨gt, q * 5 + 3, none⟩ = false := (ob2.row HGT.out hq).2.2 3 (by decide)
    rw [hA.1, hA.2, hm] at d3
    have HA := Lib.hid hA
    have HM := Lib.hid hm
    have HOB2 := Lib.hid ob2
    have HV := Lib.hid hv
    have hpb : (p : Int) + 1 ≤ 9223372036854775807 := by omega
    rw [hA.1, hA.2, hm]
    clear ob2 own2 hrow hv hA hm
    go_wp2_with fail
    refine CD.out.mono ?_
    rintro e w5 ⟨rfl, own5, k5⟩
    have d5 := k5.cell d3 hg1.symm
    have z5 := Nat.lt_of_lt_of_le z1 k5.size
    have f5 : w5.frozen? ⟨gt, q * 5 + 3, none⟩ = false := by
      have := k5.block gt z1 hg1.symm
      rw [← f3]; simp [World.frozen?, this]
    have HP := Lib.hid (show TDoP w B n3 hs ht o.schemas L q (({ L[q].t with cols := L[q].cols.eraseIdx p } : Tab), 0) (.returned (.int .i64 0)) (w5.setCell ⟨gt, q * 5 + 3, none⟩ (.slice (some ⟨gc, 0, none⟩) (p + m) cap)) from by
      have hbl : L[q].hc.v.ownBlock = some gc := by rw [HV.out]; rfl
      have kk : Kb (fun g => L[q].hc.v.ownBlock = some g) w2 w5 := k5.mono fun g _ e => by rw [e]; exact hbl
      have hlen5 : (L[q].cols.eraseIdx p).length = p + m := by rw [List.length_eraseIdx]; have := HM.out; rw [if_pos (by omega)]; omega
      refine ⟨rfl, ?_, fun _ => ⟨{ L[q] with cols := L[q].cols.eraseIdx p, hc := ⟨some ⟨gc, 0, none⟩, p + m, cap⟩ }, rfl, ?_, ?_⟩⟩
      · refine (Kb.of_aft HA2.out).trans ((k5.mono fun g _ e => ?_).trans ((Kb.set w5 gt (q * 5 + 3) _).mono fun g _ e => ?_))
        · subst e; exact (HGC.out g hbl).2.2
        · subst e; exact z2
      · refine HOB2.out.newCols (hc' := ⟨some ⟨gc, 0, none⟩, p + m, cap⟩) hq HGT.out kk ?_ ?_
        · rw [hlen5, ← flatMap_erase (size := 3) (fun _ => rfl)]; exact own5
        · intro g hg
          rw [blk_some, List.mem_singleton] at hg
          subst hg
          exact .inl (Hd.mem_blk.2 hbl)
      · have e := HLL.out
        rw [e]
        exact (Kb.set w5 gt (q * 5 + 3) _).row (k5.row (HR3.out.aft HA2.out) (fun e => (HGC.out gc hbl).2.1 e.symm)) (fun e => hgn e.symm))
    clear own5 k5
    go_wp2_with fail
    go_ret
    rw [HE.out, if_neg (by omega), if_neg (by simp; exact HH1.out)]
    exact HP.out
  · go_wp2_with fail
    go_ret
    rw [HE.out, if_neg (by have := HH0.out; omega), if_pos (by simp)]
    exact ⟨rfl, Kb.of_aft HA2.out, fun h => absurd h (by simp)⟩
set_option maxHeartbeats 8000000 in
theorem dropColumn_in (c : ByteArray) (o : Objs) (As : Option Addr) (caps : Nat) (At : Option Addr) (capt : Nat) (s n : ByteArray) (w : World) (hsch : SlAt w 2 SchR As caps o.schemas) (htab : SlAt w 5 TabR At capt o.tables) :
    Calls Try.prog 29 #[.agg #[.slice As o.schemas.length caps, .slice At o.tables.length capt], .string s, .string n, .string c] w (ObjP w (chgR o (tabR o s n (dropColF c)))) := by
  have hlen := hsch.len
  have hlen2 := htab.len
  have sm : SmO o := ⟨sm_schs hsch, sm_tabs htab⟩
  have hent := enters (P := Try.prog) Try.func87 (by kernel_rfl) rfl
  have l1 : w.heap.size < w.heap.size + 1 := by omega
  have l2 : w.heap.size < w.heap.size + 1 + 1 := by omega
  have l3 : w.heap.size < w.heap.size + 1 + 1 + 1 := by omega
  obtain ⟨W, hW⟩ : ∃ W, W = ((w.alloc (.cells #[.slice As o.schemas.length caps, .slice At o.tables.length capt] 25)).alloc (.cells #[.string c] 9)).alloc (.cells #[.slice none 0 0, .slice none 0 0] 25) := ⟨_, rfl⟩
  have aW : Aft w W := by rw [hW]; exact (((Aft.refl w).alloc _).alloc _).alloc _
  have hc1 : W.cell? ⟨w.heap.size + 1, 0, none⟩ = some (.string c) := by
    rw [hW]; (repeat (refine (World.cell?_alloc_past _ _ _ (by first | (simp; done) | (simp; omega))).trans ?_)); exact World.cell?_alloc_at _ _ _ _ (by simp)
  have r2 : RowAt W (w.heap.size + 1 + 1) [.slice none 0 0, .slice none 0 0] := by
    rw [hW]
    have := (box_row2 (w := (w.alloc (.cells #[.slice As o.schemas.length caps, .slice At o.tables.length capt] 25)).alloc (.cells #[.string c] 9)) (c := [.slice none 0 0, .slice none 0 0]) (t := 25) (Aft.refl _))
    simpa using this
  have zW : W.heap.size = w.heap.size + 3 := by rw [hW]; simp
  have CT := Lib.hid (tabCh_in o As caps At capt s n 87 #[.pointer (some ⟨w.heap.size + 1, 0, none⟩)] (dropColF c) W (schs_aft aW hsch) (tabs_aft aW htab) hent
    (fun hck w'' hs ht L B n3 q gt hq a'' hB hn hL ob hne r3 hgt hqq => dropCol1_in c o w'' hs ht L B n3 q gt (w.heap.size + 1) hq hn hL ob hne r3 hgt (a''.cell_kept hc1) sm))
  obtain ⟨rr, hrr⟩ : ∃ rr, chgR o (tabR o s n (dropColF c)) = rr := ⟨_, rfl⟩
  rw [hrr] at CT ⊢
  have HAW := Lib.hid aW
  have HR2 := Lib.hid r2
  have HZ := Lib.hid zW
  clear hrr hsch htab r2 aW zW hc1 sm
  go_enter Try.func29, Try.ntmps29
  go_wp2_with fail
  rw [← hW]
  clear hW
  refine CT.out.mono ?_
  rintro e w3 ⟨hs, ht, L, hL, rfl, a3, ob⟩
  have b2 := HR2.out.aft a3
  have d0 := b2.cell (j := 0) rfl
  have d1 := b2.cell (j := 1) rfl
  have f0 := b2.2.2 0 (by simp)
  have f1 := b2.2.2 1 (by simp)
  have z2 := b2.1
  have HB3 := Lib.hid b2
  have HA3 := Lib.hid (HAW.out.trans a3)
  have HO := Lib.hid ob
  have HL := Lib.hid hL
  clear b2 a3 ob hL
  go_wp2_with fail
  refine bodyPost_ret (results_cell_tmp (v := .agg #[.slice hs.a rr.1.schemas.length hs.c, .slice ht.a rr.1.tables.length ht.c]) rfl _ rfl (lvObj_row (setO_row HB3.out rfl _ _))) rfl ?_
  exact objP_set HA3.out HL.out HO.out (by omega) (by have := HZ.out; omega) rfl
end Go.Proofs.Ytodifdofgjfkiaa
/- The document's AddColumn. -/
namespace Go.Proofs.Ytodifdofgjfkiaa
open Go.RowKit Go.Deep
set_option maxRecDepth 100000
set_option linter.unusedVariables false
set_option maxHeartbeats 8000000 in
theorem rAddColumn_in (nm : ByteArray) (kd : Int) (nl : Bool) (o : Objs) (As : Option Addr) (caps : Nat) (At : Option Addr) (capt : Nat) (s n : ByteArray) (w : World) (hsch : SlAt w 2 SchR As caps o.schemas) (htab : SlAt w 5 TabR At capt o.tables) (hv : Small nm.size) :
    Calls Try.prog 28 #[.agg #[.slice As o.schemas.length caps, .slice At o.tables.length capt], .string s, .string n, .agg #[.string nm, .int .i64 kd, .bool nl]] w (ObjP w (chgR o (tabR o s n (addColF ⟨nm, kd, nl⟩)))) := by
  have hlen := hsch.len
  have hlen2 := htab.len
  have l1 : w.heap.size < w.heap.size + 1 := by omega
  have l2 : w.heap.size < w.heap.size + 1 + 1 := by omega
  have l3 : w.heap.size < w.heap.size + 1 + 1 + 1 := by omega
  obtain ⟨W, hW⟩ : ∃ W, W = ((w.alloc (.cells #[.slice As o.schemas.length caps, .slice At o.tables.length capt] 25)).alloc (.cells #[.string nm, .int .i64 kd, .bool nl] 40)).alloc (.cells #[.slice none 0 0, .slice none 0 0] 25) := ⟨_, rfl⟩
  have aW : Aft w W := by rw [hW]; exact (((Aft.refl w).alloc _).alloc _).alloc _
  have r1 : RowAt W w.heap.size [.slice As o.schemas.length caps, .slice At o.tables.length capt] := by rw [hW]; exact (box_row2 (Aft.refl _)).aft (((Aft.refl _).alloc _).alloc _)
  have rc : RowAt W (w.heap.size + 1) [.string nm, .int .i64 kd, .bool nl] := by
    rw [hW]
    have := (box_row2 (w := w.alloc (.cells #[.slice As o.schemas.length caps, .slice At o.tables.length capt] 25)) (c := [.string nm, .int .i64 kd, .bool nl]) (t := 40) (Aft.refl _)).aft ((Aft.refl _).alloc (.cells #[.slice none 0 0, .slice none 0 0] 25))
    simpa using this
  have r2 : RowAt W (w.heap.size + 1 + 1) [.slice none 0 0, .slice none 0 0] := by
    rw [hW]
    have := (box_row2 (w := (w.alloc (.cells #[.slice As o.schemas.length caps, .slice At o.tables.length capt] 25)).alloc (.cells #[.string nm, .int .i64 kd, .bool nl] 40)) (c := [.slice none 0 0, .slice none 0 0]) (t := 25) (Aft.refl _))
    simpa using this
  have zW : W.heap.size = w.heap.size + 3 := by rw [hW]; simp
  obtain ⟨c, hc⟩ : ∃ c, checkO o = c := ⟨_, rfl⟩
  obtain ⟨m, hm⟩ : ∃ m, colOk ⟨nm, kd, nl⟩ = m := ⟨_, rfl⟩
  obtain ⟨i, hi⟩ : ∃ i, tabAt o.tables s n = i := ⟨_, rfl⟩
  have hir : -1 ≤ i ∧ i < o.tables.length := by rw [← hi]; exact idxP_range _ _
  have CK := Lib.hid (show ∀ w', Aft w w' → Calls Try.prog 18 #[.agg #[.slice As o.schemas.length caps, .slice At o.tables.length capt]] w' fun e w'' => e = .returned (.bool c) ∧ Aft w' w'' from
    fun w' a => (rRight_any o As caps At capt w' (schs_aft a hsch) (tabs_aft a htab)).mono fun e w'' ⟨he, hw⟩ => ⟨he.trans (by rw [hc]), hw⟩)
  have CN := Lib.hid (show ∀ w', Calls Try.prog 85 #[.agg #[.string nm, .int .i64 kd, .bool nl]] w' fun e w'' => e = .returned (.bool m) ∧ Aft w' w'' from fun w' => (rone_any nm kd nl w' hv.max).mono fun e w'' ⟨he, hw⟩ => ⟨he.trans (by rw [hm]), hw⟩)
  have CW := Lib.hid (show ∀ w', Aft w w' → Calls Try.prog 75 #[.agg #[.slice As o.schemas.length caps, .slice At o.tables.length capt], .string s, .string n] w' fun e w'' => e = .returned (.int .i64 i) ∧ Aft w' w'' from
    fun w' a => (rtab_any (.slice As o.schemas.length caps) At capt o.tables s n w' (tabs_aft a htab)).mono fun e w'' ⟨he, hw⟩ => ⟨he.trans (by rw [hi]), hw⟩)
  have CO := Lib.hid (show c = true → ∀ w', Aft w w' → _ from fun h w' a => rOwn_in o As caps At capt w' (schs_aft a hsch) (tabs_aft a htab) (check_mod (hc.trans h)))
  have HE := Lib.hid (show chgR o (tabR o s n (addColF ⟨nm, kd, nl⟩)) = if c = true then tabR o s n (addColF ⟨nm, kd, nl⟩) else (zeroO, 63) by unfold chgR; rw [hc])
  have HI := Lib.hid hi
  have HMC := Lib.hid hm
  have HAW := Lib.hid aW
  have HR1 := Lib.hid r1
  have HRC := Lib.hid rc
  have HR2 := Lib.hid r2
  have HZ := Lib.hid zW
  have HT := Lib.hid htab
  clear hc hm hi hsch htab r1 r2 rc aW zW hv
  go_enter Try.func28, Try.ntmps28
  go_wp2_with fail
  rw [← hW]
  clear hW
  refine (CK.out W HAW.out).mono ?_
  rintro e w1 ⟨rfl, a1⟩
  have HB1 := Lib.hid (HR1.out.aft a1)
  have HBC := Lib.hid (HRC.out.aft a1)
  have HB2 := Lib.hid (HR2.out.aft a1)
  have c0 := HB1.out.cell (j := 0) rfl
  have c1 := HB1.out.cell (j := 1) rfl
  have z1 := HB1.out.1
  have HA1 := Lib.hid (HAW.out.trans a1)
  have HZ1 := Lib.hid (show w.heap.size + 3 ≤ w1.heap.size by have := a1.size; have := HZ.out; omega)
  clear a1
  have NO := Lib.hid (show ∀ (c : Int) (w2 : World), Aft w1 w2 → Calls Try.prog 78 #[.int .i64 c] w2 fun e w' => e = .returned (.tuple #[.agg #[.slice none 0 0, .slice none 0 0], .int .i64 c]) ∧ Aft w w' ∧ RowAt w' (w.heap.size + 1 + 1) [.slice none 0 0, .slice none 0 0] from
    fun c w2 a => (rNo_in c w2).mono fun e w' ⟨he, hw⟩ => ⟨he, HA1.out.trans (a.trans hw), HB2.out.aft (a.trans hw)⟩)
  cases c
  · go_wp2_with fail
    refine (NO.out 63 w1 (Aft.refl _)).mono ?_
    rintro e w2 ⟨rfl, a2, b2⟩
    have d0 := b2.cell (j := 0) rfl
    have d1 := b2.cell (j := 1) rfl
    have f0 := b2.2.2 0 (by simp)
    have f1 := b2.2.2 1 (by simp)
    have z2 := b2.1
    have HA2 := Lib.hid a2
    have HB := Lib.hid b2
    clear a2 b2
    go_wp2_with fail
    refine bodyPost_ret (results_cell_tmp (v := .agg #[.slice none 0 0, .slice none 0 0]) rfl _ rfl (lvObj_row (setO_row HB.out rfl _ _))) rfl ?_
    rw [HE.out]
    exact objP_zset HA2.out (by omega)
  go_wp2_with fail
  refine (CW.out w1 HA1.out).mono ?_
  rintro e w2 ⟨rfl, a2⟩
  have HB1' := Lib.hid (HB1.out.aft a2)
  have HBC' := Lib.hid (HBC.out.aft a2)
  have c0 := HB1'.out.cell (j := 0) rfl
  have c1 := HB1'.out.cell (j := 1) rfl
  have z1 := HB1'.out.1
  have g0 := HBC'.out.cell (j := 0) rfl
  have g1 := HBC'.out.cell (j := 1) rfl
  have g2 := HBC'.out.cell (j := 2) rfl
  have gz := HBC'.out.1
  have HA2 := Lib.hid (HA1.out.trans a2)
  have HA2' := Lib.hid a2
  clear a2
  by_cases h0 : 0 ≤ i
  case neg =>
    have hd : decide (i < 0) = true := by simp; omega
    have HH0 := Lib.hid h0
    go_wp2_with fail
    refine (NO.out 61 w2 HA2'.out).mono ?_
    rintro e w2 ⟨rfl, a2, b2⟩
    have d0 := b2.cell (j := 0) rfl
    have d1 := b2.cell (j := 1) rfl
    have f0 := b2.2.2 0 (by simp)
    have f1 := b2.2.2 1 (by simp)
    have z2 := b2.1
    have HA2 := Lib.hid a2
    have HB := Lib.hid b2
    clear a2 b2
    go_wp2_with fail
    refine bodyPost_ret (results_cell_tmp (v := .agg #[.slice none 0 0, .slice none 0 0]) rfl _ rfl (lvObj_row (setO_row HB.out rfl _ _))) rfl ?_
    rw [HE.out]
    simp only [if_true]
    rw [tabR_none (by rw [HI.out]; have := HH0.out; omega)]
    exact objP_zset HA2.out (by omega)
  obtain ⟨q, rfl⟩ := Int.eq_ofNat_of_zero_le h0
  have hq : q < o.tables.length := by omega
  have hd : decide ((q : Int) < 0) = false := by simp
  have HE2 := Lib.hid (tabR_some (f := addColF ⟨nm, kd, nl⟩) HI.out hq)
  obtain ⟨b, off, A2, cap2, A3, cap3, rfl, hb, t0, t1, t2, t3, t4, hcols, hruls, hss⟩ := tab_at (tabs_aft HA2.out HT.out) hq
  obtain ⟨p, hp⟩ : ∃ p, o.tables[q] = p := ⟨_, rfl⟩
  rw [hp] at t3 hcols HE2
  obtain ⟨j, hj⟩ : ∃ j, colAt p.cols nm = j := ⟨_, rfl⟩
  have hjr : -1 ≤ j ∧ j < p.cols.length := by rw [← hj]; exact idxP_range _ _
  have HEF := Lib.hid (show addColF ⟨nm, kd, nl⟩ p = if (!m || !nl) then (p, 63) else if 0 ≤ j then (p, 60) else if 8 ≤ p.cols.length then (p, 2) else ({ p with cols := p.cols ++ [⟨nm, kd, nl⟩] }, 0) by
    unfold addColF; rw [HMC.out, hj])
  have CC := Lib.hid (show ∀ w', Aft w2 w' → Calls Try.prog 86 #[.slice A2 p.cols.length cap2, .string nm] w' fun e w'' => e = .returned (.int .i64 j) ∧ w' = w'' from
    fun w' a => (rcol_any A2 cap2 p.cols nm w' (cols_aft a hcols)).mono fun e w'' ⟨he, hw⟩ => ⟨he.trans (by rw [← hj]; rfl), hw⟩)
  have hcl := hcols.len
  have HP := Lib.hid hp
  clear hp hj t0 t1 t2 t4 hcols hruls hss h0 hir
  have hq0 : (0 : Int) ≤ (q : Int) := by omega
  have hq1 : (q : Int) < (o.tables.length : Int) := by omega
  go_wp2_with fail
  refine (CN.out _).mono ?_
  rintro e w3 ⟨rfl, a3⟩
  have HB1'' := Lib.hid (HB1'.out.aft a3)
  have HBC'' := Lib.hid (HBC'.out.aft a3)
  have c0 := HB1''.out.cell (j := 0) rfl
  have c1 := HB1''.out.cell (j := 1) rfl
  have z1 := HB1''.out.1
  have g0 := HBC''.out.cell (j := 0) rfl
  have g1 := HBC''.out.cell (j := 1) rfl
  have g2 := HBC''.out.cell (j := 2) rfl
  have gz := HBC''.out.1
  have HA3 := Lib.hid (HA2.out.trans a3)
  have HA3' := Lib.hid (HA2'.out.trans a3)
  have HA23 := Lib.hid a3
  clear a3
  cases m
  · go_wp2_with fail
    refine (NO.out 63 w3 HA3'.out).mono ?_
    rintro e w2 ⟨rfl, a2, b2⟩
    have d0 := b2.cell (j := 0) rfl
    have d1 := b2.cell (j := 1) rfl
    have f0 := b2.2.2 0 (by simp)
    have f1 := b2.2.2 1 (by simp)
    have z2 := b2.1
    have HA2 := Lib.hid a2
    have HB := Lib.hid b2
    clear a2 b2
    go_wp2_with fail
    refine bodyPost_ret (results_cell_tmp (v := .agg #[.slice none 0 0, .slice none 0 0]) rfl _ rfl (lvObj_row (setO_row HB.out rfl _ _))) rfl ?_
    rw [HE.out]
    simp only [if_true]
    rw [HE2.out, HEF.out]
    simp only [Bool.not_false, Bool.true_or, if_true]
    rw [if_neg (by simp)]
    exact objP_zset HA2.out (by omega)
  cases nl
  · go_wp2_with fail
    refine (NO.out 63 w3 HA3'.out).mono ?_
    rintro e w2 ⟨rfl, a2, b2⟩
    have d0 := b2.cell (j := 0) rfl
    have d1 := b2.cell (j := 1) rfl
    have f0 := b2.2.2 0 (by simp)
    have f1 := b2.2.2 1 (by simp)
    have z2 := b2.1
    have HA2 := Lib.hid a2
    have HB := Lib.hid b2
    clear a2 b2
    go_wp2_with fail
    refine bodyPost_ret (results_cell_tmp (v := .agg #[.slice none 0 0, .slice none 0 0]) rfl _ rfl (lvObj_row (setO_row HB.out rfl _ _))) rfl ?_
    rw [HE.out]
    simp only [if_true]
    rw [HE2.out, HEF.out]
    simp only [Bool.not_false, Bool.or_true, if_true]
    rw [if_neg (by simp)]
    exact objP_zset HA2.out (by omega)
  by_cases hj0 : 0 ≤ j
  · have hd : decide (0 ≤ j) = true := by simpa using hj0
    have HH := Lib.hid hj0
    go_wp2_with (go_at_call 86; refine (CC.out _ HA23.out).mono ?_; rintro e w4 ⟨rfl, rfl⟩)
    refine (NO.out 60 w3 HA3'.out).mono ?_
    rintro e w2 ⟨rfl, a2, b2⟩
    have d0 := b2.cell (j := 0) rfl
    have d1 := b2.cell (j := 1) rfl
    have f0 := b2.2.2 0 (by simp)
    have f1 := b2.2.2 1 (by simp)
    have z2 := b2.1
    have HA2 := Lib.hid a2
    have HB := Lib.hid b2
    clear a2 b2
    go_wp2_with fail
    refine bodyPost_ret (results_cell_tmp (v := .agg #[.slice none 0 0, .slice none 0 0]) rfl _ rfl (lvObj_row (setO_row HB.out rfl _ _))) rfl ?_
    rw [HE.out]
    simp only [if_true]
    rw [HE2.out, HEF.out]
    simp only [Bool.not_true, Bool.or_self, Bool.false_eq_true, if_false, if_pos HH.out]
    rw [if_neg (by simp)]
    exact objP_zset HA2.out (by omega)
  have hd : decide (0 ≤ j) = false := by simpa using hj0
  have HHJ := Lib.hid hj0
  clear hj0
  by_cases h8 : 8 ≤ p.cols.length
  · have hd8 : decide (8 ≤ p.cols.length) = true := by simpa using h8
    have HH := Lib.hid h8
    go_wp2_with (go_at_call 86; refine (CC.out _ HA23.out).mono ?_; rintro e w4 ⟨rfl, rfl⟩)
    refine (NO.out 2 w3 HA3'.out).mono ?_
    rintro e w2 ⟨rfl, a2, b2⟩
    have d0 := b2.cell (j := 0) rfl
    have d1 := b2.cell (j := 1) rfl
    have f0 := b2.2.2 0 (by simp)
    have f1 := b2.2.2 1 (by simp)
    have z2 := b2.1
    have HA2 := Lib.hid a2
    have HB := Lib.hid b2
    clear a2 b2
    go_wp2_with fail
    refine bodyPost_ret (results_cell_tmp (v := .agg #[.slice none 0 0, .slice none 0 0]) rfl _ rfl (lvObj_row (setO_row HB.out rfl _ _))) rfl ?_
    rw [HE.out]
    simp only [if_true]
    rw [HE2.out, HEF.out]
    simp only [Bool.not_true, Bool.or_self, Bool.false_eq_true, if_false, if_neg (show ¬ 0 ≤ j by have := HHJ.out; omega), if_pos HH.out]
    rw [if_neg (by simp)]
    exact objP_zset HA2.out (by omega)
  have hd8 : decide (8 ≤ p.cols.length) = false := by simpa using h8
  have HH8 := Lib.hid h8
  go_wp2_with (go_at_call 86; refine (CC.out _ HA23.out).mono ?_; rintro e w4 ⟨rfl, rfl⟩)
  refine (CO.out (by simp) w3 HA3.out).mono ?_
  rintro e w4 ⟨hs, ht, L, hL, rfl, a4, ob⟩
  have hLL : L.length = o.tables.length := by rw [← hL]; simp
  have hqL : q < L.length := by omega
  obtain ⟨gt, hgt, hgb, _⟩ := own_place ob.tab (by omega)
  obtain ⟨At', nt, ct⟩ := ht
  have hgt' : At' = some ⟨gt, 0, none⟩ := hgt
  subst hgt'
  obtain ⟨V, hV⟩ : ∃ V, V = w4.alloc (.cells #[.slice hs.a o.schemas.length hs.c, .slice (some ⟨gt, 0, none⟩) o.tables.length ct] 25) := ⟨_, rfl⟩
  have aV : Aft w4 V := by rw [hV]; exact (Aft.refl _).alloc _
  have rV : RowAt V w4.heap.size [.slice hs.a o.schemas.length hs.c, .slice (some ⟨gt, 0, none⟩) o.tables.length ct] := by rw [hV]; exact box_row2 (Aft.refl _)
  have obV := ob.aft aV
  have htq : L[q].t = p := by
    have : (L.map OTab.t)[q]'(by simpa using hqL) = o.tables[q] := by simp only [hL]
    rw [← HP.out]; simpa using this
  have hcv : L[q].hc.v = .slice L[q].hc.a L[q].cols.length L[q].hc.c := own_slice (ob.nth hqL).col
  have hcc : L[q].cols = p.cols := by rw [← htq]; rfl
  have d3 : V.cell? ⟨gt, q * 5 + 3, none⟩ = some (.slice L[q].hc.a L[q].cols.length L[q].hc.c) := by rw [← hcv]; exact obV.cell rfl hqL (by decide)
  obtain ⟨y1, y2, yf⟩ := obV.row rfl hqL
  have f3 := yf 3 (by decide)
  have nd := ob.nd
  have hbq : gt ∈ (Hd.mk (some ⟨gt, 0, none⟩) nt ct).blk := by simp [blk_some]
  have hgc : ∀ g, L[q].hc.v.ownBlock = some g → g ≠ gt ∧ w3.heap.size ≤ g ∧ g < w4.heap.size := fun g h => by
    have hin : g ∈ L.flatMap OTab.blks := List.mem_flatMap.2 ⟨L[q], List.getElem_mem hqL, by unfold OTab.blks; simp [Hd.mem_blk.2 h]⟩
    exact ⟨fun e => nodup_disj (List.nodup_append.1 nd).2.1 hbq (by rw [← e]; exact hin), (ob.nth hqL).col.lt g h⟩
  have hz3 : w.heap.size + 3 ≤ w3.heap.size := by have := HA3'.out.size; have := HZ1.out; omega
  have hz4 := a4.size
  have HO := Lib.hid (show V.ownsRow w3.heap.size 40 3 (.slice L[q].hc.a L[q].cols.length L[q].hc.c) L[q].cols.length (L[q].cols.flatMap colC) by rw [← hcv]; exact (obV.nth hqL).col)
  have n1 : ¬ InV (.slice L[q].hc.a L[q].cols.length L[q].hc.c) gt := fun h => (hgc gt (by rw [hcv]; exact h)).1 rfl
  have n2 : ¬ InV (.slice L[q].hc.a L[q].cols.length L[q].hc.c) (w.heap.size + 1) := fun h => by have := (hgc _ (by rw [hcv]; exact h)).2.1; omega
  have n3 : ¬ InV (.slice L[q].hc.a L[q].cols.length L[q].hc.c) w4.heap.size := fun h => by have := (hgc _ (by rw [hcv]; exact h)).2.2; omega
  have n4 : ¬ InV (.slice L[q].hc.a L[q].cols.length L[q].hc.c) (w.heap.size + 1 + 1) := fun h => by have := (hgc _ (by rw [hcv]; exact h)).2.1; omega
  have v1 := rV.cell (j := 1) rfl
  have vz := rV.1
  have rcV := HBC''.out.aft (a4.trans aV)
  have g0 := rcV.cell (j := 0) rfl
  have g1 := rcV.cell (j := 1) rfl
  have g2 := rcV.cell (j := 2) rfl
  have gz := rcV.1
  have HAV := Lib.hid (HA3.out.trans (a4.trans aV))
  have HBV := Lib.hid (HB2.out.aft (HA3'.out.trans (a4.trans aV)))
  have HRV := Lib.hid rV
  have HOBV := Lib.hid obV
  have HCV := Lib.hid hcv
  have HCC := Lib.hid hcc
  have HL := Lib.hid hL
  have HTQ := Lib.hid htq
  have HGC := Lib.hid hgc
  have HY2 := Lib.hid (show w3.heap.size ≤ gt ∧ gt < w4.heap.size from ⟨hgb, by have := (ob.row rfl hqL).1; exact this⟩)
  obtain ⟨i0, hi0, hzz0, hzz1, hzz2⟩ := info_parts info2Col2
  have JI := Lib.hid hi0
  have JZ0 := Lib.hid hzz0
  have JZ1 := Lib.hid hzz1
  have JZ2 := Lib.hid hzz2
  have hll : L[q].cols.length < 8 := by rw [hcc]; omega
  clear hi0 hzz0 hzz1 hzz2 ob obV hcv hcc hL htq hgc nd hgt a4 aV rV rcV yf
  go_wp2_with fail
  rw [← hV]
  clear hV
  refine wp_region_reads 10 12 (fun w' => ∃ x : KLat (.slice L[q].hc.a L[q].cols.length L[q].hc.c) V, w' = klat (.slice L[q].hc.a L[q].cols.length L[q].hc.c) V x) (by kernel_rfl) (by kernel_rfl) (KL.aft (Aft.refl V).drew) ?_
  simp only [List.take_succ_cons, List.take_zero, List.drop_succ_cons, List.drop_zero]
  repeat (go_big_quiet_step (fail))
  refine wpQuiet_nil ?_
  refine wpChain_step (fun K hK => ?_)
  go_simp
  refine hK _ _ (fun _ => KL.aft (((Aft.refl V).alloc _).drew)) ?_
  clear hK K
  refine wpChain_step (fun K hK => ?_)
  refine wp_append_lies _ (.tmp 72) (.tmp 74) 31 rfl w3.heap.size 40 i0 _ 3 32 Try.underlying31 JI.out JZ0.out JZ1.out JZ2.out rfl (by decide) (.slice L[q].hc.a L[q].cols.length L[q].hc.c) L[q].cols.length (L[q].cols.flatMap colC) (by rfl) ((HO.out.alloc _).drew) ⟨V.heap.size, 0, none⟩ 1 1 [.string nm, .int .i64 kd, .bool true] (by rfl) (by rfl) (World.news_of_block (cs := #[.string nm, .int .i64 kd, .bool true]) (t := 40) (fr := (0, 0)) (heap_alloc_new V _)) (by simp [Value.oneCell']) (by omega) (by unfold maxLen; omega) (by omega) (by simp; omega) (V.heap.size + 1) (by simp) ?_
  intro gg cap' w5 hown5 hgrow hat hgl
  refine hK _ _ (fun _ => KL.of ((Kb.of_aft (((Aft.refl V).alloc _).drew)).trans (kb_in hgrow))) ?_
  clear hK K
  refine wpChain_list _ (by simp) (by decide) ?_
  have kw5 : Kb (InV (.slice L[q].hc.a L[q].cols.length L[q].hc.c)) V w5 := (Kb.of_aft (((Aft.refl V).alloc _).drew)).trans (kb_in hgrow)
  have d5 := kw5.cell d3 n1
  have f5 : w5.frozen? ⟨gt, q * 5 + 3, none⟩ = false := by
    have := kw5.block gt y1 n1
    rw [← f3]; simp [World.frozen?, this]
  have z5 := Nat.lt_of_lt_of_le y1 kw5.size
  have obA := HOBV.out.aft (((Aft.refl V).alloc (.cells #[.string nm, .int .i64 kd, .bool true] 40)).drew)
  have kbA : Kb (fun g => L[q].hc.v.ownBlock = some g) (V.alloc (.cells #[.string nm, .int .i64 kd, .bool true] 40)).drew w5 := by rw [HCV.out]; exact Kb.of_grown hgrow
  have ob5 := obA.newCols (hc' := ⟨some ⟨gg, 0, none⟩, L[q].cols.length + 1, cap'⟩) (cols' := L[q].cols ++ [⟨nm, kd, true⟩]) hqL rfl kbA (by rw [List.length_append, List.flatMap_append]; exact hown5) (fun g hg => by
    rw [blk_some, List.mem_singleton] at hg
    subst hg
    rcases hat with h1 | h1
    · exact .inl (Hd.mem_blk.2 (by rw [HCV.out]; exact h1))
    · refine .inr ?_
      simp
      omega)
  have HO5 := Lib.hid ob5
  have b5 := (Kb.set w5 gt (q * 5 + 3) (.slice (some ⟨gg, 0, none⟩) (L[q].cols.length + 1) cap')).row (kw5.row HBV.out n4) (fun e => by have : w.heap.size + 1 + 1 = gt := e; have := HY2.out.1; omega)
  have r5 := (Kb.set w5 gt (q * 5 + 3) (.slice (some ⟨gg, 0, none⟩) (L[q].cols.length + 1) cap')).row (kw5.row HRV.out n3) (fun e => by have : w4.heap.size = gt := e; have := HY2.out.2; omega)
  have a5 : Aft w (w5.setCell ⟨gt, q * 5 + 3, none⟩ (.slice (some ⟨gg, 0, none⟩) (L[q].cols.length + 1) cap')) := (kw5.to_aft HAV.out (fun g hg h => by have := (HGC.out g (by rw [HCV.out]; exact h)).2.1; omega)).setCell _ _ (show w.heap.size ≤ gt by have := HY2.out.1; omega)
  obtain ⟨F, hF⟩ : ∃ F, F = w5.setCell ⟨gt, q * 5 + 3, none⟩ (.slice (some ⟨gg, 0, none⟩) (L[q].cols.length + 1) cap') := ⟨_, rfl⟩
  have HF := Lib.hid hF
  clear hown5 hgrow hat hgl kw5 obA kbA ob5
  go_wp2_with fail
  refine NoPanic.normal ?_
  rw [← hF]
  rw [← hF] at b5 r5 a5
  have e0 := r5.cell (j := 0) rfl
  have e1 := r5.cell (j := 1) rfl
  have ez := r5.1
  have d0 := b5.cell (j := 0) rfl
  have d1 := b5.cell (j := 1) rfl
  have ff0 := b5.2.2 0 (by simp)
  have ff1 := b5.2.2 1 (by simp)
  have dz := b5.1
  have HB5 := Lib.hid b5
  have HA5 := Lib.hid a5
  clear b5 r5 a5 hF
  go_wp2_with fail
  refine bodyPost_ret (results_cell_tmp (v := .agg #[.slice hs.a o.schemas.length hs.c, .slice (some ⟨gt, 0, none⟩) o.tables.length ct]) rfl _ rfl (lvObj_row (setO_row HB5.out rfl _ _))) rfl ?_
  rw [HE.out]
  simp only [if_true]
  rw [HE2.out, HEF.out]
  simp only [Bool.not_true, Bool.or_self, Bool.false_eq_true, if_false, if_neg (show ¬ 0 ≤ j by have := HHJ.out; omega), if_neg (show ¬ 8 ≤ p.cols.length by have := HH8.out; omega), if_true]
  have ob6 := HO5.out
  rw [show (Hd.mk (some ⟨gg, 0, none⟩) (L[q].cols.length + 1) cap').v = .slice (some ⟨gg, 0, none⟩) (L[q].cols.length + 1) cap' from rfl, ← HF.out] at ob6
  refine objP_set (W := w3) HA5.out (L := L.set q { L[q] with cols := L[q].cols ++ [⟨nm, kd, true⟩], hc := ⟨some ⟨gg, 0, none⟩, L[q].cols.length + 1, cap'⟩ }) ?_ ob6 (by omega) (by omega) (by simp)
  rw [List.map_set, HL.out, ← HTQ.out]
  rfl
end Go.Proofs.Ytodifdofgjfkiaa
/- The document's DropColumn. -/
namespace Go.Proofs.Ytodifdofgjfkiaa
open Go.RowKit Go.Deep
set_option maxRecDepth 100000
set_option linter.unusedVariables false
theorem filter_erase {α : Type} {p : α → Bool} {l : List α} {q : Nat} (hq : q < l.length) (hp : p l[q] = true) (hu : ∀ k (hk : k < l.length), p l[k] = true → k = q) : l.filter (fun x => !p x) = l.eraseIdx q := by
  conv => lhs; rw [list_parts l q hq]
  rw [List.filter_append, List.filter_cons, List.eraseIdx_eq_take_drop_succ]
  simp only [hp, Bool.not_true, Bool.false_eq_true, if_false]
  congr 1
  · rw [List.filter_eq_self]
    intro x hx
    obtain ⟨i, hi, rfl⟩ := List.mem_take_iff_getElem.1 hx
    have hil : i < l.length := by omega
    cases h : p l[i]
    · rfl
    · have := hu i hil h; omega
  · rw [List.filter_eq_self]
    intro x hx
    obtain ⟨i, hi, rfl⟩ := List.mem_drop_iff_getElem.1 hx
    have hil : q + 1 + i < l.length := by omega
    cases h : p l[q + 1 + i]
    · rfl
    · have := hu (q + 1 + i) hil h; omega
theorem idx_at {α : Type} {p : α → Bool} {l : List α} {q : Nat} (h : idxP p l = q) : ∃ hq : q < l.length, p l[q] = true := by
  have hq : q < l.length := by have := (idxP_range p l).2; omega
  exact ⟨hq, idxP_at p l q hq h⟩
theorem cols_dist2 {l : List Col} (h : colsOk l = true) {k : Nat} (hk : k < l.length) {s : ByteArray} (hs : eqS l[k].name s = true) : colAt l s = k := by
  have h1 : (colOk l[k] && decide (idxP (fun d => eqS d.name l[k].name) (l.take k) < 0)) = true := by
    cases hc : (colOk l[k] && decide (idxP (fun d => eqS d.name l[k].name) (l.take k) < 0))
    · rw [colsOk_false l k hk hc] at h; cases h
    · rfl
  simp only [Bool.and_eq_true, decide_eq_true_eq] at h1
  have e : (fun d : Col => eqS d.name l[k].name) = fun d => eqS d.name s := by
    funext d
    unfold eqS at hs ⊢
    rw [eq_of_beq hs]
  rw [e] at h1
  exact idxP_hit (fun d => eqS d.name s) l k hk hs h1.2
theorem any_snoc {α : Type} {p : α → Bool} {l : List α} {k : Nat} (hk : k < l.length) : (l.take (k + 1)).any p = ((l.take k).any p || p l[k]) := by
  rw [List.take_succ_eq_append_getElem hk, List.any_append]; simp
theorem filter_snoc {α : Type} {p : α → Bool} {l : List α} {k : Nat} (hk : k < l.length) : (l.take (k + 1)).filter p = (l.take k).filter p ++ (if p l[k] then [l[k]] else []) := by
  rw [List.take_succ_eq_append_getElem hk, List.filter_append, List.filter_cons]; simp
theorem cols_erase {l : List Col} {s : ByteArray} {q : Nat} (hc : colsOk l = true) (h : colAt l s = q) : l.filter (fun c => !eqS c.name s) = l.eraseIdx q := by
  obtain ⟨hq, hp⟩ := idx_at h
  refine filter_erase (p := fun c : Col => eqS c.name s) hq hp fun k hk hk2 => ?_
  have := cols_dist2 hc hk hk2
  omega
theorem check_cols {o : Objs} (h : checkO o = true) {t : Tab} (ht : t ∈ o.tables) : colsOk t.cols = true := by
  unfold checkO at h
  simp only [Bool.and_eq_true, List.all_eq_true] at h
  have := h.2.2 t ht
  unfold rightT at this
  simp only [Bool.and_eq_true] at this
  exact this.1.1.1.2
def usedK (b : Bool) (p : Tab) (s : ByteArray) (k : Nat) : Bool := b || (p.rules.take k).any fun r => r.cols.any fun x => eqS x s
set_option maxHeartbeats 8000000 in
theorem rDropColumn_in (c0n : ByteArray) (o : Objs) (As : Option Addr) (caps : Nat) (At : Option Addr) (capt : Nat) (s n : ByteArray) (w : World) (hsch : SlAt w 2 SchR As caps o.schemas) (htab : SlAt w 5 TabR At capt o.tables) :
    Calls Try.prog 30 #[.agg #[.slice As o.schemas.length caps, .slice At o.tables.length capt], .string s, .string n, .string c0n] w (ObjP w (chgR o (tabR o s n (dropColF c0n)))) := by
  have hlen := hsch.len
  have hlen2 := htab.len
  have l1 : w.heap.size < w.heap.size + 1 := by omega
  have l2 : w.heap.size < w.heap.size + 1 + 1 := by omega
  obtain ⟨W, hW⟩ : ∃ W, W = (w.alloc (.cells #[.slice As o.schemas.length caps, .slice At o.tables.length capt] 25)).alloc (.cells #[.slice none 0 0, .slice none 0 0] 25) := ⟨_, rfl⟩
  have aW : Aft w W := by rw [hW]; exact ((Aft.refl w).alloc _).alloc _
  have r1 : RowAt W w.heap.size [.slice As o.schemas.length caps, .slice At o.tables.length capt] := by rw [hW]; exact (box_row2 (Aft.refl _)).aft ((Aft.refl _).alloc _)
  have r2 : RowAt W (w.heap.size + 1) [.slice none 0 0, .slice none 0 0] := by
    rw [hW]
    have := (box_row2 (w := w.alloc (.cells #[.slice As o.schemas.length caps, .slice At o.tables.length capt] 25)) (c := [.slice none 0 0, .slice none 0 0]) (t := 25) (Aft.refl _))
    simpa using this
  have zW : W.heap.size = w.heap.size + 2 := by rw [hW]; simp
  obtain ⟨c, hc⟩ : ∃ c, checkO o = c := ⟨_, rfl⟩
  obtain ⟨i, hi⟩ : ∃ i, tabAt o.tables s n = i := ⟨_, rfl⟩
  have hir : -1 ≤ i ∧ i < o.tables.length := by rw [← hi]; exact idxP_range _ _
  have CK := Lib.hid (show ∀ w', Aft w w' → Calls Try.prog 18 #[.agg #[.slice As o.schemas.length caps, .slice At o.tables.length capt]] w' fun e w'' => e = .returned (.bool c) ∧ Aft w' w'' from
    fun w' a => (rRight_any o As caps At capt w' (schs_aft a hsch) (tabs_aft a htab)).mono fun e w'' ⟨he, hw⟩ => ⟨he.trans (by rw [hc]), hw⟩)
  have CW := Lib.hid (show ∀ w', Aft w w' → Calls Try.prog 75 #[.agg #[.slice As o.schemas.length caps, .slice At o.tables.length capt], .string s, .string n] w' fun e w'' => e = .returned (.int .i64 i) ∧ Aft w' w'' from
    fun w' a => (rtab_any (.slice As o.schemas.length caps) At capt o.tables s n w' (tabs_aft a htab)).mono fun e w'' ⟨he, hw⟩ => ⟨he.trans (by rw [hi]), hw⟩)
  have CO := Lib.hid (show c = true → ∀ w', Aft w w' → _ from fun h w' a => rOwn_in o As caps At capt w' (schs_aft a hsch) (tabs_aft a htab) (check_mod (hc.trans h)))
  have HE := Lib.hid (show chgR o (tabR o s n (dropColF c0n)) = if c = true then tabR o s n (dropColF c0n) else (zeroO, 63) by unfold chgR; rw [hc])
  have HI := Lib.hid hi
  have HCK := Lib.hid hc
  have HAW := Lib.hid aW
  have HR1 := Lib.hid r1
  have HR2 := Lib.hid r2
  have HZ := Lib.hid zW
  have HT := Lib.hid htab
  clear hc hi hsch htab r1 r2 aW zW
  go_enter Try.func30, Try.ntmps30
  go_wp2_with fail
  rw [← hW]
  clear hW
  refine (CK.out W HAW.out).mono ?_
  rintro e w1 ⟨rfl, a1⟩
  have HB1 := Lib.hid (HR1.out.aft a1)
  have HB2 := Lib.hid (HR2.out.aft a1)
  have c0 := HB1.out.cell (j := 0) rfl
  have c1 := HB1.out.cell (j := 1) rfl
  have z1 := HB1.out.1
  have HA1 := Lib.hid (HAW.out.trans a1)
  have HZ1 := Lib.hid (show w.heap.size + 2 ≤ w1.heap.size by have := a1.size; have := HZ.out; omega)
  clear a1
  have NO := Lib.hid (show ∀ (c : Int) (w2 : World), Aft w1 w2 → Calls Try.prog 78 #[.int .i64 c] w2 fun e w' => e = .returned (.tuple #[.agg #[.slice none 0 0, .slice none 0 0], .int .i64 c]) ∧ Aft w w' ∧ RowAt w' (w.heap.size + 1) [.slice none 0 0, .slice none 0 0] from
    fun c w2 a => (rNo_in c w2).mono fun e w' ⟨he, hw⟩ => ⟨he, HA1.out.trans (a.trans hw), HB2.out.aft (a.trans hw)⟩)
  cases c
  · go_wp2_with fail
    refine (NO.out 63 w1 (Aft.refl _)).mono ?_
    rintro e w2 ⟨rfl, a2, b2⟩
    have d0 := b2.cell (j := 0) rfl
    have d1 := b2.cell (j := 1) rfl
    have f0 := b2.2.2 0 (by simp)
    have f1 := b2.2.2 1 (by simp)
    have z2 := b2.1
    have HA2 := Lib.hid a2
    have HB := Lib.hid b2
    clear a2 b2
    go_wp2_with fail
    refine bodyPost_ret (results_cell_tmp (v := .agg #[.slice none 0 0, .slice none 0 0]) rfl _ rfl (lvObj_row (setO_row HB.out rfl _ _))) rfl ?_
    rw [HE.out]
    exact objP_zset HA2.out (by omega)
  go_wp2_with fail
  refine (CW.out w1 HA1.out).mono ?_
  rintro e w2 ⟨rfl, a2⟩
  have HB1' := Lib.hid (HB1.out.aft a2)
  have c0 := HB1'.out.cell (j := 0) rfl
  have c1 := HB1'.out.cell (j := 1) rfl
  have z1 := HB1'.out.1
  have HA2 := Lib.hid (HA1.out.trans a2)
  have HA2' := Lib.hid a2
  clear a2
  by_cases h0 : 0 ≤ i
  case neg =>
    have hd : decide (i < 0) = true := by simp; omega
    have HH0 := Lib.hid h0
    go_wp2_with fail
    refine (NO.out 61 w2 HA2'.out).mono ?_
    rintro e w2 ⟨rfl, a2, b2⟩
    have d0 := b2.cell (j := 0) rfl
    have d1 := b2.cell (j := 1) rfl
    have f0 := b2.2.2 0 (by simp)
    have f1 := b2.2.2 1 (by simp)
    have z2 := b2.1
    have HA2 := Lib.hid a2
    have HB := Lib.hid b2
    clear a2 b2
    go_wp2_with fail
    refine bodyPost_ret (results_cell_tmp (v := .agg #[.slice none 0 0, .slice none 0 0]) rfl _ rfl (lvObj_row (setO_row HB.out rfl _ _))) rfl ?_
    rw [HE.out]
    simp only [if_true]
    rw [tabR_none (by rw [HI.out]; have := HH0.out; omega)]
    exact objP_zset HA2.out (by omega)
  obtain ⟨q, rfl⟩ := Int.eq_ofNat_of_zero_le h0
  have hq : q < o.tables.length := by omega
  have hd : decide ((q : Int) < 0) = false := by simp
  have HE2 := Lib.hid (tabR_some (f := dropColF c0n) HI.out hq)
  obtain ⟨b, off, A2, cap2, A3, cap3, rfl, hb, t0, t1, t2, t3, t4, hcols, hruls, hss⟩ := tab_at (tabs_aft HA2.out HT.out) hq
  obtain ⟨p, hp⟩ : ∃ p, o.tables[q] = p := ⟨_, rfl⟩
  rw [hp] at t0 t1 t2 t3 t4 hcols hruls HE2
  obtain ⟨j, hj⟩ : ∃ j, colAt p.cols c0n = j := ⟨_, rfl⟩
  have hjr : -1 ≤ j ∧ j < p.cols.length := by rw [← hj]; exact idxP_range _ _
  have HEF := Lib.hid (show dropColF c0n p = if j < 0 then (p, 61) else if usedC p c0n then (p, 62) else ({ p with cols := p.cols.eraseIdx j.toNat }, 0) by
    unfold dropColF; rw [hj])
  have HJ := Lib.hid hj
  have HCO := Lib.hid (check_cols HCK.out (t := p) (by rw [← hp]; exact List.getElem_mem hq))
  have CC := Lib.hid (show ∀ w', Aft w2 w' → Calls Try.prog 86 #[.slice A2 p.cols.length cap2, .string c0n] w' fun e w'' => e = .returned (.int .i64 j) ∧ w' = w'' from
    fun w' a => (rcol_any A2 cap2 p.cols c0n w' (cols_aft a hcols)).mono fun e w'' ⟨he, hw⟩ => ⟨he.trans (by rw [← hj]; rfl), hw⟩)
  have hcl := hcols.len
  have hrl := hruls.len
  have HP := Lib.hid hp
  have HCOL := Lib.hid hcols
  have HRUL := Lib.hid hruls
  clear hp hj hcols hruls hss h0 hir
  have hq0 : (0 : Int) ≤ (q : Int) := by omega
  have hq1 : (q : Int) < (o.tables.length : Int) := by omega
  by_cases hj0 : j < 0
  · have hdj : decide (j < 0) = true := by simpa using hj0
    have HHJ := Lib.hid hj0
    go_wp2_with (go_at_call 86; refine (CC.out _ (Aft.refl _)).mono ?_; rintro e w4 ⟨rfl, rfl⟩)
    refine (NO.out 61 w2 HA2'.out).mono ?_
    rintro e w2 ⟨rfl, a2, b2⟩
    have d0 := b2.cell (j := 0) rfl
    have d1 := b2.cell (j := 1) rfl
    have f0 := b2.2.2 0 (by simp)
    have f1 := b2.2.2 1 (by simp)
    have z2 := b2.1
    have HA2 := Lib.hid a2
    have HB := Lib.hid b2
    clear a2 b2
    go_wp2_with fail
    refine bodyPost_ret (results_cell_tmp (v := .agg #[.slice none 0 0, .slice none 0 0]) rfl _ rfl (lvObj_row (setO_row HB.out rfl _ _))) rfl ?_
    rw [HE.out]
    simp only [if_true]
    rw [HE2.out, HEF.out]
    simp only [if_pos (show j < 0 by have := HHJ.out; omega)]
    rw [if_neg (by simp)]
    exact objP_zset HA2.out (by omega)
  have hdj : decide (j < 0) = false := by simpa using hj0
  have HHJ := Lib.hid hj0
  clear hj0
  obtain ⟨V, hV⟩ : ∃ V, V = w2.alloc (.cells #[.string p.schema, .string p.name, .string p.owner, .slice A2 p.cols.length cap2, .slice A3 p.rules.length cap3] 34) := ⟨_, rfl⟩
  have aV : Aft w2 V := by rw [hV]; exact (Aft.refl _).alloc _
  have rV : RowAt V w2.heap.size [.string p.schema, .string p.name, .string p.owner, .slice A2 p.cols.length cap2, .slice A3 p.rules.length cap3] := by rw [hV]; exact box_row2 (Aft.refl _)
  have HRV := Lib.hid rV
  have HAV := Lib.hid (HA2.out.trans aV)
  have HAV1 := Lib.hid (HA2'.out.trans aV)
  have HRULV := Lib.hid (ruls_aft aV HRUL.out)
  have HCOLV := Lib.hid (cols_aft aV HCOL.out)
  have v3 := rV.cell (j := 3) rfl
  have v4 := rV.cell (j := 4) rfl
  have vz := rV.1
  have HAV2 := Lib.hid aV
  clear aV rV
  obtain ⟨b1, hb1⟩ : ∃ b1, ((p.cols.length : Int) == 1) = b1 := ⟨_, rfl⟩
  have HB1E := Lib.hid (show decide (p.cols.length = 1) = b1 by rw [← hb1, Bool.eq_iff_iff]; simp; omega)
  have HBE := Lib.hid hb1
  go_wp2_with (go_at_call 86; refine (CC.out _ (Aft.refl _)).mono ?_; rintro e w4 ⟨rfl, rfl⟩)
  rw [← hV]
  clear hV
  go_loop [12, 13] (fun u i => ∃ k : Nat, k ≤ p.rules.length ∧ i = .int .i64 k ∧ u = .bool (usedK b1 p c0n k)) (fun _ i => p.rules.length - (intOf i).toNat)
  case atStart => exact ⟨0, Nat.zero_le _, rfl, by unfold usedK; simp⟩
  case round =>
    obtain ⟨k, hk, rfl, rfl⟩ := hrel
    obtain ⟨u, hu⟩ : ∃ u, usedK b1 p c0n k = u := ⟨_, rfl⟩
    rw [hu]
    have HU := Lib.hid hu
    clear hu
    by_cases hlt : k < p.rules.length
    · obtain ⟨rb, roff, D, capD, hAr, hrb, e0, e1, e2, e3, e4, e5, e6, e7, hcs, hsm⟩ := rul_at HRULV.out hlt
      subst hAr
      have CI := Lib.hid (rin_any D capD p.rules[k].cols c0n V hcs)
      obtain ⟨v, hv⟩ : ∃ v, (p.rules[k].cols.any fun c => eqS c c0n) = v := ⟨_, rfl⟩
      rw [hv] at CI
      have HNEW := Lib.hid (show usedK b1 p c0n (k + 1) = (u || v) by rw [← HU.out, ← hv]; unfold usedK; rw [any_snoc hlt, ← Bool.or_assoc])
      clear hcs hsm hv
      cases u
      · go_wp2_with (go_at_call 92; refine CI.out.mono ?_; rintro e w4 ⟨rfl, rfl⟩)
        go_round
        case rel => exact ⟨k + 1, by omega, by go_num, by rw [HNEW.out]; simp⟩
        case measure => simp [intOf]; omega
      · go_wp2_with fail
        go_round
        case rel => exact ⟨k + 1, by omega, by go_num, by rw [HNEW.out]; simp⟩
        case measure => simp [intOf]; omega
    · have HUS := Lib.hid (show usedC p c0n = u by
        have h1 := HU.out
        unfold usedK at h1
        rw [List.take_of_length_le (by omega)] at h1
        unfold usedC
        rw [HB1E.out]; exact h1)
      cases u
      · have HB1'' := Lib.hid (HB1'.out.aft HAV2.out)
        have c0 := HB1''.out.cell (j := 0) rfl
        have c1 := HB1''.out.cell (j := 1) rfl
        have z1 := HB1''.out.1
        go_wp2_with fail
        refine (CO.out (by simp) V HAV.out).mono ?_
        rintro e w4 ⟨hs, ht, L, hL, rfl, a4, ob⟩
        have hLL : L.length = o.tables.length := by rw [← hL]; simp
        have hqL : q < L.length := by omega
        obtain ⟨gt, hgt, hgb, _⟩ := own_place ob.tab (by omega)
        obtain ⟨At', nt, ct⟩ := ht
        have hgt' : At' = some ⟨gt, 0, none⟩ := hgt
        subst hgt'
        obtain ⟨U, hU⟩ : ∃ U, U = w4.alloc (.cells #[.slice hs.a o.schemas.length hs.c, .slice (some ⟨gt, 0, none⟩) o.tables.length ct] 25) := ⟨_, rfl⟩
        have aU : Aft w4 U := by rw [hU]; exact (Aft.refl _).alloc _
        have rU : RowAt U w4.heap.size [.slice hs.a o.schemas.length hs.c, .slice (some ⟨gt, 0, none⟩) o.tables.length ct] := by rw [hU]; exact box_row2 (Aft.refl _)
        have obU := ob.aft aU
        have htq : L[q].t = p := by
          have : (L.map OTab.t)[q]'(by simpa using hqL) = o.tables[q] := by simp only [hL]
          rw [← HP.out]; simpa using this
        obtain ⟨y1, y2, yf⟩ := ob.row rfl hqL
        have HY := Lib.hid (show V.heap.size ≤ gt ∧ gt < w4.heap.size from ⟨y2, y1⟩)
        have HRU := Lib.hid rU
        have HOBU := Lib.hid obU
        have HL := Lib.hid hL
        have HTQ := Lib.hid htq
        have HLQ := Lib.hid hqL
        have HAU := Lib.hid (a4.trans aU)
        have HZU := Lib.hid (show w4.heap.size < U.heap.size from rU.1)
        have HZV := Lib.hid (show w.heap.size + 2 ≤ V.heap.size by have := HAV1.out.size; have := HZ1.out; omega)
        have HZ4 := Lib.hid (show V.heap.size ≤ w4.heap.size from a4.size)
        obtain ⟨i0, hi0, hzz0, hzz1, hzz2⟩ := info_parts info2Col2
        have JI := Lib.hid hi0
        have JZ0 := Lib.hid hzz0
        have JZ1 := Lib.hid hzz1
        have JZ2 := Lib.hid hzz2
        clear hi0 hzz0 hzz1 hzz2 ob obU hL htq hgt a4 aU rU yf y1 y2 hgb CO CK CW CC v3 v4 vz
        go_wp2_with fail
        rw [← hU]
        clear hU
        go_loopw [15, 16] (fun l i wr => ∃ (k : Nat) (Al : Option Addr) (cl : Nat), k ≤ p.cols.length ∧ i = .int .i64 k ∧ l = .slice Al ((p.cols.take k).filter fun c => !eqS c.name c0n).length cl ∧ Aft U wr ∧ wr.ownsRow U.heap.size 40 3 (.slice Al ((p.cols.take k).filter fun c => !eqS c.name c0n).length cl) ((p.cols.take k).filter fun c => !eqS c.name c0n).length (((p.cols.take k).filter fun c => !eqS c.name c0n).flatMap colC)) (fun _ i _ => p.cols.length - (intOf i).toNat)
        case atStart => exact ⟨0, none, 0, Nat.zero_le _, rfl, rfl, Aft.refl _, own_nil _ _ _ _⟩
        case round =>
          obtain ⟨k2, Al, cl, hk2, rfl, rfl, haU, hown⟩ := hrel
          have HAUR := Lib.hid haU
          have HOWN := Lib.hid hown
          have tb := HRV.out.aft (HAU.out.trans haU)
          have v3 := tb.cell (j := 3) rfl
          have vz := tb.1
          obtain ⟨lk0, hlk0⟩ : ∃ lk0, ((p.cols.take k2).filter fun c => !eqS c.name c0n) = lk0 := ⟨_, rfl⟩
          rw [hlk0] at HOWN
          have hlkl : lk0.length ≤ p.cols.length := by rw [← hlk0]; exact Nat.le_trans (List.length_filter_le _ _) (by rw [List.length_take]; omega)
          rw [hlk0]
          have HLK := Lib.hid hlk0
          clear hlk0 hown tb haU
          by_cases hlt2 : k2 < p.cols.length
          · obtain ⟨cb, coff, hAc, hcb, x0, x1, x2, hsm⟩ := col_at (cols_aft (HAU.out.trans HAUR.out) HCOLV.out) hlt2
            subst hAc
            obtain ⟨x, hx⟩ : ∃ x, eqS p.cols[k2].name c0n = x := ⟨_, rfl⟩
            have t1 : (p.cols[k2].name.toList == c0n.toList) = x := hx
            have t2 : (p.cols[k2].name.toList != c0n.toList) = !x := by rw [← hx]; rfl
            have HX := Lib.hid hx
            have HNF := Lib.hid (show ((p.cols.take (k2 + 1)).filter fun c => !eqS c.name c0n) = lk0 ++ (if !x then [p.cols[k2]] else []) by rw [filter_snoc hlt2, HLK.out, hx])
            clear hx hsm
            have l5 : w2.heap.size < wr.heap.size + 1 := by omega
            have l6 : cb < wr.heap.size + 1 := by omega
            cases x
            · have t3 : (p.cols[k2].name.toList = c0n.toList) = False := by simpa using t1
              have hq7 : lk0.length + 1 ≤ maxLen := by unfold maxLen; omega
              have hq8 : (lk0.length + 1) * 32 ≤ 140737488355328 := by have := HCO.out; have := (show p.cols.length ≤ 8 by unfold colsOk at this; simp only [Bool.and_eq_true, decide_eq_true_eq] at this; exact this.1.2); omega
              go_wp2_with (at_builtin; go_must (refine wpList_append_lies _ rfl _ _ 31 rfl U.heap.size 40 i0 _ 3 32 Try.underlying31 JI.out JZ0.out JZ1.out JZ2.out rfl (by decide) (.slice Al lk0.length cl) lk0.length (lk0.flatMap colC) rfl (HOWN.out.alloc _) ⟨wr.heap.size, 0, none⟩ 1 1 [.string p.cols[k2].name, .int .i64 p.cols[k2].kind, .bool p.cols[k2].null] rfl rfl ?qn (by simp [Value.oneCell']) (by omega) hq7 hq8 ?qb (wr.heap.size + 1) (by simp) ?_); rotate_left 2; intro gg cap' w5 hown5 hgrow hat hgl)
              case qn => exact World.news_of_block (cs := #[.string p.cols[k2].name, .int .i64 p.cols[k2].kind, .bool p.cols[k2].null]) (t := 40) (fr := (0, 0)) (heap_alloc_new wr _)
              case qb => have := HAUR.out.size; simp; omega
              have HA5 := Lib.hid (show Aft U w5 from aft_grown (HOWN.out.alloc _) (HAUR.out.alloc _) hgrow)
              have HO5 := Lib.hid hown5
              clear hown5 hgrow hat hgl
              go_wp2_with fail
              go_roundw
              case rel =>
                refine ⟨k2 + 1, some ⟨gg, 0, none⟩, cap', by omega, by go_num, ?_, HA5.out, ?_⟩
                · rw [HNF.out]; simp
                · rw [HNF.out]
                  simp only [Bool.not_false, if_true, List.length_append, List.length_singleton, List.flatMap_append]
                  simpa [colC] using HO5.out
              case measure => simp [intOf]; omega
            · have t3 : (p.cols[k2].name.toList = c0n.toList) = True := by simpa using t1
              go_wp2_with fail
              go_roundw
              case rel =>
                refine ⟨k2 + 1, Al, cl, by omega, by go_num, ?_, HAUR.out, ?_⟩
                · rw [HNF.out]; simp
                · rw [HNF.out]; simpa using HOWN.out
              case measure => simp [intOf]; omega
          · have HLF := Lib.hid (show lk0 = p.cols.eraseIdx j.toNat by
              rw [← HLK.out, List.take_of_length_le (by omega)]
              exact cols_erase HCO.out (by rw [HJ.out]; have := HHJ.out; omega))
            have obR := HOBU.out.aft HAUR.out
            have own6 : wr.ownsRow V.heap.size 40 3 (Hd.mk Al lk0.length cl).v lk0.length (lk0.flatMap colC) := own_down HOWN.out (by have := HAU.out.size; omega)
            have ob6 := HOBU.out.newCols (w5 := wr) (hc' := ⟨Al, lk0.length, cl⟩) (cols' := lk0) HLQ.out rfl (Kb.of_aft HAUR.out) own6 (fun g hg => .inr (HOWN.out.lt g (Hd.mem_blk.1 hg)).1)
            have e3 : wr.cell? ⟨gt, q * 5 + 3, none⟩ = some L[q].hc.v := obR.cell rfl HLQ.out (by decide)
            obtain ⟨y1, y2, yf⟩ := obR.row rfl HLQ.out
            have f3 := yf 3 (by decide)
            have ru := HRU.out.aft HAUR.out
            have u1 := ru.cell (j := 1) rfl
            have uz := ru.1
            have bb := HB2.out.aft (HAV1.out.trans (HAU.out.trans HAUR.out))
            have kk := Kb.set wr gt (q * 5 + 3) (.slice Al lk0.length cl)
            have b7 := kk.row bb (fun e => by have : w.heap.size + 1 = gt := e; have := HY.out.1; have := HZV.out; omega)
            have r7 := kk.row ru (fun e => by have : w4.heap.size = gt := e; have := HY.out.2; omega)
            have a7 : Aft w (wr.setCell ⟨gt, q * 5 + 3, none⟩ (.slice Al lk0.length cl)) := (HAV.out.trans (HAU.out.trans HAUR.out)).setCell _ _ (show w.heap.size ≤ gt by have := HY.out.1; have := HZV.out; omega)
            obtain ⟨F, hF⟩ : ∃ F, F = wr.setCell ⟨gt, q * 5 + 3, none⟩ (.slice Al lk0.length cl) := ⟨_, rfl⟩
            rw [← hF] at b7 r7 a7
            have HO6 := Lib.hid (show ObjIn F V.heap.size hs ⟨some ⟨gt, 0, none⟩, nt, ct⟩ o.schemas (L.set q { L[q] with cols := lk0, hc := ⟨Al, lk0.length, cl⟩ }) by rw [hF]; exact ob6)
            have HB7 := Lib.hid b7
            have HR7 := Lib.hid r7
            have HA7 := Lib.hid a7
            have e0 := r7.cell (j := 0) rfl
            have e1 := r7.cell (j := 1) rfl
            have ez := r7.1
            have d0 := b7.cell (j := 0) rfl
            have d1 := b7.cell (j := 1) rfl
            have ff0 := b7.2.2 0 (by simp)
            have ff1 := b7.2.2 1 (by simp)
            have dz := b7.1
            have hq1 : (q : Int) < (o.tables.length : Int) := by omega
            clear obR own6 ob6 yf ru bb kk b7 r7 a7
            have HF := Lib.hid hF
            clear hF e0 e1 ez d0 d1 ff0 ff1 dz
            go_wp2_with fail
            rw [← HF.out]
            rw [show Sem.run Try.prog (lvObj ⟨w4.heap.size, 0, none⟩) F = .ok (.agg #[.slice hs.a o.schemas.length hs.c, .slice (some ⟨gt, 0, none⟩) o.tables.length ct]) F from lvObj_row HR7.out]
            simp only [Result.andThen]
            rw [Oper.upon_value]
            have d0 := HB7.out.cell (j := 0) rfl
            have d1 := HB7.out.cell (j := 1) rfl
            have ff0 := HB7.out.2.2 0 (by simp)
            have ff1 := HB7.out.2.2 1 (by simp)
            have dz := HB7.out.1
            go_wp2_with fail
            (try simp only [Exit.inBlock, Exit.then])
            refine bodyPost_ret (results_cell_tmp (v := .agg #[.slice hs.a o.schemas.length hs.c, .slice (some ⟨gt, 0, none⟩) o.tables.length ct]) rfl _ rfl (lvObj_row (setO_row HB7.out rfl _ _))) rfl ?_
            rw [HE.out]
            simp only [if_true]
            rw [HE2.out, HEF.out]
            simp only [if_neg (show ¬ j < 0 by have := HHJ.out; omega), HUS.out, Bool.false_eq_true, if_false, if_true]
            refine objP_set (W := V) HA7.out (L := L.set q { L[q] with cols := lk0, hc := ⟨Al, lk0.length, cl⟩ }) ?_ HO6.out (by omega) (by have := HZV.out; omega) (by simp)
            rw [List.map_set, HL.out, HLF.out, ← HTQ.out]
            rfl
      · go_wp2_with fail
        refine (NO.out 62 V HAV1.out).mono ?_
        rintro e w2 ⟨rfl, a2, b2⟩
        have d0 := b2.cell (j := 0) rfl
        have d1 := b2.cell (j := 1) rfl
        have f0 := b2.2.2 0 (by simp)
        have f1 := b2.2.2 1 (by simp)
        have z2 := b2.1
        have HA2 := Lib.hid a2
        have HB := Lib.hid b2
        clear a2 b2
        go_wp2_with fail
        refine bodyPost_ret (results_cell_tmp (v := .agg #[.slice none 0 0, .slice none 0 0]) rfl _ rfl (lvObj_row (setO_row HB.out rfl _ _))) rfl ?_
        rw [HE.out]
        simp only [if_true]
        rw [HE2.out, HEF.out]
        simp only [if_neg (show ¬ j < 0 by have := HHJ.out; omega), HUS.out, if_true]
        rw [if_neg (by simp)]
        exact objP_zset HA2.out (by omega)
end Go.Proofs.Ytodifdofgjfkiaa
/- The law ObjectsColumns, walked. -/
namespace Go.Proofs.Ytodifdofgjfkiaa
open Go.RowKit Go.Deep
set_option maxRecDepth 100000
set_option linter.unusedVariables false
theorem ex_add : chgR oneO (tabR oneO ⟨#[115]⟩ ⟨#[116]⟩ (addColF ⟨⟨#[122]⟩, 2, true⟩)) = ((⟨oneO.schemas, [{ (oneO.tables[0]'(by decide)) with cols := (oneO.tables[0]'(by decide)).cols ++ [⟨⟨#[122]⟩, 2, true⟩] }]⟩ : Objs), (0 : Int)) := by
  have h : addColF ⟨⟨#[122]⟩, 2, true⟩ (oneO.tables[0]'(by decide)) = ({ (oneO.tables[0]'(by decide)) with cols := (oneO.tables[0]'(by decide)).cols ++ [⟨⟨#[122]⟩, 2, true⟩] }, 0) := by
    unfold addColF
    rw [if_neg (by decide +kernel), if_neg (by decide +kernel), if_neg (by decide +kernel)]
  rw [chg_one, h]; rfl
theorem ex_drop1 : chgR oneO (tabR oneO ⟨#[115]⟩ ⟨#[116]⟩ (dropColF ⟨#[120]⟩)) = (zeroO, (62 : Int)) := by
  have h : dropColF ⟨#[120]⟩ (oneO.tables[0]'(by decide)) = ((oneO.tables[0]'(by decide)), 62) := by
    unfold dropColF
    rw [if_neg (by decide +kernel), if_pos (by decide +kernel)]
  rw [chg_one, h]; rfl
theorem ex_drop2 : chgR oneO (tabR oneO ⟨#[115]⟩ ⟨#[116]⟩ (dropColF ⟨#[121]⟩)) = ((⟨oneO.schemas, [{ (oneO.tables[0]'(by decide)) with cols := (oneO.tables[0]'(by decide)).cols.eraseIdx 1 }]⟩ : Objs), (0 : Int)) := by
  have e : (colAt (oneO.tables[0]'(by decide)).cols ⟨#[121]⟩).toNat = 1 := by decide +kernel
  have h : dropColF ⟨#[121]⟩ (oneO.tables[0]'(by decide)) = ({ (oneO.tables[0]'(by decide)) with cols := (oneO.tables[0]'(by decide)).cols.eraseIdx 1 }, 0) := by
    unfold dropColF
    rw [if_neg (by decide +kernel), if_neg (by decide +kernel), e]
  rw [chg_one, h]; rfl
theorem small1 (b : UInt8) : Small (ByteArray.size ⟨#[b]⟩) := by simp [Small, ByteArray.size]
set_option maxHeartbeats 4000000 in
theorem columns_any (w : World) : Calls Try.prog 31 #[] w fun e w' => e = .returned (.bool true) ∧ Aft w w' := by
  have CA := Lib.hid (show ∀ (As : Option Addr) (caps : Nat) (At : Option Addr) (capt : Nat) (w' : World), SlAt w' 2 SchR As caps oneO.schemas → SlAt w' 5 TabR At capt oneO.tables → Calls Try.prog 27 #[.agg #[.slice As 1 caps, .slice At 1 capt], .string ⟨#[115]⟩, .string ⟨#[116]⟩, .agg #[.string ⟨#[122]⟩, .int .i64 2, .bool true]] w' (OneP w' 1 { (oneO.tables[0]'(by decide)) with cols := (oneO.tables[0]'(by decide)).cols ++ [⟨⟨#[122]⟩, 2, true⟩] } 0) from
    fun As caps At capt w' h1 h2 => (addColumn_in ⟨#[122]⟩ 2 true oneO As caps At capt ⟨#[115]⟩ ⟨#[116]⟩ w' h1 h2 (small1 _)).mono fun e w'' h => objP_one (by rw [ex_add] at h; exact h) rfl)
  have CD1 := Lib.hid (show ∀ (As : Option Addr) (caps : Nat) (At : Option Addr) (capt : Nat) (w' : World), SlAt w' 2 SchR As caps oneO.schemas → SlAt w' 5 TabR At capt oneO.tables → Calls Try.prog 29 #[.agg #[.slice As 1 caps, .slice At 1 capt], .string ⟨#[115]⟩, .string ⟨#[116]⟩, .string ⟨#[120]⟩] w' (ErrP w' 62) from
    fun As caps At capt w' h1 h2 => (dropColumn_in ⟨#[120]⟩ oneO As caps At capt ⟨#[115]⟩ ⟨#[116]⟩ w' h1 h2).mono fun e w'' h => objP_err (by rw [ex_drop1] at h; exact h))
  have CD2 := Lib.hid (show ∀ (As : Option Addr) (caps : Nat) (At : Option Addr) (capt : Nat) (w' : World), SlAt w' 2 SchR As caps oneO.schemas → SlAt w' 5 TabR At capt oneO.tables → Calls Try.prog 29 #[.agg #[.slice As 1 caps, .slice At 1 capt], .string ⟨#[115]⟩, .string ⟨#[116]⟩, .string ⟨#[121]⟩] w' (OneP w' 1 { (oneO.tables[0]'(by decide)) with cols := (oneO.tables[0]'(by decide)).cols.eraseIdx 1 } 0) from
    fun As caps At capt w' h1 h2 => (dropColumn_in ⟨#[121]⟩ oneO As caps At capt ⟨#[115]⟩ ⟨#[116]⟩ w' h1 h2).mono fun e w'' h => objP_one (by rw [ex_drop2] at h; exact h) rfl)
  go_enter Try.func31, Try.ntmps31
  go_wp2_with fail
  refine (one_any _).mono ?_
  rintro e w1 ⟨As, caps, At, capt, rfl, a1, h1, h2⟩
  have C1 := Lib.hid (CA.out As caps At capt w1 h1 h2)
  have HA1 := Lib.hid a1
  clear a1 h1 h2 CA
  go_wp2_with fail
  refine C1.out.mono ?_
  rintro e w2 ⟨S1, cS1, gt1, ct1, A1, cA1, A2, cA2, rfl, a2, z1, x0, x1, x3, x4⟩
  have x3 : w2.cell? ⟨gt1, 3, none⟩ = some (.slice A1 3 cA1) := x3
  have HA2 := Lib.hid (HA1.out.trans a2)
  clear a2 C1 x0 x1 x4
  go_wp2_with fail
  refine (one_any _).mono ?_
  rintro e w3 ⟨As, caps, At, capt, rfl, a3, h1, h2⟩
  have rb := box_row2 (c := [.slice S1 1 cS1, .slice (some ⟨gt1, 0, none⟩) 1 ct1]) a3
  have a23 := ((Aft.refl w2).alloc _).trans a3
  have x3 := a23.cell_kept x3
  have z1 := Nat.lt_of_lt_of_le z1 a23.size
  have C2 := Lib.hid (CD1.out As caps At capt w3 h1 h2)
  have HA3 := Lib.hid (HA2.out.trans a23)
  have HB := Lib.hid rb
  clear a3 h1 h2 CD1 rb a23
  go_wp2_with fail
  refine C2.out.mono ?_
  rintro e w4 ⟨S2, cS2, T2, cT2, rfl, a4⟩
  have x3 := a4.cell_kept x3
  have z1 := Nat.lt_of_lt_of_le z1 a4.size
  have HA4 := Lib.hid (HA3.out.trans a4)
  have HB4 := Lib.hid (HB.out.aft a4)
  clear a4 C2
  go_wp2_with fail
  refine (one_any _).mono ?_
  rintro e w5 ⟨As, caps, At, capt, rfl, a5, h1, h2⟩
  have a45 := ((Aft.refl w4).alloc _).trans a5
  have x3 := a45.cell_kept x3
  have z1 := Nat.lt_of_lt_of_le z1 a45.size
  have C3 := Lib.hid (CD2.out As caps At capt w5 h1 h2)
  have HA5 := Lib.hid (HA4.out.trans a45)
  have HB5 := Lib.hid (HB4.out.aft a45)
  clear a5 h1 h2 CD2 a45
  go_wp2_with fail
  refine C3.out.mono ?_
  rintro e w6 ⟨S3, cS3, gt3, ct3, A3, cA3, A4, cA4, rfl, a6, z3, y0, y1, y3, y4⟩
  have y3 : w6.cell? ⟨gt3, 3, none⟩ = some (.slice A3 1 cA3) := y3
  have x3 := a6.cell_kept x3
  have z1 := Nat.lt_of_lt_of_le z1 a6.size
  have HA6 := Lib.hid (HA5.out.trans a6)
  have rb := HB5.out.aft a6
  have b0 := rb.cell (j := 0) rfl
  have b1 := rb.cell (j := 1) rfl
  have bz := rb.1
  have l1 : gt1 < w6.heap.size + 1 := by omega
  have l3 : gt3 < w6.heap.size + 1 := by omega
  have l4 : w2.heap.size < w6.heap.size + 1 := by omega
  clear a6 C3 y0 y1 y4 rb
  go_wp2_with fail
  go_ret
  exact ⟨rfl, HA6.out.alloc _⟩
end Go.Proofs.Ytodifdofgjfkiaa
/- The law ObjectsColumns. -/
namespace Go.Proofs.Ytodifdofgjfkiaa
open Go.RowKit Go.Deep
set_option maxRecDepth 100000
set_option linter.unusedVariables false
theorem smT_cols {t : Tab} {l : List Col} (h : SmT t) (h1 : Small (l.length * 16)) (h2 : ∀ c ∈ l, Small c.name.size) : SmT { t with cols := l } := ⟨⟨h1, h2⟩, h.2.1, h.2.2.1, h.2.2.2.1, h.2.2.2.2⟩
theorem smT_addCol {t : Tab} {nm : ByteArray} {kd : Int} {nl : Bool} (h : SmT t) (hc : Small nm.size) (hz : (addColF ⟨nm, kd, nl⟩ t).2 = 0) : SmT (addColF ⟨nm, kd, nl⟩ t).1 := by
  unfold addColF at hz ⊢
  split at hz
  · exact absurd hz (by simp)
  · split at hz
    · exact absurd hz (by simp)
    · split at hz
      · exact absurd hz (by simp)
      · rename_i h1 h2 h3
        rw [if_neg h1, if_neg h2, if_neg h3]
        refine smT_cols h (by simp [Small]; omega) fun c hm => ?_
        rcases List.mem_append.1 hm with hm | hm
        · exact h.1.2 c hm
        · rw [List.mem_singleton] at hm; subst hm; exact hc
theorem smT_dropCol {t : Tab} {nm : ByteArray} (h : SmT t) : SmT (dropColF nm t).1 := by
  unfold dropColF
  split
  · exact h
  · split
    · exact h
    · exact smT_cols h (Nat.le_trans (Nat.mul_le_mul_right _ (List.length_eraseIdx_le _ _)) h.1.1) fun c hm => h.1.2 c (List.mem_of_mem_eraseIdx hm)
set_option maxHeartbeats 16000000 in
theorem law_columns (o : Objs) (s n nm : ByteArray) (kd : Int) (nl : Bool) (As : Option Addr) (caps : Nat) (At : Option Addr) (capt : Nat) (w : World) (hsch : SlAt w 2 SchR As caps o.schemas) (htab : SlAt w 5 TabR At capt o.tables) (hc : Small nm.size) :
    Calls Try.prog 5 #[.agg #[.slice As o.schemas.length caps, .slice At o.tables.length capt], .string s, .string n, .agg #[.string nm, .int .i64 kd, .bool nl]] w
      fun e w' => e = .returned (.bool true) ∧ Aft w w' := by
  have sm : SmO o := ⟨sm_schs hsch, sm_tabs htab⟩
  have CL := Lib.hid (show ∀ w', Aft w w' → _ from fun w' a => large_mod o As caps At capt w' (schs_aft a hsch) (tabs_aft a htab))
  obtain ⟨⟨X, g⟩, hXr⟩ : ∃ fr, chgR o (tabR o s n (addColF ⟨nm, kd, nl⟩)) = fr := ⟨_, rfl⟩
  obtain ⟨⟨Y, h⟩, hYr⟩ : ∃ fr, chgR o (tabR o s n (dropColF nm)) = fr := ⟨_, rfl⟩
  have HSX := Lib.hid (show SmO X by have : SmO (chgR o (tabR o s n (addColF ⟨nm, kd, nl⟩))).1 := smO_chg (smO_tabR sm fun t ht hz => smT_addCol (sm.2.2 t ht) hc hz); rw [hXr] at this; exact this)
  have HSY := Lib.hid (show SmO Y by have : SmO (chgR o (tabR o s n (dropColF nm))).1 := smO_chg (smO_tabR sm fun t ht hz => smT_dropCol (sm.2.2 t ht)); rw [hYr] at this; exact this)
  have C1 := Lib.hid (show ∀ w', Aft w w' → Calls Try.prog 27 #[.agg #[.slice As o.schemas.length caps, .slice At o.tables.length capt], .string s, .string n, .agg #[.string nm, .int .i64 kd, .bool nl]] w' (ObjP w' (X, g)) from fun w' a => hXr ▸ addColumn_in nm kd nl o As caps At capt s n w' (schs_aft a hsch) (tabs_aft a htab) hc)
  have D1 := Lib.hid (show ∀ (A : Option Addr) (ca : Nat) (A2 : Option Addr) (ca2 : Nat) (w' : World), Aft w w' → SlAt w' 2 SchR A ca o.schemas → SlAt w' 5 TabR A2 ca2 o.tables → Calls Try.prog 28 #[.agg #[.slice A o.schemas.length ca, .slice A2 o.tables.length ca2], .string s, .string n, .agg #[.string nm, .int .i64 kd, .bool nl]] w' (ObjP w' (X, g)) from fun A ca A2 ca2 w' a h1 h2 => hXr ▸ rAddColumn_in nm kd nl o A ca A2 ca2 s n w' h1 h2 hc)
  have C2 := Lib.hid (show ∀ w', Aft w w' → Calls Try.prog 29 #[.agg #[.slice As o.schemas.length caps, .slice At o.tables.length capt], .string s, .string n, .string nm] w' (ObjP w' (Y, h)) from fun w' a => hYr ▸ dropColumn_in nm o As caps At capt s n w' (schs_aft a hsch) (tabs_aft a htab))
  have D2 := Lib.hid (show ∀ (A : Option Addr) (ca : Nat) (A2 : Option Addr) (ca2 : Nat) (w' : World), Aft w w' → SlAt w' 2 SchR A ca o.schemas → SlAt w' 5 TabR A2 ca2 o.tables → Calls Try.prog 30 #[.agg #[.slice A o.schemas.length ca, .slice A2 o.tables.length ca2], .string s, .string n, .string nm] w' (ObjP w' (Y, h)) from fun A ca A2 ca2 w' a h1 h2 => hYr ▸ rDropColumn_in nm o A ca A2 ca2 s n w' h1 h2)
  have HS := Lib.hid hsch
  have HT := Lib.hid htab
  obtain ⟨W, hW⟩ : ∃ W, W = (w.alloc (.cells #[.slice As o.schemas.length caps, .slice At o.tables.length capt] 25)).alloc (.cells #[.string nm, .int .i64 kd, .bool nl] 40) := ⟨_, rfl⟩
  have aW : Aft w W := by rw [hW]; exact ((Aft.refl w).alloc _).alloc _
  have HRO := Lib.hid (show RowAt W w.heap.size [.slice As o.schemas.length caps, .slice At o.tables.length capt] by rw [hW]; exact (box_row2 (Aft.refl _)).aft ((Aft.refl _).alloc _))
  have HR0 := Lib.hid (show RowAt W (w.heap.size + 1) [.string nm, .int .i64 kd, .bool nl] by
    rw [hW]
    have := (box_row2 (w := w.alloc (.cells #[.slice As o.schemas.length caps, .slice At o.tables.length capt] 25)) (c := [.string nm, .int .i64 kd, .bool nl]) (t := 40) (Aft.refl _)).aft (Aft.refl _)
    simpa using this)
  have l1 : w.heap.size < w.heap.size + 1 := by omega
  have l2 : w.heap.size < w.heap.size + 1 + 1 := by omega
  have l3 : w.heap.size < w.heap.size + 1 + 1 + 1 := by omega
  have HAW := Lib.hid aW
  clear sm hsch htab hXr hYr aW hc
  go_enter Try.func5, Try.ntmps5
  go_wp2_with fail
  rw [← hW]
  clear hW
  refine (CL.out W HAW.out).mono ?_
  rintro e w1 ⟨b, rfl, hmod, a1⟩
  have HA1 := Lib.hid a1
  clear a1 CL
  cases b
  case true =>
    go_wp2_with fail
    go_ret
    exact ⟨rfl, HAW.out.trans HA1.out⟩
  have HM := Lib.hid (hmod rfl)
  clear hmod
  have q00 := (HR0.out.aft HA1.out).cell (j := 0) rfl
  have q01 := (HR0.out.aft HA1.out).cell (j := 1) rfl
  have q02 := (HR0.out.aft HA1.out).cell (j := 2) rfl
  have q0z := (HR0.out.aft HA1.out).1
  have c0 := (HRO.out.aft HA1.out).cell (j := 0) rfl
  have c1 := (HRO.out.aft HA1.out).cell (j := 1) rfl
  have cz := (HRO.out.aft HA1.out).1
  go_wp2_with fail
  refine (rOwn_in o As caps At capt w1 (schs_aft (HAW.out.trans HA1.out) HS.out) (tabs_aft (HAW.out.trans HA1.out) HT.out) HM.out).mono ?_
  rintro e w2 ⟨hs, ht, L, hL, rfl, a2, ob⟩
  have e1 : objOf o.schemas L = o := by unfold objOf; rw [hL]
  have HF1 := Lib.hid (ob.schs (by rw [e1]; exact ⟨sm_schs HS.out, sm_tabs HT.out⟩))
  have HF2 := Lib.hid (show SlAt w2 5 TabR ht.a ht.c o.tables by have := ob.tabs (by rw [e1]; exact ⟨sm_schs HS.out, sm_tabs HT.out⟩); rw [hL] at this; exact this)
  obtain ⟨hsa, hsn, hsc⟩ := hs
  obtain ⟨hta, htn, htc⟩ := ht
  obtain ⟨W2, hW2⟩ : ∃ W2, W2 = w2.alloc (.cells #[.slice hsa o.schemas.length hsc, .slice hta o.tables.length htc] 25) := ⟨_, rfl⟩
  have aW2 : Aft w2 W2 := by rw [hW2]; exact (Aft.refl _).alloc _
  have HBO := Lib.hid (show RowAt W2 w2.heap.size [.slice hsa o.schemas.length hsc, .slice hta o.tables.length htc] by rw [hW2]; exact box_row2 (Aft.refl _))
  have HA2 := Lib.hid (HA1.out.trans (a2.trans aW2))
  have HG1 := Lib.hid (schs_aft aW2 HF1.out)
  have HG2 := Lib.hid (tabs_aft aW2 HF2.out)
  have HAw2 := Lib.hid (HA1.out.trans a2)
  have q00 := (HR0.out.aft HAw2.out).cell (j := 0) rfl
  have q01 := (HR0.out.aft HAw2.out).cell (j := 1) rfl
  have q02 := (HR0.out.aft HAw2.out).cell (j := 2) rfl
  have q0z := (HR0.out.aft HAw2.out).1
  have c0 := (HRO.out.aft HAw2.out).cell (j := 0) rfl
  have c1 := (HRO.out.aft HAw2.out).cell (j := 1) rfl
  have cz := (HRO.out.aft HAw2.out).1
  clear a2 ob hL e1 HF1 HF2 aW2
  have cp : w.heap.size < w2.heap.size + 1 := by omega
  have q0p : w.heap.size + 1 < w2.heap.size + 1 := by omega
  go_wp2_with fail
  rw [← hW2]
  clear hW2
  refine (C1.out W2 (HAW.out.trans HA2.out)).mono ?_
  rintro e w3 ⟨hs3, ht3, L3, hL3, rfl, a3, ob3⟩
  (try dsimp only)
  obtain ⟨W3, hW3⟩ : ∃ W3, W3 = w3.alloc (.cells #[.slice hs3.a X.schemas.length hs3.c, .slice ht3.a X.tables.length ht3.c] 25) := ⟨_, rfl⟩
  have aW3 : Aft w3 W3 := by rw [hW3]; exact (Aft.refl _).alloc _
  have HB3 := Lib.hid (show RowAt W3 w3.heap.size [.slice hs3.a X.schemas.length hs3.c, .slice ht3.a X.tables.length ht3.c] by rw [hW3]; exact box_row2 (Aft.refl _))
  have HA3 := Lib.hid (a3.trans aW3)
  have HO3 := Lib.hid (ob3.aft aW3)
  have HL3 := Lib.hid (show L3.map OTab.t = X.tables from hL3)
  have HLT3 := Lib.hid ob3.lt
  have HZ3 := Lib.hid aW3.size
  have HAA3 := Lib.hid ((Aft.refl W2).trans a3)
  have bo := HBO.out.aft HAA3.out
  have o0 := bo.cell (j := 0) rfl
  have o1 := bo.cell (j := 1) rfl
  have oz := bo.1
  have oz' : w2.heap.size < w3.heap.size + 1 := by omega
  have HAC := Lib.hid (HA2.out.trans HAA3.out)
  have q00 := (HR0.out.aft HAC.out).cell (j := 0) rfl
  have q01 := (HR0.out.aft HAC.out).cell (j := 1) rfl
  have q02 := (HR0.out.aft HAC.out).cell (j := 2) rfl
  have q0z := (HR0.out.aft HAC.out).1
  have c0 := (HRO.out.aft HAC.out).cell (j := 0) rfl
  have c1 := (HRO.out.aft HAC.out).cell (j := 1) rfl
  have cz := (HRO.out.aft HAC.out).1
  have cp : w.heap.size < w3.heap.size + 1 := by omega
  have q0p : w.heap.size + 1 < w3.heap.size + 1 := by omega
  clear a3 aW3 ob3 hL3 bo
  go_wp2_with fail
  rw [← hW3]
  clear hW3
  refine (D1.out _ _ _ _ W3 (HAW.out.trans (HA2.out.trans HA3.out)) (schs_aft HA3.out HG1.out) (tabs_aft HA3.out HG2.out)).mono ?_
  rintro e w4 ⟨hs4, ht4, L4, hL4, rfl, a4, ob4⟩
  (try dsimp only)
  obtain ⟨W4, hW4⟩ : ∃ W4, W4 = w4.alloc (.cells #[.slice hs4.a X.schemas.length hs4.c, .slice ht4.a X.tables.length ht4.c] 25) := ⟨_, rfl⟩
  have aW4 : Aft w4 W4 := by rw [hW4]; exact (Aft.refl _).alloc _
  have HB4 := Lib.hid (show RowAt W4 w4.heap.size [.slice hs4.a X.schemas.length hs4.c, .slice ht4.a X.tables.length ht4.c] by rw [hW4]; exact box_row2 (Aft.refl _))
  have HA4 := Lib.hid (a4.trans aW4)
  have HO4 := Lib.hid (ob4.aft aW4)
  have HL4 := Lib.hid (show L4.map OTab.t = X.tables from hL4)
  have HLT4 := Lib.hid ob4.lt
  have HZ4 := Lib.hid aW4.size
  have HAA4 := Lib.hid (HA3.out.trans a4)
  clear HAC
  have HAC := Lib.hid (HA2.out.trans HAA4.out)
  have q00 := (HR0.out.aft HAC.out).cell (j := 0) rfl
  have q01 := (HR0.out.aft HAC.out).cell (j := 1) rfl
  have q02 := (HR0.out.aft HAC.out).cell (j := 2) rfl
  have q0z := (HR0.out.aft HAC.out).1
  have c0 := (HRO.out.aft HAC.out).cell (j := 0) rfl
  have c1 := (HRO.out.aft HAC.out).cell (j := 1) rfl
  have cz := (HRO.out.aft HAC.out).1
  have cp : w.heap.size < w4.heap.size + 1 := by omega
  have q0p : w.heap.size + 1 < w4.heap.size + 1 := by omega
  clear a4 aW4 ob4 hL4
  go_wp2_with fail
  rw [← hW4]
  clear hW4
  refine (C2.out W4 (HAW.out.trans (HA2.out.trans (HA3.out.trans HA4.out)))).mono ?_
  rintro e w5 ⟨hs5, ht5, L5, hL5, rfl, a5, ob5⟩
  (try dsimp only)
  obtain ⟨W5, hW5⟩ : ∃ W5, W5 = w5.alloc (.cells #[.slice hs5.a Y.schemas.length hs5.c, .slice ht5.a Y.tables.length ht5.c] 25) := ⟨_, rfl⟩
  have aW5 : Aft w5 W5 := by rw [hW5]; exact (Aft.refl _).alloc _
  have HB5 := Lib.hid (show RowAt W5 w5.heap.size [.slice hs5.a Y.schemas.length hs5.c, .slice ht5.a Y.tables.length ht5.c] by rw [hW5]; exact box_row2 (Aft.refl _))
  have HA5 := Lib.hid (a5.trans aW5)
  have HO5 := Lib.hid (ob5.aft aW5)
  have HL5 := Lib.hid (show L5.map OTab.t = Y.tables from hL5)
  have HLT5 := Lib.hid ob5.lt
  have HZ5 := Lib.hid aW5.size
  have HAA5 := Lib.hid ((HA3.out.trans HA4.out).trans a5)
  have bo := HBO.out.aft HAA5.out
  have o0 := bo.cell (j := 0) rfl
  have o1 := bo.cell (j := 1) rfl
  have oz := bo.1
  have oz' : w2.heap.size < w5.heap.size + 1 := by omega
  clear HAC
  have HAC := Lib.hid (HA2.out.trans HAA5.out)
  have q00 := (HR0.out.aft HAC.out).cell (j := 0) rfl
  have q01 := (HR0.out.aft HAC.out).cell (j := 1) rfl
  have q02 := (HR0.out.aft HAC.out).cell (j := 2) rfl
  have q0z := (HR0.out.aft HAC.out).1
  have c0 := (HRO.out.aft HAC.out).cell (j := 0) rfl
  have c1 := (HRO.out.aft HAC.out).cell (j := 1) rfl
  have cz := (HRO.out.aft HAC.out).1
  have cp : w.heap.size < w5.heap.size + 1 := by omega
  have q0p : w.heap.size + 1 < w5.heap.size + 1 := by omega
  have HZW45 := Lib.hid a5.size
  clear a5 aW5 ob5 hL5 bo
  go_wp2_with fail
  rw [← hW5]
  clear hW5
  refine (D2.out _ _ _ _ W5 (HAW.out.trans (HA2.out.trans (HA3.out.trans (HA4.out.trans HA5.out)))) (schs_aft (HA3.out.trans (HA4.out.trans HA5.out)) HG1.out) (tabs_aft (HA3.out.trans (HA4.out.trans HA5.out)) HG2.out)).mono ?_
  rintro e w6 ⟨hs6, ht6, L6, hL6, rfl, a6, ob6⟩
  (try dsimp only)
  obtain ⟨W6, hW6⟩ : ∃ W6, W6 = w6.alloc (.cells #[.slice hs6.a Y.schemas.length hs6.c, .slice ht6.a Y.tables.length ht6.c] 25) := ⟨_, rfl⟩
  have aW6 : Aft w6 W6 := by rw [hW6]; exact (Aft.refl _).alloc _
  have HB6 := Lib.hid (show RowAt W6 w6.heap.size [.slice hs6.a Y.schemas.length hs6.c, .slice ht6.a Y.tables.length ht6.c] by rw [hW6]; exact box_row2 (Aft.refl _))
  have HA6 := Lib.hid (a6.trans aW6)
  have HO6 := Lib.hid (ob6.aft aW6)
  have HL6 := Lib.hid (show L6.map OTab.t = Y.tables from hL6)
  have HLT6 := Lib.hid ob6.lt
  have HZ6 := Lib.hid aW6.size
  have HAA6 := Lib.hid ((HA3.out.trans (HA4.out.trans HA5.out)).trans a6)
  have HZW56 := Lib.hid (show W5.heap.size ≤ w6.heap.size from a6.size)
  clear a6 aW6 ob6 hL6 HAC
  go_wp2_with fail
  rw [← hW6]
  clear hW6
  refine (columns_any W6).mono ?_
  rintro e w7 ⟨rfl, a7⟩
  have A67 := HA6.out.trans a7
  have A57 := HA5.out.trans A67
  have A47 := HA4.out.trans A57
  have A37 := HA3.out.trans A47
  have O3 := HO3.out.aft A47
  have O4 := HO4.out.aft A57
  have O5 := HO5.out.aft A67
  have O6 := HO6.out.aft a7
  have zz3 : W2.heap.size ≤ w3.heap.size := HAA3.out.size
  have zz4 : w3.heap.size ≤ W3.heap.size := HZ3.out
  have zz5 : W3.heap.size ≤ W4.heap.size := HA4.out.size
  have zz6 : W4.heap.size ≤ W5.heap.size := HA5.out.size
  have zz7 : w5.heap.size ≤ W5.heap.size := HZ5.out
  have zz8 : W5.heap.size ≤ w7.heap.size := A67.size
  have zz9 : W4.heap.size ≤ w5.heap.size := HZW45.out
  have HT1 := Lib.hid (told2_in (X, g) o As caps At capt hsa hsc hta htc hs3 ht3 hs4 ht4 L3 L4 W2 w7 W2.heap.size w3.heap.size W3.heap.size HSX.out HL3.out O3 (fun g hg => (HLT3.out g hg).2) (by omega) HL4.out O4 (Nat.le_refl _) A37 (schs_aft (HAW.out.trans HA2.out) HS.out) (tabs_aft (HAW.out.trans HA2.out) HT.out) HG1.out HG2.out)
  have b3 := HB3.out.aft A47
  have b4 := HB4.out.aft A57
  have b5 := HB5.out.aft A67
  have b6 := HB6.out.aft a7
  have bo := HBO.out.aft A37
  have br := HRO.out.aft (HA2.out.trans A37)
  have HALL := Lib.hid (show ∀ v : World, Kb (fun k => W2.heap.size ≤ k ∧ k < w3.heap.size) w7 v → Aft W2 v → RowAt v w5.heap.size [.slice hs5.a Y.schemas.length hs5.c, .slice ht5.a Y.tables.length ht5.c] ∧ RowAt v w6.heap.size [.slice hs6.a Y.schemas.length hs6.c, .slice ht6.a Y.tables.length ht6.c] ∧ RowAt v w2.heap.size [.slice hsa o.schemas.length hsc, .slice hta o.tables.length htc] ∧ RowAt v w.heap.size [.slice As o.schemas.length caps, .slice At o.tables.length capt] ∧ Calls Try.prog 26 #[.agg #[.slice hs5.a Y.schemas.length hs5.c, .slice ht5.a Y.tables.length ht5.c], .int .i64 h, .agg #[.slice hs6.a Y.schemas.length hs6.c, .slice ht6.a Y.tables.length ht6.c], .int .i64 h, .agg #[.slice As o.schemas.length caps, .slice At o.tables.length capt], .agg #[.slice hsa o.schemas.length hsc, .slice hta o.tables.length htc]] v fun e' w' => e' = .returned (.bool true) ∧ Kb (fun k => W4.heap.size ≤ k ∧ k < w5.heap.size) v w' ∧ Aft W2 w' from fun v kb av => by
    have O5v := O5.kb kb (fun g hg hk => by have := (O5.lt g hg).1; omega)
    have O6v := O6.kb kb (fun g hg hk => by have := (O6.lt g hg).1; omega)
    refine ⟨kb.row b5 (by omega), kb.row b6 (by have := HZW56.out; omega), HBO.out.aft av, HRO.out.aft (HA2.out.trans av), ?_⟩
    exact told2_in (Y, h) o As caps At capt hsa hsc hta htc hs5 ht5 hs6 ht6 L5 L6 W2 v W4.heap.size w5.heap.size W5.heap.size HSY.out HL5.out O5v (fun g hg => (HLT5.out g hg).2) (by have := kb.size; omega) HL6.out O6v (by omega) av (schs_aft (HAW.out.trans HA2.out) HS.out) (tabs_aft (HAW.out.trans HA2.out) HT.out) HG1.out HG2.out)
  have p0 := b3.cell (j := 0) rfl
  have p1 := b3.cell (j := 1) rfl
  have p2 := b3.1
  have p3 := b4.cell (j := 0) rfl
  have p4 := b4.cell (j := 1) rfl
  have p5 := b4.1
  have o0 := bo.cell (j := 0) rfl
  have o1 := bo.cell (j := 1) rfl
  have oz := bo.1
  have c0 := br.cell (j := 0) rfl
  have c1 := br.cell (j := 1) rfl
  have cz := br.1
  clear a7 A67 A57 A47 A37 O3 O4 O5 O6 b3 b4 b5 b6 bo br
  go_wp2_with fail
  refine HT1.out.mono ?_
  rintro e w8 ⟨rfl, k8, a8⟩
  obtain ⟨r5, r6, ro, rr, ct⟩ := HALL.out w8 k8 a8
  have CT := Lib.hid ct
  have p0 := r5.cell (j := 0) rfl
  have p1 := r5.cell (j := 1) rfl
  have p2 := r5.1
  have p3 := r6.cell (j := 0) rfl
  have p4 := r6.cell (j := 1) rfl
  have p5 := r6.1
  have o0 := ro.cell (j := 0) rfl
  have o1 := ro.cell (j := 1) rfl
  have oz := ro.1
  have c0 := rr.cell (j := 0) rfl
  have c1 := rr.cell (j := 1) rfl
  have cz := rr.1
  clear k8 a8 r5 r6 ro rr ct HT1 HALL
  go_wp2_with fail
  refine CT.out.mono ?_
  rintro e w9 ⟨rfl, _, a9⟩
  have HA9 := Lib.hid (HAW.out.trans (HA2.out.trans a9))
  clear a9 CT
  go_wp2_with fail
  go_ret
  exact ⟨rfl, HA9.out⟩
end Go.Proofs.Ytodifdofgjfkiaa
/- From a walk of a law (it returns true and keeps what was there, whatever its arguments read as) to the law's row. -/
namespace Go.Proofs.Ytodifdofgjfkiaa
open Go.ChangeShapes Go.WideShapes Go.ChangeAt Go.RowKit

section
variable {H : Type} {enc : TypeId × Value → H} {P : Program} {w : World}

/-- an argument that reads -/
def RdV (enc : TypeId × Value → H) (P : Program) (w : World) (t : TypeId) (v : Value) : Prop :=
  Rd enc P w t v.cells.toList ∧ ∃ base, Value.okWide P w .any base t v

theorem RdV.struct {t : TypeId} {fs : Array Field} {v : Value} (ht : P.underlying t = some (.struct fs)) (h : RdV enc P w t v) : ∃ cs : List Value, v = .agg cs.toArray ∧ Rd enc P w t cs := by
  obtain ⟨h1, base, h2⟩ := h
  obtain ⟨cs, rfl, _⟩ := okWide_struct ht h2
  exact ⟨cs.toList, by simp, h1⟩
theorem cell_of_cells {v x : Value} (h : v.cells.toList = [x]) (hn : ∀ cs, v ≠ .agg cs) : v = x := by
  cases v <;> simp [Value.cells] at h <;> first | exact h | exact absurd rfl (hn _)
theorem okWide_not_agg {t : TypeId} {v : Value} {base : Nat} {d : TypeDesc} (ht : P.underlying t = some d) (hd : (∀ fs, d ≠ .struct fs) ∧ (∀ n e, d ≠ .array n e)) (h : Value.okWide P w .any base t v) : ∀ cs, v ≠ .agg cs := by
  intro cs e
  subst e
  unfold Value.okWide at h
  rw [ht] at h
  cases d <;> simp_all [Cell.okWide, Cell.ok]
theorem RdV.string {t : TypeId} {v : Value} (ht : P.underlying t = some .string) (h : RdV enc P w t v) : ∃ s : ByteArray, v = .string s ∧ Small s.size := by
  obtain ⟨h1, base, h2⟩ := h
  obtain ⟨s, hc, hs⟩ := h1.string ht
  exact ⟨s, cell_of_cells hc (okWide_not_agg ht (by simp) h2), hs⟩
theorem RdV.int {t : TypeId} {k : IntKind} {v : Value} (ht : P.underlying t = some (.int k)) (h : RdV enc P w t v) : ∃ n : Int, v = .int k n ∧ (Lit.int k n).wf = true := by
  obtain ⟨h1, base, h2⟩ := h
  obtain ⟨s, hc, hs⟩ := h1.int ht
  exact ⟨s, cell_of_cells hc (okWide_not_agg ht (by simp) h2), hs⟩
theorem RdV.slice {t e : TypeId} {v : Value} (ht : P.underlying t = some (.slice e)) (h : RdV enc P w t v) : Rd enc P w t [v] := by
  obtain ⟨h1, base, h2⟩ := h
  have hn := okWide_not_agg ht (by simp) h2
  have : v.cells.toList = [v] := by cases v <;> first | rfl | exact absurd rfl (hn _)
  rwa [this] at h1

theorem trodAll_rd : ∀ {ts : List TypeId} {vs : List Value} {ds : List (DataW H)} {p : List MemPlace}, DataW.TrodAll enc P w 0 (fun _ => true) true ts vs ds p → (∀ n ∈ DataW.weightsEach P ts ds, n ≤ 140737488351232) →
    vs.length = ts.length ∧ ds.length = ts.length ∧ ∀ (j : Nat) (t : TypeId) (v : Value), ts[j]? = some t → vs[j]? = some v → Rd enc P w t v.cells.toList
  | [], vs, ds, p, h, _ => by
    cases vs <;> cases ds <;> simp [DataW.TrodAll] at h
    exact ⟨rfl, rfl, fun j t v ht => by simp at ht⟩
  | t :: ts, vs, ds, p, h, hw => by
    obtain ⟨v, vs', d, ds', p1, q1, rfl, rfl, rfl, ⟨fuel, h1⟩, h2⟩ := trodAll_cons h
    simp only [DataW.weightsEach, List.mem_append] at hw
    obtain ⟨l1, l2, ih⟩ := trodAll_rd h2 (fun n hn => hw n (.inr hn))
    refine ⟨by simp [l1], by simp [l2], fun j t' v' ht hv => ?_⟩
    cases j with
    | zero =>
      simp at ht hv
      subst ht; subst hv
      exact ⟨fuel, _, h1, fun n hn => hw n (.inl hn)⟩
    | succ j => exact ih j t' v' (by simpa using ht) (by simpa using hv)
theorem trodAll_below {W W' : World} (hl : laidOutB P = true) (hb : Below W.heap.size W W') : ∀ {ts : List TypeId} {vs : List Value} {ds : List (DataW H)} {p : List MemPlace}, (∀ t ∈ ts, P.readableRec t = true ∧ t < P.types.size) →
    DataW.TrodAll enc P W 0 (fun _ => true) true ts vs ds p → DataW.TrodAll enc P W' 0 (fun b => decide (b < W.heap.size)) true ts vs ds p
  | [], vs, ds, p, _, h => by
    cases vs <;> cases ds <;> simp [DataW.TrodAll] at h ⊢
    exact h
  | t :: ts, vs, ds, p, ht, h => by
    obtain ⟨v, vs', d, ds', p1, q1, rfl, rfl, rfl, h1, h2⟩ := trodAll_cons h
    have lt0 : ∀ x ∈ p1, x.block < W.heap.size := by obtain ⟨m, hm⟩ := h1; exact DataW.trod_lt m _ _ _ hm
    exact trodAll_cons_mk (Below.trod hl (ht t (by simp)).1 (ht t (by simp)).2 h1 hb lt0) (trodAll_below hl hb (fun x hx => ht x (by simp [hx])) h2)
end

theorem law_lifted {C : Checked} {os : Os} {f : FuncId} {fn : Func} {s : ChangeSpec} {tb : TypeId} (H : Type) (enc : TypeId × Value → H)
    (own : ownKnob C.prog.godebug = none) (started : os.Started) (noInit : C.prog.inits.idxOf? f = none) (hfn : C.prog.funcs[f]? = some fn)
    (witness : ∃ (w : World) (tape : Tape) (i : Input), w.os = os ∧ (w.forCall tape i).Shaped C.prog ∧ i.vars = [] ∧ Input.okWide C.prog (w.forCall tape i) .any w.heap.size f i ∧
      s.pre6 enc C.prog fn [] false (w.forCall tape i).memory i.args ∧ ({} : Assume).holds C.prog (lone (Frame.enter C.prog f i.args .normal) [] (w.forCall tape i)))
    (hvars : s.vars = []) (hres : fn.resultTypes = #[tb]) (htb : C.prog.underlying tb = some .bool)
    (hspec : ∀ ds : List (DataW H), ds.length = fn.params.size → s.fn H ds = { results := [.lit (.bool true)], args := ds })
    (laid : laidOutB C.prog = true) (hty : ∀ t ∈ fn.params.toList, C.prog.readableRec t = true ∧ t < C.prog.types.size)
    (walk : ∀ (W : World) (vs : List Value), vs.length = fn.params.size → (∀ (j : Nat) (t : TypeId) (v : Value), fn.params[j]? = some t → vs[j]? = some v → RdV enc C.prog W t v) → Calls C.prog f vs.toArray W fun e w' => e = .returned (.bool true) ∧ Aft W w') :
    ReturnsInHanded {} C os f .any (s.pre6 enc C.prog fn [] false) (s.post enc C.prog fn false true false false) := by
  refine returnsInHanded_of_change_sized own started noInit hfn witness ?_
  intro W base args ds gs before hval hW _ hsz _
  have hW' := hW
  obtain ⟨p, q, hA, hV, rfl, _, _⟩ := hW
  rw [hvars] at hV
  obtain ⟨rfl, rfl⟩ := trodVars_none hV
  have hw : ∀ n ∈ DataW.weightsEach C.prog fn.params.toList ds, n ≤ 140737488351232 := by
    have e : s.plain.varTypes C.prog = [] := by
      simp [ChangeSpec.plain, hvars, DataSpec.varTypes]
    rw [e, List.append_nil, List.append_nil] at hsz
    intro n hn
    have := List.all_eq_true.1 hsz n hn
    have h2 : n ≤ reachBytes := by simpa using this
    exact h2
  obtain ⟨l1, l2, hrd⟩ := trodAll_rd hA hw
  have hlen : args.toList.length = fn.params.size := by simpa using l1
  refine ((walk W args.toList hlen fun j t v ht hv => ⟨hrd j t v (by simpa using ht) hv, base, hval j t v ht (by simpa using hv)⟩)).mono fun e W' ⟨he, haft⟩ => ?_
  subst he
  have hs := hspec ds (by simpa using l2)
  refine ⟨_, rfl, ds, [], p ++ [], [], p, [], hW', ?_, ?_, ?_, ?_, fun h => by cases h⟩
  · rw [List.append_nil, hs, hres]
    exact trodAll_mk1 (shut_bool htb _)
  · rw [List.append_nil, hs]
    exact trodAll_below laid haft hty hA
  · rw [List.append_nil, hs, hvars]
    rfl
  · exact haft.frame _
end Go.Proofs.Ytodifdofgjfkiaa
/- How objects, tables, rules, columns, schemas read as arguments. -/
namespace Go.Proofs.Ytodifdofgjfkiaa
open Go.ChangeShapes Go.WideShapes Go.ChangeAt Go.RowKit
set_option maxRecDepth 100000
set_option linter.unusedVariables false
section
variable {H : Type} {enc : TypeId × Value → H} {w : World}
theorem rd_str {cs : List Value} (h : Rd enc Try.prog w 9 cs) : ∃ x, StrR w cs x := by
  obtain ⟨s, e, z⟩ := h.string Try.underlying9
  exact ⟨s, e, z⟩
theorem rd_strs {cs : List Value} (h : Rd enc Try.prog w 64 cs) : ∃ l, SlOf w 1 StrR cs l :=
  Rd.slice Try.underlying64 (by kernel_rfl : Try.prog.cellsOf 9 = 1) (by decide) (of_decide_eq_true (by kernel_rfl)) (fun _ h => rd_str h) h
theorem rd_col {cs : List Value} (h : Rd enc Try.prog w 40 cs) : ∃ x, ColR w cs x := by
  obtain ⟨hl, _⟩ := h.struct Try.underlying40
  rw [show Try.prog.cellsOf 40 = 3 by kernel_rfl] at hl
  match cs, hl with
  | [c0, c1, c2], _ =>
    have f0 := h.field Try.underlying40 0 9 0 1 rfl (by kernel_rfl)
    have f1 := h.field Try.underlying40 1 38 1 1 rfl (by kernel_rfl)
    have f2 := h.field Try.underlying40 2 4 2 1 rfl (by kernel_rfl)
    clear h
    obtain ⟨x0, e0, z0⟩ := f0.string Try.underlying9
    obtain ⟨x1, e1, _⟩ := f1.int Try.underlying38
    obtain ⟨x2, e2⟩ := f2.bool Try.underlying4
    simp at e0 e1 e2
    subst e0 e1 e2
    exact ⟨⟨x0, x1, x2⟩, rfl, z0⟩
theorem rd_cols {cs : List Value} (h : Rd enc Try.prog w 31 cs) : ∃ l, SlOf w 3 ColR cs l :=
  Rd.slice Try.underlying31 (by kernel_rfl : Try.prog.cellsOf 40 = 3) (by decide) (of_decide_eq_true (by kernel_rfl)) (fun _ h => rd_col h) h
theorem rd_rule {cs : List Value} (h : Rd enc Try.prog w 66 cs) : ∃ x, RulR w cs x := by
  obtain ⟨hl, _⟩ := h.struct Try.underlying66
  rw [show Try.prog.cellsOf 66 = 8 by kernel_rfl] at hl
  match cs, hl with
  | [c0, c1, c2, c3, c4, c5, c6, c7], _ =>
    have f0 := h.field Try.underlying66 0 9 0 1 rfl (by kernel_rfl)
    have f1 := h.field Try.underlying66 1 63 1 1 rfl (by kernel_rfl)
    have f2 := h.field Try.underlying66 2 64 2 1 rfl (by kernel_rfl)
    have f3 := h.field Try.underlying66 3 3 3 1 rfl (by kernel_rfl)
    have f4 := h.field Try.underlying66 4 3 4 1 rfl (by kernel_rfl)
    have f5 := h.field Try.underlying66 5 9 5 1 rfl (by kernel_rfl)
    have f6 := h.field Try.underlying66 6 9 6 1 rfl (by kernel_rfl)
    have f7 := h.field Try.underlying66 7 9 7 1 rfl (by kernel_rfl)
    clear h
    obtain ⟨x0, e0, z0⟩ := f0.string Try.underlying9
    obtain ⟨x1, e1, _⟩ := f1.int Try.underlying63
    obtain ⟨x2, A2, cap2, e2, z2⟩ := rd_strs f2
    obtain ⟨x3, e3, _⟩ := f3.int Try.underlying3
    obtain ⟨x4, e4, _⟩ := f4.int Try.underlying3
    obtain ⟨x5, e5, z5⟩ := f5.string Try.underlying9
    obtain ⟨x6, e6, z6⟩ := f6.string Try.underlying9
    obtain ⟨x7, e7, z7⟩ := f7.string Try.underlying9
    simp at e0 e1 e2 e3 e4 e5 e6 e7
    subst e0 e1 e2 e3 e4 e5 e6 e7
    exact ⟨⟨x0, x1, x2, x3, x4, x5, x6, x7⟩, A2, cap2, rfl, z2, z0, z5, z6, z7⟩
theorem rd_rules {cs : List Value} (h : Rd enc Try.prog w 32 cs) : ∃ l, SlOf w 8 RulR cs l :=
  Rd.slice Try.underlying32 (by kernel_rfl : Try.prog.cellsOf 66 = 8) (by decide) (of_decide_eq_true (by kernel_rfl)) (fun _ h => rd_rule h) h
theorem rd_tab {cs : List Value} (h : Rd enc Try.prog w 34 cs) : ∃ x, TabR w cs x := by
  obtain ⟨hl, _⟩ := h.struct Try.underlying34
  rw [show Try.prog.cellsOf 34 = 5 by kernel_rfl] at hl
  match cs, hl with
  | [c0, c1, c2, c3, c4], _ =>
    have f0 := h.field Try.underlying34 0 9 0 1 rfl (by kernel_rfl)
    have f1 := h.field Try.underlying34 1 9 1 1 rfl (by kernel_rfl)
    have f2 := h.field Try.underlying34 2 9 2 1 rfl (by kernel_rfl)
    have f3 := h.field Try.underlying34 3 31 3 1 rfl (by kernel_rfl)
    have f4 := h.field Try.underlying34 4 32 4 1 rfl (by kernel_rfl)
    clear h
    obtain ⟨x0, e0, z0⟩ := f0.string Try.underlying9
    obtain ⟨x1, e1, z1⟩ := f1.string Try.underlying9
    obtain ⟨x2, e2, z2⟩ := f2.string Try.underlying9
    obtain ⟨x3, A3, cap3, e3, z3⟩ := rd_cols f3
    obtain ⟨x4, A4, cap4, e4, z4⟩ := rd_rules f4
    simp at e0 e1 e2 e3 e4
    subst e0 e1 e2 e3 e4
    exact ⟨⟨x0, x1, x2, x3, x4⟩, A3, cap3, A4, cap4, rfl, z3, z4, z0, z1, z2⟩
theorem rd_tabs {cs : List Value} (h : Rd enc Try.prog w 23 cs) : ∃ l, SlOf w 5 TabR cs l :=
  Rd.slice Try.underlying23 (by kernel_rfl : Try.prog.cellsOf 34 = 5) (by decide) (of_decide_eq_true (by kernel_rfl)) (fun _ h => rd_tab h) h
theorem rd_sch {cs : List Value} (h : Rd enc Try.prog w 84 cs) : ∃ x, SchR w cs x := by
  obtain ⟨hl, _⟩ := h.struct Try.underlying84
  rw [show Try.prog.cellsOf 84 = 2 by kernel_rfl] at hl
  match cs, hl with
  | [c0, c1], _ =>
    have f0 := h.field Try.underlying84 0 9 0 1 rfl (by kernel_rfl)
    have f1 := h.field Try.underlying84 1 9 1 1 rfl (by kernel_rfl)
    clear h
    obtain ⟨x0, e0, z0⟩ := f0.string Try.underlying9
    obtain ⟨x1, e1, z1⟩ := f1.string Try.underlying9
    simp at e0 e1
    subst e0 e1
    exact ⟨⟨x0, x1⟩, rfl, z0, z1⟩
theorem rd_schs {cs : List Value} (h : Rd enc Try.prog w 22 cs) : ∃ l, SlOf w 2 SchR cs l :=
  Rd.slice Try.underlying22 (by kernel_rfl : Try.prog.cellsOf 84 = 2) (by decide) (of_decide_eq_true (by kernel_rfl)) (fun _ h => rd_sch h) h
theorem rd_objs {cs : List Value} (h : Rd enc Try.prog w 25 cs) : ∃ x, ObjR w cs x := by
  obtain ⟨hl, _⟩ := h.struct Try.underlying25
  rw [show Try.prog.cellsOf 25 = 2 by kernel_rfl] at hl
  match cs, hl with
  | [c0, c1], _ =>
    have f0 := h.field Try.underlying25 0 22 0 1 rfl (by kernel_rfl)
    have f1 := h.field Try.underlying25 1 23 1 1 rfl (by kernel_rfl)
    clear h
    obtain ⟨x0, A0, cap0, e0, z0⟩ := rd_schs f0
    obtain ⟨x1, A1, cap1, e1, z1⟩ := rd_tabs f1
    simp at e0 e1
    subst e0 e1
    exact ⟨⟨x0, x1⟩, A0, cap0, A1, cap1, rfl, z0, z1⟩
theorem own_knob : ownKnob Try.prog.godebug = none := by kernel_rfl
theorem laid_out : laidOutB Try.prog = true := by kernel_rfl
end
end Go.Proofs.Ytodifdofgjfkiaa
