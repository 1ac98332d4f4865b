/- Contracts of the program, part 32. -/
import Derived.Test.YticjnndhpfdajaaGreatPart16
import Derived.Test.YticjnndhpfdajaaGreatPart23
import Derived.Test.YticjnndhpfdajaaGreatPart20
import Derived.Test.YticjnndhpfdajaaGreatPart17
import Derived.Test.YticjnndhpfdajaaGreatPart31
/- Columns are added and dropped: objects.AddColumn, DropColumn and the document's. -/
namespace Go.Proofs.YticjnndhpfdajaaGreat
open Go.RowKit Go.Deep
set_option maxRecDepth 100000
set_option linter.unusedVariables false
/-- the columns of the table q lie in another row now, or the same row holds others -/
theorem ObjIn.newCols {w w5 : World} {B gt q : Nat} {hs ht hc' : Hd} {ss : List Sch} {L : List OTab} {cols' : List Col} (ob : ObjIn w B hs ht ss L) (hq : q < L.length) (hgt : ht.a = some ⟨gt, 0, none⟩)
    (kb : Kb (fun g => L[q].hc.v.ownBlock = some g) w w5) (ho : w5.ownsRow B 41 3 hc'.v cols'.length (cols'.flatMap colC)) (hb : ∀ g ∈ hc'.blk, g ∈ L[q].hc.blk ∨ w.heap.size ≤ g) :
    ObjIn (w5.setCell ⟨gt, q * 5 + 3, none⟩ hc'.v) B hs ht ss (L.set q { L[q] with cols := cols', hc := hc' }) := by
  have nd := ob.nd
  have nd0 := nd_assoc.1 nd
  have hqin : ∀ g, L[q].hc.v.ownBlock = some g → g ∈ L[q].blks := fun g h => by unfold OTab.blks; simp [Hd.mem_blk.2 h]
  have hflat : ∀ g, g ∈ L[q].blks → g ∈ L.flatMap OTab.blks := fun g h => List.mem_flatMap.2 ⟨L[q], List.getElem_mem hq, h⟩
  have tq := ob.nth hq
  have ndq := tab_nodup nd0 hq
  have ndq1 : (L[q].hc.blk ++ (L[q].hr.blk ++ L[q].rules.flatMap (·.h.blk))).Nodup := ndq
  refine ObjIn.put (j := 3) (u := hc'.v) (y := { L[q] with cols := cols', hc := hc' }) ?_ ?_ ?_ ?_ ?_ hgt hq (by decide) rfl
  · exact own_kb ob.sch kb fun g h1 h2 => nodup_disj nd (Hd.mem_blk.2 h1) (List.mem_append.2 (.inr (hflat g (hqin g h2))))
  · exact own_kb ob.tab kb fun g h1 h2 => nodup_disj (List.nodup_append.1 nd).2.1 (Hd.mem_blk.2 h1) (hflat g (hqin g h2))
  · exact fun i hi hne => (ob.nth hi).kb kb fun g h1 h2 => tab_disj nd0 hq hi hne (hqin g h2) h1
  · refine ⟨ho, own_kb tq.rul kb fun g h1 h2 => nodup_disj ndq1 (Hd.mem_blk.2 h2) (by simp [Hd.mem_blk.2 h1]), fun r hr => (tq.each r hr).kb kb fun g h1 h2 => nodup_disj ndq1 (Hd.mem_blk.2 h2) (List.mem_append.2 (.inr (List.mem_flatMap.2 ⟨r, hr, h1⟩)))⟩
  · rw [nd_assoc]
    refine nodup_set (N := w.heap.size) nd0 hq ?_ ?_ (fun g hg => (ob.lt g (by rw [List.append_assoc] at hg; exact hg)).2)
    · show (hc'.blk ++ (L[q].hr.blk ++ L[q].rules.flatMap (·.h.blk))).Nodup
      refine List.nodup_append.2 ⟨blk_nodup _, (List.nodup_append.1 ndq1).2.1, fun a ha b hb2 e => ?_⟩
      subst e
      rcases hb a ha with h1 | h1
      · exact nodup_disj ndq1 h1 hb2
      · have := (tq.lt a (by unfold OTab.blks; exact List.mem_append.2 (.inr hb2))).2
        omega
    · intro g hg
      have hg' : g ∈ hc'.blk ++ (L[q].hr.blk ++ L[q].rules.flatMap (·.h.blk)) := hg
      rcases List.mem_append.1 hg' with h1 | h1
      · rcases hb g h1 with h2 | h2
        · exact .inl (by unfold OTab.blks; exact List.mem_append.2 (.inl h2))
        · exact .inr h2
      · exact .inl (by unfold OTab.blks; exact List.mem_append.2 (.inr h1))
def addColF (c : Col) (t : Tab) : Tab × Int :=
  if (!colOk c || !c.null) then (t, 63) else if 0 ≤ colAt t.cols c.name then (t, 60) else if 8 ≤ t.cols.length then (t, 2) else ({ t with cols := t.cols ++ [c] }, 0)
/-- is a column named by a rule? -/
def usedC (t : Tab) (s : ByteArray) : Bool := decide (t.cols.length = 1) || t.rules.any fun r => r.cols.any fun x => eqS x s
def dropColF (s : ByteArray) (t : Tab) : Tab × Int :=
  if colAt t.cols s < 0 then (t, 61) else if usedC t s then (t, 62) else ({ t with cols := t.cols.eraseIdx (colAt t.cols s).toNat }, 0)
set_option maxHeartbeats 8000000 in
theorem addCol1_in (nm : ByteArray) (kd : Int) (nl : Bool) (o : Objs) (w : World) (hs ht : Hd) (L : List OTab) (B n3 q gt bc : Nat) (hq : q < L.length) (hbn : B ≤ n3) (hL : L.map OTab.t = o.tables) (ob : ObjIn w B hs ht o.schemas L) (hne : ∀ g ∈ hs.blk ++ (ht.blk ++ L.flatMap OTab.blks), g ≠ n3)
    (r3 : RowAt w n3 [.slice hs.a o.schemas.length hs.c, .slice ht.a o.tables.length ht.c]) (hgt : ht.a = some ⟨gt, 0, none⟩) (rc : RowAt w bc [.string nm, .int .i64 kd, .bool nl]) (hbc : bc < B) (sm : SmO o) (hc : Small nm.size) :
    Calls Tryz.prog 81 #[.agg #[.slice hs.a o.schemas.length hs.c, .slice ht.a o.tables.length ht.c], .pointer (some ⟨gt, q * 5, none⟩), .pointer (some ⟨bc, 0, none⟩)] w (TDoP w B n3 hs ht o.schemas L q (addColF ⟨nm, kd, nl⟩ L[q].t)) := by
  have hLL : L.length = o.tables.length := by rw [← hL]; simp
  have hoo : objOf o.schemas L = o := by unfold objOf; rw [hL]
  have smq : SmT L[q].t := sm.2.2 _ (by rw [← hL]; exact List.mem_map_of_mem (List.getElem_mem hq))
  have tq := ob.nth hq
  obtain ⟨z1, z2, zf⟩ := ob.row hgt hq
  obtain ⟨hA, hn, hC⟩ : ∃ x : OTab, x = L[q] ∧ True := ⟨_, rfl, trivial⟩
  clear hC
  subst hn
  have hcv : L[q].hc.v = .slice L[q].hc.a L[q].cols.length L[q].hc.c := own_slice tq.col
  have d3 : w.cell? ⟨gt, q * 5 + 3, none⟩ = some (.slice L[q].hc.a L[q].cols.length L[q].hc.c) := by rw [← hcv]; exact ob.cell hgt hq (by decide)
  have f3 := zf 3 (by decide)
  have hbq : gt ∈ ht.blk := by rw [Hd.mem_blk]; unfold Hd.v; rw [hgt]; rfl
  have nd := ob.nd
  have hgc : ∀ g, L[q].hc.v.ownBlock = some g → g ≠ gt ∧ g ≠ n3 ∧ B ≤ g := fun g h => by
    have hin : g ∈ L.flatMap OTab.blks := List.mem_flatMap.2 ⟨L[q], List.getElem_mem hq, by unfold OTab.blks; simp [Hd.mem_blk.2 h]⟩
    exact ⟨fun e => nodup_disj (List.nodup_append.1 nd).2.1 hbq (by rw [← e]; exact hin), hne g (by simp only [List.mem_append]; exact .inr (.inr hin)), (tq.col.lt g h).1⟩
  have hgn : gt ≠ n3 := hne gt (by simp [hbq])
  have cols := tq.cols smq
  have hlen := cols.len
  obtain ⟨m, hm⟩ : ∃ m, colOk ⟨nm, kd, nl⟩ = m := ⟨_, rfl⟩
  obtain ⟨i, hi⟩ : ∃ i, colAt L[q].cols nm = i := ⟨_, rfl⟩
  have hir : -1 ≤ i ∧ i < L[q].cols.length := by rw [← hi]; exact idxP_range _ _
  have HE := Lib.hid (show addColF ⟨nm, kd, nl⟩ L[q].t = if (!m || !nl) then (L[q].t, 63) else if 0 ≤ i then (L[q].t, 60) else if 8 ≤ L[q].cols.length then (L[q].t, 2) else ({ L[q].t with cols := L[q].cols ++ [⟨nm, kd, nl⟩] }, 0) by
    unfold addColF; rw [hm]; show (if (!m || !nl) then (L[q].t, (63 : Int)) else if 0 ≤ colAt L[q].cols nm then (L[q].t, 60) else if 8 ≤ L[q].cols.length then (L[q].t, 2) else ({ L[q].t with cols := L[q].cols ++ [⟨nm, kd, nl⟩] }, 0)) = _; rw [hi])
  have CM := Lib.hid (show ∀ w', Calls Tryz.prog 82 #[.agg #[.string nm, .int .i64 kd, .bool nl]] w' fun e w'' => e = .returned (.bool m) ∧ Aft w' w'' from fun w' => (mayCol_any nm kd nl w' hc.max).mono fun e w'' ⟨he, hw⟩ => ⟨he.trans (by rw [← hm]), hw⟩)
  have CB := Lib.hid (show ∀ w', Aft w w' → Calls Tryz.prog 83 #[.slice L[q].hc.a L[q].cols.length L[q].hc.c, .string nm, .func (.func 84) #[] #[]] w' fun e w'' => e = .returned (.int .i64 i) ∧ Aft w' w'' from
    fun w' a => (byCol L[q].hc.a L[q].hc.c L[q].cols nm w' (cols_aft a cols)).mono fun e w'' ⟨he, hw⟩ => ⟨he.trans (by rw [← hi]; rfl), hw⟩)
  have HOB := Lib.hid ob
  have HGT := Lib.hid hgt
  have HR3 := Lib.hid r3
  have HRC := Lib.hid rc
  have HGC := Lib.hid hgc
  have HLL := Lib.hid hLL
  have HCV := Lib.hid hcv
  have x0 := rc.cell (j := 0) rfl
  have x1 := rc.cell (j := 1) rfl
  have x2 := rc.cell (j := 2) rfl
  have xz := rc.1
  have l1 : bc < w.heap.size + 1 := by omega
  have l2 : gt < w.heap.size + 1 := by omega
  have aW : Aft w (w.alloc (.cells #[.slice hs.a o.schemas.length hs.c, .slice ht.a o.tables.length ht.c] 25)) := (Aft.refl w).alloc _
  have HAW := Lib.hid aW
  clear ob hgt r3 rc hgc hLL hcv hm hi cols nd hoo smq hL sm tq aW hc hne zf
  go_enter Tryz.func81, Tryz.ntmps81
  go_wp2_with fail
  refine (CM.out _).mono ?_
  rintro e w1 ⟨rfl, a1⟩
  have HA1 := Lib.hid (HAW.out.trans a1)
  have x2 := HA1.out.cell_kept x2
  have d3 := HA1.out.cell_kept d3
  have xz := Nat.lt_of_lt_of_le xz HA1.out.size
  have z1 := Nat.lt_of_lt_of_le z1 HA1.out.size
  clear a1 CM
  cases m
  · go_wp2_with fail
    go_ret
    rw [HE.out]
    exact ⟨rfl, Kb.of_aft HA1.out, fun h => absurd h (by simp)⟩
  cases nl
  · go_wp2_with fail
    go_ret
    rw [HE.out]
    exact ⟨rfl, Kb.of_aft HA1.out, fun h => absurd h (by simp)⟩
  have x0 := HA1.out.cell_kept x0
  have x1 := HA1.out.cell_kept x1
  have CB' := Lib.hid (show ∀ x : Lat w1, Calls Tryz.prog 83 #[.slice L[q].hc.a L[q].cols.length L[q].hc.c, .string nm, .func (.func 84) #[] #[]] (lat w1 x) fun e w'' => e = .returned (.int .i64 i) ∧ Aft (lat w1 x) w'' from fun x => CB.out _ (HA1.out.lat x))
  clear CB
  by_cases h0 : 0 ≤ i
  · have hd : decide (0 ≤ i) = true := by simpa using h0
    go_wp2_with fail
    refine wp_region_lat (by kernel_rfl) (by kernel_rfl) ?_
    repeat (go_big_quiet_step ((go_at_call 83; exact Calls.lat_of (CB'.out _))))
    refine wpQuiet_nil ?_
    intro _ hw'
    obtain ⟨x, hw''⟩ := hw'
    subst hw''
    go_wp2_with fail
    go_ret
    rw [HE.out]
    simp only [Bool.not_true, Bool.or_self, Bool.false_eq_true, if_false, if_pos h0]
    exact ⟨rfl, Kb.of_aft (HA1.out.lat x), fun h => absurd h (by simp)⟩
  · have hd : decide (0 ≤ i) = false := by simpa using h0
    have HH0 := Lib.hid h0
    clear h0
    go_wp2_with fail
    refine wp_region_lat (by kernel_rfl) (by kernel_rfl) ?_
    repeat (go_big_quiet_step ((go_at_call 83; exact Calls.lat_of (CB'.out _))))
    refine wpQuiet_nil ?_
    intro _ hw'
    obtain ⟨x, hw''⟩ := hw'
    subst hw''
    obtain ⟨W, hW⟩ : ∃ W, W = lat w1 x := ⟨_, rfl⟩
    have aW : Aft w1 W := by rw [hW]; exact (Aft.refl w1).lat x
    rw [← hW]
    have x0 := aW.cell_kept x0
    have x1 := aW.cell_kept x1
    have x2 := aW.cell_kept x2
    have d3 := aW.cell_kept d3
    have xz := Nat.lt_of_lt_of_le xz aW.size
    have z1 := Nat.lt_of_lt_of_le z1 aW.size
    have HAW2 := Lib.hid (HA1.out.trans aW)
    clear hW aW CB' HAW
    by_cases h8 : 8 ≤ L[q].cols.length
    · have hd8 : decide (8 ≤ L[q].cols.length) = true := by simpa using h8
      have HH8 := Lib.hid h8
      go_wp2_with fail
      go_ret
      rw [HE.out]
      simp only [Bool.not_true, Bool.or_self, Bool.false_eq_true, if_false, if_neg (show ¬ 0 ≤ i by have := HH0.out; omega), if_pos HH8.out]
      exact ⟨rfl, Kb.of_aft HAW2.out, fun h => absurd h (by simp)⟩
    · have hd8 : decide (8 ≤ L[q].cols.length) = false := by simpa using h8
      have obW := HOB.out.aft HAW2.out
      have HOW := Lib.hid (show W.ownsRow B 41 3 (.slice L[q].hc.a L[q].cols.length L[q].hc.c) L[q].cols.length (L[q].cols.flatMap colC) by rw [← HCV.out]; exact (obW.nth hq).col)
      have n1 : ¬ InV (.slice L[q].hc.a L[q].cols.length L[q].hc.c) gt := fun h => (HGC.out gt (by rw [HCV.out]; exact h)).1 rfl
      have n2 : ¬ InV (.slice L[q].hc.a L[q].cols.length L[q].hc.c) bc := fun h => by have := (HGC.out bc (by rw [HCV.out]; exact h)).2.2; omega
      have f3 : W.frozen? ⟨gt, q * 5 + 3, none⟩ = false := (obW.row HGT.out hq).2.2 3 (by decide)
      obtain ⟨i0, hi0, hz0, hz1, hz2⟩ := info_parts info2Col2
      have HI := Lib.hid hi0
      have HZ0 := Lib.hid hz0
      have HZ1 := Lib.hid hz1
      have HZ2 := Lib.hid hz2
      have HBW := Lib.hid (show B ≤ W.heap.size by have := (obW.row HGT.out hq).2.1; omega)
      have HOBW := Lib.hid obW
      clear hi0 hz0 hz1 hz2 obW
      go_wp2_with fail
      refine wp_region_reads 6 8 (fun w' => ∃ x : KLat (.slice L[q].hc.a L[q].cols.length L[q].hc.c) W, w' = klat (.slice L[q].hc.a L[q].cols.length L[q].hc.c) W x) (by kernel_rfl) (by kernel_rfl) (KL.aft (Aft.refl W).drew) ?_
      simp only [List.take_succ_cons, List.take_zero, List.drop_succ_cons, List.drop_zero]
      repeat (go_big_quiet_step (fail))
      refine wpQuiet_nil ?_
      refine wpChain_step (fun K hK => ?_)
      go_simp
      refine hK _ _ (fun _ => KL.aft (((Aft.refl W).alloc _).drew)) ?_
      clear hK K
      refine wpChain_step (fun K hK => ?_)
      refine wp_append_lies _ (.tmp 35) (.tmp 37) 47 rfl B 41 i0 _ 3 32 Tryz.underlying47 HI.out HZ0.out HZ1.out HZ2.out rfl (by decide) (.slice L[q].hc.a L[q].cols.length L[q].hc.c) L[q].cols.length (L[q].cols.flatMap colC) (by rfl) ((HOW.out.alloc _).drew) ⟨W.heap.size, 0, none⟩ 1 1 [.string nm, .int .i64 kd, .bool true] (by rfl) (by rfl) (World.news_of_block (cs := #[.string nm, .int .i64 kd, .bool true]) (t := 41) (fr := (0, 0)) (heap_alloc_new W _)) (by simp [Value.oneCell']) (by omega) (by unfold maxLen; omega) (by omega) (by have := HBW.out; simp; omega) (W.heap.size + 1) (by simp) ?_
      intro gg cap' w5 hown5 hgrow hat hgl
      refine hK _ _ (fun _ => KL.of ((Kb.of_aft (((Aft.refl W).alloc _).drew)).trans (kb_in hgrow))) ?_
      clear hK K
      refine wpChain_list _ (by simp) (by decide) ?_
      have kw5 : Kb (InV (.slice L[q].hc.a L[q].cols.length L[q].hc.c)) W w5 := (Kb.of_aft (((Aft.refl W).alloc _).drew)).trans (kb_in hgrow)
      have d5 := kw5.cell d3 n1
      have f5 : w5.frozen? ⟨gt, q * 5 + 3, none⟩ = false := by
        have := kw5.block gt z1 n1
        rw [← f3]; simp [World.frozen?, this]
      have z5 := Nat.lt_of_lt_of_le z1 kw5.size
      have HP := Lib.hid (show TDoP w B n3 hs ht o.schemas L q (({ L[q].t with cols := L[q].cols ++ [⟨nm, kd, true⟩] } : Tab), 0) (.returned (.int .i64 0)) (w5.setCell ⟨gt, q * 5 + 3, none⟩ (.slice (some ⟨gg, 0, none⟩) (L[q].cols.length + 1) cap')) from by
        have obA := HOBW.out.aft (((Aft.refl W).alloc (.cells #[.string nm, .int .i64 kd, .bool true] 41)).drew)
        have kbA : Kb (fun g => L[q].hc.v.ownBlock = some g) (W.alloc (.cells #[.string nm, .int .i64 kd, .bool true] 41)).drew w5 := by rw [HCV.out]; exact Kb.of_grown hgrow
        refine ⟨rfl, ?_, fun _ => ⟨{ L[q] with cols := L[q].cols ++ [⟨nm, kd, true⟩], hc := ⟨some ⟨gg, 0, none⟩, L[q].cols.length + 1, cap'⟩ }, rfl, ?_, ?_⟩⟩
        · refine (Kb.of_aft HAW2.out).trans ((kw5.mono fun g _ h => ?_).trans ((Kb.set w5 gt (q * 5 + 3) _).mono fun g _ e => ?_))
          · exact (HGC.out g (by rw [HCV.out]; exact h)).2.2
          · subst e; exact z2
        · refine obA.newCols (hc' := ⟨some ⟨gg, 0, none⟩, L[q].cols.length + 1, cap'⟩) hq HGT.out kbA ?_ ?_
          · rw [List.length_append, List.flatMap_append]; exact hown5
          · intro g hg
            rw [blk_some, List.mem_singleton] at hg
            subst hg
            rcases hat with h1 | h1
            · exact .inl (Hd.mem_blk.2 (by rw [HCV.out]; exact h1))
            · refine .inr ?_
              simp
              omega
        · have e := HLL.out
          rw [e]
          exact (Kb.set w5 gt (q * 5 + 3) _).row (kw5.row (HR3.out.aft HAW2.out) (fun h => (HGC.out n3 (by rw [HCV.out]; exact h)).2.1 rfl)) (fun e => hgn e.symm))
      have HH8 := Lib.hid h8
      clear hown5 hgrow hat hgl kw5 h8
      go_wp2_with fail
      refine NoPanic.normal ?_
      go_wp2_with fail
      go_ret
      rw [HE.out]
      simp only [Bool.not_true, Bool.or_self, Bool.false_eq_true, if_false, if_neg (show ¬ 0 ≤ i by have := HH0.out; omega), if_neg (show ¬ 8 ≤ L[q].cols.length by have := HH8.out; omega)]
      exact HP.out
set_option maxHeartbeats 8000000 in
theorem addColumn_in (nm : ByteArray) (kd : Int) (nl : Bool) (o : Objs) (As : Option Addr) (caps : Nat) (At : Option Addr) (capt : Nat) (s n : ByteArray) (w : World) (hsch : SlAt w 2 SchR As caps o.schemas) (htab : SlAt w 5 TabR At capt o.tables) (hc : Small nm.size) :
    Calls Tryz.prog 22 #[.agg #[.slice As o.schemas.length caps, .slice At o.tables.length capt], .string s, .string n, .agg #[.string nm, .int .i64 kd, .bool nl]] w (ObjP w (chgR o (tabR o s n (addColF ⟨nm, kd, nl⟩)))) := by
  have hlen := hsch.len
  have hlen2 := htab.len
  have sm : SmO o := ⟨sm_schs hsch, sm_tabs htab⟩
  have hent := enters (P := Tryz.prog) Tryz.func81 (by kernel_rfl) rfl
  have l1 : w.heap.size < w.heap.size + 1 := by omega
  have l2 : w.heap.size < w.heap.size + 1 + 1 := by omega
  have l3 : w.heap.size < w.heap.size + 1 + 1 + 1 := by omega
  obtain ⟨W, hW⟩ : ∃ W, W = ((w.alloc (.cells #[.slice As o.schemas.length caps, .slice At o.tables.length capt] 25)).alloc (.cells #[.string nm, .int .i64 kd, .bool nl] 41)).alloc (.cells #[.slice none 0 0, .slice none 0 0] 25) := ⟨_, rfl⟩
  have aW : Aft w W := by rw [hW]; exact (((Aft.refl w).alloc _).alloc _).alloc _
  have rc : RowAt W (w.heap.size + 1) [.string nm, .int .i64 kd, .bool nl] := by
    rw [hW]
    have := (box_row2 (w := w.alloc (.cells #[.slice As o.schemas.length caps, .slice At o.tables.length capt] 25)) (c := [.string nm, .int .i64 kd, .bool nl]) (t := 41) (Aft.refl _)).aft ((Aft.refl _).alloc (.cells #[.slice none 0 0, .slice none 0 0] 25))
    simpa using this
  have r2 : RowAt W (w.heap.size + 1 + 1) [.slice none 0 0, .slice none 0 0] := by
    rw [hW]
    have := (box_row2 (w := (w.alloc (.cells #[.slice As o.schemas.length caps, .slice At o.tables.length capt] 25)).alloc (.cells #[.string nm, .int .i64 kd, .bool nl] 41)) (c := [.slice none 0 0, .slice none 0 0]) (t := 25) (Aft.refl _))
    simpa using this
  have zW : W.heap.size = w.heap.size + 3 := by rw [hW]; simp
  have CT := Lib.hid (tabCh_in o As caps At capt s n 81 #[.pointer (some ⟨w.heap.size + 1, 0, none⟩)] (addColF ⟨nm, kd, nl⟩) W (schs_aft aW hsch) (tabs_aft aW htab) hent
    (fun hck w'' hs ht L B n3 q gt hq a'' hB hn hL ob hne r3 hgt hqq => addCol1_in nm kd nl o w'' hs ht L B n3 q gt (w.heap.size + 1) hq hn hL ob hne r3 hgt (rc.aft a'') (by omega) sm hc))
  obtain ⟨rr, hrr⟩ : ∃ rr, chgR o (tabR o s n (addColF ⟨nm, kd, nl⟩)) = rr := ⟨_, rfl⟩
  rw [hrr] at CT ⊢
  have HAW := Lib.hid aW
  have HR2 := Lib.hid r2
  have HZ := Lib.hid zW
  clear hrr hsch htab r2 aW zW rc hc sm
  go_enter Tryz.func22, Tryz.ntmps22
  go_wp2_with fail
  rw [← hW]
  clear hW
  refine CT.out.mono ?_
  rintro e w3 ⟨hs, ht, L, hL, rfl, a3, ob⟩
  have b2 := HR2.out.aft a3
  have d0 := b2.cell (j := 0) rfl
  have d1 := b2.cell (j := 1) rfl
  have f0 := b2.2.2 0 (by simp)
  have f1 := b2.2.2 1 (by simp)
  have z2 := b2.1
  have HB3 := Lib.hid b2
  have HA3 := Lib.hid (HAW.out.trans a3)
  have HO := Lib.hid ob
  have HL := Lib.hid hL
  clear b2 a3 ob hL
  go_wp2_with fail
  refine bodyPost_ret (results_cell_tmp (v := .agg #[.slice hs.a rr.1.schemas.length hs.c, .slice ht.a rr.1.tables.length ht.c]) rfl _ rfl (lvObj_row (setO_row HB3.out rfl _ _))) rfl ?_
  exact objP_set HA3.out HL.out HO.out (by omega) (by have := HZ.out; omega) rfl
end Go.Proofs.YticjnndhpfdajaaGreat
/- objects.DropColumn. -/
namespace Go.Proofs.YticjnndhpfdajaaGreat
open Go.RowKit Go.Deep
set_option maxRecDepth 100000
set_option linter.unusedVariables false
theorem idxP_any {α : Type} (p : α → Bool) (l : List α) : decide (0 ≤ idxP p l) = l.any p := by
  induction l with
  | nil => rfl
  | cons x l ih =>
    rw [List.any_cons, ← ih]
    show decide (0 ≤ (if p x then (0 : Int) else if idxP p l < 0 then -1 else idxP p l + 1)) = _
    cases h : p x
    · simp only [Bool.false_or]
      by_cases h2 : idxP p l < 0
      · simp [h2]
      · simp [h2]; omega
    · simp
set_option maxHeartbeats 1000000 in
theorem scont_any (A : Option Addr) (cap : Nat) (l : List ByteArray) (name : ByteArray) (w : World) (h : SlAt w 1 StrR A cap l) :
    Calls Tryz.prog 95 #[.slice A l.length cap, .string name] w fun e w' => e = .returned (.bool (l.any fun c => eqS c name)) ∧ w = w' := by
  have C := Lib.hid (sidx_any A cap l name w h)
  have HE := Lib.hid (idxP_any (fun c => eqS c name) l)
  obtain ⟨i, hi⟩ : ∃ i, idxP (fun c => eqS c name) l = i := ⟨_, rfl⟩
  rw [hi] at C HE
  clear hi
  go_enter Tryz.func95, Tryz.ntmps95
  go_wp2_with fail
  refine C.out.mono ?_
  rintro e w1 ⟨rfl, rfl⟩
  go_wp2_with fail
  go_ret
  exact ⟨by rw [← HE.out]; rfl, rfl⟩
set_option maxHeartbeats 1000000 in
theorem dropCol11_in (r : Rul) (s : ByteArray) (A : Option Addr) (cap bs : Nat) (w : World) (h : SlAt w 1 StrR A cap r.cols) (hc : w.cell? ⟨bs, 0, none⟩ = some (.string s)) :
    Calls Tryz.prog 94 #[.agg #[.string r.name, .int .i64 r.kind, .slice A r.cols.length cap, .int .i64 r.low, .int .i64 r.high, .string r.schema, .string r.table, .string r.key], .pointer (some ⟨bs, 0, none⟩)] w
      fun e w' => e = .returned (.bool (r.cols.any fun c => eqS c s)) ∧ Aft w w' := by
  have y1 := World.block_lt_of_cell? _ _ hc
  have l1 : bs < w.heap.size + 1 := by have : bs < w.heap.size := y1; omega
  have C := Lib.hid (scont_any A cap r.cols s (w.alloc (.cells #[.string r.name, .int .i64 r.kind, .slice A r.cols.length cap, .int .i64 r.low, .int .i64 r.high, .string r.schema, .string r.table, .string r.key] 29)) (strs_aft ((Aft.refl w).alloc _) h))
  have HA := Lib.hid (show Aft w (w.alloc (.cells #[.string r.name, .int .i64 r.kind, .slice A r.cols.length cap, .int .i64 r.low, .int .i64 r.high, .string r.schema, .string r.table, .string r.key] 29)) from (Aft.refl w).alloc _)
  obtain ⟨b, hb⟩ : ∃ b, (r.cols.any fun c => eqS c s) = b := ⟨_, rfl⟩
  rw [hb] at C ⊢
  clear hb h
  go_enter Tryz.func94, Tryz.ntmps94
  go_wp2_with fail
  refine C.out.mono ?_
  rintro e w1 ⟨rfl, rfl⟩
  go_wp2_with fail
  go_ret
  exact ⟨rfl, HA.out⟩
set_option maxHeartbeats 1000000 in
theorem contRul_any (l : List Rul) (s : ByteArray) (A : Option Addr) (cap bs : Nat) (w : World) (h : SlAt w 8 RulR A cap l) (hc : w.cell? ⟨bs, 0, none⟩ = some (.string s)) :
    Calls Tryz.prog 93 #[.slice A l.length cap, .func (.func 94) #[] #[.pointer (some ⟨bs, 0, none⟩)]] w
      fun e w' => e = .returned (.bool (l.any fun r => r.cols.any fun c => eqS c s)) ∧ Aft w w' := by
  have hent := enters (P := Tryz.prog) Tryz.func94 (by kernel_rfl) rfl
  have C := Lib.hid (idxRul A cap l 94 #[.pointer (some ⟨bs, 0, none⟩)] (fun r => r.cols.any fun c => eqS c s) w h hent (fun w' a i hi e1 he => by
    obtain ⟨A2, cap2, rfl, h2, _⟩ := he
    exact dropCol11_in l[i] s A2 cap2 bs w' h2 (a.cell_kept hc)))
  have HE := Lib.hid (idxP_any (fun r : Rul => r.cols.any fun c => eqS c s) l)
  obtain ⟨i, hi⟩ : ∃ i, idxP (fun r : Rul => r.cols.any fun c => eqS c s) l = i := ⟨_, rfl⟩
  rw [hi] at C HE
  clear hi
  go_enter Tryz.func93, Tryz.ntmps93
  go_wp2_with fail
  refine C.out.mono ?_
  rintro e w1 ⟨rfl, a1⟩
  have HA := Lib.hid a1
  clear a1
  go_wp2_with fail
  go_ret
  exact ⟨by rw [← HE.out]; rfl, HA.out⟩
set_option maxHeartbeats 8000000 in
theorem dropCol1_in (s : ByteArray) (o : Objs) (w : World) (hs ht : Hd) (L : List OTab) (B n3 q gt bs : Nat) (hq : q < L.length) (hbn : B ≤ n3) (hL : L.map OTab.t = o.tables) (ob : ObjIn w B hs ht o.schemas L) (hne : ∀ g ∈ hs.blk ++ (ht.blk ++ L.flatMap OTab.blks), g ≠ n3)
    (r3 : RowAt w n3 [.slice hs.a o.schemas.length hs.c, .slice ht.a o.tables.length ht.c]) (hgt : ht.a = some ⟨gt, 0, none⟩) (hc1 : w.cell? ⟨bs, 0, none⟩ = some (.string s)) (sm : SmO o) :
    Calls Tryz.prog 92 #[.agg #[.slice hs.a o.schemas.length hs.c, .slice ht.a o.tables.length ht.c], .pointer (some ⟨gt, q * 5, none⟩), .pointer (some ⟨bs, 0, none⟩)] w (TDoP w B n3 hs ht o.schemas L q (dropColF s L[q].t)) := by
  have hLL : L.length = o.tables.length := by rw [← hL]; simp
  have hoo : objOf o.schemas L = o := by unfold objOf; rw [hL]
  have smq : SmT L[q].t := sm.2.2 _ (by rw [← hL]; exact List.mem_map_of_mem (List.getElem_mem hq))
  have tq := ob.nth hq
  obtain ⟨z1, z2, zf⟩ := ob.row hgt hq
  obtain ⟨hA, hn, hC⟩ : ∃ x : OTab, x = L[q] ∧ True := ⟨_, rfl, trivial⟩
  clear hC
  subst hn
  have hcv : L[q].hc.v = .slice L[q].hc.a L[q].cols.length L[q].hc.c := own_slice tq.col
  have d3 : w.cell? ⟨gt, q * 5 + 3, none⟩ = some (.slice L[q].hc.a L[q].cols.length L[q].hc.c) := by rw [← hcv]; exact ob.cell hgt hq (by decide)
  have f3 := zf 3 (by decide)
  have hbq : gt ∈ ht.blk := by rw [Hd.mem_blk]; unfold Hd.v; rw [hgt]; rfl
  have nd := ob.nd
  have hgc : ∀ g, L[q].hc.v.ownBlock = some g → g ≠ gt ∧ g ≠ n3 ∧ B ≤ g := fun g h => by
    have hin : g ∈ L.flatMap OTab.blks := List.mem_flatMap.2 ⟨L[q], List.getElem_mem hq, by unfold OTab.blks; simp [Hd.mem_blk.2 h]⟩
    exact ⟨fun e => nodup_disj (List.nodup_append.1 nd).2.1 hbq (by rw [← e]; exact hin), hne g (by simp only [List.mem_append]; exact .inr (.inr hin)), (tq.col.lt g h).1⟩
  have hgn : gt ≠ n3 := hne gt (by simp [hbq])
  have cols := tq.cols smq
  have hlen := cols.len
  have ruls := tq.ruls smq
  have hrv : L[q].hr.v = .slice L[q].hr.a L[q].rules.length L[q].hr.c := own_slice tq.rul
  have d4 : w.cell? ⟨gt, q * 5 + 4, none⟩ = some (.slice L[q].hr.a L[q].rules.length L[q].hr.c) := by rw [← hrv]; exact ob.cell hgt hq (by decide)
  obtain ⟨i, hi⟩ : ∃ i, colAt L[q].cols s = i := ⟨_, rfl⟩
  have hir : -1 ≤ i ∧ i < L[q].cols.length := by rw [← hi]; exact idxP_range _ _
  obtain ⟨u, hu⟩ : ∃ u, ((L[q].rules.map (·.r)).any fun r => r.cols.any fun c => eqS c s) = u := ⟨_, rfl⟩
  have HE := Lib.hid (show dropColF s L[q].t = if i < 0 then (L[q].t, 61) else if (decide (L[q].cols.length = 1) || u) then (L[q].t, 62) else ({ L[q].t with cols := L[q].cols.eraseIdx i.toNat }, 0) by
    rw [← hi, ← hu]; rfl)
  have CB := Lib.hid (show ∀ w', Aft w w' → Calls Tryz.prog 83 #[.slice L[q].hc.a L[q].cols.length L[q].hc.c, .string s, .func (.func 84) #[] #[]] w' fun e w'' => e = .returned (.int .i64 i) ∧ Aft w' w'' from
    fun w' a => (byCol L[q].hc.a L[q].hc.c L[q].cols s w' (cols_aft a cols)).mono fun e w'' ⟨he, hw⟩ => ⟨he.trans (by rw [← hi]; rfl), hw⟩)
  have CR := Lib.hid (show ∀ w', Aft w w' → Calls Tryz.prog 93 #[.slice L[q].hr.a L[q].rules.length L[q].hr.c, .func (.func 94) #[] #[.pointer (some ⟨bs, 0, none⟩)]] w' fun e w'' => e = .returned (.bool u) ∧ Aft w' w'' from
    fun w' a => by
      have h9 := (contRul_any (L[q].rules.map (·.r)) s L[q].hr.a L[q].hr.c bs w' (ruls_aft a ruls) (a.cell_kept hc1)).mono fun e w'' ⟨he, hw⟩ => (⟨he.trans (by rw [hu]), hw⟩ : e = Ending.returned (Value.bool u) ∧ Aft w' w'')
      rw [List.length_map] at h9
      exact h9)
  have HOB := Lib.hid ob
  have HGT := Lib.hid hgt
  have HR3 := Lib.hid r3
  have HGC := Lib.hid hgc
  have HLL := Lib.hid hLL
  have HCV := Lib.hid hcv
  have y1 := World.block_lt_of_cell? _ _ hc1
  have y1 : bs < w.heap.size := y1
  have l1 : bs < w.heap.size + 1 := by omega
  have l2 : gt < w.heap.size + 1 := by omega
  obtain ⟨W, hW⟩ : ∃ W, W = w.alloc (.cells #[.slice hs.a o.schemas.length hs.c, .slice ht.a o.tables.length ht.c] 25) := ⟨_, rfl⟩
  have aW : Aft w W := by rw [hW]; exact (Aft.refl w).alloc _
  have CB' := Lib.hid (show ∀ x : Lat W, Calls Tryz.prog 83 #[.slice L[q].hc.a L[q].cols.length L[q].hc.c, .string s, .func (.func 84) #[] #[]] (lat W x) fun e w'' => e = .returned (.int .i64 i) ∧ Aft (lat W x) w'' from fun x => CB.out _ (aW.lat x))
  have c1 := aW.cell_kept hc1
  have d3' := aW.cell_kept d3
  have d4' := aW.cell_kept d4
  have z1' := Nat.lt_of_lt_of_le z1 aW.size
  have y1' := Nat.lt_of_lt_of_le y1 aW.size
  have HAW := Lib.hid aW
  clear ob hgt r3 hgc hLL hcv hrv hi hu cols ruls nd hoo smq hL sm tq aW hne zf CB
  go_enter Tryz.func92, Tryz.ntmps92
  go_wp2_with fail
  rw [← hW]
  clear hW
  refine wp_region_lat (by kernel_rfl) (by kernel_rfl) ?_
  repeat (go_big_quiet_step ((go_at_call 83; exact Calls.lat_of (CB'.out _))))
  refine wpQuiet_nil ?_
  intro _ hw'
  obtain ⟨x, hw''⟩ := hw'
  subst hw''
  obtain ⟨V, hV⟩ : ∃ V, V = lat W x := ⟨_, rfl⟩
  have aV : Aft W V := by rw [hV]; exact (Aft.refl W).lat x
  rw [← hV]
  have d3 := aV.cell_kept d3'
  have d4 := aV.cell_kept d4'
  have z1 := Nat.lt_of_lt_of_le z1' aV.size
  have HAV := Lib.hid (HAW.out.trans aV)
  clear hV aV d3' d4' z1' c1 y1' CB'
  by_cases h0 : i < 0
  · have hd : decide (i < 0) = true := by simpa using h0
    have HH0 := Lib.hid h0
    go_wp2_with fail
    go_ret
    rw [HE.out, if_pos (by have := HH0.out; omega)]
    exact ⟨rfl, Kb.of_aft HAV.out, fun h => absurd h (by simp)⟩
  have hd : decide (i < 0) = false := by simpa using h0
  have HH0 := Lib.hid h0
  clear h0
  by_cases h1 : L[q].cols.length = 1
  · have hd1 : ((L[q].cols.length : Int) == 1) = true := by simp [h1]
    have HH1 := Lib.hid h1
    clear h1
    go_wp2_with fail
    go_ret
    rw [HE.out, if_neg (by have := HH0.out; omega), if_pos (by rw [decide_eq_true HH1.out]; rfl)]
    exact ⟨rfl, Kb.of_aft HAV.out, fun h => absurd h (by simp)⟩
  have hd1 : ((L[q].cols.length : Int) == 1) = false := by simp; omega
  have HH1 := Lib.hid h1
  clear h1
  go_wp2_with fail
  refine (CR.out V HAV.out).mono ?_
  rintro e w2 ⟨rfl, a2⟩
  have HA2 := Lib.hid (HAV.out.trans a2)
  have d3 := a2.cell_kept d3
  have z1 := Nat.lt_of_lt_of_le z1 a2.size
  clear a2 CR d4
  cases u
  · have ob2 := HOB.out.aft HA2.out
    obtain ⟨p, rfl⟩ : ∃ p : Nat, i = p := ⟨i.toNat, by have := HH0.out; omega⟩
    obtain ⟨m, hm⟩ : ∃ m, L[q].cols.length = p + 1 + m := ⟨L[q].cols.length - (p + 1), by omega⟩
    obtain ⟨gc, cap, hv, hgcb, hnc, hrow⟩ := own_rowAt (ob2.nth hq).col (by omega)
    have hcap : cap ≤ 9223372036854775807 := by
      rcases (ob2.nth hq).col.2 with ⟨_, hn⟩ | ⟨g', cap', cur, hv', _, _, _, hcm, _⟩
      · omega
      · rw [hv] at hv'
        simp only [Value.slice.injEq] at hv'
        rw [hv'.2.2]; unfold maxLen at hcm; omega
    have hA : L[q].hc.a = some ⟨gc, 0, none⟩ ∧ L[q].hc.c = cap := by
      have := HCV.out.symm.trans hv
      simp only [Value.slice.injEq] at this
      exact ⟨this.1, this.2.2⟩
    have own2 : w2.ownsRow B 41 3 (.slice (some ⟨gc, 0, none⟩) (p + 1 + m) cap) (p + 1 + m) (L[q].cols.flatMap colC) := by
      have := (ob2.nth hq).col
      rw [hv, hm] at this
      exact this
    have CD := Lib.hid (delCol gc cap p m B (L[q].cols.flatMap colC) w2 own2 (oneC_cells oneC_col _) hcap)
    have hbl : L[q].hc.v.ownBlock = some gc := by rw [hv]; rfl
    have hg1 : gc ≠ gt := (HGC.out gc hbl).1
    have f3 : w2.frozen? ⟨gt, q * 5 + 3, none⟩ = false := (ob2.row HGT.out hq).2.2 3 (by decide)
    rw [hA.1, hA.2, hm] at d3
    have HA := Lib.hid hA
    have HM := Lib.hid hm
    have HOB2 := Lib.hid ob2
    have HV := Lib.hid hv
    have hpb : (p : Int) + 1 ≤ 9223372036854775807 := by omega
    rw [hA.1, hA.2, hm]
    clear ob2 own2 hrow hv hA hm
    go_wp2_with fail
    refine CD.out.mono ?_
    rintro e w5 ⟨rfl, own5, k5⟩
    have d5 := k5.cell d3 hg1.symm
    have z5 := Nat.lt_of_lt_of_le z1 k5.size
    have f5 : w5.frozen? ⟨gt, q * 5 + 3, none⟩ = false := by
      have := k5.block gt z1 hg1.symm
      rw [← f3]; simp [World.frozen?, this]
    have HP := Lib.hid (show TDoP w B n3 hs ht o.schemas L q (({ L[q].t with cols := L[q].cols.eraseIdx p } : Tab), 0) (.returned (.int .i64 0)) (w5.setCell ⟨gt, q * 5 + 3, none⟩ (.slice (some ⟨gc, 0, none⟩) (p + m) cap)) from by
      have hbl : L[q].hc.v.ownBlock = some gc := by rw [HV.out]; rfl
      have kk : Kb (fun g => L[q].hc.v.ownBlock = some g) w2 w5 := k5.mono fun g _ e => by rw [e]; exact hbl
      have hlen5 : (L[q].cols.eraseIdx p).length = p + m := by rw [List.length_eraseIdx]; have := HM.out; rw [if_pos (by omega)]; omega
      refine ⟨rfl, ?_, fun _ => ⟨{ L[q] with cols := L[q].cols.eraseIdx p, hc := ⟨some ⟨gc, 0, none⟩, p + m, cap⟩ }, rfl, ?_, ?_⟩⟩
      · refine (Kb.of_aft HA2.out).trans ((k5.mono fun g _ e => ?_).trans ((Kb.set w5 gt (q * 5 + 3) _).mono fun g _ e => ?_))
        · subst e; exact (HGC.out g hbl).2.2
        · subst e; exact z2
      · refine HOB2.out.newCols (hc' := ⟨some ⟨gc, 0, none⟩, p + m, cap⟩) hq HGT.out kk ?_ ?_
        · rw [hlen5, ← flatMap_erase (size := 3) (fun _ => rfl)]; exact own5
        · intro g hg
          rw [blk_some, List.mem_singleton] at hg
          subst hg
          exact .inl (Hd.mem_blk.2 hbl)
      · have e := HLL.out
        rw [e]
        exact (Kb.set w5 gt (q * 5 + 3) _).row (k5.row (HR3.out.aft HA2.out) (fun e => (HGC.out gc hbl).2.1 e.symm)) (fun e => hgn e.symm))
    clear own5 k5
    go_wp2_with fail
    go_ret
    rw [HE.out, if_neg (by omega), if_neg (by simp; exact HH1.out)]
    exact HP.out
  · go_wp2_with fail
    go_ret
    rw [HE.out, if_neg (by have := HH0.out; omega), if_pos (by simp)]
    exact ⟨rfl, Kb.of_aft HA2.out, fun h => absurd h (by simp)⟩
set_option maxHeartbeats 8000000 in
theorem dropColumn_in (c : ByteArray) (o : Objs) (As : Option Addr) (caps : Nat) (At : Option Addr) (capt : Nat) (s n : ByteArray) (w : World) (hsch : SlAt w 2 SchR As caps o.schemas) (htab : SlAt w 5 TabR At capt o.tables) :
    Calls Tryz.prog 24 #[.agg #[.slice As o.schemas.length caps, .slice At o.tables.length capt], .string s, .string n, .string c] w (ObjP w (chgR o (tabR o s n (dropColF c)))) := by
  have hlen := hsch.len
  have hlen2 := htab.len
  have sm : SmO o := ⟨sm_schs hsch, sm_tabs htab⟩
  have hent := enters (P := Tryz.prog) Tryz.func92 (by kernel_rfl) rfl
  have l1 : w.heap.size < w.heap.size + 1 := by omega
  have l2 : w.heap.size < w.heap.size + 1 + 1 := by omega
  have l3 : w.heap.size < w.heap.size + 1 + 1 + 1 := by omega
  obtain ⟨W, hW⟩ : ∃ W, W = ((w.alloc (.cells #[.slice As o.schemas.length caps, .slice At o.tables.length capt] 25)).alloc (.cells #[.string c] 9)).alloc (.cells #[.slice none 0 0, .slice none 0 0] 25) := ⟨_, rfl⟩
  have aW : Aft w W := by rw [hW]; exact (((Aft.refl w).alloc _).alloc _).alloc _
  have hc1 : W.cell? ⟨w.heap.size + 1, 0, none⟩ = some (.string c) := by
    rw [hW]; (repeat (refine (World.cell?_alloc_past _ _ _ (by first | (simp; done) | (simp; omega))).trans ?_)); exact World.cell?_alloc_at _ _ _ _ (by simp)
  have r2 : RowAt W (w.heap.size + 1 + 1) [.slice none 0 0, .slice none 0 0] := by
    rw [hW]
    have := (box_row2 (w := (w.alloc (.cells #[.slice As o.schemas.length caps, .slice At o.tables.length capt] 25)).alloc (.cells #[.string c] 9)) (c := [.slice none 0 0, .slice none 0 0]) (t := 25) (Aft.refl _))
    simpa using this
  have zW : W.heap.size = w.heap.size + 3 := by rw [hW]; simp
  have CT := Lib.hid (tabCh_in o As caps At capt s n 92 #[.pointer (some ⟨w.heap.size + 1, 0, none⟩)] (dropColF c) W (schs_aft aW hsch) (tabs_aft aW htab) hent
    (fun hck w'' hs ht L B n3 q gt hq a'' hB hn hL ob hne r3 hgt hqq => dropCol1_in c o w'' hs ht L B n3 q gt (w.heap.size + 1) hq hn hL ob hne r3 hgt (a''.cell_kept hc1) sm))
  obtain ⟨rr, hrr⟩ : ∃ rr, chgR o (tabR o s n (dropColF c)) = rr := ⟨_, rfl⟩
  rw [hrr] at CT ⊢
  have HAW := Lib.hid aW
  have HR2 := Lib.hid r2
  have HZ := Lib.hid zW
  clear hrr hsch htab r2 aW zW hc1 sm
  go_enter Tryz.func24, Tryz.ntmps24
  go_wp2_with fail
  rw [← hW]
  clear hW
  refine CT.out.mono ?_
  rintro e w3 ⟨hs, ht, L, hL, rfl, a3, ob⟩
  have b2 := HR2.out.aft a3
  have d0 := b2.cell (j := 0) rfl
  have d1 := b2.cell (j := 1) rfl
  have f0 := b2.2.2 0 (by simp)
  have f1 := b2.2.2 1 (by simp)
  have z2 := b2.1
  have HB3 := Lib.hid b2
  have HA3 := Lib.hid (HAW.out.trans a3)
  have HO := Lib.hid ob
  have HL := Lib.hid hL
  clear b2 a3 ob hL
  go_wp2_with fail
  refine bodyPost_ret (results_cell_tmp (v := .agg #[.slice hs.a rr.1.schemas.length hs.c, .slice ht.a rr.1.tables.length ht.c]) rfl _ rfl (lvObj_row (setO_row HB3.out rfl _ _))) rfl ?_
  exact objP_set HA3.out HL.out HO.out (by omega) (by have := HZ.out; omega) rfl
end Go.Proofs.YticjnndhpfdajaaGreat
/- Plain: right objects stay right: schemas, tables, columns. -/
namespace Go.Proofs.YticjnndhpfdajaaGreat
set_option linter.unusedVariables false
theorem sch_mem {o : Objs} (g : Good o) {t : Tab} (ht : t ∈ o.tables) : t.schema ∈ o.schemas.map Sch.name := by
  obtain ⟨s, hs, e⟩ := (g.tab t ht).sch
  exact List.mem_map.2 ⟨s, hs, e⟩
theorem schAt_not {l : List Sch} {s : ByteArray} (h : ¬ 0 ≤ schAt l s) : ∀ x ∈ l, x.name ≠ s := fun x hx e => h ((schAt_iff l s).2 ⟨x, hx, e⟩)
theorem within_zero {ts : List Tab} {s : ByteArray} (h : ∀ t ∈ ts, t.schema ≠ s) : within ts s = 0 := by
  unfold within
  rw [List.length_eq_zero_iff, List.filter_eq_nil_iff]
  intro t ht e
  exact h t ht ((eqS_iff9 _ _).1 e)
theorem chk_addSch {o : Objs} {nm ow : ByteArray} (h : checkO o = true) (hz : (addSchR nm ow o).2 = 0) : checkO (addSchR nm ow o).1 = true := by
  have g := (good_iff o).1 h
  unfold addSchR at hz ⊢
  by_cases c1 : (!nameB nm || !nameB ow) = true
  · rw [if_pos c1] at hz; cases hz
  · by_cases c2 : 0 ≤ schAt o.schemas nm
    · rw [if_neg c1, if_pos c2] at hz; cases hz
    · by_cases c3 : 8 ≤ o.schemas.length
      · rw [if_neg c1, if_neg c2, if_pos c3] at hz; cases hz
      · rw [if_neg c1, if_neg c2, if_neg c3]
        simp only [Bool.or_eq_true, Bool.not_eq_true', not_or, Bool.not_eq_false] at c1
        refine (good_iff _).2 ⟨?_, g.nt, g.rt, rises_ins' preSc.tr preSc.anti g.rs (fun y hy e => schAt_not c2 y hy ((cmpS_zero9 _ _).1 e)), fun s hs => ?_, fun t ht => ?_⟩
        · show (insAt _ _ _).length ≤ 8
          rw [insAt_len _ _ _ (posB_le _ _ _)]; omega
        · rcases mem_insAt.1 hs with e | e
          · rw [e]
            refine ⟨c1.1, c1.2, ?_⟩
            show within o.tables nm ≤ 8
            rw [within_zero fun t ht e => ?_]
            · omega
            · obtain ⟨x, hx, e2⟩ := (g.tab t ht).sch
              exact schAt_not c2 x hx (e2.trans e)
          · exact g.sch s e
        · have a := g.tab t ht
          obtain ⟨x, hx, e⟩ := a.sch
          exact ⟨a.nm, a.ow, a.cols, a.nr, ⟨x, mem_insAt.2 (.inr hx), e⟩, a.rises, a.fit, a.key⟩
theorem has_sub {ts ts' : List Tab} {l : List Col} {r : Rul} (hs : ∀ t ∈ ts, t.schema = r.schema → t.name = r.table → t ∈ ts') (h : HasKey ts l r) : HasKey ts' l r := by
  obtain ⟨t, ht, e1, e2, rest⟩ := h
  exact ⟨t, hs t ht e1 e2, e1, e2, rest⟩
theorem chk_addTab {o : Objs} {t : Tab} (h : checkO o = true) (hz : (addTabR t o).2 = 0) : checkO (addTabR t o).1 = true := by
  have g := (good_iff o).1 h
  unfold addTabR at hz ⊢
  by_cases c1 : (!nameB t.name || !nameB t.owner) = true
  · rw [if_pos c1] at hz; cases hz
  · by_cases c2 : schAt o.schemas t.schema < 0
    · rw [if_neg c1, if_pos c2] at hz; cases hz
    · by_cases c3 : 0 ≤ tabAt o.tables t.schema t.name
      · rw [if_neg c1, if_neg c2, if_pos c3] at hz; cases hz
      · by_cases c4 : 8 ≤ within o.tables t.schema
        · rw [if_neg c1, if_neg c2, if_neg c3, if_pos c4] at hz; cases hz
        · by_cases c5 : (!colsOk t.cols || decide (0 < t.rules.length)) = true
          · rw [if_neg c1, if_neg c2, if_neg c3, if_neg c4, if_pos c5] at hz; cases hz
          · rw [if_neg c1, if_neg c2, if_neg c3, if_neg c4, if_neg c5]
            simp only [Bool.or_eq_true, Bool.not_eq_true', not_or, Bool.not_eq_false, decide_eq_true_eq] at c1 c5
            obtain ⟨sx, hsx, esx⟩ := (schAt_iff o.schemas t.schema).1 (by omega)
            have hr0 : t.rules = [] := List.eq_nil_of_length_eq_zero (by omega)
            have hw : ∀ s ∈ o.schemas, within (insAt o.tables (posB cmpTb o.tables t) t) s.name ≤ 8 := fun s hs => by
              rw [within_ins]
              have := (g.sch s hs).2.2
              by_cases e : t.schema = s.name
              · rw [e] at c4
                rw [e, eqS_refl]; simp; omega
              · rw [show eqS t.schema s.name = false by rw [Bool.eq_false_iff]; exact fun h9 => e ((eqS_iff9 _ _).1 h9)]; simp; exact this
            refine (good_iff _).2 ⟨g.ns, ?_, rises_ins' preTb.tr preTb.anti g.rt (tab_none (by omega)), g.rs, fun s hs => ⟨(g.sch s hs).1, (g.sch s hs).2.1, hw s hs⟩, fun x hx => ?_⟩
            · have h8 := tables_le (o.schemas.map Sch.name) (insAt o.tables (posB cmpTb o.tables t) t) (fun x hx => by
                rcases mem_insAt.1 hx with e | e
                · rw [e]; exact List.mem_map.2 ⟨sx, hsx, esx⟩
                · exact sch_mem g e) (fun n hn => by
                obtain ⟨s, hs, rfl⟩ := List.mem_map.1 hn
                exact hw s hs)
              rw [List.length_map] at h8
              have := g.ns
              show (insAt o.tables (posB cmpTb o.tables t) t).length ≤ 64
              omega
            · rcases mem_insAt.1 hx with e | e
              · rw [e]
                exact ⟨c1.1, c1.2, c5.1, by rw [hr0]; simp, ⟨sx, hsx, esx⟩, by rw [hr0]; rfl, (fun r hr => by rw [hr0] at hr; cases hr), (fun r hr => by rw [hr0] at hr; cases hr)⟩
              · have a := g.tab x e
                exact ⟨a.nm, a.ow, a.cols, a.nr, a.sch, a.rises, a.fit, fun r hr h4 => has_sub (fun y hy _ _ => mem_insAt.2 (.inr hy)) (a.key r hr h4)⟩
theorem chk_dropTab {o : Objs} {s n : ByteArray} (h : checkO o = true) (hz : (dropTabR s n o).2 = 0) : checkO (dropTabR s n o).1 = true := by
  have g := (good_iff o).1 h
  have hr := idxP_range (fun t : Tab => eqS t.schema s && eqS t.name n) o.tables
  unfold dropTabR at hz ⊢
  by_cases c1 : tabAt o.tables s n < 0
  · rw [if_pos c1] at hz; cases hz
  · by_cases c2 : usedT o s n = true
    · rw [if_neg c1, if_pos c2] at hz; cases hz
    · rw [if_neg c1, if_neg c2]
      obtain ⟨p, hp⟩ : ∃ p : Nat, tabAt o.tables s n = p := ⟨(tabAt o.tables s n).toNat, by omega⟩
      have hpl : p < o.tables.length := by unfold tabAt at hp; omega
      obtain ⟨hps, hpn⟩ := tabAt_at hp hpl
      rw [hp]
      simp only [Int.toNat_natCast]
      refine (good_iff _).2 ⟨g.ns, Nat.le_trans (List.length_eraseIdx_le _ _) g.nt, rises_erase preTb g.rt p, g.rs, fun x hx => ?_, fun x hx => ?_⟩
      · have := g.sch x hx
        refine ⟨this.1, this.2.1, Nat.le_trans ?_ this.2.2⟩
        unfold within
        exact ((List.eraseIdx_sublist o.tables p).filter _).length_le
      · have hxo : x ∈ o.tables := List.mem_of_mem_eraseIdx hx
        have a := g.tab x hxo
        refine ⟨a.nm, a.ow, a.cols, a.nr, a.sch, a.rises, a.fit, fun r hr2 h4 => has_sub (fun y hy e1 e2 => mem_erase_of hy fun h9 e => ?_) (a.key r hr2 h4)⟩
        refine c2 (List.any_eq_true.2 ⟨(x, r), forP_mem hxo hr2 (namesR_of h4 (by rw [← e1, e, hps]) (by rw [← e2, e, hpn])), ?_⟩)
        obtain ⟨i, hi, hne, ei⟩ := List.mem_eraseIdx_iff_getElem.1 hx
        show (!selfP s n x) = true
        rw [← ei, tab_only g.rt hp hpl i hi, decide_eq_false hne]
        rfl
theorem find_erase {α : Type} (p : α → Bool) : ∀ (l : List α) (i : Nat) (hi : i < l.length), p l[i] = false → (l.eraseIdx i).find? p = l.find? p
  | x :: l, 0, _, h => by
    have h : p x = false := h
    rw [List.eraseIdx_cons_zero, List.find?_cons, h]
  | x :: l, i + 1, hi, h => by
    rw [List.eraseIdx_cons_succ, List.find?_cons, List.find?_cons, find_erase p l i (by simpa using hi) (by simpa using h)]
theorem kindOf_erase {l : List Col} {i : Nat} {a : ByteArray} (hi : i < l.length) (h : l[i].name ≠ a) : kindOf (l.eraseIdx i) a = kindOf l a := by
  unfold kindOf
  rw [find_erase _ l i hi (by rw [Bool.eq_false_iff]; exact fun e => h ((eqS_iff9 _ _).1 e))]
theorem kindOf_append {l : List Col} {c : Col} {a : ByteArray} {k : Int} (h : kindOf l a = some k) : kindOf (l ++ [c]) a = some k := by
  unfold kindOf at h ⊢
  cases h1 : l.find? (fun c => eqS c.name a) with
  | none => rw [h1] at h; cases h
  | some x => rw [List.find?_append, h1]; rw [h1] at h; exact h
theorem colAt_at {l : List Col} {s : ByteArray} {i : Nat} (h : colAt l s = i) (hi : i < l.length) : l[i].name = s := (eqS_iff9 _ _).1 (idxP_at (fun c : Col => eqS c.name s) l i hi h)
theorem chk_dropCol {o : Objs} {s n c : ByteArray} (h : checkO o = true) (hz : (tabR o s n (dropColF c)).2 = 0) : checkO (tabR o s n (dropColF c)).1 = true := by
  have g := (good_iff o).1 h
  refine chk_tab h hz fun q hq hat hzq => ?_
  have gq := g.tab _ (List.getElem_mem hq)
  have hr := idxP_range (fun x : Col => eqS x.name c) o.tables[q].cols
  unfold dropColF at hzq ⊢
  by_cases c1 : colAt o.tables[q].cols c < 0
  · rw [if_pos c1] at hzq; cases hzq
  · by_cases c2 : usedC o.tables[q] c = true
    · rw [if_neg c1, if_pos c2] at hzq; cases hzq
    · rw [if_neg c1, if_neg c2]
      obtain ⟨p, hp⟩ : ∃ p : Nat, colAt o.tables[q].cols c = p := ⟨(colAt o.tables[q].cols c).toNat, by omega⟩
      have hpl : p < o.tables[q].cols.length := by unfold colAt at hp; omega
      have hpn := colAt_at hp hpl
      rw [hp]
      simp only [Int.toNat_natCast]
      unfold usedC at c2
      simp only [Bool.or_eq_true, decide_eq_true_eq, List.any_eq_true, not_or, not_exists, not_and] at c2
      have hno : ∀ r ∈ o.tables[q].rules, ∀ a ∈ r.cols, ∀ k, kindOf o.tables[q].cols a = some k → kindOf (o.tables[q].cols.eraseIdx p) a = some k := fun r hr2 a ha k hk => by
        rw [kindOf_erase hpl (fun e => c2.2 r hr2 a ha ((eqS_iff9 _ _).2 (by rw [← e, hpn])))]
        exact hk
      have hcols := (colsOk_iff _).1 gq.cols
      refine good_set (t := { o.tables[q] with cols := o.tables[q].cols.eraseIdx p }) g hq rfl rfl rfl ?_ gq.nr gq.rises (fun r hr2 => fits_mono (hno r hr2) (gq.fit r hr2)) (fun r hr2 h4 => has_set hq rfl rfl (hno r hr2) (fun _ _ k hk _ _ => ⟨hk, hno k hk⟩) (gq.key r hr2 h4)) (fun x hx r hr2 h4 => has_set hq rfl rfl same_kinds (fun _ _ k hk _ _ => ⟨hk, hno k hk⟩) ((g.tab x hx).key r hr2 h4))
      refine (colsOk_iff _).2 ⟨⟨?_, ?_⟩, fun x hx => hcols.2.1 x (List.mem_of_mem_eraseIdx hx), hcols.2.2.sublist (List.eraseIdx_sublist _ _)⟩
      · show 1 ≤ (o.tables[q].cols.eraseIdx p).length
        rw [List.length_eraseIdx_of_lt hpl]; have := c2.1; have := hcols.1.1; omega
      · show (o.tables[q].cols.eraseIdx p).length ≤ 8
        rw [List.length_eraseIdx_of_lt hpl]; have := hcols.1.2; omega
theorem chk_addCol {o : Objs} {s n : ByteArray} {c : Col} (h : checkO o = true) (hz : (tabR o s n (addColF c)).2 = 0) : checkO (tabR o s n (addColF c)).1 = true := by
  have g := (good_iff o).1 h
  refine chk_tab h hz fun q hq hat hzq => ?_
  have gq := g.tab _ (List.getElem_mem hq)
  unfold addColF at hzq ⊢
  by_cases c1 : (!colOk c || !c.null) = true
  · rw [if_pos c1] at hzq; cases hzq
  · by_cases c2 : 0 ≤ colAt o.tables[q].cols c.name
    · rw [if_neg c1, if_pos c2] at hzq; cases hzq
    · by_cases c3 : 8 ≤ o.tables[q].cols.length
      · rw [if_neg c1, if_neg c2, if_pos c3] at hzq; cases hzq
      · rw [if_neg c1, if_neg c2, if_neg c3]
        simp only [Bool.or_eq_true, Bool.not_eq_true', not_or, Bool.not_eq_false] at c1
        have hcols := (colsOk_iff _).1 gq.cols
        have hm : ∀ (cs : List ByteArray), ∀ a ∈ cs, ∀ k, kindOf o.tables[q].cols a = some k → kindOf (o.tables[q].cols ++ [c]) a = some k := fun _ a _ k hk => kindOf_append hk
        refine good_set (t := { o.tables[q] with cols := o.tables[q].cols ++ [c] }) g hq rfl rfl rfl ?_ gq.nr gq.rises (fun r hr2 => fits_mono (hm r.cols) (gq.fit r hr2)) (fun r hr2 h4 => has_set hq rfl rfl (hm r.cols) (fun _ _ k hk _ _ => ⟨hk, hm k.cols⟩) (gq.key r hr2 h4)) (fun x hx r hr2 h4 => has_set hq rfl rfl same_kinds (fun _ _ k hk _ _ => ⟨hk, hm k.cols⟩) ((g.tab x hx).key r hr2 h4))
        refine (colsOk_iff _).2 ⟨⟨?_, ?_⟩, fun x hx => ?_, ?_⟩
        · show 1 ≤ (o.tables[q].cols ++ [c]).length
          simp
        · show (o.tables[q].cols ++ [c]).length ≤ 8
          simp; omega
        · rcases List.mem_append.1 hx with e | e
          · exact hcols.2.1 x e
          · rw [List.mem_singleton] at e; rw [e]; exact c1.1
        · refine List.pairwise_append.2 ⟨hcols.2.2, by simp, fun a ha b hb e => ?_⟩
          rw [List.mem_singleton] at hb
          subst hb
          refine c2 ?_
          have h9 := idxP_find (fun x : Col => eqS x.name b.name) o.tables[q].cols
          rcases Int.lt_or_le (idxP (fun x : Col => eqS x.name b.name) o.tables[q].cols) 0 with h0 | h0
          · rw [if_pos h0] at h9
            exact absurd ((eqS_iff9 _ _).2 e) (List.find?_eq_none.1 h9 a ha)
          · exact h0
end Go.Proofs.YticjnndhpfdajaaGreat
