/- objects.own: objects in memory of their own. -/
import Derived.Test.YtodifdofgjfkiaaCopied2
import Derived.Deep.RegionLaw
namespace Go.Proofs.Ytodifdofgjfkiaa
open Go.RowKit Go.Deep
set_option maxRecDepth 100000
set_option linter.unusedVariables false
theorem nodup_disj {l m : List Nat} (h : (l ++ m).Nodup) {g : Nat} (h1 : g ∈ l) (h2 : g ∈ m) : False := (List.nodup_append.1 h).2.2 g h1 g h2 rfl
/-- one table more -/
theorem ObjIn.push {wr w4 w5 : World} {B : Nat} {hs ht ht' : Hd} {ss : List Sch} {L : List OTab} {x : OTab} (h : ObjIn wr B hs ht ss L) (a4 : Aft wr w4) (hx : TabIn w4 wr.heap.size x) (nx : x.blks.Nodup) (hB : B ≤ wr.heap.size)
    (hg : w4.grownBy w5 ht.v.ownBlock) (ho : w5.ownsRow B 34 5 ht'.v (L.length + 1) (L.flatMap OTab.cells ++ x.cells)) (hb : ∀ g ∈ ht'.blk, g ∈ ht.blk ∨ w4.heap.size ≤ g) (hn : ∀ g ∈ ht'.blk, g ∉ x.blks) : ObjIn w5 B hs ht' ss (L ++ [x]) := by
  have k1 : Kb (fun g => ht.v.ownBlock = some g) w4 w5 := Kb.of_grown hg
  have k2 : Kb (fun g => ht.v.ownBlock = some g) wr w5 := (Kb.of_aft a4).trans k1
  have hlt := h.lt
  have nd := h.nd
  have nd2 := (List.nodup_append.1 nd).2.1
  have hsl : ∀ g ∈ hs.blk, g < wr.heap.size := fun g hg => (hlt g (by simp [hg])).2
  have htl : ∀ g ∈ ht.blk, g < wr.heap.size := fun g hg => (hlt g (by simp [hg])).2
  have hLl : ∀ g ∈ L.flatMap OTab.blks, g < wr.heap.size := fun g hg => (hlt g (by simp only [List.mem_append]; exact .inr (.inr hg))).2
  have hxl := hx.lt
  have hz := a4.size
  refine ⟨own_kb h.sch k2 fun g hg1 hg2 => nodup_disj nd (Hd.mem_blk.2 hg1) (by simp [Hd.mem_blk.2 hg2]), ?_, ?_, ?_⟩
  · rw [List.length_append, List.flatMap_append]
    simpa using ho
  · intro y hy
    simp only [List.mem_append, List.mem_singleton] at hy
    rcases hy with hy | rfl
    · exact (h.each y hy).kb k2 fun g hg1 hg2 => nodup_disj nd2 (Hd.mem_blk.2 hg2) (List.mem_flatMap.2 ⟨y, hy, hg1⟩)
    · exact (hx.kb k1 fun g hg1 hg2 => by have := (hxl g hg1).1; have := htl g (Hd.mem_blk.2 hg2); omega).down hB
  · rw [List.flatMap_append]
    have hz2 : wr.heap.size ≤ w4.heap.size := a4.size
    have e : [x].flatMap OTab.blks = x.blks := by simp
    rw [e]
    refine List.nodup_append.2 ⟨(List.nodup_append.1 nd).1, List.nodup_append.2 ⟨blk_nodup _, nodup_more (List.nodup_append.1 nd2).2.1 nx hLl (fun g hg => (hxl g hg).1), ?_⟩, ?_⟩
    · intro a ha b hb2 e
      subst e
      rcases List.mem_append.1 hb2 with h1 | h1
      · rcases hb a ha with h2 | h2
        · exact nodup_disj nd2 h2 h1
        · have := hLl a h1; omega
      · exact hn a ha h1
    · intro a ha b hb2 e
      subst e
      have := hsl a ha
      rcases List.mem_append.1 hb2 with h1 | h1
      · rcases hb a h1 with h2 | h2
        · exact nodup_disj nd ha (by simp [h2])
        · omega
      · rcases List.mem_append.1 h1 with h1 | h1
        · exact nodup_disj nd ha (List.mem_append.2 (.inr h1))
        · have := (hxl a h1).1; omega
theorem OTab.cells_of {w : World} {B : Nat} {x : OTab} {p : Tab} (h : TabIn w B x) (ht : x.t = p) : x.cells = [.string p.schema, .string p.name, .string p.owner, .slice x.hc.a p.cols.length x.hc.c, .slice x.hr.a p.rules.length x.hr.c] := by
  subst ht
  unfold OTab.cells
  rw [own_slice h.col, own_slice h.rul]
  simp [OTab.t]
theorem lvObj_row {W : World} {b : Nat} {a c : Value} (h : RowAt W b [a, c]) : (loadVar 25 ⟨b, 0, none⟩).run Try.prog W = .ok (.agg #[a, c]) W := by
  have e0 := h.cell (j := 0) rfl
  have e1 := h.cell (j := 1) rfl
  have h1 := run_lvObj W b 0 (by rw [e0]; rfl) (by rw [e1]; rfl)
  rw [e0, e1] at h1
  exact h1
structure OwnS (w wr : World) (o : Objs) (n3 : Nat) (hs ht : Hd) (L : List OTab) (k : Nat) : Prop where
  aft : Aft w wr
  out : RowAt wr (w.heap.size + 1) [.slice none 0 0, .slice none 0 0]
  box : RowAt wr n3 [.slice hs.a o.schemas.length hs.c, .slice ht.a k ht.c]
  obj : ObjIn wr (w.heap.size + 2) hs ht o.schemas L
  ne : ∀ g ∈ hs.blk ++ (ht.blk ++ L.flatMap OTab.blks), g ≠ n3
  is : L.map OTab.t = o.tables.take k
  n3 : w.heap.size + 2 ≤ n3
  len : L.length = k
theorem OwnS.step {w wr w4 w5 : World} {o : Objs} {n3 : Nat} {hs ht ht' : Hd} {L : List OTab} {x : OTab} {k : Nat} (s : OwnS w wr o n3 hs ht L k) (hk : k < o.tables.length) (hxt : x.t = o.tables[k]) (a4 : Aft wr w4) (hx : TabIn w4 wr.heap.size x) (nx : x.blks.Nodup)
    (hg : w4.grownBy w5 ht.v.ownBlock) (ho : w5.ownsRow (w.heap.size + 2) 34 5 ht'.v (k + 1) (L.flatMap OTab.cells ++ x.cells)) (hb : ∀ g ∈ ht'.blk, g ∈ ht.blk ∨ w4.heap.size ≤ g) (hn : ∀ g ∈ ht'.blk, g ∉ x.blks) :
    OwnS w (w5.setCell ⟨n3, 1, none⟩ (.slice ht'.a (k + 1) ht'.c)) o n3 hs ht' (L ++ [x]) (k + 1) := by
  have hz := a4.size
  have hz5 := hg.size
  have hn3 := s.n3
  have hb3 := s.box.1
  have hzz : w.heap.size + 2 ≤ wr.heap.size := by omega
  have ob := s.obj.push a4 hx nx hzz hg (by rw [s.len]; exact ho) hb hn
  have hne : ∀ g ∈ hs.blk ++ (ht'.blk ++ (L ++ [x]).flatMap OTab.blks), g ≠ n3 := by
    intro g hgm e
    subst e
    simp only [List.mem_append, List.flatMap_append] at hgm
    rcases hgm with h1 | h1 | h1 | h1
    · exact s.ne g (by simp [h1]) rfl
    · rcases hb g h1 with h2 | h2
      · exact s.ne g (by simp [h2]) rfl
      · omega
    · exact s.ne g (by simp only [List.mem_append]; exact .inr (.inr h1)) rfl
    · have := (hx.lt g (by simpa using h1)).1; omega
  have k5 : Kb (fun g => g = n3) w5 (w5.setCell ⟨n3, 1, none⟩ (.slice ht'.a (k + 1) ht'.c)) := Kb.set _ _ _ _
  have kg : Kb (fun g => ht.v.ownBlock = some g) w4 w5 := Kb.of_grown hg
  have htge : ∀ g, ht.v.ownBlock = some g → w.heap.size + 2 ≤ g := fun g h1 => (s.obj.tab.lt g h1).1
  refine ⟨k5.to_aft (kg.to_aft (s.aft.trans a4) (fun g hgl h1 => by have := htge g h1; omega)) (fun g hgl e => by omega), k5.row (kg.row (s.out.aft a4) (fun h1 => by have := htge _ h1; omega)) (by omega), ?_, ob.kb k5 (fun g hgm e => hne g hgm e), hne, ?_, hn3, by simp [s.len]⟩
  · have := (kg.row (s.box.aft a4) (fun h1 => s.ne n3 (by simp [Hd.mem_blk.2 h1]) rfl)).set 1 (.slice ht'.a (k + 1) ht'.c) (by simp)
    exact this
  · rw [List.map_append, s.is, List.take_succ_eq_append_getElem hk, ← hxt]; rfl
set_option maxHeartbeats 8000000 in
theorem own_in (o : Objs) (As : Option Addr) (caps : Nat) (At : Option Addr) (capt : Nat) (w : World) (hsch : SlAt w 2 SchR As caps o.schemas) (htab : SlAt w 5 TabR At capt o.tables) (hm : ModO o) :
    Calls Try.prog 159 #[.agg #[.slice As o.schemas.length caps, .slice At o.tables.length capt]] w (OwnO w o) := by
  obtain ⟨i0, hi, hz0, hz1, hz2⟩ := info_parts info2Tab
  have HI := Lib.hid hi
  have HZ0 := Lib.hid hz0
  have HZ1 := Lib.hid hz1
  have HZ2 := Lib.hid hz2
  clear hi hz0 hz1 hz2
  have hlen := hsch.len
  have hlen2 := htab.len
  have C1 := Lib.hid (show ∀ w', Aft w w' → _ from fun w' a => clone2Sch As caps o.schemas w w' a hsch hm.1)
  have l1 : w.heap.size < w.heap.size + 1 := by omega
  have l2 : w.heap.size < w.heap.size + 1 + 1 := by omega
  go_enter Try.func159, Try.ntmps159
  go_wp2_with fail
  refine (C1.out _ (((Aft.refl w).alloc _).alloc _)).mono ?_
  rintro e w1 ⟨v1, css1, rfl, a1, own1, ch1⟩
  have r1 : RowAt w1 w.heap.size [.slice As o.schemas.length caps, .slice At o.tables.length capt] := (box_row2 (Aft.refl _)).aft (((Aft.refl _).alloc _).trans a1)
  have r2 : RowAt w1 (w.heap.size + 1) [.slice none 0 0, .slice none 0 0] := by
    have := (box_row2 (w := w.alloc (.cells #[.slice As o.schemas.length caps, .slice At o.tables.length capt] 25)) (c := [.slice none 0 0, .slice none 0 0]) (t := 25) (Aft.refl _)).aft a1
    simpa using this
  have HA1 := Lib.hid ((((Aft.refl w).alloc _).alloc _).trans a1)
  obtain ⟨Ac, cc, hv1⟩ := own_lit own1
  subst hv1
  rw [flat_schs ch1] at own1
  have own1 : w1.ownsRow (w.heap.size + 2) 84 2 (Hd.mk Ac o.schemas.length cc).v o.schemas.length (o.schemas.flatMap schC) := own_down own1 (by simp)
  have hz1 : w.heap.size + 2 ≤ w1.heap.size := by have := a1.size; simp at this; omega
  have z0 : w.heap.size < w1.heap.size + 1 := by omega
  have b1 := r1.cell (j := 1) rfl
  have zz := r1.1
  obtain ⟨W1, hW1⟩ : ∃ W1, W1 = w1.alloc (.cells #[.slice Ac o.schemas.length cc, .slice none 0 0] 25) := ⟨_, rfl⟩
  have aW1 : Aft w1 W1 := by rw [hW1]; exact (Aft.refl _).alloc _
  have hS0 : OwnS w W1 o w1.heap.size ⟨Ac, o.schemas.length, cc⟩ ⟨none, 0, 0⟩ [] 0 := by
    have own1' := own_aft own1 aW1
    refine ⟨HA1.out.trans aW1, r2.aft aW1, ?_, ⟨own1', own_nil _ _ _ _, fun x hx => by simp at hx, by simpa [blk_nil] using blk_nodup _⟩, fun g hg => ?_, rfl, hz1, rfl⟩
    · rw [hW1]; exact box_row2 (c := [.slice Ac o.schemas.length cc, .slice none 0 0]) (Aft.refl _)
    · have hg' : g ∈ (Hd.mk Ac o.schemas.length cc).blk := by simpa [blk_nil] using hg
      have := (blk_lt own1 g hg').2
      omega
  have HS0 := Lib.hid hS0
  have HT := Lib.hid htab
  have HM := Lib.hid hm
  have q1 := aW1.cell_kept b1
  have qz : w.heap.size < W1.heap.size := Nat.lt_of_lt_of_le zz aW1.size
  clear own1 ch1 a1 r1 r2 hS0 htab hsch hm C1
  go_wp2_with fail
  rw [← hW1]
  obtain ⟨n3, hn3⟩ : ∃ n, n = w1.heap.size := ⟨_, rfl⟩
  rw [← hn3] at HS0 ⊢
  clear hW1 hn3 b1 zz z0 hz1 q1 qz aW1 HA1
  go_loopw [13] (fun i wr => ∃ (k : Nat) (ht : Hd) (L : List OTab), k ≤ o.tables.length ∧ i = .int .i64 k ∧ OwnS w wr o n3 ⟨Ac, o.schemas.length, cc⟩ ht L k) (fun i _ => o.tables.length - (intOf i).toNat)
  case atStart => exact ⟨0, _, [], Nat.zero_le _, rfl, HS0.out⟩
  case round =>
    clear HS0
    obtain ⟨k, ht, L, hk, rfl, hs⟩ := hrel
    have HS := Lib.hid hs
    have z3 := hs.box.1
    have k1 := hs.box.cell (j := 1) rfl
    have f1 := hs.box.2.2 1 (by simp)
    by_cases hlt : k < o.tables.length
    · obtain ⟨b, off, A2, cap2, A3, cap3, rfl, hb, t0, t1, t2, t3, t4, hcols, hruls, hss⟩ := tab_at (tabs_aft hs.aft HT.out) hlt
      obtain ⟨p, hpp⟩ : ∃ p, o.tables[k] = p := ⟨_, rfl⟩
      rw [hpp] at t0 t1 t2 t3 t4 hcols hruls hss
      have HPP := Lib.hid hpp
      have C := Lib.hid (show ∀ w', Aft wr w' → _ from fun w' a => copied_in p A2 cap2 A3 cap3 w' (cols_aft a hcols) (ruls_aft a hruls) (by have := HM.out.2.2 p (by rw [← hpp]; exact List.getElem_mem hlt); exact this))
      have hzr : w.heap.size + 2 ≤ wr.heap.size := by have := hs.n3; omega
      obtain ⟨At', nt, ct⟩ := ht
      have htab := hs.obj.tab
      rw [hs.len] at htab
      have hnt : nt = k := own_n htab
      subst hnt
      have hown : wr.ownsRow (w.heap.size + 2) 34 5 (.slice At' nt ct) nt (L.flatMap OTab.cells) := htab
      have HOWN := Lib.hid hown
      have hneb : (Value.slice At' nt ct).ownBlock ≠ some n3 := fun e => hs.ne n3 (by simp only [List.mem_append]; exact .inr (.inl (Hd.mem_blk.2 e))) rfl
      have HB := Lib.hid hs.box
      clear hs htab hown hpp hcols hruls
      obtain ⟨W, hW⟩ : ∃ W, W = wr.alloc (.cells #[.string p.schema, .string p.name, .string p.owner, .slice A2 p.cols.length cap2, .slice A3 p.rules.length cap3] 34) := ⟨_, rfl⟩
      have zr3 : n3 < wr.heap.size + 1 := by omega
      have aW : Aft wr W := by rw [hW]; exact (Aft.refl _).alloc _
      have rW : RowAt W wr.heap.size [.string p.schema, .string p.name, .string p.owner, .slice A2 p.cols.length cap2, .slice A3 p.rules.length cap3] := by rw [hW]; exact box_row2 (Aft.refl _)
      have KF := Lib.hid (show ∀ w', Kb (fun g => (Value.slice At' nt ct).ownBlock = some g) W w' → (w'.cell? ⟨n3, 1, none⟩ = some (.slice At' nt ct) ∧ w'.cell? ⟨wr.heap.size, 0, none⟩ = some (.string p.schema) ∧ w'.cell? ⟨wr.heap.size, 1, none⟩ = some (.string p.name) ∧ w'.cell? ⟨wr.heap.size, 2, none⟩ = some (.string p.owner) ∧ w'.cell? ⟨wr.heap.size, 3, none⟩ = some (.slice A2 p.cols.length cap2) ∧ w'.cell? ⟨wr.heap.size, 4, none⟩ = some (.slice A3 p.rules.length cap3) ∧ w'.frozen? ⟨n3, 1, none⟩ = false ∧ n3 < w'.heap.size) from fun w' kb => by
        have hne2 : ¬ (Value.slice At' nt ct).ownBlock = some wr.heap.size := fun e => by have := (HOWN.out.lt _ e).2; omega
        have r' := kb.row rW hne2
        have r3 := kb.row (HB.out.aft aW) hneb
        exact ⟨kb.cell (aW.cell_kept k1) hneb, r'.cell (j := 0) rfl, r'.cell (j := 1) rfl, r'.cell (j := 2) rfl, r'.cell (j := 3) rfl, r'.cell (j := 4) rfl, r3.2.2 1 (by simp), r3.1⟩)
      have HAW := Lib.hid aW
      have h63 : nt + 1 ≤ maxLen := by unfold maxLen; omega
      have hby : (nt + 1) * 96 ≤ 140737488355328 := by have := HM.out.2.1; omega
      have wz : n3 < W.heap.size := Nat.lt_of_lt_of_le z3 aW.size
      clear hneb rW aW
      go_wp2_with fail
      rw [← hW]
      clear hW
      obtain ⟨q1, q2, q3, q4, q5, q6, q7, q8⟩ := KF.out _ (Kb.refl _ _)
      go_region_law ((first | (go_simp; go_at_call 74; refine (C.out _ HAW.out.drew).mono ?_; rintro e w4 ⟨x, hxt, rfl, a4, tin, xnd⟩; have a5 : Aft W w4 := (Aft.refl _).drew.trans a4; obtain ⟨p1, p2, p3, p4, p5, p6, p7, p8⟩ := KF.out w4 (Kb.of_aft a5); dsimp only) | (refine step_append_lies _ (by rfl) _ _ _ (by rfl) (w.heap.size + 2) 34 i0 _ 5 96 Try.underlying23 HI.out HZ0.out HZ1.out HZ2.out rfl (by omega) (.slice At' nt ct) nt (L.flatMap OTab.cells) (by rfl) ((own_aft HOWN.out (HAW.out.trans a5)).alloc _) ⟨w4.heap.size, 0, none⟩ 1 1 [.string p.schema, .string p.name, .string p.owner, .slice x.hc.a p.cols.length x.hc.c, .slice x.hr.a p.rules.length x.hr.c] (by rfl) (by rfl) (World.news_of_block (cs := #[.string p.schema, .string p.name, .string p.owner, .slice x.hc.a p.cols.length x.hc.c, .slice x.hr.a p.rules.length x.hr.c]) (t := 34) (fr := (0, 0)) (heap_alloc_new w4 _)) (by simp [Value.oneCell']) (by omega) h63 hby (by simp; have := (HAW.out.trans a5).size; omega) (w4.heap.size + 1) (by simp) ?_; intro gg cap' w5 hown5 hgrow hat hgl; obtain ⟨s1, s2, s3, s4, s5, s6, s7, s8⟩ := KF.out _ ((Kb.of_aft (a5.alloc _)).trans (Kb.of_grown hgrow)))))
      all_goals
        have HREL := Lib.hid (HS.out.step (ht' := ⟨some ⟨gg, 0, none⟩, nt + 1, cap'⟩) (x := x) hlt (by rw [hxt, HPP.out]) ((HAW.out.trans a5).alloc _) ((tin.down (by show wr.heap.size ≤ W.heap.size; exact HAW.out.size)).aft ((Aft.refl _).alloc _)) xnd hgrow (by rw [OTab.cells_of tin hxt]; exact hown5)
          (fun g hg => by
            rw [blk_some, List.mem_singleton] at hg
            subst hg
            rcases hat with h1 | h1
            · exact .inl (Hd.mem_blk.2 h1)
            · refine .inr ?_
              simp
              omega)
          (fun g hg hx => by
            rw [blk_some, List.mem_singleton] at hg
            subst hg
            have h2 := tin.lt _ hx
            have h3 := HAW.out.size
            have h4 : W.heap.size ≤ g := h2.1
            rcases hat with h1 | h1
            · have := (HOWN.out.lt _ h1).2
              omega
            · omega))
        clear tin xnd hown5 hgrow hat hgl a5 a4 hxt q1 q2 q3 q4 q5 q6 q7 q8 p1 p2 p3 p4 p5 p6 p7 p8 s1 s2 s3 s4 s5 s6 s7 s8
        go_wp2_with fail
        go_roundw
        case rel => exact ⟨nt + 1, _, _, by omega, by go_num, HREL.out⟩
        case measure => simp [intOf]; omega
    · have c0 := hs.box.cell (j := 0) rfl
      have d0 := hs.out.cell (j := 0) rfl
      have d1 := hs.out.cell (j := 1) rfl
      have e0 := hs.out.2.2 0 (by simp)
      have e1 := hs.out.2.2 1 (by simp)
      have dz := hs.out.1
      clear hs
      go_wp2_with fail
      (try simp only [Exit.inBlock, Exit.then])
      have hs := HS.out
      obtain ⟨F, hF⟩ : ∃ F, F = (wr.setCell ⟨w.heap.size + 1, 0, none⟩ (.slice Ac o.schemas.length cc)).setCell ⟨w.heap.size + 1, 1, none⟩ (.slice ht.a k ht.c) := ⟨_, rfl⟩
      have kF : Kb (fun x => x = w.heap.size + 1) wr F := by
        rw [hF]
        exact (Kb.set _ _ _ _).trans (Kb.set _ _ _ _)
      have rF : RowAt F (w.heap.size + 1) [.slice Ac o.schemas.length cc, .slice ht.a k ht.c] := by
        rw [hF]
        exact (hs.out.set 0 _ (by simp)).set 1 _ (by simp)
      rw [← hF]
      refine bodyPost_ret (results_cell (v := .agg #[.slice Ac o.schemas.length cc, .slice ht.a k ht.c]) rfl _ rfl ?hl) rfl ?_
      case hl => exact lvObj_row rF
      have hkn : k = o.tables.length := by omega
      subst hkn
      have his := hs.is
      rw [List.take_of_length_le (Nat.le_refl _)] at his
      refine ⟨⟨Ac, o.schemas.length, cc⟩, ht, L, his, rfl, kF.to_aft hs.aft (fun x hx e => by omega), ?_⟩
      refine ObjIn.down (hs.obj.kb kF fun g hg e => ?_) (by omega)
      have := (hs.obj.lt g hg).1
      omega
end Go.Proofs.Ytodifdofgjfkiaa
