/- The document's Own: objects in memory of their own. -/
import Derived.Test.YtodifdofgjfkiaaRefCopy
import Derived.Deep.DeepMust
namespace Go.Proofs.Ytodifdofgjfkiaa
open Go.RowKit Go.Deep
set_option maxRecDepth 100000
set_option linter.unusedVariables false
theorem OwnS.row0 {w wr w4 w5 : World} {o : Objs} {n3 : Nat} {hs ht : Hd} {L : List OTab} {k : Nat} (s : OwnS w wr o n3 hs ht L k) (a4 : Aft wr w4) (hg : w4.grownBy w5 ht.v.ownBlock) (v : Value) {xs : List Value} (hr : RowAt wr w.heap.size xs) : RowAt (w5.setCell ⟨n3, 1, none⟩ v) w.heap.size xs := by
  have k5 : Kb (fun g => g = n3) w5 (w5.setCell ⟨n3, 1, none⟩ v) := Kb.set _ _ _ _
  have kg : Kb (fun g => ht.v.ownBlock = some g) w4 w5 := Kb.of_grown hg
  have hn3 := s.n3
  exact k5.row (kg.row (hr.aft a4) (fun h1 => by have := (s.obj.tab.lt _ h1).1; omega)) (by omega)
set_option maxHeartbeats 8000000 in
theorem rOwn_in (o : Objs) (As : Option Addr) (caps : Nat) (At : Option Addr) (capt : Nat) (w : World) (hsch : SlAt w 2 SchR As caps o.schemas) (htab : SlAt w 5 TabR At capt o.tables) (hm : ModO o) :
    Calls Try.prog 19 #[.agg #[.slice As o.schemas.length caps, .slice At o.tables.length capt]] w (OwnO w o) := by
  obtain ⟨i0, hi, hz0, hz1, hz2⟩ := info_parts info2Tab
  have HI := Lib.hid hi
  have HZ0 := Lib.hid hz0
  have HZ1 := Lib.hid hz1
  have HZ2 := Lib.hid hz2
  clear hi hz0 hz1 hz2
  obtain ⟨i1, hi, hz0, hz1, hz2⟩ := info_parts info2Sch2
  have JI := Lib.hid hi
  have JZ0 := Lib.hid hz0
  have JZ1 := Lib.hid hz1
  have JZ2 := Lib.hid hz2
  clear hi hz0 hz1 hz2
  have hlen := hsch.len
  have hlen2 := htab.len
  have l1 : w.heap.size < w.heap.size + 1 := by omega
  have l2 : w.heap.size < w.heap.size + 1 + 1 := by omega
  have l3 : w.heap.size < w.heap.size + 1 + 1 + 1 := by omega
  obtain ⟨W, hW⟩ : ∃ W, W = ((w.alloc (.cells #[.slice As o.schemas.length caps, .slice At o.tables.length capt] 25)).alloc (.cells #[.slice none 0 0, .slice none 0 0] 25)).alloc (.cells #[.slice none 0 0, .slice none 0 0] 25) := ⟨_, rfl⟩
  have aW : Aft w W := by rw [hW]; exact (((Aft.refl w).alloc _).alloc _).alloc _
  have r1 : RowAt W w.heap.size [.slice As o.schemas.length caps, .slice At o.tables.length capt] := by rw [hW]; exact (box_row2 (Aft.refl _)).aft (((Aft.refl _).alloc _).alloc _)
  have r2 : RowAt W (w.heap.size + 1) [.slice none 0 0, .slice none 0 0] := by
    rw [hW]
    have := (box_row2 (w := w.alloc (.cells #[.slice As o.schemas.length caps, .slice At o.tables.length capt] 25)) (c := [.slice none 0 0, .slice none 0 0]) (t := 25) (Aft.refl _)).aft ((Aft.refl _).alloc (.cells #[.slice none 0 0, .slice none 0 0] 25))
    simpa using this
  have r3 : RowAt W (w.heap.size + 2) [.slice none 0 0, .slice none 0 0] := by
    rw [hW]
    have := (box_row2 (w := (w.alloc (.cells #[.slice As o.schemas.length caps, .slice At o.tables.length capt] 25)).alloc (.cells #[.slice none 0 0, .slice none 0 0] 25)) (c := [.slice none 0 0, .slice none 0 0]) (t := 25) (Aft.refl _))
    simpa using this
  have zW : W.heap.size = w.heap.size + 3 := by rw [hW]; simp
  have HC := Lib.hid (sl_cells hsch (by decide) (fun _ _ h => h.1) aW)
  have HN := Lib.hid (sl_none hsch)
  have HM := Lib.hid hm
  have HT := Lib.hid htab
  have HR1 := Lib.hid r1
  have HR2 := Lib.hid r2
  have HR3 := Lib.hid r3
  have HAW := Lib.hid aW
  have hq4 : o.schemas.length ≤ maxLen := by unfold maxLen; omega
  have hq5 : o.schemas.length * 32 ≤ 140737488355328 := by have := hm.1; omega
  clear hsch htab hm r1 r2 r3 aW
  go_enter Try.func19, Try.ntmps19
  go_wp2_with (at_builtin; go_must (refine wpList_append_new _ rfl _ _ 22 rfl 84 i1 _ 2 32 Try.underlying22 JI.out JZ0.out JZ1.out JZ2.out rfl (by decide) rfl As o.schemas.length caps (o.schemas.flatMap schC) rfl (schC_len _) HN.out ?qc (oneC_cells oneC_sch _) hq4 hq5 ?_); rotate_left; intro Ac cc w1 own1 a1; have a1 : Aft W w1 := (by rw [hW]; exact a1); have b3 := (HR3.out.aft a1).cell (j := 0) rfl; have f3 := (HR3.out.aft a1).2.2 0 (by simp); have z3 := (HR3.out.aft a1).1)
  case qc => rw [← hW]; exact HC.out
  have own1 : w1.ownsRow W.heap.size 84 2 (Hd.mk Ac o.schemas.length cc).v o.schemas.length (o.schemas.flatMap schC) := by rw [hW]; exact own1
  obtain ⟨n3, hn3⟩ : ∃ n, n = w.heap.size + 2 := ⟨_, rfl⟩
  obtain ⟨W1, hW1⟩ : ∃ W1, W1 = w1.setCell ⟨w.heap.size + 1 + 1, 0, none⟩ (.slice Ac o.schemas.length cc) := ⟨_, rfl⟩
  have kW1 : Kb (fun g => g = n3) w1 W1 := by rw [hW1, hn3]; exact Kb.set _ _ _ _
  have HS0 := Lib.hid (show OwnS w W1 o n3 ⟨Ac, o.schemas.length, cc⟩ ⟨none, 0, 0⟩ [] 0 ∧ RowAt W1 w.heap.size [.slice As o.schemas.length caps, .slice At o.tables.length capt] from by
    have hge : ∀ g ∈ (Hd.mk Ac o.schemas.length cc).blk, w.heap.size + 3 ≤ g := fun g hg => by have := (blk_lt own1 g hg).1; omega
    refine ⟨⟨kW1.to_aft (HAW.out.trans a1) (fun x hx e => by omega), kW1.row (HR2.out.aft a1) (by omega), ?_, ⟨own_kb (own_down own1 (by omega)) kW1 (fun g hg e => by have := hge g (Hd.mem_blk.2 hg); omega), own_nil _ _ _ _, fun x hx => by simp at hx, by simpa [blk_nil] using blk_nodup _⟩, fun g hg => ?_, rfl, by omega, rfl⟩, kW1.row (HR1.out.aft a1) (by omega)⟩
    · rw [hW1, hn3]; exact (HR3.out.aft a1).set 0 _ (by simp)
    · have hg' : g ∈ (Hd.mk Ac o.schemas.length cc).blk := by simpa [blk_nil] using hg
      have := hge g hg'
      omega)
  rw [← hW1]
  have e3 : w.heap.size + 1 + 1 = n3 := by omega
  rw [e3]
  clear hW own1 a1 HC HN zW HR1 HR2 HR3 HAW hq4 hq5 JI JZ0 JZ1 JZ2 hW1 kW1 b3 f3 z3 hn3 e3 l2 l3
  go_loopw [4] (fun i wr => ∃ (k : Nat) (ht : Hd) (L : List OTab), k ≤ o.tables.length ∧ i = .int .i64 k ∧ OwnS w wr o n3 ⟨Ac, o.schemas.length, cc⟩ ht L k ∧ RowAt wr w.heap.size [.slice As o.schemas.length caps, .slice At o.tables.length capt]) (fun i _ => o.tables.length - (intOf i).toNat)
  case atStart => exact ⟨0, _, [], Nat.zero_le _, rfl, HS0.out⟩
  case round =>
    clear HS0
    obtain ⟨k, ht, L, hk, rfl, hs, hbx⟩ := hrel
    have HBX := Lib.hid hbx
    have v1 := hbx.cell (j := 1) rfl
    have v2 := hbx.1
    clear hbx
    have HS := Lib.hid hs
    have z3 := hs.box.1
    have k1 := hs.box.cell (j := 1) rfl
    have f1 := hs.box.2.2 1 (by simp)
    by_cases hlt : k < o.tables.length
    · obtain ⟨b, off, A2, cap2, A3, cap3, rfl, hb, t0, t1, t2, t3, t4, hcols, hruls, hss⟩ := tab_at HT.out hlt
      obtain ⟨p, hpp⟩ : ∃ p, o.tables[k] = p := ⟨_, rfl⟩
      rw [hpp] at t0 t1 t2 t3 t4 hcols hruls hss
      have HPP := Lib.hid hpp
      have C := Lib.hid (show ∀ w', Aft wr w' → _ from fun w' a => rCopy_in p A2 cap2 A3 cap3 w' (cols_aft (hs.aft.trans a) hcols) (ruls_aft (hs.aft.trans a) hruls) (by have := HM.out.2.2 p (by rw [← hpp]; exact List.getElem_mem hlt); exact this))
      have hzr : w.heap.size + 2 ≤ wr.heap.size := by have := hs.n3; omega
      obtain ⟨At', nt, ct⟩ := ht
      have htab := hs.obj.tab
      rw [hs.len] at htab
      have hnt : nt = k := own_n htab
      subst hnt
      have hown : wr.ownsRow (w.heap.size + 2) 34 5 (.slice At' nt ct) nt (L.flatMap OTab.cells) := htab
      have HOWN := Lib.hid hown
      have hneb : (Value.slice At' nt ct).ownBlock ≠ some n3 := fun e => hs.ne n3 (by simp only [List.mem_append]; exact .inr (.inl (Hd.mem_blk.2 e))) rfl
      have HB := Lib.hid hs.box
      have KF := Lib.hid (show ∀ w', Kb (fun g => (Value.slice At' nt ct).ownBlock = some g) wr w' → (w'.cell? ⟨n3, 1, none⟩ = some (.slice At' nt ct) ∧ w'.cell? ⟨w.heap.size, 1, none⟩ = some (.slice (some ⟨b, off, none⟩) o.tables.length capt) ∧ w'.cell? ⟨b, off + nt * 5, none⟩ = some (.string p.schema) ∧ w'.cell? ⟨b, off + nt * 5 + 1, none⟩ = some (.string p.name) ∧ w'.cell? ⟨b, off + nt * 5 + 2, none⟩ = some (.string p.owner) ∧ w'.cell? ⟨b, off + nt * 5 + 3, none⟩ = some (.slice A2 p.cols.length cap2) ∧ w'.cell? ⟨b, off + nt * 5 + 4, none⟩ = some (.slice A3 p.rules.length cap3) ∧ w'.frozen? ⟨n3, 1, none⟩ = false ∧ n3 < w'.heap.size) from fun w' kb => by
        have hne2 : ¬ (Value.slice At' nt ct).ownBlock = some b := fun e => by have := (HOWN.out.lt _ e).1; omega
        have hne3 : ¬ (Value.slice At' nt ct).ownBlock = some w.heap.size := fun e => by have := (HOWN.out.lt _ e).1; omega
        have r3 := kb.row HB.out hneb
        exact ⟨kb.cell k1 hneb, kb.cell v1 hne3, kb.cell (hs.aft.cell_kept t0) hne2, kb.cell (hs.aft.cell_kept t1) hne2, kb.cell (hs.aft.cell_kept t2) hne2, kb.cell (hs.aft.cell_kept t3) hne2, kb.cell (hs.aft.cell_kept t4) hne2, r3.2.2 1 (by simp), r3.1⟩)
      have h63 : nt + 1 ≤ maxLen := by unfold maxLen; omega
      have hby : (nt + 1) * 96 ≤ 140737488355328 := by have := HM.out.2.1; omega
      have hb0 : (0 : Int) ≤ (nt : Int) := by omega
      have hb1 : (nt : Int) < (o.tables.length : Int) := by omega
      clear hs htab hown hpp hcols hruls hneb t0 t1 t2 t3 t4
      go_wp2_with fail
      obtain ⟨q1, q2, q3, q4, q5, q6, q7, q8, q9⟩ := KF.out _ (Kb.refl _ _)
      go_region_law ((first | (go_simp; go_at_call 72; refine (C.out _ (Aft.refl _).drew).mono ?_; rintro e w4 ⟨x, hxt, rfl, a4, tin, xnd⟩; have a5 : Aft wr w4 := (Aft.refl _).drew.trans a4; obtain ⟨p1, p2, p3, p4, p5, p6, p7, p8, p9⟩ := KF.out w4 (Kb.of_aft a5); dsimp only) | (refine step_append_lies _ (by rfl) _ _ _ (by rfl) (w.heap.size + 2) 34 i0 _ 5 96 Try.underlying23 HI.out HZ0.out HZ1.out HZ2.out rfl (by omega) (.slice At' nt ct) nt (L.flatMap OTab.cells) (by rfl) ((own_aft HOWN.out a5).alloc _) ⟨w4.heap.size, 0, none⟩ 1 1 [.string p.schema, .string p.name, .string p.owner, .slice x.hc.a p.cols.length x.hc.c, .slice x.hr.a p.rules.length x.hr.c] (by rfl) (by rfl) (World.news_of_block (cs := #[.string p.schema, .string p.name, .string p.owner, .slice x.hc.a p.cols.length x.hc.c, .slice x.hr.a p.rules.length x.hr.c]) (t := 34) (fr := (0, 0)) (heap_alloc_new w4 _)) (by simp [Value.oneCell']) (by omega) h63 hby (by simp; have := a5.size; omega) (w4.heap.size + 1) (by simp) ?_; intro gg cap' w5 hown5 hgrow hat hgl; obtain ⟨s1, s2, s3, s4, s5, s6, s7, s8, s9⟩ := KF.out _ ((Kb.of_aft (a5.alloc _)).trans (Kb.of_grown hgrow)))))
      all_goals
        have HREL0 := Lib.hid (HS.out.row0 (a5.alloc _) hgrow (.slice (some ⟨gg, 0, none⟩) (nt + 1) cap') HBX.out)
        have HREL := Lib.hid (HS.out.step (ht' := ⟨some ⟨gg, 0, none⟩, nt + 1, cap'⟩) (x := x) hlt (by rw [hxt, HPP.out]) (a5.alloc _) (tin.aft ((Aft.refl _).alloc _)) xnd hgrow (by rw [OTab.cells_of tin hxt]; exact hown5)
          (fun g hg => by
            rw [blk_some, List.mem_singleton] at hg
            subst hg
            rcases hat with h1 | h1
            · exact .inl (Hd.mem_blk.2 h1)
            · refine .inr ?_
              simp
              omega)
          (fun g hg hx => by
            rw [blk_some, List.mem_singleton] at hg
            subst hg
            have h2 := tin.lt _ hx
            have h4 : wr.heap.size ≤ g := h2.1
            rcases hat with h1 | h1
            · have := (HOWN.out.lt _ h1).2
              omega
            · omega))
        clear tin xnd hown5 hgrow hat hgl a5 a4 hxt q1 q2 q3 q4 q5 q6 q7 q8 q9 p1 p2 p3 p4 p5 p6 p7 p8 p9 s1 s2 s3 s4 s5 s6 s7 s8 s9
        go_wp2_with fail
        go_roundw
        case rel => exact ⟨nt + 1, _, _, by omega, by go_num, HREL.out, HREL0.out⟩
        case measure => simp [intOf]; omega
    · have c0 := hs.box.cell (j := 0) rfl
      have d0 := hs.out.cell (j := 0) rfl
      have d1 := hs.out.cell (j := 1) rfl
      have e0 := hs.out.2.2 0 (by simp)
      have e1 := hs.out.2.2 1 (by simp)
      have dz := hs.out.1
      clear hs
      go_wp2_with fail
      (try simp only [Exit.inBlock, Exit.then])
      have hs := HS.out
      obtain ⟨F, hF⟩ : ∃ F, F = (wr.setCell ⟨w.heap.size + 1, 0, none⟩ (.slice Ac o.schemas.length cc)).setCell ⟨w.heap.size + 1, 1, none⟩ (.slice ht.a k ht.c) := ⟨_, rfl⟩
      have kF : Kb (fun x => x = w.heap.size + 1) wr F := by
        rw [hF]
        exact (Kb.set _ _ _ _).trans (Kb.set _ _ _ _)
      have rF : RowAt F (w.heap.size + 1) [.slice Ac o.schemas.length cc, .slice ht.a k ht.c] := by
        rw [hF]
        exact (hs.out.set 0 _ (by simp)).set 1 _ (by simp)
      rw [← hF]
      refine bodyPost_ret (results_cell (v := .agg #[.slice Ac o.schemas.length cc, .slice ht.a k ht.c]) rfl _ rfl ?hl) rfl ?_
      case hl => exact lvObj_row rF
      have hkn : k = o.tables.length := by omega
      subst hkn
      have his := hs.is
      rw [List.take_of_length_le (Nat.le_refl _)] at his
      refine ⟨⟨Ac, o.schemas.length, cc⟩, ht, L, his, rfl, kF.to_aft hs.aft (fun x hx e => by omega), ?_⟩
      refine ObjIn.down (hs.obj.kb kF fun g hg e => ?_) (by omega)
      have := (hs.obj.lt g hg).1
      omega
end Go.Proofs.Ytodifdofgjfkiaa
