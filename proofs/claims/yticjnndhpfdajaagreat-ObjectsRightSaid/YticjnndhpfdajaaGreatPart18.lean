/- Contracts of the program, part 18. -/
import Derived.Test.YticjnndhpfdajaaGreatPart8
import Derived.Test.YticjnndhpfdajaaGreatPart16
import Derived.Test.YticjnndhpfdajaaGreatPart17
import Derived.IntWalk
import Derived.Test.YticjnndhpfdajaaGreatPart9
import Derived.Deep.DeepMust
/- objects.AddSchema, objects.DropSchema: the closures. -/
namespace Go.Proofs.YticjnndhpfdajaaGreat
open Go.RowKit Go.Deep Go.Sort
set_option maxRecDepth 100000
set_option linter.unusedVariables false
/-- the schemas lie in another row now, or the same row holds others -/
theorem ObjIn.newSch {P : Nat → Prop} {w w' : World} {B : Nat} {hs ht h' : Hd} {ss ss' : List Sch} {L : List OTab} (ob : ObjIn w B hs ht ss L) (k : Kb P w w') (hP : ∀ g, g ∈ ht.blk ++ L.flatMap OTab.blks → ¬ P g) (ho : w'.ownsRow B 99 2 h'.v ss'.length (ss'.flatMap schC)) (hb : ∀ g ∈ h'.blk, g ∈ hs.blk ∨ w.heap.size ≤ g) : ObjIn w' B h' ht ss' L := by
  refine ⟨ho, own_kb ob.tab k fun g hg => hP g (List.mem_append.2 (.inl (Hd.mem_blk.2 hg))), fun x hx => (ob.each x hx).kb k fun g hg => hP g (List.mem_append.2 (.inr (List.mem_flatMap.2 ⟨x, hx, hg⟩))), ?_⟩
  refine List.nodup_append.2 ⟨blk_nodup _, (List.nodup_append.1 ob.nd).2.1, fun a ha b hb2 e => ?_⟩
  subst e
  rcases hb a ha with h1 | h1
  · exact nodup_disj ob.nd h1 hb2
  · have := (ob.lt a (List.mem_append.2 (.inr hb2))).2
    omega
def addSchR (name owner : ByteArray) (o : Objs) : Objs × Int :=
  if (!nameB name || !nameB owner) then (zeroO, 1) else if 0 ≤ schAt o.schemas name then (zeroO, 60) else if 8 ≤ o.schemas.length then (zeroO, 2) else (⟨insAt o.schemas (posB cmpSc o.schemas ⟨name, owner⟩) ⟨name, owner⟩, o.tables⟩, 0)
def dropSchR (name : ByteArray) (o : Objs) : Objs × Int :=
  if schAt o.schemas name < 0 then (zeroO, 61) else if 0 < within o.tables name then (zeroO, 62) else (⟨o.schemas.eraseIdx (schAt o.schemas name).toNat, o.tables⟩, 0)
set_option maxHeartbeats 1000000 in
theorem schLess (x y : Sch) (W : World) : Calls Tryz.prog 91 (#[.agg (schC x).toArray, .agg (schC y).toArray] ++ #[]) W fun e w' => e = .returned (.int .i64 (cmpSc x y)) ∧ ∃ q os', w' = grow (W.drewN q) os' := by
  show Calls Tryz.prog 91 #[.agg #[.string x.name, .string x.owner], .agg #[.string y.name, .string y.owner]] W _
  have hcon := fun W' => compare_any x.name y.name W'
  unfold cmpSc
  generalize cmpS x.name y.name = r at hcon ⊢
  have l1 : W.heap.size < W.heap.size + 1 := by omega
  have l2 : W.heap.size < W.heap.size + 1 + 1 := by omega
  go_enter Tryz.func91, Tryz.ntmps91
  go_wp2_with (go_at_call 69; refine (hcon _).mono ?_; rintro e w' ⟨rfl, rfl⟩)
  go_ret
  exact ⟨rfl, 0, _, by rw [alloc_eq_grow, alloc_eq_grow, grow_grow]; rfl⟩
theorem schC_len2 (x : Sch) : (schC x).length = 2 := rfl
theorem sortSchF (blk cap B : Nat) (l : List Sch) (h0 : 0 < l.length) (hsz : l.length ≤ 1000000) (w : World) (ho : w.ownsRow B 99 2 (.slice (some ⟨blk, 0, none⟩) l.length cap) l.length (l.flatMap schC)) :
    Calls Tryz.prog 90 #[.slice (some ⟨blk, 0, none⟩) l.length cap, .func (.func 91) #[] #[]] w (SortedP 99 2 schC cmpSc w B blk cap l) :=
  sort_own sortSch_lays 2 Tryz.isAgg99 Tryz.sizeOf99 schC schC_len2 oneC_sch cmpSc preSc.swo 91 #[] 99 B blk cap l h0 hsz w ho (enters (P := Tryz.prog) Tryz.func91 (by kernel_rfl) rfl) (fun W x y => schLess x y W)
end Go.Proofs.YticjnndhpfdajaaGreat
/- The document's Copy: a table in memory of its own. -/
namespace Go.Proofs.YticjnndhpfdajaaGreat
open Go.RowKit Go.Deep
set_option maxRecDepth 100000
set_option linter.unusedVariables false
theorem colC_len (l : List Col) : (l.flatMap colC).length = l.length * 3 := flatMap_len (size := 3) (fun _ => rfl) l
theorem nameC_len (l : List ByteArray) : (l.flatMap nameC).length = l.length * 1 := flatMap_len (size := 1) (fun _ => rfl) l
theorem schC_len (l : List Sch) : (l.flatMap schC).length = l.length * 2 := flatMap_len (size := 2) (fun _ => rfl) l
structure RCopyS (w wr : World) (t : Tab) (A : Option Addr) (cap : Nat) (A2 : Option Addr) (cap2 : Nat) (hc hr : Hd) (L : List ORul) (k : Nat) : Prop where
  aft : Aft w wr
  box : RowAt wr w.heap.size [.string t.schema, .string t.name, .string t.owner, .slice A t.cols.length cap, .slice A2 t.rules.length cap2]
  out : RowAt wr (w.heap.size + 1) [.string ⟨#[]⟩, .string ⟨#[]⟩, .string ⟨#[]⟩, .slice none 0 0, .slice none 0 0]
  col : wr.ownsRow (w.heap.size + 2) 41 3 hc.v t.cols.length (t.cols.flatMap colC)
  rul : wr.ownsRow (w.heap.size + 2) 29 8 hr.v k (L.flatMap ORul.cells)
  len : L.length = k
  is : L.map (·.r) = t.rules.take k
  each : ∀ x ∈ L, RulIn wr (w.heap.size + 2) x
  nd : (hc.blk ++ (hr.blk ++ L.flatMap (·.h.blk))).Nodup
theorem RCopyS.lt {w wr : World} {t : Tab} {A A2 : Option Addr} {cap cap2 : Nat} {hc hr : Hd} {L : List ORul} {k : Nat} (s : RCopyS w wr t A cap A2 cap2 hc hr L k) : ∀ g ∈ hc.blk ++ (hr.blk ++ L.flatMap (·.h.blk)), w.heap.size + 2 ≤ g ∧ g < wr.heap.size := by
  intro g hg
  simp only [List.mem_append, List.mem_flatMap] at hg
  rcases hg with hg | hg | ⟨r, hr, hg⟩
  · exact blk_lt s.col g hg
  · exact blk_lt s.rul g hg
  · exact blk_lt (s.each r hr).nam g hg
theorem RCopyS.step {w wr w4 w5 : World} {t : Tab} {A A2 : Option Addr} {cap cap2 : Nat} {hc hr hr' h4 : Hd} {L : List ORul} {k : Nat} (s : RCopyS w wr t A cap A2 cap2 hc hr L k) (hk : k < t.rules.length)
    (a4 : Aft wr w4) (own4 : w4.ownsRow wr.heap.size 9 1 h4.v t.rules[k].cols.length (t.rules[k].cols.flatMap nameC)) (hg : w4.grownBy w5 hr.v.ownBlock)
    (ho : w5.ownsRow (w.heap.size + 2) 29 8 hr'.v (k + 1) (L.flatMap ORul.cells ++ rulC t.rules[k] h4)) (hb : ∀ g ∈ hr'.blk, g ∈ hr.blk ∨ w4.heap.size ≤ g) : RCopyS w w5 t A cap A2 cap2 hc hr' (L ++ [⟨t.rules[k], h4⟩]) (k + 1) := by
  have hlt := s.lt
  have nd := s.nd
  have nd2 := (List.nodup_append.1 nd).2.1
  have kg : Kb (fun g => hr.v.ownBlock = some g) w4 w5 := Kb.of_grown hg
  have ka : Kb (fun g => hr.v.ownBlock = some g) wr w5 := (Kb.of_aft a4).trans kg
  have hrl : ∀ g, hr.v.ownBlock = some g → w.heap.size + 2 ≤ g ∧ g < wr.heap.size := fun g h1 => s.rul.lt g h1
  have hz := a4.size
  have hzo := s.out.1
  have hx4 : ∀ g ∈ h4.blk, wr.heap.size ≤ g ∧ g < w4.heap.size := blk_lt own4
  refine ⟨ka.to_aft s.aft (fun g hgl h1 => by have := hrl g h1; omega), ka.row s.box (fun h1 => by have := hrl _ h1; omega), ka.row s.out (fun h1 => by have := hrl _ h1; omega), own_kb s.col ka (fun g hg1 hg2 => nodup_disj nd (Hd.mem_blk.2 hg1) (by simp [Hd.mem_blk.2 hg2])), ?_, by simp [s.len], ?_, ?_, ?_⟩
  · rw [List.flatMap_append]
    simpa [ORul.cells] using ho
  · rw [List.map_append, s.is, List.take_succ_eq_append_getElem hk]; rfl
  · intro x hx
    simp only [List.mem_append, List.mem_singleton] at hx
    rcases hx with hx | rfl
    · exact (s.each x hx).kb ka fun g hg1 hg2 => nodup_disj nd2 (Hd.mem_blk.2 hg2) (List.mem_flatMap.2 ⟨x, hx, hg1⟩)
    · exact ⟨own_down (own_kb own4 kg fun g hg1 hg2 => by have := (own4.lt g hg1).1; have := (hrl g hg2).2; omega) (by omega)⟩
  · rw [List.flatMap_append]
    have e : [ORul.mk t.rules[k] h4].flatMap (·.h.blk) = h4.blk := by simp
    rw [e]
    refine List.nodup_append.2 ⟨(List.nodup_append.1 nd).1, List.nodup_append.2 ⟨blk_nodup _, nodup_more (List.nodup_append.1 nd2).2.1 (blk_nodup _) (fun g hg => (hlt g (by simp only [List.mem_append]; exact .inr (.inr hg))).2) (fun g hg => (hx4 g hg).1), ?_⟩, ?_⟩
    · intro a ha b hb2 e
      subst e
      rcases List.mem_append.1 hb2 with h1 | h1
      · rcases hb a ha with h2 | h2
        · exact nodup_disj nd2 h2 h1
        · have := (hlt a (by simp only [List.mem_append]; exact .inr (.inr h1))).2; omega
      · rcases hb a ha with h2 | h2
        · have := (hlt a (by simp [h2])).2; have := (hx4 a h1).1; omega
        · have := (hx4 a h1).2; omega
    · intro a ha b hb2 e
      subst e
      have := (hlt a (by simp [ha])).2
      rcases List.mem_append.1 hb2 with h1 | h1
      · rcases hb a h1 with h2 | h2
        · exact nodup_disj nd ha (by simp [h2])
        · omega
      · rcases List.mem_append.1 h1 with h1 | h1
        · exact nodup_disj nd ha (List.mem_append.2 (.inr h1))
        · have := (hx4 a h1).1; omega
set_option maxHeartbeats 8000000 in
theorem rCopy_in (t : Tab) (A : Option Addr) (cap : Nat) (A2 : Option Addr) (cap2 : Nat) (w : World) (h : SlAt w 3 ColR A cap t.cols) (h2 : SlAt w 8 RulR A2 cap2 t.rules) (hm : ModT t) :
    Calls Tryz.prog 59 #[.agg #[.string t.schema, .string t.name, .string t.owner, .slice A t.cols.length cap, .slice A2 t.rules.length cap2]] w (CopyO w t) := by
  obtain ⟨i0, hi, hz0, hz1, hz2⟩ := info_parts info2Rul2
  have HI := Lib.hid hi
  have HZ0 := Lib.hid hz0
  have HZ1 := Lib.hid hz1
  have HZ2 := Lib.hid hz2
  clear hi hz0 hz1 hz2
  obtain ⟨i1, hi, hz0, hz1, hz2⟩ := info_parts info2Col2
  have JI := Lib.hid hi
  have JZ0 := Lib.hid hz0
  have JZ1 := Lib.hid hz1
  have JZ2 := Lib.hid hz2
  clear hi hz0 hz1 hz2
  obtain ⟨i2, hi, hz0, hz1, hz2⟩ := info_parts info2Str2
  have KI := Lib.hid hi
  have KZ0 := Lib.hid hz0
  have KZ1 := Lib.hid hz1
  have KZ2 := Lib.hid hz2
  clear hi hz0 hz1 hz2
  have hlen := h.len
  have hlen2 := h2.len
  have l1 : w.heap.size < w.heap.size + 1 := by omega
  have l2 : w.heap.size < w.heap.size + 1 + 1 := by omega
  obtain ⟨W, hW⟩ : ∃ W, W = (w.alloc (.cells #[.string t.schema, .string t.name, .string t.owner, .slice A t.cols.length cap, .slice A2 t.rules.length cap2] 50)).alloc (.cells #[.string ⟨#[]⟩, .string ⟨#[]⟩, .string ⟨#[]⟩, .slice none 0 0, .slice none 0 0] 50) := ⟨_, rfl⟩
  have aW : Aft w W := by rw [hW]; exact ((Aft.refl w).alloc _).alloc _
  have r1 : RowAt W w.heap.size [.string t.schema, .string t.name, .string t.owner, .slice A t.cols.length cap, .slice A2 t.rules.length cap2] := by rw [hW]; exact (box_row2 (Aft.refl _)).aft ((Aft.refl _).alloc _)
  have r2 : RowAt W (w.heap.size + 1) [.string ⟨#[]⟩, .string ⟨#[]⟩, .string ⟨#[]⟩, .slice none 0 0, .slice none 0 0] := by
    rw [hW]
    have := (box_row2 (w := w.alloc (.cells #[.string t.schema, .string t.name, .string t.owner, .slice A t.cols.length cap, .slice A2 t.rules.length cap2] 50)) (c := [.string ⟨#[]⟩, .string ⟨#[]⟩, .string ⟨#[]⟩, .slice none 0 0, .slice none 0 0]) (t := 50) (Aft.refl _))
    simpa using this
  have zW : w.heap.size + 2 = W.heap.size := by rw [hW]; simp
  have HC := Lib.hid (sl_cells h (by decide) (fun _ _ h => h.1) aW)
  have HN := Lib.hid (sl_none h)
  have HM := Lib.hid hm
  have HT := Lib.hid h2
  have HR1 := Lib.hid r1
  have HR2 := Lib.hid r2
  have HAW := Lib.hid aW
  have hq4 : t.cols.length ≤ maxLen := by unfold maxLen; omega
  have hq5 : t.cols.length * 32 ≤ 140737488355328 := by have := hm.1; omega
  clear h h2 hm r1 r2 aW
  go_enter Tryz.func59, Tryz.ntmps59
  go_wp2_with (at_builtin; go_must (refine wpList_append_new _ rfl _ _ 47 rfl 41 i1 _ 3 32 Tryz.underlying47 JI.out JZ0.out JZ1.out JZ2.out rfl (by decide) rfl A t.cols.length cap (t.cols.flatMap colC) rfl (colC_len _) HN.out ?qc (oneC_cells oneC_col _) hq4 hq5 ?_); rotate_left; intro Ac cc w1 own1 a1)
  case qc => rw [← hW]; exact HC.out
  have a1 : Aft W w1 := by rw [hW]; exact a1
  have own1 : w1.ownsRow W.heap.size 41 3 (Hd.mk Ac t.cols.length cc).v t.cols.length (t.cols.flatMap colC) := by rw [hW]; exact own1
  have HS0 := Lib.hid (show RCopyS w w1 t A cap A2 cap2 ⟨Ac, t.cols.length, cc⟩ ⟨none, 0, 0⟩ [] 0 from
    ⟨HAW.out.trans a1, HR1.out.aft a1, HR2.out.aft a1, own_down own1 (by omega), own_nil _ _ _ _, rfl, rfl, fun x hx => by simp at hx, by simpa [blk_nil] using blk_nodup _⟩)
  clear hW own1 a1 HC HN zW HR1 HR2 HAW hq4 hq5 JI JZ0 JZ1 JZ2
  go_loopw [4, 5] (fun l i wr => ∃ (k : Nat) (Ar : Option Addr) (cr : Nat) (L : List ORul), k ≤ t.rules.length ∧ i = .int .i64 k ∧ l = .slice Ar k cr ∧ RCopyS w wr t A cap A2 cap2 ⟨Ac, t.cols.length, cc⟩ ⟨Ar, k, cr⟩ L k) (fun _ i _ => t.rules.length - (intOf i).toNat)
  case atStart => exact ⟨0, none, 0, [], Nat.zero_le _, rfl, rfl, HS0.out⟩
  case round =>
    clear HS0
    obtain ⟨k, Ar, cr, L, hk, rfl, rfl, hs⟩ := hrel
    have HS := Lib.hid hs
    have bz := hs.box.1
    have b4 := hs.box.cell (j := 4) rfl
    by_cases hlt : k < t.rules.length
    · obtain ⟨b, off, D, capD, rfl, hb, c0, c1, c2, c3, c4, c5, c6, c7, hcs, hss⟩ := rul_at (ruls_aft hs.aft HT.out) hlt
      obtain ⟨p, hpp⟩ : ∃ p, t.rules[k] = p := ⟨_, rfl⟩
      rw [hpp] at c0 c1 c2 c3 c4 c5 c6 c7 hcs
      have HPP := Lib.hid hpp
      have hpl := hcs.len
      have hp6 : p.cols.length ≤ 1000000 := HM.out.2.2 p (by rw [← hpp]; exact List.getElem_mem hlt)
      have hq1 : p.cols.length ≤ maxLen := by unfold maxLen; omega
      have hq2 : p.cols.length * 16 ≤ 140737488355328 := by omega
      have hq3 : k + 1 ≤ maxLen := by unfold maxLen; omega
      have hq4 : (k + 1) * 112 ≤ 140737488355328 := by have := HM.out.2.1; omega
      obtain ⟨V, hV⟩ : ∃ V, V = wr.alloc (.cells #[.string p.name, .int .i64 p.kind, .slice D p.cols.length capD, .int .i64 p.low, .int .i64 p.high, .string p.schema, .string p.table, .string p.key] 29) := ⟨_, rfl⟩
      have aV : Aft wr V := by rw [hV]; exact (Aft.refl _).alloc _
      have rV : RowAt V wr.heap.size [.string p.name, .int .i64 p.kind, .slice D p.cols.length capD, .int .i64 p.low, .int .i64 p.high, .string p.schema, .string p.table, .string p.key] := by rw [hV]; exact box_row2 (Aft.refl _)
      have zV : V.heap.size = wr.heap.size + 1 := by rw [hV]; simp
      have HC := Lib.hid (sl_cells hcs (by decide) (fun _ _ h => h.1) aV)
      have HN := Lib.hid (sl_none hcs)
      have HAV := Lib.hid aV
      have HRV := Lib.hid rV
      have HZV := Lib.hid zV
      have HOWN := Lib.hid (show wr.ownsRow (w.heap.size + 2) 29 8 (.slice Ar k cr) k (L.flatMap ORul.cells) from hs.rul)
      have HLT := Lib.hid (show w.heap.size + 2 ≤ wr.heap.size from hs.out.1)
      have l3 : wr.heap.size < wr.heap.size + 1 := by omega
      have l4 : w.heap.size < wr.heap.size + 1 := by omega
      clear hs hpp hcs aV rV zV hss
      have HAS := Lib.hid (show ∀ (w2 : World) (v : Value), Aft V w2 → RowAt w2 wr.heap.size [.string p.name, .int .i64 p.kind, .slice D p.cols.length capD, .int .i64 p.low, .int .i64 p.high, .string p.schema, .string p.table, .string p.key] ∧ Aft wr (w2.setCell ⟨wr.heap.size, 2, none⟩ v) from
        fun w2 v a => ⟨HRV.out.aft a, (HAV.out.trans a).setCell _ _ (Nat.le_refl _)⟩)
      go_wp2_with (first
        | (at_builtin; have _t := HN.out; go_must (refine wpList_append_new _ rfl _ _ 27 rfl 9 i2 _ 1 16 Tryz.underlying27 KI.out KZ0.out KZ1.out KZ2.out rfl (by decide) rfl D p.cols.length capD (p.cols.flatMap nameC) rfl (nameC_len _) HN.out ?qc2 (oneC_cells oneC_name _) hq1 hq2 ?_); rotate_left; intro Dn cn w2 own2 a2; have a2 : Aft V w2 := (by rw [hV]; exact a2); have r2 := (HAS.out w2 (.slice Dn p.cols.length cn) a2).1; have x0 := r2.cell (j := 0) rfl; have x1 := r2.cell (j := 1) rfl; have x2 := r2.cell (j := 2) rfl; have x3 := r2.cell (j := 3) rfl; have x4 := r2.cell (j := 4) rfl; have x5 := r2.cell (j := 5) rfl; have x6 := r2.cell (j := 6) rfl; have x7 := r2.cell (j := 7) rfl; have y2 := r2.2.2 2 (by simp); have z2 := r2.1; have HA2 := Lib.hid a2; have HO2 := Lib.hid own2; clear r2 a2 own2 HN _t)
        | (at_builtin; go_must (refine wpList_append_lies _ rfl _ _ 48 rfl (w.heap.size + 2) 29 i0 _ 8 112 Tryz.underlying48 HI.out HZ0.out HZ1.out HZ2.out rfl (by decide) (.slice Ar k cr) k (L.flatMap ORul.cells) rfl ((own_aft HOWN.out (HAS.out w2 _ HA2.out).2).alloc _) ⟨w2.heap.size, 0, none⟩ 1 1 [.string p.name, .int .i64 p.kind, .slice Dn p.cols.length cn, .int .i64 p.low, .int .i64 p.high, .string p.schema, .string p.table, .string p.key] rfl rfl ?qn (by simp [Value.oneCell']) (by omega) hq3 hq4 ?qb (w2.heap.size + 1) (by simp) ?_); rotate_left 2; intro gg cap' w5 hown5 hgrow hat hgl))
      case qc2 => rw [← hV]; exact HC.out
      case qn => exact World.news_of_block (cs := #[.string p.name, .int .i64 p.kind, .slice Dn p.cols.length cn, .int .i64 p.low, .int .i64 p.high, .string p.schema, .string p.table, .string p.key]) (t := 29) (fr := (0, 0)) (by have := heap_alloc_new (w2.setCell ⟨wr.heap.size, 2, none⟩ (.slice Dn p.cols.length cn)) (.cells #[.string p.name, .int .i64 p.kind, .slice Dn p.cols.length cn, .int .i64 p.low, .int .i64 p.high, .string p.schema, .string p.table, .string p.key] 29); simpa using this)
      case qb => simp; have := HLT.out; omega
      have own4 : w2.ownsRow (wr.heap.size + 1) 9 1 (Hd.mk Dn p.cols.length cn).v p.cols.length (p.cols.flatMap nameC) := own_down HO2.out (by simp)
      have own5 := (own_kb own4 (Kb.set w2 wr.heap.size 2 (.slice Dn p.cols.length cn)) (fun g hg e => by have := (own4.lt g hg).1; omega)).alloc (.cells #[.string p.name, .int .i64 p.kind, .slice Dn p.cols.length cn, .int .i64 p.low, .int .i64 p.high, .string p.schema, .string p.table, .string p.key] 29)
      have HREL := Lib.hid (HS.out.step (h4 := ⟨Dn, p.cols.length, cn⟩) (hr' := ⟨some ⟨gg, 0, none⟩, k + 1, cap'⟩) hlt ((HAS.out w2 _ HA2.out).2.alloc _) (by rw [HPP.out]; exact own_down own5 (by omega)) hgrow (by rw [HPP.out]; exact hown5)
        (fun g hg => by
          rw [blk_some, List.mem_singleton] at hg
          subst hg
          rcases hat with h1 | h1
          · exact .inl (Hd.mem_blk.2 h1)
          · refine .inr ?_
            simp
            omega))
      rw [HPP.out] at HREL
      clear own4 own5 hgrow hat hgl hown5 HO2 HA2 x0 x1 x2 x3 x4 x5 x6 x7 y2 z2
      go_wp2_with fail
      go_roundw
      case rel => exact ⟨k + 1, _, _, _, by omega, by go_num, rfl, HREL.out⟩
      case measure => simp [intOf]; omega
    · have c0 := hs.box.cell (j := 0) rfl
      have c1 := hs.box.cell (j := 1) rfl
      have c2 := hs.box.cell (j := 2) rfl
      have c3 := hs.box.cell (j := 3) rfl
      have g3 := hs.box.2.2 3 (by simp)
      have g4 := hs.box.2.2 4 (by simp)
      have d0 := hs.out.cell (j := 0) rfl
      have d1 := hs.out.cell (j := 1) rfl
      have d2 := hs.out.cell (j := 2) rfl
      have d3 := hs.out.cell (j := 3) rfl
      have d4 := hs.out.cell (j := 4) rfl
      have e0 := hs.out.2.2 0 (by simp)
      have e1 := hs.out.2.2 1 (by simp)
      have e2 := hs.out.2.2 2 (by simp)
      have e3 := hs.out.2.2 3 (by simp)
      have e4 := hs.out.2.2 4 (by simp)
      have dz := hs.out.1
      clear hs
      go_wp2_with fail
      have hs := HS.out
      obtain ⟨G, hG⟩ : ∃ G, G = (wr.setCell ⟨w.heap.size, 3, none⟩ (.slice Ac t.cols.length cc)).setCell ⟨w.heap.size, 4, none⟩ (.slice Ar k cr) := ⟨_, rfl⟩
      have kG : Kb (fun x => x = w.heap.size) wr G := by rw [hG]; exact (Kb.set _ _ _ _).trans (Kb.set _ _ _ _)
      have rG : RowAt G w.heap.size [.string t.schema, .string t.name, .string t.owner, .slice Ac t.cols.length cc, .slice Ar k cr] := by rw [hG]; exact (hs.box.set 3 _ (by simp)).set 4 _ (by simp)
      have oG := kG.row hs.out (by omega)
      rw [← hG]
      have HG := Lib.hid hG
      have HKG := Lib.hid kG
      have HOG := Lib.hid oG
      have rl : Sem.run Tryz.prog (lvTab ⟨w.heap.size, 0, none⟩) G = .ok (.agg #[.string t.schema, .string t.name, .string t.owner, .slice Ac t.cols.length cc, .slice Ar k cr]) G := lvTab_row rG
      rw [rl]
      clear rl hG d0 d1 d2 d3 d4 e0 e1 e2 e3 e4 dz c0 c1 c2 c3 g3 g4 hs kG rG
      have d0 := oG.cell (j := 0) rfl
      have d1 := oG.cell (j := 1) rfl
      have d2 := oG.cell (j := 2) rfl
      have d3 := oG.cell (j := 3) rfl
      have d4 := oG.cell (j := 4) rfl
      have e0 := oG.2.2 0 (by simp)
      have e1 := oG.2.2 1 (by simp)
      have e2 := oG.2.2 2 (by simp)
      have e3 := oG.2.2 3 (by simp)
      have e4 := oG.2.2 4 (by simp)
      have dz := oG.1
      clear oG
      simp only [Result.andThen]
      rw [Oper.upon_value]
      go_wp2_with fail
      (try simp only [Exit.inBlock, Exit.then])
      have hs := HS.out
      have kG := HKG.out
      obtain ⟨F, hF⟩ : ∃ F, F = ((((G.setCell ⟨w.heap.size + 1, 0, none⟩ (.string t.schema)).setCell ⟨w.heap.size + 1, 1, none⟩ (.string t.name)).setCell ⟨w.heap.size + 1, 2, none⟩ (.string t.owner)).setCell ⟨w.heap.size + 1, 3, none⟩ (.slice Ac t.cols.length cc)).setCell ⟨w.heap.size + 1, 4, none⟩ (.slice Ar k cr) := ⟨_, rfl⟩
      have kF : Kb (fun x => x = w.heap.size + 1) G F := by
        rw [hF]
        exact ((((Kb.set _ _ _ _).trans (Kb.set _ _ _ _)).trans (Kb.set _ _ _ _)).trans (Kb.set _ _ _ _)).trans (Kb.set _ _ _ _)
      have rF : RowAt F (w.heap.size + 1) [.string t.schema, .string t.name, .string t.owner, .slice Ac t.cols.length cc, .slice Ar k cr] := by
        rw [hF]
        exact ((((HOG.out.set 0 _ (by simp)).set 1 _ (by simp)).set 2 _ (by simp)).set 3 _ (by simp)).set 4 _ (by simp)
      rw [← hF]
      refine bodyPost_ret (results_cell (v := .agg #[.string t.schema, .string t.name, .string t.owner, .slice Ac t.cols.length cc, .slice Ar k cr]) rfl _ rfl ?hl) rfl ?_
      case hl => exact lvTab_row rF
      have hkn : k = t.rules.length := by omega
      subst hkn
      have his := hs.is
      rw [List.take_of_length_le (Nat.le_refl _)] at his
      have hlen' : L.length = t.rules.length := hs.len
      have hlt' := hs.lt
      have kk : Kb (fun x => x = w.heap.size ∨ x = w.heap.size + 1) wr F := (kG.mono fun _ _ h => .inl h).trans (kF.mono fun _ _ h => .inr h)
      refine ⟨⟨t.schema, t.name, t.owner, t.cols, L, ⟨Ac, t.cols.length, cc⟩, ⟨Ar, t.rules.length, cr⟩⟩, by unfold OTab.t; rw [his], rfl, kk.to_aft hs.aft (fun x hx e => by omega), ?_, hs.nd⟩
      refine TabIn.down (TabIn.kb (w := wr) (B := w.heap.size + 2) ⟨hs.col, by show wr.ownsRow _ _ 8 _ L.length _; rw [hlen']; exact hs.rul, hs.each⟩ kk fun g hg e => ?_) (by omega)
      have := hlt' g hg
      omega
end Go.Proofs.YticjnndhpfdajaaGreat
/- The document's Own: objects in memory of their own. -/
namespace Go.Proofs.YticjnndhpfdajaaGreat
open Go.RowKit Go.Deep
set_option maxRecDepth 100000
set_option linter.unusedVariables false
theorem OwnS.row0 {w wr w4 w5 : World} {o : Objs} {n3 : Nat} {hs ht : Hd} {L : List OTab} {k : Nat} (s : OwnS w wr o n3 hs ht L k) (a4 : Aft wr w4) (hg : w4.grownBy w5 ht.v.ownBlock) (v : Value) {xs : List Value} (hr : RowAt wr w.heap.size xs) : RowAt (w5.setCell ⟨n3, 1, none⟩ v) w.heap.size xs := by
  have k5 : Kb (fun g => g = n3) w5 (w5.setCell ⟨n3, 1, none⟩ v) := Kb.set _ _ _ _
  have kg : Kb (fun g => ht.v.ownBlock = some g) w4 w5 := Kb.of_grown hg
  have hn3 := s.n3
  exact k5.row (kg.row (hr.aft a4) (fun h1 => by have := (s.obj.tab.lt _ h1).1; omega)) (by omega)
set_option maxHeartbeats 8000000 in
theorem rOwn_in (o : Objs) (As : Option Addr) (caps : Nat) (At : Option Addr) (capt : Nat) (w : World) (hsch : SlAt w 2 SchR As caps o.schemas) (htab : SlAt w 5 TabR At capt o.tables) (hm : ModO o) :
    Calls Tryz.prog 15 #[.agg #[.slice As o.schemas.length caps, .slice At o.tables.length capt]] w (OwnO w o) := by
  obtain ⟨i0, hi, hz0, hz1, hz2⟩ := info_parts info2Tab
  have HI := Lib.hid hi
  have HZ0 := Lib.hid hz0
  have HZ1 := Lib.hid hz1
  have HZ2 := Lib.hid hz2
  clear hi hz0 hz1 hz2
  obtain ⟨i1, hi, hz0, hz1, hz2⟩ := info_parts info2Sch2
  have JI := Lib.hid hi
  have JZ0 := Lib.hid hz0
  have JZ1 := Lib.hid hz1
  have JZ2 := Lib.hid hz2
  clear hi hz0 hz1 hz2
  have hlen := hsch.len
  have hlen2 := htab.len
  have l1 : w.heap.size < w.heap.size + 1 := by omega
  have l2 : w.heap.size < w.heap.size + 1 + 1 := by omega
  have l3 : w.heap.size < w.heap.size + 1 + 1 + 1 := by omega
  obtain ⟨W, hW⟩ : ∃ W, W = ((w.alloc (.cells #[.slice As o.schemas.length caps, .slice At o.tables.length capt] 25)).alloc (.cells #[.slice none 0 0, .slice none 0 0] 25)).alloc (.cells #[.slice none 0 0, .slice none 0 0] 25) := ⟨_, rfl⟩
  have aW : Aft w W := by rw [hW]; exact (((Aft.refl w).alloc _).alloc _).alloc _
  have r1 : RowAt W w.heap.size [.slice As o.schemas.length caps, .slice At o.tables.length capt] := by rw [hW]; exact (box_row2 (Aft.refl _)).aft (((Aft.refl _).alloc _).alloc _)
  have r2 : RowAt W (w.heap.size + 1) [.slice none 0 0, .slice none 0 0] := by
    rw [hW]
    have := (box_row2 (w := w.alloc (.cells #[.slice As o.schemas.length caps, .slice At o.tables.length capt] 25)) (c := [.slice none 0 0, .slice none 0 0]) (t := 25) (Aft.refl _)).aft ((Aft.refl _).alloc (.cells #[.slice none 0 0, .slice none 0 0] 25))
    simpa using this
  have r3 : RowAt W (w.heap.size + 2) [.slice none 0 0, .slice none 0 0] := by
    rw [hW]
    have := (box_row2 (w := (w.alloc (.cells #[.slice As o.schemas.length caps, .slice At o.tables.length capt] 25)).alloc (.cells #[.slice none 0 0, .slice none 0 0] 25)) (c := [.slice none 0 0, .slice none 0 0]) (t := 25) (Aft.refl _))
    simpa using this
  have zW : W.heap.size = w.heap.size + 3 := by rw [hW]; simp
  have HC := Lib.hid (sl_cells hsch (by decide) (fun _ _ h => h.1) aW)
  have HN := Lib.hid (sl_none hsch)
  have HM := Lib.hid hm
  have HT := Lib.hid htab
  have HR1 := Lib.hid r1
  have HR2 := Lib.hid r2
  have HR3 := Lib.hid r3
  have HAW := Lib.hid aW
  have hq4 : o.schemas.length ≤ maxLen := by unfold maxLen; omega
  have hq5 : o.schemas.length * 32 ≤ 140737488355328 := by have := hm.1; omega
  clear hsch htab hm r1 r2 r3 aW
  go_enter Tryz.func15, Tryz.ntmps15
  go_wp2_with (at_builtin; go_must (refine wpList_append_new _ rfl _ _ 22 rfl 99 i1 _ 2 32 Tryz.underlying22 JI.out JZ0.out JZ1.out JZ2.out rfl (by decide) rfl As o.schemas.length caps (o.schemas.flatMap schC) rfl (schC_len _) HN.out ?qc (oneC_cells oneC_sch _) hq4 hq5 ?_); rotate_left; intro Ac cc w1 own1 a1; have a1 : Aft W w1 := (by rw [hW]; exact a1); have b3 := (HR3.out.aft a1).cell (j := 0) rfl; have f3 := (HR3.out.aft a1).2.2 0 (by simp); have z3 := (HR3.out.aft a1).1)
  case qc => rw [← hW]; exact HC.out
  have own1 : w1.ownsRow W.heap.size 99 2 (Hd.mk Ac o.schemas.length cc).v o.schemas.length (o.schemas.flatMap schC) := by rw [hW]; exact own1
  obtain ⟨n3, hn3⟩ : ∃ n, n = w.heap.size + 2 := ⟨_, rfl⟩
  obtain ⟨W1, hW1⟩ : ∃ W1, W1 = w1.setCell ⟨w.heap.size + 1 + 1, 0, none⟩ (.slice Ac o.schemas.length cc) := ⟨_, rfl⟩
  have kW1 : Kb (fun g => g = n3) w1 W1 := by rw [hW1, hn3]; exact Kb.set _ _ _ _
  have HS0 := Lib.hid (show OwnS w W1 o n3 ⟨Ac, o.schemas.length, cc⟩ ⟨none, 0, 0⟩ [] 0 ∧ RowAt W1 w.heap.size [.slice As o.schemas.length caps, .slice At o.tables.length capt] from by
    have hge : ∀ g ∈ (Hd.mk Ac o.schemas.length cc).blk, w.heap.size + 3 ≤ g := fun g hg => by have := (blk_lt own1 g hg).1; omega
    refine ⟨⟨kW1.to_aft (HAW.out.trans a1) (fun x hx e => by omega), kW1.row (HR2.out.aft a1) (by omega), ?_, ⟨own_kb (own_down own1 (by omega)) kW1 (fun g hg e => by have := hge g (Hd.mem_blk.2 hg); omega), own_nil _ _ _ _, fun x hx => by simp at hx, by simpa [blk_nil] using blk_nodup _⟩, fun g hg => ?_, rfl, by omega, rfl⟩, kW1.row (HR1.out.aft a1) (by omega)⟩
    · rw [hW1, hn3]; exact (HR3.out.aft a1).set 0 _ (by simp)
    · have hg' : g ∈ (Hd.mk Ac o.schemas.length cc).blk := by simpa [blk_nil] using hg
      have := hge g hg'
      omega)
  rw [← hW1]
  have e3 : w.heap.size + 1 + 1 = n3 := by omega
  rw [e3]
  clear hW own1 a1 HC HN zW HR1 HR2 HR3 HAW hq4 hq5 JI JZ0 JZ1 JZ2 hW1 kW1 b3 f3 z3 hn3 e3 l2 l3
  go_loopw [4] (fun i wr => ∃ (k : Nat) (ht : Hd) (L : List OTab), k ≤ o.tables.length ∧ i = .int .i64 k ∧ OwnS w wr o n3 ⟨Ac, o.schemas.length, cc⟩ ht L k ∧ RowAt wr w.heap.size [.slice As o.schemas.length caps, .slice At o.tables.length capt]) (fun i _ => o.tables.length - (intOf i).toNat)
  case atStart => exact ⟨0, _, [], Nat.zero_le _, rfl, HS0.out⟩
  case round =>
    clear HS0
    obtain ⟨k, ht, L, hk, rfl, hs, hbx⟩ := hrel
    have HBX := Lib.hid hbx
    have v1 := hbx.cell (j := 1) rfl
    have v2 := hbx.1
    clear hbx
    have HS := Lib.hid hs
    have z3 := hs.box.1
    have k1 := hs.box.cell (j := 1) rfl
    have f1 := hs.box.2.2 1 (by simp)
    by_cases hlt : k < o.tables.length
    · obtain ⟨b, off, A2, cap2, A3, cap3, rfl, hb, t0, t1, t2, t3, t4, hcols, hruls, hss⟩ := tab_at HT.out hlt
      obtain ⟨p, hpp⟩ : ∃ p, o.tables[k] = p := ⟨_, rfl⟩
      rw [hpp] at t0 t1 t2 t3 t4 hcols hruls hss
      have HPP := Lib.hid hpp
      have C := Lib.hid (show ∀ w', Aft wr w' → _ from fun w' a => rCopy_in p A2 cap2 A3 cap3 w' (cols_aft (hs.aft.trans a) hcols) (ruls_aft (hs.aft.trans a) hruls) (by have := HM.out.2.2 p (by rw [← hpp]; exact List.getElem_mem hlt); exact this))
      have hzr : w.heap.size + 2 ≤ wr.heap.size := by have := hs.n3; omega
      obtain ⟨At', nt, ct⟩ := ht
      have htab := hs.obj.tab
      rw [hs.len] at htab
      have hnt : nt = k := own_n htab
      subst hnt
      have hown : wr.ownsRow (w.heap.size + 2) 50 5 (.slice At' nt ct) nt (L.flatMap OTab.cells) := htab
      have HOWN := Lib.hid hown
      have hneb : (Value.slice At' nt ct).ownBlock ≠ some n3 := fun e => hs.ne n3 (by simp only [List.mem_append]; exact .inr (.inl (Hd.mem_blk.2 e))) rfl
      have HB := Lib.hid hs.box
      have KF := Lib.hid (show ∀ w', Kb (fun g => (Value.slice At' nt ct).ownBlock = some g) wr w' → (w'.cell? ⟨n3, 1, none⟩ = some (.slice At' nt ct) ∧ w'.cell? ⟨w.heap.size, 1, none⟩ = some (.slice (some ⟨b, off, none⟩) o.tables.length capt) ∧ w'.cell? ⟨b, off + nt * 5, none⟩ = some (.string p.schema) ∧ w'.cell? ⟨b, off + nt * 5 + 1, none⟩ = some (.string p.name) ∧ w'.cell? ⟨b, off + nt * 5 + 2, none⟩ = some (.string p.owner) ∧ w'.cell? ⟨b, off + nt * 5 + 3, none⟩ = some (.slice A2 p.cols.length cap2) ∧ w'.cell? ⟨b, off + nt * 5 + 4, none⟩ = some (.slice A3 p.rules.length cap3) ∧ w'.frozen? ⟨n3, 1, none⟩ = false ∧ n3 < w'.heap.size) from fun w' kb => by
        have hne2 : ¬ (Value.slice At' nt ct).ownBlock = some b := fun e => by have := (HOWN.out.lt _ e).1; omega
        have hne3 : ¬ (Value.slice At' nt ct).ownBlock = some w.heap.size := fun e => by have := (HOWN.out.lt _ e).1; omega
        have r3 := kb.row HB.out hneb
        exact ⟨kb.cell k1 hneb, kb.cell v1 hne3, kb.cell (hs.aft.cell_kept t0) hne2, kb.cell (hs.aft.cell_kept t1) hne2, kb.cell (hs.aft.cell_kept t2) hne2, kb.cell (hs.aft.cell_kept t3) hne2, kb.cell (hs.aft.cell_kept t4) hne2, r3.2.2 1 (by simp), r3.1⟩)
      have h63 : nt + 1 ≤ maxLen := by unfold maxLen; omega
      have hby : (nt + 1) * 96 ≤ 140737488355328 := by have := HM.out.2.1; omega
      have hb0 : (0 : Int) ≤ (nt : Int) := by omega
      have hb1 : (nt : Int) < (o.tables.length : Int) := by omega
      clear hs htab hown hpp hcols hruls hneb t0 t1 t2 t3 t4
      go_wp2_with fail
      obtain ⟨q1, q2, q3, q4, q5, q6, q7, q8, q9⟩ := KF.out _ (Kb.refl _ _)
      go_region_law ((first | (go_simp; go_at_call 59; refine (C.out _ (Aft.refl _).drew).mono ?_; rintro e w4 ⟨x, hxt, rfl, a4, tin, xnd⟩; have a5 : Aft wr w4 := (Aft.refl _).drew.trans a4; obtain ⟨p1, p2, p3, p4, p5, p6, p7, p8, p9⟩ := KF.out w4 (Kb.of_aft a5); dsimp only) | (refine step_append_lies _ (by rfl) _ _ _ (by rfl) (w.heap.size + 2) 50 i0 _ 5 96 Tryz.underlying23 HI.out HZ0.out HZ1.out HZ2.out rfl (by omega) (.slice At' nt ct) nt (L.flatMap OTab.cells) (by rfl) ((own_aft HOWN.out a5).alloc _) ⟨w4.heap.size, 0, none⟩ 1 1 [.string p.schema, .string p.name, .string p.owner, .slice x.hc.a p.cols.length x.hc.c, .slice x.hr.a p.rules.length x.hr.c] (by rfl) (by rfl) (World.news_of_block (cs := #[.string p.schema, .string p.name, .string p.owner, .slice x.hc.a p.cols.length x.hc.c, .slice x.hr.a p.rules.length x.hr.c]) (t := 50) (fr := (0, 0)) (heap_alloc_new w4 _)) (by simp [Value.oneCell']) (by omega) h63 hby (by simp; have := a5.size; omega) (w4.heap.size + 1) (by simp) ?_; intro gg cap' w5 hown5 hgrow hat hgl; obtain ⟨s1, s2, s3, s4, s5, s6, s7, s8, s9⟩ := KF.out _ ((Kb.of_aft (a5.alloc _)).trans (Kb.of_grown hgrow)))))
      all_goals
        have HREL0 := Lib.hid (HS.out.row0 (a5.alloc _) hgrow (.slice (some ⟨gg, 0, none⟩) (nt + 1) cap') HBX.out)
        have HREL := Lib.hid (HS.out.step (ht' := ⟨some ⟨gg, 0, none⟩, nt + 1, cap'⟩) (x := x) hlt (by rw [hxt, HPP.out]) (a5.alloc _) (tin.aft ((Aft.refl _).alloc _)) xnd hgrow (by rw [OTab.cells_of tin hxt]; exact hown5)
          (fun g hg => by
            rw [blk_some, List.mem_singleton] at hg
            subst hg
            rcases hat with h1 | h1
            · exact .inl (Hd.mem_blk.2 h1)
            · refine .inr ?_
              simp
              omega)
          (fun g hg hx => by
            rw [blk_some, List.mem_singleton] at hg
            subst hg
            have h2 := tin.lt _ hx
            have h4 : wr.heap.size ≤ g := h2.1
            rcases hat with h1 | h1
            · have := (HOWN.out.lt _ h1).2
              omega
            · omega))
        clear tin xnd hown5 hgrow hat hgl a5 a4 hxt q1 q2 q3 q4 q5 q6 q7 q8 q9 p1 p2 p3 p4 p5 p6 p7 p8 p9 s1 s2 s3 s4 s5 s6 s7 s8 s9
        go_wp2_with fail
        go_roundw
        case rel => exact ⟨nt + 1, _, _, by omega, by go_num, HREL.out, HREL0.out⟩
        case measure => simp [intOf]; omega
    · have c0 := hs.box.cell (j := 0) rfl
      have d0 := hs.out.cell (j := 0) rfl
      have d1 := hs.out.cell (j := 1) rfl
      have e0 := hs.out.2.2 0 (by simp)
      have e1 := hs.out.2.2 1 (by simp)
      have dz := hs.out.1
      clear hs
      go_wp2_with fail
      (try simp only [Exit.inBlock, Exit.then])
      have hs := HS.out
      obtain ⟨F, hF⟩ : ∃ F, F = (wr.setCell ⟨w.heap.size + 1, 0, none⟩ (.slice Ac o.schemas.length cc)).setCell ⟨w.heap.size + 1, 1, none⟩ (.slice ht.a k ht.c) := ⟨_, rfl⟩
      have kF : Kb (fun x => x = w.heap.size + 1) wr F := by
        rw [hF]
        exact (Kb.set _ _ _ _).trans (Kb.set _ _ _ _)
      have rF : RowAt F (w.heap.size + 1) [.slice Ac o.schemas.length cc, .slice ht.a k ht.c] := by
        rw [hF]
        exact (hs.out.set 0 _ (by simp)).set 1 _ (by simp)
      rw [← hF]
      refine bodyPost_ret (results_cell (v := .agg #[.slice Ac o.schemas.length cc, .slice ht.a k ht.c]) rfl _ rfl ?hl) rfl ?_
      case hl => exact lvObj_row rF
      have hkn : k = o.tables.length := by omega
      subst hkn
      have his := hs.is
      rw [List.take_of_length_le (Nat.le_refl _)] at his
      refine ⟨⟨Ac, o.schemas.length, cc⟩, ht, L, his, rfl, kF.to_aft hs.aft (fun x hx e => by omega), ?_⟩
      refine ObjIn.down (hs.obj.kb kF fun g hg e => ?_) (by omega)
      have := (hs.obj.lt g hg).1
      omega
end Go.Proofs.YticjnndhpfdajaaGreat
