/- Contracts of the program, part 14. -/
import Derived.Deep.Onto
import Derived.LaidEqlPtr
import Derived.OwnWalk
import Derived.Laws.AppendOwn
import Derived.ProofKit
import Derived.OpenShut
import Derived.Deep.Slices
import Derived.ChangeOld
import Derived.SizedLaws
import Derived.WalkKit
import Derived.WalkSpells
import Derived.WalkLawsBesides
import Derived.Lib.Hide
import Derived.Deep.QuietTactic
import Derived.BigQuiet
import Derived.Below
import Derived.Deep.Draws
import Derived.StillTailTactics
import Derived.Laws.Cells
import Derived.Laws.IdiomCopy
import Derived.Test.YtiadkchlkdaceaaGreatRows
import Derived.Lib.Bytealg
import Derived.IntWalk
import Derived.ShutString
import Derived.Shelf.SlSortCmp.WholeK
import Derived.Lib.SliceRun
import Derived.Deep.AppendLies
import Derived.Deep.Upon
import Derived.OneCell
import Derived.Deep.DeepMust
import Derived.Deep.RegionLaw
import Derived.Deep.RegionHeld3
import Derived.Shelf.RegionOpen
import Derived.Sort.BigQuietIn
import Derived.RangeFuncNested
import Derived.RangeFuncBound
import Derived.RangeFuncCalls
import Derived.RangeFuncLeaves
import Derived.Shelf.Abstract
import Derived.OwnWalkIn
import Derived.TacticsInMore
import Derived.LoopNIn
import Derived.LoopIn
import Derived.Sort.QuietTacIn
import Derived.NoCompiler
import Derived.OrdersHeld
import Derived.Lib.Walk
import Derived.Test.YtiadkchlkdaceaaGreatPartR1
import Derived.Test.YtiadkchlkdaceaaGreatPartR2
import Derived.Test.YtiadkchlkdaceaaGreatPartR3
import Derived.Test.YtiadkchlkdaceaaGreatPartR4
import Derived.Test.YtiadkchlkdaceaaGreatPartR5
import Derived.Test.YtiadkchlkdaceaaGreatPartR6
import Derived.Test.YtiadkchlkdaceaaGreatPartR7
import Derived.Test.YtiadkchlkdaceaaGreatPartR8
import Derived.Test.YtiadkchlkdaceaaGreatPartR9
import Derived.Test.YtiadkchlkdaceaaGreatPartR10
import Derived.Test.YtiadkchlkdaceaaGreatPartR11
import Derived.Test.YtiadkchlkdaceaaGreatPartR12
import Derived.Test.YtiadkchlkdaceaaGreatPartR13
namespace Go.Proofs.YtiadkchlkdaceaaGreat
open Go.RowKit Go.Deep
set_option maxRecDepth 100000
set_option linter.unusedVariables false
/-- two stores made behind X: the program's holds S, the document's S'; F: blocks that are none of theirs -/
def BothP (X wr : World) (s s' : Nat) (S : List Shf) (ss : List Sch) (S' : List Shf) (ss' : List Sch) (F : Nat → Prop) : Prop :=
  ∃ hl L hs ht hm L', storeS L = S ∧ refS L' = S' ∧ StoIn wr X.heap.size s hl L ∧ SOk S ss ∧ (∀ y ∈ L, SmT y.x.t) ∧ RefIn wr X.heap.size s' hs ht hm ss' L' ∧ SOk S' ss' ∧ SmO (objOf ss' (L'.map RShf.x)) ∧
    (∀ g ∈ refB s' hs ht hm L', g ∉ stoBlks s hl L) ∧ Aft X wr ∧ ∀ g, F g → X.heap.size ≤ g ∧ g < wr.heap.size ∧ g ∉ stoBlks s hl L ∧ g ∉ refB s' hs ht hm L'
section
variable {X wr w' : World} {s s' : Nat} {S S' : List Shf} {ss ss' : List Sch} {F : Nat → Prop}
theorem BothP.to (h : BothP X wr s s' S ss S' ss' F) : Aft X wr := by obtain ⟨_, _, _, _, _, _, _, _, _, _, _, _, _, _, _, a, _⟩ := h; exact a
theorem BothP.ok (h : BothP X wr s s' S ss S' ss' F) : SOk S ss := by obtain ⟨_, _, _, _, _, _, _, _, _, a, _⟩ := h; exact a
theorem BothP.aft (h : BothP X wr s s' S ss S' ss' F) (a : Aft wr w') : BothP X w' s s' S ss S' ss' F := by
  obtain ⟨hl, L, hs, ht, hm, L', q1, q2, q3, q4, q5, q6, q7, q8, q9, q10, q11⟩ := h
  exact ⟨hl, L, hs, ht, hm, L', q1, q2, q3.aft a, q4, q5, q6.aft a, q7, q8, q9, q10.trans a, fun g hg => ⟨(q11 g hg).1, Nat.lt_of_lt_of_le (q11 g hg).2.1 a.size, (q11 g hg).2.2⟩⟩
/-- blocks that are none of theirs are written -/
theorem BothP.over (h : BothP X wr s s' S ss S' ss' F) (k : Kb F wr w') : BothP X w' s s' S ss S' ss' F := by
  obtain ⟨hl, L, hs, ht, hm, L', q1, q2, q3, q4, q5, q6, q7, q8, q9, q10, q11⟩ := h
  exact ⟨hl, L, hs, ht, hm, L', q1, q2, q3.kb k fun g hg hf => (q11 g hf).2.2.1 hg, q4, q5, q6.kb k fun g hg hf => (q11 g hf).2.2.2 hg, q7, q8, q9, aft_kb q10 k fun g hf => (q11 g hf).1, fun g hg => ⟨(q11 g hg).1, Nat.lt_of_lt_of_le (q11 g hg).2.1 k.size, (q11 g hg).2.2⟩⟩
theorem BothP.free (h : BothP X wr s s' S ss S' ss' F) {F2 : Nat → Prop} (hF : ∀ g, F2 g → F g) : BothP X wr s s' S ss S' ss' F2 := by
  obtain ⟨hl, L, hs, ht, hm, L', q1, q2, q3, q4, q5, q6, q7, q8, q9, q10, q11⟩ := h
  exact ⟨hl, L, hs, ht, hm, L', q1, q2, q3, q4, q5, q6, q7, q8, q9, q10, fun g hg => q11 g (hF g hg)⟩
/-- what is made by others is none of theirs -/
theorem BothP.add (h : BothP X wr s s' S ss S' ss' F) (a : Aft wr w') : BothP X w' s s' S ss S' ss' (fun g => F g ∨ (wr.heap.size ≤ g ∧ g < w'.heap.size)) := by
  obtain ⟨hl, L, hs, ht, hm, L', q1, q2, q3, q4, q5, q6, q7, q8, q9, q10, q11⟩ := h
  have hz := a.size
  have hx := q10.size
  refine ⟨hl, L, hs, ht, hm, L', q1, q2, q3.aft a, q4, q5, q6.aft a, q7, q8, q9, q10.trans a, fun g hg => ?_⟩
  rcases hg with hg | hg
  · exact ⟨(q11 g hg).1, Nat.lt_of_lt_of_le (q11 g hg).2.1 a.size, (q11 g hg).2.2⟩
  · exact ⟨by omega, hg.2, fun h1 => by have := (q3.lt g h1).2; omega, fun h1 => by have := (q6.lt g h1).2; omega⟩
/-- the program's Do -/
theorem both_do (h : BothP X wr s s' S ss S' ss' F) (x : ROp) (A : Option Addr) (cap : Nat) (hrow : SlAt wr 3 ValR A cap x.row) (hA : ∀ b off, A = some ⟨b, off, none⟩ → 0 < x.row.length → b < X.heap.size) (hc : Small x.col.size) (hv : Small x.v.text.size) :
    Calls Tryz.prog 11 #[.pointer (some ⟨s, 0, none⟩), .agg #[.int .i64 x.kind, .string x.role, .string x.schema, .string x.table, .slice A x.row.length cap, .string x.col, .int .i64 x.v.kind, .int .i64 x.v.int, .string x.v.text]] wr fun e w' =>
      ∃ h R, R.map ORow.vals = (doS S x).2.1 ∧ e = .returned (.tuple #[.slice h.a (doS S x).2.1.length h.c, .int .i64 (doS S x).2.2]) ∧ RowsIn w' X.heap.size h R ∧ (rowBlks h R).Nodup ∧ BothP X w' s s' (doS S x).1 ss S' ss' (fun g => F g ∨ g ∈ rowBlks h R) ∧ (∀ g ∈ rowBlks h R, ¬ F g) ∧ Kb (fun g => ¬ F g ∧ X.heap.size ≤ g) wr w' := by
  obtain ⟨hl, L, hs, ht, hm, L', rfl, q2, q3, q4, q5, q6, q7, q8, q9, q10, q11⟩ := h
  refine (do12 X.heap.size s hl L ss x A cap wr q3 q4 q5 hrow (fun b off e h0 hb => by
    have h5 := hA b off e h0
    have h6 := (q3.lt b hb).1
    omega) hc hv).mono fun e w' ⟨L2, h, R, p1, p2, p3, p4, p5, p6, p7, p8, p9, p10, p11⟩ => ?_
  have hx : ∀ y ∈ L2, SmT y.x.t := fun y hy => by
    have : y.x ∈ L.map OShf.x := by rw [← p6]; exact List.mem_map_of_mem hy
    obtain ⟨y', hy', e⟩ := List.mem_map.1 this
    rw [← e]
    exact q5 y' hy'
  have r6 := q6.kb p4 fun g hg hp => q9 g hg hp
  have hnF : ∀ g ∈ rowBlks h R, ¬ F g := fun g hg hf => by
    rcases p11 g hg with h1 | h1
    · exact (q11 g hf).2.2.1 h1
    · have := (q11 g hf).2.1; omega
  refine ⟨h, R, p2, p3, p7, p8, ⟨hl, L2, hs, ht, hm, L', p1, q2, p5, doS_ok x q4, hx, r6, q7, q8, fun g hg hp => ?_, aft_kb q10 p4 fun g hg => (q3.lt g hg).1, fun g hf => ?_⟩, hnF, p4.mono fun g _ hg => ⟨fun hf => (q11 g hf).2.2.1 hg, (q3.lt g hg).1⟩⟩
  · rcases p10 g hp with h1 | h1
    · exact q9 g hg h1
    · have := (q6.lt g hg).2; omega
  · rcases hf with hf | hg
    · refine ⟨(q11 g hf).1, Nat.lt_of_lt_of_le (q11 g hf).2.1 p4.size, fun h1 => ?_, (q11 g hf).2.2.2⟩
      rcases p10 g h1 with h2 | h2
      · exact (q11 g hf).2.2.1 h2
      · have := (q11 g hf).2.1; omega
    · refine ⟨(p7.lt g hg).1, (p7.lt g hg).2, p9 g hg, fun hr => ?_⟩
      rcases p11 g hg with h1 | h1
      · exact q9 g hr h1
      · have := (q6.lt g hr).2; omega
/-- the document's Do -/
theorem both_do2 (h : BothP X wr s s' S ss S' ss' F) (x : ROp) (A : Option Addr) (cap : Nat) (hrow : SlAt wr 3 ValR A cap x.row) (hc : Small x.col.size) (hv : Small x.v.text.size) :
    Calls Tryz.prog 12 #[.pointer (some ⟨s', 0, none⟩), .agg #[.int .i64 x.kind, .string x.role, .string x.schema, .string x.table, .slice A x.row.length cap, .string x.col, .int .i64 x.v.kind, .int .i64 x.v.int, .string x.v.text]] wr fun e w' =>
      ∃ A2 c2, e = .returned (.tuple #[.slice A2 (doS S' x).2.1.length c2, .int .i64 (doS S' x).2.2]) ∧ SlAt w' 1 RowsR A2 c2 (doS S' x).2.1 ∧ BothP X w' s s' S ss (doS S' x).1 ss' F ∧ Kb (fun g => ¬ F g ∧ X.heap.size ≤ g) wr w' := by
  obtain ⟨hl, L, hs, ht, hm, L', q1, rfl, q3, q4, q5, q6, q7, q8, q9, q10, q11⟩ := h
  refine (rdo12 q6 q7 q8 x A cap hrow hc hv).mono fun e w' ⟨L2, A2, c2, p1, p2, p3, p4, p5, p6, p7⟩ => ?_
  have hb : ∀ g, g ∈ hm.blk → g ∈ refB s' hs ht hm L' := fun g hg => List.mem_cons_of_mem _ (List.mem_append.2 (.inl hg))
  refine ⟨A2, c2, p3, p6, ⟨hl, L, hs, ht, hm, L2, q1, p1, q3.kb p4 fun g hg hp => q9 g (hb g hp) hg, q4, q5, p5, doS_ok x q7, by rw [p2]; exact q8, fun g hg hp => ?_, aft_kb q10 p4 fun g hg => (q6.lt g (hb g hg)).1, fun g hg => ⟨(q11 g hg).1, Nat.lt_of_lt_of_le (q11 g hg).2.1 p4.size, (q11 g hg).2.2.1, fun hr => ?_⟩⟩, p4.mono fun g _ hg => ⟨fun hf => (q11 g hf).2.2.2 (hb g hg), (q6.lt g (hb g hg)).1⟩⟩
  · rcases p7 g hg with h1 | h1
    · exact q9 g h1 hp
    · have := (q3.lt g hp).2; omega
  · rcases p7 g hr with h1 | h1
    · exact (q11 g hg).2.2.2 h1
    · have := (q11 g hg).2.1; omega
theorem loadS_sm {S : List Shf} {o : Objs} {L L2 : List OShf} (e : storeS L2 = (loadS (storeS L) o).1) (h : ∀ y ∈ L, SmT y.x.t) (ht : ∀ t ∈ o.tables, SmT t) : ∀ y ∈ L2, SmT y.x.t := fun y hy => by
  have hm : y.s ∈ (loadS (storeS L) o).1 := by rw [← e]; exact List.mem_map_of_mem hy
  unfold loadS at hm
  split at hm
  · obtain ⟨t, ht2, e⟩ := List.mem_map.1 hm
    have e1 : t = y.x.t := congrArg Shf.t e
    rw [← e1]
    exact ht t ht2
  · obtain ⟨y2, hy2, e⟩ := List.mem_map.1 hm
    have e1 : y2.x.t = y.x.t := congrArg Shf.t e
    rw [← e1]
    exact h y2 hy2
/-- the program's Load -/
theorem both_ld (h : BothP X wr s s' S ss S' ss' F) (o : Objs) (As : Option Addr) (caps : Nat) (At : Option Addr) (capt : Nat) (hsch : SlAt wr 2 SchR As caps o.schemas) (htab : SlAt wr 5 TabR At capt o.tables) :
    Calls Tryz.prog 8 #[.pointer (some ⟨s, 0, none⟩), .agg #[.slice As o.schemas.length caps, .slice At o.tables.length capt]] wr fun e w' =>
      e = .returned (.int .i64 (loadS S o).2) ∧ BothP X w' s s' (loadS S o).1 (if checkO o = true then o.schemas else ss) S' ss' F ∧ Kb (fun g => ¬ F g ∧ X.heap.size ≤ g) wr w' := by
  obtain ⟨hl, L, hs, ht, hm, L', rfl, q2, q3, q4, q5, q6, q7, q8, q9, q10, q11⟩ := h
  refine (load12 X.heap.size s hl L ss o As caps At capt wr q3 q4 q5 hsch htab).mono fun e w' ⟨hl2, L2, p1, p2, p3, p4, p5⟩ => ?_
  have hss : s ∈ stoBlks s hl L := List.mem_cons_self ..
  have hok : SOk (loadS (storeS L) o).1 (if checkO o = true then o.schemas else ss) := by
    by_cases hc : checkO o = true
    · rw [if_pos hc]; exact loadS_ok q4 hc
    · rw [if_neg hc]
      unfold loadS
      rw [if_neg hc]
      exact q4
  refine ⟨p2, ⟨hl2, L2, hs, ht, hm, L', p1, q2, p4, hok, loadS_sm (S := []) p1 q5 (sm_tabs htab).2, q6.kb p3 fun g hg e => q9 g hg (by rw [e]; exact hss), q7, q8, fun g hg hp => ?_, aft_kb q10 p3 fun g hg => by rw [hg]; exact (q3.lt s hss).1, fun g hf => ⟨(q11 g hf).1, Nat.lt_of_lt_of_le (q11 g hf).2.1 p3.size, fun hp => ?_, (q11 g hf).2.2.2⟩⟩, p3.mono fun g _ hg => ⟨fun hf => (q11 g hf).2.2.1 (by rw [hg]; exact hss), by rw [hg]; exact (q3.lt s hss).1⟩⟩
  rotate_left
  · rcases List.mem_cons.1 hp with h1 | h1
    · exact (q11 g hf).2.2.1 (by rw [h1]; exact hss)
    · rcases p5 g h1 with h2 | h2
      · exact (q11 g hf).2.2.1 h2
      · have := (q11 g hf).2.1; omega
  rcases List.mem_cons.1 hp with h1 | h1
  · exact q9 g hg (by rw [h1]; exact hss)
  · rcases p5 g h1 with h2 | h2
    · exact q9 g hg h2
    · have := (q6.lt g hg).2; omega
/-- the document's Load -/
theorem both_ld2 (h : BothP X wr s s' S ss S' ss' F) (o : Objs) (As : Option Addr) (caps : Nat) (At : Option Addr) (capt : Nat) (hsch : SlAt wr 2 SchR As caps o.schemas) (htab : SlAt wr 5 TabR At capt o.tables) (hmod : ModO o) :
    Calls Tryz.prog 9 #[.pointer (some ⟨s', 0, none⟩), .agg #[.slice As o.schemas.length caps, .slice At o.tables.length capt]] wr fun e w' =>
      e = .returned (.int .i64 (loadS S' o).2) ∧ BothP X w' s s' S ss (loadS S' o).1 (if checkO o = true then o.schemas else ss') F ∧ Kb (fun g => ¬ F g ∧ X.heap.size ≤ g) wr w' := by
  obtain ⟨hl, L, hs, ht, hm, L', q1, rfl, q3, q4, q5, q6, q7, q8, q9, q10, q11⟩ := h
  refine (rload12 q6 q7 q8 o As caps At capt hsch htab hmod).mono fun e w' hq => ?_
  have hss : s' ∈ refB s' hs ht hm L' := List.mem_cons_self ..
  rcases hq with ⟨hc, rfl, a⟩ | ⟨hc, hs2, ht2, hm2, L2, p1, p2, rfl, p3, p4, p5⟩
  · have hc2 : ¬ checkO o = true := by rw [hc]; simp
    have e1 : loadS (refS L') o = (refS L', 63) := by unfold loadS; rw [if_neg hc2]
    rw [e1, if_neg hc2]
    refine ⟨rfl, ⟨hl, L, hs, ht, hm, L', q1, rfl, q3.aft a, q4, q5, q6.aft a, q7, q8, q9, q10.trans a, fun g hf => ⟨(q11 g hf).1, Nat.lt_of_lt_of_le (q11 g hf).2.1 a.size, (q11 g hf).2.2⟩⟩, Kb.of_aft a⟩
  · have e1 : loadS (refS L') o = (o.tables.map (turnS (refS L')), 0) := by unfold loadS; rw [if_pos hc]
    have hok : SOk (o.tables.map (turnS (refS L'))) o.schemas := by have h8 := loadS_ok q7 hc; rw [e1] at h8; exact h8
    rw [e1, if_pos hc]
    refine ⟨rfl, ⟨hl, L, hs2, ht2, hm2, L2, q1, p1, q3.kb p3 fun g hg e => q9 s' hss (by rw [← e]; exact hg), q4, q5, p4, hok, ?_, fun g hg hp => ?_, aft_kb q10 p3 fun g hg => by rw [hg]; exact (q6.lt s' hss).1, fun g hf => ⟨(q11 g hf).1, Nat.lt_of_lt_of_le (q11 g hf).2.1 p3.size, (q11 g hf).2.2.1, fun hr => ?_⟩⟩, p3.mono fun g _ hg => ⟨fun hf => (q11 g hf).2.2.2 (by rw [hg]; exact hss), by rw [hg]; exact (q6.lt s' hss).1⟩⟩
    · unfold objOf
      rw [p2]
      exact ⟨sm_schs hsch, sm_tabs htab⟩
    · rcases List.mem_cons.1 hg with h1 | h1
      · exact q9 s' hss (by rw [← h1]; exact hp)
      · have h2 := p5 g h1
        have := (q3.lt g hp).2
        omega
    · rcases List.mem_cons.1 hr with h1 | h1
      · exact (q11 g hf).2.2.2 (by rw [h1]; exact hss)
      · have h2 := p5 g h1
        have := (q11 g hf).2.1
        omega
end
end Go.Proofs.YtiadkchlkdaceaaGreat

namespace Go.Proofs.YtiadkchlkdaceaaGreat
open Go.RowKit Go.Deep
set_option maxRecDepth 100000
set_option linter.unusedVariables false
section
variable {X wr w' : World} {s s' : Nat} {S S' : List Shf} {ss ss' : List Sch} {F : Nat → Prop}
theorem both_dump (h : BothP X wr s s' S ss S' ss' F) : Calls Tryz.prog 15 #[.pointer (some ⟨s, 0, none⟩)] wr (DumpP wr (dumpS S)) := by
  obtain ⟨hl, L, hs, ht, hm, L', rfl, q2, q3, q4, q5, _⟩ := h
  exact dump12 X.heap.size s hl L ss wr q3 q4 q5
theorem both_same (h : BothP X wr s s' S ss S ss F) {B : Nat} {hd : Hd} {D : List ODmp} (d : DmpsIn wr B hd D) (e : D.map ODmp.s = dumpS S) :
    Calls Tryz.prog 16 #[.pointer (some ⟨s', 0, none⟩), .slice hd.a S.length hd.c] wr fun e w' => e = .returned (.bool true) ∧ Aft wr w' := by
  obtain ⟨hl, L, hs, ht, hm, L', q1, rfl, q3, q4, q5, q6, q7, q8, _⟩ := h
  have r := q6.at q7 q8
  exact rsame12 (refS L') s' _ ht.a ht.c hm.a hm.c hd.a hd.c wr r.row r.tab r.rows (d.at e q7)
/-- a dump that is written over is new memory -/
theorem both_over {V : World} (h : BothP X wr s s' S ss S' ss' F) {hd : Hd} {D : List ODmp} (d : DmpsIn V wr.heap.size hd D) (a : Aft wr V) (e : D.map ODmp.s = dumpS S) :
    Calls Tryz.prog 17 #[.slice hd.a S.length hd.c] V fun e w' => e = .returned (.tuple #[]) ∧ BothP X w' s s' S ss S' ss' F ∧ Aft wr w' := by
  have ok := h.ok
  have hl : D.length = S.length := by have := congrArg List.length e; simpa [dumpS] using this
  have h64 : S.length ≤ 64 := by have := ok.good.nt; simpa using this
  have hm : ∀ y ∈ D, ∃ x ∈ S, y.cols = x.t.cols ∧ y.rows.map ORow.vals = x.rows := fun y hy => by
    have h1 : y.s ∈ dumpS S := by rw [← e]; exact List.mem_map_of_mem hy
    obtain ⟨x, hx, e1⟩ := List.mem_map.1 h1
    exact ⟨x, hx, (congrArg Dmp.cols e1).symm, (congrArg Dmp.rows e1).symm⟩
  have := over12 wr.heap.size hd D V d ⟨by omega, fun y hy => by
    obtain ⟨x, hx, e1, e2⟩ := hm y hy
    have hok := ok.shf hx
    have hlen : y.rows.length = x.rows.length := by rw [← e2, List.length_map]
    refine ⟨by omega, by rw [e1]; omega, fun o ho => ?_⟩
    have h1 := ((besideB_iff formB _ _).1 (hok.2.2 o.vals (by rw [← e2]; exact List.mem_map_of_mem ho))).1
    omega⟩
  rw [hl] at this
  refine this.mono fun e w' ⟨he, k⟩ => ⟨he, ?_⟩
  have a2 : Aft wr w' := k.to_aft a fun g hg h1 => by omega
  exact ⟨h.aft a2, a2⟩
theorem do_res {S : List Shf} {ss : List Sch} (x : ROp) (ok : SOk S ss) : (doS S x).2.1.length ≤ 64 ∧ ∀ r ∈ (doS S x).2.1, (Small (r.length * 16) ∧ ∀ v ∈ r, Small v.text.size) ∧ r.length ≤ 8 := by
  have hf : ∀ y ∈ S, ∀ r, besideB formB y.t.cols r = true → (Small (r.length * 16) ∧ ∀ v ∈ r, Small v.text.size) ∧ r.length ≤ 8 := fun y hy r h => by
    have h2 := (ok.shf hy).2.1
    have h1 := ((besideB_iff formB _ _).1 h).1
    exact ⟨row_small h2 h, by omega⟩
  rw [doS_is']
  split
  · exact ⟨by simp, fun r h => by cases h⟩
  split
  · exact ⟨by simp, fun r h => by cases h⟩
  rename_i hj
  have hq : (shfAt S x.schema x.table).toNat < S.length := by
    have := (idxP_range (fun y : Shf => eqS y.t.schema x.schema && eqS y.t.name x.table) S).2
    unfold shfAt at hj ⊢; omega
  obtain ⟨q, hqe⟩ : ∃ q, (shfAt S x.schema x.table).toNat = q := ⟨_, rfl⟩
  rw [hqe] at hq ⊢
  have hm := shfN_mem hq
  have hg : (goneS S q x.col x.v).length ≤ 64 ∧ ∀ r ∈ goneS S q x.col x.v, (Small (r.length * 16) ∧ ∀ v ∈ r, Small v.text.size) ∧ r.length ≤ 8 := ⟨Nat.le_trans (List.length_filter_le _ _) (ok.most _ hm), fun r hr => hf _ hm r (ok.form _ hm r (List.mem_filter.1 hr).1)⟩
  split
  · exact ⟨by simp, fun r h => by cases h⟩
  split
  · split
    · exact ⟨by simp, fun r h => by cases h⟩
    · rename_i hw
      have hw : wrongS S q x.row = 0 := by simpa using hw
      unfold wrongS at hw
      split at hw
      · rename_i h1; exact absurd hw h1
      rename_i h1
      refine ⟨by simp, fun r hr => ?_⟩
      rw [List.mem_singleton] at hr
      subst hr
      exact hf _ hm _ (fitE_zero (by omega))
  · split
    · unfold removeS
      split
      · exact ⟨by simp, fun r h => by cases h⟩
      · exact hg
    · exact hg
end
end Go.Proofs.YtiadkchlkdaceaaGreat

namespace Go.Proofs.YtiadkchlkdaceaaGreat
open Go.RowKit Go.Deep
set_option maxRecDepth 100000
set_option linter.unusedVariables false
theorem both_nil {w V0 W : World} (hs : StoIn V0 w.heap.size w.heap.size ⟨none, 0, 0⟩ []) (a : Aft w V0) (aW : Aft V0 W) (r : RowAt W V0.heap.size [.slice none 0 0, .slice none 0 0, .slice none 0 0]) : BothP w W w.heap.size V0.heap.size [] [] [] [] (fun _ => False) := by
  have hz := a.size
  have h1 := hs.row.1
  refine ⟨⟨none, 0, 0⟩, [], ⟨none, 0, 0⟩, ⟨none, 0, 0⟩, ⟨none, 0, 0⟩, [], rfl, rfl, hs.aft aW, nil_ok, (fun y hy => by cases hy), ⟨hz, r, ⟨own_nil _ _ _ _, own_nil _ _ _ _, (fun x hx => by cases hx), by simp [blk_nil]⟩, own_nil _ _ _ _, (fun y hy => by cases hy), by simp [blk_nil, immB], (fun g hg => by simp [blk_nil] at hg)⟩, nil_ok, ?_, fun g hg hp => ?_, a.trans aW, fun g hg => hg.elim⟩
  · exact ⟨⟨by unfold Small; decide, fun x hx => by cases hx⟩, by unfold Small; decide, fun t ht => by cases ht⟩
  · have e1 : g = V0.heap.size := by simpa [refB, immB, blk_nil] using hg
    have e2 : g = w.heap.size := by simpa [stoBlks, blk_nil] using hp
    omega
set_option maxHeartbeats 16000000 in
theorem law_sruns (ops : List SOp) (R : Option Addr) (capR : Nat) (w : World) (hops : SlAt w 12 SOpR R capR ops) :
    Calls Tryz.prog 3 #[.slice R ops.length capR] w fun e w' => e = .returned (.bool true) ∧ Aft w w' := by
  have hlen := hops.len
  have HO := Lib.hid hops
  clear hops
  go_enter Tryz.func3, Tryz.ntmps3
  by_cases hr : (100 : Int) < (ops.length : Int)
  · go_wp2_with fail
    go_ret
    exact ⟨rfl, Aft.refl _⟩
  · go_wp2_with fail
    refine (new12 w).mono ?_
    rintro e V0 ⟨rfl, aV, hst⟩
    obtain ⟨W, hW⟩ : ∃ W, W = V0.alloc (.cells #[.slice none 0 0, .slice none 0 0, .slice none 0 0] 32) := ⟨_, rfl⟩
    have aW : Aft V0 W := by rw [hW]; exact (Aft.refl V0).alloc _
    have rW : RowAt W V0.heap.size [.slice none 0 0, .slice none 0 0, .slice none 0 0] := by rw [hW]; exact box_row2 (Aft.refl _)
    have HB0 := Lib.hid (both_nil hst aV aW rW)
    clear aV hst aW rW
    go_wp2_with fail
    rw [← hW]
    clear hW
    go_wp2_with fail
    go_loopw [5] (fun i wr => ∃ (k : Nat) (S : List Shf) (ss : List Sch), k ≤ ops.length ∧ i = .int .i64 k ∧ BothP w wr w.heap.size V0.heap.size S ss S ss (fun _ => False)) (fun i _ => ops.length - (intOf i).toNat)
    case atStart => exact ⟨0, [], [], Nat.zero_le _, rfl, HB0.out⟩
    case round =>
      obtain ⟨k, S, ss, hk, rfl, hb⟩ := hrel
      have HB := Lib.hid hb
      clear hb
      obtain ⟨V1, hV1⟩ : ∃ V1, V1 = wr := ⟨_, rfl⟩
      subst hV1
      by_cases hlt : k < ops.length
      · obtain ⟨b, off, As, caps, At, capt, A, cap, hR, hb, c0, c1, c2, c3, c4, c5, c6, c7, c8, c9, c10, c11, hsch, htab, hrow, sm1, sm2⟩ := sop_at HO.out hlt
        have aw := HB.out.to
        have g : ∀ {o2 : Nat} {u : Value}, w.cell? ⟨b, o2, none⟩ = some u → V1.cell? ⟨b, o2, none⟩ = some u := @fun o2 u hu => (Below.cell aw (p := ⟨b, o2, none⟩) hb).trans hu
        have d0 := g c0
        have d1 := g c1
        have d2 := g c2
        have d3 := g c3
        have d4 := g c4
        have d5 := g c5
        have d6 := g c6
        have d7 := g c7
        have d8 := g c8
        have d9 := g c9
        have d10 := g c10
        have d11 := g c11
        have hbV := Nat.lt_of_lt_of_le hb aw.size
        obtain ⟨p, hp⟩ : ∃ p, ops[k] = p := ⟨_, rfl⟩
        rw [hp] at d0 d1 d2 d3 d4 d5 d6 d7 d8 d9 d10 d11 hsch htab hrow sm1 sm2
        have HSC := Lib.hid hsch
        have HTB := Lib.hid htab
        have HRO := Lib.hid hrow
        have HS1 := Lib.hid sm1
        have HS2 := Lib.hid sm2
        rw [hR]
        clear c0 c1 c2 c3 c4 c5 c6 c7 c8 c9 c10 c11 g hp hsch htab hrow sm1 sm2 hb aw hR
        obtain ⟨Wo, hWo⟩ : ∃ Wo, Wo = V1.alloc (.cells #[.bool p.ld, .slice As p.o.schemas.length caps, .slice At p.o.tables.length capt, .int .i64 p.x.kind, .string p.x.role, .string p.x.schema, .string p.x.table, .slice A p.x.row.length cap, .string p.x.col, .int .i64 p.x.v.kind, .int .i64 p.x.v.int, .string p.x.v.text] 41) := ⟨_, rfl⟩
        have aWo : Aft V1 Wo := by rw [hWo]; exact (Aft.refl V1).alloc _
        have rWo : RowAt Wo V1.heap.size [.bool p.ld, .slice As p.o.schemas.length caps, .slice At p.o.tables.length capt, .int .i64 p.x.kind, .string p.x.role, .string p.x.schema, .string p.x.table, .slice A p.x.row.length cap, .string p.x.col, .int .i64 p.x.v.kind, .int .i64 p.x.v.int, .string p.x.v.text] := by rw [hWo]; exact box_row2 (Aft.refl _)
        have HBo := Lib.hid (HB.out.add aWo)
        have HRW := Lib.hid rWo
        have CL := Lib.hid (large12op p As caps At capt A cap Wo (schs_aft HBo.out.to HSC.out) (tabs_aft HBo.out.to HTB.out))
        have x0 := rWo.cell (j := 0) rfl
        have x1 := rWo.cell (j := 1) rfl
        have x2 := rWo.cell (j := 2) rfl
        have x3 := rWo.cell (j := 3) rfl
        have x4 := rWo.cell (j := 4) rfl
        have x5 := rWo.cell (j := 5) rfl
        have x6 := rWo.cell (j := 6) rfl
        have x7 := rWo.cell (j := 7) rfl
        have x8 := rWo.cell (j := 8) rfl
        have x9 := rWo.cell (j := 9) rfl
        have x10 := rWo.cell (j := 10) rfl
        have x11 := rWo.cell (j := 11) rfl
        have xz := rWo.1
        clear aWo rWo
        go_wp2_with fail
        rw [← hWo]
        clear hWo d0 d1 d2 d3 d4 d5 d6 d7 d8 d9 d10 d11 hbV
        go_wp2_with fail
        refine CL.out.mono ?_
        rintro e V2 ⟨bl, rfl, a2, hbl⟩
        have HB2 := Lib.hid (HBo.out.aft a2)
        have HR2 := Lib.hid (HRW.out.aft a2)
        have HLG := Lib.hid hbl
        clear a2 hbl CL x0 x1 x2 x3 x4 x5 x6 x7 x8 x9 x10 x11 xz
        cases bl
        case true =>
          go_wp2_with fail
          go_ret
          exact ⟨rfl, HB2.out.to⟩
        case false =>
          obtain ⟨ld, hld⟩ : ∃ ld, p.ld = ld := ⟨_, rfl⟩
          have HLD := Lib.hid hld
          have x0 := HR2.out.cell (j := 0) rfl
          have xz := HR2.out.1
          rw [hld] at x0
          clear hld
          cases ld
          case true =>
            have hmd := (HLG.out rfl).1 HLD.out
            have HMD := Lib.hid hmd
            have COW := Lib.hid (rOwn_in p.o As caps At capt V2 (schs_aft HB2.out.to HSC.out) (tabs_aft HB2.out.to HTB.out) hmd)
            have x1 := HR2.out.cell (j := 1) rfl
            have x2 := HR2.out.cell (j := 2) rfl
            clear hmd
            go_wp2_with fail
            refine COW.out.mono ?_
            rintro e V3 ⟨hs2, ht2, Lx, hLx, rfl, a3, ob3⟩
            obtain ⟨Wt, hWt⟩ : ∃ Wt, Wt = V3.alloc (.cells #[.slice hs2.a p.o.schemas.length hs2.c, .slice ht2.a p.o.tables.length ht2.c] 29) := ⟨_, rfl⟩
            have aWt : Aft V3 Wt := by rw [hWt]; exact (Aft.refl V3).alloc _
            have rWt : RowAt Wt V3.heap.size [.slice hs2.a p.o.schemas.length hs2.c, .slice ht2.a p.o.tables.length ht2.c] := by rw [hWt]; exact box_row2 (Aft.refl _)
            have HBt := Lib.hid (HB2.out.add (a3.trans aWt))
            have HRt := Lib.hid rWt
            have HR2t := Lib.hid (HR2.out.aft (a3.trans aWt))
            have HOB := Lib.hid (ob3.aft aWt)
            have HLX := Lib.hid hLx
            have HZ23 := Lib.hid a3.size
            have HSMX := Lib.hid (show SmO (objOf p.o.schemas Lx) by unfold objOf; rw [hLx]; exact ⟨sm_schs HSC.out, sm_tabs HTB.out⟩)
            clear a3 aWt rWt ob3 hLx COW
            go_wp2_with fail
            rw [← hWt]
            clear hWt x0 x1 x2 xz
            obtain ⟨cc, hcc⟩ : ∃ cc, (loadS S p.o).2 = cc := ⟨_, rfl⟩
            obtain ⟨S2, hS2⟩ : ∃ S2, (loadS S p.o).1 = S2 := ⟨_, rfl⟩
            obtain ⟨ss2, hss2⟩ : ∃ ss2, (if checkO p.o = true then p.o.schemas else ss) = ss2 := ⟨_, rfl⟩
            have HCC := Lib.hid hcc
            have HSS := Lib.hid (And.intro hS2 hss2)
            have SW : Wt.cell? ⟨V1.heap.size, 1, none⟩ = some (.slice As p.o.schemas.length caps) ∧ Wt.cell? ⟨V1.heap.size, 2, none⟩ = some (.slice At p.o.tables.length capt) ∧ V1.heap.size < Wt.heap.size ∧ Wt.cell? ⟨V3.heap.size, 0, none⟩ = some (.slice hs2.a p.o.schemas.length hs2.c) ∧ Wt.cell? ⟨V3.heap.size, 1, none⟩ = some (.slice ht2.a p.o.tables.length ht2.c) ∧ V3.heap.size < Wt.heap.size := ⟨HR2t.out.cell (j := 1) rfl, HR2t.out.cell (j := 2) rfl, HR2t.out.1, HRt.out.cell (j := 0) rfl, HRt.out.cell (j := 1) rfl, HRt.out.1⟩
            have HSW := Lib.hid SW
            have KSD := Lib.hid (show (fun V : World => V.cell? ⟨V1.heap.size, 1, none⟩ = some (.slice As p.o.schemas.length caps) ∧ V.cell? ⟨V1.heap.size, 2, none⟩ = some (.slice At p.o.tables.length capt) ∧ V1.heap.size < V.heap.size ∧ V.cell? ⟨V3.heap.size, 0, none⟩ = some (.slice hs2.a p.o.schemas.length hs2.c) ∧ V.cell? ⟨V3.heap.size, 1, none⟩ = some (.slice ht2.a p.o.tables.length ht2.c) ∧ V3.heap.size < V.heap.size) Wt.drew from SW)
            clear hcc hS2 hss2 SW
            refine wp_region_held_drew (S := fun V => V.cell? ⟨V1.heap.size, 1, none⟩ = some (.slice As p.o.schemas.length caps) ∧ V.cell? ⟨V1.heap.size, 2, none⟩ = some (.slice At p.o.tables.length capt) ∧ V1.heap.size < V.heap.size ∧ V.cell? ⟨V3.heap.size, 0, none⟩ = some (.slice hs2.a p.o.schemas.length hs2.c) ∧ V.cell? ⟨V3.heap.size, 1, none⟩ = some (.slice ht2.a p.o.tables.length ht2.c) ∧ V3.heap.size < V.heap.size) (by kernel_rfl) KSD.out (fun hHeld => ?_)
            refine wpAnyH_take (i := 0) (v := ?v0) rfl (by kernel_rfl) (by kernel_rfl) (by kernel_rfl) (fun _ _ _ h => h) (Or.inl ⟨by rfl, ?hy0⟩) hHeld ?rest0
            case hy0 =>
              intro w hSw
              (try dsimp only at hSw)
              go_simp
              (try with_reducible rfl)
            (try simp only [Act.put, List.setIfInBounds_toArray, List.set_cons_zero, List.set_cons_succ])
            refine wpAnyH_take (i := 1) (v := ?v1) rfl (by kernel_rfl) (by kernel_rfl) (by kernel_rfl) (fun _ _ _ h => h) (Or.inl ⟨by rfl, ?hy1⟩) hHeld ?rest1
            case hy1 =>
              intro w hSw
              (try dsimp only at hSw)
              go_simp
              (try with_reducible rfl)
            (try simp only [Act.put, List.setIfInBounds_toArray, List.set_cons_zero, List.set_cons_succ])
            refine wpAnyH_take (i := 2) (v := ?v2) rfl (by kernel_rfl) (by kernel_rfl) (by kernel_rfl) (fun _ _ _ h => h) (Or.inl ⟨by rfl, ?hy2⟩) hHeld ?rest2
            case hy2 =>
              intro w hSw
              (try dsimp only at hSw)
              go_simp
              (try with_reducible rfl)
            (try simp only [Act.put, List.setIfInBounds_toArray, List.set_cons_zero, List.set_cons_succ])
            refine wpAnyH_take (i := 4) (v := ?v4) rfl (by kernel_rfl) (by kernel_rfl) (by kernel_rfl) (fun _ _ _ h => h) (Or.inl ⟨by rfl, ?hy4⟩) hHeld ?rest4
            case hy4 =>
              intro w hSw
              (try dsimp only at hSw)
              go_simp
              (try with_reducible rfl)
            (try simp only [Act.put, List.setIfInBounds_toArray, List.set_cons_zero, List.set_cons_succ])
            refine wpAnyH_take (i := 5) (v := ?v5) rfl (by kernel_rfl) (by kernel_rfl) (by kernel_rfl) (fun _ _ _ h => h) (Or.inl ⟨by rfl, ?hy5⟩) hHeld ?rest5
            case hy5 =>
              intro w hSw
              (try dsimp only at hSw)
              go_simp
              (try with_reducible rfl)
            (try simp only [Act.put, List.setIfInBounds_toArray, List.set_cons_zero, List.set_cons_succ])
            refine wpAnyH_ready (rs := [3]) (by kernel_rfl) (by simp) ?_
            refine AllReadyH.cons rfl (fun K hK => ?_) AllReadyH.nil
            go_simp
            go_at_call 8
            have HBd := Lib.hid (HBt.out.aft ((Aft.refl Wt).drew))
            refine (both_ld HBd.out p.o As caps At capt (schs_aft HBd.out.to HSC.out) (tabs_aft HBd.out.to HTB.out)).mono ?_
            rintro e w4 ⟨rfl, b4, k4⟩
            have HB4 := Lib.hid b4
            have HR4a := Lib.hid (k4.row (HR2t.out.aft ((Aft.refl Wt).drew)) (fun hn => hn.1 (.inl (.inr ⟨Nat.le_refl _, HRW.out.1⟩))))
            have HR4b := Lib.hid (k4.row (HRt.out.aft ((Aft.refl Wt).drew)) (fun hn => hn.1 (.inr ⟨HZ23.out, HRt.out.1⟩)))
            have HO4 := Lib.hid ((HOB.out.aft ((Aft.refl Wt).drew)).kb k4 (fun g hg hn => hn.1 (.inr ⟨(HOB.out.lt g hg).1, (HOB.out.lt g hg).2⟩)))
            (try dsimp only)
            clear hHeld b4 k4
            refine hK.out _ _ ⟨(HR4a.out).cell (j := 1) rfl, (HR4a.out).cell (j := 2) rfl, (HR4a.out).1, (HR4b.out).cell (j := 0) rfl, (HR4b.out).cell (j := 1) rfl, (HR4b.out).1⟩ (fun hHeld => ?_)
            clear hK K
            (try simp only [Act.put, List.setIfInBounds_toArray, List.set_cons_zero, List.set_cons_succ])
            refine wpAnyH_ready (rs := [6]) (by kernel_rfl) (by simp) ?_
            refine AllReadyH.cons rfl (fun K hK => ?_) AllReadyH.nil
            go_simp
            go_at_call 9
            refine (both_ld2 HB4.out p.o hs2.a hs2.c ht2.a ht2.c (HO4.out.schs HSMX.out) (by rw [← HLX.out]; exact HO4.out.tabs HSMX.out) HMD.out).mono ?_
            rintro e w5 ⟨rfl, b5, k5⟩
            have HB5 := Lib.hid b5
            have HR5a := Lib.hid (k5.row HR4a.out (fun hn => hn.1 (.inl (.inr ⟨Nat.le_refl _, HRW.out.1⟩))))
            have HR5b := Lib.hid (k5.row HR4b.out (fun hn => hn.1 (.inr ⟨HZ23.out, HRt.out.1⟩)))
            have HO5 := Lib.hid (HO4.out.kb k5 (fun g hg hn => hn.1 (.inr ⟨(HOB.out.lt g hg).1, (HOB.out.lt g hg).2⟩)))
            (try dsimp only)
            clear hHeld b5 k5
            refine hK.out _ _ ⟨(HR5a.out).cell (j := 1) rfl, (HR5a.out).cell (j := 2) rfl, (HR5a.out).1, (HR5b.out).cell (j := 0) rfl, (HR5b.out).cell (j := 1) rfl, (HR5b.out).1⟩ (fun hHeld => ?_)
            clear hK K
            (try simp only [Act.put, List.setIfInBounds_toArray, List.set_cons_zero, List.set_cons_succ])
            refine wpAnyH_take (i := 7) (v := ?v7) rfl (by kernel_rfl) (by kernel_rfl) (by kernel_rfl) (fun _ _ _ h => h) (Or.inl ⟨by rfl, ?hy7⟩) hHeld ?rest7
            case hy7 =>
              intro w hSw
              (try dsimp only at hSw)
              go_simp
              (try with_reducible rfl)
            (try simp only [Act.put, List.setIfInBounds_toArray, List.set_cons_zero, List.set_cons_succ])
            refine wpAnyH_take (i := 8) (v := ?v8) rfl (by kernel_rfl) (by kernel_rfl) (by kernel_rfl) (fun _ _ _ h => h) (Or.inl ⟨by rfl, ?hy8⟩) hHeld ?rest8
            case hy8 =>
              intro w hSw
              (try dsimp only at hSw)
              go_simp
              (try with_reducible rfl)
            (try simp only [Act.put, List.setIfInBounds_toArray, List.set_cons_zero, List.set_cons_succ])
            refine wpAnyH_take (i := 9) (v := ?v9) rfl (by kernel_rfl) (by kernel_rfl) (by kernel_rfl) (fun _ _ _ h => h) (Or.inl ⟨by rfl, ?hy9⟩) hHeld ?rest9
            case hy9 =>
              intro w hSw
              (try dsimp only at hSw)
              go_simp
              (try with_reducible rfl)
            (try simp only [Act.put, List.setIfInBounds_toArray, List.set_cons_zero, List.set_cons_succ])
            refine wpAnyH_take (i := 10) (v := ?v10) rfl (by kernel_rfl) (by kernel_rfl) (by kernel_rfl) (fun _ _ _ h => h) (Or.inl ⟨by rfl, ?hy10⟩) hHeld ?rest10
            case hy10 =>
              intro w hSw
              (try dsimp only at hSw)
              go_simp
              (try with_reducible rfl)
            (try simp only [Act.put, List.setIfInBounds_toArray, List.set_cons_zero, List.set_cons_succ])
            refine wpAnyH_take (i := 11) (v := ?v11) rfl (by kernel_rfl) (by kernel_rfl) (by kernel_rfl) (fun _ _ _ h => h) (Or.inl ⟨by rfl, ?hy11⟩) hHeld ?rest11
            case hy11 =>
              intro w hSw
              (try dsimp only at hSw)
              go_simp
              (try with_reducible rfl)
            (try simp only [Act.put, List.setIfInBounds_toArray, List.set_cons_zero, List.set_cons_succ])
            refine wpAnyH_ready (rs := [12]) (by kernel_rfl) (by simp) ?_
            refine AllReadyH.cons rfl (fun K hK => ?_) AllReadyH.nil
            go_simp
            go_at_call 10
            refine (sameO_any p.o As caps At capt hs2.a hs2.c ht2.a ht2.c w5 (schs_aft HB5.out.to HSC.out) (tabs_aft HB5.out.to HTB.out) (HO5.out.schs HSMX.out) (by rw [← HLX.out]; exact HO5.out.tabs HSMX.out)).mono ?_
            rintro e w6 ⟨rfl, a6⟩
            have HB6 := Lib.hid (HB5.out.aft a6)
            have HR6a := Lib.hid (HR5a.out.aft a6)
            have HR6b := Lib.hid (HR5b.out.aft a6)
            (try dsimp only)
            clear hHeld a6
            refine hK.out _ _ ⟨(HR6a.out).cell (j := 1) rfl, (HR6a.out).cell (j := 2) rfl, (HR6a.out).1, (HR6b.out).cell (j := 0) rfl, (HR6b.out).cell (j := 1) rfl, (HR6b.out).1⟩ (fun hHeld => ?_)
            clear hK K
            (try simp only [Act.put, List.setIfInBounds_toArray, List.set_cons_zero, List.set_cons_succ])
            refine wpAnyH_take (i := 13) (v := ?v13) rfl (by kernel_rfl) (by kernel_rfl) (by kernel_rfl) (fun _ _ _ h => h) (Or.inl ⟨by rfl, ?hy13⟩) hHeld ?rest13
            case hy13 =>
              intro w hSw
              (try dsimp only at hSw)
              go_simp
              (try with_reducible rfl)
            (try simp only [Act.put, List.setIfInBounds_toArray, List.set_cons_zero, List.set_cons_succ])
            refine wpAnyH_take (i := 14) (v := ?v14) rfl (by kernel_rfl) (by kernel_rfl) (by kernel_rfl) (fun _ _ _ h => h) (Or.inl ⟨by rfl, ?hy14⟩) hHeld ?rest14
            case hy14 =>
              intro w hSw
              (try dsimp only at hSw)
              go_simp
              (try with_reducible rfl)
            (try simp only [Act.put, List.setIfInBounds_toArray, List.set_cons_zero, List.set_cons_succ])
            refine wpAnyH_done (by kernel_rfl) ?_ _
            clear hHeld
            rw [HSS.out.1, HSS.out.2] at HB6
            clear HB5 HR5a HR5b HO5 HB4 HR4a HR4b HO4 HR6a HR6b
            have HDL := Lib.hid (show (dumpS S2).length = (S2).length by simp [dumpS])
            go_wp2_with fail
            refine (both_dump HB6.out).mono ?_
            rintro e Y ⟨hd, D, hD, rfl, aY, inD⟩
            rw [HDL.out]
            have HBY := Lib.hid (HB6.out.aft aY)
            have CS2 := Lib.hid (both_same HBY.out inD hD)
            have HDD := Lib.hid hD
            have HAY := Lib.hid aY
            have HIND := Lib.hid inD
            clear hD aY inD
            go_wp2_with fail
            refine CS2.out.mono ?_
            rintro e U ⟨rfl, aU⟩
            have CO := Lib.hid (both_over HB6.out (HIND.out.aft aU) (HAY.out.trans aU) HDD.out)
            clear aU CS2
            go_wp2_with fail
            refine CO.out.mono ?_
            rintro e T9 ⟨rfl, hbT, _⟩
            have HBT := Lib.hid (hbT.free (F2 := fun _ => False) fun g h => h.elim)
            clear hbT CO
            go_wp2_with fail
            go_roundw
            case rel => exact ⟨k + 1, S2, ss2, by omega, by go_num, HBT.out⟩
            case measure => simp [intOf]; omega
          case false =>
            have hrl := (HLG.out rfl).2
            obtain ⟨i1, hi, hz0, hz1, hz2⟩ := info_parts infoV
            have JI := Lib.hid hi
            have JZ0 := Lib.hid hz0
            have JZ1 := Lib.hid hz1
            have JZ2 := Lib.hid hz2
            clear hi hz0 hz1 hz2
            have HNN := Lib.hid (sl_none HRO.out)
            have HNC := Lib.hid (sl_cells (f := cellsV) HRO.out (by decide) (fun _ _ h => h.1) HB2.out.to)
            have hq4 : p.x.row.length ≤ maxLen := by unfold maxLen; omega
            have hq5 : p.x.row.length * 32 ≤ 140737488355328 := by omega
            have hcl := flatMap_len (f := cellsV) (size := 3) (fun _ => rfl) p.x.row
            have HAB := Lib.hid (show ∀ b off, A = some ⟨b, off, none⟩ → 0 < p.x.row.length → b < w.heap.size from fun b9 off9 e h0 => by
              obtain ⟨b2, off2, cs, hA2, hb2, _⟩ := HRO.out.2.2 0 h0
              rw [hA2] at e
              injection e with e
              injection e with e1
              omega)
            have x7 := HR2.out.cell (j := 7) rfl
            go_wp2_with (at_builtin; refine wpList_append_new _ rfl (.tmp 56) (.tmp 59) 34 rfl 37 i1 _ 3 32 Tryz.underlying34 JI.out JZ0.out JZ1.out JZ2.out rfl (by decide) rfl A p.x.row.length cap (p.x.row.flatMap cellsV) rfl hcl HNN.out HNC.out (oneC_cells oneC_val _) hq4 hq5 ?_)
            intro A4 c4 V3 own1 a3
            have HO1 := Lib.hid (show V3.ownsRow V2.heap.size 37 3 (Hd.mk A4 p.x.row.length c4).v p.x.row.length (p.x.row.flatMap cellsV) from own1)
            have HB3 := Lib.hid (HB2.out.add a3)
            have HR3 := Lib.hid (HR2.out.aft a3)
            have CD := Lib.hid (both_do HB3.out p.x A cap (vals_aft HB3.out.to HRO.out) HAB.out HS1.out HS2.out)
            have y3 := HR3.out.cell (j := 3) rfl
            have y4 := HR3.out.cell (j := 4) rfl
            have y5 := HR3.out.cell (j := 5) rfl
            have y6 := HR3.out.cell (j := 6) rfl
            have y7 := HR3.out.cell (j := 7) rfl
            have y8 := HR3.out.cell (j := 8) rfl
            have y9 := HR3.out.cell (j := 9) rfl
            have y10 := HR3.out.cell (j := 10) rfl
            have y11 := HR3.out.cell (j := 11) rfl
            have yz := HR3.out.1
            clear own1 a3 x0 x7 xz hcl hq4 hq5
            go_wp2_with fail
            refine CD.out.mono ?_
            rintro e V4 ⟨h, R9, hR, rfl, riR, ndR, hb4, hnF, kb4⟩
            have HB4 := Lib.hid hb4
            have HR4 := Lib.hid (kb4.row HR3.out (fun hn => hn.1 (.inl (.inr ⟨Nat.le_refl _, HRW.out.1⟩))))
            have HO4 := Lib.hid (own_kb HO1.out kb4 (fun g hg hn => hn.1 (.inr ⟨(HO1.out.lt g hg).1, (HO1.out.lt g hg).2⟩)))
            have HRES := Lib.hid (do_res p.x HB3.out.ok)
            obtain ⟨RES, hRES⟩ : ∃ RES, (doS S p.x).2.1 = RES := ⟨_, rfl⟩
            obtain ⟨cd, hcd⟩ : ∃ cd, (doS S p.x).2.2 = cd := ⟨_, rfl⟩
            have CD2 := Lib.hid (both_do2 HB4.out p.x A cap (vals_aft HB4.out.to HRO.out) HS1.out HS2.out)
            rw [hRES] at HRES hR CD2
            rw [hcd] at CD2
            rw [hRES, hcd]
            have HRV := Lib.hid hR
            have HRI := Lib.hid riR
            have HND := Lib.hid ndR
            have HNF := Lib.hid hnF
            clear y3 y4 y5 y6 y7 y8 y9 y10 y11 yz CD hR riR ndR hb4 hnF kb4 hRES hcd
            have y3 := HR4.out.cell (j := 3) rfl
            have y4 := HR4.out.cell (j := 4) rfl
            have y5 := HR4.out.cell (j := 5) rfl
            have y6 := HR4.out.cell (j := 6) rfl
            have y7 := HR4.out.cell (j := 7) rfl
            have y8 := HR4.out.cell (j := 8) rfl
            have y9 := HR4.out.cell (j := 9) rfl
            have y10 := HR4.out.cell (j := 10) rfl
            have y11 := HR4.out.cell (j := 11) rfl
            have yz := HR4.out.1
            go_wp2_with fail
            refine CD2.out.mono ?_
            rintro e V5 ⟨A2, c2, rfl, slR, hb5, kb5⟩
            have HB5 := Lib.hid hb5
            have HR5 := Lib.hid (kb5.row HR4.out (fun hn => hn.1 (.inl (.inl (.inr ⟨Nat.le_refl _, HRW.out.1⟩)))))
            have HO5 := Lib.hid (own_kb HO4.out kb5 (fun g hg hn => hn.1 (.inl (.inr ⟨(HO1.out.lt g hg).1, (HO1.out.lt g hg).2⟩))))
            have HRI5 := Lib.hid (HRI.out.kb kb5 (fun g hg hn => hn.1 (.inr hg)))
            have hRL : R9.length = RES.length := by rw [← HRV.out, List.length_map]
            have HRL := Lib.hid hRL
            have slL : SlAt V5 1 RowsR h.a h.c RES := by
              rw [← HRV.out]
              refine RowsIn.at HRI5.out (by have := HRES.out.1; omega) fun o ho => (HRES.out.2 o.vals ?_).1
              rw [← HRV.out]
              exact List.mem_map_of_mem ho
            have CM := Lib.hid (rows11_same RES h.a h.c A2 c2 V5 slL slR)
            clear y3 y4 y5 y6 y7 y8 y9 y10 y11 yz CD2 slR hb5 kb5 slL hRL
            go_wp2_with fail
            refine CM.out.mono ?_
            rintro e V6 ⟨rfl, a6⟩
            have HB6 := Lib.hid (HB5.out.aft a6)
            have HR6 := Lib.hid (HR5.out.aft a6)
            have HO6 := Lib.hid (own_aft HO5.out a6)
            have HRI6 := Lib.hid (HRI5.out.aft a6)
            rw [← HRL.out]
            clear a6 CM
            obtain ⟨LB, hLB⟩ : ∃ LB : Nat → Prop, LB = fun g => g ∈ R9.flatMap (·.h.blk) := ⟨_, rfl⟩
            have HLH := Lib.hid (show ∀ g ∈ h.blk, ¬ LB g from fun g hg hm => by rw [hLB] at hm; exact (List.nodup_append.1 HND.out).2.2 g hg g hm rfl)
            have HLO := Lib.hid (show ∀ x ∈ R9, ∀ g ∈ x.h.blk, LB g from fun x hx g hg => by rw [hLB]; exact List.mem_flatMap.2 ⟨x, hx, hg⟩)
            have HLR := Lib.hid (show ∀ g, LB g → g ∈ rowBlks h R9 from fun g hg => by rw [hLB] at hg; exact List.mem_append.2 (.inr hg))
            have h64 : R9.length ≤ 64 := by have := HRES.out.1; have := HRL.out; omega
            have HV8 := Lib.hid (show ∀ x ∈ R9, x.vals.length ≤ 8 from fun x hx => (HRES.out.2 x.vals (by rw [← HRV.out]; exact List.mem_map_of_mem hx)).2)
            clear hLB
            go_wp2_with fail
            go_loopw [13] (fun i wr => ∃ n : Nat, n ≤ R9.length ∧ i = .int .i64 n ∧ Ovr LB V6 wr) (fun i _ => R9.length - (intOf i).toNat)
            case atStart => exact ⟨0, Nat.zero_le _, rfl, Ovr.refl _⟩
            case round =>
              obtain ⟨n, hn, rfl, ha⟩ := hrel
              have HC := Lib.hid ha
              clear ha
              by_cases hltn : n < R9.length
              · have hom := List.getElem_mem hltn
                obtain ⟨ow, how⟩ : ∃ ow, R9[n] = ow := ⟨_, rfl⟩
                rw [how] at hom
                have hlv := HV8.out ow hom
                have KR := Lib.hid (show ∀ V, Ovr LB V6 V → ∃ g2, h.a = some ⟨g2, 0, none⟩ ∧ g2 < V.heap.size ∧ V.cell? ⟨g2, n, none⟩ = some (.slice ow.h.a ow.vals.length ow.h.c) from fun V a => by
                  have h8 := a.row HRI6.out HLH.out hltn
                  rw [how] at h8
                  exact h8)
                have KV := Lib.hid (show ∀ V, Ovr LB V6 V → ∀ m, m < ow.vals.length → ∃ g2, ow.h.a = some ⟨g2, 0, none⟩ ∧ LB g2 ∧ g2 < V.heap.size ∧ (∃ u, V.cell? ⟨g2, m * 3 + 1, none⟩ = some u) ∧ V.frozen? ⟨g2, m * 3 + 1, none⟩ = false from fun V a m hm => by
                  have h8 := a.val HRI6.out HLO.out hltn (n := m) (by rw [how]; exact hm)
                  rw [how] at h8
                  exact h8)
                obtain ⟨g1, hg1, _, _⟩ := KR.out wr HC.out
                rw [hg1]
                have HG1 := Lib.hid hg1
                clear how hom hg1
                go_wp2_with fail
                go_loopw [14] (fun i wr => ∃ m : Nat, m ≤ ow.vals.length ∧ i = .int .i64 m ∧ Ovr LB V6 wr) (fun i _ => ow.vals.length - (intOf i).toNat)
                case atStart => exact ⟨0, Nat.zero_le _, rfl, HC.out⟩
                case round =>
                  obtain ⟨m, hm, rfl, ha⟩ := hrel
                  have HC3 := Lib.hid ha
                  clear ha
                  obtain ⟨g2, hg2a, hg2, e2⟩ := KR.out wr HC3.out
                  rw [HG1.out] at hg2a
                  injection hg2a with hg2a
                  injection hg2a with hg2a
                  subst hg2a
                  by_cases hltm : m < ow.vals.length
                  · obtain ⟨g3, hg3a, hl3, hg3, ⟨u3, f3⟩, z3⟩ := KV.out wr HC3.out m hltm
                    rw [hg3a] at e2
                    have HC4 := Lib.hid (HC3.out.set hl3 (m * 3 + 1) (.int .i64 77) (by rw [f3]; rfl))
                    clear hg3a
                    go_wp2_with fail
                    go_roundw
                    case rel => exact ⟨m + 1, by omega, by go_num, HC4.out⟩
                    case measure => simp [intOf]; omega
                  · go_wp2_with fail
                    go_roundw
                    case rel => exact ⟨n + 1, by omega, by go_num, HC3.out⟩
                    case measure => simp [intOf]; omega
              · obtain ⟨V7, hV7⟩ : ∃ V7, V7 = wr := ⟨_, rfl⟩
                subst hV7
                have HB7 := Lib.hid (HB6.out.over (HC.out.kb.mono fun g _ hg => .inr (HLR.out g hg)))
                have HR7 := Lib.hid (HC.out.kb.row HR6.out (fun hn => HNF.out _ (HLR.out _ hn) (.inl (.inr ⟨Nat.le_refl _, HRW.out.1⟩))))
                have HO7 := Lib.hid (own_kb HO6.out HC.out.kb (fun g hg hn => HNF.out g (HLR.out g hn) (.inr ⟨(HO1.out.lt g hg).1, (HO1.out.lt g hg).2⟩)))
                have CS := Lib.hid (show Calls Tryz.prog 14 #[.slice A p.x.row.length cap, .slice A4 p.x.row.length c4] V7 (fun e w' => e = .returned (.bool true) ∧ Aft V7 w') from by
                  have h8 := rsame_any A cap p.x.row A4 c4 p.x.row V7 (vals_aft HB7.out.to HRO.out) (own_slf cellsV (h := ⟨A4, p.x.row.length, c4⟩) HO7.out (fun v hv => ⟨rfl, rfl, by obtain ⟨i, hi, rfl⟩ := List.getElem_of_mem hv; exact val_small HRO.out i hi⟩) HRO.out.2.1)
                  rw [eqVs_refl] at h8
                  exact h8)
                have y7 := HR7.out.cell (j := 7) rfl
                have yz := HR7.out.1
                go_wp2_with fail
                refine CS.out.mono ?_
                rintro e V8 ⟨rfl, a8⟩
                have HB8 := Lib.hid (HB7.out.aft a8)
                clear a8 CS y7 yz HB7 HR7 HO7 HB6 HR6 HO6
                obtain ⟨S2, hS2⟩ : ∃ S2, (doS S p.x).1 = S2 := ⟨_, rfl⟩
                rw [hS2] at HB8
                clear hS2
                have HDL := Lib.hid (show (dumpS S2).length = (S2).length by simp [dumpS])
                go_wp2_with fail
                refine (both_dump HB8.out).mono ?_
                rintro e Y ⟨hd, D, hD, rfl, aY, inD⟩
                rw [HDL.out]
                have HBY := Lib.hid (HB8.out.aft aY)
                have CS2 := Lib.hid (both_same HBY.out inD hD)
                have HDD := Lib.hid hD
                have HAY := Lib.hid aY
                have HIND := Lib.hid inD
                clear hD aY inD
                go_wp2_with fail
                refine CS2.out.mono ?_
                rintro e U ⟨rfl, aU⟩
                have CO := Lib.hid (both_over HB8.out (HIND.out.aft aU) (HAY.out.trans aU) HDD.out)
                clear aU CS2
                go_wp2_with fail
                refine CO.out.mono ?_
                rintro e T9 ⟨rfl, hbT, _⟩
                have HBT := Lib.hid (hbT.free (F2 := fun _ => False) fun g h => h.elim)
                clear hbT CO
                go_wp2_with fail
                go_roundw
                case rel => exact ⟨k + 1, S2, ss, by omega, by go_num, HBT.out⟩
                case measure => simp [intOf]; omega
      · have hDl : (dumpS S).length = S.length := by simp [dumpS]
        have HDL := Lib.hid hDl
        clear hDl
        go_wp2_with fail
        refine (awake12 V1).mono ?_
        rintro e Z ⟨rfl, aZ⟩
        have HBZ := Lib.hid (HB.out.aft aZ)
        clear aZ
        go_wp2_with fail
        refine (both_dump HBZ.out).mono ?_
        rintro e Y ⟨h, D, hD, rfl, aY, inD⟩
        rw [HDL.out]
        have HBY := Lib.hid (HBZ.out.aft aY)
        have CS := Lib.hid (both_same HBY.out inD hD)
        clear hD aY inD
        go_wp2_with fail
        refine CS.out.mono ?_
        rintro e U ⟨rfl, aU⟩
        go_wp2_with fail
        go_ret
        exact ⟨rfl, HBY.out.to.trans aU⟩
end Go.Proofs.YtiadkchlkdaceaaGreat

