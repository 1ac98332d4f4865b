/- Contracts of the program, part 27. -/
import Derived.Deep.RegionLaw
import Derived.Deep.RegionHeld3
import Derived.Deep.AppendLies
import Derived.WalkMore
import Derived.Deep.DeepMust
import Derived.OwnWalk
import Derived.Laws.AppendOwn
import Derived.ProofKit
import Derived.OpenShut
import Derived.Deep.Slices
import Derived.ChangeOld
import Derived.SizedLaws
import Derived.WalkKit
import Derived.WalkSpells
import Derived.WalkLawsBesides
import Derived.Lib.Hide
import Derived.Deep.QuietTactic
import Derived.BigQuiet
import Derived.Below
import Derived.Deep.Draws
import Derived.StillTailTactics
import Derived.Laws.Cells
import Derived.Laws.IdiomCopy
import Derived.Test.YtlklmekapbojdaaGreatRows
import Derived.Lib.Walk
import Derived.Laws.EntriesVeiled
import Derived.Maps.Own
import Derived.Maps.Views
import Derived.Deep.Upon
import Derived.OneCell
import Derived.OrdersHeld
import Derived.IntWalk
import Derived.Lib.Bytealg
import Derived.Lib.SliceRun
import Derived.Lib.AppendZerosOnto
import Derived.Lib.Overlaps
import Derived.Shelf.SlSortCmp.WholeK
import Derived.Laws.StructEq
import Derived.WideKeyEntry
import Derived.DeepKeys3
import Derived.ChangeKeys
import Derived.Test.YtlklmekapbojdaaGreatPartL1
import Derived.Test.YtlklmekapbojdaaGreatPartL2
import Derived.Test.YtlklmekapbojdaaGreatPartL3
import Derived.Test.YtlklmekapbojdaaGreatPartL4
import Derived.Test.YtlklmekapbojdaaGreatPartL5
import Derived.Test.YtlklmekapbojdaaGreatPartL6
import Derived.Test.YtlklmekapbojdaaGreatPartL7
import Derived.Test.YtlklmekapbojdaaGreatPartL8
import Derived.Test.YtlklmekapbojdaaGreatPartL9
import Derived.Test.YtlklmekapbojdaaGreatPartL10
import Derived.Test.YtlklmekapbojdaaGreatPartL12
import Derived.Test.YtlklmekapbojdaaGreatPartL13
import Derived.Test.YtlklmekapbojdaaGreatPartL14
import Derived.Test.YtlklmekapbojdaaGreatPartL15
import Derived.Test.YtlklmekapbojdaaGreatPartL16
import Derived.Test.YtlklmekapbojdaaGreatPartL17
import Derived.Test.YtlklmekapbojdaaGreatPartL20
import Derived.Test.YtlklmekapbojdaaGreatPartL21
import Derived.Test.YtlklmekapbojdaaGreatPartL22
import Derived.Test.YtlklmekapbojdaaGreatPartL23
namespace Go.Proofs.YtlklmekapbojdaaGreat
open Go.RowKit Go.Deep
set_option maxRecDepth 100000
set_option linter.unusedVariables false
theorem OutAt.new {w V : World} {B : Nat} {c : Cat} {hs ht hn hm hg : Hd} {L : List OTab} (ci : CatIn w B c hs ht hn hm hg L) (hV : V = w.alloc (.cells (CatL c hs ht hn hm hg).toArray 66)) : OutAt V B w.heap.size c hs ht hn hm hg L := by
  subst hV
  exact ⟨box_row2 (Aft.refl _), ci.aft ((Aft.refl _).alloc _), fun g hg => by have := (ci.lt hg).2; omega⟩
/-- .. with a row that is all new -/
theorem OutAt.new_row {V V' : World} {B q : Nat} {c : Cat} {hs ht hn hm hg h : Hd} {L : List OTab} {l : List Gra} (o : OutAt V B q c hs ht hn hm hg L) (hB : B ≤ V.heap.size) (a : Aft V V') (ho : V'.ownsRow V.heap.size 76 6 h.v l.length (l.flatMap graC)) :
    OutAt (V'.setCell ⟨q, 6, none⟩ (.slice h.a l.length h.c)) B q { c with grants := l } hs ht hn hm h L :=
  o.store (Kb.of_aft (P := fun _ => False) a) (fun h => h) (fun _ _ h => h) (own_down ho hB) (fun g hg => .inr (ho.lt g (Hd.mem_blk.1 hg)).1)
end Go.Proofs.YtlklmekapbojdaaGreat

namespace Go.Proofs.YtlklmekapbojdaaGreat
open Go.RowKit Go.Deep
set_option maxRecDepth 100000
set_option linter.unusedVariables false
theorem rno9 (x : Int) (w : World) : Calls Tryz.prog 90 #[.int .i64 x] w fun e w' => e = .returned (.tuple #[.agg #[.int .i64 0, .int .i64 0, .slice none 0 0, .slice none 0 0, .slice none 0 0, .slice none 0 0, .slice none 0 0], .int .i64 x]) ∧ Aft w w' := by
  have l1 : w.heap.size < w.heap.size + 1 := by omega
  go_enter Tryz.func90, Tryz.ntmps90
  go_wp2_with fail
  have r0 : RowAt (w.alloc (.cells #[.int .i64 0, .int .i64 0, .slice none 0 0, .slice none 0 0, .slice none 0 0, .slice none 0 0, .slice none 0 0] 66)) w.heap.size [.int .i64 0, .int .i64 0, .slice none 0 0, .slice none 0 0, .slice none 0 0, .slice none 0 0, .slice none 0 0] := box_row2 (Aft.refl _)
  refine bodyPost_ret (results_cell_tmp (v := .agg #[.int .i64 0, .int .i64 0, .slice none 0 0, .slice none 0 0, .slice none 0 0, .slice none 0 0, .slice none 0 0]) rfl _ rfl (lvCat_row r0)) rfl ?_
  exact ⟨rfl, (Aft.refl w).alloc _⟩
end Go.Proofs.YtlklmekapbojdaaGreat

namespace Go.Proofs.YtlklmekapbojdaaGreat
open Go.RowKit Go.Deep
set_option maxRecDepth 100000
set_option linter.unusedVariables false
/-- a row of our own, whatever it holds -/
def OvR (wr : World) (B : Nat) (e : TypeId) (size : Nat) (h : Hd) (n : Nat) : Prop := ∃ xs, wr.ownsRow B e size h.v n xs
theorem OvR.cell {wr : World} {B size n k j : Nat} {e : TypeId} {h : Hd} (o : OvR wr B e size h n) (hk : k < n) (hj : j < size) : ∃ g, h.a = some ⟨g, 0, none⟩ ∧ g ∈ h.blk ∧ g < wr.heap.size ∧ (∃ u, wr.cell? ⟨g, k * size + j, none⟩ = some u) ∧ wr.frozen? ⟨g, k * size + j, none⟩ = false ∧ ∀ v, OvR (wr.setCell ⟨g, k * size + j, none⟩ v) B e size h n := by
  obtain ⟨xs, ho⟩ := o
  obtain ⟨g, cap, hv, hB, hnc, hr⟩ := own_rowAt ho (by omega)
  have hs := own_slice ho
  rw [hv] at hs
  simp only [Value.slice.injEq, true_and] at hs
  have hg : h.v.ownBlock = some g := by rw [hv]; rfl
  have hl : k * size + j < xs.length := by
    have h1 : (k + 1) * size ≤ n * size := Nat.mul_le_mul_right _ hk
    have h2 : (k + 1) * size = k * size + size := Nat.succ_mul k size
    have h3 := ho.1
    omega
  exact ⟨g, hs.1.symm, Hd.mem_blk.2 hg, hr.1, ⟨_, by rw [hr.2.1 _ hl, List.getElem?_eq_getElem hl]⟩, hr.2.2 _ hl, fun v => ⟨_, own_set ho hg _ v⟩⟩
theorem OvR.set {wr : World} {B size n g j : Nat} {e : TypeId} {h : Hd} {v : Value} (o : OvR wr B e size h n) (hg : g ∉ h.blk) : OvR (wr.setCell ⟨g, j, none⟩ v) B e size h n := by
  obtain ⟨xs, ho⟩ := o
  exact ⟨xs, own_kb ho (Kb.set wr g j v) (fun i hi e => hg (by have e : i = g := e; rw [← e]; exact Hd.mem_blk.2 hi))⟩
def P3 (hg hn ht : Hd) (g : Nat) : Prop := g ∈ hg.blk ∨ (g ∈ hn.blk ∨ g ∈ ht.blk)
/-- grants, names and tables of our own that are written over -/
structure OvC (W wr : World) (B : Nat) (hg hn ht : Hd) (ng nn nt : Nat) : Prop where
  kb : Kb (P3 hg hn ht) W wr
  og : OvR wr B 76 6 hg ng
  on : OvR wr B 9 1 hn nn
  ot : OvR wr B 89 5 ht nt
  d1 : ∀ g ∈ hg.blk, g ∉ hn.blk ∧ g ∉ ht.blk
  d2 : ∀ g ∈ hn.blk, g ∉ ht.blk
theorem OvC.gra {W wr : World} {B ng nn nt k : Nat} {hg hn ht : Hd} (o : OvC W wr B hg hn ht ng nn nt) (hk : k < ng) : ∃ g, hg.a = some ⟨g, 0, none⟩ ∧ g < wr.heap.size ∧ (∃ u, wr.cell? ⟨g, k * 6 + 3, none⟩ = some u) ∧ wr.frozen? ⟨g, k * 6 + 3, none⟩ = false ∧ ∀ v, OvC W (wr.setCell ⟨g, k * 6 + 3, none⟩ v) B hg hn ht ng nn nt := by
  obtain ⟨g, h1, h2, h3, h4, h5, h6⟩ := o.og.cell hk (j := 3) (by decide)
  exact ⟨g, h1, h3, h4, h5, fun v => ⟨o.kb.trans ((Kb.set wr g _ v).mono fun i _ e => by have e : i = g := e; rw [e]; exact .inl h2), h6 v, o.on.set (o.d1 g h2).1, o.ot.set (o.d1 g h2).2, o.d1, o.d2⟩⟩
theorem OvC.nam {W wr : World} {B ng nn nt k : Nat} {hg hn ht : Hd} (o : OvC W wr B hg hn ht ng nn nt) (hk : k < nn) : ∃ g, hn.a = some ⟨g, 0, none⟩ ∧ g < wr.heap.size ∧ (∃ u, wr.cell? ⟨g, k, none⟩ = some u) ∧ wr.frozen? ⟨g, k, none⟩ = false ∧ ∀ v, OvC W (wr.setCell ⟨g, k, none⟩ v) B hg hn ht ng nn nt := by
  obtain ⟨g, h1, h2, h3, h4, h5, h6⟩ := o.on.cell hk (j := 0) (by decide)
  rw [Nat.mul_one, Nat.add_zero] at h4 h5
  refine ⟨g, h1, h3, h4, h5, fun v => ⟨o.kb.trans ((Kb.set wr g _ v).mono fun i _ e => by have e : i = g := e; rw [e]; exact .inr (.inl h2)), o.og.set (fun h => (o.d1 g h).1 h2), ?_, o.ot.set (o.d2 g h2), o.d1, o.d2⟩⟩
  have := h6 v
  rw [Nat.mul_one, Nat.add_zero] at this
  exact this
theorem OvC.tab {W wr : World} {B ng nn nt k : Nat} {hg hn ht : Hd} (o : OvC W wr B hg hn ht ng nn nt) (hk : k < nt) : ∃ g, ht.a = some ⟨g, 0, none⟩ ∧ g < wr.heap.size ∧ (∃ u, wr.cell? ⟨g, k * 5 + 2, none⟩ = some u) ∧ wr.frozen? ⟨g, k * 5 + 2, none⟩ = false ∧ ∀ v, OvC W (wr.setCell ⟨g, k * 5 + 2, none⟩ v) B hg hn ht ng nn nt := by
  obtain ⟨g, h1, h2, h3, h4, h5, h6⟩ := o.ot.cell hk (j := 2) (by decide)
  exact ⟨g, h1, h3, h4, h5, fun v => ⟨o.kb.trans ((Kb.set wr g _ v).mono fun i _ e => by have e : i = g := e; rw [e]; exact .inr (.inr h2)), o.og.set (fun h => (o.d1 g h).2 h2), o.on.set (fun h => o.d2 g h h2), h6 v, o.d1, o.d2⟩⟩
theorem CatIn.ov {w : World} {B : Nat} {c : Cat} {hs ht hn hm hg : Hd} {L : List OTab} (h : CatIn w B c hs ht hn hm hg L) : OvC w w B hg hn ht c.grants.length c.rols.names.length c.objs.tables.length := by
  have hl : L.length = c.objs.tables.length := by rw [← h.tbs]; simp
  exact ⟨Kb.refl _ _, ⟨_, h.gra⟩, ⟨_, h.rol.nam⟩, ⟨_, hl ▸ h.obj.tab⟩, fun g hg => ⟨fun h2 => h.dis2 g (.inl h2) hg, fun h2 => (h.dis g (by simp [h2])).2 hg⟩, fun g hg h2 => (h.dis g (by simp [h2])).1 (.inl hg)⟩
set_option maxHeartbeats 16000000 in
theorem told9 (g c : Cat) (Gs : Option Addr) (Gcs : Nat) (Gt : Option Addr) (Gct : Nat) (Gn : Option Addr) (Gcn : Nat) (Gm : Option Addr) (Gcm : Nat) (Gg : Option Addr) (Gcg : Nat) (nGs nGt nGn nGm nGg : Nat) (L : List OTab) (Qs : Option Addr) (Qcs : Nat) (Qt : Option Addr) (Qct : Nat) (Qn : Option Addr) (Qcn : Nat) (Qm : Option Addr) (Qcm : Nat) (Qg : Option Addr) (Qcg : Nat) (As : Option Addr) (Acs : Nat) (At : Option Addr) (Act : Nat) (An : Option Addr) (Acn : Nat) (Am : Option Addr) (Acm : Nat) (Ag : Option Addr) (Acg : Nat) (Os : Option Addr) (Ocs : Nat) (Ot : Option Addr) (Oct : Nat) (On : Option Addr) (Ocn : Nat) (Om : Option Addr) (Ocm : Nat) (Og : Option Addr) (Ocg : Nat) (B : Nat) (x : Int) (Z w : World)
    (ci : CatIn w B g ⟨Gs, nGs, Gcs⟩ ⟨Gt, nGt, Gct⟩ ⟨Gn, nGn, Gcn⟩ ⟨Gm, nGm, Gcm⟩ ⟨Gg, nGg, Gcg⟩ L) (sm : SmC g) (hq : CatAt w g Qs Qcs Qt Qct Qn Qcn Qm Qcm Qg Qcg) (aZ : Aft Z w) (hZB : Z.heap.size ≤ B) (ha : CatAt Z c As Acs At Act An Acn Am Acm Ag Acg) (ho : CatAt Z c Os Ocs Ot Oct On Ocn Om Ocm Og Ocg) :
    Calls Tryz.prog 38 #[.agg #[.int .i64 g.epoch, .int .i64 g.version, .slice Gs g.objs.schemas.length Gcs, .slice Gt g.objs.tables.length Gct, .slice Gn g.rols.names.length Gcn, .slice Gm g.rols.members.length Gcm, .slice Gg g.grants.length Gcg], .int .i64 x, .agg #[.int .i64 g.epoch, .int .i64 g.version, .slice Qs g.objs.schemas.length Qcs, .slice Qt g.objs.tables.length Qct, .slice Qn g.rols.names.length Qcn, .slice Qm g.rols.members.length Qcm, .slice Qg g.grants.length Qcg], .int .i64 x, .agg #[.int .i64 c.epoch, .int .i64 c.version, .slice As c.objs.schemas.length Acs, .slice At c.objs.tables.length Act, .slice An c.rols.names.length Acn, .slice Am c.rols.members.length Acm, .slice Ag c.grants.length Acg], .agg #[.int .i64 c.epoch, .int .i64 c.version, .slice Os c.objs.schemas.length Ocs, .slice Ot c.objs.tables.length Oct, .slice On c.rols.names.length Ocn, .slice Om c.rols.members.length Ocm, .slice Og c.grants.length Ocg]] w
      fun e w' => e = .returned (.bool true) ∧ Kb (P3 ⟨Gg, nGg, Gcg⟩ ⟨Gn, nGn, Gcn⟩ ⟨Gt, nGt, Gct⟩) w w' := by
  have l0 : w.heap.size < w.heap.size + 1 := by omega
  have l1 : w.heap.size < w.heap.size + 1 + 1 := by omega
  have l2 : w.heap.size < w.heap.size + 1 + 1 + 1 := by omega
  have l3 : w.heap.size < w.heap.size + 1 + 1 + 1 + 1 := by omega
  have l4 : w.heap.size + 1 < w.heap.size + 1 + 1 := by omega
  have l5 : w.heap.size + 1 < w.heap.size + 1 + 1 + 1 := by omega
  have l6 : w.heap.size + 1 < w.heap.size + 1 + 1 + 1 + 1 := by omega
  have l7 : w.heap.size + 1 + 1 < w.heap.size + 1 + 1 + 1 := by omega
  have l8 : w.heap.size + 1 + 1 < w.heap.size + 1 + 1 + 1 + 1 := by omega
  have hq1 := hq.gra.len
  have hq2 := hq.nam.len
  have hq3 := hq.tab.len
  obtain ⟨W, hW⟩ : ∃ W, W = (((w.alloc (.cells #[.int .i64 g.epoch, .int .i64 g.version, .slice Gs g.objs.schemas.length Gcs, .slice Gt g.objs.tables.length Gct, .slice Gn g.rols.names.length Gcn, .slice Gm g.rols.members.length Gcm, .slice Gg g.grants.length Gcg] 66)).alloc (.cells #[.int .i64 g.epoch, .int .i64 g.version, .slice Qs g.objs.schemas.length Qcs, .slice Qt g.objs.tables.length Qct, .slice Qn g.rols.names.length Qcn, .slice Qm g.rols.members.length Qcm, .slice Qg g.grants.length Qcg] 66)).alloc (.cells #[.int .i64 c.epoch, .int .i64 c.version, .slice As c.objs.schemas.length Acs, .slice At c.objs.tables.length Act, .slice An c.rols.names.length Acn, .slice Am c.rols.members.length Acm, .slice Ag c.grants.length Acg] 66)).alloc (.cells #[.int .i64 c.epoch, .int .i64 c.version, .slice Os c.objs.schemas.length Ocs, .slice Ot c.objs.tables.length Oct, .slice On c.rols.names.length Ocn, .slice Om c.rols.members.length Ocm, .slice Og c.grants.length Ocg] 66) := ⟨_, rfl⟩
  have aW : Aft w W := by rw [hW]; exact ((((Aft.refl w).alloc _).alloc _).alloc _).alloc _
  have r0 : RowAt W (w.heap.size) [.int .i64 g.epoch, .int .i64 g.version, .slice Gs g.objs.schemas.length Gcs, .slice Gt g.objs.tables.length Gct, .slice Gn g.rols.names.length Gcn, .slice Gm g.rols.members.length Gcm, .slice Gg g.grants.length Gcg] := by rw [hW]; exact RowAt.up (RowAt.up (RowAt.up (box_at (Aft.refl _) (by simp))))
  have r1 : RowAt W (w.heap.size + 1) [.int .i64 g.epoch, .int .i64 g.version, .slice Qs g.objs.schemas.length Qcs, .slice Qt g.objs.tables.length Qct, .slice Qn g.rols.names.length Qcn, .slice Qm g.rols.members.length Qcm, .slice Qg g.grants.length Qcg] := by rw [hW]; exact RowAt.up (RowAt.up (box_at (Aft.refl _) (by simp)))
  have r2 : RowAt W (w.heap.size + 1 + 1) [.int .i64 c.epoch, .int .i64 c.version, .slice As c.objs.schemas.length Acs, .slice At c.objs.tables.length Act, .slice An c.rols.names.length Acn, .slice Am c.rols.members.length Acm, .slice Ag c.grants.length Acg] := by rw [hW]; exact RowAt.up (box_at (Aft.refl _) (by simp))
  have r3 : RowAt W (w.heap.size + 1 + 1 + 1) [.int .i64 c.epoch, .int .i64 c.version, .slice Os c.objs.schemas.length Ocs, .slice Ot c.objs.tables.length Oct, .slice On c.rols.names.length Ocn, .slice Om c.rols.members.length Ocm, .slice Og c.grants.length Ocg] := by rw [hW]; exact box_at (Aft.refl _) (by simp)
  have hlt : ∀ k, P3 ⟨Gg, nGg, Gcg⟩ ⟨Gn, nGn, Gcn⟩ ⟨Gt, nGt, Gct⟩ k → B ≤ k ∧ k < w.heap.size := fun k hk => by
    rcases hk with h | h | h
    · exact ci.lt (.inr h)
    · exact ci.lt (.inl (.inr (.inl h)))
    · exact ci.lt (.inl (.inl (by simp [h])))
  have C1 := Lib.hid (show Calls Tryz.prog 31 #[.agg #[.int .i64 g.epoch, .int .i64 g.version, .slice Gs g.objs.schemas.length Gcs, .slice Gt g.objs.tables.length Gct, .slice Gn g.rols.names.length Gcn, .slice Gm g.rols.members.length Gcm, .slice Gg g.grants.length Gcg], .agg #[.int .i64 g.epoch, .int .i64 g.version, .slice Qs g.objs.schemas.length Qcs, .slice Qt g.objs.tables.length Qct, .slice Qn g.rols.names.length Qcn, .slice Qm g.rols.members.length Qcm, .slice Qg g.grants.length Qcg]] W fun e w' => e = .returned (.bool true) ∧ Aft W w' from same9 g Gs Gcs Gt Gct Gn Gcn Gm Gcm Gg Gcg Qs Qcs Qt Qct Qn Qcn Qm Qcm Qg Qcg W ((ci.at sm).aft aW) (hq.aft aW))
  have C2 := Lib.hid (show ∀ w', Kb (P3 ⟨Gg, nGg, Gcg⟩ ⟨Gn, nGn, Gcn⟩ ⟨Gt, nGt, Gct⟩) w w' → Calls Tryz.prog 31 #[.agg #[.int .i64 c.epoch, .int .i64 c.version, .slice As c.objs.schemas.length Acs, .slice At c.objs.tables.length Act, .slice An c.rols.names.length Acn, .slice Am c.rols.members.length Acm, .slice Ag c.grants.length Acg], .agg #[.int .i64 c.epoch, .int .i64 c.version, .slice Os c.objs.schemas.length Ocs, .slice Ot c.objs.tables.length Oct, .slice On c.rols.names.length Ocn, .slice Om c.rols.members.length Ocm, .slice Og c.grants.length Ocg]] w' fun e w'' => e = .returned (.bool true) ∧ Aft w' w'' from fun w' k => by
    have a := k.to_aft aZ (fun j hj hp => by have := (hlt j hp).1; omega)
    exact same9 c As Acs At Act An Acn Am Acm Ag Acg Os Ocs Ot Oct On Ocn Om Ocm Og Ocg w' (ha.aft a) (ho.aft a))
  have HOV := Lib.hid (ci.aft aW).ov
  have HAW := Lib.hid aW
  have KG := Lib.hid (show ∀ w', Kb (P3 ⟨Gg, nGg, Gcg⟩ ⟨Gn, nGn, Gcn⟩ ⟨Gt, nGt, Gct⟩) W w' → RowAt w' w.heap.size [.int .i64 g.epoch, .int .i64 g.version, .slice Gs g.objs.schemas.length Gcs, .slice Gt g.objs.tables.length Gct, .slice Gn g.rols.names.length Gcn, .slice Gm g.rols.members.length Gcm, .slice Gg g.grants.length Gcg] from fun w' k => k.row r0 (fun hp => by have := (hlt _ hp).2; omega))
  have KF := Lib.hid (show ∀ w', Kb (P3 ⟨Gg, nGg, Gcg⟩ ⟨Gn, nGn, Gcn⟩ ⟨Gt, nGt, Gct⟩) W w' → RowAt w' (w.heap.size + 1 + 1) [.int .i64 c.epoch, .int .i64 c.version, .slice As c.objs.schemas.length Acs, .slice At c.objs.tables.length Act, .slice An c.rols.names.length Acn, .slice Am c.rols.members.length Acm, .slice Ag c.grants.length Acg] ∧ RowAt w' (w.heap.size + 1 + 1 + 1) [.int .i64 c.epoch, .int .i64 c.version, .slice Os c.objs.schemas.length Ocs, .slice Ot c.objs.tables.length Oct, .slice On c.rols.names.length Ocn, .slice Om c.rols.members.length Ocm, .slice Og c.grants.length Ocg] from fun w' k => ⟨k.row r2 (fun hp => by have := (hlt _ hp).2; omega), k.row r3 (fun hp => by have := (hlt _ hp).2; omega)⟩)
  have x0 := r0.cell (j := 0) rfl
  have x1 := r0.cell (j := 1) rfl
  have x2 := r0.cell (j := 2) rfl
  have x3 := r0.cell (j := 3) rfl
  have x4 := r0.cell (j := 4) rfl
  have x5 := r0.cell (j := 5) rfl
  have x6 := r0.cell (j := 6) rfl
  have y0 := r1.cell (j := 0) rfl
  have y1 := r1.cell (j := 1) rfl
  have y2 := r1.cell (j := 2) rfl
  have y3 := r1.cell (j := 3) rfl
  have y4 := r1.cell (j := 4) rfl
  have y5 := r1.cell (j := 5) rfl
  have y6 := r1.cell (j := 6) rfl
  have xz := r0.1
  have yz := r1.1
  clear ci hq aZ ha ho aW r0 r1 r2 r3 hlt
  go_enter Tryz.func38, Tryz.ntmps38
  go_wp2_with fail
  rw [← hW]
  clear hW
  refine C1.out.mono ?_
  rintro e w1 ⟨rfl, a1⟩
  have HO := Lib.hid (show OvC W w1 B ⟨Gg, nGg, Gcg⟩ ⟨Gn, nGn, Gcn⟩ ⟨Gt, nGt, Gct⟩ g.grants.length g.rols.names.length g.objs.tables.length from ⟨HOV.out.kb.trans (Kb.of_aft a1), by obtain ⟨xs, h⟩ := HOV.out.og; exact ⟨xs, own_aft h a1⟩, by obtain ⟨xs, h⟩ := HOV.out.on; exact ⟨xs, own_aft h a1⟩, by obtain ⟨xs, h⟩ := HOV.out.ot; exact ⟨xs, own_aft h a1⟩, HOV.out.d1, HOV.out.d2⟩)
  clear a1 C1 x0 x1 x2 x3 x4 x5 x6 xz y0 y1 y2 y3 y4 y5 y6 yz l0 l1 l2 l3 l4 l5 l6 l7 l8
  go_wp2_with fail
  go_loopw [14] (fun i wr => ∃ k : Nat, k ≤ g.grants.length ∧ i = .int .i64 k ∧ OvC W wr B ⟨Gg, nGg, Gcg⟩ ⟨Gn, nGn, Gcn⟩ ⟨Gt, nGt, Gct⟩ g.grants.length g.rols.names.length g.objs.tables.length) (fun i _ => g.grants.length - (intOf i).toNat)
  case atStart => exact ⟨0, Nat.zero_le _, rfl, HO.out⟩
  case round =>
    obtain ⟨k0, hk0, rfl, hs⟩ := hrel
    have gr := KG.out wr hs.kb
    have x6 := gr.cell (j := 6) rfl
    have xz := gr.1
    clear gr
    by_cases hlt0 : k0 < g.grants.length
    case pos =>
      obtain ⟨gg, hga, hg2, ⟨u, hu⟩, hfz, hnx⟩ := hs.gra hlt0
      have hga : Gg = some ⟨gg, 0, none⟩ := hga
      have HNX := Lib.hid (hnx (.string ⟨#[111, 118, 101, 114]⟩))
      rw [hga] at x6
      clear hnx hs hga
      go_wp2_with fail
      go_roundw
      case rel => exact ⟨k0 + 1, by omega, by go_num, HNX.out⟩
      case measure => simp [intOf]; omega
    have HN0 := Lib.hid hs
    clear hs
    go_wp2_with fail
    go_loopw [15] (fun i wr => ∃ k : Nat, k ≤ g.rols.names.length ∧ i = .int .i64 k ∧ OvC W wr B ⟨Gg, nGg, Gcg⟩ ⟨Gn, nGn, Gcn⟩ ⟨Gt, nGt, Gct⟩ g.grants.length g.rols.names.length g.objs.tables.length) (fun i _ => g.rols.names.length - (intOf i).toNat)
    case atStart => exact ⟨0, Nat.zero_le _, rfl, HN0.out⟩
    case round =>
      clear x6 xz
      obtain ⟨k1, hk1, rfl, hs⟩ := hrel
      have gr := KG.out wr hs.kb
      have x4 := gr.cell (j := 4) rfl
      have xz := gr.1
      clear gr
      by_cases hlt1 : k1 < g.rols.names.length
      case pos =>
        obtain ⟨gg, hga, hg2, ⟨u, hu⟩, hfz, hnx⟩ := hs.nam hlt1
        have hga : Gn = some ⟨gg, 0, none⟩ := hga
        have HNX := Lib.hid (hnx (.string ⟨#[111, 118, 101, 114]⟩))
        rw [hga] at x4
        clear hnx hs hga
        go_wp2_with fail
        go_roundw
        case rel => exact ⟨k1 + 1, by omega, by go_num, HNX.out⟩
        case measure => simp [intOf]; omega
      have HN1 := Lib.hid hs
      clear hs
      go_wp2_with fail
      go_loopw [16] (fun i wr => ∃ k : Nat, k ≤ g.objs.tables.length ∧ i = .int .i64 k ∧ OvC W wr B ⟨Gg, nGg, Gcg⟩ ⟨Gn, nGn, Gcn⟩ ⟨Gt, nGt, Gct⟩ g.grants.length g.rols.names.length g.objs.tables.length) (fun i _ => g.objs.tables.length - (intOf i).toNat)
      case atStart => exact ⟨0, Nat.zero_le _, rfl, HN1.out⟩
      case round =>
        clear x4 xz
        obtain ⟨k2, hk2, rfl, hs⟩ := hrel
        have gr := KG.out wr hs.kb
        have x3 := gr.cell (j := 3) rfl
        have xz := gr.1
        clear gr
        by_cases hlt2 : k2 < g.objs.tables.length
        case pos =>
          obtain ⟨gg, hga, hg2, ⟨u, hu⟩, hfz, hnx⟩ := hs.tab hlt2
          have hga : Gt = some ⟨gg, 0, none⟩ := hga
          have HNX := Lib.hid (hnx (.string ⟨#[111, 118, 101, 114]⟩))
          rw [hga] at x3
          clear hnx hs hga
          go_wp2_with fail
          go_roundw
          case rel => exact ⟨k2 + 1, by omega, by go_num, HNX.out⟩
          case measure => simp [intOf]; omega
        have HN2 := Lib.hid hs
        clear hs
        obtain ⟨f2, f3⟩ := KF.out wr HN2.out.kb
        have u0 := f2.cell (j := 0) rfl
        have u1 := f2.cell (j := 1) rfl
        have u2 := f2.cell (j := 2) rfl
        have u3 := f2.cell (j := 3) rfl
        have u4 := f2.cell (j := 4) rfl
        have u5 := f2.cell (j := 5) rfl
        have u6 := f2.cell (j := 6) rfl
        have v0 := f3.cell (j := 0) rfl
        have v1 := f3.cell (j := 1) rfl
        have v2 := f3.cell (j := 2) rfl
        have v3 := f3.cell (j := 3) rfl
        have v4 := f3.cell (j := 4) rfl
        have v5 := f3.cell (j := 5) rfl
        have v6 := f3.cell (j := 6) rfl
        have uz := f2.1
        have vz := f3.1
        have kk := (Kb.of_aft HAW.out).trans HN2.out.kb
        have C := Lib.hid (C2.out wr kk)
        have HK := Lib.hid kk
        clear kk C2 f2 f3
        go_wp2_with fail
        refine C.out.mono ?_
        rintro e w5 ⟨rfl, a5⟩
        have HP := Lib.hid (HK.out.trans (Kb.of_aft a5))
        clear a5
        go_wp2_with fail
        go_ret
        exact ⟨rfl, HP.out⟩
end Go.Proofs.YtlklmekapbojdaaGreat

