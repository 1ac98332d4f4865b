/- The document's Own of roles: the same in memory of its own. -/
import Derived.Test.YtcdhljcpoopfaaaRol8
namespace Go.Proofs.Ytcdhljcpoopfaaa
open Go.RowKit Go.Deep
set_option maxRecDepth 100000
set_option linter.unusedVariables false
def OwnP8 (r : Rls) (w : World) (e : Ending) (w' : World) : Prop := ∃ hn hm : Hd, e = .returned (.agg #[hn.v, hm.v]) ∧ Aft w w' ∧ RolIn w' w.heap.size hn hm r
theorem oneC_mbr (m : Mbr) : ∀ u ∈ mbrC m, u.oneCell' = true := by intro u hu; simp only [mbrC, List.mem_cons, List.not_mem_nil, or_false] at hu; rcases hu with rfl | rfl <;> simp [Value.oneCell']
theorem nameC_len8 (l : List ByteArray) : (l.flatMap nameC).length = l.length * 1 := flatMap_len (size := 1) (fun _ => rfl) l
theorem mbrC_len8 (l : List Mbr) : (l.flatMap mbrC).length = l.length * 2 := flatMap_len (size := 2) (fun _ => rfl) l
theorem setR_row {w : World} {b : Nat} {xs : List Value} (h : RowAt w b xs) (hl : xs.length = 2) (v0 v1 : Value) : RowAt ((w.setCell ⟨b, 0, none⟩ v0).setCell ⟨b, 1, none⟩ v1) b [v0, v1] := by
  match xs, hl with
  | [x0, x1], _ =>
    have h1 := h.set 0 v0 (by simp)
    have h2 := h1.set 1 v1 (by simp)
    simpa using h2
set_option maxHeartbeats 8000000 in
theorem own8 (r : Rls) (An : Option Addr) (capn : Nat) (Am : Option Addr) (capm : Nat) (w : World) (hn : SlAt w 1 StrR An capn r.names) (hm : SlAt w 2 MbrR Am capm r.members) (hln : r.names.length ≤ 1000) (hlm : r.members.length ≤ 1000) :
    Calls Try.prog 15 #[.agg #[.slice An r.names.length capn, .slice Am r.members.length capm]] w (OwnP8 r w) := by
  obtain ⟨i1, hi, hz0, hz1, hz2⟩ := info_parts info2Str2
  have JI := Lib.hid hi
  have JZ := Lib.hid (And.intro hz0 (And.intro hz1 hz2))
  clear hi hz0 hz1 hz2
  obtain ⟨i2, hi, hz0, hz1, hz2⟩ := info_parts info2Mem
  have KI := Lib.hid hi
  have KZ := Lib.hid (And.intro hz0 (And.intro hz1 hz2))
  clear hi hz0 hz1 hz2
  have l1 : w.heap.size < w.heap.size + 1 := by omega
  have l2 : w.heap.size < w.heap.size + 1 + 1 := by omega
  have l3 : w.heap.size < w.heap.size + 1 + 1 + 1 := by omega
  obtain ⟨W, hW⟩ : ∃ W, W = ((w.alloc (.cells #[.slice An r.names.length capn, .slice Am r.members.length capm] 25)).alloc (.cells #[.slice none 0 0, .slice none 0 0] 25)).alloc (.cells #[.slice none 0 0, .slice none 0 0] 25) := ⟨_, rfl⟩
  have aW : Aft w W := by rw [hW]; exact (((Aft.refl w).alloc _).alloc _).alloc _
  have r1 : RowAt W w.heap.size [.slice An r.names.length capn, .slice Am r.members.length capm] := by rw [hW]; exact (rowAt_new8 w [.slice An r.names.length capn, .slice Am r.members.length capm] 25).aft (((Aft.refl _).alloc _).alloc _)
  have r2 : RowAt W (w.heap.size + 1) [.slice none 0 0, .slice none 0 0] := by
    rw [hW]
    have := (rowAt_new8 (w.alloc (.cells #[.slice An r.names.length capn, .slice Am r.members.length capm] 25)) [.slice none 0 0, .slice none 0 0] 25).aft ((Aft.refl _).alloc (.cells #[.slice none 0 0, .slice none 0 0] 25))
    simpa using this
  have r3 : RowAt W (w.heap.size + 1 + 1) [.slice none 0 0, .slice none 0 0] := by
    rw [hW]
    have := rowAt_new8 ((w.alloc (.cells #[.slice An r.names.length capn, .slice Am r.members.length capm] 25)).alloc (.cells #[.slice none 0 0, .slice none 0 0] 25)) [.slice none 0 0, .slice none 0 0] 25
    simpa using this
  have zW : W.heap.size = w.heap.size + 3 := by rw [hW]; simp
  have HC := Lib.hid (sl_cells hn (by decide) (fun _ _ h => h.1) aW)
  have HN := Lib.hid (sl_none hn)
  have HCM := Lib.hid (fun w' (a : Aft w w') => sl_cells hm (f := mbrC) (by decide) (fun _ _ h => h.1) a)
  have HNM := Lib.hid (sl_none hm)
  have HR := Lib.hid (And.intro r1 (And.intro r2 r3))
  have HAW := Lib.hid aW
  have HZW := Lib.hid zW
  have hq4 : r.names.length ≤ maxLen := by unfold maxLen; omega
  have hq5 : r.names.length * 16 ≤ 140737488355328 := by omega
  have hq6 : r.members.length ≤ maxLen := by unfold maxLen; omega
  have hq7 : r.members.length * 32 ≤ 140737488355328 := by omega
  have K1 := Lib.hid (show ∀ w1, Aft W w1 → (w1.cell? ⟨w.heap.size + 1 + 1, 0, none⟩ = some (.slice none 0 0) ∧ w1.cell? ⟨w.heap.size + 1 + 1, 1, none⟩ = some (.slice none 0 0) ∧ w1.frozen? ⟨w.heap.size + 1 + 1, 0, none⟩ = false ∧ w1.frozen? ⟨w.heap.size + 1 + 1, 1, none⟩ = false ∧ w1.cell? ⟨w.heap.size, 1, none⟩ = some (.slice Am r.members.length capm) ∧ w.heap.size + 1 + 1 < w1.heap.size ∧ w.heap.size < w1.heap.size) from fun w1 a => by
    have q3 := r3.aft a
    have q1 := r1.aft a
    exact ⟨q3.cell (j := 0) rfl, q3.cell (j := 1) rfl, q3.2.2 0 (by simp), q3.2.2 1 (by simp), q1.cell (j := 1) rfl, q3.1, q1.1⟩)
  have K2 := Lib.hid (show ∀ w1 w2 v, Aft W w1 → Aft (w1.setCell ⟨w.heap.size + 1 + 1, 0, none⟩ v) w2 → (w2.cell? ⟨w.heap.size + 1 + 1, 0, none⟩ = some v ∧ w2.cell? ⟨w.heap.size + 1 + 1, 1, none⟩ = some (.slice none 0 0) ∧ w2.frozen? ⟨w.heap.size + 1 + 1, 1, none⟩ = false ∧ w.heap.size + 1 + 1 < w2.heap.size ∧ w2.cell? ⟨w.heap.size + 1, 0, none⟩ = some (.slice none 0 0) ∧ w2.cell? ⟨w.heap.size + 1, 1, none⟩ = some (.slice none 0 0) ∧ w2.frozen? ⟨w.heap.size + 1, 0, none⟩ = false ∧ w2.frozen? ⟨w.heap.size + 1, 1, none⟩ = false ∧ w.heap.size + 1 < w2.heap.size) from fun w1 w2 v a b => by
    have q2 := ((Kb.set w1 (w.heap.size + 1 + 1) 0 v).row (r2.aft a) (by omega)).aft b
    have q3 := ((r3.aft a).set 0 v (by simp)).aft b
    exact ⟨q3.cell (j := 0) rfl, q3.cell (j := 1) rfl, q3.2.2 1 (by simp), q3.1, q2.cell (j := 0) rfl, q2.cell (j := 1) rfl, q2.2.2 0 (by simp), q2.2.2 1 (by simp), q2.1⟩)
  clear hn hm r1 r2 r3 aW zW
  go_enter Try.func15, Try.ntmps15
  go_wp2_with (first
    | (at_builtin; (refine wpList_append_new _ rfl _ _ 22 rfl 9 i1 _ 1 16 Try.underlying22 JI.out JZ.out.1 JZ.out.2.1 JZ.out.2.2 rfl (by decide) rfl An r.names.length capn (r.names.flatMap nameC) rfl (nameC_len8 _) HN.out ?qc (oneC_cells oneC_name _) hq4 hq5 ?_); rotate_left; intro Ac cc w1 own1 a1; have a1 : Aft W w1 := (by rw [hW]; exact a1); obtain ⟨p1, p2, p3, p4, p5, p6, p7⟩ := K1.out w1 a1; have HA1 := Lib.hid a1; have HO1 := Lib.hid own1; clear a1 own1)
    | (at_builtin; (refine wpList_append_new _ rfl _ _ 23 rfl 61 i2 _ 2 32 Try.underlying23 KI.out KZ.out.1 KZ.out.2.1 KZ.out.2.2 rfl (by decide) rfl Am r.members.length capm (r.members.flatMap mbrC) rfl (mbrC_len8 _) HNM.out ?qm (oneC_cells oneC_mbr _) hq6 hq7 ?_); rotate_left; intro Ad cd w2 own2 a2; obtain ⟨s1, s2, s3, s4, s5, s6, s7, s8, s9⟩ := K2.out w1 w2 _ HA1.out a2; have HA2 := Lib.hid a2; have HO2 := Lib.hid own2; clear a2 own2))
  case qc => rw [← hW]; exact HC.out
  case qm => exact HCM.out _ ((HAW.out.trans HA1.out).setCell _ _ (by show w.heap.size ≤ w.heap.size + 1 + 1; omega))
  have a1 := HA1.out
  have a2 := HA2.out
  have own1 : w1.ownsRow W.heap.size 9 1 (Hd.mk Ac r.names.length cc).v r.names.length (r.names.flatMap nameC) := by rw [hW]; exact HO1.out
  have own2 : w2.ownsRow w1.heap.size 61 2 (Hd.mk Ad r.members.length cd).v r.members.length (r.members.flatMap mbrC) := by
    have h := HO2.out
    rw [show (w1.setCell ⟨w.heap.size + 1 + 1, 0, none⟩ (.slice Ac r.names.length cc)).heap.size = w1.heap.size by simp] at h
    exact h
  have zW := HZW.out
  have q2 := ((Kb.set w1 (w.heap.size + 1 + 1) 0 (.slice Ac r.names.length cc)).row (HR.out.2.1.aft a1) (by omega)).aft a2
  have q2' := (Kb.set w2 (w.heap.size + 1 + 1) 1 (.slice Ad r.members.length cd)).row q2 (by omega)
  have sz1 := a1.size
  have k1 := Kb.set w1 (w.heap.size + 1 + 1) 0 (.slice Ac r.names.length cc)
  have k2 := Kb.set w2 (w.heap.size + 1 + 1) 1 (.slice Ad r.members.length cd)
  have k3 := Kb.set (w2.setCell ⟨w.heap.size + 1 + 1, 1, none⟩ (.slice Ad r.members.length cd)) (w.heap.size + 1) 0 (.slice Ac r.names.length cc)
  have k4 := Kb.set ((w2.setCell ⟨w.heap.size + 1 + 1, 1, none⟩ (.slice Ad r.members.length cd)).setCell ⟨w.heap.size + 1, 0, none⟩ (.slice Ac r.names.length cc)) (w.heap.size + 1) 1 (.slice Ad r.members.length cd)
  have g1 : ∀ g, (Hd.mk Ac r.names.length cc).v.ownBlock = some g → w.heap.size + 3 ≤ g ∧ g < w1.heap.size := fun g hg => by have := own1.lt g hg; omega
  have g2 : ∀ g, (Hd.mk Ad r.members.length cd).v.ownBlock = some g → w1.heap.size ≤ g := fun g hg => (own2.lt g hg).1
  refine bodyPost_ret (results_cell (v := .agg #[.slice Ac r.names.length cc, .slice Ad r.members.length cd]) rfl _ rfl (lvRol_row (setR_row q2' rfl _ _))) rfl ?_
  refine ⟨⟨Ac, r.names.length, cc⟩, ⟨Ad, r.members.length, cd⟩, rfl, ?_, ⟨?_, ?_, ?_⟩⟩
  · exact k4.to_aft (k3.to_aft (k2.to_aft ((k1.to_aft (HAW.out.trans a1) (fun g hg e => by omega)).trans a2) (fun g hg e => by omega)) (fun g hg e => by omega)) (fun g hg e => by omega)
  · refine own_down (B := W.heap.size) ?_ (by omega)
    refine own_kb (own_kb (own_kb (own_aft (own_kb own1 k1 ?_) a2) k2 ?_) k3 ?_) k4 ?_
    all_goals
      intro g hg e
      have := g1 g hg
      have e : g = _ := e
      omega
  · refine own_down (B := w1.heap.size) ?_ (by omega)
    refine own_kb (own_kb (own_kb own2 k2 ?_) k3 ?_) k4 ?_
    all_goals
      intro g hg e
      have := g2 g hg
      have e : g = _ := e
      omega
  · intro g hg hg'
    have := g1 g (Hd.mem_blk.1 hg)
    have := g2 g (Hd.mem_blk.1 hg')
    omega
end Go.Proofs.Ytcdhljcpoopfaaa
