/- Contracts of the program, part 28. -/
import Derived.Test.YticjnndhpfdajaaGreatPartG10
import Derived.Test.YticjnndhpfdajaaGreatPartG27
import Derived.Test.YticjnndhpfdajaaGreatPartG14
import Derived.Test.YticjnndhpfdajaaGreatPartG26
import Derived.Test.YticjnndhpfdajaaGreatPartG25
import Derived.Test.YticjnndhpfdajaaGreatPartG20
/- The document's Same of roles, and Texts: of two that hold the same they say yes; All and Is of the document. -/
namespace Go.Proofs.YticjnndhpfdajaaGreat
open Go.RowKit Go.Deep
set_option maxRecDepth 100000
set_option linter.unusedVariables false
@[go_sem ↓] theorem run_neqMem_self (w : World) (s t : ByteArray) :
    (binOp .neq 185 (.agg #[.string s, .string t]) (.agg #[.string s, .string t])).run Tryz.prog w = .ok (.bool false) w := by
  rw [run_neq_struct]; go_simp; try rfl
set_option maxHeartbeats 8000000 in
theorem same8 (r : Rls) (An : Option Addr) (capn : Nat) (Am : Option Addr) (capm : Nat) (Bn : Option Addr) (capbn : Nat) (Bm : Option Addr) (capbm : Nat) (w : World) (h1 : SlAt w 1 StrR An capn r.names) (h2 : SlAt w 2 MbrR Am capm r.members) (h3 : SlAt w 1 StrR Bn capbn r.names) (h4 : SlAt w 2 MbrR Bm capbm r.members) :
    Calls Tryz.prog 129 #[.agg #[.slice An r.names.length capn, .slice Am r.members.length capm], .agg #[.slice Bn r.names.length capbn, .slice Bm r.members.length capbm]] w
      fun e w' => e = .returned (.bool true) ∧ Aft w w' := by
  have hlen := h1.len
  have hlen2 := h2.len
  obtain ⟨W, hW⟩ : ∃ W, W = (w.alloc (.cells #[.slice An r.names.length capn, .slice Am r.members.length capm] 56)).alloc (.cells #[.slice Bn r.names.length capbn, .slice Bm r.members.length capbm] 56) := ⟨_, rfl⟩
  have aW : Aft w W := by rw [hW]; exact ((Aft.refl w).alloc _).alloc _
  have hbb := aft_box2 (w := w) (w1 := W) (by rw [← hW]; exact Aft.refl W)
  obtain ⟨ha0, hb0, hz, _⟩ := hbb
  have HAW := Lib.hid aW
  have l1 : w.heap.size < w.heap.size + 1 + 1 := by omega
  go_enter Tryz.func129, Tryz.ntmps129
  go_wp2_with fail
  rw [← hW]
  clear hW
  go_loopw [5] (fun i wr => ∃ k : Nat, k ≤ r.names.length ∧ i = .int .i64 k ∧ Aft W wr) (fun i _ => r.names.length - (intOf i).toNat)
  case atStart => exact ⟨0, Nat.zero_le _, rfl, Aft.refl _⟩
  case round =>
    obtain ⟨k, hk, rfl, ha⟩ := hrel
    have x3 := ha.cell_kept (show W.cell? ⟨w.heap.size, 0, none⟩ = some (.slice An r.names.length capn) from ha0 0)
    have y3 := ha.cell_kept (show W.cell? ⟨w.heap.size + 1, 0, none⟩ = some (.slice Bn r.names.length capbn) from hb0 0)
    have lx : w.heap.size < wr.heap.size := World.block_lt_of_cell? _ _ x3
    have ly : w.heap.size + 1 < wr.heap.size := World.block_lt_of_cell? _ _ y3
    have HAR := Lib.hid ha
    by_cases hlt : k < r.names.length
    · obtain ⟨b, off, rfl, hb, c0, _⟩ := str_at (strs_aft (HAW.out.trans ha) h1) hlt
      obtain ⟨b2, off2, rfl, hb2, d0, _⟩ := str_at (strs_aft (HAW.out.trans ha) h3) hlt
      clear ha
      go_wp2_with fail
      refine wp_region_lat (by kernel_rfl) (by kernel_rfl) ?_
      repeat (go_big_quiet_step (fail))
      refine wpQuiet_nil ?_
      intro _ hw'
      obtain ⟨x, hw''⟩ := hw'
      subst hw''
      go_wp2_with fail
      go_roundw
      case rel => exact ⟨k + 1, by omega, by go_num, HAR.out.lat x⟩
      case measure => simp [intOf]; omega
    go_wp2_with fail
    go_loopw [6] (fun i wrr => ∃ k : Nat, k ≤ r.members.length ∧ i = .int .i64 k ∧ Aft W wrr) (fun i _ => r.members.length - (intOf i).toNat)
    case atStart => exact ⟨0, Nat.zero_le _, rfl, ha⟩
    case round =>
      clear ha HAR x3 y3 lx ly
      obtain ⟨k2, hk2, rfl, ha⟩ := hrel
      have x4 := ha.cell_kept (show W.cell? ⟨w.heap.size, 1, none⟩ = some (.slice Am r.members.length capm) from ha0 1)
      have y4 := ha.cell_kept (show W.cell? ⟨w.heap.size + 1, 1, none⟩ = some (.slice Bm r.members.length capbm) from hb0 1)
      have lx : w.heap.size < wr.heap.size := World.block_lt_of_cell? _ _ x4
      have ly : w.heap.size + 1 < wr.heap.size := World.block_lt_of_cell? _ _ y4
      have HAR := Lib.hid ha
      by_cases hlt2 : k2 < r.members.length
      · obtain ⟨b, off, rfl, hb, c0, c1, _, _⟩ := mbr_at (mbrs_aft (HAW.out.trans ha) h2) hlt2
        obtain ⟨b2, off2, rfl, hb2, d0, d1, _, _⟩ := mbr_at (mbrs_aft (HAW.out.trans ha) h4) hlt2
        clear ha
        go_wp2_with fail
        refine wp_region_lat (by kernel_rfl) (by kernel_rfl) ?_
        repeat (go_big_quiet_step (fail))
        refine wpQuiet_nil ?_
        intro _ hw'
        obtain ⟨x, hw''⟩ := hw'
        subst hw''
        go_wp2_with fail
        go_roundw
        case rel => exact ⟨k2 + 1, by omega, by go_num, HAR.out.lat x⟩
        case measure => simp [intOf]; omega
      · clear ha
        go_wp2_with fail
        go_ret
        exact ⟨rfl, HAW.out.trans HAR.out⟩
end Go.Proofs.YticjnndhpfdajaaGreat
/- The law RolesAll, walked. -/
namespace Go.Proofs.YticjnndhpfdajaaGreat
open Go.RowKit Go.Deep
set_option maxRecDepth 100000
set_option linter.unusedVariables false
/-- a row of our own that is written over -/
def OverS (X wr : World) (v : Value) (n : Nat) : Prop := Aft X wr ∧ ∃ l : List ByteArray, l.length = n ∧ wr.ownsRow X.heap.size 9 1 v n (l.flatMap nameC)
theorem OverS.cell {X wr : World} {A : Option Addr} {n c k : Nat} (h : OverS X wr (.slice A n c) n) (hk : k < n) : ∃ g, A = some ⟨g, 0, none⟩ ∧ X.heap.size ≤ g ∧ g < wr.heap.size ∧ (∃ u, wr.cell? ⟨g, k, none⟩ = some u) ∧ wr.frozen? ⟨g, k, none⟩ = false ∧ ∀ s : ByteArray, OverS X (wr.setCell ⟨g, k, none⟩ (.string s)) (.slice A n c) n := by
  obtain ⟨a, l, hl, ho⟩ := h
  obtain ⟨g, cap, hv, hB, hnc, hr⟩ := own_rowAt ho (by omega)
  simp only [Value.slice.injEq, true_and] at hv
  obtain ⟨rfl, rfl⟩ := hv
  have hfl : (l.flatMap nameC).length = n * 1 := by rw [flatMap_len (size := 1) (fun _ => rfl), hl]
  refine ⟨g, rfl, hB, hr.1, ⟨_, by rw [hr.2.1 k (by rw [hfl]; omega), List.getElem?_eq_getElem (by rw [hfl]; omega)]⟩, hr.2.2 k (by rw [hfl]; omega), fun s => ⟨a.setCell _ _ hB, l.set k s, by rw [List.length_set]; exact hl, ?_⟩⟩
  have h1 := own_set ho (g := g) rfl (k * 1) (.string s)
  rw [← Nat.add_zero (k * 1), flatMap_set (f := nameC) (fun _ => rfl) l k 0 (by omega) (by decide) (.string s) s rfl, Nat.add_zero, Nat.mul_one] at h1
  exact h1
theorem OverS.aft {X wr wr' : World} {v : Value} {n : Nat} (h : OverS X wr v n) (a : Aft wr wr') : OverS X wr' v n := by
  obtain ⟨b, l, hl, ho⟩ := h
  exact ⟨b.trans a, l, hl, own_aft ho a⟩
end Go.Proofs.YticjnndhpfdajaaGreat
/- law08: told: two answers that are the same, and what was handed in is as it was; what came out is written over. -/
namespace Go.Proofs.YticjnndhpfdajaaGreat
open Go.RowKit Go.Deep
set_option maxRecDepth 100000
set_option linter.unusedVariables false
theorem RolIn.kb {P : Nat → Prop} {w w' : World} {B : Nat} {hn hm : Hd} {r : Rls} (h : RolIn w B hn hm r) (k : Kb P w w') (hp : ∀ g, g ∈ hn.blk ∨ g ∈ hm.blk → ¬ P g) : RolIn w' B hn hm r :=
  ⟨own_kb h.nam k fun g hg => hp g (.inl (Hd.mem_blk.2 hg)), own_kb h.mem k fun g hg => hp g (.inr (Hd.mem_blk.2 hg)), h.dis⟩
theorem RolIn.lt {w : World} {B : Nat} {hn hm : Hd} {r : Rls} (h : RolIn w B hn hm r) : ∀ g, g ∈ hn.blk ∨ g ∈ hm.blk → B ≤ g ∧ g < w.heap.size := fun g hg => by
  rcases hg with h1 | h1
  · exact h.nam.lt g (Hd.mem_blk.1 h1)
  · exact h.mem.lt g (Hd.mem_blk.1 h1)
end Go.Proofs.YticjnndhpfdajaaGreat
/- The document's Own and Same of catalogs. -/
namespace Go.Proofs.YticjnndhpfdajaaGreat
open Go.RowKit Go.Deep
set_option maxRecDepth 100000
set_option linter.unusedVariables false
/-- a catalog in memory of its own -/
structure CatIn (w : World) (B : Nat) (c : Cat) (hs ht hn hm hg : Hd) (L : List OTab) : Prop where
  obj : ObjIn w B hs ht c.objs.schemas L
  tbs : L.map OTab.t = c.objs.tables
  rol : RolIn w B hn hm c.rols
  gra : w.ownsRow B 67 6 hg.v c.grants.length (c.grants.flatMap graC)
  dis : ∀ g ∈ hs.blk ++ (ht.blk ++ L.flatMap OTab.blks), ¬ (g ∈ hn.blk ∨ g ∈ hm.blk) ∧ g ∉ hg.blk
  dis2 : ∀ g, g ∈ hn.blk ∨ g ∈ hm.blk → g ∉ hg.blk
def SmC (c : Cat) : Prop := SmO c.objs ∧ SmRl c.rols ∧ Small (c.grants.length * 16) ∧ ∀ g ∈ c.grants, SmG g
theorem CatAt.sm {w : World} {c : Cat} {As : Option Addr} {caps : Nat} {At : Option Addr} {capt : Nat} {An : Option Addr} {capn : Nat} {Am : Option Addr} {capm : Nat} {Ag : Option Addr} {capg : Nat} (h : CatAt w c As caps At capt An capn Am capm Ag capg) : SmC c :=
  ⟨⟨sm_schs h.sch, sm_tabs h.tab⟩, sm_rls h.nam h.mem, sm_mem h.gra fun _ _ h => h.2⟩
theorem CatIn.aft {w w' : World} {B : Nat} {c : Cat} {hs ht hn hm hg : Hd} {L : List OTab} (h : CatIn w B c hs ht hn hm hg L) (a : Aft w w') : CatIn w' B c hs ht hn hm hg L := ⟨h.obj.aft a, h.tbs, h.rol.aft a, own_aft h.gra a, h.dis, h.dis2⟩
theorem CatIn.at {w : World} {B : Nat} {c : Cat} {hs ht hn hm hg : Hd} {L : List OTab} (h : CatIn w B c hs ht hn hm hg L) (sm : SmC c) : CatAt w c hs.a hs.c ht.a ht.c hn.a hn.c hm.a hm.c hg.a hg.c := by
  have e1 : objOf c.objs.schemas L = c.objs := by unfold objOf; rw [h.tbs]
  have h1 := h.obj.schs (by rw [e1]; exact sm.1)
  have h2 := h.obj.tabs (by rw [e1]; exact sm.1)
  rw [h.tbs] at h2
  exact ⟨h1, h2, h.rol.names sm.2.1, h.rol.mbrs sm.2.1, own_slf graC h.gra (fun g hm => ⟨rfl, rfl, sm.2.2.2 g hm⟩) sm.2.2.1⟩
def CatV (c : Cat) (hs ht hn hm hg : Hd) : Value := .agg #[.int .i64 c.epoch, .int .i64 c.version, .slice hs.a c.objs.schemas.length hs.c, .slice ht.a c.objs.tables.length ht.c, .slice hn.a c.rols.names.length hn.c, .slice hm.a c.rols.members.length hm.c, .slice hg.a c.grants.length hg.c]
def OwnP9 (c : Cat) (w : World) (e : Ending) (w' : World) : Prop := ∃ hs ht hn hm hg L, e = .returned (CatV c hs ht hn hm hg) ∧ Aft w w' ∧ CatIn w' w.heap.size c hs ht hn hm hg L
set_option maxHeartbeats 16000000 in
theorem own9 (c : Cat) (As : Option Addr) (caps : Nat) (At : Option Addr) (capt : Nat) (An : Option Addr) (capn : Nat) (Am : Option Addr) (capm : Nat) (Ag : Option Addr) (capg : Nat) (w : World) (H : CatAt w c As caps At capt An capn Am capm Ag capg) (hmo : ModO c.objs) (hln : c.rols.names.length ≤ 1000000) (hlm : c.rols.members.length ≤ 1000000) (hlg : c.grants.length ≤ 1000000) :
    Calls Tryz.prog 34 #[.agg #[.int .i64 c.epoch, .int .i64 c.version, .slice As c.objs.schemas.length caps, .slice At c.objs.tables.length capt, .slice An c.rols.names.length capn, .slice Am c.rols.members.length capm, .slice Ag c.grants.length capg]] w (OwnP9 c w) := by
  obtain ⟨i1, hi, hz0, hz1, hz2⟩ := info_parts info2Gra
  have JI := Lib.hid hi
  have JZ := Lib.hid (And.intro hz0 (And.intro hz1 hz2))
  clear hi hz0 hz1 hz2
  have l1 : w.heap.size < w.heap.size + 1 := by omega
  have l2 : w.heap.size < w.heap.size + 1 + 1 := by omega
  obtain ⟨W, hW⟩ : ∃ W, W = (w.alloc (.cells #[.int .i64 c.epoch, .int .i64 c.version, .slice As c.objs.schemas.length caps, .slice At c.objs.tables.length capt, .slice An c.rols.names.length capn, .slice Am c.rols.members.length capm, .slice Ag c.grants.length capg] 59)).alloc (.cells #[.int .i64 0, .int .i64 0, .slice none 0 0, .slice none 0 0, .slice none 0 0, .slice none 0 0, .slice none 0 0] 59) := ⟨_, rfl⟩
  have aW : Aft w W := by rw [hW]; exact ((Aft.refl w).alloc _).alloc _
  have r0 : RowAt W (w.heap.size) [.int .i64 c.epoch, .int .i64 c.version, .slice As c.objs.schemas.length caps, .slice At c.objs.tables.length capt, .slice An c.rols.names.length capn, .slice Am c.rols.members.length capm, .slice Ag c.grants.length capg] := by rw [hW]; exact RowAt.up (box_at (Aft.refl _) (by simp))
  have r1 : RowAt W (w.heap.size + 1) [.int .i64 0, .int .i64 0, .slice none 0 0, .slice none 0 0, .slice none 0 0, .slice none 0 0, .slice none 0 0] := by rw [hW]; exact box_at (Aft.refl _) (by simp)
  have zW : W.heap.size = w.heap.size + 2 := by rw [hW]; simp
  have HC := Lib.hid (fun w' (a : Aft w w') => sl_cells H.gra (f := graC) (by decide) (fun _ _ h => h.1) a)
  have HN := Lib.hid (sl_none H.gra)
  have HR := Lib.hid (And.intro r0 r1)
  have HAW := Lib.hid aW
  have HZW := Lib.hid zW
  have HH := Lib.hid H
  have C1 := Lib.hid (rOwn_in c.objs As caps At capt W (schs_aft aW H.sch) (tabs_aft aW H.tab) hmo)
  have hq6 : c.grants.length ≤ maxLen := by unfold maxLen; omega
  have hq7 : c.grants.length * 80 ≤ 140737488355328 := by omega
  have x2 := r0.cell (j := 2) rfl
  have x3 := r0.cell (j := 3) rfl
  have xz := r0.1
  clear H r0 r1 aW
  go_enter Tryz.func34, Tryz.ntmps34
  go_wp2_with fail
  rw [← hW]
  go_wp2_with fail
  clear x2 x3 xz
  refine C1.out.mono ?_
  rintro e w1 ⟨hs, ht, L, hL, rfl, a1, ob⟩
  obtain ⟨hsa, hsn, hsc⟩ := hs
  obtain ⟨hta, htn, htc⟩ := ht
  simp only []
  have p0 := HR.out.1.aft a1
  have p1 := HR.out.2.aft a1
  have xz := p0.1
  have x2 := p0.cell (j := 2) rfl
  have x3 := p0.cell (j := 3) rfl
  have f2 := p0.2.2 2 (by simp)
  have f3 := p0.2.2 3 (by simp)
  obtain ⟨X, hX⟩ : ∃ V, V = (w1.setCell ⟨w.heap.size, 2, none⟩ (.slice hsa c.objs.schemas.length hsc)).setCell ⟨w.heap.size, 3, none⟩ (.slice hta c.objs.tables.length htc) := ⟨_, rfl⟩
  have kX : Kb (fun g => g = w.heap.size) w1 X := by rw [hX]; exact (Kb.set _ _ _ _).trans (Kb.set _ _ _ _)
  have RX := Lib.hid (show RowAt X (w.heap.size) [.int .i64 c.epoch, .int .i64 c.version, .slice hsa c.objs.schemas.length hsc, .slice hta c.objs.tables.length htc, .slice An c.rols.names.length capn, .slice Am c.rols.members.length capm, .slice Ag c.grants.length capg] by rw [hX]; exact (p0.set 2 _ (by simp)).set 3 _ (by simp))
  have RY := Lib.hid (kX.row p1 (by omega))
  have HAX := Lib.hid (kX.to_aft (HAW.out.trans a1) (fun g hg e => by omega))
  have obl := ob.lt
  have OB := Lib.hid (ob.kb kX (fun g hg e => by have := (obl g hg).1; have := HZW.out; omega))
  have OL := Lib.hid (show ∀ g ∈ (Hd.mk hsa hsn hsc).blk ++ ((Hd.mk hta htn htc).blk ++ L.flatMap OTab.blks), w.heap.size + 2 ≤ g ∧ g < X.heap.size from fun g hg => by have := obl g hg; have := HZW.out; rw [hX]; simp; omega)
  have C2 := Lib.hid (own8w c.rols An capn Am capm X (strs_aft HAX.out HH.out.nam) (mbrs_aft HAX.out HH.out.mem) hln hlm)
  have q0 := RX.out
  have y4 := q0.cell (j := 4) rfl
  have y5 := q0.cell (j := 5) rfl
  have yz := q0.1
  have HL := Lib.hid hL
  rw [hX] at y4 y5 yz
  clear a1 ob p0 p1 kX obl hL q0
  go_wp2_with fail
  rw [← hX]
  clear hX x2 x3 f2 f3 xz y4 y5 yz
  refine C2.out.mono ?_
  rintro e w2 ⟨hn, hm, rfl, a2, rin⟩
  rw [rin.vn, rin.vm]
  have RIN := Lib.hid rin
  obtain ⟨hna, hnn, hnc⟩ := hn
  obtain ⟨hma, hmn, hmc⟩ := hm
  simp only []
  have p0 := RX.out.aft a2
  have p1 := RY.out.aft a2
  have xz := p0.1
  have x4 := p0.cell (j := 4) rfl
  have x5 := p0.cell (j := 5) rfl
  have f4 := p0.2.2 4 (by simp)
  have f5 := p0.2.2 5 (by simp)
  have ral := rin.lt
  have s2 := a2.size
  obtain ⟨Y, hY⟩ : ∃ V, V = (w2.setCell ⟨w.heap.size, 4, none⟩ (.slice hna c.rols.names.length hnc)).setCell ⟨w.heap.size, 5, none⟩ (.slice hma c.rols.members.length hmc) := ⟨_, rfl⟩
  have kY : Kb (fun g => g = w.heap.size) w2 Y := by rw [hY]; exact (Kb.set _ _ _ _).trans (Kb.set _ _ _ _)
  have SY : Y.heap.size = w2.heap.size := by rw [hY]; simp
  have QX := Lib.hid (show RowAt Y (w.heap.size) [.int .i64 c.epoch, .int .i64 c.version, .slice hsa c.objs.schemas.length hsc, .slice hta c.objs.tables.length htc, .slice hna c.rols.names.length hnc, .slice hma c.rols.members.length hmc, .slice Ag c.grants.length capg] by rw [hY]; exact (p0.set 4 _ (by simp)).set 5 _ (by simp))
  have QY := Lib.hid (kY.row p1 (by omega))
  have HAY := Lib.hid (kY.to_aft (HAX.out.trans a2) (fun g hg e => by omega))
  have OBY := Lib.hid ((OB.out.aft a2).kb kY (fun g hg e => by have := (OL.out g hg).1; omega))
  have sX : w.heap.size + 2 ≤ X.heap.size := by have := HZW.out; have := RY.out.1; omega
  have RNY := Lib.hid (rin.kb kY (fun g hg e => by have := (ral g hg).1; omega))
  have RL := Lib.hid (show ∀ g, g ∈ (Hd.mk hna hnn hnc).blk ∨ g ∈ (Hd.mk hma hmn hmc).blk → X.heap.size ≤ g ∧ g < Y.heap.size from fun g hg => by have := ral g hg; rw [SY]; exact this)
  have SXY : X.heap.size ≤ Y.heap.size := by rw [SY]; exact s2
  have SH := Lib.hid (And.intro sX SXY)
  have HCY := Lib.hid (HC.out Y HAY.out)
  have q0 := QX.out
  have y6 := q0.cell (j := 6) rfl
  have yf := q0.2.2 6 (by simp)
  have yz := q0.1
  rw [hY] at y6 yf yz
  clear a2 rin p0 p1 kY ral s2 SY q0 sX SXY
  go_wp2_with (first
    | (at_builtin; (refine wpList_append_new _ rfl _ _ 57 rfl 67 i1 _ 6 80 Tryz.underlying57 JI.out JZ.out.1 JZ.out.2.1 JZ.out.2.2 rfl (by decide) rfl Ag c.grants.length capg (c.grants.flatMap graC) rfl (flatMap_len (f := graC) (size := 6) (fun _ => rfl) _) HN.out ?qc (oneC_cells oneC_gra _) hq6 hq7 ?_); rotate_left; intro Ad cd w3 own3 a3; have a3 : Aft Y w3 := (by rw [hY]; exact a3); have own3 : w3.ownsRow Y.heap.size 67 6 (Hd.mk Ad c.grants.length cd).v c.grants.length (c.grants.flatMap graC) := (by rw [hY]; exact own3); have HA3 := Lib.hid a3; have HO3 := Lib.hid own3; have p0 := QX.out.aft a3; have z0 := p0.cell (j := 0) rfl; have z1 := p0.cell (j := 1) rfl; have z2 := p0.cell (j := 2) rfl; have z3 := p0.cell (j := 3) rfl; have z4 := p0.cell (j := 4) rfl; have z5 := p0.cell (j := 5) rfl; have z6 := p0.cell (j := 6) rfl; have zf := p0.2.2 6 (by simp); have zz := p0.1; have p1 := QY.out.aft a3; have u0 := p1.cell (j := 0) rfl; have u1 := p1.cell (j := 1) rfl; have u2 := p1.cell (j := 2) rfl; have u3 := p1.cell (j := 3) rfl; have u4 := p1.cell (j := 4) rfl; have u5 := p1.cell (j := 5) rfl; have u6 := p1.cell (j := 6) rfl; have v0 := p1.2.2 0 (by simp); have v1 := p1.2.2 1 (by simp); have v2 := p1.2.2 2 (by simp); have v3 := p1.2.2 3 (by simp); have v4 := p1.2.2 4 (by simp); have v5 := p1.2.2 5 (by simp); have v6 := p1.2.2 6 (by simp); have vz := p1.1; have ne : w.heap.size + 1 ≠ w.heap.size := (by omega); clear own3 a3 p0 p1 y6 yf yz))
  case qc => rw [← hY]; exact HCY.out
  (try simp only [Exit.inBlock, Exit.then])
  have k3 := Kb.set w3 (w.heap.size) 6 (.slice Ad c.grants.length cd)
  have q1 := k3.row (QY.out.aft HA3.out) (by omega)
  have k4 := setC_kb (w3.setCell ⟨w.heap.size, 6, none⟩ (.slice Ad c.grants.length cd)) (w.heap.size + 1) (.int .i64 c.epoch) (.int .i64 c.version) (.slice hsa c.objs.schemas.length hsc) (.slice hta c.objs.tables.length htc) (.slice hna c.rols.names.length hnc) (.slice hma c.rols.members.length hmc) (.slice Ad c.grants.length cd)
  refine bodyPost_ret (results_cell (v := .agg #[.int .i64 c.epoch, .int .i64 c.version, .slice hsa c.objs.schemas.length hsc, .slice hta c.objs.tables.length htc, .slice hna c.rols.names.length hnc, .slice hma c.rols.members.length hmc, .slice Ad c.grants.length cd]) rfl _ rfl (lvCat_row (setC_row q1 rfl _ _ _ _ _ _ _))) rfl ?_
  have g3 : ∀ g, (Hd.mk Ad c.grants.length cd).v.ownBlock = some g → Y.heap.size ≤ g := fun g hg => (HO3.out.lt g hg).1
  obtain ⟨sX, SXY⟩ := SH.out
  refine ⟨⟨hsa, hsn, hsc⟩, ⟨hta, htn, htc⟩, ⟨hna, hnn, hnc⟩, ⟨hma, hmn, hmc⟩, ⟨Ad, c.grants.length, cd⟩, L, rfl, k4.to_aft (k3.to_aft (HAY.out.trans HA3.out) (fun g hg e => by omega)) (fun g hg e => by omega), ⟨?_, HL.out, ?_, ?_, ?_, ?_⟩⟩
  · refine ObjIn.down (((OBY.out.aft HA3.out).kb k3 (fun g hg e => ?_)).kb k4 (fun g hg e => ?_)) (B := W.heap.size) (by have := HZW.out; omega)
    · have := (OL.out g hg).1; omega
    · have := (OL.out g hg).1; omega
  · refine RolIn.down (((RNY.out.aft HA3.out).kb k3 (fun g hg e => ?_)).kb k4 (fun g hg e => ?_)) (by omega)
    · have := (RL.out g hg).1; omega
    · have := (RL.out g hg).1; omega
  · refine own_down (B := Y.heap.size) (own_kb (own_kb HO3.out k3 ?_) k4 ?_) (by omega)
    all_goals
      intro g hg e
      have := g3 g hg
      have e : g = _ := e
      omega
  · intro g hg
    have h1 := OL.out g hg
    exact ⟨fun h2 => by have := (RL.out g h2).1; omega, fun h2 => by have := g3 g (Hd.mem_blk.1 h2); omega⟩
  · intro g hg h2
    have h1 := RL.out g hg
    have := g3 g (Hd.mem_blk.1 h2)
    omega
set_option maxHeartbeats 16000000 in
theorem same9 (c : Cat) (As : Option Addr) (caps : Nat) (At : Option Addr) (capt : Nat) (An : Option Addr) (capn : Nat) (Am : Option Addr) (capm : Nat) (Ag : Option Addr) (capg : Nat) (Bs : Option Addr) (bcs : Nat) (Bt : Option Addr) (bct : Nat) (Bn : Option Addr) (bcn : Nat) (Bm : Option Addr) (bcm : Nat) (Bg : Option Addr) (bcg : Nat) (w : World) (H : CatAt w c As caps At capt An capn Am capm Ag capg) (K : CatAt w c Bs bcs Bt bct Bn bcn Bm bcm Bg bcg) :
    Calls Tryz.prog 41 #[.agg #[.int .i64 c.epoch, .int .i64 c.version, .slice As c.objs.schemas.length caps, .slice At c.objs.tables.length capt, .slice An c.rols.names.length capn, .slice Am c.rols.members.length capm, .slice Ag c.grants.length capg], .agg #[.int .i64 c.epoch, .int .i64 c.version, .slice Bs c.objs.schemas.length bcs, .slice Bt c.objs.tables.length bct, .slice Bn c.rols.names.length bcn, .slice Bm c.rols.members.length bcm, .slice Bg c.grants.length bcg]] w fun e w' => e = .returned (.bool true) ∧ Aft w w' := by
  have l1 : w.heap.size < w.heap.size + 1 := by omega
  have l2 : w.heap.size < w.heap.size + 1 + 1 := by omega
  obtain ⟨W, hW⟩ : ∃ W, W = (w.alloc (.cells #[.int .i64 c.epoch, .int .i64 c.version, .slice As c.objs.schemas.length caps, .slice At c.objs.tables.length capt, .slice An c.rols.names.length capn, .slice Am c.rols.members.length capm, .slice Ag c.grants.length capg] 59)).alloc (.cells #[.int .i64 c.epoch, .int .i64 c.version, .slice Bs c.objs.schemas.length bcs, .slice Bt c.objs.tables.length bct, .slice Bn c.rols.names.length bcn, .slice Bm c.rols.members.length bcm, .slice Bg c.grants.length bcg] 59) := ⟨_, rfl⟩
  have aW : Aft w W := by rw [hW]; exact ((Aft.refl w).alloc _).alloc _
  have r0 : RowAt W (w.heap.size) [.int .i64 c.epoch, .int .i64 c.version, .slice As c.objs.schemas.length caps, .slice At c.objs.tables.length capt, .slice An c.rols.names.length capn, .slice Am c.rols.members.length capm, .slice Ag c.grants.length capg] := by rw [hW]; exact RowAt.up (box_at (Aft.refl _) (by simp))
  have r1 : RowAt W (w.heap.size + 1) [.int .i64 c.epoch, .int .i64 c.version, .slice Bs c.objs.schemas.length bcs, .slice Bt c.objs.tables.length bct, .slice Bn c.rols.names.length bcn, .slice Bm c.rols.members.length bcm, .slice Bg c.grants.length bcg] := by rw [hW]; exact box_at (Aft.refl _) (by simp)
  have HR := Lib.hid (And.intro r0 r1)
  have HAW := Lib.hid aW
  have C1 := Lib.hid (sameO_any c.objs As caps At capt Bs bcs Bt bct W (schs_aft aW H.sch) (tabs_aft aW H.tab) (schs_aft aW K.sch) (tabs_aft aW K.tab))
  have C2 := Lib.hid (show ∀ V, Aft W V → _ from fun V a => same8 c.rols An capn Am capm Bn bcn Bm bcm V (strs_aft (aW.trans a) H.nam) (mbrs_aft (aW.trans a) H.mem) (strs_aft (aW.trans a) K.nam) (mbrs_aft (aW.trans a) K.mem))
  have C3 := Lib.hid (show ∀ V, Aft W V → _ from fun V a => (eqGs_iff c.grants c.grants).2 rfl ▸ rgrants c.grants c.grants Ag capg Bg bcg V (gras_aft (aW.trans a) H.gra) (gras_aft (aW.trans a) K.gra))
  have x0 := r0.cell (j := 0) rfl
  have x1 := r0.cell (j := 1) rfl
  have x2 := r0.cell (j := 2) rfl
  have x3 := r0.cell (j := 3) rfl
  have x4 := r0.cell (j := 4) rfl
  have x5 := r0.cell (j := 5) rfl
  have x6 := r0.cell (j := 6) rfl
  have xz := r0.1
  have y0 := r1.cell (j := 0) rfl
  have y1 := r1.cell (j := 1) rfl
  have y2 := r1.cell (j := 2) rfl
  have y3 := r1.cell (j := 3) rfl
  have y4 := r1.cell (j := 4) rfl
  have y5 := r1.cell (j := 5) rfl
  have y6 := r1.cell (j := 6) rfl
  have yz := r1.1
  clear H K r0 r1 aW
  go_enter Tryz.func41, Tryz.ntmps41
  go_wp2_with fail
  rw [← hW]
  clear hW
  go_wp2_with fail
  refine C1.out.mono ?_
  rintro e w1 ⟨rfl, a1⟩
  have A1 := Lib.hid a1
  have p0 := HR.out.1.aft a1
  have p1 := HR.out.2.aft a1
  clear a1 x0 x1 x2 x3 x4 x5 x6 xz y0 y1 y2 y3 y4 y5 y6 yz
  have x0 := p0.cell (j := 0) rfl
  have x1 := p0.cell (j := 1) rfl
  have x2 := p0.cell (j := 2) rfl
  have x3 := p0.cell (j := 3) rfl
  have x4 := p0.cell (j := 4) rfl
  have x5 := p0.cell (j := 5) rfl
  have x6 := p0.cell (j := 6) rfl
  have xz := p0.1
  have y0 := p1.cell (j := 0) rfl
  have y1 := p1.cell (j := 1) rfl
  have y2 := p1.cell (j := 2) rfl
  have y3 := p1.cell (j := 3) rfl
  have y4 := p1.cell (j := 4) rfl
  have y5 := p1.cell (j := 5) rfl
  have y6 := p1.cell (j := 6) rfl
  have yz := p1.1
  clear p0 p1
  go_wp2_with fail
  refine (C2.out w1 A1.out).mono ?_
  rintro e w2 ⟨rfl, a2⟩
  have A2 := Lib.hid (A1.out.trans a2)
  have p0 := HR.out.1.aft A2.out
  have p1 := HR.out.2.aft A2.out
  clear a2 x0 x1 x2 x3 x4 x5 x6 xz y0 y1 y2 y3 y4 y5 y6 yz
  have x0 := p0.cell (j := 0) rfl
  have x1 := p0.cell (j := 1) rfl
  have x2 := p0.cell (j := 2) rfl
  have x3 := p0.cell (j := 3) rfl
  have x4 := p0.cell (j := 4) rfl
  have x5 := p0.cell (j := 5) rfl
  have x6 := p0.cell (j := 6) rfl
  have xz := p0.1
  have y0 := p1.cell (j := 0) rfl
  have y1 := p1.cell (j := 1) rfl
  have y2 := p1.cell (j := 2) rfl
  have y3 := p1.cell (j := 3) rfl
  have y4 := p1.cell (j := 4) rfl
  have y5 := p1.cell (j := 5) rfl
  have y6 := p1.cell (j := 6) rfl
  have yz := p1.1
  clear p0 p1
  go_wp2_with fail
  refine (C3.out w2 A2.out).mono ?_
  rintro e w3 ⟨rfl, a3⟩
  have A3 := Lib.hid (HAW.out.trans (A2.out.trans a3))
  clear a3
  go_wp2_with fail
  go_ret
  exact ⟨rfl, A3.out⟩
end Go.Proofs.YticjnndhpfdajaaGreat
